/-
  The cache whose keys are arrays and whose values are texts: as CacheF.
-/
import Derived.Test.YtbbkpngcichdcaaSecE
namespace Go.V
open Go.Proofs
set_option maxRecDepth 100000
namespace S
section
variable {w : World} {cb mb : Nat} {cl kp xs : List Nd} {room hits misses gone : Nat}

theorem fill_list : ∀ (vs : List Value) (i o : Nat) (cs : Array Value), (vs.zipIdx i).foldl (fun cs (x : Value × Nat) => cs.setIfInBounds (o + x.2) x.1) cs = storeL vs (o + i) cs
  | [], _, _, _ => rfl
  | v :: vs, i, o, cs => by
    rw [List.zipIdx_cons, List.foldl_cons, fill_list vs (i + 1) o, storeL, Nat.add_assoc]
theorem fill_one {place : Nat → Option (Nat × Nat)} {cells : Array Value} {i off size : Nat} {v : Value} (hp : place i = some (off, size)) (hs : v.cells.size = size) (hl : off + size ≤ cells.size) :
    Instr.fill place cells [(i, v)] = some (storeL v.cells.toList off cells) := by
  unfold Instr.fill
  rw [hp]
  simp only [hs, ne_eq, not_true_eq_false, decide_false, Bool.false_or, decide_eq_true_eq]
  rw [if_neg (by omega)]
  unfold Instr.fill
  congr 1
  rw [← Array.foldl_toList, Array.toList_zipIdx]
  exact fill_list v.cells.toList 0 off cells
theorem bld83 (k : Int) : bldO Try.prog 83 [(0, kV k)] = some (.agg (entA k)) := by
  unfold bldO
  rw [Try.zero83, Try.places83]
  simp only [Option.bind_some]
  rw [fill_one (v := kV k) (off := 0) (size := 32) rfl (keyA_size k) (by simp [Value.cells])]
  simp only [Option.map_some, agg_cells, Option.some.injEq, Value.agg.injEq]
  apply Array.toList_inj.1
  rw [storeL_list _ _ _ (by simp [keyA_size])]
  simp only [Array.length_toList, keyA_size, entA, Array.toList_append]
  rfl
theorem foot_sub {ns ms : List Nd} (h : ∀ n ∈ ns, ∃ m ∈ ms, m.b = n.b) {b : Nat} (hb : foot cb mb ns b) : foot cb mb ms b := by
  rcases hb with hb | hb | ⟨n, hn, hb⟩
  · exact .inl hb
  · exact .inr (.inl hb)
  · obtain ⟨m, hm, hmn⟩ := h n hn
    exact .inr (.inr ⟨m, hm, hb.trans hmn.symm⟩)
theorem sv_none {b : Nat} {v : Int} {l : List Nd} (h : ∀ n ∈ l, n.b ≠ b) : l.map (Nd.sv b v) = l := by
  conv => rhs; rw [← List.map_id l]
  apply List.map_congr_left; intro m hm; simp [Nd.sv, h m hm]
theorem sh_none {b : Nat} {v : Bool} {l : List Nd} (h : ∀ n ∈ l, n.b ≠ b) : l.map (Nd.sh b v) = l := by
  conv => rhs; rw [← List.map_id l]
  apply List.map_congr_left; intro m hm; simp [Nd.sh, h m hm]
theorem Core.all_ne (h : Core w cb mb cl kp xs room hits misses gone) {n : Nd} {l1 l2 : List Nd} (he : cl ++ kp ++ xs = l1 ++ n :: l2) : (∀ m ∈ l1, m.b ≠ n.b) ∧ ∀ m ∈ l2, m.b ≠ n.b := by
  have hnd := h.nodup
  rw [he] at hnd
  simp only [List.nodup_cons, List.map_append, List.map_cons] at hnd
  have h1 := List.nodup_append.1 hnd.2.2
  refine ⟨fun m hm => h1.2.2 _ (List.mem_map.2 ⟨m, hm, rfl⟩) _ (by simp), fun m hm e => (List.nodup_cons.1 h1.2.1).1 (e ▸ List.mem_map.2 ⟨m, hm, rfl⟩)⟩

theorem put_kept {n : Nd} {a b : List Nd} (h : Core w cb mb cl (a ++ n :: b) [] room hits misses gone) (hh : n.h = true) (v : Int) (hg : gone + cl.length < 4611686018427387904) (hr : room < 4611686018427387904) :
    Fn Try.prog 51 #[ptr (cb, 0), kV n.k, wV v] w fun x w' => x = .tuple #[] ∧
      Core w' cb mb (cl.drop (cl.length - room)) (a ++ { n with v := v } :: b) [] room hits misses (gone + (cl.length - room)) ∧ Fr (foot cb mb (cl ++ (a ++ n :: b) ++ [])) w w' := by
  have hn : n ∈ cl ++ (a ++ n :: b) ++ [] := by simp
  refine Try.go51 (by simp) ?_
  obtain ⟨w0, hw0, h, f0, b1, b2, b3⟩ := h.box n.k
  have a1 : rdO Try.prog 80 w0.drew cb 1 = some _ := rd_cv Try.agg80 h.found
  have a2 := h.look_some hn
  have e := h.ents n hn
  have a3 : rdO Try.prog 4 w0.drew n.b 33 = some _ := rd_cv Try.agg4 e.held
  rw [hh] at a3
  have a4 := wr_cv (P := Try.prog) (t := 9) (v := wV v) Try.sz9 rfl e.val
  simp -implicitDefEqProofs only [go_sem, Nat.reduceEqDiff, Try.f51, hw0, b1, a1, a2, a3, a4, Bool.not_true]
  have h1 := h.setv hn v
  obtain ⟨q1, q2⟩ := h.all_ne (n := n) (l1 := cl ++ a) (l2 := b) (by simp)
  have e1 : cl.map (Nd.sv n.b v) = cl := sv_none fun m hm => q1 m (by simp [hm])
  have e2 : (a ++ n :: b).map (Nd.sv n.b v) = a ++ { n with v := v } :: b := by
    rw [List.map_append, List.map_cons, sv_none fun m hm => q1 m (by simp [hm]), sv_none fun m hm => q2 m hm]
    simp [Nd.sv]
  rw [e1, e2, List.map_nil] at h1
  refine contL_call Try.pl61 ((trim h1 hg hr).mono ?_)
  rintro _ w2 ⟨rfl, h2, f2⟩
  simp -implicitDefEqProofs only [go_sem]
  have f1 : Fr (foot cb mb (cl ++ (a ++ n :: b) ++ [])) w (setc w0.drew n.b 32 (wV v)) := f0.setc _ _ fun _ => .inr (.inr ⟨n, hn, rfl⟩)
  refine ⟨trivial, h2, f1.trans' f2 fun b' _ hb => foot_sub (fun m hm => ?_) hb⟩
  simp only [List.append_nil, List.mem_append, List.mem_cons] at hm ⊢
  rcases hm with hm | hm | rfl | hm
  · exact ⟨m, .inl hm, rfl⟩
  · exact ⟨m, .inr (.inl hm), rfl⟩
  · exact ⟨n, .inr (.inr (.inl rfl)), rfl⟩
  · exact ⟨m, .inr (.inr (.inr hm)), rfl⟩

theorem put_clean {n : Nd} {a b : List Nd} (h : Core w cb mb (a ++ n :: b) kp [] room hits misses gone) (hh : n.h = false) (v : Int) (hg : gone + (a ++ n :: b).length < 4611686018427387904) (hr : room < 4611686018427387904) :
    Fn Try.prog 51 #[ptr (cb, 0), kV n.k, wV v] w fun x w' => x = .tuple #[] ∧
      Core w' cb mb ((a ++ b ++ [{ n with v := v }]).drop ((a ++ n :: b).length - room)) kp [] room hits misses (gone + ((a ++ n :: b).length - room)) ∧ Fr (foot cb mb (a ++ n :: b ++ kp ++ [])) w w' := by
  have hn : n ∈ a ++ n :: b ++ kp ++ [] := by simp
  refine Try.go51 (by simp) ?_
  obtain ⟨w0, hw0, h, f0, b1, b2, b3⟩ := h.box n.k
  have a1 : rdO Try.prog 80 w0.drew cb 1 = some _ := rd_cv Try.agg80 h.found
  have a2 := h.look_some hn
  have e := h.ents n hn
  have a3 : rdO Try.prog 4 w0.drew n.b 33 = some _ := rd_cv Try.agg4 e.held
  rw [hh] at a3
  simp -implicitDefEqProofs only [go_sem, Nat.reduceEqDiff, Try.f51, hw0, b1, a1, a2, a3, Bool.not_false]
  refine contL_call Try.pl49 ((dropC h (by omega)).mono ?_)
  rintro _ w2 ⟨rfl, h2, f2⟩
  simp -implicitDefEqProofs only [go_sem, Nat.reduceEqDiff]
  refine contL_call Try.pl48 ((lastC h2 (by simp at hg ⊢; omega)).mono ?_)
  rintro _ w3 ⟨rfl, h3, f3⟩
  have hn3 : n ∈ a ++ b ++ [n] ++ kp ++ [] := by simp
  have a4 := wr_cv (P := Try.prog) (t := 9) (v := wV v) Try.sz9 rfl (h3.ents n hn3).val
  simp -implicitDefEqProofs only [go_sem, Nat.reduceEqDiff, a4]
  have h4 := h3.setv hn3 v
  obtain ⟨q1, q2⟩ := h3.all_ne (n := n) (l1 := a ++ b) (l2 := kp) (by simp)
  have e1 : (a ++ b ++ [n]).map (Nd.sv n.b v) = a ++ b ++ [{ n with v := v }] := by
    rw [List.map_append, sv_none q1]; simp [Nd.sv]
  rw [e1, sv_none q2, List.map_nil] at h4
  have hlen : (a ++ b ++ [{ n with v := v }]).length = (a ++ n :: b).length := by simp
  refine contL_call Try.pl61 ((trim h4 (by rw [hlen]; exact hg) hr).mono ?_)
  rintro _ w5 ⟨rfl, h5, f5⟩
  rw [hlen] at h5
  simp -implicitDefEqProofs only [go_sem]
  refine ⟨trivial, h5, ?_⟩
  have f3' : Fr (foot cb mb (a ++ n :: b ++ kp ++ [])) w w3 := by
    refine (Fr.trans' f0 f2 fun b' _ hb => foot_sub (fun m hm => ⟨m, by simp only [List.mem_append] at hm ⊢; exact .inl (.inl hm), rfl⟩) hb).trans' f3 fun b' _ hb => foot_sub (fun m hm => ⟨m, ?_, rfl⟩) hb
    simp only [List.mem_append, List.mem_cons, List.not_mem_nil, or_false] at hm ⊢
    rcases hm with (hm | hm) | hm
    · exact .inl (.inl hm)
    · exact .inl (.inr (.inr hm))
    · exact .inl (.inr (.inl hm))
  refine (f3'.setc _ _ fun _ => .inr (.inr ⟨n, hn, rfl⟩)).trans' f5 fun b' _ hb => foot_sub (fun m hm => ?_) hb
  simp only [List.append_nil, List.mem_append, List.mem_cons, List.not_mem_nil, or_false] at hm ⊢
  rcases hm with ((hm | hm) | rfl) | hm
  · exact ⟨m, .inl (.inl hm), rfl⟩
  · exact ⟨m, .inl (.inr (.inr hm)), rfl⟩
  · exact ⟨n, .inl (.inr (.inl rfl)), rfl⟩
  · exact ⟨m, .inr hm, rfl⟩

theorem put_new (h : Core w cb mb cl kp [] room hits misses gone) {k : Int} (hr' : InR k) (hk : ∀ n ∈ cl ++ kp ++ [], n.k ≠ k) (v : Int) (hg : gone + (cl.length + 1) < 4611686018427387904) (hr : room < 4611686018427387904) :
    Fn Try.prog 51 #[ptr (cb, 0), kV k, wV v] w fun x w' => x = .tuple #[] ∧
      Core w' cb mb ((cl ++ [(⟨w.heap.size + 1, k, v, false⟩ : Nd)]).drop (cl.length + 1 - room)) kp [] room hits misses (gone + (cl.length + 1 - room)) ∧ Fr (foot cb mb (cl ++ kp ++ [])) w w' := by
  refine Try.go51 (by simp) ?_
  obtain ⟨w0, hw0, h, f0, b1, b2, b3⟩ := h.box k
  have a1 : rdO Try.prog 80 w0.drew cb 1 = some _ := rd_cv Try.agg80 h.found
  have a2 := h.look_none hr' hk
  obtain ⟨ob, hob, h1⟩ := h.fresh hr' hk
  have f1 := f0.alloc (.cells (entA k) 83)
  have b4 : (w0.drew.alloc (.cells (entA k) 83)).heap[w.heap.size]? = some (.cells (keyA k) 52) := (alloc_blk_old _ _ (by rw [drew_heap, b2]; omega)).trans b3
  have hs1 : (w0.drew.alloc (.cells (entA k) 83)).heap.size = w.heap.size + 2 := by rw [alloc_heap_size, drew_heap, b2]
  have hal : Core (w0.drew.alloc (.cells (entA k) 83)) cb mb cl kp [] room hits misses gone :=
    h.frame fun b hb => alloc_blk_old _ _ (h.foot_lt hb)
  rw [show w0.drew.heap.size = w.heap.size + 1 from b2] at hob h1
  generalize hW1 : w0.drew.alloc (.cells (entA k) 83) = W1 at *
  have h1d : Core (put W1.drew mb ob) cb mb cl kp [⟨w.heap.size + 1, k, noV, false⟩] room hits misses gone := h1.frame fun _ _ => rfl
  clear h1
  have h1 := h1d
  have b5 : rdO Try.prog 52 W1.drew w.heap.size 0 = some (kV k) := rd_all Try.agg52 (by rw [keyA_size]; exact Try.sz52) b4
  have a3 : rdO Try.prog 80 W1.drew cb 1 = some _ := rd_cv Try.agg80 hal.found
  simp -implicitDefEqProofs only [go_sem, Nat.reduceEqDiff, Try.f51, hw0, b1, a1, a2, a3, b5, b2, hW1, bld83, hob]
  have fr0 : Fr (foot cb mb (cl ++ kp ++ [])) w (put W1.drew mb ob) := (f1.drew).put _ fun _ => .inr (.inl rfl)
  generalize hN : (⟨w.heap.size + 1, k, noV, false⟩ : Nd) = N at *
  have hNb : N.b = w.heap.size + 1 := by rw [← hN]
  have hNk : N.k = k := by rw [← hN]
  have hNh : N.h = false := by rw [← hN]
  have c1 := lastC h1 (by omega)
  rw [show N.at = (w.heap.size + 1, 0) by rw [← hNb]] at c1
  refine contL_call Try.pl48 (c1.mono ?_)
  rintro _ w3 ⟨rfl, h3, f3⟩
  have hn3 : N ∈ cl ++ [N] ++ kp ++ [] := by simp
  have a4 := wr_cv (P := Try.prog) (t := 9) (v := wV v) Try.sz9 rfl (h3.ents N hn3).val
  rw [hNb] at a4
  simp -implicitDefEqProofs only [go_sem, Nat.reduceEqDiff, a4]
  have h4 := h3.setv hn3 v
  obtain ⟨q1, q2⟩ := h3.all_ne (n := N) (l1 := cl) (l2 := kp) (by simp)
  have e1 : (cl ++ [N]).map (Nd.sv N.b v) = cl ++ [⟨w.heap.size + 1, k, v, false⟩] := by
    rw [List.map_append, sv_none q1, ← hN]; simp [Nd.sv]
  rw [e1, sv_none q2, List.map_nil, hNb] at h4
  have hlen : (cl ++ [(⟨w.heap.size + 1, k, v, false⟩ : Nd)]).length = cl.length + 1 := by simp
  refine contL_call Try.pl61 ((trim h4 (by rw [hlen]; exact hg) hr).mono ?_)
  rintro _ w5 ⟨rfl, h5, f5⟩
  rw [hlen] at h5
  simp -implicitDefEqProofs only [go_sem]
  refine ⟨trivial, h5, ?_⟩
  have new_ne : ∀ b', b' < w.heap.size → b' ≠ N.b := fun b' hb => by rw [hNb]; omega
  refine (((fr0.trans' f3 fun b' hb' hb => ?_).setc (b := w.heap.size + 1) _ _ fun hlt => absurd hlt (by omega))).trans' f5 fun b' hb' hb => ?_
  · rcases hb with hb | hb | ⟨m, hm, hb⟩
    · exact .inl hb
    · exact .inr (.inl hb)
    · rcases List.mem_append.1 hm with hm | hm
      · exact .inr (.inr ⟨m, by simp [hm], hb⟩)
      · simp only [List.mem_singleton] at hm; subst hm; exact absurd hb (new_ne b' hb')
  · rcases hb with hb | hb | ⟨m, hm, hb⟩
    · exact .inl hb
    · exact .inr (.inl hb)
    · simp only [List.append_nil, List.mem_append, List.mem_cons, List.not_mem_nil, or_false] at hm
      rcases hm with (hm | rfl) | hm
      · exact .inr (.inr ⟨m, by simp [hm], hb⟩)
      · simp only at hb; omega
      · exact .inr (.inr ⟨m, by simp [hm], hb⟩)
end
end S
end Go.V
