/-
  The calls of a cache of ints: Put, Hold.
-/
import Derived.Test.YtbbkpngcichdcaaCacheE
namespace Go.V
open Go.Proofs
set_option maxRecDepth 100000
namespace I
section
variable {w : World} {cb mb : Nat} {cl kp xs : List Nd} {room hits misses gone : Nat}

theorem bld66 (k : Int) : bldO Try.prog 66 [(0, .int .i64 k)] = some (.agg #[.int .i64 k, .int .i64 0, .bool false, .pointer none, .pointer none]) := by
  unfold bldO
  rw [Try.zero66, Try.places66]
  rfl
theorem foot_sub {ns ms : List Nd} (h : ∀ n ∈ ns, ∃ m ∈ ms, m.b = n.b) {b : Nat} (hb : foot cb mb ns b) : foot cb mb ms b := by
  rcases hb with hb | hb | ⟨n, hn, hb⟩
  · exact .inl hb
  · exact .inr (.inl hb)
  · obtain ⟨m, hm, hmn⟩ := h n hn
    exact .inr (.inr ⟨m, hm, hb.trans hmn.symm⟩)
theorem sv_none {b : Nat} {v : Int} {l : List Nd} (h : ∀ n ∈ l, n.b ≠ b) : l.map (Nd.sv b v) = l := by
  conv => rhs; rw [← List.map_id l]
  apply List.map_congr_left; intro m hm; simp [Nd.sv, h m hm]
theorem sh_none {b : Nat} {v : Bool} {l : List Nd} (h : ∀ n ∈ l, n.b ≠ b) : l.map (Nd.sh b v) = l := by
  conv => rhs; rw [← List.map_id l]
  apply List.map_congr_left; intro m hm; simp [Nd.sh, h m hm]
theorem Core.all_ne (h : Core w cb mb cl kp xs room hits misses gone) {n : Nd} {l1 l2 : List Nd} (he : cl ++ kp ++ xs = l1 ++ n :: l2) : (∀ m ∈ l1, m.b ≠ n.b) ∧ ∀ m ∈ l2, m.b ≠ n.b := by
  have hnd := h.nodup
  rw [he] at hnd
  simp only [List.nodup_cons, List.map_append, List.map_cons] at hnd
  have h1 := List.nodup_append.1 hnd.2.2
  refine ⟨fun m hm => h1.2.2 _ (List.mem_map.2 ⟨m, hm, rfl⟩) _ (by simp), fun m hm e => (List.nodup_cons.1 h1.2.1).1 (e ▸ List.mem_map.2 ⟨m, hm, rfl⟩)⟩

theorem put_kept {n : Nd} {a b : List Nd} (h : Core w cb mb cl (a ++ n :: b) [] room hits misses gone) (hh : n.h = true) (v : Int) (hg : gone + cl.length < 4611686018427387904) (hr : room < 4611686018427387904) :
    Fn Try.prog 10 #[ptr (cb, 0), .int .i64 n.k, .int .i64 v] w fun x w' => x = .tuple #[] ∧
      Core w' cb mb (cl.drop (cl.length - room)) (a ++ { n with v := v } :: b) [] room hits misses (gone + (cl.length - room)) ∧ Fr (foot cb mb (cl ++ (a ++ n :: b) ++ [])) w w' := by
  have hn : n ∈ cl ++ (a ++ n :: b) ++ [] := by simp
  refine Try.go10 (by simp) ?_
  have a1 : rdO Try.prog 63 w cb 1 = some _ := rd_cv Try.agg63 h.found
  have a2 := h.look_some hn
  have e := h.ents n hn
  have a3 : rdO Try.prog 4 w n.b 2 = some _ := rd_cv Try.agg4 e.held
  rw [hh] at a3
  have a4 := wr_cv (P := Try.prog) (t := 3) (v := .int .i64 v) Try.sz3 rfl e.val
  simp -implicitDefEqProofs only [go_sem, Nat.reduceEqDiff, Try.f10, a1, a2, a3, a4, Bool.not_true]
  have h1 := h.setv hn v
  obtain ⟨q1, q2⟩ := h.all_ne (n := n) (l1 := cl ++ a) (l2 := b) (by simp)
  have e1 : cl.map (Nd.sv n.b v) = cl := sv_none fun m hm => q1 m (by simp [hm])
  have e2 : (a ++ n :: b).map (Nd.sv n.b v) = a ++ { n with v := v } :: b := by
    rw [List.map_append, List.map_cons, sv_none fun m hm => q1 m (by simp [hm]), sv_none fun m hm => q2 m hm]
    simp [Nd.sv]
  rw [e1, e2, List.map_nil] at h1
  refine contL_call Try.pl35 ((trim h1 hg hr).mono ?_)
  rintro _ w2 ⟨rfl, h2, f2⟩
  simp -implicitDefEqProofs only [go_sem]
  have f1 : Fr (foot cb mb (cl ++ (a ++ n :: b) ++ [])) w (setc w n.b 1 (.int .i64 v)) := (Fr.refl _ _).setc _ _ fun _ => .inr (.inr ⟨n, hn, rfl⟩)
  refine ⟨trivial, h2, f1.trans' f2 fun b' _ hb => foot_sub (fun m hm => ?_) hb⟩
  simp only [List.append_nil, List.mem_append, List.mem_cons] at hm ⊢
  rcases hm with hm | hm | rfl | hm
  · exact ⟨m, .inl hm, rfl⟩
  · exact ⟨m, .inr (.inl hm), rfl⟩
  · exact ⟨n, .inr (.inr (.inl rfl)), rfl⟩
  · exact ⟨m, .inr (.inr (.inr hm)), rfl⟩

theorem put_clean {n : Nd} {a b : List Nd} (h : Core w cb mb (a ++ n :: b) kp [] room hits misses gone) (hh : n.h = false) (v : Int) (hg : gone + (a ++ n :: b).length < 4611686018427387904) (hr : room < 4611686018427387904) :
    Fn Try.prog 10 #[ptr (cb, 0), .int .i64 n.k, .int .i64 v] w fun x w' => x = .tuple #[] ∧
      Core w' cb mb ((a ++ b ++ [{ n with v := v }]).drop ((a ++ n :: b).length - room)) kp [] room hits misses (gone + ((a ++ n :: b).length - room)) ∧ Fr (foot cb mb (a ++ n :: b ++ kp ++ [])) w w' := by
  have hn : n ∈ a ++ n :: b ++ kp ++ [] := by simp
  refine Try.go10 (by simp) ?_
  have a1 : rdO Try.prog 63 w cb 1 = some _ := rd_cv Try.agg63 h.found
  have a2 := h.look_some hn
  have e := h.ents n hn
  have a3 : rdO Try.prog 4 w n.b 2 = some _ := rd_cv Try.agg4 e.held
  rw [hh] at a3
  simp -implicitDefEqProofs only [go_sem, Nat.reduceEqDiff, Try.f10, a1, a2, a3, Bool.not_false]
  refine contL_call Try.pl34 ((dropC h (by omega)).mono ?_)
  rintro _ w2 ⟨rfl, h2, f2⟩
  simp -implicitDefEqProofs only [go_sem, Nat.reduceEqDiff]
  refine contL_call Try.pl33 ((lastC h2 (by simp at hg ⊢; omega)).mono ?_)
  rintro _ w3 ⟨rfl, h3, f3⟩
  have hn3 : n ∈ a ++ b ++ [n] ++ kp ++ [] := by simp
  have a4 := wr_cv (P := Try.prog) (t := 3) (v := .int .i64 v) Try.sz3 rfl (h3.ents n hn3).val
  simp -implicitDefEqProofs only [go_sem, Nat.reduceEqDiff, a4]
  have h4 := h3.setv hn3 v
  obtain ⟨q1, q2⟩ := h3.all_ne (n := n) (l1 := a ++ b) (l2 := kp) (by simp)
  have e1 : (a ++ b ++ [n]).map (Nd.sv n.b v) = a ++ b ++ [{ n with v := v }] := by
    rw [List.map_append, sv_none q1]; simp [Nd.sv]
  rw [e1, sv_none q2, List.map_nil] at h4
  have hlen : (a ++ b ++ [{ n with v := v }]).length = (a ++ n :: b).length := by simp
  refine contL_call Try.pl35 ((trim h4 (by rw [hlen]; exact hg) hr).mono ?_)
  rintro _ w5 ⟨rfl, h5, f5⟩
  rw [hlen] at h5
  simp -implicitDefEqProofs only [go_sem]
  refine ⟨trivial, h5, ?_⟩
  have f3' : Fr (foot cb mb (a ++ n :: b ++ kp ++ [])) w w3 := by
    refine (Fr.trans' (Fr.refl _ _) f2 fun b' _ hb => foot_sub (fun m hm => ⟨m, by simp only [List.mem_append] at hm ⊢; exact .inl (.inl hm), rfl⟩) hb).trans' f3 fun b' _ hb => foot_sub (fun m hm => ⟨m, ?_, rfl⟩) hb
    simp only [List.mem_append, List.mem_cons, List.not_mem_nil, or_false] at hm ⊢
    rcases hm with (hm | hm) | hm
    · exact .inl (.inl hm)
    · exact .inl (.inr (.inr hm))
    · exact .inl (.inr (.inl hm))
  refine (f3'.setc _ _ fun _ => .inr (.inr ⟨n, hn, rfl⟩)).trans' f5 fun b' _ hb => foot_sub (fun m hm => ?_) hb
  simp only [List.append_nil, List.mem_append, List.mem_cons, List.not_mem_nil, or_false] at hm ⊢
  rcases hm with ((hm | hm) | rfl) | hm
  · exact ⟨m, .inl (.inl hm), rfl⟩
  · exact ⟨m, .inl (.inr (.inr hm)), rfl⟩
  · exact ⟨n, .inl (.inr (.inl rfl)), rfl⟩
  · exact ⟨m, .inr hm, rfl⟩

theorem put_new (h : Core w cb mb cl kp [] room hits misses gone) {k : Int} (hk : ∀ n ∈ cl ++ kp ++ [], n.k ≠ k) (v : Int) (hg : gone + (cl.length + 1) < 4611686018427387904) (hr : room < 4611686018427387904) :
    Fn Try.prog 10 #[ptr (cb, 0), .int .i64 k, .int .i64 v] w fun x w' => x = .tuple #[] ∧
      Core w' cb mb ((cl ++ [(⟨w.heap.size, k, v, false⟩ : Nd)]).drop (cl.length + 1 - room)) kp [] room hits misses (gone + (cl.length + 1 - room)) ∧ Fr (foot cb mb (cl ++ kp ++ [])) w w' := by
  refine Try.go10 (by simp) ?_
  have a1 : rdO Try.prog 63 w cb 1 = some _ := rd_cv Try.agg63 h.found
  have a2 := h.look_none hk
  obtain ⟨ob, hob, h1⟩ := h.fresh hk
  have hal : Core (w.alloc (.cells #[.int .i64 k, .int .i64 0, .bool false, .pointer none, .pointer none] 66)) cb mb cl kp [] room hits misses gone :=
    h.frame fun b hb => alloc_blk_old _ _ (h.foot_lt hb)
  have a3 : rdO Try.prog 63 (w.alloc (.cells #[.int .i64 k, .int .i64 0, .bool false, .pointer none, .pointer none] 66)) cb 1 = some _ := rd_cv Try.agg63 hal.found
  simp -implicitDefEqProofs only [go_sem, Nat.reduceEqDiff, Try.f10, a1, a2, a3, bld66, hob]
  have fr0 : Fr (foot cb mb (cl ++ kp ++ [])) w (put (w.alloc (.cells #[.int .i64 k, .int .i64 0, .bool false, .pointer none, .pointer none] 66)) mb ob) := ((Fr.refl _ _).alloc _).put _ fun _ => .inr (.inl rfl)
  generalize hN : (⟨w.heap.size, k, 0, false⟩ : Nd) = N at *
  have hNb : N.b = w.heap.size := by rw [← hN]
  have hNk : N.k = k := by rw [← hN]
  have hNh : N.h = false := by rw [← hN]
  have c1 := lastC h1 (by omega)
  rw [show N.at = (w.heap.size, 0) by rw [← hNb]] at c1
  refine contL_call Try.pl33 (c1.mono ?_)
  rintro _ w3 ⟨rfl, h3, f3⟩
  have hn3 : N ∈ cl ++ [N] ++ kp ++ [] := by simp
  have a4 := wr_cv (P := Try.prog) (t := 3) (v := .int .i64 v) Try.sz3 rfl (h3.ents N hn3).val
  rw [hNb] at a4
  simp -implicitDefEqProofs only [go_sem, Nat.reduceEqDiff, a4]
  have h4 := h3.setv hn3 v
  obtain ⟨q1, q2⟩ := h3.all_ne (n := N) (l1 := cl) (l2 := kp) (by simp)
  have e1 : (cl ++ [N]).map (Nd.sv N.b v) = cl ++ [⟨w.heap.size, k, v, false⟩] := by
    rw [List.map_append, sv_none q1, ← hN]; simp [Nd.sv]
  rw [e1, sv_none q2, List.map_nil, hNb] at h4
  have hlen : (cl ++ [(⟨w.heap.size, k, v, false⟩ : Nd)]).length = cl.length + 1 := by simp
  refine contL_call Try.pl35 ((trim h4 (by rw [hlen]; exact hg) hr).mono ?_)
  rintro _ w5 ⟨rfl, h5, f5⟩
  rw [hlen] at h5
  simp -implicitDefEqProofs only [go_sem]
  refine ⟨trivial, h5, ?_⟩
  have new_ne : ∀ b', b' < w.heap.size → b' ≠ N.b := fun b' hb => by rw [hNb]; omega
  refine (((fr0.trans' f3 fun b' hb' hb => ?_).setc (b := w.heap.size) _ _ fun hlt => absurd hlt (Nat.lt_irrefl _))).trans' f5 fun b' hb' hb => ?_
  · rcases hb with hb | hb | ⟨m, hm, hb⟩
    · exact .inl hb
    · exact .inr (.inl hb)
    · rcases List.mem_append.1 hm with hm | hm
      · exact .inr (.inr ⟨m, by simp [hm], hb⟩)
      · simp only [List.mem_singleton] at hm; subst hm; exact absurd hb (new_ne b' hb')
  · rcases hb with hb | hb | ⟨m, hm, hb⟩
    · exact .inl hb
    · exact .inr (.inl hb)
    · simp only [List.append_nil, List.mem_append, List.mem_cons, List.not_mem_nil, or_false] at hm
      rcases hm with (hm | rfl) | hm
      · exact .inr (.inr ⟨m, by simp [hm], hb⟩)
      · simp only at hb; omega
      · exact .inr (.inr ⟨m, by simp [hm], hb⟩)
end
end I
end Go.V
