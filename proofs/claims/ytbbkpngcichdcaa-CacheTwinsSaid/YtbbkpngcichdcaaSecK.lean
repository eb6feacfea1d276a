/-
  The cache whose keys are arrays and whose values are texts: as CacheK.
-/
import Derived.Test.YtbbkpngcichdcaaSecH
namespace Go.V
open Go.Proofs
set_option maxRecDepth 100000
namespace S
section
variable {w : World} {cb mb : Nat} {cl kp xs : List Nd} {room hits misses gone : Nat}
def keyL (n : Nd) : List Value := (keyA n.k).toList
def keysL (l : List Nd) : List Value := l.flatMap keyL
theorem keysL_add (p : List Nd) (x : Nd) : keysL (p ++ [x]) = keysL p ++ keyL x := by simp [keysL]
theorem keyL_one (n : Nd) : (keyL n).all one = true := by
  refine List.all_eq_true.2 fun v hv => ?_
  unfold keyL keyA at hv
  simp only [List.toList_toArray, List.mem_map] at hv
  obtain ⟨j, _, rfl⟩ := hv
  rfl
theorem und58 : (Try.prog.underlying 58).isSome = true := by kernel_rfl
theorem by52 : byO Try.prog 52 = some 32 := by kernel_rfl
theorem Nd.at_eq (n : Nd) : n.at = (n.b, 0) := rfl
theorem z52_row : zrow (#[.int .u8 0, .int .u8 0, .int .u8 0, .int .u8 0, .int .u8 0, .int .u8 0, .int .u8 0, .int .u8 0, .int .u8 0, .int .u8 0, .int .u8 0, .int .u8 0, .int .u8 0, .int .u8 0, .int .u8 0, .int .u8 0, .int .u8 0, .int .u8 0, .int .u8 0, .int .u8 0, .int .u8 0, .int .u8 0, .int .u8 0, .int .u8 0, .int .u8 0, .int .u8 0, .int .u8 0, .int .u8 0, .int .u8 0, .int .u8 0, .int .u8 0, .int .u8 0] : Array Value).toList 1 = (List.replicate 32 (Value.int .u8 0)).toArray := by kernel_rfl
theorem fill52 (k : Int) : Instr.fill (fun i => some (i * 32, 32)) (List.replicate 32 (Value.int .u8 0)).toArray [(0, kV k)] = some (keyA k) := by
  rw [fill_one (v := kV k) (off := 0) (size := 32) rfl (keyA_size k) (by simp)]
  simp only [agg_cells, Option.some.injEq]
  apply Array.toList_inj.1
  rw [storeL_list _ _ _ (by rw [Array.length_toList, keyA_size]; simp)]
  simp only [Array.length_toList, keyA_size]
  rw [List.take_zero, List.nil_append, List.drop_of_length_le (by simp), List.append_nil]
theorem bs58 (w : World) (k : Int) : (if 1 * 32 ≤ 2 ^ 24 ∧ 0 < 32 ∧ (#[.int .u8 0, .int .u8 0, .int .u8 0, .int .u8 0, .int .u8 0, .int .u8 0, .int .u8 0, .int .u8 0, .int .u8 0, .int .u8 0, .int .u8 0, .int .u8 0, .int .u8 0, .int .u8 0, .int .u8 0, .int .u8 0, .int .u8 0, .int .u8 0, .int .u8 0, .int .u8 0, .int .u8 0, .int .u8 0, .int .u8 0, .int .u8 0, .int .u8 0, .int .u8 0, .int .u8 0, .int .u8 0, .int .u8 0, .int .u8 0, .int .u8 0, .int .u8 0] : Array Value).size = 32 ∧ 0 < 1 then
    Option.map (fun cells => (Value.slice (some ⟨w.heap.size, 0, none⟩) 1 1, w.alloc (.cells cells 52))) (Instr.fill (fun i => some (i * 32, 32)) (zrow (#[.int .u8 0, .int .u8 0, .int .u8 0, .int .u8 0, .int .u8 0, .int .u8 0, .int .u8 0, .int .u8 0, .int .u8 0, .int .u8 0, .int .u8 0, .int .u8 0, .int .u8 0, .int .u8 0, .int .u8 0, .int .u8 0, .int .u8 0, .int .u8 0, .int .u8 0, .int .u8 0, .int .u8 0, .int .u8 0, .int .u8 0, .int .u8 0, .int .u8 0, .int .u8 0, .int .u8 0, .int .u8 0, .int .u8 0, .int .u8 0, .int .u8 0, .int .u8 0] : Array Value).toList 1) [(0, kV k)]) else none) =
    some (.slice (some ⟨w.heap.size, 0, none⟩) 1 1, w.alloc (.cells (keyA k) 52)) := by
  rw [if_pos ⟨by omega, by omega, rfl, by omega⟩, z52_row, fill52]
  rfl
def keysI (w0 : World) (cb r : Nat) (ns : List Nd) (m : Nat) (vs : List Value) (w : World) : Prop :=
  ∃ p q v, vs = [ptr (cb, 0), v, ptr (nextOf (cb, r) (q.map Nd.at))] ∧ m = q.length ∧ ns = p ++ q ∧ OwnS w 52 32 v p.length (keysL p) ∧ Fr (fun _ => False) w0 w ∧ ∀ b, blockOf v = some b → w0.heap.size ≤ b
theorem keys_app {w0 w : World} (hf : Fr (fun _ => False) w0 w) {v : Value} {p : List Nd} (hv : OwnS w 52 32 v p.length (keysL p)) (hn : ∀ b, blockOf v = some b → w0.heap.size ≤ b) (x : Nd) (hl : p.length < 6000000000000) :
    ∃ v' w', (Builtin.append_ #[58, 58] 0 #[v, .slice (some ⟨w.heap.size, 0, none⟩) 1 1]).run Try.prog (w.alloc (.cells (keyA x.k) 52)) = .ok v' w' ∧ OwnS w' 52 32 v' (p ++ [x]).length (keysL (p ++ [x])) ∧ Fr (fun _ => False) w0 w' ∧ ∀ b, blockOf v' = some b → w0.heap.size ≤ b := by
  have hv1 : OwnS (w.alloc (.cells (keyA x.k) 52)) 52 32 v p.length (keysL p) := hv.frame fun b hb => alloc_blk_old _ _ (hv.lt hb)
  obtain ⟨v', w', h1, h2, h3, h4, b, h5, h6⟩ := app_own' (P := Try.prog) (ts := #[58, 58]) (t := 58) (t' := 58) rfl rfl Try.slc58 Try.int58 und58 Try.sz52 by52 Try.zero52 (by simp [Value.cells]) hv1 (xb := w.heap.size) (xo := 0) (m := 1) (xc := 1) (cx := keyA x.k) (alloc_blk_new _ _) (by rw [keyA_size]; omega) (news := keyL x) (by
      unfold keyL; rw [Array.extract_eq_self_of_le (by rw [keyA_size]; omega)]) (keyL_one x) (fun cap h1 h2 => by
      have := nextcap1_le h1 h2
      have := Nat.mul_le_mul_right 32 this
      omega) (by omega) (by omega)
  refine ⟨v', w', h1, by rw [keysL_add]; simpa using h2, ?_, fun b' hb' => ?_⟩
  · have := (hf.alloc (.cells (keyA x.k) 52)).trans' (h3 (fun b => blockOf v = some b) fun _ h => h) (fun b hb hb2 => by have := hn b hb2; omega)
    exact this
  · rw [h5] at hb'; cases hb'
    rcases h6 with h6 | h6
    · exact hn b h6
    · rw [alloc_heap_size] at h6; have := hf.size; omega
theorem keys (h : Core w cb mb cl kp [] room hits misses gone) (hg : cl.length < 6000000000000) :
    Fn Try.prog 26 #[ptr (cb, 0)] w fun x w' => OwnS w' 52 32 x cl.length (keysL cl.reverse) ∧ Core w' cb mb cl kp [] room hits misses gone ∧ Fr (fun _ => False) w w' ∧ ∀ b, blockOf x = some b → w.heap.size ≤ b := by
  refine Try.go26 (by simp) ?_
  have hb := h.clean.ring.bwd
  rw [← List.map_reverse] at hb
  have a1 : rdO Try.prog 81 w cb 36 = some _ := rd_cv Try.agg81 (walk_first hb)
  simp -implicitDefEqProofs only [go_sem, Nat.reduceEqDiff, Try.f26, a1]
  refine loopD [0, 3, 4] (keysI w cb 2 cl.reverse) cl.length ⟨[], cl.reverse, _, by simp [upd], by simp, rfl, .nil _ _ _, Fr.refl _ _, fun b hb => by cases hb⟩ ?_
  rintro m vs w1 g ⟨p, q, v, rfl, rfl, hpq, hv, f1, hnew⟩
  have h1 : Core w1 cb mb cl kp [] room hits misses gone := h.frame fun b hb => f1.blk b (h.foot_lt hb) id
  cases q with
  | nil =>
    simp -implicitDefEqProofs only [go_sem, Nat.reduceEqDiff, nextOf_nil, nextOf_cons, Nd.at_eq, ptr, beq_self_eq_true, Bool.not_true]
    rw [List.append_nil] at hpq
    subst hpq
    rw [List.length_reverse] at hv
    exact ⟨hv, h1, f1, hnew⟩
  | cons x q =>
    have hx : x ∈ cl := by have : x ∈ cl.reverse := by rw [hpq]; simp
                           simpa using this
    have hne : ¬ x.b = cb := (h.ne_blocks.2 x (by simp [hx])).1
    have hkey := (h1.ents x (by simp [hx])).key0
    have p1 : plainB w1 x.b = true := by
      obtain ⟨c, e, e1, _⟩ := cv_row hkey; simp [plainB, e1]
    have p2 : plainB w1 cb = true := by
      obtain ⟨c, e, e1, _⟩ := cv_row h1.room; simp [plainB, e1]
    have a2 : rdO Try.prog 52 w1 x.b 0 = some _ := (h1.ents x (by simp [hx])).rd
    have hl : p.length < 6000000000000 := by
      have := congrArg List.length hpq; simp at this; omega
    obtain ⟨v', w2, r1, r2, r3, r4⟩ := keys_app f1 hv hnew x hl
    simp -implicitDefEqProofs only [go_sem, Nat.reduceEqDiff, nextOf_cons, Nd.at_eq, ptr, hne, p1, p2, and_self, Bool.not_false, a2]
    refine contL_is (v := .slice (some ⟨w1.heap.size, 0, none⟩) 1 1) (w' := w1.alloc (.cells (keyA x.k) 52)) (congrArg Sum.inl (bs58 _ x.k)) ?_
    simp -implicitDefEqProofs only [go_sem, Nat.reduceEqDiff]
    refine contL_sem ⟨v', w2, r1, ?_⟩
    have h2 : Core w2 cb mb cl kp [] room hits misses gone := h.frame fun b hb => r3.blk b (h.foot_lt hb) id
    have hb2 := h2.clean.ring.bwd
    rw [← List.map_reverse, hpq, List.map_append, List.map_cons] at hb2
    have a3 : rdO Try.prog 81 w2 x.b 34 = some _ := rd_cv Try.agg81 (walk_bwd hb2)
    simp -implicitDefEqProofs only [go_sem, Nat.reduceEqDiff, a3]
    exact ⟨q.length, by simp, p ++ [x], q, v', rfl, rfl, by simp [hpq], r2, r3, r4⟩
theorem held (h : Core w cb mb cl kp [] room hits misses gone) (hg : kp.length < 6000000000000) :
    Fn Try.prog 28 #[ptr (cb, 0)] w fun x w' => OwnS w' 52 32 x kp.length (keysL kp) ∧ Core w' cb mb cl kp [] room hits misses gone ∧ Fr (fun _ => False) w w' ∧ ∀ b, blockOf x = some b → w.heap.size ≤ b := by
  refine Try.go28 (by simp) ?_
  have hb := h.kept.ring.fwd
  have a1 : rdO Try.prog 81 w cb 74 = some _ := rd_cv Try.agg81 (walk_first hb)
  simp -implicitDefEqProofs only [go_sem, Nat.reduceEqDiff, Try.f28, a1]
  refine loopD [0, 3, 4] (keysI w cb 39 kp) kp.length ⟨[], kp, _, by simp [upd], by simp, rfl, .nil _ _ _, Fr.refl _ _, fun b hb => by cases hb⟩ ?_
  rintro m vs w1 g ⟨p, q, v, rfl, rfl, hpq, hv, f1, hnew⟩
  have h1 : Core w1 cb mb cl kp [] room hits misses gone := h.frame fun b hb => f1.blk b (h.foot_lt hb) id
  cases q with
  | nil =>
    simp -implicitDefEqProofs only [go_sem, Nat.reduceEqDiff, nextOf_nil, nextOf_cons, Nd.at_eq, ptr, beq_self_eq_true, Bool.not_true]
    rw [List.append_nil] at hpq
    subst hpq
    exact ⟨hv, h1, f1, hnew⟩
  | cons x q =>
    have hx : x ∈ kp := by rw [hpq]; simp
    have hne : ¬ x.b = cb := (h.ne_blocks.2 x (by simp [hx])).1
    have hkey := (h1.ents x (by simp [hx])).key0
    have p1 : plainB w1 x.b = true := by
      obtain ⟨c, e, e1, _⟩ := cv_row hkey; simp [plainB, e1]
    have p2 : plainB w1 cb = true := by
      obtain ⟨c, e, e1, _⟩ := cv_row h1.room; simp [plainB, e1]
    have a2 : rdO Try.prog 52 w1 x.b 0 = some _ := (h1.ents x (by simp [hx])).rd
    have hl : p.length < 6000000000000 := by
      have := congrArg List.length hpq; simp at this; omega
    obtain ⟨v', w2, r1, r2, r3, r4⟩ := keys_app f1 hv hnew x hl
    simp -implicitDefEqProofs only [go_sem, Nat.reduceEqDiff, nextOf_cons, Nd.at_eq, ptr, hne, p1, p2, and_self, Bool.not_false, a2]
    refine contL_is (v := .slice (some ⟨w1.heap.size, 0, none⟩) 1 1) (w' := w1.alloc (.cells (keyA x.k) 52)) (congrArg Sum.inl (bs58 _ x.k)) ?_
    simp -implicitDefEqProofs only [go_sem, Nat.reduceEqDiff]
    refine contL_sem ⟨v', w2, r1, ?_⟩
    have h2 : Core w2 cb mb cl kp [] room hits misses gone := h.frame fun b hb => r3.blk b (h.foot_lt hb) id
    have hb2 := h2.kept.ring.fwd
    rw [hpq, List.map_append, List.map_cons] at hb2
    have a3 : rdO Try.prog 81 w2 x.b 35 = some _ := rd_cv Try.agg81 (walk_bwd hb2)
    simp -implicitDefEqProofs only [go_sem, Nat.reduceEqDiff, a3]
    exact ⟨q.length, by simp, p ++ [x], q, v', rfl, rfl, by simp [hpq], r2, r3, r4⟩
end
end S
end Go.V
