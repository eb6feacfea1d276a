/-
  Keys and Held of a cache of ints.
-/
import Derived.Test.YtbbkpngcichdcaaCacheI
import Derived.Test.YtbbkpngcichdcaaSlices
namespace Go.V
open Go.Proofs
set_option maxRecDepth 100000
theorem walk_bwd {f : Ad → Option Value} {r x : Ad} {p q : List Ad} (h : Chain f (r :: (p ++ x :: q) ++ [r])) : f x = some (ptr (nextOf r q)) := by
  obtain ⟨q', hq, _⟩ := split_head r q
  have e : r :: (p ++ x :: q) ++ [r] = (r :: p) ++ x :: nextOf r q :: q' := by simp [← hq]
  rw [e] at h
  exact h.get
theorem walk_first {f : Ad → Option Value} {r : Ad} {q : List Ad} (h : Chain f (r :: q ++ [r])) : f r = some (ptr (nextOf r q)) := by
  obtain ⟨q', hq, _⟩ := split_head r q
  have e : r :: q ++ [r] = [] ++ r :: nextOf r q :: q' := by simp [← hq]
  rw [e] at h
  exact h.get
theorem nextOf_nil (r : Ad) : nextOf r [] = r := rfl
theorem nextOf_cons (r x : Ad) (q : List Ad) : nextOf r (x :: q) = x := rfl
theorem I.Nd.at_eq (n : I.Nd) : n.at = (n.b, 0) := rfl
theorem contL_is {P : Program} {ops : Array Oper} {K : Ev → World → Prop} {r : List Oper} {d : Option Nat} {ev : Ev} {w w' : World} {x : Out} {v : Value} (h : x = .inl (some (v, w')))
    (hk : denL P ops K r (updO ev d v) w') : contL P ops K r d ev w x := by
  subst h
  cases d <;> exact hk
theorem Try.by3 : byO Try.prog 3 = some 8 := by kernel_rfl
theorem Try.und29 : (Try.prog.underlying 29).isSome = true := by kernel_rfl
namespace I
section
variable {w : World} {cb mb : Nat} {cl kp xs : List Nd} {room hits misses gone : Nat}
def keyV (n : Nd) : Value := .int .i64 n.k
def keysI (w0 : World) (cb r : Nat) (ns : List Nd) (m : Nat) (vs : List Value) (w : World) : Prop :=
  ∃ p q v, vs = [ptr (cb, 0), v, ptr (nextOf (cb, r) (q.map Nd.at))] ∧ m = q.length ∧ ns = p ++ q ∧ OwnS w 3 1 v p.length (p.map keyV) ∧ Fr (fun _ => False) w0 w ∧ ∀ b, blockOf v = some b → w0.heap.size ≤ b
theorem keys_app {w0 w : World} (hf : Fr (fun _ => False) w0 w) {v : Value} {p : List Nd} (hv : OwnS w 3 1 v p.length (p.map keyV)) (hn : ∀ b, blockOf v = some b → w0.heap.size ≤ b) (x : Nd) (hl : p.length < 8796093022208) :
    ∃ v' w', (Builtin.append_ #[29, 29] 0 #[v, .slice (some ⟨w.heap.size, 0, none⟩) 1 1]).run Try.prog (w.alloc (.cells #[keyV x] 3)) = .ok v' w' ∧ OwnS w' 3 1 v' (p ++ [x]).length ((p ++ [x]).map keyV) ∧ Fr (fun _ => False) w0 w' ∧ ∀ b, blockOf v' = some b → w0.heap.size ≤ b := by
  have hv1 : OwnS (w.alloc (.cells #[keyV x] 3)) 3 1 v p.length (p.map keyV) := hv.frame fun b hb => alloc_blk_old _ _ (hv.lt hb)
  obtain ⟨v', w', h1, h2, h3, h4, b, h5, h6⟩ := app_own (P := Try.prog) (ts := #[29, 29]) (t := 29) (t' := 29) rfl rfl Try.slc29 Try.int29 Try.und29 Try.sz3 Try.by3 Try.zero3 rfl hv1 (xb := w.heap.size) (xo := 0) (m := 1) (xc := 1) (cx := #[keyV x]) (alloc_blk_new _ _) (by simp) (news := [keyV x]) rfl rfl (by omega) (by omega) (by omega)
  refine ⟨v', w', h1, by simpa using h2, ?_, fun b' hb' => ?_⟩
  · have := (hf.alloc (.cells #[keyV x] 3)).trans' (h3 (fun b => blockOf v = some b) fun _ h => h) (fun b hb hb2 => by have := hn b hb2; omega)
    exact this
  · rw [h5] at hb'; cases hb'
    rcases h6 with h6 | h6
    · exact hn b h6
    · rw [alloc_heap_size] at h6; have := hf.size; omega
theorem keys (h : Core w cb mb cl kp [] room hits misses gone) (hg : cl.length < 8796093022208) :
    Fn Try.prog 12 #[ptr (cb, 0)] w fun x w' => OwnS w' 3 1 x cl.length (cl.reverse.map keyV) ∧ Core w' cb mb cl kp [] room hits misses gone ∧ Fr (fun _ => False) w w' ∧ ∀ b, blockOf x = some b → w.heap.size ≤ b := by
  refine Try.go12 (by simp) ?_
  have hb := h.clean.ring.bwd
  rw [← List.map_reverse] at hb
  have a1 : rdO Try.prog 64 w cb 5 = some _ := rd_cv Try.agg64 (walk_first hb)
  simp -implicitDefEqProofs only [go_sem, Nat.reduceEqDiff, Try.f12, a1]
  refine loopD [0, 3, 4] (keysI w cb 2 cl.reverse) cl.length ⟨[], cl.reverse, _, by simp [upd], by simp, rfl, .nil _ _ _, Fr.refl _ _, fun b hb => by cases hb⟩ ?_
  rintro m vs w1 g ⟨p, q, v, rfl, rfl, hpq, hv, f1, hnew⟩
  have h1 : Core w1 cb mb cl kp [] room hits misses gone := h.frame fun b hb => f1.blk b (h.foot_lt hb) id
  cases q with
  | nil =>
    simp -implicitDefEqProofs only [go_sem, Nat.reduceEqDiff, nextOf_nil, nextOf_cons, Nd.at_eq, ptr, beq_self_eq_true, Bool.not_true]
    rw [List.append_nil] at hpq
    subst hpq
    rw [List.length_reverse] at hv
    exact ⟨hv, h1, f1, hnew⟩
  | cons x q =>
    have hx : x ∈ cl := by have : x ∈ cl.reverse := by rw [hpq]; simp
                           simpa using this
    have hne : ¬ x.b = cb := (h.ne_blocks.2 x (by simp [hx])).1
    have hkey := (h1.ents x (by simp [hx])).key
    have p1 : plainB w1 x.b = true := by
      obtain ⟨c, e, e1, _⟩ := cv_row hkey; simp [plainB, e1]
    have p2 : plainB w1 cb = true := by
      obtain ⟨c, e, e1, _⟩ := cv_row h1.room; simp [plainB, e1]
    have a2 : rdO Try.prog 3 w1 x.b 0 = some _ := rd_cv Try.agg3 hkey
    have hl : p.length < 8796093022208 := by
      have := congrArg List.length hpq; simp at this; omega
    obtain ⟨v', w2, r1, r2, r3, r4⟩ := keys_app f1 hv hnew x hl
    simp -implicitDefEqProofs only [go_sem, Nat.reduceEqDiff, nextOf_cons, Nd.at_eq, ptr, hne, p1, p2, and_self, Bool.not_false, a2]
    refine contL_is (v := .slice (some ⟨w1.heap.size, 0, none⟩) 1 1) (w' := w1.alloc (.cells #[keyV x] 3)) rfl ?_
    simp -implicitDefEqProofs only [go_sem, Nat.reduceEqDiff]
    refine contL_sem ⟨v', w2, r1, ?_⟩
    have h2 : Core w2 cb mb cl kp [] room hits misses gone := h.frame fun b hb => r3.blk b (h.foot_lt hb) id
    have hb2 := h2.clean.ring.bwd
    rw [← List.map_reverse, hpq, List.map_append, List.map_cons] at hb2
    have a3 : rdO Try.prog 64 w2 x.b 3 = some _ := rd_cv Try.agg64 (walk_bwd hb2)
    simp -implicitDefEqProofs only [go_sem, Nat.reduceEqDiff, a3]
    exact ⟨q.length, by simp, p ++ [x], q, v', rfl, rfl, by simp [hpq], r2, r3, r4⟩
theorem held (h : Core w cb mb cl kp [] room hits misses gone) (hg : kp.length < 8796093022208) :
    Fn Try.prog 27 #[ptr (cb, 0)] w fun x w' => OwnS w' 3 1 x kp.length (kp.map keyV) ∧ Core w' cb mb cl kp [] room hits misses gone ∧ Fr (fun _ => False) w w' ∧ ∀ b, blockOf x = some b → w.heap.size ≤ b := by
  refine Try.go27 (by simp) ?_
  have hb := h.kept.ring.fwd
  have a1 : rdO Try.prog 64 w cb 12 = some _ := rd_cv Try.agg64 (walk_first hb)
  simp -implicitDefEqProofs only [go_sem, Nat.reduceEqDiff, Try.f27, a1]
  refine loopD [0, 3, 4] (keysI w cb 8 kp) kp.length ⟨[], kp, _, by simp [upd], by simp, rfl, .nil _ _ _, Fr.refl _ _, fun b hb => by cases hb⟩ ?_
  rintro m vs w1 g ⟨p, q, v, rfl, rfl, hpq, hv, f1, hnew⟩
  have h1 : Core w1 cb mb cl kp [] room hits misses gone := h.frame fun b hb => f1.blk b (h.foot_lt hb) id
  cases q with
  | nil =>
    simp -implicitDefEqProofs only [go_sem, Nat.reduceEqDiff, nextOf_nil, nextOf_cons, Nd.at_eq, ptr, beq_self_eq_true, Bool.not_true]
    rw [List.append_nil] at hpq
    subst hpq
    exact ⟨hv, h1, f1, hnew⟩
  | cons x q =>
    have hx : x ∈ kp := by rw [hpq]; simp
    have hne : ¬ x.b = cb := (h.ne_blocks.2 x (by simp [hx])).1
    have hkey := (h1.ents x (by simp [hx])).key
    have p1 : plainB w1 x.b = true := by
      obtain ⟨c, e, e1, _⟩ := cv_row hkey; simp [plainB, e1]
    have p2 : plainB w1 cb = true := by
      obtain ⟨c, e, e1, _⟩ := cv_row h1.room; simp [plainB, e1]
    have a2 : rdO Try.prog 3 w1 x.b 0 = some _ := rd_cv Try.agg3 hkey
    have hl : p.length < 8796093022208 := by
      have := congrArg List.length hpq; simp at this; omega
    obtain ⟨v', w2, r1, r2, r3, r4⟩ := keys_app f1 hv hnew x hl
    simp -implicitDefEqProofs only [go_sem, Nat.reduceEqDiff, nextOf_cons, Nd.at_eq, ptr, hne, p1, p2, and_self, Bool.not_false, a2]
    refine contL_is (v := .slice (some ⟨w1.heap.size, 0, none⟩) 1 1) (w' := w1.alloc (.cells #[keyV x] 3)) rfl ?_
    simp -implicitDefEqProofs only [go_sem, Nat.reduceEqDiff]
    refine contL_sem ⟨v', w2, r1, ?_⟩
    have h2 : Core w2 cb mb cl kp [] room hits misses gone := h.frame fun b hb => r3.blk b (h.foot_lt hb) id
    have hb2 := h2.kept.ring.fwd
    rw [hpq, List.map_append, List.map_cons] at hb2
    have a3 : rdO Try.prog 64 w2 x.b 4 = some _ := rd_cv Try.agg64 (walk_bwd hb2)
    simp -implicitDefEqProofs only [go_sem, Nat.reduceEqDiff, a3]
    exact ⟨q.length, by simp, p ++ [x], q, v', rfl, rfl, by simp [hpq], r2, r3, r4⟩
end
end I
end Go.V
