/-
  The walk of 'lists'.
-/
import Derived.Test.YtbbkpngcichdcaaRowA
namespace Go.V
open Go.Proofs
set_option maxRecDepth 100000
namespace B
open I (KV St grown opV)
section
variable {w0 w w' : World} {wb : Nat} {own own' : Own} {ss rs : List St}
theorem Book.keep (h : Book w wb own) {j : Nat} {l : Value} {n : Nat} {cells : List Value} (hl : OwnO w 3 1 l n cells) (hb : ∀ b, blockOf l = some b → own b = (11, j)) (hn : n < 8796093000000) :
    Fn Try.prog 60 #[ptr (wb, 2), l] w fun x w' => x = .tuple #[] ∧ ∃ own', Book w' wb own' ∧ StepJ wb (fun i => i = j) own own' w w' := by
  obtain ⟨vg, vc, vu, gs, cs, id0, h, hg, hcs⟩ := h
  refine (h.keep hl hb hn hg).mono ?_
  rintro x w' ⟨rfl, own', vg', gs', h', hg', st⟩
  exact ⟨rfl, own', ⟨vg', vc, vu, gs', cs, id0, h', hg', hcs⟩, st.toJ rfl⟩
theorem StepJ.pend {J : Nat → Prop} {i n : Nat} {l : Value} {cells : List Value} (st : StepJ wb J own own' w w') (hj : ¬ J i) (hl : OwnO w 3 1 l n cells) (hb : ∀ b, blockOf l = some b → own b = (11, i)) :
    OwnO w' 3 1 l n cells ∧ ∀ b, blockOf l = some b → own' b = (11, i) := by
  have nb : ∀ b, blockOf l = some b → ¬ bookB (own b) := fun b hb1 hB => by
    rw [hb b hb1] at hB; rcases hB with hB | hB
    · cases hB
    · omega
  have nj : ∀ b, blockOf l = some b → ∀ k, J k → own b ≠ (11, k) := fun b hb1 k hk e => by
    rw [hb b hb1] at e
    simp only [Prod.mk.injEq, true_and] at e
    exact hj (by rw [e]; exact hk)
  refine ⟨hl.frame fun b hb1 => st.fr.blk b (hl.lt hb1) fun hh => ?_, fun b hb1 => (st.keep b (hl.lt hb1) (nb b hb1) (nj b hb1)).trans (hb b hb1)⟩
  rcases hh with hh | ⟨k, hk, e⟩
  · exact nb b hb1 hh
  · exact nj b hb1 k hk e
theorem ite_any {c : Prop} [d : Decidable c] {A B : Prop} (ha : A) (hb : B) : if c then A else B := by
  split
  · exact ha
  · exact hb
set_option maxHeartbeats 4000000 in
theorem RowAt.lists (h : RowAt w0 w wb own ss ss) {i cb rb : Nat} {s : St} (hi : ss[i]? = some s) (hx : I.Box w cb (fun b => own b = (3, i) ∧ b < w.heap.size) s) (hy : R.Ref w rb (fun b => own b = (4, i) ∧ b < w.heap.size) s) (hs : s.size < 8796090000000) (kd c k v : Int) :
    Fn Try.prog 44 #[ptr (wb, 0), opV kd c k v, ptr (cb, 0), ptr (rb, 0)] w fun x w' => x = .bool true ∧ ∃ own', RowAt w0 w' wb own' ss ss := by
  unfold I.St.size at hs
  have f0 : Fr (fun _ => False) w (w.alloc (.cells #[.int .i64 kd, .int .i64 c, .int .i64 k, .int .i64 v] 47)) := (Fr.refl _ _).alloc _
  have hob := alloc_blk_new w (.cells #[.int .i64 kd, .int .i64 c, .int .i64 k, .int .i64 v] 47)
  refine Try.go44 (by simp) ?_
  have h1 := h.grow f0 (11, 9)
  have hx1 := hx.frame f0 fun _ _ h => h
  have hy1 := hy.frame f0 fun _ _ h => h
  generalize hw1 : w.alloc (.cells #[.int .i64 kd, .int .i64 c, .int .i64 k, .int .i64 v] 47) = w1 at *
  generalize ownN own w.heap.size (11, 9) = own1 at *
  have r0 : rdO Try.prog 3 w1 w.heap.size 0 = some (.int .i64 kd) := rd_cv Try.agg3 (cv_of_row (o := 0) hob)
  have blks : ∀ {x : Value} {wa wc : World} {o : Own} {t : Nat × Nat} {n : Nat} {cs : List Value}, OwnO wc 3 1 x n cs → (∀ b, blockOf x = some b → wa.heap.size ≤ b) → ∀ b, blockOf x = some b → ownN o wa.heap.size t b = t := fun _ hn b hb => ownN_new _ (hn b hb)
  by_cases k7 : kd = 7
  case' pos =>
    have d7 : (kd == 7) = true := by simp [k7]
    simp -implicitDefEqProofs only [go_sem, Nat.reduceEqDiff, Nat.reduceAdd, Try.f44, opV, hw1, r0, d7]
    refine contL_call Try.pl12 ((hx1.keys (by omega)).mono ?_)
    rintro l w2 ⟨y1, e1, q1⟩
    have hx2 := hx1.frame e1 fun _ _ h => h
    simp -implicitDefEqProofs only [go_sem, Nat.reduceEqDiff]
    refine contL_call Try.pl12 ((hx2.keys (by omega)).mono ?_)
    rintro l2 w3 ⟨y2, e2, q2⟩
    have hy3 := (hy1.frame e1 fun _ _ h => h).frame e2 fun _ _ h => h
    simp -implicitDefEqProofs only [go_sem, Nat.reduceEqDiff]
    refine contL_call Try.pl57 ((hy3.keys (by omega)).mono ?_)
    rintro mm w4 ⟨y3, e3, q3⟩
    simp -implicitDefEqProofs only [go_sem, Nat.reduceEqDiff]
    have pack : ∃ xs : KV, xs.length < 8796090000000 ∧ OwnO w2 3 1 l xs.length (I.keysV xs) ∧ OwnO w3 3 1 l2 xs.length (I.keysV xs) ∧ OwnO w4 3 1 mm xs.length (I.keysV xs) :=
      ⟨s.clean.reverse, by rw [List.length_reverse]; omega, by rw [List.length_reverse]; exact OwnS.toO y1, by rw [List.length_reverse]; exact OwnS.toO y2, by rw [List.length_reverse]; exact y3⟩
  case' neg =>
    have d7 : (kd == 7) = false := by simp [k7]
    simp -implicitDefEqProofs only [go_sem, Nat.reduceEqDiff, Nat.reduceAdd, Try.f44, opV, hw1, r0, d7]
    refine contL_call Try.pl27 ((hx1.held (by omega)).mono ?_)
    rintro l w2 ⟨y1, e1, q1⟩
    have hx2 := hx1.frame e1 fun _ _ h => h
    simp -implicitDefEqProofs only [go_sem, Nat.reduceEqDiff]
    refine contL_call Try.pl27 ((hx2.held (by omega)).mono ?_)
    rintro l2 w3 ⟨y2, e2, q2⟩
    have hy3 := (hy1.frame e1 fun _ _ h => h).frame e2 fun _ _ h => h
    simp -implicitDefEqProofs only [go_sem, Nat.reduceEqDiff]
    refine contL_call Try.pl58 ((hy3.held (by omega)).mono ?_)
    rintro mm w4 ⟨y3, e3, q3⟩
    simp -implicitDefEqProofs only [go_sem, Nat.reduceEqDiff]
    have pack : ∃ xs : KV, xs.length < 8796090000000 ∧ OwnO w2 3 1 l xs.length (I.keysV xs) ∧ OwnO w3 3 1 l2 xs.length (I.keysV xs) ∧ OwnO w4 3 1 mm xs.length (I.keysV xs) :=
      ⟨s.kept, by omega, OwnS.toO y1, OwnS.toO y2, y3⟩
  all_goals
    obtain ⟨xs, hxs, o1, o2, o3⟩ := pack
    clear y1 y2 y3 hx1 hx2 hy1 hy3
    have h4 := ((h1.grow e1 (11, 0)).grow e2 (11, 1)).grow e3 (11, 2)
    have hlb : ∀ b, blockOf l = some b → ownN (ownN (ownN own1 w1.heap.size (11, 0)) w2.heap.size (11, 1)) w3.heap.size (11, 2) b = (11, 0) := fun b hb => by
      have b1 := o1.lt hb
      have b2 := e2.size
      rw [ownN_old _ (by omega), ownN_old _ b1, ownN_new _ (q1 b hb)]
    have hlb2 : ∀ b, blockOf l2 = some b → ownN (ownN (ownN own1 w1.heap.size (11, 0)) w2.heap.size (11, 1)) w3.heap.size (11, 2) b = (11, 1) := fun b hb => by
      have b1 := o2.lt hb
      rw [ownN_old _ b1, ownN_new _ (q2 b hb)]
    have hmb : ∀ b, blockOf mm = some b → ownN (ownN (ownN own1 w1.heap.size (11, 0)) w2.heap.size (11, 1)) w3.heap.size (11, 2) b = (11, 2) := fun b hb => ownN_new _ (q3 b hb)
    generalize ownN (ownN (ownN own1 w1.heap.size (11, 0)) w2.heap.size (11, 1)) w3.heap.size (11, 2) = own4 at *
    have e23 := e2.trans e3
    have hl4 : OwnO w4 3 1 l xs.length (I.keysV xs) := o1.frame fun b hb => e23.blk b (o1.lt hb) id
    have hl24 : OwnO w4 3 1 l2 xs.length (I.keysV xs) := o2.frame fun b hb => e3.blk b (o2.lt hb) id
    have r3 : ∀ {w5 : World}, Fr (fun _ => False) w1 w5 → rdO Try.prog 3 w5 w.heap.size 3 = some (.int .i64 v) := fun f5 => rd_cv Try.agg3 ((cv_blk (f5.blk _ (heap_lt hob) id) 3).trans (cv_of_row (o := 3) hob))
    have bd : (xs.map (·.1)).length < 4611686018427387904 := by rw [List.length_map]; omega
    refine contL_call Try.pl31 ((I.same_true (own_ints hl4) (own_ints o3) bd).mono ?_)
    rintro _ w5 ⟨rfl, f5⟩
    simp -implicitDefEqProofs only [go_sem, Nat.reduceEqDiff, Bool.not_true, List.getElem?_toArray, List.getElem?_cons_zero, List.getElem?_cons_succ, beq_self_eq_true, tf_b, ft_b, Bool.false_eq_true, if_false, if_true]
    refine contL_call Try.pl31 ((I.same_true ((own_ints hl24).frame f5) ((own_ints o3).frame f5) bd).mono ?_)
    rintro _ w6 ⟨rfl, f6⟩
    have f46 := f5.trans f6
    have r3' := r3 ((e1.trans e23).trans f46)
    simp -implicitDefEqProofs only [go_sem, Nat.reduceEqDiff, Bool.not_true, List.getElem?_toArray, List.getElem?_cons_zero, List.getElem?_cons_succ, beq_self_eq_true, tf_b, ft_b, Bool.false_eq_true, if_false, if_true, r3', binP]
    have h6 := h4.grow f46 (11, 9)
    have hl6 : OwnO w6 3 1 l xs.length (I.keysV xs) := hl4.frame fun b hb => f46.blk b (hl4.lt hb) id
    have hl26 : OwnO w6 3 1 l2 xs.length (I.keysV xs) := hl24.frame fun b hb => f46.blk b (hl24.lt hb) id
    have hm6 : OwnO w6 3 1 mm xs.length (I.keysV xs) := o3.frame fun b hb => f46.blk b (o3.lt hb) id
    have hlb6 : ∀ b, blockOf l = some b → ownN own4 w4.heap.size (11, 9) b = (11, 0) := fun b hb => (ownN_old _ (hl4.lt hb)).trans (hlb b hb)
    have hlb26 : ∀ b, blockOf l2 = some b → ownN own4 w4.heap.size (11, 9) b = (11, 1) := fun b hb => (ownN_old _ (hl24.lt hb)).trans (hlb2 b hb)
    have hmb6 : ∀ b, blockOf mm = some b → ownN own4 w4.heap.size (11, 9) b = (11, 2) := fun b hb => (ownN_old _ (o3.lt hb)).trans (hmb b hb)
    generalize ownN own4 w4.heap.size (11, 9) = own6 at *
    refine ite_any ?_ ?_
    · refine contL_call Try.pl59 ((h6.book.leave (j := 0) (J := fun i => i = 0 ∨ i = 99) (.inr rfl) (.inl rfl) hl6 hlb6 (by omega)).mono ?_)
      rintro _ w7 ⟨rfl, own7, k7, st7⟩
      have h7 := h6.step k7 st7
      obtain ⟨hl27, hlb27⟩ := st7.pend (i := 1) (by omega) hl26 hlb26
      simp -implicitDefEqProofs only [go_sem, Nat.reduceEqDiff]
      refine contL_call Try.pl59 ((h7.book.leave (j := 1) (J := fun i => i = 1 ∨ i = 99) (.inr rfl) (.inl rfl) hl27 hlb27 (by omega)).mono ?_)
      rintro _ w8 ⟨rfl, own8, k8, st8⟩
      simp -implicitDefEqProofs only [go_sem, Nat.reduceEqDiff]
      exact ⟨_, h7.step k8 st8⟩
    · skip
      refine contL_call Try.pl60 ((h6.book.keep (j := 0) hl6 hlb6 (by omega)).mono ?_)
      rintro _ w7 ⟨rfl, own7, k7, st7⟩
      have h7 := h6.step k7 st7
      obtain ⟨hl27, hlb27⟩ := st7.pend (i := 1) (by omega) hl26 hlb26
      obtain ⟨hm7, _⟩ := st7.pend (i := 2) (by omega) hm6 hmb6
      simp -implicitDefEqProofs only [go_sem, Nat.reduceEqDiff]
      refine contL_call Try.pl31 ((I.same_true (own_ints hl27) (own_ints hm7) bd).mono ?_)
      rintro _ w8 ⟨rfl, f8⟩
      have h8 := h7.grow f8 (11, 9)
      have hl28 : OwnO w8 3 1 l2 xs.length (I.keysV xs) := hl27.frame fun b hb => f8.blk b (hl27.lt hb) id
      have hlb28 : ∀ b, blockOf l2 = some b → ownN own7 w7.heap.size (11, 9) b = (11, 1) := fun b hb => (ownN_old _ (hl27.lt hb)).trans (hlb27 b hb)
      simp -implicitDefEqProofs only [go_sem, Nat.reduceEqDiff]
      refine contL_call Try.pl60 ((h8.book.keep (j := 1) hl28 hlb28 (by omega)).mono ?_)
      rintro _ w9 ⟨rfl, own9, k9, st9⟩
      simp -implicitDefEqProofs only [go_sem, Nat.reduceEqDiff]
      exact ⟨_, h8.step k9 st9⟩
end
end B
end Go.V
