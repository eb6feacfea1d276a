/-
  The walk of 'twin': one step over a cache of ints and one of keys and texts.
-/
import Derived.Test.YtbbkpngcichdcaaTwinLaw
import Derived.Test.YtbbkpngcichdcaaWord
namespace Go.V
open Go.Proofs
set_option maxRecDepth 100000
namespace S
open I (St opV In64 R64)
theorem Fr.ext {w w' : World} (f : Fr (fun _ => False) w w') : Ext w w' := fun b hb => f.blk b hb id
theorem r64 {n : Int} (h : R64 n) : InR n := h
theorem Box.lt {w : World} {cb : Nat} {F : Nat → Prop} {s : St} (h : Box w cb F s) : ∀ b, F b → b < w.heap.size := by
  obtain ⟨mb, cl, kp, hc, h1, h2, h3, h4, h5, h6, h7, h8⟩ := h
  exact h6
/-- a cache of ints and one of keys and texts, apart from one another, in blocks that are new since w0 -/
def Twins (w0 w : World) (c1 c2 : Nat) (s g : St) : Prop :=
  ∃ F1 F2, I.Box w c1 F1 s ∧ S.Box w c2 F2 g ∧ (∀ b, F1 b → ¬ F2 b) ∧ (∀ b, F1 b → w0.heap.size ≤ b) ∧ (∀ b, F2 b → w0.heap.size ≤ b) ∧ Fr (fun _ => False) w0 w
theorem twins_step {w0 w1 w2 w2' w3 : World} {c1 c2 : Nat} {F1 F2 : Nat → Prop} {s g s' g' : St} (b1 : I.Box w1 c1 F1 s) (b2 : S.Box w1 c2 F2 g) (hd : ∀ b, F1 b → ¬ F2 b) (n1 : ∀ b, F1 b → w0.heap.size ≤ b) (n2 : ∀ b, F2 b → w0.heap.size ≤ b)
    (fr : Fr (fun _ => False) w0 w1) (x1 : I.Box w2 c1 (I.grown F1 w1 w2) s') (e1 : Fr F1 w1 w2) (m : Fr (fun _ => False) w2 w2') (x2 : S.Box w3 c2 (I.grown F2 w2' w3) g') (e2 : Fr F2 w2' w3) : Twins w0 w3 c1 c2 s' g' := by
  have l1 := b1.lt
  have l2 := b2.lt
  have z1 := fr.size
  have z2 := e1.size
  have z3 := e2.size
  have z4 := m.size
  refine ⟨I.grown F1 w1 w2, I.grown F2 w2' w3, (x1.frame m fun _ _ h => h).frame e2 fun b hb h2 => ?_, x2, fun b hb h2 => ?_, fun b hb => ?_, fun b hb => ?_, ?_⟩
  · rcases hb with hb | hb
    · exact hd b hb h2
    · have := l2 b h2; omega
  · rcases hb with hb | hb <;> rcases h2 with h2 | h2
    · exact hd b hb h2
    · have := l1 b hb; omega
    · have := l2 b h2; omega
    · omega
  · rcases hb with hb | hb
    · exact n1 b hb
    · omega
  · rcases hb with hb | hb
    · exact n2 b hb
    · omega
  · exact ((fr.trans' e1 fun b hb h => by have := n1 b h; omega).trans m).trans' e2 fun b hb h => by have := n2 b h; omega
theorem Twins.still {w0 w w' : World} {c1 c2 : Nat} {s g : St} (h : Twins w0 w c1 c2 s g) (f : Fr (fun _ => False) w w') : Twins w0 w' c1 c2 s g := by
  obtain ⟨F1, F2, b1, b2, hd, n1, n2, fr⟩ := h
  exact ⟨F1, F2, b1.frame f fun _ _ h => h, b2.frame f fun _ _ h => h, hd, n1, n2, fr.trans f⟩
theorem tf_beq : (true == false) = false := rfl
theorem ft_beq : (false == true) = false := rfl
set_option maxHeartbeats 4000000 in
theorem twin_true {w0 w : World} {c1 c2 : Nat} {g : St} {j : Nat} (h : Twins w0 w c1 c2 (g.bump j) g) (hi : g.In) (hj : j ≤ 2) (hg : g.size < 8796093022208) {kd c k v : Int} (hk : R64 k) (hv : R64 v) :
    Fn Try.prog 23 #[ptr (c1, 0), ptr (c2, 0), opV kd c k v] w fun x w' => x = .bool true ∧ ∃ g', Twins w0 w' c1 c2 (g'.bump j) g' ∧ g'.In ∧ g'.size ≤ g.size + 1 := by
  have f0 : Fr (fun _ => False) w (w.alloc (.cells #[.int .i64 kd, .int .i64 c, .int .i64 k, .int .i64 v] 47)) := (Fr.refl _ _).alloc _
  have hob := alloc_blk_new w (.cells #[.int .i64 kd, .int .i64 c, .int .i64 k, .int .i64 v] 47)
  obtain ⟨F1, F2, q1, q2, hd, n1, n2, fr⟩ := h
  have l1 := q1.lt
  have l2 := q2.lt
  refine Try.go23 (by simp) ?_
  have b1 := q1.frame f0 fun _ _ h => h
  have b2 := q2.frame f0 fun _ _ h => h
  have fr1 := fr.trans f0
  generalize hw1 : w.alloc (.cells #[.int .i64 kd, .int .i64 c, .int .i64 k, .int .i64 v] 47) = w1 at *
  have o0 : cv w1 w.heap.size 0 = some (.int .i64 kd) := cv_of_row hob
  have o2 : cv w1 w.heap.size 2 = some (.int .i64 k) := cv_of_row hob
  have o3 : cv w1 w.heap.size 3 = some (.int .i64 v) := cv_of_row hob
  have r0 : rdO Try.prog 3 w1 w.heap.size 0 = some _ := rd_cv Try.agg3 o0
  have r2 : rdO Try.prog 3 w1 w.heap.size 2 = some _ := rd_cv Try.agg3 o2
  have r3 : rdO Try.prog 3 w1 w.heap.size 3 = some _ := rd_cv Try.agg3 o3
  have no1 : ¬ F1 w.heap.size := fun h => by have := l1 _ h; omega
  have hg1 : g.size < 2305843009213693952 := by omega
  have hs1 : (g.bump j).size < 2305843009213693952 := by rw [I.size_bump]; omega
  have rk : ∀ {w2}, Fr F1 w1 w2 → rdO Try.prog 3 w2 w.heap.size 2 = some (.int .i64 k) := fun e1 => rd_cv Try.agg3 ((e1.cv (cv_lt o2) no1 2).trans o2)
  have rv : ∀ {w2}, Fr F1 w1 w2 → rdO Try.prog 3 w2 w.heap.size 3 = some (.int .i64 v) := fun e1 => rd_cv Try.agg3 ((e1.cv (cv_lt o3) no1 3).trans o3)
  by_cases k2 : kd = 2
  · have d2 : (kd == 2) = true := by simp [k2]
    simp -implicitDefEqProofs only [go_sem, Nat.reduceEqDiff, Nat.reduceAdd, Try.f23, opV, hw1, r0, r2, d2]
    refine contL_call Try.pl13 ((b1.get hs1 k).mono ?_)
    rintro _ w2 ⟨rfl, x1, e1⟩
    have r2' := rk e1
    simp -implicitDefEqProofs only [go_sem, Nat.reduceEqDiff, r2']
    refine contL_call Try.pl21 ((path w2 k).mono ?_)
    rintro _ w2' ⟨rfl, m2⟩
    have b3 := (b2.frame e1 fun b hb hb1 => hd b hb1 hb).frame m2 fun _ _ h => h
    simp -implicitDefEqProofs only [go_sem, Nat.reduceEqDiff]
    refine contL_call Try.pl50 ((b3.get hg1 k (r64 hk)).mono ?_)
    rintro _ w3 ⟨rfl, x2, e2⟩
    have fin := twins_step b1 b2 hd n1 n2 fr1 x1 e1 m2 x2 e2
    rw [I.get_bump] at fin
    rw [I.got_bump]
    have fin' : ∃ g', Twins w0 w3 c1 c2 (g'.bump j) g' ∧ g'.In ∧ g'.size ≤ g.size + 1 := ⟨_, fin, hi.get hk, I.size_get _ _⟩
    cases hb : (g.got k).2 with
    | false =>
      have h0 := I.St.got_no hb
      have d3 : ((g.got k).1 == 0) = true := by simp [h0]
      simp -implicitDefEqProofs only [go_sem, Nat.reduceEqDiff, List.getElem?_toArray, List.getElem?_cons_zero, List.getElem?_cons_succ, beq_self_eq_true, tf_beq, ft_beq, Bool.not_false, d3, Bool.false_eq_true, if_false, if_true]
      exact fin'
    | true =>
      have hne := hi.got k
      generalize (g.got k).1 = y at *
      simp -implicitDefEqProofs only [go_sem, Nat.reduceEqDiff, List.getElem?_toArray, List.getElem?_cons_zero, List.getElem?_cons_succ, beq_self_eq_true, tf_beq, ft_beq, Bool.not_true, Bool.false_eq_true, if_false, if_true]
      refine contL_call Try.pl22 ((word_walk w3 hne).mono ?_)
      rintro _ w4 ⟨rfl, m4⟩
      simp -implicitDefEqProofs only [go_sem, Nat.reduceEqDiff, List.getElem?_toArray, List.getElem?_cons_zero, List.getElem?_cons_succ, beq_self_eq_true, tf_beq, ft_beq, Bool.not_true, Bool.false_eq_true, if_false, if_true]
      obtain ⟨g', p1, p2, p3⟩ := fin'
      exact ⟨g', p1.still m4, p2, p3⟩
  have d2 : (kd == 2) = false := by simp [k2]
  by_cases k3 : kd = 3
  · have d3 : (kd == 3) = true := by simp [k3]
    simp -implicitDefEqProofs only [go_sem, Nat.reduceEqDiff, Nat.reduceAdd, Try.f23, opV, hw1, r0, r2, r3, d2, d3]
    refine contL_call Try.pl10 ((b1.put hs1 k v).mono ?_)
    rintro _ w2 ⟨rfl, x1, e1⟩
    simp -implicitDefEqProofs only [go_sem, Nat.reduceEqDiff]
    have r2' := rk e1.drew
    have r3' := rv e1.drew
    refine den_ext (fun j => j == 3) [0, 1, 2, 4, 5, 3, 6, 7] rfl (by kernel_rfl) (by kernel_rfl) ?_
    simp -implicitDefEqProofs only [go_sem, Nat.reduceEqDiff, List.getElem?_toArray, List.getElem?_cons_zero, List.getElem?_cons_succ, r2', r3']
    refine contLX_call Try.pl21 ((path _ k).mono ?_)
    rintro _ w2' ⟨rfl, m2⟩
    refine ⟨fun _ => Fr.ext m2, ?_⟩
    simp -implicitDefEqProofs only [go_sem, Nat.reduceEqDiff, List.getElem?_toArray, List.getElem?_cons_zero, List.getElem?_cons_succ]
    refine contLX_call Try.pl22 ((word_walk _ (r64 hv)).mono ?_)
    rintro _ w2q ⟨rfl, m3⟩
    refine ⟨fun h => (by cases h), ?_⟩
    simp -implicitDefEqProofs only [go_sem, Nat.reduceEqDiff, List.getElem?_toArray, List.getElem?_cons_zero, List.getElem?_cons_succ]
    have m23 : Fr (fun _ => False) w2 w2q := (Fr.refl _ _).drew.trans (m2.trans m3)
    have b3 := (b2.frame e1 fun b hb hb1 => hd b hb1 hb).frame m23 fun _ _ h => h
    refine contLX_call Try.pl51 ((b3.put hg1 k v (r64 hk)).mono ?_)
    rintro _ w3 ⟨rfl, x2, e2⟩
    refine ⟨fun h => (by cases h), ?_⟩
    have fin := twins_step b1 b2 hd n1 n2 fr1 x1 e1 m23 x2 e2
    rw [I.put_bump] at fin
    simp -implicitDefEqProofs only [go_sem, Nat.reduceEqDiff]
    exact ⟨_, fin, hi.put hk hv, I.size_put _ _ _⟩
  have d3 : (kd == 3) = false := by simp [k3]
  by_cases k4 : kd = 4
  · have d4 : (kd == 4) = true := by simp [k4]
    simp -implicitDefEqProofs only [go_sem, Nat.reduceEqDiff, Nat.reduceAdd, Try.f23, opV, hw1, r0, r2, r3, d2, d3, d4]
    refine contL_call Try.pl19 ((b1.hold hs1 k v).mono ?_)
    rintro _ w2 ⟨rfl, x1, e1⟩
    simp -implicitDefEqProofs only [go_sem, Nat.reduceEqDiff]
    have r2' := rk e1.drew
    have r3' := rv e1.drew
    refine den_ext (fun j => j == 3) [0, 1, 2, 4, 5, 3, 6, 7] rfl (by kernel_rfl) (by kernel_rfl) ?_
    simp -implicitDefEqProofs only [go_sem, Nat.reduceEqDiff, List.getElem?_toArray, List.getElem?_cons_zero, List.getElem?_cons_succ, r2', r3']
    refine contLX_call Try.pl21 ((path _ k).mono ?_)
    rintro _ w2' ⟨rfl, m2⟩
    refine ⟨fun _ => Fr.ext m2, ?_⟩
    simp -implicitDefEqProofs only [go_sem, Nat.reduceEqDiff, List.getElem?_toArray, List.getElem?_cons_zero, List.getElem?_cons_succ]
    refine contLX_call Try.pl22 ((word_walk _ (r64 hv)).mono ?_)
    rintro _ w2q ⟨rfl, m3⟩
    refine ⟨fun h => (by cases h), ?_⟩
    simp -implicitDefEqProofs only [go_sem, Nat.reduceEqDiff, List.getElem?_toArray, List.getElem?_cons_zero, List.getElem?_cons_succ]
    have m23 : Fr (fun _ => False) w2 w2q := (Fr.refl _ _).drew.trans (m2.trans m3)
    have b3 := (b2.frame e1 fun b hb hb1 => hd b hb1 hb).frame m23 fun _ _ h => h
    refine contLX_call Try.pl20 ((b3.hold hg1 k v (r64 hk)).mono ?_)
    rintro _ w3 ⟨rfl, x2, e2⟩
    refine ⟨fun h => (by cases h), ?_⟩
    have fin := twins_step b1 b2 hd n1 n2 fr1 x1 e1 m23 x2 e2
    rw [I.hold_bump] at fin
    simp -implicitDefEqProofs only [go_sem, Nat.reduceEqDiff]
    exact ⟨_, fin, hi.hold hk hv, I.size_hold _ _ _⟩
  have d4 : (kd == 4) = false := by simp [k4]
  by_cases k5 : kd = 5
  · have d5 : (kd == 5) = true := by simp [k5]
    simp -implicitDefEqProofs only [go_sem, Nat.reduceEqDiff, Nat.reduceAdd, Try.f23, opV, hw1, r0, d2, d3, d4, d5]
    refine contL_call Try.pl40 ((b1.settle hs1).mono ?_)
    rintro _ w2 ⟨rfl, x1, e1⟩
    have b3 := b2.frame e1 fun b hb hb1 => hd b hb1 hb
    simp -implicitDefEqProofs only [go_sem, Nat.reduceEqDiff]
    refine contL_call Try.pl52 ((b3.settle hg1).mono ?_)
    rintro _ w3 ⟨rfl, x2, e2⟩
    have fin := twins_step b1 b2 hd n1 n2 fr1 x1 e1 (Fr.refl _ _) x2 e2
    rw [I.settle_bump] at fin
    simp -implicitDefEqProofs only [go_sem, Nat.reduceEqDiff]
    exact ⟨_, fin, hi.settle, Nat.le_succ_of_le (I.size_settle _)⟩
  have d5 : (kd == 5) = false := by simp [k5]
  by_cases k6 : kd = 6
  · have d6 : (kd == 6) = true := by simp [k6]
    simp -implicitDefEqProofs only [go_sem, Nat.reduceEqDiff, Nat.reduceAdd, Try.f23, opV, hw1, r0, r2, d2, d3, d4, d5, d6]
    refine contL_call Try.pl42 ((b1.release hs1 k).mono ?_)
    rintro _ w2 ⟨rfl, x1, e1⟩
    have b3 := b2.frame e1 fun b hb hb1 => hd b hb1 hb
    have r2' := rk e1
    simp -implicitDefEqProofs only [go_sem, Nat.reduceEqDiff, r2']
    refine contL_call Try.pl53 ((b3.release hg1 k).mono ?_)
    rintro _ w3 ⟨rfl, x2, e2⟩
    have fin := twins_step b1 b2 hd n1 n2 fr1 x1 e1 (Fr.refl _ _) x2 e2
    rw [I.release_bump] at fin
    simp -implicitDefEqProofs only [go_sem, Nat.reduceEqDiff]
    exact ⟨_, fin, hi.release k, Nat.le_succ_of_le (I.size_release _ _)⟩
  have d6 : (kd == 6) = false := by simp [k6]
  simp -implicitDefEqProofs only [go_sem, Nat.reduceEqDiff, Nat.reduceAdd, Try.f23, opV, hw1, r0, d2, d3, d4, d5, d6]
  exact ⟨g, ⟨F1, F2, b1, b2, hd, n1, n2, fr1⟩, hi, Nat.le_succ _⟩
end S
end Go.V
