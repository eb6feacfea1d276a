/-
  The walk of 'nested': one step over two caches of ints.
-/
import Derived.Test.YtbbkpngcichdcaaNest
import Derived.Test.YtbbkpngcichdcaaLists
namespace Go.V
open Go.Proofs
set_option maxRecDepth 100000
namespace I
/-- two caches apart from one another, in blocks that are new since w0 -/
def Two (w0 w : World) (c1 c2 : Nat) (s g : St) : Prop :=
  ∃ F1 F2, Box w c1 F1 s ∧ Box w c2 F2 g ∧ (∀ b, F1 b → ¬ F2 b) ∧ (∀ b, F1 b → w0.heap.size ≤ b) ∧ (∀ b, F2 b → w0.heap.size ≤ b) ∧ Fr (fun _ => False) w0 w
theorem Box.lt {w : World} {cb : Nat} {F : Nat → Prop} {s : St} (h : Box w cb F s) : ∀ b, F b → b < w.heap.size := by
  obtain ⟨mb, cl, kp, hc, h1, h2, h3, h4, h5, h6, h7, h8⟩ := h
  exact h6
theorem Two.still {w0 w w' : World} {c1 c2 : Nat} {s g : St} (h : Two w0 w c1 c2 s g) (f : Fr (fun _ => False) w w') : Two w0 w' c1 c2 s g := by
  obtain ⟨F1, F2, b1, b2, hd, n1, n2, fr⟩ := h
  exact ⟨F1, F2, b1.frame f fun _ _ h => h, b2.frame f fun _ _ h => h, hd, n1, n2, fr.trans f⟩
theorem two_step {w0 w1 w2 w3 : World} {c1 c2 : Nat} {F1 F2 : Nat → Prop} {s g s' g' : St} (b1 : Box w1 c1 F1 s) (b2 : Box w1 c2 F2 g) (hd : ∀ b, F1 b → ¬ F2 b) (n1 : ∀ b, F1 b → w0.heap.size ≤ b) (n2 : ∀ b, F2 b → w0.heap.size ≤ b)
    (fr : Fr (fun _ => False) w0 w1) (x1 : Box w2 c1 (grown F1 w1 w2) s') (e1 : Fr F1 w1 w2) (x2 : Box w3 c2 (grown F2 w2 w3) g') (e2 : Fr F2 w2 w3) : Two w0 w3 c1 c2 s' g' := by
  have l1 := b1.lt
  have l2 := b2.lt
  have z1 := fr.size
  have z2 := e1.size
  have z3 := e2.size
  refine ⟨grown F1 w1 w2, grown F2 w2 w3, x1.frame e2 fun b hb h2 => ?_, x2, fun b hb h2 => ?_, fun b hb => ?_, fun b hb => ?_, ?_⟩
  · rcases hb with hb | hb
    · exact hd b hb h2
    · have := l2 b h2; omega
  · rcases hb with hb | hb <;> rcases h2 with h2 | h2
    · exact hd b hb h2
    · have := l1 b hb; omega
    · have := l2 b h2; omega
    · omega
  · rcases hb with hb | hb
    · exact n1 b hb
    · omega
  · rcases hb with hb | hb
    · exact n2 b hb
    · omega
  · exact (fr.trans' e1 fun b hb h => by have := n1 b h; omega).trans' e2 fun b hb h => by have := n2 b h; omega
def opV (kd c k v : Int) : Value := .agg #[.int .i64 kd, .int .i64 c, .int .i64 k, .int .i64 v]
theorem room_get (s : St) (k : Int) : (s.get k).room = s.room := by unfold St.get; split <;> (try split) <;> rfl
theorem room_put (s : St) (k v : Int) : (s.put k v).room = s.room := by unfold St.put; split <;> rfl
theorem room_hold (s : St) (k v : Int) : (s.hold k v).room = s.room := by unfold St.hold; split <;> rfl
theorem nested_true {w0 w : World} {c1 c2 : Nat} {s g : St} (h : Two w0 w c1 c2 s g) (hn : Nest s g) (hs : s.size < 8796093022208) (hg : g.size < 8796093022208) (kd c k v : Int) :
    Fn Try.prog 29 #[ptr (c1, 0), ptr (c2, 0), opV kd c k v] w fun x w' => x = .bool true ∧ ∃ s' g', Two w0 w' c1 c2 s' g' ∧ Nest s' g' ∧ s'.size ≤ s.size + 1 ∧ g'.size ≤ g.size + 1 ∧ s'.room = s.room ∧ g'.room = g.room := by
  have f0 : Fr (fun _ => False) w (w.alloc (.cells #[.int .i64 kd, .int .i64 c, .int .i64 k, .int .i64 v] 47)) := (Fr.refl _ _).alloc _
  have hob := alloc_blk_new w (.cells #[.int .i64 kd, .int .i64 c, .int .i64 k, .int .i64 v] 47)
  obtain ⟨F1, F2, q1, q2, hd, n1, n2, fr⟩ := h
  have l1 := q1.lt
  have l2 := q2.lt
  refine Try.go29 (by simp) ?_
  have b1 := q1.frame f0 fun _ _ h => h
  have b2 := q2.frame f0 fun _ _ h => h
  have fr1 := fr.trans f0
  generalize hw1 : w.alloc (.cells #[.int .i64 kd, .int .i64 c, .int .i64 k, .int .i64 v] 47) = w1 at *
  have o0 : cv w1 w.heap.size 0 = some (.int .i64 kd) := cv_of_row hob
  have o2 : cv w1 w.heap.size 2 = some (.int .i64 k) := cv_of_row hob
  have o3 : cv w1 w.heap.size 3 = some (.int .i64 v) := cv_of_row hob
  have r0 : rdO Try.prog 3 w1 w.heap.size 0 = some _ := rd_cv Try.agg3 o0
  have r2 : rdO Try.prog 3 w1 w.heap.size 2 = some _ := rd_cv Try.agg3 o2
  have r3 : rdO Try.prog 3 w1 w.heap.size 3 = some _ := rd_cv Try.agg3 o3
  have no1 : ¬ F1 w.heap.size := fun h => by have := l1 _ h; omega
  have hs1 : s.size < 2305843009213693952 := by omega
  have hg1 : g.size < 2305843009213693952 := by omega
  by_cases k2 : kd = 2
  · have d2 : (kd == 2) = true := by simp [k2]
    simp -implicitDefEqProofs only [go_sem, Nat.reduceEqDiff, Nat.reduceAdd, Try.f29, opV, hw1, r0, r2, r3, d2]
    refine contL_call Try.pl13 ((b1.get hs1 k).mono ?_)
    rintro _ w2 ⟨rfl, x1, e1⟩
    have b3 := b2.frame e1 fun b hb hb1 => hd b hb1 hb
    have r2' : rdO Try.prog 3 w2 w.heap.size 2 = some _ := rd_cv Try.agg3 ((e1.cv (cv_lt o2) no1 2).trans o2)
    simp -implicitDefEqProofs only [go_sem, Nat.reduceEqDiff, r2']
    refine contL_call Try.pl13 ((b3.get hg1 k).mono ?_)
    rintro _ w3 ⟨rfl, x2, e2⟩
    have fin := two_step b1 b2 hd n1 n2 fr1 x1 e1 x2 e2
    obtain ⟨hn', hgot⟩ := hn.get b1.ok b2.ok k
    have fin' : ∃ s' g', Two w0 w3 c1 c2 s' g' ∧ Nest s' g' ∧ s'.size ≤ s.size + 1 ∧ g'.size ≤ g.size + 1 ∧ s'.room = s.room ∧ g'.room = g.room := ⟨_, _, fin, hn', size_get _ _, size_get _ _, room_get _ _, room_get _ _⟩
    cases hb : (s.got k).2 with
    | false =>
      simp -implicitDefEqProofs only [go_sem, Nat.reduceEqDiff, hb, Bool.not_false]
      exact ⟨trivial, fin'⟩
    | true =>
      rw [hgot hb]
      simp -implicitDefEqProofs only [go_sem, Nat.reduceEqDiff, hb, Bool.not_true]
      exact ⟨trivial, fin'⟩
  have d2 : (kd == 2) = false := by simp [k2]
  by_cases k3 : kd = 3
  · have d3 : (kd == 3) = true := by simp [k3]
    simp -implicitDefEqProofs only [go_sem, Nat.reduceEqDiff, Nat.reduceAdd, Try.f29, opV, hw1, r0, r2, r3, d2, d3]
    refine contL_call Try.pl10 ((b1.put hs1 k v).mono ?_)
    rintro _ w2 ⟨rfl, x1, e1⟩
    have b3 := b2.frame e1 fun b hb hb1 => hd b hb1 hb
    have r2' : rdO Try.prog 3 w2 w.heap.size 2 = some _ := rd_cv Try.agg3 ((e1.cv (cv_lt o2) no1 2).trans o2)
    have r3' : rdO Try.prog 3 w2 w.heap.size 3 = some _ := rd_cv Try.agg3 ((e1.cv (cv_lt o3) no1 3).trans o3)
    simp -implicitDefEqProofs only [go_sem, Nat.reduceEqDiff, r2', r3']
    refine contL_call Try.pl10 ((b3.put hg1 k v).mono ?_)
    rintro _ w3 ⟨rfl, x2, e2⟩
    simp -implicitDefEqProofs only [go_sem, Nat.reduceEqDiff]
    exact ⟨trivial, _, _, two_step b1 b2 hd n1 n2 fr1 x1 e1 x2 e2, hn.put b1.ok b2.ok k v, size_put _ _ _, size_put _ _ _, room_put _ _ _, room_put _ _ _⟩
  have d3 : (kd == 3) = false := by simp [k3]
  by_cases k4 : kd = 4
  · have d4 : (kd == 4) = true := by simp [k4]
    simp -implicitDefEqProofs only [go_sem, Nat.reduceEqDiff, Nat.reduceAdd, Try.f29, opV, hw1, r0, r2, r3, d2, d3, d4]
    refine contL_call Try.pl19 ((b1.hold hs1 k v).mono ?_)
    rintro _ w2 ⟨rfl, x1, e1⟩
    have b3 := b2.frame e1 fun b hb hb1 => hd b hb1 hb
    have r2' : rdO Try.prog 3 w2 w.heap.size 2 = some _ := rd_cv Try.agg3 ((e1.cv (cv_lt o2) no1 2).trans o2)
    have r3' : rdO Try.prog 3 w2 w.heap.size 3 = some _ := rd_cv Try.agg3 ((e1.cv (cv_lt o3) no1 3).trans o3)
    simp -implicitDefEqProofs only [go_sem, Nat.reduceEqDiff, r2', r3']
    refine contL_call Try.pl19 ((b3.hold hg1 k v).mono ?_)
    rintro _ w3 ⟨rfl, x2, e2⟩
    simp -implicitDefEqProofs only [go_sem, Nat.reduceEqDiff]
    exact ⟨trivial, _, _, two_step b1 b2 hd n1 n2 fr1 x1 e1 x2 e2, hn.hold b1.ok b2.ok k v, size_hold _ _ _, size_hold _ _ _, room_hold _ _ _, room_hold _ _ _⟩
  have d4 : (kd == 4) = false := by simp [k4]
  by_cases k5 : kd = 5
  · have d5 : (kd == 5) = true := by simp [k5]
    simp -implicitDefEqProofs only [go_sem, Nat.reduceEqDiff, Nat.reduceAdd, Try.f29, opV, hw1, r0, r2, r3, d2, d3, d4, d5]
    refine contL_call Try.pl40 ((b1.settle hs1).mono ?_)
    rintro _ w2 ⟨rfl, x1, e1⟩
    have b3 := b2.frame e1 fun b hb hb1 => hd b hb1 hb
    simp -implicitDefEqProofs only [go_sem, Nat.reduceEqDiff]
    refine contL_call Try.pl40 ((b3.settle hg1).mono ?_)
    rintro _ w3 ⟨rfl, x2, e2⟩
    simp -implicitDefEqProofs only [go_sem, Nat.reduceEqDiff]
    exact ⟨trivial, _, _, two_step b1 b2 hd n1 n2 fr1 x1 e1 x2 e2, hn.settle, Nat.le_succ_of_le (size_settle _), Nat.le_succ_of_le (size_settle _), rfl, rfl⟩
  have d5 : (kd == 5) = false := by simp [k5]
  by_cases k6 : kd = 6
  · have d6 : (kd == 6) = true := by simp [k6]
    simp -implicitDefEqProofs only [go_sem, Nat.reduceEqDiff, Nat.reduceAdd, Try.f29, opV, hw1, r0, r2, r3, d2, d3, d4, d5, d6]
    refine contL_call Try.pl42 ((b1.release hs1 k).mono ?_)
    rintro _ w2 ⟨rfl, x1, e1⟩
    have b3 := b2.frame e1 fun b hb hb1 => hd b hb1 hb
    have r2' : rdO Try.prog 3 w2 w.heap.size 2 = some _ := rd_cv Try.agg3 ((e1.cv (cv_lt o2) no1 2).trans o2)
    simp -implicitDefEqProofs only [go_sem, Nat.reduceEqDiff, r2']
    refine contL_call Try.pl42 ((b3.release hg1 k).mono ?_)
    rintro _ w3 ⟨rfl, x2, e2⟩
    simp -implicitDefEqProofs only [go_sem, Nat.reduceEqDiff]
    exact ⟨trivial, _, _, two_step b1 b2 hd n1 n2 fr1 x1 e1 x2 e2, hn.release k, Nat.le_succ_of_le (size_release _ _), Nat.le_succ_of_le (size_release _ _), rfl, rfl⟩
  have d6 : (kd == 6) = false := by simp [k6]
  by_cases k7 : kd = 7
  · have d7 : (kd == 7) = true := by simp [k7]
    simp -implicitDefEqProofs only [go_sem, Nat.reduceEqDiff, Nat.reduceAdd, Try.f29, opV, hw1, r0, r2, r3, d2, d3, d4, d5, d6, d7]
    refine contL_call Try.pl12 ((b1.keys (by unfold St.size at hs; omega)).mono ?_)
    rintro y w2 ⟨y1, e1, _⟩
    have b3 := b2.frame e1 fun _ _ h => h
    simp -implicitDefEqProofs only [go_sem, Nat.reduceEqDiff]
    refine contL_call Try.pl12 ((b3.keys (by unfold St.size at hg; omega)).mono ?_)
    rintro z w3 ⟨z1, e2, _⟩
    simp -implicitDefEqProofs only [go_sem, Nat.reduceEqDiff]
    refine contL_call Try.pl30 ((within_true (OwnS.ints y1 |>.frame e2) (OwnS.ints z1) (fun q hq => ?_) (by unfold St.size at hs; simp; omega) (by unfold St.size at hg; simp; omega)).mono ?_)
    · rw [List.map_reverse, List.mem_reverse] at hq ⊢
      exact (hn.sub.map _).subset hq
    rintro _ w4 ⟨rfl, e4⟩
    simp -implicitDefEqProofs only [go_sem, Nat.reduceEqDiff]
    exact ⟨trivial, s, g, (Two.still ⟨F1, F2, b1, b2, hd, n1, n2, fr1⟩ ((e1.trans e2).trans e4)), hn, Nat.le_succ _, Nat.le_succ _, rfl, rfl⟩
  have d7 : (kd == 7) = false := by simp [k7]
  by_cases k8 : kd = 8
  · have d8 : (kd == 8) = true := by simp [k8]
    simp -implicitDefEqProofs only [go_sem, Nat.reduceEqDiff, Nat.reduceAdd, Try.f29, opV, hw1, r0, r2, r3, d2, d3, d4, d5, d6, d7, d8]
    refine contL_call Try.pl27 ((b1.held (by unfold St.size at hs; omega)).mono ?_)
    rintro y w2 ⟨y1, e1, _⟩
    have b3 := b2.frame e1 fun _ _ h => h
    simp -implicitDefEqProofs only [go_sem, Nat.reduceEqDiff]
    refine contL_call Try.pl27 ((b3.held (by unfold St.size at hg; omega)).mono ?_)
    rintro z w3 ⟨z1, e2, _⟩
    simp -implicitDefEqProofs only [go_sem, Nat.reduceEqDiff]
    rw [hn.kept] at y1
    refine contL_call Try.pl31 ((same_true (OwnS.ints y1 |>.frame e2) (OwnS.ints z1) (by unfold St.size at hg; simp; omega)).mono ?_)
    rintro _ w4 ⟨rfl, e4⟩
    simp -implicitDefEqProofs only [go_sem, Nat.reduceEqDiff]
    exact ⟨trivial, s, g, (Two.still ⟨F1, F2, b1, b2, hd, n1, n2, fr1⟩ ((e1.trans e2).trans e4)), hn, Nat.le_succ _, Nat.le_succ _, rfl, rfl⟩
  have d8 : (kd == 8) = false := by simp [k8]
  simp -implicitDefEqProofs only [go_sem, Nat.reduceEqDiff, Nat.reduceAdd, Try.f29, opV, hw1, r0, d2, d3, d4, d5, d6, d7, d8]
  exact ⟨trivial, s, g, ⟨F1, F2, b1, b2, hd, n1, n2, fr1⟩, hn, Nat.le_succ _, Nat.le_succ _, rfl, rfl⟩
end I
end Go.V
