/-
  The walk of 'plays': one step of the script.
-/
import Derived.Test.YtbbkpngcichdcaaRowD
namespace Go.V
open Go.Proofs
set_option maxRecDepth 100000
theorem Try.stood27 : Try.prog.stoodInHeld 27 = false := by kernel_rfl
theorem eqV27 (d a b c e f : Nat) : eqV Try.prog (d + 2) 27 (I.tallyV a b c e f) (I.tallyV a b c e f) = some true := by
  conv => lhs; unfold eqV
  rw [Try.underlying27]
  simp only [I.tallyV, Try.stood27, Bool.false_eq_true, if_false, List.mapM_cons, List.mapM_nil, partO, Try.agg3]
  have q : ∀ n : Int, eqV Try.prog (d + 1) 3 (.int .i64 n) (.int .i64 n) = some true := fun n => by rw [I.eqV3]; simp
  simp [q]
namespace B
open I (KV St grown opV R64)
section
variable {w0 w w' : World} {wb : Nat} {own own' : Own} {ss rs : List St}
def PtrC (w : World) (wb i cb : Nat) : Prop := ∀ v l, cv w wb 0 = some v → OwnO w 23 1 v l.length (ptrs l) → l[i]? = some cb
def PtrR (w : World) (wb i cb : Nat) : Prop := ∀ v l, cv w wb 1 = some v → OwnO w 72 1 v l.length (ptrs l) → l[i]? = some cb
theorem RowAt.ptrR (h : RowAt w0 w wb own ss rs) {i j rb : Nat} (f : Fr (fun b => own b = (3, i) ∧ b < w.heap.size) w w') (hp : PtrR w wb j rb) : PtrR w' wb j rb := by
  intro v' l' c' o'
  obtain ⟨v, l, c1, c2, c3, c4, c5⟩ := h.rs
  have : cv w' wb 1 = cv w wb 1 := f.cv h.book.wlt (fun hh => by have := hh.1; rw [h.row] at this; cases this) 1
  have hv : v = v' := by rw [this, c1] at c'; exact Option.some.inj c'
  subst hv
  have c2' : OwnO w' 72 1 v l.length (ptrs l) := c2.frame fun b hb => f.blk b (c2.lt hb) fun hh => by have := hh.1; rw [c3 b hb] at this; cases this
  have := own_uniq c2' o'
  subst this
  exact hp v l c1 c2
theorem RowAt.getRef (h : RowAt w0 w wb own ss rs) {i rb : Nat} {s : St} (hp : PtrR w wb i rb) (hi : rs[i]? = some s) : R.Ref w rb (fun b => own b = (4, i) ∧ b < w.heap.size) s := by
  obtain ⟨v, l, c1, c2, c3, c4, c5⟩ := h.rs
  obtain ⟨rb', e1, e2⟩ := c5 i s hi
  have := hp v l c1 c2
  rw [e1] at this; cases this
  exact e2
/-- both caches of place i make the same step -/
theorem RowAt.both (h : RowAt w0 w wb own ss ss) {i cb rb : Nat} {s s' : St} {w1 w2 : World} (hi : ss[i]? = some s) (hc : PtrC w wb i cb) (hr : PtrR w wb i rb)
    (x1 : I.Box w1 cb (grown (fun b => own b = (3, i) ∧ b < w.heap.size) w w1) s') (e1 : Fr (fun b => own b = (3, i) ∧ b < w.heap.size) w w1)
    (x2 : R.Ref w2 rb (grown (fun b => ownN own w.heap.size (3, i) b = (4, i) ∧ b < w1.heap.size) w1 w2) s') (e2 : Fr (fun b => ownN own w.heap.size (3, i) b = (4, i) ∧ b < w1.heap.size) w1 w2) :
    ∃ own', RowAt w0 w2 wb own' (ss.set i s') (ss.set i s') :=
  ⟨_, (h.box hi hc x1 e1).ref hi (h.ptrR e1 hr) x2 e2⟩
theorem sizes {n : Nat} {i : Nat} {s' : St} (h : ∀ s ∈ ss, s.size ≤ n) (hs : s'.size ≤ n + 1) : ∀ s ∈ ss.set i s', s.size ≤ n + 1 := fun s hm => by
  rcases List.mem_or_eq_of_mem_set hm with hm | rfl
  · have := h s hm; omega
  · exact hs
theorem idx_law (c : Int) {n : Nat} (hn : 0 < n) (hb : n < 4611686018427387904) : (c.tmod (n : Int) < 0 ∧ ∃ i : Nat, IntKind.i64.wrap (c.tmod (n : Int) + (n : Int)) = (i : Int) ∧ i < n) ∨ ∃ i : Nat, c.tmod (n : Int) = (i : Int) ∧ i < n := by
  have h1 : (c.tmod (n : Int)) < n := Int.tmod_lt_of_pos _ (by omega)
  have h2 : -(n : Int) < c.tmod (n : Int) := Int.lt_tmod_of_pos _ (by omega)
  by_cases h : c.tmod (n : Int) < 0
  · left
    refine ⟨h, (c.tmod (n : Int) + n).toNat, ?_, by omega⟩
    rw [wrap64_id (by omega) (by omega)]; omega
  · right
    exact ⟨(c.tmod (n : Int)).toNat, by omega, by omega⟩
theorem mem_of {i : Nat} {s : St} (hi : ss[i]? = some s) : s ∈ ss := List.mem_of_getElem? hi
set_option maxHeartbeats 8000000 in
theorem RowAt.plays (h : RowAt w0 w wb own ss ss) {n : Nat} (hn : n ≤ 8796070000000) (hl0 : 0 < ss.length) (hl1 : ss.length ≤ 8796070000000) (hs : ∀ s ∈ ss, s.size ≤ n) (kd c k v : Int) :
    Fn Try.prog 15 #[ptr (wb, 0), opV kd c k v] w fun x w' => x = .bool true ∧ ∃ own' ss', RowAt w0 w' wb own' ss' ss' ∧ 0 < ss'.length ∧ ss'.length ≤ ss.length + 1 ∧ ∀ s ∈ ss', s.size ≤ n + 1 := by
  have f0 : Fr (fun _ => False) w (w.alloc (.cells #[.int .i64 kd, .int .i64 c, .int .i64 k, .int .i64 v] 47)) := (Fr.refl _ _).alloc _
  have hob := alloc_blk_new w (.cells #[.int .i64 kd, .int .i64 c, .int .i64 k, .int .i64 v] 47)
  refine Try.go15 (by simp) ?_
  have h1 := h.grow (f0.drew) (11, 9)
  generalize hw1 : w.alloc (.cells #[.int .i64 kd, .int .i64 c, .int .i64 k, .int .i64 v] 47) = w1 at *
  have hot : ownN own w.heap.size (11, 9) w.heap.size = (11, 9) := ownN_new _ (Nat.le_refl _)
  generalize ownN own w.heap.size (11, 9) = own1 at *
  have hob' : w1.drew.heap[w.heap.size]? = some (.cells #[.int .i64 kd, .int .i64 c, .int .i64 k, .int .i64 v] 47) := hob
  have r1 : rdO Try.prog 3 w1.drew w.heap.size 1 = some (.int .i64 c) := rd_cv Try.agg3 (cv_of_row (o := 1) hob')
  obtain ⟨vs, l, c1, c2, c3, c4, c5⟩ := h1.cs
  obtain ⟨us, m, d1, d2, d3, d4, d5⟩ := h1.rs
  have ra : rdO Try.prog 36 w1.drew wb 0 = some vs := rd_cv Try.agg36 c1
  have rb : rdO Try.prog 37 w1.drew wb 1 = some us := rd_cv Try.agg37 d1
  have hpc : ∀ {i x}, l[i]? = some x → PtrC w1.drew wb i x := fun hx v' l' g1 g2 => by
    rw [c1] at g1; cases g1
    rw [← own_uniq c2 g2]; exact hx
  have hpr : ∀ {i x}, m[i]? = some x → PtrR w1.drew wb i x := fun hx v' l' g1 g2 => by
    rw [d1] at g1; cases g1
    rw [← own_uniq d2 g2]; exact hx
  obtain ⟨vb, vcap, hvs⟩ := c2.slice
  obtain ⟨ub, ucap, hus⟩ := d2.slice
  have nz : ¬ ((l.length : Int) = 0) := by omega
  have pick : ∀ {idx : Nat}, idx < l.length → ∃ cb rb' s b o b2 o2, ss[idx]? = some s ∧ PtrC w1.drew wb idx cb ∧ PtrR w1.drew wb idx rb' ∧ I.Box w1.drew cb (fun b => own1 b = (3, idx) ∧ b < w1.drew.heap.size) s ∧ R.Ref w1.drew rb' (fun b => own1 b = (4, idx) ∧ b < w1.drew.heap.size) s ∧
      vb = some ⟨b, o, none⟩ ∧ ub = some ⟨b2, o2, none⟩ ∧ rdO Try.prog 23 w1.drew b (o + idx) = some (ptr (cb, 0)) ∧ rdO Try.prog 72 w1.drew b2 (o2 + idx) = some (ptr (rb', 0)) := by
    intro idx hlt
    have hi : ss[idx]? = some (ss[idx]'(by omega)) := List.getElem?_eq_getElem (by omega)
    generalize ss[idx]'(by omega) = s at hi
    obtain ⟨cb, g1, g2⟩ := c5 idx s hi
    obtain ⟨rb', g3, g4⟩ := d5 idx s hi
    obtain ⟨b, o, cap, g5, g6⟩ := c2.at (i := idx) (by omega)
    obtain ⟨b2, o2, cap2, g7, g8⟩ := d2.at (i := idx) (by omega)
    rw [hvs] at g5
    rw [hus] at g7
    simp only [Value.slice.injEq, true_and] at g5 g7
    refine ⟨cb, rb', s, b, o, b2, o2, hi, hpc g1, hpr g3, g2, g4, g5.1, g7.1, rd_cv Try.agg23 (g6.trans ?_), rd_cv Try.agg72 (g8.trans ?_)⟩
    · rw [List.getElem?_map, g1]; rfl
    · rw [List.getElem?_map, g3]; rfl
  subst hvs; subst hus
  have hll : m.length = l.length := by omega
  rcases idx_law c (n := l.length) (by omega) (by omega) with ⟨hneg, idx, hidx, hlt⟩ | ⟨idx, hidx, hlt⟩
  case' inl =>
    have dn : decide (c.tmod (l.length : Int) < 0) = true := by simp [hneg]
    obtain ⟨cb, rb', s, b, o, b2, o2, hi, pc, pr, hx, hy, rfl, rfl, q1, q2⟩ := pick hlt
    have i1 : 0 ≤ (idx : Int) := by omega
    have i2 : (idx : Int) < (l.length : Int) := by omega
    have i3 : (idx : Int) < (m.length : Int) := by omega
    simp -implicitDefEqProofs only [go_sem, Nat.reduceEqDiff, Nat.reduceAdd, Try.f15, opV, hw1, r1, ra, rb, nz, if_false, dn, hidx, i1, i2, i3, and_self, Int.toNat_natCast, Nat.mul_one, q1, q2]
  case' inr =>
    have dn : decide ((idx : Int) < 0) = false := by simp
    obtain ⟨cb, rb', s, b, o, b2, o2, hi, pc, pr, hx, hy, rfl, rfl, q1, q2⟩ := pick hlt
    have i1 : 0 ≤ (idx : Int) := by omega
    have i2 : (idx : Int) < (l.length : Int) := by omega
    have i3 : (idx : Int) < (m.length : Int) := by omega
    simp -implicitDefEqProofs only [go_sem, Nat.reduceEqDiff, Nat.reduceAdd, Try.f15, opV, hw1, r1, ra, rb, nz, if_false, hidx, dn, i1, i2, i3, and_self, Int.toNat_natCast, Nat.mul_one, q1, q2]
  all_goals
    have hsz := hs s (mem_of hi)
    have hok := hx.ok
    have z1 : s.size < 2305843009213693952 := by omega
    have z2 : s.size < 8796090000000 := by omega
    have r0 : rdO Try.prog 3 w1.drew w.heap.size 0 = some (.int .i64 kd) := rd_cv Try.agg3 (cv_of_row (o := 0) hob')
    have r2 : rdO Try.prog 3 w1.drew w.heap.size 2 = some (.int .i64 k) := rd_cv Try.agg3 (cv_of_row (o := 2) hob')
    have r3 : rdO Try.prog 3 w1.drew w.heap.size 3 = some (.int .i64 v) := rd_cv Try.agg3 (cv_of_row (o := 3) hob')
    have tb : ∀ {w3 : World}, Fr (fun b => own1 b = (3, idx) ∧ b < w1.drew.heap.size) w1.drew w3 → w3.heap[w.heap.size]? = some (.cells #[.int .i64 kd, .int .i64 c, .int .i64 k, .int .i64 v] 47) := fun f3 => (f3.blk _ (heap_lt hob') fun hh => by have := hh.1; rw [hot] at this; cases this).trans hob'
    have rk : ∀ {w3 : World}, Fr (fun b => own1 b = (3, idx) ∧ b < w1.drew.heap.size) w1.drew w3 → rdO Try.prog 3 w3 w.heap.size 2 = some (.int .i64 k) := fun f3 => rd_cv Try.agg3 (cv_of_row (o := 2) (tb f3))
    have rv : ∀ {w3 : World}, Fr (fun b => own1 b = (3, idx) ∧ b < w1.drew.heap.size) w1.drew w3 → rdO Try.prog 3 w3 w.heap.size 3 = some (.int .i64 v) := fun f3 => rd_cv Try.agg3 (cv_of_row (o := 3) (tb f3))
    have same : ∀ {w3 : World} {own3 : Own}, RowAt w0 w3 wb own3 ss ss → ∃ own' ss', RowAt w0 w3 wb own' ss' ss' ∧ 0 < ss'.length ∧ ss'.length ≤ ss.length + 1 ∧ ∀ s ∈ ss', s.size ≤ n + 1 := fun h3 => ⟨_, ss, h3, hl0, Nat.le_succ _, fun s hm => Nat.le_succ_of_le (hs s hm)⟩
    by_cases k1 : kd = 1
    · have d1' : (kd == 1) = true := by simp [k1]
      simp -implicitDefEqProofs only [go_sem, Nat.reduceEqDiff, Nat.reduceAdd, r0, d1', r2]
      refine contL_call Try.pl14 ((h1.joins (by omega) k).mono ?_)
      rintro _ w3 ⟨rfl, own3, h3⟩
      simp -implicitDefEqProofs only [go_sem, Nat.reduceEqDiff]
      refine ⟨own3, _, h3, by rw [List.length_append]; omega, by rw [List.length_append]; exact Nat.le_refl _, fun t ht => ?_⟩
      rcases List.mem_append.1 ht with ht | ht
      · exact Nat.le_succ_of_le (hs t ht)
      · simp only [List.mem_singleton] at ht
        subst ht
        simp [I.St.new, I.St.size]
    have d1' : (kd == 1) = false := by simp [k1]
    by_cases k2 : kd = 2
    · have d2' : (kd == 2) = true := by simp [k2]
      simp -implicitDefEqProofs only [go_sem, Nat.reduceEqDiff, Nat.reduceAdd, r0, d1', d2', r2]
      refine contL_call Try.pl13 ((hx.get z1 k).mono ?_)
      rintro _ w3 ⟨rfl, x1, e1⟩
      have hy3 := (h1.box hi pc x1 e1).getRef (h1.ptrR e1 pr) hi
      have r2w := rk e1
      simp -implicitDefEqProofs only [go_sem, Nat.reduceEqDiff, Nat.reduceAdd, r2w]
      refine contL_call Try.pl37 ((hy3.get hok (by omega) k).mono ?_)
      rintro _ w4 ⟨rfl, x2, e2⟩
      simp -implicitDefEqProofs only [go_sem, Nat.reduceEqDiff, List.getElem?_toArray, List.getElem?_cons_zero, List.getElem?_cons_succ, beq_self_eq_true, if_true]
      obtain ⟨own4, h4⟩ := h1.both hi pc pr x1 e1 x2 e2
      exact ⟨own4, _, h4, by rw [List.length_set]; exact hl0, by rw [List.length_set]; exact Nat.le_succ _, sizes hs (by have := I.size_get s k; omega)⟩
    have d2' : (kd == 2) = false := by simp [k2]
    by_cases k3 : kd = 3
    · have d3 : (kd == 3) = true := by simp [k3]
      simp -implicitDefEqProofs only [go_sem, Nat.reduceEqDiff, Nat.reduceAdd, r0, d1', d2', d3, r2, r3]
      refine contL_call Try.pl10 ((hx.put z1 k v).mono ?_)
      rintro _ w3 ⟨rfl, x1, e1⟩
      have hy3 := (h1.box hi pc x1 e1).getRef (h1.ptrR e1 pr) hi
      have r2w := rk e1
      have r3w := rv e1
      simp -implicitDefEqProofs only [go_sem, Nat.reduceEqDiff, Nat.reduceAdd, r2w, r3w]
      refine contL_call Try.pl38 ((hy3.put hok (by omega) k v).mono ?_)
      rintro _ w4 ⟨rfl, x2, e2⟩
      simp -implicitDefEqProofs only [go_sem, Nat.reduceEqDiff]
      obtain ⟨own4, h4⟩ := h1.both hi pc pr x1 e1 x2 e2
      exact ⟨own4, _, h4, by rw [List.length_set]; exact hl0, by rw [List.length_set]; exact Nat.le_succ _, sizes hs (by have := I.size_put s k v; omega)⟩
    have d3 : (kd == 3) = false := by simp [k3]
    by_cases k4 : kd = 4
    · have d4 : (kd == 4) = true := by simp [k4]
      simp -implicitDefEqProofs only [go_sem, Nat.reduceEqDiff, Nat.reduceAdd, r0, d1', d2', d3, d4, r2, r3]
      refine contL_call Try.pl19 ((hx.hold z1 k v).mono ?_)
      rintro _ w3 ⟨rfl, x1, e1⟩
      have hy3 := (h1.box hi pc x1 e1).getRef (h1.ptrR e1 pr) hi
      have r2w := rk e1
      have r3w := rv e1
      simp -implicitDefEqProofs only [go_sem, Nat.reduceEqDiff, Nat.reduceAdd, r2w, r3w]
      refine contL_call Try.pl39 ((hy3.hold hok (by omega) k v).mono ?_)
      rintro _ w4 ⟨rfl, x2, e2⟩
      simp -implicitDefEqProofs only [go_sem, Nat.reduceEqDiff]
      obtain ⟨own4, h4⟩ := h1.both hi pc pr x1 e1 x2 e2
      exact ⟨own4, _, h4, by rw [List.length_set]; exact hl0, by rw [List.length_set]; exact Nat.le_succ _, sizes hs (by have := I.size_hold s k v; omega)⟩
    have d4 : (kd == 4) = false := by simp [k4]
    by_cases k5 : kd = 5
    · have d5 : (kd == 5) = true := by simp [k5]
      simp -implicitDefEqProofs only [go_sem, Nat.reduceEqDiff, Nat.reduceAdd, r0, d1', d2', d3, d4, d5]
      refine contL_call Try.pl40 ((hx.settle z1).mono ?_)
      rintro _ w3 ⟨rfl, x1, e1⟩
      have hy3 := (h1.box hi pc x1 e1).getRef (h1.ptrR e1 pr) hi
      simp -implicitDefEqProofs only [go_sem, Nat.reduceEqDiff, Nat.reduceAdd]
      refine contL_call Try.pl41 ((hy3.settle (by omega)).mono ?_)
      rintro _ w4 ⟨rfl, x2, e2⟩
      simp -implicitDefEqProofs only [go_sem, Nat.reduceEqDiff]
      obtain ⟨own4, h4⟩ := h1.both hi pc pr x1 e1 x2 e2
      exact ⟨own4, _, h4, by rw [List.length_set]; exact hl0, by rw [List.length_set]; exact Nat.le_succ _, sizes hs (by have := I.size_settle s; omega)⟩
    have d5 : (kd == 5) = false := by simp [k5]
    by_cases k6 : kd = 6
    · have d6 : (kd == 6) = true := by simp [k6]
      simp -implicitDefEqProofs only [go_sem, Nat.reduceEqDiff, Nat.reduceAdd, r0, d1', d2', d3, d4, d5, d6, r2]
      refine contL_call Try.pl42 ((hx.release z1 k).mono ?_)
      rintro _ w3 ⟨rfl, x1, e1⟩
      have hy3 := (h1.box hi pc x1 e1).getRef (h1.ptrR e1 pr) hi
      have r2w := rk e1
      simp -implicitDefEqProofs only [go_sem, Nat.reduceEqDiff, Nat.reduceAdd, r2w]
      refine contL_call Try.pl43 ((hy3.release (by omega) k).mono ?_)
      rintro _ w4 ⟨rfl, x2, e2⟩
      simp -implicitDefEqProofs only [go_sem, Nat.reduceEqDiff]
      obtain ⟨own4, h4⟩ := h1.both hi pc pr x1 e1 x2 e2
      exact ⟨own4, _, h4, by rw [List.length_set]; exact hl0, by rw [List.length_set]; exact Nat.le_succ _, sizes hs (by have := I.size_release s k; omega)⟩
    have d6 : (kd == 6) = false := by simp [k6]
    have r47 : rdO Try.prog 47 w1.drew w.heap.size 0 = some _ := rd_all (vs := #[.int .i64 kd, .int .i64 c, .int .i64 k, .int .i64 v]) Try.agg47 Try.sz47 hob'
    by_cases k7 : kd = 7
    · have d7 : (kd == 7) = true := by simp [k7]
      simp -implicitDefEqProofs only [go_sem, Nat.reduceEqDiff, Nat.reduceAdd, r0, d1', d2', d3, d4, d5, d6, d7, r47]
      refine contL_call Try.pl44 ((h1.lists hi hx (h1.getRef pr hi) z2 kd c k v).mono ?_)
      rintro _ w3 ⟨rfl, own3, h3⟩
      simp -implicitDefEqProofs only [go_sem, Nat.reduceEqDiff]
      exact same h3
    have d7 : (kd == 7) = false := by simp [k7]
    by_cases k8 : kd = 8
    · have d8 : (kd == 8) = true := by simp [k8]
      simp -implicitDefEqProofs only [go_sem, Nat.reduceEqDiff, Nat.reduceAdd, r0, d1', d2', d3, d4, d5, d6, d7, d8, r47]
      refine contL_call Try.pl44 ((h1.lists hi hx (h1.getRef pr hi) z2 kd c k v).mono ?_)
      rintro _ w3 ⟨rfl, own3, h3⟩
      simp -implicitDefEqProofs only [go_sem, Nat.reduceEqDiff]
      exact same h3
    have d8 : (kd == 8) = false := by simp [k8]
    by_cases k9 : kd = 9
    · have d9 : (kd == 9) = true := by simp [k9]
      simp -implicitDefEqProofs only [go_sem, Nat.reduceEqDiff, Nat.reduceAdd, r0, d1', d2', d3, d4, d5, d6, d7, d8, d9]
      refine contL_call Try.pl11 (hx.tally.mono ?_)
      rintro _ w3 ⟨rfl, e1⟩
      have h3 := h1.grow e1 (11, 9)
      have hy3 := hy.frame e1 fun _ _ h => h
      simp -implicitDefEqProofs only [go_sem, Nat.reduceEqDiff]
      refine contL_call Try.pl45 (hy3.tally.mono ?_)
      rintro _ w4 ⟨rfl, e2⟩
      have eq27 := eqV27 9998 s.hits s.misses s.gone s.clean.length s.kept.length
      rw [show 9998 + 2 = Op.maxDepth from rfl] at eq27
      simp only [I.tallyV] at eq27
      simp -implicitDefEqProofs only [go_sem, Nat.reduceEqDiff, I.tallyV, eq27]
      exact same (h3.grow e2 (11, 9))
    have d9 : (kd == 9) = false := by simp [k9]
    simp -implicitDefEqProofs only [go_sem, Nat.reduceEqDiff, Nat.reduceAdd, r0, d1', d2', d3, d4, d5, d6, d7, d8, d9]
    exact same h1
end
end B
end Go.V
