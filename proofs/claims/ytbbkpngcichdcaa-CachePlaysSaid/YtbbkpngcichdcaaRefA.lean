/-
  The document's cache (two plain lists): lists of pairs in memory; 'at' and 'without'.
-/
import Derived.Test.YtbbkpngcichdcaaNestLaw
import Derived.Test.YtbbkpngcichdcaaSliceO
import Derived.Test.YtbbkpngcichdcaaLibQ
import Derived.Test.YtbbkpngcichdcaaKeyA
namespace Go.V
open Go.Proofs
set_option maxRecDepth 100000
theorem und95 : (Try.prog.underlying 95).isSome = true := by kernel_rfl
theorem by100 : byO Try.prog 100 = some 16 := by kernel_rfl
theorem Fr.ext0 {w w' : World} (f : Fr (fun _ => False) w w') : Ext w w' := fun b hb => f.blk b hb id
namespace R
open I (KV St wout sets)
def pairV (p : Int × Int) : List Value := [.int .i64 p.1, .int .i64 p.2]
def pairsV (l : KV) : List Value := l.flatMap pairV
theorem pairsV_cons (p : Int × Int) (l : KV) : pairsV (p :: l) = pairV p ++ pairsV l := rfl
theorem pairsV_app (l m : KV) : pairsV (l ++ m) = pairsV l ++ pairsV m := by simp [pairsV]
theorem pairsV_len (l : KV) : (pairsV l).length = l.length * 2 := by
  induction l with
  | nil => rfl
  | cons p l ih => rw [pairsV_cons, List.length_append, ih, List.length_cons]; simp only [pairV, List.length_cons, List.length_nil]; omega
theorem pairsV_get : ∀ (l : KV) (i : Nat) (p : Int × Int), l[i]? = some p → (pairsV l)[i * 2]? = some (.int .i64 p.1) ∧ (pairsV l)[i * 2 + 1]? = some (.int .i64 p.2)
  | [], _, _, h => by simp at h
  | q :: l, 0, p, h => by
    simp only [List.getElem?_cons_zero, Option.some.injEq] at h
    subst h
    rw [pairsV_cons]; exact ⟨rfl, rfl⟩
  | q :: l, i + 1, p, h => by
    simp only [List.getElem?_cons_succ] at h
    have := pairsV_get l i p h
    rw [pairsV_cons, List.getElem?_append_right (by simp [pairV]; omega), List.getElem?_append_right (by simp [pairV]; omega)]
    simp only [pairV, List.length_cons, List.length_nil]
    rw [show (i + 1) * 2 - (0 + 1 + 1) = i * 2 by omega, show (i + 1) * 2 + 1 - (0 + 1 + 1) = i * 2 + 1 by omega]
    exact this
theorem pairsV_one (l : KV) : (pairsV l).all one = true := by
  refine List.all_eq_true.2 fun v hv => ?_
  obtain ⟨p, _, hv⟩ := List.mem_flatMap.1 hv
  simp only [pairV, List.mem_cons, List.not_mem_nil, or_false] at hv
  rcases hv with rfl | rfl <;> rfl
/-- a list of pairs in memory -/
def Pairs (w : World) (v : Value) (l : KV) : Prop :=
  ∃ base cap, v = .slice base l.length cap ∧ ∀ i p, l[i]? = some p → ∃ b o, base = some ⟨b, o, none⟩ ∧ cv w b (o + i * 2) = some (.int .i64 p.1) ∧ cv w b (o + i * 2 + 1) = some (.int .i64 p.2)
theorem Pairs.frame {w w' : World} {v : Value} {l : KV} (h : Pairs w v l) (hf : ∀ b, blockOf v = some b → b < w.heap.size → w'.heap[b]? = w.heap[b]?) : Pairs w' v l := by
  obtain ⟨base, cap, rfl, h⟩ := h
  refine ⟨base, cap, rfl, fun i p hp => ?_⟩
  obtain ⟨b, o, h1, h2, h3⟩ := h i p hp
  have hb := hf b (by rw [h1]; rfl) (cv_lt h2)
  exact ⟨b, o, h1, by rw [cv_blk hb]; exact h2, by rw [cv_blk hb]; exact h3⟩
theorem Pairs.fr {w w' : World} {v : Value} {l : KV} (h : Pairs w v l) (f : Fr (fun _ => False) w w') : Pairs w' v l := h.frame fun b _ hb => f.blk b hb id
theorem own_pairs {w : World} {v : Value} {n : Nat} {l : KV} (h : OwnO w 100 2 v n (pairsV l)) : Pairs w v l ∧ n = l.length := by
  have hl := h.len
  rw [pairsV_len] at hl
  have hn : n = l.length := by omega
  subst hn
  obtain ⟨base, cap, rfl⟩ := h.slice
  refine ⟨⟨base, cap, rfl, fun i p hp => ?_⟩, rfl⟩
  have hi : i < l.length := (List.getElem?_eq_some_iff.1 hp).1
  obtain ⟨b, o, cap', e1, h1⟩ := h.at (i := i * 2) (by omega)
  obtain ⟨b', o', cap2, e2, h2⟩ := h.at (i := i * 2 + 1) (by omega)
  simp only [Value.slice.injEq, true_and] at e1 e2
  obtain ⟨rfl, rfl⟩ := e1
  simp only [Option.some.injEq, Addr.mk.injEq, and_true] at e2
  obtain ⟨⟨rfl, rfl⟩, _⟩ := e2
  have hg := pairsV_get l i p hp
  exact ⟨b, o, rfl, h1.trans hg.1, by rw [Nat.add_assoc]; exact h2.trans hg.2⟩
/-- the place of a key in a list, or -1 -/
def IsIdx (l : KV) (k r : Int) : Prop :=
  (∃ i p, r = (i : Nat) ∧ l[i]? = some p ∧ p.1 = k ∧ ∀ j q, j < i → l[j]? = some q → q.1 ≠ k) ∨ (r = -1 ∧ ∀ p ∈ l, p.1 ≠ k)
def atI (w0 : World) (v : Value) (l : KV) (k : Int) (m : Nat) (vs : List Value) (w : World) : Prop :=
  ∃ i, vs = [v, .int .i64 k, .int .i64 (i : Nat)] ∧ m = l.length - i ∧ i ≤ l.length ∧ (∀ j q, j < i → l[j]? = some q → q.1 ≠ k) ∧ w = w0
theorem at_law {w : World} {v : Value} {l : KV} (h : Pairs w v l) (k : Int) (hn : l.length < 4611686018427387904) :
    Fn Try.prog 54 #[v, .int .i64 k] w fun x w' => w = w' ∧ ∃ r, x = .int .i64 r ∧ IsIdx l k r := by
  obtain ⟨base, cap, rfl, h⟩ := h
  refine Try.go54 (by simp) ?_
  simp -implicitDefEqProofs only [go_sem, Nat.reduceEqDiff, Try.f54]
  refine loopD [0, 1, 5] (atI w (.slice base l.length cap) l k) l.length ⟨0, by simp [upd], by omega, by omega, fun j q hj => by omega, rfl⟩ ?_
  rintro m vs w1 g ⟨i, rfl, rfl, hi, hno, rfl⟩
  by_cases hlt : i < l.length
  · have i1 : 0 ≤ (i : Int) := by omega
    have i2 : (i : Int) < (l.length : Int) := by omega
    have hp : l[i]? = some l[i] := List.getElem?_eq_getElem hlt
    obtain ⟨b, o, rfl, e1, _⟩ := h i _ hp
    generalize l[i] = p at *
    have a1 : rdO Try.prog 3 w1 b (o + i * 2) = some _ := rd_cv Try.agg3 e1
    have s1 : IntKind.i64.wrap ((i : Int) + 1) = ((i + 1 : Nat) : Int) := by rw [wrap64_id (by omega) (by omega)]; rfl
    by_cases hk : p.1 = k
    · have d1 : (p.1 == k) = true := by simpa using hk
      simp -implicitDefEqProofs only [go_sem, Nat.reduceEqDiff, decide_true, i1, i2, and_self, Int.toNat_natCast, a1, d1]
      exact ⟨_, rfl, .inl ⟨i, p, rfl, hp, hk, hno⟩⟩
    · have d1 : (p.1 == k) = false := by simpa using hk
      simp -implicitDefEqProofs only [go_sem, Nat.reduceEqDiff, decide_true, i1, i2, and_self, Int.toNat_natCast, a1, d1, s1]
      refine ⟨l.length - (i + 1), by omega, i + 1, rfl, rfl, by omega, fun j q hj hq => ?_, rfl⟩
      by_cases hji : j = i
      · subst hji; rw [hp] at hq; cases hq; exact hk
      · exact hno j q (by omega) hq
  · have hd : decide ((i : Int) < (l.length : Int)) = false := by simp; omega
    simp -implicitDefEqProofs only [go_sem, Nat.reduceEqDiff, hd]
    refine ⟨_, rfl, .inr ⟨rfl, fun p hp => ?_⟩⟩
    obtain ⟨j, hj, e⟩ := List.getElem_of_mem hp
    exact hno j p (by omega) (by rw [List.getElem?_eq_getElem hj, e])
/-- a list without its element at place i -/
def woF : KV → Nat → Int → KV
  | [], _, _ => []
  | p :: l, j, i => if (j : Int) = i then woF l (j + 1) i else p :: woF l (j + 1) i
def wo (l : KV) (i : Int) : KV := woF l 0 i
theorem woF_add : ∀ (p : KV) (x : Int × Int) (j : Nat) (i : Int), woF (p ++ [x]) j i = woF p j i ++ (if ((j + p.length : Nat) : Int) = i then [] else [x])
  | [], x, j, i => by simp only [List.nil_append, woF, List.length_nil, Nat.add_zero]
  | y :: p, x, j, i => by
    simp only [List.cons_append, woF, List.length_cons]
    rw [woF_add p x (j + 1) i, show j + 1 + p.length = j + (p.length + 1) by omega]
    split
    · rfl
    · rw [List.cons_append]
theorem wo_len (l : KV) (j : Nat) (i : Int) : (woF l j i).length ≤ l.length := by
  induction l generalizing j with
  | nil => simp [woF]
  | cons p l ih =>
    unfold woF
    have := ih (j + 1)
    split
    · rw [List.length_cons]; omega
    · rw [List.length_cons, List.length_cons]; omega
theorem woF_far : ∀ (l : KV) (j : Nat) (i : Int), (∀ n : Nat, n < l.length → ((j + n : Nat) : Int) ≠ i) → woF l j i = l
  | [], _, _, _ => rfl
  | p :: l, j, i, h => by
    unfold woF
    rw [if_neg (by have := h 0 (by simp); simpa using this), woF_far l (j + 1) i fun n hn => by have := h (n + 1) (by simp; omega); rwa [show j + 1 + n = j + (n + 1) by omega]]
theorem woF_at : ∀ (a b : KV) (p : Int × Int) (j : Nat), woF (a ++ p :: b) j ((j + a.length : Nat) : Int) = a ++ b
  | [], b, p, j => by
    simp only [List.nil_append, List.length_nil, Nat.add_zero]
    unfold woF
    rw [if_pos rfl]
    exact woF_far b (j + 1) j fun n _ => by omega
  | q :: a, b, p, j => by
    simp only [List.cons_append, List.length_cons]
    unfold woF
    rw [if_neg (by omega)]
    have := woF_at a b p (j + 1)
    rw [show j + (a.length + 1) = j + 1 + a.length by omega, this]
theorem split_at {l : KV} {i : Nat} {p : Int × Int} (h : l[i]? = some p) : ∃ a b, l = a ++ p :: b ∧ a.length = i := by
  obtain ⟨hi, e⟩ := List.getElem?_eq_some_iff.1 h
  refine ⟨l.take i, l.drop (i + 1), ?_, by simp; omega⟩
  rw [← e, List.getElem_cons_drop, List.take_append_drop]
/-- taken out by place or by key -/
theorem wo_idx {l : KV} {k r : Int} (h : IsIdx l k r) (hn : (l.map (·.1)).Nodup) : wo l r = wout l k := by
  rcases h with ⟨i, p, rfl, hp, rfl, _⟩ | ⟨rfl, hno⟩
  · obtain ⟨a, b, rfl, rfl⟩ := split_at hp
    have e := woF_at a b p 0
    rw [Nat.zero_add] at e
    unfold wo
    rw [e]
    simp only [List.map_append, List.map_cons, List.nodup_append, List.nodup_cons, List.mem_map] at hn
    have e1 : ∀ q ∈ a, q.1 ≠ p.1 := fun q hq e => hn.2.2 q.1 ⟨q, hq, rfl⟩ p.1 (by simp) e
    have e2 : ∀ q ∈ b, q.1 ≠ p.1 := fun q hq e => hn.2.1.1 ⟨q, hq, e⟩
    unfold wout
    rw [List.filter_append, List.filter_cons_of_neg (by simp), List.filter_eq_self.2 (by intro q hq; simpa using e1 q hq), List.filter_eq_self.2 (by intro q hq; simpa using e2 q hq)]
  · rw [I.wout_none (I.look_none.2 hno)]
    exact woF_far l 0 (-1) fun n _ => by omega
theorem wo_head (l : KV) : wo l 0 = l.drop 1 := by
  cases l with
  | nil => rfl
  | cons p l => exact woF_at [] l p 0
theorem look_idx {l : KV} {k r : Int} (h : IsIdx l k r) : (r = -1 ∧ I.look l k = none) ∨ ∃ i p, r = (i : Nat) ∧ l[i]? = some p ∧ p.1 = k ∧ I.look l k = some p.2 := by
  rcases h with ⟨i, p, rfl, hp, rfl, hno⟩ | ⟨rfl, hno⟩
  · refine .inr ⟨i, p, rfl, hp, rfl, ?_⟩
    induction l generalizing i with
    | nil => simp at hp
    | cons q l ih =>
      cases i with
      | zero => simp only [List.getElem?_cons_zero, Option.some.injEq] at hp; subst hp; simp [I.look]
      | succ i =>
        have h0 := hno 0 q (by omega) rfl
        rw [I.look, if_neg h0]
        exact ih i (by simpa using hp) fun j q hj hq => hno (j + 1) q (by omega) (by simpa using hq)
  · exact .inl ⟨rfl, I.look_none.2 hno⟩
theorem sets_idx {l : KV} {k v : Int} {i : Nat} {p : Int × Int} (hp : l[i]? = some p) (hk : p.1 = k) (hn : (l.map (·.1)).Nodup) : sets l k v = l.set i (k, v) := by
  subst hk
  obtain ⟨a, b, rfl, rfl⟩ := split_at hp
  simp only [List.map_append, List.map_cons, List.nodup_append, List.nodup_cons, List.mem_map] at hn
  have e1 : ∀ q ∈ a, q.1 ≠ p.1 := fun q hq e => hn.2.2 q.1 ⟨q, hq, rfl⟩ p.1 (by simp) e
  have e2 : ∀ q ∈ b, q.1 ≠ p.1 := fun q hq e => hn.2.1.1 ⟨q, hq, e⟩
  have m : ∀ c : KV, (∀ q ∈ c, q.1 ≠ p.1) → c.map (fun q => if q.1 = p.1 then (q.1, v) else q) = c := fun c hc => by
    conv => rhs; rw [← List.map_id c]
    apply List.map_congr_left; intro q hq; simp [hc q hq]
  unfold sets
  rw [List.map_append, List.map_cons, m a e1, m b e2, if_pos rfl, List.set_append_right _ _ (Nat.le_refl _)]
  simp
theorem idx_cases {l : KV} {k r : Int} (h : IsIdx l k r) (hn : (l.map (·.1)).Nodup) : wo l r = wout l k ∧ ((r = -1 ∧ I.look l k = none) ∨ ∃ i p, r = (i : Nat) ∧ l[i]? = some p ∧ p.1 = k ∧ I.look l k = some p.2) := ⟨wo_idx h hn, look_idx h⟩
end R
end Go.V
