/-
  Regions that draw their order: the lexical walk serves every order, where all that may come in either order leaves each other alone.
-/
import Derived.Test.YtbnabmpchhmckaaGreatDoorLibG
import Derived.Still
namespace Go.V
variable {P : Program} {ops : Array Oper}

def stK (P : Program) (o : Oper) (a : Act) (w : World) (K : Value → World → Prop) : Prop :=
  match kindOf P o.op with
  | 0 => ∃ v, (∀ w', (execOp a.eval o).run P w' = .ok (.value v) w') ∧ K v w
  | 1 => ∃ v, (execOp a.eval o).run P w = .ok (.value v) w ∧ K v w
  | _ => outE P (execOp a.eval o) w K
theorem stK_mono {o : Oper} {a : Act} {w : World} {K K' : Value → World → Prop} (hk : ∀ v w', K v w' → K' v w') (h : stK P o a w K) : stK P o a w K' := by
  unfold stK at *
  split at h
  · obtain ⟨v, h1, h2⟩ := h; exact ⟨v, h1, hk _ _ h2⟩
  · obtain ⟨v, h1, h2⟩ := h; exact ⟨v, h1, hk _ _ h2⟩
  · exact outE_mono hk h
theorem stK_out {o : Oper} {a : Act} {w : World} {K : Value → World → Prop} (h : stK P o a w K) : outE P (execOp a.eval o) w K := by
  unfold stK at h
  split at h
  · obtain ⟨v, h1, h2⟩ := h; simp only [outE, h1 w]; exact h2
  · obtain ⟨v, h1, h2⟩ := h; simp only [outE, h1]; exact h2
  · exact h
theorem stK_congr {o : Oper} {a a' : Act} {w : World} {K : Value → World → Prop} (he : execOp a'.eval o = execOp a.eval o) (h : stK P o a w K) : stK P o a' w K := by
  unfold stK at *
  rw [he]; exact h

def stT (P : Program) (ops : Array Oper) (i : Nat) (K : Act → World → Prop) (a : Act) (w : World) : Prop :=
  match ops[i]? with
  | none => K a w
  | some o => if Region.wanted o (yielded ops a.tmps) then stK P o a w (fun v w' => K (a.put o.dst v) w') else K (a.put o.dst undef) w
def anyT (P : Program) (ops : Array Oper) (Q : Act → World → Prop) : Nat → Array Bool → Act → World → Prop
  | 0, listed, a, w => Region.ready .any ops listed = [] ∧ Q a w
  | f + 1, listed, a, w => (Region.ready .any ops listed = [] → Q a w) ∧ ∀ i ∈ Region.ready .any ops listed, stT P ops i (anyT P ops Q f (listed.setIfInBounds i true)) a w

theorem stT_wp {i : Nat} {a : Act} {w : World} {K : Act → World → Prop} {N : Act → World → Prop} {Q : Exit → Act → World → Prop} (hk : ∀ a w, K a w → N a w) (h : stT P ops i K a w) :
    wpOp P ops Q i N a w := by
  unfold stT at h
  unfold wpOp
  split
  · rename_i ho; simp only [ho] at h; exact hk _ _ h
  · rename_i o ho
    simp only [ho] at h
    split
    · rename_i hw
      simp only [hw, if_true] at h
      exact .inl (wp_of_outE (stK_out h) fun v w' hv => hk _ _ hv)
    · rename_i hw
      simp only [hw] at h
      exact hk _ _ h
theorem any_of_anyT {Q : Act → World → Prop} {Q' : Exit → Act → World → Prop} (hQ : ∀ a w, Q a w → Q' .normal a w) : ∀ (f : Nat) (listed : Array Bool) (a : Act) (w : World),
    anyT P ops Q f listed a w → wpAny P .any ops Q' f listed a w
  | 0, _, _, _, h => ⟨h.1, hQ _ _ h.2⟩
  | f + 1, _, _, _, h => ⟨fun h0 => hQ _ _ (h.1 h0), fun i hi => stT_wp (fun a w => any_of_anyT hQ f _ a w) (h.2 i hi)⟩

theorem stT_mono {i : Nat} {a : Act} {w : World} {K K' : Act → World → Prop} (hk : ∀ a w, K a w → K' a w) (h : stT P ops i K a w) : stT P ops i K' a w := by
  unfold stT at *
  split
  · rename_i ho; simp only [ho] at h; exact hk _ _ h
  · rename_i o ho
    simp only [ho] at h
    split
    · rename_i hw; simp only [hw, if_true] at h; exact stK_mono (fun v w' => hk _ _) h
    · rename_i hw; simp only [hw] at h; exact hk _ _ h

section
variable {i j : Nat} {oi oj : Oper} (hj : ops[j]? = some oj) (hap : oi.apart ops oj = true)
  (hsi : ∀ cs b, oi.op ≠ .select cs b) (hsj : ∀ cs b, oj.op ≠ .select cs b)
include hj hap hsj in
/-- an operation behind another's value that it does not look at -/
theorem stT_put {v : Value} {K : Act → World → Prop} {a : Act} {w : World} (h : stT P ops j K (a.put oi.dst v) w) :
    stT P ops j (fun a' w' => (∃ u, a' = a.put oj.dst u) ∧ K (a'.put oi.dst v) w') a w := by
  obtain ⟨h1, h2, h3⟩ := Oper.apart_spec hap
  unfold stT at *
  simp only [hj] at *
  rw [wanted_put oj a oi.dst v h1] at h
  have hc : ∀ u, (a.put oi.dst v).put oj.dst u = (a.put oj.dst u).put oi.dst v := fun u => Act.put_comm a v u h2
  split
  · rename_i hw
    simp only [hw, if_true] at h
    refine stK_mono (fun u w' hu => ?_) (stK_congr (execOp_put oj hsj a oi.dst v h1).symm h)
    exact ⟨⟨u, rfl⟩, by rw [← hc]; exact hu⟩
  · rename_i hw
    simp only [hw] at h
    exact ⟨⟨undef, rfl⟩, by rw [← hc]; exact h⟩
include hap hsi in
theorem yields_put {v : Value} {a : Act} (u : Value) (hy : Yields P ops oi v a) : Yields P ops oi v (a.put oj.dst u) := by
  obtain ⟨_, _, h3⟩ := Oper.apart_spec hap
  exact hy.of_same (execOp_put oi hsi a oj.dst u h3) (wanted_put oi a oj.dst u h3)
end

theorem Yields.stT' {i : Nat} {o : Oper} {v : Value} {a : Act} {w : World} (hi : ops[i]? = some o) (hk : kindOf P o.op = 0) (hy : Yields P ops o v a) {K : Act → World → Prop} (h : K (a.put o.dst v) w) : stT P ops i K a w := by
  unfold stT
  simp only [hi]
  rcases hy with ⟨hw, hv⟩ | ⟨hw, rfl⟩
  · simp only [hw, if_true, stK, hk]; exact ⟨v, hv, h⟩
  · simp only [hw, Bool.false_eq_true, if_false]; exact h
theorem unwanted_stT {i : Nat} {o : Oper} {a : Act} {w : World} (hi : ops[i]? = some o) (hw : Region.wanted o (yielded ops a.tmps) = false) {K : Act → World → Prop} (h : K (a.put o.dst undef) w) : stT P ops i K a w := by
  unfold stT
  simp only [hi, hw, Bool.false_eq_true, if_false]; exact h

/-- what 'first' asks of those that may still come up and do not wait -/
def Free (ops : Array Oper) (i : Nat) (oi : Oper) (listed : Array Bool) : Prop :=
  ∀ j oj, ops[j]? = some oj → j ≠ i → listed.getD j true = false → (∀ e ∈ oj.after, Region.binds .any e = true → e.on ≠ i) → oi.apart ops oj = true
theorem Free.set {i j : Nat} {oi : Oper} {listed : Array Bool} (h : Free ops i oi listed) : Free ops i oi (listed.setIfInBounds j true) := by
  intro k ok hk hki hun hno
  refine h k ok hk hki ?_ hno
  by_cases hjk : j = k
  · subst hjk
    rcases Nat.lt_or_ge j listed.size with h' | h'
    · simp [h'] at hun
    · simp at hun
  · rw [getD_set_ne true hjk] at hun; exact hun
theorem ready_not {i j : Nat} {oj : Oper} {listed : Array Bool} (hr : i ∈ Region.ready .any ops listed) (hj : j ∈ Region.ready .any ops listed) (hoj : ops[j]? = some oj) :
    ∀ e ∈ oj.after, Region.binds .any e = true → e.on ≠ i := by
  obtain ⟨_, oj', hoj', hall⟩ := mem_ready.1 hj
  have : oj = oj' := Option.some.inj (hoj.symm.trans hoj')
  subst this
  intro e he hb heq
  have h1 := hall e he hb
  have h0 := (mem_ready.1 hr).1
  rw [heq] at h1
  rcases Nat.lt_or_ge i listed.size with h' | h'
  · simp [h'] at h0 h1; rw [h0] at h1; cases h1
  · simp [Array.getElem?_eq_none h'] at h1

theorem first0 {Q : Act → World → Prop} {i : Nat} {oi : Oper} {v : Value} (hi : ops[i]? = some oi)
    (hsel : ∀ (j : Nat) (o : Oper) cs b, ops[j]? = some o → o.op ≠ .select cs b)
    (hst : ∀ (a : Act) (w : World) (K : Act → World → Prop), Yields P ops oi v a → K (a.put oi.dst v) w → stT P ops i K a w) :
    ∀ (f : Nat) (listed : Array Bool) (a : Act) (w : World), Free ops i oi listed → i ∈ Region.ready .any ops listed → Yields P ops oi v a →
      anyT P ops Q f (listed.setIfInBounds i true) (a.put oi.dst v) w → anyT P ops Q (f + 1) listed a w := by
  intro f
  induction f with
  | zero =>
    intro listed a w _ hr hy H
    refine ⟨fun h => (by rw [h] at hr; cases hr), fun j hj => ?_⟩
    by_cases hji : j = i
    · subst hji; exact hst a w _ hy H
    · have := ready_mono hj hji
      rw [H.1] at this; cases this
  | succ f ih =>
    intro listed a w hfree hr hy H
    refine ⟨fun h => (by rw [h] at hr; cases hr), fun j hj => ?_⟩
    by_cases hji : j = i
    · subst hji; exact hst a w _ hy H
    · have h1 := H.2 j (ready_mono hj hji)
      obtain ⟨hjun, oj, hoj, _⟩ := mem_ready.1 hj
      have hap := hfree j oj hoj hji hjun (ready_not hr hj hoj)
      have h2 := stT_put hoj hap (fun cs b => hsel j oj cs b hoj) h1
      refine stT_mono (fun a' w' h3 => ?_) h2
      obtain ⟨⟨u, rfl⟩, h4⟩ := h3
      refine ih (listed.setIfInBounds j true) _ w' hfree.set (ready_mono hr (Ne.symm hji)) (yields_put hap (fun cs b => hsel i oi cs b hi) u hy) ?_
      rw [Array.setIfInBounds_comm _ _ hji]
      exact h4
end Go.V
