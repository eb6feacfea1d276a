/-
  'denLX': a region's operations in the text's order, told that flagged ones only grow the world; the way to the machine's own word.
-/
import Derived.Test.YtbnabmpchhmckaaGreatDoorLibO
namespace Go.V
variable {P : Program}
theorem dop_read {a : Act} {o : Oper} {w : World} {K : Value → World → Prop} (h : dop P o.op o.type (evOf a) w K) (hk : kindOf P o.op = 1) :
    ∃ v, stepR P (evOf a) w o.op = some v ∧ K v w := by
  have r : ∀ {op : Op}, o.op = op → okO (stepR P (evOf a) w op) (fun v => K v w) → ∃ v, stepR P (evOf a) w o.op = some v ∧ K v w := by
    intro op ho h
    obtain ⟨v, hv, hk⟩ := okO_elim h
    exact ⟨v, ho ▸ hv, hk⟩
  obtain ⟨dst, op, ty, pos, after, guard⟩ := o
  simp only at r h hk
  cases op
  case load => exact r rfl h
  case lookup => exact r rfl h
  case typeAssert => exact r rfl h
  case binOp => simp only [dop] at h; simp only [kindOf] at hk; split at hk <;> simp_all
  case convert => simp only [kindOf] at hk; split at hk <;> simp_all
  case call c => simp only [kindOf] at hk; split at hk <;> (try split at hk) <;> simp_all
  all_goals cases hk
theorem dop_stKX {x : Bool} {a : Act} {o : Oper} {w : World} {K : Value → World → Prop} (h : dop P o.op o.type (evOf a) w fun v w' => (x = true → Ext w w') ∧ K v w') : stKX P x o a w K := by
  unfold stKX
  split
  · rename_i h0
    obtain ⟨v, h1, h2⟩ := dop_kind0 h h0
    exact ⟨v, h1, h2.2⟩
  · rename_i h0
    obtain ⟨v, h1, h2⟩ := dop_read h h0
    exact ⟨v, fun w' he => stepR_sound (stepR_ext he h1), h2.2⟩
  · exact dop_sound h
def denLX (P : Program) (ops : Array Oper) (X : Nat → Bool) (K : Ev → World → Prop) : List Nat → Ev → World → Prop
  | [], ev, w => K ev w
  | k :: r, ev, w => match ops[k]? with
    | none => False
    | some o => if wantE ops o ev = true then outK P (dopX P o.op o.type ev w) w (fun v w' => (X k = true → Ext w w') ∧ denLX P ops X K r (updV ev o.dst v) w') else denLX P ops X K r (updO ev o.dst undef) w
theorem denLX_walk {ops : Array Oper} {X : Nat → Bool} {n : Nat} {K : Ev → World → Prop} {Q : Act → World → Prop} (hQ : ∀ a w, a.tmps.size = n → a.defers = [] → K (evOf a) w → Q a w)
    (hall : (ops.toList.all fun o => dstOk n o.dst) = true) :
    ∀ (l : List Nat) (a : Act) (w : World), a.tmps.size = n → a.defers = [] → denLX P ops X K l (evOf a) w → walkTX P ops X Q l a w
  | [], a, w, hn, hd, h => hQ a w hn hd h
  | k :: r, a, w, hn, hd, h => by
    simp only [denLX] at h
    split at h
    · exact h.elim
    rename_i o ho
    simp only [walkTX, ho, wantE_eq]
    have hl1 : dstOk n o.dst = true := List.all_eq_true.1 hall o (by
      obtain ⟨hk, e⟩ := Array.getElem?_eq_some_iff.1 ho
      exact e ▸ Array.getElem_mem_toList hk)
    split at h
    · rename_i hw
      simp only [hw, if_true]
      refine stK_monoX (fun v w' hv => ?_) (dop_stKX (dop_of_X h))
      exact denLX_walk hQ hall r _ w' (by rw [put_size]; exact hn) (by rw [put_defers]; exact hd) (by rw [evOf_putO v hn hl1]; exact hv)
    · rename_i hw
      have hw' : wantE ops o (evOf a) = false := by simpa using hw
      simp only [hw', Bool.false_eq_true, if_false]
      exact denLX_walk hQ hall r _ w (by rw [put_size]; exact hn) (by rw [put_defers]; exact hd) (by rw [evOf_putO undef hn hl1]; exact h)
theorem codeD_ext {ops : Array Oper} {id n : Nat} {Q : Post} {ev : Ev} {w : World} (X : Nat → Bool) (ord : List Nat) (hB : lexAllX P ops X ord = true) (hd : (ops.toList.all fun o => dstOk n o.dst) = true)
    (h : denLX P ops X (Q .normal) ord ev w.drew) : CodeD P n (.region id ops true) Q ev w := by
  intro a hn hde hev
  subst hev
  refine wp_drawX hB (denLX_walk (n := n) (K := Q .normal) (fun a w hn hd h => ⟨hn, hd, h⟩) hd ord a w.drew hn hde h)
end Go.V
