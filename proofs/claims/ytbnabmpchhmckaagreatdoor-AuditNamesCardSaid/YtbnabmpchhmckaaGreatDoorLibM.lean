/-
  The walk's 'simp' looks at what comes next only when it is reached.
-/
import Derived.Test.YtbnabmpchhmckaaGreatDoorLibK
namespace Go.V
theorem contL_only {P : Program} {ops : Array Oper} {K : Ev → World → Prop} {r : List Oper} {d : Option Nat} {ev : Ev} {w : World} {x x' : Out} (h : x = x') : contL P ops K r d ev w x = contL P ops K r d ev w x' := by rw [h]
theorem loopD_only {P : Program} {n : Nat} {bad : List Nat} {c : Code} {Q : Post} {ev : Ev} {w w' : World} (h : w = w') : LoopD P n bad c Q ev w = LoopD P n bad c Q ev w' := by rw [h]
theorem denL_only {P : Program} {ops : Array Oper} {K : Ev → World → Prop} {l l' : List Oper} {ev : Ev} {w : World} (h : l = l') : denL P ops K l ev w = denL P ops K l' ev w := by rw [h]
theorem if_only {α : Sort _} {b c : Prop} {s : Decidable b} [Decidable c] {A B : α} (h : b = c) : ite b A B = ite c A B := by
  subst h
  by_cases hb : b <;> simp [hb]
attribute [go_sem] List.getElem?_toArray List.getElem?_cons_zero List.getElem?_cons_succ beq_self_eq_true bne_self_eq_false
attribute [congr] contL_only denL_only loopD_only if_only
end Go.V
