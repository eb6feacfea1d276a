/-
  From a frame of blocks to what a row's proof asks of a world.
-/
import Derived.Test.YtbbkpngcichdcaaCacheC
import Derived.RowKit3
namespace Go.V
open Go.Proofs Go.RowKit
theorem frozen_thaw {w : World} {a : Addr} (h : Thawed w a.block) : w.frozen? a = false := by
  unfold World.frozen?
  split
  · rename_i heq
    have := h _ heq
    simp only [fzO, Bool.not_eq_false', Bool.and_eq_true, beq_iff_eq] at this
    obtain ⟨h1, h2⟩ := this
    subst h1; subst h2
    simp
  · rfl
theorem keptBut_fr {F : Nat → Prop} {w w' : World} (h : Fr F w w') (hF : ∀ b, b < w.heap.size → ¬ F b) : w.keptBut w' (fun _ => False) := by
  refine ⟨h.os, h.out, fun i hi => ?_⟩
  rw [h.blk i hi (hF i hi)]
  split <;> simp_all
theorem grown_fr {F : Nat → Prop} {w w' : World} (h : Fr F w w') (hF : ∀ b, b < w.heap.size → ¬ F b) : Grown w w' := by
  refine ⟨keptBut_fr h hF, fun a => ?_, h.size⟩
  by_cases ha : a.block < w.heap.size
  · unfold World.frozen?; rw [h.blk _ ha (hF _ ha)]
  · have h1 : Thawed w a.block := thaw_new (by omega)
    rw [frozen_thaw h1, frozen_thaw (h.thaw _ h1)]
/-- a call that answers 'true' and has only new blocks -/
theorem calls_true {P : Program} {f : FuncId} {args : Array Value} {w : World} (h : Fn P f args w fun v w' => v = .bool true ∧ Fr (fun _ => False) w w') :
    Calls P f args w fun e w' => e = .returned (.bool true) ∧ Grown w w' := by
  refine Calls.mono h fun e w' he => ?_
  cases e <;> simp only [] at he
  exact ⟨by rw [he.1], grown_fr he.2 fun _ _ h => h⟩
end Go.V
