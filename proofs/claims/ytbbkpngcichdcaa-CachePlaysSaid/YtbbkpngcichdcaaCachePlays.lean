/-
  CachePlays of ledgerlaw7 answers true and leaves what it reads as it was, for every call the statement names. The frame's form is the print of proof-skeleton.mjs for another law.
-/
import Derived.Test.YtbbkpngcichdcaaRows
import Derived.Test.YtbbkpngcichdcaaScriptOpen
import Derived.Test.YtbbkpngcichdcaaPlaysLaw
import Derived.Test.YtbbkpngcichdcaaRowk
import Derived.WalkKit
import Derived.ProofKit
import Derived.OpenShut
import Derived.Carry
import Derived.SizedLaws
namespace Go.Proofs.Ytbbkpngcichdcaa.cachePlays
open Go.ChangeShapes Go.WideShapes Go.ChangeAt Go.RowKit
set_option linter.unusedVariables false

theorem own : ownKnob Try.prog.godebug = none := by kernel_rfl
theorem laidOut : laidOutB Try.prog = true := by kernel_rfl

set_option maxRecDepth 100000 in
theorem lifted (os : Os) (started : os.Started) (H : Type) (enc : TypeId × Value → H) :
    ReturnsInHanded {} Try.checked os 6 .any (Rows.cachePlaysSpec.pre6 enc Try.prog Try.f6 Rows.cachePlaysRow.domain false) (Rows.cachePlaysSpec.post enc Try.prog Try.f6 false true false false) := by
  refine returnsInHanded_of_change_sized (C := Try.checked) own started (by kernel_rfl) Try.func6
    (ChangeSpec.witness6 (enc := enc) (C := Try.checked) false ⟨#[], #[.int .i64 0, .slice none 0 0], []⟩ 6 (by kernel_rfl) (by kernel_rfl) (by kernel_rfl) (by kernel_rfl)) ?_
  intro W base args ds gs before hval0 hW hcnd hwt _
  have hval : ∀ (j : Nat) t v, Try.f6.params[j]? = some t → args[j]? = some v → Value.okWide Try.prog W .any base t v := hval0
  have hW' := hW
  obtain ⟨p, q, hA0, hV, rfl, hfz, hnd⟩ := hW
  have hA : DataW.TrodAll enc Try.prog W 0 (fun _ => true) true Try.f6.params.toList args.toList ds p := hA0
  rw [Try.params6] at hA hval
  obtain ⟨v0, vs0, d0, ds0, p0, q0, hargs, rfl, rfl, h0, r0⟩ := trodAll_cons hA
  obtain ⟨v1, vs1, d1, ds1, p1, q1, rfl, rfl, rfl, h1, r1⟩ := trodAll_cons r0
  obtain ⟨rfl, rfl, rfl⟩ := trodAll_nil r1
  obtain rfl : args = #[v0, v1] := by cases args; simp_all
  obtain ⟨rfl, rfl⟩ := trodVars_none hV
  obtain ⟨a0, rfl, rfl, rfl, w0⟩ := open_int Try.underlying3 (hval 0 3 v0 rfl rfl) h0
  have hw1 : ∀ x ∈ d1.weights Try.prog 34, x ≤ reachBytes := by
    have hp : Try.f6.params.toList = [3, 34] := by rw [Try.params6]
    rw [show (Try.checked.prog) = Try.prog from rfl, hp] at hwt
    simp only [List.cons_append, DataW.weightsEach, List.all_append, Bool.and_eq_true, List.all_eq_true, decide_eq_true_eq] at hwt
    exact hwt.2.1
  obtain ⟨n, hs, hn⟩ := Go.V.I.open_ops h1 (okWide_slice Try.underlying34 (hval 1 34 v1 rfl rfl)) hw1
  clear hA0 hval0
  simp only [List.append_nil, List.nil_append] at hW'
  have hlt : ∀ x ∈ p1, x.block < W.heap.size := fun x hx => hW'.lt x hx
  refine Calls.mono (Go.V.B.playsLaw hs hn a0) fun e W' he => ?_
  cases e <;> simp only [] at he
  obtain ⟨rfl, fr⟩ := he
  have hg := Go.V.grown_fr fr fun _ _ h => h
  have hsame : ∀ x ∈ p1, W.sameAt W' x := fun x hx => by
    have hb := fr.blk _ (hlt x hx) id
    cases x with
    | cell b o => simp only [World.sameAt, World.cell?]; rw [show W'.heap[b]? = W.heap[b]? from hb]
    | map b => exact hb
  have hargs : ∀ sp : Nat → Bool, (∀ x ∈ p1, sp x.block = true) → DataW.TrodAll enc Try.prog W' 0 sp true [3, 34] [.int .i64 a0, v1] [.lit (.int .i64 a0), d1] p1 := fun sp hsp => by
    have e1 : DataW.Trod enc Try.prog W' 0 sp true 34 v1 d1 p1 := WideElems.Trod_stays laidOut (by kernel_rfl) (of_decide_eq_true (by kernel_rfl)) h1 hsame fun x hx => hsp x hx
    have e2 : DataW.TrodAll enc Try.prog W' 0 sp true [34] [v1] [d1] (p1 ++ []) := trodAll_cons_mk e1 trodAll_mk0
    have e4 : DataW.TrodAll enc Try.prog W' 0 sp true [3, 34] [.int .i64 a0, v1] [.lit (.int .i64 a0), d1] ([] ++ (p1 ++ [])) := trodAll_cons_mk (shut_int Try.underlying3 w0) e2
    simpa using e4
  exact ⟨_, rfl, post_of_same (pa := p1) (pv := []) hW' (fun _ _ _ => (trodAll_cons_mk (shut_bool Try.underlying4 _) trodAll_mk0))
    (fun sp hsp => hargs sp hsp) (fun _ _ => rfl) (by simp)
    (hg.frame _) hg.2.1 (ok_one (by kernel_rfl) rfl (okWide_bool_mk Try.underlying4 _))⟩

theorem over : Rows.cachePlaysRow.holds Try.pinned (OpenSpec.ofChange Rows.cachePlaysSpec) :=
  OpenClaim.holds_of_wide 6 Try.f6 rfl rfl rfl rfl rfl rfl rfl ⟨rfl, rfl, rfl, rfl, rfl⟩ rfl rfl rfl rfl rfl (by kernel_rfl) Try.func6 (by kernel_rfl)
    (of_decide_eq_true (by kernel_rfl)) (by unfold Func.isWrapper; first | (rw [if_pos (by decide +kernel)]; kernel_rfl) | (rw [if_neg (by decide +kernel)]; exact ⟨rfl, rfl⟩))
    (fun os started H enc _ => lifted os started H enc)

/-- the statement -/
theorem proved : Rows.CachePlaysSaid :=
  over
#print axioms proved
end Go.Proofs.Ytbbkpngcichdcaa.cachePlays
