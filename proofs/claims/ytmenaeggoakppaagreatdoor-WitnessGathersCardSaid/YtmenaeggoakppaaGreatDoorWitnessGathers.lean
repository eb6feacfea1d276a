/-
  WitnessGathers of ledgerlaw22 answers true and leaves what it reads as it was, for every call the statement names: whatever the arguments, when the four tables hold what the row lists.
-/
import Derived.WalkKit
import Derived.ProofKit
import Derived.OpenShut
import Derived.Carry
import Derived.SizedLaws
import Derived.WideKeyArgs
import Derived.Deep.DeepHandedRow
import Derived.Lib.LaidTab
import Derived.Test.YtmenaeggoakppaaGreatDoorG46
import Derived.Test.YtmenaeggoakppaaGreatDoorG47
import Derived.Test.YtmenaeggoakppaaGreatDoorG48
set_option linter.all false
namespace Go.Proofs.YtmenaeggoakppaaGreatDoor.witnessGathers
open Go.ChangeShapes Go.WideShapes Go.ChangeAt Go.RowKit
set_option linter.unusedVariables false
set_option maxRecDepth 100000
theorem own : ownKnob Tryz.prog.godebug = none := by kernel_rfl
theorem laidOut : laidOutB Tryz.prog = true := by kernel_rfl
abbrev args0 : Array Value := #[.int .i64 0, .agg (Array.replicate 32 (.int .u8 0)), .slice none 0 0, .slice none 0 0]
theorem laid_met (os : Os) : laidMet Tryz.prog Rows.witnessGathersRow.laid ((Go.V.laidW os args0).forCall (fun _ _ => 0) ⟨#[], args0, []⟩).memory :=
  laidMet_of_run' 70 (by kernel_rfl) (by kernel_rfl)
theorem reads (os : Os) {H : Type} (enc : TypeId × Value → H) : ∃ places, DataW.whole enc Tryz.prog ((Go.V.laidW os args0).forCall (fun _ _ => 0) ⟨#[], args0, []⟩).memory Tryz.f5.params.toList Rows.witnessGathersSpec.vars false args0.toList 70 = some ([.lit (.int .i64 0), .agg (List.replicate 32 (.lit (.int .u8 0))), .nil, .nil], [], places) :=
  ⟨[], by kernel_rfl⟩
theorem contract (H : Type) (enc : TypeId × Value → H) (W : World) (base : Nat) (args : Array Value) (ds gs : List (DataW H)) (before : List MemPlace)
    (hval : ∀ (j : Nat) t v, Tryz.f5.params[j]? = some t → args[j]? = some v → Value.okWide Tryz.prog W .any base t v)
    (hW : DataW.Whole enc Tryz.prog Tryz.f5.params.toList Rows.witnessGathersSpec.vars false W args.toList ds gs before)
    (hwt : (DataW.weightsEach Tryz.prog [3, 23, 24, 37] ds).all (· ≤ reachBytes) = true)
    (hT : Go.V.Tabs W) :
    Calls Tryz.prog 5 args W fun e W' => ∃ v, e = .returned v ∧ Rows.witnessGathersSpec.post enc Tryz.prog Tryz.f5 false true false false W args v W' := by
  have hW' := hW
  obtain ⟨p, q, hA0, hV, rfl, hfz, hnd⟩ := hW
  have hA : DataW.TrodAll enc Tryz.prog W 0 (fun _ => true) true Tryz.f5.params.toList args.toList ds p := hA0
  rw [Tryz.params5] at hA hval
  obtain ⟨v0, vs0, d0, ds0, p0, q0, hargs, rfl, rfl, h0, r0⟩ := trodAll_cons hA
  obtain ⟨v1, vs1, d1, ds1, p1, q1, rfl, rfl, rfl, h1, r1⟩ := trodAll_cons r0
  obtain ⟨v2, vs2, d2, ds2, p2, q2, rfl, rfl, rfl, h2, r2⟩ := trodAll_cons r1
  obtain ⟨v3, vs3, d3, ds3, p3, q3, rfl, rfl, rfl, h3, r3⟩ := trodAll_cons r2
  obtain ⟨rfl, rfl, rfl⟩ := trodAll_nil r3
  obtain rfl : args = #[v0, v1, v2, v3] := by cases args; simp_all
  obtain ⟨rfl, rfl⟩ := trodVars_none hV
  simp only [DataW.weightsEach, List.all_append, Bool.and_eq_true, List.all_eq_true, decide_eq_true_eq] at hwt
  obtain ⟨a0, rfl, rfl, rfl, w0⟩ := open_int Tryz.underlying3 (hval 0 3 v0 rfl rfl) h0
  obtain ⟨k1, n1, rfl⟩ := Go.V.open_dig (t := 23) (by kernel_rfl) (by kernel_rfl) h1 (by have := hval 1 23 v1 rfl rfl; unfold Value.okWide at this; rw [show Tryz.prog.underlying 23 = some (.array 32 5) from by kernel_rfl] at this; obtain ⟨cs, e, _⟩ := this; exact ⟨cs, e⟩)
  obtain ⟨k2, s2, l2⟩ := Go.V.open_keys h2 (okWide_slice (Go.V.qXf Go.V.Tryz.slc24) (hval 2 24 v2 rfl rfl)) (fun x hx => hwt.2.2.1 x hx)
  obtain ⟨k3, s3, l3, m3⟩ := Go.V.open_texts h3 (okWide_slice (Go.V.qXf Go.V.Tryz.slc37) (hval 3 37 v3 rfl rfl)) (fun x hx => hwt.2.2.2.1 x hx)
  clear hA0 hval hwt
  simp only [List.append_nil, List.nil_append] at hW'
  refine Calls.mono (Go.V.lawGathers W hT a0 n1 s2 s3 l2 l3 m3) fun e W' he => ?_
  cases e <;> simp only [] at he
  obtain ⟨rfl, fr⟩ := he
  have e1 : ∀ sp : Nat → Bool, (∀ x ∈ p1, sp x.block = true) → DataW.Trod enc Tryz.prog W' 0 sp true 23 _ d1 p1 := fun sp hsp => WideElems.Trod_stays laidOut (by kernel_rfl) (of_decide_eq_true (by kernel_rfl)) h1 (fr.same_old fun x hx => hW'.lt x (by simp [hx])) hsp
  have e2 : ∀ sp : Nat → Bool, (∀ x ∈ p2, sp x.block = true) → DataW.Trod enc Tryz.prog W' 0 sp true 24 _ d2 p2 := fun sp hsp => WideElems.Trod_stays laidOut (by kernel_rfl) (of_decide_eq_true (by kernel_rfl)) h2 (fr.same_old fun x hx => hW'.lt x (by simp [hx])) hsp
  have e3 : ∀ sp : Nat → Bool, (∀ x ∈ p3, sp x.block = true) → DataW.Trod enc Tryz.prog W' 0 sp true 37 _ d3 p3 := fun sp hsp => WideElems.Trod_stays laidOut (by kernel_rfl) (of_decide_eq_true (by kernel_rfl)) h3 (fr.same_old fun x hx => hW'.lt x (by simp [hx])) hsp
  have hg := Go.V.old_fr fr fun _ _ h => h
  have hnest : ([] ++ (p1 ++ (p2 ++ (p3 ++ [])))) = ((p1 ++ (p2 ++ (p3)))) := by simp
  exact ⟨_, rfl, Go.V.post_of_old (pa := ([] ++ (p1 ++ (p2 ++ (p3 ++ []))))) (pv := []) hW' (fun _ _ _ => (trodAll_cons_mk (shut_bool Tryz.underlying4 _) trodAll_mk0))
    (fun sp hsp => (trodAll_cons_mk (shut_int Tryz.underlying3 w0) (trodAll_cons_mk (e1 sp fun x hx => hsp x (by simp [hx])) (trodAll_cons_mk (e2 sp fun x hx => hsp x (by simp [hx])) (trodAll_cons_mk (e3 sp fun x hx => hsp x (by simp [hx])) trodAll_mk0))))) (fun _ _ => rfl) (by simp)
    (World.keptBut_mono (fun _ h => h.elim) hg.1) hg.2.1 (ok_one (by kernel_rfl) rfl (okWide_bool_mk Tryz.underlying4 _))⟩
theorem lifted (os : Os) (started : os.Started) (H : Type) (enc : TypeId × Value → H) (F : Stop.Interp) :
    ReturnsInHanded {} Tryz.checked os 5 .any ((OpenSpec.ofChange Rows.witnessGathersSpec).preRow enc Tryz.prog Tryz.f5 Rows.witnessGathersRow.domain false Rows.witnessGathersRow.laid) (((OpenSpec.ofChange Rows.witnessGathersSpec).at F).post enc Tryz.prog Tryz.f5 false true false false) := by
  obtain ⟨places, hx⟩ := reads os enc
  refine returnsInHanded_of_row (C := Tryz.checked) (s := OpenSpec.ofChange Rows.witnessGathersSpec) own started (by kernel_rfl) Tryz.func5
    (witness_row_at (enc := enc) (C := Tryz.checked) false (Go.V.laidW os args0) args0 rfl (by kernel_rfl) (by kernel_rfl) (by kernel_rfl)
      (OpenSpec.preRow_of_cond 70 hx (by kernel_rfl) (fun k hk => by cases hk) (by kernel_rfl) (laid_met os))) ?_
  intro W base args ds gs before hval hW _ _ hwt hL _ _
  have hg : gs = [] := by obtain ⟨_, q, _, hV, _⟩ := hW; exact (trodVars_none hV).1
  subst hg
  rw [List.append_nil] at hwt
  have hp : Tryz.f5.params.toList ++ (OpenSpec.ofChange Rows.witnessGathersSpec).bare.plain.varTypes Tryz.prog = [3, 23, 24, 37] := by rw [Tryz.params5]; rfl
  rw [show Tryz.checked.prog = Tryz.prog from rfl, hp] at hwt
  exact contract H enc W base args ds [] before hval hW hwt (Go.V.tabs_of hL)
theorem said : Rows.WitnessGathersSaid :=
  OpenClaim.holds_of_cond 5 Tryz.f5 rfl rfl rfl rfl rfl rfl rfl ⟨rfl, rfl, rfl, rfl, rfl⟩ rfl rfl rfl rfl rfl (by kernel_rfl) Tryz.func5 (by kernel_rfl)
    (of_decide_eq_true (by kernel_rfl)) (by unfold Func.isWrapper; first | (rw [if_pos (by decide +kernel)]; kernel_rfl) | (rw [if_neg (by decide +kernel)]; exact ⟨rfl, rfl⟩))
    (fun os started H enc _ F => by rw [OpenClaim.pre_eq_preRow]; exact lifted os started H enc F)
theorem plain (f : FuncId) (fn : Func) (hf : Tryz.pinned.checked.prog.funcNamed "ledger/ledgerlaw22.WitnessGathers" = some f) (hfn : Tryz.pinned.checked.prog.funcs[f]? = some fn) :
    false = Tryz.pinned.checked.prog.looks [] ∧ ∀ (j : Nat) t, fn.params[j]? = some t → Tryz.pinned.checked.prog.wantsStandIn t = false := by
  obtain rfl : f = 5 := Option.some.inj ((show Tryz.prog.funcNamed "ledger/ledgerlaw22.WitnessGathers" = some 5 by kernel_rfl).symm.trans hf) |>.symm
  obtain rfl : fn = Tryz.f5 := (Option.some.inj (Tryz.func5.symm.trans hfn)).symm
  refine ⟨by kernel_rfl, fun j t ht => ?_⟩
  rw [Tryz.params5] at ht
  match j with
  | 0 => rw [← (show 3 = t by simpa using ht)]; exact (show Tryz.prog.wantsStandIn 3 = false by kernel_rfl)
  | 1 => rw [← (show 23 = t by simpa using ht)]; exact (show Tryz.prog.wantsStandIn 23 = false by kernel_rfl)
  | 2 => rw [← (show 24 = t by simpa using ht)]; exact (show Tryz.prog.wantsStandIn 24 = false by kernel_rfl)
  | 3 => rw [← (show 37 = t by simpa using ht)]; exact (show Tryz.prog.wantsStandIn 37 = false by kernel_rfl)
  | j + 4 => simp at ht
/-- the card -/
theorem proved : Rows.WitnessGathersCardSaid :=
  Claim7.holds_tied_plain_at .later [] _ _ _ _ said (fun _ h => by cases h) (by kernel_rfl) (fun _ h => by cases h) witnessGathers_row_tie rfl ⟨rfl, rfl⟩ (by kernel_rfl) rfl plain (by kernel_rfl)
#print axioms proved
end Go.Proofs.YtmenaeggoakppaaGreatDoor.witnessGathers
