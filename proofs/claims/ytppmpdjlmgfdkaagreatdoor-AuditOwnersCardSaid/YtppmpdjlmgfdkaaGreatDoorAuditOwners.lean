/-
 AuditOwners of ledgerlaw17 answers true and leaves what it reads as it was, for every call the statement names: whatever the arguments, when the five tables hold what the row lists.
-/
import Derived.WalkKit
import Derived.ProofKit
import Derived.OpenShut
import Derived.Carry
import Derived.SizedLaws
import Derived.WideKeyArgs
import Derived.Deep.DeepHandedRow
import Derived.Lib.LaidTab
import Derived.Test.YtppmpdjlmgfdkaaGreatDoorG37
import Derived.Test.YtppmpdjlmgfdkaaGreatDoorG39
set_option linter.all false
namespace Go.Proofs.YtppmpdjlmgfdkaaGreatDoor.auditOwners
open Go.ChangeShapes Go.WideShapes Go.ChangeAt Go.RowKit
set_option linter.unusedVariables false
set_option maxRecDepth 100000
theorem own:ownKnob Tryz.prog.godebug=none:=by kernel_rfl
theorem laidOut:laidOutB Tryz.prog=true:=by kernel_rfl
abbrev args0:Array Value:=#[.slice none 0 0, .int .i64 0]
theorem laid_met (os:Os):laidMet Tryz.prog Rows.auditOwnersRow.laid ((Go.V.laidW os args0).forCall (fun _ _=>0) ⟨#[], args0, []⟩).memory :=
 laidMet_of_run' 70 (by kernel_rfl) (by kernel_rfl)
theorem reads (os:Os){H:Type}(enc:TypeId × Value→H):∃ places, DataW.whole enc Tryz.prog ((Go.V.laidW os args0).forCall (fun _ _=>0) ⟨#[], args0, []⟩).memory Tryz.f7.params.toList Rows.auditOwnersSpec.vars false args0.toList 70=some ([.nil, .lit (.int .i64 0)], [], places) :=
 ⟨[], by kernel_rfl⟩
theorem contract (H:Type)(enc:TypeId × Value→H)(W:World)(base:Nat)(args:Array Value)(ds gs:List (DataW H))(before:List MemPlace)
  (hval:∀ (j:Nat) t v, Tryz.f7.params[j]?=some t→args[j]?=some v→Value.okWide Tryz.prog W .any base t v)
  (hW:DataW.Whole enc Tryz.prog Tryz.f7.params.toList Rows.auditOwnersSpec.vars false W args.toList ds gs before)
  (hwt:(DataW.weightsEach Tryz.prog [22, 3] ds).all (·≤reachBytes)=true)
  (hT:Go.V.Tabs W∧Go.V.R.DivT W) :
  Calls Tryz.prog 7 args W fun e W'=>∃ v, e=.returned v∧Rows.auditOwnersSpec.post enc Tryz.prog Tryz.f7 false true false false W args v W':=by
 have hW':=hW
 obtain⟨p, q, hA0, hV, rfl, hfz, hnd⟩:=hW
 have hA:DataW.TrodAll enc Tryz.prog W 0 (fun _=>true) true Tryz.f7.params.toList args.toList ds p:=hA0
 rw[Tryz.params7]at hA hval
 obtain⟨v0, vs0, d0, ds0, p0, q0, hargs, rfl, rfl, h0, r0⟩:=trodAll_cons hA
 obtain⟨v1, vs1, d1, ds1, p1, q1, rfl, rfl, rfl, h1, r1⟩:=trodAll_cons r0
 obtain⟨rfl, rfl, rfl⟩:=trodAll_nil r1
 obtain rfl:args=#[v0, v1]:=by cases args;simp_all
 obtain⟨rfl, rfl⟩:=trodVars_none hV
 simp only[DataW.weightsEach, List.all_append, Bool.and_eq_true, List.all_eq_true, decide_eq_true_eq]at hwt
 obtain⟨k0, s0, l0⟩:=Go.V.open_bytes h0 (okWide_slice (Go.V.qXu Go.V.Tryz.slc22) (hval 0 22 v0 rfl rfl)) (fun x hx=>hwt.1 x hx)
 obtain⟨a1, rfl, rfl, rfl, w1⟩:=open_int Tryz.underlying3 (hval 1 3 v1 rfl rfl) h1
 clear hA0 hval hwt
 simp only[List.append_nil, List.nil_append]at hW'
 refine Calls.mono (Go.V.auditOwners W hT.1 hT.2 s0 l0 a1) fun e W' he=>?_
 cases e <;> simp only[]at he
 obtain⟨rfl, fr⟩:=he
 have e0:∀ sp:Nat→Bool, (∀ x ∈ p0, sp x.block=true)→DataW.Trod enc Tryz.prog W' 0 sp true 22 _ d0 p0:=fun sp hsp=>WideElems.Trod_stays laidOut (by kernel_rfl) (of_decide_eq_true (by kernel_rfl)) h0 (fr.same_old fun x hx=>hW'.lt x (by simp[hx])) hsp
 have hg:=Go.V.old_fr fr fun _ _ h=>h
 have hnest:(p0++([]++[]))=(p0++([])):=by simp
 exact⟨_, rfl, Go.V.post_of_old (pa:=(p0++([]++[]))) (pv:=[]) hW' (fun _ _ _=>(trodAll_cons_mk (shut_bool Tryz.underlying4 _) trodAll_mk0))
  (fun sp hsp=>(trodAll_cons_mk (e0 sp fun x hx=>hsp x (by simp[hx])) (trodAll_cons_mk (shut_int Tryz.underlying3 w1) trodAll_mk0))) (fun _ _=>rfl) (by simp)
  (World.keptBut_mono (fun _ h=>h.elim) hg.1) hg.2.1 (ok_one (by kernel_rfl) rfl (okWide_bool_mk Tryz.underlying4 _))⟩
theorem lifted (os:Os)(started:os.Started)(H:Type)(enc:TypeId × Value→H)(F:Stop.Interp) :
  ReturnsInHanded {} Tryz.checked os 7 .any ((OpenSpec.ofChange Rows.auditOwnersSpec).preRow enc Tryz.prog Tryz.f7 Rows.auditOwnersRow.domain false Rows.auditOwnersRow.laid) (((OpenSpec.ofChange Rows.auditOwnersSpec).at F).post enc Tryz.prog Tryz.f7 false true false false):=by
 obtain⟨places, hx⟩:=reads os enc
 refine returnsInHanded_of_row (C:=Tryz.checked) (s:=OpenSpec.ofChange Rows.auditOwnersSpec) own started (by kernel_rfl) Tryz.func7
  (witness_row_at (enc:=enc) (C:=Tryz.checked) false (Go.V.laidW os args0) args0 rfl (by kernel_rfl) (by kernel_rfl) (by kernel_rfl)
   (OpenSpec.preRow_of_cond 70 hx (by kernel_rfl) (fun k hk=>by cases hk) (by kernel_rfl) (laid_met os))) ?_
 intro W base args ds gs before hval hW _ _ hwt hL _ _
 have hg:gs=[]:=by obtain⟨_, q, _, hV, _⟩:=hW;exact (trodVars_none hV).1
 subst hg
 rw[List.append_nil]at hwt
 have hp:Tryz.f7.params.toList++(OpenSpec.ofChange Rows.auditOwnersSpec).bare.plain.varTypes Tryz.prog=[22, 3]:=by rw[Tryz.params7];rfl
 rw[show Tryz.checked.prog=Tryz.prog from rfl, hp]at hwt
 exact contract H enc W base args ds [] before hval hW hwt (Go.V.tabs_of hL)
theorem said:Rows.AuditOwnersSaid :=
 OpenClaim.holds_of_cond 7 Tryz.f7 rfl rfl rfl rfl rfl rfl rfl ⟨rfl, rfl, rfl, rfl, rfl⟩ rfl rfl rfl rfl rfl (by kernel_rfl) Tryz.func7 (by kernel_rfl)
  (of_decide_eq_true (by kernel_rfl)) (by unfold Func.isWrapper;first | (rw[if_pos (by decide +kernel)];kernel_rfl) | (rw[if_neg (by decide +kernel)];exact⟨rfl, rfl⟩))
  (fun os started H enc _ F=>by rw[OpenClaim.pre_eq_preRow];exact lifted os started H enc F)
theorem plain (f : FuncId) (fn : Func) (hf : Tryz.pinned.checked.prog.funcNamed "ledger/ledgerlaw17.AuditOwners" = some f) (hfn : Tryz.pinned.checked.prog.funcs[f]? = some fn) :
  true=Tryz.pinned.checked.prog.looks []∧∀ (j:Nat) t, fn.params[j]?=some t→Tryz.pinned.checked.prog.wantsStandIn t=false:=by
 obtain rfl : f = 7 := Option.some.inj ((show Tryz.prog.funcNamed "ledger/ledgerlaw17.AuditOwners" = some 7 by kernel_rfl).symm.trans hf) |>.symm
 obtain rfl:fn=Tryz.f7:=(Option.some.inj (Tryz.func7.symm.trans hfn)).symm
 refine⟨by kernel_rfl, fun j t ht=>?_⟩
 rw[Tryz.params7]at ht
 match j with
 | 0=>rw[← (show 22=t by simpa using ht)];exact (show Tryz.prog.wantsStandIn 22=false by kernel_rfl)
 | 1=>rw[← (show 3=t by simpa using ht)];exact (show Tryz.prog.wantsStandIn 3=false by kernel_rfl)
 | j+2=>simp at ht
/-- the card -/
theorem proved:Rows.AuditOwnersCardSaid :=
 Claim7.holds_tied_plain_at .later [] _ _ _ _ said (fun _ h=>by cases h) (by kernel_rfl) (fun _ h=>by cases h) auditOwners_row_tie rfl ⟨rfl, rfl⟩ (by kernel_rfl) rfl plain (by kernel_rfl)
#print axioms proved
end Go.Proofs.YtppmpdjlmgfdkaaGreatDoor.auditOwners
