/-
 AuditMade of ledgerlaw17 answers true and leaves what it reads as it was, for every call the statement names: whatever the arguments, when the five tables hold what the row lists.
-/
import Derived.WalkKit
import Derived.ProofKit
import Derived.OpenShut
import Derived.Carry
import Derived.SizedLaws
import Derived.WideKeyArgs
import Derived.Deep.DeepHandedRow
import Derived.Lib.LaidTab
import Derived.Test.YtppmpdjlmgfdkaaGreatDoorM25
import Derived.Test.YtppmpdjlmgfdkaaGreatDoorM27
set_option linter.all false
namespace Go.Proofs.YtppmpdjlmgfdkaaGreatDoor.auditMade
open Go.ChangeShapes Go.WideShapes Go.ChangeAt Go.RowKit
set_option linter.unusedVariables false
set_option maxRecDepth 100000
theorem own:ownKnob Tryz.prog.godebug=none:=by kernel_rfl
theorem laidOut:laidOutB Tryz.prog=true:=by kernel_rfl
abbrev args0:Array Value:=#[.slice none 0 0]
theorem laid_met (os:Os):laidMet Tryz.prog Rows.auditMadeRow.laid ((Go.V.laidW os args0).forCall (fun _ _=>0) ⟨#[], args0, []⟩).memory :=
 laidMet_of_run' 70 (by kernel_rfl) (by kernel_rfl)
theorem reads (os:Os){H:Type}(enc:TypeId × Value->H):∃ places, DataW.whole enc Tryz.prog ((Go.V.laidW os args0).forCall (fun _ _=>0) ⟨#[], args0, []⟩).memory Tryz.f3.params.toList Rows.auditMadeSpec.vars false args0.toList 70=some ([.nil], [], places) :=
 ⟨[], by kernel_rfl⟩
theorem contract (H:Type)(enc:TypeId × Value->H)(W:World)(base:Nat)(args:Array Value)(ds gs:List (DataW H))(before:List MemPlace)
  (hval:∀ (j:Nat) t v, Tryz.f3.params[j]?=some t->args[j]?=some v->Value.okWide Tryz.prog W .any base t v)
  (hW:DataW.Whole enc Tryz.prog Tryz.f3.params.toList Rows.auditMadeSpec.vars false W args.toList ds gs before)
  (hwt:(DataW.weightsEach Tryz.prog [22] ds).all (·<=reachBytes)=true)
  (hT:Go.V.Tabs W/\Go.V.R.DivT W) :
  Calls Tryz.prog 3 args W fun e W'=>∃ v, e=.returned v/\Rows.auditMadeSpec.post enc Tryz.prog Tryz.f3 false true false false W args v W':=by
 have hW':=hW
 obtain⟨p, q, hA0, hV, rfl, hfz, hnd⟩:=hW
 have hA:DataW.TrodAll enc Tryz.prog W 0 (fun _=>true) true Tryz.f3.params.toList args.toList ds p:=hA0
 rw[Tryz.params3]at hA hval
 obtain⟨v0, vs0, d0, ds0, p0, q0, hargs, rfl, rfl, h0, r0⟩:=trodAll_cons hA
 obtain⟨rfl, rfl, rfl⟩:=trodAll_nil r0
 obtain rfl:args=#[v0]:=by cases args;simp_all
 obtain⟨rfl, rfl⟩:=trodVars_none hV
 simp only[DataW.weightsEach, List.all_append, Bool.and_eq_true, List.all_eq_true, decide_eq_true_eq]at hwt
 obtain⟨k0, s0, l0⟩:=Go.V.open_bytes h0 (okWide_slice (Go.V.qZk Go.V.Tryz.slc22) (hval 0 22 v0 rfl rfl)) (fun x hx=>hwt.1 x hx)
 clear hA0 hval hwt
 simp only[List.append_nil, List.nil_append]at hW'
 refine Calls.mono (Go.V.auditMade W hT.1 hT.2 s0 l0) fun e W' he=>?_
 cases e <;> simp only[]at he
 obtain⟨rfl, fr⟩:=he
 have e0:∀ sp:Nat->Bool, (∀ x ∈ p0, sp x.block=true)->DataW.Trod enc Tryz.prog W' 0 sp true 22 _ d0 p0:=fun sp hsp=>WideElems.Trod_stays laidOut (by kernel_rfl) (of_decide_eq_true (by kernel_rfl)) h0 (fr.same_old fun x hx=>hW'.lt x (by simp[hx])) hsp
 have hg:=Go.V.old_fr fr fun _ _ h=>h
 have hnest:(p0++[])=(p0):=by simp
 exact⟨_, rfl, Go.V.post_of_old (pa:=(p0++[])) (pv:=[]) hW' (fun _ _ _=>(trodAll_cons_mk (shut_bool Tryz.underlying4 _) trodAll_mk0))
  (fun sp hsp=>(trodAll_cons_mk (e0 sp fun x hx=>hsp x (by simp[hx])) trodAll_mk0)) (fun _ _=>rfl) (by simp)
  (World.keptBut_mono (fun _ h=>h.elim) hg.1) hg.2.1 (ok_one (by kernel_rfl) rfl (okWide_bool_mk Tryz.underlying4 _))⟩
theorem lifted (os:Os)(started:os.Started)(H:Type)(enc:TypeId × Value->H)(F:Stop.Interp) :
  ReturnsInHanded {} Tryz.checked os 3 .any ((OpenSpec.ofChange Rows.auditMadeSpec).preRow enc Tryz.prog Tryz.f3 Rows.auditMadeRow.domain false Rows.auditMadeRow.laid) (((OpenSpec.ofChange Rows.auditMadeSpec).at F).post enc Tryz.prog Tryz.f3 false true false false):=by
 obtain⟨places, hx⟩:=reads os enc
 refine returnsInHanded_of_row (C:=Tryz.checked) (s:=OpenSpec.ofChange Rows.auditMadeSpec) own started (by kernel_rfl) Tryz.func3
  (witness_row_at (enc:=enc) (C:=Tryz.checked) false (Go.V.laidW os args0) args0 rfl (by kernel_rfl) (by kernel_rfl) (by kernel_rfl)
   (OpenSpec.preRow_of_cond 70 hx (by kernel_rfl) (fun k hk=>by cases hk) (by kernel_rfl) (laid_met os))) ?_
 intro W base args ds gs before hval hW _ _ hwt hL _ _
 have hg:gs=[]:=by obtain⟨_, q, _, hV, _⟩:=hW;exact (trodVars_none hV).1
 subst hg
 rw[List.append_nil]at hwt
 have hp:Tryz.f3.params.toList++(OpenSpec.ofChange Rows.auditMadeSpec).bare.plain.varTypes Tryz.prog=[22]:=by rw[Tryz.params3];rfl
 rw[show Tryz.checked.prog=Tryz.prog from rfl, hp]at hwt
 exact contract H enc W base args ds [] before hval hW hwt (Go.V.tabs_of hL)
theorem said:Rows.AuditMadeSaid :=
 OpenClaim.holds_of_cond 3 Tryz.f3 rfl rfl rfl rfl rfl rfl rfl ⟨rfl, rfl, rfl, rfl, rfl⟩ rfl rfl rfl rfl rfl (by kernel_rfl) Tryz.func3 (by kernel_rfl)
  (of_decide_eq_true (by kernel_rfl)) (by unfold Func.isWrapper;first | (rw[if_pos (by decide +kernel)];kernel_rfl) | (rw[if_neg (by decide +kernel)];exact⟨rfl, rfl⟩))
  (fun os started H enc _ F=>by rw[OpenClaim.pre_eq_preRow];exact lifted os started H enc F)
theorem plain (f : FuncId) (fn : Func) (hf : Tryz.pinned.checked.prog.funcNamed "ledger/ledgerlaw17.AuditMade" = some f) (hfn : Tryz.pinned.checked.prog.funcs[f]? = some fn) :
  true=Tryz.pinned.checked.prog.looks []/\∀ (j:Nat) t, fn.params[j]?=some t->Tryz.pinned.checked.prog.wantsStandIn t=false:=by
 obtain rfl : f = 3 := Option.some.inj ((show Tryz.prog.funcNamed "ledger/ledgerlaw17.AuditMade" = some 3 by kernel_rfl).symm.trans hf) |>.symm
 obtain rfl:fn=Tryz.f3:=(Option.some.inj (Tryz.func3.symm.trans hfn)).symm
 refine⟨by kernel_rfl, fun j t ht=>?_⟩
 rw[Tryz.params3]at ht
 match j with
 | 0=>rw[<- (show 22=t by simpa using ht)];exact (show Tryz.prog.wantsStandIn 22=false by kernel_rfl)
 | j+1=>simp at ht
/-- the card -/
theorem proved:Rows.AuditMadeCardSaid :=
 Claim7.holds_tied_plain_at .later [] _ _ _ _ said (fun _ h=>by cases h) (by kernel_rfl) (fun _ h=>by cases h) auditMade_row_tie rfl ⟨rfl, rfl⟩ (by kernel_rfl) rfl plain (by kernel_rfl)
#print axioms proved
end Go.Proofs.YtppmpdjlmgfdkaaGreatDoor.auditMade
