/-
 AuditBursts of ledgerlaw17 answers true and leaves what it reads as it was, for every call the statement names whose arguments are of bulk at most 1048576, when the five tables hold what the row lists.
-/
import Derived.WalkKit
import Derived.ProofKit
import Derived.OpenShut
import Derived.Carry
import Derived.SizedLaws
import Derived.WideKeyArgs
import Derived.Deep.DeepHandedRow
import Derived.Lib.LaidTab
import Derived.Test.YtppmpdjlmgfdkaaGreatDoorB27
import Derived.Test.YtppmpdjlmgfdkaaGreatDoorB26
set_option linter.all false
namespace Go.Proofs.YtppmpdjlmgfdkaaGreatDoor.auditBursts
open Go.ChangeShapes Go.WideShapes Go.ChangeAt Go.RowKit
set_option linter.unusedVariables false
set_option maxRecDepth 100000
theorem own:ownKnob Tryz.prog.godebug=none:=by kernel_rfl
theorem laidOut:laidOutB Tryz.prog=true:=by kernel_rfl
abbrev args0:Array Value:=#[.int .i64 0, .int .i64 0, .slice none 0 0, .int .i64 0, .int .i64 0, .int .u32 0]
theorem laid_met (os:Os):laidMet Tryz.prog Rows.auditBurstsUptoRow.laid ((Go.V.laidW os args0).forCall (fun _ _=>0) ⟨#[], args0, []⟩).memory :=
 laidMet_of_run' 70 (by kernel_rfl) (by kernel_rfl)
theorem reads (os:Os){H:Type}(enc:TypeId × Value->H):∃ places, DataW.whole enc Tryz.prog ((Go.V.laidW os args0).forCall (fun _ _=>0) ⟨#[], args0, []⟩).memory Tryz.f4.params.toList Rows.auditBurstsSpec.vars false args0.toList 70=some ([.lit (.int .i64 0), .lit (.int .i64 0), .nil, .lit (.int .i64 0), .lit (.int .i64 0), .lit (.int .u32 0)], [], places) :=
 ⟨[], by kernel_rfl⟩
theorem contract (H:Type)(enc:TypeId × Value->H)(W:World)(base:Nat)(args:Array Value)(ds gs:List (DataW H))(before:List MemPlace)
  (hval:∀ (j:Nat) t v, Tryz.f4.params[j]?=some t->args[j]?=some v->Value.okWide Tryz.prog W .any base t v)
  (hW:DataW.Whole enc Tryz.prog Tryz.f4.params.toList Rows.auditBurstsSpec.vars false W args.toList ds gs before)
  (hk:Rows.uptoSmall H ds=true)
  (hT:Go.V.Tabs W/\Go.V.R.DivT W) :
  Calls Tryz.prog 4 args W fun e W'=>∃ v, e=.returned v/\Rows.auditBurstsSpec.post enc Tryz.prog Tryz.f4 false true false false W args v W':=by
 have hW':=hW
 obtain⟨p, q, hA0, hV, rfl, hfz, hnd⟩:=hW
 have hA:DataW.TrodAll enc Tryz.prog W 0 (fun _=>true) true Tryz.f4.params.toList args.toList ds p:=hA0
 rw[Tryz.params4]at hA hval
 obtain⟨v0, vs0, d0, ds0, p0, q0, hargs, rfl, rfl, h0, r0⟩:=trodAll_cons hA
 obtain⟨v1, vs1, d1, ds1, p1, q1, rfl, rfl, rfl, h1, r1⟩:=trodAll_cons r0
 obtain⟨v2, vs2, d2, ds2, p2, q2, rfl, rfl, rfl, h2, r2⟩:=trodAll_cons r1
 obtain⟨v3, vs3, d3, ds3, p3, q3, rfl, rfl, rfl, h3, r3⟩:=trodAll_cons r2
 obtain⟨v4, vs4, d4, ds4, p4, q4, rfl, rfl, rfl, h4, r4⟩:=trodAll_cons r3
 obtain⟨v5, vs5, d5, ds5, p5, q5, rfl, rfl, rfl, h5, r5⟩:=trodAll_cons r4
 obtain⟨rfl, rfl, rfl⟩:=trodAll_nil r5
 obtain rfl:args=#[v0, v1, v2, v3, v4, v5]:=by cases args;simp_all
 obtain⟨rfl, rfl⟩:=trodVars_none hV
 obtain⟨a0, rfl, rfl, rfl, w0⟩:=open_int Tryz.underlying3 (hval 0 3 v0 rfl rfl) h0
 obtain⟨a1, rfl, rfl, rfl, w1⟩:=open_int Tryz.underlying3 (hval 1 3 v1 rfl rfl) h1
 obtain⟨a3, rfl, rfl, rfl, w3⟩:=open_int Tryz.underlying3 (hval 3 3 v3 rfl rfl) h3
 obtain⟨a4, rfl, rfl, rfl, w4⟩:=open_int Tryz.underlying3 (hval 4 3 v4 rfl rfl) h4
 obtain⟨a5, rfl, rfl, rfl, w5⟩:=open_int Tryz.underlying34 (hval 5 34 v5 rfl rfl) h5
 obtain⟨ls, s2, b2⟩:=Go.V.A.open_lists h2 (okWide_slice (Go.V.qZe Go.V.Tryz.slc33) (hval 2 33 v2 rfl rfl))
 have hbk:=of_decide_eq_true hk
 simp only[Rows.uptoBulkAll]at hbk
 obtain⟨z1, z2, z3⟩:=Go.V.A.bulk_walk (show ls.length+36*Go.V.A.totC ls ls.length<=1048576 by omega)
 obtain⟨pat, hpat⟩:∃ pat:BitVec 32, Value.int .u32 a5=Go.V.u32 pat:=by
  have hx:0<=a5/\a5<=4294967295:=by simpa [Lit.wf, IntKind.min, IntKind.max, IntKind.signed, IntKind.bits] using w5
  refine⟨BitVec.ofNat 32 a5.toNat, ?_⟩
  show Value.int .u32 a5=Value.int .u32 ((BitVec.ofNat 32 a5.toNat).toNat:Int)
  rw[BitVec.toNat_ofNat, Nat.mod_eq_of_lt (by omega)]
  congr 1;omega
 clear hA0 hval hk hbk
 simp only[List.append_nil, List.nil_append]at hW'
 have hwalk:=Go.V.A.auditBursts W hT.1 hT.2 a0 a1 a3 a4 pat s2 z1 z2 z3
 rw[<- hpat]at hwalk
 refine Calls.mono hwalk fun e W' he=>?_
 cases e <;> simp only[]at he
 obtain⟨rfl, fr⟩:=he
 have e2:∀ sp:Nat->Bool, (∀ x ∈ p2, sp x.block=true)->DataW.Trod enc Tryz.prog W' 0 sp true 33 _ d2 p2:=fun sp hsp=>WideElems.Trod_stays laidOut (by kernel_rfl) (of_decide_eq_true (by kernel_rfl)) h2 (fr.same_old fun x hx=>hW'.lt x (by simp[hx])) hsp
 have hg:=Go.V.old_fr fr fun _ _ h=>h
 exact⟨_, rfl, Go.V.post_of_old (pa:=([]++([]++(p2++([]++([]++([]++[]))))))) (pv:=[]) hW' (fun _ _ _=>(trodAll_cons_mk (shut_bool Tryz.underlying4 _) trodAll_mk0))
  (fun sp hsp=>(trodAll_cons_mk (shut_int Tryz.underlying3 w0) (trodAll_cons_mk (shut_int Tryz.underlying3 w1) (trodAll_cons_mk (e2 sp fun x hx=>hsp x (by simp[hx])) (trodAll_cons_mk (shut_int Tryz.underlying3 w3) (trodAll_cons_mk (shut_int Tryz.underlying3 w4) (trodAll_cons_mk (shut_int Tryz.underlying34 w5) trodAll_mk0))))))) (fun _ _=>rfl) (by simp)
  (World.keptBut_mono (fun _ h=>h.elim) hg.1) hg.2.1 (ok_one (by kernel_rfl) rfl (okWide_bool_mk Tryz.underlying4 _))⟩
theorem lifted (os:Os)(started:os.Started)(H:Type)(enc:TypeId × Value->H)(F:Stop.Interp) :
  ReturnsInHanded {} Tryz.checked os 4 .any ((Rows.OpenSpec.upto Rows.auditBurstsSpec).preRow enc Tryz.prog Tryz.f4 Rows.auditBurstsUptoRow.domain false Rows.auditBurstsUptoRow.laid) (((Rows.OpenSpec.upto Rows.auditBurstsSpec).at F).post enc Tryz.prog Tryz.f4 false true false false):=by
 obtain⟨places, hx⟩:=reads os enc
 refine returnsInHanded_of_row (C:=Tryz.checked) (s:=Rows.OpenSpec.upto Rows.auditBurstsSpec) own started (by kernel_rfl) Tryz.func4
  (witness_row_at (enc:=enc) (C:=Tryz.checked) false (Go.V.laidW os args0) args0 rfl (by kernel_rfl) (by kernel_rfl) (by kernel_rfl)
   (OpenSpec.preRow_of_cond 70 hx (by kernel_rfl) (fun k hk=>by cases hk;kernel_rfl) (by kernel_rfl) (laid_met os))) ?_
 intro W base args ds gs before hval hW _ hcond _ hL _ _
 have hg:gs=[]:=by obtain⟨_, q, _, hV, _⟩:=hW;exact (trodVars_none hV).1
 subst hg
 have hk:Rows.uptoSmall H (ds++[])=true:=hcond _ rfl
 rw[List.append_nil]at hk
 exact contract H enc W base args ds [] before hval hW hk (Go.V.tabs_of hL)
theorem said:Rows.AuditBurstsUptoSaid :=
 OpenClaim.holds_of_cond 4 Tryz.f4 rfl rfl rfl rfl rfl rfl rfl ⟨rfl, rfl, rfl, rfl, rfl⟩ rfl rfl rfl rfl rfl (by kernel_rfl) Tryz.func4 (by kernel_rfl)
  (of_decide_eq_true (by kernel_rfl)) (by unfold Func.isWrapper;first | (rw[if_pos (by decide +kernel)];kernel_rfl) | (rw[if_neg (by decide +kernel)];exact⟨rfl, rfl⟩))
  (fun os started H enc _ F=>by rw[OpenClaim.pre_eq_preRow];exact lifted os started H enc F)
theorem plain (f : FuncId) (fn : Func) (hf : Tryz.pinned.checked.prog.funcNamed "ledger/ledgerlaw17.AuditBursts" = some f) (hfn : Tryz.pinned.checked.prog.funcs[f]? = some fn) :
  true=Tryz.pinned.checked.prog.looks []/\∀ (j:Nat) t, fn.params[j]?=some t->Tryz.pinned.checked.prog.wantsStandIn t=false:=by
 obtain rfl : f = 4 := Option.some.inj ((show Tryz.prog.funcNamed "ledger/ledgerlaw17.AuditBursts" = some 4 by kernel_rfl).symm.trans hf) |>.symm
 obtain rfl:fn=Tryz.f4:=(Option.some.inj (Tryz.func4.symm.trans hfn)).symm
 refine⟨by kernel_rfl, fun j t ht=>?_⟩
 rw[Tryz.params4]at ht
 match j with
 | 0=>rw[<- (show 3=t by simpa using ht)];exact (show Tryz.prog.wantsStandIn 3=false by kernel_rfl)
 | 1=>rw[<- (show 3=t by simpa using ht)];exact (show Tryz.prog.wantsStandIn 3=false by kernel_rfl)
 | 2=>rw[<- (show 33=t by simpa using ht)];exact (show Tryz.prog.wantsStandIn 33=false by kernel_rfl)
 | 3=>rw[<- (show 3=t by simpa using ht)];exact (show Tryz.prog.wantsStandIn 3=false by kernel_rfl)
 | 4=>rw[<- (show 3=t by simpa using ht)];exact (show Tryz.prog.wantsStandIn 3=false by kernel_rfl)
 | 5=>rw[<- (show 34=t by simpa using ht)];exact (show Tryz.prog.wantsStandIn 34=false by kernel_rfl)
 | j+6=>simp at ht
/-- the card -/
theorem proved:Rows.AuditBurstsUptoCardSaid :=
 Claim7.holds_tied_plain_at .later [] _ _ _ _ said (fun _ h=>by cases h) (by kernel_rfl) (fun _ h=>by cases h) auditBurstsUpto_row_tie rfl ⟨rfl, rfl⟩ (by kernel_rfl) rfl plain (by kernel_rfl)
#print axioms proved
end Go.Proofs.YtppmpdjlmgfdkaaGreatDoor.auditBursts
