/- Helpers. -/
import Derived.Test.YtmenaeggoakppaaGreatDoorG27
import Derived.Test.YtmenaeggoakppaaGreatDoorG32
import Derived.Test.YtmenaeggoakppaaGreatDoorG19
import Derived.Test.YtmenaeggoakppaaGreatDoorG26
set_option linter.all false
set_option maxRecDepth 100000
set_option maxHeartbeats 8000000
open Array renaming size_replicate→kH,length_toList→zJ,replicate→xR
open Bool renaming false_eq_true→qD
open Go.V.Fr renaming ext→kB
open List renaming replicate→zG
open Nat renaming reduceEqDiff→jF,reduceBEq→jB,reduceAdd→vJ,le_refl→xP
open Go.Value renaming cells→jM
open Go.V.Wit renaming underP→kD,verifyP→kM,Tw→vI,asIs→kN,dig→vO,nbrs→kP,form_ok→kC,dig_len→kX
namespace Go.V
open Go.Proofs.Tryz Go.V.Tryz
open Go.Proofs Sha
variable {k:Bs} {ks:List Bs} {tb:Nat} {kv rawv:Value} {t:vI}
def TrQ (w0:World)(x:Except Int (Option vI))(r:Value)(w':World):Prop:=No w0 w'∧match x with
 | .error e=>r=.tuple #[.pointer none,.int .i64 e]
 | .ok none=>r=.tuple #[.pointer none,.int .i64 0]
 | .ok (some t)=>∃ v,r=.tuple #[v,.int .i64 0]∧TwX w0 w' v t
def TrK (uk w0:World)(x:Except Int (Option vI))(r:Value)(w':World):Prop:=No w0 w'∧match x with
 | .error e=>r=.tuple #[.pointer none,.int .i64 e]
 | .ok none=>r=.tuple #[.pointer none,.int .i64 0]
 | .ok (some t)=>∃ v,r=.tuple #[v,.int .i64 0]∧TwK uk w0 w' v t
theorem TrK.q {uk w0 w':World}(huk:No uk w0){x:Except Int (Option vI)}{r:Value}(h:TrK uk w0 x r w'):TrQ w0 x r w':=by
 obtain⟨f,h⟩:=h;refine⟨f,?_⟩
 cases x with
 | error e=>exact h
 | ok o=>cases o with
  | none=>exact h
  | some t=>obtain⟨v,h1,h2⟩:=h;exact⟨v,h1,h2.x huk⟩
theorem underK (uk w0:World)(huk:No uk w0)(ht:Tabs w0)(wd:Int){root:Bs}(hroot:root.length=32){raw:Bs}(hk:RdD uk kv ks)(hr:By w0 rawv raw)(ha:Wit.Asc ks)(hl:ks.length≤64) :
  Fn prog 47 #[.int .i64 wd,dg root,kv,rawv] w0 (TrK uk w0 (kD wd root ks raw)):=by
 refine go47 (by simp) ?_;obtain⟨W,hW,f1,k1,s1⟩:=qQs w0 (bl root) 23;simp -implicitDefEqProofs only[go_sem,jF,vJ,Tryz.f47,jM,hW];refine qQa pl62 ((rread uk W (huk.trans f1) (ht.no f1) wd hk (hr.fr0 f1) ha hl).mono ?_);rintro r w2 ⟨f2,h2⟩;have f02:=f1.trans f2;have k2:=f2.at k1 id;unfold TrK kD
 cases hf:Wit.form wd ks raw with
 | error e =>
  rw[hf]at h2;subst h2;have he:=form_err hf;simp -implicitDefEqProofs only[go_sem,jF,gLa,gLz,gLs];refine qXh (fun j=>j == 9) [0,1,2,3,4,5,6,7,8,10,9,11,12] rfl (by kernel_rfl) (by kernel_rfl) ?_;simp -implicitDefEqProofs only[go_sem,jF,jB,gLa,gLz,gLs,he,qJu,qD,if_false];exact⟨f02.drew,trivial⟩
 | ok o =>
  cases o with
  | none =>
   rw[hf]at h2;subst h2;simp -implicitDefEqProofs only[go_sem,jF,gLa,gLz,gLs];refine qXh (fun j=>j == 9) [0,1,2,3,4,5,6,7,8,10,9,11,12] rfl (by kernel_rfl) (by kernel_rfl) ?_;simp -implicitDefEqProofs only[go_sem,jF,jB,gLa,gLz,gLs,qJu,bSe,qD,if_false,if_true];exact⟨f02.drew,trivial⟩
  | some t =>
   rw[hf]at h2;obtain⟨v,rfl,hX⟩:=h2;obtain⟨tb,B,rfl,g1,T2,nd,bd⟩:=id hX;obtain⟨hok,_⟩:=kC ha hk.1 hf;simp -implicitDefEqProofs only[go_sem,jF,gLa,gLz,gLs];refine qXh (fun j=>j == 9) [0,1,2,3,4,5,6,7,8,10,9,11,12] rfl (by kernel_rfl) (by kernel_rfl) ?_;have r2:=rd_d agg23 sz23 k2 hroot;have r2':rdO prog 23 w2.drew w0.heap.size 0=some (dg root):=r2;simp -implicitDefEqProofs only[go_sem,jF,jB,gLa,gLz,gLs,r2',bSe,qD,if_false,if_true];refine qQt pl60 ((hashed uk w2.drew (ht.no f02.drew) wd (asIsF _) (T2.fr0 (Fr.refl _ _).drew) hok (huk.trans f02).drew).mono ?_);rintro _ w3 ⟨rfl,f3⟩;refine⟨fun _=>kB f3,?_⟩;have eq:=eqDig (kX wd kN t) hroot;have f03:=f02.drew.trans f3
   by_cases hd:vO wd kN t=root
   ·have hb:(vO wd kN t == root)=true:=by rw[beq_iff_eq];exact hd
    simp -implicitDefEqProofs only[go_sem,jF,jB,gLa,gLz,gLs,eq,hb,bSe,qD,if_false,if_true];rw[if_pos hd];exact⟨f03,_,rfl,(hX.fr0 ((Fr.refl _ _).drew.trans f3)).back f1⟩
   ·have hb:(vO wd kN t == root)=false:=by rw[bFn];exact hd
    simp -implicitDefEqProofs only[go_sem,jF,jB,gLa,gLz,gLs,eq,hb,bSe,qD,if_false,if_true];rw[if_neg hd];exact⟨f03,rfl⟩
theorem under (w0:World)(ht:Tabs w0)(wd:Int){root:Bs}(hroot:root.length=32){raw:Bs}(hk:RdD w0 kv ks)(hr:By w0 rawv raw)(ha:Wit.Asc ks)(hl:ks.length≤64) :
  Fn prog 47 #[.int .i64 wd,dg root,kv,rawv] w0 (TrQ w0 (kD wd root ks raw)) :=
 (underK w0 w0 (Fr.refl _ _) ht wd hroot hk hr ha hl).mono fun _ _ h=>h.q (Fr.refl _ _)
def enI (u wT w0:World)(t:vI)(B0:List Nat)(k:Bs)(n:Nat)(vs:List Value)(w:World):Prop :=
 ∃ (cb:Nat) (s:vI) (B:List Nat),vs=[pt cb 0,pt w0.heap.size 0]∧TwM u wT cb s B∧s.Ok∧s.endT k=t.endT k∧n=s.size∧No w0 w∧w.heap[w0.heap.size]?=some (.cells (bl k) 34 (0,0))∧∀ b ∈ B,b ∈ B0
theorem tend (u wT w0:World){B0:List Nat}(hT:TwM u wT tb t B0)(hw:No wT w0)(hok:t.Ok)(hk:k.length=32) :
  Fn prog 48 #[pt tb 0,dg k] w0 fun v w'=>No w0 w'∧∃ eb B,v=pt eb 0∧TwM u wT eb (t.endT k) B∧∀ b ∈ B,b ∈ B0:=by
 refine go48 (by simp) ?_;obtain⟨W,hW,f1,k1,s1⟩:=qQs w0 (bl k) 34;simp -implicitDefEqProofs only[go_sem,jF,Tryz.f48,jM,hW];refine loopD [0,3] (enI u wT w0 t B0 k) t.size ⟨tb,t,B0,rfl,hT,hok,rfl,rfl,f1,k1,fun _ h=>h⟩ ?_;rintro _ vs w2 g ⟨cb,s,B,rfl,hS,sok,hse,rfl,f2,k2,hB⟩
 cases s with
 | leaf k' top near a =>
  obtain⟨kv,nv,vv,Bn,Bv,rfl,t0,_⟩:=id hS;have r2:=qQo (P:=prog) ((hw.trans f2).at t0 id);simp -implicitDefEqProofs only[go_sem,jF,gLa,gLz,gLs,r2,qQk];exact⟨f2,cb,_,rfl,by rw[← hse];exact hS,hB⟩
 | fork ks f top near l r =>
  obtain⟨kv,nv,fb,vv,lb,rb,Bn,Bl,Br,rfl,t0,_,_,_,hL,hR⟩:=id hS;have t2:=(hw.trans f2).at t0 id;have r2:=qQo (P:=prog) t2;have rk:=rd_d agg34 sz34 k2 hk;have hfp:=sok.f_pos;have hfl:f≤256:=Nat.le_trans sok.2.1 sok.2.2.1;have rk':rdO prog 34 w2.drew w0.heap.size 0=some (dg k):=rk;have r2':∀ t o,rdO prog t w2.drew cb o=ldO prog t (some (.cells (twC kv f top nv fb vv (pt lb 0) (pt rb 0)) 96 (0,0))) o:=r2;have c1:IntKind.i64.wrap (256 - (f:Int))=((256 - f:Nat):Int):=qXl (a:=256) (by omega) (by omega);simp -implicitDefEqProofs only[go_sem,jF,gLa,gLz,gLs,r2,r2',rk',qQk,c1];refine qQa pl92 ((bbit w2.drew hk (show 256 - f<256 by omega)).mono ?_);rintro _ w3 ⟨rfl,f3⟩;have f03:No w0 w3:=f2.drew.trans f3;have r3:=qQo (P:=prog) ((hw.trans f03).at t0 id);have k3:w3.heap[w0.heap.size]?=_:=f3.at (w:=w2.drew) k2 id;have sz:∀ s:vI,0<s.size:=Wit.Tw.size_pos;have e0:(Wit.Tw.fork ks f top near l r).size=l.size+r.size+1:=rfl;unfold kb
  by_cases hb:kbit k (256 - f)=true
  ·have d0:((1:Int) == 0)=false:=rfl
   have e1:(Wit.Tw.fork ks f top near l r).endT k=r.endT k:=by simp only[Wit.Tw.endT];rw[if_pos hb]
   rw[if_pos hb];simp -implicitDefEqProofs only[go_sem,jF,gLa,gLz,gLs,r3,qQk,d0];exact⟨r.size,by omega,rb,r,Br,rfl,hR,sok.2.2.2.2.2.2.2.2.2.2.2.2.2,by rw[← e1];exact hse,rfl,f03,k3,fun b hb=>hB b (by simp[hb])⟩
  ·have d0:((0:Int) == 0)=true:=rfl
   have e1:(Wit.Tw.fork ks f top near l r).endT k=l.endT k:=by simp only[Wit.Tw.endT];rw[if_neg hb]
   rw[if_neg hb];simp -implicitDefEqProofs only[go_sem,jF,gLa,gLz,gLs,r3,qQk,d0];exact⟨l.size,by omega,lb,l,Bl,rfl,hL,sok.2.2.2.2.2.2.2.2.2.2.2.2.1,by rw[← e1];exact hse,rfl,f03,k3,fun b hb=>hB b (by simp[hb])⟩
def vfI (w2:World)(kv tv:Value)(ks:List Bs)(ato:Bs→Option Bs)(n:Nat)(vs:List Value)(w:World):Prop :=
 ∃ (i:Nat) (v:Value) (ps:List (Bool × Value)),vs=[tv,v,kv,.int .i64 (ks.length:Nat),.int .i64 (i:Nat)]∧i≤ks.length∧n=ks.length - i∧AnP w2 ps ((ks.take i).map ato)∧Nw w2 w 69 2 v ps.length (acells ps)∧No w2 w
theorem verify (w0:World)(ht:Tabs w0)(wd:Int){root:Bs}(hroot:root.length=32){raw:Bs}(hk:RdD w0 kv ks)(hr:By w0 rawv raw) :
  Fn prog 23 #[.int .i64 wd,dg root,kv,rawv] w0 (VeQ w0 (kM wd root ks raw)):=by
 refine go23 (by simp) ?_;obtain⟨W,hW,f1,k1,s1⟩:=qQs w0 (bl root) 23;simp -implicitDefEqProofs only[go_sem,jF,vJ,Tryz.f23,jM,hW];refine qQa pl46 ((sorted W wd (hk.fr0 f1)).mono ?_);rintro r w2 ⟨f2,h2⟩;have f02:=f1.trans f2
 cases hs:Wit.sortW wd ks with
 | error e =>
  rw[hs]at h2;subst h2;have he:=sortW_err hs;have hvp:kM wd root ks raw=.error e:=by unfold kM;rw[hs]
  rw[hvp];simp -implicitDefEqProofs only[go_sem,jF,gLa,gLz,gLs,he];exact⟨f02,rfl⟩
 | ok l =>
  rw[hs]at h2;obtain⟨lv,rfl,n2⟩:=h2;obtain⟨hse,_,_⟩:=Wit.sortW_ok hs;obtain⟨asc,l32,hlen,hl64,hperm⟩:=Wit.sortE_ok hk.1 hse
  have hvp : kM wd root ks raw = match kD wd root l raw with
      | .error e => .error e
      | .ok none => .ok []
      | .ok (some t) => .ok (ks.map t.at) := by unfold kM; rw [hs]; rfl
  have r2:=rd_d agg23 sz23 (f2.at k1 id) hroot;simp -implicitDefEqProofs only[go_sem,jF,gLa,gLz,gLs,bNe,r2];refine qQa pl47 ((under w2 (ht.no f02) wd hroot n2.rd (hr.fr0 f02) asc hl64).mono ?_);rintro r w3 ⟨f3,h3⟩;have f03:=f02.trans f3
  cases hu:kD wd root l raw with
  | error e =>
   rw[hu]at h3;subst h3;have he:=underP_err hu;rw[hu]at hvp;rw[hvp];simp -implicitDefEqProofs only[go_sem,jF,gLa,gLz,gLs,he];exact⟨f03,rfl⟩
  | ok o =>
   rw[hu]at hvp
   have key:∃ (tv:Value) (ato:Bs→Option Bs), r=.tuple #[tv, .int .i64 0]∧((match (Except.ok o:Except Int (Option vI)) with | .error e=>.error e | .ok none=>.ok [] | .ok (some t)=>.ok (ks.map t.at)):Except Int (List (Option Bs)))=.ok (ks.map ato) ∧
     ∀ k ∈ ks,∃ u tb t B,tv=pt tb 0∧TwM u w3 tb t B∧t.Ok∧ato k=t.at k:=by
    cases o with
    | none =>
     rw[hu]at h3;have hl0:=Wit.underP_none hu;subst hl0;have:ks=[]:=List.length_eq_zero_iff.1 (by simpa using hlen.symm);subst this;exact⟨_,fun _=>none,h3,rfl,fun k hk=>by cases hk⟩
    | some t =>
     rw[hu]at h3;obtain⟨tv,rfl,hX⟩:=h3;obtain⟨u,tb,B,rfl,_,_,T3,_⟩:=hX;exact⟨_,t.at,rfl,rfl,fun k _=>⟨u,tb,t,B,rfl,T3,(kC asc l32 (Wit.underP_ok hu).1).1,rfl⟩⟩
   obtain⟨tv,ato,rfl,hm,hT⟩:=key;clear h3 hu;have hvp:=hvp.trans hm;rw[hvp];obtain⟨ka,kc,rfl,hkc⟩:=hk.slice;simp -implicitDefEqProofs only[go_sem,jF,gLa,gLz,gLs,bNe];refine loopD [12,13,36,37,38] (vfI w3 (.slice ka ks.length kc) tv ks ato) ks.length ⟨0,_,[],rfl,by omega,rfl,AnP.nil _,Nw.nil _ _ _ _,Fr.refl _ _⟩ ?_;rintro _ vs w4 g ⟨i,v,ps,rfl,hi,rfl,hps,n4,f4⟩
   by_cases hlt:i<ks.length
   ·have d4:=dTo ((i:Int)<((ks.length:Nat):Int))
    have hk4:=hk.fr0 (f03.trans f4);obtain⟨b,o,cap,he,_,_⟩:=hk4.pos (by omega);cases he;have q1:=hk4.get (P:=prog) agg34 sz34 hlt;have kl:=hk.1.getD hlt;have y1:=iBd (i:=i) (n:=ks.length);obtain⟨u,tb,t,B,rfl,T3,hok,hat⟩:=hT (ks.getD i []) (by rw[qQi _ hlt];exact List.getElem_mem _);have htk:ks.take (i+1)=ks.take i++[ks.getD i []]:=by rw[tSg hlt,qQi _ hlt]
    generalize ks.getD i []=k at *;obtain⟨W5,hW5,f5,k5,s5⟩:=qQs w4 (xR 32 (.int .u8 0)) 34;have q5:wrO prog 34 W5 w4.heap.size 0 (dg k)=some (put W5 w4.heap.size (.cells (bl k) 34 (0,0))):=qQw (vs:=bl k) (by rw[qXa,kl];exact sz34) k5 (by rw[qXa,kl];simp) (u8s_all k);have f6:No w4 (put W5 w4.heap.size (.cells (bl k) 34 (0,0))):=f5.put (b:=w4.heap.size) _ fun h=>by omega
    have k6:=qQf (o:=.cells (bl k) 34 (0,0)) k5;simp -implicitDefEqProofs only[go_sem,jF,y1,and_self,iTn,q1,hW5,q5];generalize put W5 w4.heap.size (.cells (bl k) 34 (0,0))=w6 at *;have f06:=f4.trans f6;have r6:=rd_d agg34 sz34 k6 kl;simp -implicitDefEqProofs only[go_sem,jF,r6];refine qQa pl48 ((tend u w3 w6 T3 f06 hok kl).mono ?_);rintro _ w7 ⟨f7,eb,B7,rfl,E7,_⟩;obtain⟨k',top,near,he⟩:=Wit.endT_leaf t k;rw[he]at E7;obtain⟨kv7,nv7,vv7,_,_,_,t7,_,_,_,v7,_⟩:=E7;have t7':=(f06.trans f7).at t7 id
    have l69:rdO prog 69 w7 eb 4=some (.agg #[.bool (t.at k).isSome,vv7]):=by
     rw[qQo t7',qJb agg69 sz69 (by simp)];rfl
    have hone7:one vv7=true:=v7.one;have f07:=f06.trans f7;simp -implicitDefEqProofs only[go_sem,l69];refine qQl (v:=.slice (some ⟨w7.heap.size,0,none⟩) 1 1) (w':=w7.alloc (.cells #[.bool (t.at k).isSome,vv7] 69)) rfl ?_;have hpl:ps.length=i:=by rw[hps.1];simp;omega
    obtain⟨v8,w8,hr8,g8,f08,fx8,_⟩:=qZv (P:=prog) app47_47 (n4.fr0 (f6.trans f7)) (m:=1) (xs:=#[.bool (t.at k).isSome,vv7]) rfl (by simp only[List.all_cons,List.all_nil,hone7];rfl) (by decide) (bd_one (by omega)) (by omega) f07;simp -implicitDefEqProofs only[go_sem,jF];refine qQg ⟨v8,w8,hr8,?_⟩;have c2:=iSu (i:=i);simp -implicitDefEqProofs only[go_sem,jF,c2]
    have hp8:AnR w3 (((t.at k).isSome,vv7):Bool × Value) (ato k):=⟨by rw[hat],hone7,by rw[hat];exact v7⟩
    refine⟨ks.length - (i+1),by omega,i+1,v8,ps++[((t.at k).isSome,vv7)],rfl,by omega,rfl,?_,?_,f08⟩
    ·rw[htk,List.map_append];exact hps.snoc hp8
    ·rw[lAp,acells_app];exact g8
   ·have d4:=dFo ((i:Int)<((ks.length:Nat):Int))
    simp -implicitDefEqProofs only[go_sem,jF,d4];obtain rfl:i=ks.length:=by omega
    rw[List.take_length]at hps;exact⟨f03.trans f4,_,rfl,ps,hps.fr0 f4,n4.rd⟩
def zds:List Bs:=zG 256 (zG 32 0)
theorem flat_zds:flat zds=zG (256*32) (.int .u8 0):=by
 have:∀ n,flat (zG n (zG 32 (0:Byte)))=zG (n*32) (.int .u8 0):=by
  intro n
  induction n with
  | zero=>rfl
  | succ n ih =>
   rw[List.replicate_succ,show zG 32 (0:Byte)::zG n (zG 32 (0:Byte))=[zG 32 (0:Byte)]++zG n (zG 32 (0:Byte)) from rfl,qJv,flat_one,ih,List.map_replicate,show u8 0=Value.int .u8 0 from rfl,List.replicate_append_replicate]
   congr 1;omega
 exact this 256
theorem zds_all:All32 zds:=fun d hd=>by rw[List.eq_of_mem_replicate hd];simp
theorem mk256 (w:World):∃ w',(Instr.makeSlice 94 (.int .i64 256) (.int .i64 256)).run prog w=.ok (.slice (some ⟨w.heap.size,0,none⟩) 256 256) w'∧NwD wE w' 23 (.slice (some ⟨w.heap.size,0,none⟩) 256 256) zds∧No w w'∧w'.heap.size=w.heap.size+1:=by
 have:=run_mk (P:=prog) (t:=94) (by':=32) slc94 sz23 by23 zero23 (l:=256) (c:=256) (xP _) (by decide) (by decide) .i64 .i64 w;refine⟨_,this,⟨zds_all,?_⟩,(Fr.refl _ _).alloc _,qQd _ _⟩;have h:=mk_nw wE w 23 32 256 256 (madeCells (Value.agg (xR 32 (.int .u8 0))).cells (256*32)) (Nat.zero_le _) (by simp[madeCells]) (xP _);rw[flat_zds]
 have e:(madeCells (Value.agg (xR 32 (.int .u8 0))).cells (256*32)).toList.take (256*32)=zG (256*32) (.int .u8 0):=by
  show (madeCells (xR 32 (.int .u8 0)) (256*32)).toList.take (256*32)=_;rw[madeCells_rep _ 32 _ (by decide),Array.toList_replicate,List.take_of_length_le (by rw[lRe];exact xP _)]
 rw[e]at h;exact h
theorem bldWh {kv nv vv:Value}{a:Bool}(hk:one kv=true)(hn:one nv=true)(hv:one vv=true):bldO prog 96 [(0,kv),(2,.int .i64 256),(3,nv),(4,.agg #[.bool a,vv])]=some (.agg (twC kv 0 256 nv (.bool a) vv (.pointer none) (.pointer none))):=by
 simp only[bldO,zero96,places96,Option.bind_some];rw[qXj (off:=0) rfl hk (by decide),qXj (off:=2) rfl rfl (by simp[jM]),qXj (off:=3) rfl hn (by simp[jM])];rw[qZd (off:=4) (n:=2) rfl rfl (by simp[jM])];rfl
def sgR (w0 W:World)(t:vI)(tb:Nat)(wd:Int)(k:Bs)(x0 x1 x5 x7:Value)(w:World):Prop:=∃ hb b2 kv vv,x0=pt tb 0∧x1=.int .i64 wd∧x5=pt w0.heap.size 0∧x7=pt hb 0∧No W w ∧
 w.heap[hb]?=some (.cells (twC kv 0 256 (.slice (some ⟨b2,0,none⟩) 256 256) (.bool (t.at k).isSome) vv (.pointer none) (.pointer none)) 96 (0,0))∧RdD w kv [k]∧NwD wE w 23 (.slice (some ⟨b2,0,none⟩) 256 256) zds∧By w0 vv ((t.at k).getD []) ∧
 W.heap.size≤b2∧b2≠hb∧(∀ b,qQb kv=some b→b≠b2)
def siI (u w0 wA:World)(full:List Bs)(wd:Int)(k:Bs)(hb b2:Nat)(n:Nat)(vs:List Value)(w:World):Prop :=
 ∃ (cb:Nat) (s:vI) (B:List Nat) (ds:List Bs),vs=[pt cb 0,.int .i64 wd,pt w0.heap.size 0,pt hb 0]∧TwM u w0 cb s B∧s.Ok∧k ∈ s.keys∧full=kP wd s k++ds.drop s.top∧ds.length=256∧n=s.size ∧
  NwD wE w 23 (.slice (some ⟨b2,0,none⟩) 256 256) ds∧Fr (fun b=>b=b2) wA w
theorem single (u w0:World)(ht:Tabs w0)(wd:Int){B:List Nat}(hT:TwM u w0 tb t B)(hok:t.Ok)(htop:t.top=256)(hu:No u w0)(hkm:k ∈ t.keys) :
  Fn prog 51 #[pt tb 0,.int .i64 wd,dg k] w0 fun v w'=>NwB w0 w' v (Wit.txt wd (Wit.part wd t k))∧No w0 w':=by
 have hk:k.length=32:=hok.all k hkm;refine go51 (by simp) ?_;obtain⟨W,hW,fW,kW,sW⟩:=qQs w0 (bl k) 34;have rk:=rd_d agg34 sz34 kW hk;have rk':rdO prog 34 W.drew w0.heap.size 0=some (dg k):=rk;obtain⟨k',top',near',hleaf⟩:=Wit.endT_leaf t k;have fd:No W W.drew:=(Fr.refl _ _).drew;simp -implicitDefEqProofs only[go_sem,jF,vJ,Tryz.f51,jM,hW]
 refine qJo (fun j=>j == 1 || (j == 2 || j == 5)) (.one 0 (.one 3 (.one 4 (.tri 1 (.two 2 (.row [5,6,7,8,9,10,11]) 5 (.row [6,7,8,2,9,10,11])) 2 (.two 1 (.row [5,6,7,8,9,10,11]) 5 (.row [6,7,8,1,9,10,11])) 5 (.one 6 (.one 7 (.one 8 (.two 1 (.row [2,9,10,11]) 2 (.row [1,9,10,11])))))))))
  rfl (by kernel_rfl) (by kernel_rfl) ?_
 refine qXm (K:=fun ev w=>sgR w0 W t tb wd k (ev 0) (ev 1) (ev 5) (ev 7) w) ?rest _ ?main
 case main =>
  have fin:∀ (w:World) (kv:Value) (b2:Nat) (vv:Value), No W w→RdD w kv [k]→NwD wE w 23 (.slice (some ⟨b2, 0, none⟩) 256 256) zds→By w0 vv ((t.at k).getD [])→W.heap.size≤b2→(∀ b, qQb kv=some b→b≠b2) →
    sgR w0 W t tb wd k (pt tb 0) (.int .i64 wd) (pt w0.heap.size 0) (pt w.heap.size 0) (w.alloc (.cells (twC kv 0 256 (.slice (some ⟨b2,0,none⟩) 256 256) (.bool (t.at k).isSome) vv (.pointer none) (.pointer none)) 96)):=fun w kv b2 vv f hkv hn hv h2 h3 =>
   ⟨w.heap.size,b2,kv,vv,rfl,rfl,rfl,rfl,f.alloc _,qQc _ _,hkv.fr0 ((Fr.refl _ _).alloc _),hn.fr0 ((Fr.refl _ _).alloc _),hv,h2,fun e=>by have:=hn.2.own.lt (b:=b2) rfl;omega,h3⟩
  simp only[OT.row];simp -implicitDefEqProofs only[go_sem,jF,jB,gLa,gLz,gLs,rk'];refine⟨?_,?_,?_⟩
  ·skip
   refine qZe (v:=(.slice (some ⟨W.heap.size,0,none⟩) 1 1)) (w':=W.drew.alloc (.cells (bl k) 34)) (qXb (by rw[zJ,kH]) kH hk (fun cells=>((.slice (some ⟨W.heap.size,0,none⟩) 1 1),W.drew.alloc (.cells cells 34)))) (fun _=>Ext.alloc _ _) ?_;have a1:RdD (W.drew.alloc (.cells (bl k) 34)) (.slice (some ⟨W.heap.size,0,none⟩) 1 1) [k]:=(NwD.one hk fd.size).rd;have g1:No W.drew (W.drew.alloc (.cells (bl k) 34)):=(Fr.refl _ _).alloc _;have s1:(W.drew.alloc (.cells (bl k) 34)).heap.size=W.heap.size+1:=qQd _ _;generalize W.drew.alloc (.cells (bl k) 34)=w10 at a1 g1 s1 ⊢;have f1:=fd.trans g1;simp -implicitDefEqProofs only[go_sem,jF,gLa,gLz,gLs];refine⟨?_,?_⟩
   ·skip
    obtain⟨w11,r2,a2,g2,s2⟩:=mk256 w10;have s2:w11.heap.size=w10.heap.size+1:=s2;refine qXx ⟨_,w11,r2,fun _=>kB g2,?_⟩;have z2x:W.heap.size≤w10.heap.size:=f1.size;have f2:=f1.trans g2;have a2a:=a1.fr0 g2;simp -implicitDefEqProofs only[go_sem,jF,gLa,gLz,gLs];refine qQn pl48 ((tend u w0 w11 hT (fW.trans f2) hok hk).mono ?_);rintro _ w12 ⟨g3,eb,B3,rfl,e3,_⟩;refine⟨fun _=>kB g3,?_⟩;have s3:w11.heap.size≤w12.heap.size:=g3.size;rw[hleaf]at e3;obtain⟨kv3,nv3,vv,_,_,_,t3,_,_,_,v3,_⟩:=e3;have f3:=f2.trans g3;have a3a:=a2a.fr0 g3;have m3m:=a2.fr0 g3
    have l3:rdO prog 69 w12 eb 4=some (.agg #[.bool (t.at k).isSome,vv]):=by
     rw[qQo ((fW.trans f3).at t3 id),qJb agg69 sz69 (by simp)];rfl
    simp -implicitDefEqProofs only[go_sem,jF,jB,gLa,gLz,gLs,l3];have bl:=bldWh (kv:=(.slice (some ⟨W.heap.size,0,none⟩) 1 1)) (nv:=(.slice (some ⟨w10.heap.size,0,none⟩) 256 256)) (a:=(t.at k).isSome) (vv:=vv) rfl rfl v3.one;simp -implicitDefEqProofs only[go_sem,jF,jB,gLa,gLz,gLs,bl,jM];exact fin w12 _ _ vv f3 a3a m3m v3 (by omega) (fun b hb=>by simp only[qQb,oSi]at hb;omega)
   ·skip
    refine qQn pl48 ((tend u w0 w10 hT (fW.trans f1) hok hk).mono ?_);rintro _ w13 ⟨g4,eb,B4,rfl,e4,_⟩;refine⟨fun _=>kB g4,?_⟩;have s4:w10.heap.size≤w13.heap.size:=g4.size;rw[hleaf]at e4;obtain⟨kv4,nv4,vv,_,_,_,t4,_,_,_,v4,_⟩:=e4;have f4:=f1.trans g4;have a4a:=a1.fr0 g4
    have l4:rdO prog 69 w13 eb 4=some (.agg #[.bool (t.at k).isSome,vv]):=by
     rw[qQo ((fW.trans f4).at t4 id),qJb agg69 sz69 (by simp)];rfl
    simp -implicitDefEqProofs only[go_sem,jB,gLa,gLz,gLs,l4];obtain⟨w14,r5,a5,g5,s5⟩:=mk256 w13;have s5:w14.heap.size=w13.heap.size+1:=s5;refine qXx ⟨_,w14,r5,fun _=>kB g5,?_⟩;have z5x:W.heap.size≤w13.heap.size:=f4.size;have f5:=f4.trans g5;have a5a:=a4a.fr0 g5;simp -implicitDefEqProofs only[go_sem,jF,gLa,gLz,gLs];have bl:=bldWh (kv:=(.slice (some ⟨W.heap.size,0,none⟩) 1 1)) (nv:=(.slice (some ⟨w13.heap.size,0,none⟩) 256 256)) (a:=(t.at k).isSome) (vv:=vv) rfl rfl v4.one;simp -implicitDefEqProofs only[go_sem,jF,jB,gLa,gLz,gLs,bl,jM];exact fin w14 _ _ vv f5 a5a a5 v4 (by omega) (fun b hb=>by simp only[qQb,oSi]at hb;omega)
  ·skip
   obtain⟨w15,r6,a6,g6,s6⟩:=mk256 W.drew;have s6:w15.heap.size=W.heap.size+1:=s6;refine qXx ⟨_,w15,r6,fun _=>kB g6,?_⟩;have z6x:W.heap.size≤W.heap.size:=fd.size;have f6:=fd.trans g6;simp -implicitDefEqProofs only[go_sem,jF,gLa,gLz,gLs];refine⟨?_,?_⟩
   ·skip
    refine qZe (v:=(.slice (some ⟨w15.heap.size,0,none⟩) 1 1)) (w':=w15.alloc (.cells (bl k) 34)) (qXb (by rw[zJ,kH]) kH hk (fun cells=>((.slice (some ⟨w15.heap.size,0,none⟩) 1 1),w15.alloc (.cells cells 34)))) (fun _=>Ext.alloc _ _) ?_;have a7:RdD (w15.alloc (.cells (bl k) 34)) (.slice (some ⟨w15.heap.size,0,none⟩) 1 1) [k]:=(NwD.one hk f6.size).rd;have g7:No w15 (w15.alloc (.cells (bl k) 34)):=(Fr.refl _ _).alloc _;have s7:(w15.alloc (.cells (bl k) 34)).heap.size=w15.heap.size+1:=qQd _ _;generalize w15.alloc (.cells (bl k) 34)=w16 at a7 g7 s7 ⊢;have f7:=f6.trans g7;have m7m:=a6.fr0 g7;simp -implicitDefEqProofs only[go_sem,jF,gLa,gLz,gLs];refine qQn pl48 ((tend u w0 w16 hT (fW.trans f7) hok hk).mono ?_);rintro _ w17 ⟨g8,eb,B8,rfl,e8,_⟩;refine⟨fun _=>kB g8,?_⟩;have s8:w16.heap.size≤w17.heap.size:=g8.size;rw[hleaf]at e8;obtain⟨kv8,nv8,vv,_,_,_,t8,_,_,_,v8,_⟩:=e8;have f8:=f7.trans g8;have a8a:=a7.fr0 g8;have m8m:=m7m.fr0 g8
    have l8:rdO prog 69 w17 eb 4=some (.agg #[.bool (t.at k).isSome,vv]):=by
     rw[qQo ((fW.trans f8).at t8 id),qJb agg69 sz69 (by simp)];rfl
    simp -implicitDefEqProofs only[go_sem,jF,jB,gLa,gLz,gLs,l8];have bl:=bldWh (kv:=(.slice (some ⟨w15.heap.size,0,none⟩) 1 1)) (nv:=(.slice (some ⟨W.heap.size,0,none⟩) 256 256)) (a:=(t.at k).isSome) (vv:=vv) rfl rfl v8.one;simp -implicitDefEqProofs only[go_sem,jF,jB,gLa,gLz,gLs,bl,jM];exact fin w17 _ _ vv f8 a8a m8m v8 (by omega) (fun b hb=>by simp only[qQb,oSi]at hb;omega)
   ·skip
    refine qQn pl48 ((tend u w0 w15 hT (fW.trans f6) hok hk).mono ?_);rintro _ w18 ⟨g9,eb,B9,rfl,e9,_⟩;refine⟨fun _=>kB g9,?_⟩;have s9:w15.heap.size≤w18.heap.size:=g9.size;rw[hleaf]at e9;obtain⟨kv9,nv9,vv,_,_,_,t9,_,_,_,v9,_⟩:=e9;have f9:=f6.trans g9;have m9m:=a6.fr0 g9
    have l9:rdO prog 69 w18 eb 4=some (.agg #[.bool (t.at k).isSome,vv]):=by
     rw[qQo ((fW.trans f9).at t9 id),qJb agg69 sz69 (by simp)];rfl
    simp -implicitDefEqProofs only[go_sem,jF,jB,gLa,gLz,gLs,l9];refine qZe (v:=(.slice (some ⟨w18.heap.size,0,none⟩) 1 1)) (w':=w18.alloc (.cells (bl k) 34)) (qXb (by rw[zJ,kH]) kH hk (fun cells=>((.slice (some ⟨w18.heap.size,0,none⟩) 1 1),w18.alloc (.cells cells 34)))) (fun _=>Ext.alloc _ _) ?_;have a10:RdD (w18.alloc (.cells (bl k) 34)) (.slice (some ⟨w18.heap.size,0,none⟩) 1 1) [k]:=(NwD.one hk f9.size).rd;have g10:No w18 (w18.alloc (.cells (bl k) 34)):=(Fr.refl _ _).alloc _;have s10:(w18.alloc (.cells (bl k) 34)).heap.size=w18.heap.size+1:=qQd _ _;generalize w18.alloc (.cells (bl k) 34)=w19 at a10 g10 s10 ⊢;have f10:=f9.trans g10;have m10m:=m9m.fr0 g10;simp -implicitDefEqProofs only[go_sem,jF,gLa,gLz,gLs];have bl:=bldWh (kv:=(.slice (some ⟨w18.heap.size,0,none⟩) 1 1)) (nv:=(.slice (some ⟨W.heap.size,0,none⟩) 256 256)) (a:=(t.at k).isSome) (vv:=vv) rfl rfl v9.one;simp -implicitDefEqProofs only[go_sem,jF,jB,gLa,gLz,gLs,bl,jM];exact fin w19 _ _ vv f10 a10 m10m v9 (by omega) (fun b hb=>by simp only[qQb,oSi]at hb;omega)
  ·skip
   refine qQn pl48 ((tend u w0 W.drew hT (fW.trans fd) hok hk).mono ?_);rintro _ w20 ⟨g11,eb,B11,rfl,e11,_⟩;refine⟨fun _=>kB g11,?_⟩;have s11:W.heap.size≤w20.heap.size:=g11.size;rw[hleaf]at e11;obtain⟨kv11,nv11,vv,_,_,_,t11,_,_,_,v11,_⟩:=e11;have f11:=fd.trans g11
   have l11:rdO prog 69 w20 eb 4=some (.agg #[.bool (t.at k).isSome,vv]):=by
    rw[qQo ((fW.trans f11).at t11 id),qJb agg69 sz69 (by simp)];rfl
   simp -implicitDefEqProofs only[go_sem,jF,jB,gLa,gLz,gLs,l11];refine⟨?_,?_⟩
   ·skip
    refine qZe (v:=(.slice (some ⟨w20.heap.size,0,none⟩) 1 1)) (w':=w20.alloc (.cells (bl k) 34)) (qXb (by rw[zJ,kH]) kH hk (fun cells=>((.slice (some ⟨w20.heap.size,0,none⟩) 1 1),w20.alloc (.cells cells 34)))) (fun _=>Ext.alloc _ _) ?_;have a12:RdD (w20.alloc (.cells (bl k) 34)) (.slice (some ⟨w20.heap.size,0,none⟩) 1 1) [k]:=(NwD.one hk f11.size).rd;have g12:No w20 (w20.alloc (.cells (bl k) 34)):=(Fr.refl _ _).alloc _;have s12:(w20.alloc (.cells (bl k) 34)).heap.size=w20.heap.size+1:=qQd _ _;generalize w20.alloc (.cells (bl k) 34)=w21 at a12 g12 s12 ⊢;have f12:=f11.trans g12;simp -implicitDefEqProofs only[go_sem,gLa,gLz,gLs];obtain⟨w22,r13,a13,g13,s13⟩:=mk256 w21;have s13:w22.heap.size=w21.heap.size+1:=s13;refine qXx ⟨_,w22,r13,fun _=>kB g13,?_⟩;have z13x:W.heap.size≤w21.heap.size:=f12.size;have f13:=f12.trans g13;have a13a:=a12.fr0 g13;simp -implicitDefEqProofs only[go_sem,jF,gLa,gLz,gLs];have bl:=bldWh (kv:=(.slice (some ⟨w20.heap.size,0,none⟩) 1 1)) (nv:=(.slice (some ⟨w21.heap.size,0,none⟩) 256 256)) (a:=(t.at k).isSome) (vv:=vv) rfl rfl v11.one;simp -implicitDefEqProofs only[go_sem,jF,jB,gLa,gLz,gLs,bl,jM];exact fin w22 _ _ vv f13 a13a a13 v11 (by omega) (fun b hb=>by simp only[qQb,oSi]at hb;omega)
   ·skip
    obtain⟨w23,r14,a14,g14,s14⟩:=mk256 w20;have s14:w23.heap.size=w20.heap.size+1:=s14;refine qXx ⟨_,w23,r14,fun _=>kB g14,?_⟩;have z14x:W.heap.size≤w20.heap.size:=f11.size;have f14:=f11.trans g14;simp -implicitDefEqProofs only[go_sem,jF,gLa,gLz,gLs];refine qZe (v:=(.slice (some ⟨w23.heap.size,0,none⟩) 1 1)) (w':=w23.alloc (.cells (bl k) 34)) (qXb (by rw[zJ,kH]) kH hk (fun cells=>((.slice (some ⟨w23.heap.size,0,none⟩) 1 1),w23.alloc (.cells cells 34)))) (fun _=>Ext.alloc _ _) ?_;have a15:RdD (w23.alloc (.cells (bl k) 34)) (.slice (some ⟨w23.heap.size,0,none⟩) 1 1) [k]:=(NwD.one hk f14.size).rd;have g15:No w23 (w23.alloc (.cells (bl k) 34)):=(Fr.refl _ _).alloc _;have s15:(w23.alloc (.cells (bl k) 34)).heap.size=w23.heap.size+1:=qQd _ _;generalize w23.alloc (.cells (bl k) 34)=w24 at a15 g15 s15 ⊢;have f15:=f14.trans g15;have m15m:=a14.fr0 g15;simp -implicitDefEqProofs only[go_sem,jF,gLa,gLz,gLs];have bl:=bldWh (kv:=(.slice (some ⟨w23.heap.size,0,none⟩) 1 1)) (nv:=(.slice (some ⟨w20.heap.size,0,none⟩) 256 256)) (a:=(t.at k).isSome) (vv:=vv) rfl rfl v11.one;simp -implicitDefEqProofs only[go_sem,jF,jB,gLa,gLz,gLs,bl,jM];exact fin w24 _ _ vv f15 a15 m15m v11 (by omega) (fun b hb=>by simp only[qQb,oSi]at hb;omega)
 case rest =>
  rintro ev wA ⟨hb,b2,kv,vv,x0,x1,x5,x7,fA,hbA,hkv,hnv,hvv,hb2,hne,hkb⟩;simp -implicitDefEqProofs only[go_sem];have hfull:kP wd t k=kP wd t k++zds.drop t.top:=by rw[htop,show zds.drop 256=[] from rfl,List.append_nil]
  refine loopD [0,1,5,7] (siI u w0 wA (kP wd t k) wd k hb b2) t.size ⟨tb,t,B,zds,by simp only[List.map_cons,List.map_nil,x0,x1,x5,x7],hT,hok,hkm,hfull,rfl,rfl,hnv,Fr.refl _ _⟩ ?_;rintro _ vs w2 g ⟨cb,s,Bs',ds,rfl,hS,sok,hks,hfu,hds,rfl,hn2,f2⟩;have fA0:No w0 wA:=fW.trans fA;have f02:No w0 w2:=fA0.trans' f2 fun b hlt e=>by omega
  have hb2':w2.heap[hb]?=_:=f2.at hbA fun e=>hne e.symm;have rh:=qQo (P:=prog) hb2'
  have hcell:∃ kv' nv' fb' vv' lp' rp',w0.heap[cb]?=some (.cells (twC kv' s.fr s.top nv' fb' vv' lp' rp') 96 (0,0))∧NwD wE w0 23 nv' s.near:=by
   cases s with
   | leaf k' top near a=>obtain⟨kv',nv',vv',Bn,Bv,rfl,t0,_,hn0,_⟩:=id hS;exact⟨_,_,_,_,_,_,t0,hn0⟩
   | fork ks f top near l r=>obtain⟨kv',nv',fb',vv',lb,rb,Bn,Bl,Br,rfl,t0,_,hn0,_⟩:=id hS;exact⟨_,_,_,_,_,_,t0,hn0⟩
  obtain⟨kv',nv',fb',vv',lp',rp',t0,hn0⟩:=hcell;have hfr:=sok.fr_le;have htp:=sok.top_le;have hnl:=sok.near_len;have r2:=qQo (P:=prog) (f02.at t0 id);have r2d:∀ t o,rdO prog t w2.drew cb o=ldO prog t (some (.cells (twC kv' s.fr s.top nv' fb' vv' lp' rp') 96 (0,0))) o:=r2;have rhd:∀ t' o,rdO prog t' w2.drew hb o=ldO prog t' (some (.cells (twC kv 0 256 (.slice (some ⟨b2,0,none⟩) 256 256) (.bool (t.at k).isSome) vv (.pointer none) (.pointer none)) 96 (0,0))) o:=rh;have sl:=slc_lo (P:=prog) slc94 arr94 sz23 (a:=some ⟨b2,0,none⟩) (l:=s.fr) (n:=256) (cap:=256) (by omega) (xP _);simp -implicitDefEqProofs only[go_sem,jF,jB,gLa,gLz,gLs,r2d,rhd,qQk,sl];obtain⟨w3,e3,n3,f3⟩:=dcopy (P:=prog) (ts:=#[94,94]) rfl slc94 sz23 (hn2.fr0 (Fr.refl _ _).drew) (hn0.rd.fr0 f02.drew) (f:=s.fr) (show s.fr+s.near.length≤256 by omega);refine qQg ⟨_,w3,e3,?_⟩;have f23:Fr (fun b=>b=b2) w2 w3:=((Fr.refl _ _).drew).trans f3;have fA3:=f2.trans f23;have f03:No w0 w3:=fA0.trans' fA3 fun b hlt e=>by omega
  have hb3:w3.heap[hb]?=_:=fA3.at hbA fun e=>hne e.symm;have rh3:=qQo (P:=prog) hb3;have hkv3:RdD w3 kv [k]:=hkv.fr fA3 fun b hb _ e=>hkb b hb e;clear r2 r2d rh rhd sl e3 t0 hn0
  cases s with
  | leaf k' top near a =>
   obtain⟨kv1,nv1,vv1,Bn,Bv,rfl,t0,_⟩:=id hS;have r3:=qQo (P:=prog) (f03.at t0 id);simp -implicitDefEqProofs only[go_sem,jF,gLa,gLz,gLs,r3,qQk];have hov:=Wit.down_leaf sok hfu;have n3:NwD wE w3 23 (.slice (some ⟨b2,0,none⟩) 256 256) (Wit.over 0 ds near):=n3;rw[hov]at n3
   have hTw:TwM w3 w3 hb (Wit.part wd t k) (hb::([b2]++(qQb vv).toList)):=⟨kv,_,vv,[b2],(qQb vv).toList,rfl,hb3,hkv3,n3,fun b hb=>by simp only[qQb,oSi]at hb;simp[hb],hvv.fr0 f03,fun b hb=>by simp[hb]⟩
   refine qQa pl69 ((laid w3 w3 (ht.no f03) wd hTw (Wit.part_ok hok htop hkm) (by simp[Wit.part,Wit.Tw.keys]) (Fr.refl _ _)).mono ?_);rintro v w4 ⟨n4,f4⟩;simp -implicitDefEqProofs only[go_sem];exact⟨n4.back f03.size,f03.trans f4⟩
  | fork ks f top near l r =>
   obtain⟨kv1,nv1,fb1,vv1,lb,rb,Bn,Bl,Br,rfl,t0,_,_,_,hL,hR⟩:=id hS;have hfp:=sok.f_pos;have hfl:f≤256:=Nat.le_trans sok.2.1 sok.2.2.1;have r3:=qQo (P:=prog) (f03.at t0 id);have rk3:rdO prog 34 w3 w0.heap.size 0=some (dg k):=rd_d agg34 sz34 ((fA.trans' fA3 fun b hlt e=>by omega).at kW id) hk;have rk3d:rdO prog 34 w3.drew w0.heap.size 0=some (dg k):=rk3;have r3d:∀ t o,rdO prog t w3.drew cb o=ldO prog t (some (.cells (twC kv1 f top nv1 fb1 vv1 (pt lb 0) (pt rb 0)) 96 (0,0))) o:=r3;have c1:IntKind.i64.wrap (256 - (f:Int))=((256 - f:Nat):Int):=qXl (a:=256) (by omega) (by omega);simp -implicitDefEqProofs only[go_sem,jF,jB,gLa,gLz,gLs,r3,r3d,rk3d,qQk,c1];refine qQa pl92 ((bbit _ hk (show 256 - f<256 by omega)).mono ?_);rintro _ w4 ⟨rfl,f4⟩;have f34:No w3 w4:=((Fr.refl _ _).drew.drew).trans f4;have r4d:∀ t o,rdO prog t w4.drew cb o=ldO prog t (some (.cells (twC kv1 f top nv1 fb1 vv1 (pt lb 0) (pt rb 0)) 96 (0,0))) o:=qQo (P:=prog) ((f03.trans f34).at t0 id);have rh4d:∀ t' o,rdO prog t' w4.drew hb o=ldO prog t' (some (.cells (twC kv 0 256 (.slice (some ⟨b2,0,none⟩) 256 256) (.bool (t.at k).isSome) vv (.pointer none) (.pointer none)) 96 (0,0))) o:=qQo (P:=prog) (f34.at hb3 id);have c2:IntKind.i64.wrap ((f:Int) - 1)=((f - 1:Nat):Int):=qXl (b:=1) (by omega) (by omega);have hnx:=Wit.next_ok sok hks;have hdown:=Wit.down_fork sok hds hfu;have f34d:No w3 w4.drew:=f34.drew;have f04d:No w0 w4.drew:=f03.trans f34d;have hfr:f+near.length≤256:=by have h1:f≤top:=hfr;have h2:top≤256:=htp;have h3:near.length=top - f:=hnl;omega
   have hol:(Wit.over f ds near).length=256:=by rw[Wit.over_len (by rw[hds];exact hfr),hds]
   have n3:NwD wE w3 23 (.slice (some ⟨b2,0,none⟩) 256 256) (Wit.over f ds near):=n3;have y1:(0:Int)≤((f - 1:Nat):Int)∧((f - 1:Nat):Int)<((256:Nat):Int):=by omega
   unfold kb
   by_cases hbit:kbit k (256 - f)=true
   ·have e1:(Wit.Tw.fork ks f top near l r).next k=r:=by simp only[Wit.Tw.next];rw[if_pos hbit]
    have e2:(Wit.Tw.fork ks f top near l r).other k=l:=by simp only[Wit.Tw.other];rw[if_pos hbit]
    have d0:((1:Int) == 1)=true:=rfl;rw[if_pos hbit];simp -implicitDefEqProofs only[go_sem,jF,d0];refine qXh (fun j=>j == 11) [0,1,2,3,4,5,6,7,8,9,10,11,12,13] rfl (by kernel_rfl) (by kernel_rfl) ?_;simp -implicitDefEqProofs only[go_sem,jF,jB,gLa,gLz,gLs,r4d,rh4d,qQk,c2];rw[e1,e2]at hdown;rw[e1]at hnx;rw[e2]at hnx;refine qQt pl60 ((hashed u _ (ht.no f04d) wd (asIsF _) (hL.fr0 f04d) hnx.2.2 (hu.trans f04d)).mono ?_);rintro _ w5 ⟨rfl,f5⟩;refine⟨fun _=>kB f5,?_⟩;have n5:=(n3.fr0 f34d).fr0 f5;obtain⟨w6,q6,n6,f6⟩:=n5.set (P:=prog) (t:=23) sz23 (i:=f - 1) (d:=vO wd kN l) (by rw[hol];omega) (kX _ _ _);rw[Nat.zero_add]at q6;simp -implicitDefEqProofs only[go_sem,jF,jB,gLa,gLz,gLs,y1,iTn,q6];exact⟨r.size,by have:=Wit.Tw.size_pos l;show r.size<l.size+r.size+1;omega,rb,r,Br,_,rfl,hR,hnx.1,hnx.2.1,hdown,by rw[List.length_set,hol],rfl,n6,((fA3.trans' (f34d.trans f5) fun _ _ h=>h.elim)).trans f6⟩
   ·have e1:(Wit.Tw.fork ks f top near l r).next k=l:=by simp only[Wit.Tw.next];rw[if_neg hbit]
    have e2:(Wit.Tw.fork ks f top near l r).other k=r:=by simp only[Wit.Tw.other];rw[if_neg hbit]
    have d0:((0:Int) == 1)=false:=rfl;rw[if_neg hbit];simp -implicitDefEqProofs only[go_sem,d0];refine qXh (fun j=>j == 11) [0,1,2,3,4,5,6,7,8,9,10,11,12,13] rfl (by kernel_rfl) (by kernel_rfl) ?_;simp -implicitDefEqProofs only[go_sem,jF,jB,gLa,gLz,gLs,r4d,rh4d,qQk,c2];rw[e1,e2]at hdown;rw[e1]at hnx;rw[e2]at hnx;refine qQt pl60 ((hashed u _ (ht.no f04d) wd (asIsF _) (hR.fr0 f04d) hnx.2.2 (hu.trans f04d)).mono ?_);rintro _ w5 ⟨rfl,f5⟩;refine⟨fun _=>kB f5,?_⟩;have n5:=(n3.fr0 f34d).fr0 f5;obtain⟨w6,q6,n6,f6⟩:=n5.set (P:=prog) (t:=23) sz23 (i:=f - 1) (d:=vO wd kN r) (by rw[hol];omega) (kX _ _ _);rw[Nat.zero_add]at q6;simp -implicitDefEqProofs only[go_sem,jF,jB,gLa,gLz,gLs,y1,iTn,q6];exact⟨l.size,by have:=Wit.Tw.size_pos r;show l.size<l.size+r.size+1;omega,lb,l,Bl,_,rfl,hL,hnx.1,hnx.2.1,hdown,by rw[List.length_set,hol],rfl,n6,((fA3.trans' (f34d.trans f5) fun _ _ h=>h.elim)).trans f6⟩
def ixI (w0:World)(kv:Value)(ks:List Bs)(k:Bs)(n:Nat)(vs:List Value)(w:World):Prop :=
 ∃ (i:Nat),vs=[kv,pt w0.heap.size 0,.int .i64 (ks.length:Nat),.int .i64 (i:Nat)]∧i≤ks.length∧n=ks.length - i∧k ∉ ks.take i∧No w0 w∧w.heap[w0.heap.size]?=some (.cells (bl k) 34 (0,0))
theorem kindex (w0:World)(hk:RdD w0 kv ks)(hkl:k.length=32)(hl:ks.length≤2 ^ 40) :
  Fn prog 114 #[kv,dg k] w0 fun v w'=>No w0 w'∧∃ z:Int,v=.int .i64 z∧(0≤z ↔ k ∈ ks):=by
 refine go114 (by simp) ?_;obtain⟨W,hW,f1,k1,s1⟩:=qQs w0 (bl k) 34;obtain⟨ka,kc,rfl,hkc⟩:=hk.slice;simp -implicitDefEqProofs only[go_sem,jF,gLa,gLz,Tryz.f114,jM,hW];refine loopD [0,3,7,8] (ixI w0 (.slice ka ks.length kc) ks k) ks.length ⟨0,rfl,by omega,rfl,by simp,f1,k1⟩ ?_;rintro _ vs w2 g ⟨i,rfl,hi,rfl,hno,f2,k2⟩
 by_cases hlt:i<ks.length
 ·have d4:=dTo ((i:Int)<((ks.length:Nat):Int))
  have hk4:=hk.fr0 f2;obtain⟨b,o,cap,he,_,_⟩:=hk4.pos (by omega);cases he;have q1:=hk4.get (P:=prog) agg34 sz34 hlt;have kl:=hk.1.getD hlt;have y1:=iBd (i:=i) (n:=ks.length);have rk:=rd_d agg34 sz34 k2 hkl;have q1d:rdO prog 34 w2.drew b (o+i*32)=some (dg (ks.getD i [])):=q1;have rkd:rdO prog 34 w2.drew w0.heap.size 0=some (dg k):=rk;have eq:=eqKey hkl kl;have c2:=iSu (i:=i);have htk:ks.take (i+1)=ks.take i++[ks.getD i []]:=by rw[tSg hlt,qQi _ hlt]
  by_cases he:k=ks.getD i []
  ·have hb:(k == ks.getD i [])=true:=by rw[beq_iff_eq];exact he
   simp -implicitDefEqProofs only[go_sem,jF,y1,and_self,iTn,q1d,rkd,eq,hb];exact⟨f2.drew,i,rfl,iff_of_true (by omega) (by rw[he,qQi _ hlt];exact List.getElem_mem _)⟩
  ·have hb:(k == ks.getD i [])=false:=by rw[bFn];exact he
   simp -implicitDefEqProofs only[go_sem,jF,y1,and_self,iTn,q1d,rkd,eq,hb,c2];exact⟨ks.length - (i+1),by omega,i+1,rfl,by omega,rfl,fun hm=>by rw[htk]at hm;rcases List.mem_append.1 hm with hm | hm;exact hno hm;exact he (by simpa using hm),f2.drew,k2⟩
 ·have d4:=dFo ((i:Int)<((ks.length:Nat):Int))
  obtain rfl:i=ks.length:=by omega
  rw[List.take_length]at hno;simp -implicitDefEqProofs only[go_sem,jF,d4];exact⟨f2,-1,rfl,iff_of_false (by omega) hno⟩
theorem kcontains (w0:World)(hk:RdD w0 kv ks)(hkl:k.length=32)(hl:ks.length≤2 ^ 40) :
  Fn prog 63 #[kv,dg k] w0 fun v w'=>No w0 w'∧v=.bool (decide (k ∈ ks)):=by
 refine go63 (by simp) ?_;obtain⟨W,hW,f1,k1,s1⟩:=qQs w0 (bl k) 34;obtain⟨ka,kc,rfl,hkc⟩:=hk.slice;have rk:=rd_d agg34 sz34 k1 hkl;simp -implicitDefEqProofs only[go_sem,jF,Tryz.f63,jM,hW,rk];refine qQa pl114 ((kindex W (hk.fr0 f1) hkl hl).mono ?_);rintro _ w2 ⟨f2,z,rfl,hz⟩
 have d:decide (z ≥ 0)=decide (k ∈ ks):=by
  by_cases h:k ∈ ks
  ·rw[decide_eq_true h,decide_eq_true (hz.2 h)]
  ·rw[decide_eq_false h,decide_eq_false (fun c=>h (hz.1 c))]
 simp -implicitDefEqProofs only[go_sem,d];exact⟨f1.trans f2,trivial⟩
theorem partW (w0:World)(ht:Tabs w0)(wd:Int){raw:Bs}(hk:RdD w0 kv ks)(hr:By w0 rawv raw)(hkl:k.length=32) :
  Fn prog 33 #[.int .i64 wd,kv,rawv,dg k] w0 (BsQ w0 (Wit.partP wd ks raw k)):=by
 refine go33 (by simp) ?_;obtain⟨W,hW,f1,k1,s1⟩:=qQs w0 (bl k) 34;simp -implicitDefEqProofs only[go_sem,jF,vJ,Tryz.f33,jM,hW];refine qQa pl46 ((sorted W wd (hk.fr0 f1)).mono ?_);rintro r w2 ⟨f2,h2⟩;have f02:=f1.trans f2;unfold BsQ Wit.partP
 cases hs:Wit.sortW wd ks with
 | error e =>
  rw[hs]at h2;subst h2;have he:=sortW_err hs;simp -implicitDefEqProofs only[go_sem,jF,gLa,gLz,gLs,he];exact⟨f02,trivial⟩
 | ok l =>
  rw[hs]at h2;obtain⟨lv,rfl,n2⟩:=h2;obtain⟨hse,_,_⟩:=Wit.sortW_ok hs;obtain⟨asc,l32,hlen,hl64,hperm⟩:=Wit.sortE_ok hk.1 hse;simp -implicitDefEqProofs only[go_sem,jF,gLa,gLz,gLs,bNe];refine qQa pl62 ((rread w2 w2 (Fr.refl _ _) (ht.no f02) wd n2.rd (hr.fr0 f02) asc hl64).mono ?_);rintro r w3 ⟨f3,h3⟩;have f03:=f02.trans f3;have n3:=n2.fr0 f3;have r3:=rd_d agg34 sz34 ((f2.trans f3).at k1 id) hkl
  cases hf:Wit.form wd l raw with
  | error e =>
   rw[hf]at h3;subst h3;have he:(e != 0)=true:=by rw[bne,form_err hf];rfl
   simp -implicitDefEqProofs only[go_sem,jF,gLa,gLz,gLs,he];exact⟨f03,trivial⟩
  | ok o =>
   rw[hf]at h3
   cases o with
   | none =>
    subst h3;have hl0:l=[]:=Wit.underP_none (w:=wd) (root:=[]) (raw:=raw) (by unfold kD;rw[hf]);subst hl0;simp -implicitDefEqProofs only[go_sem,jF,gLa,gLz,gLs,bNe,r3];refine qQa pl63 ((kcontains w3 n3.rd hkl (by simp)).mono ?_);rintro _ w4 ⟨f4,rfl⟩;have d:decide (k ∈ ([]:List Bs))=false:=by simp
    simp -implicitDefEqProofs only[go_sem,jF,d];exact⟨f03.trans f4,trivial⟩
   | some t =>
    obtain⟨tv,rfl,hX⟩:=h3;obtain⟨u,tb,B,rfl,g1,g2,T3,nd,bd⟩:=hX.x (Fr.refl _ _);obtain⟨hok,hkeys,htop,_⟩:=kC asc l32 hf;simp -implicitDefEqProofs only[go_sem,jF,gLa,gLz,gLs,bNe,r3];refine qQa pl63 ((kcontains w3 n3.rd hkl (by omega)).mono ?_);rintro _ w4 ⟨f4,rfl⟩
    by_cases hm:k ∈ l
    ·have d:decide (k ∈ l)=true:=decide_eq_true hm
     have r4:=rd_d agg34 sz34 (((f2.trans f3).trans f4).at k1 id) hkl;simp -implicitDefEqProofs only[go_sem,jF,d,r4];refine qQa pl51 ((single u w4 (ht.no (f03.trans f4)) wd (T3.fr0 f4) hok htop (g2.trans f4) (by rw[hkeys];exact hm)).mono ?_);rintro v w5 ⟨n5,f5⟩;rw[if_pos hm];simp -implicitDefEqProofs only[go_sem,jF];exact⟨(f03.trans f4).trans f5,v,rfl,n5.back (f03.trans f4).size⟩
    ·have d:decide (k ∈ l)=false:=decide_eq_false hm
     rw[if_neg hm];simp -implicitDefEqProofs only[go_sem,jF,d];exact⟨f03.trans f4,trivial⟩
end Go.V
