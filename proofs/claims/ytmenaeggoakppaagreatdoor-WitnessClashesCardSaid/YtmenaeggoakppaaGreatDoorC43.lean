/- Helpers. -/
import Derived.Test.YtmenaeggoakppaaGreatDoorC42
import Derived.Test.YtmenaeggoakppaaGreatDoorC35
import Derived.Test.YtmenaeggoakppaaGreatDoorC32
set_option linter.all false
set_option maxRecDepth 100000
set_option maxHeartbeats 8000000
open Go.V.Fr renaming ext→rX
open Nat renaming reduceEqDiff→jR,reduceBEq→jL
open Go.Value renaming cells→jS
open Go.V.Wit renaming underP_ok→rI,underP→kM,part→rE
namespace Go.V
open Go.Proofs.Tryz Go.V.Tryz
open Go.Proofs Sha
namespace C
def exOf (wd:Int)(root:Bs)(s t:Wit.Tw)(k:Bs):Option (Bs × Bs) :=
 match heldP wd root k (Wit.txt wd (rE wd s k)),heldP wd root k (Wit.txt wd (rE wd t k)) with
 | .ok (a1,b1,s1),.ok (a2,b2,s2)=>exP (txs wd k a1 b1 s1) (txs wd k a2 b2 s2)
 | _,_=>none
def clG (wd:Int)(root:Bs)(s t:Wit.Tw):List Bs→Option (Bs × Bs)
 | []=>none
 | k::r=>if s.at k=t.at k then clG wd root s t r else exOf wd root s t k
def clashP (wd:Int)(root:Bs)(ks:List Bs)(p1 p2:Bs):Option (Bs × Bs) :=
 match Wit.sortW wd ks with
 | .error _=>none
 | .ok l=>match kM wd root l p1,kM wd root l p2 with
  | .ok (some s),.ok (some t)=>clG wd root s t l
  | _,_=>none
end C
theorem tendA (u wT w0:World){t:Wit.Tw}{tb:Nat}{B0:List Nat}(hT:TwM u wT tb t B0)(hw:No wT w0)(hok:t.Ok){k:Bs}(hk:k.length=32) :
  Fn prog 48 #[pt tb 0,dg k] w0 fun v w'=>No w0 w'∧∃ eb vv,v=pt eb 0∧one vv=true∧By wT vv ((t.at k).getD [])∧∀ w'',No wT w''→rdO prog 69 w'' eb 4=some (.agg #[.bool (t.at k).isSome,vv]) :=
 (tend u wT w0 hT hw hok hk).mono fun v w' ⟨f,eb,B,e,E7,_⟩=>by
  obtain⟨k',top,near,he⟩:=Wit.endT_leaf t k;rw[he]at E7;obtain⟨kv7,nv7,vv7,_,_,_,t7,_,_,_,v7,_⟩:=E7;exact⟨f,eb,vv7,e,v7.one,v7,fun w'' g=>by rw[qQq (g.at t7 id),qJc agg69 sz69 (by simp)];rfl⟩
theorem stA {wT w:World}{b:Nat}(hb:w.heap[b]?=some (.cells #[.bool false, .slice Option.none 0 0] 69 (0, 0)))(lb:wT.heap.size≤b)(f:No wT w){p:Bool}{x:Value}(ox:one x=true) :
  ∃ u,wrO prog 69 w b 0 (.agg #[.bool p,x])=some u∧u.heap[b]?=some (.cells #[.bool p,x] 69 (0,0))∧No wT u∧∀ {c:Nat} (o:Obj),c≠b→w.heap[c]?=some o→u.heap[c]?=some o :=
 ⟨_,qQw (vs:=#[.bool p,x]) sz69 hb rfl (by simp[ox];rfl),qQf hb,f.put (b:=b) _ fun h=>by omega,fun o hc h=>qQt (b:=b) (o:=.cells #[.bool p,x] 69 (0,0)) h (fun e=>hc e.symm)⟩
def clsK (wT:World)(wd:Int)(rb:Nat)(tv1 tv2:Value)(kb:Nat)(lv:Value)(n i:Nat)(a1 a2:Option Bs)(x0 x6 x15 x16 x18 x49 x50 x51 x19 x20:Value)(w:World):Prop :=
 x0=.int .i64 wd∧x6=pt rb 0∧x15=tv1∧x16=tv2∧x18=pt kb 0∧x49=lv∧x50=.int .i64 (n:Nat)∧x51=.int .i64 (i:Nat)∧∃ b c v1 v2,x19=pt b 0∧x20=pt c 0∧w.heap[b]?=some (.cells #[.bool a1.isSome,v1] 69 (0,0))∧w.heap[c]?=some (.cells #[.bool a2.isSome,v2] 69 (0,0))∧one v1=true∧one v2=true∧By wT v1 (a1.getD [])∧By wT v2 (a2.getD [])∧No wT w
def clsI (w3:World)(wd:Int)(rb:Nat)(tv1 tv2 lv:Value)(l:List Bs)(o:Option (Bs × Bs))(g:List Bs→Option (Bs × Bs))(m:Nat)(vs:List Value)(w:World):Prop :=
 ∃ i:Nat,vs=[.int .i64 wd,pt rb 0,tv1,tv2,lv,.int .i64 (l.length:Nat),.int .i64 (i:Nat)]∧i≤l.length∧m=l.length - i∧o=g (l.drop i)∧No w3 w
theorem C.clash (w0:World)(ht:Tabs w0)(wd:Int){root:Bs}(hroot:root.length=32){kv r1 r2:Value}{ks:List Bs}{p1 p2:Bs}(hk:RdD w0 kv ks)(h1:By w0 r1 p1)(h2:By w0 r2 p2) :
  Fn prog 24 #[.int .i64 wd,dg root,kv,r1,r2] w0 (ExQ w0 (C.clashP wd root ks p1 p2)):=by
 refine go24 (by simp) ?_;obtain⟨W,hW,f1,k1,s1⟩:=qQm w0 (bl root) 23;simp -implicitDefEqProofs only[go_sem,jR,Nat.reduceAdd,Tryz.f24,jS,hW];refine qQa pl46 ((sorted W wd (hk.fr0 f1)).mono ?_);rintro r w2 ⟨f2,hm⟩;have f02:=f1.trans f2;unfold C.clashP
 cases hs:Wit.sortW wd ks with
 | error e =>
  rw[hs]at hm;subst hm;have he:=sortW_err hs;simp -implicitDefEqProofs only[go_sem,jR,gLa,gLz,gLs,he];exact⟨f02,rfl⟩
 | ok l =>
 rw[hs]at hm;obtain⟨lv,rfl,nl⟩:=hm;obtain⟨hse,hw1,hw2⟩:=Wit.sortW_ok hs;obtain⟨asc,l32,hlen,hl64,hperm⟩:=Wit.sortE_ok hk.1 hse;have rr:=rd_d agg23 sz23 (f2.at k1 id) hroot;simp -implicitDefEqProofs only[go_sem,jR,gLa,gLz,gLs,bNe,rr];refine qQa pl47 ((under w2 (ht.no f02) wd hroot nl.rd (h1.fr0 f02) asc hl64).mono ?_);rintro r w3 ⟨f3,h3⟩;have f03:=f02.trans f3;have rr3:=rd_d agg23 sz23 ((f2.trans f3).at k1 id) hroot
 cases hu:kM wd root l p1 with
 | error e =>
  rw[hu]at h3;subst h3;have he:=qKb hu;simp -implicitDefEqProofs only[go_sem,jR,gLa,gLz,gLs,he];exact⟨f03,rfl⟩
 | ok o1 =>
 have key1:∃ tv,r=.tuple #[tv,.int .i64 0]∧∀ t,o1=some t→TwX w2 w3 tv t:=by
  rw[hu]at h3
  cases o1 with
  | none=>exact⟨_,h3,fun t h=>by cases h⟩
  | some t=>obtain⟨tv,h,hX⟩:=h3;exact⟨tv,h,fun t' h'=>by cases h';exact hX⟩
 clear h3;obtain⟨tv1,rfl,X1⟩:=key1;simp -implicitDefEqProofs only[go_sem,jR,gLa,gLz,gLs,bNe,rr3];refine qQa pl47 ((under w3 (ht.no f03) wd hroot (nl.rd.fr0 f3) (h2.fr0 f03) asc hl64).mono ?_);rintro r w4 ⟨f4,h4⟩;have f04:=f03.trans f4
 cases hv:kM wd root l p2 with
 | error e =>
  rw[hv]at h4;subst h4;have he:=qKb hv;simp -implicitDefEqProofs only[go_sem,jR,gLa,gLz,gLs,he];exact⟨f04,rfl⟩
 | ok o2 =>
 have key2:∃ tv,r=.tuple #[tv,.int .i64 0]∧∀ t,o2=some t→TwX w3 w4 tv t:=by
  rw[hv]at h4
  cases o2 with
  | none=>exact⟨_,h4,fun t h=>by cases h⟩
  | some t=>obtain⟨tv,h,hX⟩:=h4;exact⟨tv,h,fun t' h'=>by cases h';exact hX⟩
 clear h4;obtain⟨tv2,rfl,X2⟩:=key2
 obtain⟨g,hg0,hgs⟩:∃ g:List Bs→Option (Bs × Bs),(match (Except.ok o1:Except Int (Option Wit.Tw)),(Except.ok o2:Except Int (Option Wit.Tw)) with
  | .ok (some s),.ok (some t)=>C.clG wd root s t l
  | _,_=>none)=g l∧g []=none∧(l≠[]→∃ s t,o1=some s∧o2=some t∧g=C.clG wd root s t):=by
  cases o1 with
  | none =>
   have:=Wit.underP_none hu;subst this;exact⟨fun _=>none,rfl,rfl,fun h=>absurd rfl h⟩
  | some s =>
   cases o2 with
   | none =>
    have:=Wit.underP_none hv;subst this;exact⟨fun _=>none,rfl,rfl,fun h=>absurd rfl h⟩
   | some t=>exact⟨C.clG wd root s t,rfl,rfl,fun _=>⟨s,t,rfl,rfl,rfl⟩⟩
 obtain⟨hgn,hgs⟩:=hgs;rw[hg0];obtain⟨la,lc,rfl,hlc⟩:=nl.rd.slice
 obtain⟨out,hout⟩:∃ out,out=g l:=⟨_,rfl⟩
 rw[← hout];simp -implicitDefEqProofs only[go_sem,jR,gLa,gLz,gLs,bNe];refine loopD [0,6,15,16,49,50,51] (clsI w4 wd w0.heap.size tv1 tv2 (.slice la l.length lc) l out g) l.length ⟨0,rfl,by omega,rfl,by rw[hout];rfl,Fr.refl _ _⟩ ?_;rintro _ vs w ev0 ⟨i,rfl,hi,rfl,hG,fw⟩;have f0w:=f04.trans fw
 by_cases hlt:i<l.length
 ·have d1:=dTo ((i:Int)<((l.length:Nat):Int))
  have hl4:=nl.rd.fr0 (f3.trans (f4.trans fw));obtain⟨b,o,cap,he,_,_⟩:=hl4.pos (by omega);cases he;have q1:=hl4.get (P:=prog) agg34 sz34 hlt;have kl:=l32.getD hlt;have km:l.getD i [] ∈ l:=by rw[qQl _ hlt];exact List.getElem_mem _
  have y1:=iBd (i:=i) (n:=l.length);have hdr:l.drop i=l.getD i []::l.drop (i+1):=by rw[List.drop_eq_getElem_cons hlt,qQl _ hlt]
  obtain⟨s,t,rfl,rfl,rfl⟩:=hgs (fun h=>by rw[h]at hlt;simp at hlt);obtain⟨u10,tb1,B1,rfl,_,gu1,T1,_⟩:=X1 s rfl;obtain⟨u20,tb2,B2,rfl,_,gu2,T2,_⟩:=X2 t rfl;obtain⟨ok1,tk1,tp1,_⟩:=Wit.form_ok asc l32 (rI hu).1;obtain⟨ok2,tk2,tp2,_⟩:=Wit.form_ok asc l32 (rI hv).1;have T1:TwM u10 w4 tb1 s B1:=T1.fr0 f4;rw[hdr]at hG;generalize l.getD i []=k at *;obtain⟨W5,q5,k5,f5,s5⟩:=R.allocD w sz34 kl;have f45:=fw.trans f5;have r5:=rd_d agg34 sz34 k5 kl;have c1:=iSu (i:=i);have hu1:No u10 W5:=(gu1.trans f4).trans f45;have hu2:No u20 W5:=gu2.trans f45;have T1:TwM u10 W5 tb1 s B1:=T1.fr0 f45;have T2:TwM u20 W5 tb2 t B2:=T2.fr0 f45;simp -implicitDefEqProofs only[go_sem,jR,decide_true,if_true,y1,and_self,iTn,q1,qQj,q5];refine qJa (fun j=>j == 2 || (j == 8 || (j == 12 || j == 13))) (.one 0 (.one 1 (.one 6 (.one 7 (.tri 2 (.one 3 (.one 4 (.one 5 (.tri 8 (.one 9 (.one 10 (.tri 11 (.two 12 (.one 13 (.one 14 (.one 15 (.nil)))) 13 (.one 12 (.one 14 (.one 15 (.nil))))) 12 (.two 11 (.one 13 (.one 14 (.one 15 (.nil)))) 13 (.two 11 (.one 14 (.one 15 (.nil))) 14 (.one 11 (.one 15 (.nil))))) 13 (.two 11 (.one 12 (.one 14 (.one 15 (.nil)))) 12 (.two 11 (.one 14 (.one 15 (.nil))) 14 (.one 11 (.one 15 (.nil)))))))) 12 (.two 8 (.one 9 (.one 10 (.two 11 (.one 13 (.one 14 (.one 15 (.nil)))) 13 (.two 11 (.one 14 (.one 15 (.nil))) 14 (.one 11 (.one 15 (.nil))))))) 13 (.one 8 (.one 9 (.one 10 (.two 11 (.one 14 (.one 15 (.nil))) 14 (.one 11 (.one 15 (.nil)))))))) 13 (.two 8 (.one 9 (.one 10 (.two 11 (.one 12 (.one 14 (.one 15 (.nil)))) 12 (.two 11 (.one 14 (.one 15 (.nil))) 14 (.one 11 (.one 15 (.nil))))))) 12 (.one 8 (.one 9 (.one 10 (.two 11 (.one 14 (.one 15 (.nil))) 14 (.one 11 (.one 15 (.nil)))))))))))) 12 (.two 2 (.one 3 (.one 4 (.one 5 (.two 8 (.one 9 (.one 10 (.two 11 (.one 13 (.one 14 (.one 15 (.nil)))) 13 (.two 11 (.one 14 (.one 15 (.nil))) 14 (.one 11 (.one 15 (.nil))))))) 13 (.one 8 (.one 9 (.one 10 (.two 11 (.one 14 (.one 15 (.nil))) 14 (.one 11 (.one 15 (.nil))))))))))) 13 (.one 2 (.one 3 (.one 4 (.one 5 (.one 8 (.one 9 (.one 10 (.two 11 (.one 14 (.one 15 (.nil))) 14 (.one 11 (.one 15 (.nil)))))))))))) 13 (.two 2 (.one 3 (.one 4 (.one 5 (.two 8 (.one 9 (.one 10 (.two 11 (.one 12 (.one 14 (.one 15 (.nil)))) 12 (.two 11 (.one 14 (.one 15 (.nil))) 14 (.one 11 (.one 15 (.nil))))))) 12 (.one 8 (.one 9 (.one 10 (.two 11 (.one 14 (.one 15 (.nil))) 14 (.one 11 (.one 15 (.nil))))))))))) 12 (.one 2 (.one 3 (.one 4 (.one 5 (.one 8 (.one 9 (.one 10 (.two 11 (.one 14 (.one 15 (.nil))) 14 (.one 11 (.one 15 (.nil))))))))))))))))) rfl (by kernel_rfl) (by kernel_rfl) ?_
  refine qXh (K:=fun ev wx=>clsK W5 wd w0.heap.size (pt tb1 0) (pt tb2 0) w.heap.size (.slice (some ⟨b,o,.none⟩) l.length lc) l.length i (s.at k) (t.at k) (ev 0) (ev 6) (ev 15) (ev 16) (ev 18) (ev 49) (ev 50) (ev 51) (ev 19) (ev 20) wx) ?rest _ ?main
  case main =>
    have r5d:rdO prog 34 W5.drew w.heap.size 0=some (dg k):=r5;have fD:No W5 W5.drew:=(Fr.refl _ _).drew;have kD:W5.drew.heap[w.heap.size]?=_:=k5
    obtain⟨wD,hwD⟩:∃ wD,wD=W5.drew:=⟨_,rfl⟩
    rw[← hwD]at r5d fD kD ⊢;clear hwD;simp -implicitDefEqProofs only[go_sem,jR,jL,gLa,gLz,gLs,jS,r5d];refine⟨?_,?_,?_⟩
    ·refine qQg pl48 ((tendA u10 W5 wD T1 fD ok1 kl).mono ?_)
     rintro _ z1 ⟨gz1,e2,v2,rfl,o2,y2,r2⟩;refine⟨fun _=>rX gz1,?_⟩;have fz1:=fD.trans gz1;have q5:=r2 _ fz1;simp -implicitDefEqProofs only[go_sem,jR,jL,gLa,gLz,gLs,jS,q5];refine⟨?_,?_,?_⟩
     ·refine qQg pl48 ((tendA u20 W5 z1 T2 fz1 ok2 kl).mono ?_)
      rintro _ z2 ⟨gz2,e8,v8,rfl,o8,y8,r8⟩;refine⟨fun _=>rX gz2,?_⟩;have fz2:=fz1.trans gz2;simp -implicitDefEqProofs only[go_sem,jR,jL,gLa,gLz,gLs,jS];refine⟨?_,?_,?_⟩
      ·have q11:=r8 _ fz2
       simp -implicitDefEqProofs only[go_sem,jR,jL,gLa,gLz,gLs,q11];refine⟨?_,?_⟩
       ·obtain⟨z4,hz4,gz4,k12_4,sz4⟩:=qQm z2 #[.bool false,.slice .none 0 0] 69
        rw[hz4];have fz4:=fz2.trans gz4;have b12:=fz2.size;obtain⟨z5,hz5,gz5,k13_5,sz5⟩:=qQm z4 #[.bool false,.slice .none 0 0] 69;rw[hz5];have fz5:=fz4.trans gz5;have b13:=fz4.size;have c12:=qQi k12_4;have k12_5:=gz5.at k12_4 id;obtain⟨z6,q14,k12_6,fz6,m6⟩:=stA k12_5 (by omega) fz5 o2 (p:=(s.at k).isSome);have k13_6:=m6 _ (by omega) k13_5;simp -implicitDefEqProofs only[go_sem,jR,jL,gLa,gLz,gLs,q14,← sz4];obtain⟨z7,q15,k13_7,fz7,m7⟩:=stA k13_6 (by omega) fz6 o8 (p:=(t.at k).isSome);have k12_7:=m7 _ (by omega) k12_6;simp -implicitDefEqProofs only[go_sem,jR,jL,q15];exact⟨rfl,rfl,rfl,rfl,rfl,rfl,rfl,rfl,_,_,_,_,rfl,rfl,k12_7,k13_7,o2,o8,y2,y8,fz7⟩
       ·obtain⟨z4,hz4,gz4,k13_4,sz4⟩:=qQm z2 #[.bool false,.slice .none 0 0] 69
        rw[hz4];have fz4:=fz2.trans gz4;have b13:=fz2.size;obtain⟨z5,hz5,gz5,k12_5,sz5⟩:=qQm z4 #[.bool false,.slice .none 0 0] 69;rw[hz5];have fz5:=fz4.trans gz5;have b12:=fz4.size;have c13:=qQi k13_4;have k13_5:=gz5.at k13_4 id;obtain⟨z6,q14,k12_6,fz6,m6⟩:=stA k12_5 (by omega) fz5 o2 (p:=(s.at k).isSome);have k13_6:=m6 _ (by omega) k13_5;simp -implicitDefEqProofs only[go_sem,jR,jL,gLa,gLz,gLs,q14,← sz4];obtain⟨z7,q15,k13_7,fz7,m7⟩:=stA k13_6 (by omega) fz6 o8 (p:=(t.at k).isSome);have k12_7:=m7 _ (by omega) k12_6;simp -implicitDefEqProofs only[go_sem,jR,jL,q15];exact⟨rfl,rfl,rfl,rfl,rfl,rfl,rfl,rfl,_,_,_,_,rfl,rfl,k12_7,k13_7,o2,o8,y2,y8,fz7⟩
      ·obtain⟨z3,hz3,gz3,k12_3,sz3⟩:=qQm z2 #[.bool false,.slice .none 0 0] 69
       rw[hz3];have fz3:=fz2.trans gz3;have b12:=fz2.size;refine⟨?_,?_⟩
       ·have q11:=r8 _ fz3
        simp -implicitDefEqProofs only[go_sem,jR,jL,gLa,gLz,gLs,q11];obtain⟨z5,hz5,gz5,k13_5,sz5⟩:=qQm z3 #[.bool false,.slice .none 0 0] 69;rw[hz5];have fz5:=fz3.trans gz5;have b13:=fz3.size;have c12:=qQi k12_3;have k12_5:=gz5.at k12_3 id;obtain⟨z6,q14,k12_6,fz6,m6⟩:=stA k12_5 (by omega) fz5 o2 (p:=(s.at k).isSome);have k13_6:=m6 _ (by omega) k13_5;simp -implicitDefEqProofs only[go_sem,jR,jL,gLa,gLz,gLs,q14];obtain⟨z7,q15,k13_7,fz7,m7⟩:=stA k13_6 (by omega) fz6 o8 (p:=(t.at k).isSome);have k12_7:=m7 _ (by omega) k12_6;simp -implicitDefEqProofs only[go_sem,jR,jL,q15];exact⟨rfl,rfl,rfl,rfl,rfl,rfl,rfl,rfl,_,_,_,_,rfl,rfl,k12_7,k13_7,o2,o8,y2,y8,fz7⟩
       ·obtain⟨z4,hz4,gz4,k13_4,sz4⟩:=qQm z3 #[.bool false,.slice .none 0 0] 69
        rw[hz4];have fz4:=fz3.trans gz4;have b13:=fz3.size;have c12:=qQi k12_3;have k12_4:=gz4.at k12_3 id;refine⟨?_,?_⟩
        ·have q11:=r8 _ fz4
         simp -implicitDefEqProofs only[go_sem,jR,jL,gLa,gLz,gLs,q11];obtain⟨z6,q14,k12_6,fz6,m6⟩:=stA k12_4 (by omega) fz4 o2 (p:=(s.at k).isSome);have k13_6:=m6 _ (by omega) k13_4;simp -implicitDefEqProofs only[go_sem,jR,jL,gLa,gLz,gLs,q14,← sz3];obtain⟨z7,q15,k13_7,fz7,m7⟩:=stA k13_6 (by omega) fz6 o8 (p:=(t.at k).isSome);have k12_7:=m7 _ (by omega) k12_6;simp -implicitDefEqProofs only[go_sem,jR,jL,q15];exact⟨rfl,rfl,rfl,rfl,rfl,rfl,rfl,rfl,_,_,_,_,rfl,rfl,k12_7,k13_7,o2,o8,y2,y8,fz7⟩
        ·obtain⟨z5,q14,k12_5,fz5,m5⟩:=stA k12_4 (by omega) fz4 o2 (p:=(s.at k).isSome)
         have k13_5:=m5 _ (by omega) k13_4;simp -implicitDefEqProofs only[go_sem,jR,jL,gLa,gLz,gLs,q14,← sz3];have q11:=r8 _ fz5;simp -implicitDefEqProofs only[go_sem,jR,jL,gLa,gLz,gLs,q11];obtain⟨z7,q15,k13_7,fz7,m7⟩:=stA k13_5 (by omega) fz5 o8 (p:=(t.at k).isSome);have k12_7:=m7 _ (by omega) k12_5;simp -implicitDefEqProofs only[go_sem,jR,jL,q15];exact⟨rfl,rfl,rfl,rfl,rfl,rfl,rfl,rfl,_,_,_,_,rfl,rfl,k12_7,k13_7,o2,o8,y2,y8,fz7⟩
      ·obtain⟨z3,hz3,gz3,k13_3,sz3⟩:=qQm z2 #[.bool false,.slice .none 0 0] 69
       rw[hz3];have fz3:=fz2.trans gz3;have b13:=fz2.size;refine⟨?_,?_⟩
       ·have q11:=r8 _ fz3
        simp -implicitDefEqProofs only[go_sem,jR,jL,gLa,gLz,gLs,q11];obtain⟨z5,hz5,gz5,k12_5,sz5⟩:=qQm z3 #[.bool false,.slice .none 0 0] 69;rw[hz5];have fz5:=fz3.trans gz5;have b12:=fz3.size;have c13:=qQi k13_3;have k13_5:=gz5.at k13_3 id;obtain⟨z6,q14,k12_6,fz6,m6⟩:=stA k12_5 (by omega) fz5 o2 (p:=(s.at k).isSome);have k13_6:=m6 _ (by omega) k13_5;simp -implicitDefEqProofs only[go_sem,jR,jL,gLa,gLz,gLs,q14];obtain⟨z7,q15,k13_7,fz7,m7⟩:=stA k13_6 (by omega) fz6 o8 (p:=(t.at k).isSome);have k12_7:=m7 _ (by omega) k12_6;simp -implicitDefEqProofs only[go_sem,jR,jL,q15];exact⟨rfl,rfl,rfl,rfl,rfl,rfl,rfl,rfl,_,_,_,_,rfl,rfl,k12_7,k13_7,o2,o8,y2,y8,fz7⟩
       ·obtain⟨z4,hz4,gz4,k12_4,sz4⟩:=qQm z3 #[.bool false,.slice .none 0 0] 69
        rw[hz4];have fz4:=fz3.trans gz4;have b12:=fz3.size;have c13:=qQi k13_3;have k13_4:=gz4.at k13_3 id;refine⟨?_,?_⟩
        ·have q11:=r8 _ fz4
         simp -implicitDefEqProofs only[go_sem,jR,jL,gLa,gLz,gLs,q11];obtain⟨z6,q14,k12_6,fz6,m6⟩:=stA k12_4 (by omega) fz4 o2 (p:=(s.at k).isSome);have k13_6:=m6 _ (by omega) k13_4;simp -implicitDefEqProofs only[go_sem,jR,jL,gLa,gLz,gLs,q14,← sz3];obtain⟨z7,q15,k13_7,fz7,m7⟩:=stA k13_6 (by omega) fz6 o8 (p:=(t.at k).isSome);have k12_7:=m7 _ (by omega) k12_6;simp -implicitDefEqProofs only[go_sem,jR,jL,q15];exact⟨rfl,rfl,rfl,rfl,rfl,rfl,rfl,rfl,_,_,_,_,rfl,rfl,k12_7,k13_7,o2,o8,y2,y8,fz7⟩
        ·obtain⟨z5,q14,k12_5,fz5,m5⟩:=stA k12_4 (by omega) fz4 o2 (p:=(s.at k).isSome)
         have k13_5:=m5 _ (by omega) k13_4;simp -implicitDefEqProofs only[go_sem,jR,jL,gLa,gLz,gLs,q14,← sz3];have q11:=r8 _ fz5;simp -implicitDefEqProofs only[go_sem,jR,jL,gLa,gLz,gLs,q11];obtain⟨z7,q15,k13_7,fz7,m7⟩:=stA k13_5 (by omega) fz5 o8 (p:=(t.at k).isSome);have k12_7:=m7 _ (by omega) k12_5;simp -implicitDefEqProofs only[go_sem,jR,jL,q15];exact⟨rfl,rfl,rfl,rfl,rfl,rfl,rfl,rfl,_,_,_,_,rfl,rfl,k12_7,k13_7,o2,o8,y2,y8,fz7⟩
     ·obtain⟨z2,hz2,gz2,k12_2,sz2⟩:=qQm z1 #[.bool false,.slice .none 0 0] 69
      rw[hz2];have fz2:=fz1.trans gz2;have b12:=fz1.size;refine⟨?_,?_⟩
      ·refine qQg pl48 ((tendA u20 W5 z2 T2 fz2 ok2 kl).mono ?_)
       rintro _ z3 ⟨gz3,e8,v8,rfl,o8,y8,r8⟩;refine⟨fun _=>rX gz3,?_⟩;have fz3:=fz2.trans gz3;have k12_3:=gz3.at k12_2 id;simp -implicitDefEqProofs only[go_sem,jR,jL,gLa,gLz,gLs,jS];refine⟨?_,?_⟩
       ·have q11:=r8 _ fz3
        simp -implicitDefEqProofs only[go_sem,jR,jL,gLa,gLz,gLs,q11];obtain⟨z5,hz5,gz5,k13_5,sz5⟩:=qQm z3 #[.bool false,.slice .none 0 0] 69;rw[hz5];have fz5:=fz3.trans gz5;have b13:=fz3.size;have c12:=qQi k12_3;have k12_5:=gz5.at k12_3 id;obtain⟨z6,q14,k12_6,fz6,m6⟩:=stA k12_5 (by omega) fz5 o2 (p:=(s.at k).isSome);have k13_6:=m6 _ (by omega) k13_5;simp -implicitDefEqProofs only[go_sem,jR,jL,gLa,gLz,gLs,q14];obtain⟨z7,q15,k13_7,fz7,m7⟩:=stA k13_6 (by omega) fz6 o8 (p:=(t.at k).isSome);have k12_7:=m7 _ (by omega) k12_6;simp -implicitDefEqProofs only[go_sem,jR,jL,q15];exact⟨rfl,rfl,rfl,rfl,rfl,rfl,rfl,rfl,_,_,_,_,rfl,rfl,k12_7,k13_7,o2,o8,y2,y8,fz7⟩
       ·obtain⟨z4,hz4,gz4,k13_4,sz4⟩:=qQm z3 #[.bool false,.slice .none 0 0] 69
        rw[hz4];have fz4:=fz3.trans gz4;have b13:=fz3.size;have c12:=qQi k12_3;have k12_4:=gz4.at k12_3 id;refine⟨?_,?_⟩
        ·have q11:=r8 _ fz4
         simp -implicitDefEqProofs only[go_sem,jR,jL,gLa,gLz,gLs,q11];obtain⟨z6,q14,k12_6,fz6,m6⟩:=stA k12_4 (by omega) fz4 o2 (p:=(s.at k).isSome);have k13_6:=m6 _ (by omega) k13_4;simp -implicitDefEqProofs only[go_sem,jR,jL,gLa,gLz,gLs,q14];obtain⟨z7,q15,k13_7,fz7,m7⟩:=stA k13_6 (by omega) fz6 o8 (p:=(t.at k).isSome);have k12_7:=m7 _ (by omega) k12_6;simp -implicitDefEqProofs only[go_sem,jR,jL,q15];exact⟨rfl,rfl,rfl,rfl,rfl,rfl,rfl,rfl,_,_,_,_,rfl,rfl,k12_7,k13_7,o2,o8,y2,y8,fz7⟩
        ·obtain⟨z5,q14,k12_5,fz5,m5⟩:=stA k12_4 (by omega) fz4 o2 (p:=(s.at k).isSome)
         have k13_5:=m5 _ (by omega) k13_4;simp -implicitDefEqProofs only[go_sem,jR,jL,gLa,gLz,gLs,q14];have q11:=r8 _ fz5;simp -implicitDefEqProofs only[go_sem,jR,jL,gLa,gLz,gLs,q11];obtain⟨z7,q15,k13_7,fz7,m7⟩:=stA k13_5 (by omega) fz5 o8 (p:=(t.at k).isSome);have k12_7:=m7 _ (by omega) k12_5;simp -implicitDefEqProofs only[go_sem,jR,jL,q15];exact⟨rfl,rfl,rfl,rfl,rfl,rfl,rfl,rfl,_,_,_,_,rfl,rfl,k12_7,k13_7,o2,o8,y2,y8,fz7⟩
      ·obtain⟨z3,hz3,gz3,k13_3,sz3⟩:=qQm z2 #[.bool false,.slice .none 0 0] 69
       rw[hz3];have fz3:=fz2.trans gz3;have b13:=fz2.size;have c12:=qQi k12_2;have k12_3:=gz3.at k12_2 id;refine qQg pl48 ((tendA u20 W5 z3 T2 fz3 ok2 kl).mono ?_);rintro _ z4 ⟨gz4,e8,v8,rfl,o8,y8,r8⟩;refine⟨fun _=>rX gz4,?_⟩;have fz4:=fz3.trans gz4;have k12_4:=gz4.at k12_3 id;have k13_4:=gz4.at k13_3 id;simp -implicitDefEqProofs only[go_sem,jR,jL,gLa,gLz,gLs];refine⟨?_,?_⟩
       ·have q11:=r8 _ fz4
        simp -implicitDefEqProofs only[go_sem,jR,jL,gLa,gLz,gLs,q11];obtain⟨z6,q14,k12_6,fz6,m6⟩:=stA k12_4 (by omega) fz4 o2 (p:=(s.at k).isSome);have k13_6:=m6 _ (by omega) k13_4;simp -implicitDefEqProofs only[go_sem,jR,jL,gLa,gLz,gLs,q14,← sz2];obtain⟨z7,q15,k13_7,fz7,m7⟩:=stA k13_6 (by omega) fz6 o8 (p:=(t.at k).isSome);have k12_7:=m7 _ (by omega) k12_6;simp -implicitDefEqProofs only[go_sem,jR,jL,q15];exact⟨rfl,rfl,rfl,rfl,rfl,rfl,rfl,rfl,_,_,_,_,rfl,rfl,k12_7,k13_7,o2,o8,y2,y8,fz7⟩
       ·obtain⟨z5,q14,k12_5,fz5,m5⟩:=stA k12_4 (by omega) fz4 o2 (p:=(s.at k).isSome)
        have k13_5:=m5 _ (by omega) k13_4;simp -implicitDefEqProofs only[go_sem,jL,gLa,gLz,gLs,q14,← sz2];have q11:=r8 _ fz5;simp -implicitDefEqProofs only[go_sem,jR,jL,gLa,gLz,gLs,q11];obtain⟨z7,q15,k13_7,fz7,m7⟩:=stA k13_5 (by omega) fz5 o8 (p:=(t.at k).isSome);have k12_7:=m7 _ (by omega) k12_5;simp -implicitDefEqProofs only[go_sem,jR,jL,q15];exact⟨rfl,rfl,rfl,rfl,rfl,rfl,rfl,rfl,_,_,_,_,rfl,rfl,k12_7,k13_7,o2,o8,y2,y8,fz7⟩
     ·obtain⟨z2,hz2,gz2,k13_2,sz2⟩:=qQm z1 #[.bool false,.slice .none 0 0] 69
      rw[hz2];have fz2:=fz1.trans gz2;have b13:=fz1.size;refine⟨?_,?_⟩
      ·refine qQg pl48 ((tendA u20 W5 z2 T2 fz2 ok2 kl).mono ?_)
       rintro _ z3 ⟨gz3,e8,v8,rfl,o8,y8,r8⟩;refine⟨fun _=>rX gz3,?_⟩;have fz3:=fz2.trans gz3;have k13_3:=gz3.at k13_2 id;simp -implicitDefEqProofs only[go_sem,jR,jL,gLa,gLz,gLs,jS];refine⟨?_,?_⟩
       ·have q11:=r8 _ fz3
        simp -implicitDefEqProofs only[go_sem,jR,jL,gLa,gLz,gLs,q11];obtain⟨z5,hz5,gz5,k12_5,sz5⟩:=qQm z3 #[.bool false,.slice .none 0 0] 69;rw[hz5];have fz5:=fz3.trans gz5;have b12:=fz3.size;have c13:=qQi k13_3;have k13_5:=gz5.at k13_3 id;obtain⟨z6,q14,k12_6,fz6,m6⟩:=stA k12_5 (by omega) fz5 o2 (p:=(s.at k).isSome);have k13_6:=m6 _ (by omega) k13_5;simp -implicitDefEqProofs only[go_sem,jR,jL,gLa,gLz,gLs,q14];obtain⟨z7,q15,k13_7,fz7,m7⟩:=stA k13_6 (by omega) fz6 o8 (p:=(t.at k).isSome);have k12_7:=m7 _ (by omega) k12_6;simp -implicitDefEqProofs only[go_sem,jR,jL,q15];exact⟨rfl,rfl,rfl,rfl,rfl,rfl,rfl,rfl,_,_,_,_,rfl,rfl,k12_7,k13_7,o2,o8,y2,y8,fz7⟩
       ·obtain⟨z4,hz4,gz4,k12_4,sz4⟩:=qQm z3 #[.bool false,.slice .none 0 0] 69
        rw[hz4];have fz4:=fz3.trans gz4;have b12:=fz3.size;have c13:=qQi k13_3;have k13_4:=gz4.at k13_3 id;refine⟨?_,?_⟩
        ·have q11:=r8 _ fz4
         simp -implicitDefEqProofs only[go_sem,jR,jL,gLa,gLz,gLs,q11];obtain⟨z6,q14,k12_6,fz6,m6⟩:=stA k12_4 (by omega) fz4 o2 (p:=(s.at k).isSome);have k13_6:=m6 _ (by omega) k13_4;simp -implicitDefEqProofs only[go_sem,jR,jL,gLa,gLz,gLs,q14];obtain⟨z7,q15,k13_7,fz7,m7⟩:=stA k13_6 (by omega) fz6 o8 (p:=(t.at k).isSome);have k12_7:=m7 _ (by omega) k12_6;simp -implicitDefEqProofs only[go_sem,jR,jL,q15];exact⟨rfl,rfl,rfl,rfl,rfl,rfl,rfl,rfl,_,_,_,_,rfl,rfl,k12_7,k13_7,o2,o8,y2,y8,fz7⟩
        ·obtain⟨z5,q14,k12_5,fz5,m5⟩:=stA k12_4 (by omega) fz4 o2 (p:=(s.at k).isSome)
         have k13_5:=m5 _ (by omega) k13_4;simp -implicitDefEqProofs only[go_sem,jR,jL,gLa,gLz,gLs,q14];have q11:=r8 _ fz5;simp -implicitDefEqProofs only[go_sem,jR,jL,gLa,gLz,gLs,q11];obtain⟨z7,q15,k13_7,fz7,m7⟩:=stA k13_5 (by omega) fz5 o8 (p:=(t.at k).isSome);have k12_7:=m7 _ (by omega) k12_5;simp -implicitDefEqProofs only[go_sem,jR,jL,q15];exact⟨rfl,rfl,rfl,rfl,rfl,rfl,rfl,rfl,_,_,_,_,rfl,rfl,k12_7,k13_7,o2,o8,y2,y8,fz7⟩
      ·obtain⟨z3,hz3,gz3,k12_3,sz3⟩:=qQm z2 #[.bool false,.slice .none 0 0] 69
       rw[hz3];have fz3:=fz2.trans gz3;have b12:=fz2.size;have c13:=qQi k13_2;have k13_3:=gz3.at k13_2 id;refine qQg pl48 ((tendA u20 W5 z3 T2 fz3 ok2 kl).mono ?_);rintro _ z4 ⟨gz4,e8,v8,rfl,o8,y8,r8⟩;refine⟨fun _=>rX gz4,?_⟩;have fz4:=fz3.trans gz4;have k12_4:=gz4.at k12_3 id;have k13_4:=gz4.at k13_3 id;simp -implicitDefEqProofs only[go_sem,jR,jL,gLa,gLz,gLs];refine⟨?_,?_⟩
       ·have q11:=r8 _ fz4
        simp -implicitDefEqProofs only[go_sem,jR,jL,gLa,gLz,gLs,q11];obtain⟨z6,q14,k12_6,fz6,m6⟩:=stA k12_4 (by omega) fz4 o2 (p:=(s.at k).isSome);have k13_6:=m6 _ (by omega) k13_4;simp -implicitDefEqProofs only[go_sem,jR,jL,gLa,gLz,gLs,q14,← sz2];obtain⟨z7,q15,k13_7,fz7,m7⟩:=stA k13_6 (by omega) fz6 o8 (p:=(t.at k).isSome);have k12_7:=m7 _ (by omega) k12_6;simp -implicitDefEqProofs only[go_sem,jR,jL,q15];exact⟨rfl,rfl,rfl,rfl,rfl,rfl,rfl,rfl,_,_,_,_,rfl,rfl,k12_7,k13_7,o2,o8,y2,y8,fz7⟩
       ·obtain⟨z5,q14,k12_5,fz5,m5⟩:=stA k12_4 (by omega) fz4 o2 (p:=(s.at k).isSome)
        have k13_5:=m5 _ (by omega) k13_4;simp -implicitDefEqProofs only[go_sem,jL,gLa,gLz,gLs,q14,← sz2];have q11:=r8 _ fz5;simp -implicitDefEqProofs only[go_sem,jR,jL,gLa,gLz,gLs,q11];obtain⟨z7,q15,k13_7,fz7,m7⟩:=stA k13_5 (by omega) fz5 o8 (p:=(t.at k).isSome);have k12_7:=m7 _ (by omega) k12_5;simp -implicitDefEqProofs only[go_sem,jR,jL,q15];exact⟨rfl,rfl,rfl,rfl,rfl,rfl,rfl,rfl,_,_,_,_,rfl,rfl,k12_7,k13_7,o2,o8,y2,y8,fz7⟩
    ·obtain⟨z1,hz1,gz1,k12_1,sz1⟩:=qQm wD #[.bool false,.slice .none 0 0] 69
     rw[hz1];have fz1:=fD.trans gz1;have b12:=fD.size;refine⟨?_,?_⟩
     ·refine qQg pl48 ((tendA u10 W5 z1 T1 fz1 ok1 kl).mono ?_)
      rintro _ z2 ⟨gz2,e2,v2,rfl,o2,y2,r2⟩;refine⟨fun _=>rX gz2,?_⟩;have fz2:=fz1.trans gz2;have q5:=r2 _ fz2;have k12_2:=gz2.at k12_1 id;simp -implicitDefEqProofs only[go_sem,jR,jL,gLa,gLz,gLs,jS,q5];refine⟨?_,?_⟩
      ·refine qQg pl48 ((tendA u20 W5 z2 T2 fz2 ok2 kl).mono ?_)
       rintro _ z3 ⟨gz3,e8,v8,rfl,o8,y8,r8⟩;refine⟨fun _=>rX gz3,?_⟩;have fz3:=fz2.trans gz3;have k12_3:=gz3.at k12_2 id;simp -implicitDefEqProofs only[go_sem,jR,jL,gLa,gLz,gLs,jS];refine⟨?_,?_⟩
       ·have q11:=r8 _ fz3
        simp -implicitDefEqProofs only[go_sem,jR,jL,gLa,gLz,gLs,q11];obtain⟨z5,hz5,gz5,k13_5,sz5⟩:=qQm z3 #[.bool false,.slice .none 0 0] 69;rw[hz5];have fz5:=fz3.trans gz5;have b13:=fz3.size;have c12:=qQi k12_3;have k12_5:=gz5.at k12_3 id;obtain⟨z6,q14,k12_6,fz6,m6⟩:=stA k12_5 (by omega) fz5 o2 (p:=(s.at k).isSome);have k13_6:=m6 _ (by omega) k13_5;simp -implicitDefEqProofs only[go_sem,jR,jL,gLa,gLz,gLs,q14];obtain⟨z7,q15,k13_7,fz7,m7⟩:=stA k13_6 (by omega) fz6 o8 (p:=(t.at k).isSome);have k12_7:=m7 _ (by omega) k12_6;simp -implicitDefEqProofs only[go_sem,jR,jL,q15];exact⟨rfl,rfl,rfl,rfl,rfl,rfl,rfl,rfl,_,_,_,_,rfl,rfl,k12_7,k13_7,o2,o8,y2,y8,fz7⟩
       ·obtain⟨z4,hz4,gz4,k13_4,sz4⟩:=qQm z3 #[.bool false,.slice .none 0 0] 69
        rw[hz4];have fz4:=fz3.trans gz4;have b13:=fz3.size;have c12:=qQi k12_3;have k12_4:=gz4.at k12_3 id;refine⟨?_,?_⟩
        ·have q11:=r8 _ fz4
         simp -implicitDefEqProofs only[go_sem,jR,jL,gLa,gLz,gLs,q11];obtain⟨z6,q14,k12_6,fz6,m6⟩:=stA k12_4 (by omega) fz4 o2 (p:=(s.at k).isSome);have k13_6:=m6 _ (by omega) k13_4;simp -implicitDefEqProofs only[go_sem,jR,jL,gLa,gLz,gLs,q14];obtain⟨z7,q15,k13_7,fz7,m7⟩:=stA k13_6 (by omega) fz6 o8 (p:=(t.at k).isSome);have k12_7:=m7 _ (by omega) k12_6;simp -implicitDefEqProofs only[go_sem,jR,jL,q15];exact⟨rfl,rfl,rfl,rfl,rfl,rfl,rfl,rfl,_,_,_,_,rfl,rfl,k12_7,k13_7,o2,o8,y2,y8,fz7⟩
        ·obtain⟨z5,q14,k12_5,fz5,m5⟩:=stA k12_4 (by omega) fz4 o2 (p:=(s.at k).isSome)
         have k13_5:=m5 _ (by omega) k13_4;simp -implicitDefEqProofs only[go_sem,jR,jL,gLa,gLz,gLs,q14];have q11:=r8 _ fz5;simp -implicitDefEqProofs only[go_sem,jR,jL,gLa,gLz,gLs,q11];obtain⟨z7,q15,k13_7,fz7,m7⟩:=stA k13_5 (by omega) fz5 o8 (p:=(t.at k).isSome);have k12_7:=m7 _ (by omega) k12_5;simp -implicitDefEqProofs only[go_sem,jR,jL,q15];exact⟨rfl,rfl,rfl,rfl,rfl,rfl,rfl,rfl,_,_,_,_,rfl,rfl,k12_7,k13_7,o2,o8,y2,y8,fz7⟩
      ·obtain⟨z3,hz3,gz3,k13_3,sz3⟩:=qQm z2 #[.bool false,.slice .none 0 0] 69
       rw[hz3];have fz3:=fz2.trans gz3;have b13:=fz2.size;have c12:=qQi k12_2;have k12_3:=gz3.at k12_2 id;refine qQg pl48 ((tendA u20 W5 z3 T2 fz3 ok2 kl).mono ?_);rintro _ z4 ⟨gz4,e8,v8,rfl,o8,y8,r8⟩;refine⟨fun _=>rX gz4,?_⟩;have fz4:=fz3.trans gz4;have k12_4:=gz4.at k12_3 id;have k13_4:=gz4.at k13_3 id;simp -implicitDefEqProofs only[go_sem,jR,jL,gLa,gLz,gLs];refine⟨?_,?_⟩
       ·have q11:=r8 _ fz4
        simp -implicitDefEqProofs only[go_sem,jR,jL,gLa,gLz,gLs,q11];obtain⟨z6,q14,k12_6,fz6,m6⟩:=stA k12_4 (by omega) fz4 o2 (p:=(s.at k).isSome);have k13_6:=m6 _ (by omega) k13_4;simp -implicitDefEqProofs only[go_sem,jR,jL,gLa,gLz,gLs,q14];obtain⟨z7,q15,k13_7,fz7,m7⟩:=stA k13_6 (by omega) fz6 o8 (p:=(t.at k).isSome);have k12_7:=m7 _ (by omega) k12_6;simp -implicitDefEqProofs only[go_sem,jR,jL,q15];exact⟨rfl,rfl,rfl,rfl,rfl,rfl,rfl,rfl,_,_,_,_,rfl,rfl,k12_7,k13_7,o2,o8,y2,y8,fz7⟩
       ·obtain⟨z5,q14,k12_5,fz5,m5⟩:=stA k12_4 (by omega) fz4 o2 (p:=(s.at k).isSome)
        have k13_5:=m5 _ (by omega) k13_4;simp -implicitDefEqProofs only[go_sem,jL,gLa,gLz,gLs,q14];have q11:=r8 _ fz5;simp -implicitDefEqProofs only[go_sem,jR,jL,gLa,gLz,gLs,q11];obtain⟨z7,q15,k13_7,fz7,m7⟩:=stA k13_5 (by omega) fz5 o8 (p:=(t.at k).isSome);have k12_7:=m7 _ (by omega) k12_5;simp -implicitDefEqProofs only[go_sem,jR,jL,q15];exact⟨rfl,rfl,rfl,rfl,rfl,rfl,rfl,rfl,_,_,_,_,rfl,rfl,k12_7,k13_7,o2,o8,y2,y8,fz7⟩
     ·obtain⟨z2,hz2,gz2,k13_2,sz2⟩:=qQm z1 #[.bool false,.slice .none 0 0] 69
      rw[hz2];have fz2:=fz1.trans gz2;have b13:=fz1.size;have c12:=qQi k12_1;have k12_2:=gz2.at k12_1 id;refine qQg pl48 ((tendA u10 W5 z2 T1 fz2 ok1 kl).mono ?_);rintro _ z3 ⟨gz3,e2,v2,rfl,o2,y2,r2⟩;refine⟨fun _=>rX gz3,?_⟩;have fz3:=fz2.trans gz3;have q5:=r2 _ fz3;have k12_3:=gz3.at k12_2 id;have k13_3:=gz3.at k13_2 id;simp -implicitDefEqProofs only[go_sem,jR,jL,gLa,gLz,gLs,q5];refine qQg pl48 ((tendA u20 W5 z3 T2 fz3 ok2 kl).mono ?_);rintro _ z4 ⟨gz4,e8,v8,rfl,o8,y8,r8⟩;refine⟨fun _=>rX gz4,?_⟩;have fz4:=fz3.trans gz4;have k12_4:=gz4.at k12_3 id;have k13_4:=gz4.at k13_3 id;simp -implicitDefEqProofs only[go_sem,jR,jL,gLa,gLz,gLs];refine⟨?_,?_⟩
      ·have q11:=r8 _ fz4
       simp -implicitDefEqProofs only[go_sem,jR,jL,gLa,gLz,gLs,q11];obtain⟨z6,q14,k12_6,fz6,m6⟩:=stA k12_4 (by omega) fz4 o2 (p:=(s.at k).isSome);have k13_6:=m6 _ (by omega) k13_4;simp -implicitDefEqProofs only[go_sem,jR,jL,gLa,gLz,gLs,q14,← sz1];obtain⟨z7,q15,k13_7,fz7,m7⟩:=stA k13_6 (by omega) fz6 o8 (p:=(t.at k).isSome);have k12_7:=m7 _ (by omega) k12_6;simp -implicitDefEqProofs only[go_sem,jR,jL,q15];exact⟨rfl,rfl,rfl,rfl,rfl,rfl,rfl,rfl,_,_,_,_,rfl,rfl,k12_7,k13_7,o2,o8,y2,y8,fz7⟩
      ·obtain⟨z5,q14,k12_5,fz5,m5⟩:=stA k12_4 (by omega) fz4 o2 (p:=(s.at k).isSome)
       have k13_5:=m5 _ (by omega) k13_4;simp -implicitDefEqProofs only[go_sem,jL,gLa,gLz,gLs,q14,← sz1];have q11:=r8 _ fz5;simp -implicitDefEqProofs only[go_sem,jR,jL,gLa,gLz,gLs,q11];obtain⟨z7,q15,k13_7,fz7,m7⟩:=stA k13_5 (by omega) fz5 o8 (p:=(t.at k).isSome);have k12_7:=m7 _ (by omega) k12_5;simp -implicitDefEqProofs only[go_sem,jR,jL,q15];exact⟨rfl,rfl,rfl,rfl,rfl,rfl,rfl,rfl,_,_,_,_,rfl,rfl,k12_7,k13_7,o2,o8,y2,y8,fz7⟩
    ·obtain⟨z1,hz1,gz1,k13_1,sz1⟩:=qQm wD #[.bool false,.slice .none 0 0] 69
     rw[hz1];have fz1:=fD.trans gz1;have b13:=fD.size;refine⟨?_,?_⟩
     ·refine qQg pl48 ((tendA u10 W5 z1 T1 fz1 ok1 kl).mono ?_)
      rintro _ z2 ⟨gz2,e2,v2,rfl,o2,y2,r2⟩;refine⟨fun _=>rX gz2,?_⟩;have fz2:=fz1.trans gz2;have q5:=r2 _ fz2;have k13_2:=gz2.at k13_1 id;simp -implicitDefEqProofs only[go_sem,jR,jL,gLa,gLz,gLs,jS,q5];refine⟨?_,?_⟩
      ·refine qQg pl48 ((tendA u20 W5 z2 T2 fz2 ok2 kl).mono ?_)
       rintro _ z3 ⟨gz3,e8,v8,rfl,o8,y8,r8⟩;refine⟨fun _=>rX gz3,?_⟩;have fz3:=fz2.trans gz3;have k13_3:=gz3.at k13_2 id;simp -implicitDefEqProofs only[go_sem,jR,jL,gLa,gLz,gLs,jS];refine⟨?_,?_⟩
       ·have q11:=r8 _ fz3
        simp -implicitDefEqProofs only[go_sem,jR,jL,gLa,gLz,gLs,q11];obtain⟨z5,hz5,gz5,k12_5,sz5⟩:=qQm z3 #[.bool false,.slice .none 0 0] 69;rw[hz5];have fz5:=fz3.trans gz5;have b12:=fz3.size;have c13:=qQi k13_3;have k13_5:=gz5.at k13_3 id;obtain⟨z6,q14,k12_6,fz6,m6⟩:=stA k12_5 (by omega) fz5 o2 (p:=(s.at k).isSome);have k13_6:=m6 _ (by omega) k13_5;simp -implicitDefEqProofs only[go_sem,jR,jL,gLa,gLz,gLs,q14];obtain⟨z7,q15,k13_7,fz7,m7⟩:=stA k13_6 (by omega) fz6 o8 (p:=(t.at k).isSome);have k12_7:=m7 _ (by omega) k12_6;simp -implicitDefEqProofs only[go_sem,jR,jL,q15];exact⟨rfl,rfl,rfl,rfl,rfl,rfl,rfl,rfl,_,_,_,_,rfl,rfl,k12_7,k13_7,o2,o8,y2,y8,fz7⟩
       ·obtain⟨z4,hz4,gz4,k12_4,sz4⟩:=qQm z3 #[.bool false,.slice .none 0 0] 69
        rw[hz4];have fz4:=fz3.trans gz4;have b12:=fz3.size;have c13:=qQi k13_3;have k13_4:=gz4.at k13_3 id;refine⟨?_,?_⟩
        ·have q11:=r8 _ fz4
         simp -implicitDefEqProofs only[go_sem,jR,jL,gLa,gLz,gLs,q11];obtain⟨z6,q14,k12_6,fz6,m6⟩:=stA k12_4 (by omega) fz4 o2 (p:=(s.at k).isSome);have k13_6:=m6 _ (by omega) k13_4;simp -implicitDefEqProofs only[go_sem,jR,jL,gLa,gLz,gLs,q14];obtain⟨z7,q15,k13_7,fz7,m7⟩:=stA k13_6 (by omega) fz6 o8 (p:=(t.at k).isSome);have k12_7:=m7 _ (by omega) k12_6;simp -implicitDefEqProofs only[go_sem,jR,jL,q15];exact⟨rfl,rfl,rfl,rfl,rfl,rfl,rfl,rfl,_,_,_,_,rfl,rfl,k12_7,k13_7,o2,o8,y2,y8,fz7⟩
        ·obtain⟨z5,q14,k12_5,fz5,m5⟩:=stA k12_4 (by omega) fz4 o2 (p:=(s.at k).isSome)
         have k13_5:=m5 _ (by omega) k13_4;simp -implicitDefEqProofs only[go_sem,jR,jL,gLa,gLz,gLs,q14];have q11:=r8 _ fz5;simp -implicitDefEqProofs only[go_sem,jR,jL,gLa,gLz,gLs,q11];obtain⟨z7,q15,k13_7,fz7,m7⟩:=stA k13_5 (by omega) fz5 o8 (p:=(t.at k).isSome);have k12_7:=m7 _ (by omega) k12_5;simp -implicitDefEqProofs only[go_sem,jR,jL,q15];exact⟨rfl,rfl,rfl,rfl,rfl,rfl,rfl,rfl,_,_,_,_,rfl,rfl,k12_7,k13_7,o2,o8,y2,y8,fz7⟩
      ·obtain⟨z3,hz3,gz3,k12_3,sz3⟩:=qQm z2 #[.bool false,.slice .none 0 0] 69
       rw[hz3];have fz3:=fz2.trans gz3;have b12:=fz2.size;have c13:=qQi k13_2;have k13_3:=gz3.at k13_2 id;refine qQg pl48 ((tendA u20 W5 z3 T2 fz3 ok2 kl).mono ?_);rintro _ z4 ⟨gz4,e8,v8,rfl,o8,y8,r8⟩;refine⟨fun _=>rX gz4,?_⟩;have fz4:=fz3.trans gz4;have k12_4:=gz4.at k12_3 id;have k13_4:=gz4.at k13_3 id;simp -implicitDefEqProofs only[go_sem,jR,jL,gLa,gLz,gLs];refine⟨?_,?_⟩
       ·have q11:=r8 _ fz4
        simp -implicitDefEqProofs only[go_sem,jR,jL,gLa,gLz,gLs,q11];obtain⟨z6,q14,k12_6,fz6,m6⟩:=stA k12_4 (by omega) fz4 o2 (p:=(s.at k).isSome);have k13_6:=m6 _ (by omega) k13_4;simp -implicitDefEqProofs only[go_sem,jR,jL,gLa,gLz,gLs,q14];obtain⟨z7,q15,k13_7,fz7,m7⟩:=stA k13_6 (by omega) fz6 o8 (p:=(t.at k).isSome);have k12_7:=m7 _ (by omega) k12_6;simp -implicitDefEqProofs only[go_sem,jR,jL,q15];exact⟨rfl,rfl,rfl,rfl,rfl,rfl,rfl,rfl,_,_,_,_,rfl,rfl,k12_7,k13_7,o2,o8,y2,y8,fz7⟩
       ·obtain⟨z5,q14,k12_5,fz5,m5⟩:=stA k12_4 (by omega) fz4 o2 (p:=(s.at k).isSome)
        have k13_5:=m5 _ (by omega) k13_4;simp -implicitDefEqProofs only[go_sem,jL,gLa,gLz,gLs,q14];have q11:=r8 _ fz5;simp -implicitDefEqProofs only[go_sem,jR,jL,gLa,gLz,gLs,q11];obtain⟨z7,q15,k13_7,fz7,m7⟩:=stA k13_5 (by omega) fz5 o8 (p:=(t.at k).isSome);have k12_7:=m7 _ (by omega) k12_5;simp -implicitDefEqProofs only[go_sem,jR,jL,q15];exact⟨rfl,rfl,rfl,rfl,rfl,rfl,rfl,rfl,_,_,_,_,rfl,rfl,k12_7,k13_7,o2,o8,y2,y8,fz7⟩
     ·obtain⟨z2,hz2,gz2,k12_2,sz2⟩:=qQm z1 #[.bool false,.slice .none 0 0] 69
      rw[hz2];have fz2:=fz1.trans gz2;have b12:=fz1.size;have c13:=qQi k13_1;have k13_2:=gz2.at k13_1 id;refine qQg pl48 ((tendA u10 W5 z2 T1 fz2 ok1 kl).mono ?_);rintro _ z3 ⟨gz3,e2,v2,rfl,o2,y2,r2⟩;refine⟨fun _=>rX gz3,?_⟩;have fz3:=fz2.trans gz3;have q5:=r2 _ fz3;have k12_3:=gz3.at k12_2 id;have k13_3:=gz3.at k13_2 id;simp -implicitDefEqProofs only[go_sem,jR,jL,gLa,gLz,gLs,q5];refine qQg pl48 ((tendA u20 W5 z3 T2 fz3 ok2 kl).mono ?_);rintro _ z4 ⟨gz4,e8,v8,rfl,o8,y8,r8⟩;refine⟨fun _=>rX gz4,?_⟩;have fz4:=fz3.trans gz4;have k12_4:=gz4.at k12_3 id;have k13_4:=gz4.at k13_3 id;simp -implicitDefEqProofs only[go_sem,jR,jL,gLa,gLz,gLs];refine⟨?_,?_⟩
      ·have q11:=r8 _ fz4
       simp -implicitDefEqProofs only[go_sem,jR,jL,gLa,gLz,gLs,q11];obtain⟨z6,q14,k12_6,fz6,m6⟩:=stA k12_4 (by omega) fz4 o2 (p:=(s.at k).isSome);have k13_6:=m6 _ (by omega) k13_4;simp -implicitDefEqProofs only[go_sem,jR,jL,gLa,gLz,gLs,q14,← sz1];obtain⟨z7,q15,k13_7,fz7,m7⟩:=stA k13_6 (by omega) fz6 o8 (p:=(t.at k).isSome);have k12_7:=m7 _ (by omega) k12_6;simp -implicitDefEqProofs only[go_sem,jR,jL,q15];exact⟨rfl,rfl,rfl,rfl,rfl,rfl,rfl,rfl,_,_,_,_,rfl,rfl,k12_7,k13_7,o2,o8,y2,y8,fz7⟩
      ·obtain⟨z5,q14,k12_5,fz5,m5⟩:=stA k12_4 (by omega) fz4 o2 (p:=(s.at k).isSome)
       have k13_5:=m5 _ (by omega) k13_4;simp -implicitDefEqProofs only[go_sem,jL,gLa,gLz,gLs,q14,← sz1];have q11:=r8 _ fz5;simp -implicitDefEqProofs only[go_sem,jR,jL,gLa,gLz,gLs,q11];obtain⟨z7,q15,k13_7,fz7,m7⟩:=stA k13_5 (by omega) fz5 o8 (p:=(t.at k).isSome);have k12_7:=m7 _ (by omega) k12_5;simp -implicitDefEqProofs only[go_sem,jR,jL,q15];exact⟨rfl,rfl,rfl,rfl,rfl,rfl,rfl,rfl,_,_,_,_,rfl,rfl,k12_7,k13_7,o2,o8,y2,y8,fz7⟩
  case rest =>
   rintro ev w6 ⟨e0,e6,e15,e16,e18,e49,e50,e51,cb,cc,v1,v2,e19,e20,kb,kc,o1,o2,y1',y2',f6⟩;have f56:=f45.trans f6;have f06:=f04.trans f56;have rb1:rdO prog 4 w6 cb 0=some (.bool (s.at k).isSome):=rd1 agg4 kb rfl;have rb2:rdO prog 4 w6 cc 0=some (.bool (t.at k).isSome):=rd1 agg4 kc rfl;have rv1:rdO prog 25 w6 cb 1=some v1:=rd1 agg25 kb rfl;have rv2:rdO prog 25 w6 cc 1=some v2:=rd1 agg25 kc rfl
   by_cases hq:s.at k=t.at k
   ·have hb:((t.at k).isSome != (t.at k).isSome)=false:=bNe _
    have hdec:decide ((s.at k).getD []=(t.at k).getD [])=true:=decide_eq_true (by rw[hq]);rw[C.clG,if_pos hq]at hG;simp -implicitDefEqProofs only[go_sem,jR,gLa,gLz,gLs,e19,e20,rb1,rb2,rv1,rv2,hq,bSe];refine qQa pl49 ((bequal w6 (y1'.fr0 f6) (y2'.fr0 f6)).mono ?_);rintro _ _ ⟨rfl,rfl⟩;simp -implicitDefEqProofs only[go_sem,jR,gLa,gLz,gLs,hdec,Bool.not_true,e51,c1];exact⟨l.length - (i+1),by omega,i+1,by rw[e0,e6,e15,e16,e49,e50],by omega,rfl,hG,f56⟩
   ·rw[C.clG,if_neg hq]at hG
    have km1:k ∈ s.keys:=by rw[tk1];exact km
    have km2:k ∈ t.keys:=by rw[tk2];exact km
    have lt1:=txt_len wd (Wit.part_ok (w:=wd) ok1 tp1 km1);have lt2:=txt_len wd (Wit.part_ok (w:=wd) ok2 tp2 km2);have en1:(rE wd s k).keys=[k]:=rfl;have en2:(rE wd t k).keys=[k]:=rfl;rw[en1,List.length_singleton]at lt1;rw[en2,List.length_singleton]at lt2;obtain⟨b1,s1',hd1,_⟩:=C.part_held (wd:=wd) ok1 (Wit.form_tdy asc l32 (rI hu).1) tp1 km1 (rI hu).2 hw1 hw2;obtain⟨b2,s2',hd2,_⟩:=C.part_held (wd:=wd) ok2 (Wit.form_tdy asc l32 (rI hv).1) tp2 km2 (rI hv).2 hw1 hw2
    have hex:out=exP (C.txs wd k (s.at k) b1 s1') (C.txs wd k (t.at k) b2 s2'):=by
     rw[hG];unfold C.exOf;rw[hd1,hd2]
    have rr6:=rd_d agg23 sz23 (((f2.trans (f3.trans f4)).trans f56).at k1 id) hroot;have rr6d:rdO prog 23 w6.drew w0.heap.size 0=some (dg root):=rr6;have rk6:=rd_d agg34 sz34 (f6.at k5 id) kl;have rk6d:rdO prog 34 w6.drew w.heap.size 0=some (dg k):=rk6
    by_cases his:(s.at k).isSome=(t.at k).isSome
    ·have hb:((t.at k).isSome != (t.at k).isSome)=false:=bNe _
     have hdec:decide ((s.at k).getD []=(t.at k).getD [])=false:=decide_eq_false fun h=>hq (by
      cases h1:s.at k <;> cases h2:t.at k <;> rw[h1,h2]at h his <;> simp_all)
     simp -implicitDefEqProofs only[go_sem,jR,gLa,gLz,gLs,e19,e20,rb1,rb2,rv1,rv2,his,bSe];refine qQa pl49 ((bequal w6 (y1'.fr0 f6) (y2'.fr0 f6)).mono ?_);rintro _ _ ⟨rfl,rfl⟩;rename_i w6;simp -implicitDefEqProofs only[go_sem,jR,gLa,gLz,gLs,hdec,Bool.not_false];refine qXd (fun j=>j == 6 || j == 10) [0,1,2,3,4,5,7,8,9,6,10,11,12,13,14,15,16,17] rfl (by kernel_rfl) (by kernel_rfl) ?_;simp -implicitDefEqProofs only[go_sem,jR,jL,gLa,gLz,gLs,e0,e6,e15,e16,e18,rr6d,rk6d];refine qQp pl51 ((single u10 w6.drew (ht.no f06.drew) wd (T1.fr0 f6.drew) ok1 tp1 (hu1.trans f6.drew) km1).mono ?_);rintro x7 w7 ⟨n7,f7⟩;refine⟨fun _=>rX f7,?_⟩;have f67:No w6 w7:=(Fr.refl _ _).drew.trans f7;simp -implicitDefEqProofs only[go_sem,jR,gLa,gLz,gLs];refine qQp pl51 ((single u20 w7 (ht.no (f06.trans f67)) wd (T2.fr0 (f6.trans f67)) ok2 tp2 (hu2.trans (f6.trans f67)) km2).mono ?_);rintro x8 w8 ⟨n8,f8⟩;refine⟨fun _=>rX f8,?_⟩;have f08:=(f06.trans f67).trans f8;simp -implicitDefEqProofs only[go_sem,jR,gLa,gLz,gLs];refine qQp pl50 ((C.extract w8 (ht.no f08) wd hroot kl (n7.fr0 f8).by n8.by (by omega) (by omega) hd1 hd2).mono ?_);rintro x9 w9 ⟨f9,hx⟩;refine⟨fun h=>(by cases h),?_⟩;rw[hex]
     cases hxo:exP (C.txs wd k (s.at k) b1 s1') (C.txs wd k (t.at k) b2 s2') with
     | none =>
      rw[hxo]at hx;subst hx;simp -implicitDefEqProofs only[go_sem,jR,jL,gLa,gLz,gLs];exact⟨f08.trans f9,rfl⟩
     | some q =>
      obtain⟨qx,qy⟩:=q;rw[hxo]at hx;obtain⟨xv,yv,rfl,hxv,hyv⟩:=hx;simp -implicitDefEqProofs only[go_sem,jR,jL,gLa,gLz,gLs];exact⟨f08.trans f9,xv,yv,rfl,hxv,hyv⟩
    ·have hb:((s.at k).isSome == (t.at k).isSome)=false:=by rw[bFn];exact his
     simp -implicitDefEqProofs only[go_sem,jR,gLa,gLz,gLs,e19,e20,rb1,rb2,hb,Bool.not_false,qJe];refine qXd (fun j=>j == 6 || j == 10) [0,1,2,3,4,5,7,8,9,6,10,11,12,13,14,15,16,17] rfl (by kernel_rfl) (by kernel_rfl) ?_;simp -implicitDefEqProofs only[go_sem,jR,jL,gLa,gLz,gLs,e0,e6,e15,e16,e18,rr6d,rk6d];refine qQp pl51 ((single u10 w6.drew (ht.no f06.drew) wd (T1.fr0 f6.drew) ok1 tp1 (hu1.trans f6.drew) km1).mono ?_);rintro x7 w7 ⟨n7,f7⟩;refine⟨fun _=>rX f7,?_⟩;have f67:No w6 w7:=(Fr.refl _ _).drew.trans f7;simp -implicitDefEqProofs only[go_sem,jR,gLa,gLz,gLs];refine qQp pl51 ((single u20 w7 (ht.no (f06.trans f67)) wd (T2.fr0 (f6.trans f67)) ok2 tp2 (hu2.trans (f6.trans f67)) km2).mono ?_);rintro x8 w8 ⟨n8,f8⟩;refine⟨fun _=>rX f8,?_⟩;have f08:=(f06.trans f67).trans f8;simp -implicitDefEqProofs only[go_sem,jR,gLa,gLz,gLs];refine qQp pl50 ((C.extract w8 (ht.no f08) wd hroot kl (n7.fr0 f8).by n8.by (by omega) (by omega) hd1 hd2).mono ?_);rintro x9 w9 ⟨f9,hx⟩;refine⟨fun h=>(by cases h),?_⟩;rw[hex]
     cases hxo:exP (C.txs wd k (s.at k) b1 s1') (C.txs wd k (t.at k) b2 s2') with
     | none =>
      rw[hxo]at hx;subst hx;simp -implicitDefEqProofs only[go_sem,jR,jL,gLa,gLz,gLs];exact⟨f08.trans f9,rfl⟩
     | some q =>
      obtain⟨qx,qy⟩:=q;rw[hxo]at hx;obtain⟨xv,yv,rfl,hxv,hyv⟩:=hx;simp -implicitDefEqProofs only[go_sem,jR,jL,gLa,gLz,gLs];exact⟨f08.trans f9,xv,yv,rfl,hxv,hyv⟩
 ·have d1:=dFo ((i:Int)<((l.length:Nat):Int))
  simp -implicitDefEqProofs only[go_sem,jR,d1];obtain rfl:i=l.length:=by omega
  rw[List.drop_length,hgn]at hG;rw[hG];exact⟨f0w,rfl⟩
end Go.V
