/- Helpers. -/
import Derived.Test.YtmenaeggoakppaaGreatDoorC42
import Derived.Test.YtmenaeggoakppaaGreatDoorC43
import Derived.Test.YtmenaeggoakppaaGreatDoorC44
set_option linter.all false
set_option maxRecDepth 100000
set_option maxHeartbeats 8000000
open Bool renaming not_true→rY,not_false→xY
open Go.V.Fr renaming ext→rX
open List renaming replicate→zG,mem_singleton→jV
open Nat renaming reduceEqDiff→jR,reduceBEq→jL,reduceAdd→vY
open Go.Value renaming cells→jS
open Go.V.Wit renaming underP_ok→rI,underP→kM,sortW→vM,form_ok→sX,at_len→sZ,partP→kF
namespace Go.V
open Go.Proofs.Tryz Go.V.Tryz
open Go.Proofs Sha
variable {p1 p2:Bs} {ks:List Bs} {kv r1 r2:Value}
def unG (s t:Wit.Tw):List Bs→Option Bs
 | []=>none
 | k::r=>if s.at k=t.at k then unG s t r else some k
def qJb (wd:Int)(root:Bs)(ks:List Bs)(p1 p2:Bs):Option Bs :=
 match vM wd ks with
 | .error _=>none
 | .ok l=>match kM wd root l p1,kM wd root l p2 with
  | .ok (some s),.ok (some t)=>unG s t l
  | _,_=>none
abbrev Z32:Bs:=zG 32 0
def UnQ (w0:World)(o:Option Bs)(r:Value)(w':World):Prop:=No w0 w'∧match o with
 | none=>r=.tuple #[dg Z32,.bool false]
 | some k=>r=.tuple #[dg k,.bool true]∧k.length=32
def unI (w4:World)(rb wb1 wb2:Nat)(lv:Value)(l:List Bs)(o:Option Bs)(g:List Bs→Option Bs)(m:Nat)(vs:List Value)(w:World):Prop :=
 ∃ i:Nat,vs=[pt rb 0,lv,pt wb1 0,pt wb2 0,.int .i64 (i:Nat)]∧i≤l.length∧m=l.length - i∧o=g (l.drop i)∧No w4 w
namespace R
theorem unlike (w0:World)(ht:Tabs w0)(wd:Int){root:Bs}(hroot:root.length=32)(hk:RdD w0 kv ks)(h1:By w0 r1 p1)(h2:By w0 r2 p2)(l1:p1.length≤2 ^ 50)(l2:p2.length≤2 ^ 50) :
  Fn prog 43 #[.int .i64 wd,dg root,kv,r1,r2] w0 (UnQ w0 (qJb wd root ks p1 p2)):=by
 refine go43 (by simp) ?_;obtain⟨W,hW,f1,k1,k2,s1⟩:=qXe w0 (bl root) 23 (bl Z32) 34;have bk0:bldO prog 34 []=some (dg Z32):=by kernel_rfl
 have fin:∀ (w:World) (d:Bs),No W w→d.length=32→wrO prog 34 w (w0.heap.size+1) 0 (dg d)=some (put w (w0.heap.size+1) (.cells (bl d) 34 (0,0)))∧rdO prog 34 (put w (w0.heap.size+1) (.cells (bl d) 34 (0,0))) (w0.heap.size+1) 0=some (dg d)∧No w0 (put w (w0.heap.size+1) (.cells (bl d) 34 (0,0))):=fun w d f hd =>
  ⟨wr_d sz34 (f.at k2 id) zl32 hd,rd_d agg34 sz34 (qQf (o:=.cells (bl d) 34 (0,0)) (f.at k2 id)) hd,(f1.trans f).put (b:=w0.heap.size+1) _ fun h=>by omega⟩
 unfold qJb
 by_cases hw:wd<1∨32<wd
 ·have hsw:vM wd ks=.error 1:=by unfold vM;rw[if_pos hw]
  rw[hsw];obtain⟨q3,r3,f3⟩:=fin W Z32 (Fr.refl _ _) (by simp)
  by_cases h1:wd<1
  ·have d1:decide (wd<1)=true:=decide_eq_true h1
   simp -implicitDefEqProofs only[go_sem,jR,vY,gLa,gLz,gLs,Tryz.f43,jS,qQj,hW,d1,qJe,bk0,q3,r3];exact⟨f3,rfl⟩
  ·have d1:decide (wd<1)=false:=decide_eq_false h1
   have d2:=dTo (wd > 32);simp -implicitDefEqProofs only[go_sem,jR,vY,gLa,gLz,gLs,Tryz.f43,jS,qQj,hW,d1,d2,bSe,bk0,q3,r3];exact⟨f3,rfl⟩
 have hsw:vM wd ks=Wit.sortE ks:=if_neg hw;have d1:=dFo (wd<1);have d2:=dFo (wd > 32)
 obtain⟨Wn,hWn⟩:∃ n:Nat,wd=n:=⟨wd.toNat,by omega⟩
 rw[hsw];simp -implicitDefEqProofs only[go_sem,jR,vY,gLa,gLz,gLs,Tryz.f43,jS,qQj,hW,d1,d2,bSe];refine qQa pl72 ((sorted W (hk.fr0 f1)).mono ?_);rintro r w2 ⟨f2,hm⟩;have f02:=f1.trans f2
 cases hs:Wit.sortE ks with
 | error e =>
  rw[hs]at hm;subst hm;have he:=sortW_err (wd:=wd) (hsw.trans hs);obtain⟨q3,r3,f3⟩:=fin w2 Z32 f2 (by simp);simp -implicitDefEqProofs only[go_sem,jR,gLa,gLz,gLs,he,bk0,q3,r3];exact⟨f3,rfl⟩
 | ok l =>
 rw[hs]at hm;obtain⟨lv,rfl,nl⟩:=hm;obtain⟨asc,l32,hlen,hl64,hperm⟩:=Wit.sortE_ok hk.1 hs;have rr:=rd_d agg23 sz23 (f2.at k1 id) hroot;simp -implicitDefEqProofs only[go_sem,jR,gLa,gLz,gLs,bNe,rr];refine qQa pl73 ((holds w2 (ht.no f02) hWn (by omega) hroot nl.rd (h1.fr0 f02) asc hl64 l1).mono ?_);rintro r w3 ⟨f3,h3⟩;have f03:=f02.trans f3;have rr3:=rd_d agg23 sz23 ((f2.trans f3).at k1 id) hroot
 have all1:∃ p e,r=.tuple #[p,.int .i64 e]∧e=errOf (kM wd root l p1):=by
  cases hu:kM wd root l p1 with
  | error e=>rw[hu]at h3;exact⟨_,e,h3,rfl⟩
  | ok o =>
   rw[hu]at h3
   cases o with
   | none=>obtain⟨wb,h3,_⟩:=h3;exact⟨_,0,h3,rfl⟩
   | some t=>obtain⟨wb,h3,_⟩:=h3;exact⟨_,0,h3,rfl⟩
 obtain⟨tv1,e1,rfl,he1⟩:=all1;simp -implicitDefEqProofs only[go_sem,jR,gLa,gLz,gLs,rr3];refine qQa pl73 ((holds w3 (ht.no f03) hWn (by omega) hroot (nl.rd.fr0 f3) (h2.fr0 f03) asc hl64 l2).mono ?_);rintro r w4 ⟨f4,h4⟩;have f04:=f03.trans f4
 have all2:∃ p e,r=.tuple #[p,.int .i64 e]∧e=errOf (kM wd root l p2):=by
  cases hu:kM wd root l p2 with
  | error e=>rw[hu]at h4;exact⟨_,e,h4,rfl⟩
  | ok o =>
   rw[hu]at h4
   cases o with
   | none=>obtain⟨wb,h4,_⟩:=h4;exact⟨_,0,h4,rfl⟩
   | some t=>obtain⟨wb,h4,_⟩:=h4;exact⟨_,0,h4,rfl⟩
 obtain⟨tv2,e2,rfl,he2⟩:=all2;have f24:=f3.trans f4;have fW4:=f2.trans f24;obtain⟨q5,r5,f5⟩:=fin w4 Z32 fW4 (by simp)
 cases hu:kM wd root l p1 with
 | error e =>
  rw[hu]at he1;obtain rfl:e1=e:=he1;have hne:=qKb hu;simp -implicitDefEqProofs only[go_sem,jR,gLa,gLz,gLs,hne,qJe,bk0,q5,r5];exact⟨f5,rfl⟩
 | ok o1 =>
 rw[hu]at he1;obtain rfl:e1=0:=he1
 cases hv:kM wd root l p2 with
 | error e =>
  rw[hv]at he2;obtain rfl:e2=e:=he2;have hne:=qKb hv;simp -implicitDefEqProofs only[go_sem,jR,gLa,gLz,gLs,hne,bNe,bSe,bk0,q5,r5];exact⟨f5,rfl⟩
 | ok o2 =>
 rw[hv]at he2;obtain rfl:e2=0:=he2
 have key1:∃ wb,tv1=pt wb 0∧∀ t,o1=some t→WtX w2 w3 wb wd t:=by
  rw[hu]at h3
  cases o1 with
  | none=>obtain⟨wb,h,_⟩:=h3;exact⟨wb,by injection h with h;injection h with h;simp at h;exact h,fun t h=>by cases h⟩
  | some t=>obtain⟨wb,h,hX⟩:=h3;exact⟨wb,by injection h with h;injection h with h;simp at h;exact h,fun t' h'=>by cases h';exact hX⟩
 have key2:∃ wb,tv2=pt wb 0∧∀ t,o2=some t→WtX w3 w4 wb wd t:=by
  rw[hv]at h4
  cases o2 with
  | none=>obtain⟨wb,h,_⟩:=h4;exact⟨wb,by injection h with h;injection h with h;simp at h;exact h,fun t h=>by cases h⟩
  | some t=>obtain⟨wb,h,hX⟩:=h4;exact⟨wb,by injection h with h;injection h with h;simp at h;exact h,fun t' h'=>by cases h';exact hX⟩
 clear h3 h4;obtain⟨wb1,rfl,X1⟩:=key1;obtain⟨wb2,rfl,X2⟩:=key2
 obtain⟨g,hg0,hgs⟩:∃ g:List Bs→Option Bs,(match (Except.ok o1:Except Int (Option Wit.Tw)),(Except.ok o2:Except Int (Option Wit.Tw)) with
  | .ok (some s),.ok (some t)=>unG s t l
  | _,_=>none)=g l∧g []=none∧(l≠[]→∃ s t,o1=some s∧o2=some t∧g=unG s t):=by
  cases o1 with
  | none =>
   have:=Wit.underP_none hu;subst this;exact⟨fun _=>none,rfl,rfl,fun h=>absurd rfl h⟩
  | some s =>
   cases o2 with
   | none =>
    have:=Wit.underP_none hv;subst this;exact⟨fun _=>none,rfl,rfl,fun h=>absurd rfl h⟩
   | some t=>exact⟨unG s t,rfl,rfl,fun _=>⟨s,t,rfl,rfl,rfl⟩⟩
 obtain⟨hgn,hgs⟩:=hgs;rw[hg0];obtain⟨la,lc,rfl,hlc⟩:=nl.rd.slice
 obtain⟨out,hout⟩:∃ out,out=g l:=⟨_,rfl⟩
 rw[← hout];simp -implicitDefEqProofs only[go_sem,jR,gLa,gLz,gLs,bNe,bSe];refine loopD [10,12,14,16,18] (unI w4 (w0.heap.size+1) wb1 wb2 (.slice la l.length lc) l out g) l.length ⟨0,rfl,by omega,rfl,by rw[hout];rfl,Fr.refl _ _⟩ ?_;rintro _ vs w ev0 ⟨i,rfl,hi,rfl,hG,fw⟩;have f0w:=f04.trans fw;have fWw:=fW4.trans fw
 by_cases hlt:i<l.length
 ·have d1:=dTo ((i:Int)<((l.length:Nat):Int))
  have hl4:=nl.rd.fr0 (f24.trans fw);obtain⟨b,o,cap,he,_,_⟩:=hl4.pos (by omega);cases he;have q1:=hl4.get (P:=prog) agg34 sz34 hlt;have kl:=l32.getD hlt;have km:l.getD i [] ∈ l:=by rw[qQl _ hlt];exact List.getElem_mem _
  have y1:=iBd (i:=i) (n:=l.length);have hdr:l.drop i=l.getD i []::l.drop (i+1):=by rw[List.drop_eq_getElem_cons hlt,qQl _ hlt]
  obtain⟨s,t,rfl,rfl,rfl⟩:=hgs (fun h=>by rw[h]at hlt;simp at hlt);obtain⟨u1,_,hY1⟩:=(X1 s rfl).y;obtain⟨u2,_,hY2⟩:=(X2 t rfl).y;obtain⟨ok1,tk1,tp1,_⟩:=sX asc l32 (rI hu).1;obtain⟨ok2,tk2,tp2,_⟩:=sX asc l32 (rI hv).1;have z1:s.size≤2 ^ 40:=by have:=Wit.size_keys ok1;rw[tk1]at this;omega
  have z2:t.size≤2 ^ 40:=by have:=Wit.size_keys ok2;rw[tk2]at this;omega
  have q1g:∀ w',No w w'→rdO prog 34 w' b (o+i*32)=some (dg (l.getD i [])):=fun w' f=>(hl4.fr0 f).get (P:=prog) agg34 sz34 hlt;rw[hdr]at hG;generalize l.getD i []=k at *;have c1:=iSu (i:=i);simp -implicitDefEqProofs only[go_sem,jR,gLa,gLz,y1,decide_true,if_true,and_self,iTn,q1];refine qQa pl74 ((wof u1 w (hY1.fr0 (f4.trans fw)) ok1 z1 (by rw[tk1];exact km)).mono ?_);rintro _ w5 ⟨f5',v1,rfl,o1,n1⟩;obtain⟨w6,q6,k6,f6,s6⟩:=allocA w5 (row:=#[.bool (s.at k).isSome,v1]) rfl (by rw[← Array.all_toList];simp only[List.all_cons,List.all_nil,o1];rfl);have f6w:=f5'.trans f6;have q16:=q1g w6 f6w;simp -implicitDefEqProofs only[go_sem,jR,jS,q6,y1,if_true,and_self,iTn,q16];refine qQa pl74 ((wof u2 w6 (hY2.fr0 (fw.trans f6w)) ok2 z2 (by rw[tk2];exact km)).mono ?_);rintro _ w7 ⟨f7,v2,rfl,o2,n2⟩;obtain⟨w8,q8,k8,f8,s8⟩:=allocA w7 (row:=#[.bool (t.at k).isSome,v2]) rfl (by rw[← Array.all_toList];simp only[List.all_cons,List.all_nil,o2];rfl);have f68:=f7.trans f8;have fw8:=f6w.trans f68;have kb:=f68.at k6 id;have rb1:rdO prog 4 w8 w5.heap.size 0=some (.bool (s.at k).isSome):=rd1 agg4 kb rfl;have rb2:rdO prog 4 w8 w7.heap.size 0=some (.bool (t.at k).isSome):=rd1 agg4 k8 rfl;have rv1:rdO prog 25 w8 w5.heap.size 1=some v1:=rd1 agg25 kb rfl;have rv2:rdO prog 25 w8 w7.heap.size 1=some v2:=rd1 agg25 k8 rfl;have y1':By w8 v1 ((s.at k).getD []):=(n1.by.fr0 f6).fr0 f68;have y2':By w8 v2 ((t.at k).getD []):=n2.by.fr0 f8
  have q18:=q1g w8 fw8;obtain⟨q9,r9,f9⟩:=fin w8 k (fWw.trans fw8) kl;simp -implicitDefEqProofs only[go_sem,jR,jS,q8]
  by_cases hq:s.at k=t.at k
  ·have hb:((t.at k).isSome == (t.at k).isSome)=true:=bSe _
   have hdec:decide ((s.at k).getD []=(t.at k).getD [])=true:=decide_eq_true (by rw[hq]);rw[unG,if_pos hq]at hG;simp -implicitDefEqProofs only[go_sem,jR,gLa,gLz,gLs,rb1,rb2,rv1,hq,hb,rY,bSe];refine qQh ⟨_,_,by_str y1',?_⟩;simp -implicitDefEqProofs only[go_sem,jR,gLa,gLz,gLs,rv2,bSe];refine qQh ⟨_,_,by_str y2',?_⟩;simp -implicitDefEqProofs only[go_sem,jR,gLa,gLz,gLs,str_eq,hdec,rY,c1,bSe];exact⟨l.length - (i+1),by omega,i+1,rfl,by omega,rfl,hG,fw.trans fw8⟩
  ·rw[unG,if_neg hq]at hG
   rw[hG]
   by_cases his:(s.at k).isSome=(t.at k).isSome
   ·have hb:((t.at k).isSome == (t.at k).isSome)=true:=bSe _
    have hdec:decide ((s.at k).getD []=(t.at k).getD [])=false:=decide_eq_false fun h=>hq (by
     cases h1:s.at k <;> cases h2:t.at k <;> rw[h1,h2]at h his <;> simp_all)
    simp -implicitDefEqProofs only[go_sem,jR,gLa,gLz,gLs,rb1,rb2,rv1,his,hb,rY,bSe];refine qQh ⟨_,_,by_str y1',?_⟩;simp -implicitDefEqProofs only[go_sem,jR,gLa,gLz,gLs,rv2,bSe];refine qQh ⟨_,_,by_str y2',?_⟩;simp -implicitDefEqProofs only[go_sem,jR,gLa,gLz,gLs,str_eq,hdec,xY,bSe,y1,if_true,and_self,iTn,q18,q9,r9];exact⟨f9,rfl,kl⟩
   ·have hb:((s.at k).isSome == (t.at k).isSome)=false:=by rw[bFn];exact his
    simp -implicitDefEqProofs only[go_sem,jR,gLa,gLz,gLs,rb1,rb2,hb,xY,qJe,y1,if_true,and_self,iTn,q18,q9,r9];exact⟨f9,rfl,kl⟩
 ·have d1:=dFo ((i:Int)<((l.length:Nat):Int))
  obtain rfl:i=l.length:=by omega
  rw[List.drop_length,hgn]at hG;obtain⟨q9,r9,f9⟩:=fin w Z32 fWw (by simp);simp -implicitDefEqProofs only[go_sem,jR,gLa,gLz,d1,bk0,q9,r9];rw[hG];exact⟨f9,rfl⟩
end R
theorem ts2 (w:World){rv sv:Value}{raw s:Bs}(h:By w rv raw)(g:By w sv s){A:Nat→Prop}(h1:raw≠[]→∀ b,qQb rv=some b→¬ A b)(g1:s≠[]→∀ b,qQb sv=some b→¬ A b)(h2:¬ A w.heap.size):TsA (w.alloc (.cells #[rv,sv] 25)) (.slice (some ⟨w.heap.size,0,Option.none⟩) 2 2) [raw,s] A:=by
 have f:No w (w.alloc (.cells #[rv,sv] 25)):=(Fr.refl _ _).alloc _;refine⟨[rv,sv],rfl,⟨rfl,_,_,rfl,Nat.le_refl _,fun _=>⟨_,_,rfl,fun i hi=>?_⟩⟩,fun b hb e=>?_,fun i a b=>?_⟩
 ·rw[qXc (qQc _ _),Nat.zero_add,List.getElem?_toArray]
 ·simp only[qQb,oSi]at hb;subst hb;exact h2 e
 ·have:i=0∨i=1:=by simp at a;omega
  rcases this with rfl | rfl
  ·exact⟨h.fr0 f,h1⟩
  ·exact⟨g.fr0 f,g1⟩
theorem two_len {a b c d:Bs}(h:a.length=c.length)(g:b.length=d.length):∀ i,(([a,b]:List Bs).getD i []).length=(([c,d]:List Bs).getD i []).length:=fun i=>by
 match i with
 | 0=>exact h
 | 1=>exact g
 | i+2=>simp
theorem UnQ.both {w0 w':World}{o:Option Bs}{r:Value}(h:UnQ w0 o r w'):No w0 w'∧∃ kk fl,r=.tuple #[dg kk,.bool fl]∧kk.length=32∧fl=o.isSome∧kk=o.getD Z32:=by
 obtain⟨f,h⟩:=h
 cases o with
 | none=>exact⟨f,Z32,false,h,by simp,rfl,rfl⟩
 | some k=>exact⟨f,k,true,h.1,h.2,rfl,rfl⟩
theorem unG_or {wd:Int}{root:Bs}{s t:Wit.Tw}:∀ l:List Bs,(unG s t l=none∧C.clG wd root s t l=none)∨∃ k ∈ l,unG s t l=some k∧s.at k≠t.at k∧C.clG wd root s t l=C.exOf wd root s t k
 | []=>.inl ⟨rfl,rfl⟩
 | k::l=>by
  by_cases hq:s.at k=t.at k
  ·rw[unG,C.clG,if_pos hq,if_pos hq]
   rcases unG_or l with h | ⟨x,hx,h⟩
   ·exact .inl h
   ·exact .inr ⟨x,by simp[hx],h⟩
  ·rw[unG,C.clG,if_neg hq,if_neg hq]
   exact .inr ⟨k,by simp,rfl,hq,rfl⟩
structure Split (wd:Int) (root:Bs) (ks:List Bs) (p q k t1 t2:Bs) (a1 a2:Option Bs) (b1 b2:Bs) (s1 s2:List Bs):Prop where
 un:qJb wd root ks p q=some k
 hk:k.length=32
 p1:kF wd ks p k=.ok t1
 p2:kF wd ks q k=.ok t2
 h1:C.heldP wd root k t1=.ok (a1,b1,s1)
 h2:C.heldP wd root k t2=.ok (a2,b2,s2)
 cl:C.clashP wd root ks p q=exP (C.txs wd k a1 b1 s1) (C.txs wd k a2 b2 s2)
 ne:t1≠t2
 lo:1≤wd
 hi:wd≤32
 al1:∀ v,a1=some v→v.length≤128
 al2:∀ v,a2=some v→v.length≤128
 so:∃ x y,exP (C.txs wd k a1 b1 s1) (C.txs wd k a2 b2 s2)=some (x,y)∧x.length≤200∧y.length≤200
theorem clash_split {wd:Int}{root:Bs}{p q:Bs}(hk:All32 ks) :
  (qJb wd root ks p q=none∧C.clashP wd root ks p q=none)∨∃ k t1 t2 a1 a2 b1 b2 s1 s2,Split wd root ks p q k t1 t2 a1 a2 b1 b2 s1 s2:=by
 cases hs:vM wd ks with
 | error e=>exact .inl ⟨by unfold qJb;rw[hs],by unfold C.clashP;rw[hs]⟩
 | ok l =>
  obtain⟨hse,h1,h2⟩:=Wit.sortW_ok hs;obtain⟨asc,l32,hlen,hl64,hperm⟩:=Wit.sortE_ok hk hse
  cases hu:kM wd root l p with
  | error e=>exact .inl ⟨by unfold qJb;rw[hs];dsimp only;rw[hu],by unfold C.clashP;rw[hs];dsimp only;rw[hu]⟩
  | ok o1 =>
   cases hv:kM wd root l q with
   | error e=>exact .inl ⟨by unfold qJb;rw[hs];dsimp only;rw[hu,hv];cases o1 <;> rfl,by unfold C.clashP;rw[hs];dsimp only;rw[hu,hv];cases o1 <;> rfl⟩
   | ok o2 =>
    cases o1 with
    | none=>exact .inl ⟨by unfold qJb;rw[hs];dsimp only;rw[hu,hv],by unfold C.clashP;rw[hs];dsimp only;rw[hu,hv]⟩
    | some s =>
     cases o2 with
     | none=>exact .inl ⟨by unfold qJb;rw[hs];dsimp only;rw[hu,hv],by unfold C.clashP;rw[hs];dsimp only;rw[hu,hv]⟩
     | some t =>
      have e1:qJb wd root ks p q=unG s t l:=by unfold qJb;rw[hs];dsimp only;rw[hu,hv]
      have e2:C.clashP wd root ks p q=C.clG wd root s t l:=by unfold C.clashP;rw[hs];dsimp only;rw[hu,hv]
      rw[e1,e2]
      rcases unG_or (wd:=wd) (root:=root) (s:=s) (t:=t) l with h | ⟨k,hkl,hun,hne,hcl⟩
      ·exact .inl h
      ·refine .inr ?_
       obtain⟨ok1,tk1,tp1,_⟩:=sX asc l32 (rI hu).1;obtain⟨ok2,tk2,tp2,_⟩:=sX asc l32 (rI hv).1;have km1:k ∈ s.keys:=by rw[tk1];exact hkl
       have km2:k ∈ t.keys:=by rw[tk2];exact hkl
       obtain⟨b1,s1,b2,s2,x,y,d1,d2,hx,hxy,hc⟩:=C.clashed ok1 (Wit.form_tdy asc l32 (rI hu).1) tp1 km1 (rI hu).2 ok2 (Wit.form_tdy asc l32 (rI hv).1) tp2 km2 (rI hv).2 h1 h2 hne
       have hsz:∃ x y,exP (C.txs wd k (s.at k) b1 s1) (C.txs wd k (t.at k) b2 s2)=some (x,y)∧x.length≤200∧y.length≤200:=by
        refine⟨x,y,hx,?_⟩;obtain⟨i,j,rfl,rfl⟩:=C.exG_at hx;exact⟨C.txs_at _ _ _ _ _ (l32 k hkl) (sZ k ok1) _,C.txs_at _ _ _ _ _ (l32 k hkl) (sZ k ok2) _⟩
       refine⟨k,_,_,_,_,b1,b2,s1,s2,e1.trans hun,l32 k hkl,?_,?_,d1,d2,?_,fun e=>?_,h1,h2,sZ k ok1,sZ k ok2,hsz⟩
       ·unfold kF;rw[hs];dsimp only;rw[(rI hu).1];dsimp only;rw[if_pos hkl]
       ·unfold kF;rw[hs];dsimp only;rw[(rI hv).1];dsimp only;rw[if_pos hkl]
       ·rw[e2,hcl];unfold C.exOf;rw[d1,d2]
       ·rw[e,d2]at d1
        simp only[Except.ok.injEq,Prod.mk.injEq]at d1;exact hne d1.1.symm
def csK (W:World)(wd:Int)(pb rb:Nat)(r1 r2 xv yv okv kv16:Value)(o:Option Bs)(x0 x2 x4 x5 x7 x13 x14 x15 x16 x19 x18:Value)(w:World):Prop :=
 x0=.int .i64 wd∧x2=pt pb 0∧x4=r1∧x5=r2∧x7=pt rb 0∧x13=xv∧x14=yv∧x15=okv∧x16=kv16∧x19=.bool o.isSome∧∃ b,x18=pt b 0∧w.heap[b]?=some (.cells (bl (o.getD Z32)) 34 (0,0))∧No W w
theorem clashedW (w0 w1:World)(ht:Tabs w1)(wd:Int){root:Bs}(hroot:root.length=32){pb:Nat}{kq:Nat × Nat × Nat}{iv av:Value}{qs:List (Nat × Nat × Nat)}(h:Pl w0 w1 pb kq iv av qs ks [p1, p2])(hk:RdD w1 kv ks)(hr1:By w1 r1 p1)(hr2:By w1 r2 p2)(hl:ks.length≤2 ^ 42)(hl1:p1.length≤2 ^ 47)(hl2:p2.length≤2 ^ 47) :
  Fn prog 19 #[.int .i64 wd,dg root,pt pb 0,kv,r1,r2] w1 fun r w'=>r=.bool true∧No w1 w':=by
 refine go19 (by simp) ?_;obtain⟨xa,xc,rfl,hxc⟩:=hr1.slice;obtain⟨ya,yc,rfl,hyc⟩:=hr2.slice;obtain⟨W,hW,f1,k1,s1⟩:=qQm w1 (bl root) 23;have h2:=h.fr0 f1;have rc:=qQq (P:=prog) h2.cell;have rcd:∀ t' o,rdO prog t' W.drew pb o=_:=rc;have rr:=rd_d agg23 sz23 k1 hroot;have rrd:rdO prog 23 W.drew w1.heap.size 0=_:=rr;obtain⟨q,b1,o1,c1',b2,o2,c2',hq,rfl,rfl,hN,hra,_⟩:=h2.at (i:=0) (by simp);obtain⟨q2,b1',o1',c1'',b2',o2',c2'',hq2,e1,e2,hN2,hrb,_⟩:=h2.at (i:=1) (by simp);cases e1;cases e2;have ra:=hra W (Fr.refl _ _);have rad:=hra W.drew (Fr.refl _ _).drew;have rb:=hrb W (Fr.refl _ _);have rbd:=hrb W.drew (Fr.refl _ _).drew;have hg:([p1,p2]:List Bs).getD 0 []=p1:=rfl;have hg2:([p1,p2]:List Bs).getD 1 []=p2:=rfl;rw[hg]at ra rad hN;rw[hg2]at rb rbd hN2;rw[Nat.add_zero]at ra rad;have y1:(0:Int)≤0∧(0:Int)<((([p1,p2]:List Bs).length:Nat):Int):=by simp
 have y2:(0:Int)≤1∧(1:Int)<((([p1,p2]:List Bs).length:Nat):Int):=by simp
 have fd:No W W.drew:=(Fr.refl _ _).drew;simp -implicitDefEqProofs only[go_sem,jR,jL,vY,gLa,gLz,gLs,Tryz.f19,jS,hW,rcd,qQk,rrd,y1,y2,and_self,Int.toNat_zero,Int.toNat_one,Nat.zero_mul,Nat.mul_one,rad,rbd];refine qQa pl24 ((C.clash W.drew (ht.no f1.drew) wd hroot (h2.keys.fr0 fd) (hN.by.pre.fr0 fd) (hN2.by.pre.fr0 fd)).mono ?_);intro r w3 h3
 have key:No W.drew w3∧∃ xv yv okv,r=.tuple #[xv,yv,.bool okv]∧okv=(C.clashP wd root ks p1 p2).isSome∧(∀ x y,C.clashP wd root ks p1 p2=some (x,y)→By w3 xv x∧By w3 yv y)∧(C.clashP wd root ks p1 p2=none→xv=.slice .none 0 0∧yv=.slice .none 0 0):=by
  obtain⟨f,h3⟩:=h3
  cases hc:C.clashP wd root ks p1 p2 with
  | none=>rw[hc]at h3;exact⟨f,_,_,_,h3,rfl,fun _ _ h=>(by cases h),fun _=>⟨rfl,rfl⟩⟩
  | some z =>
   obtain⟨x,y⟩:=z;rw[hc]at h3;obtain⟨xv,yv,hr,hx,hy⟩:=h3;exact⟨f,xv,yv,true,hr,rfl,fun x' y' h=>(by cases h;exact⟨hx,hy⟩),fun h=>by cases h⟩
 clear h3;obtain⟨f3,xv,yv,okv,rfl,hok,hsm,hnn⟩:=key;have f13:No W w3:=fd.trans f3;have f03:=f1.trans f13;simp -implicitDefEqProofs only[go_sem,jR,gLa,gLz,gLs];refine qQo (v:=.slice (some ⟨w3.heap.size,0,.none⟩) 2 2) (w':=w3.alloc (.cells #[.slice xa p1.length xc,.slice ya p2.length yc] 25)) rfl ?_;have ht4:=ts2 w3 (hr1.fr0 f03) (hr2.fr0 f03) (A:=fun _=>False) (fun _ _ _ h=>h) (fun _ _ _ h=>h) (fun h=>h);have f4:No w3 (w3.alloc (.cells #[.slice xa p1.length xc,.slice ya p2.length yc] 25)):=(Fr.refl _ _).alloc _;generalize w3.alloc (.cells #[.slice xa p1.length xc,.slice ya p2.length yc] 25)=w4 at *;generalize (Value.slice (some ⟨w3.heap.size,0,.none⟩) 2 2)=tsv at *;have f04:=f03.trans f4;simp -implicitDefEqProofs only[go_sem,jR]
 refine qQa pl37 ((placesLeft w0 w4 (h.fr0 f04) (hk.fr0 f04) ht4 (by omega) (fun t ht'=>by
  rcases List.mem_cons.1 ht' with rfl | ht'
  ·omega
  ·simp only[jV]at ht';subst ht';omega) (by simp)).mono ?_)
 rintro _ w5 ⟨rfl,f5⟩;have f05:=f04.trans f5;simp -implicitDefEqProofs only[go_sem,jR,rY];refine qQa pl29 ((keysOf w5 (hk.fr0 f05) hl).mono ?_);rintro _ w6 ⟨f6,kq2,rfl,n6k⟩;have f06:=f05.trans f6;have f16:=((f13.trans f4).trans f5).trans f6;have hks:RdD w6 (tv kq2 ks.length) ks:=n6k.rd.pre;have rr6:=rd_d agg23 sz23 (f16.at k1 id) hroot;have rr6d:rdO prog 23 w6.drew w1.heap.size 0=_:=rr6;simp -implicitDefEqProofs only[go_sem,jR,gLa,gLz,gLs];refine qJa (fun j=>j == 4 || (j == 6 || (j == 7 || j == 11))) (.one 0 (.one 1 (.one 2 (.one 3 (.one 5 (.two 4 (.two 6 (.two 7 (.one 8 (.one 9 (.one 10 (.one 11 (.one 12 (.one 13 .nil)))))) 11 (.one 7 (.one 8 (.one 9 (.one 10 (.one 12 (.one 13 .nil))))))) 11 (.one 6 (.one 7 (.one 8 (.one 9 (.one 10 (.one 12 (.one 13 .nil)))))))) 11 (.one 4 (.one 6 (.one 7 (.one 8 (.one 9 (.one 10 (.one 12 (.one 13 .nil)))))))))))))) rfl (by kernel_rfl) (by kernel_rfl) ?_;refine qXh (K:=fun ev w=>csK w6 wd pb w1.heap.size (.slice xa p1.length xc) (.slice ya p2.length yc) xv yv (.bool okv) (tv kq2 ks.length) (qJb wd root ks p1 p2) (ev 0) (ev 2) (ev 4) (ev 5) (ev 7) (ev 13) (ev 14) (ev 15) (ev 16) (ev 19) (ev 18) w) ?rest _ ?main
 case main =>
    have fD:No w6 w6.drew:=(Fr.refl _ _).drew;have rD:rdO prog 23 w6.drew w1.heap.size 0=some (dg root):=rr6
    obtain⟨wD,hwD⟩:∃ wD,wD=w6.drew:=⟨_,rfl⟩
    rw[← hwD]at fD rD ⊢;clear hwD;have hr1:=hr1.fr0 f06;have hr2:=hr2.fr0 f06;have f0:=f06;have hl1:p1.length≤2 ^ 47:=by omega
    have hl2:p2.length≤2 ^ 47:=by omega
    simp -implicitDefEqProofs only[go_sem,jR,jL,gLa,gLz,gLs,jS,qQj,rD];refine⟨?_,?_⟩
    ·refine qQg pl22 ((V.copied wD (hr1.fr0 fD) hl1).mono ?_)
     rintro v4 z20 ⟨n4,gz20⟩;refine⟨fun _=>rX gz20,?_⟩;have fz20:=fD.trans gz20;simp -implicitDefEqProofs only[go_sem,jR,jL,gLa,gLz,gLs,jS,qQj];refine⟨?_,?_⟩
     ·refine qQg pl22 ((V.copied z20 (hr2.fr0 fz20) hl2).mono ?_)
      rintro v6 z21 ⟨n6,gz21⟩;have b4:=n4.by.fr0 gz21
      refine⟨fun _=>rX gz21,?_⟩;have fz21:=fz20.trans gz21;simp -implicitDefEqProofs only[go_sem,jR,jL,gLa,gLz,gLs,jS,qQj];refine⟨?_,?_⟩
      ·refine qQg pl43 ((R.unlike z21 (ht.no (f0.trans fz21)) wd hroot (hks.fr0 fz21) b4 n6.by (by omega) (by omega)).mono ?_)
       intro r z22 hun;obtain⟨gz22,kk,fl,rfl,hkk,hfl,hko⟩:=hun.both;refine⟨fun _=>rX gz22,?_⟩;have fz22:=fz21.trans gz22;subst hfl;subst hko;simp -implicitDefEqProofs only[go_sem,jR,jL,gLa,gLz,gLs,jS,qQj];obtain⟨z23,hz23,gz23,k23,sz23⟩:=qQm z22 (bl (zG 32 0)) 34;rw[hz23]
       obtain⟨b11,hb11⟩:∃ b,b=z22.heap.size:=⟨_,rfl⟩
       have hb12:=fz22.size;rw[← hb11]at k23;have fz23:=fz22.trans gz23;have q24:=wr_d sz34 k23 zl32 hkk;simp -implicitDefEqProofs only[go_sem,jR,jL,gLa,gLz,gLs,← hb11,q24];exact⟨rfl,rfl,rfl,rfl,rfl,rfl,rfl,rfl,rfl,rfl,_,rfl,qQf k23,fz23.put (b:=b11) _ fun h=>by omega⟩
      ·obtain⟨z22,hz22,gz22,k22,sz22⟩:=qQm z21 (bl (zG 32 0)) 34
       rw[hz22]
       obtain⟨b11,hb11⟩:∃ b,b=z21.heap.size:=⟨_,rfl⟩
       have hb12:=fz21.size;rw[← hb11]at k22;have fz22:=fz21.trans gz22;have b4:=b4.fr0 gz22;have n6:=n6.fr0 gz22;refine qQg pl43 ((R.unlike z22 (ht.no (f0.trans fz22)) wd hroot (hks.fr0 fz22) b4 n6.by (by omega) (by omega)).mono ?_);intro r z23 hun;obtain⟨gz23,kk,fl,rfl,hkk,hfl,hko⟩:=hun.both;refine⟨fun _=>rX gz23,?_⟩;have fz23:=fz22.trans gz23;have k23:=gz23.at k22 id;subst hfl;subst hko;simp -implicitDefEqProofs only[go_sem,jR,jL,gLa,gLz,gLs,← hb11];have q24:=wr_d sz34 k23 zl32 hkk;simp -implicitDefEqProofs only[go_sem,jR,jL,gLa,gLz,gLs,q24];exact⟨rfl,rfl,rfl,rfl,rfl,rfl,rfl,rfl,rfl,rfl,_,rfl,qQf k23,fz23.put (b:=b11) _ fun h=>by omega⟩
     ·obtain⟨z21,hz21,gz21,k21,sz21⟩:=qQm z20 (bl (zG 32 0)) 34
      rw[hz21]
      obtain⟨b11,hb11⟩:∃ b,b=z20.heap.size:=⟨_,rfl⟩
      have hb12:=fz20.size;rw[← hb11]at k21;have fz21:=fz20.trans gz21;have n4:=n4.fr0 gz21;refine qQg pl22 ((V.copied z21 (hr2.fr0 fz21) hl2).mono ?_);rintro v6 z22 ⟨n6,gz22⟩;have b4:=n4.by.fr0 gz22
      refine⟨fun _=>rX gz22,?_⟩;have fz22:=fz21.trans gz22;have k22:=gz22.at k21 id;simp -implicitDefEqProofs only[go_sem,jR,gLa,gLz,gLs,← hb11];refine qQg pl43 ((R.unlike z22 (ht.no (f0.trans fz22)) wd hroot (hks.fr0 fz22) b4 n6.by (by omega) (by omega)).mono ?_);intro r z23 hun;obtain⟨gz23,kk,fl,rfl,hkk,hfl,hko⟩:=hun.both;refine⟨fun _=>rX gz23,?_⟩;have fz23:=fz22.trans gz23;have k23:=gz23.at k22 id;subst hfl;subst hko;simp -implicitDefEqProofs only[go_sem,jR,jL,gLa,gLz,gLs];have q24:=wr_d sz34 k23 zl32 hkk;simp -implicitDefEqProofs only[go_sem,jR,jL,gLa,gLz,gLs,q24];exact⟨rfl,rfl,rfl,rfl,rfl,rfl,rfl,rfl,rfl,rfl,_,rfl,qQf k23,fz23.put (b:=b11) _ fun h=>by omega⟩
    ·obtain⟨z20,hz20,gz20,k20,sz20⟩:=qQm wD (bl (zG 32 0)) 34
     rw[hz20]
     obtain⟨b11,hb11⟩:∃ b,b=wD.heap.size:=⟨_,rfl⟩
     have hb12:=fD.size;rw[← hb11]at k20;have fz20:=fD.trans gz20;refine qQg pl22 ((V.copied z20 (hr1.fr0 fz20) hl1).mono ?_);rintro v4 z21 ⟨n4,gz21⟩;refine⟨fun _=>rX gz21,?_⟩;have fz21:=fz20.trans gz21;have k21:=gz21.at k20 id;simp -implicitDefEqProofs only[go_sem,jR,gLa,gLz,gLs,← hb11];refine qQg pl22 ((V.copied z21 (hr2.fr0 fz21) hl2).mono ?_);rintro v6 z22 ⟨n6,gz22⟩;have b4:=n4.by.fr0 gz22
     refine⟨fun _=>rX gz22,?_⟩;have fz22:=fz21.trans gz22;have k22:=gz22.at k21 id;simp -implicitDefEqProofs only[go_sem,jR,gLa,gLz,gLs];refine qQg pl43 ((R.unlike z22 (ht.no (f0.trans fz22)) wd hroot (hks.fr0 fz22) b4 n6.by (by omega) (by omega)).mono ?_);intro r z23 hun;obtain⟨gz23,kk,fl,rfl,hkk,hfl,hko⟩:=hun.both;refine⟨fun _=>rX gz23,?_⟩;have fz23:=fz22.trans gz23;have k23:=gz23.at k22 id;subst hfl;subst hko;simp -implicitDefEqProofs only[go_sem,jR,jL,gLa,gLz,gLs];have q24:=wr_d sz34 k23 zl32 hkk;simp -implicitDefEqProofs only[go_sem,jR,jL,gLa,gLz,gLs,q24];exact⟨rfl,rfl,rfl,rfl,rfl,rfl,rfl,rfl,rfl,rfl,_,rfl,qQf k23,fz23.put (b:=b11) _ fun h=>by omega⟩
 case rest =>
  rintro ev w7 ⟨e0,e2,e4,e5,e7,e13,e14,e15,e16,e19,kb,e18,hkb,f7⟩;have f07:=f06.trans f7;have f17:=f16.trans f7;have f37:No w3 w7:=((f4.trans f5).trans f6).trans f7
  rcases clash_split (wd:=wd) (root:=root) (p:=p1) (q:=p2) hk.1 with ⟨hu,hc⟩ | ⟨k,t1,t2,a1,a2,c1,c2,s1,s2,hS⟩
  ·obtain⟨rfl,rfl⟩:=hnn hc
   have hokf:okv=false:=by rw[hok,hc];rfl
   rw[hu]at e19;have e19:ev 19=.bool false:=e19;rw[hokf]at e15;simp -implicitDefEqProofs only[go_sem,jR,gLa,gLz,gLs,e13,e14,e15,e19,xY,bSe,Int.natCast_zero];exact f07
  ·have hkl:=hS.hk
   rw[hS.un]at e19 hkb;have e19:ev 19=.bool true:=e19;have hkb:w7.heap[kb]?=some (.cells (bl k) 34 (0,0)):=hkb;have rk7:=rd_d agg34 sz34 hkb hkl;have rk7d:rdO prog 34 w7.drew kb 0=_:=rk7;have tl1:=partP_len hk.1 hS.p1;have tl2:=partP_len hk.1 hS.p2;have ks7:=hks.fr0 f7;have fd7:No w7 w7.drew:=(Fr.refl _ _).drew;simp -implicitDefEqProofs only[go_sem,e19,rY];refine qXd (fun j=>j == 3 || j == 5) [0,1,2,4,3,5,6,7,8,9,10] rfl (by kernel_rfl) (by kernel_rfl) ?_;simp -implicitDefEqProofs only[go_sem,jR,jL,gLa,gLz,gLs,e0,e4,e16,e18,rk7d];refine qQp pl22 ((V.copied w7.drew (hr1.fr0 f07.drew) (by omega)).mono ?_);rintro v8 w8 ⟨n8,f8⟩;refine⟨fun _=>rX f8,?_⟩;have f78:No w7 w8:=fd7.trans f8;simp -implicitDefEqProofs only[go_sem,jR,gLa,gLz,gLs];refine qQp pl40 ((R.partR w8 (ht.no (f07.trans f78)) wd (ks7.fr0 f78) n8.by (by omega) hkl).mono ?_);intro r w9 h9;rw[hS.p1]at h9;obtain⟨f9,tv1,rfl,nt1⟩:=h9;refine⟨fun _=>rX f9,?_⟩;have f79:=f78.trans f9;have f09:=f07.trans f79;have rk9:=rd_d agg34 sz34 (f79.at hkb id) hkl;have rk9d:rdO prog 34 w9.drew kb 0=_:=rk9;have fd9:No w9 w9.drew:=(Fr.refl _ _).drew;simp -implicitDefEqProofs only[go_sem,jR,jL,gLa,gLz,gLs];refine qXd (fun j=>j == 3 || j == 5) [0,1,2,4,3,5,6,7,8,9,10] rfl (by kernel_rfl) (by kernel_rfl) ?_;simp -implicitDefEqProofs only[go_sem,jR,jL,gLa,gLz,gLs,e0,e5,e16,e18,rk9d];refine qQp pl22 ((V.copied w9.drew (hr2.fr0 f09.drew) (by omega)).mono ?_);rintro v10 w10 ⟨n10,f10⟩;refine⟨fun _=>rX f10,?_⟩;have f910:No w9 w10:=fd9.trans f10;have f010:=f09.trans f910;simp -implicitDefEqProofs only[go_sem,jR,gLa,gLz,gLs];refine qQp pl40 ((R.partR w10 (ht.no f010) wd (ks7.fr0 (f79.trans f910)) n10.by (by omega) hkl).mono ?_);intro r w11 h11;rw[hS.p2]at h11;obtain⟨f11,tv2,rfl,nt2⟩:=h11;refine⟨fun _=>rX f11,?_⟩
   have f911:=f910.trans f11;have f711:=f79.trans f911;have f011:=f07.trans f711;have rk11:=rd_d agg34 sz34 (f711.at hkb id) hkl;have rr11:=rd_d agg23 sz23 ((f17.trans f711).at k1 id) hroot
   obtain⟨Wn,hWn⟩:∃ n:Nat,wd=n:=⟨wd.toNat,by have:=hS.lo;omega⟩
   have hlo:=hS.lo;have hhi:=hS.hi;simp -implicitDefEqProofs only[go_sem,jR,jL,gLa,gLz,gLs,e0,e7,e18,rk11,rr11];refine qQa pl44 ((R.extract13 w11 (ht.no f011) hWn (by omega) (by omega) hroot hkl (nt1.by.fr0 f911) nt2.by (by omega) (by omega) hS.ne hS.h1 hS.h2 hS.al1 hS.al2).mono ?_);intro r w12 h12;rw[← hS.cl]at h12;obtain⟨f12,h12⟩:=h12;have f012:=f011.trans f12;have f312:=(f37.trans f711).trans f12;obtain⟨x,y,hso,lx,ly⟩:=hS.so;have hc:C.clashP wd root ks p1 p2=some (x,y):=hS.cl.trans hso
   ·rw[hc]at h12
    obtain⟨xv',yv',rfl,hx',hy'⟩:=h12;obtain⟨hx,hy⟩:=hsm x y hc;have hokt:okv=true:=by rw[hok,hc];rfl
    rw[hokt]at e15;have hlx:x.length≤2 ^ 50:=by omega
    have hly:y.length≤2 ^ 50:=by omega
    simp -implicitDefEqProofs only[go_sem,jR,gLa,gLz,gLs,e13,e15,bSe];refine qQa pl26 ((same w12 (hx.fr0 f312) hx' hlx).mono ?_);rintro _ w13 ⟨rfl,f13'⟩;have d1:decide (x=x)=true:=decide_eq_true rfl;simp -implicitDefEqProofs only[go_sem,jR,gLa,gLz,gLs,e14];refine qQa pl26 ((same w13 (hy.fr0 (f312.trans f13')) (hy'.fr0 f13') hly).mono ?_);rintro _ w14 ⟨rfl,f14⟩;have d2:decide (y=y)=true:=decide_eq_true rfl;simp -implicitDefEqProofs only[go_sem,jR,decide_true,if_true];exact (f012.trans f13').trans f14
theorem lawClashes (w:World)(ht:Tabs w)(wd:Int){root:Bs}(hroot:root.length=32){kv rv cv:Value}{raw cs:Bs}(hk:RdD w kv ks)(hr:By w rv raw)(hc:By w cv cs)(hl:ks.length≤2 ^ 42)(hrl:raw.length≤2 ^ 47)(hcl:cs.length≤2 ^ 47) :
  Fn prog 7 #[.int .i64 wd,dg root,kv,rv,cv] w fun v w'=>v=.bool true∧No w w':=by
 refine go7 (by simp) ?_;obtain⟨xa,xc,rfl,hxc⟩:=hr.slice;obtain⟨ya,yc,rfl,hyc⟩:=hc.slice
 have tl2:∀ {a b:Bs},a.length≤2 ^ 47→b.length≤2 ^ 47→∀ t ∈ ([a,b]:List Bs),t.length≤2 ^ 47:=fun h g t ht'=>by
  rcases List.mem_cons.1 ht' with rfl | ht'
  ·exact h
  ·simp only[jV]at ht';subst ht';exact g
 obtain⟨W,hW,f1,k1,s1⟩:=qQm w (bl root) 23;simp -implicitDefEqProofs only[go_sem,jR,vY,Tryz.f7,jS,hW];refine qQo (w:=W) (v:=.slice (some ⟨W.heap.size,0,.none⟩) 2 2) (w':=W.alloc (.cells #[.slice xa raw.length xc,.slice ya cs.length yc] 25)) rfl ?_;have ht2:=ts2 W (hr.fr0 f1) (hc.fr0 f1) (A:=fun _=>False) (fun _ _ _ h=>h) (fun _ _ _ h=>h) (fun h=>h);have f2:No W (W.alloc (.cells #[.slice xa raw.length xc,.slice ya cs.length yc] 25)):=(Fr.refl _ _).alloc _;generalize W.alloc (.cells #[.slice xa raw.length xc,.slice ya cs.length yc] 25)=w2 at *;generalize (Value.slice (some ⟨W.heap.size,0,.none⟩) 2 2)=tsv at *;have f02:=f1.trans f2;simp -implicitDefEqProofs only[go_sem,jR];refine qQa pl10 ((lawLaid w2 (hk.fr0 f02) ht2 hl (tl2 hrl hcl) (by simp)).mono ?_);rintro _ w3 ⟨f3,pb,kq,iv,av,qs,rfl,P3⟩;have f03:=f02.trans f3;have hWge:∀ b,Pl.W kq qs b→w2.heap.size≤b∧b<w3.heap.size:=fun b hb=>P3.ge hb;have z02:=f02.size;have hWold:∀ b,b<w.heap.size→¬ Pl.W kq qs b:=fun b hb h=>by have:=(hWge b h).1;omega
 simp -implicitDefEqProofs only[go_sem];refine qQa pl11 ((known w3 (ht.no f03)).mono ?_);rintro _ w4 ⟨rfl,f4⟩;have f04:=f03.trans f4;have k4:=((f2.trans f3).trans f4).at k1 id;have r4:=rd_d agg23 sz23 k4 hroot;simp -implicitDefEqProofs only[go_sem,jR,gLa,gLz,gLs,r4,rY,bSe];refine qQa pl19 ((clashedW w2 w4 (ht.no f04) wd hroot (P3.fr0 f4) (hk.fr0 f04) (hr.fr0 f04) (hc.fr0 f04) hl hrl hcl).mono ?_);rintro _ w5 ⟨rfl,f5⟩;have f05:=f04.trans f5;simp -implicitDefEqProofs only[go_sem,jR,gLa,gLz,gLs,rY,bSe];refine qQa pl13 ((other w5 (hc.fr0 f05) hcl cs.length (by omega)).mono ?_);rintro v6 w6 ⟨n6,f6⟩;have f06:=f05.trans f6;have ho:=oth_len cs cs.length;generalize oth cs cs.length=o at *;obtain⟨oa,oc,rfl⟩:=n6.slice;have s35:w3.heap.size≤w5.heap.size:=(f4.trans f5).size;have s56:=f6.size;have oldc:cs≠[]→∀ b,qQb (.slice ya cs.length yc)=some b→¬ Pl.W kq qs b:=fun hn b hb h=>hWold b (hc.blk (List.length_pos_iff.2 hn) hb) h;have oldr:raw≠[]→∀ b,qQb (.slice xa raw.length xc)=some b→¬ Pl.W kq qs b:=fun hn b hb h=>hWold b (hr.blk (List.length_pos_iff.2 hn) hb) h;have oldk:ks≠[]→∀ b,qQb kv=some b→¬ Pl.W kq qs b:=fun hn b hb h=>hWold b (hk.blk hn hb) h;simp -implicitDefEqProofs only[go_sem,jR];refine qQo (w:=w6) (v:=.slice (some ⟨w6.heap.size,0,.none⟩) 2 2) (w':=w6.alloc (.cells #[.slice xa raw.length xc,.slice oa o.length oc] 25)) rfl ?_;have ht7:=ts2 w6 (hr.fr0 f06) n6.by (A:=Pl.W kq qs) oldr (fun _ b hb h=>by have:=(n6.lt hb).1;have:=(hWge b h).2;omega) (fun h=>by have:=(hWge _ h).2;omega)
 have f7:No w6 (w6.alloc (.cells #[.slice xa raw.length xc,.slice oa o.length oc] 25)):=(Fr.refl _ _).alloc _;generalize w6.alloc (.cells #[.slice xa raw.length xc,.slice oa o.length oc] 25)=w7 at *;generalize (Value.slice (some ⟨w6.heap.size,0,.none⟩) 2 2)=tsv7 at *;have f07:=f06.trans f7;have f37:=((f4.trans f5).trans f6).trans f7;simp -implicitDefEqProofs only[go_sem,jR];refine qQa pl14 ((over w2 w7 (P3.fr0 f37) (hk.fr0 f07) rfl oldk ht7 rfl (two_len rfl ho) (by omega) (fun t h=>by have:=tl2 hrl hcl t h;omega) (by simp)).mono ?_);rintro _ w8 ⟨rfl,P8,f8⟩;have f08:No w w8:=f07.trans' f8 fun b hb h=>hWold b hb h;have y8:By w8 (.slice oa o.length oc) o:=(n6.by.fr0 f7).fr f8 fun b hb _ h=>by have:=(n6.lt hb).1;have:=(hWge b h).2;omega
 have k7:=(((f5.trans f6).trans f7)).at k4 id;have hwz:w.heap.size<w2.heap.size:=by have:=f2.size;omega
 have k8:=f8.at k7 fun h=>by have:=(hWge _ h).1;omega
 have r8:=rd_d agg23 sz23 k8 hroot;have s78:=f8.size;simp -implicitDefEqProofs only[go_sem,jR,r8];refine qQa pl19 ((clashedW w2 w8 (ht.no f08) wd hroot P8 (hk.fr0 f08) (hr.fr0 f08) y8 hl hrl (by omega)).mono ?_);rintro _ w9 ⟨rfl,f9⟩;have f09:=f08.trans f9;have s37:=f37.size;have s9:=f9.size;simp -implicitDefEqProofs only[go_sem,jR,rY];refine qQo (w:=w9) (v:=.slice (some ⟨w9.heap.size,0,.none⟩) 2 2) (w':=w9.alloc (.cells #[.slice xa raw.length xc,.slice ya cs.length yc] 25)) rfl ?_;have ht11:=ts2 w9 (hr.fr0 f09) (hc.fr0 f09) (A:=Pl.W kq qs) oldr oldc (fun h=>by have:=(hWge _ h).2;omega);have f11:No w9 (w9.alloc (.cells #[.slice xa raw.length xc,.slice ya cs.length yc] 25)):=(Fr.refl _ _).alloc _;generalize w9.alloc (.cells #[.slice xa raw.length xc,.slice ya cs.length yc] 25)=w11 at *;generalize (Value.slice (some ⟨w9.heap.size,0,.none⟩) 2 2)=tsv11 at *;have f011:=f09.trans f11;have tlo:∀ t ∈ ([raw,o]:List Bs),t.length≤2 ^ 50:=fun t h=>by have:=tl2 hrl (show o.length≤2 ^ 47 by omega) t h;omega
 simp -implicitDefEqProofs only[go_sem,jR];refine qQa pl14 ((over w2 w11 (P8.fr0 (f9.trans f11)) (hk.fr0 f011) rfl oldk ht11 rfl (two_len rfl ho.symm) (by omega) tlo (by simp)).mono ?_);rintro _ w12 ⟨rfl,P12,f12⟩;have f012:No w w12:=f011.trans' f12 fun b hb h=>hWold b hb h;have k12:=f12.at ((f9.trans f11).at k8 id) fun h=>by have:=(hWge _ h).1;omega
 have r12:=rd_d agg23 sz23 k12 hroot;simp -implicitDefEqProofs only[go_sem,jR,r12];refine qQa pl19 ((clashedW w2 w12 (ht.no f012) wd hroot P12 (hk.fr0 f012) (hr.fr0 f012) (hc.fr0 f012) hl hrl hcl).mono ?_);rintro _ w13 ⟨rfl,f13⟩;simp -implicitDefEqProofs only[go_sem];exact f012.trans f13
end Go.V
