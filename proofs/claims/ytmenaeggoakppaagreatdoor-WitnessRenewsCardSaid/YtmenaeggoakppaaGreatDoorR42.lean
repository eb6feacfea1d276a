/- Helpers. -/
import Derived.Test.YtmenaeggoakppaaGreatDoorR41
import Derived.Test.YtmenaeggoakppaaGreatDoorR38
set_option linter.all false
set_option maxRecDepth 100000
set_option maxHeartbeats 8000000
open Go.V.Fr renaming ext→kB
open Int renaming toNat_zero→vP
open List renaming replicate→zF,getElem?_append_right→jD,getElem?_toArray→zX,length_singleton→zE
open Nat renaming reduceEqDiff→jU,reduceBEq→jF,reduceAdd→vQ,le_refl→xP,zero_mul→jC,zero_le→jZ
open Go.Value renaming cells→jB
open Go.V.Wit renaming saysC→rG,renewP→rB,rnN→rD,txt→rM,rnw→rN,rn1→rP,nearT→rR,Tw→vS,TxAt→vC,ansT→vW,underP_ok→rT,rnw_keys→rL,rnN_len→rC,form_ok→kC,chOf→rV
namespace Go.V
open Go.Proofs.Tryz Go.V.Tryz
open Go.Proofs Sha
variable {a b c cs raw rawAt:Bs} {wd:Int} {ds ks:List Bs} {xs:List Wit.Tx} {i n:Nat} {t:vS}
namespace R
def rnQ (wd:Int)(cs:List Wit.Ch)(o:Option vS)(wb i ab:Nat)(cv:Value)(w0:World)(t:vS):Prop :=
 Fn prog 98 #[pt wb 0,.int .i64 (i:Nat),pt ab 0,cv] w0 fun v w'=>NwB w0 w' v (rM wd (rN wd (rG cs) o t))∧No w0 w'
def rdI2 (W:World)(wd:Int)(cs:List Wit.Ch)(o:Option vS)(t:vS)(wb ab xb:Nat)(cv:Value)(n:Nat)(vs:List Value)(w:World):Prop :=
 ∃ (g:Nat) (v:Value) (ds:List Bs),vs=[pt wb 0,pt ab 0,cv,pt xb 0,v,.int .i64 (g:Nat)]∧g≤t.top∧n=t.top - g∧NwD W w 23 v ds∧ds.length=g ∧
  (∀ h,t.fr≤h→h<g→ds.getD h []=rP wd (rG cs) o t.key h (t.near.getD (h - t.fr) []))∧No W w
def rgK (W:World)(wb ab xb:Nat)(cv:Value)(l0:Bs)(x0 x2 x3 x9 x15:Value)(w:World):Prop:=x0=pt wb 0∧x2=pt ab 0∧x3=cv∧x9=pt xb 0∧NwB W w x15 l0∧No W w
theorem rn_ds {cs:List Wit.Ch}{o:Option vS}(hok:t.Ok)(hl:ds.length=t.top)(h:∀ h, t.fr≤h→h<t.top→ds.getD h []=rP wd (rG cs) o t.key h (t.near.getD (h - t.fr) [])) :
  (ds.drop t.fr).take (t.top - t.fr)=rD wd (rG cs) o t.key t.fr t.near:=by
 have hnl:=hok.near_len;have hfr:=hok.fr_le;refine List.ext_getElem (by rw[lTk,lDr,rC];omega) fun i h1 h2=>?_;rw[rC]at h2;have:=h (t.fr+i) (by omega) (by omega);rw[qQi _ (by omega),Nat.add_sub_cancel_left,qQi _ h2]at this;rw[List.getElem_take,List.getElem_drop,Wit.rnN_get _ h2];exact this
theorem snoc_get {n f:Nat}{P:Nat→Bs}{d:Bs}(hl:ds.length=n)(h:∀ h,f≤h→h<n→ds.getD h []=P h)(hd:f≤n→d=P n):∀ h,f≤h→h<n+1→(ds++[d]).getD h []=P h:=fun i h1 h2=>by
 by_cases hi:i<n
 ·rw[gDq,List.getElem?_append_left (by omega),← gDq];exact h i h1 hi
 ·obtain rfl:i=n:=by omega
  rw[gDq,jD (by omega),hl,Nat.sub_self];exact hd h1
theorem near_x (hok:t.Ok)(hx:vC wd xs i t){x:Wit.Tx}(h:xs[i]?=some x):x.near.length=t.top:=by
 cases t with
 | leaf k top near a =>
  have hx:xs[i]?=_:=hx;rw[hx]at h;cases h;exact hok.2.2.1
 | fork ks f top near l r =>
  obtain⟨li,ri,hx,_⟩:=hx;rw[hx]at h;cases h;have h1:f≤top:=hok.2.1;have h2:top≤256:=hok.2.2.1;have h3:near.length=top - f:=hok.2.2.2.1;show ((empts wd 257).take f++near).length=top;rw[lAp,lTk,qQs,h3];omega
theorem renewed1 (u ua w0:World)(ht:Tabs w0){wb ab i:Nat}(hY:WtY u w0 wb wd xs){o:Option vS}(hA:WtY ua w0 ab wd (flO wd o))(ho:OkO o)(hok:t.Ok)(hx:vC wd xs i t)(hxl:xs.length≤2 ^ 40)(hkl:t.keys.length≤64)
  {cv:Value} {cs:List Wit.Ch} (hcs:CsR w0 cv cs) (hcl:ChL cs) (hdel:∀ c ∈ cs,c.2.1=true→c.2.2=[]) (hsh:Wit.Short (rG cs))
  (hrec:∀ ks f top near l r,t=.fork ks f top near l r→∀ li ri,vC wd xs li l→vC wd xs ri r→∀ w,No w0 w→rnQ wd cs o wb li ab cv w l∧rnQ wd cs o wb ri ab cv w r):rnQ wd cs o wb i ab cv w0 t:=by
 refine go98 (by simp) ?_;obtain⟨x,hx',e1,e2,e3,e4⟩:=textX hok hx;have hxn:=near_x hok hx hx';obtain⟨ev,tb,to,tc,gv,rv,q',kv,nv,vv,hc,he,hrt,hrf,hkv,hnv,hvv,hall⟩:=hY.text hx';rw[e1,e2]at hrt hall;rw[e3]at hkv;have hil:=TxAt_lt hx;have rt:=hrt w0 (Fr.refl _ _);have rw0:=hc.row;have hkp:=hok.keys_pos;have hfr:=hok.fr_le;have htp:=hok.top_le;have hnl:=hok.near_len;have hklen:=hok.key_len;obtain⟨W,q1,k1,f1,s1⟩:=allocT w0 (row:=txC kv t.top t.fr nv (x.left:Nat) (x.right:Nat) x.ans.isSome vv) rfl hall;have y0:=iBd (i:=i) (n:=xs.length);obtain⟨kb',ko,kc,rfl,_,_⟩:=hkv.pos hkp
 have rk:∀ w,No w0 w→rdO prog 34 w kb' ko=some (dg t.key):=fun w f=>by
  have:=(hkv.fr0 f).get (P:=prog) agg34 sz34 (i:=0) hkp;rw[jC,Nat.add_zero,← qZr]at this;exact this
 have yk:(0:Int)<((t.keys.length:Nat):Int):=by omega
 simp -implicitDefEqProofs only[go_sem,jU,vQ,gLa,gLz,gLs,Tryz.f98,jB,rw0,qQh,y0,and_self,if_true,iTn,rt,q1];refine loopD [0,2,3,9,10,11] (rdI2 W wd cs o t wb ab w0.heap.size cv) t.top ⟨0,_,[],rfl,jZ _,rfl,NwD.nil _ _ _,rfl,fun h _ h2=>absurd h2 (Nat.not_lt_zero _),Fr.refl _ _⟩ ?_;rintro _ vs w ev0 ⟨g,v,ds,rfl,hg,rfl,hN,hdl,hget,fw⟩;have f0w:=f1.trans fw;have kw:=fw.at k1 id;have r2:=qQk (P:=prog) kw
 by_cases hlt:g<t.top
 ·have d1:=dTo ((g:Int)<((t.top:Nat):Int))
  have c1:=iSu (i:=g);have hnw:=hnv.fr0 f0w;obtain⟨nb,no,nc,rfl,_,_⟩:=hnw.pos (by omega);have rn:=hnw.get (P:=prog) agg23 sz23 (i:=g) (by omega);have hn32:(x.near.getD g []).length=32:=hnv.1.getD (by omega);have yn:=iBd (i:=g) (n:=x.near.length);have e4g:=e4 g;generalize x.near.getD g []=e at *;obtain⟨W3,q3,k3,f3,s3⟩:=allocD w (ty:=23) sz23 hn32;have r3:=qQk (P:=prog) (f3.at kw id)
  by_cases hge:t.fr≤g
  ·have d2:=dTo ((g:Int) ≥ ((t.fr:Nat):Int))
   have heq:e=t.near.getD (g - t.fr) []:=(e4g hge hlt).1;have f03:=f0w.trans f3;have rk3:=rk W3 f03;simp -implicitDefEqProofs only[go_sem,jU,gLa,gLz,gLs,r2,qQh,d1,yn,and_self,if_true,iTn,rn,qQm,q3,r3,d2,yk,Int.le_refl,rk3,vP,jC];refine qQa pl161 ((place ua W3 (ht.no f03) (hA.fr0 f03) ho (hcs.fr0 f03) hcl hklen (show g<256 by omega)).mono ?_);rintro r w4 ⟨f4,h4⟩
   cases hbe:(o.bind fun t'=>Wit.bes t' t.key g) with
   | none =>
    rw[hbe]at h4;obtain rfl:r=_:=h4;obtain⟨W5,q5,k5,f5,s5⟩:=allocD w4 (ty:=23) sz23 zl32;have f35:=f4.trans f5;have r5:=rd_d agg23 sz23 (f35.at k3 id) hn32;have fW5:=(fw.trans f3).trans f35;simp -implicitDefEqProofs only[go_sem,jU,gLa,gLz,gLs,jB,qQm,q5,r5];refine qQj (v:=.slice (some ⟨W5.heap.size,0,.none⟩) 1 1) (w':=W5.alloc (.cells (bl e) 23)) (qXm (y:=List.map u8 (zF 32 0)) (by simp) (c:=bl (zF 32 0)) (by simp) (d:=e) hn32 _) ?_;obtain⟨v6,w6,hr6,b6,f6,_⟩:=((hN.fr0 f3).fr0 f35).push app94_94 hn32 (by omega) fW5;simp -implicitDefEqProofs only[go_sem,jU];refine qQg ⟨v6,w6,hr6,?_⟩;simp -implicitDefEqProofs only[go_sem,jU,c1];exact⟨t.top - (g+1),by omega,g+1,v6,_,rfl,by omega,rfl,b6,by simp[hdl],snoc_get (P:=fun h=>rP wd (rG cs) o t.key h (t.near.getD (h - t.fr) [])) hdl hget (fun _=>by unfold rP;rw[hbe];exact heq),f6⟩
   | some p =>
    rw[hbe]at h4;obtain rfl:r=_:=h4;have hDl:=Wit.dig_len' wd (rG cs) p;have hrn:rP wd (rG cs) o t.key g (t.near.getD (g - t.fr) [])=Wit.dig wd (rG cs) p:=by unfold rP;rw[hbe]
    generalize Wit.dig wd (rG cs) p=D at *;obtain⟨W5,q5,k5,f5,s5⟩:=allocD w4 (ty:=23) sz23 hDl;have f35:=f4.trans f5;have k35:=f35.at k3 id;have r5:=rd_d agg23 sz23 k5 hDl;have q6:=wr_d sz23 k35 hn32 hDl;have k6:=qQf (o:=.cells (bl D) 23 (0,0)) k35;have r6:=rd_d agg23 sz23 k6 hDl;have f36:Fr (fun b=>b=w.heap.size) w (put W5 w.heap.size (.cells (bl D) 23 (0,0))):=((f3.trans f35).mono fun _ _ h=>h.elim).put (b:=w.heap.size) _ fun _=>rfl;have fwz:=fw.size;have fW6:No W (put W5 w.heap.size (.cells (bl D) 23 (0,0))):=fw.trans' f36 fun b hb h=>by omega
    simp -implicitDefEqProofs only[go_sem,jU,gLa,gLz,gLs,jB,qQm,q5,r5,q6,r6];have hN6:=hN.fr f36 fun b hb h=>by have:=(hN.lt hb).2;omega
    have hz:(put W5 w.heap.size (.cells (bl D) 23 (0,0))).heap.size=W5.heap.size:=put_heap_size _ _ _;generalize put W5 w.heap.size (.cells (bl D) 23 (0,0))=w6 at *;refine qQj (v:=.slice (some ⟨W5.heap.size,0,.none⟩) 1 1) (w':=w6.alloc (.cells (bl D) 23)) (qXm (y:=List.map u8 (zF 32 0)) (by simp) (c:=bl (zF 32 0)) (by simp) (d:=D) hDl _) ?_;obtain⟨v7,w7,hr7,b7,f7,_⟩:=hN6.push app94_94 hDl (by omega) fW6;rw[hz]at hr7;simp -implicitDefEqProofs only[go_sem,jU];refine qQg ⟨v7,w7,hr7,?_⟩;simp -implicitDefEqProofs only[go_sem,jU,c1];exact⟨t.top - (g+1),by omega,g+1,v7,_,rfl,by omega,rfl,b7,by simp[hdl],snoc_get (P:=fun h=>rP wd (rG cs) o t.key h (t.near.getD (h - t.fr) [])) hdl hget (fun _=>hrn.symm),f7⟩
  ·have d2:=dFo ((g:Int) ≥ ((t.fr:Nat):Int))
   have r5:=rd_d agg23 sz23 k3 hn32;simp -implicitDefEqProofs only[go_sem,jU,gLa,gLz,gLs,r2,qQh,d1,yn,and_self,if_true,iTn,rn,qQm,q3,r3,d2,r5];refine qQj (v:=.slice (some ⟨W3.heap.size,0,.none⟩) 1 1) (w':=W3.alloc (.cells (bl e) 23)) (qXm (y:=List.map u8 (zF 32 0)) (by simp) (c:=bl (zF 32 0)) (by simp) (d:=e) hn32 _) ?_;obtain⟨v6,w6,hr6,b6,f6,_⟩:=(hN.fr0 f3).push app94_94 hn32 (by omega) (fw.trans f3);simp -implicitDefEqProofs only[go_sem,jU];refine qQg ⟨v6,w6,hr6,?_⟩;simp -implicitDefEqProofs only[go_sem,jU,c1];exact⟨t.top - (g+1),by omega,g+1,v6,_,rfl,by omega,rfl,b6,by simp[hdl],snoc_get (P:=fun h=>rP wd (rG cs) o t.key h (t.near.getD (h - t.fr) [])) hdl hget (fun h=>absurd h hge),f6⟩
 ·have d1:=dFo ((g:Int)<((t.top:Nat):Int))
  obtain rfl:g=t.top:=by omega
  have hrn:=rn_ds hok hdl hget;obtain⟨va,vc,rfl,_⟩:=hN.rd.slice;have fd:No w w.drew:=(Fr.refl _ _).drew;have rwd:∀ t' o',rdO prog t' w.drew wb o'=_:=(hc.no f0w).row;have hnt:=Wit.nearT_le wd t.fr (Wit.rnN_all (w:=wd) (says:=rG cs) (tt:=o) (key:=t.key) (f:=t.fr) hok.near32);rw[rC]at hnt;have hfok:=Wit.rnw_ok (w:=wd) hsh (tt:=o) hok
  cases t with
  | fork ks f top near l r =>
   obtain⟨li,ri,hxx,hxL,hxR⟩:=id hx;rw[hxx]at hx';simp only[oSi]at hx';subst hx';have hpos:=hok.f_pos;have d2:=dTo (((f:Nat):Int) > 0);have okl:=hok.2.2.2.2.2.2.2.2.2.2.2.2.1;have okr:=hok.2.2.2.2.2.2.2.2.2.2.2.2.2;have ll:=txt_len wd hfok.2.2.2.2.2.2.2.2.2.2.2.2.1;have lr:=txt_len wd hfok.2.2.2.2.2.2.2.2.2.2.2.2.2;rw[rL,hok.2.2.2.2.2.2.2.2.1,lTk]at ll;rw[rL,hok.2.2.2.2.2.2.2.2.2.1,lDr]at lr;have hkl:ks.length≤64:=hkl;have hrn:(ds.drop f).take (top - f)=rD wd (rG cs) o (ks.headD []) f near:=hrn
   have htx:rM wd (rN wd (rG cs) o (.fork ks f top near l r))=((([2]:Bs)++rR wd f (rD wd (rG cs) o (ks.headD []) f near))++rM wd (rN wd (rG cs) o l))++rM wd (rN wd (rG cs) o r):=by
    simp only[rN,rM,List.append_assoc];rfl
   have htop:top≤256:=htp;have hfr:f≤top:=hfr;have hnl:near.length=top - f:=hnl;have hnt:(rR wd f (rD wd (rG cs) o (ks.headD []) f near)).length≤32+32*near.length:=hnt;have hdl:ds.length=top:=hdl;have kw:w.heap[w0.heap.size]?=some (.cells (txC (.slice (some ⟨kb',ko,.none⟩) ks.length kc) top f nv (li:Nat) (ri:Nat) false vv) 220 (0,0)):=kw;have k1:W.heap[w0.heap.size]?=some (.cells (txC (.slice (some ⟨kb',ko,.none⟩) ks.length kc) top f nv (li:Nat) (ri:Nat) false vv) 220 (0,0)):=k1;have r2:=qQk (P:=prog) kw;have r2d:∀ t' o',rdO prog t' w.drew w0.heap.size o'=_:=r2;have d1:decide ((((Wit.Tw.fork ks f top near l r).top:Nat):Int)<(top:Int))=false:=d1;simp -implicitDefEqProofs only[go_sem,jU,gLa,gLz,gLs,r2,qQh,d1,d2]
   refine den_ot (fun j=>j == 0 || (j == 10 || j == 11)) (.one 1 (.one 2 (.one 3 (.one 4 (.one 5 (.one 6 (.one 7 (.one 8 (.one 9 (.two 0 (.row [10,11,12]) 10 (.row [0,11,12])))))))))))
    rfl (by kernel_rfl) (by kernel_rfl) ?_
   refine qZo (K:=fun ev wx=>rgK W wb ab w0.heap.size cv (([2]:Bs)++rR wd f (rD wd (rG cs) o (ks.headD []) f near)) (ev 0) (ev 2) (ev 3) (ev 9) (ev 15) wx) ?rest _ ?main
   case main =>
    simp only[OT.row];simp -implicitDefEqProofs only[go_sem,jU,jF,gLa,gLz,gLs,r2d,rwd,qQh];refine⟨?_,?_⟩
    ·refine qZc (v:=.slice (some ⟨w.drew.heap.size,0,.none⟩) 1 1) (w':=w.drew.alloc (.cells (bl [2]) 5)) rfl (fun _=>Ext.alloc _ _) ?_
     have n5:NwB w.drew (w.drew.alloc (.cells (bl [2]) 5)) (.slice (some ⟨w.drew.heap.size,0,.none⟩) 1 1) [2]:=mk_nw w.drew w.drew 5 1 1 1 (bl [2]) (xP _) rfl (xP _);have f5:No w.drew (w.drew.alloc (.cells (bl [2]) 5)):=(Fr.refl _ _).alloc _;generalize w.drew.alloc (.cells (bl [2]) 5)=w5 at *;generalize (Value.slice (some ⟨w.drew.heap.size,0,.none⟩) 1 1)=v5 at *;have f25:=fd.trans f5;simp -implicitDefEqProofs only[go_sem,jU,gLa,gLz,gLs];refine qQz pl133 ((nearR w5 wd ((he.fr0 f0w).fr0 f25) (hN.rd.fr0 f25) (f:=f) (t:=top) hfr (by omega) htop).mono ?_);rintro v6 w6 ⟨n6,f6⟩;refine⟨fun _=>kB f6,?_⟩;rw[hrn]at n6;simp -implicitDefEqProofs only[go_sem,jU,gLa,gLz,gLs];refine qQz pl131 ((joined w6 (n5.fr0 f6).by n6.by (by decide) (by omega)).mono ?_);rintro v7 w7 ⟨n7,f7⟩;refine⟨fun _=>kB f7,?_⟩;simp -implicitDefEqProofs only[go_sem,jU,jF,gLa,gLz,gLs];exact⟨rfl,rfl,rfl,rfl,n7.back (fw.trans (f25.trans f6)).size,fw.trans ((f25.trans f6).trans f7)⟩
    ·refine qQz pl133 ((nearR w.drew wd ((he.fr0 f0w).fr0 fd) (hN.rd.fr0 fd) (f:=f) (t:=top) hfr (by omega) htop).mono ?_)
     rintro v6 w6 ⟨n6,f6⟩;refine⟨fun _=>kB f6,?_⟩;rw[hrn]at n6;simp -implicitDefEqProofs only[go_sem,gLa,gLz];refine qZc (v:=.slice (some ⟨w6.heap.size,0,.none⟩) 1 1) (w':=w6.alloc (.cells (bl [2]) 5)) rfl (fun _=>Ext.alloc _ _) ?_;have n5:NwB w6 (w6.alloc (.cells (bl [2]) 5)) (.slice (some ⟨w6.heap.size,0,.none⟩) 1 1) [2]:=mk_nw w6 w6 5 1 1 1 (bl [2]) (xP _) rfl (xP _);have f5:No w6 (w6.alloc (.cells (bl [2]) 5)):=(Fr.refl _ _).alloc _;generalize w6.alloc (.cells (bl [2]) 5)=w5 at *;generalize (Value.slice (some ⟨w6.heap.size,0,.none⟩) 1 1)=v5 at *;have f25:=(fd.trans f6).trans f5;simp -implicitDefEqProofs only[go_sem,jU,gLa,gLz,gLs];refine qQz pl131 ((joined w5 n5.by (n6.fr0 f5).by (by decide) (by omega)).mono ?_);rintro v7 w7 ⟨n7,f7⟩;refine⟨fun _=>kB f7,?_⟩;simp -implicitDefEqProofs only[go_sem,jU,jF,gLa,gLz,gLs];exact⟨rfl,rfl,rfl,rfl,n7.back (fw.trans f25).size,fw.trans (f25.trans f7)⟩
   case rest =>
    rintro ev2 w5 ⟨x0,x2,x3,x9,n5,f5⟩;have f05:=f1.trans f5;have r5:=qQk (P:=prog) (f5.at k1 id);have hL:=hrec _ _ _ _ _ _ rfl li ri hxL hxR;simp -implicitDefEqProofs only[go_sem,jU,gLa,gLz,gLs,x0,x2,x3,x9,r5,qQh];refine qQa pl98 (((hL w5 f05).1).mono ?_);rintro v6 w6 ⟨n6,f6⟩;simp -implicitDefEqProofs only[go_sem,jU];refine qQa pl131 ((joined w6 (n5.fr0 f6).by n6.by (by simp only[lAp,zE];omega) (by omega)).mono ?_);rintro v7 w7 ⟨n7,f7⟩;have f07:=(f05.trans f6).trans f7;have r7:=qQk (P:=prog) (((f5.trans f6).trans f7).at k1 id);simp -implicitDefEqProofs only[go_sem,jU,gLa,gLz,gLs,x0,x2,x3,x9,r7,qQh];refine qQa pl98 (((hL w7 f07).2).mono ?_);rintro v8 w8 ⟨n8,f8⟩;simp -implicitDefEqProofs only[go_sem,jU];refine qQa pl131 ((joined w8 (n7.fr0 f8).by n8.by (by simp only[lAp,zE];omega) (by omega)).mono ?_);rintro v9 w9 ⟨n9,f9⟩;simp -implicitDefEqProofs only[go_sem];rw[htx];exact⟨n9.back (f07.trans f8).size,(f07.trans f8).trans f9⟩
  | leaf k top near a =>
   have hxx:xs[i]?=_:=hx;rw[hxx]at hx';simp only[oSi]at hx';subst hx';have d2:decide (((0:Nat):Int) > 0)=false:=rfl;have hk:k.length=32:=hok.1;have htop:top≤256:=htp;have hnl:near.length=top:=hnl;have hdl:ds.length=top:=hdl;have hrn:(ds.drop 0).take (top - 0)=rD wd (rG cs) o k 0 near:=hrn;have hnt:(rR wd 0 (rD wd (rG cs) o k 0 near)).length≤32+32*near.length:=hnt;have htx:rM wd (rN wd (rG cs) o (.leaf k top near a))=vW (rG cs k a)++rR wd 0 (rD wd (rG cs) o k 0 near):=rfl;have rkw:rdO prog 34 w kb' ko=some (dg k):=rk w f0w;have yk1:(0:Int)<((1:Nat):Int):=by decide
   have kw:w.heap[w0.heap.size]?=some (.cells (txC (.slice (some ⟨kb',ko,.none⟩) 1 kc) top 0 nv (0:Nat) (0:Nat) a.isSome vv) 220 (0,0)):=kw;have r2:=qQk (P:=prog) kw;have d1:decide ((((Wit.Tw.leaf k top near a).top:Nat):Int)<(top:Int))=false:=d1;have hal:=hsh k a hok.2.2.2.2
   have hal2:(vW (rG cs k a)).length≤300:=by
    cases hsa:rG cs k a with
    | none=>simp[vW]
    | some v=>have:=hal v hsa;simp[vW];omega
   have hal3:((rG cs k a).getD []).length≤256:=by
    cases hsa:rG cs k a with
    | none=>simp
    | some v=>have:=hal v hsa;simp only[Option.getD_some];omega
   have says':rG cs k a=match Wit.findC cs k with | none=>a | some c=>c.ans:=rfl
   have fin:∀ (w5:World) (vv5:Value), No w w5→By w5 vv5 ((rG cs k a).getD [])→Fn prog 132 #[.bool (rG cs k a).isSome, vv5] w5.drew fun v6 w6=>NwB w5.drew w6 v6 (vW (rG cs k a))∧No w5.drew w6 ∧
     Fn prog 133 #[ev,.slice va ds.length vc,.int .i64 0,.int .i64 (top:Nat)] w6 fun v7 w7=>NwB w6 w7 v7 (rR wd 0 (rD wd (rG cs) o k 0 near))∧No w6 w7 ∧
     Fn prog 131 #[v6,v7] w7 fun v w'=>No w7 w'∧NwB w0 w' v (rM wd (rN wd (rG cs) o (.leaf k top near a)))∧No w0 w':=fun w5 vv5 f5 hby=>by
    have fd5:No w5 w5.drew:=(Fr.refl _ _).drew;refine (answer w5.drew (hby.fr0 fd5) hal3).mono ?_;rintro v6 w6 ⟨n6,f6⟩;refine⟨n6,f6,?_⟩;have f56:=(f5.trans fd5).trans f6;refine (nearR w6 wd ((he.fr0 f0w).fr0 f56) (hN.rd.fr0 f56) (f:=0) (t:=top) (jZ _) (by omega) htop).mono ?_;rintro v7 w7 ⟨n7,f7⟩;rw[hrn]at n7;refine⟨n7,f7,?_⟩;refine (joined w7 (n6.fr0 f7).by n7.by (by omega) (by omega)).mono ?_;rintro v8 w8 ⟨n8,f8⟩;rw[htx];exact⟨f8,n8.back (f0w.trans (f56.trans f7)).size,f0w.trans ((f56.trans f7).trans f8)⟩
   generalize htxt:rM wd (rN wd (rG cs) o (.leaf k top near a))=TXT at *;simp -implicitDefEqProofs only[go_sem,jU,gLa,gLz,gLs,r2,qQh,d1,d2,yk1,Int.le_refl,and_self,if_true,rkw,vP,jC];refine qQa pl162 ((says w (hcs.fr0 f0w) hcl.1 hk).mono ?_);rintro r w4 ⟨f4,h4⟩
   cases hfc:Wit.findC cs k with
   | none =>
    rw[hfc]at h4 says';obtain⟨row,rfl,hrs,hra⟩:=h4;obtain⟨W5,q5,k5,f5,s5⟩:=allocC w4 hrs hra;have f25:=f4.trans f5;have r5d:∀ t' o',rdO prog t' W5.drew w0.heap.size o'=_:=qQk (P:=prog) (f25.at kw id);have rw5d:∀ t' o',rdO prog t' W5.drew wb o'=_:=(hc.no (f0w.trans f25)).row;have hF:=fin W5 vv f25 (by rw[says'];exact hvv.fr0 (f0w.trans f25));have hs0:(rG cs k a).isSome=a.isSome:=by rw[says']
    rw[hs0]at hF;simp -implicitDefEqProofs only[go_sem,jU,gLa,gLz,gLs,jB,q5];refine qXk (fun j=>j == 2 || (j == 10 || j == 11)) [0,1,3,4,5,6,7,8,9,2,10,11,12] rfl (by kernel_rfl) (by kernel_rfl) ?_;simp -implicitDefEqProofs only[go_sem,jU,jF,gLa,gLz,gLs,r5d,rw5d,qQh];refine qQn pl132 (hF.mono ?_);rintro v6 w6 ⟨_,f6,hF⟩;refine⟨fun _=>kB f6,?_⟩;simp -implicitDefEqProofs only[go_sem,jU,gLa,gLz,gLs];refine qQn pl133 (hF.mono ?_);rintro v7 w7 ⟨_,f7,hF⟩;refine⟨fun _=>kB f7,?_⟩;simp -implicitDefEqProofs only[go_sem,jU,gLa,gLz,gLs];refine qQn pl131 (hF.mono ?_);rintro v8 w8 ⟨f8,hF⟩;refine⟨fun _=>kB f8,?_⟩;simp -implicitDefEqProofs only[go_sem,jF,gLa,gLz,gLs];exact hF
   | some c =>
    rw[hfc]at h4 says';obtain⟨cvv,rfl,hl32,hov,hby⟩:=h4;have hrs:(chRow c cvv).toArray.size=34:=by rw[List.size_toArray,chRow_len cvv hl32]
    have hra:(chRow c cvv).toArray.all one=true:=by
     rw[← Array.all_toList]
     have h1:(c.1.map u8).all one=true:=by
      rw[List.all_eq_true];intro x hx;obtain⟨y,_,rfl⟩:=List.mem_map.1 hx
      rfl
     simp only[chRow,List.all_append,List.all_cons,List.all_nil,hov,h1,Bool.and_true,Bool.true_and]
     rfl
    obtain⟨W5,q5,k5,f5,s5⟩:=allocC w4 hrs hra;have f25:=f4.trans f5;have r5d:∀ t' o',rdO prog t' W5.drew w0.heap.size o'=_:=qQk (P:=prog) (f25.at kw id);have rw5d:∀ t' o',rdO prog t' W5.drew wb o'=_:=(hc.no (f0w.trans f25)).row;have g1:rdO prog 4 W5 w4.heap.size 32=some (.bool c.2.1):=qXx agg4 k5 (by rw[zX,chRow,jD (by simp[hl32])];simp[hl32]);have g2:rdO prog 25 W5 w4.heap.size 33=some cvv:=qXx agg25 k5 (by rw[zX,chRow,jD (by simp[hl32])];simp[hl32]);have hm:=findC_mem hfc
    have hb:(rG cs k a).isSome=!c.2.1∧(rG cs k a).getD []=c.2.2:=by
     rw[says'];show Option.isSome (if c.2.1 then none else some c.2.2)=_∧Option.getD (if c.2.1 then none else some c.2.2) []=_
     cases hd:c.2.1 with
     | true=>exact⟨rfl,(hdel c hm hd).symm⟩
     | false=>exact⟨rfl,rfl⟩
    have hF:=fin W5 cvv f25 (by rw[hb.2];exact hby.fr0 f25);rw[hb.1]at hF;simp -implicitDefEqProofs only[go_sem,jU,gLa,gLz,gLs,jB,q5,g1,g2];refine qXk (fun j=>j == 2 || (j == 10 || j == 11)) [0,1,3,4,5,6,7,8,9,2,10,11,12] rfl (by kernel_rfl) (by kernel_rfl) ?_;simp -implicitDefEqProofs only[go_sem,jU,jF,gLa,gLz,gLs,r5d,rw5d,qQh];refine qQn pl132 (hF.mono ?_);rintro v6 w6 ⟨_,f6,hF⟩;refine⟨fun _=>kB f6,?_⟩;simp -implicitDefEqProofs only[go_sem,jU,gLa,gLz,gLs];refine qQn pl133 (hF.mono ?_);rintro v7 w7 ⟨_,f7,hF⟩;refine⟨fun _=>kB f7,?_⟩;simp -implicitDefEqProofs only[go_sem,jU,gLa,gLz,gLs];refine qQn pl131 (hF.mono ?_);rintro v8 w8 ⟨f8,hF⟩;refine⟨fun _=>kB f8,?_⟩;simp -implicitDefEqProofs only[go_sem,jF,gLa,gLz,gLs];exact hF
end R
namespace R
theorem renewed (u ua:World){wb ab:Nat}{wd:Int}{xs:List Wit.Tx}(hxl:xs.length≤2 ^ 40){o:Option vS}(ho:OkO o){cv:Value}{cs:List Wit.Ch}(hcl:ChL cs)(hdel:∀ c ∈ cs, c.2.1=true→c.2.2=[])(hsh:Wit.Short (rG cs)) :
  ∀ (t:vS) (w0:World) (i:Nat),Tabs w0→WtY u w0 wb wd xs→WtY ua w0 ab wd (flO wd o)→t.Ok→vC wd xs i t→t.keys.length≤64→CsR w0 cv cs→rnQ wd cs o wb i ab cv w0 t
 | .leaf _ _ _ _,w0,_,ht,hY,hA,hok,hx,hkl,hcs=>renewed1 u ua w0 ht hY hA ho hok hx hxl hkl hcs hcl hdel hsh (fun _ _ _ _ _ _ h=>by cases h)
 | .fork ks _ _ _ l r, w0, _, ht, hY, hA, hok, hx, hkl, hcs=>renewed1 u ua w0 ht hY hA ho hok hx hxl hkl hcs hcl hdel hsh (fun _ _ _ _ _ _ h li ri hL hR w f=>by
   cases h;obtain⟨_,_,_,_,_,_,_,_,h9,h10,_,_,h13,h14⟩:=id hok;have hkl:ks.length≤64:=hkl
   exact⟨renewed u ua hxl ho hcl hdel hsh l w li (ht.no f) (hY.fr0 f) (hA.fr0 f) h13 hL (by rw[h9,lTk];omega) (hcs.fr0 f),renewed u ua hxl ho hcl hdel hsh r w ri (ht.no f) (hY.fr0 f) (hA.fr0 f) h14 hR (by rw[h10,lDr];omega) (hcs.fr0 f)⟩)
theorem renewR (w0:World)(ht:Tabs w0)(wd:Int){root:Bs}(hroot:root.length=32){kv rv av cv:Value}(hk:RdD w0 kv ks)(hr:By w0 rv raw)(ha:By w0 av rawAt)(hc:By w0 cv cs)(hrl:raw.length≤2 ^ 50)(hal:rawAt.length≤2 ^ 50)(hcl:cs.length≤2 ^ 50) :
  Fn prog 56 #[.int .i64 wd,dg root,kv,rv,av,cv] w0 (BsQ w0 (rB wd root ks raw rawAt cs)):=by
 refine go56 (by simp) ?_;obtain⟨W,hW,f1,k1,s1⟩:=qQr w0 (bl root) 23;have rr:∀ w,No W w→rdO prog 23 w w0.heap.size 0=some (dg root):=fun w f=>rd_d agg23 sz23 (f.at k1 id) hroot
 by_cases hw:wd<1∨32<wd
 ·have hvp:rB wd root ks raw rawAt cs=.error 1:=by unfold rB Wit.sortW;rw[if_pos hw]
  rw[hvp]
  by_cases h1:wd<1
  ·have d1:decide (wd<1)=true:=decide_eq_true h1
   simp -implicitDefEqProofs only[go_sem,jU,vQ,gLa,gLz,gLs,Tryz.f56,jB,hW,d1,tf_beq];exact⟨f1,rfl⟩
  ·have d1:decide (wd<1)=false:=decide_eq_false h1
   have d2:=dTo (wd > 32);simp -implicitDefEqProofs only[go_sem,jU,vQ,gLa,gLz,gLs,Tryz.f56,jB,hW,d1,d2,bSe];exact⟨f1,rfl⟩
 have hsw:Wit.sortW wd ks=Wit.sortE ks:=if_neg hw;have d1:=dFo (wd<1);have d2:=dFo (wd > 32)
 obtain⟨Wn,hWn⟩:∃ n:Nat,wd=n:=⟨wd.toNat,by omega⟩
 simp -implicitDefEqProofs only[go_sem,jU,vQ,gLa,gLz,gLs,Tryz.f56,jB,hW,d1,d2,bSe];refine qQa pl72 ((sorted W (hk.fr0 f1)).mono ?_);rintro r w2 ⟨f2,h2⟩;have f02:=f1.trans f2;unfold BsQ rB;rw[hsw]
 cases hs:Wit.sortE ks with
 | error e =>
  rw[hs]at h2;subst h2;have he:=sortW_err (wd:=wd) (hsw.trans hs);simp -implicitDefEqProofs only[go_sem,jU,gLa,gLz,gLs,he];exact⟨f02,trivial⟩
 | ok l =>
 rw[hs]at h2;obtain⟨lv,rfl,n2⟩:=h2;obtain⟨asc,l32,hlen,hl64,hperm⟩:=Wit.sortE_ok hk.1 hs;simp -implicitDefEqProofs only[go_sem,jU,gLa,gLz,gLs,bNe];refine qQa pl84 ((batch w2 (hc.fr0 f02) hcl).mono ?_);rintro r w3 ⟨f3,hm⟩;have f03:=f02.trans f3
 cases hp:Bat.parseP cs with
 | error e =>
  rw[hp]at hm;subst hm;have he0:(e != 0)=true:=by rw[bne_iff_ne];exact Wit.parseP_err hp
  simp -implicitDefEqProofs only[go_sem,jU,gLa,gLz,gLs,he0];exact⟨f03,trivial⟩
 | ok cs' =>
 rw[hp]at hm;obtain⟨csv,okv,l',rfl,hL,hpm,hK⟩:=hm;obtain⟨h64,hok,hnd⟩:=Bat.parseP_ok hp;have h32:=Wit.ok_keys hok;have hasc:=Wit.srt_asc h32 hnd;have hsl:(Wit.srt (cs'.map Bat.Ch.key)).length≤64:=by rw[Wit.srt_len];simpa using h64
 obtain⟨ks',hks⟩:∃ ks',ks'=Wit.srt (cs'.map Bat.Ch.key):=⟨_,rfl⟩
 rw[← hks]at hasc hsl hK;simp only[← hks];have rr3:=rr w3 (f2.trans f3);simp -implicitDefEqProofs only[go_sem,jU,gLa,gLz,gLs,bNe,rr3];refine qQa pl73 ((holds w3 (ht.no f03) hWn (by omega) hroot (n2.rd.fr0 f3) (hr.fr0 f03) asc hl64 hrl).mono ?_);rintro r w4 ⟨f4,h4⟩;have f04:=f03.trans f4
 cases hu:Wit.underP wd root l raw with
 | error e =>
  rw[hu]at h4;subst h4;have he0:(e != 0)=true:=by rw[bne_iff_ne];exact Wit.underP_err hu
  simp -implicitDefEqProofs only[go_sem,jU,gLa,gLz,gLs,he0];exact⟨f04,trivial⟩
 | ok o =>
 have key1:∃ wb,r=.tuple #[pt wb 0,.int .i64 0]∧∀ t,o=some t→WtX w3 w4 wb wd t:=by
  rw[hu]at h4
  cases o with
  | none=>obtain⟨wb,h,_⟩:=h4;exact⟨wb,h,fun t h=>by cases h⟩
  | some t=>obtain⟨wb,h,hX⟩:=h4;exact⟨wb,h,fun t' h'=>by cases h';exact hX⟩
 clear h4;obtain⟨wb1,rfl,X1⟩:=key1;have rr4:=rr w4 ((f2.trans f3).trans f4);simp -implicitDefEqProofs only[go_sem,jU,gLa,gLz,gLs,bNe,rr4];refine qQa pl73 ((holds w4 (ht.no f04) hWn (by omega) hroot (hK.fr0 f4) (ha.fr0 f04) hasc hsl hal).mono ?_);rintro r w5 ⟨f5,h5⟩;have f05:=f04.trans f5
 cases hv:Wit.underP wd root ks' rawAt with
 | error e =>
  rw[hv]at h5;subst h5;have he0:(e != 0)=true:=by rw[bne_iff_ne];exact Wit.underP_err hv
  simp -implicitDefEqProofs only[go_sem,jU,gLa,gLz,gLs,he0];exact⟨f05,trivial⟩
 | ok o2 =>
 have key2:∃ wb,r=.tuple #[pt wb 0,.int .i64 0]∧∃ ua,WtY ua w5 wb wd (flO wd o2):=by
  rw[hv]at h5
  cases o2 with
  | none=>obtain⟨wb,h,hZ⟩:=h5;obtain⟨ua,_,hY⟩:=hZ.y;exact⟨wb,h,ua,hY⟩
  | some t=>obtain⟨wb,h,hX⟩:=h5;obtain⟨ua,_,hY⟩:=hX.y;exact⟨wb,h,ua,hY⟩
 clear h5;obtain⟨wb2,rfl,ua,hA⟩:=key2;obtain⟨la,lc,rfl,hlc⟩:=n2.rd.slice
 cases o with
 | none =>
  have hl0:l=[]:=Wit.underP_none hu;have d3:(((l.length:Nat):Int) == 0)=true:=by subst hl0;rfl
  simp -implicitDefEqProofs only[go_sem,jU,gLa,gLz,gLs,bNe,d3];exact⟨f05,_,rfl,NwB.nil _ _⟩
 | some t =>
 obtain⟨tok,tkeys,ttop,_⟩:=kC asc l32 (rT hu).1;have hpos:=tok.keys_pos;rw[tkeys]at hpos;have d3:(((l.length:Nat):Int) == 0)=false:=by rw[bFn];omega
 obtain⟨u,_,hY⟩:=(X1 t rfl).y;have hY5:=hY.fr0 f5;have hsz:t.size≤2 ^ 40:=by have:=Wit.size_keys tok;rw[tkeys]at this;omega
 have hlen':=Wit.flatT_len wd t 0;have hsp:=t.size_pos;have hx:vC wd (Wit.flatT wd 0 t) (t.size - 1) t:=by have:=Wit.flat_at' wd t [];simpa using this
 obtain⟨ev,rv',tv,gv,q,txs,gvs,h2',h3',h4'⟩:=id hY5;obtain⟨ta,tc,rfl,_⟩:=h3'.txr.rd.slice;have r1:=h3'.cell.row;have htl:txs.length=t.size:=h4'.1.trans hlen';have c1:IntKind.i64.wrap (((txs.length:Nat):Int) - 1)=((t.size - 1:Nat):Int):=by rw[htl];exact qXg (b:=1) (by omega) (by omega)
 have hll:=hpm.length_eq;have hok':∀ c ∈ l',c.Ok:=fun c hc=>hok c (hpm.mem_iff.1 hc)
 have hCs:ChL (l'.map rV):=⟨by rw[List.length_map];omega,fun c hc=>by
  obtain⟨x,hx,rfl⟩:=List.mem_map.1 hc;have:=(hok' x hx).2.1;show x.val.length≤_
  omega⟩
 have hdel:∀ c ∈ l'.map rV,c.2.1=true→c.2.2=[]:=fun c hc h=>by
  obtain⟨x,hx,rfl⟩:=List.mem_map.1 hc;exact (hok' x hx).2.2 h
 have ho2:OkO o2:=fun t2 h=>by
  subst h;obtain⟨ok2,tk2,top2,_⟩:=kC hasc hK.1 (rT hv).1;exact⟨ok2,top2,by have:=Wit.size_keys ok2;rw[tk2]at this;omega⟩
 have hsays:rG (l'.map rV)=rG (cs'.map rV):=Wit.saysC_perm (hpm.map _) (by rw[Wit.chOf_keys];exact (hpm.map _).nodup_iff.2 hnd);simp -implicitDefEqProofs only[go_sem,jU,gLa,gLz,gLs,bNe,d3,r1,qQh,c1];refine qQa pl98 ((renewed u ua (by omega) ho2 hCs hdel (Wit.says_short hok') t w5 (t.size - 1) (ht.no f05) hY5 hA tok hx (by rw[tkeys];exact hl64) (hL.fr0 (f4.trans f5)).csR).mono ?_);rintro v w6 ⟨n6,f6⟩;rw[hsays]at n6;simp -implicitDefEqProofs only[go_sem,jU];exact⟨f05.trans f6,v,rfl,n6.back f05.size⟩
end R
theorem ts3 (w:World){rv sv tv':Value}{raw s t:Bs}(h:By w rv raw)(g:By w sv s)(k:By w tv' t){A:Nat→Prop}(h1:raw≠[]→∀ b,qQb rv=some b→¬ A b)(g1:s≠[]→∀ b,qQb sv=some b→¬ A b)(k1:t≠[]→∀ b,qQb tv'=some b→¬ A b)(h2:¬ A w.heap.size):TsA (w.alloc (.cells #[rv,sv,tv'] 25)) (.slice (some ⟨w.heap.size,0,Option.none⟩) 3 3) [raw,s,t] A:=by
 have f:No w (w.alloc (.cells #[rv,sv,tv'] 25)):=(Fr.refl _ _).alloc _;refine⟨[rv,sv,tv'],rfl,⟨rfl,_,_,rfl,xP _,fun _=>⟨_,_,rfl,fun i hi=>?_⟩⟩,fun b hb e=>?_,fun i a b=>?_⟩
 ·rw[qXa (qQc _ _),Nat.zero_add,zX]
 ·simp only[qQb,oSi]at hb;subst hb;exact h2 e
 ·have:i=0∨i=1∨i=2:=by simp at a;omega
  rcases this with rfl | rfl | rfl
  ·exact⟨h.fr0 f,h1⟩
  ·exact⟨g.fr0 f,g1⟩
  ·exact⟨k.fr0 f,k1⟩
theorem three_len {a b c a' b' c':Bs}(h:a.length=a'.length)(g:b.length=b'.length)(k:c.length=c'.length):∀ i,(([a,b,c]:List Bs).getD i []).length=(([a',b',c']:List Bs).getD i []).length:=fun i=>by
 match i with
 | 0=>exact h
 | 1=>exact g
 | 2=>exact k
 | i+3=>simp
theorem three_le (h:a.length≤n)(g:b.length≤n)(k:c.length≤n):∀ t ∈ ([a,b,c]:List Bs),t.length≤n:=fun t ht=>by
 simp only[List.mem_cons,List.not_mem_nil,or_false]at ht
 rcases ht with rfl | rfl | rfl <;> assumption
theorem renewP_len {root:Bs}{raw rawAt cs bs:Bs}(hk:All32 ks)(h:rB wd root ks raw rawAt cs=.ok bs):bs.length≤2 ^ 30:=by
 unfold rB at h;split at h
 ·cases h
 ·rename_i l hs
  obtain⟨hse,_,_⟩:=Wit.sortW_ok hs;obtain⟨asc,l32,_,hl64,_⟩:=Wit.sortE_ok hk hse;split at h
  ·cases h
  ·rename_i cs' hp
   split at h
   ·cases h
   ·rename_i o hu
    split at h
    ·cases h
    ·split at h
     ·cases h;exact jZ _
     ·cases h
      obtain⟨hok,hkeys,_⟩:=kC asc l32 (rT hu).1;refine Nat.le_trans (txt_len wd (Wit.rnw_ok (Wit.says_short (Bat.parseP_ok hp).2.1) hok)) ?_;rw[rL,hkeys];omega
theorem renewed (w0 w1:World)(ht:Tabs w1)(wd:Int){root:Bs}(hroot:root.length=32){pb:Nat}{kq:Nat × Nat × Nat}{iv av:Value}{qs:List (Nat × Nat × Nat)}(h:Pl w0 w1 pb kq iv av qs ks [raw, rawAt, cs]){kv rv sv cv:Value}(hk:RdD w1 kv ks)(hr:By w1 rv raw)(ha:By w1 sv rawAt)(hc:By w1 cv cs)(hl:ks.length≤2 ^ 42)(hrl:raw.length≤2 ^ 47)(hal:rawAt.length≤2 ^ 47)(hcl:cs.length≤2 ^ 47) :
  Fn prog 28 #[.int .i64 wd,dg root,pt pb 0,kv,rv,sv,cv] w1 fun r w'=>r=.bool true∧No w1 w':=by
 refine go28 (by simp) ?_;obtain⟨xa,xc,rfl,hxc⟩:=hr.slice;obtain⟨ya,yc,rfl,hyc⟩:=ha.slice;obtain⟨za,zc,rfl,hzc⟩:=hc.slice;obtain⟨W,hW,f1,k1,s1⟩:=qQr w1 (bl root) 23;have h2:=h.fr0 f1;have fd:No W W.drew:=(Fr.refl _ _).drew;have rc:=qQk (P:=prog) h2.cell;have rcd:∀ t' o,rdO prog t' W.drew pb o=_:=rc;have r1:=rd_d agg23 sz23 k1 hroot;have r1d:rdO prog 23 W.drew w1.heap.size 0=_:=r1;obtain⟨q,b1,o1,c1',b2,o2,c2',hq,rfl,rfl,hN,hr1,_⟩:=h2.at (i:=0) (by simp);obtain⟨q2,b1',o1',c1'',b2',o2',c2'',hq2,e1,e2,hN2,hr2,_⟩:=h2.at (i:=1) (by simp);cases e1;cases e2;obtain⟨q3,b1',o1',c1'',b2',o2',c2'',hq3,e1,e2,hN3,hr3,_⟩:=h2.at (i:=2) (by simp);cases e1;cases e2;have rad:=hr1 W.drew fd;have rbd:=hr2 W.drew fd;have rgd:=hr3 W.drew fd;have hg:([raw,rawAt,cs]:List Bs).getD 0 []=raw:=rfl;have hg2:([raw,rawAt,cs]:List Bs).getD 1 []=rawAt:=rfl;have hg3:([raw,rawAt,cs]:List Bs).getD 2 []=cs:=rfl;rw[hg]at rad hN;rw[hg2]at rbd hN2;rw[hg3]at rgd hN3;rw[Nat.add_zero]at rad;have y1:(0:Int)≤0∧(0:Int)<((([raw,rawAt,cs]:List Bs).length:Nat):Int):=by simp
 have y2:(0:Int)≤1∧(1:Int)<((([raw,rawAt,cs]:List Bs).length:Nat):Int):=by simp
 have y3:(0:Int)≤2∧(2:Int)<((([raw,rawAt,cs]:List Bs).length:Nat):Int):=by simp
 have t2:(2:Int).toNat=2:=rfl;simp -implicitDefEqProofs only[go_sem,jU,jF,vQ,gLa,gLz,gLs,Tryz.f28,jB,hW,rcd,qQh,r1d,y1,y2,y3,and_self,if_true,vP,Int.toNat_one,t2,jC,Nat.mul_one,rad,rbd,rgd];refine qQa pl55 ((V.renewW W.drew (ht.no f1.drew) wd hroot (h2.keys.fr0 fd) (hN.by.pre.fr0 fd) (hN2.by.pre.fr0 fd) (hN3.by.pre.fr0 fd) (by omega)).mono ?_);intro r w3 h3;obtain⟨f3,v3,e3,rfl,he3,a3⟩:=h3.both;have f13:No W w3:=fd.trans f3;have f03:=f1.trans f13;simp -implicitDefEqProofs only[go_sem,jU,gLa,gLz,gLs];refine qQa pl29 ((keysOf w3 (hk.fr0 f03) hl).mono ?_);rintro _ w4 ⟨f4,kq2,rfl,n4⟩;have f04:=f03.trans f4;simp -implicitDefEqProofs only[go_sem,jU,gLa,gLz,gLs];refine qXk (fun j=>j == 4 || (j == 6 || (j == 8 || j == 9))) [0,1,2,3,4,5,6,7,8,9,10,11,12,13,14] rfl (by kernel_rfl) (by kernel_rfl) ?_;have r4:=rd_d agg23 sz23 ((f13.trans f4).at k1 id) hroot;have r4d:rdO prog 23 w4.drew w1.heap.size 0=_:=r4;simp -implicitDefEqProofs only[go_sem,jU,jF,gLa,gLz,gLs,r4d];refine qQn pl22 ((V.copied w4.drew (hr.fr0 f04.drew) hrl).mono ?_);rintro v5 w5 ⟨n5,f5⟩;refine⟨fun _=>kB f5,?_⟩;have f05:No w1 w5:=f04.drew.trans f5;simp -implicitDefEqProofs only[go_sem,jU,jF,gLa,gLz,gLs];refine qQn pl22 ((V.copied w5 (ha.fr0 f05) hal).mono ?_);rintro v6 w6 ⟨n6,f6⟩;refine⟨fun _=>kB f6,?_⟩;have f06:=f05.trans f6;simp -implicitDefEqProofs only[go_sem,jU,jF,gLa,gLz,gLs];refine qQn pl22 ((V.copied w6 (hc.fr0 f06) hcl).mono ?_);rintro v7 w7 ⟨n7,f7⟩;refine⟨fun _=>kB f7,?_⟩;have f07:=f06.trans f7;have f47:No w4 w7:=(((Fr.refl _ _).drew.trans f5).trans f6).trans f7;simp -implicitDefEqProofs only[go_sem,jU,gLa,gLz,gLs];refine qQn pl56 ((R.renewR w7 (ht.no f07) wd hroot (n4.rd.pre.fr0 f47) ((n5.by.fr0 f6).fr0 f7) (n6.by.fr0 f7) n7.by (by omega) (by omega) (by omega)).mono ?_)
 intro r w8 h8;obtain⟨f8,v8,e8,rfl,he8,a8⟩:=h8.both;refine⟨fun _=>kB f8,?_⟩;have f08:=f07.trans f8;have hee:(e3 == e8)=true:=by rw[he3,he8];simp
 have hlen:(listOf (rB wd root ks raw rawAt cs)).length≤2 ^ 50:=by
  cases hv:rB wd root ks raw rawAt cs with
  | error e=>show ([]:List Byte).length≤2 ^ 50;simp
  | ok bs=>have:=renewP_len hk.1 hv;show bs.length≤2 ^ 50;omega
 generalize (listOf (rB wd root ks raw rawAt cs))=an at *;clear he3 he8 h3 h8;have f38:No w3 w8:=(f4.trans f47).trans f8;simp -implicitDefEqProofs only[go_sem,jU,jF,gLa,gLz,gLs,hee,bSe];refine qQa pl26 ((same w8 (a3.fr0 f38) a8 hlen).mono ?_);rintro _ w9 ⟨rfl,f9⟩;have f09:=f08.trans f9;have d7:decide (an=an)=true:=by simp
 simp -implicitDefEqProofs only[go_sem,jU,gLa,gLz,gLs];refine qQj (w:=w9) (v:=.slice (some ⟨w9.heap.size,0,.none⟩) 3 3) (w':=w9.alloc (.cells #[.slice xa raw.length xc,.slice ya rawAt.length yc,.slice za cs.length zc] 25)) rfl ?_;have hts:=ts3 w9 (hr.fr0 f09) (ha.fr0 f09) (hc.fr0 f09) (A:=fun _=>False) (fun _ _ _ h=>h) (fun _ _ _ h=>h) (fun _ _ _ h=>h) (fun h=>h);have f10:No w9 (w9.alloc (.cells #[.slice xa raw.length xc,.slice ya rawAt.length yc,.slice za cs.length zc] 25)):=(Fr.refl _ _).alloc _;generalize w9.alloc (.cells #[.slice xa raw.length xc,.slice ya rawAt.length yc,.slice za cs.length zc] 25)=w10 at *;generalize (Value.slice (some ⟨w9.heap.size,0,.none⟩) 3 3)=tsv at *;have f010:=f09.trans f10;simp -implicitDefEqProofs only[go_sem,jU,gLa,gLz,gLs];refine qQa pl37 ((placesLeft w0 w10 (h.fr0 f010) (hk.fr0 f010) hts (by omega) (three_le (by omega) (by omega) (by omega)) (by simp)).mono ?_);rintro _ w11 ⟨rfl,f11⟩;simp -implicitDefEqProofs only[go_sem,jU,decide_true];exact f010.trans f11
theorem lawRenews (w:World)(ht:Tabs w)(wd:Int){root:Bs}(hroot:root.length=32){kv rv sv cv:Value}(hk:RdD w kv ks)(hr:By w rv raw)(ha:By w sv rawAt)(hc:By w cv cs)(hl:ks.length≤2 ^ 42)(hrl:raw.length≤2 ^ 47)(hal:rawAt.length≤2 ^ 47)(hcl:cs.length≤2 ^ 47) :
  Fn prog 9 #[.int .i64 wd,dg root,kv,rv,sv,cv] w fun v w'=>v=.bool true∧No w w':=by
 refine go9 (by simp) ?_;obtain⟨xa,xc,rfl,hxc⟩:=hr.slice;obtain⟨ya,yc,rfl,hyc⟩:=ha.slice;obtain⟨za,zc,rfl,hzc⟩:=hc.slice;have m50:∀ {a b c:Bs},a.length≤2 ^ 47→b.length≤2 ^ 47→c.length≤2 ^ 47→∀ t ∈ ([a,b,c]:List Bs),t.length≤2 ^ 50:=fun h g k t ht=>by have:=three_le h g k t ht;omega
 obtain⟨W,hW,f1,k1,s1⟩:=qQr w (bl root) 23;simp -implicitDefEqProofs only[go_sem,jU,vQ,Tryz.f9,jB,hW];refine qQj (w:=W) (v:=.slice (some ⟨W.heap.size,0,.none⟩) 3 3) (w':=W.alloc (.cells #[.slice xa raw.length xc,.slice ya rawAt.length yc,.slice za cs.length zc] 25)) rfl ?_;have ht2:=ts3 W (hr.fr0 f1) (ha.fr0 f1) (hc.fr0 f1) (A:=fun _=>False) (fun _ _ _ h=>h) (fun _ _ _ h=>h) (fun _ _ _ h=>h) (fun h=>h);have f2:No W (W.alloc (.cells #[.slice xa raw.length xc,.slice ya rawAt.length yc,.slice za cs.length zc] 25)):=(Fr.refl _ _).alloc _;generalize W.alloc (.cells #[.slice xa raw.length xc,.slice ya rawAt.length yc,.slice za cs.length zc] 25)=w2 at *;generalize (Value.slice (some ⟨W.heap.size,0,.none⟩) 3 3)=tsv at *;have f02:=f1.trans f2;simp -implicitDefEqProofs only[go_sem,jU];refine qQa pl10 ((lawLaid w2 (hk.fr0 f02) ht2 hl (three_le hrl hal hcl) (by simp)).mono ?_);rintro _ w3 ⟨f3,pb,kq,iv,av,qs,rfl,P3⟩;have f03:=f02.trans f3;have hWge:∀ b,Pl.W kq qs b→w2.heap.size≤b∧b<w3.heap.size:=fun b hb=>P3.ge hb;have z02:=f02.size;have hWold:∀ b,b<w.heap.size→¬ Pl.W kq qs b:=fun b hb h=>by have:=(hWge b h).1;omega
 simp -implicitDefEqProofs only[go_sem];refine qQa pl11 ((known w3 (ht.no f03)).mono ?_);rintro _ w4 ⟨rfl,f4⟩;have f04:=f03.trans f4;have k4:=((f2.trans f3).trans f4).at k1 id;have r4:=rd_d agg23 sz23 k4 hroot;simp -implicitDefEqProofs only[go_sem,jU,gLa,gLz,gLs,r4,bSe];refine qQa pl28 ((renewed w2 w4 (ht.no f04) wd hroot (P3.fr0 f4) (hk.fr0 f04) (hr.fr0 f04) (ha.fr0 f04) (hc.fr0 f04) hl hrl hal hcl).mono ?_);rintro _ w5 ⟨rfl,f5⟩;have f05:=f04.trans f5;have n2:((2:Int)=0)=False:=by simp
 have a2:IntKind.i64.wrap (((raw.length:Nat):Int).tdiv 2)=((raw.length / 2:Nat):Int):=by rw[show ((raw.length:Nat):Int).tdiv 2=((raw.length / 2:Nat):Int) from rfl];exact i64n
 simp -implicitDefEqProofs only[go_sem,jU,gLa,gLz,gLs,n2,a2,bSe];refine qQa pl13 ((other w5 (hr.fr0 f05) hrl (raw.length / 2) (by omega)).mono ?_);rintro v6 w6 ⟨n6,f6⟩;have f06:=f05.trans f6;have ho:=oth_len raw (raw.length / 2);generalize oth raw (raw.length / 2)=o at *;obtain⟨oa,oc,rfl⟩:=n6.slice;have s35:w3.heap.size≤w5.heap.size:=(f4.trans f5).size;have s56:=f6.size;have oldk:ks≠[]→∀ b,qQb kv=some b→¬ Pl.W kq qs b:=fun hn b hb h=>hWold b (hk.blk hn hb) h;have oldr:raw≠[]→∀ b,qQb (.slice xa raw.length xc)=some b→¬ Pl.W kq qs b:=fun hn b hb h=>hWold b (hr.blk (List.length_pos_iff.2 hn) hb) h;have olda:rawAt≠[]→∀ b,qQb (.slice ya rawAt.length yc)=some b→¬ Pl.W kq qs b:=fun hn b hb h=>hWold b (ha.blk (List.length_pos_iff.2 hn) hb) h;have oldc:cs≠[]→∀ b,qQb (.slice za cs.length zc)=some b→¬ Pl.W kq qs b:=fun hn b hb h=>hWold b (hc.blk (List.length_pos_iff.2 hn) hb) h;simp -implicitDefEqProofs only[go_sem,jU];refine qQj (w:=w6) (v:=.slice (some ⟨w6.heap.size,0,.none⟩) 3 3) (w':=w6.alloc (.cells #[.slice oa o.length oc,.slice ya rawAt.length yc,.slice za cs.length zc] 25)) rfl ?_;have ht7:=ts3 w6 n6.by (ha.fr0 f06) (hc.fr0 f06) (A:=Pl.W kq qs) (fun _ b hb h=>by have:=(n6.lt hb).1;have:=(hWge b h).2;omega) olda oldc (fun h=>by have:=(hWge _ h).2;omega)
 have f7:No w6 (w6.alloc (.cells #[.slice oa o.length oc,.slice ya rawAt.length yc,.slice za cs.length zc] 25)):=(Fr.refl _ _).alloc _;generalize w6.alloc (.cells #[.slice oa o.length oc,.slice ya rawAt.length yc,.slice za cs.length zc] 25)=w7 at *;generalize (Value.slice (some ⟨w6.heap.size,0,.none⟩) 3 3)=tsv7 at *;have f07:=f06.trans f7;have f37:=((f4.trans f5).trans f6).trans f7;simp -implicitDefEqProofs only[go_sem,jU];refine qQa pl14 ((over w2 w7 (P3.fr0 f37) (hk.fr0 f07) rfl oldk ht7 rfl (three_len ho rfl rfl) (by omega) (m50 hrl hal hcl) (by simp)).mono ?_);rintro _ w8 ⟨rfl,P8,f8⟩;have f08:No w w8:=f07.trans' f8 fun b hb h=>hWold b hb h;have y8:By w8 (.slice oa o.length oc) o:=(n6.by.fr0 f7).fr f8 fun b hb _ h=>by have:=(n6.lt hb).1;have:=(hWge b h).2;omega
 have k7:=(((f5.trans f6).trans f7)).at k4 id;have hwz:w.heap.size<w2.heap.size:=by have:=f2.size;omega
 have k8:=f8.at k7 fun h=>by have:=(hWge _ h).1;omega
 have r8:=rd_d agg23 sz23 k8 hroot;have s78:=f8.size;simp -implicitDefEqProofs only[go_sem,jU,r8];refine qQa pl28 ((renewed w2 w8 (ht.no f08) wd hroot P8 (hk.fr0 f08) y8 (ha.fr0 f08) (hc.fr0 f08) hl (by omega) hal hcl).mono ?_);rintro _ w9 ⟨rfl,f9⟩;have f09:=f08.trans f9;simp -implicitDefEqProofs only[go_sem,jU,gLa,gLz];refine qQa pl13 ((other w9 (hc.fr0 f09) hcl cs.length (by omega)).mono ?_);rintro v10 w10 ⟨n10,f10⟩;have f010:=f09.trans f10;have ho2:=oth_len cs cs.length;generalize oth cs cs.length=o2 at *;obtain⟨pa,pc,rfl⟩:=n10.slice;have s38:w3.heap.size≤w9.heap.size:=by have:=f37.size;have:=f9.size;omega
 have s910:=f10.size;simp -implicitDefEqProofs only[go_sem,jU];refine qQj (w:=w10) (v:=.slice (some ⟨w10.heap.size,0,.none⟩) 3 3) (w':=w10.alloc (.cells #[.slice xa raw.length xc,.slice ya rawAt.length yc,.slice pa o2.length pc] 25)) rfl ?_;have ht11:=ts3 w10 (hr.fr0 f010) (ha.fr0 f010) n10.by (A:=Pl.W kq qs) oldr olda (fun _ b hb h=>by have:=(n10.lt hb).1;have:=(hWge b h).2;omega) (fun h=>by have:=(hWge _ h).2;omega)
 have f11:No w10 (w10.alloc (.cells #[.slice xa raw.length xc,.slice ya rawAt.length yc,.slice pa o2.length pc] 25)):=(Fr.refl _ _).alloc _;generalize w10.alloc (.cells #[.slice xa raw.length xc,.slice ya rawAt.length yc,.slice pa o2.length pc] 25)=w11 at *;generalize (Value.slice (some ⟨w10.heap.size,0,.none⟩) 3 3)=tsv11 at *;have f011:=f010.trans f11;simp -implicitDefEqProofs only[go_sem,jU];refine qQa pl14 ((over w2 w11 (P8.fr0 ((f9.trans f10).trans f11)) (hk.fr0 f011) rfl oldk ht11 rfl (three_len ho.symm rfl ho2) (by omega) (m50 (show o.length≤2 ^ 47 by omega) hal hcl) (by simp)).mono ?_);rintro _ w12 ⟨rfl,P12,f12⟩;have f012:No w w12:=f011.trans' f12 fun b hb h=>hWold b hb h;have y12:By w12 (.slice pa o2.length pc) o2:=(n10.by.fr0 f11).fr f12 fun b hb _ h=>by have:=(n10.lt hb).1;have:=(hWge b h).2;omega
 have k12:=f12.at (((f9.trans f10).trans f11).at k8 id) fun h=>by have:=(hWge _ h).1;omega
 have r12:=rd_d agg23 sz23 k12 hroot;have s11:=f11.size;have s12:=f12.size;simp -implicitDefEqProofs only[go_sem,jU,r12];refine qQa pl28 ((renewed w2 w12 (ht.no f012) wd hroot P12 (hk.fr0 f012) (hr.fr0 f012) (ha.fr0 f012) y12 hl hrl hal (by omega)).mono ?_);rintro _ w13 ⟨rfl,f13⟩;have f013:=f012.trans f13;have s13:=f13.size;simp -implicitDefEqProofs only[go_sem,jU];refine qQj (w:=w13) (v:=.slice (some ⟨w13.heap.size,0,.none⟩) 3 3) (w':=w13.alloc (.cells #[.slice xa raw.length xc,.slice ya rawAt.length yc,.slice za cs.length zc] 25)) rfl ?_;have ht14:=ts3 w13 (hr.fr0 f013) (ha.fr0 f013) (hc.fr0 f013) (A:=Pl.W kq qs) oldr olda oldc (fun h=>by have:=(hWge _ h).2;omega);have f14:No w13 (w13.alloc (.cells #[.slice xa raw.length xc,.slice ya rawAt.length yc,.slice za cs.length zc] 25)):=(Fr.refl _ _).alloc _;generalize w13.alloc (.cells #[.slice xa raw.length xc,.slice ya rawAt.length yc,.slice za cs.length zc] 25)=w14 at *;generalize (Value.slice (some ⟨w13.heap.size,0,.none⟩) 3 3)=tsv14 at *;have f014:=f013.trans f14;simp -implicitDefEqProofs only[go_sem,jU];refine qQa pl14 ((over w2 w14 (P12.fr0 (f13.trans f14)) (hk.fr0 f014) rfl oldk ht14 rfl (three_len rfl rfl ho2.symm) (by omega) (m50 hrl hal (show o2.length≤2 ^ 47 by omega)) (by simp)).mono ?_);rintro _ w15 ⟨rfl,P15,f15⟩;have f015:No w w15:=f014.trans' f15 fun b hb h=>hWold b hb h;have k15:=f15.at ((f13.trans f14).at k12 id) fun h=>by have:=(hWge _ h).1;omega
 have r15:=rd_d agg23 sz23 k15 hroot;simp -implicitDefEqProofs only[go_sem,jU,r15];refine qQa pl28 ((renewed w2 w15 (ht.no f015) wd hroot P15 (hk.fr0 f015) (hr.fr0 f015) (ha.fr0 f015) (hc.fr0 f015) hl hrl hal hcl).mono ?_);rintro _ w16 ⟨rfl,f16⟩;simp -implicitDefEqProofs only[go_sem];exact f015.trans f16
end Go.V
