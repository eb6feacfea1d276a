/- Helpers. -/
import Derived.Test.YtmenaeggoakppaaGreatDoorR38
import Derived.Test.YtmenaeggoakppaaGreatDoorR33
set_option linter.all false
set_option maxRecDepth 100000
set_option maxHeartbeats 8000000
open Int renaming toNat_zero→vP,toNat_one→kY
open List renaming replicate→zF,getElem_append_left→jK,drop_drop→vD,getElem?_drop→rX,length_map→zG,replicate_zero→rZ
open Nat renaming reduceEqDiff→jU,mul_one→jG,add_zero→jE,zero_mul→jC,lt_irrefl→jH,sub_self→jQ,le_refl→xP
open Go.Value renaming cells→jB
namespace Go.V
open Go.Proofs.Tryz Go.V.Tryz
open Go.Proofs Sha
variable {bs s:Bs} {cs:List Bat.Ch} {rv v:Value} {w w0:World}
def ChN (w0 w:World)(v:Value)(cs:List Bat.Ch):Prop:=∃ rows,NwR w0 w 181 34 v rows∧rows.length=cs.length∧∀ i (h:i<rows.length) (h':i<cs.length),∃ vv,rows[i]=chRow cs[i] vv∧one vv=true∧By w vv cs[i].val∧(cs[i].del=true→vv=.slice Option.none 0 0)∧cs[i].key.length=32
theorem ChN.rd (h:ChN w0 w v cs):ChR w v cs:=by
 obtain⟨rows,h1,h2,h3⟩:=h;exact⟨rows,h1.rd,h2,h3⟩
theorem ChN.fr0 {w0 w w':World}(h:ChN w0 w v cs)(f:No w w'):ChN w0 w' v cs:=by
 obtain⟨rows,h1,h2,h3⟩:=h;refine⟨rows,h1.fr0 f,h2,fun i a b=>?_⟩;obtain⟨vv,e1,e2,e3,e4,e5⟩:=h3 i a b;exact⟨vv,e1,e2,e3.fr0 f,e4,e5⟩
def PsQ (w0:World)(y:Except Int (List Bat.Ch))(r:Value)(w':World):Prop:=No w0 w'∧∃ v i e,r=.tuple #[v,.int .i64 i,.int .i64 e]∧match y with
 | .error e'=>e=e'
 | .ok cs=>e=0∧ChN w0 w' v cs
def psI (w0:World)(s0:Bs)(n:Nat)(m:Nat)(vs:List Value)(w:World):Prop :=
 ∃ (i:Nat) (rv cv:Value) (l:List Bat.Ch) (r:Bs) (rows:Rows),vs=[.int .i64 (n:Nat),rv,cv,.int .i64 (n:Nat),.int .i64 (i:Nat)]∧i≤n∧m=n - i∧Bat.takesP i s0=.ok (l,r)∧By w rv r∧(∀ b,qQb rv=some b→b<w0.heap.size)∧r.length≤2 ^ 50 ∧
  NwR w0 w 181 34 cv rows∧rows.length=l.length∧(∀ i (h:i<rows.length) (h':i<l.length),∃ vv,rows[i]=chRow l[i] vv∧one vv=true∧By w vv l[i].val∧(∀ b,qQb vv=some b→b<w.heap.size∧qQb cv≠some b)∧(l[i].del=true→vv=.slice .none 0 0)∧l[i].key.length=32)∧No w0 w
theorem By.blkB {b o n cap:Nat}(h:By w (.slice (some ⟨b,o,Option.none⟩) n cap) bs)(h0:0<bs.length):b<w.heap.size:=by
 have h1:=h.len;have:=h.get (P:=prog) agg5 (i:=0) h0;obtain⟨hl,a,cap,e,hc,hat⟩:=h;obtain⟨b',o',rfl,hat2⟩:=hat (by omega);cases e;have h2:=hat2 0 (by omega);rw[List.getElem?_eq_getElem (by rw[zG];omega)]at h2;exact rc_lt h2
theorem parse (w0:World)(hr:By w0 rv s)(hl:s.length≤2 ^ 50):Fn prog 104 #[rv] w0 (PsQ w0 (Bat.parseP s)):=by
 refine go104 (by simp) ?_;obtain⟨xa,xc,rfl,hxc⟩:=hr.slice
 by_cases h2:s.length<2
 ·have d0:=dTo (((s.length:Nat):Int)<2)
  simp -implicitDefEqProofs only[go_sem,jU,gLa,gLz,Tryz.f104,d0];have:Bat.parseP s=.error 30:=by unfold Bat.parseP;rw[if_pos h2]
  rw[this];exact⟨Fr.refl _ _,_,_,_,rfl,rfl⟩
 have d0:=dFo (((s.length:Nat):Int)<2);obtain⟨b,o,cap,he,hcap⟩:=hr.pos (by omega);cases he;have r0:rdO prog 5 w0 b o=some (.int .u8 ((s.getD 0 0).toNat:Int)):=by have:=hr.get (P:=prog) agg5 (i:=0) (by omega);rw[jE]at this;exact this
 have r1:rdO prog 5 w0 b (o+1)=some (.int .u8 ((s.getD 1 0).toNat:Int)):=hr.get (P:=prog) agg5 (i:=1) (by omega);have y0:(0:Int)≤0∧(0:Int)<((s.length:Nat):Int):=by omega
 have y1:(0:Int)≤1∧(1:Int)<((s.length:Nat):Int):=by omega
 have c0:IntKind.i64.wrap ((s.getD 0 0).toNat:Int)=(((s.getD 0 0).toNat:Nat):Int):=i64n (by have:=(s.getD 0 0).isLt;omega);have c1:IntKind.i64.wrap ((s.getD 1 0).toNat:Int)=(((s.getD 1 0).toNat:Nat):Int):=i64n (by have:=(s.getD 1 0).isLt;omega);have lh:=lohi (s.getD 0 0) (s.getD 1 0)
 have hpp : Bat.parseP s = if 64 < (s.getD 0 0).toNat + 256 * (s.getD 1 0).toNat then .error 31
     else match Bat.takesP ((s.getD 0 0).toNat + 256 * (s.getD 1 0).toNat) (s.drop 2) with
       | .error e => .error e
       | .ok (l,r) => if r ≠ [] then .error 30 else if (l.map Bat.Ch.key).Nodup then .ok l else .error 33 := by unfold Bat.parseP; rw [if_neg h2]; rfl
 rw[hpp];generalize (s.getD 0 0).toNat+256*(s.getD 1 0).toNat=n at *
 by_cases h64:64<n
 ·have dn:=dTo (((n:Nat):Int) > 64)
  simp -implicitDefEqProofs only[go_sem,jU,gLa,gLz,Tryz.f104,d0,y0,y1,and_self,vP,kY,jG,jC,r0,r1,c0,c1,lh,dn];rw[if_pos h64];exact⟨(Fr.refl _ _).drew,_,_,_,rfl,rfl⟩
 have dn:=dFo (((n:Nat):Int) > 64);rw[if_neg h64]
 obtain ⟨Y, hY⟩ : ∃ Y : Except Int (List Bat.Ch), Y = match Bat.takesP n (s.drop 2) with
       | .error e => .error e
       | .ok (l,r) => if r ≠ [] then .error 30 else if (l.map Bat.Ch.key).Nodup then .ok l else .error 33 := ⟨_,rfl⟩
 rw[← hY];have p1:=slc_lo (P:=prog) slc25 arr25 sz5 (a:=some (⟨b,o,.none⟩:Addr)) (n:=s.length) (cap:=xc) (l:=2) (by omega) hcap;have p1:qXf prog 25 (.slice (some ⟨b,o,.none⟩) s.length xc) (some (.int .i64 2)) .none .none=some (cutV 1 (some ⟨b,o,.none⟩) xc 2 s.length):=p1;have mk:=run_mk (P:=prog) (t:=151) (by':=64) slc151 sz181 by181 zero181 (l:=0) (c:=n) (by omega) (by omega) (by omega) .i64 .i64 w0.drew;simp -implicitDefEqProofs only[go_sem,jU,gLa,gLz,Tryz.f104,d0,y0,y1,and_self,vP,kY,jG,jC,r0,r1,c0,c1,lh,dn,p1];refine qQg ⟨_,_,mk,?_⟩;obtain⟨W,hW,f1,k1,s1⟩:=qQr w0.drew (madeCells (Value.agg (Array.replicate 32 (.int .u8 0)++#[.bool false,.slice .none 0 0])).cells (n*34)) 181;have f1:No w0 W:=(Fr.refl _ _).drew.trans f1
 have N0:NwR w0 W 181 34 (.slice (some ⟨w0.drew.heap.size,0,.none⟩) 0 n) []:=⟨RowsOk.nil _,by
  have:=mk_nw w0 w0.drew 181 34 0 n (madeCells (Value.agg (Array.replicate 32 (.int .u8 0)++#[.bool false,.slice .none 0 0])).cells (n*34)) (xP _) (by simp[madeCells]) (by omega);rw[hW]at this
  simpa using this⟩
 rw[hW]
 have hcut:By W (cutV 1 (some ⟨b,o,.none⟩) xc 2 s.length) (s.drop 2):=by
  have:=(hr.fr0 f1).cutV (l:=2) (m:=s.length) (by omega) (xP _) rfl;rw[List.take_of_length_le (by simp)]at this;exact this
 have hbk:∀ c,qQb (cutV 1 (some (⟨b,o,.none⟩:Addr)) xc 2 s.length)=some c→c<w0.heap.size:=fun c hc=>by
  have h:=qJh (n:=s.length) hc;simp only[qQb,oSi]at h;subst h;exact hr.blkB (by omega)
 generalize cutV 1 (some (⟨b,o,.none⟩:Addr)) xc 2 s.length=rv0 at *;generalize (Value.slice (some ⟨w0.drew.heap.size,0,.none⟩) 0 n)=cv0 at *;simp -implicitDefEqProofs only[go_sem,jU];refine loopD [5,6,7,32,33] (psI w0 (s.drop 2) n) n ⟨0,rv0,cv0,[],s.drop 2,[],rfl,by omega,rfl,rfl,hcut,hbk,by simp;omega,N0,rfl,(fun i h=>absurd h (by simp)),f1⟩ ?_;rintro _ vs w g ⟨i,rv,cv,l,r,rows,rfl,hi,rfl,htk,hby,hbl,hrl,hN,hrows,hch,fw⟩
 by_cases hlt:i<n
 ·have d1:=dTo ((i:Int)<((n:Nat):Int))
  simp -implicitDefEqProofs only[go_sem,jU,d1];refine qQa pl167 ((take w hby hrl).mono ?_);rintro _ w2 ⟨f2,k,d,v,u,e,rfl,hk,ho,hm⟩;have f02:=fw.trans f2;have hsn:=Bat.takesP_snoc htk
  cases ht:Bat.takeP r with
  | error e' =>
   rw[ht]at hm hsn;obtain⟨rfl,_⟩:=hm
   have hne:e≠0:=fun h=>by
    subst h;unfold Bat.takeP at ht
    repeat' split at ht
    all_goals cases ht
   have he0:(e != 0)=true:=by rw[bne_iff_ne];exact hne
   have hYe:Y=.error e:=by rw[hY,Bat.takesP_err hsn n (by omega)]
   obtain⟨W3,hW3,f3,k3,s3⟩:=qQr w2 (chC (zF 32 0) false (.slice .none 0 0)) 181;have q3:wrO prog 181 W3 w2.heap.size 0 (.agg (chC k d v))=some (put W3 w2.heap.size (.cells (chC k d v) 181 (0,0))):=qQt (by rw[qQo d v hk];exact sz181) k3 (by rw[qQo _ _ lRe,qQo _ _ hk]) (qZk d ho);simp -implicitDefEqProofs only[go_sem,jU,gLa,gLz,gLs,jB,qXe,hW3,q3,he0];rw[hYe];exact⟨(f02.trans f3).put (b:=w2.heap.size) _ fun h=>by have:=f02.size;omega,_,_,_,rfl,rfl⟩
  | ok p =>
   rw[ht]at hm hsn;obtain⟨rfl,⟨v',ev,ov,byv,dv⟩,hby2,hu,hvb⟩:=hm;obtain⟨c,r2⟩:=p;simp only at ev byv dv hby2 hsn;obtain⟨W3,hW3,f3,k3,s3⟩:=qQr w2 (chC (zF 32 0) false (.slice .none 0 0)) 181;have q3:wrO prog 181 W3 w2.heap.size 0 (.agg (chC k d v))=some (put W3 w2.heap.size (.cells (chC k d v) 181 (0,0))):=qQt (by rw[qQo d v hk];exact sz181) k3 (by rw[qQo _ _ lRe,qQo _ _ hk]) (qZk d ho);have k4:=qQf (o:=.cells (chC k d v) 181 (0,0)) k3;have f24:No w2 (put W3 w2.heap.size (.cells (chC k d v) 181 (0,0))):=f3.put (b:=w2.heap.size) _ fun h=>absurd h (jH _);have f4:No w0 (put W3 w2.heap.size (.cells (chC k d v) 181 (0,0))):=f02.trans f24
   obtain⟨w4,hw4⟩:∃ w4,w4=put W3 w2.heap.size (.cells (chC k d v) 181 (0,0)):=⟨_,rfl⟩
   rw[← hw4]at q3 k4 f24 f4;have r4:rdO prog 181 w4 w2.heap.size 0=some (.agg (chC k d v)):=qXp agg181 (by rw[qQo d v hk];exact sz181) k4;simp -implicitDefEqProofs only[go_sem,jU,gLa,gLz,gLs,jB,qXe,hW3,q3,bNe,r4]
   have hck:c.key=k∧c.del=d∧v'=v:=by
    have e1:(chC k d v).toList=(chC c.key c.del v').toList:=by
     have:(Value.agg (chC k d v))=.agg (chC c.key c.del v'):=ev;simp only[Value.agg.injEq]at this;rw[this]
    have hcl:c.key.length=32:=(Bat.takeP_ok ht).1.1;simp only[chC]at e1;have e2:=List.append_inj e1 (by simp[hk,hcl]);obtain⟨e3,e4⟩:=e2;refine⟨(map_u8_inj e3).symm,?_,?_⟩
    ·have:=List.cons.inj e4;have:=this.1;simpa using this.symm
    ·have:=(List.cons.inj e4).2;simpa using (List.cons.inj this).1.symm
   obtain⟨rfl,rfl,rfl⟩:=hck;refine qQj (v:=.slice (some ⟨w4.heap.size,0,.none⟩) 1 1) (w':=w4.alloc (.cells (chC c.key c.del v') 181)) (qZb (K:=34) (by decide) (by decide) (by simp[chC]) (by simp[chC]) (qQo _ _ hk) _) ?_;have hN4:=(hN.fr0 f2).fr0 f24;obtain⟨v8,w8,hr8,b8,g8,m8⟩:=hN4.push (P:=prog) app151_151 (xs:=chRow c v') (by simp[chRow,hk]) (by have:=qZk (k:=c.key) c.del ho;rw[← Array.all_toList]at this;simpa [chC,chRow] using this) (by decide) (by have:=(Bat.takesP_ok htk).1;omega) (by have:=(Bat.takesP_ok htk).1;omega) f4.size;have hr8:(Builtin.append_ #[151,151] 0 #[cv,.slice (some ⟨w4.heap.size,0,.none⟩) 1 1]).run prog (w4.alloc (.cells (chC c.key c.del v') 181))=.ok v8 w8:=hr8;have f8:No w0 w8:=f4.trans' g8 fun b' hb' h=>by have:=(hN.lt h).1;omega
   have c1:=iSu (i:=i);simp -implicitDefEqProofs only[go_sem,jU];refine qQg ⟨v8,w8,hr8,?_⟩;simp -implicitDefEqProofs only[go_sem,jU,c1];have hub:∀ b',qQb u=some b'→b'<w0.heap.size:=fun b' h=>hbl b' (hu b' h);have s24:=f24.size;have s2:=f2.size;have s8:=g8.size;refine⟨n - (i+1),by omega,i+1,u,v8,l++[c],r2,rows++[chRow c v'],rfl,by omega,rfl,hsn,?_,hub,?_,b8,by simp[hrows],?_,f8⟩
   ·exact (hby2.fr0 f24).fr g8 fun b' h _ h'=>by have:=(hN.lt h').1;have:=hub b' h;omega
   ·obtain⟨_,q,hq,_,_⟩:=Bat.takeP_ok ht
    rw[hq,lDr];omega
   ·have hcv:∀ b',qQb cv=some b'→b'<w.heap.size:=fun b' h=>(hN.lt h).2
    intro q hq hq'
    by_cases hql:q<rows.length
    ·obtain⟨vv,a1,a2,a3,a4,a5,a6⟩:=hch q hql (by omega)
     have el:(l++[c])[q]=l[q]'(by omega):=jK (by omega);rw[el];refine⟨vv,by rw[jK hql];exact a1,a2,?_,fun b' h=>⟨by have:=(a4 b' h).1;omega,fun h'=>?_⟩,a5,a6⟩
     ·exact ((a3.fr0 f2).fr0 f24).fr g8 fun b' h _ h'=>(a4 b' h).2 h'
     ·rcases m8 b' h' with h'' | h''
      ·exact (a4 b' h).2 h''
      ·have:=(a4 b' h).1;omega
    ·obtain rfl:q=rows.length:=by simp at hq;omega
     have el:(l++[c])[rows.length]'hq'=c:=by simp[hrows]
     rw[el];refine⟨v',by simp,ov,?_,fun b' h=>⟨by have:=(hvb b' h).2;omega,fun h'=>?_⟩,dv,hk⟩
     ·exact (byv.fr0 f24).fr g8 fun b' h _ h'=>by have:=(hvb b' h).1;have:=hcv b' h';omega
     ·rcases m8 b' h' with h'' | h''
      ·have:=(hvb b' h).1;have:=hcv b' h'';omega
      ·have:=(hvb b' h).2;omega
 ·have d1:=dFo ((i:Int)<((n:Nat):Int))
  obtain rfl:i=n:=by omega
  rw[htk]at hY;obtain⟨ra,rc,rfl,_⟩:=hby.slice
  by_cases hr0:r=[]
  ·have d2:decide (((r.length:Nat):Int) > 0)=false:=by subst hr0;rfl
   replace hY:Y=if (l.map Bat.Ch.key).Nodup then .ok l else .error 33:=by rw[hY];exact if_neg (by simp[hr0])
   have hC:ChN w0 w cv l:=⟨rows,hN,hrows,fun i a b=>by
    obtain⟨vv,e1,e2,e3,_,e5,e6⟩:=hch i a b
    exact⟨vv,e1,e2,e3,e5,e6⟩⟩
   simp -implicitDefEqProofs only[go_sem,jU,gLa,gLz,d1,d2];refine qQa pl168 ((repeated w hC.rd (by have:=(Bat.takesP_ok htk).1;omega)).mono ?_);rintro _ w2 ⟨f2,z,rfl,hz⟩
   by_cases hz0:0≤z
   ·have d3:decide (z ≥ 0)=true:=decide_eq_true hz0
    rw[if_neg (hz.1 hz0)]at hY;simp -implicitDefEqProofs only[go_sem,jU,d3];rw[hY];exact⟨fw.trans f2,_,_,_,rfl,rfl⟩
   ·have d3:decide (z ≥ 0)=false:=decide_eq_false hz0
    rw[if_pos (by by_cases h:(l.map Bat.Ch.key).Nodup;exact h;exact absurd (hz.2 h) hz0)]at hY;simp -implicitDefEqProofs only[go_sem,jU,d3];rw[hY];exact⟨fw.trans f2,_,_,_,rfl,rfl,hC.fr0 f2⟩
  ·have d2:decide (((r.length:Nat):Int) > 0)=true:=by have:=List.length_pos_iff.2 hr0;simp;exact this
   replace hY:Y=.error 30:=by rw[hY];exact if_pos hr0
   simp -implicitDefEqProofs only[go_sem,jU,gLa,gLz,d1,d2];rw[hY];exact⟨fw,_,_,_,rfl,rfl⟩
namespace R
theorem bytes3 (w0:World){vv:Value}(hv:By w0 vv bs)(hl:bs.length≤2 ^ 40):Fn prog 211 #[vv] w0 fun v w'=>NwB w0 w' v bs∧No w0 w':=by
 refine go211 (by simp) ?_;obtain⟨va,vc,rfl,hcap⟩:=hv.slice;simp -implicitDefEqProofs only[go_sem,Tryz.f211];refine loopD [0,3,4] (cpI w0 (.slice va bs.length vc) bs) bs.length ⟨0,_,rfl,by omega,rfl,NwB.nil _ _,Fr.refl _ _⟩ ?_;rintro _ vs w3 g ⟨i,v,rfl,hi,rfl,b3,f3⟩
 by_cases hlt:i<bs.length
 ·have d1:=dTo ((i:Int)<((bs.length:Nat):Int))
  have c1:=iSu (i:=i);have y:=iBd (i:=i) (n:=bs.length);obtain⟨b,o,cap,he,r⟩:=(hv.fr0 f3).rd1 hlt;cases he;have hsn:=take_snoc (l:=bs) (i:=i) hlt;obtain⟨v4,w4,hr4,b4,f4,g4,_⟩:=NwB.grow b3 (bs.getD i 0) (by simp;omega) f3;rw[hsn]at b4;generalize bs.getD i 0=x at *;simp -implicitDefEqProofs only[go_sem,jU,gLa,gLz,y,and_self,iTn,jG,r];refine qQj (v:=.slice (some ⟨w3.heap.size,0,none⟩) 1 1) (w':=w3.alloc (.cells (bl [x]) 5)) rfl ?_;simp -implicitDefEqProofs only[go_sem,jU];refine qQg ⟨v4,w4,hr4,?_⟩;simp -implicitDefEqProofs only[go_sem,jU,c1];exact⟨bs.length - (i+1),by omega,i+1,v4,rfl,by omega,rfl,b4,f4⟩
 ·have d1:=dFo ((i:Int)<((bs.length:Nat):Int))
  have e:i=bs.length:=by omega
  subst e;rw[List.take_length]at b3;simp -implicitDefEqProofs only[go_sem,jU,gLa,gLz,d1];exact⟨b3,f3⟩
def twJ (w0:World)(sv:Value)(ks:List Bs)(i:Nat)(n:Nat)(vs:List Value)(w:World):Prop :=
 ∃ (j:Nat),vs=[sv,.int .i64 (i:Nat),.int .i64 (j:Nat)]∧j≤i∧n=i - j∧(∀ q,q<j→ks[i]! ≠ ks[q]!)∧No w0 w
def twI (w0:World)(sv:Value)(ks:List Bs)(n:Nat)(vs:List Value)(w:World):Prop :=
 ∃ (i:Nat),vs=[sv,.int .i64 (i:Nat)]∧i≤ks.length∧n=ks.length - i∧(∀ p,p<i→∀ q,q<p→ks[p]! ≠ ks[q]!)∧No w0 w
theorem twice (w0:World){sv:Value}(h:ChR w0 sv cs)(hl:cs.length≤2 ^ 40):Fn prog 184 #[sv] w0 fun v w'=>No w0 w'∧∃ z:Int,v=.int .i64 z∧(0≤z ↔ ¬ (cs.map Bat.Ch.key).Nodup):=by
 refine go184 (by simp) ?_;obtain⟨a,cap,rfl,hcap⟩:=h.slice;have hkl:cs.length=(cs.map Bat.Ch.key).length:=by simp
 have hk:=h.key;rw[hkl]at hk ⊢;rw[hkl]at hl;generalize cs.map Bat.Ch.key=ks at *;simp -implicitDefEqProofs only[go_sem,Tryz.f184];refine loopD [0,3] (twI w0 (.slice a ks.length cap) ks) ks.length ⟨0,rfl,by omega,rfl,fun p hp=>by omega,Fr.refl _ _⟩ ?_;rintro _ vs w2 g ⟨i,rfl,hi,rfl,hno,f2⟩
 by_cases hlt:i<ks.length
 ·have d1:=dTo ((i:Int)<((ks.length:Nat):Int))
  simp -implicitDefEqProofs only[go_sem,jU,gLa,gLz,d1];refine loopD [0,3,4] (twJ w0 (.slice a ks.length cap) ks i) i ⟨0,rfl,by omega,rfl,fun q hq=>by omega,f2⟩ ?_;rintro _ vs w3 g ⟨j,rfl,hj,rfl,hnj,f3⟩;obtain⟨b,o,cap',e,hrd⟩:=hk (by omega);cases e
  by_cases hji:j<i
  ·have d2:=dTo ((j:Int)<(i:Int))
   obtain⟨q1,l1⟩:=hrd w3 f3 i hlt;obtain⟨q2,l2⟩:=hrd w3 f3 j (by omega);obtain⟨q1d,_⟩:=hrd w3.drew f3.drew i hlt;obtain⟨q2d,_⟩:=hrd w3.drew f3.drew j (by omega);have y1:=iBd (i:=i) (n:=ks.length);have y2:=iBd (i:=j) (n:=ks.length);have eq:=eqKey l1 l2;have c2:=iSu (i:=j)
   by_cases he:ks[i]! = ks[j]!
   ·have hb:(ks[i]! == ks[j]!)=true:=by rw[beq_iff_eq];exact he
    simp -implicitDefEqProofs only[go_sem,jU,d2,y1,y2,and_self,iTn,q1d,q2d,eq,hb,jE];exact⟨f3.drew,(i:Int),rfl,iff_of_true (by omega) (fun hn=>nodup_at.1 hn i hlt j hji he)⟩
   ·have hb:(ks[i]! == ks[j]!)=false:=by rw[bFn];exact he
    simp -implicitDefEqProofs only[go_sem,jU,d2,y1,y2,and_self,iTn,q1d,q2d,eq,hb,c2,jE]
    exact⟨i - (j+1),by omega,j+1,rfl,by omega,rfl,fun q hq=>by
     by_cases hqj:q=j
     ·subst hqj;exact he
     ·exact hnj q (by omega),f3.drew⟩
  ·have d2:=dFo ((j:Int)<(i:Int))
   obtain rfl:j=i:=by omega
   have c1:=iSu (i:=j);simp -implicitDefEqProofs only[go_sem,jU,d2,c1]
   exact⟨ks.length - (j+1),by omega,j+1,rfl,by omega,rfl,fun p hp=>by
    by_cases hpj:p=j
    ·subst hpj;exact hnj
    ·exact hno p (by omega),f3⟩
 ·have d1:=dFo ((i:Int)<((ks.length:Nat):Int))
  obtain rfl:i=ks.length:=by omega
  simp -implicitDefEqProofs only[go_sem,jU,gLa,gLz,d1];exact⟨f2,-1,rfl,iff_of_false (by omega) (fun h=>h (nodup_at.2 hno))⟩
end R
namespace R
theorem chC_setk {ks:Bs}{j:Nat}(hj:j<32)(hl:j<ks.length)(d:Bool)(v:Value):(chC (ks.take j++zF (32 - j) 0) d v).setIfInBounds j (u8 (ks.getD j 0))=chC (ks.take (j+1)++zF (32 - (j+1)) 0) d v:=by
 apply Array.toList_inj.1;have h1:(ks.take j).length=j:=by rw[lTk];omega
 have h2:zF (32 - j) (0:Byte)=0::zF (32 - (j+1)) 0:=by rw[show 32 - j=(32 - (j+1))+1 by omega,List.replicate_succ]
 have h3:ks.take (j+1)=ks.take j++[ks.getD j 0]:=by rw[tSg hl,qQi _ hl]
 rw[Array.toList_setIfInBounds,h2,h3];simp only[chC,List.map_append,List.map_cons,List.append_assoc,List.cons_append,List.nil_append];rw[List.set_append_right _ _ (by rw[zG,h1];exact xP _),zG,h1,jQ,List.set_cons_zero]
def OnQ (w0:World)(s:Bs)(y:Except Int (Bat.Ch × Bs))(r:Value)(w':World):Prop:=No w0 w'∧∃ k d v m e,r=.tuple #[.agg (chC k d v),.int .i64 m,.int .i64 e]∧k.length=32∧one v=true∧match y with
 | .error e'=>e=e'
 | .ok p=>e=0∧p.1.key=k∧p.1.del=d∧NwB w0 w' v p.1.val∧(d=true→v=.slice .none 0 0)∧∃ n:Nat,m=(n:Int)∧n≤s.length∧p.2=s.drop n
def okI (w0:World)(sv:Value)(at':Nat)(s:Bs)(n:Nat)(vs:List Value)(w:World):Prop :=
 ∃ (j:Nat),vs=[sv,.int .i64 (at':Nat),pt w0.heap.size 0,pt (w0.heap.size+1) 0,.int .i64 (j:Nat)]∧j≤32∧n=32 - j∧No w0 w∧w.heap[w0.heap.size]?=some (.cells (chC (zF 32 0) false (.slice .none 0 0)) 181 (0,0)) ∧
  w.heap[w0.heap.size+1]?=some (.cells (chC ((s.drop (at'+1)).take j++zF (32 - j) 0) false (.slice .none 0 0)) 181 (0,0))
theorem one3 (w0:World)(hr:By w0 rv s)(hl:s.length≤2 ^ 50)(at':Nat)(hat:at'≤s.length):Fn prog 183 #[rv,.int .i64 (at':Nat)] w0 (OnQ w0 s (Bat.takeP (s.drop at'))):=by
 refine go183 (by simp) ?_;obtain⟨xa,xc,rfl,hxc⟩:=hr.slice;obtain⟨W,hW,f1,k1,k2,s1⟩:=qKp w0 (chC (zF 32 0) false (.slice .none 0 0)) 181 (chC (zF 32 0) false (.slice .none 0 0)) 181;have z32:(zF 32 (0:Byte)).length=32:=lRe
 have fin:∀ (w:World) (k:Bs) (d:Bool) (v:Value), w.heap[w0.heap.size]?=some (.cells (chC (zF 32 0) false (.slice .none 0 0)) 181 (0, 0))→k.length=32→one v=true →
   wrO prog 181 w w0.heap.size 0 (.agg (chC k d v))=some (put w w0.heap.size (.cells (chC k d v) 181 (0,0)))∧rdO prog 181 (put w w0.heap.size (.cells (chC k d v) 181 (0,0))) w0.heap.size 0=some (.agg (chC k d v)):=fun w k d v h hk hv =>
  ⟨qQt (by rw[qQo d v hk];exact sz181) h (by rw[qQo _ _ z32,qQo _ _ hk]) (qZk d hv),qXp agg181 (by rw[qQo d v hk];exact sz181) (qQf (o:=.cells (chC k d v) 181 (0,0)) h)⟩
 have rdc:∀ (w:World) (k:Bs) (d:Bool) (v:Value),w.heap[w0.heap.size+1]?=some (.cells (chC k d v) 181 (0,0))→k.length=32→rdO prog 181 w (w0.heap.size+1) 0=some (.agg (chC k d v)):=fun w k d v h hk =>
  qXp agg181 (by rw[qQo d v hk];exact sz181) h
 have lst:∀ (w:World) (c:Array Value),No w0 w→No w0 (put w w0.heap.size (.cells c 181 (0,0))):=fun w c h=>h.put (b:=w0.heap.size) _ fun h=>absurd h (jH _);have lst1:∀ (w:World) (c:Array Value),No w0 w→No w0 (put w (w0.heap.size+1) (.cells c 181 (0,0))):=fun w c h=>h.put (b:=w0.heap.size+1) _ fun h=>by omega
 obtain⟨qe,le⟩:=fin W _ false (.slice .none 0 0) k1 z32 rfl;have re:=rdc W _ _ _ k2 z32;have hdl:(s.drop at').length=s.length - at':=lDr;have gd:∀ i,(s.drop at').getD i 0=s.getD (at'+i) 0:=fun i=>by simp[gDq,rX]
 have a33:IntKind.i64.wrap ((at':Int)+33)=((at'+33:Nat):Int):=qXd (b:=33)
 by_cases h0:s.length≤at'
 ·have d1:=dTo ((at':Int) ≥ ((s.length:Nat):Int))
  simp -implicitDefEqProofs only[go_sem,jU,gLa,gLz,gLs,Tryz.f183,jB,qXe,hW,d1,re,qe,le];refine⟨lst _ _ f1,_,_,_,_,_,rfl,z32,rfl,?_⟩;have:Bat.takeP (s.drop at')=.error 30:=by unfold Bat.takeP;rw[if_pos (.inl (by omega))]
  rw[this]
 have d1:=dFo ((at':Int) ≥ ((s.length:Nat):Int));obtain⟨b,o,cap,he,hcap⟩:=hr.pos (by omega);cases he;have hr1:=hr.fr0 f1;have r0:rdO prog 5 W b (o+at')=some (.int .u8 ((s.getD at' 0).toNat:Int)):=hr1.get (P:=prog) agg5 (i:=at') (by omega);have y0:=iBd (i:=at') (n:=s.length);have g0:(s.drop at').getD 0 0=s.getD at' 0:=by rw[gd,jE]
 by_cases hb:s.getD at' 0≠1∧s.getD at' 0≠2
 ·have n1:(((s.getD at' 0).toNat:Int) != 1)=true:=by rw[bne_iff_ne];intro h;exact hb.1 (by apply BitVec.eq_of_toNat_eq;simpa using (by exact_mod_cast h:(s.getD at' 0).toNat=1))
  have n2:(((s.getD at' 0).toNat:Int) != 2)=true:=by rw[bne_iff_ne];intro h;exact hb.2 (by apply BitVec.eq_of_toNat_eq;simpa using (by exact_mod_cast h:(s.getD at' 0).toNat=2))
  simp -implicitDefEqProofs only[go_sem,jU,gLa,gLz,gLs,Tryz.f183,jB,qXe,hW,d1,y0,and_self,iTn,jG,r0,n1,n2,tf_beq,bSe,re,qe,le];refine⟨lst _ _ f1,_,_,_,_,_,rfl,z32,rfl,?_⟩;have:Bat.takeP (s.drop at')=.error 30:=by unfold Bat.takeP;rw[if_pos (.inr (by rw[g0];exact hb))]
  rw[this]
 have hb12:s.getD at' 0=1∨s.getD at' 0=2:=by
  by_cases h1:s.getD at' 0=1
  ·exact .inl h1
  ·by_cases h2:s.getD at' 0=2
   ·exact .inr h2
   ·exact absurd ⟨h1,h2⟩ hb
 obtain⟨dl,hdl',n3,n1,n2⟩:∃ dl:Bool,(dl=true ↔ s.getD at' 0=2)∧(((s.getD at' 0).toNat:Int) == 2)=dl∧(((s.getD at' 0).toNat:Int) != 1)=dl∧(((s.getD at' 0).toNat:Int) != 2)=!dl:=by
  rcases hb12 with h | h <;> rw[h]
  ·exact⟨false,by simp,rfl,rfl,rfl⟩
  ·exact⟨true,by simp,rfl,rfl,rfl⟩
 by_cases h33:s.length<at'+33
 ·have d2:=dTo (((at'+33:Nat):Int) > ((s.length:Nat):Int))
  have:Bat.takeP (s.drop at')=.error 30:=by unfold Bat.takeP;rw[if_pos (.inl (by omega))]
  rw[this]
  cases dl with
  | true =>
   simp only[Bool.not_true]at n2;simp -implicitDefEqProofs only[go_sem,jU,gLa,gLz,gLs,Tryz.f183,jB,qXe,hW,d1,y0,and_self,iTn,jG,r0,n1,n2,a33,d2,bSe,re,qe,le];exact⟨lst _ _ f1,_,_,_,_,_,rfl,z32,rfl,rfl⟩
  | false =>
   simp only[Bool.not_false]at n2;simp -implicitDefEqProofs only[go_sem,jU,gLa,gLz,gLs,Tryz.f183,jB,qXe,hW,d1,y0,and_self,iTn,jG,r0,n1,a33,d2,qZn,bSe,re,qe,le];exact⟨lst _ _ f1,_,_,_,_,_,rfl,z32,rfl,rfl⟩
 have d2:=dFo (((at'+33:Nat):Int) > ((s.length:Nat):Int))
 cases dl with
 | true =>
  simp only[Bool.not_true]at n2;simp -implicitDefEqProofs only[go_sem,jU,gLa,gLz,gLs,Tryz.f183,jB,qXe,hW,d1,y0,and_self,iTn,jG,r0,n1,n2,a33,d2,bSe];refine loopD [0,1,4,7,8] (okI w0 (.slice (some ⟨b,o,.none⟩) s.length xc) at' s) 32 ⟨0,rfl,by omega,rfl,f1,k1,k2⟩ ?_;rintro _ vs w g ⟨j,rfl,hj,rfl,fw,j1,j2⟩
  by_cases hj32:j<32
  ·have d3:=dTo ((j:Int)<32)
   have c1:=iSu (i:=at');have c2:IntKind.i64.wrap (((at'+1:Nat):Int)+(j:Int))=((at'+1+j:Nat):Int):=qXd (b:=j);have c3:=iSu (i:=j);have rj:rdO prog 5 w b (o+(at'+1+j))=some (.int .u8 ((s.getD (at'+1+j) 0).toNat:Int)):=(hr.fr0 fw).get (P:=prog) agg5 (by omega);have y1:(0:Int)≤((at'+1+j:Nat):Int)∧((at'+1+j:Nat):Int)<((s.length:Nat):Int):=by omega
   have y2:=iBd (i:=j) (n:=32);have y3:=y2.2;have gj:(s.drop (at'+1)).getD j 0=s.getD (at'+1+j) 0:=by simp[gDq,rX]
   have wj:=wr1 (P:=prog) (t:=5) (w:=w) (b:=w0.heap.size+1) (o:=j) (v:=u8 ((s.drop (at'+1)).getD j 0)) sz5 rfl j2 (by rw[qQo _ _ (by simp;omega)];omega);rw[chC_setk hj32 (by simp;omega),gj]at wj;have wj:wrO prog 5 w (w0.heap.size+1) j (.int .u8 ((s.getD (at'+1+j) 0).toNat:Int))=_:=wj;have j3:=qQf (o:=.cells (chC ((s.drop (at'+1)).take (j+1)++zF (32 - (j+1)) 0) false (.slice .none 0 0)) 181 (0,0)) j2;have j4:=qQq (b:=w0.heap.size+1) (o:=.cells (chC ((s.drop (at'+1)).take (j+1)++zF (32 - (j+1)) 0) false (.slice .none 0 0)) 181 (0,0)) j1 (by omega);simp -implicitDefEqProofs only[go_sem,jU,d3,c1,c2,c3,y1,y2,and_self,iTn,jG,Nat.zero_add,rj,wj];exact⟨32 - (j+1),by omega,j+1,rfl,by omega,rfl,lst1 _ _ fw,j4,j3⟩
  have d3:=dFo ((j:Int)<32);obtain rfl:j=32:=by omega
  rw[jQ,rZ,List.append_nil]at j2;have hkey:((s.drop at').drop 1).take 32=(s.drop (at'+1)).take 32:=by rw[vD]
  have htk:Bat.takeP (s.drop at')=.ok (⟨(s.drop (at'+1)).take 32,true,[]⟩,s.drop (at'+33)):=by
   unfold Bat.takeP;rw[if_neg (by rw[not_or,g0];exact⟨by omega,hb⟩),if_pos (by rw[g0];exact hdl'.1 rfl),hkey,vD]
  have kl:((s.drop (at'+1)).take 32).length=32:=by simp;omega
  rw[htk];generalize (s.drop (at'+1)).take 32=key at *;have r5:rdO prog 5 w b (o+at')=some (.int .u8 ((s.getD at' 0).toNat:Int)):=(hr.fr0 fw).get (P:=prog) agg5 (i:=at') (by omega);have w6:=wr1 (P:=prog) (t:=4) (w:=w) (b:=w0.heap.size+1) (o:=32) (v:=.bool true) sz4 rfl j2 (by rw[qQo _ _ kl];omega);rw[chC_flag kl]at w6;have k6:=qQf (o:=.cells (chC key true (.slice .none 0 0)) 181 (0,0)) j2;have k16:=qQq (b:=w0.heap.size+1) (o:=.cells (chC key true (.slice .none 0 0)) 181 (0,0)) j1 (by omega);have f6:=lst1 w (chC key true (.slice .none 0 0)) fw;generalize put w (w0.heap.size+1) (.cells (chC key true (.slice .none 0 0)) 181 (0,0))=W6 at *;have rc6:=rdc W6 _ _ _ k6 kl;obtain⟨q6,l6⟩:=fin W6 key true (.slice .none 0 0) k16 kl rfl;simp -implicitDefEqProofs only[go_sem,jU,d3,y0,and_self,iTn,jG,r5,n3,w6,rc6,a33,q6,l6];exact⟨lst _ _ f6,_,_,_,_,_,rfl,kl,rfl,rfl,rfl,rfl,NwB.nil _ _,fun _=>rfl,at'+33,rfl,by omega,rfl⟩
 | false =>
  simp only[Bool.not_false]at n2;simp -implicitDefEqProofs only[go_sem,jU,gLa,gLz,gLs,Tryz.f183,jB,qXe,hW,d1,y0,and_self,iTn,jG,r0,n1,a33,d2,qZn,bSe];refine loopD [0,1,4,7,8] (okI w0 (.slice (some ⟨b,o,.none⟩) s.length xc) at' s) 32 ⟨0,rfl,by omega,rfl,f1,k1,k2⟩ ?_;rintro _ vs w g ⟨j,rfl,hj,rfl,fw,j1,j2⟩
  by_cases hj32:j<32
  ·have d3:=dTo ((j:Int)<32)
   have c1:=iSu (i:=at');have c2:IntKind.i64.wrap (((at'+1:Nat):Int)+(j:Int))=((at'+1+j:Nat):Int):=qXd (b:=j);have c3:=iSu (i:=j);have rj:rdO prog 5 w b (o+(at'+1+j))=some (.int .u8 ((s.getD (at'+1+j) 0).toNat:Int)):=(hr.fr0 fw).get (P:=prog) agg5 (by omega);have y1:(0:Int)≤((at'+1+j:Nat):Int)∧((at'+1+j:Nat):Int)<((s.length:Nat):Int):=by omega
   have y2:=iBd (i:=j) (n:=32);have y3:=y2.2;have gj:(s.drop (at'+1)).getD j 0=s.getD (at'+1+j) 0:=by simp[gDq,rX]
   have wj:=wr1 (P:=prog) (t:=5) (w:=w) (b:=w0.heap.size+1) (o:=j) (v:=u8 ((s.drop (at'+1)).getD j 0)) sz5 rfl j2 (by rw[qQo _ _ (by simp;omega)];omega);rw[chC_setk hj32 (by simp;omega),gj]at wj;have wj:wrO prog 5 w (w0.heap.size+1) j (.int .u8 ((s.getD (at'+1+j) 0).toNat:Int))=_:=wj;have j3:=qQf (o:=.cells (chC ((s.drop (at'+1)).take (j+1)++zF (32 - (j+1)) 0) false (.slice .none 0 0)) 181 (0,0)) j2;have j4:=qQq (b:=w0.heap.size+1) (o:=.cells (chC ((s.drop (at'+1)).take (j+1)++zF (32 - (j+1)) 0) false (.slice .none 0 0)) 181 (0,0)) j1 (by omega);simp -implicitDefEqProofs only[go_sem,jU,d3,c1,c2,c3,y1,y2,and_self,iTn,jG,Nat.zero_add,rj,wj];exact⟨32 - (j+1),by omega,j+1,rfl,by omega,rfl,lst1 _ _ fw,j4,j3⟩
  have d3:=dFo ((j:Int)<32);obtain rfl:j=32:=by omega
  rw[jQ,rZ,List.append_nil]at j2;have hkey:((s.drop at').drop 1).take 32=(s.drop (at'+1)).take 32:=by rw[vD]
  have kl:((s.drop (at'+1)).take 32).length=32:=by simp;omega
  have hs2:¬ s.getD at' 0=2:=fun h=>by have:=hdl'.2 h;cases this
  have htk : Bat.takeP (s.drop at') = if s.length < at' + 35 then .error 30
      else if 128 < (s.getD (at' + 33) 0).toNat + 256 * (s.getD (at' + 34) 0).toNat then .error 32
      else if s.length < at' + 35 + ((s.getD (at' + 33) 0).toNat + 256 * (s.getD (at' + 34) 0).toNat) then .error 30
      else .ok (⟨(s.drop (at' + 1)).take 32,false,(s.drop (at' + 35)).take ((s.getD (at' + 33) 0).toNat + 256 * (s.getD (at' + 34) 0).toNat)⟩,s.drop (at' + 35 + ((s.getD (at' + 33) 0).toNat + 256 * (s.getD (at' + 34) 0).toNat))) := by
   unfold Bat.takeP;rw[if_neg (by rw[not_or,g0];exact⟨by omega,hb⟩),if_neg (by rw[g0];exact hs2),hkey,gd,gd,hdl];simp only[vD]
   by_cases e1:s.length<at'+35
   ·rw[if_pos e1,if_pos (by omega)]
   rw[if_neg e1,if_neg (by omega)];split
   ·rfl
   ·by_cases e2:s.length<at'+35+((s.getD (at'+33) 0).toNat+256*(s.getD (at'+34) 0).toNat)
    ·rw[if_pos e2,if_pos (by omega)]
    ·rw[if_neg e2,if_neg (by omega),Nat.add_assoc at' 35]
  rw[htk];have r5:rdO prog 5 w b (o+at')=some (.int .u8 ((s.getD at' 0).toNat:Int)):=(hr.fr0 fw).get (P:=prog) agg5 (i:=at') (by omega);have c35:IntKind.i64.wrap (((at'+33:Nat):Int)+2)=((at'+35:Nat):Int):=qXd (b:=2);have rc4:=rdc w _ _ _ j2 kl;generalize (s.drop (at'+1)).take 32=key at *;obtain⟨q4,l4⟩:=fin w key false (.slice .none 0 0) j1 kl rfl;obtain⟨q4d,l4d⟩:=fin w.drew key false (.slice .none 0 0) j1 kl rfl
  by_cases h35:s.length<at'+35
  ·have d5:=dTo (((at'+35:Nat):Int) > ((s.length:Nat):Int))
   simp -implicitDefEqProofs only[go_sem,jU,gLa,gLz,d3,y0,and_self,iTn,jG,r5,n3,a33,c35,d5,rc4,q4,l4];refine⟨lst _ _ fw,_,_,_,_,_,rfl,kl,rfl,?_⟩;rw[if_pos h35]
  have d5:=dFo (((at'+35:Nat):Int) > ((s.length:Nat):Int));have c34:IntKind.i64.wrap (((at'+33:Nat):Int)+1)=((at'+34:Nat):Int):=qXd (b:=1);have r6:rdO prog 5 w b (o+(at'+33))=some (.int .u8 ((s.getD (at'+33) 0).toNat:Int)):=(hr.fr0 fw).get (P:=prog) agg5 (i:=at'+33) (by omega);have r7:rdO prog 5 w b (o+(at'+34))=some (.int .u8 ((s.getD (at'+34) 0).toNat:Int)):=(hr.fr0 fw).get (P:=prog) agg5 (i:=at'+34) (by omega);have y6:(0:Int)≤((at'+33:Nat):Int)∧((at'+33:Nat):Int)<((s.length:Nat):Int):=by omega
  have y7:(0:Int)≤((at'+34:Nat):Int)∧((at'+34:Nat):Int)<((s.length:Nat):Int):=by omega
  have b6:=(s.getD (at'+33) 0).isLt;have b7:=(s.getD (at'+34) 0).isLt;have e6:IntKind.i64.wrap ((s.getD (at'+33) 0).toNat:Int)=(((s.getD (at'+33) 0).toNat:Nat):Int):=i64n;have e7:IntKind.i64.wrap ((s.getD (at'+34) 0).toNat:Int)=(((s.getD (at'+34) 0).toNat:Nat):Int):=i64n;have m7:IntKind.i64.wrap (256*((s.getD (at'+34) 0).toNat:Int))=((256*(s.getD (at'+34) 0).toNat:Nat):Int):=by rw[show (256*((s.getD (at'+34) 0).toNat:Int))=((256*(s.getD (at'+34) 0).toNat:Nat):Int) by push_cast;rfl];exact i64n
  have s7:IntKind.i64.wrap (((s.getD (at'+33) 0).toNat:Int)+((256*(s.getD (at'+34) 0).toNat:Nat):Int))=(((s.getD (at'+33) 0).toNat+256*(s.getD (at'+34) 0).toNat:Nat):Int):=qXd;rw[if_neg h35];generalize (s.getD (at'+33) 0).toNat+256*(s.getD (at'+34) 0).toNat=n at *
  by_cases h128:128<n
  ·have d6:=dTo (((n:Nat):Int) > 128)
   simp -implicitDefEqProofs only[go_sem,jU,gLa,gLz,d3,y0,y6,y7,and_self,iTn,jG,r5,n3,a33,c35,d5,c34,r6,r7,e6,e7,m7,s7,d6,rc4,q4d,l4d];refine⟨lst _ _ fw.drew,_,_,_,_,_,rfl,kl,rfl,?_⟩;rw[if_pos h128]
  have d6:=dFo (((n:Nat):Int) > 128);have c36:IntKind.i64.wrap (((at'+35:Nat):Int)+((n:Nat):Int))=((at'+35+n:Nat):Int):=qXd;rw[if_neg h128]
  by_cases hsh:s.length<at'+35+n
  ·have d7:=dTo (((at'+35+n:Nat):Int) > ((s.length:Nat):Int))
   simp -implicitDefEqProofs only[go_sem,jU,gLa,gLz,d3,y0,y6,y7,and_self,iTn,jG,r5,n3,a33,c35,d5,c34,r6,r7,e6,e7,m7,s7,d6,c36,d7,rc4,q4d,l4d];refine⟨lst _ _ fw.drew,_,_,_,_,_,rfl,kl,rfl,?_⟩;rw[if_pos hsh]
  have d7:=dFo (((at'+35+n:Nat):Int) > ((s.length:Nat):Int));rw[if_neg hsh];have p8:=slc_both (P:=prog) slc25 arr25 sz5 (a:=some (⟨b,o,.none⟩:Addr)) (n:=s.length) (cap:=xc) (l:=at'+35) (m:=at'+35+n) (by omega) (by omega) hxc
  have h4:By w.drew (cutV 1 (some ⟨b,o,.none⟩) xc (at'+35) (at'+35+n)) ((s.drop (at'+35)).take n):=by
   have:=(hr.fr0 fw.drew).cutV (l:=at'+35) (m:=at'+35+n) (by omega) (by omega) rfl
   rwa [Nat.add_sub_cancel_left]at this
  simp -implicitDefEqProofs only[go_sem,jU,gLa,gLz,d3,y0,y6,y7,and_self,iTn,jG,r5,n3,a33,c35,d5,c34,r6,r7,e6,e7,m7,s7,d6,c36,d7,p8];refine qQa pl211 ((bytes3 w.drew h4 (by simp;omega)).mono ?_);rintro v5 w5 ⟨b5,f5⟩;have f05:No w0 w5:=fw.drew.trans f5;have k5:=f5.at (show w.drew.heap[w0.heap.size+1]?=_ from j2) id;have k15:=f5.at (show w.drew.heap[w0.heap.size]?=_ from j1) id;have o5:one v5=true:=by obtain⟨a,c,rfl⟩:=b5.slice;rfl
  have lt5:∀ c,qQb v5=some c→w0.heap.size+1<c:=fun c hc=>by
   have:=(b5.lt hc).1;have h1:w0.heap.size+1<w.heap.size:=qQl j2;have h2:w.heap.size≤c:=this;omega
  have w6:=wr1 (P:=prog) (t:=25) (w:=w5) (b:=w0.heap.size+1) (o:=33) (v:=v5) sz25 o5 k5 (by rw[qQo _ _ kl];omega);rw[chC_val kl]at w6;have k6:=qQf (o:=.cells (chC key false v5) 181 (0,0)) k5;have k16:=qQq (b:=w0.heap.size+1) (o:=.cells (chC key false v5) 181 (0,0)) k15 (by omega);have f6:=lst1 w5 (chC key false v5) f05;have b6:=b5.put (b:=w0.heap.size+1) (.cells (chC key false v5) 181 (0,0)) fun c hc=>by have:=lt5 c hc;omega
  generalize put w5 (w0.heap.size+1) (.cells (chC key false v5) 181 (0,0))=W6 at *;have rc6:=rdc W6 _ _ _ k6 kl;obtain⟨q6,l6⟩:=fin W6 key false v5 k16 kl o5;simp -implicitDefEqProofs only[go_sem,jU,w6,rc6,c36,q6,l6];refine⟨lst _ _ f6,_,_,_,_,_,rfl,kl,o5,rfl,rfl,rfl,?_,(fun h=>absurd h (by simp)),at'+35+n,rfl,by omega,rfl⟩;exact (b6.put (b:=w0.heap.size) (.cells (chC key false v5) 181 (0,0)) fun c hc=>by have:=lt5 c hc;omega).back (show w0.heap.size≤w.heap.size from fw.size)
end R
namespace R
def psI (w0:World)(sv:Value)(s s0:Bs)(n:Nat)(m:Nat)(vs:List Value)(w:World):Prop :=
 ∃ (i at':Nat) (cv:Value) (l:List Bat.Ch) (rows:Rows),vs=[sv,.int .i64 (n:Nat),cv,.int .i64 (at':Nat),.int .i64 (i:Nat)]∧i≤n∧m=n - i∧at'≤s.length∧Bat.takesP i s0=.ok (l,s.drop at') ∧
  NwR w0 w 181 34 cv rows∧rows.length=l.length∧(∀ i (h:i<rows.length) (h':i<l.length),∃ vv,rows[i]=V.chRow l[i] vv∧one vv=true∧By w vv l[i].val∧(∀ b,qQb vv=some b→b<w.heap.size∧qQb cv≠some b)∧(l[i].del=true→vv=.slice .none 0 0)∧l[i].key.length=32)∧No w0 w
theorem parse3 (w0:World)(hr:By w0 rv s)(hl:s.length≤2 ^ 50):Fn prog 138 #[rv] w0 (PsQ w0 (Bat.parseP s)):=by
 refine go138 (by simp) ?_;obtain⟨xa,xc,rfl,hxc⟩:=hr.slice
 by_cases h2:s.length<2
 ·have d0:=dTo (((s.length:Nat):Int)<2)
  simp -implicitDefEqProofs only[go_sem,jU,gLa,gLz,Tryz.f138,d0];have:Bat.parseP s=.error 30:=by unfold Bat.parseP;rw[if_pos h2]
  rw[this];exact⟨Fr.refl _ _,_,_,_,rfl,rfl⟩
 have d0:=dFo (((s.length:Nat):Int)<2);obtain⟨b,o,cap,he,hcap⟩:=hr.pos (by omega);cases he;have r0:rdO prog 5 w0 b o=some (.int .u8 ((s.getD 0 0).toNat:Int)):=by have:=hr.get (P:=prog) agg5 (i:=0) (by omega);rw[jE]at this;exact this
 have r1:rdO prog 5 w0 b (o+1)=some (.int .u8 ((s.getD 1 0).toNat:Int)):=hr.get (P:=prog) agg5 (i:=1) (by omega);have r0d:rdO prog 5 w0.drew b o=some (.int .u8 ((s.getD 0 0).toNat:Int)):=r0;have r1d:rdO prog 5 w0.drew b (o+1)=some (.int .u8 ((s.getD 1 0).toNat:Int)):=r1;have y0:(0:Int)≤0∧(0:Int)<((s.length:Nat):Int):=by omega
 have y1:(0:Int)≤1∧(1:Int)<((s.length:Nat):Int):=by omega
 have b6:=(s.getD 0 0).isLt;have b7:=(s.getD 1 0).isLt;have c0:IntKind.i64.wrap ((s.getD 0 0).toNat:Int)=(((s.getD 0 0).toNat:Nat):Int):=i64n;have c1:IntKind.i64.wrap ((s.getD 1 0).toNat:Int)=(((s.getD 1 0).toNat:Nat):Int):=i64n;have m7:IntKind.i64.wrap (256*((s.getD 1 0).toNat:Int))=((256*(s.getD 1 0).toNat:Nat):Int):=by rw[show (256*((s.getD 1 0).toNat:Int))=((256*(s.getD 1 0).toNat:Nat):Int) by push_cast;rfl];exact i64n
 have s7:IntKind.i64.wrap (((s.getD 0 0).toNat:Int)+((256*(s.getD 1 0).toNat:Nat):Int))=(((s.getD 0 0).toNat+256*(s.getD 1 0).toNat:Nat):Int):=qXd
 have hpp : Bat.parseP s = if 64 < (s.getD 0 0).toNat + 256 * (s.getD 1 0).toNat then .error 31
     else match Bat.takesP ((s.getD 0 0).toNat + 256 * (s.getD 1 0).toNat) (s.drop 2) with
       | .error e => .error e
       | .ok (l,r) => if r ≠ [] then .error 30 else if (l.map Bat.Ch.key).Nodup then .ok l else .error 33 := by unfold Bat.parseP; rw [if_neg h2]; rfl
 rw[hpp];generalize (s.getD 0 0).toNat+256*(s.getD 1 0).toNat=n at *
 by_cases h64:64<n
 ·have dn:=dTo (((n:Nat):Int) > 64)
  simp -implicitDefEqProofs only[go_sem,jU,gLa,gLz,Tryz.f138,d0,y0,y1,and_self,vP,kY,jG,jC,r0d,r1d,c0,c1,m7,s7,dn];rw[if_pos h64];exact⟨(Fr.refl _ _).drew,_,_,_,rfl,rfl⟩
 have dn:=dFo (((n:Nat):Int) > 64);rw[if_neg h64]
 obtain ⟨Y, hY⟩ : ∃ Y : Except Int (List Bat.Ch), Y = match Bat.takesP n (s.drop 2) with
       | .error e => .error e
       | .ok (l,r) => if r ≠ [] then .error 30 else if (l.map Bat.Ch.key).Nodup then .ok l else .error 33 := ⟨_,rfl⟩
 rw[← hY];simp -implicitDefEqProofs only[go_sem,jU,gLa,gLz,Tryz.f138,d0,y0,y1,and_self,vP,kY,jG,jC,r0d,r1d,c0,c1,m7,s7,dn];refine loopD [0,5,6,7,8] (psI w0 (.slice (some ⟨b,o,.none⟩) s.length xc) s (s.drop 2) n) n ⟨0,2,.slice .none 0 0,[],[],rfl,by omega,rfl,by omega,rfl,NwR.nil _ _ _ _,rfl,(fun i h=>absurd h (by simp)),(Fr.refl _ _).drew⟩ ?_;rintro _ vs w g ⟨i,at',cv,l,rows,rfl,hi,rfl,hat,htk,hN,hrows,hch,fw⟩
 by_cases hlt:i<n
 ·have d1:=dTo ((i:Int)<((n:Nat):Int))
  simp -implicitDefEqProofs only[go_sem,jU,d1];refine qQa pl183 ((one3 w (hr.fr0 fw) hl at' hat).mono ?_);rintro _ w2 ⟨f2,k,d,v,m,e,rfl,hk,ho,hm⟩;have f02:=fw.trans f2;have hsn:=Bat.takesP_snoc htk
  cases ht:Bat.takeP (s.drop at') with
  | error e' =>
   rw[ht]at hm hsn;obtain rfl:e=e':=hm;have hne:e≠0:=Wit.takeP_err ht;have he0:(e != 0)=true:=by rw[bne_iff_ne];exact hne
   have hYe:Y=.error e:=by rw[hY,Bat.takesP_err hsn n (by omega)]
   obtain⟨W3,hW3,f3,k3,s3⟩:=qQr w2 (chC (zF 32 0) false (.slice .none 0 0)) 181;have q3:wrO prog 181 W3 w2.heap.size 0 (.agg (chC k d v))=some (put W3 w2.heap.size (.cells (chC k d v) 181 (0,0))):=qQt (by rw[qQo d v hk];exact sz181) k3 (by rw[qQo _ _ lRe,qQo _ _ hk]) (qZk d ho);simp -implicitDefEqProofs only[go_sem,jU,gLa,gLz,gLs,jB,qXe,hW3,q3,he0];rw[hYe];exact⟨(f02.trans f3).put (b:=w2.heap.size) _ fun h=>by have:=f02.size;omega,_,_,_,rfl,rfl⟩
  | ok p =>
   rw[ht]at hm hsn;obtain⟨rfl,hck,hcd,nv,dv,m',rfl,hm',hp2⟩:=hm;obtain⟨c,r2⟩:=p;simp only at hck hcd nv hp2 hsn;subst hck hcd hp2;obtain⟨W3,hW3,f3,k3,s3⟩:=qQr w2 (chC (zF 32 0) false (.slice .none 0 0)) 181;have q3:wrO prog 181 W3 w2.heap.size 0 (.agg (chC c.key c.del v))=some (put W3 w2.heap.size (.cells (chC c.key c.del v) 181 (0,0))):=qQt (by rw[qQo _ v hk];exact sz181) k3 (by rw[qQo _ _ lRe,qQo _ _ hk]) (qZk _ ho);have k4:=qQf (o:=.cells (chC c.key c.del v) 181 (0,0)) k3;have f24:No w2 (put W3 w2.heap.size (.cells (chC c.key c.del v) 181 (0,0))):=f3.put (b:=w2.heap.size) _ fun h=>absurd h (jH _);have f4:No w0 (put W3 w2.heap.size (.cells (chC c.key c.del v) 181 (0,0))):=f02.trans f24
   obtain⟨w4,hw4⟩:∃ w4,w4=put W3 w2.heap.size (.cells (chC c.key c.del v) 181 (0,0)):=⟨_,rfl⟩
   rw[← hw4]at q3 k4 f24 f4;have r4:rdO prog 181 w4 w2.heap.size 0=some (.agg (chC c.key c.del v)):=qXp agg181 (by rw[qQo _ v hk];exact sz181) k4;simp -implicitDefEqProofs only[go_sem,jU,gLa,gLz,gLs,jB,qXe,hW3,q3,bNe,r4];refine qQj (v:=.slice (some ⟨w4.heap.size,0,.none⟩) 1 1) (w':=w4.alloc (.cells (chC c.key c.del v) 181)) (qZb (K:=34) (by decide) (by decide) (by simp[chC]) (by simp[chC]) (qQo _ _ hk) _) ?_;have hN4:=(hN.fr0 f2).fr0 f24;obtain⟨v8,w8,hr8,b8,g8,m8⟩:=hN4.push (P:=prog) app151_151 (xs:=V.chRow c v) (by simp[V.chRow,hk]) (by have:=qZk (k:=c.key) c.del ho;rw[← Array.all_toList]at this;simpa [chC,V.chRow] using this) (by decide) (by have:=(Bat.takesP_ok htk).1;omega) (by have:=(Bat.takesP_ok htk).1;omega) f4.size;have hr8:(Builtin.append_ #[151,151] 0 #[cv,.slice (some ⟨w4.heap.size,0,.none⟩) 1 1]).run prog (w4.alloc (.cells (chC c.key c.del v) 181))=.ok v8 w8:=hr8;have f8:No w0 w8:=f4.trans' g8 fun b' hb' h=>by have:=(hN.lt h).1;omega
   have c1:=iSu (i:=i);simp -implicitDefEqProofs only[go_sem,jU];refine qQg ⟨v8,w8,hr8,?_⟩;simp -implicitDefEqProofs only[go_sem,jU,c1];have s24:=f24.size;have s2:=f2.size;have s8:=g8.size;refine⟨n - (i+1),by omega,i+1,m',v8,l++[c],rows++[V.chRow c v],rfl,by omega,rfl,hm',hsn,b8,by simp[hrows],?_,f8⟩
   ·have hcv:∀ b',qQb cv=some b'→b'<w.heap.size:=fun b' h=>(hN.lt h).2
    intro q hq hq'
    by_cases hql:q<rows.length
    ·obtain⟨vv,a1,a2,a3,a4,a5,a6⟩:=hch q hql (by omega)
     have el:(l++[c])[q]=l[q]'(by omega):=jK (by omega);rw[el];refine⟨vv,by rw[jK hql];exact a1,a2,?_,fun b' h=>⟨by have:=(a4 b' h).1;omega,fun h'=>?_⟩,a5,a6⟩
     ·exact ((a3.fr0 f2).fr0 f24).fr g8 fun b' h _ h'=>(a4 b' h).2 h'
     ·rcases m8 b' h' with h'' | h''
      ·exact (a4 b' h).2 h''
      ·have:=(a4 b' h).1;omega
    ·obtain rfl:q=rows.length:=by simp at hq;omega
     have el:(l++[c])[rows.length]'hq'=c:=by simp[hrows]
     rw[el];refine⟨v,by simp,ho,?_,fun b' h=>⟨by have:=(nv.lt h).2;omega,fun h'=>?_⟩,dv,hk⟩
     ·exact (nv.by.fr0 f24).fr g8 fun b' h _ h'=>by have:=(nv.lt h).1;have:=hcv b' h';omega
     ·rcases m8 b' h' with h'' | h''
      ·have:=(nv.lt h).1;have:=hcv b' h'';omega
      ·have:=(nv.lt h).2;omega
 ·have d1:=dFo ((i:Int)<((n:Nat):Int))
  obtain rfl:i=n:=by omega
  rw[htk]at hY
  by_cases hr0:at'=s.length
  ·have d2:(((at':Nat):Int) != ((s.length:Nat):Int))=false:=by rw[hr0];simp
   have hd0:s.drop at'=[]:=List.drop_of_length_le (by omega)
   replace hY:Y=if (l.map Bat.Ch.key).Nodup then .ok l else .error 33:=by rw[hY];exact if_neg (by simp[hd0])
   have hC:ChN w0 w cv l:=⟨rows,hN,hrows,fun i a b=>by
    obtain⟨vv,e1,e2,e3,_,e5,e6⟩:=hch i a b
    exact⟨vv,e1,e2,e3,e5,e6⟩⟩
   simp -implicitDefEqProofs only[go_sem,jU,gLa,gLz,d1,d2];refine qQa pl184 ((twice w hC.rd (by have:=(Bat.takesP_ok htk).1;omega)).mono ?_);rintro _ w2 ⟨f2,z,rfl,hz⟩
   by_cases hz0:0≤z
   ·have d3:decide (z ≥ 0)=true:=decide_eq_true hz0
    rw[if_neg (hz.1 hz0)]at hY;simp -implicitDefEqProofs only[go_sem,jU,d3];rw[hY];exact⟨fw.trans f2,_,_,_,rfl,rfl⟩
   ·have d3:decide (z ≥ 0)=false:=decide_eq_false hz0
    rw[if_pos (by by_cases h:(l.map Bat.Ch.key).Nodup;exact h;exact absurd (hz.2 h) hz0)]at hY;simp -implicitDefEqProofs only[go_sem,jU,d3];rw[hY];exact⟨fw.trans f2,_,_,_,rfl,rfl,hC.fr0 f2⟩
  ·have d2:(((at':Nat):Int) != ((s.length:Nat):Int))=true:=by rw[bne_iff_ne];omega
   have hd0:s.drop at'≠[]:=fun h=>by have:=congrArg List.length h;simp at this;omega
   replace hY:Y=.error 30:=by rw[hY];exact if_pos hd0
   simp -implicitDefEqProofs only[go_sem,jU,gLa,gLz,d1,d2];rw[hY];exact⟨fw,_,_,_,rfl,rfl⟩
end R
end Go.V
