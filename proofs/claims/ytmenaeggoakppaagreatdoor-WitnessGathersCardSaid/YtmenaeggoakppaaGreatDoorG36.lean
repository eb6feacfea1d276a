/- Helpers. -/
import Derived.Test.YtmenaeggoakppaaGreatDoorG34
import Derived.Test.YtmenaeggoakppaaGreatDoorG35
import Derived.Test.YtmenaeggoakppaaGreatDoorG31
set_option linter.all false
set_option maxRecDepth 100000
set_option maxHeartbeats 8000000
open Int renaming toNat_zero→vL
open List renaming replicate→zG,range→zQ,take_of_length_le→zF,length_filter_le→kS,getElem?_take→zZ
open Nat renaming reduceEqDiff→jF,zero_mul→jA,sub_zero→jE,zero_add→z8,mul_one→jH,le_refl→xP
open Go.Value renaming cells→jM
open Go.V.Wit renaming ansP→yS,poss→kA
namespace Go.V
open Go.Proofs.Tryz Go.V.Tryz
open Go.Proofs Sha
variable {bits k r s:Bs} {wd:Int} {p:List Value} {cb h i rb:Nat} {a:Option Bs} {bv rv:Value} {w:World}
theorem mbit_and1 (bits:Bs)(g:Nat):(andK .u8 (shrK .u8 ((bits.getD (g / 8) 0).toNat:Int) ((g % 8:Nat):Int)) 1 == 1)=Wit.mbit bits g:=by
 have hx:=(bits.getD (g / 8) 0).isLt
 have hb:Wit.mbit bits g=decide ((bits.getD (g / 8) 0).toNat / 2 ^ (g % 8) % 2=1):=by
  show Nat.testBit _ _=_;rw[Nat.testBit_eq_decide_div_mod_eq]
 rw[hb];generalize (bits.getD (g / 8) 0).toNat=x at *;have hq:x / 2 ^ (g % 8)≤x:=Nat.div_le_self _ _;rw[shr8i x _ (by omega),and8_1 _ (by omega)];have h2:x / 2 ^ (g % 8) % 2<2:=Nat.mod_lt _ (by decide);generalize x / 2 ^ (g % 8) % 2=y at *
 obtain rfl | rfl:y=0∨y=1:=by omega
 ·rfl
 ·rfl
namespace C
theorem bitOf (w0:World){b o:Nat}(hb:∀ i,i<32→rdO prog 5 w0 b (o+2+i)=some (u8 (bits.getD i 0)))(hh:h<256):Fn prog 200 #[pt b o,.int .i64 (h:Nat)] w0 fun v w'=>v=.bool (Wit.mbit bits h)∧w'=w0:=by
 refine go200 (by simp) ?_;have n8:((8:Int)=0)=False:=by simp
 have a1:IntKind.i64.wrap ((h:Int).tdiv 8)=((h / 8:Nat):Int):=by rw[show (h:Int).tdiv 8=((h / 8:Nat):Int) from rfl];exact i64n
 have a2:(h:Int).tmod 8=((h % 8:Nat):Int):=rfl;have a3:IntKind.i64.wrap ((h % 8:Nat):Int)=((h % 8:Nat):Int):=i64n;have n2:¬ (((h % 8:Nat):Int)<0):=by omega
 have y:(0:Int)≤((h / 8:Nat):Int)∧((h / 8:Nat):Int)<((32:Nat):Int):=by omega
 have y2:=y.2;have r:rdO prog 5 w0 b (o+2+h / 8)=some (.int .u8 ((bits.getD (h / 8) 0).toNat:Int)):=hb _ (by omega);have hm:=mbit_and1 bits h;simp -implicitDefEqProofs only[go_sem,jF,Tryz.f200,n8,a1,a2,n2,y,and_self,iTn,jH,r,hm]
theorem wide (w0:World){root:Bs}{e:Bs}(hC:Ck w0 cb wd k rv root p e bv):Fn prog 150 #[pt cb 0] w0 fun v w'=>v=.int .i64 (if wd<1∨32<wd then 1 else 0)∧No w0 w':=by
 refine go150 (by simp) ?_;have r:=hC.wd0
 by_cases h1:wd<1
 ·have d1:decide (wd<1)=true:=decide_eq_true h1
  simp -implicitDefEqProofs only[go_sem,jF,gLa,gLz,gLs,Tryz.f150,r,d1,tf_beq];rw[if_pos (.inl h1)];exact⟨rfl,Fr.refl _ _⟩
 have d1:decide (wd<1)=false:=decide_eq_false h1
 by_cases h2:32<wd
 ·have d2:decide (wd > 32)=true:=decide_eq_true h2
  simp -implicitDefEqProofs only[go_sem,jF,gLa,gLz,gLs,Tryz.f150,r,d1,d2,bSe];rw[if_pos (.inr h2)];exact⟨rfl,Fr.refl _ _⟩
 have d2:decide (wd > 32)=false:=decide_eq_false h2;simp -implicitDefEqProofs only[go_sem,jF,gLa,gLz,gLs,Tryz.f150,r,d1,d2,bSe];rw[if_neg (by omega)];exact⟨rfl,Fr.refl _ _⟩
theorem sides (w0:World){k d n:Bs}(hk:k.length=32)(hd:d.length=32)(hn:n.length=32)(hh:h<256) :
  Fn prog 158 #[dg k,.int .i64 (h:Nat),dg d,dg n] w0 fun v w'=>v=.tuple (if kbit k (255 - h) then #[dg n,dg d] else #[dg d,dg n])∧No w0 w':=by
 refine go158 (by simp) ?_;obtain⟨W,hW,f1,k1,k2,k3,k4,s1⟩:=allocs4 w0 (bl k) 34 (bl d) 23 (bl n) 23 (bl (zG 32 0)) 23;obtain⟨W2,hW2,f2,k5,s2⟩:=qQs W (bl (zG 32 0)) 23;have f02:=f1.trans f2;have k1:=f2.at k1 id;have k2:=f2.at k2 id;have k3:=f2.at k3 id;have k4:=f2.at k4 id;rw[s1]at k5;have rk:=rd_d agg34 sz34 k1 hk;have c1:IntKind.i64.wrap (255 - (h:Int))=((255 - h:Nat):Int):=qXl (a:=255) (b:=h) (by omega) (by omega);simp -implicitDefEqProofs only[go_sem,jF,Nat.reduceAdd,Tryz.f158,jM,qQj,hW,hW2,s1,rk,c1];refine qQa pl92 ((bbit W2 hk (i:=255 - h) (by omega)).mono ?_);rintro _ w3 ⟨rfl,f3⟩;have f03:=f02.trans f3;have k2:=f3.at k2 id;have k3:=f3.at k3 id;have k4:=f3.at k4 id;have k5:=f3.at k5 id;have rd3:=rd_d agg23 sz23 k2 hd;have rn3:=rd_d agg23 sz23 k3 hn;have rd3d:rdO prog 23 w3.drew (w0.heap.size+1) 0=some (dg d):=rd3;have rn3d:rdO prog 23 w3.drew (w0.heap.size+1+1) 0=some (dg n):=rn3
 have fin:∀ x y:Bs, x.length=32→y.length=32→∃ u v, wrO prog 23 w3.drew (w0.heap.size+1+1+1) 0 (dg x)=some u∧wrO prog 23 u (w0.heap.size+4) 0 (dg y)=some v∧rdO prog 23 v (w0.heap.size+1+1+1) 0=some (dg x)∧rdO prog 23 v (w0.heap.size+4) 0=some (dg y) ∧
   rdO prog 23 u (w0.heap.size+1) 0=some (dg d)∧rdO prog 23 u (w0.heap.size+1+1) 0=some (dg n)∧No w0 v:=fun x y hx hy=>by
  have k4d:w3.drew.heap[w0.heap.size+1+1+1]?=_:=k4;have k5d:w3.drew.heap[w0.heap.size+4]?=_:=k5;have k2d:w3.drew.heap[w0.heap.size+1]?=_:=k2;have k3d:w3.drew.heap[w0.heap.size+1+1]?=_:=k3;have q1:=wr_d sz23 k4d zl32 hx;have k4':=qQf (o:=.cells (bl x) 23 (0,0)) k4d;have k5':=qQr (b:=w0.heap.size+1+1+1) (o:=.cells (bl x) 23 (0,0)) k5d (by omega);have k2':=qQr (b:=w0.heap.size+1+1+1) (o:=.cells (bl x) 23 (0,0)) k2d (by omega);have k3':=qQr (b:=w0.heap.size+1+1+1) (o:=.cells (bl x) 23 (0,0)) k3d (by omega);have f4:No w0 (put w3.drew (w0.heap.size+1+1+1) (.cells (bl x) 23 (0,0))):=f03.drew.put (b:=w0.heap.size+1+1+1) _ fun h=>by omega
  have q2:=wr_d sz23 k5' zl32 hy;exact⟨_,_,q1,q2,rd_d agg23 sz23 (qQr (b:=w0.heap.size+4) (o:=.cells (bl y) 23 (0,0)) k4' (by omega)) hx,rd_d agg23 sz23 (qQf (o:=.cells (bl y) 23 (0,0)) k5') hy,rd_d agg23 sz23 k2' hd,rd_d agg23 sz23 k3' hn,f4.put (b:=w0.heap.size+4) _ fun h=>by omega⟩
 cases hb:kbit k (255 - h) with
 | true =>
  have e1:kb k (255 - h)=1:=by unfold kb;rw[hb];rfl
  obtain⟨u,v,q1,q2,r1,r2,r3,r4,f4⟩:=fin n d hn hd;have d0:((1:Int) == 0)=false:=rfl;simp -implicitDefEqProofs only[go_sem,e1,d0];refine qJo (fun _=>false) (.two 0 (.two 1 (.row [2,3]) 2 (.row [1,3])) 1 (.row [0,2,3])) rfl (by kernel_rfl) (by kernel_rfl) ?_;simp only[OT.row];simp -implicitDefEqProofs only[go_sem,jF,gLa,gLz,gLs,rd3d,rn3d,q1,q2,r1,r2,r3,Bool.false_eq_true,false_implies,true_and,and_self];exact f4
 | false =>
  have e1:kb k (255 - h)=0:=by unfold kb;rw[hb];rfl
  obtain⟨u,v,q1,q2,r1,r2,r3,r4,f4⟩:=fin d n hd hn;simp -implicitDefEqProofs only[go_sem,e1,bSe];refine qJo (fun _=>false) (.two 0 (.two 1 (.row [2,3]) 2 (.row [1,3])) 1 (.row [0,2,3])) rfl (by kernel_rfl) (by kernel_rfl) ?_;simp only[OT.row];simp -implicitDefEqProofs only[go_sem,jF,gLa,gLz,gLs,rd3d,rn3d,q1,q2,r1,r2,r4,Bool.false_eq_true,false_implies,true_and,and_self];exact f4
theorem first (w0:World)(ht:Tabs w0){root:Bs}{vv:Value}{sv:Value}{e:Bs}(hC:Ck w0 cb wd k rv root (prL a.isSome vv bits sv) e bv)(hv:By w0 vv (a.getD []))(hl:∀ v, a=some v→v.length≤128) :
  Fn prog 156 #[pt cb 0] w0 fun v w'=>v=dg (Wit.ldig wd k a)∧No w0 w':=by
 refine go156 (by simp) ?_;obtain⟨W,hW,f1,k1,s1⟩:=qQs w0 (bl (zG 32 0)) 23;have hC1:=hC.fr0 f1;have r1:=hC1.rdFound;have r2:=hC1.wd0;have r3:=hC1.key;have r4:=hC1.val;have r2d:rdO prog 3 W.drew cb 0=_:=r2;have r3d:rdO prog 34 W.drew cb 1=_:=r3;have r4d:rdO prog 25 W.drew cb 67=_:=r4;have hdl:=Wit.ldig_len wd k a
 have fin:∀ w d,No W w→d.length=32→∃ v,wrO prog 23 w w0.heap.size 0 (dg d)=some v∧rdO prog 23 v w0.heap.size 0=some (dg d)∧No w0 v:=fun w d f hd=>by
  have k:=f.at k1 id;exact⟨_,wr_d sz23 k zl32 hd,rd_d agg23 sz23 (qQf (o:=.cells (bl d) 23 (0,0)) k) hd,(f1.trans f).put (b:=w0.heap.size) _ fun h=>absurd h (Nat.lt_irrefl _)⟩
 cases a with
 | none =>
  dsimp only[Option.isSome]at r1;simp -implicitDefEqProofs only[go_sem,jF,Tryz.f156,jM,qQj,hW,r1,r2];refine qQa pl108 ((empty0 W (ht.no f1) wd).mono ?_);rintro _ w3 ⟨rfl,f3⟩;obtain⟨v,q,r,f⟩:=fin w3 _ f3 hdl;have q:wrO prog 23 w3 w0.heap.size 0 (dg (emptD wd 0))=some v:=q;have r:rdO prog 23 v w0.heap.size 0=some (dg (emptD wd 0)):=r;simp -implicitDefEqProofs only[go_sem,jF,q,r];refine⟨?_,f⟩
  rfl
 | some val =>
  dsimp only[Option.isSome]at r1;simp -implicitDefEqProofs only[go_sem,jF,Nat.reduceAdd,Tryz.f156,jM,qQj,hW,r1,r2d,r3d,r4d];refine qQa pl107 ((leaf W.drew (ht.no f1.drew) wd hC.lk ((hv.fr0 f1).fr0 (Fr.refl _ _).drew) (by have:=hl val rfl;show val.length≤_;omega)).mono ?_);rintro _ w3 ⟨rfl,f3⟩;obtain⟨v,q,r,f⟩:=fin w3 _ ((Fr.refl _ _).drew.trans f3) hdl;have q:wrO prog 23 w3 w0.heap.size 0 (dg (leafD wd k val))=some v:=q;have r:rdO prog 23 v w0.heap.size 0=some (dg (leafD wd k val)):=r;simp -implicitDefEqProofs only[go_sem,jF,Option.getD_some,q,r];refine⟨?_,f⟩
  rfl
def bdL (wd:Int)(i:Nat):List Bs:=(empts wd 256).take i++zds.drop i
theorem bdL_zero (wd:Int):bdL wd 0=zds:=rfl
theorem bdL_full (wd:Int):bdL wd 256=empts wd 256:=by
 unfold bdL;rw[zF (by rw[qQm];exact xP _),List.drop_of_length_le (by simp[zds]),List.append_nil]
theorem bdL_len (wd:Int)(h:i≤256):(bdL wd i).length=256:=by
 unfold bdL;rw[lAp,lTk,lDr,qQm];simp[zds];omega
theorem bdL_set (wd:Int)(h:i<256):(bdL wd i).set i (emptD wd i)=bdL wd (i+1):=by
 unfold bdL;have h1:((empts wd 256).take i).length=i:=by rw[lTk,qQm];omega
 have hz:i<zds.length:=by simp[zds];exact h
 rw[List.set_append_right _ _ (by omega),h1,Nat.sub_self,List.drop_eq_getElem_cons hz,List.set_cons_zero,tSg (by rw[qQm];exact h)];simp[empts]
def baI (w0:World)(cb rb db b2:Nat)(wd:Int)(k:Bs)(rv:Value)(root:Bs)(p:List Value)(e:Bs)(hv:Value)(n:Nat)(vs:List Value)(w:World):Prop :=
 ∃ (i:Nat),vs=[pt cb 0,hv,pt rb 0,pt db 0,.int .i64 256,.int .i64 (i:Nat)]∧i≤256∧n=256 - i∧Ck w cb wd k rv root p e (.slice (some ⟨b2,0,.none⟩) 256 256)∧w.heap[db]?=some (.cells (bl (emptD wd i)) 23 (0,0))∧w.heap[rb]?=some (.cells (bl (zG 32 0)) 23 (0,0)) ∧
  NwD wE w 23 (.slice (some ⟨b2,0,.none⟩) 256 256) (bdL wd i)∧Fr (fun b=>b=cb) w0 w
theorem bare (w0:World)(ht:Tabs w0){root:Bs}{e:Bs}(hC:Ck w0 cb wd k rv root p e bv)(hB:Bl w0 cb wd bv)(hcb:5≤cb)(hh:h<256) :
  Fn prog 201 #[pt cb 0,.int .i64 (h:Nat)] w0 fun v w'=>v=dg (emptD wd h)∧Fr (fun b=>b=cb) w0 w'∧∃ bv',Ck w' cb wd k rv root p e bv'∧RdD w' bv' (empts wd 256)∧(∀ b,qQb bv'=some b→b≠cb)∧((bv=.slice .none 0 0∧∀ b,qQb bv'=some b→w0.heap.size≤b)∨bv'=bv):=by
 refine go201 (by simp) ?_;obtain⟨W,hW,f1,k1,s1⟩:=qQs w0 (bl (zG 32 0)) 23;have hC1:=hC.fr0 f1;have hB1:=hB.fr0 f1;have r1:=hC1.blank;have rlt:w0.heap.size≠cb:=by have:=hC.lt;omega
 have hdl:=qQp wd h;have y1:=iBd (i:=h) (n:=256)
 have fin:∀ (w:World) (bv':Value), w.heap[w0.heap.size]?=some (.cells (bl (zG 32 0)) 23 (0, 0))→Fr (fun b=>b=cb) w0 w→Ck w cb wd k rv root p e bv'→RdD w bv' (empts wd 256)→(∀ b, qQb bv'=some b→b≠cb)→(∀ b, qQb bv'=some b→b≠w0.heap.size)→((bv=.slice .none 0 0∧∀ b, qQb bv'=some b→w0.heap.size≤b)∨bv'=bv) →
   ∃ b o cap v,bv'=.slice (some ⟨b,o,.none⟩) 256 cap∧rdO prog 23 w b (o+h*32)=some (dg (emptD wd h))∧wrO prog 23 w w0.heap.size 0 (dg (emptD wd h))=some v∧rdO prog 23 v w0.heap.size 0=some (dg (emptD wd h)) ∧
    Fr (fun b=>b=cb) w0 v∧∃ bv',Ck v cb wd k rv root p e bv'∧RdD v bv' (empts wd 256)∧(∀ b,qQb bv'=some b→b≠cb)∧((bv=.slice .none 0 0∧∀ b,qQb bv'=some b→w0.heap.size≤b)∨bv'=bv):=fun w bv' k f hC hR hn hne hor=>by
  obtain⟨b,o,cap,he,_,hbl⟩:=hR.pos (by rw[qQm];omega);rw[qQm]at he;subst he;have g:=hR.get (P:=prog) agg23 sz23 (i:=h) (by rw[qQm];exact hh);have eg:(empts wd 256).getD h []=emptD wd h:=by rw[gDq,qXw wd 256 hh];rfl
  rw[eg]at g;have fp:Fr (fun b=>b=w0.heap.size) w (put w w0.heap.size (.cells (bl (emptD wd h)) 23 (0,0))):=(Fr.refl _ _).put (b:=w0.heap.size) _ fun _=>rfl
  exact⟨b,o,cap,_,rfl,g,wr_d sz23 k zl32 hdl,rd_d agg23 sz23 (qQf (o:=.cells (bl (emptD wd h)) 23 (0,0)) k) hdl,
   f.put (b:=w0.heap.size) _ (fun h=>absurd h (Nat.lt_irrefl _)),_,hC.fr fp (fun h=>rlt h.symm),hR.fr fp fun c hc _ h=>hne c hc h,hn,hor⟩
 rcases hB1 with rfl | ⟨hR,hn⟩
 ·have hn0:Ck W cb wd k rv root p e (.slice .none 0 0):=hC1
  obtain⟨w2,hr2,n2,f2,s2⟩:=mk256 W;simp -implicitDefEqProofs only[go_sem,jF,Tryz.f201,jM,qQj,hW,r1];refine qQg ⟨_,_,hr2,?_⟩;obtain⟨w3,q3,hC3,f3⟩:=(hC1.fr0 f2).putB (bv':=.slice (some ⟨W.heap.size,0,.none⟩) 256 256) rfl;have n3:=n2.fr f3 fun b hb h=>by simp only[qQb,oSi]at hb;have:=hC1.lt;omega
  have f03:Fr (fun b=>b=cb) w0 w3:=((f1.trans f2).mono fun _ _ h=>h.elim).trans f3;have k3:=f3.at (f2.at k1 id) rlt;have r3:=hC3.wd0;simp -implicitDefEqProofs only[go_sem,jF,q3,r3];refine qQa pl108 ((empty0 w3 (ht.fr f03 fun b hb h=>by omega) wd).mono ?_);rintro _ w4 ⟨rfl,f4⟩;obtain⟨w5,q5,k5,f5,s5⟩:=R.allocD w4 sz23 (qQp wd 0);have f35:=f4.trans f5;have hC5:=hC3.fr0 f35;have r5:=hC5.blank;have n5:=n3.fr0 f35;have k15:=f35.at k3 id;have s34:=f4.size;have z2:W.heap.size<w4.heap.size:=by have:=f3.size;omega
  have zc:cb<w4.heap.size:=by have:=hC1.lt;omega
  have zr:w0.heap.size<w4.heap.size:=by omega
  simp -implicitDefEqProofs only[go_sem,jF,gLa,gLz,jM,qQj,q5,r5];rw[← bdL_zero wd]at n5;refine loopD [0,1,4,5,25,26] (baI w0 cb w0.heap.size w4.heap.size W.heap.size wd k rv root p e (.int .i64 (h:Nat))) 256 ⟨0,rfl,by omega,rfl,hC5,k5,k15,n5,f03.trans (f35.mono fun _ _ h=>h.elim)⟩ ?_;rintro _ vs w6 g ⟨i,rfl,hi,rfl,hC6,k6,k16,n6,f6⟩
  by_cases hlt:i<256
  ·have d1:=dTo ((i:Int)<256)
   have y2:=iBd (i:=i) (n:=256);have c1:=iSu (i:=i);have r6:=hC6.blank;have r6d:rdO prog 94 w6.drew cb 133=_:=r6;have re:=rd_d agg23 sz23 k6 (qQp wd i);have red:rdO prog 23 w6.drew w4.heap.size 0=some (dg (emptD wd i)):=re;have n6d:=n6.fr0 (Fr.refl (fun _=>False) w6).drew;obtain⟨w7,q7,n7,f7⟩:=n6d.set (P:=prog) sz23 (i:=i) (by rw[bdL_len wd (by omega)];exact hlt) (qQp wd i);rw[bdL_set wd hlt,z8]at *;have ne1:¬ cb=W.heap.size:=by have:=hC1.lt;omega
   have hC7:=(hC6.fr0 (Fr.refl (fun _=>False) w6).drew).fr f7 ne1;have f07:Fr (fun b=>b=cb) w0 w7:=f6.drew.trans' f7 fun b hb h=>by omega
   have k7:=f7.at (show w6.drew.heap[w4.heap.size]?=_ from k6) (by omega);have k17:=f7.at (show w6.drew.heap[w0.heap.size]?=_ from k16) (by omega);have r7:=hC7.wd0;have r7d:rdO prog 3 w7.drew cb 0=_:=r7;have re7:=rd_d agg23 sz23 k7 (qQp wd i);have re7d:rdO prog 23 w7.drew w4.heap.size 0=some (dg (emptD wd i)):=re7;simp -implicitDefEqProofs only[go_sem,jF,d1,r6d,red,y2,and_self,iTn,q7,r7d,re7d];refine qQa pl110 ((branch w7.drew ((ht.fr f07 fun b hb h=>by omega).no (Fr.refl _ _).drew) wd (qQp wd i) (qQp wd i)).mono ?_);rintro _ w8 ⟨rfl,f8⟩;have f78:No w7 w8:=(Fr.refl _ _).drew.trans f8;have hes:qQv wd (emptD wd i) (emptD wd i)=emptD wd (i+1):=rfl;have k8:=f78.at k7 id;have q8:=wr_d sz23 k8 (qQp wd i) (qQp wd (i+1));rw[← hes]at q8;simp -implicitDefEqProofs only[go_sem,jF,q8,c1];rw[hes];have f89:Fr (fun b=>b=w4.heap.size) w8 (put w8 w4.heap.size (.cells (bl (emptD wd (i+1))) 23 (0,0))):=(Fr.refl _ _).put (b:=w4.heap.size) _ fun _=>rfl;refine⟨256 - (i+1),by omega,i+1,rfl,by omega,rfl,(hC7.fr0 f78).fr f89 (by omega),qQf k8,f89.at (f78.at k17 id) (by omega),(n7.fr0 f78).fr f89 fun b hb h=>by simp only[qQb,oSi]at hb;omega,(f07.trans (f78.mono fun _ _ h=>h.elim)).put (b:=w4.heap.size) _ fun h=>by omega⟩
  ·have d1:=dFo ((i:Int)<256)
   obtain rfl:i=256:=by omega
   rw[bdL_full]at n6;have hn6:∀ b,qQb (.slice (some ⟨W.heap.size,0,.none⟩) 256 256)=some b→b≠cb:=fun b hb h=>by simp only[qQb,oSi]at hb;have:=hC1.lt;omega
   have r6:=hC6.blank;obtain⟨b,o,cap,v,he,g1,g2,g3,g4,g5⟩:=fin w6 _ k16 f6 hC6 n6.rd hn6 (fun b hb h=>by simp only[qQb,oSi]at hb;omega) (.inl ⟨rfl,fun b hb=>by simp only[qQb,oSi]at hb;omega⟩);cases he;rw[z8]at g1;simp -implicitDefEqProofs only[go_sem,jF,d1,r6,y1,and_self,iTn,g1,g2,g3];obtain⟨bv',a1,a2,a3,a4⟩:=g5;simp only[true_and]at a4 ⊢;exact⟨g4,bv',a1,a2,a3,a4⟩
 ·obtain⟨b, o, cap, v, he, g1, g2, g3, g4, g5⟩:=fin W bv k1 (f1.mono fun _ _ h=>h.elim) hC1 hR hn (fun b hb h=>by
   rcases hB with rfl | ⟨hR0,_⟩
   ·cases hb
   ·obtain⟨b',o,cap,e,_,hlt⟩:=hR0.pos (by rw[qQm];omega)
    subst e
    simp only[qQb,oSi]at hb;omega) (.inr rfl)
  subst he;simp -implicitDefEqProofs only[go_sem,jF,Tryz.f201,jM,qQj,hW,r1,y1,and_self,iTn,g1,g2,g3];exact⟨g4,g5⟩
end C
section
section
variable {P:Program} {t e sz:Nat} (ht:slcO P t=some e) (ha:arrO P t=none) (hs:szO P e=some sz) {a:Option Addr} {n cap m:Nat} (hm:m≤n) (hn:n≤cap)
include ht ha hs hm hn
theorem slc_max:qXe P t (.slice a n cap) none (some (.int .i64 (m:Int))) (some (.int .i64 (m:Int)))=some (cutV sz a m 0 m):=by
 simp only[qXe,ha,ht,hs,optB,Option.bind_some,sbO_nat (show m≤cap by omega),sbO_nat (xP m),Option.map_some,cutV]
end
theorem By.max {n cap:Nat}{a:Option Addr}{bs:Bs}(h:By w (.slice a n cap) bs){m:Nat}(hm:m≤n)(hn:bs.length=n):By w (V.cutV 1 a m 0 m) (bs.take m):=by
 have h1:=h.cutV (l:=0) (m:=m) (by omega) hm hn;rw[List.drop_zero,jE]at h1;obtain⟨hl,a1,c1,e1,hc1,hat⟩:=h1;unfold V.cutV at e1 ⊢;rw[jE,jE]at e1;rw[jE];have hlen:(bs.take m).length=m:=by rw[lTk];omega
 refine⟨hl,_,_,by rw[hlen],by omega,fun h0=>?_⟩;obtain⟨b',o',e2,hat2⟩:=hat h0;have hm0:0<m:=by rw[hlen]at h0;omega
 have hc0:cap≠0:=by
  intro e;subst e;rw[Value.slice.injEq]at e1;have:=e1.2.2;rw[← this,hlen]at hc1;omega
 rw[if_neg hc0]at e1;rw[if_neg (show ¬ m=0 by omega)];rw[Value.slice.injEq]at e1;exact⟨b',o',e1.1.trans e2,hat2⟩
def PRd (u w:World)(rb:Nat)(s:Bs)(short:Bool):Prop:=∃ rv,w.heap[rb]?=some (.cells #[rv,.bool short] 203 (0,0))∧By u rv s∧u.heap.size≤rb
theorem PRd.fr {F:Nat→Prop}{u w w':World}{short:Bool}(h:PRd u w rb s short)(f:Fr F w w')(hf:¬ F rb):PRd u w' rb s short:=by
 obtain⟨rv,h1,h2,h3⟩:=h;exact⟨rv,f.at h1 hf,h2,h3⟩
namespace C
def TkQ (u w0:World)(rb:Nat)(s:Bs)(short:Bool)(n:Nat)(v:Value)(w':World):Prop:=Fr (fun b=>b=rb) w0 w'∧if s.length<n then v=.slice Option.none 0 0∧PRd u w' rb [] true else By u v (s.take n)∧(∃ a,v=.slice a n n)∧(0<n→∃ b o,v=.slice (some ⟨b,o,Option.none⟩) n n)∧PRd u w' rb (s.drop n) short
theorem ptake (u w0:World){short:Bool}(h:PRd u w0 rb s short)(n:Nat):Fn prog 117 #[pt rb 0,.int .i64 (n:Nat)] w0 (TkQ u w0 rb s short n):=by
 refine go117 (by simp) ?_;obtain⟨rv,hc,hb,hu⟩:=h;obtain⟨xa,xc,rfl,hxc⟩:=hb.slice;have r0:rdO prog 25 w0 rb 0=some (.slice xa s.length xc):=rd1 agg25 hc rfl;unfold TkQ
 by_cases hn:s.length<n
 ·have d1:=dTo (((s.length:Nat):Int)<(n:Int))
  have q1:wrO prog 4 w0 rb 1 (.bool true)=some (put w0 rb (.cells #[.slice xa s.length xc,.bool true] 203 (0,0))):=wr1 (P:=prog) (o:=1) sz4 rfl hc (by simp);have k1:=qQf (o:=.cells #[.slice xa s.length xc,.bool true] 203 (0,0)) hc;have f1:Fr (fun b=>b=rb) w0 (put w0 rb (.cells #[.slice xa s.length xc,.bool true] 203 (0,0))):=(Fr.refl _ _).put (b:=rb) _ fun _=>rfl;generalize put w0 rb (.cells #[.slice xa s.length xc,.bool true] 203 (0,0))=w1 at *;have q2:wrO prog 25 w1 rb 0 (.slice .none 0 0)=some (put w1 rb (.cells #[.slice .none 0 0,.bool true] 203 (0,0))):=wr1 (P:=prog) (o:=0) sz25 rfl k1 (by simp);simp -implicitDefEqProofs only[go_sem,jF,gLa,gLz,Tryz.f117,r0,d1,q1,q2];rw[if_pos hn];exact⟨f1.put (b:=rb) _ fun _=>rfl,_,qQf k1,(NwB.nil u u).by,hu⟩
 ·have d1:=dFo (((s.length:Nat):Int)<(n:Int))
  have p1:=slc_max (P:=prog) slc25 arr25 sz5 (a:=xa) (n:=s.length) (cap:=xc) (m:=n) (by omega) hxc;have p2:=slc_lo (P:=prog) slc25 arr25 sz5 (a:=xa) (n:=s.length) (cap:=xc) (l:=n) (by omega) hxc
  have h2:By u (cutV 1 xa xc n s.length) (s.drop n):=by
   have:=hb.cutV (l:=n) (m:=s.length) (by omega) (xP _) rfl
   rwa [zF (by rw[lDr];omega)]at this
  have h1:=hb.max (m:=n) (by omega) rfl;have o2:one (cutV 1 xa xc n s.length)=true:=rfl;have q2:wrO prog 25 w0 rb 0 (cutV 1 xa xc n s.length)=some (put w0 rb (.cells #[cutV 1 xa xc n s.length,.bool short] 203 (0,0))):=wr1 (P:=prog) (o:=0) sz25 o2 hc (by simp);simp -implicitDefEqProofs only[go_sem,jF,gLa,gLz,Tryz.f117,r0,d1,p1,p2,q2];rw[if_neg hn];have e1:cutV 1 xa n 0 n=.slice (if n=0 then xa else xa.map (fun (q:Addr)=>q.add (0*1))) n n:=rfl;refine⟨(Fr.refl _ _).put (b:=rb) _ fun _=>rfl,h1,⟨_,e1⟩,fun h0=>?_,_,qQf hc,h2,hu⟩;have hlen:(s.take n).length=n:=by rw[lTk];omega
  obtain⟨b,o,c,e2,_⟩:=h1.pos (by omega);rw[e1,Value.slice.injEq]at e2;exact⟨b,o,by rw[e1,e2.1]⟩
def NmQ (u w0:World)(rb:Nat)(s:Bs)(short:Bool)(v:Value)(w':World):Prop:=Fr (fun b=>b=rb) w0 w'∧if s.length<2 then v=.int .i64 0∧PRd u w' rb [] true else v=.int .i64 (((s.getD 0 0).toNat+256*(s.getD 1 0).toNat:Nat):Int)∧PRd u w' rb (s.drop 2) short
theorem number (u w0:World)(hu:No u w0){short:Bool}(h:PRd u w0 rb s short):Fn prog 174 #[pt rb 0] w0 (NmQ u w0 rb s short):=by
 refine go174 (by simp) ?_;simp -implicitDefEqProofs only[go_sem,jF,Tryz.f174];refine qQa pl117 ((ptake u w0 h 2).mono ?_);rintro v w2 ⟨f2,hm⟩;unfold NmQ
 by_cases h2:s.length<2
 ·rw[if_pos h2]at hm
  obtain⟨rfl,hp⟩:=hm;simp -implicitDefEqProofs only[go_sem];rw[if_pos h2];exact⟨f2,hp⟩
 ·rw[if_neg h2]at hm
  obtain⟨hb,_,hs,hp⟩:=hm;obtain⟨b,o,rfl⟩:=hs (by omega);have hrb:u.heap.size≤rb:=by obtain⟨_,_,_,h⟩:=hp;exact h
  have hb2:By w2 (.slice (some ⟨b,o,.none⟩) 2 2) (s.take 2):=hb.fr0 (hu.trans' f2 fun b hb h=>by omega);have l2:(s.take 2).length=2:=by rw[lTk];omega
  have g:∀ i,i<2→(s.take 2).getD i 0=s.getD i 0:=fun i hi=>by rw[gDq,gDq,zZ,if_pos hi]
  have r0:rdO prog 5 w2 b o=some (.int .u8 ((s.getD 0 0).toNat:Int)):=by have:=hb2.get (P:=prog) agg5 (i:=0) (by omega);rw[Nat.add_zero,g 0 (by omega)]at this;exact this
  have r1:rdO prog 5 w2 b (o+1)=some (.int .u8 ((s.getD 1 0).toNat:Int)):=by have:=hb2.get (P:=prog) agg5 (i:=1) (by omega);rw[g 1 (by omega)]at this;exact this
  have r0d:rdO prog 5 w2.drew b o=_:=r0;have r1d:rdO prog 5 w2.drew b (o+1)=_:=r1;have y0:(0:Int)≤0∧(0:Int)<((2:Nat):Int):=by omega
  have y1:(0:Int)≤1∧(1:Int)<((2:Nat):Int):=by omega
  have c0:IntKind.i64.wrap ((s.getD 0 0).toNat:Int)=(((s.getD 0 0).toNat:Nat):Int):=i64n (by have:=(s.getD 0 0).isLt;omega);have c1:IntKind.i64.wrap ((s.getD 1 0).toNat:Int)=(((s.getD 1 0).toNat:Nat):Int):=i64n (by have:=(s.getD 1 0).isLt;omega);have lh:=lohi (s.getD 0 0) (s.getD 1 0);simp -implicitDefEqProofs only[go_sem,jF,y0,y1,and_self,vL,Int.toNat_one,jH,jA,r0d,r1d,c0,c1,lh];rw[if_neg h2];exact⟨f2.drew,hp.fr ((Fr.refl (fun _=>False) w2).drew) id⟩
end C
end
namespace Wit
def ansW (s:Bs):Option (Option Bs × Bs):=if s.length<1 then none else if 1<(s.getD 0 0).toNat then none else ansP (s.getD 0 0).toNat (s.drop 1)
theorem ansW_len (h:ansW s=some (a,r)):∀ v,a=some v→v.length≤128:=by
 unfold ansW at h;split at h
 ·cases h
 split at h
 ·cases h
 unfold ansP at h;split at h
 ·cases h;intro v hv;cases hv
 split at h
 ·cases h
 split at h
 ·cases h
 split at h
 ·cases h
 cases h;intro v hv;cases hv;rw[lTk];omega
theorem ansW_rest (h:ansW s=some (a,r)):r.length≤s.length:=by
 unfold ansW at h;split at h
 ·cases h
 split at h
 ·cases h
 unfold ansP at h;split at h
 ·cases h;simp
 split at h
 ·cases h
 split at h
 ·cases h
 split at h
 ·cases h
 cases h
 simp
end Wit
namespace C
def AwQ (u w0:World)(rb pb:Nat)(bits:Bs)(s:Bs)(r:Value)(w':World):Prop:=Fr (fun b=>b=rb∨b=pb) w0 w'∧match Wit.ansW s with
 | none=>r=.bool false
 | some (a,rest)=>r=.bool true∧PRd u w' rb rest false∧∃ vv,w'.heap[pb]?=some (.cells (prL a.isSome vv bits (.slice .none 0 0)).toArray 122 (0,0))∧By w' vv (a.getD [])∧one vv=true∧∀ b,qQb vv=some b→w0.heap.size≤b∧b<w'.heap.size
theorem panswer (u w0:World)(hu:No u w0){rb pb:Nat}(h:PRd u w0 rb s false)(hp:w0.heap[pb]?=some (.cells (prL false (.slice Option.none 0 0) bits (.slice Option.none 0 0)).toArray 122 (0, 0)))(hpu:u.heap.size≤pb)(hne:rb≠pb)(hsl:s.length≤2 ^ 50) :
  Fn prog 116 #[pt rb 0,pt pb 0] w0 (AwQ u w0 rb pb bits s):=by
 refine go116 (by simp) ?_;have hrb:u.heap.size≤rb:=by obtain⟨_,_,_,h⟩:=h;exact h
 simp -implicitDefEqProofs only[go_sem,jF,Tryz.f116];refine qQa pl117 ((ptake u w0 h 1).mono ?_);rintro v w2 ⟨f2,hm⟩;unfold AwQ
 by_cases h1:s.length<1
 ·rw[if_pos h1]at hm
  obtain⟨rfl,_⟩:=hm;simp -implicitDefEqProofs only[go_sem];have:Wit.ansW s=none:=by unfold Wit.ansW;rw[if_pos h1]
  rw[this];exact⟨f2.mono fun _ _ h=>.inl h,trivial⟩
 rw[if_neg h1]at hm;obtain⟨hb,_,hs,hr⟩:=hm;obtain⟨b,o,rfl⟩:=hs (by omega);have u2:No u w2:=hu.trans' f2 fun b hb h=>by omega
 have hb2:By w2 (.slice (some ⟨b,o,.none⟩) 1 1) (s.take 1):=hb.fr0 u2;have l1:(s.take 1).length=1:=by rw[lTk];omega
 have r0:rdO prog 5 w2 b o=some (.int .u8 ((s.getD 0 0).toNat:Int)):=by
  have:=hb2.get (P:=prog) agg5 (i:=0) (by omega);rw[Nat.add_zero,gDq,zZ,if_pos (by omega),← gDq]at this;exact this
 have y0:(0:Int)≤0∧(0:Int)<((1:Nat):Int):=by omega
 have hW:Wit.ansW s=if 1<(s.getD 0 0).toNat then none else yS (s.getD 0 0).toNat (s.drop 1):=by unfold Wit.ansW;rw[if_neg h1]
 rw[hW];generalize (s.getD 0 0).toNat=x at *
 by_cases hx0:x=0
 ·subst hx0
  have d0:(((0:Nat):Int) == 0)=true:=rfl;simp -implicitDefEqProofs only[go_sem,jF,y0,and_self,vL,jA,r0,d0];rw[if_neg (by omega)];have:yS 0 (s.drop 1)=some (none,s.drop 1):=rfl;rw[this];exact⟨f2.mono fun _ _ h=>.inl h,hr,_,f2.at hp (fun h=>hne h.symm),(NwB.nil w2 w2).by,rfl,fun b h=>by cases h⟩
 have d0:(((x:Nat):Int) == 0)=false:=by rw[bFn];omega
 by_cases hx1:1<x
 ·have d1:(((x:Nat):Int) != 1)=true:=by rw[bne_iff_ne];omega
  simp -implicitDefEqProofs only[go_sem,jF,y0,and_self,vL,jA,r0,d0,d1];rw[if_pos hx1];exact⟨f2.mono fun _ _ h=>.inl h,trivial⟩
 have hx:x=1:=by omega
 subst hx;have d1:(((1:Nat):Int) != 1)=false:=rfl;rw[if_neg (by omega)];simp -implicitDefEqProofs only[go_sem,jF,y0,and_self,vL,jA,r0,d0,d1];refine qQa pl174 ((number u w2 u2 hr).mono ?_);rintro v3 w3 ⟨f3,hm3⟩;have f03:=f2.trans f3;have u3:No u w3:=u2.trans' f3 fun b hb h=>by omega
 have hp3:=f03.at hp (fun h=>hne h.symm)
 by_cases h2:(s.drop 1).length<2
 ·rw[if_pos h2]at hm3
  obtain⟨rfl,hr3⟩:=hm3;have dn:decide ((0:Int) > 128)=false:=rfl;have q4:wrO prog 4 w3 pb 0 (.bool true)=some (put w3 pb (.cells (prL true (.slice .none 0 0) bits (.slice .none 0 0)).toArray 122 (0,0))):=wr_one (A:=[]) sz4 hp3 rfl rfl;have k4:=qQf (o:=.cells (prL true (.slice .none 0 0) bits (.slice .none 0 0)).toArray 122 (0,0)) hp3;have f4:Fr (fun b=>b=pb) w3 (put w3 pb (.cells (prL true (.slice .none 0 0) bits (.slice .none 0 0)).toArray 122 (0,0))):=(Fr.refl _ _).put (b:=pb) _ fun _=>rfl;generalize put w3 pb (.cells (prL true (.slice .none 0 0) bits (.slice .none 0 0)).toArray 122 (0,0))=w4 at *;simp -implicitDefEqProofs only[go_sem,jF,dn,q4];refine qQa pl117 ((ptake u w4 (hr3.fr f4 hne) 0).mono ?_);rintro v5 w5 ⟨f5,hm5⟩;rw[if_neg (by simp)]at hm5;obtain⟨hb5,_,_,hr5⟩:=hm5;have u5:No u w5:=(u3.trans' f4 fun b hb h=>by omega).trans' f5 fun b hb h=>by omega
  have hv5:By w5 v5 []:=hb5.fr0 u5;obtain⟨v6,w6,hr6,b6,f6,g6,m6⟩:=NwB.catB (P:=prog) app25_25 (NwB.nil w5 w5) hv5 (by simp) (Fr.refl _ _);have o6:one v6=true:=by obtain⟨a,c,rfl⟩:=b6.slice;rfl
  simp -implicitDefEqProofs only[go_sem];refine qQg ⟨v6,w6,hr6,?_⟩;have k6:=f6.at (f5.at k4 (fun h=>hne h.symm)) id;have q7:wrO prog 25 w6 pb 1 v6=some (put w6 pb (.cells (prL true v6 bits (.slice .none 0 0)).toArray 122 (0,0))):=wr_one (A:=[.bool true]) sz25 k6 o6 rfl;obtain⟨rv,hc5,_,_⟩:=hr5;have kr:=qQr (b:=pb) (o:=.cells (prL true v6 bits (.slice .none 0 0)).toArray 122 (0,0)) (f6.at hc5 id) (fun h=>hne h.symm);have r8:=rd1 (P:=prog) (t:=4) (o:=1) (v:=.bool true) agg4 kr rfl;simp -implicitDefEqProofs only[go_sem,jF,q7,r8,Bool.not_true];have:yS 1 (s.drop 1)=none:=by unfold yS;rw[if_neg (by omega),if_pos h2]
  rw[this];refine⟨?_,trivial⟩;exact (((f03.mono fun _ _ h=>.inl h).trans (f4.mono fun _ _ h=>.inr h)).trans ((f5.mono fun _ _ h=>.inl h).trans (f6.mono fun _ _ h=>h.elim))).put (b:=pb) _ fun _=>.inr rfl
 ·rw[if_neg h2]at hm3
  obtain⟨rfl,hr3⟩:=hm3
  have hA:yS 1 (s.drop 1)=if ((s.drop 1).getD 0 0).toNat+256*((s.drop 1).getD 1 0).toNat > 128 then none
   else if ((s.drop 1).drop 2).length<((s.drop 1).getD 0 0).toNat+256*((s.drop 1).getD 1 0).toNat then none
   else some (some (((s.drop 1).drop 2).take (((s.drop 1).getD 0 0).toNat+256*((s.drop 1).getD 1 0).toNat)),((s.drop 1).drop 2).drop (((s.drop 1).getD 0 0).toNat+256*((s.drop 1).getD 1 0).toNat)):=by unfold yS;rw[if_neg (by omega),if_neg h2]
  rw[hA];generalize ((s.drop 1).getD 0 0).toNat+256*((s.drop 1).getD 1 0).toNat=n at *;have hsl3:((s.drop 1).drop 2).length≤2 ^ 50:=by simp;omega
  generalize (s.drop 1).drop 2=s3 at *
  by_cases hn:n > 128
  ·have dn:=dTo (((n:Nat):Int) > 128)
   simp -implicitDefEqProofs only[go_sem,dn];rw[if_pos hn];exact⟨f03.mono fun _ _ h=>.inl h,trivial⟩
  have dn:=dFo (((n:Nat):Int) > 128);have q4:wrO prog 4 w3 pb 0 (.bool true)=some (put w3 pb (.cells (prL true (.slice .none 0 0) bits (.slice .none 0 0)).toArray 122 (0,0))):=wr_one (A:=[]) sz4 hp3 rfl rfl;have k4:=qQf (o:=.cells (prL true (.slice .none 0 0) bits (.slice .none 0 0)).toArray 122 (0,0)) hp3;have f4:Fr (fun b=>b=pb) w3 (put w3 pb (.cells (prL true (.slice .none 0 0) bits (.slice .none 0 0)).toArray 122 (0,0))):=(Fr.refl _ _).put (b:=pb) _ fun _=>rfl;generalize put w3 pb (.cells (prL true (.slice .none 0 0) bits (.slice .none 0 0)).toArray 122 (0,0))=w4 at *;rw[if_neg hn];simp -implicitDefEqProofs only[go_sem,jF,dn,q4];refine qQa pl117 ((ptake u w4 (hr3.fr f4 hne) n).mono ?_);rintro v5 w5 ⟨f5,hm5⟩;have u5:No u w5:=(u3.trans' f4 fun b hb h=>by omega).trans' f5 fun b hb h=>by omega
  have s05:w0.heap.size≤w5.heap.size:=by have:=f03.size;have:=f4.size;have:=f5.size;omega
  have fin:∀ (bs:Bs) (rest:Bs) (sh:Bool), By w5 v5 bs→bs.length≤128→PRd u w5 rb rest sh→∃ v6 w6 w7, (Builtin.append_ #[25, 25] 0 #[.slice .none 0 0, v5]).run prog w5=.ok v6 w6∧wrO prog 25 w6 pb 1 v6=some w7∧rdO prog 4 w7 rb 1=some (.bool sh) ∧
    Fr (fun b=>b=rb∨b=pb) w0 w7∧PRd u w7 rb rest sh∧w7.heap[pb]?=some (.cells (prL true v6 bits (.slice .none 0 0)).toArray 122 (0,0))∧By w7 v6 bs∧one v6=true∧∀ b,qQb v6=some b→w0.heap.size≤b∧b<w7.heap.size:=fun bs rest sh hv hbl hR=>by
   obtain⟨v6,w6,hr6,b6,f6,g6,m6⟩:=NwB.catB (P:=prog) app25_25 (NwB.nil w5 w5) hv (by simp;omega) (Fr.refl _ _);rw[List.nil_append]at b6;have o6:one v6=true:=by obtain⟨a,c,rfl⟩:=b6.slice;rfl
   have k6:=f6.at (f5.at k4 (fun h=>hne h.symm)) id;have q7:wrO prog 25 w6 pb 1 v6=some (put w6 pb (.cells (prL true v6 bits (.slice .none 0 0)).toArray 122 (0,0))):=wr_one (A:=[.bool true]) sz25 k6 o6 rfl;have f7:Fr (fun b=>b=pb) w6 (put w6 pb (.cells (prL true v6 bits (.slice .none 0 0)).toArray 122 (0,0))):=(Fr.refl _ _).put (b:=pb) _ fun _=>rfl;have hR7:=(hR.fr f6 id).fr f7 hne;have hR7':=hR7;obtain⟨rv,hc7,_,_⟩:=hR7';have hpb5:pb<w5.heap.size:=qQh (f5.at k4 (fun h=>hne h.symm));refine⟨v6,w6,_,hr6,q7,rd1 (P:=prog) (t:=4) (o:=1) agg4 hc7 rfl,?_,hR7,qQf k6,(b6.fr f7 fun b h h'=>by have:=(b6.lt h).1;omega).by,o6,fun b h=>⟨by have:=(b6.lt h).1;omega,by have:=(b6.lt h).2;have:=f7.size;omega⟩⟩;exact (((f03.mono fun _ _ h=>.inl h).trans (f4.mono fun _ _ h=>.inr h)).trans ((f5.mono fun _ _ h=>.inl h).trans (f6.mono fun _ _ h=>h.elim))).trans (f7.mono fun _ _ h=>.inr h)
  by_cases h3:s3.length<n
  ·rw[if_pos h3]at hm5
   obtain⟨rfl,hr5⟩:=hm5;obtain⟨v6,w6,w7,hr6,q7,r8,f7,_⟩:=fin [] [] true (NwB.nil w5 w5).by (by simp) hr5
   simp -implicitDefEqProofs only[go_sem];refine qQg ⟨v6,w6,hr6,?_⟩;simp -implicitDefEqProofs only[go_sem,jF,q7,r8,Bool.not_true];rw[if_pos h3];exact⟨f7,trivial⟩
  ·rw[if_neg h3]at hm5
   obtain⟨hb5,_,_,hr5⟩:=hm5;obtain⟨v6,w6,w7,hr6,q7,r8,f7,g7⟩:=fin _ _ false (hb5.fr0 u5) (by rw[lTk];omega) hr5;simp -implicitDefEqProofs only[go_sem];refine qQg ⟨v6,w6,hr6,?_⟩;simp -implicitDefEqProofs only[go_sem,jF,q7,r8,Bool.not_false];rw[if_neg h3];exact⟨f7,g7.1,v6,g7.2⟩
end C
def cntN (x:Nat):Nat:=((zQ 8).filter fun j=>x.testBit j).length
def popS:ByteArray:=⟨((([0,1,1,2,1,2,2,3,1,2,2,3,2,3,3,4,1,2,2,3,2,3,3,4,2,3,3,4,3,4,4,5,1,2,2,3,2,3,3,4,2,3,3,4,3,4,4,5,2,3,3,4,3,4,4,5,3,4,4,5,4,5,5,6]:List UInt8).append [1,2,2,3,2,3,3,4,2,3,3,4,3,4,4,5,2,3,3,4,3,4,4,5,3,4,4,5,4,5,5,6,2,3,3,4,3,4,4,5,3,4,4,5,4,5,5,6,3,4,4,5,4,5,5,6,4,5,5,6,5,6,6,7]).append (([1,2,2,3,2,3,3,4,2,3,3,4,3,4,4,5,2,3,3,4,3,4,4,5,3,4,4,5,4,5,5,6,2,3,3,4,3,4,4,5,3,4,4,5,4,5,5,6,3,4,4,5,4,5,5,6,4,5,5,6,5,6,6,7]:List UInt8).append [2,3,3,4,3,4,4,5,3,4,4,5,4,5,5,6,3,4,4,5,4,5,5,6,4,5,5,6,5,6,6,7,3,4,4,5,4,5,5,6,4,5,5,6,5,6,6,7,4,5,5,6,5,6,6,7,5,6,6,7,6,7,7,8])).toArray⟩
theorem popS_at:∀ n:Fin 256,popS[n.val]?=some (UInt8.ofNat (cntN n.val)):=by decide +kernel
theorem cntN_le (x:Nat):cntN x≤8:=by
 unfold cntN;have:=kS (fun j=>x.testBit j) (zQ 8)
 rwa [List.length_range]at this
namespace Wit
theorem poss_len (bits:Bs):∀ (m g:Nat),(poss bits m g).length=((zQ m).filter fun j=>mbit bits (g+j)).length
 | 0,_=>rfl
 | m+1,g=>by
  rw[poss_snoc,lAp,poss_len bits m g,List.range_succ,List.filter_append,lAp]
  cases h:mbit bits (g+m) <;> simp[h]
theorem poss_byte (bits:Bs)(i:Nat):(poss bits (8*(i+1)) 0).length=(poss bits (8*i) 0).length+cntN (bits.getD i 0).toNat:=by
 rw[show 8*(i+1)=8*i+8 by omega,poss_add,lAp,z8,poss_len bits 8];unfold cntN
 congr 2
 apply List.filter_congr;intro j hj;have hj:=List.mem_range.1 hj;unfold mbit;rw[show (8*i+j) / 8=i by omega,show (8*i+j) % 8=j by omega]
 rfl
theorem chunk_snoc:∀ (i:Nat) (s:Bs),chunk (i+1) s=chunk i s++[(s.drop (32*i)).take 32]
 | 0,s=>rfl
 | i+1,s=>by
  rw[show chunk (i+1+1) s=s.take 32::chunk (i+1) (s.drop 32) from rfl,chunk_snoc i,show chunk (i+1) s=s.take 32::chunk i (s.drop 32) from rfl,List.drop_drop,show 32+32*i=32*(i+1) by omega]
  rfl
theorem poss_le (bits:Bs)(n g:Nat):(poss bits n g).length≤n:=by
 rw[poss_len];have:=kS (fun j=>mbit bits (g+j)) (zQ n)
 rwa [List.length_range]at this
end Wit
namespace C
theorem ones8 (w0:World)(x:Byte):Fn prog 175 #[u8 x] w0 fun v w'=>v=.int .i64 (cntN x.toNat:Nat)∧w'=w0:=by
 refine go175 (by simp) ?_;simp -implicitDefEqProofs only[go_sem,jF,Tryz.f175];have h8:=cntN_le x.toNat;refine qQl (v:=.int .u8 (cntN x.toNat:Nat)) (w':=w0) ?_ ?_
 ·show val0 (if 0≤(x.toNat:Int) then Option.map _ (popS[(x.toNat:Int).toNat]?) else none) w0=_
  rw[if_pos (by omega),iTn,popS_at ⟨x.toNat,x.isLt⟩];simp only[Option.map_some,val0,UInt8.toNat_ofNat'];rw[Nat.mod_eq_of_lt (by omega)]
 ·have c:IntKind.i64.wrap ((cntN x.toNat:Nat):Int)=((cntN x.toNat:Nat):Int):=i64n
  simp -implicitDefEqProofs only[go_sem,c,and_self]
def onI (w0:World)(bits:Bs)(n:Nat)(vs:List Value)(w:World):Prop :=
 ∃ (i:Nat),vs=[.int .i64 ((kA bits (8*i) 0).length:Nat),dg bits,.int .i64 (i:Nat)]∧i≤32∧n=32 - i∧No w0 w
theorem ones (w0:World)(hl:bits.length=32):Fn prog 118 #[dg bits] w0 fun v w'=>v=.int .i64 ((kA bits 256 0).length:Nat)∧No w0 w':=by
 refine go118 (by simp) ?_;obtain⟨W,hW,f1,k1,s1⟩:=qQs w0 (bl bits) 22;have r1:=rd_d agg22 sz22 k1 hl;simp -implicitDefEqProofs only[go_sem,jF,Tryz.f118,jM,hW,r1];refine loopD [3,6,7] (onI w0 bits) 32 ⟨0,rfl,by omega,rfl,f1⟩ ?_;rintro _ vs w g ⟨i,rfl,hi,rfl,fw⟩
 by_cases hlt:i<32
 ·have d1:=dTo ((i:Int)<32)
  have y1:=iBd (i:=i) (n:=32);have y2:=y1.2
  have hp:partO prog 5 ((bits.map u8).toArray) i=some (u8 (bits.getD i 0)):=by
   have:=part_u8 (P:=prog) agg5 (d:=bits) (i:=i) (by omega);rw[this,qQi _ (by omega)]
  have c1:=iSu (i:=i);have hb:=Wit.poss_byte bits i;have hle:=Wit.poss_le bits (8*i) 0;have h8:=cntN_le (bits.getD i 0).toNat;have c2:IntKind.i64.wrap (((kA bits (8*i) 0).length:Int)+(cntN (bits.getD i 0).toNat:Int))=((kA bits (8*(i+1)) 0).length:Int):=by rw[hb];exact qXc
  simp -implicitDefEqProofs only[go_sem,jF,d1,y1,iTn,jH,hp];refine qQa pl175 ((ones8 w (bits.getD i 0)).mono ?_);rintro _ _ ⟨rfl,rfl⟩;simp -implicitDefEqProofs only[go_sem,jF,c1,c2];exact⟨32 - (i+1),by omega,i+1,rfl,by omega,rfl,fw⟩
 ·have d1:=dFo ((i:Int)<32)
  obtain rfl:i=32:=by omega
  simp -implicitDefEqProofs only[go_sem,jF,d1];exact fw
end C
end Go.V
