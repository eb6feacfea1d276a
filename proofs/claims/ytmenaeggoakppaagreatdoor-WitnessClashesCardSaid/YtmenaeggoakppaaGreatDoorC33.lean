/- Helpers. -/
import Derived.Test.YtmenaeggoakppaaGreatDoorC32
set_option linter.all false
set_option maxRecDepth 100000
set_option maxHeartbeats 8000000
open Array renaming toList_setIfInBounds→kC
open Int renaming toNat_zero→vE
open List renaming replicate→zG,size_toArray→vI,getElem_cons_zero→kS,getElem?_cons_succ→kQ,toList_toArray→kA,getElem_append_right→jU,getElem_append_left→jF,getElem_cons_succ→kE,getElem?_toArray→zX,set_cons_succ→kI
open Nat renaming reduceEqDiff→jR,add_zero→yX,zero_mul→j8,reduceAdd→vY,reduceBEq→jL,le_refl→xP,lt_or_ge→jQ,pow_le_pow_right→kO,mul_one→jT
open Go.Value renaming cells→jS
namespace Go.V
open Go.Proofs.Tryz Go.V.Tryz
open Go.Proofs Sha
variable {f:Bool} {bits x1 x2:Bs} {e e1 e2:Bs × Bs} {es:List (Bs × Bs)} {h n:Nat} {esv mv sv vv:Value}
namespace R
theorem leaf_cut (wd:Int)(k v:Bs):cutD wd (leafD wd k v)=leafD wd k v:=Wit.hcut_tdy wd _
theorem digest1 (w0:World)(ht:Tabs w0)(wd:Int)(he:RdD w0 esv (empts wd 257))(hm:EnR w0 mv [e])(hl:e.2.length≤549755813888)(hn:n≤256) :
  Fn prog 58 #[.int .i64 wd,esv,mv,.int .i64 (n:Nat)] w0 fun v w'=>v=dg (climb wd e.1 0 (leafD wd e.1 e.2) ((empts wd 257).take (256 - n)))∧No w0 w':=by
 refine go58 (by simp) ?_;obtain⟨W,hW,f1,k1,s1⟩:=qQm w0 (bl (zG 32 0)) 23;obtain⟨b,o,cap,vv,rfl,hc,hk,hone,hby,hrd⟩:=(hm.fr0 f1).at (i:=0) (by simp);simp only[kS]at hk hby hrd;have d1:(((([e]:List (Bs × Bs)).length:Nat):Int) == 0)=false:=rfl;have d2:(((([e]:List (Bs × Bs)).length:Nat):Int) == 1)=true:=rfl;have y1:(0:Int)≤0∧(0:Int)<((([e]:List (Bs × Bs)).length:Nat):Int):=by simp
 obtain⟨r1,r2,_⟩:=hrd W (Fr.refl _ _);obtain⟨r1d,r2d,_⟩:=hrd W.drew (Fr.refl _ _).drew;rw[j8,yX]at r1 r2 r1d r2d;simp -implicitDefEqProofs only[go_sem,jR,vY,gLa,gLz,Tryz.f58,jS,qQj,hW,d1,d2];refine qJa (fun j=>j == 9 || j == 10) (.one 0 (.one 1 (.one 2 (.one 3 (.one 4 (.one 5 (.one 6 (.one 7 (.one 8 (.two 9 (.row [10,11]) 10 (.row [9,11]))))))))))) rfl (by kernel_rfl) (by kernel_rfl) ?_;have ll:(leafD wd e.1 e.2).length=32:=qZb _ _ _;have lc:(climb wd e.1 0 (leafD wd e.1 e.2) ((empts wd 257).take (256 - n))).length=32:=qZq _ _ _ _ _ ll;have c1:IntKind.i64.wrap (256 - (n:Int))=((256 - n:Nat):Int):=qXm (a:=256) (by omega) (by omega);simp -implicitDefEqProofs only[go_sem,jR,jL,gLa,gLz,gLs,y1,and_self,vE,j8,yX,r1d,r2d,bSe,OT.row,jS,qQj];constructor
 ·refine qQg pl101 ((leaf W.drew (ht.no f1.drew) wd hk (val:=e.2) (hby.fr0 (Fr.refl _ _).drew) hl).mono ?_)
  rintro _ w2 ⟨rfl,f2⟩;refine⟨fun _=>Fr.ext f2,?_⟩;have f12:No W w2:=(Fr.refl _ _).drew.trans f2;obtain⟨W3,q3,k3,f3,s3⟩:=allocD w2 (ty:=23) sz23 ll;have f13:=f12.trans f3;have f03:=f1.trans f13;obtain⟨r1,r2,_⟩:=hrd W3 f13;obtain⟨r1d,r2d,_⟩:=hrd W3.drew f13.drew;rw[j8,yX]at r1 r2 r1d r2d;have r3:=rd_d agg23 sz23 k3 ll;have r3d:rdO prog 23 W3.drew w2.heap.size 0=_:=r3;simp -implicitDefEqProofs only[go_sem,jR,jL,gLa,gLz,gLs,jS,qQj,q3,y1,and_self,vE,j8,yX,r1d,r3d,c1,bSe];refine qQa pl102 ((climbWith W3.drew (ht.no f03.drew) wd (he.fr0 f03.drew) hk ll (n:=256 - n) (by omega)).mono ?_);rintro _ w4 ⟨rfl,f4⟩;rw[leaf_cut];have k4:=(f13.drew.trans f4).at k1 id;have q5:=wr_d sz23 k4 zl32 lc;have r5:=rd_d agg23 sz23 (qQf (o:=.cells (bl (climb wd e.1 0 (leafD wd e.1 e.2) ((empts wd 257).take (256 - n)))) 23 (0,0)) k4) lc;simp -implicitDefEqProofs only[go_sem,jR,q5,r5];exact (f03.drew.trans f4).put (b:=w0.heap.size) _ fun h=>by omega
 ·obtain⟨W2,hW2,f2,k2,s2⟩:=qQm W.drew (bl (zG 32 0)) 23
  simp only[hW2];have f12:No W W2:=(Fr.refl _ _).drew.trans f2;refine qQg pl101 ((leaf W2 (ht.no (f1.trans f12)) wd hk (val:=e.2) (hby.fr0 f12) hl).mono ?_);rintro _ w3' ⟨rfl,f3'⟩;refine⟨fun _=>Fr.ext f3',?_⟩;have k2':=f3'.at k2 id
  obtain⟨W3,q3,k3,f13⟩:∃ W3,wrO prog 23 w3' W.heap.size 0 (dg (leafD wd e.1 e.2))=some W3∧W3.heap[W.heap.size]?=some (.cells (bl (leafD wd e.1 e.2)) 23 (0,0))∧No W W3 :=
   ⟨_,wr_d sz23 k2' zl32 ll,qQf k2',(f12.trans f3').put (b:=W.heap.size) _ fun h=>absurd h (Nat.lt_irrefl _)⟩
  have f03:=f1.trans f13;obtain⟨r1,r2,_⟩:=hrd W3 f13;obtain⟨r1d,r2d,_⟩:=hrd W3.drew f13.drew;rw[j8,yX]at r1 r2 r1d r2d;have r3:=rd_d agg23 sz23 k3 ll;have r3d:rdO prog 23 W3.drew W.heap.size 0=_:=r3;simp -implicitDefEqProofs only[go_sem,jR,jL,gLa,gLz,gLs,q3,y1,and_self,vE,j8,yX,r1d,r3d,c1];refine qQa pl102 ((climbWith W3.drew (ht.no f03.drew) wd (he.fr0 f03.drew) hk ll (n:=256 - n) (by omega)).mono ?_);rintro _ w4 ⟨rfl,f4⟩;rw[leaf_cut];have k4:=(f13.drew.trans f4).at k1 id;have q5:=wr_d sz23 k4 zl32 lc;have r5:=rd_d agg23 sz23 (qQf (o:=.cells (bl (climb wd e.1 0 (leafD wd e.1 e.2) ((empts wd 257).take (256 - n)))) 23 (0,0)) k4) lc;simp -implicitDefEqProofs only[go_sem,jR,q5,r5];exact (f03.drew.trans f4).put (b:=w0.heap.size) _ fun h=>by omega
end R
namespace R
def spI (w0:World)(mv:Value)(m:Nat)(vs:List Value)(w:World):Prop:=∃ (k:Nat),vs=[mv,.int .i64 0,.int .i64 (k:Nat)]∧k≤1∧m=1 - k∧No w0 w
theorem split2 (w0:World)(hm:EnR w0 mv [e1, e2])(h1:kbit e1.1 0=false)(h2:kbit e2.1 0=true) :
  Fn prog 103 #[mv,.int .i64 0] w0 fun v w'=>v=.int .i64 1∧No w0 w':=by
 refine go103 (by simp) ?_;obtain⟨b,o,cap,vv1,rfl,hc,hk1,_,_,hrd1⟩:=hm.at (i:=0) (by simp);obtain⟨b',o',cap',vv2,e,_,hk2,_,_,hrd2⟩:=hm.at (i:=1) (by simp);cases e;simp only[kS,kE]at hk1 hk2 hrd1 hrd2;simp -implicitDefEqProofs only[go_sem,Tryz.f103];refine loopD [0,1,5] (spI w0 (.slice (some ⟨b,o,.none⟩) ([e1,e2]:List (Bs × Bs)).length cap)) 1 ⟨0,rfl,by omega,rfl,Fr.refl _ _⟩ ?_;rintro _ vs w g ⟨k,rfl,hk,rfl,f⟩
 rcases jQ k 1 with h | h
 ·obtain rfl:k=0:=by omega
  have d1:decide (((0:Nat):Int)<((([e1,e2]:List (Bs × Bs)).length:Nat):Int))=true:=rfl;have y1:(0:Int)≤((0:Nat):Int)∧((0:Nat):Int)<((([e1,e2]:List (Bs × Bs)).length:Nat):Int):=by simp
  have r1:=(hrd1 w f).1;have c1:IntKind.i64.wrap (((0:Nat):Int)+1)=((1:Nat):Int):=rfl;rw[j8,yX]at r1;simp -implicitDefEqProofs only[go_sem,jR,gLa,gLz,gLs,y1,and_self,iTn,j8,yX,r1,decide_true,bSe];refine qQa pl166 ((bit3 w hk1 (i:=0) (by decide)).mono ?_);rintro _ w2 ⟨rfl,f2⟩;have hb:kb e1.1 0=0:=by unfold kb;rw[h1];rfl
  rw[hb];simp -implicitDefEqProofs only[go_sem,jR,gLa,gLz,gLs,bSe,c1];exact⟨0,by omega,1,rfl,by omega,rfl,f.trans f2⟩
 ·obtain rfl:k=1:=by omega
  have d1:decide (((1:Nat):Int)<((([e1,e2]:List (Bs × Bs)).length:Nat):Int))=true:=rfl;have y1:(0:Int)≤((1:Nat):Int)∧((1:Nat):Int)<((([e1,e2]:List (Bs × Bs)).length:Nat):Int):=by simp
  have r1:=(hrd2 w f).1;simp -implicitDefEqProofs only[go_sem,jR,gLa,gLz,gLs,y1,and_self,iTn,r1,decide_true,bSe];refine qQa pl166 ((bit3 w hk2 (i:=0) (by decide)).mono ?_);rintro _ w2 ⟨rfl,f2⟩;have hb:kb e2.1 0=1:=by unfold kb;rw[h2];rfl
  have d0:((1:Int) == 0)=false:=rfl;rw[hb];simp -implicitDefEqProofs only[go_sem,jR,gLa,gLz,gLs,bSe,d0];exact⟨rfl,f.trans f2⟩
def Lone (wd:Int)(e:Bs × Bs)(n:Nat)(x:Bs):Prop:=x=climb wd e.1 0 (leafD wd e.1 e.2) ((empts wd 257).take n)
theorem Lone.len {wd:Int}{x:Bs}(h:Lone wd e n x):x.length=32:=by rw[h];exact qZq _ _ _ _ _ (qZb _ _ _)
theorem digestX (w0:World)(ht:Tabs w0)(wd:Int)(he:RdD w0 esv (empts wd 257))(hm:EnR w0 mv [e])(hl:e.2.length≤549755813888)(hn:n≤256){x:Bs}(hx:Lone wd e (256 - n) x) :
  Fn prog 58 #[.int .i64 wd,esv,mv,.int .i64 (n:Nat)] w0 fun v w'=>v=dg x∧No w0 w':=by
 rw[hx];exact digest1 w0 ht wd he hm hl hn
theorem digest2 (w0:World)(ht:Tabs w0)(wd:Int)(he:RdD w0 esv (empts wd 257))(hm:EnR w0 mv [e1, e2])(h1:kbit e1.1 0=false)(h2:kbit e2.1 0=true)(hl1:e1.2.length≤549755813888)(hl2:e2.2.length≤549755813888)
  (hx1:Lone wd e1 255 x1) (hx2:Lone wd e2 255 x2) :
  Fn prog 58 #[.int .i64 wd,esv,mv,.int .i64 0] w0 fun v w'=>v=dg (qQv wd x1 x2)∧No w0 w':=by
 refine go58 (by simp) ?_;have l1:=hx1.len;have l2:=hx2.len;obtain⟨W,hW,f1,k1,s1⟩:=qQm w0 (bl (zG 32 0)) 23;obtain⟨a,cap,rfl,hc⟩:=hm.slice;have hc:2≤cap:=hc;have d1:(((([e1,e2]:List (Bs × Bs)).length:Nat):Int) == 0)=false:=rfl;have d2:(((([e1,e2]:List (Bs × Bs)).length:Nat):Int) == 1)=false:=rfl;simp -implicitDefEqProofs only[go_sem,jR,vY,gLa,gLz,Tryz.f58,jS,qQj,hW,d1,d2];refine qQa pl103 ((split2 W (hm.fr0 f1) h1 h2).mono ?_);rintro _ w2 ⟨rfl,f2⟩;have f02:=f1.trans f2;have c1:IntKind.i64.wrap ((0:Int)+1)=((1:Nat):Int):=rfl;have p1:=slc_hi (P:=prog) slc66 arr66 sz65 (a:=a) (n:=([e1,e2]:List (Bs × Bs)).length) (cap:=cap) (l:=1) (by simp) hc;have p2:=slc_lo (P:=prog) slc66 arr66 sz65 (a:=a) (n:=([e1,e2]:List (Bs × Bs)).length) (cap:=cap) (l:=1) (by simp) hc;have p1:qXf prog 66 (.slice a ([e1,e2]:List (Bs × Bs)).length cap) .none (some (.int .i64 1)) .none=some (cutV 33 a cap 0 1):=p1;have p2:qXf prog 66 (.slice a ([e1,e2]:List (Bs × Bs)).length cap) (some (.int .i64 1)) .none .none=some (cutV 33 a cap 1 2):=p2;have m1:EnR w0 (cutV 33 a cap 0 1) [e1]:=hm.cutV (l:=0) (m:=1) (by decide) (by simp) rfl;have m2:EnR w0 (cutV 33 a cap 1 2) [e2]:=hm.cutV (l:=1) (m:=2) (by decide) (by simp) rfl;simp -implicitDefEqProofs only[go_sem,jR,p1,c1];refine qQa pl58 ((digestX w2 (ht.no f02) wd (he.fr0 f02) (m1.fr0 f02) hl1 (n:=1) (by decide) hx1).mono ?_);rintro _ w3 ⟨rfl,f3⟩;obtain⟨W4,q4,k4,f4,s4⟩:=allocD w3 (ty:=23) sz23 l1;have f04:=(f02.trans f3).trans f4;simp -implicitDefEqProofs only[go_sem,jR,jS,qQj,q4,p2,c1];refine qQa pl58 ((digestX W4 (ht.no f04) wd (he.fr0 f04) (m2.fr0 f04) hl2 (n:=1) (by decide) hx2).mono ?_);rintro _ w5 ⟨rfl,f5⟩;obtain⟨W6,q6,k6,f6,s6⟩:=allocD w5 (ty:=23) sz23 l2;have f06:=(f04.trans f5).trans f6;have r6:=rd_d agg23 sz23 k6 l2
 have r4:=rd_d agg23 sz23 ((f5.trans f6).at k4 id) l1;simp -implicitDefEqProofs only[go_sem,jR,jS,qQj,q6,r4,r6];refine qQa pl100 ((branch W6 (ht.no f06) wd l1 l2).mono ?_);rintro _ w7 ⟨rfl,f7⟩;have lb:(qQv wd x1 x2).length=32:=qQz _ _ _;have k7:=(((((f2.trans f3).trans f4).trans f5).trans f6).trans f7).at k1 id;have q8:=wr_d sz23 k7 zl32 lb;have r8:=rd_d agg23 sz23 (qQf (o:=.cells (bl (qQv wd x1 x2)) 23 (0,0)) k7) lb;simp -implicitDefEqProofs only[go_sem,jR,q8,r8];exact (f06.trans f7).put (b:=w0.heap.size) _ fun h=>by omega
theorem root2 (w0:World)(ht:Tabs w0)(wd:Int)(hm:EnR w0 mv [e1, e2])(h1:kbit e1.1 0=false)(h2:kbit e2.1 0=true)(hl1:e1.2.length≤549755813888)(hl2:e2.2.length≤549755813888)
  (hx1:Lone wd e1 255 x1) (hx2:Lone wd e2 255 x2) :
  Fn prog 31 #[.int .i64 wd,mv] w0 fun v w'=>v=dg (qQv wd x1 x2)∧No w0 w':=by
 refine go31 (by simp) ?_;obtain⟨W,hW,f1,k1,s1⟩:=qQm w0 (bl (zG 32 0)) 23;simp -implicitDefEqProofs only[go_sem,jR,Tryz.f31,jS,qQj,hW];refine qQa pl57 ((empties W (ht.no f1) wd).mono ?_);rintro ev w2 ⟨n2,f2⟩;have f02:=f1.trans f2;simp -implicitDefEqProofs only[go_sem,jR];refine qQa pl58 ((digest2 w2 (ht.no f02) wd n2.rd (hm.fr0 f02) h1 h2 hl1 hl2 hx1 hx2).mono ?_);rintro _ w3 ⟨rfl,f3⟩;have lb:(qQv wd x1 x2).length=32:=qQz _ _ _;have k3:=(f2.trans f3).at k1 id;have q4:=wr_d sz23 k3 zl32 lb;have r4:=rd_d agg23 sz23 (qQf (o:=.cells (bl (qQv wd x1 x2)) 23 (0,0)) k3) lb;simp -implicitDefEqProofs only[go_sem,jR,q4,r4];exact (f02.trans f3).put (b:=w0.heap.size) _ fun h=>by omega
end R
namespace R
theorem digest12 (w0:World)(ht:Tabs w0)(wd:Int)(he:RdD w0 esv (empts wd 257))(hm:EnR w0 mv [e])(hl:e.2.length≤549755813888)(hn:n≤256) :
  Fn prog 178 #[esv,.int .i64 wd,mv,.int .i64 (n:Nat)] w0 fun v w'=>v=dg (climb wd e.1 0 (leafD wd e.1 e.2) ((empts wd 257).take n))∧No w0 w':=by
 refine go178 (by simp) ?_;obtain⟨W,hW,f1,k1,s1⟩:=qQm w0 (bl (zG 32 0)) 23;obtain⟨b,o,cap,vv,rfl,hc,hk,hone,hby,hrd⟩:=(hm.fr0 f1).at (i:=0) (by simp);simp only[kS]at hk hby hrd;have d1:(((([e]:List (Bs × Bs)).length:Nat):Int) == 0)=false:=rfl;have d2:(((([e]:List (Bs × Bs)).length:Nat):Int) == 1)=true:=rfl;have y1:(0:Int)≤0∧(0:Int)<((([e]:List (Bs × Bs)).length:Nat):Int):=by simp
 obtain⟨r1,r2,_⟩:=hrd W (Fr.refl _ _);obtain⟨r1d,r2d,_⟩:=hrd W.drew (Fr.refl _ _).drew;rw[j8,yX]at r1 r2 r1d r2d;simp -implicitDefEqProofs only[go_sem,jR,vY,gLa,gLz,Tryz.f178,jS,qQj,hW,d1,d2];refine qJa (fun j=>j == 9 || j == 10) (.one 0 (.one 1 (.one 2 (.one 3 (.one 4 (.one 5 (.one 6 (.one 7 (.one 8 (.two 9 (.row [10,11]) 10 (.row [9,11]))))))))))) rfl (by kernel_rfl) (by kernel_rfl) ?_;have ll:(leafD wd e.1 e.2).length=32:=qZb _ _ _;have lc:(climb wd e.1 0 (leafD wd e.1 e.2) ((empts wd 257).take n)).length=32:=qZq _ _ _ _ _ ll;simp -implicitDefEqProofs only[go_sem,jR,jL,gLa,gLz,gLs,y1,and_self,vE,j8,yX,r1d,r2d,bSe,OT.row,jS,qQj];constructor
 ·refine qQg pl101 ((leaf W.drew (ht.no f1.drew) wd hk (val:=e.2) (hby.fr0 (Fr.refl _ _).drew) hl).mono ?_)
  rintro _ w2 ⟨rfl,f2⟩;refine⟨fun _=>Fr.ext f2,?_⟩;have f12:No W w2:=(Fr.refl _ _).drew.trans f2;obtain⟨W3,q3,k3,f3,s3⟩:=allocD w2 (ty:=23) sz23 ll;have f13:=f12.trans f3;have f03:=f1.trans f13;obtain⟨r1,r2,_⟩:=hrd W3 f13;obtain⟨r1d,r2d,_⟩:=hrd W3.drew f13.drew;rw[j8,yX]at r1 r2 r1d r2d;have r3:=rd_d agg23 sz23 k3 ll;have r3d:rdO prog 23 W3.drew w2.heap.size 0=_:=r3;simp -implicitDefEqProofs only[go_sem,jR,jL,gLa,gLz,gLs,jS,qQj,q3,y1,and_self,vE,j8,yX,r1d,r3d,bSe];refine qQa pl102 ((climbWith W3.drew (ht.no f03.drew) wd (he.fr0 f03.drew) hk ll (n:=n) hn).mono ?_);rintro _ w4 ⟨rfl,f4⟩;rw[leaf_cut];have k4:=(f13.drew.trans f4).at k1 id;have q5:=wr_d sz23 k4 zl32 lc;have r5:=rd_d agg23 sz23 (qQf (o:=.cells (bl (climb wd e.1 0 (leafD wd e.1 e.2) ((empts wd 257).take n))) 23 (0,0)) k4) lc;simp -implicitDefEqProofs only[go_sem,jR,q5,r5];exact (f03.drew.trans f4).put (b:=w0.heap.size) _ fun h=>by omega
 ·obtain⟨W2,hW2,f2,k2,s2⟩:=qQm W.drew (bl (zG 32 0)) 23
  simp only[hW2];have f12:No W W2:=(Fr.refl _ _).drew.trans f2;refine qQg pl101 ((leaf W2 (ht.no (f1.trans f12)) wd hk (val:=e.2) (hby.fr0 f12) hl).mono ?_);rintro _ w3' ⟨rfl,f3'⟩;refine⟨fun _=>Fr.ext f3',?_⟩;have k2':=f3'.at k2 id
  obtain⟨W3,q3,k3,f13⟩:∃ W3,wrO prog 23 w3' W.heap.size 0 (dg (leafD wd e.1 e.2))=some W3∧W3.heap[W.heap.size]?=some (.cells (bl (leafD wd e.1 e.2)) 23 (0,0))∧No W W3 :=
   ⟨_,wr_d sz23 k2' zl32 ll,qQf k2',(f12.trans f3').put (b:=W.heap.size) _ fun h=>absurd h (Nat.lt_irrefl _)⟩
  have f03:=f1.trans f13;obtain⟨r1,r2,_⟩:=hrd W3 f13;obtain⟨r1d,r2d,_⟩:=hrd W3.drew f13.drew;rw[j8,yX]at r1 r2 r1d r2d;have r3:=rd_d agg23 sz23 k3 ll;have r3d:rdO prog 23 W3.drew W.heap.size 0=_:=r3;simp -implicitDefEqProofs only[go_sem,jR,jL,gLa,gLz,gLs,q3,y1,and_self,vE,j8,yX,r1d,r3d];refine qQa pl102 ((climbWith W3.drew (ht.no f03.drew) wd (he.fr0 f03.drew) hk ll (n:=n) hn).mono ?_);rintro _ w4 ⟨rfl,f4⟩;rw[leaf_cut];have k4:=(f13.drew.trans f4).at k1 id;have q5:=wr_d sz23 k4 zl32 lc;have r5:=rd_d agg23 sz23 (qQf (o:=.cells (bl (climb wd e.1 0 (leafD wd e.1 e.2) ((empts wd 257).take n))) 23 (0,0)) k4) lc;simp -implicitDefEqProofs only[go_sem,jR,q5,r5];exact (f03.drew.trans f4).put (b:=w0.heap.size) _ fun h=>by omega
def bsI (w0:World)(vv:Value)(bs:Bs)(n:Nat)(vs:List Value)(w:World):Prop :=
 ∃ (i:Nat) (v:Value),vs=[vv,v,.int .i64 (i:Nat)]∧i≤bs.length∧n=bs.length - i∧NwB w0 w v (bs.take i)∧No w0 w
theorem bytes12 (w0:World){bs:Bs}(hv:By w0 vv bs)(hl:bs.length≤2 ^ 40):Fn prog 135 #[vv] w0 fun v w'=>NwB w0 w' v bs∧No w0 w':=by
 refine go135 (by simp) ?_;obtain⟨va,vc,rfl,hcap⟩:=hv.slice;simp -implicitDefEqProofs only[go_sem,Tryz.f135];refine loopD [0,3,4] (bsI w0 (.slice va bs.length vc) bs) bs.length ⟨0,_,rfl,by omega,rfl,NwB.nil _ _,Fr.refl _ _⟩ ?_;rintro _ vs w3 g ⟨i,v,rfl,hi,rfl,b3,f3⟩
 by_cases hlt:i<bs.length
 ·have d1:=dTo ((i:Int)<((bs.length:Nat):Int))
  have c1:=iSu (i:=i);have y:=iBd (i:=i) (n:=bs.length);obtain⟨b,o,cap,he,r⟩:=(hv.fr0 f3).rd1 hlt;cases he;have hsn:=take_snoc (l:=bs) (i:=i) hlt;obtain⟨v4,w4,hr4,b4,f4,g4,_⟩:=NwB.grow b3 (bs.getD i 0) (by simp;omega) f3;rw[hsn]at b4;generalize bs.getD i 0=x at *;simp -implicitDefEqProofs only[go_sem,jR,gLa,gLz,y,and_self,iTn,jT,r];refine qQo (v:=.slice (some ⟨w3.heap.size,0,none⟩) 1 1) (w':=w3.alloc (.cells (bl [x]) 5)) rfl ?_;simp -implicitDefEqProofs only[go_sem,jR];refine qQh ⟨v4,w4,hr4,?_⟩;simp -implicitDefEqProofs only[go_sem,jR,c1];exact⟨bs.length - (i+1),by omega,i+1,v4,rfl,by omega,rfl,b4,f4⟩
 ·have d1:=dFo ((i:Int)<((bs.length:Nat):Int))
  have e:i=bs.length:=by omega
  subst e;rw[List.take_length]at b3;simp -implicitDefEqProofs only[go_sem,jR,gLa,gLz,d1];exact⟨b3,f3⟩
def pop:Nat→Nat→Nat
 | 0,_=>0
 | n+1,x=>x % 2+pop n (x / 2)
theorem pop_zero (n:Nat):pop n 0=0:=by
 induction n with
 | zero=>rfl
 | succ n ih=>simp[pop,ih]
theorem pop_le:∀ (n x:Nat),pop n x≤n
 | 0,_=>xP _
 | n+1,x=>by have:=pop_le n (x / 2);simp only[pop];omega
def pops (l:Bs):Nat:=(l.map fun x=>pop 8 x.toNat).sum
theorem pops_snoc (l:Bs)(x:Byte):pops (l++[x])=pops l+pop 8 x.toNat:=by simp[pops]
theorem pops_le (l:Bs):pops l≤8*l.length:=by
 induction l with
 | nil=>simp[pops]
 | cons a l ih =>
  have:=pop_le 8 a.toNat;simp only[pops,List.map_cons,List.sum_cons,List.length_cons]at *;omega
def onI (w0:World)(bits:Bs)(n:Nat)(vs:List Value)(w:World):Prop :=
 ∃ (i:Nat),vs=[pt w0.heap.size 0,.int .i64 (pops (bits.take i):Nat),.int .i64 (i:Nat)]∧i≤32∧n=32 - i∧w.heap[w0.heap.size]?=some (.cells (bl bits) 22 (0,0))∧No w0 w
def onJ (w1:World)(b s i full:Nat)(n:Nat)(vs:List Value)(w:World):Prop :=
 ∃ (m x c:Nat),vs=[pt b 0,.int .i64 (c:Nat),.int .i64 (i:Nat),.int .i64 (x:Nat)]∧n=m∧x<2 ^ m∧m≤8∧c+m≤1000∧full=c+pop m x∧w=w1
theorem ones (w0:World)(hb:bits.length=32):Fn prog 127 #[dg bits] w0 fun v w'=>v=.int .i64 (pops bits:Nat)∧No w0 w':=by
 refine go127 (by simp) ?_;obtain⟨W,hW,f1,k1,s1⟩:=qQm w0 (bl bits) 22;simp -implicitDefEqProofs only[go_sem,Tryz.f127,jS,hW];refine loopD [1,3,4] (onI w0 bits) 32 ⟨0,rfl,by omega,rfl,k1,f1⟩ ?_;rintro _ vs w g ⟨i,rfl,hi,rfl,k,f⟩
 by_cases hlt:i<32
 ·have d1:=dTo ((i:Int)<32)
  have c1:=iSu (i:=i);have y:=iBd (i:=i) (n:=32);have r:rdO prog 5 w w0.heap.size i=some (.int .u8 ((bits.getD i 0).toNat:Int)):=rd1 agg5 k (bl_at (by omega));have c2:IntKind.i64.wrap ((bits.getD i 0).toNat:Int)=((bits.getD i 0).toNat:Int):=i64n (by have:=(bits.getD i 0).isLt;omega);have hx:(bits.getD i 0).toNat<2 ^ 8:=(bits.getD i 0).isLt;have htk:bits.take (i+1)=bits.take i++[bits.getD i 0]:=(take_snoc (by omega)).symm;have hpl:=pops_le (bits.take i);have hps:pops (bits.take (i+1))=pops (bits.take i)+pop 8 (bits.getD i 0).toNat:=by rw[htk,pops_snoc]
  rw[lTk]at hpl;generalize (bits.getD i 0).toNat=x at *;generalize pops (bits.take i)=c at *;simp -implicitDefEqProofs only[go_sem,jR,d1,y,and_self,iTn,jT,r,c2];refine loopD [1,3,4,5] (onJ w w0.heap.size 0 i (pops (bits.take (i+1)))) 8 ⟨8,x,c,rfl,rfl,hx,xP _,by omega,hps,rfl⟩ ?_;rintro m vs w2 g2 ⟨m',x,c,rfl,rfl,hx,hm,hc,hf,rfl⟩
  by_cases h0:x=0
  ·subst h0
   have d2:decide (((0:Nat):Int) > 0)=false:=rfl;rw[pop_zero,yX]at hf;subst hf;simp -implicitDefEqProofs only[go_sem,jR,d2,c1];exact⟨32 - (i+1),by omega,i+1,rfl,by omega,rfl,k,f⟩
  ·have d2:=dTo ((x:Int) > 0)
   have n2:((2:Int)=0)=False:=by simp
   cases m with
   | zero=>simp at hx;omega
   | succ m =>
    have c3:IntKind.i64.wrap ((c:Int)+(x:Int).tmod 2)=((c+x % 2:Nat):Int):=by
     rw[show (x:Int).tmod 2=((x % 2:Nat):Int) from rfl];exact qXb
    have hx62:x<2 ^ 62:=Nat.lt_of_lt_of_le hx (kO (by decide) (by omega))
    have c4:IntKind.i64.wrap ((x:Int).tdiv 2)=((x / 2:Nat):Int):=by
     rw[show (x:Int).tdiv 2=((x / 2:Nat):Int) from rfl];exact i64n
    simp -implicitDefEqProofs only[go_sem,jR,d2,n2,c3,c4];rw[Nat.pow_succ]at hx;exact⟨m,by omega,m,x / 2,c+x % 2,rfl,rfl,by omega,by omega,by omega,by rw[hf,pop];omega,rfl⟩
 ·have d1:=dFo ((i:Int)<32)
  obtain rfl:i=32:=by omega
  rw[List.take_of_length_le (by omega)];simp -implicitDefEqProofs only[go_sem,jR,d1];exact f
def EnN (w0 w:World)(v:Value)(es:List (Bs × Bs)):Prop:=∃ rows,NwR w0 w 65 33 v rows∧rows.length=es.length∧∀ i (h:i<rows.length) (h':i<es.length),∃ vv,rows[i]=enRow es[i] vv∧es[i].1.length=32∧one vv=true∧By w0 vv es[i].2
theorem EnN.rd {w0 w:World}{v:Value}(h:EnN w0 w v es)(k:No w0 w):EnR w v es:=by
 obtain⟨rows,h1,h2,h3⟩:=h;refine⟨rows,h1.rd,h2,fun i a b=>?_⟩;obtain⟨vv,e,l,o,y⟩:=h3 i a b;exact⟨vv,e,l,o,y.fr0 k⟩
theorem EnN.nil (w0 w:World):EnN w0 w (.slice Option.none 0 0) []:=⟨[],NwR.nil _ _ _ _,rfl,fun i h=>absurd h (by simp)⟩
def nbE (k:Bs)(h:Nat)(es:List (Bs × Bs)):List (Bs × Bs):=es.filter fun e=>decide (common e.1 k=255 - h)
def neI (w0:World)(mv:Value)(k:Bs)(h:Nat)(es:List (Bs × Bs))(n:Nat)(vs:List Value)(w:World):Prop :=
 ∃ (i:Nat) (v:Value),vs=[mv,.int .i64 (h:Nat),pt w0.heap.size 0,v,.int .i64 (i:Nat)]∧i≤es.length∧n=es.length - i∧EnN w0 w v (nbE k h (es.take i))∧w.heap[w0.heap.size]?=some (.cells (bl k) 34 (0,0))∧No w0 w∧∀ b,qQb v=some b→b≠w0.heap.size
theorem neighbours12 (w0:World)(hm:EnR w0 mv es)(hl:es.length≤2 ^ 30){k:Bs}(hk:k.length=32)(hh:h<256) :
  Fn prog 177 #[mv,dg k,.int .i64 (h:Nat)] w0 fun v w'=>EnN w0 w' v (nbE k h es)∧No w0 w':=by
 refine go177 (by simp) ?_;obtain⟨W,hW,f1,k1,s1⟩:=qQm w0 (bl k) 34;simp -implicitDefEqProofs only[go_sem,jR,vY,Tryz.f177,jS,hW];refine loopD [0,2,4,7,8] (neI w0 mv k h es) es.length ⟨0,_,rfl,by omega,rfl,EnN.nil _ _,k1,f1,fun b hb=>(by cases hb)⟩ ?_;rintro _ vs w g ⟨i,v,rfl,hi,rfl,hv,kk,f,hne⟩;obtain⟨ma,mc,rfl,hmc⟩:=hm.slice
 by_cases hlt:i<es.length
 ·have d1:=dTo ((i:Int)<((es.length:Nat):Int))
  have c1:=iSu (i:=i);have y:=iBd (i:=i) (n:=es.length);obtain⟨b,o,cap,vv,e,_,hkl,hone,hby,hrd⟩:=hm.at hlt;cases e;have htk:es.take (i+1)=es.take i++[es[i]]:=by rw[tSg hlt]
  have hnb:nbE k h (es.take (i+1))=nbE k h (es.take i)++nbE k h [es[i]]:=by rw[htk];exact List.filter_append _ _
  have hlen:(nbE k h (es.take i)).length≤2 ^ 30:=by have:=List.length_filter_le (fun e:Bs × Bs=>decide (common e.1 k=255 - h)) (es.take i);rw[lTk]at this;unfold nbE;omega
  have r1:=(hrd w f).1;have r1d:rdO prog 34 w.drew b (o+i*33)=_:=r1;have rk:=rd_d agg34 sz34 kk hk;have rkd:rdO prog 34 w.drew w0.heap.size 0=_:=rk;generalize es[i]=x at *;simp -implicitDefEqProofs only[go_sem,jR,gLa,gLz,y,and_self,iTn,r1d,rkd];refine qQa pl207 ((common3 w.drew hkl hk).mono ?_);rintro _ w2 ⟨rfl,f2⟩;have fw:No w w2:=(Fr.refl _ _).drew.trans f2;have f02:=f.trans fw;have c2:IntKind.i64.wrap (255 - (h:Int))=((255 - h:Nat):Int):=qXm (a:=255) (by omega) (by omega);obtain⟨rows,hR,hRl,hRr⟩:=hv
  by_cases hc:common x.1 k=255 - h
  ·have d2:(((common x.1 k:Nat):Int) == ((255 - h:Nat):Int))=true:=by rw[hc];simp
   have hn1:nbE k h [x]=[x]:=by simp[nbE,hc]
   rw[hn1]at hnb;have r3:=(hrd w2 f02).2.2;have r3d:rdO prog 65 w2.drew b (o+i*33)=_:=r3;have hsz:(enRow x vv).length=33:=by simp[enRow,hkl]
   have hall:(enRow x vv).all one=true:=by simp only[enRow,List.all_append,List.all_cons,List.all_nil,hone,qXr];rfl
   simp -implicitDefEqProofs only[go_sem,jR,d2,c2,y,and_self,iTn,r3];refine qQo (v:=.slice (some ⟨w2.heap.size,0,.none⟩) 1 1) (w':=w2.alloc (.cells (enRow x vv).toArray 65)) (fill_oneN (K:=33) (by decide) (by decide) (y:=zG 32 (.int .u8 0)++[.slice .none 0 0]) rfl rfl (by rw[vI,hsz]) _) ?_;have hR2:=hR.fr0 fw;obtain⟨v3,w3,hr3,b3,g3,h3⟩:=hR2.push app66_66 hsz hall (by decide) (by omega) (by omega) f02.size;have f3:No w0 w3:=f02.trans' g3 fun b hb h=>by have:=(hR2.lt h).1;omega
   simp -implicitDefEqProofs only[go_sem,jR];refine qQh ⟨v3,w3,hr3,?_⟩;simp -implicitDefEqProofs only[go_sem,jR,c1];refine⟨es.length - (i+1),by omega,i+1,v3,rfl,by omega,rfl,⟨_,b3,by rw[lAp,hnb,lAp,hRl];rfl,fun j hj hj'=>?_⟩,g3.at (fw.at kk id) fun h=>hne _ h rfl,f3,fun c hc h=>?_⟩
   ·simp only[hnb]
    by_cases hjl:j<rows.length
    ·obtain⟨vv',e1,e2⟩:=hRr j hjl (by omega)
     refine⟨vv',?_⟩;rw[jF hjl,jF (by omega)];exact⟨e1,e2⟩
    ·rw[lAp]at hj
     have:j=rows.length:=by simp at hj;omega
     subst this;refine⟨vv,?_⟩;rw[jU (xP _),jU (by omega)];simp only[hRl,Nat.sub_self,kS];exact⟨trivial,hkl,hone,hby⟩
   ·rcases h3 c hc with h' | h'
    ·exact hne c h' h
    ·have:=qQi (fw.at kk id);omega
  ·have d2:(((common x.1 k:Nat):Int) == ((255 - h:Nat):Int))=false:=by rw[bFn];omega
   have hn1:nbE k h [x]=[]:=by simp[nbE,hc]
   rw[hn1,List.append_nil]at hnb;simp -implicitDefEqProofs only[go_sem,jR,d2,c2,c1];exact⟨es.length - (i+1),by omega,i+1,v,rfl,by omega,rfl,by rw[hnb];exact⟨rows,hR.fr0 fw,hRl,hRr⟩,fw.at kk id,f02,hne⟩
 ·have d1:=dFo ((i:Int)<((es.length:Nat):Int))
  obtain rfl:i=es.length:=by omega
  rw[List.take_length]at hv;simp -implicitDefEqProofs only[go_sem,jR,gLa,gLz,d1];exact⟨hv,f⟩
end R
namespace R
abbrev prC (f:Bool)(vv:Value)(bits:Bs)(sv:Value):List Value:=.bool f::vv::(bits.map u8++[sv])
theorem prC_len (h:bits.length=32):(prC f vv bits sv).length=35:=by simp[h]
theorem prC_one (h1:one vv=true)(h2:one sv=true):(prC f vv bits sv).toArray.all one=true:=by
 rw[← Array.all_toList];simp only[prC,List.all_cons,List.all_append,qXr,h1,h2,List.all_nil,Bool.and_true];rfl
def v2I (w0 w4:World)(esv:Value)(h:Nat)(n:Nat)(vs:List Value)(w:World):Prop :=
 ∃ (i:Nat),vs=[.int .i64 (h:Nat),pt w0.heap.size 0,pt (w0.heap.size+1) 0,pt (w0.heap.size+2) 0,.int .u8 ((2 ^ i:Nat):Int),.int .i64 (i:Nat)]∧i≤h % 8∧n=h % 8 - i∧w=w4
theorem prC_set (i:Nat)(x:Byte):((prC f vv bits sv).toArray.setIfInBounds (2+i) (u8 x))=(if i<bits.length then (prC f vv (bits.set i x) sv).toArray else (prC f vv bits sv).toArray.setIfInBounds (2+i) (u8 x)):=by
 split
 ·rename_i h
  apply Array.toList_inj.1;rw[kC,kA,kA,show 2+i=i+1+1 by omega];simp only[prC,kI];rw[List.set_append_left _ _ (by simpa using h)]
  simp
 ·rfl
theorem prC_sums {vv sv sv':Value}(h:bits.length=32):(prC f vv bits sv).toArray.setIfInBounds 34 sv'=(prC f vv bits sv').toArray:=by
 apply Array.toList_inj.1;rw[kC,kA,kA];simp only[prC,kI];rw[List.set_append_right _ _ (by simp[h])];simp[h]
abbrev prZ:Array Value:=(#[.bool false,.slice Option.none 0 0]:Array Value)++Array.replicate 32 (.int .u8 0)++#[.slice Option.none 0 0]
def setP (wd:Int)(bits:Bs)(h:Nat)(d:Bs):Bs × List Bs:=if d=emptD wd h then (bits,[]) else (bits.set (h / 8) (bits.getD (h / 8) 0 ||| BitVec.ofNat 8 (2 ^ (h % 8))),[d])
theorem set12 (w0:World)(wd:Int)(he:RdD w0 esv (empts wd 257))(hbl:bits.length=32)(hvo:one vv=true)(hh:h<256)(hfree:(bits.getD (h / 8) 0).getLsbD (h % 8)=false){d:Bs}(hd:d.length=32) :
  Fn prog 179 #[.agg (prC f vv bits (.slice .none 0 0)).toArray,esv,.int .i64 (h:Nat),dg d] w0 fun v w'=>No w0 w'∧∃ sv,v=.agg (prC f vv (setP wd bits h d).1 sv).toArray∧one sv=true∧NwD w0 w' 23 sv (setP wd bits h d).2:=by
 refine go179 (by simp) ?_;obtain⟨W,hW,f1,k1,k2,k3,s1⟩:=qJd w0 (prC f vv bits (.slice .none 0 0)).toArray 122 (bl d) 23 prZ 122;obtain⟨eb,eo,ec,rfl,_,_⟩:=he.pos (by rw[qQn];decide);have re:=(he.fr0 f1).get (P:=prog) agg23 sz23 (i:=h) (by rw[qQn];omega);rw[gDq,qXy wd 257 (by omega),Option.getD_some]at re;have red:rdO prog 23 W.drew eb (eo+h*32)=_:=re;have y1:(0:Int)≤(h:Int)∧(h:Int)<(((empts wd 257).length:Nat):Int):=by rw[qQn];omega
 have rd:=rd_d agg23 sz23 k2 hd;have rdd:rdO prog 23 W.drew (w0.heap.size+1) 0=_:=rd;have eq:=eqDig hd (qQr wd h);have hpl:(prC f vv bits (.slice .none 0 0)).toArray.size=35:=by rw[vI];exact prC_len hbl
 have zsz:prZ.size=35:=by simp[prZ]
 have k1d:W.drew.heap[w0.heap.size]?=_:=k1;have k2d:W.drew.heap[w0.heap.size+1]?=_:=k2;have k3d:W.drew.heap[w0.heap.size+2]?=_:=k3
 by_cases hde:d=emptD wd h
 ·have hb:(d == emptD wd h)=true:=by rw[beq_iff_eq];exact hde
  have r1:rdO prog 122 W.drew w0.heap.size 0=some (.agg (prC f vv bits (.slice .none 0 0)).toArray):=qXv agg122 (by rw[hpl];exact sz122) k1d;have q1:wrO prog 122 W.drew (w0.heap.size+2) 0 (.agg (prC f vv bits (.slice .none 0 0)).toArray)=some (put W.drew (w0.heap.size+2) (.cells (prC f vv bits (.slice .none 0 0)).toArray 122 (0,0))):=qQw (by rw[hpl];exact sz122) k3d (by rw[hpl];exact zsz) (prC_one hvo rfl);have k4:=qQf (o:=.cells (prC f vv bits (.slice .none 0 0)).toArray 122 (0,0)) k3d;have r4:rdO prog 122 _ (w0.heap.size+2) 0=some (.agg (prC f vv bits (.slice .none 0 0)).toArray):=qXv agg122 (by rw[hpl];exact sz122) k4;simp -implicitDefEqProofs only[go_sem,jR,vY,Tryz.f179,jS,hW,y1,and_self,iTn,rdd,red,eq,hb,r1,q1,r4];unfold setP;rw[if_pos hde];exact⟨f1.drew.put (b:=w0.heap.size+2) _ fun h=>by omega,_,rfl,rfl,NwD.nil _ _ _⟩
 ·have hb:(d == emptD wd h)=false:=by rw[bFn];exact hde
  simp -implicitDefEqProofs only[go_sem,jR,vY,Tryz.f179,jS,hW,y1,and_self,iTn,rdd,red,eq,hb];have n8:((8:Int)=0)=False:=by simp
  have m8:(h:Int).tmod 8=((h % 8:Nat):Int):=rfl;have q8:IntKind.i64.wrap ((h:Int).tdiv 8)=((h / 8:Nat):Int):=by rw[show (h:Int).tdiv 8=((h / 8:Nat):Int) from rfl];exact i64n
  refine loopD [2,4,7,8,9,10] (v2I w0 W.drew (.slice .none 0 0) h) (h % 8) ⟨0,rfl,by omega,rfl,rfl⟩ ?_;rintro _ vs w4 g ⟨i,rfl,hi,rfl,rfl⟩
  by_cases hlt:i<h % 8
  ·have d1:=dTo ((i:Int)<((h % 8:Nat):Int))
   have c1:=iSu (i:=i)
   have c2:IntKind.u8.wrap (2*((2 ^ i:Nat):Int))=((2 ^ (i+1):Nat):Int):=by
    rw[wrap_u8];have:2 ^ (i+1)≤2 ^ 7:=kO (by decide) (by omega);rw[Nat.pow_succ]at this ⊢;omega
   simp -implicitDefEqProofs only[go_sem,jR,d1,n8,m8,c1,c2];exact⟨h % 8 - (i+1),by omega,i+1,rfl,by omega,rfl,rfl⟩
  ·have d1:=dFo ((i:Int)<((h % 8:Nat):Int))
   obtain rfl:i=h % 8:=by omega
   have hb8:h / 8<32:=by omega
   have y2:(0:Int)≤((h / 8:Nat):Int)∧((h / 8:Nat):Int)<((32:Nat):Int):=by omega
   have rb:rdO prog 5 W.drew w0.heap.size (2+h / 8)=some (.int .u8 ((bits.getD (h / 8) 0).toNat:Int)):=by
    refine rd1 agg5 k1d ?_;rw[zX,Nat.add_comm];show (Value.bool f::vv::(bits.map u8++[Value.slice .none 0 0]))[h / 8+2]?=_;rw[kQ,kQ,List.getElem?_append_left (by simp[hbl];omega),List.getElem?_map,List.getElem?_eq_getElem (by omega),qQl _ (by omega)];rfl
   have ho:=add_or8 (x:=bits.getD (h / 8) 0) (k:=h % 8) (Nat.mod_lt _ (by decide)) hfree
   have c3:IntKind.u8.wrap (((bits.getD (h / 8) 0).toNat:Int)+((2 ^ (h % 8):Nat):Int))=(((bits.getD (h / 8) 0 ||| BitVec.ofNat 8 (2 ^ (h % 8))).toNat:Nat):Int):=by
    rw[← Int.natCast_add,ho];exact w8_toNat _
   generalize hx:bits.getD (h / 8) 0 ||| BitVec.ofNat 8 (2 ^ (h % 8))=x at *
   have hps:=prC_set (f:=f) (vv:=vv) (sv:=.slice .none 0 0) (bits:=bits) (h / 8) x;rw[if_pos (by omega)]at hps;have hbl2:(bits.set (h / 8) x).length=32:=by rw[List.length_set];exact hbl
   have qb:wrO prog 5 W.drew w0.heap.size (2+h / 8) (.int .u8 (x.toNat:Int))=some (put W.drew w0.heap.size (.cells (prC f vv (bits.set (h / 8) x) (.slice .none 0 0)).toArray 122 (0,0))):=by
    rw[← hps];exact wr1 sz5 rfl k1d (by rw[hpl];omega)
   generalize hbits:bits.set (h / 8) x=bits' at *;have j1:=qQf (o:=.cells (prC f vv bits' (.slice .none 0 0)).toArray 122 (0,0)) k1d;have j2:=qQt (b:=w0.heap.size) (o:=.cells (prC f vv bits' (.slice .none 0 0)).toArray 122 (0,0)) k2d (by omega);have j3:=qQt (b:=w0.heap.size) (o:=.cells (prC f vv bits' (.slice .none 0 0)).toArray 122 (0,0)) k3d (by omega);have f5:No w0 (put W.drew w0.heap.size (.cells (prC f vv bits' (.slice .none 0 0)).toArray 122 (0,0))):=f1.drew.put (b:=w0.heap.size) _ fun h=>by omega
   obtain⟨w5,hw5⟩:∃ w5,w5=put W.drew w0.heap.size (.cells (prC f vv bits' (.slice .none 0 0)).toArray 122 (0,0)):=⟨_,rfl⟩
   rw[← hw5]at qb j1 j2 j3 f5
   have rs:rdO prog 94 w5 w0.heap.size 34=some (.slice .none 0 0):=by
    refine rd1 agg94 j1 ?_;rw[zX];show (Value.bool f::vv::(bits'.map u8++[Value.slice .none 0 0]))[32+2]?=_;rw[kQ,kQ,List.getElem?_append_right (by simp[hbl2])];simp[hbl2]
   have rd5:=rd_d agg23 sz23 j2 hd;simp -implicitDefEqProofs only[go_sem,jR,d1,n8,m8,q8,y2,and_self,iTn,jT,rb,c3,qb,rs,rd5];refine qQo (v:=.slice (some ⟨w5.heap.size,0,.none⟩) 1 1) (w':=w5.alloc (.cells (bl d) 23)) (qXk (y:=List.map u8 (zG 32 0)) (by simp) (c:=bl (zG 32 0)) (by simp) (d:=d) hd _) ?_;obtain⟨v6,w6,hr6,b6,f6,g6,h6⟩:=(NwD.nil w0 w5 23).push app94_94 hd (by simp) f5;have i1:=g6.at j1 fun h=>by cases h
   have i3:=g6.at j3 fun h=>by cases h
   have hone6:one v6=true:=by obtain⟨a,c,e,_⟩:=b6.rd.slice;rw[e];rfl
   have hpl2:(prC f vv bits' (.slice .none 0 0)).toArray.size=35:=by rw[vI];exact prC_len hbl2
   have hpl3:(prC f vv bits' v6).toArray.size=35:=by rw[vI];exact prC_len hbl2
   have q7:wrO prog 94 w6 w0.heap.size 34 v6=some (put w6 w0.heap.size (.cells (prC f vv bits' v6).toArray 122 (0,0))):=by
    have:=wr1 (P:=prog) sz94 hone6 i1 (o:=34) (by rw[hpl2];decide);rw[prC_sums hbl2]at this;exact this
   have m1:=qQf (o:=.cells (prC f vv bits' v6).toArray 122 (0,0)) i1;have m3:=qQt (b:=w0.heap.size) (o:=.cells (prC f vv bits' v6).toArray 122 (0,0)) i3 (by omega);have f7:No w0 (put w6 w0.heap.size (.cells (prC f vv bits' v6).toArray 122 (0,0))):=f6.put (b:=w0.heap.size) _ fun h=>by omega
   have b7:NwD w0 (put w6 w0.heap.size (.cells (prC f vv bits' v6).toArray 122 (0,0))) 23 v6 [d]:=b6.put _ fun c hc h=>by
    rcases h6 c hc with h' | h'
    ·cases h'
    ·have:=qQi j1;omega
   obtain⟨w7,hw7⟩:∃ w7,w7=put w6 w0.heap.size (.cells (prC f vv bits' v6).toArray 122 (0,0)):=⟨_,rfl⟩
   rw[← hw7]at q7 m1 m3 f7 b7;have r8:rdO prog 122 w7 w0.heap.size 0=some (.agg (prC f vv bits' v6).toArray):=qXv agg122 (by rw[hpl3];exact sz122) m1;have q8:wrO prog 122 w7 (w0.heap.size+2) 0 (.agg (prC f vv bits' v6).toArray)=some (put w7 (w0.heap.size+2) (.cells (prC f vv bits' v6).toArray 122 (0,0))):=qQw (by rw[hpl3];exact sz122) m3 (by rw[hpl3];exact zsz) (prC_one hvo hone6);have r9:rdO prog 122 _ (w0.heap.size+2) 0=some (.agg (prC f vv bits' v6).toArray):=qXv agg122 (by rw[hpl3];exact sz122) (qQf (o:=.cells (prC f vv bits' v6).toArray 122 (0,0)) m3);simp -implicitDefEqProofs only[go_sem,jR];refine qQh ⟨v6,w6,hr6,?_⟩;simp -implicitDefEqProofs only[go_sem,jR,q7,r8,q8,r9];unfold setP;rw[if_neg hde,hx];simp only[hbits]
   exact⟨f7.put (b:=w0.heap.size+2) _ fun h=>by omega,v6,rfl,hone6,b7.put _ fun c hc h=>by
    rcases h6 c hc with h' | h'
    ·cases h'
    ·have:=qQi j3;omega⟩
theorem prC_flag {f f':Bool}:(prC f vv bits sv).toArray.setIfInBounds 0 (.bool f')=(prC f' vv bits sv).toArray:=by
 apply Array.toList_inj.1;simp[prC]
theorem prC_val {vv vv' sv:Value}:(prC f vv bits sv).toArray.setIfInBounds 1 vv'=(prC f vv' bits sv).toArray:=by
 apply Array.toList_inj.1;simp[prC]
theorem digest12X (w0:World)(ht:Tabs w0)(wd:Int)(he:RdD w0 esv (empts wd 257))(hm:EnR w0 mv [e])(hl:e.2.length≤549755813888)(hn:n≤256){x:Bs}(hx:Lone wd e n x) :
  Fn prog 178 #[esv,.int .i64 wd,mv,.int .i64 (n:Nat)] w0 fun v w'=>v=dg x∧No w0 w':=by
 rw[hx];exact digest12 w0 ht wd he hm hl hn
def pwI (w0:World)(wd:Int)(esv mv:Value)(k:Bs)(e1 e2:Bs × Bs)(n:Nat)(vs:List Value)(w:World):Prop :=
 ∃ (i:Nat) (vv:Value),vs=[esv,.int .i64 wd,mv,pt w0.heap.size 0,pt (w0.heap.size+1) 0,pt (w0.heap.size+2) 0,.int .i64 (i:Nat)]∧i≤2∧n=2 - i ∧
  w.heap[w0.heap.size]?=some (.cells (bl k) 34 (0,0))∧w.heap[w0.heap.size+1]?=some (.cells prZ 122 (0,0))∧w.heap[w0.heap.size+2]?=some (.cells (prC (decide (0<i)) vv (zG 32 0) (.slice .none 0 0)).toArray 122 (0,0))∧No w0 w ∧
  one vv=true∧(if i=0 then vv=.slice .none 0 0 else NwB w0 w vv e1.2)∧∀ b,qQb vv=some b→w0.heap.size+3≤b
theorem prZ_eq:prZ=(prC false (.slice Option.none 0 0) (zG 32 0) (.slice Option.none 0 0)).toArray:=by
 apply Array.toList_inj.1;simp[prZ,prC]
def pwJ (w0:World)(wd:Int)(esv mv:Value)(k:Bs)(e1:Bs × Bs)(x2:Bs)(n:Nat)(vs:List Value)(w:World):Prop :=
 ∃ (h:Nat) (vv sv:Value),vs=[esv,.int .i64 wd,mv,pt w0.heap.size 0,pt (w0.heap.size+1) 0,pt (w0.heap.size+2) 0,.int .i64 (h:Nat)]∧h≤256∧n=256 - h ∧
  w.heap[w0.heap.size]?=some (.cells (bl k) 34 (0,0))∧w.heap[w0.heap.size+1]?=some (.cells prZ 122 (0,0)) ∧
  w.heap[w0.heap.size+2]?=some (.cells (prC true vv (if h<256 then zG 32 0 else (setP wd (zG 32 0) 255 x2).1) sv).toArray 122 (0,0))∧No w0 w∧one vv=true∧NwB w0 w vv e1.2∧one sv=true∧(if h<256 then sv=.slice .none 0 0 else NwD w0 w 23 sv (setP wd (zG 32 0) 255 x2).2) ∧
  (∀ b,qQb vv=some b→w0.heap.size+3≤b)∧∀ b,qQb sv=some b→w0.heap.size+3≤b
theorem proveWith2 (w0:World)(ht:Tabs w0)(wd:Int)(he:RdD w0 esv (empts wd 257))(hm:EnR w0 mv [e1, e2])(hc:common e2.1 e1.1=0)(hl1:e1.2.length≤2 ^ 30)(hl2:e2.2.length≤2 ^ 30)(hx2:Lone wd e2 255 x2) :
  Fn prog 126 #[esv,.int .i64 wd,mv,dg e1.1] w0 fun v w'=>No w0 w'∧∃ vv sv,v=.agg (prC true vv (setP wd (zG 32 0) 255 x2).1 sv).toArray∧one vv=true∧one sv=true∧NwB w0 w' vv e1.2∧NwD w0 w' 23 sv (setP wd (zG 32 0) 255 x2).2:=by
 refine go126 (by simp) ?_;obtain⟨b,o,cap,vv1,rfl,hcap,hk1,ho1,hby1,hrd1⟩:=hm.at (i:=0) (by simp);obtain⟨b',o',cap',vv2,e,_,hk2,ho2,hby2,hrd2⟩:=hm.at (i:=1) (by simp);cases e;simp only[kS,kE]at hk1 hk2 hrd1 hrd2 hby1 hby2
 have hne:e2.1≠e1.1:=fun h=>by
  have:common e2.1 e1.1=256:=by rw[h];exact qZf (fun _ _=>rfl) (fun h=>absurd h (by omega)) (xP _)
  omega
 obtain⟨W,hW,f1,k1,k2,k3,s1⟩:=qJd w0 (bl e1.1) 34 prZ 122 prZ 122;simp -implicitDefEqProofs only[go_sem,jR,vY,Tryz.f126,jS,hW];have zl:(zG 32 (0:Byte)).length=32:=lRe;refine loopD [0,1,2,7,8,9,10] (pwI w0 wd esv (.slice (some ⟨b,o,.none⟩) ([e1,e2]:List (Bs × Bs)).length cap) e1.1 e1 e2) 2 ⟨0,.slice .none 0 0,rfl,by omega,rfl,k1,k2,by rw[prZ_eq]at k3;exact k3,f1,rfl,rfl,fun b hb=>by cases hb⟩ ?_;rintro _ vs w g ⟨i,vv,rfl,hi,rfl,j1,j2,j3,f,hvo,hvv,hvb⟩
 rcases jQ i 2 with hlt | hge
 ·have d1:=dTo ((i:Int)<((([e1,e2]:List (Bs × Bs)).length:Nat):Int)) (by simp;omega)
  have c1:=iSu (i:=i);have y:(0:Int)≤(i:Int)∧(i:Int)<((([e1,e2]:List (Bs × Bs)).length:Nat):Int):=by simp;omega
  have rk:=rd_d agg34 sz34 j1 hk1;have rkd:rdO prog 34 w.drew w0.heap.size 0=_:=rk
  rcases jQ i 1 with h0 | h0
  ·obtain rfl:i=0:=by omega
   rw[if_pos rfl]at hvv;subst hvv;have r1:=(hrd1 w f).1;have r1d:rdO prog 34 w.drew b (o+0*33)=_:=r1;rw[j8,yX]at r1 r1d;have eq:=eqKey hk1 hk1;have hb:(e1.1 == e1.1)=true:=by simp
   have d0:decide (0<0)=false:=rfl;rw[d0]at j3;have j3d:w.drew.heap[w0.heap.size+2]?=_:=j3;have hsz:(prC false (.slice .none 0 0) (zG 32 0) (.slice .none 0 0)).toArray.size=35:=by rw[vI];exact prC_len zl
   have q1:wrO prog 4 w.drew (w0.heap.size+2) 0 (.bool true)=some (put w.drew (w0.heap.size+2) (.cells (prC true (.slice .none 0 0) (zG 32 0) (.slice .none 0 0)).toArray 122 (0,0))):=by
    rw[← prC_flag (f:=false)];exact wr1 sz4 rfl j3d (by rw[hsz];decide)
   have m3:=qQf (o:=.cells (prC true (.slice .none 0 0) (zG 32 0) (.slice .none 0 0)).toArray 122 (0,0)) j3d;have m1:=qQt (b:=w0.heap.size+2) (o:=.cells (prC true (.slice .none 0 0) (zG 32 0) (.slice .none 0 0)).toArray 122 (0,0)) (show w.drew.heap[w0.heap.size]?=_ from j1) (by omega);have m2:=qQt (b:=w0.heap.size+2) (o:=.cells (prC true (.slice .none 0 0) (zG 32 0) (.slice .none 0 0)).toArray 122 (0,0)) (show w.drew.heap[w0.heap.size+1]?=_ from j2) (by omega);have f3:No w0 (put w.drew (w0.heap.size+2) (.cells (prC true (.slice .none 0 0) (zG 32 0) (.slice .none 0 0)).toArray 122 (0,0))):=f.drew.put (b:=w0.heap.size+2) _ fun h=>by omega
   obtain⟨w3,hw3⟩:∃ w3,w3=put w.drew (w0.heap.size+2) (.cells (prC true (.slice .none 0 0) (zG 32 0) (.slice .none 0 0)).toArray 122 (0,0)):=⟨_,rfl⟩
   rw[← hw3]at q1 m1 m2 m3 f3;have r2:=(hrd1 w3 f3).2.1;rw[j8,yX]at r2;simp -implicitDefEqProofs only[go_sem,jR,gLa,gLz,decide_true,y,and_self,iTn,r1d,rkd,eq,hb,q1,r2];refine qQa pl135 ((bytes12 w3 (hby1.fr0 f3) (by omega)).mono ?_);rintro v4 w4 ⟨n4,f4⟩;have hone4:=n4.by.one
   have q5:wrO prog 25 w4 (w0.heap.size+2) 1 v4=some (put w4 (w0.heap.size+2) (.cells (prC true v4 (zG 32 0) (.slice .none 0 0)).toArray 122 (0,0))):=by
    rw[← prC_val (vv:=.slice .none 0 0)];exact wr1 sz25 hone4 (f4.at m3 id) (by rw[vI,prC_len zl];decide)
   have h3s:=qQi m3;simp -implicitDefEqProofs only[go_sem,jR,q5,c1]
   exact⟨1,by omega,1,v4,rfl,by omega,rfl,qQt (f4.at m1 id) (by omega),qQt (f4.at m2 id) (by omega),qQf (f4.at m3 id),(f3.trans f4).put (b:=w0.heap.size+2) _ fun h=>by omega,hone4,
    (n4.back f3.size).put _ fun c hc h=>by have:=(n4.lt hc).1;omega,fun c hc=>by have:=(n4.lt hc).1;omega⟩
  ·obtain rfl:i=1:=by omega
   rw[if_neg (by omega)]at hvv;have r1:=(hrd2 w f).1;have r1d:rdO prog 34 w.drew b (o+1*33)=_:=r1;have eq:=eqKey hk2 hk1;have hb:(e2.1 == e1.1)=false:=by rw[bFn];exact hne
   simp -implicitDefEqProofs only[go_sem,jR,vY,gLa,gLz,decide_true,y,and_self,iTn,r1d,rkd,eq,hb,c1];exact⟨0,by omega,2,vv,rfl,by omega,rfl,j1,j2,j3,f.drew,hvo,hvv.fr0 (Fr.refl _ _).drew,hvb⟩
 ·obtain rfl:i=2:=by omega
  rw[if_neg (by omega)]at hvv;have d1:decide (((2:Nat):Int)<((([e1,e2]:List (Bs × Bs)).length:Nat):Int))=false:=rfl;simp -implicitDefEqProofs only[go_sem,jR,gLa,gLz,d1];refine loopD [0,1,2,7,8,9,11] (pwJ w0 wd esv (.slice (some ⟨b,o,.none⟩) ([e1,e2]:List (Bs × Bs)).length cap) e1.1 e1 x2) 256 ⟨0,vv,.slice .none 0 0,rfl,by omega,rfl,j1,j2,by rw[if_pos (by omega)];exact j3,f,hvo,hvv,rfl,by rw[if_pos (by omega)],hvb,fun b hb=>(by cases hb)⟩ ?_;clear j1 j2 j3 f hvo hvv hvb d1;rintro _ vs w g ⟨h,vv,sv,rfl,hh,rfl,j1,j2,j3,f,hvo,hvv,hso,hsv,hvb,hsb⟩
  by_cases hlt:h<256
  ·rw[if_pos hlt]at j3 hsv
   subst hsv;have d1:=dTo ((h:Int)<256);have c1:=iSu (i:=h);have rk:=rd_d agg34 sz34 j1 hk1;simp -implicitDefEqProofs only[go_sem,jR,d1,rk];refine qQa pl177 ((neighbours12 w (hm.fr0 f) (by simp) hk1 hlt).mono ?_);rintro nv w2 ⟨n2,f2⟩;have hcs:common e1.1 e1.1=256:=qZf (fun _ _=>rfl) (fun h=>absurd h (by omega)) (xP _);have n2:=n2.rd f2;have h3s:=qQi j3
   by_cases h5:h=255
   ·subst h5
    have hnb:nbE e1.1 255 [e1,e2]=[e2]:=by simp[nbE,hcs,hc]
    rw[hnb]at n2;obtain⟨na,nc,rfl,_⟩:=id n2.slice;have d2:decide (((([e2]:List (Bs × Bs)).length:Nat):Int) > 0)=true:=rfl;simp -implicitDefEqProofs only[go_sem,jR,gLa,gLz,d2];refine qQa pl178 ((digest12X w2 (ht.no (f.trans f2)) wd (he.fr0 (f.trans f2)) n2 (by omega) (n:=255) (by decide) hx2).mono ?_);rintro _ w3 ⟨rfl,f3⟩;obtain⟨W4,q4,k4,f4,s4⟩:=allocD w3 (ty:=23) sz23 hx2.len;have f24:=(f2.trans f3).trans f4;have f04:=f.trans f24;have r4:=rd_d agg23 sz23 k4 hx2.len;have m3:=f24.at j3 id;have hsz:(prC true vv (zG 32 0) (.slice .none 0 0)).toArray.size=35:=by rw[vI];exact prC_len zl
    have rp:rdO prog 122 W4 (w0.heap.size+2) 0=some (.agg (prC true vv (zG 32 0) (.slice .none 0 0)).toArray):=qXv agg122 (by rw[hsz];exact sz122) m3;simp -implicitDefEqProofs only[go_sem,jR,jS,qQj,q4,r4,rp];refine qQa pl179 ((set12 W4 wd (he.fr0 f04) zl hvo (h:=255) (by decide) (by decide) hx2.len).mono ?_);rintro _ w5 ⟨f5,sv,rfl,hone5,n5⟩
    have hbl5:(setP wd (zG 32 0) 255 x2).1.length=32:=by unfold setP;split <;> simp
    have hsz5:(prC true vv (setP wd (zG 32 0) 255 x2).1 sv).toArray.size=35:=by rw[vI];exact prC_len hbl5
    have q6:wrO prog 122 w5 (w0.heap.size+2) 0 (.agg (prC true vv (setP wd (zG 32 0) 255 x2).1 sv).toArray)=some (put w5 (w0.heap.size+2) (.cells (prC true vv (setP wd (zG 32 0) 255 x2).1 sv).toArray 122 (0,0))):=qQw (by rw[hsz5];exact sz122) (f5.at m3 id) (by rw[hsz5];exact hsz) (prC_one hvo hone5);have c1:IntKind.i64.wrap (((255:Nat):Int)+1)=((256:Nat):Int):=rfl;simp -implicitDefEqProofs only[go_sem,jR,q6,c1]
    refine⟨0,by omega,256,vv,sv,rfl,by omega,rfl,qQt (f5.at (f24.at j1 id) id) (by omega),qQt (f5.at (f24.at j2 id) id) (by omega),by rw[if_neg (by omega)];exact qQf (f5.at m3 id),(f04.trans f5).put (b:=w0.heap.size+2) _ fun h=>by omega,hvo,
     ((hvv.fr0 f24).fr0 f5).put _ fun c hc h=>by have:=hvb c hc;omega,hone5,?_,hvb,fun c hc=>by have:=(n5.lt hc).1;have:=f24.size;omega⟩
    rw[if_neg (by omega)];exact (n5.back f04.size).put _ fun c hc h=>by have:=(n5.lt hc).1;have:=f24.size;omega
   ·have hnb:nbE e1.1 h [e1, e2]=[]:=by
     have a1:¬ (256=255 - h):=by omega
     have a2:¬ (0=255 - h):=by omega
     simp[nbE,hcs,hc,a1,a2]
    rw[hnb]at n2;obtain⟨na,nc,rfl,_⟩:=id n2.slice;have d2:decide (((([]:List (Bs × Bs)).length:Nat):Int) > 0)=false:=rfl;simp -implicitDefEqProofs only[go_sem,jR,gLa,gLz,d2,c1];exact⟨256 - (h+1),by omega,h+1,vv,.slice .none 0 0,rfl,by omega,rfl,f2.at j1 id,f2.at j2 id,by rw[if_pos (by omega)];exact f2.at j3 id,f.trans f2,hvo,hvv.fr0 f2,rfl,by rw[if_pos (by omega)],hvb,hsb⟩
  ·obtain rfl:h=256:=by omega
   rw[if_neg hlt]at j3 hsv;have d1:decide (((256:Nat):Int)<256)=false:=rfl
   have hbl5:(setP wd (zG 32 0) 255 x2).1.length=32:=by unfold setP;split <;> simp
   have hsz5:(prC true vv (setP wd (zG 32 0) 255 x2).1 sv).toArray.size=35:=by rw[vI];exact prC_len hbl5
   have rp:rdO prog 122 w (w0.heap.size+2) 0=some (.agg (prC true vv (setP wd (zG 32 0) 255 x2).1 sv).toArray):=qXv agg122 (by rw[hsz5];exact sz122) j3;have q6:wrO prog 122 w (w0.heap.size+1) 0 (.agg (prC true vv (setP wd (zG 32 0) 255 x2).1 sv).toArray)=some (put w (w0.heap.size+1) (.cells (prC true vv (setP wd (zG 32 0) 255 x2).1 sv).toArray 122 (0,0))):=qQw (by rw[hsz5];exact sz122) j2 (by rw[hsz5];simp[prZ]) (prC_one hvo hso);have r7:rdO prog 122 _ (w0.heap.size+1) 0=some (.agg (prC true vv (setP wd (zG 32 0) 255 x2).1 sv).toArray):=qXv agg122 (by rw[hsz5];exact sz122) (qQf (o:=.cells (prC true vv (setP wd (zG 32 0) 255 x2).1 sv).toArray 122 (0,0)) j2);simp -implicitDefEqProofs only[go_sem,jR,d1,rp,q6,r7];exact⟨f.put (b:=w0.heap.size+1) _ fun h=>by omega,vv,sv,rfl,hvo,hso,hvv.put _ fun c hc h=>by have:=hvb c hc;omega,hsv.put _ fun c hc h=>by have:=hsb c hc;omega⟩
end R
end Go.V
