/-
 Helpers: KnowC, KnowD.
-/
import Derived.Test.YtmenaeggoakppaaGreatDoorB31
set_option linter.all false
section
namespace Go.V
open Go.Proofs Sha
set_option maxRecDepth 100000
namespace R
def spI (w0:World) (mv:Value) (m:Nat) (vs:List Value) (w:World):Prop:=∃ (k:Nat),vs=[mv,.int .i64 0,.int .i64 (k:Nat)]∧k≤1∧m=1 - k∧No w0 w
theorem split2 (w0 : World) {mv : Value} {e1 e2 : Bs × Bs} (hm : EnR w0 mv [e1, e2]) (h1 : kbit e1.1 0 = false) (h2 : kbit e2.1 0 = true) :
    Fn Tryz.prog 103 #[mv,.int .i64 0] w0 fun v w' => v = .int .i64 1 ∧ No w0 w' := by
 refine Tryz.go103 (by simp) ?_
 obtain⟨b,o,cap,vv1,rfl,hc,hk1,_,_,hrd1⟩:=hm.at (i:=0) (by simp)
 obtain⟨b',o',cap',vv2,e,_,hk2,_,_,hrd2⟩:=hm.at (i:=1) (by simp)
 cases e
 simp only[List.getElem_cons_zero,List.getElem_cons_succ] at hk1 hk2 hrd1 hrd2
 simp -implicitDefEqProofs only[go_sem,Nat.reduceEqDiff,Nat.reduceBEq,Nat.reduceAdd,gLa,gLz,gLs,Tryz.f103]
 refine loopD [0,1,5] (spI w0 (.slice (some ⟨b,o,Option.none⟩) ([e1,e2]:List (Bs × Bs)).length cap)) 1 ⟨0,rfl,by omega,rfl,Fr.refl _ _⟩ ?_
 rintro _ vs w g ⟨k,rfl,hk,rfl,f⟩
 rcases Nat.lt_or_ge k 1 with h | h
 ·obtain rfl:k=0:=by omega
  have d1:decide (((0:Nat):Int)<((([e1,e2]:List (Bs × Bs)).length:Nat):Int))=true:=rfl
  have y1:(0:Int)≤((0:Nat):Int)∧((0:Nat):Int)<((([e1,e2]:List (Bs × Bs)).length:Nat):Int):=by simp
  have r1:=(hrd1 w f).1
  have c1:IntKind.i64.wrap (((0:Nat):Int)+1)=((1:Nat):Int):=rfl
  rw[Nat.zero_mul,Nat.add_zero] at r1
  simp -implicitDefEqProofs only[go_sem,Nat.reduceEqDiff,Nat.reduceBEq,Nat.reduceAdd,gLa,gLz,gLs,d1,y1,and_self,Int.toNat_natCast,Nat.zero_mul,Nat.add_zero,r1,decide_true,ft_beq,tf_beq,beq_self_eq_true]
  refine contL_call Tryz.pl166 ((bit3 w hk1 (i:=0) (by decide)).mono ?_)
  rintro _ w2 ⟨rfl,f2⟩
  have hb:kb e1.1 0=0:=by unfold kb;rw[h1];rfl
  rw[hb]
  simp -implicitDefEqProofs only[go_sem,Nat.reduceEqDiff,Nat.reduceBEq,Nat.reduceAdd,gLa,gLz,gLs,decide_true,ft_beq,tf_beq,beq_self_eq_true,c1]
  exact⟨0,by omega,1,rfl,by omega,rfl,f.trans f2⟩
 ·obtain rfl:k=1:=by omega
  have d1:decide (((1:Nat):Int)<((([e1,e2]:List (Bs × Bs)).length:Nat):Int))=true:=rfl
  have y1:(0:Int)≤((1:Nat):Int)∧((1:Nat):Int)<((([e1,e2]:List (Bs × Bs)).length:Nat):Int):=by simp
  have r1:=(hrd2 w f).1
  simp -implicitDefEqProofs only[go_sem,Nat.reduceEqDiff,Nat.reduceBEq,Nat.reduceAdd,gLa,gLz,gLs,d1,y1,and_self,Int.toNat_natCast,r1,decide_true,ft_beq,tf_beq,beq_self_eq_true]
  refine contL_call Tryz.pl166 ((bit3 w hk2 (i:=0) (by decide)).mono ?_)
  rintro _ w2 ⟨rfl,f2⟩
  have hb:kb e2.1 0=1:=by unfold kb;rw[h2];rfl
  have d0:((1:Int) == 0)=false:=rfl
  rw[hb]
  simp -implicitDefEqProofs only[go_sem,Nat.reduceEqDiff,Nat.reduceBEq,Nat.reduceAdd,gLa,gLz,gLs,decide_true,ft_beq,tf_beq,beq_self_eq_true,d0]
  exact⟨rfl,f.trans f2⟩
/-- the digest of a lone key's place -/
def Lone (wd:Int) (e:Bs × Bs) (n:Nat) (x:Bs):Prop:=x=climb wd e.1 0 (leafD wd e.1 e.2) ((empts wd 257).take n)
theorem Lone.len {wd:Int} {e:Bs × Bs} {n:Nat} {x:Bs} (h:Lone wd e n x):x.length=32:=by rw[h];exact climb_len _ _ _ _ _ (leafD_len _ _ _)
theorem digestX (w0 : World) (ht : Tabs w0) (wd : Int) {esv mv : Value} (he : RdD w0 esv (empts wd 257)) {e : Bs × Bs} (hm : EnR w0 mv [e]) (hl : e.2.length ≤ 549755813888) {n : Nat} (hn : n ≤ 256) {x : Bs} (hx : Lone wd e (256 - n) x) :
    Fn Tryz.prog 58 #[.int .i64 wd,esv,mv,.int .i64 (n : Nat)] w0 fun v w' => v = dg x ∧ No w0 w' := by
 rw[hx];exact digest1 w0 ht wd he hm hl hn
set_option maxHeartbeats 1000000 in
theorem digest2 (w0 : World) (ht : Tabs w0) (wd : Int) {esv mv : Value} (he : RdD w0 esv (empts wd 257)) {e1 e2 : Bs × Bs} (hm : EnR w0 mv [e1, e2]) (h1 : kbit e1.1 0 = false) (h2 : kbit e2.1 0 = true) (hl1 : e1.2.length ≤ 549755813888) (hl2 : e2.2.length ≤ 549755813888)
    {x1 x2 : Bs} (hx1 : Lone wd e1 255 x1) (hx2 : Lone wd e2 255 x2) :
    Fn Tryz.prog 58 #[.int .i64 wd,esv,mv,.int .i64 0] w0 fun v w' => v = dg (branchD wd x1 x2) ∧ No w0 w' := by
 refine Tryz.go58 (by simp) ?_
 have l1:=hx1.len
 have l2:=hx2.len
 obtain⟨W,hW,f1,k1,s1⟩:=allocs1 w0 (bl (List.replicate 32 0)) 23
 obtain⟨a,cap,rfl,hc⟩:=hm.slice
 have hc:2≤cap:=hc
 have d1:(((([e1,e2]:List (Bs × Bs)).length:Nat):Int) == 0)=false:=rfl
 have d2:(((([e1,e2]:List (Bs × Bs)).length:Nat):Int) == 1)=false:=rfl
 simp -implicitDefEqProofs only[go_sem,Nat.reduceEqDiff,Nat.reduceBEq,Nat.reduceAdd,gLa,gLz,gLs,Tryz.f58,Value.cells,bl_zero,hW,d1,d2]
 refine contL_call Tryz.pl103 ((split2 W (hm.fr0 f1) h1 h2).mono ?_)
 rintro _ w2 ⟨rfl,f2⟩
 have f02:=f1.trans f2
 have c1:IntKind.i64.wrap ((0:Int)+1)=((1:Nat):Int):=rfl
 have p1:=slc_hi (P:=Tryz.prog) Tryz.slc66 Tryz.arr66 Tryz.sz65 (a:=a) (n:=([e1,e2]:List (Bs × Bs)).length) (cap:=cap) (l:=1) (by simp) hc
 have p2:=slc_lo (P:=Tryz.prog) Tryz.slc66 Tryz.arr66 Tryz.sz65 (a:=a) (n:=([e1,e2]:List (Bs × Bs)).length) (cap:=cap) (l:=1) (by simp) hc
 have p1:sliceP Tryz.prog 66 (.slice a ([e1,e2]:List (Bs × Bs)).length cap) Option.none (some (.int .i64 1)) Option.none=some (cutV 33 a cap 0 1):=p1
 have p2:sliceP Tryz.prog 66 (.slice a ([e1,e2]:List (Bs × Bs)).length cap) (some (.int .i64 1)) Option.none Option.none=some (cutV 33 a cap 1 2):=p2
 have m1:EnR w0 (cutV 33 a cap 0 1) [e1]:=hm.cutV (l:=0) (m:=1) (by decide) (by simp) rfl
 have m2:EnR w0 (cutV 33 a cap 1 2) [e2]:=hm.cutV (l:=1) (m:=2) (by decide) (by simp) rfl
 simp -implicitDefEqProofs only[go_sem,Nat.reduceEqDiff,Nat.reduceBEq,Nat.reduceAdd,gLa,gLz,gLs,p1,c1]
 refine contL_call Tryz.pl58 ((digestX w2 (ht.no f02) wd (he.fr0 f02) (m1.fr0 f02) hl1 (n:=1) (by decide) hx1).mono ?_)
 rintro _ w3 ⟨rfl,f3⟩
 obtain⟨W4,q4,k4,f4,s4⟩:=allocD w3 (ty:=23) Tryz.sz23 l1
 have f04:=(f02.trans f3).trans f4
 simp -implicitDefEqProofs only[go_sem,Nat.reduceEqDiff,Nat.reduceBEq,Nat.reduceAdd,gLa,gLz,gLs,Value.cells,bl_zero,q4,p2,c1]
 refine contL_call Tryz.pl58 ((digestX W4 (ht.no f04) wd (he.fr0 f04) (m2.fr0 f04) hl2 (n:=1) (by decide) hx2).mono ?_)
 rintro _ w5 ⟨rfl,f5⟩
 obtain⟨W6,q6,k6,f6,s6⟩:=allocD w5 (ty:=23) Tryz.sz23 l2
 have f06:=(f04.trans f5).trans f6
 have r6:=rd_d Tryz.agg23 Tryz.sz23 k6 l2
 have r4:=rd_d Tryz.agg23 Tryz.sz23 ((f5.trans f6).at k4 id) l1
 simp -implicitDefEqProofs only[go_sem,Nat.reduceEqDiff,Nat.reduceBEq,Nat.reduceAdd,gLa,gLz,gLs,Value.cells,bl_zero,q6,r4,r6]
 refine contL_call Tryz.pl100 ((branch W6 (ht.no f06) wd l1 l2).mono ?_)
 rintro _ w7 ⟨rfl,f7⟩
 have lb:(branchD wd x1 x2).length=32:=branchD_len _ _ _
 have k7:=(((((f2.trans f3).trans f4).trans f5).trans f6).trans f7).at k1 id
 have q8:=wr_d Tryz.sz23 k7 zl32 lb
 have r8:=rd_d Tryz.agg23 Tryz.sz23 (put_at (o:=.cells (bl (branchD wd x1 x2)) 23 (0,0)) k7) lb
 simp -implicitDefEqProofs only[go_sem,Nat.reduceEqDiff,Nat.reduceBEq,Nat.reduceAdd,gLa,gLz,gLs,q8,r8]
 exact (f06.trans f7).put (b:=w0.heap.size) _ fun h=>by omega
theorem root2 (w0 : World) (ht : Tabs w0) (wd : Int) {mv : Value} {e1 e2 : Bs × Bs} (hm : EnR w0 mv [e1, e2]) (h1 : kbit e1.1 0 = false) (h2 : kbit e2.1 0 = true) (hl1 : e1.2.length ≤ 549755813888) (hl2 : e2.2.length ≤ 549755813888)
    {x1 x2 : Bs} (hx1 : Lone wd e1 255 x1) (hx2 : Lone wd e2 255 x2) :
    Fn Tryz.prog 31 #[.int .i64 wd,mv] w0 fun v w' => v = dg (branchD wd x1 x2) ∧ No w0 w' := by
 refine Tryz.go31 (by simp) ?_
 obtain⟨W,hW,f1,k1,s1⟩:=allocs1 w0 (bl (List.replicate 32 0)) 23
 simp -implicitDefEqProofs only[go_sem,Nat.reduceEqDiff,Nat.reduceBEq,Nat.reduceAdd,gLa,gLz,gLs,Tryz.f31,Value.cells,bl_zero,hW]
 refine contL_call Tryz.pl57 ((empties W (ht.no f1) wd).mono ?_)
 rintro ev w2 ⟨n2,f2⟩
 have f02:=f1.trans f2
 simp -implicitDefEqProofs only[go_sem,Nat.reduceEqDiff,Nat.reduceBEq,Nat.reduceAdd,gLa,gLz,gLs]
 refine contL_call Tryz.pl58 ((digest2 w2 (ht.no f02) wd n2.rd (hm.fr0 f02) h1 h2 hl1 hl2 hx1 hx2).mono ?_)
 rintro _ w3 ⟨rfl,f3⟩
 have lb:(branchD wd x1 x2).length=32:=branchD_len _ _ _
 have k3:=(f2.trans f3).at k1 id
 have q4:=wr_d Tryz.sz23 k3 zl32 lb
 have r4:=rd_d Tryz.agg23 Tryz.sz23 (put_at (o:=.cells (bl (branchD wd x1 x2)) 23 (0,0)) k3) lb
 simp -implicitDefEqProofs only[go_sem,Nat.reduceEqDiff,Nat.reduceBEq,Nat.reduceAdd,gLa,gLz,gLs,q4,r4]
 exact (f02.trans f3).put (b:=w0.heap.size) _ fun h=>by omega
end R
end Go.V
end
section
namespace Go.V
open Go.Proofs Sha
set_option maxRecDepth 100000
namespace R
set_option maxHeartbeats 1000000 in
theorem digest12 (w0 : World) (ht : Tabs w0) (wd : Int) {esv mv : Value} (he : RdD w0 esv (empts wd 257)) {e : Bs × Bs} (hm : EnR w0 mv [e]) (hl : e.2.length ≤ 549755813888) {n : Nat} (hn : n ≤ 256) :
    Fn Tryz.prog 178 #[esv,.int .i64 wd,mv,.int .i64 (n : Nat)] w0 fun v w' => v = dg (climb wd e.1 0 (leafD wd e.1 e.2) ((empts wd 257).take n)) ∧ No w0 w' := by
 refine Tryz.go178 (by simp) ?_
 obtain⟨W,hW,f1,k1,s1⟩:=allocs1 w0 (bl (List.replicate 32 0)) 23
 obtain⟨b,o,cap,vv,rfl,hc,hk,hone,hby,hrd⟩:=(hm.fr0 f1).at (i:=0) (by simp)
 simp only[List.getElem_cons_zero] at hk hby hrd
 have d1:(((([e]:List (Bs × Bs)).length:Nat):Int) == 0)=false:=rfl
 have d2:(((([e]:List (Bs × Bs)).length:Nat):Int) == 1)=true:=rfl
 have y1:(0:Int)≤0∧(0:Int)<((([e]:List (Bs × Bs)).length:Nat):Int):=by simp
 obtain⟨r1,r2,_⟩:=hrd W (Fr.refl _ _)
 obtain⟨r1d,r2d,_⟩:=hrd W.drew (Fr.refl _ _).drew
 rw[Nat.zero_mul,Nat.add_zero] at r1 r2 r1d r2d
 simp -implicitDefEqProofs only[go_sem,Nat.reduceEqDiff,Nat.reduceBEq,Nat.reduceAdd,gLa,gLz,gLs,Tryz.f178,Value.cells,bl_zero,hW,d1,d2]
 refine den_ot (fun j=>j == 9 || j == 10) (.one 0 (.one 1 (.one 2 (.one 3 (.one 4 (.one 5 (.one 6 (.one 7 (.one 8 (.two 9 (.row [10,11]) 10 (.row [9,11]))))))))))) rfl (by kernel_rfl) (by kernel_rfl) ?_
 have ll:(leafD wd e.1 e.2).length=32:=leafD_len _ _ _
 have lc:(climb wd e.1 0 (leafD wd e.1 e.2) ((empts wd 257).take n)).length=32:=climb_len _ _ _ _ _ ll
 simp -implicitDefEqProofs only[go_sem,Nat.reduceEqDiff,Nat.reduceBEq,Nat.reduceAdd,gLa,gLz,gLs,y1,and_self,Int.toNat_zero,Nat.zero_mul,Nat.add_zero,r1,r2,r1d,r2d,ft_beq,tf_beq,beq_self_eq_true,OT.row,Value.cells,bl_zero]
 constructor
 ·refine contOT_call Tryz.pl101 ((leaf W.drew (ht.no f1.drew) wd hk (val:=e.2) (hby.fr0 (Fr.refl _ _).drew) hl).mono ?_)
  rintro _ w2 ⟨rfl,f2⟩
  refine⟨fun _=>Fr.ext f2,?_⟩
  have f12:No W w2:=(Fr.refl _ _).drew.trans f2
  obtain⟨W3,q3,k3,f3,s3⟩:=allocD w2 (ty:=23) Tryz.sz23 ll
  have f13:=f12.trans f3
  have f03:=f1.trans f13
  obtain⟨r1,r2,_⟩:=hrd W3 f13
  obtain⟨r1d,r2d,_⟩:=hrd W3.drew f13.drew
  rw[Nat.zero_mul,Nat.add_zero] at r1 r2 r1d r2d
  have r3:=rd_d Tryz.agg23 Tryz.sz23 k3 ll
  have r3d:rdO Tryz.prog 23 W3.drew w2.heap.size 0=_:=r3
  simp -implicitDefEqProofs only[go_sem,Nat.reduceEqDiff,Nat.reduceBEq,Nat.reduceAdd,gLa,gLz,gLs,Value.cells,bl_zero,q3,y1,and_self,Int.toNat_zero,Nat.zero_mul,Nat.add_zero,r1,r2,r1d,r2d,r3,r3d,ft_beq,tf_beq,beq_self_eq_true]
  refine contL_call Tryz.pl102 ((climbWith W3.drew (ht.no f03.drew) wd (he.fr0 f03.drew) hk ll (n:=n) hn).mono ?_)
  rintro _ w4 ⟨rfl,f4⟩
  rw[leaf_cut]
  have k4:=(f13.drew.trans f4).at k1 id
  have q5:=wr_d Tryz.sz23 k4 zl32 lc
  have r5:=rd_d Tryz.agg23 Tryz.sz23 (put_at (o:=.cells (bl (climb wd e.1 0 (leafD wd e.1 e.2) ((empts wd 257).take n))) 23 (0,0)) k4) lc
  simp -implicitDefEqProofs only[go_sem,Nat.reduceEqDiff,Nat.reduceBEq,Nat.reduceAdd,gLa,gLz,gLs,q5,r5]
  exact (f03.drew.trans f4).put (b:=w0.heap.size) _ fun h=>by omega
 ·obtain⟨W2,hW2,f2,k2,s2⟩:=allocs1 W.drew (bl (List.replicate 32 0)) 23
  simp only[hW2]
  have f12:No W W2:=(Fr.refl _ _).drew.trans f2
  refine contOT_call Tryz.pl101 ((leaf W2 (ht.no (f1.trans f12)) wd hk (val:=e.2) (hby.fr0 f12) hl).mono ?_)
  rintro _ w3' ⟨rfl,f3'⟩
  refine⟨fun _=>Fr.ext f3',?_⟩
  have k2':=f3'.at k2 id
  obtain⟨W3,q3,k3,f13⟩:∃ W3,wrO Tryz.prog 23 w3' W.heap.size 0 (dg (leafD wd e.1 e.2))=some W3∧W3.heap[W.heap.size]?=some (.cells (bl (leafD wd e.1 e.2)) 23 (0,0))∧No W W3 :=
   ⟨_,wr_d Tryz.sz23 k2' zl32 ll,put_at k2',(f12.trans f3').put (b:=W.heap.size) _ fun h=>absurd h (Nat.lt_irrefl _)⟩
  have f03:=f1.trans f13
  obtain⟨r1,r2,_⟩:=hrd W3 f13
  obtain⟨r1d,r2d,_⟩:=hrd W3.drew f13.drew
  rw[Nat.zero_mul,Nat.add_zero] at r1 r2 r1d r2d
  have r3:=rd_d Tryz.agg23 Tryz.sz23 k3 ll
  have r3d:rdO Tryz.prog 23 W3.drew W.heap.size 0=_:=r3
  simp -implicitDefEqProofs only[go_sem,Nat.reduceEqDiff,Nat.reduceBEq,Nat.reduceAdd,gLa,gLz,gLs,q3,y1,and_self,Int.toNat_zero,Nat.zero_mul,Nat.add_zero,r1,r2,r1d,r2d,r3,r3d,ft_beq,tf_beq,beq_self_eq_true]
  refine contL_call Tryz.pl102 ((climbWith W3.drew (ht.no f03.drew) wd (he.fr0 f03.drew) hk ll (n:=n) hn).mono ?_)
  rintro _ w4 ⟨rfl,f4⟩
  rw[leaf_cut]
  have k4:=(f13.drew.trans f4).at k1 id
  have q5:=wr_d Tryz.sz23 k4 zl32 lc
  have r5:=rd_d Tryz.agg23 Tryz.sz23 (put_at (o:=.cells (bl (climb wd e.1 0 (leafD wd e.1 e.2) ((empts wd 257).take n))) 23 (0,0)) k4) lc
  simp -implicitDefEqProofs only[go_sem,Nat.reduceEqDiff,Nat.reduceBEq,Nat.reduceAdd,gLa,gLz,gLs,q5,r5]
  exact (f03.drew.trans f4).put (b:=w0.heap.size) _ fun h=>by omega
def bsI (w0:World) (vv:Value) (bs:Bs) (n:Nat) (vs:List Value) (w:World):Prop :=
 ∃ (i:Nat) (v:Value),vs=[vv,v,.int .i64 (i:Nat)]∧i≤bs.length∧n=bs.length - i∧NwB w0 w v (bs.take i)∧No w0 w
theorem bytes12 (w0:World) {vv:Value} {bs:Bs} (hv:By w0 vv bs) (hl:bs.length≤2 ^ 40):Fn Tryz.prog 135 #[vv] w0 fun v w'=>NwB w0 w' v bs∧No w0 w':=by
 refine Tryz.go135 (by simp) ?_
 obtain⟨va,vc,rfl,hcap⟩:=hv.slice
 simp -implicitDefEqProofs only[go_sem,Nat.reduceEqDiff,Nat.reduceBEq,Nat.reduceAdd,gLa,gLz,gLs,Tryz.f135]
 refine loopD [0,3,4] (bsI w0 (.slice va bs.length vc) bs) bs.length ⟨0,_,rfl,by omega,rfl,NwB.nil _ _,Fr.refl _ _⟩ ?_
 rintro _ vs w3 g ⟨i,v,rfl,hi,rfl,b3,f3⟩
 by_cases hlt:i<bs.length
 ·have d1:decide ((i:Int)<((bs.length:Nat):Int))=true:=by simp;omega
  have c1:IntKind.i64.wrap ((i:Int)+1)=((i+1:Nat):Int):=i64add (b:=1) (by omega)
  have y:(0:Int)≤(i:Int)∧(i:Int)<((bs.length:Nat):Int):=by omega
  obtain⟨b,o,cap,he,r⟩:=(hv.fr0 f3).rd1 hlt
  cases he
  have hsn:=take_snoc (l:=bs) (i:=i) hlt
  obtain⟨v4,w4,hr4,b4,f4,g4,_⟩:=NwB.grow b3 (bs.getD i 0) (by simp;omega) f3
  rw[hsn] at b4
  generalize bs.getD i 0=x at *
  simp -implicitDefEqProofs only[go_sem,Nat.reduceEqDiff,Nat.reduceBEq,Nat.reduceAdd,gLa,gLz,gLs,d1,y,and_self,Int.toNat_natCast,Nat.mul_one,r]
  refine contL_is (v:=.slice (some ⟨w3.heap.size,0,none⟩) 1 1) (w':=w3.alloc (.cells (bl [x]) 5)) rfl ?_
  simp -implicitDefEqProofs only[go_sem,Nat.reduceEqDiff,Nat.reduceBEq,Nat.reduceAdd,gLa,gLz,gLs]
  refine contL_sem ⟨v4,w4,hr4,?_⟩
  simp -implicitDefEqProofs only[go_sem,Nat.reduceEqDiff,Nat.reduceBEq,Nat.reduceAdd,gLa,gLz,gLs,c1]
  exact⟨bs.length - (i+1),by omega,i+1,v4,rfl,by omega,rfl,b4,f4⟩
 ·have d1:decide ((i:Int)<((bs.length:Nat):Int))=false:=by simp;omega
  have e:i=bs.length:=by omega
  subst e
  rw[List.take_length] at b3
  simp -implicitDefEqProofs only[go_sem,Nat.reduceEqDiff,Nat.reduceBEq,Nat.reduceAdd,gLa,gLz,gLs,d1]
  exact⟨b3,f3⟩
/-- bits counted -/
def pop:Nat→Nat→Nat
 | 0,_=>0
 | n+1,x=>x % 2+pop n (x / 2)
theorem pop_zero (n:Nat):pop n 0=0:=by
 induction n with
 | zero=>rfl
 | succ n ih=>simp[pop,ih]
theorem pop_le:∀ (n x:Nat),pop n x≤n
 | 0,_=>Nat.le_refl _
 | n+1,x=>by have:=pop_le n (x / 2);simp only[pop];omega
def pops (l:Bs):Nat:=(l.map fun x=>pop 8 x.toNat).sum
theorem pops_snoc (l:Bs) (x:Byte):pops (l++[x])=pops l+pop 8 x.toNat:=by simp[pops]
theorem pops_le (l:Bs):pops l≤8*l.length:=by
 induction l with
 | nil=>simp[pops]
 | cons a l ih =>
  have:=pop_le 8 a.toNat
  simp only[pops,List.map_cons,List.sum_cons,List.length_cons] at *;omega
def onI (w0:World) (bits:Bs) (n:Nat) (vs:List Value) (w:World):Prop :=
 ∃ (i:Nat),vs=[pt w0.heap.size 0,.int .i64 (pops (bits.take i):Nat),.int .i64 (i:Nat)]∧i≤32∧n=32 - i∧w.heap[w0.heap.size]?=some (.cells (bl bits) 22 (0,0))∧No w0 w
def onJ (w1:World) (b s i full:Nat) (n:Nat) (vs:List Value) (w:World):Prop :=
 ∃ (m x c:Nat),vs=[pt b 0,.int .i64 (c:Nat),.int .i64 (i:Nat),.int .i64 (x:Nat)]∧n=m∧x<2 ^ m∧m≤8∧c+m≤1000∧full=c+pop m x∧w=w1
theorem ones (w0:World) {bits:Bs} (hb:bits.length=32):Fn Tryz.prog 127 #[dg bits] w0 fun v w'=>v=.int .i64 (pops bits:Nat)∧No w0 w':=by
 refine Tryz.go127 (by simp) ?_
 obtain⟨W,hW,f1,k1,s1⟩:=allocs1 w0 (bl bits) 22
 simp -implicitDefEqProofs only[go_sem,Nat.reduceEqDiff,Nat.reduceBEq,Nat.reduceAdd,gLa,gLz,gLs,Tryz.f127,Value.cells,hW]
 refine loopD [1,3,4] (onI w0 bits) 32 ⟨0,rfl,by omega,rfl,k1,f1⟩ ?_
 rintro _ vs w g ⟨i,rfl,hi,rfl,k,f⟩
 by_cases hlt:i<32
 ·have d1:decide ((i:Int)<32)=true:=by simp;omega
  have c1:IntKind.i64.wrap ((i:Int)+1)=((i+1:Nat):Int):=i64add (b:=1) (by omega)
  have y:(0:Int)≤(i:Int)∧(i:Int)<((32:Nat):Int):=by omega
  have r:rdO Tryz.prog 5 w w0.heap.size i=some (.int .u8 ((bits.getD i 0).toNat:Int)):=rd1 Tryz.agg5 k (bl_at (by omega))
  have c2:IntKind.i64.wrap ((bits.getD i 0).toNat:Int)=((bits.getD i 0).toNat:Int):=i64n (by have:=(bits.getD i 0).isLt;omega)
  have hx:(bits.getD i 0).toNat<2 ^ 8:=(bits.getD i 0).isLt
  have htk:bits.take (i+1)=bits.take i++[bits.getD i 0]:=(take_snoc (by omega)).symm
  have hpl:=pops_le (bits.take i)
  have hps:pops (bits.take (i+1))=pops (bits.take i)+pop 8 (bits.getD i 0).toNat:=by rw[htk,pops_snoc]
  rw[List.length_take] at hpl
  generalize (bits.getD i 0).toNat=x at *
  generalize pops (bits.take i)=c at *
  simp -implicitDefEqProofs only[go_sem,Nat.reduceEqDiff,Nat.reduceBEq,Nat.reduceAdd,gLa,gLz,gLs,d1,y,and_self,Int.toNat_natCast,Nat.mul_one,r,c2]
  refine loopD [1,3,4,5] (onJ w w0.heap.size 0 i (pops (bits.take (i+1)))) 8 ⟨8,x,c,rfl,rfl,hx,Nat.le_refl _,by omega,hps,rfl⟩ ?_
  rintro m vs w2 g2 ⟨m',x,c,rfl,rfl,hx,hm,hc,hf,rfl⟩
  by_cases h0:x=0
  ·subst h0
   have d2:decide (((0:Nat):Int) > 0)=false:=rfl
   rw[pop_zero,Nat.add_zero] at hf
   subst hf
   simp -implicitDefEqProofs only[go_sem,Nat.reduceEqDiff,Nat.reduceBEq,Nat.reduceAdd,gLa,gLz,gLs,d2,c1]
   exact⟨32 - (i+1),by omega,i+1,rfl,by omega,rfl,k,f⟩
  ·have d2:decide ((x:Int) > 0)=true:=by simp;omega
   have n2:((2:Int)=0)=False:=by simp
   cases m with
   | zero=>simp at hx;omega
   | succ m =>
    have c3:IntKind.i64.wrap ((c:Int)+(x:Int).tmod 2)=((c+x % 2:Nat):Int):=by
     rw[show (x:Int).tmod 2=((x % 2:Nat):Int) from rfl];exact i64add (by omega)
    have hx62:x<2 ^ 62:=Nat.lt_of_lt_of_le hx (Nat.pow_le_pow_right (by decide) (by omega))
    have c4:IntKind.i64.wrap ((x:Int).tdiv 2)=((x / 2:Nat):Int):=by
     rw[show (x:Int).tdiv 2=((x / 2:Nat):Int) from rfl];exact i64n (by omega)
    simp -implicitDefEqProofs only[go_sem,Nat.reduceEqDiff,Nat.reduceBEq,Nat.reduceAdd,gLa,gLz,gLs,d2,n2,c3,c4]
    rw[Nat.pow_succ] at hx
    exact⟨m,by omega,m,x / 2,c+x % 2,rfl,rfl,by omega,by omega,by omega,by rw[hf,pop];omega,rfl⟩
 ·have d1:decide ((i:Int)<32)=false:=by simp;omega
  obtain rfl:i=32:=by omega
  rw[List.take_of_length_le (by omega)]
  simp -implicitDefEqProofs only[go_sem,Nat.reduceEqDiff,Nat.reduceBEq,Nat.reduceAdd,gLa,gLz,gLs,d1]
  exact f
/-- new entries: the values are old -/
def EnN (w0 w:World) (v:Value) (es:List (Bs × Bs)):Prop:=∃ rows,NwR w0 w 65 33 v rows∧rows.length=es.length∧∀ i (h:i<rows.length) (h':i<es.length),∃ vv,rows[i]=enRow es[i] vv∧es[i].1.length=32∧one vv=true∧By w0 vv es[i].2
theorem EnN.rd {w0 w:World} {v:Value} {es:List (Bs × Bs)} (h:EnN w0 w v es) (k:No w0 w):EnR w v es:=by
 obtain⟨rows,h1,h2,h3⟩:=h
 refine⟨rows,h1.rd,h2,fun i a b=>?_⟩
 obtain⟨vv,e,l,o,y⟩:=h3 i a b
 exact⟨vv,e,l,o,y.fr0 k⟩
theorem EnN.nil (w0 w:World):EnN w0 w (.slice Option.none 0 0) []:=⟨[],NwR.nil _ _ _ _,rfl,fun i h=>absurd h (by simp)⟩
def nbE (k:Bs) (h:Nat) (es:List (Bs × Bs)):List (Bs × Bs):=es.filter fun e=>decide (common e.1 k=255 - h)
def neI (w0:World) (mv:Value) (k:Bs) (h:Nat) (es:List (Bs × Bs)) (n:Nat) (vs:List Value) (w:World):Prop :=
 ∃ (i:Nat) (v:Value),vs=[mv,.int .i64 (h:Nat),pt w0.heap.size 0,v,.int .i64 (i:Nat)]∧i≤es.length∧n=es.length - i∧EnN w0 w v (nbE k h (es.take i))∧w.heap[w0.heap.size]?=some (.cells (bl k) 34 (0,0))∧No w0 w∧∀ b,blockOf v=some b→b≠w0.heap.size
set_option maxHeartbeats 1000000 in
theorem neighbours12 (w0 : World) {mv : Value} {es : List (Bs × Bs)} (hm : EnR w0 mv es) (hl : es.length ≤ 2 ^ 30) {k : Bs} (hk : k.length = 32) {h : Nat} (hh : h < 256) :
    Fn Tryz.prog 177 #[mv,dg k,.int .i64 (h : Nat)] w0 fun v w' => EnN w0 w' v (nbE k h es) ∧ No w0 w' := by
 refine Tryz.go177 (by simp) ?_
 obtain⟨W,hW,f1,k1,s1⟩:=allocs1 w0 (bl k) 34
 simp -implicitDefEqProofs only[go_sem,Nat.reduceEqDiff,Nat.reduceBEq,Nat.reduceAdd,gLa,gLz,gLs,Tryz.f177,Value.cells,hW]
 refine loopD [0,2,4,7,8] (neI w0 mv k h es) es.length ⟨0,_,rfl,by omega,rfl,EnN.nil _ _,k1,f1,fun b hb=>(by cases hb)⟩ ?_
 rintro _ vs w g ⟨i,v,rfl,hi,rfl,hv,kk,f,hne⟩
 obtain⟨ma,mc,rfl,hmc⟩:=hm.slice
 by_cases hlt:i<es.length
 ·have d1:decide ((i:Int)<((es.length:Nat):Int))=true:=by simp;omega
  have c1:IntKind.i64.wrap ((i:Int)+1)=((i+1:Nat):Int):=i64add (b:=1) (by omega)
  have y:(0:Int)≤(i:Int)∧(i:Int)<((es.length:Nat):Int):=by omega
  obtain⟨b,o,cap,vv,e,_,hkl,hone,hby,hrd⟩:=hm.at hlt
  cases e
  have htk:es.take (i+1)=es.take i++[es[i]]:=by rw[List.take_succ_eq_append_getElem hlt]
  have hnb:nbE k h (es.take (i+1))=nbE k h (es.take i)++nbE k h [es[i]]:=by rw[htk];exact List.filter_append _ _
  have hlen:(nbE k h (es.take i)).length≤2 ^ 30:=by have:=List.length_filter_le (fun e:Bs × Bs=>decide (common e.1 k=255 - h)) (es.take i);rw[List.length_take] at this;unfold nbE;omega
  have r1:=(hrd w f).1
  have r1d:rdO Tryz.prog 34 w.drew b (o+i*33)=_:=r1
  have rk:=rd_d Tryz.agg34 Tryz.sz34 kk hk
  have rkd:rdO Tryz.prog 34 w.drew w0.heap.size 0=_:=rk
  generalize es[i]=x at *
  simp -implicitDefEqProofs only[go_sem,Nat.reduceEqDiff,Nat.reduceBEq,Nat.reduceAdd,gLa,gLz,gLs,d1,y,and_self,Int.toNat_natCast,r1,r1d,rk,rkd]
  refine contL_call Tryz.pl207 ((common3 w.drew hkl hk).mono ?_)
  rintro _ w2 ⟨rfl,f2⟩
  have fw:No w w2:=(Fr.refl _ _).drew.trans f2
  have f02:=f.trans fw
  have c2:IntKind.i64.wrap (255 - (h:Int))=((255 - h:Nat):Int):=i64sub (a:=255) (by omega) (by omega)
  obtain⟨rows,hR,hRl,hRr⟩:=hv
  by_cases hc:common x.1 k=255 - h
  ·have d2:(((common x.1 k:Nat):Int) == ((255 - h:Nat):Int))=true:=by rw[hc];simp
   have hn1:nbE k h [x]=[x]:=by simp[nbE,hc]
   rw[hn1] at hnb
   have r3:=(hrd w2 f02).2.2
   have r3d:rdO Tryz.prog 65 w2.drew b (o+i*33)=_:=r3
   have hsz:(enRow x vv).length=33:=by simp[enRow,hkl]
   have hall:(enRow x vv).all one=true:=by simp only[enRow,List.all_append,List.all_cons,List.all_nil,hone,u8s_one];rfl
   simp -implicitDefEqProofs only[go_sem,Nat.reduceEqDiff,Nat.reduceBEq,Nat.reduceAdd,gLa,gLz,gLs,d2,c2,y,and_self,Int.toNat_natCast,r3,r3d]
   refine contL_is (v:=.slice (some ⟨w2.heap.size,0,Option.none⟩) 1 1) (w':=w2.alloc (.cells (enRow x vv).toArray 65)) (fill_oneN (K:=33) (by decide) (by decide) (y:=List.replicate 32 (.int .u8 0)++[.slice Option.none 0 0]) rfl rfl (by rw[List.size_toArray,hsz]) _) ?_
   have hR2:=hR.fr0 fw
   obtain⟨v3,w3,hr3,b3,g3,h3⟩:=hR2.push Tryz.app66_66 hsz hall (by decide) (by omega) (by omega) f02.size
   have f3:No w0 w3:=f02.trans' g3 fun b hb h=>by have:=(hR2.lt h).1;omega
   simp -implicitDefEqProofs only[go_sem,Nat.reduceEqDiff,Nat.reduceBEq,Nat.reduceAdd,gLa,gLz,gLs]
   refine contL_sem ⟨v3,w3,hr3,?_⟩
   simp -implicitDefEqProofs only[go_sem,Nat.reduceEqDiff,Nat.reduceBEq,Nat.reduceAdd,gLa,gLz,gLs,c1]
   refine⟨es.length - (i+1),by omega,i+1,v3,rfl,by omega,rfl,⟨_,b3,by rw[List.length_append,hnb,List.length_append,hRl];rfl,fun j hj hj'=>?_⟩,g3.at (fw.at kk id) fun h=>hne _ h rfl,f3,fun c hc h=>?_⟩
   ·simp only[hnb]
    by_cases hjl:j<rows.length
    ·obtain⟨vv',e1,e2⟩:=hRr j hjl (by omega)
     refine⟨vv',?_⟩
     rw[List.getElem_append_left hjl,List.getElem_append_left (by omega)]
     exact⟨e1,e2⟩
    ·rw[List.length_append] at hj
     have:j=rows.length:=by simp at hj;omega
     subst this
     refine⟨vv,?_⟩
     rw[List.getElem_append_right (Nat.le_refl _),List.getElem_append_right (by omega)]
     simp only[hRl,Nat.sub_self,List.getElem_cons_zero]
     exact⟨trivial,hkl,hone,hby⟩
   ·rcases h3 c hc with h' | h'
    ·exact hne c h' h
    ·have:=heap_lt (fw.at kk id);omega
  ·have d2:(((common x.1 k:Nat):Int) == ((255 - h:Nat):Int))=false:=by rw[beq_eq_false_iff_ne];omega
   have hn1:nbE k h [x]=[]:=by simp[nbE,hc]
   rw[hn1,List.append_nil] at hnb
   simp -implicitDefEqProofs only[go_sem,Nat.reduceEqDiff,Nat.reduceBEq,Nat.reduceAdd,gLa,gLz,gLs,d2,c2,c1]
   exact⟨es.length - (i+1),by omega,i+1,v,rfl,by omega,rfl,by rw[hnb];exact⟨rows,hR.fr0 fw,hRl,hRr⟩,fw.at kk id,f02,hne⟩
 ·have d1:decide ((i:Int)<((es.length:Nat):Int))=false:=by simp;omega
  obtain rfl:i=es.length:=by omega
  rw[List.take_length] at hv
  simp -implicitDefEqProofs only[go_sem,Nat.reduceEqDiff,Nat.reduceBEq,Nat.reduceAdd,gLa,gLz,gLs,d1]
  exact⟨hv,f⟩
end R
end Go.V
end
