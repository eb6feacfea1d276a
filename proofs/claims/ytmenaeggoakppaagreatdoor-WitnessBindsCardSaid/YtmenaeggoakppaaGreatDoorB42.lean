/-
 Helpers: KnowG, LawA, LawC, LawD, LawE, LawF, ClJ, ClashP.
-/
import Derived.Test.YtmenaeggoakppaaGreatDoorB34
import Derived.Test.YtmenaeggoakppaaGreatDoorB28
import Derived.Test.YtmenaeggoakppaaGreatDoorB41
set_option linter.all false
section
namespace Go.V
open Go.Proofs Sha
set_option maxRecDepth 100000
theorem rep00 (w0:World) (a:Option Addr) (c:Nat):Fn Tryz.prog 168 #[.slice a 0 c] w0 fun v w'=>v=.int .i64 (-1)∧No w0 w':=by
 refine Tryz.go168 (by simp) ?_
 have d1:decide ((0:Int)<((0:Nat):Int))=false:=rfl
 simp -implicitDefEqProofs only[go_sem,Nat.reduceEqDiff,Nat.reduceBEq,Nat.reduceAdd,gLa,gLz,gLs,Tryz.f168]
 refine den_scope (by kernel_rfl) ?_
 simp -implicitDefEqProofs only[go_sem,Nat.reduceEqDiff,Nat.reduceBEq,Nat.reduceAdd,gLa,gLz,gLs]
 refine loopD [3,7,8] (fun n vs w=>n=0∧vs=[.int .i64 (-1),.int .i64 ((0:Nat):Int),.int .i64 0]∧w=w0) 0 ⟨rfl,rfl,rfl⟩ ?_
 rintro _ vs w g ⟨rfl,rfl,rfl⟩
 simp -implicitDefEqProofs only[go_sem,Nat.reduceEqDiff,Nat.reduceBEq,Nat.reduceAdd,gLa,gLz,gLs,d1]
 exact Fr.refl _ _
theorem parse00 (w0:World) {rv:Value} (hr:By w0 rv [0,0]):Fn Tryz.prog 104 #[rv] w0 fun v w'=>No w0 w'∧∃ a c,v=.tuple #[.slice a 0 c,.int .i64 0,.int .i64 0]:=by
 refine Tryz.go104 (by simp) ?_
 obtain⟨b,o,cap,rfl,hcap⟩:=hr.pos (by decide)
 have r0:rdO Tryz.prog 5 w0 b o=some (.int .u8 ((0:Byte).toNat:Int)):=hr.get (P:=Tryz.prog) Tryz.agg5 (i:=0) (by decide)
 have r1:rdO Tryz.prog 5 w0 b (o+1)=some (.int .u8 ((0:Byte).toNat:Int)):=hr.get (P:=Tryz.prog) Tryz.agg5 (i:=1) (by decide)
 have d0:decide (((([0,0]:Bs).length:Nat):Int)<2)=false:=rfl
 have y0:(0:Int)≤0∧(0:Int)<((([0,0]:Bs).length:Nat):Int):=by decide
 have y1:(0:Int)≤1∧(1:Int)<((([0,0]:Bs).length:Nat):Int):=by decide
 have w8:IntKind.i64.wrap ((0:Byte).toNat:Int)=0:=rfl
 have sh:shlK .i64 0 8=0:=rfl
 have oo:orK .i64 0 0=0:=rfl
 have dn:decide ((0:Int) > 64)=false:=rfl
 have hcap:2≤cap:=hcap
 have p1:=slc_lo (P:=Tryz.prog) Tryz.slc25 Tryz.arr25 Tryz.sz5 (a:=some (⟨b,o,Option.none⟩:Addr)) (n:=([0,0]:Bs).length) (cap:=cap) (l:=2) (by decide) hcap
 have p1:sliceP Tryz.prog 25 (.slice (some ⟨b,o,Option.none⟩) ([0,0]:Bs).length cap) (some (.int .i64 2)) Option.none Option.none=some (cutV 1 (some ⟨b,o,Option.none⟩) cap 2 2):=p1
 have mk:=run_mk (P:=Tryz.prog) (t:=151) (by':=64) Tryz.slc151 Tryz.sz181 Tryz.by181 Tryz.zero181 (l:=0) (c:=0) (Nat.le_refl _) (by decide) (by decide) .i64 .i64 w0.drew
 simp -implicitDefEqProofs only[go_sem,Nat.reduceEqDiff,Nat.reduceBEq,Nat.reduceAdd,gLa,gLz,gLs,Tryz.f104,d0,y0,y1,and_self,Int.toNat_zero,Int.toNat_one,Nat.mul_one,Nat.zero_mul,Nat.add_zero,r0,r1,w8,sh,oo,dn,p1]
 refine contL_sem ⟨_,_,mk,?_⟩
 obtain⟨W,hW,f1,_,_⟩:=allocs1 w0.drew (madeCells (Array.replicate 32 (Value.int .u8 0)++#[Value.bool false,Value.slice Option.none 0 0]) (0*34)) 181
 have hW:w0.drew.alloc (.cells (madeCells (Value.agg (Array.replicate 32 (Value.int .u8 0)++#[Value.bool false,Value.slice Option.none 0 0])).cells (0*34)) 181)=W:=hW
 rw[hW]
 have f01:No w0 W:=(Fr.refl _ _).drew.trans f1
 obtain⟨ca,cc,hcut⟩:∃ ca cc,cutV 1 (some (⟨b,o,Option.none⟩:Addr)) cap 2 2=.slice ca 0 cc:=⟨_,_,rfl⟩
 rw[hcut]
 generalize w0.drew.heap.size=nb
 simp -implicitDefEqProofs only[go_sem,Nat.reduceEqDiff,Nat.reduceBEq,Nat.reduceAdd,gLa,gLz,gLs]
 refine loopD [5,6,7,32,33] (fun n vs w=>n=0∧vs=[.int .i64 0,.slice ca 0 cc,.slice (some ⟨nb,0,Option.none⟩) 0 0,.int .i64 0,.int .i64 0]∧w=W) 0 ⟨rfl,rfl,rfl⟩ ?_
 rintro _ vs w g ⟨rfl,rfl,rfl⟩
 have d1:decide ((0:Int)<0)=false:=rfl
 have d2:decide (((0:Nat):Int) > 0)=false:=rfl
 simp -implicitDefEqProofs only[go_sem,Nat.reduceEqDiff,Nat.reduceBEq,Nat.reduceAdd,gLa,gLz,gLs,d1,d2]
 refine contL_call Tryz.pl168 ((rep00 w _ _).mono ?_)
 rintro _ w2 ⟨rfl,f2⟩
 have d3:decide ((-1:Int) ≥ 0)=false:=rfl
 simp -implicitDefEqProofs only[go_sem,Nat.reduceEqDiff,Nat.reduceBEq,Nat.reduceAdd,gLa,gLz,gLs,d3]
 exact⟨f01.trans f2,_,_,rfl⟩
/-- a turn of nothing -/
theorem parsed00 (w0:World) {rv:Value} (hr:By w0 rv [0,0]):Fn Tryz.prog 59 #[rv] w0 fun v w'=>No w0 w'∧∃ m,v=.tuple #[.agg #[.slice Option.none 0 0,.map m],.int .i64 0]:=by
 refine Tryz.go59 (by simp) ?_
 obtain⟨W,hW,f1,k1,s1⟩:=allocs1 w0 #[.slice Option.none 0 0,.map Option.none] 111
 simp -implicitDefEqProofs only[go_sem,Nat.reduceEqDiff,Nat.reduceBEq,Nat.reduceAdd,gLa,gLz,gLs,Tryz.f59,Value.cells,hW]
 refine contL_call Tryz.pl104 ((parse00 W (hr.fr0 f1)).mono ?_)
 rintro _ w2 ⟨f2,a,c,rfl⟩
 have f02:=f1.trans f2
 have bld:bldO Tryz.prog 111 [(1,.map (some w2.heap.size))]=some (.agg #[.slice Option.none 0 0,.map (some w2.heap.size)]):=rfl
 have f3:No w2 (w2.alloc (.map #[] 0)):=(Fr.refl _ _).alloc _
 obtain⟨W3,hW3⟩:∃ W3,w2.alloc (.map #[] 0)=W3:=⟨_,rfl⟩
 rw[hW3] at f3
 obtain⟨W4,hW4,f4,k4,s4⟩:=allocs1 W3 #[.slice Option.none 0 0,.map Option.none] 111
 have q5:wrO Tryz.prog 111 W4 W3.heap.size 0 (.agg #[.slice Option.none 0 0,.map (some w2.heap.size)])=some (put W4 W3.heap.size (.cells #[.slice Option.none 0 0,.map (some w2.heap.size)] 111 (0,0))):=wr_all (vs:=#[.slice Option.none 0 0,.map (some w2.heap.size)]) Tryz.sz111 k4 rfl (by rw[← Array.all_toList];rfl)
 have k5:=put_at (o:=.cells #[.slice Option.none 0 0,.map (some w2.heap.size)] 111 (0,0)) k4
 have f5:No W3 (put W4 W3.heap.size (.cells #[.slice Option.none 0 0,.map (some w2.heap.size)] 111 (0,0))):=f4.put (b:=W3.heap.size) _ fun h=>absurd h (Nat.lt_irrefl _)
 obtain⟨w5,hw5⟩:∃ w5,w5=put W4 W3.heap.size (.cells #[.slice Option.none 0 0,.map (some w2.heap.size)] 111 (0,0)):=⟨_,rfl⟩
 rw[← hw5] at q5 k5 f5
 simp -implicitDefEqProofs only[go_sem,Nat.reduceEqDiff,Nat.reduceBEq,Nat.reduceAdd,gLa,gLz,gLs,bne_self_eq_false,bld,hW3,hW4,Value.cells,q5]
 refine loopD [2,7,23,24] (fun n vs w=>n=0∧vs=[pt w0.heap.size 0,pt W3.heap.size 0,.int .i64 ((0:Nat):Int),.int .i64 0]∧w=w5) 0 ⟨rfl,rfl,rfl⟩ ?_
 rintro _ vs w g ⟨rfl,rfl,rfl⟩
 have d1:decide ((0:Int)<((0:Nat):Int))=false:=rfl
 have r5:rdO Tryz.prog 24 w W3.heap.size 0=some (.slice Option.none 0 0):=rd1 Tryz.agg24 k5 rfl
 have f05:=(f02.trans f3).trans f5
 simp -implicitDefEqProofs only[go_sem,Nat.reduceEqDiff,Nat.reduceBEq,Nat.reduceAdd,gLa,gLz,gLs,d1,r5]
 refine contL_call Tryz.pl90 ((ksort w w (NwD.nil _ _ _) (by simp)).mono ?_)
 rintro _ w6 ⟨rfl,_,_,_,_,f6⟩
 have f6:No w w6:=f6.mono fun b _ h=>by cases h
 have k6:=f6.at k5 id
 have r6:rdO Tryz.prog 111 w6 W3.heap.size 0=some (.agg #[.slice Option.none 0 0,.map (some w2.heap.size)]):=rd_all Tryz.agg111 Tryz.sz111 k6
 have k16:=(((f2.trans f3).trans f5).trans f6).at k1 id
 have q7:wrO Tryz.prog 111 w6 w0.heap.size 0 (.agg #[.slice Option.none 0 0,.map (some w2.heap.size)])=some (put w6 w0.heap.size (.cells #[.slice Option.none 0 0,.map (some w2.heap.size)] 111 (0,0))):=wr_all (vs:=#[.slice Option.none 0 0,.map (some w2.heap.size)]) Tryz.sz111 k16 rfl (by rw[← Array.all_toList];rfl)
 have r7:rdO Tryz.prog 111 _ w0.heap.size 0=some (.agg #[.slice Option.none 0 0,.map (some w2.heap.size)]):=rd_all Tryz.agg111 Tryz.sz111 (put_at (o:=.cells #[.slice Option.none 0 0,.map (some w2.heap.size)] 111 (0,0)) k16)
 simp -implicitDefEqProofs only[go_sem,Nat.reduceEqDiff,Nat.reduceBEq,Nat.reduceAdd,gLa,gLz,gLs,r6,q7,r7]
 exact⟨(f05.trans f6).put (b:=w0.heap.size) _ fun h=>by omega,_,rfl⟩
/-- a step of nothing -/
theorem step00 (w0 : World) (ht : Tabs w0) {root : Bs} (hroot : root.length = 32) {rv : Value} (hr : By w0 rv [0, 0]) :
    Fn Tryz.prog 32 #[.int .i64 4,dg root,.slice Option.none 0 0,rv] w0 fun v w' => v = .tuple #[dg root,.int .i64 0] ∧ No w0 w' := by
 refine Tryz.go32 (by simp) ?_
 obtain⟨W,hW,f1,k1,k2,s1⟩:=allocs2 w0 (bl root) 23 (bl (List.replicate 32 0)) 23
 simp -implicitDefEqProofs only[go_sem,Nat.reduceEqDiff,Nat.reduceBEq,Nat.reduceAdd,gLa,gLz,gLs,Tryz.f32,Value.cells,bl_zero,hW]
 refine contL_call Tryz.pl46 ((sorted W 4 (kv:=.slice Option.none 0 0) (ks:=[]) (NwD.nil W W 34).rd).mono ?_)
 rintro r w2 ⟨f2,h2⟩
 have hsn:Wit.sortW 4 []=.ok []:=rfl
 rw[hsn] at h2
 obtain⟨lv,rfl,_⟩:=h2
 have f02:=f1.trans f2
 simp -implicitDefEqProofs only[go_sem,Nat.reduceEqDiff,Nat.reduceBEq,Nat.reduceAdd,gLa,gLz,gLs,bne_self_eq_false]
 refine contL_call Tryz.pl59 ((parsed00 w2 (hr.fr0 f02)).mono ?_)
 rintro _ w3 ⟨f3,m,rfl⟩
 have f03:=f02.trans f3
 obtain⟨W4,hW4,f4,k4,s4⟩:=allocs1 w3 #[.slice Option.none 0 0,.map Option.none] 111
 have q5:wrO Tryz.prog 111 W4 w3.heap.size 0 (.agg #[.slice Option.none 0 0,.map m])=some (put W4 w3.heap.size (.cells #[.slice Option.none 0 0,.map m] 111 (0,0))):=wr_all (vs:=#[.slice Option.none 0 0,.map m]) Tryz.sz111 k4 rfl (by rw[← Array.all_toList];rfl)
 have k5:=put_at (o:=.cells #[.slice Option.none 0 0,.map m] 111 (0,0)) k4
 have f5:No w3 (put W4 w3.heap.size (.cells #[.slice Option.none 0 0,.map m] 111 (0,0))):=f4.put (b:=w3.heap.size) _ fun h=>absurd h (Nat.lt_irrefl _)
 obtain⟨w5,hw5⟩:∃ w5,w5=put W4 w3.heap.size (.cells #[.slice Option.none 0 0,.map m] 111 (0,0)):=⟨_,rfl⟩
 rw[← hw5] at q5 k5 f5
 have f05:=f03.trans f5
 have r5:rdO Tryz.prog 24 w5 w3.heap.size 0=some (.slice Option.none 0 0):=rd1 Tryz.agg24 k5 rfl
 have k15:=((f2.trans f3).trans f5).at k1 id
 have rr:=rd_d Tryz.agg23 Tryz.sz23 k15 hroot
 simp -implicitDefEqProofs only[go_sem,Nat.reduceEqDiff,Nat.reduceBEq,Nat.reduceAdd,gLa,gLz,gLs,hW4,Value.cells,q5,r5,rr,bne_self_eq_false]
 refine contL_call Tryz.pl47 ((under w5 (ht.no f05) 4 hroot (ks:=[]) (raw:=[]) (NwD.nil w5 w5 34).rd (NwB.nil w5 w5).by List.Pairwise.nil (by simp)).mono ?_)
 rintro r w6 ⟨f6,h6⟩
 have hu:Wit.underP 4 root [] []=.ok none:=rfl
 rw[hu] at h6
 subst h6
 have f06:=f05.trans f6
 have k16:=f6.at k15 id
 have k26:=(((f2.trans f3).trans f5).trans f6).at k2 id
 have rr:=rd_d Tryz.agg23 Tryz.sz23 k16 hroot
 have q7:=wr_d Tryz.sz23 k26 zl32 hroot
 have r7:=rd_d Tryz.agg23 Tryz.sz23 (put_at (o:=.cells (bl root) 23 (0,0)) k26) hroot
 simp -implicitDefEqProofs only[go_sem,Nat.reduceEqDiff,Nat.reduceBEq,Nat.reduceAdd,gLa,gLz,gLs,bne_self_eq_false,beq_self_eq_true,rr,q7,r7]
 exact f06.put (b:=w0.heap.size+1) _ fun h=>by omega
/-- a gathering of nothing -/
theorem gather00 (w0 : World) (ht : Tabs w0) {root : Bs} (hroot : root.length = 32) :
    Fn Tryz.prog 34 #[.int .i64 4,dg root,.slice Option.none 0 0,.slice Option.none 0 0] w0 fun v w' => v = .tuple #[.slice Option.none 0 0,.int .i64 0] ∧ No w0 w' := by
 refine Tryz.go34 (by simp) ?_
 obtain⟨W,hW,f1,k1,s1⟩:=allocs1 w0 (bl root) 23
 simp -implicitDefEqProofs only[go_sem,Nat.reduceEqDiff,Nat.reduceBEq,Nat.reduceAdd,gLa,gLz,gLs,Tryz.f34,Value.cells,hW]
 refine contL_call Tryz.pl46 ((sorted W 4 (kv:=.slice Option.none 0 0) (ks:=[]) (NwD.nil W W 34).rd).mono ?_)
 rintro r w2 ⟨f2,h2⟩
 have hsn:Wit.sortW 4 []=.ok []:=rfl
 rw[hsn] at h2
 obtain⟨lv,rfl,n2⟩:=h2
 have f02:=f1.trans f2
 obtain⟨la,lc,rfl,_⟩:=n2.rd.slice
 have d0:(((0:Nat):Int) != ((0:Nat):Int))=false:=rfl
 obtain⟨W3,hW3⟩:∃ W3,w2.alloc (.map #[] 0)=W3:=⟨_,rfl⟩
 have f3:No w2 W3:=by rw[← hW3];exact (Fr.refl _ _).alloc _
 have f03:=f02.trans f3
 simp -implicitDefEqProofs only[go_sem,Nat.reduceEqDiff,Nat.reduceBEq,Nat.reduceAdd,gLa,gLz,gLs,bne_self_eq_false,d0,hW3]
 refine contL_call Tryz.pl64 ((V.empties W3 (ht.no f03) 4).mono ?_)
 rintro ev w4 ⟨_,f4⟩
 have f04:=f03.trans f4
 simp -implicitDefEqProofs only[go_sem,Nat.reduceEqDiff,Nat.reduceBEq,Nat.reduceAdd,gLa,gLz,gLs]
 refine loopD [10,41,42] (fun n vs w=>n=0∧vs=[.slice la ([]:List Bs).length lc,.int .i64 ((0:Nat):Int),.int .i64 0]∧w=w4) 0 ⟨rfl,rfl,rfl⟩ ?_
 rintro _ vs w g ⟨rfl,rfl,rfl⟩
 have d1:decide ((0:Int)<((0:Nat):Int))=false:=rfl
 have d2:(((([]:List Bs).length:Nat):Int) == 0)=true:=rfl
 simp -implicitDefEqProofs only[go_sem,Nat.reduceEqDiff,Nat.reduceBEq,Nat.reduceAdd,gLa,gLz,gLs,d1,d2]
 exact f04
end Go.V
end
section
namespace Go.V
open Go.Proofs Sha
set_option maxRecDepth 100000
def smI (w0:World) (av bv:Value) (a b:Bs) (n:Nat) (vs:List Value) (w:World):Prop :=
 ∃ (i:Nat),vs=[av,bv,.int .i64 (i:Nat)]∧i≤a.length∧n=a.length - i∧(∀ j,j<i→a.getD j 0=b.getD j 0)∧No w0 w
theorem same (w0:World) {av bv:Value} {a b:Bs} (ha:By w0 av a) (hb:By w0 bv b) (hl:a.length≤2 ^ 50):Fn Tryz.prog 26 #[av,bv] w0 fun v w'=>v=.bool (decide (a=b))∧No w0 w':=by
 refine Tryz.go26 (by simp) ?_
 obtain⟨aa,ac,rfl,hac⟩:=ha.slice
 obtain⟨ba,bc,rfl,hbc⟩:=hb.slice
 by_cases hlen:a.length=b.length
 ·have d1:(((a.length:Nat):Int) != ((b.length:Nat):Int))=false:=by rw[hlen];simp
  simp -implicitDefEqProofs only[go_sem,Nat.reduceEqDiff,Nat.reduceBEq,Nat.reduceAdd,gLa,gLz,gLs,Tryz.f26,d1]
  refine loopD [0,1,5] (smI w0 (.slice aa a.length ac) (.slice ba b.length bc) a b) a.length ⟨0,rfl,by omega,rfl,fun j h=>absurd h (by omega),Fr.refl _ _⟩ ?_
  rintro _ vs w g ⟨i,rfl,hi,rfl,hs,f⟩
  by_cases hlt:i<a.length
  ·have d2:decide ((i:Int)<((a.length:Nat):Int))=true:=by simp;omega
   have y1:(0:Int)≤(i:Int)∧(i:Int)<((a.length:Nat):Int):=by omega
   have y2:(0:Int)≤(i:Int)∧(i:Int)<((b.length:Nat):Int):=by omega
   have c1:IntKind.i64.wrap ((i:Int)+1)=((i+1:Nat):Int):=i64add (b:=1) (by omega)
   obtain⟨b1,o1,cap1,he,r1⟩:=(ha.fr0 f).rd1 hlt
   cases he
   obtain⟨b2,o2,cap2,he,r2⟩:=(hb.fr0 f).rd1 (i:=i) (by omega)
   cases he
   have r1d:rdO Tryz.prog 5 w.drew b1 (o1+i)=_:=r1
   have r2d:rdO Tryz.prog 5 w.drew b2 (o2+i)=_:=r2
   by_cases he:a.getD i 0=b.getD i 0
   ·have d3:(((a.getD i 0).toNat:Int) != ((b.getD i 0).toNat:Int))=false:=by rw[he];simp
    simp -implicitDefEqProofs only[go_sem,Nat.reduceEqDiff,Nat.reduceBEq,Nat.reduceAdd,gLa,gLz,gLs,d2,decide_true,y1,y2,and_self,Int.toNat_natCast,Nat.mul_one,r1,r2,r1d,r2d,d3,c1]
    refine⟨a.length - (i+1),by omega,i+1,rfl,by omega,rfl,fun j hj=>?_,f.drew⟩
    rcases Nat.lt_or_ge j i with h | h
    ·exact hs j h
    ·obtain rfl:j=i:=by omega
     exact he
   ·have d3 : (((a.getD i 0).toNat : Int) != ((b.getD i 0).toNat : Int)) = true := by
      rw [bne_iff_ne]; intro h
      exact he (BitVec.eq_of_toNat_eq (by omega))
    simp -implicitDefEqProofs only[go_sem,Nat.reduceEqDiff,Nat.reduceBEq,Nat.reduceAdd,gLa,gLz,gLs,d2,decide_true,y1,y2,and_self,Int.toNat_natCast,Nat.mul_one,r1,r2,r1d,r2d,d3]
    rw[decide_eq_false (fun h=>he (by rw[h]))]
    exact⟨rfl,f.drew⟩
  ·have d2:decide ((i:Int)<((a.length:Nat):Int))=false:=by simp;omega
   obtain rfl:i=a.length:=by omega
   have heq:a=b:=List.ext_getElem hlen fun j h1 h2=>by have:=hs j h1;rwa [getD_lt _ h1,getD_lt _ h2] at this
   simp -implicitDefEqProofs only[go_sem,Nat.reduceEqDiff,Nat.reduceBEq,Nat.reduceAdd,gLa,gLz,gLs,d2]
   rw[decide_eq_true heq]
   exact⟨rfl,f⟩
 ·have d1:(((a.length:Nat):Int) != ((b.length:Nat):Int))=true:=by rw[bne_iff_ne];omega
  simp -implicitDefEqProofs only[go_sem,Nat.reduceEqDiff,Nat.reduceBEq,Nat.reduceAdd,gLa,gLz,gLs,Tryz.f26,d1]
  rw[decide_eq_false (fun h=>hlen (by rw[h]))]
  exact⟨rfl,Fr.refl _ _⟩
def saI (w0:World) (av bv:Value) (a b:List (Option Bs)) (n:Nat) (vs:List Value) (w:World):Prop :=
 ∃ (i:Nat),vs=[av,bv,.int .i64 (i:Nat)]∧i≤a.length∧n=a.length - i∧(∀ j,j<i→a.getD j none=b.getD j none)∧No w0 w
theorem acells_at:∀ (ps:List (Bool × Value)) (i:Nat) (h:i<ps.length),(acells ps)[i*2]?=some (.bool ps[i].1)∧(acells ps)[i*2+1]?=some ps[i].2
 | p::ps,0,_=>⟨rfl,rfl⟩
 | p::ps,i+1,h=>by
  have:=acells_at ps i (by simpa using h)
  have e:acells (p::ps)=.bool p.1::p.2::acells ps:=rfl
  rw[e,Nat.add_mul]
  simpa using this
theorem AnL.at {w : World} {v : Value} {an : List (Option Bs)} (h : AnL w v an) {i : Nat} (hi : i < an.length) : ∃ b o cap vv, v = .slice (some ⟨b, o, Option.none⟩) an.length cap ∧ By w vv ((an.getD i none).getD []) ∧
    ∀ w',No w w' → rdO Tryz.prog 4 w' b (o + i * 2) = some (.bool (an.getD i none).isSome) ∧ rdO Tryz.prog 25 w' b (o + i * 2 + 1) = some vv := by
 obtain⟨ps,hp,hl,a,cap,rfl,hc,hat⟩:=h
 have hil:i<ps.length:=by rw[hp.1];exact hi
 obtain⟨b,o,rfl,hat2⟩:=hat (by omega)
 obtain⟨h1,h2,h3⟩:=hp.2 i hil hi
 have hgd:an.getD i none=an[i]:=getD_lt _ hi
 rw[hgd]
 refine⟨b,o,cap,ps[i].2,by rw[hp.1],h3,fun w' k=>?_⟩
 obtain⟨c1,c2⟩:=acells_at ps i hil
 have hb:b<w.heap.size:=by
  have:=hat2 (i*2) (by omega)
  rw[c1] at this
  exact rc_lt this
 constructor
 ·refine rd_rc Tryz.agg4 ?_
  rw[k.rc hb id,hat2 _ (by omega),c1,h1]
 ·refine rd_rc Tryz.agg25 ?_
  rw[k.rc hb id,Nat.add_assoc,hat2 _ (by omega),c2]
theorem AnL.slice {w:World} {v:Value} {an:List (Option Bs)} (h:AnL w v an):∃ a cap,v=.slice a an.length cap:=by
 obtain⟨ps,hp,hl,a,cap,rfl,hc,hat⟩:=h
 exact⟨a,cap,by rw[hp.1]⟩
set_option maxHeartbeats 1000000 in
theorem sameAnswers (w0:World) {av bv:Value} {a b:List (Option Bs)} (ha:AnL w0 av a) (hb:AnL w0 bv b) (hl:a.length≤2 ^ 40) (hv:∀ x ∈ a,(x.getD []).length≤2 ^ 50):Fn Tryz.prog 25 #[av,bv] w0 fun v w'=>v=.bool (decide (a=b))∧No w0 w':=by
 refine Tryz.go25 (by simp) ?_
 obtain⟨aa,ac,rfl⟩:=ha.slice
 obtain⟨ba,bc,rfl⟩:=hb.slice
 by_cases hlen:a.length=b.length
 ·have d1:(((a.length:Nat):Int) != ((b.length:Nat):Int))=false:=by rw[hlen];simp
  simp -implicitDefEqProofs only[go_sem,Nat.reduceEqDiff,Nat.reduceBEq,Nat.reduceAdd,gLa,gLz,gLs,Tryz.f25,d1]
  refine loopD [0,1,5] (saI w0 (.slice aa a.length ac) (.slice ba b.length bc) a b) a.length ⟨0,rfl,by omega,rfl,fun j h=>absurd h (by omega),Fr.refl _ _⟩ ?_
  rintro _ vs w g ⟨i,rfl,hi,rfl,hs,f⟩
  by_cases hlt:i<a.length
  ·have d2:decide ((i:Int)<((a.length:Nat):Int))=true:=by simp;omega
   have y1:(0:Int)≤(i:Int)∧(i:Int)<((a.length:Nat):Int):=by omega
   have y2:(0:Int)≤(i:Int)∧(i:Int)<((b.length:Nat):Int):=by omega
   have c1:IntKind.i64.wrap ((i:Int)+1)=((i+1:Nat):Int):=i64add (b:=1) (by omega)
   obtain⟨b1,o1,cap1,v1,he,hb1,hr1⟩:=ha.at hlt
   cases he
   obtain⟨b2,o2,cap2,v2,he,hb2,hr2⟩:=hb.at (i:=i) (by omega)
   cases he
   obtain⟨p1,p2⟩:=hr1 w f
   obtain⟨p1d,p2d⟩:=hr1 w.drew f.drew
   obtain⟨q1,q2⟩:=hr2 w f
   obtain⟨q1d,q2d⟩:=hr2 w.drew f.drew
   have hai:a.getD i none ∈ a:=by rw[getD_lt _ hlt];exact List.getElem_mem _
   have hvl:=hv _ hai
   have heq:∀ x y:Option Bs,(x=y) ↔ (x.isSome=y.isSome∧x.getD []=y.getD []):=by
    intro x y
    cases x <;> cases y <;> simp
   by_cases hso:(a.getD i none).isSome=(b.getD i none).isSome
   ·have d3:(!((a.getD i none).isSome == (b.getD i none).isSome))=false:=by rw[hso];simp
    simp -implicitDefEqProofs only[go_sem,Nat.reduceEqDiff,Nat.reduceBEq,Nat.reduceAdd,gLa,gLz,gLs,d2,decide_true,y1,y2,and_self,Int.toNat_natCast,p1,p2,p1d,p2d,q1,q2,q1d,q2d,d3,ft_beq,tf_beq,beq_self_eq_true]
    refine contL_call Tryz.pl26 ((same w.drew (hb1.fr0 f.drew) (hb2.fr0 f.drew) hvl).mono ?_)
    rintro _ w2 ⟨rfl,f2⟩
    have f02:No w0 w2:=f.drew.trans f2
    by_cases hg:(a.getD i none).getD []=(b.getD i none).getD []
    ·have d4:(!decide ((a.getD i none).getD []=(b.getD i none).getD []))=false:=by rw[decide_eq_true hg];rfl
     simp -implicitDefEqProofs only[go_sem,Nat.reduceEqDiff,Nat.reduceBEq,Nat.reduceAdd,gLa,gLz,gLs,d4,c1]
     refine⟨a.length - (i+1),by omega,i+1,rfl,by omega,rfl,fun j hj=>?_,f02⟩
     rcases Nat.lt_or_ge j i with h | h
     ·exact hs j h
     ·obtain rfl:j=i:=by omega
      exact (heq _ _).2 ⟨hso,hg⟩
    ·have d4:(!decide ((a.getD i none).getD []=(b.getD i none).getD []))=true:=by rw[decide_eq_false hg];rfl
     simp -implicitDefEqProofs only[go_sem,Nat.reduceEqDiff,Nat.reduceBEq,Nat.reduceAdd,gLa,gLz,gLs,d4]
     rw[decide_eq_false (fun h=>hg (by rw[h]))]
     exact⟨rfl,f02⟩
   ·have d3:(!((a.getD i none).isSome == (b.getD i none).isSome))=true:=by rw[beq_eq_false_iff_ne.2 hso];rfl
    simp -implicitDefEqProofs only[go_sem,Nat.reduceEqDiff,Nat.reduceBEq,Nat.reduceAdd,gLa,gLz,gLs,d2,decide_true,y1,y2,and_self,Int.toNat_natCast,p1,p2,p1d,p2d,q1,q2,q1d,q2d,d3,ft_beq,tf_beq,beq_self_eq_true]
    rw[decide_eq_false (fun h=>hso (by rw[h]))]
    exact⟨rfl,f.drew⟩
  ·have d2:decide ((i:Int)<((a.length:Nat):Int))=false:=by simp;omega
   obtain rfl:i=a.length:=by omega
   have heq:a=b:=List.ext_getElem hlen fun j h1 h2=>by have:=hs j h1;rwa [getD_lt _ h1,getD_lt _ h2] at this
   simp -implicitDefEqProofs only[go_sem,Nat.reduceEqDiff,Nat.reduceBEq,Nat.reduceAdd,gLa,gLz,gLs,d2]
   rw[decide_eq_true heq]
   exact⟨rfl,f⟩
 ·have d1:(((a.length:Nat):Int) != ((b.length:Nat):Int))=true:=by rw[bne_iff_ne];omega
  simp -implicitDefEqProofs only[go_sem,Nat.reduceEqDiff,Nat.reduceBEq,Nat.reduceAdd,gLa,gLz,gLs,Tryz.f25,d1]
  rw[decide_eq_false (fun h=>hlen (by rw[h]))]
  exact⟨rfl,Fr.refl _ _⟩
end Go.V
end
section
namespace Go.V
open Go.Proofs Sha
set_option maxRecDepth 100000
theorem NwB.growY {w0 w : World} {v : Value} {bs : Bs} (hv : NwB w0 w v bs) (x : Byte) (hl : bs.length ≤ 2 ^ 47) (f : No w0 w) :
    ∃ v' w',(Builtin.append_ #[25,25] 0 #[v,.slice (some ⟨w.heap.size,0,none⟩) 1 1]).run Tryz.prog (w.alloc (.cells (bl [x]) 5)) = .ok v' w' ∧ NwB w0 w' v' (bs ++ [x]) ∧ No w0 w' ∧ Fr (fun b => blockOf v = some b) w w' ∧
      ∀ b,blockOf v' = some b → blockOf v = some b ∨ w.heap.size ≤ b := by
 obtain⟨v',w',hr,h1,h2,h3,h4⟩:=app_fresh Tryz.app25_25 hv (m:=1) (xs:=bl [x]) (by simp) rfl (by omega) (bd_one (by omega)) (by omega) f
 refine⟨v',w',hr,?_,h2,h3,h4⟩
 unfold NwB
 rw[List.length_append,List.map_append];exact h1
def shI (w0:World) (vv:Value) (bs:Bs) (n:Nat) (vs:List Value) (w:World):Prop :=
 ∃ (i:Nat) (v:Value),vs=[vv,.int .i64 (bs.length:Nat),v,.int .i64 (i:Nat)]∧i≤bs.length∧n=bs.length - i∧NwB w0 w v (bs.take i)∧No w0 w
theorem short (w0:World) {vv:Value} {bs:Bs} (hv:By w0 vv bs) (hl:bs.length≤2 ^ 47):Fn Tryz.prog 45 #[vv,.int .i64 (bs.length:Nat)] w0 fun v w'=>NwB w0 w' v bs∧No w0 w':=by
 refine Tryz.go45 (by simp) ?_
 obtain⟨va,vc,rfl,hcap⟩:=hv.slice
 simp -implicitDefEqProofs only[go_sem,Nat.reduceEqDiff,Nat.reduceBEq,Nat.reduceAdd,gLa,gLz,gLs,Tryz.f45]
 refine loopD [0,1,5,6] (shI w0 (.slice va bs.length vc) bs) bs.length ⟨0,_,rfl,by omega,rfl,NwB.nil _ _,Fr.refl _ _⟩ ?_
 rintro _ vs w3 g ⟨i,v,rfl,hi,rfl,b3,f3⟩
 by_cases hlt:i<bs.length
 ·have d1:decide ((i:Int)<((bs.length:Nat):Int))=true:=by simp;omega
  have c1:IntKind.i64.wrap ((i:Int)+1)=((i+1:Nat):Int):=i64add (b:=1) (by omega)
  have y:(0:Int)≤(i:Int)∧(i:Int)<((bs.length:Nat):Int):=by omega
  obtain⟨b,o,cap,he,r⟩:=(hv.fr0 f3).rd1 hlt
  cases he
  have hsn:=R.take_snoc (l:=bs) (i:=i) hlt
  obtain⟨v4,w4,hr4,b4,f4,g4,_⟩:=NwB.growY b3 (bs.getD i 0) (by rw[List.length_take];omega) f3
  rw[hsn] at b4
  generalize bs.getD i 0=x at *
  simp -implicitDefEqProofs only[go_sem,Nat.reduceEqDiff,Nat.reduceBEq,Nat.reduceAdd,gLa,gLz,gLs,d1,decide_true,ft_beq,tf_beq,beq_self_eq_true,y,and_self,Int.toNat_natCast,Nat.mul_one,r]
  refine contL_is (v:=.slice (some ⟨w3.heap.size,0,none⟩) 1 1) (w':=w3.alloc (.cells (bl [x]) 5)) rfl ?_
  simp -implicitDefEqProofs only[go_sem,Nat.reduceEqDiff,Nat.reduceBEq,Nat.reduceAdd,gLa,gLz,gLs]
  refine contL_sem ⟨v4,w4,hr4,?_⟩
  simp -implicitDefEqProofs only[go_sem,Nat.reduceEqDiff,Nat.reduceBEq,Nat.reduceAdd,gLa,gLz,gLs,c1]
  exact⟨bs.length - (i+1),by omega,i+1,v4,rfl,by omega,rfl,b4,f4⟩
 ·have d1:decide ((i:Int)<((bs.length:Nat):Int))=false:=by simp;omega
  have e:i=bs.length:=by omega
  subst e
  rw[List.take_length] at b3
  simp -implicitDefEqProofs only[go_sem,Nat.reduceEqDiff,Nat.reduceBEq,Nat.reduceAdd,gLa,gLz,gLs,d1,ft_beq,tf_beq,beq_self_eq_true]
  exact⟨b3,f3⟩
theorem copied (w0:World) {vv:Value} {bs:Bs} (hv:By w0 vv bs) (hl:bs.length≤2 ^ 47):Fn Tryz.prog 22 #[vv] w0 fun v w'=>NwB w0 w' v bs∧No w0 w':=by
 refine Tryz.go22 (by simp) ?_
 obtain⟨va,vc,rfl,hcap⟩:=hv.slice
 simp -implicitDefEqProofs only[go_sem,Nat.reduceEqDiff,Nat.reduceBEq,Nat.reduceAdd,gLa,gLz,gLs,Tryz.f22]
 refine contL_call Tryz.pl45 ((short w0 hv hl).mono ?_)
 rintro v w2 ⟨n2,f2⟩
 simp -implicitDefEqProofs only[go_sem,Nat.reduceEqDiff,Nat.reduceBEq,Nat.reduceAdd,gLa,gLz,gLs]
 exact⟨n2,f2⟩
/-- a text's place -/
def tv (q:Nat × Nat × Nat) (n:Nat):Value:=.slice (some ⟨q.1,q.2.1,Option.none⟩) n q.2.2
abbrev T16:Bs:=List.replicate 16 2
def K9:Bs:=[9,9,9]++List.replicate 29 0
end Go.V
end
section
namespace Go.V
open Go.Proofs Sha
set_option maxRecDepth 100000
end Go.V
end
section
namespace Go.V
open Go.Proofs Sha
set_option maxRecDepth 100000
def lfI (w0:World) (bv:Value) (q:Nat × Nat × Nat) (t:Bs) (n:Nat) (vs:List Value) (w:World):Prop :=
 ∃ (i:Nat),vs=[bv,tv q (t.length+16),.int .i64 (t.length:Nat),.int .i64 (i:Nat)]∧t.length≤i∧i≤t.length+16∧n=t.length+16 - i∧w=w0
end Go.V
end
section
namespace Go.V
open Go.Proofs Sha
set_option maxRecDepth 100000
/-- texts in memory, apart from the blocks A -/
def TsA (w:World) (v:Value) (ts:List Bs) (A:Nat→Prop):Prop:=∃ vals:List Value,vals.length=ts.length∧Rd w 1 v ts.length vals∧(∀ b,blockOf v=some b→¬ A b)∧∀ i (h:i<vals.length) (h':i<ts.length),By w vals[i] ts[i]∧(ts[i]≠[]→∀ b,blockOf vals[i]=some b→¬ A b)
theorem TsA.at {A:Nat→Prop} {w:World} {v:Value} {ts:List Bs} (h:TsA w v ts A) {i:Nat} (hi:i<ts.length):∃ b o cap tv,v=.slice (some ⟨b,o,Option.none⟩) ts.length cap∧By w tv (ts.getD i [])∧(ts.getD i []≠[]→∀ b,blockOf tv=some b→¬ A b)∧∀ w',No w w'→rdO Tryz.prog 25 w' b (o+i)=some tv:=by
 obtain⟨vals,h1,⟨hl,a,cap,rfl,hc,hat⟩,h3,h4⟩:=h
 obtain⟨b,o,rfl,hat2⟩:=hat (by omega)
 have hiv:i<vals.length:=by omega
 refine⟨b,o,cap,vals[i],rfl,by rw[getD_lt _ hi];exact (h4 i hiv hi).1,by rw[getD_lt _ hi];exact (h4 i hiv hi).2,fun w' k=>?_⟩
 have hr:=hat2 i (by omega)
 rw[List.getElem?_eq_getElem hiv] at hr
 refine rd_rc Tryz.agg25 ?_
 rw[k.rc (rc_lt hr) id,hr]
structure Pl (w0 w:World) (pb:Nat) (kq:Nat × Nat × Nat) (iv av:Value) (qs:List (Nat × Nat × Nat)) (ks ts:List Bs):Prop where
 cell:w.heap[pb]?=some (.cells #[tv kq ks.length,tv kq (ks.length+1),iv,av] 59 (0,0))
 new:w0.heap.size≤pb
 key:NwD w0 w 34 (tv kq (ks.length+1)) (ks++[K9])
 len:qs.length=ts.length
 inn:Nw w0 w 25 1 iv ts.length (List.zipWith (fun q (t:Bs)=>tv q t.length) qs ts)
 all:Nw w0 w 25 1 av ts.length (List.zipWith (fun q (t:Bs)=>tv q (t.length+16)) qs ts)
 txt:∀ i (h:i<qs.length) (h':i<ts.length),NwB w0 w (tv qs[i] (ts[i].length+16)) (ts[i]++T16)
 nd:(pb::kq.1::qs.map (·.1)).Nodup
 ia:∀ b,blockOf iv=some b→b ∉ pb::kq.1::qs.map (·.1)
 aa:∀ b,blockOf av=some b→b ∉ pb::kq.1::qs.map (·.1)
 ii:∀ b,blockOf iv=some b→blockOf av≠some b
/-- the blocks that are written over -/
def Pl.W (kq:Nat × Nat × Nat) (qs:List (Nat × Nat × Nat)):Nat→Prop:=fun b=>b ∈ kq.1::qs.map (·.1)
end Go.V
end
section
namespace Go.V
open Go.Proofs Sha
set_option maxRecDepth 100000
theorem NwT.ts {w0 w:World} {v:Value} {vals:List Value} {ts:List Bs} (h:NwT w0 w v vals ts):TsA w v ts fun _=>False :=
 ⟨vals,h.2.1,h.1.rd,fun _ _ h=>h,fun i a b=>⟨(h.2.2 i a b).1.by,fun _ _ _ h=>h⟩⟩
/-- the first unlike pair from the top -/
def exG (x y:List Bs):Nat→Option (Bs × Bs)
 | 0=>none
 | n+1=>if x.getD n []=y.getD n [] then exG x y n else some (x.getD n [],y.getD n [])
def exP (x y:List Bs):Option (Bs × Bs):=exG x y 257
def ExQ (w0:World) (o:Option (Bs × Bs)) (r:Value) (w':World):Prop:=No w0 w'∧match o with
 | none=>r=.tuple #[.slice Option.none 0 0,.slice Option.none 0 0,.bool false]
 | some (x,y)=>∃ xv yv,r=.tuple #[xv,yv,.bool true]∧By w' xv x∧By w' yv y
namespace C
theorem txs_len (wd:Int) (k:Bs) (a:Option Bs) (bits:Bs) (sums:List Bs):(txs wd k a bits sums).length=257:=txL_len _ _ _ _ _ _
def exI (w1:World) (xv yv:Value) (x y:List Bs) (m:Nat) (vs:List Value) (w:World):Prop :=
 ∃ n:Nat,vs=[xv,yv,.int .i64 ((n:Int) - 1)]∧n≤257∧m=n∧exP x y=exG x y n∧No w1 w
set_option maxHeartbeats 4000000 in
theorem extract (w0 : World) (ht : Tabs w0) (wd : Int) {root k : Bs} (hroot : root.length = 32) (hk : k.length = 32) {r1 r2 : Value} {p1 p2 : Bs} (h1 : By w0 r1 p1) (h2 : By w0 r2 p2) (l1 : p1.length ≤ 2 ^ 50) (l2 : p2.length ≤ 2 ^ 50)
    {a1 a2 : Option Bs} {b1 b2 : Bs} {s1 s2 : List Bs} (g1 : heldP wd root k p1 = .ok (a1,b1,s1)) (g2 : heldP wd root k p2 = .ok (a2,b2,s2)) :
    Fn Tryz.prog 50 #[.int .i64 wd,dg root,dg k,r1,r2] w0 (ExQ w0 (exP (txs wd k a1 b1 s1) (txs wd k a2 b2 s2))) := by
 refine Tryz.go50 (by simp) ?_
 obtain⟨W,hW,f1,k1,k2,sW⟩:=allocs2 w0 (bl root) 23 (bl k) 34
 have rr:=rd_d Tryz.agg23 Tryz.sz23 k1 hroot
 have rk:=rd_d Tryz.agg34 Tryz.sz34 k2 hk
 simp -implicitDefEqProofs only[go_sem,Nat.reduceEqDiff,Nat.reduceBEq,Nat.reduceAdd,gLa,gLz,gLs,Tryz.f50,Value.cells,hW,rr,rk]
 refine contL_call Tryz.pl93 ((held W (ht.no f1) wd hroot hk (h1.fr0 f1) l1 (av:=.slice Option.none 0 0) (bv0:=.slice Option.none 0 0) (.inl ⟨rfl,rfl⟩)).mono ?_)
 rintro _ w2 ⟨f2,hm⟩
 rw[g1] at hm
 obtain⟨ca,va,sa,ba,ea,rfl,hca,hPa,hRa,_⟩:=hm
 have f02:=f1.trans f2
 have rr2:=rd_d Tryz.agg23 Tryz.sz23 (f2.at k1 id) hroot
 have rk2:=rd_d Tryz.agg34 Tryz.sz34 (f2.at k2 id) hk
 simp -implicitDefEqProofs only[go_sem,Nat.reduceEqDiff,Nat.reduceBEq,Nat.reduceAdd,gLa,gLz,gLs,rr2,rk2]
 refine contL_is (v:=.slice (some ⟨w2.heap.size,0,Option.none⟩) 1 1) (w':=w2.alloc (.cells #[pt ca 0] 164)) rfl ?_
 obtain⟨w3,h3,f3,k3,s3⟩:=allocs1 w2 #[pt ca 0] 164
 rw[h3]
 have f03:=f02.trans f3
 have hPa3:=hPa.fr0 f3
 have ra3:rdO Tryz.prog 164 w3 w2.heap.size 0=some (pt ca 0):=rd1 Tryz.agg164 k3 rfl
 have rb3:∀ w',No w3 w'→rdO Tryz.prog 164 w' w2.heap.size 0=some (pt ca 0):=fun w' f=>rd1 Tryz.agg164 (f.at k3 id) rfl
 simp -implicitDefEqProofs only[go_sem,Nat.reduceEqDiff,Nat.reduceBEq,Nat.reduceAdd,gLa,gLz,gLs]
 refine contL_call Tryz.pl93 ((held w3 (ht.no f03) wd hroot hk (h2.fr0 f03) l2 (av:=.slice (some ⟨w2.heap.size,0,Option.none⟩) 1 1) (bv0:=ba) (.inr ⟨w2.heap.size,0,1,ca,rfl,ra3,rb3,fun w' f=>(hPa3.fr0 f).ck.blank,hRa.fr0 f3⟩)).mono ?_)
 rintro _ w4 ⟨f4,hm⟩
 rw[g2] at hm
 obtain⟨cb,vb,sb,bb,eb,rfl,hcb,hPb,hRb,hbb⟩:=hm
 have hal:=hPa3.ck.lt
 have hba:ba≠.slice Option.none 0 0:=fun h=>by
  obtain⟨b',o,cap,e',_⟩:=hRa.pos (by rw[empts_len];omega)
  rw[h] at e';cases e'
 have ebb:bb=ba:=hbb.resolve_left hba
 subst ebb
 have f04:=f03.trans f4
 have hPa4:=hPa3.fr0 f4
 have hRa4:=(hRa.fr0 f3).fr0 f4
 simp -implicitDefEqProofs only[go_sem,Nat.reduceEqDiff,Nat.reduceBEq,Nat.reduceAdd,gLa,gLz,gLs,bne_self_eq_false]
 refine contL_call Tryz.pl94 ((texts w4 (ht.no f04) hPa4 hRa4).mono ?_)
 rintro xv w5 ⟨vx,hX,f5⟩
 have hbl:=hPb.ck.lt
 have f05:No w0 w5:=f04.trans' f5 fun b hb h=>by have:=f1.size;omega
 have hca2:∀ b,blockOf bb=some b→b≠ca:=by
  rcases hPa4.bl with h | h
  ·exact absurd h hba
  ·exact h.2
 have hPb5:CkP w5 cb wd k root a2 b2 s2 r2 vb sb bb eb:=hPb.frF f5 (by omega) (fun b h hb=>by have:=hPb.vn b hb;omega) (fun b h hb=>by have:=hPb.sn b hb;omega) (fun b h hb=>hca2 b hb h)
 have hRb5:RdD w5 bb (empts wd 256):=hRb.fr f5 fun b hb _ h=>hca2 b hb h
 simp -implicitDefEqProofs only[go_sem,Nat.reduceEqDiff,Nat.reduceBEq,Nat.reduceAdd,gLa,gLz,gLs]
 refine contL_call Tryz.pl94 ((texts w5 (ht.no f05) hPb5 hRb5).mono ?_)
 rintro yv w6 ⟨vy,hY,f6⟩
 have f06:No w0 w6:=f05.trans' f6 fun b hb h=>by have:=f1.size;have:=f2.size;have:=f3.size;omega
 have hX6:NwT w4 w6 xv vx (txs wd k a1 b1 s1):=hX.fr f6 (fun b hb h=>by have:=hX.1.new b hb;omega) (fun x hx b hb h=>by
  obtain⟨i,hi,rfl⟩:=List.getElem_of_mem hx
  have:=((hX.2.2 i hi (by rw[← hX.2.1];exact hi)).1.lt hb).1
  omega)
 have tx:=hX6.ts
 have ty:=hY.ts
 have lx:=txs_len wd k a1 b1 s1
 have ly:=txs_len wd k a2 b2 s2
 generalize txs wd k a1 b1 s1=X at *
 generalize txs wd k a2 b2 s2=Y at *
 simp -implicitDefEqProofs only[go_sem,Nat.reduceEqDiff,Nat.reduceBEq,Nat.reduceAdd,gLa,gLz,gLs]
 refine loopD [17,18,19] (exI w6 xv yv X Y) 257 ⟨257,rfl,Nat.le_refl _,rfl,rfl,Fr.refl _ _⟩ ?_
 rintro n vs w g ⟨_,rfl,hn,rfl,hG,fw⟩
 unfold ExQ
 cases n with
 | zero =>
  have d1:decide (((0:Nat):Int) - 1 ≥ 0)=false:=rfl
  simp -implicitDefEqProofs only[go_sem,Nat.reduceEqDiff,Nat.reduceBEq,Nat.reduceAdd,gLa,gLz,gLs,d1]
  rw[hG]
  exact⟨f06.trans fw,trivial⟩
 | succ n =>
  have e1:((n+1:Nat):Int) - 1=(n:Nat):=by omega
  have d1:decide ((n:Int) ≥ 0)=true:=decide_eq_true (by omega)
  obtain⟨xb,xo,xc,xt,rfl,hx,_,rx⟩:=tx.at (i:=n) (by omega)
  obtain⟨yb,yo,yc,yt,rfl,hy,_,ry⟩:=ty.at (i:=n) (by omega)
  have rx1:=rx w fw
  have ry1:=ry w fw
  have rx2:rdO Tryz.prog 25 w.drew xb (xo+n)=_:=rx1
  have ry2:rdO Tryz.prog 25 w.drew yb (yo+n)=_:=ry1
  have y1:(0:Int)≤(n:Int)∧(n:Int)<(X.length:Int):=by omega
  have y2:(0:Int)≤(n:Int)∧(n:Int)<(Y.length:Int):=by omega
  have hxw:=hx.fr0 fw
  have hyw:=hy.fr0 fw
  have ox:=hxw.one
  have oy:=hyw.one
  have c1:IntKind.i64.wrap ((n:Int) - 1)=(n:Int) - 1:=wrap64_id (by omega) (by omega)
  simp -implicitDefEqProofs only[go_sem,Nat.reduceEqDiff,Nat.reduceBEq,Nat.reduceAdd,gLa,gLz,gLs,e1,d1,y1,y2,and_self,Int.toNat_natCast,Nat.mul_one,rx1,ry1,rx2,ry2]
  refine contL_call Tryz.pl49 ((bequal w.drew (hxw.fr0 (Fr.refl _ _).drew) (hyw.fr0 (Fr.refl _ _).drew)).mono ?_)
  rintro _ _ ⟨rfl,rfl⟩
  have rx3:rdO Tryz.prog 25 w.drew.drew xb (xo+n)=_:=rx1
  have ry3:rdO Tryz.prog 25 w.drew.drew yb (yo+n)=_:=ry1
  by_cases he:X.getD n []=Y.getD n []
  ·have b1:decide (X.getD n []=Y.getD n [])=true:=decide_eq_true he
   simp -implicitDefEqProofs only[go_sem,Nat.reduceEqDiff,Nat.reduceBEq,Nat.reduceAdd,gLa,gLz,gLs,b1,Bool.not_true,c1]
   exact⟨n,by omega,n,rfl,by omega,rfl,by rw[hG,exG,if_pos he],fw.drew⟩
  ·have b1:decide (X.getD n []=Y.getD n [])=false:=decide_eq_false he
   simp -implicitDefEqProofs only[go_sem,Nat.reduceEqDiff,Nat.reduceBEq,Nat.reduceAdd,gLa,gLz,gLs,b1,Bool.not_false,e1,y1,y2,and_self,Int.toNat_natCast,Nat.mul_one,rx2,ry2,rx3,ry3]
   have e2:exP X Y=some (X.getD n [],Y.getD n []):=by rw[hG,exG,if_neg he]
   rw[e2]
   exact⟨(f06.trans fw).drew.drew,xt,yt,rfl,hxw,hyw⟩
end C
end Go.V
end
section
namespace Go.V
open Go.Proofs Sha
namespace C
theorem cut_inj {w:Int} {d e:Bs} (hd:cutD w d=d) (he:cutD w e=e) (h:d.take (wid w)=e.take (wid w)):d=e:=by
 have l1:d.length=32:=by rw[← hd];exact cutD_len _ _
 have l2:e.length=32:=by rw[← he];exact cutD_len _ _
 rw[← hd,← he,cutD_eq w d l1,cutD_eq w e l2,h]
theorem branchT_inj {w:Int} {a b c d:Bs} (ha:cutD w a=a) (hb:cutD w b=b) (hc:cutD w c=c) (hd:cutD w d=d) (h:branchT w a b=branchT w c d):a=c∧b=d:=by
 have la:a.length=32:=by rw[← ha];exact cutD_len _ _
 have lc:c.length=32:=by rw[← hc];exact cutD_len _ _
 have hw:=wid_le w
 unfold branchT at h
 have h:=List.append_inj (List.cons.inj h).2 (by rw[List.length_take,List.length_take,la,lc])
 exact⟨cut_inj ha hc h.1,cut_inj hb hd h.2⟩
theorem lowT_inj {k:Bs} {a b:Option Bs} (h:lowT k a=lowT k b):a=b:=by
 cases a <;> cases b <;> simp_all [lowT,leafT]
theorem lowT_cut (wd:Int) (k:Bs) (a:Option Bs):hcut wd (lowT k a)=Wit.ldig wd k a:=by cases a <;> rfl
section
variable {wd:Int} {k:Bs} {a b:Option Bs} {b1 b2:Bs} {s1 s2:List Bs}
theorem pth_succ (wd:Int) (k:Bs) (a:Option Bs) (bits:Bs) (sums:List Bs) {h:Nat} (hh:h<256):pth wd k a bits sums (h+1)=up wd k h (pth wd k a bits sums h) (Wit.nearH wd bits sums h):=by
 unfold pth
 rw[climb_succ wd k _ (by rw[nearL_len];exact hh),nearL_at wd bits sums hh]
theorem pth_top (wd:Int) (k:Bs) (a:Option Bs) (bits:Bs) (sums:List Bs):pth wd k a bits sums 256=clD wd k a bits sums:=by
 unfold pth clD
 rw[List.take_of_length_le (by rw[nearL_len];exact Nat.le_refl _)]
theorem pth_tdy (wd:Int) (k:Bs) (a:Option Bs) (bits:Bs) (sums:List Bs) (h:Nat):cutD wd (pth wd k a bits sums h)=pth wd k a bits sums h:=Wit.climb_tdy wd k _ _ _ (Wit.ldig_tdy _ _ _)
theorem txs_zero (wd:Int) (k:Bs) (a:Option Bs) (bits:Bs) (sums:List Bs):(txs wd k a bits sums).getD 0 []=lowT k a:=rfl
theorem txs_succ (wd:Int) (k:Bs) (a:Option Bs) (bits:Bs) (sums:List Bs) {h:Nat} (hh:h<256):(txs wd k a bits sums).getD (h+1) []=txH wd k (pth wd k a bits sums) (Wit.nearH wd bits sums) h:=by
 unfold txs txL
 rw[List.getD_cons_succ,getD_lt _ (by simpa using hh)]
 simp
theorem txs_cut (wd:Int) (k:Bs) (a:Option Bs) (bits:Bs) (sums:List Bs):∀ {h:Nat},h<257→hcut wd ((txs wd k a bits sums).getD h [])=pth wd k a bits sums h
 | 0,_=>by rw[txs_zero,lowT_cut];rfl
 | h+1,hh=>by
  rw[txs_succ _ _ _ _ _ (by omega),pth_succ _ _ _ _ _ (by omega),← sd_up]
  rfl
theorem exG_ok (t1 : ∀ h, h < 256 → cutD wd (Wit.nearH wd b1 s1 h) = Wit.nearH wd b1 s1 h) (t2 : ∀ h, h < 256 → cutD wd (Wit.nearH wd b2 s2 h) = Wit.nearH wd b2 s2 h) (hab : a ≠ b) :
    ∀ n,n < 257 → pth wd k a b1 s1 n = pth wd k b b2 s2 n → ∃ x y,exG (txs wd k a b1 s1) (txs wd k b b2 s2) (n + 1) = some (x,y) ∧ x ≠ y ∧ hcut wd x = hcut wd y := by
 intro n
 induction n with
 | zero =>
  intro _ h
  have hne:¬ (txs wd k a b1 s1).getD 0 []=(txs wd k b b2 s2).getD 0 []:=fun e=>by
   rw[txs_zero,txs_zero] at e
   exact hab (lowT_inj e)
  refine⟨_,_,by rw[exG,if_neg hne],hne,?_⟩
  rw[txs_cut _ _ _ _ _ (by omega),txs_cut _ _ _ _ _ (by omega),h]
 | succ n ih =>
  intro hn h
  by_cases he:(txs wd k a b1 s1).getD (n+1) []=(txs wd k b b2 s2).getD (n+1) []
  ·rw[exG,if_pos he]
   refine ih (by omega) ?_
   rw[txs_succ _ _ _ _ _ (by omega),txs_succ _ _ _ _ _ (by omega)] at he
   unfold txH sd1 sd2 at he
   split at he
   ·exact (branchT_inj (t1 n (by omega)) (pth_tdy _ _ _ _ _ _) (t2 n (by omega)) (pth_tdy _ _ _ _ _ _) he).2
   ·exact (branchT_inj (pth_tdy _ _ _ _ _ _) (t1 n (by omega)) (pth_tdy _ _ _ _ _ _) (t2 n (by omega)) he).1
  ·refine⟨_,_,by rw[exG,if_neg he],he,?_⟩
   rw[txs_cut _ _ _ _ _ (by omega),txs_cut _ _ _ _ _ (by omega),h]
end
/-- a part, as a proof -/
theorem part_held {wd : Int} {root : Bs} {t : Wit.Tw} {k : Bs} (hok : t.Ok) (hd : Wit.Tdy wd t) (htop : t.top = 256) (hk : k ∈ t.keys) (hr : Wit.dig wd Wit.asIs t = root) (h1 : 1 ≤ wd) (h2 : wd ≤ 32) :
    ∃ bits sums,heldP wd root k (Wit.txt wd (Wit.part wd t k)) = .ok (t.at k,bits,sums) ∧ Wit.nearL wd bits sums = Wit.nbrs wd t k := by
 have h:=Wit.part_form hok hd htop hk
 rw[Wit.form_dec] at h
 unfold heldP
 rw[if_neg (by omega)]
 cases hdec:Wit.decP (Wit.txt wd (Wit.part wd t k)) with
 | none=>rw[hdec] at h;cases h
 | some y =>
  obtain⟨a,bits,sums⟩:=y
  rw[hdec] at h
  dsimp only at h ⊢
  by_cases hc:Wit.chk wd (Wit.gsOf bits sums)=0
  ·rw[if_neg (fun e=>e hc)] at h
   unfold Wit.part at h
   simp only[Except.ok.injEq,Option.some.injEq,Wit.Tw.leaf.injEq,true_and] at h
   obtain⟨hn,ha⟩:=h
   refine⟨bits,sums,?_,hn⟩
   have hcl:clD wd k a bits sums=root:=by
    unfold clD
    rw[hn,ha,Wit.single_dig wd hok hk,hr]
   rw[if_neg (fun e=>e hc),if_pos hcl,ha]
  ·rw[if_pos hc] at h;cases h
/-- two trees under one root that say unlike things of a key: two unlike texts with one digest -/
theorem clashed {wd : Int} {root : Bs} {s t : Wit.Tw} {k : Bs} (os : s.Ok) (ds : Wit.Tdy wd s) (ts : s.top = 256) (ks : k ∈ s.keys) (rs : Wit.dig wd Wit.asIs s = root) (ot : t.Ok) (dt : Wit.Tdy wd t) (tt : t.top = 256) (kt : k ∈ t.keys) (rt : Wit.dig wd Wit.asIs t = root) (h1 : 1 ≤ wd) (h2 : wd ≤ 32) (hne : s.at k ≠ t.at k) :
    ∃ b1 s1 b2 s2 x y,heldP wd root k (Wit.txt wd (Wit.part wd s k)) = .ok (s.at k,b1,s1) ∧ heldP wd root k (Wit.txt wd (Wit.part wd t k)) = .ok (t.at k,b2,s2) ∧ exP (txs wd k (s.at k) b1 s1) (txs wd k (t.at k) b2 s2) = some (x,y) ∧ x ≠ y ∧ hcut wd x = hcut wd y := by
 obtain⟨b1,s1,e1,n1⟩:=part_held os ds ts ks rs h1 h2
 obtain⟨b2,s2,e2,n2⟩:=part_held ot dt tt kt rt h1 h2
 have tdy:∀ {b:Bs} {s:List Bs} {u:Wit.Tw},Wit.Tdy wd u→Wit.nearL wd b s=Wit.nbrs wd u k→∀ h,h<256→cutD wd (Wit.nearH wd b s h)=Wit.nearH wd b s h:=fun {b s u} hu e h hh=>by
  refine Wit.nbrs_tdy wd k hu _ ?_
  rw[← e,← nearL_at wd b s hh,getD_lt _ (by rw[nearL_len];exact hh)]
  exact List.getElem_mem _
 have hp:pth wd k (s.at k) b1 s1 256=pth wd k (t.at k) b2 s2 256:=by
  rw[pth_top,pth_top]
  unfold clD
  rw[n1,n2,Wit.single_dig wd os ks,Wit.single_dig wd ot kt,rs,rt]
 obtain⟨x,y,hx,hxy,hc⟩:=exG_ok (tdy ds n1) (tdy dt n2) hne 256 (by omega) hp
 exact⟨b1,s1,b2,s2,x,y,e1,e2,hx,hxy,hc⟩
end C
end Go.V
end
