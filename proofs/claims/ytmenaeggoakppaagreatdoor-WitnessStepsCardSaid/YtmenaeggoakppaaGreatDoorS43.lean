/-
 Helpers: KnowG, LawA, LawC, LawD.
-/
import Derived.Test.YtmenaeggoakppaaGreatDoorS39
import Derived.Test.YtmenaeggoakppaaGreatDoorS29
import Derived.Test.YtmenaeggoakppaaGreatDoorS42
set_option linter.all false
section
namespace Go.V
open Go.Proofs Sha
set_option maxRecDepth 100000
theorem rep00 (w0:World) (a:Option Addr) (c:Nat):Fn Tryz.prog 168 #[.slice a 0 c] w0 fun v w'=>v=.int .i64 (-1)∧No w0 w':=by
 refine Tryz.go168 (by simp) ?_
 have d1:decide ((0:Int)<((0:Nat):Int))=false:=rfl
 simp -implicitDefEqProofs only[go_sem,Nat.reduceEqDiff,Nat.reduceBEq,Nat.reduceAdd,gLa,gLz,gLs,Tryz.f168]
 refine den_scope (by kernel_rfl) ?_
 simp -implicitDefEqProofs only[go_sem,Nat.reduceEqDiff,Nat.reduceBEq,Nat.reduceAdd,gLa,gLz,gLs]
 refine loopD [3,7,8] (fun n vs w=>n=0∧vs=[.int .i64 (-1),.int .i64 ((0:Nat):Int),.int .i64 0]∧w=w0) 0 ⟨rfl,rfl,rfl⟩ ?_
 rintro _ vs w g ⟨rfl,rfl,rfl⟩
 simp -implicitDefEqProofs only[go_sem,Nat.reduceEqDiff,Nat.reduceBEq,Nat.reduceAdd,gLa,gLz,gLs,d1]
 exact Fr.refl _ _
theorem parse00 (w0:World) {rv:Value} (hr:By w0 rv [0,0]):Fn Tryz.prog 104 #[rv] w0 fun v w'=>No w0 w'∧∃ a c,v=.tuple #[.slice a 0 c,.int .i64 0,.int .i64 0]:=by
 refine Tryz.go104 (by simp) ?_
 obtain⟨b,o,cap,rfl,hcap⟩:=hr.pos (by decide)
 have r0:rdO Tryz.prog 5 w0 b o=some (.int .u8 ((0:Byte).toNat:Int)):=hr.get (P:=Tryz.prog) Tryz.agg5 (i:=0) (by decide)
 have r1:rdO Tryz.prog 5 w0 b (o+1)=some (.int .u8 ((0:Byte).toNat:Int)):=hr.get (P:=Tryz.prog) Tryz.agg5 (i:=1) (by decide)
 have d0:decide (((([0,0]:Bs).length:Nat):Int)<2)=false:=rfl
 have y0:(0:Int)≤0∧(0:Int)<((([0,0]:Bs).length:Nat):Int):=by decide
 have y1:(0:Int)≤1∧(1:Int)<((([0,0]:Bs).length:Nat):Int):=by decide
 have w8:IntKind.i64.wrap ((0:Byte).toNat:Int)=0:=rfl
 have sh:shlK .i64 0 8=0:=rfl
 have oo:orK .i64 0 0=0:=rfl
 have dn:decide ((0:Int) > 64)=false:=rfl
 have hcap:2≤cap:=hcap
 have p1:=slc_lo (P:=Tryz.prog) Tryz.slc25 Tryz.arr25 Tryz.sz5 (a:=some (⟨b,o,Option.none⟩:Addr)) (n:=([0,0]:Bs).length) (cap:=cap) (l:=2) (by decide) hcap
 have p1:sliceP Tryz.prog 25 (.slice (some ⟨b,o,Option.none⟩) ([0,0]:Bs).length cap) (some (.int .i64 2)) Option.none Option.none=some (cutV 1 (some ⟨b,o,Option.none⟩) cap 2 2):=p1
 have mk:=run_mk (P:=Tryz.prog) (t:=151) (by':=64) Tryz.slc151 Tryz.sz181 Tryz.by181 Tryz.zero181 (l:=0) (c:=0) (Nat.le_refl _) (by decide) (by decide) .i64 .i64 w0.drew
 simp -implicitDefEqProofs only[go_sem,Nat.reduceEqDiff,Nat.reduceBEq,Nat.reduceAdd,gLa,gLz,gLs,Tryz.f104,d0,y0,y1,and_self,Int.toNat_zero,Int.toNat_one,Nat.mul_one,Nat.zero_mul,Nat.add_zero,r0,r1,w8,sh,oo,dn,p1]
 refine contL_sem ⟨_,_,mk,?_⟩
 obtain⟨W,hW,f1,_,_⟩:=allocs1 w0.drew (madeCells (Array.replicate 32 (Value.int .u8 0)++#[Value.bool false,Value.slice Option.none 0 0]) (0*34)) 181
 have hW:w0.drew.alloc (.cells (madeCells (Value.agg (Array.replicate 32 (Value.int .u8 0)++#[Value.bool false,Value.slice Option.none 0 0])).cells (0*34)) 181)=W:=hW
 rw[hW]
 have f01:No w0 W:=(Fr.refl _ _).drew.trans f1
 obtain⟨ca,cc,hcut⟩:∃ ca cc,cutV 1 (some (⟨b,o,Option.none⟩:Addr)) cap 2 2=.slice ca 0 cc:=⟨_,_,rfl⟩
 rw[hcut]
 generalize w0.drew.heap.size=nb
 simp -implicitDefEqProofs only[go_sem,Nat.reduceEqDiff,Nat.reduceBEq,Nat.reduceAdd,gLa,gLz,gLs]
 refine loopD [5,6,7,32,33] (fun n vs w=>n=0∧vs=[.int .i64 0,.slice ca 0 cc,.slice (some ⟨nb,0,Option.none⟩) 0 0,.int .i64 0,.int .i64 0]∧w=W) 0 ⟨rfl,rfl,rfl⟩ ?_
 rintro _ vs w g ⟨rfl,rfl,rfl⟩
 have d1:decide ((0:Int)<0)=false:=rfl
 have d2:decide (((0:Nat):Int) > 0)=false:=rfl
 simp -implicitDefEqProofs only[go_sem,Nat.reduceEqDiff,Nat.reduceBEq,Nat.reduceAdd,gLa,gLz,gLs,d1,d2]
 refine contL_call Tryz.pl168 ((rep00 w _ _).mono ?_)
 rintro _ w2 ⟨rfl,f2⟩
 have d3:decide ((-1:Int) ≥ 0)=false:=rfl
 simp -implicitDefEqProofs only[go_sem,Nat.reduceEqDiff,Nat.reduceBEq,Nat.reduceAdd,gLa,gLz,gLs,d3]
 exact⟨f01.trans f2,_,_,rfl⟩
/-- a turn of nothing -/
theorem parsed00 (w0:World) {rv:Value} (hr:By w0 rv [0,0]):Fn Tryz.prog 59 #[rv] w0 fun v w'=>No w0 w'∧∃ m,v=.tuple #[.agg #[.slice Option.none 0 0,.map m],.int .i64 0]:=by
 refine Tryz.go59 (by simp) ?_
 obtain⟨W,hW,f1,k1,s1⟩:=allocs1 w0 #[.slice Option.none 0 0,.map Option.none] 111
 simp -implicitDefEqProofs only[go_sem,Nat.reduceEqDiff,Nat.reduceBEq,Nat.reduceAdd,gLa,gLz,gLs,Tryz.f59,Value.cells,hW]
 refine contL_call Tryz.pl104 ((parse00 W (hr.fr0 f1)).mono ?_)
 rintro _ w2 ⟨f2,a,c,rfl⟩
 have f02:=f1.trans f2
 have bld:bldO Tryz.prog 111 [(1,.map (some w2.heap.size))]=some (.agg #[.slice Option.none 0 0,.map (some w2.heap.size)]):=rfl
 have f3:No w2 (w2.alloc (.map #[] 0)):=(Fr.refl _ _).alloc _
 obtain⟨W3,hW3⟩:∃ W3,w2.alloc (.map #[] 0)=W3:=⟨_,rfl⟩
 rw[hW3] at f3
 obtain⟨W4,hW4,f4,k4,s4⟩:=allocs1 W3 #[.slice Option.none 0 0,.map Option.none] 111
 have q5:wrO Tryz.prog 111 W4 W3.heap.size 0 (.agg #[.slice Option.none 0 0,.map (some w2.heap.size)])=some (put W4 W3.heap.size (.cells #[.slice Option.none 0 0,.map (some w2.heap.size)] 111 (0,0))):=wr_all (vs:=#[.slice Option.none 0 0,.map (some w2.heap.size)]) Tryz.sz111 k4 rfl (by rw[← Array.all_toList];rfl)
 have k5:=put_at (o:=.cells #[.slice Option.none 0 0,.map (some w2.heap.size)] 111 (0,0)) k4
 have f5:No W3 (put W4 W3.heap.size (.cells #[.slice Option.none 0 0,.map (some w2.heap.size)] 111 (0,0))):=f4.put (b:=W3.heap.size) _ fun h=>absurd h (Nat.lt_irrefl _)
 obtain⟨w5,hw5⟩:∃ w5,w5=put W4 W3.heap.size (.cells #[.slice Option.none 0 0,.map (some w2.heap.size)] 111 (0,0)):=⟨_,rfl⟩
 rw[← hw5] at q5 k5 f5
 simp -implicitDefEqProofs only[go_sem,Nat.reduceEqDiff,Nat.reduceBEq,Nat.reduceAdd,gLa,gLz,gLs,bne_self_eq_false,bld,hW3,hW4,Value.cells,q5]
 refine loopD [2,7,23,24] (fun n vs w=>n=0∧vs=[pt w0.heap.size 0,pt W3.heap.size 0,.int .i64 ((0:Nat):Int),.int .i64 0]∧w=w5) 0 ⟨rfl,rfl,rfl⟩ ?_
 rintro _ vs w g ⟨rfl,rfl,rfl⟩
 have d1:decide ((0:Int)<((0:Nat):Int))=false:=rfl
 have r5:rdO Tryz.prog 24 w W3.heap.size 0=some (.slice Option.none 0 0):=rd1 Tryz.agg24 k5 rfl
 have f05:=(f02.trans f3).trans f5
 simp -implicitDefEqProofs only[go_sem,Nat.reduceEqDiff,Nat.reduceBEq,Nat.reduceAdd,gLa,gLz,gLs,d1,r5]
 refine contL_call Tryz.pl90 ((ksort w w (NwD.nil _ _ _) (by simp)).mono ?_)
 rintro _ w6 ⟨rfl,_,_,_,_,f6⟩
 have f6:No w w6:=f6.mono fun b _ h=>by cases h
 have k6:=f6.at k5 id
 have r6:rdO Tryz.prog 111 w6 W3.heap.size 0=some (.agg #[.slice Option.none 0 0,.map (some w2.heap.size)]):=rd_all Tryz.agg111 Tryz.sz111 k6
 have k16:=(((f2.trans f3).trans f5).trans f6).at k1 id
 have q7:wrO Tryz.prog 111 w6 w0.heap.size 0 (.agg #[.slice Option.none 0 0,.map (some w2.heap.size)])=some (put w6 w0.heap.size (.cells #[.slice Option.none 0 0,.map (some w2.heap.size)] 111 (0,0))):=wr_all (vs:=#[.slice Option.none 0 0,.map (some w2.heap.size)]) Tryz.sz111 k16 rfl (by rw[← Array.all_toList];rfl)
 have r7:rdO Tryz.prog 111 _ w0.heap.size 0=some (.agg #[.slice Option.none 0 0,.map (some w2.heap.size)]):=rd_all Tryz.agg111 Tryz.sz111 (put_at (o:=.cells #[.slice Option.none 0 0,.map (some w2.heap.size)] 111 (0,0)) k16)
 simp -implicitDefEqProofs only[go_sem,Nat.reduceEqDiff,Nat.reduceBEq,Nat.reduceAdd,gLa,gLz,gLs,r6,q7,r7]
 exact⟨(f05.trans f6).put (b:=w0.heap.size) _ fun h=>by omega,_,rfl⟩
/-- a step of nothing -/
theorem step00 (w0 : World) (ht : Tabs w0) {root : Bs} (hroot : root.length = 32) {rv : Value} (hr : By w0 rv [0, 0]) :
    Fn Tryz.prog 32 #[.int .i64 4,dg root,.slice Option.none 0 0,rv] w0 fun v w' => v = .tuple #[dg root,.int .i64 0] ∧ No w0 w' := by
 refine Tryz.go32 (by simp) ?_
 obtain⟨W,hW,f1,k1,k2,s1⟩:=allocs2 w0 (bl root) 23 (bl (List.replicate 32 0)) 23
 simp -implicitDefEqProofs only[go_sem,Nat.reduceEqDiff,Nat.reduceBEq,Nat.reduceAdd,gLa,gLz,gLs,Tryz.f32,Value.cells,bl_zero,hW]
 refine contL_call Tryz.pl46 ((sorted W 4 (kv:=.slice Option.none 0 0) (ks:=[]) (NwD.nil W W 34).rd).mono ?_)
 rintro r w2 ⟨f2,h2⟩
 have hsn:Wit.sortW 4 []=.ok []:=rfl
 rw[hsn] at h2
 obtain⟨lv,rfl,_⟩:=h2
 have f02:=f1.trans f2
 simp -implicitDefEqProofs only[go_sem,Nat.reduceEqDiff,Nat.reduceBEq,Nat.reduceAdd,gLa,gLz,gLs,bne_self_eq_false]
 refine contL_call Tryz.pl59 ((parsed00 w2 (hr.fr0 f02)).mono ?_)
 rintro _ w3 ⟨f3,m,rfl⟩
 have f03:=f02.trans f3
 obtain⟨W4,hW4,f4,k4,s4⟩:=allocs1 w3 #[.slice Option.none 0 0,.map Option.none] 111
 have q5:wrO Tryz.prog 111 W4 w3.heap.size 0 (.agg #[.slice Option.none 0 0,.map m])=some (put W4 w3.heap.size (.cells #[.slice Option.none 0 0,.map m] 111 (0,0))):=wr_all (vs:=#[.slice Option.none 0 0,.map m]) Tryz.sz111 k4 rfl (by rw[← Array.all_toList];rfl)
 have k5:=put_at (o:=.cells #[.slice Option.none 0 0,.map m] 111 (0,0)) k4
 have f5:No w3 (put W4 w3.heap.size (.cells #[.slice Option.none 0 0,.map m] 111 (0,0))):=f4.put (b:=w3.heap.size) _ fun h=>absurd h (Nat.lt_irrefl _)
 obtain⟨w5,hw5⟩:∃ w5,w5=put W4 w3.heap.size (.cells #[.slice Option.none 0 0,.map m] 111 (0,0)):=⟨_,rfl⟩
 rw[← hw5] at q5 k5 f5
 have f05:=f03.trans f5
 have r5:rdO Tryz.prog 24 w5 w3.heap.size 0=some (.slice Option.none 0 0):=rd1 Tryz.agg24 k5 rfl
 have k15:=((f2.trans f3).trans f5).at k1 id
 have rr:=rd_d Tryz.agg23 Tryz.sz23 k15 hroot
 simp -implicitDefEqProofs only[go_sem,Nat.reduceEqDiff,Nat.reduceBEq,Nat.reduceAdd,gLa,gLz,gLs,hW4,Value.cells,q5,r5,rr,bne_self_eq_false]
 refine contL_call Tryz.pl47 ((under w5 (ht.no f05) 4 hroot (ks:=[]) (raw:=[]) (NwD.nil w5 w5 34).rd (NwB.nil w5 w5).by List.Pairwise.nil (by simp)).mono ?_)
 rintro r w6 ⟨f6,h6⟩
 have hu:Wit.underP 4 root [] []=.ok none:=rfl
 rw[hu] at h6
 subst h6
 have f06:=f05.trans f6
 have k16:=f6.at k15 id
 have k26:=(((f2.trans f3).trans f5).trans f6).at k2 id
 have rr:=rd_d Tryz.agg23 Tryz.sz23 k16 hroot
 have q7:=wr_d Tryz.sz23 k26 zl32 hroot
 have r7:=rd_d Tryz.agg23 Tryz.sz23 (put_at (o:=.cells (bl root) 23 (0,0)) k26) hroot
 simp -implicitDefEqProofs only[go_sem,Nat.reduceEqDiff,Nat.reduceBEq,Nat.reduceAdd,gLa,gLz,gLs,bne_self_eq_false,beq_self_eq_true,rr,q7,r7]
 exact f06.put (b:=w0.heap.size+1) _ fun h=>by omega
/-- a gathering of nothing -/
theorem gather00 (w0 : World) (ht : Tabs w0) {root : Bs} (hroot : root.length = 32) :
    Fn Tryz.prog 34 #[.int .i64 4,dg root,.slice Option.none 0 0,.slice Option.none 0 0] w0 fun v w' => v = .tuple #[.slice Option.none 0 0,.int .i64 0] ∧ No w0 w' := by
 refine Tryz.go34 (by simp) ?_
 obtain⟨W,hW,f1,k1,s1⟩:=allocs1 w0 (bl root) 23
 simp -implicitDefEqProofs only[go_sem,Nat.reduceEqDiff,Nat.reduceBEq,Nat.reduceAdd,gLa,gLz,gLs,Tryz.f34,Value.cells,hW]
 refine contL_call Tryz.pl46 ((sorted W 4 (kv:=.slice Option.none 0 0) (ks:=[]) (NwD.nil W W 34).rd).mono ?_)
 rintro r w2 ⟨f2,h2⟩
 have hsn:Wit.sortW 4 []=.ok []:=rfl
 rw[hsn] at h2
 obtain⟨lv,rfl,n2⟩:=h2
 have f02:=f1.trans f2
 obtain⟨la,lc,rfl,_⟩:=n2.rd.slice
 have d0:(((0:Nat):Int) != ((0:Nat):Int))=false:=rfl
 obtain⟨W3,hW3⟩:∃ W3,w2.alloc (.map #[] 0)=W3:=⟨_,rfl⟩
 have f3:No w2 W3:=by rw[← hW3];exact (Fr.refl _ _).alloc _
 have f03:=f02.trans f3
 simp -implicitDefEqProofs only[go_sem,Nat.reduceEqDiff,Nat.reduceBEq,Nat.reduceAdd,gLa,gLz,gLs,bne_self_eq_false,d0,hW3]
 refine contL_call Tryz.pl64 ((V.empties W3 (ht.no f03) 4).mono ?_)
 rintro ev w4 ⟨_,f4⟩
 have f04:=f03.trans f4
 simp -implicitDefEqProofs only[go_sem,Nat.reduceEqDiff,Nat.reduceBEq,Nat.reduceAdd,gLa,gLz,gLs]
 refine loopD [10,41,42] (fun n vs w=>n=0∧vs=[.slice la ([]:List Bs).length lc,.int .i64 ((0:Nat):Int),.int .i64 0]∧w=w4) 0 ⟨rfl,rfl,rfl⟩ ?_
 rintro _ vs w g ⟨rfl,rfl,rfl⟩
 have d1:decide ((0:Int)<((0:Nat):Int))=false:=rfl
 have d2:(((([]:List Bs).length:Nat):Int) == 0)=true:=rfl
 simp -implicitDefEqProofs only[go_sem,Nat.reduceEqDiff,Nat.reduceBEq,Nat.reduceAdd,gLa,gLz,gLs,d1,d2]
 exact f04
end Go.V
end
section
namespace Go.V
open Go.Proofs Sha
set_option maxRecDepth 100000
def smI (w0:World) (av bv:Value) (a b:Bs) (n:Nat) (vs:List Value) (w:World):Prop :=
 ∃ (i:Nat),vs=[av,bv,.int .i64 (i:Nat)]∧i≤a.length∧n=a.length - i∧(∀ j,j<i→a.getD j 0=b.getD j 0)∧No w0 w
theorem same (w0:World) {av bv:Value} {a b:Bs} (ha:By w0 av a) (hb:By w0 bv b) (hl:a.length≤2 ^ 50):Fn Tryz.prog 26 #[av,bv] w0 fun v w'=>v=.bool (decide (a=b))∧No w0 w':=by
 refine Tryz.go26 (by simp) ?_
 obtain⟨aa,ac,rfl,hac⟩:=ha.slice
 obtain⟨ba,bc,rfl,hbc⟩:=hb.slice
 by_cases hlen:a.length=b.length
 ·have d1:(((a.length:Nat):Int) != ((b.length:Nat):Int))=false:=by rw[hlen];simp
  simp -implicitDefEqProofs only[go_sem,Nat.reduceEqDiff,Nat.reduceBEq,Nat.reduceAdd,gLa,gLz,gLs,Tryz.f26,d1]
  refine loopD [0,1,5] (smI w0 (.slice aa a.length ac) (.slice ba b.length bc) a b) a.length ⟨0,rfl,by omega,rfl,fun j h=>absurd h (by omega),Fr.refl _ _⟩ ?_
  rintro _ vs w g ⟨i,rfl,hi,rfl,hs,f⟩
  by_cases hlt:i<a.length
  ·have d2:decide ((i:Int)<((a.length:Nat):Int))=true:=by simp;omega
   have y1:(0:Int)≤(i:Int)∧(i:Int)<((a.length:Nat):Int):=by omega
   have y2:(0:Int)≤(i:Int)∧(i:Int)<((b.length:Nat):Int):=by omega
   have c1:IntKind.i64.wrap ((i:Int)+1)=((i+1:Nat):Int):=i64add (b:=1) (by omega)
   obtain⟨b1,o1,cap1,he,r1⟩:=(ha.fr0 f).rd1 hlt
   cases he
   obtain⟨b2,o2,cap2,he,r2⟩:=(hb.fr0 f).rd1 (i:=i) (by omega)
   cases he
   have r1d:rdO Tryz.prog 5 w.drew b1 (o1+i)=_:=r1
   have r2d:rdO Tryz.prog 5 w.drew b2 (o2+i)=_:=r2
   by_cases he:a.getD i 0=b.getD i 0
   ·have d3:(((a.getD i 0).toNat:Int) != ((b.getD i 0).toNat:Int))=false:=by rw[he];simp
    simp -implicitDefEqProofs only[go_sem,Nat.reduceEqDiff,Nat.reduceBEq,Nat.reduceAdd,gLa,gLz,gLs,d2,decide_true,y1,y2,and_self,Int.toNat_natCast,Nat.mul_one,r1,r2,r1d,r2d,d3,c1]
    refine⟨a.length - (i+1),by omega,i+1,rfl,by omega,rfl,fun j hj=>?_,f.drew⟩
    rcases Nat.lt_or_ge j i with h | h
    ·exact hs j h
    ·obtain rfl:j=i:=by omega
     exact he
   ·have d3 : (((a.getD i 0).toNat : Int) != ((b.getD i 0).toNat : Int)) = true := by
      rw [bne_iff_ne]; intro h
      exact he (BitVec.eq_of_toNat_eq (by omega))
    simp -implicitDefEqProofs only[go_sem,Nat.reduceEqDiff,Nat.reduceBEq,Nat.reduceAdd,gLa,gLz,gLs,d2,decide_true,y1,y2,and_self,Int.toNat_natCast,Nat.mul_one,r1,r2,r1d,r2d,d3]
    rw[decide_eq_false (fun h=>he (by rw[h]))]
    exact⟨rfl,f.drew⟩
  ·have d2:decide ((i:Int)<((a.length:Nat):Int))=false:=by simp;omega
   obtain rfl:i=a.length:=by omega
   have heq:a=b:=List.ext_getElem hlen fun j h1 h2=>by have:=hs j h1;rwa [getD_lt _ h1,getD_lt _ h2] at this
   simp -implicitDefEqProofs only[go_sem,Nat.reduceEqDiff,Nat.reduceBEq,Nat.reduceAdd,gLa,gLz,gLs,d2]
   rw[decide_eq_true heq]
   exact⟨rfl,f⟩
 ·have d1:(((a.length:Nat):Int) != ((b.length:Nat):Int))=true:=by rw[bne_iff_ne];omega
  simp -implicitDefEqProofs only[go_sem,Nat.reduceEqDiff,Nat.reduceBEq,Nat.reduceAdd,gLa,gLz,gLs,Tryz.f26,d1]
  rw[decide_eq_false (fun h=>hlen (by rw[h]))]
  exact⟨rfl,Fr.refl _ _⟩
theorem acells_at:∀ (ps:List (Bool × Value)) (i:Nat) (h:i<ps.length),(acells ps)[i*2]?=some (.bool ps[i].1)∧(acells ps)[i*2+1]?=some ps[i].2
 | p::ps,0,_=>⟨rfl,rfl⟩
 | p::ps,i+1,h=>by
  have:=acells_at ps i (by simpa using h)
  have e:acells (p::ps)=.bool p.1::p.2::acells ps:=rfl
  rw[e,Nat.add_mul]
  simpa using this
theorem AnL.at {w : World} {v : Value} {an : List (Option Bs)} (h : AnL w v an) {i : Nat} (hi : i < an.length) : ∃ b o cap vv, v = .slice (some ⟨b, o, Option.none⟩) an.length cap ∧ By w vv ((an.getD i none).getD []) ∧
    ∀ w',No w w' → rdO Tryz.prog 4 w' b (o + i * 2) = some (.bool (an.getD i none).isSome) ∧ rdO Tryz.prog 25 w' b (o + i * 2 + 1) = some vv := by
 obtain⟨ps,hp,hl,a,cap,rfl,hc,hat⟩:=h
 have hil:i<ps.length:=by rw[hp.1];exact hi
 obtain⟨b,o,rfl,hat2⟩:=hat (by omega)
 obtain⟨h1,h2,h3⟩:=hp.2 i hil hi
 have hgd:an.getD i none=an[i]:=getD_lt _ hi
 rw[hgd]
 refine⟨b,o,cap,ps[i].2,by rw[hp.1],h3,fun w' k=>?_⟩
 obtain⟨c1,c2⟩:=acells_at ps i hil
 have hb:b<w.heap.size:=by
  have:=hat2 (i*2) (by omega)
  rw[c1] at this
  exact rc_lt this
 constructor
 ·refine rd_rc Tryz.agg4 ?_
  rw[k.rc hb id,hat2 _ (by omega),c1,h1]
 ·refine rd_rc Tryz.agg25 ?_
  rw[k.rc hb id,Nat.add_assoc,hat2 _ (by omega),c2]
end Go.V
end
section
namespace Go.V
open Go.Proofs Sha
set_option maxRecDepth 100000
theorem nextcap16_le {n m cap:Nat} (h:n≤cap) (h2:cap<n+m) (hm:m≤64):Builtin.nextslicecap (n+m) cap≤n+n / 4+1024:=by
 unfold Builtin.nextslicecap
 split
 ·omega
 ·split
  ·omega
  ·simp only[Builtin.growBy]
   rw[if_neg (by omega),if_pos (by omega)]
   omega
theorem NwB.growY {w0 w : World} {v : Value} {bs : Bs} (hv : NwB w0 w v bs) (x : Byte) (hl : bs.length ≤ 2 ^ 47) (f : No w0 w) :
    ∃ v' w',(Builtin.append_ #[25,25] 0 #[v,.slice (some ⟨w.heap.size,0,none⟩) 1 1]).run Tryz.prog (w.alloc (.cells (bl [x]) 5)) = .ok v' w' ∧ NwB w0 w' v' (bs ++ [x]) ∧ No w0 w' ∧ Fr (fun b => blockOf v = some b) w w' ∧
      ∀ b,blockOf v' = some b → blockOf v = some b ∨ w.heap.size ≤ b := by
 obtain⟨v',w',hr,h1,h2,h3,h4⟩:=app_fresh Tryz.app25_25 hv (m:=1) (xs:=bl [x]) (by simp) rfl (by omega) (bd_one (by omega)) (by omega) f
 refine⟨v',w',hr,?_,h2,h3,h4⟩
 unfold NwB
 rw[List.length_append,List.map_append];exact h1
def shI (w0:World) (vv:Value) (bs:Bs) (n:Nat) (vs:List Value) (w:World):Prop :=
 ∃ (i:Nat) (v:Value),vs=[vv,.int .i64 (bs.length:Nat),v,.int .i64 (i:Nat)]∧i≤bs.length∧n=bs.length - i∧NwB w0 w v (bs.take i)∧No w0 w
theorem short (w0:World) {vv:Value} {bs:Bs} (hv:By w0 vv bs) (hl:bs.length≤2 ^ 47):Fn Tryz.prog 45 #[vv,.int .i64 (bs.length:Nat)] w0 fun v w'=>NwB w0 w' v bs∧No w0 w':=by
 refine Tryz.go45 (by simp) ?_
 obtain⟨va,vc,rfl,hcap⟩:=hv.slice
 simp -implicitDefEqProofs only[go_sem,Nat.reduceEqDiff,Nat.reduceBEq,Nat.reduceAdd,gLa,gLz,gLs,Tryz.f45]
 refine loopD [0,1,5,6] (shI w0 (.slice va bs.length vc) bs) bs.length ⟨0,_,rfl,by omega,rfl,NwB.nil _ _,Fr.refl _ _⟩ ?_
 rintro _ vs w3 g ⟨i,v,rfl,hi,rfl,b3,f3⟩
 by_cases hlt:i<bs.length
 ·have d1:decide ((i:Int)<((bs.length:Nat):Int))=true:=by simp;omega
  have c1:IntKind.i64.wrap ((i:Int)+1)=((i+1:Nat):Int):=i64add (b:=1) (by omega)
  have y:(0:Int)≤(i:Int)∧(i:Int)<((bs.length:Nat):Int):=by omega
  obtain⟨b,o,cap,he,r⟩:=(hv.fr0 f3).rd1 hlt
  cases he
  have hsn:=R.take_snoc (l:=bs) (i:=i) hlt
  obtain⟨v4,w4,hr4,b4,f4,g4,_⟩:=NwB.growY b3 (bs.getD i 0) (by rw[List.length_take];omega) f3
  rw[hsn] at b4
  generalize bs.getD i 0=x at *
  simp -implicitDefEqProofs only[go_sem,Nat.reduceEqDiff,Nat.reduceBEq,Nat.reduceAdd,gLa,gLz,gLs,d1,decide_true,ft_beq,tf_beq,beq_self_eq_true,y,and_self,Int.toNat_natCast,Nat.mul_one,r]
  refine contL_is (v:=.slice (some ⟨w3.heap.size,0,none⟩) 1 1) (w':=w3.alloc (.cells (bl [x]) 5)) rfl ?_
  simp -implicitDefEqProofs only[go_sem,Nat.reduceEqDiff,Nat.reduceBEq,Nat.reduceAdd,gLa,gLz,gLs]
  refine contL_sem ⟨v4,w4,hr4,?_⟩
  simp -implicitDefEqProofs only[go_sem,Nat.reduceEqDiff,Nat.reduceBEq,Nat.reduceAdd,gLa,gLz,gLs,c1]
  exact⟨bs.length - (i+1),by omega,i+1,v4,rfl,by omega,rfl,b4,f4⟩
 ·have d1:decide ((i:Int)<((bs.length:Nat):Int))=false:=by simp;omega
  have e:i=bs.length:=by omega
  subst e
  rw[List.take_length] at b3
  simp -implicitDefEqProofs only[go_sem,Nat.reduceEqDiff,Nat.reduceBEq,Nat.reduceAdd,gLa,gLz,gLs,d1,ft_beq,tf_beq,beq_self_eq_true]
  exact⟨b3,f3⟩
theorem copied (w0:World) {vv:Value} {bs:Bs} (hv:By w0 vv bs) (hl:bs.length≤2 ^ 47):Fn Tryz.prog 22 #[vv] w0 fun v w'=>NwB w0 w' v bs∧No w0 w':=by
 refine Tryz.go22 (by simp) ?_
 obtain⟨va,vc,rfl,hcap⟩:=hv.slice
 simp -implicitDefEqProofs only[go_sem,Nat.reduceEqDiff,Nat.reduceBEq,Nat.reduceAdd,gLa,gLz,gLs,Tryz.f22]
 refine contL_call Tryz.pl45 ((short w0 hv hl).mono ?_)
 rintro v w2 ⟨n2,f2⟩
 simp -implicitDefEqProofs only[go_sem,Nat.reduceEqDiff,Nat.reduceBEq,Nat.reduceAdd,gLa,gLz,gLs]
 exact⟨n2,f2⟩
/-- a text's place -/
def tv (q:Nat × Nat × Nat) (n:Nat):Value:=.slice (some ⟨q.1,q.2.1,Option.none⟩) n q.2.2
abbrev T16:Bs:=List.replicate 16 2
theorem cutV_zero {sz:Nat} {q:Nat × Nat × Nat} {m:Nat} (hc:0<q.2.2):cutV sz (some ⟨q.1,q.2.1,Option.none⟩) q.2.2 0 m=tv q m:=by
 unfold cutV tv
 rw[if_neg (by omega),Option.map_some,Nat.zero_mul,add_off,Nat.add_zero,Nat.sub_zero,Nat.sub_zero]
theorem roomy (w0:World) {vv:Value} {bs:Bs} (hv:By w0 vv bs) (hl:bs.length≤2 ^ 47):Fn Tryz.prog 30 #[vv] w0 fun r w'=>No w0 w'∧∃ q,r=.tuple #[tv q bs.length,tv q (bs.length+16)]∧NwB w0 w' (tv q (bs.length+16)) (bs++T16):=by
 refine Tryz.go30 (by simp) ?_
 simp -implicitDefEqProofs only[go_sem,Nat.reduceEqDiff,Nat.reduceBEq,Nat.reduceAdd,gLa,gLz,gLs,Tryz.f30]
 refine contL_call Tryz.pl22 ((copied w0 hv hl).mono ?_)
 intro v w2 hn
 have n2:=hn.1
 have f2:=hn.2
 clear hn
 simp -implicitDefEqProofs only[go_sem,Nat.reduceEqDiff,Nat.reduceBEq,Nat.reduceAdd,gLa,gLz,gLs]
 refine contL_is (v:=.slice (some ⟨w2.heap.size,0,Option.none⟩) 16 16) (w':=w2.alloc (.cells (bl T16) 5)) (by kernel_rfl) ?_
 obtain⟨v3,w3,hr3,b3,f3,_⟩:=NwB.push (P:=Tryz.prog) Tryz.app25_25 n2 T16 (fun cap h1 h2=>by
  have:(T16).length=16:=rfl
  rw[this] at h2 ⊢
  have:=nextcap16_le h1 h2 (by decide)
  omega) (by have:(T16).length=16:=rfl;omega) f2
 have hl3:(bs++T16).length=bs.length+16:=by simp
 obtain⟨b,o,cap,rfl,hq⟩:=b3.by.pos (by omega)
 rw[hl3] at hq b3 hr3
 simp -implicitDefEqProofs only[go_sem,Nat.reduceEqDiff,Nat.reduceBEq,Nat.reduceAdd,gLa,gLz,gLs]
 refine contL_sem ⟨_,w3,hr3,?_⟩
 have c1:IntKind.i64.wrap (((bs.length+16:Nat):Int) - 16)=((bs.length:Nat):Int):=by
  have:=i64sub (a:=bs.length+16) (b:=16) (by omega) (by omega)
  rw[Nat.add_sub_cancel] at this
  exact this
 have p1:=slc_hi (P:=Tryz.prog) Tryz.slc25 Tryz.arr25 Tryz.sz5 (a:=some (⟨b,o,Option.none⟩:Addr)) (n:=bs.length+16) (cap:=cap) (l:=bs.length) (by omega) hq
 have e:=cutV_zero (sz:=1) (q:=(b,o,cap)) (m:=bs.length) (show 0<cap by omega)
 rw[e] at p1
 simp -implicitDefEqProofs only[go_sem,Nat.reduceEqDiff,Nat.reduceBEq,Nat.reduceAdd,gLa,gLz,gLs,c1,p1]
 exact⟨f3,(b,o,cap),rfl,b3⟩
def K9:Bs:=[9,9,9]++List.replicate 29 0
theorem bldK9:bldO Tryz.prog 34 [(0,.int .u8 9),(1,.int .u8 9),(2,.int .u8 9)]=some (dg K9):=by kernel_rfl
def koI (w0:World) (kv:Value) (ks:List Bs) (n:Nat) (vs:List Value) (w:World):Prop :=
 ∃ (i:Nat) (v:Value),vs=[kv,v,.int .i64 (i:Nat)]∧i≤ks.length∧n=ks.length - i∧NwD w0 w 34 v (ks.take i)∧No w0 w
set_option maxHeartbeats 1000000 in
theorem keysOf (w0:World) {kv:Value} {ks:List Bs} (hk:RdD w0 kv ks) (hl:ks.length≤2 ^ 42):Fn Tryz.prog 29 #[kv] w0 fun r w'=>No w0 w'∧∃ q,r=.tuple #[tv q ks.length,tv q (ks.length+1)]∧NwD w0 w' 34 (tv q (ks.length+1)) (ks++[K9]):=by
 refine Tryz.go29 (by simp) ?_
 obtain⟨ka,kc,rfl,hkc⟩:=hk.slice
 simp -implicitDefEqProofs only[go_sem,Nat.reduceEqDiff,Nat.reduceBEq,Nat.reduceAdd,gLa,gLz,gLs,Tryz.f29]
 refine loopD [0,4,5] (koI w0 (.slice ka ks.length kc) ks) ks.length ⟨0,_,rfl,by omega,rfl,NwD.nil _ _ _,Fr.refl _ _⟩ ?_
 rintro _ vs w3 g ⟨i,v,rfl,hi,rfl,b3,f3⟩
 by_cases hlt:i<ks.length
 ·have d1:decide ((i:Int)<((ks.length:Nat):Int))=true:=by simp;omega
  have c1:IntKind.i64.wrap ((i:Int)+1)=((i+1:Nat):Int):=i64add (b:=1) (by omega)
  have y:(0:Int)≤(i:Int)∧(i:Int)<((ks.length:Nat):Int):=by omega
  have hk3:=hk.fr0 f3
  obtain⟨b,o,cap,he,_,_⟩:=hk3.pos (by omega)
  cases he
  have r:=hk3.get (P:=Tryz.prog) Tryz.agg34 Tryz.sz34 hlt
  have hd:=hk.1.getD hlt
  have hst:ks.take (i+1)=ks.take i++[ks.getD i []]:=by rw[List.take_succ_eq_append_getElem hlt,getD_lt _ hlt]
  generalize ks.getD i []=d at *
  simp -implicitDefEqProofs only[go_sem,Nat.reduceEqDiff,Nat.reduceBEq,Nat.reduceAdd,gLa,gLz,gLs,d1,y,and_self,Int.toNat_natCast,r]
  refine contL_is (v:=.slice (some ⟨w3.heap.size,0,Option.none⟩) 1 1) (w':=w3.alloc (.cells (bl d) 34)) (fill_one2 (y:=List.map u8 (List.replicate 32 0)) (by simp) (c:=bl (List.replicate 32 0)) (by simp) (d:=d) hd _) ?_
  obtain⟨v4,w4,hr4,b4,f4,g4,h4⟩:=b3.push Tryz.app24_24 hd (by rw[List.length_take];omega) f3
  rw[← hst] at b4
  simp -implicitDefEqProofs only[go_sem,Nat.reduceEqDiff,Nat.reduceBEq,Nat.reduceAdd,gLa,gLz,gLs]
  refine contL_sem ⟨v4,w4,hr4,?_⟩
  simp -implicitDefEqProofs only[go_sem,Nat.reduceEqDiff,Nat.reduceBEq,Nat.reduceAdd,gLa,gLz,gLs,c1]
  exact⟨ks.length - (i+1),by omega,i+1,v4,rfl,by omega,rfl,b4,f4⟩
 ·have d1:decide ((i:Int)<((ks.length:Nat):Int))=false:=by simp;omega
  obtain rfl:i=ks.length:=by omega
  rw[List.take_length] at b3
  have hd:K9.length=32:=rfl
  simp -implicitDefEqProofs only[go_sem,Nat.reduceEqDiff,Nat.reduceBEq,Nat.reduceAdd,gLa,gLz,gLs,d1,bldK9]
  refine contL_is (v:=.slice (some ⟨w3.heap.size,0,Option.none⟩) 1 1) (w':=w3.alloc (.cells (bl K9) 34)) (fill_one2 (y:=List.map u8 (List.replicate 32 0)) (by simp) (c:=bl (List.replicate 32 0)) (by simp) (d:=K9) hd _) ?_
  obtain⟨v4,w4,hr4,b4,f4,g4,h4⟩:=b3.push Tryz.app24_24 hd (by omega) f3
  have hl4:(ks++[K9]).length=ks.length+1:=by simp
  obtain⟨b,o,cap,rfl,hq,_⟩:=b4.rd.pos (by omega)
  rw[hl4] at hq b4 hr4
  have c1:IntKind.i64.wrap (((ks.length+1:Nat):Int) - 1)=((ks.length:Nat):Int):=by
   have:=i64sub (a:=ks.length+1) (b:=1) (by omega) (by omega)
   rw[Nat.add_sub_cancel] at this
   exact this
  have p1:=slc_hi (P:=Tryz.prog) Tryz.slc24 Tryz.arr24 Tryz.sz34 (a:=some (⟨b,o,Option.none⟩:Addr)) (n:=ks.length+1) (cap:=cap) (l:=ks.length) (by omega) hq
  have e:=cutV_zero (sz:=32) (q:=(b,o,cap)) (m:=ks.length) (show 0<cap by omega)
  rw[e] at p1
  simp -implicitDefEqProofs only[go_sem,Nat.reduceEqDiff,Nat.reduceBEq,Nat.reduceAdd,gLa,gLz,gLs]
  refine contL_sem ⟨_,w4,hr4,?_⟩
  simp -implicitDefEqProofs only[go_sem,Nat.reduceEqDiff,Nat.reduceBEq,Nat.reduceAdd,gLa,gLz,gLs,c1,p1]
  exact⟨f4,(b,o,cap),rfl,b4⟩
end Go.V
end
section
namespace Go.V
open Go.Proofs Sha
set_option maxRecDepth 100000
theorem NwB.setB {w0 w : World} {b o n cap : Nat} {bs : Bs} (h : NwB w0 w (.slice (some ⟨b, o, none⟩) n cap) bs) {i : Nat} (hi : i < bs.length) (x : Byte) :
    ∃ w',wrO Tryz.prog 5 w b (o + i) (u8 x) = some w' ∧ NwB w0 w' (.slice (some ⟨b,o,none⟩) n cap) (bs.set i x) ∧ Fr (fun c => c = b) w w' := by
 obtain⟨hown,hnew⟩:=h
 have hn:=By.len (Nw.rd ⟨hown,hnew⟩:By w _ bs)
 subst hn
 rcases hown with ⟨he,_⟩ | ⟨b',o',cap',c,he,hb,hc,hncap,hl,hat⟩
 ·cases he
 ·cases he
  refine⟨_,wr1 Tryz.sz5 rfl hb (by omega),⟨.inr ⟨b,o,cap,c.setIfInBounds (o+i) (u8 x),by rw[List.length_set],put_at hb,by rw[Array.size_setIfInBounds];exact hc,by rw[List.length_set];exact hncap,by simp,fun j hj=>?_⟩,hnew⟩,(Fr.refl _ _).put (b:=b) _ fun _=>rfl⟩
  rw[List.length_set] at hj
  rw[Array.getElem?_setIfInBounds,List.map_set,List.getElem?_set,List.length_map]
  by_cases h2:i=j
  ·subst h2
   rw[if_pos rfl,if_pos rfl,if_pos (by omega),if_pos hi]
  ·rw[if_neg (by omega),if_neg h2,hat j hj]
theorem RdD.fr' {F:Nat→Prop} {w w':World} {v:Value} {ds:List Bs} (h:RdD w v ds) (k:Fr F w w') (hf:ds≠[]→∀ b,blockOf v=some b→¬ F b):RdD w' v ds:=by
 by_cases he:ds=[]
 ·subst he
  obtain⟨h0,h1,a,cap,rfl,h2,_⟩:=h
  exact⟨h0,h1,a,cap,rfl,h2,fun h=>by simp at h⟩
 ·exact h.fr k fun b hb _=>hf he b hb
def plI (u w0:World) (q:Nat × Nat × Nat) (xv:Value) (xs t:Bs) (n:Nat) (vs:List Value) (w:World):Prop :=
 ∃ (i:Nat),vs=[tv q t.length,xv,.int .i64 (i:Nat)]∧i≤t.length∧n=t.length - i∧NwB u w (tv q (t.length+16)) (xs.take i++t.drop i++T16)∧Fr (fun b=>b=q.1) w0 w
theorem place (u w0 : World) {q : Nat × Nat × Nat} {t : Bs} (h : NwB u w0 (tv q (t.length + 16)) (t ++ T16)) {xv : Value} {xs : Bs} (hx : By w0 xv xs) (hxl : xs.length = t.length) (hne : xs ≠ [] → ∀ b, blockOf xv = some b → b ≠ q.1) (hl : t.length ≤ 2 ^ 50) :
    Fn Tryz.prog 39 #[tv q t.length,xv] w0 fun r w' => r = .tuple #[] ∧ NwB u w' (tv q (t.length + 16)) (xs ++ T16) ∧ Fr (fun b => b = q.1) w0 w' := by
 refine Tryz.go39 (by simp) ?_
 obtain⟨xa,xc,rfl,hcap⟩:=hx.slice
 simp -implicitDefEqProofs only[go_sem,Nat.reduceEqDiff,Nat.reduceBEq,Nat.reduceAdd,gLa,gLz,gLs,Tryz.f39]
 refine loopD [0,1,4] (plI u w0 q (.slice xa xs.length xc) xs t) t.length ⟨0,rfl,by omega,rfl,by rw[List.take_zero,List.nil_append,List.drop_zero];exact h,Fr.refl _ _⟩ ?_
 rintro _ vs w g ⟨i,rfl,hi,rfl,h3,f3⟩
 by_cases hlt:i<t.length
 ·have d1:decide ((i:Int)<((t.length:Nat):Int))=true:=by simp;omega
  have d2:decide ((i:Int)<((xs.length:Nat):Int))=true:=by simp;omega
  have c1:IntKind.i64.wrap ((i:Int)+1)=((i+1:Nat):Int):=i64add (b:=1) (by omega)
  have y1:(0:Int)≤(i:Int)∧(i:Int)<((t.length:Nat):Int):=by omega
  have y2:(0:Int)≤(i:Int)∧(i:Int)<((xs.length:Nat):Int):=by omega
  obtain⟨b,o,cap,he,r⟩:=(hx.fr' f3 hne).rd1 (i:=i) (by omega)
  cases he
  obtain⟨w4,q4,h4,f4⟩:=h3.setB (i:=i) (by simp;omega) (xs.getD i 0)
  have hst:(xs.take i++t.drop i++T16).set i (xs.getD i 0)=xs.take (i+1)++t.drop (i+1)++T16:=by
   rw[List.append_assoc,List.set_append_right _ _ (by rw[List.length_take];omega),List.length_take,Nat.min_eq_left (by omega),Nat.sub_self,List.drop_eq_getElem_cons hlt,List.cons_append,List.set_cons_zero,← R.take_snoc (l:=xs) (i:=i) (by omega),List.append_assoc,List.append_assoc]
   rfl
  rw[hst] at h4
  unfold tv at *
  simp -implicitDefEqProofs only[go_sem,Nat.reduceEqDiff,Nat.reduceBEq,Nat.reduceAdd,gLa,gLz,gLs,d1,d2,decide_true,ft_beq,tf_beq,beq_self_eq_true,y1,y2,and_self,Int.toNat_natCast,Nat.mul_one,r,q4,c1]
  exact⟨t.length - (i+1),by omega,i+1,rfl,by omega,rfl,h4,f3.trans f4⟩
 ·have d1:decide ((i:Int)<((t.length:Nat):Int))=false:=by simp;omega
  obtain rfl:i=t.length:=by omega
  rw[List.drop_length,List.append_nil,List.take_of_length_le (by omega)] at h3
  unfold tv at *
  simp -implicitDefEqProofs only[go_sem,Nat.reduceEqDiff,Nat.reduceBEq,Nat.reduceAdd,gLa,gLz,gLs,d1,ft_beq,tf_beq,beq_self_eq_true]
  exact⟨h3,f3⟩
def kpI (u w0:World) (q:Nat × Nat × Nat) (xv:Value) (xs t:List Bs) (n:Nat) (vs:List Value) (w:World):Prop :=
 ∃ (i:Nat),vs=[tv q t.length,xv,.int .i64 (i:Nat)]∧i≤t.length∧n=t.length - i∧NwD u w 34 (tv q (t.length+1)) (xs.take i++t.drop i++[K9])∧Fr (fun b=>b=q.1) w0 w
theorem keysPlaced (u w0 : World) {q : Nat × Nat × Nat} {t : List Bs} (h : NwD u w0 34 (tv q (t.length + 1)) (t ++ [K9])) {xv : Value} {xs : List Bs} (hx : RdD w0 xv xs) (hxl : xs.length = t.length) (hne : xs ≠ [] → ∀ b, blockOf xv = some b → b ≠ q.1) (hl : t.length ≤ 2 ^ 50) :
    Fn Tryz.prog 38 #[tv q t.length,xv] w0 fun r w' => r = .tuple #[] ∧ NwD u w' 34 (tv q (t.length + 1)) (xs ++ [K9]) ∧ Fr (fun b => b = q.1) w0 w' := by
 refine Tryz.go38 (by simp) ?_
 obtain⟨xa,xc,rfl,hcap⟩:=hx.slice
 simp -implicitDefEqProofs only[go_sem,Nat.reduceEqDiff,Nat.reduceBEq,Nat.reduceAdd,gLa,gLz,gLs,Tryz.f38]
 refine loopD [0,1,4] (kpI u w0 q (.slice xa xs.length xc) xs t) t.length ⟨0,rfl,by omega,rfl,by rw[List.take_zero,List.nil_append,List.drop_zero];exact h,Fr.refl _ _⟩ ?_
 rintro _ vs w g ⟨i,rfl,hi,rfl,h3,f3⟩
 by_cases hlt:i<t.length
 ·have d1:decide ((i:Int)<((t.length:Nat):Int))=true:=by simp;omega
  have d2:decide ((i:Int)<((xs.length:Nat):Int))=true:=by simp;omega
  have c1:IntKind.i64.wrap ((i:Int)+1)=((i+1:Nat):Int):=i64add (b:=1) (by omega)
  have y1:(0:Int)≤(i:Int)∧(i:Int)<((t.length:Nat):Int):=by omega
  have y2:(0:Int)≤(i:Int)∧(i:Int)<((xs.length:Nat):Int):=by omega
  have hx3:=hx.fr' f3 hne
  obtain⟨b,o,cap,he,_,_⟩:=hx3.pos (by omega)
  cases he
  have r:=hx3.get (P:=Tryz.prog) Tryz.agg34 Tryz.sz34 (i:=i) (by omega)
  have hd:(xs.getD i []).length=32:=hx.1.getD (by omega)
  obtain⟨w4,q4,h4,f4⟩:=NwD.set (b:=q.1) (o:=q.2.1) h3 (P:=Tryz.prog) Tryz.sz34 (i:=i) (by simp;omega) hd
  have hst:(xs.take i++t.drop i++[K9]).set i (xs.getD i [])=xs.take (i+1)++t.drop (i+1)++[K9]:=by
   rw[List.append_assoc,List.set_append_right _ _ (by rw[List.length_take];omega),List.length_take,Nat.min_eq_left (by omega),Nat.sub_self,List.drop_eq_getElem_cons hlt,List.cons_append,List.set_cons_zero,List.take_succ_eq_append_getElem (show i<xs.length by omega),getD_lt _ (show i<xs.length by omega),List.append_assoc,List.append_assoc]
   rfl
  rw[hst] at h4
  unfold tv at *
  simp -implicitDefEqProofs only[go_sem,Nat.reduceEqDiff,Nat.reduceBEq,Nat.reduceAdd,gLa,gLz,gLs,d1,d2,decide_true,ft_beq,tf_beq,beq_self_eq_true,y1,y2,and_self,Int.toNat_natCast,Nat.mul_one,r,q4,c1]
  exact⟨t.length - (i+1),by omega,i+1,rfl,by omega,rfl,h4,f3.trans f4⟩
 ·have d1:decide ((i:Int)<((t.length:Nat):Int))=false:=by simp;omega
  obtain rfl:i=t.length:=by omega
  rw[List.drop_length,List.append_nil,List.take_of_length_le (by omega)] at h3
  unfold tv at *
  simp -implicitDefEqProofs only[go_sem,Nat.reduceEqDiff,Nat.reduceBEq,Nat.reduceAdd,gLa,gLz,gLs,d1,ft_beq,tf_beq,beq_self_eq_true]
  exact⟨h3,f3⟩
theorem By.pre {w:World} {q:Nat × Nat × Nat} {t r:Bs} {n:Nat} (h:By w (tv q n) (t++r)):By w (tv q t.length) t:=by
 obtain⟨hl,a,cap,he,hc,hat⟩:=h
 unfold tv at he
 cases he
 rw[List.length_append] at hc hat
 refine⟨by simp,_,_,rfl,by omega,fun h0=>?_⟩
 obtain⟨b,o,e,hat⟩:=hat (by omega)
 refine⟨b,o,e,fun i hi=>?_⟩
 rw[hat i (by omega),List.map_append,List.getElem?_append_left (by rw[List.length_map];omega)]
end Go.V
end
