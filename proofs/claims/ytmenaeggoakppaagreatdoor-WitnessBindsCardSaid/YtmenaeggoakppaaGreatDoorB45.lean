/-
 Helpers: LawO.
-/
import Derived.Test.YtmenaeggoakppaaGreatDoorB44
set_option linter.all false
section
namespace Go.V
open Go.Proofs Sha
set_option maxRecDepth 100000
theorem ExQ.none {w0 w':World} {o:Option (Bs × Bs)} {r:Value} (h:ExQ w0 o r w') (ho:o=Option.none):No w0 w'∧r=.tuple #[.slice Option.none 0 0,.slice Option.none 0 0,.bool false]:=by subst ho;exact h
theorem ExQ.some {w0 w':World} {o:Option (Bs × Bs)} {r:Value} (h:ExQ w0 o r w') {x y:Bs} (ho:o=Option.some (x,y)):No w0 w'∧∃ xv yv,r=.tuple #[xv,yv,.bool true]∧By w' xv x∧By w' yv y:=by subst ho;exact h
def bnI (w1:World) (wd:Int) (cb db:Nat) (n:Nat) (vs:List Value) (w:World):Prop :=
 ∃ i:Nat,vs=[.int .i64 wd,pt cb 0,pt db 0,.int .i64 (i:Nat)]∧(i:Int)≤wd∧n=wd.toNat - i∧No w1 w
set_option maxHeartbeats 4000000 in
theorem lawBinds (w : World) (ht : Tabs w) (n : Int) {root : Bs} (hroot : root.length = 32) {kv pv qv : Value} {ks : List Bs} {p q : Bs} (hk : RdD w kv ks) (hp : By w pv p) (hq : By w qv q) (hl : ks.length ≤ 2 ^ 42) (hpl : p.length ≤ 2 ^ 47) (hql : q.length ≤ 2 ^ 47) :
    Fn Tryz.prog 8 #[.int .i64 n,dg root,kv,pv,qv] w fun v w' => v = .bool true ∧ No w w' := by
 refine Tryz.go8 (by simp) ?_
 obtain⟨W,hW,f1,k1,s1⟩:=allocs1 w (bl root) 23
 simp -implicitDefEqProofs only[go_sem,Nat.reduceEqDiff,Nat.reduceBEq,Nat.reduceAdd,gLa,gLz,gLs,Tryz.f8,Value.cells,hW]
 refine contL_call Tryz.pl20 ((whole W n).mono ?_)
 rintro _ w2 ⟨⟨wd,rfl⟩,f2⟩
 have f02:=f1.trans f2
 simp -implicitDefEqProofs only[go_sem,Nat.reduceEqDiff,Nat.reduceBEq,Nat.reduceAdd,gLa,gLz,gLs]
 refine contL_call Tryz.pl21 ((once w2 (hk.fr0 f02) hl).mono ?_)
 rintro kv' w3 ⟨⟨l,nl⟩,f3⟩
 have f03:=f02.trans f3
 simp -implicitDefEqProofs only[go_sem,Nat.reduceEqDiff,Nat.reduceBEq,Nat.reduceAdd,gLa,gLz,gLs]
 refine contL_call Tryz.pl22 ((copied w3 (hp.fr0 f03) hpl).mono ?_)
 rintro pv' w4 ⟨np,f4⟩
 have f04:=f03.trans f4
 simp -implicitDefEqProofs only[go_sem,Nat.reduceEqDiff,Nat.reduceBEq,Nat.reduceAdd,gLa,gLz,gLs]
 refine contL_call Tryz.pl22 ((copied w4 (hq.fr0 f04) hql).mono ?_)
 rintro qv' w5 ⟨nq,f5⟩
 have f05:=f04.trans f5
 simp -implicitDefEqProofs only[go_sem,Nat.reduceEqDiff,Nat.reduceBEq,Nat.reduceAdd,gLa,gLz,gLs]
 refine contL_call Tryz.pl11 ((known w5 (ht.no f05)).mono ?_)
 rintro _ w6 ⟨rfl,f6⟩
 have f06:=f05.trans f6
 have f16:=((((f2.trans f3).trans f4).trans f5).trans f6)
 have r6:=rd_d Tryz.agg23 Tryz.sz23 (f16.at k1 id) hroot
 have l6:RdD w6 kv' l:=nl.rd.fr0 ((f4.trans f5).trans f6)
 have p6:By w6 pv' p:=np.by.fr0 (f5.trans f6)
 have q6:By w6 qv' q:=nq.by.fr0 f6
 simp -implicitDefEqProofs only[go_sem,Nat.reduceEqDiff,Nat.reduceBEq,Nat.reduceAdd,gLa,gLz,gLs,Bool.not_true,r6]
 refine contL_call Tryz.pl23 ((verify w6 (ht.no f06) wd hroot l6 p6).mono ?_)
 rintro r w7 h7
 obtain⟨f7,av,e,rfl,he,ha⟩:=h7.both
 have f07:=f06.trans f7
 have r7:=rd_d Tryz.agg23 Tryz.sz23 ((f16.trans f7).at k1 id) hroot
 simp -implicitDefEqProofs only[go_sem,Nat.reduceEqDiff,Nat.reduceBEq,Nat.reduceAdd,gLa,gLz,gLs,r7]
 refine contL_call Tryz.pl23 ((verify w7 (ht.no f07) wd hroot (l6.fr0 f7) (q6.fr0 f7)).mono ?_)
 rintro r w8 h8
 obtain⟨f8,bv,g,rfl,hg,hb⟩:=h8.both
 have f08:=f07.trans f8
 have f68:=f7.trans f8
 have r8:=rd_d Tryz.agg23 Tryz.sz23 ((f16.trans f68).at k1 id) hroot
 simp -implicitDefEqProofs only[go_sem,Nat.reduceEqDiff,Nat.reduceBEq,Nat.reduceAdd,gLa,gLz,gLs,r8]
 refine contL_call Tryz.pl24 ((C.clash w8 (ht.no f08) wd hroot (l6.fr0 f68) (p6.fr0 f68) (q6.fr0 f68)).mono ?_)
 rintro r w9 h9
 have hbd:=C.binds (wd:=wd) (root:=root) (p:=p) (q:=q) l6.1
 generalize hcp:C.clashP wd root l p q=cp at *
 -- nothing told
 rcases hbd with ⟨e',hv1,hne,hcn⟩ | ⟨a,hv1,hbd⟩
 ·obtain⟨f9,rfl⟩:=h9.none hcn
  rw[hv1] at he
  obtain rfl:e=e':=he
  have d0:decide (((0:Nat):Int)=0)=true:=rfl
  simp -implicitDefEqProofs only[go_sem,Nat.reduceEqDiff,Nat.reduceBEq,Nat.reduceAdd,gLa,gLz,gLs,hne,ft_beq,tf_beq,beq_self_eq_true,Bool.not_false,Int.natCast_zero]
  exact f08.trans f9
 rw[hv1] at he
 obtain rfl:e=0:=he
 rcases hbd with ⟨e',hv2,hne,hcn⟩ | ⟨b,hv2,hbd⟩
 ·obtain⟨f9,rfl⟩:=h9.none hcn
  rw[hv2] at hg
  obtain rfl:g=e':=hg
  simp -implicitDefEqProofs only[go_sem,Nat.reduceEqDiff,Nat.reduceBEq,Nat.reduceAdd,gLa,gLz,gLs,hne,bne_self_eq_false,ft_beq,tf_beq,beq_self_eq_true,Bool.not_false,Int.natCast_zero]
  exact f08.trans f9
 rw[hv2] at hg
 obtain rfl:g=0:=hg
 rw[hv1] at ha
 rw[hv2] at hb
 have ha:AnL w7 av a:=ha
 have hb:AnL w8 bv b:=hb
 have hal:=verifyP_n l6.1 hv1
 have hall:=verifyP_len l6.1 hv1
 rcases hbd with ⟨hab,hcn⟩ | ⟨hab,x,y,hcs,hxy,hcut,lx,ly,h1,h2⟩
 ·obtain⟨f9,rfl⟩:=h9.none hcn
  simp -implicitDefEqProofs only[go_sem,Nat.reduceEqDiff,Nat.reduceBEq,Nat.reduceAdd,gLa,gLz,gLs,bne_self_eq_false,ft_beq,tf_beq,beq_self_eq_true]
  refine contL_call Tryz.pl25 ((sameAnswers w9 (ha.fr0 (f8.trans f9)) (hb.fr0 f9) (by omega) (fun x hx=>by have:=hall x hx;omega)).mono ?_)
  rintro _ w10 ⟨rfl,f10⟩
  have d0:decide (a=b)=true:=decide_eq_true hab
  simp -implicitDefEqProofs only[go_sem,Nat.reduceEqDiff,Nat.reduceBEq,Nat.reduceAdd,gLa,gLz,gLs,d0,ft_beq,tf_beq,beq_self_eq_true,Bool.not_false,Int.natCast_zero]
  exact (f08.trans f9).trans f10
 obtain⟨f9,xv,yv,rfl,hx,hy⟩:=h9.some hcs
 simp -implicitDefEqProofs only[go_sem,Nat.reduceEqDiff,Nat.reduceBEq,Nat.reduceAdd,gLa,gLz,gLs,bne_self_eq_false,ft_beq,tf_beq,beq_self_eq_true]
 refine contL_call Tryz.pl25 ((sameAnswers w9 (ha.fr0 (f8.trans f9)) (hb.fr0 f9) (by omega) (fun x hx=>by have:=hall x hx;omega)).mono ?_)
 rintro _ w10 ⟨rfl,f10⟩
 have f010:=(f08.trans f9).trans f10
 have d0:decide (a=b)=false:=decide_eq_false hab
 simp -implicitDefEqProofs only[go_sem,Nat.reduceEqDiff,Nat.reduceBEq,Nat.reduceAdd,gLa,gLz,gLs,d0,ft_beq,tf_beq,beq_self_eq_true,Bool.not_true]
 refine contL_call Tryz.pl26 ((same w10 (hx.fr0 f10) (hy.fr0 f10) (by omega)).mono ?_)
 rintro _ w11 ⟨rfl,f11⟩
 have f011:=f010.trans f11
 have d1:decide (x=y)=false:=decide_eq_false hxy
 simp -implicitDefEqProofs only[go_sem,Nat.reduceEqDiff,Nat.reduceBEq,Nat.reduceAdd,gLa,gLz,gLs,d1,ft_beq,tf_beq,beq_self_eq_true,Bool.not_true]
 refine contL_call Tryz.pl27 ((sum_ref w11 (ht.no f011) (hx.fr0 (f10.trans f11)) (by omega)).mono ?_)
 rintro _ w12 ⟨rfl,f12⟩
 have f012:=f011.trans f12
 obtain⟨w13,q13,k13,f13,s13⟩:=R.allocD w12 Tryz.sz23 (Sha.sum_len x)
 have f013:=f012.trans f13
 simp -implicitDefEqProofs only[go_sem,Nat.reduceEqDiff,Nat.reduceBEq,Nat.reduceAdd,gLa,gLz,gLs,Value.cells,bl_zero,q13]
 refine contL_call Tryz.pl27 ((sum_ref w13 (ht.no f013) (hy.fr0 (((f10.trans f11).trans f12).trans f13)) (by omega)).mono ?_)
 rintro _ w14 ⟨rfl,f14⟩
 have f014:=f013.trans f14
 obtain⟨w15,q15,k15,f15,s15⟩:=R.allocD w14 Tryz.sz23 (Sha.sum_len y)
 have f015:=f014.trans f15
 have k13:=(f14.trans f15).at k13 id
 have ec:∀ i:Nat,(i:Int)<wd→(Sha.sum x).getD i 0=(Sha.sum y).getD i 0:=fun i hi=>hcut_at hcut hi h2
 have lx:=Sha.sum_len x
 have ly:=Sha.sum_len y
 generalize Sha.sum x=X at *
 generalize Sha.sum y=Y at *
 simp -implicitDefEqProofs only[go_sem,Nat.reduceEqDiff,Nat.reduceBEq,Nat.reduceAdd,gLa,gLz,gLs,Value.cells,bl_zero,q15]
 refine loopD [11,22,23,24] (bnI w15 wd w12.heap.size w14.heap.size) wd.toNat ⟨0,rfl,by omega,rfl,Fr.refl _ _⟩ ?_
 rintro _ vs w16 g16 ⟨i,rfl,hi,rfl,f16'⟩
 by_cases hlt:(i:Int)<wd
 ·have d2:decide ((i:Int)<wd)=true:=decide_eq_true hlt
  have y1:(0:Int)≤(i:Int)∧(i:Int)<((32:Nat):Int):=by omega
  have y2:=y1.2
  have c1:IntKind.i64.wrap ((i:Int)+1)=((i+1:Nat):Int):=i64add (b:=1) (by omega)
  have r1:rdO Tryz.prog 5 w16 w12.heap.size i=some (u8 (X.getD i 0)):=rd1 Tryz.agg5 (f16'.at k13 id) (bl_at (by omega))
  have r2:rdO Tryz.prog 5 w16 w14.heap.size i=some (u8 (Y.getD i 0)):=rd1 Tryz.agg5 (f16'.at k15 id) (bl_at (by omega))
  have r1d:rdO Tryz.prog 5 w16.drew w12.heap.size i=_:=r1
  have r2d:rdO Tryz.prog 5 w16.drew w14.heap.size i=_:=r2
  rw[ec i hlt] at r1 r1d
  simp -implicitDefEqProofs only[go_sem,Nat.reduceEqDiff,Nat.reduceBEq,Nat.reduceAdd,gLa,gLz,gLs,d2,y1,y2,if_true,and_self,Int.toNat_natCast,Nat.mul_one,Nat.zero_add,r1,r2,r1d,r2d,u8,bne_self_eq_false,c1]
  exact⟨wd.toNat - (i+1),by omega,i+1,rfl,by omega,rfl,f16'.drew⟩
 ·have d2:decide ((i:Int)<wd)=false:=decide_eq_false hlt
  simp -implicitDefEqProofs only[go_sem,Nat.reduceEqDiff,Nat.reduceBEq,Nat.reduceAdd,gLa,gLz,gLs,d2]
  exact f015.trans f16'
end Go.V
end
