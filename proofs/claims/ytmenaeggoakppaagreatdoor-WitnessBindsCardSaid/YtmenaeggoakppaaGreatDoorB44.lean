/-
 Helpers: LawM, LawG, LawH, LawB, LawI, LawJ, LawK, LawN.
-/
import Derived.Test.YtmenaeggoakppaaGreatDoorB42
import Derived.Test.YtmenaeggoakppaaGreatDoorB43
set_option linter.all false
section
namespace Go.V
open Go.Proofs Sha
set_option maxRecDepth 100000
theorem whole (w0:World) (n:Int):Fn Tryz.prog 20 #[.int .i64 n,.int .i64 1,.int .i64 32] w0 fun v w'=>(∃ m:Int,v=.int .i64 m)∧No w0 w':=by
 refine Tryz.go20 (by simp) ?_
 have c1:IntKind.i64.wrap ((32:Int) - 1)=31:=rfl
 have c2:IntKind.i64.wrap ((31:Int)+1)=32:=rfl
 have n32:((32:Int)=0)=False:=by simp
 simp -implicitDefEqProofs only[go_sem,Nat.reduceEqDiff,Nat.reduceBEq,Nat.reduceAdd,gLa,gLz,gLs,Tryz.f20,c1,c2,n32]
 split
 ·exact⟨⟨_,rfl⟩,Fr.refl _ _⟩
 ·exact⟨⟨_,rfl⟩,Fr.refl _ _⟩
def onI (w0:World) (kv:Value) (n:Nat) (m:Nat) (vs:List Value) (w:World):Prop :=
 ∃ (i:Nat) (v:Value) (l:List Bs),vs=[kv,.int .i64 64,v,.int .i64 (i:Nat)]∧i≤n∧m=n - i∧l.length≤64∧NwD w0 w 34 v l∧No w0 w
def onJ (w1:World) (kv v:Value) (i:Nat) (n:Nat) (m:Nat) (vs:List Value) (w:World):Prop :=
 ∃ (j:Nat) (f:Bool),vs=[kv,.int .i64 64,v,.int .i64 (i:Nat),.bool f,.int .i64 (j:Nat)]∧j≤n∧m=n - j∧No w1 w
set_option maxHeartbeats 1000000 in
theorem once (w0:World) {kv:Value} {ks:List Bs} (hk:RdD w0 kv ks) (hl:ks.length≤2 ^ 42):Fn Tryz.prog 21 #[kv,.int .i64 64] w0 fun v w'=>(∃ l,NwD w0 w' 34 v l)∧No w0 w':=by
 refine Tryz.go21 (by simp) ?_
 obtain⟨ka,kc,rfl,hkc⟩:=hk.slice
 simp -implicitDefEqProofs only[go_sem,Nat.reduceEqDiff,Nat.reduceBEq,Nat.reduceAdd,gLa,gLz,gLs,Tryz.f21]
 refine loopD [0,1,5,6] (onI w0 (.slice ka ks.length kc) ks.length) ks.length ⟨0,_,[],rfl,by omega,rfl,by simp,NwD.nil _ _ _,Fr.refl _ _⟩ ?_
 rintro _ vs w1 g ⟨i,v,l,rfl,hi,rfl,hl64,hv,f1⟩
 obtain⟨la,lc,rfl,hlc⟩:=hv.rd.slice
 by_cases h1:i<ks.length
 ·have d1:decide ((i:Int)<((ks.length:Nat):Int))=true:=decide_eq_true (by omega)
  by_cases h2:l.length<64
  ·have d2:decide (((l.length:Nat):Int)<64)=true:=decide_eq_true (by omega)
   simp -implicitDefEqProofs only[go_sem,Nat.reduceEqDiff,Nat.reduceBEq,Nat.reduceAdd,gLa,gLz,gLs,d1,d2,ft_beq,tf_beq,beq_self_eq_true]
   refine loopD [0,1,5,6,7,8] (onJ w1 (.slice ka ks.length kc) (.slice la l.length lc) i l.length) l.length ⟨0,true,rfl,by omega,rfl,Fr.refl _ _⟩ ?_
   rintro _ vs w2 g2 ⟨j,fr,rfl,hj,rfl,f2⟩
   have f02:=f1.trans f2
   have hk2:=hk.fr0 f02
   obtain⟨b,o,cap,he,_,_⟩:=hk2.pos (by omega)
   cases he
   have rk:=hk2.get (P:=Tryz.prog) Tryz.agg34 Tryz.sz34 h1
   have y1:(0:Int)≤(i:Int)∧(i:Int)<((ks.length:Nat):Int):=by omega
   have hd:=hk.1.getD h1
   by_cases h3:j<l.length
   ·have d3:decide ((j:Int)<((l.length:Nat):Int))=true:=decide_eq_true (by omega)
    have hv2:=hv.rd.fr0 f2
    obtain⟨b',o',cap',he,_,_⟩:=hv2.pos (by omega)
    cases he
    have rl:=hv2.get (P:=Tryz.prog) Tryz.agg34 Tryz.sz34 h3
    have y2:(0:Int)≤(j:Int)∧(j:Int)<((l.length:Nat):Int):=by omega
    have c1:IntKind.i64.wrap ((j:Int)+1)=((j+1:Nat):Int):=i64add (b:=1) (by omega)
    have rld:rdO Tryz.prog 34 w2.drew b' (o'+j*32)=_:=rl
    have rkd:rdO Tryz.prog 34 w2.drew b (o+i*32)=_:=rk
    have eq:=eqKey (hv.1.getD h3) hd
    simp -implicitDefEqProofs only[go_sem,Nat.reduceEqDiff,Nat.reduceBEq,Nat.reduceAdd,gLa,gLz,gLs,d3,y1,y2,and_self,Int.toNat_natCast,rl,rk,rld,rkd,eq]
    cases hb:(l.getD j [] == ks.getD i []) with
    | true =>
     simp -implicitDefEqProofs only[go_sem,Nat.reduceEqDiff,Nat.reduceBEq,Nat.reduceAdd,gLa,gLz,gLs,c1]
     exact⟨l.length - (j+1),by omega,j+1,false,rfl,by omega,rfl,f2.drew⟩
    | false =>
     simp -implicitDefEqProofs only[go_sem,Nat.reduceEqDiff,Nat.reduceBEq,Nat.reduceAdd,gLa,gLz,gLs,c1]
     exact⟨l.length - (j+1),by omega,j+1,fr,rfl,by omega,rfl,f2.drew⟩
   ·have d3:decide ((j:Int)<((l.length:Nat):Int))=false:=decide_eq_false (by omega)
    have c1:IntKind.i64.wrap ((i:Int)+1)=((i+1:Nat):Int):=i64add (b:=1) (by omega)
    cases fr with
    | false =>
     simp -implicitDefEqProofs only[go_sem,Nat.reduceEqDiff,Nat.reduceBEq,Nat.reduceAdd,gLa,gLz,gLs,d3,c1]
     exact⟨ks.length - (i+1),by omega,i+1,_,l,rfl,by omega,rfl,hl64,hv.fr0 f2,f02⟩
    | true =>
     generalize ks.getD i []=d at *
     simp -implicitDefEqProofs only[go_sem,Nat.reduceEqDiff,Nat.reduceBEq,Nat.reduceAdd,gLa,gLz,gLs,d3,y1,and_self,Int.toNat_natCast,rk]
     refine contL_is (v:=.slice (some ⟨w2.heap.size,0,Option.none⟩) 1 1) (w':=w2.alloc (.cells (bl d) 34)) (fill_one2 (y:=List.map u8 (List.replicate 32 0)) (by simp) (c:=bl (List.replicate 32 0)) (by simp) (d:=d) hd _) ?_
     obtain⟨v4,w4,hr4,b4,f4,g4,h4⟩:=(hv.fr0 f2).push Tryz.app24_24 hd (by omega) f02
     simp -implicitDefEqProofs only[go_sem,Nat.reduceEqDiff,Nat.reduceBEq,Nat.reduceAdd,gLa,gLz,gLs]
     refine contL_sem ⟨v4,w4,hr4,?_⟩
     simp -implicitDefEqProofs only[go_sem,Nat.reduceEqDiff,Nat.reduceBEq,Nat.reduceAdd,gLa,gLz,gLs,c1]
     exact⟨ks.length - (i+1),by omega,i+1,v4,l++[d],rfl,by omega,rfl,by simp;omega,b4,f4⟩
  ·have d2:decide (((l.length:Nat):Int)<64)=false:=decide_eq_false (by omega)
   simp -implicitDefEqProofs only[go_sem,Nat.reduceEqDiff,Nat.reduceBEq,Nat.reduceAdd,gLa,gLz,gLs,d1,d2,ft_beq,tf_beq,beq_self_eq_true]
   exact⟨⟨l,hv⟩,f1⟩
 ·have d1:decide ((i:Int)<((ks.length:Nat):Int))=false:=decide_eq_false (by omega)
  simp -implicitDefEqProofs only[go_sem,Nat.reduceEqDiff,Nat.reduceBEq,Nat.reduceAdd,gLa,gLz,gLs,d1,ft_beq,tf_beq,beq_self_eq_true]
  exact⟨⟨l,hv⟩,f1⟩
end Go.V
end
section
namespace Go.V
open Go.Proofs Sha
set_option maxRecDepth 100000
section
variable {w0 w w':World} {pb:Nat} {kq:Nat × Nat × Nat} {iv av:Value} {qs:List (Nat × Nat × Nat)} {ks ts:List Bs}
end
end Go.V
end
section
namespace Go.V
open Go.Proofs Sha
set_option maxRecDepth 100000
end Go.V
end
section
namespace Go.V
open Go.Proofs Sha
set_option maxRecDepth 100000
open Wit (K0 K1 kRaw)
theorem bldK0:bldO Tryz.prog 34 []=some (dg K0):=by kernel_rfl
theorem bldK1:bldO Tryz.prog 34 [(0,.int .u8 128)]=some (dg K1):=by kernel_rfl
theorem bldE {k:Bs} {vv:Value} (hk:k.length=32) (h:one vv=true):bldO Tryz.prog 65 [(0,dg k),(1,vv)]=some (.agg (k.map u8++[vv]).toArray):=by
 simp only[bldO,Tryz.zero65,Tryz.places65,Option.bind_some]
 have hz:(Value.agg (Array.replicate 32 (.int .u8 0)++#[Value.slice Option.none 0 0])).cells.size=33:=rfl
 have e:(dg k).cells.toList=k.map u8:=rfl
 rw[fill_cons (off:=0) (n:=32) rfl (by simp[Value.cells,hk]) (by rw[hz];decide),fill_one1 (off:=32) rfl h (by rw[storeL_size,hz];decide),fill_nil',Option.map_some]
 congr 2
 apply Array.toList_inj.1
 rw[Array.toList_setIfInBounds,e,storeL_list _ _ _ (by rw[hz,List.length_map,hk];decide)]
 simp[Value.cells,hk]
theorem VeQ.okd {w0 w':World} {x:Except Int (List (Option Bs))} {an:List (Option Bs)} {r:Value} (h:VeQ w0 x r w') (hx:x=.ok an):No w0 w'∧∃ v,r=.tuple #[v,.int .i64 0]∧AnL w' v an:=by subst hx;exact h
theorem BsQ.okd {w0 w':World} {x:Except Int Bs} {bs:Bs} {r:Value} (h:BsQ w0 x r w') (hx:x=.ok bs):No w0 w'∧∃ v,r=.tuple #[v,.int .i64 0]∧NwB w0 w' v bs:=by subst hx;exact h
/-- two entries laid side by side -/
theorem enr2 (w : World) {k1 k2 : Bs} {v1 v2 : Value} {x1 x2 : Bs} (h1 : k1.length = 32) (h2 : k2.length = 32) (o1 : one v1 = true) (o2 : one v2 = true) (y1 : By w v1 x1) (y2 : By w v2 x2) :
    EnR (w.alloc (.cells ((k1.map u8 ++ [v1]) ++ (k2.map u8 ++ [v2])).toArray 65)) (.slice (some ⟨w.heap.size,0,Option.none⟩) 2 2) [(k1,x1),(k2,x2)] := by
 have f:No w (w.alloc (.cells ((k1.map u8++[v1])++(k2.map u8++[v2])).toArray 65)):=(Fr.refl _ _).alloc _
 refine⟨[enRow (k1,x1) v1,enRow (k2,x2) v2],⟨fun r hr=>?_,?_⟩,rfl,fun i h h'=>?_⟩
 ·simp only[List.mem_cons,List.not_mem_nil,or_false] at hr
  rcases hr with rfl | rfl
  ·exact⟨by simp[enRow,h1],by simp only[enRow,List.all_append,u8s_one,List.all_cons,List.all_nil,o1];rfl⟩
  ·exact⟨by simp[enRow,h2],by simp only[enRow,List.all_append,u8s_one,List.all_cons,List.all_nil,o2];rfl⟩
 ·refine⟨by simp[enRow,h1,h2],_,_,rfl,Nat.le_refl _,fun _=>⟨_,_,rfl,fun i hi=>?_⟩⟩
  rw[rc_of_row (alloc_blk_new _ _),Nat.zero_add,List.getElem?_toArray]
  simp[enRow]
 ·rcases i with _ | _ | i
  ·exact⟨v1,rfl,h1,o1,y1.fr0 f⟩
  ·exact⟨v2,rfl,h2,o2,y2.fr0 f⟩
  ·exfalso;simp only[List.length_cons,List.length_nil] at h;omega
/-- two keys laid side by side -/
theorem keys2 (w : World) {k1 k2 : Bs} (h1 : k1.length = 32) (h2 : k2.length = 32) :
    RdD (w.alloc (.cells (k1.map u8 ++ k2.map u8).toArray 34)) (.slice (some ⟨w.heap.size,0,Option.none⟩) 2 2) [k1,k2] := by
 refine⟨All32.cons h1 (All32.one h2),by simp[flat,h1,h2],_,_,rfl,Nat.le_refl _,fun _=>⟨_,_,rfl,fun i hi=>?_⟩⟩
 rw[rc_of_row (alloc_blk_new _ _),Nat.zero_add,List.getElem?_toArray]
 simp[flat]
theorem bytes2 (w0 : World) (ht : Tabs w0) {mv : Value} (hm : EnR w0 mv [(K0, [120]), (K1, [121])]) {x2 : Bs} (hx2 : R.Lone 4 (K1, [121]) 255 x2) :
    Fn Tryz.prog 35 #[.int .i64 4,mv,dg K0] w0 fun v w' => NwB w0 w' v (Wit.ansT (some [120]) ++ (R.setP 4 (List.replicate 32 0) 255 x2).1 ++ (R.setP 4 (List.replicate 32 0) 255 x2).2.flatten) ∧ No w0 w' := by
 refine Tryz.go35 (by simp) ?_
 have l0:K0.length=32:=rfl
 obtain⟨W,hW,f1,k1,s1⟩:=allocs1 w0 (bl K0) 34
 have r1:=rd_d Tryz.agg34 Tryz.sz34 k1 l0
 simp -implicitDefEqProofs only[go_sem,Nat.reduceEqDiff,Nat.reduceBEq,Nat.reduceAdd,gLa,gLz,gLs,Tryz.f35,Value.cells,hW,r1]
 refine contL_call Tryz.pl70 ((R.prove2 W (ht.no f1) 4 (hm.fr0 f1) Wit.kcom l0 (by decide) (by decide) hx2).mono ?_)
 rintro _ w2 ⟨f2,vv,sv,rfl,hvo,hso,n2,d2⟩
 have hbl:(R.setP 4 (List.replicate 32 0) 255 x2).1.length=32:=by unfold R.setP;split <;> simp
 have hpop:(R.setP 4 (List.replicate 32 0) 255 x2).2.length=R.pops (R.setP 4 (List.replicate 32 0) 255 x2).1:=by
  unfold R.setP
  split
  ·decide +kernel
  ·show 1=R.pops ((List.replicate 32 (0:Byte)).set (255 / 8) ((List.replicate 32 (0:Byte)).getD (255 / 8) 0 ||| BitVec.ofNat 8 (2 ^ (255 % 8))))
   decide +kernel
 generalize (R.setP 4 (List.replicate 32 0) 255 x2).1=bits at *
 generalize (R.setP 4 (List.replicate 32 0) 255 x2).2=sums at *
 have hsz:(R.prC true vv bits sv).toArray.size=35:=by rw[List.size_toArray];exact R.prC_len hbl
 have k0:=alloc_blk_new w2 (.cells R.prZ 122)
 have q3:wrO Tryz.prog 122 (w2.alloc (.cells R.prZ 122)) w2.heap.size 0 (.agg (R.prC true vv bits sv).toArray)=some (put (w2.alloc (.cells R.prZ 122)) w2.heap.size (.cells (R.prC true vv bits sv).toArray 122 (0,0))):=wr_all (by rw[hsz];exact Tryz.sz122) k0 (by rw[hsz];simp[R.prZ]) (R.prC_one hvo hso)
 have k3:=put_at (o:=.cells (R.prC true vv bits sv).toArray 122 (0,0)) k0
 have f3:No w2 (put (w2.alloc (.cells R.prZ 122)) w2.heap.size (.cells (R.prC true vv bits sv).toArray 122 (0,0))):=((Fr.refl _ _).alloc _).put (b:=w2.heap.size) _ fun h=>absurd h (Nat.lt_irrefl _)
 obtain⟨w3,hw3⟩:∃ w3,w3=put (w2.alloc (.cells R.prZ 122)) w2.heap.size (.cells (R.prC true vv bits sv).toArray 122 (0,0)):=⟨_,rfl⟩
 rw[← hw3] at q3 k3 f3
 have r3:rdO Tryz.prog 122 w3 w2.heap.size 0=some (.agg (R.prC true vv bits sv).toArray):=rd_all Tryz.agg122 (by rw[hsz];exact Tryz.sz122) k3
 simp -implicitDefEqProofs only[go_sem,Nat.reduceEqDiff,Nat.reduceBEq,Nat.reduceAdd,gLa,gLz,gLs,Value.cells,q3,r3]
 refine contL_call Tryz.pl71 ((R.encode12 w3 (n2.by.fr0 f3) (by decide) hbl (d2.rd.fr0 f3) hpop hvo hso).mono ?_)
 rintro _ w4 ⟨f4,v,rfl,n4⟩
 simp -implicitDefEqProofs only[go_sem,Nat.reduceEqDiff,Nat.reduceBEq,Nat.reduceAdd,gLa,gLz,gLs]
 exact⟨n4.back ((f1.trans f2).trans f3).size,((f1.trans f2).trans f3).trans f4⟩
set_option maxHeartbeats 4000000 in
theorem known (w0:World) (ht:Tabs w0):Fn Tryz.prog 11 #[] w0 fun v w'=>v=.bool true∧No w0 w':=by
 refine Tryz.go11 (by simp) ?_
 have l0:K0.length=32:=rfl
 have l1:K1.length=32:=rfl
 obtain⟨W1,q1,k1,f1,s1⟩:=R.allocD w0 (ty:=34) Tryz.sz34 l0
 obtain⟨W2,q2,k2,f2,s2⟩:=R.allocD W1 (ty:=34) Tryz.sz34 l1
 have k12:=f2.at k1 id
 have r1:=rd_d Tryz.agg34 Tryz.sz34 k12 l0
 have f02:=f1.trans f2
 simp -implicitDefEqProofs only[go_sem,Nat.reduceEqDiff,Nat.reduceBEq,Nat.reduceAdd,gLa,gLz,gLs,Tryz.f11,Value.cells,bl_zero,bldK0,q1,bldK1,q2,r1]
 refine contL_is (v:=.slice (some ⟨W2.heap.size,0,Option.none⟩) 1 1) (w':=W2.alloc (.cells (bl [120]) 5)) rfl ?_
 obtain⟨W3,hc3,f3,y3,s3⟩:=text_new (P:=Tryz.prog) Tryz.slc25 Tryz.int5 W2 [120]
 simp -implicitDefEqProofs only[go_sem,Nat.reduceEqDiff,Nat.reduceBEq,Nat.reduceAdd,gLa,gLz,gLs]
 refine contL_sem ⟨_,W3,hc3,?_⟩
 have r2:=rd_d Tryz.agg34 Tryz.sz34 ((f3).at k2 id) l1
 have bE1:=bldE (vv:=.slice (some ⟨W2.heap.size,0,Option.none⟩) ([120]:Bs).length ([120]:Bs).length) l0 rfl
 simp -implicitDefEqProofs only[go_sem,Nat.reduceEqDiff,Nat.reduceBEq,Nat.reduceAdd,gLa,gLz,gLs,bE1,r2]
 refine contL_is (v:=.slice (some ⟨W3.heap.size,0,Option.none⟩) 1 1) (w':=W3.alloc (.cells (bl [121]) 5)) rfl ?_
 obtain⟨W4,hc4,f4,y4,s4⟩:=text_new (P:=Tryz.prog) Tryz.slc25 Tryz.int5 W3 [121]
 simp -implicitDefEqProofs only[go_sem,Nat.reduceEqDiff,Nat.reduceBEq,Nat.reduceAdd,gLa,gLz,gLs]
 refine contL_sem ⟨_,W4,hc4,?_⟩
 have bE2:=bldE (vv:=.slice (some ⟨W3.heap.size,0,Option.none⟩) ([121]:Bs).length ([121]:Bs).length) l1 rfl
 have sE:=sl2_agg (P:=Tryz.prog) Tryz.slc66 Tryz.sz65 Tryz.zero65 rfl (by decide) (by decide) W4 (r1:=K0.map u8++[Value.slice (some ⟨W2.heap.size,0,Option.none⟩) ([120]:Bs).length ([120]:Bs).length]) (r2:=K1.map u8++[Value.slice (some ⟨W3.heap.size,0,Option.none⟩) ([121]:Bs).length ([121]:Bs).length]) rfl rfl
 simp -implicitDefEqProofs only[go_sem,Nat.reduceEqDiff,Nat.reduceBEq,Nat.reduceAdd,gLa,gLz,gLs,bE2,sE]
 have hm5:=enr2 W4 l0 l1 (v1:=.slice (some ⟨W2.heap.size,0,Option.none⟩) ([120]:Bs).length ([120]:Bs).length) (v2:=.slice (some ⟨W3.heap.size,0,Option.none⟩) ([121]:Bs).length ([121]:Bs).length) rfl rfl (y3.fr0 f4) y4
 have f5:No W4 (W4.alloc (.cells ((K0.map u8++[Value.slice (some ⟨W2.heap.size,0,Option.none⟩) ([120]:Bs).length ([120]:Bs).length])++(K1.map u8++[Value.slice (some ⟨W3.heap.size,0,Option.none⟩) ([121]:Bs).length ([121]:Bs).length])).toArray 65)):=(Fr.refl _ _).alloc _
 obtain⟨W5,hW5⟩:∃ W5,W5=(W4.alloc (.cells ((K0.map u8++[Value.slice (some ⟨W2.heap.size,0,Option.none⟩) ([120]:Bs).length ([120]:Bs).length])++(K1.map u8++[Value.slice (some ⟨W3.heap.size,0,Option.none⟩) ([121]:Bs).length ([121]:Bs).length])).toArray 65)):=⟨_,rfl⟩
 rw[← hW5] at hm5 f5 ⊢
 have f05:=((f02.trans f3).trans f4).trans f5
 have k15:=((f3.trans f4).trans f5).at k12 id
 have k25:=((f3.trans f4).trans f5).at k2 id
 generalize (Value.slice (some ⟨W4.heap.size,0,Option.none⟩) 2 2)=mv at *
 clear bE1 bE2 sE hc3 hc4 y3 y4 r1 r2 q1 q2
 obtain⟨x1,hx1⟩:=Wit.kLone0
 obtain⟨x2,hx2⟩:∃ x2,R.Lone 4 (K1,[121]) 255 x2:=⟨_,rfl⟩
 have kb0:kbit K0 0=false:=by decide +kernel
 have kb1:kbit K1 0=true:=by decide +kernel
 refine contL_call Tryz.pl31 ((R.root2 W5 (ht.no f05) 4 hm5 kb0 kb1 (by decide) (by decide) hx1 hx2).mono ?_)
 rintro _ w6 ⟨rfl,f6⟩
 have hver:=Wit.kVerify hx1 hx2
 have hpart:=Wit.kPart hx2
 have lr:(branchD 4 x1 x2).length=32:=branchD_len _ _ _
 generalize branchD 4 x1 x2=root at *
 obtain⟨W7,q7,k7,f7,s7⟩:=R.allocD w6 (ty:=23) Tryz.sz23 lr
 have f57:=f6.trans f7
 simp -implicitDefEqProofs only[go_sem,Nat.reduceEqDiff,Nat.reduceBEq,Nat.reduceAdd,gLa,gLz,gLs,Value.cells,bl_zero,q7]
 refine contL_is (v:=.slice (some ⟨W7.heap.size,0,Option.none⟩) 1 1) (w':=W7.alloc (.cells (bl [2]) 5)) rfl ?_
 have b8:NwB W7 (W7.alloc (.cells (bl [2]) 5)) (.slice (some ⟨W7.heap.size,0,Option.none⟩) 1 1) [2]:=mk_nw W7 W7 5 1 1 1 (bl [2]) (Nat.le_refl _) rfl (Nat.le_refl _)
 have f8:No W7 (W7.alloc (.cells (bl [2]) 5)):=(Fr.refl _ _).alloc _
 generalize W7.alloc (.cells (bl [2]) 5)=w8 at *
 generalize (Value.slice (some ⟨W7.heap.size,0,Option.none⟩) 1 1)=rv8 at *
 have zero:∀ (w:World) (v:Value) (bs:Bs),NwB W7 w v bs→bs.length≤1000→No W7 w→∃ v' w',(Builtin.append_ #[25,3] 0 #[v,.int .i64 32]).run Tryz.prog w=.ok v' w'∧NwB W7 w' v' (bs++List.replicate 32 0)∧No W7 w':=fun w v bs h hl f=>by
  obtain⟨v',w',hr,h1,h2,_⟩:=NwB.zeros (P:=Tryz.prog) (ts:=#[25,3]) rfl rfl Tryz.slc25 Tryz.int3 Tryz.sz5 Tryz.by5 Tryz.zero5 h (m:=32) (by decide) (by omega) (by decide) f.size
  exact⟨v',w',hr,h1,f.trans' h2 fun b hb hh=>by have:=(h.lt hh).1;omega⟩
 have four:∀ (w:World) (v:Value) (bs:Bs) (x:Byte),NwB W7 w v bs→bs.length≤1000→No W7 w→∃ v' w',(Builtin.append_ #[25,25] 0 #[v,.slice (some ⟨w.heap.size,0,Option.none⟩) 4 4]).run Tryz.prog (w.alloc (.cells (bl [1,1,0,x]) 5))=.ok v' w'∧NwB W7 w' v' (bs++[1,1,0,x])∧No W7 w':=fun w v bs x h hl f=>by
  obtain⟨v',w',hr,h1,h2,_⟩:=NwB.push (P:=Tryz.prog) Tryz.app25_25 h [1,1,0,x] (bd_small (by show (2*(bs.length+4)+768)*1≤2 ^ 48;omega)) (by show bs.length+4≤_;omega) f
  exact⟨v',w',hr,h1,h2⟩
 obtain⟨v9,w9,hr9,b9,f9⟩:=zero _ _ _ b8 (by decide) f8
 simp -implicitDefEqProofs only[go_sem,Nat.reduceEqDiff,Nat.reduceBEq,Nat.reduceAdd,gLa,gLz,gLs]
 refine contL_sem ⟨v9,w9,hr9,?_⟩
 obtain⟨v10,w10,hr10,b10,f10⟩:=four _ _ _ 120 b9 (by decide) f9
 simp -implicitDefEqProofs only[go_sem,Nat.reduceEqDiff,Nat.reduceBEq,Nat.reduceAdd,gLa,gLz,gLs]
 refine contL_is (v:=.slice (some ⟨w9.heap.size,0,Option.none⟩) 4 4) (w':=w9.alloc (.cells (bl [1,1,0,120]) 5)) rfl ?_
 simp -implicitDefEqProofs only[go_sem,Nat.reduceEqDiff,Nat.reduceBEq,Nat.reduceAdd,gLa,gLz,gLs]
 refine contL_sem ⟨v10,w10,hr10,?_⟩
 obtain⟨v11,w11,hr11,b11,f11⟩:=zero _ _ _ b10 (by decide) f10
 simp -implicitDefEqProofs only[go_sem,Nat.reduceEqDiff,Nat.reduceBEq,Nat.reduceAdd,gLa,gLz,gLs]
 refine contL_sem ⟨v11,w11,hr11,?_⟩
 obtain⟨v12,w12,hr12,b12,f12⟩:=four _ _ _ 121 b11 (by decide) f11
 simp -implicitDefEqProofs only[go_sem,Nat.reduceEqDiff,Nat.reduceBEq,Nat.reduceAdd,gLa,gLz,gLs]
 refine contL_is (v:=.slice (some ⟨w11.heap.size,0,Option.none⟩) 4 4) (w':=w11.alloc (.cells (bl [1,1,0,121]) 5)) rfl ?_
 simp -implicitDefEqProofs only[go_sem,Nat.reduceEqDiff,Nat.reduceBEq,Nat.reduceAdd,gLa,gLz,gLs]
 refine contL_sem ⟨v12,w12,hr12,?_⟩
 obtain⟨v13,w13,hr13,b13,f13⟩:=zero _ _ _ b12 (by decide) f12
 have b13:NwB W7 w13 v13 kRaw:=b13
 have f513:=f57.trans f13
 have f013:=f05.trans f513
 have r13a:=rd_d Tryz.agg23 Tryz.sz23 (f13.at k7 id) lr
 have r13b:=rd_d Tryz.agg34 Tryz.sz34 (f513.at k15 id) l0
 have r13c:=rd_d Tryz.agg34 Tryz.sz34 (f513.at k25 id) l1
 have sK:=sl2_agg (P:=Tryz.prog) Tryz.slc24 Tryz.sz34 Tryz.zero34 rfl (by decide) (by decide) w13 (r1:=K1.map u8) (r2:=K0.map u8) rfl rfl
 simp -implicitDefEqProofs only[go_sem,Nat.reduceEqDiff,Nat.reduceBEq,Nat.reduceAdd,gLa,gLz,gLs]
 refine contL_sem ⟨v13,w13,hr13,?_⟩
 simp -implicitDefEqProofs only[go_sem,Nat.reduceEqDiff,Nat.reduceBEq,Nat.reduceAdd,gLa,gLz,gLs,r13a,r13b,r13c,sK]
 have hk14:=keys2 w13 l1 l0
 have f14:No w13 (w13.alloc (.cells (K1.map u8++K0.map u8).toArray 34)):=(Fr.refl _ _).alloc _
 obtain⟨w14,hw14⟩:∃ w14,w14=w13.alloc (.cells (K1.map u8++K0.map u8).toArray 34):=⟨_,rfl⟩
 rw[← hw14] at hk14 f14 ⊢
 have f014:=f013.trans f14
 refine contL_call Tryz.pl23 ((V.verify w14 (ht.no f014) 4 lr hk14 (b13.by.fr0 f14)).mono ?_)
 intro r w15 h15
 obtain⟨f15,v15,rfl,a15⟩:=h15.okd hver
 have f015:=f014.trans f15
 obtain⟨ab,ao,ac,y0,rfl,hy0,hr0⟩:=a15.at (i:=0) (by decide)
 obtain⟨ab',ao',ac',y1,e,hy1,hr1⟩:=a15.at (i:=1) (by decide)
 cases e
 have z0:(0:Int)≤0∧(0:Int)<((([some [121],some [120]]:List (Option Bs)).length:Nat):Int):=by decide
 have z1:(0:Int)≤1∧(1:Int)<((([some [121],some [120]]:List (Option Bs)).length:Nat):Int):=by decide
 have dl:(((([some [121],some [120]]:List (Option Bs)).length:Nat):Int) != 2)=false:=rfl
 obtain⟨p0,p0'⟩:=hr0 w15 (Fr.refl _ _)
 have p0:rdO Tryz.prog 4 w15 ab ao=some (.bool true):=p0
 have p0':rdO Tryz.prog 25 w15 ab (ao+1)=some y0:=p0'
 obtain⟨W16,hc16,f16,t16,s16⟩:=text_new (P:=Tryz.prog) Tryz.slc25 Tryz.int5 w15 [121]
 simp -implicitDefEqProofs only[go_sem,Nat.reduceEqDiff,Nat.reduceBEq,Nat.reduceAdd,gLa,gLz,gLs,bne_self_eq_false,dl,z0,and_self,Int.toNat_zero,Nat.zero_mul,Nat.add_zero,p0,p0',ft_beq,tf_beq,beq_self_eq_true]
 refine contL_is (v:=.slice (some ⟨w15.heap.size,0,Option.none⟩) 1 1) (w':=w15.alloc (.cells (bl [121]) 5)) rfl ?_
 simp -implicitDefEqProofs only[go_sem,Nat.reduceEqDiff,Nat.reduceBEq,Nat.reduceAdd,gLa,gLz,gLs]
 refine contL_sem ⟨_,W16,hc16,?_⟩
 simp -implicitDefEqProofs only[go_sem,Nat.reduceEqDiff,Nat.reduceBEq,Nat.reduceAdd,gLa,gLz,gLs,ft_beq,tf_beq,beq_self_eq_true]
 refine contL_call Tryz.pl26 ((same W16 (hy0.fr0 f16) t16 (by decide)).mono ?_)
 rintro _ w17 ⟨rfl,f17⟩
 have e1:(!decide ((([some [121],some [120]]:List (Option Bs)).getD 0 none).getD []=([121]:Bs)))=false:=by decide
 have f1517:=f16.trans f17
 obtain⟨p1,p1'⟩:=hr1 w17 f1517
 have p1':rdO Tryz.prog 25 w17 ab (ao+1*2+1)=some y1:=p1'
 obtain⟨W18,hc18,f18,t18,s18⟩:=text_new (P:=Tryz.prog) Tryz.slc25 Tryz.int5 w17 [120]
 simp -implicitDefEqProofs only[go_sem,Nat.reduceEqDiff,Nat.reduceBEq,Nat.reduceAdd,gLa,gLz,gLs,e1,z1,and_self,Int.toNat_one,p1',ft_beq,tf_beq,beq_self_eq_true]
 refine contL_is (v:=.slice (some ⟨w17.heap.size,0,Option.none⟩) 1 1) (w':=w17.alloc (.cells (bl [120]) 5)) rfl ?_
 simp -implicitDefEqProofs only[go_sem,Nat.reduceEqDiff,Nat.reduceBEq,Nat.reduceAdd,gLa,gLz,gLs]
 refine contL_sem ⟨_,W18,hc18,?_⟩
 simp -implicitDefEqProofs only[go_sem,Nat.reduceEqDiff,Nat.reduceBEq,Nat.reduceAdd,gLa,gLz,gLs,ft_beq,tf_beq,beq_self_eq_true]
 refine contL_call Tryz.pl26 ((same W18 (hy1.fr0 (f1517.trans f18)) t18 (by decide)).mono ?_)
 rintro _ w19 ⟨rfl,f19⟩
 have e2:(!decide ((([some [121],some [120]]:List (Option Bs)).getD 1 none).getD []=([120]:Bs)))=false:=by decide
 have f1519:=(f1517.trans f18).trans f19
 have f019:=f015.trans f1519
 have fk:=(f14.trans f15).trans f1519
 have r19:=rd_d Tryz.agg23 Tryz.sz23 (fk.at (f13.at k7 id) id) lr
 have s00:sl2 Tryz.prog 25 w19 (.int .u8 0) (.int .u8 0)=some (.slice (some ⟨w19.heap.size,0,Option.none⟩) 2 2,w19.alloc (.cells (bl [0,0]) 5)):=rfl
 have b20:NwB w19 (w19.alloc (.cells (bl [0,0]) 5)) (.slice (some ⟨w19.heap.size,0,Option.none⟩) 2 2) [0,0]:=mk_nw w19 w19 5 1 2 2 (bl [0,0]) (Nat.le_refl _) rfl (Nat.le_refl _)
 have f20:No w19 (w19.alloc (.cells (bl [0,0]) 5)):=(Fr.refl _ _).alloc _
 obtain⟨w20,hw20⟩:∃ w20,w20=w19.alloc (.cells (bl [0,0]) 5):=⟨_,rfl⟩
 rw[← hw20] at s00 b20 f20
 simp -implicitDefEqProofs only[go_sem,Nat.reduceEqDiff,Nat.reduceBEq,Nat.reduceAdd,gLa,gLz,gLs,e2,r19,s00,ft_beq,tf_beq,beq_self_eq_true]
 refine contL_call Tryz.pl32 ((step00 w20 (ht.no (f019.trans f20)) lr b20.by).mono ?_)
 rintro _ w21 ⟨rfl,f21⟩
 obtain⟨W22,q22,k22,f22,s22⟩:=R.allocD w21 (ty:=23) Tryz.sz23 lr
 have fk22:=((fk.trans f20).trans f21).trans f22
 have f022:=((f019.trans f20).trans f21).trans f22
 have r22a:=rd_d Tryz.agg34 Tryz.sz34 (fk22.at (f513.at k15 id) id) l0
 have r22b:=rd_d Tryz.agg34 Tryz.sz34 (fk22.at (f513.at k25 id) id) l1
 have sK:=sl2_agg (P:=Tryz.prog) Tryz.slc24 Tryz.sz34 Tryz.zero34 rfl (by decide) (by decide) W22 (r1:=K0.map u8) (r2:=K1.map u8) rfl rfl
 have hk23:=keys2 W22 l0 l1
 have f23:No W22 (W22.alloc (.cells (K0.map u8++K1.map u8).toArray 34)):=(Fr.refl _ _).alloc _
 obtain⟨w23,hw23⟩:∃ w23,w23=W22.alloc (.cells (K0.map u8++K1.map u8).toArray 34):=⟨_,rfl⟩
 rw[← hw23] at sK hk23 f23
 have r23:rdO Tryz.prog 34 w23 w0.heap.size 0=some (dg K0):=rd_d Tryz.agg34 Tryz.sz34 (f23.at (fk22.at (f513.at k15 id) id) id) l0
 simp -implicitDefEqProofs only[go_sem,Nat.reduceEqDiff,Nat.reduceBEq,Nat.reduceAdd,gLa,gLz,gLs,Value.cells,bl_zero,q22,r22a,r22b,sK,r23]
 refine contL_call Tryz.pl33 ((partW w23 (ht.no (f022.trans f23)) 4 hk23 (b13.by.fr0 (fk22.trans f23)) l0).mono ?_)
 intro r w24 h24
 obtain⟨f24,v24,rfl,n24⟩:=h24.okd hpart
 have fk24:=(fk22.trans f23).trans f24
 have f024:=(f022.trans f23).trans f24
 have r24:=rd_d Tryz.agg23 Tryz.sz23 (fk24.at (f13.at k7 id) id) lr
 simp -implicitDefEqProofs only[go_sem,Nat.reduceEqDiff,Nat.reduceBEq,Nat.reduceAdd,gLa,gLz,gLs,r24]
 refine contL_call Tryz.pl34 ((gather00 w24 (ht.no f024) lr).mono ?_)
 rintro _ w25 ⟨rfl,f25⟩
 have fk25:=fk24.trans f25
 have f025:=f024.trans f25
 have r25:=rd_d Tryz.agg23 Tryz.sz23 (fk25.at (f13.at k7 id) id) lr
 have r25b:=rd_d Tryz.agg23 Tryz.sz23 (((f23.trans f24).trans f25).at k22 id) lr
 have r25c:=rd_d Tryz.agg34 Tryz.sz34 (fk25.at (f513.at k15 id) id) l0
 have eq:=eqDig lr lr
 have hb:(root == root)=true:=by simp
 simp -implicitDefEqProofs only[go_sem,Nat.reduceEqDiff,Nat.reduceBEq,Nat.reduceAdd,gLa,gLz,gLs,r25,r25b,r25c,eq,hb,ft_beq,tf_beq,beq_self_eq_true]
 refine contL_call Tryz.pl35 ((bytes2 w25 (ht.no f025) (hm5.fr0 (f513.trans fk25)) hx2).mono ?_)
 rintro v26 w26 ⟨n26,f26⟩
 have hl26:(Wit.ansT (some [120])++(R.setP 4 (List.replicate 32 0) 255 x2).1++(R.setP 4 (List.replicate 32 0) 255 x2).2.flatten).length≤2 ^ 50:=by
  have h1:(R.setP 4 (List.replicate 32 0) 255 x2).1.length=32:=by unfold R.setP;split <;> simp
  have h2:(R.setP 4 (List.replicate 32 0) 255 x2).2.flatten.length≤32:=by
   unfold R.setP
   split
   ·simp
   ·have:=hx2.len;simp[this]
  rw[List.length_append,List.length_append,h1]
  have:(Wit.ansT (some [120])).length=4:=by simp[Wit.ansT]
  omega
 generalize (Wit.ansT (some [120])++(R.setP 4 (List.replicate 32 0) 255 x2).1++(R.setP 4 (List.replicate 32 0) 255 x2).2.flatten)=out at *
 simp -implicitDefEqProofs only[go_sem,Nat.reduceEqDiff,Nat.reduceBEq,Nat.reduceAdd,gLa,gLz,gLs,ft_beq,tf_beq,beq_self_eq_true]
 refine contL_call Tryz.pl26 ((same w26 (n24.by.fr0 (f25.trans f26)) n26.by hl26).mono ?_)
 rintro _ w27 ⟨rfl,f27⟩
 have e3:decide (out=out)=true:=by simp
 have e4:(((0:Nat):Int) == 0)=true:=rfl
 simp -implicitDefEqProofs only[go_sem,Nat.reduceEqDiff,Nat.reduceBEq,Nat.reduceAdd,gLa,gLz,gLs,e3,e4,decide_true,ft_beq,tf_beq,beq_self_eq_true]
 exact (f025.trans f26).trans f27
end Go.V
end
section
namespace Go.V
open Go.Proofs Sha
set_option maxRecDepth 100000
theorem verifyP_len {wd:Int} {root:Bs} {ks:List Bs} {raw:Bs} {an:List (Option Bs)} (hk:All32 ks) (h:Wit.verifyP wd root ks raw=.ok an):∀ x ∈ an,(x.getD []).length≤128:=by
 unfold Wit.verifyP at h
 split at h
 ·cases h
 ·rename_i l hs
  obtain⟨hse,_,_⟩:=Wit.sortW_ok hs
  obtain⟨asc,l32,_⟩:=Wit.sortE_ok hk hse
  split at h
  ·cases h
  ·cases h
   intro x hx;cases hx
  ·rename_i t hu
   cases h
   obtain⟨hok,_⟩:=Wit.form_ok asc l32 (Wit.underP_ok hu).1
   intro x hx
   obtain⟨k,_,rfl⟩:=List.mem_map.1 hx
   cases hta:t.at k with
   | none=>simp
   | some v=>exact Wit.at_len k hok v hta
theorem verifyP_n {wd:Int} {root:Bs} {ks:List Bs} {raw:Bs} {an:List (Option Bs)} (hk:All32 ks) (h:Wit.verifyP wd root ks raw=.ok an):an.length≤64:=by
 unfold Wit.verifyP at h
 split at h
 ·cases h
 ·rename_i l hs
  obtain⟨hse,_,_⟩:=Wit.sortW_ok hs
  obtain⟨asc,l32,hlen,h64,_⟩:=Wit.sortE_ok hk hse
  split at h
  ·cases h
  ·cases h;simp
  ·cases h;rw[List.length_map];omega
theorem AnL.nil (w:World):AnL w (.slice none 0 0) []:=⟨[],AnP.nil _,rfl,_,_,rfl,Nat.le_refl _,fun h=>absurd h (by simp)⟩
def errOf {α:Type}:Except Int α→Int
 | .error e=>e
 | .ok _=>0
def listOf {α:Type}:Except Int (List α)→List α
 | .error _=>[]
 | .ok l=>l
/-- what both answer is the same -/
theorem VeQ.both {w0 w':World} {x:Except Int (List (Option Bs))} {r:Value} (h:VeQ w0 x r w'):No w0 w'∧∃ v e,r=.tuple #[v,.int .i64 e]∧e=errOf x∧AnL w' v (listOf x):=by
 obtain⟨f,h⟩:=h
 cases x with
 | error e=>exact⟨f,_,e,h,rfl,AnL.nil _⟩
 | ok an =>
  obtain⟨v,hr,ha⟩:=h
  exact⟨f,v,0,hr,rfl,ha⟩
end Go.V
end
section
namespace Go.V
open Go.Proofs Sha
set_option maxRecDepth 100000
end Go.V
end
section
namespace Go.V
open Go.Proofs Sha
set_option maxRecDepth 100000
end Go.V
end
section
namespace Go.V
open Go.Proofs Sha
set_option maxRecDepth 100000
namespace C
theorem txs_at (wd:Int) (k:Bs) (a:Option Bs) (bits:Bs) (sums:List Bs) (hk:k.length=32) (ha:∀ v,a=some v→v.length≤128) (n:Nat):((txs wd k a bits sums).getD n []).length≤200:=by
 have hw:=wid_le wd
 cases n with
 | zero =>
  rw[txs_zero]
  cases a with
  | none=>simp[lowT]
  | some v=>have:=ha v rfl;simp[lowT,leafT,hk];omega
 | succ n =>
  by_cases h:n<256
  ·rw[txs_succ _ _ _ _ _ h]
   unfold txH branchT
   simp only[List.length_cons,List.length_append,List.length_take]
   omega
  ·rw[List.getD_eq_getElem?_getD,List.getElem?_eq_none (by rw[txs_len];omega)]
   simp
theorem exG_at {x y:List Bs}:∀ {n:Nat} {a b:Bs},exG x y n=some (a,b)→∃ i j,a=x.getD i []∧b=y.getD j []
 | 0,a,b,h=>by cases h
 | n+1,a,b,h=>by
  rw[exG] at h
  split at h
  ·exact exG_at h
  ·simp only[Option.some.injEq,Prod.mk.injEq] at h
   exact⟨n,n,h.1.symm,h.2.symm⟩
theorem clG_none {wd:Int} {root:Bs} {s t:Wit.Tw}:∀ {l:List Bs},(∀ k ∈ l,s.at k=t.at k)→clG wd root s t l=none
 | [],_=>rfl
 | k::l,h=>by rw[clG,if_pos (h k (by simp))];exact clG_none fun x hx=>h x (by simp[hx])
theorem clG_some {wd:Int} {root:Bs} {s t:Wit.Tw}:∀ {l:List Bs},(∃ k ∈ l,s.at k≠t.at k)→∃ k ∈ l,s.at k≠t.at k∧clG wd root s t l=exOf wd root s t k
 | [],h=>by obtain⟨k,hk,_⟩:=h;cases hk
 | k::l,h=>by
  by_cases hq:s.at k=t.at k
  ·obtain⟨k',hk',h'⟩:=h
   rcases List.mem_cons.1 hk' with rfl | hk'
   ·exact absurd hq h'
   ·obtain⟨x,hx,h1,h2⟩:=clG_some ⟨k',hk',h'⟩
    exact⟨x,by simp[hx],h1,by rw[clG,if_pos hq];exact h2⟩
  ·exact⟨k,by simp,hq,by rw[clG,if_neg hq]⟩
/-- what two witnesses' clash is -/
def Bind (wd:Int) (o:Option (Bs × Bs)):Prop:=∃ x y,o=some (x,y)∧x≠y∧hcut wd x=hcut wd y∧x.length≤200∧y.length≤200∧1≤wd∧wd≤32
theorem binds {wd : Int} {root : Bs} {ks : List Bs} {p q : Bs} (hk : All32 ks) :
    (∃ e,Wit.verifyP wd root ks p = .error e ∧ (e != 0) = true ∧ clashP wd root ks p q = none) ∨ (∃ a,Wit.verifyP wd root ks p = .ok a ∧ ((∃ e,Wit.verifyP wd root ks q = .error e ∧ (e != 0) = true ∧ clashP wd root ks p q = none) ∨
      ∃ b,Wit.verifyP wd root ks q = .ok b ∧ (a = b ∧ clashP wd root ks p q = none ∨ a ≠ b ∧ Bind wd (clashP wd root ks p q)))) := by
 unfold Wit.verifyP clashP
 cases hs:Wit.sortW wd ks with
 | error e=>exact .inl ⟨e,rfl,sortW_err hs,rfl⟩
 | ok l =>
  obtain⟨hse,h1,h2⟩:=Wit.sortW_ok hs
  obtain⟨asc,l32,hlen,hl64,hperm⟩:=Wit.sortE_ok hk hse
  dsimp only
  cases hu:Wit.underP wd root l p with
  | error e=>exact .inl ⟨e,rfl,underP_err hu,rfl⟩
  | ok o1 =>
   refine .inr ?_
   cases hv:Wit.underP wd root l q with
   | error e =>
    cases o1 with
    | none=>exact⟨_,rfl,.inl ⟨e,rfl,underP_err hv,rfl⟩⟩
    | some s=>exact⟨_,rfl,.inl ⟨e,rfl,underP_err hv,rfl⟩⟩
   | ok o2 =>
    cases o1 with
    | none =>
     have hl:=Wit.underP_none hu
     subst hl
     have hks:ks=[]:=List.length_eq_zero_iff.1 (by simpa using hlen.symm)
     subst hks
     refine⟨_,rfl,.inr ?_⟩
     cases o2 with
     | none=>exact⟨_,rfl,.inl ⟨rfl,rfl⟩⟩
     | some t=>exact⟨_,rfl,.inl ⟨rfl,rfl⟩⟩
    | some s =>
     refine⟨_,rfl,.inr ?_⟩
     cases o2 with
     | none =>
      have hl:=Wit.underP_none hv
      subst hl
      have hks:ks=[]:=List.length_eq_zero_iff.1 (by simpa using hlen.symm)
      subst hks
      exact⟨_,rfl,.inl ⟨rfl,rfl⟩⟩
     | some t =>
      refine⟨_,rfl,?_⟩
      by_cases hq:ks.map s.at=ks.map t.at
      ·refine .inl ⟨hq,clG_none fun k hk'=>?_⟩
       exact List.map_inj_left.1 hq k (hperm.mem_iff.1 hk')
      ·refine .inr ⟨hq,?_⟩
       have hex:∃ k ∈ l,s.at k≠t.at k:=by
        apply Classical.byContradiction
        intro hn
        apply hq
        apply List.map_inj_left.2
        intro k hk'
        apply Classical.byContradiction
        intro hne
        exact hn ⟨k,hperm.mem_iff.2 hk',hne⟩
       obtain⟨k,hkl,hne,he⟩:=clG_some (wd:=wd) (root:=root) hex
       dsimp only
       rw[he]
       obtain⟨ok1,tk1,tp1,_⟩:=Wit.form_ok asc l32 (Wit.underP_ok hu).1
       obtain⟨ok2,tk2,tp2,_⟩:=Wit.form_ok asc l32 (Wit.underP_ok hv).1
       obtain⟨b1,s1,b2,s2,x,y,e1,e2,hx,hxy,hc⟩:=clashed ok1 (Wit.form_tdy asc l32 (Wit.underP_ok hu).1) tp1 (by rw[tk1];exact hkl) (Wit.underP_ok hu).2 ok2 (Wit.form_tdy asc l32 (Wit.underP_ok hv).1) tp2 (by rw[tk2];exact hkl) (Wit.underP_ok hv).2 h1 h2 hne
       have hxo:exOf wd root s t k=some (x,y):=by unfold exOf;rw[e1,e2];exact hx
       obtain⟨i,j,rfl,rfl⟩:=exG_at hx
       exact⟨_,_,hxo,hxy,hc,txs_at _ _ _ _ _ (l32 k hkl) (Wit.at_len k ok1) _,txs_at _ _ _ _ _ (l32 k hkl) (Wit.at_len k ok2) _,h1,h2⟩
end C
theorem hcut_at {wd:Int} {x y:Bs} (h:hcut wd x=hcut wd y) {i:Nat} (hi:(i:Int)<wd) (h32:wd≤32):(Sha.sum x).getD i 0=(Sha.sum y).getD i 0:=by
 have hlt:i<32:=by omega
 have h1:=congrArg (fun l:Bs=>l.getD i 0) h
 simp only[hcut,cutD] at h1
 rw[getD_lt _ (by simpa using hlt),getD_lt _ (by simpa using hlt)] at h1
 simpa [hi] using h1
end Go.V
end
