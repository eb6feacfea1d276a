/-
 Helpers: LawB, LawI, LawJ, BatR.
-/
import Derived.Test.YtmenaeggoakppaaGreatDoorS43
import Derived.Test.YtmenaeggoakppaaGreatDoorS44
import Derived.Test.YtmenaeggoakppaaGreatDoorS40
import Derived.Test.YtmenaeggoakppaaGreatDoorS29
import Derived.Test.YtmenaeggoakppaaGreatDoorS42
set_option linter.all false
section
namespace Go.V
open Go.Proofs Sha
set_option maxRecDepth 100000
open Wit (K0 K1 kRaw)
theorem bldK0:bldO Tryz.prog 34 []=some (dg K0):=by kernel_rfl
theorem bldK1:bldO Tryz.prog 34 [(0,.int .u8 128)]=some (dg K1):=by kernel_rfl
theorem bldE {k:Bs} {vv:Value} (hk:k.length=32) (h:one vv=true):bldO Tryz.prog 65 [(0,dg k),(1,vv)]=some (.agg (k.map u8++[vv]).toArray):=by
 simp only[bldO,Tryz.zero65,Tryz.places65,Option.bind_some]
 have hz:(Value.agg (Array.replicate 32 (.int .u8 0)++#[Value.slice Option.none 0 0])).cells.size=33:=rfl
 have e:(dg k).cells.toList=k.map u8:=rfl
 rw[fill_cons (off:=0) (n:=32) rfl (by simp[Value.cells,hk]) (by rw[hz];decide),fill_one1 (off:=32) rfl h (by rw[storeL_size,hz];decide),fill_nil',Option.map_some]
 congr 2
 apply Array.toList_inj.1
 rw[Array.toList_setIfInBounds,e,storeL_list _ _ _ (by rw[hz,List.length_map,hk];decide)]
 simp[Value.cells,hk]
theorem VeQ.okd {w0 w':World} {x:Except Int (List (Option Bs))} {an:List (Option Bs)} {r:Value} (h:VeQ w0 x r w') (hx:x=.ok an):No w0 w'∧∃ v,r=.tuple #[v,.int .i64 0]∧AnL w' v an:=by subst hx;exact h
theorem BsQ.okd {w0 w':World} {x:Except Int Bs} {bs:Bs} {r:Value} (h:BsQ w0 x r w') (hx:x=.ok bs):No w0 w'∧∃ v,r=.tuple #[v,.int .i64 0]∧NwB w0 w' v bs:=by subst hx;exact h
/-- two entries laid side by side -/
theorem enr2 (w : World) {k1 k2 : Bs} {v1 v2 : Value} {x1 x2 : Bs} (h1 : k1.length = 32) (h2 : k2.length = 32) (o1 : one v1 = true) (o2 : one v2 = true) (y1 : By w v1 x1) (y2 : By w v2 x2) :
    EnR (w.alloc (.cells ((k1.map u8 ++ [v1]) ++ (k2.map u8 ++ [v2])).toArray 65)) (.slice (some ⟨w.heap.size,0,Option.none⟩) 2 2) [(k1,x1),(k2,x2)] := by
 have f:No w (w.alloc (.cells ((k1.map u8++[v1])++(k2.map u8++[v2])).toArray 65)):=(Fr.refl _ _).alloc _
 refine⟨[enRow (k1,x1) v1,enRow (k2,x2) v2],⟨fun r hr=>?_,?_⟩,rfl,fun i h h'=>?_⟩
 ·simp only[List.mem_cons,List.not_mem_nil,or_false] at hr
  rcases hr with rfl | rfl
  ·exact⟨by simp[enRow,h1],by simp only[enRow,List.all_append,u8s_one,List.all_cons,List.all_nil,o1];rfl⟩
  ·exact⟨by simp[enRow,h2],by simp only[enRow,List.all_append,u8s_one,List.all_cons,List.all_nil,o2];rfl⟩
 ·refine⟨by simp[enRow,h1,h2],_,_,rfl,Nat.le_refl _,fun _=>⟨_,_,rfl,fun i hi=>?_⟩⟩
  rw[rc_of_row (alloc_blk_new _ _),Nat.zero_add,List.getElem?_toArray]
  simp[enRow]
 ·rcases i with _ | _ | i
  ·exact⟨v1,rfl,h1,o1,y1.fr0 f⟩
  ·exact⟨v2,rfl,h2,o2,y2.fr0 f⟩
  ·exfalso;simp only[List.length_cons,List.length_nil] at h;omega
/-- two keys laid side by side -/
theorem keys2 (w : World) {k1 k2 : Bs} (h1 : k1.length = 32) (h2 : k2.length = 32) :
    RdD (w.alloc (.cells (k1.map u8 ++ k2.map u8).toArray 34)) (.slice (some ⟨w.heap.size,0,Option.none⟩) 2 2) [k1,k2] := by
 refine⟨All32.cons h1 (All32.one h2),by simp[flat,h1,h2],_,_,rfl,Nat.le_refl _,fun _=>⟨_,_,rfl,fun i hi=>?_⟩⟩
 rw[rc_of_row (alloc_blk_new _ _),Nat.zero_add,List.getElem?_toArray]
 simp[flat]
theorem bytes2 (w0 : World) (ht : Tabs w0) {mv : Value} (hm : EnR w0 mv [(K0, [120]), (K1, [121])]) {x2 : Bs} (hx2 : R.Lone 4 (K1, [121]) 255 x2) :
    Fn Tryz.prog 35 #[.int .i64 4,mv,dg K0] w0 fun v w' => NwB w0 w' v (Wit.ansT (some [120]) ++ (R.setP 4 (List.replicate 32 0) 255 x2).1 ++ (R.setP 4 (List.replicate 32 0) 255 x2).2.flatten) ∧ No w0 w' := by
 refine Tryz.go35 (by simp) ?_
 have l0:K0.length=32:=rfl
 obtain⟨W,hW,f1,k1,s1⟩:=allocs1 w0 (bl K0) 34
 have r1:=rd_d Tryz.agg34 Tryz.sz34 k1 l0
 simp -implicitDefEqProofs only[go_sem,Nat.reduceEqDiff,Nat.reduceBEq,Nat.reduceAdd,gLa,gLz,gLs,Tryz.f35,Value.cells,hW,r1]
 refine contL_call Tryz.pl70 ((R.prove2 W (ht.no f1) 4 (hm.fr0 f1) Wit.kcom l0 (by decide) (by decide) hx2).mono ?_)
 rintro _ w2 ⟨f2,vv,sv,rfl,hvo,hso,n2,d2⟩
 have hbl:(R.setP 4 (List.replicate 32 0) 255 x2).1.length=32:=by unfold R.setP;split <;> simp
 have hpop:(R.setP 4 (List.replicate 32 0) 255 x2).2.length=R.pops (R.setP 4 (List.replicate 32 0) 255 x2).1:=by
  unfold R.setP
  split
  ·decide +kernel
  ·show 1=R.pops ((List.replicate 32 (0:Byte)).set (255 / 8) ((List.replicate 32 (0:Byte)).getD (255 / 8) 0 ||| BitVec.ofNat 8 (2 ^ (255 % 8))))
   decide +kernel
 generalize (R.setP 4 (List.replicate 32 0) 255 x2).1=bits at *
 generalize (R.setP 4 (List.replicate 32 0) 255 x2).2=sums at *
 have hsz:(R.prC true vv bits sv).toArray.size=35:=by rw[List.size_toArray];exact R.prC_len hbl
 have k0:=alloc_blk_new w2 (.cells R.prZ 122)
 have q3:wrO Tryz.prog 122 (w2.alloc (.cells R.prZ 122)) w2.heap.size 0 (.agg (R.prC true vv bits sv).toArray)=some (put (w2.alloc (.cells R.prZ 122)) w2.heap.size (.cells (R.prC true vv bits sv).toArray 122 (0,0))):=wr_all (by rw[hsz];exact Tryz.sz122) k0 (by rw[hsz];simp[R.prZ]) (R.prC_one hvo hso)
 have k3:=put_at (o:=.cells (R.prC true vv bits sv).toArray 122 (0,0)) k0
 have f3:No w2 (put (w2.alloc (.cells R.prZ 122)) w2.heap.size (.cells (R.prC true vv bits sv).toArray 122 (0,0))):=((Fr.refl _ _).alloc _).put (b:=w2.heap.size) _ fun h=>absurd h (Nat.lt_irrefl _)
 obtain⟨w3,hw3⟩:∃ w3,w3=put (w2.alloc (.cells R.prZ 122)) w2.heap.size (.cells (R.prC true vv bits sv).toArray 122 (0,0)):=⟨_,rfl⟩
 rw[← hw3] at q3 k3 f3
 have r3:rdO Tryz.prog 122 w3 w2.heap.size 0=some (.agg (R.prC true vv bits sv).toArray):=rd_all Tryz.agg122 (by rw[hsz];exact Tryz.sz122) k3
 simp -implicitDefEqProofs only[go_sem,Nat.reduceEqDiff,Nat.reduceBEq,Nat.reduceAdd,gLa,gLz,gLs,Value.cells,q3,r3]
 refine contL_call Tryz.pl71 ((R.encode12 w3 (n2.by.fr0 f3) (by decide) hbl (d2.rd.fr0 f3) hpop hvo hso).mono ?_)
 rintro _ w4 ⟨f4,v,rfl,n4⟩
 simp -implicitDefEqProofs only[go_sem,Nat.reduceEqDiff,Nat.reduceBEq,Nat.reduceAdd,gLa,gLz,gLs]
 exact⟨n4.back ((f1.trans f2).trans f3).size,((f1.trans f2).trans f3).trans f4⟩
set_option maxHeartbeats 4000000 in
theorem known (w0:World) (ht:Tabs w0):Fn Tryz.prog 11 #[] w0 fun v w'=>v=.bool true∧No w0 w':=by
 refine Tryz.go11 (by simp) ?_
 have l0:K0.length=32:=rfl
 have l1:K1.length=32:=rfl
 obtain⟨W1,q1,k1,f1,s1⟩:=R.allocD w0 (ty:=34) Tryz.sz34 l0
 obtain⟨W2,q2,k2,f2,s2⟩:=R.allocD W1 (ty:=34) Tryz.sz34 l1
 have k12:=f2.at k1 id
 have r1:=rd_d Tryz.agg34 Tryz.sz34 k12 l0
 have f02:=f1.trans f2
 simp -implicitDefEqProofs only[go_sem,Nat.reduceEqDiff,Nat.reduceBEq,Nat.reduceAdd,gLa,gLz,gLs,Tryz.f11,Value.cells,bl_zero,bldK0,q1,bldK1,q2,r1]
 refine contL_is (v:=.slice (some ⟨W2.heap.size,0,Option.none⟩) 1 1) (w':=W2.alloc (.cells (bl [120]) 5)) rfl ?_
 obtain⟨W3,hc3,f3,y3,s3⟩:=text_new (P:=Tryz.prog) Tryz.slc25 Tryz.int5 W2 [120]
 simp -implicitDefEqProofs only[go_sem,Nat.reduceEqDiff,Nat.reduceBEq,Nat.reduceAdd,gLa,gLz,gLs]
 refine contL_sem ⟨_,W3,hc3,?_⟩
 have r2:=rd_d Tryz.agg34 Tryz.sz34 ((f3).at k2 id) l1
 have bE1:=bldE (vv:=.slice (some ⟨W2.heap.size,0,Option.none⟩) ([120]:Bs).length ([120]:Bs).length) l0 rfl
 simp -implicitDefEqProofs only[go_sem,Nat.reduceEqDiff,Nat.reduceBEq,Nat.reduceAdd,gLa,gLz,gLs,bE1,r2]
 refine contL_is (v:=.slice (some ⟨W3.heap.size,0,Option.none⟩) 1 1) (w':=W3.alloc (.cells (bl [121]) 5)) rfl ?_
 obtain⟨W4,hc4,f4,y4,s4⟩:=text_new (P:=Tryz.prog) Tryz.slc25 Tryz.int5 W3 [121]
 simp -implicitDefEqProofs only[go_sem,Nat.reduceEqDiff,Nat.reduceBEq,Nat.reduceAdd,gLa,gLz,gLs]
 refine contL_sem ⟨_,W4,hc4,?_⟩
 have bE2:=bldE (vv:=.slice (some ⟨W3.heap.size,0,Option.none⟩) ([121]:Bs).length ([121]:Bs).length) l1 rfl
 have sE:=sl2_agg (P:=Tryz.prog) Tryz.slc66 Tryz.sz65 Tryz.zero65 rfl (by decide) (by decide) W4 (r1:=K0.map u8++[Value.slice (some ⟨W2.heap.size,0,Option.none⟩) ([120]:Bs).length ([120]:Bs).length]) (r2:=K1.map u8++[Value.slice (some ⟨W3.heap.size,0,Option.none⟩) ([121]:Bs).length ([121]:Bs).length]) rfl rfl
 simp -implicitDefEqProofs only[go_sem,Nat.reduceEqDiff,Nat.reduceBEq,Nat.reduceAdd,gLa,gLz,gLs,bE2,sE]
 have hm5:=enr2 W4 l0 l1 (v1:=.slice (some ⟨W2.heap.size,0,Option.none⟩) ([120]:Bs).length ([120]:Bs).length) (v2:=.slice (some ⟨W3.heap.size,0,Option.none⟩) ([121]:Bs).length ([121]:Bs).length) rfl rfl (y3.fr0 f4) y4
 have f5:No W4 (W4.alloc (.cells ((K0.map u8++[Value.slice (some ⟨W2.heap.size,0,Option.none⟩) ([120]:Bs).length ([120]:Bs).length])++(K1.map u8++[Value.slice (some ⟨W3.heap.size,0,Option.none⟩) ([121]:Bs).length ([121]:Bs).length])).toArray 65)):=(Fr.refl _ _).alloc _
 obtain⟨W5,hW5⟩:∃ W5,W5=(W4.alloc (.cells ((K0.map u8++[Value.slice (some ⟨W2.heap.size,0,Option.none⟩) ([120]:Bs).length ([120]:Bs).length])++(K1.map u8++[Value.slice (some ⟨W3.heap.size,0,Option.none⟩) ([121]:Bs).length ([121]:Bs).length])).toArray 65)):=⟨_,rfl⟩
 rw[← hW5] at hm5 f5 ⊢
 have f05:=((f02.trans f3).trans f4).trans f5
 have k15:=((f3.trans f4).trans f5).at k12 id
 have k25:=((f3.trans f4).trans f5).at k2 id
 generalize (Value.slice (some ⟨W4.heap.size,0,Option.none⟩) 2 2)=mv at *
 clear bE1 bE2 sE hc3 hc4 y3 y4 r1 r2 q1 q2
 obtain⟨x1,hx1⟩:=Wit.kLone0
 obtain⟨x2,hx2⟩:∃ x2,R.Lone 4 (K1,[121]) 255 x2:=⟨_,rfl⟩
 have kb0:kbit K0 0=false:=by decide +kernel
 have kb1:kbit K1 0=true:=by decide +kernel
 refine contL_call Tryz.pl31 ((R.root2 W5 (ht.no f05) 4 hm5 kb0 kb1 (by decide) (by decide) hx1 hx2).mono ?_)
 rintro _ w6 ⟨rfl,f6⟩
 have hver:=Wit.kVerify hx1 hx2
 have hpart:=Wit.kPart hx2
 have lr:(branchD 4 x1 x2).length=32:=branchD_len _ _ _
 generalize branchD 4 x1 x2=root at *
 obtain⟨W7,q7,k7,f7,s7⟩:=R.allocD w6 (ty:=23) Tryz.sz23 lr
 have f57:=f6.trans f7
 simp -implicitDefEqProofs only[go_sem,Nat.reduceEqDiff,Nat.reduceBEq,Nat.reduceAdd,gLa,gLz,gLs,Value.cells,bl_zero,q7]
 refine contL_is (v:=.slice (some ⟨W7.heap.size,0,Option.none⟩) 1 1) (w':=W7.alloc (.cells (bl [2]) 5)) rfl ?_
 have b8:NwB W7 (W7.alloc (.cells (bl [2]) 5)) (.slice (some ⟨W7.heap.size,0,Option.none⟩) 1 1) [2]:=mk_nw W7 W7 5 1 1 1 (bl [2]) (Nat.le_refl _) rfl (Nat.le_refl _)
 have f8:No W7 (W7.alloc (.cells (bl [2]) 5)):=(Fr.refl _ _).alloc _
 generalize W7.alloc (.cells (bl [2]) 5)=w8 at *
 generalize (Value.slice (some ⟨W7.heap.size,0,Option.none⟩) 1 1)=rv8 at *
 have zero:∀ (w:World) (v:Value) (bs:Bs),NwB W7 w v bs→bs.length≤1000→No W7 w→∃ v' w',(Builtin.append_ #[25,3] 0 #[v,.int .i64 32]).run Tryz.prog w=.ok v' w'∧NwB W7 w' v' (bs++List.replicate 32 0)∧No W7 w':=fun w v bs h hl f=>by
  obtain⟨v',w',hr,h1,h2,_⟩:=NwB.zeros (P:=Tryz.prog) (ts:=#[25,3]) rfl rfl Tryz.slc25 Tryz.int3 Tryz.sz5 Tryz.by5 Tryz.zero5 h (m:=32) (by decide) (by omega) (by decide) f.size
  exact⟨v',w',hr,h1,f.trans' h2 fun b hb hh=>by have:=(h.lt hh).1;omega⟩
 have four:∀ (w:World) (v:Value) (bs:Bs) (x:Byte),NwB W7 w v bs→bs.length≤1000→No W7 w→∃ v' w',(Builtin.append_ #[25,25] 0 #[v,.slice (some ⟨w.heap.size,0,Option.none⟩) 4 4]).run Tryz.prog (w.alloc (.cells (bl [1,1,0,x]) 5))=.ok v' w'∧NwB W7 w' v' (bs++[1,1,0,x])∧No W7 w':=fun w v bs x h hl f=>by
  obtain⟨v',w',hr,h1,h2,_⟩:=NwB.push (P:=Tryz.prog) Tryz.app25_25 h [1,1,0,x] (bd_small (by show (2*(bs.length+4)+768)*1≤2 ^ 48;omega)) (by show bs.length+4≤_;omega) f
  exact⟨v',w',hr,h1,h2⟩
 obtain⟨v9,w9,hr9,b9,f9⟩:=zero _ _ _ b8 (by decide) f8
 simp -implicitDefEqProofs only[go_sem,Nat.reduceEqDiff,Nat.reduceBEq,Nat.reduceAdd,gLa,gLz,gLs]
 refine contL_sem ⟨v9,w9,hr9,?_⟩
 obtain⟨v10,w10,hr10,b10,f10⟩:=four _ _ _ 120 b9 (by decide) f9
 simp -implicitDefEqProofs only[go_sem,Nat.reduceEqDiff,Nat.reduceBEq,Nat.reduceAdd,gLa,gLz,gLs]
 refine contL_is (v:=.slice (some ⟨w9.heap.size,0,Option.none⟩) 4 4) (w':=w9.alloc (.cells (bl [1,1,0,120]) 5)) rfl ?_
 simp -implicitDefEqProofs only[go_sem,Nat.reduceEqDiff,Nat.reduceBEq,Nat.reduceAdd,gLa,gLz,gLs]
 refine contL_sem ⟨v10,w10,hr10,?_⟩
 obtain⟨v11,w11,hr11,b11,f11⟩:=zero _ _ _ b10 (by decide) f10
 simp -implicitDefEqProofs only[go_sem,Nat.reduceEqDiff,Nat.reduceBEq,Nat.reduceAdd,gLa,gLz,gLs]
 refine contL_sem ⟨v11,w11,hr11,?_⟩
 obtain⟨v12,w12,hr12,b12,f12⟩:=four _ _ _ 121 b11 (by decide) f11
 simp -implicitDefEqProofs only[go_sem,Nat.reduceEqDiff,Nat.reduceBEq,Nat.reduceAdd,gLa,gLz,gLs]
 refine contL_is (v:=.slice (some ⟨w11.heap.size,0,Option.none⟩) 4 4) (w':=w11.alloc (.cells (bl [1,1,0,121]) 5)) rfl ?_
 simp -implicitDefEqProofs only[go_sem,Nat.reduceEqDiff,Nat.reduceBEq,Nat.reduceAdd,gLa,gLz,gLs]
 refine contL_sem ⟨v12,w12,hr12,?_⟩
 obtain⟨v13,w13,hr13,b13,f13⟩:=zero _ _ _ b12 (by decide) f12
 have b13:NwB W7 w13 v13 kRaw:=b13
 have f513:=f57.trans f13
 have f013:=f05.trans f513
 have r13a:=rd_d Tryz.agg23 Tryz.sz23 (f13.at k7 id) lr
 have r13b:=rd_d Tryz.agg34 Tryz.sz34 (f513.at k15 id) l0
 have r13c:=rd_d Tryz.agg34 Tryz.sz34 (f513.at k25 id) l1
 have sK:=sl2_agg (P:=Tryz.prog) Tryz.slc24 Tryz.sz34 Tryz.zero34 rfl (by decide) (by decide) w13 (r1:=K1.map u8) (r2:=K0.map u8) rfl rfl
 simp -implicitDefEqProofs only[go_sem,Nat.reduceEqDiff,Nat.reduceBEq,Nat.reduceAdd,gLa,gLz,gLs]
 refine contL_sem ⟨v13,w13,hr13,?_⟩
 simp -implicitDefEqProofs only[go_sem,Nat.reduceEqDiff,Nat.reduceBEq,Nat.reduceAdd,gLa,gLz,gLs,r13a,r13b,r13c,sK]
 have hk14:=keys2 w13 l1 l0
 have f14:No w13 (w13.alloc (.cells (K1.map u8++K0.map u8).toArray 34)):=(Fr.refl _ _).alloc _
 obtain⟨w14,hw14⟩:∃ w14,w14=w13.alloc (.cells (K1.map u8++K0.map u8).toArray 34):=⟨_,rfl⟩
 rw[← hw14] at hk14 f14 ⊢
 have f014:=f013.trans f14
 refine contL_call Tryz.pl23 ((V.verify w14 (ht.no f014) 4 lr hk14 (b13.by.fr0 f14)).mono ?_)
 intro r w15 h15
 obtain⟨f15,v15,rfl,a15⟩:=h15.okd hver
 have f015:=f014.trans f15
 obtain⟨ab,ao,ac,y0,rfl,hy0,hr0⟩:=a15.at (i:=0) (by decide)
 obtain⟨ab',ao',ac',y1,e,hy1,hr1⟩:=a15.at (i:=1) (by decide)
 cases e
 have z0:(0:Int)≤0∧(0:Int)<((([some [121],some [120]]:List (Option Bs)).length:Nat):Int):=by decide
 have z1:(0:Int)≤1∧(1:Int)<((([some [121],some [120]]:List (Option Bs)).length:Nat):Int):=by decide
 have dl:(((([some [121],some [120]]:List (Option Bs)).length:Nat):Int) != 2)=false:=rfl
 obtain⟨p0,p0'⟩:=hr0 w15 (Fr.refl _ _)
 have p0:rdO Tryz.prog 4 w15 ab ao=some (.bool true):=p0
 have p0':rdO Tryz.prog 25 w15 ab (ao+1)=some y0:=p0'
 obtain⟨W16,hc16,f16,t16,s16⟩:=text_new (P:=Tryz.prog) Tryz.slc25 Tryz.int5 w15 [121]
 simp -implicitDefEqProofs only[go_sem,Nat.reduceEqDiff,Nat.reduceBEq,Nat.reduceAdd,gLa,gLz,gLs,bne_self_eq_false,dl,z0,and_self,Int.toNat_zero,Nat.zero_mul,Nat.add_zero,p0,p0',ft_beq,tf_beq,beq_self_eq_true]
 refine contL_is (v:=.slice (some ⟨w15.heap.size,0,Option.none⟩) 1 1) (w':=w15.alloc (.cells (bl [121]) 5)) rfl ?_
 simp -implicitDefEqProofs only[go_sem,Nat.reduceEqDiff,Nat.reduceBEq,Nat.reduceAdd,gLa,gLz,gLs]
 refine contL_sem ⟨_,W16,hc16,?_⟩
 simp -implicitDefEqProofs only[go_sem,Nat.reduceEqDiff,Nat.reduceBEq,Nat.reduceAdd,gLa,gLz,gLs,ft_beq,tf_beq,beq_self_eq_true]
 refine contL_call Tryz.pl26 ((same W16 (hy0.fr0 f16) t16 (by decide)).mono ?_)
 rintro _ w17 ⟨rfl,f17⟩
 have e1:(!decide ((([some [121],some [120]]:List (Option Bs)).getD 0 none).getD []=([121]:Bs)))=false:=by decide
 have f1517:=f16.trans f17
 obtain⟨p1,p1'⟩:=hr1 w17 f1517
 have p1':rdO Tryz.prog 25 w17 ab (ao+1*2+1)=some y1:=p1'
 obtain⟨W18,hc18,f18,t18,s18⟩:=text_new (P:=Tryz.prog) Tryz.slc25 Tryz.int5 w17 [120]
 simp -implicitDefEqProofs only[go_sem,Nat.reduceEqDiff,Nat.reduceBEq,Nat.reduceAdd,gLa,gLz,gLs,e1,z1,and_self,Int.toNat_one,p1',ft_beq,tf_beq,beq_self_eq_true]
 refine contL_is (v:=.slice (some ⟨w17.heap.size,0,Option.none⟩) 1 1) (w':=w17.alloc (.cells (bl [120]) 5)) rfl ?_
 simp -implicitDefEqProofs only[go_sem,Nat.reduceEqDiff,Nat.reduceBEq,Nat.reduceAdd,gLa,gLz,gLs]
 refine contL_sem ⟨_,W18,hc18,?_⟩
 simp -implicitDefEqProofs only[go_sem,Nat.reduceEqDiff,Nat.reduceBEq,Nat.reduceAdd,gLa,gLz,gLs,ft_beq,tf_beq,beq_self_eq_true]
 refine contL_call Tryz.pl26 ((same W18 (hy1.fr0 (f1517.trans f18)) t18 (by decide)).mono ?_)
 rintro _ w19 ⟨rfl,f19⟩
 have e2:(!decide ((([some [121],some [120]]:List (Option Bs)).getD 1 none).getD []=([120]:Bs)))=false:=by decide
 have f1519:=(f1517.trans f18).trans f19
 have f019:=f015.trans f1519
 have fk:=(f14.trans f15).trans f1519
 have r19:=rd_d Tryz.agg23 Tryz.sz23 (fk.at (f13.at k7 id) id) lr
 have s00:sl2 Tryz.prog 25 w19 (.int .u8 0) (.int .u8 0)=some (.slice (some ⟨w19.heap.size,0,Option.none⟩) 2 2,w19.alloc (.cells (bl [0,0]) 5)):=rfl
 have b20:NwB w19 (w19.alloc (.cells (bl [0,0]) 5)) (.slice (some ⟨w19.heap.size,0,Option.none⟩) 2 2) [0,0]:=mk_nw w19 w19 5 1 2 2 (bl [0,0]) (Nat.le_refl _) rfl (Nat.le_refl _)
 have f20:No w19 (w19.alloc (.cells (bl [0,0]) 5)):=(Fr.refl _ _).alloc _
 obtain⟨w20,hw20⟩:∃ w20,w20=w19.alloc (.cells (bl [0,0]) 5):=⟨_,rfl⟩
 rw[← hw20] at s00 b20 f20
 simp -implicitDefEqProofs only[go_sem,Nat.reduceEqDiff,Nat.reduceBEq,Nat.reduceAdd,gLa,gLz,gLs,e2,r19,s00,ft_beq,tf_beq,beq_self_eq_true]
 refine contL_call Tryz.pl32 ((step00 w20 (ht.no (f019.trans f20)) lr b20.by).mono ?_)
 rintro _ w21 ⟨rfl,f21⟩
 obtain⟨W22,q22,k22,f22,s22⟩:=R.allocD w21 (ty:=23) Tryz.sz23 lr
 have fk22:=((fk.trans f20).trans f21).trans f22
 have f022:=((f019.trans f20).trans f21).trans f22
 have r22a:=rd_d Tryz.agg34 Tryz.sz34 (fk22.at (f513.at k15 id) id) l0
 have r22b:=rd_d Tryz.agg34 Tryz.sz34 (fk22.at (f513.at k25 id) id) l1
 have sK:=sl2_agg (P:=Tryz.prog) Tryz.slc24 Tryz.sz34 Tryz.zero34 rfl (by decide) (by decide) W22 (r1:=K0.map u8) (r2:=K1.map u8) rfl rfl
 have hk23:=keys2 W22 l0 l1
 have f23:No W22 (W22.alloc (.cells (K0.map u8++K1.map u8).toArray 34)):=(Fr.refl _ _).alloc _
 obtain⟨w23,hw23⟩:∃ w23,w23=W22.alloc (.cells (K0.map u8++K1.map u8).toArray 34):=⟨_,rfl⟩
 rw[← hw23] at sK hk23 f23
 have r23:rdO Tryz.prog 34 w23 w0.heap.size 0=some (dg K0):=rd_d Tryz.agg34 Tryz.sz34 (f23.at (fk22.at (f513.at k15 id) id) id) l0
 simp -implicitDefEqProofs only[go_sem,Nat.reduceEqDiff,Nat.reduceBEq,Nat.reduceAdd,gLa,gLz,gLs,Value.cells,bl_zero,q22,r22a,r22b,sK,r23]
 refine contL_call Tryz.pl33 ((partW w23 (ht.no (f022.trans f23)) 4 hk23 (b13.by.fr0 (fk22.trans f23)) l0).mono ?_)
 intro r w24 h24
 obtain⟨f24,v24,rfl,n24⟩:=h24.okd hpart
 have fk24:=(fk22.trans f23).trans f24
 have f024:=(f022.trans f23).trans f24
 have r24:=rd_d Tryz.agg23 Tryz.sz23 (fk24.at (f13.at k7 id) id) lr
 simp -implicitDefEqProofs only[go_sem,Nat.reduceEqDiff,Nat.reduceBEq,Nat.reduceAdd,gLa,gLz,gLs,r24]
 refine contL_call Tryz.pl34 ((gather00 w24 (ht.no f024) lr).mono ?_)
 rintro _ w25 ⟨rfl,f25⟩
 have fk25:=fk24.trans f25
 have f025:=f024.trans f25
 have r25:=rd_d Tryz.agg23 Tryz.sz23 (fk25.at (f13.at k7 id) id) lr
 have r25b:=rd_d Tryz.agg23 Tryz.sz23 (((f23.trans f24).trans f25).at k22 id) lr
 have r25c:=rd_d Tryz.agg34 Tryz.sz34 (fk25.at (f513.at k15 id) id) l0
 have eq:=eqDig lr lr
 have hb:(root == root)=true:=by simp
 simp -implicitDefEqProofs only[go_sem,Nat.reduceEqDiff,Nat.reduceBEq,Nat.reduceAdd,gLa,gLz,gLs,r25,r25b,r25c,eq,hb,ft_beq,tf_beq,beq_self_eq_true]
 refine contL_call Tryz.pl35 ((bytes2 w25 (ht.no f025) (hm5.fr0 (f513.trans fk25)) hx2).mono ?_)
 rintro v26 w26 ⟨n26,f26⟩
 have hl26:(Wit.ansT (some [120])++(R.setP 4 (List.replicate 32 0) 255 x2).1++(R.setP 4 (List.replicate 32 0) 255 x2).2.flatten).length≤2 ^ 50:=by
  have h1:(R.setP 4 (List.replicate 32 0) 255 x2).1.length=32:=by unfold R.setP;split <;> simp
  have h2:(R.setP 4 (List.replicate 32 0) 255 x2).2.flatten.length≤32:=by
   unfold R.setP
   split
   ·simp
   ·have:=hx2.len;simp[this]
  rw[List.length_append,List.length_append,h1]
  have:(Wit.ansT (some [120])).length=4:=by simp[Wit.ansT]
  omega
 generalize (Wit.ansT (some [120])++(R.setP 4 (List.replicate 32 0) 255 x2).1++(R.setP 4 (List.replicate 32 0) 255 x2).2.flatten)=out at *
 simp -implicitDefEqProofs only[go_sem,Nat.reduceEqDiff,Nat.reduceBEq,Nat.reduceAdd,gLa,gLz,gLs,ft_beq,tf_beq,beq_self_eq_true]
 refine contL_call Tryz.pl26 ((same w26 (n24.by.fr0 (f25.trans f26)) n26.by hl26).mono ?_)
 rintro _ w27 ⟨rfl,f27⟩
 have e3:decide (out=out)=true:=by simp
 have e4:(((0:Nat):Int) == 0)=true:=rfl
 simp -implicitDefEqProofs only[go_sem,Nat.reduceEqDiff,Nat.reduceBEq,Nat.reduceAdd,gLa,gLz,gLs,e3,e4,decide_true,ft_beq,tf_beq,beq_self_eq_true]
 exact (f025.trans f26).trans f27
end Go.V
end
section
namespace Go.V
open Go.Proofs Sha
set_option maxRecDepth 100000
def errOf {α:Type}:Except Int α→Int
 | .error e=>e
 | .ok _=>0
theorem By.blk {w:World} {v:Value} {bs:Bs} (h:By w v bs) (h0:0<bs.length) {b:Nat} (hb:blockOf v=some b):b<w.heap.size:=by
 obtain⟨hl,a,cap,rfl,hc,hat⟩:=h
 obtain⟨b',o,rfl,hat2⟩:=hat (by omega)
 simp only[blockOf,Option.some.injEq] at hb
 subst hb
 have:=hat2 0 (by omega)
 rw[List.getElem?_eq_getElem (by rw[List.length_map];omega)] at this
 exact rc_lt this
end Go.V
end
section
namespace Go.V
open Go.Proofs Sha
set_option maxRecDepth 100000
theorem Pl.ge {w0 w:World} {pb:Nat} {kq:Nat × Nat × Nat} {iv av:Value} {qs:List (Nat × Nat × Nat)} {ks ts:List Bs} (h:Pl w0 w pb kq iv av qs ks ts) {b:Nat} (hb:Pl.W kq qs b):w0.heap.size≤b∧b<w.heap.size:=by
 unfold Pl.W at hb
 rcases List.mem_cons.1 hb with rfl | hb
 ·exact h.key.lt rfl
 ·obtain⟨q,hq,rfl⟩:=List.mem_map.1 hb
  obtain⟨i,hi,rfl⟩:=List.getElem_of_mem hq
  exact (h.txt i hi (by rw[← h.len];exact hi)).lt rfl
end Go.V
end
section
namespace Go.V
open Go.Proofs Sha
set_option maxRecDepth 100000
def chRow (c:Bat.Ch) (v:Value):List Value:=c.key.map u8++[.bool c.del,v]
/-- changes side by side in memory -/
def ChR (w:World) (v:Value) (cs:List Bat.Ch):Prop:=∃ rows,RdR w 34 v rows∧rows.length=cs.length∧∀ i (h:i<rows.length) (h':i<cs.length),∃ vv,rows[i]=chRow cs[i] vv∧one vv=true∧By w vv cs[i].val∧(cs[i].del=true→vv=.slice Option.none 0 0)∧cs[i].key.length=32
theorem ChR.fr0 {w w':World} {v:Value} {cs:List Bat.Ch} (h:ChR w v cs) (f:No w w'):ChR w' v cs:=by
 obtain⟨rows,h1,h2,h3⟩:=h
 refine⟨rows,h1.fr0 f,h2,fun i a b=>?_⟩
 obtain⟨vv,e1,e2,e3,e4,e5⟩:=h3 i a b
 exact⟨vv,e1,e2,e3.fr0 f,e4,e5⟩
theorem ChR.slice {w:World} {v:Value} {cs:List Bat.Ch} (h:ChR w v cs):∃ a cap,v=.slice a cs.length cap∧cs.length≤cap:=by
 obtain⟨rows,h1,h2,_⟩:=h
 have:=h1.slice
 rw[h2] at this;exact this
theorem ChR.key {w:World} {v:Value} {cs:List Bat.Ch} (h:ChR w v cs) (hp:0<cs.length):∃ b o cap,v=.slice (some ⟨b,o,Option.none⟩) cs.length cap∧∀ w',No w w'→∀ i,i<cs.length→rdO Tryz.prog 34 w' b (o+i*34)=some (dg (cs.map Bat.Ch.key)[i]!)∧((cs.map Bat.Ch.key)[i]!).length=32:=by
 obtain⟨rows,h1,h2,h3⟩:=h
 obtain⟨b,o,cap,rfl,hc⟩:=h1.pos (by decide) (by omega)
 refine⟨b,o,cap,by rw[h2],fun w' f i hi=>?_⟩
 obtain⟨vv,e1,_,_,_,e5⟩:=h3 i (by omega) hi
 have hk:(cs.map Bat.Ch.key)[i]! =cs[i].key:=by simp[List.getElem!_eq_getElem?_getD,hi]
 rw[hk]
 refine⟨?_,e5⟩
 have:=(h1.fr0 f).sub (P:=Tryz.prog) (t:=34) (m:=32) Tryz.agg34 Tryz.sz34 (by decide) (i:=i) (by omega) (j:=0) (by decide) (xs:=cs[i].key.map u8) (by simp[e5]) (fun q hq=>by
  rw[e1,chRow,Nat.zero_add,List.getElem?_append_left (by simp[e5];exact hq)])
 rw[Nat.add_zero] at this
 exact this
def rpJ (w0:World) (sv:Value) (ks:List Bs) (i:Nat) (n:Nat) (vs:List Value) (w:World):Prop :=
 ∃ (j:Nat),vs=[sv,.int .i64 (-1),.int .i64 (i:Nat),.int .i64 (ks.length:Nat),.int .i64 (i:Nat),.int .i64 (i:Nat),.int .i64 (j:Nat)]∧j≤i∧n=i - j∧(∀ q,q<j→ks[i]!≠ks[q]!)∧No w0 w
def rpI (w0:World) (sv:Value) (ks:List Bs) (n:Nat) (vs:List Value) (w:World):Prop :=
 ∃ (i:Nat),vs=[sv,.int .i64 (-1),.int .i64 (ks.length:Nat),.int .i64 (i:Nat)]∧i≤ks.length∧n=ks.length - i∧(∀ p,p<i→∀ q,q<p→ks[p]!≠ks[q]!)∧No w0 w
theorem nodup_at {ks:List Bs}:ks.Nodup ↔ ∀ p,p<ks.length→∀ q,q<p→ks[p]!≠ks[q]!:=by
 rw[List.Nodup,List.pairwise_iff_getElem]
 constructor
 ·intro h p hp q hq e
  refine h q p (by omega) hp hq ?_
  simpa [List.getElem!_eq_getElem?_getD,hp,show q<ks.length by omega] using e.symm
 ·intro h i j hi hj hij e
  refine h j hj i hij ?_
  simpa [List.getElem!_eq_getElem?_getD,hi,hj] using e.symm
set_option maxHeartbeats 1000000 in
theorem repeated (w0:World) {sv:Value} {cs:List Bat.Ch} (h:ChR w0 sv cs) (hl:cs.length≤2 ^ 40):Fn Tryz.prog 168 #[sv] w0 fun v w'=>No w0 w'∧∃ z:Int,v=.int .i64 z∧(0≤z ↔ ¬ (cs.map Bat.Ch.key).Nodup):=by
 refine Tryz.go168 (by simp) ?_
 obtain⟨a,cap,rfl,hcap⟩:=h.slice
 have hkl:cs.length=(cs.map Bat.Ch.key).length:=by simp
 have hk:=h.key
 rw[hkl] at hk ⊢
 rw[hkl] at hl
 generalize cs.map Bat.Ch.key=ks at *
 simp -implicitDefEqProofs only[go_sem,Nat.reduceEqDiff,Nat.reduceBEq,Nat.reduceAdd,gLa,gLz,gLs,Tryz.f168]
 refine den_scope (by kernel_rfl) ?_
 simp -implicitDefEqProofs only[go_sem,Nat.reduceEqDiff,Nat.reduceBEq,Nat.reduceAdd,gLa,gLz,gLs]
 refine loopD [0,3,7,8] (rpI w0 (.slice a ks.length cap) ks) ks.length ⟨0,rfl,by omega,rfl,fun p hp=>by omega,Fr.refl _ _⟩ ?_
 rintro _ vs w2 g ⟨i,rfl,hi,rfl,hno,f2⟩
 by_cases hlt:i<ks.length
 ·have d1:decide ((i:Int)<((ks.length:Nat):Int))=true:=by simp;omega
  simp -implicitDefEqProofs only[go_sem,Nat.reduceEqDiff,Nat.reduceBEq,Nat.reduceAdd,gLa,gLz,gLs,d1]
  refine loopD [0,3,4,7,8,11,12] (rpJ w0 (.slice a ks.length cap) ks i) i ⟨0,rfl,by omega,rfl,fun q hq=>by omega,f2⟩ ?_
  rintro _ vs w3 g ⟨j,rfl,hj,rfl,hnj,f3⟩
  obtain⟨b,o,cap',e,hrd⟩:=hk (by omega)
  cases e
  by_cases hji:j<i
  ·have d2:decide ((j:Int)<(i:Int))=true:=by simp;omega
   obtain⟨q1,l1⟩:=hrd w3 f3 i hlt
   obtain⟨q2,l2⟩:=hrd w3 f3 j (by omega)
   obtain⟨q1d,_⟩:=hrd w3.drew f3.drew i hlt
   obtain⟨q2d,_⟩:=hrd w3.drew f3.drew j (by omega)
   have y1:(0:Int)≤(i:Int)∧(i:Int)<((ks.length:Nat):Int):=by omega
   have y2:(0:Int)≤(j:Int)∧(j:Int)<((ks.length:Nat):Int):=by omega
   have eq:=eqKey l1 l2
   have c2:IntKind.i64.wrap ((j:Int)+1)=((j+1:Nat):Int):=i64add (b:=1) (by omega)
   by_cases he:ks[i]! =ks[j]!
   ·have hb:(ks[i]! == ks[j]!)=true:=by rw[beq_iff_eq];exact he
    simp -implicitDefEqProofs only[go_sem,Nat.reduceEqDiff,Nat.reduceBEq,Nat.reduceAdd,gLa,gLz,gLs,d2,y1,y2,and_self,Int.toNat_natCast,q1,q2,q1d,q2d,eq,hb,Nat.add_zero]
    exact⟨f3.drew,(i:Int),rfl,iff_of_true (by omega) (fun hn=>nodup_at.1 hn i hlt j hji he)⟩
   ·have hb:(ks[i]! == ks[j]!)=false:=by rw[beq_eq_false_iff_ne];exact he
    simp -implicitDefEqProofs only[go_sem,Nat.reduceEqDiff,Nat.reduceBEq,Nat.reduceAdd,gLa,gLz,gLs,d2,y1,y2,and_self,Int.toNat_natCast,q1,q2,q1d,q2d,eq,hb,c2,Nat.add_zero]
    exact⟨i - (j+1),by omega,j+1,rfl,by omega,rfl,fun q hq=>by
     by_cases hqj:q=j
     ·subst hqj;exact he
     ·exact hnj q (by omega),f3.drew⟩
  ·have d2:decide ((j:Int)<(i:Int))=false:=by simp;omega
   obtain rfl:j=i:=by omega
   have c1:IntKind.i64.wrap ((j:Int)+1)=((j+1:Nat):Int):=i64add (b:=1) (by omega)
   simp -implicitDefEqProofs only[go_sem,Nat.reduceEqDiff,Nat.reduceBEq,Nat.reduceAdd,gLa,gLz,gLs,d2,c1]
   exact⟨ks.length - (j+1),by omega,j+1,rfl,by omega,rfl,fun p hp=>by
    by_cases hpj:p=j
    ·subst hpj;exact hnj
    ·exact hno p (by omega),f3⟩
 ·have d1:decide ((i:Int)<((ks.length:Nat):Int))=false:=by simp;omega
  obtain rfl:i=ks.length:=by omega
  simp -implicitDefEqProofs only[go_sem,Nat.reduceEqDiff,Nat.reduceBEq,Nat.reduceAdd,gLa,gLz,gLs,d1]
  exact⟨f2,-1,rfl,iff_of_false (by omega) (fun h=>h (nodup_at.2 hno))⟩
end Go.V
end
