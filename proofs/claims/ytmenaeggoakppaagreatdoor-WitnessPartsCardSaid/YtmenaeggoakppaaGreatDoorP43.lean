/-
  Helpers: LawB, LawI, LawJ, LawK.
-/
import Derived.Test.YtmenaeggoakppaaGreatDoorP41
import Derived.Test.YtmenaeggoakppaaGreatDoorP42
set_option linter.all false
section
namespace Go.V
open Go.Proofs Sha
set_option maxRecDepth 100000
open Wit (K0 K1 kRaw)
theorem bldK0 : bldO Tryz.prog 34 [] = some (dg K0):=by kernel_rfl
theorem bldK1 : bldO Tryz.prog 34 [(0,.int .u8 128)] = some (dg K1):=by kernel_rfl
theorem bldE {k : Bs} {vv : Value} (hk : k.length = 32) (h : one vv = true) : bldO Tryz.prog 65 [(0,dg k),(1,vv)] = some (.agg (k.map u8 ++ [vv]).toArray):=by
  simp only [bldO,Tryz.zero65,Tryz.places65,Option.bind_some]
  have hz : (Value.agg (Array.replicate 32 (.int .u8 0) ++ #[Value.slice Option.none 0 0])).cells.size = 33:=rfl
  have e : (dg k).cells.toList = k.map u8:=rfl
  rw [fill_cons (off:=0) (n:=32) rfl (by simp [Value.cells,hk]) (by rw [hz]; decide),fill_one1 (off:=32) rfl h (by rw [storeL_size,hz]; decide),fill_nil',Option.map_some]
  congr 2
  apply Array.toList_inj.1
  rw [Array.toList_setIfInBounds,e,storeL_list _ _ _ (by rw [hz,List.length_map,hk]; decide)]
  simp [Value.cells,hk]
theorem VeQ.okd {w0 w' : World} {x : Except Int (List (Option Bs))} {an : List (Option Bs)} {r : Value} (h : VeQ w0 x r w') (hx : x = .ok an) : No w0 w' ∧ ∃ v,r = .tuple #[v,.int .i64 0] ∧ AnL w' v an:=by subst hx; exact h
theorem BsQ.okd {w0 w' : World} {x : Except Int Bs} {bs : Bs} {r : Value} (h : BsQ w0 x r w') (hx : x = .ok bs) : No w0 w' ∧ ∃ v,r = .tuple #[v,.int .i64 0] ∧ NwB w0 w' v bs:=by subst hx; exact h
/-- two entries laid side by side -/
theorem enr2 (w : World) {k1 k2 : Bs} {v1 v2 : Value} {x1 x2 : Bs} (h1 : k1.length = 32) (h2 : k2.length = 32) (o1 : one v1 = true) (o2 : one v2 = true) (y1 : By w v1 x1) (y2 : By w v2 x2) :
    EnR (w.alloc (.cells ((k1.map u8 ++ [v1]) ++ (k2.map u8 ++ [v2])).toArray 65)) (.slice (some ⟨w.heap.size,0,Option.none⟩) 2 2) [(k1,x1),(k2,x2)]:=by
  have f : No w (w.alloc (.cells ((k1.map u8 ++ [v1]) ++ (k2.map u8 ++ [v2])).toArray 65)):=(Fr.refl _ _).alloc _
  refine ⟨[enRow (k1,x1) v1,enRow (k2,x2) v2],⟨fun r hr => ?_,?_⟩,rfl,fun i h h' => ?_⟩
  · simp only [List.mem_cons,List.not_mem_nil,or_false] at hr
    rcases hr with rfl | rfl
    · exact ⟨by simp [enRow,h1],by simp only [enRow,List.all_append,u8s_one,List.all_cons,List.all_nil,o1]; rfl⟩
    · exact ⟨by simp [enRow,h2],by simp only [enRow,List.all_append,u8s_one,List.all_cons,List.all_nil,o2]; rfl⟩
  · refine ⟨by simp [enRow,h1,h2],_,_,rfl,Nat.le_refl _,fun _ => ⟨_,_,rfl,fun i hi => ?_⟩⟩
    rw [rc_of_row (alloc_blk_new _ _),Nat.zero_add,List.getElem?_toArray]
    simp [enRow]
  · rcases i with _ | _ | i
    · exact ⟨v1,rfl,h1,o1,y1.fr0 f⟩
    · exact ⟨v2,rfl,h2,o2,y2.fr0 f⟩
    · exfalso; simp only [List.length_cons,List.length_nil] at h; omega
/-- two keys laid side by side -/
theorem keys2 (w : World) {k1 k2 : Bs} (h1 : k1.length = 32) (h2 : k2.length = 32) :
    RdD (w.alloc (.cells (k1.map u8 ++ k2.map u8).toArray 34)) (.slice (some ⟨w.heap.size,0,Option.none⟩) 2 2) [k1,k2]:=by
  refine ⟨All32.cons h1 (All32.one h2),by simp [flat,h1,h2],_,_,rfl,Nat.le_refl _,fun _ => ⟨_,_,rfl,fun i hi => ?_⟩⟩
  rw [rc_of_row (alloc_blk_new _ _),Nat.zero_add,List.getElem?_toArray]
  simp [flat]
theorem bytes2 (w0 : World) (ht : Tabs w0) {mv : Value} (hm : EnR w0 mv [(K0, [120]), (K1, [121])]) {x2 : Bs} (hx2 : R.Lone 4 (K1, [121]) 255 x2) :
    Fn Tryz.prog 35 #[.int .i64 4,mv,dg K0] w0 fun v w' => NwB w0 w' v (Wit.ansT (some [120]) ++ (R.setP 4 (List.replicate 32 0) 255 x2).1 ++ (R.setP 4 (List.replicate 32 0) 255 x2).2.flatten) ∧ No w0 w':=by
  refine Tryz.go35 (by simp) ?_
  have l0 : K0.length = 32:=rfl
  obtain ⟨W,hW,f1,k1,s1⟩:=allocs1 w0 (bl K0) 34
  have r1:=rd_d Tryz.agg34 Tryz.sz34 k1 l0
  simp -implicitDefEqProofs only [go_sem,Nat.reduceEqDiff,Nat.reduceBEq,Nat.reduceAdd,gLa,gLz,gLs,Tryz.f35,Value.cells,hW,r1]
  refine contL_call Tryz.pl70 ((R.prove2 W (ht.no f1) 4 (hm.fr0 f1) Wit.kcom l0 (by decide) (by decide) hx2).mono ?_)
  rintro _ w2 ⟨f2,vv,sv,rfl,hvo,hso,n2,d2⟩
  have hbl : (R.setP 4 (List.replicate 32 0) 255 x2).1.length = 32:=by unfold R.setP; split <;> simp
  have hpop : (R.setP 4 (List.replicate 32 0) 255 x2).2.length = R.pops (R.setP 4 (List.replicate 32 0) 255 x2).1:=by
    unfold R.setP
    split
    · decide +kernel
    · show 1 = R.pops ((List.replicate 32 (0 : Byte)).set (255 / 8) ((List.replicate 32 (0 : Byte)).getD (255 / 8) 0 ||| BitVec.ofNat 8 (2 ^ (255 % 8))))
      decide +kernel
  generalize (R.setP 4 (List.replicate 32 0) 255 x2).1 = bits at *
  generalize (R.setP 4 (List.replicate 32 0) 255 x2).2 = sums at *
  have hsz : (R.prC true vv bits sv).toArray.size = 35:=by rw [List.size_toArray]; exact R.prC_len hbl
  have k0:=alloc_blk_new w2 (.cells R.prZ 122)
  have q3 : wrO Tryz.prog 122 (w2.alloc (.cells R.prZ 122)) w2.heap.size 0 (.agg (R.prC true vv bits sv).toArray) = some (put (w2.alloc (.cells R.prZ 122)) w2.heap.size (.cells (R.prC true vv bits sv).toArray 122 (0,0))):=wr_all (by rw [hsz]; exact Tryz.sz122) k0 (by rw [hsz]; simp [R.prZ]) (R.prC_one hvo hso)
  have k3:=put_at (o:=.cells (R.prC true vv bits sv).toArray 122 (0,0)) k0
  have f3 : No w2 (put (w2.alloc (.cells R.prZ 122)) w2.heap.size (.cells (R.prC true vv bits sv).toArray 122 (0,0))):=((Fr.refl _ _).alloc _).put (b:=w2.heap.size) _ fun h => absurd h (Nat.lt_irrefl _)
  obtain ⟨w3,hw3⟩ : ∃ w3,w3 = put (w2.alloc (.cells R.prZ 122)) w2.heap.size (.cells (R.prC true vv bits sv).toArray 122 (0,0)):=⟨_,rfl⟩
  rw [← hw3] at q3 k3 f3
  have r3 : rdO Tryz.prog 122 w3 w2.heap.size 0 = some (.agg (R.prC true vv bits sv).toArray):=rd_all Tryz.agg122 (by rw [hsz]; exact Tryz.sz122) k3
  simp -implicitDefEqProofs only [go_sem,Nat.reduceEqDiff,Nat.reduceBEq,Nat.reduceAdd,gLa,gLz,gLs,Value.cells,q3,r3]
  refine contL_call Tryz.pl71 ((R.encode12 w3 (n2.by.fr0 f3) (by decide) hbl (d2.rd.fr0 f3) hpop hvo hso).mono ?_)
  rintro _ w4 ⟨f4,v,rfl,n4⟩
  simp -implicitDefEqProofs only [go_sem,Nat.reduceEqDiff,Nat.reduceBEq,Nat.reduceAdd,gLa,gLz,gLs]
  exact ⟨n4.back ((f1.trans f2).trans f3).size,((f1.trans f2).trans f3).trans f4⟩
set_option maxHeartbeats 4000000 in
theorem known (w0 : World) (ht : Tabs w0) : Fn Tryz.prog 11 #[] w0 fun v w' => v = .bool true ∧ No w0 w':=by
  refine Tryz.go11 (by simp) ?_
  have l0 : K0.length = 32:=rfl
  have l1 : K1.length = 32:=rfl
  obtain ⟨W1,q1,k1,f1,s1⟩:=R.allocD w0 (ty:=34) Tryz.sz34 l0
  obtain ⟨W2,q2,k2,f2,s2⟩:=R.allocD W1 (ty:=34) Tryz.sz34 l1
  have k12:=f2.at k1 id
  have r1:=rd_d Tryz.agg34 Tryz.sz34 k12 l0
  have f02:=f1.trans f2
  simp -implicitDefEqProofs only [go_sem,Nat.reduceEqDiff,Nat.reduceBEq,Nat.reduceAdd,gLa,gLz,gLs,Tryz.f11,Value.cells,bl_zero,bldK0,q1,bldK1,q2,r1]
  refine contL_is (v:=.slice (some ⟨W2.heap.size,0,Option.none⟩) 1 1) (w':=W2.alloc (.cells (bl [120]) 5)) rfl ?_
  obtain ⟨W3,hc3,f3,y3,s3⟩:=text_new (P:=Tryz.prog) Tryz.slc25 Tryz.int5 W2 [120]
  simp -implicitDefEqProofs only [go_sem,Nat.reduceEqDiff,Nat.reduceBEq,Nat.reduceAdd,gLa,gLz,gLs]
  refine contL_sem ⟨_,W3,hc3,?_⟩
  have r2:=rd_d Tryz.agg34 Tryz.sz34 ((f3).at k2 id) l1
  have bE1:=bldE (vv:=.slice (some ⟨W2.heap.size,0,Option.none⟩) ([120] : Bs).length ([120] : Bs).length) l0 rfl
  simp -implicitDefEqProofs only [go_sem,Nat.reduceEqDiff,Nat.reduceBEq,Nat.reduceAdd,gLa,gLz,gLs,bE1,r2]
  refine contL_is (v:=.slice (some ⟨W3.heap.size,0,Option.none⟩) 1 1) (w':=W3.alloc (.cells (bl [121]) 5)) rfl ?_
  obtain ⟨W4,hc4,f4,y4,s4⟩:=text_new (P:=Tryz.prog) Tryz.slc25 Tryz.int5 W3 [121]
  simp -implicitDefEqProofs only [go_sem,Nat.reduceEqDiff,Nat.reduceBEq,Nat.reduceAdd,gLa,gLz,gLs]
  refine contL_sem ⟨_,W4,hc4,?_⟩
  have bE2:=bldE (vv:=.slice (some ⟨W3.heap.size,0,Option.none⟩) ([121] : Bs).length ([121] : Bs).length) l1 rfl
  have sE:=sl2_agg (P:=Tryz.prog) Tryz.slc66 Tryz.sz65 Tryz.zero65 rfl (by decide) (by decide) W4 (r1:=K0.map u8 ++ [Value.slice (some ⟨W2.heap.size,0,Option.none⟩) ([120] : Bs).length ([120] : Bs).length]) (r2:=K1.map u8 ++ [Value.slice (some ⟨W3.heap.size,0,Option.none⟩) ([121] : Bs).length ([121] : Bs).length]) rfl rfl
  simp -implicitDefEqProofs only [go_sem,Nat.reduceEqDiff,Nat.reduceBEq,Nat.reduceAdd,gLa,gLz,gLs,bE2,sE]
  have hm5:=enr2 W4 l0 l1 (v1:=.slice (some ⟨W2.heap.size,0,Option.none⟩) ([120] : Bs).length ([120] : Bs).length) (v2:=.slice (some ⟨W3.heap.size,0,Option.none⟩) ([121] : Bs).length ([121] : Bs).length) rfl rfl (y3.fr0 f4) y4
  have f5 : No W4 (W4.alloc (.cells ((K0.map u8 ++ [Value.slice (some ⟨W2.heap.size,0,Option.none⟩) ([120] : Bs).length ([120] : Bs).length]) ++ (K1.map u8 ++ [Value.slice (some ⟨W3.heap.size,0,Option.none⟩) ([121] : Bs).length ([121] : Bs).length])).toArray 65)):=(Fr.refl _ _).alloc _
  obtain ⟨W5,hW5⟩ : ∃ W5,W5 = (W4.alloc (.cells ((K0.map u8 ++ [Value.slice (some ⟨W2.heap.size,0,Option.none⟩) ([120] : Bs).length ([120] : Bs).length]) ++ (K1.map u8 ++ [Value.slice (some ⟨W3.heap.size,0,Option.none⟩) ([121] : Bs).length ([121] : Bs).length])).toArray 65)):=⟨_,rfl⟩
  rw [← hW5] at hm5 f5 ⊢
  have f05:=((f02.trans f3).trans f4).trans f5
  have k15:=((f3.trans f4).trans f5).at k12 id
  have k25:=((f3.trans f4).trans f5).at k2 id
  generalize (Value.slice (some ⟨W4.heap.size,0,Option.none⟩) 2 2) = mv at *
  clear bE1 bE2 sE hc3 hc4 y3 y4 r1 r2 q1 q2
  obtain ⟨x1,hx1⟩:=Wit.kLone0
  obtain ⟨x2,hx2⟩ : ∃ x2,R.Lone 4 (K1,[121]) 255 x2:=⟨_,rfl⟩
  have kb0 : kbit K0 0 = false:=by decide +kernel
  have kb1 : kbit K1 0 = true:=by decide +kernel
  refine contL_call Tryz.pl31 ((R.root2 W5 (ht.no f05) 4 hm5 kb0 kb1 (by decide) (by decide) hx1 hx2).mono ?_)
  rintro _ w6 ⟨rfl,f6⟩
  have hver:=Wit.kVerify hx1 hx2
  have hpart:=Wit.kPart hx2
  have lr : (branchD 4 x1 x2).length = 32:=branchD_len _ _ _
  generalize branchD 4 x1 x2 = root at *
  obtain ⟨W7,q7,k7,f7,s7⟩:=R.allocD w6 (ty:=23) Tryz.sz23 lr
  have f57:=f6.trans f7
  simp -implicitDefEqProofs only [go_sem,Nat.reduceEqDiff,Nat.reduceBEq,Nat.reduceAdd,gLa,gLz,gLs,Value.cells,bl_zero,q7]
  refine contL_is (v:=.slice (some ⟨W7.heap.size,0,Option.none⟩) 1 1) (w':=W7.alloc (.cells (bl [2]) 5)) rfl ?_
  have b8 : NwB W7 (W7.alloc (.cells (bl [2]) 5)) (.slice (some ⟨W7.heap.size,0,Option.none⟩) 1 1) [2]:=mk_nw W7 W7 5 1 1 1 (bl [2]) (Nat.le_refl _) rfl (Nat.le_refl _)
  have f8 : No W7 (W7.alloc (.cells (bl [2]) 5)):=(Fr.refl _ _).alloc _
  generalize W7.alloc (.cells (bl [2]) 5) = w8 at *
  generalize (Value.slice (some ⟨W7.heap.size,0,Option.none⟩) 1 1) = rv8 at *
  have zero : ∀ (w : World) (v : Value) (bs : Bs),NwB W7 w v bs → bs.length ≤ 1000 → No W7 w → ∃ v' w',(Builtin.append_ #[25,3] 0 #[v,.int .i64 32]).run Tryz.prog w = .ok v' w' ∧ NwB W7 w' v' (bs ++ List.replicate 32 0) ∧ No W7 w':=fun w v bs h hl f => by
    obtain ⟨v',w',hr,h1,h2,_⟩:=NwB.zeros (P:=Tryz.prog) (ts:=#[25,3]) rfl rfl Tryz.slc25 Tryz.int3 Tryz.sz5 Tryz.by5 Tryz.zero5 h (m:=32) (by decide) (by omega) (by decide) f.size
    exact ⟨v',w',hr,h1,f.trans' h2 fun b hb hh => by have:=(h.lt hh).1; omega⟩
  have four : ∀ (w : World) (v : Value) (bs : Bs) (x : Byte),NwB W7 w v bs → bs.length ≤ 1000 → No W7 w → ∃ v' w',(Builtin.append_ #[25,25] 0 #[v,.slice (some ⟨w.heap.size,0,Option.none⟩) 4 4]).run Tryz.prog (w.alloc (.cells (bl [1,1,0,x]) 5)) = .ok v' w' ∧ NwB W7 w' v' (bs ++ [1,1,0,x]) ∧ No W7 w':=fun w v bs x h hl f => by
    obtain ⟨v',w',hr,h1,h2,_⟩:=NwB.push (P:=Tryz.prog) Tryz.app25_25 h [1,1,0,x] (bd_small (by show (2 * (bs.length + 4) + 768) * 1 ≤ 2 ^ 48; omega)) (by show bs.length + 4 ≤ _; omega) f
    exact ⟨v',w',hr,h1,h2⟩
  obtain ⟨v9,w9,hr9,b9,f9⟩:=zero _ _ _ b8 (by decide) f8
  simp -implicitDefEqProofs only [go_sem,Nat.reduceEqDiff,Nat.reduceBEq,Nat.reduceAdd,gLa,gLz,gLs]
  refine contL_sem ⟨v9,w9,hr9,?_⟩
  obtain ⟨v10,w10,hr10,b10,f10⟩:=four _ _ _ 120 b9 (by decide) f9
  simp -implicitDefEqProofs only [go_sem,Nat.reduceEqDiff,Nat.reduceBEq,Nat.reduceAdd,gLa,gLz,gLs]
  refine contL_is (v:=.slice (some ⟨w9.heap.size,0,Option.none⟩) 4 4) (w':=w9.alloc (.cells (bl [1,1,0,120]) 5)) rfl ?_
  simp -implicitDefEqProofs only [go_sem,Nat.reduceEqDiff,Nat.reduceBEq,Nat.reduceAdd,gLa,gLz,gLs]
  refine contL_sem ⟨v10,w10,hr10,?_⟩
  obtain ⟨v11,w11,hr11,b11,f11⟩:=zero _ _ _ b10 (by decide) f10
  simp -implicitDefEqProofs only [go_sem,Nat.reduceEqDiff,Nat.reduceBEq,Nat.reduceAdd,gLa,gLz,gLs]
  refine contL_sem ⟨v11,w11,hr11,?_⟩
  obtain ⟨v12,w12,hr12,b12,f12⟩:=four _ _ _ 121 b11 (by decide) f11
  simp -implicitDefEqProofs only [go_sem,Nat.reduceEqDiff,Nat.reduceBEq,Nat.reduceAdd,gLa,gLz,gLs]
  refine contL_is (v:=.slice (some ⟨w11.heap.size,0,Option.none⟩) 4 4) (w':=w11.alloc (.cells (bl [1,1,0,121]) 5)) rfl ?_
  simp -implicitDefEqProofs only [go_sem,Nat.reduceEqDiff,Nat.reduceBEq,Nat.reduceAdd,gLa,gLz,gLs]
  refine contL_sem ⟨v12,w12,hr12,?_⟩
  obtain ⟨v13,w13,hr13,b13,f13⟩:=zero _ _ _ b12 (by decide) f12
  have b13 : NwB W7 w13 v13 kRaw:=b13
  have f513:=f57.trans f13
  have f013:=f05.trans f513
  have r13a:=rd_d Tryz.agg23 Tryz.sz23 (f13.at k7 id) lr
  have r13b:=rd_d Tryz.agg34 Tryz.sz34 (f513.at k15 id) l0
  have r13c:=rd_d Tryz.agg34 Tryz.sz34 (f513.at k25 id) l1
  have sK:=sl2_agg (P:=Tryz.prog) Tryz.slc24 Tryz.sz34 Tryz.zero34 rfl (by decide) (by decide) w13 (r1:=K1.map u8) (r2:=K0.map u8) rfl rfl
  simp -implicitDefEqProofs only [go_sem,Nat.reduceEqDiff,Nat.reduceBEq,Nat.reduceAdd,gLa,gLz,gLs]
  refine contL_sem ⟨v13,w13,hr13,?_⟩
  simp -implicitDefEqProofs only [go_sem,Nat.reduceEqDiff,Nat.reduceBEq,Nat.reduceAdd,gLa,gLz,gLs,r13a,r13b,r13c,sK]
  have hk14:=keys2 w13 l1 l0
  have f14 : No w13 (w13.alloc (.cells (K1.map u8 ++ K0.map u8).toArray 34)):=(Fr.refl _ _).alloc _
  obtain ⟨w14,hw14⟩ : ∃ w14,w14 = w13.alloc (.cells (K1.map u8 ++ K0.map u8).toArray 34):=⟨_,rfl⟩
  rw [← hw14] at hk14 f14 ⊢
  have f014:=f013.trans f14
  refine contL_call Tryz.pl23 ((V.verify w14 (ht.no f014) 4 lr hk14 (b13.by.fr0 f14)).mono ?_)
  intro r w15 h15
  obtain ⟨f15,v15,rfl,a15⟩:=h15.okd hver
  have f015:=f014.trans f15
  obtain ⟨ab,ao,ac,y0,rfl,hy0,hr0⟩:=a15.at (i:=0) (by decide)
  obtain ⟨ab',ao',ac',y1,e,hy1,hr1⟩:=a15.at (i:=1) (by decide)
  cases e
  have z0 : (0 : Int) ≤ 0 ∧ (0 : Int) < ((([some [121],some [120]] : List (Option Bs)).length : Nat) : Int):=by decide
  have z1 : (0 : Int) ≤ 1 ∧ (1 : Int) < ((([some [121],some [120]] : List (Option Bs)).length : Nat) : Int):=by decide
  have dl : (((([some [121],some [120]] : List (Option Bs)).length : Nat) : Int) != 2) = false:=rfl
  obtain ⟨p0,p0'⟩:=hr0 w15 (Fr.refl _ _)
  have p0 : rdO Tryz.prog 4 w15 ab ao = some (.bool true):=p0
  have p0' : rdO Tryz.prog 25 w15 ab (ao + 1) = some y0:=p0'
  obtain ⟨W16,hc16,f16,t16,s16⟩:=text_new (P:=Tryz.prog) Tryz.slc25 Tryz.int5 w15 [121]
  simp -implicitDefEqProofs only [go_sem,Nat.reduceEqDiff,Nat.reduceBEq,Nat.reduceAdd,gLa,gLz,gLs,bne_self_eq_false,dl,z0,and_self,Int.toNat_zero,Nat.zero_mul,Nat.add_zero,p0,p0',ft_beq,tf_beq,beq_self_eq_true]
  refine contL_is (v:=.slice (some ⟨w15.heap.size,0,Option.none⟩) 1 1) (w':=w15.alloc (.cells (bl [121]) 5)) rfl ?_
  simp -implicitDefEqProofs only [go_sem,Nat.reduceEqDiff,Nat.reduceBEq,Nat.reduceAdd,gLa,gLz,gLs]
  refine contL_sem ⟨_,W16,hc16,?_⟩
  simp -implicitDefEqProofs only [go_sem,Nat.reduceEqDiff,Nat.reduceBEq,Nat.reduceAdd,gLa,gLz,gLs,ft_beq,tf_beq,beq_self_eq_true]
  refine contL_call Tryz.pl26 ((same W16 (hy0.fr0 f16) t16 (by decide)).mono ?_)
  rintro _ w17 ⟨rfl,f17⟩
  have e1 : (!decide ((([some [121],some [120]] : List (Option Bs)).getD 0 none).getD [] = ([121] : Bs))) = false:=by decide
  have f1517:=f16.trans f17
  obtain ⟨p1,p1'⟩:=hr1 w17 f1517
  have p1' : rdO Tryz.prog 25 w17 ab (ao + 1 * 2 + 1) = some y1:=p1'
  obtain ⟨W18,hc18,f18,t18,s18⟩:=text_new (P:=Tryz.prog) Tryz.slc25 Tryz.int5 w17 [120]
  simp -implicitDefEqProofs only [go_sem,Nat.reduceEqDiff,Nat.reduceBEq,Nat.reduceAdd,gLa,gLz,gLs,e1,z1,and_self,Int.toNat_one,p1',ft_beq,tf_beq,beq_self_eq_true]
  refine contL_is (v:=.slice (some ⟨w17.heap.size,0,Option.none⟩) 1 1) (w':=w17.alloc (.cells (bl [120]) 5)) rfl ?_
  simp -implicitDefEqProofs only [go_sem,Nat.reduceEqDiff,Nat.reduceBEq,Nat.reduceAdd,gLa,gLz,gLs]
  refine contL_sem ⟨_,W18,hc18,?_⟩
  simp -implicitDefEqProofs only [go_sem,Nat.reduceEqDiff,Nat.reduceBEq,Nat.reduceAdd,gLa,gLz,gLs,ft_beq,tf_beq,beq_self_eq_true]
  refine contL_call Tryz.pl26 ((same W18 (hy1.fr0 (f1517.trans f18)) t18 (by decide)).mono ?_)
  rintro _ w19 ⟨rfl,f19⟩
  have e2 : (!decide ((([some [121],some [120]] : List (Option Bs)).getD 1 none).getD [] = ([120] : Bs))) = false:=by decide
  have f1519:=(f1517.trans f18).trans f19
  have f019:=f015.trans f1519
  have fk:=(f14.trans f15).trans f1519
  have r19:=rd_d Tryz.agg23 Tryz.sz23 (fk.at (f13.at k7 id) id) lr
  have s00 : sl2 Tryz.prog 25 w19 (.int .u8 0) (.int .u8 0) = some (.slice (some ⟨w19.heap.size,0,Option.none⟩) 2 2,w19.alloc (.cells (bl [0,0]) 5)):=rfl
  have b20 : NwB w19 (w19.alloc (.cells (bl [0,0]) 5)) (.slice (some ⟨w19.heap.size,0,Option.none⟩) 2 2) [0,0]:=mk_nw w19 w19 5 1 2 2 (bl [0,0]) (Nat.le_refl _) rfl (Nat.le_refl _)
  have f20 : No w19 (w19.alloc (.cells (bl [0,0]) 5)):=(Fr.refl _ _).alloc _
  obtain ⟨w20,hw20⟩ : ∃ w20,w20 = w19.alloc (.cells (bl [0,0]) 5):=⟨_,rfl⟩
  rw [← hw20] at s00 b20 f20
  simp -implicitDefEqProofs only [go_sem,Nat.reduceEqDiff,Nat.reduceBEq,Nat.reduceAdd,gLa,gLz,gLs,e2,r19,s00,ft_beq,tf_beq,beq_self_eq_true]
  refine contL_call Tryz.pl32 ((step00 w20 (ht.no (f019.trans f20)) lr b20.by).mono ?_)
  rintro _ w21 ⟨rfl,f21⟩
  obtain ⟨W22,q22,k22,f22,s22⟩:=R.allocD w21 (ty:=23) Tryz.sz23 lr
  have fk22:=((fk.trans f20).trans f21).trans f22
  have f022:=((f019.trans f20).trans f21).trans f22
  have r22a:=rd_d Tryz.agg34 Tryz.sz34 (fk22.at (f513.at k15 id) id) l0
  have r22b:=rd_d Tryz.agg34 Tryz.sz34 (fk22.at (f513.at k25 id) id) l1
  have sK:=sl2_agg (P:=Tryz.prog) Tryz.slc24 Tryz.sz34 Tryz.zero34 rfl (by decide) (by decide) W22 (r1:=K0.map u8) (r2:=K1.map u8) rfl rfl
  have hk23:=keys2 W22 l0 l1
  have f23 : No W22 (W22.alloc (.cells (K0.map u8 ++ K1.map u8).toArray 34)):=(Fr.refl _ _).alloc _
  obtain ⟨w23,hw23⟩ : ∃ w23,w23 = W22.alloc (.cells (K0.map u8 ++ K1.map u8).toArray 34):=⟨_,rfl⟩
  rw [← hw23] at sK hk23 f23
  have r23 : rdO Tryz.prog 34 w23 w0.heap.size 0 = some (dg K0):=rd_d Tryz.agg34 Tryz.sz34 (f23.at (fk22.at (f513.at k15 id) id) id) l0
  simp -implicitDefEqProofs only [go_sem,Nat.reduceEqDiff,Nat.reduceBEq,Nat.reduceAdd,gLa,gLz,gLs,Value.cells,bl_zero,q22,r22a,r22b,sK,r23]
  refine contL_call Tryz.pl33 ((partW w23 (ht.no (f022.trans f23)) 4 hk23 (b13.by.fr0 (fk22.trans f23)) l0).mono ?_)
  intro r w24 h24
  obtain ⟨f24,v24,rfl,n24⟩:=h24.okd hpart
  have fk24:=(fk22.trans f23).trans f24
  have f024:=(f022.trans f23).trans f24
  have r24:=rd_d Tryz.agg23 Tryz.sz23 (fk24.at (f13.at k7 id) id) lr
  simp -implicitDefEqProofs only [go_sem,Nat.reduceEqDiff,Nat.reduceBEq,Nat.reduceAdd,gLa,gLz,gLs,r24]
  refine contL_call Tryz.pl34 ((gather00 w24 (ht.no f024) lr).mono ?_)
  rintro _ w25 ⟨rfl,f25⟩
  have fk25:=fk24.trans f25
  have f025:=f024.trans f25
  have r25:=rd_d Tryz.agg23 Tryz.sz23 (fk25.at (f13.at k7 id) id) lr
  have r25b:=rd_d Tryz.agg23 Tryz.sz23 (((f23.trans f24).trans f25).at k22 id) lr
  have r25c:=rd_d Tryz.agg34 Tryz.sz34 (fk25.at (f513.at k15 id) id) l0
  have eq:=eqDig lr lr
  have hb : (root == root) = true:=by simp
  simp -implicitDefEqProofs only [go_sem,Nat.reduceEqDiff,Nat.reduceBEq,Nat.reduceAdd,gLa,gLz,gLs,r25,r25b,r25c,eq,hb,ft_beq,tf_beq,beq_self_eq_true]
  refine contL_call Tryz.pl35 ((bytes2 w25 (ht.no f025) (hm5.fr0 (f513.trans fk25)) hx2).mono ?_)
  rintro v26 w26 ⟨n26,f26⟩
  have hl26 : (Wit.ansT (some [120]) ++ (R.setP 4 (List.replicate 32 0) 255 x2).1 ++ (R.setP 4 (List.replicate 32 0) 255 x2).2.flatten).length ≤ 2 ^ 50:=by
    have h1 : (R.setP 4 (List.replicate 32 0) 255 x2).1.length = 32:=by unfold R.setP; split <;> simp
    have h2 : (R.setP 4 (List.replicate 32 0) 255 x2).2.flatten.length ≤ 32:=by
      unfold R.setP
      split
      · simp
      · have:=hx2.len; simp [this]
    rw [List.length_append,List.length_append,h1]
    have : (Wit.ansT (some [120])).length = 4:=by simp [Wit.ansT]
    omega
  generalize (Wit.ansT (some [120]) ++ (R.setP 4 (List.replicate 32 0) 255 x2).1 ++ (R.setP 4 (List.replicate 32 0) 255 x2).2.flatten) = out at *
  simp -implicitDefEqProofs only [go_sem,Nat.reduceEqDiff,Nat.reduceBEq,Nat.reduceAdd,gLa,gLz,gLs,ft_beq,tf_beq,beq_self_eq_true]
  refine contL_call Tryz.pl26 ((same w26 (n24.by.fr0 (f25.trans f26)) n26.by hl26).mono ?_)
  rintro _ w27 ⟨rfl,f27⟩
  have e3 : decide (out = out) = true:=by simp
  have e4 : (((0 : Nat) : Int) == 0) = true:=rfl
  simp -implicitDefEqProofs only [go_sem,Nat.reduceEqDiff,Nat.reduceBEq,Nat.reduceAdd,gLa,gLz,gLs,e3,e4,decide_true,ft_beq,tf_beq,beq_self_eq_true]
  exact (f025.trans f26).trans f27
end Go.V
end
section
namespace Go.V
open Go.Proofs Sha
set_option maxRecDepth 100000
theorem ts1 (w : World) {rv : Value} {raw : Bs} (h : By w rv raw) {A : Nat → Prop} (h1 : raw ≠ [] → ∀ b,blockOf rv = some b → ¬ A b) (h2 : ¬ A w.heap.size) : TsA (w.alloc (.cells #[rv] 25)) (.slice (some ⟨w.heap.size,0,Option.none⟩) 1 1) [raw] A:=by
  have f : No w (w.alloc (.cells #[rv] 25)):=(Fr.refl _ _).alloc _
  refine ⟨[rv],rfl,⟨rfl,_,_,rfl,Nat.le_refl _,fun _ => ⟨_,_,rfl,fun i hi => ?_⟩⟩,fun b hb e => ?_,fun i a b => ?_⟩
  · rw [rc_of_row (alloc_blk_new _ _),Nat.zero_add,List.getElem?_toArray]
  · simp only [blockOf,Option.some.injEq] at hb; subst hb; exact h2 e
  · have : i = 0:=by simp at a; omega
    subst this
    exact ⟨h.fr0 f,h1⟩
def errOf {α : Type} : Except Int α → Int
  | .error e => e
  | .ok _ => 0
def listOf {α : Type} : Except Int (List α) → List α
  | .error _ => []
  | .ok l => l
theorem By.blk {w : World} {v : Value} {bs : Bs} (h : By w v bs) (h0 : 0 < bs.length) {b : Nat} (hb : blockOf v = some b) : b < w.heap.size:=by
  obtain ⟨hl,a,cap,rfl,hc,hat⟩:=h
  obtain ⟨b',o,rfl,hat2⟩:=hat (by omega)
  simp only [blockOf,Option.some.injEq] at hb
  subst hb
  have:=hat2 0 (by omega)
  rw [List.getElem?_eq_getElem (by rw [List.length_map]; omega)] at this
  exact rc_lt this
theorem RdD.blk {w : World} {v : Value} {ds : List Bs} (h : RdD w v ds) (h0 : ds ≠ []) {b : Nat} (hb : blockOf v = some b) : b < w.heap.size:=by
  have hp : 0 < ds.length:=List.length_pos_iff.2 h0
  obtain ⟨h32,hl,a,cap,rfl,hc,hat⟩:=h
  obtain ⟨b',o,rfl,hat2⟩:=hat (by omega)
  simp only [blockOf,Option.some.injEq] at hb
  subst hb
  have:=hat2 0 (by omega)
  rw [List.getElem?_eq_getElem (by omega)] at this
  exact rc_lt this
end Go.V
end
section
namespace Go.V
open Go.Proofs Sha
set_option maxRecDepth 100000
theorem Pl.ge {w0 w : World} {pb : Nat} {kq : Nat × Nat × Nat} {iv av : Value} {qs : List (Nat × Nat × Nat)} {ks ts : List Bs} (h : Pl w0 w pb kq iv av qs ks ts) {b : Nat} (hb : Pl.W kq qs b) : w0.heap.size ≤ b ∧ b < w.heap.size:=by
  unfold Pl.W at hb
  rcases List.mem_cons.1 hb with rfl | hb
  · exact h.key.lt rfl
  · obtain ⟨q,hq,rfl⟩:=List.mem_map.1 hb
    obtain ⟨i,hi,rfl⟩:=List.getElem_of_mem hq
    exact (h.txt i hi (by rw [← h.len]; exact hi)).lt rfl
theorem one_len {a b : Bs} (h : a.length = b.length) : ∀ i,(([a] : List Bs).getD i []).length = (([b] : List Bs).getD i []).length:=fun i => by
  cases i with
  | zero => exact h
  | succ i => simp
end Go.V
end
section
namespace Go.V
open Go.Proofs Sha
set_option maxRecDepth 100000
theorem partP_len {wd : Int} {ks : List Bs} {raw k bs : Bs} (hk : All32 ks) (h : Wit.partP wd ks raw k = .ok bs) : bs.length ≤ 8400:=by
  unfold Wit.partP at h
  split at h
  · cases h
  · rename_i l hs
    obtain ⟨hse,_,_⟩:=Wit.sortW_ok hs
    obtain ⟨asc,l32,_⟩:=Wit.sortE_ok hk hse
    split at h
    · cases h
    · cases h
    · rename_i t hf
      obtain ⟨hok,hkeys,htop,hd⟩:=Wit.form_ok asc l32 hf
      split at h
      · rename_i hm
        cases h
        have hm' : k ∈ t.keys:=by rw [hkeys]; exact hm
        have hp:=Wit.part_ok (w:=wd) hok htop hm'
        have:=txt_len wd hp
        have e1 : (Wit.part wd t k).keys = [k]:=rfl
        rw [e1] at this
        simpa using this
      · cases h
/-- what both answer is the same -/
theorem BsQ.both {w0 w' : World} {x : Except Int Bs} {r : Value} (h : BsQ w0 x r w') : No w0 w' ∧ ∃ v e,r = .tuple #[v,.int .i64 e] ∧ e = errOf x ∧ By w' v (listOf x):=by
  obtain ⟨f,h⟩:=h
  cases x with
  | error e => exact ⟨f,_,e,h,rfl,(NwB.nil w0 w').by⟩
  | ok bs =>
    obtain ⟨v,hr,ha⟩:=h
    exact ⟨f,v,0,hr,rfl,ha.by⟩
set_option maxHeartbeats 2000000 in
theorem parted (w0 w1 : World) (ht : Tabs w1) (wd : Int) {k : Bs} (hkl : k.length = 32) {pb : Nat} {kq : Nat × Nat × Nat} {iv av : Value} {qs : List (Nat × Nat × Nat)} {ks : List Bs} {raw : Bs} (h : Pl w0 w1 pb kq iv av qs ks [raw]) {kv rv : Value} (hk : RdD w1 kv ks) (hr : By w1 rv raw) (hl : ks.length ≤ 2 ^ 42) (hrl : raw.length ≤ 2 ^ 47) :
    Fn Tryz.prog 16 #[.int .i64 wd,pt pb 0,kv,rv,dg k] w1 fun r w' => r = .bool true ∧ No w1 w':=by
  refine Tryz.go16 (by simp) ?_
  obtain ⟨xa,xc,rfl,hxc⟩:=hr.slice
  obtain ⟨W,hW,f1,k1,s1⟩:=allocs1 w1 (bl k) 34
  have h2:=h.fr0 f1
  have rc:=rdO_row (P:=Tryz.prog) h2.cell
  have rcd : ∀ t' o,rdO Tryz.prog t' W.drew pb o = _:=rc
  have r1:=rd_d Tryz.agg34 Tryz.sz34 k1 hkl
  have r1d : rdO Tryz.prog 34 W.drew w1.heap.size 0 = _:=r1
  obtain ⟨q,b1,o1,c1',b2,o2,c2',hq,rfl,rfl,hN,hr1,_⟩:=h2.at (i:=0) (by simp)
  have ra:=hr1 W (Fr.refl _ _)
  have rad:=hr1 W.drew (Fr.refl _ _).drew
  have hg : ([raw] : List Bs).getD 0 [] = raw:=rfl
  rw [hg] at ra rad hN
  rw [Nat.add_zero] at ra rad
  have y1 : (0 : Int) ≤ 0 ∧ (0 : Int) < ((([raw] : List Bs).length : Nat) : Int):=by simp
  simp -implicitDefEqProofs only [go_sem,Nat.reduceEqDiff,Nat.reduceBEq,Nat.reduceAdd,gLa,gLz,gLs,Tryz.f16,Value.cells,hW,rc,rcd,ldO_one,r1,r1d,y1,and_self,Int.toNat_zero,Nat.zero_mul,Nat.add_zero,ra,rad]
  refine contL_call Tryz.pl33 ((V.partW W.drew (ht.no f1.drew) wd (h2.keys.fr0 (Fr.refl _ _).drew) (hN.by.pre.fr0 (Fr.refl _ _).drew) hkl).mono ?_)
  intro r w3 h3
  obtain ⟨f3,v3,e3,rfl,he3,a3⟩:=h3.both
  have f13 : No W w3:=(Fr.refl _ _).drew.trans f3
  have f03:=f1.trans f13
  simp -implicitDefEqProofs only [go_sem,Nat.reduceEqDiff,Nat.reduceBEq,Nat.reduceAdd,gLa,gLz,gLs]
  refine contL_call Tryz.pl29 ((keysOf w3 (hk.fr0 f03) hl).mono ?_)
  rintro _ w4 ⟨f4,kq2,rfl,n4⟩
  have f04:=f03.trans f4
  simp -implicitDefEqProofs only [go_sem,Nat.reduceEqDiff,Nat.reduceBEq,Nat.reduceAdd,gLa,gLz,gLs]
  refine den_ext (fun j => j == 3 || j == 5) [0,1,2,4,3,5,6,7,8,9,10] rfl (by kernel_rfl) (by kernel_rfl) ?_
  have r4:=rd_d Tryz.agg34 Tryz.sz34 ((f13.trans f4).at k1 id) hkl
  have r4d : rdO Tryz.prog 34 w4.drew w1.heap.size 0 = _:=r4
  simp -implicitDefEqProofs only [go_sem,Nat.reduceEqDiff,Nat.reduceBEq,Nat.reduceAdd,gLa,gLz,gLs,r4,r4d,ft_beq,tf_beq,beq_self_eq_true]
  refine contLX_call Tryz.pl22 ((V.copied w4.drew (hr.fr0 f04.drew) hrl).mono ?_)
  rintro v5 w5 ⟨n5,f5⟩
  refine ⟨fun _ => Fr.ext f5,?_⟩
  have f05 : No w1 w5:=f04.drew.trans f5
  have f45 : No w4 w5:=(Fr.refl _ _).drew.trans f5
  simp -implicitDefEqProofs only [go_sem,Nat.reduceEqDiff,Nat.reduceBEq,Nat.reduceAdd,gLa,gLz,gLs,ft_beq,tf_beq,beq_self_eq_true]
  refine contLX_call Tryz.pl40 ((R.partR w5 (ht.no f05) wd (n4.rd.pre.fr0 f45) n5.by (by omega) hkl).mono ?_)
  intro r w6 h6
  obtain ⟨f6,v6,e6,rfl,he6,a6⟩:=h6.both
  refine ⟨fun _ => Fr.ext f6,?_⟩
  have f06:=f05.trans f6
  have hee : (e3 == e6) = true:=by rw [he3,he6]; simp
  have hlen : (listOf (Wit.partP wd ks raw k)).length ≤ 2 ^ 50:=by
    cases hv : Wit.partP wd ks raw k with
    | error e => show ([] : List Byte).length ≤ 2 ^ 50; simp
    | ok bs => have:=partP_len hk.1 hv; show bs.length ≤ 2 ^ 50; omega
  generalize (listOf (Wit.partP wd ks raw k)) = an at *
  clear he3 he6 h3 h6
  have f36 : No w3 w6:=(f4.trans f45).trans f6
  simp -implicitDefEqProofs only [go_sem,Nat.reduceEqDiff,Nat.reduceBEq,Nat.reduceAdd,gLa,gLz,gLs,hee,ft_beq,tf_beq,beq_self_eq_true]
  refine contL_call Tryz.pl26 ((same w6 (a3.fr0 f36) a6 hlen).mono ?_)
  rintro _ w7 ⟨rfl,f7⟩
  have f07:=f06.trans f7
  have d7 : decide (an = an) = true:=by simp
  simp -implicitDefEqProofs only [go_sem,Nat.reduceEqDiff,Nat.reduceBEq,Nat.reduceAdd,gLa,gLz,gLs,d7,ft_beq,tf_beq,beq_self_eq_true]
  refine contL_is (w:=w7) (v:=.slice (some ⟨w7.heap.size,0,Option.none⟩) 1 1) (w':=w7.alloc (.cells #[.slice xa raw.length xc] 25)) rfl ?_
  have hts:=ts1 w7 (hr.fr0 f07) (A:=fun _ => False) (fun _ _ _ h => h) (fun h => h)
  have f8 : No w7 (w7.alloc (.cells #[.slice xa raw.length xc] 25)):=(Fr.refl _ _).alloc _
  generalize w7.alloc (.cells #[.slice xa raw.length xc] 25) = w8 at *
  generalize (Value.slice (some ⟨w7.heap.size,0,Option.none⟩) 1 1) = tsv at *
  have f08:=f07.trans f8
  simp -implicitDefEqProofs only [go_sem,Nat.reduceEqDiff,Nat.reduceBEq,Nat.reduceAdd,gLa,gLz,gLs,ft_beq,tf_beq,beq_self_eq_true]
  refine contL_call Tryz.pl37 ((placesLeft w0 w8 (h.fr0 f08) (hk.fr0 f08) hts (by omega) (fun t ht' => by simp only [List.mem_singleton] at ht'; subst ht'; omega) (by simp)).mono ?_)
  rintro _ w9 ⟨rfl,f9⟩
  simp -implicitDefEqProofs only [go_sem,Nat.reduceEqDiff,Nat.reduceBEq,Nat.reduceAdd,gLa,gLz,gLs,decide_true,ft_beq,tf_beq,beq_self_eq_true]
  exact f08.trans f9
set_option maxHeartbeats 4000000 in
theorem lawParts (w : World) (ht : Tabs w) (wd : Int) {k : Bs} (hkl : k.length = 32) {kv rv : Value} {ks : List Bs} {raw : Bs} (hk : RdD w kv ks) (hr : By w rv raw) (hl : ks.length ≤ 2 ^ 42) (hrl : raw.length ≤ 2 ^ 47) :
    Fn Tryz.prog 4 #[.int .i64 wd,kv,rv,dg k] w fun v w' => v = .bool true ∧ No w w':=by
  refine Tryz.go4 (by simp) ?_
  obtain ⟨xa,xc,rfl,hxc⟩:=hr.slice
  obtain ⟨W,hW,f1,k1,s1⟩:=allocs1 w (bl k) 34
  simp -implicitDefEqProofs only [go_sem,Nat.reduceEqDiff,Nat.reduceBEq,Nat.reduceAdd,gLa,gLz,gLs,Tryz.f4,Value.cells,hW]
  refine contL_is (w:=W) (v:=.slice (some ⟨W.heap.size,0,Option.none⟩) 1 1) (w':=W.alloc (.cells #[.slice xa raw.length xc] 25)) rfl ?_
  have ht2:=ts1 W (hr.fr0 f1) (A:=fun _ => False) (fun _ _ _ h => h) (fun h => h)
  have f2 : No W (W.alloc (.cells #[.slice xa raw.length xc] 25)):=(Fr.refl _ _).alloc _
  generalize W.alloc (.cells #[.slice xa raw.length xc] 25) = w2 at *
  generalize (Value.slice (some ⟨W.heap.size,0,Option.none⟩) 1 1) = tsv at *
  have f02:=f1.trans f2
  simp -implicitDefEqProofs only [go_sem,Nat.reduceEqDiff,Nat.reduceBEq,Nat.reduceAdd,gLa,gLz,gLs]
  refine contL_call Tryz.pl10 ((lawLaid w2 (hk.fr0 f02) ht2 hl (fun t h => by simp only [List.mem_singleton] at h; subst h; exact hrl) (by simp)).mono ?_)
  rintro _ w3 ⟨f3,pb,kq,iv,av,qs,rfl,P3⟩
  have f03:=f02.trans f3
  have hWge : ∀ b,Pl.W kq qs b → w2.heap.size ≤ b ∧ b < w3.heap.size:=fun b hb => P3.ge hb
  have z02:=f02.size
  have hWold : ∀ b,b < w.heap.size → ¬ Pl.W kq qs b:=fun b hb h => by have:=(hWge b h).1; omega
  simp -implicitDefEqProofs only [go_sem,Nat.reduceEqDiff,Nat.reduceBEq,Nat.reduceAdd,gLa,gLz,gLs]
  refine contL_call Tryz.pl11 ((known w3 (ht.no f03)).mono ?_)
  rintro _ w4 ⟨rfl,f4⟩
  have f04:=f03.trans f4
  have r4:=rd_d Tryz.agg34 Tryz.sz34 (((f2.trans f3).trans f4).at k1 id) hkl
  simp -implicitDefEqProofs only [go_sem,Nat.reduceEqDiff,Nat.reduceBEq,Nat.reduceAdd,gLa,gLz,gLs,r4,ft_beq,tf_beq,beq_self_eq_true]
  refine contL_call Tryz.pl16 ((parted w2 w4 (ht.no f04) wd hkl (P3.fr0 f4) (hk.fr0 f04) (hr.fr0 f04) hl hrl).mono ?_)
  rintro _ w5 ⟨rfl,f5⟩
  have f05:=f04.trans f5
  simp -implicitDefEqProofs only [go_sem,Nat.reduceEqDiff,Nat.reduceBEq,Nat.reduceAdd,gLa,gLz,gLs,ft_beq,tf_beq,beq_self_eq_true]
  refine contL_call Tryz.pl13 ((other w5 (hr.fr0 f05) hrl raw.length (by omega)).mono ?_)
  rintro v6 w6 ⟨n6,f6⟩
  have f06:=f05.trans f6
  have ho:=oth_len raw raw.length
  generalize oth raw raw.length = o at *
  obtain ⟨oa,oc,rfl⟩:=n6.slice
  have s35 : w3.heap.size ≤ w5.heap.size:=(f4.trans f5).size
  have s56:=f6.size
  simp -implicitDefEqProofs only [go_sem,Nat.reduceEqDiff,Nat.reduceBEq,Nat.reduceAdd,gLa,gLz,gLs]
  refine contL_is (w:=w6) (v:=.slice (some ⟨w6.heap.size,0,Option.none⟩) 1 1) (w':=w6.alloc (.cells #[.slice oa o.length oc] 25)) rfl ?_
  have ht7:=ts1 w6 n6.by (A:=Pl.W kq qs) (fun _ b hb h => by have:=(n6.lt hb).1; have:=(hWge b h).2; omega) (fun h => by have:=(hWge _ h).2; omega)
  have f7 : No w6 (w6.alloc (.cells #[.slice oa o.length oc] 25)):=(Fr.refl _ _).alloc _
  generalize w6.alloc (.cells #[.slice oa o.length oc] 25) = w7 at *
  generalize (Value.slice (some ⟨w6.heap.size,0,Option.none⟩) 1 1) = tsv7 at *
  have f07:=f06.trans f7
  have f37:=((f4.trans f5).trans f6).trans f7
  simp -implicitDefEqProofs only [go_sem,Nat.reduceEqDiff,Nat.reduceBEq,Nat.reduceAdd,gLa,gLz,gLs]
  refine contL_call Tryz.pl14 ((over w2 w7 (P3.fr0 f37) (hk.fr0 f07) rfl (fun hn b hb h => hWold b (hk.blk hn hb) h) ht7 rfl (one_len ho) (by omega) (fun t h => by simp only [List.mem_singleton] at h; subst h; omega) (by simp)).mono ?_)
  rintro _ w8 ⟨rfl,P8,f8⟩
  have f08 : No w w8:=f07.trans' f8 fun b hb h => hWold b hb h
  have y8 : By w8 (.slice oa o.length oc) o:=(n6.by.fr0 f7).fr f8 fun b hb _ h => by have:=(n6.lt hb).1; have:=(hWge b h).2; omega
  have k8:=(((f2.trans f3).trans (f4.trans f5)).trans (f6.trans f7)).at k1 id
  have hwz : w.heap.size < w2.heap.size:=by have:=f2.size; omega
  have k8':=f8.at k8 fun h => by have:=(hWge _ h).1; omega
  have r8:=rd_d Tryz.agg34 Tryz.sz34 k8' hkl
  simp -implicitDefEqProofs only [go_sem,Nat.reduceEqDiff,Nat.reduceBEq,Nat.reduceAdd,gLa,gLz,gLs,r8]
  refine contL_call Tryz.pl16 ((parted w2 w8 (ht.no f08) wd hkl P8 (hk.fr0 f08) y8 hl (by omega)).mono ?_)
  rintro _ w9 ⟨rfl,f9⟩
  have f09:=f08.trans f9
  simp -implicitDefEqProofs only [go_sem,Nat.reduceEqDiff,Nat.reduceBEq,Nat.reduceAdd,gLa,gLz,gLs]
  refine contL_is (w:=w9) (v:=.slice (some ⟨w9.heap.size,0,Option.none⟩) 1 1) (w':=w9.alloc (.cells #[.slice xa raw.length xc] 25)) rfl ?_
  have ht11:=ts1 w9 (hr.fr0 f09) (A:=Pl.W kq qs) (fun hn b hb h => hWold b (hr.blk (List.length_pos_iff.2 hn) hb) h) (fun h => by have:=(hWge _ h).2; have:=f37.size; have:=f8.size; have:=f9.size; omega)
  have f11 : No w9 (w9.alloc (.cells #[.slice xa raw.length xc] 25)):=(Fr.refl _ _).alloc _
  generalize w9.alloc (.cells #[.slice xa raw.length xc] 25) = w11 at *
  generalize (Value.slice (some ⟨w9.heap.size,0,Option.none⟩) 1 1) = tsv11 at *
  have f011:=f09.trans f11
  simp -implicitDefEqProofs only [go_sem,Nat.reduceEqDiff,Nat.reduceBEq,Nat.reduceAdd,gLa,gLz,gLs]
  refine contL_call Tryz.pl14 ((over w2 w11 (P8.fr0 (f9.trans f11)) (hk.fr0 f011) rfl (fun hn b hb h => hWold b (hk.blk hn hb) h) ht11 rfl (one_len ho.symm) (by omega) (fun t h => by simp only [List.mem_singleton] at h; subst h; omega) (by simp)).mono ?_)
  rintro _ w12 ⟨rfl,P12,f12⟩
  have f012 : No w w12:=f011.trans' f12 fun b hb h => hWold b hb h
  have k12:=f12.at ((f9.trans f11).at k8' id) fun h => by have:=(hWge _ h).1; omega
  have r12:=rd_d Tryz.agg34 Tryz.sz34 k12 hkl
  simp -implicitDefEqProofs only [go_sem,Nat.reduceEqDiff,Nat.reduceBEq,Nat.reduceAdd,gLa,gLz,gLs,r12,ft_beq,tf_beq,beq_self_eq_true]
  refine contL_call Tryz.pl16 ((parted w2 w12 (ht.no f012) wd hkl P12 (hk.fr0 f012) (hr.fr0 f012) hl hrl).mono ?_)
  rintro _ w13 ⟨rfl,f13⟩
  simp -implicitDefEqProofs only [go_sem,Nat.reduceEqDiff,Nat.reduceBEq,Nat.reduceAdd,gLa,gLz,gLs,ft_beq,tf_beq,beq_self_eq_true]
  exact f012.trans f13
end Go.V
end
