/-
 Helpers: NodeW.
-/
import Derived.Test.YtmenaeggoakppaaGreatDoorB16
import Derived.Test.YtmenaeggoakppaaGreatDoorB09
set_option linter.all false
section
namespace Go.V
open Go.Proofs Sha
set_option maxRecDepth 100000
theorem rd_d {t:TypeId} {w:World} {b:Nat} {d:Bs} {e:TypeId} {fz:Nat × Nat} (ha:aggO Tryz.prog t=some true) (hs:szO Tryz.prog t=some 32) (h:w.heap[b]?=some (.cells (bl d) e fz)) (hd:d.length=32):rdO Tryz.prog t w b 0=some (dg d) :=
 rds ha hs h (by rw[bl_size,hd]) (by omega) fun i _=>by rw[Nat.zero_add]
theorem wr_d {t:TypeId} {w:World} {b:Nat} {d d':Bs} {e:TypeId} (hs:szO Tryz.prog t=some 32) (h:w.heap[b]?=some (.cells (bl d) e (0,0))) (hd:d.length=32) (hd':d'.length=32):wrO Tryz.prog t w b 0 (dg d')=some (put w b (.cells (bl d') e (0,0))) :=
 wr_all (by rw[bl_size,hd'];exact hs) h (by rw[bl_size,bl_size,hd,hd']) (bl_one _)
theorem zl32:(List.replicate 32 (0:Byte)).length=32:=by simp
theorem row_by {w:World} {b:Nat} {d:Bs} {e:TypeId} {fz:Nat × Nat} (h:w.heap[b]?=some (.cells (bl d) e fz)) {m cap:Nat} (hm:m≤d.length) (hc:m≤cap):By w (.slice (some ⟨b,0,none⟩) m cap) (d.take m):=by
 have hl:(d.take m).length=m:=by rw[List.length_take];omega
 refine⟨by simp,_,_,by rw[hl],by rw[hl];exact hc,fun _=>⟨_,_,rfl,fun j hj=>?_⟩⟩
 rw[hl,Nat.mul_one] at hj
 rw[rc_of_row h,Nat.zero_add,bl_at (by omega),List.map_take,List.getElem?_take,if_pos hj,List.getElem?_map,List.getElem?_eq_getElem (by omega),getD_lt 0 (by omega)];rfl
theorem bldH:bldO Tryz.prog 289 [(0,.agg (wl init.list))]=some (.agg (hC init.list (List.replicate 64 0) 0 0)):=by kernel_rfl
set_option maxHeartbeats 1000000 in
theorem dsum (w0 : World) (ht : Tabs w0) {mv : Value} {msg : Bs} (hm : By w0 mv msg) (hl : msg.length ≤ 1099511627776) :
    Fn Tryz.prog 169 #[mv] w0 fun v w' => v = dg (Sha.sum msg) ∧ No w0 w' := by
 refine Tryz.go169 (by simp) ?_
 have f1:No w0 (w0.alloc (.cells (bl (List.replicate 32 0)) 23)):=(Fr.refl _ _).alloc _
 have k1:(w0.alloc (.cells (bl (List.replicate 32 0)) 23)).heap[w0.heap.size]?=some (.cells (bl (List.replicate 32 0)) 23 (0,0)):=alloc_blk_new _ _
 have z1:(w0.alloc (.cells (bl (List.replicate 32 0)) 23)).heap.size=w0.heap.size+1:=alloc_heap_size _ _
 have t1:=ht.no f1
 simp -implicitDefEqProofs only[go_sem,Nat.reduceEqDiff,Tryz.f169,Value.cells,bl_zero]
 generalize w0.alloc (.cells (bl (List.replicate 32 0)) 23)=W1 at *
 have q1:=wr_all (P:=Tryz.prog) (t:=289) (w:=W1.alloc (.cells (hC (List.replicate 8 0) (List.replicate 64 0) 0 0) 289)) (b:=w0.heap.size+1) (vs:=hC init.list (List.replicate 64 0) 0 0) (by rw[hC_size];exact Tryz.sz289)
  (by rw[← z1];exact alloc_blk_new _ _) (by rw[hC_size,hC_size];rfl) hC_one
 have h2:=put_at (o:=.cells (hC init.list (List.replicate 64 0) 0 0) 289 (0,0)) (show (W1.alloc (.cells (hC (List.replicate 8 0) (List.replicate 64 0) 0 0) 289)).heap[w0.heap.size+1]?=_ by rw[← z1];exact alloc_blk_new _ _)
 have k2:=put_off (b:=w0.heap.size+1) (o:=.cells (hC init.list (List.replicate 64 0) 0 0) 289 (0,0)) (alloc_at (o:=.cells (hC (List.replicate 8 0) (List.replicate 64 0) 0 0) 289) k1) (by omega)
 have f2:=(f1.alloc (.cells (hC (List.replicate 8 0) (List.replicate 64 0) 0 0) 289)).put (b:=w0.heap.size+1) (.cells (hC init.list (List.replicate 64 0) 0 0) 289 (0,0)) fun h=>by omega
 simp -implicitDefEqProofs only[go_sem,Nat.reduceEqDiff,Value.cells,bl_zero,t1.init2,bldH,z1,zeroH,q1]
 generalize put (W1.alloc (.cells (hC (List.replicate 8 0) (List.replicate 64 0) 0 0) 289)) (w0.heap.size+1) (.cells (hC init.list (List.replicate 64 0) 0 0) 289 (0,0))=W2 at *
 have hsz:=ht.size
 refine contL_call Tryz.pl204 ((write W2 (ht.no f2) (n:=0) (t:=0) (by omega) h2 (by simp) (by omega) (hm.fr0 f2) (fun hne b hb=>?_) (by omega) (by omega)).mono ?_)
 ·obtain⟨_,a,cap,rfl,_,h⟩:=hm
  obtain⟨b',o',rfl,h'⟩:=h (by rw[Nat.mul_one];exact List.length_pos_iff.2 hne)
  simp only[blockOf,Option.some.injEq] at hb
  have:=h' 0 (by rw[Nat.mul_one];exact List.length_pos_iff.2 hne)
  rw[List.getElem?_map,List.getElem?_eq_getElem (List.length_pos_iff.2 hne)] at this
  have:=rc_lt this
  omega
 rintro _ w3 ⟨rfl,⟨⟨r',hr',e',h3⟩,g3⟩⟩
 simp only[List.take_zero,List.nil_append,Nat.zero_add] at h3 e'
 have f3:=f2.trans' g3 fun b hb h=>by omega
 simp -implicitDefEqProofs only[go_sem,Nat.reduceEqDiff]
 refine contL_call Tryz.pl205 ((hsum w3 (ht.no f3) hl ⟨r',hr',e',h3⟩).mono ?_);rintro _ w4 ⟨rfl,f4⟩
 have k4:=f4.at (g3.at k2 (by omega)) id
 have q:=wr_d Tryz.sz23 k4 zl32 (sum_len msg)
 have r:=rd_d Tryz.agg23 Tryz.sz23 (put_at (o:=.cells (bl (Sha.sum msg)) 23 (0,0)) k4) (sum_len msg)
 generalize Sha.sum msg=d at q r
 simp -implicitDefEqProofs only[go_sem,Nat.reduceEqDiff,q,r]
 exact (f3.trans f4).put (b:=w0.heap.size) _ fun h=>absurd h (Nat.lt_irrefl _)
theorem cutD_eq (w:Int) (d:Bs) (hd:d.length=32):cutD w d=d.take (wid w)++List.replicate (32 - wid w) 0:=by
 refine List.ext_getElem (by rw[cutD_len];have:=wid_le w;simp;omega) fun i h1 h2=>?_
 rw[cutD_len] at h1
 have hw:=wid_le w
 rw[List.getElem_append]
 simp only[cutD,List.getElem_map,List.getElem_range,List.length_take,List.getElem_take,List.getElem_replicate]
 have:((i:Int)<w) ↔ i<wid w:=by unfold wid;omega
 by_cases h:i<wid w
 ·rw[if_pos (this.2 h),dif_pos (by omega),getD_lt 0 (by omega)]
 ·rw[if_neg fun h'=>h (this.1 h'),dif_neg (by omega)]
theorem clampW (w:Int):(if (32:Int)<(if (0:Int) > w then 0 else w) then (32:Int) else (if (0:Int) > w then 0 else w))=((wid w:Nat):Int):=by
 unfold wid;split <;> (try split) <;> omega
theorem dcut (w0 : World) (width : Int) {d : Bs} (hd : d.length = 32) :
    Fn Tryz.prog 113 #[dg d,.int .i64 width] w0 fun v w' => v = dg (cutD width d) ∧ No w0 w' := by
 refine Tryz.go113 (by simp) ?_
 have f1:No w0 (((w0.alloc (.cells (bl d) 23)).alloc (.cells (bl (List.replicate 32 0)) 23)).alloc (.cells (bl (List.replicate 32 0)) 23)):=(((Fr.refl _ _).alloc _).alloc _).alloc _
 have h0:(((w0.alloc (.cells (bl d) 23)).alloc (.cells (bl (List.replicate 32 0)) 23)).alloc (.cells (bl (List.replicate 32 0)) 23)).heap[w0.heap.size]?=some (.cells (bl d) 23 (0,0)):=alloc_at (alloc_at (alloc_blk_new _ _))
 have h1:(((w0.alloc (.cells (bl d) 23)).alloc (.cells (bl (List.replicate 32 0)) 23)).alloc (.cells (bl (List.replicate 32 0)) 23)).heap[w0.heap.size+1]?=some (.cells (bl (List.replicate 32 0)) 23 (0,0)):=by
  have:=alloc_blk_new (w0.alloc (.cells (bl d) 23)) (.cells (bl (List.replicate 32 0)) 23)
  rw[alloc_heap_size] at this;exact alloc_at this
 have h2:(((w0.alloc (.cells (bl d) 23)).alloc (.cells (bl (List.replicate 32 0)) 23)).alloc (.cells (bl (List.replicate 32 0)) 23)).heap[w0.heap.size+1+1]?=some (.cells (bl (List.replicate 32 0)) 23 (0,0)):=by
  have:=alloc_blk_new ((w0.alloc (.cells (bl d) 23)).alloc (.cells (bl (List.replicate 32 0)) 23)) (.cells (bl (List.replicate 32 0)) 23)
  rw[alloc_heap_size,alloc_heap_size] at this;exact this
 have hw:=wid_le width
 have n32:((32:Nat)=0)=False:=by simp
 have sb:sbO (.int .i64 ((wid width:Nat):Int)) 32=some (wid width):=by simp only[sbO];rw[if_pos (by omega),Int.toNat_natCast]
 simp -implicitDefEqProofs only[go_sem,Nat.reduceEqDiff,Nat.reduceBEq,Tryz.f113,Value.cells,bl_zero,maxL,minL,clampW,sliceP,optB,sb,n32,Nat.zero_mul,Nat.sub_zero]
 generalize ((w0.alloc (.cells (bl d) 23)).alloc (.cells (bl (List.replicate 32 0)) 23)).alloc (.cells (bl (List.replicate 32 0)) 23)=W at *
 have hrun:=run_copy (P:=Tryz.prog) (ts:=#[25,25]) (t:=25) rfl Tryz.slc25 Tryz.sz5 (w:=W.drew) (b:=w0.heap.size+1+1) (o:=0) (dn:=wid width) (dc:=32) h2 (row_by (w:=W.drew) h0 (m:=wid width) (cap:=32) (by omega) hw) (u8s_one _) (by rw[bl_size,zl32];omega)
 have hm:min (d.take (wid width)).length (wid width)=wid width:=by rw[List.length_take];omega
 rw[hm,Nat.mul_one,List.take_of_length_le (by rw[List.length_map,List.length_take];omega)] at hrun
 have hst:storeL ((d.take (wid width)).map u8) 0 (bl (List.replicate 32 0))=bl (cutD width d):=by
  apply Array.toList_inj.1
  rw[storeL_list _ _ _ (by rw[List.length_map,List.length_take,bl_size,zl32];omega),cutD_eq width d hd,List.length_map,List.length_take,hd]
  simp only[List.take_zero,List.nil_append,Nat.zero_add,List.map_append,List.map_replicate,List.drop_replicate]
  congr 2;omega
 rw[hst] at hrun
 refine contL_sem ⟨_,_,hrun,?_⟩
 have l2:=put_at (o:=.cells (bl (cutD width d)) 23 (0,0)) h2
 have r:=rd_d Tryz.agg23 Tryz.sz23 (show (put W.drew (w0.heap.size+1+1) (.cells (bl (cutD width d)) 23 (0,0))).heap[w0.heap.size+1+1]?=_ from put_at h2) (cutD_len width d)
 have k1:(put W.drew (w0.heap.size+1+1) (.cells (bl (cutD width d)) 23 (0,0))).heap[w0.heap.size+1]?=some (.cells (bl (List.replicate 32 0)) 23 (0,0)):=put_off h1 (by omega)
 have q:=wr_d Tryz.sz23 k1 zl32 (cutD_len width d)
 have r2:=rd_d Tryz.agg23 Tryz.sz23 (put_at (o:=.cells (bl (cutD width d)) 23 (0,0)) k1) (cutD_len width d)
 generalize cutD width d=d' at *
 simp -implicitDefEqProofs only[go_sem,Nat.reduceEqDiff,r,q,r2]
 exact (f1.drew.put (b:=w0.heap.size+1+1) _ fun h=>by omega).put (b:=w0.heap.size+1) _ fun h=>by omega
theorem within (w0:World) (n lo hi:Int):Fn Tryz.prog 170 #[.int .i64 n,.int .i64 lo,.int .i64 hi] w0 fun v w'=>v=.int .i64 (max lo (min n hi))∧w'=w0:=by
 refine Tryz.go170 (by simp) ?_
 have e:(if lo<(if hi<n then hi else n) then (if hi<n then hi else n) else lo)=max lo (min n hi):=by split <;> (try split) <;> omega
 simp -implicitDefEqProofs only[go_sem,Nat.reduceEqDiff,Tryz.f170,maxL,minL,gt_iff_lt,e,and_self]
theorem widI (w:Int):max 0 (min w 32)=((wid w:Nat):Int):=by unfold wid;omega
theorem mk0 (w0 w:World) {c:Nat} (hc:c≤1099511627776) (f:No w0 w):∃ w',(Instr.makeSlice 25 (.int .i64 0) (.int .i64 (c:Nat))).run Tryz.prog w=.ok (.slice (some ⟨w.heap.size,0,none⟩) 0 c) w'∧NwB w0 w' (.slice (some ⟨w.heap.size,0,none⟩) 0 c) []∧No w0 w'∧No w w':=by
 have:=run_mk (P:=Tryz.prog) (t:=25) (by':=1) Tryz.slc25 Tryz.sz5 Tryz.by5 Tryz.zero5 (l:=0) (c:=c) (Nat.zero_le _) (by omega) (by omega) .i64 .i64 w
 refine⟨_,this,?_,f.alloc _,(Fr.refl _ _).alloc _⟩
 have h:=mk_nw w0 w 5 1 0 c (madeCells (Value.int .u8 0).cells (c*1)) f.size (size_madeCells _ _) (Nat.zero_le _)
 unfold NwB;simpa using h
set_option maxHeartbeats 1000000 in
theorem leafText (w0 : World) {k : Bs} (hk : k.length = 32) {vv : Value} {val : Bs} (hv : By w0 vv val) (hl : val.length ≤ 549755813888) :
    Fn Tryz.prog 154 #[dg k,vv] w0 fun v w' => NwB w0 w' v (leafT k val) ∧ No w0 w' := by
 refine Tryz.go154 (by simp) ?_
 have f1:No w0 (w0.alloc (.cells (bl k) 34)):=(Fr.refl _ _).alloc _
 have k1:(w0.alloc (.cells (bl k) 34)).heap[w0.heap.size]?=some (.cells (bl k) 34 (0,0)):=alloc_blk_new _ _
 have hv1:=hv.fr0 f1
 have a1:IntKind.i64.wrap (33+((val.length:Nat):Int))=((33+val.length:Nat):Int):=i64add (a:=33) (by omega)
 obtain⟨va,vc,rfl,_⟩:=hv.at
 simp -implicitDefEqProofs only[go_sem,Nat.reduceEqDiff,Tryz.f154,Value.cells,a1]
 generalize w0.alloc (.cells (bl k) 34)=W at *
 obtain⟨w2,hr2,b2,f2,g2⟩:=mk0 w0 W (c:=33+val.length) (by omega) f1
 refine contL_sem ⟨_,_,hr2,?_⟩
 simp -implicitDefEqProofs only[go_sem,Nat.reduceEqDiff]
 refine contL_is (v:=.slice (some ⟨w2.heap.size,0,none⟩) 1 1) (w':=w2.alloc (.cells (bl [0]) 5)) rfl ?_
 simp -implicitDefEqProofs only[go_sem,Nat.reduceEqDiff]
 obtain⟨v3,w3,hr3,b3,f3,g3⟩:=b2.push Tryz.app25_25 [0] (bd47 (by simp)) (by simp) f2
 refine contL_sem ⟨v3,w3,hr3,?_⟩
 have hs2:=g2.size
 have hblk3:∀ b,blockOf (.slice (some ⟨W.heap.size,0,none⟩) 0 (33+val.length))=some b→b=W.heap.size:=fun b h=>by simpa [blockOf,eq_comm] using h
 have k3:w3.heap[w0.heap.size]?=some (.cells (bl k) 34 (0,0)):=g3.at (g2.at k1 id) fun h=>by
  have:=hblk3 _ h;have:=heap_lt k1;omega
 have n32:((32:Nat)=0)=False:=by simp
 simp -implicitDefEqProofs only[go_sem,Nat.reduceEqDiff,sliceP,optB,n32,Nat.zero_mul,Nat.sub_zero]
 have hkb:=row_by (w:=w3) k3 (m:=32) (cap:=32) (by omega) (by omega)
 rw[List.take_of_length_le (by omega)] at hkb
 obtain⟨v4,w4,hr4,b4,f4,g4⟩:=b3.cat Tryz.app25_25 hkb (bd47 (by simp;omega)) (by simp;omega) f3
 refine contL_sem ⟨v4,w4,hr4,?_⟩
 simp -implicitDefEqProofs only[go_sem,Nat.reduceEqDiff]
 obtain⟨v5,w5,hr5,b5,f5,g5⟩:=b4.cat Tryz.app25_25 (hv.fr0 f4) (bd47 (by simp;omega)) (by simp;omega) f4
 refine contL_sem ⟨v5,w5,hr5,?_⟩
 simp -implicitDefEqProofs only[go_sem,Nat.reduceEqDiff]
 exact⟨by simpa [leafT] using b5,f5⟩
set_option maxHeartbeats 1000000 in
theorem branchText (w0 : World) (width : Int) {l r : Bs} (hl : l.length = 32) (hr : r.length = 32) :
    Fn Tryz.prog 159 #[.int .i64 width,dg l,dg r] w0 fun v w' => NwB w0 w' v (branchT width l r) ∧ No w0 w' := by
 refine Tryz.go159 (by simp) ?_
 have f1:No w0 ((w0.alloc (.cells (bl l) 23)).alloc (.cells (bl r) 23)):=((Fr.refl _ _).alloc _).alloc _
 have k1:((w0.alloc (.cells (bl l) 23)).alloc (.cells (bl r) 23)).heap[w0.heap.size]?=some (.cells (bl l) 23 (0,0)):=alloc_at (alloc_blk_new _ _)
 have j1:((w0.alloc (.cells (bl l) 23)).alloc (.cells (bl r) 23)).heap[w0.heap.size+1]?=some (.cells (bl r) 23 (0,0)):=by
  have:=alloc_blk_new (w0.alloc (.cells (bl l) 23)) (.cells (bl r) 23)
  rw[alloc_heap_size] at this;exact this
 simp -implicitDefEqProofs only[go_sem,Nat.reduceEqDiff,Nat.reduceBEq,Tryz.f159,Value.cells]
 generalize (w0.alloc (.cells (bl l) 23)).alloc (.cells (bl r) 23)=W at *
 refine contL_call Tryz.pl170 ((within W width 0 32).mono ?_);rintro _ _ ⟨rfl,rfl⟩
 have hw:=wid_le width
 have a1:IntKind.i64.wrap (2*((wid width:Nat):Int))=((2*wid width:Nat):Int):=i64mul (a:=2) (b:=wid width) (by omega)
 have a2:IntKind.i64.wrap (1+((2*wid width:Nat):Int))=((1+2*wid width:Nat):Int):=i64add (a:=1) (b:=2*wid width) (by omega)
 rw[widI]
 generalize hww:wid width=ww at *
 rename_i W'
 simp -implicitDefEqProofs only[go_sem,Nat.reduceEqDiff,Nat.reduceBEq,a1,a2]
 obtain⟨w2,hr2,b2,f2,g2⟩:=mk0 w0 W' (c:=1+2*ww) (by omega) f1
 refine contL_sem ⟨_,_,hr2,?_⟩
 simp -implicitDefEqProofs only[go_sem,Nat.reduceEqDiff]
 refine contL_is (v:=.slice (some ⟨w2.heap.size,0,none⟩) 1 1) (w':=w2.alloc (.cells (bl [1]) 5)) rfl ?_
 simp -implicitDefEqProofs only[go_sem,Nat.reduceEqDiff]
 obtain⟨v3,w3,hr3,b3,f3,g3⟩:=b2.push Tryz.app25_25 [1] (bd47 (by simp)) (by simp) f2
 refine contL_sem ⟨v3,w3,hr3,?_⟩
 have hs2:=g2.size
 have hblk3:∀ b,blockOf (.slice (some ⟨W'.heap.size,0,none⟩) 0 (1+2*ww))=some b→b=W'.heap.size:=fun b h=>by simpa [blockOf,eq_comm] using h
 have k3:w3.heap[w0.heap.size]?=some (.cells (bl l) 23 (0,0)):=g3.at (g2.at k1 id) fun h=>by
  have:=hblk3 _ h;have:=heap_lt k1;omega
 have j3:w3.heap[w0.heap.size+1]?=some (.cells (bl r) 23 (0,0)):=g3.at (g2.at j1 id) fun h=>by
  have:=hblk3 _ h;have:=heap_lt j1;omega
 have n32:((32:Nat)=0)=False:=by simp
 have sb:sbO (.int .i64 ((ww:Nat):Int)) 32=some ww:=by simp only[sbO];rw[if_pos (by omega),Int.toNat_natCast]
 have hv3:∀ b,blockOf v3=some b→b≠w0.heap.size∧b≠w0.heap.size+1:=fun b hb=>by
  have:=heap_lt j1
  have h3:W'.heap.size≤b:=by
   have h4:=b3.own.lt hb
   obtain⟨v3',w3',hr3',_,_,g3',h5⟩:=app_fresh Tryz.app25_25 b2 (m:=1) (xs:=bl [1]) (by simp) rfl (by omega) (bd47 (by simp)) (by simp) f2
   have e:=hr3.symm.trans hr3'
   simp only[Result.ok.injEq] at e
   obtain⟨rfl,rfl⟩:=e
   rcases h5 b hb with h | h
   ·have:=hblk3 _ h;omega
   ·omega
  omega
 simp -implicitDefEqProofs only[go_sem,Nat.reduceEqDiff,sliceP,optB,sb,n32,Nat.zero_mul,Nat.sub_zero]
 have hkb:=row_by (w:=w3.drew) k3 (m:=ww) (cap:=32) (by omega) (by omega)
 have b3d:NwB w0 w3.drew v3 ([]++[1]):=b3.fr0 (Fr.refl _ _).drew
 obtain⟨v4,w4,hr4,b4,f4,g4⟩:=b3d.cat Tryz.app25_25 hkb (bd47 (by simp;omega)) (by simp;omega) f3.drew
 refine contL_sem ⟨v4,w4,hr4,?_⟩
 simp -implicitDefEqProofs only[go_sem,Nat.reduceEqDiff,sliceP,optB,sb,n32,Nat.zero_mul,Nat.sub_zero]
 have j4:w4.heap[w0.heap.size+1]?=some (.cells (bl r) 23 (0,0)):=g4.at j3 fun h=>(hv3 _ h).2 rfl
 have hjb:=row_by (w:=w4) j4 (m:=ww) (cap:=32) (by omega) (by omega)
 obtain⟨v5,w5,hr5,b5,f5,g5⟩:=b4.cat Tryz.app25_25 hjb (bd47 (by simp;omega)) (by simp;omega) f4
 refine contL_sem ⟨v5,w5,hr5,?_⟩
 simp -implicitDefEqProofs only[go_sem,Nat.reduceEqDiff]
 refine⟨?_,f5⟩
 unfold branchT
 rw[hww]
 simpa using b5
theorem leafT_len (k v:Bs):(leafT k v).length=1+k.length+v.length:=by simp[leafT];omega
theorem branchT_len (w:Int) (l r:Bs):(branchT w l r).length≤65:=by have:=wid_le w;simp[branchT];omega
set_option maxHeartbeats 1000000 in
theorem leaf (w0 : World) (ht : Tabs w0) (width : Int) {k : Bs} (hk : k.length = 32) {vv : Value} {val : Bs} (hv : By w0 vv val) (hl : val.length ≤ 549755813888) :
    Fn Tryz.prog 107 #[.int .i64 width,dg k,vv] w0 fun v w' => v = dg (leafD width k val) ∧ No w0 w' := by
 refine Tryz.go107 (by simp) ?_
 have f1:No w0 ((w0.alloc (.cells (bl k) 34)).alloc (.cells (bl (List.replicate 32 0)) 23)):=((Fr.refl _ _).alloc _).alloc _
 have k1:((w0.alloc (.cells (bl k) 34)).alloc (.cells (bl (List.replicate 32 0)) 23)).heap[w0.heap.size]?=some (.cells (bl k) 34 (0,0)):=alloc_at (alloc_blk_new _ _)
 have j1:((w0.alloc (.cells (bl k) 34)).alloc (.cells (bl (List.replicate 32 0)) 23)).heap[w0.heap.size+1]?=some (.cells (bl (List.replicate 32 0)) 23 (0,0)):=by
  have:=alloc_blk_new (w0.alloc (.cells (bl k) 34)) (.cells (bl (List.replicate 32 0)) 23)
  rw[alloc_heap_size] at this;exact this
 simp -implicitDefEqProofs only[go_sem,Nat.reduceEqDiff,Tryz.f107,Value.cells,bl_zero]
 generalize (w0.alloc (.cells (bl k) 34)).alloc (.cells (bl (List.replicate 32 0)) 23)=W at *
 have r1:=rd_d Tryz.agg34 Tryz.sz34 k1 hk
 simp -implicitDefEqProofs only[go_sem,Nat.reduceEqDiff,r1]
 refine contL_call Tryz.pl154 ((leafText W hk (hv.fr0 f1) hl).mono ?_);rintro tv w2 ⟨b2,f2⟩
 simp -implicitDefEqProofs only[go_sem,Nat.reduceEqDiff]
 refine contL_call Tryz.pl169 ((dsum w2 ((ht.no f1).no f2) b2.by (by rw[leafT_len];omega)).mono ?_);rintro _ w3 ⟨rfl,f3⟩
 simp -implicitDefEqProofs only[go_sem,Nat.reduceEqDiff]
 refine contL_call Tryz.pl113 ((dcut w3 width (sum_len _)).mono ?_);rintro _ w4 ⟨rfl,f4⟩
 have j4:=f4.at (f3.at (f2.at j1 id) id) id
 show denL _ _ _ _ _ _
 have e:cutD width (Sha.sum (leafT k val))=leafD width k val:=rfl
 rw[e]
 have q:=wr_d Tryz.sz23 j4 zl32 (leafD_len width k val)
 have r:=rd_d Tryz.agg23 Tryz.sz23 (put_at (o:=.cells (bl (leafD width k val)) 23 (0,0)) j4) (leafD_len width k val)
 generalize leafD width k val=d at q r
 simp -implicitDefEqProofs only[go_sem,Nat.reduceEqDiff,q,r]
 exact (((f1.trans f2).trans f3).trans f4).put (b:=w0.heap.size+1) _ fun h=>by omega
set_option maxHeartbeats 1000000 in
theorem branch (w0 : World) (ht : Tabs w0) (width : Int) {l r : Bs} (hl : l.length = 32) (hr : r.length = 32) :
    Fn Tryz.prog 110 #[.int .i64 width,dg l,dg r] w0 fun v w' => v = dg (branchD width l r) ∧ No w0 w' := by
 refine Tryz.go110 (by simp) ?_
 have f1:No w0 (((w0.alloc (.cells (bl l) 23)).alloc (.cells (bl r) 23)).alloc (.cells (bl (List.replicate 32 0)) 23)):=(((Fr.refl _ _).alloc _).alloc _).alloc _
 have k1:(((w0.alloc (.cells (bl l) 23)).alloc (.cells (bl r) 23)).alloc (.cells (bl (List.replicate 32 0)) 23)).heap[w0.heap.size]?=some (.cells (bl l) 23 (0,0)):=alloc_at (alloc_at (alloc_blk_new _ _))
 have j1:(((w0.alloc (.cells (bl l) 23)).alloc (.cells (bl r) 23)).alloc (.cells (bl (List.replicate 32 0)) 23)).heap[w0.heap.size+1]?=some (.cells (bl r) 23 (0,0)):=by
  have:=alloc_blk_new (w0.alloc (.cells (bl l) 23)) (.cells (bl r) 23)
  rw[alloc_heap_size] at this;exact alloc_at this
 have i1:(((w0.alloc (.cells (bl l) 23)).alloc (.cells (bl r) 23)).alloc (.cells (bl (List.replicate 32 0)) 23)).heap[w0.heap.size+1+1]?=some (.cells (bl (List.replicate 32 0)) 23 (0,0)):=by
  have:=alloc_blk_new ((w0.alloc (.cells (bl l) 23)).alloc (.cells (bl r) 23)) (.cells (bl (List.replicate 32 0)) 23)
  rw[alloc_heap_size,alloc_heap_size] at this;exact this
 simp -implicitDefEqProofs only[go_sem,Nat.reduceEqDiff,Tryz.f110,Value.cells,bl_zero]
 generalize ((w0.alloc (.cells (bl l) 23)).alloc (.cells (bl r) 23)).alloc (.cells (bl (List.replicate 32 0)) 23)=W at *
 have r1:=rd_d Tryz.agg23 Tryz.sz23 k1 hl
 have r2:=rd_d Tryz.agg23 Tryz.sz23 j1 hr
 simp -implicitDefEqProofs only[go_sem,Nat.reduceEqDiff,r1,r2]
 refine contL_call Tryz.pl159 ((branchText W width hl hr).mono ?_);rintro tv w2 ⟨b2,f2⟩
 simp -implicitDefEqProofs only[go_sem,Nat.reduceEqDiff]
 refine contL_call Tryz.pl169 ((dsum w2 ((ht.no f1).no f2) b2.by (by have:=branchT_len width l r;omega)).mono ?_);rintro _ w3 ⟨rfl,f3⟩
 simp -implicitDefEqProofs only[go_sem,Nat.reduceEqDiff]
 refine contL_call Tryz.pl113 ((dcut w3 width (sum_len _)).mono ?_);rintro _ w4 ⟨rfl,f4⟩
 have i4:=f4.at (f3.at (f2.at i1 id) id) id
 show denL _ _ _ _ _ _
 have e:cutD width (Sha.sum (branchT width l r))=branchD width l r:=rfl
 rw[e]
 have q:=wr_d Tryz.sz23 i4 zl32 (branchD_len width l r)
 have rr:=rd_d Tryz.agg23 Tryz.sz23 (put_at (o:=.cells (bl (branchD width l r)) 23 (0,0)) i4) (branchD_len width l r)
 generalize branchD width l r=d at q rr
 simp -implicitDefEqProofs only[go_sem,Nat.reduceEqDiff,q,rr]
 exact (((f1.trans f2).trans f3).trans f4).put (b:=w0.heap.size+1+1) _ fun h=>by omega
end Go.V
end
