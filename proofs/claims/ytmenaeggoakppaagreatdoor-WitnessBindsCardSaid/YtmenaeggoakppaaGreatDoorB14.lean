/-
 Helpers: ShaWalk.
-/
import Derived.Test.YtmenaeggoakppaaGreatDoorB12
import Derived.Test.YtmenaeggoakppaaGreatDoorB10
import Derived.Test.YtmenaeggoakppaaGreatDoorB09
set_option linter.all false
section
namespace Go.V
open Go.Proofs Sha
set_option maxRecDepth 100000
theorem andRot:∀ k:Fin 32,0<k.val→andK .u64 (IntKind.u64.wrap (-(k.val:Int))) 31=((32 - k.val:Nat):Int):=by decide +kernel
theorem subRot:∀ k:Fin 33,IntKind.u64.wrap (32 - (k.val:Int))=((32 - k.val:Nat):Int):=by decide +kernel
theorem rotl (w:World) (x:W32) (k:Nat) (h0:0<k) (hk:k<32):Fn Tryz.prog 222 #[u32 x,.int .i64 (-(k:Int))] w fun v w'=>v=u32 (rotr x k)∧w'=w:=by
 refine Tryz.go222 (by simp) ?_
 have a1:andK .u64 (IntKind.u64.wrap (-(k:Int))) 31=((32 - k:Nat):Int):=andRot ⟨k,hk⟩ h0
 have a2:IntKind.u64.wrap (32 - ((32 - k:Nat):Int))=(k:Int):=by
  have:=subRot ⟨32 - k,by omega⟩
  simp only at this
  rw[this];omega
 have d1:¬ (((32 - k:Nat):Int)<0):=by omega
 have d2:¬ ((k:Int)<0):=by omega
 simp -implicitDefEqProofs only[go_sem,Nat.reduceEqDiff,Tryz.f222,a1,a2,d1,d2,shl32 x (32 - k) (by omega),shr32 x k (by omega),or32]
 rw[rotr,BitVec.or_comm]
 exact⟨rfl,trivial⟩
theorem turn (w:World) (x:W32) (k:Nat) (hk:k≤32):Fn Tryz.prog 95 #[u32 x,.int .u64 (k:Int)] w fun v w'=>v=u32 (rotr x k)∧w'=w:=by
 refine Tryz.go95 (by simp) ?_
 have a2:IntKind.u64.wrap (32 - (k:Int))=((32 - k:Nat):Int):=subRot ⟨k,by omega⟩
 have d1:¬ (((32 - k:Nat):Int)<0):=by omega
 have d2:¬ ((k:Int)<0):=by omega
 simp -implicitDefEqProofs only[go_sem,Nat.reduceEqDiff,Tryz.f95,a2,d1,d2,shl32 x (32 - k) (by omega),shr32 x k (by omega),or32]
 exact⟨rfl,trivial⟩
theorem sch0_len (m:List Byte) (k:Nat):(sch0 m k).length=k:=by simp[sch0]
theorem sch0_succ (m:List Byte) (k:Nat):sch0 m (k+1)=sch0 m k++[word4 m (4*k)]:=by simp[sch0,List.range_succ]
/-- the row of words, k of them laid -/
def wA (m:List Byte) (k:Nat):List W32:=padTo 0 64 (sch0 m k)
def wB (m:List Byte) (k:Nat):List W32:=padTo 0 64 (sch m k)
theorem wA_zero (m:List Byte):wA m 0=List.replicate 64 0:=by rw[wA,show sch0 m 0=[] from rfl,padTo_nil]
theorem wA_len (m:List Byte) {k:Nat} (h:k≤64):(wA m k).length=64:=padTo_len (by rw[sch0_len];exact h)
theorem wB_len (m:List Byte) {k:Nat} (h:k≤48):(wB m k).length=64:=padTo_len (by rw[sch_len];omega)
theorem wA_set (m:List Byte) {k:Nat} (h:k<64):(wA m k).set k (word4 m (4*k))=wA m (k+1):=by
 have:=padTo_set (z:=(0:W32)) (n:=64) (l:=sch0 m k) (word4 m (4*k)) (by rw[sch0_len];exact h)
 rw[sch0_len] at this
 rw[wA,wA,this,sch0_succ]
theorem wB_zero (m:List Byte):wA m 16=wB m 0:=rfl
theorem wB_set (m:List Byte) {k:Nat} (h:k<48):(wB m k).set (16+k) (nextW (sch m k) (16+k))=wB m (k+1):=by
 have:=padTo_set (z:=(0:W32)) (n:=64) (l:=sch m k) (nextW (sch m k) (16+k)) (by rw[sch_len];omega)
 rw[sch_len] at this
 rw[wB,wB,this];rfl
theorem wB_full (m:List Byte):wB m 48=words m:=padTo_full (sch_len m 48)
theorem wB_at (m:List Byte) {k j:Nat} (hk:k≤48) (h:j<16+k):(wl (wB m k))[j]?=some (u32 ((sch m k).getD j 0)):=by
 rw[wl_at (by rw[wB_len m hk];omega),wB,padTo_getD 0 (by rw[sch_len];exact h)]
theorem i64n {n:Nat} (h:n<2 ^ 62):IntKind.i64.wrap (n:Int)=n:=wrap64_id (by omega) (by omega)
theorem i64add {a b:Nat} (h:a+b<2 ^ 62):IntKind.i64.wrap ((a:Int)+(b:Int))=((a+b:Nat):Int):=by rw[wrap64_id (by omega) (by omega)];rfl
theorem i64sub {a b:Nat} (h:b≤a) (h2:a<2 ^ 62):IntKind.i64.wrap ((a:Int) - (b:Int))=((a - b:Nat):Int):=by rw[wrap64_id (by omega) (by omega)];omega
theorem i64mul {a b:Nat} (h:a*b<2 ^ 62):IntKind.i64.wrap ((a:Int)*(b:Int))=((a*b:Nat):Int):=by
 rw[← Int.natCast_mul,wrap64_id (by omega) (by omega)]
def wI1 (w0:World) (m:List Byte) (b0 at_:Nat) (p:Value) (n:Nat) (vs:List Value) (w:World):Prop :=
 ∃ i,vs=[p,.int .i64 at_,pt b0 0,pt (b0+1) 0,.int .i64 (i:Nat)]∧i≤16∧n=16 - i∧w.heap[b0]?=some (.cells (wl (List.replicate 64 0)) 101 (0,0)) ∧
  w.heap[b0+1]?=some (.cells (wl (wA m i)) 101 (0,0))∧No w0 w
def wI2 (w0:World) (m:List Byte) (b0:Nat) (n:Nat) (vs:List Value) (w:World):Prop :=
 ∃ i,vs=[pt b0 0,pt (b0+1) 0,.int .i64 (16+i:Nat)]∧i≤48∧n=48 - i∧w.heap[b0]?=some (.cells (wl (List.replicate 64 0)) 101 (0,0)) ∧
  w.heap[b0+1]?=some (.cells (wl (wB m i)) 101 (0,0))∧No w0 w
set_option maxHeartbeats 2000000 in
theorem words_ref (w0 : World) {b o n cap at_ : Nat} {m : List Byte} (hn : n < 2 ^ 62) (hat : at_ + 64 ≤ n) (hm : ∀ j, j < 64 → rc w0 b (o + (at_ + j)) = some (u8 (m.getD j 0))) :
    Fn Tryz.prog 53 #[.slice (some ⟨b,o,none⟩) n cap,.int .i64 at_] w0 fun v w' => v = .agg (wl (words m)) ∧ No w0 w' := by
 refine Tryz.go53 (by simp) ?_
 generalize hp:Value.slice (some ⟨b,o,none⟩) n cap=p
 simp -implicitDefEqProofs only[go_sem,Nat.reduceEqDiff,Tryz.f53,Value.cells,wl_zero]
 generalize hW:(w0.alloc (.cells (wl (List.replicate 64 0)) 101)).alloc (.cells (wl (List.replicate 64 0)) 101)=W
 have fW:No w0 W:=by rw[← hW];exact ((Fr.refl _ _).alloc _).alloc _
 have h0:W.heap[w0.heap.size]?=some (.cells (wl (List.replicate 64 0)) 101 (0,0)):=by
  rw[← hW];exact alloc_at (alloc_blk_new _ _)
 have h1:W.heap[w0.heap.size+1]?=some (.cells (wl (wA m 0)) 101 (0,0)):=by
  rw[← hW,wA_zero];have:=alloc_blk_new (w0.alloc (.cells (wl (List.replicate 64 0)) 101)) (.cells (wl (List.replicate 64 0)) 101)
  rw[alloc_heap_size] at this;exact this
 refine loopD [0,1,4,5,6] (wI1 w0 m w0.heap.size at_ p) 16 ⟨0,by simp[upd],by omega,rfl,h0,h1,fW⟩ ?_
 rintro _ vs w1 g ⟨i,rfl,hi,rfl,k0,k1,f1⟩
 by_cases hlt:i<16
 ·have d1:decide ((i:Int)<16)=true:=by simp;omega
  subst hp
  have r:∀ j,j<4→rdO Tryz.prog 5 w1 b (o+(at_+4*i+j))=some (u8 (m.getD (4*i+j) 0)):=fun j hj=>by
   have:=hm (4*i+j) (by omega)
   exact rd_rc Tryz.agg5 (by rw[f1.rc (rc_lt this) id,Nat.add_assoc];exact this)
  have r0:=r 0 (by omega);have r1:=r 1 (by omega);have r2:=r 2 (by omega);have r3:=r 3 (by omega)
  rw[Nat.add_zero,Nat.add_zero] at r0
  have a0:IntKind.i64.wrap (4*(i:Int))=((4*i:Nat):Int):=i64mul (a:=4) (b:=i) (by omega)
  have a1:IntKind.i64.wrap ((at_:Int)+((4*i:Nat):Int))=((at_+4*i:Nat):Int):=i64add (by omega)
  have b1:IntKind.i64.wrap (((at_+4*i:Nat):Int)+1)=((at_+4*i+1:Nat):Int):=i64add (b:=1) (by omega)
  have b2:IntKind.i64.wrap (((at_+4*i:Nat):Int)+2)=((at_+4*i+2:Nat):Int):=i64add (b:=2) (by omega)
  have b3:IntKind.i64.wrap (((at_+4*i:Nat):Int)+3)=((at_+4*i+3:Nat):Int):=i64add (b:=3) (by omega)
  have c1:IntKind.i64.wrap ((i:Int)+1)=((i+1:Nat):Int):=i64add (b:=1) (by omega)
  have x0:(0:Int)≤((at_+4*i:Nat):Int)∧((at_+4*i:Nat):Int)<(n:Int):=by omega
  have x1:(0:Int)≤((at_+4*i+1:Nat):Int)∧((at_+4*i+1:Nat):Int)<(n:Int):=by omega
  have x2:(0:Int)≤((at_+4*i+2:Nat):Int)∧((at_+4*i+2:Nat):Int)<(n:Int):=by omega
  have x3:(0:Int)≤((at_+4*i+3:Nat):Int)∧((at_+4*i+3:Nat):Int)<(n:Int):=by omega
  have x4:(0:Int)≤(i:Int)∧(i:Int)<((64:Nat):Int):=by omega
  have s24:∀ z:W32,shlK .u32 (z.toNat:Int) 24=((z <<< 24).toNat:Int):=fun z=>shl32 z 24 (by omega)
  have s16:∀ z:W32,shlK .u32 (z.toNat:Int) 16=((z <<< 16).toNat:Int):=fun z=>shl32 z 16 (by omega)
  have s8:∀ z:W32,shlK .u32 (z.toNat:Int) 8=((z <<< 8).toNat:Int):=fun z=>shl32 z 8 (by omega)
  have q:=wr1 (P:=Tryz.prog) (t:=99) (w:=w1.drew) (v:=u32 (word4 m (4*i))) (o:=i) Tryz.sz99 rfl k1 (by rw[wl_size,wA_len m (by omega)];omega)
  rw[wl_set,wA_set m (by omega)] at q
  simp only[word4] at q
  simp -implicitDefEqProofs only[go_sem,Nat.reduceEqDiff,Nat.reduceBEq,d1,a0,a1,b1,b2,b3,x0,x1,x2,x3,x4,and_self,Int.toNat_natCast,Nat.mul_one,r0,r1,r2,r3,ext8,s24,s16,s8,or32,Int.reduceLT,c1,q]
  refine⟨16 - (i+1),by omega,i+1,rfl,by omega,rfl,put_off k0 (by omega),put_at k1,f1.drew.put (b:=w0.heap.size+1) _ fun h=>by omega⟩
 ·have d1:decide ((i:Int)<16)=false:=by simp;omega
  have e:i=16:=by omega
  subst e
  rw[wB_zero] at k1
  simp -implicitDefEqProofs only[go_sem,Nat.reduceEqDiff,Nat.reduceBEq,d1]
  refine loopD [4,5,8] (wI2 w0 m w0.heap.size) 48 ⟨0,by simp[upd],by omega,rfl,k0,k1,f1⟩ ?_
  rintro _ vs w2 g2 ⟨i,rfl,hi,rfl,l0,l1,f2⟩
  by_cases hlt:i<48
  ·have d1:decide (((16+i:Nat):Int)<64)=true:=by simp;omega
   have sb:∀ c:Nat,c≤16→IntKind.i64.wrap (((16+i:Nat):Int) - (c:Int))=((16+i - c:Nat):Int):=fun c hc=>i64sub (by omega) (by omega)
   have s2:IntKind.i64.wrap (((16+i:Nat):Int) - 2)=((16+i - 2:Nat):Int):=sb 2 (by omega)
   have s7:IntKind.i64.wrap (((16+i:Nat):Int) - 7)=((16+i - 7:Nat):Int):=sb 7 (by omega)
   have s15:IntKind.i64.wrap (((16+i:Nat):Int) - 15)=((16+i - 15:Nat):Int):=sb 15 (by omega)
   have s16:IntKind.i64.wrap (((16+i:Nat):Int) - 16)=((16+i - 16:Nat):Int):=sb 16 (by omega)
   have x:∀ c:Nat,c≤16→(0:Int)≤((16+i - c:Nat):Int)∧((16+i - c:Nat):Int)<((64:Nat):Int):=fun c hc=>by omega
   have x2:=x 2 (by omega);have x7:=x 7 (by omega);have x15:=x 15 (by omega);have x16:=x 16 (by omega)
   have x0:(0:Int)≤((16+i:Nat):Int)∧((16+i:Nat):Int)<((64:Nat):Int):=by omega
   have rr:∀ c:Nat,0<c→c≤16→rdO Tryz.prog 99 w2 (w0.heap.size+1) (16+i - c)=some (u32 ((sch m i).getD (16+i - c) 0)):=fun c h0 hc =>
    rd1 Tryz.agg99 l1 (wB_at m (by omega) (by omega))
   have r2:=rr 2 (by omega) (by omega);have r7:=rr 7 (by omega) (by omega);have r15:=rr 15 (by omega) (by omega);have r16:=rr 16 (by omega) (by omega)
   have c1:IntKind.i64.wrap (((16+i:Nat):Int)+1)=((16+(i+1):Nat):Int):=i64add (b:=1) (by omega)
   have h10:∀ z:W32,shrK .u32 (z.toNat:Int) 10=((z >>> 10).toNat:Int):=fun z=>shr32 z 10 (by omega)
   have h3:∀ z:W32,shrK .u32 (z.toNat:Int) 3=((z >>> 3).toNat:Int):=fun z=>shr32 z 3 (by omega)
   have q:=wr1 (P:=Tryz.prog) (t:=99) (w:=w2.drew.drew.drew) (v:=u32 (nextW (sch m i) (16+i))) (o:=16+i) Tryz.sz99 rfl l1 (by rw[wl_size,wB_len m hi];omega)
   rw[wl_set,wB_set m hlt] at q
   simp only[nextW,low1,low0] at q
   generalize (sch m i).getD (16+i - 2) 0=v2 at r2 q
   generalize (sch m i).getD (16+i - 7) 0=v7 at r7 q
   generalize (sch m i).getD (16+i - 15) 0=v15 at r15 q
   generalize (sch m i).getD (16+i - 16) 0=v16 at r16 q
   simp -implicitDefEqProofs only[go_sem,Nat.reduceEqDiff,Nat.reduceBEq,d1]
   refine den_ext (fun j=>j == 4 || j == 9) [0,1,2,3,5,6,7,8,11,12,13,14,4,9,10,15,16,17] rfl (by kernel_rfl) (by kernel_rfl) ?_
   simp -implicitDefEqProofs only[go_sem,Nat.reduceEqDiff,gLa,gLz,gLs,s2,x2,and_self,Int.toNat_natCast,Nat.mul_one,r2]
   refine contLX_call Tryz.pl95 ((turn _ v2 17 (by omega)).mono ?_);rintro _ _ ⟨rfl,rfl⟩
   refine⟨fun _=>Ext.refl _,?_⟩
   simp -implicitDefEqProofs only[go_sem,Nat.reduceEqDiff,gLa,gLz,gLs]
   refine contLX_call Tryz.pl95 ((turn _ v2 19 (by omega)).mono ?_);rintro _ _ ⟨rfl,rfl⟩
   refine⟨fun _=>Ext.refl _,?_⟩
   simp -implicitDefEqProofs only[go_sem,Nat.reduceEqDiff,gLa,gLz,gLs,h10,xor32,Int.reduceLT]
   refine den_ext (fun j=>j == 4 || j == 9) [0,1,2,3,5,6,7,8,11,12,13,14,4,9,10,15,16,17] rfl (by kernel_rfl) (by kernel_rfl) ?_
   simp -implicitDefEqProofs only[go_sem,Nat.reduceEqDiff,gLa,gLz,gLs,s15,x15,and_self,Int.toNat_natCast,Nat.mul_one,r15]
   refine contLX_call Tryz.pl95 ((turn _ v15 7 (by omega)).mono ?_);rintro _ _ ⟨rfl,rfl⟩
   refine⟨fun _=>Ext.refl _,?_⟩
   simp -implicitDefEqProofs only[go_sem,Nat.reduceEqDiff,gLa,gLz,gLs]
   refine contLX_call Tryz.pl95 ((turn _ v15 18 (by omega)).mono ?_);rintro _ _ ⟨rfl,rfl⟩
   refine⟨fun _=>Ext.refl _,?_⟩
   simp -implicitDefEqProofs only[go_sem,Nat.reduceEqDiff,Nat.reduceBEq,gLa,gLz,gLs,h3,xor32,Int.reduceLT,s7,s16,x7,x16,x0,and_self,Int.toNat_natCast,Nat.mul_one,r7,r16,add32,q,c1]
   exact⟨48 - (i+1),by omega,i+1,rfl,by omega,rfl,put_off l0 (by omega),put_at l1,f2.drew.drew.drew.put (b:=w0.heap.size+1) _ fun h=>by omega⟩
  ·have d1:decide (((16+i:Nat):Int)<64)=false:=by simp;omega
   have e:i=48:=by omega
   subst e
   rw[wB_full] at l1
   have r:=rds (P:=Tryz.prog) (t:=101) (o:=0) (vs:=wl (words m)) Tryz.agg101 Tryz.sz101 l1 (by rw[wl_size,words_len]) (by omega) fun i hi=>by rw[Nat.zero_add]
   have q:=wr_all (P:=Tryz.prog) (t:=101) (vs:=wl (words m)) (by rw[wl_size,words_len];exact Tryz.sz101) l0 (by rw[wl_size,wl_size,words_len];simp) (wl_one _)
   have r2:=rds (P:=Tryz.prog) (t:=101) (o:=0) (vs:=wl (words m)) Tryz.agg101 Tryz.sz101 (put_at (o:=.cells (wl (words m)) 101 (0,0)) l0) (by rw[wl_size,words_len]) (by omega) fun i hi=>by rw[Nat.zero_add]
   simp -implicitDefEqProofs only[go_sem,Nat.reduceEqDiff,Nat.reduceBEq,d1,r,q,r2]
   exact f2.put (b:=w0.heap.size) _ fun h=>absurd h (Nat.lt_irrefl _)
structure Tabs (w:World):Prop where
 k1:∀ i,i<64→rc w 1 i=some (u32 (ktab.getD i 0))
 k2:∀ i,i<64→rc w 4 i=some (u32 (ktab.getD i 0))
 i1:∀ i,i<8→rc w 0 i=some (u32 (init.list.getD i 0))
 i2:∀ i,i<8→rc w 2 i=some (u32 (init.list.getD i 0))
theorem Tabs.fr {F:Nat→Prop} {w w':World} (h:Tabs w) (k:Fr F w w') (hf:∀ b,b<5→¬ F b):Tabs w' :=
 ⟨fun i hi=>by rw[k.rc (rc_lt (h.k1 i hi)) (hf _ (by decide))];exact h.k1 i hi,fun i hi=>by rw[k.rc (rc_lt (h.k2 i hi)) (hf _ (by decide))];exact h.k2 i hi,
  fun i hi=>by rw[k.rc (rc_lt (h.i1 i hi)) (hf _ (by decide))];exact h.i1 i hi,fun i hi=>by rw[k.rc (rc_lt (h.i2 i hi)) (hf _ (by decide))];exact h.i2 i hi⟩
theorem Tabs.no {w w':World} (h:Tabs w) (k:No w w'):Tabs w':=h.fr k fun _ _ h=>h
theorem Tabs.size {w:World} (h:Tabs w):5≤w.heap.size:=rc_lt (h.k2 0 (by omega))
def mixL (l s:List W32) (i:Nat):List W32:=(List.range 8).map fun j=>if j<i then l.getD j 0+s.getD j 0 else l.getD j 0
theorem mixL_len (l s:List W32) (i:Nat):(mixL l s i).length=8:=by simp[mixL]
theorem mixL_zero (t s:S8):mixL t.list s.list 0=t.list:=rfl
theorem mixL_all (t s:S8):mixL t.list s.list 8=(plus t s).list:=rfl
theorem mixL_getD (l s:List W32) {i:Nat} (h:i<8):(mixL l s i).getD i 0=l.getD i 0:=by
 rw[getD_lt 0 (by rw[mixL_len];exact h)];simp[mixL]
theorem mixL_set (l s:List W32) {i:Nat} (h:i<8):(mixL l s i).set i (l.getD i 0+s.getD i 0)=mixL l s (i+1):=by
 refine List.ext_getElem (by rw[List.length_set,mixL_len,mixL_len]) fun j h1 h2=>?_
 rw[mixL_len] at h2
 rw[List.getElem_set]
 simp only[mixL,List.getElem_map,List.getElem_range]
 by_cases hj:i=j
 ·subst hj;rw[if_pos rfl,if_pos (by omega)]
 ·rw[if_neg hj]
  by_cases hk:j<i
  ·rw[if_pos hk,if_pos (by omega)]
  ·rw[if_neg hk,if_neg (by omega)]
theorem plus_comm (s t:S8):plus s t=plus t s:=by simp only[plus,BitVec.add_comm]
theorem bld8i (a b c d e f g h : Int) : bldO Tryz.prog 100 [(0, .int .u32 a), (1, .int .u32 b), (2, .int .u32 c), (3, .int .u32 d), (4, .int .u32 e), (5, .int .u32 f), (6, .int .u32 g), (7, .int .u32 h)] =
    some (.agg #[.int .u32 a,.int .u32 b,.int .u32 c,.int .u32 d,.int .u32 e,.int .u32 f,.int .u32 g,.int .u32 h]) := by
 unfold bldO;rw[Tryz.zero100,Tryz.places100,Tryz.arr100];simp[Instr.fill,Value.cells,Tryz.sz99]
theorem bld8 (a b c d e f g h:W32):bldO Tryz.prog 100 [(0,u32 a),(1,u32 b),(2,u32 c),(3,u32 d),(4,u32 e),(5,u32 f),(6,u32 g),(7,u32 h)]=some (.agg (wl [a,b,c,d,e,f,g,h])):=bld8i _ _ _ _ _ _ _ _
def bI1 (w0:World) (s:S8) (ws:List W32) (b0:Nat) (n:Nat) (vs:List Value) (w:World):Prop :=
 ∃ i,vs=[pt b0 0,pt (b0+1) 0,pt (b0+1+1) 0,pt (b0+1+1+1) 0,.int .i64 (i:Nat)]∧i≤64∧n=64 - i∧w.heap[b0]?=some (.cells (wl s.list) 100 (0,0)) ∧
  w.heap[b0+1]?=some (.cells (wl ws) 101 (0,0))∧w.heap[b0+1+1]?=some (.cells (wl (List.replicate 8 0)) 100 (0,0)) ∧
  w.heap[b0+1+1+1]?=some (.cells (wl (rnds ws s i).list) 100 (0,0))∧No w0 w
def bI2 (w0:World) (s t:S8) (b0:Nat) (n:Nat) (vs:List Value) (w:World):Prop :=
 ∃ i,vs=[pt b0 0,pt (b0+1+1) 0,pt (b0+1+1+1) 0,.int .i64 (i:Nat)]∧i≤8∧n=8 - i∧w.heap[b0]?=some (.cells (wl s.list) 100 (0,0)) ∧
  w.heap[b0+1+1]?=some (.cells (wl (List.replicate 8 0)) 100 (0,0)) ∧
  w.heap[b0+1+1+1]?=some (.cells (wl (mixL t.list s.list i)) 100 (0,0))∧No w0 w
theorem zero8:(#[.int .u32 0,.int .u32 0,.int .u32 0,.int .u32 0,.int .u32 0,.int .u32 0,.int .u32 0,.int .u32 0]:Array Value)=wl (List.replicate 8 0):=rfl
set_option maxHeartbeats 4000000 in
theorem behind_ref (w0 : World) (ht : Tabs w0) (s : S8) (ws : List W32) (hl : ws.length = 64) {T R : S8} (hT : rnds ws s 64 = T) (hR : plus s T = R) :
    Fn Tryz.prog 54 #[.agg (wl s.list),.agg (wl ws)] w0 fun v w' => v = .agg (wl R.list) ∧ No w0 w' := by
 refine Tryz.go54 (by simp) ?_
 have fW1:No w0 (((w0.alloc (.cells (wl s.list) 100)).alloc (.cells (wl ws) 101)).alloc (.cells (wl (List.replicate 8 0)) 100)):=(((Fr.refl _ _).alloc _).alloc _).alloc _
 have e0:(((w0.alloc (.cells (wl s.list) 100)).alloc (.cells (wl ws) 101)).alloc (.cells (wl (List.replicate 8 0)) 100)).heap[w0.heap.size]?=some (.cells (wl s.list) 100 (0,0)):=alloc_at (alloc_at (alloc_blk_new _ _))
 have e1:(((w0.alloc (.cells (wl s.list) 100)).alloc (.cells (wl ws) 101)).alloc (.cells (wl (List.replicate 8 0)) 100)).heap[w0.heap.size+1]?=some (.cells (wl ws) 101 (0,0)):=by
  have:=alloc_blk_new (w0.alloc (.cells (wl s.list) 100)) (.cells (wl ws) 101)
  rw[alloc_heap_size] at this;exact alloc_at this
 have e2:(((w0.alloc (.cells (wl s.list) 100)).alloc (.cells (wl ws) 101)).alloc (.cells (wl (List.replicate 8 0)) 100)).heap[w0.heap.size+1+1]?=some (.cells (wl (List.replicate 8 0)) 100 (0,0)):=by
  have:=alloc_blk_new ((w0.alloc (.cells (wl s.list) 100)).alloc (.cells (wl ws) 101)) (.cells (wl (List.replicate 8 0)) 100)
  rw[alloc_heap_size,alloc_heap_size] at this;exact this
 have z1:(((w0.alloc (.cells (wl s.list) 100)).alloc (.cells (wl ws) 101)).alloc (.cells (wl (List.replicate 8 0)) 100)).heap.size=w0.heap.size+1+1+1:=by
  rw[alloc_heap_size,alloc_heap_size,alloc_heap_size]
 have r0:rdO Tryz.prog 100 (((w0.alloc (.cells (wl s.list) 100)).alloc (.cells (wl ws) 101)).alloc (.cells (wl (List.replicate 8 0)) 100)) w0.heap.size 0=some (.agg (wl s.list)) :=
  rd_all Tryz.agg100 Tryz.sz100 e0
 have q0 : wrO Tryz.prog 100 ((((w0.alloc (.cells (wl s.list) 100)).alloc (.cells (wl ws) 101)).alloc (.cells (wl (List.replicate 8 0)) 100)).alloc (.cells (wl (List.replicate 8 0)) 100)) (w0.heap.size + 1 + 1 + 1) 0 (.agg (wl s.list)) =
     some (put ((((w0.alloc (.cells (wl s.list) 100)).alloc (.cells (wl ws) 101)).alloc (.cells (wl (List.replicate 8 0)) 100)).alloc (.cells (wl (List.replicate 8 0)) 100)) (w0.heap.size + 1 + 1 + 1) (.cells (wl s.list) 100 (0,0))) := by
  have:=alloc_blk_new (((w0.alloc (.cells (wl s.list) 100)).alloc (.cells (wl ws) 101)).alloc (.cells (wl (List.replicate 8 0)) 100)) (.cells (wl (List.replicate 8 0)) 100)
  rw[z1] at this
  exact wr_all Tryz.sz100 this rfl (wl_one _)
 simp -implicitDefEqProofs only[go_sem,Nat.reduceEqDiff,Tryz.f54,Value.cells,zero8]
 generalize ((w0.alloc (.cells (wl s.list) 100)).alloc (.cells (wl ws) 101)).alloc (.cells (wl (List.replicate 8 0)) 100)=W at *
 simp -implicitDefEqProofs only[go_sem,Nat.reduceEqDiff,Value.cells,zero8,r0,z1,q0]
 have n3:∀ x:Array Value,(put (W.alloc (.cells (wl (List.replicate 8 0)) 100)) (w0.heap.size+1+1+1) (.cells x 100 (0,0))).heap[w0.heap.size+1+1+1]?=some (.cells x 100 (0,0)):=fun x =>
  blk_put_same _ (by rw[alloc_heap_size];omega)
 have fW2:No w0 (put (W.alloc (.cells (wl (List.replicate 8 0)) 100)) (w0.heap.size+1+1+1) (.cells (wl s.list) 100 (0,0))):=(fW1.alloc _).put (b:=w0.heap.size+1+1+1) _ fun h=>by omega
 have i8:∀ k:Nat,k<8→(0:Int)≤(k:Int)∧(k:Int)<((8:Nat):Int):=fun k hk=>by omega
 have x0:(0:Int)≤0∧(0:Int)<((8:Nat):Int):=by decide
 have x1:(0:Int)≤1∧(1:Int)<((8:Nat):Int):=by decide
 have x2:(0:Int)≤2∧(2:Int)<((8:Nat):Int):=by decide
 have x3:(0:Int)≤3∧(3:Int)<((8:Nat):Int):=by decide
 have x4:(0:Int)≤4∧(4:Int)<((8:Nat):Int):=by decide
 have x5:(0:Int)≤5∧(5:Int)<((8:Nat):Int):=by decide
 have x6:(0:Int)≤6∧(6:Int)<((8:Nat):Int):=by decide
 have x7:(0:Int)≤7∧(7:Int)<((8:Nat):Int):=by decide
 refine loopD [2,3,4,5,6] (bI1 w0 s ws w0.heap.size) 64 ⟨0,by simp[upd],by omega,rfl,put_off (alloc_at e0) (by omega),put_off (alloc_at e1) (by omega),put_off (alloc_at e2) (by omega),n3 _,fW2⟩ ?_
 rintro _ vs w1 g ⟨i,rfl,hi,rfl,k0,k1,k2,k3,f1⟩
 by_cases hlt:i<64
 ·have d1:decide ((i:Int)<64)=true:=by simp;omega
  have y:(0:Int)≤(i:Int)∧(i:Int)<((64:Nat):Int):=by omega
  have rk:rdO Tryz.prog 99 w1 1 i=some (u32 (ktab.getD i 0)):=by
   have:=ht.k1 i hlt
   exact rd_rc Tryz.agg99 (by rw[f1.rc (rc_lt this) id];exact this)
  have rw_:rdO Tryz.prog 99 w1 (w0.heap.size+1) i=some (u32 (ws.getD i 0)):=rd1 Tryz.agg99 k1 (wl_at (by omega))
  have hr:rnds ws s (i+1)=rnd (rnds ws s i) (ktab.getD i 0) (ws.getD i 0):=rfl
  have c1:IntKind.i64.wrap ((i:Int)+1)=((i+1:Nat):Int):=i64add (b:=1) (by omega)
  have key:∀ w2:World,w2.heap=w1.heap→∀ V:S8,wrO Tryz.prog 100 w2 (w0.heap.size+1+1+1) 0 (.agg (wl V.list))=some (put w2 (w0.heap.size+1+1+1) (.cells (wl V.list) 100 (0,0))):=fun w2 h2 V =>
   wr_all (c:=wl (rnds ws s i).list) Tryz.sz100 (by rw[h2];exact k3) (by rw[wl_size,wl_size];rfl) (wl_one _)
  generalize ktab.getD i 0=kk at rk hr
  generalize ws.getD i 0=wk at rw_ hr
  obtain⟨V,hV⟩:∃ V,V=rnds ws s i:=⟨_,rfl⟩
  rw[← hV] at k3 hr
  have r0:rdO Tryz.prog 99 w1 (w0.heap.size+1+1+1) 0=some (u32 V.a):=rd1 Tryz.agg99 k3 rfl
  have r1:rdO Tryz.prog 99 w1 (w0.heap.size+1+1+1) 1=some (u32 V.b):=rd1 Tryz.agg99 k3 rfl
  have r2:rdO Tryz.prog 99 w1 (w0.heap.size+1+1+1) 2=some (u32 V.c):=rd1 Tryz.agg99 k3 rfl
  have r3:rdO Tryz.prog 99 w1 (w0.heap.size+1+1+1) 3=some (u32 V.d):=rd1 Tryz.agg99 k3 rfl
  have r4:rdO Tryz.prog 99 w1 (w0.heap.size+1+1+1) 4=some (u32 V.e):=rd1 Tryz.agg99 k3 rfl
  have r5:rdO Tryz.prog 99 w1 (w0.heap.size+1+1+1) 5=some (u32 V.f):=rd1 Tryz.agg99 k3 rfl
  have r6:rdO Tryz.prog 99 w1 (w0.heap.size+1+1+1) 6=some (u32 V.g):=rd1 Tryz.agg99 k3 rfl
  have r7:rdO Tryz.prog 99 w1 (w0.heap.size+1+1+1) 7=some (u32 V.h):=rd1 Tryz.agg99 k3 rfl
  simp -implicitDefEqProofs only[go_sem,Nat.reduceEqDiff,Nat.reduceBEq,d1]
  refine den_ext (fun j=>j == 2 || j == 5 || j == 9) [0,1,3,4,7,8,2,5,6,9,10,11] rfl (by kernel_rfl) (by kernel_rfl) ?_
  simp -implicitDefEqProofs only[go_sem,Nat.reduceEqDiff,gLa,gLz,gLs,x4,and_self,Int.reduceToNat,Nat.mul_one,r4]
  refine contLX_call Tryz.pl95 ((turn _ V.e 6 (by omega)).mono ?_);rintro _ _ ⟨rfl,rfl⟩
  refine⟨fun _=>Ext.refl _,?_⟩
  simp -implicitDefEqProofs only[go_sem,Nat.reduceEqDiff,gLa,gLz,gLs]
  refine contLX_call Tryz.pl95 ((turn _ V.e 11 (by omega)).mono ?_);rintro _ _ ⟨rfl,rfl⟩
  refine⟨fun _=>Ext.refl _,?_⟩
  simp -implicitDefEqProofs only[go_sem,Nat.reduceEqDiff,gLa,gLz,gLs,xor32]
  refine contLX_call Tryz.pl95 ((turn _ V.e 25 (by omega)).mono ?_);rintro _ _ ⟨rfl,rfl⟩
  refine⟨fun _=>Ext.refl _,?_⟩
  simp -implicitDefEqProofs only[go_sem,Nat.reduceEqDiff,Nat.reduceBEq,gLa,gLz,gLs,xor32,and32,not32,add32,x4,x5,x6,x7,y,and_self,Int.toNat_natCast,Int.reduceToNat,Nat.mul_one,r4,r5,r6,r7,rk,rw_]
  refine den_ext (fun j=>j == 2 || j == 5 || j == 9) [0,1,3,4,7,8,2,5,6,9,10,11] rfl (by kernel_rfl) (by kernel_rfl) ?_
  simp -implicitDefEqProofs only[go_sem,Nat.reduceEqDiff,gLa,gLz,gLs,x0,and_self,Int.reduceToNat,Nat.mul_one,Nat.zero_mul,r0]
  refine contLX_call Tryz.pl95 ((turn _ V.a 2 (by omega)).mono ?_);rintro _ _ ⟨rfl,rfl⟩
  refine⟨fun _=>Ext.refl _,?_⟩
  simp -implicitDefEqProofs only[go_sem,Nat.reduceEqDiff,gLa,gLz,gLs]
  refine contLX_call Tryz.pl95 ((turn _ V.a 13 (by omega)).mono ?_);rintro _ _ ⟨rfl,rfl⟩
  refine⟨fun _=>Ext.refl _,?_⟩
  simp -implicitDefEqProofs only[go_sem,Nat.reduceEqDiff,gLa,gLz,gLs,xor32]
  refine contLX_call Tryz.pl95 ((turn _ V.a 22 (by omega)).mono ?_);rintro _ _ ⟨rfl,rfl⟩
  refine⟨fun _=>Ext.refl _,?_⟩
  simp -implicitDefEqProofs only[go_sem,Nat.reduceEqDiff,Nat.reduceBEq,gLa,gLz,gLs,xor32,and32,not32,add32,x0,x1,x2,x3,x4,x5,x6,x7,y,and_self,Int.toNat_natCast,Int.reduceToNat,Nat.mul_one,Nat.zero_mul,r0,r1,r2,r3,r4,r5,r6,r7,bld8]
  rw[show wl [V.h+(rotr V.e 6 ^^^ rotr V.e 11 ^^^ rotr V.e 25)+(V.e &&& V.f ^^^ ~~~V.e &&& V.g)+kk+wk+(rotr V.a 2 ^^^ rotr V.a 13 ^^^ rotr V.a 22)+(V.a &&& V.b ^^^ V.a &&& V.c ^^^ V.b &&& V.c),V.a,V.b,V.c,V.d+(V.h+(rotr V.e 6 ^^^ rotr V.e 11 ^^^ rotr V.e 25)+(V.e &&& V.f ^^^ ~~~V.e &&& V.g)+kk+wk),V.e,V.f,V.g]=wl (rnd V kk wk).list from rfl]
  rw[← hr]
  simp -implicitDefEqProofs only[go_sem,Nat.reduceEqDiff,key _ (show w1.drew.drew.drew.heap=w1.heap from rfl) (rnds ws s (i+1)),c1]
  exact⟨64 - (i+1),by omega,i+1,rfl,by omega,rfl,put_off k0 (by omega),put_off k1 (by omega),put_off k2 (by omega),put_at k3,f1.drew.drew.drew.put (b:=w0.heap.size+1+1+1) _ fun h=>by omega⟩
 ·have d1:decide ((i:Int)<64)=false:=by simp;omega
  have e:i=64:=by omega
  subst e
  simp -implicitDefEqProofs only[go_sem,Nat.reduceEqDiff,d1]
  rw[hT,← mixL_zero T s] at k3
  refine loopD [2,4,5,12] (bI2 w0 s T w0.heap.size) 8 ⟨0,by simp[upd],by omega,rfl,k0,k2,k3,f1⟩ ?_
  rintro _ vs w2 g2 ⟨i,rfl,hi,rfl,l0,l2,l3,f2⟩
  by_cases hlt:i<8
  ·have d1:decide ((i:Int)<8)=true:=by simp;omega
   have y:=i8 i hlt
   have c1:IntKind.i64.wrap ((i:Int)+1)=((i+1:Nat):Int):=i64add (b:=1) (by omega)
   have r1:rdO Tryz.prog 99 w2 (w0.heap.size+1+1+1) i=some (u32 (T.list.getD i 0)):=by
    rw[← mixL_getD T.list s.list hlt];exact rd1 Tryz.agg99 l3 (wl_at (by rw[mixL_len];exact hlt))
   have r2:rdO Tryz.prog 99 w2 w0.heap.size i=some (u32 (s.list.getD i 0)):=rd1 Tryz.agg99 l0 (wl_at hlt)
   have q:=wr1 (P:=Tryz.prog) (t:=99) (w:=w2.drew) (v:=u32 (T.list.getD i 0+s.list.getD i 0)) (o:=i) Tryz.sz99 rfl l3 (by rw[wl_size,mixL_len];exact hlt)
   rw[wl_set,mixL_set _ _ hlt] at q
   generalize T.list.getD i 0=t1 at r1 q
   generalize s.list.getD i 0=s1 at r2 q
   simp -implicitDefEqProofs only[go_sem,Nat.reduceEqDiff,Nat.reduceBEq,d1,y,and_self,Int.toNat_natCast,Nat.mul_one,r1,r2,add32,q,c1]
   exact⟨8 - (i+1),by omega,i+1,rfl,by omega,rfl,put_off l0 (by omega),put_off l2 (by omega),put_at l3,f2.drew.put (b:=w0.heap.size+1+1+1) _ fun h=>by omega⟩
  ·have d1:decide ((i:Int)<8)=false:=by simp;omega
   have e:i=8:=by omega
   subst e
   rw[mixL_all,plus_comm,hR] at l3
   have r:=rds (P:=Tryz.prog) (t:=100) (o:=0) (vs:=wl R.list) Tryz.agg100 Tryz.sz100 l3 rfl (by omega) fun i hi=>by rw[Nat.zero_add]
   have q:=wr_all (P:=Tryz.prog) (t:=100) (vs:=wl R.list) Tryz.sz100 l2 rfl (wl_one _)
   have r2:=rds (P:=Tryz.prog) (t:=100) (o:=0) (vs:=wl R.list) Tryz.agg100 Tryz.sz100 (put_at (o:=.cells (wl R.list) 100 (0,0)) l2) rfl (by omega) fun i hi=>by rw[Nat.zero_add]
   simp -implicitDefEqProofs only[go_sem,Nat.reduceEqDiff,d1,r,q,r2]
   exact f2.put (b:=w0.heap.size+1+1) _ fun h=>by omega
end Go.V
end
