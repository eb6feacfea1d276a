/- Helpers. -/
import Derived.Test.YtppmpdjlmgfdkaaGreatDoorG12
import Derived.Test.YtppmpdjlmgfdkaaGreatDoorG09
import Derived.Test.YtppmpdjlmgfdkaaGreatDoorG08
set_option linter.all false
set_option maxRecDepth 100000
set_option maxHeartbeats 8000000
open BitVec renaming ofNat→zD
open Int renaming reduceToNat→jK,reduceLT→jV
open List renaming replicate→zV,append_assoc→zO,take_of_length_le→zT,length_singleton→jW
open Nat renaming reduceEqDiff→jY,zero_add→zB,mul_one→jU,reduceBEq→jG,lt_irrefl→jF
open Go.Value renaming cells→jH
namespace Go.V
open Go.Proofs.Tryz Go.V.Tryz
open Go.Proofs Sha
variable {m msg:List Byte} {a b i k n:Nat} {mv:Value} {w w':World}
theorem andRot:∀ k:Fin 32,0<k.val→andK .u64 (IntKind.u64.wrap (-(k.val:Int))) 31=((32 - k.val:Nat):Int):=by decide +kernel
theorem subRot:∀ k:Fin 33,IntKind.u64.wrap (32 - (k.val:Int))=((32 - k.val:Nat):Int):=by decide +kernel
theorem rotl (w:World)(x:W32)(k:Nat)(h0:0<k)(hk:k<32):Fn prog 198 #[u32 x,.int .i64 (-(k:Int))] w fun v w'=>v=u32 (rotr x k)∧w'=w:=by
 refine go198 (by simp) ?_;have a1:andK .u64 (IntKind.u64.wrap (-(k:Int))) 31=((32 - k:Nat):Int):=andRot ⟨k,hk⟩ h0
 have a2:IntKind.u64.wrap (32 - ((32 - k:Nat):Int))=(k:Int):=by
  have:=subRot ⟨32 - k,by omega⟩;simp only at this;rw[this];omega
 have d1:¬ (((32 - k:Nat):Int)<0):=by omega
 have d2:¬ ((k:Int)<0):=by omega
 simp -implicitDefEqProofs only[go_sem,jY,Tryz.f198,a1,a2,d1,d2,shl32 x (32 - k) (by omega),shr32 x k (by omega),or32];rw[rotr,BitVec.or_comm];exact⟨rfl,trivial⟩
theorem turn (w:World)(x:W32)(k:Nat)(hk:k≤32):Fn prog 188 #[u32 x,.int .u64 (k:Int)] w fun v w'=>v=u32 (rotr x k)∧w'=w:=by
 refine go188 (by simp) ?_;have a2:IntKind.u64.wrap (32 - (k:Int))=((32 - k:Nat):Int):=subRot ⟨k,by omega⟩;have d1:¬ (((32 - k:Nat):Int)<0):=by omega
 have d2:¬ ((k:Int)<0):=by omega
 simp -implicitDefEqProofs only[go_sem,jY,Tryz.f188,a2,d1,d2,shl32 x (32 - k) (by omega),shr32 x k (by omega),or32];exact⟨rfl,trivial⟩
theorem sch0_len (m:List Byte)(k:Nat):(sch0 m k).length=k:=by simp[sch0]
theorem sch0_succ (m:List Byte)(k:Nat):sch0 m (k+1)=sch0 m k++[word4 m (4*k)]:=by simp[sch0,List.range_succ]
def wA (m:List Byte)(k:Nat):List W32:=padTo 0 64 (sch0 m k)
def wB (m:List Byte)(k:Nat):List W32:=padTo 0 64 (sch m k)
theorem wA_zero (m:List Byte):wA m 0=zV 64 0:=by rw[wA,show sch0 m 0=[] from rfl,padTo_nil]
theorem wA_len (m:List Byte)(h:k≤64):(wA m k).length=64:=qZb (by rw[sch0_len];exact h)
theorem wB_len (m:List Byte)(h:k≤48):(wB m k).length=64:=qZb (by rw[sch_len];omega)
theorem wA_set (m:List Byte)(h:k<64):(wA m k).set k (word4 m (4*k))=wA m (k+1):=by
 have:=padTo_set (z:=(0:W32)) (n:=64) (l:=sch0 m k) (word4 m (4*k)) (by rw[sch0_len];exact h);rw[sch0_len]at this;rw[wA,wA,this,sch0_succ]
theorem wB_zero (m:List Byte):wA m 16=wB m 0:=rfl
theorem wB_set (m:List Byte)(h:k<48):(wB m k).set (16+k) (nextW (sch m k) (16+k))=wB m (k+1):=by
 have:=padTo_set (z:=(0:W32)) (n:=64) (l:=sch m k) (nextW (sch m k) (16+k)) (by rw[sch_len];omega);rw[sch_len]at this;rw[wB,wB,this];rfl
theorem wB_full (m:List Byte):wB m 48=words m:=padTo_full (sch_len m 48)
theorem wB_at (m:List Byte){k j:Nat}(hk:k≤48)(h:j<16+k):(wl (wB m k))[j]?=some (u32 ((sch m k).getD j 0)):=by
 rw[wl_at (by rw[wB_len m hk];omega),wB,padTo_getD 0 (by rw[sch_len];exact h)]
theorem i64n (h:n<2 ^ 62:=by omega):IntKind.i64.wrap (n:Int)=n:=qQm (by omega) (by omega)
theorem qXi (h:a+b<2 ^ 62:=by omega):IntKind.i64.wrap ((a:Int)+(b:Int))=((a+b:Nat):Int):=by rw[qQm (by omega) (by omega)];rfl
theorem iSu (h:i+1<2 ^ 62:=by omega):IntKind.i64.wrap ((i:Int)+1)=((i+1:Nat):Int):=qXi (b:=1) h
theorem qZj (h:b≤a)(h2:a<2 ^ 62):IntKind.i64.wrap ((a:Int) - (b:Int))=((a - b:Nat):Int):=by rw[qQm (by omega) (by omega)];omega
theorem i64mul (h:a*b<2 ^ 62):IntKind.i64.wrap ((a:Int)*(b:Int))=((a*b:Nat):Int):=by
 rw[← Int.natCast_mul,qQm (by omega) (by omega)]
def wI1 (w0:World)(m:List Byte)(b0 at_:Nat)(p:Value)(n:Nat)(vs:List Value)(w:World):Prop :=
 ∃ i,vs=[p,.int .i64 at_,pt b0 0,pt (b0+1) 0,.int .i64 (i:Nat)]∧i≤16∧n=16 - i∧w.heap[b0]?=some (.cells (wl (zV 64 0)) 251 (0,0)) ∧
  w.heap[b0+1]?=some (.cells (wl (wA m i)) 251 (0,0))∧No w0 w
def wI2 (w0:World)(m:List Byte)(b0:Nat)(n:Nat)(vs:List Value)(w:World):Prop :=
 ∃ i,vs=[pt b0 0,pt (b0+1) 0,.int .i64 (16+i:Nat)]∧i≤48∧n=48 - i∧w.heap[b0]?=some (.cells (wl (zV 64 0)) 251 (0,0)) ∧
  w.heap[b0+1]?=some (.cells (wl (wB m i)) 251 (0,0))∧No w0 w
theorem words_ref (w0:World){b o n cap at_:Nat}(hn:n<2 ^ 62)(hat:at_+64≤n)(hm:∀ j, j<64→rc w0 b (o+(at_+j))=some (u8 (m.getD j 0))) :
  Fn prog 166 #[.slice (some ⟨b,o,none⟩) n cap,.int .i64 at_] w0 fun v w'=>v=.agg (wl (words m))∧No w0 w':=by
 refine go166 (by simp) ?_;generalize hp:Value.slice (some ⟨b,o,none⟩) n cap=p;simp -implicitDefEqProofs only[go_sem,Tryz.f166,jH,wl_zero];generalize hW:(w0.alloc (.cells (wl (zV 64 0)) 251)).alloc (.cells (wl (zV 64 0)) 251)=W;have fW:No w0 W:=by rw[← hW];exact ((Fr.refl _ _).alloc _).alloc _
 have h0:W.heap[w0.heap.size]?=some (.cells (wl (zV 64 0)) 251 (0,0)):=by
  rw[← hW];exact qQq (qQb _ _)
 have h1:W.heap[w0.heap.size+1]?=some (.cells (wl (wA m 0)) 251 (0,0)):=by
  rw[← hW,wA_zero];have:=qQb (w0.alloc (.cells (wl (zV 64 0)) 251)) (.cells (wl (zV 64 0)) 251);rw[qQc]at this;exact this
 refine loopD [0,1,4,5,6] (wI1 w0 m w0.heap.size at_ p) 16 ⟨0,by simp[upd],by omega,rfl,h0,h1,fW⟩ ?_;rintro _ vs w1 g ⟨i,rfl,hi,rfl,k0,k1,f1⟩
 by_cases hlt:i<16
 ·have d1:=dTo ((i:Int)<16)
  subst hp
  have r:∀ j,j<4→rdO prog 5 w1 b (o+(at_+4*i+j))=some (u8 (m.getD (4*i+j) 0)):=fun j hj=>by
   have:=hm (4*i+j) (by omega);exact rd_rc agg5 (by rw[f1.rc (rc_lt this) id,Nat.add_assoc];exact this)
  have r0:=r 0 (by omega);have r1:=r 1 (by omega);have r2:=r 2 (by omega);have r3:=r 3 (by omega);rw[Nat.add_zero,Nat.add_zero]at r0;have a0:IntKind.i64.wrap (4*(i:Int))=((4*i:Nat):Int):=i64mul (a:=4) (b:=i) (by omega);have a1:IntKind.i64.wrap ((at_:Int)+((4*i:Nat):Int))=((at_+4*i:Nat):Int):=qXi;have b1:IntKind.i64.wrap (((at_+4*i:Nat):Int)+1)=((at_+4*i+1:Nat):Int):=qXi (b:=1);have b2:IntKind.i64.wrap (((at_+4*i:Nat):Int)+2)=((at_+4*i+2:Nat):Int):=qXi (b:=2);have b3:IntKind.i64.wrap (((at_+4*i:Nat):Int)+3)=((at_+4*i+3:Nat):Int):=qXi (b:=3);have c1:=iSu (i:=i);have x0:(0:Int)≤((at_+4*i:Nat):Int)∧((at_+4*i:Nat):Int)<(n:Int):=by omega
  have x1:(0:Int)≤((at_+4*i+1:Nat):Int)∧((at_+4*i+1:Nat):Int)<(n:Int):=by omega
  have x2:(0:Int)≤((at_+4*i+2:Nat):Int)∧((at_+4*i+2:Nat):Int)<(n:Int):=by omega
  have x3:(0:Int)≤((at_+4*i+3:Nat):Int)∧((at_+4*i+3:Nat):Int)<(n:Int):=by omega
  have x4:=iBd (i:=i) (n:=64);have s24:∀ z:W32,shlK .u32 (z.toNat:Int) 24=((z <<< 24).toNat:Int):=fun z=>shl32 z 24 (by omega);have s16:∀ z:W32,shlK .u32 (z.toNat:Int) 16=((z <<< 16).toNat:Int):=fun z=>shl32 z 16 (by omega);have s8:∀ z:W32,shlK .u32 (z.toNat:Int) 8=((z <<< 8).toNat:Int):=fun z=>shl32 z 8 (by omega);have q:=wr1 (P:=prog) (t:=34) (w:=w1.drew) (v:=u32 (word4 m (4*i))) (o:=i) sz34 rfl k1 (by rw[qZh,wA_len m (by omega)];omega);rw[wl_set,wA_set m (by omega)]at q;simp only[word4]at q;simp -implicitDefEqProofs only[go_sem,jY,jG,d1,a0,a1,b1,b2,b3,x0,x1,x2,x3,x4,and_self,iTn,jU,r0,r1,r2,r3,ext8,s24,s16,s8,or32,jV,c1,q];refine⟨16 - (i+1),by omega,i+1,rfl,by omega,rfl,qQi k0 (by omega),qQd k1,f1.drew.put (b:=w0.heap.size+1) _ fun h=>by omega⟩
 ·have d1:=dFo ((i:Int)<16)
  have e:i=16:=by omega
  subst e;rw[wB_zero]at k1;simp -implicitDefEqProofs only[go_sem,jY,d1];refine loopD [4,5,8] (wI2 w0 m w0.heap.size) 48 ⟨0,by simp[upd],by omega,rfl,k0,k1,f1⟩ ?_;rintro _ vs w2 g2 ⟨i,rfl,hi,rfl,l0,l1,f2⟩
  by_cases hlt:i<48
  ·have d1:=dTo (((16+i:Nat):Int)<64)
   have sb:∀ c:Nat,c≤16→IntKind.i64.wrap (((16+i:Nat):Int) - (c:Int))=((16+i - c:Nat):Int):=fun c hc=>qZj (by omega) (by omega);have s2:IntKind.i64.wrap (((16+i:Nat):Int) - 2)=((16+i - 2:Nat):Int):=sb 2 (by omega);have s7:IntKind.i64.wrap (((16+i:Nat):Int) - 7)=((16+i - 7:Nat):Int):=sb 7 (by omega);have s15:IntKind.i64.wrap (((16+i:Nat):Int) - 15)=((16+i - 15:Nat):Int):=sb 15 (by omega);have s16:IntKind.i64.wrap (((16+i:Nat):Int) - 16)=((16+i - 16:Nat):Int):=sb 16 (by omega);have x:∀ c:Nat,c≤16→(0:Int)≤((16+i - c:Nat):Int)∧((16+i - c:Nat):Int)<((64:Nat):Int):=fun c hc=>by omega
   have x2:=x 2 (by omega);have x7:=x 7 (by omega);have x15:=x 15 (by omega);have x16:=x 16 (by omega);have x0:(0:Int)≤((16+i:Nat):Int)∧((16+i:Nat):Int)<((64:Nat):Int):=by omega
   have rr:∀ c:Nat,0<c→c≤16→rdO prog 34 w2 (w0.heap.size+1) (16+i - c)=some (u32 ((sch m i).getD (16+i - c) 0)):=fun c h0 hc =>
    rd1 agg34 l1 (wB_at m (by omega) (by omega))
   have r2:=rr 2 (by omega) (by omega);have r7:=rr 7 (by omega) (by omega);have r15:=rr 15 (by omega) (by omega);have r16:=rr 16 (by omega) (by omega);have c1:IntKind.i64.wrap (((16+i:Nat):Int)+1)=((16+(i+1):Nat):Int):=qXi (b:=1);have h10:∀ z:W32,shrK .u32 (z.toNat:Int) 10=((z >>> 10).toNat:Int):=fun z=>shr32 z 10 (by omega);have h3:∀ z:W32,shrK .u32 (z.toNat:Int) 3=((z >>> 3).toNat:Int):=fun z=>shr32 z 3 (by omega);have q:=wr1 (P:=prog) (t:=34) (w:=w2.drew.drew.drew) (v:=u32 (nextW (sch m i) (16+i))) (o:=16+i) sz34 rfl l1 (by rw[qZh,wB_len m hi];omega);rw[wl_set,wB_set m hlt]at q;simp only[nextW,low1,low0]at q;generalize (sch m i).getD (16+i - 2) 0=v2 at r2 q;generalize (sch m i).getD (16+i - 7) 0=v7 at r7 q;generalize (sch m i).getD (16+i - 15) 0=v15 at r15 q;generalize (sch m i).getD (16+i - 16) 0=v16 at r16 q;simp -implicitDefEqProofs only[go_sem,jY,d1];refine den_ext (fun j=>j == 4 || j == 9) [0,1,2,3,5,6,7,8,11,12,13,14,4,9,10,15,16,17] rfl (by kernel_rfl) (by kernel_rfl) ?_;simp -implicitDefEqProofs only[go_sem,jY,gLa,gLz,gLs,s2,x2,and_self,iTn,jU,r2];refine qXd pl188 ((turn _ v2 17 (by omega)).mono ?_);rintro _ _ ⟨rfl,rfl⟩;refine⟨fun _=>Ext.refl _,?_⟩;simp -implicitDefEqProofs only[go_sem,jY,gLa,gLz,gLs];refine qXd pl188 ((turn _ v2 19 (by omega)).mono ?_);rintro _ _ ⟨rfl,rfl⟩;refine⟨fun _=>Ext.refl _,?_⟩;simp -implicitDefEqProofs only[go_sem,jY,gLa,gLz,gLs,h10,xor32,jV];refine den_ext (fun j=>j == 4 || j == 9) [0,1,2,3,5,6,7,8,11,12,13,14,4,9,10,15,16,17] rfl (by kernel_rfl) (by kernel_rfl) ?_;simp -implicitDefEqProofs only[go_sem,jY,gLa,gLz,gLs,s15,x15,and_self,iTn,jU,r15];refine qXd pl188 ((turn _ v15 7 (by omega)).mono ?_);rintro _ _ ⟨rfl,rfl⟩;refine⟨fun _=>Ext.refl _,?_⟩;simp -implicitDefEqProofs only[go_sem,jY,gLa,gLz,gLs]
   refine qXd pl188 ((turn _ v15 18 (by omega)).mono ?_);rintro _ _ ⟨rfl,rfl⟩;refine⟨fun _=>Ext.refl _,?_⟩;simp -implicitDefEqProofs only[go_sem,jY,jG,gLa,gLz,gLs,h3,xor32,jV,s7,s16,x7,x16,x0,and_self,iTn,jU,r7,r16,add32,q,c1];exact⟨48 - (i+1),by omega,i+1,rfl,by omega,rfl,qQi l0 (by omega),qQd l1,f2.drew.drew.drew.put (b:=w0.heap.size+1) _ fun h=>by omega⟩
  ·have d1:=dFo (((16+i:Nat):Int)<64)
   have e:i=48:=by omega
   subst e;rw[wB_full]at l1;have r:=rds (P:=prog) (t:=251) (o:=0) (vs:=wl (words m)) agg251 sz251 l1 (by rw[qZh,qKk]) (by omega) fun i hi=>by rw[zB]
   have q:=qQr (P:=prog) (t:=251) (vs:=wl (words m)) (by rw[qZh,qKk];exact sz251) l0 (by rw[qZh,qZh,qKk];simp) (wl_one _);have r2:=rds (P:=prog) (t:=251) (o:=0) (vs:=wl (words m)) agg251 sz251 (qQd (o:=.cells (wl (words m)) 251 (0,0)) l0) (by rw[qZh,qKk]) (by omega) fun i hi=>by rw[zB]
   simp -implicitDefEqProofs only[go_sem,jY,d1,r,q,r2];exact f2.put (b:=w0.heap.size) _ fun h=>absurd h (jF _)
structure Tabs (w:World):Prop where
 k1:∀ i,i<64→rc w 2 i=some (u32 (ktab.getD i 0))
 k2:∀ i,i<64→rc w 4 i=some (u32 (ktab.getD i 0))
 i1:∀ i,i<8→rc w 0 i=some (u32 (init.list.getD i 0))
 i2:∀ i,i<8→rc w 3 i=some (u32 (init.list.getD i 0))
theorem Tabs.fr {F:Nat→Prop}(h:Tabs w)(k:Fr F w w')(hf:∀ b,b<5→¬ F b):Tabs w' :=
 ⟨fun i hi=>by rw[k.rc (rc_lt (h.k1 i hi)) (hf _ (by decide))];exact h.k1 i hi,fun i hi=>by rw[k.rc (rc_lt (h.k2 i hi)) (hf _ (by decide))];exact h.k2 i hi,
  fun i hi=>by rw[k.rc (rc_lt (h.i1 i hi)) (hf _ (by decide))];exact h.i1 i hi,fun i hi=>by rw[k.rc (rc_lt (h.i2 i hi)) (hf _ (by decide))];exact h.i2 i hi⟩
theorem Tabs.no (h:Tabs w)(k:No w w'):Tabs w':=h.fr k fun _ _ h=>h
theorem Tabs.size (h:Tabs w):5≤w.heap.size:=rc_lt (h.k2 0 (by omega))
def mixL (l s:List W32)(i:Nat):List W32:=(List.range 8).map fun j=>if j<i then l.getD j 0+s.getD j 0 else l.getD j 0
theorem qJm (l s:List W32)(i:Nat):(mixL l s i).length=8:=by simp[mixL]
theorem mixL_zero (t s:S8):mixL t.list s.list 0=t.list:=rfl
theorem mixL_all (t s:S8):mixL t.list s.list 8=(plus t s).list:=rfl
theorem mixL_getD (l s:List W32)(h:i<8):(mixL l s i).getD i 0=l.getD i 0:=by
 rw[qQw 0 (by rw[qJm];exact h)];simp[mixL]
theorem mixL_set (l s:List W32)(h:i<8):(mixL l s i).set i (l.getD i 0+s.getD i 0)=mixL l s (i+1):=by
 refine List.ext_getElem (by rw[List.length_set,qJm,qJm]) fun j h1 h2=>?_;rw[qJm]at h2;rw[List.getElem_set];simp only[mixL,List.getElem_map,List.getElem_range]
 by_cases hj:i=j
 ·subst hj;rw[if_pos rfl,if_pos (by omega)]
 ·rw[if_neg hj]
  by_cases hk:j<i
  ·rw[if_pos hk,if_pos (by omega)]
  ·rw[if_neg hk,if_neg (by omega)]
theorem plus_comm (s t:S8):plus s t=plus t s:=by simp only[plus,BitVec.add_comm]
theorem bld8i (a b c d e f g h:Int):bldO prog 250 [(0, .int .u32 a), (1, .int .u32 b), (2, .int .u32 c), (3, .int .u32 d), (4, .int .u32 e), (5, .int .u32 f), (6, .int .u32 g), (7, .int .u32 h)] =
  some (.agg #[.int .u32 a,.int .u32 b,.int .u32 c,.int .u32 d,.int .u32 e,.int .u32 f,.int .u32 g,.int .u32 h]):=by
 unfold bldO;rw[zero250,places250,arr250];simp[Instr.fill,jH,sz34]
theorem bld8 (a b c d e f g h:W32):bldO prog 250 [(0,u32 a),(1,u32 b),(2,u32 c),(3,u32 d),(4,u32 e),(5,u32 f),(6,u32 g),(7,u32 h)]=some (.agg (wl [a,b,c,d,e,f,g,h])):=bld8i _ _ _ _ _ _ _ _
def bI1 (w0:World)(s:S8)(ws:List W32)(b0:Nat)(n:Nat)(vs:List Value)(w:World):Prop :=
 ∃ i,vs=[pt b0 0,pt (b0+1) 0,pt (b0+1+1) 0,pt (b0+1+1+1) 0,.int .i64 (i:Nat)]∧i≤64∧n=64 - i∧w.heap[b0]?=some (.cells (wl s.list) 250 (0,0)) ∧
  w.heap[b0+1]?=some (.cells (wl ws) 251 (0,0))∧w.heap[b0+1+1]?=some (.cells (wl (zV 8 0)) 250 (0,0)) ∧
  w.heap[b0+1+1+1]?=some (.cells (wl (rnds ws s i).list) 250 (0,0))∧No w0 w
def bI2 (w0:World)(s t:S8)(b0:Nat)(n:Nat)(vs:List Value)(w:World):Prop :=
 ∃ i,vs=[pt b0 0,pt (b0+1+1) 0,pt (b0+1+1+1) 0,.int .i64 (i:Nat)]∧i≤8∧n=8 - i∧w.heap[b0]?=some (.cells (wl s.list) 250 (0,0)) ∧
  w.heap[b0+1+1]?=some (.cells (wl (zV 8 0)) 250 (0,0)) ∧
  w.heap[b0+1+1+1]?=some (.cells (wl (mixL t.list s.list i)) 250 (0,0))∧No w0 w
theorem zero8:(#[.int .u32 0,.int .u32 0,.int .u32 0,.int .u32 0,.int .u32 0,.int .u32 0,.int .u32 0,.int .u32 0]:Array Value)=wl (zV 8 0):=rfl
theorem behind_ref (w0:World)(ht:Tabs w0)(s:S8)(ws:List W32)(hl:ws.length=64){T R:S8}(hT:rnds ws s 64=T)(hR:plus s T=R) :
  Fn prog 167 #[.agg (wl s.list),.agg (wl ws)] w0 fun v w'=>v=.agg (wl R.list)∧No w0 w':=by
 refine go167 (by simp) ?_;have fW1:No w0 (((w0.alloc (.cells (wl s.list) 250)).alloc (.cells (wl ws) 251)).alloc (.cells (wl (zV 8 0)) 250)):=(((Fr.refl _ _).alloc _).alloc _).alloc _;have e0:(((w0.alloc (.cells (wl s.list) 250)).alloc (.cells (wl ws) 251)).alloc (.cells (wl (zV 8 0)) 250)).heap[w0.heap.size]?=some (.cells (wl s.list) 250 (0,0)):=qQq (qQq (qQb _ _))
 have e1:(((w0.alloc (.cells (wl s.list) 250)).alloc (.cells (wl ws) 251)).alloc (.cells (wl (zV 8 0)) 250)).heap[w0.heap.size+1]?=some (.cells (wl ws) 251 (0,0)):=by
  have:=qQb (w0.alloc (.cells (wl s.list) 250)) (.cells (wl ws) 251);rw[qQc]at this;exact qQq this
 have e2:(((w0.alloc (.cells (wl s.list) 250)).alloc (.cells (wl ws) 251)).alloc (.cells (wl (zV 8 0)) 250)).heap[w0.heap.size+1+1]?=some (.cells (wl (zV 8 0)) 250 (0,0)):=by
  have:=qQb ((w0.alloc (.cells (wl s.list) 250)).alloc (.cells (wl ws) 251)) (.cells (wl (zV 8 0)) 250);rw[qQc,qQc]at this;exact this
 have z1:(((w0.alloc (.cells (wl s.list) 250)).alloc (.cells (wl ws) 251)).alloc (.cells (wl (zV 8 0)) 250)).heap.size=w0.heap.size+1+1+1:=by
  rw[qQc,qQc,qQc]
 have r0:rdO prog 250 (((w0.alloc (.cells (wl s.list) 250)).alloc (.cells (wl ws) 251)).alloc (.cells (wl (zV 8 0)) 250)) w0.heap.size 0=some (.agg (wl s.list)) :=
  rd_all agg250 sz250 e0
 have q0:wrO prog 250 ((((w0.alloc (.cells (wl s.list) 250)).alloc (.cells (wl ws) 251)).alloc (.cells (wl (zV 8 0)) 250)).alloc (.cells (wl (zV 8 0)) 250)) (w0.heap.size+1+1+1) 0 (.agg (wl s.list)) =
   some (put ((((w0.alloc (.cells (wl s.list) 250)).alloc (.cells (wl ws) 251)).alloc (.cells (wl (zV 8 0)) 250)).alloc (.cells (wl (zV 8 0)) 250)) (w0.heap.size+1+1+1) (.cells (wl s.list) 250 (0,0))):=by
  have:=qQb (((w0.alloc (.cells (wl s.list) 250)).alloc (.cells (wl ws) 251)).alloc (.cells (wl (zV 8 0)) 250)) (.cells (wl (zV 8 0)) 250);rw[z1]at this;exact qQr sz250 this rfl (wl_one _)
 simp -implicitDefEqProofs only[go_sem,jY,Tryz.f167,jH,zero8];generalize ((w0.alloc (.cells (wl s.list) 250)).alloc (.cells (wl ws) 251)).alloc (.cells (wl (zV 8 0)) 250)=W at *;simp -implicitDefEqProofs only[go_sem,jY,jH,zero8,r0,z1,q0]
 have n3:∀ x:Array Value,(put (W.alloc (.cells (wl (zV 8 0)) 250)) (w0.heap.size+1+1+1) (.cells x 250 (0,0))).heap[w0.heap.size+1+1+1]?=some (.cells x 250 (0,0)):=fun x =>
  qXt _ (by rw[qQc];omega)
 have fW2:No w0 (put (W.alloc (.cells (wl (zV 8 0)) 250)) (w0.heap.size+1+1+1) (.cells (wl s.list) 250 (0,0))):=(fW1.alloc _).put (b:=w0.heap.size+1+1+1) _ fun h=>by omega
 have i8:∀ k:Nat,k<8→(0:Int)≤(k:Int)∧(k:Int)<((8:Nat):Int):=fun k hk=>by omega
 have x0:(0:Int)≤0∧(0:Int)<((8:Nat):Int):=by decide
 have x1:(0:Int)≤1∧(1:Int)<((8:Nat):Int):=by decide
 have x2:(0:Int)≤2∧(2:Int)<((8:Nat):Int):=by decide
 have x3:(0:Int)≤3∧(3:Int)<((8:Nat):Int):=by decide
 have x4:(0:Int)≤4∧(4:Int)<((8:Nat):Int):=by decide
 have x5:(0:Int)≤5∧(5:Int)<((8:Nat):Int):=by decide
 have x6:(0:Int)≤6∧(6:Int)<((8:Nat):Int):=by decide
 have x7:(0:Int)≤7∧(7:Int)<((8:Nat):Int):=by decide
 refine loopD [2,3,4,5,6] (bI1 w0 s ws w0.heap.size) 64 ⟨0,by simp[upd],by omega,rfl,qQi (qQq e0) (by omega),qQi (qQq e1) (by omega),qQi (qQq e2) (by omega),n3 _,fW2⟩ ?_;rintro _ vs w1 g ⟨i,rfl,hi,rfl,k0,k1,k2,k3,f1⟩
 by_cases hlt:i<64
 ·have d1:=dTo ((i:Int)<64)
  have y:=iBd (i:=i) (n:=64)
  have rk:rdO prog 34 w1 2 i=some (u32 (ktab.getD i 0)):=by
   have:=ht.k1 i hlt;exact rd_rc agg34 (by rw[f1.rc (rc_lt this) id];exact this)
  have rw_:rdO prog 34 w1 (w0.heap.size+1) i=some (u32 (ws.getD i 0)):=rd1 agg34 k1 (wl_at (by omega));have hr:rnds ws s (i+1)=rnd (rnds ws s i) (ktab.getD i 0) (ws.getD i 0):=rfl;have c1:=iSu (i:=i)
  have key:∀ w2:World,w2.heap=w1.heap→∀ V:S8,wrO prog 250 w2 (w0.heap.size+1+1+1) 0 (.agg (wl V.list))=some (put w2 (w0.heap.size+1+1+1) (.cells (wl V.list) 250 (0,0))):=fun w2 h2 V =>
   qQr (c:=wl (rnds ws s i).list) sz250 (by rw[h2];exact k3) (by rw[qZh,qZh];rfl) (wl_one _)
  generalize ktab.getD i 0=kk at rk hr;generalize ws.getD i 0=wk at rw_ hr
  obtain⟨V,hV⟩:∃ V,V=rnds ws s i:=⟨_,rfl⟩
  rw[← hV]at k3 hr;have r0:rdO prog 34 w1 (w0.heap.size+1+1+1) 0=some (u32 V.a):=rd1 agg34 k3 rfl;have r1:rdO prog 34 w1 (w0.heap.size+1+1+1) 1=some (u32 V.b):=rd1 agg34 k3 rfl;have r2:rdO prog 34 w1 (w0.heap.size+1+1+1) 2=some (u32 V.c):=rd1 agg34 k3 rfl;have r3:rdO prog 34 w1 (w0.heap.size+1+1+1) 3=some (u32 V.d):=rd1 agg34 k3 rfl;have r4:rdO prog 34 w1 (w0.heap.size+1+1+1) 4=some (u32 V.e):=rd1 agg34 k3 rfl;have r5:rdO prog 34 w1 (w0.heap.size+1+1+1) 5=some (u32 V.f):=rd1 agg34 k3 rfl;have r6:rdO prog 34 w1 (w0.heap.size+1+1+1) 6=some (u32 V.g):=rd1 agg34 k3 rfl;have r7:rdO prog 34 w1 (w0.heap.size+1+1+1) 7=some (u32 V.h):=rd1 agg34 k3 rfl;simp -implicitDefEqProofs only[go_sem,jY,d1];refine den_ext (fun j=>j == 2 || j == 5 || j == 9) [0,1,3,4,7,8,2,5,6,9,10,11] rfl (by kernel_rfl) (by kernel_rfl) ?_;simp -implicitDefEqProofs only[go_sem,jY,gLa,gLz,gLs,x4,and_self,jK,jU,r4];refine qXd pl188 ((turn _ V.e 6 (by omega)).mono ?_);rintro _ _ ⟨rfl,rfl⟩;refine⟨fun _=>Ext.refl _,?_⟩;simp -implicitDefEqProofs only[go_sem,jY,gLa,gLz,gLs];refine qXd pl188 ((turn _ V.e 11 (by omega)).mono ?_);rintro _ _ ⟨rfl,rfl⟩;refine⟨fun _=>Ext.refl _,?_⟩;simp -implicitDefEqProofs only[go_sem,jY,gLa,gLz,gLs,xor32];refine qXd pl188 ((turn _ V.e 25 (by omega)).mono ?_);rintro _ _ ⟨rfl,rfl⟩;refine⟨fun _=>Ext.refl _,?_⟩;simp -implicitDefEqProofs only[go_sem,jY,jG,gLa,gLz,gLs,xor32,and32,not32,add32,x4,x5,x6,x7,y,and_self,iTn,jK,jU,r4,r5,r6,r7,rk,rw_];refine den_ext (fun j=>j == 2 || j == 5 || j == 9) [0,1,3,4,7,8,2,5,6,9,10,11] rfl (by kernel_rfl) (by kernel_rfl) ?_;simp -implicitDefEqProofs only[go_sem,jY,gLa,gLz,gLs,x0,and_self,jK,Nat.zero_mul,r0];refine qXd pl188 ((turn _ V.a 2 (by omega)).mono ?_);rintro _ _ ⟨rfl,rfl⟩
  refine⟨fun _=>Ext.refl _,?_⟩;simp -implicitDefEqProofs only[go_sem,jY,gLa,gLz,gLs];refine qXd pl188 ((turn _ V.a 13 (by omega)).mono ?_);rintro _ _ ⟨rfl,rfl⟩;refine⟨fun _=>Ext.refl _,?_⟩;simp -implicitDefEqProofs only[go_sem,jY,gLa,gLz,gLs,xor32];refine qXd pl188 ((turn _ V.a 22 (by omega)).mono ?_);rintro _ _ ⟨rfl,rfl⟩;refine⟨fun _=>Ext.refl _,?_⟩;simp -implicitDefEqProofs only[go_sem,jY,jG,gLa,gLz,gLs,xor32,and32,add32,x0,x1,x2,x3,x4,x5,x6,and_self,jK,jU,Nat.zero_mul,r0,r1,r2,r3,r4,r5,r6,bld8];rw[show wl [V.h+(rotr V.e 6 ^^^ rotr V.e 11 ^^^ rotr V.e 25)+(V.e &&& V.f ^^^ ~~~V.e &&& V.g)+kk+wk+(rotr V.a 2 ^^^ rotr V.a 13 ^^^ rotr V.a 22)+(V.a &&& V.b ^^^ V.a &&& V.c ^^^ V.b &&& V.c),V.a,V.b,V.c,V.d+(V.h+(rotr V.e 6 ^^^ rotr V.e 11 ^^^ rotr V.e 25)+(V.e &&& V.f ^^^ ~~~V.e &&& V.g)+kk+wk),V.e,V.f,V.g]=wl (rnd V kk wk).list from rfl];rw[← hr];simp -implicitDefEqProofs only[go_sem,jY,key _ (show w1.drew.drew.drew.heap=w1.heap from rfl) (rnds ws s (i+1)),c1];exact⟨64 - (i+1),by omega,i+1,rfl,by omega,rfl,qQi k0 (by omega),qQi k1 (by omega),qQi k2 (by omega),qQd k3,f1.drew.drew.drew.put (b:=w0.heap.size+1+1+1) _ fun h=>by omega⟩
 ·have d1:=dFo ((i:Int)<64)
  have e:i=64:=by omega
  subst e;simp -implicitDefEqProofs only[go_sem,jY,d1];rw[hT,← mixL_zero T s]at k3;refine loopD [2,4,5,12] (bI2 w0 s T w0.heap.size) 8 ⟨0,by simp[upd],by omega,rfl,k0,k2,k3,f1⟩ ?_;rintro _ vs w2 g2 ⟨i,rfl,hi,rfl,l0,l2,l3,f2⟩
  by_cases hlt:i<8
  ·have d1:=dTo ((i:Int)<8)
   have y:=i8 i hlt;have c1:=iSu (i:=i)
   have r1:rdO prog 34 w2 (w0.heap.size+1+1+1) i=some (u32 (T.list.getD i 0)):=by
    rw[← mixL_getD T.list s.list hlt];exact rd1 agg34 l3 (wl_at (by rw[qJm];exact hlt))
   have r2:rdO prog 34 w2 w0.heap.size i=some (u32 (s.list.getD i 0)):=rd1 agg34 l0 (wl_at hlt);have q:=wr1 (P:=prog) (t:=34) (w:=w2.drew) (v:=u32 (T.list.getD i 0+s.list.getD i 0)) (o:=i) sz34 rfl l3 (by rw[qZh,qJm];exact hlt);rw[wl_set,mixL_set _ _ hlt]at q;generalize T.list.getD i 0=t1 at r1 q;generalize s.list.getD i 0=s1 at r2 q;simp -implicitDefEqProofs only[go_sem,jY,jG,d1,y,and_self,iTn,jU,r1,r2,add32,q,c1];exact⟨8 - (i+1),by omega,i+1,rfl,by omega,rfl,qQi l0 (by omega),qQi l2 (by omega),qQd l3,f2.drew.put (b:=w0.heap.size+1+1+1) _ fun h=>by omega⟩
  ·have d1:=dFo ((i:Int)<8)
   have e:i=8:=by omega
   subst e;rw[mixL_all,plus_comm,hR]at l3;have r:=rds (P:=prog) (t:=250) (o:=0) (vs:=wl R.list) agg250 sz250 l3 rfl (by omega) fun i hi=>by rw[zB]
   have q:=qQr (P:=prog) (t:=250) (vs:=wl R.list) sz250 l2 rfl (wl_one _);have r2:=rds (P:=prog) (t:=250) (o:=0) (vs:=wl R.list) agg250 sz250 (qQd (o:=.cells (wl R.list) 250 (0,0)) l2) rfl (by omega) fun i hi=>by rw[zB]
   simp -implicitDefEqProofs only[go_sem,jY,d1,r,q,r2];exact f2.put (b:=w0.heap.size+1+1) _ fun h=>by omega
theorem fill_min (n:Nat):∀ j,j≤fill n→((n+1+j) % 64=56 ↔ j=fill n):=fun j hj=>by unfold fill at *;omega
theorem bd47 {n m:Nat}(h:n+m≤70368744177664):∀ cap,n≤cap→cap<n+m→Builtin.nextslicecap (n+m) cap*1≤2 ^ 48:=bd_small (by omega)
def fI1 (w0:World)(msg:List Byte)(mv:Value)(n:Nat)(vs:List Value)(w:World):Prop :=
 ∃ j v,vs=[mv,v]∧j≤fill msg.length∧n=fill msg.length - j∧NwB w0 w v (msg++128::zV j 0)∧No w0 w
def fI2 (w0:World)(msg:List Byte)(n:Nat)(vs:List Value)(w:World):Prop :=
 ∃ i v,vs=[v,.int .u64 ((zD 64 (8*msg.length)).toNat:Nat),.int .i64 (i:Nat)]∧i≤8∧n=8 - i∧NwB w0 w v (msg++128::zV (fill msg.length) 0++(len8 msg.length).take i)∧No w0 w
theorem shr64 (x:BitVec 64)(k:Nat)(hk:k≤64):shrK .u64 (x.toNat:Int) (k:Int)=((x >>> k).toNat:Int):=by
 have e:shrK .u64 (x.toNat:Int) (k:Int)=(x.toNat:Int).fdiv (2 ^ (min ((k:Nat):Int).toNat 64)):=rfl;rw[e,iTn,Nat.min_eq_left hk,BitVec.toNat_ushiftRight,Nat.shiftRight_eq_div_pow,fdivn]
theorem cut64 (x:BitVec 64):IntKind.u8.wrap (x.toNat:Int)=((x.setWidth 8).toNat:Int):=by
 rw[wrap_u8,BitVec.toNat_setWidth];generalize x.toNat=m;omega
theorem len8_len (n:Nat):(len8 n).length=8:=by simp[len8]
theorem len8_at (n:Nat)(h:i<8):(len8 n)[i]?=some (((zD 64 (8*n)) >>> (56 - 8*i)).setWidth 8):=by simp[len8,h]
theorem qKa {α:Type}{l:List α}{x:α}(h:l[i]?=some x):l.take i++[x]=l.take (i+1):=by
 rw[List.take_add_one,h];rfl
theorem filled_ref (w0:World)(hm:By w0 mv msg)(hl:msg.length≤1099511627776) :
  Fn prog 165 #[mv] w0 fun v w'=>NwB w0 w' v (msg++pad msg.length)∧No w0 w':=by
 refine go165 (by simp) ?_;simp -implicitDefEqProofs only[go_sem,jY,Tryz.f165];obtain⟨v1,w1,hr1,b1,f1,_⟩:=(NwB.nil w0 w0).cat app22_22 hm (bd47 (by simp;omega)) (by simp;omega) (Fr.refl _ _);refine qQj ⟨v1,w1,hr1,?_⟩;simp -implicitDefEqProofs only[go_sem];refine qQp (v:=.slice (some ⟨w1.heap.size,0,none⟩) 1 1) (w':=w1.alloc (.cells (bl [128]) 5)) rfl ?_;simp -implicitDefEqProofs only[go_sem,jY];obtain⟨v2,w2,hr2,b2,f2,_⟩:=b1.push app22_22 [128] (bd47 (by simp;omega)) (by simp;omega) f1;refine qQj ⟨v2,w2,hr2,?_⟩;simp -implicitDefEqProofs only[go_sem];refine loopD [0,3] (fI1 w0 msg mv) (fill msg.length) ⟨0,v2,by simp[upd],by omega,rfl,b2,f2⟩ ?_;rintro _ vs w3 g ⟨j,v,rfl,hj,rfl,b3,f3⟩;have hfl:fill msg.length<64:=by unfold fill;omega
 have hlen:(msg++128::zV j 0).length=msg.length+1+j:=by simp;omega
 obtain⟨a,cap,rfl⟩:=b3.slice;have e1:(((msg++128::zV j 0).length:Nat):Int).tmod 64=(((msg.length+1+j) % 64:Nat):Int):=by rw[hlen];rfl
 by_cases hlt:j<fill msg.length
 ·have d1:((((msg.length+1+j) % 64:Nat):Int) != 56)=true:=by
   have:=(fill_min msg.length j hj).1;simp only[bne_iff_ne,ne_eq];intro h;have h':(msg.length+1+j) % 64=56:=by exact_mod_cast h
   have:=this h';omega
  have n0:((64:Int)=0)=False:=by simp
  obtain⟨v4,w4,hr4,b4,f4,_⟩:=b3.push app22_22 [0] (bd47 (by rw[hlen];simp;omega)) (by rw[hlen];simp;omega) f3;simp -implicitDefEqProofs only[go_sem,jY,n0,e1,d1];refine qQp (v:=.slice (some ⟨w3.heap.size,0,none⟩) 1 1) (w':=w3.alloc (.cells (bl [0]) 5)) rfl ?_;simp -implicitDefEqProofs only[go_sem,jY];refine qQj ⟨v4,w4,hr4,?_⟩;simp -implicitDefEqProofs only[go_sem,jY];refine⟨fill msg.length - (j+1),by omega,j+1,v4,rfl,by omega,rfl,?_,f4⟩;rw[zO,List.cons_append,← List.replicate_succ']at b4;exact b4
 ·have ej:j=fill msg.length:=by omega
  have d1:((((msg.length+1+j) % 64:Nat):Int) != 56)=false:=by
   have:=(fill_min msg.length j hj).2 ej;rw[this];rfl
  have n0:((64:Int)=0)=False:=by simp
  obtain⟨_,ma,mc,hmv,_⟩:=hm;have a1:IntKind.u64.wrap ((msg.length:Nat):Int)=((msg.length:Nat):Int):=by rw[qJz];omega
  have a2:IntKind.u64.wrap (((msg.length:Nat):Int)*8)=((zD 64 (8*msg.length)).toNat:Int):=by
   rw[qJz,BitVec.toNat_ofNat];omega
  subst hmv;simp -implicitDefEqProofs only[go_sem,jY,n0,e1,d1,a1,a2];refine loopD [3,4,5] (fI2 w0 msg) 8 ⟨0,_,rfl,by omega,rfl,by rw[List.take_zero,List.append_nil,← ej];exact b3,f3⟩ ?_;rintro _ vs w5 g5 ⟨i,v5,rfl,hi,rfl,b5,f5⟩
  by_cases hlt:i<8
  ·have d1:=dTo ((i:Int)<8)
   have c1:IntKind.i64.wrap (8*(i:Int))=((8*i:Nat):Int):=i64mul (a:=8) (b:=i) (by omega);have c2:IntKind.i64.wrap (56 - ((8*i:Nat):Int))=((56 - 8*i:Nat):Int):=qZj (a:=56) (b:=8*i) (by omega) (by omega);have c3:IntKind.u64.wrap ((56 - 8*i:Nat):Int)=((56 - 8*i:Nat):Int):=by rw[qJz];omega
   have c4:=iSu (i:=i);have n1:¬ (((56 - 8*i:Nat):Int)<0):=by omega
   have hx:=len8_at msg.length hlt
   have hlen5:(msg++128::zV (fill msg.length) 0++(len8 msg.length).take i).length≤msg.length+200:=by
    simp[len8_len];omega
   obtain⟨v6,w6,hr6,b6,f6,_⟩:=b5.push app22_22 [((zD 64 (8*msg.length)) >>> (56 - 8*i)).setWidth 8] (bd47 (by simp only[jW];omega)) (by simp only[jW];omega) f5;simp -implicitDefEqProofs only[go_sem,jY,d1,c1,c2,c3,n1,shr64 _ _ (show 56 - 8*i≤64 by omega),cut64];refine qQp (v:=.slice (some ⟨w5.heap.size,0,none⟩) 1 1) (w':=w5.alloc (.cells (bl [((zD 64 (8*msg.length)) >>> (56 - 8*i)).setWidth 8]) 5)) rfl ?_;simp -implicitDefEqProofs only[go_sem,jY];refine qQj ⟨v6,w6,hr6,?_⟩;simp -implicitDefEqProofs only[go_sem,jY,c4];refine⟨8 - (i+1),by omega,i+1,v6,rfl,by omega,rfl,?_,f6⟩;rw[zO,qKa hx]at b6;exact b6
  ·have d1:=dFo ((i:Int)<8)
   have e:i=8:=by omega
   subst e;simp -implicitDefEqProofs only[go_sem,jY,d1];refine⟨?_,f5⟩;rw[zT (by rw[len8_len];omega),zO]at b5;exact b5
def outAt (s:S8)(i:Nat):Byte:=((s.list.getD (i / 4) 0) >>> (24 - 8*(i % 4))).setWidth 8
theorem out_at (s:S8):∀ i,i<32→(out s)[i]?=some (outAt s i):=fun i hi=>by
 match i,hi with
 | 0,_ | 1,_ | 2,_ | 3,_ | 4,_ | 5,_ | 6,_ | 7,_ | 8,_ | 9,_ | 10,_ | 11,_ | 12,_ | 13,_ | 14,_ | 15,_ | 16,_ | 17,_ | 18,_ | 19,_ | 20,_ | 21,_ | 22,_ | 23,_ | 24,_ | 25,_ | 26,_ | 27,_ | 28,_ | 29,_ | 30,_ | 31,_=>rfl
 | n+32,h=>exact absurd h (by omega)
theorem out_take (s:S8)(h:i<32):(padTo 0 32 ((out s).take i)).set i (outAt s i)=padTo 0 32 ((out s).take (i+1)):=by
 have hl:((out s).take i).length=i:=by rw[lTk,qZl];omega
 have:=padTo_set (z:=(0:Byte)) (n:=32) (l:=(out s).take i) (outAt s i) (by omega);rw[hl]at this;rw[this,qKa (out_at s i h)]
def sI1 (w0:World)(msg:List Byte)(lv:Value)(len:Nat)(b0 b1:Nat)(n:Nat)(vs:List Value)(w:World):Prop :=
 ∃ i,vs=[pt b0 0,lv,pt b1 0,.int .i64 (64*i:Nat)]∧i≤len∧n=len - i∧w.heap[b0]?=some (.cells (bl (zV 32 0)) 75 (0,0)) ∧
  w.heap[b1]?=some (.cells (wl (blocks i msg init).list) 250 (0,0))∧b0<b1∧w0.heap.size≤b0∧NwB w0 w lv msg∧(∀ b,qQg lv=some b→b≠b0∧b≠b1)∧No w0 w
def sI2 (w0:World)(s:S8)(b0 b1 b2:Nat)(n:Nat)(vs:List Value)(w:World):Prop :=
 ∃ i,vs=[pt b0 0,pt b1 0,pt b2 0,.int .i64 (i:Nat)]∧i≤32∧n=32 - i∧w.heap[b0]?=some (.cells (bl (zV 32 0)) 75 (0,0)) ∧
  w.heap[b1]?=some (.cells (wl s.list) 250 (0,0))∧w.heap[b2]?=some (.cells (bl (padTo 0 32 ((out s).take i))) 75 (0,0))∧b0≠b2∧b1≠b2∧w0.heap.size≤b0∧w0.heap.size≤b2∧No w0 w
theorem Tabs.init1 (h:Tabs w):rdO prog 250 w 0 0=some (.agg (wl init.list)) :=
 rd_rcs agg250 sz250 rfl (by omega) fun i hi=>by rw[zB,h.i1 i hi,wl_at hi]
theorem Tabs.init2 (h:Tabs w):rdO prog 250 w 3 0=some (.agg (wl init.list)) :=
 rd_rcs agg250 sz250 rfl (by omega) fun i hi=>by rw[zB,h.i2 i hi,wl_at hi]
theorem blocks_succ (n:Nat)(l:List Byte)(s:S8):blocks (n+1) l s=comp (blocks n l s) ((l.drop (64*n)).take 64):=blocksF_succ comp n l s
theorem sum_blocks (msg:List Byte){L:Nat}(h:msg.length+(pad msg.length).length=64*L):Sha.sum msg=out (blocks L (msg++pad msg.length) init):=by
 unfold Sha.sum;rw[h,Nat.mul_div_cancel_left _ (by omega)]
theorem comp_is {s:S8}{T R:S8}(hT:rnds (words m) s 64=T)(hR:plus s T=R):comp s m=R:=by unfold comp;rw[hT,hR]
theorem sum_ref (w0:World)(ht:Tabs w0)(hm:By w0 mv msg)(hl:msg.length≤1099511627776) :
  Fn prog 132 #[mv] w0 fun v w'=>v=dg (Sha.sum msg)∧No w0 w':=by
 obtain⟨L,hL⟩:∃ L,msg.length+(pad msg.length).length=64*L:=⟨_,(Nat.mul_div_cancel' (Nat.dvd_of_mod_eq_zero (pad_mod msg.length))).symm⟩
 rw[sum_blocks msg hL];have hPl:(msg++pad msg.length).length=64*L:=by rw[lAp,hL]
 have hLb:64*L≤1099511627776+200:=by
  rw[← hL,pad_len];unfold fill;omega
 refine go132 (by simp) ?_;simp -implicitDefEqProofs only[go_sem,jY,Tryz.f132,jH,qQk];have f1:No w0 (w0.alloc (.cells (bl (zV 32 0)) 75)):=(Fr.refl _ _).alloc _;have h1:(w0.alloc (.cells (bl (zV 32 0)) 75)).heap[w0.heap.size]?=some (.cells (bl (zV 32 0)) 75 (0,0)):=qQb _ _;have z1:(w0.alloc (.cells (bl (zV 32 0)) 75)).heap.size=w0.heap.size+1:=qQc _ _;generalize w0.alloc (.cells (bl (zV 32 0)) 75)=W1 at *;refine qQa pl165 ((filled_ref W1 (hm.fr0 f1) hl).mono ?_);rintro lv W2 ⟨b2,f2⟩;generalize msg++pad msg.length=P at *;have f02:=f1.trans f2;have h2:=f2.at h1 id;have t2:Tabs W2:=ht.no f02;have q0:=qQr (P:=prog) (t:=250) (w:=W2.alloc (.cells (wl (zV 8 0)) 250)) (vs:=wl init.list) sz250 (qQb _ _) rfl (wl_one _);simp -implicitDefEqProofs only[go_sem,jY,jH,zero8,t2.init1,q0]
 have hlv:∀ b,qQg lv=some b→b≠w0.heap.size∧b≠W2.heap.size:=fun b hb=>by
  have h3:=b2.new b hb;have h4:=b2.own.lt hb;omega
 have e1:(put (W2.alloc (.cells (wl (zV 8 0)) 250)) W2.heap.size (.cells (wl init.list) 250 (0,0))).heap[w0.heap.size]?=some (.cells (bl (zV 32 0)) 75 (0,0)) :=
  qQi (qQq h2) (by have:=qQh h2;omega)
 have e2:(put (W2.alloc (.cells (wl (zV 8 0)) 250)) W2.heap.size (.cells (wl init.list) 250 (0,0))).heap[W2.heap.size]?=some (.cells (wl init.list) 250 (0,0)) :=
  qQd (qQb _ _)
 have e3:NwB w0 (put (W2.alloc (.cells (wl (zV 8 0)) 250)) W2.heap.size (.cells (wl init.list) 250 (0,0))) lv P:=by
  have b3:NwB w0 W2 lv P:=Nw.back b2 (by omega);exact b3.fr0 (((Fr.refl _ _).alloc _).put (b:=W2.heap.size) _ fun h=>absurd h (jF _))
 have f3:No w0 (put (W2.alloc (.cells (wl (zV 8 0)) 250)) W2.heap.size (.cells (wl init.list) 250 (0,0))) :=
  (f02.alloc _).put (b:=W2.heap.size) _ fun h=>by have:=f02.size;omega
 refine loopD [2,3,4,5] (sI1 w0 P lv L w0.heap.size W2.heap.size) L ⟨0,rfl,by omega,rfl,e1,e2,by have:=qQh h2;omega,Nat.le_refl _,e3,hlv,f3⟩ ?_;rintro _ vs w4 g ⟨i,rfl,hi,rfl,k0,k1,hb01,hb0,bw,hne,f4⟩;clear e1 e2 e3 f3 q0 h2 b2 t2
 obtain⟨a,cap,rfl,hcap,hat⟩:=NwB.by bw |>.at
 rw[hPl]at hcap
 by_cases hlt:i<L
 ·have d1:=dTo (((64*i:Nat):Int)<((P.length:Nat):Int))
  obtain⟨b,o,rfl,_⟩:=hat 0 (by omega)
  have hrd:∀ j,j<64→rc w4 b (o+(64*i+j))=some (u8 (((P.drop (64*i)).take 64).getD j 0)):=fun j hj=>by
   obtain⟨b',o',e,h'⟩:=hat (64*i+j) (by omega);cases e;rw[h',qQw 0 (by rw[lTk,lDr];omega)]
   simp
  have c1:IntKind.i64.wrap (((64*i:Nat):Int)+64)=((64*(i+1):Nat):Int):=by rw[qQm (by omega) (by omega)];omega
  have hbs:=blocks_succ i P init;generalize (P.drop (64*i)).take 64=m at hrd hbs;simp -implicitDefEqProofs only[go_sem,jY,d1];refine qQa pl166 ((words_ref w4 (n:=P.length) (cap:=cap) (at_:=64*i) (m:=m) (by omega) (by omega) hrd).mono ?_);rintro _ w5 ⟨rfl,f5⟩;have hwl:(words m).length=64:=qKk m;generalize hws:words m=ws at hwl;have q1:=qQr (P:=prog) (t:=251) (w:=w5.alloc (.cells (wl (zV 64 0)) 251)) (vs:=wl ws) (by rw[qZh,hwl];exact sz251) (qQb _ _) (by rw[qZh,qZh,hwl];simp) (wl_one _)
  have k1':(put (w5.alloc (.cells (wl (zV 64 0)) 251)) w5.heap.size (.cells (wl ws) 251 (0,0))).heap[W2.heap.size]?=some (.cells (wl (blocks i P init).list) 250 (0,0)) :=
   qQi (qQq (f5.at k1 id)) (by have:=qQh (f5.at k1 id);omega)
  have k0':(put (w5.alloc (.cells (wl (zV 64 0)) 251)) w5.heap.size (.cells (wl ws) 251 (0,0))).heap[w0.heap.size]?=some (.cells (bl (zV 32 0)) 75 (0,0)) :=
   qQi (qQq (f5.at k0 id)) (by have:=qQh (f5.at k0 id);omega)
  have f6:No w4 (put (w5.alloc (.cells (wl (zV 64 0)) 251)) w5.heap.size (.cells (wl ws) 251 (0,0))):=(f5.alloc _).put (b:=w5.heap.size) _ fun h=>by have:=f5.size;omega
  obtain⟨S,hS⟩:∃ S,S=blocks i P init:=⟨_,rfl⟩
  rw[← hS]at k1' hbs;have r1:=rds (P:=prog) (t:=250) (o:=0) (vs:=wl S.list) agg250 sz250 k1' rfl (by omega) fun i hi=>by rw[zB]
  have r2:=rds (P:=prog) (t:=251) (o:=0) (vs:=wl ws) agg251 sz251 (qQd (o:=.cells (wl ws) 251 (0,0)) (qQb w5 (.cells (wl (zV 64 0)) 251))) (by rw[qZh,hwl]) (by omega) fun i hi=>by rw[zB]
  simp -implicitDefEqProofs only[go_sem,jY,jH,wl_zero,q1,r1,r2];generalize put (w5.alloc (.cells (wl (zV 64 0)) 251)) w5.heap.size (.cells (wl ws) 251 (0,0))=w6 at *
  obtain⟨T,hT⟩:∃ T,rnds ws S 64=T:=⟨_,rfl⟩
  obtain⟨R,hR⟩:∃ R,plus S T=R:=⟨_,rfl⟩
  have hc:blocks (i+1) P init=R:=by rw[hbs];exact comp_is (by rw[hws];exact hT) hR
  refine qQa pl167 ((behind_ref w6 (ht.no (f4.trans f6)) S ws hwl hT hR).mono ?_);rintro _ w7 ⟨rfl,f7⟩;have q2:=qQr (P:=prog) (t:=250) (vs:=wl R.list) sz250 (f7.at k1' id) rfl (wl_one _);simp -implicitDefEqProofs only[go_sem,jY,q2,c1];refine⟨L - (i+1),by omega,i+1,rfl,by omega,rfl,qQi (f7.at k0' id) (by omega),by rw[hc];exact qQd (f7.at k1' id),hb01,hb0,?_,hne,?_⟩
  ·exact (bw.fr0 (f6.trans f7)).fr (((Fr.refl (fun b=>b=W2.heap.size) w7)).put _ fun _=>rfl) fun b hb=>(hne b hb).2
  ·exact ((f4.trans f6).trans f7).put (b:=W2.heap.size) _ fun h=>by omega
 ·have d1:=dFo (((64*i:Nat):Int)<((P.length:Nat):Int))
  have e:i=L:=by omega
  subst e;simp -implicitDefEqProofs only[go_sem,jY,d1,jH,qQk]
  obtain⟨S,hS⟩:∃ S,S=blocks i P init:=⟨_,rfl⟩
  rw[← hS]at k1 ⊢;have f5:No w0 (w4.alloc (.cells (bl (zV 32 0)) 75)):=f4.alloc _;refine loopD [2,4,7,8] (sI2 w0 S w0.heap.size W2.heap.size w4.heap.size) 32 ⟨0,rfl,by omega,rfl,qQq k0,qQq k1,by rw[List.take_zero,padTo_nil];exact qQb _ _,by have:=qQh k0;omega,by have:=qQh k1;omega,hb0,by have:=f4.size;omega,f5⟩ ?_;rintro _ vs w6 g2 ⟨j,rfl,hj,rfl,l0,l1,l2,n02,n12,hb0',hb2',f6⟩
  by_cases hlt:j<32
  ·have d1:=dTo ((j:Int)<32)
   have a1:IntKind.i64.wrap ((j:Int).tdiv 4)=((j / 4:Nat):Int):=by
    rw[show (j:Int).tdiv 4=((j / 4:Nat):Int) from rfl];exact i64n
   have a2:(j:Int).tmod 4=((j % 4:Nat):Int):=rfl;have a3:IntKind.i64.wrap (8*((j % 4:Nat):Int))=((8*(j % 4):Nat):Int):=i64mul (a:=8) (b:=j % 4) (by omega);have a4:IntKind.i64.wrap (24 - ((8*(j % 4):Nat):Int))=((24 - 8*(j % 4):Nat):Int):=qZj (a:=24) (b:=8*(j % 4)) (by omega) (by omega);have a5:IntKind.u64.wrap ((24 - 8*(j % 4):Nat):Int)=((24 - 8*(j % 4):Nat):Int):=by rw[qJz];omega
   have a6:=iSu (i:=j);have n1:¬ (((24 - 8*(j % 4):Nat):Int)<0):=by omega
   have n0:((4:Int)=0)=False:=by simp
   have x1:(0:Int)≤((j / 4:Nat):Int)∧((j / 4:Nat):Int)<((8:Nat):Int):=by omega
   have x2:=iBd (i:=j) (n:=32);have r1:rdO prog 34 w6 W2.heap.size (j / 4)=some (u32 (S.list.getD (j / 4) 0)):=rd1 agg34 l1 (wl_at (show j / 4<8 by omega));have q:=wr1 (P:=prog) (t:=5) (v:=u8 (outAt S j)) (o:=j) sz5 rfl l2 (by rw[qXa,qZb (by rw[lTk,qZl];omega)];exact hlt);rw[bl_set,out_take S hlt]at q;unfold outAt at q;generalize S.list.getD (j / 4) 0=t1 at r1 q;simp -implicitDefEqProofs only[go_sem,jY,d1,n0,n1,x1,x2,and_self,iTn,jU,r1,shr32 _ _ (show 24 - 8*(j % 4)≤32 by omega),cut32,q,a1,a2,a3,a4,a5,a6];exact⟨32 - (j+1),by omega,j+1,rfl,by omega,rfl,qQi l0 n02.symm,qQi l1 n12.symm,qQd l2,n02,n12,hb0',hb2',f6.put (b:=w4.heap.size) _ fun h=>by omega⟩
  ·have d1:=dFo ((j:Int)<32)
   have e:j=32:=by omega
   subst e;rw[zT (by rw[qZl];omega),padTo_full (qZl S)]at l2;have r:=rds (P:=prog) (t:=75) (o:=0) (vs:=bl (out S)) agg75 sz75 l2 (by rw[qXa,qZl]) (by omega) fun i hi=>by rw[zB]
   have q:=qQr (P:=prog) (t:=75) (vs:=bl (out S)) (by rw[qXa,qZl];exact sz75) l0 (by rw[qXa,qXa,qZl];simp) (bl_one _);have r2:=rds (P:=prog) (t:=75) (o:=0) (vs:=bl (out S)) agg75 sz75 (qQd (o:=.cells (bl (out S)) 75 (0,0)) l0) (by rw[qXa,qZl]) (by omega) fun i hi=>by rw[zB]
   simp -implicitDefEqProofs only[go_sem,jY,d1,r,q,r2];exact f6.put (b:=w0.heap.size) _ fun h=>absurd h (jF _)
end Go.V
