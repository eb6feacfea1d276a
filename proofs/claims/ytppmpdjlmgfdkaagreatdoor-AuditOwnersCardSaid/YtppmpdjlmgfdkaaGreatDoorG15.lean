/- Helpers. -/
import Derived.Test.YtppmpdjlmgfdkaaGreatDoorG14
set_option linter.all false
set_option maxRecDepth 100000
set_option maxHeartbeats 8000000
open BitVec renaming ofNat→zD
open Int renaming reduceLT→jV
open List renaming replicate→zV,take_of_length_le→zT,length_map→zW,getElem?_append_right→jB,set_append_right→jD,getElem?_toArray→zZ,nil_append→zS,setIfInBounds_toArray→jM,drop_zero→jN,getElem?_eq_getElem→zQ,take_zero→jP,getElem?_map→jR,append_assoc→zO,take_append_of_le_length→zR,drop_append_of_le_length→zL,take_left→jT,getElem?_append_left→zF,drop_of_length_le→zC
open Nat renaming reduceEqDiff→jY,mul_one→jU,zero_mul→jL,sub_zero→jC,mul_zero→jS,zero_add→zB,le_refl→xT,reduceBEq→jG,add_zero→jA,lt_irrefl→jF
open Option renaming map_some→qK,map→jE
open Go.Value renaming cells→jH
namespace Go.V
open Go.Proofs.Tryz Go.V.Tryz
open Go.Proofs Sha
variable {bs r:List Byte} {b hb k n t:Nat} {w:World}
section
def hC (L:List W32)(r:List Byte)(n t:Nat):Array Value:=(L.map u32++(r.map u8++[Value.int .i64 (n:Nat),Value.int .u64 (t:Nat)])).toArray
section
variable {L:List W32} {r:List Byte} {n t:Nat}
theorem qZe:(hC L r n t).size=L.length+r.length+2:=by simp[hC];omega
theorem hC_w {i:Nat}(h:i<L.length):(hC L r n t)[i]?=some (u32 (L.getD i 0)):=by
 rw[hC,zZ,zF (by simpa using h),jR,zQ h,qK,qQw _ h]
theorem hC_b (hL:L.length=8){j:Nat}(h:j<r.length):(hC L r n t)[8+j]?=some (u8 (r.getD j 0)):=by
 rw[hC,zZ,jB (by simp;omega),zW,hL,Nat.add_sub_cancel_left,zF (by simpa using h),jR,zQ h,qK,qQw _ h]
theorem hC_n (hL:L.length=8)(hr:r.length=64):(hC L r n t)[72]?=some (.int .i64 (n:Nat)):=by
 rw[hC,zZ,jB (by simp;omega),zW,hL,jB (by simp;omega),zW,hr];rfl
theorem hC_t (hL:L.length=8)(hr:r.length=64):(hC L r n t)[73]?=some (.int .u64 (t:Nat)):=by
 rw[hC,zZ,jB (by simp;omega),zW,hL,jB (by simp;omega),zW,hr];rfl
theorem hC_setw (i:Nat)(x:W32)(h:i<L.length):(hC L r n t).setIfInBounds i (u32 x)=hC (L.set i x) r n t:=by
 unfold hC;rw[jM,List.set_append_left _ _ (by simpa using h),List.map_set]
theorem hC_setn (hL:L.length=8)(hr:r.length=64)(k:Nat):(hC L r n t).setIfInBounds 72 (.int .i64 (k:Nat))=hC L r k t:=by
 unfold hC;rw[jM,jD _ _ (by simp;omega),zW,hL,jD _ _ (by simp;omega),zW,hr];rfl
theorem hC_sett (hL:L.length=8)(hr:r.length=64)(k:Nat):(hC L r n t).setIfInBounds 73 (.int .u64 (k:Nat))=hC L r n k:=by
 unfold hC;rw[jM,jD _ _ (by simp;omega),zW,hL,jD _ _ (by simp;omega),zW,hr];rfl
theorem hC_store (hL:L.length=8)(bs:List Byte)(k:Nat)(h:k+bs.length≤r.length):qXl (bs.map u8) (8+k) (hC L r n t)=hC L (r.take k++bs++r.drop (k+bs.length)) n t:=by
 apply Array.toList_inj.1;rw[qKy _ _ _ (by rw[qZe,zW];omega),zW];unfold hC;simp only[List.map_append,List.map_take,List.map_drop];rw[List.take_append,List.drop_append];simp only[zW,hL];rw[zT (by simp;omega),show 8+k - 8=k by omega,show 8+k+bs.length - 8=k+bs.length by omega,zC (l:=List.map u32 L) (by simp;omega)];rw[zR (by simp;omega),zL (by simp;omega)];simp only[zS,zO]
end
def pI1 (w0:World)(m:List Byte)(hb:Nat)(c:Array Value)(pv:Value)(n:Nat)(vs:List Value)(w:World):Prop :=
 ∃ i,vs=[pt hb 0,pv,pt w0.heap.size 0,.int .i64 (i:Nat)]∧i≤16∧n=16 - i∧w.heap[hb]?=some (.cells c 265 (0,0)) ∧
  w.heap[w0.heap.size]?=some (.cells (wl (wA m i)) 251 (0,0))∧No w0 w
def pI2 (w0:World)(m:List Byte)(hb:Nat)(c:Array Value)(n:Nat)(vs:List Value)(w:World):Prop :=
 ∃ i,vs=[pt hb 0,pt w0.heap.size 0,.int .i64 (16+i:Nat)]∧i≤48∧n=48 - i∧w.heap[hb]?=some (.cells c 265 (0,0)) ∧
  w.heap[w0.heap.size]?=some (.cells (wl (wB m i)) 251 (0,0))∧No w0 w
def pI3 (w0:World)(ws:List W32)(s:S8)(hb:Nat)(c:Array Value)(n:Nat)(vs:List Value)(w:World):Prop :=
 ∃ (i:Nat) (V:S8),V=rnds ws s i∧vs=[pt hb 0,pt w0.heap.size 0,u32 V.a,u32 V.b,u32 V.c,u32 V.d,u32 V.e,u32 V.f,u32 V.g,u32 V.h,.int .i64 (i:Nat)]∧i≤64∧n=64 - i∧w.heap[hb]?=some (.cells c 265 (0,0)) ∧
  w.heap[w0.heap.size]?=some (.cells (wl ws) 251 (0,0))∧No w0 w
def pI4 (w0:World)(s T:S8)(hb:Nat)(r:List Byte)(k t:Nat)(n:Nat)(vs:List Value)(w:World):Prop :=
 ∃ i,vs=[pt hb 0,.agg (wl T.list),.int .i64 (i:Nat)]∧i≤8∧n=8 - i∧w.heap[hb]?=some (.cells (hC (mixL s.list T.list i) r k t) 265 (0,0))∧Fr (fun b=>b=hb) w0 w
theorem step (w0:World)(ht:Tabs w0){s:S8}(hh:w0.heap[hb]?=some (.cells (hC s.list r k t) 265 (0, 0)))
  {b o ln cap:Nat} {m:List Byte} (hln:64≤ln) (hm:∀ j,j<64→rc w0 b (o+j)=some (u8 (m.getD j 0))) {ws:List W32} {T R:S8} (hws:words m=ws) (hT:rnds ws s 64=T) (hR:plus s T=R) :
  Fn prog 195 #[pt hb 0,.slice (some ⟨b,o,none⟩) ln cap] w0 fun v w'=>v=.tuple #[]∧w'.heap[hb]?=some (.cells (hC R.list r k t) 265 (0,0))∧Fr (fun b=>b=hb) w0 w':=by
 have hwl:ws.length=64:=by rw[← hws];exact qKk m
 have hbl:=qQh hh;refine go195 (by simp) ?_;generalize hp:Value.slice (some ⟨b,o,none⟩) ln cap=p;simp -implicitDefEqProofs only[go_sem,Tryz.f195,jH,wl_zero];have f1:No w0 (w0.alloc (.cells (wl (zV 64 0)) 251)):=(Fr.refl _ _).alloc _;refine loopD [0,1,4,24] (pI1 w0 m hb (hC s.list r k t) p) 16 ⟨0,rfl,by omega,rfl,qQq hh,by rw[wA_zero];exact qQb _ _,f1⟩ ?_;rintro _ vs w1 g ⟨i,rfl,hi,rfl,k0,k1,f1⟩
 by_cases hlt:i<16
 ·have d1:=dTo ((i:Int)<16)
  subst hp
  have rr:∀ j,j<4→rdO prog 5 w1 b (o+(4*i+j))=some (u8 (m.getD (4*i+j) 0)):=fun j hj=>by
   have:=hm (4*i+j) (by omega);exact rd_rc agg5 (by rw[f1.rc (rc_lt this) id];exact this)
  have r0:=rr 0 (by omega);have r1:=rr 1 (by omega);have r2:=rr 2 (by omega);have r3:=rr 3 (by omega);rw[jA]at r0;have a0:IntKind.i64.wrap (4*(i:Int))=((4*i:Nat):Int):=i64mul (a:=4) (b:=i) (by omega);have b1:IntKind.i64.wrap (((4*i:Nat):Int)+1)=((4*i+1:Nat):Int):=qXi (b:=1);have b2:IntKind.i64.wrap (((4*i:Nat):Int)+2)=((4*i+2:Nat):Int):=qXi (b:=2);have b3:IntKind.i64.wrap (((4*i:Nat):Int)+3)=((4*i+3:Nat):Int):=qXi (b:=3);have c1:=iSu (i:=i);have x0:(0:Int)≤((4*i:Nat):Int)∧((4*i:Nat):Int)<(ln:Int):=by omega
  have x1:(0:Int)≤((4*i+1:Nat):Int)∧((4*i+1:Nat):Int)<(ln:Int):=by omega
  have x2:(0:Int)≤((4*i+2:Nat):Int)∧((4*i+2:Nat):Int)<(ln:Int):=by omega
  have x3:(0:Int)≤((4*i+3:Nat):Int)∧((4*i+3:Nat):Int)<(ln:Int):=by omega
  have x4:=iBd (i:=i) (n:=64);have s24:∀ z:W32,shlK .u32 (z.toNat:Int) 24=((z <<< 24).toNat:Int):=fun z=>shl32 z 24 (by omega);have s16:∀ z:W32,shlK .u32 (z.toNat:Int) 16=((z <<< 16).toNat:Int):=fun z=>shl32 z 16 (by omega);have s8:∀ z:W32,shlK .u32 (z.toNat:Int) 8=((z <<< 8).toNat:Int):=fun z=>shl32 z 8 (by omega);have q:=wr1 (P:=prog) (t:=34) (w:=w1.drew) (v:=u32 (word4 m (4*i))) (o:=i) sz34 rfl k1 (by rw[qZh,wA_len m (by omega)];omega);rw[wl_set,wA_set m (by omega)]at q;simp only[word4]at q;simp -implicitDefEqProofs only[go_sem,jY,jG,d1,a0,b1,b2,b3,x0,x1,x2,x3,x4,and_self,iTn,jU,r0,r1,r2,r3,ext8,s24,s16,s8,or32,jV,c1,q];exact⟨16 - (i+1),by omega,i+1,rfl,by omega,rfl,qQi k0 (by omega),qQd k1,f1.drew.put (b:=w0.heap.size) _ fun h=>absurd h (jF _)⟩
 clear hm hp;have d1:=dFo ((i:Int)<16);have e:i=16:=by omega
 subst e;rw[wB_zero]at k1;simp -implicitDefEqProofs only[go_sem,jY,d1];refine loopD [0,4,6] (pI2 w0 m hb (hC s.list r k t)) 48 ⟨0,rfl,by omega,rfl,k0,k1,f1⟩ ?_;rintro _ vs w2 g2 ⟨i,rfl,hi,rfl,l0,l1,f2⟩
 by_cases hlt:i<48
 ·have d1:=dTo (((16+i:Nat):Int)<64)
  have sb:∀ c:Nat,c≤16→IntKind.i64.wrap (((16+i:Nat):Int) - (c:Int))=((16+i - c:Nat):Int):=fun c hc=>qZj (by omega) (by omega);have s2:IntKind.i64.wrap (((16+i:Nat):Int) - 2)=((16+i - 2:Nat):Int):=sb 2 (by omega);have s7:IntKind.i64.wrap (((16+i:Nat):Int) - 7)=((16+i - 7:Nat):Int):=sb 7 (by omega);have s15:IntKind.i64.wrap (((16+i:Nat):Int) - 15)=((16+i - 15:Nat):Int):=sb 15 (by omega);have s16:IntKind.i64.wrap (((16+i:Nat):Int) - 16)=((16+i - 16:Nat):Int):=sb 16 (by omega);have x:∀ c:Nat,c≤16→(0:Int)≤((16+i - c:Nat):Int)∧((16+i - c:Nat):Int)<((64:Nat):Int):=fun c hc=>by omega
  have x2:=x 2 (by omega);have x7:=x 7 (by omega);have x15:=x 15 (by omega);have x16:=x 16 (by omega);have x0:(0:Int)≤((16+i:Nat):Int)∧((16+i:Nat):Int)<((64:Nat):Int):=by omega
  have rr:∀ c:Nat,0<c→c≤16→rdO prog 34 w2 w0.heap.size (16+i - c)=some (u32 ((sch m i).getD (16+i - c) 0)):=fun c h0 hc =>
   rd1 agg34 l1 (wB_at m (by omega) (by omega))
  have r2:=rr 2 (by omega) (by omega);have r7:=rr 7 (by omega) (by omega);have r15:=rr 15 (by omega) (by omega);have r16:=rr 16 (by omega) (by omega);have c1:IntKind.i64.wrap (((16+i:Nat):Int)+1)=((16+(i+1):Nat):Int):=qXi (b:=1);have h10:∀ z:W32,shrK .u32 (z.toNat:Int) 10=((z >>> 10).toNat:Int):=fun z=>shr32 z 10 (by omega);have h3:∀ z:W32,shrK .u32 (z.toNat:Int) 3=((z >>> 3).toNat:Int):=fun z=>shr32 z 3 (by omega);have q:=wr1 (P:=prog) (t:=34) (w:=w2.drew.drew) (v:=u32 (nextW (sch m i) (16+i))) (o:=16+i) sz34 rfl l1 (by rw[qZh,wB_len m hi];omega);rw[wl_set,wB_set m hlt]at q;simp only[nextW,low1,low0]at q;generalize (sch m i).getD (16+i - 2) 0=v2 at r2 q;generalize (sch m i).getD (16+i - 7) 0=v7 at r7 q;generalize (sch m i).getD (16+i - 15) 0=v15 at r15 q;generalize (sch m i).getD (16+i - 16) 0=v16 at r16 q;simp -implicitDefEqProofs only[go_sem,jY,jG,d1,s2,x2,s15,x15,and_self,iTn,jU,r2,r15];refine qQa pl198 ((rotl _ v2 17 (by omega) (by omega)).mono ?_);rintro _ _ ⟨rfl,rfl⟩;simp -implicitDefEqProofs only[go_sem,jY];refine qQa pl198 ((rotl _ v2 19 (by omega) (by omega)).mono ?_);rintro _ _ ⟨rfl,rfl⟩;simp -implicitDefEqProofs only[go_sem,jY,xor32,h10,jV];refine qQa pl198 ((rotl _ v15 7 (by omega) (by omega)).mono ?_);rintro _ _ ⟨rfl,rfl⟩;simp -implicitDefEqProofs only[go_sem,jY];refine qQa pl198 ((rotl _ v15 18 (by omega) (by omega)).mono ?_);rintro _ _ ⟨rfl,rfl⟩;simp -implicitDefEqProofs only[go_sem,jY,jG,xor32,h3,jV,s7,s16,x7,x16,x0,and_self,iTn,jU,r7,r16,add32,q,c1];exact⟨48 - (i+1),by omega,i+1,rfl,by omega,rfl,qQi l0 (by omega),qQd l1,f2.drew.drew.put (b:=w0.heap.size) _ fun h=>absurd h (jF _)⟩
 have d1:=dFo (((16+i:Nat):Int)<64);have e:i=48:=by omega
 subst e;rw[wB_full,hws]at l1;have x0:(0:Int)≤0∧(0:Int)<((8:Nat):Int):=by decide
 have x1:(0:Int)≤1∧(1:Int)<((8:Nat):Int):=by decide
 have x2:(0:Int)≤2∧(2:Int)<((8:Nat):Int):=by decide
 have x3:(0:Int)≤3∧(3:Int)<((8:Nat):Int):=by decide
 have x4:(0:Int)≤4∧(4:Int)<((8:Nat):Int):=by decide
 have x5:(0:Int)≤5∧(5:Int)<((8:Nat):Int):=by decide
 have x6:(0:Int)≤6∧(6:Int)<((8:Nat):Int):=by decide
 have x7:(0:Int)≤7∧(7:Int)<((8:Nat):Int):=by decide
 have st:∀ j,j<8→rdO prog 34 w2 hb j=some (u32 (s.list.getD j 0)):=fun j hj=>rd1 agg34 l0 (hC_w hj);have r0:rdO prog 34 w2 hb 0=some (u32 s.a):=st 0 (by omega);have r1:rdO prog 34 w2 hb 1=some (u32 s.b):=st 1 (by omega);have r2:rdO prog 34 w2 hb 2=some (u32 s.c):=st 2 (by omega);have r3:rdO prog 34 w2 hb 3=some (u32 s.d):=st 3 (by omega);have r4:rdO prog 34 w2 hb 4=some (u32 s.e):=st 4 (by omega);have r5:rdO prog 34 w2 hb 5=some (u32 s.f):=st 5 (by omega);have r6:rdO prog 34 w2 hb 6=some (u32 s.g):=st 6 (by omega);have r7:rdO prog 34 w2 hb 7=some (u32 s.h):=st 7 (by omega);simp -implicitDefEqProofs only[go_sem,jY,jG,d1,x0,x1,x2,x3,x4,x5,x6,x7,and_self,Int.reduceToNat,jU,jL,r0,r1,r2,r3,r4,r5,r6,r7];refine loopD [0,4,11,12,13,14,15,16,17,18,146] (pI3 w0 ws s hb (hC s.list r k t)) 64 ⟨0,s,rfl,rfl,by omega,rfl,l0,l1,f2.drew⟩ ?_;rintro _ vs w3 g3 ⟨i,V,hV,rfl,hi,rfl,k0,k1,f3⟩;clear r0 r1 r2 r3 r4 r5 r6 r7 st
 by_cases hlt:i<64
 ·have d1:=dTo ((i:Int)<64)
  have y:=iBd (i:=i) (n:=64)
  have rk:rdO prog 34 w3 4 i=some (u32 (ktab.getD i 0)):=by
   have:=ht.k2 i hlt;exact rd_rc agg34 (by rw[f3.rc (rc_lt this) id];exact this)
  have rw_:rdO prog 34 w3 w0.heap.size i=some (u32 (ws.getD i 0)):=rd1 agg34 k1 (wl_at (by omega));have hr:rnds ws s (i+1)=rnd V (ktab.getD i 0) (ws.getD i 0):=by rw[hV];rfl
  have c1:=iSu (i:=i);clear hV;generalize ktab.getD i 0=kk at rk hr;generalize ws.getD i 0=wk at rw_ hr;simp -implicitDefEqProofs only[go_sem,jY,d1];refine den_ext (fun j=>j == 2 || j == 4 || j == 7) [18,19,20,22,23,24,0,1,2,3,4,5,6,7,8,9,10,11,12,13,14,15,16,17,21,25,26] rfl (by kernel_rfl) (by kernel_rfl) ?_;simp -implicitDefEqProofs only[go_sem,jY,gLa,gLz,gLs,y,and_self,iTn,jU,rk,rw_];refine qXd pl198 ((rotl _ V.e 6 (by omega) (by omega)).mono ?_);rintro _ _ ⟨rfl,rfl⟩;refine⟨fun _=>Ext.refl _,?_⟩;simp -implicitDefEqProofs only[go_sem,jY,gLa,gLz,gLs];refine qXd pl198 ((rotl _ V.e 11 (by omega) (by omega)).mono ?_);rintro _ _ ⟨rfl,rfl⟩;refine⟨fun _=>Ext.refl _,?_⟩;simp -implicitDefEqProofs only[go_sem,jY,gLa,gLz,gLs,xor32];refine qXd pl198 ((rotl _ V.e 25 (by omega) (by omega)).mono ?_);rintro _ _ ⟨rfl,rfl⟩;refine⟨fun _=>Ext.refl _,?_⟩;simp -implicitDefEqProofs only[go_sem,jY,gLa,gLz,gLs,xor32,and32,add32];refine qQa pl198 ((rotl _ V.a 2 (by omega) (by omega)).mono ?_);rintro _ _ ⟨rfl,rfl⟩;simp -implicitDefEqProofs only[go_sem,jY];refine qQa pl198 ((rotl _ V.a 13 (by omega) (by omega)).mono ?_);rintro _ _ ⟨rfl,rfl⟩;simp -implicitDefEqProofs only[go_sem,jY,xor32];refine qQa pl198 ((rotl _ V.a 22 (by omega) (by omega)).mono ?_);rintro _ _ ⟨rfl,rfl⟩;simp -implicitDefEqProofs only[go_sem,jY,xor32,and32,or32,add32,c1];refine⟨64 - (i+1),by omega,i+1,rnd V kk wk,hr.symm,?_,by omega,rfl,k0,k1,f3.drew⟩;have e1:V.h+(rotr V.e 6 ^^^ rotr V.e 11 ^^^ rotr V.e 25)+(V.g ^^^ (V.e &&& (V.f ^^^ V.g)))+kk+wk=Sha.one V kk wk:=by rw[pick_eq];rfl
  have e2:(rotr V.a 2 ^^^ rotr V.a 13 ^^^ rotr V.a 22)+(V.a &&& V.b ||| V.c &&& (V.a ||| V.b))=high0 V.a+most V.a V.b V.c:=by rw[most_eq];rfl
  rw[e1,e2,rnd_a]
  rfl
 have d1:=dFo ((i:Int)<64);have e:i=64:=by omega
 subst e;rw[hT]at hV;subst hV;rw[← mixL_zero s V]at k0;simp -implicitDefEqProofs only[go_sem,jY,d1,bld8];refine loopD [0,214,215] (pI4 w0 s V hb r k t) 8 ⟨0,rfl,by omega,rfl,k0,f3.mono fun _ _ h=>h.elim⟩ ?_;rintro _ vs w4 g4 ⟨i,rfl,hi,rfl,l0,f4⟩
 by_cases hlt:i<8
 ·have d1:=dTo ((i:Int)<8)
  have y:=iBd (i:=i) (n:=8);have c1:=iSu (i:=i)
  have r1:rdO prog 34 w4 hb i=some (u32 (s.list.getD i 0)):=by
   rw[← mixL_getD s.list V.list hlt];exact rd1 agg34 l0 (hC_w (by rw[qJm];exact hlt))
  have p1:partO prog 34 (wl V.list) i=some (u32 (V.list.getD i 0)):=by
   simp only[partO,agg34];exact wl_at hlt
  have q:=wr1 (P:=prog) (t:=34) (w:=w4.drew) (v:=u32 (s.list.getD i 0+V.list.getD i 0)) (o:=i) sz34 rfl l0 (by rw[qZe,qJm];omega);rw[hC_setw _ _ (by rw[qJm];exact hlt),mixL_set _ _ hlt]at q;generalize s.list.getD i 0=t1 at r1 q;generalize V.list.getD i 0=s1 at p1 q;simp -implicitDefEqProofs only[go_sem,jY,jG,d1,y,and_self,iTn,jU,r1,p1,add32,q,c1];exact⟨8 - (i+1),by omega,i+1,rfl,by omega,rfl,qQd l0,f4.drew.put (b:=hb) _ fun _=>rfl⟩
 have d1:=dFo ((i:Int)<8);have e:i=8:=by omega
 subst e;rw[mixL_all,hR]at l0;simp -implicitDefEqProofs only[go_sem,jY,d1];exact⟨l0,f4⟩
end
theorem cut_blk {a:Option Addr}{n cap l n' cap' b:Nat}(h:qQg (.slice (if cap=l then a else a.map (fun (q:Addr)=>q.add (l*1))) n' cap')=some b):qQg (.slice a n cap)=some b:=by
 split at h
 ·cases a with
  | none=>cases h
  | some q=>exact h
 ·cases a with
  | none=>cases h
  | some q =>
   simp only[qK,qQg,oSi]at h ⊢
   rw[← h];unfold Addr.add;split <;> rfl
theorem By.fr' {F:Nat→Prop}{w w':World}{v:Value}(h:By w v bs)(k:Fr F w w')(hf:bs≠[]→∀ b,qQg v=some b→¬ F b):By w' v bs:=by
 by_cases he:bs=[]
 ·subst he
  obtain⟨h1,a,cap,rfl,h2,_⟩:=h;exact⟨h1,a,cap,rfl,h2,fun h=>by simp at h⟩
 ·exact h.fr k fun b hb _=>hf he b hb
def wrI (w0:World)(bs:List Byte)(s:S8)(hb:Nat)(r:List Byte)(k t:Nat)(n:Nat)(vs:List Value)(w:World):Prop :=
 ∃ i pv,vs=[pt hb 0,pv]∧64*i≤bs.length∧n=bs.length / 64 - i∧By w pv (bs.drop (64*i))∧(bs.drop (64*i)≠[]→∀ b,qQg pv=some b→b≠hb) ∧
  w.heap[hb]?=some (.cells (hC (blocks i bs s).list r k t) 265 (0,0))∧Fr (fun b=>b=hb) w0 w
structure Wrote (w0 w':World) (hb:Nat) (s:S8) (all:List Byte) (t:Nat):Prop where
 ex:∃ r',r'.length=64∧r'.take (all.length % 64)=all.drop (64*(all.length / 64))∧w'.heap[hb]?=some (.cells (hC (blocks (all.length / 64) all s).list r' (all.length % 64) t) 265 (0,0))
 fr:Fr (fun b=>b=hb) w0 w'
theorem S8_len (s:S8):s.list.length=8:=rfl
theorem wr_e5 (r b:List Byte):(r.take 0++b.drop (64*(b.length / 64))++r.drop (b.drop (64*(b.length / 64))).length).take (b.length % 64)=b.drop (64*(b.length / 64)):=by
 have h:(b.drop (64*(b.length / 64))).length=b.length % 64:=by rw[lDr];omega
 generalize b.drop (64*(b.length / 64))=x at *;rw[jP,zS,← h,jT]
theorem wr_e6 (r b:List Byte)(hr:r.length=64):(r++b).drop (64*(b.length / 64+1))=b.drop (64*(b.length / 64)):=by
 rw[List.drop_append,zC (by omega),zS]
 congr 1;omega
theorem write (w0:World)(ht:Tabs w0){s:S8}(h5:5≤hb)(hh:w0.heap[hb]?=some (.cells (hC s.list r n t) 265 (0, 0)))(hr:r.length=64)(hn:n<64)
  {pv:Value} (hp:By w0 pv bs) (hne:bs≠[]→∀ b,qQg pv=some b→b≠hb) (hl:bs.length≤2199023255552) (htb:t+bs.length<2 ^ 61) :
  Fn prog 190 #[pt hb 0,pv] w0 fun v w'=>v=.tuple #[]∧Wrote w0 w' hb s (r.take n++bs) (t+bs.length):=by
 have hL:=S8_len s;refine go190 (by simp) ?_;obtain⟨a,cap,rfl,hcap,_⟩:=hp.at;have r73:rdO prog 201 w0 hb 73=some (.int .u64 (t:Nat)):=rd1 agg201 hh (hC_t hL hr);have a1:IntKind.u64.wrap ((bs.length:Nat):Int)=((bs.length:Nat):Int):=by rw[qJz];omega
 have a2:IntKind.u64.wrap (((t:Nat):Int)+((bs.length:Nat):Int))=((t+bs.length:Nat):Int):=by rw[qJz];omega
 have q73:=wr1 (P:=prog) (t:=201) (v:=.int .u64 ((t+bs.length:Nat):Int)) (o:=73) sz201 rfl hh (by rw[qZe,hL,hr];omega);rw[hC_sett hL hr]at q73;have h1:=qQd (o:=.cells (hC s.list r n (t+bs.length)) 265 (0,0)) hh;have f1:Fr (fun b=>b=hb) w0 (put w0 hb (.cells (hC s.list r n (t+bs.length)) 265 (0,0))):=(Fr.refl _ _).put (b:=hb) _ fun _=>rfl;have hp1:=hp.fr' f1 hne;generalize t+bs.length=t' at *;clear htb;have n640:((64:Nat)=0)=False:=by simp
 by_cases hn0:n=0
 ·subst hn0
  have d1:decide (((0:Nat):Int) > 0)=false:=rfl;have r72:rdO prog 3 (put w0 hb (.cells (hC s.list r 0 t') 265 (0,0))) hb 72=some (.int .i64 ((0:Nat):Int)):=rd1 agg3 h1 (hC_n hL hr);simp -implicitDefEqProofs only[go_sem,jY,Tryz.f190,r73,a1,a2,q73,r72,d1];refine loopD [0,1] (wrI w0 bs s hb r 0 t') (bs.length / 64) ⟨0,_,rfl,by omega,rfl,by rw[jS,jN];exact hp1,by rw[jS,jN];exact hne,h1,f1⟩ ?_;rintro _ vs w2 g ⟨i,pv,rfl,hi,rfl,hp2,hne2,h2,f2⟩;obtain⟨a2,cap2,rfl,hcap2,hat2⟩:=hp2.at
  by_cases hlt:64*i+64≤bs.length
  ·have hdl:(bs.drop (64*i)).length=bs.length - 64*i:=lDr
   have d1:decide ((((bs.drop (64*i)).length:Nat):Int) ≥ 64)=true:=by rw[hdl];simp;omega
   obtain⟨b,o,rfl,_⟩:=hat2 0 (by omega);have hc0:¬ cap2=0:=by omega
   have sb1:sbO (.int .i64 64) cap2=some 64:=by simp only[sbO];rw[if_pos (by omega)];rfl
   have sb2:sbO (.int .i64 64) (bs.drop (64*i)).length=some 64:=by simp only[sbO];rw[if_pos (by omega)];rfl
   have hm:∀ j,j<64→rc w2 b (o+j)=some (u8 (((bs.drop (64*i)).take 64).getD j 0)):=fun j hj=>by
    obtain⟨b',o',e,h'⟩:=hat2 j (by omega);cases e;rw[h',qQw 0 (by rw[lTk,lDr];omega)]
    simp
   have hbs:=blocks_succ i bs s
   obtain⟨Q1,hQ1⟩:∃ Q1,Q1=blocks i bs s:=⟨_,rfl⟩
   rw[← hQ1]at h2 hbs;have hcut:=By.cut (l:=64) (m:=(bs.drop (64*i)).length) hp2 (by omega) (xT _) rfl _ rfl;have hcb:=fun b' (h:qQg (.slice (if cap2=64 then some ⟨b,o,none⟩ else jE (fun (q:Addr)=>q.add (64*1)) (some ⟨b,o,none⟩)) ((bs.drop (64*i)).length - 64) (cap2 - 64))=some b')=>hne2 (fun e=>by rw[e]at hdl;simp at hdl;omega) b' (cut_blk h)
   have hdd:((bs.drop (64*i)).drop 64).take ((bs.drop (64*i)).length - 64)=bs.drop (64*(i+1)):=by
    rw[List.drop_drop,show 64*i+64=64*(i+1) by omega];exact zT (by simp only[lDr];omega)
   rw[hdd]at hcut;generalize hM:(bs.drop (64*i)).take 64=M at hm hbs
   obtain⟨ws,hws⟩:∃ ws,words M=ws:=⟨_,rfl⟩
   obtain⟨T,hT⟩:∃ T,rnds ws Q1 64=T:=⟨_,rfl⟩
   obtain⟨R,hR⟩:∃ R,plus Q1 T=R:=⟨_,rfl⟩
   have hc:blocks (i+1) bs s=R:=by rw[hbs];exact comp_is (by rw[hws];exact hT) hR
   simp -implicitDefEqProofs only[go_sem,jY,d1,qQs,optB,sb1,hc0,jL,qKj,jC];refine qQa pl195 ((step w2 (ht.fr f2 fun b h e=>by omega) h2 (xT 64) hm hws hT hR).mono ?_);rintro _ w3 ⟨rfl,h3,f3⟩;simp -implicitDefEqProofs only[go_sem,jY,qQs,optB,sb2];refine⟨bs.length / 64 - (i+1),by omega,i+1,_,rfl,by omega,rfl,?_,fun _=>hcb,by rw[hc];exact h3,f2.trans f3⟩;refine By.fr ?_ f3 fun b' h _=>hcb b' h;have e1:bs.drop (64*(i+1))=bs.drop (64*(i+1)):=rfl;exact hcut
  ·have hdl:(bs.drop (64*i)).length=bs.length - 64*i:=lDr
   have d1:decide ((((bs.drop (64*i)).length:Nat):Int) ≥ 64)=false:=by rw[hdl];simp;omega
   have ei:i=bs.length / 64:=by omega
   have em:bs.length - 64*i=bs.length % 64:=by omega
   have hrun:=run_copy (P:=prog) (ts:=#[22,22]) (t:=22) rfl slc22 sz5 (w:=w2) (b:=hb) (o:=8) (dn:=64) (dc:=64) h2 hp2 (qXy _) (by rw[qZe,S8_len];omega);have hmin:min (bs.drop (64*i)).length 64=bs.length % 64:=by omega
   rw[hmin,jU,zT (by rw[zW];omega),show (8:Nat)=8+0 from rfl,hC_store (S8_len _) _ 0 (by omega),jA]at hrun;have q72:=fun (L:List W32) (r':List Byte) (hL:L.length=8) (hr':r'.length=64)=>wr1 (P:=prog) (t:=3) (w:=put w2 hb (.cells (hC L r' 0 t') 265 (0,0))) (v:=.int .i64 ((bs.length % 64:Nat):Int)) (o:=72) sz3 rfl (qQd h2) (by rw[qZe,hL,hr'];omega);have hr'':(r.take 0++bs.drop (64*i)++r.drop (bs.drop (64*i)).length).length=64:=by simp only[lAp,lTk,lDr];omega
   have q:=q72 _ _ (S8_len (blocks i bs s)) hr'';rw[hC_setn (S8_len _) hr'',put_put]at q;simp -implicitDefEqProofs only[go_sem,jY,d1,qQs,n640,jL,qKj,jC,optB];refine qQj ⟨_,_,hrun,?_⟩;simp -implicitDefEqProofs only[go_sem,jY,q];subst ei;rw[show List.take 0 r++bs=bs by simp];refine⟨⟨_,hr'',?_,qQd h2⟩,f2.put (b:=hb) _ fun _=>rfl⟩;rw[jP,zS,zR (by omega),zT (by omega)]
 ·have d1:=dTo (((n:Nat):Int) > 0)
  have r72:rdO prog 3 (put w0 hb (.cells (hC s.list r n t') 265 (0,0))) hb 72=some (.int .i64 ((n:Nat):Int)):=rd1 agg3 h1 (hC_n hL hr);have sb1:sbO (.int .i64 ((n:Nat):Int)) 64=some n:=by simp only[sbO];rw[if_pos (by omega),iTn]
  have hnn:((64:Nat)=n)=False:=by simp;omega
  have hrun:=run_copy (P:=prog) (ts:=#[22,22]) (t:=22) rfl slc22 sz5 (w:=(put w0 hb (.cells (hC s.list r n t') 265 (0,0))).drew) (b:=hb) (o:=8+n) (dn:=64 - n) (dc:=64 - n) h1 hp1 (qXy _) (by rw[qZe,hL];omega)
  obtain⟨cnt,hcnt⟩:∃ cnt,cnt=min bs.length (64 - n):=⟨_,rfl⟩
  rw[← hcnt,jU,← List.map_take,hC_store hL _ n (by rw[lTk];omega)]at hrun;have hl1:(bs.take cnt).length=cnt:=by rw[lTk];omega
  rw[hl1]at hrun;have hr1:(r.take n++bs.take cnt++r.drop (n+cnt)).length=64:=by simp only[lAp,lTk,lDr];omega
  have hrt:(r.take n++bs.take cnt++r.drop (n+cnt)).take (n+cnt)=r.take n++bs.take cnt:=by
   have:(r.take n++bs.take cnt).length=n+cnt:=by simp only[lAp,lTk];omega
   rw[← this,jT]
  generalize r.take n++bs.take cnt++r.drop (n+cnt)=r1 at hrun hr1 hrt;have a3:IntKind.i64.wrap (((n:Nat):Int)+((cnt:Nat):Int))=((n+cnt:Nat):Int):=qXi;have h2:(put (put w0 hb (.cells (hC s.list r n t') 265 (0,0))).drew hb (.cells (hC s.list r1 n t') 265 (0,0))).heap[hb]?=some (.cells (hC s.list r1 n t') 265 (0,0)):=qQd h1;have r72b:=rd1 (P:=prog) (t:=3) (o:=72) agg3 h2 (hC_n hL hr1);have q72:=wr1 (P:=prog) (t:=3) (v:=.int .i64 ((n+cnt:Nat):Int)) (o:=72) sz3 rfl h2 (by rw[qZe,hL,hr1];omega);rw[hC_setn hL hr1,put_put]at q72;have h3:(put (put w0 hb (.cells (hC s.list r n t') 265 (0,0))).drew hb (.cells (hC s.list r1 (n+cnt) t') 265 (0,0))).heap[hb]?=some (.cells (hC s.list r1 (n+cnt) t') 265 (0,0)):=qQd h1;have f3:Fr (fun b=>b=hb) w0 (put (put w0 hb (.cells (hC s.list r n t') 265 (0,0))).drew hb (.cells (hC s.list r1 (n+cnt) t') 265 (0,0))):=f1.drew.put (b:=hb) _ fun _=>rfl;have r72c:=rd1 (P:=prog) (t:=3) (o:=72) agg3 h3 (hC_n hL hr1);have sb2:sbO (.int .i64 ((cnt:Nat):Int)) bs.length=some cnt:=by simp only[sbO];rw[if_pos (by omega),iTn]
  simp -implicitDefEqProofs only[go_sem,jY,Tryz.f190,r73,a1,a2,q73,r72,d1,qQs,optB,sb1,hnn,jU];refine qQj ⟨_,_,hrun,?_⟩;have hcut:=By.cut (l:=cnt) (m:=bs.length) (hp.fr' f3 hne) (by omega) (xT _) rfl _ rfl;have hcb:=fun (hx:bs.drop cnt≠[]) b' (h:qQg (.slice (if cap=cnt then a else jE (fun (q:Addr)=>q.add (cnt*1)) a) (bs.length - cnt) (cap - cnt))=some b')=>hne (fun e=>hx (by rw[e,List.drop_nil])) b' (cut_blk h);have hdd:(bs.drop cnt).take (bs.length - cnt)=bs.drop cnt:=zT (by simp only[lDr];omega);rw[hdd]at hcut
  by_cases hlt:n+cnt<64
  ·have d2:=dTo (((n+cnt:Nat):Int)<64)
   have hc:cnt=bs.length:=by omega
   simp -implicitDefEqProofs only[go_sem,jY,r72b,a3,q72,qQs,optB,sb2,r72c,d2];have hal:(r.take n++bs).length=n+bs.length:=by simp only[lAp,lTk];omega
   have e1:(n+bs.length) / 64=0:=by omega
   have e2:(n+bs.length) % 64=n+bs.length:=by omega
   refine⟨⟨r1,hr1,?_,?_⟩,f3⟩
   ·rw[hal,e1,e2,← hc,hrt,jS,jN,hc,List.take_length]
   ·rw[hal,e1,e2,← hc];exact h3
  have d2:=dFo (((n+cnt:Nat):Int)<64);have hc:cnt=64 - n:=by omega
  have hnc:n+cnt=64:=by omega
  have hm:∀ j,j<64→rc (put (put w0 hb (.cells (hC s.list r n t') 265 (0,0))).drew hb (.cells (hC s.list r1 (n+cnt) t') 265 (0,0))) hb (8+j)=some (u8 (r1.getD j 0)):=fun j hj=>by
   rw[qXe h3,hC_b hL (by omega)]
  obtain⟨ws,hws⟩:∃ ws,words r1=ws:=⟨_,rfl⟩
  obtain⟨T,hT⟩:∃ T,rnds ws s 64=T:=⟨_,rfl⟩
  obtain⟨R0,hR⟩:∃ R0,plus s T=R0:=⟨_,rfl⟩
  have hcomp:comp s r1=R0:=comp_is (by rw[hws];exact hT) hR;simp -implicitDefEqProofs only[go_sem,jY,r72b,a3,q72,qQs,optB,sb2,r72c,d2,n640,jL,jC];refine qQa pl195 ((step _ (ht.fr f3 fun b h e=>by omega) h3 (xT 64) hm hws hT hR).mono ?_);rintro _ w4 ⟨rfl,h4,f4⟩;have q72d:=wr1 (P:=prog) (t:=3) (v:=.int .i64 ((0:Nat):Int)) (o:=72) sz3 rfl h4 (by rw[qZe,S8_len,hr1];omega);rw[hC_setn (S8_len R0) hr1]at q72d;have h5':=qQd (o:=.cells (hC R0.list r1 0 t') 265 (0,0)) h4;have f5:Fr (fun b=>b=hb) w0 (put w4 hb (.cells (hC R0.list r1 0 t') 265 (0,0))):=(f3.trans f4).put (b:=hb) _ fun _=>rfl;have hcut5:=By.fr' hcut (f4.put (b:=hb) (.cells (hC R0.list r1 0 t') 265 (0,0)) fun _=>rfl) hcb;simp -implicitDefEqProofs only[go_sem,jY];have q72e:wrO prog 3 w4 hb 72 (.int .i64 0)=some (put w4 hb (.cells (hC R0.list r1 0 t') 265 (0,0))):=q72d;simp -implicitDefEqProofs only[go_sem,q72e];have hbsl:(bs.drop cnt).length=bs.length - cnt:=lDr
  have hall:r.take n++bs=r1++bs.drop cnt:=by
   have e1:r1.take (n+cnt)=r1:=zT (by omega);rw[← e1,hrt,zO,List.take_append_drop]
  have hbl:∀ K,blocks (K+1) (r1++bs.drop cnt) s=blocks K (bs.drop cnt) R0:=fun K=>by
   rw[show K+1=1+K by omega];show qZt comp (1+K) _ _=_;rw[qVe comp 1 K];show blocks K _ (comp s _)=_;rw[jU,← hr1,List.drop_left,jT,hcomp]
  have hall2:(r1++bs.drop cnt).length=64+(bs.drop cnt).length:=by rw[lAp,hr1]
  rw[hall];generalize bs.drop cnt=bs1 at *;have hl1':bs1.length≤2199023255552:=by omega
  refine loopD [0,1] (wrI w0 bs1 R0 hb r1 0 t') (bs1.length / 64) ⟨0,_,rfl,by omega,rfl,by rw[jS,jN];exact hcut5,by rw[jS,jN];exact hcb,h5',f5⟩ ?_;rintro _ vs w2 g ⟨i,pv,rfl,hi,rfl,hp2,hne2,h2,f2⟩;obtain⟨a2,cap2,rfl,hcap2,hat2⟩:=hp2.at
  by_cases hlt:64*i+64≤bs1.length
  ·have hdl:(bs1.drop (64*i)).length=bs1.length - 64*i:=lDr
   have d1:decide ((((bs1.drop (64*i)).length:Nat):Int) ≥ 64)=true:=by rw[hdl];simp;omega
   obtain⟨b,o,rfl,_⟩:=hat2 0 (by omega);have hc0:¬ cap2=0:=by omega
   have sb1:sbO (.int .i64 64) cap2=some 64:=by simp only[sbO];rw[if_pos (by omega)];rfl
   have sb2:sbO (.int .i64 64) (bs1.drop (64*i)).length=some 64:=by simp only[sbO];rw[if_pos (by omega)];rfl
   have hm:∀ j,j<64→rc w2 b (o+j)=some (u8 (((bs1.drop (64*i)).take 64).getD j 0)):=fun j hj=>by
    obtain⟨b',o',e,h'⟩:=hat2 j (by omega);cases e;rw[h',qQw 0 (by rw[lTk,lDr];omega)]
    simp
   have hbs:=blocks_succ i bs1 R0
   obtain⟨Q1,hQ1⟩:∃ Q1,Q1=blocks i bs1 R0:=⟨_,rfl⟩
   rw[← hQ1]at h2 hbs;have hcut:=By.cut (l:=64) (m:=(bs1.drop (64*i)).length) hp2 (by omega) (xT _) rfl _ rfl;have hcb:=fun b' (h:qQg (.slice (if cap2=64 then some ⟨b,o,none⟩ else jE (fun (q:Addr)=>q.add (64*1)) (some ⟨b,o,none⟩)) ((bs1.drop (64*i)).length - 64) (cap2 - 64))=some b')=>hne2 (fun e=>by rw[e]at hdl;simp at hdl;omega) b' (cut_blk h)
   have hdd:((bs1.drop (64*i)).drop 64).take ((bs1.drop (64*i)).length - 64)=bs1.drop (64*(i+1)):=by
    rw[List.drop_drop,show 64*i+64=64*(i+1) by omega];exact zT (by simp only[lDr];omega)
   rw[hdd]at hcut;generalize hM:(bs1.drop (64*i)).take 64=M at hm hbs
   obtain⟨ws,hws⟩:∃ ws,words M=ws:=⟨_,rfl⟩
   obtain⟨T,hT⟩:∃ T,rnds ws Q1 64=T:=⟨_,rfl⟩
   obtain⟨R,hR⟩:∃ R,plus Q1 T=R:=⟨_,rfl⟩
   have hc:blocks (i+1) bs1 R0=R:=by rw[hbs];exact comp_is (by rw[hws];exact hT) hR
   simp -implicitDefEqProofs only[go_sem,jY,d1,qQs,optB,sb1,hc0,jL,qKj,jC];refine qQa pl195 ((step w2 (ht.fr f2 fun b h e=>by omega) h2 (xT 64) hm hws hT hR).mono ?_);rintro _ w3 ⟨rfl,h3,f3⟩;simp -implicitDefEqProofs only[go_sem,jY,qQs,optB,sb2];refine⟨bs1.length / 64 - (i+1),by omega,i+1,_,rfl,by omega,rfl,?_,fun _=>hcb,by rw[hc];exact h3,f2.trans f3⟩;refine By.fr ?_ f3 fun b' h _=>hcb b' h;have e1:bs1.drop (64*(i+1))=bs1.drop (64*(i+1)):=rfl;exact hcut
  ·have hdl:(bs1.drop (64*i)).length=bs1.length - 64*i:=lDr
   have d1:decide ((((bs1.drop (64*i)).length:Nat):Int) ≥ 64)=false:=by rw[hdl];simp;omega
   have ei:i=bs1.length / 64:=by omega
   have em:bs1.length - 64*i=bs1.length % 64:=by omega
   have hrun:=run_copy (P:=prog) (ts:=#[22,22]) (t:=22) rfl slc22 sz5 (w:=w2) (b:=hb) (o:=8) (dn:=64) (dc:=64) h2 hp2 (qXy _) (by rw[qZe,S8_len];omega);have hmin:min (bs1.drop (64*i)).length 64=bs1.length % 64:=by omega
   rw[hmin,jU,zT (by rw[zW];omega),show (8:Nat)=8+0 from rfl,hC_store (S8_len _) _ 0 (by omega),jA]at hrun;have q72:=fun (L:List W32) (r':List Byte) (hL:L.length=8) (hr':r'.length=64)=>wr1 (P:=prog) (t:=3) (w:=put w2 hb (.cells (hC L r' 0 t') 265 (0,0))) (v:=.int .i64 ((bs1.length % 64:Nat):Int)) (o:=72) sz3 rfl (qQd h2) (by rw[qZe,hL,hr'];omega);have hr'':(r1.take 0++bs1.drop (64*i)++r1.drop (bs1.drop (64*i)).length).length=64:=by simp only[lAp,lTk,lDr];omega
   have q:=q72 _ _ (S8_len (blocks i bs1 R0)) hr'';rw[hC_setn (S8_len _) hr'',put_put]at q;simp -implicitDefEqProofs only[go_sem,jY,d1,qQs,n640,jL,qKj,jC,optB];refine qQj ⟨_,_,hrun,?_⟩;simp -implicitDefEqProofs only[go_sem,jY,q];subst ei;have e3:(64+bs1.length) / 64=bs1.length / 64+1:=by omega
   have e4:(64+bs1.length) % 64=bs1.length % 64:=by omega
   refine⟨⟨_,hr'',?_,?_⟩,f2.put (b:=hb) _ fun _=>rfl⟩
   ·rw[hall2,e3,e4]
    exact (wr_e5 r1 bs1).trans (wr_e6 r1 bs1 hr1).symm
   ·rw[hall2,e3,e4,hbl];exact qQd h2
def Took (w:World)(hb:Nat)(all:List Byte):Prop :=
 ∃ r,r.length=64∧r.take (all.length % 64)=all.drop (64*(all.length / 64))∧w.heap[hb]?=some (.cells (hC (blocks (all.length / 64) all init).list r (all.length % 64) all.length) 265 (0,0))
theorem out_idx (s:S8)(i j:Nat)(hi:i<8)(hj:j<4):outAt s (4*i+j)=((s.list.getD i 0) >>> (24 - 8*j)).setWidth 8:=by
 unfold outAt;rw[show (4*i+j) / 4=i by omega,show (4*i+j) % 4=j by omega]
def mI1 (w0:World)(W:World)(N b1 b2:Nat)(L:Nat)(n:Nat)(vs:List Value)(w:World):Prop :=
 ∃ i,vs=[pt w0.heap.size 0,pt b1 0,.int .u64 ((zD 64 (8*L)).toNat:Nat),pt b2 0,.int .i64 (N+1:Nat),.int .i64 (i:Nat)]∧i≤8∧n=8 - i ∧
  w.heap[b2]?=some (.cells (bl (padTo 0 128 (128::zV N 0++(len8 L).take i))) 270 (0,0))∧Fr (fun b=>b=b2) W w
def mI2 (w0:World)(W:World)(S:S8)(b3:Nat)(n:Nat)(vs:List Value)(w:World):Prop :=
 ∃ i,vs=[pt w0.heap.size 0,pt b3 0,.agg (wl S.list),.int .i64 (i:Nat)]∧i≤8∧n=8 - i∧w.heap[b3]?=some (.cells (bl (padTo 0 32 ((out S).take (4*i)))) 75 (0,0))∧Fr (fun b=>b=b3) W w
theorem hC_whole {t:TypeId}{L:List W32}{e:TypeId}{fz:Nat × Nat}(ha:aggO prog t=some true)(hs:szO prog t=some 74)(hL:L.length=8)(hr:r.length=64)(h:w.heap[b]?=some (.cells (hC L r n k) e fz)) :
  rdO prog t w b 0=some (.agg (hC L r n k)) :=
 rds ha hs h (by rw[qZe,hL,hr]) (by omega) fun i _=>by rw[zB]
theorem hC_one {L:List W32}:(hC L r n k).all one=true:=by rw[← Array.all_toList];simp[hC,one]
theorem pad_take (N L i:Nat)(hN:N<64)(hi:i≤8):(128::zV N 0++(len8 L).take i).length=N+1+i:=by
 simp[len8_len];omega
theorem zeroH:(#[.int .u32 0,.int .u32 0,.int .u32 0,.int .u32 0,.int .u32 0,.int .u32 0,.int .u32 0,.int .u32 0]++bl (zV 64 0)++#[.int .i64 0,.int .u64 0]:Array Value)=hC (zV 8 0) (zV 64 0) 0 0:=by
 apply Array.toList_inj.1;rfl
theorem len8_zero (N L:Nat)(h:N<64):padTo (0:Byte) 128 [128]=padTo 0 128 (128::zV N 0++(len8 L).take 0):=by
 have e:∀ k:Nat,k≤127→∀ j,j≤k→zV k (0:Byte)=zV j 0++zV (k - j) 0:=fun k hk j hj=>by
  rw[List.replicate_append_replicate];congr 1;omega
 simp only[padTo,jP,List.append_nil,List.length_cons,lRe,List.length_nil,List.cons_append,zS];rw[e (128 - (0+1)) (by omega) N (by omega),show 128 - (0+1) - N=128 - (N+1) by omega]
theorem hsum (w0:World)(ht:Tabs w0){all:List Byte}(hl:all.length≤1099511627776)(hh:Took w0 hb all) :
  Fn prog 191 #[pt hb 0] w0 fun v w'=>v=dg (Sha.sum all)∧No w0 w':=by
 obtain⟨r,hr,hrt,hh⟩:=hh;have hbl:=qQh hh;refine go191 (by simp) ?_
 obtain⟨S0,hS0⟩:∃ S0,S0=blocks (all.length / 64) all init:=⟨_,rfl⟩
 rw[← hS0]at hh;have hL:=S8_len S0;have f1:No w0 (w0.alloc (.cells (bl (zV 32 0)) 75)):=(Fr.refl _ _).alloc _;have h1:=f1.at hh id;have k1:(w0.alloc (.cells (bl (zV 32 0)) 75)).heap[w0.heap.size]?=some (.cells (bl (zV 32 0)) 75 (0,0)):=qQb _ _;have r1:=hC_whole agg265 sz265 hL hr h1;have z1:(w0.alloc (.cells (bl (zV 32 0)) 75)).heap.size=w0.heap.size+1:=qQc _ _;simp -implicitDefEqProofs only[go_sem,jY,Tryz.f191,jH,qQk];generalize w0.alloc (.cells (bl (zV 32 0)) 75)=W1 at *
 obtain⟨K,hK⟩:∃ K,K=all.length / 64:=⟨_,rfl⟩
 obtain⟨nn,hnn⟩:∃ nn,nn=all.length % 64:=⟨_,rfl⟩
 obtain⟨L,hLl⟩:∃ L,L=all.length:=⟨_,rfl⟩
 rw[← hnn,← hLl]at r1 h1
 have q1:=qQr (P:=prog) (t:=265) (w:=W1.alloc (.cells (hC (zV 8 0) (zV 64 0) 0 0) 265)) (b:=w0.heap.size+1) (vs:=hC S0.list r nn L) (by rw[qZe,hL,hr];exact sz265)
  (by rw[← z1];exact qQb _ _) (by rw[qZe,qZe,hL,hr];simp) hC_one
 have h2:(put (W1.alloc (.cells (hC (zV 8 0) (zV 64 0) 0 0) 265)) (w0.heap.size+1) (.cells (hC S0.list r nn L) 265 (0,0))).heap[w0.heap.size+1]?=some (.cells (hC S0.list r nn L) 265 (0,0)):=by
  rw[← z1];exact qQd (qQb _ _)
 have k2:(put (W1.alloc (.cells (hC (zV 8 0) (zV 64 0) 0 0) 265)) (w0.heap.size+1) (.cells (hC S0.list r nn L) 265 (0,0))).heap[w0.heap.size]?=some (.cells (bl (zV 32 0)) 75 (0,0)) :=
  qQi (qQq k1) (by omega)
 have f2:No w0 (put (W1.alloc (.cells (hC (zV 8 0) (zV 64 0) 0 0) 265)) (w0.heap.size+1) (.cells (hC S0.list r nn L) 265 (0,0))):=(f1.alloc _).put (b:=w0.heap.size+1) _ fun h=>by omega
 have z2:(put (W1.alloc (.cells (hC (zV 8 0) (zV 64 0) 0 0) 265)) (w0.heap.size+1) (.cells (hC S0.list r nn L) 265 (0,0))).heap.size=w0.heap.size+1+1:=by
  rw[put_heap_size,qQc,z1]
 simp -implicitDefEqProofs only[go_sem,jY,jH,qQk,r1,z1,zeroH,q1];generalize put (W1.alloc (.cells (hC (zV 8 0) (zV 64 0) 0 0) 265)) (w0.heap.size+1) (.cells (hC S0.list r nn L) 265 (0,0))=W2 at *;have r73:rdO prog 201 W2 (w0.heap.size+1) 73=some (.int .u64 (L:Nat)):=rd1 agg201 h2 (hC_t hL hr)
 have a1:IntKind.u64.wrap (((L:Nat):Int)*8)=((zD 64 (8*L)).toNat:Int):=by
  rw[qJz,BitVec.toNat_ofNat];omega
 have f3:No W2 (W2.alloc (.cells (bl (zV 128 0)) 270)):=(Fr.refl _ _).alloc _;have h3:=f3.at h2 id;have k3:=f3.at k2 id;have q2:=wr1 (P:=prog) (t:=5) (w:=W2.alloc (.cells (bl (zV 128 0)) 270)) (b:=w0.heap.size+1+1) (v:=u8 128) (o:=0) sz5 rfl (by rw[← z2];exact qQb _ _) (by rw[qXa];simp);rw[bl_set,show (zV 128 (0:Byte)).set 0 128=padTo 0 128 [128] from rfl]at q2;have x0:(0:Int)≤0∧(0:Int)<((128:Nat):Int):=by decide
 simp -implicitDefEqProofs only[go_sem,jH,qQk,r73,a1,z2,x0,and_self,Int.reduceToNat,jL]
 replace q2:wrO prog 5 (W2.alloc (.cells (bl (zV 128 0)) 270)) (w0.heap.size+1+1) 0 (.int .u8 128)=some (put (W2.alloc (.cells (bl (zV 128 0)) 270)) (w0.heap.size+1+1) (.cells (bl (padTo 0 128 [128])) 270 (0,0))):=q2
 simp -implicitDefEqProofs only[go_sem,jY,q2];have hN:fill L<64:=by unfold fill;omega
 have hfN:fill L=(119 - nn) % 64:=by unfold fill;rw[hnn,← hLl]
 rw[len8_zero (fill L) L hN]at q2 ⊢;have h4:=qQd (o:=.cells (bl (padTo 0 128 (128::zV (fill L) 0++(len8 L).take 0))) 270 (0,0)) (show (W2.alloc (.cells (bl (zV 128 0)) 270)).heap[w0.heap.size+1+1]?=_ by rw[← z2];exact qQb _ _)
 have g4:Fr (fun b=>b=w0.heap.size+1+1) (W2.alloc (.cells (bl (zV 128 0)) 270)) (put (W2.alloc (.cells (bl (zV 128 0)) 270)) (w0.heap.size+1+1) (.cells (bl (padTo 0 128 (128::zV (fill L) 0++(len8 L).take 0))) 270 (0,0))) :=
  (Fr.refl _ _).put _ fun _=>rfl
 generalize hW4:W2.alloc (.cells (bl (zV 128 0)) 270)=W3 at *;generalize put W3 (w0.heap.size+1+1) (.cells (bl (padTo 0 128 (128::zV (fill L) 0++(len8 L).take 0))) 270 (0,0))=W4 at *;have r72:rdO prog 3 W4 (w0.heap.size+1) 72=some (.int .i64 (nn:Nat)):=rd1 agg3 (g4.at h3 (by omega)) (hC_n hL hr);have n0:((64:Int)=0)=False:=by simp
 have a2:((nn:Nat):Int).tmod 64=(nn:Nat):=by
  rw[show ((nn:Nat):Int).tmod 64=((nn % 64:Nat):Int) from rfl];omega
 have a3:IntKind.i64.wrap (119 - ((nn:Nat):Int))=((119 - nn:Nat):Int):=qZj (a:=119) (b:=nn) (by omega) (by omega)
 have a4:((119 - nn:Nat):Int).tmod 64=((fill L:Nat):Int):=by
  rw[show ((119 - nn:Nat):Int).tmod 64=(((119 - nn) % 64:Nat):Int) from rfl,hfN]
 have a5:IntKind.i64.wrap (((fill L:Nat):Int)+1)=((fill L+1:Nat):Int):=qXi (b:=1);simp -implicitDefEqProofs only[go_sem,r72,n0,a2,a3,a4,a5];refine loopD [2,3,4,5,6,24] (mI1 w0 W3 (fill L) (w0.heap.size+1) (w0.heap.size+1+1) L) 8 ⟨0,rfl,by omega,rfl,h4,g4⟩ ?_;rintro _ vs w5 g ⟨i,rfl,hi,rfl,h5,g5⟩
 by_cases hlt:i<8
 ·have d1:=dTo ((i:Int)<8)
  have c0:IntKind.i64.wrap (((fill L+1:Nat):Int)+((i:Nat):Int))=((fill L+1+i:Nat):Int):=qXi;have c1:IntKind.i64.wrap (8*(i:Int))=((8*i:Nat):Int):=i64mul (a:=8) (b:=i) (by omega);have c2:IntKind.i64.wrap (56 - ((8*i:Nat):Int))=((56 - 8*i:Nat):Int):=qZj (a:=56) (b:=8*i) (by omega) (by omega);have c4:=iSu (i:=i);have n1:¬ (((56 - 8*i:Nat):Int)<0):=by omega
  have y:(0:Int)≤((fill L+1+i:Nat):Int)∧((fill L+1+i:Nat):Int)<((128:Nat):Int):=by omega
  have hpl:=pad_take (fill L) L i hN hi;have q:=wr1 (P:=prog) (t:=5) (v:=u8 (((zD 64 (8*L)) >>> (56 - 8*i)).setWidth 8)) (o:=fill L+1+i) sz5 rfl h5 (by rw[qXa,qZb (by omega)];omega);have e1:=padTo_set (z:=(0:Byte)) (n:=128) (l:=128::zV (fill L) 0++(len8 L).take i) (((zD 64 (8*L)) >>> (56 - 8*i)).setWidth 8) (by omega);rw[hpl,zO,qKa (len8_at L hlt)]at e1;rw[bl_set,e1]at q;simp -implicitDefEqProofs only[go_sem,jY,d1,c0,c1,c2,n1,shr64 _ _ (show 56 - 8*i≤64 by omega),cut64,y,and_self,iTn,jU,q,c4];exact⟨8 - (i+1),by omega,i+1,rfl,by omega,rfl,qQd h5,g5.put _ fun _=>rfl⟩
 have d1:=dFo ((i:Int)<8);have e:i=8:=by omega
 subst e;have hpd:128::zV (fill L) 0++(len8 L).take 8=pad L:=by rw[zT (by rw[len8_len];omega)];rfl
 rw[hpd]at h5;have hpl:(pad L).length=fill L+9:=pad_len L;have c5:IntKind.i64.wrap (((fill L+1:Nat):Int)+8)=((fill L+9:Nat):Int):=qXi (b:=8);have sb:sbO (.int .i64 ((fill L+9:Nat):Int)) 128=some (fill L+9):=by simp only[sbO];rw[if_pos (by omega),iTn]
 have n128:((128:Nat)=0)=False:=by simp
 have f5:No w0 w5:=(f2.trans f3).trans' g5 fun b hb h=>by omega
 have hby:By w5 (.slice (some ⟨w0.heap.size+1+1,0,none⟩) (fill L+9) 128) (pad L):=by
  refine⟨by simp,_,_,by rw[hpl],by omega,fun _=>⟨_,_,rfl,fun j hj=>?_⟩⟩;rw[jU]at hj;rw[qXe h5,zB,bl_at (by rw[qZb (by omega)];omega),padTo_getD 0 hj,jR,zQ hj,qQw 0 hj];rfl
 have ht5:Tabs w5:=ht.no f5;have h5size:=ht.size;simp -implicitDefEqProofs only[go_sem,jY,d1,c5,qQs,optB,sb,n128,jL,jC];refine qQa pl190 ((write w5 ht5 (by omega) (g5.at h3 (by omega)) hr (by omega) hby (fun _ b hb=>by simp only[qQg,oSi]at hb;omega) (by omega) (by omega)).mono ?_);rintro _ w6 ⟨rfl,hw⟩;obtain⟨⟨r',hr',_,h6⟩,g6⟩:=hw;have hkey:(r.take nn++pad L).length=nn+(fill L+9):=by rw[lAp,lTk,hpl];omega
 have hfin:out (blocks ((r.take nn++pad L).length / 64) (r.take nn++pad L) S0)=Sha.sum all:=by
  have hmod:=pad_mod L;have hLe:L=64*K+nn:=by omega
  obtain⟨q,hq⟩:∃ q,L+(pad L).length=64*q:=⟨_,(Nat.mul_div_cancel' (Nat.dvd_of_mod_eq_zero hmod)).symm⟩
  have hq2:(r.take nn++pad L).length / 64=q - K:=by rw[hkey];omega
  rw[hq2,sum_blocks all (by rw[← hLl];exact hq),← hLl,show blocks q (all++pad L) init=blocks (K+(q - K)) (all++pad L) init by congr 1;omega];show _=out (qZt comp (K+(q - K)) (all++pad L) init);rw[qVe comp K (q - K),blocksF_app comp K _ _ _ (by omega),zL (by omega),hnn,hrt,hS0,hK]
  rfl
 generalize blocks ((r.take nn++pad L).length / 64) (r.take nn++pad L) S0=S at h6 hfin;rw[← hfin]
 have r6:rdO prog 250 w6 (w0.heap.size+1) 0=some (.agg (wl S.list)):=by
  refine rds agg250 sz250 h6 rfl (by omega) fun i hi=>?_;rw[zB,hC_w hi,wl_at hi]
 have f6:No w0 w6:=f5.trans' g6 fun b hb h=>by omega
 have k6:w6.heap[w0.heap.size]?=some (.cells (bl (zV 32 0)) 75 (0,0)):=g6.at (g5.at k3 (by omega)) (by omega);have f7:No w6 (w6.alloc (.cells (bl (zV 32 0)) 75)):=(Fr.refl _ _).alloc _
 have h7:(w6.alloc (.cells (bl (zV 32 0)) 75)).heap[w6.heap.size]?=some (.cells (bl (padTo 0 32 ((out S).take (4*0)))) 75 (0,0)):=by
  rw[jS,jP,padTo_nil];exact qQb _ _
 have k7:=f7.at k6 id
 have r7:rdO prog 250 (w6.alloc (.cells (bl (zV 32 0)) 75)) (w0.heap.size+1) 0=some (.agg (wl S.list)):=by
  refine rds agg250 sz250 (f7.at h6 id) rfl (by omega) fun i hi=>?_;rw[zB,hC_w hi,wl_at hi]
 have z6:w0.heap.size<w6.heap.size:=qQh k6;simp -implicitDefEqProofs only[go_sem,jY,jH,qQk,r7];refine loopD [2,8,43,44] (mI2 w0 (w6.alloc (.cells (bl (zV 32 0)) 75)) S w6.heap.size) 8 ⟨0,rfl,by omega,rfl,h7,Fr.refl _ _⟩ ?_;rintro _ vs w8 g2 ⟨i,rfl,hi,rfl,l8,g8⟩
 by_cases hlt:i<8
 ·have d1:=dTo ((i:Int)<8)
  have y:=iBd (i:=i) (n:=8);have c0:IntKind.i64.wrap (4*(i:Int))=((4*i:Nat):Int):=i64mul (a:=4) (b:=i) (by omega);have c1:IntKind.i64.wrap (((4*i:Nat):Int)+1)=((4*i+1:Nat):Int):=qXi (b:=1);have c2:IntKind.i64.wrap (((4*i:Nat):Int)+2)=((4*i+2:Nat):Int):=qXi (b:=2);have c3:IntKind.i64.wrap (((4*i:Nat):Int)+3)=((4*i+3:Nat):Int):=qXi (b:=3);have c4:=iSu (i:=i);have y0:(0:Int)≤((4*i:Nat):Int)∧((4*i:Nat):Int)<((32:Nat):Int):=by omega
  have y1:(0:Int)≤((4*i+1:Nat):Int)∧((4*i+1:Nat):Int)<((32:Nat):Int):=by omega
  have y2:(0:Int)≤((4*i+2:Nat):Int)∧((4*i+2:Nat):Int)<((32:Nat):Int):=by omega
  have y3:(0:Int)≤((4*i+3:Nat):Int)∧((4*i+3:Nat):Int)<((32:Nat):Int):=by omega
  have s24:∀ z:W32,shrK .u32 (z.toNat:Int) 24=((z >>> 24).toNat:Int):=fun z=>shr32 z 24 (by omega);have s16:∀ z:W32,shrK .u32 (z.toNat:Int) 16=((z >>> 16).toNat:Int):=fun z=>shr32 z 16 (by omega);have s8:∀ z:W32,shrK .u32 (z.toNat:Int) 8=((z >>> 8).toNat:Int):=fun z=>shr32 z 8 (by omega)
  have p1:partO prog 34 (wl S.list) i=some (u32 (S.list.getD i 0)):=by
   simp only[partO,agg34];exact wl_at hlt
  have ol:∀ k,k≤32→((out S).take k).length=k:=fun k hk=>by rw[lTk,qZl];omega
  have qq:∀ (w:World) (j:Nat),j<32→w.heap[w6.heap.size]?=some (.cells (bl (padTo 0 32 ((out S).take j))) 75 (0,0))→wrO prog 5 w w6.heap.size j (u8 (outAt S j))=some (put w w6.heap.size (.cells (bl (padTo 0 32 ((out S).take (j+1)))) 75 (0,0))):=fun w j hj hw=>by
   have:=wr1 (P:=prog) (t:=5) (v:=u8 (outAt S j)) (o:=j) sz5 rfl hw (by rw[qXa,qZb (by rw[ol j (by omega)];omega)];exact hj);rw[bl_set,out_take S hj]at this;exact this
  have q0:=qq w8 (4*i) (by omega) l8;have q1':=qq _ (4*i+1) (by omega) (qQd (o:=.cells (bl (padTo 0 32 ((out S).take (4*i+1)))) 75 (0,0)) l8);rw[put_put]at q1';have q2':=qq _ (4*i+2) (by omega) (qQd (o:=.cells (bl (padTo 0 32 ((out S).take (4*i+1+1)))) 75 (0,0)) l8);rw[put_put]at q2';have q3':=qq _ (4*i+3) (by omega) (qQd (o:=.cells (bl (padTo 0 32 ((out S).take (4*i+2+1)))) 75 (0,0)) l8);rw[put_put]at q3';have o0:=out_idx S i 0 hlt (by omega);have o1:=out_idx S i 1 hlt (by omega);have o2:=out_idx S i 2 hlt (by omega);have o3:=out_idx S i 3 hlt (by omega);rw[jA]at o0;simp only[jS,jU,jC,Nat.reduceMul,Nat.reduceSub,BitVec.ushiftRight_zero]at o0 o1 o2 o3;rw[o0]at q0;rw[o1]at q1';rw[o2]at q2';rw[o3]at q3';generalize S.list.getD i 0=t1 at p1 q0 q1' q2' q3';simp -implicitDefEqProofs only[go_sem,jY,d1,y,y0,y1,y2,y3,and_self,iTn,jU,p1,c0,c1,c2,c3,s24,s16,s8,cut32,jV,q0,q1',q2',q3',c4];refine⟨8 - (i+1),by omega,i+1,rfl,by omega,rfl,?_,g8.put _ fun _=>rfl⟩;rw[show 4*(i+1)=4*i+3+1 by omega];exact qQd l8
 have d1:=dFo ((i:Int)<8);have e:i=8:=by omega
 subst e;rw[zT (by rw[qZl];omega),padTo_full (qZl S)]at l8;have k8:=g8.at k7 (by omega);have r:=rds (P:=prog) (t:=75) (o:=0) (vs:=bl (out S)) agg75 sz75 l8 (by rw[qXa,qZl]) (by omega) fun i hi=>by rw[zB]
 have q:=qQr (P:=prog) (t:=75) (vs:=bl (out S)) (by rw[qXa,qZl];exact sz75) k8 (by rw[qXa,qXa,qZl];simp) (bl_one _);have r2:=rds (P:=prog) (t:=75) (o:=0) (vs:=bl (out S)) agg75 sz75 (qQd (o:=.cells (bl (out S)) 75 (0,0)) k8) (by rw[qXa,qZl]) (by omega) fun i hi=>by rw[zB]
 simp -implicitDefEqProofs only[go_sem,jY,d1,r,q,r2];exact ((f6.trans f7).trans' g8 fun b hb h=>by omega).put (b:=w0.heap.size) _ fun h=>absurd h (jF _)
end Go.V
