/- Helpers. -/
import Derived.Test.YtppmpdjlmgfdkaaGreatDoorB10
import Derived.Test.YtppmpdjlmgfdkaaGreatDoorB08
import Derived.Test.YtppmpdjlmgfdkaaGreatDoorB07
set_option linter.all false
set_option maxRecDepth 100000
set_option maxHeartbeats 8000000
open BitVec renaming ofNat->zX,toNat_ofNat->zZ
open Int renaming reduceToNat->jI,reduceLT->jO
open List renaming replicate->zK,take_of_length_le->zG,length_map->zB,getElem?_append_right->z4,getElem?_eq_getElem->xE,take_zero->j5,nil_append->zL,append_assoc->zJ,getElem?_map->j6,set_append_right->j7,getElem?_toArray->xI,setIfInBounds_toArray->j8,drop_zero->j9,take_append_of_le_length->zF,drop_append_of_le_length->zM,take_left->yQ,getElem?_append_left->zR,map_take->yX,drop_of_length_le->zT,length_singleton->jJ,getElem_range->yZ
open Nat renaming reduceEqDiff->yJ,mul_one->yK,zero_add->jY,zero_mul->yV,sub_zero->yW,reduceBEq->yY,lt_irrefl->yU,mul_zero->yG,le_refl->xC,add_zero->yF,dvd_of_mod_eq_zero->yH,mul_div_cancel'->yD
open Option renaming map_some->qK,map->yM
open Go.Value renaming cells->yN
namespace Go.V
open Go.Proofs.Tryz Go.V.Tryz
open Go.Proofs Sha
variable {d val:Bs} {bs m msg r:List Byte} {a b hb i j k n:Nat} {fz:Nat × Nat} {F:Nat->Prop} {e t:TypeId} {mv vv:Value} {w w':World}
theorem andRot:∀ k:Fin 32,0<k.val->andK .u64 (IntKind.u64.wrap (-(k.val:Int))) 31=((32 - k.val:Nat):Int):=by decide +kernel
theorem subRot:∀ k:Fin 33,IntKind.u64.wrap (32 - (k.val:Int))=((32 - k.val:Nat):Int):=by decide +kernel
theorem rotl (w:World)(x:W32)(k:Nat)(A:0<k)(B:k<32):Fn prog 198 #[u32 x,.int .i64 (-(k:Int))] w fun v w'=>v=u32 (rotr x k)/\w'=w:=by
 refine go198 sm ?_;have a1:andK .u64 (IntKind.u64.wrap (-(k:Int))) 31=((32 - k:Nat):Int):=andRot ⟨k,B⟩ A
 have a2:IntKind.u64.wrap (32 - ((32 - k:Nat):Int))=(k:Int):=by
  have:=subRot ⟨32 - k,om⟩;simp only at this;rw[this];omega
 have E:¬ (((32 - k:Nat):Int)<0):=om
 have H:¬ ((k:Int)<0):=om
 simp -implicitDefEqProofs only[go_sem,yJ,Tryz.f198,a1,a2,E,H,shl32 x (32 - k) om,shr32 x k om,or32];rw[rotr,BitVec.or_comm];exact⟨rfl,trivial⟩
theorem turn (w:World)(x:W32)(k:Nat)(E:k<=32):Fn prog 188 #[u32 x,.int .u64 (k:Int)] w fun v w'=>v=u32 (rotr x k)/\w'=w:=by
 refine go188 sm ?_;have a2:IntKind.u64.wrap (32 - (k:Int))=((32 - k:Nat):Int):=subRot ⟨k,om⟩;have A:¬ (((32 - k:Nat):Int)<0):=om
 have B:¬ ((k:Int)<0):=om
 simp -implicitDefEqProofs only[go_sem,yJ,Tryz.f188,a2,A,B,shl32 x (32 - k) om,shr32 x k om,or32];exact⟨rfl,trivial⟩
theorem sch0_len (m:List Byte)(k:Nat):(sch0 m k).length=k:=by simp[sch0]
theorem sch0_succ (m:List Byte)(k:Nat):sch0 m (k+1)=sch0 m k++[word4 m (4*k)]:=by simp[sch0,List.range_succ]
def wA (m:List Byte)(k:Nat):List W32:=padTo 0 64 (sch0 m k)
def wB (m:List Byte)(k:Nat):List W32:=padTo 0 64 (sch m k)
theorem wA_zero (m:List Byte):wA m 0=zK 64 0:=by rw[wA,show sch0 m 0=[] from rfl,padTo_nil]
theorem wA_len (m:List Byte)(h:k<=64):(wA m k).length=64:=qZn (by rw[sch0_len];exact h)
theorem wB_len (m:List Byte)(h:k<=48):(wB m k).length=64:=qZn (by rw[sch_len];omega)
theorem wA_set (m:List Byte)(h:k<64):(wA m k).set k (word4 m (4*k))=wA m (k+1):=by
 have:=padTo_set (z:=(0:W32)) (n:=64) (l:=sch0 m k) (word4 m (4*k)) (by rw[sch0_len];exact h);rw[sch0_len]at this;rw[wA,wA,this,sch0_succ]
theorem wB_zero (m:List Byte):wA m 16=wB m 0:=rfl
theorem wB_set (m:List Byte)(h:k<48):(wB m k).set (16+k) (nextW (sch m k) (16+k))=wB m (k+1):=by
 have:=padTo_set (z:=(0:W32)) (n:=64) (l:=sch m k) (nextW (sch m k) (16+k)) (by rw[sch_len];omega);rw[sch_len]at this;rw[wB,wB,this];rfl
theorem wB_full (m:List Byte):wB m 48=words m:=padTo_full (sch_len m 48)
theorem wB_at (m:List Byte)(A:k<=48)(h:j<16+k):(wl (wB m k))[j]?=some (u32 ((sch m k).getD j 0)):=by
 rw[wl_at (by rw[wB_len m A];omega),wB,padTo_getD 0 (by rw[sch_len];exact h)]
theorem i64n (h:n<2 ^ 62:=by omega):IntKind.i64.wrap (n:Int)=n:=qQq (by omega) (by omega)
theorem qXi (h:a+b<2 ^ 62:=by omega):IntKind.i64.wrap ((a:Int)+(b:Int))=((a+b:Nat):Int):=by rw[qQq (by omega) (by omega)];rfl
theorem iSu (h:i+1<2 ^ 62:=by omega):IntKind.i64.wrap ((i:Int)+1)=((i+1:Nat):Int):=qXi (b:=1) h
theorem qXr (h:b<=a)(A:a<2 ^ 62):IntKind.i64.wrap ((a:Int) - (b:Int))=((a - b:Nat):Int):=by rw[qQq om om];omega
theorem i64mul (h:a*b<2 ^ 62):IntKind.i64.wrap ((a:Int)*(b:Int))=((a*b:Nat):Int):=by
 rw[<- Int.natCast_mul,qQq om om]
def wI1 (B:World)(m:List Byte)(A at_:Nat)(p:Value)(n:Nat)(vs:List Value)(w:World):Prop :=
 ∃ i,vs=[p,.int .i64 at_,pt A 0,pt (A+1) 0,.int .i64 (i:Nat)]/\i<=16/\n=16 - i/\w.heap[A]?=some (.cells (wl (zK 64 0)) 251 (0,0)) /\
  w.heap[A+1]?=some (.cells (wl (wA m i)) 251 (0,0))/\No B w
def wI2 (B:World)(m:List Byte)(A:Nat)(n:Nat)(vs:List Value)(w:World):Prop :=
 ∃ i,vs=[pt A 0,pt (A+1) 0,.int .i64 (16+i:Nat)]/\i<=48/\n=48 - i/\w.heap[A]?=some (.cells (wl (zK 64 0)) 251 (0,0)) /\
  w.heap[A+1]?=some (.cells (wl (wB m i)) 251 (0,0))/\No B w
theorem words_ref (A:World){b o n cap at_:Nat}(hn:n<2 ^ 62)(a8:at_+64<=n)(hm:∀ j, j<64->rc A b (o+(at_+j))=some (u8 (m.getD j 0))) :
  Fn prog 166 #[.slice (some ⟨b,o,none⟩) n cap,.int .i64 at_] A fun v w'=>v=.agg (wl (words m))/\No A w':=by
 refine go166 sm ?_;generalize hp:Value.slice (some ⟨b,o,none⟩) n cap=p;simp -implicitDefEqProofs only[go_sem,Tryz.f166,yN,wl_zero];generalize U:(A.alloc (.cells (wl (zK 64 0)) 251)).alloc (.cells (wl (zK 64 0)) 251)=W;have fW:No A W:=by rw[<- U];exact ((Fr.refl _ _).alloc _).alloc _
 have h0:W.heap[A.heap.size]?=some (.cells (wl (zK 64 0)) 251 (0,0)):=by
  rw[<- U];exact qQs (qQb _ _)
 have h1:W.heap[A.heap.size+1]?=some (.cells (wl (wA m 0)) 251 (0,0)):=by
  rw[<- U,wA_zero];have:=qQb (A.alloc (.cells (wl (zK 64 0)) 251)) (.cells (wl (zK 64 0)) 251);rw[qQf]at this;exact this
 refine loopD [0,1,4,5,6] (wI1 A m A.heap.size at_ p) 16 ⟨0,by simp[upd],om,rfl,h0,h1,fW⟩ ?_;rintro _ vs w1 g ⟨i,rfl,hi,rfl,k0,R,V⟩
 by_cases I:i<16
 ·have B:=dTo ((i:Int)<16)
  subst hp
  have r:∀ j,j<4->rdO prog 5 w1 b (o+(at_+4*i+j))=some (u8 (m.getD (4*i+j) 0)):=fun j hj=>by
   have:=hm (4*i+j) om;exact rd_rc agg5 (by rw[V.rc (rc_lt this) id,Nat.add_assoc];exact this)
  have r0:=r 0 om;have r1:=r 1 om;have H:=r 2 om;have r3:=r 3 om;rw[yF,yF]at r0;have a0:IntKind.i64.wrap (4*(i:Int))=((4*i:Nat):Int):=i64mul (a:=4) (b:=i) om;have a1:IntKind.i64.wrap ((at_:Int)+((4*i:Nat):Int))=((at_+4*i:Nat):Int):=qXi;have b1:IntKind.i64.wrap (((at_+4*i:Nat):Int)+1)=((at_+4*i+1:Nat):Int):=qXi (b:=1);have b2:IntKind.i64.wrap (((at_+4*i:Nat):Int)+2)=((at_+4*i+2:Nat):Int):=qXi (b:=2);have b3:IntKind.i64.wrap (((at_+4*i:Nat):Int)+3)=((at_+4*i+3:Nat):Int):=qXi (b:=3);have c1:=iSu (i:=i);have Y:(0:Int)<=((at_+4*i:Nat):Int)/\((at_+4*i:Nat):Int)<(n:Int):=om
  have x1:(0:Int)<=((at_+4*i+1:Nat):Int)/\((at_+4*i+1:Nat):Int)<(n:Int):=om
  have Z:(0:Int)<=((at_+4*i+2:Nat):Int)/\((at_+4*i+2:Nat):Int)<(n:Int):=om
  have x3:(0:Int)<=((at_+4*i+3:Nat):Int)/\((at_+4*i+3:Nat):Int)<(n:Int):=om
  have x4:=iBd (i:=i) (n:=64);have a3:∀ z:W32,shlK .u32 (z.toNat:Int) 24=((z <<< 24).toNat:Int):=fun z=>shl32 z 24 om;have E:∀ z:W32,shlK .u32 (z.toNat:Int) 16=((z <<< 16).toNat:Int):=fun z=>shl32 z 16 om;have s8:∀ z:W32,shlK .u32 (z.toNat:Int) 8=((z <<< 8).toNat:Int):=fun z=>shl32 z 8 om;have q:=wr1 (P:=prog) (t:=34) (w:=w1.drew) (v:=u32 (word4 m (4*i))) (o:=i) sz34 rfl R (by rw[qZu,wA_len m om];omega);rw[wl_set,wA_set m om]at q;simp only[word4]at q;simp -implicitDefEqProofs only[go_sem,yJ,yY,B,a0,a1,b1,b2,b3,Y,x1,Z,x3,x4,and_self,iTn,yK,r0,r1,H,r3,ext8,a3,E,s8,or32,jO,c1,q];refine⟨16 - (i+1),om,i+1,rfl,om,rfl,qQi k0 om,qQd R,V.drew.put (b:=A.heap.size+1) _ fun h=>by omega⟩
 ·have B:=dFo ((i:Int)<16)
  have e:i=16:=om
  subst e;rw[wB_zero]at R;simp -implicitDefEqProofs only[go_sem,yJ,B];refine loopD [4,5,8] (wI2 A m A.heap.size) 48 ⟨0,by simp[upd],om,rfl,k0,R,V⟩ ?_;rintro _ vs w2 g2 ⟨i,rfl,hi,rfl,l0,J,f2⟩
  by_cases I:i<48
  ·have B:=dTo (((16+i:Nat):Int)<64)
   have sb:∀ c:Nat,c<=16->IntKind.i64.wrap (((16+i:Nat):Int) - (c:Int))=((16+i - c:Nat):Int):=fun c hc=>qXr om om;have s2:IntKind.i64.wrap (((16+i:Nat):Int) - 2)=((16+i - 2:Nat):Int):=sb 2 om;have s7:IntKind.i64.wrap (((16+i:Nat):Int) - 7)=((16+i - 7:Nat):Int):=sb 7 om;have a4:IntKind.i64.wrap (((16+i:Nat):Int) - 15)=((16+i - 15:Nat):Int):=sb 15 om;have E:IntKind.i64.wrap (((16+i:Nat):Int) - 16)=((16+i - 16:Nat):Int):=sb 16 om;have x:∀ c:Nat,c<=16->(0:Int)<=((16+i - c:Nat):Int)/\((16+i - c:Nat):Int)<((64:Nat):Int):=fun c hc=>by omega
   have Z:=x 2 om;have x7:=x 7 om;have a5:=x 15 om;have a6:=x 16 om;have Y:(0:Int)<=((16+i:Nat):Int)/\((16+i:Nat):Int)<((64:Nat):Int):=om
   have T:∀ c:Nat,0<c->c<=16->rdO prog 34 w2 (A.heap.size+1) (16+i - c)=some (u32 ((sch m i).getD (16+i - c) 0)):=fun c h0 hc =>
    rd1 agg34 J (wB_at m om om)
   have H:=T 2 om om;have r7:=T 7 om om;have M:=T 15 om om;have N:=T 16 om om;have c1:IntKind.i64.wrap (((16+i:Nat):Int)+1)=((16+(i+1):Nat):Int):=qXi (b:=1);have a7:∀ z:W32,shrK .u32 (z.toNat:Int) 10=((z >>> 10).toNat:Int):=fun z=>shr32 z 10 om;have h3:∀ z:W32,shrK .u32 (z.toNat:Int) 3=((z >>> 3).toNat:Int):=fun z=>shr32 z 3 om;have q:=wr1 (P:=prog) (t:=34) (w:=w2.drew.drew.drew) (v:=u32 (nextW (sch m i) (16+i))) (o:=16+i) sz34 rfl J (by rw[qZu,wB_len m hi];omega);rw[wl_set,wB_set m I]at q;simp only[nextW,low1,low0]at q;generalize (sch m i).getD (16+i - 2) 0=v2 at H q;generalize (sch m i).getD (16+i - 7) 0=v7 at r7 q;generalize (sch m i).getD (16+i - 15) 0=O at M q;generalize (sch m i).getD (16+i - 16) 0=a9 at N q;simp -implicitDefEqProofs only[go_sem,yJ,B];refine den_ext (fun j=>j == 4 || j == 9) [0,1,2,3,5,6,7,8,11,12,13,14,4,9,10,15,16,17] rfl x8 x8 ?_;simp -implicitDefEqProofs only[go_sem,yJ,s2,Z,and_self,iTn,yK,H];refine qXo pl188 ((turn _ v2 17 om).mono ?_);rintro _ _ ⟨rfl,rfl⟩;refine⟨fun _=>Ext.refl _,?_⟩;simp -implicitDefEqProofs only[go_sem,yJ];refine qXo pl188 ((turn _ v2 19 om).mono ?_);rintro _ _ ⟨rfl,rfl⟩;refine⟨fun _=>Ext.refl _,?_⟩;simp -implicitDefEqProofs only[go_sem,yJ,a7,xor32,jO];refine den_ext (fun j=>j == 4 || j == 9) [0,1,2,3,5,6,7,8,11,12,13,14,4,9,10,15,16,17] rfl x8 x8 ?_;simp -implicitDefEqProofs only[go_sem,yJ,a4,a5,and_self,iTn,yK,M];refine qXo pl188 ((turn _ O 7 om).mono ?_);rintro _ _ ⟨rfl,rfl⟩;refine⟨fun _=>Ext.refl _,?_⟩;simp -implicitDefEqProofs only[go_sem,yJ];refine qXo pl188 ((turn _ O 18 om).mono ?_);rintro _ _ ⟨rfl,rfl⟩
   refine⟨fun _=>Ext.refl _,?_⟩;simp -implicitDefEqProofs only[go_sem,yJ,yY,h3,xor32,jO,s7,E,x7,a6,Y,and_self,iTn,yK,r7,N,add32,q,c1];exact⟨48 - (i+1),om,i+1,rfl,om,rfl,qQi l0 om,qQd J,f2.drew.drew.drew.put (b:=A.heap.size+1) _ fun h=>by omega⟩
  ·have B:=dFo (((16+i:Nat):Int)<64)
   have e:i=48:=om
   subst e;rw[wB_full]at J;have r:=rds (P:=prog) (t:=251) (o:=0) (vs:=wl (words m)) agg251 sz251 J (by rw[qZu,qVl]) om fun i hi=>by rw[jY]
   have q:=qQr (P:=prog) (t:=251) (vs:=wl (words m)) (by rw[qZu,qVl];exact sz251) l0 (by rw[qZu,qZu,qVl];simp) (wl_one _);have H:=rds (P:=prog) (t:=251) (o:=0) (vs:=wl (words m)) agg251 sz251 (qQd (o:=.cells (wl (words m)) 251 (0,0)) l0) (by rw[qZu,qVl]) om fun i hi=>by rw[jY]
   simp -implicitDefEqProofs only[go_sem,yJ,B,r,q,H];exact f2.put (b:=A.heap.size) _ fun h=>absurd h (yU _)
structure Tabs (w:World):Prop where
 k1:∀ i,i<64->rc w 2 i=some (u32 (ktab.getD i 0))
 k2:∀ i,i<64->rc w 4 i=some (u32 (ktab.getD i 0))
 i1:∀ i,i<8->rc w 0 i=some (u32 (init.list.getD i 0))
 i2:∀ i,i<8->rc w 3 i=some (u32 (init.list.getD i 0))
theorem Tabs.fr (h:Tabs w)(k:Fr F w w')(A:∀ b,b<5->¬ F b):Tabs w' :=
 ⟨fun i hi=>by rw[k.rc (rc_lt (h.k1 i hi)) (A _ x9)];exact h.k1 i hi,fun i hi=>by rw[k.rc (rc_lt (h.k2 i hi)) (A _ x9)];exact h.k2 i hi,
  fun i hi=>by rw[k.rc (rc_lt (h.i1 i hi)) (A _ x9)];exact h.i1 i hi,fun i hi=>by rw[k.rc (rc_lt (h.i2 i hi)) (A _ x9)];exact h.i2 i hi⟩
theorem Tabs.no (h:Tabs w)(k:No w w'):Tabs w':=h.fr k fun _ _ h=>h
theorem Tabs.size (h:Tabs w):5<=w.heap.size:=rc_lt (h.k2 0 om)
def mixL (l s:List W32)(i:Nat):List W32:=(List.range 8).map fun j=>if j<i then l.getD j 0+s.getD j 0 else l.getD j 0
theorem qKi (l s:List W32)(i:Nat):(mixL l s i).length=8:=by simp[mixL]
theorem mixL_zero (t s:S8):mixL t.list s.list 0=t.list:=rfl
theorem mixL_all (t s:S8):mixL t.list s.list 8=(plus t s).list:=rfl
theorem mixL_getD (l s:List W32)(h:i<8):(mixL l s i).getD i 0=l.getD i 0:=by
 rw[qQt 0 (by rw[qKi];exact h)];simp[mixL]
theorem mixL_set (l s:List W32)(h:i<8):(mixL l s i).set i (l.getD i 0+s.getD i 0)=mixL l s (i+1):=by
 refine List.ext_getElem (by rw[List.length_set,qKi,qKi]) fun j H E=>?_;rw[qKi]at E;rw[List.getElem_set];simp only[mixL,List.getElem_map,yZ]
 by_cases A:i=j
 ·subst A;rw[if_pos rfl,if_pos om]
 ·rw[if_neg A]
  by_cases B:j<i
  ·rw[if_pos B,if_pos om]
  ·rw[if_neg B,if_neg om]
theorem plus_comm (s t:S8):plus s t=plus t s:=by simp only[plus,BitVec.add_comm]
theorem bld8i (a b c d e f g h:Int):bldO prog 250 [(0, .int .u32 a), (1, .int .u32 b), (2, .int .u32 c), (3, .int .u32 d), (4, .int .u32 e), (5, .int .u32 f), (6, .int .u32 g), (7, .int .u32 h)] =
  some (.agg #[.int .u32 a,.int .u32 b,.int .u32 c,.int .u32 d,.int .u32 e,.int .u32 f,.int .u32 g,.int .u32 h]):=by
 unfold bldO;rw[zero250,places250,arr250];simp[Instr.fill,yN,sz34]
theorem bld8 (a b c d e f g h:W32):bldO prog 250 [(0,u32 a),(1,u32 b),(2,u32 c),(3,u32 d),(4,u32 e),(5,u32 f),(6,u32 g),(7,u32 h)]=some (.agg (wl [a,b,c,d,e,f,g,h])):=bld8i _ _ _ _ _ _ _ _
def bI1 (E:World)(s:S8)(B:List W32)(A:Nat)(n:Nat)(vs:List Value)(w:World):Prop :=
 ∃ i,vs=[pt A 0,pt (A+1) 0,pt (A+1+1) 0,pt (A+1+1+1) 0,.int .i64 (i:Nat)]/\i<=64/\n=64 - i/\w.heap[A]?=some (.cells (wl s.list) 250 (0,0)) /\
  w.heap[A+1]?=some (.cells (wl B) 251 (0,0))/\w.heap[A+1+1]?=some (.cells (wl (zK 8 0)) 250 (0,0)) /\
  w.heap[A+1+1+1]?=some (.cells (wl (rnds B s i).list) 250 (0,0))/\No E w
def bI2 (B:World)(s t:S8)(A:Nat)(n:Nat)(vs:List Value)(w:World):Prop :=
 ∃ i,vs=[pt A 0,pt (A+1+1) 0,pt (A+1+1+1) 0,.int .i64 (i:Nat)]/\i<=8/\n=8 - i/\w.heap[A]?=some (.cells (wl s.list) 250 (0,0)) /\
  w.heap[A+1+1]?=some (.cells (wl (zK 8 0)) 250 (0,0)) /\
  w.heap[A+1+1+1]?=some (.cells (wl (mixL t.list s.list i)) 250 (0,0))/\No B w
theorem zero8:(#[.int .u32 0,.int .u32 0,.int .u32 0,.int .u32 0,.int .u32 0,.int .u32 0,.int .u32 0,.int .u32 0]:Array Value)=wl (zK 8 0):=rfl
theorem behind_ref (A:World)(ht:Tabs A)(s:S8)(B:List W32)(hl:B.length=64){T R:S8}(hT:rnds B s 64=T)(hR:plus s T=R) :
  Fn prog 167 #[.agg (wl s.list),.agg (wl B)] A fun v w'=>v=.agg (wl R.list)/\No A w':=by
 refine go167 sm ?_;have a0:No A (((A.alloc (.cells (wl s.list) 250)).alloc (.cells (wl B) 251)).alloc (.cells (wl (zK 8 0)) 250)):=(((Fr.refl _ _).alloc _).alloc _).alloc _;have e0:(((A.alloc (.cells (wl s.list) 250)).alloc (.cells (wl B) 251)).alloc (.cells (wl (zK 8 0)) 250)).heap[A.heap.size]?=some (.cells (wl s.list) 250 (0,0)):=qQs (qQs (qQb _ _))
 have e1:(((A.alloc (.cells (wl s.list) 250)).alloc (.cells (wl B) 251)).alloc (.cells (wl (zK 8 0)) 250)).heap[A.heap.size+1]?=some (.cells (wl B) 251 (0,0)):=by
  have:=qQb (A.alloc (.cells (wl s.list) 250)) (.cells (wl B) 251);rw[qQf]at this;exact qQs this
 have e2:(((A.alloc (.cells (wl s.list) 250)).alloc (.cells (wl B) 251)).alloc (.cells (wl (zK 8 0)) 250)).heap[A.heap.size+1+1]?=some (.cells (wl (zK 8 0)) 250 (0,0)):=by
  have:=qQb ((A.alloc (.cells (wl s.list) 250)).alloc (.cells (wl B) 251)) (.cells (wl (zK 8 0)) 250);rw[qQf,qQf]at this;exact this
 have z1:(((A.alloc (.cells (wl s.list) 250)).alloc (.cells (wl B) 251)).alloc (.cells (wl (zK 8 0)) 250)).heap.size=A.heap.size+1+1+1:=by
  rw[qQf,qQf,qQf]
 have Y:rdO prog 250 (((A.alloc (.cells (wl s.list) 250)).alloc (.cells (wl B) 251)).alloc (.cells (wl (zK 8 0)) 250)) A.heap.size 0=some (.agg (wl s.list)) :=
  rd_all agg250 sz250 e0
 have q0:wrO prog 250 ((((A.alloc (.cells (wl s.list) 250)).alloc (.cells (wl B) 251)).alloc (.cells (wl (zK 8 0)) 250)).alloc (.cells (wl (zK 8 0)) 250)) (A.heap.size+1+1+1) 0 (.agg (wl s.list)) =
   some (put ((((A.alloc (.cells (wl s.list) 250)).alloc (.cells (wl B) 251)).alloc (.cells (wl (zK 8 0)) 250)).alloc (.cells (wl (zK 8 0)) 250)) (A.heap.size+1+1+1) (.cells (wl s.list) 250 (0,0))):=by
  have:=qQb (((A.alloc (.cells (wl s.list) 250)).alloc (.cells (wl B) 251)).alloc (.cells (wl (zK 8 0)) 250)) (.cells (wl (zK 8 0)) 250);rw[z1]at this;exact qQr sz250 this rfl (wl_one _)
 simp -implicitDefEqProofs only[go_sem,yJ,Tryz.f167,yN,zero8];generalize ((A.alloc (.cells (wl s.list) 250)).alloc (.cells (wl B) 251)).alloc (.cells (wl (zK 8 0)) 250)=W at *;simp -implicitDefEqProofs only[go_sem,yJ,yN,zero8,Y,z1,q0]
 have n3:∀ x:Array Value,(put (W.alloc (.cells (wl (zK 8 0)) 250)) (A.heap.size+1+1+1) (.cells x 250 (0,0))).heap[A.heap.size+1+1+1]?=some (.cells x 250 (0,0)):=fun x =>
  qZh _ (by rw[qQf];omega)
 have a3:No A (put (W.alloc (.cells (wl (zK 8 0)) 250)) (A.heap.size+1+1+1) (.cells (wl s.list) 250 (0,0))):=(a0.alloc _).put (b:=A.heap.size+1+1+1) _ fun h=>by omega
 have i8:∀ k:Nat,k<8->(0:Int)<=(k:Int)/\(k:Int)<((8:Nat):Int):=fun k hk=>by omega
 have x0:(0:Int)<=0/\(0:Int)<((8:Nat):Int):=x9
 have x1:(0:Int)<=1/\(1:Int)<((8:Nat):Int):=x9
 have x2:(0:Int)<=2/\(2:Int)<((8:Nat):Int):=x9
 have x3:(0:Int)<=3/\(3:Int)<((8:Nat):Int):=x9
 have x4:(0:Int)<=4/\(4:Int)<((8:Nat):Int):=x9
 have x5:(0:Int)<=5/\(5:Int)<((8:Nat):Int):=x9
 have x6:(0:Int)<=6/\(6:Int)<((8:Nat):Int):=x9
 have x7:(0:Int)<=7/\(7:Int)<((8:Nat):Int):=x9
 refine loopD [2,3,4,5,6] (bI1 A s B A.heap.size) 64 ⟨0,by simp[upd],om,rfl,qQi (qQs e0) om,qQi (qQs e1) om,qQi (qQs e2) om,n3 _,a3⟩ ?_;rintro _ vs H g ⟨i,rfl,hi,rfl,k0,k1,k2,I,f1⟩
 by_cases E:i<64
 ·have M:=dTo ((i:Int)<64)
  have y:=iBd (i:=i) (n:=64)
  have rk:rdO prog 34 H 2 i=some (u32 (ktab.getD i 0)):=by
   have:=ht.k1 i E;exact rd_rc agg34 (by rw[f1.rc (rc_lt this) id];exact this)
  have O:rdO prog 34 H (A.heap.size+1) i=some (u32 (B.getD i 0)):=rd1 agg34 k1 (wl_at om);have Z:rnds B s (i+1)=rnd (rnds B s i) (ktab.getD i 0) (B.getD i 0):=rfl;have c1:=iSu (i:=i)
  have key:∀ J:World,J.heap=H.heap->∀ V:S8,wrO prog 250 J (A.heap.size+1+1+1) 0 (.agg (wl V.list))=some (put J (A.heap.size+1+1+1) (.cells (wl V.list) 250 (0,0))):=fun J h2 V =>
   qQr (c:=wl (rnds B s i).list) sz250 (by rw[h2];exact I) (by rw[qZu,qZu];rfl) (wl_one _)
  generalize ktab.getD i 0=kk at rk Z;generalize B.getD i 0=wk at O Z
  obtain⟨V,hV⟩:∃ V,V=rnds B s i:=⟨_,rfl⟩
  rw[<- hV]at I Z;have Y:rdO prog 34 H (A.heap.size+1+1+1) 0=some (u32 V.a):=rd1 agg34 I rfl;have r1:rdO prog 34 H (A.heap.size+1+1+1) 1=some (u32 V.b):=rd1 agg34 I rfl;have N:rdO prog 34 H (A.heap.size+1+1+1) 2=some (u32 V.c):=rd1 agg34 I rfl;have r3:rdO prog 34 H (A.heap.size+1+1+1) 3=some (u32 V.d):=rd1 agg34 I rfl;have r4:rdO prog 34 H (A.heap.size+1+1+1) 4=some (u32 V.e):=rd1 agg34 I rfl;have r5:rdO prog 34 H (A.heap.size+1+1+1) 5=some (u32 V.f):=rd1 agg34 I rfl;have r6:rdO prog 34 H (A.heap.size+1+1+1) 6=some (u32 V.g):=rd1 agg34 I rfl;have r7:rdO prog 34 H (A.heap.size+1+1+1) 7=some (u32 V.h):=rd1 agg34 I rfl;simp -implicitDefEqProofs only[go_sem,yJ,M];refine den_ext (fun j=>j == 2 || j == 5 || j == 9) [0,1,3,4,7,8,2,5,6,9,10,11] rfl x8 x8 ?_;simp -implicitDefEqProofs only[go_sem,yJ,x4,and_self,jI,yK,r4];refine qXo pl188 ((turn _ V.e 6 om).mono ?_);rintro _ _ ⟨rfl,rfl⟩;refine⟨fun _=>Ext.refl _,?_⟩;simp -implicitDefEqProofs only[go_sem,yJ];refine qXo pl188 ((turn _ V.e 11 om).mono ?_);rintro _ _ ⟨rfl,rfl⟩;refine⟨fun _=>Ext.refl _,?_⟩;simp -implicitDefEqProofs only[go_sem,yJ,xor32];refine qXo pl188 ((turn _ V.e 25 om).mono ?_);rintro _ _ ⟨rfl,rfl⟩;refine⟨fun _=>Ext.refl _,?_⟩;simp -implicitDefEqProofs only[go_sem,yJ,yY,xor32,and32,not32,add32,x4,x5,x6,x7,y,and_self,iTn,jI,yK,r4,r5,r6,r7,rk,O];refine den_ext (fun j=>j == 2 || j == 5 || j == 9) [0,1,3,4,7,8,2,5,6,9,10,11] rfl x8 x8 ?_;simp -implicitDefEqProofs only[go_sem,yJ,x0,and_self,jI,yV,Y];refine qXo pl188 ((turn _ V.a 2 om).mono ?_);rintro _ _ ⟨rfl,rfl⟩;refine⟨fun _=>Ext.refl _,?_⟩;simp -implicitDefEqProofs only[go_sem,yJ]
  refine qXo pl188 ((turn _ V.a 13 om).mono ?_);rintro _ _ ⟨rfl,rfl⟩;refine⟨fun _=>Ext.refl _,?_⟩;simp -implicitDefEqProofs only[go_sem,yJ,xor32];refine qXo pl188 ((turn _ V.a 22 om).mono ?_);rintro _ _ ⟨rfl,rfl⟩;refine⟨fun _=>Ext.refl _,?_⟩;simp -implicitDefEqProofs only[go_sem,yJ,yY,xor32,and32,add32,x0,x1,x2,x3,x4,x5,x6,and_self,jI,yK,yV,Y,r1,N,r3,r4,r5,r6,bld8];rw[show wl [V.h+(rotr V.e 6 ^^^ rotr V.e 11 ^^^ rotr V.e 25)+(V.e &&& V.f ^^^ ~~~V.e &&& V.g)+kk+wk+(rotr V.a 2 ^^^ rotr V.a 13 ^^^ rotr V.a 22)+(V.a &&& V.b ^^^ V.a &&& V.c ^^^ V.b &&& V.c),V.a,V.b,V.c,V.d+(V.h+(rotr V.e 6 ^^^ rotr V.e 11 ^^^ rotr V.e 25)+(V.e &&& V.f ^^^ ~~~V.e &&& V.g)+kk+wk),V.e,V.f,V.g]=wl (rnd V kk wk).list from rfl];rw[<- Z];simp -implicitDefEqProofs only[go_sem,yJ,key _ (show H.drew.drew.drew.heap=H.heap from rfl) (rnds B s (i+1)),c1];exact⟨64 - (i+1),om,i+1,rfl,om,rfl,qQi k0 om,qQi k1 om,qQi k2 om,qQd I,f1.drew.drew.drew.put (b:=A.heap.size+1+1+1) _ fun h=>by omega⟩
 ·have M:=dFo ((i:Int)<64)
  have e:i=64:=om
  subst e;simp -implicitDefEqProofs only[go_sem,yJ,M];rw[hT,<- mixL_zero T s]at I;refine loopD [2,4,5,12] (bI2 A s T A.heap.size) 8 ⟨0,by simp[upd],om,rfl,k0,k2,I,f1⟩ ?_;rintro _ vs J g2 ⟨i,rfl,hi,rfl,l0,l2,U,f2⟩
  by_cases E:i<8
  ·have M:=dTo ((i:Int)<8)
   have y:=i8 i E;have c1:=iSu (i:=i)
   have r1:rdO prog 34 J (A.heap.size+1+1+1) i=some (u32 (T.list.getD i 0)):=by
    rw[<- mixL_getD T.list s.list E];exact rd1 agg34 U (wl_at (by rw[qKi];exact E))
   have N:rdO prog 34 J A.heap.size i=some (u32 (s.list.getD i 0)):=rd1 agg34 l0 (wl_at E);have q:=wr1 (P:=prog) (t:=34) (w:=J.drew) (v:=u32 (T.list.getD i 0+s.list.getD i 0)) (o:=i) sz34 rfl U (by rw[qZu,qKi];exact E);rw[wl_set,mixL_set _ _ E]at q;generalize T.list.getD i 0=t1 at r1 q;generalize s.list.getD i 0=s1 at N q;simp -implicitDefEqProofs only[go_sem,yJ,yY,M,y,and_self,iTn,yK,r1,N,add32,q,c1];exact⟨8 - (i+1),om,i+1,rfl,om,rfl,qQi l0 om,qQi l2 om,qQd U,f2.drew.put (b:=A.heap.size+1+1+1) _ fun h=>by omega⟩
  ·have M:=dFo ((i:Int)<8)
   have e:i=8:=om
   subst e;rw[mixL_all,plus_comm,hR]at U;have r:=rds (P:=prog) (t:=250) (o:=0) (vs:=wl R.list) agg250 sz250 U rfl om fun i hi=>by rw[jY]
   have q:=qQr (P:=prog) (t:=250) (vs:=wl R.list) sz250 l2 rfl (wl_one _);have N:=rds (P:=prog) (t:=250) (o:=0) (vs:=wl R.list) agg250 sz250 (qQd (o:=.cells (wl R.list) 250 (0,0)) l2) rfl om fun i hi=>by rw[jY]
   simp -implicitDefEqProofs only[go_sem,yJ,M,r,q,N];exact f2.put (b:=A.heap.size+1+1) _ fun h=>by omega
theorem fill_min (n:Nat):∀ j,j<=fill n->((n+1+j) % 64=56 ↔ j=fill n):=fun j A=>by unfold fill at *;omega
theorem bd47 {n m:Nat}(h:n+m<=70368744177664):∀ cap,n<=cap->cap<n+m->Builtin.nextslicecap (n+m) cap*1<=2 ^ 48:=bd_small om
def fI1 (A:World)(msg:List Byte)(mv:Value)(n:Nat)(vs:List Value)(w:World):Prop :=
 ∃ j v,vs=[mv,v]/\j<=fill msg.length/\n=fill msg.length - j/\NwB A w v (msg++128::zK j 0)/\No A w
def fI2 (A:World)(msg:List Byte)(n:Nat)(vs:List Value)(w:World):Prop :=
 ∃ i v,vs=[v,.int .u64 ((zX 64 (8*msg.length)).toNat:Nat),.int .i64 (i:Nat)]/\i<=8/\n=8 - i/\NwB A w v (msg++128::zK (fill msg.length) 0++(len8 msg.length).take i)/\No A w
theorem shr64 (x:BitVec 64)(k:Nat)(A:k<=64):shrK .u64 (x.toNat:Int) (k:Int)=((x >>> k).toNat:Int):=by
 have e:shrK .u64 (x.toNat:Int) (k:Int)=(x.toNat:Int).fdiv (2 ^ (min ((k:Nat):Int).toNat 64)):=rfl;rw[e,iTn,Nat.min_eq_left A,BitVec.toNat_ushiftRight,Nat.shiftRight_eq_div_pow,fdivn]
theorem cut64 (x:BitVec 64):IntKind.u8.wrap (x.toNat:Int)=((x.setWidth 8).toNat:Int):=by
 rw[wrap_u8,BitVec.toNat_setWidth];generalize x.toNat=m;omega
theorem len8_len (n:Nat):(len8 n).length=8:=by simp[len8]
theorem len8_at (n:Nat)(h:i<8):(len8 n)[i]?=some (((zX 64 (8*n)) >>> (56 - 8*i)).setWidth 8):=by simp[len8,h]
theorem qKw {α:Type}{l:List α}{x:α}(h:l[i]?=some x):l.take i++[x]=l.take (i+1):=by
 rw[List.take_add_one,h];rfl
theorem filled_ref (B:World)(Y:By B mv msg)(hl:msg.length<=1099511627776) :
  Fn prog 165 #[mv] B fun v w'=>NwB B w' v (msg++pad msg.length)/\No B w':=by
 refine go165 sm ?_;simp only[go_sem,yJ,Tryz.f165];obtain⟨v1,I,J,b1,f1,_⟩:=(NwB.nil B B).cat app22_22 Y (bd47 (by simp;omega)) (by simp;omega) (Fr.refl _ _);refine qQj ⟨v1,I,J,?_⟩;simp only[go_sem];refine qQm (v:=.slice (some ⟨I.heap.size,0,none⟩) 1 1) (w':=I.alloc (.cells (bl [128]) 5)) rfl ?_;simp only[go_sem,yJ];obtain⟨Z,w2,M,b2,f2,_⟩:=b1.push app22_22 [128] (bd47 (by simp;omega)) (by simp;omega) f1;refine qQj ⟨Z,w2,M,?_⟩;simp only[go_sem];refine loopD [0,3] (fI1 B msg mv) (fill msg.length) ⟨0,Z,by simp[upd],om,rfl,b2,f2⟩ ?_;rintro _ vs w3 g ⟨j,v,rfl,hj,rfl,N,f3⟩;have a0:fill msg.length<64:=by unfold fill;omega
 have A:(msg++128::zK j 0).length=msg.length+1+j:=by simp;omega
 obtain⟨a,cap,rfl⟩:=N.slice;have e1:(((msg++128::zK j 0).length:Nat):Int).tmod 64=(((msg.length+1+j) % 64:Nat):Int):=by rw[A];rfl
 by_cases H:j<fill msg.length
 ·have E:((((msg.length+1+j) % 64:Nat):Int) != 56)=true:=by
   have:=(fill_min msg.length j hj).1;simp only[bne_iff_ne,ne_eq];intro h;have h':(msg.length+1+j) % 64=56:=by exact_mod_cast h
   have:=this h';omega
  have O:((64:Int)=0)=False:=sm
  obtain⟨v4,w4,R,b4,f4,_⟩:=N.push app22_22 [0] (bd47 (by rw[A];simp;omega)) (by rw[A];simp;omega) f3;simp only[go_sem,yJ,O,e1,E];refine qQm (v:=.slice (some ⟨w3.heap.size,0,none⟩) 1 1) (w':=w3.alloc (.cells (bl [0]) 5)) rfl ?_;simp only[go_sem,yJ];refine qQj ⟨v4,w4,R,?_⟩;simp only[go_sem,yJ];refine⟨fill msg.length - (j+1),om,j+1,v4,rfl,om,rfl,?_,f4⟩;rw[zJ,List.cons_append,<- List.replicate_succ']at b4;exact b4
 ·have ej:j=fill msg.length:=om
  have E:((((msg.length+1+j) % 64:Nat):Int) != 56)=false:=by
   have:=(fill_min msg.length j hj).2 ej;rw[this];rfl
  have O:((64:Int)=0)=False:=sm
  obtain⟨_,ma,mc,T,_⟩:=Y;have a1:IntKind.u64.wrap ((msg.length:Nat):Int)=((msg.length:Nat):Int):=by rw[qKv];omega
  have a2:IntKind.u64.wrap (((msg.length:Nat):Int)*8)=((zX 64 (8*msg.length)).toNat:Int):=by
   rw[qKv,zZ];omega
  subst T;simp only[go_sem,yJ,O,e1,E,a1,a2];refine loopD [3,4,5] (fI2 B msg) 8 ⟨0,_,rfl,om,rfl,by rw[j5,List.append_nil,<- ej];exact N,f3⟩ ?_;rintro _ vs w5 g5 ⟨i,v5,rfl,hi,rfl,U,f5⟩
  by_cases H:i<8
  ·have E:=dTo ((i:Int)<8)
   have c1:IntKind.i64.wrap (8*(i:Int))=((8*i:Nat):Int):=i64mul (a:=8) (b:=i) om;have c2:IntKind.i64.wrap (56 - ((8*i:Nat):Int))=((56 - 8*i:Nat):Int):=qXr (a:=56) (b:=8*i) om om;have c3:IntKind.u64.wrap ((56 - 8*i:Nat):Int)=((56 - 8*i:Nat):Int):=by rw[qKv];omega
   have c4:=iSu (i:=i);have n1:¬ (((56 - 8*i:Nat):Int)<0):=om
   have hx:=len8_at msg.length H
   have V:(msg++128::zK (fill msg.length) 0++(len8 msg.length).take i).length<=msg.length+200:=by
    simp[len8_len];omega
   obtain⟨v6,w6,W,b6,f6,_⟩:=U.push app22_22 [((zX 64 (8*msg.length)) >>> (56 - 8*i)).setWidth 8] (bd47 (by simp only[jJ];omega)) (by simp only[jJ];omega) f5;simp only[go_sem,yJ,E,c1,c2,c3,n1,shr64 _ _ (show 56 - 8*i<=64 by omega),cut64];refine qQm (v:=.slice (some ⟨w5.heap.size,0,none⟩) 1 1) (w':=w5.alloc (.cells (bl [((zX 64 (8*msg.length)) >>> (56 - 8*i)).setWidth 8]) 5)) rfl ?_;simp only[go_sem,yJ];refine qQj ⟨v6,w6,W,?_⟩;simp only[go_sem,yJ,c4];refine⟨8 - (i+1),om,i+1,v6,rfl,om,rfl,?_,f6⟩;rw[zJ,qKw hx]at b6;exact b6
  ·have E:=dFo ((i:Int)<8)
   have e:i=8:=om
   subst e;simp only[go_sem,yJ,E];refine⟨?_,f5⟩;rw[zG (by rw[len8_len];omega),zJ]at U;exact U
def outAt (s:S8)(i:Nat):Byte:=((s.list.getD (i / 4) 0) >>> (24 - 8*(i % 4))).setWidth 8
theorem out_at (s:S8):∀ i,i<32->(out s)[i]?=some (outAt s i):=fun i hi=>by
 match i,hi with
 | 0,_ | 1,_ | 2,_ | 3,_ | 4,_ | 5,_ | 6,_ | 7,_ | 8,_ | 9,_ | 10,_ | 11,_ | 12,_ | 13,_ | 14,_ | 15,_ | 16,_ | 17,_ | 18,_ | 19,_ | 20,_ | 21,_ | 22,_ | 23,_ | 24,_ | 25,_ | 26,_ | 27,_ | 28,_ | 29,_ | 30,_ | 31,_=>rfl
 | n+32,h=>exact absurd h om
theorem out_take (s:S8)(h:i<32):(padTo 0 32 ((out s).take i)).set i (outAt s i)=padTo 0 32 ((out s).take (i+1)):=by
 have A:((out s).take i).length=i:=by rw[lTk,qZx];omega
 have:=padTo_set (z:=(0:Byte)) (n:=32) (l:=(out s).take i) (outAt s i) om;rw[A]at this;rw[this,qKw (out_at s i h)]
def sI1 (E:World)(msg:List Byte)(H:Value)(len:Nat)(A B:Nat)(n:Nat)(vs:List Value)(w:World):Prop :=
 ∃ i,vs=[pt A 0,H,pt B 0,.int .i64 (64*i:Nat)]/\i<=len/\n=len - i/\w.heap[A]?=some (.cells (bl (zK 32 0)) 75 (0,0)) /\
  w.heap[B]?=some (.cells (wl (blocks i msg init).list) 250 (0,0))/\A<B/\E.heap.size<=A/\NwB E w H msg/\(∀ b,qQc H=some b->b≠A/\b≠B)/\No E w
def sI2 (B:World)(s:S8)(A E b2:Nat)(n:Nat)(vs:List Value)(w:World):Prop :=
 ∃ i,vs=[pt A 0,pt E 0,pt b2 0,.int .i64 (i:Nat)]/\i<=32/\n=32 - i/\w.heap[A]?=some (.cells (bl (zK 32 0)) 75 (0,0)) /\
  w.heap[E]?=some (.cells (wl s.list) 250 (0,0))/\w.heap[b2]?=some (.cells (bl (padTo 0 32 ((out s).take i))) 75 (0,0))/\A≠b2/\E≠b2/\B.heap.size<=A/\B.heap.size<=b2/\No B w
theorem Tabs.init1 (h:Tabs w):rdO prog 250 w 0 0=some (.agg (wl init.list)) :=
 rd_rcs agg250 sz250 rfl om fun i hi=>by rw[jY,h.i1 i hi,wl_at hi]
theorem Tabs.init2 (h:Tabs w):rdO prog 250 w 3 0=some (.agg (wl init.list)) :=
 rd_rcs agg250 sz250 rfl om fun i hi=>by rw[jY,h.i2 i hi,wl_at hi]
theorem blocks_succ (n:Nat)(l:List Byte)(s:S8):blocks (n+1) l s=comp (blocks n l s) ((l.drop (64*n)).take 64):=blocksF_succ comp n l s
theorem sum_blocks (msg:List Byte){L:Nat}(h:msg.length+(pad msg.length).length=64*L):Sha.sum msg=out (blocks L (msg++pad msg.length) init):=by
 unfold Sha.sum;rw[h,Nat.mul_div_cancel_left _ om]
theorem comp_is {s:S8}{T R:S8}(A:rnds (words m) s 64=T)(B:plus s T=R):comp s m=R:=by unfold comp;rw[A,B]
theorem sum_ref (A:World)(ht:Tabs A)(hm:By A mv msg)(hl:msg.length<=1099511627776) :
  Fn prog 132 #[mv] A fun v w'=>v=dg (Sha.sum msg)/\No A w':=by
 obtain⟨L,hL⟩:∃ L,msg.length+(pad msg.length).length=64*L:=⟨_,(yD (yH (pad_mod msg.length))).symm⟩
 rw[sum_blocks msg hL];have b7:(msg++pad msg.length).length=64*L:=by rw[lAp,hL]
 have c3:64*L<=1099511627776+200:=by
  rw[<- hL,pad_len];unfold fill;omega
 refine go132 sm ?_;simp only[go_sem,yJ,Tryz.f132,yN,qQk];have f1:No A (A.alloc (.cells (bl (zK 32 0)) 75)):=(Fr.refl _ _).alloc _;have h1:(A.alloc (.cells (bl (zK 32 0)) 75)).heap[A.heap.size]?=some (.cells (bl (zK 32 0)) 75 (0,0)):=qQb _ _;have z1:(A.alloc (.cells (bl (zK 32 0)) 75)).heap.size=A.heap.size+1:=qQf _ _;generalize A.alloc (.cells (bl (zK 32 0)) 75)=W1 at *;refine qQa pl165 ((filled_ref W1 (hm.fr0 f1) hl).mono ?_);rintro lv B ⟨b2,f2⟩;generalize msg++pad msg.length=P at *;have N:=f1.trans f2;have h2:=f2.at h1 id;have t2:Tabs B:=ht.no N;have q0:=qQr (P:=prog) (t:=250) (w:=B.alloc (.cells (wl (zK 8 0)) 250)) (vs:=wl init.list) sz250 (qQb _ _) rfl (wl_one _);simp only[go_sem,yJ,yN,zero8,t2.init1,q0]
 have b8:∀ b,qQc lv=some b->b≠A.heap.size/\b≠B.heap.size:=fun b hb=>by
  have h3:=b2.new b hb;have h4:=b2.own.lt hb;omega
 have e1:(put (B.alloc (.cells (wl (zK 8 0)) 250)) B.heap.size (.cells (wl init.list) 250 (0,0))).heap[A.heap.size]?=some (.cells (bl (zK 32 0)) 75 (0,0)) :=
  qQi (qQs h2) (by have:=qQh h2;omega)
 have e2:(put (B.alloc (.cells (wl (zK 8 0)) 250)) B.heap.size (.cells (wl init.list) 250 (0,0))).heap[B.heap.size]?=some (.cells (wl init.list) 250 (0,0)) :=
  qQd (qQb _ _)
 have e3:NwB A (put (B.alloc (.cells (wl (zK 8 0)) 250)) B.heap.size (.cells (wl init.list) 250 (0,0))) lv P:=by
  have b3:NwB A B lv P:=Nw.back b2 om;exact b3.fr0 (((Fr.refl _ _).alloc _).put (b:=B.heap.size) _ fun h=>absurd h (yU _))
 have f3:No A (put (B.alloc (.cells (wl (zK 8 0)) 250)) B.heap.size (.cells (wl init.list) 250 (0,0))) :=
  (N.alloc _).put (b:=B.heap.size) _ fun h=>by have:=N.size;omega
 refine loopD [2,3,4,5] (sI1 A P lv L A.heap.size B.heap.size) L ⟨0,rfl,om,rfl,e1,e2,by have:=qQh h2;omega,xC _,e3,b8,f3⟩ ?_;rintro _ vs W g ⟨i,rfl,hi,rfl,k0,Z,a0,a7,bw,hne,f4⟩;clear e1 e2 e3 f3 q0 h2 b2 t2
 obtain⟨a,cap,rfl,a8,a9⟩:=NwB.by bw |>.at
 rw[b7]at a8
 by_cases O:i<L
 ·have U:=dTo (((64*i:Nat):Int)<((P.length:Nat):Int))
  obtain⟨b,o,rfl,_⟩:=a9 0 om
  have b0:∀ j,j<64->rc W b (o+(64*i+j))=some (u8 (((P.drop (64*i)).take 64).getD j 0)):=fun j hj=>by
   obtain⟨b',o',e,h'⟩:=a9 (64*i+j) om;cases e;rw[h',qQt 0 (by rw[lTk,lDr];omega)]
   simp
  have c1:IntKind.i64.wrap (((64*i:Nat):Int)+64)=((64*(i+1):Nat):Int):=by rw[qQq om om];omega
  have V:=blocks_succ i P init;generalize (P.drop (64*i)).take 64=m at b0 V;simp only[go_sem,yJ,U];refine qQa pl166 ((words_ref W (n:=P.length) (cap:=cap) (at_:=64*i) (m:=m) om om b0).mono ?_);rintro _ E ⟨rfl,M⟩;have H:(words m).length=64:=qVl m;generalize b9:words m=I at H;have q1:=qQr (P:=prog) (t:=251) (w:=E.alloc (.cells (wl (zK 64 0)) 251)) (vs:=wl I) (by rw[qZu,H];exact sz251) (qQb _ _) (by rw[qZu,qZu,H];simp) (wl_one _)
  have J:(put (E.alloc (.cells (wl (zK 64 0)) 251)) E.heap.size (.cells (wl I) 251 (0,0))).heap[B.heap.size]?=some (.cells (wl (blocks i P init).list) 250 (0,0)) :=
   qQi (qQs (M.at Z id)) (by have:=qQh (M.at Z id);omega)
  have c0:(put (E.alloc (.cells (wl (zK 64 0)) 251)) E.heap.size (.cells (wl I) 251 (0,0))).heap[A.heap.size]?=some (.cells (bl (zK 32 0)) 75 (0,0)) :=
   qQi (qQs (M.at k0 id)) (by have:=qQh (M.at k0 id);omega)
  have Y:No W (put (E.alloc (.cells (wl (zK 64 0)) 251)) E.heap.size (.cells (wl I) 251 (0,0))):=(M.alloc _).put (b:=E.heap.size) _ fun h=>by have:=M.size;omega
  obtain⟨S,hS⟩:∃ S,S=blocks i P init:=⟨_,rfl⟩
  rw[<- hS]at J V;have r1:=rds (P:=prog) (t:=250) (o:=0) (vs:=wl S.list) agg250 sz250 J rfl om fun i hi=>by rw[jY]
  have r2:=rds (P:=prog) (t:=251) (o:=0) (vs:=wl I) agg251 sz251 (qQd (o:=.cells (wl I) 251 (0,0)) (qQb E (.cells (wl (zK 64 0)) 251))) (by rw[qZu,H]) om fun i hi=>by rw[jY]
  simp only[go_sem,yJ,yN,wl_zero,q1,r1,r2];generalize put (E.alloc (.cells (wl (zK 64 0)) 251)) E.heap.size (.cells (wl I) 251 (0,0))=w6 at *
  obtain⟨T,hT⟩:∃ T,rnds I S 64=T:=⟨_,rfl⟩
  obtain⟨R,hR⟩:∃ R,plus S T=R:=⟨_,rfl⟩
  have hc:blocks (i+1) P init=R:=by rw[V];exact comp_is (by rw[b9];exact hT) hR
  refine qQa pl167 ((behind_ref w6 (ht.no (f4.trans Y)) S I H hT hR).mono ?_);rintro _ w7 ⟨rfl,f7⟩;have q2:=qQr (P:=prog) (t:=250) (vs:=wl R.list) sz250 (f7.at J id) rfl (wl_one _);simp only[go_sem,yJ,q2,c1];refine⟨L - (i+1),om,i+1,rfl,om,rfl,qQi (f7.at c0 id) om,by rw[hc];exact qQd (f7.at J id),a0,a7,?_,hne,?_⟩
  ·exact (bw.fr0 (Y.trans f7)).fr (((Fr.refl (fun b=>b=B.heap.size) w7)).put _ fun _=>rfl) fun b hb=>(hne b hb).2
  ·exact ((f4.trans Y).trans f7).put (b:=B.heap.size) _ fun h=>by omega
 ·have U:=dFo (((64*i:Nat):Int)<((P.length:Nat):Int))
  have e:i=L:=om
  subst e;simp only[go_sem,yJ,U,yN,qQk]
  obtain⟨S,hS⟩:∃ S,S=blocks i P init:=⟨_,rfl⟩
  rw[<- hS]at Z ⊢;have M:No A (W.alloc (.cells (bl (zK 32 0)) 75)):=f4.alloc _;refine loopD [2,4,7,8] (sI2 A S A.heap.size B.heap.size W.heap.size) 32 ⟨0,rfl,om,rfl,qQs k0,qQs Z,by rw[j5,padTo_nil];exact qQb _ _,by have:=qQh k0;omega,by have:=qQh Z;omega,a7,by have:=f4.size;omega,M⟩ ?_;rintro _ vs w6 g2 ⟨j,rfl,hj,rfl,l0,l1,l2,b1,b4,b5,b6,Y⟩
  by_cases O:j<32
  ·have U:=dTo ((j:Int)<32)
   have a1:IntKind.i64.wrap ((j:Int).tdiv 4)=((j / 4:Nat):Int):=by
    rw[show (j:Int).tdiv 4=((j / 4:Nat):Int) from rfl];exact i64n
   have a2:(j:Int).tmod 4=((j % 4:Nat):Int):=rfl;have a3:IntKind.i64.wrap (8*((j % 4:Nat):Int))=((8*(j % 4):Nat):Int):=i64mul (a:=8) (b:=j % 4) om;have a4:IntKind.i64.wrap (24 - ((8*(j % 4):Nat):Int))=((24 - 8*(j % 4):Nat):Int):=qXr (a:=24) (b:=8*(j % 4)) om om;have a5:IntKind.u64.wrap ((24 - 8*(j % 4):Nat):Int)=((24 - 8*(j % 4):Nat):Int):=by rw[qKv];omega
   have a6:=iSu (i:=j);have n1:¬ (((24 - 8*(j % 4):Nat):Int)<0):=om
   have n0:((4:Int)=0)=False:=sm
   have x1:(0:Int)<=((j / 4:Nat):Int)/\((j / 4:Nat):Int)<((8:Nat):Int):=om
   have x2:=iBd (i:=j) (n:=32);have r1:rdO prog 34 w6 B.heap.size (j / 4)=some (u32 (S.list.getD (j / 4) 0)):=rd1 agg34 l1 (wl_at (show j / 4<8 by omega));have q:=wr1 (P:=prog) (t:=5) (v:=u8 (outAt S j)) (o:=j) sz5 rfl l2 (by rw[qXj,qZn (by rw[lTk,qZx];omega)];exact O);rw[bl_set,out_take S O]at q;unfold outAt at q;generalize S.list.getD (j / 4) 0=t1 at r1 q;simp only[go_sem,yJ,U,n0,n1,x1,x2,and_self,iTn,yK,r1,shr32 _ _ (show 24 - 8*(j % 4)<=32 by omega),cut32,q,a1,a2,a3,a4,a5,a6];exact⟨32 - (j+1),om,j+1,rfl,om,rfl,qQi l0 b1.symm,qQi l1 b4.symm,qQd l2,b1,b4,b5,b6,Y.put (b:=W.heap.size) _ fun h=>by omega⟩
  ·have U:=dFo ((j:Int)<32)
   have e:j=32:=om
   subst e;rw[zG (by rw[qZx];omega),padTo_full (qZx S)]at l2;have r:=rds (P:=prog) (t:=75) (o:=0) (vs:=bl (out S)) agg75 sz75 l2 (by rw[qXj,qZx]) om fun i hi=>by rw[jY]
   have q:=qQr (P:=prog) (t:=75) (vs:=bl (out S)) (by rw[qXj,qZx];exact sz75) l0 (by rw[qXj,qXj,qZx];simp) (bl_one _);have r2:=rds (P:=prog) (t:=75) (o:=0) (vs:=bl (out S)) agg75 sz75 (qQd (o:=.cells (bl (out S)) 75 (0,0)) l0) (by rw[qXj,qZx]) om fun i hi=>by rw[jY]
   simp only[go_sem,yJ,U,r,q,r2];exact Y.put (b:=A.heap.size) _ fun h=>absurd h (yU _)
section
def hC (L:List W32)(r:List Byte)(n t:Nat):Array Value:=(L.map u32++(r.map u8++[Value.int .i64 (n:Nat),Value.int .u64 (t:Nat)])).toArray
section
variable {L:List W32} {r:List Byte} {n t:Nat}
theorem qZq:(hC L r n t).size=L.length+r.length+2:=by simp[hC];omega
theorem hC_w (h:i<L.length):(hC L r n t)[i]?=some (u32 (L.getD i 0)):=by
 rw[hC,xI,zR (by simpa using h),j6,xE h,qK,qQt _ h]
theorem hC_b (A:L.length=8)(h:j<r.length):(hC L r n t)[8+j]?=some (u8 (r.getD j 0)):=by
 rw[hC,xI,z4 (by simp;omega),zB,A,Nat.add_sub_cancel_left,zR (by simpa using h),j6,xE h,qK,qQt _ h]
theorem hC_n (A:L.length=8)(B:r.length=64):(hC L r n t)[72]?=some (.int .i64 (n:Nat)):=by
 rw[hC,xI,z4 (by simp;omega),zB,A,z4 (by simp;omega),zB,B];rfl
theorem hC_t (A:L.length=8)(B:r.length=64):(hC L r n t)[73]?=some (.int .u64 (t:Nat)):=by
 rw[hC,xI,z4 (by simp;omega),zB,A,z4 (by simp;omega),zB,B];rfl
theorem hC_setw (i:Nat)(x:W32)(h:i<L.length):(hC L r n t).setIfInBounds i (u32 x)=hC (L.set i x) r n t:=by
 unfold hC;rw[j8,List.set_append_left _ _ (by simpa using h),List.map_set]
theorem hC_setn (A:L.length=8)(B:r.length=64)(k:Nat):(hC L r n t).setIfInBounds 72 (.int .i64 (k:Nat))=hC L r k t:=by
 unfold hC;rw[j8,j7 _ _ (by simp;omega),zB,A,j7 _ _ (by simp;omega),zB,B];rfl
theorem hC_sett (A:L.length=8)(B:r.length=64)(k:Nat):(hC L r n t).setIfInBounds 73 (.int .u64 (k:Nat))=hC L r n k:=by
 unfold hC;rw[j8,j7 _ _ (by simp;omega),zB,A,j7 _ _ (by simp;omega),zB,B];rfl
theorem hC_store (A:L.length=8)(bs:List Byte)(k:Nat)(h:k+bs.length<=r.length):qXz (bs.map u8) (8+k) (hC L r n t)=hC L (r.take k++bs++r.drop (k+bs.length)) n t:=by
 apply Array.toList_inj.1;rw[qJm _ _ _ (by rw[qZq,zB];omega),zB];unfold hC;simp only[List.map_append,yX,List.map_drop];rw[List.take_append,List.drop_append];simp only[zB,A];rw[zG (by simp;omega),show 8+k - 8=k by omega,show 8+k+bs.length - 8=k+bs.length by omega,zT (l:=List.map u32 L) (by simp;omega)];rw[zF (by simp;omega),zM (by simp;omega)];simp only[zL,zJ]
end
def pI1 (A:World)(m:List Byte)(hb:Nat)(c:Array Value)(pv:Value)(n:Nat)(vs:List Value)(w:World):Prop :=
 ∃ i,vs=[pt hb 0,pv,pt A.heap.size 0,.int .i64 (i:Nat)]/\i<=16/\n=16 - i/\w.heap[hb]?=some (.cells c 265 (0,0)) /\
  w.heap[A.heap.size]?=some (.cells (wl (wA m i)) 251 (0,0))/\No A w
def pI2 (A:World)(m:List Byte)(hb:Nat)(c:Array Value)(n:Nat)(vs:List Value)(w:World):Prop :=
 ∃ i,vs=[pt hb 0,pt A.heap.size 0,.int .i64 (16+i:Nat)]/\i<=48/\n=48 - i/\w.heap[hb]?=some (.cells c 265 (0,0)) /\
  w.heap[A.heap.size]?=some (.cells (wl (wB m i)) 251 (0,0))/\No A w
def pI3 (A:World)(B:List W32)(s:S8)(hb:Nat)(c:Array Value)(n:Nat)(vs:List Value)(w:World):Prop :=
 ∃ (i:Nat) (V:S8),V=rnds B s i/\vs=[pt hb 0,pt A.heap.size 0,u32 V.a,u32 V.b,u32 V.c,u32 V.d,u32 V.e,u32 V.f,u32 V.g,u32 V.h,.int .i64 (i:Nat)]/\i<=64/\n=64 - i/\w.heap[hb]?=some (.cells c 265 (0,0)) /\
  w.heap[A.heap.size]?=some (.cells (wl B) 251 (0,0))/\No A w
def pI4 (A:World)(s T:S8)(hb:Nat)(r:List Byte)(k t:Nat)(n:Nat)(vs:List Value)(w:World):Prop :=
 ∃ i,vs=[pt hb 0,.agg (wl T.list),.int .i64 (i:Nat)]/\i<=8/\n=8 - i/\w.heap[hb]?=some (.cells (hC (mixL s.list T.list i) r k t) 265 (0,0))/\Fr (fun b=>b=hb) A w
theorem step (B:World)(ht:Tabs B){s:S8}{k t:Nat}(hh:B.heap[hb]?=some (.cells (hC s.list r k t) 265 (0, 0)))
  {b o O cap:Nat} (b6:64<=O) (hm:∀ j,j<64->rc B b (o+j)=some (u8 (m.getD j 0))) {N:List W32} {T R:S8} (a3:words m=N) (hT:rnds N s 64=T) (hR:plus s T=R) :
  Fn prog 195 #[pt hb 0,.slice (some ⟨b,o,none⟩) O cap] B fun v w'=>v=.tuple #[]/\w'.heap[hb]?=some (.cells (hC R.list r k t) 265 (0,0))/\Fr (fun b=>b=hb) B w':=by
 have b7:N.length=64:=by rw[<- a3];exact qVl m
 have b8:=qQh hh;refine go195 sm ?_;generalize hp:Value.slice (some ⟨b,o,none⟩) O cap=p;simp -implicitDefEqProofs only[go_sem,Tryz.f195,yN,wl_zero];have f1:No B (B.alloc (.cells (wl (zK 64 0)) 251)):=(Fr.refl _ _).alloc _;refine loopD [0,1,4,24] (pI1 B m hb (hC s.list r k t) p) 16 ⟨0,rfl,om,rfl,qQs hh,by rw[wA_zero];exact qQb _ _,f1⟩ ?_;rintro _ vs w1 g ⟨i,rfl,hi,rfl,k0,U,f1⟩
 by_cases A:i<16
 ·have E:=dTo ((i:Int)<16)
  subst hp
  have I:∀ j,j<4->rdO prog 5 w1 b (o+(4*i+j))=some (u8 (m.getD (4*i+j) 0)):=fun j hj=>by
   have:=hm (4*i+j) om;exact rd_rc agg5 (by rw[f1.rc (rc_lt this) id];exact this)
  have r0:=I 0 om;have W:=I 1 om;have Y:=I 2 om;have r3:=I 3 om;rw[yF]at r0;have a0:IntKind.i64.wrap (4*(i:Int))=((4*i:Nat):Int):=i64mul (a:=4) (b:=i) om;have b1:IntKind.i64.wrap (((4*i:Nat):Int)+1)=((4*i+1:Nat):Int):=qXi (b:=1);have b2:IntKind.i64.wrap (((4*i:Nat):Int)+2)=((4*i+2:Nat):Int):=qXi (b:=2);have b3:IntKind.i64.wrap (((4*i:Nat):Int)+3)=((4*i+3:Nat):Int):=qXi (b:=3);have c1:=iSu (i:=i);have x0:(0:Int)<=((4*i:Nat):Int)/\((4*i:Nat):Int)<(O:Int):=om
  have x1:(0:Int)<=((4*i+1:Nat):Int)/\((4*i+1:Nat):Int)<(O:Int):=om
  have x2:(0:Int)<=((4*i+2:Nat):Int)/\((4*i+2:Nat):Int)<(O:Int):=om
  have x3:(0:Int)<=((4*i+3:Nat):Int)/\((4*i+3:Nat):Int)<(O:Int):=om
  have x4:=iBd (i:=i) (n:=64);have a8:∀ z:W32,shlK .u32 (z.toNat:Int) 24=((z <<< 24).toNat:Int):=fun z=>shl32 z 24 om;have Z:∀ z:W32,shlK .u32 (z.toNat:Int) 16=((z <<< 16).toNat:Int):=fun z=>shl32 z 16 om;have s8:∀ z:W32,shlK .u32 (z.toNat:Int) 8=((z <<< 8).toNat:Int):=fun z=>shl32 z 8 om;have q:=wr1 (P:=prog) (t:=34) (w:=w1.drew) (v:=u32 (word4 m (4*i))) (o:=i) sz34 rfl U (by rw[qZu,wA_len m om];omega);rw[wl_set,wA_set m om]at q;simp only[word4]at q;simp -implicitDefEqProofs only[go_sem,yJ,yY,E,a0,b1,b2,b3,x0,x1,x2,x3,x4,and_self,iTn,yK,r0,W,Y,r3,ext8,a8,Z,s8,or32,jO,c1,q];exact⟨16 - (i+1),om,i+1,rfl,om,rfl,qQi k0 om,qQd U,f1.drew.put (b:=B.heap.size) _ fun h=>absurd h (yU _)⟩
 clear hm hp;have E:=dFo ((i:Int)<16);have e:i=16:=om
 subst e;rw[wB_zero]at U;simp -implicitDefEqProofs only[go_sem,yJ,E];refine loopD [0,4,6] (pI2 B m hb (hC s.list r k t)) 48 ⟨0,rfl,om,rfl,k0,U,f1⟩ ?_;rintro _ vs H g2 ⟨i,rfl,hi,rfl,J,l1,f2⟩
 by_cases A:i<48
 ·have E:=dTo (((16+i:Nat):Int)<64)
  have sb:∀ c:Nat,c<=16->IntKind.i64.wrap (((16+i:Nat):Int) - (c:Int))=((16+i - c:Nat):Int):=fun c hc=>qXr om om;have s2:IntKind.i64.wrap (((16+i:Nat):Int) - 2)=((16+i - 2:Nat):Int):=sb 2 om;have s7:IntKind.i64.wrap (((16+i:Nat):Int) - 7)=((16+i - 7:Nat):Int):=sb 7 om;have a9:IntKind.i64.wrap (((16+i:Nat):Int) - 15)=((16+i - 15:Nat):Int):=sb 15 om;have Z:IntKind.i64.wrap (((16+i:Nat):Int) - 16)=((16+i - 16:Nat):Int):=sb 16 om;have x:∀ c:Nat,c<=16->(0:Int)<=((16+i - c:Nat):Int)/\((16+i - c:Nat):Int)<((64:Nat):Int):=fun c hc=>by omega
  have x2:=x 2 om;have x7:=x 7 om;have b0:=x 15 om;have b4:=x 16 om;have x0:(0:Int)<=((16+i:Nat):Int)/\((16+i:Nat):Int)<((64:Nat):Int):=om
  have I:∀ c:Nat,0<c->c<=16->rdO prog 34 H B.heap.size (16+i - c)=some (u32 ((sch m i).getD (16+i - c) 0)):=fun c h0 hc =>
   rd1 agg34 l1 (wB_at m om om)
  have Y:=I 2 om om;have r7:=I 7 om om;have a4:=I 15 om om;have a5:=I 16 om om;have c1:IntKind.i64.wrap (((16+i:Nat):Int)+1)=((16+(i+1):Nat):Int):=qXi (b:=1);have b5:∀ z:W32,shrK .u32 (z.toNat:Int) 10=((z >>> 10).toNat:Int):=fun z=>shr32 z 10 om;have h3:∀ z:W32,shrK .u32 (z.toNat:Int) 3=((z >>> 3).toNat:Int):=fun z=>shr32 z 3 om;have q:=wr1 (P:=prog) (t:=34) (w:=H.drew.drew) (v:=u32 (nextW (sch m i) (16+i))) (o:=16+i) sz34 rfl l1 (by rw[qZu,wB_len m hi];omega);rw[wl_set,wB_set m A]at q;simp only[nextW,low1,low0]at q;generalize (sch m i).getD (16+i - 2) 0=v2 at Y q;generalize (sch m i).getD (16+i - 7) 0=v7 at r7 q;generalize (sch m i).getD (16+i - 15) 0=a6 at a4 q;generalize (sch m i).getD (16+i - 16) 0=b9 at a5 q;simp -implicitDefEqProofs only[go_sem,yJ,yY,E,s2,x2,a9,b0,and_self,iTn,yK,Y,a4];refine qQa pl198 ((rotl _ v2 17 om om).mono ?_);rintro _ _ ⟨rfl,rfl⟩;simp -implicitDefEqProofs only[go_sem,yJ];refine qQa pl198 ((rotl _ v2 19 om om).mono ?_);rintro _ _ ⟨rfl,rfl⟩;simp -implicitDefEqProofs only[go_sem,yJ,xor32,b5,jO];refine qQa pl198 ((rotl _ a6 7 om om).mono ?_);rintro _ _ ⟨rfl,rfl⟩;simp -implicitDefEqProofs only[go_sem,yJ];refine qQa pl198 ((rotl _ a6 18 om om).mono ?_);rintro _ _ ⟨rfl,rfl⟩;simp -implicitDefEqProofs only[go_sem,yJ,yY,xor32,h3,jO,s7,Z,x7,b4,x0,and_self,iTn,yK,r7,a5,add32,q,c1];exact⟨48 - (i+1),om,i+1,rfl,om,rfl,qQi J om,qQd l1,f2.drew.drew.put (b:=B.heap.size) _ fun h=>absurd h (yU _)⟩
 have E:=dFo (((16+i:Nat):Int)<64);have e:i=48:=om
 subst e;rw[wB_full,a3]at l1;have x0:(0:Int)<=0/\(0:Int)<((8:Nat):Int):=x9
 have x1:(0:Int)<=1/\(1:Int)<((8:Nat):Int):=x9
 have x2:(0:Int)<=2/\(2:Int)<((8:Nat):Int):=x9
 have x3:(0:Int)<=3/\(3:Int)<((8:Nat):Int):=x9
 have x4:(0:Int)<=4/\(4:Int)<((8:Nat):Int):=x9
 have x5:(0:Int)<=5/\(5:Int)<((8:Nat):Int):=x9
 have x6:(0:Int)<=6/\(6:Int)<((8:Nat):Int):=x9
 have x7:(0:Int)<=7/\(7:Int)<((8:Nat):Int):=x9
 have M:∀ j,j<8->rdO prog 34 H hb j=some (u32 (s.list.getD j 0)):=fun j hj=>rd1 agg34 J (hC_w hj);have r0:rdO prog 34 H hb 0=some (u32 s.a):=M 0 om;have W:rdO prog 34 H hb 1=some (u32 s.b):=M 1 om;have Y:rdO prog 34 H hb 2=some (u32 s.c):=M 2 om;have r3:rdO prog 34 H hb 3=some (u32 s.d):=M 3 om;have r4:rdO prog 34 H hb 4=some (u32 s.e):=M 4 om;have r5:rdO prog 34 H hb 5=some (u32 s.f):=M 5 om;have r6:rdO prog 34 H hb 6=some (u32 s.g):=M 6 om;have r7:rdO prog 34 H hb 7=some (u32 s.h):=M 7 om;simp -implicitDefEqProofs only[go_sem,yJ,yY,E,x0,x1,x2,x3,x4,x5,x6,x7,and_self,jI,yK,yV,r0,W,Y,r3,r4,r5,r6,r7];refine loopD [0,4,11,12,13,14,15,16,17,18,146] (pI3 B N s hb (hC s.list r k t)) 64 ⟨0,s,rfl,rfl,om,rfl,J,l1,f2.drew⟩ ?_;rintro _ vs w3 g3 ⟨i,V,hV,rfl,hi,rfl,k0,U,f3⟩;clear r0 W Y r3 r4 r5 r6 r7 M
 by_cases A:i<64
 ·have E:=dTo ((i:Int)<64)
  have y:=iBd (i:=i) (n:=64)
  have rk:rdO prog 34 w3 4 i=some (u32 (ktab.getD i 0)):=by
   have:=ht.k2 i A;exact rd_rc agg34 (by rw[f3.rc (rc_lt this) id];exact this)
  have a7:rdO prog 34 w3 B.heap.size i=some (u32 (N.getD i 0)):=rd1 agg34 U (wl_at om);have hr:rnds N s (i+1)=rnd V (ktab.getD i 0) (N.getD i 0):=by rw[hV];rfl
  have c1:=iSu (i:=i);clear hV;generalize ktab.getD i 0=kk at rk hr;generalize N.getD i 0=wk at a7 hr;simp -implicitDefEqProofs only[go_sem,yJ,E];refine den_ext (fun j=>j == 2 || j == 4 || j == 7) [18,19,20,22,23,24,0,1,2,3,4,5,6,7,8,9,10,11,12,13,14,15,16,17,21,25,26] rfl x8 x8 ?_;simp -implicitDefEqProofs only[go_sem,yJ,y,and_self,iTn,yK,rk,a7];refine qXo pl198 ((rotl _ V.e 6 om om).mono ?_);rintro _ _ ⟨rfl,rfl⟩;refine⟨fun _=>Ext.refl _,?_⟩;simp -implicitDefEqProofs only[go_sem,yJ];refine qXo pl198 ((rotl _ V.e 11 om om).mono ?_);rintro _ _ ⟨rfl,rfl⟩;refine⟨fun _=>Ext.refl _,?_⟩;simp -implicitDefEqProofs only[go_sem,yJ,xor32];refine qXo pl198 ((rotl _ V.e 25 om om).mono ?_);rintro _ _ ⟨rfl,rfl⟩;refine⟨fun _=>Ext.refl _,?_⟩;simp -implicitDefEqProofs only[go_sem,yJ,xor32,and32,add32];refine qQa pl198 ((rotl _ V.a 2 om om).mono ?_);rintro _ _ ⟨rfl,rfl⟩;simp -implicitDefEqProofs only[go_sem,yJ];refine qQa pl198 ((rotl _ V.a 13 om om).mono ?_);rintro _ _ ⟨rfl,rfl⟩;simp -implicitDefEqProofs only[go_sem,yJ,xor32];refine qQa pl198 ((rotl _ V.a 22 om om).mono ?_);rintro _ _ ⟨rfl,rfl⟩;simp -implicitDefEqProofs only[go_sem,yJ,xor32,and32,or32,add32,c1];refine⟨64 - (i+1),om,i+1,rnd V kk wk,hr.symm,?_,om,rfl,k0,U,f3.drew⟩;have e1:V.h+(rotr V.e 6 ^^^ rotr V.e 11 ^^^ rotr V.e 25)+(V.g ^^^ (V.e &&& (V.f ^^^ V.g)))+kk+wk=Sha.one V kk wk:=by rw[pick_eq];rfl
  have e2:(rotr V.a 2 ^^^ rotr V.a 13 ^^^ rotr V.a 22)+(V.a &&& V.b ||| V.c &&& (V.a ||| V.b))=high0 V.a+most V.a V.b V.c:=by rw[most_eq];rfl
  rw[e1,e2,rnd_a]
  rfl
 have E:=dFo ((i:Int)<64);have e:i=64:=om
 subst e;rw[hT]at hV;subst hV;rw[<- mixL_zero s V]at k0;simp -implicitDefEqProofs only[go_sem,yJ,E,bld8];refine loopD [0,214,215] (pI4 B s V hb r k t) 8 ⟨0,rfl,om,rfl,k0,f3.mono fun _ _ h=>h.elim⟩ ?_;rintro _ vs w4 g4 ⟨i,rfl,hi,rfl,J,f4⟩
 by_cases A:i<8
 ·have E:=dTo ((i:Int)<8)
  have y:=iBd (i:=i) (n:=8);have c1:=iSu (i:=i)
  have W:rdO prog 34 w4 hb i=some (u32 (s.list.getD i 0)):=by
   rw[<- mixL_getD s.list V.list A];exact rd1 agg34 J (hC_w (by rw[qKi];exact A))
  have p1:partO prog 34 (wl V.list) i=some (u32 (V.list.getD i 0)):=by
   simp only[partO,agg34];exact wl_at A
  have q:=wr1 (P:=prog) (t:=34) (w:=w4.drew) (v:=u32 (s.list.getD i 0+V.list.getD i 0)) (o:=i) sz34 rfl J (by rw[qZq,qKi];omega);rw[hC_setw _ _ (by rw[qKi];exact A),mixL_set _ _ A]at q;generalize s.list.getD i 0=t1 at W q;generalize V.list.getD i 0=s1 at p1 q;simp -implicitDefEqProofs only[go_sem,yJ,yY,E,y,and_self,iTn,yK,W,p1,add32,q,c1];exact⟨8 - (i+1),om,i+1,rfl,om,rfl,qQd J,f4.drew.put (b:=hb) _ fun _=>rfl⟩
 have E:=dFo ((i:Int)<8);have e:i=8:=om
 subst e;rw[mixL_all,hR]at J;simp -implicitDefEqProofs only[go_sem,yJ,E];exact⟨J,f4⟩
end
theorem cut_blk {a:Option Addr}{n cap l B A b:Nat}(h:qQc (.slice (if cap=l then a else a.map (fun (q:Addr)=>q.add (l*1))) B A)=some b):qQc (.slice a n cap)=some b:=by
 split at h
 ·cases a with
  | none=>cases h
  | some q=>exact h
 ·cases a with
  | none=>cases h
  | some q =>
   simp only[qK,qQc,oSi]at h ⊢
   rw[<- h];unfold Addr.add;split <;> rfl
theorem By.fr' {v:Value}(h:By w v bs)(k:Fr F w w')(B:bs≠[]->∀ b,qQc v=some b->¬ F b):By w' v bs:=by
 by_cases A:bs=[]
 ·subst A
  obtain⟨E,a,cap,rfl,H,_⟩:=h;exact⟨E,a,cap,rfl,H,fun h=>by simp at h⟩
 ·exact h.fr k fun b hb _=>B A b hb
def wrI (A:World)(bs:List Byte)(s:S8)(hb:Nat)(r:List Byte)(k t:Nat)(n:Nat)(vs:List Value)(w:World):Prop :=
 ∃ i pv,vs=[pt hb 0,pv]/\64*i<=bs.length/\n=bs.length / 64 - i/\By w pv (bs.drop (64*i))/\(bs.drop (64*i)≠[]->∀ b,qQc pv=some b->b≠hb) /\
  w.heap[hb]?=some (.cells (hC (blocks i bs s).list r k t) 265 (0,0))/\Fr (fun b=>b=hb) A w
structure Wrote (w0 w':World) (hb:Nat) (s:S8) (all:List Byte) (t:Nat):Prop where
 ex:∃ r',r'.length=64/\r'.take (all.length % 64)=all.drop (64*(all.length / 64))/\w'.heap[hb]?=some (.cells (hC (blocks (all.length / 64) all s).list r' (all.length % 64) t) 265 (0,0))
 fr:Fr (fun b=>b=hb) w0 w'
theorem S8_len (s:S8):s.list.length=8:=rfl
theorem wr_e5 (r b:List Byte):(r.take 0++b.drop (64*(b.length / 64))++r.drop (b.drop (64*(b.length / 64))).length).take (b.length % 64)=b.drop (64*(b.length / 64)):=by
 have h:(b.drop (64*(b.length / 64))).length=b.length % 64:=by rw[lDr];omega
 generalize b.drop (64*(b.length / 64))=x at *;rw[j5,zL,<- h,yQ]
theorem wr_e6 (r b:List Byte)(A:r.length=64):(r++b).drop (64*(b.length / 64+1))=b.drop (64*(b.length / 64)):=by
 rw[List.drop_append,zT om,zL]
 congr 1;omega
theorem write (V:World)(ht:Tabs V){s:S8}{n t:Nat}(h5:5<=hb)(hh:V.heap[hb]?=some (.cells (hC s.list r n t) 265 (0, 0)))(hr:r.length=64)(hn:n<64)
  {pv:Value} (hp:By V pv bs) (hne:bs≠[]->∀ b,qQc pv=some b->b≠hb) (hl:bs.length<=2199023255552) (d7:t+bs.length<2 ^ 61) :
  Fn prog 190 #[pt hb 0,pv] V fun v w'=>v=.tuple #[]/\Wrote V w' hb s (r.take n++bs) (t+bs.length):=by
 have hL:=S8_len s;refine go190 sm ?_;obtain⟨a,cap,rfl,e7,_⟩:=hp.at;have c8:rdO prog 201 V hb 73=some (.int .u64 (t:Nat)):=rd1 agg201 hh (hC_t hL hr);have a1:IntKind.u64.wrap ((bs.length:Nat):Int)=((bs.length:Nat):Int):=by rw[qKv];omega
 have a2:IntKind.u64.wrap (((t:Nat):Int)+((bs.length:Nat):Int))=((t+bs.length:Nat):Int):=by rw[qKv];omega
 have b7:=wr1 (P:=prog) (t:=201) (v:=.int .u64 ((t+bs.length:Nat):Int)) (o:=73) sz201 rfl hh (by rw[qZq,hL,hr];omega);rw[hC_sett hL hr]at b7;have h1:=qQd (o:=.cells (hC s.list r n (t+bs.length)) 265 (0,0)) hh;have f1:Fr (fun b=>b=hb) V (put V hb (.cells (hC s.list r n (t+bs.length)) 265 (0,0))):=(Fr.refl _ _).put (b:=hb) _ fun _=>rfl;have c9:=hp.fr' f1 hne;generalize t+bs.length=U at *;clear d7;have a7:((64:Nat)=0)=False:=sm
 by_cases d8:n=0
 ·subst d8
  have d1:decide (((0:Nat):Int) > 0)=false:=rfl;have b8:rdO prog 3 (put V hb (.cells (hC s.list r 0 U) 265 (0,0))) hb 72=some (.int .i64 ((0:Nat):Int)):=rd1 agg3 h1 (hC_n hL hr);simp -implicitDefEqProofs only[go_sem,yJ,Tryz.f190,c8,a1,a2,b7,b8,d1];refine loopD [0,1] (wrI V bs s hb r 0 U) (bs.length / 64) ⟨0,_,rfl,om,rfl,by rw[yG,j9];exact c9,by rw[yG,j9];exact hne,h1,f1⟩ ?_;rintro _ vs w2 g ⟨i,pv,rfl,hi,rfl,a0,a8,h2,f2⟩;obtain⟨a2,H,rfl,b9,W⟩:=a0.at
  by_cases d0:64*i+64<=bs.length
  ·have J:(bs.drop (64*i)).length=bs.length - 64*i:=lDr
   have d1:decide ((((bs.drop (64*i)).length:Nat):Int) ≥ 64)=true:=by rw[J];simp;omega
   obtain⟨b,o,rfl,_⟩:=W 0 om;have c0:¬ H=0:=om
   have a9:sbO (.int .i64 64) H=some 64:=by simp only[sbO];rw[if_pos om];rfl
   have a6:sbO (.int .i64 64) (bs.drop (64*i)).length=some 64:=by simp only[sbO];rw[if_pos om];rfl
   have hm:∀ j,j<64->rc w2 b (o+j)=some (u8 (((bs.drop (64*i)).take 64).getD j 0)):=fun j hj=>by
    obtain⟨b',o',e,h'⟩:=W j om;cases e;rw[h',qQt 0 (by rw[lTk,lDr];omega)]
    simp
   have a4:=blocks_succ i bs s
   obtain⟨Q1,c3⟩:∃ Q1,Q1=blocks i bs s:=⟨_,rfl⟩
   rw[<- c3]at h2 a4;have hcut:=By.cut (l:=64) (m:=(bs.drop (64*i)).length) a0 om (xC _) rfl _ rfl;have Y:=fun b' (h:qQc (.slice (if H=64 then some ⟨b,o,none⟩ else yM (fun (q:Addr)=>q.add (64*1)) (some ⟨b,o,none⟩)) ((bs.drop (64*i)).length - 64) (H - 64))=some b')=>a8 (fun e=>by rw[e]at J;simp at J;omega) b' (cut_blk h)
   have b0:((bs.drop (64*i)).drop 64).take ((bs.drop (64*i)).length - 64)=bs.drop (64*(i+1)):=by
    rw[List.drop_drop,show 64*i+64=64*(i+1) by omega];exact zG (by simp only[lDr];omega)
   rw[b0]at hcut;generalize hM:(bs.drop (64*i)).take 64=M at hm a4
   obtain⟨ws,Z⟩:∃ ws,words M=ws:=⟨_,rfl⟩
   obtain⟨T,hT⟩:∃ T,rnds ws Q1 64=T:=⟨_,rfl⟩
   obtain⟨R,hR⟩:∃ R,plus Q1 T=R:=⟨_,rfl⟩
   have hc:blocks (i+1) bs s=R:=by rw[a4];exact comp_is (by rw[Z];exact hT) hR
   simp -implicitDefEqProofs only[go_sem,yJ,d1,qQw,optB,a9,c0,yV,qJr,yW];refine qQa pl195 ((step w2 (ht.fr f2 fun b h e=>by omega) h2 (xC 64) hm Z hT hR).mono ?_);rintro _ w3 ⟨rfl,h3,f3⟩;simp -implicitDefEqProofs only[go_sem,yJ,qQw,optB,a6];refine⟨bs.length / 64 - (i+1),om,i+1,_,rfl,om,rfl,?_,fun _=>Y,by rw[hc];exact h3,f2.trans f3⟩;refine By.fr ?_ f3 fun b' h _=>Y b' h;have e1:bs.drop (64*(i+1))=bs.drop (64*(i+1)):=rfl;exact hcut
  ·have J:(bs.drop (64*i)).length=bs.length - 64*i:=lDr
   have d1:decide ((((bs.drop (64*i)).length:Nat):Int) ≥ 64)=false:=by rw[J];simp;omega
   have ei:i=bs.length / 64:=om
   have em:bs.length - 64*i=bs.length % 64:=om
   have E:=run_copy (P:=prog) (ts:=#[22,22]) (t:=22) rfl slc22 sz5 (w:=w2) (b:=hb) (o:=8) (dn:=64) (dc:=64) h2 a0 (qXs _) (by rw[qZq,S8_len];omega);have b1:min (bs.drop (64*i)).length 64=bs.length % 64:=om
   rw[b1,yK,zG (by rw[zB];omega),show (8:Nat)=8+0 from rfl,hC_store (S8_len _) _ 0 om,yF]at E;have a5:=fun (L:List W32) (r':List Byte) (hL:L.length=8) (c4:r'.length=64)=>wr1 (P:=prog) (t:=3) (w:=put w2 hb (.cells (hC L r' 0 U) 265 (0,0))) (v:=.int .i64 ((bs.length % 64:Nat):Int)) (o:=72) sz3 rfl (qQd h2) (by rw[qZq,hL,c4];omega);have N:(r.take 0++bs.drop (64*i)++r.drop (bs.drop (64*i)).length).length=64:=by simp only[lAp,lTk,lDr];omega
   have q:=a5 _ _ (S8_len (blocks i bs s)) N;rw[hC_setn (S8_len _) N,put_put]at q;simp -implicitDefEqProofs only[go_sem,yJ,d1,qQw,a7,yV,qJr,yW,optB];refine qQj ⟨_,_,E,?_⟩;simp -implicitDefEqProofs only[go_sem,yJ,q];subst ei;rw[show List.take 0 r++bs=bs by simp];refine⟨⟨_,N,?_,qQd h2⟩,f2.put (b:=hb) _ fun _=>rfl⟩;rw[j5,zL,zF om,zG om]
 ·have d1:=dTo (((n:Nat):Int) > 0)
  have b8:rdO prog 3 (put V hb (.cells (hC s.list r n U) 265 (0,0))) hb 72=some (.int .i64 ((n:Nat):Int)):=rd1 agg3 h1 (hC_n hL hr);have a9:sbO (.int .i64 ((n:Nat):Int)) 64=some n:=by simp only[sbO];rw[if_pos om,iTn]
  have d9:((64:Nat)=n)=False:=by simp;omega
  have E:=run_copy (P:=prog) (ts:=#[22,22]) (t:=22) rfl slc22 sz5 (w:=(put V hb (.cells (hC s.list r n U) 265 (0,0))).drew) (b:=hb) (o:=8+n) (dn:=64 - n) (dc:=64 - n) h1 c9 (qXs _) (by rw[qZq,hL];omega)
  obtain⟨A,d3⟩:∃ A,A=min bs.length (64 - n):=⟨_,rfl⟩
  rw[<- d3,yK,<- yX,hC_store hL _ n (by rw[lTk];omega)]at E;have e0:(bs.take A).length=A:=by rw[lTk];omega
  rw[e0]at E;have O:(r.take n++bs.take A++r.drop (n+A)).length=64:=by simp only[lAp,lTk,lDr];omega
  have c5:(r.take n++bs.take A++r.drop (n+A)).take (n+A)=r.take n++bs.take A:=by
   have:(r.take n++bs.take A).length=n+A:=by simp only[lAp,lTk];omega
   rw[<- this,yQ]
  generalize r.take n++bs.take A++r.drop (n+A)=I at E O c5;have a3:IntKind.i64.wrap (((n:Nat):Int)+((A:Nat):Int))=((n+A:Nat):Int):=qXi;have h2:(put (put V hb (.cells (hC s.list r n U) 265 (0,0))).drew hb (.cells (hC s.list I n U) 265 (0,0))).heap[hb]?=some (.cells (hC s.list I n U) 265 (0,0)):=qQd h1;have b4:=rd1 (P:=prog) (t:=3) (o:=72) agg3 h2 (hC_n hL O);have a5:=wr1 (P:=prog) (t:=3) (v:=.int .i64 ((n+A:Nat):Int)) (o:=72) sz3 rfl h2 (by rw[qZq,hL,O];omega);rw[hC_setn hL O,put_put]at a5;have h3:(put (put V hb (.cells (hC s.list r n U) 265 (0,0))).drew hb (.cells (hC s.list I (n+A) U) 265 (0,0))).heap[hb]?=some (.cells (hC s.list I (n+A) U) 265 (0,0)):=qQd h1;have f3:Fr (fun b=>b=hb) V (put (put V hb (.cells (hC s.list r n U) 265 (0,0))).drew hb (.cells (hC s.list I (n+A) U) 265 (0,0))):=f1.drew.put (b:=hb) _ fun _=>rfl;have b5:=rd1 (P:=prog) (t:=3) (o:=72) agg3 h3 (hC_n hL O);have a6:sbO (.int .i64 ((A:Nat):Int)) bs.length=some A:=by simp only[sbO];rw[if_pos om,iTn]
  simp -implicitDefEqProofs only[go_sem,yJ,Tryz.f190,c8,a1,a2,b7,b8,d1,qQw,optB,a9,d9,yK];refine qQj ⟨_,_,E,?_⟩;have hcut:=By.cut (l:=A) (m:=bs.length) (hp.fr' f3 hne) om (xC _) rfl _ rfl;have Y:=fun (hx:bs.drop A≠[]) b' (h:qQc (.slice (if cap=A then a else yM (fun (q:Addr)=>q.add (A*1)) a) (bs.length - A) (cap - A))=some b')=>hne (fun e=>hx (by rw[e,List.drop_nil])) b' (cut_blk h);have b0:(bs.drop A).take (bs.length - A)=bs.drop A:=zG (by simp only[lDr];omega);rw[b0]at hcut
  by_cases d0:n+A<64
  ·have d2:=dTo (((n+A:Nat):Int)<64)
   have hc:A=bs.length:=om
   simp -implicitDefEqProofs only[go_sem,yJ,b4,a3,a5,qQw,optB,a6,b5,d2];have d4:(r.take n++bs).length=n+bs.length:=by simp only[lAp,lTk];omega
   have e1:(n+bs.length) / 64=0:=om
   have e2:(n+bs.length) % 64=n+bs.length:=om
   refine⟨⟨I,O,?_,?_⟩,f3⟩
   ·rw[d4,e1,e2,<- hc,c5,yG,j9,hc,List.take_length]
   ·rw[d4,e1,e2,<- hc];exact h3
  have d2:=dFo (((n+A:Nat):Int)<64);have hc:A=64 - n:=om
  have f0:n+A=64:=om
  have hm:∀ j,j<64->rc (put (put V hb (.cells (hC s.list r n U) 265 (0,0))).drew hb (.cells (hC s.list I (n+A) U) 265 (0,0))) hb (8+j)=some (u8 (I.getD j 0)):=fun j hj=>by
   rw[qXe h3,hC_b hL om]
  obtain⟨ws,Z⟩:∃ ws,words I=ws:=⟨_,rfl⟩
  obtain⟨T,hT⟩:∃ T,rnds ws s 64=T:=⟨_,rfl⟩
  obtain⟨R0,hR⟩:∃ R0,plus s T=R0:=⟨_,rfl⟩
  have c6:comp s I=R0:=comp_is (by rw[Z];exact hT) hR;simp -implicitDefEqProofs only[go_sem,yJ,b4,a3,a5,qQw,optB,a6,b5,d2,a7,yV,yW];refine qQa pl195 ((step _ (ht.fr f3 fun b h e=>by omega) h3 (xC 64) hm Z hT hR).mono ?_);rintro _ w4 ⟨rfl,h4,f4⟩;have b6:=wr1 (P:=prog) (t:=3) (v:=.int .i64 ((0:Nat):Int)) (o:=72) sz3 rfl h4 (by rw[qZq,S8_len,O];omega);rw[hC_setn (S8_len R0) O]at b6;have e5:=qQd (o:=.cells (hC R0.list I 0 U) 265 (0,0)) h4;have f5:Fr (fun b=>b=hb) V (put w4 hb (.cells (hC R0.list I 0 U) 265 (0,0))):=(f3.trans f4).put (b:=hb) _ fun _=>rfl;have c7:=By.fr' hcut (f4.put (b:=hb) (.cells (hC R0.list I 0 U) 265 (0,0)) fun _=>rfl) Y;simp -implicitDefEqProofs only[go_sem,yJ];have d5:wrO prog 3 w4 hb 72 (.int .i64 0)=some (put w4 hb (.cells (hC R0.list I 0 U) 265 (0,0))):=b6;simp -implicitDefEqProofs only[go_sem,d5];have e8:(bs.drop A).length=bs.length - A:=lDr
  have d6:r.take n++bs=I++bs.drop A:=by
   have e1:I.take (n+A)=I:=zG om;rw[<- e1,c5,zJ,List.take_append_drop]
  have e6:∀ K,blocks (K+1) (I++bs.drop A) s=blocks K (bs.drop A) R0:=fun K=>by
   rw[show K+1=1+K by omega];show qJg comp (1+K) _ _=_;rw[qWc comp 1 K];show blocks K _ (comp s _)=_;rw[yK,<- O,List.drop_left,yQ,c6]
  have b3:(I++bs.drop A).length=64+(bs.drop A).length:=by rw[lAp,O]
  rw[d6];generalize bs.drop A=B at *;have e9:B.length<=2199023255552:=om
  refine loopD [0,1] (wrI V B R0 hb I 0 U) (B.length / 64) ⟨0,_,rfl,om,rfl,by rw[yG,j9];exact c7,by rw[yG,j9];exact Y,e5,f5⟩ ?_;rintro _ vs w2 g ⟨i,pv,rfl,hi,rfl,a0,a8,h2,f2⟩;obtain⟨a2,H,rfl,b9,W⟩:=a0.at
  by_cases d0:64*i+64<=B.length
  ·have J:(B.drop (64*i)).length=B.length - 64*i:=lDr
   have d1:decide ((((B.drop (64*i)).length:Nat):Int) ≥ 64)=true:=by rw[J];simp;omega
   obtain⟨b,o,rfl,_⟩:=W 0 om;have c0:¬ H=0:=om
   have a9:sbO (.int .i64 64) H=some 64:=by simp only[sbO];rw[if_pos om];rfl
   have a6:sbO (.int .i64 64) (B.drop (64*i)).length=some 64:=by simp only[sbO];rw[if_pos om];rfl
   have hm:∀ j,j<64->rc w2 b (o+j)=some (u8 (((B.drop (64*i)).take 64).getD j 0)):=fun j hj=>by
    obtain⟨b',o',e,h'⟩:=W j om;cases e;rw[h',qQt 0 (by rw[lTk,lDr];omega)]
    simp
   have a4:=blocks_succ i B R0
   obtain⟨Q1,c3⟩:∃ Q1,Q1=blocks i B R0:=⟨_,rfl⟩
   rw[<- c3]at h2 a4;have hcut:=By.cut (l:=64) (m:=(B.drop (64*i)).length) a0 om (xC _) rfl _ rfl;have Y:=fun b' (h:qQc (.slice (if H=64 then some ⟨b,o,none⟩ else yM (fun (q:Addr)=>q.add (64*1)) (some ⟨b,o,none⟩)) ((B.drop (64*i)).length - 64) (H - 64))=some b')=>a8 (fun e=>by rw[e]at J;simp at J;omega) b' (cut_blk h)
   have b0:((B.drop (64*i)).drop 64).take ((B.drop (64*i)).length - 64)=B.drop (64*(i+1)):=by
    rw[List.drop_drop,show 64*i+64=64*(i+1) by omega];exact zG (by simp only[lDr];omega)
   rw[b0]at hcut;generalize hM:(B.drop (64*i)).take 64=M at hm a4
   obtain⟨ws,Z⟩:∃ ws,words M=ws:=⟨_,rfl⟩
   obtain⟨T,hT⟩:∃ T,rnds ws Q1 64=T:=⟨_,rfl⟩
   obtain⟨R,hR⟩:∃ R,plus Q1 T=R:=⟨_,rfl⟩
   have hc:blocks (i+1) B R0=R:=by rw[a4];exact comp_is (by rw[Z];exact hT) hR
   simp -implicitDefEqProofs only[go_sem,yJ,d1,qQw,optB,a9,c0,yV,qJr,yW];refine qQa pl195 ((step w2 (ht.fr f2 fun b h e=>by omega) h2 (xC 64) hm Z hT hR).mono ?_);rintro _ w3 ⟨rfl,h3,f3⟩;simp -implicitDefEqProofs only[go_sem,yJ,qQw,optB,a6];refine⟨B.length / 64 - (i+1),om,i+1,_,rfl,om,rfl,?_,fun _=>Y,by rw[hc];exact h3,f2.trans f3⟩;refine By.fr ?_ f3 fun b' h _=>Y b' h;have e1:B.drop (64*(i+1))=B.drop (64*(i+1)):=rfl;exact hcut
  ·have J:(B.drop (64*i)).length=B.length - 64*i:=lDr
   have d1:decide ((((B.drop (64*i)).length:Nat):Int) ≥ 64)=false:=by rw[J];simp;omega
   have ei:i=B.length / 64:=om
   have em:B.length - 64*i=B.length % 64:=om
   have E:=run_copy (P:=prog) (ts:=#[22,22]) (t:=22) rfl slc22 sz5 (w:=w2) (b:=hb) (o:=8) (dn:=64) (dc:=64) h2 a0 (qXs _) (by rw[qZq,S8_len];omega);have b1:min (B.drop (64*i)).length 64=B.length % 64:=om
   rw[b1,yK,zG (by rw[zB];omega),show (8:Nat)=8+0 from rfl,hC_store (S8_len _) _ 0 om,yF]at E;have a5:=fun (L:List W32) (r':List Byte) (hL:L.length=8) (c4:r'.length=64)=>wr1 (P:=prog) (t:=3) (w:=put w2 hb (.cells (hC L r' 0 U) 265 (0,0))) (v:=.int .i64 ((B.length % 64:Nat):Int)) (o:=72) sz3 rfl (qQd h2) (by rw[qZq,hL,c4];omega);have N:(I.take 0++B.drop (64*i)++I.drop (B.drop (64*i)).length).length=64:=by simp only[lAp,lTk,lDr];omega
   have q:=a5 _ _ (S8_len (blocks i B R0)) N;rw[hC_setn (S8_len _) N,put_put]at q;simp -implicitDefEqProofs only[go_sem,yJ,d1,qQw,a7,yV,qJr,yW,optB];refine qQj ⟨_,_,E,?_⟩;simp -implicitDefEqProofs only[go_sem,yJ,q];subst ei;have e3:(64+B.length) / 64=B.length / 64+1:=om
   have e4:(64+B.length) % 64=B.length % 64:=om
   refine⟨⟨_,N,?_,?_⟩,f2.put (b:=hb) _ fun _=>rfl⟩
   ·rw[b3,e3,e4]
    exact (wr_e5 I B).trans (wr_e6 I B O).symm
   ·rw[b3,e3,e4,e6];exact qQd h2
def Took (w:World)(hb:Nat)(all:List Byte):Prop :=
 ∃ r,r.length=64/\r.take (all.length % 64)=all.drop (64*(all.length / 64))/\w.heap[hb]?=some (.cells (hC (blocks (all.length / 64) all init).list r (all.length % 64) all.length) 265 (0,0))
theorem out_idx (s:S8)(i j:Nat)(hi:i<8)(A:j<4):outAt s (4*i+j)=((s.list.getD i 0) >>> (24 - 8*j)).setWidth 8:=by
 unfold outAt;rw[show (4*i+j) / 4=i by omega,show (4*i+j) % 4=j by omega]
def mI1 (A:World)(W:World)(N B b2:Nat)(L:Nat)(n:Nat)(vs:List Value)(w:World):Prop :=
 ∃ i,vs=[pt A.heap.size 0,pt B 0,.int .u64 ((zX 64 (8*L)).toNat:Nat),pt b2 0,.int .i64 (N+1:Nat),.int .i64 (i:Nat)]/\i<=8/\n=8 - i /\
  w.heap[b2]?=some (.cells (bl (padTo 0 128 (128::zK N 0++(len8 L).take i))) 270 (0,0))/\Fr (fun b=>b=b2) W w
def mI2 (B:World)(W:World)(S:S8)(A:Nat)(n:Nat)(vs:List Value)(w:World):Prop :=
 ∃ i,vs=[pt B.heap.size 0,pt A 0,.agg (wl S.list),.int .i64 (i:Nat)]/\i<=8/\n=8 - i/\w.heap[A]?=some (.cells (bl (padTo 0 32 ((out S).take (4*i)))) 75 (0,0))/\Fr (fun b=>b=A) W w
theorem hC_whole {L:List W32}(A:aggO prog t=some true)(B:szO prog t=some 74)(E:L.length=8)(H:r.length=64)(h:w.heap[b]?=some (.cells (hC L r n k) e fz)) :
  rdO prog t w b 0=some (.agg (hC L r n k)) :=
 rds A B h (by rw[qZq,E,H]) om fun i _=>by rw[jY]
theorem hC_one {L:List W32}:(hC L r n k).all one=true:=by rw[<- Array.all_toList];simp[hC,one]
theorem pad_take (N L i:Nat)(A:N<64)(hi:i<=8):(128::zK N 0++(len8 L).take i).length=N+1+i:=by
 simp[len8_len];omega
theorem zeroH:(#[.int .u32 0,.int .u32 0,.int .u32 0,.int .u32 0,.int .u32 0,.int .u32 0,.int .u32 0,.int .u32 0]++bl (zK 64 0)++#[.int .i64 0,.int .u64 0]:Array Value)=hC (zK 8 0) (zK 64 0) 0 0:=by
 apply Array.toList_inj.1;rfl
theorem len8_zero (N L:Nat)(h:N<64):padTo (0:Byte) 128 [128]=padTo 0 128 (128::zK N 0++(len8 L).take 0):=by
 have e:∀ k:Nat,k<=127->∀ j,j<=k->zK k (0:Byte)=zK j 0++zK (k - j) 0:=fun k A j B=>by
  rw[List.replicate_append_replicate];congr 1;omega
 simp only[padTo,j5,List.append_nil,List.length_cons,lRe,List.length_nil,List.cons_append,zL];rw[e (128 - (0+1)) om N om,show 128 - (0+1) - N=128 - (N+1) by omega]
theorem hsum (A:World)(ht:Tabs A){all:List Byte}(hl:all.length<=1099511627776)(hh:Took A hb all) :
  Fn prog 191 #[pt hb 0] A fun v w'=>v=dg (Sha.sum all)/\No A w':=by
 obtain⟨r,hr,b0,hh⟩:=hh;have c6:=qQh hh;refine go191 sm ?_
 obtain⟨I,a0⟩:∃ I,I=blocks (all.length / 64) all init:=⟨_,rfl⟩
 rw[<- a0]at hh;have hL:=S8_len I;have f1:No A (A.alloc (.cells (bl (zK 32 0)) 75)):=(Fr.refl _ _).alloc _;have h1:=f1.at hh id;have k1:(A.alloc (.cells (bl (zK 32 0)) 75)).heap[A.heap.size]?=some (.cells (bl (zK 32 0)) 75 (0,0)):=qQb _ _;have r1:=hC_whole agg265 sz265 hL hr h1;have z1:(A.alloc (.cells (bl (zK 32 0)) 75)).heap.size=A.heap.size+1:=qQf _ _;simp -implicitDefEqProofs only[go_sem,yJ,Tryz.f191,yN,qQk];generalize A.alloc (.cells (bl (zK 32 0)) 75)=W1 at *
 obtain⟨K,hK⟩:∃ K,K=all.length / 64:=⟨_,rfl⟩
 obtain⟨B,V⟩:∃ B,B=all.length % 64:=⟨_,rfl⟩
 obtain⟨L,M⟩:∃ L,L=all.length:=⟨_,rfl⟩
 rw[<- V,<- M]at r1 h1
 have q1:=qQr (P:=prog) (t:=265) (w:=W1.alloc (.cells (hC (zK 8 0) (zK 64 0) 0 0) 265)) (b:=A.heap.size+1) (vs:=hC I.list r B L) (by rw[qZq,hL,hr];exact sz265)
  (by rw[<- z1];exact qQb _ _) (by rw[qZq,qZq,hL,hr];simp) hC_one
 have h2:(put (W1.alloc (.cells (hC (zK 8 0) (zK 64 0) 0 0) 265)) (A.heap.size+1) (.cells (hC I.list r B L) 265 (0,0))).heap[A.heap.size+1]?=some (.cells (hC I.list r B L) 265 (0,0)):=by
  rw[<- z1];exact qQd (qQb _ _)
 have k2:(put (W1.alloc (.cells (hC (zK 8 0) (zK 64 0) 0 0) 265)) (A.heap.size+1) (.cells (hC I.list r B L) 265 (0,0))).heap[A.heap.size]?=some (.cells (bl (zK 32 0)) 75 (0,0)) :=
  qQi (qQs k1) om
 have f2:No A (put (W1.alloc (.cells (hC (zK 8 0) (zK 64 0) 0 0) 265)) (A.heap.size+1) (.cells (hC I.list r B L) 265 (0,0))):=(f1.alloc _).put (b:=A.heap.size+1) _ fun h=>by omega
 have z2:(put (W1.alloc (.cells (hC (zK 8 0) (zK 64 0) 0 0) 265)) (A.heap.size+1) (.cells (hC I.list r B L) 265 (0,0))).heap.size=A.heap.size+1+1:=by
  rw[put_heap_size,qQf,z1]
 simp -implicitDefEqProofs only[go_sem,yJ,yN,qQk,r1,z1,zeroH,q1];generalize put (W1.alloc (.cells (hC (zK 8 0) (zK 64 0) 0 0) 265)) (A.heap.size+1) (.cells (hC I.list r B L) 265 (0,0))=J at *;have b1:rdO prog 201 J (A.heap.size+1) 73=some (.int .u64 (L:Nat)):=rd1 agg201 h2 (hC_t hL hr)
 have a1:IntKind.u64.wrap (((L:Nat):Int)*8)=((zX 64 (8*L)).toNat:Int):=by
  rw[qKv,zZ];omega
 have f3:No J (J.alloc (.cells (bl (zK 128 0)) 270)):=(Fr.refl _ _).alloc _;have h3:=f3.at h2 id;have k3:=f3.at k2 id;have q2:=wr1 (P:=prog) (t:=5) (w:=J.alloc (.cells (bl (zK 128 0)) 270)) (b:=A.heap.size+1+1) (v:=u8 128) (o:=0) sz5 rfl (by rw[<- z2];exact qQb _ _) (by rw[qXj];simp);rw[bl_set,show (zK 128 (0:Byte)).set 0 128=padTo 0 128 [128] from rfl]at q2;have x0:(0:Int)<=0/\(0:Int)<((128:Nat):Int):=x9
 simp -implicitDefEqProofs only[go_sem,yN,qQk,b1,a1,z2,x0,and_self,jI,yV]
 replace q2:wrO prog 5 (J.alloc (.cells (bl (zK 128 0)) 270)) (A.heap.size+1+1) 0 (.int .u8 128)=some (put (J.alloc (.cells (bl (zK 128 0)) 270)) (A.heap.size+1+1) (.cells (bl (padTo 0 128 [128])) 270 (0,0))):=q2
 simp -implicitDefEqProofs only[go_sem,yJ,q2];have hN:fill L<64:=by unfold fill;omega
 have b3:fill L=(119 - B) % 64:=by unfold fill;rw[V,<- M]
 rw[len8_zero (fill L) L hN]at q2 ⊢;have h4:=qQd (o:=.cells (bl (padTo 0 128 (128::zK (fill L) 0++(len8 L).take 0))) 270 (0,0)) (show (J.alloc (.cells (bl (zK 128 0)) 270)).heap[A.heap.size+1+1]?=_ by rw[<- z2];exact qQb _ _)
 have g4:Fr (fun b=>b=A.heap.size+1+1) (J.alloc (.cells (bl (zK 128 0)) 270)) (put (J.alloc (.cells (bl (zK 128 0)) 270)) (A.heap.size+1+1) (.cells (bl (padTo 0 128 (128::zK (fill L) 0++(len8 L).take 0))) 270 (0,0))) :=
  (Fr.refl _ _).put _ fun _=>rfl
 generalize c7:J.alloc (.cells (bl (zK 128 0)) 270)=W3 at *;generalize put W3 (A.heap.size+1+1) (.cells (bl (padTo 0 128 (128::zK (fill L) 0++(len8 L).take 0))) 270 (0,0))=W4 at *;have b4:rdO prog 3 W4 (A.heap.size+1) 72=some (.int .i64 (B:Nat)):=rd1 agg3 (g4.at h3 om) (hC_n hL hr);have n0:((64:Int)=0)=False:=sm
 have a2:((B:Nat):Int).tmod 64=(B:Nat):=by
  rw[show ((B:Nat):Int).tmod 64=((B % 64:Nat):Int) from rfl];omega
 have a3:IntKind.i64.wrap (119 - ((B:Nat):Int))=((119 - B:Nat):Int):=qXr (a:=119) (b:=B) om om
 have a4:((119 - B:Nat):Int).tmod 64=((fill L:Nat):Int):=by
  rw[show ((119 - B:Nat):Int).tmod 64=(((119 - B) % 64:Nat):Int) from rfl,b3]
 have a5:IntKind.i64.wrap (((fill L:Nat):Int)+1)=((fill L+1:Nat):Int):=qXi (b:=1);simp -implicitDefEqProofs only[go_sem,b4,n0,a2,a3,a4,a5];refine loopD [2,3,4,5,6,24] (mI1 A W3 (fill L) (A.heap.size+1) (A.heap.size+1+1) L) 8 ⟨0,rfl,om,rfl,h4,g4⟩ ?_;rintro _ vs w5 g ⟨i,rfl,hi,rfl,h5,g5⟩
 by_cases E:i<8
 ·have W:=dTo ((i:Int)<8)
  have c0:IntKind.i64.wrap (((fill L+1:Nat):Int)+((i:Nat):Int))=((fill L+1+i:Nat):Int):=qXi;have c1:IntKind.i64.wrap (8*(i:Int))=((8*i:Nat):Int):=i64mul (a:=8) (b:=i) om;have c2:IntKind.i64.wrap (56 - ((8*i:Nat):Int))=((56 - 8*i:Nat):Int):=qXr (a:=56) (b:=8*i) om om;have c4:=iSu (i:=i);have n1:¬ (((56 - 8*i:Nat):Int)<0):=om
  have y:(0:Int)<=((fill L+1+i:Nat):Int)/\((fill L+1+i:Nat):Int)<((128:Nat):Int):=om
  have N:=pad_take (fill L) L i hN hi;have q:=wr1 (P:=prog) (t:=5) (v:=u8 (((zX 64 (8*L)) >>> (56 - 8*i)).setWidth 8)) (o:=fill L+1+i) sz5 rfl h5 (by rw[qXj,qZn om];omega);have e1:=padTo_set (z:=(0:Byte)) (n:=128) (l:=128::zK (fill L) 0++(len8 L).take i) (((zX 64 (8*L)) >>> (56 - 8*i)).setWidth 8) om;rw[N,zJ,qKw (len8_at L E)]at e1;rw[bl_set,e1]at q;simp -implicitDefEqProofs only[go_sem,yJ,W,c0,c1,c2,n1,shr64 _ _ (show 56 - 8*i<=64 by omega),cut64,y,and_self,iTn,yK,q,c4];exact⟨8 - (i+1),om,i+1,rfl,om,rfl,qQd h5,g5.put _ fun _=>rfl⟩
 have W:=dFo ((i:Int)<8);have e:i=8:=om
 subst e;have b5:128::zK (fill L) 0++(len8 L).take 8=pad L:=by rw[zG (by rw[len8_len];omega)];rfl
 rw[b5]at h5;have N:(pad L).length=fill L+9:=pad_len L;have c5:IntKind.i64.wrap (((fill L+1:Nat):Int)+8)=((fill L+9:Nat):Int):=qXi (b:=8);have sb:sbO (.int .i64 ((fill L+9:Nat):Int)) 128=some (fill L+9):=by simp only[sbO];rw[if_pos om,iTn]
 have a6:((128:Nat)=0)=False:=sm
 have f5:No A w5:=(f2.trans f3).trans' g5 fun b hb h=>by omega
 have hby:By w5 (.slice (some ⟨A.heap.size+1+1,0,none⟩) (fill L+9) 128) (pad L):=by
  refine⟨sm,_,_,by rw[N],om,fun _=>⟨_,_,rfl,fun j Y=>?_⟩⟩;rw[yK]at Y;rw[qXe h5,jY,bl_at (by rw[qZn om];omega),padTo_getD 0 Y,j6,xE Y,qQt 0 Y];rfl
 have b6:Tabs w5:=ht.no f5;have a9:=ht.size;simp -implicitDefEqProofs only[go_sem,yJ,W,c5,qQw,optB,sb,a6,yV,yW];refine qQa pl190 ((write w5 b6 om (g5.at h3 om) hr om hby (fun _ b hb=>by simp only[qQc,oSi]at hb;omega) om om).mono ?_);rintro _ H ⟨rfl,hw⟩;obtain⟨⟨r',c8,_,h6⟩,g6⟩:=hw;have a7:(r.take B++pad L).length=B+(fill L+9):=by rw[lAp,lTk,N];omega
 have U:out (blocks ((r.take B++pad L).length / 64) (r.take B++pad L) I)=Sha.sum all:=by
  have a8:=pad_mod L;have c9:L=64*K+B:=om
  obtain⟨q,hq⟩:∃ q,L+(pad L).length=64*q:=⟨_,(yD (yH a8)).symm⟩
  have b7:(r.take B++pad L).length / 64=q - K:=by rw[a7];omega
  rw[b7,sum_blocks all (by rw[<- M];exact hq),<- M,show blocks q (all++pad L) init=blocks (K+(q - K)) (all++pad L) init by congr 1;omega];show _=out (qJg comp (K+(q - K)) (all++pad L) init);rw[qWc comp K (q - K),blocksF_app comp K _ _ _ om,zM om,V,b0,a0,hK]
  rfl
 generalize blocks ((r.take B++pad L).length / 64) (r.take B++pad L) I=S at h6 U;rw[<- U]
 have r6:rdO prog 250 H (A.heap.size+1) 0=some (.agg (wl S.list)):=by
  refine rds agg250 sz250 h6 rfl om fun i hi=>?_;rw[jY,hC_w hi,wl_at hi]
 have f6:No A H:=f5.trans' g6 fun b hb h=>by omega
 have k6:H.heap[A.heap.size]?=some (.cells (bl (zK 32 0)) 75 (0,0)):=g6.at (g5.at k3 om) om;have f7:No H (H.alloc (.cells (bl (zK 32 0)) 75)):=(Fr.refl _ _).alloc _
 have h7:(H.alloc (.cells (bl (zK 32 0)) 75)).heap[H.heap.size]?=some (.cells (bl (padTo 0 32 ((out S).take (4*0)))) 75 (0,0)):=by
  rw[yG,j5,padTo_nil];exact qQb _ _
 have k7:=f7.at k6 id
 have r7:rdO prog 250 (H.alloc (.cells (bl (zK 32 0)) 75)) (A.heap.size+1) 0=some (.agg (wl S.list)):=by
  refine rds agg250 sz250 (f7.at h6 id) rfl om fun i hi=>?_;rw[jY,hC_w hi,wl_at hi]
 have z6:A.heap.size<H.heap.size:=qQh k6;simp -implicitDefEqProofs only[go_sem,yJ,yN,qQk,r7];refine loopD [2,8,43,44] (mI2 A (H.alloc (.cells (bl (zK 32 0)) 75)) S H.heap.size) 8 ⟨0,rfl,om,rfl,h7,Fr.refl _ _⟩ ?_;rintro _ vs w8 g2 ⟨i,rfl,hi,rfl,Z,g8⟩
 by_cases E:i<8
 ·have W:=dTo ((i:Int)<8)
  have y:=iBd (i:=i) (n:=8);have c0:IntKind.i64.wrap (4*(i:Int))=((4*i:Nat):Int):=i64mul (a:=4) (b:=i) om;have c1:IntKind.i64.wrap (((4*i:Nat):Int)+1)=((4*i+1:Nat):Int):=qXi (b:=1);have c2:IntKind.i64.wrap (((4*i:Nat):Int)+2)=((4*i+2:Nat):Int):=qXi (b:=2);have c3:IntKind.i64.wrap (((4*i:Nat):Int)+3)=((4*i+3:Nat):Int):=qXi (b:=3);have c4:=iSu (i:=i);have y0:(0:Int)<=((4*i:Nat):Int)/\((4*i:Nat):Int)<((32:Nat):Int):=om
  have y1:(0:Int)<=((4*i+1:Nat):Int)/\((4*i+1:Nat):Int)<((32:Nat):Int):=om
  have y2:(0:Int)<=((4*i+2:Nat):Int)/\((4*i+2:Nat):Int)<((32:Nat):Int):=om
  have y3:(0:Int)<=((4*i+3:Nat):Int)/\((4*i+3:Nat):Int)<((32:Nat):Int):=om
  have b8:∀ z:W32,shrK .u32 (z.toNat:Int) 24=((z >>> 24).toNat:Int):=fun z=>shr32 z 24 om;have b9:∀ z:W32,shrK .u32 (z.toNat:Int) 16=((z >>> 16).toNat:Int):=fun z=>shr32 z 16 om;have s8:∀ z:W32,shrK .u32 (z.toNat:Int) 8=((z >>> 8).toNat:Int):=fun z=>shr32 z 8 om
  have p1:partO prog 34 (wl S.list) i=some (u32 (S.list.getD i 0)):=by
   simp only[partO,agg34];exact wl_at E
  have ol:∀ k,k<=32->((out S).take k).length=k:=fun k hk=>by rw[lTk,qZx];omega
  have qq:∀ (w:World) (j:Nat),j<32->w.heap[H.heap.size]?=some (.cells (bl (padTo 0 32 ((out S).take j))) 75 (0,0))->wrO prog 5 w H.heap.size j (u8 (outAt S j))=some (put w H.heap.size (.cells (bl (padTo 0 32 ((out S).take (j+1)))) 75 (0,0))):=fun w j Y hw=>by
   have:=wr1 (P:=prog) (t:=5) (v:=u8 (outAt S j)) (o:=j) sz5 rfl hw (by rw[qXj,qZn (by rw[ol j om];omega)];exact Y);rw[bl_set,out_take S Y]at this;exact this
  have q0:=qq w8 (4*i) om Z;have O:=qq _ (4*i+1) om (qQd (o:=.cells (bl (padTo 0 32 ((out S).take (4*i+1)))) 75 (0,0)) Z);rw[put_put]at O;have R:=qq _ (4*i+2) om (qQd (o:=.cells (bl (padTo 0 32 ((out S).take (4*i+1+1)))) 75 (0,0)) Z);rw[put_put]at R;have T:=qq _ (4*i+3) om (qQd (o:=.cells (bl (padTo 0 32 ((out S).take (4*i+2+1)))) 75 (0,0)) Z);rw[put_put]at T;have o0:=out_idx S i 0 E om;have o1:=out_idx S i 1 E om;have o2:=out_idx S i 2 E om;have o3:=out_idx S i 3 E om;rw[yF]at o0;simp only[yG,yK,yW,Nat.reduceMul,Nat.reduceSub,BitVec.ushiftRight_zero]at o0 o1 o2 o3;rw[o0]at q0;rw[o1]at O;rw[o2]at R;rw[o3]at T;generalize S.list.getD i 0=t1 at p1 q0 O R T;simp -implicitDefEqProofs only[go_sem,yJ,W,y,y0,y1,y2,y3,and_self,iTn,yK,p1,c0,c1,c2,c3,b8,b9,s8,cut32,jO,q0,O,R,T,c4];refine⟨8 - (i+1),om,i+1,rfl,om,rfl,?_,g8.put _ fun _=>rfl⟩;rw[show 4*(i+1)=4*i+3+1 by omega];exact qQd Z
 have W:=dFo ((i:Int)<8);have e:i=8:=om
 subst e;rw[zG (by rw[qZx];omega),padTo_full (qZx S)]at Z;have k8:=g8.at k7 om;have r:=rds (P:=prog) (t:=75) (o:=0) (vs:=bl (out S)) agg75 sz75 Z (by rw[qXj,qZx]) om fun i hi=>by rw[jY]
 have q:=qQr (P:=prog) (t:=75) (vs:=bl (out S)) (by rw[qXj,qZx];exact sz75) k8 (by rw[qXj,qXj,qZx];simp) (bl_one _);have r2:=rds (P:=prog) (t:=75) (o:=0) (vs:=bl (out S)) agg75 sz75 (qQd (o:=.cells (bl (out S)) 75 (0,0)) k8) (by rw[qXj,qZx]) om fun i hi=>by rw[jY]
 simp -implicitDefEqProofs only[go_sem,yJ,W,r,q,r2];exact ((f6.trans f7).trans' g8 fun b hb h=>by omega).put (b:=A.heap.size) _ fun h=>absurd h (yU _)
theorem rd_d (A:aggO prog t=some true)(B:szO prog t=some 32)(h:w.heap[b]?=some (.cells (bl d) e fz))(E:d.length=32):rdO prog t w b 0=some (dg d) :=
 rds A B h (by rw[qXj,E]) om fun i _=>by rw[jY]
theorem wr_d {d d':Bs}(B:szO prog t=some 32)(h:w.heap[b]?=some (.cells (bl d) e (0,0)))(E:d.length=32)(A:d'.length=32):wrO prog t w b 0 (dg d')=some (put w b (.cells (bl d') e (0,0))) :=
 qQr (by rw[qXj,A];exact B) h (by rw[qXj,qXj,E,A]) (bl_one _)
theorem zl32:(zK 32 (0:Byte)).length=32:=sm
theorem row_by (h:w.heap[b]?=some (.cells (bl d) e fz)){m cap:Nat}(H:m<=d.length)(E:m<=cap):By w (.slice (some ⟨b,0,none⟩) m cap) (d.take m):=by
 have A:(d.take m).length=m:=by rw[lTk];omega
 refine⟨sm,_,_,by rw[A],by rw[A];exact E,fun _=>⟨_,_,rfl,fun j B=>?_⟩⟩;rw[A,yK]at B;rw[qXe h,jY,bl_at om,yX,List.getElem?_take,if_pos B,j6,xE om,qQt 0 om];rfl
theorem bldH:bldO prog 265 [(0,.agg (wl init.list))]=some (.agg (hC init.list (zK 64 0) 0 0)):=x8
theorem dsum (A:World)(B:Tabs A){msg:Bs}(M:By A mv msg)(Y:msg.length<=1099511627776) :
  Fn prog 181 #[mv] A fun v w'=>v=dg (Sha.sum msg)/\No A w':=by
 refine go181 sm ?_;have N:No A (A.alloc (.cells (bl (zK 32 0)) 75)):=(Fr.refl _ _).alloc _;have Z:(A.alloc (.cells (bl (zK 32 0)) 75)).heap[A.heap.size]?=some (.cells (bl (zK 32 0)) 75 (0,0)):=qQb _ _;have E:(A.alloc (.cells (bl (zK 32 0)) 75)).heap.size=A.heap.size+1:=qQf _ _;have t1:=B.no N;simp -implicitDefEqProofs only[go_sem,Tryz.f181,yN,qQk];generalize A.alloc (.cells (bl (zK 32 0)) 75)=H at *
 have q1:=qQr (P:=prog) (t:=265) (w:=H.alloc (.cells (hC (zK 8 0) (zK 64 0) 0 0) 265)) (b:=A.heap.size+1) (vs:=hC init.list (zK 64 0) 0 0) (by rw[qZq];exact sz265)
  (by rw[<- E];exact qQb _ _) (by rw[qZq,qZq];rfl) hC_one
 have h2:=qQd (o:=.cells (hC init.list (zK 64 0) 0 0) 265 (0,0)) (show (H.alloc (.cells (hC (zK 8 0) (zK 64 0) 0 0) 265)).heap[A.heap.size+1]?=_ by rw[<- E];exact qQb _ _);have k2:=qQi (b:=A.heap.size+1) (o:=.cells (hC init.list (zK 64 0) 0 0) 265 (0,0)) (qQs (o:=.cells (hC (zK 8 0) (zK 64 0) 0 0) 265) Z) om;have I:=(N.alloc (.cells (hC (zK 8 0) (zK 64 0) 0 0) 265)).put (b:=A.heap.size+1) (.cells (hC init.list (zK 64 0) 0 0) 265 (0,0)) fun h=>by omega
 simp -implicitDefEqProofs only[go_sem,yJ,yN,qQk,t1.init2,bldH,E,zeroH,q1];generalize put (H.alloc (.cells (hC (zK 8 0) (zK 64 0) 0 0) 265)) (A.heap.size+1) (.cells (hC init.list (zK 64 0) 0 0) 265 (0,0))=W2 at *;have hsz:=B.size;refine qQa pl190 ((write W2 (B.no I) (n:=0) (t:=0) om h2 sm om (M.fr0 I) (fun hne b hb=>?_) om om).mono ?_)
 ·obtain⟨_,a,cap,rfl,_,h⟩:=M
  obtain⟨b',o',rfl,h'⟩:=h (by rw[yK];exact List.length_pos_iff.2 hne);simp only[qQc,oSi]at hb;have:=h' 0 (by rw[yK];exact List.length_pos_iff.2 hne);rw[j6,xE (List.length_pos_iff.2 hne)]at this;have:=rc_lt this;omega
 rintro _ w3 ⟨rfl,⟨⟨r',J,O,R⟩,T⟩⟩;simp only[j5,zL,jY]at R O;have U:=I.trans' T fun b hb h=>by omega
 simp -implicitDefEqProofs only[go_sem,yJ];refine qQa pl191 ((hsum w3 (B.no U) Y ⟨r',J,O,R⟩).mono ?_);rintro _ w4 ⟨rfl,V⟩;have W:=V.at (T.at k2 om) id;have q:=wr_d sz75 W zl32 (sum_len msg);have r:=rd_d agg75 sz75 (qQd (o:=.cells (bl (Sha.sum msg)) 75 (0,0)) W) (sum_len msg);generalize Sha.sum msg=d at q r;simp -implicitDefEqProofs only[go_sem,yJ,q,r];exact (U.trans V).put (b:=A.heap.size) _ fun h=>absurd h (yU _)
theorem cutD_eq (w:Int)(d:Bs)(E:d.length=32):cutD w d=d.take (wid w)++zK (32 - wid w) 0:=by
 refine List.ext_getElem (by rw[qZi];have:=wid_le w;simp;omega) fun i A H=>?_;rw[qZi]at A;have I:=wid_le w;rw[List.getElem_append];simp only[cutD,List.getElem_map,yZ,lTk,List.getElem_take,List.getElem_replicate];have:((i:Int)<w) ↔ i<wid w:=by unfold wid;omega
 by_cases h:i<wid w
 ·rw[if_pos (this.2 h),dif_pos om,qQt 0 om]
 ·rw[if_neg fun B=>h (this.1 B),dif_neg om]
theorem clampW (w:Int):(if (32:Int)<(if (0:Int) > w then 0 else w) then (32:Int) else (if (0:Int) > w then 0 else w))=((wid w:Nat):Int):=by
 unfold wid;split <;> (try split) <;> omega
theorem dcut (A:World)(width:Int)(J:d.length=32) :
  Fn prog 180 #[dg d,.int .i64 width] A fun v w'=>v=dg (cutD width d)/\No A w':=by
 refine go180 sm ?_;have N:No A (((A.alloc (.cells (bl d) 75)).alloc (.cells (bl (zK 32 0)) 75)).alloc (.cells (bl (zK 32 0)) 75)):=(((Fr.refl _ _).alloc _).alloc _).alloc _;have O:(((A.alloc (.cells (bl d) 75)).alloc (.cells (bl (zK 32 0)) 75)).alloc (.cells (bl (zK 32 0)) 75)).heap[A.heap.size]?=some (.cells (bl d) 75 (0,0)):=qQs (qQs (qQb _ _))
 have R:(((A.alloc (.cells (bl d) 75)).alloc (.cells (bl (zK 32 0)) 75)).alloc (.cells (bl (zK 32 0)) 75)).heap[A.heap.size+1]?=some (.cells (bl (zK 32 0)) 75 (0,0)):=by
  have:=qQb (A.alloc (.cells (bl d) 75)) (.cells (bl (zK 32 0)) 75);rw[qQf]at this;exact qQs this
 have E:(((A.alloc (.cells (bl d) 75)).alloc (.cells (bl (zK 32 0)) 75)).alloc (.cells (bl (zK 32 0)) 75)).heap[A.heap.size+1+1]?=some (.cells (bl (zK 32 0)) 75 (0,0)):=by
  have:=qQb ((A.alloc (.cells (bl d) 75)).alloc (.cells (bl (zK 32 0)) 75)) (.cells (bl (zK 32 0)) 75);rw[qQf,qQf]at this;exact this
 have T:=wid_le width;have H:((32:Nat)=0)=False:=sm
 have sb:sbO (.int .i64 ((wid width:Nat):Int)) 32=some (wid width):=by simp only[sbO];rw[if_pos om,iTn]
 simp -implicitDefEqProofs only[go_sem,yJ,Tryz.f180,yN,qQk,maxL,minL,clampW,qQw,optB,sb,H,yV,yW];generalize ((A.alloc (.cells (bl d) 75)).alloc (.cells (bl (zK 32 0)) 75)).alloc (.cells (bl (zK 32 0)) 75)=W at *;have B:=run_copy (P:=prog) (ts:=#[22,22]) (t:=22) rfl slc22 sz5 (w:=W.drew) (b:=A.heap.size+1+1) (o:=0) (dn:=wid width) (dc:=32) E (row_by (w:=W.drew) O (m:=wid width) (cap:=32) om T) (qXs _) (by rw[qXj,zl32];omega);have U:min (d.take (wid width)).length (wid width)=wid width:=by rw[lTk];omega
 rw[U,yK,zG (by rw[zB,lTk];omega)]at B
 have I:qXz ((d.take (wid width)).map u8) 0 (bl (zK 32 0))=bl (cutD width d):=by
  apply Array.toList_inj.1;rw[qJm _ _ _ (by rw[zB,lTk,qXj,zl32];omega),cutD_eq width d J,zB,lTk,J];simp only[j5,zL,jY,List.map_append,List.map_replicate,List.drop_replicate]
  congr 2;omega
 rw[I]at B;refine qQj ⟨_,_,B,?_⟩;have Y:=qQd (o:=.cells (bl (cutD width d)) 75 (0,0)) E;have r:=rd_d agg75 sz75 (show (put W.drew (A.heap.size+1+1) (.cells (bl (cutD width d)) 75 (0,0))).heap[A.heap.size+1+1]?=_ from qQd E) (qZi width d);have M:(put W.drew (A.heap.size+1+1) (.cells (bl (cutD width d)) 75 (0,0))).heap[A.heap.size+1]?=some (.cells (bl (zK 32 0)) 75 (0,0)):=qQi R om;have q:=wr_d sz75 M zl32 (qZi width d);have V:=rd_d agg75 sz75 (qQd (o:=.cells (bl (cutD width d)) 75 (0,0)) M) (qZi width d);generalize cutD width d=d' at *;simp -implicitDefEqProofs only[go_sem,yJ,r,q,V];exact (N.drew.put (b:=A.heap.size+1+1) _ fun h=>by omega).put (b:=A.heap.size+1) _ fun h=>by omega
theorem within (A:World)(n lo hi:Int):Fn prog 182 #[.int .i64 n,.int .i64 lo,.int .i64 hi] A fun v w'=>v=.int .i64 (max lo (min n hi))/\w'=A:=by
 refine go182 sm ?_
 have e:(if lo<(if hi<n then hi else n) then (if hi<n then hi else n) else lo)=max lo (min n hi):=by split <;> (try split) <;> omega
 simp -implicitDefEqProofs only[go_sem,yJ,Tryz.f182,maxL,minL,gt_iff_lt,e,and_self]
theorem widI (w:Int):max 0 (min w 32)=((wid w:Nat):Int):=by unfold wid;omega
theorem mk0 (A w:World){c:Nat}(B:c<=1099511627776)(f:No A w):∃ w',(Instr.makeSlice 22 (.int .i64 0) (.int .i64 (c:Nat))).run prog w=.ok (.slice (some ⟨w.heap.size,0,none⟩) 0 c) w'/\NwB A w' (.slice (some ⟨w.heap.size,0,none⟩) 0 c) []/\No A w'/\No w w':=by
 have:=run_mk (P:=prog) (t:=22) (by':=1) slc22 sz5 by5 zero5 (l:=0) (c:=c) (Nat.zero_le _) om om .i64 .i64 w;refine⟨_,this,?_,f.alloc _,(Fr.refl _ _).alloc _⟩;have h:=mk_nw A w 5 1 0 c (madeCells (Value.int .u8 0).cells (c*1)) f.size (size_madeCells _ _) (Nat.zero_le _);unfold NwB;simpa using h
theorem leafText (A:World){k:Bs}(hk:k.length=32)(H:By A vv val)(hl:val.length<=549755813888) :
  Fn prog 197 #[dg k,vv] A fun v w'=>NwB A w' v (leafT k val)/\No A w':=by
 refine go197 sm ?_;have T:No A (A.alloc (.cells (bl k) 76)):=(Fr.refl _ _).alloc _;have U:(A.alloc (.cells (bl k) 76)).heap[A.heap.size]?=some (.cells (bl k) 76 (0,0)):=qQb _ _;have a0:=H.fr0 T;have a1:IntKind.i64.wrap (33+((val.length:Nat):Int))=((33+val.length:Nat):Int):=qXi (a:=33);obtain⟨va,vc,rfl,_⟩:=H.at;simp -implicitDefEqProofs only[go_sem,yJ,Tryz.f197,yN,a1];generalize A.alloc (.cells (bl k) 76)=W at *;obtain⟨V,I,b2,f2,Y⟩:=mk0 A W (c:=33+val.length) om T;refine qQj ⟨_,_,I,?_⟩;simp -implicitDefEqProofs only[go_sem];refine qQm (v:=.slice (some ⟨V.heap.size,0,none⟩) 1 1) (w':=V.alloc (.cells (bl [0]) 5)) rfl ?_;simp -implicitDefEqProofs only[go_sem,yJ];obtain⟨v3,J,M,b3,f3,g3⟩:=b2.push app22_22 [0] (bd47 sm) sm f2;refine qQj ⟨v3,J,M,?_⟩;have a3:=Y.size;have B:∀ b,qQc (.slice (some ⟨W.heap.size,0,none⟩) 0 (33+val.length))=some b->b=W.heap.size:=fun b h=>by simpa [qQc,eq_comm] using h
 have k3:J.heap[A.heap.size]?=some (.cells (bl k) 76 (0,0)):=g3.at (Y.at U id) fun h=>by
  have:=B _ h;have:=qQh U;omega
 have N:((32:Nat)=0)=False:=sm
 simp -implicitDefEqProofs only[go_sem,yJ,qQw,optB,N,yV,yW];have E:=row_by (w:=J) k3 (m:=32) (cap:=32) om om;rw[zG om]at E;obtain⟨v4,w4,O,b4,Z,g4⟩:=b3.cat app22_22 E (bd47 (by simp;omega)) (by simp;omega) f3;refine qQj ⟨v4,w4,O,?_⟩;simp -implicitDefEqProofs only[go_sem,yJ];obtain⟨v5,w5,R,b5,f5,g5⟩:=b4.cat app22_22 (H.fr0 Z) (bd47 (by simp;omega)) (by simp;omega) Z;refine qQj ⟨v5,w5,R,?_⟩;simp -implicitDefEqProofs only[go_sem];exact⟨by simpa [leafT] using b5,f5⟩
theorem branchText (A:World)(width:Int){l r:Bs}(hl:l.length=32)(hr:r.length=32) :
  Fn prog 183 #[.int .i64 width,dg l,dg r] A fun v w'=>NwB A w' v (qWb width l r)/\No A w':=by
 refine go183 sm ?_;have f1:No A ((A.alloc (.cells (bl l) 75)).alloc (.cells (bl r) 75)):=((Fr.refl _ _).alloc _).alloc _;have k1:((A.alloc (.cells (bl l) 75)).alloc (.cells (bl r) 75)).heap[A.heap.size]?=some (.cells (bl l) 75 (0,0)):=qQs (qQb _ _)
 have O:((A.alloc (.cells (bl l) 75)).alloc (.cells (bl r) 75)).heap[A.heap.size+1]?=some (.cells (bl r) 75 (0,0)):=by
  have:=qQb (A.alloc (.cells (bl l) 75)) (.cells (bl r) 75);rw[qQf]at this;exact this
 simp -implicitDefEqProofs only[go_sem,yJ,Tryz.f183,yN];generalize (A.alloc (.cells (bl l) 75)).alloc (.cells (bl r) 75)=W at *;refine qQa pl182 ((within W width 0 32).mono ?_);rintro _ _ ⟨rfl,rfl⟩;have hw:=wid_le width;have a1:IntKind.i64.wrap (2*((wid width:Nat):Int))=((2*wid width:Nat):Int):=i64mul (a:=2) (b:=wid width) om;have a2:IntKind.i64.wrap (1+((2*wid width:Nat):Int))=((1+2*wid width:Nat):Int):=qXi (a:=1) (b:=2*wid width);rw[widI];generalize R:wid width=E at *;rename_i N;simp -implicitDefEqProofs only[go_sem,a1,a2];obtain⟨w2,T,b2,f2,U⟩:=mk0 A N (c:=1+2*E) om f1;refine qQj ⟨_,_,T,?_⟩;simp -implicitDefEqProofs only[go_sem];refine qQm (v:=.slice (some ⟨w2.heap.size,0,none⟩) 1 1) (w':=w2.alloc (.cells (bl [1]) 5)) rfl ?_;simp -implicitDefEqProofs only[go_sem,yJ];obtain⟨V,H,I,b3,f3,g3⟩:=b2.push app22_22 [1] (bd47 sm) sm f2;refine qQj ⟨V,H,I,?_⟩;have a6:=U.size;have B:∀ b,qQc (.slice (some ⟨N.heap.size,0,none⟩) 0 (1+2*E))=some b->b=N.heap.size:=fun b h=>by simpa [qQc,eq_comm] using h
 have k3:H.heap[A.heap.size]?=some (.cells (bl l) 75 (0,0)):=g3.at (U.at k1 id) fun h=>by
  have:=B _ h;have:=qQh k1;omega
 have j3:H.heap[A.heap.size+1]?=some (.cells (bl r) 75 (0,0)):=g3.at (U.at O id) fun h=>by
  have:=B _ h;have:=qQh O;omega
 have J:((32:Nat)=0)=False:=sm
 have sb:sbO (.int .i64 ((E:Nat):Int)) 32=some E:=by simp only[sbO];rw[if_pos om,iTn]
 have Y:∀ b,qQc V=some b->b≠A.heap.size/\b≠A.heap.size+1:=fun b hb=>by
  have:=qQh O
  have h3:N.heap.size<=b:=by
   have h4:=b3.own.lt hb;obtain⟨a7,a8,M,_,_,a9,h5⟩:=app_fresh app22_22 b2 (m:=1) (xs:=bl [1]) sm rfl om (bd47 sm) sm f2;have e:=I.symm.trans M;simp only[Result.ok.injEq]at e;obtain⟨rfl,rfl⟩:=e
   rcases h5 b hb with h | h
   ·have:=B _ h;omega
   ·omega
  omega
 simp -implicitDefEqProofs only[go_sem,yJ,qQw,optB,sb,J,yV,yW];have Z:=row_by (w:=H.drew) k3 (m:=E) (cap:=32) om om;have a0:NwB A H.drew V ([]++[1]):=b3.fr0 (Fr.refl _ _).drew;obtain⟨v4,w4,a3,b4,f4,g4⟩:=a0.cat app22_22 Z (bd47 (by simp;omega)) (by simp;omega) f3.drew;refine qQj ⟨v4,w4,a3,?_⟩;simp -implicitDefEqProofs only[go_sem,yJ,qQw,optB,sb,J,yV,yW];have j4:w4.heap[A.heap.size+1]?=some (.cells (bl r) 75 (0,0)):=g4.at j3 fun h=>(Y _ h).2 rfl;have a4:=row_by (w:=w4) j4 (m:=E) (cap:=32) om om;obtain⟨v5,w5,a5,b5,f5,g5⟩:=b4.cat app22_22 a4 (bd47 (by simp;omega)) (by simp;omega) f4;refine qQj ⟨v5,w5,a5,?_⟩;simp -implicitDefEqProofs only[go_sem];refine⟨?_,f5⟩;unfold qWb;rw[R];simpa using b5
theorem leafT_len (k v:Bs):(leafT k v).length=1+k.length+v.length:=by simp[leafT];omega
theorem branchT_len (w:Int)(l r:Bs):(qWb w l r).length<=65:=by have:=wid_le w;simp[qWb];omega
theorem leaf (A:World)(N:Tabs A)(width:Int){k:Bs}(H:k.length=32)(O:By A vv val)(R:val.length<=549755813888) :
  Fn prog 193 #[.int .i64 width,dg k,vv] A fun v w'=>v=dg (leafD width k val)/\No A w':=by
 refine go193 sm ?_;have B:No A ((A.alloc (.cells (bl k) 76)).alloc (.cells (bl (zK 32 0)) 75)):=((Fr.refl _ _).alloc _).alloc _;have T:((A.alloc (.cells (bl k) 76)).alloc (.cells (bl (zK 32 0)) 75)).heap[A.heap.size]?=some (.cells (bl k) 76 (0,0)):=qQs (qQb _ _)
 have U:((A.alloc (.cells (bl k) 76)).alloc (.cells (bl (zK 32 0)) 75)).heap[A.heap.size+1]?=some (.cells (bl (zK 32 0)) 75 (0,0)):=by
  have:=qQb (A.alloc (.cells (bl k) 76)) (.cells (bl (zK 32 0)) 75);rw[qQf]at this;exact this
 simp -implicitDefEqProofs only[go_sem,yJ,Tryz.f193,yN,qQk];generalize (A.alloc (.cells (bl k) 76)).alloc (.cells (bl (zK 32 0)) 75)=W at *;have V:=rd_d agg76 sz76 T H;simp -implicitDefEqProofs only[go_sem,yJ,V];refine qQa pl197 ((leafText W H (O.fr0 B) R).mono ?_);rintro tv Y ⟨b2,E⟩;simp -implicitDefEqProofs only[go_sem];refine qQa pl181 ((dsum Y ((N.no B).no E) b2.by (by rw[leafT_len];omega)).mono ?_);rintro _ Z ⟨rfl,I⟩;simp -implicitDefEqProofs only[go_sem,yJ];refine qQa pl180 ((dcut Z width (sum_len _)).mono ?_);rintro _ w4 ⟨rfl,J⟩;have M:=J.at (I.at (E.at U id) id) id;show denL _ _ _ _ _ _;have e:cutD width (Sha.sum (leafT k val))=leafD width k val:=rfl;rw[e];have q:=wr_d sz75 M zl32 (qZp width k val);have r:=rd_d agg75 sz75 (qQd (o:=.cells (bl (leafD width k val)) 75 (0,0)) M) (qZp width k val);generalize leafD width k val=d at q r;simp -implicitDefEqProofs only[go_sem,yJ,q,r];exact (((B.trans E).trans I).trans J).put (b:=A.heap.size+1) _ fun h=>by omega
theorem branch (A:World)(R:Tabs A)(width:Int){l r:Bs}(E:l.length=32)(H:r.length=32) :
  Fn prog 160 #[.int .i64 width,dg l,dg r] A fun v w'=>v=dg (qXd width l r)/\No A w':=by
 refine go160 sm ?_;have I:No A (((A.alloc (.cells (bl l) 75)).alloc (.cells (bl r) 75)).alloc (.cells (bl (zK 32 0)) 75)):=(((Fr.refl _ _).alloc _).alloc _).alloc _;have T:(((A.alloc (.cells (bl l) 75)).alloc (.cells (bl r) 75)).alloc (.cells (bl (zK 32 0)) 75)).heap[A.heap.size]?=some (.cells (bl l) 75 (0,0)):=qQs (qQs (qQb _ _))
 have U:(((A.alloc (.cells (bl l) 75)).alloc (.cells (bl r) 75)).alloc (.cells (bl (zK 32 0)) 75)).heap[A.heap.size+1]?=some (.cells (bl r) 75 (0,0)):=by
  have:=qQb (A.alloc (.cells (bl l) 75)) (.cells (bl r) 75);rw[qQf]at this;exact qQs this
 have V:(((A.alloc (.cells (bl l) 75)).alloc (.cells (bl r) 75)).alloc (.cells (bl (zK 32 0)) 75)).heap[A.heap.size+1+1]?=some (.cells (bl (zK 32 0)) 75 (0,0)):=by
  have:=qQb ((A.alloc (.cells (bl l) 75)).alloc (.cells (bl r) 75)) (.cells (bl (zK 32 0)) 75);rw[qQf,qQf]at this;exact this
 simp -implicitDefEqProofs only[go_sem,yJ,Tryz.f160,yN,qQk];generalize ((A.alloc (.cells (bl l) 75)).alloc (.cells (bl r) 75)).alloc (.cells (bl (zK 32 0)) 75)=W at *;have Y:=rd_d agg75 sz75 T E;have Z:=rd_d agg75 sz75 U H;simp -implicitDefEqProofs only[go_sem,yJ,Y,Z];refine qQa pl183 ((branchText W width E H).mono ?_);rintro tv w2 ⟨b2,B⟩;simp -implicitDefEqProofs only[go_sem];refine qQa pl181 ((dsum w2 ((R.no I).no B) b2.by (by have:=branchT_len width l r;omega)).mono ?_);rintro _ w3 ⟨rfl,J⟩;simp -implicitDefEqProofs only[go_sem,yJ];refine qQa pl180 ((dcut w3 width (sum_len _)).mono ?_);rintro _ w4 ⟨rfl,M⟩;have N:=M.at (J.at (B.at V id) id) id;show denL _ _ _ _ _ _;have e:cutD width (Sha.sum (qWb width l r))=qXd width l r:=rfl;rw[e];have q:=wr_d sz75 N zl32 (qXm width l r);have O:=rd_d agg75 sz75 (qQd (o:=.cells (bl (qXd width l r)) 75 (0,0)) N) (qXm width l r);generalize qXd width l r=d at q O;simp -implicitDefEqProofs only[go_sem,yJ,q,O];exact (((I.trans B).trans J).trans M).put (b:=A.heap.size+1+1) _ fun h=>by omega
end Go.V
