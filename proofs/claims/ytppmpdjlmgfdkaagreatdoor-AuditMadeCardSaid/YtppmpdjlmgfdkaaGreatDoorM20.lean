/- Helpers. -/
import Derived.Test.YtppmpdjlmgfdkaaGreatDoorM19
import Derived.Test.YtppmpdjlmgfdkaaGreatDoorM17
import Derived.Test.YtppmpdjlmgfdkaaGreatDoorM13
import Derived.Test.YtppmpdjlmgfdkaaGreatDoorM18
set_option linter.all false
set_option maxRecDepth 100000
set_option maxHeartbeats 8000000
open Array renaming all_toList->kJ
open BitVec renaming ofNat->zW,getLsbD_of_ge->kK,toNat_ofNat->zY,ofInt_natCast->xW,getLsbD_xor->xG,getLsbD_one->kV,toNat_and->y7
open Bool renaming true_and->kW,false_and->kY,bne_false->kU
open Int renaming toNat_zero->vI
open List renaming append_nil->z4,replicate->zG,take_of_length_le->zB,append_assoc->zU,getElem?_toArray->zJ,getElem?_append_right->jR,getElem?_eq_none->vN,length_map->zE,getElem?_map->jL,getElem?_eq_getElem->zZ,map_append->vD,take_length->kQ,getElem?_append_left->z8,size_toArray->kG,getElem_mem->vO,getElem?_range->kF,take_zero->jT,range->qI,ext_getElem?->kH,nil_append->zA,getElem_append_left->z9,mem_append_right->zF,mem_append_left->zH
open Nat renaming reduceEqDiff->j7,zero_add->jV,reduceBEq->yX,reduceAdd->vS,mul_one->j8,le_refl->xC,add_zero->yK,zero_mul->j9,zero_le->jJ,sub_zero->yQ,div_div_eq_div_mul->yD
open Option renaming getD_some->kD,map->yY
open Go.Value renaming cells->yU,agg->vG
namespace Go.V
open Go.Proofs.Tryz Go.V.Tryz
open Go.Proofs Sha
variable {at':Bool} {a bs d k:Bs} {wd:Int} {b c i n ro:Nat} {fz:Nat × Nat} {F G:Nat->Bool} {av bv esv v vv:Value} {w w0 w1:World}
section
namespace R
open Aud
abbrev b2 (b:Bool):Byte:=if b then 1 else 0
def divL:List Bool:=[true,false,false,false,false,false,true,false,false,true,true,false,false,false,false,false,true,false,false,false,true,true,true,false,true,true,false,true,true,false,true,true,true]
theorem divL_bit (t:Nat)(A:t<32):divL.getD (t+1) false=crcG.getLsbD t:=by
 have:∀ t:Fin 32,divL.getD (t.val+1) false=crcG.getLsbD t.val:=j0
 exact this ⟨t,A⟩
def regP (A:W32)(ms:List Bool)(i:Nat):W32:=(ms.take i).foldl qJj A
theorem regP_succ (A:W32)(ms:List Bool)(h:i<ms.length):regP A ms (i+1)=step1 (regP A ms i ^^^ (if ms.getD i false then 1 else 0)):=by
 unfold regP;rw[List.take_succ,List.foldl_append,gDq,zZ h]
 rfl
def lsF (n:Nat)(F:Nat->Bool):Bs:=(qI n).map fun t=>b2 (F t)
theorem qZt (n:Nat)(F:Nat->Bool):(lsF n F).length=n:=by simp[lsF]
theorem lsF_at {t:Nat}(h:t<n):(lsF n F).getD t 0=b2 (F t):=by
 unfold lsF;rw[gDq,jL,kF h];rfl
theorem lsF_set {x:Byte}(hi:i<n)(B:x=b2 (G i))(h:∀ t,t<n->t≠i->G t=F t):(lsF n F).set i x=lsF n G:=by
 apply kH;intro t;unfold lsF;rw[List.getElem?_set,jL,jL,zE,List.length_range]
 by_cases e:i=t
 ·subst e;rw[if_pos rfl,if_pos hi,kF hi,B];rfl
 ·rw[if_neg e]
  by_cases A:t<n
  ·rw[kF A];show some (b2 (F t))=some (b2 (G t));rw[h t A fun D=>e D.symm]
  ·rw[vN (by simp;omega)];rfl
theorem lsF_ext (h:∀ t,t<n->F t=G t):lsF n F=lsF n G:=by
 unfold lsF;exact List.map_congr_left fun t A=>by rw[h t (List.mem_range.1 A)]
theorem bit8 (x:Byte)(j:Nat)(D:j<8):andK .u8 (shrK .u8 (x.toNat:Int) (j:Int)) 1=((b2 (x.getLsbD j)).toNat:Int):=by
 rw[shr8i _ _ x8];have A:=x.isLt;have E:x.toNat / 2 ^ j<256:=Nat.lt_of_le_of_lt (Nat.div_le_self _ _) A;have e:andK .u8 ((x.toNat / 2 ^ j:Nat):Int) 1=IntKind.u8.wrap (((BitVec.ofInt 8 ((x.toNat / 2 ^ j:Nat):Int) &&& BitVec.ofInt 8 ((1:Nat):Int)).toNat:Nat):Int):=rfl;rw[e,xW,xW,y7,zY,zY,Nat.mod_eq_of_lt x8,Nat.mod_eq_of_lt j0,Nat.and_one_is_mod,wrap_u8]
 have B:x.getLsbD j=decide (x.toNat / 2 ^ j % 2=1):=by
  show x.toNat.testBit j=_;rw[Nat.testBit_eq_decide_div_mod_eq]
 rw[B]
 by_cases h:x.toNat / 2 ^ j % 2=1
 ·rw[decide_eq_true h,h];rfl
 ·rw[decide_eq_false h]
  have:x.toNat / 2 ^ j % 2=0:=x8
  rw[this];rfl
theorem u64id (j:Nat)(h:j<2 ^ 62):IntKind.u64.wrap (j:Int)=(j:Int):=by
 rw[qVd];omega
def bsI (w0:World)(bv:Value)(bs:Bs)(n:Nat)(vs:List Value)(w:World):Prop :=
 ∃ (i:Nat) (v:Value),vs=[bv,v,.int .i64 (i:Nat)]/\i<=bs.length/\n=bs.length - i/\NwB w0 w v ((qJs (bs.take i)).map b2)/\No w0 w
def bsJ (w0:World)(bv:Value)(bs:Bs)(i:Nat)(n:Nat)(vs:List Value)(w:World):Prop :=
 ∃ (j:Nat) (v:Value),vs=[bv,v,.int .i64 (i:Nat),.int .i64 (j:Nat)]/\j<=8/\n=8 - j/\NwB w0 w v ((qJs (bs.take i)++(qI j).map (bs.getD i 0).getLsbD).map b2)/\No w0 w
theorem bits2 (w0:World)(U:By w0 bv bs)(hl:bs.length<=2 ^ 30):Fn prog 173 #[bv] w0 fun v w'=>NwB w0 w' v ((qJs bs).map b2)/\No w0 w':=by
 refine go173 sm ?_;obtain⟨V,W,rfl,Y⟩:=U.slice;simp -implicitDefEqProofs only[go_sem,Tryz.f173];refine loopD [0,3,4] (bsI w0 (.slice V bs.length W) bs) bs.length ⟨0,.slice .none 0 0,rfl,x8,rfl,NwB.nil _ _,Fr.refl _ _⟩ ?_;rintro _ vs H g ⟨i,v,rfl,hi,rfl,A,B⟩
 by_cases D:i<bs.length
 ·have I:=dTo ((i:Int)<((bs.length:Nat):Int))
  have c1:=iSu (i:=i);simp -implicitDefEqProofs only[go_sem,j7,I];refine loopD [0,3,4,5] (bsJ w0 (.slice V bs.length W) bs i) 8 ⟨0,v,rfl,x8,rfl,by rw[List.range_zero,List.map_nil,z4];exact A,B⟩ ?_;clear A B;rintro _ vs H g ⟨j,v,rfl,hj,rfl,A,B⟩
  by_cases J:j<8
  ·have M:=dTo ((j:Int)<8)
   have c2:=iSu (i:=j);have c3:=u64id j x8;have y:=iBd (i:=i) (n:=bs.length);obtain⟨b,o,cap,he,r⟩:=by_rd (U.fr0 B) D;cases he;have N:(qJs (bs.take i)).length=8*i:=by rw[allBits_len,lTk];omega
   obtain⟨Z,w4,E,b4,f4,g4,_⟩:=NwB.grow A (b2 ((bs.getD i 0).getLsbD j)) (by simp[N];omega) B
   have e4:(qJs (bs.take i)++(qI j).map (bs.getD i 0).getLsbD).map b2++[b2 ((bs.getD i 0).getLsbD j)]=(qJs (bs.take i)++(qI (j+1)).map (bs.getD i 0).getLsbD).map b2:=by
    rw[List.range_succ,vD,vD,vD,vD,zU];rfl
   rw[e4]at b4;have O:=bit8 (bs.getD i 0) j J;generalize (bs.getD i 0).getLsbD j=xb at E O;generalize bs.getD i 0=x at r O;have nj:((j:Int)<0)=False:=sm
   simp -implicitDefEqProofs only[go_sem,j7,yU,jV,M,y,and_self,iTn,j8,r,c3,nj,if_false,O];refine qQn (v:=.slice (some ⟨H.heap.size,0,none⟩) 1 1) (w':=H.alloc (.cells (bl [b2 xb]) 5)) rfl ?_;simp -implicitDefEqProofs only[go_sem,j7];refine qQj ⟨Z,w4,E,?_⟩;simp -implicitDefEqProofs only[go_sem,j7,c2];exact⟨8 - (j+1),x8,j+1,Z,rfl,x8,rfl,b4,f4⟩
  ·have M:=dFo ((j:Int)<8)
   have R:j=8:=x8
   subst R;simp -implicitDefEqProofs only[go_sem,j7,M,c1];refine⟨bs.length - (i+1),x8,i+1,v,rfl,x8,rfl,?_,B⟩
   have e5:qJs (bs.take (i+1))=qJs (bs.take i)++(qI 8).map (bs.getD i 0).getLsbD:=by
    rw[<- qXu D];unfold qJs;rw[vD,List.flatten_append];show _++(bitsOf (bs.getD i 0)++[])=_;rw[z4];rfl
   rw[e5];exact A
 ·have I:=dFo ((i:Int)<((bs.length:Nat):Int))
  have e:i=bs.length:=x8
  subst e;rw[kQ]at A;simp -implicitDefEqProofs only[go_sem,j7,I];exact⟨A,B⟩
def DivT (w:World):Prop:=∀ i,i<33->rc w 1 i=some (u8 (b2 (divL.getD i false)))
theorem DivT.no {w w':World}(h:DivT w)(k:No w w'):DivT w':=fun i hi=>by rw[k.rc (rc_lt (h i hi)) id];exact h i hi
def dv1 (w0:World)(A:W32)(k:Nat)(F:Nat->Bool)(n:Nat)(vs:List Value)(w:World):Prop :=
 ∃ (i:Nat) (v:Value),vs=[u32 A,v,.int .i64 (k:Nat),.int .i64 (i:Nat)]/\i<=32/\n=32 - i/\NwB w0 w v (lsF (k+i) F)/\No w0 w
def dv2 (w0:World)(A:W32)(k:Nat)(F:Nat->Bool)(n:Nat)(vs:List Value)(w:World):Prop :=
 ∃ (i:Nat) (v:Value),vs=[u32 A,v,.int .i64 (k:Nat),.int .i64 (i:Nat)]/\i<=32/\n=32 - i/\NwB w0 w v (lsF (k+32) fun t=>F t != (decide (t<i) && A.getLsbD t))/\No w0 w
def dv3 (w0:World)(A:W32)(ms:List Bool)(n:Nat)(vs:List Value)(w:World):Prop :=
 ∃ (i:Nat) (v:Value) (F:Nat->Bool),vs=[v,.int .i64 (ms.length:Nat),.int .i64 (i:Nat)]/\i<=ms.length/\n=ms.length - i/\NwB w0 w v (lsF (ms.length+32) F)/\No w0 w/\∀ t,i<=t->t<ms.length+32->F t=(ms.getD t false != (regP A ms i).getLsbD (t - i))
def dv4 (w0:World)(k i:Nat)(F:Nat->Bool)(n:Nat)(vs:List Value)(w:World):Prop :=
 ∃ (j:Nat) (v:Value),vs=[v,.int .i64 (k:Nat),.int .i64 (i:Nat),.int .i64 (j:Nat)]/\j<=33/\n=33 - j/\NwB w0 w v (lsF (k+32) fun t=>F t != (decide (i<=t/\t<i+j) && divL.getD (t - i) false))/\No w0 w
def dv5 (w0:World)(v:Value)(k:Nat)(R:W32)(N q o cap:Nat)(F:Nat->Bool)(n:Nat)(vs:List Value)(w:World):Prop :=
 ∃ (i:Nat) (x:W32),vs=[v,.int .i64 (k:Nat),u32 x,.int .i64 (i:Nat)]/\i<=32/\n=32 - i/\(∀ t,x.getLsbD t=(decide (t<i) && R.getLsbD t))/\No w0 w/\NwB w0 w v (lsF N F)
theorem b2_xor (a b:Bool):b2 a ^^^ b2 b=b2 (a != b):=by cases a <;> cases b <;> rfl
theorem ext8b (b:Bool):IntKind.u32.wrap ((b2 b).toNat:Int)=((if b then (1:W32) else 0).toNat:Int):=by cases b <;> rfl
theorem and32_1 (x:W32):andK .u32 (x.toNat:Int) 1=((x &&& 1#32).toNat:Int):=and32n x 1
theorem low1 (x:W32):(x &&& 1#32).setWidth 8=b2 (x.getLsbD 0):=by
 refine BitVec.eq_of_toNat_eq ?_;rw[BitVec.toNat_setWidth,y7,show (1#32).toNat=1 from rfl,Nat.and_one_is_mod]
 have A:x.getLsbD 0=decide (x.toNat % 2=1):=by
  show x.toNat.testBit 0=_;rw[Nat.testBit_zero]
 rw[A]
 by_cases h:x.toNat % 2=1
 ·rw[decide_eq_true h,h];rfl
 ·rw[decide_eq_false h]
  have:x.toNat % 2=0:=x8
  rw[this];rfl
theorem div_next {A:W32}{ms:List Bool}(hi:i<ms.length)(B:∀ t, i<=t->t<ms.length+32->F t=(ms.getD t false != (regP A ms i).getLsbD (t - i))):∀ t, i+1<=t->t<ms.length+32 ->
  (F t != (F i && (decide (i<=t/\t<i+33) && divL.getD (t - i) false)))=(ms.getD t false != (regP A ms (i+1)).getLsbD (t - (i+1))):=by
 intro t M E;rw[B t x8 E,B i (xC _) x8,Nat.sub_self,regP_succ A ms hi];generalize regP A ms i=R
 obtain⟨s,rfl⟩:∃ s,t=i+1+s:=⟨t - (i+1),x8⟩
 rw[show i+1+s - i=s+1 by omega,show i+1+s - (i+1)=s by omega];generalize ms.getD i false=m;generalize ms.getD (i+1+s) false=H
 have I:(R ^^^ (if m then (1:W32) else 0)).getLsbD 0=(m != R.getLsbD 0):=by
  rw[xG]
  cases m <;> cases R.getLsbD 0 <;> rfl
 by_cases D:s<32
 ·have J:(R ^^^ (if m then (1:W32) else 0)).getLsbD (s+1)=R.getLsbD (s+1):=by
   rw[xG]
   have:(if m then (1:W32) else 0).getLsbD (s+1)=false:=by
    cases m
    ·simp
    ·show (1#32).getLsbD (s+1)=false
     rw[kV];simp
   rw[this,Bool.xor_false]
  rw[qJe D,I,J,decide_eq_true x8,kW,divL_bit s D];generalize R.getLsbD (s+1)=x;generalize R.getLsbD 0=y;generalize crcG.getLsbD s=z
  cases m <;> cases H <;> cases x <;> cases y <;> cases z <;> rfl
 ·rw[kK _ (s+1) x8,kK _ s x8,decide_eq_false x8,kY,Bool.and_false,kU,kU]
theorem divide (w0:World)(ht:DivT w0)(A:W32)(hv:By w0 bv bs)(hl:bs.length<=2 ^ 30):Fn prog 145 #[u32 A,bv] w0 fun v w'=>v=u32 (qKz A bs)/\No w0 w':=by
 refine go145 sm ?_;simp -implicitDefEqProofs only[go_sem,j7,jV,Tryz.f145];refine qQa pl173 ((bits2 w0 hv hl).mono ?_);rintro lv w1 ⟨V,f1⟩;have a9:=allBits_len bs;rw[crcFeed_bits];generalize qJs bs=ms at *
 have e1:ms.map b2=lsF ms.length fun t=>ms.getD t false:=by
  apply kH;intro t;unfold lsF;rw[jL,jL]
  by_cases h:t<ms.length
  ·rw[kF h,zZ h]
   show _=some (b2 (ms.getD t false));rw[gDq,zZ h];rfl
  ·rw[vN x8,vN (by simp;omega)];rfl
 rw[e1]at V;obtain⟨la,lc,rfl⟩:=V.slice;rw[qZt]at V ⊢;simp -implicitDefEqProofs only[go_sem];refine loopD [0,5,6,7] (dv1 w0 A ms.length fun t=>ms.getD t false) 32 ⟨0,_,rfl,x8,rfl,V,f1⟩ ?_;clear V f1;rintro _ vs M g ⟨i,v,rfl,hi,rfl,B,D⟩
 by_cases N:i<32
 ·have I:=dTo ((i:Int)<32)
  have c1:=iSu (i:=i);obtain⟨v4,w4,a3,J,W,g4,_⟩:=NwB.grow B 0 (by rw[qZt];omega) D
  have e2:(lsF (ms.length+i) fun t=>ms.getD t false)++[0]=lsF (ms.length+(i+1)) fun t=>ms.getD t false:=by
   unfold lsF;rw[<- Nat.add_assoc,List.range_succ,vD]
   show _++[0]=_++[b2 (ms.getD (ms.length+i) false)]
   rw[gDq,vN x8];rfl
  rw[e2]at J;simp -implicitDefEqProofs only[go_sem,j7,yU,jV,I];refine qQn (v:=.slice (some ⟨M.heap.size,0,none⟩) 1 1) (w':=M.alloc (.cells (bl [0]) 5)) rfl ?_;simp -implicitDefEqProofs only[go_sem,j7];refine qQj ⟨v4,w4,a3,?_⟩;simp -implicitDefEqProofs only[go_sem,j7,c1];exact⟨32 - (i+1),x8,i+1,v4,rfl,x8,rfl,J,W⟩
 ·have I:=dFo ((i:Int)<32)
  have e:i=32:=x8
  subst e;simp -implicitDefEqProofs only[go_sem,j7,I];refine loopD [0,5,6,8] (dv2 w0 A ms.length fun t=>ms.getD t false) 32 ⟨0,v,rfl,x8,rfl,by rw[lsF_ext (G:=fun t=>ms.getD t false) fun t _=>by simp];exact B,D⟩ ?_;clear B D;rintro _ vs M g ⟨i,v,rfl,hi,rfl,B,D⟩;obtain⟨q,o,cap,rfl,H⟩:=B.by.pos (by rw[qZt];omega)
  have E:=B.by
  rw[qZt]at H
  by_cases N:i<32
  ·have I:=dTo ((i:Int)<32)
   have c1:=iSu (i:=i);have c3:=u64id i x8;have y:=iBd (i:=i) (n:=ms.length+32);have r:=E.get (P:=prog) agg5 (i:=i) (by rw[qZt];omega);rw[lsF_at x8]at r;obtain⟨w4,q4,J,W⟩:=B.setB (i:=i) (by rw[qZt];omega) (b2 ((ms.getD i false != (decide (i<i) && A.getLsbD i)) != A.getLsbD i));rw[lsF_set (G:=fun t=>ms.getD t false != (decide (t<i+1) && A.getLsbD t)) x8 sm (fun t _ hne=>by simp only[show (t<i+1)=(t<i) from propext x8])]at J;have nj:((i:Int)<0)=False:=sm
   have s1:=shr32 A i x8;have s2:=and32_1 (A >>> i);have s3:IntKind.u8.wrap ((A >>> i &&& 1#32).toNat:Int)=((b2 (A.getLsbD i)).toNat:Int):=by rw[cut32,low1,BitVec.getLsbD_ushiftRight,yK]
   have Y:=xor8 (b2 (ms.getD i false != (decide (i<i) && A.getLsbD i))) (b2 (A.getLsbD i));rw[b2_xor]at Y;rw[qZt]at E B J ⊢;simp -implicitDefEqProofs only[go_sem,j7,I,y,and_self,iTn,j8,r,c3,nj,if_false,s1,s2,s3,Y,q4,c1];exact⟨32 - (i+1),x8,i+1,_,rfl,x8,rfl,J,D.trans' W fun b hb e=>by have hq:w0.heap.size<=q:=Nw.new B q rfl;subst e;omega⟩
  ·have I:=dFo ((i:Int)<32)
   have e:i=32:=x8
   subst e;simp -implicitDefEqProofs only[go_sem,j7,I];refine loopD [5,6,9] (dv3 w0 A ms) ms.length ⟨0,_,_,rfl,jJ _,rfl,B,D,fun t _ ht=>?_⟩ ?_
   ·show (ms.getD t false != (decide (t<32) && A.getLsbD t))=(ms.getD t false != A.getLsbD (t - 0))
    rw[yQ]
    by_cases h:t<32
    ·rw[decide_eq_true h,kW]
    ·rw[decide_eq_false h,kY,kK _ _ x8]
   clear B D E;rintro _ vs M g ⟨i,v,F,rfl,hi,rfl,B,D,hF⟩;obtain⟨q,o,cap,rfl,H⟩:=B.by.pos (by rw[qZt];omega)
   have E:=B.by
   rw[qZt]at H
   by_cases N:i<ms.length
   ·have I:=dTo ((i:Int)<(ms.length:Int))
    have c1:=iSu (i:=i);have y:=iBd (i:=i) (n:=ms.length+32);have r:=E.get (P:=prog) agg5 (i:=i) (by rw[qZt];omega);rw[lsF_at x8]at r
    have ce:(((b2 (F i)).toNat:Int) == 1)=F i:=by cases F i <;> rfl
    have Z:=div_next N hF;rw[qZt]at E B ⊢;simp -implicitDefEqProofs only[go_sem,j7,I,y,and_self,iTn,j8,r,ce]
    cases a0:F i with
    | false =>
     simp -implicitDefEqProofs only[go_sem,c1];refine⟨ms.length - (i+1),x8,i+1,_,F,rfl,x8,rfl,B,D,fun t U h2=>?_⟩;have:=Z t U h2;rw[a0,kY,kU]at this;exact this
    | true =>
     simp -implicitDefEqProofs only[go_sem];refine loopD [5,6,9,10] (dv4 w0 ms.length i F) 33 ⟨0,_,rfl,jJ _,rfl,by rw[lsF_ext (G:=F) fun t _=>by rw[decide_eq_false x8];simp];exact B,D⟩ ?_;clear B D E r;rintro _ vs M g ⟨j,v,rfl,hj,rfl,B,D⟩;obtain⟨q,o,cap,rfl,H⟩:=B.by.pos (by rw[qZt];omega)
     by_cases a4:j<33
     ·have O:=dTo ((j:Int)<33)
      have c2:=iSu (i:=j);have c4:IntKind.i64.wrap ((i:Int)+(j:Int))=((i+j:Nat):Int):=qXa;have y4:(0:Int)<=((i+j:Nat):Int)/\((i+j:Nat):Int)<((ms.length+32:Nat):Int):=x8
      have y5:=iBd (i:=j) (n:=33);have r:=B.by.get (P:=prog) agg5 (i:=i+j) (by rw[qZt];omega)
      rw[lsF_at x8,decide_eq_false x8,kY,kU]at r;have rg:rdO prog 5 M 1 j=some (u8 (b2 (divL.getD j false))):=rd_rc agg5 (ht.no D j a4);have a5:=B.fr0 (Fr.refl _ _).drew;obtain⟨w4,q4,J,W⟩:=a5.setB (i:=i+j) (by rw[qZt];omega) (b2 (F (i+j) != divL.getD j false));rw[lsF_set (G:=fun t=>F t != (decide (i<=t/\t<i+(j+1)) && divL.getD (t - i) false)) x8 (by rw[decide_eq_true x8,kW,show i+j - i=j by omega]) (fun t _ hne=>by simp only[show (i<=t/\t<i+(j+1))=(i<=t/\t<i+j) from propext x8])]at J;have Y:=xor8 (b2 (F (i+j))) (b2 (divL.getD j false));rw[b2_xor]at Y;have hq:w0.heap.size<=q:=Nw.new B q rfl;have fd:=D.drew;rw[qZt]at B J ⊢;simp -implicitDefEqProofs only[go_sem,j7,jV,O,c4,y4,y5,and_self,iTn,j8,r,rg,Y,q4,c2];exact⟨33 - (j+1),x8,j+1,_,rfl,x8,rfl,J,fd.trans' W fun b hb e=>by subst e;omega⟩
     ·have O:=dFo ((j:Int)<33)
      have e:j=33:=x8
      subst e;simp -implicitDefEqProofs only[go_sem,j7,O,c1];refine⟨ms.length - (i+1),x8,i+1,_,_,rfl,x8,rfl,B,D,fun t U h2=>?_⟩;have:=Z t U h2;rw[a0,kW]at this;exact this
   ·have I:=dFo ((i:Int)<(ms.length:Int))
    have e:i=ms.length:=x8
    subst e;have hR:regP A ms ms.length=ms.foldl qJj A:=by unfold regP;rw[kQ]
    rw[hR]at hF;generalize ms.foldl qJj A=R at *;rw[qZt]at B E ⊢;simp -implicitDefEqProofs only[go_sem,j7,I];refine loopD [5,6,11,12] (dv5 w0 (.slice (some ⟨q,o,.none⟩) (ms.length+32) cap) ms.length R (ms.length+32) q o cap F) 32 ⟨0,0,rfl,jJ _,rfl,fun t=>by simp,D,B⟩ ?_;clear B D E;rintro _ vs M g ⟨i,x,rfl,hi,rfl,hx,D,B⟩
    by_cases a6:i<32
    ·have O:=dTo ((i:Int)<32)
     have c2:=iSu (i:=i);have c4:IntKind.i64.wrap ((ms.length:Int)+(i:Int))=((ms.length+i:Nat):Int):=qXa;have y4:(0:Int)<=((ms.length+i:Nat):Int)/\((ms.length+i:Nat):Int)<((ms.length+32:Nat):Int):=x8
     have r:=(NwB.by B).get (P:=prog) agg5 (i:=ms.length+i) (by rw[qZt];omega)
     have a7:F (ms.length+i)=R.getLsbD i:=by
      rw[hF _ x8 x8,show ms.length+i - ms.length=i by omega,gDq,vN x8]
      cases R.getLsbD i <;> rfl
     rw[lsF_at x8,a7]at r;have c3:=u64id i x8;have nj:((i:Int)<0)=False:=sm
     have s1:=ext8b (R.getLsbD i);have s2:=shl32 (if R.getLsbD i then (1:W32) else 0) i x8;have s3:=or32 x ((if R.getLsbD i then (1:W32) else 0) <<< i);simp -implicitDefEqProofs only[go_sem,j7,O,c4,y4,and_self,iTn,j8,r,s1,c3,nj,if_false,s2,s3,c2];refine⟨32 - (i+1),x8,i+1,_,rfl,x8,rfl,fun t=>?_,D,B⟩;rw[BitVec.getLsbD_or,hx,BitVec.getLsbD_shiftLeft]
     have g:∀ (b:Bool) (k:Nat),(if b then (1:W32) else 0).getLsbD k=(b && decide (k=0)):=fun b k=>by
      cases b
      ·simp
      ·show (1#32).getLsbD k=_
       rw[kV];simp
     rw[g]
     by_cases U:t<i
     ·rw[decide_eq_true U,decide_eq_true (show t<i+1 by omega)];simp
     ·rw[decide_eq_false U]
      by_cases h2:t=i
      ·subst h2
       rw[decide_eq_true (show t<32 from a6),decide_eq_true (show t<t+1 by omega),Nat.sub_self];simp
      ·rw[decide_eq_false (show ¬ t<i+1 by omega),decide_eq_false (show ¬ t - i=0 by omega)];simp
    ·have O:=dFo ((i:Int)<32)
     have e:i=32:=x8
     subst e;simp -implicitDefEqProofs only[go_sem,j7,O];refine⟨?_,D⟩;have a8:x=R:=BitVec.eq_of_getLsbD_eq fun j hj=>by rw[hx,decide_eq_true hj,kW]
     rw[a8]
theorem sum2 (w0:World)(A:DivT w0)(B:By w0 bv bs)(D:bs.length<=2 ^ 30):Fn prog 103 #[bv] w0 fun v w'=>v=u32 (qKf 0 bs)/\No w0 w':=by
 refine go103 sm ?_;simp -implicitDefEqProofs only[go_sem,j7,Tryz.f103];refine qQa pl145 ((divide w0 A (~~~0) B D).mono ?_);rintro _ w1 ⟨rfl,E⟩;have n1:=not32 (qKz (~~~0) bs);simp -implicitDefEqProofs only[go_sem,n1];exact And.intro rfl E
def slI (w0:World)(s:W32)(bv:Value)(bs:Bs)(n:Nat)(vs:List Value)(w:World):Prop :=
 ∃ (i:Nat) (v:Value),vs=[bv,u32 s,v,.int .i64 (i:Nat)]/\i<=bs.length/\n=bs.length - i/\NwB w0 w v (bs.take i)/\No w0 w
def slJ (w0:World)(s:W32)(bs:Bs)(n:Nat)(vs:List Value)(w:World):Prop :=
 ∃ (i:Nat) (v:Value),vs=[u32 s,v,.int .i64 (i:Nat)]/\i<=4/\n=4 - i/\NwB w0 w v (bs++(sealB s).take i)/\No w0 w
theorem seal_at (s:W32)(h:i<4):(s >>> (8*i)).setWidth 8=(sealB s).getD i 0:=by
 rcases (by omega:i=0∨i=1∨i=2∨i=3) with rfl | rfl | rfl | rfl
 ·show (s >>> 0).setWidth 8=s.setWidth 8
  simp
 all_goals rfl
theorem seal2 (w0:World)(Z:DivT w0)(O:By w0 bv bs)(hl:bs.length<=2 ^ 30):Fn prog 65 #[bv] w0 fun v w'=>NwB w0 w' v (bs++sealB (qKf 0 bs))/\No w0 w':=by
 refine go65 sm ?_;obtain⟨va,vc,rfl,W⟩:=O.slice;simp -implicitDefEqProofs only[go_sem,j7,Tryz.f65];refine qQa pl103 ((sum2 w0 Z O hl).mono ?_);rintro _ w1 ⟨rfl,f1⟩;generalize qKf 0 bs=s;simp -implicitDefEqProofs only[go_sem];refine loopD [0,3,4,5] (slI w0 s (.slice va bs.length vc) bs) bs.length ⟨0,.slice .none 0 0,rfl,x8,rfl,NwB.nil _ _,f1⟩ ?_;rintro _ vs H g ⟨i,v,rfl,hi,rfl,B,D⟩
 by_cases I:i<bs.length
 ·have Y:=dTo ((i:Int)<((bs.length:Nat):Int))
  have c1:=iSu (i:=i);have y:=iBd (i:=i) (n:=bs.length);obtain⟨b,o,cap,he,r⟩:=by_rd (O.fr0 D) I;cases he;have E:=qXu (l:=bs) (i:=i) I;obtain⟨J,R,A,M,U,g4,_⟩:=NwB.grow B (bs.getD i 0) (by simp;omega) D;rw[E]at M;generalize bs.getD i 0=x at *;simp -implicitDefEqProofs only[go_sem,j7,yU,jV,y,and_self,iTn,j8,r];refine qQn (v:=.slice (some ⟨H.heap.size,0,none⟩) 1 1) (w':=H.alloc (.cells (bl [x]) 5)) rfl ?_;simp -implicitDefEqProofs only[go_sem,j7];refine qQj ⟨J,R,A,?_⟩;simp -implicitDefEqProofs only[go_sem,j7,c1];exact⟨bs.length - (i+1),x8,i+1,J,rfl,x8,rfl,M,U⟩
 ·have Y:=dFo ((i:Int)<((bs.length:Nat):Int))
  have e:i=bs.length:=x8
  subst e;rw[kQ]at B;simp -implicitDefEqProofs only[go_sem,j7,Y];refine loopD [3,4,6] (slJ w0 s bs) 4 ⟨0,v,rfl,x8,rfl,by rw[jT,z4];exact B,D⟩ ?_;clear B D;rintro _ vs H g ⟨i,v,rfl,hi,rfl,B,D⟩
  by_cases N:i<4
  ·have V:=dTo ((i:Int)<4)
   have c1:=iSu (i:=i);have c2:IntKind.i64.wrap (8*(i:Int))=((8*i:Nat):Int):=by rw[qQr x8 x8];omega
   have c3:=u64id (8*i) x8;have nj:(((8*i:Nat):Int)<0)=False:=by simp;omega
   have s1:=shr32 s (8*i) x8;have s2:=cut32 (s >>> (8*i));have E:=qXu (l:=sealB s) (i:=i) (by rw[sealB_len];exact N);obtain⟨J,R,A,M,U,g4,_⟩:=NwB.grow B ((sealB s).getD i 0) (by simp[sealB_len];omega) D;rw[zU,E]at M;rw[<- seal_at s N]at A;simp -implicitDefEqProofs only[go_sem,j7,yU,jV,V,c2,c3,nj,if_false,s1,s2];refine qQn (v:=.slice (some ⟨H.heap.size,0,none⟩) 1 1) (w':=H.alloc (.cells (bl [(s >>> (8*i)).setWidth 8]) 5)) rfl ?_;simp -implicitDefEqProofs only[go_sem,j7];refine qQj ⟨J,R,A,?_⟩;simp -implicitDefEqProofs only[go_sem,j7,c1];exact⟨4 - (i+1),x8,i+1,J,rfl,x8,rfl,M,U⟩
  ·have V:=dFo ((i:Int)<4)
   have e:i=4:=x8
   subst e;rw[zB (by rw[sealB_len];exact xC _)]at B;simp -implicitDefEqProofs only[go_sem,j7,V];exact⟨B,D⟩
end R
end
section
namespace R
open Aud
theorem u8nat (v:Nat):IntKind.u8.wrap (v:Int)=((zW 8 v).toNat:Int):=by
 rw[zY,wrap_u8];omega
theorem page5 (w0:World)(J:DivT w0)(kind p:Nat){load:Bs}(D:By w0 bv load)(hl:load.length<=246)(M:p<2 ^ 62):Fn prog 57 #[.int .i64 (kind:Nat),.int .i64 (p:Nat),bv] w0 fun v w'=>NwB w0 w' v (pagB kind p load)/\No w0 w':=by
 refine go57 sm ?_;obtain⟨va,vc,rfl,E⟩:=D.slice;have c1:=u8nat kind;have c2:=u8nat load.length;simp -implicitDefEqProofs only[go_sem,j7,vS,yU,jV,Tryz.f57,c1,c2];refine qQn (v:=.slice (some ⟨w0.heap.size,0,none⟩) 2 2) (w':=w0.alloc (.cells (bl [zW 8 kind,zW 8 load.length]) 5)) rfl ?_;have N:(w0.alloc (.cells (bl [zW 8 kind,zW 8 load.length]) 5)).heap[w0.heap.size]?=some (.cells (bl [zW 8 kind,zW 8 load.length]) 5 (0,0)):=qQb _ _;have O:No w0 (w0.alloc (.cells (bl [zW 8 kind,zW 8 load.length]) 5)):=(Fr.refl _ _).alloc _;generalize w0.alloc (.cells (bl [zW 8 kind,zW 8 load.length]) 5)=w1 at *;have H:=row_by (m:=2) (cap:=2) N sm (xC _);rw[zB sm]at H;simp -implicitDefEqProofs only[go_sem,j7];refine qQa pl63 ((laid5 w1 p 4 M x8).mono ?_);rintro _ R ⟨b2,I⟩;simp -implicitDefEqProofs only[go_sem,j7];refine qQa pl62 ((joined5 R (H.fr0 I) b2.by sm (by rw[qQt];omega)).mono ?_);rintro _ U ⟨V,W⟩;have B:=(O.trans I).trans W;simp -implicitDefEqProofs only[go_sem,j7];refine qQa pl62 ((joined5 U V.by (D.fr0 B) (by simp[qQt]) x8).mono ?_);rintro _ Y ⟨Z,f4⟩;simp -implicitDefEqProofs only[go_sem];refine qQa pl64 ((filled5 Y (n:=252) Z.by x8 (by simp[qQt];omega)).mono ?_);rintro _ w5 ⟨b5,f5⟩;simp -implicitDefEqProofs only[go_sem];have A:=(B.trans f4).trans f5;refine qQa pl65 ((seal2 w5 (J.no A) b5.by (by rw[qZs (by simp[qQt];omega)];omega)).mono ?_);rintro _ w6 ⟨b6,f6⟩;simp -implicitDefEqProofs only[go_sem];exact And.intro (NwB.back b6 A.size) (A.trans f6)
theorem super5 (w0:World)(ht:DivT w0)(s:Sup)(J:s.gen<2 ^ 62/\s.mark<2 ^ 62/\s.head<2 ^ 62/\s.pages<2 ^ 62):Fn prog 31 #[.agg #[.int .i64 (s.width:Nat),.int .i64 (s.gen:Nat),.int .i64 (s.mark:Nat),.int .i64 (s.head:Nat),.int .i64 (s.pages:Nat)]] w0 fun v w'=>NwB w0 w' v (supB s)/\No w0 w':=by
 refine go31 sm ?_;obtain⟨W,hW,f0,R,s0⟩:=qQl w0 #[.int .i64 (s.width:Nat),.int .i64 (s.gen:Nat),.int .i64 (s.mark:Nat),.int .i64 (s.head:Nat),.int .i64 (s.pages:Nat)] 67;have c1:=u8nat s.width;have r0:rdO prog 3 W w0.heap.size 0=some (.int .i64 (s.width:Nat)):=rd1 agg3 R rfl;simp -implicitDefEqProofs only[go_sem,j7,yU,jV,Tryz.f31,hW,r0,c1];refine qQn (v:=.slice (some ⟨W.heap.size,0,none⟩) 8 8) (w':=W.alloc (.cells (bl [76,68,71,49,zW 8 s.width,0,0,0]) 5)) rfl ?_;have k1:(W.alloc (.cells (bl [76,68,71,49,zW 8 s.width,0,0,0]) 5)).heap[W.heap.size]?=some (.cells (bl [76,68,71,49,zW 8 s.width,0,0,0]) 5 (0,0)):=qQb _ _;have U:No W (W.alloc (.cells (bl [76,68,71,49,zW 8 s.width,0,0,0]) 5)):=(Fr.refl _ _).alloc _;generalize W.alloc (.cells (bl [76,68,71,49,zW 8 s.width,0,0,0]) 5)=w1 at *;have V:=row_by (m:=8) (cap:=8) k1 sm (xC _);rw[zB sm]at V;have A:=U.at R id;have r1:rdO prog 3 w1 w0.heap.size 1=some (.int .i64 (s.gen:Nat)):=rd1 agg3 A rfl;simp -implicitDefEqProofs only[go_sem,j7,jV,r1];refine qQa pl63 ((laid5 w1 s.gen 8 J.1 x8).mono ?_);rintro _ w2 ⟨b2,Y⟩;simp -implicitDefEqProofs only[go_sem,j7];refine qQa pl62 ((joined5 w2 (V.fr0 Y) b2.by sm (by rw[qQt];omega)).mono ?_);rintro _ Z ⟨b3,f3⟩;have D:=Y.trans f3;have M:=D.at A id;have r2:rdO prog 3 Z w0.heap.size 2=some (.int .i64 (s.mark:Nat)):=rd1 agg3 M rfl;simp -implicitDefEqProofs only[go_sem,j7,jV,r2];refine qQa pl63 ((laid5 Z s.mark 4 J.2.1 x8).mono ?_);rintro _ w4 ⟨b4,f4⟩;simp -implicitDefEqProofs only[go_sem,j7];refine qQa pl62 ((joined5 w4 (b3.by.fr0 f4) b4.by (by simp[qQt]) (by rw[qQt];omega)).mono ?_);rintro _ w5 ⟨b5,f5⟩;have E:=(D.trans f4).trans f5
 have N:=E.at A id;have r3:rdO prog 3 w5 w0.heap.size 3=some (.int .i64 (s.head:Nat)):=rd1 agg3 N rfl;simp -implicitDefEqProofs only[go_sem,j7,jV,r3];refine qQa pl63 ((laid5 w5 s.head 4 J.2.2.1 x8).mono ?_);rintro _ w6 ⟨b6,f6⟩;simp -implicitDefEqProofs only[go_sem,j7];refine qQa pl62 ((joined5 w6 (b5.by.fr0 f6) b6.by (by simp[qQt]) (by rw[qQt];omega)).mono ?_);rintro _ w7 ⟨b7,f7⟩;have H:=(E.trans f6).trans f7;have O:=H.at A id;have r4:rdO prog 3 w7 w0.heap.size 4=some (.int .i64 (s.pages:Nat)):=rd1 agg3 O rfl;simp -implicitDefEqProofs only[go_sem,j7,jV,r4];refine qQa pl63 ((laid5 w7 s.pages 4 J.2.2.2 x8).mono ?_);rintro _ w8 ⟨b8,f8⟩;simp -implicitDefEqProofs only[go_sem,j7];refine qQa pl62 ((joined5 w8 (b7.by.fr0 f8) b8.by (by simp[qQt]) (by rw[qQt];omega)).mono ?_);rintro _ w9 ⟨b9,f9⟩;simp -implicitDefEqProofs only[go_sem];refine qQa pl64 ((filled5 w9 (n:=60) b9.by x8 (by simp[qQt])).mono ?_);rintro _ wa ⟨ba,fa⟩;simp -implicitDefEqProofs only[go_sem];have B:=(((f0.trans U).trans H).trans f8).trans (f9.trans fa);have I:(padTo (0:Byte) 60 ([76,68,71,49,zW 8 s.width,0,0,0]++leB 8 s.gen++leB 4 s.mark++leB 4 s.head++leB 4 s.pages)).length=60:=qJt s;refine qQa pl65 ((seal2 wa (ht.no B) ba.by (by rw[I];omega)).mono ?_);rintro _ wb ⟨bb,fb⟩;simp -implicitDefEqProofs only[go_sem];refine qQa pl64 ((filled5 wb (n:=256) bb.by x8 (by rw[lAp,I,sealB_len];omega)).mono ?_);rintro _ wc ⟨bc,fc⟩;simp -implicitDefEqProofs only[go_sem];exact And.intro (NwB.back bc (B.trans fb).size) ((B.trans fb).trans fc)
end R
end
section
namespace R
open Aud A
theorem quo8 (v d:Nat):(v:Int).tdiv (d:Int)=((v / d:Nat):Int):=rfl
theorem four_eq (v:Nat):[zW 8 v,zW 8 (v / 256),zW 8 (v / 65536),zW 8 (v / 16777216)]=leB 4 v:=by
 show _=[zW 8 v,zW 8 (v / 256),zW 8 (v / 256 / 256),zW 8 (v / 256 / 256 / 256)]
 rw[yD,yD]
theorem fourF (v:Nat)(D:v<2 ^ 62):IntKind.u8.wrap ((v:Int).tmod 256)=((zW 8 v).toNat:Int) /\
  IntKind.i64.wrap ((v:Int).tdiv 256)=((v / 256:Nat):Int)/\IntKind.u8.wrap (((v / 256:Nat):Int).tmod 256)=((zW 8 (v / 256)).toNat:Int) /\
  IntKind.i64.wrap ((v:Int).tdiv 65536)=((v / 65536:Nat):Int)/\IntKind.u8.wrap (((v / 65536:Nat):Int).tmod 256)=((zW 8 (v / 65536)).toNat:Int) /\
  IntKind.i64.wrap ((v:Int).tdiv 16777216)=((v / 16777216:Nat):Int)/\IntKind.u8.wrap (((v / 16777216:Nat):Int).tmod 256)=((zW 8 (v / 16777216)).toNat:Int):=by
 have q:∀ (d:Nat) (e:Int),(d:Int)=e->IntKind.i64.wrap ((v:Int).tdiv e)=((v / d:Nat):Int):=fun d e A=>by
  subst A;have h:=Nat.div_le_self v d;rw[quo8];generalize v / d=x at *;rw[qQr x8 x8]
 have a1:=q 256 256 x8;have a2:=q 65536 65536 x8;have B:=q 16777216 16777216 x8;refine⟨?_,?_,?_,?_,?_,?_,?_⟩
 ·exact u8mod v
 ·exact a1
 ·exact u8mod (v / 256)
 ·exact a2
 ·exact u8mod (v / 65536)
 ·exact B
 ·exact u8mod (v / 16777216)
theorem four9 (w0:World)(v:Nat)(I:v<2 ^ 62):Fn prog 99 #[.int .i64 (v:Nat)] w0 fun r w'=>By w' r (leB 4 v)/\No w0 w'/\∀ b,qQf r=some b->w0.heap.size<=b:=by
 refine go99 sm ?_;have F:=fourF v I;have c1:=F.1;have c2:=F.2.1;have J:=F.2.2.1;have M:=F.2.2.2.1;have N:=F.2.2.2.2.1;have O:=F.2.2.2.2.2.1;have R:=F.2.2.2.2.2.2;clear F;have n1:((256:Int)=0)=False:=sm
 have n2:((65536:Int)=0)=False:=sm
 have U:((16777216:Int)=0)=False:=sm
 simp -implicitDefEqProofs only[go_sem,j7,yU,jV,Tryz.f99,n1,n2,U,if_false,c1,c2,J,M,N,O,R];rw[<- four_eq v];generalize zW 8 v=A;generalize zW 8 (v / 256)=B;generalize zW 8 (v / 65536)=D;generalize zW 8 (v / 16777216)=E;have V:(w0.alloc (.cells (bl [A,B,D,E]) 5)).heap[w0.heap.size]?=some (.cells (bl [A,B,D,E]) 5 (0,0)):=qQb _ _;have W:No w0 (w0.alloc (.cells (bl [A,B,D,E]) 5)):=(Fr.refl _ _).alloc _;have H:=row_by (m:=4) (cap:=4) V sm (xC _);rw[zB sm]at H;refine qQn (v:=.slice (some ⟨w0.heap.size,0,none⟩) 4 4) (w':=w0.alloc (.cells (bl [A,B,D,E]) 5)) rfl ?_;simp -implicitDefEqProofs only[go_sem];exact And.intro H ⟨W,fun b Y=>by cases Y;exact xC _⟩
def j9I (u w0:World)(av bv:Value)(xs bs:Bs)(n:Nat)(vs:List Value)(w:World):Prop :=
 ∃ (i:Nat) (v:Value),vs=[v,bv,.int .i64 (i:Nat)]/\i<=bs.length/\n=bs.length - i/\NwB u w v (xs++bs.take i)/\No u w/\Fr (fun b=>qQf av=some b) w0 w/\∀ b,qQf v=some b->qQf av=some b∨w0.heap.size<=b
theorem joined9 (u w0:World)(Y:NwB u w0 av a)(Z:No u w0)(M:By w0 vv bs)(hne:0<bs.length->∀ b, qQf vv=some b->qQf av≠some b)(a0:a.length<=2 ^ 40)(hl:bs.length<=2 ^ 40) :
  Fn prog 98 #[av,vv] w0 fun v w'=>NwB u w' v (a++bs)/\No u w'/\Fr (fun b=>qQf av=some b) w0 w'/\∀ b,qQf v=some b->qQf av=some b∨w0.heap.size<=b:=by
 refine go98 sm ?_;obtain⟨va,vc,rfl,N⟩:=M.slice;simp -implicitDefEqProofs only[go_sem,jV,Tryz.f98];refine loopD [0,1,5] (j9I u w0 av (.slice va bs.length vc) a bs) bs.length ⟨0,av,rfl,x8,rfl,by rw[jT,z4];exact Y,Z,Fr.refl _ _,fun b h=>.inl h⟩ ?_;rintro _ vs O g ⟨i,v,rfl,hi,rfl,H,R,D,A⟩
 by_cases B:i<bs.length
 ·have U:=dTo ((i:Int)<((bs.length:Nat):Int))
  have c1:=iSu (i:=i);have y:=iBd (i:=i) (n:=bs.length);obtain⟨b,o,cap,he,r⟩:=by_rd (M.fr D fun b E _ h=>hne x8 b E h) B;cases he;have I:=qXu (l:=bs) (i:=i) B;obtain⟨V,w4,J,W,f4,g4,h4⟩:=NwB.grow H (bs.getD i 0) (by simp;omega) R;rw[zU,I]at W;generalize bs.getD i 0=x at *;simp -implicitDefEqProofs only[go_sem,j7,yU,jV,y,and_self,iTn,j8,r];refine qQn (v:=.slice (some ⟨O.heap.size,0,none⟩) 1 1) (w':=O.alloc (.cells (bl [x]) 5)) rfl ?_;simp -implicitDefEqProofs only[go_sem,j7];refine qQj ⟨V,w4,J,?_⟩;simp -implicitDefEqProofs only[go_sem,j7,c1];refine⟨bs.length - (i+1),x8,i+1,V,rfl,x8,rfl,W,f4,D.trans' g4 fun b E e=>(A b e).resolve_right x8,fun b E=>?_⟩
  rcases h4 b E with h | h
  ·exact A b h
  ·have:=D.size;exact .inr x8
 ·have U:=dFo ((i:Int)<((bs.length:Nat):Int))
  have e:i=bs.length:=x8
  subst e;rw[kQ]at H;simp -implicitDefEqProofs only[go_sem,j7,U];exact⟨H,R,D,A⟩
theorem by_blk (h:By w v bs)(B:0<bs.length)(D:qQf v=some b):b<w.heap.size:=by
 obtain⟨_,a,cap,rfl,_,A⟩:=h;obtain⟨H,o,rfl,E⟩:=A x8;cases D;have:=E 0 x8;rw[jL,zZ B]at this;exact rc_lt this
theorem midB {b o i:Nat}{a r:List Value}{e:TypeId}{ds:Bs}(h:w.heap[b]?=some (.cells (a++ds.map u8++r).toArray e fz))(A:a.length=o)(hi:i<ds.length):rdO prog 5 w b (o+i)=some (u8 (ds.getD i 0)):=by
 refine rd1 agg5 h ?_;rw[zJ,zU,jR x8,z8 (by rw[zE];omega),A,Nat.add_sub_cancel_left,jL,zZ hi,qQw 0 hi];rfl
def abI (u w1:World)(c:List Value)(A d:Bs)(n:Nat)(vs:List Value)(w:World):Prop :=
 ∃ (i:Nat) (v:Value),vs=c++[v,.int .i64 (i:Nat)]/\i<=32/\n=32 - i/\NwB u w v (A++d.take i)/\No u w/\(∀ b,qQf v=some b->w1.heap.size<=b)/\No w1 w
abbrev nPre (k l r lc rc:Nat)(A rs:Bs):List Value:=[.int .i64 (k:Nat),.int .i64 (l:Nat),.int .i64 (r:Nat),.int .i64 (lc:Nat),.int .i64 (rc:Nat)]++A.map u8++rs.map u8
theorem load9leaf (w0:World){k val:Bs}(V:k.length=32)(ov:one vv=true)(Y:By w0 vv val)(hl:val.length<=2 ^ 30):Fn prog 58 #[.agg (ndA (.leaf k val) vv).toArray] w0 fun v w'=>NwB w0 w' v (k++val)/\No w0 w':=by
 refine go58 sm ?_;obtain⟨W,hW,f0,Z,s0⟩:=qQl w0 (ndA (.leaf k val) vv).toArray 78;have r0:=(rdLf V Z).1;have a0:((1:Int) == 1)=true:=rfl;simp -implicitDefEqProofs only[go_sem,j7,yU,bSe,jV,Tryz.f58,hW,r0];refine loopD [1,3,4] (abI w0 W [pt w0.heap.size 0] [] k) 32 ⟨0,.slice .none 0 0,rfl,x8,rfl,NwB.nil _ _,f0,(fun b h=>by cases h),Fr.refl _ _⟩ ?_;rintro _ vs E g ⟨i,v,rfl,hi,rfl,H,I,A,J⟩;have k3:=J.at Z id
 by_cases a3:i<32
 ·have M:=dTo ((i:Int)<32)
  have c1:=iSu (i:=i);have y:=iBd (i:=i) (n:=32);have N:=qXu (l:=k) (i:=i) x8;have r:=midB (i:=i) (a:=nPre 1 0 0 0 0 z32 z32) (r:=[vv]) (ds:=k) (o:=69) (e:=78) (fz:=(0,0)) k3 (by rfl) x8;obtain⟨v4,w4,O,B,R,g4,h4⟩:=NwB.grow H (k.getD i 0) (by simp;omega) I;rw[zU,N]at B;generalize k.getD i 0=x at *;simp -implicitDefEqProofs only[go_sem,j7,yU,jV,M,y,and_self,iTn,j8,r];refine qQn (v:=.slice (some ⟨E.heap.size,0,none⟩) 1 1) (w':=E.alloc (.cells (bl [x]) 5)) rfl ?_;simp -implicitDefEqProofs only[go_sem,j7];refine qQj ⟨v4,w4,O,?_⟩;simp -implicitDefEqProofs only[go_sem,j7,c1];refine⟨32 - (i+1),x8,i+1,v4,rfl,x8,rfl,B,R,fun b D=>?_,J.trans' g4 fun b D e=>by have:=A b e;omega⟩
  rcases h4 b D with h | h
  ·exact A b h
  ·have:=J.size;omega
 ·have M:=dFo ((i:Int)<32)
  have e:i=32:=x8
  subst e;rw[zA,zB x8]at H;have rv:=(rdLf V k3).2.2.2.2;simp -implicitDefEqProofs only[go_sem,j7,jV,M,rv];refine qQa pl98 ((joined9 w0 E H I (Y.fr0 I) (fun hp b D U=>?_) x8 x8).mono ?_)
  ·have h1:=A b U
   have:=by_blk Y hp D;omega
  rintro _ w4 ⟨B,R,_⟩;simp -implicitDefEqProofs only[go_sem];exact And.intro B R
end R
end
section
namespace R
open Aud A
theorem four15 (u w0:World)(I:NwB u w0 av a)(J:No u w0)(hl:a.length<=2 ^ 40)(v:Nat)(M:v<2 ^ 62):Fn prog 102 #[av,.int .i64 (v:Nat)] w0 fun r w'=>NwB u w' r (a++leB 4 v)/\No u w':=by
 refine go102 sm ?_;have F:=fourF v M;have c1:=F.1;have c2:=F.2.1;have N:=F.2.2.1;have O:=F.2.2.2.1;have R:=F.2.2.2.2.1;have U:=F.2.2.2.2.2.1;have V:=F.2.2.2.2.2.2;clear F;have n1:((256:Int)=0)=False:=sm
 have n2:((65536:Int)=0)=False:=sm
 have W:((16777216:Int)=0)=False:=sm
 simp -implicitDefEqProofs only[go_sem,j7,yU,jV,Tryz.f102,n1,n2,W,if_false,c1,c2,N,O,R,U,V];rw[<- four_eq v];generalize zW 8 v=B;generalize zW 8 (v / 256)=D;generalize zW 8 (v / 65536)=E;generalize zW 8 (v / 16777216)=H;obtain⟨Y,Z,A,b4,f4,g4⟩:=NwB.push app22_22 I [B,D,E,H] (bd_small (by simp;omega)) (by simp;omega) J;refine qQn (v:=.slice (some ⟨w0.heap.size,0,none⟩) 4 4) (w':=w0.alloc (.cells (bl [B,D,E,H]) 5)) rfl ?_;simp -implicitDefEqProofs only[go_sem,j7];refine qQj ⟨Y,Z,A,?_⟩;simp -implicitDefEqProofs only[go_sem];exact And.intro b4 f4
abbrev rPre (r:Rc):List Value:=[.int .i64 (r.ver:Nat),.int .i64 (r.first:Nat),.int .i64 (r.prev:Nat),.int .i64 (r.skip:Nat),.int .i64 (r.root:Nat),.int .i64 (r.count:Nat)]
theorem load15 (w0:World){r:Rc}(hs:r.sum.length=32)(D:r.ver<2 ^ 62/\r.first<2 ^ 62/\r.prev<2 ^ 62/\r.skip<2 ^ 62/\r.root<2 ^ 62/\r.count<2 ^ 62):Fn prog 61 #[.agg (rcC r).toArray] w0 fun v w'=>NwB w0 w' v (lodR r)/\No w0 w':=by
 refine go61 sm ?_;obtain⟨W,hW,Y,Z,s0⟩:=qQl w0 (rcC r).toArray 80;have rd:∀ {w:World},No W w->∀ {i:Nat} {x:Value},(rcC r).toArray[i]?=some x->rdO prog 3 w w0.heap.size i=some x:=fun {w} f {i x} h=>rd1 agg3 (f.at Z id) h;have r0:=rd (Fr.refl _ _) (i:=0) rfl;simp -implicitDefEqProofs only[go_sem,j7,yU,jV,Tryz.f61,hW,r0];refine qQa pl102 ((four15 W W (NwB.nil _ _) (Fr.refl _ _) sm r.ver D.1).mono ?_);rintro _ w1 ⟨b1,f1⟩;have r1:=rd f1 (i:=1) rfl;simp -implicitDefEqProofs only[go_sem,j7,jV,r1];refine qQa pl102 ((four15 W w1 b1 f1 (by simp[qQt]) r.first D.2.1).mono ?_);rintro _ w2 ⟨b2,f2⟩;have r2:=rd f2 (i:=2) rfl;simp -implicitDefEqProofs only[go_sem,j7,jV,r2];refine qQa pl102 ((four15 W w2 b2 f2 (by simp[qQt]) r.prev D.2.2.1).mono ?_);rintro _ w3 ⟨b3,f3⟩;have r3:=rd f3 (i:=3) rfl;simp -implicitDefEqProofs only[go_sem,j7,jV,r3];refine qQa pl102 ((four15 W w3 b3 f3 (by simp[qQt]) r.skip D.2.2.2.1).mono ?_);rintro _ w4 ⟨b4,f4⟩;have r4:=rd f4 (i:=4) rfl;simp -implicitDefEqProofs only[go_sem,j7,jV,r4];refine qQa pl102 ((four15 W w4 b4 f4 (by simp[qQt]) r.root D.2.2.2.2.1).mono ?_);rintro _ w5 ⟨b5,f5⟩;have r5:=rd f5 (i:=5) rfl;simp -implicitDefEqProofs only[go_sem,j7,jV,r5];refine qQa pl102 ((four15 W w5 b5 f5 (by simp[qQt]) r.count D.2.2.2.2.2).mono ?_);rintro v6 w6 ⟨H,I⟩;rw[zA]at H;generalize A:leB 4 r.ver++leB 4 r.first++leB 4 r.prev++leB 4 r.skip++leB 4 r.root++leB 4 r.count=B at *;have J:B.length=24:=by rw[<- A];simp only[lAp,qQt]
 have E:lodR r=B++r.sum:=by rw[<- A];rfl
 simp -implicitDefEqProofs only[go_sem];refine loopD [1,3,4] (abI W W [pt w0.heap.size 0] B r.sum) 32 ⟨0,v6,rfl,x8,rfl,by rw[jT,z4];exact H,I,fun b h=>Nw.new H b h,I⟩ ?_;clear H I;rintro _ vs w7 g ⟨i,v,rfl,hi,rfl,M,N,a0,_⟩;have k7:=N.at Z id
 by_cases a3:i<32
 ·have O:=dTo ((i:Int)<32)
  have c1:=iSu (i:=i);have y:=iBd (i:=i) (n:=32);have R:=qXu (l:=r.sum) (i:=i) x8;have rr:=midB (i:=i) (a:=rPre r) (r:=[]) (ds:=r.sum) (o:=6) (e:=80) (fz:=(0,0)) (by rw[k7,z4];rfl) (by rfl) x8;obtain⟨v8,w8,U,V,f8,g8,h8⟩:=NwB.grow M (r.sum.getD i 0) (by simp[J];omega) N;rw[zU,R]at V;generalize r.sum.getD i 0=x at *;simp -implicitDefEqProofs only[go_sem,j7,yU,jV,O,y,and_self,iTn,j8,rr];refine qQn (v:=.slice (some ⟨w7.heap.size,0,none⟩) 1 1) (w':=w7.alloc (.cells (bl [x]) 5)) rfl ?_;simp -implicitDefEqProofs only[go_sem,j7];refine qQj ⟨v8,w8,U,?_⟩;simp -implicitDefEqProofs only[go_sem,j7,c1];exact⟨32 - (i+1),x8,i+1,v8,rfl,x8,rfl,V,f8,fun b h=>Nw.new V b h,f8⟩
 ·have O:=dFo ((i:Int)<32)
  have e:i=32:=x8
  subst e;rw[zB x8,<- E]at M;simp -implicitDefEqProofs only[go_sem,j7,O];exact And.intro (NwB.back M Y.size) (Y.trans N)
theorem rcPlaces:qXh prog 80=some [(0,1),(1,1),(2,1),(3,1),(4,1),(5,1),(6,32)]:=x9
abbrev rcPs:Nat->Option (Nat × Nat):=fun i=>[(0,1),(1,1),(2,1),(3,1),(4,1),(5,1),(6,32)][i]?
abbrev vi (n:Nat):Value:=.int .i64 (n:Nat)
theorem bldRt {sum:Bs}(h:sum.length=32):bldO prog 80 [(4,vi ro),(5,vi c),(6,dg sum)]=some (.agg (rcC ⟨0,0,0,0,ro,c,sum⟩).toArray):=by
 rw[qJp zero80 rcPlaces (c:=(rcC rc00).toArray) x9];have B:=qJb (ps:=rcPs) (i:=4) (o:=4) (a:=[vi 0,vi 0,vi 0,vi 0]) (r:=vi 0::z32.map u8) (u:=vi 0) (v:=vi ro) (rest:=[(5,vi c),(6,dg sum)]) rfl rfl rfl;have D:=qJb (ps:=rcPs) (i:=5) (o:=5) (a:=[vi 0,vi 0,vi 0,vi 0,vi ro]) (r:=z32.map u8) (u:=vi 0) (v:=vi c) (rest:=[(6,dg sum)]) rfl rfl rfl;have A:=qKa (ps:=rcPs) (i:=6) (o:=6) (n:=32) (a:=[vi 0,vi 0,vi 0,vi 0,vi ro,vi c]) (m:=z32.map u8) (r:=[]) (vs:=sum.map u8) (rest:=[]) rfl rfl sm (by simp[h]);rw[qXq,z4,z4]at A;exact congrArg (yY vG) ((B.trans D).trans A)
theorem bldR5 {v f ro c:Nat}{sum:Bs}(h:sum.length=32):bldO prog 80 [(0,vi v),(1,vi f),(4,vi ro),(5,vi c),(6,dg sum)]=some (.agg (rcC ⟨v,f,0,0,ro,c,sum⟩).toArray):=by
 rw[qJp zero80 rcPlaces (c:=(rcC rc00).toArray) x9];have B:=qJb (ps:=rcPs) (i:=0) (o:=0) (a:=[]) (r:=vi 0::vi 0::vi 0::vi 0::vi 0::z32.map u8) (u:=vi 0) (v:=vi v) (rest:=[(1,vi f),(4,vi ro),(5,vi c),(6,dg sum)]) rfl rfl rfl;have D:=qJb (ps:=rcPs) (i:=1) (o:=1) (a:=[vi v]) (r:=vi 0::vi 0::vi 0::vi 0::z32.map u8) (u:=vi 0) (v:=vi f) (rest:=[(4,vi ro),(5,vi c),(6,dg sum)]) rfl rfl rfl;have E:=qJb (ps:=rcPs) (i:=4) (o:=4) (a:=[vi v,vi f,vi 0,vi 0]) (r:=vi 0::z32.map u8) (u:=vi 0) (v:=vi ro) (rest:=[(5,vi c),(6,dg sum)]) rfl rfl rfl;have H:=qJb (ps:=rcPs) (i:=5) (o:=5) (a:=[vi v,vi f,vi 0,vi 0,vi ro]) (r:=z32.map u8) (u:=vi 0) (v:=vi c) (rest:=[(6,dg sum)]) rfl rfl rfl;have A:=qKa (ps:=rcPs) (i:=6) (o:=6) (n:=32) (a:=[vi v,vi f,vi 0,vi 0,vi ro,vi c]) (m:=z32.map u8) (r:=[]) (vs:=sum.map u8) (rest:=[]) rfl rfl sm (by simp[h]);rw[qXq,z4,z4]at A;exact congrArg (yY vG) ((((B.trans D).trans E).trans H).trans A)
end R
end
section
namespace R
open Aud A
abbrev spC (wd next:Nat)(esv:Value)(oR:Nat)(oM oS nv sv:Value):Array Value:=#[vi wd,vi next,esv,vi oR,oM,oS,nv,sv]
abbrev nil0:Value:=.slice Option.none 0 0
abbrev sbC (bits page:Nat)(k d:Bs):List Value:=[vi bits,vi page]++k.map u8++d.map u8
theorem sbC_len {bits page:Nat}(A:k.length=32)(B:d.length=32):(sbC bits page k d).length=66:=by simp[A,B]
theorem sbC_one (bits page:Nat)(k d:Bs):(sbC bits page k d).all one=true:=by
 rw[List.all_append,List.all_append,qXy,qXy];rfl
theorem sbPlaces:qXh prog 229=some [(0,1),(1,1),(2,32),(34,32)]:=x9
theorem bldSb {bits page:Nat}(A:k.length=32)(D:d.length=32):bldO prog 229 [(0,vi bits),(1,vi page),(2,dg k),(3,dg d)]=some (.agg (sbC bits page k d).toArray):=by
 rw[qJp zero229 sbPlaces (c:=(sbC 0 0 z32 z32).toArray) x9];have E:=qJb (ps:=fun i=>[(0,1),(1,1),(2,32),(34,32)][i]?) (i:=0) (o:=0) (a:=[]) (r:=(sbC 0 0 z32 z32).drop 1) (u:=vi 0) (v:=vi bits) (rest:=[(1,vi page),(2,dg k),(3,dg d)]) rfl rfl rfl;have H:=qJb (ps:=fun i=>[(0,1),(1,1),(2,32),(34,32)][i]?) (i:=1) (o:=1) (a:=[vi bits]) (r:=(sbC 0 0 z32 z32).drop 2) (u:=vi 0) (v:=vi page) (rest:=[(2,dg k),(3,dg d)]) rfl rfl rfl;have I:=qKa (ps:=fun i=>[(0,1),(1,1),(2,32),(34,32)][i]?) (i:=2) (o:=2) (n:=32) (a:=[vi bits,vi page]) (m:=z32.map u8) (r:=z32.map u8) (vs:=k.map u8) (rest:=[(3,dg d)]) rfl rfl sm (by simp[A]);have B:=qKa (ps:=fun i=>[(0,1),(1,1),(2,32),(34,32)][i]?) (i:=3) (o:=34) (n:=32) (a:=[vi bits,vi page]++k.map u8) (m:=z32.map u8) (r:=[]) (vs:=d.map u8) (rest:=[]) rfl (by simp[A]) sm (by simp[D]);rw[qXq,z4,z4]at B;exact congrArg (yY vG) (((E.trans H).trans I).trans B)
end R
end
section
namespace R
open Aud A
def sbR (x:Sb):List Value:=sbC x.bits x.page x.key x.sum
def SbOk (L:List Sb):Prop:=∀ x ∈ L,x.key.length=32/\x.sum.length=32
theorem subs_ok {t:PT}(H:t.Wf n)(B:∀ e ∈ t.ents,e.1.length=32):SbOk (subsL wd n t):=by
 induction t generalizing n with
 | nil=>intro x A;cases A
 | leaf p k v =>
  intro x A;rw[List.mem_singleton.1 A];exact⟨B (k,v) (by simp[PT.ents]),qJd _ _ _⟩
 | br p l r I J =>
  intro x A;obtain⟨_,_,E,_,_,M,N⟩:=H
  rcases List.mem_append.1 A with A | A
  ·rcases List.mem_append.1 A with A | A
   ·exact I M (fun e D=>B e (zH _ D)) x A
   ·exact J N (fun e D=>B e (zF _ D)) x A
  ·rw[List.mem_singleton.1 A]
   refine⟨?_,qJd _ _ _⟩;show (headK (l.ents++r.ents)).length=32;have B:∀ e ∈ l.ents++r.ents,e.1.length=32:=B;have E:2<=(l.ents++r.ents).length:=by rw[lAp];exact E
   cases D:l.ents++r.ents with
   | nil=>rw[D]at E;simp at E
   | cons e O=>rw[D]at B;exact B e sm
theorem sb_rd {L:List Sb}(h:RdR w 66 v (L.map sbR))(M:SbOk L)(hi:i<L.length):∃ b o cap, v=.slice (some ⟨b, o, Option.none⟩) L.length cap/\L.length<=cap /\
  ∀ w',No w w'->rdO prog 3 w' b (o+i*66)=some (vi L[i].bits)/\rdO prog 3 w' b (o+i*66+1)=some (vi L[i].page)/\rdO prog 76 w' b (o+i*66+2)=some (dg L[i].key)/\rdO prog 75 w' b (o+i*66+34)=some (dg L[i].sum)/\rdO prog 229 w' b (o+i*66)=some (.agg (sbR L[i]).toArray):=by
 have A:i<(L.map sbR).length:=by simpa using hi
 have D:(L.map sbR)[i]=sbR L[i]:=List.getElem_map ..;obtain⟨B,E⟩:=M L[i] (vO hi);obtain⟨b,o,cap,rfl,I⟩:=h.pos j0 x8;rw[zE]at I;refine⟨b,o,cap,by rw[zE],I,fun w' f=>?_⟩;have H:=h.fr0 f;refine⟨?_,?_,?_,?_,?_⟩
 ·have:=H.fld (P:=prog) (t:=3) agg3 A (j:=0) j0 (x:=vi L[i].bits) (by rw[D];rfl)
  rwa [yK]at this
 ·exact H.fld (P:=prog) (t:=3) agg3 A (j:=1) j0 (by rw[D];rfl)
 ·exact H.sub (P:=prog) agg76 sz76 j0 A (j:=2) j0 (xs:=L[i].key.map u8) (by simp[B]) fun q J=>by
   rw[D,sbR,sbC,zU,jR sm,z8 (by simp[B,J])]
   simp
 ·exact H.sub (P:=prog) agg75 sz75 j0 A (j:=34) j0 (xs:=L[i].sum.map u8) (by simp[E]) fun q J=>by
   rw[D,sbR,sbC,jR (by simp[B])]
   congr 1
   simp[B]
 ·rw[<- D];exact H.get (P:=prog) agg229 sz229 j0 A
section
variable {w:World} {sb wd next oR:Nat} {esv oM oS nv sv:Value} {L:List Sb}
def fdI (w0:World)(sb n A B:Nat)(k:Bs)(L:List Sb)(m:Nat)(vs:List Value)(w:World):Prop :=
 ∃ (i:Nat),vs=[pt sb 0,.int .i64 (n:Nat),pt A 0,pt B 0,.int .i64 (i:Nat)]/\i<=L.length/\m=L.length - i/\(L.take i).find? (fun x=>decide (x.bits=n/\n<=common x.key k))=none/\w.heap[A]?=some (.cells (bl k) 76 (0,0))/\w.heap[B]?=some (.cells (bl (zG 32 0)) 75 (0,0))/\No w0 w
theorem find_take {α:Type}{L:List α}{p:α->Bool}(hi:i<L.length)(h:(L.take i).find? p=none):(p L[i]=true->L.find? p=some L[i])/\(p L[i]=false->(L.take (i+1)).find? p=none):=by
 constructor
 ·intro A
  conv=>lhs;rw[<- List.take_append_drop i L]
  rw[List.find?_append,h,Option.none_or,List.drop_eq_getElem_cons hi,List.find?_cons_of_pos A]
 ·intro A
  rw[tSg hi,List.find?_append,h,Option.none_or];simp[A]
theorem found10 (hk:w.heap[sb]?=some (.cells (spC wd next esv oR oM oS nv sv) 187 (0, 0)))(he:RdD w esv (empts wd 257))(hS:RdR w 66 oS (L.map sbR))(hL:SbOk L)(b6:L.length<=2 ^ 40)(J:k.length=32)(hn:n<=256) :
  Fn prog 137 #[pt sb 0,dg k,.int .i64 (n:Nat)] w fun v w'=>v=.tuple #[vi (foundL wd L k n).1,dg (foundL wd L k n).2]/\No w w':=by
 refine go137 sm ?_;obtain⟨W,hW,f1,k1,k2,s1⟩:=qJq w (bl k) 76 (bl (zG 32 0)) 75;obtain⟨oa,oc,rfl,b7⟩:=hS.slice;rw[zE]at *;simp -implicitDefEqProofs only[go_sem,j7,vS,yU,jV,qQk,Tryz.f137,hW];refine loopD [0,2,4,7,8] (fdI w sb n w.heap.size (w.heap.size+1) k L) L.length ⟨0,rfl,x8,rfl,rfl,k1,k2,f1⟩ ?_;rintro _ vs A g ⟨i,rfl,hi,rfl,N,kk,kr,O⟩;have ks:=O.at hk id;have rS:rdO prog 139 A sb 5=some (.slice oa L.length oc):=rd1 agg139 ks rfl;have Y:rdO prog 139 A.drew sb 5=some (.slice oa L.length oc):=rS;have d1:=natlt i L.length
 by_cases B:i<L.length
 ·rw[decide_eq_true B]at d1
  have y1:=iBd (i:=i) (n:=L.length);have c1:=iSu (i:=i);obtain⟨b,o,cap,e1,_,H⟩:=sb_rd hS hL B;cases e1;obtain⟨r1,r2,r3,r4,_⟩:=H A O;obtain⟨Z,b8,a6,b9,_⟩:=H A.drew O.drew;have rk:=rd_d agg76 sz76 kk J;have a7:rdO prog 76 A.drew w.heap.size 0=_:=rk;have R:=find_take B N;obtain⟨a8,a0⟩:=hL L[i] (vO B);have M:=nateq L[i].bits n;generalize c0:L[i]=x at *
  by_cases hb:x.bits=n
  ·rw[decide_eq_true hb]at M
   simp -implicitDefEqProofs only[go_sem,j7,vS,bSe,jV,yK,rS,Y,y1,and_self,iTn,Z,M,a6,a7];refine qQa pl169 ((common3 A.drew a8 J).mono ?_);rintro _ V ⟨rfl,f3⟩;have D:No A V:=(Fr.refl _ _).drew.trans f3;have I:=O.trans D
   have dc:decide (((common x.key k:Nat):Int) ≥ (n:Int))=decide (n<=common x.key k):=by
    by_cases h:n<=common x.key k
    ·rw[decide_eq_true h];exact decide_eq_true x8
    ·rw[decide_eq_false h];exact decide_eq_false x8
   by_cases hc:n<=common x.key k
   ·rw[decide_eq_true hc]at dc
    have hF:=R.1 (decide_eq_true ⟨hb,hc⟩);have U:foundL wd L k n=(x.page,x.sum):=by unfold foundL;rw[hF]
    have a9:=D.at ks id;have b0:rdO prog 139 V sb 5=some (.slice (some ⟨b,o,.none⟩) L.length oc):=rd1 agg139 a9 rfl;have a3:rdO prog 139 V.drew sb 5=some (.slice (some ⟨b,o,.none⟩) L.length oc):=b0;obtain⟨_,q2,_,q4,_⟩:=H V I;obtain⟨_,b1,_,b3,_⟩:=H V.drew I.drew;have E:V.drew.heap[w.heap.size+1]?=_:=D.at kr id;have qw:=wr_d sz75 E zl32 a0;have qr:=rd_d agg75 sz75 (qQd (o:=.cells (bl x.sum) 75 (0,0)) E) a0;rw[U];simp -implicitDefEqProofs only[go_sem,j7,vS,bSe,jV,dc,a3,y1,and_self,iTn,b1,b3,qw,qr];exact I.drew.put (b:=w.heap.size+1) _ fun h=>by omega
   ·rw[decide_eq_false hc]at dc
    have hF:=R.2 (decide_eq_false fun h=>hc h.2);simp -implicitDefEqProofs only[go_sem,j7,bSe,dc,c1];exact⟨L.length - (i+1),x8,i+1,rfl,x8,rfl,hF,D.at kk id,D.at kr id,I⟩
  ·rw[decide_eq_false hb]at M
   have hF:=R.2 (decide_eq_false fun h=>hb h.1);simp -implicitDefEqProofs only[go_sem,j7,vS,qQq,jV,yK,rS,Y,y1,and_self,iTn,Z,M,c1];exact⟨L.length - (i+1),x8,i+1,rfl,x8,rfl,hF,kk,kr,O.drew⟩
 ·rw[decide_eq_false B]at d1
  rw[zB x8]at N;have U:foundL wd L k n=(0,emptD wd (256 - n)):=by unfold foundL;rw[N]
  have a4:=he.fr0 O;obtain⟨M,eo,ec,rfl,_,_⟩:=a4.pos (by rw[qXe];decide);have re:=a4.get (P:=prog) agg75 sz75 (i:=256 - n) (by rw[qXe];omega);rw[gDq,qVn (wd:Int) 257 x8,kD]at re;have b4:rdO prog 75 A.drew M (eo+(256 - n)*32)=_:=re;have rE:rdO prog 71 A sb 2=some (.slice (some ⟨M,eo,.none⟩) (empts wd 257).length ec):=rd1 agg71 ks rfl;have b5:rdO prog 71 A.drew sb 2=some (.slice (some ⟨M,eo,.none⟩) (empts wd 257).length ec):=rE;have c2:IntKind.i64.wrap (256 - (n:Int))=((256 - n:Nat):Int):=qXv (a:=256) x8 x8;have y2:(0:Int)<=((256 - n:Nat):Int)/\((256 - n:Nat):Int)<(((empts wd 257).length:Nat):Int):=by rw[qXe];omega
  have a5:(emptD wd (256 - n)).length=32:=qQy _ _;have E:A.drew.heap[w.heap.size+1]?=_:=kr;have qw:=wr_d sz75 E zl32 a5;have qr:=rd_d agg75 sz75 (qQd (o:=.cells (bl (emptD wd (256 - n))) 75 (0,0)) E) a5;rw[U];simp -implicitDefEqProofs only[go_sem,j7,vS,jV,d1,rS,b5,c2,y2,and_self,iTn,b4,qw,qr];exact And.intro rfl (O.drew.put (b:=w.heap.size+1) _ fun h=>by omega)
def lfC (a:Option Sb):List Value:=match a with
 | none=>[.int .i64 (-1),.int .i64 0]++z32.map u8++z32.map u8
 | some x=>sbR x
theorem lfC_len {a:Option Sb}(h:∀ x,a=some x->x.key.length=32/\x.sum.length=32):(lfC a).length=66:=by
 cases a with
 | none=>rfl
 | some x=>exact sbC_len (h x rfl).1 (h x rfl).2
theorem lfC_one (a:Option Sb):(lfC a).all one=true:=by
 cases a with
 | none=>rfl
 | some x=>exact sbC_one _ _ _ _
def lfBits (a:Option Sb):Int:=match a with
 | none => -1
 | some x=>(x.bits:Nat)
theorem lfC_bits (a:Option Sb):(lfC a)[0]?=some (.int .i64 (lfBits a)):=by cases a <;> rfl
theorem bldSb0:bldO prog 229 [(0,.int .i64 (-1))]=some (.agg (lfC none).toArray):=by
 rw[qJp zero229 sbPlaces (c:=(sbC 0 0 z32 z32).toArray) x9];have A:=qJb (ps:=fun i=>[(0,1),(1,1),(2,32),(34,32)][i]?) (i:=0) (o:=0) (a:=[]) (r:=(sbC 0 0 z32 z32).drop 1) (u:=vi 0) (v:=.int .i64 (-1)) (rest:=[]) rfl rfl rfl;rw[qXq]at A;exact congrArg (yY vG) A
def lfI (w0:World)(sb A B D:Nat)(k:Bs)(L:List Sb)(m:Nat)(vs:List Value)(w:World):Prop :=
 ∃ (i:Nat),vs=[pt sb 0,pt A 0,pt B 0,pt D 0,.int .i64 (i:Nat)]/\i<=L.length/\m=L.length - i/\w.heap[A]?=some (.cells (bl k) 76 (0,0))/\w.heap[B]?=some (.cells (sbC 0 0 z32 z32).toArray 229 (0,0))/\w.heap[D]?=some (.cells (lfC ((L.take i).foldl (lfS k) none)).toArray 229 (0,0))/\No w0 w
theorem lfS_of {L:List Sb}(I:SbOk L):∀ (B:List Sb) (a:Option Sb),(∀ x ∈ B,x ∈ L)->(∀ x,a=some x->x ∈ L)->∀ x,B.foldl (lfS k) a=some x->x ∈ L:=by
 intro B
 induction B with
 | nil=>intro a _ D x E;exact D x E
 | cons y B H =>
  intro a h D x E;refine H (lfS k a y) (fun z A=>h z (List.mem_cons_of_mem _ A)) (fun z A=>?_) x E;unfold lfS at A;split at A
  ·cases A;exact h _ sm
  ·exact D z A
theorem leafOf10 (hk:w.heap[sb]?=some (.cells (spC wd next esv oR oM oS nv sv) 187 (0, 0)))(hS:RdR w 66 oS (L.map sbR))(hL:SbOk L)(b9:L.length<=2 ^ 40)(a7:∀ x ∈ L, x.bits<=256)(U:k.length=32) :
  Fn prog 140 #[pt sb 0,dg k] w fun v w'=>v=.agg (lfC (L.foldl (lfS k) none)).toArray/\No w w':=by
 refine go140 sm ?_;have sl:∀ x:Sb,x.key.length=32->x.sum.length=32->(sbR x).toArray.size=66:=fun x h1 h2=>by rw[kG];exact sbC_len h1 h2
 have zl:(sbC 0 0 z32 z32).toArray.size=66:=rfl;have zz:(sbC 0 0 z32 z32).toArray=#[.int .i64 0,.int .i64 0]++bl (zG 64 0):=rfl;have hz:=zero229;obtain⟨W,hW,f1,k1,k2,s1⟩:=qJq w (bl k) 76 (sbC 0 0 z32 z32).toArray 229;obtain⟨W2,Z,f2,k3,s2⟩:=qQl W (sbC 0 0 z32 z32).toArray 229;have lz:(lfC none).toArray.size=66:=rfl;have q2:wrO prog 229 W2 W.heap.size 0 (.agg (lfC none).toArray)=some (put W2 W.heap.size (.cells (lfC none).toArray 229 (0,0))):=qQo (by rw[lz];exact sz229) k3 (by rw[zl,lz]) (by rw[<- kJ];exact lfC_one none);have k4:=qQd (o:=.cells (lfC none).toArray 229 (0,0)) k3;have f3:No W (put W2 W.heap.size (.cells (lfC none).toArray 229 (0,0))):=f2.put (b:=W.heap.size) _ fun h=>by omega
 have a8:=f3.at k1 id;have a9:=f3.at k2 id;have b1:=f1.trans f3;obtain⟨oa,oc,rfl,c0⟩:=hS.slice;rw[zE]at *;have b0:=bldSb0;rw[zz]at hW Z;simp -implicitDefEqProofs only[go_sem,j7,yU,jV,qQk,Tryz.f140,hW,b0,Z,q2];generalize put W2 W.heap.size (.cells (lfC none).toArray 229 (0,0))=w3 at *;refine loopD [0,3,4,5,6] (lfI w sb w.heap.size (w.heap.size+1) W.heap.size k L) L.length ⟨0,rfl,x8,rfl,a8,a9,k4,b1⟩ ?_;rintro _ vs E g ⟨i,rfl,hi,rfl,kk,kr,ka,Y⟩;have ks:=Y.at hk id;have rS:rdO prog 139 E sb 5=some (.slice oa L.length oc):=rd1 agg139 ks rfl;have a0:=lfS_of (k:=k) hL (L.take i) none (fun x hx=>List.mem_of_mem_take hx) (fun x h=>by cases h)
 have D:i<L.length->(L.take (i+1)).foldl (lfS k) none=lfS k ((L.take i).foldl (lfS k) none) (L.getD i ⟨0,0,[],[]⟩):=fun h=>by
  rw[tSg h,List.foldl_append,qQw _ h];rfl
 have H:i=L.length->L.foldl (lfS k) none=(L.take i).foldl (lfS k) none:=fun h=>by rw[h,kQ]
 generalize hA:(L.take i).foldl (lfS k) none=A at *;have a3:∀ x,A=some x->x.key.length=32/\x.sum.length=32:=fun x h=>hL x (a0 x h);have lA:(lfC A).toArray.size=66:=by rw[kG];exact lfC_len a3
 have d1:=natlt i L.length
 by_cases B:i<L.length
 ·rw[decide_eq_true B]at d1
  have y1:=iBd (i:=i) (n:=L.length);have c1:=iSu (i:=i);obtain⟨b,o,cap,e1,_,b3⟩:=sb_rd hS hL B;cases e1;obtain⟨_,_,_,_,r5⟩:=b3 E Y;obtain⟨J,b4⟩:=hL L[i] (vO B);have c3:=a7 L[i] (vO B);have D:=D B;rw[qQw _ B]at D;generalize c4:L[i]=x at *;have lx:=sl x J b4;obtain⟨W5,a4,f5,k5,s5⟩:=qQl E (sbC 0 0 z32 z32).toArray 229;have q5:wrO prog 229 W5 E.heap.size 0 (.agg (sbR x).toArray)=some (put W5 E.heap.size (.cells (sbR x).toArray 229 (0,0))):=qQo (by rw[lx];exact sz229) k5 (by rw[zl,lx]) (by rw[<- kJ];exact sbC_one _ _ _ _);have k6:=qQd (o:=.cells (sbR x).toArray 229 (0,0)) k5;have f6:No E (put W5 E.heap.size (.cells (sbR x).toArray 229 (0,0))):=f5.put (b:=E.heap.size) _ fun h=>by omega
  have c5:=qQi kk;have c6:=qQi kr;have c7:=qQi ka;rw[zz]at a4;simp -implicitDefEqProofs only[go_sem,j7,vS,yU,jV,qQk,rS,y1,and_self,decide_true,iTn,r5,a4,q5];generalize put W5 E.heap.size (.cells (sbR x).toArray 229 (0,0))=w6 at *;refine qXj (fun j=>j == 9) (.row [0,2,1,3,4,5,6,10,7,8,11,9,12,13]) rfl x9 x9 ?_;have I:No E w6.drew:=f6.drew;have k6:w6.drew.heap[E.heap.size]?=_:=k6;generalize w6.drew=w7 at *;have M:=I.at kk id;have V:=I.at kr id;have N:=I.at ka id;have rb:rdO prog 3 w7 E.heap.size 0=some (.int .i64 (x.bits:Nat)):=rd1 agg3 k6 rfl
  have b5:rdO prog 76 w7 E.heap.size 2=some (dg x.key):=by
   have:=rd_rcs (P:=prog) (w:=w7) (b:=E.heap.size) (o:=2) agg76 sz76 (vs:=(x.key.map u8).toArray) (by simp[J]) j0 (fun j hj=>by
    rw[qXl k6,zJ,zJ,sbR,sbC,zU,jR sm,z8 (by simp[J,hj])]
    simp)
   exact this
  have ra:rdO prog 3 w7 W.heap.size 0=some (.int .i64 (lfBits A)):=rd1 agg3 N (by rw[zJ];exact lfC_bits A);have rk:=rd_d agg76 sz76 M U
  have O:decide ((x.bits:Int) > lfBits A)=decide (∀ y,A=some y->y.bits<x.bits):=by
   cases A with
   | none=>exact (decide_eq_true (show (-1:Int)<(x.bits:Int) by omega)).trans (decide_eq_true (fun y h=>by cases h)).symm
   | some y =>
    by_cases B:y.bits<x.bits
    ·exact (decide_eq_true (show ((y.bits:Nat):Int)<(x.bits:Int) by omega)).trans (decide_eq_true (fun z h=>by cases h;exact B)).symm
    ·exact (decide_eq_false (show ¬ ((y.bits:Nat):Int)<(x.bits:Int) by omega)).trans (decide_eq_false (fun h=>B (h y rfl))).symm
  by_cases hg:∀ y,A=some y->y.bits<x.bits
  ·rw[decide_eq_true hg]at O
   simp -implicitDefEqProofs only[go_sem,j7,yX,bSe,jV,OT.row,rb,ra,O,b5,rk];refine qQc pl169 ((common3 w7 J U).mono ?_);rintro _ w8 ⟨rfl,R⟩;refine⟨fun _=>Fr.ext R,?_⟩;have a5:=I.trans R
   have dc:decide (((common x.key k:Nat):Int) ≥ ((x.bits:Nat):Int))=decide (x.bits<=common x.key k):=by
    by_cases h:x.bits<=common x.key k
    ·rw[decide_eq_true h];exact decide_eq_true x8
    ·rw[decide_eq_false h];exact decide_eq_false x8
   by_cases hc:x.bits<=common x.key k
   ·rw[decide_eq_true hc]at dc
    have hF:lfS k A x=some x:=by unfold lfS;rw[if_pos ⟨hg,hc⟩]
    rw[hF]at D;have b6:=R.at k6 id;have a6:=R.at N id;have l8:=qQm (P:=prog) (t:=229) agg229 sz229 b6 lx;have q8:wrO prog 229 w8 W.heap.size 0 (.agg (sbR x).toArray)=some (put w8 W.heap.size (.cells (sbR x).toArray 229 (0,0))):=qQo (by rw[lx];exact sz229) a6 (by rw[lA,lx]) (by rw[<- kJ];exact sbC_one _ _ _ _);have k9:=qQd (o:=.cells (sbR x).toArray 229 (0,0)) a6;have b7:=qQh (b:=W.heap.size) (o:=.cells (sbR x).toArray 229 (0,0)) (R.at M id) x8;have b8:=qQh (b:=W.heap.size) (o:=.cells (sbR x).toArray 229 (0,0)) (R.at V id) x8;simp -implicitDefEqProofs only[go_sem,j7,yX,bSe,dc,l8,q8,c1];exact⟨L.length - (i+1),x8,i+1,rfl,x8,rfl,b7,b8,by rw[D];exact k9,(Y.trans a5).put (b:=W.heap.size) _ fun h=>by have:=f1.size;omega⟩
   ·rw[decide_eq_false hc]at dc
    have hF:lfS k A x=A:=by unfold lfS;rw[if_neg fun h=>hc h.2]
    rw[hF]at D;simp -implicitDefEqProofs only[go_sem,j7,yX,bSe,dc,c1];exact⟨L.length - (i+1),x8,i+1,rfl,x8,rfl,R.at M id,R.at V id,by rw[D];exact R.at N id,Y.trans a5⟩
  ·rw[decide_eq_false hg]at O
   have hF:lfS k A x=A:=by unfold lfS;rw[if_neg fun h=>hg h.1]
   rw[hF]at D;simp -implicitDefEqProofs only[go_sem,j7,yX,qQq,jV,OT.row,rb,ra,O,c1];exact⟨L.length - (i+1),x8,i+1,rfl,x8,rfl,M,V,by rw[D];exact N,Y.trans I⟩
 ·rw[decide_eq_false B]at d1
  have e:i=L.length:=x8
  have H:=H e;have l8:=qQm (P:=prog) (t:=229) agg229 sz229 ka lA;have q8:wrO prog 229 E (w.heap.size+1) 0 (.agg (lfC A).toArray)=some (put E (w.heap.size+1) (.cells (lfC A).toArray 229 (0,0))):=qQo (by rw[lA];exact sz229) kr (by rw[zl,lA]) (by rw[<- kJ];exact lfC_one _);have k9:=qQd (o:=.cells (lfC A).toArray 229 (0,0)) kr;have l9:=qQm (P:=prog) (t:=229) agg229 sz229 k9 lA;rw[H];simp -implicitDefEqProofs only[go_sem,j7,vS,jV,d1,rS,l8,q8,l9];exact Y.put (b:=w.heap.size+1) _ fun h=>by omega
end
end R
end
section
namespace R
open Aud A
def StF (w0 w:World)(b:Nat):Prop:=w0.heap.size<=b/\∃ c t fz,w.heap[b]?=some (.cells c t fz)/\(t=78∨t=229∨t=187)
theorem StF.trans {w0 w w1 A:World}(h:Fr (StF w0 w) w w1)(k:Fr (StF w0 w1) w1 A):Fr (StF w0 w) w A :=
 h.trans' k fun b E g=>Classical.byContradiction fun B=>B (by
  obtain⟨H,c,t,fz,D,I⟩:=g;rw[h.blk b E B]at D
  exact⟨H,c,t,fz,D,I⟩)
theorem StF.of (w0:World)(h:No w w1):Fr (StF w0 w) w w1:=h.mono fun _ _ h=>h.elim
theorem StF.no (f:No w0 w)(h:Fr (StF w0 w) w w1):No w0 w1:=f.trans' h fun b A g=>by have:=g.1;omega
theorem StF.at {w0 w w1:World}(h:Fr (StF w0 w) w w1){b:Nat}{c:Array Value}{t:TypeId}{fz:Nat × Nat}(A:w.heap[b]?=some (.cells c t fz))(D:¬ (t=78∨t=229∨t=187)):w1.heap[b]?=some (.cells c t fz) :=
 h.at A fun g=>by
  obtain⟨_,c',I,E,B,H⟩:=g;rw[A]at B;cases B;exact D H
def NdWide:Nd->Prop
 | .leaf k v=>k.length=32/\v.length<=128
 | .br A B lc rc D rs=>(A<2 ^ 50/\B<2 ^ 50/\lc<2 ^ 50/\rc<2 ^ 50)/\D.length=32/\rs.length=32
theorem wide_len {n:Nd}(h:NdWide n)(vv:Value):(ndA n vv).length=102:=by
 cases n with
 | leaf k v=>exact qQu z32l z32l h.1 vv
 | br A B lc rc D rs=>exact qQu h.2.1 h.2.2 z32l vv
theorem ndA_1 (n:Nd)(h:one vv=true):(ndA n vv).all one=true:=by cases n <;> exact qXz _ _ _ _ _ _ _ _ h
def NdRows (w0:World)(rows:Rows)(ns:List Nd):Prop:=rows.length=ns.length/\∀ i (h:i<rows.length) (A:i<ns.length),∃ vv,rows[i]=ndA ns[i] vv/\one vv=true/\By w0 vv (ndVal ns[i])/\(ns[i].kind=2->vv=nil0)/\NdWide ns[i]
theorem NdRows.push {rows:Rows}{ns:List Nd}(h:NdRows w0 rows ns){n:Nd}(B:one vv=true)(D:By w0 vv (ndVal n))(E:n.kind=2->vv=nil0)(H:NdWide n):NdRows w0 (rows++[ndA n vv]) (ns++[n]):=by
 obtain⟨A,I⟩:=h;refine⟨by simp[A],fun i a b=>?_⟩
 by_cases hi:i<rows.length
 ·obtain⟨x,J,M⟩:=I i hi x8
  have e:(ns++[n])[i]=ns[i]'x8:=z9 x8;rw[e];exact⟨x,by rw[z9 hi];exact J,M⟩
 ·obtain rfl:i=rows.length:=by simp at a;omega
  have e:(ns++[n])[rows.length]'b=n:=by simp[A]
  rw[e];exact⟨vv,sm,B,D,E,H⟩
def SpM (u w0 w:World)(sb wd next:Nat)(esv:Value)(oR:Nat)(oM oS:Value)(ns:List Nd)(ss:List Sb):Prop :=
 ∃ nv sv rows,w.heap[sb]?=some (.cells (spC wd next esv oR oM oS nv sv) 187 (0,0))/\one nv=true/\one sv=true/\NwR w0 w 78 102 nv rows/\NdRows u rows ns/\NwR w0 w 229 66 sv (ss.map sbR)
section
variable {u w0 w w':World} {sb wd next oR:Nat} {esv oM oS:Value} {ns:List Nd} {ss:List Sb}
theorem SpM.fr0 (h:SpM u w0 w sb wd next esv oR oM oS ns ss)(f:No w w'):SpM u w0 w' sb wd next esv oR oM oS ns ss:=by
 obtain⟨nv,sv,rows,A,B,D,E,H,I⟩:=h;exact⟨nv,sv,rows,f.at A id,B,D,E.fr0 f,H,I.fr0 f⟩
theorem staged10 (h:SpM u w0 w sb wd next esv oR oM oS ns ss)(hsb:w0.heap.size<=sb)(a3:No w0 w)(hx:next<2 ^ 60)(a9:ns.length<=2 ^ 38){n:Nd}(hn:NdWide n)(ov:one vv=true)(hv:By u vv (ndVal n))(a4:n.kind=2->vv=nil0) :
  Fn prog 142 #[pt sb 0,.agg (ndA n vv).toArray] w fun v w'=>v=vi next/\Fr (StF w0 w) w w'/\SpM u w0 w' sb wd (next+1) esv oR oM oS (ns++[n]) ss:=by
 refine go142 sm ?_;obtain⟨nv,sv,rows,hk,b0,a5,hN,hR,hS⟩:=h;have nl:=wide_len hn vv;have b1:=hR.1;obtain⟨W,hW,R,k0,s0⟩:=qQl w (ndA n vv).toArray 78;simp -implicitDefEqProofs only[go_sem,j7,yU,jV,Tryz.f142,hW];refine qXj (fun j=>j == 6) (.row [0,1,2,3,4,5,6,7,8,9,10]) rfl x9 x9 ?_;have R:=R.drew;have k0:W.drew.heap[w.heap.size]?=_:=k0;have s0:W.drew.heap.size=w.heap.size+1:=s0;generalize W.drew=W at *;have ks:=R.at hk id;have r6:rdO prog 88 W sb 6=some nv:=rd1 agg88 ks rfl;have l0:=qQm (P:=prog) (t:=78) agg78 sz78 k0 (by simp[nl]);have J:=hN.fr0 R;have V:=hS.fr0 R;obtain⟨A,D,a6,b8,g8,m8⟩:=J.push (P:=prog) app88_88 (xs:=ndA n vv) nl (ndA_1 n ov) j0 x8 x8 (by have:=a3.size;omega);have o8:one A=true:=by obtain⟨a,c,e,_⟩:=b8.rd.slice;rw[e];rfl
 simp -implicitDefEqProofs only[go_sem,j7,yX,yU,jV,qQk,OT.row,r6,l0];refine qKg (v:=.slice (some ⟨W.heap.size,0,none⟩) 1 1) (w':=W.alloc (.cells (ndA n vv).toArray 78)) (qQx (K:=102) j0 j0 (y:=nd0) (qQu z32l z32l z32l _) (by simp[]) (by simp[nl]) _) (fun _=>((Fr.refl (fun _=>False) _).alloc _).ext) ?_;simp -implicitDefEqProofs only[go_sem,j7];refine qXf ⟨A,D,a6,?_⟩;refine⟨(fun h=>by cases h),?_⟩;have M:∀ b,qQf nv=some b->∃ c,W.heap[b]?=some (.cells c 78 (0,0)):=fun b E=>qQz J E
 have a7:Fr (StF w0 W) W D:=g8.mono fun b _ e=>⟨J.2.new b e,by obtain⟨c,B⟩:=M b e;exact⟨c,_,_,B,.inl rfl⟩⟩
 have hne:∀ b,qQf nv=some b->b≠sb:=fun b E e=>by
  obtain⟨c,B⟩:=M b E;rw[e,ks]at B;cases B
 have Y:=g8.at ks fun e=>hne sb e rfl
 have Z:NwR w0 D 229 66 sv (ss.map sbR):=V.fr g8 fun b E e=>by
  obtain⟨c,B⟩:=M b e;obtain⟨c',a0⟩:=qQz V E;rw[B]at a0;cases a0
 have q8:wrO prog 88 D sb 6 A=some (put D sb (.cells (spC wd next esv oR oM oS A sv) 187 (0,0))):=wr1 sz88 o8 Y (show 6<8 by decide);have k9:=qQd (o:=.cells (spC wd next esv oR oM oS A sv) 187 (0,0)) Y
 have H:∀ b,qQf A=some b->b≠sb:=fun b E e=>by
  obtain⟨c,B⟩:=qQz b8 E;rw[e,Y]at B;cases B
 have I:∀ b,qQf sv=some b->b≠sb:=fun b E e=>by
  obtain⟨c,B⟩:=qQz Z E;rw[e,Y]at B;cases B
 have sF:∀ {wa:World} {ca:Array Value},wa.heap[sb]?=some (.cells ca 187 (0,0))->StF w0 wa sb:=fun h=>⟨hsb,_,_,_,h,.inr (.inr rfl)⟩
 have N:Fr (fun b=>b=sb) D (put D sb (.cells (spC wd next esv oR oM oS A sv) 187 (0,0))):=(Fr.refl _ _).put (b:=sb) _ fun _=>rfl;have b9:=b8.fr N H;have a8:=Z.fr N I;have F9:Fr (StF w0 w) w (put D sb (.cells (spC wd next esv oR oM oS A sv) 187 (0,0))):=StF.trans (StF.trans (StF.of w0 R) a7) (N.mono fun b _ e=>by rw[e];exact sF Y);simp -implicitDefEqProofs only[go_sem,j7,yX,jV,q8];generalize put D sb (.cells (spC wd next esv oR oM oS A sv) 187 (0,0))=U at *;have r1:rdO prog 3 U sb 1=some (vi next):=rd1 agg3 k9 rfl;have c1:=iSu (i:=next);have c2:IntKind.i64.wrap (((next+1:Nat):Int) - 1)=((next:Nat):Int):=by rw[qQr x8 x8];omega
 have q1:wrO prog 3 U sb 1 (vi (next+1))=some (put U sb (.cells (spC wd (next+1) esv oR oM oS A sv) 187 (0,0))):=wr1 sz3 rfl k9 (show 1<8 by decide);have ka:=qQd (o:=.cells (spC wd (next+1) esv oR oM oS A sv) 187 (0,0)) k9;have ra:rdO prog 3 (put U sb (.cells (spC wd (next+1) esv oR oM oS A sv) 187 (0,0))) sb 1=some (vi (next+1)):=rd1 agg3 ka rfl;have O:Fr (fun b=>b=sb) U (put U sb (.cells (spC wd (next+1) esv oR oM oS A sv) 187 (0,0))):=(Fr.refl _ _).put (b:=sb) _ fun _=>rfl;simp -implicitDefEqProofs only[go_sem,j7,jV,r1,c1,q1,ra,c2];exact And.intro (StF.trans F9 (O.mono fun b _ e=>by rw[e];exact sF k9)) ⟨A,sv,_,ka,o8,a5,b9.fr O H,hR.push ov hv a4 hn,a8.fr O I⟩
theorem SpM.pushS (h:SpM u w0 w sb wd next esv oR oM oS ns ss)(hsb:w0.heap.size<=sb)(U:No w0 w)(a4:ss.length<=2 ^ 38){x:Sb}(h1:x.key.length=32)(h2:x.sum.length=32):∃ sv D A, rdO prog 139 w sb 7=some sv /\
  (Builtin.append_ #[139,139] 0 #[sv,.slice (some ⟨w.heap.size,0,none⟩) 1 1]).run prog (w.alloc (.cells (sbR x).toArray 229))=.ok D A /\
  ∃ cs,A.heap[sb]?=some (.cells cs 187 (0,0))/\∃ V,wrO prog 139 A sb 7 D=some (put A sb V)/\Fr (StF w0 w) w (put A sb V)/\SpM u w0 (put A sb V) sb wd next esv oR oM oS ns (ss++[x]):=by
 obtain⟨nv,sv,rows,W,Y,a5,hN,hR,Z⟩:=h;obtain⟨D,A,a0,b8,g8,m8⟩:=Z.push (P:=prog) app139_139 (xs:=sbR x) (sbC_len h1 h2) (sbC_one _ _ _ _) j0 (by rw[zE];omega) (by rw[zE];omega) U.size;have o8:one D=true:=by obtain⟨a,c,e,_⟩:=b8.rd.slice;rw[e];rfl
 have E:∀ b,qQf sv=some b->∃ c,w.heap[b]?=some (.cells c 229 (0,0)):=fun b H=>qQz Z H
 have a3:Fr (StF w0 w) w A:=g8.mono fun b _ e=>⟨Z.2.new b e,by obtain⟨c,B⟩:=E b e;exact⟨c,_,_,B,.inr (.inl rfl)⟩⟩
 have J:=g8.at W fun e=>by
  obtain⟨c,B⟩:=E sb e;rw[W]at B;cases B
 have M:NwR w0 A 78 102 nv rows:=hN.fr g8 fun b H e=>by
  obtain⟨c,B⟩:=E b e;obtain⟨c',N⟩:=qQz hN H;rw[B]at N;cases N
 have q8:wrO prog 139 A sb 7 D=some (put A sb (.cells (spC wd next esv oR oM oS nv D) 187 (0,0))):=wr1 sz139 o8 J (show 7<8 by decide);have k9:=qQd (o:=.cells (spC wd next esv oR oM oS nv D) 187 (0,0)) J
 have O:∀ b,qQf D=some b->b≠sb:=fun b H e=>by
  obtain⟨c,B⟩:=qQz b8 H;rw[e,J]at B;cases B
 have R:∀ b,qQf nv=some b->b≠sb:=fun b H e=>by
  obtain⟨c,B⟩:=qQz M H;rw[e,J]at B;cases B
 have I:Fr (fun b=>b=sb) A (put A sb (.cells (spC wd next esv oR oM oS nv D) 187 (0,0))):=(Fr.refl _ _).put (b:=sb) _ fun _=>rfl;refine⟨sv,D,A,rd1 agg139 W rfl,a0,_,J,_,q8,StF.trans a3 (I.mono fun b _ e=>by rw[e];exact⟨hsb,_,_,_,J,.inr (.inr rfl)⟩),nv,D,rows,k9,Y,o8,M.fr I R,hR,?_⟩;rw[vD];exact b8.fr I O
def kpI (u w0 w1:World)(sb wd next n A oR:Nat)(esv oM oS:Value)(k:Bs)(L:List Sb)(ns:List Nd)(ss:List Sb)(m:Nat)(vs:List Value)(w:World):Prop :=
 ∃ (i:Nat),vs=[pt sb 0,.int .i64 (n:Nat),pt A 0,.int .i64 (i:Nat)]/\i<=L.length/\m=L.length - i/\w.heap[A]?=some (.cells (bl k) 76 (0,0))/\SpM u w0 w sb wd next esv oR oM oS ns (ss++(L.take i).filter (sbU n k))/\Fr (StF w0 w1) w1 w
theorem keeps10 (h:SpM u w0 w sb wd next esv oR oM oS ns ss)(hsb:w0.heap.size<=sb)(a4:No w0 w){L:List Sb}(hS:RdR w0 66 oS (L.map sbR))(hL:SbOk L)(b3:ss.length+L.length<=2 ^ 38)(M:k.length=32)(hn:n<=256) :
  Fn prog 136 #[pt sb 0,dg k,.int .i64 (n:Nat)] w fun _ w'=>Fr (StF w0 w) w w'/\SpM u w0 w' sb wd next esv oR oM oS ns (ss++L.filter (sbU n k)):=by
 refine go136 sm ?_;obtain⟨W,hW,f1,k1,s1⟩:=qQl w (bl k) 76;obtain⟨oa,oc,rfl,b4⟩:=hS.slice;rw[zE]at *;have zz:(sbC 0 0 z32 z32).toArray=#[.int .i64 0,.int .i64 0]++bl (zG 64 0):=rfl;have zl:(sbC 0 0 z32 z32).toArray.size=66:=rfl;simp -implicitDefEqProofs only[go_sem,j7,vS,yU,jV,Tryz.f136,hW];refine loopD [0,2,4,6] (kpI u w0 w sb wd next n w.heap.size oR esv oM (.slice oa L.length oc) k L ns ss) L.length ⟨0,rfl,x8,rfl,k1,by rw[jT,List.filter_nil,z4];exact h.fr0 f1,StF.of w0 f1⟩ ?_;rintro _ vs B g ⟨i,rfl,hi,rfl,R,N,U⟩;have V:=StF.no a4 U
 have rS:∀ {w5:World} {a5:List Nd} {a6:List Sb},SpM u w0 w5 sb wd next esv oR oM (.slice oa L.length oc) a5 a6->rdO prog 139 w5 sb 5=some (.slice oa L.length oc):=fun N=>by
  obtain⟨_,_,_,ks,_⟩:=N;exact rd1 agg139 ks rfl
 have Y:=rS N
 have A:i<L.length->(L.take (i+1)).filter (sbU n k)=(L.take i).filter (sbU n k)++(if sbU n k (L.getD i ⟨0,0,[],[]⟩)=true then [L.getD i ⟨0,0,[],[]⟩] else []):=fun h=>by
  rw[tSg h,List.filter_append,qQw _ h]
  by_cases H:sbU n k L[i]=true
  ·rw[if_pos H];simp[H]
  ·rw[if_neg H];simp[H]
 have d1:=natlt i L.length
 by_cases D:i<L.length
 ·rw[decide_eq_true D]at d1
  have y1:=iBd (i:=i) (n:=L.length);have c1:=iSu (i:=i);obtain⟨b,o,cap,e1,_,a7⟩:=sb_rd hS hL D;cases e1;obtain⟨_,_,_,_,r5⟩:=a7 B V;obtain⟨E,Z⟩:=hL L[i] (vO D);have A:=A D;rw[qQw _ D]at A;have a8:=List.length_filter_le (sbU n k) (L.take i);rw[lTk]at a8;generalize b5:L[i]=x at *;have lx:(sbR x).toArray.size=66:=by rw[kG];exact sbC_len E Z
  obtain⟨W5,a0,f5,k5,s5⟩:=qQl B (sbC 0 0 z32 z32).toArray 229;have q5:wrO prog 229 W5 B.heap.size 0 (.agg (sbR x).toArray)=some (put W5 B.heap.size (.cells (sbR x).toArray 229 (0,0))):=qQo (by rw[lx];exact sz229) k5 (by rw[zl,lx]) (by rw[<- kJ];exact sbC_one _ _ _ _);have k6:=qQd (o:=.cells (sbR x).toArray 229 (0,0)) k5;have f6:No B (put W5 B.heap.size (.cells (sbR x).toArray 229 (0,0))):=f5.put (b:=B.heap.size) _ fun h=>by omega
  have b6:=qQi R;rw[zz]at a0;simp -implicitDefEqProofs only[go_sem,j7,vS,yU,jV,qQk,Y,y1,and_self,decide_true,iTn,r5,a0,q5];generalize put W5 B.heap.size (.cells (sbR x).toArray 229 (0,0))=w6 at *;have rb:rdO prog 3 w6 B.heap.size 0=some (.int .i64 (x.bits:Nat)):=rd1 agg3 k6 rfl
  have a9:rdO prog 76 w6 B.heap.size 2=some (dg x.key):=by
   have:=rd_rcs (P:=prog) (w:=w6) (b:=B.heap.size) (o:=2) agg76 sz76 (vs:=(x.key.map u8).toArray) (by simp[E]) j0 (fun j hj=>by
    rw[qXl k6,zJ,zJ,sbR,sbC,zU,jR sm,z8 (by simp[E,hj])]
    simp)
   exact this
  have rk:=rd_d agg76 sz76 (f6.at R id) M
  have I:decide (((x.bits:Nat):Int) ≥ (n:Int))=decide (n<=x.bits):=by
   by_cases h:n<=x.bits
   ·rw[decide_eq_true h];exact decide_eq_true x8
   ·rw[decide_eq_false h];exact decide_eq_false x8
  by_cases hb:n<=x.bits
  ·rw[decide_eq_true hb]at I
   simp -implicitDefEqProofs only[go_sem,j7,bSe,jV,rb,I,a9,rk];refine qQa pl169 ((common3 w6 E M).mono ?_);rintro _ w7 ⟨rfl,f7⟩
   have dc:decide (((common x.key k:Nat):Int) ≥ (n:Int))=decide (n<=common x.key k):=by
    by_cases h:n<=common x.key k
    ·rw[decide_eq_true h];exact decide_eq_true x8
    ·rw[decide_eq_false h];exact decide_eq_false x8
   have J:=f6.trans f7
   by_cases hc:n<=common x.key k
   ·rw[decide_eq_true hc]at dc
    have H:sbU n k x=true:=decide_eq_true ⟨hb,hc⟩;rw[if_pos H]at A;simp -implicitDefEqProofs only[go_sem,j7,bSe,dc];refine qXj (fun j=>j == 6) (.row [0,1,2,3,4,5,6,7,8,9,10]) rfl x9 x9 ?_;have O:No B w7.drew:=J.drew;have k8:w7.drew.heap[B.heap.size]?=_:=f7.at k6 id;generalize w7.drew=w8 at *;have b0:=N.fr0 O;obtain⟨sv,v9,w9,rsv,b1,cs,b7,ob,q9,F9,M9⟩:=b0.pushS hsb (V.trans O) (by rw[lAp];omega) E Z;have l8:=qQm (P:=prog) (t:=229) agg229 sz229 k8 lx;simp -implicitDefEqProofs only[go_sem,j7,yX,yU,jV,qQk,OT.row,rsv,l8];refine qKg (v:=.slice (some ⟨w8.heap.size,0,none⟩) 1 1) (w':=w8.alloc (.cells (sbR x).toArray 229)) (qQx (K:=66) j0 j0 (y:=[.int .i64 0,.int .i64 0]++(zG 64 (0:Byte)).map u8) (by rfl) (by rfl) lx _) (fun _=>((Fr.refl (fun _=>False) _).alloc _).ext) ?_;simp -implicitDefEqProofs only[go_sem,j7];refine qXf ⟨v9,w9,b1,?_⟩;refine⟨(fun h=>by cases h),?_⟩;simp -implicitDefEqProofs only[go_sem,j7,yX,jV,q9,c1];have a3:Fr (StF w0 B) B (put w9 sb ob):=StF.trans (StF.of w0 O) F9;rw[zU,<- A]at M9;exact⟨L.length - (i+1),x8,i+1,rfl,x8,rfl,StF.at a3 R j0,M9,StF.trans U a3⟩
   ·rw[decide_eq_false hc]at dc
    have H:¬ sbU n k x=true:=by unfold sbU;rw[decide_eq_true_eq];exact fun h=>hc h.2
    rw[if_neg H,z4]at A;simp -implicitDefEqProofs only[go_sem,j7,bSe,dc,c1];exact⟨L.length - (i+1),x8,i+1,rfl,x8,rfl,J.at R id,by rw[A];exact N.fr0 J,StF.trans U (StF.of w0 J)⟩
  ·rw[decide_eq_false hb]at I
   have H:¬ sbU n k x=true:=by unfold sbU;rw[decide_eq_true_eq];exact fun h=>hb h.1
   rw[if_neg H,z4]at A;simp -implicitDefEqProofs only[go_sem,j7,qQq,rb,I,c1];exact⟨L.length - (i+1),x8,i+1,rfl,x8,rfl,f6.at R id,by rw[A];exact N.fr0 f6,StF.trans U (StF.of w0 f6)⟩
 ·rw[decide_eq_false D]at d1
  rw[zB x8]at N;simp -implicitDefEqProofs only[go_sem,j7,vS,jV,d1,Y];exact And.intro U N
end
end R
end
section
namespace R
open Aud A
theorem empts_take (wd:Int){m:Nat}(h:m<=257):(empts wd 257).take m=empts wd m:=by
 apply kH;intro i
 by_cases hi:i<m
 ·rw[List.getElem?_take_of_lt hi,qVn wd 257 x8,qVn wd m hi]
 ·rw[vN (by rw[lTk];omega),vN (by rw[qXe];omega)]
def DgQ (wd:Int)(esv:Value)(n:Nat)(m:List En)(D:Bs):Prop:=∀ (w0:World) (mv:Value), Tabs w0->RdD w0 esv (empts wd 257)->EnR w0 mv m ->
  Fn prog 100 #[.int .i64 wd,esv,mv,.int .i64 (n:Nat)] w0 fun v w'=>v=dg D/\No w0 w'
theorem digNil (Y:n<=256):DgQ wd esv n [] (emptD wd (256 - n)):=by
 intro w0 mv Z J M;refine go100 sm ?_;obtain⟨W,N,E,H,s1⟩:=qQl w0 (bl (zG 32 0)) 75;obtain⟨a,cap,rfl,_⟩:=M.slice;have O:(((([]:List En).length:Nat):Int) == 0)=true:=rfl;have A:=J.fr0 E;obtain⟨eb,eo,ec,rfl,_,_⟩:=A.pos (by rw[qXe];decide);have I:=A.get (P:=prog) agg75 sz75 (i:=256 - n) (by rw[qXe];omega);rw[gDq,qVn wd 257 x8,kD]at I;have c2:IntKind.i64.wrap (256 - (n:Int))=((256 - n:Nat):Int):=qXv (a:=256) x8 x8;have R:(0:Int)<=((256 - n:Nat):Int)/\((256 - n:Nat):Int)<(((empts wd 257).length:Nat):Int):=by rw[qXe];omega
 have B:(emptD wd (256 - n)).length=32:=qQy _ _;generalize emptD wd (256 - n)=D at *;have U:=wr_d sz75 H zl32 B;have V:=rd_d agg75 sz75 (qQd (o:=.cells (bl D) 75 (0,0)) H) B;simp -implicitDefEqProofs only[go_sem,j7,vS,yU,jV,qQk,Tryz.f100,N,O,c2,R,and_self,iTn,I,U,V];exact E.put (b:=w0.heap.size) _ fun h=>by omega
theorem digBr (a4:n<256){B E:List En}(h2:2<=B.length+E.length)(hl:B.length+E.length<=2 ^ 40)(hM:Map n (B++E))(fl:(B++E).filter (fun x=>!kbit x.1 n)=B){Y Z:Bs}(O:Y.length=32)(R:Z.length=32)
  (hL:DgQ wd esv (n+1) B Y) (hR:DgQ wd esv (n+1) E Z):DgQ wd esv n (B++E) (qXk wd Y Z):=by
 intro w0 mv ht he hm;have H:(B++E).length=B.length+E.length:=lAp;refine go100 sm ?_;obtain⟨W,hW,f1,k1,s1⟩:=qQl w0 (bl (zG 32 0)) 75;obtain⟨a,cap,rfl,I⟩:=hm.slice;rw[H]at I
 have U:∀ w,No w0 w->EnR w (.slice a (B.length+E.length) cap) (B++E):=fun w f=>by
  have:=hm.fr0 f
  rwa [H]at this
 have d1:(((B.length+E.length:Nat):Int) == 0)=false:=(nateq (B.length+E.length) 0).trans (decide_eq_false x8);have d2:(((B.length+E.length:Nat):Int) == 1)=false:=(nateq (B.length+E.length) 1).trans (decide_eq_false x8);have lb:(qXk wd Y Z).length=32:=qXp _ _ _;have a0:=fun {w:World} (h:EnR w (.slice a (B.length+E.length) cap) (B++E))=>split w h hM a4 (by rw[H];omega);rw[fl]at a0;rw[H];generalize hN:B.length+E.length=N at *;simp -implicitDefEqProofs only[go_sem,j7,vS,yU,jV,qQk,Tryz.f100,hW,d1,d2];refine qQa pl143 ((a0 (U W f1)).mono ?_);rintro _ w2 ⟨rfl,f2⟩;have J:=f1.trans f2;have p1:=slc_hi (P:=prog) slc84 arr84 sz83 (a:=a) (n:=N) (cap:=cap) (l:=B.length) x8 I;have p2:=slc_lo (P:=prog) slc84 arr84 sz83 (a:=a) (n:=N) (cap:=cap) (l:=B.length) x8 I
 have h1:∀ w,No w0 w->EnR w (V.cutV 33 a cap 0 B.length) B:=fun w f=>by
  have:=(U w f).cutV (l:=0) (m:=B.length) x8 x8 H
  rwa [List.drop_zero,yQ,List.take_append_of_le_length (xC _),kQ]at this
 have a5:∀ w,No w0 w->EnR w (V.cutV 33 a cap B.length N) E:=fun w f=>by
  have:=(U w f).cutV (l:=B.length) (m:=N) x8 x8 H
  rwa [List.drop_append_of_le_length (xC _),List.drop_length,zA,zB x8]at this
 have c3:=iSu (i:=n);simp -implicitDefEqProofs only[go_sem,j7,p1,c3];refine qQa pl100 ((hL _ _ (ht.no J) (he.fr0 J) (h1 w2 J)).mono ?_);rintro _ w3 ⟨rfl,f3⟩;obtain⟨W4,q4,k4,f4,s4⟩:=A.allocD w3 (ty:=75) sz75 O;have M:=(J.trans f3).trans f4;simp -implicitDefEqProofs only[go_sem,j7,yU,qQk,q4,p2,c3];refine qQa pl100 ((hR _ _ (ht.no M) (he.fr0 M) (a5 W4 M)).mono ?_);rintro _ w5 ⟨rfl,f5⟩;obtain⟨W6,q6,k6,f6,s6⟩:=A.allocD w5 (ty:=75) sz75 R;have a3:=(M.trans f5).trans f6;have r4:=rd_d agg75 sz75 (f6.at (f5.at k4 id) id) O;have r6:=rd_d agg75 sz75 k6 R;simp -implicitDefEqProofs only[go_sem,j7,yU,qQk,q6,r4,r6];refine qQa pl96 ((branch W6 (ht.no a3) wd O R).mono ?_);rintro _ w7 ⟨rfl,f7⟩;have k7:=f7.at (f6.at (f5.at (f4.at (f3.at (f2.at k1 id) id) id) id) id) id;generalize qXk wd Y Z=D at *;have qw:=wr_d sz75 k7 zl32 lb;have qr:=rd_d agg75 sz75 (qQd (o:=.cells (bl D) 75 (0,0)) k7) lb;simp -implicitDefEqProofs only[go_sem,j7,qw,qr];exact (a3.trans f7).put (b:=w0.heap.size) _ fun h=>by omega
theorem digest10 {wd:Int}{esv:Value}:∀ (t:PT) {n:Nat},t.Wf n->Map n t.ents->(∀ e ∈ t.ents,e.2.length<=549755813888)->n<=256->t.ents.length<=2 ^ 40->DgQ wd esv n t.ents (dgT wd (256 - n) t)
 | .nil,n,B,A,D,E,H=>digNil E
 | .leaf p k v,n,B,A,D,E,H=>by
  intro w0 mv O R U;have:=digest1 w0 O wd R (e:=(k,v)) U (D (k,v) (by simp[PT.ents])) E;rw[empts_take wd x8]at this;exact this
 | .br p l r,n,B,A,D,E,H=>by
  have N:=filt_l B;have fr:=filt_r B;obtain⟨_,I,V,_,_,J,M⟩:=B;have A:Map n (l.ents++r.ents):=A;have W:(l.ents++r.ents).length=l.ents.length+r.ents.length:=lAp;have H:(l.ents++r.ents).length<=2 ^ 40:=H;have Y:=digest10 (wd:=wd) (esv:=esv) l (n:=n+1) J (by rw[<- N];exact A.lo) (fun e h=>D e (zH _ h)) x8 x8;have Z:=digest10 (wd:=wd) (esv:=esv) r (n:=n+1) M (by rw[<- fr];exact A.hi) (fun e h=>D e (zF _ h)) x8 x8
  have e:dgT wd (256 - n) (.br p l r)=qXk wd (dgT wd (256 - (n+1)) l) (dgT wd (256 - (n+1)) r):=by
   show qXk wd (dgT wd (256 - n - 1) l) (dgT wd (256 - n - 1) r)=_;rw[show 256 - (n+1)=256 - n - 1 by omega]
  rw[e];exact digBr I V x8 A N (qJd _ _ _) (qJd _ _ _) Y Z
theorem rootWith10 (t:PT){mv:Value}(I:Tabs w0)(J:RdD w0 esv (empts wd 257))(M:EnR w0 mv t.ents)(N:t.Wf 0)(O:Map 0 t.ents)(R:∀ e ∈ t.ents, e.2.length<=549755813888)(U:t.ents.length<=2 ^ 40) :
  Fn prog 59 #[.int .i64 wd,esv,mv] w0 fun v w'=>v=dg (dgT wd 256 t)/\No w0 w':=by
 refine go59 sm ?_;obtain⟨W,V,B,H,Y⟩:=qQl w0 (bl (zG 32 0)) 75;simp -implicitDefEqProofs only[go_sem,j7,vS,yU,jV,qQk,Tryz.f59,V];refine qQa pl100 ((digest10 t (n:=0) N O R x8 U _ _ (I.no B) (J.fr0 B) (M.fr0 B)).mono ?_);rintro _ Z ⟨rfl,E⟩;rw[yQ];have A:(dgT wd 256 t).length=32:=qJd _ _ _;generalize dgT wd 256 t=D at *;have q:=wr_d sz75 (E.at H id) zl32 A;have r:=rd_d agg75 sz75 (qQd (o:=.cells (bl D) 75 (0,0)) (E.at H id)) A;simp -implicitDefEqProofs only[go_sem,j7,q,r];exact (B.trans E).put (b:=w0.heap.size) _ fun h=>by omega
end R
end
section
namespace R
open Aud A
structure LayX (u w0:World) (sb wd:Nat) (esv:Value) (T:PT) (oM oS:Value) (fresh:Nat):Prop where
 hu:No u w0
 tabs:Tabs w0
 he:RdD w0 esv (empts wd 257)
 hsb:w0.heap.size<=sb
 hT:T.Wf 0
 hTM:Map 0 T.ents
 hTl:T.ents.length<=2 ^ 30
 hTp:∀ p ∈ T.pgs,p<fresh
 hM:EnR w0 oM T.ents
 hS:RdR w0 66 oS ((subsL wd 0 T).map sbR)
 hf:0<fresh
def LayPost (u w0:World)(sb wd:Nat)(esv:Value)(T:PT)(oM oS:Value)(fresh n:Nat)(t:PT)(next':Nat)(w:World)(ns:List Nd)(ss:List Sb)(v:Value)(w':World):Prop :=
 v=.tuple #[vi t.page,dg (dgT wd (256 - n) t)]/\Fr (StF w0 w) w w'/\SpM u w0 w' sb wd next' esv T.page oM oS (ns++news (dgT wd) fresh n t) (ss++subsL wd n t)
def LayC (u w0:World)(sb wd:Nat)(esv:Value)(T:PT)(oM oS:Value)(fresh n:Nat)(D A:List En)(next:Nat)(t:PT)(next':Nat):Prop:=∀ (w:World) (mv B:Value) (ns:List Nd) (ss:List Sb),
 SpM u w0 w sb wd next esv T.page oM oS ns ss->No w0 w->EnR w0 mv D->EnR u B A->ns.length<=next->ss.length+t.pgs.length+T.pgs.length<=2 ^ 38 ->
  Fn prog 97 #[pt sb 0,mv,B,.int .i64 (n:Nat)] w (LayPost u w0 sb wd esv T oM oS fresh n t next' w ns ss)
def LyR (u w0 w:World)(sb wd next:Nat)(esv:Value)(oR:Nat)(oM oS:Value)(n:Nat)(mv D:Value)(k:Bs)(ns:List Nd)(ss:List Sb)(A:Ev)(B:World):Prop :=
 A 0=pt sb 0/\A 1=mv/\A 2=D/\A 3=.int .i64 (n:Nat)/\A 9=pt w.heap.size 0/\A 10=pt (w.heap.size+1) 0/\B.heap[w.heap.size]?=some (.cells (bl (zG 32 0)) 75 (0,0))/\B.heap[w.heap.size+1]?=some (.cells (bl k) 76 (0,0)) /\
  Fr (StF w0 w) w B/\SpM u w0 B sb wd next esv oR oM oS ns ss
def LyD (K:Value->World->Prop)(A:Ev)(w:World):Prop:=den prog Tryz.f97.ntmps [10,19,23,24,31,32] (tailC 4 (bodyOf Tryz.f97)) (retQ prog Tryz.f97.results.toList K) A w
def LayRest (u w0:World)(sb wd:Nat)(esv:Value)(T:PT)(oM oS:Value)(fresh n:Nat)(H A:List En)(next:Nat)(t:PT)(next':Nat):Prop:=∀ (w:World) (mv B:Value) (ns:List Nd) (ss:List Sb),
 No w0 w->EnR w0 mv H->EnR u B A->ns.length<=next->ss.length+t.pgs.length+T.pgs.length<=2 ^ 38 ->
  ∀ D E,LyR u w0 w sb wd next esv T.page oM oS n mv B (headK A) ns ss D E->LyD (LayPost u w0 sb wd esv T oM oS fresh n t next' w ns ss) D E
section
variable {u w0:World} {sb wd:Nat} {esv:Value} {T:PT} {oM oS:Value} {fresh:Nat}
theorem layNil (hx:LayX u w0 sb wd esv T oM oS fresh)(hn:n<=256){me:List En}{next:Nat}:LayC u w0 sb wd esv T oM oS fresh n me [] next .nil next:=by
 intro w mv tv ns ss U f0 hm ht _ _;refine go97 sm ?_;obtain⟨W,hW,H,k1,s1⟩:=qQl w (bl (zG 32 0)) 75;obtain⟨a,cap,rfl,_⟩:=ht.slice;have d1:(((([]:List En).length:Nat):Int) == 0)=true:=rfl;have I:=f0.trans H;have A:=hx.he.fr0 I;obtain⟨J,M,V,rfl,_,_⟩:=A.pos (by rw[qXe];decide);have Y:=A.get (P:=prog) agg75 sz75 (i:=256 - n) (by rw[qXe];omega);rw[gDq,qVn (wd:Int) 257 x8,kD]at Y;have N:rdO prog 75 W.drew J (M+(256 - n)*32)=_:=Y;have O:=U.fr0 H
 have rE:rdO prog 71 W sb 2=some (.slice (some ⟨J,M,.none⟩) (empts wd 257).length V):=by
  obtain⟨_,_,_,ks,_⟩:=O;exact rd1 agg71 ks rfl
 have R:rdO prog 71 W.drew sb 2=some (.slice (some ⟨J,M,.none⟩) (empts wd 257).length V):=rE;have c2:IntKind.i64.wrap (256 - (n:Int))=((256 - n:Nat):Int):=qXv (a:=256) x8 x8;have y2:(0:Int)<=((256 - n:Nat):Int)/\((256 - n:Nat):Int)<(((empts wd 257).length:Nat):Int):=by rw[qXe];omega
 have B:(emptD wd (256 - n)).length=32:=qQy _ _;have ed:dgT wd (256 - n) .nil=emptD wd (256 - n):=rfl;unfold LayPost;rw[ed];generalize emptD wd (256 - n)=D at *;have E:W.drew.heap[w.heap.size]?=_:=k1;have qw:=wr_d sz75 E zl32 B;have qr:=rd_d agg75 sz75 (qQd (o:=.cells (bl D) 75 (0,0)) E) B;have Z:No w (put W.drew w.heap.size (.cells (bl D) 75 (0,0))):=H.drew.put (b:=w.heap.size) _ fun h=>by omega
 simp -implicitDefEqProofs only[go_sem,j7,yX,vS,yU,jV,qQk,Tryz.f97,hW,d1,R,c2,y2,and_self,iTn,N,qw,qr];refine And.intro rfl (And.intro (StF.of w0 Z) ?_);show SpM u w0 _ sb wd next _ T.page oM oS (ns++[]) (ss++[]);rw[z4,z4];exact U.fr0 Z
theorem layTop (Y:LayX u w0 sb wd esv T oM oS fresh)(hn:n<=256){o:PT}{B:List En}{next next':Nat}{t:PT}(N:0<B.length)(ho:o.Wf n)(a9:∀ p ∈ o.pgs, p<fresh)(hP:PosS wd T n (headK B) at' o)(hl:o.ents.length<=2 ^ 40)
  (a0:o.ents=B->at'=true->t=o/\next'=next) (E:¬ (o.ents=B/\at'=true)->LayRest u w0 sb wd esv T oM oS fresh n o.ents B next t next'):LayC u w0 sb wd esv T oM oS fresh n o.ents B next t next':=by
 intro w mv tv ns ss hM f0 hm ht b9 c0;refine go97 sm ?_;unfold DenF;refine den_cut 4 ?_;have E:=fun hc=>E hc w mv tv ns ss f0 hm ht b9 c0;unfold LyD at E;obtain⟨W,hW,f1,k1,s1⟩:=qQl w (bl (zG 32 0)) 75;obtain⟨tb,to,tc,vv,rfl,_,O,d9,e0,a3⟩:=ht.at N;rw[j9,yK]at a3
 have c3:B[0].1=headK B:=by
  cases B with
  | nil=>simp at N
  | cons e es=>rfl
 rw[c3]at O a3;have b0:=f0.trans f1;have d1:(((B.length:Nat):Int) == 0)=false:=(nateq B.length 0).trans (decide_eq_false x8);obtain⟨W2,c4,f2,k2,s2⟩:=qQl W (bl (zG 32 0)) 76;have q2:=wr_d sz76 k2 zl32 O;have k3:=qQd (o:=.cells (bl (headK B)) 76 (0,0)) k2;have f3:No W (put W2 W.heap.size (.cells (bl (headK B)) 76 (0,0))):=f2.put (b:=W.heap.size) _ fun h=>by omega
 have y1:(0:Int)<=0/\(0:Int)<((B.length:Nat):Int):=x8
 obtain⟨r1,_,_⟩:=a3 W (Y.hu.trans b0);simp -implicitDefEqProofs only[go_sem,j7,vS,yU,jV,yK,qQk,Tryz.f97,hW,d1,y1,and_self,vI,j9,r1,c4,q2];generalize put W2 W.heap.size (.cells (bl (headK B)) 76 (0,0))=W3 at *;generalize headK B=k at *;have a4:=b0.trans f3;refine qQa pl135 ((sameMap W3 (hm.fr0 a4) (ht.fr0 (Y.hu.trans a4)) hl).mono ?_);rintro _ w4 ⟨rfl,f4⟩;have a5:=a4.trans f4;have a6:=f4.at (f3.at k1 id) id;have R:=f4.at k3 id;have b1:=hM.fr0 ((f1.trans f3).trans f4);have b3:No w w4:=(f1.trans f3).trans f4;have hsz:W.heap.size=w.heap.size+1:=s1;rw[hsz]at R
 by_cases hs:o.ents=B
 case neg =>
  rw[decide_eq_false hs];simp -implicitDefEqProofs only[go_sem,hsz];refine qZv ?_;exact E (fun h=>hs h.1) _ _ ⟨rfl,rfl,rfl,rfl,rfl,rfl,a6,R,StF.of w0 b3,b1⟩
 rw[decide_eq_true hs];have rk:=rd_d agg76 sz76 R O;have c5:∀ e ∈ T.ents,e.1.length=32:=Y.hTM.2;have b4:=subs_ok (wd:=wd) Y.hT c5;have d8:(subsL wd 0 T).length=T.pgs.length:=subs_len;simp -implicitDefEqProofs only[go_sem,j7,hsz,rk];refine qQa pl136 ((keeps10 b1 Y.hsb a5 Y.hS b4 x8 O hn).mono ?_);rintro _ w5 ⟨F5,J⟩;rw[hP.subs]at J;have b5:=StF.at F5 R j0;have b6:=StF.at F5 a6 j0;have b7:=StF.no a5 F5;have c6:=rd_d agg76 sz76 b5 O;have M:=fun {nv sv:Value} (h:w5.heap[sb]?=some (.cells (spC wd next esv T.page oM oS nv sv) 187 (0,0)))=>found10 h (Y.he.fr0 b7) (Y.hS.fr0 b7) b4 x8 O hn;rw[hP.found ho]at M;obtain⟨nv,sv,rows,c7,_⟩:=id J;have M:=M c7;have b8:Fr (StF w0 w) w w5:=StF.trans (StF.of w0 b3) F5;have U:(dgT wd (256 - n) o).length=32:=qJd _ _ _;have c8:(emptD wd (256 - n)).length=32:=qQy _ _;simp -implicitDefEqProofs only[go_sem,j7,c6]
 cases at' with
 | true =>
  rw[if_pos rfl]at M J;refine qQa pl137 (M.mono ?_);rintro _ w6 ⟨rfl,f6⟩;have Z:o≠.nil:=fun h=>by rw[h]at hs;rw[<- hs]at N;simp[PT.ents]at N
  have e1:=PT.page_pos ho Z;have d6:((o.page:Int) != 0)=true:=(natne o.page 0).trans (decide_eq_true x8);obtain⟨rfl,rfl⟩:=a0 hs rfl;generalize c9:dgT wd (256 - n) t=D at *;obtain⟨V,q7,k7,f7,s7⟩:=A.allocD w6 (ty:=75) sz75 U;have d0:V.heap[w.heap.size]?=_:=f7.at (f6.at b6 id) id;have H:V.drew.heap[w.heap.size]?=_:=d0;have r7:=rd_d agg75 sz75 k7 U;have d2:rdO prog 75 V.drew w6.heap.size 0=_:=r7;have qw:=wr_d sz75 H zl32 U;have qr:=rd_d agg75 sz75 (qQd (o:=.cells (bl D) 75 (0,0)) H) U;simp -implicitDefEqProofs only[go_sem,j7,yX,yU,qQk,q7,d6,d2,qw,qr];have I:No w5 V.drew:=(f6.trans f7).drew;have e2:=qQi a6;have fp:No w5 V.drew:=I;have e3:=(StF.no a5 F5).size;refine And.intro (by rw[c9]) (And.intro ?_ ?_)
  ·exact (StF.trans b8 (StF.of w0 I)).put (b:=w.heap.size) _ fun h=>absurd h (Nat.lt_irrefl _)
  ·have d3 : news (dgT wd) fresh n t = [] := news_old (by
     cases t with
     | nil => exact absurd rfl Z
     | leaf q a b => exact a9 q (by simp [PT.pgs])
     | br q a b => exact a9 q (by simp [PT.pgs]))
   rw[d3,z4];have d4:=J.fr0 I;obtain⟨d5,d7,a7,g1,g2,g3,g4,g5,g6⟩:=d4;have a8:Fr (fun b=>b=w.heap.size) V.drew (put V.drew w.heap.size (.cells (bl D) 75 (0,0))):=(Fr.refl _ _).put (b:=w.heap.size) _ fun _=>rfl;refine⟨d5,d7,a7,a8.at g1 (fun e=>?_),g2,g3,g4.fr a8 fun b hb e=>?_,g5,g6.fr a8 fun b hb e=>?_⟩
   ·rw[e,H]at g1;cases g1
   ·obtain⟨c,hc⟩:=qQz g4 hb
    rw[e,H]at hc;cases hc
   ·obtain⟨c,hc⟩:=qQz g6 hb
    rw[e,H]at hc;cases hc
 | false =>
  rw[if_neg j0]at M J;rw[z4]at J;refine qQa pl137 (M.mono ?_);rintro _ w6 ⟨rfl,f6⟩;generalize emptD wd (256 - n)=D at *;have d6:(((0:Nat):Int) != 0)=false:=rfl;obtain⟨V,q7,k7,f7,s7⟩:=A.allocD w6 (ty:=75) sz75 c8;have I:No w5 V:=f6.trans f7;simp -implicitDefEqProofs only[go_sem,j7,yU,qQk,q7,d6];refine qZv ?_;exact E (fun h=>by cases h.2) _ _ ⟨rfl,rfl,rfl,rfl,rfl,rfl,I.at b6 id,I.at b5 id,StF.trans b8 (StF.of w0 I),J.fr0 I⟩
end
end R
end
section
theorem den_cutR {P:Program}{A:List Nat}(k:Nat)(R:Ev->World->Prop){c:Code}{Q:Post}{B:Ev}(D:den P n A (headC k c) (thenH R Q) B w)(E:∀ B w,R B w->den P n A (tailC k c) Q B w):den P n A c Q B w :=
 den_cut k (qXg _ (fun e B w h=>by
  cases e with
  | normal=>exact E _ _ h
  | _=>exact h) D)
namespace R
open Aud A
theorem dg_climb (wd:Int)(k v:Bs)(p:Nat){d n:Nat}(E:n<=d)(H:d<=256):climb wd k (256 - d) (cutD wd (dgT wd (256 - d) (.leaf p k v))) (((empts wd 257).drop (256 - d)).take (256 - n - (256 - d)))=dgT wd (256 - n) (.leaf 0 k v):=by
 show climb wd k (256 - d) (cutD wd (climb wd k 0 (leafD wd k v) (empts wd (256 - d)))) _=climb wd k 0 (leafD wd k v) (empts wd (256 - n));rw[Wit.climb_tdy wd k _ _ _ (leaf_cut wd k v)];have A:empts wd (256 - d)=(empts wd 257).take (256 - d):=(empts_take wd x8).symm
 have B:empts wd (256 - n)=(empts wd 257).take (256 - d)++((empts wd 257).drop (256 - d)).take (256 - n - (256 - d)):=by
  rw[<- empts_take wd (show 256 - n<=257 by omega),<- List.take_add]
  congr 1
  omega
 have D:((empts wd 257).take (256 - d)).length=256 - d:=by rw[lTk,qXe];omega
 rw[B,climb_app,A,D,jV]
theorem SpM.put' {u w0 w:World}{sb wd next:Nat}{oR:Nat}{oM oS:Value}{ns:List Nd}{ss:List Sb}(h:SpM u w0 w sb wd next esv oR oM oS ns ss){c:Array Value}{ty:TypeId}(D:w.heap[b]?=some (.cells c ty fz))(E:¬ (ty=78∨ty=229∨ty=187))(o:Obj)(N:fzO o=false:=by rfl):SpM u w0 (put w b o) sb wd next esv oR oM oS ns ss:=by
 obtain⟨nv,sv,rows,H,O,R,J,U,M⟩:=h;have A:Fr (fun x=>x=b) w (put w b o):=(Fr.refl _ _).put (b:=b) _ (fun _=>rfl) N;refine⟨nv,sv,rows,A.at H (fun e=>?_),O,R,J.fr A fun x I e=>?_,U,M.fr A fun x I e=>?_⟩
 ·rw[e,D]at H;cases H;exact E (.inr (.inr rfl))
 ·obtain⟨c,B⟩:=qQz J I
  rw[e,D]at B;cases B;exact E (.inl rfl)
 ·obtain⟨c,B⟩:=qQz M I
  rw[e,D]at B;cases B;exact E (.inr (.inl rfl))
section
variable {u w0:World} {sb wd:Nat} {esv:Value} {T:PT} {oM oS:Value} {fresh:Nat}
def L10 (w H:World)(sb n:Nat)(I:Value)(D:Bs)(A:Ev)(E:World):Prop :=
 A 0=pt sb 0/\A 2=I/\A 3=.int .i64 (n:Nat)/\A 9=pt w.heap.size 0/\A 10=pt (w.heap.size+1) 0/\∃ B,A 13=pt B 0/\E.heap[B]?=some (.cells (bl D) 75 (0,0))/\w.heap.size<B/\No H E
def L13 (u w0 w:World)(sb wd next:Nat)(esv:Value)(oR:Nat)(oM oS:Value)(n p:Nat)(k D:Bs)(ns:List Nd)(ss:List Sb)(A:Ev)(B:World):Prop :=
 A 0=pt sb 0/\A 3=.int .i64 (n:Nat)/\A 9=pt w.heap.size 0/\A 10=pt (w.heap.size+1) 0/\A 16=.int .i64 (p:Nat)/\B.heap[w.heap.size]?=some (.cells (bl (zG 32 0)) 75 (0,0))/\B.heap[w.heap.size+1]?=some (.cells (bl k) 76 (0,0)) /\
 ∃ E,A 13=pt E 0/\B.heap[E]?=some (.cells (bl D) 75 (0,0))/\w.heap.size<E/\Fr (StF w0 w) w B/\SpM u w0 B sb wd next esv oR oM oS ns ss
theorem layOne (H:LayX u w0 sb wd esv T oM oS fresh)(hn:n<=256){o:PT}{e:En}{next next':Nat}{t:PT}(k0:∀ p ∈ o.pgs, p<fresh)(hP:PosS wd T n e.1 at' o)(B:e.1.length=32)(k1:e.2.length<=128)(k2:fresh<=next)(n3:next<=2 ^ 38)
  (E:(match pageOf e.1 e.2 o with | some p=>(PT.leaf p e.1 e.2,next) | none=>(PT.leaf next e.1 e.2,next+1))=(t,next')):LayRest u w0 sb wd esv T oM oS fresh n o.ents [e] next t next':=by
 intro w mv tv ns ss f0 hm ht n4 n5 ev w5 ⟨V,e1,e2,e3,e9,A,kr,kk,F5,g1⟩;have kk:w5.heap[w.heap.size+1]?=some (.cells (bl e.1) 76 (0,0)):=kk;have g2:=StF.no f0 F5
 obtain⟨p,a0⟩:∃ p,t=.leaf p e.1 e.2:=by
  cases hp:pageOf e.1 e.2 o with
  | some p=>rw[hp]at E;cases E;exact⟨p,rfl⟩
  | none=>rw[hp]at E;cases E;exact⟨next,rfl⟩
 have k3:dgT wd (256 - n) t=dgT wd (256 - n) (.leaf 0 e.1 e.2):=by rw[a0];rfl
 have I:(dgT wd (256 - n) (.leaf 0 e.1 e.2)).length=32:=qJd _ _ _;have d2:=fun {q d:Nat} (h1:n<=d) (h2:d<=256)=>dg_climb wd e.1 e.2 q h1 h2
 have g3:DgQ wd esv n [e] (dgT wd (256 - n) (.leaf 0 e.1 e.2)):=fun u' n6 hT k4 k5=>by
  have:=digest1 u' hT wd k4 (e:=e) k5 x8 hn;rw[empts_take wd x8]at this;exact this
 obtain⟨tb,to,tc,vv,rfl,_,_,g4,d3,a9⟩:=ht.at (i:=0) sm;rw[j9,yK]at a9;simp only[List.getElem_cons_zero,List.length_cons,List.length_nil,jV]at d3 a9 e2;have d1:(((1:Nat):Int) == 1)=true:=rfl;have y1:(0:Int)<=0/\(0:Int)<((1:Nat):Int):=sm
 have n7:=qQi kr;have n8:=qQi kk;show LyD (fun v w'=>v=.tuple #[vi t.page,dg (dgT wd (256 - n) t)]/\Fr (StF w0 w) w w'/\SpM u w0 w' sb wd next' esv T.page oM oS (ns++news (dgT wd) fresh n t) (ss++subsL wd n t)) ev w5;have d4:subsL wd n t=[⟨n,p,e.1,dgT wd (256 - n) (.leaf 0 e.1 e.2)⟩]:=by rw[a0];rfl
 have d5:t.page=p:=by rw[a0];rfl
 rw[k3,d4,d5];generalize dgT wd (256 - n) (.leaf 0 e.1 e.2)=D at *;unfold LyD;simp only[go_sem,Tryz.f97,bodyOf,tailC,e2,d1];refine qXg (Q:=fun x ev W=>x=.normal/\L10 w w5 sb n (.slice (some ⟨tb,to,.none⟩) 1 tc) D ev W) _ (fun x ev W=>?_) ?_
 rotate_left
 ·refine qXj (fun j=>j == 11) (.one 0 (.one 1 (.one 2 (.one 4 (.one 5 (.one 6 (.one 8 (.one 9 (.one 3 (.one 7 (.two 10 (.row [11,12]) 11 (.row [10,12])))))))))))) rfl x9 x9 ?_
  have fd:No w5 w5.drew:=(Fr.refl _ _).drew;have s5:w5.drew.heap.size=w5.heap.size:=rfl;generalize w5.drew=W at *;have J:=g2.trans fd;obtain⟨nv,sv,rows,ks,_⟩:=g1.fr0 fd;have d6:rdO prog 3 W sb 0=some (vi wd):=rd1 agg3 ks rfl;have d7:rdO prog 71 W sb 2=some esv:=rd1 agg71 ks rfl;simp only[go_sem,j7,yX,yU,bSe,jV,qQk,OT.row,V,e2,e3,d6,d7];constructor
  ·refine qQc pl100 ((g3 _ _ (H.tabs.no J) (H.he.fr0 J) (ht.fr0 (H.hu.trans J))).mono ?_);rintro _ R ⟨rfl,f7⟩
   refine⟨(fun h=>by cases h),?_⟩;obtain⟨W8,q8,k8,f8,s8⟩:=allocD R (ty:=75) sz75 I;have e7:Ext R (R.alloc (.cells (bl (zG 32 0)) 75)):=Ext.alloc _ _;have s7:=f7.size;simp only[go_sem,j7,yX,yU,bSe,qQk,q8,e7,implies_true,true_and]
   refine⟨?_,?_,?_,?_,?_,R.heap.size,?_,k8,x8,(fd.trans f7).trans f8⟩ <;> simp only[go_sem,j7,V,e2,e3,e9,A]
  ·obtain⟨W7,k6,f7,k7,s7⟩:=qQl W (bl (zG 32 0)) 75
   have e7:=f7.ext;simp only[go_sem,k6];refine qQc pl100 ((g3 _ _ (H.tabs.no (J.trans f7)) (H.he.fr0 (J.trans f7)) (ht.fr0 (H.hu.trans (J.trans f7)))).mono ?_);rintro _ U ⟨rfl,f8⟩;refine⟨(fun h=>by cases h),?_⟩;have k8:=f8.at k7 id;have q9:=wr_d sz75 k8 zl32 I;have k9:=qQd (o:=.cells (bl D) 75 (0,0)) k8;simp only[go_sem,j7,yX,q9]
   refine⟨?_,?_,?_,?_,?_,W.heap.size,?_,k9,x8,((fd.trans f7).trans f8).put (b:=W.heap.size) _ fun h=>by omega⟩ <;> simp only[go_sem,j7,V,e2,e3,e9,A]
 clear V e2 e3 e9 A;rintro⟨rfl,V,e2,e3,e9,A,db,N,kd,a3,a4⟩;rw[thenQ_normal];have c0:=a4.at kr id;have b0:=a4.at kk id;have J:=g2.trans a4;have F6:=StF.trans F5 (StF.of w0 a4);have b1:=g1.fr0 a4;refine den_cutR 3 (L13 u w0 w sb wd next' esv T.page oM oS n p e.1 D (ns++news (dgT wd) fresh n t) ss) ?_ ?_
 ·obtain⟨nv,sv,rows,l0,_⟩:=id b1
  have l1:∀ x ∈ T.ents,x.1.length=32:=H.hTM.2;have l2:=subs_ok (wd:=wd) H.hT l1;have m8:(subsL wd 0 T).length=T.pgs.length:=subs_len;have rM:rdO prog 84 W sb 4=some oM:=rd1 agg84 l0 rfl;have l3:rdO prog 84 W.drew sb 4=some oM:=rM;have rk:=rd_d agg76 sz76 b0 B;have l4:rdO prog 76 W.drew (w.heap.size+1) 0=_:=rk;have hTl:=H.hTl;simp only[go_sem,j7,yX,vS,jV,V,A,l3,l4];refine qQa pl138 ((look3 W.drew (H.hM.fr0 J.drew) H.hTM B x8).mono ?_);rintro _ R ⟨f7,lv,lb,rfl,n9,l5,c3⟩;have a5:No W R:=(Fr.refl _ _).drew.trans f7;have Y:=J.trans a5;have b3:=a5.at c0 id;have a6:=a5.at b0 id;have a7:=a5.at kd id;have b4:=b1.fr0 a5;have F7:=StF.trans F6 (StF.of w0 a5);obtain⟨_,l6,_⟩:=a9 R (H.hu.trans Y);have b5:=rd_d agg76 sz76 a6 B
  have c4:∀ (U:World), No R U->pageOf e.1 e.2 o=none->∃ (_:p=next) (_:next'=next+1), (∃ bn, bldO prog 78 [(0, .int .i64 1), (7, dg e.1), (8, vv)]=some (.agg bn)/\bn=(ndA (.leaf e.1 e.2) vv).toArray) /\
    Fn prog 142 #[pt sb 0,.agg (ndA (.leaf e.1 e.2) vv).toArray] U fun v w'=>v=vi p/\Fr (StF w0 U) U w'/\SpM u w0 w' sb wd next' esv T.page oM oS (ns++news (dgT wd) fresh n t) ss:=fun U g5 Z=>by
   rw[Z]at E;cases E;cases a0;refine⟨rfl,rfl,⟨_,bldLeaf B g4,rfl⟩,?_⟩;have d8:news (dgT wd) fresh n (.leaf next e.1 e.2)=[.leaf e.1 e.2]:=by unfold news;rw[if_pos k2]
   rw[d8];exact staged10 (b4.fr0 g5) H.hsb (Y.trans g5) x8 x8 (n:=.leaf e.1 e.2) ⟨B,k1⟩ g4 d3 (fun h=>by cases h)
  cases lb with
  | false =>
   have Z:pageOf e.1 e.2 o=none:=by
    rw[<- hP.lvs e.2]
    cases hp:pageOf e.1 e.2 T with
    | none=>rfl
    | some q=>exact absurd rfl (c3 rfl _ (qKp hp))
   obtain⟨_,_,⟨bn,hb,d9⟩,_⟩:=c4 R (Fr.refl _ _) Z;subst d9;obtain⟨_,b6,_⟩:=a9 R.drew (H.hu.trans Y.drew);have b7:rdO prog 76 R.drew (w.heap.size+1) 0=_:=b5;simp only[go_sem,j7,yX,qQq,V,e2,A,y1,and_self,vI,j9,b7,b6,hb];obtain⟨_,_,_,e4⟩:=c4 R.drew (Fr.refl _ _).drew Z;refine qQa pl142 (e4.mono ?_);rintro _ U ⟨rfl,F8,e5⟩;have O:Fr (StF w0 R) R U:=StF.trans (StF.of w0 (Fr.refl _ _).drew) F8;simp only[go_sem]
   refine qZv ⟨?_,?_,?_,?_,?_,StF.at O b3 j0,StF.at O a6 j0,db,?_,StF.at O a7 j0,a3,StF.trans F7 O,e5⟩ <;> simp only[go_sem,j7,V,e3,e9,A,N]
  | true =>
   obtain⟨val,d0,g6⟩:=l5 rfl;have e6:=g6.fr0 f7;simp only[go_sem,j7,bSe,e2,y1,and_self,vI,j9,l6];refine qQa pl139 ((sameBytes R e6 (d3.fr0 (H.hu.trans Y))).mono ?_);rintro _ U ⟨rfl,rfl⟩
   by_cases c7:val=e.2
   ·rw[decide_eq_true c7]
    subst c7;have b8:=pageOf_map d0
    cases e8:pageOf e.1 e.2 T with
    | none=>rw[e8]at b8;cases b8
    | some q =>
    have g7:pageOf e.1 e.2 o=some q:=by rw[<- hP.lvs e.2];exact e8
    rw[g7]at E;cases E;cases a0;obtain⟨d,_,l7,f1⟩:=leaf_fold (wd:=wd) (t:=T) (n:=0) (a:=none) x8 H.hT (fun y h=>by cases h) (fun x _=>jJ _) e8;have d8:news (dgT wd) fresh n (.leaf p e.1 e.2)=[]:=news_old (k0 p (qKo g7));rw[d8,z4];obtain⟨nv,sv,rows,l8,_⟩:=id b4;have l9:∀ x ∈ subsL wd 0 T,x.bits<=256:=subs_bits H.hT x8;have c3:=leafOf10 l8 (H.hS.fr0 Y) l2 x8 l9 B;rw[f1]at c3;have f2:(dgT wd (256 - d) (.leaf p e.1 e.2)).length=32:=qJd _ _ _;have lx:(lfC (some ⟨d,p,e.1,dgT wd (256 - d) (.leaf p e.1 e.2)⟩)).toArray.size=66:=by rw[kG];exact sbC_len B f2
    have g8:=lfC_one (some ⟨d,p,e.1,dgT wd (256 - d) (.leaf p e.1 e.2)⟩);have c8:lfC (some ⟨d,p,e.1,dgT wd (256 - d) (.leaf p e.1 e.2)⟩)=sbC d p e.1 (dgT wd (256 - d) (.leaf p e.1 e.2)):=rfl;have d2:=fun h=>d2 (q:=p) (d:=d) h l7;generalize dgT wd (256 - d) (.leaf p e.1 e.2)=X at *;simp only[go_sem,j7,V,A,b5];refine qQa pl140 (c3.mono ?_);rintro _ M ⟨rfl,f9⟩;have zz:(sbC 0 0 z32 z32).toArray=#[.int .i64 0,.int .i64 0]++bl (zG 64 0):=rfl;have zl:(sbC 0 0 z32 z32).toArray.size=66:=rfl;obtain⟨Wa,f3,fa,ka,sa⟩:=qQl M (sbC 0 0 z32 z32).toArray 229;have qa:wrO prog 229 Wa M.heap.size 0 (.agg (lfC (some ⟨d,p,e.1,X⟩)).toArray)=some (put Wa M.heap.size (.cells (lfC (some ⟨d,p,e.1,X⟩)).toArray 229 (0,0))):=qQo (by rw[lx];exact sz229) ka (by rw[zl,lx]) (by rw[<- kJ];exact g8);have kb:=qQd (o:=.cells (lfC (some ⟨d,p,e.1,X⟩)).toArray 229 (0,0)) ka;have fb:No M (put Wa M.heap.size (.cells (lfC (some ⟨d,p,e.1,X⟩)).toArray 229 (0,0))):=fa.put (b:=M.heap.size) _ fun h=>by omega
    rw[zz]at f3;generalize put Wa M.heap.size (.cells (lfC (some ⟨d,p,e.1,X⟩)).toArray 229 (0,0))=wb at *;have a8:=f9.trans fb;rw[c8]at kb;have rp:rdO prog 3 wb M.heap.size 1=some (vi p):=rd1 agg3 kb rfl;have rb:rdO prog 3 wb M.heap.size 0=some (vi d):=rd1 agg3 kb rfl
    have c9:decide (((d:Nat):Int) > (n:Int))=decide (n<d):=by
     by_cases h:n<d
     ·rw[decide_eq_true h];exact decide_eq_true x8
     ·rw[decide_eq_false h];exact decide_eq_false x8
    have g9:=a8.at b3 id;have f4:=a8.at a6 id;have h0:=a8.at a7 id;have Fb:=StF.trans F7 (StF.of w0 a8);have f5:=b4.fr0 a8
    by_cases hnd:n<d
    ·rw[decide_eq_true hnd]at c9
     obtain⟨p0,p1,m0,h3,_⟩:=id f5;have h4:=Y.trans a8;have d6:rdO prog 3 wb sb 0=some (vi wd):=rd1 agg3 h3 rfl;have d7:rdO prog 71 wb sb 2=some esv:=rd1 agg71 h3 rfl;have m1:=rd_d agg76 sz76 f4 B
     have rs:rdO prog 75 wb M.heap.size 34=some (dg X):=by
      have:=rd_rcs (P:=prog) (w:=wb) (b:=M.heap.size) (o:=34) agg75 sz75 (vs:=(X.map u8).toArray) (by simp[f2]) j0 (fun j hj=>by
       rw[qXl kb,zJ,zJ,sbC,jR (by simp[B])]
       simp[B])
      exact this
     have h5:rdO prog 3 wb.drew sb 0=some (vi wd):=d6;have h6:rdO prog 71 wb.drew sb 2=some esv:=d7;have h7:rdO prog 76 wb.drew (w.heap.size+1) 0=_:=m1;have m2:rdO prog 75 wb.drew M.heap.size 34=some (dg X):=rs;have m3:rdO prog 3 wb.drew M.heap.size 0=some (vi d):=rb;have c5:IntKind.i64.wrap (256 - ((d:Nat):Int))=((256 - d:Nat):Int):=qXv (a:=256) x8 x8;have c6:IntKind.i64.wrap (256 - ((n:Nat):Int))=((256 - n:Nat):Int):=qXv (a:=256) x8 x8;simp only[go_sem,j7,yX,yU,jV,qQk,f3,qa,rp,rb,m3,V,e3,A,c9,h5,h6,h7,m2,c5,c6];refine qQa pl141 ((climbWithF wb.drew (H.tabs.no h4.drew) wd (H.he.fr0 h4.drew) B f2 (f:=256 - d) (n:=256 - n) x8 x8).mono ?_);rintro _ wc ⟨rfl,fc⟩;rw[d2 x8];have b9:No wb wc:=(Fr.refl _ _).drew.trans fc;have f6:=b9.at h0 id;have qc:=wr_d sz75 f6 I I;rw[put_self f6]at qc;simp only[go_sem,j7,N,qc]
     refine qZv ⟨?_,?_,?_,?_,?_,b9.at g9 id,b9.at f4 id,db,?_,f6,a3,StF.trans Fb (StF.of w0 b9),f5.fr0 b9⟩ <;> simp only[go_sem,j7,V,e3,e9,A,N]
    ·rw[decide_eq_false hnd]at c9
     simp only[go_sem,j7,yU,jV,qQk,f3,qa,rp,rb,e3,c9]
     refine qZv ⟨?_,?_,?_,?_,?_,g9,f4,db,?_,h0,a3,Fb,f5⟩ <;> simp only[go_sem,j7,V,e3,e9,A,N]
   ·rw[decide_eq_false c7]
    have Z:pageOf e.1 e.2 o=none:=by
     rw[<- hP.lvs e.2]
     cases hp:pageOf e.1 e.2 T with
     | none=>rfl
     | some q=>exact absurd (congrArg Prod.snd (map_uniq H.hTM _ d0 _ (qKp hp) rfl)) c7
    obtain⟨_,_,⟨bn,hb,d9⟩,_⟩:=c4 U (Fr.refl _ _) Z;subst d9;obtain⟨_,b6,_⟩:=a9 U.drew (H.hu.trans Y.drew);have b7:rdO prog 76 U.drew (w.heap.size+1) 0=_:=b5;simp only[go_sem,j7,yX,V,e2,A,y1,and_self,vI,j9,b7,b6,hb];obtain⟨_,_,_,e4⟩:=c4 U.drew (Fr.refl _ _).drew Z;refine qQa pl142 (e4.mono ?_);rintro _ M ⟨rfl,F8,e5⟩;have O:Fr (StF w0 U) U M:=StF.trans (StF.of w0 (Fr.refl _ _).drew) F8;simp only[go_sem]
    refine qZv ⟨?_,?_,?_,?_,?_,StF.at O b3 j0,StF.at O a6 j0,db,?_,StF.at O a7 j0,a3,StF.trans F7 O,e5⟩ <;> simp only[go_sem,j7,V,e3,e9,A,N]
 ·clear V e2 e3 e9 A N c0 b0 kd a4 J F6 b1 a3 db
  rintro ev W ⟨V,e3,e9,A,h8,c0,b0,db,N,kd,a3,F6,b1⟩;simp only[go_sem,tailC];refine qXj (fun j=>j == 10) (.row [0,1,2,3,5,6,4,7,8,9,10,11,12,13,14]) rfl x9 x9 ?_;have fd:No W W.drew:=(Fr.refl _ _).drew;generalize W.drew=R at *;have b3:=fd.at c0 id;have a6:=fd.at b0 id;have a7:=fd.at kd id;have F7:=StF.trans F6 (StF.of w0 fd);have b4:=b1.fr0 fd;have b5:=rd_d agg76 sz76 a6 B;have m4:=rd_d agg75 sz75 a7 I;have bs:=bldSb (bits:=n) (page:=p) B I;have m9:t.pgs.length=1:=by rw[a0];rfl
  obtain⟨sv,v8,U,rsv,m5,cs,p2,ob,q9,F9,M9⟩:=b4.pushS H.hsb (StF.no f0 F7) x8 (x:=⟨n,p,e.1,D⟩) B I;have lx:(sbC n p e.1 D).toArray.size=66:=by rw[kG];exact sbC_len B I
  simp only[go_sem,j7,yX,yU,jV,qQk,OT.row,rsv,V,e3,A,N,h8,b5,m4,bs];refine qKg (v:=.slice (some ⟨R.heap.size,0,none⟩) 1 1) (w':=R.alloc (.cells (sbC n p e.1 D).toArray 229)) (qQx (K:=66) j0 j0 (y:=[.int .i64 0,.int .i64 0]++(zG 64 (0:Byte)).map u8) (by rfl) (by rfl) lx _) (fun _=>((Fr.refl (fun _=>False) _).alloc _).ext) ?_;simp only[go_sem,j7];refine qXf ⟨v8,U,m5,?_⟩;refine⟨(fun h=>by cases h),?_⟩;simp only[go_sem,j7,yX,jV,q9];generalize put U sb ob=M at *;have g0:M.drew.heap[w.heap.size]?=_:=StF.at F9 b3 j0;have h9:=rd_d agg75 sz75 (StF.at F9 a7 j0) I;have n0:rdO prog 75 M.drew db 0=_:=h9;have qw:=wr_d sz75 g0 zl32 I;have qr:=rd_d agg75 sz75 (qQd (o:=.cells (bl D) 75 (0,0)) g0) I;simp only[go_sem,j7,e9,N,h8,h9,qw,qr];have m6:=M9.fr0 (Fr.refl (fun _=>False) M).drew;have m7:=StF.trans (StF.trans F7 F9) (StF.of w0 (Fr.refl (fun _=>False) M).drew);exact And.intro (m7.put (b:=w.heap.size) _ fun h=>absurd h (Nat.lt_irrefl _)) (m6.put' g0 j0 _)
end
end R
end
end Go.V
