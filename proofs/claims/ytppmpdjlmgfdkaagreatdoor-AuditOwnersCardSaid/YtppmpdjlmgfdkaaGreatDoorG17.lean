/- Helpers. -/
import Derived.Test.YtppmpdjlmgfdkaaGreatDoorG16
set_option linter.all false
set_option maxRecDepth 100000
set_option maxHeartbeats 8000000
open BitVec renaming ofInt_natCast→xK,ofInt→qQ,eq_of_toNat_eq→j8,toNat_ofNat→zM,setWidth_eq→xV,ofNat_toNat→xW
open Nat renaming reduceEqDiff→jY,testBit_eq_decide_div_mod_eq→j9,mod_eq_of_lt→yQ,mul_one→jU,div_le_self→yX,le_refl→xT
open Option renaming map_some→qK
namespace Go.V
open Go.Proofs.Tryz Go.V.Tryz
open Go.Proofs Sha
variable {a b k:Bs} {i z:Nat}
def kb (k:Bs)(i:Nat):Int:=if kbit k i then 1 else 0
theorem kb_div (k:Bs)(i:Nat):(((k.getD (i / 8) 0).toNat / 2 ^ (7 - i % 8) % 2:Nat):Int)=kb k i:=by
 unfold kb kbit
 have:(k.getD (i / 8) 0).getLsbD (7 - i % 8)=decide ((k.getD (i / 8) 0).toNat / 2 ^ (7 - i % 8) % 2=1):=by
  show Nat.testBit _ _=_;rw[j9]
 rw[this];have h2:(k.getD (i / 8) 0).toNat / 2 ^ (7 - i % 8) % 2<2:=Nat.mod_lt _ (by decide);split
 ·rename_i h;rw[of_decide_eq_true h];rfl
 ·rename_i h
  have:¬ ((k.getD (i / 8) 0).toNat / 2 ^ (7 - i % 8) % 2=1):=fun e=>h (decide_eq_true e);have:(k.getD (i / 8) 0).toNat / 2 ^ (7 - i % 8) % 2=0:=by omega
  rw[this];rfl
theorem shr64i (a k:Nat)(hk:k≤64):shrK .i64 (a:Int) (k:Int)=((a / 2 ^ k:Nat):Int):=by
 have e:shrK .i64 (a:Int) (k:Int)=(a:Int).fdiv (2 ^ (min ((k:Nat):Int).toNat 64)):=rfl;rw[e,iTn,Nat.min_eq_left hk,fdivn]
theorem shr8i (a k:Nat)(hk:k≤8):shrK .u8 (a:Int) (k:Int)=((a / 2 ^ k:Nat):Int):=by
 have e:shrK .u8 (a:Int) (k:Int)=(a:Int).fdiv (2 ^ (min ((k:Nat):Int).toNat 8)):=rfl;rw[e,iTn,Nat.min_eq_left hk,fdivn]
theorem and64i (a b:Nat)(ha:a<2 ^ 62)(hb:b<2 ^ 62):andK .i64 (a:Int) (b:Int)=((a &&& b:Nat):Int):=by
 have e:andK .i64 (a:Int) (b:Int)=IntKind.i64.wrap (((qQ 64 (a:Int) &&& qQ 64 (b:Int)).toNat:Nat):Int):=rfl;rw[e,xK,xK,BitVec.toNat_and,zM,zM,yQ (by omega),yQ (by omega)];exact i64n (by have:=Nat.and_le_left (n:=a) (m:=b);omega)
theorem and64m (a k:Nat)(ha:a<2 ^ 62)(hk:k<62):andK .i64 (a:Int) ((2 ^ k - 1:Nat):Int)=((a % 2 ^ k:Nat):Int):=by
 have:2 ^ k<2 ^ 62:=Nat.pow_lt_pow_right (by decide) hk;rw[and64i a _ ha (by omega),Nat.and_two_pow_sub_one_eq_mod]
theorem and64_7 (a:Nat)(ha:a<2 ^ 62):andK .i64 (a:Int) 7=((a % 8:Nat):Int):=and64m a 3 ha (by decide)
theorem and64_1 (a:Nat)(ha:a<2 ^ 62):andK .i64 (a:Int) 1=((a % 2:Nat):Int):=and64m a 1 ha (by decide)
theorem xor8 (x y:Byte):xorK .u8 (x.toNat:Int) (y.toNat:Int)=((x ^^^ y).toNat:Int):=by
 have e:xorK .u8 (x.toNat:Int) (y.toNat:Int)=IntKind.u8.wrap (((qQ 8 (x.toNat:Int) ^^^ qQ 8 (y.toNat:Int)).toNat:Nat):Int):=rfl;rw[e,xK,xK,xW,xW,xV,xV];exact w8_toNat _
namespace R
def biI (w0:World)(x j0:Nat)(n:Nat)(vs:List Value)(w:World):Prop :=
 ∃ j,vs=[.int .i64 ((x / 2 ^ (j - j0):Nat):Int),.int .i64 (j:Nat)]∧j0≤j∧j≤7∧n=7 - j∧No w0 w
theorem bit (w0:World)(hk:k.length=32)(hi:i<256):Fn prog 170 #[dg k,.int .i64 (i:Nat)] w0 fun v w'=>v=.int .i64 (kb k i)∧No w0 w':=by
 refine go170 (by simp) ?_;have f1:No w0 (w0.alloc (.cells (bl k) 76)):=(Fr.refl _ _).alloc _;have k1:(w0.alloc (.cells (bl k) 76)).heap[w0.heap.size]?=some (.cells (bl k) 76 (0,0)):=qQb _ _;have n0:((8:Int)=0)=False:=by simp
 have n2:((2:Int)=0)=False:=by simp
 have a1:IntKind.i64.wrap ((i:Int).tdiv 8)=((i / 8:Nat):Int):=by
  rw[show (i:Int).tdiv 8=((i / 8:Nat):Int) from rfl];exact i64n
 have a2:(i:Int).tmod 8=((i % 8:Nat):Int):=rfl;have y:(0:Int)≤((i / 8:Nat):Int)∧((i / 8:Nat):Int)<((32:Nat):Int):=by omega
 have r:rdO prog 5 (w0.alloc (.cells (bl k) 76)) w0.heap.size (i / 8)=some (.int .u8 ((k.getD (i / 8) 0).toNat:Int)):=rd1 agg5 k1 (bl_at (by omega));have c1:IntKind.i64.wrap ((k.getD (i / 8) 0).toNat:Int)=((k.getD (i / 8) 0).toNat:Int):=i64n (by have:=(k.getD (i / 8) 0).isLt;omega);have hkb:=kb_div k i;have hx:(k.getD (i / 8) 0).toNat<256:=(k.getD (i / 8) 0).isLt;simp -implicitDefEqProofs only[go_sem,jY,Tryz.f170,Value.cells,n0,a1,a2,y,and_self,iTn,jU,r,c1];generalize (k.getD (i / 8) 0).toNat=x at *;refine loopD [5,6] (biI w0 x (i % 8)) (7 - i % 8) ⟨i % 8,by rw[Nat.sub_self,Nat.pow_zero,Nat.div_one];rfl,xT _,by omega,rfl,f1⟩ ?_;rintro _ vs w1 g ⟨j,rfl,h1,h2,rfl,f2⟩;have hq:x / 2 ^ (j - i % 8)≤x:=yX _ _
 by_cases hlt:j<7
 ·have d1:=dTo ((j:Int)<7)
  have c2:=iSu (i:=j)
  have c3:IntKind.i64.wrap (((x / 2 ^ (j - i % 8):Nat):Int).tdiv 2)=((x / 2 ^ (j+1 - i % 8):Nat):Int):=by
   rw[show ((x / 2 ^ (j - i % 8):Nat):Int).tdiv 2=((x / 2 ^ (j - i % 8) / 2:Nat):Int) from rfl,Nat.div_div_eq_div_mul,← Nat.pow_succ,show (j - i % 8).succ=j+1 - i % 8 by omega];exact i64n (by have:=yX x (2 ^ (j+1 - i % 8));omega)
  simp -implicitDefEqProofs only[go_sem,jY,d1,n2,c2,c3];exact⟨7 - (j+1),by omega,j+1,rfl,by omega,by omega,rfl,f2⟩
 ·have d1:=dFo ((j:Int)<7)
  have e:j=7:=by omega
  subst e;have c3:(((x / 2 ^ (7 - i % 8):Nat):Int).tmod 2)=kb k i:=hkb;simp -implicitDefEqProofs only[go_sem,jY,d1,n2,c3];exact f2
end R
theorem bbit (w0:World)(hk:k.length=32)(hi:i<256):Fn prog 194 #[dg k,.int .i64 (i:Nat)] w0 fun v w'=>v=.int .i64 (kb k i)∧No w0 w':=by
 refine go194 (by simp) ?_;have f1:No w0 (w0.alloc (.cells (bl k) 76)):=(Fr.refl _ _).alloc _;have k1:(w0.alloc (.cells (bl k) 76)).heap[w0.heap.size]?=some (.cells (bl k) 76 (0,0)):=qQb _ _;have z1:decide ((i:Int)<0)=false:=by simp
 have z2:=dFo ((i:Int) ≥ 256);have a1:shrK .i64 (i:Int) 3=((i / 8:Nat):Int):=shr64i i 3 (by omega);have a2:andK .i64 (i:Int) 7=((i % 8:Nat):Int):=and64_7 i (by omega);have a3:IntKind.i64.wrap (7 - ((i % 8:Nat):Int))=((7 - i % 8:Nat):Int):=qZj (a:=7) (b:=i % 8) (by omega) (by omega);have n1:¬ ((3:Int)<0):=by omega
 have n2:¬ (((7 - i % 8:Nat):Int)<0):=by omega
 have y:(0:Int)≤((i / 8:Nat):Int)∧((i / 8:Nat):Int)<((32:Nat):Int):=by omega
 have r:rdO prog 5 (w0.alloc (.cells (bl k) 76)) w0.heap.size (i / 8)=some (.int .u8 ((k.getD (i / 8) 0).toNat:Int)):=rd1 agg5 k1 (bl_at (by omega));have hkb:=kb_div k i;have hx:(k.getD (i / 8) 0).toNat<256:=(k.getD (i / 8) 0).isLt;generalize (k.getD (i / 8) 0).toNat=x at *;have a4:shrK .u8 (x:Int) ((7 - i % 8:Nat):Int)=((x / 2 ^ (7 - i % 8):Nat):Int):=shr8i x _ (by omega);have hq:x / 2 ^ (7 - i % 8)≤x:=yX _ _;have a5:IntKind.i64.wrap ((x / 2 ^ (7 - i % 8):Nat):Int)=((x / 2 ^ (7 - i % 8):Nat):Int):=i64n;have a6:andK .i64 ((x / 2 ^ (7 - i % 8):Nat):Int) 1=kb k i:=by rw[← hkb];exact and64_1 _ (by omega)
 simp -implicitDefEqProofs only[go_sem,jY,gLa,gLz,gLs,bSe,Tryz.f194,Value.cells,z1,z2,a1,a2,a3,n1,n2,y,and_self,iTn,jU,r,a4,a5,a6];exact f1
def blen (z:Nat):Nat:=if z=0 then 0 else z.log2+1
theorem blen_le {z m:Nat}:blen z≤m ↔ z<2 ^ m:=by
 unfold blen;split
 ·rename_i h;subst h;simp[Nat.two_pow_pos]
 ·rename_i h;rw[← Nat.log2_lt h];omega
theorem blen_bit (h:z≠0):z.testBit (blen z - 1)=true:=by
 have h1:blen z=z.log2+1:=by unfold blen;rw[if_neg h]
 have h2:¬ z<2 ^ (blen z - 1):=fun k=>by have:=blen_le.2 k;omega
 have h3:z<2 ^ (blen z):=blen_le.1 (xT _);rw[h1]at h2 h3 ⊢;rw[Nat.add_sub_cancel]at h2 ⊢;rw[j9,decide_eq_true_eq]
 have h4:z / 2 ^ z.log2=1:=by
  apply Nat.div_eq_of_lt_le
  ·omega
  ·rw[Nat.pow_succ]at h3;omega
 rw[h4]
theorem common_at (hi:i<32)(h:∀ j, j<i→a.getD j 0=b.getD j 0)(hne:a.getD i 0≠b.getD i 0) :
  common a b=8*i+(8 - blen (a.getD i 0 ^^^ b.getD i 0).toNat)∧0<blen (a.getD i 0 ^^^ b.getD i 0).toNat∧blen (a.getD i 0 ^^^ b.getD i 0).toNat≤8:=by
 have hz:(a.getD i 0 ^^^ b.getD i 0).toNat≠0:=fun e=>hne (by
  have h0:a.getD i 0 ^^^ b.getD i 0=0#8:=j8 e
  exact BitVec.xor_eq_zero_iff.1 h0)
 have h8:blen (a.getD i 0 ^^^ b.getD i 0).toNat≤8:=blen_le.2 (a.getD i 0 ^^^ b.getD i 0).isLt;have h1:0<blen (a.getD i 0 ^^^ b.getD i 0).toNat:=by unfold blen;rw[if_neg hz];omega
 have hb:∀ m,(a.getD i 0 ^^^ b.getD i 0).toNat.testBit m=Bool.xor ((a.getD i 0).getLsbD m) ((b.getD i 0).getLsbD m):=fun m=>by
  show (a.getD i 0 ^^^ b.getD i 0).getLsbD m=_;rw[BitVec.getLsbD_xor]
 have ht:=blen_bit hz;have hlt:=blen_le.1 (xT (blen (a.getD i 0 ^^^ b.getD i 0).toNat));generalize hn:blen (a.getD i 0 ^^^ b.getD i 0).toNat=n at *;refine⟨common_is (fun j hj=>?_) (fun _=>?_) (by omega),h1,h8⟩
 ·by_cases h5:j<8*i
  ·unfold kbit;rw[h (j / 8) (by omega)]
  ·have e:j / 8=i:=by omega
   unfold kbit;rw[e];have:=hb (7 - j % 8);rw[Nat.testBit_lt_two_pow (Nat.lt_of_lt_of_le hlt (Nat.pow_le_pow_right (by decide) (by omega)))]at this
   revert this
   cases (a.getD i 0).getLsbD (7 - j % 8) <;> cases (b.getD i 0).getLsbD (7 - j % 8) <;> simp
 ·unfold kbit
  rw[show (8*i+(8 - n)) / 8=i by omega,show 7 - (8*i+(8 - n)) % 8=n - 1 by omega];have:=hb (n - 1);rw[ht]at this
  revert this
  cases (a.getD i 0).getLsbD (n - 1) <;> cases (b.getD i 0).getLsbD (n - 1) <;> simp
def lenS:ByteArray:=⟨((([0,1,2,2,3,3,3,3,4,4,4,4,4,4,4,4,5,5,5,5,5,5,5,5,5,5,5,5,5,5,5,5,6,6,6,6,6,6,6,6,6,6,6,6,6,6,6,6,6,6,6,6,6,6,6,6,6,6,6,6,6,6,6,6]:List UInt8).append [7,7,7,7,7,7,7,7,7,7,7,7,7,7,7,7,7,7,7,7,7,7,7,7,7,7,7,7,7,7,7,7,7,7,7,7,7,7,7,7,7,7,7,7,7,7,7,7,7,7,7,7,7,7,7,7,7,7,7,7,7,7,7,7]).append (([8,8,8,8,8,8,8,8,8,8,8,8,8,8,8,8,8,8,8,8,8,8,8,8,8,8,8,8,8,8,8,8,8,8,8,8,8,8,8,8,8,8,8,8,8,8,8,8,8,8,8,8,8,8,8,8,8,8,8,8,8,8,8,8]:List UInt8).append [8,8,8,8,8,8,8,8,8,8,8,8,8,8,8,8,8,8,8,8,8,8,8,8,8,8,8,8,8,8,8,8,8,8,8,8,8,8,8,8,8,8,8,8,8,8,8,8,8,8,8,8,8,8,8,8,8,8,8,8,8,8,8,8])).toArray⟩
theorem lenS_at:∀ n:Fin 256,lenS[n.val]?=some (UInt8.ofNat (blen n.val)):=by decide +kernel
theorem len8 (w0:World)(x:Byte):Fn prog 196 #[u8 x] w0 fun v w'=>v=.int .i64 (blen x.toNat:Nat)∧w'=w0:=by
 refine go196 (by simp) ?_;simp -implicitDefEqProofs only[go_sem,jY,Tryz.f196];have h8:blen x.toNat≤8:=blen_le.2 x.isLt;refine qQp (v:=.int .u8 (blen x.toNat:Nat)) (w':=w0) ?_ ?_
 ·show val0 (if 0≤(x.toNat:Int) then Option.map _ (lenS[(x.toNat:Int).toNat]?) else none) w0=_
  rw[if_pos (by omega),iTn,lenS_at ⟨x.toNat,x.isLt⟩];simp only[qK,val0,UInt8.toNat_ofNat'];rw[yQ (by omega)]
 ·have c:IntKind.i64.wrap ((blen x.toNat:Nat):Int)=((blen x.toNat:Nat):Int):=i64n
  simp -implicitDefEqProofs only[go_sem,c,and_self]
theorem lz8 (w0:World)(x:Byte):Fn prog 192 #[u8 x] w0 fun v w'=>v=.int .i64 (8 - blen x.toNat:Nat)∧w'=w0:=by
 refine go192 (by simp) ?_;simp -implicitDefEqProofs only[go_sem,jY,Tryz.f192];have h8:blen x.toNat≤8:=blen_le.2 x.isLt;refine qQa pl196 ((len8 w0 x).mono ?_);rintro _ w' ⟨rfl,rfl⟩;have c:IntKind.i64.wrap (8 - ((blen x.toNat:Nat):Int))=((8 - blen x.toNat:Nat):Int):=qZj (a:=8) (by omega) (by omega);simp -implicitDefEqProofs only[go_sem,c,and_self]
theorem eqKey (ha:a.length=32)(hb:b.length=32):eqV prog Op.maxDepth 76 (dg a) (dg b)=some (a == b):=eqm_dg arr76 int5 sz5 agg5 ha hb
theorem eqDig (ha:a.length=32)(hb:b.length=32):eqV prog Op.maxDepth 75 (dg a) (dg b)=some (a == b):=eqm_dg arr75 int5 sz5 agg5 ha hb
def cmI (w0:World)(a b:Bs)(n:Nat)(vs:List Value)(w:World):Prop :=
 ∃ (i:Nat) (x y:Value),vs=[pt w0.heap.size 0,pt (w0.heap.size+1) 0,x,y,.int .i64 (i:Nat)]∧i≤32∧n=32 - i∧(∀ j,j<i→a.getD j 0=b.getD j 0)∧w.heap[w0.heap.size]?=some (.cells (bl a) 76 (0,0)) ∧
  w.heap[w0.heap.size+1]?=some (.cells (bl b) 76 (0,0))∧No w0 w
theorem commonP (w0:World)(ha:a.length=32)(hb:b.length=32):Fn prog 184 #[dg a,dg b] w0 fun v w'=>v=.int .i64 (common a b:Nat)∧No w0 w':=by
 refine go184 (by simp) ?_;have f1:No w0 ((w0.alloc (.cells (bl a) 76)).alloc (.cells (bl b) 76)):=((Fr.refl _ _).alloc _).alloc _;have k1:((w0.alloc (.cells (bl a) 76)).alloc (.cells (bl b) 76)).heap[w0.heap.size]?=some (.cells (bl a) 76 (0,0)):=qQq (qQb _ _)
 have j1:((w0.alloc (.cells (bl a) 76)).alloc (.cells (bl b) 76)).heap[w0.heap.size+1]?=some (.cells (bl b) 76 (0,0)):=by
  have:=qQb (w0.alloc (.cells (bl a) 76)) (.cells (bl b) 76);rw[qQc]at this;exact this
 simp -implicitDefEqProofs only[go_sem,jY,Tryz.f184,Value.cells];generalize (w0.alloc (.cells (bl a) 76)).alloc (.cells (bl b) 76)=W at *;have r1:=rd_d agg76 sz76 k1 ha;have r2:=rd_d agg76 sz76 j1 hb;simp -implicitDefEqProofs only[go_sem,jY,r1,r2];rw[eqKey ha hb]
 by_cases he:a=b
 ·subst he
  have e0:(a == a)=true:=bSe a;rw[(common_full ha ha).2 rfl];simp -implicitDefEqProofs only[go_sem,e0,qK];exact⟨rfl,f1⟩
 ·have e0:(a == b)=false:=by simpa using he
  simp -implicitDefEqProofs only[go_sem,e0,qK];refine loopD [2,3,5,6,10] (cmI w0 a b) 32 ⟨0,_,_,rfl,by omega,rfl,fun j h=>absurd h (by omega),k1,j1,f1⟩ ?_;rintro _ vs w2 g ⟨i,x,y,rfl,hi,rfl,hs,k2,j2,f2⟩
  by_cases hlt:i<32
  ·have d1:=dTo ((i:Int)<32)
   have c1:=iSu (i:=i);have y1:=iBd (i:=i) (n:=32);have q1:rdO prog 5 w2 w0.heap.size i=some (.int .u8 ((a.getD i 0).toNat:Int)):=rd1 agg5 k2 (bl_at (by omega));have q2:rdO prog 5 w2 (w0.heap.size+1) i=some (.int .u8 ((b.getD i 0).toNat:Int)):=rd1 agg5 j2 (bl_at (by omega))
   by_cases hne:a.getD i 0=b.getD i 0
   ·have hz:(((a.getD i 0 ^^^ b.getD i 0).toNat:Int) != 0)=false:=by rw[hne,BitVec.xor_self];rfl
    have hx:=xor8 (a.getD i 0) (b.getD i 0)
    have hs':∀ j,j<i+1→a.getD j 0=b.getD j 0:=fun j hj=>by
     rcases Nat.lt_succ_iff_lt_or_eq.1 hj with h | rfl
     ·exact hs j h
     ·exact hne
    generalize a.getD i 0=p at *;generalize b.getD i 0=q at *;simp -implicitDefEqProofs only[go_sem,jY,d1,c1,y1,and_self,iTn,jU,q1,q2,hx,hz];exact⟨32 - (i+1),by omega,i+1,_,_,rfl,by omega,rfl,hs',k2,j2,f2.drew⟩
   ·obtain⟨hc,h0,h8⟩:=common_at hlt hs hne
    have hz:(((a.getD i 0 ^^^ b.getD i 0).toNat:Int) != 0)=true:=by
     rw[bne_iff_ne];intro e;have:(a.getD i 0 ^^^ b.getD i 0).toNat=0:=by omega
     exact hne (BitVec.xor_eq_zero_iff.1 (j8 this))
    have hx:=xor8 (a.getD i 0) (b.getD i 0);rw[hc];generalize a.getD i 0=p at *;generalize b.getD i 0=q at *;have c2:IntKind.i64.wrap (8*(i:Int))=((8*i:Nat):Int):=i64mul (a:=8) (by omega);have c3:IntKind.i64.wrap (((8*i:Nat):Int)+((8 - blen (p ^^^ q).toNat:Nat):Int))=((8*i+(8 - blen (p ^^^ q).toNat):Nat):Int):=qXi;simp -implicitDefEqProofs only[go_sem,jY,d1,y1,and_self,iTn,jU,q1,q2,hx,hz,c2];refine qQa pl192 ((lz8 w2.drew (p ^^^ q)).mono ?_);rintro _ w3 ⟨rfl,rfl⟩;simp -implicitDefEqProofs only[go_sem,jY,c3];exact f2.drew
  ·have e:i=32:=by omega
   subst e;refine absurd (List.ext_getElem (by omega) fun j h1 h2=>?_) he;have:=hs j (by omega)
   rwa [qQw 0 h1,qQw 0 h2]at this
end Go.V
