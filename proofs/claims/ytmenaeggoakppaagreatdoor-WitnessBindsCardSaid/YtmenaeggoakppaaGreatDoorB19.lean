/-
 Helpers: CommonW.
-/
import Derived.Test.YtmenaeggoakppaaGreatDoorB18
set_option linter.all false
section
namespace Go.V
open Go.Proofs Sha
set_option maxRecDepth 100000
/-- how many bits a number has -/
def blen (z:Nat):Nat:=if z=0 then 0 else z.log2+1
theorem blen_le {z m:Nat}:blen z≤m ↔ z<2 ^ m:=by
 unfold blen
 split
 ·rename_i h;subst h;simp[Nat.two_pow_pos]
 ·rename_i h;rw[← Nat.log2_lt h];omega
theorem blen_bit {z:Nat} (h:z≠0):z.testBit (blen z - 1)=true:=by
 have h1:blen z=z.log2+1:=by unfold blen;rw[if_neg h]
 have h2:¬ z<2 ^ (blen z - 1):=fun k=>by have:=blen_le.2 k;omega
 have h3:z<2 ^ (blen z):=blen_le.1 (Nat.le_refl _)
 rw[h1] at h2 h3 ⊢
 rw[Nat.add_sub_cancel] at h2 ⊢
 rw[Nat.testBit_eq_decide_div_mod_eq,decide_eq_true_eq]
 have h4:z / 2 ^ z.log2=1:=by
  apply Nat.div_eq_of_lt_le
  ·omega
  ·rw[Nat.pow_succ] at h3;omega
 rw[h4]
theorem common_at {a b : Bs} {i : Nat} (hi : i < 32) (h : ∀ j, j < i → a.getD j 0 = b.getD j 0) (hne : a.getD i 0 ≠ b.getD i 0) :
    common a b = 8 * i + (8 - blen (a.getD i 0 ^^^ b.getD i 0).toNat) ∧ 0 < blen (a.getD i 0 ^^^ b.getD i 0).toNat ∧ blen (a.getD i 0 ^^^ b.getD i 0).toNat ≤ 8 := by
 have hz:(a.getD i 0 ^^^ b.getD i 0).toNat≠0:=fun e=>hne (by
  have h0:a.getD i 0 ^^^ b.getD i 0=0#8:=BitVec.eq_of_toNat_eq e
  exact BitVec.xor_eq_zero_iff.1 h0)
 have h8:blen (a.getD i 0 ^^^ b.getD i 0).toNat≤8:=blen_le.2 (a.getD i 0 ^^^ b.getD i 0).isLt
 have h1:0<blen (a.getD i 0 ^^^ b.getD i 0).toNat:=by unfold blen;rw[if_neg hz];omega
 have hb:∀ m,(a.getD i 0 ^^^ b.getD i 0).toNat.testBit m=Bool.xor ((a.getD i 0).getLsbD m) ((b.getD i 0).getLsbD m):=fun m=>by
  show (a.getD i 0 ^^^ b.getD i 0).getLsbD m=_
  rw[BitVec.getLsbD_xor]
 have ht:=blen_bit hz
 have hlt:=blen_le.1 (Nat.le_refl (blen (a.getD i 0 ^^^ b.getD i 0).toNat))
 generalize hn:blen (a.getD i 0 ^^^ b.getD i 0).toNat=n at *
 refine⟨common_is (fun j hj=>?_) (fun _=>?_) (by omega),h1,h8⟩
 ·by_cases h5:j<8*i
  ·unfold kbit;rw[h (j / 8) (by omega)]
  ·have e:j / 8=i:=by omega
   unfold kbit
   rw[e]
   have:=hb (7 - j % 8)
   rw[Nat.testBit_lt_two_pow (Nat.lt_of_lt_of_le hlt (Nat.pow_le_pow_right (by decide) (by omega)))] at this
   revert this
   cases (a.getD i 0).getLsbD (7 - j % 8) <;> cases (b.getD i 0).getLsbD (7 - j % 8) <;> simp
 ·unfold kbit
  rw[show (8*i+(8 - n)) / 8=i by omega,show 7 - (8*i+(8 - n)) % 8=n - 1 by omega]
  have:=hb (n - 1)
  rw[ht] at this
  revert this
  cases (a.getD i 0).getLsbD (n - 1) <;> cases (b.getD i 0).getLsbD (n - 1) <;> simp
def lenS:ByteArray:=⟨((([0,1,2,2,3,3,3,3,4,4,4,4,4,4,4,4,5,5,5,5,5,5,5,5,5,5,5,5,5,5,5,5,6,6,6,6,6,6,6,6,6,6,6,6,6,6,6,6,6,6,6,6,6,6,6,6,6,6,6,6,6,6,6,6]:List UInt8).append [7,7,7,7,7,7,7,7,7,7,7,7,7,7,7,7,7,7,7,7,7,7,7,7,7,7,7,7,7,7,7,7,7,7,7,7,7,7,7,7,7,7,7,7,7,7,7,7,7,7,7,7,7,7,7,7,7,7,7,7,7,7,7,7]).append (([8,8,8,8,8,8,8,8,8,8,8,8,8,8,8,8,8,8,8,8,8,8,8,8,8,8,8,8,8,8,8,8,8,8,8,8,8,8,8,8,8,8,8,8,8,8,8,8,8,8,8,8,8,8,8,8,8,8,8,8,8,8,8,8]:List UInt8).append [8,8,8,8,8,8,8,8,8,8,8,8,8,8,8,8,8,8,8,8,8,8,8,8,8,8,8,8,8,8,8,8,8,8,8,8,8,8,8,8,8,8,8,8,8,8,8,8,8,8,8,8,8,8,8,8,8,8,8,8,8,8,8,8])).toArray⟩
theorem lenS_at:∀ n:Fin 256,lenS[n.val]?=some (UInt8.ofNat (blen n.val)):=by decide +kernel
theorem len8 (w0:World) (x:Byte):Fn Tryz.prog 219 #[u8 x] w0 fun v w'=>v=.int .i64 (blen x.toNat:Nat)∧w'=w0:=by
 refine Tryz.go219 (by simp) ?_
 simp -implicitDefEqProofs only[go_sem,Nat.reduceEqDiff,Tryz.f219]
 have h8:blen x.toNat≤8:=blen_le.2 x.isLt
 refine contL_is (v:=.int .u8 (blen x.toNat:Nat)) (w':=w0) ?_ ?_
 ·show val0 (if 0≤(x.toNat:Int) then Option.map _ (lenS[(x.toNat:Int).toNat]?) else none) w0=_
  rw[if_pos (by omega),Int.toNat_natCast,lenS_at ⟨x.toNat,x.isLt⟩]
  simp only[Option.map_some,val0,UInt8.toNat_ofNat']
  rw[Nat.mod_eq_of_lt (by omega)]
 ·have c:IntKind.i64.wrap ((blen x.toNat:Nat):Int)=((blen x.toNat:Nat):Int):=i64n (by omega)
  simp -implicitDefEqProofs only[go_sem,Nat.reduceEqDiff,c,and_self]
theorem lz8 (w0:World) (x:Byte):Fn Tryz.prog 203 #[u8 x] w0 fun v w'=>v=.int .i64 (8 - blen x.toNat:Nat)∧w'=w0:=by
 refine Tryz.go203 (by simp) ?_
 simp -implicitDefEqProofs only[go_sem,Nat.reduceEqDiff,Tryz.f203]
 have h8:blen x.toNat≤8:=blen_le.2 x.isLt
 refine contL_call Tryz.pl219 ((len8 w0 x).mono ?_);rintro _ w' ⟨rfl,rfl⟩
 have c:IntKind.i64.wrap (8 - ((blen x.toNat:Nat):Int))=((8 - blen x.toNat:Nat):Int):=i64sub (a:=8) (by omega) (by omega)
 simp -implicitDefEqProofs only[go_sem,Nat.reduceEqDiff,c,and_self]
theorem eqKey {a b:Bs} (ha:a.length=32) (hb:b.length=32):eqV Tryz.prog Op.maxDepth 34 (dg a) (dg b)=some (a == b):=eqm_dg Tryz.arr34 Tryz.int5 Tryz.sz5 Tryz.agg5 ha hb
theorem eqDig {a b:Bs} (ha:a.length=32) (hb:b.length=32):eqV Tryz.prog Op.maxDepth 23 (dg a) (dg b)=some (a == b):=eqm_dg Tryz.arr23 Tryz.int5 Tryz.sz5 Tryz.agg5 ha hb
def cmI (w0:World) (a b:Bs) (n:Nat) (vs:List Value) (w:World):Prop :=
 ∃ (i:Nat) (x y:Value),vs=[pt w0.heap.size 0,pt (w0.heap.size+1) 0,x,y,.int .i64 (i:Nat)]∧i≤32∧n=32 - i∧(∀ j,j<i→a.getD j 0=b.getD j 0)∧w.heap[w0.heap.size]?=some (.cells (bl a) 34 (0,0)) ∧
  w.heap[w0.heap.size+1]?=some (.cells (bl b) 34 (0,0))∧No w0 w
theorem commonP (w0:World) {a b:Bs} (ha:a.length=32) (hb:b.length=32):Fn Tryz.prog 160 #[dg a,dg b] w0 fun v w'=>v=.int .i64 (common a b:Nat)∧No w0 w':=by
 refine Tryz.go160 (by simp) ?_
 have f1:No w0 ((w0.alloc (.cells (bl a) 34)).alloc (.cells (bl b) 34)):=((Fr.refl _ _).alloc _).alloc _
 have k1:((w0.alloc (.cells (bl a) 34)).alloc (.cells (bl b) 34)).heap[w0.heap.size]?=some (.cells (bl a) 34 (0,0)):=alloc_at (alloc_blk_new _ _)
 have j1:((w0.alloc (.cells (bl a) 34)).alloc (.cells (bl b) 34)).heap[w0.heap.size+1]?=some (.cells (bl b) 34 (0,0)):=by
  have:=alloc_blk_new (w0.alloc (.cells (bl a) 34)) (.cells (bl b) 34)
  rw[alloc_heap_size] at this;exact this
 simp -implicitDefEqProofs only[go_sem,Nat.reduceEqDiff,Tryz.f160,Value.cells]
 generalize (w0.alloc (.cells (bl a) 34)).alloc (.cells (bl b) 34)=W at *
 have r1:=rd_d Tryz.agg34 Tryz.sz34 k1 ha
 have r2:=rd_d Tryz.agg34 Tryz.sz34 j1 hb
 simp -implicitDefEqProofs only[go_sem,Nat.reduceEqDiff,r1,r2]
 rw[eqKey ha hb]
 by_cases he:a=b
 ·subst he
  have e0:(a == a)=true:=beq_self_eq_true a
  rw[(common_full ha ha).2 rfl]
  simp -implicitDefEqProofs only[go_sem,Nat.reduceEqDiff,e0,Option.map_some]
  exact⟨rfl,f1⟩
 ·have e0:(a == b)=false:=by simpa using he
  simp -implicitDefEqProofs only[go_sem,Nat.reduceEqDiff,e0,Option.map_some]
  refine loopD [2,3,5,6,10] (cmI w0 a b) 32 ⟨0,_,_,rfl,by omega,rfl,fun j h=>absurd h (by omega),k1,j1,f1⟩ ?_
  rintro _ vs w2 g ⟨i,x,y,rfl,hi,rfl,hs,k2,j2,f2⟩
  by_cases hlt:i<32
  ·have d1:decide ((i:Int)<32)=true:=by simp;omega
   have c1:IntKind.i64.wrap ((i:Int)+1)=((i+1:Nat):Int):=i64add (b:=1) (by omega)
   have y1:(0:Int)≤(i:Int)∧(i:Int)<((32:Nat):Int):=by omega
   have q1:rdO Tryz.prog 5 w2 w0.heap.size i=some (.int .u8 ((a.getD i 0).toNat:Int)):=rd1 Tryz.agg5 k2 (bl_at (by omega))
   have q2:rdO Tryz.prog 5 w2 (w0.heap.size+1) i=some (.int .u8 ((b.getD i 0).toNat:Int)):=rd1 Tryz.agg5 j2 (bl_at (by omega))
   by_cases hne:a.getD i 0=b.getD i 0
   ·have hz:(((a.getD i 0 ^^^ b.getD i 0).toNat:Int) != 0)=false:=by rw[hne,BitVec.xor_self];rfl
    have hx:=xor8 (a.getD i 0) (b.getD i 0)
    have hs':∀ j,j<i+1→a.getD j 0=b.getD j 0:=fun j hj=>by
     rcases Nat.lt_succ_iff_lt_or_eq.1 hj with h | rfl
     ·exact hs j h
     ·exact hne
    generalize a.getD i 0=p at *
    generalize b.getD i 0=q at *
    simp -implicitDefEqProofs only[go_sem,Nat.reduceEqDiff,d1,c1,y1,and_self,Int.toNat_natCast,Nat.mul_one,q1,q2,hx,hz]
    exact⟨32 - (i+1),by omega,i+1,_,_,rfl,by omega,rfl,hs',k2,j2,f2.drew⟩
   ·obtain⟨hc,h0,h8⟩:=common_at hlt hs hne
    have hz:(((a.getD i 0 ^^^ b.getD i 0).toNat:Int) != 0)=true:=by
     rw[bne_iff_ne]
     intro e
     have:(a.getD i 0 ^^^ b.getD i 0).toNat=0:=by omega
     exact hne (BitVec.xor_eq_zero_iff.1 (BitVec.eq_of_toNat_eq this))
    have hx:=xor8 (a.getD i 0) (b.getD i 0)
    rw[hc]
    generalize a.getD i 0=p at *
    generalize b.getD i 0=q at *
    have c2:IntKind.i64.wrap (8*(i:Int))=((8*i:Nat):Int):=i64mul (a:=8) (by omega)
    have c3:IntKind.i64.wrap (((8*i:Nat):Int)+((8 - blen (p ^^^ q).toNat:Nat):Int))=((8*i+(8 - blen (p ^^^ q).toNat):Nat):Int):=i64add (by omega)
    simp -implicitDefEqProofs only[go_sem,Nat.reduceEqDiff,d1,y1,and_self,Int.toNat_natCast,Nat.mul_one,q1,q2,hx,hz,c2]
    refine contL_call Tryz.pl203 ((lz8 w2.drew (p ^^^ q)).mono ?_);rintro _ w3 ⟨rfl,rfl⟩
    simp -implicitDefEqProofs only[go_sem,Nat.reduceEqDiff,c3]
    exact f2.drew
  ·have e:i=32:=by omega
   subst e
   refine absurd (List.ext_getElem (by omega) fun j h1 h2=>?_) he
   have:=hs j (by omega)
   rwa [getD_lt 0 h1,getD_lt 0 h2] at this
end Go.V
end
