/-
 Helpers: CmpW, CommonR, EmpW, WitS.
-/
import Derived.Lib.BytesEntry
import Derived.Laws.Externs
import Derived.Lib.Walk
import Derived.Test.YtmenaeggoakppaaGreatDoorB19
import Derived.Test.YtmenaeggoakppaaGreatDoorB11
set_option linter.all false
section
namespace Go.V
open Go.Proofs Sha
set_option maxRecDepth 100000
instance (a b:Bs):Decidable (klt a b):=by unfold klt;infer_instance
def kcmp (a b:Bs):Int:=if a=b then 0 else if klt a b then -1 else 1
theorem lt_tb {x y i:Nat} (hx:x.testBit i=false) (hy:y.testBit i=true) (hs:∀ j,i<j→x.testBit j=y.testBit j):x<y:=by
 have e:x / 2 ^ (i+1)=y / 2 ^ (i+1):=Nat.eq_of_testBit_eq fun j=>by
  rw[Nat.testBit_div_two_pow,Nat.testBit_div_two_pow];exact hs _ (by omega)
 rw[Nat.pow_succ,← Nat.div_div_eq_div_mul,← Nat.div_div_eq_div_mul] at e
 rw[Nat.testBit_eq_decide_div_mod_eq] at hx hy
 have hx':=of_decide_eq_false hx
 have hy':=of_decide_eq_true hy
 rcases Nat.lt_or_ge x y with h | h
 ·exact h
 ·have:=Nat.div_le_div_right (c:=2 ^ i) h
  omega
theorem klt_at {a b:Bs} {i:Nat} (hi:i<32) (h:∀ j,j<i→a.getD j 0=b.getD j 0) (hne:a.getD i 0≠b.getD i 0):klt a b ↔ (a.getD i 0).toNat<(b.getD i 0).toNat:=by
 obtain⟨hc,h0,h8⟩:=common_at hi h hne
 have hlt:=blen_le.1 (Nat.le_refl (blen (a.getD i 0 ^^^ b.getD i 0).toNat))
 have hz:(a.getD i 0 ^^^ b.getD i 0).toNat≠0:=fun e=>by rw[e] at h0;simp[blen] at h0
 have ht:=blen_bit hz
 have hb:∀ m,(a.getD i 0 ^^^ b.getD i 0).toNat.testBit m=Bool.xor ((a.getD i 0).toNat.testBit m) ((b.getD i 0).toNat.testBit m):=fun m=>by
  show (a.getD i 0 ^^^ b.getD i 0).getLsbD m=_
  rw[BitVec.getLsbD_xor];rfl
 generalize blen (a.getD i 0 ^^^ b.getD i 0).toNat=n at *
 have hk:∀ x:Bs,kbit x (8*i+(8 - n))=(x.getD i 0).toNat.testBit (n - 1):=fun x=>by
  unfold kbit
  rw[show (8*i+(8 - n)) / 8=i by omega,show 7 - (8*i+(8 - n)) % 8=n - 1 by omega];rfl
 unfold klt
 rw[hc,hk,hk]
 generalize (a.getD i 0).toNat=x at *
 generalize (b.getD i 0).toNat=y at *
 generalize (a.getD i 0 ^^^ b.getD i 0).toNat=z at *
 have hs:∀ j,n - 1<j→x.testBit j=y.testBit j:=fun j hj=>by
  have h1:=hb j
  rw[Nat.testBit_lt_two_pow (Nat.lt_of_lt_of_le hlt (Nat.pow_le_pow_right (by decide) (by omega)))] at h1
  revert h1
  cases x.testBit j <;> cases y.testBit j <;> simp
 have h2:=hb (n - 1)
 rw[ht] at h2
 constructor
 ·rintro⟨_,h3,h4⟩
  exact lt_tb h3 h4 hs
 ·intro hxy
  refine⟨by omega,?_⟩
  cases h3:x.testBit (n - 1) <;> cases h4:y.testBit (n - 1)
  ·rw[h3,h4] at h2;cases h2
  ·exact⟨rfl,rfl⟩
  ·have:=lt_tb h4 h3 fun j hj=>(hs j hj).symm
   omega
  ·rw[h3,h4] at h2;cases h2
theorem kcmp_at {a b : Bs} {i : Nat} (ha : a.length = 32) (hb : b.length = 32) (hi : i < 32) (h : ∀ j, j < i → a.getD j 0 = b.getD j 0) (hne : a.getD i 0 ≠ b.getD i 0) :
    kcmp a b = if (a.getD i 0).toNat < (b.getD i 0).toNat then -1 else 1 := by
 unfold kcmp
 rw[if_neg (fun e=>hne (by rw[e]))]
 by_cases h2:(a.getD i 0).toNat<(b.getD i 0).toNat
 ·rw[if_pos h2,if_pos ((klt_at hi h hne).2 h2)]
 ·rw[if_neg h2,if_neg fun k=>h2 ((klt_at hi h hne).1 k)]
def b8 (x:Byte):UInt8:=x.toNat.toUInt8
theorem b8_nat (x:Byte):(b8 x).toNat=x.toNat:=by
 show (UInt8.ofNat x.toNat).toNat=_
 rw[UInt8.toNat_ofNat'];have:=x.isLt;omega
theorem cmpB_spec : ∀ (a b : Bs), a.length = b.length → (a = b ∧ Lib.compareBytes (a.map b8) (b.map b8) = 0) ∨ ∃ i, i < a.length ∧ (∀ j, j < i → a.getD j 0 = b.getD j 0) ∧ a.getD i 0 ≠ b.getD i 0 ∧
    Lib.compareBytes (a.map b8) (b.map b8) = if (a.getD i 0).toNat < (b.getD i 0).toNat then -1 else 1
 | [],[],_=>.inl ⟨rfl,rfl⟩
 | x::a,y::b,h=>by
  simp only[List.map_cons,Lib.compareBytes]
  by_cases hxy:x=y
  ·subst hxy
   rw[if_neg (by rw[UInt8.lt_iff_toNat_lt];omega),if_neg (by rw[UInt8.lt_iff_toNat_lt];omega)]
   rcases cmpB_spec a b (by simpa using h) with ⟨rfl,h1⟩ | ⟨i,h1,h2,h3,h4⟩
   ·exact .inl ⟨rfl,h1⟩
   ·refine .inr ⟨i+1,by simpa using h1,fun j hj=>?_,h3,h4⟩
    cases j with
    | zero=>rfl
    | succ j=>exact h2 j (by omega)
  ·have hne:x.toNat≠y.toNat:=fun e=>hxy (BitVec.eq_of_toNat_eq e)
   refine .inr ⟨0,by simp,fun j hj=>absurd hj (by omega),hxy,?_⟩
   show (if b8 x<b8 y then (-1:Int) else if b8 y<b8 x then 1 else _)=if x.toNat<y.toNat then -1 else 1
   by_cases h1:x.toNat<y.toNat
   ·rw[if_pos h1,if_pos (by rw[UInt8.lt_iff_toNat_lt,b8_nat,b8_nat];exact h1)]
   ·rw[if_neg h1,if_neg (by rw[UInt8.lt_iff_toNat_lt,b8_nat,b8_nat];exact h1),if_pos (by rw[UInt8.lt_iff_toNat_lt,b8_nat,b8_nat];omega)]
theorem cmpB_kcmp {a b:Bs} (ha:a.length=32) (hb:b.length=32):Lib.compareBytes (a.map b8) (b.map b8)=kcmp a b:=by
 rcases cmpB_spec a b (by omega) with ⟨rfl,h1⟩ | ⟨i,h1,h2,h3,h4⟩
 ·rw[h1];simp[kcmp]
 ·rw[h4,kcmp_at ha hb (by omega) h2 h3]
theorem run_bytesOf {P:Program} {w:World} {v:Value} {bs:Bs} (h:By w v bs):(Extern.Bytes.bytesOf v).run P w=.ok ⟨(bs.map b8).toArray⟩ w:=by
 obtain⟨a,cap,rfl,hcap,hat⟩:=h.at
 cases a with
 | none =>
  have:bs=[]:=List.length_eq_zero_iff.1 (by
   rcases Nat.eq_zero_or_pos bs.length with h | h
   ·exact h
   ·obtain⟨b,o,h1,_⟩:=hat 0 h;cases h1)
  subst this
  rfl
 | some ad =>
  have hl:=Lib.run_loadBytesX (P:=P) w (bs.map fun x=>(x.toNat:Int)) ad .empty (fun j x hj=>by
   rw[List.getElem?_map] at hj
   obtain⟨y,hy,rfl⟩:=Option.map_eq_some_iff.1 hj
   obtain⟨hjl,rfl⟩:=List.getElem?_eq_some_iff.1 hy
   obtain⟨b,o,e,hc⟩:=hat j hjl
   cases e
   obtain⟨c,e,fz,h1,h2⟩:=rc_row hc
   have ea:(⟨b,o,none⟩:Addr).add j=⟨b,o+j,none⟩:=by unfold Addr.add;split <;> simp_all
   rw[ea]
   simp only[World.cell?,h1];exact h2)
  rw[List.length_map] at hl
  have e1:Lib.bytesOf (bs.map fun x=>(x.toNat:Int))=bs.map b8:=by simp[Lib.bytesOf,b8]
  rw[e1] at hl
  show (Extern.Bytes.loadBytes ad bs.length .empty).run P w=_
  rw[hl]
  congr 1
  apply ByteArray.ext
  simp
theorem run_cmpB {P:Program} {w:World} {v u:Value} {a b:Bs} (ha:By w v a) (hb:By w u b):(Extern.BytealgCompare.compare #[v,u]).run P w=.ok (.int .i64 (Lib.compareBytes (a.map b8) (b.map b8))) w:=by
 change Sem.run P (do pure (goInt (Extern.BytealgCompare.cmp (← Extern.Bytes.bytesOf v) (← Extern.Bytes.bytesOf u)))) w=_
 simp only[Sem.run_bind,run_bytesOf ha,run_bytesOf hb,Sem.run_pure,Result.andThen]
 rw[Lib.cmp_eq]
 rfl
theorem bcompare (w0 : World) {v u : Value} {a b : Bs} (ha : By w0 v a) (hb : By w0 u b) :
    Fn Tryz.prog 148 #[v,u] w0 fun r w' => r = .int .i64 (Lib.compareBytes (a.map b8) (b.map b8)) ∧ w' = w0 := by
 show Calls _ _ _ _ _
 go_enter Tryz.func148,Tryz.ntmps148
 go_wp2
 rw[run_callFunc_extern Tryz.func199 (by kernel_rfl) (by kernel_rfl) (by kernel_rfl) (e:=Extern.BytealgCompare.compare) (by kernel_rfl),run_cmpB ha hb]
 simp only[Result.andThen]
 rw[Oper.upon_value]
 go_wp2
 go_ret
 exact⟨rfl,rfl⟩
namespace R
def riI (w0:World) (a b:Bs) (n:Nat) (vs:List Value) (w:World):Prop :=
 ∃ (i:Nat) (x y:Value),vs=[pt w0.heap.size 0,pt (w0.heap.size+1) 0,.int .i64 (i:Nat),x,y]∧i≤256∧n=256 - i∧(∀ j,j<i→kbit a j=kbit b j)∧w.heap[w0.heap.size]?=some (.cells (bl a) 34 (0,0)) ∧
  w.heap[w0.heap.size+1]?=some (.cells (bl b) 34 (0,0))∧No w0 w
theorem kb_inj {a b:Bs} {i:Nat}:(kb a i != kb b i)=!(kbit a i == kbit b i):=by
 unfold kb
 cases kbit a i <;> cases kbit b i <;> rfl
theorem common3 (w0:World) {a b:Bs} (ha:a.length=32) (hb:b.length=32):Fn Tryz.prog 207 #[dg a,dg b] w0 fun v w'=>v=.int .i64 (common a b:Nat)∧No w0 w':=by
 refine Tryz.go207 (by simp) ?_
 have f1:No w0 ((w0.alloc (.cells (bl a) 34)).alloc (.cells (bl b) 34)):=((Fr.refl _ _).alloc _).alloc _
 have k1:((w0.alloc (.cells (bl a) 34)).alloc (.cells (bl b) 34)).heap[w0.heap.size]?=some (.cells (bl a) 34 (0,0)):=alloc_at (alloc_blk_new _ _)
 have j1:((w0.alloc (.cells (bl a) 34)).alloc (.cells (bl b) 34)).heap[w0.heap.size+1]?=some (.cells (bl b) 34 (0,0)):=by
  have:=alloc_blk_new (w0.alloc (.cells (bl a) 34)) (.cells (bl b) 34)
  rw[alloc_heap_size] at this;exact this
 simp -implicitDefEqProofs only[go_sem,Nat.reduceEqDiff,Tryz.f207,Value.cells]
 generalize (w0.alloc (.cells (bl a) 34)).alloc (.cells (bl b) 34)=W at *
 refine loopD [2,3,5,6,7] (riI w0 a b) 256 ⟨0,_,_,rfl,by omega,rfl,fun j h=>absurd h (by omega),k1,j1,f1⟩ ?_
 rintro _ vs w2 g ⟨i,x,y,rfl,hi,rfl,hs,k2,j2,f2⟩
 by_cases hlt:i<256
 ·have d1:decide ((i:Int)<256)=true:=by simp;omega
  have c1:IntKind.i64.wrap ((i:Int)+1)=((i+1:Nat):Int):=i64add (b:=1) (by omega)
  have r1:=rd_d Tryz.agg34 Tryz.sz34 k2 ha
  simp -implicitDefEqProofs only[go_sem,Nat.reduceEqDiff,d1,r1]
  refine contL_call Tryz.pl166 ((bit3 w2 ha hlt).mono ?_);rintro _ w3 ⟨rfl,f3⟩
  have r2:=rd_d Tryz.agg34 Tryz.sz34 (f3.at j2 id) hb
  simp -implicitDefEqProofs only[go_sem,Nat.reduceEqDiff,r2]
  refine contL_call Tryz.pl166 ((bit3 w3 hb hlt).mono ?_);rintro _ w4 ⟨rfl,f4⟩
  have hn:=kb_inj (a:=a) (b:=b) (i:=i)
  by_cases he:kbit a i=kbit b i
  ·have z:(!(kbit a i == kbit b i))=false:=by rw[he];simp
   rw[z] at hn
   have hs':∀ j,j<i+1→kbit a j=kbit b j:=fun j hj=>by
    rcases Nat.lt_succ_iff_lt_or_eq.1 hj with h | rfl
    ·exact hs j h
    ·exact he
   simp -implicitDefEqProofs only[go_sem,Nat.reduceEqDiff,hn,c1]
   exact⟨256 - (i+1),by omega,i+1,_,_,rfl,by omega,rfl,hs',f4.at (f3.at k2 id) id,f4.at (f3.at j2 id) id,(f2.trans f3).trans f4⟩
  ·have z:(!(kbit a i == kbit b i))=true:=by simpa using he
   rw[z] at hn
   rw[common_is hs (fun _=>he) (by omega)]
   simp -implicitDefEqProofs only[go_sem,Nat.reduceEqDiff,hn]
   exact (f2.trans f3).trans f4
 ·have d1:decide ((i:Int)<256)=false:=by simp;omega
  have e:i=256:=by omega
  subst e
  have h0:common a b=256:=common_is hs (fun h=>absurd h (by omega)) (by omega)
  rw[h0]
  simp -implicitDefEqProofs only[go_sem,Nat.reduceEqDiff,d1]
  exact⟨rfl,f2⟩
end R
end Go.V
end
section
namespace Go.V
open Go.Proofs Sha
set_option maxRecDepth 100000
namespace R
end R
end Go.V
end
section
namespace Go.V
open Go.Proofs Sha
set_option maxRecDepth 100000
def em0I (w0:World) (b5:Nat) (w1:World) (n:Nat) (vs:List Value) (w:World):Prop:=vs=[pt w0.heap.size 0,pt b5 0,.int .i64 0,.int .i64 0]∧w=w1
set_option maxHeartbeats 1000000 in
theorem empty0 (w0:World) (ht:Tabs w0) (width:Int):Fn Tryz.prog 108 #[.int .i64 width,.int .i64 0] w0 fun v w'=>v=dg (emptD width 0)∧No w0 w':=by
 refine Tryz.go108 (by simp) ?_
 have f1:No w0 (w0.alloc (.cells (bl (List.replicate 32 0)) 23)):=(Fr.refl _ _).alloc _
 have k1:(w0.alloc (.cells (bl (List.replicate 32 0)) 23)).heap[w0.heap.size]?=some (.cells (bl (List.replicate 32 0)) 23 (0,0)):=alloc_blk_new _ _
 have z1:(w0.alloc (.cells (bl (List.replicate 32 0)) 23)).heap.size=w0.heap.size+1:=alloc_heap_size _ _
 simp -implicitDefEqProofs only[go_sem,Nat.reduceEqDiff,Tryz.f108,Value.cells,bl_zero]
 generalize w0.alloc (.cells (bl (List.replicate 32 0)) 23)=W at *
 refine contL_is (v:=.slice (some ⟨W.heap.size,0,none⟩) 1 1) (w':=W.alloc (.cells (bl [2]) 5)) (by rw[← z1];rfl) ?_
 have f2:=f1.alloc (.cells (bl [2]) 5)
 have b1:NwB w0 (W.alloc (.cells (bl [2]) 5)) (.slice (some ⟨W.heap.size,0,none⟩) 1 1) [2]:=mk_nw w0 W 5 1 1 1 (bl [2]) f1.size rfl (Nat.le_refl _)
 have k2:=alloc_at (o:=.cells (bl [2]) 5) k1
 generalize W.alloc (.cells (bl [2]) 5)=w2 at *
 simp -implicitDefEqProofs only[go_sem,Nat.reduceEqDiff]
 refine contL_call Tryz.pl169 ((dsum w2 (ht.no f2) b1.by (by simp)).mono ?_);rintro _ w3 ⟨rfl,f3⟩
 simp -implicitDefEqProofs only[go_sem,Nat.reduceEqDiff]
 refine contL_call Tryz.pl113 ((dcut w3 width (sum_len [2])).mono ?_);rintro _ w4 ⟨rfl,f4⟩
 have he:cutD width (Sha.sum [2])=emptD width 0:=rfl
 rw[he]
 have hd0:=emptD_len width 0
 have k4:=f4.at (f3.at k2 id) id
 have f4':=(f2.trans f3).trans f4
 have q:=wr_d Tryz.sz23 (alloc_blk_new w4 (.cells (bl (List.replicate 32 0)) 23)) zl32 hd0
 have r:=rd_d Tryz.agg23 Tryz.sz23 (put_at (o:=.cells (bl (emptD width 0)) 23 (0,0)) (alloc_blk_new w4 (.cells (bl (List.replicate 32 0)) 23))) hd0
 have k5:(put (w4.alloc (.cells (bl (List.replicate 32 0)) 23)) w4.heap.size (.cells (bl (emptD width 0)) 23 (0,0))).heap[w0.heap.size]?=some (.cells (bl (List.replicate 32 0)) 23 (0,0)):=put_off (alloc_at k4) (by have:=heap_lt k4;omega)
 have f5:No w0 (put (w4.alloc (.cells (bl (List.replicate 32 0)) 23)) w4.heap.size (.cells (bl (emptD width 0)) 23 (0,0))):=(f4'.alloc _).put (b:=w4.heap.size) _ fun h=>by have:=f4'.size;omega
 simp -implicitDefEqProofs only[go_sem,Nat.reduceEqDiff,Value.cells,bl_zero,q]
 have q5:=r
 generalize put (w4.alloc (.cells (bl (List.replicate 32 0)) 23)) w4.heap.size (.cells (bl (emptD width 0)) 23 (0,0))=w5 at *
 refine contL_call Tryz.pl170 ((within w5 0 0 256).mono ?_);rintro _ _ ⟨rfl,rfl⟩
 rename_i w6
 have e0:max (0:Int) (min 0 256)=0:=by decide
 have d0:decide ((0:Int)<0)=false:=by decide
 have r5:=q5
 simp -implicitDefEqProofs only[go_sem,Nat.reduceEqDiff,e0]
 refine loopD [4,5,11,12] (em0I w0 w4.heap.size w6) 0 ⟨rfl,rfl⟩ ?_
 rintro _ vs w7 g ⟨rfl,rfl⟩
 have q7:=wr_d Tryz.sz23 k5 zl32 hd0
 have r7:=rd_d Tryz.agg23 Tryz.sz23 (put_at (o:=.cells (bl (emptD width 0)) 23 (0,0)) k5) hd0
 simp -implicitDefEqProofs only[go_sem,Nat.reduceEqDiff,d0,q5,q7,r7]
 exact f5.put (b:=w0.heap.size) _ fun h=>absurd h (Nat.lt_irrefl _)
def ewI (w0:World) (width:Int) (n:Nat) (vs:List Value) (w:World):Prop :=
 ∃ (i:Nat) (v x:Value),vs=[.int .i64 width,v,x,.int .i64 (i:Nat)]∧i≤256∧n=256 - i∧NwD w0 w 23 v (empts width (i+1))∧No w0 w
set_option maxHeartbeats 1000000 in
theorem empties (w0:World) (ht:Tabs w0) (width:Int):Fn Tryz.prog 64 #[.int .i64 width] w0 fun v w'=>NwD w0 w' 23 v (empts width 257)∧No w0 w':=by
 refine Tryz.go64 (by simp) ?_
 simp -implicitDefEqProofs only[go_sem,Nat.reduceEqDiff,Tryz.f64]
 refine contL_call Tryz.pl108 ((empty0 w0 ht width).mono ?_);rintro _ w3 ⟨rfl,f3⟩
 have hd0:=emptD_len width 0
 have hy:List.map u8 (List.replicate 32 0)=List.replicate 32 (u8 0):=List.map_replicate
 simp -implicitDefEqProofs only[go_sem,Nat.reduceEqDiff,Value.cells,bl_zero]
 refine contL_is (v:=.slice (some ⟨w3.heap.size,0,none⟩) 1 1) (w':=w3.alloc (.cells (bl (emptD width 0)) 23)) (fill_one (z:=List.replicate 32 (u8 0)) (y:=List.map u8 (List.replicate 32 0)) (c:=bl (List.replicate 32 0)) List.length_replicate (by rw[bl_size,List.length_replicate]) hd0 hy _) ?_
 have b4:NwD w0 (w3.alloc (.cells (bl (emptD width 0)) 23)) 23 (.slice (some ⟨w3.heap.size,0,none⟩) 1 1) (empts width (0+1)):=NwD.one hd0 f3.size
 have f4:=f3.alloc (.cells (bl (emptD width 0)) 23)
 generalize w3.alloc (.cells (bl (emptD width 0)) 23)=w4 at *
 simp -implicitDefEqProofs only[go_sem,Nat.reduceEqDiff]
 refine loopD [0,3,4,8] (ewI w0 width) 256 ⟨0,.slice (some ⟨w3.heap.size,0,none⟩) 1 1,_,rfl,by omega,rfl,b4,f4⟩ ?_
 rintro _ vs w5 g ⟨i,v,x,rfl,hi,rfl,b5,f5⟩
 by_cases hlt:i<256
 ·have d1:decide ((i:Int)<256)=true:=by simp;omega
  have c1:IntKind.i64.wrap ((i:Int)+1)=((i+1:Nat):Int):=i64add (b:=1) (by omega)
  have hdi:=emptD_len width i
  have hdj:=emptD_len width (i+1)
  obtain⟨a,cap,rfl,hcap,hat⟩:=b5.rd.at
  have hl:(empts width (i+1)).length=i+1:=empts_len _ _
  obtain⟨b,o,rfl,hb,hrd⟩:=hat i (by omega)
  have he:(empts width (i+1))[i]'(by omega)=emptD width i:=by simp[empts]
  rw[he] at hrd
  have r:=hrd 23 Tryz.agg23 Tryz.sz23
  have r':rdO Tryz.prog 23 w5.drew b (o+i*32)=some (dg (emptD width i)):=r
  have y1:(0:Int)≤(i:Int)∧(i:Int)<((i+1:Nat):Int):=by omega
  rw[hl] at b5 ⊢
  have b5d:NwD w0 w5.drew 23 (.slice (some ⟨b,o,none⟩) (i+1) cap) (empts width (i+1)):=b5.fr0 (Fr.refl _ _).drew
  simp -implicitDefEqProofs only[go_sem,Nat.reduceEqDiff,d1,y1,and_self,Int.toNat_natCast,r']
  refine contL_call Tryz.pl110 ((branch w5.drew (ht.no f5.drew) width hdi hdi).mono ?_);rintro _ w6 ⟨rfl,f6⟩
  have he2:branchD width (emptD width i) (emptD width i)=emptD width (i+1):=rfl
  rw[he2]
  have f6':=f5.drew.trans f6
  simp -implicitDefEqProofs only[go_sem,Nat.reduceEqDiff,Value.cells,bl_zero]
  refine contL_is (v:=.slice (some ⟨w6.heap.size,0,none⟩) 1 1) (w':=w6.alloc (.cells (bl (emptD width (i+1))) 23)) (fill_one (z:=List.replicate 32 (u8 0)) (y:=List.map u8 (List.replicate 32 0)) (c:=bl (List.replicate 32 0)) List.length_replicate (by rw[bl_size,List.length_replicate]) hdj hy _) ?_
  obtain⟨v8,w8,hr8,b8,f8,g8,h8⟩:=(b5d.fr0 f6).push Tryz.app94_94 hdj (by rw[empts_len];omega) f6'
  rw[← R.empts_succ] at b8
  simp -implicitDefEqProofs only[go_sem,Nat.reduceEqDiff]
  refine contL_sem ⟨v8,w8,hr8,?_⟩
  simp -implicitDefEqProofs only[go_sem,Nat.reduceEqDiff,c1]
  exact⟨256 - (i+1),by omega,i+1,v8,_,rfl,by omega,rfl,b8,f8⟩
 ·have d1:decide ((i:Int)<256)=false:=by simp;omega
  have e:i=256:=by omega
  subst e
  simp -implicitDefEqProofs only[go_sem,Nat.reduceEqDiff,d1]
  exact⟨b5,f5⟩
end Go.V
end
section
namespace Go.V
namespace Wit
theorem asc_perm:∀ {a b:List Bs},Asc a→Asc b→a.Perm b→a=b:=by
 intro a
 induction a with
 | nil=>intro b _ _ h;exact (List.nil_perm.1 h).symm
 | cons x l ih =>
  intro b ha hb h
  cases b with
  | nil=>exact absurd h.length_eq (by simp)
  | cons y m =>
   obtain⟨a1,a2⟩:=List.pairwise_cons.1 ha
   obtain⟨b1,b2⟩:=List.pairwise_cons.1 hb
   have e:x=y:=by
    have hx:x ∈ y::m:=h.mem_iff.1 (by simp)
    have hy:y ∈ x::l:=h.mem_iff.2 (by simp)
    rcases List.mem_cons.1 hx with e | hx
    ·exact e
    ·rcases List.mem_cons.1 hy with e | hy
     ·exact e.symm
     ·exact absurd (klt_trans (a1 _ hy) (b1 _ hx)) (klt_irrefl _)
   subst e
   rw[ih a2 b2 ((List.perm_cons x).1 h)]
theorem asc_nodup {l:List Bs} (h:Asc l):l.Nodup:=List.Pairwise.imp (fun {a b} (hab:klt a b) (e:a=b)=>klt_irrefl b (by rw[e] at hab;exact hab)) h
/-- in order, no two beside one another alike -/
theorem asc_of:∀ {l:List Bs},l.Pairwise (fun a b=>¬ klt b a)→All32 l→(∀ i,i+1<l.length→l.getD i []≠l.getD (i+1) [])→Asc l
 | [],_,_,_=>List.Pairwise.nil
 | [x],_,_,_=>List.pairwise_singleton _ _
 | x::y::m,h,ha,hn=>by
  obtain⟨h1,h2⟩:=List.pairwise_cons.1 h
  have ih:Asc (y::m):=asc_of h2 ha.tail fun i hi=>hn (i+1) (by simpa using hi)
  have hne:x≠y:=hn 0 (by simp)
  have hxy:klt x y:=by
   rcases klt_total ha.head ha.tail.head hne with k | k
   ·exact k
   ·exact absurd k (h1 y (by simp))
  refine List.pairwise_cons.2 ⟨fun z hz=>?_,ih⟩
  rcases List.mem_cons.1 hz with rfl | hz
  ·exact hxy
  ·exact klt_trans hxy ((List.pairwise_cons.1 ih).1 z hz)
def pos (k:Bs) (l:List Bs):Nat:=(l.takeWhile fun a=>!decide (klt k a)).length
def ins (k:Bs) (l:List Bs):List Bs:=l.take (pos k l)++k::l.drop (pos k l)
theorem ins_perm (k:Bs) (l:List Bs):(ins k l).Perm (k::l):=by
 unfold ins
 refine List.perm_middle.trans ?_
 rw[List.take_append_drop]
/-- before the place the key is not below, behind it it is -/
theorem pos_at {k:Bs} {l:List Bs} (h:Asc l) {i:Nat} (hi:i<l.length):klt k (l.getD i []) ↔ pos k l≤i:=by
 have gen:∀ (l:List Bs),Asc l→∀ i (hi:i<l.length),klt k (l.getD i []) ↔ pos k l≤i:=by
  intro l
  induction l with
  | nil=>intro _ i hi;cases hi
  | cons x l ih =>
   intro h i hi
   obtain⟨h1,h2⟩:=List.pairwise_cons.1 h
   unfold pos
   by_cases hx:klt k x
   ·rw[List.takeWhile_cons_of_neg (by simp[hx])]
    cases i with
    | zero=>simpa using hx
    | succ i =>
     simp only[List.getD_cons_succ,List.length_nil,Nat.zero_le,iff_true]
     have hi:i<l.length:=by simpa using hi
     rw[getD_lt _ hi]
     exact klt_trans hx (h1 _ (List.getElem_mem hi))
   ·rw[List.takeWhile_cons_of_pos (by simp[hx])]
    cases i with
    | zero=>simp[hx]
    | succ i =>
     have:=ih h2 i (by simpa using hi)
     unfold pos at this
     simp only[List.getD_cons_succ,List.length_cons,this];omega
 exact gen l h i hi
theorem ins_asc {k:Bs} {l:List Bs} (hk:k.length=32) (hl:All32 l) (h:Asc l) (hn:k ∉ l):Asc (ins k l):=by
 unfold ins Asc
 refine List.pairwise_append.2 ⟨h.take _,List.pairwise_cons.2 ⟨fun z hz=>?_,h.drop _⟩,fun a ha b hb=>?_⟩
 ·obtain⟨i,hi,rfl⟩:=List.mem_iff_getElem.1 hz
  rw[List.length_drop] at hi
  rw[List.getElem_drop]
  have:=(pos_at (k:=k) h (i:=pos k l+i) (by omega)).2 (by omega)
  rwa [getD_lt _ (by omega)] at this
 ·obtain⟨i,hi,rfl⟩:=List.mem_iff_getElem.1 ha
  rw[List.length_take] at hi
  rw[List.getElem_take]
  have h1:¬ klt k l[i]:=fun c=>by
   have:=(pos_at (k:=k) h (i:=i) (by omega)).1 (by rw[getD_lt _ (by omega)];exact c)
   omega
  have h2:klt l[i] k:=by
   rcases klt_total hk (hl.at (i:=i) (by omega)) (fun e=>hn (by rw[e];exact List.getElem_mem _)) with c | c
   ·exact absurd c h1
   ·exact c
  rcases List.mem_cons.1 hb with rfl | hb
  ·exact h2
  ·obtain⟨j,hj,rfl⟩:=List.mem_iff_getElem.1 hb
   rw[List.length_drop] at hj
   rw[List.getElem_drop]
   have:=(pos_at (k:=k) h (i:=pos k l+j) (by omega)).2 (by omega)
   rw[getD_lt _ (by omega)] at this
   exact klt_trans h2 this
theorem ins_all {k:Bs} {l:List Bs} (hk:k.length=32) (hl:All32 l):All32 (ins k l):=fun d hd=>by
 rcases List.mem_cons.1 ((ins_perm k l).mem_iff.1 hd) with rfl | hd
 ·exact hk
 ·exact hl d hd
def srt (ks:List Bs):List Bs:=ks.foldl (fun l k=>ins k l) []
theorem srt_perm (ks:List Bs):(srt ks).Perm ks:=by
 have gen:∀ (ks l:List Bs),(ks.foldl (fun l k=>ins k l) l).Perm (l++ks):=by
  intro ks
  induction ks with
  | nil=>intro l;simp
  | cons k ks ih =>
   intro l
   rw[List.foldl_cons]
   refine (ih _).trans ?_
   refine ((ins_perm k l).append_right ks).trans ?_
   exact (List.perm_middle (l₁:=l) (l₂:=ks) (a:=k)).symm
 simpa [srt] using gen ks []
theorem srt_all {ks:List Bs} (h:All32 ks):All32 (srt ks):=fun d hd=>h d ((srt_perm ks).mem_iff.1 hd)
theorem srt_len (ks:List Bs):(srt ks).length=ks.length:=(srt_perm ks).length_eq
theorem srt_asc:∀ {ks:List Bs},All32 ks→ks.Nodup→Asc (srt ks):=by
 have gen:∀ (ks l:List Bs),All32 ks→All32 l→Asc l→(l++ks).Nodup→Asc (ks.foldl (fun l k=>ins k l) l):=by
  intro ks
  induction ks with
  | nil=>intro l _ _ h _;exact h
  | cons k ks ih =>
   intro l hk hl ha hn
   rw[List.foldl_cons]
   have hkl:k ∉ l:=fun h=>(List.nodup_append.1 hn).2.2 k h k (by simp) rfl
   refine ih _ hk.tail (ins_all hk.head hl) (ins_asc hk.head hl ha hkl) ?_
   refine ((List.perm_middle (l₁:=l) (l₂:=ks) (a:=k)).trans ?_).nodup_iff.1 hn
   exact ((ins_perm k l).append_right ks).symm
 intro ks hk hn
 exact gen ks [] hk All32.nil List.Pairwise.nil (by simpa using hn)
/-- the keys in order, or the list's refusal -/
def sortE (ks:List Bs):Except Int (List Bs):=if 64<ks.length then .error 31 else if ks.Nodup then .ok (srt ks) else .error 33
def sortW (wd:Int) (ks:List Bs):Except Int (List Bs):=if wd<1∨32<wd then .error 1 else sortE ks
theorem sortE_ok {ks l:List Bs} (hk:All32 ks) (h:sortE ks=.ok l):Asc l∧All32 l∧l.length=ks.length∧l.length≤64∧l.Perm ks:=by
 unfold sortE at h
 split at h
 ·cases h
 ·split at h
  ·rename_i h1 h2
   simp only[Except.ok.injEq] at h;subst h
   exact⟨srt_asc hk h2,srt_all hk,srt_len ks,by rw[srt_len];omega,srt_perm ks⟩
  ·cases h
theorem sortW_ok {wd:Int} {ks l:List Bs} (h:sortW wd ks=.ok l):sortE ks=.ok l∧1≤wd∧wd≤32:=by
 unfold sortW at h
 split at h
 ·cases h
 ·exact⟨h,by omega,by omega⟩
/-- what a sort makes -/
theorem sorted_is {ks d:List Bs} (hk:All32 ks) (hp:d.Perm ks) (ho:d.Pairwise fun a b=>¬ klt b a) (hn:∀ i,i+1<d.length→d.getD i []≠d.getD (i+1) []):ks.Nodup∧d=srt ks:=by
 have hd:All32 d:=fun x hx=>hk x (hp.mem_iff.1 hx)
 have ha:=asc_of ho hd hn
 have hnd:ks.Nodup:=hp.nodup_iff.1 (asc_nodup ha)
 exact⟨hnd,asc_perm ha (srt_asc hk hnd) (hp.trans (srt_perm ks).symm)⟩
theorem sorted_dup {ks d:List Bs} (hp:d.Perm ks) {i:Nat} (hi:i+1<d.length) (he:d.getD i []=d.getD (i+1) []):¬ ks.Nodup:=fun h=>by
 have hn:=hp.nodup_iff.2 h
 rw[getD_lt _ (by omega),getD_lt _ hi] at he
 exact (List.pairwise_iff_getElem.1 hn) i (i+1) (by omega) hi (by omega) he
end Wit
end Go.V
end
