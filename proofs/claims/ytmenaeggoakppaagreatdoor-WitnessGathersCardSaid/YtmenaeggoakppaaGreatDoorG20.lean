/- Helpers. -/
import Derived.Lib.BytesEntry
import Derived.Laws.Externs
import Derived.Lib.Walk
import Derived.Test.YtmenaeggoakppaaGreatDoorG17
import Derived.Test.YtmenaeggoakppaaGreatDoorG11
set_option linter.all false
set_option maxRecDepth 100000
set_option maxHeartbeats 8000000
open BitVec renaming eq_of_toNat_eq→yX
open List renaming replicate→zG,getElem?_append_right→jN,getD_cons_succ→yG
open Nat renaming reduceEqDiff→jF,shiftRight_eq_div_pow→yF,div_div_eq_div_mul→yW,mul_one→jH,testBit_div_two_pow→yH,eq_of_testBit_eq→yB
open Go.Value renaming cells→jM
namespace Go.V
open Go.Proofs.Tryz Go.V.Tryz
variable {a b k:Bs} {d ks l:List Bs} {i:Nat} {u v:Value} {w:World}
section
open Go.Proofs Sha
instance (a b:Bs):Decidable (klt a b):=by unfold klt;infer_instance
def kcmp (a b:Bs):Int:=if a=b then 0 else if klt a b then -1 else 1
theorem lt_tb {x y i:Nat}(hx:x.testBit i=false)(hy:y.testBit i=true)(hs:∀ j,i<j→x.testBit j=y.testBit j):x<y:=by
 have e:x / 2 ^ (i+1)=y / 2 ^ (i+1):=yB fun j=>by
  rw[yH,yH];exact hs _ (by omega)
 rw[Nat.pow_succ,← yW,← yW]at e;rw[Nat.testBit_eq_decide_div_mod_eq]at hx hy;have hx':=of_decide_eq_false hx;have hy':=of_decide_eq_true hy
 rcases Nat.lt_or_ge x y with h | h
 ·exact h
 ·have:=Nat.div_le_div_right (c:=2 ^ i) h
  omega
theorem klt_at (hi:i<32)(h:∀ j,j<i→a.getD j 0=b.getD j 0)(hne:a.getD i 0≠b.getD i 0):klt a b ↔ (a.getD i 0).toNat<(b.getD i 0).toNat:=by
 obtain⟨hc,h0,h8⟩:=common_at hi h hne;have hlt:=qKs.1 (Nat.le_refl (blen (a.getD i 0 ^^^ b.getD i 0).toNat));have hz:(a.getD i 0 ^^^ b.getD i 0).toNat≠0:=fun e=>by rw[e]at h0;simp[blen]at h0
 have ht:=blen_bit hz
 have hb:∀ m,(a.getD i 0 ^^^ b.getD i 0).toNat.testBit m=Bool.xor ((a.getD i 0).toNat.testBit m) ((b.getD i 0).toNat.testBit m):=fun m=>by
  show (a.getD i 0 ^^^ b.getD i 0).getLsbD m=_;rw[BitVec.getLsbD_xor];rfl
 generalize blen (a.getD i 0 ^^^ b.getD i 0).toNat=n at *
 have hk:∀ x:Bs,kbit x (8*i+(8 - n))=(x.getD i 0).toNat.testBit (n - 1):=fun x=>by
  unfold kbit;rw[show (8*i+(8 - n)) / 8=i by omega,show 7 - (8*i+(8 - n)) % 8=n - 1 by omega];rfl
 unfold klt;rw[hc,hk,hk];generalize (a.getD i 0).toNat=x at *;generalize (b.getD i 0).toNat=y at *;generalize (a.getD i 0 ^^^ b.getD i 0).toNat=z at *
 have hs:∀ j,n - 1<j→x.testBit j=y.testBit j:=fun j hj=>by
  have h1:=hb j;rw[Nat.testBit_lt_two_pow (Nat.lt_of_lt_of_le hlt (Nat.pow_le_pow_right (by decide) (by omega)))]at h1
  revert h1
  cases x.testBit j <;> cases y.testBit j <;> simp
 have h2:=hb (n - 1);rw[ht]at h2;constructor
 ·rintro⟨_,h3,h4⟩
  exact lt_tb h3 h4 hs
 ·intro hxy
  refine⟨by omega,?_⟩
  cases h3:x.testBit (n - 1) <;> cases h4:y.testBit (n - 1)
  ·rw[h3,h4]at h2;cases h2
  ·exact⟨rfl,rfl⟩
  ·have:=lt_tb h4 h3 fun j hj=>(hs j hj).symm
   omega
  ·rw[h3,h4]at h2;cases h2
theorem kcmp_at (ha:a.length=32)(hb:b.length=32)(hi:i<32)(h:∀ j, j<i→a.getD j 0=b.getD j 0)(hne:a.getD i 0≠b.getD i 0) :
  kcmp a b=if (a.getD i 0).toNat<(b.getD i 0).toNat then -1 else 1:=by
 unfold kcmp;rw[if_neg (fun e=>hne (by rw[e]))]
 by_cases h2:(a.getD i 0).toNat<(b.getD i 0).toNat
 ·rw[if_pos h2,if_pos ((klt_at hi h hne).2 h2)]
 ·rw[if_neg h2,if_neg fun k=>h2 ((klt_at hi h hne).1 k)]
theorem bs_eq (ha:a.length=32)(hb:b.length=32)(h:∀ j,j<32→a.getD j 0=b.getD j 0):a=b :=
 List.ext_getElem (by omega) fun j h1 h2=>by
  have:=h j (by omega)
  rwa [qQi 0 h1,qQi 0 h2]at this
def b8 (x:Byte):UInt8:=x.toNat.toUInt8
theorem b8_nat (x:Byte):(b8 x).toNat=x.toNat:=by
 show (UInt8.ofNat x.toNat).toNat=_;rw[UInt8.toNat_ofNat'];have:=x.isLt;omega
theorem cmpB_spec:∀ (a b:Bs), a.length=b.length→(a=b∧Lib.compareBytes (a.map b8) (b.map b8)=0)∨∃ i, i<a.length∧(∀ j, j<i→a.getD j 0=b.getD j 0)∧a.getD i 0≠b.getD i 0 ∧
  Lib.compareBytes (a.map b8) (b.map b8)=if (a.getD i 0).toNat<(b.getD i 0).toNat then -1 else 1
 | [],[],_=>.inl ⟨rfl,rfl⟩
 | x::a,y::b,h=>by
  simp only[List.map_cons,Lib.compareBytes]
  by_cases hxy:x=y
  ·subst hxy
   rw[if_neg (by rw[UInt8.lt_iff_toNat_lt];omega),if_neg (by rw[UInt8.lt_iff_toNat_lt];omega)]
   rcases cmpB_spec a b (by simpa using h) with ⟨rfl,h1⟩ | ⟨i,h1,h2,h3,h4⟩
   ·exact .inl ⟨rfl,h1⟩
   ·refine .inr ⟨i+1,by simpa using h1,fun j hj=>?_,h3,h4⟩
    cases j with
    | zero=>rfl
    | succ j=>exact h2 j (by omega)
  ·have hne:x.toNat≠y.toNat:=fun e=>hxy (yX e)
   refine .inr ⟨0,by simp,fun j hj=>absurd hj (by omega),hxy,?_⟩;show (if b8 x<b8 y then (-1:Int) else if b8 y<b8 x then 1 else _)=if x.toNat<y.toNat then -1 else 1
   by_cases h1:x.toNat<y.toNat
   ·rw[if_pos h1,if_pos (by rw[UInt8.lt_iff_toNat_lt,b8_nat,b8_nat];exact h1)]
   ·rw[if_neg h1,if_neg (by rw[UInt8.lt_iff_toNat_lt,b8_nat,b8_nat];exact h1),if_pos (by rw[UInt8.lt_iff_toNat_lt,b8_nat,b8_nat];omega)]
theorem cmpB_kcmp (ha:a.length=32)(hb:b.length=32):Lib.compareBytes (a.map b8) (b.map b8)=kcmp a b:=by
 rcases cmpB_spec a b (by omega) with ⟨rfl,h1⟩ | ⟨i,h1,h2,h3,h4⟩
 ·rw[h1];simp[kcmp]
 ·rw[h4,kcmp_at ha hb (by omega) h2 h3]
theorem run_bytesOf {P:Program}{bs:Bs}(h:By w v bs):(Extern.Bytes.bytesOf v).run P w=.ok ⟨(bs.map b8).toArray⟩ w:=by
 obtain⟨a,cap,rfl,hcap,hat⟩:=h.at
 cases a with
 | none =>
  have:bs=[]:=List.length_eq_zero_iff.1 (by
   rcases Nat.eq_zero_or_pos bs.length with h | h
   ·exact h
   ·obtain⟨b,o,h1,_⟩:=hat 0 h;cases h1)
  subst this
  rfl
 | some ad =>
  have hl:=Lib.run_loadBytesX (P:=P) w (bs.map fun x=>(x.toNat:Int)) ad .empty (fun j x hj=>by
   rw[List.getElem?_map]at hj;obtain⟨y,hy,rfl⟩:=Option.map_eq_some_iff.1 hj;obtain⟨hjl,rfl⟩:=List.getElem?_eq_some_iff.1 hy;obtain⟨b,o,e,hc⟩:=hat j hjl;cases e;obtain⟨c,e,fz,h1,h2⟩:=rc_row hc
   have ea:(⟨b,o,none⟩:Addr).add j=⟨b,o+j,none⟩:=by unfold Addr.add;split <;> simp_all
   rw[ea]
   simp only[World.cell?,h1];exact h2)
  rw[List.length_map]at hl;have e1:Lib.bytesOf (bs.map fun x=>(x.toNat:Int))=bs.map b8:=by simp[Lib.bytesOf,b8]
  rw[e1]at hl;show (Extern.Bytes.loadBytes ad bs.length .empty).run P w=_;rw[hl]
  congr 1
  apply ByteArray.ext
  simp
theorem run_cmpB {P:Program}(ha:By w v a)(hb:By w u b):(Extern.BytealgCompare.compare #[v,u]).run P w=.ok (.int .i64 (Lib.compareBytes (a.map b8) (b.map b8))) w:=by
 change Sem.run P (do pure (goInt (Extern.BytealgCompare.cmp (← Extern.Bytes.bytesOf v) (← Extern.Bytes.bytesOf u)))) w=_
 simp only[Sem.run_bind,run_bytesOf ha,run_bytesOf hb,Sem.run_pure,Result.andThen];rw[Lib.cmp_eq]
 rfl
theorem bcompare (w0:World)(ha:By w0 v a)(hb:By w0 u b) :
  Fn prog 148 #[v,u] w0 fun r w'=>r=.int .i64 (Lib.compareBytes (a.map b8) (b.map b8))∧w'=w0:=by
 show Calls _ _ _ _ _
 go_enter func148,ntmps148
 go_wp2
 rw[run_callFunc_extern func199 (by kernel_rfl) (by kernel_rfl) (by kernel_rfl) (e:=Extern.BytealgCompare.compare) (by kernel_rfl),run_cmpB ha hb];simp only[Result.andThen];rw[Oper.upon_value]
 go_wp2
 go_ret
 exact⟨rfl,rfl⟩
namespace R
def rcI (w0:World)(a b:Bs)(n:Nat)(vs:List Value)(w:World):Prop :=
 ∃ (i:Nat),vs=[pt w0.heap.size 0,pt (w0.heap.size+1) 0,.int .i64 (i:Nat)]∧i≤32∧n=32 - i∧(∀ j,j<i→a.getD j 0=b.getD j 0)∧w.heap[w0.heap.size]?=some (.cells (bl a) 34 (0,0)) ∧
  w.heap[w0.heap.size+1]?=some (.cells (bl b) 34 (0,0))∧No w0 w
theorem cmp (w0:World)(ha:a.length=32)(hb:b.length=32):Fn prog 128 #[dg a,dg b] w0 fun v w'=>v=.int .i64 (kcmp a b)∧No w0 w':=by
 refine go128 (by simp) ?_;have f1:No w0 ((w0.alloc (.cells (bl a) 34)).alloc (.cells (bl b) 34)):=((Fr.refl _ _).alloc _).alloc _;have k1:((w0.alloc (.cells (bl a) 34)).alloc (.cells (bl b) 34)).heap[w0.heap.size]?=some (.cells (bl a) 34 (0,0)):=qQq (qQc _ _)
 have j1:((w0.alloc (.cells (bl a) 34)).alloc (.cells (bl b) 34)).heap[w0.heap.size+1]?=some (.cells (bl b) 34 (0,0)):=by
  have:=qQc (w0.alloc (.cells (bl a) 34)) (.cells (bl b) 34);rw[qQd]at this;exact this
 simp -implicitDefEqProofs only[go_sem,jF,Tryz.f128,jM];generalize (w0.alloc (.cells (bl a) 34)).alloc (.cells (bl b) 34)=W at *;refine loopD [2,3,5] (rcI w0 a b) 32 ⟨0,rfl,by omega,rfl,fun j h=>absurd h (by omega),k1,j1,f1⟩ ?_;rintro _ vs w2 g ⟨i,rfl,hi,rfl,hs,k2,j2,f2⟩
 by_cases hlt:i<32
 ·have d1:=dTo ((i:Int)<32)
  have c1:=iSu (i:=i);have y1:=iBd (i:=i) (n:=32);have q1:rdO prog 5 w2 w0.heap.size i=some (.int .u8 ((a.getD i 0).toNat:Int)):=rd1 agg5 k2 (bl_at (by omega));have q2:rdO prog 5 w2 (w0.heap.size+1) i=some (.int .u8 ((b.getD i 0).toNat:Int)):=rd1 agg5 j2 (bl_at (by omega))
  by_cases hne:a.getD i 0=b.getD i 0
  ·have hz:(((a.getD i 0).toNat:Int) != ((b.getD i 0).toNat:Int))=false:=by rw[hne];simp
   have hs':∀ j,j<i+1→a.getD j 0=b.getD j 0:=fun j hj=>by
    rcases Nat.lt_succ_iff_lt_or_eq.1 hj with h | rfl
    ·exact hs j h
    ·exact hne
   generalize a.getD i 0=p at *;generalize b.getD i 0=q at *;simp -implicitDefEqProofs only[go_sem,jF,d1,c1,y1,and_self,iTn,jH,q1,q2,hz];exact⟨32 - (i+1),by omega,i+1,rfl,by omega,rfl,hs',k2,j2,f2.drew⟩
  ·have hz:(((a.getD i 0).toNat:Int) != ((b.getD i 0).toNat:Int))=true:=by
    rw[bne_iff_ne];intro e;exact hne (yX (by omega))
   rw[kcmp_at ha hb hlt hs hne];generalize a.getD i 0=p at *;generalize b.getD i 0=q at *
   by_cases hpq:p.toNat<q.toNat
   ·have d2:=dTo ((p.toNat:Int)<(q.toNat:Int))
    rw[if_pos hpq];simp -implicitDefEqProofs only[go_sem,jF,d1,y1,and_self,iTn,jH,q1,q2,hz,d2];exact f2.drew.drew
   ·have d2:=dFo ((p.toNat:Int)<(q.toNat:Int))
    rw[if_neg hpq];simp -implicitDefEqProofs only[go_sem,jF,d1,y1,and_self,iTn,jH,q1,q2,hz,d2];exact f2.drew.drew
 ·have d1:=dFo ((i:Int)<32)
  have e:i=32:=by omega
  subst e;have:=bs_eq ha hb hs;subst this;have h0:kcmp a a=0:=by simp[kcmp]
  rw[h0];simp -implicitDefEqProofs only[go_sem,jF,d1];exact f2
def riI (w0:World)(a b:Bs)(n:Nat)(vs:List Value)(w:World):Prop :=
 ∃ (i:Nat) (x y:Value),vs=[pt w0.heap.size 0,pt (w0.heap.size+1) 0,.int .i64 (i:Nat),x,y]∧i≤256∧n=256 - i∧(∀ j,j<i→kbit a j=kbit b j)∧w.heap[w0.heap.size]?=some (.cells (bl a) 34 (0,0)) ∧
  w.heap[w0.heap.size+1]?=some (.cells (bl b) 34 (0,0))∧No w0 w
theorem kb_inj:(kb a i != kb b i)=!(kbit a i == kbit b i):=by
 unfold kb
 cases kbit a i <;> cases kbit b i <;> rfl
theorem common3 (w0:World)(ha:a.length=32)(hb:b.length=32):Fn prog 207 #[dg a,dg b] w0 fun v w'=>v=.int .i64 (common a b:Nat)∧No w0 w':=by
 refine go207 (by simp) ?_;have f1:No w0 ((w0.alloc (.cells (bl a) 34)).alloc (.cells (bl b) 34)):=((Fr.refl _ _).alloc _).alloc _;have k1:((w0.alloc (.cells (bl a) 34)).alloc (.cells (bl b) 34)).heap[w0.heap.size]?=some (.cells (bl a) 34 (0,0)):=qQq (qQc _ _)
 have j1:((w0.alloc (.cells (bl a) 34)).alloc (.cells (bl b) 34)).heap[w0.heap.size+1]?=some (.cells (bl b) 34 (0,0)):=by
  have:=qQc (w0.alloc (.cells (bl a) 34)) (.cells (bl b) 34);rw[qQd]at this;exact this
 simp -implicitDefEqProofs only[go_sem,jF,Tryz.f207,jM];generalize (w0.alloc (.cells (bl a) 34)).alloc (.cells (bl b) 34)=W at *;refine loopD [2,3,5,6,7] (riI w0 a b) 256 ⟨0,_,_,rfl,by omega,rfl,fun j h=>absurd h (by omega),k1,j1,f1⟩ ?_;rintro _ vs w2 g ⟨i,x,y,rfl,hi,rfl,hs,k2,j2,f2⟩
 by_cases hlt:i<256
 ·have d1:=dTo ((i:Int)<256)
  have c1:=iSu (i:=i);have r1:=rd_d agg34 sz34 k2 ha;simp -implicitDefEqProofs only[go_sem,jF,d1,r1];refine qQa pl166 ((bit3 w2 ha hlt).mono ?_);rintro _ w3 ⟨rfl,f3⟩;have r2:=rd_d agg34 sz34 (f3.at j2 id) hb;simp -implicitDefEqProofs only[go_sem,jF,r2];refine qQa pl166 ((bit3 w3 hb hlt).mono ?_);rintro _ w4 ⟨rfl,f4⟩;have hn:=kb_inj (a:=a) (b:=b) (i:=i)
  by_cases he:kbit a i=kbit b i
  ·have z:(!(kbit a i == kbit b i))=false:=by rw[he];simp
   rw[z]at hn
   have hs':∀ j,j<i+1→kbit a j=kbit b j:=fun j hj=>by
    rcases Nat.lt_succ_iff_lt_or_eq.1 hj with h | rfl
    ·exact hs j h
    ·exact he
   simp -implicitDefEqProofs only[go_sem,jF,hn,c1];exact⟨256 - (i+1),by omega,i+1,_,_,rfl,by omega,rfl,hs',f4.at (f3.at k2 id) id,f4.at (f3.at j2 id) id,(f2.trans f3).trans f4⟩
  ·have z:(!(kbit a i == kbit b i))=true:=by simpa using he
   rw[z]at hn;rw[qZf hs (fun _=>he) (by omega)];simp -implicitDefEqProofs only[go_sem,jF,hn];exact (f2.trans f3).trans f4
 ·have d1:=dFo ((i:Int)<256)
  have e:i=256:=by omega
  subst e;have h0:common a b=256:=qZf hs (fun h=>absurd h (by omega)) (by omega);rw[h0];simp -implicitDefEqProofs only[go_sem,jF,d1];exact⟨rfl,f2⟩
end R
end
section
open Go.Proofs Sha
theorem div_xor {x y m:Nat}:x / 2 ^ m=y / 2 ^ m ↔ blen (x ^^^ y)≤m:=by
 rw[qKs,← yF,← yF];have h:(x ^^^ y) >>> m=x >>> m ^^^ y >>> m:=Nat.shiftRight_xor_distrib;constructor
 ·intro e
  rw[e,Nat.xor_self,yF]at h;exact (Nat.div_eq_zero_iff_lt (Nat.two_pow_pos m)).1 h
 ·intro hl
  rw[yF,Nat.div_eq_of_lt hl]at h;refine yB fun i=>?_;have:=congrArg (fun z=>Nat.testBit z i) h;simp only[Nat.testBit_xor,Nat.zero_testBit]at this
  revert this
  cases (x >>> m).testBit i <;> cases (y >>> m).testBit i <;> simp
namespace R
def r2I (w0:World)(a b:Bs)(n:Nat)(vs:List Value)(w:World):Prop :=
 ∃ (i:Nat) (x y z:Value),vs=[pt w0.heap.size 0,pt (w0.heap.size+1) 0,.int .i64 (i:Nat),x,y,z]∧i≤32∧n=32 - i∧(∀ j,j<i→a.getD j 0=b.getD j 0)∧w.heap[w0.heap.size]?=some (.cells (bl a) 34 (0,0)) ∧
  w.heap[w0.heap.size+1]?=some (.cells (bl b) 34 (0,0))∧No w0 w
def r2J (w0 w1:World)(x y i:Nat)(n:Nat)(vs:List Value)(w:World):Prop :=
 ∃ (m:Nat),vs=[pt w0.heap.size 0,pt (w0.heap.size+1) 0,.int .i64 (i:Nat),.int .u8 ((x / 2 ^ m:Nat):Int),.int .u8 ((y / 2 ^ m:Nat):Int),.int .i64 ((8*i+8 - m:Nat):Int)]∧m≤blen (x ^^^ y)∧n=9 - m∧w=w1
theorem common22 (w0:World)(ha:a.length=32)(hb:b.length=32):Fn prog 182 #[dg a,dg b] w0 fun v w'=>v=.int .i64 (common a b:Nat)∧No w0 w':=by
 refine go182 (by simp) ?_;have f1:No w0 ((w0.alloc (.cells (bl a) 34)).alloc (.cells (bl b) 34)):=((Fr.refl _ _).alloc _).alloc _;have k1:((w0.alloc (.cells (bl a) 34)).alloc (.cells (bl b) 34)).heap[w0.heap.size]?=some (.cells (bl a) 34 (0,0)):=qQq (qQc _ _)
 have j1:((w0.alloc (.cells (bl a) 34)).alloc (.cells (bl b) 34)).heap[w0.heap.size+1]?=some (.cells (bl b) 34 (0,0)):=by
  have:=qQc (w0.alloc (.cells (bl a) 34)) (.cells (bl b) 34);rw[qQd]at this;exact this
 have n0:((2:Int)=0)=False:=by simp
 simp -implicitDefEqProofs only[go_sem,jF,Tryz.f182,jM];generalize (w0.alloc (.cells (bl a) 34)).alloc (.cells (bl b) 34)=W at *;refine loopD [2,3,5,6,7,8] (r2I w0 a b) 32 ⟨0,_,_,_,rfl,by omega,rfl,fun j h=>absurd h (by omega),k1,j1,f1⟩ ?_;rintro _ vs w2 g ⟨i,x',y',z',rfl,hi,rfl,hs,k2,j2,f2⟩
 by_cases hlt:i<32
 ·have d1:=dTo ((i:Int)<32)
  have c1:=iSu (i:=i);have y1:=iBd (i:=i) (n:=32);have q1:rdO prog 5 w2 w0.heap.size i=some (.int .u8 ((a.getD i 0).toNat:Int)):=rd1 agg5 k2 (bl_at (by omega));have q2:rdO prog 5 w2 (w0.heap.size+1) i=some (.int .u8 ((b.getD i 0).toNat:Int)):=rd1 agg5 j2 (bl_at (by omega));have c2:IntKind.i64.wrap (8*(i:Int))=((8*i:Nat):Int):=i64mul (a:=8) (by omega);have c3:IntKind.i64.wrap (((8*i:Nat):Int)+8)=((8*i+8:Nat):Int):=qXc (b:=8);have hx:(a.getD i 0).toNat<256:=(a.getD i 0).isLt;have hy:(b.getD i 0).toNat<256:=(b.getD i 0).isLt
  have hne:a.getD i 0≠b.getD i 0→common a b=8*i+8 - blen ((a.getD i 0).toNat ^^^ (b.getD i 0).toNat)∧0<blen ((a.getD i 0).toNat ^^^ (b.getD i 0).toNat):=fun h=>by
   obtain⟨h1,h2,h3⟩:=common_at hlt hs h;rw[BitVec.toNat_xor]at h1 h2 h3;exact⟨by omega,h2⟩
  have hs':a.getD i 0=b.getD i 0→∀ j,j<i+1→a.getD j 0=b.getD j 0:=fun he j hj=>by
   rcases Nat.lt_succ_iff_lt_or_eq.1 hj with h | rfl
   ·exact hs j h
   ·exact he
  have hee:(a.getD i 0).toNat=(b.getD i 0).toNat→a.getD i 0=b.getD i 0:=fun h=>yX h;have h8:blen ((a.getD i 0).toNat ^^^ (b.getD i 0).toNat)≤8:=qKs.2 (Nat.xor_lt_two_pow (n:=8) hx hy);generalize a.getD i 0=p at *;generalize b.getD i 0=q at *;generalize hp:p.toNat=x at *;generalize hq:q.toNat=y at *;simp -implicitDefEqProofs only[go_sem,jF,d1,y1,and_self,iTn,jH,q1,q2,c2,c3];refine loopD [2,3,5,6,7,8] (r2J w0 w2 x y i) 9 ⟨0,by simp only[Nat.pow_zero,Nat.div_one,Nat.sub_zero];rfl,by omega,rfl,rfl⟩ ?_;rintro _ vs _ g ⟨m,rfl,hm,rfl,rfl⟩
  by_cases hxy:x / 2 ^ m=y / 2 ^ m
  ·have hz:(((x / 2 ^ m:Nat):Int) != ((y / 2 ^ m:Nat):Int))=false:=by rw[hxy];simp
   have hmm:=div_xor.1 hxy;obtain rfl:m=blen (x ^^^ y):=by omega
   by_cases he:p=q
   ·have h0:blen (x ^^^ y)=0:=by
     have:x=y:=by rw[← hp,← hq,he]
     rw[this,Nat.xor_self];rfl
    have d2:=dFo (((8*i+8 - blen (x ^^^ y):Nat):Int)<((8*i+8:Nat):Int));simp -implicitDefEqProofs only[go_sem,jF,hz,c1,c2,c3,d2];exact⟨32 - (i+1),by omega,i+1,_,_,_,rfl,by omega,rfl,hs' he,k2,j2,f2⟩
   ·obtain⟨h1,h2⟩:=hne he
    have d2:=dTo (((8*i+8 - blen (x ^^^ y):Nat):Int)<((8*i+8:Nat):Int));rw[h1];simp -implicitDefEqProofs only[go_sem,jF,hz,c2,c3,d2];exact f2
  ·have hz:(((x / 2 ^ m:Nat):Int) != ((y / 2 ^ m:Nat):Int))=true:=by
    rw[bne_iff_ne];intro e;exact hxy (by omega)
   have hmm:¬ blen (x ^^^ y)≤m:=fun h=>hxy (div_xor.2 h)
   have hhalf:∀ z,z<256→IntKind.u8.wrap (((z / 2 ^ m:Nat):Int).tdiv 2)=((z / 2 ^ (m+1):Nat):Int):=fun z hz=>by
    rw[show ((z / 2 ^ m:Nat):Int).tdiv 2=((z / 2 ^ m / 2:Nat):Int) from rfl,yW,show 2 ^ m*2=2 ^ (m+1) from (Nat.pow_succ 2 m).symm,wrap_u8];have:=Nat.div_le_self z (2 ^ (m+1));generalize z / 2 ^ (m+1)=r at *;omega
   have a1:=hhalf x hx;have a2:=hhalf y hy
   have a3:IntKind.i64.wrap (((8*i+8 - m:Nat):Int) - 1)=((8*i+8 - (m+1):Nat):Int):=by
    have:=qXl (a:=8*i+8 - m) (b:=1) (by omega) (by omega);rw[show 8*i+8 - (m+1)=8*i+8 - m - 1 by omega];exact this
   simp -implicitDefEqProofs only[go_sem,jF,hz,n0,a1,a2,a3];exact⟨9 - (m+1),by omega,m+1,rfl,by omega,rfl,rfl⟩
 ·have d1:=dFo ((i:Int)<32)
  have e:i=32:=by omega
  subst e;have:=bs_eq ha hb hs;subst this;rw[(common_full ha ha).2 rfl];simp -implicitDefEqProofs only[go_sem,jF,d1];exact⟨rfl,f2⟩
end R
end
namespace Wit
theorem asc_perm:∀ {a b:List Bs},Asc a→Asc b→a.Perm b→a=b:=by
 intro a
 induction a with
 | nil=>intro b _ _ h;exact (List.nil_perm.1 h).symm
 | cons x l ih =>
  intro b ha hb h
  cases b with
  | nil=>exact absurd h.length_eq (by simp)
  | cons y m =>
   obtain⟨a1,a2⟩:=List.pairwise_cons.1 ha;obtain⟨b1,b2⟩:=List.pairwise_cons.1 hb
   have e:x=y:=by
    have hx:x ∈ y::m:=h.mem_iff.1 (by simp);have hy:y ∈ x::l:=h.mem_iff.2 (by simp)
    rcases List.mem_cons.1 hx with e | hx
    ·exact e
    ·rcases List.mem_cons.1 hy with e | hy
     ·exact e.symm
     ·exact absurd (qKf (a1 _ hy) (b1 _ hx)) (klt_irrefl _)
   subst e;rw[ih a2 b2 ((List.perm_cons x).1 h)]
theorem asc_nodup (h:Asc l):l.Nodup:=List.Pairwise.imp (fun {a b} (hab:klt a b) (e:a=b)=>klt_irrefl b (by rw[e]at hab;exact hab)) h
theorem asc_of:∀ {l:List Bs},l.Pairwise (fun a b=>¬ klt b a)→All32 l→(∀ i,i+1<l.length→l.getD i []≠l.getD (i+1) [])→Asc l
 | [],_,_,_=>List.Pairwise.nil
 | [x],_,_,_=>List.pairwise_singleton _ _
 | x::y::m,h,ha,hn=>by
  obtain⟨h1,h2⟩:=List.pairwise_cons.1 h;have ih:Asc (y::m):=asc_of h2 ha.tail fun i hi=>hn (i+1) (by simpa using hi);have hne:x≠y:=hn 0 (by simp)
  have hxy:klt x y:=by
   rcases klt_total ha.head ha.tail.head hne with k | k
   ·exact k
   ·exact absurd k (h1 y (by simp))
  refine List.pairwise_cons.2 ⟨fun z hz=>?_,ih⟩
  rcases List.mem_cons.1 hz with rfl | hz
  ·exact hxy
  ·exact qKf hxy ((List.pairwise_cons.1 ih).1 z hz)
def pos (k:Bs)(l:List Bs):Nat:=(l.takeWhile fun a=>!decide (klt k a)).length
def ins (k:Bs)(l:List Bs):List Bs:=l.take (pos k l)++k::l.drop (pos k l)
theorem pos_le (k:Bs)(l:List Bs):pos k l≤l.length:=List.Sublist.length_le (List.takeWhile_sublist _)
theorem ins_perm (k:Bs)(l:List Bs):(ins k l).Perm (k::l):=by
 unfold ins;refine List.perm_middle.trans ?_;rw[List.take_append_drop]
theorem ins_len (k:Bs)(l:List Bs):(ins k l).length=l.length+1:=by rw[(ins_perm k l).length_eq];rfl
theorem pos_at (h:Asc l)(hi:i<l.length):klt k (l.getD i []) ↔ pos k l≤i:=by
 have gen:∀ (l:List Bs),Asc l→∀ i (hi:i<l.length),klt k (l.getD i []) ↔ pos k l≤i:=by
  intro l
  induction l with
  | nil=>intro _ i hi;cases hi
  | cons x l ih =>
   intro h i hi;obtain⟨h1,h2⟩:=List.pairwise_cons.1 h;unfold pos
   by_cases hx:klt k x
   ·rw[List.takeWhile_cons_of_neg (by simp[hx])]
    cases i with
    | zero=>simpa using hx
    | succ i =>
     simp only[yG,List.length_nil,Nat.zero_le,iff_true];have hi:i<l.length:=by simpa using hi
     rw[qQi _ hi];exact qKf hx (h1 _ (List.getElem_mem hi))
   ·rw[List.takeWhile_cons_of_pos (by simp[hx])]
    cases i with
    | zero=>simp[hx]
    | succ i =>
     have:=ih h2 i (by simpa using hi);unfold pos at this;simp only[yG,List.length_cons,this];omega
 exact gen l h i hi
theorem ins_asc (hk:k.length=32)(hl:All32 l)(h:Asc l)(hn:k ∉ l):Asc (ins k l):=by
 unfold ins Asc;refine List.pairwise_append.2 ⟨h.take _,List.pairwise_cons.2 ⟨fun z hz=>?_,h.drop _⟩,fun a ha b hb=>?_⟩
 ·obtain⟨i,hi,rfl⟩:=List.mem_iff_getElem.1 hz
  rw[lDr]at hi;rw[List.getElem_drop];have:=(pos_at (k:=k) h (i:=pos k l+i) (by omega)).2 (by omega)
  rwa [qQi _ (by omega)]at this
 ·obtain⟨i,hi,rfl⟩:=List.mem_iff_getElem.1 ha
  rw[lTk]at hi;rw[List.getElem_take]
  have h1:¬ klt k l[i]:=fun c=>by
   have:=(pos_at (k:=k) h (i:=i) (by omega)).1 (by rw[qQi _ (by omega)];exact c);omega
  have h2:klt l[i] k:=by
   rcases klt_total hk (hl.at (i:=i) (by omega)) (fun e=>hn (by rw[e];exact List.getElem_mem _)) with c | c
   ·exact absurd c h1
   ·exact c
  rcases List.mem_cons.1 hb with rfl | hb
  ·exact h2
  ·obtain⟨j,hj,rfl⟩:=List.mem_iff_getElem.1 hb
   rw[lDr]at hj;rw[List.getElem_drop];have:=(pos_at (k:=k) h (i:=pos k l+j) (by omega)).2 (by omega);rw[qQi _ (by omega)]at this;exact qKf h2 this
theorem ins_all (hk:k.length=32)(hl:All32 l):All32 (ins k l):=fun d hd=>by
 rcases List.mem_cons.1 ((ins_perm k l).mem_iff.1 hd) with rfl | hd
 ·exact hk
 ·exact hl d hd
def srt (ks:List Bs):List Bs:=ks.foldl (fun l k=>ins k l) []
theorem srt_snoc (ks:List Bs)(k:Bs):srt (ks++[k])=ins k (srt ks):=by simp[srt]
theorem srt_perm (ks:List Bs):(srt ks).Perm ks:=by
 have gen:∀ (ks l:List Bs),(ks.foldl (fun l k=>ins k l) l).Perm (l++ks):=by
  intro ks
  induction ks with
  | nil=>intro l;simp
  | cons k ks ih =>
   intro l;rw[List.foldl_cons];refine (ih _).trans ?_;refine ((ins_perm k l).append_right ks).trans ?_;exact (List.perm_middle (l₁:=l) (l₂:=ks) (a:=k)).symm
 simpa [srt] using gen ks []
theorem srt_all (h:All32 ks):All32 (srt ks):=fun d hd=>h d ((srt_perm ks).mem_iff.1 hd)
theorem srt_len (ks:List Bs):(srt ks).length=ks.length:=(srt_perm ks).length_eq
theorem srt_asc:∀ {ks:List Bs},All32 ks→ks.Nodup→Asc (srt ks):=by
 have gen:∀ (ks l:List Bs),All32 ks→All32 l→Asc l→(l++ks).Nodup→Asc (ks.foldl (fun l k=>ins k l) l):=by
  intro ks
  induction ks with
  | nil=>intro l _ _ h _;exact h
  | cons k ks ih =>
   intro l hk hl ha hn;rw[List.foldl_cons];have hkl:k ∉ l:=fun h=>(List.nodup_append.1 hn).2.2 k h k (by simp) rfl;refine ih _ hk.tail (ins_all hk.head hl) (ins_asc hk.head hl ha hkl) ?_;refine ((List.perm_middle (l₁:=l) (l₂:=ks) (a:=k)).trans ?_).nodup_iff.1 hn;exact ((ins_perm k l).append_right ks).symm
 intro ks hk hn;exact gen ks [] hk All32.nil List.Pairwise.nil (by simpa using hn)
def sortE (ks:List Bs):Except Int (List Bs):=if 64<ks.length then .error 31 else if ks.Nodup then .ok (srt ks) else .error 33
def sortW (wd:Int)(ks:List Bs):Except Int (List Bs):=if wd<1∨32<wd then .error 1 else sortE ks
theorem sortE_ok (hk:All32 ks)(h:sortE ks=.ok l):Asc l∧All32 l∧l.length=ks.length∧l.length≤64∧l.Perm ks:=by
 unfold sortE at h;split at h
 ·cases h
 ·split at h
  ·rename_i h1 h2
   simp only[Except.ok.injEq]at h;subst h;exact⟨srt_asc hk h2,srt_all hk,srt_len ks,by rw[srt_len];omega,srt_perm ks⟩
  ·cases h
theorem sortW_ok {wd:Int}(h:sortW wd ks=.ok l):sortE ks=.ok l∧1≤wd∧wd≤32:=by
 unfold sortW at h;split at h
 ·cases h
 ·exact⟨h,by omega,by omega⟩
theorem sorted_is (hk:All32 ks)(hp:d.Perm ks)(ho:d.Pairwise fun a b=>¬ klt b a)(hn:∀ i,i+1<d.length→d.getD i []≠d.getD (i+1) []):ks.Nodup∧d=srt ks:=by
 have hd:All32 d:=fun x hx=>hk x (hp.mem_iff.1 hx);have ha:=asc_of ho hd hn;have hnd:ks.Nodup:=hp.nodup_iff.1 (asc_nodup ha);exact⟨hnd,asc_perm ha (srt_asc hk hnd) (hp.trans (srt_perm ks).symm)⟩
theorem sorted_dup (hp:d.Perm ks)(hi:i+1<d.length)(he:d.getD i []=d.getD (i+1) []):¬ ks.Nodup:=fun h=>by
 have hn:=hp.nodup_iff.2 h;rw[qQi _ (by omega),qQi _ hi]at he;exact (List.pairwise_iff_getElem.1 hn) i (i+1) (by omega) hi (by omega) he
theorem ins_at {j:Nat}(hj:j<l.length):(ins k l).getD (if pos k l≤j then j+1 else j) []=l.getD j []:=by
 unfold ins;have hp:=pos_le k l;have ht:(l.take (pos k l)).length=pos k l:=by rw[lTk];omega
 rw[gDq,gDq];split
 ·rename_i h
  rw[jN (by omega),ht,show j+1 - pos k l=(j - pos k l)+1 by omega,List.getElem?_cons_succ,List.getElem?_drop,show pos k l+(j - pos k l)=j by omega]
 ·rename_i h
  rw[List.getElem?_append_left (by omega),List.getElem?_take,if_pos (by omega)]
theorem ins_pos (k:Bs)(l:List Bs):(ins k l).getD (pos k l) []=k:=by
 unfold ins;have hp:=pos_le k l;have ht:(l.take (pos k l)).length=pos k l:=by rw[lTk];omega
 rw[gDq,jN (by omega),ht,Nat.sub_self];rfl
end Wit
section
open Go.Proofs Sha
def em0I (w0:World)(b5:Nat)(w1:World)(n:Nat)(vs:List Value)(w:World):Prop:=vs=[pt w0.heap.size 0,pt b5 0,.int .i64 0,.int .i64 0]∧w=w1
theorem empty0 (w0:World)(ht:Tabs w0)(width:Int):Fn prog 108 #[.int .i64 width,.int .i64 0] w0 fun v w'=>v=dg (emptD width 0)∧No w0 w':=by
 refine go108 (by simp) ?_;have f1:No w0 (w0.alloc (.cells (bl (zG 32 0)) 23)):=(Fr.refl _ _).alloc _;have k1:(w0.alloc (.cells (bl (zG 32 0)) 23)).heap[w0.heap.size]?=some (.cells (bl (zG 32 0)) 23 (0,0)):=qQc _ _;have z1:(w0.alloc (.cells (bl (zG 32 0)) 23)).heap.size=w0.heap.size+1:=qQd _ _;simp -implicitDefEqProofs only[go_sem,Tryz.f108,jM,qQj];generalize w0.alloc (.cells (bl (zG 32 0)) 23)=W at *;refine qQl (v:=.slice (some ⟨W.heap.size,0,none⟩) 1 1) (w':=W.alloc (.cells (bl [2]) 5)) (by rw[← z1];rfl) ?_;have f2:=f1.alloc (.cells (bl [2]) 5);have b1:NwB w0 (W.alloc (.cells (bl [2]) 5)) (.slice (some ⟨W.heap.size,0,none⟩) 1 1) [2]:=mk_nw w0 W 5 1 1 1 (bl [2]) f1.size rfl (Nat.le_refl _);have k2:=qQq (o:=.cells (bl [2]) 5) k1;generalize W.alloc (.cells (bl [2]) 5)=w2 at *;simp -implicitDefEqProofs only[go_sem];refine qQa pl169 ((dsum w2 (ht.no f2) b1.by (by simp)).mono ?_);rintro _ w3 ⟨rfl,f3⟩;simp -implicitDefEqProofs only[go_sem,jF];refine qQa pl113 ((dcut w3 width (sum_len [2])).mono ?_);rintro _ w4 ⟨rfl,f4⟩;have he:cutD width (Sha.sum [2])=emptD width 0:=rfl;rw[he];have hd0:=qQp width 0;have k4:=f4.at (f3.at k2 id) id;have f4':=(f2.trans f3).trans f4;have q:=wr_d sz23 (qQc w4 (.cells (bl (zG 32 0)) 23)) zl32 hd0;have r:=rd_d agg23 sz23 (qQf (o:=.cells (bl (emptD width 0)) 23 (0,0)) (qQc w4 (.cells (bl (zG 32 0)) 23))) hd0;have k5:(put (w4.alloc (.cells (bl (zG 32 0)) 23)) w4.heap.size (.cells (bl (emptD width 0)) 23 (0,0))).heap[w0.heap.size]?=some (.cells (bl (zG 32 0)) 23 (0,0)):=qQr (qQq k4) (by have:=qQh k4;omega);have f5:No w0 (put (w4.alloc (.cells (bl (zG 32 0)) 23)) w4.heap.size (.cells (bl (emptD width 0)) 23 (0,0))):=(f4'.alloc _).put (b:=w4.heap.size) _ fun h=>by have:=f4'.size;omega
 simp -implicitDefEqProofs only[go_sem,jF,jM,qQj,q];have q5:=r;generalize put (w4.alloc (.cells (bl (zG 32 0)) 23)) w4.heap.size (.cells (bl (emptD width 0)) 23 (0,0))=w5 at *;refine qQa pl170 ((within w5 0 0 256).mono ?_);rintro _ _ ⟨rfl,rfl⟩;rename_i w6;have e0:max (0:Int) (min 0 256)=0:=by decide
 have d0:decide ((0:Int)<0)=false:=by decide
 have r5:=q5;simp -implicitDefEqProofs only[go_sem,e0];refine loopD [4,5,11,12] (em0I w0 w4.heap.size w6) 0 ⟨rfl,rfl⟩ ?_;rintro _ vs w7 g ⟨rfl,rfl⟩;have q7:=wr_d sz23 k5 zl32 hd0;have r7:=rd_d agg23 sz23 (qQf (o:=.cells (bl (emptD width 0)) 23 (0,0)) k5) hd0;simp -implicitDefEqProofs only[go_sem,jF,d0,q5,q7,r7];exact f5.put (b:=w0.heap.size) _ fun h=>absurd h (Nat.lt_irrefl _)
def ewI (w0:World)(width:Int)(n:Nat)(vs:List Value)(w:World):Prop :=
 ∃ (i:Nat) (v x:Value),vs=[.int .i64 width,v,x,.int .i64 (i:Nat)]∧i≤256∧n=256 - i∧NwD w0 w 23 v (empts width (i+1))∧No w0 w
theorem empties (w0:World)(ht:Tabs w0)(width:Int):Fn prog 64 #[.int .i64 width] w0 fun v w'=>NwD w0 w' 23 v (empts width 257)∧No w0 w':=by
 refine go64 (by simp) ?_;simp -implicitDefEqProofs only[go_sem,jF,Tryz.f64];refine qQa pl108 ((empty0 w0 ht width).mono ?_);rintro _ w3 ⟨rfl,f3⟩;have hd0:=qQp width 0;have hy:List.map u8 (zG 32 0)=zG 32 (u8 0):=List.map_replicate;simp -implicitDefEqProofs only[go_sem,jM,qQj];refine qQl (v:=.slice (some ⟨w3.heap.size,0,none⟩) 1 1) (w':=w3.alloc (.cells (bl (emptD width 0)) 23)) (fill_one (z:=zG 32 (u8 0)) (y:=List.map u8 (zG 32 0)) (c:=bl (zG 32 0)) lRe (by rw[qXa,lRe]) hd0 hy _) ?_;have b4:NwD w0 (w3.alloc (.cells (bl (emptD width 0)) 23)) 23 (.slice (some ⟨w3.heap.size,0,none⟩) 1 1) (empts width (0+1)):=NwD.one hd0 f3.size;have f4:=f3.alloc (.cells (bl (emptD width 0)) 23);generalize w3.alloc (.cells (bl (emptD width 0)) 23)=w4 at *;simp -implicitDefEqProofs only[go_sem];refine loopD [0,3,4,8] (ewI w0 width) 256 ⟨0,.slice (some ⟨w3.heap.size,0,none⟩) 1 1,_,rfl,by omega,rfl,b4,f4⟩ ?_;rintro _ vs w5 g ⟨i,v,x,rfl,hi,rfl,b5,f5⟩
 by_cases hlt:i<256
 ·have d1:=dTo ((i:Int)<256)
  have c1:=iSu (i:=i);have hdi:=qQp width i;have hdj:=qQp width (i+1);obtain⟨a,cap,rfl,hcap,hat⟩:=b5.rd.at;have hl:(empts width (i+1)).length=i+1:=qQm _ _;obtain⟨b,o,rfl,hb,hrd⟩:=hat i (by omega);have he:(empts width (i+1))[i]'(by omega)=emptD width i:=by simp[empts]
  rw[he]at hrd;have r:=hrd 23 agg23 sz23;have r':rdO prog 23 w5.drew b (o+i*32)=some (dg (emptD width i)):=r;have y1:=iBd (i:=i) (n:=i+1);rw[hl]at b5 ⊢;have b5d:NwD w0 w5.drew 23 (.slice (some ⟨b,o,none⟩) (i+1) cap) (empts width (i+1)):=b5.fr0 (Fr.refl _ _).drew;simp -implicitDefEqProofs only[go_sem,jF,d1,y1,and_self,iTn,r'];refine qQa pl110 ((branch w5.drew (ht.no f5.drew) width hdi hdi).mono ?_);rintro _ w6 ⟨rfl,f6⟩;have he2:qQv width (emptD width i) (emptD width i)=emptD width (i+1):=rfl;rw[he2];have f6':=f5.drew.trans f6;simp -implicitDefEqProofs only[go_sem,jM,qQj];refine qQl (v:=.slice (some ⟨w6.heap.size,0,none⟩) 1 1) (w':=w6.alloc (.cells (bl (emptD width (i+1))) 23)) (fill_one (z:=zG 32 (u8 0)) (y:=List.map u8 (zG 32 0)) (c:=bl (zG 32 0)) lRe (by rw[qXa,lRe]) hdj hy _) ?_;obtain⟨v8,w8,hr8,b8,f8,g8,h8⟩:=(b5d.fr0 f6).push app94_94 hdj (by rw[qQm];omega) f6';rw[← R.empts_succ]at b8;simp -implicitDefEqProofs only[go_sem,jF];refine qQg ⟨v8,w8,hr8,?_⟩;simp -implicitDefEqProofs only[go_sem,jF,c1];exact⟨256 - (i+1),by omega,i+1,v8,_,rfl,by omega,rfl,b8,f8⟩
 ·have d1:=dFo ((i:Int)<256)
  have e:i=256:=by omega
  subst e;simp -implicitDefEqProofs only[go_sem,jF,d1];exact⟨b5,f5⟩
end
section
open Go.Proofs Sha
namespace Bat
structure Ch where
 key:Bs
 del:Bool
 val:Bs
deriving DecidableEq
def Ch.Ok (c:Ch):Prop:=c.key.length=32∧c.val.length≤128∧(c.del=true→c.val=[])
def takeP (s:Bs):Except Int (Ch × Bs) :=
 if s.length<33∨(s.getD 0 0≠1∧s.getD 0 0≠2) then .error 30
 else if s.getD 0 0=2 then .ok (⟨(s.drop 1).take 32,true,[]⟩,s.drop 33)
 else if s.length<35 then .error 30
 else if 128<(s.getD 33 0).toNat+256*(s.getD 34 0).toNat then .error 32
 else if s.length<35+((s.getD 33 0).toNat+256*(s.getD 34 0).toNat) then .error 30
 else .ok (⟨(s.drop 1).take 32,false,(s.drop 35).take ((s.getD 33 0).toNat+256*(s.getD 34 0).toNat)⟩,s.drop (35+((s.getD 33 0).toNat+256*(s.getD 34 0).toNat)))
def takesP:Nat→Bs→Except Int (List Ch × Bs)
 | 0,s=>.ok ([],s)
 | n+1,s=>match takeP s with
  | .error e=>.error e
  | .ok (c,r)=>match takesP n r with
   | .error e=>.error e
   | .ok (l,r')=>.ok (c::l,r')
def parseP (s:Bs):Except Int (List Ch) :=
 if s.length<2 then .error 30
 else if 64<(s.getD 0 0).toNat+256*(s.getD 1 0).toNat then .error 31
 else match takesP ((s.getD 0 0).toNat+256*(s.getD 1 0).toNat) (s.drop 2) with
  | .error e=>.error e
  | .ok (l,r)=>if r≠[] then .error 30 else if (l.map Ch.key).Nodup then .ok l else .error 33
end Bat
end
section
open Go.Proofs Sha
namespace Bat
end Bat
end
end Go.V
