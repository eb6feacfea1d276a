/-
 Helpers: NodeR, EmpR, BitsW.
-/
import Derived.Test.YtmenaeggoakppaaGreatDoorB17
import Derived.Test.YtmenaeggoakppaaGreatDoorB10
set_option linter.all false
section
namespace Go.V
open Go.Proofs Sha
set_option maxRecDepth 100000
namespace R
def cutK (w:Int) (d:Bs) (k:Nat):Bs:=(List.range 32).map fun (i:Nat)=>if i<k∧¬ ((i:Int)<w) then 0 else d.getD i 0
theorem cutK_len (w:Int) (d:Bs) (k:Nat):(cutK w d k).length=32:=by simp[cutK]
theorem cutK_zero (w:Int) {d:Bs} (h:d.length=32):cutK w d 0=d:=by
 refine List.ext_getElem (by rw[cutK_len,h]) fun i h1 h2=>?_
 simp only[cutK,List.getElem_map,List.getElem_range]
 rw[if_neg (by omega),getD_lt 0 h2]
theorem cutK_all (w:Int) (d:Bs):cutK w d 32=cutD w d:=by
 refine List.ext_getElem (by rw[cutK_len,cutD_len]) fun i h1 h2=>?_
 rw[cutK_len] at h1
 simp only[cutK,cutD,List.getElem_map,List.getElem_range]
 by_cases h:(i:Int)<w
 ·rw[if_neg (by simp[h]),if_pos h]
 ·rw[if_pos ⟨h1,h⟩,if_neg h]
theorem cutK_keep (w:Int) (d:Bs) {k:Nat} (h:(k:Int)<w):cutK w d (k+1)=cutK w d k:=by
 refine List.ext_getElem (by rw[cutK_len,cutK_len]) fun i h1 h2=>?_
 simp only[cutK,List.getElem_map,List.getElem_range]
 by_cases hi:i=k
 ·subst hi;rw[if_neg (by simp[h]),if_neg (by omega)]
 ·by_cases h3:i<k
  ·simp[h3,show i<k+1 by omega]
  ·rw[if_neg (by omega),if_neg (by omega)]
theorem cutK_set (w:Int) (d:Bs) {k:Nat} (h:¬ ((k:Int)<w)) (hk:k<32):(cutK w d k).set k 0=cutK w d (k+1):=by
 refine List.ext_getElem (by rw[List.length_set,cutK_len,cutK_len]) fun i h1 h2=>?_
 rw[List.getElem_set]
 simp only[cutK,List.getElem_map,List.getElem_range]
 by_cases hi:k=i
 ·subst hi;rw[if_pos rfl,if_pos ⟨by omega,h⟩]
 ·rw[if_neg hi]
  by_cases h3:i<k
  ·simp[h3,show i<k+1 by omega]
  ·rw[if_neg (by omega),if_neg (by omega)]
def ctI (w0:World) (width:Int) (d:Bs) (n:Nat) (vs:List Value) (w:World):Prop :=
 ∃ i,vs=[.int .i64 width,pt w0.heap.size 0,pt (w0.heap.size+1) 0,.int .i64 (i:Nat)]∧i≤32∧n=32 - i∧w.heap[w0.heap.size]?=some (.cells (bl (cutK width d i)) 23 (0,0)) ∧
  w.heap[w0.heap.size+1]?=some (.cells (bl (List.replicate 32 0)) 23 (0,0))∧No w0 w
theorem dcut (w0 : World) (width : Int) {d : Bs} (hd : d.length = 32) :
    Fn Tryz.prog 163 #[dg d,.int .i64 width] w0 fun v w' => v = dg (cutD width d) ∧ No w0 w' := by
 refine Tryz.go163 (by simp) ?_
 have f1:No w0 ((w0.alloc (.cells (bl d) 23)).alloc (.cells (bl (List.replicate 32 0)) 23)):=((Fr.refl _ _).alloc _).alloc _
 have h0:((w0.alloc (.cells (bl d) 23)).alloc (.cells (bl (List.replicate 32 0)) 23)).heap[w0.heap.size]?=some (.cells (bl d) 23 (0,0)):=alloc_at (alloc_blk_new _ _)
 have h1:((w0.alloc (.cells (bl d) 23)).alloc (.cells (bl (List.replicate 32 0)) 23)).heap[w0.heap.size+1]?=some (.cells (bl (List.replicate 32 0)) 23 (0,0)):=by
  have:=alloc_blk_new (w0.alloc (.cells (bl d) 23)) (.cells (bl (List.replicate 32 0)) 23)
  rw[alloc_heap_size] at this;exact this
 simp -implicitDefEqProofs only[go_sem,Nat.reduceEqDiff,Tryz.f163,Value.cells,bl_zero]
 refine loopD [1,2,4,5] (ctI w0 width d) 32 ⟨0,rfl,by omega,rfl,by rw[cutK_zero width hd];exact h0,h1,f1⟩ ?_
 rintro _ vs w1 g ⟨i,rfl,hi,rfl,k0,k1,g1⟩
 by_cases hlt:i<32
 ·have d1:decide ((i:Int)<32)=true:=by simp;omega
  have c1:IntKind.i64.wrap ((i:Int)+1)=((i+1:Nat):Int):=i64add (b:=1) (by omega)
  by_cases hw:(i:Int)<width
  ·have d2:decide ((i:Int) ≥ width)=false:=by simp;omega
   rw[← cutK_keep width d hw] at k0
   simp -implicitDefEqProofs only[go_sem,Nat.reduceEqDiff,d1,d2,c1]
   exact⟨32 - (i+1),by omega,i+1,rfl,by omega,rfl,k0,k1,g1⟩
  ·have d2:decide ((i:Int) ≥ width)=true:=by simp;omega
   have y:(0:Int)≤(i:Int)∧(i:Int)<((32:Nat):Int):=by omega
   have q:=wr1 (P:=Tryz.prog) (t:=5) (v:=u8 0) (o:=i) Tryz.sz5 rfl k0 (by rw[bl_size,cutK_len];exact hlt)
   rw[bl_set,cutK_set width d hw hlt] at q
   replace q:wrO Tryz.prog 5 w1 w0.heap.size i (.int .u8 0)=some (put w1 w0.heap.size (.cells (bl (cutK width d (i+1))) 23 (0,0))):=q
   simp -implicitDefEqProofs only[go_sem,Nat.reduceEqDiff,d1,d2,y,and_self,Int.toNat_natCast,Nat.mul_one,q,c1]
   exact⟨32 - (i+1),by omega,i+1,rfl,by omega,rfl,put_at k0,put_off k1 (by omega),g1.put (b:=w0.heap.size) _ fun h=>absurd h (Nat.lt_irrefl _)⟩
 ·have d1:decide ((i:Int)<32)=false:=by simp;omega
  have e:i=32:=by omega
  subst e
  rw[cutK_all] at k0
  have r:=rd_d Tryz.agg23 Tryz.sz23 k0 (cutD_len width d)
  have q:=wr_d Tryz.sz23 k1 zl32 (cutD_len width d)
  have r2:=rd_d Tryz.agg23 Tryz.sz23 (put_at (o:=.cells (bl (cutD width d)) 23 (0,0)) k1) (cutD_len width d)
  generalize cutD width d=d' at *
  simp -implicitDefEqProofs only[go_sem,Nat.reduceEqDiff,d1,r,q,r2]
  exact g1.put (b:=w0.heap.size+1) _ fun h=>by omega
theorem within (w0:World) (n lo hi:Int) (h:lo≤hi):Fn Tryz.prog 164 #[.int .i64 n,.int .i64 lo,.int .i64 hi] w0 fun v w'=>v=.int .i64 (max lo (min n hi))∧w'=w0:=by
 refine Tryz.go164 (by simp) ?_
 by_cases h1:n<lo
 ·have d1:decide (n<lo)=true:=by simpa using h1
  simp -implicitDefEqProofs only[go_sem,Nat.reduceEqDiff,Tryz.f164,d1]
  exact⟨by rw[show max lo (min n hi)=lo by omega],trivial⟩
 ·have d1:decide (n<lo)=false:=by simpa using h1
  by_cases h2:n > hi
  ·have d2:decide (n > hi)=true:=by simpa using h2
   simp -implicitDefEqProofs only[go_sem,Nat.reduceEqDiff,Tryz.f164,d1,d2]
   exact⟨by rw[show max lo (min n hi)=hi by omega],trivial⟩
  ·have d2:decide (n > hi)=false:=by simpa using h2
   simp -implicitDefEqProofs only[go_sem,Nat.reduceEqDiff,Tryz.f164,d1,d2]
   exact⟨by rw[show max lo (min n hi)=n by omega],trivial⟩
/-- the digest of a text, cut -/
theorem rcut (w0 : World) (ht : Tabs w0) (width : Int) {tv : Value} {t : Bs} (hv : By w0 tv t) (hl : t.length ≤ 1099511627776) :
    Fn Tryz.prog 99 #[tv,.int .i64 width] w0 fun v w' => v = dg (hcut width t) ∧ No w0 w' := by
 refine Tryz.go99 (by simp) ?_
 have f1:No w0 (w0.alloc (.cells (bl (List.replicate 32 0)) 23)):=(Fr.refl _ _).alloc _
 have k1:(w0.alloc (.cells (bl (List.replicate 32 0)) 23)).heap[w0.heap.size]?=some (.cells (bl (List.replicate 32 0)) 23 (0,0)):=alloc_blk_new _ _
 simp -implicitDefEqProofs only[go_sem,Nat.reduceEqDiff,Tryz.f99,Value.cells,bl_zero]
 generalize w0.alloc (.cells (bl (List.replicate 32 0)) 23)=W at *
 refine contL_call Tryz.pl27 ((sum_ref W (ht.no f1) (hv.fr0 f1) hl).mono ?_);rintro _ w2 ⟨rfl,f2⟩
 have q:=wr_d Tryz.sz23 (alloc_blk_new w2 (.cells (bl (List.replicate 32 0)) 23)) zl32 (sum_len t)
 have hr:=rd_d Tryz.agg23 Tryz.sz23 (put_at (o:=.cells (bl (Sha.sum t)) 23 (0,0)) (alloc_blk_new w2 (.cells (bl (List.replicate 32 0)) 23))) (sum_len t)
 have hk2:=f2.at k1 id
 have k3:(put (w2.alloc (.cells (bl (List.replicate 32 0)) 23)) w2.heap.size (.cells (bl (Sha.sum t)) 23 (0,0))).heap[w0.heap.size]?=some (.cells (bl (List.replicate 32 0)) 23 (0,0)):=put_off (alloc_at hk2) (by have:=heap_lt hk2;omega)
 have f3:No w0 (put (w2.alloc (.cells (bl (List.replicate 32 0)) 23)) w2.heap.size (.cells (bl (Sha.sum t)) 23 (0,0))):=((f1.trans f2).alloc _).put (b:=w2.heap.size) _ fun h=>by have:=f1.size;have:=f2.size;omega
 have hsl:=sum_len t
 have hcl:(hcut width t).length=32:=hcut_len _ _
 have he:cutD width (Sha.sum t)=hcut width t:=rfl
 generalize Sha.sum t=s at *
 simp -implicitDefEqProofs only[go_sem,Nat.reduceEqDiff,Value.cells,bl_zero,q,hr]
 generalize put (w2.alloc (.cells (bl (List.replicate 32 0)) 23)) w2.heap.size (.cells (bl s) 23 (0,0))=w3 at *
 refine contL_call Tryz.pl163 ((dcut w3 width hsl).mono ?_);rintro _ w4 ⟨rfl,f4⟩
 rw[he]
 have k4:=f4.at k3 id
 have q2:=wr_d Tryz.sz23 k4 zl32 hcl
 have r2:=rd_d Tryz.agg23 Tryz.sz23 (put_at (o:=.cells (bl (hcut width t)) 23 (0,0)) k4) hcl
 generalize hcut width t=d' at *
 simp -implicitDefEqProofs only[go_sem,Nat.reduceEqDiff,q2,r2]
 exact (f3.trans f4).put (b:=w0.heap.size) _ fun h=>absurd h (Nat.lt_irrefl _)
def ltI (w0:World) (k:Bs) (vv:Value) (n:Nat) (vs:List Value) (w:World):Prop :=
 ∃ i v,vs=[vv,pt w0.heap.size 0,v,.int .i64 (i:Nat)]∧i≤32∧n=32 - i∧NwB w0 w v (0::k.take i)∧w.heap[w0.heap.size]?=some (.cells (bl k) 34 (0,0))∧(∀ b,blockOf v=some b→b≠w0.heap.size)∧No w0 w
def ltJ (w0:World) (k val:Bs) (vv:Value) (n:Nat) (vs:List Value) (w:World):Prop :=
 ∃ i v,vs=[vv,v,.int .i64 (i:Nat)]∧i≤val.length∧n=val.length - i∧NwB w0 w v (0::k++val.take i)∧No w0 w
theorem take_snoc {l:Bs} {i:Nat} (h:i<l.length):l.take i++[l.getD i 0]=l.take (i+1):=take_succ_at (by rw[List.getElem?_eq_getElem h,getD_lt 0 h])
theorem NwB.grow {w0 w : World} {v : Value} {bs : Bs} (hv : NwB w0 w v bs) (x : Byte) (hl : bs.length ≤ 70000000000000) (f : No w0 w) :
    ∃ v' w',(Builtin.append_ #[25,25] 0 #[v,.slice (some ⟨w.heap.size,0,none⟩) 1 1]).run Tryz.prog (w.alloc (.cells (bl [x]) 5)) = .ok v' w' ∧ NwB w0 w' v' (bs ++ [x]) ∧ No w0 w' ∧ Fr (fun b => blockOf v = some b) w w' ∧
      ∀ b,blockOf v' = some b → blockOf v = some b ∨ w.heap.size ≤ b := by
 obtain⟨v',w',hr,h1,h2,h3,h4⟩:=app_fresh Tryz.app25_25 hv (m:=1) (xs:=bl [x]) (by simp) rfl (by omega) (bd47 (by omega)) (by omega) f
 refine⟨v',w',hr,?_,h2,h3,h4⟩
 unfold NwB
 rw[List.length_append,List.map_append];exact h1
set_option maxHeartbeats 1000000 in
theorem leafText (w0 : World) {k : Bs} (hk : k.length = 32) {vv : Value} {val : Bs} (hv : By w0 vv val) (hl : val.length ≤ 549755813888) :
    Fn Tryz.prog 145 #[dg k,vv] w0 fun v w' => NwB w0 w' v (leafT k val) ∧ No w0 w' := by
 refine Tryz.go145 (by simp) ?_
 have f1:No w0 (w0.alloc (.cells (bl k) 34)):=(Fr.refl _ _).alloc _
 have k1:(w0.alloc (.cells (bl k) 34)).heap[w0.heap.size]?=some (.cells (bl k) 34 (0,0)):=alloc_blk_new _ _
 have z1:(w0.alloc (.cells (bl k) 34)).heap.size=w0.heap.size+1:=alloc_heap_size _ _
 simp -implicitDefEqProofs only[go_sem,Nat.reduceEqDiff,Tryz.f145,Value.cells]
 generalize w0.alloc (.cells (bl k) 34)=W at *
 refine contL_is (v:=.slice (some ⟨W.heap.size,0,none⟩) 1 1) (w':=W.alloc (.cells (bl [0]) 5)) (by rw[← z1];rfl) ?_
 simp -implicitDefEqProofs only[go_sem,Nat.reduceEqDiff]
 have b1:NwB w0 (W.alloc (.cells (bl [0]) 5)) (.slice (some ⟨W.heap.size,0,none⟩) 1 1) (0::k.take 0):=mk_nw w0 W 5 1 1 1 (bl [0]) f1.size rfl (Nat.le_refl _)
 refine loopD [1,2,5,6] (ltI w0 k vv) 32 ⟨0,.slice (some ⟨W.heap.size,0,none⟩) 1 1,rfl,by omega,rfl,b1,alloc_at k1,fun b hb=>by simp only[blockOf,Option.some.injEq] at hb;omega,f1.alloc _⟩ ?_
 rintro _ vs w2 g ⟨i,v,rfl,hi,rfl,b2,k2,n2,f2⟩
 by_cases hlt:i<32
 ·have d1:decide ((i:Int)<32)=true:=by simp;omega
  have c1:IntKind.i64.wrap ((i:Int)+1)=((i+1:Nat):Int):=i64add (b:=1) (by omega)
  have y:(0:Int)≤(i:Int)∧(i:Int)<((32:Nat):Int):=by omega
  have r:rdO Tryz.prog 5 w2 w0.heap.size i=some (u8 (k.getD i 0)):=rd1 Tryz.agg5 k2 (bl_at (by omega))
  have hsn:=take_snoc (l:=k) (i:=i) (by omega)
  obtain⟨v3,w3,hr3,b3,f3,g3,h3⟩:=NwB.grow b2 (k.getD i 0) (by simp;omega) f2
  rw[List.cons_append,hsn] at b3
  generalize k.getD i 0=x at *
  simp -implicitDefEqProofs only[go_sem,Nat.reduceEqDiff,d1,y,and_self,Int.toNat_natCast,Nat.mul_one,r]
  refine contL_is (v:=.slice (some ⟨w2.heap.size,0,none⟩) 1 1) (w':=w2.alloc (.cells (bl [x]) 5)) rfl ?_
  simp -implicitDefEqProofs only[go_sem,Nat.reduceEqDiff]
  refine contL_sem ⟨v3,w3,hr3,?_⟩
  simp -implicitDefEqProofs only[go_sem,Nat.reduceEqDiff,c1]
  refine⟨32 - (i+1),by omega,i+1,v3,rfl,by omega,rfl,b3,g3.at k2 fun h=>n2 _ h rfl,fun b hb=>?_,f3⟩
  rcases h3 b hb with h | h
  ·exact n2 b h
  ·have:=heap_lt k2;omega
 ·have d1:decide ((i:Int)<32)=false:=by simp;omega
  have e:i=32:=by omega
  subst e
  rw[List.take_of_length_le (by omega)] at b2
  simp -implicitDefEqProofs only[go_sem,Nat.reduceEqDiff,d1]
  refine loopD [1,5,7] (ltJ w0 k val vv) val.length ⟨0,v,rfl,by omega,rfl,by rw[List.take_zero,List.append_nil];exact b2,f2⟩ ?_
  rintro _ vs w3 g3 ⟨i,v3,rfl,hi,rfl,b3,f3⟩
  obtain⟨va,vc,rfl,hcap,hat⟩:=hv.at
  by_cases hlt:i<val.length
  ·have d1:decide ((i:Int)<((val.length:Nat):Int))=true:=by simp;omega
   have c1:IntKind.i64.wrap ((i:Int)+1)=((i+1:Nat):Int):=i64add (b:=1) (by omega)
   have y:(0:Int)≤(i:Int)∧(i:Int)<((val.length:Nat):Int):=by omega
   obtain⟨b,o,rfl,hb⟩:=hat i hlt
   have r:rdO Tryz.prog 5 w3 b (o+i)=some (u8 (val.getD i 0)):=rd_rc Tryz.agg5 (by rw[f3.rc (rc_lt hb) id,hb,getD_lt 0 hlt])
   have hsn:=take_snoc (l:=val) (i:=i) hlt
   obtain⟨v4,w4,hr4,b4,f4,g4,_⟩:=NwB.grow b3 (val.getD i 0) (by simp;omega) f3
   rw[List.append_assoc,hsn] at b4
   generalize val.getD i 0=x at *
   simp -implicitDefEqProofs only[go_sem,Nat.reduceEqDiff,d1,y,and_self,Int.toNat_natCast,Nat.mul_one,r]
   refine contL_is (v:=.slice (some ⟨w3.heap.size,0,none⟩) 1 1) (w':=w3.alloc (.cells (bl [x]) 5)) rfl ?_
   simp -implicitDefEqProofs only[go_sem,Nat.reduceEqDiff]
   refine contL_sem ⟨v4,w4,hr4,?_⟩
   simp -implicitDefEqProofs only[go_sem,Nat.reduceEqDiff,c1]
   exact⟨val.length - (i+1),by omega,i+1,v4,rfl,by omega,rfl,b4,f4⟩
  ·have d1:decide ((i:Int)<((val.length:Nat):Int))=false:=by simp;omega
   have e:i=val.length:=by omega
   subst e
   rw[List.take_length] at b3
   simp -implicitDefEqProofs only[go_sem,Nat.reduceEqDiff,d1]
   exact⟨b3,f3⟩
def btI (w0:World) (ww:Nat) (d l r:Bs) (pre:Bs) (b1:Nat) (n:Nat) (vs:List Value) (w:World) (keep:Bool):Prop :=
 ∃ i v,vs=(if keep then [pt w0.heap.size 0,pt (w0.heap.size+1) 0,.int .i64 (ww:Nat),v,.int .i64 (i:Nat)] else [pt (w0.heap.size+1) 0,.int .i64 (ww:Nat),v,.int .i64 (i:Nat)])∧i≤ww∧n=ww - i∧NwB w0 w v (pre++d.take i) ∧
  w.heap[w0.heap.size]?=some (.cells (bl l) 23 (0,0))∧w.heap[w0.heap.size+1]?=some (.cells (bl r) 23 (0,0))∧(∀ b,blockOf v=some b→w0.heap.size+1<b)∧No w0 w
set_option maxHeartbeats 1000000 in
theorem branchText (w0 : World) (width : Int) {l r : Bs} (hl : l.length = 32) (hr : r.length = 32) :
    Fn Tryz.prog 144 #[.int .i64 width,dg l,dg r] w0 fun v w' => NwB w0 w' v (branchT width l r) ∧ No w0 w' := by
 refine Tryz.go144 (by simp) ?_
 have f1:No w0 ((w0.alloc (.cells (bl l) 23)).alloc (.cells (bl r) 23)):=((Fr.refl _ _).alloc _).alloc _
 have k1:((w0.alloc (.cells (bl l) 23)).alloc (.cells (bl r) 23)).heap[w0.heap.size]?=some (.cells (bl l) 23 (0,0)):=alloc_at (alloc_blk_new _ _)
 have j1:((w0.alloc (.cells (bl l) 23)).alloc (.cells (bl r) 23)).heap[w0.heap.size+1]?=some (.cells (bl r) 23 (0,0)):=by
  have:=alloc_blk_new (w0.alloc (.cells (bl l) 23)) (.cells (bl r) 23)
  rw[alloc_heap_size] at this;exact this
 simp -implicitDefEqProofs only[go_sem,Nat.reduceEqDiff,Nat.reduceBEq,Tryz.f144,Value.cells]
 generalize (w0.alloc (.cells (bl l) 23)).alloc (.cells (bl r) 23)=W at *
 refine contL_call Tryz.pl164 ((within W width 0 32 (by decide)).mono ?_);rintro _ _ ⟨rfl,rfl⟩
 have hw:=wid_le width
 rw[widI]
 rename_i W'
 simp -implicitDefEqProofs only[go_sem,Nat.reduceEqDiff]
 refine contL_is (v:=.slice (some ⟨W'.heap.size,0,none⟩) 1 1) (w':=W'.alloc (.cells (bl [1]) 5)) rfl ?_
 simp -implicitDefEqProofs only[go_sem,Nat.reduceEqDiff]
 have b1:NwB w0 (W'.alloc (.cells (bl [1]) 5)) (.slice (some ⟨W'.heap.size,0,none⟩) 1 1) [1]:=mk_nw w0 W' 5 1 1 1 (bl [1]) f1.size rfl (Nat.le_refl _)
 have hsz:=heap_lt j1
 unfold branchT
 generalize wid width=ww at *
 refine loopD [4,5,7,8,9] (fun n vs w=>btI w0 ww l l r [1] 0 n vs w true) ww ⟨0,.slice (some ⟨W'.heap.size,0,none⟩) 1 1,rfl,by omega,rfl,by rw[List.take_zero,List.append_nil];exact b1,alloc_at k1,alloc_at j1,fun b hb=>by simp only[blockOf,Option.some.injEq] at hb;omega,f1.alloc _⟩ ?_
 rintro _ vs w2 g ⟨i,v,rfl,hi,rfl,b2,k2,j2,n2,f2⟩
 by_cases hlt:i<ww
 ·have d1:decide ((i:Int)<((ww:Nat):Int))=true:=by simp;omega
  have c1:IntKind.i64.wrap ((i:Int)+1)=((i+1:Nat):Int):=i64add (b:=1) (by omega)
  have y:(0:Int)≤(i:Int)∧(i:Int)<((32:Nat):Int):=by omega
  have r':rdO Tryz.prog 5 w2 w0.heap.size i=some (u8 (l.getD i 0)):=rd1 Tryz.agg5 k2 (bl_at (by omega))
  have hsn:=take_snoc (l:=l) (i:=i) (by omega)
  obtain⟨v3,w3,hr3,b3,f3,g3,h3⟩:=NwB.grow b2 (l.getD i 0) (by simp;omega) f2
  rw[List.append_assoc,hsn] at b3
  generalize l.getD i 0=x at *
  simp -implicitDefEqProofs only[go_sem,Nat.reduceEqDiff,d1,y,and_self,Int.toNat_natCast,Nat.mul_one,r']
  refine contL_is (v:=.slice (some ⟨w2.heap.size,0,none⟩) 1 1) (w':=w2.alloc (.cells (bl [x]) 5)) rfl ?_
  simp -implicitDefEqProofs only[go_sem,Nat.reduceEqDiff]
  refine contL_sem ⟨v3,w3,hr3,?_⟩
  simp -implicitDefEqProofs only[go_sem,Nat.reduceEqDiff,c1]
  refine⟨ww - (i+1),by omega,i+1,v3,rfl,by omega,rfl,b3,g3.at k2 fun h=>by have:=n2 _ h;omega,g3.at j2 fun h=>by have:=n2 _ h;omega,fun b hb=>?_,f3⟩
  rcases h3 b hb with h | h
  ·exact n2 b h
  ·have:=heap_lt j2;omega
 ·have d1:decide ((i:Int)<((ww:Nat):Int))=false:=by simp;omega
  have e:i=ww:=by omega
  subst e
  simp -implicitDefEqProofs only[go_sem,Nat.reduceEqDiff,d1]
  refine loopD [5,7,8,10] (fun n vs w=>btI w0 i r l r ([1]++l.take i) 0 n vs w false) i ⟨0,v,rfl,by omega,rfl,by rw[List.take_zero,List.append_nil];exact b2,k2,j2,n2,f2⟩ ?_
  rintro _ vs w3 g3 ⟨j,v3,rfl,hj,rfl,b3,k3,j3,n3,f3⟩
  by_cases hlt:j<i
  ·have d1:decide ((j:Int)<((i:Nat):Int))=true:=by simp;omega
   have c1:IntKind.i64.wrap ((j:Int)+1)=((j+1:Nat):Int):=i64add (b:=1) (by omega)
   have y:(0:Int)≤(j:Int)∧(j:Int)<((32:Nat):Int):=by omega
   have r':rdO Tryz.prog 5 w3 (w0.heap.size+1) j=some (u8 (r.getD j 0)):=rd1 Tryz.agg5 j3 (bl_at (by omega))
   have hsn:=take_snoc (l:=r) (i:=j) (by omega)
   obtain⟨v4,w4,hr4,b4,f4,g4,h4⟩:=NwB.grow b3 (r.getD j 0) (by simp;omega) f3
   rw[List.append_assoc,hsn] at b4
   generalize r.getD j 0=x at *
   simp -implicitDefEqProofs only[go_sem,Nat.reduceEqDiff,d1,y,and_self,Int.toNat_natCast,Nat.mul_one,r']
   refine contL_is (v:=.slice (some ⟨w3.heap.size,0,none⟩) 1 1) (w':=w3.alloc (.cells (bl [x]) 5)) rfl ?_
   simp -implicitDefEqProofs only[go_sem,Nat.reduceEqDiff]
   refine contL_sem ⟨v4,w4,hr4,?_⟩
   simp -implicitDefEqProofs only[go_sem,Nat.reduceEqDiff,c1]
   refine⟨i - (j+1),by omega,j+1,v4,rfl,by omega,rfl,b4,g4.at k3 fun h=>by have:=n3 _ h;omega,g4.at j3 fun h=>by have:=n3 _ h;omega,fun b hb=>?_,f4⟩
   rcases h4 b hb with h | h
   ·exact n3 b h
   ·have:=heap_lt j3;omega
  ·have d1:decide ((j:Int)<((i:Nat):Int))=false:=by simp;omega
   have e:j=i:=by omega
   subst e
   simp -implicitDefEqProofs only[go_sem,Nat.reduceEqDiff,d1]
   exact⟨by simpa using b3,f3⟩
set_option maxHeartbeats 1000000 in
theorem leaf (w0 : World) (ht : Tabs w0) (width : Int) {k : Bs} (hk : k.length = 32) {vv : Value} {val : Bs} (hv : By w0 vv val) (hl : val.length ≤ 549755813888) :
    Fn Tryz.prog 101 #[.int .i64 width,dg k,vv] w0 fun v w' => v = dg (leafD width k val) ∧ No w0 w' := by
 refine Tryz.go101 (by simp) ?_
 have f1:No w0 ((w0.alloc (.cells (bl k) 34)).alloc (.cells (bl (List.replicate 32 0)) 23)):=((Fr.refl _ _).alloc _).alloc _
 have k1:((w0.alloc (.cells (bl k) 34)).alloc (.cells (bl (List.replicate 32 0)) 23)).heap[w0.heap.size]?=some (.cells (bl k) 34 (0,0)):=alloc_at (alloc_blk_new _ _)
 have j1:((w0.alloc (.cells (bl k) 34)).alloc (.cells (bl (List.replicate 32 0)) 23)).heap[w0.heap.size+1]?=some (.cells (bl (List.replicate 32 0)) 23 (0,0)):=by
  have:=alloc_blk_new (w0.alloc (.cells (bl k) 34)) (.cells (bl (List.replicate 32 0)) 23)
  rw[alloc_heap_size] at this;exact this
 simp -implicitDefEqProofs only[go_sem,Nat.reduceEqDiff,Tryz.f101,Value.cells,bl_zero]
 generalize (w0.alloc (.cells (bl k) 34)).alloc (.cells (bl (List.replicate 32 0)) 23)=W at *
 have r1:=rd_d Tryz.agg34 Tryz.sz34 k1 hk
 simp -implicitDefEqProofs only[go_sem,Nat.reduceEqDiff,r1]
 refine contL_call Tryz.pl145 ((leafText W hk (hv.fr0 f1) hl).mono ?_);rintro tv w2 ⟨b2,f2⟩
 simp -implicitDefEqProofs only[go_sem,Nat.reduceEqDiff]
 refine contL_call Tryz.pl99 ((rcut w2 ((ht.no f1).no f2) width b2.by (by rw[leafT_len];omega)).mono ?_);rintro _ w3 ⟨rfl,f3⟩
 have j4:=f3.at (f2.at j1 id) id
 have e:hcut width (leafT k val)=leafD width k val:=rfl
 rw[e]
 have q:=wr_d Tryz.sz23 j4 zl32 (leafD_len width k val)
 have r:=rd_d Tryz.agg23 Tryz.sz23 (put_at (o:=.cells (bl (leafD width k val)) 23 (0,0)) j4) (leafD_len width k val)
 generalize leafD width k val=d at q r
 simp -implicitDefEqProofs only[go_sem,Nat.reduceEqDiff,q,r]
 exact ((f1.trans f2).trans f3).put (b:=w0.heap.size+1) _ fun h=>by omega
set_option maxHeartbeats 1000000 in
theorem branch (w0 : World) (ht : Tabs w0) (width : Int) {l r : Bs} (hl : l.length = 32) (hr : r.length = 32) :
    Fn Tryz.prog 100 #[.int .i64 width,dg l,dg r] w0 fun v w' => v = dg (branchD width l r) ∧ No w0 w' := by
 refine Tryz.go100 (by simp) ?_
 have f1:No w0 (((w0.alloc (.cells (bl l) 23)).alloc (.cells (bl r) 23)).alloc (.cells (bl (List.replicate 32 0)) 23)):=(((Fr.refl _ _).alloc _).alloc _).alloc _
 have k1:(((w0.alloc (.cells (bl l) 23)).alloc (.cells (bl r) 23)).alloc (.cells (bl (List.replicate 32 0)) 23)).heap[w0.heap.size]?=some (.cells (bl l) 23 (0,0)):=alloc_at (alloc_at (alloc_blk_new _ _))
 have j1:(((w0.alloc (.cells (bl l) 23)).alloc (.cells (bl r) 23)).alloc (.cells (bl (List.replicate 32 0)) 23)).heap[w0.heap.size+1]?=some (.cells (bl r) 23 (0,0)):=by
  have:=alloc_blk_new (w0.alloc (.cells (bl l) 23)) (.cells (bl r) 23)
  rw[alloc_heap_size] at this;exact alloc_at this
 have i1:(((w0.alloc (.cells (bl l) 23)).alloc (.cells (bl r) 23)).alloc (.cells (bl (List.replicate 32 0)) 23)).heap[w0.heap.size+1+1]?=some (.cells (bl (List.replicate 32 0)) 23 (0,0)):=by
  have:=alloc_blk_new ((w0.alloc (.cells (bl l) 23)).alloc (.cells (bl r) 23)) (.cells (bl (List.replicate 32 0)) 23)
  rw[alloc_heap_size,alloc_heap_size] at this;exact this
 simp -implicitDefEqProofs only[go_sem,Nat.reduceEqDiff,Tryz.f100,Value.cells,bl_zero]
 generalize ((w0.alloc (.cells (bl l) 23)).alloc (.cells (bl r) 23)).alloc (.cells (bl (List.replicate 32 0)) 23)=W at *
 have r1:=rd_d Tryz.agg23 Tryz.sz23 k1 hl
 have r2:=rd_d Tryz.agg23 Tryz.sz23 j1 hr
 simp -implicitDefEqProofs only[go_sem,Nat.reduceEqDiff,r1,r2]
 refine contL_call Tryz.pl144 ((branchText W width hl hr).mono ?_);rintro tv w2 ⟨b2,f2⟩
 simp -implicitDefEqProofs only[go_sem,Nat.reduceEqDiff]
 refine contL_call Tryz.pl99 ((rcut w2 ((ht.no f1).no f2) width b2.by (by have:=branchT_len width l r;omega)).mono ?_);rintro _ w3 ⟨rfl,f3⟩
 have i4:=f3.at (f2.at i1 id) id
 have e:hcut width (branchT width l r)=branchD width l r:=rfl
 rw[e]
 have q:=wr_d Tryz.sz23 i4 zl32 (branchD_len width l r)
 have rr:=rd_d Tryz.agg23 Tryz.sz23 (put_at (o:=.cells (bl (branchD width l r)) 23 (0,0)) i4) (branchD_len width l r)
 generalize branchD width l r=d at q rr
 simp -implicitDefEqProofs only[go_sem,Nat.reduceEqDiff,q,rr]
 exact ((f1.trans f2).trans f3).put (b:=w0.heap.size+1+1) _ fun h=>by omega
end R
end Go.V
end
section
namespace Go.V
open Go.Proofs Sha
set_option maxRecDepth 100000
theorem fill_one {z : List Value} (hz : z.length = 32) {c : Array Value} (hc : c.size = 32) {d : List Byte} (hd : d.length = 32) {y : List Value} (hy : y = z) (g : Array Value → Value × World) :
    (Sum.inl (if 1 * 32 ≤ 2 ^ 24 ∧ 0 < 32 ∧ c.size = 32 then Option.map g (Instr.fill (fun i => some (i * 32,32)) (zrow y 1) [(0,dg d)]) else none) : Out) = .inl (some (g (bl d))) := by
 subst hy
 rw[fill_dg hz hd,if_pos ⟨by decide,by decide,hc⟩];rfl
theorem NwD.one {w0 w:World} {e:Nat} {d:List Byte} (hd:d.length=32) (f:w0.heap.size≤w.heap.size):NwD w0 (w.alloc (.cells (bl d) e)) e (.slice (some ⟨w.heap.size,0,none⟩) 1 1) [d]:=by
 have:=mk_nw w0 w e 32 1 1 (bl d) f (by rw[bl_size,hd]) (Nat.le_refl _)
 refine⟨All32.one hd,?_⟩
 rw[flat_one]
 have e1:(bl d).toList.take (1*32)=d.map u8:=by rw[List.take_of_length_le (by simp[hd])]
 rw[← e1];exact this
theorem NwD.put {w0 w:World} {e b:Nat} {v:Value} {ds:List (List Byte)} (h:NwD w0 w e v ds) (o:Obj) (hb:∀ c,blockOf v=some c→c≠b) (ho:fzO o=false:=by rfl):NwD w0 (V.put w b o) e v ds :=
 h.fr ((Fr.refl (fun c=>c=b) w).put o (fun _=>rfl) ho) fun c hc hcb=>hb c hc hcb
namespace R
def epI (w0:World) (width:Int) (b3:Nat) (n:Nat) (vs:List Value) (w:World):Prop :=
 ∃ i v,vs=[.int .i64 width,pt b3 0,v,.int .i64 (i:Nat)]∧i≤256∧n=256 - i∧NwD w0 w 23 v (empts width (i+1))∧w.heap[b3]?=some (.cells (bl (emptD width i)) 23 (0,0))∧w0.heap.size≤b3∧(∀ b,blockOf v=some b→b≠b3)∧No w0 w
theorem empts_succ (width:Int) (n:Nat):empts width (n+1)=empts width n++[emptD width n]:=by simp[empts,List.range_succ]
theorem empts_all (width:Int) (n:Nat):All32 (empts width n):=fun d hd=>by
 obtain⟨i,_,rfl⟩:=List.mem_map.1 hd;exact emptD_len _ _
set_option maxHeartbeats 1000000 in
theorem empties (w0:World) (ht:Tabs w0) (width:Int):Fn Tryz.prog 57 #[.int .i64 width] w0 fun v w'=>NwD w0 w' 23 v (empts width 257)∧No w0 w':=by
 refine Tryz.go57 (by simp) ?_
 simp -implicitDefEqProofs only[go_sem,Nat.reduceEqDiff,Tryz.f57]
 refine contL_is (v:=.slice (some ⟨w0.heap.size,0,none⟩) 1 1) (w':=w0.alloc (.cells (bl [2]) 5)) rfl ?_
 simp -implicitDefEqProofs only[go_sem,Nat.reduceEqDiff]
 have f1:No w0 (w0.alloc (.cells (bl [2]) 5)):=(Fr.refl _ _).alloc _
 have b1:NwB w0 (w0.alloc (.cells (bl [2]) 5)) (.slice (some ⟨w0.heap.size,0,none⟩) 1 1) [2]:=mk_nw w0 w0 5 1 1 1 (bl [2]) (Nat.le_refl _) rfl (Nat.le_refl _)
 refine contL_call Tryz.pl99 ((rcut _ (ht.no f1) width b1.by (by simp)).mono ?_);rintro _ w2 ⟨rfl,f2⟩
 have he:hcut width [2]=emptD width 0:=rfl
 rw[he]
 have q:=wr_d Tryz.sz23 (alloc_blk_new w2 (.cells (bl (List.replicate 32 0)) 23)) zl32 (emptD_len width 0)
 have k3:=put_at (o:=.cells (bl (emptD width 0)) 23 (0,0)) (alloc_blk_new w2 (.cells (bl (List.replicate 32 0)) 23))
 have f3:No w0 (put (w2.alloc (.cells (bl (List.replicate 32 0)) 23)) w2.heap.size (.cells (bl (emptD width 0)) 23 (0,0))):=((f1.trans f2).alloc _).put (b:=w2.heap.size) _ fun h=>by have:=f1.size;have:=f2.size;omega
 have z3:w0.heap.size≤w2.heap.size:=(f1.trans f2).size
 have hr:=rd_d Tryz.agg23 Tryz.sz23 k3 (emptD_len width 0)
 have hd0:=emptD_len width 0
 simp -implicitDefEqProofs only[go_sem,Nat.reduceEqDiff,Value.cells,bl_zero,q,hr]
 generalize hW3:put (w2.alloc (.cells (bl (List.replicate 32 0)) 23)) w2.heap.size (.cells (bl (emptD width 0)) 23 (0,0))=w3 at *
 have hsz:w3.heap.size=w2.heap.size+1:=by rw[← hW3];simp[put]
 have hy:List.map u8 (List.replicate 32 0)=List.replicate 32 (u8 0):=List.map_replicate
 refine contL_is (v:=.slice (some ⟨w2.heap.size+1,0,none⟩) 1 1) (w':=w3.alloc (.cells (bl (emptD width 0)) 23)) (fill_one (z:=List.replicate 32 (u8 0)) (y:=List.map u8 (List.replicate 32 0)) (c:=bl (List.replicate 32 0)) List.length_replicate (by rw[bl_size,List.length_replicate]) hd0 hy _) ?_
 have b4:NwD w0 (w3.alloc (.cells (bl (emptD width 0)) 23)) 23 (.slice (some ⟨w2.heap.size+1,0,none⟩) 1 1) (empts width (0+1)):=by
  rw[← hsz];exact NwD.one hd0 f3.size
 have f4:=f3.alloc (.cells (bl (emptD width 0)) 23)
 have k4:=alloc_at (o:=.cells (bl (emptD width 0)) 23) k3
 generalize w3.alloc (.cells (bl (emptD width 0)) 23)=w4 at *
 simp -implicitDefEqProofs only[go_sem,Nat.reduceEqDiff]
 refine loopD [0,3,4,5] (epI w0 width w2.heap.size) 256 ⟨0,.slice (some ⟨w2.heap.size+1,0,none⟩) 1 1,rfl,by omega,rfl,b4,k4,z3,fun b hb=>by simp only[blockOf,Option.some.injEq] at hb;omega,f4⟩ ?_
 rintro _ vs w5 g ⟨i,v,rfl,hi,rfl,b5,k5,z5,n5,f5⟩
 by_cases hlt:i<256
 ·have d1:decide ((i:Int)<256)=true:=by simp;omega
  have c1:IntKind.i64.wrap ((i:Int)+1)=((i+1:Nat):Int):=i64add (b:=1) (by omega)
  have hdi:=emptD_len width i
  have r:=rd_d Tryz.agg23 Tryz.sz23 k5 hdi
  simp -implicitDefEqProofs only[go_sem,Nat.reduceEqDiff,d1,r]
  refine contL_call Tryz.pl100 ((branch w5 (ht.no f5) width hdi hdi).mono ?_);rintro _ w6 ⟨rfl,f6⟩
  have he:branchD width (emptD width i) (emptD width i)=emptD width (i+1):=rfl
  rw[he]
  have k6:=f6.at k5 id
  have hdj:=emptD_len width (i+1)
  have q:=wr_d Tryz.sz23 k6 hdi hdj
  have k7:=put_at (o:=.cells (bl (emptD width (i+1))) 23 (0,0)) k6
  have r7:=rd_d Tryz.agg23 Tryz.sz23 k7 hdj
  have f7:No w0 (put w6 w2.heap.size (.cells (bl (emptD width (i+1))) 23 (0,0))):=(f5.trans f6).put (b:=w2.heap.size) _ fun h=>by omega
  have b7:=(b5.fr0 f6).put (.cells (bl (emptD width (i+1))) 23 (0,0)) n5
  simp -implicitDefEqProofs only[go_sem,Nat.reduceEqDiff,Value.cells,bl_zero,q,r7]
  have hs7:(put w6 w2.heap.size (.cells (bl (emptD width (i+1))) 23 (0,0))).heap.size=w6.heap.size:=by simp[put]
  generalize put w6 w2.heap.size (.cells (bl (emptD width (i+1))) 23 (0,0))=w7 at *
  rw[← hs7]
  refine contL_is (v:=.slice (some ⟨w7.heap.size,0,none⟩) 1 1) (w':=w7.alloc (.cells (bl (emptD width (i+1))) 23)) (fill_one (z:=List.replicate 32 (u8 0)) (y:=List.map u8 (List.replicate 32 0)) (c:=bl (List.replicate 32 0)) List.length_replicate (by rw[bl_size,List.length_replicate]) hdj hy _) ?_
  obtain⟨v8,w8,hr8,b8,f8,g8,h8⟩:=b7.push Tryz.app94_94 hdj (by rw[empts_len];omega) f7
  rw[← empts_succ] at b8
  simp -implicitDefEqProofs only[go_sem,Nat.reduceEqDiff]
  refine contL_sem ⟨v8,w8,hr8,?_⟩
  simp -implicitDefEqProofs only[go_sem,Nat.reduceEqDiff,c1]
  refine⟨256 - (i+1),by omega,i+1,v8,rfl,by omega,rfl,b8,g8.at k7 fun h=>n5 _ h rfl,z3,fun b hb=>?_,f8⟩
  rcases h8 b hb with h | h
  ·exact n5 b h
  ·have:=heap_lt k7;omega
 ·have d1:decide ((i:Int)<256)=false:=by simp;omega
  have e:i=256:=by omega
  subst e
  simp -implicitDefEqProofs only[go_sem,Nat.reduceEqDiff,d1]
  exact⟨b5,f5⟩
end R
end Go.V
end
section
namespace Go.V
open Go.Proofs Sha
set_option maxRecDepth 100000
/-- a bit as a number -/
def kb (k:Bs) (i:Nat):Int:=if kbit k i then 1 else 0
theorem kb_div (k:Bs) (i:Nat):(((k.getD (i / 8) 0).toNat / 2 ^ (7 - i % 8) % 2:Nat):Int)=kb k i:=by
 unfold kb kbit
 have:(k.getD (i / 8) 0).getLsbD (7 - i % 8)=decide ((k.getD (i / 8) 0).toNat / 2 ^ (7 - i % 8) % 2=1):=by
  show Nat.testBit _ _=_
  rw[Nat.testBit_eq_decide_div_mod_eq]
 rw[this]
 have h2:(k.getD (i / 8) 0).toNat / 2 ^ (7 - i % 8) % 2<2:=Nat.mod_lt _ (by decide)
 split
 ·rename_i h;rw[of_decide_eq_true h];rfl
 ·rename_i h
  have:¬ ((k.getD (i / 8) 0).toNat / 2 ^ (7 - i % 8) % 2=1):=fun e=>h (decide_eq_true e)
  have:(k.getD (i / 8) 0).toNat / 2 ^ (7 - i % 8) % 2=0:=by omega
  rw[this];rfl
theorem shr64i (a k:Nat) (hk:k≤64):shrK .i64 (a:Int) (k:Int)=((a / 2 ^ k:Nat):Int):=by
 have e:shrK .i64 (a:Int) (k:Int)=(a:Int).fdiv (2 ^ (min ((k:Nat):Int).toNat 64)):=rfl
 rw[e,Int.toNat_natCast,Nat.min_eq_left hk,fdivn]
theorem shr8i (a k:Nat) (hk:k≤8):shrK .u8 (a:Int) (k:Int)=((a / 2 ^ k:Nat):Int):=by
 have e:shrK .u8 (a:Int) (k:Int)=(a:Int).fdiv (2 ^ (min ((k:Nat):Int).toNat 8)):=rfl
 rw[e,Int.toNat_natCast,Nat.min_eq_left hk,fdivn]
theorem and64i (a b:Nat) (ha:a<2 ^ 62) (hb:b<2 ^ 62):andK .i64 (a:Int) (b:Int)=((a &&& b:Nat):Int):=by
 have e:andK .i64 (a:Int) (b:Int)=IntKind.i64.wrap (((BitVec.ofInt 64 (a:Int) &&& BitVec.ofInt 64 (b:Int)).toNat:Nat):Int):=rfl
 rw[e,BitVec.ofInt_natCast,BitVec.ofInt_natCast,BitVec.toNat_and,BitVec.toNat_ofNat,BitVec.toNat_ofNat,Nat.mod_eq_of_lt (by omega),Nat.mod_eq_of_lt (by omega)]
 exact i64n (by have:=Nat.and_le_left (n:=a) (m:=b);omega)
theorem and64m (a k:Nat) (ha:a<2 ^ 62) (hk:k<62):andK .i64 (a:Int) ((2 ^ k - 1:Nat):Int)=((a % 2 ^ k:Nat):Int):=by
 have:2 ^ k<2 ^ 62:=Nat.pow_lt_pow_right (by decide) hk
 rw[and64i a _ ha (by omega),Nat.and_two_pow_sub_one_eq_mod]
theorem and64_7 (a:Nat) (ha:a<2 ^ 62):andK .i64 (a:Int) 7=((a % 8:Nat):Int):=and64m a 3 ha (by decide)
theorem and64_1 (a:Nat) (ha:a<2 ^ 62):andK .i64 (a:Int) 1=((a % 2:Nat):Int):=and64m a 1 ha (by decide)
theorem xor8 (x y:Byte):xorK .u8 (x.toNat:Int) (y.toNat:Int)=((x ^^^ y).toNat:Int):=by
 have e:xorK .u8 (x.toNat:Int) (y.toNat:Int)=IntKind.u8.wrap (((BitVec.ofInt 8 (x.toNat:Int) ^^^ BitVec.ofInt 8 (y.toNat:Int)).toNat:Nat):Int):=rfl
 rw[e,BitVec.ofInt_natCast,BitVec.ofInt_natCast,BitVec.ofNat_toNat,BitVec.ofNat_toNat,BitVec.setWidth_eq,BitVec.setWidth_eq];exact w8_toNat _
namespace R
def biI (w0:World) (x j0:Nat) (n:Nat) (vs:List Value) (w:World):Prop :=
 ∃ j,vs=[.int .i64 ((x / 2 ^ (j - j0):Nat):Int),.int .i64 (j:Nat)]∧j0≤j∧j≤7∧n=7 - j∧No w0 w
theorem bit (w0:World) {k:Bs} (hk:k.length=32) {i:Nat} (hi:i<256):Fn Tryz.prog 165 #[dg k,.int .i64 (i:Nat)] w0 fun v w'=>v=.int .i64 (kb k i)∧No w0 w':=by
 refine Tryz.go165 (by simp) ?_
 have f1:No w0 (w0.alloc (.cells (bl k) 34)):=(Fr.refl _ _).alloc _
 have k1:(w0.alloc (.cells (bl k) 34)).heap[w0.heap.size]?=some (.cells (bl k) 34 (0,0)):=alloc_blk_new _ _
 have n0:((8:Int)=0)=False:=by simp
 have n2:((2:Int)=0)=False:=by simp
 have a1:IntKind.i64.wrap ((i:Int).tdiv 8)=((i / 8:Nat):Int):=by
  rw[show (i:Int).tdiv 8=((i / 8:Nat):Int) from rfl];exact i64n (by omega)
 have a2:(i:Int).tmod 8=((i % 8:Nat):Int):=rfl
 have y:(0:Int)≤((i / 8:Nat):Int)∧((i / 8:Nat):Int)<((32:Nat):Int):=by omega
 have r:rdO Tryz.prog 5 (w0.alloc (.cells (bl k) 34)) w0.heap.size (i / 8)=some (.int .u8 ((k.getD (i / 8) 0).toNat:Int)):=rd1 Tryz.agg5 k1 (bl_at (by omega))
 have c1:IntKind.i64.wrap ((k.getD (i / 8) 0).toNat:Int)=((k.getD (i / 8) 0).toNat:Int):=i64n (by have:=(k.getD (i / 8) 0).isLt;omega)
 have hkb:=kb_div k i
 have hx:(k.getD (i / 8) 0).toNat<256:=(k.getD (i / 8) 0).isLt
 simp -implicitDefEqProofs only[go_sem,Nat.reduceEqDiff,Tryz.f165,Value.cells,n0,a1,a2,y,and_self,Int.toNat_natCast,Nat.mul_one,r,c1]
 generalize (k.getD (i / 8) 0).toNat=x at *
 refine loopD [5,6] (biI w0 x (i % 8)) (7 - i % 8) ⟨i % 8,by rw[Nat.sub_self,Nat.pow_zero,Nat.div_one];rfl,Nat.le_refl _,by omega,rfl,f1⟩ ?_
 rintro _ vs w1 g ⟨j,rfl,h1,h2,rfl,f2⟩
 have hq:x / 2 ^ (j - i % 8)≤x:=Nat.div_le_self _ _
 by_cases hlt:j<7
 ·have d1:decide ((j:Int)<7)=true:=by simp;omega
  have c2:IntKind.i64.wrap ((j:Int)+1)=((j+1:Nat):Int):=i64add (b:=1) (by omega)
  have c3:IntKind.i64.wrap (((x / 2 ^ (j - i % 8):Nat):Int).tdiv 2)=((x / 2 ^ (j+1 - i % 8):Nat):Int):=by
   rw[show ((x / 2 ^ (j - i % 8):Nat):Int).tdiv 2=((x / 2 ^ (j - i % 8) / 2:Nat):Int) from rfl,Nat.div_div_eq_div_mul,← Nat.pow_succ,show (j - i % 8).succ=j+1 - i % 8 by omega]
   exact i64n (by have:=Nat.div_le_self x (2 ^ (j+1 - i % 8));omega)
  simp -implicitDefEqProofs only[go_sem,Nat.reduceEqDiff,d1,n2,c2,c3]
  exact⟨7 - (j+1),by omega,j+1,rfl,by omega,by omega,rfl,f2⟩
 ·have d1:decide ((j:Int)<7)=false:=by simp;omega
  have e:j=7:=by omega
  subst e
  have c3:(((x / 2 ^ (7 - i % 8):Nat):Int).tmod 2)=kb k i:=hkb
  simp -implicitDefEqProofs only[go_sem,Nat.reduceEqDiff,d1,n2,c3]
  exact f2
theorem bit3 (w0:World) {k:Bs} (hk:k.length=32) {i:Nat} (hi:i<256):Fn Tryz.prog 166 #[dg k,.int .i64 (i:Nat)] w0 fun v w'=>v=.int .i64 (kb k i)∧No w0 w':=by
 refine Tryz.go166 (by simp) ?_
 have f1:No w0 (w0.alloc (.cells (bl k) 34)):=(Fr.refl _ _).alloc _
 have k1:(w0.alloc (.cells (bl k) 34)).heap[w0.heap.size]?=some (.cells (bl k) 34 (0,0)):=alloc_blk_new _ _
 have n0:((8:Int)=0)=False:=by simp
 have n2:((2:Int)=0)=False:=by simp
 have a1:IntKind.i64.wrap ((i:Int).tdiv 8)=((i / 8:Nat):Int):=by
  rw[show (i:Int).tdiv 8=((i / 8:Nat):Int) from rfl];exact i64n (by omega)
 have a2:(i:Int).tmod 8=((i % 8:Nat):Int):=rfl
 have y:(0:Int)≤((i / 8:Nat):Int)∧((i / 8:Nat):Int)<((32:Nat):Int):=by omega
 have r:rdO Tryz.prog 5 (w0.alloc (.cells (bl k) 34)) w0.heap.size (i / 8)=some (.int .u8 ((k.getD (i / 8) 0).toNat:Int)):=rd1 Tryz.agg5 k1 (bl_at (by omega))
 have c1:IntKind.i64.wrap ((k.getD (i / 8) 0).toNat:Int)=((k.getD (i / 8) 0).toNat:Int):=i64n (by have:=(k.getD (i / 8) 0).isLt;omega)
 have hkb:=kb_div k i
 have hx:(k.getD (i / 8) 0).toNat<256:=(k.getD (i / 8) 0).isLt
 have z1:decide ((i:Int)<0)=false:=by simp
 have z2:decide ((i:Int) > 255)=false:=by simp;omega
 simp -implicitDefEqProofs only[go_sem,Nat.reduceEqDiff,gLa,gLz,gLs,beq_self_eq_true,bne_self_eq_false,Tryz.f166,Value.cells,z1,z2,n0,a1,a2,y,and_self,Int.toNat_natCast,Nat.mul_one,r,c1]
 generalize (k.getD (i / 8) 0).toNat=x at *
 refine loopD [5,6] (biI w0 x (i % 8)) (7 - i % 8) ⟨i % 8,by rw[Nat.sub_self,Nat.pow_zero,Nat.div_one];rfl,Nat.le_refl _,by omega,rfl,f1⟩ ?_
 rintro _ vs w1 g ⟨j,rfl,h1,h2,rfl,f2⟩
 have hq:x / 2 ^ (j - i % 8)≤x:=Nat.div_le_self _ _
 by_cases hlt:j<7
 ·have d1:decide ((j:Int)<7)=true:=by simp;omega
  have c2:IntKind.i64.wrap ((j:Int)+1)=((j+1:Nat):Int):=i64add (b:=1) (by omega)
  have c3:IntKind.i64.wrap (((x / 2 ^ (j - i % 8):Nat):Int).tdiv 2)=((x / 2 ^ (j+1 - i % 8):Nat):Int):=by
   rw[show ((x / 2 ^ (j - i % 8):Nat):Int).tdiv 2=((x / 2 ^ (j - i % 8) / 2:Nat):Int) from rfl,Nat.div_div_eq_div_mul,← Nat.pow_succ,show (j - i % 8).succ=j+1 - i % 8 by omega]
   exact i64n (by have:=Nat.div_le_self x (2 ^ (j+1 - i % 8));omega)
  simp -implicitDefEqProofs only[go_sem,Nat.reduceEqDiff,d1,n2,c2,c3]
  exact⟨7 - (j+1),by omega,j+1,rfl,by omega,by omega,rfl,f2⟩
 ·have d1:decide ((j:Int)<7)=false:=by simp;omega
  have e:j=7:=by omega
  subst e
  have c3:(((x / 2 ^ (7 - i % 8):Nat):Int).tmod 2)=kb k i:=hkb
  simp -implicitDefEqProofs only[go_sem,Nat.reduceEqDiff,d1,n2,c3]
  exact f2
end R
theorem bbit (w0:World) {k:Bs} (hk:k.length=32) {i:Nat} (hi:i<256):Fn Tryz.prog 92 #[dg k,.int .i64 (i:Nat)] w0 fun v w'=>v=.int .i64 (kb k i)∧No w0 w':=by
 refine Tryz.go92 (by simp) ?_
 have f1:No w0 (w0.alloc (.cells (bl k) 34)):=(Fr.refl _ _).alloc _
 have k1:(w0.alloc (.cells (bl k) 34)).heap[w0.heap.size]?=some (.cells (bl k) 34 (0,0)):=alloc_blk_new _ _
 have z1:decide ((i:Int)<0)=false:=by simp
 have z2:decide ((i:Int) ≥ 256)=false:=by simp;omega
 have a1:shrK .i64 (i:Int) 3=((i / 8:Nat):Int):=shr64i i 3 (by omega)
 have a2:andK .i64 (i:Int) 7=((i % 8:Nat):Int):=and64_7 i (by omega)
 have a3:IntKind.i64.wrap (7 - ((i % 8:Nat):Int))=((7 - i % 8:Nat):Int):=i64sub (a:=7) (b:=i % 8) (by omega) (by omega)
 have n1:¬ ((3:Int)<0):=by omega
 have n2:¬ (((7 - i % 8:Nat):Int)<0):=by omega
 have y:(0:Int)≤((i / 8:Nat):Int)∧((i / 8:Nat):Int)<((32:Nat):Int):=by omega
 have r:rdO Tryz.prog 5 (w0.alloc (.cells (bl k) 34)) w0.heap.size (i / 8)=some (.int .u8 ((k.getD (i / 8) 0).toNat:Int)):=rd1 Tryz.agg5 k1 (bl_at (by omega))
 have hkb:=kb_div k i
 have hx:(k.getD (i / 8) 0).toNat<256:=(k.getD (i / 8) 0).isLt
 generalize (k.getD (i / 8) 0).toNat=x at *
 have a4:shrK .u8 (x:Int) ((7 - i % 8:Nat):Int)=((x / 2 ^ (7 - i % 8):Nat):Int):=shr8i x _ (by omega)
 have hq:x / 2 ^ (7 - i % 8)≤x:=Nat.div_le_self _ _
 have a5:IntKind.i64.wrap ((x / 2 ^ (7 - i % 8):Nat):Int)=((x / 2 ^ (7 - i % 8):Nat):Int):=i64n (by omega)
 have a6:andK .i64 ((x / 2 ^ (7 - i % 8):Nat):Int) 1=kb k i:=by rw[← hkb];exact and64_1 _ (by omega)
 simp -implicitDefEqProofs only[go_sem,Nat.reduceEqDiff,gLa,gLz,gLs,beq_self_eq_true,bne_self_eq_false,Tryz.f92,Value.cells,z1,z2,a1,a2,a3,n1,n2,y,and_self,Int.toNat_natCast,Nat.mul_one,r,a4,a5,a6]
 exact f1
end Go.V
end
