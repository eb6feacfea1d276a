/- Helpers. -/
import Derived.Test.YtppmpdjlmgfdkaaGreatDoorB12
import Derived.Test.YtppmpdjlmgfdkaaGreatDoorB08
set_option linter.all false
set_option maxRecDepth 100000
set_option maxHeartbeats 8000000
open BitVec renaming ofInt_natCast->xW,eq_of_toNat_eq->yP,ofInt->qQ,toNat_ofNat->zZ,setWidth_eq->xY,ofNat_toNat->xU,getLsbD_xor->xG
open List renaming replicate->zK,ext_getElem->yR,getElem_range->yZ,getElem_map->zE,append_assoc->zJ,append_nil->zO,take_zero->j5,take_of_length_le->zG
open Nat renaming reduceEqDiff->yJ,mul_one->yK,le_refl->xC,testBit_eq_decide_div_mod_eq->yT,div_div_eq_div_mul->yL,div_le_self->yC,pow_succ->yS,mod_eq_of_lt->yE,testBit_div_two_pow->yI,testBit_lt_two_pow->yO,pow_le_pow_right->y6
open Option renaming map_some->qK
open Go.Value renaming cells->yN
namespace Go.V
open Go.Proofs.Tryz Go.V.Tryz
open Go.Proofs Sha
variable {a b d k l r val:Bs} {e i z:Nat} {v vv:Value} {w w0:World}
namespace R
def cutK (w:Int)(d:Bs)(k:Nat):Bs:=(List.range 32).map fun (i:Nat)=>if i<k/\¬ ((i:Int)<w) then 0 else d.getD i 0
theorem qVf (w:Int)(d:Bs)(k:Nat):(cutK w d k).length=32:=by simp[cutK]
theorem cutK_zero (w:Int)(h:d.length=32):cutK w d 0=d:=by
 refine yR (by rw[qVf,h]) fun i B A=>?_;simp only[cutK,zE,yZ];rw[if_neg om,qQt 0 A]
theorem cutK_all (w:Int)(d:Bs):cutK w d 32=cutD w d:=by
 refine yR (by rw[qVf,qZi]) fun i A B=>?_;rw[qVf]at A;simp only[cutK,cutD,zE,yZ]
 by_cases h:(i:Int)<w
 ·rw[if_neg (by simp[h]),if_pos h]
 ·rw[if_pos ⟨A,h⟩,if_neg h]
theorem cutK_keep (w:Int)(d:Bs){k:Nat}(h:(k:Int)<w):cutK w d (k+1)=cutK w d k:=by
 refine yR (by rw[qVf,qVf]) fun i B E=>?_;simp only[cutK,zE,yZ]
 by_cases hi:i=k
 ·subst hi;rw[if_neg (by simp[h]),if_neg om]
 ·by_cases A:i<k
  ·simp[A,show i<k+1 by omega]
  ·rw[if_neg om,if_neg om]
theorem cutK_set (w:Int)(d:Bs){k:Nat}(h:¬ ((k:Int)<w))(B:k<32):(cutK w d k).set k 0=cutK w d (k+1):=by
 refine yR (by rw[List.length_set,qVf,qVf]) fun i E H=>?_;rw[List.getElem_set];simp only[cutK,zE,yZ]
 by_cases hi:k=i
 ·subst hi;rw[if_pos rfl,if_pos ⟨om,h⟩]
 ·rw[if_neg hi]
  by_cases A:i<k
  ·simp[A,show i<k+1 by omega]
  ·rw[if_neg om,if_neg om]
def ctI (w0:World)(width:Int)(d:Bs)(n:Nat)(vs:List Value)(w:World):Prop :=
 ∃ i,vs=[.int .i64 width,pt w0.heap.size 0,pt (w0.heap.size+1) 0,.int .i64 (i:Nat)]/\i<=32/\n=32 - i/\w.heap[w0.heap.size]?=some (.cells (bl (cutK width d i)) 75 (0,0)) /\
  w.heap[w0.heap.size+1]?=some (.cells (bl (zK 32 0)) 75 (0,0))/\No w0 w
theorem dcut (w0:World)(width:Int)(N:d.length=32) :
  Fn prog 133 #[dg d,.int .i64 width] w0 fun v w'=>v=dg (cutD width d)/\No w0 w':=by
 refine go133 sm ?_;have O:No w0 ((w0.alloc (.cells (bl d) 75)).alloc (.cells (bl (zK 32 0)) 75)):=((Fr.refl _ _).alloc _).alloc _;have R:((w0.alloc (.cells (bl d) 75)).alloc (.cells (bl (zK 32 0)) 75)).heap[w0.heap.size]?=some (.cells (bl d) 75 (0,0)):=qQs (qQb _ _)
 have T:((w0.alloc (.cells (bl d) 75)).alloc (.cells (bl (zK 32 0)) 75)).heap[w0.heap.size+1]?=some (.cells (bl (zK 32 0)) 75 (0,0)):=by
  have:=qQb (w0.alloc (.cells (bl d) 75)) (.cells (bl (zK 32 0)) 75);rw[qQf]at this;exact this
 simp only[go_sem,Tryz.f133,yN,qQk];refine loopD [1,2,4,5] (ctI w0 width d) 32 ⟨0,rfl,om,rfl,by rw[cutK_zero width N];exact R,T,O⟩ ?_;rintro _ vs L g ⟨i,rfl,hi,rfl,A,E,I⟩
 by_cases B:i<32
 ·have H:=dTo ((i:Int)<32)
  have c1:=iSu (i:=i)
  by_cases M:(i:Int)<width
  ·have J:=dFo ((i:Int) ≥ width)
   rw[<- cutK_keep width d M]at A;simp only[go_sem,yJ,H,J,c1];exact⟨32 - (i+1),om,i+1,rfl,om,rfl,A,E,I⟩
  ·have J:=dTo ((i:Int) ≥ width)
   have y:=iBd (i:=i) (n:=32);have q:=wr1 (P:=prog) (t:=5) (v:=u8 0) (o:=i) sz5 rfl A (by rw[qXj,qVf];exact B);rw[bl_set,cutK_set width d M B]at q
   replace q:wrO prog 5 L w0.heap.size i (.int .u8 0)=some (put L w0.heap.size (.cells (bl (cutK width d (i+1))) 75 (0,0))):=q
   simp only[go_sem,yJ,H,J,y,and_self,iTn,yK,q,c1];exact⟨32 - (i+1),om,i+1,rfl,om,rfl,qQd A,qQi E om,I.put (b:=w0.heap.size) _ fun h=>absurd h (Nat.lt_irrefl _)⟩
 ·have H:=dFo ((i:Int)<32)
  have e:i=32:=om
  subst e;rw[cutK_all]at A;have r:=rd_d agg75 sz75 A (qZi width d);have q:=wr_d sz75 E zl32 (qZi width d);have U:=rd_d agg75 sz75 (qQd (o:=.cells (bl (cutD width d)) 75 (0,0)) E) (qZi width d);generalize cutD width d=d' at *;simp only[go_sem,yJ,H,r,q,U];exact I.put (b:=w0.heap.size+1) _ fun h=>by omega
theorem within (w0:World)(n lo hi:Int)(h:lo<=hi):Fn prog 168 #[.int .i64 n,.int .i64 lo,.int .i64 hi] w0 fun v w'=>v=.int .i64 (max lo (min n hi))/\w'=w0:=by
 refine go168 sm ?_
 by_cases E:n<lo
 ·have A:decide (n<lo)=true:=by simpa using E
  simp only[go_sem,yJ,Tryz.f168,A];exact⟨by rw[show max lo (min n hi)=lo by omega],trivial⟩
 ·have A:decide (n<lo)=false:=by simpa using E
  by_cases H:n > hi
  ·have B:decide (n > hi)=true:=by simpa using H
   simp only[go_sem,yJ,Tryz.f168,A,B];exact⟨by rw[show max lo (min n hi)=hi by omega],trivial⟩
  ·have B:decide (n > hi)=false:=by simpa using H
   simp only[go_sem,yJ,Tryz.f168,A,B];exact⟨by rw[show max lo (min n hi)=n by omega],trivial⟩
theorem rcut (w0:World)(O:Tabs w0)(width:Int){L:Value}{t:Bs}(R:By w0 L t)(T:t.length<=1099511627776) :
  Fn prog 95 #[L,.int .i64 width] w0 fun v w'=>v=dg (hcut width t)/\No w0 w':=by
 refine go95 sm ?_;have H:No w0 (w0.alloc (.cells (bl (zK 32 0)) 75)):=(Fr.refl _ _).alloc _;have U:(w0.alloc (.cells (bl (zK 32 0)) 75)).heap[w0.heap.size]?=some (.cells (bl (zK 32 0)) 75 (0,0)):=qQb _ _;simp only[go_sem,yJ,Tryz.f95,yN,qQk];generalize w0.alloc (.cells (bl (zK 32 0)) 75)=W at *;refine qQa pl132 ((sum_ref W (O.no H) (R.fr0 H) T).mono ?_);rintro _ A ⟨rfl,I⟩;have q:=wr_d sz75 (qQb A (.cells (bl (zK 32 0)) 75)) zl32 (sum_len t);have V:=rd_d agg75 sz75 (qQd (o:=.cells (bl (Sha.sum t)) 75 (0,0)) (qQb A (.cells (bl (zK 32 0)) 75))) (sum_len t);have B:=I.at U id;have Y:(put (A.alloc (.cells (bl (zK 32 0)) 75)) A.heap.size (.cells (bl (Sha.sum t)) 75 (0,0))).heap[w0.heap.size]?=some (.cells (bl (zK 32 0)) 75 (0,0)):=qQi (qQs B) (by have:=qQh B;omega);have Z:No w0 (put (A.alloc (.cells (bl (zK 32 0)) 75)) A.heap.size (.cells (bl (Sha.sum t)) 75 (0,0))):=((H.trans I).alloc _).put (b:=A.heap.size) _ fun h=>by have:=H.size;have:=I.size;omega
 have J:=sum_len t;have E:(hcut width t).length=32:=hcut_len _ _;have he:cutD width (Sha.sum t)=hcut width t:=rfl;generalize Sha.sum t=s at *;simp only[go_sem,yJ,yN,qQk,q,V];generalize put (A.alloc (.cells (bl (zK 32 0)) 75)) A.heap.size (.cells (bl s) 75 (0,0))=w3 at *;refine qQa pl133 ((dcut w3 width J).mono ?_);rintro _ w4 ⟨rfl,M⟩;rw[he];have N:=M.at Y id;have q2:=wr_d sz75 N zl32 E;have r2:=rd_d agg75 sz75 (qQd (o:=.cells (bl (hcut width t)) 75 (0,0)) N) E;generalize hcut width t=d' at *;simp only[go_sem,yJ,q2,r2];exact (Z.trans M).put (b:=w0.heap.size) _ fun h=>absurd h (Nat.lt_irrefl _)
def ltI (w0:World)(k:Bs)(vv:Value)(n:Nat)(vs:List Value)(w:World):Prop :=
 ∃ i v,vs=[vv,pt w0.heap.size 0,v,.int .i64 (i:Nat)]/\i<=32/\n=32 - i/\NwB w0 w v (0::k.take i)/\w.heap[w0.heap.size]?=some (.cells (bl k) 76 (0,0))/\(∀ b,qQc v=some b->b≠w0.heap.size)/\No w0 w
def ltJ (w0:World)(k val:Bs)(vv:Value)(n:Nat)(vs:List Value)(w:World):Prop :=
 ∃ i v,vs=[vv,v,.int .i64 (i:Nat)]/\i<=val.length/\n=val.length - i/\NwB w0 w v (0::k++val.take i)/\No w0 w
theorem qXt (h:i<l.length):l.take i++[l.getD i 0]=l.take (i+1):=qKw (by rw[List.getElem?_eq_getElem h,qQt 0 h])
theorem NwB.grow {bs:Bs}(B:NwB w0 w v bs)(x:Byte)(M:bs.length<=70000000000000)(f:No w0 w) :
  ∃ A w',(Builtin.append_ #[22,22] 0 #[v,.slice (some ⟨w.heap.size,0,none⟩) 1 1]).run prog (w.alloc (.cells (bl [x]) 5))=.ok A w'/\NwB w0 w' A (bs++[x])/\No w0 w'/\Fr (fun b=>qQc v=some b) w w' /\
   ∀ b,qQc A=some b->qQc v=some b∨w.heap.size<=b:=by
 obtain⟨A,w',E,H,I,J,L⟩:=app_fresh app22_22 B (m:=1) (xs:=bl [x]) sm rfl om (bd47 om) om f;refine⟨A,w',E,?_,I,J,L⟩;unfold NwB;rw[lAp,List.map_append];exact H
theorem leafText (w0:World)(hk:k.length=32)(hv:By w0 vv val)(hl:val.length<=549755813888) :
  Fn prog 172 #[dg k,vv] w0 fun v w'=>NwB w0 w' v (leafT k val)/\No w0 w':=by
 refine go172 sm ?_;have V:No w0 (w0.alloc (.cells (bl k) 76)):=(Fr.refl _ _).alloc _;have k1:(w0.alloc (.cells (bl k) 76)).heap[w0.heap.size]?=some (.cells (bl k) 76 (0,0)):=qQb _ _;have z1:(w0.alloc (.cells (bl k) 76)).heap.size=w0.heap.size+1:=qQf _ _;simp only[go_sem,Tryz.f172,yN];generalize w0.alloc (.cells (bl k) 76)=W at *;refine qQm (v:=.slice (some ⟨W.heap.size,0,none⟩) 1 1) (w':=W.alloc (.cells (bl [0]) 5)) (by rw[<- z1];rfl) ?_;simp only[go_sem];have b1:NwB w0 (W.alloc (.cells (bl [0]) 5)) (.slice (some ⟨W.heap.size,0,none⟩) 1 1) (0::k.take 0):=mk_nw w0 W 5 1 1 1 (bl [0]) V.size rfl (xC _);refine loopD [1,2,5,6] (ltI w0 k vv) 32 ⟨0,.slice (some ⟨W.heap.size,0,none⟩) 1 1,rfl,om,rfl,b1,qQs k1,fun b E=>by simp only[qQc,oSi]at E;omega,V.alloc _⟩ ?_;rintro _ vs M g ⟨i,v,rfl,hi,rfl,b2,N,n2,Y⟩
 by_cases A:i<32
 ·have H:=dTo ((i:Int)<32)
  have c1:=iSu (i:=i);have y:=iBd (i:=i) (n:=32);have r:rdO prog 5 M w0.heap.size i=some (u8 (k.getD i 0)):=rd1 agg5 N (bl_at om);have B:=qXt (l:=k) (i:=i) om;obtain⟨O,J,R,I,L,Z,h3⟩:=NwB.grow b2 (k.getD i 0) (by simp;omega) Y;rw[List.cons_append,B]at I;generalize k.getD i 0=x at *;simp only[go_sem,yJ,H,y,and_self,iTn,yK,r];refine qQm (v:=.slice (some ⟨M.heap.size,0,none⟩) 1 1) (w':=M.alloc (.cells (bl [x]) 5)) rfl ?_;simp only[go_sem,yJ];refine qQj ⟨O,J,R,?_⟩;simp only[go_sem,yJ,c1];refine⟨32 - (i+1),om,i+1,O,rfl,om,rfl,I,Z.at N fun h=>n2 _ h rfl,fun b E=>?_,L⟩
  rcases h3 b E with h | h
  ·exact n2 b h
  ·have:=qQh N;omega
 ·have H:=dFo ((i:Int)<32)
  have e:i=32:=om
  subst e;rw[zG om]at b2;simp only[go_sem,yJ,H];refine loopD [1,5,7] (ltJ w0 k val vv) val.length ⟨0,v,rfl,om,rfl,by rw[j5,zO];exact b2,Y⟩ ?_;rintro _ vs J Z ⟨i,O,rfl,hi,rfl,I,L⟩;obtain⟨va,vc,rfl,a0,T⟩:=hv.at
  by_cases A:i<val.length
  ·have H:=dTo ((i:Int)<((val.length:Nat):Int))
   have c1:=iSu (i:=i);have y:=iBd (i:=i) (n:=val.length);obtain⟨b,o,rfl,E⟩:=T i A;have r:rdO prog 5 J b (o+i)=some (u8 (val.getD i 0)):=rd_rc agg5 (by rw[L.rc (rc_lt E) id,E,qQt 0 A]);have B:=qXt (l:=val) (i:=i) A;obtain⟨v4,w4,U,b4,f4,g4,_⟩:=NwB.grow I (val.getD i 0) (by simp;omega) L;rw[zJ,B]at b4;generalize val.getD i 0=x at *;simp only[go_sem,yJ,y,and_self,iTn,yK,r];refine qQm (v:=.slice (some ⟨J.heap.size,0,none⟩) 1 1) (w':=J.alloc (.cells (bl [x]) 5)) rfl ?_;simp only[go_sem,yJ];refine qQj ⟨v4,w4,U,?_⟩;simp only[go_sem,yJ,c1];exact⟨val.length - (i+1),om,i+1,v4,rfl,om,rfl,b4,f4⟩
  ·have H:=dFo ((i:Int)<((val.length:Nat):Int))
   have e:i=val.length:=om
   subst e;rw[List.take_length]at I;simp only[go_sem,yJ,H];exact⟨I,L⟩
def btI (w0:World)(A:Nat)(d l r:Bs)(B:Bs)(E:Nat)(n:Nat)(vs:List Value)(w:World)(keep:Bool):Prop :=
 ∃ i v,vs=(if keep then [pt w0.heap.size 0,pt (w0.heap.size+1) 0,.int .i64 (A:Nat),v,.int .i64 (i:Nat)] else [pt (w0.heap.size+1) 0,.int .i64 (A:Nat),v,.int .i64 (i:Nat)])/\i<=A/\n=A - i/\NwB w0 w v (B++d.take i) /\
  w.heap[w0.heap.size]?=some (.cells (bl l) 75 (0,0))/\w.heap[w0.heap.size+1]?=some (.cells (bl r) 75 (0,0))/\(∀ b,qQc v=some b->w0.heap.size+1<b)/\No w0 w
theorem branchText (w0:World)(width:Int)(hl:l.length=32)(hr:r.length=32) :
  Fn prog 134 #[.int .i64 width,dg l,dg r] w0 fun v w'=>NwB w0 w' v (qWb width l r)/\No w0 w':=by
 refine go134 sm ?_;have f1:No w0 ((w0.alloc (.cells (bl l) 75)).alloc (.cells (bl r) 75)):=((Fr.refl _ _).alloc _).alloc _;have k1:((w0.alloc (.cells (bl l) 75)).alloc (.cells (bl r) 75)).heap[w0.heap.size]?=some (.cells (bl l) 75 (0,0)):=qQs (qQb _ _)
 have j1:((w0.alloc (.cells (bl l) 75)).alloc (.cells (bl r) 75)).heap[w0.heap.size+1]?=some (.cells (bl r) 75 (0,0)):=by
  have:=qQb (w0.alloc (.cells (bl l) 75)) (.cells (bl r) 75);rw[qQf]at this;exact this
 simp only[go_sem,yJ,Tryz.f134,yN];generalize (w0.alloc (.cells (bl l) 75)).alloc (.cells (bl r) 75)=W at *;refine qQa pl168 ((within W width 0 32 x9).mono ?_);rintro _ _ ⟨rfl,rfl⟩;have hw:=wid_le width;rw[widI];rename_i H;simp only[go_sem];refine qQm (v:=.slice (some ⟨H.heap.size,0,none⟩) 1 1) (w':=H.alloc (.cells (bl [1]) 5)) rfl ?_;simp only[go_sem];have b1:NwB w0 (H.alloc (.cells (bl [1]) 5)) (.slice (some ⟨H.heap.size,0,none⟩) 1 1) [1]:=mk_nw w0 H 5 1 1 1 (bl [1]) f1.size rfl (xC _);have hsz:=qQh j1;unfold qWb;generalize wid width=A at *;refine loopD [4,5,7,8,9] (fun n vs w=>btI w0 A l l r [1] 0 n vs w true) A ⟨0,.slice (some ⟨H.heap.size,0,none⟩) 1 1,rfl,om,rfl,by rw[j5,zO];exact b1,qQs k1,qQs j1,fun b I=>by simp only[qQc,oSi]at I;omega,f1.alloc _⟩ ?_;rintro _ vs N g ⟨i,v,rfl,hi,rfl,b2,O,R,n2,f2⟩
 by_cases T:i<A
 ·have B:=dTo ((i:Int)<((A:Nat):Int))
  have c1:=iSu (i:=i);have y:=iBd (i:=i) (n:=32);have U:rdO prog 5 N w0.heap.size i=some (u8 (l.getD i 0)):=rd1 agg5 O (bl_at om);have E:=qXt (l:=l) (i:=i) om;obtain⟨V,J,Y,L,M,Z,h3⟩:=NwB.grow b2 (l.getD i 0) (by simp;omega) f2;rw[zJ,E]at L;generalize l.getD i 0=x at *;simp only[go_sem,yJ,B,y,and_self,iTn,yK,U];refine qQm (v:=.slice (some ⟨N.heap.size,0,none⟩) 1 1) (w':=N.alloc (.cells (bl [x]) 5)) rfl ?_;simp only[go_sem,yJ];refine qQj ⟨V,J,Y,?_⟩;simp only[go_sem,yJ,c1];refine⟨A - (i+1),om,i+1,V,rfl,om,rfl,L,Z.at O fun h=>by have:=n2 _ h;omega,Z.at R fun h=>by have:=n2 _ h;omega,fun b I=>?_,M⟩
  rcases h3 b I with h | h
  ·exact n2 b h
  ·have:=qQh R;omega
 ·have B:=dFo ((i:Int)<((A:Nat):Int))
  have e:i=A:=om
  subst e;simp only[go_sem,yJ,B];refine loopD [5,7,8,10] (fun n vs w=>btI w0 i r l r ([1]++l.take i) 0 n vs w false) i ⟨0,v,rfl,om,rfl,by rw[j5,zO];exact b2,O,R,n2,f2⟩ ?_;rintro _ vs J Z ⟨j,V,rfl,hj,rfl,L,k3,j3,n3,M⟩
  by_cases T:j<i
  ·have B:=dTo ((j:Int)<((i:Nat):Int))
   have c1:=iSu (i:=j);have y:=iBd (i:=j) (n:=32);have U:rdO prog 5 J (w0.heap.size+1) j=some (u8 (r.getD j 0)):=rd1 agg5 j3 (bl_at om);have E:=qXt (l:=r) (i:=j) om;obtain⟨v4,w4,a0,b4,f4,g4,h4⟩:=NwB.grow L (r.getD j 0) (by simp;omega) M;rw[zJ,E]at b4;generalize r.getD j 0=x at *;simp only[go_sem,yJ,B,y,and_self,iTn,yK,U];refine qQm (v:=.slice (some ⟨J.heap.size,0,none⟩) 1 1) (w':=J.alloc (.cells (bl [x]) 5)) rfl ?_;simp only[go_sem,yJ];refine qQj ⟨v4,w4,a0,?_⟩;simp only[go_sem,yJ,c1];refine⟨i - (j+1),om,j+1,v4,rfl,om,rfl,b4,g4.at k3 fun h=>by have:=n3 _ h;omega,g4.at j3 fun h=>by have:=n3 _ h;omega,fun b I=>?_,f4⟩
   rcases h4 b I with h | h
   ·exact n3 b h
   ·have:=qQh j3;omega
  ·have B:=dFo ((j:Int)<((i:Nat):Int))
   have e:j=i:=om
   subst e;simp only[go_sem,yJ,B];exact⟨by simpa using L,M⟩
theorem leaf (w0:World)(J:Tabs w0)(width:Int)(E:k.length=32)(L:By w0 vv val)(M:val.length<=549755813888) :
  Fn prog 144 #[.int .i64 width,dg k,vv] w0 fun v w'=>v=dg (leafD width k val)/\No w0 w':=by
 refine go144 sm ?_;have A:No w0 ((w0.alloc (.cells (bl k) 76)).alloc (.cells (bl (zK 32 0)) 75)):=((Fr.refl _ _).alloc _).alloc _;have N:((w0.alloc (.cells (bl k) 76)).alloc (.cells (bl (zK 32 0)) 75)).heap[w0.heap.size]?=some (.cells (bl k) 76 (0,0)):=qQs (qQb _ _)
 have O:((w0.alloc (.cells (bl k) 76)).alloc (.cells (bl (zK 32 0)) 75)).heap[w0.heap.size+1]?=some (.cells (bl (zK 32 0)) 75 (0,0)):=by
  have:=qQb (w0.alloc (.cells (bl k) 76)) (.cells (bl (zK 32 0)) 75);rw[qQf]at this;exact this
 simp only[go_sem,yJ,Tryz.f144,yN,qQk];generalize (w0.alloc (.cells (bl k) 76)).alloc (.cells (bl (zK 32 0)) 75)=W at *;have R:=rd_d agg76 sz76 N E;simp only[go_sem,yJ,R];refine qQa pl172 ((leafText W E (L.fr0 A) M).mono ?_);rintro U T ⟨b2,B⟩;simp only[go_sem,yJ];refine qQa pl95 ((rcut T ((J.no A).no B) width b2.by (by rw[leafT_len];omega)).mono ?_);rintro _ V ⟨rfl,H⟩;have I:=H.at (B.at O id) id;have e:hcut width (leafT k val)=leafD width k val:=rfl;rw[e];have q:=wr_d sz75 I zl32 (qZp width k val);have r:=rd_d agg75 sz75 (qQd (o:=.cells (bl (leafD width k val)) 75 (0,0)) I) (qZp width k val);generalize leafD width k val=d at q r;simp only[go_sem,yJ,q,r];exact ((A.trans B).trans H).put (b:=w0.heap.size+1) _ fun h=>by omega
theorem branch (w0:World)(M:Tabs w0)(width:Int)(B:l.length=32)(E:r.length=32) :
  Fn prog 96 #[.int .i64 width,dg l,dg r] w0 fun v w'=>v=dg (qXd width l r)/\No w0 w':=by
 refine go96 sm ?_;have H:No w0 (((w0.alloc (.cells (bl l) 75)).alloc (.cells (bl r) 75)).alloc (.cells (bl (zK 32 0)) 75)):=(((Fr.refl _ _).alloc _).alloc _).alloc _;have N:(((w0.alloc (.cells (bl l) 75)).alloc (.cells (bl r) 75)).alloc (.cells (bl (zK 32 0)) 75)).heap[w0.heap.size]?=some (.cells (bl l) 75 (0,0)):=qQs (qQs (qQb _ _))
 have O:(((w0.alloc (.cells (bl l) 75)).alloc (.cells (bl r) 75)).alloc (.cells (bl (zK 32 0)) 75)).heap[w0.heap.size+1]?=some (.cells (bl r) 75 (0,0)):=by
  have:=qQb (w0.alloc (.cells (bl l) 75)) (.cells (bl r) 75);rw[qQf]at this;exact qQs this
 have R:(((w0.alloc (.cells (bl l) 75)).alloc (.cells (bl r) 75)).alloc (.cells (bl (zK 32 0)) 75)).heap[w0.heap.size+1+1]?=some (.cells (bl (zK 32 0)) 75 (0,0)):=by
  have:=qQb ((w0.alloc (.cells (bl l) 75)).alloc (.cells (bl r) 75)) (.cells (bl (zK 32 0)) 75);rw[qQf,qQf]at this;exact this
 simp only[go_sem,yJ,Tryz.f96,yN,qQk];generalize ((w0.alloc (.cells (bl l) 75)).alloc (.cells (bl r) 75)).alloc (.cells (bl (zK 32 0)) 75)=W at *;have T:=rd_d agg75 sz75 N B;have U:=rd_d agg75 sz75 O E;simp only[go_sem,yJ,T,U];refine qQa pl134 ((branchText W width B E).mono ?_);rintro Y V ⟨b2,A⟩;simp only[go_sem,yJ];refine qQa pl95 ((rcut V ((M.no H).no A) width b2.by (by have:=branchT_len width l r;omega)).mono ?_);rintro _ Z ⟨rfl,I⟩;have J:=I.at (A.at R id) id;have e:hcut width (qWb width l r)=qXd width l r:=rfl;rw[e];have q:=wr_d sz75 J zl32 (qXm width l r);have L:=rd_d agg75 sz75 (qQd (o:=.cells (bl (qXd width l r)) 75 (0,0)) J) (qXm width l r);generalize qXd width l r=d at q L;simp only[go_sem,yJ,q,L];exact ((H.trans A).trans I).put (b:=w0.heap.size+1+1) _ fun h=>by omega
end R
theorem fill_one {z:List Value}(A:z.length=32){c:Array Value}(B:c.size=32){d:List Byte}(E:d.length=32){y:List Value}(H:y=z)(g:Array Value->Value × World) :
  (Sum.inl (if 1*32<=2 ^ 24/\0<32/\c.size=32 then Option.map g (Instr.fill (fun i=>some (i*32,32)) (zrow y 1) [(0,dg d)]) else none):Out)=.inl (some (g (bl d))):=by
 subst H;rw[fill_dg A E,if_pos ⟨x9,x9,B⟩];rfl
theorem NwD.one {d:List Byte}(A:d.length=32)(f:w0.heap.size<=w.heap.size):NwD w0 (w.alloc (.cells (bl d) e)) e (.slice (some ⟨w.heap.size,0,none⟩) 1 1) [d]:=by
 have:=mk_nw w0 w e 32 1 1 (bl d) f (by rw[qXj,A]) (xC _);refine⟨All32.one A,?_⟩;rw[flat_one];have B:(bl d).toList.take (1*32)=d.map u8:=by rw[zG (by simp[A])]
 rw[<- B];exact this
theorem NwD.put {e b:Nat}{ds:List (List Byte)}(h:NwD w0 w e v ds)(o:Obj)(B:∀ c,qQc v=some c->c≠b)(E:fzO o=false:=by rfl):NwD w0 (V.put w b o) e v ds :=
 h.fr ((Fr.refl (fun c=>c=b) w).put o (fun _=>rfl) E) fun c H A=>B c H A
namespace R
def epI (w0:World)(width:Int)(A:Nat)(n:Nat)(vs:List Value)(w:World):Prop :=
 ∃ i v,vs=[.int .i64 width,pt A 0,v,.int .i64 (i:Nat)]/\i<=256/\n=256 - i/\NwD w0 w 75 v (empts width (i+1))/\w.heap[A]?=some (.cells (bl (emptD width i)) 75 (0,0))/\w0.heap.size<=A/\(∀ b,qQc v=some b->b≠A)/\No w0 w
theorem empts_succ (width:Int)(n:Nat):empts width (n+1)=empts width n++[emptD width n]:=by simp[empts,List.range_succ]
theorem empties (w0:World)(ht:Tabs w0)(width:Int):Fn prog 55 #[.int .i64 width] w0 fun v w'=>NwD w0 w' 75 v (empts width 257)/\No w0 w':=by
 refine go55 sm ?_;simp only[go_sem,Tryz.f55];refine qQm (v:=.slice (some ⟨w0.heap.size,0,none⟩) 1 1) (w':=w0.alloc (.cells (bl [2]) 5)) rfl ?_;simp only[go_sem,yJ];have I:No w0 (w0.alloc (.cells (bl [2]) 5)):=(Fr.refl _ _).alloc _;have b1:NwB w0 (w0.alloc (.cells (bl [2]) 5)) (.slice (some ⟨w0.heap.size,0,none⟩) 1 1) [2]:=mk_nw w0 w0 5 1 1 1 (bl [2]) (xC _) rfl (xC _);refine qQa pl95 ((rcut _ (ht.no I) width b1.by sm).mono ?_);rintro _ A ⟨rfl,M⟩;have N:hcut width [2]=emptD width 0:=rfl;rw[N];have q:=wr_d sz75 (qQb A (.cells (bl (zK 32 0)) 75)) zl32 (qQv width 0);have k3:=qQd (o:=.cells (bl (emptD width 0)) 75 (0,0)) (qQb A (.cells (bl (zK 32 0)) 75));have f3:No w0 (put (A.alloc (.cells (bl (zK 32 0)) 75)) A.heap.size (.cells (bl (emptD width 0)) 75 (0,0))):=((I.trans M).alloc _).put (b:=A.heap.size) _ fun h=>by have:=I.size;have:=M.size;omega
 have z3:w0.heap.size<=A.heap.size:=(I.trans M).size;have hr:=rd_d agg75 sz75 k3 (qQv width 0);have H:=qQv width 0;simp only[go_sem,yJ,yN,qQk,q,hr];generalize O:put (A.alloc (.cells (bl (zK 32 0)) 75)) A.heap.size (.cells (bl (emptD width 0)) 75 (0,0))=J at *;have hsz:J.heap.size=A.heap.size+1:=by rw[<- O];simp[put]
 have hy:List.map u8 (zK 32 0)=zK 32 (u8 0):=List.map_replicate;refine qQm (v:=.slice (some ⟨A.heap.size+1,0,none⟩) 1 1) (w':=J.alloc (.cells (bl (emptD width 0)) 75)) (fill_one (z:=zK 32 (u8 0)) (y:=List.map u8 (zK 32 0)) (c:=bl (zK 32 0)) lRe (by rw[qXj,lRe]) H hy _) ?_
 have b4:NwD w0 (J.alloc (.cells (bl (emptD width 0)) 75)) 75 (.slice (some ⟨A.heap.size+1,0,none⟩) 1 1) (empts width (0+1)):=by
  rw[<- hsz];exact NwD.one H f3.size
 have f4:=f3.alloc (.cells (bl (emptD width 0)) 75);have k4:=qQs (o:=.cells (bl (emptD width 0)) 75) k3;generalize J.alloc (.cells (bl (emptD width 0)) 75)=w4 at *;simp only[go_sem];refine loopD [0,3,4,5] (epI w0 width A.heap.size) 256 ⟨0,.slice (some ⟨A.heap.size+1,0,none⟩) 1 1,rfl,om,rfl,b4,k4,z3,fun b R=>by simp only[qQc,oSi]at R;omega,f4⟩ ?_;rintro _ vs w5 g ⟨i,v,rfl,hi,rfl,b5,k5,z5,T,U⟩
 by_cases a3:i<256
 ·have V:=dTo ((i:Int)<256)
  have c1:=iSu (i:=i);have B:=qQv width i;have r:=rd_d agg75 sz75 k5 B;simp only[go_sem,yJ,V,r];refine qQa pl96 ((branch w5 (ht.no U) width B B).mono ?_);rintro _ L ⟨rfl,W⟩;have N:qXd width (emptD width i) (emptD width i)=emptD width (i+1):=rfl;rw[N];have k6:=W.at k5 id;have E:=qQv width (i+1);have q:=wr_d sz75 k6 B E;have Y:=qQd (o:=.cells (bl (emptD width (i+1))) 75 (0,0)) k6;have r7:=rd_d agg75 sz75 Y E;have f7:No w0 (put L A.heap.size (.cells (bl (emptD width (i+1))) 75 (0,0))):=(U.trans W).put (b:=A.heap.size) _ fun h=>by omega
  have b7:=(b5.fr0 W).put (.cells (bl (emptD width (i+1))) 75 (0,0)) T;simp only[go_sem,yJ,yN,qQk,q,r7];have Z:(put L A.heap.size (.cells (bl (emptD width (i+1))) 75 (0,0))).heap.size=L.heap.size:=by simp[put]
  generalize put L A.heap.size (.cells (bl (emptD width (i+1))) 75 (0,0))=w7 at *;rw[<- Z];refine qQm (v:=.slice (some ⟨w7.heap.size,0,none⟩) 1 1) (w':=w7.alloc (.cells (bl (emptD width (i+1))) 75)) (fill_one (z:=zK 32 (u8 0)) (y:=List.map u8 (zK 32 0)) (c:=bl (zK 32 0)) lRe (by rw[qXj,lRe]) E hy _) ?_;obtain⟨v8,w8,a0,b8,f8,g8,h8⟩:=b7.push app71_71 E (by rw[qQz];omega) f7;rw[<- empts_succ]at b8;simp only[go_sem,yJ];refine qQj ⟨v8,w8,a0,?_⟩;simp only[go_sem,yJ,c1];refine⟨256 - (i+1),om,i+1,v8,rfl,om,rfl,b8,g8.at Y fun h=>T _ h rfl,z3,fun b R=>?_,f8⟩
  rcases h8 b R with h | h
  ·exact T b h
  ·have:=qQh Y;omega
 ·have V:=dFo ((i:Int)<256)
  have e:i=256:=om
  subst e;simp only[go_sem,yJ,V];exact⟨b5,U⟩
end R
def kb (k:Bs)(i:Nat):Int:=if kbit k i then 1 else 0
theorem kb_div (k:Bs)(i:Nat):(((k.getD (i / 8) 0).toNat / 2 ^ (7 - i % 8) % 2:Nat):Int)=kb k i:=by
 unfold kb kbit
 have:(k.getD (i / 8) 0).getLsbD (7 - i % 8)=decide ((k.getD (i / 8) 0).toNat / 2 ^ (7 - i % 8) % 2=1):=by
  show Nat.testBit _ _=_;rw[yT]
 rw[this];have A:(k.getD (i / 8) 0).toNat / 2 ^ (7 - i % 8) % 2<2:=Nat.mod_lt _ x9;split
 ·rename_i h;rw[of_decide_eq_true h];rfl
 ·rename_i h
  have:¬ ((k.getD (i / 8) 0).toNat / 2 ^ (7 - i % 8) % 2=1):=fun e=>h (decide_eq_true e);have:(k.getD (i / 8) 0).toNat / 2 ^ (7 - i % 8) % 2=0:=om
  rw[this];rfl
theorem shr64i (a k:Nat)(A:k<=64):shrK .i64 (a:Int) (k:Int)=((a / 2 ^ k:Nat):Int):=by
 have e:shrK .i64 (a:Int) (k:Int)=(a:Int).fdiv (2 ^ (min ((k:Nat):Int).toNat 64)):=rfl;rw[e,iTn,Nat.min_eq_left A,fdivn]
theorem shr8i (a k:Nat)(A:k<=8):shrK .u8 (a:Int) (k:Int)=((a / 2 ^ k:Nat):Int):=by
 have e:shrK .u8 (a:Int) (k:Int)=(a:Int).fdiv (2 ^ (min ((k:Nat):Int).toNat 8)):=rfl;rw[e,iTn,Nat.min_eq_left A,fdivn]
theorem and64i (a b:Nat)(A:a<2 ^ 62)(B:b<2 ^ 62):andK .i64 (a:Int) (b:Int)=((a &&& b:Nat):Int):=by
 have e:andK .i64 (a:Int) (b:Int)=IntKind.i64.wrap (((qQ 64 (a:Int) &&& qQ 64 (b:Int)).toNat:Nat):Int):=rfl;rw[e,xW,xW,BitVec.toNat_and,zZ,zZ,yE om,yE om];exact i64n (by have:=Nat.and_le_left (n:=a) (m:=b);omega)
theorem and64m (a k:Nat)(A:a<2 ^ 62)(B:k<62):andK .i64 (a:Int) ((2 ^ k - 1:Nat):Int)=((a % 2 ^ k:Nat):Int):=by
 have:2 ^ k<2 ^ 62:=Nat.pow_lt_pow_right x9 B;rw[and64i a _ A om,Nat.and_two_pow_sub_one_eq_mod]
theorem and64_7 (a:Nat)(A:a<2 ^ 62):andK .i64 (a:Int) 7=((a % 8:Nat):Int):=and64m a 3 A x9
theorem and64_1 (a:Nat)(A:a<2 ^ 62):andK .i64 (a:Int) 1=((a % 2:Nat):Int):=and64m a 1 A x9
theorem xor8 (x y:Byte):xorK .u8 (x.toNat:Int) (y.toNat:Int)=((x ^^^ y).toNat:Int):=by
 have e:xorK .u8 (x.toNat:Int) (y.toNat:Int)=IntKind.u8.wrap (((qQ 8 (x.toNat:Int) ^^^ qQ 8 (y.toNat:Int)).toNat:Nat):Int):=rfl;rw[e,xW,xW,xU,xU,xY,xY];exact w8_toNat _
namespace R
def biI (w0:World)(x A:Nat)(n:Nat)(vs:List Value)(w:World):Prop :=
 ∃ j,vs=[.int .i64 ((x / 2 ^ (j - A):Nat):Int),.int .i64 (j:Nat)]/\A<=j/\j<=7/\n=7 - j/\No w0 w
theorem bit (w0:World)(N:k.length=32)(hi:i<256):Fn prog 170 #[dg k,.int .i64 (i:Nat)] w0 fun v w'=>v=.int .i64 (kb k i)/\No w0 w':=by
 refine go170 sm ?_;have I:No w0 (w0.alloc (.cells (bl k) 76)):=(Fr.refl _ _).alloc _;have J:(w0.alloc (.cells (bl k) 76)).heap[w0.heap.size]?=some (.cells (bl k) 76 (0,0)):=qQb _ _;have L:((8:Int)=0)=False:=sm
 have n2:((2:Int)=0)=False:=sm
 have a1:IntKind.i64.wrap ((i:Int).tdiv 8)=((i / 8:Nat):Int):=by
  rw[show (i:Int).tdiv 8=((i / 8:Nat):Int) from rfl];exact i64n
 have a2:(i:Int).tmod 8=((i % 8:Nat):Int):=rfl;have y:(0:Int)<=((i / 8:Nat):Int)/\((i / 8:Nat):Int)<((32:Nat):Int):=om
 have r:rdO prog 5 (w0.alloc (.cells (bl k) 76)) w0.heap.size (i / 8)=some (.int .u8 ((k.getD (i / 8) 0).toNat:Int)):=rd1 agg5 J (bl_at om);have c1:IntKind.i64.wrap ((k.getD (i / 8) 0).toNat:Int)=((k.getD (i / 8) 0).toNat:Int):=i64n (by have:=(k.getD (i / 8) 0).isLt;omega);have A:=kb_div k i;have O:(k.getD (i / 8) 0).toNat<256:=(k.getD (i / 8) 0).isLt;simp -implicitDefEqProofs only[go_sem,yJ,Tryz.f170,yN,L,a1,a2,y,and_self,iTn,yK,r,c1];generalize (k.getD (i / 8) 0).toNat=x at *;refine loopD [5,6] (biI w0 x (i % 8)) (7 - i % 8) ⟨i % 8,by rw[Nat.sub_self,Nat.pow_zero,Nat.div_one];rfl,xC _,om,rfl,I⟩ ?_;rintro _ vs R g ⟨j,rfl,T,U,rfl,H⟩;have V:x / 2 ^ (j - i % 8)<=x:=yC _ _
 by_cases M:j<7
 ·have B:=dTo ((j:Int)<7)
  have c2:=iSu (i:=j)
  have E:IntKind.i64.wrap (((x / 2 ^ (j - i % 8):Nat):Int).tdiv 2)=((x / 2 ^ (j+1 - i % 8):Nat):Int):=by
   rw[show ((x / 2 ^ (j - i % 8):Nat):Int).tdiv 2=((x / 2 ^ (j - i % 8) / 2:Nat):Int) from rfl,yL,<- yS,show (j - i % 8).succ=j+1 - i % 8 by omega];exact i64n (by have:=yC x (2 ^ (j+1 - i % 8));omega)
  simp -implicitDefEqProofs only[go_sem,yJ,B,n2,c2,E];exact⟨7 - (j+1),om,j+1,rfl,om,om,rfl,H⟩
 ·have B:=dFo ((j:Int)<7)
  have e:j=7:=om
  subst e;have E:(((x / 2 ^ (7 - i % 8):Nat):Int).tmod 2)=kb k i:=A;simp -implicitDefEqProofs only[go_sem,yJ,B,n2,E];exact H
theorem bit3 (w0:World)(R:k.length=32)(hi:i<256):Fn prog 171 #[dg k,.int .i64 (i:Nat)] w0 fun v w'=>v=.int .i64 (kb k i)/\No w0 w':=by
 refine go171 sm ?_;have I:No w0 (w0.alloc (.cells (bl k) 76)):=(Fr.refl _ _).alloc _;have J:(w0.alloc (.cells (bl k) 76)).heap[w0.heap.size]?=some (.cells (bl k) 76 (0,0)):=qQb _ _;have L:((8:Int)=0)=False:=sm
 have n2:((2:Int)=0)=False:=sm
 have a1:IntKind.i64.wrap ((i:Int).tdiv 8)=((i / 8:Nat):Int):=by
  rw[show (i:Int).tdiv 8=((i / 8:Nat):Int) from rfl];exact i64n
 have a2:(i:Int).tmod 8=((i % 8:Nat):Int):=rfl;have y:(0:Int)<=((i / 8:Nat):Int)/\((i / 8:Nat):Int)<((32:Nat):Int):=om
 have r:rdO prog 5 (w0.alloc (.cells (bl k) 76)) w0.heap.size (i / 8)=some (.int .u8 ((k.getD (i / 8) 0).toNat:Int)):=rd1 agg5 J (bl_at om);have c1:IntKind.i64.wrap ((k.getD (i / 8) 0).toNat:Int)=((k.getD (i / 8) 0).toNat:Int):=i64n (by have:=(k.getD (i / 8) 0).isLt;omega);have A:=kb_div k i;have T:(k.getD (i / 8) 0).toNat<256:=(k.getD (i / 8) 0).isLt;have M:decide ((i:Int)<0)=false:=sm
 have N:=dFo ((i:Int) > 255);simp -implicitDefEqProofs only[go_sem,yJ,bSe,Tryz.f171,yN,M,N,L,a1,a2,y,and_self,iTn,yK,r,c1];generalize (k.getD (i / 8) 0).toNat=x at *;refine loopD [5,6] (biI w0 x (i % 8)) (7 - i % 8) ⟨i % 8,by rw[Nat.sub_self,Nat.pow_zero,Nat.div_one];rfl,xC _,om,rfl,I⟩ ?_;rintro _ vs U g ⟨j,rfl,V,W,rfl,H⟩;have Y:x / 2 ^ (j - i % 8)<=x:=yC _ _
 by_cases O:j<7
 ·have B:=dTo ((j:Int)<7)
  have c2:=iSu (i:=j)
  have E:IntKind.i64.wrap (((x / 2 ^ (j - i % 8):Nat):Int).tdiv 2)=((x / 2 ^ (j+1 - i % 8):Nat):Int):=by
   rw[show ((x / 2 ^ (j - i % 8):Nat):Int).tdiv 2=((x / 2 ^ (j - i % 8) / 2:Nat):Int) from rfl,yL,<- yS,show (j - i % 8).succ=j+1 - i % 8 by omega];exact i64n (by have:=yC x (2 ^ (j+1 - i % 8));omega)
  simp -implicitDefEqProofs only[go_sem,yJ,B,n2,c2,E];exact⟨7 - (j+1),om,j+1,rfl,om,om,rfl,H⟩
 ·have B:=dFo ((j:Int)<7)
  have e:j=7:=om
  subst e;have E:(((x / 2 ^ (7 - i % 8):Nat):Int).tmod 2)=kb k i:=A;simp -implicitDefEqProofs only[go_sem,yJ,B,n2,E];exact H
end R
theorem bbit (w0:World)(O:k.length=32)(hi:i<256):Fn prog 194 #[dg k,.int .i64 (i:Nat)] w0 fun v w'=>v=.int .i64 (kb k i)/\No w0 w':=by
 refine go194 sm ?_;have B:No w0 (w0.alloc (.cells (bl k) 76)):=(Fr.refl _ _).alloc _;have E:(w0.alloc (.cells (bl k) 76)).heap[w0.heap.size]?=some (.cells (bl k) 76 (0,0)):=qQb _ _;have H:decide ((i:Int)<0)=false:=sm
 have I:=dFo ((i:Int) ≥ 256);have a1:shrK .i64 (i:Int) 3=((i / 8:Nat):Int):=shr64i i 3 om;have a2:andK .i64 (i:Int) 7=((i % 8:Nat):Int):=and64_7 i om;have J:IntKind.i64.wrap (7 - ((i % 8:Nat):Int))=((7 - i % 8:Nat):Int):=qXr (a:=7) (b:=i % 8) om om;have n1:¬ ((3:Int)<0):=om
 have n2:¬ (((7 - i % 8:Nat):Int)<0):=om
 have y:(0:Int)<=((i / 8:Nat):Int)/\((i / 8:Nat):Int)<((32:Nat):Int):=om
 have r:rdO prog 5 (w0.alloc (.cells (bl k) 76)) w0.heap.size (i / 8)=some (.int .u8 ((k.getD (i / 8) 0).toNat:Int)):=rd1 agg5 E (bl_at om);have A:=kb_div k i;have R:(k.getD (i / 8) 0).toNat<256:=(k.getD (i / 8) 0).isLt;generalize (k.getD (i / 8) 0).toNat=x at *;have L:shrK .u8 (x:Int) ((7 - i % 8:Nat):Int)=((x / 2 ^ (7 - i % 8):Nat):Int):=shr8i x _ om;have T:x / 2 ^ (7 - i % 8)<=x:=yC _ _;have M:IntKind.i64.wrap ((x / 2 ^ (7 - i % 8):Nat):Int)=((x / 2 ^ (7 - i % 8):Nat):Int):=i64n;have N:andK .i64 ((x / 2 ^ (7 - i % 8):Nat):Int) 1=kb k i:=by rw[<- A];exact and64_1 _ om
 simp -implicitDefEqProofs only[go_sem,yJ,bSe,Tryz.f194,yN,H,I,a1,a2,J,n1,n2,y,and_self,iTn,yK,r,L,M,N];exact B
def blen (z:Nat):Nat:=if z=0 then 0 else z.log2+1
theorem blen_le {z m:Nat}:blen z<=m ↔ z<2 ^ m:=by
 unfold blen;split
 ·rename_i h;subst h;simp[Nat.two_pow_pos]
 ·rename_i h;rw[<- Nat.log2_lt h];omega
theorem blen_bit (h:z≠0):z.testBit (blen z - 1)=true:=by
 have E:blen z=z.log2+1:=by unfold blen;rw[if_neg h]
 have A:¬ z<2 ^ (blen z - 1):=fun k=>by have:=blen_le.2 k;omega
 have B:z<2 ^ (blen z):=blen_le.1 (xC _);rw[E]at A B ⊢;rw[Nat.add_sub_cancel]at A ⊢;rw[yT,decide_eq_true_eq]
 have H:z / 2 ^ z.log2=1:=by
  apply Nat.div_eq_of_lt_le
  ·omega
  ·rw[yS]at B;omega
 rw[H]
theorem common_at (hi:i<32)(h:∀ j, j<i->a.getD j 0=b.getD j 0)(hne:a.getD i 0≠b.getD i 0) :
  common a b=8*i+(8 - blen (a.getD i 0 ^^^ b.getD i 0).toNat)/\0<blen (a.getD i 0 ^^^ b.getD i 0).toNat/\blen (a.getD i 0 ^^^ b.getD i 0).toNat<=8:=by
 have B:(a.getD i 0 ^^^ b.getD i 0).toNat≠0:=fun e=>hne (by
  have H:a.getD i 0 ^^^ b.getD i 0=0#8:=yP e
  exact BitVec.xor_eq_zero_iff.1 H)
 have I:blen (a.getD i 0 ^^^ b.getD i 0).toNat<=8:=blen_le.2 (a.getD i 0 ^^^ b.getD i 0).isLt;have J:0<blen (a.getD i 0 ^^^ b.getD i 0).toNat:=by unfold blen;rw[if_neg B];omega
 have E:∀ m,(a.getD i 0 ^^^ b.getD i 0).toNat.testBit m=Bool.xor ((a.getD i 0).getLsbD m) ((b.getD i 0).getLsbD m):=fun m=>by
  show (a.getD i 0 ^^^ b.getD i 0).getLsbD m=_;rw[xG]
 have L:=blen_bit B;have A:=blen_le.1 (xC (blen (a.getD i 0 ^^^ b.getD i 0).toNat));generalize M:blen (a.getD i 0 ^^^ b.getD i 0).toNat=n at *;refine⟨qKr (fun j N=>?_) (fun _=>?_) om,J,I⟩
 ·by_cases O:j<8*i
  ·unfold kbit;rw[h (j / 8) om]
  ·have e:j / 8=i:=om
   unfold kbit;rw[e];have:=E (7 - j % 8);rw[yO (Nat.lt_of_lt_of_le A (y6 x9 om))]at this
   revert this
   cases (a.getD i 0).getLsbD (7 - j % 8) <;> cases (b.getD i 0).getLsbD (7 - j % 8) <;> simp
 ·unfold kbit
  rw[show (8*i+(8 - n)) / 8=i by omega,show 7 - (8*i+(8 - n)) % 8=n - 1 by omega];have:=E (n - 1);rw[L]at this
  revert this
  cases (a.getD i 0).getLsbD (n - 1) <;> cases (b.getD i 0).getLsbD (n - 1) <;> simp
def lenS:ByteArray:=⟨((([0,1,2,2,3,3,3,3,4,4,4,4,4,4,4,4,5,5,5,5,5,5,5,5,5,5,5,5,5,5,5,5,6,6,6,6,6,6,6,6,6,6,6,6,6,6,6,6,6,6,6,6,6,6,6,6,6,6,6,6,6,6,6,6]:List UInt8).append [7,7,7,7,7,7,7,7,7,7,7,7,7,7,7,7,7,7,7,7,7,7,7,7,7,7,7,7,7,7,7,7,7,7,7,7,7,7,7,7,7,7,7,7,7,7,7,7,7,7,7,7,7,7,7,7,7,7,7,7,7,7,7,7]).append (([8,8,8,8,8,8,8,8,8,8,8,8,8,8,8,8,8,8,8,8,8,8,8,8,8,8,8,8,8,8,8,8,8,8,8,8,8,8,8,8,8,8,8,8,8,8,8,8,8,8,8,8,8,8,8,8,8,8,8,8,8,8,8,8]:List UInt8).append [8,8,8,8,8,8,8,8,8,8,8,8,8,8,8,8,8,8,8,8,8,8,8,8,8,8,8,8,8,8,8,8,8,8,8,8,8,8,8,8,8,8,8,8,8,8,8,8,8,8,8,8,8,8,8,8,8,8,8,8,8,8,8,8])).toArray⟩
theorem lenS_at:∀ n:Fin 256,lenS[n.val]?=some (UInt8.ofNat (blen n.val)):=by decide +kernel
theorem len8 (w0:World)(x:Byte):Fn prog 196 #[u8 x] w0 fun v w'=>v=.int .i64 (blen x.toNat:Nat)/\w'=w0:=by
 refine go196 sm ?_;simp -implicitDefEqProofs only[go_sem,yJ,Tryz.f196];have A:blen x.toNat<=8:=blen_le.2 x.isLt;refine qQm (v:=.int .u8 (blen x.toNat:Nat)) (w':=w0) ?_ ?_
 ·show val0 (if 0<=(x.toNat:Int) then Option.map _ (lenS[(x.toNat:Int).toNat]?) else none) w0=_
  rw[if_pos om,iTn,lenS_at ⟨x.toNat,x.isLt⟩];simp only[qK,val0,UInt8.toNat_ofNat'];rw[yE om]
 ·have c:IntKind.i64.wrap ((blen x.toNat:Nat):Int)=((blen x.toNat:Nat):Int):=i64n
  simp -implicitDefEqProofs only[go_sem,c,and_self]
theorem lz8 (w0:World)(x:Byte):Fn prog 192 #[u8 x] w0 fun v w'=>v=.int .i64 (8 - blen x.toNat:Nat)/\w'=w0:=by
 refine go192 sm ?_;simp -implicitDefEqProofs only[go_sem,yJ,Tryz.f192];have A:blen x.toNat<=8:=blen_le.2 x.isLt;refine qQa pl196 ((len8 w0 x).mono ?_);rintro _ w' ⟨rfl,rfl⟩;have c:IntKind.i64.wrap (8 - ((blen x.toNat:Nat):Int))=((8 - blen x.toNat:Nat):Int):=qXr (a:=8) om om;simp -implicitDefEqProofs only[go_sem,c,and_self]
theorem eqKey (A:a.length=32)(B:b.length=32):eqV prog Op.maxDepth 76 (dg a) (dg b)=some (a == b):=eqm_dg arr76 int5 sz5 agg5 A B
theorem eqDig (A:a.length=32)(B:b.length=32):eqV prog Op.maxDepth 75 (dg a) (dg b)=some (a == b):=eqm_dg arr75 int5 sz5 agg5 A B
def cmI (w0:World)(a b:Bs)(n:Nat)(vs:List Value)(w:World):Prop :=
 ∃ (i:Nat) (x y:Value),vs=[pt w0.heap.size 0,pt (w0.heap.size+1) 0,x,y,.int .i64 (i:Nat)]/\i<=32/\n=32 - i/\(∀ j,j<i->a.getD j 0=b.getD j 0)/\w.heap[w0.heap.size]?=some (.cells (bl a) 76 (0,0)) /\
  w.heap[w0.heap.size+1]?=some (.cells (bl b) 76 (0,0))/\No w0 w
theorem commonP (w0:World)(A:a.length=32)(O:b.length=32):Fn prog 184 #[dg a,dg b] w0 fun v w'=>v=.int .i64 (common a b:Nat)/\No w0 w':=by
 refine go184 sm ?_;have R:No w0 ((w0.alloc (.cells (bl a) 76)).alloc (.cells (bl b) 76)):=((Fr.refl _ _).alloc _).alloc _;have T:((w0.alloc (.cells (bl a) 76)).alloc (.cells (bl b) 76)).heap[w0.heap.size]?=some (.cells (bl a) 76 (0,0)):=qQs (qQb _ _)
 have U:((w0.alloc (.cells (bl a) 76)).alloc (.cells (bl b) 76)).heap[w0.heap.size+1]?=some (.cells (bl b) 76 (0,0)):=by
  have:=qQb (w0.alloc (.cells (bl a) 76)) (.cells (bl b) 76);rw[qQf]at this;exact this
 simp -implicitDefEqProofs only[go_sem,yJ,Tryz.f184,yN];generalize (w0.alloc (.cells (bl a) 76)).alloc (.cells (bl b) 76)=W at *;have r1:=rd_d agg76 sz76 T A;have r2:=rd_d agg76 sz76 U O;simp -implicitDefEqProofs only[go_sem,yJ,r1,r2];rw[eqKey A O]
 by_cases B:a=b
 ·subst B
  have E:(a == a)=true:=bSe a;rw[(common_full A A).2 rfl];simp -implicitDefEqProofs only[go_sem,E,qK];exact⟨rfl,R⟩
 ·have E:(a == b)=false:=by simpa using B
  simp -implicitDefEqProofs only[go_sem,E,qK];refine loopD [2,3,5,6,10] (cmI w0 a b) 32 ⟨0,_,_,rfl,om,rfl,fun j h=>absurd h om,T,U,R⟩ ?_;rintro _ vs H g ⟨i,x,y,rfl,hi,rfl,I,V,Y,Z⟩
  by_cases J:i<32
  ·have d1:=dTo ((i:Int)<32)
   have c1:=iSu (i:=i);have y1:=iBd (i:=i) (n:=32);have q1:rdO prog 5 H w0.heap.size i=some (.int .u8 ((a.getD i 0).toNat:Int)):=rd1 agg5 V (bl_at om);have q2:rdO prog 5 H (w0.heap.size+1) i=some (.int .u8 ((b.getD i 0).toNat:Int)):=rd1 agg5 Y (bl_at om)
   by_cases hne:a.getD i 0=b.getD i 0
   ·have L:(((a.getD i 0 ^^^ b.getD i 0).toNat:Int) != 0)=false:=by rw[hne,BitVec.xor_self];rfl
    have M:=xor8 (a.getD i 0) (b.getD i 0)
    have N:∀ j,j<i+1->a.getD j 0=b.getD j 0:=fun j hj=>by
     rcases Nat.lt_succ_iff_lt_or_eq.1 hj with h | rfl
     ·exact I j h
     ·exact hne
    generalize a.getD i 0=p at *;generalize b.getD i 0=q at *;simp -implicitDefEqProofs only[go_sem,yJ,d1,c1,y1,and_self,iTn,yK,q1,q2,M,L];exact⟨32 - (i+1),om,i+1,_,_,rfl,om,rfl,N,V,Y,Z.drew⟩
   ·obtain⟨hc,h0,h8⟩:=common_at J I hne
    have L:(((a.getD i 0 ^^^ b.getD i 0).toNat:Int) != 0)=true:=by
     rw[bne_iff_ne];intro e;have:(a.getD i 0 ^^^ b.getD i 0).toNat=0:=om
     exact hne (BitVec.xor_eq_zero_iff.1 (yP this))
    have M:=xor8 (a.getD i 0) (b.getD i 0);rw[hc];generalize a.getD i 0=p at *;generalize b.getD i 0=q at *;have c2:IntKind.i64.wrap (8*(i:Int))=((8*i:Nat):Int):=i64mul (a:=8) om;have c3:IntKind.i64.wrap (((8*i:Nat):Int)+((8 - blen (p ^^^ q).toNat:Nat):Int))=((8*i+(8 - blen (p ^^^ q).toNat):Nat):Int):=qXi;simp -implicitDefEqProofs only[go_sem,yJ,d1,y1,and_self,iTn,yK,q1,q2,M,L,c2];refine qQa pl192 ((lz8 H.drew (p ^^^ q)).mono ?_);rintro _ w3 ⟨rfl,rfl⟩;simp -implicitDefEqProofs only[go_sem,yJ,c3];exact Z.drew
  ·have e:i=32:=om
   subst e;refine absurd (yR om fun j h1 h2=>?_) B;have:=I j om
   rwa [qQt 0 h1,qQt 0 h2]at this
instance (a b:Bs):Decidable (klt a b):=by unfold klt;infer_instance
def kcmp (a b:Bs):Int:=if a=b then 0 else if klt a b then -1 else 1
theorem lt_tb {x y i:Nat}(A:x.testBit i=false)(B:y.testBit i=true)(E:∀ j,i<j->x.testBit j=y.testBit j):x<y:=by
 have e:x / 2 ^ (i+1)=y / 2 ^ (i+1):=Nat.eq_of_testBit_eq fun j=>by
  rw[yI,yI];exact E _ om
 rw[yS,<- yL,<- yL]at e;rw[yT]at A B;have H:=of_decide_eq_false A;have I:=of_decide_eq_true B
 rcases Nat.lt_or_ge x y with h | h
 ·exact h
 ·have:=Nat.div_le_div_right (c:=2 ^ i) h
  omega
theorem klt_at (hi:i<32)(h:∀ j,j<i->a.getD j 0=b.getD j 0)(hne:a.getD i 0≠b.getD i 0):klt a b ↔ (a.getD i 0).toNat<(b.getD i 0).toNat:=by
 obtain⟨R,I,W⟩:=common_at hi h hne;have H:=blen_le.1 (xC (blen (a.getD i 0 ^^^ b.getD i 0).toNat));have T:(a.getD i 0 ^^^ b.getD i 0).toNat≠0:=fun e=>by rw[e]at I;simp[blen]at I
 have U:=blen_bit T
 have J:∀ m,(a.getD i 0 ^^^ b.getD i 0).toNat.testBit m=Bool.xor ((a.getD i 0).toNat.testBit m) ((b.getD i 0).toNat.testBit m):=fun m=>by
  show (a.getD i 0 ^^^ b.getD i 0).getLsbD m=_;rw[xG];rfl
 generalize blen (a.getD i 0 ^^^ b.getD i 0).toNat=n at *
 have L:∀ x:Bs,kbit x (8*i+(8 - n))=(x.getD i 0).toNat.testBit (n - 1):=fun x=>by
  unfold kbit;rw[show (8*i+(8 - n)) / 8=i by omega,show 7 - (8*i+(8 - n)) % 8=n - 1 by omega];rfl
 unfold klt;rw[R,L,L];generalize (a.getD i 0).toNat=x at *;generalize (b.getD i 0).toNat=y at *;generalize (a.getD i 0 ^^^ b.getD i 0).toNat=z at *
 have M:∀ j,n - 1<j->x.testBit j=y.testBit j:=fun j N=>by
  have O:=J j;rw[yO (Nat.lt_of_lt_of_le H (y6 x9 om))]at O
  revert O
  cases x.testBit j <;> cases y.testBit j <;> simp
 have A:=J (n - 1);rw[U]at A;constructor
 ·rintro⟨_,B,E⟩
  exact lt_tb B E M
 ·intro V
  refine⟨om,?_⟩
  cases B:x.testBit (n - 1) <;> cases E:y.testBit (n - 1)
  ·rw[B,E]at A;cases A
  ·exact⟨rfl,rfl⟩
  ·have:=lt_tb E B fun j N=>(M j N).symm
   omega
  ·rw[B,E]at A;cases A
theorem kcmp_at (B:a.length=32)(E:b.length=32)(hi:i<32)(h:∀ j, j<i->a.getD j 0=b.getD j 0)(hne:a.getD i 0≠b.getD i 0) :
  kcmp a b=if (a.getD i 0).toNat<(b.getD i 0).toNat then -1 else 1:=by
 unfold kcmp;rw[if_neg (fun e=>hne (by rw[e]))]
 by_cases A:(a.getD i 0).toNat<(b.getD i 0).toNat
 ·rw[if_pos A,if_pos ((klt_at hi h hne).2 A)]
 ·rw[if_neg A,if_neg fun k=>A ((klt_at hi h hne).1 k)]
theorem bs_eq (E:a.length=32)(H:b.length=32)(h:∀ j,j<32->a.getD j 0=b.getD j 0):a=b :=
 yR om fun j A B=>by
  have:=h j om
  rwa [qQt 0 A,qQt 0 B]at this
namespace R
def rcI (w0:World)(a b:Bs)(n:Nat)(vs:List Value)(w:World):Prop :=
 ∃ (i:Nat),vs=[pt w0.heap.size 0,pt (w0.heap.size+1) 0,.int .i64 (i:Nat)]/\i<=32/\n=32 - i/\(∀ j,j<i->a.getD j 0=b.getD j 0)/\w.heap[w0.heap.size]?=some (.cells (bl a) 76 (0,0)) /\
  w.heap[w0.heap.size+1]?=some (.cells (bl b) 76 (0,0))/\No w0 w
theorem cmp (w0:World)(T:a.length=32)(U:b.length=32):Fn prog 54 #[dg a,dg b] w0 fun v w'=>v=.int .i64 (kcmp a b)/\No w0 w':=by
 refine go54 sm ?_;have f1:No w0 ((w0.alloc (.cells (bl a) 76)).alloc (.cells (bl b) 76)):=((Fr.refl _ _).alloc _).alloc _;have k1:((w0.alloc (.cells (bl a) 76)).alloc (.cells (bl b) 76)).heap[w0.heap.size]?=some (.cells (bl a) 76 (0,0)):=qQs (qQb _ _)
 have j1:((w0.alloc (.cells (bl a) 76)).alloc (.cells (bl b) 76)).heap[w0.heap.size+1]?=some (.cells (bl b) 76 (0,0)):=by
  have:=qQb (w0.alloc (.cells (bl a) 76)) (.cells (bl b) 76);rw[qQf]at this;exact this
 simp -implicitDefEqProofs only[go_sem,yJ,Tryz.f54,yN];generalize (w0.alloc (.cells (bl a) 76)).alloc (.cells (bl b) 76)=W at *;refine loopD [2,3,5] (rcI w0 a b) 32 ⟨0,rfl,om,rfl,fun j h=>absurd h om,k1,j1,f1⟩ ?_;rintro _ vs V g ⟨i,rfl,hi,rfl,I,Y,Z,E⟩
 by_cases J:i<32
 ·have A:=dTo ((i:Int)<32)
  have c1:=iSu (i:=i);have L:=iBd (i:=i) (n:=32);have M:rdO prog 5 V w0.heap.size i=some (.int .u8 ((a.getD i 0).toNat:Int)):=rd1 agg5 Y (bl_at om);have N:rdO prog 5 V (w0.heap.size+1) i=some (.int .u8 ((b.getD i 0).toNat:Int)):=rd1 agg5 Z (bl_at om)
  by_cases hne:a.getD i 0=b.getD i 0
  ·have H:(((a.getD i 0).toNat:Int) != ((b.getD i 0).toNat:Int))=false:=by rw[hne];simp
   have O:∀ j,j<i+1->a.getD j 0=b.getD j 0:=fun j hj=>by
    rcases Nat.lt_succ_iff_lt_or_eq.1 hj with h | rfl
    ·exact I j h
    ·exact hne
   generalize a.getD i 0=p at *;generalize b.getD i 0=q at *;simp -implicitDefEqProofs only[go_sem,yJ,A,c1,L,and_self,iTn,yK,M,N,H];exact⟨32 - (i+1),om,i+1,rfl,om,rfl,O,Y,Z,E.drew⟩
  ·have H:(((a.getD i 0).toNat:Int) != ((b.getD i 0).toNat:Int))=true:=by
    rw[bne_iff_ne];intro e;exact hne (yP om)
   rw[kcmp_at T U J I hne];generalize a.getD i 0=p at *;generalize b.getD i 0=q at *
   by_cases B:p.toNat<q.toNat
   ·have R:=dTo ((p.toNat:Int)<(q.toNat:Int))
    rw[if_pos B];simp -implicitDefEqProofs only[go_sem,yJ,A,L,and_self,iTn,yK,M,N,H,R];exact E.drew.drew
   ·have R:=dFo ((p.toNat:Int)<(q.toNat:Int))
    rw[if_neg B];simp -implicitDefEqProofs only[go_sem,yJ,A,L,and_self,iTn,yK,M,N,H,R];exact E.drew.drew
 ·have A:=dFo ((i:Int)<32)
  have e:i=32:=om
  subst e;have:=bs_eq T U I;subst this;have h0:kcmp a a=0:=by simp[kcmp]
  rw[h0];simp -implicitDefEqProofs only[go_sem,yJ,A];exact E
def riI (w0:World)(a b:Bs)(n:Nat)(vs:List Value)(w:World):Prop :=
 ∃ (i:Nat) (x y:Value),vs=[pt w0.heap.size 0,pt (w0.heap.size+1) 0,.int .i64 (i:Nat),x,y]/\i<=256/\n=256 - i/\(∀ j,j<i->kbit a j=kbit b j)/\w.heap[w0.heap.size]?=some (.cells (bl a) 76 (0,0)) /\
  w.heap[w0.heap.size+1]?=some (.cells (bl b) 76 (0,0))/\No w0 w
theorem kb_inj:(kb a i != kb b i)=!(kbit a i == kbit b i):=by
 unfold kb
 cases kbit a i <;> cases kbit b i <;> rfl
theorem common3 (w0:World)(O:a.length=32)(R:b.length=32):Fn prog 169 #[dg a,dg b] w0 fun v w'=>v=.int .i64 (common a b:Nat)/\No w0 w':=by
 refine go169 sm ?_;have V:No w0 ((w0.alloc (.cells (bl a) 76)).alloc (.cells (bl b) 76)):=((Fr.refl _ _).alloc _).alloc _;have Y:((w0.alloc (.cells (bl a) 76)).alloc (.cells (bl b) 76)).heap[w0.heap.size]?=some (.cells (bl a) 76 (0,0)):=qQs (qQb _ _)
 have Z:((w0.alloc (.cells (bl a) 76)).alloc (.cells (bl b) 76)).heap[w0.heap.size+1]?=some (.cells (bl b) 76 (0,0)):=by
  have:=qQb (w0.alloc (.cells (bl a) 76)) (.cells (bl b) 76);rw[qQf]at this;exact this
 simp -implicitDefEqProofs only[go_sem,yJ,Tryz.f169,yN];generalize (w0.alloc (.cells (bl a) 76)).alloc (.cells (bl b) 76)=W at *;refine loopD [2,3,5,6,7] (riI w0 a b) 256 ⟨0,_,_,rfl,om,rfl,fun j h=>absurd h om,Y,Z,V⟩ ?_;rintro _ vs w2 g ⟨i,x,y,rfl,hi,rfl,J,T,U,L⟩
 by_cases A:i<256
 ·have M:=dTo ((i:Int)<256)
  have c1:=iSu (i:=i);have r1:=rd_d agg76 sz76 T O;simp -implicitDefEqProofs only[go_sem,yJ,M,r1];refine qQa pl171 ((bit3 w2 O A).mono ?_);rintro _ w3 ⟨rfl,B⟩;have r2:=rd_d agg76 sz76 (B.at U id) R;simp -implicitDefEqProofs only[go_sem,yJ,r2];refine qQa pl171 ((bit3 w3 R A).mono ?_);rintro _ w4 ⟨rfl,E⟩;have H:=kb_inj (a:=a) (b:=b) (i:=i)
  by_cases I:kbit a i=kbit b i
  ·have z:(!(kbit a i == kbit b i))=false:=by rw[I];simp
   rw[z]at H
   have N:∀ j,j<i+1->kbit a j=kbit b j:=fun j hj=>by
    rcases Nat.lt_succ_iff_lt_or_eq.1 hj with h | rfl
    ·exact J j h
    ·exact I
   simp -implicitDefEqProofs only[go_sem,yJ,H,c1];exact⟨256 - (i+1),om,i+1,_,_,rfl,om,rfl,N,E.at (B.at T id) id,E.at (B.at U id) id,(L.trans B).trans E⟩
  ·have z:(!(kbit a i == kbit b i))=true:=by simpa using I
   rw[z]at H;rw[qKr J (fun _=>I) om];simp -implicitDefEqProofs only[go_sem,yJ,H];exact (L.trans B).trans E
 ·have M:=dFo ((i:Int)<256)
  have e:i=256:=om
  subst e;have h0:common a b=256:=qKr J (fun h=>absurd h om) om;rw[h0];simp -implicitDefEqProofs only[go_sem,yJ,M];exact⟨rfl,L⟩
end R
end Go.V
