/- Helpers. -/
import Derived.Test.YtppmpdjlmgfdkaaGreatDoorM12
import Derived.Test.YtppmpdjlmgfdkaaGreatDoorM08
set_option linter.all false
set_option maxRecDepth 100000
set_option maxHeartbeats 8000000
open BitVec renaming ofInt_natCast->xW,eq_of_toNat_eq->yG,ofInt->qQ,toNat_ofNat->zY,setWidth_eq->xY,ofNat_toNat->xU,getLsbD_xor->xG
open List renaming replicate->zG,ext_getElem->yF,getElem_range->jO,getElem_map->jG,append_assoc->zU,append_nil->z4,take_zero->jT,take_of_length_le->zB
open Nat renaming reduceEqDiff->j7,mul_one->j8,le_refl->xC,testBit_eq_decide_div_mod_eq->yH,div_div_eq_div_mul->yD,div_le_self->yM,pow_succ->yN,mod_eq_of_lt->yP,testBit_div_two_pow->yR,testBit_lt_two_pow->yT,pow_le_pow_right->yL
open Option renaming map_some->qK
open Go.Value renaming cells->yU
namespace Go.V
open Go.Proofs.Tryz Go.V.Tryz
open Go.Proofs Sha
variable {a b d k l r val:Bs} {e i z:Nat} {v vv:Value} {w w0:World}
namespace R
def cutK (w:Int)(d:Bs)(k:Nat):Bs:=(List.range 32).map fun (i:Nat)=>if i<k/\¬ ((i:Int)<w) then 0 else d.getD i 0
theorem qVo (w:Int)(d:Bs)(k:Nat):(cutK w d k).length=32:=by simp[cutK]
theorem cutK_zero (w:Int)(h:d.length=32):cutK w d 0=d:=by
 refine yF (by rw[qVo,h]) fun i B A=>?_;simp only[cutK,jG,jO];rw[if_neg x8,qQw 0 A]
theorem cutK_all (w:Int)(d:Bs):cutK w d 32=cutD w d:=by
 refine yF (by rw[qVo,qZm]) fun i A B=>?_;rw[qVo]at A;simp only[cutK,cutD,jG,jO]
 by_cases h:(i:Int)<w
 ·rw[if_neg (by simp[h]),if_pos h]
 ·rw[if_pos ⟨A,h⟩,if_neg h]
theorem cutK_keep (w:Int)(d:Bs){k:Nat}(h:(k:Int)<w):cutK w d (k+1)=cutK w d k:=by
 refine yF (by rw[qVo,qVo]) fun i B D=>?_;simp only[cutK,jG,jO]
 by_cases hi:i=k
 ·subst hi;rw[if_neg (by simp[h]),if_neg x8]
 ·by_cases A:i<k
  ·simp[A,show i<k+1 by omega]
  ·rw[if_neg x8,if_neg x8]
theorem cutK_set (w:Int)(d:Bs){k:Nat}(h:¬ ((k:Int)<w))(B:k<32):(cutK w d k).set k 0=cutK w d (k+1):=by
 refine yF (by rw[List.length_set,qVo,qVo]) fun i D E=>?_;rw[List.getElem_set];simp only[cutK,jG,jO]
 by_cases hi:k=i
 ·subst hi;rw[if_pos rfl,if_pos ⟨x8,h⟩]
 ·rw[if_neg hi]
  by_cases A:i<k
  ·simp[A,show i<k+1 by omega]
  ·rw[if_neg x8,if_neg x8]
def ctI (w0:World)(width:Int)(d:Bs)(n:Nat)(vs:List Value)(w:World):Prop :=
 ∃ i,vs=[.int .i64 width,pt w0.heap.size 0,pt (w0.heap.size+1) 0,.int .i64 (i:Nat)]/\i<=32/\n=32 - i/\w.heap[w0.heap.size]?=some (.cells (bl (cutK width d i)) 75 (0,0)) /\
  w.heap[w0.heap.size+1]?=some (.cells (bl (zG 32 0)) 75 (0,0))/\No w0 w
theorem dcut (w0:World)(width:Int)(M:d.length=32) :
  Fn prog 133 #[dg d,.int .i64 width] w0 fun v w'=>v=dg (cutD width d)/\No w0 w':=by
 refine go133 sm ?_;have N:No w0 ((w0.alloc (.cells (bl d) 75)).alloc (.cells (bl (zG 32 0)) 75)):=((Fr.refl _ _).alloc _).alloc _;have O:((w0.alloc (.cells (bl d) 75)).alloc (.cells (bl (zG 32 0)) 75)).heap[w0.heap.size]?=some (.cells (bl d) 75 (0,0)):=qQs (qQb _ _)
 have R:((w0.alloc (.cells (bl d) 75)).alloc (.cells (bl (zG 32 0)) 75)).heap[w0.heap.size+1]?=some (.cells (bl (zG 32 0)) 75 (0,0)):=by
  have:=qQb (w0.alloc (.cells (bl d) 75)) (.cells (bl (zG 32 0)) 75);rw[qQg]at this;exact this
 simp only[go_sem,Tryz.f133,yU,qQk];refine loopD [1,2,4,5] (ctI w0 width d) 32 ⟨0,rfl,x8,rfl,by rw[cutK_zero width M];exact O,R,N⟩ ?_;rintro _ vs J g ⟨i,rfl,hi,rfl,A,D,H⟩
 by_cases B:i<32
 ·have E:=dTo ((i:Int)<32)
  have c1:=iSu (i:=i)
  by_cases L:(i:Int)<width
  ·have I:=dFo ((i:Int) ≥ width)
   rw[<- cutK_keep width d L]at A;simp only[go_sem,j7,E,I,c1];exact⟨32 - (i+1),x8,i+1,rfl,x8,rfl,A,D,H⟩
  ·have I:=dTo ((i:Int) ≥ width)
   have y:=iBd (i:=i) (n:=32);have q:=wr1 (P:=prog) (t:=5) (v:=u8 0) (o:=i) sz5 rfl A (by rw[qXn,qVo];exact B);rw[bl_set,cutK_set width d L B]at q
   replace q:wrO prog 5 J w0.heap.size i (.int .u8 0)=some (put J w0.heap.size (.cells (bl (cutK width d (i+1))) 75 (0,0))):=q
   simp only[go_sem,j7,E,I,y,and_self,iTn,j8,q,c1];exact⟨32 - (i+1),x8,i+1,rfl,x8,rfl,qQd A,qQh D x8,H.put (b:=w0.heap.size) _ fun h=>absurd h (Nat.lt_irrefl _)⟩
 ·have E:=dFo ((i:Int)<32)
  have e:i=32:=x8
  subst e;rw[cutK_all]at A;have r:=rd_d agg75 sz75 A (qZm width d);have q:=wr_d sz75 D zl32 (qZm width d);have T:=rd_d agg75 sz75 (qQd (o:=.cells (bl (cutD width d)) 75 (0,0)) D) (qZm width d);generalize cutD width d=d' at *;simp only[go_sem,j7,E,r,q,T];exact H.put (b:=w0.heap.size+1) _ fun h=>by omega
theorem within (w0:World)(n lo hi:Int)(h:lo<=hi):Fn prog 168 #[.int .i64 n,.int .i64 lo,.int .i64 hi] w0 fun v w'=>v=.int .i64 (max lo (min n hi))/\w'=w0:=by
 refine go168 sm ?_
 by_cases D:n<lo
 ·have A:decide (n<lo)=true:=by simpa using D
  simp only[go_sem,j7,Tryz.f168,A];exact⟨by rw[show max lo (min n hi)=lo by omega],trivial⟩
 ·have A:decide (n<lo)=false:=by simpa using D
  by_cases E:n > hi
  ·have B:decide (n > hi)=true:=by simpa using E
   simp only[go_sem,j7,Tryz.f168,A,B];exact⟨by rw[show max lo (min n hi)=hi by omega],trivial⟩
  ·have B:decide (n > hi)=false:=by simpa using E
   simp only[go_sem,j7,Tryz.f168,A,B];exact⟨by rw[show max lo (min n hi)=n by omega],trivial⟩
theorem rcut (w0:World)(N:Tabs w0)(width:Int){J:Value}{t:Bs}(O:By w0 J t)(R:t.length<=1099511627776) :
  Fn prog 95 #[J,.int .i64 width] w0 fun v w'=>v=dg (hcut width t)/\No w0 w':=by
 refine go95 sm ?_;have E:No w0 (w0.alloc (.cells (bl (zG 32 0)) 75)):=(Fr.refl _ _).alloc _;have T:(w0.alloc (.cells (bl (zG 32 0)) 75)).heap[w0.heap.size]?=some (.cells (bl (zG 32 0)) 75 (0,0)):=qQb _ _;simp only[go_sem,j7,Tryz.f95,yU,qQk];generalize w0.alloc (.cells (bl (zG 32 0)) 75)=W at *;refine qQa pl132 ((sum_ref W (N.no E) (O.fr0 E) R).mono ?_);rintro _ A ⟨rfl,H⟩;have q:=wr_d sz75 (qQb A (.cells (bl (zG 32 0)) 75)) zl32 (sum_len t);have U:=rd_d agg75 sz75 (qQd (o:=.cells (bl (Sha.sum t)) 75 (0,0)) (qQb A (.cells (bl (zG 32 0)) 75))) (sum_len t);have B:=H.at T id;have V:(put (A.alloc (.cells (bl (zG 32 0)) 75)) A.heap.size (.cells (bl (Sha.sum t)) 75 (0,0))).heap[w0.heap.size]?=some (.cells (bl (zG 32 0)) 75 (0,0)):=qQh (qQs B) (by have:=qQi B;omega);have Y:No w0 (put (A.alloc (.cells (bl (zG 32 0)) 75)) A.heap.size (.cells (bl (Sha.sum t)) 75 (0,0))):=((E.trans H).alloc _).put (b:=A.heap.size) _ fun h=>by have:=E.size;have:=H.size;omega
 have I:=sum_len t;have D:(hcut width t).length=32:=hcut_len _ _;have Z:cutD width (Sha.sum t)=hcut width t:=rfl;generalize Sha.sum t=s at *;simp only[go_sem,j7,yU,qQk,q,U];generalize put (A.alloc (.cells (bl (zG 32 0)) 75)) A.heap.size (.cells (bl s) 75 (0,0))=w3 at *;refine qQa pl133 ((dcut w3 width I).mono ?_);rintro _ w4 ⟨rfl,L⟩;rw[Z];have M:=L.at V id;have q2:=wr_d sz75 M zl32 D;have r2:=rd_d agg75 sz75 (qQd (o:=.cells (bl (hcut width t)) 75 (0,0)) M) D;generalize hcut width t=d' at *;simp only[go_sem,j7,q2,r2];exact (Y.trans L).put (b:=w0.heap.size) _ fun h=>absurd h (Nat.lt_irrefl _)
def ltI (w0:World)(k:Bs)(vv:Value)(n:Nat)(vs:List Value)(w:World):Prop :=
 ∃ i v,vs=[vv,pt w0.heap.size 0,v,.int .i64 (i:Nat)]/\i<=32/\n=32 - i/\NwB w0 w v (0::k.take i)/\w.heap[w0.heap.size]?=some (.cells (bl k) 76 (0,0))/\(∀ b,qQf v=some b->b≠w0.heap.size)/\No w0 w
def ltJ (w0:World)(k val:Bs)(vv:Value)(n:Nat)(vs:List Value)(w:World):Prop :=
 ∃ i v,vs=[vv,v,.int .i64 (i:Nat)]/\i<=val.length/\n=val.length - i/\NwB w0 w v (0::k++val.take i)/\No w0 w
theorem qXu (h:i<l.length):l.take i++[l.getD i 0]=l.take (i+1):=qVf (by rw[List.getElem?_eq_getElem h,qQw 0 h])
theorem NwB.grow {bs:Bs}(B:NwB w0 w v bs)(x:Byte)(L:bs.length<=70000000000000)(f:No w0 w) :
  ∃ A w',(Builtin.append_ #[22,22] 0 #[v,.slice (some ⟨w.heap.size,0,none⟩) 1 1]).run prog (w.alloc (.cells (bl [x]) 5))=.ok A w'/\NwB w0 w' A (bs++[x])/\No w0 w'/\Fr (fun b=>qQf v=some b) w w' /\
   ∀ b,qQf A=some b->qQf v=some b∨w.heap.size<=b:=by
 obtain⟨A,w',D,E,H,I,J⟩:=app_fresh app22_22 B (m:=1) (xs:=bl [x]) sm rfl x8 (bd47 x8) x8 f;refine⟨A,w',D,?_,H,I,J⟩;unfold NwB;rw[lAp,List.map_append];exact E
theorem leafText (w0:World)(hk:k.length=32)(hv:By w0 vv val)(hl:val.length<=549755813888) :
  Fn prog 172 #[dg k,vv] w0 fun v w'=>NwB w0 w' v (leafT k val)/\No w0 w':=by
 refine go172 sm ?_;have U:No w0 (w0.alloc (.cells (bl k) 76)):=(Fr.refl _ _).alloc _;have k1:(w0.alloc (.cells (bl k) 76)).heap[w0.heap.size]?=some (.cells (bl k) 76 (0,0)):=qQb _ _;have z1:(w0.alloc (.cells (bl k) 76)).heap.size=w0.heap.size+1:=qQg _ _;simp only[go_sem,Tryz.f172,yU];generalize w0.alloc (.cells (bl k) 76)=W at *;refine qQn (v:=.slice (some ⟨W.heap.size,0,none⟩) 1 1) (w':=W.alloc (.cells (bl [0]) 5)) (by rw[<- z1];rfl) ?_;simp only[go_sem];have b1:NwB w0 (W.alloc (.cells (bl [0]) 5)) (.slice (some ⟨W.heap.size,0,none⟩) 1 1) (0::k.take 0):=mk_nw w0 W 5 1 1 1 (bl [0]) U.size rfl (xC _);refine loopD [1,2,5,6] (ltI w0 k vv) 32 ⟨0,.slice (some ⟨W.heap.size,0,none⟩) 1 1,rfl,x8,rfl,b1,qQs k1,fun b D=>by simp only[qQf,oSi]at D;omega,U.alloc _⟩ ?_;rintro _ vs L g ⟨i,v,rfl,hi,rfl,b2,M,n2,V⟩
 by_cases A:i<32
 ·have E:=dTo ((i:Int)<32)
  have c1:=iSu (i:=i);have y:=iBd (i:=i) (n:=32);have r:rdO prog 5 L w0.heap.size i=some (u8 (k.getD i 0)):=rd1 agg5 M (bl_at x8);have B:=qXu (l:=k) (i:=i) x8;obtain⟨N,I,O,H,J,Y,h3⟩:=NwB.grow b2 (k.getD i 0) (by simp;omega) V;rw[List.cons_append,B]at H;generalize k.getD i 0=x at *;simp only[go_sem,j7,E,y,and_self,iTn,j8,r];refine qQn (v:=.slice (some ⟨L.heap.size,0,none⟩) 1 1) (w':=L.alloc (.cells (bl [x]) 5)) rfl ?_;simp only[go_sem,j7];refine qQj ⟨N,I,O,?_⟩;simp only[go_sem,j7,c1];refine⟨32 - (i+1),x8,i+1,N,rfl,x8,rfl,H,Y.at M fun h=>n2 _ h rfl,fun b D=>?_,J⟩
  rcases h3 b D with h | h
  ·exact n2 b h
  ·have:=qQi M;omega
 ·have E:=dFo ((i:Int)<32)
  have e:i=32:=x8
  subst e;rw[zB x8]at b2;simp only[go_sem,j7,E];refine loopD [1,5,7] (ltJ w0 k val vv) val.length ⟨0,v,rfl,x8,rfl,by rw[jT,z4];exact b2,V⟩ ?_;rintro _ vs I Y ⟨i,N,rfl,hi,rfl,H,J⟩;obtain⟨va,vc,rfl,Z,R⟩:=hv.at
  by_cases A:i<val.length
  ·have E:=dTo ((i:Int)<((val.length:Nat):Int))
   have c1:=iSu (i:=i);have y:=iBd (i:=i) (n:=val.length);obtain⟨b,o,rfl,D⟩:=R i A;have r:rdO prog 5 I b (o+i)=some (u8 (val.getD i 0)):=rd_rc agg5 (by rw[J.rc (rc_lt D) id,D,qQw 0 A]);have B:=qXu (l:=val) (i:=i) A;obtain⟨v4,w4,T,b4,f4,g4,_⟩:=NwB.grow H (val.getD i 0) (by simp;omega) J;rw[zU,B]at b4;generalize val.getD i 0=x at *;simp only[go_sem,j7,y,and_self,iTn,j8,r];refine qQn (v:=.slice (some ⟨I.heap.size,0,none⟩) 1 1) (w':=I.alloc (.cells (bl [x]) 5)) rfl ?_;simp only[go_sem,j7];refine qQj ⟨v4,w4,T,?_⟩;simp only[go_sem,j7,c1];exact⟨val.length - (i+1),x8,i+1,v4,rfl,x8,rfl,b4,f4⟩
  ·have E:=dFo ((i:Int)<((val.length:Nat):Int))
   have e:i=val.length:=x8
   subst e;rw[List.take_length]at H;simp only[go_sem,j7,E];exact⟨H,J⟩
def btI (w0:World)(A:Nat)(d l r:Bs)(B:Bs)(D:Nat)(n:Nat)(vs:List Value)(w:World)(keep:Bool):Prop :=
 ∃ i v,vs=(if keep then [pt w0.heap.size 0,pt (w0.heap.size+1) 0,.int .i64 (A:Nat),v,.int .i64 (i:Nat)] else [pt (w0.heap.size+1) 0,.int .i64 (A:Nat),v,.int .i64 (i:Nat)])/\i<=A/\n=A - i/\NwB w0 w v (B++d.take i) /\
  w.heap[w0.heap.size]?=some (.cells (bl l) 75 (0,0))/\w.heap[w0.heap.size+1]?=some (.cells (bl r) 75 (0,0))/\(∀ b,qQf v=some b->w0.heap.size+1<b)/\No w0 w
theorem branchText (w0:World)(width:Int)(hl:l.length=32)(hr:r.length=32) :
  Fn prog 134 #[.int .i64 width,dg l,dg r] w0 fun v w'=>NwB w0 w' v (qWg width l r)/\No w0 w':=by
 refine go134 sm ?_;have f1:No w0 ((w0.alloc (.cells (bl l) 75)).alloc (.cells (bl r) 75)):=((Fr.refl _ _).alloc _).alloc _;have k1:((w0.alloc (.cells (bl l) 75)).alloc (.cells (bl r) 75)).heap[w0.heap.size]?=some (.cells (bl l) 75 (0,0)):=qQs (qQb _ _)
 have j1:((w0.alloc (.cells (bl l) 75)).alloc (.cells (bl r) 75)).heap[w0.heap.size+1]?=some (.cells (bl r) 75 (0,0)):=by
  have:=qQb (w0.alloc (.cells (bl l) 75)) (.cells (bl r) 75);rw[qQg]at this;exact this
 simp only[go_sem,j7,Tryz.f134,yU];generalize (w0.alloc (.cells (bl l) 75)).alloc (.cells (bl r) 75)=W at *;refine qQa pl168 ((within W width 0 32 j0).mono ?_);rintro _ _ ⟨rfl,rfl⟩;have hw:=wid_le width;rw[widI];rename_i E;simp only[go_sem];refine qQn (v:=.slice (some ⟨E.heap.size,0,none⟩) 1 1) (w':=E.alloc (.cells (bl [1]) 5)) rfl ?_;simp only[go_sem];have b1:NwB w0 (E.alloc (.cells (bl [1]) 5)) (.slice (some ⟨E.heap.size,0,none⟩) 1 1) [1]:=mk_nw w0 E 5 1 1 1 (bl [1]) f1.size rfl (xC _);have hsz:=qQi j1;unfold qWg;generalize wid width=A at *;refine loopD [4,5,7,8,9] (fun n vs w=>btI w0 A l l r [1] 0 n vs w true) A ⟨0,.slice (some ⟨E.heap.size,0,none⟩) 1 1,rfl,x8,rfl,by rw[jT,z4];exact b1,qQs k1,qQs j1,fun b H=>by simp only[qQf,oSi]at H;omega,f1.alloc _⟩ ?_;rintro _ vs M g ⟨i,v,rfl,hi,rfl,b2,N,O,n2,f2⟩
 by_cases R:i<A
 ·have B:=dTo ((i:Int)<((A:Nat):Int))
  have c1:=iSu (i:=i);have y:=iBd (i:=i) (n:=32);have T:rdO prog 5 M w0.heap.size i=some (u8 (l.getD i 0)):=rd1 agg5 N (bl_at x8);have D:=qXu (l:=l) (i:=i) x8;obtain⟨U,I,V,J,L,Y,h3⟩:=NwB.grow b2 (l.getD i 0) (by simp;omega) f2;rw[zU,D]at J;generalize l.getD i 0=x at *;simp only[go_sem,j7,B,y,and_self,iTn,j8,T];refine qQn (v:=.slice (some ⟨M.heap.size,0,none⟩) 1 1) (w':=M.alloc (.cells (bl [x]) 5)) rfl ?_;simp only[go_sem,j7];refine qQj ⟨U,I,V,?_⟩;simp only[go_sem,j7,c1];refine⟨A - (i+1),x8,i+1,U,rfl,x8,rfl,J,Y.at N fun h=>by have:=n2 _ h;omega,Y.at O fun h=>by have:=n2 _ h;omega,fun b H=>?_,L⟩
  rcases h3 b H with h | h
  ·exact n2 b h
  ·have:=qQi O;omega
 ·have B:=dFo ((i:Int)<((A:Nat):Int))
  have e:i=A:=x8
  subst e;simp only[go_sem,j7,B];refine loopD [5,7,8,10] (fun n vs w=>btI w0 i r l r ([1]++l.take i) 0 n vs w false) i ⟨0,v,rfl,x8,rfl,by rw[jT,z4];exact b2,N,O,n2,f2⟩ ?_;rintro _ vs I Y ⟨j,U,rfl,hj,rfl,J,k3,Z,n3,L⟩
  by_cases R:j<i
  ·have B:=dTo ((j:Int)<((i:Nat):Int))
   have c1:=iSu (i:=j);have y:=iBd (i:=j) (n:=32);have T:rdO prog 5 I (w0.heap.size+1) j=some (u8 (r.getD j 0)):=rd1 agg5 Z (bl_at x8);have D:=qXu (l:=r) (i:=j) x8;obtain⟨v4,w4,a0,b4,f4,g4,h4⟩:=NwB.grow J (r.getD j 0) (by simp;omega) L;rw[zU,D]at b4;generalize r.getD j 0=x at *;simp only[go_sem,j7,B,y,and_self,iTn,j8,T];refine qQn (v:=.slice (some ⟨I.heap.size,0,none⟩) 1 1) (w':=I.alloc (.cells (bl [x]) 5)) rfl ?_;simp only[go_sem,j7];refine qQj ⟨v4,w4,a0,?_⟩;simp only[go_sem,j7,c1];refine⟨i - (j+1),x8,j+1,v4,rfl,x8,rfl,b4,g4.at k3 fun h=>by have:=n3 _ h;omega,g4.at Z fun h=>by have:=n3 _ h;omega,fun b H=>?_,f4⟩
   rcases h4 b H with h | h
   ·exact n3 b h
   ·have:=qQi Z;omega
  ·have B:=dFo ((j:Int)<((i:Nat):Int))
   have e:j=i:=x8
   subst e;simp only[go_sem,j7,B];exact⟨by simpa using J,L⟩
theorem leaf (w0:World)(I:Tabs w0)(width:Int)(D:k.length=32)(J:By w0 vv val)(L:val.length<=549755813888) :
  Fn prog 144 #[.int .i64 width,dg k,vv] w0 fun v w'=>v=dg (leafD width k val)/\No w0 w':=by
 refine go144 sm ?_;have A:No w0 ((w0.alloc (.cells (bl k) 76)).alloc (.cells (bl (zG 32 0)) 75)):=((Fr.refl _ _).alloc _).alloc _;have M:((w0.alloc (.cells (bl k) 76)).alloc (.cells (bl (zG 32 0)) 75)).heap[w0.heap.size]?=some (.cells (bl k) 76 (0,0)):=qQs (qQb _ _)
 have N:((w0.alloc (.cells (bl k) 76)).alloc (.cells (bl (zG 32 0)) 75)).heap[w0.heap.size+1]?=some (.cells (bl (zG 32 0)) 75 (0,0)):=by
  have:=qQb (w0.alloc (.cells (bl k) 76)) (.cells (bl (zG 32 0)) 75);rw[qQg]at this;exact this
 simp only[go_sem,j7,Tryz.f144,yU,qQk];generalize (w0.alloc (.cells (bl k) 76)).alloc (.cells (bl (zG 32 0)) 75)=W at *;have O:=rd_d agg76 sz76 M D;simp only[go_sem,j7,O];refine qQa pl172 ((leafText W D (J.fr0 A) L).mono ?_);rintro T R ⟨b2,B⟩;simp only[go_sem,j7];refine qQa pl95 ((rcut R ((I.no A).no B) width b2.by (by rw[leafT_len];omega)).mono ?_);rintro _ U ⟨rfl,E⟩;have H:=E.at (B.at N id) id;have e:hcut width (leafT k val)=leafD width k val:=rfl;rw[e];have q:=wr_d sz75 H zl32 (qZo width k val);have r:=rd_d agg75 sz75 (qQd (o:=.cells (bl (leafD width k val)) 75 (0,0)) H) (qZo width k val);generalize leafD width k val=d at q r;simp only[go_sem,j7,q,r];exact ((A.trans B).trans E).put (b:=w0.heap.size+1) _ fun h=>by omega
theorem branch (w0:World)(L:Tabs w0)(width:Int)(B:l.length=32)(D:r.length=32) :
  Fn prog 96 #[.int .i64 width,dg l,dg r] w0 fun v w'=>v=dg (qXk width l r)/\No w0 w':=by
 refine go96 sm ?_;have E:No w0 (((w0.alloc (.cells (bl l) 75)).alloc (.cells (bl r) 75)).alloc (.cells (bl (zG 32 0)) 75)):=(((Fr.refl _ _).alloc _).alloc _).alloc _;have M:(((w0.alloc (.cells (bl l) 75)).alloc (.cells (bl r) 75)).alloc (.cells (bl (zG 32 0)) 75)).heap[w0.heap.size]?=some (.cells (bl l) 75 (0,0)):=qQs (qQs (qQb _ _))
 have N:(((w0.alloc (.cells (bl l) 75)).alloc (.cells (bl r) 75)).alloc (.cells (bl (zG 32 0)) 75)).heap[w0.heap.size+1]?=some (.cells (bl r) 75 (0,0)):=by
  have:=qQb (w0.alloc (.cells (bl l) 75)) (.cells (bl r) 75);rw[qQg]at this;exact qQs this
 have O:(((w0.alloc (.cells (bl l) 75)).alloc (.cells (bl r) 75)).alloc (.cells (bl (zG 32 0)) 75)).heap[w0.heap.size+1+1]?=some (.cells (bl (zG 32 0)) 75 (0,0)):=by
  have:=qQb ((w0.alloc (.cells (bl l) 75)).alloc (.cells (bl r) 75)) (.cells (bl (zG 32 0)) 75);rw[qQg,qQg]at this;exact this
 simp only[go_sem,j7,Tryz.f96,yU,qQk];generalize ((w0.alloc (.cells (bl l) 75)).alloc (.cells (bl r) 75)).alloc (.cells (bl (zG 32 0)) 75)=W at *;have R:=rd_d agg75 sz75 M B;have T:=rd_d agg75 sz75 N D;simp only[go_sem,j7,R,T];refine qQa pl134 ((branchText W width B D).mono ?_);rintro V U ⟨b2,A⟩;simp only[go_sem,j7];refine qQa pl95 ((rcut U ((L.no E).no A) width b2.by (by have:=branchT_len width l r;omega)).mono ?_);rintro _ Y ⟨rfl,H⟩;have I:=H.at (A.at O id) id;have e:hcut width (qWg width l r)=qXk width l r:=rfl;rw[e];have q:=wr_d sz75 I zl32 (qXp width l r);have J:=rd_d agg75 sz75 (qQd (o:=.cells (bl (qXk width l r)) 75 (0,0)) I) (qXp width l r);generalize qXk width l r=d at q J;simp only[go_sem,j7,q,J];exact ((E.trans A).trans H).put (b:=w0.heap.size+1+1) _ fun h=>by omega
end R
theorem fill_one {z:List Value}(A:z.length=32){c:Array Value}(B:c.size=32){d:List Byte}(D:d.length=32){y:List Value}(E:y=z)(g:Array Value->Value × World) :
  (Sum.inl (if 1*32<=2 ^ 24/\0<32/\c.size=32 then Option.map g (Instr.fill (fun i=>some (i*32,32)) (zrow y 1) [(0,dg d)]) else none):Out)=.inl (some (g (bl d))):=by
 subst E;rw[fill_dg A D,if_pos ⟨j0,j0,B⟩];rfl
theorem NwD.one {d:List Byte}(A:d.length=32)(f:w0.heap.size<=w.heap.size):NwD w0 (w.alloc (.cells (bl d) e)) e (.slice (some ⟨w.heap.size,0,none⟩) 1 1) [d]:=by
 have:=mk_nw w0 w e 32 1 1 (bl d) f (by rw[qXn,A]) (xC _);refine⟨All32.one A,?_⟩;rw[flat_one];have B:(bl d).toList.take (1*32)=d.map u8:=by rw[zB (by simp[A])]
 rw[<- B];exact this
theorem NwD.put {e b:Nat}{ds:List (List Byte)}(h:NwD w0 w e v ds)(o:Obj)(B:∀ c,qQf v=some c->c≠b)(D:fzO o=false:=by rfl):NwD w0 (V.put w b o) e v ds :=
 h.fr ((Fr.refl (fun c=>c=b) w).put o (fun _=>rfl) D) fun c E A=>B c E A
namespace R
def epI (w0:World)(width:Int)(A:Nat)(n:Nat)(vs:List Value)(w:World):Prop :=
 ∃ i v,vs=[.int .i64 width,pt A 0,v,.int .i64 (i:Nat)]/\i<=256/\n=256 - i/\NwD w0 w 75 v (empts width (i+1))/\w.heap[A]?=some (.cells (bl (emptD width i)) 75 (0,0))/\w0.heap.size<=A/\(∀ b,qQf v=some b->b≠A)/\No w0 w
theorem empts_succ (width:Int)(n:Nat):empts width (n+1)=empts width n++[emptD width n]:=by simp[empts,List.range_succ]
theorem empties (w0:World)(ht:Tabs w0)(width:Int):Fn prog 55 #[.int .i64 width] w0 fun v w'=>NwD w0 w' 75 v (empts width 257)/\No w0 w':=by
 refine go55 sm ?_;simp only[go_sem,Tryz.f55];refine qQn (v:=.slice (some ⟨w0.heap.size,0,none⟩) 1 1) (w':=w0.alloc (.cells (bl [2]) 5)) rfl ?_;simp only[go_sem,j7];have H:No w0 (w0.alloc (.cells (bl [2]) 5)):=(Fr.refl _ _).alloc _;have b1:NwB w0 (w0.alloc (.cells (bl [2]) 5)) (.slice (some ⟨w0.heap.size,0,none⟩) 1 1) [2]:=mk_nw w0 w0 5 1 1 1 (bl [2]) (xC _) rfl (xC _);refine qQa pl95 ((rcut _ (ht.no H) width b1.by sm).mono ?_);rintro _ A ⟨rfl,L⟩;have M:hcut width [2]=emptD width 0:=rfl;rw[M];have q:=wr_d sz75 (qQb A (.cells (bl (zG 32 0)) 75)) zl32 (qQy width 0);have k3:=qQd (o:=.cells (bl (emptD width 0)) 75 (0,0)) (qQb A (.cells (bl (zG 32 0)) 75));have f3:No w0 (put (A.alloc (.cells (bl (zG 32 0)) 75)) A.heap.size (.cells (bl (emptD width 0)) 75 (0,0))):=((H.trans L).alloc _).put (b:=A.heap.size) _ fun h=>by have:=H.size;have:=L.size;omega
 have z3:w0.heap.size<=A.heap.size:=(H.trans L).size;have hr:=rd_d agg75 sz75 k3 (qQy width 0);have E:=qQy width 0;simp only[go_sem,j7,yU,qQk,q,hr];generalize N:put (A.alloc (.cells (bl (zG 32 0)) 75)) A.heap.size (.cells (bl (emptD width 0)) 75 (0,0))=I at *;have hsz:I.heap.size=A.heap.size+1:=by rw[<- N];simp[put]
 have hy:List.map u8 (zG 32 0)=zG 32 (u8 0):=List.map_replicate;refine qQn (v:=.slice (some ⟨A.heap.size+1,0,none⟩) 1 1) (w':=I.alloc (.cells (bl (emptD width 0)) 75)) (fill_one (z:=zG 32 (u8 0)) (y:=List.map u8 (zG 32 0)) (c:=bl (zG 32 0)) lRe (by rw[qXn,lRe]) E hy _) ?_
 have b4:NwD w0 (I.alloc (.cells (bl (emptD width 0)) 75)) 75 (.slice (some ⟨A.heap.size+1,0,none⟩) 1 1) (empts width (0+1)):=by
  rw[<- hsz];exact NwD.one E f3.size
 have f4:=f3.alloc (.cells (bl (emptD width 0)) 75);have k4:=qQs (o:=.cells (bl (emptD width 0)) 75) k3;generalize I.alloc (.cells (bl (emptD width 0)) 75)=w4 at *;simp only[go_sem];refine loopD [0,3,4,5] (epI w0 width A.heap.size) 256 ⟨0,.slice (some ⟨A.heap.size+1,0,none⟩) 1 1,rfl,x8,rfl,b4,k4,z3,fun b O=>by simp only[qQf,oSi]at O;omega,f4⟩ ?_;rintro _ vs w5 g ⟨i,v,rfl,hi,rfl,b5,k5,z5,R,T⟩
 by_cases a0:i<256
 ·have U:=dTo ((i:Int)<256)
  have c1:=iSu (i:=i);have B:=qQy width i;have r:=rd_d agg75 sz75 k5 B;simp only[go_sem,j7,U,r];refine qQa pl96 ((branch w5 (ht.no T) width B B).mono ?_);rintro _ J ⟨rfl,V⟩;have M:qXk width (emptD width i) (emptD width i)=emptD width (i+1):=rfl;rw[M];have k6:=V.at k5 id;have D:=qQy width (i+1);have q:=wr_d sz75 k6 B D;have W:=qQd (o:=.cells (bl (emptD width (i+1))) 75 (0,0)) k6;have r7:=rd_d agg75 sz75 W D;have f7:No w0 (put J A.heap.size (.cells (bl (emptD width (i+1))) 75 (0,0))):=(T.trans V).put (b:=A.heap.size) _ fun h=>by omega
  have b7:=(b5.fr0 V).put (.cells (bl (emptD width (i+1))) 75 (0,0)) R;simp only[go_sem,j7,yU,qQk,q,r7];have Y:(put J A.heap.size (.cells (bl (emptD width (i+1))) 75 (0,0))).heap.size=J.heap.size:=by simp[put]
  generalize put J A.heap.size (.cells (bl (emptD width (i+1))) 75 (0,0))=w7 at *;rw[<- Y];refine qQn (v:=.slice (some ⟨w7.heap.size,0,none⟩) 1 1) (w':=w7.alloc (.cells (bl (emptD width (i+1))) 75)) (fill_one (z:=zG 32 (u8 0)) (y:=List.map u8 (zG 32 0)) (c:=bl (zG 32 0)) lRe (by rw[qXn,lRe]) D hy _) ?_;obtain⟨v8,w8,Z,b8,f8,g8,h8⟩:=b7.push app71_71 D (by rw[qXe];omega) f7;rw[<- empts_succ]at b8;simp only[go_sem,j7];refine qQj ⟨v8,w8,Z,?_⟩;simp only[go_sem,j7,c1];refine⟨256 - (i+1),x8,i+1,v8,rfl,x8,rfl,b8,g8.at W fun h=>R _ h rfl,z3,fun b O=>?_,f8⟩
  rcases h8 b O with h | h
  ·exact R b h
  ·have:=qQi W;omega
 ·have U:=dFo ((i:Int)<256)
  have e:i=256:=x8
  subst e;simp only[go_sem,j7,U];exact⟨b5,T⟩
end R
def kb (k:Bs)(i:Nat):Int:=if kbit k i then 1 else 0
theorem kb_div (k:Bs)(i:Nat):(((k.getD (i / 8) 0).toNat / 2 ^ (7 - i % 8) % 2:Nat):Int)=kb k i:=by
 unfold kb kbit
 have:(k.getD (i / 8) 0).getLsbD (7 - i % 8)=decide ((k.getD (i / 8) 0).toNat / 2 ^ (7 - i % 8) % 2=1):=by
  show Nat.testBit _ _=_;rw[yH]
 rw[this];have A:(k.getD (i / 8) 0).toNat / 2 ^ (7 - i % 8) % 2<2:=Nat.mod_lt _ j0;split
 ·rename_i h;rw[of_decide_eq_true h];rfl
 ·rename_i h
  have:¬ ((k.getD (i / 8) 0).toNat / 2 ^ (7 - i % 8) % 2=1):=fun e=>h (decide_eq_true e);have:(k.getD (i / 8) 0).toNat / 2 ^ (7 - i % 8) % 2=0:=x8
  rw[this];rfl
theorem shr64i (a k:Nat)(A:k<=64):shrK .i64 (a:Int) (k:Int)=((a / 2 ^ k:Nat):Int):=by
 have e:shrK .i64 (a:Int) (k:Int)=(a:Int).fdiv (2 ^ (min ((k:Nat):Int).toNat 64)):=rfl;rw[e,iTn,Nat.min_eq_left A,fdivn]
theorem shr8i (a k:Nat)(A:k<=8):shrK .u8 (a:Int) (k:Int)=((a / 2 ^ k:Nat):Int):=by
 have e:shrK .u8 (a:Int) (k:Int)=(a:Int).fdiv (2 ^ (min ((k:Nat):Int).toNat 8)):=rfl;rw[e,iTn,Nat.min_eq_left A,fdivn]
theorem and64i (a b:Nat)(A:a<2 ^ 62)(B:b<2 ^ 62):andK .i64 (a:Int) (b:Int)=((a &&& b:Nat):Int):=by
 have e:andK .i64 (a:Int) (b:Int)=IntKind.i64.wrap (((qQ 64 (a:Int) &&& qQ 64 (b:Int)).toNat:Nat):Int):=rfl;rw[e,xW,xW,BitVec.toNat_and,zY,zY,yP x8,yP x8];exact i64n (by have:=Nat.and_le_left (n:=a) (m:=b);omega)
theorem and64m (a k:Nat)(A:a<2 ^ 62)(B:k<62):andK .i64 (a:Int) ((2 ^ k - 1:Nat):Int)=((a % 2 ^ k:Nat):Int):=by
 have:2 ^ k<2 ^ 62:=Nat.pow_lt_pow_right j0 B;rw[and64i a _ A x8,Nat.and_two_pow_sub_one_eq_mod]
theorem and64_7 (a:Nat)(A:a<2 ^ 62):andK .i64 (a:Int) 7=((a % 8:Nat):Int):=and64m a 3 A j0
theorem and64_1 (a:Nat)(A:a<2 ^ 62):andK .i64 (a:Int) 1=((a % 2:Nat):Int):=and64m a 1 A j0
theorem xor8 (x y:Byte):xorK .u8 (x.toNat:Int) (y.toNat:Int)=((x ^^^ y).toNat:Int):=by
 have e:xorK .u8 (x.toNat:Int) (y.toNat:Int)=IntKind.u8.wrap (((qQ 8 (x.toNat:Int) ^^^ qQ 8 (y.toNat:Int)).toNat:Nat):Int):=rfl;rw[e,xW,xW,xU,xU,xY,xY];exact w8_toNat _
namespace R
def biI (w0:World)(x A:Nat)(n:Nat)(vs:List Value)(w:World):Prop :=
 ∃ j,vs=[.int .i64 ((x / 2 ^ (j - A):Nat):Int),.int .i64 (j:Nat)]/\A<=j/\j<=7/\n=7 - j/\No w0 w
theorem bit (w0:World)(M:k.length=32)(hi:i<256):Fn prog 170 #[dg k,.int .i64 (i:Nat)] w0 fun v w'=>v=.int .i64 (kb k i)/\No w0 w':=by
 refine go170 sm ?_;have H:No w0 (w0.alloc (.cells (bl k) 76)):=(Fr.refl _ _).alloc _;have I:(w0.alloc (.cells (bl k) 76)).heap[w0.heap.size]?=some (.cells (bl k) 76 (0,0)):=qQb _ _;have J:((8:Int)=0)=False:=sm
 have n2:((2:Int)=0)=False:=sm
 have a1:IntKind.i64.wrap ((i:Int).tdiv 8)=((i / 8:Nat):Int):=by
  rw[show (i:Int).tdiv 8=((i / 8:Nat):Int) from rfl];exact i64n
 have a2:(i:Int).tmod 8=((i % 8:Nat):Int):=rfl;have y:(0:Int)<=((i / 8:Nat):Int)/\((i / 8:Nat):Int)<((32:Nat):Int):=x8
 have r:rdO prog 5 (w0.alloc (.cells (bl k) 76)) w0.heap.size (i / 8)=some (.int .u8 ((k.getD (i / 8) 0).toNat:Int)):=rd1 agg5 I (bl_at x8);have c1:IntKind.i64.wrap ((k.getD (i / 8) 0).toNat:Int)=((k.getD (i / 8) 0).toNat:Int):=i64n (by have:=(k.getD (i / 8) 0).isLt;omega);have A:=kb_div k i;have N:(k.getD (i / 8) 0).toNat<256:=(k.getD (i / 8) 0).isLt;simp -implicitDefEqProofs only[go_sem,j7,Tryz.f170,yU,J,a1,a2,y,and_self,iTn,j8,r,c1];generalize (k.getD (i / 8) 0).toNat=x at *;refine loopD [5,6] (biI w0 x (i % 8)) (7 - i % 8) ⟨i % 8,by rw[Nat.sub_self,Nat.pow_zero,Nat.div_one];rfl,xC _,x8,rfl,H⟩ ?_;rintro _ vs O g ⟨j,rfl,R,T,rfl,E⟩;have U:x / 2 ^ (j - i % 8)<=x:=yM _ _
 by_cases L:j<7
 ·have B:=dTo ((j:Int)<7)
  have c2:=iSu (i:=j)
  have D:IntKind.i64.wrap (((x / 2 ^ (j - i % 8):Nat):Int).tdiv 2)=((x / 2 ^ (j+1 - i % 8):Nat):Int):=by
   rw[show ((x / 2 ^ (j - i % 8):Nat):Int).tdiv 2=((x / 2 ^ (j - i % 8) / 2:Nat):Int) from rfl,yD,<- yN,show (j - i % 8).succ=j+1 - i % 8 by omega];exact i64n (by have:=yM x (2 ^ (j+1 - i % 8));omega)
  simp -implicitDefEqProofs only[go_sem,j7,B,n2,c2,D];exact⟨7 - (j+1),x8,j+1,rfl,x8,x8,rfl,E⟩
 ·have B:=dFo ((j:Int)<7)
  have e:j=7:=x8
  subst e;have D:(((x / 2 ^ (7 - i % 8):Nat):Int).tmod 2)=kb k i:=A;simp -implicitDefEqProofs only[go_sem,j7,B,n2,D];exact E
theorem bit3 (w0:World)(O:k.length=32)(hi:i<256):Fn prog 171 #[dg k,.int .i64 (i:Nat)] w0 fun v w'=>v=.int .i64 (kb k i)/\No w0 w':=by
 refine go171 sm ?_;have H:No w0 (w0.alloc (.cells (bl k) 76)):=(Fr.refl _ _).alloc _;have I:(w0.alloc (.cells (bl k) 76)).heap[w0.heap.size]?=some (.cells (bl k) 76 (0,0)):=qQb _ _;have J:((8:Int)=0)=False:=sm
 have n2:((2:Int)=0)=False:=sm
 have a1:IntKind.i64.wrap ((i:Int).tdiv 8)=((i / 8:Nat):Int):=by
  rw[show (i:Int).tdiv 8=((i / 8:Nat):Int) from rfl];exact i64n
 have a2:(i:Int).tmod 8=((i % 8:Nat):Int):=rfl;have y:(0:Int)<=((i / 8:Nat):Int)/\((i / 8:Nat):Int)<((32:Nat):Int):=x8
 have r:rdO prog 5 (w0.alloc (.cells (bl k) 76)) w0.heap.size (i / 8)=some (.int .u8 ((k.getD (i / 8) 0).toNat:Int)):=rd1 agg5 I (bl_at x8);have c1:IntKind.i64.wrap ((k.getD (i / 8) 0).toNat:Int)=((k.getD (i / 8) 0).toNat:Int):=i64n (by have:=(k.getD (i / 8) 0).isLt;omega);have A:=kb_div k i;have R:(k.getD (i / 8) 0).toNat<256:=(k.getD (i / 8) 0).isLt;have L:decide ((i:Int)<0)=false:=sm
 have M:=dFo ((i:Int) > 255);simp -implicitDefEqProofs only[go_sem,j7,bSe,Tryz.f171,yU,L,M,J,a1,a2,y,and_self,iTn,j8,r,c1];generalize (k.getD (i / 8) 0).toNat=x at *;refine loopD [5,6] (biI w0 x (i % 8)) (7 - i % 8) ⟨i % 8,by rw[Nat.sub_self,Nat.pow_zero,Nat.div_one];rfl,xC _,x8,rfl,H⟩ ?_;rintro _ vs T g ⟨j,rfl,U,V,rfl,E⟩;have W:x / 2 ^ (j - i % 8)<=x:=yM _ _
 by_cases N:j<7
 ·have B:=dTo ((j:Int)<7)
  have c2:=iSu (i:=j)
  have D:IntKind.i64.wrap (((x / 2 ^ (j - i % 8):Nat):Int).tdiv 2)=((x / 2 ^ (j+1 - i % 8):Nat):Int):=by
   rw[show ((x / 2 ^ (j - i % 8):Nat):Int).tdiv 2=((x / 2 ^ (j - i % 8) / 2:Nat):Int) from rfl,yD,<- yN,show (j - i % 8).succ=j+1 - i % 8 by omega];exact i64n (by have:=yM x (2 ^ (j+1 - i % 8));omega)
  simp -implicitDefEqProofs only[go_sem,j7,B,n2,c2,D];exact⟨7 - (j+1),x8,j+1,rfl,x8,x8,rfl,E⟩
 ·have B:=dFo ((j:Int)<7)
  have e:j=7:=x8
  subst e;have D:(((x / 2 ^ (7 - i % 8):Nat):Int).tmod 2)=kb k i:=A;simp -implicitDefEqProofs only[go_sem,j7,B,n2,D];exact E
end R
theorem bbit (w0:World)(N:k.length=32)(hi:i<256):Fn prog 194 #[dg k,.int .i64 (i:Nat)] w0 fun v w'=>v=.int .i64 (kb k i)/\No w0 w':=by
 refine go194 sm ?_;have B:No w0 (w0.alloc (.cells (bl k) 76)):=(Fr.refl _ _).alloc _;have D:(w0.alloc (.cells (bl k) 76)).heap[w0.heap.size]?=some (.cells (bl k) 76 (0,0)):=qQb _ _;have E:decide ((i:Int)<0)=false:=sm
 have H:=dFo ((i:Int) ≥ 256);have a1:shrK .i64 (i:Int) 3=((i / 8:Nat):Int):=shr64i i 3 x8;have a2:andK .i64 (i:Int) 7=((i % 8:Nat):Int):=and64_7 i x8;have I:IntKind.i64.wrap (7 - ((i % 8:Nat):Int))=((7 - i % 8:Nat):Int):=qXv (a:=7) (b:=i % 8) x8 x8;have n1:¬ ((3:Int)<0):=x8
 have n2:¬ (((7 - i % 8:Nat):Int)<0):=x8
 have y:(0:Int)<=((i / 8:Nat):Int)/\((i / 8:Nat):Int)<((32:Nat):Int):=x8
 have r:rdO prog 5 (w0.alloc (.cells (bl k) 76)) w0.heap.size (i / 8)=some (.int .u8 ((k.getD (i / 8) 0).toNat:Int)):=rd1 agg5 D (bl_at x8);have A:=kb_div k i;have O:(k.getD (i / 8) 0).toNat<256:=(k.getD (i / 8) 0).isLt;generalize (k.getD (i / 8) 0).toNat=x at *;have J:shrK .u8 (x:Int) ((7 - i % 8:Nat):Int)=((x / 2 ^ (7 - i % 8):Nat):Int):=shr8i x _ x8;have R:x / 2 ^ (7 - i % 8)<=x:=yM _ _;have L:IntKind.i64.wrap ((x / 2 ^ (7 - i % 8):Nat):Int)=((x / 2 ^ (7 - i % 8):Nat):Int):=i64n;have M:andK .i64 ((x / 2 ^ (7 - i % 8):Nat):Int) 1=kb k i:=by rw[<- A];exact and64_1 _ x8
 simp -implicitDefEqProofs only[go_sem,j7,bSe,Tryz.f194,yU,E,H,a1,a2,I,n1,n2,y,and_self,iTn,j8,r,J,L,M];exact B
def blen (z:Nat):Nat:=if z=0 then 0 else z.log2+1
theorem blen_le {z m:Nat}:blen z<=m ↔ z<2 ^ m:=by
 unfold blen;split
 ·rename_i h;subst h;simp[Nat.two_pow_pos]
 ·rename_i h;rw[<- Nat.log2_lt h];omega
theorem blen_bit (h:z≠0):z.testBit (blen z - 1)=true:=by
 have D:blen z=z.log2+1:=by unfold blen;rw[if_neg h]
 have A:¬ z<2 ^ (blen z - 1):=fun k=>by have:=blen_le.2 k;omega
 have B:z<2 ^ (blen z):=blen_le.1 (xC _);rw[D]at A B ⊢;rw[Nat.add_sub_cancel]at A ⊢;rw[yH,decide_eq_true_eq]
 have E:z / 2 ^ z.log2=1:=by
  apply Nat.div_eq_of_lt_le
  ·omega
  ·rw[yN]at B;omega
 rw[E]
theorem common_at (hi:i<32)(h:∀ j, j<i->a.getD j 0=b.getD j 0)(hne:a.getD i 0≠b.getD i 0) :
  common a b=8*i+(8 - blen (a.getD i 0 ^^^ b.getD i 0).toNat)/\0<blen (a.getD i 0 ^^^ b.getD i 0).toNat/\blen (a.getD i 0 ^^^ b.getD i 0).toNat<=8:=by
 have B:(a.getD i 0 ^^^ b.getD i 0).toNat≠0:=fun e=>hne (by
  have E:a.getD i 0 ^^^ b.getD i 0=0#8:=yG e
  exact BitVec.xor_eq_zero_iff.1 E)
 have H:blen (a.getD i 0 ^^^ b.getD i 0).toNat<=8:=blen_le.2 (a.getD i 0 ^^^ b.getD i 0).isLt;have I:0<blen (a.getD i 0 ^^^ b.getD i 0).toNat:=by unfold blen;rw[if_neg B];omega
 have D:∀ m,(a.getD i 0 ^^^ b.getD i 0).toNat.testBit m=Bool.xor ((a.getD i 0).getLsbD m) ((b.getD i 0).getLsbD m):=fun m=>by
  show (a.getD i 0 ^^^ b.getD i 0).getLsbD m=_;rw[xG]
 have J:=blen_bit B;have A:=blen_le.1 (xC (blen (a.getD i 0 ^^^ b.getD i 0).toNat));generalize L:blen (a.getD i 0 ^^^ b.getD i 0).toNat=n at *;refine⟨qKh (fun j M=>?_) (fun _=>?_) x8,I,H⟩
 ·by_cases N:j<8*i
  ·unfold kbit;rw[h (j / 8) x8]
  ·have e:j / 8=i:=x8
   unfold kbit;rw[e];have:=D (7 - j % 8);rw[yT (Nat.lt_of_lt_of_le A (yL j0 x8))]at this
   revert this
   cases (a.getD i 0).getLsbD (7 - j % 8) <;> cases (b.getD i 0).getLsbD (7 - j % 8) <;> simp
 ·unfold kbit
  rw[show (8*i+(8 - n)) / 8=i by omega,show 7 - (8*i+(8 - n)) % 8=n - 1 by omega];have:=D (n - 1);rw[J]at this
  revert this
  cases (a.getD i 0).getLsbD (n - 1) <;> cases (b.getD i 0).getLsbD (n - 1) <;> simp
def lenS:ByteArray:=⟨((([0,1,2,2,3,3,3,3,4,4,4,4,4,4,4,4,5,5,5,5,5,5,5,5,5,5,5,5,5,5,5,5,6,6,6,6,6,6,6,6,6,6,6,6,6,6,6,6,6,6,6,6,6,6,6,6,6,6,6,6,6,6,6,6]:List UInt8).append [7,7,7,7,7,7,7,7,7,7,7,7,7,7,7,7,7,7,7,7,7,7,7,7,7,7,7,7,7,7,7,7,7,7,7,7,7,7,7,7,7,7,7,7,7,7,7,7,7,7,7,7,7,7,7,7,7,7,7,7,7,7,7,7]).append (([8,8,8,8,8,8,8,8,8,8,8,8,8,8,8,8,8,8,8,8,8,8,8,8,8,8,8,8,8,8,8,8,8,8,8,8,8,8,8,8,8,8,8,8,8,8,8,8,8,8,8,8,8,8,8,8,8,8,8,8,8,8,8,8]:List UInt8).append [8,8,8,8,8,8,8,8,8,8,8,8,8,8,8,8,8,8,8,8,8,8,8,8,8,8,8,8,8,8,8,8,8,8,8,8,8,8,8,8,8,8,8,8,8,8,8,8,8,8,8,8,8,8,8,8,8,8,8,8,8,8,8,8])).toArray⟩
theorem lenS_at:∀ n:Fin 256,lenS[n.val]?=some (UInt8.ofNat (blen n.val)):=by decide +kernel
theorem len8 (w0:World)(x:Byte):Fn prog 196 #[u8 x] w0 fun v w'=>v=.int .i64 (blen x.toNat:Nat)/\w'=w0:=by
 refine go196 sm ?_;simp -implicitDefEqProofs only[go_sem,j7,Tryz.f196];have A:blen x.toNat<=8:=blen_le.2 x.isLt;refine qQn (v:=.int .u8 (blen x.toNat:Nat)) (w':=w0) ?_ ?_
 ·show val0 (if 0<=(x.toNat:Int) then Option.map _ (lenS[(x.toNat:Int).toNat]?) else none) w0=_
  rw[if_pos x8,iTn,lenS_at ⟨x.toNat,x.isLt⟩];simp only[qK,val0,UInt8.toNat_ofNat'];rw[yP x8]
 ·have c:IntKind.i64.wrap ((blen x.toNat:Nat):Int)=((blen x.toNat:Nat):Int):=i64n
  simp -implicitDefEqProofs only[go_sem,c,and_self]
theorem lz8 (w0:World)(x:Byte):Fn prog 192 #[u8 x] w0 fun v w'=>v=.int .i64 (8 - blen x.toNat:Nat)/\w'=w0:=by
 refine go192 sm ?_;simp -implicitDefEqProofs only[go_sem,j7,Tryz.f192];have A:blen x.toNat<=8:=blen_le.2 x.isLt;refine qQa pl196 ((len8 w0 x).mono ?_);rintro _ w' ⟨rfl,rfl⟩;have c:IntKind.i64.wrap (8 - ((blen x.toNat:Nat):Int))=((8 - blen x.toNat:Nat):Int):=qXv (a:=8) x8 x8;simp -implicitDefEqProofs only[go_sem,c,and_self]
theorem eqKey (A:a.length=32)(B:b.length=32):eqV prog Op.maxDepth 76 (dg a) (dg b)=some (a == b):=eqm_dg arr76 int5 sz5 agg5 A B
theorem eqDig (A:a.length=32)(B:b.length=32):eqV prog Op.maxDepth 75 (dg a) (dg b)=some (a == b):=eqm_dg arr75 int5 sz5 agg5 A B
def cmI (w0:World)(a b:Bs)(n:Nat)(vs:List Value)(w:World):Prop :=
 ∃ (i:Nat) (x y:Value),vs=[pt w0.heap.size 0,pt (w0.heap.size+1) 0,x,y,.int .i64 (i:Nat)]/\i<=32/\n=32 - i/\(∀ j,j<i->a.getD j 0=b.getD j 0)/\w.heap[w0.heap.size]?=some (.cells (bl a) 76 (0,0)) /\
  w.heap[w0.heap.size+1]?=some (.cells (bl b) 76 (0,0))/\No w0 w
theorem commonP (w0:World)(A:a.length=32)(N:b.length=32):Fn prog 184 #[dg a,dg b] w0 fun v w'=>v=.int .i64 (common a b:Nat)/\No w0 w':=by
 refine go184 sm ?_;have O:No w0 ((w0.alloc (.cells (bl a) 76)).alloc (.cells (bl b) 76)):=((Fr.refl _ _).alloc _).alloc _;have R:((w0.alloc (.cells (bl a) 76)).alloc (.cells (bl b) 76)).heap[w0.heap.size]?=some (.cells (bl a) 76 (0,0)):=qQs (qQb _ _)
 have T:((w0.alloc (.cells (bl a) 76)).alloc (.cells (bl b) 76)).heap[w0.heap.size+1]?=some (.cells (bl b) 76 (0,0)):=by
  have:=qQb (w0.alloc (.cells (bl a) 76)) (.cells (bl b) 76);rw[qQg]at this;exact this
 simp -implicitDefEqProofs only[go_sem,j7,Tryz.f184,yU];generalize (w0.alloc (.cells (bl a) 76)).alloc (.cells (bl b) 76)=W at *;have r1:=rd_d agg76 sz76 R A;have r2:=rd_d agg76 sz76 T N;simp -implicitDefEqProofs only[go_sem,j7,r1,r2];rw[eqKey A N]
 by_cases B:a=b
 ·subst B
  have D:(a == a)=true:=bSe a;rw[(common_full A A).2 rfl];simp -implicitDefEqProofs only[go_sem,D,qK];exact⟨rfl,O⟩
 ·have D:(a == b)=false:=by simpa using B
  simp -implicitDefEqProofs only[go_sem,D,qK];refine loopD [2,3,5,6,10] (cmI w0 a b) 32 ⟨0,_,_,rfl,x8,rfl,fun j h=>absurd h x8,R,T,O⟩ ?_;rintro _ vs E g ⟨i,x,y,rfl,hi,rfl,H,U,V,Y⟩
  by_cases I:i<32
  ·have Z:=dTo ((i:Int)<32)
   have c1:=iSu (i:=i);have y1:=iBd (i:=i) (n:=32);have q1:rdO prog 5 E w0.heap.size i=some (.int .u8 ((a.getD i 0).toNat:Int)):=rd1 agg5 U (bl_at x8);have q2:rdO prog 5 E (w0.heap.size+1) i=some (.int .u8 ((b.getD i 0).toNat:Int)):=rd1 agg5 V (bl_at x8)
   by_cases hne:a.getD i 0=b.getD i 0
   ·have J:(((a.getD i 0 ^^^ b.getD i 0).toNat:Int) != 0)=false:=by rw[hne,BitVec.xor_self];rfl
    have L:=xor8 (a.getD i 0) (b.getD i 0)
    have M:∀ j,j<i+1->a.getD j 0=b.getD j 0:=fun j hj=>by
     rcases Nat.lt_succ_iff_lt_or_eq.1 hj with h | rfl
     ·exact H j h
     ·exact hne
    generalize a.getD i 0=p at *;generalize b.getD i 0=q at *;simp -implicitDefEqProofs only[go_sem,j7,Z,c1,y1,and_self,iTn,j8,q1,q2,L,J];exact⟨32 - (i+1),x8,i+1,_,_,rfl,x8,rfl,M,U,V,Y.drew⟩
   ·obtain⟨hc,h0,h8⟩:=common_at I H hne
    have J:(((a.getD i 0 ^^^ b.getD i 0).toNat:Int) != 0)=true:=by
     rw[bne_iff_ne];intro e;have:(a.getD i 0 ^^^ b.getD i 0).toNat=0:=x8
     exact hne (BitVec.xor_eq_zero_iff.1 (yG this))
    have L:=xor8 (a.getD i 0) (b.getD i 0);rw[hc];generalize a.getD i 0=p at *;generalize b.getD i 0=q at *;have c2:IntKind.i64.wrap (8*(i:Int))=((8*i:Nat):Int):=qZu (a:=8) x8;have c3:IntKind.i64.wrap (((8*i:Nat):Int)+((8 - blen (p ^^^ q).toNat:Nat):Int))=((8*i+(8 - blen (p ^^^ q).toNat):Nat):Int):=qXa;simp -implicitDefEqProofs only[go_sem,j7,Z,y1,and_self,iTn,j8,q1,q2,L,J,c2];refine qQa pl192 ((lz8 E.drew (p ^^^ q)).mono ?_);rintro _ w3 ⟨rfl,rfl⟩;simp -implicitDefEqProofs only[go_sem,j7,c3];exact Y.drew
  ·have e:i=32:=x8
   subst e;refine absurd (yF x8 fun j h1 h2=>?_) B;have:=H j x8
   rwa [qQw 0 h1,qQw 0 h2]at this
instance (a b:Bs):Decidable (klt a b):=by unfold klt;infer_instance
def kcmp (a b:Bs):Int:=if a=b then 0 else if klt a b then -1 else 1
theorem lt_tb {x y i:Nat}(A:x.testBit i=false)(B:y.testBit i=true)(D:∀ j,i<j->x.testBit j=y.testBit j):x<y:=by
 have e:x / 2 ^ (i+1)=y / 2 ^ (i+1):=Nat.eq_of_testBit_eq fun j=>by
  rw[yR,yR];exact D _ x8
 rw[yN,<- yD,<- yD]at e;rw[yH]at A B;have E:=of_decide_eq_false A;have H:=of_decide_eq_true B
 rcases Nat.lt_or_ge x y with h | h
 ·exact h
 ·have:=Nat.div_le_div_right (c:=2 ^ i) h
  omega
theorem klt_at (hi:i<32)(h:∀ j,j<i->a.getD j 0=b.getD j 0)(hne:a.getD i 0≠b.getD i 0):klt a b ↔ (a.getD i 0).toNat<(b.getD i 0).toNat:=by
 obtain⟨O,H,V⟩:=common_at hi h hne;have E:=blen_le.1 (xC (blen (a.getD i 0 ^^^ b.getD i 0).toNat));have R:(a.getD i 0 ^^^ b.getD i 0).toNat≠0:=fun e=>by rw[e]at H;simp[blen]at H
 have T:=blen_bit R
 have I:∀ m,(a.getD i 0 ^^^ b.getD i 0).toNat.testBit m=Bool.xor ((a.getD i 0).toNat.testBit m) ((b.getD i 0).toNat.testBit m):=fun m=>by
  show (a.getD i 0 ^^^ b.getD i 0).getLsbD m=_;rw[xG];rfl
 generalize blen (a.getD i 0 ^^^ b.getD i 0).toNat=n at *
 have J:∀ x:Bs,kbit x (8*i+(8 - n))=(x.getD i 0).toNat.testBit (n - 1):=fun x=>by
  unfold kbit;rw[show (8*i+(8 - n)) / 8=i by omega,show 7 - (8*i+(8 - n)) % 8=n - 1 by omega];rfl
 unfold klt;rw[O,J,J];generalize (a.getD i 0).toNat=x at *;generalize (b.getD i 0).toNat=y at *;generalize (a.getD i 0 ^^^ b.getD i 0).toNat=z at *
 have L:∀ j,n - 1<j->x.testBit j=y.testBit j:=fun j M=>by
  have N:=I j;rw[yT (Nat.lt_of_lt_of_le E (yL j0 x8))]at N
  revert N
  cases x.testBit j <;> cases y.testBit j <;> simp
 have A:=I (n - 1);rw[T]at A;constructor
 ·rintro⟨_,B,D⟩
  exact lt_tb B D L
 ·intro U
  refine⟨x8,?_⟩
  cases B:x.testBit (n - 1) <;> cases D:y.testBit (n - 1)
  ·rw[B,D]at A;cases A
  ·exact⟨rfl,rfl⟩
  ·have:=lt_tb D B fun j M=>(L j M).symm
   omega
  ·rw[B,D]at A;cases A
theorem kcmp_at (B:a.length=32)(D:b.length=32)(hi:i<32)(h:∀ j, j<i->a.getD j 0=b.getD j 0)(hne:a.getD i 0≠b.getD i 0) :
  kcmp a b=if (a.getD i 0).toNat<(b.getD i 0).toNat then -1 else 1:=by
 unfold kcmp;rw[if_neg (fun e=>hne (by rw[e]))]
 by_cases A:(a.getD i 0).toNat<(b.getD i 0).toNat
 ·rw[if_pos A,if_pos ((klt_at hi h hne).2 A)]
 ·rw[if_neg A,if_neg fun k=>A ((klt_at hi h hne).1 k)]
theorem bs_eq (D:a.length=32)(E:b.length=32)(h:∀ j,j<32->a.getD j 0=b.getD j 0):a=b :=
 yF x8 fun j A B=>by
  have:=h j x8
  rwa [qQw 0 A,qQw 0 B]at this
namespace R
def rcI (w0:World)(a b:Bs)(n:Nat)(vs:List Value)(w:World):Prop :=
 ∃ (i:Nat),vs=[pt w0.heap.size 0,pt (w0.heap.size+1) 0,.int .i64 (i:Nat)]/\i<=32/\n=32 - i/\(∀ j,j<i->a.getD j 0=b.getD j 0)/\w.heap[w0.heap.size]?=some (.cells (bl a) 76 (0,0)) /\
  w.heap[w0.heap.size+1]?=some (.cells (bl b) 76 (0,0))/\No w0 w
theorem cmp (w0:World)(R:a.length=32)(T:b.length=32):Fn prog 54 #[dg a,dg b] w0 fun v w'=>v=.int .i64 (kcmp a b)/\No w0 w':=by
 refine go54 sm ?_;have Z:No w0 ((w0.alloc (.cells (bl a) 76)).alloc (.cells (bl b) 76)):=((Fr.refl _ _).alloc _).alloc _;have k1:((w0.alloc (.cells (bl a) 76)).alloc (.cells (bl b) 76)).heap[w0.heap.size]?=some (.cells (bl a) 76 (0,0)):=qQs (qQb _ _)
 have j1:((w0.alloc (.cells (bl a) 76)).alloc (.cells (bl b) 76)).heap[w0.heap.size+1]?=some (.cells (bl b) 76 (0,0)):=by
  have:=qQb (w0.alloc (.cells (bl a) 76)) (.cells (bl b) 76);rw[qQg]at this;exact this
 simp -implicitDefEqProofs only[go_sem,j7,Tryz.f54,yU];generalize (w0.alloc (.cells (bl a) 76)).alloc (.cells (bl b) 76)=W at *;refine loopD [2,3,5] (rcI w0 a b) 32 ⟨0,rfl,x8,rfl,fun j h=>absurd h x8,k1,j1,Z⟩ ?_;rintro _ vs U g ⟨i,rfl,hi,rfl,H,V,Y,D⟩
 by_cases I:i<32
 ·have A:=dTo ((i:Int)<32)
  have c1:=iSu (i:=i);have J:=iBd (i:=i) (n:=32);have L:rdO prog 5 U w0.heap.size i=some (.int .u8 ((a.getD i 0).toNat:Int)):=rd1 agg5 V (bl_at x8);have M:rdO prog 5 U (w0.heap.size+1) i=some (.int .u8 ((b.getD i 0).toNat:Int)):=rd1 agg5 Y (bl_at x8)
  by_cases hne:a.getD i 0=b.getD i 0
  ·have E:(((a.getD i 0).toNat:Int) != ((b.getD i 0).toNat:Int))=false:=by rw[hne];simp
   have N:∀ j,j<i+1->a.getD j 0=b.getD j 0:=fun j hj=>by
    rcases Nat.lt_succ_iff_lt_or_eq.1 hj with h | rfl
    ·exact H j h
    ·exact hne
   generalize a.getD i 0=p at *;generalize b.getD i 0=q at *;simp -implicitDefEqProofs only[go_sem,j7,A,c1,J,and_self,iTn,j8,L,M,E];exact⟨32 - (i+1),x8,i+1,rfl,x8,rfl,N,V,Y,D.drew⟩
  ·have E:(((a.getD i 0).toNat:Int) != ((b.getD i 0).toNat:Int))=true:=by
    rw[bne_iff_ne];intro e;exact hne (yG x8)
   rw[kcmp_at R T I H hne];generalize a.getD i 0=p at *;generalize b.getD i 0=q at *
   by_cases B:p.toNat<q.toNat
   ·have O:=dTo ((p.toNat:Int)<(q.toNat:Int))
    rw[if_pos B];simp -implicitDefEqProofs only[go_sem,j7,A,J,and_self,iTn,j8,L,M,E,O];exact D.drew.drew
   ·have O:=dFo ((p.toNat:Int)<(q.toNat:Int))
    rw[if_neg B];simp -implicitDefEqProofs only[go_sem,j7,A,J,and_self,iTn,j8,L,M,E,O];exact D.drew.drew
 ·have A:=dFo ((i:Int)<32)
  have e:i=32:=x8
  subst e;have:=bs_eq R T H;subst this;have h0:kcmp a a=0:=by simp[kcmp]
  rw[h0];simp -implicitDefEqProofs only[go_sem,j7,A];exact D
def riI (w0:World)(a b:Bs)(n:Nat)(vs:List Value)(w:World):Prop :=
 ∃ (i:Nat) (x y:Value),vs=[pt w0.heap.size 0,pt (w0.heap.size+1) 0,.int .i64 (i:Nat),x,y]/\i<=256/\n=256 - i/\(∀ j,j<i->kbit a j=kbit b j)/\w.heap[w0.heap.size]?=some (.cells (bl a) 76 (0,0)) /\
  w.heap[w0.heap.size+1]?=some (.cells (bl b) 76 (0,0))/\No w0 w
theorem kb_inj:(kb a i != kb b i)=!(kbit a i == kbit b i):=by
 unfold kb
 cases kbit a i <;> cases kbit b i <;> rfl
theorem common3 (w0:World)(N:a.length=32)(O:b.length=32):Fn prog 169 #[dg a,dg b] w0 fun v w'=>v=.int .i64 (common a b:Nat)/\No w0 w':=by
 refine go169 sm ?_;have U:No w0 ((w0.alloc (.cells (bl a) 76)).alloc (.cells (bl b) 76)):=((Fr.refl _ _).alloc _).alloc _;have V:((w0.alloc (.cells (bl a) 76)).alloc (.cells (bl b) 76)).heap[w0.heap.size]?=some (.cells (bl a) 76 (0,0)):=qQs (qQb _ _)
 have Y:((w0.alloc (.cells (bl a) 76)).alloc (.cells (bl b) 76)).heap[w0.heap.size+1]?=some (.cells (bl b) 76 (0,0)):=by
  have:=qQb (w0.alloc (.cells (bl a) 76)) (.cells (bl b) 76);rw[qQg]at this;exact this
 simp -implicitDefEqProofs only[go_sem,j7,Tryz.f169,yU];generalize (w0.alloc (.cells (bl a) 76)).alloc (.cells (bl b) 76)=W at *;refine loopD [2,3,5,6,7] (riI w0 a b) 256 ⟨0,_,_,rfl,x8,rfl,fun j h=>absurd h x8,V,Y,U⟩ ?_;rintro _ vs Z g ⟨i,x,y,rfl,hi,rfl,I,R,T,J⟩
 by_cases A:i<256
 ·have L:=dTo ((i:Int)<256)
  have c1:=iSu (i:=i);have r1:=rd_d agg76 sz76 R N;simp -implicitDefEqProofs only[go_sem,j7,L,r1];refine qQa pl171 ((bit3 Z N A).mono ?_);rintro _ w3 ⟨rfl,B⟩;have r2:=rd_d agg76 sz76 (B.at T id) O;simp -implicitDefEqProofs only[go_sem,j7,r2];refine qQa pl171 ((bit3 w3 O A).mono ?_);rintro _ w4 ⟨rfl,D⟩;have E:=kb_inj (a:=a) (b:=b) (i:=i)
  by_cases H:kbit a i=kbit b i
  ·have z:(!(kbit a i == kbit b i))=false:=by rw[H];simp
   rw[z]at E
   have M:∀ j,j<i+1->kbit a j=kbit b j:=fun j hj=>by
    rcases Nat.lt_succ_iff_lt_or_eq.1 hj with h | rfl
    ·exact I j h
    ·exact H
   simp -implicitDefEqProofs only[go_sem,j7,E,c1];exact⟨256 - (i+1),x8,i+1,_,_,rfl,x8,rfl,M,D.at (B.at R id) id,D.at (B.at T id) id,(J.trans B).trans D⟩
  ·have z:(!(kbit a i == kbit b i))=true:=by simpa using H
   rw[z]at E;rw[qKh I (fun _=>H) x8];simp -implicitDefEqProofs only[go_sem,j7,E];exact (J.trans B).trans D
 ·have L:=dFo ((i:Int)<256)
  have e:i=256:=x8
  subst e;have h0:common a b=256:=qKh I (fun h=>absurd h x8) x8;rw[h0];simp -implicitDefEqProofs only[go_sem,j7,L];exact⟨rfl,J⟩
end R
end Go.V
