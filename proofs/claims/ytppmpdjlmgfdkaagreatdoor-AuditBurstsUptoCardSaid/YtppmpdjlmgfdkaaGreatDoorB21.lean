/- Helpers. -/
import Derived.Test.YtppmpdjlmgfdkaaGreatDoorB20
import Derived.Test.YtppmpdjlmgfdkaaGreatDoorB19
import Derived.Test.YtppmpdjlmgfdkaaGreatDoorB18
import Derived.Test.YtppmpdjlmgfdkaaGreatDoorB17
set_option linter.all false
set_option maxRecDepth 100000
set_option maxHeartbeats 8000000
open Array renaming all_toList->kU
open List renaming size_toArray->kG,length_map->zB,append_nil->zO,getElem?_toArray->xI,append_assoc->zJ,length_cons->zU,nil_append->zL,take_zero->j5,getElem?_append_right->z4,drop_eq_getElem_cons->vR,take_of_length_le->zG
open Nat renaming reduceEqDiff->yJ,zero_add->jY,reduceBEq->yY,le_refl->xC,reduceAdd->vH,mul_one->yK,testBit_two_pow_mul_add->kN,add_zero->yF,pow_succ->yS,mul_comm->vB,mul_le_mul_right->xR
open Go.Value renaming cells->yN
namespace Go.V
open Go.Proofs.Tryz Go.V.Tryz
open Go.Proofs Sha
variable {at':Bool} {O bs:Bs} {ats:List Nat} {f first i k n p tb ty wd:Nat} {v vv:Value} {b w w':World}
section
namespace R
open Aud A
theorem bldSpG {wd next p:Nat}{a a1 a2:Option Addr}{n c n1 c1 n2 c2:Nat}:bldO prog 187 [(0,vi wd),(1,vi next),(2,.slice a n c),(3,.agg #[vi p,.slice a1 n1 c1,.slice a2 n2 c2])]=some (.agg (spC wd next (.slice a n c) p (.slice a1 n1 c1) (.slice a2 n2 c2) nil0 nil0)):=by
 unfold bldO;rw[zero187,places187];rfl
structure TrM (w:World) (wd:Nat) (T:PT) (oM oS:Value):Prop where
 hT:T.Wf 0
 hTM:Map 0 T.ents
 hTl:T.ents.length<=2 ^ 30
 hM:EnR w oM T.ents
 hS:RdR w 66 oS ((subsL wd 0 T).map sbR)
theorem step10 (u w:World)(hu:No u w)(ht:Tabs w){wd next next':Nat}{T t:PT}{esv oM oS mv:Value}{m:List En}(he:RdD w esv (empts wd 257))(A:TrM w wd T oM oS)(hTp:∀ p ∈ T.pgs, p<next)(c6:T.pgs.length<=2 ^ 36)(hm:EnR u mv m)(a6:Map 0 m)(c7:m.length<=2 ^ 30)(a8:∀ e ∈ m, e.2.length<=128)(h2:2<=next)(c8:next'<=2 ^ 37+2)
  (B:Aud.lay 256 0 true T m next=(t,next')) :
  Fn prog 56 #[vi wd,esv,.agg #[vi T.page,oM,oS],vi next,mv] w fun v w'=>No w w'/\∃ nv sv rows,v=.tuple #[.agg #[vi t.page,mv,sv],nv]/\one nv=true/\one sv=true/\NwR w w' 78 102 nv rows/\NdRows u rows (news (dgT wd) next 0 t)/\NwR w w' 229 66 sv ((subsL wd 0 t).map sbR):=by
 refine go56 sm ?_;obtain⟨E,H,rfl,_⟩:=A.hM.slice;obtain⟨I,J,rfl,_⟩:=A.hS.slice;obtain⟨ea,ec,rfl,_⟩:=he.slice;obtain⟨V,Y,rfl,_⟩:=hm.slice;generalize c9:(subsL wd 0 T).map sbR=RT at *;obtain⟨W,hW,f1,k1,k2,s1⟩:=qZz w #[vi T.page,.slice E T.ents.length H,.slice I RT.length J] 141 tr0 141;have l1:=qQp (P:=prog) (t:=141) agg141 sz141 k1;have b1:=bldSpG (wd:=wd) (next:=next) (p:=T.page) (a:=ea) (n:=(empts wd 257).length) (c:=ec) (a1:=E) (n1:=T.ents.length) (c1:=H) (a2:=I) (n2:=RT.length) (c2:=J);obtain⟨W2,a9,f2,k3,s2⟩:=qQl W (spC wd next (.slice ea (empts wd 257).length ec) T.page (.slice E T.ents.length H) (.slice I RT.length J) nil0 nil0) 187;have b0:=f2.at k1 id;have r1:rdO prog 84 W2 w.heap.size 1=some (.slice E T.ents.length H):=rd1 agg84 b0 rfl;have a7:=f1.trans f2
 have hx:LayX u w W.heap.size wd (.slice ea (empts wd 257).length ec) T (.slice E T.ents.length H) (.slice I RT.length J) next:=⟨hu,ht,he,f1.size,A.hT,A.hTM,A.hTl,hTp,A.hM,A.hS,om⟩
 have b3:SpM u w W2 W.heap.size wd next (.slice ea (empts wd 257).length ec) T.page (.slice E T.ents.length H) (.slice I RT.length J) [] []:=⟨nil0,nil0,[],k3,rfl,rfl,NwR.nil _ _ _ _,⟨rfl,fun i h=>absurd h sm⟩,NwR.nil _ _ _ _⟩
 obtain⟨P1,P2,P3⟩:=lay_pgs B;obtain⟨d0,d1,_⟩:=lay_ok (f:=256) (n:=0) rfl om A.hT a6 h2 B;have d2:=lay_cnt B;have a0:=lay10 hx 256 (n:=0) rfl A.hT A.hTM (by have:=A.hTl;omega) hTp a6 om a8 (fun e _=>PosS.root _ _ _) h2 (xC _) om B W2 _ _ [] [] b3 a7 A.hM hm sm (by simp;omega);unfold LayPost at a0;have b4:(dgT wd (256 - 0) t).length=32:=qZv _ _ _;generalize dgT wd (256 - 0) t=D at *;rw[zL,zL]at a0;simp -implicitDefEqProofs only[go_sem,yJ,vH,yN,jY,Tryz.f56,hW,l1,b1,a9,r1];refine qQa pl97 (a0.mono ?_);rintro _ w4 ⟨rfl,F4,nv,sv,rows,k4,d3,d4,b5,b6,b7⟩;have b8:w4.heap[w.heap.size+1]?=_:=StF.at F4 (f2.at k2 id) x9;have b9:=StF.no a7 F4;obtain⟨W5,q5,k5,f5,s5⟩:=allocD w4 (ty:=75) sz75 b4;have L:=f5.at k4 id;simp -implicitDefEqProofs only[go_sem,yJ,yN,qQk,q5];refine qXl (fun j=>false) (.one 0 (.one 1 (.one 2 (.one 3 (.one 4 (.one 7 (.one 8 (.one 9 (.one 5 (.one 6 (.two 10 (.row [11,12]) 11 (.row [10,12])))))))))))) rfl x8 x8 ?_;have c0:No w W5.drew:=(b9.trans f5).drew;have L:W5.drew.heap[W.heap.size]?=_:=L;have d5:w.heap.size+2=W.heap.size:=s1.symm;have a3:W5.drew.heap[w.heap.size+1]?=_:=f5.at b8 id;have M:=(b5.fr0 f5).fr0 (Fr.refl _ _).drew;have N:=(b7.fr0 f5).fr0 (Fr.refl _ _).drew;generalize W5.drew=w6 at *;obtain⟨na,nc,rfl,_⟩:=M.rd.slice;obtain⟨Z,sc,rfl,_⟩:=N.rd.slice;generalize hrs:(subsL wd 0 t).map sbR=U at *;have r7:rdO prog 139 w6 W.heap.size 7=some (.slice Z U.length sc):=rd1 agg139 L rfl;have r6:rdO prog 88 w6 W.heap.size 6=some (.slice na rows.length nc):=rd1 agg88 L rfl;have q6:wrO prog 141 w6 (w.heap.size+1) 0 (.agg #[vi t.page,.slice V m.length Y,.slice Z U.length sc])=some (put w6 (w.heap.size+1) (.cells #[vi t.page,.slice V m.length Y,.slice Z U.length sc] 141 (0,0))):=qQr sz141 a3 rfl (by rw[<- kU];rfl)
 have bt:=bldTr (n:=t.page) (a:=V) (x:=m.length) (y:=Y) (b:=Z) (x':=U.length) (y':=sc);have k7:=qQd (o:=.cells #[vi t.page,.slice V m.length Y,.slice Z U.length sc] 141 (0,0)) a3;have c3:=qQi (b:=w.heap.size+1) (o:=.cells #[vi t.page,.slice V m.length Y,.slice Z U.length sc] 141 (0,0)) L om;have a4:Fr (fun b=>b=w.heap.size+1) w6 (put w6 (w.heap.size+1) (.cells #[vi t.page,.slice V m.length Y,.slice Z U.length sc] 141 (0,0))):=(Fr.refl _ _).put (b:=w.heap.size+1) _ fun _=>rfl;generalize put w6 (w.heap.size+1) (.cells #[vi t.page,.slice V m.length Y,.slice Z U.length sc] 141 (0,0))=w7 at *;have c4:rdO prog 88 w7 W.heap.size 6=some (.slice na rows.length nc):=rd1 agg88 c3 rfl;have l7:=qQp (P:=prog) (t:=141) agg141 sz141 k7
 have off:∀ {ty k:Nat} {v:Value} {rs:Rows},NwR w w6 ty k v rs->¬ ty=141->∀ b,qQc v=some b->¬ b=w.heap.size+1:=fun h c5 b hb e=>by
  obtain⟨c,hc⟩:=qXa h hb;rw[e,a3]at hc;cases hc;exact c5 rfl
 have a5:No w w7/\∃ nv sv R,Value.tuple #[.agg #[vi t.page,.slice V m.length Y,.slice Z U.length sc],.slice na rows.length nc]=.tuple #[.agg #[vi t.page,.slice V m.length Y,sv],nv]/\one nv=true/\one sv=true/\NwR w w7 78 102 nv R/\NdRows u R (news (dgT wd) next 0 t)/\NwR w w7 229 66 sv U :=
  ⟨c0.trans' a4 fun b hb e=>by subst e;omega,_,_,rows,rfl,rfl,rfl,M.fr a4 (off M x9),b6,N.fr a4 (off N x9)⟩
 simp -implicitDefEqProofs only[go_sem,yJ,jY,OT.row,r7,r6,bt,q6,c4,l7,implies_true,true_and]
 first | exact a5 | exact⟨a5,a5⟩
end R
end
section
namespace R
open Aud A
def brI (W:World)(c:List Value)(A d:Bs)(n:Nat)(vs:List Value)(w:World):Prop :=
 ∃ (i:Nat) (v:Value),vs=c++[v,.int .i64 (i:Nat)]/\i<=32/\n=32 - i/\NwB W w v (A++d.take i)/\No W w
theorem load9br (E:World){A B lc rc:Nat}{ls rs:Bs}(H:A<2 ^ 62/\B<2 ^ 62/\lc<2 ^ 62/\rc<2 ^ 62)(V:ls.length=32)(hrs:rs.length=32):Fn prog 58 #[.agg (ndA (.br A B lc rc ls rs) nil0).toArray] E fun v w'=>NwB E w' v (lodN (.br A B lc rc ls rs))/\No E w':=by
 refine go58 sm ?_;obtain⟨W,hW,f0,L,s0⟩:=qQl E (ndA (.br A B lc rc ls rs) nil0).toArray 78;have r0:rdO prog 3 W E.heap.size 0=some (.int .i64 (2:Nat)):=rd1 agg3 L rfl;have Y:(((2:Nat):Int) == 1)=false:=rfl;have r1:∀ {w:World},No W w->rdO prog 3 w E.heap.size 1=some (.int .i64 (A:Nat)):=fun f=>rd1 agg3 (f.at L id) rfl;have r2:∀ {w:World},No W w->rdO prog 3 w E.heap.size 2=some (.int .i64 (B:Nat)):=fun f=>rd1 agg3 (f.at L id) rfl;have r3:∀ {w:World},No W w->rdO prog 3 w E.heap.size 3=some (.int .i64 (lc:Nat)):=fun f=>rd1 agg3 (f.at L id) rfl;have r4:∀ {w:World},No W w->rdO prog 3 w E.heap.size 4=some (.int .i64 (rc:Nat)):=fun f=>rd1 agg3 (f.at L id) rfl;have q1:=r1 (Fr.refl _ W);have I:∀ v,(leB 4 v).length=4:=fun v=>qXc 4 v;simp -implicitDefEqProofs only[go_sem,yJ,yN,jY,Tryz.f58,hW,r0,Y,q1];refine qQa pl99 ((four9 W A H.1).mono ?_);rintro v1 w1 ⟨b1,f1,n1⟩;simp -implicitDefEqProofs only[go_sem,yJ];refine qQa pl98 ((joined9 W w1 (NwB.nil W w1) f1 b1 (fun _ b _ e=>by cases e) sm (by rw[I];decide)).mono ?_);rintro v2 w2 ⟨b2,f2,_⟩;rw[zL]at b2;have q2:=r2 f2;simp -implicitDefEqProofs only[go_sem,yJ,jY,q2];refine qQa pl99 ((four9 w2 B H.2.1).mono ?_);rintro v3 w3 ⟨b3,f3,n3⟩;simp -implicitDefEqProofs only[go_sem,yJ];refine qQa pl98 ((joined9 W w3 (b2.fr0 f3) (f2.trans f3) b3 (fun _ b H e=>by have:=n3 b H;have:=(NwB.lt b2 e).2;omega) (by rw[I];decide) (by rw[I];decide)).mono ?_);rintro v4 w4 ⟨b4,f4,_⟩;have q3:=r3 f4;simp -implicitDefEqProofs only[go_sem,yJ,jY,q3];refine qQa pl99 ((four9 w4 lc H.2.2.1).mono ?_);rintro v5 w5 ⟨b5,f5,n5⟩;simp -implicitDefEqProofs only[go_sem,yJ];refine qQa pl98 ((joined9 W w5 (b4.fr0 f5) (f4.trans f5) b5 (fun _ b H e=>by have:=n5 b H;have:=(NwB.lt b4 e).2;omega) (by simp[I]) (by rw[I];decide)).mono ?_)
 rintro v6 w6 ⟨b6,f6,_⟩;have q4:=r4 f6;simp -implicitDefEqProofs only[go_sem,yJ,jY,q4];refine qQa pl99 ((four9 w6 rc H.2.2.2).mono ?_);rintro v7 w7 ⟨b7,f7,n7⟩;simp -implicitDefEqProofs only[go_sem,yJ];refine qQa pl98 ((joined9 W w7 (b6.fr0 f7) (f6.trans f7) b7 (fun _ b H e=>by have:=n7 b H;have:=(NwB.lt b6 e).2;omega) (by simp[I]) (by rw[I];decide)).mono ?_);rintro v8 w8 ⟨b8,f8,_⟩;have a5:(leB 4 A++leB 4 B++leB 4 lc++leB 4 rc).length=16:=by simp[I]
 show _;have J:lodN (.br A B lc rc ls rs)=leB 4 A++leB 4 B++leB 4 lc++leB 4 rc++ls++rs:=rfl;rw[J];generalize leB 4 A++leB 4 B++leB 4 lc++leB 4 rc=M at *;simp -implicitDefEqProofs only[go_sem];refine loopD [1,3,5] (brI W [pt E.heap.size 0] M ls) 32 ⟨0,v8,rfl,om,rfl,by rw[j5,zO];exact b8,f8⟩ ?_;rintro _ vs w9 g ⟨i,v,rfl,hi,rfl,Z,f9⟩;have k9:=f9.at L id
 by_cases a0:i<32
 ·have N:=dTo ((i:Int)<32)
  have c1:=iSu (i:=i);have y:=iBd (i:=i) (n:=32);have R:=qXt (l:=ls) (i:=i) om;have r:=midB (i:=i) (a:=[.int .i64 (2:Nat),.int .i64 (A:Nat),.int .i64 (B:Nat),.int .i64 (lc:Nat),.int .i64 (rc:Nat)]) (r:=rs.map u8++z32.map u8++[nil0]) (ds:=ls) (o:=5) (e:=78) (fz:=(0,0)) (by rw[<- ndC_L];exact k9) rfl om;obtain⟨U,wa,T,ba,fa,ga,ha⟩:=NwB.grow Z (ls.getD i 0) (by simp;omega) f9;rw[zJ,R]at ba;generalize ls.getD i 0=x at *;simp -implicitDefEqProofs only[go_sem,yJ,yN,jY,N,y,and_self,iTn,yK,arr75,r];refine qQm (v:=.slice (some ⟨w9.heap.size,0,none⟩) 1 1) (w':=w9.alloc (.cells (bl [x]) 5)) rfl ?_;simp -implicitDefEqProofs only[go_sem,yJ];refine qQj ⟨U,wa,T,?_⟩;simp -implicitDefEqProofs only[go_sem,yJ,c1];exact⟨32 - (i+1),om,i+1,U,rfl,om,rfl,ba,fa⟩
 have N:=dFo ((i:Int)<32);have e:i=32:=om
 subst e;rw[zG om]at Z;clear J;have a4:(M++ls).length=48:=by rw[lAp];omega
 generalize M++ls=a3 at *;simp -implicitDefEqProofs only[go_sem,yJ,N];refine loopD [1,3,6] (brI W [pt E.heap.size 0] a3 rs) 32 ⟨0,v,rfl,om,rfl,by rw[j5,zO];exact Z,f9⟩ ?_;rintro _ vs wb g ⟨i,v',rfl,hi,rfl,bb,fb⟩;have kb:=fb.at L id
 by_cases a0:i<32
 ·have N:=dTo ((i:Int)<32)
  have c1:=iSu (i:=i);have y:=iBd (i:=i) (n:=32);have R:=qXt (l:=rs) (i:=i) om;have r:=midB (i:=i) (a:=[.int .i64 (2:Nat),.int .i64 (A:Nat),.int .i64 (B:Nat),.int .i64 (lc:Nat),.int .i64 (rc:Nat)]++ls.map u8) (r:=z32.map u8++[nil0]) (ds:=rs) (o:=37) (e:=78) (fz:=(0,0)) (by rw[<- ndC_R];exact kb) (by simp[V]) om;obtain⟨U,wa,T,ba,fa,ga,ha⟩:=NwB.grow bb (rs.getD i 0) (by simp;omega) fb;rw[zJ,R]at ba;generalize rs.getD i 0=x at *;simp -implicitDefEqProofs only[go_sem,yJ,yN,jY,N,y,and_self,iTn,yK,arr75,r];refine qQm (v:=.slice (some ⟨wb.heap.size,0,none⟩) 1 1) (w':=wb.alloc (.cells (bl [x]) 5)) rfl ?_;simp -implicitDefEqProofs only[go_sem,yJ];refine qQj ⟨U,wa,T,?_⟩;simp -implicitDefEqProofs only[go_sem,yJ,c1];exact⟨32 - (i+1),om,i+1,U,rfl,om,rfl,ba,fa⟩
 have N:=dFo ((i:Int)<32);have e:i=32:=om
 subst e;rw[zG om]at bb;simp -implicitDefEqProofs only[go_sem,yJ,N];exact And.intro (bb.back f0.size) (f0.trans fb)
theorem load9 (A:World){n:Nd}(B:NdWide n)(E:one vv=true)(H:By A vv (ndVal n))(I:n.kind=2->vv=nil0):Fn prog 58 #[.agg (ndA n vv).toArray] A fun v w'=>NwB A w' v (lodN n)/\No A w':=by
 cases n with
 | leaf k v=>exact load9leaf A B.1 E H (by have:=B.2;omega)
 | br M N lc rc ls rs =>
  rw[I rfl];obtain⟨⟨R,T,U,V⟩,J,L⟩:=B;exact load9br A ⟨om,om,om,om⟩ J L
end R
end
section
namespace R
open Aud A
theorem le_drop (l:Bs)(k:Nat)(A:k<l.length):le (l.drop k)=(l.getD k 0).toNat+256*le (l.drop (k+1)):=by
 rw[vR A,gDq,List.getElem?_eq_getElem A]
 rfl
end R
end
section
namespace R
open Aud A
end R
end
section
namespace R
open Aud A
end R
end
section
namespace R
open Aud A
end R
end
section
namespace R
open Aud A
end R
end
section
namespace R
open Aud A
end R
end
section
namespace R
open Aud A
end R
end
section
namespace R
open Aud A
end R
end
section
namespace R
open Aud A
section
variable {kind l r lc rc:Nat} {ls rs k:Bs} {vv:Value}
end
end R
end
section
namespace R
open Aud A
end R
end
section
namespace R
open Aud A
theorem far_low (h:2 ^ k ∣ i)(E:¬ i % (2*2 ^ k)=0):far i=i - 2 ^ k:=by
 obtain⟨m,rfl⟩:=h;have M:0<2 ^ k:=Nat.two_pow_pos k
 have N:m % 2=1:=by
  rcases Nat.mod_two_eq_zero_or_one m with e | e
  ·exfalso
   apply E
   obtain⟨q,rfl⟩:∃ q,m=2*q:=⟨m / 2,om⟩
   rw[show 2 ^ k*(2*q)=2*2 ^ k*q by rw[vB 2 (2 ^ k),Nat.mul_assoc]];exact Nat.mul_mod_right _ _
  ·exact e
 obtain⟨q,rfl⟩:∃ q,m=2*q+1:=⟨m / 2,om⟩
 have H:2 ^ k*(2*q+1)=2 ^ (k+1)*q+2 ^ k:=by rw[Nat.mul_add,yS,yK,Nat.mul_assoc]
 have I:2 ^ (k+1)*q+2 ^ k - 1=2 ^ (k+1)*q+(2 ^ k - 1):=om
 have B:2 ^ k<2 ^ (k+1):=Nat.pow_lt_pow_right om om;unfold far;rw[H,I,Nat.add_sub_cancel];refine Nat.eq_of_testBit_eq fun j=>?_;rw[Nat.testBit_and,kN _ B,kN _ (show 2 ^ k - 1<2 ^ (k+1) by omega)];have J:2 ^ (k+1)*q=2 ^ (k+1)*q+0:=rfl;rw[J,kN _ (show 0<2 ^ (k+1) by omega)]
 by_cases A:j<k+1
 ·rw[if_pos A,if_pos A,if_pos A,Nat.testBit_two_pow,Nat.testBit_two_pow_sub_one]
  by_cases L:k=j
  ·rw[decide_eq_false (show ¬ j<k by omega)];simp
  ·rw[decide_eq_false L];simp
 ·rw[if_neg A,if_neg A,if_neg A,Bool.and_self]
def f15I (A:World)(i:Nat)(m:Nat)(vs:List Value)(w:World):Prop :=
 ∃ k:Nat,vs=[.int .i64 (i:Nat),.int .i64 ((2 ^ k:Nat):Int)]/\2 ^ k ∣ i/\m=i - 2 ^ k/\w=A
theorem far15 (w:World)(N:1<=i)(h2:i<=2 ^ 40):Fn prog 101 #[.int .i64 (i:Nat)] w fun v w'=>v=.int .i64 (far i:Nat)/\w'=w:=by
 refine go101 sm ?_;simp -implicitDefEqProofs only[go_sem,Tryz.f101];refine loopD [0,3] (f15I w i) (i - 1) ⟨0,by simp -implicitDefEqProofs only[go_sem,yJ];rfl,Nat.one_dvd i,rfl,rfl⟩ ?_;rintro _ vs R g ⟨k,rfl,E,rfl,rfl⟩;have hp:0<2 ^ k:=Nat.two_pow_pos k;have J:2 ^ k<=i:=Nat.le_of_dvd N E;have B:=far_low (i:=i) (k:=k) E
 have L:i % (2*2 ^ k)=0->2 ^ (k+1) ∣ i:=fun h=>by
  rw[yS,vB];exact Nat.dvd_of_mod_eq_zero h
 have A:2 ^ (k+1)=2*2 ^ k:=by rw[yS,vB]
 have M:∀ m,m=i - 2 ^ (k+1)->2 ^ (k+1) ∣ i->f15I R i m [.int .i64 (i:Nat),.int .i64 ((2*2 ^ k:Nat):Int)] R:=fun m Y E=>⟨k+1,by rw[A],E,Y,rfl⟩
 generalize 2 ^ k=p at *;have c1:IntKind.i64.wrap (2*(p:Int))=((2*p:Nat):Int):=i64mul (a:=2) om;have T:(((2*p:Nat):Int)=0)=False:=by simp;omega
 have U:((i:Nat):Int).tmod ((2*p:Nat):Int)=((i % (2*p):Nat):Int):=rfl;have H:(((i % (2*p):Nat):Int) == 0)=decide (i % (2*p)=0):=nateq (i % (2*p)) 0;have V:=natlt p i;have cm:IntKind.i64.wrap ((i % (2*p):Nat):Int)=((i % (2*p):Nat):Int):=i64n (by have:=Nat.mod_lt i (show 0<2*p by omega);omega);have Z:IntKind.i64.wrap ((i:Int) - (p:Int))=((i - p:Nat):Int):=qXr J om
 by_cases I:i % (2*p)=0
 ·rw[decide_eq_true I]at H
  have W:=L I;have h4:=Nat.le_of_dvd N W;rw[A]at h4;rw[decide_eq_true (show p<i by omega)]at V;simp -implicitDefEqProofs only[go_sem,yJ,bSe,c1,T,if_false,U,H,V];refine⟨_,?_,M _ rfl W⟩;rw[A];omega
 ·rw[decide_eq_false I]at H
  have hf:=B I;simp -implicitDefEqProofs only[go_sem,yJ,qQx,c1,T,if_false,U,H,Z];rw[hf];exact⟨rfl,trivial⟩
end R
end
section
namespace R
open Aud A
def rcRows (rs:List Rc):Rows:=rs.map rcC
def folP (rs:List Rc)(ats:List Nat)(r:Rc):Rc:=if rs.length=0 then { r with prev:=0,skip:=0 } else
 ⟨(rs.getD (rs.length - 1) rc00).ver+1,(rs.getD (rs.length - 1) rc00).first,chAt ats rs.length,chAt ats (far (rs.length+1)),r.root,r.count,r.sum⟩
theorem in_rd (h:RdR w 1 v (inR ats))(hi:i<ats.length):∃ b o cap,v=.slice (some ⟨b,o,Option.none⟩) ats.length cap/\∀ w',No w w'->rdO prog 3 w' b (o+i)=some (vi (ats.getD i 0)):=by
 have A:(inR ats).length=ats.length:=qVk ats;obtain⟨b,o,cap,rfl,B⟩:=h.pos x9 om;refine⟨b,o,cap,by rw[A],fun w' f=>?_⟩
 have:=(h.fr0 f).fld (P:=prog) (t:=3) agg3 (i:=i) om (j:=0) x9 (x:=vi (ats.getD i 0)) (by
  simp[inR,List.getElem_map,hi])
 rw[yK,yF]at this;exact this
theorem follow15 (A:World){rv av:Value}{rs:List Rc}(hr:RdR A 38 rv (rcRows rs))(ha:RdR A 1 av (inR ats))(hl:rs.length=ats.length)(c6:rs.length<=2 ^ 30)(hrs:∀ r ∈ rs, r.sum.length=32/\r.ver<2 ^ 60){r:Rc}(T:r.sum.length=32) :
  Fn prog 60 #[rv,av,.agg (rcC r).toArray] A fun v w'=>v=.agg (rcC (folP rs ats r)).toArray/\No A w':=by
 have a8:(rcRows rs).length=rs.length:=zB _;have b5:(inR ats).length=ats.length:=qVk ats;refine go60 sm ?_;obtain⟨ra,rc,U,_⟩:=hr.slice;obtain⟨aa,ac,V,_⟩:=ha.slice;rw[a8]at U;rw[b5,<- hl]at V;obtain⟨W,hW,f0,k0,k1,s0⟩:=qZz A (rcC r).toArray 80 (rcC rc00).toArray 80;have hz:=rcZero;have a9:∀ w,w.heap[A.heap.size]?=some (.cells (rcC r).toArray 80 (0,0))->rdO prog 75 w A.heap.size 6=some (dg r.sum):=fun w k=>qJw (e:=80) (fz:=(0,0)) (a:=rPre r) (m:=r.sum.map u8) (r:=[]) agg75 (by simp[T];exact sz75) (by simp[T]) (by rw[k,zO];rfl) rfl;have r4:rdO prog 3 W A.heap.size 4=some (vi r.root):=rd1 agg3 k0 rfl;have r5:rdO prog 3 W A.heap.size 5=some (vi r.count):=rd1 agg3 k0 rfl;have r6:=a9 W k0;have hb:=bldRt (ro:=r.root) (c:=r.count) T;obtain⟨W2,b0,f2,k2,s2⟩:=qQl W (rcC rc00).toArray 80;have rl:∀ {a b c d e f:Nat},(rcC ⟨a,b,c,d,e,f,r.sum⟩).length=38:=fun {a b c d e f}=>qXn T;have rz:(rcC rc00).length=38:=qXn z32l;have q2:wrO prog 80 W2 W.heap.size 0 (.agg (rcC ⟨0,0,0,0,r.root,r.count,r.sum⟩).toArray)=some (put W2 W.heap.size (.cells (rcC ⟨0,0,0,0,r.root,r.count,r.sum⟩).toArray 80 (0,0))):=qQr (by simp[rl];exact sz80) k2 (by simp[rl,rz]) (by simpa using rcC_one _);have k3:=qQd (o:=.cells (rcC ⟨0,0,0,0,r.root,r.count,r.sum⟩).toArray 80 (0,0)) k2;have f3:No W (put W2 W.heap.size (.cells (rcC ⟨0,0,0,0,r.root,r.count,r.sum⟩).toArray 80 (0,0))):=f2.put (b:=W.heap.size) _ fun h=>by omega
 have c7:W.heap.size=A.heap.size+2:=s0
 have st:∀ {u:World} {a b c d:Nat} (i:Nat) (x:Nat) (a' Y c' d':Nat), No W u->u.heap[W.heap.size]?=some (.cells (rcC ⟨a, b, c, d, r.root, r.count, r.sum⟩).toArray 80 (0, 0))->i<4->(rcC ⟨a, b, c, d, r.root, r.count, r.sum⟩).toArray.setIfInBounds i (vi x)=(rcC ⟨a', Y, c', d', r.root, r.count, r.sum⟩).toArray ->
   wrO prog 3 u W.heap.size i (vi x)=some (put u W.heap.size (.cells (rcC ⟨a',Y,c',d',r.root,r.count,r.sum⟩).toArray 80 (0,0)))/\No W (put u W.heap.size (.cells (rcC ⟨a',Y,c',d',r.root,r.count,r.sum⟩).toArray 80 (0,0)))/\(put u W.heap.size (.cells (rcC ⟨a',Y,c',d',r.root,r.count,r.sum⟩).toArray 80 (0,0))).heap[W.heap.size]?=some (.cells (rcC ⟨a',Y,c',d',r.root,r.count,r.sum⟩).toArray 80 (0,0)):=fun {u a b c d} i x a' Y c' d' f k hi he=>by
  refine⟨?_,f.put (b:=W.heap.size) _ fun h=>by omega,qQd k⟩;rw[wr1 sz3 rfl k (by rw[kG,rl];omega),he]
 have Z:∀ {u:World} (q:Rc), q.sum.length=32->No W u->u.heap[W.heap.size]?=some (.cells (rcC q).toArray 80 (0, 0))->rdO prog 80 u W.heap.size 0=some (.agg (rcC q).toArray)/\wrO prog 80 u (A.heap.size+1) 0 (.agg (rcC q).toArray)=some (put u (A.heap.size+1) (.cells (rcC q).toArray 80 (0, 0))) /\
   rdO prog 80 (put u (A.heap.size+1) (.cells (rcC q).toArray 80 (0,0))) (A.heap.size+1) 0=some (.agg (rcC q).toArray)/\No A (put u (A.heap.size+1) (.cells (rcC q).toArray 80 (0,0))):=fun {u} q hq f k=>by
  have ql:(rcC q).toArray.size=38:=by rw[kG];exact qXn hq
  have b1:=f.at k1 id;exact⟨qQp agg80 sz80 k ql,qQr (by rw[ql];exact sz80) b1 (by rw[ql,kG,rz]) (by rw[<- kU];exact rcC_one _),qQp agg80 sz80 (qQd (o:=.cells (rcC q).toArray 80 (0,0)) b1) ql,(f0.trans f).put (b:=A.heap.size+1) _ fun h=>by omega⟩
 by_cases h0:rs.length=0
 ·have hf:folP rs ats r={ r with prev:=0,skip:=0 }:=if_pos h0
  rw[hf,U,V];have d0:(((rs.length:Nat):Int) == 0)=true:=(nateq rs.length 0).trans (decide_eq_true h0);simp -implicitDefEqProofs only[go_sem,yJ,vH,yN,jY,qQk,Tryz.f60,hz,hW,r4,r5,r6,hb,b0,q2,d0];generalize put W2 W.heap.size (.cells (rcC ⟨0,0,0,0,r.root,r.count,r.sum⟩).toArray 80 (0,0))=E at *;have a0:rdO prog 3 E A.heap.size 0=some (vi r.ver):=rd1 agg3 (f3.at k0 id) rfl;obtain⟨q4,f4,k4⟩:=st 0 r.ver r.ver 0 0 0 f3 k3 x9 rfl;simp -implicitDefEqProofs only[go_sem,yJ,jY,a0,q4];generalize put E W.heap.size (.cells (rcC ⟨r.ver,0,0,0,r.root,r.count,r.sum⟩).toArray 80 (0,0))=W4 at *;have a1:rdO prog 3 W4 A.heap.size 1=some (vi r.first):=rd1 agg3 (f4.at k0 id) rfl;obtain⟨q5,f5,k5⟩:=st 1 r.first r.ver r.first 0 0 f4 k4 x9 rfl;simp -implicitDefEqProofs only[go_sem,yJ,jY,a1,q5];obtain⟨l5,q6,l6,f6⟩:=Z ⟨r.ver,r.first,0,0,r.root,r.count,r.sum⟩ T f5 k5;simp -implicitDefEqProofs only[go_sem,yJ,l5,q6,l6];exact f6
 ·have d0:(((rs.length:Nat):Int) == 0)=false:=(nateq rs.length 0).trans (decide_eq_false h0)
  have H:rs.length - 1<rs.length:=om
  obtain⟨rb,ro,c8,J,hrc⟩:=hr.pos x9 om;rw[a8]at J;obtain⟨ab,ao,c9,B,R⟩:=in_rd ha (i:=ats.length - 1) om;rw[<- hl]at B R;rw[J]at hr;have hq:=hrs (rs.getD (rs.length - 1) rc00) (by rw[qQt _ H];exact List.getElem_mem _);have hrow:(rcRows rs)[rs.length - 1]'om=rcC (rs.getD (rs.length - 1) rc00):=by rw[qQt _ H];exact List.getElem_map ..
  have b3:=fun {u:World} (f:No A u)=>(hr.fr0 f).get (P:=prog) (t:=80) agg80 sz80 x9 (i:=rs.length - 1) om;have a4:far (rs.length+1)<rs.length+1:=far_lt om
  have a5:∀ {u:World},No A u->0<far (rs.length+1)->rdO prog 3 u ab (ao+(far (rs.length+1) - 1))=some (vi (chAt ats (far (rs.length+1)))):=fun f h=>by
   obtain⟨Y,o',c',e',g'⟩:=in_rd ha (i:=far (rs.length+1) - 1) om;rw[B,hl]at e';cases e';rw[g' _ f,chAt,if_neg om]
  have I:chAt ats rs.length=ats.getD (rs.length - 1) 0:=by rw[chAt,if_neg h0]
  rw[hrow]at b3;have a6:¬ 0<far (rs.length+1)->chAt ats (far (rs.length+1))=0:=fun h=>by rw[chAt,if_pos om]
  have hf:folP rs ats r=⟨(rs.getD (rs.length - 1) rc00).ver+1,(rs.getD (rs.length - 1) rc00).first,chAt ats rs.length,chAt ats (far (rs.length+1)),r.root,r.count,r.sum⟩:=if_neg h0;rw[hf,J,B,I];clear hf J B U V hr ha hrow I a4;generalize rs.getD (rs.length - 1) rc00=L at *;generalize ats.getD (rs.length - 1) 0=PV at *;have b4:=far15 (i:=rs.length+1);have c5:far (rs.length+1)<=rs.length:=by have:=far_lt (i:=rs.length+1) om;omega
  have b6:=fun (u:World)=>b4 u om om;clear b4;generalize far (rs.length+1)=M at *;generalize chAt ats M=SK at *;generalize hN:rs.length=N at *;have c1:IntKind.i64.wrap ((N:Int) - 1)=((N - 1:Nat):Int):=qXr (b:=1) om om;have y1:(0:Int)<=((N - 1:Nat):Int)/\((N - 1:Nat):Int)<((N:Nat):Int):=om
  simp -implicitDefEqProofs only[go_sem,yJ,vH,yN,jY,qQk,Tryz.f60,hz,hW,r4,r5,r6,hb,b0,q2,d0];generalize put W2 W.heap.size (.cells (rcC ⟨0,0,0,0,r.root,r.count,r.sum⟩).toArray 80 (0,0))=E at *;have b7:=b3 (f0.trans f3);obtain⟨W4,b8,f4,k4,s4⟩:=qQl E (rcC rc00).toArray 80;have ll:(rcC L).toArray.size=38:=by rw[kG];exact qXn hq.1
  have q4:wrO prog 80 W4 E.heap.size 0 (.agg (rcC L).toArray)=some (put W4 E.heap.size (.cells (rcC L).toArray 80 (0,0))):=qQr (by rw[ll];exact sz80) k4 (by rw[ll,kG,rz]) (by rw[<- kU];exact rcC_one _);have k5:=qQd (o:=.cells (rcC L).toArray 80 (0,0)) k4;have f5:No E (put W4 E.heap.size (.cells (rcC L).toArray 80 (0,0))):=f4.put (b:=E.heap.size) _ fun h=>by omega
  have d1:=qQh k3;simp -implicitDefEqProofs only[go_sem,yJ,yN,jY,qQk,hz,c1,y1,and_self,iTn,b7,b8,q4];generalize put W4 E.heap.size (.cells (rcC L).toArray 80 (0,0))=W5 at *;have b9:=f3.trans f5;have c0:=f5.at k3 id;have lb:∀ {u:World},Fr (fun b=>b=W.heap.size) W5 u->u.heap[E.heap.size]?=some (.cells (rcC L).toArray 80 (0,0)):=fun f=>f.at k5 om;have a0:rdO prog 3 W5 E.heap.size 0=some (vi L.ver):=rd1 agg3 k5 rfl;have c2:IntKind.i64.wrap ((L.ver:Int)+1)=((L.ver+1:Nat):Int):=qXi (b:=1);obtain⟨q6,f6,k6⟩:=st 0 (L.ver+1) (L.ver+1) 0 0 0 b9 c0 x9 rfl;have g6:Fr (fun b=>b=W.heap.size) W5 (put W5 W.heap.size (.cells (rcC ⟨L.ver+1,0,0,0,r.root,r.count,r.sum⟩).toArray 80 (0,0))):=(Fr.refl _ _).put (b:=W.heap.size) _ fun _=>rfl;simp -implicitDefEqProofs only[go_sem,yJ,jY,a0,c2,q6];generalize put W5 W.heap.size (.cells (rcC ⟨L.ver+1,0,0,0,r.root,r.count,r.sum⟩).toArray 80 (0,0))=W6 at *;have a1:rdO prog 3 W6 E.heap.size 1=some (vi L.first):=rd1 agg3 (lb g6) rfl;obtain⟨q7,f7,k7⟩:=st 1 L.first (L.ver+1) L.first 0 0 f6 k6 x9 rfl;simp -implicitDefEqProofs only[go_sem,yJ,jY,a1,q7];generalize put W6 W.heap.size (.cells (rcC ⟨L.ver+1,L.first,0,0,r.root,r.count,r.sum⟩).toArray 80 (0,0))=W7 at *;have a2:=R W7 (f0.trans f7);obtain⟨q8,f8,k8⟩:=st 2 PV (L.ver+1) L.first PV 0 f7 k7 x9 rfl;have c3:=iSu (i:=N);simp -implicitDefEqProofs only[go_sem,yJ,jY,c1,y1,and_self,iTn,a2,q8,c3];generalize put W7 W.heap.size (.cells (rcC ⟨L.ver+1,L.first,PV,0,r.root,r.count,r.sum⟩).toArray 80 (0,0))=W8 at *;refine qQa pl101 ((b6 W8).mono ?_);rintro _ w9 ⟨rfl,rfl⟩
  have dF:decide ((M:Int) > 0)=decide (0<M):=by
   by_cases h:0<M
   ·rw[decide_eq_true h];exact decide_eq_true om
   ·rw[decide_eq_false h];exact decide_eq_false om
  by_cases hF:0<M
  ·rw[decide_eq_true hF]at dF
   have a3:=a5 (f0.trans f8) hF;have c4:IntKind.i64.wrap ((M:Int) - 1)=((M - 1:Nat):Int):=qXr (b:=1) om om;have y2:(0:Int)<=((M - 1:Nat):Int)/\((M - 1:Nat):Int)<((N:Nat):Int):=om
   obtain⟨q9,f9,k9⟩:=st 3 SK (L.ver+1) L.first PV SK f8 k8 x9 rfl;simp -implicitDefEqProofs only[go_sem,yJ,jY,dF,c4,y2,and_self,iTn,yK,a3,q9];obtain⟨la,qa,a7,fa⟩:=Z ⟨L.ver+1,L.first,PV,SK,r.root,r.count,r.sum⟩ T f9 k9;simp -implicitDefEqProofs only[go_sem,yJ,la,qa,a7];exact fa
  ·rw[decide_eq_false hF]at dF
   rw[a6 hF];obtain⟨la,qa,a7,fa⟩:=Z ⟨L.ver+1,L.first,PV,0,r.root,r.count,r.sum⟩ T f8 k8;simp -implicitDefEqProofs only[go_sem,yJ,dF,la,qa,a7];exact fa
end R
end
section
namespace R
open Aud A
def TF (S:TypeId->Prop)(b w:World)(x:Nat):Prop:=b.heap.size<=x/\∃ c t fz,w.heap[x]?=some (.cells c t fz)/\S t
section
variable {S:TypeId->Prop} {b w w1 w2:World}
theorem TF.trans (h:Fr (TF S b w) w w1)(k:Fr (TF S b w1) w1 w2):Fr (TF S b w) w w2 :=
 h.trans' k fun x E g=>Classical.byContradiction fun A=>A (by
  obtain⟨H,c,t,fz,B,I⟩:=g;rw[h.blk x E A]at B
  exact⟨H,c,t,fz,B,I⟩)
theorem TF.of (S:TypeId->Prop)(b:World)(h:No w w1):Fr (TF S b w) w w1:=h.mono fun _ _ h=>h.elim
theorem TF.no (f:No b w)(h:Fr (TF S b w) w w1):No b w1:=f.trans' h fun x A g=>by have:=g.1;omega
theorem TF.at (h:Fr (TF S b w) w w1){x:Nat}{c:Array Value}{t:TypeId}{fz:Nat × Nat}(A:w.heap[x]?=some (.cells c t fz))(E:¬ S t):w1.heap[x]?=some (.cells c t fz) :=
 h.at A fun g=>by
  obtain⟨_,c',J,H,B,I⟩:=g;rw[A]at B;cases B;exact E I
theorem TF.nwr (h:Fr (TF S b w) w w1){c:World}{rows:Rows}(A:NwR c w ty k v rows)(E:¬ S ty):NwR c w1 ty k v rows :=
 A.fr h fun x H g=>by
  obtain⟨_,c',N,I,J,L⟩:=g;obtain⟨M,B⟩:=qXa A H;rw[J]at B;cases B;exact E L
theorem TF.blk {c:World}{rows:Rows}(H:b.heap.size<=c.heap.size)(A:NwR c w ty k v rows)(h:Fr (fun x=>qQc v=some x) w w1)(B:S ty):Fr (TF S b w) w w1:=h.mono fun x _ e=>by
 obtain⟨c',E⟩:=qXa A e;exact⟨by have:=A.2.new x e;omega,c',_,_,E,B⟩
theorem nwb_row {c:World}(B:NwB c w v bs){x:Nat}(A:qQc v=some x):∃ c',w.heap[x]?=some (.cells c' 5 (0,0)):=by
 rcases B.own with ⟨rfl,_⟩ | ⟨H,I,cap,c,rfl,E,_⟩
 ·cases A
 ·cases A;exact⟨c,E⟩
theorem TF.nwb (h:Fr (TF S b w) w w1){c:World}(A:NwB c w v bs)(E:¬ S 5):NwB c w1 v bs :=
 Nw.fr A h fun x H g=>by
  obtain⟨_,c',N,I,J,L⟩:=g;obtain⟨M,B⟩:=nwb_row A H;rw[J]at B;cases B;exact E L
theorem TF.put (h:Fr (TF S b w) w w1){x:Nat}{c:Array Value}{t:TypeId}{fz:Nat × Nat}(A:w1.heap[x]?=some (.cells c t fz))(B:b.heap.size<=x)(E:S t)(o:Obj)(H:fzO o=false:=by rfl):Fr (TF S b w) w (put w1 x o) :=
 TF.trans h (((Fr.refl (fun y=>y=x) w1).put (b:=x) o (fun _=>rfl) H).mono fun y _ e=>by rw[e];exact⟨B,c,t,fz,A,E⟩)
end
def verN (first i:Nat):Nat:=if 0<first then first+i - 1 else i
structure ImM (b w:World) (tb wd first:Nat) (T:PT) (oM oS rsv av out:Value) (O:Bs) (rs:List Rc) (ats:List Nat):Prop where
 no:No b w
 hb:b.heap.size<=tb
 out:NwB b w out O
 rcs:NwR b w 80 38 rsv (rcRows rs)
 pgn:NwR b w 3 1 av (inR ats)
 tree:w.heap[tb]?=some (.cells #[vi T.page,oM,oS] 141 (0,0))
 hT:T.Wf 0
 hTM:Map 0 T.ents
 hTl:T.ents.length<=2 ^ 16
 hM:EnR b oM T.ents
 hS:NwR b w 229 66 oS ((subsL wd 0 T).map sbR)
 len:rs.length=ats.length
 hrs:∀ r ∈ rs,r.sum.length=32/\r.ver<2 ^ 60
 ver:∀ j,j<rs.length->(rs.getD j rc00).ver=verN first (j+1)/\(rs.getD j rc00).first=first
 atb:∀ q ∈ ats,q<2 ^ 40
theorem ImM.fr0 {T:PT}{A B rsv av out:Value}{rs:List Rc}(h:ImM b w tb wd first T A B rsv av out O rs ats)(f:No w w'):ImM b w' tb wd first T A B rsv av out O rs ats :=
 ⟨h.no.trans f,h.hb,h.out.fr0 f,h.rcs.fr0 f,h.pgn.fr0 f,f.at h.tree id,h.hT,h.hTM,h.hTl,h.hM,h.hS.fr0 f,h.len,h.hrs,h.ver,h.atb⟩
theorem ImM.trm {T:PT}{A B rsv av out:Value}{rs:List Rc}(h:ImM b w tb wd first T A B rsv av out O rs ats):TrM w wd T A B :=
 ⟨h.hT,h.hTM,by have:=h.hTl;omega,h.hM.fr0 h.no,h.hS.rd⟩
theorem fol_rec {wd:Int}{rs:List Rc}{t:PT}{c:Nat}(E:rs.length=ats.length)(H:∀ j, j<rs.length->(rs.getD j rc00).ver=verN first (j+1)/\(rs.getD j rc00).first=first) :
  folP rs ats ⟨if first=0 then 1 else first,first,0,0,t.page,c,dgT wd 256 t⟩=recP wd first ats t c:=by
 unfold folP recP
 by_cases B:rs.length=0
 ·rw[if_pos B]
  have I:ats=[]:=List.length_eq_zero_iff.1 om;subst I
  have A:(if first=0 then 1 else first)=(if 0<first then first+(([]:List Nat).length+1) - 1 else ([]:List Nat).length+1):=by
   by_cases h:first=0
   ·rw[if_pos h,if_neg om];rfl
   ·rw[if_neg h,if_pos om];rfl
  have J:chAt [] (far (([]:List Nat).length+1))=0:=rfl;rw[J,<- A]
  rfl
 ·rw[if_neg B]
  obtain⟨L,M⟩:=H (rs.length - 1) om;rw[L,M,<- E]
  have A:verN first (rs.length - 1+1)+1=(if 0<first then first+(rs.length+1) - 1 else rs.length+1):=by
   unfold verN
   by_cases h:0<first
   ·rw[if_pos h,if_pos h];omega
   ·rw[if_neg h,if_neg h];omega
  rw[A]
theorem news_le (dg:Nat->PT->Bs)(fresh:Nat):∀ (t:PT) (n:Nat),(news dg fresh n t).length<=t.pgs.length
 | .nil,_=>xC _
 | .leaf p k v,n=>by unfold news;split <;> simp[PT.pgs]
 | .br p l r,n=>by
  have:=news_le dg fresh l (n+1);have:=news_le dg fresh r (n+1);show _<=(p::(l.pgs++r.pgs)).length;rw[zU,lAp];unfold news;split
  ·rw[lAp,lAp];show _+_+1<=_;omega
  ·simp
theorem wide_load {n:Nd}(h:NdWide n):(lodN n).length<=160:=by
 cases n with
 | leaf k v=>obtain⟨A,B⟩:=h;show (k++v).length<=160;rw[lAp];omega
 | br E H lc rc ls rs=>obtain⟨_,A,B⟩:=h;show (leB 4 E++leB 4 H++leB 4 lc++leB 4 rc++ls++rs).length<=160;simp only[lAp,qXc];omega
end R
end
section
namespace R
open Aud A
theorem bldTr0:bldO prog 141 []=some (.agg tr0):=by
 unfold bldO;rw[zero141,places141];rfl
def MsR (w:World)(v:Value)(ms:List (List En)):Prop:=∃ rows,RdR w 1 v rows/\rows.length=ms.length/\∀ i (h:i<rows.length) (A:i<ms.length),∃ mv,rows[i]=[mv]/\one mv=true/\EnR w mv ms[i]
theorem MsR.fr0 {ms:List (List En)}(h:MsR w v ms)(f:No w w'):MsR w' v ms:=by
 obtain⟨rows,A,B,E⟩:=h;refine⟨rows,A.fr0 f,B,fun i a b=>?_⟩;obtain⟨mv,e,o,g⟩:=E i a b;exact⟨mv,e,o,g.fr0 f⟩
theorem MsR.slice {ms:List (List En)}(h:MsR w v ms):∃ a cap,v=.slice a ms.length cap/\ms.length<=cap:=by
 obtain⟨rows,A,B,_⟩:=h;rw[<- B];exact A.slice
theorem MsR.at {w:World}{v:Value}{ms:List (List En)}(h:MsR w v ms){i:Nat}(hi:i<ms.length):∃ b o cap mv,v=.slice (some ⟨b,o,Option.none⟩) ms.length cap/\one mv=true/\EnR w mv ms[i]/\∀ w',No w w'->rdO prog 84 w' b (o+i)=some mv:=by
 obtain⟨rows,B,E,H⟩:=h;have A:i<rows.length:=om
 obtain⟨mv,e,I,g⟩:=H i A hi;obtain⟨b,o,cap,rfl,J⟩:=B.pos x9 om;refine⟨b,o,cap,mv,by rw[E],I,g,fun w' f=>?_⟩;have:=(B.fr0 f).fld (P:=prog) (t:=84) agg84 A (j:=0) x9 (x:=mv) (by rw[e];rfl);rw[yK,yF]at this;exact this
def Im10 (b L:World)(wd first i next:Nat)(H esv out rsv av:Value)(tb:Nat)(t:PT)(mv:Value)(M:List Nd)(A:Ev)(B:World):Prop :=
 A 0=vi wd/\A 1=vi first/\A 2=H/\A 8=esv/\A 9=out/\A 10=rsv/\A 11=av/\A 12=pt tb 0/\A 13=vi next/\A 14=vi i/\No L B/\∃ E I J rows,A 15=pt E 0/\A 16=I/\b.heap.size<=E/\E≠tb/\B.heap[E]?=some (.cells #[vi t.page,mv,J] 141 (0,0))/\one I=true/\one J=true /\
 NwR b B 78 102 I rows/\NdRows b rows M/\NwR b B 229 66 J ((subsL wd 0 t).map sbR)
def imJ' (b E:World)(wd first i next:Nat)(A esv rsv av:Value)(tb H:Nat)(I:Value)(B:List Nd)(O:Bs)(n:Nat)(vs:List Value)(w:World):Prop :=
 ∃ (j:Nat) (out:Value),vs=[vi wd,vi first,A,esv,out,rsv,av,pt tb 0,vi next,vi i,pt H 0,I,vi j]/\j<=B.length/\n=B.length - j/\NwB b w out (O++qXy next ((B.take j).map Pg.nd))/\Fr (TF (·=5) b E) E w
theorem bytesP_len:∀ (G:List Pg) (p:Nat),(∀ g ∈ G,g.load.length<=246)->(qXy p G).length=256*G.length
 | [],_,_=>rfl
 | g::G,p,h=>by
  rw[qXy,lAp,bytesP_len G (p+1) fun x A=>h x (List.mem_cons_of_mem _ A),zU];have:(g.bytes p).length=256:=pagB_len (h g sm);omega
theorem bytesP_take {A:List Nd}{next j:Nat}(B:j<A.length):qXy next ((A.take (j+1)).map Pg.nd)=qXy next ((A.take j).map Pg.nd)++(Pg.nd A[j]).bytes (next+j):=by
 rw[tSg B,List.map_append,bytesP_app,zB,lTk,Nat.min_eq_left om];simp[qXy]
def imI' (b:World)(wd first:Nat)(A esv:Value)(tb:Nat)(ms:List (List En))(G:List Pg)(n:Nat)(vs:List Value)(w:World):Prop :=
 ∃ (i next:Nat) (T:PT) (B E rsv av out:Value) (O:Bs) (rs:List Rc) (ats:List Nat),vs=[vi wd,vi first,A,esv,out,rsv,av,pt tb 0,vi next,vi i]/\i<=ms.length/\n=ms.length - i/\ImM b w tb wd first T B E rsv av out O rs ats/\rs.length=i /\
  2<=next/\(∀ p ∈ T.pgs,p<next)/\O.length<=256*next/\O++qXy next (imgP wd first ats T next (ms.drop i))=qXy 2 G/\next+(imgP wd first ats T next (ms.drop i)).length=2+G.length
theorem image17 (w0:World)(ht:Tabs w0)(n5:DivT w0)(wd first:Nat){h7:Value}{ms:List (List En)}(h8:MsR w0 h7 ms)(h9:∀ m ∈ ms, MapOk m/\m.length<=2 ^ 16)(r7:ms.length<=2 ^ 21)(r9:first<=2 ^ 30)(hb:(imgP wd first [] .nil 2 ms).length<=2 ^ 37) :
  Fn prog 30 #[vi wd,vi first,h7] w0 fun v w'=>∃ out,v=.tuple #[out,vi (2+(imgP wd first [] .nil 2 ms).length)]/\NwB w0 w' out (qXy 2 (imgP wd first [] .nil 2 ms))/\No w0 w':=by
 refine go30 sm ?_;obtain⟨ma,mc,rfl,s0⟩:=h8.slice;simp only[go_sem,yJ,vH,jY,Tryz.f30];refine qQa pl55 ((empties w0 ht wd).mono ?_);rintro esv w1 ⟨he,f1⟩;have s1:prog=prog:=rfl;obtain⟨W2,k0,f2,k2,s2⟩:=qQl w1 tr0 141;have q2:wrO prog 141 W2 w1.heap.size 0 (.agg tr0)=some (put W2 w1.heap.size (.cells tr0 141 (0,0))):=qQr sz141 k2 rfl (by rw[<- kU];rfl);have k3:=qQd (o:=.cells tr0 141 (0,0)) k2;have f3:No w1 (put W2 w1.heap.size (.cells tr0 141 (0,0))):=f2.put (b:=w1.heap.size) _ fun h=>by omega
 simp only[go_sem,yJ,yN,bldTr0,k0,q2];generalize put W2 w1.heap.size (.cells tr0 141 (0,0))=w3 at *;have k1:=h8.fr0 f1;have e4:=he.rd;have e5:=ht.no f1;have e6:=n5.no f1;generalize hG:imgP wd first [] PT.nil 2 ms=G at *
 have k4:ImM w1 w3 w1.heap.size wd first .nil nil0 nil0 nil0 nil0 nil0 [] [] []:=⟨f3,xC _,NwB.nil _ _,NwR.nil _ _ _ _,NwR.nil _ _ _ _,k3,trivial,⟨List.Pairwise.nil,(fun e h=>by cases h)⟩,by simp[PT.ents],⟨[],⟨RowsOk.nil _,(NwR.nil w1 w1 83 33).2.rd⟩,rfl,fun i h=>absurd h sm⟩,NwR.nil _ _ _ _,rfl,(fun r h=>by cases h),(fun j h=>absurd h sm),fun q h=>by cases h⟩
 refine loopD [0,1,2,8,9,10,11,12,13,14] (imI' w1 wd first (.slice ma ms.length mc) esv w1.heap.size ms G) ms.length ⟨0,2,.nil,nil0,nil0,nil0,nil0,nil0,[],[],[],rfl,Nat.zero_le _,rfl,k4,rfl,xC _,(fun p h=>by cases h),sm,by rw[List.drop_zero,hG];rfl,by rw[List.drop_zero,hG]⟩ ?_;clear k4 k3 f3 q2 k0 f2 k2 s2 W2 w3;rintro _ vs w4 g ⟨i,next,T,oM,oS,rsv,av,out,O,rs,ats,rfl,hi,rfl,R,b5,h2,hTp,s3,hB,hLn⟩;have d1:=natlt i ms.length
 by_cases b7:i<ms.length
 case neg =>
  rw[decide_eq_false b7]at d1;have hd:ms.drop i=[]:=List.drop_of_length_le om;rw[hd]at hB hLn;have hB:O++[]=qXy 2 G:=hB;have hLn:next+0=2+G.length:=hLn;rw[zO]at hB;simp only[go_sem,yJ,d1];refine⟨out,by rw[<- hLn];rfl,?_,f1.trans R.no⟩;rw[<- hB];exact NwB.back R.out f1.size
 rw[decide_eq_true b7]at d1;rw[vR b7,imgP]at hB hLn;obtain⟨mb,mo,t0,mv,e1,f0,c0,hmr⟩:=k1.at b7;cases e1;obtain⟨a0,k5⟩:=h9 ms[i] (List.getElem_mem b7);generalize ms[i]=m at *
 cases hL:Aud.lay 256 0 true T m next with
 | mk t p =>
 rw[hL]at hB hLn;dsimp only at hB hLn;have hp:=lay_len (dgT wd) (fresh:=next) hTp (xC _) om hL;obtain⟨f4,a8,_⟩:=lay_ok (f:=256) (n:=0) rfl om R.hT a0.1 h2 hL;obtain⟨_,P2,_⟩:=lay_pgs hL;have t1:=news_le (dgT wd) next t 0;have t3:=pgs_len (d:=257) f4 rfl x9;have hTl:=pgs_len (d:=257) R.hT rfl x9;have n6:=R.hTl;have k6:t.ents.length<=2 ^ 16:=by rw[a8];exact k5
 have hpb:p<=next+2 ^ 25:=by
  have:t.ents.length*257<=2 ^ 16*257:=xR _ k6;omega
 have r5:p+1<=2+2 ^ 37:=by
  have k8:=hLn;rw[lAp,zB,zU]at k8;omega
 have k9:T.pgs.length<=2 ^ 36:=by
  have:T.ents.length*257<=2 ^ 16*257:=xR _ n6;omega
 have y1:=iBd (i:=i) (n:=ms.length);simp only[go_sem,yJ,d1];refine qXg (Q:=fun x B w5=>x=.normal/\Im10 w1 w4 wd first i next (.slice (some ⟨mb,mo,.none⟩) ms.length mc) esv out rsv av w1.heap.size t mv (news (dgT wd) next 0 t) B w5) _ (fun x B w5=>?_) ?_
 rotate_left
 ·refine qXl (fun j=>j == 12) (.one 0 (.one 1 (.one 3 (.one 4 (.one 5 (.one 6 (.one 2 (.one 7 (.two 8 (.row [9,10,11,12,13,14]) 12 (.row [8,9,10,11,13,14]))))))))))  rfl x8 x8 ?_
  have fd:No w4 w4.drew:=(Fr.refl _ _).drew;have A:=R.fr0 fd;have s4:w4.drew.heap.size=w4.heap.size:=rfl;generalize w4.drew=w5 at *;have l5:=qQp (P:=prog) (t:=141) agg141 sz141 A.tree;have rm:=hmr w5 A.no;have t4:=qQh A.tree;simp only[go_sem,yJ,yY,yN,bSe,OT.row,l5,y1,and_self,iTn,yK,rm];constructor
  ·refine qQe pl56 ((step10 w1 w5 A.no (e5.no A.no) (e4.fr0 A.no) A.trm hTp k9 c0 a0.1 om a0.2 h2 om hL).mono ?_)
   rintro _ H ⟨f6,nv,L,rows,rfl,d2,a9,hN,hR,hS⟩;refine⟨(fun h=>by cases h),?_⟩;obtain⟨W7,f5,f7,k7,s7⟩:=qQl H tr0 141;have q7:wrO prog 141 W7 H.heap.size 0 (.agg #[vi t.page,mv,L])=some (put W7 H.heap.size (.cells #[vi t.page,mv,L] 141 (0,0))):=qQr sz141 k7 rfl (by rw[<- kU];show (true && (one mv && (one L && true)))=true;rw[f0,a9];rfl);have e7:=f7.ext;have g0:No H (put W7 H.heap.size (.cells #[vi t.page,mv,L] 141 (0,0))):=f7.put (b:=H.heap.size) _ fun h=>by omega
   have s6:=f6.size;have s5:=A.no.size;simp only[go_sem,yJ,yY,yN,bSe,f5,q7,e7,implies_true,true_and];exact⟨rfl,rfl,rfl,rfl,rfl,rfl,rfl,rfl,rfl,rfl,(fd.trans f6).trans g0,H.heap.size,nv,L,rows,rfl,rfl,om,om,qQd k7,d2,a9,(hN.fr0 g0).back s5,hR,(hS.fr0 g0).back s5⟩
  ·obtain⟨W7,f5,f7,k7,s7⟩:=qQl w5 tr0 141
   have e7:=f7.ext;simp only[go_sem,f5];have c3:=A.fr0 f7;refine qQe pl56 ((step10 w1 W7 c3.no (e5.no c3.no) (e4.fr0 c3.no) c3.trm hTp k9 c0 a0.1 om a0.2 h2 om hL).mono ?_);rintro _ H ⟨f6,nv,L,rows,rfl,d2,a9,hN,hR,hS⟩;refine⟨(fun h=>by cases h),?_⟩;have g1:=f6.at k7 id;have q7:wrO prog 141 H w5.heap.size 0 (.agg #[vi t.page,mv,L])=some (put H w5.heap.size (.cells #[vi t.page,mv,L] 141 (0,0))):=qQr sz141 g1 rfl (by rw[<- kU];show (true && (one mv && (one L && true)))=true;rw[f0,a9];rfl);have n7:No w5 (put H w5.heap.size (.cells #[vi t.page,mv,L] 141 (0,0))):=(f7.trans f6).put (b:=w5.heap.size) _ fun h=>by omega
   have U:Fr (TF (·=141) w1 H) H (put H w5.heap.size (.cells #[vi t.page,mv,L] 141 (0,0))):=TF.put (S:=fun x=>x=141) (Fr.refl _ _) g1 (by have:=A.no.size;omega) rfl _;have s5:=A.no.size;have l0:=c3.no.size;simp only[go_sem,yJ,yY,q7];exact⟨rfl,rfl,rfl,rfl,rfl,rfl,rfl,rfl,rfl,rfl,fd.trans n7,w5.heap.size,nv,L,rows,rfl,rfl,om,om,qQd g1,d2,a9,(TF.nwr U hN x9).back l0,hR,(TF.nwr U hS x9).back l0⟩
 rintro⟨rfl,e0,e1,e2,e8,e9,V,W,a6,J,a7,l1,t2,nv,L,rows,l2,l3,n8,hne,l4,d2,a9,hN,hR,hS⟩;rw[thenQ_normal];have l6:p=next+(news (dgT wd) next 0 t).length:=hp;have t5:(news (dgT wd) next 0 t).length<=2 ^ 25:=om
 generalize news (dgT wd) next 0 t=ns at *;have n9:=hR.1;obtain⟨na,nc,rfl,_⟩:=hN.rd.slice;have A:=R.fr0 l1;have l7:=A.no;have t6:next<=2 ^ 38:=om
 have r6:O.length<=2 ^ 46:=om
 have g2:∀ j,j<=ns.length->(O++qXy next ((ns.take j).map Pg.nd)).length<=256*(next+j):=fun j hj=>by
  rw[lAp,bytesP_len _ _ (fun g hg=>by
   obtain⟨n,hn,rfl⟩:=List.mem_map.1 hg;obtain⟨q,hq,rfl⟩:=List.mem_iff_getElem.1 (List.mem_of_mem_take hn);obtain⟨_,_,_,_,_,hw⟩:=hR.2 q om hq;have:=wide_load hw;show (lodN _).length<=246
   omega),zB,lTk,Nat.min_eq_left hj]
  omega
 simp only[go_sem];refine loopD [0,1,2,8,9,10,11,12,13,14,15,16,17] (imJ' w1 w5 wd first i next (.slice (some ⟨mb,mo,.none⟩) ms.length mc) esv rsv av w1.heap.size t2 (.slice na rows.length nc) ns O) ns.length ⟨0,out,?_,Nat.zero_le _,rfl,by rw[j5];show NwB w1 w5 out (O++[]);rw[zO];exact A.out,Fr.refl _ _⟩ ?_
 ·simp only[go_sem,yJ,e0,e1,e2,e8,e9,V,W,a6,J,a7,l2,l3]
  rfl
 clear e0 e1 e2 e8 e9 V W a6 J a7 l2 l3;rintro _ vs H g ⟨j,out,rfl,hj,rfl,c4,F6⟩;have g3:=TF.no l7 F6;have dj:=natlt j rows.length
 by_cases c5:j<ns.length
 ·rw[decide_eq_true (show j<rows.length by omega)]at dj
  obtain⟨vv,hrow,l8,m0,m1,g4⟩:=hR.2 j om c5;have t7:=g2 j hj;have p0:=bytesP_take (next:=next) c5;have t8:=wide_load g4;have m2:=TF.nwr F6 hN x9;obtain⟨nb,no,t9,m3,_⟩:=m2.rd.pos x9 om;cases m3;have a1:IntKind.i64.wrap ((next:Int)+(j:Int))=((next+j:Nat):Int):=qXi;have a2:=iSu (i:=j);have yj:=iBd (i:=j) (n:=rows.length);generalize ns[j]=n at *;simp only[go_sem,yJ,dj];refine qXl (fun j=>false) (.one 0 (.one 1 (.one 2 (.one 3 (.one 4 (.one 6 (.one 7 (.one 8 (.one 9 (.one 10 (.one 11 (.one 12 (.two 5 (.row [13,14,15,16]) 13 (.row [5,14,15,16])))))))))))))) rfl x8 x8 ?_;have fd:No H H.drew:=(Fr.refl _ _).drew;have d3:=m2.fr0 fd;generalize H.drew=M at *;have E:=g3.trans fd;have p1:rdO prog 78 M nb (no+j*102)=some (.agg (ndA n vv).toArray):=by rw[<- hrow];exact d3.rd.get (P:=prog) (t:=78) agg78 sz78 x9 (i:=j) om
  have rk:=fun {y:World} (h:NwR w1 y 78 102 (.slice (some ⟨nb,no,.none⟩) rows.length nc) rows)=>h.rd.fld (P:=prog) (t:=3) agg3 (i:=j) om (j:=0) x9 (x:=.int .i64 (n.kind:Nat)) (by rw[hrow];cases n <;> rfl);simp only[yF]at rk;have p2:=rk d3
  have step:∀ (y:World) (pv:Value),No M y->By y pv ((Pg.nd n).bytes (next+j))->∃ v' w',(Builtin.append_ #[22,22] 0 #[out,pv]).run prog y=.ok v' w'/\NwB w1 w' v' (O++qXy next ((ns.take (j+1)).map Pg.nd))/\Fr (TF (·=5) w1 w5) w5 w':=fun y pv g5 hb=>by
   have b0:=(c4.fr0 fd).fr0 g5
   obtain⟨v',w',hr,p3,_,gb,_⟩:=NwB.catB (P:=prog) app22_22 b0 hb (by
    have:((Pg.nd n).bytes (next+j)).length=256:=pagB_len (by show (lodN n).length<=246;omega)
    omega) (E.trans g5)
   refine⟨v',w',hr,by rw[p0,<- zJ];exact p3,TF.trans (TF.trans F6 (TF.of _ w1 (fd.trans g5))) (gb.mono fun x _ e=>?_)⟩;obtain⟨c,hc⟩:=nwb_row b0 e;exact⟨(NwB.lt b0 e).1,c,_,_,hc,rfl⟩
  simp only[go_sem,yJ,yF,OT.row,yj,and_self,iTn,p1,p2,a1];constructor
  ·refine qQe pl58 ((load9 M g4 l8 (m0.fr0 E) m1).mono ?_);rintro v8 Y ⟨b8,f8⟩
   refine⟨(fun h=>by cases h),?_⟩;have m4:=rk (d3.fr0 f8);simp only[go_sem,yJ];refine qQe pl57 ((page5 Y (e6.no (E.trans f8)) n.kind (next+j) (NwB.by b8) om om).mono ?_);rintro v9 N ⟨b9,f9⟩;refine⟨(fun h=>by cases h),?_⟩;obtain⟨va,wa,g6,ba,Fa⟩:=step N v9 (f8.trans f9) (NwB.by b9);simp only[go_sem,yJ];refine qZm ⟨va,wa,g6,?_⟩;refine⟨(fun h=>by cases h),?_⟩;simp only[go_sem,yJ,a2];exact⟨ns.length - (j+1),om,j+1,va,rfl,om,rfl,ba,Fa⟩
  ·refine qQe pl58 ((load9 M g4 l8 (m0.fr0 E) m1).mono ?_);rintro v8 Y ⟨b8,f8⟩
   refine⟨(fun h=>by cases h),?_⟩;have m4:=rk (d3.fr0 f8);simp only[go_sem,yJ,m4,implies_true,true_and];refine qQe pl57 ((page5 Y (e6.no (E.trans f8)) n.kind (next+j) (NwB.by b8) om om).mono ?_);rintro v9 N ⟨b9,f9⟩;refine⟨(fun h=>by cases h),?_⟩;obtain⟨va,wa,g6,ba,Fa⟩:=step N v9 (f8.trans f9) (NwB.by b9);simp only[go_sem,yJ];refine qZm ⟨va,wa,g6,?_⟩;refine⟨(fun h=>by cases h),?_⟩;simp only[go_sem,yJ,a2];exact⟨ns.length - (j+1),om,j+1,va,rfl,om,rfl,ba,Fa⟩
 rw[decide_eq_false (show ¬ j<rows.length by omega)]at dj;obtain rfl:j=ns.length:=om
 have p4:=g2 ns.length hj;rw[List.take_length]at c4 p4;clear g2;generalize p5:O++qXy next (ns.map Pg.nd)=O' at *;have d5:=TF.at F6 l4 x9;have b4:=TF.at F6 A.tree x9;have m5:=qQp (P:=prog) (t:=141) agg141 sz141 d5;have q6:wrO prog 141 H w1.heap.size 0 (.agg #[vi t.page,mv,L])=some (put H w1.heap.size (.cells #[vi t.page,mv,L] 141 (0,0))):=qQr sz141 b4 rfl (by rw[<- kU];show (true && (one mv && (one L && true)))=true;rw[f0,a9];rfl);have k7:=qQd (o:=.cells #[vi t.page,mv,L] 141 (0,0)) b4;have U:Fr (TF (fun x=>x=141) w1 H) H (put H w1.heap.size (.cells #[vi t.page,mv,L] 141 (0,0))):=TF.put (S:=fun x=>x=141) (Fr.refl _ _) b4 (xC _) rfl _;have a3:IntKind.i64.wrap ((next:Int)+((rows.length:Nat):Int))=((p:Nat):Int):=by rw[l6,n9];exact qXi
 simp only[go_sem,yJ,dj,m5,q6,a3];have E:=TF.no g3 U;have g7:=TF.nwb U c4 x9;have d6:=TF.nwr U (TF.nwr F6 A.rcs x9) x9;have d7:=TF.nwr U (TF.nwr F6 A.pgn x9) x9;have p6:=TF.nwr U (TF.nwr F6 hS x9) x9;generalize put H w1.heap.size (.cells #[vi t.page,mv,L] 141 (0,0))=M at *;clear q6 m5 d5 b4 U F6 l4 hN hR hS l1 A l7 g3 hne n8;have c6:(dgT wd 256 t).length=32:=qZv _ _ _;have g8:=fun {y:World} (f:No w1 y)=>rootWith10 (wd:=wd) (esv:=esv) t (e5.no f) (e4.fr0 f) (mv:=mv) (by rw[a8];exact c0.fr0 f) f4 (by rw[a8];exact a0.1) (fun e h=>by rw[a8]at h;have:=a0.2 e h;omega) (by rw[a8];omega);have m6:=fol_rec (wd:=wd) (first:=first) (t:=t) (c:=m.length) R.len R.ver;have c7:(recP wd first ats t m.length).sum.length=32:=qZv _ _ _;generalize dgT wd 256 t=D at g8 m6 c6;refine qXg (Q:=fun x B Y=>x=.normal/\B 0=vi wd/\B 1=vi first/\B 2=.slice (some ⟨mb,mo,.none⟩) ms.length mc/\B 8=esv/\B 9=out/\B 10=rsv/\B 11=av/\B 12=pt w1.heap.size 0/\B 13=vi p/\B 14=vi i/\No M Y/\∃ rb,B 18=pt rb 0/\M.heap.size<=rb/\Y.heap[rb]?=some (.cells (rcC ⟨first,first,0,0,t.page,m.length,D⟩).toArray 80 (0,0))) _ (fun x B Y=>?_) ?_
 rotate_left
 ·refine qXl (fun j=>j == 15 || j == 17) (.one 0 (.one 1 (.one 2 (.one 4 (.one 5 (.one 6 (.one 9 (.one 10 (.one 11 (.one 12 (.one 13 (.one 3 (.one 7 (.one 8 (.one 14 (.two 15 (.row [16,17,18]) 17 (.row [15,16,18])))))))))))))))))  rfl x8 x8 ?_
  have fd:No M M.drew:=(Fr.refl _ _).drew;have s8:M.drew.heap.size=M.heap.size:=rfl;generalize M.drew=Y at *;have g9:=E.trans fd;have r8:rdO prog 3 Y w1.heap.size 0=some (vi t.page):=rd1 agg3 (fd.at k7 id) rfl;have p7:=hmr Y g9;obtain⟨va,vc,p8,_⟩:=c0.slice;have bR:=bldR5 (v:=first) (f:=first) (ro:=t.page) (c:=m.length) c6;have b6:(rcC ⟨first,first,0,0,t.page,m.length,D⟩).length=38:=qXn c6;have hz:=rcZero;subst p8;simp only[go_sem,yJ,yY,yN,bSe,jY,qQk,OT.row,y1,and_self,iTn,yK,r8,p7,hz];constructor
  ·refine qQe pl59 ((g8 g9).mono ?_);rintro _ N ⟨rfl,f9⟩
   refine⟨fun _=>Fr.ext f9,?_⟩;obtain⟨Wa,h0,fa,ka,sa⟩:=qQl N (rcC rc00).toArray 80;have qa:wrO prog 80 Wa N.heap.size 0 (.agg (rcC ⟨first,first,0,0,t.page,m.length,D⟩).toArray)=some (put Wa N.heap.size (.cells (rcC ⟨first,first,0,0,t.page,m.length,D⟩).toArray 80 (0,0))):=qQr (by simp[b6];exact sz80) ka (by simp[b6,qXn (r:=rc00) z32l]) (by simpa using rcC_one _);have ea:=fa.ext;have fb:No N (put Wa N.heap.size (.cells (rcC ⟨first,first,0,0,t.page,m.length,D⟩).toArray 80 (0,0))):=fa.put (b:=N.heap.size) _ fun h=>by omega
   have s9:=f9.size;simp only[go_sem,yJ,yY,yN,bSe,qQk,bR,hz,h0,qa,ea,implies_true,true_and];exact⟨(fd.trans f9).trans fb,N.heap.size,rfl,om,qQd ka⟩
  ·obtain⟨Wa,h0,fa,ka,sa⟩:=qQl Y (rcC rc00).toArray 80
   have ea:=fa.ext;simp only[go_sem,h0];refine qQe pl59 ((g8 (g9.trans fa)).mono ?_);rintro _ N ⟨rfl,f9⟩;refine⟨fun _=>Fr.ext f9,?_⟩;have m7:=f9.at ka id;have qa:wrO prog 80 N Y.heap.size 0 (.agg (rcC ⟨first,first,0,0,t.page,m.length,D⟩).toArray)=some (put N Y.heap.size (.cells (rcC ⟨first,first,0,0,t.page,m.length,D⟩).toArray 80 (0,0))):=qQr (by simp[b6];exact sz80) m7 (by simp[b6,qXn (r:=rc00) z32l]) (by simpa using rcC_one _);have fb:No Y (put N Y.heap.size (.cells (rcC ⟨first,first,0,0,t.page,m.length,D⟩).toArray 80 (0,0))):=(fa.trans f9).put (b:=Y.heap.size) _ fun h=>by omega
   simp only[go_sem,yJ,yY,bR,qa];exact⟨fd.trans fb,Y.heap.size,rfl,om,qQd m7⟩
 rintro⟨rfl,e0,e1,e2,e8,e9,V,W,a6,J,a7,h4,rb,b1,u0,b3⟩;rw[thenQ_normal];have b6:∀ v,(rcC ⟨v,first,0,0,t.page,m.length,D⟩).length=38:=fun v=>qXn c6;refine qZk (fun B N=>B 0=vi wd/\B 1=vi first/\B 2=.slice (some ⟨mb,mo,.none⟩) ms.length mc/\B 8=esv/\B 9=out/\B 10=rsv/\B 11=av/\B 12=pt w1.heap.size 0/\B 13=vi p/\B 14=vi i/\No M N/\B 18=pt rb 0/\N.heap[rb]?=some (.cells (rcC ⟨if first=0 then 1 else first,first,0,0,t.page,m.length,D⟩).toArray 80 (0,0))) ?_ ?_
 ·have dz:=nateq first 0
  by_cases hz:first=0
  ·have dz:((first:Int) == 0)=true:=dz.trans (decide_eq_true hz)
   have q8:wrO prog 3 Y rb 0 (.int .i64 1)=some (put Y rb (.cells (rcC ⟨if first=0 then 1 else first,first,0,0,t.page,m.length,D⟩).toArray 80 (0,0))):=by
    rw[wr1 sz3 rfl b3 (by simp[b6]),if_pos hz];rfl
   simp only[go_sem,yJ,jY,e1,dz,b1,q8,e0,e2,e8,e9,V,W,a6,J,a7,true_and];exact⟨h4.put (b:=rb) _ fun h=>by omega,qQd b3⟩
  ·have dz:((first:Int) == 0)=false:=dz.trans (decide_eq_false hz)
   simp only[go_sem,yJ,e1,dz,b1,e0,e2,e8,e9,V,W,a6,J,a7,true_and];exact⟨h4,by rw[if_neg hz];exact b3⟩
 clear e0 e1 e2 e8 e9 V W a6 J a7 b1 b3 h4;rintro B N ⟨e0,e1,e2,e8,e9,V,W,a6,J,a7,h5,b1,b3⟩;generalize p9:(⟨if first=0 then 1 else first,first,0,0,t.page,m.length,D⟩:Rc)=r0 at *;have d8:r0.sum.length=32:=by rw[<- p9];exact c6
 have m8:(rcC r0).toArray.size=38:=by rw[kG];exact qXn d8
 generalize m9:recP (wd:Int) first ats t m.length=I at *;have c8:(rcC I).toArray.size=38:=by rw[kG];exact qXn c7
 have l9:=qQp (P:=prog) (t:=80) agg80 sz80 b3 m8;have d9:=follow15 N (rv:=rsv) (av:=av) (rs:=rs) (ats:=ats) (d6.fr0 h5).rd (d7.fr0 h5).rd R.len om R.hrs d8;rw[m6]at d9
 have d4:I.ver=verN first (i+1)/\I.first=first:=by
  rw[<- m9];unfold recP verN;rw[<- R.len,b5];exact⟨rfl,rfl⟩
 have u1:verN first (i+1)<2 ^ 40:=by unfold verN;split <;> omega
 have n0:I.ver<2 ^ 62/\I.first<2 ^ 62/\I.prev<2 ^ 62/\I.skip<2 ^ 62/\I.root<2 ^ 62/\I.count<2 ^ 62:=by
  have hpg:t.page<2 ^ 40:=page_lt x9 fun q hq=>by
   rcases P2 q hq with h | h
   ·have:=hTp q h;omega
   ·omega
  have e3:=R.atb;have c1:=chAt_lt (a:=ats) (i:=ats.length) (b:=2 ^ 40) om e3;have c2:=chAt_lt (a:=ats) (i:=far (ats.length+1)) (b:=2 ^ 40) om e3
  refine⟨by rw[d4.1];omega,by rw[d4.2];omega,?_,?_,?_,?_⟩ <;> rw[<- m9] <;> unfold recP <;> dsimp only <;> omega
 simp only[go_sem,yJ,V,W,b1,l9];refine qQa pl60 (d9.mono ?_);rintro _ wa ⟨rfl,fa⟩;have ka:=fa.at b3 id;have qa:wrO prog 80 wa rb 0 (.agg (rcC I).toArray)=some (put wa rb (.cells (rcC I).toArray 80 (0,0))):=qQr (by rw[c8];exact sz80) ka (by rw[m8,c8]) (by rw[<- kU];exact rcC_one _);have kb:=qQd (o:=.cells (rcC I).toArray 80 (0,0)) ka;have n3:No M (put wa rb (.cells (rcC I).toArray 80 (0,0))):=(h5.trans fa).put (b:=rb) _ fun h=>by omega
 simp only[go_sem,yJ,b1,qa];generalize put wa rb (.cells (rcC I).toArray 80 (0,0))=wb at *;have lb:=qQp (P:=prog) (t:=80) agg80 sz80 kb c8;simp only[go_sem,e9,J,lb];refine qQa pl61 ((load15 wb c7 n0).mono ?_);rintro vc wc ⟨bc,fc⟩;simp only[go_sem,yJ];have q0:=(E.trans n3).trans fc;have u2:(lodR I).length=56:=lodR_len c7;refine qQa pl57 ((page5 wc (e6.no q0) 3 p (NwB.by bc) om om).mono ?_);rintro vd u3 ⟨bd,fd⟩;simp only[go_sem,yJ];have h6:=(n3.trans fc).trans fd;have Z:=g7.fr0 h6;obtain⟨ve,we,q1,be,_,ge,_⟩:=NwB.catB (P:=prog) app22_22 Z (NwB.by bd) (by rw[pagB_len om];omega) (E.trans h6)
 have Fe:Fr (TF (fun x=>x=5) w1 M) M we:=TF.trans (TF.of _ w1 h6) (ge.mono fun x _ e=>by
  obtain⟨c,hc⟩:=nwb_row Z e
  exact⟨(NwB.lt Z e).1,c,_,_,hc,rfl⟩)
 refine qQj ⟨ve,we,q1,?_⟩;have q3:=TF.no E Fe
 have ke:=ge.at (fd.at (fc.at kb id) id) fun h=>by
  obtain⟨c,hc⟩:=nwb_row Z h;rw[fd.at (fc.at kb id) id]at hc;cases hc
 have le:=qQp (P:=prog) (t:=80) agg80 sz80 ke c8;have c9:=TF.nwr Fe d6 x9;have u4:(rcRows rs).length=i:=by rw[<- b5];exact zB _
 obtain⟨vf,wf,q4,bf,gf,mf⟩:=c9.push (P:=prog) app89_89 (xs:=rcC I) (qXn c7) (rcC_one _) x9 om om q3.size;have Ff:Fr (TF (fun x=>x=5∨x=80) w1 M) M wf:=TF.trans (Fe.mono fun x _ ⟨h1,c,ty,fz,h2,h3⟩=>⟨h1,c,ty,fz,h2,.inl h3⟩) (TF.blk (xC _) c9 gf (.inr rfl));simp only[go_sem,yJ,yN,jY,qQk,V,b1,le];refine qQm (v:=.slice (some ⟨we.heap.size,0,none⟩) 1 1) (w':=we.alloc (.cells (rcC I).toArray 80)) (qXb (K:=38) x9 x9 (y:=rcC rc00) (qXn z32l) (by simp[]) c8 _) ?_;simp only[go_sem,yJ];refine qQj ⟨vf,wf,q4,?_⟩;have q5:=TF.no E Ff;have d0:=TF.nwr Ff d7 x9;obtain⟨vg,wg,q9,bg,gg,mg⟩:=d0.push (P:=prog) app45_45 (xs:=[vi p]) rfl rfl x9 (by rw[qVk,<- R.len,b5];omega) (by rw[qVk,<- R.len,b5];omega) q5.size;have Fg:Fr (TF (fun x=>(x=5∨x=80)∨x=3) w1 M) M wg:=TF.trans (Ff.mono fun x _ ⟨h1,c,ty,fz,h2,h3⟩=>⟨h1,c,ty,fz,h2,.inl h3⟩) (TF.blk (xC _) d0 gg (.inr rfl));simp only[go_sem,yJ,yN,jY,W,J];refine qQm (v:=.slice (some ⟨wf.heap.size,0,none⟩) 1 1) (w':=wf.alloc (.cells #[vi p] 3)) (qXb (K:=1) x9 x9 (y:=[.int .i64 0]) rfl rfl rfl _) ?_;simp only[go_sem,yJ];refine qQj ⟨vg,wg,q9,?_⟩;have a4:=iSu (i:=p);have a5:=iSu (i:=i);have n4:Fr (TF (fun x=>x=3) w1 wf) wf wg:=TF.blk (xC _) d0 gg rfl;have r2:Fr (TF (fun x=>x=80) w1 we) we wf:=TF.blk (xC _) c9 gf rfl;have r3:(Pg.rc I).bytes p=pagB 3 p (lodR I):=rfl;have r4:(pagB 3 p (lodR I)).length=256:=pagB_len om;simp only[go_sem,yJ,J,a7,a4,a5];refine⟨ms.length - (i+1),om,i+1,p+1,t,mv,L,vf,vg,ve,O'++(Pg.rc I).bytes p,rs++[I],ats++[p],?_,om,rfl,⟨TF.no E Fg,xC _,TF.nwb n4 (TF.nwb r2 be x9) x9,?_,?_,TF.at Fg k7 x9,f4,by rw[a8];exact a0.1,k6,by rw[a8];exact c0,TF.nwr Fg p6 x9,?_,?_,?_,?_⟩,by simp[b5],om,?_,?_,?_,?_⟩
 ·simp only[go_sem,e0,e1,e2,e8,a6]
 ·have:rcRows (rs++[I])=rcRows rs++[rcC I]:=by simp[rcRows]
  rw[this];exact TF.nwr n4 bf x9
 ·have:inR (ats++[p])=inR ats++[[vi p]]:=by simp[inR]
  rw[this];exact bg
 ·simp[R.len]
 ·intro r hr
  rcases List.mem_append.1 hr with h | h
  ·exact R.hrs r h
  ·rw[List.mem_singleton.1 h]
   exact⟨c7,by rw[d4.1];omega⟩
 ·intro j hj
  rw[lAp]at hj
  by_cases c5:j<rs.length
  ·rw[gDq,List.getElem?_append_left c5,<- gDq]
   exact R.ver j c5
  ·have u5:j<rs.length+1:=hj
   obtain rfl:j=rs.length:=om
   rw[gDq,z4 (xC _),Nat.sub_self,b5];exact d4
 ·intro q hq
  rcases List.mem_append.1 hq with h | h
  ·exact R.atb q h
  ·rw[List.mem_singleton.1 h];omega
 ·intro q hq
  rcases P2 q hq with h | h
  ·have:=hTp q h;omega
  ·omega
 ·rw[lAp,r3,r4];omega
 ·rw[bytesP_app,zB,<- l6]at hB
  rw[<- hB,<- p5];simp only[qXy,zJ]
 ·rw[lAp,zB,zU]at hLn
  omega
end R
end
section
namespace R
open Aud A
end R
end
section
namespace R
open Aud A
theorem rcC_one (r:Rc):(rcC r).toArray.all one=true:=by
 rw[<- kU];unfold rcC;rw[List.all_append,qXs,Bool.and_true]
 rfl
end R
end
section
namespace A
open Aud
abbrev enP (o:Option Nat):Option Value:=o.map fun p=>.int .i64 (p:Nat)
def RowsIn (n:Nat)(row:Bs)(t:PT)(rows A:List (RK × Value)):Prop:=∀ key,findM A key=(enP (Aud.rowAt n row t key)).or (findM rows key)
def LvsIn (t:PT)(lvs A:List (Bs × Value)):Prop:=∀ k,findM A k=(enP (lfAt t k)).or (findM lvs k)
theorem RowsIn.nil (n:Nat)(row:Bs)(rows:List (RK × Value)):RowsIn n row .nil rows rows:=fun _=>rfl
theorem LvsIn.nil (lvs:List (Bs × Value)):LvsIn .nil lvs lvs:=fun _=>rfl
theorem RowsIn.leaf (n:Nat)(row:Bs)(p:Nat)(k v:Bs)(rows:List (RK × Value)):RowsIn n row (.leaf p k v) rows (insM rows (n,row) (.int .i64 (p:Nat))):=fun key=>by
 rw[qVs];unfold Aud.rowAt
 by_cases h:key=(n,row)
 ·rw[if_pos h,if_pos h.symm];rfl
 ·rw[if_neg h,if_neg fun e=>h e.symm];rfl
theorem LvsIn.leaf (p:Nat)(k v:Bs)(lvs:List (Bs × Value)):LvsIn (.leaf p k v) lvs (insM lvs k (.int .i64 (p:Nat))):=fun key=>by
 rw[qVs];unfold lfAt
 by_cases h:k=key
 ·rw[if_pos h,if_pos h];rfl
 ·rw[if_neg h,if_neg h];rfl
theorem LvsIn.br {l r:PT}{A B E:List (Bs × Value)}(H:LvsIn l A B)(I:LvsIn r B E):LvsIn (.br p l r) A E:=fun k=>by
 rw[I k,H k];show _=(enP ((lfAt r k).or (lfAt l k))).or _
 cases lfAt r k <;> cases lfAt l k <;> rfl
theorem row_off {row:Bs}(b:Bool){t:PT}(A:n<256)(B:Row n row)(E:t.Wf (n+1)):Aud.rowAt (n+1) (under n b row) t (n,row)=none:=by
 cases h:Aud.rowAt (n+1) (under n b row) t (n,row) with
 | none=>rfl
 | some p=>have:=(rowAt_in om E (B.under A b) h).1;omega
theorem RowsIn.br {row:Bs}{l r:PT}{A B E:List (RK × Value)}(H:n<256)(I:Row n row)(w1:l.Wf (n+1))(w2:r.Wf (n+1))(J:RowsIn (n+1) (under n false row) l (insM A (n,row) (.int .i64 (p:Nat))) B)(L:RowsIn (n+1) (under n true row) r B E):RowsIn n row (.br p l r) A E:=fun key=>by
 rw[L key,J key,qVs];show _=(enP (if key=(n,row) then some p else (Aud.rowAt (n+1) (under n true row) r key).or (Aud.rowAt (n+1) (under n false row) l key))).or _
 by_cases h:key=(n,row)
 ·subst h;rw[if_pos rfl,if_pos rfl,row_off true H I w2,row_off false H I w1];rfl
 ·rw[if_neg h,if_neg fun e=>h e.symm]
  cases Aud.rowAt (n+1) (under n true row) r key <;> cases Aud.rowAt (n+1) (under n false row) l key <;> rfl
theorem RowsIn.brL {row:Bs}{l r:PT}{A B E:List (RK × Value)}(J:n<256)(L:Row n row)(w1:l.Wf (n+1))(w2:r.Wf (n+1))(H:RowsIn (n+1) (under n false row) l A B)(I:RowsIn (n+1) (under n true row) r B E):RowsIn n row (.br p l r) A (insM E (n,row) (.int .i64 (p:Nat))):=fun key=>by
 rw[qVs,I key,H key];show _=(enP (if key=(n,row) then some p else (Aud.rowAt (n+1) (under n true row) r key).or (Aud.rowAt (n+1) (under n false row) l key))).or _
 by_cases h:key=(n,row)
 ·subst h;rw[if_pos rfl,if_pos rfl];rfl
 ·rw[if_neg h,if_neg fun e=>h e.symm]
  cases Aud.rowAt (n+1) (under n true row) r key <;> cases Aud.rowAt (n+1) (under n false row) l key <;> rfl
section
variable {c:Cx} {w w':World} {next:Nat} {rows:List (RK × Value)} {lvs:List (Bs × Value)}
theorem PassM.lt (h:PassM c w next rows lvs){b:Nat}(A:PaB c b):b<w.heap.size:=by
 obtain⟨I,J,B,_⟩:=h.sg;obtain⟨_,_,E,_⟩:=h.nowR;obtain⟨_,_,H,_⟩:=h.nowL
 rcases A with rfl | rfl | rfl | rfl
 ·exact qQh B.row
 ·exact qQh h.pass
 ·exact qQh E
 ·exact qQh H
theorem keep {dgf:Nat->PT->Bs}(hk:c.Ok):∀ {t:PT} {n:Nat} {row:Bs} {w:World} {rows:List (RK × Value)} {lvs:List (Bs × Value)}, PassM c w next rows lvs->Stands dgf (ndsP c.pg) n t->t.Wf n->t≠.nil->n<=256->Row n row ->
  Fn prog 162 #[pt c.pb 0,.int .i64 (t.page:Nat),.agg (rwC n row).toArray] w fun v w'=>v=.tuple #[]/\Fr (PaB c) w w'/\∃ A E,PassM c w' next A E/\RowsIn n row t rows A/\LvsIn t lvs E
 | .nil,_,_,_,_,_,_,_,_,R,_,_=>absurd rfl R
 | .leaf p k v,n,row,w,rows,lvs,h,a5,hw,_,b6,I=>by
  refine go162 sm ?_;obtain⟨W,hW,f1,k1,s1⟩:=qQl w (rwC n row).toArray 158;have hP:=h.fr0 f1;obtain⟨p0,p1,_⟩:=hP.rds;obtain⟨vv,lk,ov,nb,B,_,_⟩:=hP.ndS hk (p:=p) (n:=.leaf k v) a5;obtain⟨W2,a6,f2,k2,s2⟩:=qQl W nd0.toArray 78;have q3:wrO prog 78 W2 W.heap.size 0 (.agg (ndA (.leaf k v) vv).toArray)=some (put W2 W.heap.size (.cells (ndA (.leaf k v) vv).toArray 78 (0,0))):=qQr (by simp[qJd B];exact sz78) k2 (by simp[qJd B,qXf z32l z32l z32l]) (by simpa using ndA_one ov);have f3:=f2.put (b:=W.heap.size) (.cells (ndA (.leaf k v) vv).toArray 78 (0,0)) fun h=>by omega
  have T:=qQi (b:=W.heap.size) (o:=.cells (ndA (.leaf k v) vv).toArray 78 (0,0)) (f2.at k1 id) om;have J:=qQd (o:=.cells (ndA (.leaf k v) vv).toArray 78 (0,0)) k2;have hpg:Value.int IntKind.i64 ((PT.leaf p k v).page:Nat)=.int .i64 (p:Nat):=rfl;rw[hpg];simp -implicitDefEqProofs only[go_sem,yJ,yY,vH,yN,jY,qQk,Tryz.f162,hW,p0,p1,lk,ndZero,a6,q3];have h3:=hP.fr0 f3;generalize put W2 W.heap.size (.cells (ndA (.leaf k v) vv).toArray 78 (0,0))=Z at *;obtain⟨_,_,p2,_,p4,_⟩:=h3.rds;obtain⟨_,_,t2⟩:=rdRw I.1 T;have h3:=h3.fr0 (Fr.refl _ _).drew;have f3:=(f1.trans f3).drew;have T:Z.drew.heap[w.heap.size]?=_:=T;have J:Z.drew.heap[W.heap.size]?=_:=J;have s3:W.heap.size<Z.drew.heap.size:=qQh J;obtain⟨ob,L,h4,f4⟩:=h3.putR hk (n:=n) (r:=row) I.1 p;have L:putE prog 158 Z.heap[c.nR]? (.agg (rwC n row).toArray) (.int .i64 (p:Nat))=some ob:=L;simp -implicitDefEqProofs only[go_sem,yJ,jY,p2,p4,t2,map152,L];have lR:=h.lt (b:=c.nR) (.inr (.inr (.inl rfl)));have J:=f4.at J fun e=>by omega
  have f4:=f4.mono (G:=PaB c) fun _ _ e=>.inr (.inr (.inl e));generalize put Z.drew c.nR ob=W5 at *;obtain⟨d0,_,_,d3,_⟩:=rdLf B.1 J;obtain⟨_,_,p2,_,_,p5,_⟩:=h4.rds;have h4:=h4.fr0 (Fr.refl _ _).drew;obtain⟨b7,a0,h5,f5⟩:=h4.putL hk (k:=k) B.1 p;have a0:putE prog 76 W5.heap[c.nL]? (dg k) (.int .i64 (p:Nat))=some b7:=a0;have c1:((1:Int) == 1)=true:=rfl;simp -implicitDefEqProofs only[go_sem,yJ,yY,bSe,jY,d0,p2,p5,d3,map153,a0];exact⟨((f3.mono fun _ _ h=>h.elim).trans f4).drew.trans (f5.mono fun _ _ e=>.inr (.inr (.inr e))),_,_,h5,RowsIn.leaf n row p k v rows,LvsIn.leaf p k v lvs⟩
 | .br p l r,n,row,w,rows,lvs,h,a5,hw,_,b6,I=>by
  refine go162 sm ?_;obtain⟨b8,_,_,b9,b1⟩:=a5;obtain⟨_,R,_,_,_,w1,w2⟩:=hw;obtain⟨W,hW,f1,k1,s1⟩:=qQl w (rwC n row).toArray 158;have hP:=h.fr0 f1;obtain⟨p0,p1,_⟩:=hP.rds;obtain⟨vv,lk,ov,nb,B,_,_⟩:=hP.ndS hk b8;generalize c4:l.ents.length=lc at *;generalize hrc:r.ents.length=rc at *;generalize c5:said dgf (255 - n) l=ls at *;generalize hrs:said dgf (255 - n) r=rs at *;obtain⟨W2,a6,f2,k2,s2⟩:=qQl W nd0.toArray 78;have q3:wrO prog 78 W2 W.heap.size 0 (.agg (ndA (.br l.page r.page lc rc ls rs) vv).toArray)=some (put W2 W.heap.size (.cells (ndA (.br l.page r.page lc rc ls rs) vv).toArray 78 (0,0))):=qQr (by simp[qJd B];exact sz78) k2 (by simp[qJd B,qXf z32l z32l z32l]) (by simpa using ndA_one ov);have f3:=f2.put (b:=W.heap.size) (.cells (ndA (.br l.page r.page lc rc ls rs) vv).toArray 78 (0,0)) fun h=>by omega
  have T:=qQi (b:=W.heap.size) (o:=.cells (ndA (.br l.page r.page lc rc ls rs) vv).toArray 78 (0,0)) (f2.at k1 id) om;have J:=qQd (o:=.cells (ndA (.br l.page r.page lc rc ls rs) vv).toArray 78 (0,0)) k2;have hpg:Value.int IntKind.i64 ((PT.br p l r).page:Nat)=.int .i64 (p:Nat):=rfl;rw[hpg];simp -implicitDefEqProofs only[go_sem,yJ,yY,vH,yN,jY,qQk,Tryz.f162,hW,p0,p1,lk,ndZero,a6,q3];have h3:=hP.fr0 f3;generalize put W2 W.heap.size (.cells (ndA (.br l.page r.page lc rc ls rs) vv).toArray 78 (0,0))=Z at *;obtain⟨_,_,p2,_,p4,_⟩:=h3.rds;obtain⟨_,_,t2⟩:=rdRw I.1 T;have h3:=h3.fr0 (Fr.refl _ _).drew;have f3:=(f1.trans f3).drew;have T:Z.drew.heap[w.heap.size]?=_:=T;have J:Z.drew.heap[W.heap.size]?=_:=J;have s3:W.heap.size<Z.drew.heap.size:=qQh J;obtain⟨ob,L,h4,f4⟩:=h3.putR hk (n:=n) (r:=row) I.1 p;have L:putE prog 158 Z.heap[c.nR]? (.agg (rwC n row).toArray) (.int .i64 (p:Nat))=some ob:=L;simp -implicitDefEqProofs only[go_sem,yJ,jY,p2,p4,t2,map152,L];have lR:=h.lt (b:=c.nR) (.inr (.inr (.inl rfl)));have J:=f4.at J fun e=>by omega
  have T:=f4.at T fun e=>by omega
  have f4:=f4.mono (G:=PaB c) fun _ _ e=>.inr (.inr (.inl e));generalize put Z.drew c.nR ob=W5 at *;obtain⟨d0,d1,d2,_⟩:=rdBr B.2.1 B.2.2 J;have a7:((2:Int) == 1)=false:=rfl;have fw:Fr (PaB c) w W5:=(f3.mono fun _ _ h=>h.elim).trans f4;have c6:w.heap.size<W.heap.size:=qQh k1;have lP:∀ {b:Nat},PaB c b->b<w.heap.size:=h.lt;have nl:((l.page:Int) != 0)=decide (l.page≠0):=natne l.page 0;have nr:((r.page:Int) != 0)=decide (r.page≠0):=natne r.page 0;have c7:∀ b,(Aud.under n b row).length=32:=fun b=>(I.under R b).1
  have K:∀ {w' A E},Fr (PaB c) w w'->PassM c w' next A E->RowsIn n row (.br p l r) rows A->LvsIn (.br p l r) lvs E->Fr (PaB c) w w'/\∃ A E,PassM c w' next A E/\RowsIn n row (.br p l r) rows A/\LvsIn (.br p l r) lvs E:=fun a b c d=>⟨a,_,_,b,c,d⟩
  by_cases zl:l.page=0
  ·obtain rfl:l=.nil:=l.page_nil w1 zl
   rw[decide_eq_false fun e=>e rfl]at nl
   by_cases zr:r.page=0
   ·obtain rfl:r=.nil:=r.page_nil w2 zr
    rw[decide_eq_false fun e=>e rfl]at nr;simp -implicitDefEqProofs only[go_sem,yJ,jY,d0,a7,d1,nl,d2];exact K fw h4 (RowsIn.br R I w1 w2 (.nil _ _ _) (.nil _ _ _)) (LvsIn.br (.nil _) (.nil _))
   ·rw[decide_eq_true zr]at nr
    simp -implicitDefEqProofs only[go_sem,yJ,jY,d0,a7,d1,nl,d2,nr];refine qXl (fun j=>j == 4) (.row [0,1,2,3,4,5]) rfl x8 x8 ?_;have U:=h4.fr0 (Fr.refl _ _).drew;have H:=fw.drew;have M:W5.drew.heap[w.heap.size]?=_:=T;have N:W5.drew.heap[W.heap.size]?=_:=J;generalize W5.drew=W6 at *;obtain⟨_,a4,a3,_⟩:=rdBr B.2.1 B.2.2 N;obtain⟨_,_,V⟩:=rdRw I.1 M;simp -implicitDefEqProofs only[go_sem,yJ,yY,jY,OT.row,a3,V];refine qQe pl185 ((rowUnder W6 n R I.1 1 x9).mono ?_);rintro _ w7 ⟨rfl,Y⟩;refine⟨fun _=>Y.ext,?_⟩;have e7:Aud.under n (1 == 1) row=Aud.under n true row:=rfl;rw[e7];simp -implicitDefEqProofs only[go_sem,yJ];refine qQe pl162 ((keep hk (t:=r) (n:=n+1) (U.fr0 Y) b1 w2 (fun e=>zr (by rw[e];rfl)) om (I.under R true)).mono ?_);rintro _ w8 ⟨rfl,f8,a8,b3,h8,a9,b0⟩;refine⟨(fun h=>by cases h),?_⟩;have H:=H.trans (Y.mono fun _ _ h=>h.elim);simp -implicitDefEqProofs only[go_sem];exact K (H.trans f8) h8 (RowsIn.br R I w1 w2 (.nil _ _ _) a9) (LvsIn.br (.nil _) b0)
  ·rw[decide_eq_true zl]at nl
   simp -implicitDefEqProofs only[go_sem,yJ,jY,d0,a7,d1,nl];refine qXl (fun j=>j == 4) (.row [0,1,2,3,4,5]) rfl x8 x8 ?_;have U:=h4.fr0 (Fr.refl _ _).drew;have H:=fw.drew;have M:W5.drew.heap[w.heap.size]?=_:=T;have N:W5.drew.heap[W.heap.size]?=_:=J;generalize W5.drew=W6 at *;obtain⟨_,a4,a3,_⟩:=rdBr B.2.1 B.2.2 N;obtain⟨_,_,V⟩:=rdRw I.1 M;simp -implicitDefEqProofs only[go_sem,yJ,yY,jY,OT.row,a4,V];refine qQe pl185 ((rowUnder W6 n R I.1 0 x9).mono ?_);rintro _ w6 ⟨rfl,f6⟩;refine⟨fun _=>f6.ext,?_⟩;have e7:Aud.under n (0 == 1) row=Aud.under n false row:=rfl;rw[e7];simp -implicitDefEqProofs only[go_sem,yJ];refine qQe pl162 ((keep hk (t:=l) (n:=n+1) (U.fr0 f6) b9 w1 (fun e=>zl (by rw[e];rfl)) om (I.under R false)).mono ?_);rintro _ w7 ⟨rfl,Y,c0,c3,h7,b4,b5⟩;refine⟨(fun h=>by cases h),?_⟩;have H:=H.trans (f6.mono fun _ _ h=>h.elim);simp -implicitDefEqProofs only[go_sem,yJ,jY];have T:=Y.at (f6.at M id) fun e=>by have:=lP e;omega
   have J:=Y.at (f6.at N id) fun e=>by have:=lP e;omega
   have fw:=H.trans Y;have h4:=h7;obtain⟨_,_,d2,_⟩:=rdBr B.2.1 B.2.2 J;clear h7 Y H M N a4 a3 V U f6
   by_cases zr:r.page=0
   ·obtain rfl:r=.nil:=r.page_nil w2 zr
    rw[decide_eq_false fun e=>e rfl]at nr;simp -implicitDefEqProofs only[go_sem,d2,nr];exact K fw h4 (RowsIn.br R I w1 w2 b4 (.nil _ _ _)) (LvsIn.br b5 (.nil _))
   ·rw[decide_eq_true zr]at nr
    simp -implicitDefEqProofs only[go_sem,d2,nr];refine qXl (fun j=>j == 4) (.row [0,1,2,3,4,5]) rfl x8 x8 ?_;have U:=h4.fr0 (Fr.refl _ _).drew;have H:=fw.drew;have M:w7.drew.heap[w.heap.size]?=_:=T;have N:w7.drew.heap[W.heap.size]?=_:=J;generalize w7.drew=W8 at *;obtain⟨_,a4,a3,_⟩:=rdBr B.2.1 B.2.2 N;obtain⟨_,_,V⟩:=rdRw I.1 M;simp -implicitDefEqProofs only[go_sem,yJ,yY,jY,OT.row,a3,V];refine qQe pl185 ((rowUnder W8 n R I.1 1 x9).mono ?_);rintro _ w9 ⟨rfl,Y⟩;refine⟨fun _=>Y.ext,?_⟩;have e7:Aud.under n (1 == 1) row=Aud.under n true row:=rfl;rw[e7];simp -implicitDefEqProofs only[go_sem,yJ];refine qQe pl162 ((keep hk (t:=r) (n:=n+1) (U.fr0 Y) b1 w2 (fun e=>zr (by rw[e];rfl)) om (I.under R true)).mono ?_);rintro _ w8 ⟨rfl,f8,a8,b3,h8,a9,b0⟩;refine⟨(fun h=>by cases h),?_⟩;have H:=H.trans (Y.mono fun _ _ h=>h.elim);simp -implicitDefEqProofs only[go_sem];exact K (H.trans f8) h8 (RowsIn.br R I w1 w2 b4 a9) (LvsIn.br b5 b0)
end
end A
end
section
namespace A
open Aud
structure OldT (c:Cx) (T:PT):Prop where
 rows:∀ key,findM c.ro key=enP (Aud.rowAt 0 Aud.zrow T key)
 lvs:∀ k,findM c.lo k=enP (lfAt T k)
structure Here (c:Cx) (T:PT) (n:Nat) (row:Bs) (at':Bool) (o:PT):Prop where
 hn:n<=256
 hrow:Row n row
 wf:o.Wf n
 st:Stands (dgT c.s.width) (ndsP c.pg) n o
 lt:o.page<c.fresh
 pos:Pos T n row at' o
 ents:∀ e ∈ o.ents,n<=common e.1 row
theorem Here.kid {c:Cx}{T:PT}{row:Bs}{o:PT}(h:Here c T n row at' o)(A:n<256)(b:Bool):Here c T (n+1) (Aud.under n b row) (at' && isBr o) (Aud.kid n b o) :=
 ⟨A,h.hrow.under A b,kid_wf (at':=at') h.wf b,qKm h.st b,kid_page h.st h.lt b,h.pos.kid h.wf h.hrow A b,kid_row h.wf h.hrow A h.ents b⟩
def ErrQ (c:Cx)(w:World)(e:Nat × Int):Prop:=No c.u w/\SgX c w (c.fs++[e])
def ThQ (c:Cx)(E:World)(n:Nat)(row:Bs)(rows:List (RK × Value))(lvs:List (Bs × Value))(r:Except (Nat × Int) (PT × Nat))(v:Value)(w:World):Prop :=
 match r with
 | .ok (t,m)=>v=.bool true/\Fr (PaB c) E w/\∃ A B,PassM c w m A B/\RowsIn n row t rows A/\LvsIn t lvs B
 | .error e=>v=.bool false/\ErrQ c w e
section
variable {c:Cx} {w w':World} {next:Nat} {rows:List (RK × Value)} {lvs:List (Bs × Value)}
theorem PassM.find (h:PassM c w next rows lvs)(N:c.Ok)(p:Nat)(e:Int):Fn prog 44 #[pt c.sb 0,.int .i64 (p:Nat),.int .i64 e] w fun v w'=>v=.tuple #[]/\ErrQ c w' (p,e):=by
 obtain⟨R,T,I,E⟩:=h.sg;have H:=I.fnd;refine (sight_find I h.no.size N.hiv p e N.hfs).mono ?_;rintro v w' ⟨rfl,f,J,L⟩
 have M:∀ {b},FvB c.sb R b->c.u.heap.size<=b:=fun {b} E=>by
  rcases E with rfl | E
  ·exact I.hsb
  ·exact H.2.new b E
 refine⟨rfl,h.no.trans' f fun b A e=>by have:=M e;omega,J,T,L,E.fr f fun b c' A _ _ e=>?_⟩
 rcases e with rfl | e
 ·rw[I.row]at A;cases A
 ·obtain⟨U,B⟩:=qXa H e;rw[A]at B;cases B
theorem PassM.oldRow (h:PassM c w next rows lvs){T:PT}(A:OldT c T){row:Bs}(B:row.length=32):lookO prog 152 w (.map c.oR) (.agg (rwC n row).toArray)=some (.int .i64 ((Aud.rowAt 0 Aud.zrow T (n,row)).getD 0:Nat),(Aud.rowAt 0 Aud.zrow T (n,row)).isSome):=by
 have:=h.oldR.look keyR (k:=(n,row)) B map152 zero3;rw[A.rows]at this;rw[this]
 cases Aud.rowAt 0 Aud.zrow T (n,row) <;> rfl
theorem PassM.oldLf (h:PassM c w next rows lvs){T:PT}(A:OldT c T){k:Bs}(B:k.length=32):lookO prog 153 w (.map c.oL) (dg k)=some (.int .i64 ((lfAt T k).getD 0:Nat),(lfAt T k).isSome):=by
 have:=h.oldL.look keyK (k:=k) B map153 zero3;rw[A.lvs]at this;rw[this]
 cases lfAt T k <;> rfl
theorem ndA_val {k:Bs}(A:k.length=32)(v:Bs)(vv:Value):(ndA (.leaf k v) vv)[101]?=some vv:=by
 show ([.int .i64 1,.int .i64 0,.int .i64 0,.int .i64 0,.int .i64 0]++z32.map u8++z32.map u8++k.map u8++[vv])[101]?=_;rw[z4 (by simp[A])];simp[A]
def newLf (c:Cx)(o:PT)(page next:Nat)(k v:Bs):Except (Nat × Int) (PT × Nat):=if page=next/\pageOf k v o=none then .ok (.leaf page k v,next+1) else .error (page,172)
theorem anewLf (h:PassM c w next rows lvs)(L:c.Ok){T:PT}(hT:OldT c T){row:Bs}{o:PT}(hh:Here c T n row at' o){page:Nat}{k v:Bs}(hp:ndsP c.pg page=some (.leaf k v))(hc:n<=common k row)(ov:one vv=true)(hv:By w vv v)(a8:next<2 ^ 20) :
  Fn prog 163 #[pt c.pb 0,.int .i64 (page:Nat),.agg (ndA (.leaf k v) vv).toArray,.agg (rwC n row).toArray] w fun x w'=>ThQ c w n row rows lvs (newLf c o page next k v) x w':=by
 refine go163 sm ?_;have H:=(L.hnd page _ (qJt.1 hp)).2;obtain⟨W,hW,f1,k1,k2,s1⟩:=qZz w (ndA (.leaf k v) vv).toArray 78 (rwC n row).toArray 158;have h1:=h.fr0 f1;obtain⟨d0,d1,d2,d3,d4⟩:=rdLf H.1 k1;have a9:((0:Int) != 0)=false:=rfl;have b0:((1:Int) == 1)=true:=rfl;simp -implicitDefEqProofs only[go_sem,yJ,vH,yN,jY,Tryz.f163,hW];refine qXl (fun j=>j == 14) (.row [0,1,2,3,4,5,7,8,10,6,9,11,12,13,14,15,16,17]) rfl x8 x8 ?_;have a5:rdO prog 3 W.drew w.heap.size 1=some (.int .i64 0):=d1;simp -implicitDefEqProofs only[go_sem,yJ,yY,bNe,qQx,jY,OT.row,a5];refine qXl (fun j=>j == 14) (.row [0,1,2,3,4,5,7,8,10,6,9,11,12,13,14,15,16,17]) rfl x8 x8 ?_;have a6:rdO prog 3 W.drew.drew w.heap.size 2=some (.int .i64 0):=d2;obtain⟨p0,p1,p2,p3,p4,p5,p6,p7,p8,p9⟩:=h1.rds;simp -implicitDefEqProofs only[go_sem,yJ,yY,bSe,bNe,qQx,jY,OT.row,a6,d0,p3,p7,d3];have f1:=f1.drew.drew.drew;have h1:=h.fr0 f1;have k1:W.drew.drew.drew.heap[w.heap.size]?=_:=k1;have k2:W.drew.drew.drew.heap[w.heap.size+1]?=_:=k2;have s1:W.drew.drew.drew.heap.size=_:=s1;generalize W.drew.drew.drew=I at *;clear p0 p1 p2 p3 p4 p5 p6 p7 p8 p9 d0 d1 d2 d3 d4 a5 a6;have R:=h1.oldLf hT H.1;rw[hh.pos.lvs k hc]at R;obtain⟨d0,d1,d2,d3,d4⟩:=rdLf H.1 k1;obtain⟨p0,p1,p2,p3,p4,p5,p6,p7,p8,p9⟩:=h1.rds;have lP:∀ {b:Nat},PaB c b->b<w.heap.size:=h.lt;have M:((page:Int) != (next:Int))=decide (page≠next):=natne page next;have wi:=iSu (i:=next);have U:=h1.fr0 (Fr.refl _ _).drew;have q3:wrO prog 3 I.drew c.pb 4 (.int .i64 ((next+1:Nat):Int))=some (put I.drew c.pb (.cells (paC c (next+1)) 213 (0,0))):=wr1 sz3 rfl U.pass (show 4<5 by decide)
 cases hl:lfAt o k with
 | none =>
  rw[hl]at R;have a3:=lfAt_nopage (v:=v) hl hh.wf;have R:lookO prog 153 I (.map c.oL) (dg k)=some (.int .i64 0,false):=R
  by_cases J:page=next
  ·rw[decide_eq_false fun e=>e J]at M
   simp -implicitDefEqProofs only[go_sem,yJ,yY,bSe,qQx,jY,R,p9,M];simp -implicitDefEqProofs only[go_sem,yJ,yY,jY,wi,q3];have k3:=qQd (o:=.cells (paC c (next+1)) 213 (0,0)) U.pass;have E:Fr (fun b=>b=c.pb) I.drew (put I.drew c.pb (.cells (paC c (next+1)) 213 (0,0))):=(Fr.refl _ _).put (b:=c.pb) _ (fun _=>rfl);have V:=U.step L (next+1) E k3;have N:=E.at (show I.drew.heap[w.heap.size]?=_ from k1) fun e=>by have:=lP (b:=c.pb) (.inr (.inl rfl));omega
   have g2:=E.at (show I.drew.heap[w.heap.size+1]?=_ from k2) fun e=>by have:=lP (b:=c.pb) (.inr (.inl rfl));omega
   have E:=(f1.drew.mono (G:=PaB c) fun _ _ h=>h.elim).trans (E.mono (G:=PaB c) fun _ _ e=>.inr (.inl e));generalize put I.drew c.pb (.cells (paC c (next+1)) 213 (0,0))=W3 at *;obtain⟨_,_,x2,_,x4,_⟩:=V.rds;obtain⟨_,_,t2⟩:=rdRw hh.hrow.1 g2;have V:=V.fr0 (Fr.refl _ _).drew;have E:=E.drew;have N:W3.drew.heap[w.heap.size]?=_:=N;obtain⟨ob,B,Y,Z⟩:=V.putR L (n:=n) (r:=row) hh.hrow.1 page;have B:putE prog 158 W3.heap[c.nR]? (.agg (rwC n row).toArray) (.int .i64 (page:Nat))=some ob:=B;simp -implicitDefEqProofs only[go_sem,yJ,jY,x2,x4,t2,map152,B];have N:=Z.at N fun e=>by have:=lP (b:=c.nR) (.inr (.inr (.inl rfl)));omega
   have Z:=E.trans (Z.mono (G:=PaB c) fun _ _ e=>.inr (.inr (.inl e)));generalize put W3.drew c.nR ob=W5 at *;obtain⟨d0,_,_,d3,_⟩:=rdLf H.1 N;obtain⟨_,_,x2,_,_,x5,_⟩:=Y.rds;have Y:=Y.fr0 (Fr.refl _ _).drew;obtain⟨a4,A,h5,f5⟩:=Y.putL L (k:=k) H.1 page;have A:putE prog 76 W5.heap[c.nL]? (dg k) (.int .i64 (page:Nat))=some a4:=A;simp -implicitDefEqProofs only[go_sem,yJ,yY,bSe,jY,d0,x2,x5,d3,map153,A];have:newLf c o page next k v=.ok (.leaf page k v,next+1):=if_pos ⟨J,a3⟩;rw[this];exact⟨rfl,Z.drew.trans (f5.mono fun _ _ e=>.inr (.inr (.inr e))),_,_,h5,RowsIn.leaf n row page k v rows,LvsIn.leaf page k v lvs⟩
  ·rw[decide_eq_true J]at M
   simp -implicitDefEqProofs only[go_sem,yJ,yY,qQx,qZj,jY,R,p9,M,p0];refine qQa pl44 ((U.find L page 172).mono ?_);rintro _ w9 ⟨rfl,e9⟩;simp -implicitDefEqProofs only[go_sem];have:newLf c o page next k v=.error (page,172):=if_neg (by exact fun h=>J h.1);rw[this];exact⟨rfl,e9⟩
 | some q =>
  rw[hl]at R;have R:lookO prog 153 I (.map c.oL) (dg k)=some (.int .i64 (q:Nat),true):=R;obtain⟨v',hq,B⟩:=lfAt_page hh.wf hh.st hl;obtain⟨vq,lq,oq,nq,a7,_⟩:=U.ndS L hq
  have fe:partO prog 22 (ndA (.leaf k v') vq).toArray 101=some vq:=by
   rw[qKh agg22,xI];exact ndA_val a7.1 v' vq
  simp -implicitDefEqProofs only[go_sem,yJ,yY,bSe,jY,R,p0,p1,lq,fe,d4];refine qQa pl186 ((bequal I.drew nq.by (hv.fr0 f1.drew)).mono ?_);rintro _ _ ⟨rfl,rfl⟩
  by_cases a0:v'=v
  ·have e1:decide (ndVal (Nd.leaf k v')=v)=true:=decide_eq_true a0
   by_cases J:page=next
   ·rw[decide_eq_false fun e=>e J]at M
    simp -implicitDefEqProofs only[go_sem,yJ,bSe,jY,e1,p9,M,p0];refine qQa pl44 ((U.find L page 172).mono ?_);rintro _ w9 ⟨rfl,e9⟩;simp -implicitDefEqProofs only[go_sem];have:newLf c o page next k v=.error (page,172):=if_neg (by exact fun h=>((B v).1 h.2) a0);rw[this];exact⟨rfl,e9⟩
   ·rw[decide_eq_true J]at M
    simp -implicitDefEqProofs only[go_sem,yJ,qZj,jY,e1,p9,M,p0];refine qQa pl44 ((U.find L page 172).mono ?_);rintro _ w9 ⟨rfl,e9⟩;simp -implicitDefEqProofs only[go_sem];have:newLf c o page next k v=.error (page,172):=if_neg (by exact fun h=>J h.1);rw[this];exact⟨rfl,e9⟩
  ·have e1:decide (ndVal (Nd.leaf k v')=v)=false:=decide_eq_false a0
   have a3:pageOf k v o=none:=(B v).2 a0
   by_cases J:page=next
   ·rw[decide_eq_false fun e=>e J]at M
    simp -implicitDefEqProofs only[go_sem,yJ,bSe,jY,e1,p9,M];simp -implicitDefEqProofs only[go_sem,yJ,yY,jY,wi,q3];have k3:=qQd (o:=.cells (paC c (next+1)) 213 (0,0)) U.pass;have E:Fr (fun b=>b=c.pb) I.drew (put I.drew c.pb (.cells (paC c (next+1)) 213 (0,0))):=(Fr.refl _ _).put (b:=c.pb) _ (fun _=>rfl);have V:=U.step L (next+1) E k3;have N:=E.at (show I.drew.heap[w.heap.size]?=_ from k1) fun e=>by have:=lP (b:=c.pb) (.inr (.inl rfl));omega
    have g2:=E.at (show I.drew.heap[w.heap.size+1]?=_ from k2) fun e=>by have:=lP (b:=c.pb) (.inr (.inl rfl));omega
    have E:=(f1.drew.mono (G:=PaB c) fun _ _ h=>h.elim).trans (E.mono (G:=PaB c) fun _ _ e=>.inr (.inl e));generalize put I.drew c.pb (.cells (paC c (next+1)) 213 (0,0))=W3 at *;obtain⟨_,_,x2,_,x4,_⟩:=V.rds;obtain⟨_,_,t2⟩:=rdRw hh.hrow.1 g2;have V:=V.fr0 (Fr.refl _ _).drew;have E:=E.drew;have N:W3.drew.heap[w.heap.size]?=_:=N;obtain⟨ob,B,Y,Z⟩:=V.putR L (n:=n) (r:=row) hh.hrow.1 page;have B:putE prog 158 W3.heap[c.nR]? (.agg (rwC n row).toArray) (.int .i64 (page:Nat))=some ob:=B;simp -implicitDefEqProofs only[go_sem,yJ,jY,x2,x4,t2,map152,B];have N:=Z.at N fun e=>by have:=lP (b:=c.nR) (.inr (.inr (.inl rfl)));omega
    have Z:=E.trans (Z.mono (G:=PaB c) fun _ _ e=>.inr (.inr (.inl e)));generalize put W3.drew c.nR ob=W5 at *;obtain⟨d0,_,_,d3,_⟩:=rdLf H.1 N;obtain⟨_,_,x2,_,_,x5,_⟩:=Y.rds;have Y:=Y.fr0 (Fr.refl _ _).drew;obtain⟨a4,A,h5,f5⟩:=Y.putL L (k:=k) H.1 page;have A:putE prog 76 W5.heap[c.nL]? (dg k) (.int .i64 (page:Nat))=some a4:=A;simp -implicitDefEqProofs only[go_sem,yJ,yY,bSe,jY,d0,x2,x5,d3,map153,A];have:newLf c o page next k v=.ok (.leaf page k v,next+1):=if_pos ⟨J,a3⟩;rw[this];exact⟨rfl,Z.drew.trans (f5.mono fun _ _ e=>.inr (.inr (.inr e))),_,_,h5,RowsIn.leaf n row page k v rows,LvsIn.leaf page k v lvs⟩
   ·rw[decide_eq_true J]at M
    simp -implicitDefEqProofs only[go_sem,yJ,qZj,jY,e1,p9,M,p0];refine qQa pl44 ((U.find L page 172).mono ?_);rintro _ w9 ⟨rfl,e9⟩;simp -implicitDefEqProofs only[go_sem];have:newLf c o page next k v=.error (page,172):=if_neg (by exact fun h=>J h.1);rw[this];exact⟨rfl,e9⟩
end
end A
end
section
namespace A
open Aud
theorem ndOk {c:Cx}(B:c.Ok):NdOk (ndsP c.pg):=fun p nd h=>by
 obtain⟨E,A⟩:=B.hnd p nd (qJt.1 h);refine⟨E,?_⟩
 cases nd with
 | leaf k v=>exact A.1
 | br H I lc rc ls rs =>
  obtain⟨⟨a,b,_,d,_⟩,_⟩:=A;refine⟨d,fun e=>?_,fun e=>?_⟩
  ·unfold chR at a;rw[if_pos e]at a;exact a
  ·unfold chR at b;rw[if_pos e]at b;exact b
theorem pg_lt {c:Cx}(A:c.Ok){n:Nd}(h:ndsP c.pg p=some n):p<4096:=by
 by_cases B:p<c.s.mark
 ·have:=A.hm;omega
 ·have:=qJt.1 h;rw[A.hpg p om]at this;cases this
theorem thr_bound {wd:Int}{pg:Nat->Option Nd}{fresh M:Nat}(B:∀ p n, pg p=some n->p<M):∀ {f n:Nat} {at':Bool} {o:PT} {row:Bs} {page by' count:Nat} {sum:Bs} {next:Nat} {t:PT} {next':Nat}, next<=M ->
  thr wd pg fresh f n at' o row page by' count sum next=.ok (t,next')->next'<=M:=by
 intro f
 induction f with
 | zero=>intro n at' o row page by' count sum next t next' _ h;cases h
 | succ f J =>
  intro n at' o row page by' count sum next t next' E h
  unfold thr at h;split at h
  ·cases h
  ·rename_i k v A
   have H:=B _ _ (qVq A).1;split at h
   ·split at h
    ·split at h
     ·cases h;exact E
     ·cases h
    ·cases h
   ·split at h
    ·rename_i I
     split at h
     ·cases h;omega
     ·cases h
    ·cases h
  ·rename_i L N lc rc ls rs A
   have H:=B _ _ (qVq A).1;split at h
   ·split at h
    ·split at h
     ·cases h;exact E
     ·cases h
    ·cases h
   ·split at h
    ·cases h
    ·split at h
     ·cases h
     ·split at h
      ·rename_i I
       split at h
       ·cases h;omega
       ·cases h
      ·cases h
def newBr (c:Cx)(f n:Nat)(at':Bool)(o:PT)(row:Bs)(page next A B lc rc:Nat)(ls rs:Bs):Except (Nat × Int) (PT × Nat) :=
 match (if A=0 then .ok (.nil,next) else thr c.s.width (ndsP c.pg) c.fresh f (n+1) (at' && isBr o) (Aud.kid n false o) (Aud.under n false row) A page lc ls next:Except (Nat × Int) (PT × Nat)) with
 | .error e=>.error e
 | .ok (l,E) =>
  match (if B=0 then .ok (.nil,E) else thr c.s.width (ndsP c.pg) c.fresh f (n+1) (at' && isBr o) (Aud.kid n true o) (Aud.under n true row) B page rc rs E:Except (Nat × Int) (PT × Nat)) with
  | .error e=>.error e
  | .ok (r,H)=>if page=H/\¬ (at'=true/\likeB A B o=true) then .ok (.br page l r,H+1) else .error (page,172)
def part (c:Cx)(f n:Nat)(at':Bool)(o:PT)(row:Bs)(page by' next:Nat):Nd->Except (Nat × Int) (PT × Nat)
 | .leaf k v=>if page<c.fresh then (if lfOf k o=page then .ok (.leaf page k v,next) else .error (by',172)) else newLf c o page next k v
 | .br A B lc rc ls rs=>if page<c.fresh then (if rowOf at' o=page then .ok (o,next) else .error (by',172)) else newBr c f n at' o row page next A B lc rc ls rs
theorem thr_part {c:Cx}{o:PT}{row:Bs}{page by' count:Nat}{sum:Bs}{next:Nat}:thr c.s.width (ndsP c.pg) c.fresh (f+1) n at' o row page by' count sum next =
  match Aud.linked (ndsP c.pg) n row page by' count with
  | none=>.error (by',170)
  | some nd=>match part c f n at' o row page by' next nd with
   | .error e=>.error e
   | .ok (t,m)=>if ndg c.s.width (256 - n) nd=sum then .ok (t,m) else .error (by',171):=by
 conv=>lhs;unfold thr
 cases Aud.linked (ndsP c.pg) n row page by' count with
 | none=>rfl
 | some nd =>
  cases nd with
  | leaf k v =>
   simp only[part,ndg,newLf];split
   ·split <;> rfl
   ·split <;> rfl
  | br A B lc rc ls rs =>
   simp only[part,newBr];split
   ·split <;> rfl
   ·generalize (if A=0 then Except.ok (PT.nil,next) else thr c.s.width (ndsP c.pg) c.fresh f (n+1) (at' && isBr o) (Aud.kid n false o) (Aud.under n false row) A page lc ls next:Except (Nat × Int) (PT × Nat))=x
    cases x with
    | error e=>rfl
    | ok x =>
     obtain⟨l,E⟩:=x;simp only;generalize (if B=0 then Except.ok (PT.nil,E) else thr c.s.width (ndsP c.pg) c.fresh f (n+1) (at' && isBr o) (Aud.kid n true o) (Aud.under n true row) B page rc rs E:Except (Nat × Int) (PT × Nat))=y
     cases y with
     | error e=>rfl
     | ok y =>
      obtain⟨r,H⟩:=y;simp only
      split <;> rfl
theorem side_ok {c:Cx}{T:PT}{row:Bs}{o:PT}(H:c.Ok)(I:Here c T n row at' o)(J:n<256)(b:Bool){E page L m m':Nat}{M:Bs}{u:PT}(B:c.fresh<=m/\m<=4096)
  (h:(if E=0 then .ok (.nil,m) else thr c.s.width (ndsP c.pg) c.fresh f (n+1) (at' && isBr o) (Aud.kid n b o) (Aud.under n b row) E page L M m:Except (Nat × Int) (PT × Nat))=.ok (u,m')):u.Wf (n+1)/\c.fresh<=m'/\m'<=4096:=by
 by_cases e:E=0
 ·rw[if_pos e]at h;cases h;exact⟨trivial,B⟩
 ·rw[if_neg e]at h
  have A:=I.kid J b;have g:=thr_ok (ndOk H) A.hn A.hrow A.wf A.st A.lt B.1 h A.ents;exact⟨g.1,Nat.le_trans B.1 g.2.2.2.2.2.2.2.2.2,thr_bound (fun p n N=>pg_lt H N) B.2 h⟩
theorem stPlaces:qXh prog 217=some [(0,1),(1,1),(2,1),(3,32)]:=x8
theorem bldSt {page by' count:Nat}{sum:Bs}(h:sum.length=32):bldO prog 217 [(0,.int .i64 (page:Nat)),(1,.int .i64 (by':Nat)),(2,.int .i64 (count:Nat)),(3,dg sum)]=some (.agg (stC page by' count sum).toArray):=by
 rw[qKd zero217 stPlaces (c:=(stC 0 0 0 z32).toArray) x8];have B:=qJb (ps:=fun i=>[(0,1),(1,1),(2,1),(3,32)][i]?) (i:=0) (o:=0) (a:=[]) (r:=(stC 0 0 0 z32).drop 1) (u:=.int .i64 0) (v:=.int .i64 (page:Nat)) (rest:=[(1,.int .i64 (by':Nat)),(2,.int .i64 (count:Nat)),(3,dg sum)]) rfl rfl rfl;have E:=qJb (ps:=fun i=>[(0,1),(1,1),(2,1),(3,32)][i]?) (i:=1) (o:=1) (a:=[.int .i64 (page:Nat)]) (r:=(stC 0 0 0 z32).drop 2) (u:=.int .i64 0) (v:=.int .i64 (by':Nat)) (rest:=[(2,.int .i64 (count:Nat)),(3,dg sum)]) rfl rfl rfl;have H:=qJb (ps:=fun i=>[(0,1),(1,1),(2,1),(3,32)][i]?) (i:=2) (o:=2) (a:=[.int .i64 (page:Nat),.int .i64 (by':Nat)]) (r:=(stC 0 0 0 z32).drop 3) (u:=.int .i64 0) (v:=.int .i64 (count:Nat)) (rest:=[(3,dg sum)]) rfl rfl rfl;have A:=qJv (ps:=fun i=>[(0,1),(1,1),(2,1),(3,32)][i]?) (i:=3) (o:=3) (n:=32) (a:=[.int .i64 (page:Nat),.int .i64 (by':Nat),.int .i64 (count:Nat)]) (m:=z32.map u8) (r:=[]) (vs:=sum.map u8) (rest:=[]) rfl rfl sm (by simp[h]);rw[qXu,zO,zO]at A;exact congrArg (Option.map Value.agg) (((B.trans E).trans H).trans A)
def SdQ (c:Cx)(E:World)(page n:Nat)(row:Bs)(I:List Value)(b:Bool)(rows:List (RK × Value))(lvs:List (Bs × Value))(r:Except (Nat × Int) (PT × Nat))(J L M N H:Value)(w:World):Prop :=
 J=pt c.pb 0/\L=.int .i64 (page:Nat)/\M=pt E.heap.size 0/\N=pt (E.heap.size+1) 0 /\
  match r with
  | .error e=>H=.bool true/\ErrQ c w e
  | .ok (t,m)=>H=.bool false/\Fr (PaB c) E w/\w.heap[E.heap.size]?=some (.cells I.toArray 78 (0,0))/\w.heap[E.heap.size+1]?=some (.cells (rwC n row).toArray 158 (0,0))/\∃ A B,PassM c w m A B/\RowsIn (n+1) (Aud.under n b row) t rows A/\LvsIn t lvs B
end A
end
section
namespace A
open Aud
section
variable {c:Cx} {w w':World} {next:Nat} {rows:List (RK × Value)} {lvs:List (Bs × Value)}
def ThF (c:Cx)(T:PT)(f n:Nat):Prop:=∀ {w:World} {next:Nat} {rows:List (RK × Value)} {lvs:List (Bs × Value)} {row:Bs} {at':Bool} {o:PT} (page by' count:Nat) {sum:Bs},PassM c w next rows lvs->Here c T n row at' o->c.fresh<=next->next<=4096->sum.length=32 ->
 Fn prog 126 #[pt c.pb 0,.agg (stC page by' count sum).toArray,.agg (rwC n row).toArray] w fun x w'=>ThQ c w n row rows lvs (thr c.s.width (ndsP c.pg) c.fresh f n at' o row page by' count sum next) x w'
theorem likeM (h:PassM c w next rows lvs)(L:c.Ok){T:PT}{row:Bs}{o:PT}(M:Here c T n row at' o)(B E:Nat):∃ (A:List Value) (ok:Bool), lookO prog 68 w (.map (some c.mn)) (.int .i64 ((Aud.rowAt 0 Aud.zrow T (n, row)).getD 0:Nat))=some (.agg A.toArray, ok)/\A.length=102/\A.all one=true /\
  ((∃ a b:Nat,A[0]?=some (.int .i64 2)/\A[1]?=some (.int .i64 (a:Nat))/\A[2]?=some (.int .i64 (b:Nat))/\((a=B/\b=E) ↔ (at'=true/\likeB B E o=true)))∨∃ I:Int,A[0]?=some (.int .i64 I)/\(I == 2)=false/\¬ (at'=true/\likeB B E o=true)):=by
 have U:∀ {q:Nat},q=0->¬ (at'=true/\likeB B E o=true)->∃ (A:List Value) (ok:Bool),lookO prog 68 w (.map (some c.mn)) (.int .i64 (q:Nat))=some (.agg A.toArray,ok)/\A.length=102/\A.all one=true /\
  ((∃ a b:Nat,A[0]?=some (.int .i64 2)/\A[1]?=some (.int .i64 (a:Nat))/\A[2]?=some (.int .i64 (b:Nat))/\((a=B/\b=E) ↔ (at'=true/\likeB B E o=true)))∨∃ I:Int,A[0]?=some (.int .i64 I)/\(I == 2)=false/\¬ (at'=true/\likeB B E o=true)):=fun {q} V W=>by
  subst V
  have Y:ndsP c.pg 0=none:=by
   cases Z:ndsP c.pg 0 with
   | none=>rfl
   | some nd=>have:=(L.hnd 0 nd (qJt.1 Z)).1;omega
  exact⟨nd0,false,h.ndN L Y,qXf z32l z32l z32l _,qZy _ _ _ _ _ _ _ _ rfl,.inr ⟨0,rfl,rfl,W⟩⟩
 have J:=M.pos.rows n row (xC _) ((qKb M.hn).2 fun _ _=>rfl);rw[J]
 cases at' with
 | false=>exact U rfl fun e=>by cases e.1
 | true =>
  rw[if_pos rfl]
  cases o with
  | nil=>exact U rfl fun e=>by cases e.2
  | leaf p k v =>
   have e:(Aud.rowAt n row (.leaf p k v) (n,row)).getD 0=p:=by unfold Aud.rowAt;rw[if_pos rfl];rfl
   rw[e];obtain⟨vv,N,R,_,H,_,_⟩:=h.ndS L (p:=p) (n:=.leaf k v) M.st;exact⟨_,_,N,qJd H _,ndA_one R,.inr ⟨1,rfl,rfl,fun e=>by cases e.2⟩⟩
  | br p l r =>
   have e:(Aud.rowAt n row (.br p l r) (n,row)).getD 0=p:=by unfold Aud.rowAt;rw[if_pos rfl];rfl
   rw[e];obtain⟨vv,N,R,_,H,_,_⟩:=h.ndS L (p:=p) M.st.1;refine⟨_,_,N,qJd H _,ndA_one R,.inl ⟨l.page,r.page,rfl,rfl,rfl,?_⟩⟩;simp[likeB]
def MdQ (c:Cx)(A:World)(page n:Nat)(row:Bs)(B:List Value)(rows:List (RK × Value))(lvs:List (Bs × Value))(m:Nat)(E H I J:Value)(w:World):Prop :=
 E=pt c.pb 0/\H=.int .i64 (page:Nat)/\I=pt A.heap.size 0/\J=pt (A.heap.size+1) 0/\Fr (PaB c) A w/\w.heap[A.heap.size]?=some (.cells B.toArray 78 (0,0))/\w.heap[A.heap.size+1]?=some (.cells (rwC n row).toArray 158 (0,0))/\PassM c w m rows lvs
theorem anewBr (h:PassM c w next rows lvs)(hk:c.Ok){T:PT}(hT:OldT c T){row:Bs}{o:PT}(Z:Here c T n row at' o){page M N lc rc:Nat}{ls rs:Bs}(hp:ndsP c.pg page=some (.br M N lc rc ls rs))(hn:n<256)(ov:one vv=true)(hf:c.fresh<=next)(b3:next<=4096)(ih:ThF c T f (n+1)) :
  Fn prog 163 #[pt c.pb 0,.int .i64 (page:Nat),.agg (ndA (.br M N lc rc ls rs) vv).toArray,.agg (rwC n row).toArray] w fun x w'=>ThQ c w n row rows lvs (newBr c f n at' o row page next M N lc rc ls rs) x w':=by
 refine go163 sm ?_;have B:=(hk.hnd page _ (qJt.1 hp)).2;obtain⟨W,hW,J,H,I,s1⟩:=qZz w (ndA (.br M N lc rc ls rs) vv).toArray 78 (rwC n row).toArray 158;have A:=h.fr0 J;have lP:∀ {b:Nat},PaB c b->b<w.heap.size:=h.lt;simp -implicitDefEqProofs only[go_sem,yJ,vH,yN,jY,Tryz.f163,hW];unfold newBr;generalize hl:(if M=0 then Except.ok (PT.nil,next) else thr c.s.width (ndsP c.pg) c.fresh f (n+1) (at' && isBr o) (Aud.kid n false o) (Aud.under n false row) M page lc ls next:Except (Nat × Int) (PT × Nat))=L;refine qXg (Q:=fun e E w1=>e=.normal/\SdQ c w page n row (ndA (.br M N lc rc ls rs) vv) false rows lvs L (E 0) (E 1) (E 6) (E 7) (E 30) w1) _ (fun e E w1=>?_) ?_
 ·rintro⟨rfl,hD⟩
  rw[thenQ_normal];clear A H I J s1 hW W;obtain⟨e0,e1,e6,e7,hD⟩:=hD
  cases L with
  | error e =>
   obtain⟨a5,hD⟩:=hD;simp -implicitDefEqProofs only[go_sem,a5];exact⟨rfl,hD⟩
  | ok y =>
  obtain⟨l,m1⟩:=y;obtain⟨a5,J,H,I,U,a0,A,b5,b6⟩:=hD;have a6:=side_ok hk Z hn false ⟨hf,b3⟩ hl;simp -implicitDefEqProofs only[go_sem,a5];generalize hr:(if N=0 then Except.ok (PT.nil,m1) else thr c.s.width (ndsP c.pg) c.fresh f (n+1) (at' && isBr o) (Aud.kid n true o) (Aud.under n true row) N page rc rs m1:Except (Nat × Int) (PT × Nat))=R;refine qXg (Q:=fun e E w1=>e=.normal/\SdQ c w page n row (ndA (.br M N lc rc ls rs) vv) true U a0 R (E 0) (E 1) (E 6) (E 7) (E 48) w1) _ (fun e E w1=>?_) ?_
  ·rintro⟨rfl,hD⟩
   rw[thenQ_normal];clear A H I J e0 e1 e6 e7 a5;obtain⟨e0,e1,e6,e7,hD⟩:=hD
   cases R with
   | error e =>
    obtain⟨a7,hD⟩:=hD;simp -implicitDefEqProofs only[go_sem,a7];exact⟨rfl,hD⟩
   | ok y =>
   obtain⟨r,m2⟩:=y;obtain⟨a7,J,H,I,a3,a8,A,b7,b8⟩:=hD;have b9:=side_ok hk Z hn true a6.2 hr;obtain⟨d0,d1,d2,d3,d4,d5,d6⟩:=rdBr B.2.1 B.2.2 H;have b4:((2:Int) == 1)=false:=rfl;simp -implicitDefEqProofs only[go_sem,yJ,jY,a7,e6,d0,b4];obtain⟨mc,ok,lm,ml,mo,mb⟩:=likeM A hk Z M N;refine qXg (Q:=fun e E w1=>e=.normal/\MdQ c w page n row (ndA (.br M N lc rc ls rs) vv) a3 a8 m2 (E 0) (E 1) (E 6) (E 7) w1/\∃ b,E 12=pt b 0/\w1.heap[b]?=some (.cells mc.toArray 78 (0,0))) _ (fun e E w1=>?_) ?_
   ·rintro⟨rfl,hM,b,a9,kb⟩
    rw[thenQ_normal];refine qXg (Q:=fun e E w1=>e=.normal/\MdQ c w page n row (ndA (.br M N lc rc ls rs) vv) a3 a8 m2 (E 0) (E 1) (E 6) (E 7) w1/\E 9=.bool (decide (at'=true/\likeB M N o=true))) _ (fun e E w1=>?_) ?_
    ·
     rintro⟨rfl,hM,e9⟩;rw[thenQ_normal];clear A H I J e0 e1 e6 e7 a7 d0 d1 d2 d3 d4 d5 d6 lm;obtain⟨e0,e1,e6,e7,J,H,I,A⟩:=hM;have c6:∀ {b:Nat},PaB c b->b<w.heap.size:=lP;obtain⟨p0,_,_,_,_,_,_,_,_,p9⟩:=A.rds;have nx:((page:Int) != (m2:Int))=decide (page≠m2):=natne page m2;have wi:=iSu (i:=m2)
     by_cases hx:page=m2
     ·rw[decide_eq_false fun e=>e hx]at nx
      by_cases hB:at'=true/\likeB M N o=true
      ·rw[decide_eq_true hB]at e9
       simp -implicitDefEqProofs only[go_sem,yJ,bSe,jY,e0,e1,e9,p9,nx,p0];refine qQa pl44 ((A.find hk page 172).mono ?_);rintro _ w9 ⟨rfl,e9⟩;simp -implicitDefEqProofs only[go_sem];rw[if_neg fun h=>h.2 hB];exact⟨rfl,e9⟩
      ·rw[decide_eq_false hB]at e9
       have q3:wrO prog 3 w1 c.pb 4 (.int .i64 ((m2+1:Nat):Int))=some (put w1 c.pb (.cells (paC c (m2+1)) 213 (0,0))):=wr1 sz3 rfl A.pass (show 4<5 by decide);simp -implicitDefEqProofs only[go_sem,yJ,yY,bSe,jY,e0,e1,e9,p9,nx,wi,q3];have k3:=qQd (o:=.cells (paC c (m2+1)) 213 (0,0)) A.pass;have f3:Fr (fun b=>b=c.pb) w1 (put w1 c.pb (.cells (paC c (m2+1)) 213 (0,0))):=(Fr.refl _ _).put (b:=c.pb) _ (fun _=>rfl);have h3:=A.step hk (m2+1) f3 k3;have g1:=f3.at H fun e=>by have:=lP (b:=c.pb) (.inr (.inl rfl));omega
       have g2:=f3.at I fun e=>by have:=lP (b:=c.pb) (.inr (.inl rfl));omega
       have f3:=J.trans (f3.mono (G:=PaB c) fun _ _ e=>.inr (.inl e));generalize put w1 c.pb (.cells (paC c (m2+1)) 213 (0,0))=W3 at *;obtain⟨_,_,x2,_,x4,_⟩:=h3.rds;obtain⟨_,_,t2⟩:=rdRw Z.hrow.1 g2;have h3:=h3.fr0 (Fr.refl _ _).drew;have f3:=f3.drew;have g1:W3.drew.heap[w.heap.size]?=_:=g1;obtain⟨ob,b0,h4,f4⟩:=h3.putR hk (n:=n) (r:=row) Z.hrow.1 page;have b0:putE prog 158 W3.heap[c.nR]? (.agg (rwC n row).toArray) (.int .i64 (page:Nat))=some ob:=b0;simp -implicitDefEqProofs only[go_sem,yJ,jY,e1,e7,x2,x4,t2,map152,b0];have g1:=f4.at g1 fun e=>by have:=lP (b:=c.nR) (.inr (.inr (.inl rfl)));omega
       have f4:=f3.trans (f4.mono (G:=PaB c) fun _ _ e=>.inr (.inr (.inl e)));generalize put W3.drew c.nR ob=W5 at *;obtain⟨d0,_⟩:=rdBr B.2.1 B.2.2 g1;simp -implicitDefEqProofs only[go_sem,e6,d0,b4];rw[if_pos ⟨hx,hB⟩];exact⟨rfl,f4,_,_,h4,RowsIn.brL hn Z.hrow a6.1 b9.1 b5 b7,LvsIn.br b6 b8⟩
     ·rw[decide_eq_true hx]at nx
      simp -implicitDefEqProofs only[go_sem,yJ,qZj,jY,e0,e1,p9,nx,p0];refine qQa pl44 ((A.find hk page 172).mono ?_);rintro _ w9 ⟨rfl,e9⟩;simp -implicitDefEqProofs only[go_sem];rw[if_neg fun h=>hx h.1];exact⟨rfl,e9⟩
    ·
     obtain⟨e0,e1,e6,e7,J,H,I,A⟩:=hM;obtain⟨d0,d1,d2,d3,d4,d5,d6⟩:=rdBr B.2.1 B.2.2 H
     rcases mb with ⟨a,b',m0,c0,c3,b1⟩ | ⟨kd,m0,c4,hB⟩
     ·have r0:rdO prog 3 w1 b 0=some (.int .i64 2):=rd1 agg3 kb (by rw[xI];exact m0)
      have r1:rdO prog 3 w1 b 1=some (.int .i64 (a:Nat)):=rd1 agg3 kb (by rw[xI];exact c0);have r2:rdO prog 3 w1 b 2=some (.int .i64 (b':Nat)):=rd1 agg3 kb (by rw[xI];exact c3);have c7:((2:Int) == 2)=true:=rfl;have na:=nateq a M;have nb:=nateq b' N
      by_cases ha:a=M
      ·rw[decide_eq_true ha]at na
       simp -implicitDefEqProofs only[go_sem,yJ,bSe,jY,e6,a9,r0,r1,r2,d1,d2,na,nb];refine⟨⟨by trivial,by trivial,by trivial,by trivial,J,H,I,A⟩,?_⟩
       congr 1
       exact decide_eq_decide.2 ⟨fun h=>b1.1 ⟨ha,h⟩,fun h=>(b1.2 h).2⟩
      ·rw[decide_eq_false ha]at na
       simp -implicitDefEqProofs only[go_sem,yJ,bSe,qQx,jY,e6,a9,r0,r1,d1,na];refine⟨⟨by trivial,by trivial,by trivial,by trivial,J,H,I,A⟩,?_⟩;rw[decide_eq_false fun h=>ha (b1.2 h).1]
     ·have r0:rdO prog 3 w1 b 0=some (.int .i64 kd):=rd1 agg3 kb (by rw[xI];exact m0)
      simp -implicitDefEqProofs only[go_sem,yJ,qQx,jY,e6,a9,r0,c4];refine⟨⟨by trivial,by trivial,by trivial,by trivial,J,H,I,A⟩,?_⟩;rw[decide_eq_false hB]
   ·
    refine qXl (fun j=>j == 17) (.row [0,1,2,7,8,9,3,4,5,6,10,11,12,13,14,15,16,17,18]) rfl x8 x8 ?_;have J:=J.drew;have A:=A.fr0 (Fr.refl _ _).drew;have H:w1.drew.heap[w.heap.size]?=_:=H;have I:w1.drew.heap[w.heap.size+1]?=_:=I;have lm:lookO prog 68 w1.drew (.map (some c.mn)) (.int .i64 ((Aud.rowAt 0 Aud.zrow T (n,row)).getD 0:Nat))=some (.agg mc.toArray,ok):=lm;generalize w1.drew=W1 at *;obtain⟨p0,p1,p2,p3,p4,p5,p6,p7,p8,p9⟩:=A.rds;obtain⟨_,_,t2⟩:=rdRw Z.hrow.1 I;have lo:=A.oldRow hT (n:=n) Z.hrow.1;obtain⟨W2,c5,f2,k3,s2⟩:=qQl W1 nd0.toArray 78;have q3:wrO prog 78 W2 W1.heap.size 0 (.agg mc.toArray)=some (put W2 W1.heap.size (.cells mc.toArray 78 (0,0))):=qQr (by simp[ml];exact sz78) k3 (by simp[ml,qXf z32l z32l z32l]) (by simpa using mo);have fe:=f2.ext;simp -implicitDefEqProofs only[go_sem,yJ,yY,yN,bSe,jY,qQk,OT.row,e0,e7,p0,p1,p3,p6,t2,lo,lm,ndZero,c5,q3,fe,implies_true];have f3:=f2.put (b:=W1.heap.size) (.cells mc.toArray 78 (0,0)) fun h=>by omega
    exact⟨⟨by trivial,by trivial,by trivial,by trivial,J.trans (f3.mono fun _ _ h=>h.elim),f3.at H id,f3.at I id,A.fr0 f3⟩,_,rfl,qQd k3⟩
  ·
   refine qXl (fun j=>j == 14) (.row [0,1,2,3,4,5,7,8,10,6,9,11,12,13,14,15,16,17]) rfl x8 x8 ?_;have J:=J.drew;have A:=A.fr0 (Fr.refl _ _).drew;have H:w1.drew.heap[w.heap.size]?=_:=H;have I:w1.drew.heap[w.heap.size+1]?=_:=I;generalize w1.drew=W1 at *;obtain⟨d0,d1,d2,d3,d4,d5,d6⟩:=rdBr B.2.1 B.2.2 H;obtain⟨_,_,t2⟩:=rdRw Z.hrow.1 I;have nl:((N:Int) != 0)=decide (N≠0):=natne N 0
   by_cases zl:N=0
   ·rw[decide_eq_false fun e=>e zl]at nl
    rw[if_pos zl]at hr;simp -implicitDefEqProofs only[go_sem,yJ,yY,qQx,jY,OT.row,d2,nl,e0,e1,e6,e7];rw[<- hr];exact⟨by trivial,by trivial,by trivial,by trivial,by trivial,J,H,I,U,a0,A,RowsIn.nil (n+1) (Aud.under n true row) U,LvsIn.nil a0⟩
   ·rw[decide_eq_true zl]at nl
    rw[if_neg zl]at hr;have bs:=bldSt (page:=N) (by':=page) (count:=rc) B.2.2;simp -implicitDefEqProofs only[go_sem,yJ,yY,bSe,jY,OT.row,d2,nl,d4,d6,bs,t2,e0,e1,e6,e7];refine qQe pl185 ((rowUnder W1 n hn Z.hrow.1 1 x9).mono ?_);rintro _ w6 ⟨rfl,f6⟩;refine⟨fun _=>f6.ext,?_⟩;rw[show Aud.under n ((1:Nat) == 1) row=Aud.under n true row from rfl];simp -implicitDefEqProofs only[go_sem,yJ,bSe];refine qQe pl126 ((ih N page rc (A.fr0 f6) (Z.kid hn true) a6.2.1 a6.2.2 B.2.2).mono ?_);rintro x w7 V;rw[hr]at V;refine⟨(fun h=>by cases h),?_⟩
    cases hR:R with
    | error e =>
     rw[hR]at V;obtain⟨rfl,V⟩:=V;simp -implicitDefEqProofs only[go_sem,yJ,yY,bSe,Bool.not_false];exact⟨by trivial,by trivial,by trivial,by trivial,by trivial,V⟩
    | ok y =>
     obtain⟨t,m⟩:=y;rw[hR]at V;obtain⟨rfl,f7,Y,a4,h7,rr,ll⟩:=V;simp -implicitDefEqProofs only[go_sem,yJ,yY,bSe,Bool.not_true];exact⟨by trivial,by trivial,by trivial,by trivial,by trivial,(J.trans (f6.mono fun _ _ h=>h.elim)).trans f7,f7.at (f6.at H id) fun e=>by have:=lP e;omega,f7.at (f6.at I id) fun e=>by have:=lP e;omega,Y,a4,h7,rr,ll⟩
 ·
  refine qXl (fun j=>j == 14) (.row [0,1,2,3,4,5,7,8,10,6,9,11,12,13,14,15,16,17]) rfl x8 x8 ?_;have J:=(J.mono (G:=PaB c) fun _ _ h=>h.elim).drew;have A:=A.fr0 (Fr.refl _ _).drew;have H:W.drew.heap[w.heap.size]?=_:=H;have I:W.drew.heap[w.heap.size+1]?=_:=I;generalize W.drew=W1 at *;obtain⟨d0,d1,d2,d3,d4,d5,d6⟩:=rdBr B.2.1 B.2.2 H;obtain⟨_,_,t2⟩:=rdRw Z.hrow.1 I;have nl:((M:Int) != 0)=decide (M≠0):=natne M 0
  by_cases zl:M=0
  ·rw[decide_eq_false fun e=>e zl]at nl
   rw[if_pos zl]at hl;simp -implicitDefEqProofs only[go_sem,yJ,yY,qQx,jY,OT.row,d1,nl];rw[<- hl];exact⟨by trivial,by trivial,by trivial,by trivial,by trivial,J,H,I,rows,lvs,A,RowsIn.nil (n+1) (Aud.under n false row) rows,LvsIn.nil lvs⟩
  ·rw[decide_eq_true zl]at nl
   rw[if_neg zl]at hl;have bs:=bldSt (page:=M) (by':=page) (count:=lc) B.2.1;simp -implicitDefEqProofs only[go_sem,yJ,yY,bSe,jY,OT.row,d1,nl,d3,d5,bs,t2];refine qQe pl185 ((rowUnder W1 n hn Z.hrow.1 0 x9).mono ?_);rintro _ w6 ⟨rfl,f6⟩;refine⟨fun _=>f6.ext,?_⟩;rw[show Aud.under n ((0:Nat) == 1) row=Aud.under n false row from rfl];simp -implicitDefEqProofs only[go_sem,yJ,bSe];refine qQe pl126 ((ih M page lc (A.fr0 f6) (Z.kid hn false) hf b3 B.2.1).mono ?_);rintro x w7 V;rw[hl]at V;refine⟨(fun h=>by cases h),?_⟩
   cases hR:L with
   | error e =>
    rw[hR]at V;obtain⟨rfl,V⟩:=V;simp -implicitDefEqProofs only[go_sem,yJ,yY,bSe,Bool.not_false];exact⟨by trivial,by trivial,by trivial,by trivial,by trivial,V⟩
   | ok y =>
    obtain⟨t,m⟩:=y;rw[hR]at V;obtain⟨rfl,f7,Y,a4,h7,rr,ll⟩:=V;simp -implicitDefEqProofs only[go_sem,yJ,yY,bSe,Bool.not_true];exact⟨by trivial,by trivial,by trivial,by trivial,by trivial,(J.trans (f6.mono fun _ _ h=>h.elim)).trans f7,f7.at (f6.at H id) fun e=>by have:=lP e;omega,f7.at (f6.at I id) fun e=>by have:=lP e;omega,Y,a4,h7,rr,ll⟩
end
end A
end
end Go.V
