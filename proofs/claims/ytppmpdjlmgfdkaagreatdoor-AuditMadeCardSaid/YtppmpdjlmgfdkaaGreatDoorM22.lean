/- Helpers. -/
import Derived.Test.YtppmpdjlmgfdkaaGreatDoorM21
import Derived.Test.YtppmpdjlmgfdkaaGreatDoorM18
import Derived.Test.YtppmpdjlmgfdkaaGreatDoorM19
set_option linter.all false
set_option maxRecDepth 100000
set_option maxHeartbeats 8000000
open Array renaming all_toList->kJ
open Bool renaming not_true->y8,not_false->xH
open List renaming replicate->zG,setIfInBounds_toArray->jS,length_map->zE,size_toArray->kG,append_nil->z4,replicate_zero->kE,getElem?_drop->vL,append_assoc->zU,map_set->kI,length_cons->zC,getElem?_append_right->jR,set_append_right->jC
open Nat renaming reduceEqDiff->j7,zero_add->jV,reduceBEq->yX,le_refl->xC,mul_one->j8,sub_self->kO,reduceAdd->vS,testBit_two_pow_mul_add->rQ,add_zero->yK,zero_le->jJ,mul_le_mul_right->xR,pow_succ->yN,mul_comm->vW
open Go.Value renaming cells->yU,int->vU
namespace Go.V
open Go.Proofs.Tryz Go.V.Tryz
open Go.Proofs Sha
variable {at':Bool} {O bs:Bs} {ats:List Nat} {b first i k n p tb ty wd:Nat} {v:Value} {c w w':World}
section
namespace R
open Aud A
section
variable {kind l r lc rc:Nat} {ls rs k:Bs} {vv:Value}
theorem qKr (a b:List Value)(i:Nat)(x:Value)(A:a.length=n):(a++b).set (n+i) x=a++b.set i x:=by
 rw[jC _ _ x8,A,Nat.add_sub_cancel_left]
theorem set_mid (a b:List Value)(x:Value)(hi:i<a.length):(a++b).set i x=a.set i x++b:=List.set_append_left _ _ hi
theorem ndC_tr (kind l r lc rc:Nat)(ls rs k:Bs)(vv:Value):ndC kind l r lc rc ls rs k vv=[vU .i64 (kind:Nat),.int .i64 (l:Nat),.int .i64 (r:Nat),.int .i64 (lc:Nat),.int .i64 (rc:Nat)]++(ls.map u8++(rs.map u8++(k.map u8++[vv]))):=by simp only[ndC,zU]
theorem nd_setK (A:ls.length=32)(B:rs.length=32)(D:k.length=32)(hi:i<32)(x:Byte):(ndC kind l r lc rc ls rs k vv).toArray.setIfInBounds (69+i) (u8 x)=(ndC kind l r lc rc ls rs (k.set i x) vv).toArray:=by
 rw[jS,ndC_tr,ndC_tr,show 69+i=5+(32+(32+i)) by omega,qKr (n:=5) _ _ _ _ rfl,qKr (n:=32) _ _ _ _ (by rw[zE,A]),qKr (n:=32) _ _ _ _ (by rw[zE,B]),set_mid _ _ _ (by rw[zE,D];exact hi),kI]
theorem nd_setL (A:ls.length=32)(hi:i<32)(x:Byte):(ndC kind l r lc rc ls rs k vv).toArray.setIfInBounds (5+i) (u8 x)=(ndC kind l r lc rc (ls.set i x) rs k vv).toArray:=by
 rw[jS,ndC_tr,ndC_tr,qKr (n:=5) _ _ _ _ rfl,set_mid _ _ _ (by rw[zE,A];exact hi),kI]
theorem nd_setR (A:ls.length=32)(B:rs.length=32)(hi:i<32)(x:Byte):(ndC kind l r lc rc ls rs k vv).toArray.setIfInBounds (37+i) (u8 x)=(ndC kind l r lc rc ls (rs.set i x) k vv).toArray:=by
 rw[jS,ndC_tr,ndC_tr,show 37+i=5+(32+i) by omega,qKr (n:=5) _ _ _ _ rfl,qKr (n:=32) _ _ _ _ (by rw[zE,A]),set_mid _ _ _ (by rw[zE,B];exact hi),kI]
theorem nd_setV (A:ls.length=32)(B:rs.length=32)(D:k.length=32)(x:Value):(ndC kind l r lc rc ls rs k vv).toArray.setIfInBounds 101 x=(ndC kind l r lc rc ls rs k x).toArray:=by
 rw[jS,ndC_tr,ndC_tr,show 101=5+(32+(32+(32+0))) by omega,qKr (n:=5) _ _ _ _ rfl,qKr (n:=32) _ _ _ _ (by rw[zE,A]),qKr (n:=32) _ _ _ _ (by rw[zE,B]),qKr (n:=32) _ _ _ _ (by rw[zE,D])]
 rfl
end
theorem fillB (l:Bs)(hi:i<32)(B:i<l.length):(l.take i++zG (32 - i) 0).set i (l.getD i 0)=l.take (i+1)++zG (32 - (i+1)) 0:=by
 have A:(l.take i).length=i:=by rw[lTk];omega
 rw[jC _ _ x8,A,kO,show 32 - i=(32 - (i+1))+1 by omega,List.replicate_succ,List.set_cons_zero,tSg B,zU,gDq,List.getElem?_eq_getElem B]
 rfl
theorem fillB_len (l:Bs)(hi:i<=32)(A:i<=l.length):(l.take i++zG (32 - i) 0).length=32:=by
 rw[lAp,lTk,lRe];omega
theorem bldNdK (kind:Nat):bldO prog 78 [(0,.int .i64 (kind:Nat))]=some (.agg (ndC kind 0 0 0 0 z32 z32 z32 (.slice none 0 0)).toArray):=by
 rw[qJp zero78 ndPlaces (c:=nd0.toArray) x9];have A:=qJb (ps:=fun i=>ndPs[i]?) (i:=0) (o:=0) (a:=[]) (r:=(ndC 0 0 0 0 0 z32 z32 z32 (.slice none 0 0)).drop 1) (u:=.int .i64 0) (v:=.int .i64 (kind:Nat)) (rest:=[]) rfl rfl rfl;rw[qXq]at A;exact congrArg (Option.map Value.agg) A
def d9K (D:World)(p:Value)(l:Bs)(A B:Nat)(m:Nat)(vs:List Value)(w:World):Prop :=
 ∃ i:Nat,vs=[p,pt A 0,pt B 0,.int .i64 (i:Nat)]/\i<=32/\m=32 - i/\w.heap[A]?=some (.cells nd0.toArray 78 (0,0))/\w.heap[B]?=some (.cells (ndC 1 0 0 0 0 z32 z32 (l.take i++zG (32 - i) 0) (.slice none 0 0)).toArray 78 (0,0))/\No D w
def d9V (A:World)(p:Value)(l:Bs)(B D:Nat)(m:Nat)(vs:List Value)(w:World):Prop :=
 ∃ (i:Nat) (vv:Value),vs=[p,pt B 0,pt D 0,.int .i64 (i:Nat)]/\32<=i/\i<=l.length/\m=l.length - i/\w.heap[B]?=some (.cells nd0.toArray 78 (0,0))/\w.heap[D]?=some (.cells (ndC 1 0 0 0 0 z32 z32 (l.take 32) vv).toArray 78 (0,0))/\NwB A w vv ((l.drop 32).take (i - 32))/\No A w
def d9B (D:World)(p:Value)(l:Bs)(A B:Nat)(m:Nat)(vs:List Value)(w:World):Prop :=
 ∃ i:Nat,vs=[p,pt A 0,pt B 0,.int .i64 (i:Nat)]/\i<=32/\m=32 - i/\w.heap[A]?=some (.cells nd0.toArray 78 (0,0))/\w.heap[B]?=some (.cells (ndC 2 (nat4 l 0) (nat4 l 4) (nat4 l 8) (nat4 l 12) ((l.drop 16).take i++zG (32 - i) 0) ((l.drop 48).take i++zG (32 - i) 0) z32 (.slice none 0 0)).toArray 78 (0,0))/\No D w
theorem nwb_ne {H w:World}(h:NwB H w v bs){c:Array Value}{e:TypeId}{fz:Nat × Nat}(I:w.heap[b]?=some (.cells c e fz))(J:e≠5):¬ qQf v=some b:=fun D=>by
 obtain⟨A,_⟩:=h
 rcases A with ⟨rfl,_⟩ | ⟨L,M,E,c',rfl,B,_⟩
 ·cases D
 ·cases D
  rw[I]at B;cases B;exact J rfl
theorem decode9 (E:World)(kind:Nat){p:Value}{l:Bs}(hp:By E p l)(hl:l.length<=2 ^ 40):Fn prog 51 #[.int .i64 (kind:Nat),p] E (DeQ E (decN kind l)):=by
 refine go51 sm ?_;obtain⟨va,vc,rfl,l4⟩:=hp.slice;have nz:=qKk;obtain⟨W,hW,f1,k1,s1⟩:=qQl E nd0.toArray 78;obtain⟨W2,d0,f2,k2,s2⟩:=qQl W nd0.toArray 78;have ndS:∀ {kind l r lc rc:Nat} {ls rs k:Bs} {vv:Value},ls.length=32->rs.length=32->k.length=32->(ndC kind l r lc rc ls rs k vv).toArray.size=102:=fun h1 h2 h3=>by simp[qQu h1 h2 h3]
 have bK:=bldNdK kind;have q2:wrO prog 78 W2 W.heap.size 0 (.agg (ndC kind 0 0 0 0 z32 z32 z32 (.slice none 0 0)).toArray)=some (put W2 W.heap.size (.cells (ndC kind 0 0 0 0 z32 z32 z32 (.slice none 0 0)).toArray 78 (0,0))):=qQo (by rw[ndS z32l z32l z32l];exact sz78) k2 (by rw[ndS z32l z32l z32l,ndS z32l z32l z32l]) (by simpa using qXz kind 0 0 0 0 z32 z32 z32 rfl);have k3:=qQd (o:=.cells (ndC kind 0 0 0 0 z32 z32 z32 (.slice none 0 0)).toArray 78 (0,0)) k2;have l6:=qQi k1;have k4:=qQh (b:=W.heap.size) (o:=.cells (ndC kind 0 0 0 0 z32 z32 z32 (.slice none 0 0)).toArray 78 (0,0)) (f2.at k1 id) x8;have f3:No E (put W2 W.heap.size (.cells (ndC kind 0 0 0 0 z32 z32 z32 (.slice none 0 0)).toArray 78 (0,0))):=(f1.trans f2).put (b:=W.heap.size) _ fun h=>by have:=f1.size;omega
 have B:=nateq kind 1;simp -implicitDefEqProofs only[go_sem,j7,yU,jV,qQk,Tryz.f51,nz,hW,bK,d0,q2];generalize put W2 W.heap.size (.cells (ndC kind 0 0 0 0 z32 z32 z32 (.slice none 0 0)).toArray 78 (0,0))=w3 at *;have l7:E.heap.size<W.heap.size:=x8
 generalize W.heap.size=A at *;generalize l8:E.heap.size=H at *
 have a7:∀ (w:World) (vs:List Value), No E w->w.heap[H]?=some (.cells nd0.toArray 78 (0, 0))->vs.length=102->vs.all one=true ->
   wrO prog 78 w H 0 (.agg vs.toArray)=some (put w H (.cells vs.toArray 78 (0,0)))/\rdO prog 78 (put w H (.cells vs.toArray 78 (0,0))) H 0=some (.agg vs.toArray)/\No E (put w H (.cells vs.toArray 78 (0,0))):=fun w vs f k h5 ho =>
  ⟨qQo (by rw[kG,h5];exact sz78) k (by rw[ndS z32l z32l z32l,kG,h5]) (by simpa using ho),qKs agg78 (by rw[kG,h5];exact sz78) (qQd (o:=.cells vs.toArray 78 (0,0)) k),f.put (b:=H) _ fun h=>by omega⟩
 obtain⟨z1,z2,z3⟩:=a7 w3 nd0 f3 k4 (qQu z32l z32l z32l _) (qXz _ _ _ _ _ _ _ _ rfl);have b0:=bldNd0;have T:decN kind l=none->DeQ E (decN kind l) (.tuple #[.agg nd0.toArray,.int .i64 90]) (put w3 H (.cells nd0.toArray 78 (0,0))):=fun h=>by rw[h];exact⟨z3,rfl⟩
 by_cases a8:kind=1
 ·subst a8
  have B:(((1:Nat):Int) == 1)=true:=rfl;have g1:decide ((l.length:Int)<32)=decide (l.length<32):=natlt l.length 32;have g2:decide ((l.length:Int) > 160)=decide (160<l.length):=natlt 160 l.length
  by_cases d7:l.length<32
  ·rw[decide_eq_true d7]at g1
   have U:=T (by unfold decN;rw[if_pos rfl,if_neg x8]);simp -implicitDefEqProofs only[go_sem,j7,qXd,B,g1,b0,z1,z2];exact U
  rw[decide_eq_false d7]at g1
  by_cases d8:160<l.length
  ·rw[decide_eq_true d8]at g2
   have U:=T (by unfold decN;rw[if_pos rfl,if_neg x8]);simp -implicitDefEqProofs only[go_sem,j7,bSe,B,g1,g2,b0,z1,z2];exact U
  rw[decide_eq_false d8]at g2;have U:decN 1 l=some (.leaf (l.take 32) (l.drop 32)):=by unfold decN;rw[if_pos rfl,if_pos x8]
  rw[U];clear T z1 z2 z3;simp -implicitDefEqProofs only[go_sem,bSe,B,g1,g2];refine loopD [1,4,6,7] (d9K E (.slice va l.length vc) l H A) 32 ⟨0,by simp -implicitDefEqProofs only[go_sem,j7];rfl,jJ _,rfl,k4,k3,f3⟩ ?_;clear k3 k4 f3 k1 k2 q2 hW d0 f1 f2;rintro _ vs w4 g ⟨i,rfl,hi,rfl,Y,L,f4⟩
  by_cases I:i<32
  ·have V:=dTo ((i:Int)<32)
   have c1:=iSu (i:=i);obtain⟨bb,o,cap,M,rk⟩:=by_rd (hp.fr0 f4) (i:=i) x8;cases M;have y1:(0:Int)<=((i:Nat):Int)/\((i:Nat):Int)<(l.length:Int):=x8
   have y2:(0:Int)<=((i:Nat):Int)/\((i:Nat):Int)<((32:Nat):Int):=x8
   have D:=fillB_len l (i:=i) x8 x8
   have ws:wrO prog 5 w4 A (69+i) (u8 (l.getD i 0))=some (put w4 A (.cells (ndC 1 0 0 0 0 z32 z32 (l.take (i+1)++zG (32 - (i+1)) 0) (.slice none 0 0)).toArray 78 (0,0))):=by
    rw[wr1 sz5 rfl L (by rw[ndS z32l z32l D];omega),nd_setK z32l z32l D x8,fillB l x8 x8]
   simp -implicitDefEqProofs only[go_sem,j7,jV,V,y1.1,y1.2,and_self,if_true,iTn,j8,rk,arr76,y2.2,ws,c1];exact⟨32 - (i+1),x8,i+1,rfl,x8,rfl,qQh Y x8,qQd L,f4.put (b:=A) _ fun h=>by omega⟩
  ·have V:=dFo ((i:Int)<32)
   have e:i=32:=x8
   subst e;rw[kO,kE,z4]at L;simp -implicitDefEqProofs only[go_sem,j7,V];refine loopD [1,4,6,8] (d9V E (.slice va l.length vc) l H A) (l.length - 32) ⟨32,.slice none 0 0,by simp -implicitDefEqProofs only[go_sem,j7];rfl,xC _,x8,rfl,Y,L,by rw[kO,List.take_zero];exact NwB.nil _ _,f4⟩ ?_;clear Y L f4 V;rintro _ vs N g5 ⟨i,vv,rfl,hi,l9,rfl,Y,L,bv,f5⟩;have V:=natlt i l.length;have Z:(l.take 32).length=32:=by rw[lTk];omega
   have d9:one vv=true:=by obtain⟨a,c,rfl,_⟩:=bv.by.slice;rfl
   by_cases I:i<l.length
   ·rw[decide_eq_true I]at V
    have c1:=iSu (i:=i);obtain⟨bb,o,cap,M,rk⟩:=by_rd (hp.fr0 f5) (i:=i) I;cases M;have y1:(0:Int)<=((i:Nat):Int)/\((i:Nat):Int)<(l.length:Int):=x8
    have e0:=qXu (l:=l.drop 32) (i:=i - 32) (by rw[lDr];omega)
    have g0:(l.drop 32).getD (i - 32) 0=l.getD i 0:=by
     simp only[gDq,vL,show 32+(i - 32)=i by omega]
    rw[g0]at e0;obtain⟨v6,w6,g3,b6,f6,g6,m6⟩:=NwB.grow (bv.fr0 (Fr.refl _ _).drew) (l.getD i 0) (by simp;omega) f5.drew;rw[e0]at b6;have rv:rdO prog 22 N.drew A 101=some vv:=(nd_rd (w:=N.drew) L z32l z32l Z).2.2.2.2.2.2.2.2;have rk:rdO prog 5 N.drew bb (o+i)=some (u8 (l.getD i 0)):=rk;have k6:=g6.at (show N.drew.heap[A]?=_ from L) (nwb_ne bv L j0);have g4:=g6.at (show N.drew.heap[H]?=_ from Y) (nwb_ne bv Y j0);have o6:one v6=true:=by obtain⟨a,c,rfl,_⟩:=b6.by.slice;rfl
    have ws:wrO prog 22 w6 A 101 v6=some (put w6 A (.cells (ndC 1 0 0 0 0 z32 z32 (l.take 32) v6).toArray 78 (0,0))):=by
     rw[wr1 sz22 o6 k6 (by rw[ndS z32l z32l Z];omega),nd_setV z32l z32l Z]
    have g7:d9V E (.slice (some ⟨bb,o,none⟩) l.length vc) l H A (l.length - (i+1)) [.slice (some ⟨bb,o,none⟩) l.length vc,pt H 0,pt A 0,.int .i64 ((i+1:Nat):Int)] (put w6 A (.cells (ndC 1 0 0 0 0 z32 z32 (l.take 32) v6).toArray 78 (0,0))) :=
     ⟨i+1,v6,rfl,x8,x8,rfl,qQh g4 x8,qQd k6,by
      have g8:=b6.fr ((Fr.refl (fun b=>b=A) _).put (b:=A) (.cells (ndC 1 0 0 0 0 z32 z32 (l.take 32) v6).toArray 78 (0,0)) fun _=>rfl) fun b hb e=>by subst e;exact nwb_ne b6 k6 j0 hb
      rw[show i+1 - 32=i - 32+1 by omega]
      exact g8,f6.put (b:=A) _ fun h=>by omega⟩
    generalize l.getD i 0=x at *;simp -implicitDefEqProofs only[go_sem,j7,V];refine qXg (Q:=fun e ev w=>e=.normal/\[ev 1,ev 4,ev 6]=[.slice (some ⟨bb,o,none⟩) l.length vc,pt H 0,pt A 0]/\ev 8=.int .i64 (i:Nat)/\d9V E (.slice (some ⟨bb,o,none⟩) l.length vc) l H A (l.length - (i+1)) [.slice (some ⟨bb,o,none⟩) l.length vc,pt H 0,pt A 0,.int .i64 ((i+1:Nat):Int)] w) _ (fun e ev w=>?_) ?_
    ·rintro⟨rfl,ha,h8,hd⟩
     simp only[List.cons.injEq,and_true]at ha;obtain⟨e1,e4,e6⟩:=ha;simp -implicitDefEqProofs only[go_sem,j7,e1,e4,e6,h8,c1];exact⟨l.length - (i+1),x8,hd⟩
    refine qXj (fun j=>j == 6) (.row [0,2,3,4,1,5,6,7,8,9]) rfl x9 x9 ?_;simp -implicitDefEqProofs only[go_sem,j7,yX,yU,jV,OT.row,y1.1,y1.2,and_self,if_true,iTn,j8,rv,rk];refine qKg (v:=.slice (some ⟨N.heap.size,0,none⟩) 1 1) (w':=N.drew.alloc (.cells (bl [x]) 5)) rfl (fun _=>Ext.alloc _ _) ?_;simp -implicitDefEqProofs only[go_sem,j7];refine qXf ⟨v6,w6,g3,fun h=>(by cases h),?_⟩;simp -implicitDefEqProofs only[go_sem,j7,yX,jV,ws];exact g7
   ·rw[decide_eq_false I]at V
    have e:i=l.length:=x8
    subst e;rw[List.take_of_length_le (by rw[lDr];exact xC _)]at bv;obtain⟨q1,q2,q3⟩:=a7 N (ndC 1 0 0 0 0 z32 z32 (l.take 32) vv) f5 Y (qQu z32l z32l Z _) (qXz _ _ _ _ _ _ _ _ d9);have lw:=qQm (P:=prog) (t:=78) agg78 sz78 L (ndS z32l z32l Z);simp -implicitDefEqProofs only[go_sem,j7,V,lw,q1,q2];exact And.intro q3 ⟨_,rfl,vv,rfl,d9,bv.fr ((Fr.refl (fun b=>b=H) _).put (b:=H) _ fun _=>rfl) fun b hb e=>by subst e;exact nwb_ne bv Y j0 hb,fun h=>by cases h⟩
 ·rw[decide_eq_false a8]at B
  have B:((kind:Int) == 1)=false:=B;have a0:((kind:Int) != 2)=decide (kind≠2):=natne kind 2;have nl:((l.length:Int) != 80)=decide (l.length≠80):=natne l.length 80
  by_cases a9:kind=2
  case neg =>
   rw[decide_eq_true a9]at a0;have U:=T (by unfold decN;rw[if_neg a8,if_neg fun h=>a9 h.1]);simp -implicitDefEqProofs only[go_sem,j7,qXd,B,a0,b0,z1,z2];exact U
  rw[decide_eq_false (not_not_intro a9)]at a0
  by_cases R:l.length=80
  case neg =>
   rw[decide_eq_true R]at nl;have U:=T (by unfold decN;rw[if_neg a8,if_neg fun h=>R h.2.1]);simp -implicitDefEqProofs only[go_sem,j7,bSe,B,a0,nl,b0,z1,z2];exact U
  rw[decide_eq_false (not_not_intro R)]at nl;subst a9;have np:0<l.length:=x8
  clear k1 k2 q2 hW d0 f1 f2 z1 z2 z3 T;simp -implicitDefEqProofs only[go_sem,bSe,B,a0,nl];refine qQa pl91 ((number9 w3 (hp.fr0 f3) (i:=0) x8 x8).mono ?_);rintro _ b1 ⟨rfl,d2⟩;have a3:=d2.at k3 id;have c5:=d2.at k4 id
  have e2:wrO prog 3 b1 A 1 (.int .i64 (nat4 l 0:Nat))=some (put b1 A (.cells (ndC 2 (nat4 l 0) 0 0 0 z32 z32 z32 (.slice none 0 0)).toArray 78 (0,0))):=by
   rw[wr1 sz3 rfl a3 (by rw[ndS z32l z32l z32l];omega),jS];rfl
  have g9:=qQd (o:=.cells (ndC 2 (nat4 l 0) 0 0 0 z32 z32 z32 (.slice none 0 0)).toArray 78 (0,0)) a3;have h0:=qQh (b:=A) (o:=.cells (ndC 2 (nat4 l 0) 0 0 0 z32 z32 z32 (.slice none 0 0)).toArray 78 (0,0)) c5 x8;have e3:No E (put b1 A (.cells (ndC 2 (nat4 l 0) 0 0 0 z32 z32 z32 (.slice none 0 0)).toArray 78 (0,0))):=(f3.trans d2).put (b:=A) _ fun h=>by omega
  simp -implicitDefEqProofs only[go_sem,j7,jV,e2];generalize put b1 A (.cells (ndC 2 (nat4 l 0) 0 0 0 z32 z32 z32 (.slice none 0 0)).toArray 78 (0,0))=h6 at *;clear e2 a3 c5;refine qQa pl91 ((number9 h6 (hp.fr0 e3) (i:=4) x8 x8).mono ?_);rintro _ b3 ⟨rfl,d3⟩;have a4:=d3.at g9 id;have c6:=d3.at h0 id
  have b5:wrO prog 3 b3 A 2 (.int .i64 (nat4 l 4:Nat))=some (put b3 A (.cells (ndC 2 (nat4 l 0) (nat4 l 4) 0 0 z32 z32 z32 (.slice none 0 0)).toArray 78 (0,0))):=by
   rw[wr1 sz3 rfl a4 (by rw[ndS z32l z32l z32l];omega),jS];rfl
  have b7:=qQd (o:=.cells (ndC 2 (nat4 l 0) (nat4 l 4) 0 0 z32 z32 z32 (.slice none 0 0)).toArray 78 (0,0)) a4;have d4:=qQh (b:=A) (o:=.cells (ndC 2 (nat4 l 0) (nat4 l 4) 0 0 z32 z32 z32 (.slice none 0 0)).toArray 78 (0,0)) c6 x8;have e5:No E (put b3 A (.cells (ndC 2 (nat4 l 0) (nat4 l 4) 0 0 z32 z32 z32 (.slice none 0 0)).toArray 78 (0,0))):=(e3.trans d3).put (b:=A) _ fun h=>by omega
  simp -implicitDefEqProofs only[go_sem,j7,jV,b5];generalize put b3 A (.cells (ndC 2 (nat4 l 0) (nat4 l 4) 0 0 z32 z32 z32 (.slice none 0 0)).toArray 78 (0,0))=h7 at *;clear b5 a4 c6;refine qQa pl91 ((number9 h7 (hp.fr0 e5) (i:=8) x8 x8).mono ?_);rintro _ b8 ⟨rfl,d5⟩;have a5:=d5.at b7 id;have c7:=d5.at d4 id
  have b9:wrO prog 3 b8 A 3 (.int .i64 (nat4 l 8:Nat))=some (put b8 A (.cells (ndC 2 (nat4 l 0) (nat4 l 4) (nat4 l 8) 0 z32 z32 z32 (.slice none 0 0)).toArray 78 (0,0))):=by
   rw[wr1 sz3 rfl a5 (by rw[ndS z32l z32l z32l];omega),jS];rfl
  have h9:=qQd (o:=.cells (ndC 2 (nat4 l 0) (nat4 l 4) (nat4 l 8) 0 z32 z32 z32 (.slice none 0 0)).toArray 78 (0,0)) a5;have k0:=qQh (b:=A) (o:=.cells (ndC 2 (nat4 l 0) (nat4 l 4) (nat4 l 8) 0 z32 z32 z32 (.slice none 0 0)).toArray 78 (0,0)) c7 x8;have e7:No E (put b8 A (.cells (ndC 2 (nat4 l 0) (nat4 l 4) (nat4 l 8) 0 z32 z32 z32 (.slice none 0 0)).toArray 78 (0,0))):=(e5.trans d5).put (b:=A) _ fun h=>by omega
  simp -implicitDefEqProofs only[go_sem,j7,jV,b9];generalize put b8 A (.cells (ndC 2 (nat4 l 0) (nat4 l 4) (nat4 l 8) 0 z32 z32 z32 (.slice none 0 0)).toArray 78 (0,0))=k5 at *;clear b9 a5 c7;refine qQa pl91 ((number9 k5 (hp.fr0 e7) (i:=12) x8 x8).mono ?_);rintro _ c0 ⟨rfl,d6⟩;have a6:=d6.at h9 id;have c8:=d6.at k0 id
  have e8:wrO prog 3 c0 A 4 (.int .i64 (nat4 l 12:Nat))=some (put c0 A (.cells (ndC 2 (nat4 l 0) (nat4 l 4) (nat4 l 8) (nat4 l 12) z32 z32 z32 (.slice none 0 0)).toArray 78 (0,0))):=by
   rw[wr1 sz3 rfl a6 (by rw[ndS z32l z32l z32l];omega),jS];rfl
  have k7:=qQd (o:=.cells (ndC 2 (nat4 l 0) (nat4 l 4) (nat4 l 8) (nat4 l 12) z32 z32 z32 (.slice none 0 0)).toArray 78 (0,0)) a6;have k8:=qQh (b:=A) (o:=.cells (ndC 2 (nat4 l 0) (nat4 l 4) (nat4 l 8) (nat4 l 12) z32 z32 z32 (.slice none 0 0)).toArray 78 (0,0)) c8 x8;have k9:No E (put c0 A (.cells (ndC 2 (nat4 l 0) (nat4 l 4) (nat4 l 8) (nat4 l 12) z32 z32 z32 (.slice none 0 0)).toArray 78 (0,0))):=(e7.trans d6).put (b:=A) _ fun h=>by omega
  simp -implicitDefEqProofs only[go_sem,j7,jV,e8];generalize put c0 A (.cells (ndC 2 (nat4 l 0) (nat4 l 4) (nat4 l 8) (nat4 l 12) z32 z32 z32 (.slice none 0 0)).toArray 78 (0,0))=m0 at *;clear e8 a6 c8;refine loopD [1,4,6,9] (d9B E (.slice va l.length vc) l H A) 32 ⟨0,by simp -implicitDefEqProofs only[go_sem,j7];rfl,jJ _,rfl,k8,k7,k9⟩ ?_;rintro _ vs w4 g ⟨i,rfl,hi,rfl,Y,L,f4⟩;have D:=fillB_len (l.drop 16) (i:=i) x8 (by rw[lDr];omega);have J:=fillB_len (l.drop 48) (i:=i) x8 (by rw[lDr];omega)
  by_cases I:i<32
  ·have V:=dTo ((i:Int)<32)
   have c1:=iSu (i:=i);have c2:IntKind.i64.wrap (16+(i:Int))=((16+i:Nat):Int):=qXa (a:=16);have c3:IntKind.i64.wrap (48+(i:Int))=((48+i:Nat):Int):=qXa (a:=48);have e9:=fillB (l.drop 16) I (by rw[lDr];omega);have f0:=fillB (l.drop 48) I (by rw[lDr];omega);have g1:(l.drop 16).getD i 0=l.getD (16+i) 0:=by simp only[gDq,vL]
   have g2:(l.drop 48).getD i 0=l.getD (48+i) 0:=by simp only[gDq,vL]
   have c9:=fillB_len (l.drop 16) (i:=i+1) x8 (by rw[lDr];omega);rw[g1]at e9;rw[g2]at f0;obtain⟨bb,o,cap,M,l0⟩:=by_rd (hp.fr0 f4) (i:=16+i) x8;cases M
   have b5:wrO prog 5 w4 A (5+i) (u8 (l.getD (16+i) 0))=some (put w4 A (.cells (ndC 2 (nat4 l 0) (nat4 l 4) (nat4 l 8) (nat4 l 12) ((l.drop 16).take (i+1)++zG (32 - (i+1)) 0) ((l.drop 48).take i++zG (32 - i) 0) z32 (.slice none 0 0)).toArray 78 (0,0))):=by
    rw[wr1 sz5 rfl L (by rw[ndS D J z32l];omega),nd_setL D I,e9]
   have b7:=qQd (o:=.cells (ndC 2 (nat4 l 0) (nat4 l 4) (nat4 l 8) (nat4 l 12) ((l.drop 16).take (i+1)++zG (32 - (i+1)) 0) ((l.drop 48).take i++zG (32 - i) 0) z32 (.slice none 0 0)).toArray 78 (0,0)) L;have d4:=qQh (b:=A) (o:=.cells (ndC 2 (nat4 l 0) (nat4 l 4) (nat4 l 8) (nat4 l 12) ((l.drop 16).take (i+1)++zG (32 - (i+1)) 0) ((l.drop 48).take i++zG (32 - i) 0) z32 (.slice none 0 0)).toArray 78 (0,0)) Y x8;have f7:No E (put w4 A (.cells (ndC 2 (nat4 l 0) (nat4 l 4) (nat4 l 8) (nat4 l 12) ((l.drop 16).take (i+1)++zG (32 - (i+1)) 0) ((l.drop 48).take i++zG (32 - i) 0) z32 (.slice none 0 0)).toArray 78 (0,0))):=f4.put (b:=A) _ fun h=>by omega
   have y1:(0:Int)<=((16+i:Nat):Int)/\((16+i:Nat):Int)<(l.length:Int):=x8
   have y2:(0:Int)<=((i:Nat):Int)/\((i:Nat):Int)<((32:Nat):Int):=x8
   have y3:(0:Int)<=((48+i:Nat):Int)/\((48+i:Nat):Int)<(l.length:Int):=x8
   simp -implicitDefEqProofs only[go_sem,j7,jV,V,c2,y1.1,y1.2,and_self,if_true,iTn,j8,l0,arr75,y2.1,y2.2,b5];generalize put w4 A (.cells (ndC 2 (nat4 l 0) (nat4 l 4) (nat4 l 8) (nat4 l 12) ((l.drop 16).take (i+1)++zG (32 - (i+1)) 0) ((l.drop 48).take i++zG (32 - i) 0) z32 (.slice none 0 0)).toArray 78 (0,0))=N at *;obtain⟨m1,o',l5,M,l1⟩:=by_rd (hp.fr0 f7) (i:=48+i) x8;cases M
   have b9:wrO prog 5 N A (37+i) (u8 (l.getD (48+i) 0))=some (put N A (.cells (ndC 2 (nat4 l 0) (nat4 l 4) (nat4 l 8) (nat4 l 12) ((l.drop 16).take (i+1)++zG (32 - (i+1)) 0) ((l.drop 48).take (i+1)++zG (32 - (i+1)) 0) z32 (.slice none 0 0)).toArray 78 (0,0))):=by
    rw[wr1 sz5 rfl b7 (by rw[ndS c9 J z32l];omega),nd_setR c9 J I,f0]
   simp -implicitDefEqProofs only[go_sem,j7,jV,c3,y3.1,y3.2,and_self,if_true,iTn,j8,l1,arr75,y2.1,y2.2,b9,c1];exact⟨32 - (i+1),x8,i+1,rfl,x8,rfl,qQh d4 x8,qQd b7,f7.put (b:=A) _ fun h=>by omega⟩
  ·have V:=dFo ((i:Int)<32)
   have e:i=32:=x8
   subst e;rw[kO,kE,z4,z4]at L;rw[kO,kE,z4]at D J;have lw:=qQm (P:=prog) (t:=78) agg78 sz78 L (ndS D J z32l)
   have b4:∀ j,nat4 l j<2 ^ 32:=fun j=>by
    have:=le_lt ((l.drop j).take 4);have h4:((l.drop j).take 4).length<=4:=by rw[lTk];omega
    exact Nat.lt_of_lt_of_le this (Nat.pow_le_pow_right x8 h4)
   simp -implicitDefEqProofs only[go_sem,j7,V,lw];refine qQa pl92 ((right9 w4 (nat4 l 0) (nat4 l 4) (nat4 l 8) (nat4 l 12) D J (b4 8) (b4 12)).mono ?_);rintro _ N ⟨rfl,f5⟩;have f8:=f4.trans f5;have f9:=f5.at Y id;have l2:=f5.at L id
   by_cases c4:brR (nat4 l 0) (nat4 l 4) (nat4 l 8) (nat4 l 12) ((l.drop 16).take 32) ((l.drop 48).take 32)
   ·have U:decN 2 l=some (.br (nat4 l 0) (nat4 l 4) (nat4 l 8) (nat4 l 12) ((l.drop 16).take 32) ((l.drop 48).take 32)):=by unfold decN;rw[if_neg j0,if_pos ⟨rfl,R,c4⟩]
    rw[decide_eq_true c4,U];obtain⟨q1,q2,q3⟩:=a7 N (ndC 2 (nat4 l 0) (nat4 l 4) (nat4 l 8) (nat4 l 12) ((l.drop 16).take 32) ((l.drop 48).take 32) z32 (.slice none 0 0)) f8 f9 (qQu D J z32l _) (qXz (vv:=.slice none 0 0) 2 (nat4 l 0) (nat4 l 4) (nat4 l 8) (nat4 l 12) ((l.drop 16).take 32) ((l.drop 48).take 32) z32 rfl);have l3:=qQm (P:=prog) (t:=78) agg78 sz78 l2 (ndS D J z32l);simp -implicitDefEqProofs only[go_sem,j7,y8,l3,q1,q2];exact And.intro q3 ⟨_,rfl,_,rfl,rfl,NwB.nil _ _,fun _=>rfl⟩
   ·have U:decN 2 l=none:=by unfold decN;rw[if_neg j0,if_neg fun h=>c4 h.2.2]
    rw[decide_eq_false c4,U];obtain⟨q1,q2,q3⟩:=a7 N nd0 f8 f9 (qQu z32l z32l z32l _) (qXz _ _ _ _ _ _ _ _ rfl);simp -implicitDefEqProofs only[go_sem,j7,xH,b0,q1,q2];exact And.intro q3 rfl
end R
end
section
namespace R
open Aud A
theorem number15 (w:World){b:Bs}(E:By w v b)(hi:i+4<=b.length)(hb:b.length<=2 ^ 50):Fn prog 89 #[v,.int .i64 (i:Nat)] w fun r w'=>r=.int .i64 (nat4 b i:Nat)/\No w w':=by
 obtain⟨R,o,cap,rfl,H⟩:=E.pos x8;refine go89 sm ?_;have B:∀ j,j<4->rdO prog 5 w R (o+(i+j))=some (.int .u8 ((b.getD (i+j) 0).toNat:Int)):=fun j hj=>E.get agg5 x8;have I:=B 0 x8;have T:=B 1 x8;have U:=B 2 x8;have V:=B 3 x8;rw[yK]at I;have J:(0:Int)<=((i:Nat):Int)/\((i:Nat):Int)<(b.length:Int):=x8
 have L:(0:Int)<=((i+1:Nat):Int)/\((i+1:Nat):Int)<(b.length:Int):=x8
 have M:(0:Int)<=((i+2:Nat):Int)/\((i+2:Nat):Int)<(b.length:Int):=x8
 have N:(0:Int)<=((i+3:Nat):Int)/\((i+3:Nat):Int)<(b.length:Int):=x8
 have c1:=iSu (i:=i);have c2:IntKind.i64.wrap ((i:Int)+2)=((i+2:Nat):Int):=qXa (b:=2);have W:IntKind.i64.wrap ((i:Int)+3)=((i+3:Nat):Int):=qXa (b:=3);have Y:=nat4_eq hi;have Z:=ext8i (b.getD i 0);have x1:=ext8i (b.getD (i+1) 0);have x2:=ext8i (b.getD (i+2) 0);have x3:=ext8i (b.getD (i+3) 0);have k0:=(b.getD i 0).isLt;have k1:=(b.getD (i+1) 0).isLt;have k2:=(b.getD (i+2) 0).isLt;have k3:=(b.getD (i+3) 0).isLt;rw[Y];generalize (b.getD i 0).toNat=A at *;generalize (b.getD (i+1) 0).toNat=n1 at *;generalize (b.getD (i+2) 0).toNat=n2 at *;generalize (b.getD (i+3) 0).toNat=D at *;have m1:IntKind.i64.wrap (256*(n1:Int))=((256*n1:Nat):Int):=qZu (a:=256) x8;have m2:IntKind.i64.wrap (65536*(n2:Int))=((65536*n2:Nat):Int):=qZu (a:=65536) x8;have m3:IntKind.i64.wrap (16777216*(D:Int))=((16777216*D:Nat):Int):=qZu (a:=16777216) x8;have a1:IntKind.i64.wrap ((A:Int)+((256*n1:Nat):Int))=((A+256*n1:Nat):Int):=qXa;have a2:IntKind.i64.wrap (((A+256*n1:Nat):Int)+((65536*n2:Nat):Int))=((A+256*n1+65536*n2:Nat):Int):=qXa;have a3:IntKind.i64.wrap (((A+256*n1+65536*n2:Nat):Int)+((16777216*D:Nat):Int))=((A+256*n1+65536*n2+16777216*D:Nat):Int):=qXa;simp -implicitDefEqProofs only[go_sem,j7,jV,Tryz.f89,c1,c2,W,J.1,J.2,L.1,L.2,M.1,M.2,N.1,N.2,and_self,if_true,iTn,j8,I,T,U,V,Z,x1,x2,x3,m1,m2,m3,a1,a2,a3];exact (Fr.refl _ _).drew
theorem page15 (w:World)(p:Nat):Fn prog 128 #[.int .i64 (p:Nat)] w fun v w'=>v=.bool (decide (isPg p))/\w'=w:=by
 refine go128 sm ?_
 by_cases h:2<=p
 ·have A:=dTo ((p:Int) ≥ 2)
  have D:decide ((p:Int)<4096)=decide (p<4096):=natlt p 4096;have e:decide (isPg p)=decide (p<4096):=decide_eq_decide.2 ⟨fun h=>h.2,fun B=>⟨h,B⟩⟩;simp -implicitDefEqProofs only[go_sem,j7,bSe,Tryz.f128,A,D,e]
 ·have A:=dFo ((p:Int) ≥ 2)
  have e:decide (isPg p)=false:=decide_eq_false fun B=>h B.1;simp -implicitDefEqProofs only[go_sem,j7,qQq,Tryz.f128,A,e]
theorem number15' (w:World)(r:Rc)(h:r.first<=r.ver)(B:r.ver<=2 ^ 40):Fn prog 129 #[.int .i64 (r.ver:Nat),.int .i64 (r.first:Nat)] w fun v w'=>v=.int .i64 (r.num:Nat)/\w'=w:=by
 refine go129 sm ?_;have d:=nateq r.first 0;have d:((r.first:Int) == 0)=decide (r.first=0):=d
 by_cases A:r.first=0
 ·have e:r.num=r.ver:=by unfold Rc.num;rw[if_pos A]
  rw[decide_eq_true A]at d;simp -implicitDefEqProofs only[go_sem,j7,jV,Tryz.f129,d,e]
 ·have e:r.num=r.ver - r.first+1:=by unfold Rc.num;rw[if_neg A]
  rw[decide_eq_false A]at d;have c1:IntKind.i64.wrap ((r.ver:Int) - (r.first:Int))=((r.ver - r.first:Nat):Int):=qXv h x8;have c2:IntKind.i64.wrap (((r.ver - r.first:Nat):Int)+1)=((r.ver - r.first+1:Nat):Int):=qXa (b:=1);simp -implicitDefEqProofs only[go_sem,j7,jV,Tryz.f129,d,c1,c2,e]
end R
end
section
namespace R
open Aud A
theorem far_low (h:2 ^ k ∣ i)(D:¬ i % (2*2 ^ k)=0):far i=i - 2 ^ k:=by
 obtain⟨m,rfl⟩:=h;have L:0<2 ^ k:=Nat.two_pow_pos k
 have M:m % 2=1:=by
  rcases Nat.mod_two_eq_zero_or_one m with e | e
  ·exfalso
   apply D
   obtain⟨q,rfl⟩:∃ q,m=2*q:=⟨m / 2,x8⟩
   rw[show 2 ^ k*(2*q)=2*2 ^ k*q by rw[vW 2 (2 ^ k),Nat.mul_assoc]];exact Nat.mul_mod_right _ _
  ·exact e
 obtain⟨q,rfl⟩:∃ q,m=2*q+1:=⟨m / 2,x8⟩
 have E:2 ^ k*(2*q+1)=2 ^ (k+1)*q+2 ^ k:=by rw[Nat.mul_add,yN,j8,Nat.mul_assoc]
 have H:2 ^ (k+1)*q+2 ^ k - 1=2 ^ (k+1)*q+(2 ^ k - 1):=x8
 have B:2 ^ k<2 ^ (k+1):=Nat.pow_lt_pow_right x8 x8;unfold far;rw[E,H,Nat.add_sub_cancel];refine Nat.eq_of_testBit_eq fun j=>?_;rw[Nat.testBit_and,rQ _ B,rQ _ (show 2 ^ k - 1<2 ^ (k+1) by omega)];have I:2 ^ (k+1)*q=2 ^ (k+1)*q+0:=rfl;rw[I,rQ _ (show 0<2 ^ (k+1) by omega)]
 by_cases A:j<k+1
 ·rw[if_pos A,if_pos A,if_pos A,Nat.testBit_two_pow,Nat.testBit_two_pow_sub_one]
  by_cases J:k=j
  ·rw[decide_eq_false (show ¬ j<k by omega)];simp
  ·rw[decide_eq_false J];simp
 ·rw[if_neg A,if_neg A,if_neg A,Bool.and_self]
def f15I (A:World)(i:Nat)(m:Nat)(vs:List Value)(w:World):Prop :=
 ∃ k:Nat,vs=[.int .i64 (i:Nat),.int .i64 ((2 ^ k:Nat):Int)]/\2 ^ k ∣ i/\m=i - 2 ^ k/\w=A
theorem far15 (w:World)(M:1<=i)(h2:i<=2 ^ 40):Fn prog 101 #[.int .i64 (i:Nat)] w fun v w'=>v=.int .i64 (far i:Nat)/\w'=w:=by
 refine go101 sm ?_;simp -implicitDefEqProofs only[go_sem,Tryz.f101];refine loopD [0,3] (f15I w i) (i - 1) ⟨0,by simp -implicitDefEqProofs only[go_sem,j7];rfl,Nat.one_dvd i,rfl,rfl⟩ ?_;rintro _ vs N g ⟨k,rfl,D,rfl,rfl⟩;have hp:0<2 ^ k:=Nat.two_pow_pos k;have I:2 ^ k<=i:=Nat.le_of_dvd M D;have B:=far_low (i:=i) (k:=k) D
 have J:i % (2*2 ^ k)=0->2 ^ (k+1) ∣ i:=fun h=>by
  rw[yN,vW];exact Nat.dvd_of_mod_eq_zero h
 have A:2 ^ (k+1)=2*2 ^ k:=by rw[yN,vW]
 have L:∀ m,m=i - 2 ^ (k+1)->2 ^ (k+1) ∣ i->f15I N i m [.int .i64 (i:Nat),.int .i64 ((2*2 ^ k:Nat):Int)] N:=fun m W D=>⟨k+1,by rw[A],D,W,rfl⟩
 generalize 2 ^ k=p at *;have c1:IntKind.i64.wrap (2*(p:Int))=((2*p:Nat):Int):=qZu (a:=2) x8;have R:(((2*p:Nat):Int)=0)=False:=by simp;omega
 have T:((i:Nat):Int).tmod ((2*p:Nat):Int)=((i % (2*p):Nat):Int):=rfl;have E:(((i % (2*p):Nat):Int) == 0)=decide (i % (2*p)=0):=nateq (i % (2*p)) 0;have U:=natlt p i;have cm:IntKind.i64.wrap ((i % (2*p):Nat):Int)=((i % (2*p):Nat):Int):=i64n (by have:=Nat.mod_lt i (show 0<2*p by omega);omega);have Y:IntKind.i64.wrap ((i:Int) - (p:Int))=((i - p:Nat):Int):=qXv I x8
 by_cases H:i % (2*p)=0
 ·rw[decide_eq_true H]at E
  have V:=J H;have Z:=Nat.le_of_dvd M V;rw[A]at Z;rw[decide_eq_true (show p<i by omega)]at U;simp -implicitDefEqProofs only[go_sem,j7,bSe,c1,R,if_false,T,E,U];refine⟨_,?_,L _ rfl V⟩;rw[A];omega
 ·rw[decide_eq_false H]at E
  have hf:=B H;simp -implicitDefEqProofs only[go_sem,j7,qQq,c1,R,if_false,T,E,Y];rw[hf];exact⟨rfl,trivial⟩
end R
end
section
namespace R
open Aud A
def qKc (rs:List Rc):Rows:=rs.map rcC
def folP (rs:List Rc)(ats:List Nat)(r:Rc):Rc:=if rs.length=0 then { r with prev:=0,skip:=0 } else
 ⟨(rs.getD (rs.length - 1) rc00).ver+1,(rs.getD (rs.length - 1) rc00).first,chAt ats rs.length,chAt ats (far (rs.length+1)),r.root,r.count,r.sum⟩
theorem in_rd (h:RdR w 1 v (inR ats))(hi:i<ats.length):∃ b o cap,v=.slice (some ⟨b,o,Option.none⟩) ats.length cap/\∀ w',No w w'->rdO prog 3 w' b (o+i)=some (vi (ats.getD i 0)):=by
 have A:(inR ats).length=ats.length:=qZq ats;obtain⟨b,o,cap,rfl,B⟩:=h.pos j0 x8;refine⟨b,o,cap,by rw[A],fun w' f=>?_⟩
 have:=(h.fr0 f).fld (P:=prog) (t:=3) agg3 (i:=i) x8 (j:=0) j0 (x:=vi (ats.getD i 0)) (by
  simp[inR,List.getElem_map,hi])
 rw[j8,yK]at this;exact this
theorem follow15 (A:World){rv av:Value}{rs:List Rc}(hr:RdR A 38 rv (qKc rs))(ha:RdR A 1 av (inR ats))(hl:rs.length=ats.length)(c5:rs.length<=2 ^ 30)(hrs:∀ r ∈ rs, r.sum.length=32/\r.ver<2 ^ 60){r:Rc}(R:r.sum.length=32) :
  Fn prog 60 #[rv,av,.agg (rcC r).toArray] A fun v w'=>v=.agg (rcC (folP rs ats r)).toArray/\No A w':=by
 have a7:(qKc rs).length=rs.length:=zE _;have b4:(inR ats).length=ats.length:=qZq ats;refine go60 sm ?_;obtain⟨ra,rc,T,_⟩:=hr.slice;obtain⟨aa,ac,U,_⟩:=ha.slice;rw[a7]at T;rw[b4,<- hl]at U;obtain⟨W,hW,f0,k0,k1,s0⟩:=qJq A (rcC r).toArray 80 (rcC rc00).toArray 80;have hz:=rcZero;have a8:∀ w,w.heap[A.heap.size]?=some (.cells (rcC r).toArray 80 (0,0))->rdO prog 75 w A.heap.size 6=some (dg r.sum):=fun w k=>qKb (e:=80) (fz:=(0,0)) (a:=rPre r) (m:=r.sum.map u8) (r:=[]) agg75 (by simp[R];exact sz75) (by simp[R]) (by rw[k,z4];rfl) rfl;have r4:rdO prog 3 W A.heap.size 4=some (vi r.root):=rd1 agg3 k0 rfl;have r5:rdO prog 3 W A.heap.size 5=some (vi r.count):=rd1 agg3 k0 rfl;have r6:=a8 W k0;have hb:=bldRt (ro:=r.root) (c:=r.count) R;obtain⟨W2,a9,f2,k2,s2⟩:=qQl W (rcC rc00).toArray 80;have rl:∀ {a b c d e f:Nat},(rcC ⟨a,b,c,d,e,f,r.sum⟩).length=38:=fun {a b c d e f}=>qXc R;have rz:(rcC rc00).length=38:=qXc z32l;have q2:wrO prog 80 W2 W.heap.size 0 (.agg (rcC ⟨0,0,0,0,r.root,r.count,r.sum⟩).toArray)=some (put W2 W.heap.size (.cells (rcC ⟨0,0,0,0,r.root,r.count,r.sum⟩).toArray 80 (0,0))):=qQo (by simp[rl];exact sz80) k2 (by simp[rl,rz]) (by simpa using rcC_one _);have k3:=qQd (o:=.cells (rcC ⟨0,0,0,0,r.root,r.count,r.sum⟩).toArray 80 (0,0)) k2;have f3:No W (put W2 W.heap.size (.cells (rcC ⟨0,0,0,0,r.root,r.count,r.sum⟩).toArray 80 (0,0))):=f2.put (b:=W.heap.size) _ fun h=>by omega
 have c6:W.heap.size=A.heap.size+2:=s0
 have st:∀ {u:World} {a b c d:Nat} (i:Nat) (x:Nat) (a' V c' d':Nat), No W u->u.heap[W.heap.size]?=some (.cells (rcC ⟨a, b, c, d, r.root, r.count, r.sum⟩).toArray 80 (0, 0))->i<4->(rcC ⟨a, b, c, d, r.root, r.count, r.sum⟩).toArray.setIfInBounds i (vi x)=(rcC ⟨a', V, c', d', r.root, r.count, r.sum⟩).toArray ->
   wrO prog 3 u W.heap.size i (vi x)=some (put u W.heap.size (.cells (rcC ⟨a',V,c',d',r.root,r.count,r.sum⟩).toArray 80 (0,0)))/\No W (put u W.heap.size (.cells (rcC ⟨a',V,c',d',r.root,r.count,r.sum⟩).toArray 80 (0,0)))/\(put u W.heap.size (.cells (rcC ⟨a',V,c',d',r.root,r.count,r.sum⟩).toArray 80 (0,0))).heap[W.heap.size]?=some (.cells (rcC ⟨a',V,c',d',r.root,r.count,r.sum⟩).toArray 80 (0,0)):=fun {u a b c d} i x a' V c' d' f k hi he=>by
  refine⟨?_,f.put (b:=W.heap.size) _ fun h=>by omega,qQd k⟩;rw[wr1 sz3 rfl k (by rw[kG,rl];omega),he]
 have Y:∀ {u:World} (q:Rc), q.sum.length=32->No W u->u.heap[W.heap.size]?=some (.cells (rcC q).toArray 80 (0, 0))->rdO prog 80 u W.heap.size 0=some (.agg (rcC q).toArray)/\wrO prog 80 u (A.heap.size+1) 0 (.agg (rcC q).toArray)=some (put u (A.heap.size+1) (.cells (rcC q).toArray 80 (0, 0))) /\
   rdO prog 80 (put u (A.heap.size+1) (.cells (rcC q).toArray 80 (0,0))) (A.heap.size+1) 0=some (.agg (rcC q).toArray)/\No A (put u (A.heap.size+1) (.cells (rcC q).toArray 80 (0,0))):=fun {u} q hq f k=>by
  have ql:(rcC q).toArray.size=38:=by rw[kG];exact qXc hq
  have b0:=f.at k1 id;exact⟨qQm agg80 sz80 k ql,qQo (by rw[ql];exact sz80) b0 (by rw[ql,kG,rz]) (by rw[<- kJ];exact rcC_one _),qQm agg80 sz80 (qQd (o:=.cells (rcC q).toArray 80 (0,0)) b0) ql,(f0.trans f).put (b:=A.heap.size+1) _ fun h=>by omega⟩
 by_cases h0:rs.length=0
 ·have hf:folP rs ats r={ r with prev:=0,skip:=0 }:=if_pos h0
  rw[hf,T,U];have d0:(((rs.length:Nat):Int) == 0)=true:=(nateq rs.length 0).trans (decide_eq_true h0);simp -implicitDefEqProofs only[go_sem,j7,vS,yU,jV,qQk,Tryz.f60,hz,hW,r4,r5,r6,hb,a9,q2,d0];generalize put W2 W.heap.size (.cells (rcC ⟨0,0,0,0,r.root,r.count,r.sum⟩).toArray 80 (0,0))=D at *;have a0:rdO prog 3 D A.heap.size 0=some (vi r.ver):=rd1 agg3 (f3.at k0 id) rfl;obtain⟨q4,f4,k4⟩:=st 0 r.ver r.ver 0 0 0 f3 k3 j0 rfl;simp -implicitDefEqProofs only[go_sem,j7,jV,a0,q4];generalize put D W.heap.size (.cells (rcC ⟨r.ver,0,0,0,r.root,r.count,r.sum⟩).toArray 80 (0,0))=W4 at *;have a1:rdO prog 3 W4 A.heap.size 1=some (vi r.first):=rd1 agg3 (f4.at k0 id) rfl;obtain⟨q5,f5,k5⟩:=st 1 r.first r.ver r.first 0 0 f4 k4 j0 rfl;simp -implicitDefEqProofs only[go_sem,j7,jV,a1,q5];obtain⟨l5,q6,l6,f6⟩:=Y ⟨r.ver,r.first,0,0,r.root,r.count,r.sum⟩ R f5 k5;simp -implicitDefEqProofs only[go_sem,j7,l5,q6,l6];exact f6
 ·have d0:(((rs.length:Nat):Int) == 0)=false:=(nateq rs.length 0).trans (decide_eq_false h0)
  have E:rs.length - 1<rs.length:=x8
  obtain⟨rb,ro,c7,I,hrc⟩:=hr.pos j0 x8;rw[a7]at I;obtain⟨ab,ao,c8,B,M⟩:=in_rd ha (i:=ats.length - 1) x8;rw[<- hl]at B M;rw[I]at hr;have hq:=hrs (rs.getD (rs.length - 1) rc00) (by rw[qQw _ E];exact List.getElem_mem _);have hrow:(qKc rs)[rs.length - 1]'x8=rcC (rs.getD (rs.length - 1) rc00):=by rw[qQw _ E];exact List.getElem_map ..
  have b1:=fun {u:World} (f:No A u)=>(hr.fr0 f).get (P:=prog) (t:=80) agg80 sz80 j0 (i:=rs.length - 1) x8;have Z:far (rs.length+1)<rs.length+1:=far_lt x8
  have a4:∀ {u:World},No A u->0<far (rs.length+1)->rdO prog 3 u ab (ao+(far (rs.length+1) - 1))=some (vi (chAt ats (far (rs.length+1)))):=fun f h=>by
   obtain⟨V,o',c',e',g'⟩:=in_rd ha (i:=far (rs.length+1) - 1) x8;rw[B,hl]at e';cases e';rw[g' _ f,chAt,if_neg x8]
  have H:chAt ats rs.length=ats.getD (rs.length - 1) 0:=by rw[chAt,if_neg h0]
  rw[hrow]at b1;have a5:¬ 0<far (rs.length+1)->chAt ats (far (rs.length+1))=0:=fun h=>by rw[chAt,if_pos x8]
  have hf:folP rs ats r=⟨(rs.getD (rs.length - 1) rc00).ver+1,(rs.getD (rs.length - 1) rc00).first,chAt ats rs.length,chAt ats (far (rs.length+1)),r.root,r.count,r.sum⟩:=if_neg h0;rw[hf,I,B,H];clear hf I B T U hr ha hrow H Z;generalize rs.getD (rs.length - 1) rc00=L at *;generalize ats.getD (rs.length - 1) 0=PV at *;have b3:=far15 (i:=rs.length+1);have c0:far (rs.length+1)<=rs.length:=by have:=far_lt (i:=rs.length+1) x8;omega
  have b5:=fun (u:World)=>b3 u x8 x8;clear b3;generalize far (rs.length+1)=J at *;generalize chAt ats J=SK at *;generalize hN:rs.length=N at *;have c1:IntKind.i64.wrap ((N:Int) - 1)=((N - 1:Nat):Int):=qXv (b:=1) x8 x8;have y1:(0:Int)<=((N - 1:Nat):Int)/\((N - 1:Nat):Int)<((N:Nat):Int):=x8
  simp -implicitDefEqProofs only[go_sem,j7,vS,yU,jV,qQk,Tryz.f60,hz,hW,r4,r5,r6,hb,a9,q2,d0];generalize put W2 W.heap.size (.cells (rcC ⟨0,0,0,0,r.root,r.count,r.sum⟩).toArray 80 (0,0))=D at *;have b6:=b1 (f0.trans f3);obtain⟨W4,b7,f4,k4,s4⟩:=qQl D (rcC rc00).toArray 80;have ll:(rcC L).toArray.size=38:=by rw[kG];exact qXc hq.1
  have q4:wrO prog 80 W4 D.heap.size 0 (.agg (rcC L).toArray)=some (put W4 D.heap.size (.cells (rcC L).toArray 80 (0,0))):=qQo (by rw[ll];exact sz80) k4 (by rw[ll,kG,rz]) (by rw[<- kJ];exact rcC_one _);have k5:=qQd (o:=.cells (rcC L).toArray 80 (0,0)) k4;have f5:No D (put W4 D.heap.size (.cells (rcC L).toArray 80 (0,0))):=f4.put (b:=D.heap.size) _ fun h=>by omega
  have c9:=qQi k3;simp -implicitDefEqProofs only[go_sem,j7,yU,jV,qQk,hz,c1,y1,and_self,iTn,b6,b7,q4];generalize put W4 D.heap.size (.cells (rcC L).toArray 80 (0,0))=W5 at *;have b8:=f3.trans f5;have b9:=f5.at k3 id;have lb:∀ {u:World},Fr (fun b=>b=W.heap.size) W5 u->u.heap[D.heap.size]?=some (.cells (rcC L).toArray 80 (0,0)):=fun f=>f.at k5 x8;have a0:rdO prog 3 W5 D.heap.size 0=some (vi L.ver):=rd1 agg3 k5 rfl;have c2:IntKind.i64.wrap ((L.ver:Int)+1)=((L.ver+1:Nat):Int):=qXa (b:=1);obtain⟨q6,f6,k6⟩:=st 0 (L.ver+1) (L.ver+1) 0 0 0 b8 b9 j0 rfl;have g6:Fr (fun b=>b=W.heap.size) W5 (put W5 W.heap.size (.cells (rcC ⟨L.ver+1,0,0,0,r.root,r.count,r.sum⟩).toArray 80 (0,0))):=(Fr.refl _ _).put (b:=W.heap.size) _ fun _=>rfl;simp -implicitDefEqProofs only[go_sem,j7,jV,a0,c2,q6];generalize put W5 W.heap.size (.cells (rcC ⟨L.ver+1,0,0,0,r.root,r.count,r.sum⟩).toArray 80 (0,0))=W6 at *;have a1:rdO prog 3 W6 D.heap.size 1=some (vi L.first):=rd1 agg3 (lb g6) rfl;obtain⟨q7,f7,k7⟩:=st 1 L.first (L.ver+1) L.first 0 0 f6 k6 j0 rfl;simp -implicitDefEqProofs only[go_sem,j7,jV,a1,q7];generalize put W6 W.heap.size (.cells (rcC ⟨L.ver+1,L.first,0,0,r.root,r.count,r.sum⟩).toArray 80 (0,0))=W7 at *;have a2:=M W7 (f0.trans f7);obtain⟨q8,f8,k8⟩:=st 2 PV (L.ver+1) L.first PV 0 f7 k7 j0 rfl;have c3:=iSu (i:=N);simp -implicitDefEqProofs only[go_sem,j7,jV,c1,y1,and_self,iTn,a2,q8,c3];generalize put W7 W.heap.size (.cells (rcC ⟨L.ver+1,L.first,PV,0,r.root,r.count,r.sum⟩).toArray 80 (0,0))=W8 at *;refine qQa pl101 ((b5 W8).mono ?_);rintro _ w9 ⟨rfl,rfl⟩
  have dF:decide ((J:Int) > 0)=decide (0<J):=by
   by_cases h:0<J
   ·rw[decide_eq_true h];exact decide_eq_true x8
   ·rw[decide_eq_false h];exact decide_eq_false x8
  by_cases hF:0<J
  ·rw[decide_eq_true hF]at dF
   have a3:=a4 (f0.trans f8) hF;have c4:IntKind.i64.wrap ((J:Int) - 1)=((J - 1:Nat):Int):=qXv (b:=1) x8 x8;have y2:(0:Int)<=((J - 1:Nat):Int)/\((J - 1:Nat):Int)<((N:Nat):Int):=x8
   obtain⟨q9,f9,k9⟩:=st 3 SK (L.ver+1) L.first PV SK f8 k8 j0 rfl;simp -implicitDefEqProofs only[go_sem,j7,jV,dF,c4,y2,and_self,iTn,j8,a3,q9];obtain⟨la,qa,a6,fa⟩:=Y ⟨L.ver+1,L.first,PV,SK,r.root,r.count,r.sum⟩ R f9 k9;simp -implicitDefEqProofs only[go_sem,j7,la,qa,a6];exact fa
  ·rw[decide_eq_false hF]at dF
   rw[a5 hF];obtain⟨la,qa,a6,fa⟩:=Y ⟨L.ver+1,L.first,PV,0,r.root,r.count,r.sum⟩ R f8 k8;simp -implicitDefEqProofs only[go_sem,j7,dF,la,qa,a6];exact fa
end R
end
section
namespace R
open Aud A
def TF (S:TypeId->Prop)(b w:World)(x:Nat):Prop:=b.heap.size<=x/\∃ c t fz,w.heap[x]?=some (.cells c t fz)/\S t
section
variable {S:TypeId->Prop} {b w w1 w2:World}
theorem TF.trans (h:Fr (TF S b w) w w1)(k:Fr (TF S b w1) w1 w2):Fr (TF S b w) w w2 :=
 h.trans' k fun x D g=>Classical.byContradiction fun A=>A (by
  obtain⟨E,c,t,fz,B,H⟩:=g;rw[h.blk x D A]at B
  exact⟨E,c,t,fz,B,H⟩)
theorem TF.of (S:TypeId->Prop)(b:World)(h:No w w1):Fr (TF S b w) w w1:=h.mono fun _ _ h=>h.elim
theorem TF.sub {A:TypeId->Prop}(h:Fr (TF S b w) w w1)(B:∀ t,S t->A t):Fr (TF A b w) w w1:=h.mono fun _ _ ⟨D,c,t,fz,E,H⟩=>⟨D,c,t,fz,E,B t H⟩
theorem TF.no (f:No b w)(h:Fr (TF S b w) w w1):No b w1:=f.trans' h fun x A g=>by have:=g.1;omega
theorem TF.at (h:Fr (TF S b w) w w1){x:Nat}{c:Array Value}{t:TypeId}{fz:Nat × Nat}(A:w.heap[x]?=some (.cells c t fz))(D:¬ S t):w1.heap[x]?=some (.cells c t fz) :=
 h.at A fun g=>by
  obtain⟨_,c',I,E,B,H⟩:=g;rw[A]at B;cases B;exact D H
theorem TF.nwr (h:Fr (TF S b w) w w1){rows:Rows}(A:NwR c w ty k v rows)(D:¬ S ty):NwR c w1 ty k v rows :=
 A.fr h fun x E g=>by
  obtain⟨_,c',M,H,I,J⟩:=g;obtain⟨L,B⟩:=qQz A E;rw[I]at B;cases B;exact D J
theorem TF.blk {rows:Rows}(E:b.heap.size<=c.heap.size)(A:NwR c w ty k v rows)(h:Fr (fun x=>qQf v=some x) w w1)(B:S ty):Fr (TF S b w) w w1:=h.mono fun x _ e=>by
 obtain⟨c',D⟩:=qQz A e;exact⟨by have:=A.2.new x e;omega,c',_,_,D,B⟩
theorem nwb_row (B:NwB c w v bs){x:Nat}(A:qQf v=some x):∃ c',w.heap[x]?=some (.cells c' 5 (0,0)):=by
 rcases B.own with ⟨rfl,_⟩ | ⟨E,H,cap,c,rfl,D,_⟩
 ·cases A
 ·cases A;exact⟨c,D⟩
theorem TF.nwb (h:Fr (TF S b w) w w1)(A:NwB c w v bs)(D:¬ S 5):NwB c w1 v bs :=
 Nw.fr A h fun x E g=>by
  obtain⟨_,c',M,H,I,J⟩:=g;obtain⟨L,B⟩:=nwb_row A E;rw[I]at B;cases B;exact D J
theorem TF.put (h:Fr (TF S b w) w w1){x:Nat}{c:Array Value}{t:TypeId}{fz:Nat × Nat}(A:w1.heap[x]?=some (.cells c t fz))(B:b.heap.size<=x)(D:S t)(o:Obj)(E:fzO o=false:=by rfl):Fr (TF S b w) w (put w1 x o) :=
 TF.trans h (((Fr.refl (fun y=>y=x) w1).put (b:=x) o (fun _=>rfl) E).mono fun y _ e=>by rw[e];exact⟨B,c,t,fz,A,D⟩)
end
def verN (first i:Nat):Nat:=if 0<first then first+i - 1 else i
structure ImM (b w:World) (tb wd first:Nat) (T:PT) (oM oS rsv av out:Value) (O:Bs) (rs:List Rc) (ats:List Nat):Prop where
 no:No b w
 hb:b.heap.size<=tb
 out:NwB b w out O
 rcs:NwR b w 80 38 rsv (qKc rs)
 pgn:NwR b w 3 1 av (inR ats)
 tree:w.heap[tb]?=some (.cells #[vi T.page,oM,oS] 141 (0,0))
 hT:T.Wf 0
 hTM:Map 0 T.ents
 hTl:T.ents.length<=4096
 hM:EnR b oM T.ents
 hS:NwR b w 229 66 oS ((subsL wd 0 T).map sbR)
 len:rs.length=ats.length
 hrs:∀ r ∈ rs,r.sum.length=32/\r.ver<2 ^ 60
 ver:∀ j,j<rs.length->(rs.getD j rc00).ver=verN first (j+1)/\(rs.getD j rc00).first=first
 atb:∀ q ∈ ats,q<2 ^ 40
theorem ImM.fr0 {b w w':World}{T:PT}{A B rsv av out:Value}{rs:List Rc}(h:ImM b w tb wd first T A B rsv av out O rs ats)(f:No w w'):ImM b w' tb wd first T A B rsv av out O rs ats :=
 ⟨h.no.trans f,h.hb,h.out.fr0 f,h.rcs.fr0 f,h.pgn.fr0 f,f.at h.tree id,h.hT,h.hTM,h.hTl,h.hM,h.hS.fr0 f,h.len,h.hrs,h.ver,h.atb⟩
theorem ImM.trm {b w:World}{T:PT}{A B rsv av out:Value}{rs:List Rc}(h:ImM b w tb wd first T A B rsv av out O rs ats):TrM w wd T A B :=
 ⟨h.hT,h.hTM,by have:=h.hTl;omega,h.hM.fr0 h.no,h.hS.rd⟩
theorem fol_rec {wd:Int}{rs:List Rc}{t:PT}{c:Nat}(D:rs.length=ats.length)(E:∀ j, j<rs.length->(rs.getD j rc00).ver=verN first (j+1)/\(rs.getD j rc00).first=first) :
  folP rs ats ⟨if first=0 then 1 else first,first,0,0,t.page,c,dgT wd 256 t⟩=recP wd first ats t c:=by
 unfold folP recP
 by_cases B:rs.length=0
 ·rw[if_pos B]
  have H:ats=[]:=List.length_eq_zero_iff.1 x8;subst H
  have A:(if first=0 then 1 else first)=(if 0<first then first+(([]:List Nat).length+1) - 1 else ([]:List Nat).length+1):=by
   by_cases h:first=0
   ·rw[if_pos h,if_neg x8];rfl
   ·rw[if_neg h,if_pos x8];rfl
  have I:chAt [] (far (([]:List Nat).length+1))=0:=rfl;rw[I,<- A]
  rfl
 ·rw[if_neg B]
  obtain⟨J,L⟩:=E (rs.length - 1) x8;rw[J,L,<- D]
  have A:verN first (rs.length - 1+1)+1=(if 0<first then first+(rs.length+1) - 1 else rs.length+1):=by
   unfold verN
   by_cases h:0<first
   ·rw[if_pos h,if_pos h];omega
   ·rw[if_neg h,if_neg h];omega
  rw[A]
theorem news_le (dg:Nat->PT->Bs)(fresh:Nat):∀ (t:PT) (n:Nat),(news dg fresh n t).length<=t.pgs.length
 | .nil,_=>xC _
 | .leaf p k v,n=>by unfold news;split <;> simp[PT.pgs]
 | .br p l r,n=>by
  have:=news_le dg fresh l (n+1);have:=news_le dg fresh r (n+1);show _<=(p::(l.pgs++r.pgs)).length;rw[zC,lAp];unfold news;split
  ·rw[lAp,lAp];show _+_+1<=_;omega
  ·simp
theorem wide_load {n:Nd}(h:NdWide n):(lodN n).length<=160:=by
 cases n with
 | leaf k v=>obtain⟨A,B⟩:=h;show (k++v).length<=160;rw[lAp];omega
 | br D E lc rc ls rs=>obtain⟨_,A,B⟩:=h;show (leB 4 D++leB 4 E++leB 4 lc++leB 4 rc++ls++rs).length<=160;simp only[lAp,qQt];omega
end R
end
section
namespace R
open Aud A
theorem bldTr0:bldO prog 141 []=some (.agg tr0):=by
 unfold bldO;rw[zero141,places141];rfl
def MsR (w:World)(v:Value)(ms:List (List En)):Prop:=∃ rows,RdR w 1 v rows/\rows.length=ms.length/\∀ i (h:i<rows.length) (A:i<ms.length),∃ mv,rows[i]=[mv]/\one mv=true/\EnR w mv ms[i]
theorem MsR.fr0 {ms:List (List En)}(h:MsR w v ms)(f:No w w'):MsR w' v ms:=by
 obtain⟨rows,A,B,D⟩:=h;refine⟨rows,A.fr0 f,B,fun i a b=>?_⟩;obtain⟨mv,e,o,g⟩:=D i a b;exact⟨mv,e,o,g.fr0 f⟩
theorem MsR.slice {ms:List (List En)}(h:MsR w v ms):∃ a cap,v=.slice a ms.length cap/\ms.length<=cap:=by
 obtain⟨rows,A,B,_⟩:=h;rw[<- B];exact A.slice
theorem MsR.at {w:World}{v:Value}{ms:List (List En)}(h:MsR w v ms){i:Nat}(hi:i<ms.length):∃ b o cap mv,v=.slice (some ⟨b,o,Option.none⟩) ms.length cap/\one mv=true/\EnR w mv ms[i]/\∀ w',No w w'->rdO prog 84 w' b (o+i)=some mv:=by
 obtain⟨rows,B,D,E⟩:=h;have A:i<rows.length:=x8
 obtain⟨mv,e,H,g⟩:=E i A hi;obtain⟨b,o,cap,rfl,I⟩:=B.pos j0 x8;refine⟨b,o,cap,mv,by rw[D],H,g,fun w' f=>?_⟩;have:=(B.fr0 f).fld (P:=prog) (t:=84) agg84 A (j:=0) j0 (x:=mv) (by rw[e];rfl);rw[j8,yK]at this;exact this
def Im10 (b I:World)(wd first i next:Nat)(msv esv out rsv av:Value)(tb:Nat)(t:PT)(mv:Value)(J:List Nd)(A:Ev)(B:World):Prop :=
 A 0=vi wd/\A 1=vi first/\A 2=msv/\A 8=esv/\A 9=out/\A 10=rsv/\A 11=av/\A 12=pt tb 0/\A 13=vi next/\A 14=vi i/\No I B/\∃ D E H rows,A 15=pt D 0/\A 16=E/\b.heap.size<=D/\D≠tb/\B.heap[D]?=some (.cells #[vi t.page,mv,H] 141 (0,0))/\one E=true/\one H=true /\
 NwR b B 78 102 E rows/\NdRows b rows J/\NwR b B 229 66 H ((subsL wd 0 t).map sbR)
def imJ' (b B:World)(wd first i next:Nat)(msv esv rsv av:Value)(tb D:Nat)(E:Value)(A:List Nd)(O:Bs)(n:Nat)(vs:List Value)(w:World):Prop :=
 ∃ (j:Nat) (out:Value),vs=[vi wd,vi first,msv,esv,out,rsv,av,pt tb 0,vi next,vi i,pt D 0,E,vi j]/\j<=A.length/\n=A.length - j/\NwB b w out (O++qZb next ((A.take j).map Pg.nd))/\Fr (TF (·=5) b B) B w
theorem bytesP_len:∀ (G:List Pg) (p:Nat),(∀ g ∈ G,g.load.length<=246)->(qZb p G).length=256*G.length
 | [],_,_=>rfl
 | g::G,p,h=>by
  rw[qZb,lAp,bytesP_len G (p+1) fun x A=>h x (List.mem_cons_of_mem _ A),zC];have:(g.bytes p).length=256:=qJa (h g sm);omega
theorem bytesP_take {A:List Nd}{next j:Nat}(B:j<A.length):qZb next ((A.take (j+1)).map Pg.nd)=qZb next ((A.take j).map Pg.nd)++(Pg.nd A[j]).bytes (next+j):=by
 rw[tSg B,List.map_append,bytesP_app,zE,lTk,Nat.min_eq_left x8];simp[qZb]
def imI' (b:World)(wd first:Nat)(msv esv:Value)(tb:Nat)(ms:List (List En))(G:List Pg)(n:Nat)(vs:List Value)(w:World):Prop :=
 ∃ (i next:Nat) (T:PT) (A B rsv av out:Value) (O:Bs) (rs:List Rc) (ats:List Nat),vs=[vi wd,vi first,msv,esv,out,rsv,av,pt tb 0,vi next,vi i]/\i<=ms.length/\n=ms.length - i/\ImM b w tb wd first T A B rsv av out O rs ats/\rs.length=i /\
  2<=next/\next<=2+i*2 ^ 22/\(∀ p ∈ T.pgs,p<next)/\O.length<=256*next/\O++qZb next (imgP wd first ats T next (ms.drop i))=qZb 2 G/\next+(imgP wd first ats T next (ms.drop i)).length=2+G.length
theorem image17 (w0:World)(ht:Tabs w0)(n3:DivT w0)(wd first:Nat){msv:Value}{ms:List (List En)}(h7:MsR w0 msv ms)(h8:∀ m ∈ ms, MapOk m/\m.length<=4096)(r4:ms.length<=4096)(r5:first<=2 ^ 30) :
  Fn prog 30 #[vi wd,vi first,msv] w0 fun v w'=>∃ out,v=.tuple #[out,vi (2+(imgP wd first [] .nil 2 ms).length)]/\NwB w0 w' out (qZb 2 (imgP wd first [] .nil 2 ms))/\No w0 w'/\(imgP wd first [] .nil 2 ms).length<=2 ^ 40:=by
 refine go30 sm ?_;obtain⟨ma,mc,rfl,r6⟩:=h7.slice;simp only[go_sem,j7,vS,jV,Tryz.f30];refine qQa pl55 ((empties w0 ht wd).mono ?_);rintro esv w1 ⟨he,f1⟩;have r7:prog=prog:=rfl;obtain⟨W2,h9,f2,k2,s2⟩:=qQl w1 tr0 141;have q2:wrO prog 141 W2 w1.heap.size 0 (.agg tr0)=some (put W2 w1.heap.size (.cells tr0 141 (0,0))):=qQo sz141 k2 rfl (by rw[<- kJ];rfl);have k3:=qQd (o:=.cells tr0 141 (0,0)) k2;have f3:No w1 (put W2 w1.heap.size (.cells tr0 141 (0,0))):=f2.put (b:=w1.heap.size) _ fun h=>by omega
 simp only[go_sem,j7,yU,bldTr0,h9,q2];generalize put W2 w1.heap.size (.cells tr0 141 (0,0))=w3 at *;have k0:=h7.fr0 f1;have e4:=he.rd;have e5:=ht.no f1;have e6:=n3.no f1;generalize hG:imgP wd first [] PT.nil 2 ms=G
 have k1:ImM w1 w3 w1.heap.size wd first .nil nil0 nil0 nil0 nil0 nil0 [] [] []:=⟨f3,xC _,NwB.nil _ _,NwR.nil _ _ _ _,NwR.nil _ _ _ _,k3,trivial,⟨List.Pairwise.nil,(fun e h=>by cases h)⟩,by simp[PT.ents],⟨[],⟨RowsOk.nil _,(NwR.nil w1 w1 83 33).2.rd⟩,rfl,fun i h=>absurd h sm⟩,NwR.nil _ _ _ _,rfl,(fun r h=>by cases h),(fun j h=>absurd h sm),fun q h=>by cases h⟩
 refine loopD [0,1,2,8,9,10,11,12,13,14] (imI' w1 wd first (.slice ma ms.length mc) esv w1.heap.size ms G) ms.length ⟨0,2,.nil,nil0,nil0,nil0,nil0,nil0,[],[],[],rfl,jJ _,rfl,k1,rfl,xC _,x8,(fun p h=>by cases h),sm,by rw[List.drop_zero,hG];rfl,by rw[List.drop_zero,hG]⟩ ?_;clear k1 k3 f3 q2 h9 f2 k2 s2 W2 w3;rintro _ vs w4 g ⟨i,next,T,oM,oS,rsv,av,out,O,rs,ats,rfl,hi,rfl,R,b5,h2,r9,hTp,s0,hB,hLn⟩;have d1:=natlt i ms.length
 by_cases b7:i<ms.length
 case neg =>
  rw[decide_eq_false b7]at d1;have hd:ms.drop i=[]:=List.drop_of_length_le x8;rw[hd]at hB hLn;have hB:O++[]=qZb 2 G:=hB;have hLn:next+0=2+G.length:=hLn;rw[z4]at hB;simp only[go_sem,j7,d1];refine⟨out,by rw[<- hLn];rfl,?_,f1.trans R.no,x8⟩;rw[<- hB];exact NwB.back R.out f1.size
 rw[decide_eq_true b7]at d1;rw[List.drop_eq_getElem_cons b7,imgP]at hB hLn;obtain⟨mb,mo,s1,mv,e1,f0,c0,hmr⟩:=k0.at b7;cases e1;obtain⟨a0,k4⟩:=h8 ms[i] (List.getElem_mem b7);generalize ms[i]=m at *
 cases hL:Aud.lay 256 0 true T m next with
 | mk t p =>
 rw[hL]at hB hLn;dsimp only at hB hLn;have hp:=lay_len (dgT wd) (fresh:=next) hTp (xC _) x8 hL;obtain⟨f4,a8,_⟩:=lay_ok (f:=256) (n:=0) rfl x8 R.hT a0.1 h2 hL;obtain⟨_,P2,_⟩:=lay_pgs hL;have s3:=news_le (dgT wd) next t 0;have t0:=pgs_len (d:=257) f4 rfl j0;have hTl:=pgs_len (d:=257) R.hT rfl j0;have n4:=R.hTl;have k5:t.ents.length<=4096:=by rw[a8];exact k4
 have t1:i*2 ^ 22<=4096*2 ^ 22:=xR _ x8
 have hpb:p<=next+2 ^ 21:=by
  have:t.ents.length*257<=4096*257:=xR _ k5;omega
 have k6:T.pgs.length<=2 ^ 36:=by
  have:T.ents.length*257<=4096*257:=xR _ n4;omega
 have y1:=iBd (i:=i) (n:=ms.length);simp only[go_sem,j7,d1];refine qXg (Q:=fun x B w5=>x=.normal/\Im10 w1 w4 wd first i next (.slice (some ⟨mb,mo,.none⟩) ms.length mc) esv out rsv av w1.heap.size t mv (news (dgT wd) next 0 t) B w5) _ (fun x B w5=>?_) ?_
 rotate_left
 ·refine qXj (fun j=>j == 12) (.one 0 (.one 1 (.one 3 (.one 4 (.one 5 (.one 6 (.one 2 (.one 7 (.two 8 (.row [9,10,11,12,13,14]) 12 (.row [8,9,10,11,13,14]))))))))))  rfl x9 x9 ?_
  have fd:No w4 w4.drew:=(Fr.refl _ _).drew;have A:=R.fr0 fd;have s4:w4.drew.heap.size=w4.heap.size:=rfl;generalize w4.drew=w5 at *;have l5:=qQm (P:=prog) (t:=141) agg141 sz141 A.tree;have rm:=hmr w5 A.no;have t3:=qQi A.tree;simp only[go_sem,j7,yX,yU,bSe,OT.row,l5,y1,and_self,iTn,j8,rm];constructor
  ·refine qQc pl56 ((step10 w1 w5 A.no (e5.no A.no) (e4.fr0 A.no) A.trm hTp k6 c0 a0.1 x8 a0.2 h2 x8 hL).mono ?_)
   rintro _ H ⟨f6,nv,L,rows,rfl,d2,a9,hN,hR,hS⟩;refine⟨(fun h=>by cases h),?_⟩;obtain⟨W7,f5,f7,k7,s7⟩:=qQl H tr0 141;have q7:wrO prog 141 W7 H.heap.size 0 (.agg #[vi t.page,mv,L])=some (put W7 H.heap.size (.cells #[vi t.page,mv,L] 141 (0,0))):=qQo sz141 k7 rfl (by rw[<- kJ];show (true && (one mv && (one L && true)))=true;rw[f0,a9];rfl);have e7:=f7.ext;have g0:No H (put W7 H.heap.size (.cells #[vi t.page,mv,L] 141 (0,0))):=f7.put (b:=H.heap.size) _ fun h=>by omega
   have s6:=f6.size;have s5:=A.no.size;simp only[go_sem,j7,yX,yU,bSe,f5,q7,e7,implies_true,true_and];exact⟨rfl,rfl,rfl,rfl,rfl,rfl,rfl,rfl,rfl,rfl,(fd.trans f6).trans g0,H.heap.size,nv,L,rows,rfl,rfl,x8,x8,qQd k7,d2,a9,(hN.fr0 g0).back s5,hR,(hS.fr0 g0).back s5⟩
  ·obtain⟨W7,f5,f7,k7,s7⟩:=qQl w5 tr0 141
   have e7:=f7.ext;simp only[go_sem,f5];have c3:=A.fr0 f7;refine qQc pl56 ((step10 w1 W7 c3.no (e5.no c3.no) (e4.fr0 c3.no) c3.trm hTp k6 c0 a0.1 x8 a0.2 h2 x8 hL).mono ?_);rintro _ H ⟨f6,nv,L,rows,rfl,d2,a9,hN,hR,hS⟩;refine⟨(fun h=>by cases h),?_⟩;have g1:=f6.at k7 id;have q7:wrO prog 141 H w5.heap.size 0 (.agg #[vi t.page,mv,L])=some (put H w5.heap.size (.cells #[vi t.page,mv,L] 141 (0,0))):=qQo sz141 g1 rfl (by rw[<- kJ];show (true && (one mv && (one L && true)))=true;rw[f0,a9];rfl);have n5:No w5 (put H w5.heap.size (.cells #[vi t.page,mv,L] 141 (0,0))):=(f7.trans f6).put (b:=w5.heap.size) _ fun h=>by omega
   have U:Fr (TF (·=141) w1 H) H (put H w5.heap.size (.cells #[vi t.page,mv,L] 141 (0,0))):=TF.put (S:=fun x=>x=141) (Fr.refl _ _) g1 (by have:=A.no.size;omega) rfl _;have s5:=A.no.size;have k8:=c3.no.size;simp only[go_sem,j7,yX,q7];exact⟨rfl,rfl,rfl,rfl,rfl,rfl,rfl,rfl,rfl,rfl,fd.trans n5,w5.heap.size,nv,L,rows,rfl,rfl,x8,x8,qQd g1,d2,a9,(TF.nwr U hN j0).back k8,hR,(TF.nwr U hS j0).back k8⟩
 rintro⟨rfl,e0,e1,e2,e8,e9,V,W,a6,J,a7,k9,t2,nv,L,rows,l0,l1,n6,hne,l2,d2,a9,hN,hR,hS⟩;rw[thenQ_normal];have l3:p=next+(news (dgT wd) next 0 t).length:=hp;have t4:(news (dgT wd) next 0 t).length<=2 ^ 21:=x8
 generalize news (dgT wd) next 0 t=ns at *;have n7:=hR.1;obtain⟨na,nc,rfl,_⟩:=hN.rd.slice;have A:=R.fr0 k9;have l4:=A.no;have t5:next<=2 ^ 35:=x8
 have r3:O.length<=2 ^ 44:=x8
 have g2:∀ j,j<=ns.length->(O++qZb next ((ns.take j).map Pg.nd)).length<=256*(next+j):=fun j hj=>by
  rw[lAp,bytesP_len _ _ (fun g hg=>by
   obtain⟨n,hn,rfl⟩:=List.mem_map.1 hg;obtain⟨q,hq,rfl⟩:=List.mem_iff_getElem.1 (List.mem_of_mem_take hn);obtain⟨_,_,_,_,_,hw⟩:=hR.2 q x8 hq;have:=wide_load hw;show (lodN _).length<=246
   omega),zE,lTk,Nat.min_eq_left hj]
  omega
 simp only[go_sem];refine loopD [0,1,2,8,9,10,11,12,13,14,15,16,17] (imJ' w1 w5 wd first i next (.slice (some ⟨mb,mo,.none⟩) ms.length mc) esv rsv av w1.heap.size t2 (.slice na rows.length nc) ns O) ns.length ⟨0,out,?_,jJ _,rfl,by rw[List.take_zero];show NwB w1 w5 out (O++[]);rw[z4];exact A.out,Fr.refl _ _⟩ ?_
 ·simp only[go_sem,j7,e0,e1,e2,e8,e9,V,W,a6,J,a7,l0,l1]
  rfl
 clear e0 e1 e2 e8 e9 V W a6 J a7 l0 l1;rintro _ vs H g ⟨j,out,rfl,hj,rfl,c4,F6⟩;have g3:=TF.no l4 F6;have dj:=natlt j rows.length
 by_cases c5:j<ns.length
 ·rw[decide_eq_true (show j<rows.length by omega)]at dj
  obtain⟨vv,hrow,l6,l7,l8,g4⟩:=hR.2 j x8 c5;have t6:=g2 j hj;have n8:=bytesP_take (next:=next) c5;have t7:=wide_load g4;have m0:=TF.nwr F6 hN j0;obtain⟨nb,no,t8,m1,_⟩:=m0.rd.pos j0 x8;cases m1;have a1:IntKind.i64.wrap ((next:Int)+(j:Int))=((next+j:Nat):Int):=qXa;have a2:=iSu (i:=j);have yj:=iBd (i:=j) (n:=rows.length);generalize ns[j]=n at *;simp only[go_sem,j7,dj];refine qXj (fun j=>false) (.one 0 (.one 1 (.one 2 (.one 3 (.one 4 (.one 6 (.one 7 (.one 8 (.one 9 (.one 10 (.one 11 (.one 12 (.two 5 (.row [13,14,15,16]) 13 (.row [5,14,15,16])))))))))))))) rfl x9 x9 ?_;have fd:No H H.drew:=(Fr.refl _ _).drew;have d3:=m0.fr0 fd;generalize H.drew=M at *;have E:=g3.trans fd;have n9:rdO prog 78 M nb (no+j*102)=some (.agg (ndA n vv).toArray):=by rw[<- hrow];exact d3.rd.get (P:=prog) (t:=78) agg78 sz78 j0 (i:=j) x8
  have rk:=fun {y:World} (h:NwR w1 y 78 102 (.slice (some ⟨nb,no,.none⟩) rows.length nc) rows)=>h.rd.fld (P:=prog) (t:=3) agg3 (i:=j) x8 (j:=0) j0 (x:=.int .i64 (n.kind:Nat)) (by rw[hrow];cases n <;> rfl);simp only[yK]at rk;have p0:=rk d3
  have step:∀ (y:World) (pv:Value),No M y->By y pv ((Pg.nd n).bytes (next+j))->∃ v' w',(Builtin.append_ #[22,22] 0 #[out,pv]).run prog y=.ok v' w'/\NwB w1 w' v' (O++qZb next ((ns.take (j+1)).map Pg.nd))/\Fr (TF (·=5) w1 w5) w5 w':=fun y pv g5 hb=>by
   have b0:=(c4.fr0 fd).fr0 g5
   obtain⟨v',w',hr,p1,_,gb,_⟩:=NwB.catB (P:=prog) app22_22 b0 hb (by
    have:((Pg.nd n).bytes (next+j)).length=256:=qJa (by show (lodN n).length<=246;omega)
    omega) (E.trans g5)
   refine⟨v',w',hr,by rw[n8,<- zU];exact p1,TF.trans (TF.trans F6 (TF.of _ w1 (fd.trans g5))) (gb.mono fun x _ e=>?_)⟩;obtain⟨c,hc⟩:=nwb_row b0 e;exact⟨(NwB.lt b0 e).1,c,_,_,hc,rfl⟩
  simp only[go_sem,j7,yK,OT.row,yj,and_self,iTn,n9,p0,a1];constructor
  ·refine qQc pl58 ((load9 M g4 l6 (l7.fr0 E) l8).mono ?_);rintro v8 Y ⟨b8,f8⟩
   refine⟨(fun h=>by cases h),?_⟩;have m2:=rk (d3.fr0 f8);simp only[go_sem,j7];refine qQc pl57 ((page5 Y (e6.no (E.trans f8)) n.kind (next+j) (NwB.by b8) x8 x8).mono ?_);rintro v9 N ⟨b9,f9⟩;refine⟨(fun h=>by cases h),?_⟩;obtain⟨va,wa,g6,ba,Fa⟩:=step N v9 (f8.trans f9) (NwB.by b9);simp only[go_sem,j7];refine qXf ⟨va,wa,g6,?_⟩;refine⟨(fun h=>by cases h),?_⟩;simp only[go_sem,j7,a2];exact⟨ns.length - (j+1),x8,j+1,va,rfl,x8,rfl,ba,Fa⟩
  ·refine qQc pl58 ((load9 M g4 l6 (l7.fr0 E) l8).mono ?_);rintro v8 Y ⟨b8,f8⟩
   refine⟨(fun h=>by cases h),?_⟩;have m2:=rk (d3.fr0 f8);simp only[go_sem,j7,m2,implies_true,true_and];refine qQc pl57 ((page5 Y (e6.no (E.trans f8)) n.kind (next+j) (NwB.by b8) x8 x8).mono ?_);rintro v9 N ⟨b9,f9⟩;refine⟨(fun h=>by cases h),?_⟩;obtain⟨va,wa,g6,ba,Fa⟩:=step N v9 (f8.trans f9) (NwB.by b9);simp only[go_sem,j7];refine qXf ⟨va,wa,g6,?_⟩;refine⟨(fun h=>by cases h),?_⟩;simp only[go_sem,j7,a2];exact⟨ns.length - (j+1),x8,j+1,va,rfl,x8,rfl,ba,Fa⟩
 rw[decide_eq_false (show ¬ j<rows.length by omega)]at dj;obtain rfl:j=ns.length:=x8
 have p2:=g2 ns.length hj;rw[List.take_length]at c4 p2;clear g2;generalize p3:O++qZb next (ns.map Pg.nd)=O' at *;have d5:=TF.at F6 l2 j0;have b4:=TF.at F6 A.tree j0;have m3:=qQm (P:=prog) (t:=141) agg141 sz141 d5;have q6:wrO prog 141 H w1.heap.size 0 (.agg #[vi t.page,mv,L])=some (put H w1.heap.size (.cells #[vi t.page,mv,L] 141 (0,0))):=qQo sz141 b4 rfl (by rw[<- kJ];show (true && (one mv && (one L && true)))=true;rw[f0,a9];rfl);have k7:=qQd (o:=.cells #[vi t.page,mv,L] 141 (0,0)) b4;have U:Fr (TF (fun x=>x=141) w1 H) H (put H w1.heap.size (.cells #[vi t.page,mv,L] 141 (0,0))):=TF.put (S:=fun x=>x=141) (Fr.refl _ _) b4 (xC _) rfl _;have a3:IntKind.i64.wrap ((next:Int)+((rows.length:Nat):Int))=((p:Nat):Int):=by rw[l3,n7];exact qXa
 simp only[go_sem,j7,dj,m3,q6,a3];have E:=TF.no g3 U;have g7:=TF.nwb U c4 j0;have d6:=TF.nwr U (TF.nwr F6 A.rcs j0) j0;have d7:=TF.nwr U (TF.nwr F6 A.pgn j0) j0;have p4:=TF.nwr U (TF.nwr F6 hS j0) j0;generalize put H w1.heap.size (.cells #[vi t.page,mv,L] 141 (0,0))=M at *;clear q6 m3 d5 b4 U F6 l2 hN hR hS k9 A l4 g3 hne n6;have c6:(dgT wd 256 t).length=32:=qJd _ _ _;have g8:=fun {y:World} (f:No w1 y)=>rootWith10 (wd:=wd) (esv:=esv) t (e5.no f) (e4.fr0 f) (mv:=mv) (by rw[a8];exact c0.fr0 f) f4 (by rw[a8];exact a0.1) (fun e h=>by rw[a8]at h;have:=a0.2 e h;omega) (by rw[a8];omega);have m4:=fol_rec (wd:=wd) (first:=first) (t:=t) (c:=m.length) R.len R.ver;have c7:(recP wd first ats t m.length).sum.length=32:=qJd _ _ _;generalize dgT wd 256 t=D at g8 m4 c6;refine qXg (Q:=fun x B Y=>x=.normal/\B 0=vi wd/\B 1=vi first/\B 2=.slice (some ⟨mb,mo,.none⟩) ms.length mc/\B 8=esv/\B 9=out/\B 10=rsv/\B 11=av/\B 12=pt w1.heap.size 0/\B 13=vi p/\B 14=vi i/\No M Y/\∃ rb,B 18=pt rb 0/\M.heap.size<=rb/\Y.heap[rb]?=some (.cells (rcC ⟨first,first,0,0,t.page,m.length,D⟩).toArray 80 (0,0))) _ (fun x B Y=>?_) ?_
 rotate_left
 ·refine qXj (fun j=>j == 15 || j == 17) (.one 0 (.one 1 (.one 2 (.one 4 (.one 5 (.one 6 (.one 9 (.one 10 (.one 11 (.one 12 (.one 13 (.one 3 (.one 7 (.one 8 (.one 14 (.two 15 (.row [16,17,18]) 17 (.row [15,16,18])))))))))))))))))  rfl x9 x9 ?_
  have fd:No M M.drew:=(Fr.refl _ _).drew;have s8:M.drew.heap.size=M.heap.size:=rfl;generalize M.drew=Y at *;have g9:=E.trans fd;have r8:rdO prog 3 Y w1.heap.size 0=some (vi t.page):=rd1 agg3 (fd.at k7 id) rfl;have p5:=hmr Y g9;obtain⟨va,vc,p6,_⟩:=c0.slice;have bR:=bldR5 (v:=first) (f:=first) (ro:=t.page) (c:=m.length) c6;have b6:(rcC ⟨first,first,0,0,t.page,m.length,D⟩).length=38:=qXc c6;have hz:=rcZero;subst p6;simp only[go_sem,j7,yX,yU,bSe,jV,qQk,OT.row,y1,and_self,iTn,j8,r8,p5,hz];constructor
  ·refine qQc pl59 ((g8 g9).mono ?_);rintro _ N ⟨rfl,f9⟩
   refine⟨fun _=>Fr.ext f9,?_⟩;obtain⟨Wa,h0,fa,ka,sa⟩:=qQl N (rcC rc00).toArray 80;have qa:wrO prog 80 Wa N.heap.size 0 (.agg (rcC ⟨first,first,0,0,t.page,m.length,D⟩).toArray)=some (put Wa N.heap.size (.cells (rcC ⟨first,first,0,0,t.page,m.length,D⟩).toArray 80 (0,0))):=qQo (by simp[b6];exact sz80) ka (by simp[b6,qXc (r:=rc00) z32l]) (by simpa using rcC_one _);have ea:=fa.ext;have fb:No N (put Wa N.heap.size (.cells (rcC ⟨first,first,0,0,t.page,m.length,D⟩).toArray 80 (0,0))):=fa.put (b:=N.heap.size) _ fun h=>by omega
   have s9:=f9.size;simp only[go_sem,j7,yX,yU,bSe,qQk,bR,hz,h0,qa,ea,implies_true,true_and];exact⟨(fd.trans f9).trans fb,N.heap.size,rfl,x8,qQd ka⟩
  ·obtain⟨Wa,h0,fa,ka,sa⟩:=qQl Y (rcC rc00).toArray 80
   have ea:=fa.ext;simp only[go_sem,h0];refine qQc pl59 ((g8 (g9.trans fa)).mono ?_);rintro _ N ⟨rfl,f9⟩;refine⟨fun _=>Fr.ext f9,?_⟩;have m5:=f9.at ka id;have qa:wrO prog 80 N Y.heap.size 0 (.agg (rcC ⟨first,first,0,0,t.page,m.length,D⟩).toArray)=some (put N Y.heap.size (.cells (rcC ⟨first,first,0,0,t.page,m.length,D⟩).toArray 80 (0,0))):=qQo (by simp[b6];exact sz80) m5 (by simp[b6,qXc (r:=rc00) z32l]) (by simpa using rcC_one _);have fb:No Y (put N Y.heap.size (.cells (rcC ⟨first,first,0,0,t.page,m.length,D⟩).toArray 80 (0,0))):=(fa.trans f9).put (b:=Y.heap.size) _ fun h=>by omega
   simp only[go_sem,j7,yX,bR,qa];exact⟨fd.trans fb,Y.heap.size,rfl,x8,qQd m5⟩
 rintro⟨rfl,e0,e1,e2,e8,e9,V,W,a6,J,a7,h4,rb,b1,t9,b3⟩;rw[thenQ_normal];have b6:∀ v,(rcC ⟨v,first,0,0,t.page,m.length,D⟩).length=38:=fun v=>qXc c6;refine qZf (fun B N=>B 0=vi wd/\B 1=vi first/\B 2=.slice (some ⟨mb,mo,.none⟩) ms.length mc/\B 8=esv/\B 9=out/\B 10=rsv/\B 11=av/\B 12=pt w1.heap.size 0/\B 13=vi p/\B 14=vi i/\No M N/\B 18=pt rb 0/\N.heap[rb]?=some (.cells (rcC ⟨if first=0 then 1 else first,first,0,0,t.page,m.length,D⟩).toArray 80 (0,0))) ?_ ?_
 ·have dz:=nateq first 0
  by_cases hz:first=0
  ·have dz:((first:Int) == 0)=true:=dz.trans (decide_eq_true hz)
   have q8:wrO prog 3 Y rb 0 (.int .i64 1)=some (put Y rb (.cells (rcC ⟨if first=0 then 1 else first,first,0,0,t.page,m.length,D⟩).toArray 80 (0,0))):=by
    rw[wr1 sz3 rfl b3 (by simp[b6]),if_pos hz];rfl
   simp only[go_sem,j7,jV,e1,dz,b1,q8,e0,e2,e8,e9,V,W,a6,J,a7,true_and];exact⟨h4.put (b:=rb) _ fun h=>by omega,qQd b3⟩
  ·have dz:((first:Int) == 0)=false:=dz.trans (decide_eq_false hz)
   simp only[go_sem,j7,e1,dz,b1,e0,e2,e8,e9,V,W,a6,J,a7,true_and];exact⟨h4,by rw[if_neg hz];exact b3⟩
 clear e0 e1 e2 e8 e9 V W a6 J a7 b1 b3 h4;rintro B N ⟨e0,e1,e2,e8,e9,V,W,a6,J,a7,h5,b1,b3⟩;generalize p7:(⟨if first=0 then 1 else first,first,0,0,t.page,m.length,D⟩:Rc)=r0 at *;have d8:r0.sum.length=32:=by rw[<- p7];exact c6
 have m6:(rcC r0).toArray.size=38:=by rw[kG];exact qXc d8
 generalize m7:recP (wd:Int) first ats t m.length=I at *;have c8:(rcC I).toArray.size=38:=by rw[kG];exact qXc c7
 have l9:=qQm (P:=prog) (t:=80) agg80 sz80 b3 m6;have d9:=follow15 N (rv:=rsv) (av:=av) (rs:=rs) (ats:=ats) (d6.fr0 h5).rd (d7.fr0 h5).rd R.len x8 R.hrs d8;rw[m4]at d9
 have d4:I.ver=verN first (i+1)/\I.first=first:=by
  rw[<- m7];unfold recP verN;rw[<- R.len,b5];exact⟨rfl,rfl⟩
 have u0:verN first (i+1)<2 ^ 40:=by unfold verN;split <;> omega
 have m8:I.ver<2 ^ 62/\I.first<2 ^ 62/\I.prev<2 ^ 62/\I.skip<2 ^ 62/\I.root<2 ^ 62/\I.count<2 ^ 62:=by
  have hpg:t.page<2 ^ 40:=page_lt j0 fun q hq=>by
   rcases P2 q hq with h | h
   ·have:=hTp q h;omega
   ·omega
  have e3:=R.atb;have c1:=chAt_lt (a:=ats) (i:=ats.length) (b:=2 ^ 40) x8 e3;have c2:=chAt_lt (a:=ats) (i:=far (ats.length+1)) (b:=2 ^ 40) x8 e3
  refine⟨by rw[d4.1];omega,by rw[d4.2];omega,?_,?_,?_,?_⟩ <;> rw[<- m7] <;> unfold recP <;> dsimp only <;> omega
 simp only[go_sem,j7,V,W,b1,l9];refine qQa pl60 (d9.mono ?_);rintro _ wa ⟨rfl,fa⟩;have ka:=fa.at b3 id;have qa:wrO prog 80 wa rb 0 (.agg (rcC I).toArray)=some (put wa rb (.cells (rcC I).toArray 80 (0,0))):=qQo (by rw[c8];exact sz80) ka (by rw[m6,c8]) (by rw[<- kJ];exact rcC_one _);have kb:=qQd (o:=.cells (rcC I).toArray 80 (0,0)) ka;have m9:No M (put wa rb (.cells (rcC I).toArray 80 (0,0))):=(h5.trans fa).put (b:=rb) _ fun h=>by omega
 simp only[go_sem,j7,b1,qa];generalize put wa rb (.cells (rcC I).toArray 80 (0,0))=wb at *;have lb:=qQm (P:=prog) (t:=80) agg80 sz80 kb c8;simp only[go_sem,e9,J,lb];refine qQa pl61 ((load15 wb c7 m8).mono ?_);rintro vc wc ⟨bc,fc⟩;simp only[go_sem,j7];have p8:=(E.trans m9).trans fc;have u1:(lodR I).length=56:=lodR_len c7;refine qQa pl57 ((page5 wc (e6.no p8) 3 p (NwB.by bc) x8 x8).mono ?_);rintro vd u2 ⟨bd,fd⟩;simp only[go_sem,j7];have h6:=(m9.trans fc).trans fd;have Z:=g7.fr0 h6;obtain⟨ve,we,p9,be,_,ge,_⟩:=NwB.catB (P:=prog) app22_22 Z (NwB.by bd) (by rw[qJa x8];omega) (E.trans h6)
 have Fe:Fr (TF (fun x=>x=5) w1 M) M we:=TF.trans (TF.of _ w1 h6) (ge.mono fun x _ e=>by
  obtain⟨c,hc⟩:=nwb_row Z e
  exact⟨(NwB.lt Z e).1,c,_,_,hc,rfl⟩)
 refine qQj ⟨ve,we,p9,?_⟩;have q0:=TF.no E Fe
 have ke:=ge.at (fd.at (fc.at kb id) id) fun h=>by
  obtain⟨c,hc⟩:=nwb_row Z h;rw[fd.at (fc.at kb id) id]at hc;cases hc
 have le:=qQm (P:=prog) (t:=80) agg80 sz80 ke c8;have c9:=TF.nwr Fe d6 j0;have u3:(qKc rs).length=i:=by rw[<- b5];exact zE _
 obtain⟨vf,wf,q1,bf,gf,mf⟩:=c9.push (P:=prog) app89_89 (xs:=rcC I) (qXc c7) (rcC_one _) j0 x8 x8 q0.size;have Ff:Fr (TF (fun x=>x=5∨x=80) w1 M) M wf:=TF.trans (Fe.mono fun x _ ⟨h1,c,ty,fz,h2,h3⟩=>⟨h1,c,ty,fz,h2,.inl h3⟩) (TF.blk (xC _) c9 gf (.inr rfl));simp only[go_sem,j7,yU,jV,qQk,V,b1,le];refine qQn (v:=.slice (some ⟨we.heap.size,0,none⟩) 1 1) (w':=we.alloc (.cells (rcC I).toArray 80)) (qQx (K:=38) j0 j0 (y:=rcC rc00) (qXc z32l) (by simp[]) c8 _) ?_;simp only[go_sem,j7];refine qQj ⟨vf,wf,q1,?_⟩;have q3:=TF.no E Ff;have d0:=TF.nwr Ff d7 j0;obtain⟨vg,wg,q4,bg,gg,mg⟩:=d0.push (P:=prog) app45_45 (xs:=[vi p]) rfl rfl j0 (by rw[qZq,<- R.len,b5];omega) (by rw[qZq,<- R.len,b5];omega) q3.size;have Fg:Fr (TF (fun x=>(x=5∨x=80)∨x=3) w1 M) M wg:=TF.trans (Ff.mono fun x _ ⟨h1,c,ty,fz,h2,h3⟩=>⟨h1,c,ty,fz,h2,.inl h3⟩) (TF.blk (xC _) d0 gg (.inr rfl));simp only[go_sem,j7,yU,jV,W,J];refine qQn (v:=.slice (some ⟨wf.heap.size,0,none⟩) 1 1) (w':=wf.alloc (.cells #[vi p] 3)) (qQx (K:=1) j0 j0 (y:=[.int .i64 0]) rfl rfl rfl _) ?_;simp only[go_sem,j7];refine qQj ⟨vg,wg,q4,?_⟩;have a4:=iSu (i:=p);have a5:=iSu (i:=i);have n0:Fr (TF (fun x=>x=3) w1 wf) wf wg:=TF.blk (xC _) d0 gg rfl;have q5:Fr (TF (fun x=>x=80) w1 we) we wf:=TF.blk (xC _) c9 gf rfl;have q9:(Pg.rc I).bytes p=pagB 3 p (lodR I):=rfl;have r2:(pagB 3 p (lodR I)).length=256:=qJa x8;simp only[go_sem,j7,J,a7,a4,a5];refine⟨ms.length - (i+1),x8,i+1,p+1,t,mv,L,vf,vg,ve,O'++(Pg.rc I).bytes p,rs++[I],ats++[p],?_,x8,rfl,⟨TF.no E Fg,xC _,TF.nwb n0 (TF.nwb q5 be j0) j0,?_,?_,TF.at Fg k7 j0,f4,by rw[a8];exact a0.1,k5,by rw[a8];exact c0,TF.nwr Fg p4 j0,?_,?_,?_,?_⟩,by simp[b5],x8,x8,?_,?_,?_,?_⟩
 ·simp only[go_sem,e0,e1,e2,e8,a6]
 ·have:qKc (rs++[I])=qKc rs++[rcC I]:=by simp[qKc]
  rw[this];exact TF.nwr n0 bf j0
 ·have:inR (ats++[p])=inR ats++[[vi p]]:=by simp[inR]
  rw[this];exact bg
 ·simp[R.len]
 ·intro r hr
  rcases List.mem_append.1 hr with h | h
  ·exact R.hrs r h
  ·rw[List.mem_singleton.1 h]
   exact⟨c7,by rw[d4.1];omega⟩
 ·intro j hj
  rw[lAp]at hj
  by_cases c5:j<rs.length
  ·rw[gDq,List.getElem?_append_left c5,<- gDq]
   exact R.ver j c5
  ·have u4:j<rs.length+1:=hj
   obtain rfl:j=rs.length:=x8
   rw[gDq,jR (xC _),kO,b5];exact d4
 ·intro q hq
  rcases List.mem_append.1 hq with h | h
  ·exact R.atb q h
  ·rw[List.mem_singleton.1 h];omega
 ·intro q hq
  rcases P2 q hq with h | h
  ·have:=hTp q h;omega
  ·omega
 ·rw[lAp,q9,r2];omega
 ·rw[bytesP_app,zE,<- l3]at hB
  rw[<- hB,<- p3];simp only[qZb,zU]
 ·rw[lAp,zE,zC]at hLn
  omega
end R
end
section
namespace R
open Aud A
theorem right15 (M:World)(r:Rc)(hs:r.sum.length=32):Fn prog 90 #[.agg (rcC r).toArray] M fun v w'=>v=.bool (decide r.right)/\No M w':=by
 refine go90 sm ?_;obtain⟨W,hW,A,k1,s1⟩:=qQl M (rcC r).toArray 80;have r0:rdO prog 3 W M.heap.size 0=some (.int .i64 (r.ver:Nat)):=rd1 agg3 k1 rfl;have r1:rdO prog 3 W M.heap.size 1=some (.int .i64 (r.first:Nat)):=rd1 agg3 k1 rfl;have I:rdO prog 3 W M.heap.size 2=some (.int .i64 (r.prev:Nat)):=rd1 agg3 k1 rfl;have J:rdO prog 3 W M.heap.size 3=some (.int .i64 (r.skip:Nat)):=rd1 agg3 k1 rfl;have r4:rdO prog 3 W M.heap.size 4=some (.int .i64 (r.root:Nat)):=rd1 agg3 k1 rfl;have r5:rdO prog 3 W M.heap.size 5=some (.int .i64 (r.count:Nat)):=rd1 agg3 k1 rfl;have c0:=dFo ((r.first:Int)<0)
 by_cases h1:1073741824<r.first
 case pos =>
  have d1:=dTo ((r.first:Int) > 1073741824);have e:decide r.right=false:=decide_eq_false (fun h=>absurd h.1 x8);simp -implicitDefEqProofs only[go_sem,j7,yU,bSe,qXd,jV,Tryz.f90,yU,hW,r1,c0,d1,e];exact A
 have d1:=dFo ((r.first:Int) > 1073741824)
 by_cases h2:r.ver<1
 case pos =>
  have d2:=dTo ((r.ver:Int)<1);have e:decide r.right=false:=decide_eq_false (fun h=>absurd h.2.1 x8);simp -implicitDefEqProofs only[go_sem,j7,yU,bSe,qXd,jV,Tryz.f90,yU,hW,r0,r1,c0,d1,d2,e];exact A
 have d2:=dFo ((r.ver:Int)<1)
 by_cases h3:1073741824<r.ver
 case pos =>
  have d3:=dTo ((r.ver:Int) > 1073741824);have e:decide r.right=false:=decide_eq_false (fun h=>absurd h.2.2.1 x8);simp -implicitDefEqProofs only[go_sem,j7,yU,bSe,qXd,jV,Tryz.f90,yU,hW,r0,r1,c0,d1,d2,d3,e];exact A
 have d3:=dFo ((r.ver:Int) > 1073741824)
 by_cases h4:r.ver<r.first
 case pos =>
  have d4:=dTo ((r.ver:Int)<(r.first:Int));have e:decide r.right=false:=decide_eq_false (fun h=>absurd h.2.1 x8);simp -implicitDefEqProofs only[go_sem,j7,yU,bSe,jV,Tryz.f90,yU,hW,r0,r1,c0,d1,d2,d3,d4,e];exact A
 have d4:=dFo ((r.ver:Int)<(r.first:Int));have e5:((r.root:Int) == 0)=decide (r.root=0):=nateq r.root 0;have e6:((r.count:Int) != 0)=decide (r.count≠0):=natne r.count 0;have tail:held r.root r.count->(r.root≠0->isPg r.root)->(decide r.right=decide (if r.num=1 then r.prev=0/\r.skip=0 else isPg r.prev/\qXt r.num r.prev r.skip)):=fun a8 a9=>decide_eq_decide.2 ⟨fun h=>h.2.2.2.2.2,fun h=>⟨x8,x8,x8,a8,a9,h⟩⟩;have a4:r.ver<=2 ^ 40:=x8
 have a5:r.first<=r.ver:=x8
 have D:1<=r.num/\r.num<=2 ^ 40:=by unfold Rc.num;split <;> omega
 have L:((r.num:Int) == 1)=decide (r.num=1):=nateq r.num 1;have e8:((r.prev:Int) == 0)=decide (r.prev=0):=nateq r.prev 0;have e9:((r.skip:Int) == 0)=decide (r.skip=0):=nateq r.skip 0;have B:((far r.num:Int) == 0)=decide (far r.num=0):=nateq (far r.num) 0;have N:IntKind.i64.wrap ((r.num:Int) - 1)=((r.num - 1:Nat):Int):=qXv (b:=1) D.1 x8;have E:=nateq (far r.num) (r.num - 1);have a6:=nateq r.skip r.prev;have a7:=natlt r.skip r.prev
 by_cases R:r.root=0
 ·rw[decide_eq_true R]at e5
  by_cases g2:r.count=0
  case neg =>
   rw[decide_eq_true g2]at e6;have e:decide r.right=false:=decide_eq_false fun h=>h.2.2.2.1.elim (fun h=>g2 h.2) fun h=>h.1 R;simp -implicitDefEqProofs only[go_sem,j7,yU,bSe,jV,Tryz.f90,yU,hW,r0,r1,r4,r5,c0,d1,d2,d3,d4,e5,e6,e];exact A
  rw[decide_eq_false (not_not_intro g2)]at e6;rw[tail (.inl ⟨R,g2⟩) fun h=>absurd R h];simp -implicitDefEqProofs only[go_sem,j7,yU,bSe,jV,Tryz.f90,yU,hW,r0,r1,r4,r5,c0,d1,d2,d3,d4,e5,e6];refine qQa pl129 ((number15' _ r a5 a4).mono ?_);rintro _ W2 ⟨rfl,rfl⟩
  by_cases T:r.num=1
  ·rw[decide_eq_true T]at L
   rw[show decide (if r.num=1 then r.prev=0/\r.skip=0 else isPg r.prev/\qXt r.num r.prev r.skip)=decide (r.prev=0/\r.skip=0) from decide_eq_decide.2 (by rw[if_pos T])]
   by_cases U:r.prev=0
   ·rw[decide_eq_true U]at e8
    have e:decide (r.prev=0/\r.skip=0)=decide (r.skip=0):=decide_eq_decide.2 ⟨fun h=>h.2,fun h=>⟨U,h⟩⟩;simp -implicitDefEqProofs only[go_sem,j7,bSe,jV,L,I,e8,J,e9,e];exact A
   ·rw[decide_eq_false U]at e8
    have e:decide (r.prev=0/\r.skip=0)=false:=decide_eq_false fun h=>U h.1;simp -implicitDefEqProofs only[go_sem,j7,qQq,jV,L,I,e8,e];exact A
  rw[decide_eq_false T]at L;rw[show decide (if r.num=1 then r.prev=0/\r.skip=0 else isPg r.prev/\qXt r.num r.prev r.skip)=decide (isPg r.prev/\qXt r.num r.prev r.skip) from decide_eq_decide.2 (by rw[if_neg T])];simp -implicitDefEqProofs only[go_sem,j7,jV,L,I];refine qQa pl128 ((page15 _ r.prev).mono ?_);rintro _ W3 ⟨rfl,rfl⟩
  by_cases V:isPg r.prev
  case neg =>
   have e:decide (isPg r.prev/\qXt r.num r.prev r.skip)=false:=decide_eq_false fun h=>V h.1;rw[decide_eq_false V];simp -implicitDefEqProofs only[go_sem,xH,e];exact A
  have e:decide (isPg r.prev/\qXt r.num r.prev r.skip)=decide (qXt r.num r.prev r.skip):=decide_eq_decide.2 ⟨fun h=>h.2,fun h=>⟨V,h⟩⟩;rw[decide_eq_true V,e];clear e;simp -implicitDefEqProofs only[go_sem,j7,y8];refine qQa pl101 ((far15 _ D.1 D.2).mono ?_);rintro _ W4 ⟨rfl,rfl⟩
  by_cases H:far r.num=0
  ·rw[decide_eq_true H]at B
   have e:decide (qXt r.num r.prev r.skip)=decide (r.skip=0):=decide_eq_decide.2 (by unfold qXt;rw[if_pos H]);simp -implicitDefEqProofs only[go_sem,j7,jV,B,J,e9,e];exact A
  rw[decide_eq_false H]at B
  by_cases Y:far r.num=r.num - 1
  ·rw[decide_eq_true Y]at E
   have e:decide (qXt r.num r.prev r.skip)=decide (r.skip=r.prev):=decide_eq_decide.2 (by unfold qXt;rw[if_neg H,if_pos Y]);simp -implicitDefEqProofs only[go_sem,j7,jV,B,N,E,I,J,a6,e];exact A
  rw[decide_eq_false Y]at E;have e:decide (qXt r.num r.prev r.skip)=decide (isPg r.skip/\r.skip<r.prev):=decide_eq_decide.2 (by unfold qXt;rw[if_neg H,if_neg Y]);rw[e];clear e;simp -implicitDefEqProofs only[go_sem,j7,jV,B,N,E,J];refine qQa pl128 ((page15 _ r.skip).mono ?_);rintro _ W5 ⟨rfl,rfl⟩
  by_cases Z:isPg r.skip
  ·have e:decide (isPg r.skip/\r.skip<r.prev)=decide (r.skip<r.prev):=decide_eq_decide.2 ⟨fun h=>h.2,fun h=>⟨Z,h⟩⟩
   rw[decide_eq_true Z];simp -implicitDefEqProofs only[go_sem,j7,bSe,jV,I,J,a7,e];exact A
  ·have e:decide (isPg r.skip/\r.skip<r.prev)=false:=decide_eq_false fun h=>Z h.1
   rw[decide_eq_false Z];simp -implicitDefEqProofs only[go_sem,j7,qQq,e];exact A
 ·rw[decide_eq_false R]at e5
  simp -implicitDefEqProofs only[go_sem,j7,yU,bSe,jV,Tryz.f90,yU,hW,r0,r1,r4,c0,d1,d2,d3,d4,e5];refine qQa pl128 ((page15 W r.root).mono ?_);rintro _ W1 ⟨rfl,rfl⟩
  by_cases g3:isPg r.root
  case neg =>
   have e:decide r.right=false:=decide_eq_false fun h=>g3 (h.2.2.2.2.1 R);rw[decide_eq_false g3];simp -implicitDefEqProofs only[go_sem,j7,qXd,xH,e];exact A
  rw[decide_eq_true g3]
  by_cases g4:r.count<1
  ·have a0:decide ((r.count:Int)<1)=true:=decide_eq_true x8
   have e:decide r.right=false:=decide_eq_false fun h=>h.2.2.2.1.elim (fun h=>R h.1) fun h=>by omega
   simp -implicitDefEqProofs only[go_sem,j7,bSe,qXd,y8,jV,r5,a0,e];exact A
  have a0:decide ((r.count:Int)<1)=false:=decide_eq_false x8
  by_cases g5:4096<r.count
  ·have a3:decide ((r.count:Int) > 4096)=true:=decide_eq_true x8
   have e:decide r.right=false:=decide_eq_false fun h=>h.2.2.2.1.elim (fun h=>R h.1) fun h=>by omega
   simp -implicitDefEqProofs only[go_sem,j7,bSe,y8,jV,r5,a0,a3,e];exact A
  have a3:decide ((r.count:Int) > 4096)=false:=decide_eq_false x8;rw[tail (.inr ⟨R,x8,x8⟩) fun _=>g3];simp -implicitDefEqProofs only[go_sem,j7,bSe,y8,jV,r0,r1,r5,a0,a3];refine qQa pl129 ((number15' _ r a5 a4).mono ?_);rintro _ W2 ⟨rfl,rfl⟩
  by_cases T:r.num=1
  ·rw[decide_eq_true T]at L
   rw[show decide (if r.num=1 then r.prev=0/\r.skip=0 else isPg r.prev/\qXt r.num r.prev r.skip)=decide (r.prev=0/\r.skip=0) from decide_eq_decide.2 (by rw[if_pos T])]
   by_cases U:r.prev=0
   ·rw[decide_eq_true U]at e8
    have e:decide (r.prev=0/\r.skip=0)=decide (r.skip=0):=decide_eq_decide.2 ⟨fun h=>h.2,fun h=>⟨U,h⟩⟩;simp -implicitDefEqProofs only[go_sem,j7,bSe,jV,L,I,e8,J,e9,e];exact A
   ·rw[decide_eq_false U]at e8
    have e:decide (r.prev=0/\r.skip=0)=false:=decide_eq_false fun h=>U h.1;simp -implicitDefEqProofs only[go_sem,j7,qQq,jV,L,I,e8,e];exact A
  rw[decide_eq_false T]at L;rw[show decide (if r.num=1 then r.prev=0/\r.skip=0 else isPg r.prev/\qXt r.num r.prev r.skip)=decide (isPg r.prev/\qXt r.num r.prev r.skip) from decide_eq_decide.2 (by rw[if_neg T])];simp -implicitDefEqProofs only[go_sem,j7,jV,L,I];refine qQa pl128 ((page15 _ r.prev).mono ?_);rintro _ W3 ⟨rfl,rfl⟩
  by_cases V:isPg r.prev
  case neg =>
   have e:decide (isPg r.prev/\qXt r.num r.prev r.skip)=false:=decide_eq_false fun h=>V h.1;rw[decide_eq_false V];simp -implicitDefEqProofs only[go_sem,xH,e];exact A
  have e:decide (isPg r.prev/\qXt r.num r.prev r.skip)=decide (qXt r.num r.prev r.skip):=decide_eq_decide.2 ⟨fun h=>h.2,fun h=>⟨V,h⟩⟩;rw[decide_eq_true V,e];clear e;simp -implicitDefEqProofs only[go_sem,j7,y8];refine qQa pl101 ((far15 _ D.1 D.2).mono ?_);rintro _ W4 ⟨rfl,rfl⟩
  by_cases H:far r.num=0
  ·rw[decide_eq_true H]at B
   have e:decide (qXt r.num r.prev r.skip)=decide (r.skip=0):=decide_eq_decide.2 (by unfold qXt;rw[if_pos H]);simp -implicitDefEqProofs only[go_sem,j7,jV,B,J,e9,e];exact A
  rw[decide_eq_false H]at B
  by_cases Y:far r.num=r.num - 1
  ·rw[decide_eq_true Y]at E
   have e:decide (qXt r.num r.prev r.skip)=decide (r.skip=r.prev):=decide_eq_decide.2 (by unfold qXt;rw[if_neg H,if_pos Y]);simp -implicitDefEqProofs only[go_sem,j7,jV,B,N,E,I,J,a6,e];exact A
  rw[decide_eq_false Y]at E;have e:decide (qXt r.num r.prev r.skip)=decide (isPg r.skip/\r.skip<r.prev):=decide_eq_decide.2 (by unfold qXt;rw[if_neg H,if_neg Y]);rw[e];clear e;simp -implicitDefEqProofs only[go_sem,j7,jV,B,N,E,J];refine qQa pl128 ((page15 _ r.skip).mono ?_);rintro _ W5 ⟨rfl,rfl⟩
  by_cases Z:isPg r.skip
  ·have e:decide (isPg r.skip/\r.skip<r.prev)=decide (r.skip<r.prev):=decide_eq_decide.2 ⟨fun h=>h.2,fun h=>⟨Z,h⟩⟩
   rw[decide_eq_true Z];simp -implicitDefEqProofs only[go_sem,j7,bSe,jV,I,J,a7,e];exact A
  ·have e:decide (isPg r.skip/\r.skip<r.prev)=false:=decide_eq_false fun h=>Z h.1
   rw[decide_eq_false Z];simp -implicitDefEqProofs only[go_sem,j7,qQq,e];exact A
end R
end
section
namespace R
open Aud A
theorem bldRc6 (a b c d e f:Nat):bldO prog 80 [(0,.int .i64 (a:Nat)),(1,.int .i64 (b:Nat)),(2,.int .i64 (c:Nat)),(3,.int .i64 (d:Nat)),(4,.int .i64 (e:Nat)),(5,.int .i64 (f:Nat))]=some (.agg (rcC ⟨a,b,c,d,e,f,z32⟩).toArray):=by
 rw[qJp zero80 places80 (c:=(rcC rc00).toArray) x9];have s:∀ (i:Nat) (a r:List Value) (u v:Value) (rest:List (Nat × Value)),([(0,1),(1,1),(2,1),(3,1),(4,1),(5,1),(6,32)]:List (Nat × Nat))[i]?=some (i,1)->a.length=i->one v=true->Instr.fill (fun i=>([(0,1),(1,1),(2,1),(3,1),(4,1),(5,1),(6,32)]:List (Nat × Nat))[i]?) (a++u::r).toArray ((i,v)::rest)=Instr.fill (fun i=>([(0,1),(1,1),(2,1),(3,1),(4,1),(5,1),(6,32)]:List (Nat × Nat))[i]?) (a++v::r).toArray rest:=fun i a r u v rest B D E=>qJb B D E;have H:=s 0 [] ([vU .i64 0,vU .i64 0,vU .i64 0,vU .i64 0,vU .i64 0]++z32.map u8) (.int .i64 0) (.int .i64 (a:Nat)) [(1,.int .i64 (b:Nat)),(2,.int .i64 (c:Nat)),(3,.int .i64 (d:Nat)),(4,.int .i64 (e:Nat)),(5,.int .i64 (f:Nat))] rfl rfl rfl;have I:=s 1 [vU .i64 (a:Nat)] ([vU .i64 0,vU .i64 0,vU .i64 0,vU .i64 0]++z32.map u8) (.int .i64 0) (.int .i64 (b:Nat)) [(2,.int .i64 (c:Nat)),(3,.int .i64 (d:Nat)),(4,.int .i64 (e:Nat)),(5,.int .i64 (f:Nat))] rfl rfl rfl;have J:=s 2 [vU .i64 (a:Nat),.int .i64 (b:Nat)] ([vU .i64 0,vU .i64 0,vU .i64 0]++z32.map u8) (.int .i64 0) (.int .i64 (c:Nat)) [(3,.int .i64 (d:Nat)),(4,.int .i64 (e:Nat)),(5,.int .i64 (f:Nat))] rfl rfl rfl;have L:=s 3 [vU .i64 (a:Nat),.int .i64 (b:Nat),.int .i64 (c:Nat)] ([vU .i64 0,vU .i64 0]++z32.map u8) (.int .i64 0) (.int .i64 (d:Nat)) [(4,.int .i64 (e:Nat)),(5,.int .i64 (f:Nat))] rfl rfl rfl;have M:=s 4 [vU .i64 (a:Nat),.int .i64 (b:Nat),.int .i64 (c:Nat),.int .i64 (d:Nat)] ([vU .i64 0]++z32.map u8) (.int .i64 0) (.int .i64 (e:Nat)) [(5,.int .i64 (f:Nat))] rfl rfl rfl;have A:=s 5 [vU .i64 (a:Nat),.int .i64 (b:Nat),.int .i64 (c:Nat),.int .i64 (d:Nat),.int .i64 (e:Nat)] ([]++z32.map u8) (.int .i64 0) (.int .i64 (f:Nat)) [] rfl rfl rfl
 rw[qXq]at A;exact congrArg (Option.map Value.agg) (((((H.trans I).trans J).trans L).trans M).trans A)
theorem rc_setS {a b c d e f:Nat}{s:Bs}(h:s.length=32)(hi:i<32)(x:Byte):(rcC ⟨a,b,c,d,e,f,s⟩).toArray.setIfInBounds (6+i) (u8 x)=(rcC ⟨a,b,c,d,e,f,s.set i x⟩).toArray:=by
 rw[jS];have A:∀ s:Bs,rcC ⟨a,b,c,d,e,f,s⟩=[vU .i64 (a:Nat),.int .i64 (b:Nat),.int .i64 (c:Nat),.int .i64 (d:Nat),.int .i64 (e:Nat),.int .i64 (f:Nat)]++s.map u8:=fun s=>rfl;rw[A,A,qKr (n:=6) _ _ _ _ rfl,kI]
theorem rcC_sz (r:Rc)(h:r.sum.length=32):(rcC r).toArray.size=38:=by rw[kG];simp[rcC,h]
theorem rcC_one (r:Rc):(rcC r).toArray.all one=true:=by
 rw[<- kJ];unfold rcC;rw[List.all_append,qXy,Bool.and_true]
 rfl
def d15I (D:World)(p:Value)(l:Bs)(A B:Nat)(m:Nat)(vs:List Value)(w:World):Prop :=
 ∃ i:Nat,vs=[p,pt A 0,pt B 0,.int .i64 (i:Nat)]/\i<=32/\m=32 - i/\w.heap[A]?=some (.cells (rcC rc00).toArray 80 (0,0))/\w.heap[B]?=some (.cells (rcC ⟨nat4 l 0,nat4 l 4,nat4 l 8,nat4 l 12,nat4 l 16,nat4 l 20,(l.drop 24).take i++zG (32 - i) 0⟩).toArray 80 (0,0))/\No D w
theorem decode15 (B:World){p:Value}{l:Bs}(J:By B p l)(hl:l.length<=2 ^ 40):Fn prog 50 #[p] B (RecQ B (decR l)):=by
 refine go50 sm ?_;obtain⟨va,vc,rfl,c8⟩:=J.slice;have nz:=rcZero;have A:=rcC_sz;have N:=rcC_one;obtain⟨W,hW,f1,k1,s1⟩:=qQl B (rcC rc00).toArray 80;have nl:((l.length:Int) != 56)=decide (l.length≠56):=natne l.length 56;have b0:=bldRc0;have c9:B.heap.size<W.heap.size:=x8
 have L:∀ (w:World) (r:Rc), No B w->w.heap[B.heap.size]?=some (.cells (rcC rc00).toArray 80 (0, 0))->r.sum.length=32 ->
   wrO prog 80 w B.heap.size 0 (.agg (rcC r).toArray)=some (put w B.heap.size (.cells (rcC r).toArray 80 (0,0)))/\rdO prog 80 (put w B.heap.size (.cells (rcC r).toArray 80 (0,0))) B.heap.size 0=some (.agg (rcC r).toArray)/\No B (put w B.heap.size (.cells (rcC r).toArray 80 (0,0))):=fun w r f k h =>
  ⟨qQo (by rw[A r h];exact sz80) k (by rw[A r h,A rc00 z32l]) (N r),qKs agg80 (by rw[A r h];exact sz80) (qQd (o:=.cells (rcC r).toArray 80 (0,0)) k),f.put (b:=B.heap.size) _ fun h=>absurd h (Nat.lt_irrefl _)⟩
 by_cases E:l.length=56
 case neg =>
  rw[decide_eq_true E]at nl;have R:decR l=none:=by unfold decR;rw[if_neg fun h=>E h.1]
  obtain⟨z1,z2,z3⟩:=L W rc00 f1 k1 z32l;rw[R];simp -implicitDefEqProofs only[go_sem,j7,yU,qQk,Tryz.f50,nz,hW,nl,b0,z1,z2];exact And.intro z3 rfl
 rw[decide_eq_false (not_not_intro E)]at nl;simp -implicitDefEqProofs only[go_sem,j7,yU,qQk,Tryz.f50,nz,hW,nl];refine qQa pl89 ((number15 W (J.fr0 f1) (i:=0) x8 x8).mono ?_);rintro _ a7 ⟨rfl,g0⟩;have T:=f1.trans g0;have a8:=g0.at k1 id;simp -implicitDefEqProofs only[go_sem,j7];refine qQa pl89 ((number15 a7 (J.fr0 T) (i:=4) x8 x8).mono ?_);rintro _ a9 ⟨rfl,g1⟩;have U:=T.trans g1;have b1:=g1.at a8 id;simp -implicitDefEqProofs only[go_sem,j7];refine qQa pl89 ((number15 a9 (J.fr0 U) (i:=8) x8 x8).mono ?_);rintro _ b3 ⟨rfl,g2⟩;have V:=U.trans g2;have b4:=g2.at b1 id;simp -implicitDefEqProofs only[go_sem,j7];refine qQa pl89 ((number15 b3 (J.fr0 V) (i:=12) x8 x8).mono ?_);rintro _ b5 ⟨rfl,g3⟩;have Y:=V.trans g3;have b6:=g3.at b4 id;simp -implicitDefEqProofs only[go_sem,j7];refine qQa pl89 ((number15 b5 (J.fr0 Y) (i:=16) x8 x8).mono ?_);rintro _ b7 ⟨rfl,g4⟩;have Z:=Y.trans g4;have b8:=g4.at b6 id;simp -implicitDefEqProofs only[go_sem,j7];refine qQa pl89 ((number15 b7 (J.fr0 Z) (i:=20) x8 x8).mono ?_);rintro _ D ⟨rfl,g5⟩;have b9:=Z.trans g5;have a0:=g5.at b8 id;have bs:=bldRc6 (nat4 l 0) (nat4 l 4) (nat4 l 8) (nat4 l 12) (nat4 l 16) (nat4 l 20);obtain⟨W2,c0,f2,k2,s2⟩:=qQl D (rcC rc00).toArray 80;have q2:wrO prog 80 W2 D.heap.size 0 (.agg (rcC ⟨nat4 l 0,nat4 l 4,nat4 l 8,nat4 l 12,nat4 l 16,nat4 l 20,z32⟩).toArray)=some (put W2 D.heap.size (.cells (rcC ⟨nat4 l 0,nat4 l 4,nat4 l 8,nat4 l 12,nat4 l 16,nat4 l 20,z32⟩).toArray 80 (0,0))):=qQo (by rw[A _ z32l];exact sz80) k2 (by rw[A _ z32l,A _ z32l]) (N _);have k3:=qQd (o:=.cells (rcC ⟨nat4 l 0,nat4 l 4,nat4 l 8,nat4 l 12,nat4 l 16,nat4 l 20,z32⟩).toArray 80 (0,0)) k2;have d0:=qQi a0
 have k4:=qQh (b:=D.heap.size) (o:=.cells (rcC ⟨nat4 l 0,nat4 l 4,nat4 l 8,nat4 l 12,nat4 l 16,nat4 l 20,z32⟩).toArray 80 (0,0)) (f2.at a0 id) x8;have f3:No B (put W2 D.heap.size (.cells (rcC ⟨nat4 l 0,nat4 l 4,nat4 l 8,nat4 l 12,nat4 l 16,nat4 l 20,z32⟩).toArray 80 (0,0))):=(b9.trans f2).put (b:=D.heap.size) _ fun h=>by omega
 simp -implicitDefEqProofs only[go_sem,j7,yU,qQk,bs,nz,c0,q2];generalize put W2 D.heap.size (.cells (rcC ⟨nat4 l 0,nat4 l 4,nat4 l 8,nat4 l 12,nat4 l 16,nat4 l 20,z32⟩).toArray 80 (0,0))=w3 at *;generalize D.heap.size=nb at *;refine loopD [0,2,4,5] (d15I B (.slice va l.length vc) l B.heap.size nb) 32 ⟨0,by simp -implicitDefEqProofs only[go_sem,j7];rfl,jJ _,rfl,k4,k3,f3⟩ ?_;rintro _ vs w4 g ⟨i,rfl,hi,rfl,kr,M,f4⟩;have H:=fillB_len (l.drop 24) (i:=i) x8 (by rw[lDr];omega)
 by_cases a3:i<32
 ·have d1:=dTo ((i:Int)<32)
  have c1:=iSu (i:=i);have c2:IntKind.i64.wrap (24+(i:Int))=((24+i:Nat):Int):=qXa (a:=24);have a4:=fillB (l.drop 24) a3 (by rw[lDr];omega);have g1:(l.drop 24).getD i 0=l.getD (24+i) 0:=by simp only[gDq,vL]
  rw[g1]at a4;obtain⟨bb,o,cap,c3,c4⟩:=by_rd (J.fr0 f4) (i:=24+i) x8;cases c3
  have c5:wrO prog 5 w4 nb (6+i) (u8 (l.getD (24+i) 0))=some (put w4 nb (.cells (rcC ⟨nat4 l 0,nat4 l 4,nat4 l 8,nat4 l 12,nat4 l 16,nat4 l 20,(l.drop 24).take (i+1)++zG (32 - (i+1)) 0⟩).toArray 80 (0,0))):=by
   rw[wr1 sz5 rfl M (by rw[A _ H];omega),rc_setS H a3,a4]
  have y1:(0:Int)<=((24+i:Nat):Int)/\((24+i:Nat):Int)<(l.length:Int):=x8
  have y2:(0:Int)<=((i:Nat):Int)/\((i:Nat):Int)<((32:Nat):Int):=x8
  simp -implicitDefEqProofs only[go_sem,j7,jV,d1,c2,y1.1,y1.2,and_self,if_true,iTn,j8,c4,arr75,y2.1,y2.2,c5,c1];exact⟨32 - (i+1),x8,i+1,rfl,x8,rfl,qQh kr x8,qQd M,f4.put (b:=nb) _ fun h=>by omega⟩
 ·have d1:=dFo ((i:Int)<32)
  have e:i=32:=x8
  subst e;rw[kO,kE,z4]at M H;have M:w4.heap[nb]?=some (.cells (rcC (rcR l)).toArray 80 (0,0)):=M;have I:(rcR l).sum.length=32:=H;have lw:=qQm (P:=prog) (t:=80) agg80 sz80 M (A _ I);simp -implicitDefEqProofs only[go_sem,j7,d1,lw];refine qQa pl90 ((right15 w4 (rcR l) I).mono ?_);rintro _ w5 ⟨rfl,f5⟩;have a5:=f4.trans f5;have a6:=f5.at kr id;have c6:=f5.at M id
  by_cases hr:(rcR l).right
  ·have R:decR l=some (rcR l):=by unfold decR;rw[if_pos ⟨E,hr⟩]
   rw[decide_eq_true hr,R];obtain⟨q1,q2,q3⟩:=L w5 (rcR l) a5 a6 I;have c7:=qQm (P:=prog) (t:=80) agg80 sz80 c6 (A _ I);simp -implicitDefEqProofs only[go_sem,j7,y8,c7,q1,q2];exact And.intro q3 rfl
  ·have R:decR l=none:=by unfold decR;rw[if_neg fun h=>hr h.2]
   rw[decide_eq_false hr,R];obtain⟨q1,q2,q3⟩:=L w5 rc00 a5 a6 z32l;simp -implicitDefEqProofs only[go_sem,j7,xH,b0,q1,q2];exact And.intro q3 rfl
end R
end
section
namespace A
open Aud
abbrev enP (o:Option Nat):Option Value:=o.map fun p=>.int .i64 (p:Nat)
def RowsIn (n:Nat)(row:Bs)(t:PT)(rows A:List (RK × Value)):Prop:=∀ key,findM A key=(enP (Aud.rowAt n row t key)).or (findM rows key)
def LvsIn (t:PT)(lvs A:List (Bs × Value)):Prop:=∀ k,findM A k=(enP (lfAt t k)).or (findM lvs k)
theorem RowsIn.nil (n:Nat)(row:Bs)(rows:List (RK × Value)):RowsIn n row .nil rows rows:=fun _=>rfl
theorem LvsIn.nil (lvs:List (Bs × Value)):LvsIn .nil lvs lvs:=fun _=>rfl
theorem RowsIn.leaf (n:Nat)(row:Bs)(p:Nat)(k v:Bs)(rows:List (RK × Value)):RowsIn n row (.leaf p k v) rows (insM rows (n,row) (.int .i64 (p:Nat))):=fun key=>by
 rw[qVw];unfold Aud.rowAt
 by_cases h:key=(n,row)
 ·rw[if_pos h,if_pos h.symm];rfl
 ·rw[if_neg h,if_neg fun e=>h e.symm];rfl
theorem LvsIn.leaf (p:Nat)(k v:Bs)(lvs:List (Bs × Value)):LvsIn (.leaf p k v) lvs (insM lvs k (.int .i64 (p:Nat))):=fun key=>by
 rw[qVw];unfold lfAt
 by_cases h:k=key
 ·rw[if_pos h,if_pos h];rfl
 ·rw[if_neg h,if_neg h];rfl
theorem LvsIn.br {l r:PT}{A B D:List (Bs × Value)}(E:LvsIn l A B)(H:LvsIn r B D):LvsIn (.br p l r) A D:=fun k=>by
 rw[H k,E k];show _=(enP ((lfAt r k).or (lfAt l k))).or _
 cases lfAt r k <;> cases lfAt l k <;> rfl
theorem row_off {row:Bs}(b:Bool){t:PT}(A:n<256)(B:Row n row)(D:t.Wf (n+1)):Aud.rowAt (n+1) (under n b row) t (n,row)=none:=by
 cases h:Aud.rowAt (n+1) (under n b row) t (n,row) with
 | none=>rfl
 | some p=>have:=(rowAt_in x8 D (B.under A b) h).1;omega
theorem RowsIn.br {row:Bs}{l r:PT}{A B D:List (RK × Value)}(E:n<256)(H:Row n row)(w1:l.Wf (n+1))(w2:r.Wf (n+1))(I:RowsIn (n+1) (under n false row) l (insM A (n,row) (.int .i64 (p:Nat))) B)(J:RowsIn (n+1) (under n true row) r B D):RowsIn n row (.br p l r) A D:=fun key=>by
 rw[J key,I key,qVw];show _=(enP (if key=(n,row) then some p else (Aud.rowAt (n+1) (under n true row) r key).or (Aud.rowAt (n+1) (under n false row) l key))).or _
 by_cases h:key=(n,row)
 ·subst h;rw[if_pos rfl,if_pos rfl,row_off true E H w2,row_off false E H w1];rfl
 ·rw[if_neg h,if_neg fun e=>h e.symm]
  cases Aud.rowAt (n+1) (under n true row) r key <;> cases Aud.rowAt (n+1) (under n false row) l key <;> rfl
theorem RowsIn.brL {row:Bs}{l r:PT}{A B D:List (RK × Value)}(I:n<256)(J:Row n row)(w1:l.Wf (n+1))(w2:r.Wf (n+1))(E:RowsIn (n+1) (under n false row) l A B)(H:RowsIn (n+1) (under n true row) r B D):RowsIn n row (.br p l r) A (insM D (n,row) (.int .i64 (p:Nat))):=fun key=>by
 rw[qVw,H key,E key];show _=(enP (if key=(n,row) then some p else (Aud.rowAt (n+1) (under n true row) r key).or (Aud.rowAt (n+1) (under n false row) l key))).or _
 by_cases h:key=(n,row)
 ·subst h;rw[if_pos rfl,if_pos rfl];rfl
 ·rw[if_neg h,if_neg fun e=>h e.symm]
  cases Aud.rowAt (n+1) (under n true row) r key <;> cases Aud.rowAt (n+1) (under n false row) l key <;> rfl
section
variable {c:Cx} {w w':World} {next:Nat} {rows:List (RK × Value)} {lvs:List (Bs × Value)}
theorem PassM.lt (h:PassM c w next rows lvs)(A:PaB c b):b<w.heap.size:=by
 obtain⟨H,I,B,_⟩:=h.sg;obtain⟨_,_,D,_⟩:=h.nowR;obtain⟨_,_,E,_⟩:=h.nowL
 rcases A with rfl | rfl | rfl | rfl
 ·exact qQi B.row
 ·exact qQi h.pass
 ·exact qQi D
 ·exact qQi E
theorem keep {dgf:Nat->PT->Bs}(hk:c.Ok):∀ {t:PT} {n:Nat} {row:Bs} {w:World} {rows:List (RK × Value)} {lvs:List (Bs × Value)}, PassM c w next rows lvs->Stands dgf (ndsP c.pg) n t->t.Wf n->t≠.nil->n<=256->Row n row ->
  Fn prog 162 #[pt c.pb 0,.int .i64 (t.page:Nat),.agg (rwC n row).toArray] w fun v w'=>v=.tuple #[]/\Fr (PaB c) w w'/\∃ A D,PassM c w' next A D/\RowsIn n row t rows A/\LvsIn t lvs D
 | .nil,_,_,_,_,_,_,_,_,N,_,_=>absurd rfl N
 | .leaf p k v,n,row,w,rows,lvs,h,a5,hw,_,b6,H=>by
  refine go162 sm ?_;obtain⟨W,hW,f1,k1,s1⟩:=qQl w (rwC n row).toArray 158;have hP:=h.fr0 f1;obtain⟨p0,p1,_⟩:=hP.rds;obtain⟨vv,lk,ov,nb,B,_,_⟩:=hP.ndS hk (p:=p) (n:=.leaf k v) a5;obtain⟨W2,a6,f2,k2,s2⟩:=qQl W nd0.toArray 78;have q3:wrO prog 78 W2 W.heap.size 0 (.agg (ndA (.leaf k v) vv).toArray)=some (put W2 W.heap.size (.cells (ndA (.leaf k v) vv).toArray 78 (0,0))):=qQo (by simp[qJm B];exact sz78) k2 (by simp[qJm B,qQu z32l z32l z32l]) (by simpa using ndA_one ov);have f3:=f2.put (b:=W.heap.size) (.cells (ndA (.leaf k v) vv).toArray 78 (0,0)) fun h=>by omega
  have R:=qQh (b:=W.heap.size) (o:=.cells (ndA (.leaf k v) vv).toArray 78 (0,0)) (f2.at k1 id) x8;have I:=qQd (o:=.cells (ndA (.leaf k v) vv).toArray 78 (0,0)) k2;have hpg:vU IntKind.i64 ((PT.leaf p k v).page:Nat)=.int .i64 (p:Nat):=rfl;rw[hpg];simp -implicitDefEqProofs only[go_sem,j7,yX,vS,yU,jV,qQk,Tryz.f162,hW,p0,p1,lk,qKk,a6,q3];have h3:=hP.fr0 f3;generalize put W2 W.heap.size (.cells (ndA (.leaf k v) vv).toArray 78 (0,0))=Y at *;obtain⟨_,_,p2,_,p4,_⟩:=h3.rds;obtain⟨_,_,t2⟩:=rdRw H.1 R;have h3:=h3.fr0 (Fr.refl _ _).drew;have f3:=(f1.trans f3).drew;have R:Y.drew.heap[w.heap.size]?=_:=R;have I:Y.drew.heap[W.heap.size]?=_:=I;have s3:W.heap.size<Y.drew.heap.size:=qQi I;obtain⟨ob,J,Z,f4⟩:=h3.putR hk (n:=n) (r:=row) H.1 p;have J:putE prog 158 Y.heap[c.nR]? (.agg (rwC n row).toArray) (.int .i64 (p:Nat))=some ob:=J;simp -implicitDefEqProofs only[go_sem,j7,jV,p2,p4,t2,map152,J];have lR:=h.lt (b:=c.nR) (.inr (.inr (.inl rfl)));have I:=f4.at I fun e=>by omega
  have f4:=f4.mono (G:=PaB c) fun _ _ e=>.inr (.inr (.inl e));generalize put Y.drew c.nR ob=W5 at *;obtain⟨d0,_,_,d3,_⟩:=rdLf B.1 I;obtain⟨_,_,p2,_,_,p5,_⟩:=Z.rds;have Z:=Z.fr0 (Fr.refl _ _).drew;obtain⟨b7,a0,h5,f5⟩:=Z.putL hk (k:=k) B.1 p;have a0:putE prog 76 W5.heap[c.nL]? (dg k) (.int .i64 (p:Nat))=some b7:=a0;have c1:((1:Int) == 1)=true:=rfl;simp -implicitDefEqProofs only[go_sem,j7,yX,bSe,jV,d0,p2,p5,d3,map153,a0];exact⟨((f3.mono fun _ _ h=>h.elim).trans f4).drew.trans (f5.mono fun _ _ e=>.inr (.inr (.inr e))),_,_,h5,RowsIn.leaf n row p k v rows,LvsIn.leaf p k v lvs⟩
 | .br p l r,n,row,w,rows,lvs,h,a5,hw,_,b6,H=>by
  refine go162 sm ?_;obtain⟨b8,_,_,b9,b1⟩:=a5;obtain⟨_,N,_,_,_,w1,w2⟩:=hw;obtain⟨W,hW,f1,k1,s1⟩:=qQl w (rwC n row).toArray 158;have hP:=h.fr0 f1;obtain⟨p0,p1,_⟩:=hP.rds;obtain⟨vv,lk,ov,nb,B,_,_⟩:=hP.ndS hk b8;generalize c4:l.ents.length=lc at *;generalize hrc:r.ents.length=rc at *;generalize c5:said dgf (255 - n) l=ls at *;generalize hrs:said dgf (255 - n) r=rs at *;obtain⟨W2,a6,f2,k2,s2⟩:=qQl W nd0.toArray 78;have q3:wrO prog 78 W2 W.heap.size 0 (.agg (ndA (.br l.page r.page lc rc ls rs) vv).toArray)=some (put W2 W.heap.size (.cells (ndA (.br l.page r.page lc rc ls rs) vv).toArray 78 (0,0))):=qQo (by simp[qJm B];exact sz78) k2 (by simp[qJm B,qQu z32l z32l z32l]) (by simpa using ndA_one ov);have f3:=f2.put (b:=W.heap.size) (.cells (ndA (.br l.page r.page lc rc ls rs) vv).toArray 78 (0,0)) fun h=>by omega
  have R:=qQh (b:=W.heap.size) (o:=.cells (ndA (.br l.page r.page lc rc ls rs) vv).toArray 78 (0,0)) (f2.at k1 id) x8;have I:=qQd (o:=.cells (ndA (.br l.page r.page lc rc ls rs) vv).toArray 78 (0,0)) k2;have hpg:vU IntKind.i64 ((PT.br p l r).page:Nat)=.int .i64 (p:Nat):=rfl;rw[hpg];simp -implicitDefEqProofs only[go_sem,j7,yX,vS,yU,jV,qQk,Tryz.f162,hW,p0,p1,lk,qKk,a6,q3];have h3:=hP.fr0 f3;generalize put W2 W.heap.size (.cells (ndA (.br l.page r.page lc rc ls rs) vv).toArray 78 (0,0))=Y at *;obtain⟨_,_,p2,_,p4,_⟩:=h3.rds;obtain⟨_,_,t2⟩:=rdRw H.1 R;have h3:=h3.fr0 (Fr.refl _ _).drew;have f3:=(f1.trans f3).drew;have R:Y.drew.heap[w.heap.size]?=_:=R;have I:Y.drew.heap[W.heap.size]?=_:=I;have s3:W.heap.size<Y.drew.heap.size:=qQi I;obtain⟨ob,J,Z,f4⟩:=h3.putR hk (n:=n) (r:=row) H.1 p;have J:putE prog 158 Y.heap[c.nR]? (.agg (rwC n row).toArray) (.int .i64 (p:Nat))=some ob:=J;simp -implicitDefEqProofs only[go_sem,j7,jV,p2,p4,t2,map152,J];have lR:=h.lt (b:=c.nR) (.inr (.inr (.inl rfl)));have I:=f4.at I fun e=>by omega
  have R:=f4.at R fun e=>by omega
  have f4:=f4.mono (G:=PaB c) fun _ _ e=>.inr (.inr (.inl e));generalize put Y.drew c.nR ob=W5 at *;obtain⟨d0,d1,d2,_⟩:=rdBr B.2.1 B.2.2 I;have a7:((2:Int) == 1)=false:=rfl;have fw:Fr (PaB c) w W5:=(f3.mono fun _ _ h=>h.elim).trans f4;have c6:w.heap.size<W.heap.size:=qQi k1;have lP:∀ {b:Nat},PaB c b->b<w.heap.size:=h.lt;have nl:((l.page:Int) != 0)=decide (l.page≠0):=natne l.page 0;have nr:((r.page:Int) != 0)=decide (r.page≠0):=natne r.page 0;have c7:∀ b,(Aud.under n b row).length=32:=fun b=>(H.under N b).1
  have K:∀ {w' A D},Fr (PaB c) w w'->PassM c w' next A D->RowsIn n row (.br p l r) rows A->LvsIn (.br p l r) lvs D->Fr (PaB c) w w'/\∃ A D,PassM c w' next A D/\RowsIn n row (.br p l r) rows A/\LvsIn (.br p l r) lvs D:=fun a b c d=>⟨a,_,_,b,c,d⟩
  by_cases zl:l.page=0
  ·obtain rfl:l=.nil:=l.page_nil w1 zl
   rw[decide_eq_false fun e=>e rfl]at nl
   by_cases zr:r.page=0
   ·obtain rfl:r=.nil:=r.page_nil w2 zr
    rw[decide_eq_false fun e=>e rfl]at nr;simp -implicitDefEqProofs only[go_sem,j7,jV,d0,a7,d1,nl,d2];exact K fw Z (RowsIn.br N H w1 w2 (.nil _ _ _) (.nil _ _ _)) (LvsIn.br (.nil _) (.nil _))
   ·rw[decide_eq_true zr]at nr
    simp -implicitDefEqProofs only[go_sem,j7,jV,d0,a7,d1,nl,d2,nr];refine qXj (fun j=>j == 4) (.row [0,1,2,3,4,5]) rfl x9 x9 ?_;have T:=Z.fr0 (Fr.refl _ _).drew;have E:=fw.drew;have L:W5.drew.heap[w.heap.size]?=_:=R;have M:W5.drew.heap[W.heap.size]?=_:=I;generalize W5.drew=W6 at *;obtain⟨_,a4,a3,_⟩:=rdBr B.2.1 B.2.2 M;obtain⟨_,_,U⟩:=rdRw H.1 L;simp -implicitDefEqProofs only[go_sem,j7,yX,jV,OT.row,a3,U];refine qQc pl185 ((rowUnder W6 n N H.1 1 j0).mono ?_);rintro _ w7 ⟨rfl,V⟩;refine⟨fun _=>V.ext,?_⟩;have e7:Aud.under n (1 == 1) row=Aud.under n true row:=rfl;rw[e7];simp -implicitDefEqProofs only[go_sem,j7];refine qQc pl162 ((keep hk (t:=r) (n:=n+1) (T.fr0 V) b1 w2 (fun e=>zr (by rw[e];rfl)) x8 (H.under N true)).mono ?_);rintro _ w8 ⟨rfl,f8,a8,b3,h8,a9,b0⟩;refine⟨(fun h=>by cases h),?_⟩;have E:=E.trans (V.mono fun _ _ h=>h.elim);simp -implicitDefEqProofs only[go_sem];exact K (E.trans f8) h8 (RowsIn.br N H w1 w2 (.nil _ _ _) a9) (LvsIn.br (.nil _) b0)
  ·rw[decide_eq_true zl]at nl
   simp -implicitDefEqProofs only[go_sem,j7,jV,d0,a7,d1,nl];refine qXj (fun j=>j == 4) (.row [0,1,2,3,4,5]) rfl x9 x9 ?_;have T:=Z.fr0 (Fr.refl _ _).drew;have E:=fw.drew;have L:W5.drew.heap[w.heap.size]?=_:=R;have M:W5.drew.heap[W.heap.size]?=_:=I;generalize W5.drew=W6 at *;obtain⟨_,a4,a3,_⟩:=rdBr B.2.1 B.2.2 M;obtain⟨_,_,U⟩:=rdRw H.1 L;simp -implicitDefEqProofs only[go_sem,j7,yX,jV,OT.row,a4,U];refine qQc pl185 ((rowUnder W6 n N H.1 0 j0).mono ?_);rintro _ w6 ⟨rfl,f6⟩;refine⟨fun _=>f6.ext,?_⟩;have e7:Aud.under n (0 == 1) row=Aud.under n false row:=rfl;rw[e7];simp -implicitDefEqProofs only[go_sem,j7];refine qQc pl162 ((keep hk (t:=l) (n:=n+1) (T.fr0 f6) b9 w1 (fun e=>zl (by rw[e];rfl)) x8 (H.under N false)).mono ?_);rintro _ w7 ⟨rfl,V,c0,c3,h7,b4,b5⟩;refine⟨(fun h=>by cases h),?_⟩;have E:=E.trans (f6.mono fun _ _ h=>h.elim);simp -implicitDefEqProofs only[go_sem,j7,jV];have R:=V.at (f6.at L id) fun e=>by have:=lP e;omega
   have I:=V.at (f6.at M id) fun e=>by have:=lP e;omega
   have fw:=E.trans V;have Z:=h7;obtain⟨_,_,d2,_⟩:=rdBr B.2.1 B.2.2 I;clear h7 V E L M a4 a3 U T f6
   by_cases zr:r.page=0
   ·obtain rfl:r=.nil:=r.page_nil w2 zr
    rw[decide_eq_false fun e=>e rfl]at nr;simp -implicitDefEqProofs only[go_sem,d2,nr];exact K fw Z (RowsIn.br N H w1 w2 b4 (.nil _ _ _)) (LvsIn.br b5 (.nil _))
   ·rw[decide_eq_true zr]at nr
    simp -implicitDefEqProofs only[go_sem,d2,nr];refine qXj (fun j=>j == 4) (.row [0,1,2,3,4,5]) rfl x9 x9 ?_;have T:=Z.fr0 (Fr.refl _ _).drew;have E:=fw.drew;have L:w7.drew.heap[w.heap.size]?=_:=R;have M:w7.drew.heap[W.heap.size]?=_:=I;generalize w7.drew=W8 at *;obtain⟨_,a4,a3,_⟩:=rdBr B.2.1 B.2.2 M;obtain⟨_,_,U⟩:=rdRw H.1 L;simp -implicitDefEqProofs only[go_sem,j7,yX,jV,OT.row,a3,U];refine qQc pl185 ((rowUnder W8 n N H.1 1 j0).mono ?_);rintro _ w9 ⟨rfl,V⟩;refine⟨fun _=>V.ext,?_⟩;have e7:Aud.under n (1 == 1) row=Aud.under n true row:=rfl;rw[e7];simp -implicitDefEqProofs only[go_sem,j7];refine qQc pl162 ((keep hk (t:=r) (n:=n+1) (T.fr0 V) b1 w2 (fun e=>zr (by rw[e];rfl)) x8 (H.under N true)).mono ?_);rintro _ w8 ⟨rfl,f8,a8,b3,h8,a9,b0⟩;refine⟨(fun h=>by cases h),?_⟩;have E:=E.trans (V.mono fun _ _ h=>h.elim);simp -implicitDefEqProofs only[go_sem];exact K (E.trans f8) h8 (RowsIn.br N H w1 w2 b4 a9) (LvsIn.br b5 b0)
end
end A
end
section
namespace A
open Aud
structure OldT (c:Cx) (T:PT):Prop where
 rows:∀ key,findM c.ro key=enP (Aud.rowAt 0 Aud.zrow T key)
 lvs:∀ k,findM c.lo k=enP (lfAt T k)
structure Here (c:Cx) (T:PT) (n:Nat) (row:Bs) (at':Bool) (o:PT):Prop where
 hn:n<=256
 hrow:Row n row
 wf:o.Wf n
 st:Stands (dgT c.s.width) (ndsP c.pg) n o
 lt:o.page<c.fresh
 pos:Pos T n row at' o
 ents:∀ e ∈ o.ents,n<=common e.1 row
theorem Here.kid {c:Cx}{T:PT}{row:Bs}{o:PT}(h:Here c T n row at' o)(A:n<256)(b:Bool):Here c T (n+1) (Aud.under n b row) (at' && isBr o) (Aud.kid n b o) :=
 ⟨A,h.hrow.under A b,kid_wf (at':=at') h.wf b,qKq h.st b,kid_page h.st h.lt b,h.pos.kid h.wf h.hrow A b,kid_row h.wf h.hrow A h.ents b⟩
def ErrQ (c:Cx)(w:World)(e:Nat × Int):Prop:=No c.u w/\SgX c w (c.fs++[e])
def ThQ (c:Cx)(D:World)(n:Nat)(row:Bs)(rows:List (RK × Value))(lvs:List (Bs × Value))(r:Except (Nat × Int) (PT × Nat))(v:Value)(w:World):Prop :=
 match r with
 | .ok (t,m)=>v=.bool true/\Fr (PaB c) D w/\∃ A B,PassM c w m A B/\RowsIn n row t rows A/\LvsIn t lvs B
 | .error e=>v=.bool false/\ErrQ c w e
section
variable {c:Cx} {w w':World} {next:Nat} {rows:List (RK × Value)} {lvs:List (Bs × Value)}
theorem PassM.find (h:PassM c w next rows lvs)(M:c.Ok)(p:Nat)(e:Int):Fn prog 44 #[pt c.sb 0,.int .i64 (p:Nat),.int .i64 e] w fun v w'=>v=.tuple #[]/\ErrQ c w' (p,e):=by
 obtain⟨N,R,H,D⟩:=h.sg;have E:=H.fnd;refine (sight_find H h.no.size M.hiv p e M.hfs).mono ?_;rintro v w' ⟨rfl,f,I,J⟩
 have L:∀ {b},FvB c.sb N b->c.u.heap.size<=b:=fun {b} D=>by
  rcases D with rfl | D
  ·exact H.hsb
  ·exact E.2.new b D
 refine⟨rfl,h.no.trans' f fun b A e=>by have:=L e;omega,I,R,J,D.fr f fun b c' A _ _ e=>?_⟩
 rcases e with rfl | e
 ·rw[H.row]at A;cases A
 ·obtain⟨T,B⟩:=qQz E e;rw[A]at B;cases B
theorem PassM.oldRow (h:PassM c w next rows lvs){T:PT}(A:OldT c T){row:Bs}(B:row.length=32):lookO prog 152 w (.map c.oR) (.agg (rwC n row).toArray)=some (.int .i64 ((Aud.rowAt 0 Aud.zrow T (n,row)).getD 0:Nat),(Aud.rowAt 0 Aud.zrow T (n,row)).isSome):=by
 have:=h.oldR.look keyR (k:=(n,row)) B map152 zero3;rw[A.rows]at this;rw[this]
 cases Aud.rowAt 0 Aud.zrow T (n,row) <;> rfl
theorem PassM.oldLf (h:PassM c w next rows lvs){T:PT}(A:OldT c T){k:Bs}(B:k.length=32):lookO prog 153 w (.map c.oL) (dg k)=some (.int .i64 ((lfAt T k).getD 0:Nat),(lfAt T k).isSome):=by
 have:=h.oldL.look keyK (k:=k) B map153 zero3;rw[A.lvs]at this;rw[this]
 cases lfAt T k <;> rfl
theorem ndA_val {k:Bs}(A:k.length=32)(v:Bs)(vv:Value):(ndA (.leaf k v) vv)[101]?=some vv:=by
 show ([.int .i64 1,.int .i64 0,.int .i64 0,.int .i64 0,.int .i64 0]++z32.map u8++z32.map u8++k.map u8++[vv])[101]?=_;rw[jR (by simp[A])];simp[A]
def newLf (c:Cx)(o:PT)(page next:Nat)(k v:Bs):Except (Nat × Int) (PT × Nat):=if page=next/\pageOf k v o=none then .ok (.leaf page k v,next+1) else .error (page,172)
theorem anewLf (h:PassM c w next rows lvs)(J:c.Ok){T:PT}(hT:OldT c T){row:Bs}{o:PT}(hh:Here c T n row at' o){page:Nat}{k v:Bs}(hp:ndsP c.pg page=some (.leaf k v))(hc:n<=common k row){vv:Value}(ov:one vv=true)(hv:By w vv v)(a7:next<2 ^ 20) :
  Fn prog 163 #[pt c.pb 0,.int .i64 (page:Nat),.agg (ndA (.leaf k v) vv).toArray,.agg (rwC n row).toArray] w fun x w'=>ThQ c w n row rows lvs (newLf c o page next k v) x w':=by
 refine go163 sm ?_;have E:=(J.hnd page _ (qJx.1 hp)).2;obtain⟨W,hW,f1,k1,k2,s1⟩:=qJq w (ndA (.leaf k v) vv).toArray 78 (rwC n row).toArray 158;have h1:=h.fr0 f1;obtain⟨d0,d1,d2,d3,d4⟩:=rdLf E.1 k1;have a8:((0:Int) != 0)=false:=rfl;have a9:((1:Int) == 1)=true:=rfl;simp -implicitDefEqProofs only[go_sem,j7,vS,yU,jV,Tryz.f163,hW];refine qXj (fun j=>j == 14) (.row [0,1,2,3,4,5,7,8,10,6,9,11,12,13,14,15,16,17]) rfl x9 x9 ?_;have a4:rdO prog 3 W.drew w.heap.size 1=some (.int .i64 0):=d1;simp -implicitDefEqProofs only[go_sem,j7,yX,bNe,qQq,jV,OT.row,a4];refine qXj (fun j=>j == 14) (.row [0,1,2,3,4,5,7,8,10,6,9,11,12,13,14,15,16,17]) rfl x9 x9 ?_;have a5:rdO prog 3 W.drew.drew w.heap.size 2=some (.int .i64 0):=d2;obtain⟨p0,p1,p2,p3,p4,p5,p6,p7,p8,p9⟩:=h1.rds;simp -implicitDefEqProofs only[go_sem,j7,yX,bSe,bNe,qQq,jV,OT.row,a5,d0,p3,p7,d3];have f1:=f1.drew.drew.drew;have h1:=h.fr0 f1;have k1:W.drew.drew.drew.heap[w.heap.size]?=_:=k1;have k2:W.drew.drew.drew.heap[w.heap.size+1]?=_:=k2;have s1:W.drew.drew.drew.heap.size=_:=s1;generalize W.drew.drew.drew=H at *;clear p0 p1 p2 p3 p4 p5 p6 p7 p8 p9 d0 d1 d2 d3 d4 a4 a5;have N:=h1.oldLf hT E.1;rw[hh.pos.lvs k hc]at N;obtain⟨d0,d1,d2,d3,d4⟩:=rdLf E.1 k1;obtain⟨p0,p1,p2,p3,p4,p5,p6,p7,p8,p9⟩:=h1.rds;have lP:∀ {b:Nat},PaB c b->b<w.heap.size:=h.lt;have L:((page:Int) != (next:Int))=decide (page≠next):=natne page next;have wi:=iSu (i:=next);have R:=h1.fr0 (Fr.refl _ _).drew;have q3:wrO prog 3 H.drew c.pb 4 (.int .i64 ((next+1:Nat):Int))=some (put H.drew c.pb (.cells (paC c (next+1)) 213 (0,0))):=wr1 sz3 rfl R.pass (show 4<5 by decide)
 cases hl:lfAt o k with
 | none =>
  rw[hl]at N;have a0:=lfAt_nopage (v:=v) hl hh.wf;have N:lookO prog 153 H (.map c.oL) (dg k)=some (.int .i64 0,false):=N
  by_cases I:page=next
  ·rw[decide_eq_false fun e=>e I]at L
   simp -implicitDefEqProofs only[go_sem,j7,yX,bSe,qQq,jV,N,p9,L];simp -implicitDefEqProofs only[go_sem,j7,yX,jV,wi,q3];have k3:=qQd (o:=.cells (paC c (next+1)) 213 (0,0)) R.pass;have D:Fr (fun b=>b=c.pb) H.drew (put H.drew c.pb (.cells (paC c (next+1)) 213 (0,0))):=(Fr.refl _ _).put (b:=c.pb) _ (fun _=>rfl);have U:=R.step J (next+1) D k3;have M:=D.at (show H.drew.heap[w.heap.size]?=_ from k1) fun e=>by have:=lP (b:=c.pb) (.inr (.inl rfl));omega
   have g2:=D.at (show H.drew.heap[w.heap.size+1]?=_ from k2) fun e=>by have:=lP (b:=c.pb) (.inr (.inl rfl));omega
   have D:=(f1.drew.mono (G:=PaB c) fun _ _ h=>h.elim).trans (D.mono (G:=PaB c) fun _ _ e=>.inr (.inl e));generalize put H.drew c.pb (.cells (paC c (next+1)) 213 (0,0))=W3 at *;obtain⟨_,_,x2,_,x4,_⟩:=U.rds;obtain⟨_,_,t2⟩:=rdRw hh.hrow.1 g2;have U:=U.fr0 (Fr.refl _ _).drew;have D:=D.drew;have M:W3.drew.heap[w.heap.size]?=_:=M;obtain⟨ob,B,V,Y⟩:=U.putR J (n:=n) (r:=row) hh.hrow.1 page;have B:putE prog 158 W3.heap[c.nR]? (.agg (rwC n row).toArray) (.int .i64 (page:Nat))=some ob:=B;simp -implicitDefEqProofs only[go_sem,j7,jV,x2,x4,t2,map152,B];have M:=Y.at M fun e=>by have:=lP (b:=c.nR) (.inr (.inr (.inl rfl)));omega
   have Y:=D.trans (Y.mono (G:=PaB c) fun _ _ e=>.inr (.inr (.inl e)));generalize put W3.drew c.nR ob=W5 at *;obtain⟨d0,_,_,d3,_⟩:=rdLf E.1 M;obtain⟨_,_,x2,_,_,x5,_⟩:=V.rds;have V:=V.fr0 (Fr.refl _ _).drew;obtain⟨a3,A,h5,f5⟩:=V.putL J (k:=k) E.1 page;have A:putE prog 76 W5.heap[c.nL]? (dg k) (.int .i64 (page:Nat))=some a3:=A;simp -implicitDefEqProofs only[go_sem,j7,yX,bSe,jV,d0,x2,x5,d3,map153,A];have:newLf c o page next k v=.ok (.leaf page k v,next+1):=if_pos ⟨I,a0⟩;rw[this];exact⟨rfl,Y.drew.trans (f5.mono fun _ _ e=>.inr (.inr (.inr e))),_,_,h5,RowsIn.leaf n row page k v rows,LvsIn.leaf page k v lvs⟩
  ·rw[decide_eq_true I]at L
   simp -implicitDefEqProofs only[go_sem,j7,yX,qQq,qXd,jV,N,p9,L,p0];refine qQa pl44 ((R.find J page 172).mono ?_);rintro _ w9 ⟨rfl,e9⟩;simp -implicitDefEqProofs only[go_sem];have:newLf c o page next k v=.error (page,172):=if_neg (by exact fun h=>I h.1);rw[this];exact⟨rfl,e9⟩
 | some q =>
  rw[hl]at N;have N:lookO prog 153 H (.map c.oL) (dg k)=some (.int .i64 (q:Nat),true):=N;obtain⟨v',hq,B⟩:=lfAt_page hh.wf hh.st hl;obtain⟨vq,lq,oq,nq,a6,_⟩:=R.ndS J hq
  have fe:partO prog 22 (ndA (.leaf k v') vq).toArray 101=some vq:=by
   rw[qWb agg22,List.getElem?_toArray];exact ndA_val a6.1 v' vq
  simp -implicitDefEqProofs only[go_sem,j7,yX,bSe,jV,N,p0,p1,lq,fe,d4];refine qQa pl186 ((bequal H.drew nq.by (hv.fr0 f1.drew)).mono ?_);rintro _ _ ⟨rfl,rfl⟩
  by_cases Z:v'=v
  ·have e1:decide (ndVal (Nd.leaf k v')=v)=true:=decide_eq_true Z
   by_cases I:page=next
   ·rw[decide_eq_false fun e=>e I]at L
    simp -implicitDefEqProofs only[go_sem,j7,bSe,jV,e1,p9,L,p0];refine qQa pl44 ((R.find J page 172).mono ?_);rintro _ w9 ⟨rfl,e9⟩;simp -implicitDefEqProofs only[go_sem];have:newLf c o page next k v=.error (page,172):=if_neg (by exact fun h=>((B v).1 h.2) Z);rw[this];exact⟨rfl,e9⟩
   ·rw[decide_eq_true I]at L
    simp -implicitDefEqProofs only[go_sem,j7,qXd,jV,e1,p9,L,p0];refine qQa pl44 ((R.find J page 172).mono ?_);rintro _ w9 ⟨rfl,e9⟩;simp -implicitDefEqProofs only[go_sem];have:newLf c o page next k v=.error (page,172):=if_neg (by exact fun h=>I h.1);rw[this];exact⟨rfl,e9⟩
  ·have e1:decide (ndVal (Nd.leaf k v')=v)=false:=decide_eq_false Z
   have a0:pageOf k v o=none:=(B v).2 Z
   by_cases I:page=next
   ·rw[decide_eq_false fun e=>e I]at L
    simp -implicitDefEqProofs only[go_sem,j7,bSe,jV,e1,p9,L];simp -implicitDefEqProofs only[go_sem,j7,yX,jV,wi,q3];have k3:=qQd (o:=.cells (paC c (next+1)) 213 (0,0)) R.pass;have D:Fr (fun b=>b=c.pb) H.drew (put H.drew c.pb (.cells (paC c (next+1)) 213 (0,0))):=(Fr.refl _ _).put (b:=c.pb) _ (fun _=>rfl);have U:=R.step J (next+1) D k3;have M:=D.at (show H.drew.heap[w.heap.size]?=_ from k1) fun e=>by have:=lP (b:=c.pb) (.inr (.inl rfl));omega
    have g2:=D.at (show H.drew.heap[w.heap.size+1]?=_ from k2) fun e=>by have:=lP (b:=c.pb) (.inr (.inl rfl));omega
    have D:=(f1.drew.mono (G:=PaB c) fun _ _ h=>h.elim).trans (D.mono (G:=PaB c) fun _ _ e=>.inr (.inl e));generalize put H.drew c.pb (.cells (paC c (next+1)) 213 (0,0))=W3 at *;obtain⟨_,_,x2,_,x4,_⟩:=U.rds;obtain⟨_,_,t2⟩:=rdRw hh.hrow.1 g2;have U:=U.fr0 (Fr.refl _ _).drew;have D:=D.drew;have M:W3.drew.heap[w.heap.size]?=_:=M;obtain⟨ob,B,V,Y⟩:=U.putR J (n:=n) (r:=row) hh.hrow.1 page;have B:putE prog 158 W3.heap[c.nR]? (.agg (rwC n row).toArray) (.int .i64 (page:Nat))=some ob:=B;simp -implicitDefEqProofs only[go_sem,j7,jV,x2,x4,t2,map152,B];have M:=Y.at M fun e=>by have:=lP (b:=c.nR) (.inr (.inr (.inl rfl)));omega
    have Y:=D.trans (Y.mono (G:=PaB c) fun _ _ e=>.inr (.inr (.inl e)));generalize put W3.drew c.nR ob=W5 at *;obtain⟨d0,_,_,d3,_⟩:=rdLf E.1 M;obtain⟨_,_,x2,_,_,x5,_⟩:=V.rds;have V:=V.fr0 (Fr.refl _ _).drew;obtain⟨a3,A,h5,f5⟩:=V.putL J (k:=k) E.1 page;have A:putE prog 76 W5.heap[c.nL]? (dg k) (.int .i64 (page:Nat))=some a3:=A;simp -implicitDefEqProofs only[go_sem,j7,yX,bSe,jV,d0,x2,x5,d3,map153,A];have:newLf c o page next k v=.ok (.leaf page k v,next+1):=if_pos ⟨I,a0⟩;rw[this];exact⟨rfl,Y.drew.trans (f5.mono fun _ _ e=>.inr (.inr (.inr e))),_,_,h5,RowsIn.leaf n row page k v rows,LvsIn.leaf page k v lvs⟩
   ·rw[decide_eq_true I]at L
    simp -implicitDefEqProofs only[go_sem,j7,qXd,jV,e1,p9,L,p0];refine qQa pl44 ((R.find J page 172).mono ?_);rintro _ w9 ⟨rfl,e9⟩;simp -implicitDefEqProofs only[go_sem];have:newLf c o page next k v=.error (page,172):=if_neg (by exact fun h=>I h.1);rw[this];exact⟨rfl,e9⟩
end
end A
end
end Go.V
