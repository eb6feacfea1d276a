/- Helpers. -/
import Derived.Test.YtppmpdjlmgfdkaaGreatDoorM23
import Derived.Test.YtppmpdjlmgfdkaaGreatDoorM19
import Derived.Test.YtppmpdjlmgfdkaaGreatDoorM22
import Derived.Test.YtppmpdjlmgfdkaaGreatDoorM09
set_option linter.all false
set_option maxRecDepth 100000
set_option maxHeartbeats 8000000
open Array renaming all_toList->kJ,toList_setIfInBounds->vE
open Bool renaming not_false->xH,not_true->y8
open Go.Builtin renaming append_->qC
open List renaming replicate->zG,getElem_append_left->z9,length_map->zE,range->qI,take_of_length_le->zB,map_append->vD,append_nil->z4,size_toArray->kG,replicate_succ'->rX,length_reverse->rZ
open Nat renaming reduceEqDiff->j7,zero_add->jV,reduceBEq->yX,reduceAdd->vS,le_refl->xC,mul_one->j8,zero_le->jJ,mul_le_mul_right->xR
open Option renaming none->kZ,bind_some->qV
open Go.Value renaming cells->yU
namespace Go.V
open Go.Proofs.Tryz Go.V.Tryz
open Go.Proofs Sha
variable {D im:Bs} {cs:List Bat.Ch} {xs:List Value} {cap e k n sb:Nat} {F:Nat->Prop} {a:Option Addr} {iv mv v vv:Value} {b w w' w0:World}
section
namespace R
open Aud A
def seC (s:Sup)(kv nv rv av fv:Value):Array Value:=#[.int .i64 (s.width:Nat),.int .i64 (s.gen:Nat),.int .i64 (s.mark:Nat),.int .i64 (s.head:Nat),.int .i64 (s.pages:Nat),kv,nv,rv,av,nil0,fv,nil0]
def SS (t:TypeId):Prop:=t=3∨t=78∨t=80∨t=43∨t=92
instance (t:TypeId):Decidable (SS t):=by unfold SS;infer_instance
def SE (e t:TypeId):Prop:=t=e∨t=92
instance (e t:TypeId):Decidable (SE e t):=by unfold SE;infer_instance
structure SeV (w0 w:World) (sb:Nat) (s:Sup) (kv nv rv av fv:Value) (ks:List Nat) (nrows:Rows) (rs:List Rc) (ats:List Nat) (fs:List (Nat × Int)):Prop where
 hb:w0.heap.size<=sb
 no:No w0 w
 st:w.heap[sb]?=some (.cells (seC s kv nv rv av fv) 92 (0,0))
 ok:one kv=true/\one nv=true/\one rv=true/\one av=true/\one fv=true
 kd:NwR w0 w 3 1 kv (inR ks)
 nd:NwR w0 w 78 102 nv nrows
 rc:NwR w0 w 80 38 rv (qKc rs)
 pg:NwR w0 w 3 1 av (inR ats)
 fd:NwR w0 w 43 2 fv (fnR fs)
 ap:∀ b,qQf kv=some b->qQf av≠some b
def SeS (w0 w:World)(sb:Nat)(s:Sup)(ks:List Nat)(nrows:Rows)(rs:List Rc)(ats:List Nat)(fs:List (Nat × Int)):Prop:=∃ kv nv rv av fv,SeV w0 w sb s kv nv rv av fv ks nrows rs ats fs
section
variable {w0 w w':World} {sb:Nat} {s:Sup} {kv nv rv av fv:Value} {ks:List Nat} {nrows:Rows} {rs:List Rc} {ats:List Nat} {fs:List (Nat × Int)}
theorem SeV.fr0 (h:SeV w0 w sb s kv nv rv av fv ks nrows rs ats fs)(f:No w w'):SeV w0 w' sb s kv nv rv av fv ks nrows rs ats fs :=
 ⟨h.hb,h.no.trans f,f.at h.st id,h.ok,h.kd.fr0 f,h.nd.fr0 f,h.rc.fr0 f,h.pg.fr0 f,h.fd.fr0 f,h.ap⟩
theorem SeS.fr0 (h:SeS w0 w sb s ks nrows rs ats fs)(f:No w w'):SeS w0 w' sb s ks nrows rs ats fs:=by
 obtain⟨_,_,_,_,_,h⟩:=h;exact⟨_,_,_,_,_,h.fr0 f⟩
theorem fieldPush {c:Array Value}{H:TypeId}{j W:Nat}{ts:Array TypeId}{e k by':Nat}{z v:Value}{rows:Rows}(Y:w.heap[sb]?=some (.cells c H (0, 0)))(hne:e≠H)(hj:j<c.size)(hs:szO prog W=some 1)(Z:NwR w0 w e k v rows)(f:No w0 w)
  (ht:AppT prog ts e k by' z) (M:xs.length=k) (I:xs.all one=true) (N:0<k) (O:(rows.length+rows.length / 4+1024)*by'<=2 ^ 48) (J:rows.length<2 ^ 60) :
  ∃ A E,(qC ts 0 #[v,.slice (some ⟨w.heap.size,0,none⟩) 1 1]).run prog (w.alloc (.cells xs.toArray e))=.ok A E/\one A=true/\wrO prog W E sb j A=some (put E sb (.cells (c.setIfInBounds j A) H (0,0))) /\
   (put E sb (.cells (c.setIfInBounds j A) H (0,0))).heap[sb]?=some (.cells (c.setIfInBounds j A) H (0,0))/\NwR w0 (put E sb (.cells (c.setIfInBounds j A) H (0,0))) e k A (rows++[xs]) /\
   Fr (fun b=>qQf v=some b∨b=sb) w (put E sb (.cells (c.setIfInBounds j A) H (0,0)))/\(∀ b,qQf A=some b->qQf v=some b∨w.heap.size<=b):=by
 obtain⟨A,E,R,T,g8,m8⟩:=Z.push ht M I N O J f.size;have o8:one A=true:=by obtain⟨a,c,e,_⟩:=T.rd.slice;rw[e];rfl
 have U:=g8.at Y fun V=>by
  obtain⟨c',B⟩:=qQz Z V;rw[Y]at B;cases B;exact hne rfl
 have hsb:∀ b,qQf A=some b->b≠sb:=fun b hb V=>by
  obtain⟨c',B⟩:=qQz T hb;rw[V,U]at B;cases B;exact hne rfl
 have L:Fr (fun b=>b=sb) E (put E sb (.cells (c.setIfInBounds j A) H (0,0))):=(Fr.refl _ _).put (b:=sb) _ fun _=>rfl;exact⟨A,E,R,o8,wr1 hs o8 U hj,qQd U,T.fr L hsb,(g8.mono fun _ _ h=>.inl h).trans (L.mono fun _ _ h=>.inr h),m8⟩
theorem SeV.keep (h:SeV w0 w sb s kv nv rv av fv ks nrows rs ats fs)(f:Fr (fun b=>qQf v=some b∨b=sb) w w'){rows:Rows}(N:NwR w0 w e k v rows){H J:Nat}{x:Value}{A:Rows}(L:NwR w0 w H J x A)(B:e≠H∨∀ b,qQf x=some b->qQf v≠some b)(O:H≠92):NwR w0 w' H J x A :=
 L.fr f fun b M g=>by
  obtain⟨c,I⟩:=qQz L M
  rcases g with g | g
  ·rcases B with B | B
   ·obtain⟨c',E⟩:=qQz N g
    rw[I]at E;cases E;exact B rfl
   ·exact B b M g
  ·rw[g,h.st]at I
   cases I;exact O rfl
theorem SeV.frS (h:SeV w0 w sb s kv nv rv av fv ks nrows rs ats fs)(f:Fr (fun b=>qQf v=some b∨b=sb) w w'){rows:Rows}(A:NwR w0 w e k v rows):Fr (TF (SE e) w0 w) w w':=f.mono fun b _ g=>by
 rcases g with g | g
 ·obtain⟨c,B⟩:=qQz A g
  exact⟨A.2.new b g,c,_,_,B,.inl rfl⟩
 ·rw[g]
  exact⟨h.hb,_,_,_,h.st,.inr rfl⟩
theorem SE.ss {e:TypeId}(h:SS e):∀ t,SE e t->SS t:=fun t g=>by
 rcases g with rfl | rfl
 ·exact h
 ·decide
def PuQ (w0 w:World)(sb j E:Nat)(ts:Array TypeId)(e:Nat)(xs:List Value)(R:World->Prop):Prop:=∃ v H A B,rdO prog E w sb j=some v/\(qC ts 0 #[v,.slice (some ⟨w.heap.size,0,none⟩) 1 1]).run prog (w.alloc (.cells xs.toArray e))=.ok H A /\
 wrO prog E A sb j H=some (put A sb B)/\Fr (TF (SE e) w0 w) w (put A sb B)/\R (put A sb B)
theorem SeS.pushK (h:SeS w0 w sb s ks nrows rs ats fs)(x:Nat)(R:ks.length<=2 ^ 30):PuQ w0 w sb 5 45 #[45,45] 3 [vi x] fun w'=>SeS w0 w' sb s (ks++[x]) nrows rs ats fs:=by
 obtain⟨kv,nv,rv,av,fv,h⟩:=h;obtain⟨E,H,I,J,L,M,N,A,O⟩:=fieldPush (j:=5) h.st j0 (show 5<12 by decide) sz45 h.kd h.no app45_45 (xs:=[vi x]) rfl rfl j0 (by rw[qZq];omega) (by rw[qZq];omega);have F:=h.frS A h.kd;refine⟨kv,E,H,_,rd1 agg45 h.st rfl,I,L,F,E,nv,rv,av,fv,h.hb,TF.no h.no F,M,⟨J,h.ok.2.1,h.ok.2.2.1,h.ok.2.2.2.1,h.ok.2.2.2.2⟩,?_,h.keep A h.kd h.nd (.inl j0) j0,h.keep A h.kd h.rc (.inl j0) j0,h.keep A h.kd h.pg (.inr fun b B g=>h.ap b g B) j0,h.keep A h.kd h.fd (.inl j0) j0,fun b B g=>?_⟩
 ·have:inR (ks++[x])=inR ks++[[vi x]]:=by simp[inR]
  rw[this];exact N
 ·rcases O b B with e | e
  ·exact h.ap b e g
  ·have:=(h.pg.lt g).2;omega
theorem SeS.pushN (h:SeS w0 w sb s ks nrows rs ats fs)(E:xs.length=102)(H:xs.all one=true)(R:nrows.length<=2 ^ 30):PuQ w0 w sb 6 88 #[88,88] 78 xs fun w'=>SeS w0 w' sb s ks (nrows++[xs]) rs ats fs:=by
 obtain⟨kv,nv,rv,av,fv,h⟩:=h;obtain⟨B,I,J,L,M,N,O,A,T⟩:=fieldPush (j:=6) h.st j0 (show 6<12 by decide) sz88 h.nd h.no app88_88 E H j0 x8 x8;have F:=h.frS A h.nd;exact⟨nv,B,I,_,rd1 agg88 h.st rfl,J,M,F,kv,B,rv,av,fv,h.hb,TF.no h.no F,N,⟨h.ok.1,L,h.ok.2.2.1,h.ok.2.2.2.1,h.ok.2.2.2.2⟩,h.keep A h.nd h.kd (.inl j0) j0,O,h.keep A h.nd h.rc (.inl j0) j0,h.keep A h.nd h.pg (.inl j0) j0,h.keep A h.nd h.fd (.inl j0) j0,h.ap⟩
theorem SeS.pushR (h:SeS w0 w sb s ks nrows rs ats fs){r:Rc}(H:r.sum.length=32)(T:rs.length<=2 ^ 30):PuQ w0 w sb 7 89 #[89,89] 80 (rcC r) fun w'=>SeS w0 w' sb s ks nrows (rs++[r]) ats fs:=by
 obtain⟨kv,nv,rv,av,fv,h⟩:=h;have I:(qKc rs).length=rs.length:=zE _;obtain⟨E,J,L,M,N,O,R,B,U⟩:=fieldPush (j:=7) h.st j0 (show 7<12 by decide) sz89 h.rc h.no app89_89 (qXc H) (A.rcC_one _) j0 x8 x8;have F:=h.frS B h.rc;refine⟨rv,E,J,_,rd1 agg89 h.st rfl,L,N,F,kv,nv,E,av,fv,h.hb,TF.no h.no F,O,⟨h.ok.1,h.ok.2.1,M,h.ok.2.2.2.1,h.ok.2.2.2.2⟩,h.keep B h.rc h.kd (.inl j0) j0,h.keep B h.rc h.nd (.inl j0) j0,?_,h.keep B h.rc h.pg (.inl j0) j0,h.keep B h.rc h.fd (.inl j0) j0,h.ap⟩;have:qKc (rs++[r])=qKc rs++[rcC r]:=by simp[qKc]
 rw[this];exact R
theorem SeS.pushA (h:SeS w0 w sb s ks nrows rs ats fs)(x:Nat)(R:ats.length<=2 ^ 30):PuQ w0 w sb 8 45 #[45,45] 3 [vi x] fun w'=>SeS w0 w' sb s ks nrows rs (ats++[x]) fs:=by
 obtain⟨kv,nv,rv,av,fv,h⟩:=h;obtain⟨B,H,I,J,L,M,N,A,O⟩:=fieldPush (j:=8) h.st j0 (show 8<12 by decide) sz45 h.pg h.no app45_45 (xs:=[vi x]) rfl rfl j0 (by rw[qZq];omega) (by rw[qZq];omega);have F:=h.frS A h.pg;refine⟨av,B,H,_,rd1 agg45 h.st rfl,I,L,F,kv,nv,rv,B,fv,h.hb,TF.no h.no F,M,⟨h.ok.1,h.ok.2.1,h.ok.2.2.1,J,h.ok.2.2.2.2⟩,h.keep A h.pg h.kd (.inr h.ap) j0,h.keep A h.pg h.nd (.inl j0) j0,h.keep A h.pg h.rc (.inl j0) j0,?_,h.keep A h.pg h.fd (.inl j0) j0,fun b E g=>?_⟩
 ·have:inR (ats++[x])=inR ats++[[vi x]]:=by simp[inR]
  rw[this];exact N
 ·rcases O b g with e | e
  ·exact h.ap b E e
  ·have:=(h.kd.lt E).2;omega
theorem SeS.pushF (h:SeS w0 w sb s ks nrows rs ats fs)(p:Nat)(e:Int)(N:fs.length<=2 ^ 30):PuQ w0 w sb 10 23 #[23,23] 43 [vi p,.int .i64 e] fun w'=>SeS w0 w' sb s ks nrows rs ats (fs++[(p,e)]):=by
 obtain⟨kv,nv,rv,av,fv,h⟩:=h;obtain⟨B,E,H,I,J,L,M,A,O⟩:=fieldPush (j:=10) h.st j0 (show 10<12 by decide) sz23 h.fd h.no app23_23 (xs:=[vi p,.int .i64 e]) rfl rfl j0 (by rw[fnR_len];omega) (by rw[fnR_len];omega);have F:=h.frS A h.fd;refine⟨fv,B,E,_,rd1 agg23 h.st rfl,H,J,F,kv,nv,rv,av,B,h.hb,TF.no h.no F,L,⟨h.ok.1,h.ok.2.1,h.ok.2.2.1,h.ok.2.2.2.1,I⟩,h.keep A h.fd h.kd (.inl j0) j0,h.keep A h.fd h.nd (.inl j0) j0,h.keep A h.fd h.rc (.inl j0) j0,h.keep A h.fd h.pg (.inl j0) j0,?_,h.ap⟩;have:fnR (fs++[(p,e)])=fnR fs++[[vi p,.int .i64 e]]:=by simp[fnR]
 rw[this];exact M
theorem finds17 (h:SeS w0 w sb s ks nrows rs ats fs)(p:Nat)(e:Int)(A:fs.length<=2 ^ 30):Fn prog 48 #[pt sb 0,.int .i64 (p:Nat),.int .i64 e] w fun _ w'=>Fr (TF (SE 43) w0 w) w w'/\SeS w0 w' sb s ks nrows rs ats (fs++[(p,e)]):=by
 refine go48 sm ?_;obtain⟨v,B,E,L,rv,H,I,F,M⟩:=h.pushF p e A;have J:=bldFn p e;simp -implicitDefEqProofs only[go_sem,j7,vS,yU,jV,Tryz.f48,rv,J];refine qQn (v:=.slice (some ⟨w.heap.size,0,none⟩) 1 1) (w':=w.alloc (.cells #[vi p,.int .i64 e] 43)) (qQx (K:=2) j0 j0 (y:=[.int .i64 0,.int .i64 0]) rfl rfl rfl _) ?_;simp -implicitDefEqProofs only[go_sem,j7];refine qQj ⟨B,E,H,?_⟩;simp -implicitDefEqProofs only[go_sem,j7,jV,I];exact And.intro F M
end
end R
end
section
namespace R
open Aud A
section
variable {w0 w w':World} {sb:Nat} {s:Sup} {ks:List Nat} {nrows:Rows} {rs:List Rc} {ats:List Nat} {fs:List (Nat × Int)}
def stI17 (w0 A:World)(sb:Nat)(s:Sup)(iv:Value)(im:Bs)(n:Nat)(vs:List Value)(w:World):Prop :=
 ∃ p:Nat,vs=[pt sb 0,iv,.int .i64 (p:Nat)]/\p<=2/\n=2 - p/\SeS w0 w sb s (zG p 0) (zG p nd0) (zG p rc00) [] (qXi im p)/\Fr (TF SS w0 A) A w
def stJ17 (A:World)(sb p:Nat)(iv:Value)(im:Bs)(n:Nat)(vs:List Value)(w:World):Prop :=
 ∃ k:Nat,vs=[pt sb 0,iv,.int .i64 (p:Nat),.bool (!zer ((im.drop (256*p+64)).take k)),.int .i64 ((64+k:Nat):Int)]/\k<=192/\n=192 - k/\No A w
theorem slots17 (hM:SeS w0 w sb s [] [] [] [] [])(hi:By w0 iv im)(hl:512<=im.length)(a4:im.length<=2 ^ 40):Fn prog 25 #[pt sb 0,iv] w fun _ w'=>Fr (TF SS w0 w) w w'/\SeS w0 w' sb s (zG 2 0) (zG 2 nd0) (zG 2 rc00) [] (qXi im 2):=by
 refine go25 sm ?_;obtain⟨ib,io,ic,hiv,a5⟩:=hi.pos x8;have nz:=qKk;have rz:=rcZero;have b1:=bldNd0;have b2:=bldRc0;simp -implicitDefEqProofs only[go_sem,jV,Tryz.f25];refine loopD [0,1,4] (stI17 w0 w sb s iv im) 2 ⟨0,rfl,j0,rfl,hM,Fr.refl _ _⟩ ?_;rintro _ vs w4 g ⟨p,rfl,hp,rfl,T,F4⟩;have R:=natlt p 2
 by_cases N:p<2
 ·have R:decide ((p:Int)<2)=true:=R.trans (decide_eq_true N)
  simp -implicitDefEqProofs only[go_sem,j7,R];refine loopD [0,1,4,5,6] (stJ17 w4 sb p iv im) 192 ⟨0,rfl,j0,rfl,Fr.refl _ _⟩ ?_;rintro _ vs w5 g ⟨k,rfl,hk,rfl,f5⟩;have O:=T.fr0 f5;have a0:No w0 w5:=by obtain⟨_,_,_,_,_,h⟩:=O;exact h.no
  have F5:=TF.trans F4 (TF.of SS w0 f5);have M:decide (((64+k:Nat):Int)<256)=decide (64+k<256):=natlt _ 256
  by_cases a6:k<192
  ·have M:=M.trans (decide_eq_true (show 64+k<256 by omega))
   have c1:IntKind.i64.wrap (256*(p:Int))=((256*p:Nat):Int):=qZu (a:=256) x8;have c2:IntKind.i64.wrap (((256*p:Nat):Int)+((64+k:Nat):Int))=((256*p+64+k:Nat):Int):=by rw[qXa];congr 1;omega
   have c3:IntKind.i64.wrap (((64+k:Nat):Int)+1)=((64+(k+1):Nat):Int):=qXa (a:=64+k) (b:=1);have y1:(0:Int)<=((256*p+64+k:Nat):Int)/\((256*p+64+k:Nat):Int)<(im.length:Int):=x8
   obtain⟨bb,oo,cap,U,rk⟩:=by_rd (hi.fr0 a0) (i:=256*p+64+k) x8;rw[hiv]at U;cases U;have hs:=zer_take im (256*p+64) k x8;have ne:=u8ne (im.getD (256*p+64+k) 0) 0;have a3:(((im.getD (256*p+64+k) 0).toNat:Int) != 0)=!(im.getD (256*p+64+k) 0 == 0):=ne;generalize im.getD (256*p+64+k) 0=x at *
   cases hz:zer ((im.drop (256*p+64)).take k) with
   | false =>
    rw[hz,Bool.false_and]at hs;rw[hiv];simp -implicitDefEqProofs only[go_sem,j7,qXd,xH,M];refine⟨192 - (k+1),x8,k+1,?_,x8,rfl,f5⟩;rw[hs];simp -implicitDefEqProofs only[go_sem,xH,c3]
   | true =>
    rw[hz,Bool.true_and]at hs;rw[hiv];simp -implicitDefEqProofs only[go_sem,j7,bSe,y8,M,c1,c2,y1,and_self,if_true,iTn,j8,rk,a3];refine⟨192 - (k+1),x8,k+1,?_,x8,rfl,f5⟩;rw[hs];simp -implicitDefEqProofs only[go_sem,c3]
  ·have M:=M.trans (decide_eq_false (show ¬ 64+k<256 by omega))
   obtain rfl:k=192:=x8
   have hz:(im.drop (256*p+64)).take 192=(pgB im p).drop 64:=by
    unfold pgB;rw[List.drop_take,List.drop_drop]
   rw[hz];have hw:qXw im p=if zer ((pgB im p).drop 64)=false then 53 else 0:=if_pos N;have hfs:=qZl im p;rw[hw]at hfs;have A:∀ {α:Type} (x:α),zG (p+1) x=zG p x++[x]:=fun x=>rX ..;have ca:=iSu (i:=p);have a7:=found1_len im p;generalize zer ((pgB im p).drop 64)=z at *
   cases z with
   | true =>
    have hfs:qXi im (p+1)=qXi im p:=by rw[hfs];simp
    have V:=O;have F6:=F5;rw[<- hfs]at V;generalize w5=W at *;simp -implicitDefEqProofs only[go_sem,j7,vS,y8,jV,M];obtain⟨Y,E,B,L,H,I,J,F1,Z⟩:=V.pushK 0 (by rw[lRe];omega);rw[<- A]at Z;simp -implicitDefEqProofs only[go_sem,yU,jV,H];refine qQn (v:=.slice (some ⟨W.heap.size,0,none⟩) 1 1) (w':=W.alloc (.cells #[vi 0] 3)) (qQx (K:=1) j0 j0 (y:=[.int .i64 0]) rfl rfl rfl _) ?_;simp -implicitDefEqProofs only[go_sem,j7];refine qQj ⟨E,B,I,?_⟩;simp -implicitDefEqProofs only[go_sem,j7,jV,J];generalize put B sb L=w8 at *;obtain⟨Y,E,B,L,H,I,J,F2,M2⟩:=Z.pushN (xs:=nd0) (qQu z32l z32l z32l _) (qXz _ _ _ _ _ _ _ _ rfl) (by rw[lRe];omega);rw[<- A]at M2;simp -implicitDefEqProofs only[go_sem,yU,jV,qQk,H,b1];refine qQn (v:=.slice (some ⟨w8.heap.size,0,none⟩) 1 1) (w':=w8.alloc (.cells nd0.toArray 78)) (qQx (K:=102) j0 j0 (y:=nd0) (qQu z32l z32l z32l _) (by simp[]) (by simp[qQu z32l z32l z32l]) _) ?_;simp -implicitDefEqProofs only[go_sem,j7];refine qQj ⟨E,B,I,?_⟩;simp -implicitDefEqProofs only[go_sem,j7,jV,J];generalize put B sb L=w9 at *;obtain⟨Y,E,B,L,H,I,J,F3,M3⟩:=M2.pushR (r:=rc00) z32l (by rw[lRe];omega);rw[<- A]at M3;simp -implicitDefEqProofs only[go_sem,yU,jV,qQk,H,b2];refine qQn (v:=.slice (some ⟨w9.heap.size,0,none⟩) 1 1) (w':=w9.alloc (.cells (rcC rc00).toArray 80)) (qQx (K:=38) j0 j0 (y:=rcC rc00) (qXc z32l) (by simp[]) (by simp[qXc (r:=rc00) z32l]) _) ?_;simp -implicitDefEqProofs only[go_sem,j7];refine qQj ⟨E,B,I,?_⟩;simp -implicitDefEqProofs only[go_sem,j7,jV,J,ca];exact⟨2 - (p+1),x8,p+1,rfl,x8,rfl,M3,TF.trans (TF.trans (TF.trans F6 (TF.sub F1 (SE.ss j0))) (TF.sub F2 (SE.ss j0))) (TF.sub F3 (SE.ss j0))⟩
   | false =>
    have hfs:qXi im (p+1)=qXi im p++[(p,53)]:=by rw[hfs];simp
    simp -implicitDefEqProofs only[go_sem,j7,vS,xH,M];refine qQa pl48 ((finds17 O p 53 x8).mono ?_);rintro _ W ⟨Ff,V⟩;have F6:=TF.trans F5 (TF.sub Ff (SE.ss j0));rw[<- hfs]at V;simp -implicitDefEqProofs only[go_sem,j7,jV];obtain⟨Y,E,B,L,H,I,J,F1,Z⟩:=V.pushK 0 (by rw[lRe];omega);rw[<- A]at Z;simp -implicitDefEqProofs only[go_sem,yU,jV,H];refine qQn (v:=.slice (some ⟨W.heap.size,0,none⟩) 1 1) (w':=W.alloc (.cells #[vi 0] 3)) (qQx (K:=1) j0 j0 (y:=[.int .i64 0]) rfl rfl rfl _) ?_;simp -implicitDefEqProofs only[go_sem,j7];refine qQj ⟨E,B,I,?_⟩;simp -implicitDefEqProofs only[go_sem,j7,jV,J];generalize put B sb L=w8 at *;obtain⟨Y,E,B,L,H,I,J,F2,M2⟩:=Z.pushN (xs:=nd0) (qQu z32l z32l z32l _) (qXz _ _ _ _ _ _ _ _ rfl) (by rw[lRe];omega);rw[<- A]at M2;simp -implicitDefEqProofs only[go_sem,yU,jV,qQk,H,b1];refine qQn (v:=.slice (some ⟨w8.heap.size,0,none⟩) 1 1) (w':=w8.alloc (.cells nd0.toArray 78)) (qQx (K:=102) j0 j0 (y:=nd0) (qQu z32l z32l z32l _) (by simp[]) (by simp[qQu z32l z32l z32l]) _) ?_;simp -implicitDefEqProofs only[go_sem,j7];refine qQj ⟨E,B,I,?_⟩;simp -implicitDefEqProofs only[go_sem,j7,jV,J];generalize put B sb L=w9 at *;obtain⟨Y,E,B,L,H,I,J,F3,M3⟩:=M2.pushR (r:=rc00) z32l (by rw[lRe];omega);rw[<- A]at M3;simp -implicitDefEqProofs only[go_sem,yU,jV,qQk,H,b2];refine qQn (v:=.slice (some ⟨w9.heap.size,0,none⟩) 1 1) (w':=w9.alloc (.cells (rcC rc00).toArray 80)) (qQx (K:=38) j0 j0 (y:=rcC rc00) (qXc z32l) (by simp[]) (by simp[qXc (r:=rc00) z32l]) _) ?_;simp -implicitDefEqProofs only[go_sem,j7];refine qQj ⟨E,B,I,?_⟩;simp -implicitDefEqProofs only[go_sem,j7,jV,J,ca]
    exact⟨2 - (p+1),x8,p+1,rfl,x8,rfl,M3,TF.trans (TF.trans (TF.trans F6 (TF.sub F1 (SE.ss j0))) (TF.sub F2 (SE.ss j0))) (TF.sub F3 (SE.ss j0))⟩
 ·have R:decide ((p:Int)<2)=false:=R.trans (decide_eq_false N)
  obtain rfl:p=2:=x8
  simp -implicitDefEqProofs only[go_sem,j7,R];exact And.intro F4 T
end
end R
end
section
namespace R
open Aud A
def kdOf:Except Int Pg->Nat
 | .error _=>0
 | .ok g=>g.kind
def rcOf:Except Int Pg->Rc
 | .ok (.rc r)=>r
 | _=>rc00
def atOf (p:Nat):Except Int Pg->List Nat
 | .ok (.rc _)=>[p]
 | _=>[]
def fsOf (p:Nat):Except Int Pg->List (Nat × Int)
 | .error e=>[(p,e)]
 | .ok _=>[]
def NdV (w0 w:World)(n:Nd)(row:List Value):Prop:=∃ vv,row=ndA n vv/\one vv=true/\NwB w0 w vv (ndVal n)/\(n.kind=2->vv=nil0)
def NdS (w0 w:World)(A:Option Nd)(row:List Value):Prop:=match A with
 | some n=>NdV w0 w n row
 | none=>row=nd0
def nodeOf:Except Int Pg->Option Nd
 | .ok (.nd n)=>some n
 | _=>none
theorem NdS.fr {A:Option Nd}{row:List Value}(h:NdS w0 w A row)(f:Fr (TF SS b w) w w'):NdS w0 w' A row:=by
 cases A with
 | none=>exact h
 | some n =>
  obtain⟨vv,B,E,H,I⟩:=h;exact⟨vv,B,E,TF.nwb f H j0,I⟩
section
variable {w0 w:World} {sb:Nat} {s:Sup} {ks:List Nat} {nrows:Rows} {rs:List Rc} {ats:List Nat} {fs:List (Nat × Int)}
def AlR (w0 H:World)(A:Except Int Pg)(E:Nat)(B:List Value)(r:Rc)(e:Int):Prop:=match A with
 | .error I=>e=I/\B=nd0/\r=rc00
 | .ok (.nd n)=>e=0/\E=n.kind/\NdV w0 H n B/\r=rc00
 | .ok (.rc J)=>e=0/\E=3/\B=nd0/\r=J
def AlS (w0 w:World)(sb p:Nat)(A:Except Int Pg)(E:Ev)(H:World):Prop:=E 0=pt sb 0/\E 2=.int .i64 (p:Nat)/\No w H/\∃ L B r e I J,E 6=.int .i64 ((L:Nat):Int)/\E 8=.int .i64 e/\E 9=pt I 0/\E 10=pt J 0/\w.heap.size<=I/\w.heap.size<=J /\
 H.heap[I]?=some (.cells B.toArray 78 (0,0))/\H.heap[J]?=some (.cells (rcC r).toArray 80 (0,0))/\B.length=102/\B.all one=true/\r.sum.length=32/\AlR w0 H A L B r e
theorem alone17 (hd:DivT w0)(hM:SeS w0 w sb s ks nrows rs ats fs)(hi:By w0 iv im)(g2:im.length<=2 ^ 40){p:Nat}(h2:2<=p)(h4:p<4096)(hp:256*(p+1)<=im.length)(g3:ks.length<=4096)(g4:nrows.length<=4096)(g5:rs.length<=4096)(g6:ats.length<=4096)(g7:fs.length<=4096) :
  Fn prog 26 #[pt sb 0,iv,.int .i64 (p:Nat)] w fun _ w'=>Fr (TF SS w0 w) w w'/\∃ E,SeS w0 w' sb s (ks++[kdOf (qXb p (pgB im p))]) (nrows++[E]) (rs++[rcOf (qXb p (pgB im p))]) (ats++atOf p (qXb p (pgB im p))) (fs++fsOf p (qXb p (pgB im p)))/\NdS w0 w' (nodeOf (qXb p (pgB im p))) E:=by
 refine go26 sm ?_;have f0:No w0 w:=by obtain⟨_,_,_,_,_,h⟩:=hM;exact h.no
 have b6:(pgB im p).length=256:=pgB_len x8
 have B : qXb p (pgB im p) = match unpP p (pgB im p) with
     | .error e => .error e
     | .ok (k,l) => if k = 3 then (match decR l with | some r => .ok (.rc r) | none => .error 150) else match decN k l with | some n => .ok (.nd n) | none => .error 90 := rfl
 have b0:∀ e,qXb p (pgB im p)=.error e->e≠0:=fun e h h0=>clean_of.alone_err h h0;have a4:∀ g,qXb p (pgB im p)=.ok g->g.right:=fun g h=>((alone_iff b6 h4).1 h).1;generalize qXb p (pgB im p)=A at *;have nz:=qKk;have rz:=rcZero;have T:nd0.length=102:=qQu z32l z32l z32l _;have J:nd0.all one=true:=qXz _ _ _ _ _ _ _ _ rfl;unfold DenF;refine den_cutR 4 (AlS w0 w sb p A) ?_ ?_
 ·simp only[go_sem,j7,vS,jV,Tryz.f26]
  refine qQa pl47 ((page17 w (hi.fr0 f0) hp x8).mono ?_);rintro v1 w1 ⟨rfl,b1,pb,po,pc,rfl,g8⟩;simp only[go_sem,j7];refine qQa pl49 ((unpack5 w1 (hd.no f0) b1 b6 h2 h4).mono ?_);rintro v2 I ⟨f2,hu⟩;obtain⟨W,hW,c6,d9,g9⟩:=qQl I nd0.toArray 78;obtain⟨W',b7,b8,Y,g1⟩:=qQl W (rcC rc00).toArray 80;have Z:=b8.at d9 id;have fW:=(f2.trans c6).trans b8;have s2:=f2.size
  cases b9:unpP p (pgB im p) with
  | error e =>
   rw[b9]at hu B;have hu:v2=.tuple #[.int .i64 0,.slice .none 0 0,.int .i64 e]:=hu;subst hu;have H:A=.error e:=B;subst H;have d5:((e:Int) != 0)=true:=bne_iff_ne.2 (b0 e rfl);simp only[go_sem,j7,yU,qQk,nz,rz,hW,b7,d5];refine qZv ⟨rfl,rfl,fW,0,nd0,rc00,e,I.heap.size,W.heap.size,rfl,rfl,rfl,rfl,x8,x8,Z,Y,T,J,z32l,rfl,rfl,rfl⟩
  | ok kl =>
   obtain⟨k,l⟩:=kl;rw[b9]at hu B;obtain⟨lv,c0,e1⟩:=hu;subst c0;have h1:=((unp_iff b6 h4).1 b9).2.1;have d5:((0:Int) != 0)=false:=rfl;have dk:=nateq k 3;have c7:=(NwB.by e1).fr0 (c6.trans b8)
   by_cases hk:k=3
   ·have B:A=match decR l with | some r=>.ok (.rc r) | none=>.error 150:=B.trans (if_pos hk)
    have dk:((k:Int) == 3)=true:=dk.trans (decide_eq_true hk);simp only[go_sem,j7,yU,bNe,qQk,nz,rz,hW,b7,dk];refine qQa pl50 ((decode15 W' c7 x8).mono ?_);rintro v3 V ⟨f3,L⟩;have M:=f3.at Z id;have N:=f3.at Y id
    cases c8:decR l with
    | none =>
     rw[c8]at L B;have L:v3=.tuple #[.agg (rcC rc00).toArray,.int .i64 150]:=L;subst L;have H:A=.error 150:=B;subst H;have q3:wrO prog 80 V W.heap.size 0 (.agg (rcC rc00).toArray)=some (put V W.heap.size (.cells (rcC rc00).toArray 80 (0,0))):=qQo (by simp[qXc (r:=rc00) z32l];exact sz80) N rfl (by rw[<- kJ];exact A.rcC_one _);simp only[go_sem,j7,q3];refine qZv ⟨rfl,rfl,(fW.trans f3).put (b:=W.heap.size) _ fun h=>by omega,k,nd0,rc00,150,I.heap.size,W.heap.size,rfl,rfl,rfl,rfl,x8,x8,qQh (b:=W.heap.size) M x8,qQd N,T,J,z32l,rfl,rfl,rfl⟩
    | some r =>
     rw[c8]at L B;have L:v3=.tuple #[.agg (rcC r).toArray,.int .i64 0]:=L;subst L;have H:A=.ok (.rc r):=B;subst H;have hrs:r.sum.length=32:=(a4 _ rfl).2;have q3:wrO prog 80 V W.heap.size 0 (.agg (rcC r).toArray)=some (put V W.heap.size (.cells (rcC r).toArray 80 (0,0))):=qQo (by simp[qXc hrs];exact sz80) N (by simp[qXc hrs,qXc (r:=rc00) z32l]) (by rw[<- kJ];exact A.rcC_one _);simp only[go_sem,j7,q3];refine qZv ⟨rfl,rfl,(fW.trans f3).put (b:=W.heap.size) _ fun h=>by omega,k,nd0,r,0,I.heap.size,W.heap.size,rfl,rfl,rfl,rfl,x8,x8,qQh (b:=W.heap.size) M x8,qQd N,T,J,hrs,rfl,hk,rfl,rfl⟩
   ·have B:A=match decN k l with | some n=>.ok (.nd n) | none=>.error 90:=B.trans (if_neg hk)
    have dk:((k:Int) == 3)=false:=dk.trans (decide_eq_false hk);simp only[go_sem,j7,yU,bNe,qQk,nz,rz,hW,b7,dk];refine qQa pl51 ((decode9 W' k c7 x8).mono ?_);rintro v3 V ⟨f3,L⟩;have M:=f3.at Z id;have N:=f3.at Y id
    cases a5:decN k l with
    | none =>
     rw[a5]at L B;have L:v3=.tuple #[.agg nd0.toArray,.int .i64 90]:=L;subst L;have H:A=.error 90:=B;subst H;have q3:wrO prog 78 V I.heap.size 0 (.agg nd0.toArray)=some (put V I.heap.size (.cells nd0.toArray 78 (0,0))):=qQo (by simp[T];exact sz78) M rfl (by rw[<- kJ];exact J);simp only[go_sem,j7,q3];refine qZv ⟨rfl,rfl,(fW.trans f3).put (b:=I.heap.size) _ fun h=>by omega,k,nd0,rc00,90,I.heap.size,W.heap.size,rfl,rfl,rfl,rfl,x8,x8,qQd M,qQh (b:=I.heap.size) N x8,T,J,z32l,rfl,rfl,rfl⟩
    | some n =>
     rw[a5]at L B;obtain⟨x,e3,vv,rfl,c9,d0,c0⟩:=L;subst e3;have H:A=.ok (.nd n):=B;subst H;have e4:k=n.kind:=(decN_iff.1 a5).2.1;have a0:(ndA n vv).length=102:=decN_len a5 vv;have b3:(ndA n vv).all one=true:=ndA_1 n c9;have q3:wrO prog 78 V I.heap.size 0 (.agg (ndA n vv).toArray)=some (put V I.heap.size (.cells (ndA n vv).toArray 78 (0,0))):=qQo (by simp[a0];exact sz78) M (by simp[a0,T]) (by rw[<- kJ];exact b3);have fp:Fr (fun b=>b=I.heap.size) V (put V I.heap.size (.cells (ndA n vv).toArray 78 (0,0))):=(Fr.refl _ _).put (b:=I.heap.size) _ fun _=>rfl;have d1:NwB w0 (put V I.heap.size (.cells (ndA n vv).toArray 78 (0,0))) vv (ndVal n):=NwB.back (Nw.fr d0 fp fun b hb e=>by have:=(NwB.lt d0 hb).1;omega) (by have:=f0.size;omega);simp only[go_sem,j7,q3];refine qZv ⟨rfl,rfl,(fW.trans f3).put (b:=I.heap.size) _ fun h=>by omega,k,ndA n vv,rc00,0,I.heap.size,W.heap.size,rfl,rfl,rfl,rfl,x8,x8,qQd M,qQh (b:=I.heap.size) N x8,a0,b3,z32l,rfl,e4,⟨vv,rfl,c9,d1,c0⟩,rfl⟩
 rintro ev w6 ⟨e0,e2,f6,kd,E,r,e,nb,rb,e6,e8,e9,a3,e5,e7,Z,Y,c3,f1,d2,H⟩;have c4:=hM.fr0 f6
 have U:NdS w0 w6 (nodeOf A) E:=by
  cases A with
  | error e'=>exact H.2.1
  | ok g=>cases g with
   | nd n=>exact H.2.2.1
   | rc r'=>exact H.2.2.1
 have f4:r=rcOf A:=by
  cases A with
  | error e'=>exact H.2.2
  | ok g=>cases g with
   | nd n=>exact H.2.2.2
   | rc r'=>exact H.2.2.2
 have d4:=qQi Z;have d6:=qQi Y;refine qZf (fun ev w7=>ev 0=pt sb 0/\ev 2=.int .i64 (p:Nat)/\ev 6=.int .i64 ((kdOf A:Nat):Int)/\ev 9=pt nb 0/\ev 10=pt rb 0/\w7.heap[nb]?=some (.cells E.toArray 78 (0,0))/\w7.heap[rb]?=some (.cells (rcC r).toArray 80 (0,0))/\w6.heap.size<=w7.heap.size/\Fr (TF SS w0 w) w w7/\SeS w0 w7 sb s ks nrows rs ats (fs++fsOf p A)/\NdS w0 w7 (nodeOf A) E) ?_ ?_
 ·cases A with
  | error e' =>
   have f5:e=e':=H.1;subst f5;have d5:((e:Int) != 0)=true:=bne_iff_ne.2 (b0 e rfl);simp only[go_sem,j7,Tryz.f26,e8,d5,e0,e2];refine qQa pl48 ((finds17 c4 p e x8).mono ?_);rintro _ w7 ⟨F7,M7⟩;simp only[go_sem,j7,e0,e2,e9,a3,true_and];have d7:=TF.sub F7 (SE.ss j0);exact⟨rfl,TF.at F7 Z j0,TF.at F7 Y j0,F7.size,TF.trans (TF.of SS w0 f6) d7,M7,U.fr d7⟩
  | ok g =>
   have f7:e=0:=by cases g <;> exact H.1
   have f8:kd=g.kind:=by cases g <;> exact H.2.1
   subst f7;have d5:((0:Int) != 0)=false:=rfl;simp only[go_sem,j7,bNe,Tryz.f26,e8,e0,e2,e6,e9,a3,true_and];exact⟨by rw[f8];rfl,Z,Y,xC _,TF.of SS w0 f6,by show SeS w0 w6 sb s ks nrows rs ats (fs++[]);rw[z4];exact c4,U⟩
 clear e0 e2 e6 e8 e9 a3 Z Y H c4 U e5 e7 d4 d6 f6;rintro ev w7 ⟨e0,e2,e6,e9,a3,Z,Y,_,F7,M7,U⟩;obtain⟨v1,v2,w8,ob,r1,q1,s1,F8,M8⟩:=M7.pushK (kdOf A) x8;have d3:=nateq (kdOf A) 3;simp only[go_sem,j7,yU,jV,e0,e6,r1];refine qQn (v:=.slice (some ⟨w7.heap.size,0,none⟩) 1 1) (w':=w7.alloc (.cells #[vi (kdOf A)] 3)) (qQx (K:=1) j0 j0 (y:=[.int .i64 0]) rfl rfl rfl _) ?_;simp only[go_sem,j7];refine qQj ⟨v2,w8,q1,?_⟩;simp only[go_sem,j7,jV,s1];have a6:=TF.at F8 Z j0;have a7:=TF.at F8 Y j0;have a8:=TF.trans F7 (TF.sub F8 (SE.ss j0));have O:=U.fr (TF.sub F8 (SE.ss j0));generalize put w8 sb ob=w9 at *;clear F8 Z Y M7 U r1 q1 s1;refine qXj (fun j=>j == 6) (.row [0,1,2,3,4,5,6,7,8,9,10]) rfl x9 x9 ?_;have M8:=M8.fr0 (Fr.refl (fun _=>False) w9).drew;have a6:w9.drew.heap[nb]?=_:=a6;have a7:w9.drew.heap[rb]?=_:=a7;have a8:Fr (TF SS w0 w) w w9.drew:=a8.drew;have O:=O.fr (TF.of SS w0 (Fr.refl (fun _=>False) w9).drew);generalize w9.drew=wa at *;obtain⟨v1,v2,w8,ob,r1,q1,s1,F9,M9⟩:=M8.pushN c3 f1 x8;have lN:=qQm (P:=prog) (t:=78) agg78 sz78 a6 (by simp[c3]);simp only[go_sem,j7,yX,yU,jV,qQk,OT.row,e0,e9,r1,lN];refine qKg (v:=.slice (some ⟨wa.heap.size,0,none⟩) 1 1) (w':=wa.alloc (.cells E.toArray 78)) (qQx (K:=102) j0 j0 (y:=nd0) (qQu z32l z32l z32l _) (by simp[]) (by simp[c3]) _) (fun _=>((Fr.refl (fun _=>False) _).alloc _).ext) ?_;simp only[go_sem,j7];refine qXf ⟨v2,w8,q1,?_⟩;refine⟨(fun h=>by cases h),?_⟩;simp only[go_sem,j7,yX,jV,s1];have c5:=TF.at F9 a7 j0;have a9:=TF.trans a8 (TF.sub F9 (SE.ss j0));have R:=O.fr (TF.sub F9 (SE.ss j0))
 generalize put w8 sb ob=wb at *;clear F9 a7 a6 M8 a8 O r1 q1 s1 lN;refine qXj (fun j=>j == 6) (.row [0,1,2,3,4,5,6,7,8,9,10]) rfl x9 x9 ?_;have M9:=M9.fr0 (Fr.refl (fun _=>False) wb).drew;have c5:wb.drew.heap[rb]?=_:=c5;have a9:Fr (TF SS w0 w) w wb.drew:=a9.drew;have R:=R.fr (TF.of SS w0 (Fr.refl (fun _=>False) wb).drew);generalize wb.drew=wc at *;obtain⟨v1,v2,w8,ob,r1,q1,s1,Fa,Ma⟩:=M9.pushR (r:=r) d2 x8;have b4:(rcC r).toArray.size=38:=by rw[kG];exact qXc d2
 have lR:=qQm (P:=prog) (t:=80) agg80 sz80 c5 b4;simp only[go_sem,j7,yX,yU,jV,qQk,OT.row,e0,a3,r1,lR];refine qKg (v:=.slice (some ⟨wc.heap.size,0,none⟩) 1 1) (w':=wc.alloc (.cells (rcC r).toArray 80)) (qQx (K:=38) j0 j0 (y:=rcC rc00) (qXc z32l) (by simp[]) b4 _) (fun _=>((Fr.refl (fun _=>False) _).alloc _).ext) ?_;simp only[go_sem,j7];refine qXf ⟨v2,w8,q1,?_⟩;refine⟨(fun h=>by cases h),?_⟩;simp only[go_sem,j7,yX,jV,s1];have d8:=TF.trans a9 (TF.sub Fa (SE.ss j0));have b5:=R.fr (TF.sub Fa (SE.ss j0));generalize put w8 sb ob=wd at *;rw[f4]at Ma;clear Fa M9 a9 R r1 q1 s1 lR
 have f9:kdOf A=3->∃ r',A=.ok (.rc r'):=fun h=>by
  cases A with
  | error e'=>cases h
  | ok g=>cases g with
   | nd n=>cases n <;> cases h
   | rc r'=>exact⟨r',rfl⟩
 by_cases h3:kdOf A=3
 ·have d3:(((kdOf A:Nat):Int) == 3)=true:=d3.trans (decide_eq_true h3)
  obtain⟨r',rfl⟩:=f9 h3;obtain⟨v1,v2,w8,ob,r1,q1,s1,Fb,Mb⟩:=Ma.pushA p x8;simp only[go_sem,j7,yU,jV,e0,e2,e6,d3,r1];refine qQn (v:=.slice (some ⟨wd.heap.size,0,none⟩) 1 1) (w':=wd.alloc (.cells #[vi p] 3)) (qQx (K:=1) j0 j0 (y:=[.int .i64 0]) rfl rfl rfl _) ?_;simp only[go_sem,j7];refine qQj ⟨v2,w8,q1,?_⟩;simp only[go_sem,j7,jV,s1];exact⟨TF.trans d8 (TF.sub Fb (SE.ss j0)),E,Mb,b5.fr (TF.sub Fb (SE.ss j0))⟩
 ·have d3:(((kdOf A:Nat):Int) == 3)=false:=d3.trans (decide_eq_false h3)
  have g0:atOf p A=[]:=by
   cases A with
   | error e'=>rfl
   | ok g=>cases g with
    | nd n=>rfl
    | rc r'=>exact absurd rfl h3
  rw[g0,z4];simp only[go_sem,e6,d3];exact⟨d8,E,Ma,b5⟩
end
end R
end
section
namespace R
open Aud A
theorem flat_take' {k:Nat}:∀ (rows:Rows) (m:Nat),RowsOk k rows->(rows.take m).flatten=rows.flatten.take (m*k)
 | [],m,_=>by simp
 | r::rows,0,_=>by simp
 | r::rows,m+1,h=>by
  have A:=(h r sm).1;rw[List.take_succ_cons,List.flatten_cons,List.flatten_cons,flat_take' rows m h.tail,show (m+1)*k=r.length+m*k by rw[A,Nat.succ_mul];omega,List.take_append,zB (l:=r) x8,Nat.add_sub_cancel_left]
theorem NwR.cutLo {rows:Rows}(h:NwR w0 w e k (.slice a n cap) rows){m:Nat}(Z:m<=n):NwR w0 w e k (V.cutV k a cap 0 m) (rows.take m):=by
 obtain⟨B,N,O⟩:=h;have R:=rows_len B
 rcases N with ⟨E,hn,_⟩ | ⟨b,o,L,c,E,T,U,W,M,H⟩
 ·cases E
  obtain rfl:m=0:=x8
  rw[List.take_zero];exact⟨RowsOk.nil _,.inl ⟨rfl,rfl,rfl⟩,(fun x I=>by cases I)⟩
 ·cases E
  have A:(rows.take m).length=m:=by rw[lTk];omega
  have J:V.cutV k (some ⟨b,o,.none⟩) cap 0 m=.slice (some ⟨b,o,.none⟩) m cap:=by
   unfold V.cutV;have:(⟨b,o,.none⟩:Addr).add 0=⟨b,o,.none⟩:=by rw[qVc];simp
   simp[this]
  rw[J];refine⟨fun r Y=>B r (List.mem_of_mem_take Y),.inr ⟨b,o,cap,c,by rw[A],T,U,by rw[A];omega,?_,?_⟩,fun x I=>O x I⟩
  ·rw[flat_take' rows m B,lTk,R,A,Nat.min_eq_left (xR _ x8)]
  ·intro i hi
   rw[A]at hi;rw[flat_take' rows m B,List.getElem?_take_of_lt hi];exact H i (Nat.lt_of_lt_of_le hi (xR _ x8))
theorem NwR.mk1 (w:World)(p:Nat):NwR w (w.alloc (.cells #[vi p] 3)) 3 1 (.slice (some ⟨w.heap.size,0,kZ⟩) 1 1) (inR [p]) :=
 ⟨inR_ok _,.inr ⟨w.heap.size,0,1,#[vi p],rfl,qQb _ _,show 0+1*1<=1 by decide,show 1<=1 by decide,rfl,fun i hi=>by
  obtain rfl:i=0:=by have:i<1:=hi;omega
  rfl⟩,fun x A=>by cases A;exact xC _⟩
theorem NwR.push2 {l:List Nat}(h:NwR w0 w 3 1 v (inR l))(a b:Nat)(M:l.length<=2 ^ 30)(f:No w0 w):∃ A w', (qC #[45, 45] 0 #[v, .slice (some ⟨w.heap.size, 0, none⟩) 2 2]).run prog (w.alloc (.cells #[vi a, vi b] 3))=.ok A w' /\
  NwR w0 w' 3 1 A (inR (l++[a,b]))/\Fr (fun x=>qQf v=some x) w w':=by
 have B:=qZq l;obtain⟨A,w',E,H,I,N⟩:=app_freshX app45_45 h.2 (m:=2) (xs:=#[vi a,vi b]) rfl rfl j0 (bd_small x8) x8 f.size;refine⟨A,w',E,⟨inR_ok _,?_⟩,I⟩;have J:(inR (l++[a,b])).length=(inR l).length+2:=by simp[qZq]
 have L:(inR (l++[a,b])).flatten=(inR l).flatten++[vi a,vi b]:=by simp[inR]
 rw[J,L];exact H
def ChO (b w:World)(v:Value)(cs:List Bat.Ch):Prop:=∃ rows,NwR b w 134 34 v rows/\rows.length=cs.length/\∀ i (h:i<rows.length) (A:i<cs.length),∃ vv,rows[i]=V.chRow cs[i] vv/\one vv=true/\By5 b vv cs[i].val/\(cs[i].del=true->vv=.slice kZ 0 0)/\cs[i].key.length=32
theorem ChO.fr (h:ChO b w v cs)(f:Fr F w w')(A:∀ x,qQf v=some x->¬ F x):ChO b w' v cs:=by
 obtain⟨rows,B,E⟩:=h;exact⟨rows,B.fr f A,E⟩
theorem ChO.rd (h:ChO b w v cs)(f:No b w):ChR w v cs:=by
 obtain⟨rows,A,B,E⟩:=h;refine⟨rows,A.rd,B,fun i a c=>?_⟩;obtain⟨vv,H,I,J,L,M⟩:=E i a c;exact⟨vv,H,I,J.fr0 f,L,M⟩
def toCh (e:En):Bat.Ch:=⟨e.1,false,e.2⟩
theorem ChO.push (h:ChO b w v cs)(f:No b w){e:En}(L:e.1.length=32)(M:one vv=true)(T:By5 b vv e.2)(hl:cs.length<=2 ^ 30) :
  ∃ N w',(qC #[95,95] 0 #[v,.slice (some ⟨w.heap.size,0,.none⟩) 1 1]).run prog (w.alloc (.cells (chC e.1 false vv) 134))=.ok N w'/\ChO b w' N (cs++[toCh e])/\Fr (fun x=>qQf v=some x) w w'/\No b w':=by
 obtain⟨rows,O,A,E⟩:=h;obtain⟨U,W,H,Y,R,m8⟩:=O.push (P:=prog) app95_95 (xs:=V.chRow (toCh e) vv) (by simp[V.chRow,toCh,L]) (by have:=chC_one (k:=e.1) false M;rw[<- kJ]at this;simpa [chC,V.chRow,toCh] using this) j0 x8 x8 f.size;refine⟨U,W,H,⟨rows++[V.chRow (toCh e) vv],Y,by simp[A],?_⟩,R,f.trans' R fun b' Z h=>by have:=(O.lt h).1;omega⟩;intro q hq I
 by_cases B:q<rows.length
 ·obtain⟨x,a1,a2⟩:=E q B x8
  have J:(cs++[toCh e])[q]=cs[q]'x8:=z9 x8;rw[J];exact⟨x,by rw[z9 B];exact a1,a2⟩
 ·obtain rfl:q=rows.length:=by simp at hq;omega
  have J:(cs++[toCh e])[rows.length]'I=toCh e:=by simp[A]
  rw[J];exact⟨vv,sm,M,T,(fun h=>by cases h),L⟩
def kdG (pg:Nat->Option Pg)(p:Nat):Nat:=match pg p with
 | some g=>g.kind
 | none=>0
def FullM (w0 w:World)(sb:Nat)(s:Sup)(pg:Nat->Option Pg):Prop:=∃ nrows,SeS w0 w sb s ((qI s.mark).map (kdG pg)) nrows ((qI s.mark).map (rcAt pg)) (chF pg s.mark) []/\nrows.length=s.mark/\∀ i (h:i<nrows.length),NdS w0 w (pnOf pg i) nrows[i]
theorem FullM.fr0 {s:Sup}{pg:Nat->Option Pg}(h:FullM w0 w sb s pg)(f:No w w'):FullM w0 w' sb s pg:=by
 obtain⟨nrows,A,B,E⟩:=h;exact⟨nrows,A.fr0 f,B,fun i hi=>(E i hi).fr (TF.of SS w0 f)⟩
def lvI (b:World)(sb A:Nat)(pn:Nat->Option Nd)(R:Option (List En))(n:Nat)(vs:List Value)(w:World):Prop :=
 ∃ (seen:Nat) (B:List Nat) (cs:List En) (cv E:Value),vs=[pt sb 0,.int .i64 (A:Nat),cv,E,.int .i64 (seen:Nat)]/\n=2*(2*A+1 - seen)+B.length/\seen+n<=4*A+3/\cs.length<=seen/\NwR b w 3 1 E (inR B.reverse)/\ChO b w cv (cs.map toCh)/\No b w/\leavesP pn (2*A+1 - seen) B cs=R
theorem bldCh {k:Bs}(A:k.length=32)(E:one vv=true):bldO prog 134 [(0,dg k),(2,vv)]=some (.agg (chC k false vv)):=by
 simp only[bldO,zero134,places134,qV];have B:(Value.agg (Array.replicate 32 (.int .u8 0)++#[Value.bool false,Value.slice .none 0 0])).cells.size=34:=rfl;have e:(dg k).cells.toList=k.map u8:=rfl;rw[fill_cons (off:=0) (n:=32) rfl (by simp[yU,A]) (by rw[B];decide),fill_one1 (off:=33) rfl E (by rw[qJg,B];decide),qXq,Option.map_some]
 congr 2
 apply Array.toList_inj.1;rw[vE,e,qJh _ _ _ (by rw[B,zE,A];decide)];simp[yU,A,chC]
theorem getD_last (r:List Nat)(p:Nat):(r.reverse++[p]).getD r.length 0=p:=by
 rw[gDq,List.getElem?_append_right sm];simp
theorem leaves17 (w0 w:World){s:Sup}{pg:Nat->Option Pg}(hM:FullM w0 w sb s pg)(hpg:PgOk pg s.mark)(hm:s.mark<=4096)(p mark:Nat)(d3:mark<=4096) :
  Fn prog 27 #[pt sb 0,.int .i64 (p:Nat),.int .i64 (mark:Nat)] w fun v w'=>No w w'/\match leavesP (pnOf pg) (2*mark+1) [p] [] with
   | none=>v=.tuple #[nil0,.bool false]
   | some cs=>∃ cv,v=.tuple #[cv,.bool true]/\ChR w' cv (cs.map toCh):=by
 refine go27 sm ?_;generalize hR:leavesP (pnOf pg) (2*mark+1) [p] []=R;simp -implicitDefEqProofs only[go_sem,j7,vS,yU,jV,Tryz.f27];refine qQn (v:=.slice (some ⟨w.heap.size,0,none⟩) 1 1) (w':=w.alloc (.cells #[vi p] 3)) (qQx (K:=1) j0 j0 (y:=[.int .i64 0]) rfl rfl rfl _) ?_;simp -implicitDefEqProofs only[go_sem];have I:No w (w.alloc (.cells #[vi p] 3)):=(Fr.refl _ _).alloc _;have U:=NwR.mk1 w p;refine loopD [0,2,8,9,10] (lvI w sb mark (pnOf pg) R) (4*mark+3) ⟨0,[p],[],nil0,_,rfl,by simp;omega,x8,xC _,U,⟨[],NwR.nil _ _ _ _,rfl,fun i h=>absurd h sm⟩,I,hR⟩ ?_;clear U I;rintro _ vs M g ⟨seen,J,cs,cv,tv,rfl,rfl,d4,d5,hT,hC,I,L⟩;obtain⟨ta,tc,Y,c0⟩:=hT.rd.slice;have c4:(inR J.reverse).length=J.length:=by rw[qZq,rZ]
 rw[c4]at Y c0;subst Y;generalize hN:J.length=N at *
 cases J with
 | nil =>
  cases hN;rw[qWe]at L;simp -implicitDefEqProofs only[go_sem,j7];rw[<- L];exact⟨I,cv,rfl,hC.rd I⟩
 | cons p r =>
  rw[qXm]at L;obtain rfl:r.length+1=N:=hN;have b3:(p::r).reverse=r.reverse++[p]:=List.reverse_cons;rw[b3]at hT;have a5:=in_rd hT.rd (i:=r.length) sm;obtain⟨tb,to,d6,Y,a5⟩:=a5;rw[getD_last]at a5;rw[show (r.reverse++[p]).length=r.length+1 by simp]at Y;cases Y;have hcut:=NwR.cutLo hT (m:=r.length) x8
  have c5:(inR (r.reverse++[p])).take r.length=inR r.reverse:=by
   unfold inR;rw[<- List.map_take,List.take_append,zB sm];simp
  rw[c5]at hcut;have rp:=a5 M (Fr.refl _ _);have d0:=dTo (((r.length+1:Nat):Int) > 0);have c1:IntKind.i64.wrap (((r.length+1:Nat):Int) - 1)=((r.length:Nat):Int):=qXv (b:=1) x8 x8;have y1:(0:Int)<=((r.length:Nat):Int)/\((r.length:Nat):Int)<((r.length+1:Nat):Int):=x8
  have c2:=iSu (i:=seen);have sl:qQv prog 45 (.slice (some ⟨tb,to,none⟩) (r.length+1) tc) none (some (.int .i64 (r.length:Nat))) none=some (V.cutV 1 (some ⟨tb,to,none⟩) tc 0 r.length):=slc_hi slc45 arr45 sz3 (l:=r.length) (n:=r.length+1) x8 x8;generalize V.cutV 1 (some ⟨tb,to,.none⟩) tc 0 r.length=tv at *;simp -implicitDefEqProofs only[go_sem,j7,vS,jV,d0,c1,y1,and_self,iTn,j8,rp,sl];have A:=nateq p 0
  by_cases a6:p=0
  ·rw[decide_eq_true a6]at A
   rw[if_pos a6]at L;have A:((p:Int) == 0)=true:=A;simp -implicitDefEqProofs only[go_sem,A,c2];refine⟨2*(2*mark+1 - (seen+1))+r.length,?_,seen+1,r,cs,cv,tv,rfl,rfl,x8,x8,hcut,hC,I,by rw[show 2*mark+1 - (seen+1)=2*mark+1 - seen - 1 by omega];exact L⟩;omega
  rw[decide_eq_false a6]at A;rw[if_neg a6]at L;have A:((p:Int) == 0)=false:=A;have c3:IntKind.i64.wrap (2*(mark:Int))=((2*mark:Nat):Int):=qZu (a:=2) x8;have dr:decide ((seen:Int) > ((2*mark:Nat):Int))=decide (2*mark<seen):=natlt _ _
  by_cases b4:2*mark<seen
  ·rw[decide_eq_true b4]at dr
   rw[if_pos x8]at L;simp -implicitDefEqProofs only[go_sem,j7,vS,qXd,jV,A,c3,dr];rw[<- L];exact⟨I,trivial⟩
  rw[decide_eq_false b4]at dr;rw[if_neg x8]at L;have d2:decide ((p:Int)<2)=decide (p<2):=natlt p 2;have H:pnOf pg p=none->R=none:=fun h=>by rw[h]at L;exact L.symm
  by_cases b5:p<2
  ·rw[decide_eq_true b5]at d2
   have hRn:=H (by
    cases h:pnOf pg p with
    | none=>rfl
    | some n=>have:=(hpg.hnd p n (qKu h)).1;omega)
   simp -implicitDefEqProofs only[go_sem,j7,vS,bSe,qXd,jV,A,c3,dr,d2];rw[hRn];exact⟨I,trivial⟩
  rw[decide_eq_false b5]at d2;obtain⟨nrows,⟨kv,nv,rv,av,fv,hS⟩,d7,hnd⟩:=hM;have Z:=hS.fr0 I;have rm:rdO prog 3 M sb 2=some (vi s.mark):=rd1 agg3 Z.st rfl;have rk:rdO prog 45 M sb 5=some kv:=rd1 agg45 Z.st rfl;have rn:rdO prog 88 M sb 6=some nv:=rd1 agg88 Z.st rfl;have dm:decide ((p:Int) ≥ ((s.mark:Nat):Int))=decide (s.mark<=p):=natle _ _
  by_cases a9:s.mark<=p
  ·rw[decide_eq_true a9]at dm
   have hRn:=H (by unfold pnOf;rw[hpg.hpg p a9]);simp -implicitDefEqProofs only[go_sem,j7,vS,bSe,qXd,jV,A,c3,dr,d2,rm,dm];rw[hRn];exact⟨I,trivial⟩
  rw[decide_eq_false a9]at dm;have c6:((qI s.mark).map (kdG pg)).length=s.mark:=sm
  obtain⟨kb,ko,kc,b6,c7⟩:=in_rd Z.kd.rd (i:=p) x8;rw[c6]at b6;subst b6;have a0:=c7 M (Fr.refl _ _);rw[show ((qI s.mark).map (kdG pg)).getD p 0=kdG pg p by rw[gDq,List.getElem?_map,List.getElem?_range x8];rfl]at a0;have y2:(0:Int)<=((p:Nat):Int)/\((p:Nat):Int)<((s.mark:Nat):Int):=x8
  have d8:=nateq (kdG pg p) 1;have d9:=nateq (kdG pg p) 2;have B:(((kdG pg p:Nat):Int) != 1)=!decide (kdG pg p=1):=by show (!(((kdG pg p:Nat):Int) == ((1:Nat):Int)))=_;rw[nateq]
  have O:(((kdG pg p:Nat):Int) != 2)=!decide (kdG pg p=2):=by show (!(((kdG pg p:Nat):Int) == ((2:Nat):Int)))=_;rw[nateq]
  cases hn:pnOf pg p with
  | none =>
   have hk:kdG pg p≠1/\kdG pg p≠2:=by
    unfold pnOf at hn;unfold kdG;split at hn
    ·cases hn
    ·rename_i hx
     cases hg:pg p with
     | none=>exact⟨show (0:Nat)≠1 by decide,show (0:Nat)≠2 by decide⟩
     | some g=>cases g with
      | nd n=>exact absurd hg (hx n)
      | rc r=>exact⟨show (3:Nat)≠1 by decide,show (3:Nat)≠2 by decide⟩
   rw[decide_eq_false hk.1]at B;rw[decide_eq_false hk.2]at O;have hRn:=H hn;simp -implicitDefEqProofs only[go_sem,j7,bSe,xH,jV,A,c3,dr,d2,rm,dm,rk,y2,and_self,iTn,j8,a0,B,O,xH];rw[hRn];exact⟨I,trivial⟩
  | some n =>
   rw[hn]at L;have hg:=qKu hn;have c8:kdG pg p=n.kind:=by unfold kdG;rw[hg];rfl
   have E:=(hpg.hnd p n hg).2;have b7:p<nrows.length:=x8
   have hrow:=hnd p b7;rw[hn]at hrow;obtain⟨vv,hrow,b0,c9,e0⟩:=hrow;have U:=Z.nd.rd;obtain⟨nb,no,nc,hne,_⟩:=U.pos j0 x8;subst hne;have a3:=U.get (P:=prog) (t:=78) agg78 sz78 j0 (i:=p) b7;rw[hrow]at a3;have y3:(0:Int)<=((p:Nat):Int)/\((p:Nat):Int)<((nrows.length:Nat):Int):=x8
   have nz:=qKk;obtain⟨W,hW,f2,k2,s2⟩:=qQl M nd0.toArray 78
   have a8:(ndA n vv).length=102:=by
    cases n with
    | leaf k v=>exact qQu z32l z32l E.1 _
    | br a b c d e f=>exact qQu E.2.1 E.2.2 z32l _
   have b8:(ndA n vv).all one=true:=ndA_1 n b0;have q2:wrO prog 78 W M.heap.size 0 (.agg (ndA n vv).toArray)=some (put W M.heap.size (.cells (ndA n vv).toArray 78 (0,0))):=qQo (by simp[a8];exact sz78) k2 (by simp[a8,qQu z32l z32l z32l]) (by rw[<- kJ];exact b8);have k3:=qQd (o:=.cells (ndA n vv).toArray 78 (0,0)) k2;have f3:No M (put W M.heap.size (.cells (ndA n vv).toArray 78 (0,0))):=f2.put (b:=M.heap.size) _ fun h=>by omega
   rw[c8]at B O a0
   cases n with
   | leaf k v =>
    have B:(((Nd.kind (.leaf k v):Nat):Int) != 1)=false:=B;simp -implicitDefEqProofs only[go_sem,j7,yU,bSe,qQq,jV,qQk,A,c3,dr,d2,rm,dm,rk,y2,and_self,iTn,j8,a0,B,rn,y3,a3,nz,hW,q2];generalize put W M.heap.size (.cells (ndA (.leaf k v) vv).toArray 78 (0,0))=w3 at *;obtain⟨r0,r1,r2,_,_,_,_,r7,r8⟩:=nd_rd (kind:=1) k3 z32l z32l E.1;have hb:=bldCh (vv:=vv) E.1 b0;have T:=hcut.fr0 f3;have b9:=hC.fr f3 (fun _ _ h=>h);obtain⟨v4,w4,q4,C4,F4,f4⟩:=b9.push (e:=(k,v)) (I.trans f3) E.1 b0 (NwB.by5 c9) (by rw[zE];omega);have dk:(((1:Nat):Int) == 1)=true:=rfl;simp -implicitDefEqProofs only[go_sem,j7,yU,jV,qQk,r0,dk,r7,r8,hb];refine qQn (v:=.slice (some ⟨w3.heap.size,0,none⟩) 1 1) (w':=w3.alloc (.cells (chC k false vv) 134)) (qQx (K:=34) j0 j0 (y:=(chC (zG 32 0) false nil0).toList) (by simp[chC]) (by simp[]) (by simp[chC,E.1]) _) ?_;simp -implicitDefEqProofs only[go_sem,j7];refine qQj ⟨v4,w4,q4,?_⟩;simp -implicitDefEqProofs only[go_sem,j7,c2];refine⟨2*(2*mark+1 - (seen+1))+r.length,x8,seen+1,r,cs++[(k,v)],v4,tv,rfl,rfl,x8,by simp;omega,?_,?_,f4,by rw[show 2*mark+1 - (seen+1)=2*mark+1 - seen - 1 by omega];exact L⟩
    ·refine T.fr F4 fun b a7 b1=>?_
     obtain⟨c,hc⟩:=qQz T a7;obtain⟨d1,hr,_⟩:=b9;obtain⟨c',a4⟩:=qQz hr b1;rw[hc]at a4;cases a4
    ·rw[vD];exact C4
   | br lp rp lc rc ls rs =>
    have B:(((Nd.kind (.br lp rp lc rc ls rs):Nat):Int) != 1)=true:=B;have O:(((Nd.kind (.br lp rp lc rc ls rs):Nat):Int) != 2)=false:=O;simp -implicitDefEqProofs only[go_sem,j7,yU,bSe,jV,qQk,A,c3,dr,d2,rm,dm,rk,y2,and_self,iTn,j8,a0,B,O,rn,y3,a3,nz,hW,q2];generalize put W M.heap.size (.cells (ndA (.br lp rp lc rc ls rs) vv).toArray 78 (0,0))=w3 at *;obtain⟨r0,r1,r2,_,_,_,_,r7,r8⟩:=nd_rd (kind:=2) k3 E.2.1 E.2.2 z32l;have T:=hcut.fr0 f3;obtain⟨v4,w4,q4,T4,F4⟩:=NwR.push2 T lp rp (by rw[rZ];omega) (I.trans f3);have dk:(((2:Nat):Int) == 1)=false:=rfl;simp -implicitDefEqProofs only[go_sem,j7,yU,jV,r0,dk,r1,r2];refine qQn (v:=.slice (some ⟨w3.heap.size,0,none⟩) 2 2) (w':=w3.alloc (.cells #[vi lp,vi rp] 3)) rfl ?_;simp -implicitDefEqProofs only[go_sem,j7];refine qQj ⟨v4,w4,q4,?_⟩;simp -implicitDefEqProofs only[go_sem,j7,c2];refine⟨2*(2*mark+1 - (seen+1))+(r.length+2),x8,seen+1,rp::lp::r,cs,cv,v4,rfl,rfl,x8,x8,?_,?_,?_,by rw[show 2*mark+1 - (seen+1)=2*mark+1 - seen - 1 by omega];exact L⟩
    ·rw[show (rp::lp::r).reverse=r.reverse++[lp,rp] by simp];exact T4
    ·refine (hC.fr f3 (fun _ _ h=>h)).fr F4 fun b a7 b1=>?_
     obtain⟨c,hc⟩:=qQz T b1;obtain⟨d1,hr,_⟩:=hC.fr f3 (fun _ _ h=>h);obtain⟨c',a4⟩:=qQz hr a7;rw[hc]at a4;cases a4
    ·exact (I.trans f3).trans' F4 fun b a7 h=>by have:=(T.lt h).1;omega
end R
end
section
theorem bldE {k:Bs}(A:k.length=32)(h:one vv=true):bldO prog 83 [(0,dg k),(1,vv)]=some (.agg (k.map u8++[vv]).toArray):=by
 simp only[bldO,zero83,places83,qV];have B:(Value.agg (Array.replicate 32 (.int .u8 0)++#[Value.slice .none 0 0])).cells.size=33:=rfl;have e:(dg k).cells.toList=k.map u8:=rfl;rw[fill_cons (off:=0) (n:=32) rfl (by simp[yU,A]) (by rw[B];decide),fill_one1 (off:=32) rfl h (by rw[qJg,B];decide),qXq,Option.map_some]
 congr 2
 apply Array.toList_inj.1;rw[vE,e,qJh _ _ _ (by rw[B,zE,A];decide)];simp[yU,A]
namespace R
open Aud A
def EnO (b w:World)(v:Value)(A:List En):Prop:=∃ rows,NwR b w 83 33 v rows/\rows.length=A.length/\∀ i (h:i<rows.length) (B:i<A.length),∃ vv,rows[i]=enRow A[i] vv/\A[i].1.length=32/\one vv=true/\By5 w vv A[i].2
theorem EnO.frT {B:List En}(h:EnO b w v B)(f:Fr F w w')(E:∀ x c,w.heap[x]?=some (.cells c 5 (0,0))∨w.heap[x]?=some (.cells c 83 (0,0))->¬ F x):EnO b w' v B:=by
 obtain⟨rows,H,I,J⟩:=h;refine⟨rows,H.fr f fun x L=>by obtain⟨c,A⟩:=nwr_ty H L;exact E x c (.inr A),I,fun i a c=>?_⟩;obtain⟨vv,M,N,O,R⟩:=J i a c;exact⟨vv,M,N,O,R.frT f fun x c A=>E x c (.inl A)⟩
theorem EnO.fr0 {A:List En}(h:EnO b w v A)(f:No w w'):EnO b w' v A:=h.frT f fun _ _ _ h=>h
theorem EnO.back {u b w:World}{A:List En}(h:EnO b w v A)(B:u.heap.size<=b.heap.size):EnO u w v A:=by
 obtain⟨rows,E,H⟩:=h;exact⟨rows,E.back B,H⟩
theorem EnO.rd {A:List En}(h:EnO b w v A):EnR w v A:=by
 obtain⟨rows,B,E,H⟩:=h;refine⟨rows,B.rd,E,fun i a c=>?_⟩;obtain⟨vv,I,J,L,M⟩:=H i a c;exact⟨vv,I,J,L,M.1⟩
theorem EnO.one {A:List En}(h:EnO b w v A):V.one v=true:=by
 obtain⟨rows,B,_⟩:=h;obtain⟨a,c,e,_⟩:=B.rd.slice;rw[e];rfl
def ofCh (c:Bat.Ch):En:=(c.key,c.val)
theorem EnO.push {B:List En}(h:EnO b w v B)(f:No b w){k x:Bs}(R:k.length=32)(T:V.one vv=true)(Y:By5 w vv x)(hl:B.length<=2 ^ 30) :
  ∃ U w',(qC #[84,84] 0 #[v,.slice (some ⟨w.heap.size,0,.none⟩) 1 1]).run prog (w.alloc (.cells (k.map u8++[vv]).toArray 83))=.ok U w'/\EnO b w' U (B++[(k,x)])/\No b w':=by
 obtain⟨rows,I,A,J⟩:=h;obtain⟨Z,w8,L,b8,M,m8⟩:=I.push (P:=prog) app84_84 (xs:=enRow (k,x) vv) (by simp[enRow,R]) (by simp only[enRow,List.all_append,qXy,List.all_cons,List.all_nil,T];rfl) j0 x8 x8 f.size
 have W:∀ x c,w.heap[x]?=some (.cells c 5 (0,0))->¬ qQf v=some x:=fun x c hc h=>by
  obtain⟨c',E⟩:=nwr_ty I h;rw[hc]at E;cases E
 refine⟨Z,w8,L,⟨rows++[enRow (k,x) vv],b8,by simp[A],?_⟩,f.trans' M fun b' a0 h=>by have:=(I.lt h).1;omega⟩;intro q hq N
 by_cases H:q<rows.length
 ·obtain⟨y,a1,a2,a3,a4⟩:=J q H x8
  have O:(B++[(k,x)])[q]=B[q]'x8:=z9 x8;rw[O];exact⟨y,by rw[z9 H];exact a1,a2,a3,a4.frT M W⟩
 ·obtain rfl:q=rows.length:=by simp at hq;omega
  have O:(B++[(k,x)])[rows.length]'N=(k,x):=by simp[A]
  rw[O];exact⟨vv,sm,R,T,Y.frT M W⟩
def apI (b:World)(A:Value)(l:List Bat.Ch)(n:Nat)(vs:List Value)(w:World):Prop :=
 ∃ (j:Nat) (out:Value),vs=[nil0,A,out,.int .i64 (0:Nat),.int .i64 (j:Nat)]/\j<=l.length/\n=l.length - j/\EnO b w out ((l.take j).map ofCh)/\No b w
def apJ (W:World)(out:Value)(n:Nat)(vs:List Value)(w:World):Prop:=vs=[nil0,out,.int .i64 (0:Nat)]/\w=W/\n=0
theorem apply3 (w0:World){sv:Value}(h:ChR w0 sv cs)(J:∀ c ∈ cs,c.Ok)(E:∀ c ∈ cs,c.del=false)(hl:cs.length<=2 ^ 20):Fn prog 29 #[nil0,sv] w0 fun v w'=>No w0 w'/\∃ l,l.Perm cs/\Bat.Srt l/\EnO w0 w' v (l.map ofCh):=by
 refine go29 sm ?_;simp -implicitDefEqProofs only[go_sem,j7,jV,Tryz.f29];refine qQa pl53 ((sorted3 cs.length w0 (xC _) h J hl).mono ?_);rintro lv w1 ⟨f1,l,hL,L,hs⟩;obtain⟨la,lc,rfl,a6⟩:=hL.slice;have a7:=L.length_eq;simp -implicitDefEqProofs only[go_sem];refine loopD [0,5,6,7,8] (apI w1 (.slice la l.length lc) l) l.length ⟨0,nil0,rfl,jJ _,rfl,by rw[List.take_zero];exact⟨[],NwR.nil _ _ _ _,rfl,fun i h=>absurd h sm⟩,Fr.refl _ _⟩ ?_;rintro _ vs w2 g ⟨j,out,rfl,hj,rfl,M,N⟩;have H:=natlt j l.length;have d0:decide (((0:Nat):Int)<0)=false:=rfl
 by_cases A:j<l.length
 case neg =>
  rw[decide_eq_false A]at H;rw[zB x8]at M;simp -implicitDefEqProofs only[go_sem,j7,H];refine loopD [0,6,7] (apJ w2 out) 0 ⟨rfl,rfl,rfl⟩ ?_;rintro _ vs B g2 ⟨rfl,rfl,rfl⟩;simp -implicitDefEqProofs only[go_sem,j7];exact⟨f1.trans N,l,L,hs,M.back f1.size⟩
 rw[decide_eq_true A]at H;obtain⟨b1,o1,a8,O,e1,ov,hv,hd,R,T⟩:=hL.at A;cases e1;have U:=E l[j] (L.mem_iff.1 (List.getElem_mem A));have V:l.take (j+1)=l.take j++[l[j]]:=tSg A;generalize l[j]=c at *;have yj:=iBd (i:=j) (n:=l.length);have c2:=iSu (i:=j);simp -implicitDefEqProofs only[go_sem,j7,H];refine loopD [0,5,6,7,8] (fun n vs w=>vs=[nil0,.slice (some ⟨b1,o1,.none⟩) l.length lc,out,.int .i64 (0:Nat),.int .i64 (j:Nat)]/\w=w2/\n=0) 0 ⟨rfl,rfl,rfl⟩ ?_;rintro _ vs B g2 ⟨rfl,rfl,rfl⟩;have W:decide (((0:Nat):Int)<((0:Nat):Int))=false:=rfl;have I:=N.drew;obtain⟨_,_,rb,_⟩:=T B.drew I;obtain⟨_,rk,_,rv⟩:=T B N;obtain⟨_,Y,_,Z⟩:=T B.drew.drew I.drew;rw[U]at rb;have hb:=bldE (vv:=O) R ov;have a0:(c.key.map u8++[O]).toArray.size=33:=by simp[R]
 have a3:=hv.fr0 I.drew;have a4:=M.fr0 ((Fr.refl (fun _=>False) B).drew.drew);have a5:=I.drew;simp -implicitDefEqProofs only[go_sem,j7,yU,qQq,xH,jV,Nat.add_zero,qQk,W,yj,and_self,iTn,rb,Y,Z,hb];refine qQn (v:=.slice (some ⟨B.heap.size,0,none⟩) 1 1) (w':=B.drew.drew.alloc (.cells (c.key.map u8++[O]).toArray 83)) (qQx (K:=33) j0 j0 (y:=(z32.map u8++[nil0])) rfl rfl a0 _) ?_;obtain⟨v5,w5,q5,E5,f5⟩:=a4.push a5 R ov a3 (by simp;omega);simp -implicitDefEqProofs only[go_sem,j7];refine qQj ⟨v5,w5,q5,?_⟩;simp -implicitDefEqProofs only[go_sem,j7,c2];refine⟨l.length - (j+1),x8,j+1,v5,rfl,x8,rfl,?_,f5⟩;rw[V,vD];exact E5
end R
end
section
namespace Aud
theorem leaves_len {pn:Nat->Option Nd}:∀ {n:Nat} {A:List Nat} {cs l:List En},leavesP pn n A cs=some l->l.length<=cs.length+n:=by
 intro n A cs
 induction n,A,cs using leavesP.induct (pn:=pn) with
 | case1 n cs=>intro l h;rw[qWe]at h;cases h;omega
 | case2 n cs r H=>intro l h;rw[qXm,if_pos rfl]at h;have:=H h;omega
 | case3 cs p r E=>intro l h;rw[qXm,if_neg E,if_pos rfl]at h;cases h
 | case4 n cs p r E I B=>intro l h;rw[qXm,if_neg E,if_neg I,B]at h;cases h
 | case5 n cs p r E I k v B H=>intro l h;rw[qXm,if_neg E,if_neg I,B]at h;have:=H h;simp at this;omega
 | case6 n cs p r E I J L _ _ _ _ B H=>intro l h;rw[qXm,if_neg E,if_neg I,B]at h;have:=H h;omega
theorem made_ms {s:Sup}(I:openP im=.ok s)(L:qXi im s.mark=[]){ms:List (List En)}(M:ms.length=(chF (pgF im s.mark) s.mark).length)(J:∀ i (h:i<ms.length), MapIs (pnOf (pgF im s.mark)) s.mark (qXx im s (i+1)).root ms[i]) :
  MadeR im ↔ MadeP im s (qXx im s 1).first ms:=by
 constructor
 ·rintro⟨s',A,_,B,N,E,H⟩
  rw[I]at A;cases A;have:B=ms:=List.ext_getElem x8 fun i a b=>(E i a).uniq (J i b);rw[<- this];exact H
 ·exact fun H=>⟨s,I,L,ms,M,J,H⟩
theorem made_has {s:Sup}(E:openP im=.ok s)(h:MadeR im){i:Nat}(hi:i<(chF (pgF im s.mark) s.mark).length):∃ m,MapIs (pnOf (pgF im s.mark)) s.mark (qXx im s (i+1)).root m:=by
 obtain⟨s',A,_,H,I,B,J⟩:=h;rw[E]at A;cases A;exact⟨_,B i x8⟩
end Aud
namespace R
open Aud A
section
variable {w0 w w':World} {sb:Nat} {s:Sup}
def SeP (w0 w:World)(sb:Nat)(s:Sup)(pg:Nat->Option Pg)(im:Bs)(k:Nat):Prop:=∃ nrows,SeS w0 w sb s ((qI k).map (kdG pg)) nrows ((qI k).map (rcAt pg)) (chF pg k) (qXi im k)/\nrows.length=k/\∀ i (h:i<nrows.length),NdS w0 w (pnOf pg i) nrows[i]
theorem SeP.no {pg:Nat->Option Pg}(h:SeP w0 w sb s pg im k):No w0 w:=by
 obtain⟨_,⟨_,_,_,_,_,h⟩,_⟩:=h;exact h.no
theorem SeP.full {pg:Nat->Option Pg}(h:SeP w0 w sb s pg im s.mark)(B:qXi im s.mark=[]):FullM w0 w sb s pg:=by
 obtain⟨nrows,A,E⟩:=h;rw[B]at A;exact⟨nrows,A,E⟩
theorem SeP.two {mk:Nat}{nrows:Rows}(h:SeS w0 w sb s (zG 2 0) nrows (zG 2 rc00) [] (qXi im 2))(A:nrows=zG 2 nd0):SeP w0 w sb s (pgF im mk) im 2:=by
 subst A;refine⟨_,h,rfl,fun i hi=>?_⟩;have hi:i<2:=hi;have B:pgF im mk i=none:=if_neg x8;have:pnOf (pgF im mk) i=none:=by unfold pnOf;rw[B]
 rw[this];show (zG 2 nd0)[i]=nd0;rw[List.getElem_replicate]
theorem SeP.step (L:2<=k)(N:k<s.mark){nrows:Rows}{A:List Value}(M:nrows.length=k)(hnd:∀ i (h:i<nrows.length), NdS w0 w' (pnOf (pgF im s.mark) i) nrows[i])
  (h:SeS w0 w' sb s ((qI k).map (kdG (pgF im s.mark))++[kdOf (qXb k (pgB im k))]) (nrows++[A]) ((qI k).map (rcAt (pgF im s.mark))++[rcOf (qXb k (pgB im k))]) (chF (pgF im s.mark) k++atOf k (qXb k (pgB im k))) (qXi im k++fsOf k (qXb k (pgB im k))))
  (O:NdS w0 w' (nodeOf (qXb k (pgB im k))) A):SeP w0 w' sb s (pgF im s.mark) im (k+1):=by
 have E:pgF im s.mark k=(match qXb k (pgB im k) with | .ok g=>some g | .error _=>none):=if_pos ⟨L,N⟩;have I:∀ e,qXb k (pgB im k)=.error e->e≠0:=fun e h R=>clean_of.alone_err h R
 have T:kdG (pgF im s.mark) k=kdOf (qXb k (pgB im k)):=by
  unfold kdG;rw[E]
  cases qXb k (pgB im k) <;> rfl
 have U:rcAt (pgF im s.mark) k=rcOf (qXb k (pgB im k)):=by
  unfold rcAt;rw[E]
  cases qXb k (pgB im k) with
  | error e=>rfl
  | ok g=>cases g <;> rfl
 have V:chF (pgF im s.mark) (k+1)=chF (pgF im s.mark) k++atOf k (qXb k (pgB im k)):=by
  unfold chF;rw[List.range_succ,List.filter_append]
  congr 1
  cases H:qXb k (pgB im k) with
  | error e =>
   rw[H]at E;simp[E,atOf]
  | ok g =>
   rw[H]at E
   cases g <;> simp[E,atOf]
 have W:qXi im (k+1)=qXi im k++fsOf k (qXb k (pgB im k)):=by
  have B:qXw im k=match qXb k (pgB im k) with | .ok _=>0 | .error e=>e:=if_neg x8
  rw[qZl]
  congr 1
  cases H:qXb k (pgB im k) with
  | error e =>
   rw[H]at B;have B:qXw im k=e:=B;rw[B,if_neg (I e H)];rfl
  | ok g =>
   rw[H]at B;have B:qXw im k=0:=B;rw[if_pos B];rfl
 have Y:pnOf (pgF im s.mark) k=nodeOf (qXb k (pgB im k)):=by
  unfold pnOf;rw[E]
  cases qXb k (pgB im k) with
  | error e=>rfl
  | ok g=>cases g <;> rfl
 refine⟨nrows++[A],?_,by simp[M],fun i hi=>?_⟩
 ·rw[List.range_succ,vD,vD,V,W]
  show SeS w0 w' sb s (_++[kdG (pgF im s.mark) k]) _ (_++[rcAt (pgF im s.mark) k]) _ _;rw[T,U];exact h
 ·by_cases J:i<nrows.length
  ·rw[z9 J];exact hnd i J
  ·obtain rfl:i=nrows.length:=by simp at hi;omega
   have Z:(nrows++[A])[nrows.length]'hi=A:=sm
   rw[Z,M,Y];exact O
end
def MsT (b w:World)(v:Value)(ms:List (List En)):Prop:=∃ rows,NwR b w 84 1 v rows/\rows.length=ms.length/\∀ i (h:i<rows.length) (A:i<ms.length),∃ mv,rows[i]=[mv]/\EnO b w mv ms[i]
theorem MsT.rd {ms:List (List En)}(h:MsT b w v ms):MsR w v ms:=by
 obtain⟨rows,A,B,E⟩:=h;refine⟨rows,A.rd,B,fun i a c=>?_⟩;obtain⟨mv,e,g⟩:=E i a c;exact⟨mv,e,g.one,g.rd⟩
theorem MsT.fr0 {ms:List (List En)}(h:MsT b w v ms)(f:No w w'):MsT b w' v ms:=by
 obtain⟨rows,A,B,E⟩:=h;refine⟨rows,A.fr0 f,B,fun i a c=>?_⟩;obtain⟨mv,e,g⟩:=E i a c;exact⟨mv,e,g.fr0 f⟩
theorem MsT.push {ms:List (List En)}(h:MsT b w v ms)(f:No b w){m:List En}(O:EnO b w mv m)(hl:ms.length<=2 ^ 30) :
  ∃ R w',(qC #[37,37] 0 #[v,.slice (some ⟨w.heap.size,0,.none⟩) 1 1]).run prog (w.alloc (.cells #[mv] 84))=.ok R w'/\MsT b w' R (ms++[m])/\Fr (TF (·=84) b w) w w':=by
 obtain⟨rows,I,A,J⟩:=h;obtain⟨Z,T,L,b8,U,m8⟩:=I.push (P:=prog) app37_37 (xs:=[mv]) rfl (by simp[O.one]) j0 x8 x8 f.size
 have V:∀ x c t,t≠84->w.heap[x]?=some (.cells c t (0,0))->¬ qQf v=some x:=fun x c t ht B h=>by
  obtain⟨c',E⟩:=nwr_ty I h;rw[B]at E;cases E;exact ht rfl
 have W:∀ {mv:Value} {m:List En},EnO b w mv m->EnO b T mv m:=fun h=>h.frT U fun x c B=>B.elim (V x c _ j0) (V x c _ j0);refine⟨Z,T,L,⟨rows++[[mv]],b8,by simp[A],?_⟩,U.mono fun x _ Y=>?_⟩
 ·intro q hq M
  by_cases H:q<rows.length
  ·obtain⟨y,a1,a2⟩:=J q H x8
   have N:(ms++[m])[q]=ms[q]'x8:=z9 x8;rw[N];exact⟨y,by rw[z9 H];exact a1,W a2⟩
  ·obtain rfl:q=rows.length:=by simp at hq;omega
   have N:(ms++[m])[rows.length]'M=m:=by simp[A]
   rw[N];exact⟨mv,sm,W O⟩
 ·obtain⟨c,B⟩:=nwr_ty I Y
  exact⟨(I.lt Y).1,c,_,_,B,rfl⟩
theorem map_of {cs:List En}{l A:List Bat.Ch}(L:∀ e ∈ cs,e.1.length=32)(N:l.Perm (cs.map toCh))(E:A.Perm l)(O:Bat.Srt A)(R:((cs.map toCh).map Bat.Ch.key).Nodup):(A.map ofCh).Perm cs/\Map 0 (A.map ofCh):=by
 have B:=E.trans N;have e:(cs.map toCh).map ofCh=cs:=by rw[List.map_map];exact List.map_id cs
 have H:(A.map ofCh).Perm cs:=by have:=B.map ofCh;rwa [e]at this
 refine⟨H,?_,fun x T=>L x (H.mem_iff.1 T)⟩
 have I:∀ c ∈ A,c.key.length=32:=fun c U=>by
  obtain⟨y,V,rfl⟩:=List.mem_map.1 (B.mem_iff.1 U);exact L y V
 have J:(A.map Bat.Ch.key).Nodup:=((B.map Bat.Ch.key).nodup_iff).2 R
 have:=srt_adj I O fun q H M=>by
  rw[qQw _ (by simpa using M),qQw _ (by simp;omega)];exact nodup_ne J (by simpa using M) (by simp;omega) x8
 rw[List.pairwise_map]
 exact this.imp fun h=>⟨h,jJ _⟩
end R
end
section
namespace R
open Aud A
def mdI (w0 A:World)(iv:Value)(B sb:Nat)(s:Sup)(im:Bs)(n:Nat)(vs:List Value)(w:World):Prop :=
 ∃ p:Nat,vs=[iv,pt B 0,pt sb 0,vi p]/\2<=p/\p<=s.mark/\n=s.mark - p/\SeP w0 w sb s (pgF im s.mark) im p/\Fr (TF SS w0 A) A w
theorem bldSeen {s:Sup}:bldO prog 92 [(0,.agg (supC s))]=some (.agg (seC s nil0 nil0 nil0 nil0 nil0)):=by
 simp only[bldO,zero92,places92,qV]
 rfl
theorem open_err {e:Int}(h:openP im=.error e):(e != 0)=true:=by
 unfold openP at h;split at h
 ·cases h;rfl
 ·split at h
  ·cases h;rfl
  ·split at h
   ·rename_i A;cases h;exact qWf A
   ·split at h
    ·cases h;rfl
    ·cases h
theorem SeS.nil (f:No w0 w)(s:Sup):SeS w0 (w.alloc (.cells (seC s nil0 nil0 nil0 nil0 nil0) 92)) w.heap.size s [] [] [] [] [] :=
 ⟨nil0,nil0,nil0,nil0,nil0,f.size,f.alloc _,qQb _ _,⟨rfl,rfl,rfl,rfl,rfl⟩,NwR.nil _ _ _ _,NwR.nil _ _ _ _,NwR.nil _ _ _ _,NwR.nil _ _ _ _,NwR.nil _ _ _ _,fun b h=>by cases h⟩
def mdJ (wl:World)(iv:Value)(A sb:Nat)(s:Sup)(im:Bs)(n:Nat)(vs:List Value)(w:World):Prop :=
 ∃ (i:Nat) (msv:Value) (ms:List (List En)),vs=[iv,pt A 0,pt sb 0,msv,vi (if i=0 then 0 else (qXx im s 1).first),vi i]/\i<=(chF (pgF im s.mark) s.mark).length/\n=(chF (pgF im s.mark) s.mark).length - i/\ms.length=i /\
  (∀ j (h:j<ms.length),MapIs (pnOf (pgF im s.mark)) s.mark (qXx im s (j+1)).root ms[j])/\MsT wl w msv ms/\Fr (TF (·=84) wl wl) wl w
theorem made17 (w0:World)(ht:Tabs w0)(hd:DivT w0)(hi:By w0 iv im)(q4:im.length<=2 ^ 47):Fn prog 11 #[iv] w0 fun v w'=>No w0 w'/\∃ b:Bool,v=.bool b/\(b=true ↔ MadeR im):=by
 refine go11 sm ?_;simp -implicitDefEqProofs only[go_sem,j7,Tryz.f11];refine qQa pl24 ((opened17 w0 hd hi x8).mono ?_);rintro v1 w1 ⟨f1,O⟩
 cases ho:openP im with
 | error e =>
  rw[ho]at O;have O:v1=.tuple #[.agg sup0,.int .i64 e]:=O;subst O;obtain⟨W2,b5,f2,k2,s2⟩:=qQl w1 sup0 67;have q2:wrO prog 67 W2 w1.heap.size 0 (.agg sup0)=some (put W2 w1.heap.size (.cells sup0 67 (0,0))):=qQo sz67 k2 rfl qZj;have d2:=open_err ho;simp -implicitDefEqProofs only[go_sem,j7,yU,b5,q2,d2]
  exact⟨(f1.trans f2).put (b:=w1.heap.size) _ (fun h=>by have:=f1.size;omega),false,rfl,fun h=>by (cases h),fun h=>by
   obtain⟨s,a4,_⟩:=h;rw[ho]at a4;cases a4⟩
 | ok s =>
  rw[ho]at O;have O:v1=.tuple #[.agg (supC s),.int .i64 0]:=O;subst O;obtain⟨W2,b5,f2,k2,s2⟩:=qQl w1 sup0 67;have q2:wrO prog 67 W2 w1.heap.size 0 (.agg (supC s))=some (put W2 w1.heap.size (.cells (supC s) 67 (0,0))):=qQo sz67 k2 rfl (qZz _);have k3:=qQd (o:=.cells (supC s) 67 (0,0)) k2;have f3:No w1 (put W2 w1.heap.size (.cells (supC s) 67 (0,0))):=f2.put (b:=w1.heap.size) _ fun h=>by omega
  have d2:((0:Int) != 0)=false:=rfl;simp -implicitDefEqProofs only[go_sem,j7,yU,bNe,b5,q2];generalize put W2 w1.heap.size (.cells (supC s) 67 (0,0))=w3 at *;have l3:=qQm (P:=prog) (t:=67) agg67 sz67 k3;have b3:=bldSeen (s:=s);obtain⟨hs,q1⟩:=open_ok ho;have l8:=hs;obtain⟨_,_,⟨q5,q6⟩,⟨l9,q7⟩,_⟩:=l8;have hl:im.length<=2 ^ 40:=x8
  have m0:=f1.trans f3;have m1:=SeS.nil m0 s;have m2:No w3 (w3.alloc (.cells (seC s nil0 nil0 nil0 nil0 nil0) 92)):=(Fr.refl _ _).alloc _;have k4:=m2.at k3 id;simp -implicitDefEqProofs only[go_sem,j7,yU,l3,b3];clear b5 q2 k2 f2 s2 l3 b3;generalize w3.alloc (.cells (seC s nil0 nil0 nil0 nil0 nil0) 92)=w4 at *;have hsb:w3.heap.size=w3.heap.size:=rfl;generalize w3.heap.size=sb at *;generalize w1.heap.size=b3 at *;refine qQa pl25 ((slots17 m1 hi x8 hl).mono ?_);rintro _ w5 ⟨F5,m3⟩;have k5:=TF.at F5 k4 j0;simp -implicitDefEqProofs only[go_sem];refine loopD [0,3,5,6] (mdI w0 w5 iv b3 sb s im) (s.mark - 2) ⟨2,rfl,xC _,l9,rfl,SeP.two m3 rfl,Fr.refl _ _⟩ ?_;rintro _ vs J g ⟨p,rfl,f0,q8,rfl,hP,F6⟩;have k6:=TF.at F6 k5 j0;have d1:=natlt p s.mark;have d0:rdO prog 3 J b3 2=some (vi s.mark):=rd1 agg3 k6 rfl;have f4:=hP.no
  by_cases L:p<s.mark
  ·rw[decide_eq_true L]at d1
   obtain⟨nrows,m4,d4,hnd⟩:=hP;have c1:=iSu (i:=p);simp -implicitDefEqProofs only[go_sem,j7,jV,d0,d1];have d6:(chF (pgF im s.mark) p).length<=p:=by unfold chF;exact Nat.le_trans (List.length_filter_le _ _) sm
   have r2:(qXi im p).length<=p:=by unfold qXi;exact Nat.le_trans (List.length_filterMap_le _ _) sm
   refine qQa pl26 ((alone17 hd m4 hi hl f0 x8 x8 (by simp;omega) x8 (by simp;omega) x8 x8).mono ?_);rintro _ w7 ⟨F7,q3,m5,m6⟩;simp -implicitDefEqProofs only[go_sem,j7,c1];exact⟨s.mark - (p+1),x8,p+1,rfl,x8,x8,rfl,SeP.step f0 L d4 (fun i hi=>(hnd i hi).fr F7) m5 m6,TF.trans F6 F7⟩
  rw[decide_eq_false L]at d1;obtain rfl:p=s.mark:=x8
  have m7:=hP;obtain⟨nrows,⟨kv,nv,rv,av,fv,hS⟩,d4,hnd⟩:=m7;have f5:(fnR (qXi im s.mark)).length=(qXi im s.mark).length:=fnR_len _;obtain⟨fa,fc,f6,_⟩:=hS.fd.rd.slice;rw[f5]at f6;have rf:rdO prog 23 J sb 10=some fv:=rd1 agg23 hS.st rfl;rw[f6]at rf;have df:decide ((((qXi im s.mark).length:Nat):Int) > 0)=decide (0<(qXi im s.mark).length):=natlt 0 _
  by_cases a5:qXi im s.mark=[]
  case neg =>
   rw[decide_eq_true (List.length_pos_iff.2 a5)]at df;simp -implicitDefEqProofs only[go_sem,j7,jV,d0,d1,rf,df]
   exact⟨f4,false,rfl,fun h=>by (cases h),fun h=>by
    obtain⟨s',a4,h1,_⟩:=h;rw[ho]at a4;cases a4
    exact absurd h1 a5⟩
  rw[decide_eq_false (show ¬ 0<(qXi im s.mark).length by rw[a5];decide)]at df;have hF:=hP.full a5;have hpg:=pgOk (im:=im) hs;clear f5 hP hS hnd;have r3:=chF_len (pgF im s.mark) s.mark;simp -implicitDefEqProofs only[go_sem,j7,jV,d0,d1,rf,df];refine loopD [0,3,5,7,8,9] (mdJ J iv b3 sb s im) (chF (pgF im s.mark) s.mark).length ⟨0,nil0,[],by rw[if_pos rfl];rfl,jJ _,rfl,rfl,(fun j h=>absurd h sm),⟨[],NwR.nil _ _ _ _,rfl,fun i h=>absurd h sm⟩,Fr.refl _ _⟩ ?_;rintro _ vs w7 g ⟨i,msv,ms,rfl,r4,rfl,f7,d7,hM,F7⟩;have b6:No J w7:=TF.no (Fr.refl _ _) F7;have b7:=f4.trans b6;have k7:=b6.at k6 id;have b8:=hF.fr0 b6;have g0:=b8;obtain⟨nrows,⟨kv,nv,rv,av,fv,hS⟩,d4,hnd⟩:=g0;have g1:(inR (chF (pgF im s.mark) s.mark)).length=(chF (pgF im s.mark) s.mark).length:=qZq _;obtain⟨aa,ac,g2,_⟩:=hS.pg.rd.slice;rw[g1]at g2;have ra:rdO prog 45 w7 sb 8=some av:=rd1 agg45 hS.st rfl;rw[g2]at ra;have d3:=natlt i (chF (pgF im s.mark) s.mark).length
  by_cases L:i<(chF (pgF im s.mark) s.mark).length
  case neg =>
   rw[decide_eq_false L]at d3
   have g3:(if i=0 then 0 else (qXx im s 1).first)=(qXx im s 1).first:=by
    by_cases h0:i=0
    ·rw[if_pos h0]
     have hn:chF (pgF im s.mark) s.mark=[]:=List.length_eq_zero_iff.1 x8;unfold qXx;rw[hn];have m8:pgF im s.mark 0=none:=if_neg x8;show 0=(rcAt (pgF im s.mark) 0).first;unfold rcAt;rw[m8]
    ·rw[if_neg h0]
   have m9:(qXx im s 1).first<=2 ^ 30:=(hpg.rc _).1
   have g4:∀ m ∈ ms,MapOk m/\m.length<=4096:=fun m hm=>by
    obtain⟨j,hj,rfl⟩:=List.mem_iff_getElem.1 hm;obtain⟨cs,h1,h2,h3,h4⟩:=d7 j hj;refine⟨⟨h4,fun e R=>?_⟩,by rw[h3.length_eq];exact h2⟩
    rcases leaves_mem h1 e (h3.mem_iff.1 R) with h | ⟨p,hp⟩
    ·cases h
    ·exact (hpg.hnd p _ (qKu hp)).2.2
   have E:=made_ms ho a5 x8 d7;unfold MadeP at E;have r0:rdO prog 3 w7 b3 0=some (vi s.width):=rd1 agg3 k7 rfl;rw[g3];simp -implicitDefEqProofs only[go_sem,j7,jV,ra,d3,r0];refine qQa pl30 ((image17 w7 (ht.no b7) (hd.no b7) s.width (qXx im s 1).first hM.rd g4 x8 m9).mono ?_);rintro _ H ⟨out,rfl,c6,f8,r5⟩;have a0:=b7.trans f8;have d8:=b8.fr0 f8;have k8:=f8.at k7 id;obtain⟨l7,⟨r6,r7,r8,n0,r9,T⟩,_⟩:=d8;obtain⟨a8,c8,c7,_⟩:=T.pg.rd.slice;rw[g1]at c7;have d9:rdO prog 45 H sb 8=some n0:=rd1 agg45 T.st rfl;rw[c7]at d9;obtain⟨ib,io,ic,hiv,s0⟩:=hi.pos x8;rw[hiv];rw[hiv]at hi;have s1:i=(chF (pgF im s.mark) s.mark).length:=x8
   generalize hG:imgP s.width (qXx im s 1).first [] PT.nil 2 ms=G at *;have d5:=natlt 0 (chF (pgF im s.mark) s.mark).length
   by_cases h0:0<(chF (pgF im s.mark) s.mark).length
   ·have d5:decide ((((chF (pgF im s.mark) s.mark).length:Nat):Int) > 0)=true:=d5.trans (decide_eq_true h0)
    have c5:IntKind.i64.wrap (((2+G.length:Nat):Int) - 1)=((2+G.length - 1:Nat):Int):=qXv (b:=1) x8 x8;have a6:(if 0<ms.length then s.mark - 1 else 0)=s.mark - 1:=if_pos x8;simp -implicitDefEqProofs only[go_sem,j7,jV,d9,d5,c5];refine qXj (fun j=>j == 12 || j == 17) (.one 0 (.one 1 (.one 2 (.one 3 (.one 4 (.one 5 (.one 6 (.one 7 (.one 8 (.one 9 (.one 10 (.one 11 (.one 13 (.one 14 (.one 15 (.one 16 (.two 12 (.row [17,18,19,20]) 17 (.row [12,18,19,20])))))))))))))))))) rfl x9 x9 ?_;have M:No H H.drew:=(Fr.refl _ _).drew;have k9:=M.at k8 id;have I:=(NwB.by c6).fr0 M;have e0:=hi.fr0 (a0.trans M);have N:=a0.trans M;generalize H.drew=w9 at *;have rm:rdO prog 3 w9 b3 2=some (vi s.mark):=rd1 agg3 k9 rfl;have rh:rdO prog 3 w9 b3 3=some (vi s.head):=rd1 agg3 k9 rfl;have c2:IntKind.i64.wrap (256*((2+G.length:Nat):Int))=((256*(2+G.length):Nat):Int):=qZu (a:=256) x8
    by_cases hm:2+G.length=s.mark
    case neg =>
     have dm:(((2+G.length:Nat):Int) == ((s.mark:Nat):Int))=false:=(nateq _ _).trans (decide_eq_false hm);simp -implicitDefEqProofs only[go_sem,j7,yX,qQq,jV,OT.row,rm,dm];exact⟨N,false,rfl,fun h=>by (cases h),fun h=>absurd (E.1 h).1 hm⟩
    have dm:(((2+G.length:Nat):Int) == ((s.mark:Nat):Int))=true:=(nateq _ _).trans (decide_eq_true hm);have dh:=nateq (2+G.length - 1) s.head
    by_cases hh:(2+G.length - 1)=s.head
    case neg =>
     have dh:((((2+G.length - 1):Nat):Int) == ((s.head:Nat):Int))=false:=dh.trans (decide_eq_false hh);simp -implicitDefEqProofs only[go_sem,j7,yX,bSe,qQq,jV,OT.row,rm,dm,rh,dh];exact⟨N,false,rfl,fun h=>by (cases h),fun h=>absurd (by have:=(E.1 h).2.1;rw[a6]at this;omega) hh⟩
    have dh:((((2+G.length - 1):Nat):Int) == ((s.head:Nat):Int))=true:=dh.trans (decide_eq_true hh);have e1:qQv prog 22 (.slice (some ⟨ib,io,none⟩) im.length ic) (some (.int .i64 512)) (some (.int .i64 ((256*(2+G.length):Nat):Int))) none=some (V.cutV 1 (some ⟨ib,io,none⟩) ic 512 (256*(2+G.length))):=qWa (P:=prog) slc22 arr22 sz5 (a:=some ⟨ib,io,.none⟩) (n:=im.length) (cap:=ic) (l:=512) (m:=256*(2+G.length)) x8 x8 x8;have W:=e0.cutV (l:=512) (m:=256*(2+G.length)) x8 x8 rfl;have R:=str_eq (qZb 2 G) ((im.drop 512).take (256*(2+G.length) - 512));simp -implicitDefEqProofs only[go_sem,j7,yX,bSe,jV,OT.row,rm,dm,rh,dh,c2,e1]
    have U:∀ b:Bool,b=decide (qZb 2 G=(im.drop 512).take (256*(2+G.length) - 512))->(b=true ↔ MadeR im):=fun b hb=>by
     rw[hb,decide_eq_true_iff,E,a6,hm];exact⟨fun h=>⟨rfl,x8,h⟩,fun h=>h.2.2⟩
    constructor
    ·refine qXf ⟨_,_,qVx I,?_⟩
     refine⟨(fun _=>(Fr.refl (fun _=>False) _).ext),?_⟩;simp -implicitDefEqProofs only[go_sem,j7,bSe];refine qXf ⟨_,_,qVx W,?_⟩;refine⟨(fun _=>(Fr.refl (fun _=>False) _).ext),?_⟩;simp -implicitDefEqProofs only[go_sem,j7,yX,bSe,R];exact⟨N,_,rfl,U _ rfl⟩
    ·refine qXf ⟨_,_,qVx W,?_⟩
     refine⟨(fun _=>(Fr.refl (fun _=>False) _).ext),?_⟩;simp -implicitDefEqProofs only[go_sem,j7,bSe];refine qXf ⟨_,_,qVx I,?_⟩;refine⟨(fun _=>(Fr.refl (fun _=>False) _).ext),?_⟩;simp -implicitDefEqProofs only[go_sem,j7,yX,bSe,R];exact⟨N,_,rfl,U _ rfl⟩
   ·have d5:decide ((((chF (pgF im s.mark) s.mark).length:Nat):Int) > 0)=false:=d5.trans (decide_eq_false h0)
    have a6:(if 0<ms.length then s.mark - 1 else 0)=0:=if_neg x8;simp -implicitDefEqProofs only[go_sem,j7,jV,d9,d5];refine qXj (fun j=>j == 12 || j == 17) (.one 0 (.one 1 (.one 2 (.one 3 (.one 4 (.one 5 (.one 6 (.one 7 (.one 8 (.one 9 (.one 10 (.one 11 (.one 13 (.one 14 (.one 15 (.one 16 (.two 12 (.row [17,18,19,20]) 17 (.row [12,18,19,20])))))))))))))))))) rfl x9 x9 ?_;have M:No H H.drew:=(Fr.refl _ _).drew;have k9:=M.at k8 id;have I:=(NwB.by c6).fr0 M;have e0:=hi.fr0 (a0.trans M);have N:=a0.trans M;generalize H.drew=w9 at *;have rm:rdO prog 3 w9 b3 2=some (vi s.mark):=rd1 agg3 k9 rfl;have rh:rdO prog 3 w9 b3 3=some (vi s.head):=rd1 agg3 k9 rfl;have c2:IntKind.i64.wrap (256*((2+G.length:Nat):Int))=((256*(2+G.length):Nat):Int):=qZu (a:=256) x8
    by_cases hm:2+G.length=s.mark
    case neg =>
     have dm:(((2+G.length:Nat):Int) == ((s.mark:Nat):Int))=false:=(nateq _ _).trans (decide_eq_false hm);simp -implicitDefEqProofs only[go_sem,j7,yX,qQq,jV,OT.row,rm,dm];exact⟨N,false,rfl,fun h=>by (cases h),fun h=>absurd (E.1 h).1 hm⟩
    have dm:(((2+G.length:Nat):Int) == ((s.mark:Nat):Int))=true:=(nateq _ _).trans (decide_eq_true hm);have dh:=nateq 0 s.head
    by_cases hh:0=s.head
    case neg =>
     have dh:((0:Int) == ((s.head:Nat):Int))=false:=dh.trans (decide_eq_false hh);simp -implicitDefEqProofs only[go_sem,j7,yX,bSe,qQq,jV,OT.row,rm,dm,rh,dh];exact⟨N,false,rfl,fun h=>by (cases h),fun h=>absurd (by have:=(E.1 h).2.1;rw[a6]at this;omega) hh⟩
    have dh:((0:Int) == ((s.head:Nat):Int))=true:=dh.trans (decide_eq_true hh);have e1:qQv prog 22 (.slice (some ⟨ib,io,none⟩) im.length ic) (some (.int .i64 512)) (some (.int .i64 ((256*(2+G.length):Nat):Int))) none=some (V.cutV 1 (some ⟨ib,io,none⟩) ic 512 (256*(2+G.length))):=qWa (P:=prog) slc22 arr22 sz5 (a:=some ⟨ib,io,.none⟩) (n:=im.length) (cap:=ic) (l:=512) (m:=256*(2+G.length)) x8 x8 x8;have W:=e0.cutV (l:=512) (m:=256*(2+G.length)) x8 x8 rfl;have R:=str_eq (qZb 2 G) ((im.drop 512).take (256*(2+G.length) - 512));simp -implicitDefEqProofs only[go_sem,j7,yX,bSe,jV,OT.row,rm,dm,rh,dh,c2,e1]
    have U:∀ b:Bool,b=decide (qZb 2 G=(im.drop 512).take (256*(2+G.length) - 512))->(b=true ↔ MadeR im):=fun b hb=>by
     rw[hb,decide_eq_true_iff,E,a6,hm];exact⟨fun h=>⟨rfl,x8,h⟩,fun h=>h.2.2⟩
    constructor
    ·refine qXf ⟨_,_,qVx I,?_⟩
     refine⟨(fun _=>(Fr.refl (fun _=>False) _).ext),?_⟩;simp -implicitDefEqProofs only[go_sem,j7,bSe];refine qXf ⟨_,_,qVx W,?_⟩;refine⟨(fun _=>(Fr.refl (fun _=>False) _).ext),?_⟩;simp -implicitDefEqProofs only[go_sem,j7,yX,bSe,R];exact⟨N,_,rfl,U _ rfl⟩
    ·refine qXf ⟨_,_,qVx W,?_⟩
     refine⟨(fun _=>(Fr.refl (fun _=>False) _).ext),?_⟩;simp -implicitDefEqProofs only[go_sem,j7,bSe];refine qXf ⟨_,_,qVx I,?_⟩;refine⟨(fun _=>(Fr.refl (fun _=>False) _).ext),?_⟩;simp -implicitDefEqProofs only[go_sem,j7,yX,bSe,R];exact⟨N,_,rfl,U _ rfl⟩
  rw[decide_eq_true L]at d3;simp -implicitDefEqProofs only[go_sem,j7,jV,ra,d3];refine qXj (fun j=>j == 13) (.row [0,1,2,4,5,6,8,3,7,9,10,11,12,13,14]) rfl x9 x9 ?_;have fd:No w7 w7.drew:=(Fr.refl _ _).drew;have n3:Fr (TF (·=84) J J) J w7.drew:=F7.drew;have n4:=hM.fr0 fd;have d8:=b8.fr0 fd;have k8:=fd.at k7 id;have a0:=b7.trans fd;have T:=hS.fr0 fd;clear hS hM b8 k7 ra;generalize w7.drew=H at *;obtain⟨ab,ao,s3,g5,n5⟩:=in_rd T.pg.rd L;have ra:=n5 H (Fr.refl _ _);have e2:rdO prog 45 H sb 8=some av:=rd1 agg45 T.st rfl;have b9:rdO prog 89 H sb 7=some rv:=rd1 agg89 T.st rfl;rw[g5]at e2;obtain⟨q2,qm,hq⟩:=hpg.ch (i:=i+1) x8 x8;have g6:chAt (chF (pgF im s.mark) s.mark) (i+1)=(chF (pgF im s.mark) s.mark).getD i 0:=if_neg x8;have a7:qXx im s (i+1)=rcAt (pgF im s.mark) ((chF (pgF im s.mark) s.mark).getD i 0):=by unfold qXx;rw[g6]
  rw[g6]at q2 qm hq;rw[<- a7]at hq;generalize s4:(chF (pgF im s.mark) s.mark).getD i 0=q at *;have n6:(qKc ((qI s.mark).map (rcAt (pgF im s.mark)))).length=s.mark:=by simp[qKc]
  obtain⟨rb,ro,s5,n7,_⟩:=T.rc.rd.pos j0 x8;have e3:=T.rc.rd;rw[n7]at e3 b9;have rr:=e3.get (P:=prog) (t:=80) agg80 sz80 j0 (i:=q) x8;have hrow:(qKc ((qI s.mark).map (rcAt (pgF im s.mark))))[q]'x8=rcC (qXx im s (i+1)):=by rw[a7];simp[qKc]
  rw[hrow]at rr;rw[n6]at b9;have hsum:=(hpg.hrc q _ hq).2.2;have rz:=rcZero;have y1:(0:Int)<=(i:Int)/\(i:Int)<(((chF (pgF im s.mark) s.mark).length:Nat):Int):=x8
  have y2:=iBd (i:=q) (n:=s.mark);obtain⟨W9,g7,f9,k9,s9⟩:=qQl H (rcC rc00).toArray 80;have q9:wrO prog 80 W9 H.heap.size 0 (.agg (rcC (qXx im s (i+1))).toArray)=some (put W9 H.heap.size (.cells (rcC (qXx im s (i+1))).toArray 80 (0,0))):=qQo (by simp[qXc hsum];exact sz80) k9 (by simp[qXc hsum,qXc (r:=rc00) z32l]) (by rw[<- kJ];exact A.rcC_one _);have g8:=qQd (o:=.cells (rcC (qXx im s (i+1))).toArray 80 (0,0)) k9;have a3:No H (put W9 H.heap.size (.cells (rcC (qXx im s (i+1))).toArray 80 (0,0))):=f9.put (b:=H.heap.size) _ fun h=>by omega
  have e9:=f9.ext;have n8:=a3.at k8 id;have g9:rdO prog 3 (put W9 H.heap.size (.cells (rcC (qXx im s (i+1))).toArray 80 (0,0))) H.heap.size 4=some (vi (qXx im s (i+1)).root):=rd1 agg3 g8 rfl;have h5:rdO prog 3 (put W9 H.heap.size (.cells (rcC (qXx im s (i+1))).toArray 80 (0,0))) b3 2=some (vi s.mark):=rd1 agg3 n8 rfl;simp -implicitDefEqProofs only[go_sem,j7,yX,yU,bSe,jV,qQk,OT.row,e2,b9,y1,y2,and_self,iTn,j8,ra,rr,rz,g7,q9,e9,implies_true,true_and,g9,h5];clear g9 h5 q9 e9 g7 s9 f9 k9 rr e3 b9 e2 ra rz hrow;have n9:No J H:=b6.trans fd;have p0:=d8.fr0 a3;have p1:=a0.trans a3;have p2:=n9.trans a3;have p3:=n4.fr0 a3;generalize put W9 H.heap.size (.cells (rcC (qXx im s (i+1))).toArray 80 (0,0))=wa at *;generalize H.heap.size=p4 at *;refine qQa pl27 ((leaves17 w0 wa p0 hpg x8 (qXx im s (i+1)).root s.mark x8).mono ?_);rintro p5 wb ⟨fb,B⟩;have h6:=p1.trans fb
  cases Y:leavesP (pnOf (pgF im s.mark)) (2*s.mark+1) [(qXx im s (i+1)).root] [] with
  | none =>
   rw[Y]at B;have B:p5=.tuple #[nil0,.bool false]:=B;subst B;simp -implicitDefEqProofs only[go_sem,j7,xH]
   exact⟨h6,false,rfl,fun h=>by (cases h),fun h=>by
    obtain⟨m,cs,h1,_⟩:=made_has ho h L;rw[Y]at h1
    cases h1⟩
  | some cs =>
  rw[Y]at B;obtain⟨cv,B,W⟩:=B;subst B;have h7:=leaves_mem Y;have h8:=leaves_len Y
  have e4:∀ e ∈ cs,e.1.length=32/\e.2.length<=128:=fun e R=>by
   rcases h7 e R with h | ⟨p,hp⟩
   ·cases h
   ·exact (hpg.hnd p _ (qKu hp)).2
  have h9:∀ c ∈ cs.map toCh,c.Ok:=fun c hc=>by
   obtain⟨e,R,rfl⟩:=List.mem_map.1 hc;exact⟨(e4 e R).1,(e4 e R).2,fun h=>by cases h⟩
  have d6:(cs.map toCh).length<=2 ^ 20:=by rw[zE];simp at h8;omega
  simp -implicitDefEqProofs only[go_sem,j7,y8];refine qQa pl28 ((normal3 wb W h9 d6).mono ?_);rintro _ wc ⟨a9,s6,e,rfl,R,k0⟩;have p6:=h6.trans a9
  by_cases e5:e=0
  case neg =>
   have de:(e != 0)=true:=bne_iff_ne.2 e5;simp -implicitDefEqProofs only[go_sem,j7,de]
   exact⟨p6,false,rfl,fun h=>by (cases h),fun h=>by
    obtain⟨m,s7,h1,h2,h3,h4⟩:=made_has ho h L;rw[Y]at h1;cases h1;refine absurd (R.2 ⟨by rw[zE];exact h2,?_⟩) e5
    have hn:(m.map Prod.fst).Nodup:=by
     rw[List.Nodup,List.pairwise_map];refine h4.1.imp fun {a b} p7 e=>?_;have:=p7.1;rw[e]at this;exact qZp _ this
    have:=((h3.map Prod.fst).nodup_iff).1 hn;rw[List.map_map]
    exact this⟩
  subst e5;obtain⟨l,hL,c0,s8⟩:=k0 rfl;obtain⟨k1,l0⟩:=R.1 rfl;rw[zE]at k1;have de:((0:Int) != 0)=false:=rfl;have c9:∀ c ∈ l,c.Ok:=fun c hc=>h9 c (c0.mem_iff.1 hc)
  have l1:∀ c ∈ l,c.del=false:=fun c hc=>by
   obtain⟨x,_,rfl⟩:=List.mem_map.1 (c0.mem_iff.1 hc)
   rfl
  have l4:l.length<=2 ^ 20:=by rw[c0.length_eq];exact d6
  have r1:rdO prog 3 wc p4 1=some (vi (qXx im s (i+1)).first):=rd1 agg3 (a9.at (fb.at g8 id) id) rfl;have c3:=(p2.trans fb).trans a9;have p8:=(p3.fr0 fb).fr0 a9;have Fc:Fr (TF (·=84) J J) J wc:=TF.trans n3 (TF.of _ J ((a3.trans fb).trans a9));have c1:=iSu (i:=i);have di:=nateq i 0
  have l5:∀ (l2:List Bat.Ch) (Z:World) (v':Value),l2.Perm l->Bat.Srt l2->MsT J Z v' (ms++[l2.map ofCh])->Fr (TF (·=84) J J) J Z->mdJ J iv b3 sb s im ((chF (pgF im s.mark) s.mark).length - (i+1)) [iv,pt b3 0,pt sb 0,v',vi (qXx im s 1).first,vi (i+1)] Z:=fun l2 Z v' b0 b1 p9 F'=>by
   obtain⟨a1,a2⟩:=map_of (fun e R=>(e4 e R).1) c0 b0 b1 l0;refine⟨i+1,v',ms++[l2.map ofCh],by rw[if_neg x8],x8,rfl,by simp[f7],fun j hj=>?_,p9,F'⟩
   by_cases l6:j<ms.length
   ·rw[z9 l6];exact d7 j l6
   ·obtain rfl:j=ms.length:=by simp at hj;omega
    have el:(ms++[l2.map ofCh])[ms.length]'hj=l2.map ofCh:=sm
    rw[el,f7];exact⟨cs,Y,k1,a1,a2⟩
  have rest:∀ Z,No wc Z->MsT J Z msv ms/\Fr (TF (·=84) J J) J Z:=fun Z f=>⟨p8.fr0 f,TF.trans Fc (TF.of _ J f)⟩
  by_cases c4:i=0
  ·have di:((i:Int) == 0)=true:=di.trans (decide_eq_true c4)
   have q0:(qXx im s (i+1)).first=(qXx im s 1).first:=by rw[c4]
   rw[q0]at r1;simp -implicitDefEqProofs only[go_sem,j7,bNe,jV,di,r1];refine qQa pl29 ((apply3 wc hL c9 l1 l4).mono ?_);rintro mv wd ⟨b4,l2,b0,b1,hE⟩;obtain⟨e6,Fd⟩:=rest wd b4;obtain⟨ma,mc,rfl,_⟩:=hE.rd.slice;obtain⟨v',Z,e7,e8,Fe⟩:=e6.push (c3.trans b4) (hE.back c3.size) x8;simp -implicitDefEqProofs only[go_sem,yU,jV];refine qQn (v:=.slice (some ⟨wd.heap.size,0,none⟩) 1 1) (w':=wd.alloc (.cells #[.slice ma (l2.map ofCh).length mc] 84)) (qQx (K:=1) j0 j0 (y:=[nil0]) rfl rfl rfl _) ?_;simp -implicitDefEqProofs only[go_sem,j7];refine qQj ⟨v',Z,e7,?_⟩;simp -implicitDefEqProofs only[go_sem,j7,c1];exact⟨_,x8,l5 l2 Z v' b0 b1 e8 (TF.trans Fd Fe)⟩
  ·have di:((i:Int) == 0)=false:=di.trans (decide_eq_false c4)
   rw[if_neg c4];simp -implicitDefEqProofs only[go_sem,j7,bNe,di];refine qQa pl29 ((apply3 wc hL c9 l1 l4).mono ?_);rintro mv wd ⟨b4,l2,b0,b1,hE⟩;obtain⟨e6,Fd⟩:=rest wd b4;obtain⟨ma,mc,rfl,_⟩:=hE.rd.slice;obtain⟨v',Z,e7,e8,Fe⟩:=e6.push (c3.trans b4) (hE.back c3.size) x8;simp -implicitDefEqProofs only[go_sem,yU,jV];refine qQn (v:=.slice (some ⟨wd.heap.size,0,none⟩) 1 1) (w':=wd.alloc (.cells #[.slice ma (l2.map ofCh).length mc] 84)) (qQx (K:=1) j0 j0 (y:=[nil0]) rfl rfl rfl _) ?_;simp -implicitDefEqProofs only[go_sem,j7];refine qQj ⟨v',Z,e7,?_⟩;simp -implicitDefEqProofs only[go_sem,j7,c1];exact⟨_,x8,l5 l2 Z v' b0 b1 e8 (TF.trans Fd Fe)⟩
end R
end
section
namespace R
open Aud A
theorem by_frn {bs:Bs}(h:By w v bs)(f:Fr F w w')(A:0<bs.length->∀ b,qQf v=some b->¬ F b):By w' v bs:=by
 by_cases B:0<bs.length
 ·exact h.fr f fun b E _=>A B b E
 ·have:bs=[]:=List.length_eq_zero_iff.1 x8
  subst this;obtain⟨H,a,cap,rfl,I,_⟩:=h;exact⟨H,a,cap,rfl,I,fun h=>absurd h sm⟩
theorem image0 (w:World)(B:Tabs w)(A:DivT w)(wd:Nat)(a:Option Addr)(cap:Nat) :
  Fn prog 30 #[vi wd,vi 0,.slice a 0 cap] w fun v w'=>∃ out,v=.tuple #[out,vi 2]/\No w w':=by
 refine (image17 w B A wd 0 (msv:=.slice a 0 cap) (ms:=[]) ⟨[],⟨RowsOk.nil _,rfl,a,cap,rfl,jJ _,fun h=>absurd h j0⟩,rfl,fun i h=>absurd h sm⟩ (fun m h=>by cases h) j0 j0).mono ?_;rintro v w' ⟨out,rfl,_,f,_⟩;exact⟨out,rfl,f⟩
def im1 (k v D:Bs):Bs:=pagB 1 2 (k++v)++pagB 3 3 (lodR ⟨1,0,0,0,2,1,D⟩)
theorem image1 (w:World)(M:Tabs w)(I:DivT w)(wd:Nat){b o cap:Nat}(B:1<=cap)(hrc:rc w b o=some mv)(L:one mv=true){e:Bs × Bs}(N:EnR w mv [e])(O:e.1.length=32)(R:e.2.length<=128)
  (T:climb wd e.1 0 (leafD wd e.1 e.2) ((empts wd 257).take 256)=D) :
  Fn prog 30 #[vi wd,vi 0,.slice (some ⟨b,o,.none⟩) 1 cap] w fun v w'=>∃ out,v=.tuple #[out,vi 4]/\NwB w w' out (im1 e.1 e.2 D)/\No w w':=by
 have E:Map 0 [e]:=⟨List.pairwise_singleton _ _,fun x J=>by rw[List.mem_singleton.1 J];exact O⟩
 have H:Aud.lay 256 0 true .nil [e] 2=(.leaf 2 e.1 e.2,3):=lay_one 256 0 true (show PT.Wf 0 .nil from trivial) e.1 e.2 2
 have U:imgP wd 0 [] .nil 2 [[e]]=[.nd (.leaf e.1 e.2),.rc ⟨1,0,0,0,2,1,D⟩]:=by
  rw[imgP,H,imgP];show List.map Pg.nd (if 2<=2 then [Nd.leaf e.1 e.2] else [])++[Pg.rc ⟨1,0,0,0,2,1,dgT wd 256 (.leaf 2 e.1 e.2)⟩]=_;rw[if_pos (xC _),dgT_leaf,T]
  rfl
 refine (image17 w M I wd 0 (msv:=.slice (some ⟨b,o,.none⟩) 1 cap) (ms:=[[e]]) ⟨[[mv]],⟨fun r V=>?_,rfl,_,cap,rfl,B,fun _=>⟨b,o,rfl,fun i hi=>?_⟩⟩,rfl,fun i h Y=>?_⟩ (fun m h=>?_) (by show 1<=4096;decide) j0).mono ?_
 ·rw[List.mem_singleton.1 V];exact⟨rfl,by simp[L]⟩
 ·obtain rfl:i=0:=by have:i<1:=hi;omega
  exact hrc
 ·obtain rfl:i=0:=by have:i<1:=h;omega
  exact⟨mv,rfl,L,N⟩
 ·rw[List.mem_singleton.1 h]
  exact⟨⟨E,fun x J=>by rw[List.mem_singleton.1 J];exact R⟩,sm⟩
 ·rintro v w' ⟨out,rfl,A,f,_⟩
  rw[U]at A ⊢;refine⟨out,rfl,?_,f⟩
  have W:qZb 2 [.nd (.leaf e.1 e.2),.rc ⟨1,0,0,0,2,1,D⟩]=im1 e.1 e.2 D:=by
   show Pg.bytes 2 _++(Pg.bytes 3 _++[])=_;rw[z4];rfl
  rw[<- W];exact A
end R
end
section
namespace R
open Aud A
theorem bldS4 (a b c d:Int):bldO prog 67 [(0,.int .i64 a),(1,.int .i64 b),(2,.int .i64 c),(4,.int .i64 d)]=some (.agg #[.int .i64 a,.int .i64 b,.int .i64 c,.int .i64 0,.int .i64 d]):=by
 unfold bldO;rw[zero67,places67];rfl
def dkI (w0:World)(a b c:Value)(P:Bs)(n:Nat)(vs:List Value)(w:World):Prop :=
 ∃ (i:Nat) (v:Value),vs=[.int .i64 5,v]/\i<=256/\n=256 - i/\NwB w0 w v (P++zG i 0)/\No w0 w
theorem sl0 (b o:Nat)(h:1<=cap):qQv prog 37 (.slice (some ⟨b,o,kZ⟩) 1 cap) kZ (some (.int .i64 0)) kZ=some (V.cutV 1 (some ⟨b,o,kZ⟩) cap 0 0) :=
 slc_hi slc37 arr37 sz84 (l:=0) (n:=1) j0 h
theorem cut0 (a:Option Addr)(cap:Nat):∃ A,V.cutV 1 a cap 0 0=.slice A 0 (cap - 0):=⟨_,rfl⟩
theorem disk1 (w:World)(ht:Tabs w)(M:DivT w){b o cap:Nat}(b0:rc w b o=some mv)(om:one mv=true)(hm:EnR w mv [(kz, [7])])
  (hD:climb 3 kz 0 (leafD 3 kz [7]) ((empts 3 257).take 256)=D) (b3:D.length=32) (O:1<=cap) :
  Fn prog 14 #[.int .i64 3,.int .i64 0,.slice (some ⟨b,o,.none⟩) 1 cap,.int .i64 5] w fun v w'=>NwB w w' v (Aud.smI D)/\No w w':=by
 refine go14 sm ?_;simp -implicitDefEqProofs only[go_sem,j7,vS,jV,Tryz.f14];refine qQa pl30 ((image1 w ht M 3 O b0 om hm (show kz.length=32 by decide) sm hD).mono ?_);rintro _ w1 ⟨out,rfl,R,f1⟩;have d1:decide (((4:Nat):Int) > 5)=false:=rfl;have d2:decide ((5:Int)<3)=false:=rfl;have d3:decide ((5:Int) > 4096)=false:=rfl;have d4:decide (((1:Nat):Int) > 0)=true:=rfl;have a1:IntKind.i64.wrap (((1:Nat):Int) - 1)=0:=rfl;have T:=sl0 b o O;generalize Z:V.cutV 1 (some ⟨b,o,.none⟩) cap 0 0=z0 at T;have sl:=T;have N:=cut0 (some ⟨b,o,.none⟩) cap;rw[Z]at N;simp -implicitDefEqProofs only[go_sem,j7,bSe,d1,d2,d3,d4,a1,sl];clear T sl Z
 cases N with
 | intro a0 N =>
 subst N;refine qQa pl30 ((image0 w1 (ht.no f1) (M.no f1) 3 a0 (cap - 0)).mono ?_);rintro _ E ⟨c8,rfl,f2⟩;have a2:IntKind.i64.wrap (1+((1:Nat):Int))=2:=rfl;have a3:IntKind.i64.wrap ((2:Int) - 1)=1:=rfl;have b1:=bldS4 3 2 ((4:Nat):Int) 5;have b2:=bldS4 3 1 ((2:Nat):Int) 5;have U:=f1.trans f2;refine Exists.elim (qQl E #[.int .i64 0,.int .i64 0,.int .i64 0,.int .i64 0,.int .i64 0] 67) fun L I=>?_;have b4:=I.1;have f3:=I.2.1;have k3:=I.2.2.1;have s3:=I.2.2.2;have q3:wrO prog 67 L E.heap.size 0 (.agg #[.int .i64 3,.int .i64 2,.int .i64 ((4:Nat):Int),.int .i64 0,.int .i64 5])=some (put L E.heap.size (.cells #[.int .i64 3,.int .i64 2,.int .i64 ((4:Nat):Int),.int .i64 0,.int .i64 5] 67 (0,0))):=qQo sz67 k3 rfl (by rw[<- kJ];rfl);have k4:=qQd (o:=.cells #[.int .i64 3,.int .i64 2,.int .i64 ((4:Nat):Int),.int .i64 0,.int .i64 5] 67 (0,0)) k3;have f4:No E (put L E.heap.size (.cells #[.int .i64 3,.int .i64 2,.int .i64 ((4:Nat):Int),.int .i64 0,.int .i64 5] 67 (0,0))):=f3.put (b:=E.heap.size) _ fun h=>by omega
 have s4:(put L E.heap.size (.cells #[.int .i64 3,.int .i64 2,.int .i64 ((4:Nat):Int),.int .i64 0,.int .i64 5] 67 (0,0))).heap.size=L.heap.size:=put_heap_size ..;simp -implicitDefEqProofs only[go_sem,j7,yU,a2,a3,b1,b2,b4,q3];generalize put L E.heap.size (.cells #[.int .i64 3,.int .i64 2,.int .i64 ((4:Nat):Int),.int .i64 0,.int .i64 5] 67 (0,0))=w4 at *;refine Exists.elim (qQl w4 #[.int .i64 0,.int .i64 0,.int .i64 0,.int .i64 0,.int .i64 0] 67) fun W5 J=>?_;have b7:=J.1;have f5:=J.2.1;have k5:=J.2.2.1;have s5:=J.2.2.2;rw[s4]at k5;have q5:wrO prog 67 W5 L.heap.size 0 (.agg #[.int .i64 3,.int .i64 1,.int .i64 ((2:Nat):Int),.int .i64 0,.int .i64 5])=some (put W5 L.heap.size (.cells #[.int .i64 3,.int .i64 1,.int .i64 ((2:Nat):Int),.int .i64 0,.int .i64 5] 67 (0,0))):=qQo sz67 k5 rfl (by rw[<- kJ];rfl);have k6:=qQd (o:=.cells #[.int .i64 3,.int .i64 1,.int .i64 ((2:Nat):Int),.int .i64 0,.int .i64 5] 67 (0,0)) k5;have f6:No w4 (put W5 L.heap.size (.cells #[.int .i64 3,.int .i64 1,.int .i64 ((2:Nat):Int),.int .i64 0,.int .i64 5] 67 (0,0))):=f5.put (b:=L.heap.size) _ fun h=>by omega
 have a5:=f6.at k4 id;have d5:decide (((4:Nat):Int) > 2)=true:=rfl;have d6:decide (((2:Nat):Int) > 2)=false:=rfl;have a4:IntKind.i64.wrap (((4:Nat):Int) - 1)=3:=rfl;simp -implicitDefEqProofs only[go_sem,j7,jV,b7,q5,d5,a4];generalize put W5 L.heap.size (.cells #[.int .i64 3,.int .i64 1,.int .i64 ((2:Nat):Int),.int .i64 0,.int .i64 5] 67 (0,0))=Y at *;have q7:wrO prog 3 Y E.heap.size 3 (.int .i64 3)=some (put Y E.heap.size (.cells #[.int .i64 3,.int .i64 2,.int .i64 ((4:Nat):Int),.int .i64 3,.int .i64 5] 67 (0,0))):=wr1 sz3 rfl a5 (show 3<5 by decide);have k7:=qQd (o:=.cells #[.int .i64 3,.int .i64 2,.int .i64 ((4:Nat):Int),.int .i64 3,.int .i64 5] 67 (0,0)) a5;have b8:=qQh (b:=E.heap.size) (o:=.cells #[.int .i64 3,.int .i64 2,.int .i64 ((4:Nat):Int),.int .i64 3,.int .i64 5] 67 (0,0)) k6 (by have:=qQi k4;rw[s4]at this;omega);have f7:No E (put Y E.heap.size (.cells #[.int .i64 3,.int .i64 2,.int .i64 ((4:Nat):Int),.int .i64 3,.int .i64 5] 67 (0,0))):=(f4.trans f6).put (b:=E.heap.size) _ fun h=>by omega
 have d7:decide ((2:Int) > 2)=false:=rfl;simp -implicitDefEqProofs only[go_sem,j7,q7,d6];generalize put Y E.heap.size (.cells #[.int .i64 3,.int .i64 2,.int .i64 ((4:Nat):Int),.int .i64 3,.int .i64 5] 67 (0,0))=w7 at *;have l7:=qQm (P:=prog) (t:=67) agg67 sz67 k7;simp -implicitDefEqProofs only[go_sem,l7];refine qQa pl31 ((super5 w7 (M.no (U.trans f7)) smS j0).mono ?_);rintro va w8 ⟨ba,f8⟩;have l8:=qQm (P:=prog) (t:=67) agg67 sz67 (f8.at b8 id);simp -implicitDefEqProofs only[go_sem,j7,l8];refine qQa pl31 ((super5 w8 (M.no ((U.trans f7).trans f8)) smW j0).mono ?_);rintro vb w9 ⟨bb,f9⟩;have n2:((2:Int)=0)=False:=sm
 have d8:(((2:Int).tmod 2) == 1)=false:=rfl;have sa:=supB_len smS;have sb:=supB_len smW
 have ho:(im1 kz [7] D).length=512:=by
  unfold im1;rw[lAp,qJa j0,qJa (by rw[lodR_len b3];decide)]
 have b9:Aud.smI D=supB smS++supB smW++im1 kz [7] D++zG 256 0:=by
  unfold Aud.smI im1 smR;simp only[List.append_assoc]
 rw[b9];generalize supB smS=SA at *;generalize supB smW=SB at *;generalize im1 kz [7] D=SO at *;have W:No E w9:=(f7.trans f8).trans f9;have a7:No w w9:=U.trans W;have A:=NwB.catB (P:=prog) app22_22 (NwB.nil w w9) (ba.by.fr0 f9) (by rw[sa];decide) a7;simp -implicitDefEqProofs only[go_sem,j7,n2,if_false,d8];refine Exists.elim A fun v1 A=>Exists.elim A fun u1 A=>?_;have g1:No w9 u1:=A.2.2.2.1.mono fun b _ e=>by cases e
 have c0:NwB w u1 v1 SA:=by have:=A.2.1;rwa [List.nil_append]at this
 have m1:∀ b,qQf v1=some b->w9.heap.size<=b:=fun b hb=>(A.2.2.2.2 b hb).resolve_left fun e=>by cases e
 refine qQj ⟨v1,u1,A.1,?_⟩;have B:=NwB.catB (P:=prog) app22_22 c0 (bb.by.fr0 g1) (by rw[sa,sb];decide) (a7.trans g1);simp -implicitDefEqProofs only[go_sem,j7];refine Exists.elim B fun v2 B=>Exists.elim B fun u2 B=>?_;refine qQj ⟨v2,u2,B.1,?_⟩;have c3:By u1 out SO:=R.by.fr0 ((f2.trans W).trans g1)
 have c4:By u2 out SO:=by_frn c3 B.2.2.2.1 fun _ b hb e=>by
  have:=m1 b e;have:=(NwB.lt R hb).2;have:=(f2.trans W).size;omega
 have H:=NwB.catB (P:=prog) app22_22 B.2.1 c4 (by rw[lAp,sa,sb,ho];decide) B.2.2.1;simp -implicitDefEqProofs only[go_sem,j7];refine Exists.elim H fun v3 H=>Exists.elim H fun u3 H=>?_;refine qQj ⟨v3,u3,H.1,?_⟩;have c5:(SA++SB++SO).length=1024:=by rw[lAp,lAp,sa,sb,ho]
 simp -implicitDefEqProofs only[go_sem];refine loopD [3,17] (dkI w nil0 nil0 nil0 (SA++SB++SO)) 256 ⟨0,v3,rfl,j0,rfl,by rw[List.replicate_zero,z4];exact H.2.1,H.2.2.1⟩ ?_;rintro _ vs w5 g ⟨i,v,rfl,hi,rfl,b5,f5⟩;obtain⟨c9,d0,rfl⟩:=b5.slice;have a8:(SA++SB++SO++zG i 0).length=1024+i:=by rw[lAp,c5,lRe]
 rw[a8]at b5 ⊢;have a6:IntKind.i64.wrap (256*(5:Int))=((1280:Nat):Int):=rfl;have dl:=natlt (1024+i) 1280
 by_cases a9:1024+i<1280
 ·rw[decide_eq_true a9]at dl
  have hg:=NwB.grow b5 0 (by rw[a8];omega) f5;rw[List.append_assoc,show (zG i (0:Byte))++[0]=zG (i+1) 0 from (rX ..).symm]at hg;obtain⟨v6,Y,c6,b6,f6,_,_⟩:=hg;simp -implicitDefEqProofs only[go_sem,j7,yU,jV,a6,dl];refine qQn (v:=.slice (some ⟨w5.heap.size,0,none⟩) 1 1) (w':=w5.alloc (.cells (bl [0]) 5)) rfl ?_;simp -implicitDefEqProofs only[go_sem,j7];refine qQj ⟨v6,Y,c6,?_⟩;simp -implicitDefEqProofs only[go_sem,j7];exact⟨256 - (i+1),x8,i+1,v6,rfl,x8,rfl,b6,f6⟩
 ·rw[decide_eq_false a9]at dl
  have c7:i=256:=x8
  subst c7;simp -implicitDefEqProofs only[go_sem,j7,vS,a6,dl];exact⟨b5,f5⟩
end R
end
section
namespace R
open Aud A
theorem kz_len:kz.length=32:=j0
theorem enPlaces:qXh prog 83=some [(0,32),(32,1)]:=x9
theorem bldEn {n c:Nat}:bldO prog 83 [(1,.slice a n c)]=some (.agg (enRow (kz,[7]) (.slice a n c)).toArray):=by
 rw[qJp zero83 enPlaces (c:=(enRow (kz,[7]) nil0).toArray) x9];have A:=qJb (ps:=fun i=>[(0,32),(32,1)][i]?) (i:=1) (o:=32) (a:=kz.map u8) (r:=[]) (u:=nil0) (v:=.slice a n c) (rest:=[]) rfl (by rw[zE];exact kz_len) rfl;rw[qXq]at A;exact congrArg (Option.map Value.agg) A
theorem enR_one {b:Nat}{e:Bs × Bs}(A:e.1.length=32)(B:one vv=true)(E:By w vv e.2){H:TypeId}{fz:Nat × Nat}(h:w.heap[b]?=some (.cells (enRow e vv).toArray H fz)):EnR w (.slice (some ⟨b,0,kZ⟩) 1 1) [e]:=by
 refine⟨[enRow e vv],⟨?_,?_⟩,rfl,fun i a I=>?_⟩
 ·refine RowsOk.one (by simp[enRow,A]) ?_
  unfold enRow;rw[List.all_append,qXy];simp[B]
 ·refine⟨by simp[enRow,A],_,_,rfl,xC _,fun _=>⟨_,_,rfl,fun j J=>?_⟩⟩
  rw[qXl h,jV,List.getElem?_toArray]
  simp
 ·have:i=0:=by simp at a;omega
  subst this;exact⟨vv,rfl,A,B,E⟩
theorem small (w:World)(O:Tabs w)(H:DivT w)(R:climb 3 kz 0 (leafD 3 kz [7]) ((empts 3 257).take 256)=D)(I:D.length=32) :
  Fn prog 9 #[] w fun v w'=>NwB w w' v (Aud.smI D)/\No w w':=by
 refine go9 sm ?_;simp -implicitDefEqProofs only[go_sem,yU,jV,Tryz.f9];refine qQn (v:=.slice (some ⟨w.heap.size,0,none⟩) 1 1) (w':=w.alloc (.cells (bl [7]) 5)) rfl ?_;have T:(w.alloc (.cells (bl [7]) 5)).heap[w.heap.size]?=some (.cells (bl [7]) 5 (0,0)):=qQb _ _;have U:No w (w.alloc (.cells (bl [7]) 5)):=(Fr.refl _ _).alloc _;generalize w.alloc (.cells (bl [7]) 5)=A at *;have L:=row_by (m:=1) (cap:=1) T sm (xC _);rw[zB sm]at L;have V:=bldEn (a:=some ⟨w.heap.size,0,.none⟩) (n:=1) (c:=1);generalize J:Value.slice (some ⟨w.heap.size,0,.none⟩) 1 1=vv at *;have W:one vv=true:=by rw[<- J];rfl
 have rl:(enRow (kz,[7]) vv).length=33:=by simp[enRow,kz_len]
 simp -implicitDefEqProofs only[go_sem,yU,jV,qQk,V];refine qQn (v:=.slice (some ⟨A.heap.size,0,none⟩) 1 1) (w':=A.alloc (.cells (enRow (kz,[7]) vv).toArray 83)) (qQx (K:=33) j0 j0 (y:=enRow (kz,[7]) nil0) (by rfl) (by rw[kG];exact rl) (by rw[kG];exact rl) _) ?_;have Y:(A.alloc (.cells (enRow (kz,[7]) vv).toArray 83)).heap[A.heap.size]?=some (.cells (enRow (kz,[7]) vv).toArray 83 (0,0)):=qQb _ _;have M:No A (A.alloc (.cells (enRow (kz,[7]) vv).toArray 83)):=(Fr.refl _ _).alloc _;generalize A.alloc (.cells (enRow (kz,[7]) vv).toArray 83)=E at *;have Z:=enR_one kz_len W (L.fr0 M) Y;simp -implicitDefEqProofs only[go_sem,yU,jV];refine qQn (v:=.slice (some ⟨E.heap.size,0,none⟩) 1 1) (w':=E.alloc (.cells #[.slice (some ⟨A.heap.size,0,.none⟩) 1 1] 84)) rfl ?_;have k3:(E.alloc (.cells #[.slice (some ⟨A.heap.size,0,.none⟩) 1 1] 84)).heap[E.heap.size]?=some (.cells #[.slice (some ⟨A.heap.size,0,.none⟩) 1 1] 84 (0,0)):=qQb _ _;have N:No E (E.alloc (.cells #[.slice (some ⟨A.heap.size,0,.none⟩) 1 1] 84)):=(Fr.refl _ _).alloc _;generalize E.alloc (.cells #[.slice (some ⟨A.heap.size,0,.none⟩) 1 1] 84)=w3 at *;simp -implicitDefEqProofs only[go_sem];have B:=(U.trans M).trans N;refine qQa pl14 ((disk1 w3 (O.no B) (H.no B) (by rw[qXl k3];rfl) rfl (Z.fr0 N) R I (xC _)).mono ?_);rintro v4 w4 ⟨b4,f4⟩;simp -implicitDefEqProofs only[go_sem];exact And.intro (NwB.back b4 B.size) (B.trans f4)
end R
end
end Go.V
