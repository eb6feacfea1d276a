/- Helpers. -/
import Derived.Test.YtppmpdjlmgfdkaaGreatDoorB13
import Derived.Test.YtppmpdjlmgfdkaaGreatDoorB18
import Derived.Test.YtppmpdjlmgfdkaaGreatDoorB08
import Derived.Test.YtppmpdjlmgfdkaaGreatDoorB09
import Derived.Test.YtppmpdjlmgfdkaaGreatDoorB17
set_option linter.all false
set_option maxRecDepth 100000
set_option maxHeartbeats 8000000
open Array renaming toList_setIfInBounds->kZ
open BitVec renaming ofNat->zX,ofInt_natCast->xW,toNat_ofNat->zZ,getLsbD_of_ge->jB,ofInt->qQ,setWidth_eq->xY,ofNat_toNat->xU,getLsbD_xor->xG,getLsbD_one->jD,toNat_and->vJ
open Bool renaming true_and->jP,false_and->jR,bne_false->jN,and_true->vV,not_false->xH,not_true->vK,false_eq_true->qP
open Go.Builtin renaming append_->qC
open Int renaming toNat_zero->kJ
open List renaming getElem?_eq_none->vS,take_of_length_le->zG,append_assoc->zJ,getElem?_eq_getElem->xE,getElem?_map->j6,map_append->vL,append_nil->zO,getElem?_append_right->z4,take_length->kK,drop_eq_getElem_cons->vR,getElem?_range->kV,range->qI,replicate->zK,getElem_append_left->jQ,drop_of_length_le->zT,length_set->jE,length_map->zB,mem_cons_of_mem->zY,all_cons->vG,ext_getElem?->kW,getElem_mem->jT,range_succ->vT,getElem?_append_left->zR,all_nil->vF,getElem?_toArray->xI,mem_cons_self->zD
open Nat renaming reduceEqDiff->yJ,zero_add->jY,add_zero->yF,reduceBEq->yY,mul_one->yK,zero_mul->yV,le_refl->xC,reduceAdd->vH,zero_le->jK,lt_irrefl->yU
open Option renaming none->kY,bind_some->qV
open Go.Value renaming cells->yN
namespace Go.V
open Go.Proofs.Tryz Go.V.Tryz
open Go.Proofs Sha
variable {a bs k ls r rs:Bs} {b cap h i j n o p:Nat} {F G:Nat->Bool} {av bv mv nv v vv:Value} {w w' w0:World}
theorem nodup_ne {α:Type}{l:List α}(h:l.Nodup)(hi:i<l.length)(A:j<l.length)(B:i≠j):l[i]≠l[j]:=by
 rw[List.Nodup,List.pairwise_iff_getElem]at h
 rcases Nat.lt_or_ge i j with h1 | h1
 ·exact h i j hi A h1
 ·exact fun e=>h j i A hi om e.symm
namespace Bat
structure Ch where
 key:Bs
 del:Bool
 val:Bs
deriving DecidableEq
def Ch.Ok (c:Ch):Prop:=c.key.length=32/\c.val.length<=128/\(c.del=true->c.val=[])
def mergeP:List Ch->List Ch->List Ch
 | [],b=>b
 | x::a,[]=>x::a
 | x::a,y::b=>if kcmp x.key y.key<=0 then x::mergeP a (y::b) else y::mergeP (x::a) b
theorem mergeP_nil (a:List Ch):mergeP a []=a:=by cases a <;> simp[mergeP]
theorem mergeP_perm:∀ a b:List Ch,(mergeP a b).Perm (a++b)
 | [],b=>by simp[mergeP]
 | x::a,[]=>by simp[mergeP]
 | x::a,y::b=>by
  unfold mergeP;split
  ·exact (mergeP_perm a (y::b)).cons x
  ·refine ((mergeP_perm (x::a) b).cons y).trans ?_
   exact List.perm_middle.symm
def Srt (l:List Ch):Prop:=l.Pairwise fun a b=>¬ klt b.key a.key
theorem kcmp_le {a b:Bs}(A:a.length=32)(B:b.length=32):kcmp a b<=0 ↔ ¬ klt b a:=by
 unfold kcmp
 by_cases e:a=b
 ·rw[if_pos e];subst e
  exact iff_of_true om (qZl a)
 ·rw[if_neg e]
  by_cases h:klt a b
  ·rw[if_pos h]
   exact iff_of_true om fun g=>qZl a (qJz h g)
  ·rw[if_neg h]
   exact iff_of_false om fun g=>((klt_total A B e).elim h g)
theorem nklt_trans {a b c:Bs}(A:a.length=32)(B:b.length=32)(h:¬ klt b a)(g:¬ klt c b):¬ klt c a:=fun k=>by
 by_cases e:a=b
 ·subst e;exact g k
 ·rcases klt_total A B e with h' | h'
  ·exact g (qJz k h')
  ·exact h h'
theorem mergeP_srt:∀ a b:List Ch,(∀ c ∈ a,c.key.length=32)->(∀ c ∈ b,c.key.length=32)->Srt a->Srt b->Srt (mergeP a b)
 | [],b,_,_,_,h=>by simp only[mergeP];exact h
 | x::a,[],_,_,h,_=>by simp only[mergeP];exact h
 | x::a,y::b,N,kb,V,W=>by
  have L:=N x (zD ..);have M:=kb y (zD ..);have O:∀ c ∈ a,c.key.length=32:=fun c R=>N c (zY _ R);have T:∀ c ∈ b,c.key.length=32:=fun c R=>kb c (zY _ R);have B:=List.pairwise_cons.1 V;have H:=List.pairwise_cons.1 W;unfold mergeP;split
  ·rename_i h
   refine List.pairwise_cons.2 ⟨fun z A=>?_,mergeP_srt a (y::b) O kb B.2 W⟩
   rcases List.mem_append.1 ((mergeP_perm a (y::b)).mem_iff.1 A) with A | A
   ·exact B.1 z A
   ·have I:=(kcmp_le L M).1 h
    rcases List.mem_cons.1 A with rfl | A
    ·exact I
    ·exact nklt_trans L M I (H.1 z A)
  ·rename_i h
   have U:klt y.key x.key:=by
    by_cases g:klt y.key x.key
    ·exact g
    ·exact absurd ((kcmp_le L M).2 g) h
   have J:¬ klt x.key y.key:=fun g=>qZl _ (qJz g U);refine List.pairwise_cons.2 ⟨fun z A=>?_,mergeP_srt (x::a) b N T V H.2⟩
   rcases List.mem_append.1 ((mergeP_perm (x::a) b).mem_iff.1 A) with A | A
   ·rcases List.mem_cons.1 A with rfl | A
    ·exact J
    ·exact nklt_trans M L J (B.1 z A)
   ·exact H.1 z A
theorem mergeP_drop {a b:List Ch}(hi:i<a.length)(A:j<b.length):mergeP (a.drop i) (b.drop j) =
  if kcmp a[i].key b[j].key<=0 then a[i]::mergeP (a.drop (i+1)) (b.drop j) else b[j]::mergeP (a.drop i) (b.drop (j+1)):=by
 rw[vR hi,vR A,mergeP]
end Bat
def chC (k:Bs)(d:Bool)(v:Value):Array Value:=(k.map u8++[.bool d,v]).toArray
theorem qZw (d:Bool)(v:Value)(A:k.length=32):(chC k d v).size=34:=by simp[chC,A]
theorem chC_one (d:Bool)(A:one v=true):(chC k d v).all one=true:=by
 rw[<- Array.all_toList];simp only[chC,List.all_append,vG,vF,A,vV];rw[List.all_eq_true.2 (by intro x B;obtain⟨y,_,rfl⟩:=List.mem_map.1 B;rfl)];rfl
theorem chC_zero:(Array.replicate 32 (Value.int .u8 0)++#[Value.bool false,Value.slice kY 0 0])=chC (zK 32 0) false (.slice kY 0 0):=rfl
theorem chC_val {d:Bool}{v u:Value}(A:k.length=32):(chC k d v).setIfInBounds 33 u=chC k d u:=by
 apply Array.toList_inj.1;simp[chC,A]
def chRow (c:Bat.Ch)(v:Value):List Value:=c.key.map u8++[.bool c.del,v]
def By5 (w:World)(v:Value)(bs:Bs):Prop:=By w v bs/\∀ b,qQc v=some b->∃ c,w.heap[b]?=some (.cells c 5 (0,0))
theorem By5.frT {F:Nat->Prop}(h:By5 w v bs)(f:Fr F w w')(H:∀ b c,w.heap[b]?=some (.cells c 5 (0,0))->¬ F b):By5 w' v bs :=
 ⟨h.1.fr f fun b B _=>by obtain⟨c,A⟩:=h.2 b B;exact H b c A,fun b B=>by obtain⟨c,A⟩:=h.2 b B;exact⟨c,f.at A (H b c A)⟩⟩
theorem By5.fr0 (h:By5 w v bs)(f:No w w'):By5 w' v bs:=h.frT f fun _ _ _ h=>h
theorem NwB.by5 (h:NwB w0 w v bs):By5 w v bs:=⟨h.by,fun b A=>by
 rcases h.own with ⟨rfl,_⟩ | ⟨H,I,cap,c,rfl,B,_⟩
 ·cases A
 ·cases A;exact⟨c,B⟩⟩
theorem nwr_ty {u w:World}{e k:Nat}{rows:Rows}(h:NwR u w e k v rows)(A:qQc v=some b):∃ c,w.heap[b]?=some (.cells c e (0,0)):=by
 rcases h.2.own with ⟨rfl,_⟩ | ⟨H,I,cap,c,rfl,B,_⟩
 ·cases A
 ·cases A;exact⟨c,B⟩
def ChR (w:World)(v:Value)(A:List Bat.Ch):Prop:=∃ rows,RdR w 34 v rows/\rows.length=A.length/\∀ i (h:i<rows.length) (B:i<A.length),∃ vv,rows[i]=chRow A[i] vv/\one vv=true/\By5 w vv A[i].val/\(A[i].del=true->vv=.slice kY 0 0)/\A[i].key.length=32
theorem ChR.fr0 {A:List Bat.Ch}(h:ChR w v A)(f:No w w'):ChR w' v A:=by
 obtain⟨rows,B,H,I⟩:=h;refine⟨rows,B.fr0 f,H,fun i a b=>?_⟩;obtain⟨vv,J,L,M,N,O⟩:=I i a b;exact⟨vv,J,L,M.fr0 f,N,O⟩
theorem ChR.slice {A:List Bat.Ch}(h:ChR w v A):∃ a cap,v=.slice a A.length cap/\A.length<=cap:=by
 obtain⟨rows,B,H,_⟩:=h;have:=B.slice;rw[H]at this;exact this
def ChN (w0 w:World)(v:Value)(A:List Bat.Ch):Prop:=∃ rows,NwR w0 w 134 34 v rows/\rows.length=A.length/\∀ i (h:i<rows.length) (B:i<A.length),∃ vv,rows[i]=chRow A[i] vv/\one vv=true/\By5 w vv A[i].val/\(A[i].del=true->vv=.slice kY 0 0)/\A[i].key.length=32
theorem ChN.rd {A:List Bat.Ch}(h:ChN w0 w v A):ChR w v A:=by
 obtain⟨rows,B,H,I⟩:=h;exact⟨rows,B.rd,H,I⟩
theorem By.rd1 (h:By w v bs)(hi:i<bs.length):∃ b o cap,v=.slice (some ⟨b,o,kY⟩) bs.length cap/\rdO prog 5 w b (o+i)=some (.int .u8 ((bs.getD i 0).toNat:Int)):=by
 obtain⟨b,o,cap,rfl,_⟩:=h.pos om;exact⟨b,o,cap,rfl,h.get agg5 hi⟩
theorem By.blkB (h:By w (.slice (some ⟨b,o,kY⟩) n cap) bs)(I:0<bs.length):b<w.heap.size:=by
 have J:=h.len;have:=h.get (P:=prog) agg5 (i:=0) I;obtain⟨L,a,cap,e,M,B⟩:=h;obtain⟨N,O,rfl,A⟩:=B om;cases e;have H:=A 0 om;rw[xE (by rw[zB];omega)]at H;exact rc_lt H
theorem By.blk0 (h:By w v bs)(B:bs≠[])(H:qQc v=some b):b<w.heap.size:=by
 have A:=List.length_pos_iff.2 B;obtain⟨I,o,cap,rfl,_⟩:=h.pos A;have:=h.blkB A;simp only[qQc,oSi]at H;omega
def ChX (w0 w:World)(v:Value)(A:List Bat.Ch):Prop:=∃ rows,NwR w0 w 134 34 v rows/\rows.length=A.length/\∀ i (h:i<rows.length) (B:i<A.length),∃ vv,rows[i]=V.chRow A[i] vv/\one vv=true/\By5 w vv A[i].val/\(A[i].val≠[]->∀ b,qQc vv=some b->qQc v≠some b)/\(A[i].del=true->vv=.slice kY 0 0)/\A[i].key.length=32
theorem ChX.new {A:List Bat.Ch}(h:ChX w0 w v A):ChN w0 w v A:=by
 obtain⟨rows,B,H,I⟩:=h;refine⟨rows,B,H,fun i a b=>?_⟩;obtain⟨vv,J,L,M,_,N,O⟩:=I i a b;exact⟨vv,J,L,M,N,O⟩
theorem ChX.nil (w0 w:World):ChX w0 w (.slice kY 0 0) []:=⟨[],NwR.nil _ _ _ _,rfl,fun i h=>absurd h sm⟩
theorem ChX.fr0 {A:List Bat.Ch}(h:ChX w0 w v A)(f:No w w'):ChX w0 w' v A:=by
 obtain⟨rows,B,H,I⟩:=h;refine⟨rows,B.fr0 f,H,fun i a b=>?_⟩;obtain⟨vv,J,L,M,N,O⟩:=I i a b;exact⟨vv,J,L,M.fr0 f,N,O⟩
theorem ChX.push {B:List Bat.Ch}(h:ChX w0 w v B)(f:No w0 w){c:Bat.Ch}(Y:c.key.length=32)(Z:one vv=true)(hv:By5 w vv c.val)(hb:c.val≠[]->∀ b, qQc vv=some b->qQc v≠some b)(hd:c.del=true->vv=.slice kY 0 0)(hl:B.length<=2 ^ 30) :
  ∃ v' w',(qC #[95,95] 0 #[v,.slice (some ⟨w.heap.size,0,.none⟩) 1 1]).run prog (w.alloc (.cells (chC c.key c.del vv) 134))=.ok v' w'/\ChX w0 w' v' (B++[c])/\No w0 w':=by
 obtain⟨rows,M,A,N⟩:=h;obtain⟨v8,w8,O,b8,R,m8⟩:=M.push (P:=prog) app95_95 (xs:=V.chRow c vv) (by simp[V.chRow,Y]) (by have:=chC_one (k:=c.key) c.del Z;rw[<- Array.all_toList]at this;simpa [chC,V.chRow] using this) x9 om om f.size;have f8:No w0 w8:=f.trans' R fun H a0 h=>by have:=(M.lt h).1;omega
 refine⟨v8,w8,O,⟨rows++[V.chRow c vv],b8,by simp[A],?_⟩,f8⟩
 have hF:∀ b c,w.heap[b]?=some (.cells c 5 (0,0))->¬ qQc v=some b:=fun b c hc h=>by
  obtain⟨c',I⟩:=nwr_ty M h;rw[hc]at I;cases I
 intro q hq T
 by_cases J:q<rows.length
 ·obtain⟨x,a1,a2,a3,a4,a5,a6⟩:=N q J om
  have U:(B++[c])[q]=B[q]'om:=jQ om;rw[U];refine⟨x,by rw[jQ J];exact a1,a2,a3.frT R hF,fun L H h W=>?_,a5,a6⟩
  rcases m8 H W with h'' | h''
  ·exact a4 L H h h''
  ·have:=a3.1.blk0 L h;omega
 ·obtain rfl:q=rows.length:=by simp at hq;omega
  have U:(B++[c])[rows.length]'T=c:=by simp[A]
  rw[U];refine⟨vv,sm,Z,hv.frT R hF,fun L H h W=>?_,hd,Y⟩
  rcases m8 H W with h'' | h''
  ·exact hb L H h h''
  ·have:=hv.1.blk0 L h;omega
theorem ChR.at {w:World}{v:Value}{A:List Bat.Ch}(h:ChR w v A){i:Nat}(hi:i<A.length):∃ b o cap vv, v=.slice (some ⟨b, o, kY⟩) A.length cap/\one vv=true/\By5 w vv A[i].val/\(A[i].del=true->vv=.slice kY 0 0)/\A[i].key.length=32 /\
  ∀ w',No w w'->rdO prog 134 w' b (o+i*34)=some (.agg (chC A[i].key A[i].del vv))/\rdO prog 76 w' b (o+i*34)=some (dg A[i].key)/\rdO prog 4 w' b (o+i*34+32)=some (.bool A[i].del)/\rdO prog 22 w' b (o+i*34+33)=some vv:=by
 obtain⟨rows,H,J,L⟩:=h;obtain⟨b,o,cap,rfl,T⟩:=H.pos x9 om;obtain⟨vv,I,M,N,O,B⟩:=L i om hi;refine⟨b,o,cap,vv,by rw[J],M,N,O,B,fun w' f=>⟨?_,?_,?_,?_⟩⟩
 ·have:=(H.fr0 f).get (P:=prog) (t:=134) agg134 sz134 x9 (i:=i) om
  rw[this,I];rfl
 ·have:=(H.fr0 f).sub (P:=prog) (t:=76) (m:=32) agg76 sz76 x9 (i:=i) om (j:=0) x9 (xs:=A[i].key.map u8) (by simp[B]) (fun q R=>by
   rw[I,V.chRow,jY,zR (by simp[B];exact R)])
  rw[yF]at this;exact this
 ·exact (H.fr0 f).fld agg4 om (j:=32) x9 (by rw[I,V.chRow,z4 (by simp[B])];simp[B])
 ·exact (H.fr0 f).fld agg22 om (j:=33) x9 (by rw[I,V.chRow,z4 (by simp[B])];simp[B])
theorem bldC (d:Bool)(A:k.length=32):bldO prog 134 [(0,dg k),(1,.bool d)]=some (.agg (chC k d (.slice kY 0 0))):=by
 simp only[bldO,zero134,places134,qV];have B:(Value.agg (Array.replicate 32 (.int .u8 0)++#[Value.bool false,Value.slice .none 0 0])).cells.size=34:=rfl;have e:(dg k).cells.toList=k.map u8:=rfl;rw[fill_cons (off:=0) (n:=32) rfl (by simp[yN,A]) (by rw[B];decide),fill_one1 (off:=32) rfl rfl (by rw[qJl,B];decide),qXu,Option.map_some]
 congr 2
 apply Array.toList_inj.1;rw[kZ,e,qJm _ _ _ (by rw[B,zB,A];decide)];simp[yN,A,chC]
namespace R
def cpI (w0:World)(vv:Value)(bs:Bs)(n:Nat)(vs:List Value)(w:World):Prop :=
 ∃ (i:Nat) (v:Value),vs=[vv,v,.int .i64 (i:Nat)]/\i<=bs.length/\n=bs.length - i/\NwB w0 w v (bs.take i)/\No w0 w
theorem bytes3 (w0:World)(L:By w0 vv bs)(hl:bs.length<=2 ^ 40):Fn prog 131 #[vv] w0 fun v w'=>NwB w0 w' v bs/\No w0 w':=by
 refine go131 sm ?_;obtain⟨U,V,rfl,M⟩:=L.slice;simp -implicitDefEqProofs only[go_sem,Tryz.f131];refine loopD [0,3,4] (cpI w0 (.slice U bs.length V) bs) bs.length ⟨0,_,rfl,om,rfl,NwB.nil _ _,Fr.refl _ _⟩ ?_;rintro _ vs N g ⟨i,v,rfl,hi,rfl,B,H⟩
 by_cases A:i<bs.length
 ·have O:=dTo ((i:Int)<((bs.length:Nat):Int))
  have c1:=iSu (i:=i);have y:=iBd (i:=i) (n:=bs.length);obtain⟨b,o,cap,W,r⟩:=(L.fr0 H).rd1 A;cases W;have I:=qXt (l:=bs) (i:=i) A;obtain⟨R,Y,J,T,Z,g4,_⟩:=NwB.grow B (bs.getD i 0) (by simp;omega) H;rw[I]at T;generalize bs.getD i 0=x at *;simp -implicitDefEqProofs only[go_sem,yJ,y,and_self,iTn,yK,r];refine qQm (v:=.slice (some ⟨N.heap.size,0,none⟩) 1 1) (w':=N.alloc (.cells (bl [x]) 5)) rfl ?_;simp -implicitDefEqProofs only[go_sem,yJ];refine qQj ⟨R,Y,J,?_⟩;simp -implicitDefEqProofs only[go_sem,yJ,c1];exact⟨bs.length - (i+1),om,i+1,R,rfl,om,rfl,T,Z⟩
 ·have O:=dFo ((i:Int)<((bs.length:Nat):Int))
  have e:i=bs.length:=om
  subst e;rw[kK]at B;simp -implicitDefEqProofs only[go_sem,yJ,O];exact⟨B,H⟩
def mgI (w0:World)(av bv:Value)(xs A:List Bat.Ch)(n:Nat)(vs:List Value)(w:World):Prop :=
 ∃ (i j:Nat) (mv:Value) (out:List Bat.Ch),vs=[av,bv,mv,.int .i64 (i:Nat),.int .i64 (j:Nat)]/\i<=xs.length/\j<=A.length/\n=(xs.length - i)+(A.length - j)/\Bat.mergeP xs A=out++Bat.mergeP (xs.drop i) (A.drop j)/\out.length=i+j/\ChX w0 w mv out/\No w0 w
theorem merged (w0:World){xs A:List Bat.Ch}(ha:ChR w0 av xs)(hb:ChR w0 bv A)(b8:xs.length<=2 ^ 20)(b9:A.length<=2 ^ 20):Fn prog 94 #[av,bv] w0 fun v w'=>No w0 w'/\ChX w0 w' v (Bat.mergeP xs A):=by
 refine go94 sm ?_;obtain⟨aa,ac,rfl,c0⟩:=ha.slice;obtain⟨ba,bc,rfl,c3⟩:=hb.slice;simp -implicitDefEqProofs only[go_sem,Tryz.f94];refine loopD [0,1,5,6,7] (mgI w0 (.slice aa xs.length ac) (.slice ba A.length bc) xs A) (xs.length+A.length) ⟨0,0,_,[],rfl,om,om,om,rfl,rfl,ChX.nil _ _,Fr.refl _ _⟩ ?_;rintro _ vs w g ⟨i,j,mv,out,rfl,hi,hj,rfl,B,c4,V,Y⟩;have ca:=iSu (i:=i);have cb:=iSu (i:=j)
 have M:∀ (h:i<xs.length) (w':World) (vv:Value),No w0 w'->ChX w0 w' mv out->one vv=true->By5 w0 vv xs[i].val->(xs[i].del=true->vv=.slice .none 0 0)->xs[i].key.length=32->∃ v' H,(qC #[95,95] 0 #[mv,.slice (some ⟨w'.heap.size,0,.none⟩) 1 1]).run prog (w'.alloc (.cells (chC xs[i].key xs[i].del vv) 134))=.ok v' H/\ChX w0 H v' (out++[xs[i]])/\No w0 H:=fun h w' vv f V ho hv hd hk =>
  V.push f hk ho (hv.fr0 f) (fun hn b h1 h2=>by have:=hv.1.blk0 hn h1;obtain⟨rows,hN,_⟩:=V;have:=(hN.lt h2).1;omega) hd om
 have N:∀ (h:j<A.length) (w':World) (vv:Value),No w0 w'->ChX w0 w' mv out->one vv=true->By5 w0 vv A[j].val->(A[j].del=true->vv=.slice .none 0 0)->A[j].key.length=32->∃ v' H,(qC #[95,95] 0 #[mv,.slice (some ⟨w'.heap.size,0,.none⟩) 1 1]).run prog (w'.alloc (.cells (chC A[j].key A[j].del vv) 134))=.ok v' H/\ChX w0 H v' (out++[A[j]])/\No w0 H:=fun h w' vv f V ho hv hd hk =>
  V.push f hk ho (hv.fr0 f) (fun hn b h1 h2=>by have:=hv.1.blk0 hn h1;obtain⟨rows,hN,_⟩:=V;have:=(hN.lt h2).1;omega) hd om
 by_cases O:i<xs.length
 ·have d1:=dTo ((i:Int)<((xs.length:Nat):Int))
  obtain⟨b1,o1,c1,v1,e1,a9,b0,b3,R,a4⟩:=ha.at O;cases e1;obtain⟨ra,c5,_,_⟩:=a4 w Y;obtain⟨_,b4,_,_⟩:=a4 w.drew Y.drew;have y1:=iBd (i:=i) (n:=xs.length)
  by_cases I:j<A.length
  ·have d2:=dTo ((j:Int)<((A.length:Nat):Int))
   have d3:=dFo ((j:Int) ≥ ((A.length:Nat):Int));obtain⟨b2,o2,c2,v2,e2,a5,a6,a7,L,T⟩:=hb.at I;cases e2;obtain⟨_,c6,_,_⟩:=T w Y;obtain⟨_,b5,_,_⟩:=T w.drew Y.drew;have y2:=iBd (i:=j) (n:=A.length);rw[Bat.mergeP_drop O I]at B;simp -implicitDefEqProofs only[go_sem,yJ,d3,y1,y2,and_self,iTn,yF,b4,b5];refine qQa pl54 ((cmp w.drew R L).mono ?_);rintro _ W ⟨rfl,f3⟩;have Z:No w0 W:=Y.drew.trans f3;have X3:ChX w0 W mv out:=V.fr0 ((Fr.refl _ _).drew.trans f3)
   by_cases a0:kcmp xs[i].key A[j].key<=0
   ·have d4:decide (kcmp xs[i].key A[j].key<=0)=true:=decide_eq_true a0
    obtain⟨b6,_,_,_⟩:=a4 W Z;simp -implicitDefEqProofs only[go_sem,yJ,d4,y1,and_self,iTn,b6];refine qQm (v:=.slice (some ⟨W.heap.size,0,.none⟩) 1 1) (w':=W.alloc (.cells (chC xs[i].key xs[i].del v1) 134)) (qXb (K:=34) x9 x9 (by simp[]) (by simp[]) (qZw _ _ R) _) ?_;obtain⟨U,w8,J,X8,f8⟩:=M O W v1 Z X3 a9 b0 b3 R;simp -implicitDefEqProofs only[go_sem,yJ];refine qQj ⟨U,w8,J,?_⟩;simp -implicitDefEqProofs only[go_sem,yJ,ca];rw[if_pos a0]at B;exact⟨(xs.length - (i+1))+(A.length - j),om,i+1,j,U,out++[xs[i]],rfl,om,om,rfl,by rw[B];simp,by simp;omega,X8,f8⟩
   ·have d4:decide (kcmp xs[i].key A[j].key<=0)=false:=decide_eq_false a0
    obtain⟨b7,_,_,_⟩:=T W Z;simp -implicitDefEqProofs only[go_sem,yJ,d4,y2,and_self,iTn,b7];refine qQm (v:=.slice (some ⟨W.heap.size,0,.none⟩) 1 1) (w':=W.alloc (.cells (chC A[j].key A[j].del v2) 134)) (qXb (K:=34) x9 x9 (by simp[]) (by simp[]) (qZw _ _ L) _) ?_;obtain⟨U,w8,J,X8,f8⟩:=N I W v2 Z X3 a5 a6 a7 L;simp -implicitDefEqProofs only[go_sem,yJ];refine qQj ⟨U,w8,J,?_⟩;simp -implicitDefEqProofs only[go_sem,yJ,cb];rw[if_neg a0]at B;exact⟨(xs.length - i)+(A.length - (j+1)),om,i,j+1,U,out++[A[j]],rfl,om,om,rfl,by rw[B];simp,by simp;omega,X8,f8⟩
  ·have d2:=dFo ((j:Int)<((A.length:Nat):Int))
   have d3:=dTo ((j:Int) ≥ ((A.length:Nat):Int));have a3:A.drop j=[]:=zT om;rw[a3,Bat.mergeP_nil,vR O]at B;simp -implicitDefEqProofs only[go_sem,yJ,d2,d3,y1,and_self,iTn,yF,ra];refine qQm (v:=.slice (some ⟨w.heap.size,0,.none⟩) 1 1) (w':=w.alloc (.cells (chC xs[i].key xs[i].del v1) 134)) (qXb (K:=34) x9 x9 (by simp[]) (by simp[]) (qZw _ _ R) _) ?_;obtain⟨U,w8,J,X8,f8⟩:=M O w v1 Y V a9 b0 b3 R;simp -implicitDefEqProofs only[go_sem,yJ];refine qQj ⟨U,w8,J,?_⟩;simp -implicitDefEqProofs only[go_sem,yJ,ca];exact⟨(xs.length - (i+1))+(A.length - j),om,i+1,j,U,out++[xs[i]],rfl,om,om,rfl,by rw[B,a3,Bat.mergeP_nil];simp,by simp;omega,X8,f8⟩
 ·have d1:=dFo ((i:Int)<((xs.length:Nat):Int))
  have a8:xs.drop i=[]:=zT om
  by_cases I:j<A.length
  ·have d2:=dTo ((j:Int)<((A.length:Nat):Int))
   have d3:=dFo ((j:Int) ≥ ((A.length:Nat):Int));obtain⟨b2,o2,c2,v2,e2,a5,a6,a7,L,T⟩:=hb.at I;cases e2;obtain⟨rb,_,_,_⟩:=T w Y;have y2:=iBd (i:=j) (n:=A.length);rw[a8,show Bat.mergeP [] (A.drop j)=A.drop j by simp[Bat.mergeP],vR I]at B;simp -implicitDefEqProofs only[go_sem,yJ,d1,d3,y2,and_self,iTn,qQx,bSe,rb];refine qQm (v:=.slice (some ⟨w.heap.size,0,.none⟩) 1 1) (w':=w.alloc (.cells (chC A[j].key A[j].del v2) 134)) (qXb (K:=34) x9 x9 (by simp[]) (by simp[]) (qZw _ _ L) _) ?_;obtain⟨U,w8,J,X8,f8⟩:=N I w v2 Y V a5 a6 a7 L;simp -implicitDefEqProofs only[go_sem,yJ];refine qQj ⟨U,w8,J,?_⟩;simp -implicitDefEqProofs only[go_sem,yJ,cb];exact⟨(xs.length - i)+(A.length - (j+1)),om,i,j+1,U,out++[A[j]],rfl,om,om,rfl,by rw[B,a8];simp[Bat.mergeP],by simp;omega,X8,f8⟩
  ·have d2:=dFo ((j:Int)<((A.length:Nat):Int))
   have a3:A.drop j=[]:=zT om;rw[a8,a3,Bat.mergeP_nil,zO]at B;simp -implicitDefEqProofs only[go_sem,yJ,d1,d2,bSe];rw[B];exact⟨Y,V⟩
end R
namespace R
theorem srt_adj {l:List Bat.Ch}(B:∀ c ∈ l,c.key.length=32)(L:Bat.Srt l)(I:∀ q,1<=q->q<l.length->(l.map Bat.Ch.key).getD q []≠(l.map Bat.Ch.key).getD (q - 1) []):l.Pairwise fun a b=>klt a.key b.key:=by
 induction l with
 | nil=>exact List.Pairwise.nil
 | cons x l M =>
  obtain⟨N,O⟩:=List.pairwise_cons.1 L
  have J:=M (fun c R=>B c (zY _ R)) O (fun q V T=>by
   have:=I (q+1) om (by simpa using T);rw[List.map_cons,Nat.add_sub_cancel]at this
   obtain⟨q,rfl⟩:∃ p,q=p+1:=⟨q - 1,om⟩
   simpa using this)
  refine List.pairwise_cons.2 ⟨?_,J⟩
  cases l with
  | nil=>intro y U;cases U
  | cons y l =>
   have A:klt x.key y.key:=by
    have hne:y.key≠x.key:=by simpa using I 1 (xC _) sm
    rcases klt_total (B y sm) (B x sm) hne with h | h
    ·exact absurd h (N y sm)
    ·exact h
   intro z H
   rcases List.mem_cons.1 H with rfl | H
   ·exact A
   ·exact qJz A ((List.pairwise_cons.1 J).1 z H)
def wrI (w0:World)(B:Value)(A:List Bat.Ch)(n:Nat)(vs:List Value)(w:World):Prop :=
 ∃ (i:Nat),vs=[B,.int .i64 (i:Nat)]/\i<=A.length/\n=A.length - i/\No w0 w
def wrJ (w0:World)(A:Value)(l:List Bat.Ch)(n:Nat)(vs:List Value)(w:World):Prop :=
 ∃ (i:Nat),vs=[A,.int .i64 (i:Nat)]/\1<=i/\(i<=l.length∨i=1)/\n=l.length+1 - i/\No w0 w/\∀ q,1<=q->q<i->(l.map Bat.Ch.key).getD q []≠(l.map Bat.Ch.key).getD (q - 1) []
theorem klt_nodup {l:List Bat.Ch}(h:l.Pairwise fun a b=>klt a.key b.key):(l.map Bat.Ch.key).Nodup:=by
 rw[List.Nodup,List.pairwise_map];refine List.Pairwise.imp ?_ h;intro a b h e;rw[e]at h;exact qZl _ h
end R
section
namespace A
open Aud
section
variable {u w0 w w':World} {sb:Nat} {iv:Value} {s:Sup} {mn mr:Nat} {cv vv fv:Value} {E:Nat->Prop}
def DgR (u w0:World)(sb B A:Nat)(iv:Value)(s:Sup)(mn mr:Nat)(cv vv fv:Value)(E:Nat->Prop)(H:List Value)(h:Nat)(L R:Bs)(I J M N O T:Value)(w:World):Prop :=
 ∃ a b,I=pt sb 0/\J=.int .i64 (h:Nat)/\M=pt B 0/\N=pt A 0/\O=pt a 0/\T=pt b 0/\a≠b/\w0.heap.size+2<=a/\w0.heap.size+2<=b /\
  w.heap[a]?=some (.cells (bl L) 75 (0,0))/\w.heap[b]?=some (.cells (bl R) 75 (0,0))/\w.heap[A]?=some (.cells (bl z32) 75 (0,0))/\w.heap[B]?=some (.cells H.toArray 78 (0,0)) /\
  SRow u w sb iv s mn mr cv vv fv (fun c=>E c∨w0.heap.size<=c/\(c=A∨c=a∨c=b))/\Fr (fun c=>c=sb) w0 w
theorem digestBr (ht:Tabs w0)(hu:u.heap.size<=w0.heap.size)(hsb:5<=sb)(hS:SRow u w0 sb iv s mn mr cv vv fv E)(hE:∀ b, E b->b<w0.heap.size){O T lc rc:Nat}(J:ls.length=32)(hrs:rs.length=32)(h1:1<=h)(hh:h<257) :
  Fn prog 164 #[pt sb 0,.agg (ndA (.br O T lc rc ls rs) nv).toArray,.int .i64 (h:Nat)] w0 fun v w'=>v=dg (qXd s.width (if O=0 then emptD s.width (h - 1) else ls) (if T=0 then emptD s.width (h - 1) else rs))/\Fr (fun b=>b=sb) w0 w'/\SRow u w' sb iv s mn mr cv vv fv E:=by
 refine go164 sm ?_;have b8:=hS.lt;generalize b3:ndA (.br O T lc rc ls rs) nv=nc;obtain⟨W,hW,f1,V,k2,s1⟩:=qZz w0 nc.toArray 78 (bl z32) 75;have b9:=hS.grow f1
 have Y:∀ w:World, w.heap[w0.heap.size]?=some (.cells nc.toArray 78 (0, 0))->rdO prog 3 w w0.heap.size 0=some (.int .i64 2)/\rdO prog 3 w w0.heap.size 1=some (.int .i64 (O:Nat))/\rdO prog 3 w w0.heap.size 2=some (.int .i64 (T:Nat)) /\
   rdO prog 75 w w0.heap.size 5=some (dg ls)/\rdO prog 75 w w0.heap.size 37=some (dg rs):=fun w V=>by
  rw[<- b3]at V;refine⟨rd1 agg3 V rfl,rd1 agg3 V rfl,rd1 agg3 V rfl,?_,?_⟩
  ·refine qJw (e:=78) (fz:=(0,0)) (a:=[.int .i64 2,.int .i64 (O:Nat),.int .i64 (T:Nat),.int .i64 (lc:Nat),.int .i64 (rc:Nat)]) (m:=ls.map u8) (r:=rs.map u8++z32.map u8++[nv]) agg75 (by simp[J];exact sz75) (by simp[J]) ?_ sm
   rw[V];simp only[ndA,ndC,zJ];rfl
  ·refine qJw (e:=78) (fz:=(0,0)) (a:=[.int .i64 2,.int .i64 (O:Nat),.int .i64 (T:Nat),.int .i64 (lc:Nat),.int .i64 (rc:Nat)]++ls.map u8) (m:=rs.map u8) (r:=z32.map u8++[nv]) agg75 (by simp[hrs];exact sz75) (by simp[hrs]) ?_ (by simp[J])
   rw[V];simp only[ndA,ndC,zJ];rfl
 obtain⟨r0,_,_,_,_⟩:=Y W V;have d0:((2:Int) == 1)=false:=rfl;simp only[go_sem,yJ,vH,yN,jY,qQk,Tryz.f164,hW,r0,d0];have c1:IntKind.i64.wrap ((h:Int) - 1)=((h - 1:Nat):Int):=qXr (b:=1) h1 om;have c0:∀ (w w5:World) (a b:Nat) (L R D:Bs),No w w5∨Fr (fun c=>c=sb) w w5->True:=fun _ _ _ _ _ _ _ _=>trivial;refine qXg (Q:=fun e B w=>e=.normal/\DgR u w0 sb w0.heap.size (w0.heap.size+1) iv s mn mr cv vv fv E nc h ls rs (B 0) (B 2) (B 4) (B 6) (B 7) (B 8) w) _ (fun e B w=>?_) ?_
 ·rintro⟨rfl,hD⟩
  rw[thenQ_normal];refine qZk (fun B w=>DgR u w0 sb w0.heap.size (w0.heap.size+1) iv s mn mr cv vv fv E nc h (if O=0 then emptD s.width (h - 1) else ls) rs (B 0) (B 2) (B 4) (B 6) (B 7) (B 8) w) ?_ ?_
  ·obtain⟨a,b,e0,e2,e4,e6,e7,e8,M,ha,H,Z,kb,kr,kn,I,U⟩:=hD
   obtain⟨r0,r1,r2,r3,r4⟩:=Y w kn;have n0:((O:Int) == 0)=decide (O=0):=nateq O 0
   by_cases hz:O=0
   case neg =>
    rw[decide_eq_false hz]at n0;rw[if_neg hz];simp only[go_sem,yJ,jY,e4,r1,n0];exact⟨a,b,(by trivial),(by trivial),(by trivial),(by trivial),(by trivial),(by trivial),M,ha,H,Z,kb,kr,kn,I,U⟩
   rw[decide_eq_true hz]at n0;rw[if_pos hz];simp only[go_sem,yJ,jY,e0,e2,e4,r1,n0,c1];have h3:=qQh Z;have h4:=qQh kb;have h5:=qQh kr;refine qQa pl125 ((bareS (ht.fr U fun b H h=>by omega) (by have:=U.size;omega) hsb I (fun c hc=>by rcases hc with hc | ⟨_,rfl | rfl | rfl⟩ <;> first | omega | (have:=hE c hc;omega)) (h:=h - 1) om).mono ?_);rintro _ w5 ⟨rfl,N,a3⟩;have a5:=N.at Z om;have q:=wr_d sz75 a5 J (qQv s.width (h - 1));simp only[go_sem,yJ,e7,q];exact⟨a,b,(by trivial),(by trivial),(by trivial),(by trivial),(by trivial),(by trivial),M,ha,H,qQd a5,qQi (N.at kb om) om,qQi (N.at kr om) om,qQi (N.at kn om) om,a3.put _ om (.inr ⟨om,.inr (.inl rfl)⟩),(U.trans N).put (b:=a) _ fun h=>by omega⟩
  generalize hL:(if O=0 then emptD s.width (h - 1) else ls)=L;have a6:L.length=32:=by rw[<- hL];split;exact qQv _ _;exact J
  clear hD;intro B w hD;refine qZk (fun B w=>DgR u w0 sb w0.heap.size (w0.heap.size+1) iv s mn mr cv vv fv E nc h L (if T=0 then emptD s.width (h - 1) else rs) (B 0) (B 2) (B 4) (B 6) (B 7) (B 8) w) ?_ ?_
  ·obtain⟨a,b,e0,e2,e4,e6,e7,e8,M,ha,H,Z,kb,kr,kn,I,U⟩:=hD
   obtain⟨r0,r1,r2,r3,r4⟩:=Y w kn;have n0:((T:Int) == 0)=decide (T=0):=nateq T 0
   by_cases hz:T=0
   case neg =>
    rw[decide_eq_false hz]at n0;rw[if_neg hz];simp only[go_sem,yJ,jY,e4,r2,n0];exact⟨a,b,(by trivial),(by trivial),(by trivial),(by trivial),(by trivial),(by trivial),M,ha,H,Z,kb,kr,kn,I,U⟩
   rw[decide_eq_true hz]at n0;rw[if_pos hz];simp only[go_sem,yJ,jY,e0,e2,e4,r2,n0,c1];have h3:=qQh Z;have h4:=qQh kb;have h5:=qQh kr;refine qQa pl125 ((bareS (ht.fr U fun b H h=>by omega) (by have:=U.size;omega) hsb I (fun c hc=>by rcases hc with hc | ⟨_,rfl | rfl | rfl⟩ <;> first | omega | (have:=hE c hc;omega)) (h:=h - 1) om).mono ?_);rintro _ w5 ⟨rfl,N,a3⟩;have a7:=N.at kb om;have q:=wr_d sz75 a7 hrs (qQv s.width (h - 1));simp only[go_sem,yJ,e8,q];exact⟨a,b,(by trivial),(by trivial),(by trivial),(by trivial),(by trivial),(by trivial),M,ha,H,qQi (N.at Z om) om,qQd a7,qQi (N.at kr om) om,qQi (N.at kn om) om,a3.put _ om (.inr ⟨om,.inr (.inr rfl)⟩),(U.trans N).put (b:=b) _ fun h=>by omega⟩
  generalize hR:(if T=0 then emptD s.width (h - 1) else rs)=R;have a8:R.length=32:=by rw[<- hR];split;exact qQv _ _;exact hrs
  clear hD;rintro B w ⟨a,b,e0,e2,e4,e6,e7,e8,M,ha,H,Z,kb,kr,kn,I,U⟩;have b4:rdO prog 3 w.drew sb 1=some (.int .i64 (s.width:Nat)):=I.rdw;have ra:=rd_d (w:=w.drew) agg75 sz75 Z a6;have rb:=rd_d (w:=w.drew) agg75 sz75 kb a8;simp only[go_sem,yJ,yY,jY,yF,e0,e7,e8,nilOk,b4,ra,rb];refine qQa pl160 ((branch w.drew ((ht.fr U fun b H h=>by omega).no (Fr.refl _ _).drew) s.width a6 a8).mono ?_);rintro _ w5 ⟨rfl,N⟩;have a4:No w w5:=(Fr.refl _ _).drew.trans N;have a9:=a4.at kr id;have a0:=qXm (s.width:Int) L R;have q:=wr_d sz75 a9 zl32 a0;have r:=rd_d agg75 sz75 (qQd (o:=.cells (bl (qXd s.width L R)) 75 (0,0)) a9) a0;simp only[go_sem,yJ,e6,q,r];exact⟨(U.trans (a4.mono fun _ _ h=>h.elim)).put (b:=w0.heap.size+1) _ fun h=>by omega,((I.fr0 a4).put _ om (.inr ⟨om,.inl rfl⟩)).mono fun b _ h=>.inl h⟩
 refine qXl (fun j=>j == 4 || j == 5) (.one 0 (.one 2 (.one 1 (.tri 3 (.two 4 (.row [5,6,7]) 5 (.row [4,6,7])) 4 (.two 3 (.row [5,6,7]) 5 (.two 3 (.row [6,7]) 6 (.row [3,7]))) 5 (.two 3 (.row [4,6,7]) 4 (.two 3 (.row [6,7]) 6 (.row [3,7]))))))) rfl x8 x8 ?_;have k3:W.drew.heap[w0.heap.size]?=some (.cells nc.toArray 78 (0,0)):=V;have k4:W.drew.heap[w0.heap.size+1]?=some (.cells (bl z32) 75 (0,0)):=k2;have f3:=f1.drew;have s3:W.drew.heap.size=w0.heap.size+2:=s1;generalize W.drew=A at *;obtain⟨A1,b5,g1,a1,t1⟩:=qQl A (bl z32) 75;obtain⟨A2,b6,g2,a2,t2⟩:=qQl A1 (bl z32) 75;have hn:A1.heap.size=A.heap.size+1:=t1;rw[hn]at a2;have b1:=g2.at a1 id;obtain⟨_,_,_,x1,y1⟩:=Y A k3;obtain⟨_,_,_,x2,y2⟩:=Y A1 (g1.at k3 id);have kA:=g2.at (g1.at k3 id) id;obtain⟨_,_,_,x3,y3⟩:=Y A2 kA;have kR:=g2.at (g1.at k4 id) id;have fA:=(f3.trans g1).trans g2;obtain⟨_,_,_,_,y4⟩:=Y (put A2 A.heap.size (.cells (bl ls) 75 (0,0))) (qQi kA om);obtain⟨_,_,_,_,y5⟩:=Y (put A2 (A.heap.size+1) (.cells (bl ls) 75 (0,0))) (qQi kA om);have u1:=wr_d (d':=ls) sz75 b1 z32l J;have u2:=wr_d (d':=ls) sz75 a2 z32l J;have u3:=wr_d (d':=rs) sz75 (qQi (b:=A.heap.size) (o:=.cells (bl ls) 75 (0,0)) a2 om) z32l hrs;have u4:=wr_d (d':=rs) sz75 (qQi (b:=A.heap.size+1) (o:=.cells (bl ls) 75 (0,0)) b1 om) z32l hrs;have b0:=hS.grow fA;have b7:A2.heap.size=A.heap.size+2:=om
 have l1:DgR u w0 sb w0.heap.size (w0.heap.size+1) iv s mn mr cv vv fv E nc h ls rs (pt sb 0) (.int .i64 (h:Nat)) (pt w0.heap.size 0) (pt (w0.heap.size+1) 0) (pt A.heap.size 0) (pt (A.heap.size+1) 0) (put (put A2 A.heap.size (.cells (bl ls) 75 (0,0))) (A.heap.size+1) (.cells (bl rs) 75 (0,0))) :=
  ⟨_,_,rfl,rfl,rfl,rfl,rfl,rfl,om,om,om,qQi (qQd b1) om,qQd (qQi (o:=.cells (bl ls) 75 (0,0)) a2 (show A.heap.size≠A.heap.size+1 by omega)),qQi (qQi kR om) om,qQi (qQi kA om) om,((b0.put _ om (.inr om)).put _ om (.inr om)).mono fun b _ H=>H.imp id fun H=>H.1,(fA.mono fun _ _ h=>h.elim).put (b:=A.heap.size) _ (fun h=>by omega) |>.put (b:=A.heap.size+1) _ fun h=>by omega⟩
 have l2:DgR u w0 sb w0.heap.size (w0.heap.size+1) iv s mn mr cv vv fv E nc h ls rs (pt sb 0) (.int .i64 (h:Nat)) (pt w0.heap.size 0) (pt (w0.heap.size+1) 0) (pt (A.heap.size+1) 0) (pt A.heap.size 0) (put (put A2 (A.heap.size+1) (.cells (bl ls) 75 (0,0))) A.heap.size (.cells (bl rs) 75 (0,0))) :=
  ⟨_,_,rfl,rfl,rfl,rfl,rfl,rfl,om,om,om,qQi (qQd a2) om,qQd (qQi (o:=.cells (bl ls) 75 (0,0)) b1 (show A.heap.size+1≠A.heap.size by omega)),qQi (qQi kR om) om,qQi (qQi kA om) om,((b0.put _ om (.inr om)).put _ om (.inr om)).mono fun b _ H=>H.imp id fun H=>H.1,(fA.mono fun _ _ h=>h.elim).put (b:=A.heap.size+1) _ (fun h=>by omega) |>.put (b:=A.heap.size) _ fun h=>by omega⟩
 have e1:=g1.ext;have e2:=g2.ext;clear Y;simp only[go_sem,yJ,yY,yN,bSe,jY,qQk,OT.row,b5,b6,hn,e1,e2,x1,y1,y2,y3,y4,y5,u1,u2,u3,u4,l1,l2,implies_true,and_self,true_and]
theorem digestLf (U:Tabs w0)(hu:u.heap.size<=w0.heap.size)(hsb:5<=sb)(L:SRow u w0 sb iv s mn mr cv vv fv E)(Y:∀ b, E b->b<w0.heap.size){k val:Bs}(M:k.length=32)(Z:By w0 nv val)(on:one nv=true)(hl:val.length<=128)(hh:h<257) :
  Fn prog 164 #[pt sb 0,.agg (ndA (.leaf k val) nv).toArray,.int .i64 (h:Nat)] w0 fun v w'=>v=dg (V.climb s.width k 0 (leafD s.width k val) (empts s.width h))/\Fr (fun b=>b=sb) w0 w'/\SRow u w' sb iv s mn mr cv vv fv E:=by
 refine go164 sm ?_;have a0:=L.lt;have H:(ndA (.leaf k val) nv).length=102:=qXf z32l z32l M _;obtain⟨W,hW,A,N,k2,s1⟩:=qZz w0 (ndA (.leaf k val) nv).toArray 78 (bl z32) 75;have r0:rdO prog 3 W w0.heap.size 0=some (.int .i64 1):=rd1 agg3 N rfl;have d0:((1:Int) == 1)=true:=rfl;have ld:=qQp (P:=prog) (t:=78) agg78 sz78 N (by simp[H]);simp only[go_sem,yJ,vH,yN,bSe,jY,qQk,Tryz.f164,hW,r0,ld];have I:=L.grow A;refine qQa pl187 ((climb (U.no A) (by have:=A.size;omega) hsb (I.mono (E':=fun b=>E b∨b=w0.heap.size+1) fun b _ B=>B.imp id fun h=>by omega) (fun b B=>by rcases B with B | rfl;exact (by have:=Y b B;omega);omega) M (Z.fr0 A) on hl hh).mono ?_);rintro _ w3 ⟨rfl,O,J⟩;have R:(V.climb s.width k 0 (leafD s.width k val) (empts s.width h)).length=32:=qKt _ _ _ _ _ (qZp _ _ _);have T:=O.at k2 om;have q:=wr_d sz75 T zl32 R;have r:=rd_d agg75 sz75 (qQd (o:=.cells (bl (V.climb s.width k 0 (leafD s.width k val) (empts s.width h))) 75 (0,0)) T) R;simp only[go_sem,yJ,q,r];exact⟨((A.mono fun _ _ h=>h.elim).trans O).put (b:=w0.heap.size+1) _ fun h=>by omega,(J.put _ om (.inr rfl)).mono fun b _ h=>.inl h⟩
end
end A
end
section
namespace A
open Aud
def rwC (n:Nat)(r:Bs):List Value:=.int .i64 (n:Nat)::r.map u8
theorem rwC_one (n:Nat)(r:Bs):(rwC n r).all one=true:=by simp only[rwC,vG,qXs,vV];rfl
theorem shl8 (b k:Nat)(A:b<2)(B:k<8):shlK .u8 (b:Int) (k:Int)=((if b=1 then zX 8 (2 ^ k) else (0:Byte)).toNat:Int):=by
 match k,B,b,A with
 | 0,_,0,_=>rfl
 | 0,_,1,_=>rfl
 | 1,_,0,_=>rfl
 | 1,_,1,_=>rfl
 | 2,_,0,_=>rfl
 | 2,_,1,_=>rfl
 | 3,_,0,_=>rfl
 | 3,_,1,_=>rfl
 | 4,_,0,_=>rfl
 | 4,_,1,_=>rfl
 | 5,_,0,_=>rfl
 | 5,_,1,_=>rfl
 | 6,_,0,_=>rfl
 | 6,_,1,_=>rfl
 | 7,_,0,_=>rfl
 | 7,_,1,_=>rfl
theorem or8 (x y:Byte):orK .u8 (x.toNat:Int) (y.toNat:Int)=((x ||| y).toNat:Int):=by
 have e:orK .u8 (x.toNat:Int) (y.toNat:Int)=IntKind.u8.wrap (((qQ 8 (x.toNat:Int) ||| qQ 8 (y.toNat:Int)).toNat:Nat):Int):=rfl;rw[e,xW,xW,xU,xU,xY,xY];exact w8_toNat _
theorem under_eq (n:Nat)(b:Nat)(B:b<2){row:Bs}(h:n / 8<row.length):row.set (n / 8) (row.getD (n / 8) 0 ||| (if b=1 then zX 8 (2 ^ (7 - n % 8)) else (0:Byte)))=Aud.under n (b == 1) row:=by
 unfold Aud.under
 by_cases A:b=1
 ·subst A;rfl
 ·rw[if_neg A,show row.getD (n / 8) 0 ||| (0:Byte)=row.getD (n / 8) 0 from BitVec.or_zero,qQt 0 h,List.set_getElem_self]
  have:(b == 1)=false:=by simpa using A
  rw[this];rfl
theorem rowUnder (w0:World)(n:Nat)(hn:n<256){row:Bs}(I:row.length=32)(b:Nat)(T:b<2) :
  Fn prog 185 #[.agg (rwC n row).toArray,.int .i64 (b:Nat)] w0 fun v w'=>v=.agg (rwC (n+1) (Aud.under n (b == 1) row)).toArray/\No w0 w':=by
 refine go185 sm ?_;obtain⟨W,Z,f1,k1,k2,s1⟩:=qZz w0 (rwC n row).toArray 158 (rwC 0 z32).toArray 158;have zz:#[.int .i64 0]++bl (zK 32 0)=(rwC 0 z32).toArray:=x8
 have hq:n / 8<32:=om
 have A:W.drew.heap[w0.heap.size]?=some (.cells (rwC n row).toArray 158 (0,0)):=k1;have r0:rdO prog 3 W.drew w0.heap.size 0=some (.int .i64 (n:Nat)):=rd1 (w:=W.drew) agg3 A rfl
 have r1:rdO prog 5 W.drew w0.heap.size (1+n / 8)=some (.int .u8 ((row.getD (n / 8) 0).toNat:Int)):=by
  refine rd1 (w:=W.drew) agg5 A ?_;rw[xI,rwC,Nat.add_comm 1,List.getElem?_cons_succ,j6,xE om,qQt 0 om];rfl
 have c1:IntKind.i64.wrap ((n:Int).tdiv 8)=((n / 8:Nat):Int):=by
  have:(n:Int).tdiv 8=((n / 8:Nat):Int):=rfl;rw[this,qQq om om]
 have c2:(n:Int).tmod 8=((n % 8:Nat):Int):=rfl;have c3:IntKind.i64.wrap (7 - ((n % 8:Nat):Int))=((7 - n % 8:Nat):Int):=by rw[qQq om om];omega
 have J:((8:Int)=0)=False:=sm
 have y1:(0:Int)<=((n / 8:Nat):Int)/\((n / 8:Nat):Int)<((32:Nat):Int):=om
 have w8:IntKind.u8.wrap (b:Int)=(b:Int):=by rw[wrap_u8];omega
 have n0:¬ (((7 - n % 8:Nat):Int)<0):=om
 obtain⟨x,U⟩:∃ x,shlK .u8 (b:Int) ((7 - n % 8:Nat):Int)=x:=⟨_,rfl⟩
 have L:=U.symm.trans (shl8 b (7 - n % 8) T om)
 obtain⟨y,V⟩:∃ y,orK .u8 ((row.getD (n / 8) 0).toNat:Int) x=y:=⟨_,rfl⟩
 have M:y=(((row.getD (n / 8) 0) ||| (if b=1 then zX 8 (2 ^ (7 - n % 8)) else (0:Byte))).toNat:Int):=by rw[<- V,L,or8]
 have Y:=wr1 (P:=prog) (t:=5) (w:=W.drew) (o:=1+n / 8) (v:=.int .u8 y) sz5 rfl A (by simp[rwC,I];omega)
 have eS:(rwC n row).toArray.setIfInBounds (1+n / 8) (.int .u8 y)=(rwC n (Aud.under n (b == 1) row)).toArray:=by
  rw[<- under_eq n b T om,M];apply Array.toList_inj.1;rw[kZ];show (rwC n row).set (1+n / 8) _=_;rw[rwC,Nat.add_comm 1,List.set_cons_succ,rwC,List.map_set]
 rw[eS]at Y;have B:(Aud.under n (b == 1) row).length=32:=by unfold Aud.under;split;rw[jE];exact I;exact I
 have N:=qQd (o:=.cells (rwC n (Aud.under n (b == 1) row)).toArray 158 (0,0)) A;have O:=qQi (w:=W.drew) (b:=w0.heap.size) (o:=.cells (rwC n (Aud.under n (b == 1) row)).toArray 158 (0,0)) (show W.drew.heap[w0.heap.size+1]?=_ from k2) om;have f3:=f1.drew.put (b:=w0.heap.size) (.cells (rwC n (Aud.under n (b == 1) row)).toArray 158 (0,0)) fun h=>absurd h (yU _);generalize hR:Aud.under n (b == 1) row=R at *;have c4:=iSu (i:=n);have r4:rdO prog 3 (put W.drew w0.heap.size (.cells (rwC n R).toArray 158 (0,0))) w0.heap.size 0=some (.int .i64 (n:Nat)):=rd1 agg3 N rfl
 have q2:wrO prog 3 (put W.drew w0.heap.size (.cells (rwC n R).toArray 158 (0,0))) w0.heap.size 0 (.int .i64 ((n+1:Nat):Int))=some (put (put W.drew w0.heap.size (.cells (rwC n R).toArray 158 (0,0))) w0.heap.size (.cells (rwC (n+1) R).toArray 158 (0,0))) :=
  wr_one (a:=[]) (r:=R.map u8) sz3 rfl N rfl
 have k5:=qQd (o:=.cells (rwC (n+1) R).toArray 158 (0,0)) N;have H:=qQi (b:=w0.heap.size) (o:=.cells (rwC (n+1) R).toArray 158 (0,0)) O om;have f5:=f3.put (b:=w0.heap.size) (.cells (rwC (n+1) R).toArray 158 (0,0)) fun h=>absurd h (yU _);have l5:=qQp (P:=prog) (t:=158) agg158 sz158 k5 (by simp[rwC,B]);have q6:=qQr (P:=prog) (t:=158) (vs:=(rwC (n+1) R).toArray) (by simp[rwC,B];exact sz158) H (by simp[rwC,B]) (by simpa using rwC_one (n+1) R);have k6:=qQd (o:=.cells (rwC (n+1) R).toArray 158 (0,0)) H;have l6:=qQp (P:=prog) (t:=158) agg158 sz158 k6 (by simp[rwC,B]);simp -implicitDefEqProofs only[go_sem,yJ,yN,jY,qQk,Tryz.f185,zz,Z,r0,c1,c2,c3,J,if_false,y1,and_self,if_true,iTn,yK,r1,w8,n0,U,V,Y,r4,c4,q2,l5,q6,l6];exact f5.put (b:=w0.heap.size+1) _ fun h=>by omega
end A
end
section
namespace A
open Aud
abbrev RK:=Nat × Bs
abbrev encR:RK->Value:=fun k=>.agg (rwC k.1 k.2).toArray
abbrev okR:RK->Prop:=fun k=>k.2.length=32
abbrev encK:Bs->Value:=fun d=>dg d
abbrev okK:Bs->Prop:=fun d=>d.length=32
theorem strRw:strucO prog 158=some [(false,3,0),(false,76,1)]:=x8
theorem stRw:prog.stoodInHeld 158=false:=x8
theorem rwC_ext (h:r.length=32):(rwC n r).toArray.extract 1 (1+32)=(r.map u8).toArray:=by
 apply Array.toList_inj.1;simp[rwC];exact zG (by simp[h])
theorem keyR:KeyT prog 158 encR okR where
 eq a b ha hb:=by
  show eqV prog Op.maxDepth 158 (.agg (rwC a.1 a.2).toArray) (.agg (rwC b.1 b.2).toArray)=_;rw[show Op.maxDepth=9997+1+1+1 from rfl,eqV_st strRw stRw];have g:∀ {n:Nat} {r:Bs},(rwC n r).toArray[0]?=some (.int .i64 (n:Nat)):=fun {n r}=>rfl;simp only[List.mapM_cons,List.mapM_nil,qKh agg3,part_agg agg76 sz76,qP,if_false,rwC_ext ha,rwC_ext hb,g,qV,eqV_i int3,eqV_dg arr76 int5 sz5 agg5 ha hb,Option.pure_def,Option.bind_eq_bind,Option.map_some,vG,vF,id,vV]
  congr 1
  obtain⟨a1,a2⟩:=a;obtain⟨b1,b2⟩:=b;rw[Bool.eq_iff_iff]
  simp
 ck a ha:=by
  show ckV prog (9997+1+1+1) 158 (.agg (rwC a.1 a.2).toArray)=true;rw[ckV_st strRw];have g:(rwC a.1 a.2).toArray[0]?=some (.int .i64 (a.1:Nat)):=rfl;simp only[vG,vF,qP,if_false,qKh agg3,part_agg agg76 sz76,rwC_ext ha,g,ckV_i int3,vV,jP];exact ckV_dg arr76 int5 sz5 agg5 ha _
 same a _:=sameAgg fun x hx=>by
  simp only[rwC,List.mem_cons,List.mem_map]at hx
  rcases hx with rfl | ⟨y,_,rfl⟩
  ·exact same_int _ _ _
  ·exact same_int _ _ _
theorem keyK:KeyT prog 76 encK okK:=keyDg arr76 int5 sz5 agg5
def MpO {A:Type}(enc:A->Value)(ok:A->Prop)(w:World)(o:Option Nat)(l:List (A × Value)):Prop:=match o with
 | none=>l=[]
 | some b=>Mp enc ok w b l
theorem MpO.fr {A:Type}{enc:A->Value}{ok:A->Prop}{o:Option Nat}{l:List (A × Value)}{F:Nat->Prop}(h:MpO enc ok w o l)(f:Fr F w w')(B:∀ b,o=some b->¬ F b):MpO enc ok w' o l:=by
 cases o with
 | none=>exact h
 | some b=>exact Mp.fr h f (B b rfl)
theorem MpO.look {A:Type}[DecidableEq A]{enc:A->Value}{ok:A->Prop}{B:TypeId}(H:KeyT prog B enc ok){o:Option Nat}{l:List (A × Value)}(h:MpO enc ok w o l){k:A}(I:ok k){t J:TypeId}(L:mapO prog t=some (B, J)){z:Value}(M:zeroO prog J=some z) :
  lookO prog t w (.map o) (enc k)=some ((findM l k).getD z,(findM l k).isSome):=by
 cases o with
 | none=>rw[show l=[] from h,look_nil H I L M];rfl
 | some b=>exact Mp.look H h I L M
structure Cx where
 u:World
 sb:Nat
 iv:Value
 im:Bs
 s:Sup
 mn:Nat
 mr:Nat
 cv:Value
 vv:Value
 nl:List (Nat × Value)
 rl:List (Nat × Value)
 pg:Nat->Option Pg
 pb:Nat
 ob:Nat
 nb:Nat
 oR:Option Nat
 oL:Option Nat
 ro:List (RK × Value)
 lo:List (Bs × Value)
 nR:Nat
 nL:Nat
 fresh:Nat
 fs:List (Nat × Int)
structure Cx.Ok (c:Cx):Prop where
 tabs:Tabs c.u
 hRL:c.nR≠c.nL
 hRn:c.nR≠c.mn/\c.nR≠c.mr
 hLn:c.nL≠c.mn/\c.nL≠c.mr
 hoR:∀ b,c.oR=some b->b≠c.nR/\b≠c.nL
 hoL:∀ b,c.oL=some b->b≠c.nR/\b≠c.nL
 hpb:c.u.heap.size<=c.pb
 hsb:c.u.heap.size<=c.sb
 hnR:c.u.heap.size<=c.nR
 hnL:c.u.heap.size<=c.nL
 hiv:∀ b,qQc c.iv=some b->b<c.u.heap.size
 hm:c.s.mark<=4096
 hpg:∀ p,c.s.mark<=p->c.pg p=none
 hnd:∀ p n,c.pg p=some (.nd n)->2<=p/\n.right
 hf:c.fresh<=4096
 hfs:c.fs.length<=2 ^ 20
def SgX (c:Cx)(w:World)(fs:List (Nat × Int)):Prop:=∃ fv bv,SgM c.u w c.sb c.iv c.im c.s c.mn c.mr c.cv c.vv fv bv c.nl c.rl c.pg c.s.mark fs/\Blank c.u w c.s.width bv
abbrev paC (c:Cx)(next:Nat):Array Value:=#[pt c.sb 0,pt c.ob 0,pt c.nb 0,.int .i64 (c.fresh:Nat),.int .i64 (next:Nat)]
structure PassM (c:Cx) (w:World) (next:Nat) (rows:List (RK × Value)) (lvs:List (Bs × Value)):Prop where
 sg:SgX c w c.fs
 pass:w.heap[c.pb]?=some (.cells (paC c next) 213 (0,0))
 old:w.heap[c.ob]?=some (.cells #[.map c.oR,.map c.oL] 155 (0,0))
 now:w.heap[c.nb]?=some (.cells #[.map (some c.nR),.map (some c.nL)] 155 (0,0))
 oldR:MpO encR okR w c.oR c.ro
 oldL:MpO encK okK w c.oL c.lo
 nowR:Mp encR okR w c.nR rows
 nowL:Mp encK okK w c.nL lvs
 no:No c.u w
def PaB (c:Cx)(b:Nat):Prop:=b=c.sb∨b=c.pb∨b=c.nR∨b=c.nL
section
variable {u w w':World} {sb:Nat} {iv:Value} {im:Bs} {s:Sup} {mn mr:Nat} {cv vv fv bv:Value} {nl rl:List (Nat × Value)} {pg:Nat->Option Pg} {k:Nat} {fs:List (Nat × Int)}
theorem SgM.fr {F:Nat->Prop}(h:SgM u w sb iv im s mn mr cv vv fv bv nl rl pg k fs)(f:Fr F w w')(O:∀ b, F b->u.heap.size<=b)(hiv:∀ b, qQc iv=some b->b<u.heap.size)(N:¬ F mn/\¬ F mr)
  (M:∀ b c L,w.heap[b]?=some (.cells c L (0,0))->F b->L≠3/\L≠5/\L≠43) {A B:Value} (R:w'.heap[sb]?=some (.cells (sgC iv s mn mr cv A fv B) 73 (0,0))) (T:one A=true) (U:one B=true):SgM u w' sb iv im s mn mr cv A fv B nl rl pg k fs :=
 ⟨R,h.img.fr f (fun b H _ I=>by have:=hiv b H;have:=O b I;omega),h.nds.fr f N.1,h.rcs.fr f N.2,h.hne,h.hsb,h.hmn,h.hmr,
  h.chn.fr f (fun b H I=>by obtain⟨c,J⟩:=qXa h.chn H;exact (M _ _ _ J I).1 rfl),h.fnd.fr f (fun b H I=>by obtain⟨c,J⟩:=qXa h.fnd H;exact (M _ _ _ J I).2.2 rfl),h.na.fr f (fun b c H I=>(M _ _ _ H I).2.1 rfl),h.ra,T,U⟩
end
section
variable {c:Cx} {w w':World} {next:Nat} {rows:List (RK × Value)} {lvs:List (Bs × Value)}
theorem PassM.fr0 (h:PassM c w next rows lvs)(f:No w w'):PassM c w' next rows lvs:=by
 obtain⟨fv,bv,A,B⟩:=h.sg;exact⟨⟨fv,bv,A.fr0 f,B.fr f fun _ _ _ _ _ h=>h⟩,f.at h.pass id,f.at h.old id,f.at h.now id,h.oldR.fr f fun _ _ h=>h,h.oldL.fr f fun _ _ h=>h,h.nowR.fr0 f,h.nowL.fr0 f,h.no.trans f⟩
theorem PassM.srow (h:PassM c w next rows lvs):∃ fv bv,SgM c.u w c.sb c.iv c.im c.s c.mn c.mr c.cv c.vv fv bv c.nl c.rl c.pg c.s.mark c.fs/\Blank c.u w c.s.width bv/\SRow c.u w c.sb c.iv c.s c.mn c.mr c.cv c.vv fv (fun _=>False):=by
 obtain⟨fv,bv,A,B⟩:=h.sg;exact⟨fv,bv,A,B,bv,A.row,B,fun _ _ h=>h⟩
theorem PassM.dig (h:PassM c w next rows lvs)(J:c.Ok){fv bv:Value}(A:SgM c.u w c.sb c.iv c.im c.s c.mn c.mr c.cv c.vv fv bv c.nl c.rl c.pg c.s.mark c.fs)(f:Fr (fun b=>b=c.sb) w w')(R:SRow c.u w' c.sb c.iv c.s c.mn c.mr c.cv c.vv fv (fun _=>False)):PassM c w' next rows lvs:=by
 obtain⟨L,T,N,_⟩:=R;have M:∀ {b c' H},w.heap[b]?=some (.cells c' H (0,0))->H≠73->b≠c.sb:=fun {b c' H} B U e=>by subst e;rw[A.row]at B;cases B;exact U rfl
 have ms:∀ {I:Type} {enc:I->Value} {ok:I->Prop} {b:Nat} {l:List (I × Value)},Mp enc ok w b l->b≠c.sb:=fun {I enc ok b l} V e=>by
  obtain⟨W,Y,O,_⟩:=V;subst e;rw[A.row]at O;cases O
 refine⟨⟨fv,L,A.fr f (fun b e=>by subst e;exact J.hsb) J.hiv ⟨ms A.nds,ms A.rcs⟩ (fun b c' H B e=>?_) T A.ov N.one,N⟩,f.at h.pass (M h.pass x9),f.at h.old (M h.old x9),f.at h.now (M h.now x9),h.oldR.fr f fun b e=>?_,h.oldL.fr f fun b e=>?_,h.nowR.fr f (ms h.nowR),h.nowL.fr f (ms h.nowL),h.no.trans' f fun b B e=>by subst e;have:=J.hsb;omega⟩
 ·subst e;rw[A.row]at B;cases B;exact⟨x9,x9,x9⟩
 ·have:=h.oldR;rw[e]at this;exact ms this
 ·have:=h.oldL;rw[e]at this;exact ms this
theorem PassM.step (h:PassM c w next rows lvs)(L:c.Ok)(M:Nat)(f:Fr (fun b=>b=c.pb) w w')(O:w'.heap[c.pb]?=some (.cells (paC c M) 213 (0,0))):PassM c w' M rows lvs:=by
 obtain⟨fv,bv,B,A⟩:=h.sg;have H:∀ {b c' I},w.heap[b]?=some (.cells c' I (0,0))->I≠213->b≠c.pb:=fun {b c' I} A R e=>by subst e;rw[h.pass]at A;cases A;exact R rfl
 have ms:∀ {J:Type} {enc:J->Value} {ok:J->Prop} {b:Nat} {l:List (J × Value)},Mp enc ok w b l->b≠c.pb:=fun {J enc ok b l} T e=>by
  obtain⟨U,V,N,_⟩:=T;subst e;rw[h.pass]at N;cases N
 refine⟨⟨fv,bv,B.fr f (fun b e=>by subst e;exact L.hpb) L.hiv ⟨ms B.nds,ms B.rcs⟩ (fun b c' I A e=>?_) (f.at B.row (H B.row x9)) B.ov B.ob,A.fr f fun b c' A _ _ e=>H A x9 e⟩,O,f.at h.old (H h.old x9),f.at h.now (H h.now x9),h.oldR.fr f fun b e=>?_,h.oldL.fr f fun b e=>?_,h.nowR.fr f (ms h.nowR),h.nowL.fr f (ms h.nowL),h.no.trans' f fun b A e=>by subst e;have:=L.hpb;omega⟩
 ·subst e;rw[h.pass]at A;cases A;exact⟨x9,x9,x9⟩
 ·have:=h.oldR;rw[e]at this;exact ms this
 ·have:=h.oldL;rw[e]at this;exact ms this
theorem PassM.putR (h:PassM c w next rows lvs)(B:c.Ok)(N:r.length=32)(p:Nat):∃ H,putE prog 158 w.heap[c.nR]? (.agg (rwC n r).toArray) (.int .i64 (p:Nat))=some H/\PassM c (put w c.nR H) next (insM rows (n,r) (.int .i64 (p:Nat))) lvs/\Fr (fun b=>b=c.nR) w (put w c.nR H):=by
 obtain⟨fv,bv,J,A⟩:=h.sg;obtain⟨H,O,R,T⟩:=h.nowR.put keyR (k:=(n,r)) N (.int .i64 (p:Nat));have f:Fr (fun b=>b=c.nR) w (put w c.nR H):=(Fr.refl _ _).put (b:=c.nR) H (fun _=>rfl) R;obtain⟨U,V,M,_⟩:=id h.nowR;have I:∀ {b c' L},w.heap[b]?=some (.cells c' L (0,0))->b≠c.nR:=fun {b c' L} A e=>by subst e;rw[M]at A;cases A
 refine⟨H,O,⟨⟨fv,bv,J.fr f (fun b e=>by subst e;exact B.hnR) B.hiv ⟨fun e=>B.hRn.1 e.symm,fun e=>B.hRn.2 e.symm⟩ (fun b c' L A e=>absurd e (I A)) (f.at J.row (I J.row)) J.ov J.ob,A.fr f fun b c' A _ _ e=>I A e⟩,f.at h.pass (I h.pass),f.at h.old (I h.old),f.at h.now (I h.now),h.oldR.fr f fun b e=>(B.hoR b e).1,h.oldL.fr f fun b e=>(B.hoL b e).1,T _ (qQd M),h.nowL.fr f fun e=>B.hRL e.symm,h.no.trans' f fun b A e=>by subst e;have:=B.hnR;omega⟩,f⟩
theorem PassM.putL (h:PassM c w next rows lvs)(B:c.Ok)(N:k.length=32)(p:Nat):∃ H,putE prog 76 w.heap[c.nL]? (dg k) (.int .i64 (p:Nat))=some H/\PassM c (put w c.nL H) next rows (insM lvs k (.int .i64 (p:Nat)))/\Fr (fun b=>b=c.nL) w (put w c.nL H):=by
 obtain⟨fv,bv,J,A⟩:=h.sg;obtain⟨H,O,R,T⟩:=h.nowL.put keyK (k:=k) N (.int .i64 (p:Nat));have f:Fr (fun b=>b=c.nL) w (put w c.nL H):=(Fr.refl _ _).put (b:=c.nL) H (fun _=>rfl) R;obtain⟨U,V,M,_⟩:=id h.nowL;have I:∀ {b c' L},w.heap[b]?=some (.cells c' L (0,0))->b≠c.nL:=fun {b c' L} A e=>by subst e;rw[M]at A;cases A
 refine⟨H,O,⟨⟨fv,bv,J.fr f (fun b e=>by subst e;exact B.hnL) B.hiv ⟨fun e=>B.hLn.1 e.symm,fun e=>B.hLn.2 e.symm⟩ (fun b c' L A e=>absurd e (I A)) (f.at J.row (I J.row)) J.ov J.ob,A.fr f fun b c' A _ _ e=>I A e⟩,f.at h.pass (I h.pass),f.at h.old (I h.old),f.at h.now (I h.now),h.oldR.fr f fun b e=>(B.hoR b e).2,h.oldL.fr f fun b e=>(B.hoL b e).2,h.nowR.fr f B.hRL,T _ (qQd M),h.no.trans' f fun b A e=>by subst e;have:=B.hnL;omega⟩,f⟩
end
end A
end
section
namespace A
open Aud
theorem zNode:zeroO prog 78=some (.agg nd0.toArray):=x8
def stC (page by' count:Nat)(sum:Bs):List Value:=[.int .i64 (page:Nat),.int .i64 (by':Nat),.int .i64 (count:Nat)]++sum.map u8
def ndsP (pg:Nat->Option Pg)(p:Nat):Option Nd:=match pg p with
 | some (.nd n)=>some n
 | _=>none
theorem qJt {pg:Nat->Option Pg}{n:Nd}:ndsP pg p=some n ↔ pg p=some (.nd n):=by
 unfold ndsP;split
 ·rename_i m h;rw[h];exact⟨(fun e=>by cases e;rfl),(fun e=>by cases e;rfl)⟩
 ·rename_i h;exact⟨(fun e=>by cases e),fun e=>absurd e (h n)⟩
section
variable {c:Cx} {w w':World} {next:Nat} {rows:List (RK × Value)} {lvs:List (Bs × Value)}
theorem PassM.ndS (h:PassM c w next rows lvs)(B:c.Ok){n:Nd}(A:ndsP c.pg p=some n):∃ vv,lookO prog 68 w (.map (some c.mn)) (.int .i64 (p:Nat))=some (.agg (ndA n vv).toArray,true)/\one vv=true/\NwB c.u w vv (ndVal n)/\n.right/\2<=p/\(n.kind=2->vv=.slice none 0 0):=by
 obtain⟨fv,bv,I,_⟩:=h.sg;have A:=qJt.1 A;have J:=I.na p
 have H:p<c.s.mark:=by
  by_cases M:p<c.s.mark
  ·exact M
  ·rw[B.hpg p om]at A;cases A
 rw[if_pos H,A]at J;obtain⟨x,a,vv,e,N,O,R⟩:=J;have L:=I.nds.look keyN (k:=p) trivial map68 zNode;rw[a,e]at L;exact⟨vv,L,N,O,(B.hnd p n A).2,(B.hnd p n A).1,R⟩
theorem PassM.ndN (h:PassM c w next rows lvs)(J:c.Ok)(A:ndsP c.pg p=none):lookO prog 68 w (.map (some c.mn)) (.int .i64 (p:Nat))=some (.agg nd0.toArray,false):=by
 obtain⟨fv,bv,B,_⟩:=h.sg;have H:=B.na p;have I:=B.nds.look keyN (k:=p) trivial map68 zNode
 have:findM c.nl p=none:=by
  split at H
  ·rename_i n e
   split at e
   ·rw[qJt.2 e]at A;cases A
   ·cases e
  ·exact H
 rw[this]at I;exact I
theorem PassM.rds (h:PassM c w next rows lvs):rdO prog 63 w c.pb 0=some (pt c.sb 0)/\rdO prog 68 w c.sb 6=some (.map (some c.mn))/\rdO prog 156 w c.pb 2=some (pt c.nb 0)/\rdO prog 156 w c.pb 1=some (pt c.ob 0) /\
  rdO prog 152 w c.nb 0=some (.map (some c.nR))/\rdO prog 153 w c.nb 1=some (.map (some c.nL))/\rdO prog 152 w c.ob 0=some (.map c.oR)/\rdO prog 153 w c.ob 1=some (.map c.oL)/\rdO prog 3 w c.pb 3=some (.int .i64 (c.fresh:Nat))/\rdO prog 3 w c.pb 4=some (.int .i64 (next:Nat)):=by
 obtain⟨fv,bv,A,_⟩:=h.sg;exact⟨rd1 agg63 h.pass rfl,rd1 agg68 A.row rfl,rd1 agg156 h.pass rfl,rd1 agg156 h.pass rfl,rd1 agg152 h.now rfl,rd1 agg153 h.now rfl,rd1 agg152 h.old rfl,rd1 agg153 h.old rfl,rd1 agg3 h.pass rfl,rd1 agg3 h.pass rfl⟩
end
theorem rdLf {k v:Bs}(A:k.length=32)(h:w.heap[b]?=some (.cells (ndA (.leaf k v) vv).toArray 78 (0,0))):rdO prog 3 w b 0=some (.int .i64 1)/\rdO prog 3 w b 1=some (.int .i64 0)/\rdO prog 3 w b 2=some (.int .i64 0)/\rdO prog 76 w b 69=some (dg k)/\rdO prog 22 w b 101=some vv:=by
 refine⟨rd1 agg3 h rfl,rd1 agg3 h rfl,rd1 agg3 h rfl,?_,rd1 agg22 h ?_⟩
 ·refine qJw (e:=78) (fz:=(0,0)) (a:=[.int .i64 1,.int .i64 0,.int .i64 0,.int .i64 0,.int .i64 0]++z32.map u8++z32.map u8) (m:=k.map u8) (r:=[vv]) agg76 (by simp[A];exact sz76) (by simp[A]) ?_ sm
  rw[h];rfl
 ·rw[xI]
  show ([.int .i64 1,.int .i64 0,.int .i64 0,.int .i64 0,.int .i64 0]++z32.map u8++z32.map u8++k.map u8++[vv])[101]?=_;rw[z4 (by simp[A])];simp[A]
theorem rdBr {b B H lc rc:Nat}(A:ls.length=32)(hrs:rs.length=32)(h:w.heap[b]?=some (.cells (ndA (.br B H lc rc ls rs) vv).toArray 78 (0, 0))):rdO prog 3 w b 0=some (.int .i64 2)/\rdO prog 3 w b 1=some (.int .i64 (B:Nat))/\rdO prog 3 w b 2=some (.int .i64 (H:Nat))/\rdO prog 3 w b 3=some (.int .i64 (lc:Nat))/\rdO prog 3 w b 4=some (.int .i64 (rc:Nat)) /\
  rdO prog 75 w b 5=some (dg ls)/\rdO prog 75 w b 37=some (dg rs):=by
 refine⟨rd1 agg3 h rfl,rd1 agg3 h rfl,rd1 agg3 h rfl,rd1 agg3 h rfl,rd1 agg3 h rfl,?_,?_⟩
 ·refine qJw (e:=78) (fz:=(0,0)) (a:=[.int .i64 2,.int .i64 (B:Nat),.int .i64 (H:Nat),.int .i64 (lc:Nat),.int .i64 (rc:Nat)]) (m:=ls.map u8) (r:=rs.map u8++z32.map u8++[vv]) agg75 (by simp[A];exact sz75) (by simp[A]) ?_ sm
  rw[h];simp only[ndA,ndC,zJ];rfl
 ·refine qJw (e:=78) (fz:=(0,0)) (a:=[.int .i64 2,.int .i64 (B:Nat),.int .i64 (H:Nat),.int .i64 (lc:Nat),.int .i64 (rc:Nat)]++ls.map u8) (m:=rs.map u8) (r:=z32.map u8++[vv]) agg75 (by simp[hrs];exact sz75) (by simp[hrs]) ?_ (by simp[A])
  rw[h];simp only[ndA,ndC,zJ];rfl
theorem rdRw {row:Bs}(A:row.length=32)(h:w.heap[b]?=some (.cells (rwC n row).toArray 158 (0,0))):rdO prog 3 w b 0=some (.int .i64 (n:Nat))/\rdO prog 76 w b 1=some (dg row)/\rdO prog 158 w b 0=some (.agg (rwC n row).toArray) :=
 ⟨rd1 agg3 h rfl,qJw (e:=158) (fz:=(0,0)) (a:=[.int .i64 (n:Nat)]) (m:=row.map u8) (r:=[]) agg76 (by simp[A];exact sz76) (by simp[A]) (by rw[h,rwC,zO];rfl) rfl,qQp (P:=prog) agg158 sz158 h (by simp[rwC,A])⟩
theorem qJd {n:Nd}(h:n.right)(vv:Value):(ndA n vv).length=102:=by
 cases n with
 | leaf k v=>exact qXf z32l z32l h.1 _
 | br A B lc rc ls rs=>exact qXf h.2.1 h.2.2 z32l _
theorem ndA_one {n:Nd}(h:one vv=true):(ndA n vv).all one=true:=by
 cases n with
 | leaf k v=>exact qZy _ _ _ _ _ _ _ _ h
 | br A B lc rc ls rs=>exact qZy _ _ _ _ _ _ _ _ h
theorem natlt (a b:Nat):decide (((a:Nat):Int)<((b:Nat):Int))=decide (a<b):=sm
theorem natle (a b:Nat):decide (((a:Nat):Int)<=((b:Nat):Int))=decide (a<=b):=sm
section
variable {c:Cx} {w w':World} {next:Nat} {rows:List (RK × Value)} {lvs:List (Bs × Value)}
theorem links (h:PassM c w next rows lvs)(hk:c.Ok){row:Bs}(hr:row.length=32)(page by' count:Nat)(sum:Bs) :
  Fn prog 161 #[pt c.pb 0,.agg (stC page by' count sum).toArray,.agg (rwC n row).toArray] w fun v w'=>v=.bool (Aud.linked (ndsP c.pg) n row page by' count).isSome/\No w w':=by
 refine go161 sm ?_;generalize B:(Aud.linked (ndsP c.pg) n row page by' count).isSome=R;obtain⟨W,hW,N,k1,k2,O⟩:=qZz w (stC page by' count sum).toArray 217 (rwC n row).toArray 158;simp only[go_sem,yJ,vH,yN,jY,Tryz.f161,hW];refine qXl (fun j=>j == 13) (.row [0,1,2,7,3,4,5,6,8,9,10,11,12,13,14,15]) rfl x8 x8 ?_;have N:=N.drew;have k1:W.drew.heap[w.heap.size]?=_:=k1;have k2:W.drew.heap[w.heap.size+1]?=_:=k2;have O:W.drew.heap.size=w.heap.size+2:=O;generalize W.drew=W1 at *;have hP:=h.fr0 N;have b0:rdO prog 3 W1 w.heap.size 0=some (.int .i64 (page:Nat)):=rd1 agg3 k1 rfl;obtain⟨T,U,V,k3,s2⟩:=qQl W1 nd0.toArray 78;rw[O]at k3;have e2:=V.ext;obtain⟨p0,p1,_⟩:=hP.rds;have zz:#[.int .i64 0,.int .i64 0,.int .i64 0,.int .i64 0,.int .i64 0]++bl (zK 96 0)++#[.slice none 0 0]=nd0.toArray:=ndZero
 cases Y:ndsP c.pg page with
 | none =>
  have lk:=hP.ndN hk Y;have q3:wrO prog 78 T (w.heap.size+2) 0 (.agg nd0.toArray)=some (put T (w.heap.size+2) (.cells nd0.toArray 78 (0,0))):=qQr (by exact sz78) k3 rfl (by simpa using qZy 0 0 0 0 0 z32 z32 z32 rfl);simp only[go_sem,yJ,yY,yN,bSe,qZj,xH,jY,qQk,OT.row,p0,p1,b0,lk,zz,U,O,q3,e2,implies_true];refine⟨?_,(N.trans V).put (b:=w.heap.size+2) _ fun h=>by omega⟩;rw[<- B];unfold Aud.linked;rw[Y];rfl
 | some nd =>
  obtain⟨vv,lk,ov,nb,A,_,_⟩:=hP.ndS hk Y;have q3:wrO prog 78 T (w.heap.size+2) 0 (.agg (ndA nd vv).toArray)=some (put T (w.heap.size+2) (.cells (ndA nd vv).toArray 78 (0,0))):=qQr (by simp[qJd A];exact sz78) k3 (by simp[qJd A,qXf z32l z32l z32l]) (by simpa using ndA_one ov);have J:=(N.trans V).put (b:=w.heap.size+2) (.cells (ndA nd vv).toArray 78 (0,0)) fun h=>by omega
  have g1:=qQi (b:=w.heap.size+2) (o:=.cells (ndA nd vv).toArray 78 (0,0)) (V.at k1 id) om;have g2:=qQi (b:=w.heap.size+2) (o:=.cells (ndA nd vv).toArray 78 (0,0)) (V.at k2 id) om;have g3:=qQd (o:=.cells (ndA nd vv).toArray 78 (0,0)) k3;simp only[go_sem,yJ,yY,yN,bSe,vK,jY,qQk,OT.row,p0,p1,b0,lk,zz,U,O,q3,e2,implies_true];generalize put T (w.heap.size+2) (.cells (ndA nd vv).toArray 78 (0,0))=L at *;have Z:rdO prog 3 L w.heap.size 0=some (.int .i64 (page:Nat)):=rd1 agg3 g1 rfl;have c1:rdO prog 3 L w.heap.size 1=some (.int .i64 (by':Nat)):=rd1 agg3 g1 rfl;have c2:rdO prog 3 L w.heap.size 2=some (.int .i64 (count:Nat)):=rd1 agg3 g1 rfl;have gl:=natle by' page
  cases nd with
  | leaf k v =>
   obtain⟨d0,d1,d2,M,d4⟩:=rdLf A.1 g3;obtain⟨t0,t1,t2⟩:=rdRw hr g2
   have B:R=decide (page<by'/\count=1/\n<=common k row):=by
    rw[<- B];unfold Aud.linked;rw[Y];show (if page<by'/\count=1/\n<=common k row then some (Nd.leaf k v) else none).isSome=_;split
    ·rename_i h;exact (decide_eq_true h).symm
    ·rename_i h;exact (decide_eq_false h).symm
   by_cases hb:by'<=page
   ·rw[decide_eq_true hb]at gl
    simp only[go_sem,yJ,bSe,jY,Z,c1,gl];exact⟨by rw[B,decide_eq_false om],J⟩
   ·rw[decide_eq_false hb]at gl
    have H:((count:Int) == 1)=decide (count=1):=nateq count 1;simp only[go_sem,yJ,bSe,jY,Z,c1,gl,d0];refine qXl (fun j=>j == 8) (.row [0,1,2,3,4,6,9,5,7,10,8,11,12,13]) rfl x8 x8 ?_;have J:=J.drew;have c2:rdO prog 3 L.drew w.heap.size 2=some (.int .i64 (count:Nat)):=c2;have M:rdO prog 76 L.drew (w.heap.size+2) 69=some (dg k):=M;have t0:rdO prog 3 L.drew (w.heap.size+1) 0=some (.int .i64 (n:Nat)):=t0;have t1:rdO prog 76 L.drew (w.heap.size+1) 1=some (dg row):=t1;generalize L.drew=W4 at *
    by_cases I:count=1
    ·rw[decide_eq_true I]at H
     simp only[go_sem,yJ,yY,bSe,jY,OT.row,c2,H,M,t0,t1];refine qQe pl184 ((commonP W4 A.1 hr).mono ?_);rintro _ w5 ⟨rfl,f5⟩;refine⟨fun _=>f5.ext,?_⟩;have gd:=natle n (common k row);simp only[go_sem,yJ,yY,bSe,gd];exact⟨by rw[B];congr 1;exact Bool.eq_iff_iff.2 ⟨fun h=>decide_eq_true ⟨om,I,of_decide_eq_true h⟩,fun h=>decide_eq_true (of_decide_eq_true h).2.2⟩,J.trans f5⟩
    ·rw[decide_eq_false I]at H
     simp only[go_sem,yJ,yY,qQx,jY,OT.row,c2,H];exact⟨by rw[B,decide_eq_false fun h=>I h.2.1],J⟩
  | br lp rp lc rc ls rs =>
   obtain⟨d0,d1,d2,M,d4,_⟩:=rdBr A.2.1 A.2.2 g3;obtain⟨t0,t1,t2⟩:=rdRw hr g2
   have B:R=decide (page<by'/\count=lc+rc/\n<256):=by
    rw[<- B];unfold Aud.linked;rw[Y];show (if page<by'/\count=lc+rc/\n<256 then some (Nd.br lp rp lc rc ls rs) else none).isSome=_;split
    ·rename_i h;exact (decide_eq_true h).symm
    ·rename_i h;exact (decide_eq_false h).symm
   have a3:=A.1.2.2.2.2
   by_cases hb:by'<=page
   ·rw[decide_eq_true hb]at gl
    simp only[go_sem,yJ,bSe,jY,Z,c1,gl];exact⟨by rw[B,decide_eq_false om],J⟩
   ·rw[decide_eq_false hb]at gl
    have ga:IntKind.i64.wrap ((lc:Int)+(rc:Int))=((lc+rc:Nat):Int):=qXi (b:=rc);have H:=nateq count (lc+rc);have gd:decide ((n:Int)<256)=decide (n<256):=natlt n 256;have a0:((2:Int) == 1)=false:=rfl
    by_cases I:count=lc+rc
    ·rw[decide_eq_true I]at H
     simp only[go_sem,yJ,bSe,jY,Z,c1,c2,gl,d0,a0,M,d4,ga,H,t0,gd];exact⟨by rw[B];congr 1;exact Bool.eq_iff_iff.2 ⟨fun h=>decide_eq_true ⟨om,I,of_decide_eq_true h⟩,fun h=>decide_eq_true (of_decide_eq_true h).2.2⟩,J⟩
    ·rw[decide_eq_false I]at H
     simp only[go_sem,yJ,bSe,qQx,jY,Z,c1,c2,gl,d0,a0,M,d4,ga,H];exact⟨by rw[B,decide_eq_false fun h=>I h.2.1],J⟩
end
end A
end
section
namespace R
open Aud A
theorem sameBytes (w0:World){a b:Bs}(A:By w0 av a)(B:By w0 bv b):Fn prog 139 #[av,bv] w0 fun v w'=>v=.bool (decide (a=b))/\w'=w0:=by
 refine go139 sm ?_;simp -implicitDefEqProofs only[go_sem,yJ,Tryz.f139];refine qQj ⟨_,_,by_str A,?_⟩;simp -implicitDefEqProofs only[go_sem,yJ];refine qQj ⟨_,_,by_str B,?_⟩;simp -implicitDefEqProofs only[go_sem,yJ];rw[str_eq];exact⟨rfl,trivial⟩
theorem take_eq {α:Type}{a b:List α}(i:Nat)(A:i<a.length)(B:i<b.length)(h:a.take i=b.take i):a.take (i+1)=b.take (i+1) ↔ a[i]=b[i]:=by
 rw[tSg A,tSg B,h];constructor
 ·intro e
  have:=List.append_cancel_left e;simpa using this
 ·intro e;rw[e]
def smI (w0:World)(a b:Value)(xs A:List En)(n:Nat)(vs:List Value)(w:World):Prop :=
 ∃ (i:Nat),vs=[a,b,.int .i64 (i:Nat)]/\i<=xs.length/\n=xs.length - i/\xs.take i=A.take i/\No w0 w
theorem sameMap (w0:World){xs A:List En}(ha:EnR w0 av xs)(hb:EnR w0 bv A)(hl:xs.length<=2 ^ 40):Fn prog 135 #[av,bv] w0 fun v w'=>v=.bool (decide (xs=A))/\No w0 w':=by
 refine go135 sm ?_;obtain⟨aa,ac,rfl,a7⟩:=ha.slice;obtain⟨ba,bc,rfl,a8⟩:=hb.slice;have T:=natne xs.length A.length
 by_cases hne:xs.length=A.length
 case neg =>
  rw[decide_eq_true hne]at T;have e:decide (xs=A)=false:=decide_eq_false fun h=>hne (by rw[h]);simp -implicitDefEqProofs only[go_sem,yJ,jY,Tryz.f135,T];exact⟨by rw[e],Fr.refl _ _⟩
 rw[decide_eq_false (not_not_intro hne)]at T;simp -implicitDefEqProofs only[go_sem,yJ,jY,Tryz.f135,T];refine loopD [0,1,5] (smI w0 (.slice aa xs.length ac) (.slice ba A.length bc) xs A) xs.length ⟨0,rfl,om,rfl,rfl,Fr.refl _ _⟩ ?_;rintro _ vs w g ⟨i,rfl,hi,rfl,Y,U⟩;have Z:=natlt i xs.length
 by_cases H:i<xs.length
 ·rw[decide_eq_true H]at Z
  have y1:=iBd (i:=i) (n:=xs.length);have y2:=iBd (i:=i) (n:=A.length);have c1:=iSu (i:=i);obtain⟨b1,o1,a9,v1,e1,_,a0,b0,a3,J⟩:=ha.at H;cases e1;obtain⟨b2,o2,b3,v2,e2,_,a4,b4,a5,L⟩:=hb.at (show i<A.length by omega);cases e2;have B:No w0 w.drew:=U.drew;obtain⟨r1,b5,_⟩:=J w U;obtain⟨r2,b6,_⟩:=L w U;obtain⟨M,N,_⟩:=J w.drew B;obtain⟨O,R,_⟩:=L w.drew B;have eq:=eqKey a0 a4;have a6:=take_eq i H om Y
  by_cases V:xs[i].1=A[i].1
  ·have I:(xs[i].1 == A[i].1)=true:=beq_iff_eq.2 V
   simp -implicitDefEqProofs only[go_sem,yJ,bSe,vK,yF,y1,y2,and_self,iTn,M,O,N,R,eq,I];refine qQa pl139 ((sameBytes w.drew (a3.fr0 B) (a5.fr0 B)).mono ?_);rintro _ w2 ⟨rfl,rfl⟩
   by_cases W:xs[i].2=A[i].2
   ·rw[decide_eq_true W]
    simp -implicitDefEqProofs only[go_sem,yJ,bSe,vK,c1];exact⟨xs.length - (i+1),om,i+1,rfl,om,rfl,a6.2 (Prod.ext V W),B⟩
   ·rw[decide_eq_false W]
    have e:decide (xs=A)=false:=decide_eq_false fun h=>W (by simp only[h]);rw[e];simp -implicitDefEqProofs only[go_sem,yJ,bSe,xH];exact B
  ·have I:(xs[i].1 == A[i].1)=false:=beq_eq_false_iff_ne.2 V
   have e:decide (xs=A)=false:=decide_eq_false fun h=>V (by simp only[h]);rw[e];simp -implicitDefEqProofs only[go_sem,yJ,qZj,xH,yF,y1,y2,and_self,iTn,M,O,eq,I];exact B
 ·rw[decide_eq_false H]at Z
  have e:decide (xs=A)=true:=decide_eq_true (by
   rw[zG om,zG om]at Y;exact Y)
  simp -implicitDefEqProofs only[go_sem,yJ,Z];exact⟨by rw[e],U⟩
theorem map_at {m:List En}(h:Map n m)(J:n<256)(hi:i<m.length):kbit m[i].1 n=decide ((m.filter fun x=>!kbit x.1 n).length<=i):=by
 have I:=h.split J;have A:=congrArg List.length I;rw[lAp]at A;have H:(m.filter (fun x=>!kbit x.1 n)++m.filter (fun x=>kbit x.1 n))[i]'(by rw[lAp];omega)=m[i]:=by simp only[I]
 by_cases B:i<(m.filter fun x=>!kbit x.1 n).length
 ·rw[jQ B]at H
  have:=(List.mem_filter.1 (jT B)).2;rw[H]at this;rw[decide_eq_false om];simpa using this
 ·rw[List.getElem_append_right om]at H
  have:=(List.mem_filter.1 (jT (show i - (m.filter fun x=>!kbit x.1 n).length<(m.filter fun x=>kbit x.1 n).length by omega))).2;rw[H]at this;rw[decide_eq_true om];exact this
def spI (w0:World)(a:Value)(n L N:Nat)(k:Nat)(vs:List Value)(w:World):Prop :=
 ∃ (i:Nat),vs=[a,.int .i64 (n:Nat),.int .i64 (i:Nat)]/\i<=L/\k=N - i/\No w0 w
theorem split (w0:World){m:List En}(h:EnR w0 mv m)(T:Map n m)(N:n<256)(hl:m.length<=2 ^ 40):Fn prog 143 #[mv,.int .i64 (n:Nat)] w0 fun v w'=>v=.int .i64 ((m.filter fun x=>!kbit x.1 n).length:Nat)/\No w0 w':=by
 refine go143 sm ?_;obtain⟨a,c,rfl,hc⟩:=h.slice;have hL:(m.filter fun x=>!kbit x.1 n).length<=m.length:=List.length_filter_le _ _;have H:=fun {i:Nat} (hi:i<m.length)=>map_at T N hi;generalize (m.filter fun x=>!kbit x.1 n).length=L at *;simp -implicitDefEqProofs only[go_sem,jY,Tryz.f143];refine loopD [0,1,5] (spI w0 (.slice a m.length c) n L m.length) m.length ⟨0,rfl,om,rfl,Fr.refl _ _⟩ ?_;rintro _ vs w g ⟨i,rfl,hi,rfl,B⟩;have I:=natlt i m.length
 by_cases A:i<m.length
 ·rw[decide_eq_true A]at I
  have U:=iBd (i:=i) (n:=m.length);have c1:=iSu (i:=i);obtain⟨b1,o1,V,v1,W,_,J,Y,Z,M⟩:=h.at A;cases W;obtain⟨r1,_,_⟩:=M w B;have O:=H A;simp -implicitDefEqProofs only[go_sem,yJ,yF,U,and_self,iTn,r1];refine qQa pl171 ((bit3 w J N).mono ?_);rintro _ w2 ⟨rfl,R⟩
  by_cases hz:i<L
  ·have z:(kb m[i].1 n == 0)=true:=by unfold kb;rw[O,decide_eq_false om];rfl
   simp -implicitDefEqProofs only[go_sem,yJ,z,c1];exact⟨m.length - (i+1),om,i+1,rfl,om,rfl,B.trans R⟩
  ·have z:(kb m[i].1 n == 0)=false:=by unfold kb;rw[O,decide_eq_true om];rfl
   obtain rfl:i=L:=om
   simp -implicitDefEqProofs only[go_sem,yJ,z];exact B.trans R
 ·rw[decide_eq_false A]at I
  obtain rfl:i=L:=om
  simp -implicitDefEqProofs only[go_sem,yJ,qQx,I];exact B
def lkI (w0:World)(a:Value)(A:Nat)(k:Bs)(m:List En)(n:Nat)(vs:List Value)(w:World):Prop :=
 ∃ (lo hi:Nat),vs=[a,pt A 0,.int .i64 (lo:Nat),.int .i64 (hi:Nat)]/\lo<=hi/\hi<=m.length/\n=hi - lo/\(∀ i (h:i<m.length),i<lo->klt m[i].1 k)/\(∀ i (h:i<m.length),hi<=i->klt k m[i].1)/\w.heap[A]?=some (.cells (bl k) 76 (0,0))/\No w0 w
def LookQ (w0:World)(m:List En)(k:Bs)(r:Value)(w':World):Prop:=No w0 w'/\∃ v b,r=.tuple #[v,.bool b]/\one v=true/\(b=true->∃ val,(k,val) ∈ m/\By w0 v val)/\(b=false->∀ e ∈ m,e.1≠k)
theorem look3 (w0:World){m:List En}(h:EnR w0 mv m)(hM:Map 0 m)(hk:k.length=32)(hl:m.length<=2 ^ 40):Fn prog 138 #[mv,dg k] w0 (LookQ w0 m k):=by
 refine go138 sm ?_;obtain⟨a,c,rfl,hc⟩:=h.slice;obtain⟨W,hW,f1,k1,s1⟩:=qQl w0 (bl k) 76;have hp:=List.pairwise_iff_getElem.1 hM.1;simp -implicitDefEqProofs only[go_sem,yJ,yN,jY,Tryz.f138,hW];refine loopD [0,3,6,7] (lkI w0 (.slice a m.length c) w0.heap.size k m) m.length ⟨0,m.length,rfl,om,om,rfl,fun i h B=>absurd B om,fun i h B=>absurd B om,k1,f1⟩ ?_;rintro _ vs w g ⟨lo,hi,rfl,b0,a0,rfl,h1,h2,kk,fw⟩;have d1:=natlt lo hi
 by_cases N:lo<hi
 ·rw[decide_eq_true N]at d1
  obtain⟨j,hj⟩:∃ j,j=(lo+hi) / 2:=⟨_,rfl⟩
  have H:j<m.length:=om
  have n2:((2:Int)=0)=False:=sm
  have c1:IntKind.i64.wrap ((lo:Int)+(hi:Int))=((lo+hi:Nat):Int):=qXi
  have c2:IntKind.i64.wrap (((lo+hi:Nat):Int).tdiv 2)=((j:Nat):Int):=by
   rw[show ((lo+hi:Nat):Int).tdiv 2=(((lo+hi) / 2:Nat):Int) from rfl,<- hj];exact i64n
  have c3:=iSu (i:=j);have y1:=iBd (i:=j) (n:=m.length);obtain⟨b1,o1,b3,v1,e1,_,O,a3,a4,J⟩:=h.at H;cases e1;have R:No w0 w.drew:=fw.drew;obtain⟨r1,_,_⟩:=J w fw;obtain⟨a5,_,_⟩:=J w.drew R;have rk:=rd_d agg76 sz76 kk hk;have a6:rdO prog 76 w.drew w0.heap.size 0=_:=rk;have sj:∀ i (h:i<m.length),i<j->klt m[i].1 m[j].1:=fun i h B=>(hp i j h H B).1;have a7:∀ i (h:i<m.length),j<i->klt m[j].1 m[i].1:=fun i h B=>(hp j i H h B).1;have a8:m[j] ∈ m:=jT H;generalize T:m[j]=e at *;simp -implicitDefEqProofs only[go_sem,yJ,yF,d1,n2,c1,c2,y1,and_self,iTn,a5,a6];refine qQa pl54 ((cmp w.drew O hk).mono ?_);rintro _ w2 ⟨rfl,f2⟩;have I:=R.trans f2;have U:w2.heap[w0.heap.size]?=_:=f2.at kk id;unfold kcmp
  by_cases M:e.1=k
  ·rw[if_pos M]
   have z:((0:Int) == 0)=true:=rfl;obtain⟨_,r2,_⟩:=J w2 I;simp -implicitDefEqProofs only[go_sem,yJ,bSe,y1,and_self,iTn,r2];exact⟨I,_,_,rfl,a3,fun _=>⟨e.2,by rw[<- M];exact a8,a4⟩,fun h=>by cases h⟩
  ·rw[if_neg M]
   by_cases A:klt e.1 k
   ·rw[if_pos A]
    have z:((-1:Int) == 0)=false:=rfl;have z2:decide ((-1:Int)<0)=true:=rfl;simp -implicitDefEqProofs only[go_sem,yJ,z,z2,c3]
    exact⟨hi - (j+1),om,j+1,hi,rfl,om,a0,rfl,fun i h B=>by
     by_cases L:i=j
     ·subst L;rw[T];exact A
     ·exact qJz (sj i h om) A,h2,U,I⟩
   ·rw[if_neg A]
    have V:klt k e.1:=(klt_total O hk M).resolve_left A;have z:((1:Int) == 0)=false:=rfl;have z2:decide ((1:Int)<0)=false:=rfl;simp -implicitDefEqProofs only[go_sem,yJ,z,z2]
    exact⟨j - lo,om,lo,j,rfl,om,om,rfl,h1,fun i h B=>by
     by_cases L:i=j
     ·subst L;rw[T];exact V
     ·exact qJz V (a7 i h om),U,I⟩
 ·rw[decide_eq_false N]at d1
  simp -implicitDefEqProofs only[go_sem,yJ,d1];refine⟨fw,_,_,rfl,rfl,(fun h=>by cases h),fun _ e M=>?_⟩;obtain⟨i,Y,rfl⟩:=List.mem_iff_getElem.1 M;intro Z
  by_cases a9:i<lo
  ·have:=h1 i Y a9;rw[Z]at this;exact qZl _ this
  ·have:=h2 i Y om;rw[Z]at this;exact qZl _ this
end R
end
namespace R
theorem leaf_cut (wd:Int)(k v:Bs):cutD wd (leafD wd k v)=leafD wd k v:=Wit.hcut_tdy wd _
theorem digest1 (w0:World)(ht:Tabs w0)(wd:Int){esv mv:Value}(he:RdD w0 esv (empts wd 257)){e:Bs × Bs}(hm:EnR w0 mv [e])(hl:e.2.length<=549755813888)(hn:n<=256) :
  Fn prog 100 #[.int .i64 wd,esv,mv,.int .i64 (n:Nat)] w0 fun v w'=>v=dg (climb wd e.1 0 (leafD wd e.1 e.2) ((empts wd 257).take (256 - n)))/\No w0 w':=by
 refine go100 sm ?_;obtain⟨W,hW,U,k1,s1⟩:=qQl w0 (bl (zK 32 0)) 75;obtain⟨b,o,cap,vv,rfl,hc,V,a5,hby,I⟩:=(hm.fr0 U).at (i:=0) sm;simp only[List.getElem_cons_zero]at V hby I;have d1:(((([e]:List (Bs × Bs)).length:Nat):Int) == 0)=false:=rfl;have d2:(((([e]:List (Bs × Bs)).length:Nat):Int) == 1)=true:=rfl;have y1:(0:Int)<=0/\(0:Int)<((([e]:List (Bs × Bs)).length:Nat):Int):=sm
 obtain⟨Y,Z,_⟩:=I W (Fr.refl _ _);obtain⟨H,L,_⟩:=I W.drew (Fr.refl _ _).drew;rw[yV,yF]at Y Z H L;simp -implicitDefEqProofs only[go_sem,yJ,vH,Tryz.f100,yN,qQk,hW,d1,d2];refine qXl (fun j=>j == 9 || j == 10) (.one 0 (.one 1 (.one 2 (.one 3 (.one 4 (.one 5 (.one 6 (.one 7 (.one 8 (.two 9 (.row [10,11]) 10 (.row [9,11]))))))))))) rfl x8 x8 ?_;have O:(leafD wd e.1 e.2).length=32:=qZp _ _ _;have lc:(climb wd e.1 0 (leafD wd e.1 e.2) ((empts wd 257).take (256 - n))).length=32:=qKt _ _ _ _ _ O;have c1:IntKind.i64.wrap (256 - (n:Int))=((256 - n:Nat):Int):=qXr (a:=256) om om;simp -implicitDefEqProofs only[go_sem,yJ,yY,y1,and_self,kJ,yV,yF,H,L,bSe,OT.row,yN,qQk];constructor
 ·refine qQe pl144 ((leaf W.drew (ht.no U.drew) wd V (val:=e.2) (hby.fr0 (Fr.refl _ _).drew) hl).mono ?_)
  rintro _ w2 ⟨rfl,f2⟩;refine⟨fun _=>Fr.ext f2,?_⟩;have N:No W w2:=(Fr.refl _ _).drew.trans f2;obtain⟨M,q3,k3,f3,s3⟩:=A.allocD w2 (ty:=75) sz75 O;have B:=N.trans f3;have J:=U.trans B;obtain⟨Y,Z,_⟩:=I M B;obtain⟨H,L,_⟩:=I M.drew B.drew;rw[yV,yF]at Y Z H L;have r3:=rd_d agg75 sz75 k3 O;have R:rdO prog 75 M.drew w2.heap.size 0=_:=r3;simp -implicitDefEqProofs only[go_sem,yJ,yY,yN,qQk,q3,y1,and_self,kJ,yV,yF,H,R,c1,bSe];refine qQa pl141 ((climbWith M.drew (ht.no J.drew) wd (he.fr0 J.drew) V O (n:=256 - n) om).mono ?_);rintro _ w4 ⟨rfl,f4⟩;rw[leaf_cut];have k4:=(B.drew.trans f4).at k1 id;have q5:=wr_d sz75 k4 zl32 lc;have r5:=rd_d agg75 sz75 (qQd (o:=.cells (bl (climb wd e.1 0 (leafD wd e.1 e.2) ((empts wd 257).take (256 - n)))) 75 (0,0)) k4) lc;simp -implicitDefEqProofs only[go_sem,yJ,q5,r5];exact (J.drew.trans f4).put (b:=w0.heap.size) _ fun h=>by omega
 ·obtain⟨W2,a3,f2,k2,s2⟩:=qQl W.drew (bl (zK 32 0)) 75
  simp only[a3];have N:No W W2:=(Fr.refl _ _).drew.trans f2;refine qQe pl144 ((leaf W2 (ht.no (U.trans N)) wd V (val:=e.2) (hby.fr0 N) hl).mono ?_);rintro _ a4 ⟨rfl,T⟩;refine⟨fun _=>Fr.ext T,?_⟩;have a0:=T.at k2 id
  obtain⟨M,q3,k3,B⟩:∃ M,wrO prog 75 a4 W.heap.size 0 (dg (leafD wd e.1 e.2))=some M/\M.heap[W.heap.size]?=some (.cells (bl (leafD wd e.1 e.2)) 75 (0,0))/\No W M :=
   ⟨_,wr_d sz75 a0 zl32 O,qQd a0,(N.trans T).put (b:=W.heap.size) _ fun h=>absurd h (yU _)⟩
  have J:=U.trans B;obtain⟨Y,Z,_⟩:=I M B;obtain⟨H,L,_⟩:=I M.drew B.drew;rw[yV,yF]at Y Z H L;have r3:=rd_d agg75 sz75 k3 O;have R:rdO prog 75 M.drew W.heap.size 0=_:=r3;simp -implicitDefEqProofs only[go_sem,yJ,yY,q3,y1,and_self,kJ,yV,yF,H,R,c1];refine qQa pl141 ((climbWith M.drew (ht.no J.drew) wd (he.fr0 J.drew) V O (n:=256 - n) om).mono ?_);rintro _ w4 ⟨rfl,f4⟩;rw[leaf_cut];have k4:=(B.drew.trans f4).at k1 id;have q5:=wr_d sz75 k4 zl32 lc;have r5:=rd_d agg75 sz75 (qQd (o:=.cells (bl (climb wd e.1 0 (leafD wd e.1 e.2) ((empts wd 257).take (256 - n)))) 75 (0,0)) k4) lc;simp -implicitDefEqProofs only[go_sem,yJ,q5,r5];exact (J.drew.trans f4).put (b:=w0.heap.size) _ fun h=>by omega
end R
section
theorem NwB.setB (h:NwB w0 w (.slice (some ⟨b, o, none⟩) n cap) bs)(hi:i<bs.length)(x:Byte) :
  ∃ w',wrO prog 5 w b (o+i) (u8 x)=some w'/\NwB w0 w' (.slice (some ⟨b,o,none⟩) n cap) (bs.set i x)/\Fr (fun c=>c=b) w w':=by
 obtain⟨A,B⟩:=h;have R:=By.len (Nw.rd ⟨A,B⟩:By w _ bs);subst R
 rcases A with ⟨I,_⟩ | ⟨U,V,L,c,I,M,T,H,W,J⟩
 ·cases I
 ·cases I
  refine⟨_,wr1 sz5 rfl M om,⟨.inr ⟨b,o,cap,c.setIfInBounds (o+i) (u8 x),by rw[jE],qQd M,by rw[Array.size_setIfInBounds];exact T,by rw[jE];exact H,sm,fun j N=>?_⟩,B⟩,(Fr.refl _ _).put (b:=b) _ fun _=>rfl⟩;rw[jE]at N;rw[Array.getElem?_setIfInBounds,List.map_set,List.getElem?_set,zB]
  by_cases O:i=j
  ·subst O
   rw[if_pos rfl,if_pos rfl,if_pos om,if_pos hi]
  ·rw[if_neg om,if_neg O,J j N]
namespace R
open Aud
theorem by_rd (h:By w v bs)(hi:i<bs.length):∃ b o cap,v=.slice (some ⟨b,o,kY⟩) bs.length cap/\rdO prog 5 w b (o+i)=some (u8 (bs.getD i 0)):=by
 obtain⟨b,o,cap,rfl,_⟩:=h.pos om;exact⟨b,o,cap,rfl,h.get agg5 hi⟩
theorem u8mod (v:Nat):IntKind.u8.wrap ((v:Int).tmod 256)=((zX 8 v).toNat:Int):=by
 have e:(v:Int).tmod 256=((v % 256:Nat):Int):=rfl;rw[e,zZ,wrap_u8];omega
def l5I (w0:World)(v n:Nat)(m:Nat)(vs:List Value)(w:World):Prop :=
 ∃ (i:Nat) (x:Nat) (A:Value),vs=[.int .i64 (x:Nat),.int .i64 (n:Nat),A,.int .i64 (i:Nat)]/\i<=n/\m=n - i/\(∃ l:Bs,NwB w0 w A l/\l.length=i/\l++leB (n - i) x=leB n v)/\No w0 w/\x<2 ^ 62
theorem laid5 (w0:World)(v n:Nat)(O:v<2 ^ 62)(Z:n<=8):Fn prog 63 #[.int .i64 (v:Nat),.int .i64 (n:Nat)] w0 fun r w'=>NwB w0 w' r (leB n v)/\No w0 w':=by
 refine go63 sm ?_;simp -implicitDefEqProofs only[go_sem,jY,Tryz.f63];refine loopD [0,1,5,6] (l5I w0 v n) n ⟨0,v,.slice .none 0 0,rfl,jK _,rfl,⟨[],NwB.nil _ _,rfl,rfl⟩,Fr.refl _ _,O⟩ ?_;rintro _ vs I g ⟨i,x,lv,rfl,hi,rfl,⟨l,J,R,A⟩,L,hx⟩
 by_cases T:i<n
 ·have B:=dTo ((i:Int)<(n:Int))
  have c1:=iSu (i:=i)
  have c2:IntKind.i64.wrap ((x:Int).tdiv 256)=((x / 256:Nat):Int):=by
   have e:(x:Int).tdiv 256=((x / 256:Nat):Int):=rfl;rw[e,qQq om om]
  have M:((256:Int)=0)=False:=sm
  have U:=u8mod x;obtain⟨N,V,H,W,Y,g4,_⟩:=NwB.grow J (zX 8 x) om L;simp -implicitDefEqProofs only[go_sem,yJ,yN,jY,B,M,if_false,U];refine qQm (v:=.slice (some ⟨I.heap.size,0,none⟩) 1 1) (w':=I.alloc (.cells (bl [zX 8 x]) 5)) rfl ?_;simp -implicitDefEqProofs only[go_sem,yJ];refine qQj ⟨N,V,H,?_⟩;simp -implicitDefEqProofs only[go_sem,yJ,M,if_false,c1,c2];refine⟨n - (i+1),om,i+1,x / 256,N,rfl,om,rfl,⟨_,W,by rw[lAp,R];rfl,?_⟩,Y,om⟩;rw[<- A,show n - i=n - (i+1)+1 by omega,zJ]
  rfl
 ·have B:=dFo ((i:Int)<(n:Int))
  simp -implicitDefEqProofs only[go_sem,yJ,B];have:n - i=0:=om
  rw[this,show leB 0 x=[] from rfl,zO]at A;rw[<- A];exact⟨J,L⟩
def j5I (w0:World)(c:List Value)(xs bs:Bs)(n:Nat)(vs:List Value)(w:World):Prop :=
 ∃ (i:Nat) (v:Value),vs=c++[v,.int .i64 (i:Nat)]/\i<=bs.length/\n=bs.length - i/\NwB w0 w v (xs++bs.take i)/\No w0 w
theorem joined5 (w0:World)(W:By w0 av a)(Y:By w0 vv bs)(a3:a.length<=2 ^ 40)(hl:bs.length<=2 ^ 40):Fn prog 62 #[av,vv] w0 fun v w'=>NwB w0 w' v (a++bs)/\No w0 w':=by
 refine go62 sm ?_;obtain⟨Z,vc,rfl,a0⟩:=Y.slice;obtain⟨aa,ac,rfl,R⟩:=W.slice;simp -implicitDefEqProofs only[go_sem,jY,Tryz.f62];refine loopD [0,1,5,6] (j5I w0 [.slice aa a.length ac,.slice Z bs.length vc] [] a) a.length ⟨0,.slice .none 0 0,rfl,om,rfl,NwB.nil _ _,Fr.refl _ _⟩ ?_;rintro _ vs L g ⟨i,v,rfl,hi,rfl,B,H⟩
 by_cases A:i<a.length
 ·have M:=dTo ((i:Int)<((a.length:Nat):Int))
  have c1:=iSu (i:=i);have y:=iBd (i:=i) (n:=a.length);obtain⟨b,o,cap,T,r⟩:=by_rd (W.fr0 H) A;cases T;have I:=qXt (l:=a) (i:=i) A;obtain⟨N,U,J,O,V,g4,_⟩:=NwB.grow B (a.getD i 0) (by simp;omega) H;rw[zJ,I]at O;generalize a.getD i 0=x at *;simp -implicitDefEqProofs only[go_sem,yJ,yN,jY,y,and_self,iTn,yK,r];refine qQm (v:=.slice (some ⟨L.heap.size,0,none⟩) 1 1) (w':=L.alloc (.cells (bl [x]) 5)) rfl ?_;simp -implicitDefEqProofs only[go_sem,yJ];refine qQj ⟨N,U,J,?_⟩;simp -implicitDefEqProofs only[go_sem,yJ,c1];exact⟨a.length - (i+1),om,i+1,N,rfl,om,rfl,O,V⟩
 ·have M:=dFo ((i:Int)<((a.length:Nat):Int))
  have e:i=a.length:=om
  subst e;rw[kK,List.nil_append]at B;simp -implicitDefEqProofs only[go_sem,yJ,M];refine loopD [1,5,7] (j5I w0 [.slice Z bs.length vc] a bs) bs.length ⟨0,v,rfl,om,rfl,by rw[List.take_zero,zO];exact B,H⟩ ?_;clear B H;rintro _ vs L g ⟨i,v,rfl,hi,rfl,B,H⟩
  by_cases A:i<bs.length
  ·have M:=dTo ((i:Int)<((bs.length:Nat):Int))
   have c1:=iSu (i:=i);have y:=iBd (i:=i) (n:=bs.length);obtain⟨b,o,cap,T,r⟩:=by_rd (Y.fr0 H) A;cases T;have I:=qXt (l:=bs) (i:=i) A;obtain⟨N,U,J,O,V,g4,_⟩:=NwB.grow B (bs.getD i 0) (by simp;omega) H;rw[zJ,I]at O;generalize bs.getD i 0=x at *;simp -implicitDefEqProofs only[go_sem,yJ,yN,jY,y,and_self,iTn,yK,r];refine qQm (v:=.slice (some ⟨L.heap.size,0,none⟩) 1 1) (w':=L.alloc (.cells (bl [x]) 5)) rfl ?_;simp -implicitDefEqProofs only[go_sem,yJ];refine qQj ⟨N,U,J,?_⟩;simp -implicitDefEqProofs only[go_sem,yJ,c1];exact⟨bs.length - (i+1),om,i+1,N,rfl,om,rfl,O,V⟩
  ·have M:=dFo ((i:Int)<((bs.length:Nat):Int))
   have e:i=bs.length:=om
   subst e;rw[kK]at B;simp -implicitDefEqProofs only[go_sem,yJ,M];exact⟨B,H⟩
def f5I (w0:World)(av:Value)(n:Nat)(a:Bs)(m:Nat)(vs:List Value)(w:World):Prop :=
 ∃ (i:Nat) (v:Value),vs=[av,.int .i64 (n:Nat),v,.int .i64 (i:Nat)]/\i<=n/\m=n - i/\NwB w0 w v ((qI i).map fun j=>a.getD j 0)/\No w0 w
theorem padTo_map:(qI n).map (fun j=>a.getD j 0)=(padTo 0 n a).take n:=by
 apply kW;intro i;unfold padTo;rw[j6,List.getElem?_take]
 by_cases h:i<n
 ·rw[if_pos h,kV h]
  show some (a.getD i 0)=_;rw[gDq]
  by_cases A:i<a.length
  ·rw[zR A,xE A];rfl
  ·rw[vS om,z4 om,List.getElem?_replicate,if_pos om];rfl
 ·rw[if_neg h,vS (by simp;omega)];rfl
theorem filled5 (w0:World)(T:By w0 av a)(hn:n<=2 ^ 40)(Y:a.length<=n):Fn prog 64 #[av,.int .i64 (n:Nat)] w0 fun v w'=>NwB w0 w' v (padTo 0 n a)/\No w0 w':=by
 refine go64 sm ?_;obtain⟨Z,ac,rfl,J⟩:=T.slice;simp -implicitDefEqProofs only[go_sem,jY,Tryz.f64];refine loopD [0,1,5,6] (f5I w0 (.slice Z a.length ac) n a) n ⟨0,.slice .none 0 0,rfl,om,rfl,NwB.nil _ _,Fr.refl _ _⟩ ?_;rintro _ vs B g ⟨i,v,rfl,hi,rfl,L,M⟩
 by_cases a0:i<n
 ·have H:=dTo ((i:Int)<(n:Int))
  have c1:=iSu (i:=i);have N:((qI i).map fun j=>a.getD j 0)++[a.getD i 0]=(qI (i+1)).map fun j=>a.getD j 0:=by rw[vT,vL];rfl
  obtain⟨I,U,A,O,V,g4,_⟩:=NwB.grow L (a.getD i 0) (by simp;omega) M;rw[N]at O
  by_cases R:i<a.length
  ·have W:=dTo ((i:Int)<((a.length:Nat):Int))
   have y:=iBd (i:=i) (n:=a.length);obtain⟨b,o,cap,he,r⟩:=by_rd (T.fr0 M) R;cases he;generalize a.getD i 0=x at *;simp -implicitDefEqProofs only[go_sem,yJ,yN,jY,H,y,and_self,iTn,yK,r];refine qQm (v:=.slice (some ⟨B.heap.size,0,none⟩) 1 1) (w':=B.alloc (.cells (bl [x]) 5)) rfl ?_;simp -implicitDefEqProofs only[go_sem,yJ];refine qQj ⟨I,U,A,?_⟩;simp -implicitDefEqProofs only[go_sem,yJ,c1];exact⟨n - (i+1),om,i+1,I,rfl,om,rfl,O,V⟩
  ·have W:=dFo ((i:Int)<((a.length:Nat):Int))
   have e0:a.getD i 0=0:=by rw[gDq,vS om];rfl
   rw[e0]at A;simp -implicitDefEqProofs only[go_sem,yJ,yN,jY,H,W];refine qQm (v:=.slice (some ⟨B.heap.size,0,none⟩) 1 1) (w':=B.alloc (.cells (bl [0]) 5)) rfl ?_;simp -implicitDefEqProofs only[go_sem,yJ];refine qQj ⟨I,U,A,?_⟩;simp -implicitDefEqProofs only[go_sem,yJ,c1];exact⟨n - (i+1),om,i+1,I,rfl,om,rfl,O,V⟩
 ·have H:=dFo ((i:Int)<(n:Int))
  have e:i=n:=om
  subst e;rw[padTo_map,zG (by rw[qZn Y];exact xC _)]at L;simp -implicitDefEqProofs only[go_sem,yJ,H];exact⟨L,M⟩
end R
end
section
namespace R
open Aud
abbrev b2 (b:Bool):Byte:=if b then 1 else 0
def divL:List Bool:=[true,false,false,false,false,false,true,false,false,true,true,false,false,false,false,false,true,false,false,false,true,true,true,false,true,true,false,true,true,false,true,true,true]
theorem divL_bit (t:Nat)(A:t<32):divL.getD (t+1) false=crcG.getLsbD t:=by
 have:∀ t:Fin 32,divL.getD (t.val+1) false=crcG.getLsbD t.val:=x9
 exact this ⟨t,A⟩
def regP (A:W32)(ms:List Bool)(i:Nat):W32:=(ms.take i).foldl qQy A
theorem regP_succ (A:W32)(ms:List Bool)(h:i<ms.length):regP A ms (i+1)=step1 (regP A ms i ^^^ (if ms.getD i false then 1 else 0)):=by
 unfold regP;rw[List.take_succ,List.foldl_append,gDq,xE h]
 rfl
def lsF (n:Nat)(F:Nat->Bool):Bs:=(qI n).map fun t=>b2 (F t)
theorem qZo (n:Nat)(F:Nat->Bool):(lsF n F).length=n:=by simp[lsF]
theorem lsF_at {t:Nat}(h:t<n):(lsF n F).getD t 0=b2 (F t):=by
 unfold lsF;rw[gDq,j6,kV h];rfl
theorem lsF_set {x:Byte}(hi:i<n)(B:x=b2 (G i))(h:∀ t,t<n->t≠i->G t=F t):(lsF n F).set i x=lsF n G:=by
 apply kW;intro t;unfold lsF;rw[List.getElem?_set,j6,j6,zB,List.length_range]
 by_cases e:i=t
 ·subst e;rw[if_pos rfl,if_pos hi,kV hi,B];rfl
 ·rw[if_neg e]
  by_cases A:t<n
  ·rw[kV A];show some (b2 (F t))=some (b2 (G t));rw[h t A fun H=>e H.symm]
  ·rw[vS (by simp;omega)];rfl
theorem lsF_ext (h:∀ t,t<n->F t=G t):lsF n F=lsF n G:=by
 unfold lsF;exact List.map_congr_left fun t A=>by rw[h t (List.mem_range.1 A)]
theorem bit8 (x:Byte)(j:Nat)(H:j<8):andK .u8 (shrK .u8 (x.toNat:Int) (j:Int)) 1=((b2 (x.getLsbD j)).toNat:Int):=by
 rw[shr8i _ _ om];have A:=x.isLt;have I:x.toNat / 2 ^ j<256:=Nat.lt_of_le_of_lt (Nat.div_le_self _ _) A;have e:andK .u8 ((x.toNat / 2 ^ j:Nat):Int) 1=IntKind.u8.wrap (((qQ 8 ((x.toNat / 2 ^ j:Nat):Int) &&& qQ 8 ((1:Nat):Int)).toNat:Nat):Int):=rfl;rw[e,xW,xW,vJ,zZ,zZ,Nat.mod_eq_of_lt om,Nat.mod_eq_of_lt x9,Nat.and_one_is_mod,wrap_u8]
 have B:x.getLsbD j=decide (x.toNat / 2 ^ j % 2=1):=by
  show x.toNat.testBit j=_;rw[Nat.testBit_eq_decide_div_mod_eq]
 rw[B]
 by_cases h:x.toNat / 2 ^ j % 2=1
 ·rw[decide_eq_true h,h];rfl
 ·rw[decide_eq_false h]
  have:x.toNat / 2 ^ j % 2=0:=om
  rw[this];rfl
theorem u64id (j:Nat)(h:j<2 ^ 62):IntKind.u64.wrap (j:Int)=(j:Int):=by
 rw[qKv];omega
def bsI (w0:World)(bv:Value)(bs:Bs)(n:Nat)(vs:List Value)(w:World):Prop :=
 ∃ (i:Nat) (v:Value),vs=[bv,v,.int .i64 (i:Nat)]/\i<=bs.length/\n=bs.length - i/\NwB w0 w v ((qZs (bs.take i)).map b2)/\No w0 w
def bsJ (w0:World)(bv:Value)(bs:Bs)(i:Nat)(n:Nat)(vs:List Value)(w:World):Prop :=
 ∃ (j:Nat) (v:Value),vs=[bv,v,.int .i64 (i:Nat),.int .i64 (j:Nat)]/\j<=8/\n=8 - j/\NwB w0 w v ((qZs (bs.take i)++(qI j).map (bs.getD i 0).getLsbD).map b2)/\No w0 w
theorem bits2 (w0:World)(U:By w0 bv bs)(hl:bs.length<=2 ^ 30):Fn prog 173 #[bv] w0 fun v w'=>NwB w0 w' v ((qZs bs).map b2)/\No w0 w':=by
 refine go173 sm ?_;obtain⟨V,W,rfl,Y⟩:=U.slice;simp -implicitDefEqProofs only[go_sem,Tryz.f173];refine loopD [0,3,4] (bsI w0 (.slice V bs.length W) bs) bs.length ⟨0,.slice .none 0 0,rfl,om,rfl,NwB.nil _ _,Fr.refl _ _⟩ ?_;rintro _ vs J g ⟨i,v,rfl,hi,rfl,A,B⟩
 by_cases H:i<bs.length
 ·have L:=dTo ((i:Int)<((bs.length:Nat):Int))
  have c1:=iSu (i:=i);simp -implicitDefEqProofs only[go_sem,yJ,L];refine loopD [0,3,4,5] (bsJ w0 (.slice V bs.length W) bs i) 8 ⟨0,v,rfl,om,rfl,by rw[List.range_zero,List.map_nil,zO];exact A,B⟩ ?_;clear A B;rintro _ vs J g ⟨j,v,rfl,hj,rfl,A,B⟩
  by_cases M:j<8
  ·have N:=dTo ((j:Int)<8)
   have c2:=iSu (i:=j);have c3:=u64id j om;have y:=iBd (i:=i) (n:=bs.length);obtain⟨b,o,cap,he,r⟩:=by_rd (U.fr0 B) H;cases he;have O:(qZs (bs.take i)).length=8*i:=by rw[allBits_len,lTk];omega
   obtain⟨Z,w4,I,b4,f4,g4,_⟩:=NwB.grow A (b2 ((bs.getD i 0).getLsbD j)) (by simp[O];omega) B
   have e4:(qZs (bs.take i)++(qI j).map (bs.getD i 0).getLsbD).map b2++[b2 ((bs.getD i 0).getLsbD j)]=(qZs (bs.take i)++(qI (j+1)).map (bs.getD i 0).getLsbD).map b2:=by
    rw[vT,vL,vL,vL,vL,zJ];rfl
   rw[e4]at b4;have R:=bit8 (bs.getD i 0) j M;generalize (bs.getD i 0).getLsbD j=xb at I R;generalize bs.getD i 0=x at r R;have nj:((j:Int)<0)=False:=sm
   simp -implicitDefEqProofs only[go_sem,yJ,yN,jY,N,y,and_self,iTn,yK,r,c3,nj,if_false,R];refine qQm (v:=.slice (some ⟨J.heap.size,0,none⟩) 1 1) (w':=J.alloc (.cells (bl [b2 xb]) 5)) rfl ?_;simp -implicitDefEqProofs only[go_sem,yJ];refine qQj ⟨Z,w4,I,?_⟩;simp -implicitDefEqProofs only[go_sem,yJ,c2];exact⟨8 - (j+1),om,j+1,Z,rfl,om,rfl,b4,f4⟩
  ·have N:=dFo ((j:Int)<8)
   have T:j=8:=om
   subst T;simp -implicitDefEqProofs only[go_sem,yJ,N,c1];refine⟨bs.length - (i+1),om,i+1,v,rfl,om,rfl,?_,B⟩
   have e5:qZs (bs.take (i+1))=qZs (bs.take i)++(qI 8).map (bs.getD i 0).getLsbD:=by
    rw[<- qXt H];unfold qZs;rw[vL,List.flatten_append];show _++(bitsOf (bs.getD i 0)++[])=_;rw[zO];rfl
   rw[e5];exact A
 ·have L:=dFo ((i:Int)<((bs.length:Nat):Int))
  have e:i=bs.length:=om
  subst e;rw[kK]at A;simp -implicitDefEqProofs only[go_sem,yJ,L];exact⟨A,B⟩
def DivT (w:World):Prop:=∀ i,i<33->rc w 1 i=some (u8 (b2 (divL.getD i false)))
theorem DivT.no (h:DivT w)(k:No w w'):DivT w':=fun i hi=>by rw[k.rc (rc_lt (h i hi)) id];exact h i hi
def dv1 (w0:World)(A:W32)(k:Nat)(F:Nat->Bool)(n:Nat)(vs:List Value)(w:World):Prop :=
 ∃ (i:Nat) (v:Value),vs=[u32 A,v,.int .i64 (k:Nat),.int .i64 (i:Nat)]/\i<=32/\n=32 - i/\NwB w0 w v (lsF (k+i) F)/\No w0 w
def dv2 (w0:World)(A:W32)(k:Nat)(F:Nat->Bool)(n:Nat)(vs:List Value)(w:World):Prop :=
 ∃ (i:Nat) (v:Value),vs=[u32 A,v,.int .i64 (k:Nat),.int .i64 (i:Nat)]/\i<=32/\n=32 - i/\NwB w0 w v (lsF (k+32) fun t=>F t != (decide (t<i) && A.getLsbD t))/\No w0 w
def dv3 (w0:World)(A:W32)(ms:List Bool)(n:Nat)(vs:List Value)(w:World):Prop :=
 ∃ (i:Nat) (v:Value) (F:Nat->Bool),vs=[v,.int .i64 (ms.length:Nat),.int .i64 (i:Nat)]/\i<=ms.length/\n=ms.length - i/\NwB w0 w v (lsF (ms.length+32) F)/\No w0 w/\∀ t,i<=t->t<ms.length+32->F t=(ms.getD t false != (regP A ms i).getLsbD (t - i))
def dv4 (w0:World)(k i:Nat)(F:Nat->Bool)(n:Nat)(vs:List Value)(w:World):Prop :=
 ∃ (j:Nat) (v:Value),vs=[v,.int .i64 (k:Nat),.int .i64 (i:Nat),.int .i64 (j:Nat)]/\j<=33/\n=33 - j/\NwB w0 w v (lsF (k+32) fun t=>F t != (decide (i<=t/\t<i+j) && divL.getD (t - i) false))/\No w0 w
def dv5 (w0:World)(v:Value)(k:Nat)(R:W32)(N q o cap:Nat)(F:Nat->Bool)(n:Nat)(vs:List Value)(w:World):Prop :=
 ∃ (i:Nat) (x:W32),vs=[v,.int .i64 (k:Nat),u32 x,.int .i64 (i:Nat)]/\i<=32/\n=32 - i/\(∀ t,x.getLsbD t=(decide (t<i) && R.getLsbD t))/\No w0 w/\NwB w0 w v (lsF N F)
theorem b2_xor (a b:Bool):b2 a ^^^ b2 b=b2 (a != b):=by cases a <;> cases b <;> rfl
theorem ext8b (b:Bool):IntKind.u32.wrap ((b2 b).toNat:Int)=((if b then (1:W32) else 0).toNat:Int):=by cases b <;> rfl
theorem and32_1 (x:W32):andK .u32 (x.toNat:Int) 1=((x &&& 1#32).toNat:Int):=and32n x 1
theorem low1 (x:W32):(x &&& 1#32).setWidth 8=b2 (x.getLsbD 0):=by
 refine BitVec.eq_of_toNat_eq ?_;rw[BitVec.toNat_setWidth,vJ,show (1#32).toNat=1 from rfl,Nat.and_one_is_mod]
 have A:x.getLsbD 0=decide (x.toNat % 2=1):=by
  show x.toNat.testBit 0=_;rw[Nat.testBit_zero]
 rw[A]
 by_cases h:x.toNat % 2=1
 ·rw[decide_eq_true h,h];rfl
 ·rw[decide_eq_false h]
  have:x.toNat % 2=0:=om
  rw[this];rfl
theorem div_next {A:W32}{ms:List Bool}(hi:i<ms.length)(B:∀ t, i<=t->t<ms.length+32->F t=(ms.getD t false != (regP A ms i).getLsbD (t - i))):∀ t, i+1<=t->t<ms.length+32 ->
  (F t != (F i && (decide (i<=t/\t<i+33) && divL.getD (t - i) false)))=(ms.getD t false != (regP A ms (i+1)).getLsbD (t - (i+1))):=by
 intro t M I;rw[B t om I,B i (xC _) om,Nat.sub_self,regP_succ A ms hi];generalize regP A ms i=R
 obtain⟨s,rfl⟩:∃ s,t=i+1+s:=⟨t - (i+1),om⟩
 rw[show i+1+s - i=s+1 by omega,show i+1+s - (i+1)=s by omega];generalize ms.getD i false=m;generalize ms.getD (i+1+s) false=m'
 have J:(R ^^^ (if m then (1:W32) else 0)).getLsbD 0=(m != R.getLsbD 0):=by
  rw[xG]
  cases m <;> cases R.getLsbD 0 <;> rfl
 by_cases H:s<32
 ·have L:(R ^^^ (if m then (1:W32) else 0)).getLsbD (s+1)=R.getLsbD (s+1):=by
   rw[xG]
   have:(if m then (1:W32) else 0).getLsbD (s+1)=false:=by
    cases m
    ·simp
    ·show (1#32).getLsbD (s+1)=false
     rw[jD];simp
   rw[this,Bool.xor_false]
  rw[qZa H,J,L,decide_eq_true om,jP,divL_bit s H];generalize R.getLsbD (s+1)=x;generalize R.getLsbD 0=y;generalize crcG.getLsbD s=z
  cases m <;> cases m' <;> cases x <;> cases y <;> cases z <;> rfl
 ·rw[jB _ (s+1) om,jB _ s om,decide_eq_false om,jR,Bool.and_false,jN,jN]
theorem divide (w0:World)(ht:DivT w0)(A:W32)(hv:By w0 bv bs)(hl:bs.length<=2 ^ 30):Fn prog 145 #[u32 A,bv] w0 fun v w'=>v=u32 (qKf A bs)/\No w0 w':=by
 refine go145 sm ?_;simp -implicitDefEqProofs only[go_sem,yJ,jY,Tryz.f145];refine qQa pl173 ((bits2 w0 hv hl).mono ?_);rintro lv w1 ⟨V,f1⟩;have a9:=allBits_len bs;rw[crcFeed_bits];generalize qZs bs=ms at *
 have e1:ms.map b2=lsF ms.length fun t=>ms.getD t false:=by
  apply kW;intro t;unfold lsF;rw[j6,j6]
  by_cases h:t<ms.length
  ·rw[kV h,xE h]
   show _=some (b2 (ms.getD t false));rw[gDq,xE h];rfl
  ·rw[vS om,vS (by simp;omega)];rfl
 rw[e1]at V;obtain⟨la,lc,rfl⟩:=V.slice;rw[qZo]at V ⊢;simp -implicitDefEqProofs only[go_sem];refine loopD [0,5,6,7] (dv1 w0 A ms.length fun t=>ms.getD t false) 32 ⟨0,_,rfl,om,rfl,V,f1⟩ ?_;clear V f1;rintro _ vs N g ⟨i,v,rfl,hi,rfl,B,H⟩
 by_cases O:i<32
 ·have L:=dTo ((i:Int)<32)
  have c1:=iSu (i:=i);obtain⟨v4,w4,a3,M,W,g4,_⟩:=NwB.grow B 0 (by rw[qZo];omega) H
  have e2:(lsF (ms.length+i) fun t=>ms.getD t false)++[0]=lsF (ms.length+(i+1)) fun t=>ms.getD t false:=by
   unfold lsF;rw[<- Nat.add_assoc,vT,vL]
   show _++[0]=_++[b2 (ms.getD (ms.length+i) false)]
   rw[gDq,vS om];rfl
  rw[e2]at M;simp -implicitDefEqProofs only[go_sem,yJ,yN,jY,L];refine qQm (v:=.slice (some ⟨N.heap.size,0,none⟩) 1 1) (w':=N.alloc (.cells (bl [0]) 5)) rfl ?_;simp -implicitDefEqProofs only[go_sem,yJ];refine qQj ⟨v4,w4,a3,?_⟩;simp -implicitDefEqProofs only[go_sem,yJ,c1];exact⟨32 - (i+1),om,i+1,v4,rfl,om,rfl,M,W⟩
 ·have L:=dFo ((i:Int)<32)
  have e:i=32:=om
  subst e;simp -implicitDefEqProofs only[go_sem,yJ,L];refine loopD [0,5,6,8] (dv2 w0 A ms.length fun t=>ms.getD t false) 32 ⟨0,v,rfl,om,rfl,by rw[lsF_ext (G:=fun t=>ms.getD t false) fun t _=>by simp];exact B,H⟩ ?_;clear B H;rintro _ vs N g ⟨i,v,rfl,hi,rfl,B,H⟩;obtain⟨q,o,cap,rfl,J⟩:=B.by.pos (by rw[qZo];omega)
  have I:=B.by
  rw[qZo]at J
  by_cases O:i<32
  ·have L:=dTo ((i:Int)<32)
   have c1:=iSu (i:=i);have c3:=u64id i om;have y:=iBd (i:=i) (n:=ms.length+32);have r:=I.get (P:=prog) agg5 (i:=i) (by rw[qZo];omega);rw[lsF_at om]at r;obtain⟨w4,q4,M,W⟩:=B.setB (i:=i) (by rw[qZo];omega) (b2 ((ms.getD i false != (decide (i<i) && A.getLsbD i)) != A.getLsbD i));rw[lsF_set (G:=fun t=>ms.getD t false != (decide (t<i+1) && A.getLsbD t)) om sm (fun t _ hne=>by simp only[show (t<i+1)=(t<i) from propext om])]at M;have nj:((i:Int)<0)=False:=sm
   have s1:=shr32 A i om;have s2:=and32_1 (A >>> i);have s3:IntKind.u8.wrap ((A >>> i &&& 1#32).toNat:Int)=((b2 (A.getLsbD i)).toNat:Int):=by rw[cut32,low1,BitVec.getLsbD_ushiftRight,yF]
   have Y:=xor8 (b2 (ms.getD i false != (decide (i<i) && A.getLsbD i))) (b2 (A.getLsbD i));rw[b2_xor]at Y;rw[qZo]at I B M ⊢;simp -implicitDefEqProofs only[go_sem,yJ,L,y,and_self,iTn,yK,r,c3,nj,if_false,s1,s2,s3,Y,q4,c1];exact⟨32 - (i+1),om,i+1,_,rfl,om,rfl,M,H.trans' W fun b hb e=>by have hq:w0.heap.size<=q:=Nw.new B q rfl;subst e;omega⟩
  ·have L:=dFo ((i:Int)<32)
   have e:i=32:=om
   subst e;simp -implicitDefEqProofs only[go_sem,yJ,L];refine loopD [5,6,9] (dv3 w0 A ms) ms.length ⟨0,_,_,rfl,jK _,rfl,B,H,fun t _ ht=>?_⟩ ?_
   ·show (ms.getD t false != (decide (t<32) && A.getLsbD t))=(ms.getD t false != A.getLsbD (t - 0))
    rw[Nat.sub_zero]
    by_cases h:t<32
    ·rw[decide_eq_true h,jP]
    ·rw[decide_eq_false h,jR,jB _ _ om]
   clear B H I;rintro _ vs N g ⟨i,v,F,rfl,hi,rfl,B,H,hF⟩;obtain⟨q,o,cap,rfl,J⟩:=B.by.pos (by rw[qZo];omega)
   have I:=B.by
   rw[qZo]at J
   by_cases O:i<ms.length
   ·have L:=dTo ((i:Int)<(ms.length:Int))
    have c1:=iSu (i:=i);have y:=iBd (i:=i) (n:=ms.length+32);have r:=I.get (P:=prog) agg5 (i:=i) (by rw[qZo];omega);rw[lsF_at om]at r
    have ce:(((b2 (F i)).toNat:Int) == 1)=F i:=by cases F i <;> rfl
    have Z:=div_next O hF;rw[qZo]at I B ⊢;simp -implicitDefEqProofs only[go_sem,yJ,L,y,and_self,iTn,yK,r,ce]
    cases a0:F i with
    | false =>
     simp -implicitDefEqProofs only[go_sem,c1];refine⟨ms.length - (i+1),om,i+1,_,F,rfl,om,rfl,B,H,fun t U h2=>?_⟩;have:=Z t U h2;rw[a0,jR,jN]at this;exact this
    | true =>
     simp -implicitDefEqProofs only[go_sem];refine loopD [5,6,9,10] (dv4 w0 ms.length i F) 33 ⟨0,_,rfl,jK _,rfl,by rw[lsF_ext (G:=F) fun t _=>by rw[decide_eq_false om];simp];exact B,H⟩ ?_;clear B H I r;rintro _ vs N g ⟨j,v,rfl,hj,rfl,B,H⟩;obtain⟨q,o,cap,rfl,J⟩:=B.by.pos (by rw[qZo];omega)
     by_cases a4:j<33
     ·have T:=dTo ((j:Int)<33)
      have c2:=iSu (i:=j);have c4:IntKind.i64.wrap ((i:Int)+(j:Int))=((i+j:Nat):Int):=qXi;have y4:(0:Int)<=((i+j:Nat):Int)/\((i+j:Nat):Int)<((ms.length+32:Nat):Int):=om
      have y5:=iBd (i:=j) (n:=33);have r:=B.by.get (P:=prog) agg5 (i:=i+j) (by rw[qZo];omega)
      rw[lsF_at om,decide_eq_false om,jR,jN]at r;have rg:rdO prog 5 N 1 j=some (u8 (b2 (divL.getD j false))):=rd_rc agg5 (ht.no H j a4);have a5:=B.fr0 (Fr.refl _ _).drew;obtain⟨w4,q4,M,W⟩:=a5.setB (i:=i+j) (by rw[qZo];omega) (b2 (F (i+j) != divL.getD j false));rw[lsF_set (G:=fun t=>F t != (decide (i<=t/\t<i+(j+1)) && divL.getD (t - i) false)) om (by rw[decide_eq_true om,jP,show i+j - i=j by omega]) (fun t _ hne=>by simp only[show (i<=t/\t<i+(j+1))=(i<=t/\t<i+j) from propext om])]at M;have Y:=xor8 (b2 (F (i+j))) (b2 (divL.getD j false));rw[b2_xor]at Y;have hq:w0.heap.size<=q:=Nw.new B q rfl;have fd:=H.drew;rw[qZo]at B M ⊢;simp -implicitDefEqProofs only[go_sem,yJ,jY,T,c4,y4,y5,and_self,iTn,yK,r,rg,Y,q4,c2];exact⟨33 - (j+1),om,j+1,_,rfl,om,rfl,M,fd.trans' W fun b hb e=>by subst e;omega⟩
     ·have T:=dFo ((j:Int)<33)
      have e:j=33:=om
      subst e;simp -implicitDefEqProofs only[go_sem,yJ,T,c1];refine⟨ms.length - (i+1),om,i+1,_,_,rfl,om,rfl,B,H,fun t U h2=>?_⟩;have:=Z t U h2;rw[a0,jP]at this;exact this
   ·have L:=dFo ((i:Int)<(ms.length:Int))
    have e:i=ms.length:=om
    subst e;have hR:regP A ms ms.length=ms.foldl qQy A:=by unfold regP;rw[kK]
    rw[hR]at hF;generalize ms.foldl qQy A=R at *;rw[qZo]at B I ⊢;simp -implicitDefEqProofs only[go_sem,yJ,L];refine loopD [5,6,11,12] (dv5 w0 (.slice (some ⟨q,o,.none⟩) (ms.length+32) cap) ms.length R (ms.length+32) q o cap F) 32 ⟨0,0,rfl,jK _,rfl,fun t=>by simp,H,B⟩ ?_;clear B H I;rintro _ vs N g ⟨i,x,rfl,hi,rfl,hx,H,B⟩
    by_cases a6:i<32
    ·have T:=dTo ((i:Int)<32)
     have c2:=iSu (i:=i);have c4:IntKind.i64.wrap ((ms.length:Int)+(i:Int))=((ms.length+i:Nat):Int):=qXi;have y4:(0:Int)<=((ms.length+i:Nat):Int)/\((ms.length+i:Nat):Int)<((ms.length+32:Nat):Int):=om
     have r:=(NwB.by B).get (P:=prog) agg5 (i:=ms.length+i) (by rw[qZo];omega)
     have a7:F (ms.length+i)=R.getLsbD i:=by
      rw[hF _ om om,show ms.length+i - ms.length=i by omega,gDq,vS om]
      cases R.getLsbD i <;> rfl
     rw[lsF_at om,a7]at r;have c3:=u64id i om;have nj:((i:Int)<0)=False:=sm
     have s1:=ext8b (R.getLsbD i);have s2:=shl32 (if R.getLsbD i then (1:W32) else 0) i om;have s3:=or32 x ((if R.getLsbD i then (1:W32) else 0) <<< i);simp -implicitDefEqProofs only[go_sem,yJ,T,c4,y4,and_self,iTn,yK,r,s1,c3,nj,if_false,s2,s3,c2];refine⟨32 - (i+1),om,i+1,_,rfl,om,rfl,fun t=>?_,H,B⟩;rw[BitVec.getLsbD_or,hx,BitVec.getLsbD_shiftLeft]
     have g:∀ (b:Bool) (k:Nat),(if b then (1:W32) else 0).getLsbD k=(b && decide (k=0)):=fun b k=>by
      cases b
      ·simp
      ·show (1#32).getLsbD k=_
       rw[jD];simp
     rw[g]
     by_cases U:t<i
     ·rw[decide_eq_true U,decide_eq_true (show t<i+1 by omega)];simp
     ·rw[decide_eq_false U]
      by_cases h2:t=i
      ·subst h2
       rw[decide_eq_true (show t<32 from a6),decide_eq_true (show t<t+1 by omega),Nat.sub_self];simp
      ·rw[decide_eq_false (show ¬ t<i+1 by omega),decide_eq_false (show ¬ t - i=0 by omega)];simp
    ·have T:=dFo ((i:Int)<32)
     have e:i=32:=om
     subst e;simp -implicitDefEqProofs only[go_sem,yJ,T];refine⟨?_,H⟩;have a8:x=R:=BitVec.eq_of_getLsbD_eq fun j hj=>by rw[hx,decide_eq_true hj,jP]
     rw[a8]
theorem sum2 (w0:World)(A:DivT w0)(B:By w0 bv bs)(H:bs.length<=2 ^ 30):Fn prog 103 #[bv] w0 fun v w'=>v=u32 (qKg 0 bs)/\No w0 w':=by
 refine go103 sm ?_;simp -implicitDefEqProofs only[go_sem,yJ,Tryz.f103];refine qQa pl145 ((divide w0 A (~~~0) B H).mono ?_);rintro _ J ⟨rfl,I⟩;have n1:=not32 (qKf (~~~0) bs);simp -implicitDefEqProofs only[go_sem,n1];exact And.intro rfl I
def slI (w0:World)(s:W32)(bv:Value)(bs:Bs)(n:Nat)(vs:List Value)(w:World):Prop :=
 ∃ (i:Nat) (v:Value),vs=[bv,u32 s,v,.int .i64 (i:Nat)]/\i<=bs.length/\n=bs.length - i/\NwB w0 w v (bs.take i)/\No w0 w
def slJ (w0:World)(s:W32)(bs:Bs)(n:Nat)(vs:List Value)(w:World):Prop :=
 ∃ (i:Nat) (v:Value),vs=[u32 s,v,.int .i64 (i:Nat)]/\i<=4/\n=4 - i/\NwB w0 w v (bs++(sealB s).take i)/\No w0 w
theorem seal_at (s:W32)(h:i<4):(s >>> (8*i)).setWidth 8=(sealB s).getD i 0:=by
 rcases (by omega:i=0∨i=1∨i=2∨i=3) with rfl | rfl | rfl | rfl
 ·show (s >>> 0).setWidth 8=s.setWidth 8
  simp
 all_goals rfl
theorem seal2 (w0:World)(Z:DivT w0)(R:By w0 bv bs)(hl:bs.length<=2 ^ 30):Fn prog 65 #[bv] w0 fun v w'=>NwB w0 w' v (bs++sealB (qKg 0 bs))/\No w0 w':=by
 refine go65 sm ?_;obtain⟨va,vc,rfl,W⟩:=R.slice;simp -implicitDefEqProofs only[go_sem,yJ,Tryz.f65];refine qQa pl103 ((sum2 w0 Z R hl).mono ?_);rintro _ w1 ⟨rfl,f1⟩;generalize qKg 0 bs=s;simp -implicitDefEqProofs only[go_sem];refine loopD [0,3,4,5] (slI w0 s (.slice va bs.length vc) bs) bs.length ⟨0,.slice .none 0 0,rfl,om,rfl,NwB.nil _ _,f1⟩ ?_;rintro _ vs J g ⟨i,v,rfl,hi,rfl,B,H⟩
 by_cases L:i<bs.length
 ·have Y:=dTo ((i:Int)<((bs.length:Nat):Int))
  have c1:=iSu (i:=i);have y:=iBd (i:=i) (n:=bs.length);obtain⟨b,o,cap,he,r⟩:=by_rd (R.fr0 H) L;cases he;have I:=qXt (l:=bs) (i:=i) L;obtain⟨M,T,A,N,U,g4,_⟩:=NwB.grow B (bs.getD i 0) (by simp;omega) H;rw[I]at N;generalize bs.getD i 0=x at *;simp -implicitDefEqProofs only[go_sem,yJ,yN,jY,y,and_self,iTn,yK,r];refine qQm (v:=.slice (some ⟨J.heap.size,0,none⟩) 1 1) (w':=J.alloc (.cells (bl [x]) 5)) rfl ?_;simp -implicitDefEqProofs only[go_sem,yJ];refine qQj ⟨M,T,A,?_⟩;simp -implicitDefEqProofs only[go_sem,yJ,c1];exact⟨bs.length - (i+1),om,i+1,M,rfl,om,rfl,N,U⟩
 ·have Y:=dFo ((i:Int)<((bs.length:Nat):Int))
  have e:i=bs.length:=om
  subst e;rw[kK]at B;simp -implicitDefEqProofs only[go_sem,yJ,Y];refine loopD [3,4,6] (slJ w0 s bs) 4 ⟨0,v,rfl,om,rfl,by rw[List.take_zero,zO];exact B,H⟩ ?_;clear B H;rintro _ vs J g ⟨i,v,rfl,hi,rfl,B,H⟩
  by_cases O:i<4
  ·have V:=dTo ((i:Int)<4)
   have c1:=iSu (i:=i);have c2:IntKind.i64.wrap (8*(i:Int))=((8*i:Nat):Int):=by rw[qQq om om];omega
   have c3:=u64id (8*i) om;have nj:(((8*i:Nat):Int)<0)=False:=by simp;omega
   have s1:=shr32 s (8*i) om;have s2:=cut32 (s >>> (8*i));have I:=qXt (l:=sealB s) (i:=i) (by rw[sealB_len];exact O);obtain⟨M,T,A,N,U,g4,_⟩:=NwB.grow B ((sealB s).getD i 0) (by simp[sealB_len];omega) H;rw[zJ,I]at N;rw[<- seal_at s O]at A;simp -implicitDefEqProofs only[go_sem,yJ,yN,jY,V,c2,c3,nj,if_false,s1,s2];refine qQm (v:=.slice (some ⟨J.heap.size,0,none⟩) 1 1) (w':=J.alloc (.cells (bl [(s >>> (8*i)).setWidth 8]) 5)) rfl ?_;simp -implicitDefEqProofs only[go_sem,yJ];refine qQj ⟨M,T,A,?_⟩;simp -implicitDefEqProofs only[go_sem,yJ,c1];exact⟨4 - (i+1),om,i+1,M,rfl,om,rfl,N,U⟩
  ·have V:=dFo ((i:Int)<4)
   have e:i=4:=om
   subst e;rw[zG (by rw[sealB_len];exact xC _)]at B;simp -implicitDefEqProofs only[go_sem,yJ,V];exact⟨B,H⟩
end R
end
section
namespace R
open Aud
theorem u8nat (v:Nat):IntKind.u8.wrap (v:Int)=((zX 8 v).toNat:Int):=by
 rw[zZ,wrap_u8];omega
theorem page5 (w0:World)(M:DivT w0)(kind p:Nat){load:Bs}(H:By w0 bv load)(hl:load.length<=246)(N:p<2 ^ 62):Fn prog 57 #[.int .i64 (kind:Nat),.int .i64 (p:Nat),bv] w0 fun v w'=>NwB w0 w' v (pagB kind p load)/\No w0 w':=by
 refine go57 sm ?_;obtain⟨va,vc,rfl,I⟩:=H.slice;have c1:=u8nat kind;have c2:=u8nat load.length;simp -implicitDefEqProofs only[go_sem,yJ,vH,yN,jY,Tryz.f57,c1,c2];refine qQm (v:=.slice (some ⟨w0.heap.size,0,none⟩) 2 2) (w':=w0.alloc (.cells (bl [zX 8 kind,zX 8 load.length]) 5)) rfl ?_;have O:(w0.alloc (.cells (bl [zX 8 kind,zX 8 load.length]) 5)).heap[w0.heap.size]?=some (.cells (bl [zX 8 kind,zX 8 load.length]) 5 (0,0)):=qQb _ _;have R:No w0 (w0.alloc (.cells (bl [zX 8 kind,zX 8 load.length]) 5)):=(Fr.refl _ _).alloc _;generalize w0.alloc (.cells (bl [zX 8 kind,zX 8 load.length]) 5)=T at *;have J:=row_by (m:=2) (cap:=2) O sm (xC _);rw[zG sm]at J;simp -implicitDefEqProofs only[go_sem,yJ];refine qQa pl63 ((laid5 T p 4 N om).mono ?_);rintro _ U ⟨b2,L⟩;simp -implicitDefEqProofs only[go_sem,yJ];refine qQa pl62 ((joined5 U (J.fr0 L) b2.by sm (by rw[qXc];omega)).mono ?_);rintro _ V ⟨W,Y⟩;have B:=(R.trans L).trans Y;simp -implicitDefEqProofs only[go_sem,yJ];refine qQa pl62 ((joined5 V W.by (H.fr0 B) (by simp[qXc]) om).mono ?_);rintro _ Z ⟨b4,f4⟩;simp -implicitDefEqProofs only[go_sem];refine qQa pl64 ((filled5 Z (n:=252) b4.by om (by simp[qXc];omega)).mono ?_);rintro _ w5 ⟨b5,f5⟩;simp -implicitDefEqProofs only[go_sem];have A:=(B.trans f4).trans f5;refine qQa pl65 ((seal2 w5 (M.no A) b5.by (by rw[qZn (by simp[qXc];omega)];omega)).mono ?_);rintro _ w6 ⟨b6,f6⟩;simp -implicitDefEqProofs only[go_sem];exact And.intro (NwB.back b6 A.size) (A.trans f6)
theorem super5 (w0:World)(ht:DivT w0)(s:Sup)(M:s.gen<2 ^ 62/\s.mark<2 ^ 62/\s.head<2 ^ 62/\s.pages<2 ^ 62):Fn prog 31 #[.agg #[.int .i64 (s.width:Nat),.int .i64 (s.gen:Nat),.int .i64 (s.mark:Nat),.int .i64 (s.head:Nat),.int .i64 (s.pages:Nat)]] w0 fun v w'=>NwB w0 w' v (supB s)/\No w0 w':=by
 refine go31 sm ?_;obtain⟨W,hW,f0,T,s0⟩:=qQl w0 #[.int .i64 (s.width:Nat),.int .i64 (s.gen:Nat),.int .i64 (s.mark:Nat),.int .i64 (s.head:Nat),.int .i64 (s.pages:Nat)] 67;have c1:=u8nat s.width;have r0:rdO prog 3 W w0.heap.size 0=some (.int .i64 (s.width:Nat)):=rd1 agg3 T rfl;simp -implicitDefEqProofs only[go_sem,yJ,yN,jY,Tryz.f31,hW,r0,c1];refine qQm (v:=.slice (some ⟨W.heap.size,0,none⟩) 8 8) (w':=W.alloc (.cells (bl [76,68,71,49,zX 8 s.width,0,0,0]) 5)) rfl ?_;have k1:(W.alloc (.cells (bl [76,68,71,49,zX 8 s.width,0,0,0]) 5)).heap[W.heap.size]?=some (.cells (bl [76,68,71,49,zX 8 s.width,0,0,0]) 5 (0,0)):=qQb _ _;have U:No W (W.alloc (.cells (bl [76,68,71,49,zX 8 s.width,0,0,0]) 5)):=(Fr.refl _ _).alloc _;generalize W.alloc (.cells (bl [76,68,71,49,zX 8 s.width,0,0,0]) 5)=V at *;have Y:=row_by (m:=8) (cap:=8) k1 sm (xC _);rw[zG sm]at Y;have A:=U.at T id;have r1:rdO prog 3 V w0.heap.size 1=some (.int .i64 (s.gen:Nat)):=rd1 agg3 A rfl;simp -implicitDefEqProofs only[go_sem,yJ,jY,r1];refine qQa pl63 ((laid5 V s.gen 8 M.1 om).mono ?_);rintro _ w2 ⟨b2,Z⟩;simp -implicitDefEqProofs only[go_sem,yJ];refine qQa pl62 ((joined5 w2 (Y.fr0 Z) b2.by sm (by rw[qXc];omega)).mono ?_);rintro _ w3 ⟨b3,f3⟩;have H:=Z.trans f3;have N:=H.at A id;have r2:rdO prog 3 w3 w0.heap.size 2=some (.int .i64 (s.mark:Nat)):=rd1 agg3 N rfl;simp -implicitDefEqProofs only[go_sem,yJ,jY,r2];refine qQa pl63 ((laid5 w3 s.mark 4 M.2.1 om).mono ?_);rintro _ w4 ⟨b4,f4⟩;simp -implicitDefEqProofs only[go_sem,yJ];refine qQa pl62 ((joined5 w4 (b3.by.fr0 f4) b4.by (by simp[qXc]) (by rw[qXc];omega)).mono ?_);rintro _ w5 ⟨b5,f5⟩;have I:=(H.trans f4).trans f5
 have O:=I.at A id;have r3:rdO prog 3 w5 w0.heap.size 3=some (.int .i64 (s.head:Nat)):=rd1 agg3 O rfl;simp -implicitDefEqProofs only[go_sem,yJ,jY,r3];refine qQa pl63 ((laid5 w5 s.head 4 M.2.2.1 om).mono ?_);rintro _ w6 ⟨b6,f6⟩;simp -implicitDefEqProofs only[go_sem,yJ];refine qQa pl62 ((joined5 w6 (b5.by.fr0 f6) b6.by (by simp[qXc]) (by rw[qXc];omega)).mono ?_);rintro _ w7 ⟨b7,f7⟩;have J:=(I.trans f6).trans f7;have R:=J.at A id;have r4:rdO prog 3 w7 w0.heap.size 4=some (.int .i64 (s.pages:Nat)):=rd1 agg3 R rfl;simp -implicitDefEqProofs only[go_sem,yJ,jY,r4];refine qQa pl63 ((laid5 w7 s.pages 4 M.2.2.2 om).mono ?_);rintro _ w8 ⟨b8,f8⟩;simp -implicitDefEqProofs only[go_sem,yJ];refine qQa pl62 ((joined5 w8 (b7.by.fr0 f8) b8.by (by simp[qXc]) (by rw[qXc];omega)).mono ?_);rintro _ w9 ⟨b9,f9⟩;simp -implicitDefEqProofs only[go_sem];refine qQa pl64 ((filled5 w9 (n:=60) b9.by om (by simp[qXc])).mono ?_);rintro _ wa ⟨ba,fa⟩;simp -implicitDefEqProofs only[go_sem];have B:=(((f0.trans U).trans J).trans f8).trans (f9.trans fa);have L:(padTo (0:Byte) 60 ([76,68,71,49,zX 8 s.width,0,0,0]++leB 8 s.gen++leB 4 s.mark++leB 4 s.head++leB 4 s.pages)).length=60:=qJk s;refine qQa pl65 ((seal2 wa (ht.no B) ba.by (by rw[L];omega)).mono ?_);rintro _ wb ⟨bb,fb⟩;simp -implicitDefEqProofs only[go_sem];refine qQa pl64 ((filled5 wb (n:=256) bb.by om (by rw[lAp,L,sealB_len];omega)).mono ?_);rintro _ wc ⟨bc,fc⟩;simp -implicitDefEqProofs only[go_sem];exact And.intro (NwB.back bc (B.trans fb).size) ((B.trans fb).trans fc)
end R
end
end Go.V
