/- Helpers. -/
import Derived.Test.YtppmpdjlmgfdkaaGreatDoorM13
import Derived.Test.YtppmpdjlmgfdkaaGreatDoorM18
import Derived.Test.YtppmpdjlmgfdkaaGreatDoorM08
import Derived.Test.YtppmpdjlmgfdkaaGreatDoorM09
set_option linter.all false
set_option maxRecDepth 100000
set_option maxHeartbeats 8000000
open Array renaming toList_setIfInBounds->vE
open BitVec renaming ofNat->zW,ofInt_natCast->xW,setWidth_eq->xY,ofNat_toNat->xU
open Bool renaming not_false->xH,not_true->y8,and_true->y9,false_eq_true->qP
open Go.Builtin renaming append_->qC
open Int renaming toNat_zero->vI
open List renaming replicate->zG,append_assoc->zU,take_of_length_le->zB,getElem?_append_right->jR,drop_eq_getElem_cons->vH,getElem_mem->vO,getElem?_append_left->z8,getElem_append_left->z9,getElem?_eq_getElem->zZ,take_length->kQ,drop_of_length_le->zS,length_set->jM,append_nil->z4,getElem?_eq_none->vN,mem_cons_of_mem->zD,all_cons->vJ,length_map->zE,range->qI,all_nil->vV,getElem?_toArray->zJ,mem_of_mem_take->kX,mem_of_mem_drop->vP,mem_cons_self->zN
open Nat renaming reduceEqDiff->j7,zero_add->jV,add_zero->yK,reduceBEq->yX,zero_mul->j9,lt_irrefl->yZ,mul_one->j8,le_refl->xC,reduceAdd->vS
open Option renaming none->kZ,bind_some->qV
open Go.Value renaming cells->yU
namespace Go.V
open Go.Proofs.Tryz Go.V.Tryz
open Go.Proofs Sha
variable {a bs k ls r rs:Bs} {b cap h i j n o p:Nat} {F:Nat->Prop} {av bv mv nv sv v vv:Value} {w w' w0:World}
theorem nodup_ne {α:Type}{l:List α}(h:l.Nodup)(hi:i<l.length)(A:j<l.length)(B:i≠j):l[i]≠l[j]:=by
 rw[List.Nodup,List.pairwise_iff_getElem]at h
 rcases Nat.lt_or_ge i j with h1 | h1
 ·exact h i j hi A h1
 ·exact fun e=>h j i A hi x8 e.symm
namespace Bat
structure Ch where
 key:Bs
 del:Bool
 val:Bs
deriving DecidableEq
def Ch.Ok (c:Ch):Prop:=c.key.length=32/\c.val.length<=128/\(c.del=true->c.val=[])
def mergeP:List Ch->List Ch->List Ch
 | [],b=>b
 | x::a,[]=>x::a
 | x::a,y::b=>if kcmp x.key y.key<=0 then x::mergeP a (y::b) else y::mergeP (x::a) b
theorem mergeP_nil (a:List Ch):mergeP a []=a:=by cases a <;> simp[mergeP]
theorem mergeP_perm:∀ a b:List Ch,(mergeP a b).Perm (a++b)
 | [],b=>by simp[mergeP]
 | x::a,[]=>by simp[mergeP]
 | x::a,y::b=>by
  unfold mergeP;split
  ·exact (mergeP_perm a (y::b)).cons x
  ·refine ((mergeP_perm (x::a) b).cons y).trans ?_
   exact List.perm_middle.symm
def Srt (l:List Ch):Prop:=l.Pairwise fun a b=>¬ klt b.key a.key
theorem kcmp_le {a b:Bs}(A:a.length=32)(B:b.length=32):kcmp a b<=0 ↔ ¬ klt b a:=by
 unfold kcmp
 by_cases e:a=b
 ·rw[if_pos e];subst e
  exact iff_of_true x8 (qZp a)
 ·rw[if_neg e]
  by_cases h:klt a b
  ·rw[if_pos h]
   exact iff_of_true x8 fun g=>qZp a (qKw h g)
  ·rw[if_neg h]
   exact iff_of_false x8 fun g=>((klt_total A B e).elim h g)
theorem nklt_trans {a b c:Bs}(A:a.length=32)(B:b.length=32)(h:¬ klt b a)(g:¬ klt c b):¬ klt c a:=fun k=>by
 by_cases e:a=b
 ·subst e;exact g k
 ·rcases klt_total A B e with h' | h'
  ·exact g (qKw k h')
  ·exact h h'
theorem mergeP_srt:∀ a b:List Ch,(∀ c ∈ a,c.key.length=32)->(∀ c ∈ b,c.key.length=32)->Srt a->Srt b->Srt (mergeP a b)
 | [],b,_,_,_,h=>by simp only[mergeP];exact h
 | x::a,[],_,_,h,_=>by simp only[mergeP];exact h
 | x::a,y::b,M,kb,U,V=>by
  have J:=M x (zN ..);have L:=kb y (zN ..);have N:∀ c ∈ a,c.key.length=32:=fun c O=>M c (zD _ O);have R:∀ c ∈ b,c.key.length=32:=fun c O=>kb c (zD _ O);have B:=List.pairwise_cons.1 U;have D:=List.pairwise_cons.1 V;unfold mergeP;split
  ·rename_i h
   refine List.pairwise_cons.2 ⟨fun z A=>?_,mergeP_srt a (y::b) N kb B.2 V⟩
   rcases List.mem_append.1 ((mergeP_perm a (y::b)).mem_iff.1 A) with A | A
   ·exact B.1 z A
   ·have H:=(kcmp_le J L).1 h
    rcases List.mem_cons.1 A with rfl | A
    ·exact H
    ·exact nklt_trans J L H (D.1 z A)
  ·rename_i h
   have T:klt y.key x.key:=by
    by_cases g:klt y.key x.key
    ·exact g
    ·exact absurd ((kcmp_le J L).2 g) h
   have I:¬ klt x.key y.key:=fun g=>qZp _ (qKw g T);refine List.pairwise_cons.2 ⟨fun z A=>?_,mergeP_srt (x::a) b M R U D.2⟩
   rcases List.mem_append.1 ((mergeP_perm (x::a) b).mem_iff.1 A) with A | A
   ·rcases List.mem_cons.1 A with rfl | A
    ·exact I
    ·exact nklt_trans L J I (B.1 z A)
   ·exact D.1 z A
theorem mergeP_drop {a b:List Ch}(hi:i<a.length)(A:j<b.length):mergeP (a.drop i) (b.drop j) =
  if kcmp a[i].key b[j].key<=0 then a[i]::mergeP (a.drop (i+1)) (b.drop j) else b[j]::mergeP (a.drop i) (b.drop (j+1)):=by
 rw[vH hi,vH A,mergeP]
end Bat
def chC (k:Bs)(d:Bool)(v:Value):Array Value:=(k.map u8++[.bool d,v]).toArray
theorem qJf (d:Bool)(v:Value)(A:k.length=32):(chC k d v).size=34:=by simp[chC,A]
theorem chC_one (d:Bool)(A:one v=true):(chC k d v).all one=true:=by
 rw[<- Array.all_toList];simp only[chC,List.all_append,vJ,vV,A,y9];rw[List.all_eq_true.2 (by intro x B;obtain⟨y,_,rfl⟩:=List.mem_map.1 B;rfl)];rfl
theorem chC_zero:(Array.replicate 32 (Value.int .u8 0)++#[Value.bool false,Value.slice kZ 0 0])=chC (zG 32 0) false (.slice kZ 0 0):=rfl
theorem chC_val {d:Bool}{v u:Value}(A:k.length=32):(chC k d v).setIfInBounds 33 u=chC k d u:=by
 apply Array.toList_inj.1;simp[chC,A]
def chRow (c:Bat.Ch)(v:Value):List Value:=c.key.map u8++[.bool c.del,v]
def By5 (w:World)(v:Value)(bs:Bs):Prop:=By w v bs/\∀ b,qQf v=some b->∃ c,w.heap[b]?=some (.cells c 5 (0,0))
theorem By5.frT (h:By5 w v bs)(f:Fr F w w')(D:∀ b c,w.heap[b]?=some (.cells c 5 (0,0))->¬ F b):By5 w' v bs :=
 ⟨h.1.fr f fun b B _=>by obtain⟨c,A⟩:=h.2 b B;exact D b c A,fun b B=>by obtain⟨c,A⟩:=h.2 b B;exact⟨c,f.at A (D b c A)⟩⟩
theorem By5.fr0 (h:By5 w v bs)(f:No w w'):By5 w' v bs:=h.frT f fun _ _ _ h=>h
theorem NwB.by5 (h:NwB w0 w v bs):By5 w v bs:=⟨h.by,fun b A=>by
 rcases h.own with ⟨rfl,_⟩ | ⟨D,H,cap,c,rfl,B,_⟩
 ·cases A
 ·cases A;exact⟨c,B⟩⟩
theorem nwr_ty {u w:World}{e k:Nat}{rows:Rows}(h:NwR u w e k v rows)(A:qQf v=some b):∃ c,w.heap[b]?=some (.cells c e (0,0)):=by
 rcases h.2.own with ⟨rfl,_⟩ | ⟨D,H,cap,c,rfl,B,_⟩
 ·cases A
 ·cases A;exact⟨c,B⟩
def ChR (w:World)(v:Value)(A:List Bat.Ch):Prop:=∃ rows,RdR w 34 v rows/\rows.length=A.length/\∀ i (h:i<rows.length) (B:i<A.length),∃ vv,rows[i]=chRow A[i] vv/\one vv=true/\By5 w vv A[i].val/\(A[i].del=true->vv=.slice kZ 0 0)/\A[i].key.length=32
theorem ChR.fr0 {A:List Bat.Ch}(h:ChR w v A)(f:No w w'):ChR w' v A:=by
 obtain⟨rows,B,D,H⟩:=h;refine⟨rows,B.fr0 f,D,fun i a b=>?_⟩;obtain⟨vv,I,J,L,M,N⟩:=H i a b;exact⟨vv,I,J,L.fr0 f,M,N⟩
theorem ChR.slice {A:List Bat.Ch}(h:ChR w v A):∃ a cap,v=.slice a A.length cap/\A.length<=cap:=by
 obtain⟨rows,B,D,_⟩:=h;have:=B.slice;rw[D]at this;exact this
def ChN (w0 w:World)(v:Value)(A:List Bat.Ch):Prop:=∃ rows,NwR w0 w 134 34 v rows/\rows.length=A.length/\∀ i (h:i<rows.length) (B:i<A.length),∃ vv,rows[i]=chRow A[i] vv/\one vv=true/\By5 w vv A[i].val/\(A[i].del=true->vv=.slice kZ 0 0)/\A[i].key.length=32
theorem ChN.rd {A:List Bat.Ch}(h:ChN w0 w v A):ChR w v A:=by
 obtain⟨rows,B,D,H⟩:=h;exact⟨rows,B.rd,D,H⟩
theorem By.rd1 (h:By w v bs)(hi:i<bs.length):∃ b o cap,v=.slice (some ⟨b,o,kZ⟩) bs.length cap/\rdO prog 5 w b (o+i)=some (.int .u8 ((bs.getD i 0).toNat:Int)):=by
 obtain⟨b,o,cap,rfl,_⟩:=h.pos x8;exact⟨b,o,cap,rfl,h.get agg5 hi⟩
theorem By.blkB (h:By w (.slice (some ⟨b,o,kZ⟩) n cap) bs)(H:0<bs.length):b<w.heap.size:=by
 have I:=h.len;have:=h.get (P:=prog) agg5 (i:=0) H;obtain⟨J,a,cap,e,L,B⟩:=h;obtain⟨M,N,rfl,A⟩:=B x8;cases e;have D:=A 0 x8;rw[zZ (by rw[zE];omega)]at D;exact rc_lt D
theorem By.blk0 (h:By w v bs)(B:bs≠[])(D:qQf v=some b):b<w.heap.size:=by
 have A:=List.length_pos_iff.2 B;obtain⟨H,o,cap,rfl,_⟩:=h.pos A;have:=h.blkB A;simp only[qQf,oSi]at D;omega
def ChX (w0 w:World)(v:Value)(A:List Bat.Ch):Prop:=∃ rows,NwR w0 w 134 34 v rows/\rows.length=A.length/\∀ i (h:i<rows.length) (B:i<A.length),∃ vv,rows[i]=V.chRow A[i] vv/\one vv=true/\By5 w vv A[i].val/\(A[i].val≠[]->∀ b,qQf vv=some b->qQf v≠some b)/\(A[i].del=true->vv=.slice kZ 0 0)/\A[i].key.length=32
theorem ChX.new {A:List Bat.Ch}(h:ChX w0 w v A):ChN w0 w v A:=by
 obtain⟨rows,B,D,H⟩:=h;refine⟨rows,B,D,fun i a b=>?_⟩;obtain⟨vv,I,J,L,_,M,N⟩:=H i a b;exact⟨vv,I,J,L,M,N⟩
theorem ChX.nil (w0 w:World):ChX w0 w (.slice kZ 0 0) []:=⟨[],NwR.nil _ _ _ _,rfl,fun i h=>absurd h sm⟩
theorem ChX.fr0 {A:List Bat.Ch}(h:ChX w0 w v A)(f:No w w'):ChX w0 w' v A:=by
 obtain⟨rows,B,D,H⟩:=h;refine⟨rows,B.fr0 f,D,fun i a b=>?_⟩;obtain⟨vv,I,J,L,M,N⟩:=H i a b;exact⟨vv,I,J,L.fr0 f,M,N⟩
theorem ChX.push {B:List Bat.Ch}(h:ChX w0 w v B)(f:No w0 w){c:Bat.Ch}(W:c.key.length=32)(Y:one vv=true)(Z:By5 w vv c.val)(hb:c.val≠[]->∀ b, qQf vv=some b->qQf v≠some b)(hd:c.del=true->vv=.slice kZ 0 0)(hl:B.length<=2 ^ 30) :
  ∃ v' w',(qC #[95,95] 0 #[v,.slice (some ⟨w.heap.size,0,.none⟩) 1 1]).run prog (w.alloc (.cells (chC c.key c.del vv) 134))=.ok v' w'/\ChX w0 w' v' (B++[c])/\No w0 w':=by
 obtain⟨rows,L,A,M⟩:=h;obtain⟨v8,w8,N,b8,O,m8⟩:=L.push (P:=prog) app95_95 (xs:=V.chRow c vv) (by simp[V.chRow,W]) (by have:=chC_one (k:=c.key) c.del Y;rw[<- Array.all_toList]at this;simpa [chC,V.chRow] using this) j0 x8 x8 f.size;have f8:No w0 w8:=f.trans' O fun D a0 h=>by have:=(L.lt h).1;omega
 refine⟨v8,w8,N,⟨rows++[V.chRow c vv],b8,by simp[A],?_⟩,f8⟩
 have hF:∀ b c,w.heap[b]?=some (.cells c 5 (0,0))->¬ qQf v=some b:=fun b c hc h=>by
  obtain⟨c',H⟩:=nwr_ty L h;rw[hc]at H;cases H
 intro q hq R
 by_cases I:q<rows.length
 ·obtain⟨x,a1,a2,a3,a4,a5,a6⟩:=M q I x8
  have T:(B++[c])[q]=B[q]'x8:=z9 x8;rw[T];refine⟨x,by rw[z9 I];exact a1,a2,a3.frT O hF,fun J D h U=>?_,a5,a6⟩
  rcases m8 D U with h'' | h''
  ·exact a4 J D h h''
  ·have:=a3.1.blk0 J h;omega
 ·obtain rfl:q=rows.length:=by simp at hq;omega
  have T:(B++[c])[rows.length]'R=c:=by simp[A]
  rw[T];refine⟨vv,sm,Y,Z.frT O hF,fun J D h U=>?_,hd,W⟩
  rcases m8 D U with h'' | h''
  ·exact hb J D h h''
  ·have:=Z.1.blk0 J h;omega
theorem ChR.at {w:World}{v:Value}{A:List Bat.Ch}(h:ChR w v A){i:Nat}(hi:i<A.length):∃ b o cap vv, v=.slice (some ⟨b, o, kZ⟩) A.length cap/\one vv=true/\By5 w vv A[i].val/\(A[i].del=true->vv=.slice kZ 0 0)/\A[i].key.length=32 /\
  ∀ w',No w w'->rdO prog 134 w' b (o+i*34)=some (.agg (chC A[i].key A[i].del vv))/\rdO prog 76 w' b (o+i*34)=some (dg A[i].key)/\rdO prog 4 w' b (o+i*34+32)=some (.bool A[i].del)/\rdO prog 22 w' b (o+i*34+33)=some vv:=by
 obtain⟨rows,D,I,J⟩:=h;obtain⟨b,o,cap,rfl,R⟩:=D.pos j0 x8;obtain⟨vv,H,L,M,N,B⟩:=J i x8 hi;refine⟨b,o,cap,vv,by rw[I],L,M,N,B,fun w' f=>⟨?_,?_,?_,?_⟩⟩
 ·have:=(D.fr0 f).get (P:=prog) (t:=134) agg134 sz134 j0 (i:=i) x8
  rw[this,H];rfl
 ·have:=(D.fr0 f).sub (P:=prog) (t:=76) (m:=32) agg76 sz76 j0 (i:=i) x8 (j:=0) j0 (xs:=A[i].key.map u8) (by simp[B]) (fun q O=>by
   rw[H,V.chRow,jV,z8 (by simp[B];exact O)])
  rw[yK]at this;exact this
 ·exact (D.fr0 f).fld agg4 x8 (j:=32) j0 (by rw[H,V.chRow,jR (by simp[B])];simp[B])
 ·exact (D.fr0 f).fld agg22 x8 (j:=33) j0 (by rw[H,V.chRow,jR (by simp[B])];simp[B])
theorem bldC (d:Bool)(A:k.length=32):bldO prog 134 [(0,dg k),(1,.bool d)]=some (.agg (chC k d (.slice kZ 0 0))):=by
 simp only[bldO,zero134,places134,qV];have B:(Value.agg (Array.replicate 32 (.int .u8 0)++#[Value.bool false,Value.slice .none 0 0])).cells.size=34:=rfl;have e:(dg k).cells.toList=k.map u8:=rfl;rw[fill_cons (off:=0) (n:=32) rfl (by simp[yU,A]) (by rw[B];decide),fill_one1 (off:=32) rfl rfl (by rw[qJg,B];decide),qXq,Option.map_some]
 congr 2
 apply Array.toList_inj.1;rw[vE,e,qJh _ _ _ (by rw[B,zE,A];decide)];simp[yU,A,chC]
namespace R
def cpI (w0:World)(vv:Value)(bs:Bs)(n:Nat)(vs:List Value)(w:World):Prop :=
 ∃ (i:Nat) (v:Value),vs=[vv,v,.int .i64 (i:Nat)]/\i<=bs.length/\n=bs.length - i/\NwB w0 w v (bs.take i)/\No w0 w
theorem bytes3 (w0:World)(J:By w0 vv bs)(Z:bs.length<=2 ^ 40):Fn prog 131 #[vv] w0 fun v w'=>NwB w0 w' v bs/\No w0 w':=by
 refine go131 sm ?_;obtain⟨T,U,rfl,L⟩:=J.slice;simp -implicitDefEqProofs only[go_sem,Tryz.f131];refine loopD [0,3,4] (cpI w0 (.slice T bs.length U) bs) bs.length ⟨0,_,rfl,x8,rfl,NwB.nil _ _,Fr.refl _ _⟩ ?_;rintro _ vs M g ⟨i,v,rfl,hi,rfl,B,D⟩
 by_cases A:i<bs.length
 ·have N:=dTo ((i:Int)<((bs.length:Nat):Int))
  have c1:=iSu (i:=i);have y:=iBd (i:=i) (n:=bs.length);obtain⟨b,o,cap,V,r⟩:=(J.fr0 D).rd1 A;cases V;have H:=qXu (l:=bs) (i:=i) A;obtain⟨O,W,I,R,Y,g4,_⟩:=NwB.grow B (bs.getD i 0) (by simp;omega) D;rw[H]at R;generalize bs.getD i 0=x at *;simp -implicitDefEqProofs only[go_sem,j7,y,and_self,iTn,j8,r];refine qQn (v:=.slice (some ⟨M.heap.size,0,none⟩) 1 1) (w':=M.alloc (.cells (bl [x]) 5)) rfl ?_;simp -implicitDefEqProofs only[go_sem,j7];refine qQj ⟨O,W,I,?_⟩;simp -implicitDefEqProofs only[go_sem,j7,c1];exact⟨bs.length - (i+1),x8,i+1,O,rfl,x8,rfl,R,Y⟩
 ·have N:=dFo ((i:Int)<((bs.length:Nat):Int))
  have e:i=bs.length:=x8
  subst e;rw[kQ]at B;simp -implicitDefEqProofs only[go_sem,j7,N];exact⟨B,D⟩
theorem plain3 (w0:World){c:Bat.Ch}(V:c.Ok)(ho:one vv=true)(Y:By5 w0 vv c.val)(hd:c.del=true->vv=.slice kZ 0 0):Fn prog 93 #[.agg (chC c.key c.del vv)] w0 fun r w'=>No w0 w'/\∃ v,r=.agg (chC c.key c.del v)/\one v=true/\By5 w' v c.val/\(c.del=true->v=.slice kZ 0 0):=by
 refine go93 sm ?_;obtain⟨H,a5,Z⟩:=V;generalize c.del=A at *;have z32:(zG 32 (0:Byte)).length=32:=lRe;obtain⟨W,hW,f1,k1,k2,s1⟩:=qJq w0 (chC c.key A vv) 134 (chC (zG 32 0) false (.slice .none 0 0)) 134;obtain⟨R,J,f3,k3,s3⟩:=qQl W (chC (zG 32 0) false (.slice .none 0 0)) 134;have B:∀ d v,(chC c.key d v).size=34:=fun d v=>qJf d v H
 have rk:rdO prog 76 W w0.heap.size 0=some (dg c.key):=by
  have:=rd_rcs (P:=prog) (w:=W) (b:=w0.heap.size) (o:=0) agg76 sz76 (vs:=(c.key.map u8).toArray) (by simp[H]) j0 (fun j hj=>by
   rw[qXl k1,jV]
   simp[chC,z8,H,hj])
  exact this
 have rb:rdO prog 4 W w0.heap.size 32=some (.bool A):=rd1 (P:=prog) agg4 k1 (by simp[chC,H]);have q3:wrO prog 134 R W.heap.size 0 (.agg (chC c.key A (.slice .none 0 0)))=some (put R W.heap.size (.cells (chC c.key A (.slice .none 0 0)) 134 (0,0))):=qQo (by rw[B];exact sz134) k3 (by rw[qJf _ _ z32,B]) (chC_one _ rfl);have k4:=qQd (o:=.cells (chC c.key A (.slice .none 0 0)) 134 (0,0)) k3;have f4:No W (put R W.heap.size (.cells (chC c.key A (.slice .none 0 0)) 134 (0,0))):=f3.put (b:=W.heap.size) _ fun h=>absurd h (yZ _);have I:=f1.trans f4;have L:=f4.at k1 id;have M:=f4.at k2 id;have a6:w0.heap.size+1<W.heap.size:=x8
 generalize a7:put R W.heap.size (.cells (chC c.key A (.slice .none 0 0)) 134 (0,0))=T at *;have N:rdO prog 4 T w0.heap.size 32=some (.bool A):=rd1 (P:=prog) agg4 L (by simp[chC,H]);have a0:rdO prog 22 T w0.heap.size 33=some vv:=rd1 (P:=prog) agg22 L (by simp[chC,H])
 have O:∀ (w:World) (v:Value), w.heap[w0.heap.size+1]?=some (.cells (chC (zG 32 0) false (.slice .none 0 0)) 134 (0, 0))->w.heap[W.heap.size]?=some (.cells (chC c.key A v) 134 (0, 0))->one v=true ->
   rdO prog 134 w W.heap.size 0=some (.agg (chC c.key A v))/\wrO prog 134 w (w0.heap.size+1) 0 (.agg (chC c.key A v))=some (put w (w0.heap.size+1) (.cells (chC c.key A v) 134 (0,0))) /\
   rdO prog 134 (put w (w0.heap.size+1) (.cells (chC c.key A v) 134 (0,0))) (w0.heap.size+1) 0=some (.agg (chC c.key A v)):=fun w v h h' Y =>
  ⟨qKs agg134 (by rw[B];exact sz134) h',qQo (by rw[B];exact sz134) h (by rw[qJf _ _ z32,B]) (chC_one _ Y),qKs agg134 (by rw[B];exact sz134) (qQd (o:=.cells (chC c.key A v) 134 (0,0)) h)⟩
 have bl:=bldC A H
 cases A with
 | true =>
  have a3:=Z rfl;obtain⟨r5,q5,r6⟩:=O T _ M k4 rfl;simp -implicitDefEqProofs only[go_sem,j7,Tryz.f93,yU,chC_zero,hW,J,rk,rb,bl,q3,N,jV,y8,r5,q5,r6];exact⟨I.put (b:=w0.heap.size+1) _ fun h=>by omega,_,rfl,rfl,by rw[a3];exact (NwB.nil w0 _).by5,fun _=>rfl⟩
 | false =>
  simp -implicitDefEqProofs only[go_sem,j7,Tryz.f93,yU,chC_zero,hW,J,rk,rb,bl,q3,N,jV,xH,a0];refine qQa pl131 ((bytes3 T (Y.fr0 I).1 x8).mono ?_);rintro D w5 ⟨n5,f5⟩;have o5:one D=true:=by obtain⟨a,cap,rfl⟩:=n5.slice;rfl
  have k5:=f5.at k4 id;have q6:=wr1 (P:=prog) (t:=22) (w:=w5) (b:=W.heap.size) (o:=33) (v:=D) sz22 o5 k5 (by rw[B];omega);rw[chC_val H]at q6;have k6:=qQd (o:=.cells (chC c.key false D) 134 (0,0)) k5;have U:∀ b,qQf D=some b->W.heap.size<b:=fun b U=>by have:=(n5.lt U).1;have:=qQi k4;omega
  have n6:=n5.put (b:=W.heap.size) (.cells (chC c.key false D) 134 (0,0)) fun b h=>by have:=U b h;omega
  have f6:No w0 (put w5 W.heap.size (.cells (chC c.key false D) 134 (0,0))):=(I.trans f5).put (b:=W.heap.size) _ fun h=>by omega
  have a4:=qQh (b:=W.heap.size) (o:=.cells (chC c.key false D) 134 (0,0)) (f5.at M id) x8;generalize put w5 W.heap.size (.cells (chC c.key false D) 134 (0,0))=w6 at *;obtain⟨r7,q7,r8⟩:=O w6 D a4 k6 o5;simp -implicitDefEqProofs only[go_sem,j7,q6,r7,q7,r8,jV];exact⟨f6.put (b:=w0.heap.size+1) _ fun h=>by omega,_,rfl,o5,(n6.put (b:=w0.heap.size+1) (.cells (chC c.key false D) 134 (0,0)) fun b h=>by have:=U b h;omega).by5,trivial⟩
def mgI (w0:World)(av bv:Value)(xs A:List Bat.Ch)(n:Nat)(vs:List Value)(w:World):Prop :=
 ∃ (i j:Nat) (mv:Value) (out:List Bat.Ch),vs=[av,bv,mv,.int .i64 (i:Nat),.int .i64 (j:Nat)]/\i<=xs.length/\j<=A.length/\n=(xs.length - i)+(A.length - j)/\Bat.mergeP xs A=out++Bat.mergeP (xs.drop i) (A.drop j)/\out.length=i+j/\ChX w0 w mv out/\No w0 w
theorem merged (w0:World){xs A:List Bat.Ch}(ha:ChR w0 av xs)(hb:ChR w0 bv A)(b6:xs.length<=2 ^ 20)(b7:A.length<=2 ^ 20):Fn prog 94 #[av,bv] w0 fun v w'=>No w0 w'/\ChX w0 w' v (Bat.mergeP xs A):=by
 refine go94 sm ?_;obtain⟨aa,ac,rfl,b8⟩:=ha.slice;obtain⟨ba,bc,rfl,b9⟩:=hb.slice;simp -implicitDefEqProofs only[go_sem,Tryz.f94];refine loopD [0,1,5,6,7] (mgI w0 (.slice aa xs.length ac) (.slice ba A.length bc) xs A) (xs.length+A.length) ⟨0,0,_,[],rfl,x8,x8,x8,rfl,rfl,ChX.nil _ _,Fr.refl _ _⟩ ?_;rintro _ vs w g ⟨i,j,mv,out,rfl,hi,hj,rfl,B,c0,T,V⟩;have ca:=iSu (i:=i);have cb:=iSu (i:=j)
 have pushA:∀ (h:i<xs.length) (w':World) (vv:Value),No w0 w'->ChX w0 w' mv out->one vv=true->By5 w0 vv xs[i].val->(xs[i].del=true->vv=.slice .none 0 0)->xs[i].key.length=32->∃ v' D,(qC #[95,95] 0 #[mv,.slice (some ⟨w'.heap.size,0,.none⟩) 1 1]).run prog (w'.alloc (.cells (chC xs[i].key xs[i].del vv) 134))=.ok v' D/\ChX w0 D v' (out++[xs[i]])/\No w0 D:=fun h w' vv f T ho hv hd hk =>
  T.push f hk ho (hv.fr0 f) (fun hn b h1 h2=>by have:=hv.1.blk0 hn h1;obtain⟨rows,hN,_⟩:=T;have:=(hN.lt h2).1;omega) hd x8
 have L:∀ (h:j<A.length) (w':World) (vv:Value),No w0 w'->ChX w0 w' mv out->one vv=true->By5 w0 vv A[j].val->(A[j].del=true->vv=.slice .none 0 0)->A[j].key.length=32->∃ v' D,(qC #[95,95] 0 #[mv,.slice (some ⟨w'.heap.size,0,.none⟩) 1 1]).run prog (w'.alloc (.cells (chC A[j].key A[j].del vv) 134))=.ok v' D/\ChX w0 D v' (out++[A[j]])/\No w0 D:=fun h w' vv f T ho hv hd hk =>
  T.push f hk ho (hv.fr0 f) (fun hn b h1 h2=>by have:=hv.1.blk0 hn h1;obtain⟨rows,hN,_⟩:=T;have:=(hN.lt h2).1;omega) hd x8
 by_cases M:i<xs.length
 ·have d1:=dTo ((i:Int)<((xs.length:Nat):Int))
  obtain⟨b1,o1,c1,v1,e1,a7,a8,a9,N,a0⟩:=ha.at M;cases e1;obtain⟨ra,c3,_,_⟩:=a0 w V;obtain⟨_,b0,_,_⟩:=a0 w.drew V.drew;have y1:=iBd (i:=i) (n:=xs.length)
  by_cases H:j<A.length
  ·have d2:=dTo ((j:Int)<((A.length:Nat):Int))
   have d3:=dFo ((j:Int) ≥ ((A.length:Nat):Int));obtain⟨b2,o2,c2,v2,e2,a3,a4,a5,J,O⟩:=hb.at H;cases e2;obtain⟨_,c4,_,_⟩:=O w V;obtain⟨_,b3,_,_⟩:=O w.drew V.drew;have y2:=iBd (i:=j) (n:=A.length);rw[Bat.mergeP_drop M H]at B;simp -implicitDefEqProofs only[go_sem,j7,d3,y1,y2,and_self,iTn,yK,b0,b3];refine qQa pl54 ((cmp w.drew N J).mono ?_);rintro _ U ⟨rfl,f3⟩;have W:No w0 U:=V.drew.trans f3;have X3:ChX w0 U mv out:=T.fr0 ((Fr.refl _ _).drew.trans f3)
   by_cases Y:kcmp xs[i].key A[j].key<=0
   ·have d4:decide (kcmp xs[i].key A[j].key<=0)=true:=decide_eq_true Y
    obtain⟨b4,_,_,_⟩:=a0 U W;simp -implicitDefEqProofs only[go_sem,j7,d4,y1,and_self,iTn,b4];refine qQn (v:=.slice (some ⟨U.heap.size,0,.none⟩) 1 1) (w':=U.alloc (.cells (chC xs[i].key xs[i].del v1) 134)) (qQx (K:=34) j0 j0 (by simp[]) (by simp[]) (qJf _ _ N) _) ?_;obtain⟨R,w8,I,X8,f8⟩:=pushA M U v1 W X3 a7 a8 a9 N;simp -implicitDefEqProofs only[go_sem,j7];refine qQj ⟨R,w8,I,?_⟩;simp -implicitDefEqProofs only[go_sem,j7,ca];rw[if_pos Y]at B;exact⟨(xs.length - (i+1))+(A.length - j),x8,i+1,j,R,out++[xs[i]],rfl,x8,x8,rfl,by rw[B];simp,by simp;omega,X8,f8⟩
   ·have d4:decide (kcmp xs[i].key A[j].key<=0)=false:=decide_eq_false Y
    obtain⟨b5,_,_,_⟩:=O U W;simp -implicitDefEqProofs only[go_sem,j7,d4,y2,and_self,iTn,b5];refine qQn (v:=.slice (some ⟨U.heap.size,0,.none⟩) 1 1) (w':=U.alloc (.cells (chC A[j].key A[j].del v2) 134)) (qQx (K:=34) j0 j0 (by simp[]) (by simp[]) (qJf _ _ J) _) ?_;obtain⟨R,w8,I,X8,f8⟩:=L H U v2 W X3 a3 a4 a5 J;simp -implicitDefEqProofs only[go_sem,j7];refine qQj ⟨R,w8,I,?_⟩;simp -implicitDefEqProofs only[go_sem,j7,cb];rw[if_neg Y]at B;exact⟨(xs.length - i)+(A.length - (j+1)),x8,i,j+1,R,out++[A[j]],rfl,x8,x8,rfl,by rw[B];simp,by simp;omega,X8,f8⟩
  ·have d2:=dFo ((j:Int)<((A.length:Nat):Int))
   have d3:=dTo ((j:Int) ≥ ((A.length:Nat):Int));have Z:A.drop j=[]:=zS x8;rw[Z,Bat.mergeP_nil,vH M]at B;simp -implicitDefEqProofs only[go_sem,j7,d2,d3,y1,and_self,iTn,yK,ra];refine qQn (v:=.slice (some ⟨w.heap.size,0,.none⟩) 1 1) (w':=w.alloc (.cells (chC xs[i].key xs[i].del v1) 134)) (qQx (K:=34) j0 j0 (by simp[]) (by simp[]) (qJf _ _ N) _) ?_;obtain⟨R,w8,I,X8,f8⟩:=pushA M w v1 V T a7 a8 a9 N;simp -implicitDefEqProofs only[go_sem,j7];refine qQj ⟨R,w8,I,?_⟩;simp -implicitDefEqProofs only[go_sem,j7,ca];exact⟨(xs.length - (i+1))+(A.length - j),x8,i+1,j,R,out++[xs[i]],rfl,x8,x8,rfl,by rw[B,Z,Bat.mergeP_nil];simp,by simp;omega,X8,f8⟩
 ·have d1:=dFo ((i:Int)<((xs.length:Nat):Int))
  have a6:xs.drop i=[]:=zS x8
  by_cases H:j<A.length
  ·have d2:=dTo ((j:Int)<((A.length:Nat):Int))
   have d3:=dFo ((j:Int) ≥ ((A.length:Nat):Int));obtain⟨b2,o2,c2,v2,e2,a3,a4,a5,J,O⟩:=hb.at H;cases e2;obtain⟨rb,_,_,_⟩:=O w V;have y2:=iBd (i:=j) (n:=A.length);rw[a6,show Bat.mergeP [] (A.drop j)=A.drop j by simp[Bat.mergeP],vH H]at B;simp -implicitDefEqProofs only[go_sem,j7,d1,d3,y2,and_self,iTn,qQq,bSe,rb];refine qQn (v:=.slice (some ⟨w.heap.size,0,.none⟩) 1 1) (w':=w.alloc (.cells (chC A[j].key A[j].del v2) 134)) (qQx (K:=34) j0 j0 (by simp[]) (by simp[]) (qJf _ _ J) _) ?_;obtain⟨R,w8,I,X8,f8⟩:=L H w v2 V T a3 a4 a5 J;simp -implicitDefEqProofs only[go_sem,j7];refine qQj ⟨R,w8,I,?_⟩;simp -implicitDefEqProofs only[go_sem,j7,cb];exact⟨(xs.length - i)+(A.length - (j+1)),x8,i,j+1,R,out++[A[j]],rfl,x8,x8,rfl,by rw[B,a6];simp[Bat.mergeP],by simp;omega,X8,f8⟩
  ·have d2:=dFo ((j:Int)<((A.length:Nat):Int))
   have Z:A.drop j=[]:=zS x8;rw[a6,Z,Bat.mergeP_nil,z4]at B;simp -implicitDefEqProofs only[go_sem,j7,d1,d2,bSe];rw[B];exact⟨V,T⟩
end R
theorem ChR.cutV {a:Option Addr}{A:List Bat.Ch}(h:ChR w (.slice a n cap) A){l m:Nat}(B:l<=m)(D:m<=n)(L:A.length=n):ChR w (V.cutV 34 a cap l m) ((A.drop l).take (m - l)):=by
 obtain⟨rows,H,I,J⟩:=h;refine⟨_,H.cutV B D x8,by simp[I],fun i a b=>?_⟩;simp only[List.getElem_take,List.getElem_drop];rw[lTk,lDr]at a b;exact J (l+i) x8 x8
namespace R
def soI (w0:World)(sv:Value)(A:List Bat.Ch)(n:Nat)(vs:List Value)(w:World):Prop :=
 ∃ (i:Nat) (mv:Value),vs=[sv,mv,.int .i64 (i:Nat)]/\i<=A.length/\n=A.length - i/\ChX w0 w mv (A.take i)/\(i=0->mv=.slice .none 0 0)/\No w0 w
theorem sorted3:∀ (N:Nat) (w0:World) {sv:Value} {A:List Bat.Ch},A.length<=N->ChR w0 sv A->(∀ c ∈ A,c.Ok)->A.length<=2 ^ 20->Fn prog 53 #[sv] w0 fun v w'=>No w0 w'/\∃ l,ChR w' v l/\l.Perm A/\Bat.Srt l:=by
 intro N
 induction N with
 | zero =>
  intro w0 sv A hN h B hl;obtain rfl:A=[]:=List.length_eq_zero_iff.1 x8;refine go53 sm ?_;obtain⟨a,cap,rfl,D⟩:=h.slice;have Z:decide (((([]:List Bat.Ch).length:Nat):Int)<2)=true:=rfl;simp -implicitDefEqProofs only[go_sem,j7,Tryz.f53,Z];refine loopD [0,3,4] (soI w0 (.slice a ([]:List Bat.Ch).length cap) []) 0 ⟨0,_,rfl,x8,rfl,ChX.nil _ _,fun _=>rfl,Fr.refl _ _⟩ ?_;rintro _ vs w g ⟨i,mv,rfl,hi,rfl,hX,h0,Y⟩;obtain rfl:i=0:=by simpa using hi
  have d1:decide (((0:Nat):Int)<((([]:List Bat.Ch).length:Nat):Int))=false:=rfl;simp -implicitDefEqProofs only[go_sem,j7,d1];exact⟨Y,_,hX.new.rd,List.Perm.refl _,List.Pairwise.nil⟩
 | succ N ih =>
  intro w0 sv A hN h B hl;refine go53 sm ?_;obtain⟨a,cap,rfl,D⟩:=h.slice
  by_cases h2:A.length<2
  ·have Z:=dTo (((A.length:Nat):Int)<2)
   simp -implicitDefEqProofs only[go_sem,j7,Tryz.f53,Z];refine loopD [0,3,4] (soI w0 (.slice a A.length cap) A) A.length ⟨0,_,rfl,x8,rfl,by rw[List.take_zero];exact ChX.nil _ _,fun _=>rfl,Fr.refl _ _⟩ ?_;rintro _ vs w g ⟨i,mv,rfl,hi,rfl,hX,h0,Y⟩
   by_cases L:i<A.length
   ·obtain rfl:i=0:=x8
    obtain rfl:=h0 rfl;have d1:=dTo (((0:Nat):Int)<((A.length:Nat):Int));have y1:(0:Int)<=((0:Nat):Int)/\((0:Nat):Int)<((A.length:Nat):Int):=x8
    have c1:IntKind.i64.wrap (((0:Nat):Int)+1)=((0+1:Nat):Int):=qXa (b:=1);obtain⟨b1,o1,c0,v1,e1,a4,a5,a6,H,a7⟩:=h.at L;cases e1;obtain⟨ra,_,_,_⟩:=a7 w Y;rw[j9,yK]at ra;have a8:A.take (0+1)=A.take 0++[A[0]]:=tSg L;have a0:=B A[0] (vO L);generalize A[0]=c at *;simp -implicitDefEqProofs only[go_sem,j7,y1,and_self,iTn,ra,decide_true];refine qQa pl93 ((plain3 w a0 a4 (a5.fr0 Y) a6).mono ?_);rintro _ J ⟨f2,M,rfl,a3,a9,b0⟩;have b3:=Y.trans f2;obtain⟨W3,b4,f3,k3,s3⟩:=qQl J (chC (zG 32 0) false (.slice .none 0 0)) 134;have q3:wrO prog 134 W3 J.heap.size 0 (.agg (chC c.key c.del M))=some (put W3 J.heap.size (.cells (chC c.key c.del M) 134 (0,0))):=qQo (by rw[qJf _ _ H];exact sz134) k3 (by rw[qJf _ _ lRe,qJf _ _ H]) (chC_one _ a3);have k4:=qQd (o:=.cells (chC c.key c.del M) 134 (0,0)) k3;have I:No J (put W3 J.heap.size (.cells (chC c.key c.del M) 134 (0,0))):=f3.put (b:=J.heap.size) _ fun h=>absurd h (yZ _)
    obtain⟨O,b5⟩:∃ O,O=put W3 J.heap.size (.cells (chC c.key c.del M) 134 (0,0)):=⟨_,rfl⟩
    rw[<- b5]at q3 k4 I;have r4:rdO prog 134 O J.heap.size 0=some (.agg (chC c.key c.del M)):=qKs agg134 (by rw[qJf _ _ H];exact sz134) k4;have R:=b3.trans I;simp -implicitDefEqProofs only[go_sem,j7,yU,chC_zero,b4,q3,r4];refine qQn (v:=.slice (some ⟨O.heap.size,0,.none⟩) 1 1) (w':=O.alloc (.cells (chC c.key c.del M) 134)) (qQx (K:=34) j0 j0 (by simp[chC]) (by simp[chC]) (qJf _ _ H) _) ?_;obtain⟨v8,w8,b6,X8,f8⟩:=((hX.fr0 f2).fr0 I).push R H a3 (a9.fr0 I) (fun _ b _ h=>by cases h) b0 sm;rw[<- a8]at X8;simp -implicitDefEqProofs only[go_sem,j7];refine qQj ⟨v8,w8,b6,?_⟩;simp -implicitDefEqProofs only[go_sem,j7,c1];exact⟨A.length - (0+1),x8,0+1,v8,rfl,x8,rfl,X8,fun h=>by omega,f8⟩
   ·have d1:=dFo ((i:Int)<((A.length:Nat):Int))
    obtain rfl:i=A.length:=x8
    rw[kQ]at hX;simp -implicitDefEqProofs only[go_sem,j7,d1];refine⟨Y,_,hX.new.rd,List.Perm.refl _,?_⟩
    match A,h2 with
    | [],_=>exact List.Pairwise.nil
    | [c],_=>exact List.pairwise_singleton _ _
  ·have Z:=dFo (((A.length:Nat):Int)<2)
   have n2:((2:Int)=0)=False:=sm
   have a2:IntKind.i64.wrap (((A.length:Nat):Int).tdiv 2)=((A.length / 2:Nat):Int):=by rw[show ((A.length:Nat):Int).tdiv 2=((A.length / 2:Nat):Int) from rfl];exact i64n
   obtain⟨m,hm⟩:∃ m,m=A.length / 2:=⟨_,rfl⟩
   rw[<- hm]at a2;have p1:=slc_hi (P:=prog) slc95 arr95 sz134 (a:=a) (n:=A.length) (cap:=cap) (l:=m) x8 D;have p2:=slc_lo (P:=prog) slc95 arr95 sz134 (a:=a) (n:=A.length) (cap:=cap) (l:=m) x8 D
   have h1:∀ w,No w0 w->ChR w (V.cutV 34 a cap 0 m) (A.take m):=fun w f=>by
    have:=(h.fr0 f).cutV (l:=0) (m:=m) x8 x8 rfl
    rwa [List.drop_zero,Nat.sub_zero]at this
   have b7:∀ w,No w0 w->ChR w (V.cutV 34 a cap m A.length) (A.drop m):=fun w f=>by
    have:=(h.fr0 f).cutV (l:=m) (m:=A.length) x8 x8 rfl
    rwa [zB (by rw[lDr];omega)]at this
   simp -implicitDefEqProofs only[go_sem,j7,Tryz.f53,Z,n2,a2,p1];refine qQa pl53 ((ih w0 (by rw[lTk];omega) (h1 w0 (Fr.refl _ _)) (fun c T=>B c (kX T)) (by rw[lTk];omega)).mono ?_);rintro v3 w3 ⟨f3,l3,h3,U,b8⟩;simp -implicitDefEqProofs only[go_sem,j7,p2];refine qQa pl53 ((ih w3 (by rw[lDr];omega) (b7 w3 f3) (fun c T=>B c (vP T)) (by rw[lDr];omega)).mono ?_);rintro v4 O ⟨f4,l4,h4,W,b9⟩;have R:=f3.trans f4;have e3:=U.length_eq;have e4:=W.length_eq;rw[lTk]at e3;rw[lDr]at e4;simp -implicitDefEqProofs only[go_sem,j7];refine qQa pl94 ((merged O (h3.fr0 f4) h4 x8 x8).mono ?_);rintro v5 w5 ⟨f5,X5⟩;simp -implicitDefEqProofs only[go_sem];refine⟨R.trans f5,_,X5.new.rd,?_,?_⟩
   ·refine (Bat.mergeP_perm l3 l4).trans ((U.append W).trans ?_)
    rw[List.take_append_drop]
   ·exact Bat.mergeP_srt l3 l4 (fun c T=>(B c (kX (U.mem_iff.1 T))).1) (fun c T=>(B c (vP (W.mem_iff.1 T))).1) b8 b9
theorem srt_adj {l:List Bat.Ch}(B:∀ c ∈ l,c.key.length=32)(J:Bat.Srt l)(H:∀ q,1<=q->q<l.length->(l.map Bat.Ch.key).getD q []≠(l.map Bat.Ch.key).getD (q - 1) []):l.Pairwise fun a b=>klt a.key b.key:=by
 induction l with
 | nil=>exact List.Pairwise.nil
 | cons x l L =>
  obtain⟨M,N⟩:=List.pairwise_cons.1 J
  have I:=L (fun c O=>B c (zD _ O)) N (fun q U R=>by
   have:=H (q+1) x8 (by simpa using R);rw[List.map_cons,Nat.add_sub_cancel]at this
   obtain⟨q,rfl⟩:∃ p,q=p+1:=⟨q - 1,x8⟩
   simpa using this)
  refine List.pairwise_cons.2 ⟨?_,I⟩
  cases l with
  | nil=>intro y T;cases T
  | cons y l =>
   have A:klt x.key y.key:=by
    have hne:y.key≠x.key:=by simpa using H 1 (xC _) sm
    rcases klt_total (B y sm) (B x sm) hne with h | h
    ·exact absurd h (M y sm)
    ·exact h
   intro z D
   rcases List.mem_cons.1 D with rfl | D
   ·exact A
   ·exact qKw A ((List.pairwise_cons.1 I).1 z D)
def wrI (w0:World)(sv:Value)(A:List Bat.Ch)(n:Nat)(vs:List Value)(w:World):Prop :=
 ∃ (i:Nat),vs=[sv,.int .i64 (i:Nat)]/\i<=A.length/\n=A.length - i/\No w0 w
def wrJ (w0:World)(A:Value)(l:List Bat.Ch)(n:Nat)(vs:List Value)(w:World):Prop :=
 ∃ (i:Nat),vs=[A,.int .i64 (i:Nat)]/\1<=i/\(i<=l.length∨i=1)/\n=l.length+1 - i/\No w0 w/\∀ q,1<=q->q<i->(l.map Bat.Ch.key).getD q []≠(l.map Bat.Ch.key).getD (q - 1) []
def ChOk (A:List Bat.Ch):Prop:=A.length<=4096/\(A.map Bat.Ch.key).Nodup
theorem klt_nodup {l:List Bat.Ch}(h:l.Pairwise fun a b=>klt a.key b.key):(l.map Bat.Ch.key).Nodup:=by
 rw[List.Nodup,List.pairwise_map];refine List.Pairwise.imp ?_ h;intro a b h e;rw[e]at h;exact qZp _ h
theorem wrong3 (w0:World){A:List Bat.Ch}(h:ChR w0 sv A)(J:∀ c ∈ A,c.Ok)(hl:A.length<=2 ^ 20):Fn prog 52 #[sv,.int .i64 4096] w0 fun v w'=>No w0 w'/\∃ e:Int,v=.int .i64 e/\(e=0 ↔ ChOk A):=by
 refine go52 sm ?_;obtain⟨a,cap,rfl,a5⟩:=h.slice
 by_cases h4:4096<A.length
 ·have d0:=dTo (((A.length:Nat):Int) > 4096)
  simp -implicitDefEqProofs only[go_sem,j7,Tryz.f52,d0];exact⟨Fr.refl _ _,31,rfl,fun h=>absurd h j0,fun h=>absurd h.1 x8⟩
 have d0:=dFo (((A.length:Nat):Int) > 4096);simp -implicitDefEqProofs only[go_sem,j7,Tryz.f52,d0];refine loopD [0,5] (wrI w0 (.slice a A.length cap) A) A.length ⟨0,rfl,x8,rfl,Fr.refl _ _⟩ ?_;rintro _ vs w g ⟨i,rfl,hi,rfl,M⟩
 by_cases N:i<A.length
 ·have d1:=dTo ((i:Int)<((A.length:Nat):Int))
  have y1:=iBd (i:=i) (n:=A.length);have c1:=iSu (i:=i);obtain⟨b1,o1,a0,v1,e1,a6,a3,a7,O,B⟩:=h.at N;cases e1;obtain⟨_,_,Z,rv⟩:=B w M;obtain⟨_,a8,_⟩:=J A[i] (vO N);obtain⟨va,vc,rfl,a9⟩:=a3.1.slice;have d2:=dFo (((A[i].val.length:Nat):Int) > 128)
  cases H:A[i].del with
  | true =>
   rw[H]at Z;simp -implicitDefEqProofs only[go_sem,j7,y1,and_self,iTn,Z,y8,qQq,c1];exact⟨A.length - (i+1),x8,i+1,rfl,x8,rfl,M⟩
  | false =>
   rw[H]at Z;simp -implicitDefEqProofs only[go_sem,j7,y1,and_self,iTn,Z,xH,bSe,rv,d2,c1];exact⟨A.length - (i+1),x8,i+1,rfl,x8,rfl,M⟩
 ·have d1:=dFo ((i:Int)<((A.length:Nat):Int))
  simp -implicitDefEqProofs only[go_sem,j7,d1];refine qQa pl53 ((sorted3 A.length w (xC _) (h.fr0 M) J x8).mono ?_);rintro lv w2 ⟨f2,l,hL,hp,hs⟩;have R:=M.trans f2;have b0:=hp.length_eq;have T:=(hp.map Bat.Ch.key).nodup_iff;have U:∀ c ∈ l,c.key.length=32:=fun c hc=>(J c (hp.mem_iff.1 hc)).1;obtain⟨la,lc,rfl,b3⟩:=hL.slice;simp -implicitDefEqProofs only[go_sem];refine loopD [6,7] (wrJ w2 (.slice la l.length lc) l) l.length ⟨1,rfl,xC _,.inr rfl,x8,Fr.refl _ _,fun q h1 h2=>absurd h2 x8⟩ ?_;rintro _ vs w3 g ⟨j,rfl,hj,b4,rfl,L,I⟩
  by_cases D:j<l.length
  ·have d3:=dTo ((j:Int)<((l.length:Nat):Int))
   have y2:=iBd (i:=j) (n:=l.length);have y3:(0:Int)<=((j - 1:Nat):Int)/\((j - 1:Nat):Int)<((l.length:Nat):Int):=x8
   have c2:IntKind.i64.wrap ((j:Int) - 1)=((j - 1:Nat):Int):=qXv (b:=1) x8 x8;have c3:=iSu (i:=j);obtain⟨b1,o1,a0,v1,e1,_,_,_,O,B⟩:=hL.at D;cases e1;obtain⟨b2,o2,b5,v2,e2,_,_,_,a4,V⟩:=hL.at (show j - 1<l.length by omega);cases e2;obtain⟨_,r1,_,_⟩:=B w3 L;obtain⟨_,r2,_,_⟩:=V w3 L;obtain⟨_,W,_,_⟩:=B w3.drew L.drew;obtain⟨_,Y,_,_⟩:=V w3.drew L.drew;have eq:=eqKey O a4;have g1:(l.map Bat.Ch.key).getD j []=l[j].key:=by rw[qQw _ (by simpa using D),List.getElem_map]
   have g2:(l.map Bat.Ch.key).getD (j - 1) []=l[j - 1].key:=by rw[qQw _ (by simp;omega),List.getElem_map]
   by_cases he:l[j].key=l[j - 1].key
   ·have hb:(l[j].key == l[j - 1].key)=true:=beq_iff_eq.2 he
    simp -implicitDefEqProofs only[go_sem,j7,y2,y3,and_self,iTn,yK,c2,W,Y,eq,hb];exact⟨(R.trans L).drew,33,rfl,fun h=>absurd h j0,fun h=>absurd (show (l.map Bat.Ch.key)[j]'(by simpa using D)=(l.map Bat.Ch.key)[j - 1]'(by simp;omega) by simpa using he) (nodup_ne (T.2 h.2) (by simpa using D) (by simp;omega) x8)⟩
   ·have hb:(l[j].key == l[j - 1].key)=false:=beq_eq_false_iff_ne.2 he
    simp -implicitDefEqProofs only[go_sem,j7,y2,y3,and_self,iTn,yK,c2,c3,W,Y,eq,hb];refine⟨l.length+1 - (j+1),x8,j+1,rfl,x8,.inl x8,rfl,L.drew,fun q h1 h2=>?_⟩
    by_cases hq:q<j
    ·exact I q h1 hq
    ·obtain rfl:q=j:=x8
     rw[g1,g2];exact he
  ·have d3:=dFo ((j:Int)<((l.length:Nat):Int))
   simp -implicitDefEqProofs only[go_sem,j7,d3];exact⟨R.trans L,0,rfl,fun _=>⟨x8,T.1 (klt_nodup (srt_adj U hs fun q h1 h2=>I q h1 x8))⟩,fun _=>rfl⟩
theorem normal3 (w0:World){A:List Bat.Ch}(h:ChR w0 sv A)(B:∀ c ∈ A,c.Ok)(I:A.length<=2 ^ 20):Fn prog 28 #[sv] w0 fun r w'=>No w0 w'/\∃ v e,r=.tuple #[v,.int .i64 e]/\(e=0 ↔ ChOk A)/\(e=0->∃ l,ChR w' v l/\l.Perm A/\Bat.Srt l):=by
 refine go28 sm ?_;simp -implicitDefEqProofs only[go_sem,j7,Tryz.f28];refine qQa pl52 ((wrong3 w0 h B I).mono ?_);rintro _ L ⟨D,e,rfl,J⟩
 by_cases H:e=0
 ·subst H
  simp -implicitDefEqProofs only[go_sem,j7,bNe];refine qQa pl53 ((sorted3 A.length L (xC _) (h.fr0 D) B I).mono ?_);rintro v U ⟨M,l,N,O,R⟩;simp -implicitDefEqProofs only[go_sem,j7];exact⟨D.trans M,v,0,rfl,J,fun _=>⟨l,N,O,R⟩⟩
 ·have T:(e != 0)=true:=bne_iff_ne.2 H
  simp -implicitDefEqProofs only[go_sem,j7,T];exact⟨D,_,e,rfl,J,fun h=>absurd h H⟩
end R
section
namespace A
open Aud
section
variable {u w0 w w':World} {sb:Nat} {iv:Value} {s:Sup} {mn mr:Nat} {cv vv fv:Value} {E:Nat->Prop}
def DgR (u w0:World)(sb B A:Nat)(iv:Value)(s:Sup)(mn mr:Nat)(cv vv fv:Value)(E:Nat->Prop)(D:List Value)(h:Nat)(L R:Bs)(H I J M N O:Value)(w:World):Prop :=
 ∃ a b,H=pt sb 0/\I=.int .i64 (h:Nat)/\J=pt B 0/\M=pt A 0/\N=pt a 0/\O=pt b 0/\a≠b/\w0.heap.size+2<=a/\w0.heap.size+2<=b /\
  w.heap[a]?=some (.cells (bl L) 75 (0,0))/\w.heap[b]?=some (.cells (bl R) 75 (0,0))/\w.heap[A]?=some (.cells (bl z32) 75 (0,0))/\w.heap[B]?=some (.cells D.toArray 78 (0,0)) /\
  SRow u w sb iv s mn mr cv vv fv (fun c=>E c∨w0.heap.size<=c/\(c=A∨c=a∨c=b))/\Fr (fun c=>c=sb) w0 w
theorem digestBr (ht:Tabs w0)(hu:u.heap.size<=w0.heap.size)(hsb:5<=sb)(hS:SRow u w0 sb iv s mn mr cv vv fv E)(hE:∀ b, E b->b<w0.heap.size){O T lc rc:Nat}(J:ls.length=32)(hrs:rs.length=32)(h1:1<=h)(hh:h<257) :
  Fn prog 164 #[pt sb 0,.agg (ndA (.br O T lc rc ls rs) nv).toArray,.int .i64 (h:Nat)] w0 fun v w'=>v=dg (qXk s.width (if O=0 then emptD s.width (h - 1) else ls) (if T=0 then emptD s.width (h - 1) else rs))/\Fr (fun b=>b=sb) w0 w'/\SRow u w' sb iv s mn mr cv vv fv E:=by
 refine go164 sm ?_;have b8:=hS.lt;generalize b3:ndA (.br O T lc rc ls rs) nv=nc;obtain⟨W,hW,f1,V,k2,s1⟩:=qJq w0 nc.toArray 78 (bl z32) 75;have b9:=hS.grow f1
 have Y:∀ w:World, w.heap[w0.heap.size]?=some (.cells nc.toArray 78 (0, 0))->rdO prog 3 w w0.heap.size 0=some (.int .i64 2)/\rdO prog 3 w w0.heap.size 1=some (.int .i64 (O:Nat))/\rdO prog 3 w w0.heap.size 2=some (.int .i64 (T:Nat)) /\
   rdO prog 75 w w0.heap.size 5=some (dg ls)/\rdO prog 75 w w0.heap.size 37=some (dg rs):=fun w V=>by
  rw[<- b3]at V;refine⟨rd1 agg3 V rfl,rd1 agg3 V rfl,rd1 agg3 V rfl,?_,?_⟩
  ·refine qKb (e:=78) (fz:=(0,0)) (a:=[.int .i64 2,.int .i64 (O:Nat),.int .i64 (T:Nat),.int .i64 (lc:Nat),.int .i64 (rc:Nat)]) (m:=ls.map u8) (r:=rs.map u8++z32.map u8++[nv]) agg75 (by simp[J];exact sz75) (by simp[J]) ?_ sm
   rw[V];simp only[ndA,ndC,zU];rfl
  ·refine qKb (e:=78) (fz:=(0,0)) (a:=[.int .i64 2,.int .i64 (O:Nat),.int .i64 (T:Nat),.int .i64 (lc:Nat),.int .i64 (rc:Nat)]++ls.map u8) (m:=rs.map u8) (r:=z32.map u8++[nv]) agg75 (by simp[hrs];exact sz75) (by simp[hrs]) ?_ (by simp[J])
   rw[V];simp only[ndA,ndC,zU];rfl
 obtain⟨r0,_,_,_,_⟩:=Y W V;have d0:((2:Int) == 1)=false:=rfl;simp only[go_sem,j7,vS,yU,jV,qQk,Tryz.f164,hW,r0,d0];have c1:IntKind.i64.wrap ((h:Int) - 1)=((h - 1:Nat):Int):=qXv (b:=1) h1 x8;have c0:∀ (w w5:World) (a b:Nat) (L R D:Bs),No w w5∨Fr (fun c=>c=sb) w w5->True:=fun _ _ _ _ _ _ _ _=>trivial;refine qXg (Q:=fun e B w=>e=.normal/\DgR u w0 sb w0.heap.size (w0.heap.size+1) iv s mn mr cv vv fv E nc h ls rs (B 0) (B 2) (B 4) (B 6) (B 7) (B 8) w) _ (fun e B w=>?_) ?_
 ·rintro⟨rfl,hD⟩
  rw[thenQ_normal];refine qZf (fun B w=>DgR u w0 sb w0.heap.size (w0.heap.size+1) iv s mn mr cv vv fv E nc h (if O=0 then emptD s.width (h - 1) else ls) rs (B 0) (B 2) (B 4) (B 6) (B 7) (B 8) w) ?_ ?_
  ·obtain⟨a,b,e0,e2,e4,e6,e7,e8,M,ha,H,Z,kb,kr,kn,I,U⟩:=hD
   obtain⟨r0,r1,r2,r3,r4⟩:=Y w kn;have n0:((O:Int) == 0)=decide (O=0):=nateq O 0
   by_cases hz:O=0
   case neg =>
    rw[decide_eq_false hz]at n0;rw[if_neg hz];simp only[go_sem,j7,jV,e4,r1,n0];exact⟨a,b,(by trivial),(by trivial),(by trivial),(by trivial),(by trivial),(by trivial),M,ha,H,Z,kb,kr,kn,I,U⟩
   rw[decide_eq_true hz]at n0;rw[if_pos hz];simp only[go_sem,j7,jV,e0,e2,e4,r1,n0,c1];have h3:=qQi Z;have h4:=qQi kb;have h5:=qQi kr;refine qQa pl125 ((bareS (ht.fr U fun b H h=>by omega) (by have:=U.size;omega) hsb I (fun c hc=>by rcases hc with hc | ⟨_,rfl | rfl | rfl⟩ <;> first | omega | (have:=hE c hc;omega)) (h:=h - 1) x8).mono ?_);rintro _ w5 ⟨rfl,N,a3⟩;have a5:=N.at Z x8;have q:=wr_d sz75 a5 J (qQy s.width (h - 1));simp only[go_sem,j7,e7,q];exact⟨a,b,(by trivial),(by trivial),(by trivial),(by trivial),(by trivial),(by trivial),M,ha,H,qQd a5,qQh (N.at kb x8) x8,qQh (N.at kr x8) x8,qQh (N.at kn x8) x8,a3.put _ x8 (.inr ⟨x8,.inr (.inl rfl)⟩),(U.trans N).put (b:=a) _ fun h=>by omega⟩
  generalize hL:(if O=0 then emptD s.width (h - 1) else ls)=L;have a6:L.length=32:=by rw[<- hL];split;exact qQy _ _;exact J
  clear hD;intro B w hD;refine qZf (fun B w=>DgR u w0 sb w0.heap.size (w0.heap.size+1) iv s mn mr cv vv fv E nc h L (if T=0 then emptD s.width (h - 1) else rs) (B 0) (B 2) (B 4) (B 6) (B 7) (B 8) w) ?_ ?_
  ·obtain⟨a,b,e0,e2,e4,e6,e7,e8,M,ha,H,Z,kb,kr,kn,I,U⟩:=hD
   obtain⟨r0,r1,r2,r3,r4⟩:=Y w kn;have n0:((T:Int) == 0)=decide (T=0):=nateq T 0
   by_cases hz:T=0
   case neg =>
    rw[decide_eq_false hz]at n0;rw[if_neg hz];simp only[go_sem,j7,jV,e4,r2,n0];exact⟨a,b,(by trivial),(by trivial),(by trivial),(by trivial),(by trivial),(by trivial),M,ha,H,Z,kb,kr,kn,I,U⟩
   rw[decide_eq_true hz]at n0;rw[if_pos hz];simp only[go_sem,j7,jV,e0,e2,e4,r2,n0,c1];have h3:=qQi Z;have h4:=qQi kb;have h5:=qQi kr;refine qQa pl125 ((bareS (ht.fr U fun b H h=>by omega) (by have:=U.size;omega) hsb I (fun c hc=>by rcases hc with hc | ⟨_,rfl | rfl | rfl⟩ <;> first | omega | (have:=hE c hc;omega)) (h:=h - 1) x8).mono ?_);rintro _ w5 ⟨rfl,N,a3⟩;have a7:=N.at kb x8;have q:=wr_d sz75 a7 hrs (qQy s.width (h - 1));simp only[go_sem,j7,e8,q];exact⟨a,b,(by trivial),(by trivial),(by trivial),(by trivial),(by trivial),(by trivial),M,ha,H,qQh (N.at Z x8) x8,qQd a7,qQh (N.at kr x8) x8,qQh (N.at kn x8) x8,a3.put _ x8 (.inr ⟨x8,.inr (.inr rfl)⟩),(U.trans N).put (b:=b) _ fun h=>by omega⟩
  generalize hR:(if T=0 then emptD s.width (h - 1) else rs)=R;have a8:R.length=32:=by rw[<- hR];split;exact qQy _ _;exact hrs
  clear hD;rintro B w ⟨a,b,e0,e2,e4,e6,e7,e8,M,ha,H,Z,kb,kr,kn,I,U⟩;have b4:rdO prog 3 w.drew sb 1=some (.int .i64 (s.width:Nat)):=I.rdw;have ra:=rd_d (w:=w.drew) agg75 sz75 Z a6;have rb:=rd_d (w:=w.drew) agg75 sz75 kb a8;simp only[go_sem,j7,yX,jV,yK,e0,e7,e8,nilOk,b4,ra,rb];refine qQa pl160 ((branch w.drew ((ht.fr U fun b H h=>by omega).no (Fr.refl _ _).drew) s.width a6 a8).mono ?_);rintro _ w5 ⟨rfl,N⟩;have a4:No w w5:=(Fr.refl _ _).drew.trans N;have a9:=a4.at kr id;have a0:=qXp (s.width:Int) L R;have q:=wr_d sz75 a9 zl32 a0;have r:=rd_d agg75 sz75 (qQd (o:=.cells (bl (qXk s.width L R)) 75 (0,0)) a9) a0;simp only[go_sem,j7,e6,q,r];exact⟨(U.trans (a4.mono fun _ _ h=>h.elim)).put (b:=w0.heap.size+1) _ fun h=>by omega,((I.fr0 a4).put _ x8 (.inr ⟨x8,.inl rfl⟩)).mono fun b _ h=>.inl h⟩
 refine qXj (fun j=>j == 4 || j == 5) (.one 0 (.one 2 (.one 1 (.tri 3 (.two 4 (.row [5,6,7]) 5 (.row [4,6,7])) 4 (.two 3 (.row [5,6,7]) 5 (.two 3 (.row [6,7]) 6 (.row [3,7]))) 5 (.two 3 (.row [4,6,7]) 4 (.two 3 (.row [6,7]) 6 (.row [3,7]))))))) rfl x9 x9 ?_;have k3:W.drew.heap[w0.heap.size]?=some (.cells nc.toArray 78 (0,0)):=V;have k4:W.drew.heap[w0.heap.size+1]?=some (.cells (bl z32) 75 (0,0)):=k2;have f3:=f1.drew;have s3:W.drew.heap.size=w0.heap.size+2:=s1;generalize W.drew=A at *;obtain⟨A1,b5,g1,a1,t1⟩:=qQl A (bl z32) 75;obtain⟨A2,b6,g2,a2,t2⟩:=qQl A1 (bl z32) 75;have hn:A1.heap.size=A.heap.size+1:=t1;rw[hn]at a2;have b1:=g2.at a1 id;obtain⟨_,_,_,x1,y1⟩:=Y A k3;obtain⟨_,_,_,x2,y2⟩:=Y A1 (g1.at k3 id);have kA:=g2.at (g1.at k3 id) id;obtain⟨_,_,_,x3,y3⟩:=Y A2 kA;have kR:=g2.at (g1.at k4 id) id;have fA:=(f3.trans g1).trans g2;obtain⟨_,_,_,_,y4⟩:=Y (put A2 A.heap.size (.cells (bl ls) 75 (0,0))) (qQh kA x8);obtain⟨_,_,_,_,y5⟩:=Y (put A2 (A.heap.size+1) (.cells (bl ls) 75 (0,0))) (qQh kA x8);have u1:=wr_d (d':=ls) sz75 b1 z32l J;have u2:=wr_d (d':=ls) sz75 a2 z32l J;have u3:=wr_d (d':=rs) sz75 (qQh (b:=A.heap.size) (o:=.cells (bl ls) 75 (0,0)) a2 x8) z32l hrs;have u4:=wr_d (d':=rs) sz75 (qQh (b:=A.heap.size+1) (o:=.cells (bl ls) 75 (0,0)) b1 x8) z32l hrs;have b0:=hS.grow fA;have b7:A2.heap.size=A.heap.size+2:=x8
 have l1:DgR u w0 sb w0.heap.size (w0.heap.size+1) iv s mn mr cv vv fv E nc h ls rs (pt sb 0) (.int .i64 (h:Nat)) (pt w0.heap.size 0) (pt (w0.heap.size+1) 0) (pt A.heap.size 0) (pt (A.heap.size+1) 0) (put (put A2 A.heap.size (.cells (bl ls) 75 (0,0))) (A.heap.size+1) (.cells (bl rs) 75 (0,0))) :=
  ⟨_,_,rfl,rfl,rfl,rfl,rfl,rfl,x8,x8,x8,qQh (qQd b1) x8,qQd (qQh (o:=.cells (bl ls) 75 (0,0)) a2 (show A.heap.size≠A.heap.size+1 by omega)),qQh (qQh kR x8) x8,qQh (qQh kA x8) x8,((b0.put _ x8 (.inr x8)).put _ x8 (.inr x8)).mono fun b _ H=>H.imp id fun H=>H.1,(fA.mono fun _ _ h=>h.elim).put (b:=A.heap.size) _ (fun h=>by omega) |>.put (b:=A.heap.size+1) _ fun h=>by omega⟩
 have l2:DgR u w0 sb w0.heap.size (w0.heap.size+1) iv s mn mr cv vv fv E nc h ls rs (pt sb 0) (.int .i64 (h:Nat)) (pt w0.heap.size 0) (pt (w0.heap.size+1) 0) (pt (A.heap.size+1) 0) (pt A.heap.size 0) (put (put A2 (A.heap.size+1) (.cells (bl ls) 75 (0,0))) A.heap.size (.cells (bl rs) 75 (0,0))) :=
  ⟨_,_,rfl,rfl,rfl,rfl,rfl,rfl,x8,x8,x8,qQh (qQd a2) x8,qQd (qQh (o:=.cells (bl ls) 75 (0,0)) b1 (show A.heap.size+1≠A.heap.size by omega)),qQh (qQh kR x8) x8,qQh (qQh kA x8) x8,((b0.put _ x8 (.inr x8)).put _ x8 (.inr x8)).mono fun b _ H=>H.imp id fun H=>H.1,(fA.mono fun _ _ h=>h.elim).put (b:=A.heap.size+1) _ (fun h=>by omega) |>.put (b:=A.heap.size) _ fun h=>by omega⟩
 have e1:=g1.ext;have e2:=g2.ext;clear Y;simp only[go_sem,j7,yX,yU,bSe,jV,qQk,OT.row,b5,b6,hn,e1,e2,x1,y1,y2,y3,y4,y5,u1,u2,u3,u4,l1,l2,implies_true,and_self,true_and]
theorem digestLf (T:Tabs w0)(hu:u.heap.size<=w0.heap.size)(hsb:5<=sb)(J:SRow u w0 sb iv s mn mr cv vv fv E)(U:∀ b, E b->b<w0.heap.size){k val:Bs}(L:k.length=32)(Y:By w0 nv val)(Z:one nv=true)(hl:val.length<=128)(hh:h<257) :
  Fn prog 164 #[pt sb 0,.agg (ndA (.leaf k val) nv).toArray,.int .i64 (h:Nat)] w0 fun v w'=>v=dg (V.climb s.width k 0 (leafD s.width k val) (empts s.width h))/\Fr (fun b=>b=sb) w0 w'/\SRow u w' sb iv s mn mr cv vv fv E:=by
 refine go164 sm ?_;have a0:=J.lt;have D:(ndA (.leaf k val) nv).length=102:=qQu z32l z32l L _;obtain⟨W,hW,A,M,k2,s1⟩:=qJq w0 (ndA (.leaf k val) nv).toArray 78 (bl z32) 75;have r0:rdO prog 3 W w0.heap.size 0=some (.int .i64 1):=rd1 agg3 M rfl;have d0:((1:Int) == 1)=true:=rfl;have ld:=qQm (P:=prog) (t:=78) agg78 sz78 M (by simp[D]);simp only[go_sem,j7,vS,yU,bSe,jV,qQk,Tryz.f164,hW,r0,ld];have H:=J.grow A;refine qQa pl187 ((climb (T.no A) (by have:=A.size;omega) hsb (H.mono (E':=fun b=>E b∨b=w0.heap.size+1) fun b _ B=>B.imp id fun h=>by omega) (fun b B=>by rcases B with B | rfl;exact (by have:=U b B;omega);omega) L (Y.fr0 A) Z hl hh).mono ?_);rintro _ w3 ⟨rfl,N,I⟩;have O:(V.climb s.width k 0 (leafD s.width k val) (empts s.width h)).length=32:=qKi _ _ _ _ _ (qZo _ _ _);have R:=N.at k2 x8;have q:=wr_d sz75 R zl32 O;have r:=rd_d agg75 sz75 (qQd (o:=.cells (bl (V.climb s.width k 0 (leafD s.width k val) (empts s.width h))) 75 (0,0)) R) O;simp only[go_sem,j7,q,r];exact⟨((A.mono fun _ _ h=>h.elim).trans N).put (b:=w0.heap.size+1) _ fun h=>by omega,(I.put _ x8 (.inr rfl)).mono fun b _ h=>.inl h⟩
end
end A
end
section
namespace A
open Aud
def rwC (n:Nat)(r:Bs):List Value:=.int .i64 (n:Nat)::r.map u8
theorem rwC_one (n:Nat)(r:Bs):(rwC n r).all one=true:=by simp only[rwC,vJ,qXy,y9];rfl
theorem shl8 (b k:Nat)(A:b<2)(B:k<8):shlK .u8 (b:Int) (k:Int)=((if b=1 then zW 8 (2 ^ k) else (0:Byte)).toNat:Int):=by
 match k,B,b,A with
 | 0,_,0,_=>rfl
 | 0,_,1,_=>rfl
 | 1,_,0,_=>rfl
 | 1,_,1,_=>rfl
 | 2,_,0,_=>rfl
 | 2,_,1,_=>rfl
 | 3,_,0,_=>rfl
 | 3,_,1,_=>rfl
 | 4,_,0,_=>rfl
 | 4,_,1,_=>rfl
 | 5,_,0,_=>rfl
 | 5,_,1,_=>rfl
 | 6,_,0,_=>rfl
 | 6,_,1,_=>rfl
 | 7,_,0,_=>rfl
 | 7,_,1,_=>rfl
theorem or8 (x y:Byte):orK .u8 (x.toNat:Int) (y.toNat:Int)=((x ||| y).toNat:Int):=by
 have e:orK .u8 (x.toNat:Int) (y.toNat:Int)=IntKind.u8.wrap (((BitVec.ofInt 8 (x.toNat:Int) ||| BitVec.ofInt 8 (y.toNat:Int)).toNat:Nat):Int):=rfl;rw[e,xW,xW,xU,xU,xY,xY];exact w8_toNat _
theorem under_eq (n:Nat)(b:Nat)(B:b<2){row:Bs}(h:n / 8<row.length):row.set (n / 8) (row.getD (n / 8) 0 ||| (if b=1 then zW 8 (2 ^ (7 - n % 8)) else (0:Byte)))=Aud.under n (b == 1) row:=by
 unfold Aud.under
 by_cases A:b=1
 ·subst A;rfl
 ·rw[if_neg A,show row.getD (n / 8) 0 ||| (0:Byte)=row.getD (n / 8) 0 from BitVec.or_zero,qQw 0 h,List.set_getElem_self]
  have:(b == 1)=false:=by simpa using A
  rw[this];rfl
theorem rowUnder (w0:World)(n:Nat)(hn:n<256){row:Bs}(H:row.length=32)(b:Nat)(O:b<2) :
  Fn prog 185 #[.agg (rwC n row).toArray,.int .i64 (b:Nat)] w0 fun v w'=>v=.agg (rwC (n+1) (Aud.under n (b == 1) row)).toArray/\No w0 w':=by
 refine go185 sm ?_;obtain⟨W,Y,Z,k1,k2,s1⟩:=qJq w0 (rwC n row).toArray 158 (rwC 0 z32).toArray 158;have zz:#[.int .i64 0]++bl (zG 32 0)=(rwC 0 z32).toArray:=x9
 have hq:n / 8<32:=x8
 have A:W.drew.heap[w0.heap.size]?=some (.cells (rwC n row).toArray 158 (0,0)):=k1;have r0:rdO prog 3 W.drew w0.heap.size 0=some (.int .i64 (n:Nat)):=rd1 (w:=W.drew) agg3 A rfl
 have r1:rdO prog 5 W.drew w0.heap.size (1+n / 8)=some (.int .u8 ((row.getD (n / 8) 0).toNat:Int)):=by
  refine rd1 (w:=W.drew) agg5 A ?_;rw[zJ,rwC,Nat.add_comm 1,List.getElem?_cons_succ,List.getElem?_map,zZ x8,qQw 0 x8];rfl
 have c1:IntKind.i64.wrap ((n:Int).tdiv 8)=((n / 8:Nat):Int):=by
  have:(n:Int).tdiv 8=((n / 8:Nat):Int):=rfl;rw[this,qQr x8 x8]
 have c2:(n:Int).tmod 8=((n % 8:Nat):Int):=rfl;have c3:IntKind.i64.wrap (7 - ((n % 8:Nat):Int))=((7 - n % 8:Nat):Int):=by rw[qQr x8 x8];omega
 have I:((8:Int)=0)=False:=sm
 have y1:(0:Int)<=((n / 8:Nat):Int)/\((n / 8:Nat):Int)<((32:Nat):Int):=x8
 have w8:IntKind.u8.wrap (b:Int)=(b:Int):=by rw[wrap_u8];omega
 have n0:¬ (((7 - n % 8:Nat):Int)<0):=x8
 obtain⟨x,T⟩:∃ x,shlK .u8 (b:Int) ((7 - n % 8:Nat):Int)=x:=⟨_,rfl⟩
 have J:=T.symm.trans (shl8 b (7 - n % 8) O x8)
 obtain⟨y,U⟩:∃ y,orK .u8 ((row.getD (n / 8) 0).toNat:Int) x=y:=⟨_,rfl⟩
 have L:y=(((row.getD (n / 8) 0) ||| (if b=1 then zW 8 (2 ^ (7 - n % 8)) else (0:Byte))).toNat:Int):=by rw[<- U,J,or8]
 have V:=wr1 (P:=prog) (t:=5) (w:=W.drew) (o:=1+n / 8) (v:=.int .u8 y) sz5 rfl A (by simp[rwC,H];omega)
 have eS:(rwC n row).toArray.setIfInBounds (1+n / 8) (.int .u8 y)=(rwC n (Aud.under n (b == 1) row)).toArray:=by
  rw[<- under_eq n b O x8,L];apply Array.toList_inj.1;rw[vE];show (rwC n row).set (1+n / 8) _=_;rw[rwC,Nat.add_comm 1,List.set_cons_succ,rwC,List.map_set]
 rw[eS]at V;have B:(Aud.under n (b == 1) row).length=32:=by unfold Aud.under;split;rw[jM];exact H;exact H
 have M:=qQd (o:=.cells (rwC n (Aud.under n (b == 1) row)).toArray 158 (0,0)) A;have N:=qQh (w:=W.drew) (b:=w0.heap.size) (o:=.cells (rwC n (Aud.under n (b == 1) row)).toArray 158 (0,0)) (show W.drew.heap[w0.heap.size+1]?=_ from k2) x8;have f3:=Z.drew.put (b:=w0.heap.size) (.cells (rwC n (Aud.under n (b == 1) row)).toArray 158 (0,0)) fun h=>absurd h (yZ _);generalize hR:Aud.under n (b == 1) row=R at *;have c4:=iSu (i:=n);have r4:rdO prog 3 (put W.drew w0.heap.size (.cells (rwC n R).toArray 158 (0,0))) w0.heap.size 0=some (.int .i64 (n:Nat)):=rd1 agg3 M rfl
 have q2:wrO prog 3 (put W.drew w0.heap.size (.cells (rwC n R).toArray 158 (0,0))) w0.heap.size 0 (.int .i64 ((n+1:Nat):Int))=some (put (put W.drew w0.heap.size (.cells (rwC n R).toArray 158 (0,0))) w0.heap.size (.cells (rwC (n+1) R).toArray 158 (0,0))) :=
  wr_one (a:=[]) (r:=R.map u8) sz3 rfl M rfl
 have k5:=qQd (o:=.cells (rwC (n+1) R).toArray 158 (0,0)) M;have D:=qQh (b:=w0.heap.size) (o:=.cells (rwC (n+1) R).toArray 158 (0,0)) N x8;have f5:=f3.put (b:=w0.heap.size) (.cells (rwC (n+1) R).toArray 158 (0,0)) fun h=>absurd h (yZ _);have l5:=qQm (P:=prog) (t:=158) agg158 sz158 k5 (by simp[rwC,B]);have q6:=qQo (P:=prog) (t:=158) (vs:=(rwC (n+1) R).toArray) (by simp[rwC,B];exact sz158) D (by simp[rwC,B]) (by simpa using rwC_one (n+1) R);have k6:=qQd (o:=.cells (rwC (n+1) R).toArray 158 (0,0)) D;have l6:=qQm (P:=prog) (t:=158) agg158 sz158 k6 (by simp[rwC,B]);simp -implicitDefEqProofs only[go_sem,j7,yU,jV,qQk,Tryz.f185,zz,Y,r0,c1,c2,c3,I,if_false,y1,and_self,if_true,iTn,j8,r1,w8,n0,T,U,V,r4,c4,q2,l5,q6,l6];exact f5.put (b:=w0.heap.size+1) _ fun h=>by omega
end A
end
section
namespace A
open Aud
abbrev RK:=Nat × Bs
abbrev encR:RK->Value:=fun k=>.agg (rwC k.1 k.2).toArray
abbrev okR:RK->Prop:=fun k=>k.2.length=32
abbrev encK:Bs->Value:=fun d=>dg d
abbrev okK:Bs->Prop:=fun d=>d.length=32
theorem strRw:strucO prog 158=some [(false,3,0),(false,76,1)]:=x9
theorem stRw:prog.stoodInHeld 158=false:=x9
theorem rwC_ext (h:r.length=32):(rwC n r).toArray.extract 1 (1+32)=(r.map u8).toArray:=by
 apply Array.toList_inj.1;simp[rwC];exact zB (by simp[h])
theorem keyR:KeyT prog 158 encR okR where
 eq a b ha hb:=by
  show eqV prog Op.maxDepth 158 (.agg (rwC a.1 a.2).toArray) (.agg (rwC b.1 b.2).toArray)=_;rw[show Op.maxDepth=9997+1+1+1 from rfl,eqV_st strRw stRw];have g:∀ {n:Nat} {r:Bs},(rwC n r).toArray[0]?=some (.int .i64 (n:Nat)):=fun {n r}=>rfl;simp only[List.mapM_cons,List.mapM_nil,qWb agg3,part_agg agg76 sz76,qP,if_false,rwC_ext ha,rwC_ext hb,g,qV,eqV_i int3,eqV_dg arr76 int5 sz5 agg5 ha hb,Option.pure_def,Option.bind_eq_bind,Option.map_some,vJ,vV,id,y9]
  congr 1
  obtain⟨a1,a2⟩:=a;obtain⟨b1,b2⟩:=b;rw[Bool.eq_iff_iff]
  simp
 ck a ha:=by
  show ckV prog (9997+1+1+1) 158 (.agg (rwC a.1 a.2).toArray)=true;rw[ckV_st strRw];have g:(rwC a.1 a.2).toArray[0]?=some (.int .i64 (a.1:Nat)):=rfl;simp only[vJ,vV,qP,if_false,qWb agg3,part_agg agg76 sz76,rwC_ext ha,g,ckV_i int3,y9,Bool.true_and];exact ckV_dg arr76 int5 sz5 agg5 ha _
 same a _:=sameAgg fun x hx=>by
  simp only[rwC,List.mem_cons,List.mem_map]at hx
  rcases hx with rfl | ⟨y,_,rfl⟩
  ·exact same_int _ _ _
  ·exact same_int _ _ _
theorem keyK:KeyT prog 76 encK okK:=keyDg arr76 int5 sz5 agg5
def MpO {A:Type}(enc:A->Value)(ok:A->Prop)(w:World)(o:Option Nat)(l:List (A × Value)):Prop:=match o with
 | none=>l=[]
 | some b=>Mp enc ok w b l
theorem MpO.fr {A:Type}{enc:A->Value}{ok:A->Prop}{o:Option Nat}{l:List (A × Value)}(h:MpO enc ok w o l)(f:Fr F w w')(B:∀ b,o=some b->¬ F b):MpO enc ok w' o l:=by
 cases o with
 | none=>exact h
 | some b=>exact Mp.fr h f (B b rfl)
theorem MpO.look {A:Type}[DecidableEq A]{enc:A->Value}{ok:A->Prop}{B:TypeId}(D:KeyT prog B enc ok){o:Option Nat}{l:List (A × Value)}(h:MpO enc ok w o l){k:A}(H:ok k){t I:TypeId}(J:mapO prog t=some (B, I)){z:Value}(L:zeroO prog I=some z) :
  lookO prog t w (.map o) (enc k)=some ((findM l k).getD z,(findM l k).isSome):=by
 cases o with
 | none=>rw[show l=[] from h,look_nil D H J L];rfl
 | some b=>exact Mp.look D h H J L
structure Cx where
 u:World
 sb:Nat
 iv:Value
 im:Bs
 s:Sup
 mn:Nat
 mr:Nat
 cv:Value
 vv:Value
 nl:List (Nat × Value)
 rl:List (Nat × Value)
 pg:Nat->Option Pg
 pb:Nat
 ob:Nat
 nb:Nat
 oR:Option Nat
 oL:Option Nat
 ro:List (RK × Value)
 lo:List (Bs × Value)
 nR:Nat
 nL:Nat
 fresh:Nat
 fs:List (Nat × Int)
structure Cx.Ok (c:Cx):Prop where
 tabs:Tabs c.u
 hRL:c.nR≠c.nL
 hRn:c.nR≠c.mn/\c.nR≠c.mr
 hLn:c.nL≠c.mn/\c.nL≠c.mr
 hoR:∀ b,c.oR=some b->b≠c.nR/\b≠c.nL
 hoL:∀ b,c.oL=some b->b≠c.nR/\b≠c.nL
 hpb:c.u.heap.size<=c.pb
 hsb:c.u.heap.size<=c.sb
 hnR:c.u.heap.size<=c.nR
 hnL:c.u.heap.size<=c.nL
 hiv:∀ b,qQf c.iv=some b->b<c.u.heap.size
 hm:c.s.mark<=4096
 hpg:∀ p,c.s.mark<=p->c.pg p=none
 hnd:∀ p n,c.pg p=some (.nd n)->2<=p/\n.right
 hf:c.fresh<=4096
 hfs:c.fs.length<=2 ^ 20
def SgX (c:Cx)(w:World)(fs:List (Nat × Int)):Prop:=∃ fv bv,SgM c.u w c.sb c.iv c.im c.s c.mn c.mr c.cv c.vv fv bv c.nl c.rl c.pg c.s.mark fs/\Blank c.u w c.s.width bv
abbrev paC (c:Cx)(next:Nat):Array Value:=#[pt c.sb 0,pt c.ob 0,pt c.nb 0,.int .i64 (c.fresh:Nat),.int .i64 (next:Nat)]
structure PassM (c:Cx) (w:World) (next:Nat) (rows:List (RK × Value)) (lvs:List (Bs × Value)):Prop where
 sg:SgX c w c.fs
 pass:w.heap[c.pb]?=some (.cells (paC c next) 213 (0,0))
 old:w.heap[c.ob]?=some (.cells #[.map c.oR,.map c.oL] 155 (0,0))
 now:w.heap[c.nb]?=some (.cells #[.map (some c.nR),.map (some c.nL)] 155 (0,0))
 oldR:MpO encR okR w c.oR c.ro
 oldL:MpO encK okK w c.oL c.lo
 nowR:Mp encR okR w c.nR rows
 nowL:Mp encK okK w c.nL lvs
 no:No c.u w
def PaB (c:Cx)(b:Nat):Prop:=b=c.sb∨b=c.pb∨b=c.nR∨b=c.nL
section
variable {u w w':World} {sb:Nat} {iv:Value} {im:Bs} {s:Sup} {mn mr:Nat} {cv vv fv bv:Value} {nl rl:List (Nat × Value)} {pg:Nat->Option Pg} {k:Nat} {fs:List (Nat × Int)}
theorem SgM.fr (h:SgM u w sb iv im s mn mr cv vv fv bv nl rl pg k fs)(f:Fr F w w')(N:∀ b, F b->u.heap.size<=b)(hiv:∀ b, qQf iv=some b->b<u.heap.size)(M:¬ F mn/\¬ F mr)
  (L:∀ b c J,w.heap[b]?=some (.cells c J (0,0))->F b->J≠3/\J≠5/\J≠43) {A B:Value} (O:w'.heap[sb]?=some (.cells (sgC iv s mn mr cv A fv B) 73 (0,0))) (R:one A=true) (T:one B=true):SgM u w' sb iv im s mn mr cv A fv B nl rl pg k fs :=
 ⟨O,h.img.fr f (fun b D _ H=>by have:=hiv b D;have:=N b H;omega),h.nds.fr f M.1,h.rcs.fr f M.2,h.hne,h.hsb,h.hmn,h.hmr,
  h.chn.fr f (fun b D H=>by obtain⟨c,I⟩:=qQz h.chn D;exact (L _ _ _ I H).1 rfl),h.fnd.fr f (fun b D H=>by obtain⟨c,I⟩:=qQz h.fnd D;exact (L _ _ _ I H).2.2 rfl),h.na.fr f (fun b c D H=>(L _ _ _ D H).2.1 rfl),h.ra,R,T⟩
end
section
variable {c:Cx} {w w':World} {next:Nat} {rows:List (RK × Value)} {lvs:List (Bs × Value)}
theorem PassM.fr0 (h:PassM c w next rows lvs)(f:No w w'):PassM c w' next rows lvs:=by
 obtain⟨fv,bv,A,B⟩:=h.sg;exact⟨⟨fv,bv,A.fr0 f,B.fr f fun _ _ _ _ _ h=>h⟩,f.at h.pass id,f.at h.old id,f.at h.now id,h.oldR.fr f fun _ _ h=>h,h.oldL.fr f fun _ _ h=>h,h.nowR.fr0 f,h.nowL.fr0 f,h.no.trans f⟩
theorem PassM.srow (h:PassM c w next rows lvs):∃ fv bv,SgM c.u w c.sb c.iv c.im c.s c.mn c.mr c.cv c.vv fv bv c.nl c.rl c.pg c.s.mark c.fs/\Blank c.u w c.s.width bv/\SRow c.u w c.sb c.iv c.s c.mn c.mr c.cv c.vv fv (fun _=>False):=by
 obtain⟨fv,bv,A,B⟩:=h.sg;exact⟨fv,bv,A,B,bv,A.row,B,fun _ _ h=>h⟩
theorem PassM.dig (h:PassM c w next rows lvs)(I:c.Ok){fv bv:Value}(A:SgM c.u w c.sb c.iv c.im c.s c.mn c.mr c.cv c.vv fv bv c.nl c.rl c.pg c.s.mark c.fs)(f:Fr (fun b=>b=c.sb) w w')(O:SRow c.u w' c.sb c.iv c.s c.mn c.mr c.cv c.vv fv (fun _=>False)):PassM c w' next rows lvs:=by
 obtain⟨J,R,M,_⟩:=O;have L:∀ {b c' D},w.heap[b]?=some (.cells c' D (0,0))->D≠73->b≠c.sb:=fun {b c' D} B T e=>by subst e;rw[A.row]at B;cases B;exact T rfl
 have ms:∀ {H:Type} {enc:H->Value} {ok:H->Prop} {b:Nat} {l:List (H × Value)},Mp enc ok w b l->b≠c.sb:=fun {H enc ok b l} U e=>by
  obtain⟨V,W,N,_⟩:=U;subst e;rw[A.row]at N;cases N
 refine⟨⟨fv,J,A.fr f (fun b e=>by subst e;exact I.hsb) I.hiv ⟨ms A.nds,ms A.rcs⟩ (fun b c' D B e=>?_) R A.ov M.one,M⟩,f.at h.pass (L h.pass j0),f.at h.old (L h.old j0),f.at h.now (L h.now j0),h.oldR.fr f fun b e=>?_,h.oldL.fr f fun b e=>?_,h.nowR.fr f (ms h.nowR),h.nowL.fr f (ms h.nowL),h.no.trans' f fun b B e=>by subst e;have:=I.hsb;omega⟩
 ·subst e;rw[A.row]at B;cases B;exact⟨j0,j0,j0⟩
 ·have:=h.oldR;rw[e]at this;exact ms this
 ·have:=h.oldL;rw[e]at this;exact ms this
theorem PassM.step (h:PassM c w next rows lvs)(J:c.Ok)(L:Nat)(f:Fr (fun b=>b=c.pb) w w')(N:w'.heap[c.pb]?=some (.cells (paC c L) 213 (0,0))):PassM c w' L rows lvs:=by
 obtain⟨fv,bv,B,A⟩:=h.sg;have D:∀ {b c' H},w.heap[b]?=some (.cells c' H (0,0))->H≠213->b≠c.pb:=fun {b c' H} A O e=>by subst e;rw[h.pass]at A;cases A;exact O rfl
 have ms:∀ {I:Type} {enc:I->Value} {ok:I->Prop} {b:Nat} {l:List (I × Value)},Mp enc ok w b l->b≠c.pb:=fun {I enc ok b l} R e=>by
  obtain⟨T,U,M,_⟩:=R;subst e;rw[h.pass]at M;cases M
 refine⟨⟨fv,bv,B.fr f (fun b e=>by subst e;exact J.hpb) J.hiv ⟨ms B.nds,ms B.rcs⟩ (fun b c' H A e=>?_) (f.at B.row (D B.row j0)) B.ov B.ob,A.fr f fun b c' A _ _ e=>D A j0 e⟩,N,f.at h.old (D h.old j0),f.at h.now (D h.now j0),h.oldR.fr f fun b e=>?_,h.oldL.fr f fun b e=>?_,h.nowR.fr f (ms h.nowR),h.nowL.fr f (ms h.nowL),h.no.trans' f fun b A e=>by subst e;have:=J.hpb;omega⟩
 ·subst e;rw[h.pass]at A;cases A;exact⟨j0,j0,j0⟩
 ·have:=h.oldR;rw[e]at this;exact ms this
 ·have:=h.oldL;rw[e]at this;exact ms this
theorem PassM.putR (h:PassM c w next rows lvs)(B:c.Ok)(M:r.length=32)(p:Nat):∃ D,putE prog 158 w.heap[c.nR]? (.agg (rwC n r).toArray) (.int .i64 (p:Nat))=some D/\PassM c (put w c.nR D) next (insM rows (n,r) (.int .i64 (p:Nat))) lvs/\Fr (fun b=>b=c.nR) w (put w c.nR D):=by
 obtain⟨fv,bv,I,A⟩:=h.sg;obtain⟨D,N,O,R⟩:=h.nowR.put keyR (k:=(n,r)) M (.int .i64 (p:Nat));have f:Fr (fun b=>b=c.nR) w (put w c.nR D):=(Fr.refl _ _).put (b:=c.nR) D (fun _=>rfl) O;obtain⟨T,U,L,_⟩:=id h.nowR;have H:∀ {b c' J},w.heap[b]?=some (.cells c' J (0,0))->b≠c.nR:=fun {b c' J} A e=>by subst e;rw[L]at A;cases A
 refine⟨D,N,⟨⟨fv,bv,I.fr f (fun b e=>by subst e;exact B.hnR) B.hiv ⟨fun e=>B.hRn.1 e.symm,fun e=>B.hRn.2 e.symm⟩ (fun b c' J A e=>absurd e (H A)) (f.at I.row (H I.row)) I.ov I.ob,A.fr f fun b c' A _ _ e=>H A e⟩,f.at h.pass (H h.pass),f.at h.old (H h.old),f.at h.now (H h.now),h.oldR.fr f fun b e=>(B.hoR b e).1,h.oldL.fr f fun b e=>(B.hoL b e).1,R _ (qQd L),h.nowL.fr f fun e=>B.hRL e.symm,h.no.trans' f fun b A e=>by subst e;have:=B.hnR;omega⟩,f⟩
theorem PassM.putL (h:PassM c w next rows lvs)(B:c.Ok)(M:k.length=32)(p:Nat):∃ D,putE prog 76 w.heap[c.nL]? (dg k) (.int .i64 (p:Nat))=some D/\PassM c (put w c.nL D) next rows (insM lvs k (.int .i64 (p:Nat)))/\Fr (fun b=>b=c.nL) w (put w c.nL D):=by
 obtain⟨fv,bv,I,A⟩:=h.sg;obtain⟨D,N,O,R⟩:=h.nowL.put keyK (k:=k) M (.int .i64 (p:Nat));have f:Fr (fun b=>b=c.nL) w (put w c.nL D):=(Fr.refl _ _).put (b:=c.nL) D (fun _=>rfl) O;obtain⟨T,U,L,_⟩:=id h.nowL;have H:∀ {b c' J},w.heap[b]?=some (.cells c' J (0,0))->b≠c.nL:=fun {b c' J} A e=>by subst e;rw[L]at A;cases A
 refine⟨D,N,⟨⟨fv,bv,I.fr f (fun b e=>by subst e;exact B.hnL) B.hiv ⟨fun e=>B.hLn.1 e.symm,fun e=>B.hLn.2 e.symm⟩ (fun b c' J A e=>absurd e (H A)) (f.at I.row (H I.row)) I.ov I.ob,A.fr f fun b c' A _ _ e=>H A e⟩,f.at h.pass (H h.pass),f.at h.old (H h.old),f.at h.now (H h.now),h.oldR.fr f fun b e=>(B.hoR b e).2,h.oldL.fr f fun b e=>(B.hoL b e).2,h.nowR.fr f B.hRL,R _ (qQd L),h.no.trans' f fun b A e=>by subst e;have:=B.hnL;omega⟩,f⟩
end
end A
end
section
namespace A
open Aud
theorem zNode:zeroO prog 78=some (.agg nd0.toArray):=x9
def stC (page by' count:Nat)(sum:Bs):List Value:=[.int .i64 (page:Nat),.int .i64 (by':Nat),.int .i64 (count:Nat)]++sum.map u8
def ndsP (pg:Nat->Option Pg)(p:Nat):Option Nd:=match pg p with
 | some (.nd n)=>some n
 | _=>none
theorem qJx {pg:Nat->Option Pg}{n:Nd}:ndsP pg p=some n ↔ pg p=some (.nd n):=by
 unfold ndsP;split
 ·rename_i m h;rw[h];exact⟨(fun e=>by cases e;rfl),(fun e=>by cases e;rfl)⟩
 ·rename_i h;exact⟨(fun e=>by cases e),fun e=>absurd e (h n)⟩
section
variable {c:Cx} {w w':World} {next:Nat} {rows:List (RK × Value)} {lvs:List (Bs × Value)}
theorem PassM.ndS (h:PassM c w next rows lvs)(B:c.Ok){n:Nd}(A:ndsP c.pg p=some n):∃ vv,lookO prog 68 w (.map (some c.mn)) (.int .i64 (p:Nat))=some (.agg (ndA n vv).toArray,true)/\one vv=true/\NwB c.u w vv (ndVal n)/\n.right/\2<=p/\(n.kind=2->vv=.slice none 0 0):=by
 obtain⟨fv,bv,H,_⟩:=h.sg;have A:=qJx.1 A;have I:=H.na p
 have D:p<c.s.mark:=by
  by_cases L:p<c.s.mark
  ·exact L
  ·rw[B.hpg p x8]at A;cases A
 rw[if_pos D,A]at I;obtain⟨x,a,vv,e,M,N,O⟩:=I;have J:=H.nds.look keyN (k:=p) trivial map68 zNode;rw[a,e]at J;exact⟨vv,J,M,N,(B.hnd p n A).2,(B.hnd p n A).1,O⟩
theorem PassM.ndN (h:PassM c w next rows lvs)(I:c.Ok)(A:ndsP c.pg p=none):lookO prog 68 w (.map (some c.mn)) (.int .i64 (p:Nat))=some (.agg nd0.toArray,false):=by
 obtain⟨fv,bv,B,_⟩:=h.sg;have D:=B.na p;have H:=B.nds.look keyN (k:=p) trivial map68 zNode
 have:findM c.nl p=none:=by
  split at D
  ·rename_i n e
   split at e
   ·rw[qJx.2 e]at A;cases A
   ·cases e
  ·exact D
 rw[this]at H;exact H
theorem PassM.rds (h:PassM c w next rows lvs):rdO prog 63 w c.pb 0=some (pt c.sb 0)/\rdO prog 68 w c.sb 6=some (.map (some c.mn))/\rdO prog 156 w c.pb 2=some (pt c.nb 0)/\rdO prog 156 w c.pb 1=some (pt c.ob 0) /\
  rdO prog 152 w c.nb 0=some (.map (some c.nR))/\rdO prog 153 w c.nb 1=some (.map (some c.nL))/\rdO prog 152 w c.ob 0=some (.map c.oR)/\rdO prog 153 w c.ob 1=some (.map c.oL)/\rdO prog 3 w c.pb 3=some (.int .i64 (c.fresh:Nat))/\rdO prog 3 w c.pb 4=some (.int .i64 (next:Nat)):=by
 obtain⟨fv,bv,A,_⟩:=h.sg;exact⟨rd1 agg63 h.pass rfl,rd1 agg68 A.row rfl,rd1 agg156 h.pass rfl,rd1 agg156 h.pass rfl,rd1 agg152 h.now rfl,rd1 agg153 h.now rfl,rd1 agg152 h.old rfl,rd1 agg153 h.old rfl,rd1 agg3 h.pass rfl,rd1 agg3 h.pass rfl⟩
end
theorem rdLf {k v:Bs}(A:k.length=32)(h:w.heap[b]?=some (.cells (ndA (.leaf k v) vv).toArray 78 (0,0))):rdO prog 3 w b 0=some (.int .i64 1)/\rdO prog 3 w b 1=some (.int .i64 0)/\rdO prog 3 w b 2=some (.int .i64 0)/\rdO prog 76 w b 69=some (dg k)/\rdO prog 22 w b 101=some vv:=by
 refine⟨rd1 agg3 h rfl,rd1 agg3 h rfl,rd1 agg3 h rfl,?_,rd1 agg22 h ?_⟩
 ·refine qKb (e:=78) (fz:=(0,0)) (a:=[.int .i64 1,.int .i64 0,.int .i64 0,.int .i64 0,.int .i64 0]++z32.map u8++z32.map u8) (m:=k.map u8) (r:=[vv]) agg76 (by simp[A];exact sz76) (by simp[A]) ?_ sm
  rw[h];rfl
 ·rw[zJ]
  show ([.int .i64 1,.int .i64 0,.int .i64 0,.int .i64 0,.int .i64 0]++z32.map u8++z32.map u8++k.map u8++[vv])[101]?=_;rw[jR (by simp[A])];simp[A]
theorem rdBr {b B D lc rc:Nat}(A:ls.length=32)(hrs:rs.length=32)(h:w.heap[b]?=some (.cells (ndA (.br B D lc rc ls rs) vv).toArray 78 (0, 0))):rdO prog 3 w b 0=some (.int .i64 2)/\rdO prog 3 w b 1=some (.int .i64 (B:Nat))/\rdO prog 3 w b 2=some (.int .i64 (D:Nat))/\rdO prog 3 w b 3=some (.int .i64 (lc:Nat))/\rdO prog 3 w b 4=some (.int .i64 (rc:Nat)) /\
  rdO prog 75 w b 5=some (dg ls)/\rdO prog 75 w b 37=some (dg rs):=by
 refine⟨rd1 agg3 h rfl,rd1 agg3 h rfl,rd1 agg3 h rfl,rd1 agg3 h rfl,rd1 agg3 h rfl,?_,?_⟩
 ·refine qKb (e:=78) (fz:=(0,0)) (a:=[.int .i64 2,.int .i64 (B:Nat),.int .i64 (D:Nat),.int .i64 (lc:Nat),.int .i64 (rc:Nat)]) (m:=ls.map u8) (r:=rs.map u8++z32.map u8++[vv]) agg75 (by simp[A];exact sz75) (by simp[A]) ?_ sm
  rw[h];simp only[ndA,ndC,zU];rfl
 ·refine qKb (e:=78) (fz:=(0,0)) (a:=[.int .i64 2,.int .i64 (B:Nat),.int .i64 (D:Nat),.int .i64 (lc:Nat),.int .i64 (rc:Nat)]++ls.map u8) (m:=rs.map u8) (r:=z32.map u8++[vv]) agg75 (by simp[hrs];exact sz75) (by simp[hrs]) ?_ (by simp[A])
  rw[h];simp only[ndA,ndC,zU];rfl
theorem rdRw {row:Bs}(A:row.length=32)(h:w.heap[b]?=some (.cells (rwC n row).toArray 158 (0,0))):rdO prog 3 w b 0=some (.int .i64 (n:Nat))/\rdO prog 76 w b 1=some (dg row)/\rdO prog 158 w b 0=some (.agg (rwC n row).toArray) :=
 ⟨rd1 agg3 h rfl,qKb (e:=158) (fz:=(0,0)) (a:=[.int .i64 (n:Nat)]) (m:=row.map u8) (r:=[]) agg76 (by simp[A];exact sz76) (by simp[A]) (by rw[h,rwC,z4];rfl) rfl,qQm (P:=prog) agg158 sz158 h (by simp[rwC,A])⟩
theorem qJm {n:Nd}(h:n.right)(vv:Value):(ndA n vv).length=102:=by
 cases n with
 | leaf k v=>exact qQu z32l z32l h.1 _
 | br A B lc rc ls rs=>exact qQu h.2.1 h.2.2 z32l _
theorem ndA_one {n:Nd}(h:one vv=true):(ndA n vv).all one=true:=by
 cases n with
 | leaf k v=>exact qXz _ _ _ _ _ _ _ _ h
 | br A B lc rc ls rs=>exact qXz _ _ _ _ _ _ _ _ h
theorem natlt (a b:Nat):decide (((a:Nat):Int)<((b:Nat):Int))=decide (a<b):=sm
theorem natle (a b:Nat):decide (((a:Nat):Int)<=((b:Nat):Int))=decide (a<=b):=sm
section
variable {c:Cx} {w w':World} {next:Nat} {rows:List (RK × Value)} {lvs:List (Bs × Value)}
theorem links (h:PassM c w next rows lvs)(hk:c.Ok){row:Bs}(hr:row.length=32)(page by' count:Nat)(sum:Bs) :
  Fn prog 161 #[pt c.pb 0,.agg (stC page by' count sum).toArray,.agg (rwC n row).toArray] w fun v w'=>v=.bool (Aud.linked (ndsP c.pg) n row page by' count).isSome/\No w w':=by
 refine go161 sm ?_;generalize B:(Aud.linked (ndsP c.pg) n row page by' count).isSome=R;obtain⟨W,hW,M,k1,k2,N⟩:=qJq w (stC page by' count sum).toArray 217 (rwC n row).toArray 158;simp only[go_sem,j7,vS,yU,jV,Tryz.f161,hW];refine qXj (fun j=>j == 13) (.row [0,1,2,7,3,4,5,6,8,9,10,11,12,13,14,15]) rfl x9 x9 ?_;have M:=M.drew;have k1:W.drew.heap[w.heap.size]?=_:=k1;have k2:W.drew.heap[w.heap.size+1]?=_:=k2;have N:W.drew.heap.size=w.heap.size+2:=N;generalize W.drew=W1 at *;have hP:=h.fr0 M;have b0:rdO prog 3 W1 w.heap.size 0=some (.int .i64 (page:Nat)):=rd1 agg3 k1 rfl;obtain⟨O,T,U,k3,s2⟩:=qQl W1 nd0.toArray 78;rw[N]at k3;have e2:=U.ext;obtain⟨p0,p1,_⟩:=hP.rds;have zz:#[.int .i64 0,.int .i64 0,.int .i64 0,.int .i64 0,.int .i64 0]++bl (zG 96 0)++#[.slice none 0 0]=nd0.toArray:=qKk
 cases V:ndsP c.pg page with
 | none =>
  have lk:=hP.ndN hk V;have q3:wrO prog 78 O (w.heap.size+2) 0 (.agg nd0.toArray)=some (put O (w.heap.size+2) (.cells nd0.toArray 78 (0,0))):=qQo (by exact sz78) k3 rfl (by simpa using qXz 0 0 0 0 0 z32 z32 z32 rfl);simp only[go_sem,j7,yX,yU,bSe,qXd,xH,jV,qQk,OT.row,p0,p1,b0,lk,zz,T,N,q3,e2,implies_true];refine⟨?_,(M.trans U).put (b:=w.heap.size+2) _ fun h=>by omega⟩;rw[<- B];unfold Aud.linked;rw[V];rfl
 | some nd =>
  obtain⟨vv,lk,ov,nb,A,_,_⟩:=hP.ndS hk V;have q3:wrO prog 78 O (w.heap.size+2) 0 (.agg (ndA nd vv).toArray)=some (put O (w.heap.size+2) (.cells (ndA nd vv).toArray 78 (0,0))):=qQo (by simp[qJm A];exact sz78) k3 (by simp[qJm A,qQu z32l z32l z32l]) (by simpa using ndA_one ov);have I:=(M.trans U).put (b:=w.heap.size+2) (.cells (ndA nd vv).toArray 78 (0,0)) fun h=>by omega
  have g1:=qQh (b:=w.heap.size+2) (o:=.cells (ndA nd vv).toArray 78 (0,0)) (U.at k1 id) x8;have g2:=qQh (b:=w.heap.size+2) (o:=.cells (ndA nd vv).toArray 78 (0,0)) (U.at k2 id) x8;have g3:=qQd (o:=.cells (ndA nd vv).toArray 78 (0,0)) k3;simp only[go_sem,j7,yX,yU,bSe,y8,jV,qQk,OT.row,p0,p1,b0,lk,zz,T,N,q3,e2,implies_true];generalize put O (w.heap.size+2) (.cells (ndA nd vv).toArray 78 (0,0))=J at *;have Y:rdO prog 3 J w.heap.size 0=some (.int .i64 (page:Nat)):=rd1 agg3 g1 rfl;have c1:rdO prog 3 J w.heap.size 1=some (.int .i64 (by':Nat)):=rd1 agg3 g1 rfl;have c2:rdO prog 3 J w.heap.size 2=some (.int .i64 (count:Nat)):=rd1 agg3 g1 rfl;have gl:=natle by' page
  cases nd with
  | leaf k v =>
   obtain⟨d0,d1,d2,L,d4⟩:=rdLf A.1 g3;obtain⟨Z,t1,t2⟩:=rdRw hr g2
   have B:R=decide (page<by'/\count=1/\n<=common k row):=by
    rw[<- B];unfold Aud.linked;rw[V];show (if page<by'/\count=1/\n<=common k row then some (Nd.leaf k v) else none).isSome=_;split
    ·rename_i h;exact (decide_eq_true h).symm
    ·rename_i h;exact (decide_eq_false h).symm
   by_cases hb:by'<=page
   ·rw[decide_eq_true hb]at gl
    simp only[go_sem,j7,bSe,jV,Y,c1,gl];exact⟨by rw[B,decide_eq_false x8],I⟩
   ·rw[decide_eq_false hb]at gl
    have D:((count:Int) == 1)=decide (count=1):=nateq count 1;simp only[go_sem,j7,bSe,jV,Y,c1,gl,d0];refine qXj (fun j=>j == 8) (.row [0,1,2,3,4,6,9,5,7,10,8,11,12,13]) rfl x9 x9 ?_;have I:=I.drew;have c2:rdO prog 3 J.drew w.heap.size 2=some (.int .i64 (count:Nat)):=c2;have L:rdO prog 76 J.drew (w.heap.size+2) 69=some (dg k):=L;have Z:rdO prog 3 J.drew (w.heap.size+1) 0=some (.int .i64 (n:Nat)):=Z;have t1:rdO prog 76 J.drew (w.heap.size+1) 1=some (dg row):=t1;generalize J.drew=W4 at *
    by_cases H:count=1
    ·rw[decide_eq_true H]at D
     simp only[go_sem,j7,yX,bSe,jV,OT.row,c2,D,L,Z,t1];refine qQc pl184 ((commonP W4 A.1 hr).mono ?_);rintro _ w5 ⟨rfl,f5⟩;refine⟨fun _=>f5.ext,?_⟩;have gd:=natle n (common k row);simp only[go_sem,j7,yX,bSe,gd];exact⟨by rw[B];congr 1;exact Bool.eq_iff_iff.2 ⟨fun h=>decide_eq_true ⟨x8,H,of_decide_eq_true h⟩,fun h=>decide_eq_true (of_decide_eq_true h).2.2⟩,I.trans f5⟩
    ·rw[decide_eq_false H]at D
     simp only[go_sem,j7,yX,qQq,jV,OT.row,c2,D];exact⟨by rw[B,decide_eq_false fun h=>H h.2.1],I⟩
  | br lp rp lc rc ls rs =>
   obtain⟨d0,d1,d2,L,d4,_⟩:=rdBr A.2.1 A.2.2 g3;obtain⟨Z,t1,t2⟩:=rdRw hr g2
   have B:R=decide (page<by'/\count=lc+rc/\n<256):=by
    rw[<- B];unfold Aud.linked;rw[V];show (if page<by'/\count=lc+rc/\n<256 then some (Nd.br lp rp lc rc ls rs) else none).isSome=_;split
    ·rename_i h;exact (decide_eq_true h).symm
    ·rename_i h;exact (decide_eq_false h).symm
   have a3:=A.1.2.2.2.2
   by_cases hb:by'<=page
   ·rw[decide_eq_true hb]at gl
    simp only[go_sem,j7,bSe,jV,Y,c1,gl];exact⟨by rw[B,decide_eq_false x8],I⟩
   ·rw[decide_eq_false hb]at gl
    have ga:IntKind.i64.wrap ((lc:Int)+(rc:Int))=((lc+rc:Nat):Int):=qXa (b:=rc);have D:=nateq count (lc+rc);have gd:decide ((n:Int)<256)=decide (n<256):=natlt n 256;have a0:((2:Int) == 1)=false:=rfl
    by_cases H:count=lc+rc
    ·rw[decide_eq_true H]at D
     simp only[go_sem,j7,bSe,jV,Y,c1,c2,gl,d0,a0,L,d4,ga,D,Z,gd];exact⟨by rw[B];congr 1;exact Bool.eq_iff_iff.2 ⟨fun h=>decide_eq_true ⟨x8,H,of_decide_eq_true h⟩,fun h=>decide_eq_true (of_decide_eq_true h).2.2⟩,I⟩
    ·rw[decide_eq_false H]at D
     simp only[go_sem,j7,bSe,qQq,jV,Y,c1,c2,gl,d0,a0,L,d4,ga,D];exact⟨by rw[B,decide_eq_false fun h=>H h.2.1],I⟩
end
end A
end
section
namespace R
open Aud A
theorem sameBytes (w0:World){a b:Bs}(A:By w0 av a)(B:By w0 bv b):Fn prog 139 #[av,bv] w0 fun v w'=>v=.bool (decide (a=b))/\w'=w0:=by
 refine go139 sm ?_;simp -implicitDefEqProofs only[go_sem,j7,Tryz.f139];refine qQj ⟨_,_,qVx A,?_⟩;simp -implicitDefEqProofs only[go_sem,j7];refine qQj ⟨_,_,qVx B,?_⟩;simp -implicitDefEqProofs only[go_sem,j7];rw[str_eq];exact⟨rfl,trivial⟩
theorem take_eq {α:Type}{a b:List α}(i:Nat)(A:i<a.length)(B:i<b.length)(h:a.take i=b.take i):a.take (i+1)=b.take (i+1) ↔ a[i]=b[i]:=by
 rw[tSg A,tSg B,h];constructor
 ·intro e
  have:=List.append_cancel_left e;simpa using this
 ·intro e;rw[e]
def smI (w0:World)(a b:Value)(xs A:List En)(n:Nat)(vs:List Value)(w:World):Prop :=
 ∃ (i:Nat),vs=[a,b,.int .i64 (i:Nat)]/\i<=xs.length/\n=xs.length - i/\xs.take i=A.take i/\No w0 w
theorem sameMap (w0:World){xs A:List En}(ha:EnR w0 av xs)(hb:EnR w0 bv A)(hl:xs.length<=2 ^ 40):Fn prog 135 #[av,bv] w0 fun v w'=>v=.bool (decide (xs=A))/\No w0 w':=by
 refine go135 sm ?_;obtain⟨aa,ac,rfl,a6⟩:=ha.slice;obtain⟨ba,bc,rfl,a7⟩:=hb.slice;have R:=natne xs.length A.length
 by_cases hne:xs.length=A.length
 case neg =>
  rw[decide_eq_true hne]at R;have e:decide (xs=A)=false:=decide_eq_false fun h=>hne (by rw[h]);simp -implicitDefEqProofs only[go_sem,j7,jV,Tryz.f135,R];exact⟨by rw[e],Fr.refl _ _⟩
 rw[decide_eq_false (not_not_intro hne)]at R;simp -implicitDefEqProofs only[go_sem,j7,jV,Tryz.f135,R];refine loopD [0,1,5] (smI w0 (.slice aa xs.length ac) (.slice ba A.length bc) xs A) xs.length ⟨0,rfl,x8,rfl,rfl,Fr.refl _ _⟩ ?_;rintro _ vs w g ⟨i,rfl,hi,rfl,W,T⟩;have Y:=natlt i xs.length
 by_cases D:i<xs.length
 ·rw[decide_eq_true D]at Y
  have y1:=iBd (i:=i) (n:=xs.length);have y2:=iBd (i:=i) (n:=A.length);have c1:=iSu (i:=i);obtain⟨b1,o1,a8,v1,e1,_,Z,a9,a0,I⟩:=ha.at D;cases e1;obtain⟨b2,o2,b0,v2,e2,_,a3,b3,a4,J⟩:=hb.at (show i<A.length by omega);cases e2;have B:No w0 w.drew:=T.drew;obtain⟨r1,b4,_⟩:=I w T;obtain⟨r2,b5,_⟩:=J w T;obtain⟨L,M,_⟩:=I w.drew B;obtain⟨N,O,_⟩:=J w.drew B;have eq:=eqKey Z a3;have a5:=take_eq i D x8 W
  by_cases U:xs[i].1=A[i].1
  ·have H:(xs[i].1 == A[i].1)=true:=beq_iff_eq.2 U
   simp -implicitDefEqProofs only[go_sem,j7,bSe,y8,yK,y1,y2,and_self,iTn,L,N,M,O,eq,H];refine qQa pl139 ((sameBytes w.drew (a0.fr0 B) (a4.fr0 B)).mono ?_);rintro _ w2 ⟨rfl,rfl⟩
   by_cases V:xs[i].2=A[i].2
   ·rw[decide_eq_true V]
    simp -implicitDefEqProofs only[go_sem,j7,bSe,y8,c1];exact⟨xs.length - (i+1),x8,i+1,rfl,x8,rfl,a5.2 (Prod.ext U V),B⟩
   ·rw[decide_eq_false V]
    have e:decide (xs=A)=false:=decide_eq_false fun h=>V (by simp only[h]);rw[e];simp -implicitDefEqProofs only[go_sem,j7,bSe,xH];exact B
  ·have H:(xs[i].1 == A[i].1)=false:=beq_eq_false_iff_ne.2 U
   have e:decide (xs=A)=false:=decide_eq_false fun h=>U (by simp only[h]);rw[e];simp -implicitDefEqProofs only[go_sem,j7,qXd,xH,yK,y1,y2,and_self,iTn,L,N,eq,H];exact B
 ·rw[decide_eq_false D]at Y
  have e:decide (xs=A)=true:=decide_eq_true (by
   rw[zB x8,zB x8]at W;exact W)
  simp -implicitDefEqProofs only[go_sem,j7,Y];exact⟨by rw[e],T⟩
theorem map_at {m:List En}(h:Map n m)(I:n<256)(hi:i<m.length):kbit m[i].1 n=decide ((m.filter fun x=>!kbit x.1 n).length<=i):=by
 have H:=h.split I;have A:=congrArg List.length H;rw[lAp]at A;have D:(m.filter (fun x=>!kbit x.1 n)++m.filter (fun x=>kbit x.1 n))[i]'(by rw[lAp];omega)=m[i]:=by simp only[H]
 by_cases B:i<(m.filter fun x=>!kbit x.1 n).length
 ·rw[z9 B]at D
  have:=(List.mem_filter.1 (vO B)).2;rw[D]at this;rw[decide_eq_false x8];simpa using this
 ·rw[List.getElem_append_right x8]at D
  have:=(List.mem_filter.1 (vO (show i - (m.filter fun x=>!kbit x.1 n).length<(m.filter fun x=>kbit x.1 n).length by omega))).2;rw[D]at this;rw[decide_eq_true x8];exact this
def spI (w0:World)(a:Value)(n L N:Nat)(k:Nat)(vs:List Value)(w:World):Prop :=
 ∃ (i:Nat),vs=[a,.int .i64 (n:Nat),.int .i64 (i:Nat)]/\i<=L/\k=N - i/\No w0 w
theorem split (w0:World){m:List En}(h:EnR w0 mv m)(R:Map n m)(M:n<256)(hl:m.length<=2 ^ 40):Fn prog 143 #[mv,.int .i64 (n:Nat)] w0 fun v w'=>v=.int .i64 ((m.filter fun x=>!kbit x.1 n).length:Nat)/\No w0 w':=by
 refine go143 sm ?_;obtain⟨a,c,rfl,hc⟩:=h.slice;have hL:(m.filter fun x=>!kbit x.1 n).length<=m.length:=List.length_filter_le _ _;have D:=fun {i:Nat} (hi:i<m.length)=>map_at R M hi;generalize (m.filter fun x=>!kbit x.1 n).length=L at *;simp -implicitDefEqProofs only[go_sem,jV,Tryz.f143];refine loopD [0,1,5] (spI w0 (.slice a m.length c) n L m.length) m.length ⟨0,rfl,x8,rfl,Fr.refl _ _⟩ ?_;rintro _ vs w g ⟨i,rfl,hi,rfl,B⟩;have H:=natlt i m.length
 by_cases A:i<m.length
 ·rw[decide_eq_true A]at H
  have T:=iBd (i:=i) (n:=m.length);have c1:=iSu (i:=i);obtain⟨b1,o1,U,v1,V,_,I,W,Y,J⟩:=h.at A;cases V;obtain⟨Z,_,_⟩:=J w B;have N:=D A;simp -implicitDefEqProofs only[go_sem,j7,yK,T,and_self,iTn,Z];refine qQa pl171 ((bit3 w I M).mono ?_);rintro _ w2 ⟨rfl,O⟩
  by_cases hz:i<L
  ·have z:(kb m[i].1 n == 0)=true:=by unfold kb;rw[N,decide_eq_false x8];rfl
   simp -implicitDefEqProofs only[go_sem,j7,z,c1];exact⟨m.length - (i+1),x8,i+1,rfl,x8,rfl,B.trans O⟩
  ·have z:(kb m[i].1 n == 0)=false:=by unfold kb;rw[N,decide_eq_true x8];rfl
   obtain rfl:i=L:=x8
   simp -implicitDefEqProofs only[go_sem,j7,z];exact B.trans O
 ·rw[decide_eq_false A]at H
  obtain rfl:i=L:=x8
  simp -implicitDefEqProofs only[go_sem,j7,qQq,H];exact B
def lkI (w0:World)(a:Value)(A:Nat)(k:Bs)(m:List En)(n:Nat)(vs:List Value)(w:World):Prop :=
 ∃ (lo hi:Nat),vs=[a,pt A 0,.int .i64 (lo:Nat),.int .i64 (hi:Nat)]/\lo<=hi/\hi<=m.length/\n=hi - lo/\(∀ i (h:i<m.length),i<lo->klt m[i].1 k)/\(∀ i (h:i<m.length),hi<=i->klt k m[i].1)/\w.heap[A]?=some (.cells (bl k) 76 (0,0))/\No w0 w
def LookQ (w0:World)(m:List En)(k:Bs)(r:Value)(w':World):Prop:=No w0 w'/\∃ v b,r=.tuple #[v,.bool b]/\one v=true/\(b=true->∃ val,(k,val) ∈ m/\By w0 v val)/\(b=false->∀ e ∈ m,e.1≠k)
theorem look3 (w0:World){m:List En}(h:EnR w0 mv m)(hM:Map 0 m)(hk:k.length=32)(hl:m.length<=2 ^ 40):Fn prog 138 #[mv,dg k] w0 (LookQ w0 m k):=by
 refine go138 sm ?_;obtain⟨a,c,rfl,hc⟩:=h.slice;obtain⟨W,hW,f1,k1,s1⟩:=qQl w0 (bl k) 76;have hp:=List.pairwise_iff_getElem.1 hM.1;simp -implicitDefEqProofs only[go_sem,j7,yU,jV,Tryz.f138,hW];refine loopD [0,3,6,7] (lkI w0 (.slice a m.length c) w0.heap.size k m) m.length ⟨0,m.length,rfl,x8,x8,rfl,fun i h B=>absurd B x8,fun i h B=>absurd B x8,k1,f1⟩ ?_;rintro _ vs w g ⟨lo,hi,rfl,b0,a0,rfl,h1,h2,kk,fw⟩;have Z:=natlt lo hi
 by_cases M:lo<hi
 ·rw[decide_eq_true M]at Z
  obtain⟨j,hj⟩:∃ j,j=(lo+hi) / 2:=⟨_,rfl⟩
  have D:j<m.length:=x8
  have n2:((2:Int)=0)=False:=sm
  have c1:IntKind.i64.wrap ((lo:Int)+(hi:Int))=((lo+hi:Nat):Int):=qXa
  have c2:IntKind.i64.wrap (((lo+hi:Nat):Int).tdiv 2)=((j:Nat):Int):=by
   rw[show ((lo+hi:Nat):Int).tdiv 2=(((lo+hi) / 2:Nat):Int) from rfl,<- hj];exact i64n
  have c3:=iSu (i:=j);have y1:=iBd (i:=j) (n:=m.length);obtain⟨b1,o1,b3,v1,e1,_,N,a3,a4,I⟩:=h.at D;cases e1;have O:No w0 w.drew:=fw.drew;obtain⟨r1,_,_⟩:=I w fw;obtain⟨a5,_,_⟩:=I w.drew O;have rk:=rd_d agg76 sz76 kk hk;have a6:rdO prog 76 w.drew w0.heap.size 0=_:=rk;have sj:∀ i (h:i<m.length),i<j->klt m[i].1 m[j].1:=fun i h B=>(hp i j h D B).1;have a7:∀ i (h:i<m.length),j<i->klt m[j].1 m[i].1:=fun i h B=>(hp j i D h B).1;have a8:m[j] ∈ m:=vO D;generalize R:m[j]=e at *;simp -implicitDefEqProofs only[go_sem,j7,yK,Z,n2,c1,c2,y1,and_self,iTn,a5,a6];refine qQa pl54 ((cmp w.drew N hk).mono ?_);rintro _ w2 ⟨rfl,f2⟩;have H:=O.trans f2;have T:w2.heap[w0.heap.size]?=_:=f2.at kk id;unfold kcmp
  by_cases L:e.1=k
  ·rw[if_pos L]
   have z:((0:Int) == 0)=true:=rfl;obtain⟨_,r2,_⟩:=I w2 H;simp -implicitDefEqProofs only[go_sem,j7,bSe,y1,and_self,iTn,r2];exact⟨H,_,_,rfl,a3,fun _=>⟨e.2,by rw[<- L];exact a8,a4⟩,fun h=>by cases h⟩
  ·rw[if_neg L]
   by_cases A:klt e.1 k
   ·rw[if_pos A]
    have z:((-1:Int) == 0)=false:=rfl;have z2:decide ((-1:Int)<0)=true:=rfl;simp -implicitDefEqProofs only[go_sem,j7,z,z2,c3]
    exact⟨hi - (j+1),x8,j+1,hi,rfl,x8,a0,rfl,fun i h B=>by
     by_cases J:i=j
     ·subst J;rw[R];exact A
     ·exact qKw (sj i h x8) A,h2,T,H⟩
   ·rw[if_neg A]
    have U:klt k e.1:=(klt_total N hk L).resolve_left A;have z:((1:Int) == 0)=false:=rfl;have z2:decide ((1:Int)<0)=false:=rfl;simp -implicitDefEqProofs only[go_sem,j7,z,z2]
    exact⟨j - lo,x8,lo,j,rfl,x8,x8,rfl,h1,fun i h B=>by
     by_cases J:i=j
     ·subst J;rw[R];exact U
     ·exact qKw U (a7 i h x8),T,H⟩
 ·rw[decide_eq_false M]at Z
  simp -implicitDefEqProofs only[go_sem,j7,Z];refine⟨fw,_,_,rfl,rfl,(fun h=>by cases h),fun _ e L=>?_⟩;obtain⟨i,V,rfl⟩:=List.mem_iff_getElem.1 L;intro Y
  by_cases a9:i<lo
  ·have:=h1 i V a9;rw[Y]at this;exact qZp _ this
  ·have:=h2 i V x8;rw[Y]at this;exact qZp _ this
end R
end
namespace R
theorem leaf_cut (wd:Int)(k v:Bs):cutD wd (leafD wd k v)=leafD wd k v:=Wit.hcut_tdy wd _
theorem digest1 (w0:World)(ht:Tabs w0)(wd:Int){esv mv:Value}(he:RdD w0 esv (empts wd 257)){e:Bs × Bs}(hm:EnR w0 mv [e])(hl:e.2.length<=549755813888)(hn:n<=256) :
  Fn prog 100 #[.int .i64 wd,esv,mv,.int .i64 (n:Nat)] w0 fun v w'=>v=dg (climb wd e.1 0 (leafD wd e.1 e.2) ((empts wd 257).take (256 - n)))/\No w0 w':=by
 refine go100 sm ?_;obtain⟨W,hW,T,k1,s1⟩:=qQl w0 (bl (zG 32 0)) 75;obtain⟨b,o,cap,vv,rfl,hc,U,a5,hby,H⟩:=(hm.fr0 T).at (i:=0) sm;simp only[List.getElem_cons_zero]at U hby H;have d1:(((([e]:List (Bs × Bs)).length:Nat):Int) == 0)=false:=rfl;have d2:(((([e]:List (Bs × Bs)).length:Nat):Int) == 1)=true:=rfl;have y1:(0:Int)<=0/\(0:Int)<((([e]:List (Bs × Bs)).length:Nat):Int):=sm
 obtain⟨V,Y,_⟩:=H W (Fr.refl _ _);obtain⟨D,J,_⟩:=H W.drew (Fr.refl _ _).drew;rw[j9,yK]at V Y D J;simp -implicitDefEqProofs only[go_sem,j7,vS,Tryz.f100,yU,qQk,hW,d1,d2];refine qXj (fun j=>j == 9 || j == 10) (.one 0 (.one 1 (.one 2 (.one 3 (.one 4 (.one 5 (.one 6 (.one 7 (.one 8 (.two 9 (.row [10,11]) 10 (.row [9,11]))))))))))) rfl x9 x9 ?_;have N:(leafD wd e.1 e.2).length=32:=qZo _ _ _;have lc:(climb wd e.1 0 (leafD wd e.1 e.2) ((empts wd 257).take (256 - n))).length=32:=qKi _ _ _ _ _ N;have c1:IntKind.i64.wrap (256 - (n:Int))=((256 - n:Nat):Int):=qXv (a:=256) x8 x8;simp -implicitDefEqProofs only[go_sem,j7,yX,y1,and_self,vI,j9,yK,D,J,bSe,OT.row,yU,qQk];constructor
 ·refine qQc pl144 ((leaf W.drew (ht.no T.drew) wd U (val:=e.2) (hby.fr0 (Fr.refl _ _).drew) hl).mono ?_)
  rintro _ w2 ⟨rfl,f2⟩;refine⟨fun _=>Fr.ext f2,?_⟩;have M:No W w2:=(Fr.refl _ _).drew.trans f2;obtain⟨L,q3,k3,f3,s3⟩:=A.allocD w2 (ty:=75) sz75 N;have B:=M.trans f3;have I:=T.trans B;obtain⟨V,Y,_⟩:=H L B;obtain⟨D,J,_⟩:=H L.drew B.drew;rw[j9,yK]at V Y D J;have r3:=rd_d agg75 sz75 k3 N;have O:rdO prog 75 L.drew w2.heap.size 0=_:=r3;simp -implicitDefEqProofs only[go_sem,j7,yX,yU,qQk,q3,y1,and_self,vI,j9,yK,D,O,c1,bSe];refine qQa pl141 ((climbWith L.drew (ht.no I.drew) wd (he.fr0 I.drew) U N (n:=256 - n) x8).mono ?_);rintro _ w4 ⟨rfl,Z⟩;rw[leaf_cut];have k4:=(B.drew.trans Z).at k1 id;have q5:=wr_d sz75 k4 zl32 lc;have r5:=rd_d agg75 sz75 (qQd (o:=.cells (bl (climb wd e.1 0 (leafD wd e.1 e.2) ((empts wd 257).take (256 - n)))) 75 (0,0)) k4) lc;simp -implicitDefEqProofs only[go_sem,j7,q5,r5];exact (I.drew.trans Z).put (b:=w0.heap.size) _ fun h=>by omega
 ·obtain⟨W2,a3,f2,k2,s2⟩:=qQl W.drew (bl (zG 32 0)) 75
  simp only[a3];have M:No W W2:=(Fr.refl _ _).drew.trans f2;refine qQc pl144 ((leaf W2 (ht.no (T.trans M)) wd U (val:=e.2) (hby.fr0 M) hl).mono ?_);rintro _ a4 ⟨rfl,R⟩;refine⟨fun _=>Fr.ext R,?_⟩;have a0:=R.at k2 id
  obtain⟨L,q3,k3,B⟩:∃ L,wrO prog 75 a4 W.heap.size 0 (dg (leafD wd e.1 e.2))=some L/\L.heap[W.heap.size]?=some (.cells (bl (leafD wd e.1 e.2)) 75 (0,0))/\No W L :=
   ⟨_,wr_d sz75 a0 zl32 N,qQd a0,(M.trans R).put (b:=W.heap.size) _ fun h=>absurd h (yZ _)⟩
  have I:=T.trans B;obtain⟨V,Y,_⟩:=H L B;obtain⟨D,J,_⟩:=H L.drew B.drew;rw[j9,yK]at V Y D J;have r3:=rd_d agg75 sz75 k3 N;have O:rdO prog 75 L.drew W.heap.size 0=_:=r3;simp -implicitDefEqProofs only[go_sem,j7,yX,q3,y1,and_self,vI,j9,yK,D,O,c1];refine qQa pl141 ((climbWith L.drew (ht.no I.drew) wd (he.fr0 I.drew) U N (n:=256 - n) x8).mono ?_);rintro _ w4 ⟨rfl,Z⟩;rw[leaf_cut];have k4:=(B.drew.trans Z).at k1 id;have q5:=wr_d sz75 k4 zl32 lc;have r5:=rd_d agg75 sz75 (qQd (o:=.cells (bl (climb wd e.1 0 (leafD wd e.1 e.2) ((empts wd 257).take (256 - n)))) 75 (0,0)) k4) lc;simp -implicitDefEqProofs only[go_sem,j7,q5,r5];exact (I.drew.trans Z).put (b:=w0.heap.size) _ fun h=>by omega
end R
section
theorem NwB.setB (h:NwB w0 w (.slice (some ⟨b, o, none⟩) n cap) bs)(hi:i<bs.length)(x:Byte) :
  ∃ w',wrO prog 5 w b (o+i) (u8 x)=some w'/\NwB w0 w' (.slice (some ⟨b,o,none⟩) n cap) (bs.set i x)/\Fr (fun c=>c=b) w w':=by
 obtain⟨A,B⟩:=h;have O:=By.len (Nw.rd ⟨A,B⟩:By w _ bs);subst O
 rcases A with ⟨H,_⟩ | ⟨T,U,J,c,H,L,R,D,V,I⟩
 ·cases H
 ·cases H
  refine⟨_,wr1 sz5 rfl L x8,⟨.inr ⟨b,o,cap,c.setIfInBounds (o+i) (u8 x),by rw[jM],qQd L,by rw[Array.size_setIfInBounds];exact R,by rw[jM];exact D,sm,fun j M=>?_⟩,B⟩,(Fr.refl _ _).put (b:=b) _ fun _=>rfl⟩;rw[jM]at M;rw[Array.getElem?_setIfInBounds,List.map_set,List.getElem?_set,zE]
  by_cases N:i=j
  ·subst N
   rw[if_pos rfl,if_pos rfl,if_pos x8,if_pos hi]
  ·rw[if_neg x8,if_neg N,I j M]
namespace R
open Aud
theorem by_rd (h:By w v bs)(hi:i<bs.length):∃ b o cap,v=.slice (some ⟨b,o,kZ⟩) bs.length cap/\rdO prog 5 w b (o+i)=some (u8 (bs.getD i 0)):=by
 obtain⟨b,o,cap,rfl,_⟩:=h.pos x8;exact⟨b,o,cap,rfl,h.get agg5 hi⟩
theorem u8mod (v:Nat):IntKind.u8.wrap ((v:Int).tmod 256)=((zW 8 v).toNat:Int):=by
 have e:(v:Int).tmod 256=((v % 256:Nat):Int):=rfl;rw[e,BitVec.toNat_ofNat,wrap_u8];omega
def l5I (w0:World)(v n:Nat)(m:Nat)(vs:List Value)(w:World):Prop :=
 ∃ (i:Nat) (x:Nat) (A:Value),vs=[.int .i64 (x:Nat),.int .i64 (n:Nat),A,.int .i64 (i:Nat)]/\i<=n/\m=n - i/\(∃ l:Bs,NwB w0 w A l/\l.length=i/\l++leB (n - i) x=leB n v)/\No w0 w/\x<2 ^ 62
theorem laid5 (w0:World)(v n:Nat)(N:v<2 ^ 62)(Y:n<=8):Fn prog 63 #[.int .i64 (v:Nat),.int .i64 (n:Nat)] w0 fun r w'=>NwB w0 w' r (leB n v)/\No w0 w':=by
 refine go63 sm ?_;simp -implicitDefEqProofs only[go_sem,jV,Tryz.f63];refine loopD [0,1,5,6] (l5I w0 v n) n ⟨0,v,.slice .none 0 0,rfl,Nat.zero_le _,rfl,⟨[],NwB.nil _ _,rfl,rfl⟩,Fr.refl _ _,N⟩ ?_;rintro _ vs H g ⟨i,x,Z,rfl,hi,rfl,⟨l,I,O,A⟩,J,hx⟩
 by_cases R:i<n
 ·have B:=dTo ((i:Int)<(n:Int))
  have c1:=iSu (i:=i)
  have c2:IntKind.i64.wrap ((x:Int).tdiv 256)=((x / 256:Nat):Int):=by
   have e:(x:Int).tdiv 256=((x / 256:Nat):Int):=rfl;rw[e,qQr x8 x8]
  have L:((256:Int)=0)=False:=sm
  have T:=u8mod x;obtain⟨M,U,D,V,W,g4,_⟩:=NwB.grow I (zW 8 x) x8 J;simp -implicitDefEqProofs only[go_sem,j7,yU,jV,B,L,if_false,T];refine qQn (v:=.slice (some ⟨H.heap.size,0,none⟩) 1 1) (w':=H.alloc (.cells (bl [zW 8 x]) 5)) rfl ?_;simp -implicitDefEqProofs only[go_sem,j7];refine qQj ⟨M,U,D,?_⟩;simp -implicitDefEqProofs only[go_sem,j7,L,if_false,c1,c2];refine⟨n - (i+1),x8,i+1,x / 256,M,rfl,x8,rfl,⟨_,V,by rw[lAp,O];rfl,?_⟩,W,x8⟩;rw[<- A,show n - i=n - (i+1)+1 by omega,zU]
  rfl
 ·have B:=dFo ((i:Int)<(n:Int))
  simp -implicitDefEqProofs only[go_sem,j7,B];have:n - i=0:=x8
  rw[this,show leB 0 x=[] from rfl,z4]at A;rw[<- A];exact⟨I,J⟩
def j5I (w0:World)(c:List Value)(xs bs:Bs)(n:Nat)(vs:List Value)(w:World):Prop :=
 ∃ (i:Nat) (v:Value),vs=c++[v,.int .i64 (i:Nat)]/\i<=bs.length/\n=bs.length - i/\NwB w0 w v (xs++bs.take i)/\No w0 w
theorem joined5 (w0:World)(V:By w0 av a)(W:By w0 vv bs)(a3:a.length<=2 ^ 40)(hl:bs.length<=2 ^ 40):Fn prog 62 #[av,vv] w0 fun v w'=>NwB w0 w' v (a++bs)/\No w0 w':=by
 refine go62 sm ?_;obtain⟨Y,Z,rfl,a0⟩:=W.slice;obtain⟨aa,ac,rfl,O⟩:=V.slice;simp -implicitDefEqProofs only[go_sem,jV,Tryz.f62];refine loopD [0,1,5,6] (j5I w0 [.slice aa a.length ac,.slice Y bs.length Z] [] a) a.length ⟨0,.slice .none 0 0,rfl,x8,rfl,NwB.nil _ _,Fr.refl _ _⟩ ?_;rintro _ vs J g ⟨i,v,rfl,hi,rfl,B,D⟩
 by_cases A:i<a.length
 ·have L:=dTo ((i:Int)<((a.length:Nat):Int))
  have c1:=iSu (i:=i);have y:=iBd (i:=i) (n:=a.length);obtain⟨b,o,cap,R,r⟩:=by_rd (V.fr0 D) A;cases R;have H:=qXu (l:=a) (i:=i) A;obtain⟨M,T,I,N,U,g4,_⟩:=NwB.grow B (a.getD i 0) (by simp;omega) D;rw[zU,H]at N;generalize a.getD i 0=x at *;simp -implicitDefEqProofs only[go_sem,j7,yU,jV,y,and_self,iTn,j8,r];refine qQn (v:=.slice (some ⟨J.heap.size,0,none⟩) 1 1) (w':=J.alloc (.cells (bl [x]) 5)) rfl ?_;simp -implicitDefEqProofs only[go_sem,j7];refine qQj ⟨M,T,I,?_⟩;simp -implicitDefEqProofs only[go_sem,j7,c1];exact⟨a.length - (i+1),x8,i+1,M,rfl,x8,rfl,N,U⟩
 ·have L:=dFo ((i:Int)<((a.length:Nat):Int))
  have e:i=a.length:=x8
  subst e;rw[kQ,List.nil_append]at B;simp -implicitDefEqProofs only[go_sem,j7,L];refine loopD [1,5,7] (j5I w0 [.slice Y bs.length Z] a bs) bs.length ⟨0,v,rfl,x8,rfl,by rw[List.take_zero,z4];exact B,D⟩ ?_;clear B D;rintro _ vs J g ⟨i,v,rfl,hi,rfl,B,D⟩
  by_cases A:i<bs.length
  ·have L:=dTo ((i:Int)<((bs.length:Nat):Int))
   have c1:=iSu (i:=i);have y:=iBd (i:=i) (n:=bs.length);obtain⟨b,o,cap,R,r⟩:=by_rd (W.fr0 D) A;cases R;have H:=qXu (l:=bs) (i:=i) A;obtain⟨M,T,I,N,U,g4,_⟩:=NwB.grow B (bs.getD i 0) (by simp;omega) D;rw[zU,H]at N;generalize bs.getD i 0=x at *;simp -implicitDefEqProofs only[go_sem,j7,yU,jV,y,and_self,iTn,j8,r];refine qQn (v:=.slice (some ⟨J.heap.size,0,none⟩) 1 1) (w':=J.alloc (.cells (bl [x]) 5)) rfl ?_;simp -implicitDefEqProofs only[go_sem,j7];refine qQj ⟨M,T,I,?_⟩;simp -implicitDefEqProofs only[go_sem,j7,c1];exact⟨bs.length - (i+1),x8,i+1,M,rfl,x8,rfl,N,U⟩
  ·have L:=dFo ((i:Int)<((bs.length:Nat):Int))
   have e:i=bs.length:=x8
   subst e;rw[kQ]at B;simp -implicitDefEqProofs only[go_sem,j7,L];exact⟨B,D⟩
def f5I (w0:World)(av:Value)(n:Nat)(a:Bs)(m:Nat)(vs:List Value)(w:World):Prop :=
 ∃ (i:Nat) (v:Value),vs=[av,.int .i64 (n:Nat),v,.int .i64 (i:Nat)]/\i<=n/\m=n - i/\NwB w0 w v ((qI i).map fun j=>a.getD j 0)/\No w0 w
theorem padTo_map:(qI n).map (fun j=>a.getD j 0)=(padTo 0 n a).take n:=by
 apply List.ext_getElem?;intro i;unfold padTo;rw[List.getElem?_map,List.getElem?_take]
 by_cases h:i<n
 ·rw[if_pos h,List.getElem?_range h]
  show some (a.getD i 0)=_;rw[gDq]
  by_cases A:i<a.length
  ·rw[z8 A,zZ A];rfl
  ·rw[vN x8,jR x8,List.getElem?_replicate,if_pos x8];rfl
 ·rw[if_neg h,vN (by simp;omega)];rfl
theorem filled5 (w0:World)(R:By w0 av a)(hn:n<=2 ^ 40)(W:a.length<=n):Fn prog 64 #[av,.int .i64 (n:Nat)] w0 fun v w'=>NwB w0 w' v (padTo 0 n a)/\No w0 w':=by
 refine go64 sm ?_;obtain⟨Y,Z,rfl,I⟩:=R.slice;simp -implicitDefEqProofs only[go_sem,jV,Tryz.f64];refine loopD [0,1,5,6] (f5I w0 (.slice Y a.length Z) n a) n ⟨0,.slice .none 0 0,rfl,x8,rfl,NwB.nil _ _,Fr.refl _ _⟩ ?_;rintro _ vs B g ⟨i,v,rfl,hi,rfl,J,L⟩
 by_cases a0:i<n
 ·have D:=dTo ((i:Int)<(n:Int))
  have c1:=iSu (i:=i);have M:((qI i).map fun j=>a.getD j 0)++[a.getD i 0]=(qI (i+1)).map fun j=>a.getD j 0:=by rw[List.range_succ,List.map_append];rfl
  obtain⟨H,T,A,N,U,g4,_⟩:=NwB.grow J (a.getD i 0) (by simp;omega) L;rw[M]at N
  by_cases O:i<a.length
  ·have V:=dTo ((i:Int)<((a.length:Nat):Int))
   have y:=iBd (i:=i) (n:=a.length);obtain⟨b,o,cap,he,r⟩:=by_rd (R.fr0 L) O;cases he;generalize a.getD i 0=x at *;simp -implicitDefEqProofs only[go_sem,j7,yU,jV,D,y,and_self,iTn,j8,r];refine qQn (v:=.slice (some ⟨B.heap.size,0,none⟩) 1 1) (w':=B.alloc (.cells (bl [x]) 5)) rfl ?_;simp -implicitDefEqProofs only[go_sem,j7];refine qQj ⟨H,T,A,?_⟩;simp -implicitDefEqProofs only[go_sem,j7,c1];exact⟨n - (i+1),x8,i+1,H,rfl,x8,rfl,N,U⟩
  ·have V:=dFo ((i:Int)<((a.length:Nat):Int))
   have e0:a.getD i 0=0:=by rw[gDq,vN x8];rfl
   rw[e0]at A;simp -implicitDefEqProofs only[go_sem,j7,yU,jV,D,V];refine qQn (v:=.slice (some ⟨B.heap.size,0,none⟩) 1 1) (w':=B.alloc (.cells (bl [0]) 5)) rfl ?_;simp -implicitDefEqProofs only[go_sem,j7];refine qQj ⟨H,T,A,?_⟩;simp -implicitDefEqProofs only[go_sem,j7,c1];exact⟨n - (i+1),x8,i+1,H,rfl,x8,rfl,N,U⟩
 ·have D:=dFo ((i:Int)<(n:Int))
  have e:i=n:=x8
  subst e;rw[padTo_map,zB (by rw[qZs W];exact xC _)]at J;simp -implicitDefEqProofs only[go_sem,j7,D];exact⟨J,L⟩
end R
end
end Go.V
