/- Helpers. -/
import Derived.Test.YtppmpdjlmgfdkaaGreatDoorB03
set_option linter.all false
set_option maxRecDepth 100000
set_option maxHeartbeats 8000000
open Array renaming setIfInBounds_comm->qH
open Bool renaming false_eq_true->qP,and_eq_true->qN
open Option renaming map_eq_some_iff->qJ
open Go.Region renaming ready->qO,wanted->xQ
namespace Go.V
variable {listed:Array Bool} {r x:Bool} {ev:Ev} {b i id j m n:Nat} {t:TypeId} {v:Value} {w w':World}
theorem contL_only {P:Program}{ops:Array Oper}{K:Ev->World->Prop}{r:List Oper}{d:Option Nat}{x x':Out}(h:x=x'):contL P ops K r d ev w x=contL P ops K r d ev w x':=by rw[h]
theorem loopD_only {P:Program}{A:List Nat}{c:Code}{Q:Post}(h:w=w'):LoopD P n A c Q ev w=LoopD P n A c Q ev w':=by rw[h]
theorem denL_only {P:Program}{ops:Array Oper}{K:Ev->World->Prop}{l A:List Oper}(h:l=A):denL P ops K l ev w=denL P ops K A ev w:=by rw[h]
theorem if_only {α:Sort _}{b c:Prop}{s:Decidable b}[Decidable c]{A B:α}(h:b=c):ite b A B=ite c A B:=by
 subst h
 by_cases E:b <;> simp[E]
attribute [go_sem] List.getElem?_toArray List.getElem?_cons_zero List.getElem?_cons_succ bSe bNe
attribute [congr] contL_only denL_only loopD_only if_only
section
variable {P:Program}
def Ext (w w':World):Prop:=∀ b,b<w.heap.size->w'.heap[b]?=w.heap[b]?
theorem Ext.refl (w:World):Ext w w:=fun _ _=>rfl
theorem Ext.get (h:Ext w w'){o:Obj}(A:w.heap[b]?=some o):w'.heap[b]?=some o:=(h b (qQh A)).trans A
theorem Ext.trans {w A B:World}(h:Ext w A)(k:Ext A B):Ext w B:=fun b E=>by
 have e:w.heap[b]?=some w.heap[b]:=Array.getElem?_eq_getElem E;rw[e];exact k.get (h.get e)
theorem Ext.alloc (w:World)(o:Obj):Ext w (w.alloc o):=fun _ A=>qJh w o A
theorem plainB_ext (h:Ext w w')(A:plainB w b=true):plainB w' b=true:=by
 obtain⟨c,e,B⟩:=plainB_spec A;simp[plainB,h.get B]
theorem eqPtr_ext (h:Ext w w'){x y:Value}(A:eqPtr w x y=some r):eqPtr w' x y=some r:=by
 unfold eqPtr at *;split at A
 ·exact A
 ·exact A
 ·split at A
  ·rename_i B;simp only[B,if_true];exact A
  ·rename_i B
   split at A
   ·rename_i E
    simp only[B,if_false,plainB_ext h E.1,plainB_ext h E.2,and_self,if_true];exact A
   ·cases A
 ·cases A
theorem cmpR_ext (h:Ext w w'){c:Bool}{x y:Value}(A:cmpR P w t c x y=some r):cmpR P w' t c x y=some r:=by
 unfold cmpR at *;split at A
 ·split at A
  ·split at A
   ·cases A
   ·rename_i B;simp only[B,if_false];exact eqPtr_ext h A
  ·cases A
 all_goals exact A
theorem rdO_ext (h:Ext w w'){b o:Nat}(A:rdO P t w b o=some v):rdO P t w' b o=some v:=by
 unfold rdO at *
 cases B:w.heap[b]? with
 | none=>rw[B]at A;cases A
 | some E=>rw[h.get B,<- B];exact A
theorem lookO_ext (h:Ext w w'){m k:Value}{v:Value × Bool}(H:lookO P t w m k=some v):lookO P t w' m k=some v:=by
 have e:∀ A,mapEs w m=some A->mapEs w' m=some A:=fun A B=>by
  unfold mapEs at *;split at B
  ·exact B
  ·split at B
   ·rename_i I;simp only[h.get I];exact B
   ·cases B
  ·cases B
 unfold lookO at *;simp only[Option.bind_eq_some_iff]at H ⊢;obtain⟨p,J,A,E,r⟩:=H;exact⟨p,J,A,e A E,r⟩
theorem stepR_ext (h:Ext w w'){op:Op}(A:stepR P ev w op=some v):stepR P ev w' op=some v:=by
 unfold stepR at *;split at A
 ·split at A
  ·exact rdO_ext h A
  ·cases A
 ·split at A
  ·simp only[qJ]at A ⊢
   obtain⟨r,B,e⟩:=A;exact⟨r,cmpR_ext h B,e⟩
  ·simp only[qJ]at A ⊢
   obtain⟨r,B,e⟩:=A;exact⟨r,cmpR_ext h B,e⟩
  ·cases A
 ·simp only[qJ]at A ⊢
  obtain⟨r,B,e⟩:=A;exact⟨r,lookO_ext h B,e⟩
 ·exact A
 ·cases A
end
section
variable {P:Program} {ops:Array Oper} {X:Nat->Bool}
def stKX (P:Program)(x:Bool)(o:Oper)(a:Act)(w:World)(K:Value->World->Prop):Prop :=
 match kindOf P o.op with
 | 0=>∃ v,(∀ w',(execOp a.eval o).run P w'=.ok (.value v) w')/\K v w
 | 1=>∃ v,(∀ w',Ext w w'->(execOp a.eval o).run P w'=.ok (.value v) w')/\K v w
 | _=>outE P (execOp a.eval o) w fun v w'=>(x=true->Ext w w')/\K v w'
theorem stK_monoX {o:Oper}{a:Act}{K H:Value->World->Prop}(A:∀ v w',K v w'->H v w')(h:stKX P x o a w K):stKX P x o a w H:=by
 unfold stKX at *;split at h
 ·obtain⟨v,B,E⟩:=h;exact⟨v,B,A _ _ E⟩
 ·obtain⟨v,B,E⟩:=h;exact⟨v,B,A _ _ E⟩
 ·exact qJc (fun v w' I=>⟨I.1,A _ _ I.2⟩) h
theorem stK_outX {o:Oper}{a:Act}{K:Value->World->Prop}(h:stKX P x o a w K):outE P (execOp a.eval o) w K:=by
 unfold stKX at h;split at h
 ·obtain⟨v,A,B⟩:=h;simp only[outE,A w];exact B
 ·obtain⟨v,A,B⟩:=h;simp only[outE,A w (Ext.refl w)];exact B
 ·exact qJc (fun v w' E=>E.2) h
theorem stK_congrX {o:Oper}{a A:Act}{K:Value->World->Prop}(B:execOp A.eval o=execOp a.eval o)(h:stKX P x o a w K):stKX P x o A w K:=by
 unfold stKX at *;rw[B];exact h
def stTX (P:Program)(ops:Array Oper)(X:Nat->Bool)(i:Nat)(K:Act->World->Prop)(a:Act)(w:World):Prop :=
 match ops[i]? with
 | none=>K a w
 | some o=>if xQ o (yielded ops a.tmps) then stKX P (X i) o a w (fun v w'=>K (a.put o.dst v) w') else K (a.put o.dst undef) w
def anyTX (P:Program)(ops:Array Oper)(X:Nat->Bool)(Q:Act->World->Prop):Nat->Array Bool->Act->World->Prop
 | 0,listed,a,w=>qO .any ops listed=[]/\Q a w
 | f+1,listed,a,w=>(qO .any ops listed=[]->Q a w)/\∀ i ∈ qO .any ops listed,stTX P ops X i (anyTX P ops X Q f (listed.setIfInBounds i true)) a w
theorem stT_wpX {a:Act}{K:Act->World->Prop}{N:Act->World->Prop}{Q:Exit->Act->World->Prop}(A:∀ a w, K a w->N a w)(h:stTX P ops X i K a w) :
  wpOp P ops Q i N a w:=by
 unfold stTX at h;unfold wpOp;split
 ·rename_i B;simp only[B]at h;exact A _ _ h
 ·rename_i o B
  simp only[B]at h;split
  ·rename_i E
   simp only[E,if_true]at h;exact .inl (wp_of_outE (stK_outX h) fun v w' H=>A _ _ H)
  ·rename_i E
   simp only[E]at h;exact A _ _ h
theorem any_of_anyTX {Q:Act->World->Prop}{B:Exit->Act->World->Prop}(A:∀ a w, Q a w->B .normal a w):∀ (f:Nat) (listed:Array Bool) (a:Act) (w:World),
  anyTX P ops X Q f listed a w->wpAny P .any ops B f listed a w
 | 0,_,_,_,h=>⟨h.1,A _ _ h.2⟩
 | f+1,_,_,_,h=>⟨fun E=>A _ _ (h.1 E),fun i hi=>stT_wpX (fun a w=>any_of_anyTX A f _ a w) (h.2 i hi)⟩
theorem stT_monoX {a:Act}{K H:Act->World->Prop}(A:∀ a w,K a w->H a w)(h:stTX P ops X i K a w):stTX P ops X i H a w:=by
 unfold stTX at *;split
 ·rename_i B;simp only[B]at h;exact A _ _ h
 ·rename_i o B
  simp only[B]at h;split
  ·rename_i E;simp only[E,if_true]at h;exact stK_monoX (fun v w'=>A _ _) h
  ·rename_i E;simp only[E]at h;exact A _ _ h
section
variable {i j:Nat} {oi oj:Oper} (hj:ops[j]?=some oj) (hap:oi.apart ops oj=true)
 (hsi:∀ cs b,oi.op≠.select cs b) (hsj:∀ cs b,oj.op≠.select cs b)
include hj hap hsj in
theorem stT_putX {K:Act->World->Prop}{a:Act}(h:stTX P ops X j K (a.put oi.dst v) w) :
  stTX P ops X j (fun B w'=>(∃ u,B=a.put oj.dst u)/\K (B.put oi.dst v) w') a w:=by
 obtain⟨E,I,L⟩:=Oper.apart_spec hap;unfold stTX at *;simp only[hj]at *;rw[wanted_put oj a oi.dst v E]at h;have H:∀ u,(a.put oi.dst v).put oj.dst u=(a.put oj.dst u).put oi.dst v:=fun u=>Act.put_comm a v u I;split
 ·rename_i A
  simp only[A,if_true]at h;refine stK_monoX (fun u w' J=>?_) (stK_congrX (execOp_put oj hsj a oi.dst v E).symm h);exact⟨⟨u,rfl⟩,by rw[<- H];exact J⟩
 ·rename_i A
  simp only[A]at h;exact⟨⟨undef,rfl⟩,by rw[<- H];exact h⟩
end
theorem Yields.stTX' {o:Oper}{a:Act}(hi:ops[i]?=some o)(B:kindOf P o.op=0)(E:Yields P ops o v a){K:Act->World->Prop}(h:K (a.put o.dst v) w):stTX P ops X i K a w:=by
 unfold stTX;simp only[hi]
 rcases E with ⟨A,H⟩ | ⟨A,rfl⟩
 ·simp only[A,if_true,stKX,B];exact⟨v,H,h⟩
 ·simp only[A,qP,if_false];exact h
theorem unwanted_stTX {o:Oper}{a:Act}(hi:ops[i]?=some o)(A:xQ o (yielded ops a.tmps)=false){K:Act->World->Prop}(h:K (a.put o.dst undef) w):stTX P ops X i K a w:=by
 unfold stTX;simp only[hi,A,qP,if_false];exact h
theorem first0X {Q:Act->World->Prop}{oi:Oper}(hi:ops[i]?=some oi)
  (I:∀ (j:Nat) (o:Oper) cs b,ops[j]?=some o->o.op≠.select cs b)
  (L:∀ (a:Act) (w:World) (K:Act->World->Prop),Yields P ops oi v a->K (a.put oi.dst v) w->stTX P ops X i K a w) :
  ∀ (f:Nat) (listed:Array Bool) (a:Act) (w:World),Free ops i oi listed->i ∈ qO .any ops listed->Yields P ops oi v a ->
   anyTX P ops X Q f (listed.setIfInBounds i true) (a.put oi.dst v) w->anyTX P ops X Q (f+1) listed a w:=by
 intro f
 induction f with
 | zero =>
  intro listed a w _ J N H;refine⟨fun h=>(by rw[h]at J;cases J),fun j hj=>?_⟩
  by_cases A:j=i
  ·subst A;exact L a w _ N H
  ·have:=ready_mono hj A
   rw[H.1]at this;cases this
 | succ f O =>
  intro listed a w B J N H;refine⟨fun h=>(by rw[h]at J;cases J),fun j hj=>?_⟩
  by_cases A:j=i
  ·subst A;exact L a w _ N H
  ·have R:=H.2 j (ready_mono hj A)
   obtain⟨M,oj,E,_⟩:=mem_ready.1 hj;have hap:=B j oj E A M (qVo J hj E);have T:=stT_putX E hap (fun cs b=>I j oj cs b E) R;refine stT_monoX (fun W w' U=>?_) T;obtain⟨⟨u,rfl⟩,V⟩:=U;refine O (listed.setIfInBounds j true) _ w' B.set (ready_mono J (Ne.symm A)) (yields_put hap (fun cs b=>I i oi cs b hi) u N) ?_;rw[qH _ _ A];exact V
def AloneX (P:Program)(ops:Array Oper)(X:Nat->Bool)(i:Nat)(m:Nat)(listed:Array Bool):Prop :=
 ∀ j oj,ops[j]?=some oj->j≠i->listed.getD j true=false->(kindOf P oj.op<=m∨(m=1/\X j=true))∨waitsB ops i listed ops.size j=true
theorem AloneX.set (hi:listed.getD i false=false)(H:j ∈ qO .any ops listed)(h:AloneX P ops X i m listed):AloneX P ops X i m (listed.setIfInBounds j true):=by
 intro k ok I E A
 have:listed.getD k true=false:=by
  by_cases B:j=k
  ·subst B;exact (mem_ready.1 H).1
  ·rw[getD_set_ne true B]at A;exact A
 exact (h k ok I E this).imp id (waitsB_set hi H)
theorem AloneX.kind {oj:Oper}(h:AloneX P ops X i m listed)(hi:listed.getD i false=false)(A:ops[j]?=some oj)(B:j≠i)(hj:j ∈ qO .any ops listed):kindOf P oj.op<=m∨(m=1/\X j=true) :=
 (h j oj A B (mem_ready.1 hj).1).resolve_right fun E=>waitsB_not hi E hj
theorem stT_sameX {oj:Oper}(hj:ops[j]?=some oj)(A:kindOf P oj.op<=1∨(1=1/\X j=true)){a:Act}{K:Act->World->Prop}(h:stTX P ops X j K a w):stTX P ops X j (fun J w'=>Ext w w'/\K J w') a w:=by
 unfold stTX at *;simp only[hj]at *;split
 ·rename_i E
  simp only[E,if_true]at h;unfold stKX at *;split at h
  ·obtain⟨v,B,H⟩:=h;exact⟨v,B,Ext.refl w,H⟩
  ·obtain⟨v,B,H⟩:=h;exact⟨v,B,Ext.refl w,H⟩
  ·rename_i L B
   rcases A with A | A
   ·exact absurd A (by have M:kindOf P oj.op≠0:=L;have a1:kindOf P oj.op≠1:=B;omega)
   ·exact qJc (fun v w' I=>⟨I.1,I.1 A.2,I.2⟩) h
 ·rename_i E
  simp only[E]at h;exact⟨Ext.refl w,h⟩
def Yields1X (P:Program)(ops:Array Oper)(o:Oper)(v:Value)(a:Act)(w:World):Prop :=
 xQ o (yielded ops a.tmps)=true/\∀ w',Ext w w'->(execOp a.eval o).run P w'=.ok (.value v) w'
theorem first1X {Q:Act->World->Prop}{oi:Oper}(hi:ops[i]?=some oi)(W:kindOf P oi.op=1)
  (I:∀ (j:Nat) (o:Oper) cs b,ops[j]?=some o->o.op≠.select cs b) :
  ∀ (f:Nat) (listed:Array Bool) (a:Act) (w:World),Free ops i oi listed->AloneX P ops X i 1 listed->i ∈ qO .any ops listed->Yields1X P ops oi v a w ->
   anyTX P ops X Q f (listed.setIfInBounds i true) (a.put oi.dst v) w->anyTX P ops X Q (f+1) listed a w:=by
 have M:∀ (a:Act) (w:World) (K:Act->World->Prop),Yields1X P ops oi v a w->K (a.put oi.dst v) w->stTX P ops X i K a w:=by
  intro a w K J h;unfold stTX;simp only[hi,J.1,if_true,stKX,W];exact⟨v,J.2,h⟩
 intro f
 induction f with
 | zero =>
  intro listed a w _ _ L J H;refine⟨fun h=>(by rw[h]at L;cases L),fun j hj=>?_⟩
  by_cases A:j=i
  ·subst A;exact M a w _ J H
  ·have:=ready_mono hj A
   rw[H.1]at this;cases this
 | succ f Y =>
  intro listed a w E N L J H;refine⟨fun h=>(by rw[h]at L;cases L),fun j hj=>?_⟩
  by_cases A:j=i
  ·subst A;exact M a w _ J H
  ·have Z:=H.2 j (ready_mono hj A)
   obtain⟨O,oj,B,_⟩:=mem_ready.1 hj;have R:=getD_ft (mem_ready.1 L).1;have hap:=E j oj B A O (qVo L hj B);have T:=stT_sameX B (N.kind R B A hj) (stT_putX B hap (fun cs b=>I j oj cs b B) Z);refine stT_monoX (fun a' w' h3=>?_) T;obtain⟨U,⟨u,rfl⟩,h4⟩:=h3;obtain⟨_,_,V⟩:=Oper.apart_spec hap;refine Y (listed.setIfInBounds j true) _ w' E.set (N.set R hj) (ready_mono L (Ne.symm A)) ⟨?_,?_⟩ ?_
   ·rw[wanted_put oi a oj.dst u V];exact J.1
   ·rw[execOp_put oi (fun cs b=>I i oi cs b hi) a oj.dst u V];exact fun w2 T=>J.2 w2 (U.trans T)
   ·rw[qH _ _ A]
    exact h4
theorem stT_yieldsX {oj:Oper}(hj:ops[j]?=some oj)(B:kindOf P oj.op<=0){a:Act}{K:Act->World->Prop}(h:stTX P ops X j K a w) :
  ∃ u,Yields P ops oj u a/\K (a.put oj.dst u) w:=by
 unfold stTX at h;simp only[hj]at h;split at h
 ·rename_i A
  unfold stKX at h;rw[Nat.le_zero.1 B]at h;obtain⟨v,E,H⟩:=h;exact⟨v,.inl ⟨A,E⟩,H⟩
 ·rename_i A
  exact⟨undef,.inr ⟨by simpa using A,rfl⟩,h⟩
theorem first2X {Q:Act->World->Prop}{oi:Oper}(hi:ops[i]?=some oi)(hk:2<=kindOf P oi.op)
  (I:∀ (j:Nat) (o:Oper) cs b,ops[j]?=some o->o.op≠.select cs b) :
  ∀ (f:Nat) (listed:Array Bool) (a:Act),Free ops i oi listed->AloneX P ops X i 0 listed->i ∈ qO .any ops listed ->
   xQ oi (yielded ops a.tmps)=true ->
   outE P (execOp a.eval oi) w (fun v w'=>(X i=true->Ext w w')/\anyTX P ops X Q f (listed.setIfInBounds i true) (a.put oi.dst v) w')->anyTX P ops X Q (f+1) listed a w:=by
 have T:∀ (a:Act) (K:Act->World->Prop),xQ oi (yielded ops a.tmps)=true->outE P (execOp a.eval oi) w (fun v w'=>(X i=true->Ext w w')/\K (a.put oi.dst v) w')->stTX P ops X i K a w:=by
  intro a K R h;unfold stTX;simp only[hi,R,if_true];unfold stKX;split
  ·rename_i U;omega
  ·rename_i U;omega
  ·exact h
 intro f
 induction f with
 | zero =>
  intro listed a _ _ J R H;refine⟨fun h=>(by rw[h]at J;cases J),fun j hj=>?_⟩
  by_cases A:j=i
  ·subst A;exact T a _ R H
  ·obtain⟨v0,w0,U⟩:=outE_some H
   have:=ready_mono hj A;rw[U.2.1]at this;cases this
 | succ f ih =>
  intro listed a E V J R H;refine⟨fun h=>(by rw[h]at J;cases J),fun j hj=>?_⟩
  by_cases A:j=i
  ·subst A;exact T a _ R H
  ·obtain⟨W,oj,B,_⟩:=mem_ready.1 hj
   have Y:=getD_ft (mem_ready.1 J).1;have M:kindOf P oj.op<=0:=(V.kind Y B A hj).resolve_right fun h=>by omega
   have hap:=E j oj B A W (qVo J hj B);obtain⟨h3,h4,h5⟩:=Oper.apart_spec hap;have hsj:=fun cs b=>I j oj cs b B;have hsi:=fun cs b=>I i oi cs b hi
   have back:∀ {v u:Value},Yields P ops oj u (a.put oi.dst v)->Yields P ops oj u a:=fun {v u} N =>
    N.of_same (execOp_put oj hsj a oi.dst v h3).symm (wanted_put oj a oi.dst v h3).symm
   obtain⟨v0,w0,U⟩:=outE_some H;obtain⟨u,N,_⟩:=stT_yieldsX B M (U.2.2 j (ready_mono hj A));have L:=back N;refine Yields.stTX' B (Nat.le_zero.1 M) L ?_;refine ih (listed.setIfInBounds j true) _ E.set (V.set Y hj) (ready_mono J (Ne.symm A)) (by rw[wanted_put oi a oj.dst u h5];exact R) ?_;rw[execOp_put oi hsi a oj.dst u h5];refine qJc (fun v w' hv=>?_) H;obtain⟨u',Z,O⟩:=stT_yieldsX B M (hv.2.2 j (ready_mono hj A));have:=Yields.det w (back Z) L;subst this;refine⟨hv.1,?_⟩;rw[qH _ _ A,<- Act.put_comm a v u' h4];exact O
def walkTX (P:Program)(ops:Array Oper)(X:Nat->Bool)(Q:Act->World->Prop):List Nat->Act->World->Prop
 | [],a,w=>Q a w
 | k::r,a,w=>match ops[k]? with
  | none=>False
  | some o=>if xQ o (yielded ops a.tmps) then stKX P (X k) o a w (fun v w'=>walkTX P ops X Q r (a.put o.dst v) w') else walkTX P ops X Q r (a.put o.dst undef) w
def aloneBX (P:Program)(ops:Array Oper)(X:Nat->Bool)(i:Nat)(listed:Array Bool):Bool :=
 match ops[i]? with
 | none=>false
 | some oi=>let A:=kindOf P oi.op
  if A=0 then true else
  (List.range ops.size).all fun j=>j == i || listed.getD j true || (match ops[j]? with | some oj=>let B:=kindOf P oj.op;B == 0 || (A == 1 && (B == 1 || X j)) | none=>true) || waitsB ops i listed ops.size j
def lexTX (P:Program)(ops:Array Oper)(X:Nat->Bool):List Nat->Array Bool->Bool
 | [],listed=>(qO .any ops listed).isEmpty
 | k::r,listed=>(qO .any ops listed).contains k && Region.free .any ops listed k && aloneBX P ops X k listed && lexTX P ops X r (listed.setIfInBounds k true)
def lexAllX (P:Program)(ops:Array Oper)(X:Nat->Bool)(A:List Nat):Bool:=P.follows .mixedOrders && Region.noSelect ops && A.length == ops.size && lexTX P ops X A (Array.replicate ops.size false)
theorem aloneB_specX {oi:Oper}(hi:ops[i]?=some oi)(h:aloneBX P ops X i listed=true) :
  kindOf P oi.op=0∨(kindOf P oi.op=1/\AloneX P ops X i 1 listed)∨(2<=kindOf P oi.op/\AloneX P ops X i 0 listed):=by
 unfold aloneBX at h;simp only[hi]at h
 by_cases H:kindOf P oi.op=0
 ·exact .inl H
 ·simp only[H,if_false]at h
  have key:∀ j oj,ops[j]?=some oj->j≠i->listed.getD j true=false->(kindOf P oj.op=0∨(kindOf P oi.op=1/\(kindOf P oj.op=1∨X j=true)))∨waitsB ops i listed ops.size j=true:=by
   intro j oj hj A B;have E:j<ops.size:=(Array.getElem?_eq_some_iff.1 hj).1;have:=List.all_eq_true.1 h j (List.mem_range.2 E);simp only[hj,B,Bool.or_false,Bool.or_eq_true,beq_iff_eq,A,false_or,qN]at this;exact this
  right
  by_cases I:kindOf P oi.op=1
  ·left
   refine⟨I,fun j oj hj A B=>?_⟩
   rcases key j oj hj A B with (h | ⟨_,h | h⟩) | h
   ·exact .inl (.inl om)
   ·exact .inl (.inl om)
   ·exact .inl (.inr ⟨rfl,h⟩)
   ·exact .inr h
  ·right
   refine⟨om,fun j oj hj A B=>?_⟩
   rcases key j oj hj A B with (h | h) | h
   ·exact .inl (.inl om)
   ·exact absurd h.1 I
   ·exact .inr h
theorem anyT_lexX {Q:Act->World->Prop}(Z:Region.noSelect ops=true):∀ (l:List Nat) (listed:Array Bool) (a:Act) (w:World),
  lexTX P ops X l listed=true->walkTX P ops X Q l a w->anyTX P ops X Q l.length listed a w
 | [],_,_,_,R,h=>⟨by simpa [lexTX] using R,h⟩
 | k::l,listed,a,w,R,h=>by
  simp only[walkTX]at h;split at h
  ·exact h.elim
  rename_i o H;simp only[lexTX,qN]at R;obtain⟨⟨⟨hr,hf⟩,T⟩,U⟩:=R;have I:k ∈ qO .any ops listed:=by simpa using hr
  have A:Free ops k o listed:=Region.free_spec H hf;have B:=Region.noSelect_spec Z;have E:∀ a w,walkTX P ops X Q l a w->anyTX P ops X Q l.length (listed.setIfInBounds k true) a w:=fun a w h=>anyT_lexX Z l _ a w U h
  by_cases N:xQ o (yielded ops a.tmps)=true
  ·simp only[N,if_true]at h
   rcases aloneB_specX H T with J | ⟨J,V⟩ | ⟨J,V⟩
   ·unfold stKX at h
    rw[J]at h;obtain⟨v,L,M⟩:=h;exact first0X H B (fun a w K W O=>Yields.stTX' H J W O) _ _ _ _ A I (.inl ⟨N,L⟩) (E _ _ M)
   ·unfold stKX at h
    rw[J]at h;obtain⟨v,L,M⟩:=h;exact first1X H J B _ _ _ _ A V I ⟨N,L⟩ (E _ _ M)
   ·exact first2X H J B _ _ _ A V I N (by
    unfold stKX at h;split at h
    ·rename_i H;omega
    ·rename_i H;omega
    ·exact qJc (fun v w' hv=>⟨hv.1,E _ _ hv.2⟩) h)
  ·simp only[N]at h
   have Y:xQ o (yielded ops a.tmps)=false:=by simpa using N
   exact first0X (v:=undef) H B (fun a w K W O=>by
    rcases W with ⟨L,M⟩ | ⟨L,_⟩
    ·unfold stTX
     simp only[H,L,if_true];unfold stKX;split
     ·exact⟨undef,M,O⟩
     ·exact⟨undef,fun w' _=>M w',O⟩
     ·simp only[outE,M w];exact⟨fun _=>Ext.refl w,O⟩
    ·exact unwanted_stTX H L O) _ _ _ _ A I (.inr ⟨Y,rfl⟩) (E _ _ h)
theorem wp_drawX {Q:Exit->Act->World->Prop}{a:Act}{A:List Nat}(B:lexAllX P ops X A=true)(h:walkTX P ops X (fun a w=>Q .normal a w) A a w.drew):(Code.region id ops true).wp P Q a w:=by
 simp only[lexAllX,qN,beq_iff_eq]at B;refine wp_region_any B.1.1.1 (any_of_anyTX (X:=X) (fun _ _ h=>h) _ _ _ _ ?_);have:=anyT_lexX (P:=P) (X:=X) (Q:=fun a w=>Q .normal a w) B.1.1.2 A (Array.replicate ops.size false) a w.drew B.2 h;rw[B.1.2]at this;simpa using this
end
section
variable {P:Program}
theorem dop_read {a:Act}{o:Oper}{K:Value->World->Prop}(h:dop P o.op o.type (evOf a) w K)(A:kindOf P o.op=1) :
  ∃ v,stepR P (evOf a) w o.op=some v/\K v w:=by
 have r:∀ {op:Op},o.op=op->okO (stepR P (evOf a) w op) (fun v=>K v w)->∃ v,stepR P (evOf a) w o.op=some v/\K v w:=by
  intro op B h;obtain⟨v,E,A⟩:=qVb h;exact⟨v,B ▸ E,A⟩
 obtain⟨H,op,ty,pos,after,guard⟩:=o;simp only at r h A;cases op
 case load=>exact r rfl h
 case lookup=>exact r rfl h
 case typeAssert=>exact r rfl h
 case binOp=>simp only[dop]at h;simp only[kindOf]at A;split at A <;> simp_all
 case convert=>simp only[kindOf]at A;split at A <;> simp_all
 case call c=>simp only[kindOf]at A;split at A <;> (try split at A) <;> simp_all
 all_goals cases A
theorem dop_stKX {a:Act}{o:Oper}{K:Value->World->Prop}(h:dop P o.op o.type (evOf a) w fun v w'=>(x=true->Ext w w')/\K v w'):stKX P x o a w K:=by
 unfold stKX;split
 ·rename_i A
  obtain⟨v,B,E⟩:=dop_kind0 h A;exact⟨v,B,E.2⟩
 ·rename_i A
  obtain⟨v,B,E⟩:=dop_read h A;exact⟨v,fun w' H=>stepR_sound (stepR_ext H B),E.2⟩
 ·exact dop_sound h
def denLX (P:Program)(ops:Array Oper)(X:Nat->Bool)(K:Ev->World->Prop):List Nat->Ev->World->Prop
 | [],ev,w=>K ev w
 | k::r,ev,w=>match ops[k]? with
  | none=>False
  | some o=>if wantE ops o ev=true then outK P (dopX P o.op o.type ev w) w (fun v w'=>(X k=true->Ext w w')/\denLX P ops X K r (updV ev o.dst v) w') else denLX P ops X K r (updO ev o.dst undef) w
theorem denLX_walk {ops:Array Oper}{X:Nat->Bool}{n:Nat}{K:Ev->World->Prop}{Q:Act->World->Prop}(I:∀ a w, a.tmps.size=n->a.defers=[]->K (evOf a) w->Q a w)
  (A:(ops.toList.all fun o=>dstOk n o.dst)=true) :
  ∀ (l:List Nat) (a:Act) (w:World),a.tmps.size=n->a.defers=[]->denLX P ops X K l (evOf a) w->walkTX P ops X Q l a w
 | [],a,w,B,H,h=>I a w B H h
 | k::r,a,w,B,H,h=>by
  simp only[denLX]at h;split at h
  ·exact h.elim
  rename_i o M;simp only[walkTX,M,wantE_eq]
  have E:dstOk n o.dst=true:=List.all_eq_true.1 A o (by
   obtain⟨N,e⟩:=Array.getElem?_eq_some_iff.1 M
   exact e ▸ Array.getElem_mem_toList N)
  split at h
  ·rename_i J
   simp only[J,if_true];refine stK_monoX (fun v w' O=>?_) (dop_stKX (dop_of_X h));exact denLX_walk I A r _ w' (by rw[qVa];exact B) (by rw[qJa];exact H) (by rw[qKa v B E];exact O)
  ·rename_i J
   have L:wantE ops o (evOf a)=false:=by simpa using J
   simp only[L,qP,if_false];exact denLX_walk I A r _ w (by rw[qVa];exact B) (by rw[qJa];exact H) (by rw[qKa undef B E];exact h)
theorem codeD_ext {ops:Array Oper}{Q:Post}(X:Nat->Bool)(A:List Nat)(J:lexAllX P ops X A=true)(B:(ops.toList.all fun o=>dstOk n o.dst)=true)
  (h:denLX P ops X (Q .normal) A ev w.drew):CodeD P n (.region id ops true) Q ev w:=by
 intro a E H I;subst I;refine wp_drawX J (denLX_walk (n:=n) (K:=Q .normal) (fun a w E B h=>⟨E,B,h⟩) B A a w.drew E H h)
end
end Go.V
