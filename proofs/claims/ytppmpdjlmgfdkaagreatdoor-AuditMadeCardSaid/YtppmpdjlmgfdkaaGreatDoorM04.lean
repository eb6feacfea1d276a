/- Helpers. -/
import Derived.Test.YtppmpdjlmgfdkaaGreatDoorM03
set_option linter.all false
set_option maxRecDepth 100000
set_option maxHeartbeats 8000000
open Array renaming setIfInBounds_comm->qH
open Bool renaming false_eq_true->qP,and_eq_true->qN
open Option renaming map_eq_some_iff->qJ
open Go.Region renaming ready->qO,wanted->xQ
namespace Go.V
variable {listed:Array Bool} {r x:Bool} {ev:Ev} {b i id j m n:Nat} {t:TypeId} {v:Value} {w w':World}
theorem contL_only {P:Program}{ops:Array Oper}{K:Ev->World->Prop}{r:List Oper}{d:Option Nat}{x x':Out}(h:x=x'):contL P ops K r d ev w x=contL P ops K r d ev w x':=by rw[h]
theorem loopD_only {P:Program}{A:List Nat}{c:Code}{Q:Post}(h:w=w'):LoopD P n A c Q ev w=LoopD P n A c Q ev w':=by rw[h]
theorem denL_only {P:Program}{ops:Array Oper}{K:Ev->World->Prop}{l A:List Oper}(h:l=A):denL P ops K l ev w=denL P ops K A ev w:=by rw[h]
theorem if_only {α:Sort _}{b c:Prop}{s:Decidable b}[Decidable c]{A B:α}(h:b=c):ite b A B=ite c A B:=by
 subst h
 by_cases D:b <;> simp[D]
attribute [go_sem] List.getElem?_toArray List.getElem?_cons_zero List.getElem?_cons_succ bSe bNe
attribute [congr] contL_only denL_only loopD_only if_only
section
variable {P:Program}
def Ext (w w':World):Prop:=∀ b,b<w.heap.size->w'.heap[b]?=w.heap[b]?
theorem Ext.refl (w:World):Ext w w:=fun _ _=>rfl
theorem Ext.get (h:Ext w w'){o:Obj}(A:w.heap[b]?=some o):w'.heap[b]?=some o:=(h b (qQi A)).trans A
theorem Ext.trans {w A B:World}(h:Ext w A)(k:Ext A B):Ext w B:=fun b D=>by
 have e:w.heap[b]?=some w.heap[b]:=Array.getElem?_eq_getElem D;rw[e];exact k.get (h.get e)
theorem Ext.alloc (w:World)(o:Obj):Ext w (w.alloc o):=fun _ A=>qJr w o A
theorem plainB_ext (h:Ext w w')(A:plainB w b=true):plainB w' b=true:=by
 obtain⟨c,e,B⟩:=plainB_spec A;simp[plainB,h.get B]
theorem eqPtr_ext (h:Ext w w'){x y:Value}(A:eqPtr w x y=some r):eqPtr w' x y=some r:=by
 unfold eqPtr at *;split at A
 ·exact A
 ·exact A
 ·split at A
  ·rename_i B;simp only[B,if_true];exact A
  ·rename_i B
   split at A
   ·rename_i D
    simp only[B,if_false,plainB_ext h D.1,plainB_ext h D.2,and_self,if_true];exact A
   ·cases A
 ·cases A
theorem cmpR_ext (h:Ext w w'){c:Bool}{x y:Value}(A:cmpR P w t c x y=some r):cmpR P w' t c x y=some r:=by
 unfold cmpR at *;split at A
 ·split at A
  ·split at A
   ·cases A
   ·rename_i B;simp only[B,if_false];exact eqPtr_ext h A
  ·cases A
 all_goals exact A
theorem rdO_ext (h:Ext w w'){b o:Nat}(A:rdO P t w b o=some v):rdO P t w' b o=some v:=by
 unfold rdO at *
 cases B:w.heap[b]? with
 | none=>rw[B]at A;cases A
 | some D=>rw[h.get B,<- B];exact A
theorem lookO_ext (h:Ext w w'){m k:Value}{v:Value × Bool}(E:lookO P t w m k=some v):lookO P t w' m k=some v:=by
 have e:∀ A,mapEs w m=some A->mapEs w' m=some A:=fun A B=>by
  unfold mapEs at *;split at B
  ·exact B
  ·split at B
   ·rename_i H;simp only[h.get H];exact B
   ·cases B
  ·cases B
 unfold lookO at *;simp only[Option.bind_eq_some_iff]at E ⊢;obtain⟨p,I,A,D,r⟩:=E;exact⟨p,I,A,e A D,r⟩
theorem stepR_ext (h:Ext w w'){op:Op}(A:stepR P ev w op=some v):stepR P ev w' op=some v:=by
 unfold stepR at *;split at A
 ·split at A
  ·exact rdO_ext h A
  ·cases A
 ·split at A
  ·simp only[qJ]at A ⊢
   obtain⟨r,B,e⟩:=A;exact⟨r,cmpR_ext h B,e⟩
  ·simp only[qJ]at A ⊢
   obtain⟨r,B,e⟩:=A;exact⟨r,cmpR_ext h B,e⟩
  ·cases A
 ·simp only[qJ]at A ⊢
  obtain⟨r,B,e⟩:=A;exact⟨r,lookO_ext h B,e⟩
 ·exact A
 ·cases A
end
section
variable {P:Program} {ops:Array Oper} {X:Nat->Bool}
def stKX (P:Program)(x:Bool)(o:Oper)(a:Act)(w:World)(K:Value->World->Prop):Prop :=
 match kindOf P o.op with
 | 0=>∃ v,(∀ w',(execOp a.eval o).run P w'=.ok (.value v) w')/\K v w
 | 1=>∃ v,(∀ w',Ext w w'->(execOp a.eval o).run P w'=.ok (.value v) w')/\K v w
 | _=>outE P (execOp a.eval o) w fun v w'=>(x=true->Ext w w')/\K v w'
theorem stK_monoX {o:Oper}{a:Act}{K E:Value->World->Prop}(A:∀ v w',K v w'->E v w')(h:stKX P x o a w K):stKX P x o a w E:=by
 unfold stKX at *;split at h
 ·obtain⟨v,B,D⟩:=h;exact⟨v,B,A _ _ D⟩
 ·obtain⟨v,B,D⟩:=h;exact⟨v,B,A _ _ D⟩
 ·exact qJl (fun v w' H=>⟨H.1,A _ _ H.2⟩) h
theorem stK_outX {o:Oper}{a:Act}{K:Value->World->Prop}(h:stKX P x o a w K):outE P (execOp a.eval o) w K:=by
 unfold stKX at h;split at h
 ·obtain⟨v,A,B⟩:=h;simp only[outE,A w];exact B
 ·obtain⟨v,A,B⟩:=h;simp only[outE,A w (Ext.refl w)];exact B
 ·exact qJl (fun v w' D=>D.2) h
theorem stK_congrX {o:Oper}{a A:Act}{K:Value->World->Prop}(B:execOp A.eval o=execOp a.eval o)(h:stKX P x o a w K):stKX P x o A w K:=by
 unfold stKX at *;rw[B];exact h
def stTX (P:Program)(ops:Array Oper)(X:Nat->Bool)(i:Nat)(K:Act->World->Prop)(a:Act)(w:World):Prop :=
 match ops[i]? with
 | none=>K a w
 | some o=>if xQ o (yielded ops a.tmps) then stKX P (X i) o a w (fun v w'=>K (a.put o.dst v) w') else K (a.put o.dst undef) w
def anyTX (P:Program)(ops:Array Oper)(X:Nat->Bool)(Q:Act->World->Prop):Nat->Array Bool->Act->World->Prop
 | 0,listed,a,w=>qO .any ops listed=[]/\Q a w
 | f+1,listed,a,w=>(qO .any ops listed=[]->Q a w)/\∀ i ∈ qO .any ops listed,stTX P ops X i (anyTX P ops X Q f (listed.setIfInBounds i true)) a w
theorem stT_wpX {a:Act}{K:Act->World->Prop}{N:Act->World->Prop}{Q:Exit->Act->World->Prop}(A:∀ a w, K a w->N a w)(h:stTX P ops X i K a w) :
  wpOp P ops Q i N a w:=by
 unfold stTX at h;unfold wpOp;split
 ·rename_i B;simp only[B]at h;exact A _ _ h
 ·rename_i o B
  simp only[B]at h;split
  ·rename_i D
   simp only[D,if_true]at h;exact .inl (wp_of_outE (stK_outX h) fun v w' E=>A _ _ E)
  ·rename_i D
   simp only[D]at h;exact A _ _ h
theorem any_of_anyTX {Q:Act->World->Prop}{B:Exit->Act->World->Prop}(A:∀ a w, Q a w->B .normal a w):∀ (f:Nat) (listed:Array Bool) (a:Act) (w:World),
  anyTX P ops X Q f listed a w->wpAny P .any ops B f listed a w
 | 0,_,_,_,h=>⟨h.1,A _ _ h.2⟩
 | f+1,_,_,_,h=>⟨fun D=>A _ _ (h.1 D),fun i hi=>stT_wpX (fun a w=>any_of_anyTX A f _ a w) (h.2 i hi)⟩
theorem stT_monoX {a:Act}{K E:Act->World->Prop}(A:∀ a w,K a w->E a w)(h:stTX P ops X i K a w):stTX P ops X i E a w:=by
 unfold stTX at *;split
 ·rename_i B;simp only[B]at h;exact A _ _ h
 ·rename_i o B
  simp only[B]at h;split
  ·rename_i D;simp only[D,if_true]at h;exact stK_monoX (fun v w'=>A _ _) h
  ·rename_i D;simp only[D]at h;exact A _ _ h
section
variable {i j:Nat} {oi oj:Oper} (hj:ops[j]?=some oj) (hap:oi.apart ops oj=true)
 (hsi:∀ cs b,oi.op≠.select cs b) (hsj:∀ cs b,oj.op≠.select cs b)
include hj hap hsj in
theorem stT_putX {K:Act->World->Prop}{a:Act}(h:stTX P ops X j K (a.put oi.dst v) w) :
  stTX P ops X j (fun B w'=>(∃ u,B=a.put oj.dst u)/\K (B.put oi.dst v) w') a w:=by
 obtain⟨D,H,J⟩:=Oper.apart_spec hap;unfold stTX at *;simp only[hj]at *;rw[wanted_put oj a oi.dst v D]at h;have E:∀ u,(a.put oi.dst v).put oj.dst u=(a.put oj.dst u).put oi.dst v:=fun u=>Act.put_comm a v u H;split
 ·rename_i A
  simp only[A,if_true]at h;refine stK_monoX (fun u w' I=>?_) (stK_congrX (execOp_put oj hsj a oi.dst v D).symm h);exact⟨⟨u,rfl⟩,by rw[<- E];exact I⟩
 ·rename_i A
  simp only[A]at h;exact⟨⟨undef,rfl⟩,by rw[<- E];exact h⟩
end
theorem Yields.stTX' {o:Oper}{a:Act}(hi:ops[i]?=some o)(B:kindOf P o.op=0)(D:Yields P ops o v a){K:Act->World->Prop}(h:K (a.put o.dst v) w):stTX P ops X i K a w:=by
 unfold stTX;simp only[hi]
 rcases D with ⟨A,E⟩ | ⟨A,rfl⟩
 ·simp only[A,if_true,stKX,B];exact⟨v,E,h⟩
 ·simp only[A,qP,if_false];exact h
theorem unwanted_stTX {o:Oper}{a:Act}(hi:ops[i]?=some o)(A:xQ o (yielded ops a.tmps)=false){K:Act->World->Prop}(h:K (a.put o.dst undef) w):stTX P ops X i K a w:=by
 unfold stTX;simp only[hi,A,qP,if_false];exact h
theorem first0X {Q:Act->World->Prop}{oi:Oper}(hi:ops[i]?=some oi)
  (E:∀ (j:Nat) (o:Oper) cs b,ops[j]?=some o->o.op≠.select cs b)
  (J:∀ (a:Act) (w:World) (K:Act->World->Prop),Yields P ops oi v a->K (a.put oi.dst v) w->stTX P ops X i K a w) :
  ∀ (f:Nat) (listed:Array Bool) (a:Act) (w:World),Free ops i oi listed->i ∈ qO .any ops listed->Yields P ops oi v a ->
   anyTX P ops X Q f (listed.setIfInBounds i true) (a.put oi.dst v) w->anyTX P ops X Q (f+1) listed a w:=by
 intro f
 induction f with
 | zero =>
  intro listed a w _ I M H;refine⟨fun h=>(by rw[h]at I;cases I),fun j hj=>?_⟩
  by_cases A:j=i
  ·subst A;exact J a w _ M H
  ·have:=ready_mono hj A
   rw[H.1]at this;cases this
 | succ f N =>
  intro listed a w B I M H;refine⟨fun h=>(by rw[h]at I;cases I),fun j hj=>?_⟩
  by_cases A:j=i
  ·subst A;exact J a w _ M H
  ·have O:=H.2 j (ready_mono hj A)
   obtain⟨L,oj,D,_⟩:=mem_ready.1 hj;have hap:=B j oj D A L (qVu I hj D);have R:=stT_putX D hap (fun cs b=>E j oj cs b D) O;refine stT_monoX (fun V w' T=>?_) R;obtain⟨⟨u,rfl⟩,U⟩:=T;refine N (listed.setIfInBounds j true) _ w' B.set (ready_mono I (Ne.symm A)) (yields_put hap (fun cs b=>E i oi cs b hi) u M) ?_;rw[qH _ _ A];exact U
def AloneX (P:Program)(ops:Array Oper)(X:Nat->Bool)(i:Nat)(m:Nat)(listed:Array Bool):Prop :=
 ∀ j oj,ops[j]?=some oj->j≠i->listed.getD j true=false->(kindOf P oj.op<=m∨(m=1/\X j=true))∨waitsB ops i listed ops.size j=true
theorem AloneX.set (hi:listed.getD i false=false)(E:j ∈ qO .any ops listed)(h:AloneX P ops X i m listed):AloneX P ops X i m (listed.setIfInBounds j true):=by
 intro k ok H D A
 have:listed.getD k true=false:=by
  by_cases B:j=k
  ·subst B;exact (mem_ready.1 E).1
  ·rw[getD_set_ne true B]at A;exact A
 exact (h k ok H D this).imp id (waitsB_set hi E)
theorem AloneX.kind {oj:Oper}(h:AloneX P ops X i m listed)(hi:listed.getD i false=false)(A:ops[j]?=some oj)(B:j≠i)(hj:j ∈ qO .any ops listed):kindOf P oj.op<=m∨(m=1/\X j=true) :=
 (h j oj A B (mem_ready.1 hj).1).resolve_right fun D=>waitsB_not hi D hj
theorem stT_sameX {oj:Oper}(hj:ops[j]?=some oj)(A:kindOf P oj.op<=1∨(1=1/\X j=true)){a:Act}{K:Act->World->Prop}(h:stTX P ops X j K a w):stTX P ops X j (fun I w'=>Ext w w'/\K I w') a w:=by
 unfold stTX at *;simp only[hj]at *;split
 ·rename_i D
  simp only[D,if_true]at h;unfold stKX at *;split at h
  ·obtain⟨v,B,E⟩:=h;exact⟨v,B,Ext.refl w,E⟩
  ·obtain⟨v,B,E⟩:=h;exact⟨v,B,Ext.refl w,E⟩
  ·rename_i J B
   rcases A with A | A
   ·exact absurd A (by have L:kindOf P oj.op≠0:=J;have a1:kindOf P oj.op≠1:=B;omega)
   ·exact qJl (fun v w' H=>⟨H.1,H.1 A.2,H.2⟩) h
 ·rename_i D
  simp only[D]at h;exact⟨Ext.refl w,h⟩
def Yields1X (P:Program)(ops:Array Oper)(o:Oper)(v:Value)(a:Act)(w:World):Prop :=
 xQ o (yielded ops a.tmps)=true/\∀ w',Ext w w'->(execOp a.eval o).run P w'=.ok (.value v) w'
theorem first1X {Q:Act->World->Prop}{oi:Oper}(hi:ops[i]?=some oi)(V:kindOf P oi.op=1)
  (E:∀ (j:Nat) (o:Oper) cs b,ops[j]?=some o->o.op≠.select cs b) :
  ∀ (f:Nat) (listed:Array Bool) (a:Act) (w:World),Free ops i oi listed->AloneX P ops X i 1 listed->i ∈ qO .any ops listed->Yields1X P ops oi v a w ->
   anyTX P ops X Q f (listed.setIfInBounds i true) (a.put oi.dst v) w->anyTX P ops X Q (f+1) listed a w:=by
 have L:∀ (a:Act) (w:World) (K:Act->World->Prop),Yields1X P ops oi v a w->K (a.put oi.dst v) w->stTX P ops X i K a w:=by
  intro a w K I h;unfold stTX;simp only[hi,I.1,if_true,stKX,V];exact⟨v,I.2,h⟩
 intro f
 induction f with
 | zero =>
  intro listed a w _ _ J I H;refine⟨fun h=>(by rw[h]at J;cases J),fun j hj=>?_⟩
  by_cases A:j=i
  ·subst A;exact L a w _ I H
  ·have:=ready_mono hj A
   rw[H.1]at this;cases this
 | succ f W =>
  intro listed a w D M J I H;refine⟨fun h=>(by rw[h]at J;cases J),fun j hj=>?_⟩
  by_cases A:j=i
  ·subst A;exact L a w _ I H
  ·have Y:=H.2 j (ready_mono hj A)
   obtain⟨N,oj,B,_⟩:=mem_ready.1 hj;have O:=getD_ft (mem_ready.1 J).1;have hap:=D j oj B A N (qVu J hj B);have R:=stT_sameX B (M.kind O B A hj) (stT_putX B hap (fun cs b=>E j oj cs b B) Y);refine stT_monoX (fun a' w' Z=>?_) R;obtain⟨T,⟨u,rfl⟩,h4⟩:=Z;obtain⟨_,_,U⟩:=Oper.apart_spec hap;refine W (listed.setIfInBounds j true) _ w' D.set (M.set O hj) (ready_mono J (Ne.symm A)) ⟨?_,?_⟩ ?_
   ·rw[wanted_put oi a oj.dst u U];exact I.1
   ·rw[execOp_put oi (fun cs b=>E i oi cs b hi) a oj.dst u U];exact fun w2 R=>I.2 w2 (T.trans R)
   ·rw[qH _ _ A]
    exact h4
theorem stT_yieldsX {oj:Oper}(hj:ops[j]?=some oj)(B:kindOf P oj.op<=0){a:Act}{K:Act->World->Prop}(h:stTX P ops X j K a w) :
  ∃ u,Yields P ops oj u a/\K (a.put oj.dst u) w:=by
 unfold stTX at h;simp only[hj]at h;split at h
 ·rename_i A
  unfold stKX at h;rw[Nat.le_zero.1 B]at h;obtain⟨v,D,E⟩:=h;exact⟨v,.inl ⟨A,D⟩,E⟩
 ·rename_i A
  exact⟨undef,.inr ⟨by simpa using A,rfl⟩,h⟩
theorem first2X {Q:Act->World->Prop}{oi:Oper}(hi:ops[i]?=some oi)(hk:2<=kindOf P oi.op)
  (E:∀ (j:Nat) (o:Oper) cs b,ops[j]?=some o->o.op≠.select cs b) :
  ∀ (f:Nat) (listed:Array Bool) (a:Act),Free ops i oi listed->AloneX P ops X i 0 listed->i ∈ qO .any ops listed ->
   xQ oi (yielded ops a.tmps)=true ->
   outE P (execOp a.eval oi) w (fun v w'=>(X i=true->Ext w w')/\anyTX P ops X Q f (listed.setIfInBounds i true) (a.put oi.dst v) w')->anyTX P ops X Q (f+1) listed a w:=by
 have R:∀ (a:Act) (K:Act->World->Prop),xQ oi (yielded ops a.tmps)=true->outE P (execOp a.eval oi) w (fun v w'=>(X i=true->Ext w w')/\K (a.put oi.dst v) w')->stTX P ops X i K a w:=by
  intro a K O h;unfold stTX;simp only[hi,O,if_true];unfold stKX;split
  ·rename_i T;omega
  ·rename_i T;omega
  ·exact h
 intro f
 induction f with
 | zero =>
  intro listed a _ _ I O H;refine⟨fun h=>(by rw[h]at I;cases I),fun j hj=>?_⟩
  by_cases A:j=i
  ·subst A;exact R a _ O H
  ·obtain⟨v0,w0,T⟩:=outE_some H
   have:=ready_mono hj A;rw[T.2.1]at this;cases this
 | succ f ih =>
  intro listed a D U I O H;refine⟨fun h=>(by rw[h]at I;cases I),fun j hj=>?_⟩
  by_cases A:j=i
  ·subst A;exact R a _ O H
  ·obtain⟨V,oj,B,_⟩:=mem_ready.1 hj
   have W:=getD_ft (mem_ready.1 I).1;have L:kindOf P oj.op<=0:=(U.kind W B A hj).resolve_right fun h=>by omega
   have hap:=D j oj B A V (qVu I hj B);obtain⟨Z,h4,h5⟩:=Oper.apart_spec hap;have hsj:=fun cs b=>E j oj cs b B;have hsi:=fun cs b=>E i oi cs b hi
   have back:∀ {v u:Value},Yields P ops oj u (a.put oi.dst v)->Yields P ops oj u a:=fun {v u} M =>
    M.of_same (execOp_put oj hsj a oi.dst v Z).symm (wanted_put oj a oi.dst v Z).symm
   obtain⟨v0,w0,T⟩:=outE_some H;obtain⟨u,M,_⟩:=stT_yieldsX B L (T.2.2 j (ready_mono hj A));have J:=back M;refine Yields.stTX' B (Nat.le_zero.1 L) J ?_;refine ih (listed.setIfInBounds j true) _ D.set (U.set W hj) (ready_mono I (Ne.symm A)) (by rw[wanted_put oi a oj.dst u h5];exact O) ?_;rw[execOp_put oi hsi a oj.dst u h5];refine qJl (fun v w' hv=>?_) H;obtain⟨u',Y,N⟩:=stT_yieldsX B L (hv.2.2 j (ready_mono hj A));have:=Yields.det w (back Y) J;subst this;refine⟨hv.1,?_⟩;rw[qH _ _ A,<- Act.put_comm a v u' h4];exact N
def walkTX (P:Program)(ops:Array Oper)(X:Nat->Bool)(Q:Act->World->Prop):List Nat->Act->World->Prop
 | [],a,w=>Q a w
 | k::r,a,w=>match ops[k]? with
  | none=>False
  | some o=>if xQ o (yielded ops a.tmps) then stKX P (X k) o a w (fun v w'=>walkTX P ops X Q r (a.put o.dst v) w') else walkTX P ops X Q r (a.put o.dst undef) w
def aloneBX (P:Program)(ops:Array Oper)(X:Nat->Bool)(i:Nat)(listed:Array Bool):Bool :=
 match ops[i]? with
 | none=>false
 | some oi=>let A:=kindOf P oi.op
  if A=0 then true else
  (List.range ops.size).all fun j=>j == i || listed.getD j true || (match ops[j]? with | some oj=>let B:=kindOf P oj.op;B == 0 || (A == 1 && (B == 1 || X j)) | none=>true) || waitsB ops i listed ops.size j
def lexTX (P:Program)(ops:Array Oper)(X:Nat->Bool):List Nat->Array Bool->Bool
 | [],listed=>(qO .any ops listed).isEmpty
 | k::r,listed=>(qO .any ops listed).contains k && Region.free .any ops listed k && aloneBX P ops X k listed && lexTX P ops X r (listed.setIfInBounds k true)
def lexAllX (P:Program)(ops:Array Oper)(X:Nat->Bool)(A:List Nat):Bool:=P.follows .mixedOrders && Region.noSelect ops && A.length == ops.size && lexTX P ops X A (Array.replicate ops.size false)
theorem aloneB_specX {oi:Oper}(hi:ops[i]?=some oi)(h:aloneBX P ops X i listed=true) :
  kindOf P oi.op=0∨(kindOf P oi.op=1/\AloneX P ops X i 1 listed)∨(2<=kindOf P oi.op/\AloneX P ops X i 0 listed):=by
 unfold aloneBX at h;simp only[hi]at h
 by_cases E:kindOf P oi.op=0
 ·exact .inl E
 ·simp only[E,if_false]at h
  have key:∀ j oj,ops[j]?=some oj->j≠i->listed.getD j true=false->(kindOf P oj.op=0∨(kindOf P oi.op=1/\(kindOf P oj.op=1∨X j=true)))∨waitsB ops i listed ops.size j=true:=by
   intro j oj hj A B;have D:j<ops.size:=(Array.getElem?_eq_some_iff.1 hj).1;have:=List.all_eq_true.1 h j (List.mem_range.2 D);simp only[hj,B,Bool.or_false,Bool.or_eq_true,beq_iff_eq,A,false_or,qN]at this;exact this
  right
  by_cases H:kindOf P oi.op=1
  ·left
   refine⟨H,fun j oj hj A B=>?_⟩
   rcases key j oj hj A B with (h | ⟨_,h | h⟩) | h
   ·exact .inl (.inl x8)
   ·exact .inl (.inl x8)
   ·exact .inl (.inr ⟨rfl,h⟩)
   ·exact .inr h
  ·right
   refine⟨x8,fun j oj hj A B=>?_⟩
   rcases key j oj hj A B with (h | h) | h
   ·exact .inl (.inl x8)
   ·exact absurd h.1 H
   ·exact .inr h
theorem anyT_lexX {Q:Act->World->Prop}(Y:Region.noSelect ops=true):∀ (l:List Nat) (listed:Array Bool) (a:Act) (w:World),
  lexTX P ops X l listed=true->walkTX P ops X Q l a w->anyTX P ops X Q l.length listed a w
 | [],_,_,_,O,h=>⟨by simpa [lexTX] using O,h⟩
 | k::l,listed,a,w,O,h=>by
  simp only[walkTX]at h;split at h
  ·exact h.elim
  rename_i o E;simp only[lexTX,qN]at O;obtain⟨⟨⟨hr,hf⟩,R⟩,T⟩:=O;have H:k ∈ qO .any ops listed:=by simpa using hr
  have A:Free ops k o listed:=Region.free_spec E hf;have B:=Region.noSelect_spec Y;have D:∀ a w,walkTX P ops X Q l a w->anyTX P ops X Q l.length (listed.setIfInBounds k true) a w:=fun a w h=>anyT_lexX Y l _ a w T h
  by_cases M:xQ o (yielded ops a.tmps)=true
  ·simp only[M,if_true]at h
   rcases aloneB_specX E R with I | ⟨I,U⟩ | ⟨I,U⟩
   ·unfold stKX at h
    rw[I]at h;obtain⟨v,J,L⟩:=h;exact first0X E B (fun a w K V N=>Yields.stTX' E I V N) _ _ _ _ A H (.inl ⟨M,J⟩) (D _ _ L)
   ·unfold stKX at h
    rw[I]at h;obtain⟨v,J,L⟩:=h;exact first1X E I B _ _ _ _ A U H ⟨M,J⟩ (D _ _ L)
   ·exact first2X E I B _ _ _ A U H M (by
    unfold stKX at h;split at h
    ·rename_i E;omega
    ·rename_i E;omega
    ·exact qJl (fun v w' Z=>⟨Z.1,D _ _ Z.2⟩) h)
  ·simp only[M]at h
   have W:xQ o (yielded ops a.tmps)=false:=by simpa using M
   exact first0X (v:=undef) E B (fun a w K V N=>by
    rcases V with ⟨J,L⟩ | ⟨J,_⟩
    ·unfold stTX
     simp only[E,J,if_true];unfold stKX;split
     ·exact⟨undef,L,N⟩
     ·exact⟨undef,fun w' _=>L w',N⟩
     ·simp only[outE,L w];exact⟨fun _=>Ext.refl w,N⟩
    ·exact unwanted_stTX E J N) _ _ _ _ A H (.inr ⟨W,rfl⟩) (D _ _ h)
theorem wp_drawX {Q:Exit->Act->World->Prop}{a:Act}{A:List Nat}(B:lexAllX P ops X A=true)(h:walkTX P ops X (fun a w=>Q .normal a w) A a w.drew):(Code.region id ops true).wp P Q a w:=by
 simp only[lexAllX,qN,beq_iff_eq]at B;refine wp_region_any B.1.1.1 (any_of_anyTX (X:=X) (fun _ _ h=>h) _ _ _ _ ?_);have:=anyT_lexX (P:=P) (X:=X) (Q:=fun a w=>Q .normal a w) B.1.1.2 A (Array.replicate ops.size false) a w.drew B.2 h;rw[B.1.2]at this;simpa using this
end
section
variable {P:Program}
theorem dop_read {a:Act}{o:Oper}{K:Value->World->Prop}(h:dop P o.op o.type (evOf a) w K)(A:kindOf P o.op=1) :
  ∃ v,stepR P (evOf a) w o.op=some v/\K v w:=by
 have r:∀ {op:Op},o.op=op->okO (stepR P (evOf a) w op) (fun v=>K v w)->∃ v,stepR P (evOf a) w o.op=some v/\K v w:=by
  intro op B h;obtain⟨v,D,A⟩:=qVk h;exact⟨v,B ▸ D,A⟩
 obtain⟨E,op,ty,pos,after,guard⟩:=o;simp only at r h A;cases op
 case load=>exact r rfl h
 case lookup=>exact r rfl h
 case typeAssert=>exact r rfl h
 case binOp=>simp only[dop]at h;simp only[kindOf]at A;split at A <;> simp_all
 case convert=>simp only[kindOf]at A;split at A <;> simp_all
 case call c=>simp only[kindOf]at A;split at A <;> (try split at A) <;> simp_all
 all_goals cases A
theorem dop_stKX {a:Act}{o:Oper}{K:Value->World->Prop}(h:dop P o.op o.type (evOf a) w fun v w'=>(x=true->Ext w w')/\K v w'):stKX P x o a w K:=by
 unfold stKX;split
 ·rename_i A
  obtain⟨v,B,D⟩:=dop_kind0 h A;exact⟨v,B,D.2⟩
 ·rename_i A
  obtain⟨v,B,D⟩:=dop_read h A;exact⟨v,fun w' E=>stepR_sound (stepR_ext E B),D.2⟩
 ·exact dop_sound h
def denLX (P:Program)(ops:Array Oper)(X:Nat->Bool)(K:Ev->World->Prop):List Nat->Ev->World->Prop
 | [],ev,w=>K ev w
 | k::r,ev,w=>match ops[k]? with
  | none=>False
  | some o=>if wantE ops o ev=true then outK P (dopX P o.op o.type ev w) w (fun v w'=>(X k=true->Ext w w')/\denLX P ops X K r (updV ev o.dst v) w') else denLX P ops X K r (updO ev o.dst undef) w
theorem denLX_walk {ops:Array Oper}{X:Nat->Bool}{n:Nat}{K:Ev->World->Prop}{Q:Act->World->Prop}(H:∀ a w, a.tmps.size=n->a.defers=[]->K (evOf a) w->Q a w)
  (A:(ops.toList.all fun o=>dstOk n o.dst)=true) :
  ∀ (l:List Nat) (a:Act) (w:World),a.tmps.size=n->a.defers=[]->denLX P ops X K l (evOf a) w->walkTX P ops X Q l a w
 | [],a,w,B,E,h=>H a w B E h
 | k::r,a,w,B,E,h=>by
  simp only[denLX]at h;split at h
  ·exact h.elim
  rename_i o L;simp only[walkTX,L,wantE_eq]
  have D:dstOk n o.dst=true:=List.all_eq_true.1 A o (by
   obtain⟨M,e⟩:=Array.getElem?_eq_some_iff.1 L
   exact e ▸ Array.getElem_mem_toList M)
  split at h
  ·rename_i I
   simp only[I,if_true];refine stK_monoX (fun v w' N=>?_) (dop_stKX (dop_of_X h));exact denLX_walk H A r _ w' (by rw[qVj];exact B) (by rw[qJk];exact E) (by rw[qKe v B D];exact N)
  ·rename_i I
   have J:wantE ops o (evOf a)=false:=by simpa using I
   simp only[J,qP,if_false];exact denLX_walk H A r _ w (by rw[qVj];exact B) (by rw[qJk];exact E) (by rw[qKe undef B D];exact h)
theorem codeD_ext {ops:Array Oper}{Q:Post}(X:Nat->Bool)(A:List Nat)(I:lexAllX P ops X A=true)(B:(ops.toList.all fun o=>dstOk n o.dst)=true)
  (h:denLX P ops X (Q .normal) A ev w.drew):CodeD P n (.region id ops true) Q ev w:=by
 intro a D E H;subst H;refine wp_drawX I (denLX_walk (n:=n) (K:=Q .normal) (fun a w D B h=>⟨D,B,h⟩) B A a w.drew D E h)
end
end Go.V
