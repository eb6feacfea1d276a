/- Helpers. -/
import Derived.Test.YtppmpdjlmgfdkaaGreatDoorG04
set_option linter.all false
set_option maxRecDepth 100000
set_option maxHeartbeats 8000000
open Array renaming setIfInBounds_comm→qO
open Bool renaming false_eq_true→qD,and_eq_true→qL
open Option renaming map_eq_some_iff→qJ
open Go.Region renaming ready→qT,wanted→qE
namespace Go.V
variable {listed:Array Bool} {r x:Bool} {ev:Ev} {b i id j m n:Nat} {t:TypeId} {v:Value} {w w':World}
theorem contL_only {P:Program}{ops:Array Oper}{K:Ev→World→Prop}{r:List Oper}{d:Option Nat}{x x':Out}(h:x=x'):contL P ops K r d ev w x=contL P ops K r d ev w x':=by rw[h]
theorem loopD_only {P:Program}{bad:List Nat}{c:Code}{Q:Post}(h:w=w'):LoopD P n bad c Q ev w=LoopD P n bad c Q ev w':=by rw[h]
theorem denL_only {P:Program}{ops:Array Oper}{K:Ev→World→Prop}{l l':List Oper}(h:l=l'):denL P ops K l ev w=denL P ops K l' ev w:=by rw[h]
theorem if_only {α:Sort _}{b c:Prop}{s:Decidable b}[Decidable c]{A B:α}(h:b=c):ite b A B=ite c A B:=by
 subst h
 by_cases hb:b <;> simp[hb]
attribute [go_sem] List.getElem?_toArray List.getElem?_cons_zero List.getElem?_cons_succ bSe bNe
attribute [congr] contL_only denL_only loopD_only if_only
section
variable {P:Program}
def Ext (w w':World):Prop:=∀ b,b<w.heap.size→w'.heap[b]?=w.heap[b]?
theorem Ext.refl (w:World):Ext w w:=fun _ _=>rfl
theorem Ext.get (h:Ext w w'){o:Obj}(hb:w.heap[b]?=some o):w'.heap[b]?=some o:=(h b (qQh hb)).trans hb
theorem Ext.trans {w w1 w2:World}(h:Ext w w1)(k:Ext w1 w2):Ext w w2:=fun b hb=>by
 have e:w.heap[b]?=some w.heap[b]:=Array.getElem?_eq_getElem hb;rw[e];exact k.get (h.get e)
theorem Ext.alloc (w:World)(o:Obj):Ext w (w.alloc o):=fun _ hb=>qZu w o hb
theorem plainB_ext (h:Ext w w')(hb:plainB w b=true):plainB w' b=true:=by
 obtain⟨c,e,h1⟩:=plainB_spec hb;simp[plainB,h.get h1]
theorem eqPtr_ext (h:Ext w w'){x y:Value}(he:eqPtr w x y=some r):eqPtr w' x y=some r:=by
 unfold eqPtr at *;split at he
 ·exact he
 ·exact he
 ·split at he
  ·rename_i hb;simp only[hb,if_true];exact he
  ·rename_i hb
   split at he
   ·rename_i hp
    simp only[hb,if_false,plainB_ext h hp.1,plainB_ext h hp.2,and_self,if_true];exact he
   ·cases he
 ·cases he
theorem cmpR_ext (h:Ext w w'){c:Bool}{x y:Value}(he:cmpR P w t c x y=some r):cmpR P w' t c x y=some r:=by
 unfold cmpR at *;split at he
 ·split at he
  ·split at he
   ·cases he
   ·rename_i hn;simp only[hn,if_false];exact eqPtr_ext h he
  ·cases he
 all_goals exact he
theorem rdO_ext (h:Ext w w'){b o:Nat}(he:rdO P t w b o=some v):rdO P t w' b o=some v:=by
 unfold rdO at *
 cases hb:w.heap[b]? with
 | none=>rw[hb]at he;cases he
 | some ob=>rw[h.get hb,← hb];exact he
theorem lookO_ext (h:Ext w w'){m k:Value}{v:Value × Bool}(he:lookO P t w m k=some v):lookO P t w' m k=some v:=by
 have e:∀ es,mapEs w m=some es→mapEs w' m=some es:=fun es hm=>by
  unfold mapEs at *;split at hm
  ·exact hm
  ·split at hm
   ·rename_i hb;simp only[h.get hb];exact hm
   ·cases hm
  ·cases hm
 unfold lookO at *;simp only[Option.bind_eq_some_iff]at he ⊢;obtain⟨p,hp,es,hes,r⟩:=he;exact⟨p,hp,es,e es hes,r⟩
theorem stepR_ext (h:Ext w w'){op:Op}(he:stepR P ev w op=some v):stepR P ev w' op=some v:=by
 unfold stepR at *;split at he
 ·split at he
  ·exact rdO_ext h he
  ·cases he
 ·split at he
  ·simp only[qJ]at he ⊢
   obtain⟨r,hr,e⟩:=he;exact⟨r,cmpR_ext h hr,e⟩
  ·simp only[qJ]at he ⊢
   obtain⟨r,hr,e⟩:=he;exact⟨r,cmpR_ext h hr,e⟩
  ·cases he
 ·simp only[qJ]at he ⊢
  obtain⟨r,hr,e⟩:=he;exact⟨r,lookO_ext h hr,e⟩
 ·exact he
 ·cases he
end
section
variable {P:Program} {ops:Array Oper} {X:Nat→Bool}
def stKX (P:Program)(x:Bool)(o:Oper)(a:Act)(w:World)(K:Value→World→Prop):Prop :=
 match kindOf P o.op with
 | 0=>∃ v,(∀ w',(execOp a.eval o).run P w'=.ok (.value v) w')∧K v w
 | 1=>∃ v,(∀ w',Ext w w'→(execOp a.eval o).run P w'=.ok (.value v) w')∧K v w
 | _=>outE P (execOp a.eval o) w fun v w'=>(x=true→Ext w w')∧K v w'
theorem stK_monoX {o:Oper}{a:Act}{K K':Value→World→Prop}(hk:∀ v w',K v w'→K' v w')(h:stKX P x o a w K):stKX P x o a w K':=by
 unfold stKX at *;split at h
 ·obtain⟨v,h1,h2⟩:=h;exact⟨v,h1,hk _ _ h2⟩
 ·obtain⟨v,h1,h2⟩:=h;exact⟨v,h1,hk _ _ h2⟩
 ·exact qZr (fun v w' hv=>⟨hv.1,hk _ _ hv.2⟩) h
theorem stK_outX {o:Oper}{a:Act}{K:Value→World→Prop}(h:stKX P x o a w K):outE P (execOp a.eval o) w K:=by
 unfold stKX at h;split at h
 ·obtain⟨v,h1,h2⟩:=h;simp only[outE,h1 w];exact h2
 ·obtain⟨v,h1,h2⟩:=h;simp only[outE,h1 w (Ext.refl w)];exact h2
 ·exact qZr (fun v w' hv=>hv.2) h
theorem stK_congrX {o:Oper}{a a':Act}{K:Value→World→Prop}(he:execOp a'.eval o=execOp a.eval o)(h:stKX P x o a w K):stKX P x o a' w K:=by
 unfold stKX at *;rw[he];exact h
def stTX (P:Program)(ops:Array Oper)(X:Nat→Bool)(i:Nat)(K:Act→World→Prop)(a:Act)(w:World):Prop :=
 match ops[i]? with
 | none=>K a w
 | some o=>if qE o (yielded ops a.tmps) then stKX P (X i) o a w (fun v w'=>K (a.put o.dst v) w') else K (a.put o.dst undef) w
def anyTX (P:Program)(ops:Array Oper)(X:Nat→Bool)(Q:Act→World→Prop):Nat→Array Bool→Act→World→Prop
 | 0,listed,a,w=>qT .any ops listed=[]∧Q a w
 | f+1,listed,a,w=>(qT .any ops listed=[]→Q a w)∧∀ i ∈ qT .any ops listed,stTX P ops X i (anyTX P ops X Q f (listed.setIfInBounds i true)) a w
theorem stT_wpX {a:Act}{K:Act→World→Prop}{N:Act→World→Prop}{Q:Exit→Act→World→Prop}(hk:∀ a w, K a w→N a w)(h:stTX P ops X i K a w) :
  wpOp P ops Q i N a w:=by
 unfold stTX at h;unfold wpOp;split
 ·rename_i ho;simp only[ho]at h;exact hk _ _ h
 ·rename_i o ho
  simp only[ho]at h;split
  ·rename_i hw
   simp only[hw,if_true]at h;exact .inl (wp_of_outE (stK_outX h) fun v w' hv=>hk _ _ hv)
  ·rename_i hw
   simp only[hw]at h;exact hk _ _ h
theorem any_of_anyTX {Q:Act→World→Prop}{Q':Exit→Act→World→Prop}(hQ:∀ a w, Q a w→Q' .normal a w):∀ (f:Nat) (listed:Array Bool) (a:Act) (w:World),
  anyTX P ops X Q f listed a w→wpAny P .any ops Q' f listed a w
 | 0,_,_,_,h=>⟨h.1,hQ _ _ h.2⟩
 | f+1,_,_,_,h=>⟨fun h0=>hQ _ _ (h.1 h0),fun i hi=>stT_wpX (fun a w=>any_of_anyTX hQ f _ a w) (h.2 i hi)⟩
theorem stT_monoX {a:Act}{K K':Act→World→Prop}(hk:∀ a w,K a w→K' a w)(h:stTX P ops X i K a w):stTX P ops X i K' a w:=by
 unfold stTX at *;split
 ·rename_i ho;simp only[ho]at h;exact hk _ _ h
 ·rename_i o ho
  simp only[ho]at h;split
  ·rename_i hw;simp only[hw,if_true]at h;exact stK_monoX (fun v w'=>hk _ _) h
  ·rename_i hw;simp only[hw]at h;exact hk _ _ h
section
variable {i j:Nat} {oi oj:Oper} (hj:ops[j]?=some oj) (hap:oi.apart ops oj=true)
 (hsi:∀ cs b,oi.op≠.select cs b) (hsj:∀ cs b,oj.op≠.select cs b)
include hj hap hsj in
theorem stT_putX {K:Act→World→Prop}{a:Act}(h:stTX P ops X j K (a.put oi.dst v) w) :
  stTX P ops X j (fun a' w'=>(∃ u,a'=a.put oj.dst u)∧K (a'.put oi.dst v) w') a w:=by
 obtain⟨h1,h2,h3⟩:=Oper.apart_spec hap;unfold stTX at *;simp only[hj]at *;rw[wanted_put oj a oi.dst v h1]at h;have hc:∀ u,(a.put oi.dst v).put oj.dst u=(a.put oj.dst u).put oi.dst v:=fun u=>Act.put_comm a v u h2;split
 ·rename_i hw
  simp only[hw,if_true]at h;refine stK_monoX (fun u w' hu=>?_) (stK_congrX (execOp_put oj hsj a oi.dst v h1).symm h);exact⟨⟨u,rfl⟩,by rw[← hc];exact hu⟩
 ·rename_i hw
  simp only[hw]at h;exact⟨⟨undef,rfl⟩,by rw[← hc];exact h⟩
end
theorem Yields.stTX' {o:Oper}{a:Act}(hi:ops[i]?=some o)(hk:kindOf P o.op=0)(hy:Yields P ops o v a){K:Act→World→Prop}(h:K (a.put o.dst v) w):stTX P ops X i K a w:=by
 unfold stTX;simp only[hi]
 rcases hy with ⟨hw,hv⟩ | ⟨hw,rfl⟩
 ·simp only[hw,if_true,stKX,hk];exact⟨v,hv,h⟩
 ·simp only[hw,qD,if_false];exact h
theorem unwanted_stTX {o:Oper}{a:Act}(hi:ops[i]?=some o)(hw:qE o (yielded ops a.tmps)=false){K:Act→World→Prop}(h:K (a.put o.dst undef) w):stTX P ops X i K a w:=by
 unfold stTX;simp only[hi,hw,qD,if_false];exact h
theorem first0X {Q:Act→World→Prop}{oi:Oper}(hi:ops[i]?=some oi)
  (hsel:∀ (j:Nat) (o:Oper) cs b,ops[j]?=some o→o.op≠.select cs b)
  (hst:∀ (a:Act) (w:World) (K:Act→World→Prop),Yields P ops oi v a→K (a.put oi.dst v) w→stTX P ops X i K a w) :
  ∀ (f:Nat) (listed:Array Bool) (a:Act) (w:World),Free ops i oi listed→i ∈ qT .any ops listed→Yields P ops oi v a →
   anyTX P ops X Q f (listed.setIfInBounds i true) (a.put oi.dst v) w→anyTX P ops X Q (f+1) listed a w:=by
 intro f
 induction f with
 | zero =>
  intro listed a w _ hr hy H;refine⟨fun h=>(by rw[h]at hr;cases hr),fun j hj=>?_⟩
  by_cases hji:j=i
  ·subst hji;exact hst a w _ hy H
  ·have:=ready_mono hj hji
   rw[H.1]at this;cases this
 | succ f ih =>
  intro listed a w hfree hr hy H;refine⟨fun h=>(by rw[h]at hr;cases hr),fun j hj=>?_⟩
  by_cases hji:j=i
  ·subst hji;exact hst a w _ hy H
  ·have h1:=H.2 j (ready_mono hj hji)
   obtain⟨hjun,oj,hoj,_⟩:=mem_ready.1 hj;have hap:=hfree j oj hoj hji hjun (qKn hr hj hoj);have h2:=stT_putX hoj hap (fun cs b=>hsel j oj cs b hoj) h1;refine stT_monoX (fun a' w' h3=>?_) h2;obtain⟨⟨u,rfl⟩,h4⟩:=h3;refine ih (listed.setIfInBounds j true) _ w' hfree.set (ready_mono hr (Ne.symm hji)) (yields_put hap (fun cs b=>hsel i oi cs b hi) u hy) ?_;rw[qO _ _ hji];exact h4
def AloneX (P:Program)(ops:Array Oper)(X:Nat→Bool)(i:Nat)(m:Nat)(listed:Array Bool):Prop :=
 ∀ j oj,ops[j]?=some oj→j≠i→listed.getD j true=false→(kindOf P oj.op≤m∨(m=1∧X j=true))∨waitsB ops i listed ops.size j=true
theorem AloneX.set (hi:listed.getD i false=false)(hr:j ∈ qT .any ops listed)(h:AloneX P ops X i m listed):AloneX P ops X i m (listed.setIfInBounds j true):=by
 intro k ok hk hki hun
 have:listed.getD k true=false:=by
  by_cases hjk:j=k
  ·subst hjk;exact (mem_ready.1 hr).1
  ·rw[getD_set_ne true hjk]at hun;exact hun
 exact (h k ok hk hki this).imp id (waitsB_set hi hr)
theorem AloneX.kind {oj:Oper}(h:AloneX P ops X i m listed)(hi:listed.getD i false=false)(hoj:ops[j]?=some oj)(hji:j≠i)(hj:j ∈ qT .any ops listed):kindOf P oj.op≤m∨(m=1∧X j=true) :=
 (h j oj hoj hji (mem_ready.1 hj).1).resolve_right fun hw=>waitsB_not hi hw hj
theorem stT_sameX {oj:Oper}(hj:ops[j]?=some oj)(hk:kindOf P oj.op≤1∨(1=1∧X j=true)){a:Act}{K:Act→World→Prop}(h:stTX P ops X j K a w):stTX P ops X j (fun a' w'=>Ext w w'∧K a' w') a w:=by
 unfold stTX at *;simp only[hj]at *;split
 ·rename_i hw
  simp only[hw,if_true]at h;unfold stKX at *;split at h
  ·obtain⟨v,h1,h2⟩:=h;exact⟨v,h1,Ext.refl w,h2⟩
  ·obtain⟨v,h1,h2⟩:=h;exact⟨v,h1,Ext.refl w,h2⟩
  ·rename_i h0 h1
   rcases hk with hk | hk
   ·exact absurd hk (by have a0:kindOf P oj.op≠0:=h0;have a1:kindOf P oj.op≠1:=h1;omega)
   ·exact qZr (fun v w' hv=>⟨hv.1,hv.1 hk.2,hv.2⟩) h
 ·rename_i hw
  simp only[hw]at h;exact⟨Ext.refl w,h⟩
def Yields1X (P:Program)(ops:Array Oper)(o:Oper)(v:Value)(a:Act)(w:World):Prop :=
 qE o (yielded ops a.tmps)=true∧∀ w',Ext w w'→(execOp a.eval o).run P w'=.ok (.value v) w'
theorem first1X {Q:Act→World→Prop}{oi:Oper}(hi:ops[i]?=some oi)(hk:kindOf P oi.op=1)
  (hsel:∀ (j:Nat) (o:Oper) cs b,ops[j]?=some o→o.op≠.select cs b) :
  ∀ (f:Nat) (listed:Array Bool) (a:Act) (w:World),Free ops i oi listed→AloneX P ops X i 1 listed→i ∈ qT .any ops listed→Yields1X P ops oi v a w →
   anyTX P ops X Q f (listed.setIfInBounds i true) (a.put oi.dst v) w→anyTX P ops X Q (f+1) listed a w:=by
 have hst:∀ (a:Act) (w:World) (K:Act→World→Prop),Yields1X P ops oi v a w→K (a.put oi.dst v) w→stTX P ops X i K a w:=by
  intro a w K hy h;unfold stTX;simp only[hi,hy.1,if_true,stKX,hk];exact⟨v,hy.2,h⟩
 intro f
 induction f with
 | zero =>
  intro listed a w _ _ hr hy H;refine⟨fun h=>(by rw[h]at hr;cases hr),fun j hj=>?_⟩
  by_cases hji:j=i
  ·subst hji;exact hst a w _ hy H
  ·have:=ready_mono hj hji
   rw[H.1]at this;cases this
 | succ f ih =>
  intro listed a w hfree hal hr hy H;refine⟨fun h=>(by rw[h]at hr;cases hr),fun j hj=>?_⟩
  by_cases hji:j=i
  ·subst hji;exact hst a w _ hy H
  ·have h1:=H.2 j (ready_mono hj hji)
   obtain⟨hjun,oj,hoj,_⟩:=mem_ready.1 hj;have hi0:=getD_ft (mem_ready.1 hr).1;have hap:=hfree j oj hoj hji hjun (qKn hr hj hoj);have h2:=stT_sameX hoj (hal.kind hi0 hoj hji hj) (stT_putX hoj hap (fun cs b=>hsel j oj cs b hoj) h1);refine stT_monoX (fun a' w' h3=>?_) h2;obtain⟨hw',⟨u,rfl⟩,h4⟩:=h3;obtain⟨_,_,h5⟩:=Oper.apart_spec hap;refine ih (listed.setIfInBounds j true) _ w' hfree.set (hal.set hi0 hj) (ready_mono hr (Ne.symm hji)) ⟨?_,?_⟩ ?_
   ·rw[wanted_put oi a oj.dst u h5];exact hy.1
   ·rw[execOp_put oi (fun cs b=>hsel i oi cs b hi) a oj.dst u h5];exact fun w2 h2=>hy.2 w2 (hw'.trans h2)
   ·rw[qO _ _ hji]
    exact h4
theorem stT_yieldsX {oj:Oper}(hj:ops[j]?=some oj)(hk:kindOf P oj.op≤0){a:Act}{K:Act→World→Prop}(h:stTX P ops X j K a w) :
  ∃ u,Yields P ops oj u a∧K (a.put oj.dst u) w:=by
 unfold stTX at h;simp only[hj]at h;split at h
 ·rename_i hw
  unfold stKX at h;rw[Nat.le_zero.1 hk]at h;obtain⟨v,h1,h2⟩:=h;exact⟨v,.inl ⟨hw,h1⟩,h2⟩
 ·rename_i hw
  exact⟨undef,.inr ⟨by simpa using hw,rfl⟩,h⟩
theorem first2X {Q:Act→World→Prop}{oi:Oper}(hi:ops[i]?=some oi)(hk:2≤kindOf P oi.op)
  (hsel:∀ (j:Nat) (o:Oper) cs b,ops[j]?=some o→o.op≠.select cs b) :
  ∀ (f:Nat) (listed:Array Bool) (a:Act),Free ops i oi listed→AloneX P ops X i 0 listed→i ∈ qT .any ops listed →
   qE oi (yielded ops a.tmps)=true →
   outE P (execOp a.eval oi) w (fun v w'=>(X i=true→Ext w w')∧anyTX P ops X Q f (listed.setIfInBounds i true) (a.put oi.dst v) w')→anyTX P ops X Q (f+1) listed a w:=by
 have hst:∀ (a:Act) (K:Act→World→Prop),qE oi (yielded ops a.tmps)=true→outE P (execOp a.eval oi) w (fun v w'=>(X i=true→Ext w w')∧K (a.put oi.dst v) w')→stTX P ops X i K a w:=by
  intro a K hy h;unfold stTX;simp only[hi,hy,if_true];unfold stKX;split
  ·rename_i h0;omega
  ·rename_i h0;omega
  ·exact h
 intro f
 induction f with
 | zero =>
  intro listed a _ _ hr hy H;refine⟨fun h=>(by rw[h]at hr;cases hr),fun j hj=>?_⟩
  by_cases hji:j=i
  ·subst hji;exact hst a _ hy H
  ·obtain⟨v0,w0,h0⟩:=outE_some H
   have:=ready_mono hj hji;rw[h0.2.1]at this;cases this
 | succ f ih =>
  intro listed a hfree hal hr hy H;refine⟨fun h=>(by rw[h]at hr;cases hr),fun j hj=>?_⟩
  by_cases hji:j=i
  ·subst hji;exact hst a _ hy H
  ·obtain⟨hjun,oj,hoj,_⟩:=mem_ready.1 hj
   have hi0:=getD_ft (mem_ready.1 hr).1;have hk0:kindOf P oj.op≤0:=(hal.kind hi0 hoj hji hj).resolve_right fun h=>by omega
   have hap:=hfree j oj hoj hji hjun (qKn hr hj hoj);obtain⟨h3,h4,h5⟩:=Oper.apart_spec hap;have hsj:=fun cs b=>hsel j oj cs b hoj;have hsi:=fun cs b=>hsel i oi cs b hi
   have back:∀ {v u:Value},Yields P ops oj u (a.put oi.dst v)→Yields P ops oj u a:=fun {v u} hyu =>
    hyu.of_same (execOp_put oj hsj a oi.dst v h3).symm (wanted_put oj a oi.dst v h3).symm
   obtain⟨v0,w0,h0⟩:=outE_some H;obtain⟨u,hyu,_⟩:=stT_yieldsX hoj hk0 (h0.2.2 j (ready_mono hj hji));have hyu':=back hyu;refine Yields.stTX' hoj (Nat.le_zero.1 hk0) hyu' ?_;refine ih (listed.setIfInBounds j true) _ hfree.set (hal.set hi0 hj) (ready_mono hr (Ne.symm hji)) (by rw[wanted_put oi a oj.dst u h5];exact hy) ?_;rw[execOp_put oi hsi a oj.dst u h5];refine qZr (fun v w' hv=>?_) H;obtain⟨u',hyu2,hrest⟩:=stT_yieldsX hoj hk0 (hv.2.2 j (ready_mono hj hji));have:=Yields.det w (back hyu2) hyu';subst this;refine⟨hv.1,?_⟩;rw[qO _ _ hji,← Act.put_comm a v u' h4];exact hrest
def walkTX (P:Program)(ops:Array Oper)(X:Nat→Bool)(Q:Act→World→Prop):List Nat→Act→World→Prop
 | [],a,w=>Q a w
 | k::r,a,w=>match ops[k]? with
  | none=>False
  | some o=>if qE o (yielded ops a.tmps) then stKX P (X k) o a w (fun v w'=>walkTX P ops X Q r (a.put o.dst v) w') else walkTX P ops X Q r (a.put o.dst undef) w
def aloneBX (P:Program)(ops:Array Oper)(X:Nat→Bool)(i:Nat)(listed:Array Bool):Bool :=
 match ops[i]? with
 | none=>false
 | some oi=>let ki:=kindOf P oi.op
  if ki=0 then true else
  (List.range ops.size).all fun j=>j == i || listed.getD j true || (match ops[j]? with | some oj=>let kj:=kindOf P oj.op;kj == 0 || (ki == 1 && (kj == 1 || X j)) | none=>true) || waitsB ops i listed ops.size j
def lexTX (P:Program)(ops:Array Oper)(X:Nat→Bool):List Nat→Array Bool→Bool
 | [],listed=>(qT .any ops listed).isEmpty
 | k::r,listed=>(qT .any ops listed).contains k && Region.free .any ops listed k && aloneBX P ops X k listed && lexTX P ops X r (listed.setIfInBounds k true)
def lexAllX (P:Program)(ops:Array Oper)(X:Nat→Bool)(ord:List Nat):Bool:=P.follows .mixedOrders && Region.noSelect ops && ord.length == ops.size && lexTX P ops X ord (Array.replicate ops.size false)
theorem aloneB_specX {oi:Oper}(hi:ops[i]?=some oi)(h:aloneBX P ops X i listed=true) :
  kindOf P oi.op=0∨(kindOf P oi.op=1∧AloneX P ops X i 1 listed)∨(2≤kindOf P oi.op∧AloneX P ops X i 0 listed):=by
 unfold aloneBX at h;simp only[hi]at h
 by_cases h0:kindOf P oi.op=0
 ·exact .inl h0
 ·simp only[h0,if_false]at h
  have key:∀ j oj,ops[j]?=some oj→j≠i→listed.getD j true=false→(kindOf P oj.op=0∨(kindOf P oi.op=1∧(kindOf P oj.op=1∨X j=true)))∨waitsB ops i listed ops.size j=true:=by
   intro j oj hj hji hun;have hlt:j<ops.size:=(Array.getElem?_eq_some_iff.1 hj).1;have:=List.all_eq_true.1 h j (List.mem_range.2 hlt);simp only[hj,hun,Bool.or_false,Bool.or_eq_true,beq_iff_eq,hji,false_or,qL]at this;exact this
  right
  by_cases h1:kindOf P oi.op=1
  ·left
   refine⟨h1,fun j oj hj hji hun=>?_⟩
   rcases key j oj hj hji hun with (h | ⟨_,h | h⟩) | h
   ·exact .inl (.inl (by omega))
   ·exact .inl (.inl (by omega))
   ·exact .inl (.inr ⟨rfl,h⟩)
   ·exact .inr h
  ·right
   refine⟨by omega,fun j oj hj hji hun=>?_⟩
   rcases key j oj hj hji hun with (h | h) | h
   ·exact .inl (.inl (by omega))
   ·exact absurd h.1 h1
   ·exact .inr h
theorem anyT_lexX {Q:Act→World→Prop}(hs:Region.noSelect ops=true):∀ (l:List Nat) (listed:Array Bool) (a:Act) (w:World),
  lexTX P ops X l listed=true→walkTX P ops X Q l a w→anyTX P ops X Q l.length listed a w
 | [],_,_,_,hB,h=>⟨by simpa [lexTX] using hB,h⟩
 | k::l,listed,a,w,hB,h=>by
  simp only[walkTX]at h;split at h
  ·exact h.elim
  rename_i o h0;simp only[lexTX,qL]at hB;obtain⟨⟨⟨hr,hf⟩,hal⟩,hB'⟩:=hB;have hr':k ∈ qT .any ops listed:=by simpa using hr
  have hfree:Free ops k o listed:=Region.free_spec h0 hf;have hsel:=Region.noSelect_spec hs;have hrec:∀ a w,walkTX P ops X Q l a w→anyTX P ops X Q l.length (listed.setIfInBounds k true) a w:=fun a w h=>anyT_lexX hs l _ a w hB' h
  by_cases hw:qE o (yielded ops a.tmps)=true
  ·simp only[hw,if_true]at h
   rcases aloneB_specX h0 hal with hk | ⟨hk,ha⟩ | ⟨hk,ha⟩
   ·unfold stKX at h
    rw[hk]at h;obtain⟨v,h1,h2⟩:=h;exact first0X h0 hsel (fun a w K hy hK=>Yields.stTX' h0 hk hy hK) _ _ _ _ hfree hr' (.inl ⟨hw,h1⟩) (hrec _ _ h2)
   ·unfold stKX at h
    rw[hk]at h;obtain⟨v,h1,h2⟩:=h;exact first1X h0 hk hsel _ _ _ _ hfree ha hr' ⟨hw,h1⟩ (hrec _ _ h2)
   ·exact first2X h0 hk hsel _ _ _ hfree ha hr' hw (by
    unfold stKX at h;split at h
    ·rename_i h0;omega
    ·rename_i h0;omega
    ·exact qZr (fun v w' hv=>⟨hv.1,hrec _ _ hv.2⟩) h)
  ·simp only[hw]at h
   have hw':qE o (yielded ops a.tmps)=false:=by simpa using hw
   exact first0X (v:=undef) h0 hsel (fun a w K hy hK=>by
    rcases hy with ⟨h1,h2⟩ | ⟨h1,_⟩
    ·unfold stTX
     simp only[h0,h1,if_true];unfold stKX;split
     ·exact⟨undef,h2,hK⟩
     ·exact⟨undef,fun w' _=>h2 w',hK⟩
     ·simp only[outE,h2 w];exact⟨fun _=>Ext.refl w,hK⟩
    ·exact unwanted_stTX h0 h1 hK) _ _ _ _ hfree hr' (.inr ⟨hw',rfl⟩) (hrec _ _ h)
theorem wp_drawX {Q:Exit→Act→World→Prop}{a:Act}{ord:List Nat}(hB:lexAllX P ops X ord=true)(h:walkTX P ops X (fun a w=>Q .normal a w) ord a w.drew):(Code.region id ops true).wp P Q a w:=by
 simp only[lexAllX,qL,beq_iff_eq]at hB;refine wp_region_any hB.1.1.1 (any_of_anyTX (X:=X) (fun _ _ h=>h) _ _ _ _ ?_);have:=anyT_lexX (P:=P) (X:=X) (Q:=fun a w=>Q .normal a w) hB.1.1.2 ord (Array.replicate ops.size false) a w.drew hB.2 h;rw[hB.1.2]at this;simpa using this
end
section
variable {P:Program}
theorem dop_read {a:Act}{o:Oper}{K:Value→World→Prop}(h:dop P o.op o.type (evOf a) w K)(hk:kindOf P o.op=1) :
  ∃ v,stepR P (evOf a) w o.op=some v∧K v w:=by
 have r:∀ {op:Op},o.op=op→okO (stepR P (evOf a) w op) (fun v=>K v w)→∃ v,stepR P (evOf a) w o.op=some v∧K v w:=by
  intro op ho h;obtain⟨v,hv,hk⟩:=qKe h;exact⟨v,ho ▸ hv,hk⟩
 obtain⟨dst,op,ty,pos,after,guard⟩:=o;simp only at r h hk;cases op
 case load=>exact r rfl h
 case lookup=>exact r rfl h
 case typeAssert=>exact r rfl h
 case binOp=>simp only[dop]at h;simp only[kindOf]at hk;split at hk <;> simp_all
 case convert=>simp only[kindOf]at hk;split at hk <;> simp_all
 case call c=>simp only[kindOf]at hk;split at hk <;> (try split at hk) <;> simp_all
 all_goals cases hk
theorem dop_stKX {a:Act}{o:Oper}{K:Value→World→Prop}(h:dop P o.op o.type (evOf a) w fun v w'=>(x=true→Ext w w')∧K v w'):stKX P x o a w K:=by
 unfold stKX;split
 ·rename_i h0
  obtain⟨v,h1,h2⟩:=dop_kind0 h h0;exact⟨v,h1,h2.2⟩
 ·rename_i h0
  obtain⟨v,h1,h2⟩:=dop_read h h0;exact⟨v,fun w' he=>stepR_sound (stepR_ext he h1),h2.2⟩
 ·exact dop_sound h
def denLX (P:Program)(ops:Array Oper)(X:Nat→Bool)(K:Ev→World→Prop):List Nat→Ev→World→Prop
 | [],ev,w=>K ev w
 | k::r,ev,w=>match ops[k]? with
  | none=>False
  | some o=>if wantE ops o ev=true then outK P (dopX P o.op o.type ev w) w (fun v w'=>(X k=true→Ext w w')∧denLX P ops X K r (updV ev o.dst v) w') else denLX P ops X K r (updO ev o.dst undef) w
theorem denLX_walk {ops:Array Oper}{X:Nat→Bool}{n:Nat}{K:Ev→World→Prop}{Q:Act→World→Prop}(hQ:∀ a w, a.tmps.size=n→a.defers=[]→K (evOf a) w→Q a w)
  (hall:(ops.toList.all fun o=>dstOk n o.dst)=true) :
  ∀ (l:List Nat) (a:Act) (w:World),a.tmps.size=n→a.defers=[]→denLX P ops X K l (evOf a) w→walkTX P ops X Q l a w
 | [],a,w,hn,hd,h=>hQ a w hn hd h
 | k::r,a,w,hn,hd,h=>by
  simp only[denLX]at h;split at h
  ·exact h.elim
  rename_i o ho;simp only[walkTX,ho,wantE_eq]
  have hl1:dstOk n o.dst=true:=List.all_eq_true.1 hall o (by
   obtain⟨hk,e⟩:=Array.getElem?_eq_some_iff.1 ho
   exact e ▸ Array.getElem_mem_toList hk)
  split at h
  ·rename_i hw
   simp only[hw,if_true];refine stK_monoX (fun v w' hv=>?_) (dop_stKX (dop_of_X h));exact denLX_walk hQ hall r _ w' (by rw[qKc];exact hn) (by rw[qZp];exact hd) (by rw[qJj v hn hl1];exact hv)
  ·rename_i hw
   have hw':wantE ops o (evOf a)=false:=by simpa using hw
   simp only[hw',qD,if_false];exact denLX_walk hQ hall r _ w (by rw[qKc];exact hn) (by rw[qZp];exact hd) (by rw[qJj undef hn hl1];exact h)
theorem codeD_ext {ops:Array Oper}{Q:Post}(X:Nat→Bool)(ord:List Nat)(hB:lexAllX P ops X ord=true)(hd:(ops.toList.all fun o=>dstOk n o.dst)=true)
  (h:denLX P ops X (Q .normal) ord ev w.drew):CodeD P n (.region id ops true) Q ev w:=by
 intro a hn hde hev;subst hev;refine wp_drawX hB (denLX_walk (n:=n) (K:=Q .normal) (fun a w hn hd h=>⟨hn,hd,h⟩) hd ord a w.drew hn hde h)
end
end Go.V
