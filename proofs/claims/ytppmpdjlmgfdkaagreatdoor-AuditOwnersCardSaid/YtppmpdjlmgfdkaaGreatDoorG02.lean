/- Helpers. -/
import Derived.Test.YtppmpdjlmgfdkaaGreatDoorG01
set_option linter.all false
set_option maxRecDepth 100000
set_option maxHeartbeats 8000000
open Bool renaming and_eq_true→qL,not_eq_true'→qC,or_eq_true→qS
open Go.Region renaming ready→qT,wanted→qE
namespace Go.V
variable {listed:Array Bool} {i j m:Nat} {v:Value} {w:World}
section
variable {P:Program} {ops:Array Oper}
def waitsB (ops:Array Oper)(i:Nat)(listed:Array Bool):Nat→Nat→Bool
 | 0,_=>false
 | f+1,j=>match ops[j]? with
  | some o=>o.after.any (fun e=>Region.binds .any e && e.on == i) || o.after.any (fun e=>Region.binds .any e && !listed.getD e.on false && waitsB ops i listed f e.on)
  | none=>false
theorem waitsB_not (hi:listed.getD i false=false){f j:Nat}(h:waitsB ops i listed f j=true):j ∉ qT .any ops listed:=by
 intro hr;obtain⟨_,o,ho,hall⟩:=mem_ready.1 hr
 cases f with
 | zero=>cases h
 | succ f =>
  unfold waitsB at h;simp only[ho,qS]at h
  rcases h with h | h
  ·obtain⟨e,he,hb⟩:=Array.any_eq_true'.1 h
   simp only[qL,beq_iff_eq]at hb;have:=hall e he hb.1;rw[hb.2,hi]at this;cases this
  ·obtain⟨e,he,hb⟩:=Array.any_eq_true'.1 h
   simp only[qL,qC]at hb;have:=hall e he hb.1.1;rw[hb.1.2]at this;cases this
theorem waitsB_set {i j':Nat}(hi:listed.getD i false=false)(hr:j' ∈ qT .any ops listed) :
  ∀ {f j:Nat},waitsB ops i listed f j=true→waitsB ops i (listed.setIfInBounds j' true) f j=true:=by
 intro f
 induction f with
 | zero=>intro j h;cases h
 | succ f ih =>
  intro j h;unfold waitsB at h ⊢;split
  ·rename_i o ho
   simp only[ho,qS]at h ⊢
   rcases h with h | h
   ·exact .inl h
   ·right
    obtain⟨e,he,hb⟩:=Array.any_eq_true'.1 h;simp only[qL,qC]at hb;refine Array.any_eq_true'.2 ⟨e,he,?_⟩;simp only[qL,qC];have hne:j'≠e.on:=fun heq=>waitsB_not hi hb.2 (heq ▸ hr);exact⟨⟨hb.1.1,by rw[getD_set_ne false hne];exact hb.1.2⟩,ih hb.2⟩
  ·rename_i ho;simp[ho]at h
def Alone (P:Program)(ops:Array Oper)(i:Nat)(m:Nat)(listed:Array Bool):Prop :=
 ∀ j oj,ops[j]?=some oj→j≠i→listed.getD j true=false→kindOf P oj.op≤m∨waitsB ops i listed ops.size j=true
theorem getD_ft (h:listed.getD i true=false):listed.getD i false=false:=by
 rcases Nat.lt_or_ge i listed.size with h' | h'
 ·simp[h']at h ⊢;exact h
 ·simp[Array.getElem?_eq_none h']at h
theorem Alone.set (hi:listed.getD i false=false)(hr:j ∈ qT .any ops listed)(h:Alone P ops i m listed):Alone P ops i m (listed.setIfInBounds j true):=by
 intro k ok hk hki hun
 have:listed.getD k true=false:=by
  by_cases hjk:j=k
  ·subst hjk;exact (mem_ready.1 hr).1
  ·rw[getD_set_ne true hjk]at hun;exact hun
 exact (h k ok hk hki this).imp id (waitsB_set hi hr)
theorem Alone.kind {oj:Oper}(h:Alone P ops i m listed)(hi:listed.getD i false=false)(hoj:ops[j]?=some oj)(hji:j≠i)(hj:j ∈ qT .any ops listed):kindOf P oj.op≤m :=
 (h j oj hoj hji (mem_ready.1 hj).1).resolve_right fun hw=>waitsB_not hi hw hj
theorem stT_same {oj:Oper}(hj:ops[j]?=some oj)(hk:kindOf P oj.op≤1){a:Act}{K:Act→World→Prop}(h:stT P ops j K a w):stT P ops j (fun a' w'=>w'=w∧K a' w') a w:=by
 unfold stT at *;simp only[hj]at *;split
 ·rename_i hw
  simp only[hw,if_true]at h;unfold stK at *;split at h
  ·obtain⟨v,h1,h2⟩:=h;exact⟨v,h1,rfl,h2⟩
  ·obtain⟨v,h1,h2⟩:=h;exact⟨v,h1,rfl,h2⟩
  ·rename_i h0 h1
   exact absurd hk (by have a0:kindOf P oj.op≠0:=h0;have a1:kindOf P oj.op≠1:=h1;omega)
 ·rename_i hw
  simp only[hw]at h;exact⟨trivial,h⟩
def Yields1 (P:Program)(ops:Array Oper)(o:Oper)(v:Value)(a:Act)(w:World):Prop :=
 qE o (yielded ops a.tmps)=true∧(execOp a.eval o).run P w=.ok (.value v) w
theorem first1 {Q:Act→World→Prop}{oi:Oper}(hi:ops[i]?=some oi)(hk:kindOf P oi.op=1)
  (hsel:∀ (j:Nat) (o:Oper) cs b,ops[j]?=some o→o.op≠.select cs b) :
  ∀ (f:Nat) (listed:Array Bool) (a:Act),Free ops i oi listed→Alone P ops i 1 listed→i ∈ qT .any ops listed→Yields1 P ops oi v a w →
   anyT P ops Q f (listed.setIfInBounds i true) (a.put oi.dst v) w→anyT P ops Q (f+1) listed a w:=by
 have hst:∀ (a:Act) (K:Act→World→Prop),Yields1 P ops oi v a w→K (a.put oi.dst v) w→stT P ops i K a w:=by
  intro a K hy h;unfold stT;simp only[hi,hy.1,if_true,stK,hk];exact⟨v,hy.2,h⟩
 intro f
 induction f with
 | zero =>
  intro listed a _ _ hr hy H;refine⟨fun h=>(by rw[h]at hr;cases hr),fun j hj=>?_⟩
  by_cases hji:j=i
  ·subst hji;exact hst a _ hy H
  ·have:=ready_mono hj hji
   rw[H.1]at this;cases this
 | succ f ih =>
  intro listed a hfree hal hr hy H;refine⟨fun h=>(by rw[h]at hr;cases hr),fun j hj=>?_⟩
  by_cases hji:j=i
  ·subst hji;exact hst a _ hy H
  ·have h1:=H.2 j (ready_mono hj hji)
   obtain⟨hjun,oj,hoj,_⟩:=mem_ready.1 hj;have hi0:=getD_ft (mem_ready.1 hr).1;have hap:=hfree j oj hoj hji hjun (qKn hr hj hoj);have h2:=stT_same hoj (hal.kind hi0 hoj hji hj) (stT_put hoj hap (fun cs b=>hsel j oj cs b hoj) h1);refine stT_mono (fun a' w' h3=>?_) h2;obtain⟨hw',⟨u,rfl⟩,h4⟩:=h3;subst hw';obtain⟨_,_,h5⟩:=Oper.apart_spec hap;refine ih (listed.setIfInBounds j true) _ hfree.set (hal.set hi0 hj) (ready_mono hr (Ne.symm hji)) ⟨?_,?_⟩ ?_
   ·rw[wanted_put oi a oj.dst u h5];exact hy.1
   ·rw[execOp_put oi (fun cs b=>hsel i oi cs b hi) a oj.dst u h5];exact hy.2
   ·rw[Array.setIfInBounds_comm _ _ hji]
    exact h4
theorem stT_yields {oj:Oper}(hj:ops[j]?=some oj)(hk:kindOf P oj.op≤0){a:Act}{K:Act→World→Prop}(h:stT P ops j K a w) :
  ∃ u,Yields P ops oj u a∧K (a.put oj.dst u) w:=by
 unfold stT at h;simp only[hj]at h;split at h
 ·rename_i hw
  unfold stK at h;rw[Nat.le_zero.1 hk]at h;obtain⟨v,h1,h2⟩:=h;exact⟨v,.inl ⟨hw,h1⟩,h2⟩
 ·rename_i hw
  exact⟨undef,.inr ⟨by simpa using hw,rfl⟩,h⟩
theorem Yields.det {o:Oper}{u v:Value}{a:Act}(w:World)(h:Yields P ops o u a)(h':Yields P ops o v a):u=v:=by
 rcases h with ⟨h1,h2⟩ | ⟨h1,rfl⟩
 ·rcases h' with ⟨_,h4⟩ | ⟨h3,_⟩
  ·have:=(h2 w).symm.trans (h4 w)
   simpa using this
  ·rw[h1]at h3;cases h3
 ·rcases h' with ⟨h3,_⟩ | ⟨_,rfl⟩
  ·rw[h1]at h3;cases h3
  ·rfl
theorem first2 {Q:Act→World→Prop}{oi:Oper}(hi:ops[i]?=some oi)(hk:2≤kindOf P oi.op)
  (hsel:∀ (j:Nat) (o:Oper) cs b,ops[j]?=some o→o.op≠.select cs b) :
  ∀ (f:Nat) (listed:Array Bool) (a:Act),Free ops i oi listed→Alone P ops i 0 listed→i ∈ qT .any ops listed →
   qE oi (yielded ops a.tmps)=true →
   outE P (execOp a.eval oi) w (fun v w'=>anyT P ops Q f (listed.setIfInBounds i true) (a.put oi.dst v) w')→anyT P ops Q (f+1) listed a w:=by
 have hst:∀ (a:Act) (K:Act→World→Prop),qE oi (yielded ops a.tmps)=true→outE P (execOp a.eval oi) w (fun v w'=>K (a.put oi.dst v) w')→stT P ops i K a w:=by
  intro a K hy h;unfold stT;simp only[hi,hy,if_true];unfold stK;split
  ·rename_i h0;omega
  ·rename_i h0;omega
  ·exact h
 intro f
 induction f with
 | zero =>
  intro listed a _ _ hr hy H;refine⟨fun h=>(by rw[h]at hr;cases hr),fun j hj=>?_⟩
  by_cases hji:j=i
  ·subst hji;exact hst a _ hy H
  ·obtain⟨v0,w0,h0⟩:=outE_some H
   have:=ready_mono hj hji;rw[h0.1]at this;cases this
 | succ f ih =>
  intro listed a hfree hal hr hy H;refine⟨fun h=>(by rw[h]at hr;cases hr),fun j hj=>?_⟩
  by_cases hji:j=i
  ·subst hji;exact hst a _ hy H
  ·obtain⟨hjun,oj,hoj,_⟩:=mem_ready.1 hj
   have hi0:=getD_ft (mem_ready.1 hr).1;have hk0:=hal.kind hi0 hoj hji hj;have hap:=hfree j oj hoj hji hjun (qKn hr hj hoj);obtain⟨h3,h4,h5⟩:=Oper.apart_spec hap;have hsj:=fun cs b=>hsel j oj cs b hoj;have hsi:=fun cs b=>hsel i oi cs b hi
   have back:∀ {v u:Value},Yields P ops oj u (a.put oi.dst v)→Yields P ops oj u a:=fun {v u} hyu =>
    hyu.of_same (execOp_put oj hsj a oi.dst v h3).symm (wanted_put oj a oi.dst v h3).symm
   obtain⟨v0,w0,h0⟩:=outE_some H;obtain⟨u,hyu,_⟩:=stT_yields hoj hk0 (h0.2 j (ready_mono hj hji));have hyu':=back hyu;refine Yields.stT' hoj (Nat.le_zero.1 hk0) hyu' ?_;refine ih (listed.setIfInBounds j true) _ hfree.set (hal.set hi0 hj) (ready_mono hr (Ne.symm hji)) (by rw[wanted_put oi a oj.dst u h5];exact hy) ?_;rw[execOp_put oi hsi a oj.dst u h5];refine qZr (fun v w' hv=>?_) H;obtain⟨u',hyu2,hrest⟩:=stT_yields hoj hk0 (hv.2 j (ready_mono hj hji));have:=Yields.det w (back hyu2) hyu';subst this;rw[Array.setIfInBounds_comm _ _ hji,← Act.put_comm a v u' h4];exact hrest
def walkT (P:Program)(ops:Array Oper)(Q:Act→World→Prop):List Oper→Act→World→Prop
 | [],a,w=>Q a w
 | o::r,a,w=>if qE o (yielded ops a.tmps) then stK P o a w (fun v w'=>walkT P ops Q r (a.put o.dst v) w') else walkT P ops Q r (a.put o.dst undef) w
def aloneB (P:Program)(ops:Array Oper)(i:Nat)(listed:Array Bool):Bool :=
 match ops[i]? with
 | none=>false
 | some oi=>let ki:=kindOf P oi.op
  if ki=0 then true else
  (List.range ops.size).all fun j=>j == i || listed.getD j true || (match ops[j]? with | some oj=>let kj:=kindOf P oj.op;kj == 0 || (ki == 1 && kj == 1) | none=>true) || waitsB ops i listed ops.size j
def lexT (P:Program)(ops:Array Oper):Nat→Nat→Array Bool→Bool
 | 0,_,listed=>(qT .any ops listed).isEmpty
 | f+1,k,listed=>(qT .any ops listed).contains k && Region.free .any ops listed k && aloneB P ops k listed && lexT P ops f (k+1) (listed.setIfInBounds k true)
def lexAll (P:Program)(ops:Array Oper):Bool:=P.follows .mixedOrders && Region.noSelect ops && lexT P ops ops.size 0 (Array.replicate ops.size false)
theorem aloneB_spec {oi:Oper}(hi:ops[i]?=some oi)(h:aloneB P ops i listed=true) :
  kindOf P oi.op=0∨(kindOf P oi.op=1∧Alone P ops i 1 listed)∨(2≤kindOf P oi.op∧Alone P ops i 0 listed):=by
 unfold aloneB at h;simp only[hi]at h
 by_cases h0:kindOf P oi.op=0
 ·exact .inl h0
 ·simp only[h0,if_false]at h
  have key:∀ j oj,ops[j]?=some oj→j≠i→listed.getD j true=false→(kindOf P oj.op=0∨(kindOf P oi.op=1∧kindOf P oj.op=1))∨waitsB ops i listed ops.size j=true:=by
   intro j oj hj hji hun;have hlt:j<ops.size:=(Array.getElem?_eq_some_iff.1 hj).1;have:=List.all_eq_true.1 h j (List.mem_range.2 hlt);simp only[hj,hun,Bool.or_false,qS,beq_iff_eq,hji,false_or,qL]at this;exact this
  right
  by_cases h1:kindOf P oi.op=1
  ·left
   refine⟨h1,fun j oj hj hji hun=>?_⟩
   rcases key j oj hj hji hun with (h | h) | h
   ·left;omega
   ·left;omega
   ·exact .inr h
  ·right
   refine⟨by omega,fun j oj hj hji hun=>?_⟩
   rcases key j oj hj hji hun with (h | h) | h
   ·left;omega
   ·exact absurd h.1 h1
   ·exact .inr h
theorem anyT_lex {Q:Act→World→Prop}(hs:Region.noSelect ops=true):∀ (l:List Oper) (k:Nat) (listed:Array Bool) (a:Act) (w:World), (∀ j, l[j]?=ops[k+j]?) →
  lexT P ops l.length k listed=true→walkT P ops Q l a w→anyT P ops Q l.length listed a w
 | [],_,_,_,_,_,hB,h=>⟨by simpa [lexT] using hB,h⟩
 | o::l,k,listed,a,w,hl,hB,h=>by
  have h0:ops[k]?=some o:=by simpa using (hl 0).symm
  simp only[List.length_cons,lexT,qL]at hB;obtain⟨⟨⟨hr,hf⟩,hal⟩,hB'⟩:=hB;have hr':k ∈ qT .any ops listed:=by simpa using hr
  have hfree:Free ops k o listed:=Region.free_spec h0 hf;have hl':∀ j,l[j]?=ops[k+1+j]?:=fun j=>by have:=hl (j+1);simpa [Nat.add_assoc,Nat.add_comm 1 j] using this
  have hsel:=Region.noSelect_spec hs;have hrec:∀ a w,walkT P ops Q l a w→anyT P ops Q l.length (listed.setIfInBounds k true) a w:=fun a w h=>anyT_lex hs l (k+1) _ a w hl' hB' h;simp only[walkT]at h
  by_cases hw:qE o (yielded ops a.tmps)=true
  ·simp only[hw,if_true]at h
   rcases aloneB_spec h0 hal with hk | ⟨hk,ha⟩ | ⟨hk,ha⟩
   ·unfold stK at h
    rw[hk]at h;obtain⟨v,h1,h2⟩:=h;exact first0 h0 hsel (fun a w K hy hK=>Yields.stT' h0 hk hy hK) _ _ _ _ hfree hr' (.inl ⟨hw,h1⟩) (hrec _ _ h2)
   ·unfold stK at h
    rw[hk]at h;obtain⟨v,h1,h2⟩:=h;exact first1 h0 hk hsel _ _ _ hfree ha hr' ⟨hw,h1⟩ (hrec _ _ h2)
   ·exact first2 h0 hk hsel _ _ _ hfree ha hr' hw (qZr (fun v w' hv=>hrec _ _ hv) (stK_out h))
  ·simp only[hw]at h
   have hw':qE o (yielded ops a.tmps)=false:=by simpa using hw
   exact first0 (v:=undef) h0 hsel (fun a w K hy hK=>by
    rcases hy with ⟨h1,h2⟩ | ⟨h1,_⟩
    ·unfold stT
     simp only[h0,h1,if_true];unfold stK;split
     ·exact⟨undef,h2,hK⟩
     ·exact⟨undef,h2 w,hK⟩
     ·simp only[outE,h2 w];exact hK
    ·exact unwanted_stT h0 h1 hK) _ _ _ _ hfree hr' (.inr ⟨hw',rfl⟩) (hrec _ _ h)
theorem wp_draw {id:Nat}{Q:Exit→Act→World→Prop}{a:Act}(hB:lexAll P ops=true)(h:walkT P ops (fun a w=>Q .normal a w) ops.toList a w.drew):(Code.region id ops true).wp P Q a w:=by
 simp only[lexAll,qL]at hB;refine wp_region_any hB.1.1 (any_of_anyT (fun _ _ h=>h) _ _ _ _ ?_);have:=anyT_lex (P:=P) (Q:=fun a w=>Q .normal a w) hB.1.2 ops.toList 0 (Array.replicate ops.size false) a w.drew (by simp) (by simpa using hB.2) h;simpa using this
end
end Go.V
