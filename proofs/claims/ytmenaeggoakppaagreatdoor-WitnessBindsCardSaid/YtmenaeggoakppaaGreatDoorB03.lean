/-
 Helpers: LibG, LibH, LibI.
-/
import Derived.Still
import Derived.Test.YtmenaeggoakppaaGreatDoorB02
set_option linter.all false
section
namespace Go.V
variable {P:Program}
/-- ONE OPERATION -/
def dop (P:Program) (op:Op) (ty:TypeId) (ev:Ev) (w:World) (K:Value→World→Prop):Prop :=
 match op with
 | .load t x=>okO (stepR P ev w (.load t x)) fun v=>K v w
 | .lookup t m k ok=>okO (stepR P ev w (.lookup t m k ok)) fun v=>K v w
 | .typeAssert x xt t ok=>okO (stepR P ev w (.typeAssert x xt t ok)) fun v=>K v w
 | .binOp op t x y z=>if flatT P t=true then okO (stepP P ev (.binOp op t x y z)) fun v=>K v w else okO (stepR P ev w (.binOp op t x y z)) fun v=>K v w
 | .convert s d x=>if cvP P s d=true then okO (stepP P ev (.convert s d x)) fun v=>K v w else ConvD P s d (evO ev x) w K
 | .alloc t=>okO (stepE P ev w (.alloc t)) fun p=>K p.1 p.2
 | .box t x=>okO (stepE P ev w (.box t x)) fun p=>K p.1 p.2
 | .buildSlice t n ps=>okO (stepE P ev w (.buildSlice t n ps)) fun p=>K p.1 p.2
 | .store t x v=>okO (stepE P ev w (.store t x v)) fun p=>K p.1 p.2
 | .makeMap t none=>okO (stepE P ev w (.makeMap t none)) fun p=>K p.1 p.2
 | .makeMap t (some r)=>SemD P (Instr.makeMap t (some (evO ev r))) w K
 | .mapUpdate t m k v=>okO (stepE P ev w (.mapUpdate t m k v)) fun p=>K p.1 p.2
 | .insert t m k v=>okO (stepE P ev w (.insert t m k v)) fun p=>K p.1 p.2
 | .makeSlice t l c=>SemD P (Instr.makeSlice t (evO ev l) (evO ev c)) w K
 | .mapEntry t m k=>SemD P (Instr.mapEntry t (evO ev m) (evO ev k)) w K
 | .entryStore t m s x=>SemD P (do Instr.entryStore t (evO ev m) (evO ev s) (evO ev x);pure undef) w K
 | .range t x=>SemD P (Instr.range t (evO ev x)) w K
 | .next x s=>SemD P (Instr.next (evO ev x) s ty) w K
 | .entry x=>SemD P (Instr.entry (evO ev x)) w K
 | .call c=>dcall P c ev w K
 | op=>okO (stepP P ev op) fun v=>K v w
/-- which kind: 0 looks at no memory, 1 leaves it alone, 2 all else -/
def kindOf (P:Program) (op:Op):Nat :=
 match op with
 | .load .. | .lookup .. | .typeAssert ..=>1
 | .binOp _ t _ _ _=>if flatT P t=true then 0 else 1
 | .convert s d _=>if cvP P s d=true then 0 else 2
 | .alloc _ | .box .. | .buildSlice .. | .store .. | .makeMap .. | .mapUpdate .. | .insert .. | .makeSlice .. | .mapEntry .. | .entryStore .. | .range .. | .next .. | .entry ..=>2
 | .call c=>match c.callee with | .builtin b=>if biK P b c.argTypes=true then 0 else 2 | _=>2
 | _=>0
theorem dop_sound {a:Act} {o:Oper} {w:World} {K:Value→World→Prop} (h:dop P o.op o.type (evOf a) w K):outE P (execOp a.eval o) w K:=by
 have p:∀ {op:Op},o.op=op→okO (stepP P (evOf a) op) (fun v=>K v w)→outE P (execOp a.eval o) w K:=by
  intro op ho h
  obtain⟨v,hv,hk⟩:=okO_elim h
  simp only[outE,stepP_sound (ho ▸ hv) w];exact hk
 have r:∀ {op:Op},o.op=op→okO (stepR P (evOf a) w op) (fun v=>K v w)→outE P (execOp a.eval o) w K:=by
  intro op ho h
  obtain⟨v,hv,hk⟩:=okO_elim h
  simp only[outE,stepR_sound (ho ▸ hv)];exact hk
 have e:∀ {op:Op},o.op=op→okO (stepE P (evOf a) w op) (fun p=>K p.1 p.2)→outE P (execOp a.eval o) w K:=by
  intro op ho h
  exact stepE_sound (ho ▸ h)
 obtain⟨dst,op,ty,pos,after,guard⟩:=o
 simp only at p r e h
 cases op
 case load=>exact r rfl h
 case lookup=>exact r rfl h
 case typeAssert=>exact r rfl h
 case binOp =>
  simp only[dop] at h
  split at h
  ·exact p rfl h
  ·exact r rfl h
 case convert =>
  simp only[dop] at h
  split at h
  ·exact p rfl h
  ·have:=outE_semD h;rw[← eval_evOf] at this;exact this
 case alloc=>exact e rfl h
 case box=>exact e rfl h
 case buildSlice=>exact e rfl h
 case store=>exact e rfl h
 case mapUpdate=>exact e rfl h
 case insert=>exact e rfl h
 case makeMap t mr =>
  cases mr with
  | none=>exact e rfl h
  | some mr=>have:=outE_semD h;rw[← eval_evOf] at this;exact this
 case makeSlice=>have:=outE_semD h;rw[← eval_evOf] at this;exact this
 case mapEntry=>have:=outE_semD h;rw[← eval_evOf] at this;exact this
 case range=>have:=outE_semD h;rw[← eval_evOf] at this;exact this
 case next=>have:=outE_semD h;rw[← eval_evOf] at this;exact this
 case entry=>have:=outE_semD h;rw[← eval_evOf] at this;exact this
 case entryStore t m s x =>
  obtain⟨v,w',hr,hk⟩:=h
  simp only[outE,execOp,eval_evOf,Sem.run_bind] at hr ⊢
  cases hs:(Instr.entryStore t (evO (evOf a) m) (evO (evOf a) s) (evO (evOf a) x)).run P w with
  | ok u w1 =>
   rw[hs] at hr
   simp only[Result.andThen_ok,Sem.run_pure,Result.ok.injEq] at hr
   obtain⟨rfl,rfl⟩:=hr
   simpa using hk
  | halt x w1=>rw[hs] at hr;simp at hr
 case call=>exact dcall_sound h
 all_goals exact p rfl h
/-- what an operation of the first kind yields it yields in every world -/
theorem dop_kind0 {a : Act} {o : Oper} {w : World} {K : Value → World → Prop} (h : dop P o.op o.type (evOf a) w K) (hk : kindOf P o.op = 0) :
    ∃ v,(∀ w',(execOp a.eval o).run P w' = .ok (.value v) w') ∧ K v w := by
 have p:∀ {op:Op},o.op=op→okO (stepP P (evOf a) op) (fun v=>K v w)→∃ v,(∀ w',(execOp a.eval o).run P w'=.ok (.value v) w')∧K v w:=by
  intro op ho h
  obtain⟨v,hv,hk⟩:=okO_elim h
  exact⟨v,fun w'=>stepP_sound (ho ▸ hv) w',hk⟩
 obtain⟨dst,op,ty,pos,after,guard⟩:=o
 simp only at p h hk
 cases op
 case load | lookup | typeAssert | alloc | box | buildSlice | store | mapUpdate | insert | makeMap | makeSlice | mapEntry | range | next | entry | entryStore=>cases hk
 case binOp=>simp only[dop] at h;simp only[kindOf] at hk;split at hk <;> simp_all
 case convert=>simp only[dop] at h;simp only[kindOf] at hk;split at hk <;> simp_all
 case call c =>
  simp only[kindOf] at hk
  split at hk
  ·rename_i b hb
   split at hk
   ·rename_i hbi
    simp only[dop] at h
    unfold dcall at h
    rw[hb] at h
    simp only[hbi,if_true] at h
    refine p (op:=.call c) rfl ?_
    obtain⟨callee,args,ts⟩:=c
    simp only at hb
    subst hb
    exact h
   ·cases hk
  ·cases hk
 all_goals exact p rfl h
theorem dop_kind1 {a : Act} {o : Oper} {w : World} {K : Value → World → Prop} (h : dop P o.op o.type (evOf a) w K) (hk : kindOf P o.op = 1) :
    ∃ v,(execOp a.eval o).run P w = .ok (.value v) w ∧ K v w := by
 have r:∀ {op:Op},o.op=op→okO (stepR P (evOf a) w op) (fun v=>K v w)→∃ v,(execOp a.eval o).run P w=.ok (.value v) w∧K v w:=by
  intro op ho h
  obtain⟨v,hv,hk⟩:=okO_elim h
  exact⟨v,stepR_sound (ho ▸ hv),hk⟩
 obtain⟨dst,op,ty,pos,after,guard⟩:=o
 simp only at r h hk
 cases op
 case load=>exact r rfl h
 case lookup=>exact r rfl h
 case typeAssert=>exact r rfl h
 case binOp=>simp only[dop] at h;simp only[kindOf] at hk;split at hk <;> simp_all
 case convert=>simp only[kindOf] at hk;split at hk <;> simp_all
 case call c=>simp only[kindOf] at hk;split at hk <;> (try split at hk) <;> simp_all
 all_goals cases hk
end Go.V
end
section
namespace Go.V
variable {P:Program} {ops:Array Oper}
def stK (P:Program) (o:Oper) (a:Act) (w:World) (K:Value→World→Prop):Prop :=
 match kindOf P o.op with
 | 0=>∃ v,(∀ w',(execOp a.eval o).run P w'=.ok (.value v) w')∧K v w
 | 1=>∃ v,(execOp a.eval o).run P w=.ok (.value v) w∧K v w
 | _=>outE P (execOp a.eval o) w K
theorem stK_mono {o:Oper} {a:Act} {w:World} {K K':Value→World→Prop} (hk:∀ v w',K v w'→K' v w') (h:stK P o a w K):stK P o a w K':=by
 unfold stK at *
 split at h
 ·obtain⟨v,h1,h2⟩:=h;exact⟨v,h1,hk _ _ h2⟩
 ·obtain⟨v,h1,h2⟩:=h;exact⟨v,h1,hk _ _ h2⟩
 ·exact outE_mono hk h
theorem stK_out {o:Oper} {a:Act} {w:World} {K:Value→World→Prop} (h:stK P o a w K):outE P (execOp a.eval o) w K:=by
 unfold stK at h
 split at h
 ·obtain⟨v,h1,h2⟩:=h;simp only[outE,h1 w];exact h2
 ·obtain⟨v,h1,h2⟩:=h;simp only[outE,h1];exact h2
 ·exact h
theorem stK_congr {o:Oper} {a a':Act} {w:World} {K:Value→World→Prop} (he:execOp a'.eval o=execOp a.eval o) (h:stK P o a w K):stK P o a' w K:=by
 unfold stK at *
 rw[he];exact h
def stT (P:Program) (ops:Array Oper) (i:Nat) (K:Act→World→Prop) (a:Act) (w:World):Prop :=
 match ops[i]? with
 | none=>K a w
 | some o=>if Region.wanted o (yielded ops a.tmps) then stK P o a w (fun v w'=>K (a.put o.dst v) w') else K (a.put o.dst undef) w
def anyT (P:Program) (ops:Array Oper) (Q:Act→World→Prop):Nat→Array Bool→Act→World→Prop
 | 0,listed,a,w=>Region.ready .any ops listed=[]∧Q a w
 | f+1,listed,a,w=>(Region.ready .any ops listed=[]→Q a w)∧∀ i ∈ Region.ready .any ops listed,stT P ops i (anyT P ops Q f (listed.setIfInBounds i true)) a w
theorem stT_wp {i : Nat} {a : Act} {w : World} {K : Act → World → Prop} {N : Act → World → Prop} {Q : Exit → Act → World → Prop} (hk : ∀ a w, K a w → N a w) (h : stT P ops i K a w) :
    wpOp P ops Q i N a w := by
 unfold stT at h
 unfold wpOp
 split
 ·rename_i ho;simp only[ho] at h;exact hk _ _ h
 ·rename_i o ho
  simp only[ho] at h
  split
  ·rename_i hw
   simp only[hw,if_true] at h
   exact .inl (wp_of_outE (stK_out h) fun v w' hv=>hk _ _ hv)
  ·rename_i hw
   simp only[hw] at h
   exact hk _ _ h
theorem any_of_anyT {Q : Act → World → Prop} {Q' : Exit → Act → World → Prop} (hQ : ∀ a w, Q a w → Q' .normal a w) : ∀ (f : Nat) (listed : Array Bool) (a : Act) (w : World),
    anyT P ops Q f listed a w → wpAny P .any ops Q' f listed a w
 | 0,_,_,_,h=>⟨h.1,hQ _ _ h.2⟩
 | f+1,_,_,_,h=>⟨fun h0=>hQ _ _ (h.1 h0),fun i hi=>stT_wp (fun a w=>any_of_anyT hQ f _ a w) (h.2 i hi)⟩
theorem stT_mono {i:Nat} {a:Act} {w:World} {K K':Act→World→Prop} (hk:∀ a w,K a w→K' a w) (h:stT P ops i K a w):stT P ops i K' a w:=by
 unfold stT at *
 split
 ·rename_i ho;simp only[ho] at h;exact hk _ _ h
 ·rename_i o ho
  simp only[ho] at h
  split
  ·rename_i hw;simp only[hw,if_true] at h;exact stK_mono (fun v w'=>hk _ _) h
  ·rename_i hw;simp only[hw] at h;exact hk _ _ h
section
variable {i j:Nat} {oi oj:Oper} (hj:ops[j]?=some oj) (hap:oi.apart ops oj=true)
 (hsi:∀ cs b,oi.op≠.select cs b) (hsj:∀ cs b,oj.op≠.select cs b)
include hj hap hsj in
/-- an operation behind another's value that it does not look at -/
theorem stT_put {v : Value} {K : Act → World → Prop} {a : Act} {w : World} (h : stT P ops j K (a.put oi.dst v) w) :
    stT P ops j (fun a' w' => (∃ u,a' = a.put oj.dst u) ∧ K (a'.put oi.dst v) w') a w := by
 obtain⟨h1,h2,h3⟩:=Oper.apart_spec hap
 unfold stT at *
 simp only[hj] at *
 rw[wanted_put oj a oi.dst v h1] at h
 have hc:∀ u,(a.put oi.dst v).put oj.dst u=(a.put oj.dst u).put oi.dst v:=fun u=>Act.put_comm a v u h2
 split
 ·rename_i hw
  simp only[hw,if_true] at h
  refine stK_mono (fun u w' hu=>?_) (stK_congr (execOp_put oj hsj a oi.dst v h1).symm h)
  exact⟨⟨u,rfl⟩,by rw[← hc];exact hu⟩
 ·rename_i hw
  simp only[hw] at h
  exact⟨⟨undef,rfl⟩,by rw[← hc];exact h⟩
include hap hsi in
theorem yields_put {v:Value} {a:Act} (u:Value) (hy:Yields P ops oi v a):Yields P ops oi v (a.put oj.dst u):=by
 obtain⟨_,_,h3⟩:=Oper.apart_spec hap
 exact hy.of_same (execOp_put oi hsi a oj.dst u h3) (wanted_put oi a oj.dst u h3)
end
theorem Yields.stT' {i:Nat} {o:Oper} {v:Value} {a:Act} {w:World} (hi:ops[i]?=some o) (hk:kindOf P o.op=0) (hy:Yields P ops o v a) {K:Act→World→Prop} (h:K (a.put o.dst v) w):stT P ops i K a w:=by
 unfold stT
 simp only[hi]
 rcases hy with ⟨hw,hv⟩ | ⟨hw,rfl⟩
 ·simp only[hw,if_true,stK,hk];exact⟨v,hv,h⟩
 ·simp only[hw,Bool.false_eq_true,if_false];exact h
theorem unwanted_stT {i:Nat} {o:Oper} {a:Act} {w:World} (hi:ops[i]?=some o) (hw:Region.wanted o (yielded ops a.tmps)=false) {K:Act→World→Prop} (h:K (a.put o.dst undef) w):stT P ops i K a w:=by
 unfold stT
 simp only[hi,hw,Bool.false_eq_true,if_false];exact h
/-- what 'first' asks of those that may still come up and do not wait -/
def Free (ops:Array Oper) (i:Nat) (oi:Oper) (listed:Array Bool):Prop :=
 ∀ j oj,ops[j]?=some oj→j≠i→listed.getD j true=false→(∀ e ∈ oj.after,Region.binds .any e=true→e.on≠i)→oi.apart ops oj=true
theorem Free.set {i j:Nat} {oi:Oper} {listed:Array Bool} (h:Free ops i oi listed):Free ops i oi (listed.setIfInBounds j true):=by
 intro k ok hk hki hun hno
 refine h k ok hk hki ?_ hno
 by_cases hjk:j=k
 ·subst hjk
  rcases Nat.lt_or_ge j listed.size with h' | h'
  ·simp[h'] at hun
  ·simp at hun
 ·rw[getD_set_ne true hjk] at hun;exact hun
theorem ready_not {i j : Nat} {oj : Oper} {listed : Array Bool} (hr : i ∈ Region.ready .any ops listed) (hj : j ∈ Region.ready .any ops listed) (hoj : ops[j]? = some oj) :
    ∀ e ∈ oj.after,Region.binds .any e = true → e.on ≠ i := by
 obtain⟨_,oj',hoj',hall⟩:=mem_ready.1 hj
 have:oj=oj':=Option.some.inj (hoj.symm.trans hoj')
 subst this
 intro e he hb heq
 have h1:=hall e he hb
 have h0:=(mem_ready.1 hr).1
 rw[heq] at h1
 rcases Nat.lt_or_ge i listed.size with h' | h'
 ·simp[h'] at h0 h1;rw[h0] at h1;cases h1
 ·simp[Array.getElem?_eq_none h'] at h1
theorem first0 {Q : Act → World → Prop} {i : Nat} {oi : Oper} {v : Value} (hi : ops[i]? = some oi)
    (hsel : ∀ (j : Nat) (o : Oper) cs b,ops[j]? = some o → o.op ≠ .select cs b)
    (hst : ∀ (a : Act) (w : World) (K : Act → World → Prop),Yields P ops oi v a → K (a.put oi.dst v) w → stT P ops i K a w) :
    ∀ (f : Nat) (listed : Array Bool) (a : Act) (w : World),Free ops i oi listed → i ∈ Region.ready .any ops listed → Yields P ops oi v a →
      anyT P ops Q f (listed.setIfInBounds i true) (a.put oi.dst v) w → anyT P ops Q (f + 1) listed a w := by
 intro f
 induction f with
 | zero =>
  intro listed a w _ hr hy H
  refine⟨fun h=>(by rw[h] at hr;cases hr),fun j hj=>?_⟩
  by_cases hji:j=i
  ·subst hji;exact hst a w _ hy H
  ·have:=ready_mono hj hji
   rw[H.1] at this;cases this
 | succ f ih =>
  intro listed a w hfree hr hy H
  refine⟨fun h=>(by rw[h] at hr;cases hr),fun j hj=>?_⟩
  by_cases hji:j=i
  ·subst hji;exact hst a w _ hy H
  ·have h1:=H.2 j (ready_mono hj hji)
   obtain⟨hjun,oj,hoj,_⟩:=mem_ready.1 hj
   have hap:=hfree j oj hoj hji hjun (ready_not hr hj hoj)
   have h2:=stT_put hoj hap (fun cs b=>hsel j oj cs b hoj) h1
   refine stT_mono (fun a' w' h3=>?_) h2
   obtain⟨⟨u,rfl⟩,h4⟩:=h3
   refine ih (listed.setIfInBounds j true) _ w' hfree.set (ready_mono hr (Ne.symm hji)) (yields_put hap (fun cs b=>hsel i oi cs b hi) u hy) ?_
   rw[Array.setIfInBounds_comm _ _ hji]
   exact h4
end Go.V
end
section
namespace Go.V
variable {P:Program} {ops:Array Oper}
/-- does j wait for i, over others that have not come up? -/
def waitsB (ops:Array Oper) (i:Nat) (listed:Array Bool):Nat→Nat→Bool
 | 0,_=>false
 | f+1,j=>match ops[j]? with
  | some o=>o.after.any (fun e=>Region.binds .any e && e.on == i) || o.after.any (fun e=>Region.binds .any e && !listed.getD e.on false && waitsB ops i listed f e.on)
  | none=>false
theorem waitsB_not {i:Nat} {listed:Array Bool} (hi:listed.getD i false=false) {f j:Nat} (h:waitsB ops i listed f j=true):j ∉ Region.ready .any ops listed:=by
 intro hr
 obtain⟨_,o,ho,hall⟩:=mem_ready.1 hr
 cases f with
 | zero=>cases h
 | succ f =>
  unfold waitsB at h
  simp only[ho,Bool.or_eq_true] at h
  rcases h with h | h
  ·obtain⟨e,he,hb⟩:=Array.any_eq_true'.1 h
   simp only[Bool.and_eq_true,beq_iff_eq] at hb
   have:=hall e he hb.1
   rw[hb.2,hi] at this;cases this
  ·obtain⟨e,he,hb⟩:=Array.any_eq_true'.1 h
   simp only[Bool.and_eq_true,Bool.not_eq_true'] at hb
   have:=hall e he hb.1.1
   rw[hb.1.2] at this;cases this
theorem waitsB_set {i j' : Nat} {listed : Array Bool} (hi : listed.getD i false = false) (hr : j' ∈ Region.ready .any ops listed) :
    ∀ {f j : Nat},waitsB ops i listed f j = true → waitsB ops i (listed.setIfInBounds j' true) f j = true := by
 intro f
 induction f with
 | zero=>intro j h;cases h
 | succ f ih =>
  intro j h
  unfold waitsB at h ⊢
  split
  ·rename_i o ho
   simp only[ho,Bool.or_eq_true] at h ⊢
   rcases h with h | h
   ·exact .inl h
   ·right
    obtain⟨e,he,hb⟩:=Array.any_eq_true'.1 h
    simp only[Bool.and_eq_true,Bool.not_eq_true'] at hb
    refine Array.any_eq_true'.2 ⟨e,he,?_⟩
    simp only[Bool.and_eq_true,Bool.not_eq_true']
    have hne:j'≠e.on:=fun heq=>waitsB_not hi hb.2 (heq ▸ hr)
    exact⟨⟨hb.1.1,by rw[getD_set_ne false hne];exact hb.1.2⟩,ih hb.2⟩
  ·rename_i ho;simp[ho] at h
/-- those that may come up ahead of i: only such as leave it alone -/
def Alone (P:Program) (ops:Array Oper) (i:Nat) (m:Nat) (listed:Array Bool):Prop :=
 ∀ j oj,ops[j]?=some oj→j≠i→listed.getD j true=false→kindOf P oj.op≤m∨waitsB ops i listed ops.size j=true
theorem getD_ft {listed:Array Bool} {i:Nat} (h:listed.getD i true=false):listed.getD i false=false:=by
 rcases Nat.lt_or_ge i listed.size with h' | h'
 ·simp[h'] at h ⊢;exact h
 ·simp[Array.getElem?_eq_none h'] at h
theorem Alone.set {i j m:Nat} {listed:Array Bool} (hi:listed.getD i false=false) (hr:j ∈ Region.ready .any ops listed) (h:Alone P ops i m listed):Alone P ops i m (listed.setIfInBounds j true):=by
 intro k ok hk hki hun
 have:listed.getD k true=false:=by
  by_cases hjk:j=k
  ·subst hjk;exact (mem_ready.1 hr).1
  ·rw[getD_set_ne true hjk] at hun;exact hun
 exact (h k ok hk hki this).imp id (waitsB_set hi hr)
theorem Alone.kind {i j m:Nat} {oj:Oper} {listed:Array Bool} (h:Alone P ops i m listed) (hi:listed.getD i false=false) (hoj:ops[j]?=some oj) (hji:j≠i) (hj:j ∈ Region.ready .any ops listed):kindOf P oj.op≤m :=
 (h j oj hoj hji (mem_ready.1 hj).1).resolve_right fun hw=>waitsB_not hi hw hj
/-- operations of the first two kinds leave the world alone -/
theorem stT_same {j:Nat} {oj:Oper} (hj:ops[j]?=some oj) (hk:kindOf P oj.op≤1) {a:Act} {w:World} {K:Act→World→Prop} (h:stT P ops j K a w):stT P ops j (fun a' w'=>w'=w∧K a' w') a w:=by
 unfold stT at *
 simp only[hj] at *
 split
 ·rename_i hw
  simp only[hw,if_true] at h
  unfold stK at *
  split at h
  ·obtain⟨v,h1,h2⟩:=h;exact⟨v,h1,rfl,h2⟩
  ·obtain⟨v,h1,h2⟩:=h;exact⟨v,h1,rfl,h2⟩
  ·rename_i h0 h1
   exact absurd hk (by have a0:kindOf P oj.op≠0:=h0;have a1:kindOf P oj.op≠1:=h1;omega)
 ·rename_i hw
  simp only[hw] at h
  exact⟨trivial,h⟩
def Yields1 (P:Program) (ops:Array Oper) (o:Oper) (v:Value) (a:Act) (w:World):Prop :=
 Region.wanted o (yielded ops a.tmps)=true∧(execOp a.eval o).run P w=.ok (.value v) w
theorem first1 {Q : Act → World → Prop} {i : Nat} {oi : Oper} {v : Value} {w : World} (hi : ops[i]? = some oi) (hk : kindOf P oi.op = 1)
    (hsel : ∀ (j : Nat) (o : Oper) cs b,ops[j]? = some o → o.op ≠ .select cs b) :
    ∀ (f : Nat) (listed : Array Bool) (a : Act),Free ops i oi listed → Alone P ops i 1 listed → i ∈ Region.ready .any ops listed → Yields1 P ops oi v a w →
      anyT P ops Q f (listed.setIfInBounds i true) (a.put oi.dst v) w → anyT P ops Q (f + 1) listed a w := by
 have hst:∀ (a:Act) (K:Act→World→Prop),Yields1 P ops oi v a w→K (a.put oi.dst v) w→stT P ops i K a w:=by
  intro a K hy h
  unfold stT
  simp only[hi,hy.1,if_true,stK,hk]
  exact⟨v,hy.2,h⟩
 intro f
 induction f with
 | zero =>
  intro listed a _ _ hr hy H
  refine⟨fun h=>(by rw[h] at hr;cases hr),fun j hj=>?_⟩
  by_cases hji:j=i
  ·subst hji;exact hst a _ hy H
  ·have:=ready_mono hj hji
   rw[H.1] at this;cases this
 | succ f ih =>
  intro listed a hfree hal hr hy H
  refine⟨fun h=>(by rw[h] at hr;cases hr),fun j hj=>?_⟩
  by_cases hji:j=i
  ·subst hji;exact hst a _ hy H
  ·have h1:=H.2 j (ready_mono hj hji)
   obtain⟨hjun,oj,hoj,_⟩:=mem_ready.1 hj
   have hi0:=getD_ft (mem_ready.1 hr).1
   have hap:=hfree j oj hoj hji hjun (ready_not hr hj hoj)
   have h2:=stT_same hoj (hal.kind hi0 hoj hji hj) (stT_put hoj hap (fun cs b=>hsel j oj cs b hoj) h1)
   refine stT_mono (fun a' w' h3=>?_) h2
   obtain⟨hw',⟨u,rfl⟩,h4⟩:=h3
   subst hw'
   obtain⟨_,_,h5⟩:=Oper.apart_spec hap
   refine ih (listed.setIfInBounds j true) _ hfree.set (hal.set hi0 hj) (ready_mono hr (Ne.symm hji)) ⟨?_,?_⟩ ?_
   ·rw[wanted_put oi a oj.dst u h5];exact hy.1
   ·rw[execOp_put oi (fun cs b=>hsel i oi cs b hi) a oj.dst u h5];exact hy.2
   ·rw[Array.setIfInBounds_comm _ _ hji]
    exact h4
theorem stT_yields {j : Nat} {oj : Oper} (hj : ops[j]? = some oj) (hk : kindOf P oj.op ≤ 0) {a : Act} {w : World} {K : Act → World → Prop} (h : stT P ops j K a w) :
    ∃ u,Yields P ops oj u a ∧ K (a.put oj.dst u) w := by
 unfold stT at h
 simp only[hj] at h
 split at h
 ·rename_i hw
  unfold stK at h
  rw[Nat.le_zero.1 hk] at h
  obtain⟨v,h1,h2⟩:=h
  exact⟨v,.inl ⟨hw,h1⟩,h2⟩
 ·rename_i hw
  exact⟨undef,.inr ⟨by simpa using hw,rfl⟩,h⟩
theorem Yields.det {o:Oper} {u v:Value} {a:Act} (w:World) (h:Yields P ops o u a) (h':Yields P ops o v a):u=v:=by
 rcases h with ⟨h1,h2⟩ | ⟨h1,rfl⟩
 ·rcases h' with ⟨_,h4⟩ | ⟨h3,_⟩
  ·have:=(h2 w).symm.trans (h4 w)
   simpa using this
  ·rw[h1] at h3;cases h3
 ·rcases h' with ⟨h3,_⟩ | ⟨_,rfl⟩
  ·rw[h1] at h3;cases h3
  ·rfl
theorem first2 {Q : Act → World → Prop} {i : Nat} {oi : Oper} {w : World} (hi : ops[i]? = some oi) (hk : 2 ≤ kindOf P oi.op)
    (hsel : ∀ (j : Nat) (o : Oper) cs b,ops[j]? = some o → o.op ≠ .select cs b) :
    ∀ (f : Nat) (listed : Array Bool) (a : Act),Free ops i oi listed → Alone P ops i 0 listed → i ∈ Region.ready .any ops listed →
      Region.wanted oi (yielded ops a.tmps) = true →
      outE P (execOp a.eval oi) w (fun v w' => anyT P ops Q f (listed.setIfInBounds i true) (a.put oi.dst v) w') → anyT P ops Q (f + 1) listed a w := by
 have hst:∀ (a:Act) (K:Act→World→Prop),Region.wanted oi (yielded ops a.tmps)=true→outE P (execOp a.eval oi) w (fun v w'=>K (a.put oi.dst v) w')→stT P ops i K a w:=by
  intro a K hy h
  unfold stT
  simp only[hi,hy,if_true]
  unfold stK
  split
  ·rename_i h0;omega
  ·rename_i h0;omega
  ·exact h
 intro f
 induction f with
 | zero =>
  intro listed a _ _ hr hy H
  refine⟨fun h=>(by rw[h] at hr;cases hr),fun j hj=>?_⟩
  by_cases hji:j=i
  ·subst hji;exact hst a _ hy H
  ·obtain⟨v0,w0,h0⟩:=outE_some H
   have:=ready_mono hj hji
   rw[h0.1] at this;cases this
 | succ f ih =>
  intro listed a hfree hal hr hy H
  refine⟨fun h=>(by rw[h] at hr;cases hr),fun j hj=>?_⟩
  by_cases hji:j=i
  ·subst hji;exact hst a _ hy H
  ·obtain⟨hjun,oj,hoj,_⟩:=mem_ready.1 hj
   have hi0:=getD_ft (mem_ready.1 hr).1
   have hk0:=hal.kind hi0 hoj hji hj
   have hap:=hfree j oj hoj hji hjun (ready_not hr hj hoj)
   obtain⟨h3,h4,h5⟩:=Oper.apart_spec hap
   have hsj:=fun cs b=>hsel j oj cs b hoj
   have hsi:=fun cs b=>hsel i oi cs b hi
   have back:∀ {v u:Value},Yields P ops oj u (a.put oi.dst v)→Yields P ops oj u a:=fun {v u} hyu =>
    hyu.of_same (execOp_put oj hsj a oi.dst v h3).symm (wanted_put oj a oi.dst v h3).symm
   obtain⟨v0,w0,h0⟩:=outE_some H
   obtain⟨u,hyu,_⟩:=stT_yields hoj hk0 (h0.2 j (ready_mono hj hji))
   have hyu':=back hyu
   refine Yields.stT' hoj (Nat.le_zero.1 hk0) hyu' ?_
   refine ih (listed.setIfInBounds j true) _ hfree.set (hal.set hi0 hj) (ready_mono hr (Ne.symm hji)) (by rw[wanted_put oi a oj.dst u h5];exact hy) ?_
   rw[execOp_put oi hsi a oj.dst u h5]
   refine outE_mono (fun v w' hv=>?_) H
   obtain⟨u',hyu2,hrest⟩:=stT_yields hoj hk0 (hv.2 j (ready_mono hj hji))
   have:=Yields.det w (back hyu2) hyu'
   subst this
   rw[Array.setIfInBounds_comm _ _ hji,← Act.put_comm a v u' h4]
   exact hrest
def walkT (P:Program) (ops:Array Oper) (Q:Act→World→Prop):List Oper→Act→World→Prop
 | [],a,w=>Q a w
 | o::r,a,w=>if Region.wanted o (yielded ops a.tmps) then stK P o a w (fun v w'=>walkT P ops Q r (a.put o.dst v) w') else walkT P ops Q r (a.put o.dst undef) w
def aloneB (P:Program) (ops:Array Oper) (i:Nat) (listed:Array Bool):Bool :=
 match ops[i]? with
 | none=>false
 | some oi=>let ki:=kindOf P oi.op
  if ki=0 then true else
  (List.range ops.size).all fun j=>j == i || listed.getD j true || (match ops[j]? with | some oj=>let kj:=kindOf P oj.op;kj == 0 || (ki == 1 && kj == 1) | none=>true) || waitsB ops i listed ops.size j
def lexT (P:Program) (ops:Array Oper):Nat→Nat→Array Bool→Bool
 | 0,_,listed=>(Region.ready .any ops listed).isEmpty
 | f+1,k,listed=>(Region.ready .any ops listed).contains k && Region.free .any ops listed k && aloneB P ops k listed && lexT P ops f (k+1) (listed.setIfInBounds k true)
def lexAll (P:Program) (ops:Array Oper):Bool:=P.follows .mixedOrders && Region.noSelect ops && lexT P ops ops.size 0 (Array.replicate ops.size false)
theorem aloneB_spec {i : Nat} {oi : Oper} {listed : Array Bool} (hi : ops[i]? = some oi) (h : aloneB P ops i listed = true) :
    kindOf P oi.op = 0 ∨ (kindOf P oi.op = 1 ∧ Alone P ops i 1 listed) ∨ (2 ≤ kindOf P oi.op ∧ Alone P ops i 0 listed) := by
 unfold aloneB at h
 simp only[hi] at h
 by_cases h0:kindOf P oi.op=0
 ·exact .inl h0
 ·simp only[h0,if_false] at h
  have key:∀ j oj,ops[j]?=some oj→j≠i→listed.getD j true=false→(kindOf P oj.op=0∨(kindOf P oi.op=1∧kindOf P oj.op=1))∨waitsB ops i listed ops.size j=true:=by
   intro j oj hj hji hun
   have hlt:j<ops.size:=(Array.getElem?_eq_some_iff.1 hj).1
   have:=List.all_eq_true.1 h j (List.mem_range.2 hlt)
   simp only[hj,hun,Bool.or_false,Bool.or_eq_true,beq_iff_eq,hji,false_or,Bool.and_eq_true] at this
   exact this
  right
  by_cases h1:kindOf P oi.op=1
  ·left
   refine⟨h1,fun j oj hj hji hun=>?_⟩
   rcases key j oj hj hji hun with (h | h) | h
   ·left;omega
   ·left;omega
   ·exact .inr h
  ·right
   refine⟨by omega,fun j oj hj hji hun=>?_⟩
   rcases key j oj hj hji hun with (h | h) | h
   ·left;omega
   ·exact absurd h.1 h1
   ·exact .inr h
theorem anyT_lex {Q : Act → World → Prop} (hs : Region.noSelect ops = true) : ∀ (l : List Oper) (k : Nat) (listed : Array Bool) (a : Act) (w : World), (∀ j, l[j]? = ops[k + j]?) →
    lexT P ops l.length k listed = true → walkT P ops Q l a w → anyT P ops Q l.length listed a w
 | [],_,_,_,_,_,hB,h=>⟨by simpa [lexT] using hB,h⟩
 | o::l,k,listed,a,w,hl,hB,h=>by
  have h0:ops[k]?=some o:=by simpa using (hl 0).symm
  simp only[List.length_cons,lexT,Bool.and_eq_true] at hB
  obtain⟨⟨⟨hr,hf⟩,hal⟩,hB'⟩:=hB
  have hr':k ∈ Region.ready .any ops listed:=by simpa using hr
  have hfree:Free ops k o listed:=Region.free_spec h0 hf
  have hl':∀ j,l[j]?=ops[k+1+j]?:=fun j=>by have:=hl (j+1);simpa [Nat.add_assoc,Nat.add_comm 1 j] using this
  have hsel:=Region.noSelect_spec hs
  have hrec:∀ a w,walkT P ops Q l a w→anyT P ops Q l.length (listed.setIfInBounds k true) a w:=fun a w h=>anyT_lex hs l (k+1) _ a w hl' hB' h
  simp only[walkT] at h
  by_cases hw:Region.wanted o (yielded ops a.tmps)=true
  ·simp only[hw,if_true] at h
   rcases aloneB_spec h0 hal with hk | ⟨hk,ha⟩ | ⟨hk,ha⟩
   ·unfold stK at h
    rw[hk] at h
    obtain⟨v,h1,h2⟩:=h
    exact first0 h0 hsel (fun a w K hy hK=>Yields.stT' h0 hk hy hK) _ _ _ _ hfree hr' (.inl ⟨hw,h1⟩) (hrec _ _ h2)
   ·unfold stK at h
    rw[hk] at h
    obtain⟨v,h1,h2⟩:=h
    exact first1 h0 hk hsel _ _ _ hfree ha hr' ⟨hw,h1⟩ (hrec _ _ h2)
   ·exact first2 h0 hk hsel _ _ _ hfree ha hr' hw (outE_mono (fun v w' hv=>hrec _ _ hv) (stK_out h))
  ·simp only[hw] at h
   have hw':Region.wanted o (yielded ops a.tmps)=false:=by simpa using hw
   exact first0 (v:=undef) h0 hsel (fun a w K hy hK=>by
    rcases hy with ⟨h1,h2⟩ | ⟨h1,_⟩
    ·unfold stT
     simp only[h0,h1,if_true]
     unfold stK
     split
     ·exact⟨undef,h2,hK⟩
     ·exact⟨undef,h2 w,hK⟩
     ·simp only[outE,h2 w];exact hK
    ·exact unwanted_stT h0 h1 hK) _ _ _ _ hfree hr' (.inr ⟨hw',rfl⟩) (hrec _ _ h)
theorem wp_draw {id:Nat} {Q:Exit→Act→World→Prop} {a:Act} {w:World} (hB:lexAll P ops=true) (h:walkT P ops (fun a w=>Q .normal a w) ops.toList a w.drew):(Code.region id ops true).wp P Q a w:=by
 simp only[lexAll,Bool.and_eq_true] at hB
 refine wp_region_any hB.1.1 (any_of_anyT (fun _ _ h=>h) _ _ _ _ ?_)
 have:=anyT_lex (P:=P) (Q:=fun a w=>Q .normal a w) hB.1.2 ops.toList 0 (Array.replicate ops.size false) a w.drew (by simp) (by simpa using hB.2) h
 simpa using this
end Go.V
end
