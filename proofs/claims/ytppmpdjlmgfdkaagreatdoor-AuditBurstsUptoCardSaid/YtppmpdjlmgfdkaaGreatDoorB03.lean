/- Helpers. -/
import Derived.Test.YtppmpdjlmgfdkaaGreatDoorB02
set_option linter.all false
set_option maxRecDepth 100000
set_option maxHeartbeats 8000000
namespace Go.V
variable {c vs:Array Value} {b b' o:Nat} {ob:Option Obj} {e kt t:TypeId} {k v:Value} {w:World}
section
variable {P:Program}
section
variable (P:Program) (n:Nat) (bad:List Nat) (Q:Post) (ev:Ev) (w:World)
theorem den_skip:den P n bad .skip Q ev w=Q .normal ev w:=rfl
theorem den_seq (x y:Code):den P n bad (.seq x y) Q ev w=den P n bad x (thenQ (den P n bad y Q) Q) ev w:=rfl
theorem den_block (i:Nat)(c:Code):den P n bad (.block i c) Q ev w=den P n bad c (blockQ i Q) ev w:=rfl
theorem den_exit (i:Nat):den P n bad (.exit i) Q ev w=Q (.exit i) ev w:=rfl
theorem den_ret:den P n bad .ret Q ev w=Q .ret ev w:=rfl
theorem den_loop (c:Code):den P n bad (.loop c) Q ev w=LoopD P n bad c Q ev w:=rfl
theorem den_cond (c:Operand)(x y:Code):den P n bad (.cond c x y) Q ev w=match evO ev c with | .bool b=>(if b=true then den P n bad x Q ev w else den P n bad y Q ev w) | _=>False:=rfl
theorem den_reg (i:Nat)(A:Array Oper):den P n bad (.region i A false) Q ev w=denL P A (Q .normal) A.toList ev w:=by simp[den]
theorem den_reg' (i:Nat)(A:Array Oper)(h:bad.contains i=false):den P n bad (.region i A true) Q ev w=denL P A (Q .normal) A.toList ev w.drew:=by simp only[den,h];simp
end
attribute [go_sem ↓] den_skip den_seq den_block den_exit den_ret den_loop den_cond den_reg denL_nil denL_cons denL_guard
attribute [go_sem] den_reg'
attribute [go_sem] DenF qKc Option.getD_some contL_val contL_val' contL_no val0_some dopX callX stepP stepR stepE upd updO evO ev0 thenQ_normal thenQ_ret thenQ_exit blockQ_normal blockQ_ret blockQ_exit retQ_normal retQ_ret retQ_exit resQ pack List.nil_append List.cons_append List.contains_nil if_true if_false Bool.false_eq_true nilOk Option.map_some Option.map_none Option.bind_some Option.bind_none okO_some okO_none qJr setAll List.map_cons List.map_nil wantE binP ne_eq not_true_eq_false not_false_eq_true Nat.zero_add Nat.add_zero cmpR eqPtr Option.isNone_none Option.isNone_some Array.empty_append Array.append_empty List.toList_toArray biK lenP biP
theorem drew_heap (w:World):w.drew.heap=w.heap:=rfl
attribute [go_sem] drew_heap
theorem alloc_heap (w:World)(o:Obj):(w.alloc o).heap=w.heap.push o:=rfl
theorem qQf (w:World)(o:Obj):(w.alloc o).heap.size=w.heap.size+1:=by rw[alloc_heap,Array.size_push]
theorem qQb (w:World)(o:Obj):(w.alloc o).heap[w.heap.size]?=some o:=by rw[alloc_heap,Array.getElem?_push];simp
theorem alloc_blk_ne (w:World)(o:Obj)(h:b≠w.heap.size):(w.alloc o).heap[b]?=w.heap[b]?:=by rw[alloc_heap,Array.getElem?_push];simp[h]
theorem qJh (w:World)(o:Obj)(h:b<w.heap.size):(w.alloc o).heap[b]?=w.heap[b]?:=alloc_blk_ne w o om
attribute [go_sem] qQf qQb put_heap_size
def cv (w:World)(b o:Nat):Option Value:=match w.heap[b]? with | some (.cells c _ (0,0))=>c[o]? | _=>none
def setc (w:World)(b o:Nat)(v:Value):World:=match w.heap[b]? with | some (.cells c e (0,0))=>put w b (.cells (c.setIfInBounds o v) e (0,0)) | _=>w
theorem cv_row (h:cv w b o=some v):∃ c e,w.heap[b]?=some (.cells c e (0,0))/\c[o]?=some v:=by
 unfold cv at h;split at h
 ·exact⟨_,_,as_,h⟩
 ·cases h
theorem cv_of_row (h:w.heap[b]?=some (.cells c e (0,0))):cv w b o=c[o]?:=by simp[cv,h]
theorem setc_row (v:Value)(h:w.heap[b]?=some (.cells c e (0,0))):setc w b o v=put w b (.cells (c.setIfInBounds o v) e (0,0)):=by simp[setc,h]
theorem wr_cv {u v:Value}(E:szO P t=some 1)(A:one v=true)(h:cv w b o=some u):wrO P t w b o v=some (setc w b o v):=by
 obtain⟨c,e,B,H⟩:=cv_row h
 have I:v.cells=#[v]:=by cases v <;> first | rfl | simp[one]at A
 have J:o<c.size:=(Array.getElem?_eq_some_iff.1 H).1;have L:o+1<=c.size:=J;simp[wrO,stO,B,I,E,L,A,qXz,setc_row v B]
theorem setc_size (w:World)(b o:Nat)(v:Value):(setc w b o v).heap.size=w.heap.size:=by
 unfold setc;split <;> simp
theorem cv_lt (h:cv w b o=some v):b<w.heap.size:=by
 obtain⟨c,e,A,_⟩:=cv_row h;exact qQh A
theorem cv_blk {w w':World}(h:w'.heap[b]?=w.heap[b]?)(o:Nat):cv w' b o=cv w b o:=by simp[cv,h]
attribute [go_sem] setc_size
def fzO:Obj->Bool
 | .cells _ _ fr=>!(fr.1 == 0 && fr.2 == 0)
 | _=>false
def Thawed (w:World)(b:Nat):Prop:=∀ o,w.heap[b]?=some o->fzO o=false
theorem thaw_put {o:Obj}(B:fzO o=false)(h:Thawed w b'):Thawed (put w b o) b':=by
 intro x A
 by_cases e:b=b'
 ·subst e
  have E:b<w.heap.size:=by have:=qQh A;simpa using this
  rw[qZh _ E]at A;cases A;exact B
 ·rw[qVt _ e]at A;exact h x A
theorem thaw_alloc {o:Obj}(B:fzO o=false)(h:Thawed w b'):Thawed (w.alloc o) b':=by
 intro x A
 by_cases e:b'=w.heap.size
 ·subst e;rw[qQb]at A;cases A;exact B
 ·rw[alloc_blk_ne _ _ e]at A;exact h x A
theorem putE_fz {o:Obj}(h:putE P kt ob k v=some o):fzO o=false:=by
 unfold putE at h;split at h
 ·simp only[Option.bind_eq_some_iff]at h
  obtain⟨r,_,h⟩:=h;split at h
  ·split at h
   ·cases h;rfl
   ·cases h
  ·cases h;rfl
 ·cases h
theorem delE_fz {o:Obj}(h:delE P kt ob k=some o):fzO o=false:=by
 unfold delE at h;split at h
 ·simp only[Option.map_eq_some_iff]at h
  obtain⟨r,_,h⟩:=h
  split at h <;> cases h <;> rfl
 ·cases h
theorem qQq {n:Int}(A : -9223372036854775808<=n)(B:n<=9223372036854775807):IntKind.i64.wrap n=n:=by
 have e:IntKind.i64.wrap n=if n % 18446744073709551616 ≥ 9223372036854775808 then n % 18446744073709551616 - 18446744073709551616 else n % 18446744073709551616:=by
  simp[IntKind.wrap,IntKind.bits,IntKind.signed]
 rw[e]
 split <;> omega
end
section
variable {P:Program}
theorem qVm:∀ (vs:List Value) (o:Nat) (c:Array Value) (i:Nat),(qXz vs o c)[i]?=if o<=i/\i<o+vs.length/\i<c.size then vs[i - o]? else c[i]?
 | [],o,c,i=>by
  rw[qXz,if_neg];simp only[List.length_nil];omega
 | v::vs,o,c,i=>by
  rw[qXz,qVm vs (o+1),Array.getElem?_setIfInBounds,Array.size_setIfInBounds];simp only[List.length_cons]
  by_cases h:i=o
  ·subst h
   rw[if_neg om,if_pos rfl]
   by_cases A:i<c.size
   ·rw[if_pos A,if_pos om,Nat.sub_self];rfl
   ·rw[if_neg A,if_neg om];simp;omega
  ·by_cases B:o+1<=i/\i<o+1+vs.length/\i<c.size
   ·rw[if_pos B,if_pos om,show i - o=(i - (o+1))+1 by omega];rfl
   ·rw[if_neg B,if_neg om,if_neg om]
theorem qJm (vs:List Value)(o:Nat)(c:Array Value)(h:o+vs.length<=c.size):(qXz vs o c).toList=c.toList.take o++vs++c.toList.drop (o+vs.length):=by
 apply List.ext_getElem?;intro i;rw[Array.getElem?_toList,qVm,List.getElem?_append,List.getElem?_append,List.getElem?_take,List.getElem?_drop];simp only[lAp,lTk,Array.length_toList];rw[show min o c.size=o by omega]
 by_cases A:i<o
 ·rw[if_neg om,if_pos om,if_pos A,if_pos A];simp
 ·by_cases B:i<o+vs.length
  ·rw[if_pos om,if_pos B,if_neg A]
  ·rw[if_neg om,if_neg B,show o+vs.length+(i - (o+vs.length))=i by omega];simp
theorem qQr (B:szO P t=some vs.size)(h:w.heap[b]?=some (.cells c e (0, 0)))(A:c.size=vs.size)(E:vs.all one=true) :
  wrO P t w b 0 (.agg vs)=some (put w b (.cells vs e (0,0))):=by
 have H:qXz vs.toList 0 c=vs:=by
  apply Array.toList_inj.1;rw[qJm _ _ _ (by simp[A])];simp[A]
 simp only[wrO,stO,h,Value.cells,B,E];rw[if_pos ⟨trivial,om,trivial⟩,H];rfl
theorem rd_all {fr:Nat × Nat}(A:aggO P t=some true)(B:szO P t=some vs.size)(h:w.heap[b]?=some (.cells vs e fr)) :
  rdO P t w b 0=some (.agg vs):=by
 simp[rdO,ldO,h,A,B]
end
end Go.V
