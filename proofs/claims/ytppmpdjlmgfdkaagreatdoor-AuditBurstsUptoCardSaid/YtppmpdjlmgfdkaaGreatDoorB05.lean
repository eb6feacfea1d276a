/- Helpers. -/
import Derived.Test.YtppmpdjlmgfdkaaGreatDoorB04
set_option linter.all false
set_option maxRecDepth 100000
set_option maxHeartbeats 8000000
namespace Go.V
variable {ev:Ev} {K:Ev->World->Prop} {r:List Nat} {k:Nat} {X:Nat->Bool} {d:Option Nat} {w:World}
section
variable {P:Program}
def contLX (P:Program)(ops:Array Oper)(X:Nat->Bool)(K:Ev->World->Prop)(k:Nat)(r:List Nat)(A:Option Nat)(ev:Ev)(w:World)(x:Out):Prop :=
 outK P x w (fun v w'=>(X k=true->Ext w w')/\denLX P ops X K r (updV ev A v) w')
section
variable (ops:Array Oper) (X:Nat->Bool) (K:Ev->World->Prop) (k:Nat) (r:List Nat) (ev:Ev) (w:World)
theorem denLX_nil:denLX P ops X K [] ev w=K ev w:=rfl
def denL1 (P:Program)(ops:Array Oper)(X:Nat->Bool)(K:Ev->World->Prop)(k:Nat)(r:List Nat)(ev:Ev)(w:World)(o:Option Oper):Prop :=
 match o with
 | none=>False
 | some o=>if wantE ops o ev=true then outK P (dopX P o.op o.type ev w) w (fun v w'=>(X k=true->Ext w w')/\denLX P ops X K r (updV ev o.dst v) w') else denLX P ops X K r (updO ev o.dst undef) w
theorem denLX_step:denLX P ops X K (k::r) ev w=denL1 P ops X K k r ev w ops[k]?:=rfl
theorem denL1_cons (dst:Option Nat)(op:Op)(ty:TypeId)(pos:String)(A:Array Edge) :
  denL1 P ops X K k r ev w (some { dst,op,type:=ty,pos,after:=A,guard:=none })=contLX P ops X K k r dst ev w (dopX P op ty ev w):=by
 simp[denL1,wantE,contLX]
theorem denL1_guard (dst:Option Nat)(op:Op)(ty:TypeId)(pos:String)(A:Array Edge)(g:Nat × Bool) :
  denL1 P ops X K k r ev w (some { dst,op,type:=ty,pos,after:=A,guard:=some g }) =
   if wantE ops { dst,op,type:=ty,pos,after:=A,guard:=some g } ev=true then contLX P ops X K k r dst ev w (dopX P op ty ev w) else denLX P ops X K r (updO ev dst undef) w:=rfl
theorem contLX_val (d:Nat)(w':World)(v:Value):contLX P ops X K k r (some d) ev w (.inl (some (v,w')))=((X k=true->Ext w w')/\denLX P ops X K r (upd ev d v) w'):=rfl
theorem contLX_val' (w':World)(v:Value):contLX P ops X K k r none ev w (.inl (some (v,w')))=((X k=true->Ext w w')/\denLX P ops X K r ev w'):=rfl
theorem contLX_no (d:Option Nat):contLX P ops X K k r d ev w (.inl none)=False:=rfl
end
theorem qXo {ops:Array Oper}{g:FuncId}{args:Array Value}
  (A:qQg P g=true) (h:Fn P g args w fun v w'=>(X k=true->Ext w w')/\denLX P ops X K r (updO ev d v) w'):contLX P ops X K k r d ev w (.inr (.inl (g,args))):=⟨A,h⟩
theorem den_ext {n:Nat}{B:List Nat}{ops:Array Oper}{id:Nat}{Q:Post}(X:Nat->Bool)(A:List Nat)(E:B.contains id=true)(H:lexAllX P ops X A=true)(I:(ops.toList.all fun o=>dstOk n o.dst)=true)
  (h:denLX P ops X (Q .normal) A ev w.drew):den P n B (.region id ops true) Q ev w:=by
 simp only[den,E,if_true];exact codeD_ext X A H I h
theorem ext_refl (w:World):Ext w w=True:=eq_true (Ext.refl w)
theorem ext_alloc (w:World)(o:Obj):Ext w (w.alloc o)=True:=eq_true (Ext.alloc w o)
attribute [go_sem ↓] denLX_nil denLX_step denL1_cons denL1_guard
attribute [go_sem] contLX_val contLX_val' contLX_no ext_refl ext_alloc implies_true true_and
theorem contLX_only {ops:Array Oper}{x x':Out}(h:x=x'):contLX P ops X K k r d ev w x=contLX P ops X K k r d ev w x':=by rw[h]
theorem denL1_only {ops:Array Oper}{o A:Option Oper}(h:o=A):denL1 P ops X K k r ev w o=denL1 P ops X K k r ev w A:=by rw[h]
theorem denLX_only {ops:Array Oper}{l A:List Nat}(h:l=A):denLX P ops X K l ev w=denLX P ops X K A ev w:=by rw[h]
attribute [congr] contLX_only denL1_only denLX_only
end
end Go.V
