/- Helpers. -/
import Derived.Still
import Derived.Test.YtppmpdjlmgfdkaaGreatDoorB00
set_option linter.all false
set_option maxRecDepth 100000
set_option maxHeartbeats 8000000
open Array renaming toList_map->qF,setIfInBounds_comm->qH,range->qB,getElem?_eq_getElem->qD,getElem?_eq_none->qM
open Bool renaming and_eq_true->qN,false_eq_true->qP,not_eq_true'->qR,or_eq_true->qT
open Go.Builtin renaming delete_->qL,append_->qC
open List renaming map_cons->qS,map_nil->qE,range->qI
open Option renaming map_eq_some_iff->qJ,bind_eq_some_iff->qZ
open Go.Region renaming ready->qO,wanted->xQ,binds->xX
open Go.Result renaming andThen_ok->qY
open Go.Sem renaming run_bind->qU,run_pure->qG
namespace Go.V
variable {listed:Array Bool} {args c:Array Value} {f:FuncId} {b i j m r:Nat} {fz:Nat × Nat} {ob:Obj} {e kt t:TypeId} {k v:Value} {K K':Value->World->Prop} {w:World}
section
variable {P:Program}
theorem qJr (b o n:Nat):(⟨b,o,none⟩:Addr).add n=⟨b,o+n,none⟩:=by
 unfold Addr.add;split
 ·subst_vars;rfl
 ·rfl
theorem cell_blk {b o:Nat}(h:w.heap[b]?=some (.cells c e fz)) :
  w.cell? ⟨b,o,none⟩=c[o]?:=by simp[World.cell?,h]
theorem r_load {b o:Nat}
  (h:w.heap[b]?=some (.cells c e fz)) (A:c[o]?=some v):(load ⟨b,o,none⟩).run P w=.ok v w:=by
 simp[cell_blk h,A]
theorem qKn {b o n:Nat}
  (h:w.heap[b]?=some (.cells c e fz)) (E:o+n<=c.size):(loadCells ⟨b,o,none⟩ n).run P w=.ok (c.extract o (o+n)) w:=by
 rw[run_loadCells w ⟨b,o,none⟩ n (fun j=>c.getD (o+j) undef)]
 ·congr 1
  apply Array.ext
  ·simp;omega
  ·intro i H B
   have A:o+i<c.size:=by simp at B;omega
   simp[A]
 ·intro j hj
  have A:o+j<c.size:=om
  rw[qJr,cell_blk h];simp[A]
theorem r_loadVar {b o:Nat}(h:ldO P t w.heap[b]? o=some v):(loadVar t ⟨b,o,none⟩).run P w=.ok v w:=by
 unfold ldO at h;split at h
 ·rename_i c e fz B
  split at h
  ·rename_i A
   split at h
   ·rename_i n E
    split at h
    ·rename_i H
     simp only[oSi]at h;subst h;simp[loadVar,r_agg A,qZd E,qKn B H]
    ·cases h
   ·cases h
  ·rename_i A
   simp only[loadVar,qU,r_agg A,qY,qP,if_false];exact r_load B h
  ·cases h
 ·cases h
theorem qQh {o:Obj}(h:w.heap[b]?=some o):b<w.heap.size:=(Array.getElem?_eq_some_iff.1 h).1
@[simp] theorem put_heap_size (w:World) (b:Nat) (o:Obj):(put w b o).heap.size=w.heap.size:=by simp[put]
theorem put_self {o:Obj}(h:w.heap[b]?=some o):put w b o=w:=by
 have A:=qQh h;have B:w.heap[b]=o:=by simpa [qD A] using h
 unfold put
 have:w.heap.setIfInBounds b o=w.heap:=by
  rw[<- B];simp[Array.setIfInBounds,A]
 rw[this]
theorem put_put (w:World)(b:Nat)(o A:Obj):put (put w b o) b A=put w b A:=by
 simp[put]
theorem qZh (o:Obj)(h:b<w.heap.size):(put w b o).heap[b]?=some o:=by
 simp[put,h]
theorem qVt {b A:Nat}(o:Obj)(h:b≠A):(put w b o).heap[A]?=w.heap[A]?:=by
 simp[put,Array.getElem?_setIfInBounds_ne h]
theorem setCell_put {b o:Nat}(v:Value)
  (h:w.heap[b]?=some (.cells c e fz)):w.setCell ⟨b,o,none⟩ v=put w b (.cells (c.setIfInBounds o v) e fz):=by
 have A:=qQh h;have E:w.heap[b]=.cells c e fz:=by simpa [qD A] using h
 unfold World.setCell put
 congr 1
 apply Array.ext_getElem?;intro i;rw[Array.getElem?_modify,Array.getElem?_setIfInBounds]
 by_cases B:b=i
 ·subst B;simp[A,E]
 ·simp[B]
theorem one_eq (v:Value):one v=v.oneCell':=by cases v <;> rfl
theorem qJl:∀ (vs:List Value) (o:Nat) (c:Array Value),(qXz vs o c).size=c.size
 | [],_,_=>rfl
 | _::r,o,c=>by simp[qXz,qJl r]
theorem qKz:∀ (vs:List Value) (w:World) (b o i:Nat) (c:Array Value) (e:TypeId), w.heap[b]?=some (.cells c e (0, 0)) ->
  o+i+vs.length<=c.size->vs.all one=true ->
  (storeCells ⟨b,o,none⟩ vs i).run P w=.ok () (put w b (.cells (qXz vs (o+i) c) e (0,0)))
 | [],w,b,o,i,c,e,h,_,_=>by simp[storeCells,qXz,put_self h]
 | v::r,w,b,o,i,c,e,h,E,A=>by
  simp only[List.length_cons]at E;simp only[List.all_cons,qN]at A;have B:o+i<c.size:=om
  have H:w.cell? ⟨b,o+i,none⟩=some c[o+i]:=by rw[cell_blk h];simp[B]
  have I:w.frozen? ⟨b,o+i,none⟩=false:=by simp[World.frozen?,h]
  simp only[storeCells,qU,qJr,run_store P w _ v .plain (by rw[<- one_eq];exact A.1),H,I,qP,if_false,qY];rw[setCell_put v h];rw[qKz r _ b o (i+1) (c.setIfInBounds (o+i) v) e (qZh _ (qQh h)) (by simp;omega) A.2];rw[put_put];simp[qXz,Nat.add_assoc]
theorem r_storeVar {b o:Nat}(h:stO P t w.heap[b]? o v=some ob) :
  (storeVar t ⟨b,o,none⟩ v).run P w=.ok () (put w b ob):=by
 unfold stO at h;split at h
 ·rename_i c e B
  split at h
  ·rename_i A
   simp only[oSi]at h;subst h;have:=qKz (P:=P) v.cells.toList w b o 0 c e B (by simpa using A.2.1) (by simpa using A.2.2);simp only[storeVar,qU,qZd A.1,qY,ne_eq,not_true_eq_false,if_false];simpa using this
  ·cases h
 ·cases h
def plainB (w:World)(b:Nat):Bool:=match w.heap[b]? with | some (.cells _ _ (0,0))=>true | _=>false
def eqPtr (w:World)(x y:Value):Option Bool :=
 match x,y with
 | .pointer none,.pointer b=>some b.isNone
 | .pointer (some _),.pointer none=>some false
 | .pointer (some a),.pointer (some b)=>if a.block=b.block then some (a == b) else if plainB w a.block=true/\plainB w b.block=true then some false else none
 | _,_=>none
theorem plainB_spec (h:plainB w b=true):∃ c e,w.heap[b]?=some (.cells c e (0,0)):=by
 unfold plainB at h;split at h
 ·exact⟨_,_,as_⟩
 ·cases h
theorem r_sameAddr {a b:Addr}(hne:a.block≠b.block)(I:plainB w a.block=true)(J:plainB w b.block=true) :
  (sameAddr a b).run P w=.ok false w:=by
 obtain⟨c,e,B⟩:=plainB_spec I;obtain⟨c',L,A⟩:=plainB_spec J;have M:∀ n,w.frozen? ⟨a.block,n,a.spot⟩=false:=fun n=>by simp[World.frozen?,B]
 have N:∀ n,w.frozen? ⟨b.block,n,b.spot⟩=false:=fun n=>by simp[World.frozen?,A]
 have O:∀ n,w.frozen? ⟨a.block,n,none⟩=false:=fun n=>by simp[World.frozen?,B]
 have R:∀ n,w.frozen? ⟨b.block,n,none⟩=false:=fun n=>by simp[World.frozen?,A]
 have E:=M a.off;have H:=N b.off;have T:w.shape? a.block=some (e,c.size):=by simp[World.shape?,B]
 have U:w.shape? b.block=some (L,c'.size):=by simp[World.shape?,A]
 simp[sameAddr,hne,noView,viewAt,T,U,mayBeOne,stringish,E,H,O,R]
def ptrO (P:Program)(t:TypeId):Option Nat:=match P.underlying t with | some (.pointer e)=>szO P e | _=>none
def cmpR (P:Program)(w:World)(t:TypeId)(c:Bool)(a b:Value):Option Bool :=
 match a,b with
 | .pointer _,.pointer _=>(match ptrO P t with | some n=>if n=0 then none else eqPtr w a b | none=>none)
 | .agg _,.agg _=>if P.eqGuardType P.depth t=true then none else eqV P Op.maxDepth t a b
 | .nilIface,.nilIface=>if qKp P t=true/\c=true then some true else none
 | .nilIface,.iface _ _=>if qKp P t=true then some false else none
 | .iface _ _,.nilIface=>if qKp P t=true then some false else none
 | .slice x _ _,.slice y _ _=>(match slcO P t with | none=>none | some _=>match x,y with | none,y=>some y.isNone | some _,none=>some false | _,_=>none)
 | .map x,.map y=>(match mapO P t with | none=>none | some _=>match x,y with | none,y=>some y.isNone | some _,none=>some false | _,_=>none)
 | _,_=>none
theorem ifaceT_und (h:qKp P t=true):∃ ms,P.underlying t=some (.interface ms):=by
 unfold qKp at h;split at h
 ·exact⟨_,as_⟩
 ·cases h
theorem r_eqPtr (d:Nat){e n:Nat}{x y:Value}{r:Bool}(B:P.underlying t=some (.pointer e))(H:szO P e=some n)(A:¬ n=0)
  (h:eqPtr w x y=some r):(Op.equalIn (d+1) t x y).run P w=.ok r w:=by
 unfold eqPtr at h;split at h
 ·simp only[oSi]at h;subst h
  simp[Op.equalIn,r_und B]
 ·simp only[oSi]at h;subst h
  simp[Op.equalIn,r_und B]
 ·rename_i a b
  split at h
  ·rename_i E
   simp only[oSi]at h;subst h;simp[Op.equalIn,r_und B,qZd H,A,sameAddr,E]
  ·rename_i E
   split at h
   ·rename_i I
    simp only[oSi]at h;subst h;simp[Op.equalIn,r_und B,qZd H,A,r_sameAddr E I.1 I.2]
   ·cases h
 ·cases h
theorem r_eqIf (d:Nat)(ms:Array (String × TypeId))(A:P.underlying t=some (.interface ms)) :
  (Op.equalIn (d+1) t .nilIface .nilIface).run P w=.ok true w/\(∀ u v,(Op.equalIn (d+1) t .nilIface (.iface u v)).run P w=.ok false w) /\
  (∀ u v,(Op.equalIn (d+1) t (.iface u v) .nilIface).run P w=.ok false w):=by
 refine⟨?_,fun u v=>?_,fun u v=>?_⟩ <;> simp[Op.equalIn,r_und A]
theorem r_eqSl (d:Nat)(h:P.underlying t=some (.slice e))(y:Option Addr)(a b c A:Nat) :
  (Op.equalIn (d+1) t (.slice none a b) (.slice y c A)).run P w=.ok y.isNone w /\
  (∀ x,(Op.equalIn (d+1) t (.slice (some x) a b) (.slice none c A)).run P w=.ok false w):=by
 refine⟨?_,fun x=>?_⟩ <;> simp[Op.equalIn,r_und h]
theorem r_eqMp (d:Nat){t k e:TypeId}(h:P.underlying t=some (.map k e))(y:Option Nat) :
  (Op.equalIn (d+1) t (.map none) (.map y)).run P w=.ok y.isNone w /\
  (∀ x,(Op.equalIn (d+1) t (.map (some x)) (.map none)).run P w=.ok false w):=by
 refine⟨?_,fun x=>?_⟩ <;> simp[Op.equalIn,r_und h]
theorem qVd (t:TypeId)(a b:Value):Op.equal t a b=Op.equalIn (9999+1) t a b:=rfl
theorem r_cmp {x y:Operand}{a b:Value}{r:Bool}{op:BinOp}(A:op=.eql∨op=.neq)
  (h:cmpR P w t ((x matches .const _) || (y matches .const _)) a b=some r) :
  (do eqGuard op t x y a b;binOp op t a b:Sem Value).run P w=.ok (.bool (if op=.eql then r else !r)) w:=by
 have key:(eqGuard op t x y a b).run P w=.ok () w/\(Op.equal t a b).run P w=.ok r w /\
   (binOp .eql t a b=(do pure (.bool (<- Op.equal t a b))))/\(binOp .neq t a b=(do pure (.bool (!(<- Op.equal t a b))))):=by
  unfold cmpR at h;split at h
  ·rename_i p q
   split at h
   ·rename_i n I
    unfold ptrO at I;split at I
    ·rename_i e J
     split at h
     ·cases h
     ·rename_i L
      refine⟨by rcases A with rfl | rfl <;> simp[eqGuard],?_,by cases p <;> cases q <;> rfl,by cases p <;> cases q <;> rfl⟩;rw[qVd];exact r_eqPtr _ J I L h
    ·cases I
   ·cases h
  ·split at h
   ·cases h
   ·rename_i O
    refine⟨by rcases A with rfl | rfl <;> simp[eqGuard,O],?_,rfl,rfl⟩;exact r_eqV _ _ _ _ _ h w
  ·simp only[Option.ite_none_right_eq_some,oSi]at h
   obtain⟨E,rfl⟩:=h
   ·obtain⟨ms,B⟩:=ifaceT_und E.1
    refine⟨?_,by rw[qVd];exact (r_eqIf _ ms B).1,rfl,rfl⟩;have:=E.2
    rcases A with rfl | rfl <;> simp only[eqGuard] <;> cases x <;> cases y <;> simp_all
  ·split at h
   ·rename_i E
    obtain⟨ms,B⟩:=ifaceT_und E;simp only[oSi]at h;subst h;exact⟨by rcases A with rfl | rfl <;> simp[eqGuard],by rw[qVd];exact (r_eqIf _ ms B).2.1 _ _,rfl,rfl⟩
   ·cases h
  ·split at h
   ·rename_i E
    obtain⟨ms,B⟩:=ifaceT_und E;simp only[oSi]at h;subst h;exact⟨by rcases A with rfl | rfl <;> simp[eqGuard],by rw[qVd];exact (r_eqIf _ ms B).2.2 _ _,rfl,rfl⟩
   ·cases h
  ·split at h
   ·cases h
   ·rename_i e J
    refine⟨by rcases A with rfl | rfl <;> simp[eqGuard],?_,rfl,rfl⟩;split at h
    ·simp only[oSi]at h;subst h;rw[qVd];exact (r_eqSl _ (qZe J) _ _ _ _ _).1
    ·simp only[oSi]at h;subst h;rw[qVd];exact (r_eqSl _ (qZe J) none _ _ _ _).2 _
    ·cases h
  ·split at h
   ·cases h
   ·rename_i R H
    obtain⟨k,e⟩:=R;refine⟨by rcases A with rfl | rfl <;> simp[eqGuard],?_,rfl,rfl⟩;split at h
    ·simp only[oSi]at h;subst h;rw[qVd];exact (r_eqMp _ (mapO_und H) _).1
    ·simp only[oSi]at h;subst h;rw[qVd];exact (r_eqMp _ (mapO_und H) none).2 _
    ·cases h
  ·cases h
 obtain⟨M,N,T,U⟩:=key
 rcases A with rfl | rfl
 ·simp[M,T,N]
 ·simp[M,U,N]
end
section
variable {P:Program}
def ckV (P:Program):Nat->TypeId->Value->Bool
 | 0,_,_=>false
 | d+1,t,v =>
  match P.underlying t,v with
  | some .bool,_ | some (.int _),_ | some .string,_ | some (.pointer _),_=>true
  | some (.struct A), .agg cs => A.toList.all fun f => if f.name = "_" then true else match partO P f.type cs f.offset with | some u => ckV P d f.type u | none => false
  | some (.array n e),.agg cs=>match szO P e with | some s=>(qI n).all fun i=>(match partO P e cs (i*s) with | some u=>ckV P d e u | none=>false) | none=>false
  | _,_=>false
theorem r_forUnit {α:Type}(B:α->Unit->Sem (ForInStep Unit))(w:World) :
  ∀ (l:List α),(∀ x ∈ l,(B x ()).run P w=.ok (.yield ()) w)->(forIn (m:=Sem) l () B).run P w=.ok () w
 | [],_=>by simp
 | x::l,h=>by
  simp only[List.forIn_cons,qU,h x sm,qY];exact r_forUnit B w l fun y A=>h y (by simp[A])
theorem r_ckV (E:Bool):∀ (d:Nat) (t:TypeId) (v:Value),ckV P d t v=true->∀ w,(Instr.checkKey E d t v).run P w=.ok () w:=by
 intro d
 induction d with
 | zero=>intro t v h;cases h
 | succ d J =>
  intro t v h w;unfold ckV at h;split at h
  ·rename_i A;simp only[Instr.checkKey,qU,r_und A,qY];simp
  ·rename_i A;simp only[Instr.checkKey,qU,r_und A,qY];simp
  ·rename_i A;simp only[Instr.checkKey,qU,r_und A,qY];simp
  ·rename_i A;simp only[Instr.checkKey,qU,r_und A,qY];simp
  ·rename_i N cs A
   simp only[Instr.checkKey,qU,r_und A,qY];rw[<- Array.forIn_toList,r_forUnit]
   ·simp
   ·intro f L
    have:=List.all_eq_true.1 h f L;split at this
    ·rename_i H;simp[H]
    ·rename_i H
     split at this
     ·rename_i u B
      simp[H,r_part B,J _ _ this]
     ·cases this
  ·rename_i n e cs A
   simp only[Instr.checkKey,qU,r_und A,qY];split at h
   ·rename_i s M
    rw[Std.Legacy.Range.forIn_eq_forIn_range',r_forUnit]
    ·simp
    ·intro i hi
     have I:i ∈ qI n:=by simpa [Std.Legacy.Range.size,List.range_eq_range'] using hi
     have:=List.all_eq_true.1 h i I;split at this
     ·rename_i u B
      simp[qZd M,r_part B,J _ _ this]
     ·cases this
   ·cases h
  ·cases h
def mapEs (w:World)(m:Value):Option (List MapEntry) :=
 match m with
 | .map none=>some []
 | .map (some r)=>(match w.heap[r]? with | some (.map A _)=>some A.toList | _=>none)
 | _=>none
def findV (P:Program)(kt:TypeId)(k:Value):List MapEntry->Nat->Option (Option (Nat × Value))
 | [],_=>some none
 | e::A,i =>
  match eqV P Op.maxDepth kt k e.key with
  | some true=>some (some (i,e.val))
  | some false=>findV P kt k A (i+1)
  | none=>none
theorem eqV_now {d:TypeDesc}{a b:Value}{x y:Bool}(B:P.underlying kt=some d)(h:Instr.sameNow d a b=some x)(A:eqV P Op.maxDepth kt a b=some y):x=y:=by
 have e:eqV P Op.maxDepth kt a b=eqV P (9999+1) kt a b:=rfl;rw[e]at A;unfold eqV at A;unfold Instr.sameNow at h;rw[B]at A;split at h
 ·split at h
  ·rename_i E;simp_all
  ·cases h
 ·simp_all
 ·simp_all
 ·cases h
theorem findNow_eq {kt:TypeId}{d:TypeDesc}{k:Value}(J:P.underlying kt=some d):∀ (E:List MapEntry) (i:Nat) (r B:Option (Nat × Value)),
  findV P kt k E i=some r->Instr.findNow d k E i=some B->B=r
 | [],i,r,B,h,A=>by simp[findV]at h;simp[Instr.findNow]at A;rw[<- A,<- h]
 | e::E,i,r,B,h,A=>by
  unfold findV at h;unfold Instr.findNow at A
  cases H:Instr.sameNow d k e.key with
  | none=>rw[H]at A;cases A
  | some x =>
   rw[H]at A
   cases I:eqV P Op.maxDepth kt k e.key with
   | none=>rw[I]at h;cases h
   | some y =>
    rw[I]at h;have:=eqV_now J H I;subst this;cases x
    ·exact findNow_eq J E (i+1) r B h A
    ·simp only[oSi]at h A;rw[<- A,<- h]
theorem findAsking_eq {kt:TypeId}{k:Value}(w:World):∀ (A:List MapEntry) (i:Nat) (r:Option (Nat × Value)),
  findV P kt k A i=some r->(Instr.findAsking kt k A i).run P w=.ok r w
 | [],i,r,h=>by simp[findV]at h;simp[Instr.findAsking,h]
 | e::A,i,r,h=>by
  unfold findV at h;split at h
  ·rename_i B
   simp only[oSi]at h;subst h;simp[Instr.findAsking,Op.equal,r_eqV _ _ _ _ _ B]
  ·rename_i B
   simp[Instr.findAsking,Op.equal,r_eqV _ _ _ _ _ B,findAsking_eq w A (i+1) r h]
  ·cases h
theorem r_findKey {d:TypeDesc}{A:List MapEntry}{r:Option (Nat × Value)}(B:P.underlying kt=some d)(h:findV P kt k A 0=some r)(w:World) :
  (Instr.findKey kt k A).run P w=.ok r w:=by
 simp only[Instr.findKey,qU,r_und B,qY]
 cases E:Instr.findNow d k A 0 with
 | none=>simp only[];exact findAsking_eq w A 0 r h
 | some H=>simp[findNow_eq B A 0 r H h E]
theorem ckV_und {d:Nat}(h:ckV P d t v=true):∃ u,P.underlying t=some u:=by
 cases d with
 | zero=>cases h
 | succ d =>
  unfold ckV at h
  cases A:P.underlying t with
  | none=>simp[A]at h
  | some u=>exact⟨u,rfl⟩
def getK (P:Program)(kt:TypeId)(A:List MapEntry)(k:Value):Option (Option (Nat × Value)) :=
 if ckV P 10000 kt k=true then findV P kt k A 0 else none
def lookO (P:Program)(t:TypeId)(w:World)(m k:Value):Option (Value × Bool) :=
 (mapO P t).bind fun p=>(mapEs w m).bind fun A=>(getK P p.1 A k).bind fun r=>match r with
  | some (_,v)=>some (v,true)
  | none=>(zeroO P p.2).map fun z=>(z,false)
theorem r_getObj {A:Array MapEntry}{c:Nat}(h:w.heap[r]?=some (.map A c)):(getObj r).run P w=.ok (.map A c) w:=by
 simp[getObj,Sem.run,h]
theorem r_setObj {A:Array MapEntry}{c:Nat}{o:Obj}(h:w.heap[r]?=some (.map A c)):(setObj r o).run P w=.ok () (put w r o):=by
 simp[setObj,Sem.run,h,put]
theorem r_look {m k v:Value}{b ok:Bool}(h:lookO P t w m k=some (v, b)) :
  (Instr.lookup t m k ok).run P w=.ok (if ok=true then .tuple #[v,.bool b] else v) w:=by
 unfold lookO at h;simp only[qZ]at h;obtain⟨⟨kt,N⟩,J,O,A,r,E,h⟩:=h;unfold getK at E;split at E
 ·rename_i B
  obtain⟨d,H⟩:=ckV_und B;simp only at H B E h;unfold mapEs at A;split at A
  ·simp only[oSi]at A
   subst A;simp only[Instr.lookup,qU,r_und (mapO_und J),qY,qG,r_ckV _ _ _ _ B,r_findKey H E]
   cases r with
   | none =>
    simp only[qJ,Prod.mk.injEq]at h;obtain⟨z,I,rfl,rfl⟩:=h;simp[r_zero I]
   | some iv =>
    obtain⟨i,u⟩:=iv;simp only[oSi,Prod.mk.injEq]at h;obtain⟨rfl,rfl⟩:=h
    simp
  ·rename_i R
   split at A
   ·rename_i L c' M
    simp only[oSi]at A;subst A;simp only[Instr.lookup,qU,r_und (mapO_und J),qY,r_getObj M,qG,r_ckV _ _ _ _ B,r_findKey H E]
    cases r with
    | none =>
     simp only[qJ,Prod.mk.injEq]at h;obtain⟨z,I,rfl,rfl⟩:=h;simp[r_zero I]
    | some iv =>
     obtain⟨i,u⟩:=iv;simp only[oSi,Prod.mk.injEq]at h;obtain⟨rfl,rfl⟩:=h
     simp
   ·cases A
  ·cases A
 ·cases E
def putE (P:Program)(kt:TypeId)(ob:Option Obj)(k v:Value):Option Obj :=
 match ob with
 | some (.map A c)=>(getK P kt A.toList k).bind fun r=>match r with
  | some (i,_)=>if Instr.sameBits 10000 (((A[i]?).map (·.key)).getD k) k=true then some (.map (A.modify i fun e=>{ e with key:=k,val:=v }) c) else none
  | none=>some (.map (A.push { key:=k,val:=v,born:=c }) (c+1))
 | _=>none
theorem r_mapUpdate {t kt H:TypeId}(I:mapO P t=some (kt, H))(h:putE P kt w.heap[r]? k v=some ob) :
  (Instr.mapUpdate t (.map (some r)) k v).run P w=.ok () (put w r ob):=by
 unfold putE at h;split at h
 ·rename_i M c E
  simp only[qZ]at h;obtain⟨q,B,h⟩:=h;unfold getK at B;split at B
  ·rename_i A
   obtain⟨d,J⟩:=ckV_und A;simp only[Instr.mapUpdate,qU,r_und (mapO_und I),qY,r_getObj E,r_ckV _ _ _ _ A,r_findKey J B]
   cases q with
   | none=>simp only[oSi]at h;subst h;exact r_setObj E
   | some iv =>
    obtain⟨i,u⟩:=iv;simp only at h;split at h
    ·rename_i L
     simp only[oSi]at h;subst h;simp only[Instr.keyThatStays,L,if_true,qU,qG,qY];exact r_setObj E
    ·cases h
  ·cases B
 ·cases h
def delE (P:Program)(kt:TypeId)(ob:Option Obj)(k:Value):Option Obj :=
 match ob with
 | some (.map A c)=>(getK P kt A.toList k).map fun r=>match r with
  | some (i,_)=>.map (A.eraseIdxIfInBounds i) c
  | none=>.map A c
 | _=>none
def isC (x:Operand):Bool:=x matches .const _
def stepR (P:Program)(A:Ev)(w:World)(op:Op):Option Value :=
 match op with
 | .load t x=>match evO A x with | .pointer (some ⟨b,o,none⟩)=>rdO P t w b o | _=>none
 | .binOp op t x y _=>match op with
  | .eql=>(cmpR P w t (isC x || isC y) (evO A x) (evO A y)).map fun r=>.bool r
  | .neq=>(cmpR P w t (isC x || isC y) (evO A x) (evO A y)).map fun r=>.bool !r
  | _=>none
 | .lookup t m k ok=>(lookO P t w (evO A m) (evO A k)).map fun p=>if ok=true then .tuple #[p.1,.bool p.2] else p.1
 | .typeAssert x _ t ok=>match evO A x with
  | .iface u v=>if qKp P t=true then none else (aggO P t).bind fun _=>if u=t then some (if ok=true then .tuple #[v,.bool true] else v) else if ok=true then (zeroO P t).map fun z=>.tuple #[z,.bool false] else none
  | .nilIface=>if ok=true then (aggO P t).bind fun _=>(zeroO P t).map fun z=>.tuple #[z,.bool false] else none
  | _=>none
 | _=>none
theorem stepR_sound {a:Act}{o:Oper}(h:stepR P (evOf a) w o.op=some v):(execOp a.eval o).run P w=.ok (.value v) w:=by
 obtain⟨O,op,ty,pos,after,guard⟩:=o;unfold stepR at h;simp only at h
 split at h <;> simp only[execOp,qU,qXk]
 ·split at h
  ·rename_i b o A
   simp[Instr.loadAt,A,Instr.sureAddr,r_loadVar h]
  ·cases h
 ·rename_i R t x y z
  split at h
  ·simp only[qJ]at h
   obtain⟨r,H,rfl⟩:=h;have:=r_cmp (op:=.eql) (.inl rfl) H;simp only[qU]at this;rw[this];simp
  ·simp only[qJ]at h
   obtain⟨r,H,rfl⟩:=h;have:=r_cmp (op:=.neq) (.inr rfl) H;simp only[qU]at this;rw[this];simp
  ·cases h
 ·simp only[qJ]at h
  obtain⟨⟨u,b⟩,T,rfl⟩:=h;simp[r_look T]
 ·rename_i x V t ok
  split at h
  ·rename_i u W A
   split at h
   ·cases h
   ·rename_i B
    simp only[qZ]at h;obtain⟨b,I,h⟩:=h;obtain⟨d,E⟩:=aggO_und I;simp only[qKp,E]at B;have N:∀ ms,d≠.interface ms:=by intro ms U;subst U;simp at B
    split at h
    ·rename_i J
     simp only[oSi]at h;subst h;simp only[Instr.typeAssert,qU,r_und E,qY,A]
     cases d <;> simp_all
    ·rename_i J
     split at h
     ·rename_i L
      simp only[qJ]at h;obtain⟨z,M,rfl⟩:=h;simp only[Instr.typeAssert,qU,r_und E,qY,A]
      cases d <;> simp_all [r_zero M]
     ·cases h
  ·rename_i A
   split at h
   ·rename_i L
    simp only[qZ,qJ]at h;obtain⟨b,I,z,M,rfl⟩:=h;obtain⟨d,E⟩:=aggO_und I;simp only[Instr.typeAssert,qU,r_und E,qY,A]
    cases d <;> simp_all [r_zero M]
   ·cases h
  ·cases h
 ·cases h
end
section
variable {P:Program}
def Fn (P:Program)(f:FuncId)(args:Array Value)(w:World)(K:Value->World->Prop):Prop :=
 Calls P f args w fun e w'=>match e with | .returned v=>K v w' | _=>False
theorem Fn.mono (h:Fn P f args w K)(A:∀ v w',K v w'->K' v w'):Fn P f args w K' :=
 Calls.mono h fun e w'=>by cases e <;> simp only[] <;> first | exact A _ _ | exact id
theorem Fn.some (h:Fn P f args w K):∃ v w',K v w':=by
 obtain⟨e,w',fr,A,_⟩:=h []
 cases e with
 | returned v=>exact⟨v,w',A⟩
 | panicked c=>exact A.elim
 | outgrown=>exact A.elim
def outE (P:Program)(s:Sem Next)(w:World)(K:Value->World->Prop):Prop :=
 match s.run P w with
 | .ok (.value v) w'=>K v w'
 | .ok .skip w'=>K undef w'
 | .ok (.enter f args) w'=>Fn P f args w' K
 | _=>False
theorem qJc {s:Sem Next}(A:∀ v w',K v w'->K' v w')(h:outE P s w K):outE P s w K':=by
 unfold outE at *;split at h
 ·exact A _ _ h
 ·exact A _ _ h
 ·exact h.mono A
 ·exact h.elim
theorem outE_some {s:Sem Next}(h:outE P s w K):∃ v w',K v w':=by
 unfold outE at h;split at h
 ·exact⟨_,_,h⟩
 ·exact⟨_,_,h⟩
 ·exact h.some
 ·exact h.elim
theorem wp_of_outE {o:Oper}{a:Act}{N:Act->World->Prop}{Q:Exit->Act->World->Prop}(h:outE P (execOp a.eval o) w K)
  (B:∀ v w',K v w'->N (a.put o.dst v) w'):o.wp P a w N Q:=by
 unfold outE at h;unfold Oper.wp;split at h
 ·rename_i A;rw[A];exact B _ _ h
 ·rename_i A;rw[A];exact B _ _ h
 ·rename_i A;rw[A]
  refine Calls.mono h fun e w' E=>?_
  cases e with
  | returned v=>exact B _ _ E
  | panicked c=>exact E.elim
  | outgrown=>exact E.elim
 ·exact h.elim
def zrow (z:List Value)(n:Nat):Array Value:=(List.replicate n z).flatten.toArray
def stepE (P:Program)(A:Ev)(w:World)(op:Op):Option (Value × World) :=
 match op with
 | .alloc t=>(zeroO P t).map fun z=>(.pointer (some ⟨w.heap.size,0,none⟩),w.alloc (.cells z.cells t))
 | .box t x=>some (.pointer (some ⟨w.heap.size,0,none⟩),w.alloc (.cells (evO A x).cells t))
 | .buildSlice t n parts=>(slcO P t).bind fun e=>(szO P e).bind fun s=>(zeroO P e).bind fun z =>
   if n*s<=2 ^ 24/\0<s/\z.cells.size=s then
    (Instr.fill (fun i=>some (i*s,s)) (zrow z.cells.toList n) (parts.toList.map fun p=>(p.1,evO A p.2))).map fun cells =>
     (.slice (some ⟨w.heap.size,0,none⟩) n n,w.alloc (.cells cells e))
   else none
 | .store t x v=>match evO A x with
  | .pointer (some ⟨b,o,none⟩)=>(wrO P t w b o (evO A v)).map fun w'=>(undef,w')
  | _=>none
 | .makeMap _ none=>some (.map (some w.heap.size),w.alloc (.map #[] 0))
 | .mapUpdate t m k x | .insert t m k x=>match evO A m with
  | .map (some r)=>(mapO P t).bind fun p=>(putE P p.1 w.heap[r]? (evO A k) (evO A x)).map fun ob=>(undef,put w r ob)
  | _=>none
 | _=>none
theorem zrow_eq (z:Array Value)(n s:Nat)(A:z.size=s):(qB (n*s)).map (fun i=>z[i % z.size]!)=zrow z.toList n:=by
 apply Array.toList_inj.1;simp only[qF,Array.toList_range,zrow]
 induction n with
 | zero=>simp
 | succ n E =>
  rw[Nat.succ_mul,List.range_add,List.map_append,E,List.replicate_succ',List.flatten_append]
  congr 1
  simp only[List.map_map,List.flatten_cons,List.flatten_nil,List.append_nil];apply List.ext_getElem
  ·simp[A]
  ·intro i B H
   simp only[List.length_map,List.length_range]at B
   have:(n*s+i) % z.size=i:=by
    rw[A,Nat.add_comm,Nat.mul_comm,Nat.add_mul_mod_self_left,Nat.mod_eq_of_lt B]
   simp only[List.getElem_map,List.getElem_range,Function.comp_apply,this];simp[A,B]
theorem stepE_sound {a:Act}{o:Oper}(h:okO (stepE P (evOf a) w o.op) fun p=>K p.1 p.2):outE P (execOp a.eval o) w K:=by
 obtain⟨⟨v,w'⟩,A,E⟩:=qVb h;obtain⟨V,op,ty,pos,after,guard⟩:=o;unfold stepE at A;simp only at A E;unfold outE
 split at A <;> simp only[execOp,qXk]
 ·simp only[qJ,Prod.mk.injEq]at A
  obtain⟨z,M,rfl,rfl⟩:=A;simpa [Instr.alloc,r_zero M,newVar,newRow] using E
 ·simp only[oSi,Prod.mk.injEq]at A
  obtain⟨rfl,rfl⟩:=A;simpa [Instr.box,newVar,newRow] using E
 ·rename_i t n parts
  simp only[qZ]at A;obtain⟨e,W,s,hsz,z,M,A⟩:=A;split at A
  ·rename_i Y
   simp only[qJ,Prod.mk.injEq]at A;obtain⟨cells,T,rfl,rfl⟩:=A;have U:(parts.map fun x:Nat × Operand=>(x.1,evO (evOf a) x.2)).toList=(parts.toList.map fun p=>(p.1,evO (evOf a) p.2)):=qF;have N:=zrow_eq z.cells n s Y.2.2;have O:¬ (n*s > 2 ^ 24):=om
   have key:(Instr.buildSlice t n (parts.map fun x:Nat × Operand=>(x.1,evO (evOf a) x.2))).run P w=.ok (.slice (some ⟨w.heap.size,0,none⟩) n n) (w.alloc (.cells cells e)):=by
    simp only[Instr.buildSlice,qU,r_und (qZe W),qY,qZd hsz,O,if_false]
    by_cases L:n*s=0
    ·have Z:n=0:=by
      rcases Nat.mul_eq_zero.1 L with h | h
      ·exact h
      ·omega
     subst Z
     have H:∀ J:Array Value,Instr.fill (fun i=>some (i*s,s)) ((qB (0*s)).map fun i=>J[i % J.size]!) (parts.map fun x:Nat × Operand=>(x.1,evO (evOf a) x.2)).toList=some cells:=fun J=>by
      have e1:(qB (0*s)).map (fun i=>J[i % J.size]!)=#[]:=by rw[Nat.zero_mul];simp
      have e2:zrow z.cells.toList 0=#[]:=rfl;rw[U,e1,<- e2,T]
     simp only[L,if_true];rw[<- L];simp only[H];simp[newRow]
    ·have H:Instr.fill (fun i=>some (i*s, s)) ((qB (n*s)).map fun i=>z.cells[i % z.cells.size]!) (parts.map fun x:Nat × Operand=>(x.1, evO (evOf a) x.2)).toList=some cells:=by
      rw[U,N,T]
     simp only[L,if_false,qU,r_zero M,qY,qG];simp only[H];simp[newRow]
   simp only[qU,key,qY,qG];exact E
  ·cases A
 ·rename_i t x v'
  split at A
  ·rename_i b o hx
   simp only[wrO,qJ,Prod.mk.injEq]at A;obtain⟨_,⟨ob,B,rfl⟩,rfl,rfl⟩:=A;simpa [Instr.storeAt,hx,Instr.sureAddr,r_storeVar B] using E
  ·cases A
 ·simp only[oSi,Prod.mk.injEq]at A
  obtain⟨rfl,rfl⟩:=A;simpa [Instr.makeMap] using E
 ·rename_i t m k x
  split at A
  ·rename_i r R
   simp only[qZ,qJ,Prod.mk.injEq]at A;obtain⟨⟨kt,et⟩,I,ob,B,rfl,rfl⟩:=A;simpa [R,r_mapUpdate I B] using E
  ·cases A
 ·rename_i t m k x
  split at A
  ·rename_i r R
   simp only[qZ,qJ,Prod.mk.injEq]at A;obtain⟨⟨kt,et⟩,I,ob,B,rfl,rfl⟩:=A;simpa [R,r_mapUpdate I B] using E
  ·cases A
 ·cases A
def SemD (P:Program)(s:Sem Value)(w:World)(K:Value->World->Prop):Prop:=∃ v w',s.run P w=.ok v w'/\K v w'
def AppD (P:Program)(ts:Array TypeId)(x y:Value)(w:World)(K:Value->World->Prop):Prop:=SemD P (qC ts 0 #[x,y]) w K
def DelD (P:Program)(ts:Array TypeId)(m k:Value)(w:World)(K:Value->World->Prop):Prop:=SemD P (qL ts 0 #[m,k]) w K
def CopyD (P:Program)(ts:Array TypeId)(x y:Value)(w:World)(K:Value->World->Prop):Prop:=SemD P (Builtin.copy_ ts 0 #[x,y]) w K
def ConvD (P:Program)(s d:TypeId)(x:Value)(w:World)(K:Value->World->Prop):Prop:=SemD P (convert s d x) w K
def cvP (P:Program)(s d:TypeId):Bool:=(intO P d).isSome || (strO P s && strO P d)
def biK (P:Program)(b:Builtin)(ts:Array TypeId):Bool :=
 match b with
 | .min | .max | .cap=>true
 | .len=>(ts[0]?.bind (mapO P)).isNone
 | _=>false
def dcall (P:Program)(c:Call)(A:Ev)(w:World)(K:Value->World->Prop):Prop :=
 match c.callee with
 | .value f=>match evO A f with
  | .func (.func g) B cs=>qQg P g=true/\Fn P g (B++c.args.map (evO A)++cs) w K
  | _=>False
 | .builtin b =>
  if biK P b c.argTypes=true then okO (biP P b c.argTypes (c.args.toList.map (evO A))) fun v=>K v w else
  match b,c.args.toList with
  | .append,[x,y]=>AppD P c.argTypes (evO A x) (evO A y) w K
  | .delete,[x,y]=>DelD P c.argTypes (evO A x) (evO A y) w K
  | .copy,[x,y]=>CopyD P c.argTypes (evO A x) (evO A y) w K
  | .len,[x]=>SemD P (Builtin.len_ c.argTypes 0 #[evO A x]) w K
  | .clear,[x]=>SemD P (Builtin.clear_ c.argTypes 0 #[evO A x]) w K
  | _,_=>False
 | .invoke r m=>match evO A r with
  | .iface t v=>∃ f u,(method (P.types.size+Made.depth) t v m).run P w=.ok (f,u) w/\qQg P f=true/\Fn P f (#[u]++c.args.map (evO A)) w K
  | _=>False
theorem qKo {s:Sem Value}(h:SemD P s w K):outE P (do pure (.value (<- s))) w K:=by
 obtain⟨v,w',A,B⟩:=h;simp only[outE,qU,A,qY,qG];exact B
theorem callFunc_plain {g:FuncId}(args:Array Value)(h:qQg P g=true)(w:World):(callFunc g args).run P w=.ok (.enter g args) w:=by
 unfold qQg at h;split at h
 ·rename_i B E
  simp only[qN,bne_iff_ne]at h;obtain⟨H,I⟩:=h
  have A:B.body.isNone=false:=by cases J:B.body <;> simp_all
  simp only[callFunc,qU,run_program,qY,E];rw[if_neg (by simpa using H),if_neg (by simp[A])]
  simp
 ·cases h
theorem dcall_sound {a:Act}{dst:Option Tmp}{ty:TypeId}{pos:String}{after:Array Edge}{guard:Option (Nat × Bool)}{c:Call}
  (h:dcall P c (evOf a) w K):outE P (execOp a.eval { dst,op:=.call c,type:=ty,pos,after,guard }) w K:=by
 unfold dcall at h;split at h
 ·rename_i f O
  split at h
  ·rename_i g Y cs R
   obtain⟨L,M⟩:=h;simp only[outE,execOp,qXk,qU,resolve,O,Deferred.ofValue,R,qG,qY,invoke,callFunc_plain _ L];exact M
  ·exact h.elim
 ·rename_i b J
  split at h
  ·obtain⟨v,N,E⟩:=qVb h
   have:=fun cons=>r_biP (ty:=ty) (cons:=cons) N w
   have e:(c.args.toList.map (evO (evOf a))).toArray=c.args.map (evO (evOf a)):=by
    apply Array.toList_inj.1;rw[qF]
   rw[e]at this;simp only[outE,execOp,qXk,qU,resolve,J,qG,qY,invoke,this];exact E
  ·have H:∀ l:List Operand, c.args.toList=l->c.args.map (evO (evOf a))=(l.map (evO (evOf a))).toArray:=by
    intro l T;apply Array.toList_inj.1;rw[qF,T]
   split at h
   ·rename_i x y A _
    obtain⟨v,w',I,E⟩:=h;have B:(qC c.argTypes ty #[evO (evOf a) x,evO (evOf a) y]).run P w=.ok v w':=I;simp only[outE,execOp,qXk,qU,resolve,J,qG,qY,invoke,H _ A,qS,qE,builtin,B];exact E
   ·rename_i x y A _
    obtain⟨v,w',I,E⟩:=h;have B:(qL c.argTypes ty #[evO (evOf a) x,evO (evOf a) y]).run P w=.ok v w':=I;simp only[outE,execOp,qXk,qU,resolve,J,qG,qY,invoke,H _ A,qS,qE,builtin,B];exact E
   ·rename_i x y A _
    obtain⟨v,w',I,E⟩:=h;have B:(Builtin.copy_ c.argTypes ty #[evO (evOf a) x,evO (evOf a) y]).run P w=.ok v w':=I;simp only[outE,execOp,qXk,qU,resolve,J,qG,qY,invoke,H _ A,qS,qE,builtin,B];exact E
   ·rename_i x A _
    obtain⟨v,w',I,E⟩:=h;have B:(Builtin.len_ c.argTypes ty #[evO (evOf a) x]).run P w=.ok v w':=I;simp only[outE,execOp,qXk,qU,resolve,J,qG,qY,invoke,H _ A,qS,qE,builtin,B];exact E
   ·rename_i x A _
    obtain⟨v,w',I,E⟩:=h;have B:(Builtin.clear_ c.argTypes ty #[evO (evOf a) x]).run P w=.ok v w':=I;simp only[outE,execOp,qXk,qU,resolve,J,qG,qY,invoke,H _ A,qS,qE,builtin,B];exact E
   ·exact h.elim
 ·rename_i r m U
  split at h
  ·rename_i t v N
   obtain⟨f,u,L,M,V⟩:=h
   have e:(#[evO (evOf a) r]++c.args.map (evO (evOf a))).extract 1 (#[evO (evOf a) r]++c.args.map (evO (evOf a))).size=c.args.map (evO (evOf a)):=by
    apply Array.toList_inj.1;simp only[Array.toList_extract,Array.toList_append,qF,List.extract_eq_take_drop];simp only[List.singleton_append,List.drop_succ_cons,List.drop_zero];exact List.take_of_length_le sm
   have W:(#[evO (evOf a) r]++c.args.map (evO (evOf a)))[0]?=some (.iface t v):=by
    rw[Array.getElem?_append];simp[N]
   simp only[outE,execOp,qXk,qU,resolve,U,qG,qY,invoke,W,e,callMethod,run_program,L,callFunc_plain _ M];exact V
  ·exact h.elim
end
section
variable {P:Program}
def dop (P:Program)(op:Op)(ty:TypeId)(A:Ev)(w:World)(K:Value->World->Prop):Prop :=
 match op with
 | .load t x=>okO (stepR P A w (.load t x)) fun v=>K v w
 | .lookup t m k ok=>okO (stepR P A w (.lookup t m k ok)) fun v=>K v w
 | .typeAssert x B t ok=>okO (stepR P A w (.typeAssert x B t ok)) fun v=>K v w
 | .binOp op t x y z=>if flatT P t=true then okO (stepP P A (.binOp op t x y z)) fun v=>K v w else okO (stepR P A w (.binOp op t x y z)) fun v=>K v w
 | .convert s d x=>if cvP P s d=true then okO (stepP P A (.convert s d x)) fun v=>K v w else ConvD P s d (evO A x) w K
 | .alloc t=>okO (stepE P A w (.alloc t)) fun p=>K p.1 p.2
 | .box t x=>okO (stepE P A w (.box t x)) fun p=>K p.1 p.2
 | .buildSlice t n ps=>okO (stepE P A w (.buildSlice t n ps)) fun p=>K p.1 p.2
 | .store t x v=>okO (stepE P A w (.store t x v)) fun p=>K p.1 p.2
 | .makeMap t none=>okO (stepE P A w (.makeMap t none)) fun p=>K p.1 p.2
 | .makeMap t (some r)=>SemD P (Instr.makeMap t (some (evO A r))) w K
 | .mapUpdate t m k v=>okO (stepE P A w (.mapUpdate t m k v)) fun p=>K p.1 p.2
 | .insert t m k v=>okO (stepE P A w (.insert t m k v)) fun p=>K p.1 p.2
 | .makeSlice t l c=>SemD P (Instr.makeSlice t (evO A l) (evO A c)) w K
 | .mapEntry t m k=>SemD P (Instr.mapEntry t (evO A m) (evO A k)) w K
 | .entryStore t m s x=>SemD P (do Instr.entryStore t (evO A m) (evO A s) (evO A x);pure undef) w K
 | .range t x=>SemD P (Instr.range t (evO A x)) w K
 | .next x s=>SemD P (Instr.next (evO A x) s ty) w K
 | .entry x=>SemD P (Instr.entry (evO A x)) w K
 | .call c=>dcall P c A w K
 | op=>okO (stepP P A op) fun v=>K v w
def kindOf (P:Program)(op:Op):Nat :=
 match op with
 | .load .. | .lookup .. | .typeAssert ..=>1
 | .binOp _ t _ _ _=>if flatT P t=true then 0 else 1
 | .convert s d _=>if cvP P s d=true then 0 else 2
 | .alloc _ | .box .. | .buildSlice .. | .store .. | .makeMap .. | .mapUpdate .. | .insert .. | .makeSlice .. | .mapEntry .. | .entryStore .. | .range .. | .next .. | .entry ..=>2
 | .call c=>match c.callee with | .builtin b=>if biK P b c.argTypes=true then 0 else 2 | _=>2
 | _=>0
theorem dop_sound {a:Act}{o:Oper}(h:dop P o.op o.type (evOf a) w K):outE P (execOp a.eval o) w K:=by
 have p:∀ {op:Op},o.op=op->okO (stepP P (evOf a) op) (fun v=>K v w)->outE P (execOp a.eval o) w K:=by
  intro op B h;obtain⟨v,H,E⟩:=qVb h;simp only[outE,stepP_sound (B ▸ H) w];exact E
 have r:∀ {op:Op},o.op=op->okO (stepR P (evOf a) w op) (fun v=>K v w)->outE P (execOp a.eval o) w K:=by
  intro op B h;obtain⟨v,H,E⟩:=qVb h;simp only[outE,stepR_sound (B ▸ H)];exact E
 have e:∀ {op:Op},o.op=op->okO (stepE P (evOf a) w op) (fun p=>K p.1 p.2)->outE P (execOp a.eval o) w K:=by
  intro op B h;exact stepE_sound (B ▸ h)
 obtain⟨J,op,ty,pos,after,guard⟩:=o;simp only at p r e h;cases op
 case load=>exact r rfl h
 case lookup=>exact r rfl h
 case typeAssert=>exact r rfl h
 case binOp =>
  simp only[dop]at h;split at h
  ·exact p rfl h
  ·exact r rfl h
 case convert =>
  simp only[dop]at h;split at h
  ·exact p rfl h
  ·have:=qKo h;rw[<- qXk]at this;exact this
 case alloc=>exact e rfl h
 case box=>exact e rfl h
 case buildSlice=>exact e rfl h
 case store=>exact e rfl h
 case mapUpdate=>exact e rfl h
 case insert=>exact e rfl h
 case makeMap t mr =>
  cases mr with
  | none=>exact e rfl h
  | some mr=>have:=qKo h;rw[<- qXk]at this;exact this
 case makeSlice=>have:=qKo h;rw[<- qXk]at this;exact this
 case mapEntry=>have:=qKo h;rw[<- qXk]at this;exact this
 case range=>have:=qKo h;rw[<- qXk]at this;exact this
 case next=>have:=qKo h;rw[<- qXk]at this;exact this
 case entry=>have:=qKo h;rw[<- qXk]at this;exact this
 case entryStore t m s x =>
  obtain⟨v,w',A,E⟩:=h;simp only[outE,execOp,qXk,qU]at A ⊢
  cases I:(Instr.entryStore t (evO (evOf a) m) (evO (evOf a) s) (evO (evOf a) x)).run P w with
  | ok u L =>
   rw[I]at A;simp only[qY,qG,Result.ok.injEq]at A;obtain⟨rfl,rfl⟩:=A;simpa using E
  | halt x L=>rw[I]at A;simp at A
 case call=>exact dcall_sound h
 all_goals exact p rfl h
theorem dop_kind0 {a:Act}{o:Oper}(h:dop P o.op o.type (evOf a) w K)(A:kindOf P o.op=0) :
  ∃ v,(∀ w',(execOp a.eval o).run P w'=.ok (.value v) w')/\K v w:=by
 have p:∀ {op:Op},o.op=op->okO (stepP P (evOf a) op) (fun v=>K v w)->∃ v,(∀ w',(execOp a.eval o).run P w'=.ok (.value v) w')/\K v w:=by
  intro op I h;obtain⟨v,J,A⟩:=qVb h;exact⟨v,fun w'=>stepP_sound (I ▸ J) w',A⟩
 obtain⟨L,op,ty,pos,after,guard⟩:=o;simp only at p h A;cases op
 case load | lookup | typeAssert | alloc | box | buildSlice | store | mapUpdate | insert | makeMap | makeSlice | mapEntry | range | next | entry | entryStore=>cases A
 case binOp=>simp only[dop]at h;simp only[kindOf]at A;split at A <;> simp_all
 case convert=>simp only[dop]at h;simp only[kindOf]at A;split at A <;> simp_all
 case call c =>
  simp only[kindOf]at A;split at A
  ·rename_i b E
   split at A
   ·rename_i H
    simp only[dop]at h;unfold dcall at h;rw[E]at h;simp only[H,if_true]at h;refine p (op:=.call c) rfl ?_;obtain⟨B,args,ts⟩:=c;simp only at E;subst E;exact h
   ·cases A
  ·cases A
 all_goals exact p rfl h
theorem dop_kind1 {a:Act}{o:Oper}(h:dop P o.op o.type (evOf a) w K)(A:kindOf P o.op=1) :
  ∃ v,(execOp a.eval o).run P w=.ok (.value v) w/\K v w:=by
 have r:∀ {op:Op},o.op=op->okO (stepR P (evOf a) w op) (fun v=>K v w)->∃ v,(execOp a.eval o).run P w=.ok (.value v) w/\K v w:=by
  intro op B h;obtain⟨v,E,A⟩:=qVb h;exact⟨v,stepR_sound (B ▸ E),A⟩
 obtain⟨H,op,ty,pos,after,guard⟩:=o;simp only at r h A;cases op
 case load=>exact r rfl h
 case lookup=>exact r rfl h
 case typeAssert=>exact r rfl h
 case binOp=>simp only[dop]at h;simp only[kindOf]at A;split at A <;> simp_all
 case convert=>simp only[kindOf]at A;split at A <;> simp_all
 case call c=>simp only[kindOf]at A;split at A <;> (try split at A) <;> simp_all
 all_goals cases A
end
section
variable {P:Program} {ops:Array Oper}
def stK (P:Program)(o:Oper)(a:Act)(w:World)(K:Value->World->Prop):Prop :=
 match kindOf P o.op with
 | 0=>∃ v,(∀ w',(execOp a.eval o).run P w'=.ok (.value v) w')/\K v w
 | 1=>∃ v,(execOp a.eval o).run P w=.ok (.value v) w/\K v w
 | _=>outE P (execOp a.eval o) w K
theorem stK_mono {o:Oper}{a:Act}(A:∀ v w',K v w'->K' v w')(h:stK P o a w K):stK P o a w K':=by
 unfold stK at *;split at h
 ·obtain⟨v,B,E⟩:=h;exact⟨v,B,A _ _ E⟩
 ·obtain⟨v,B,E⟩:=h;exact⟨v,B,A _ _ E⟩
 ·exact qJc A h
theorem stK_out {o:Oper}{a:Act}(h:stK P o a w K):outE P (execOp a.eval o) w K:=by
 unfold stK at h;split at h
 ·obtain⟨v,A,B⟩:=h;simp only[outE,A w];exact B
 ·obtain⟨v,A,B⟩:=h;simp only[outE,A];exact B
 ·exact h
theorem stK_congr {o:Oper}{a A:Act}(B:execOp A.eval o=execOp a.eval o)(h:stK P o a w K):stK P o A w K:=by
 unfold stK at *;rw[B];exact h
def stT (P:Program)(ops:Array Oper)(i:Nat)(K:Act->World->Prop)(a:Act)(w:World):Prop :=
 match ops[i]? with
 | none=>K a w
 | some o=>if xQ o (yielded ops a.tmps) then stK P o a w (fun v w'=>K (a.put o.dst v) w') else K (a.put o.dst undef) w
def anyT (P:Program)(ops:Array Oper)(Q:Act->World->Prop):Nat->Array Bool->Act->World->Prop
 | 0,listed,a,w=>qO .any ops listed=[]/\Q a w
 | f+1,listed,a,w=>(qO .any ops listed=[]->Q a w)/\∀ i ∈ qO .any ops listed,stT P ops i (anyT P ops Q f (listed.setIfInBounds i true)) a w
theorem stT_wp {a:Act}{K:Act->World->Prop}{N:Act->World->Prop}{Q:Exit->Act->World->Prop}(A:∀ a w, K a w->N a w)(h:stT P ops i K a w) :
  wpOp P ops Q i N a w:=by
 unfold stT at h;unfold wpOp;split
 ·rename_i B;simp only[B]at h;exact A _ _ h
 ·rename_i o B
  simp only[B]at h;split
  ·rename_i E
   simp only[E,if_true]at h;exact .inl (wp_of_outE (stK_out h) fun v w' H=>A _ _ H)
  ·rename_i E
   simp only[E]at h;exact A _ _ h
theorem any_of_anyT {Q:Act->World->Prop}{B:Exit->Act->World->Prop}(A:∀ a w, Q a w->B .normal a w):∀ (f:Nat) (listed:Array Bool) (a:Act) (w:World),
  anyT P ops Q f listed a w->wpAny P .any ops B f listed a w
 | 0,_,_,_,h=>⟨h.1,A _ _ h.2⟩
 | f+1,_,_,_,h=>⟨fun E=>A _ _ (h.1 E),fun i hi=>stT_wp (fun a w=>any_of_anyT A f _ a w) (h.2 i hi)⟩
theorem stT_mono {a:Act}{K K':Act->World->Prop}(A:∀ a w,K a w->K' a w)(h:stT P ops i K a w):stT P ops i K' a w:=by
 unfold stT at *;split
 ·rename_i B;simp only[B]at h;exact A _ _ h
 ·rename_i o B
  simp only[B]at h;split
  ·rename_i E;simp only[E,if_true]at h;exact stK_mono (fun v w'=>A _ _) h
  ·rename_i E;simp only[E]at h;exact A _ _ h
section
variable {i j:Nat} {oi oj:Oper} (hj:ops[j]?=some oj) (hap:oi.apart ops oj=true)
 (hsi:∀ cs b,oi.op≠.select cs b) (hsj:∀ cs b,oj.op≠.select cs b)
include hj hap hsj in
theorem stT_put {K:Act->World->Prop}{a:Act}(h:stT P ops j K (a.put oi.dst v) w) :
  stT P ops j (fun B w'=>(∃ u,B=a.put oj.dst u)/\K (B.put oi.dst v) w') a w:=by
 obtain⟨E,I,L⟩:=Oper.apart_spec hap;unfold stT at *;simp only[hj]at *;rw[wanted_put oj a oi.dst v E]at h;have H:∀ u,(a.put oi.dst v).put oj.dst u=(a.put oj.dst u).put oi.dst v:=fun u=>Act.put_comm a v u I;split
 ·rename_i A
  simp only[A,if_true]at h;refine stK_mono (fun u w' J=>?_) (stK_congr (execOp_put oj hsj a oi.dst v E).symm h);exact⟨⟨u,rfl⟩,by rw[<- H];exact J⟩
 ·rename_i A
  simp only[A]at h;exact⟨⟨undef,rfl⟩,by rw[<- H];exact h⟩
include hap hsi in
theorem yields_put {a:Act}(u:Value)(B:Yields P ops oi v a):Yields P ops oi v (a.put oj.dst u):=by
 obtain⟨_,_,A⟩:=Oper.apart_spec hap;exact B.of_same (execOp_put oi hsi a oj.dst u A) (wanted_put oi a oj.dst u A)
end
theorem Yields.stT' {o:Oper}{a:Act}(hi:ops[i]?=some o)(B:kindOf P o.op=0)(E:Yields P ops o v a){K:Act->World->Prop}(h:K (a.put o.dst v) w):stT P ops i K a w:=by
 unfold stT;simp only[hi]
 rcases E with ⟨A,H⟩ | ⟨A,rfl⟩
 ·simp only[A,if_true,stK,B];exact⟨v,H,h⟩
 ·simp only[A,qP,if_false];exact h
theorem unwanted_stT {o:Oper}{a:Act}(hi:ops[i]?=some o)(A:xQ o (yielded ops a.tmps)=false){K:Act->World->Prop}(h:K (a.put o.dst undef) w):stT P ops i K a w:=by
 unfold stT;simp only[hi,A,qP,if_false];exact h
def Free (ops:Array Oper)(i:Nat)(oi:Oper)(listed:Array Bool):Prop :=
 ∀ j oj,ops[j]?=some oj->j≠i->listed.getD j true=false->(∀ e ∈ oj.after,xX .any e=true->e.on≠i)->oi.apart ops oj=true
theorem Free.set {oi:Oper}(h:Free ops i oi listed):Free ops i oi (listed.setIfInBounds j true):=by
 intro k ok I E A H;refine h k ok I E ?_ H
 by_cases B:j=k
 ·subst B
  rcases Nat.lt_or_ge j listed.size with h' | h'
  ·simp[h']at A
  ·simp at A
 ·rw[getD_set_ne true B]at A;exact A
theorem qVo {oj:Oper}(M:i ∈ qO .any ops listed)(hj:j ∈ qO .any ops listed)(H:ops[j]?=some oj) :
  ∀ e ∈ oj.after,xX .any e=true->e.on≠i:=by
 obtain⟨_,I,A,B⟩:=mem_ready.1 hj;have:oj=I:=Option.some.inj (H.symm.trans A);subst this;intro e N O J;have E:=B e N O;have L:=(mem_ready.1 M).1;rw[J]at E
 rcases Nat.lt_or_ge i listed.size with h' | h'
 ·simp[h']at L E;rw[L]at E;cases E
 ·simp[qM h']at E
theorem first0 {Q:Act->World->Prop}{oi:Oper}(hi:ops[i]?=some oi)
  (I:∀ (j:Nat) (o:Oper) cs b,ops[j]?=some o->o.op≠.select cs b)
  (L:∀ (a:Act) (w:World) (K:Act->World->Prop),Yields P ops oi v a->K (a.put oi.dst v) w->stT P ops i K a w) :
  ∀ (f:Nat) (listed:Array Bool) (a:Act) (w:World),Free ops i oi listed->i ∈ qO .any ops listed->Yields P ops oi v a ->
   anyT P ops Q f (listed.setIfInBounds i true) (a.put oi.dst v) w->anyT P ops Q (f+1) listed a w:=by
 intro f
 induction f with
 | zero =>
  intro listed a w _ J N H;refine⟨fun h=>(by rw[h]at J;cases J),fun j hj=>?_⟩
  by_cases A:j=i
  ·subst A;exact L a w _ N H
  ·have:=ready_mono hj A
   rw[H.1]at this;cases this
 | succ f O =>
  intro listed a w B J N H;refine⟨fun h=>(by rw[h]at J;cases J),fun j hj=>?_⟩
  by_cases A:j=i
  ·subst A;exact L a w _ N H
  ·have R:=H.2 j (ready_mono hj A)
   obtain⟨M,oj,E,_⟩:=mem_ready.1 hj;have hap:=B j oj E A M (qVo J hj E);have T:=stT_put E hap (fun cs b=>I j oj cs b E) R;refine stT_mono (fun W w' U=>?_) T;obtain⟨⟨u,rfl⟩,V⟩:=U;refine O (listed.setIfInBounds j true) _ w' B.set (ready_mono J (Ne.symm A)) (yields_put hap (fun cs b=>I i oi cs b hi) u N) ?_;rw[qH _ _ A];exact V
end
section
variable {P:Program} {ops:Array Oper}
def waitsB (ops:Array Oper)(i:Nat)(listed:Array Bool):Nat->Nat->Bool
 | 0,_=>false
 | f+1,j=>match ops[j]? with
  | some o=>o.after.any (fun e=>xX .any e && e.on == i) || o.after.any (fun e=>xX .any e && !listed.getD e.on false && waitsB ops i listed f e.on)
  | none=>false
theorem waitsB_not (hi:listed.getD i false=false){f j:Nat}(h:waitsB ops i listed f j=true):j ∉ qO .any ops listed:=by
 intro H;obtain⟨_,o,I,A⟩:=mem_ready.1 H
 cases f with
 | zero=>cases h
 | succ f =>
  unfold waitsB at h;simp only[I,qT]at h
  rcases h with h | h
  ·obtain⟨e,E,B⟩:=Array.any_eq_true'.1 h
   simp only[qN,beq_iff_eq]at B;have:=A e E B.1;rw[B.2,hi]at this;cases this
  ·obtain⟨e,E,B⟩:=Array.any_eq_true'.1 h
   simp only[qN,qR]at B;have:=A e E B.1.1;rw[B.1.2]at this;cases this
theorem waitsB_set {i B:Nat}(hi:listed.getD i false=false)(I:B ∈ qO .any ops listed) :
  ∀ {f j:Nat},waitsB ops i listed f j=true->waitsB ops i (listed.setIfInBounds B true) f j=true:=by
 intro f
 induction f with
 | zero=>intro j h;cases h
 | succ f J =>
  intro j h;unfold waitsB at h ⊢;split
  ·rename_i o E
   simp only[E,qT]at h ⊢
   rcases h with h | h
   ·exact .inl h
   ·right
    obtain⟨e,L,A⟩:=Array.any_eq_true'.1 h;simp only[qN,qR]at A;refine Array.any_eq_true'.2 ⟨e,L,?_⟩;simp only[qN,qR];have hne:B≠e.on:=fun H=>waitsB_not hi A.2 (H ▸ I);exact⟨⟨A.1.1,by rw[getD_set_ne false hne];exact A.1.2⟩,J A.2⟩
  ·rename_i E;simp[E]at h
def Alone (P:Program)(ops:Array Oper)(i:Nat)(m:Nat)(listed:Array Bool):Prop :=
 ∀ j oj,ops[j]?=some oj->j≠i->listed.getD j true=false->kindOf P oj.op<=m∨waitsB ops i listed ops.size j=true
theorem getD_ft (h:listed.getD i true=false):listed.getD i false=false:=by
 rcases Nat.lt_or_ge i listed.size with h' | h'
 ·simp[h']at h ⊢;exact h
 ·simp[qM h']at h
theorem Alone.set (hi:listed.getD i false=false)(H:j ∈ qO .any ops listed)(h:Alone P ops i m listed):Alone P ops i m (listed.setIfInBounds j true):=by
 intro k ok I E A
 have:listed.getD k true=false:=by
  by_cases B:j=k
  ·subst B;exact (mem_ready.1 H).1
  ·rw[getD_set_ne true B]at A;exact A
 exact (h k ok I E this).imp id (waitsB_set hi H)
theorem Alone.kind {oj:Oper}(h:Alone P ops i m listed)(hi:listed.getD i false=false)(A:ops[j]?=some oj)(B:j≠i)(hj:j ∈ qO .any ops listed):kindOf P oj.op<=m :=
 (h j oj A B (mem_ready.1 hj).1).resolve_right fun E=>waitsB_not hi E hj
theorem stT_same {oj:Oper}(hj:ops[j]?=some oj)(H:kindOf P oj.op<=1){a:Act}{K:Act->World->Prop}(h:stT P ops j K a w):stT P ops j (fun I w'=>w'=w/\K I w') a w:=by
 unfold stT at *;simp only[hj]at *;split
 ·rename_i B
  simp only[B,if_true]at h;unfold stK at *;split at h
  ·obtain⟨v,A,E⟩:=h;exact⟨v,A,rfl,E⟩
  ·obtain⟨v,A,E⟩:=h;exact⟨v,A,rfl,E⟩
  ·rename_i J A
   exact absurd H (by have L:kindOf P oj.op≠0:=J;have a1:kindOf P oj.op≠1:=A;omega)
 ·rename_i B
  simp only[B]at h;exact⟨trivial,h⟩
def Yields1 (P:Program)(ops:Array Oper)(o:Oper)(v:Value)(a:Act)(w:World):Prop :=
 xQ o (yielded ops a.tmps)=true/\(execOp a.eval o).run P w=.ok (.value v) w
theorem first1 {Q:Act->World->Prop}{oi:Oper}(hi:ops[i]?=some oi)(V:kindOf P oi.op=1)
  (I:∀ (j:Nat) (o:Oper) cs b,ops[j]?=some o->o.op≠.select cs b) :
  ∀ (f:Nat) (listed:Array Bool) (a:Act),Free ops i oi listed->Alone P ops i 1 listed->i ∈ qO .any ops listed->Yields1 P ops oi v a w ->
   anyT P ops Q f (listed.setIfInBounds i true) (a.put oi.dst v) w->anyT P ops Q (f+1) listed a w:=by
 have M:∀ (a:Act) (K:Act->World->Prop),Yields1 P ops oi v a w->K (a.put oi.dst v) w->stT P ops i K a w:=by
  intro a K J h;unfold stT;simp only[hi,J.1,if_true,stK,V];exact⟨v,J.2,h⟩
 intro f
 induction f with
 | zero =>
  intro listed a _ _ L J H;refine⟨fun h=>(by rw[h]at L;cases L),fun j hj=>?_⟩
  by_cases A:j=i
  ·subst A;exact M a _ J H
  ·have:=ready_mono hj A
   rw[H.1]at this;cases this
 | succ f W =>
  intro listed a E N L J H;refine⟨fun h=>(by rw[h]at L;cases L),fun j hj=>?_⟩
  by_cases A:j=i
  ·subst A;exact M a _ J H
  ·have Y:=H.2 j (ready_mono hj A)
   obtain⟨O,oj,B,_⟩:=mem_ready.1 hj;have R:=getD_ft (mem_ready.1 L).1;have hap:=E j oj B A O (qVo L hj B);have Z:=stT_same B (N.kind R B A hj) (stT_put B hap (fun cs b=>I j oj cs b B) Y);refine stT_mono (fun a' w' h3=>?_) Z;obtain⟨T,⟨u,rfl⟩,h4⟩:=h3;subst T;obtain⟨_,_,U⟩:=Oper.apart_spec hap;refine W (listed.setIfInBounds j true) _ E.set (N.set R hj) (ready_mono L (Ne.symm A)) ⟨?_,?_⟩ ?_
   ·rw[wanted_put oi a oj.dst u U];exact J.1
   ·rw[execOp_put oi (fun cs b=>I i oi cs b hi) a oj.dst u U];exact J.2
   ·rw[qH _ _ A]
    exact h4
theorem stT_yields {oj:Oper}(hj:ops[j]?=some oj)(B:kindOf P oj.op<=0){a:Act}{K:Act->World->Prop}(h:stT P ops j K a w) :
  ∃ u,Yields P ops oj u a/\K (a.put oj.dst u) w:=by
 unfold stT at h;simp only[hj]at h;split at h
 ·rename_i A
  unfold stK at h;rw[Nat.le_zero.1 B]at h;obtain⟨v,E,H⟩:=h;exact⟨v,.inl ⟨A,E⟩,H⟩
 ·rename_i A
  exact⟨undef,.inr ⟨by simpa using A,rfl⟩,h⟩
theorem Yields.det {o:Oper}{u v:Value}{a:Act}(w:World)(h:Yields P ops o u a)(E:Yields P ops o v a):u=v:=by
 rcases h with ⟨B,H⟩ | ⟨B,rfl⟩
 ·rcases E with ⟨_,I⟩ | ⟨A,_⟩
  ·have:=(H w).symm.trans (I w)
   simpa using this
  ·rw[B]at A;cases A
 ·rcases E with ⟨A,_⟩ | ⟨_,rfl⟩
  ·rw[B]at A;cases A
  ·rfl
theorem first2 {Q:Act->World->Prop}{oi:Oper}(hi:ops[i]?=some oi)(hk:2<=kindOf P oi.op)
  (I:∀ (j:Nat) (o:Oper) cs b,ops[j]?=some o->o.op≠.select cs b) :
  ∀ (f:Nat) (listed:Array Bool) (a:Act),Free ops i oi listed->Alone P ops i 0 listed->i ∈ qO .any ops listed ->
   xQ oi (yielded ops a.tmps)=true ->
   outE P (execOp a.eval oi) w (fun v w'=>anyT P ops Q f (listed.setIfInBounds i true) (a.put oi.dst v) w')->anyT P ops Q (f+1) listed a w:=by
 have T:∀ (a:Act) (K:Act->World->Prop),xQ oi (yielded ops a.tmps)=true->outE P (execOp a.eval oi) w (fun v w'=>K (a.put oi.dst v) w')->stT P ops i K a w:=by
  intro a K R h;unfold stT;simp only[hi,R,if_true];unfold stK;split
  ·rename_i U;omega
  ·rename_i U;omega
  ·exact h
 intro f
 induction f with
 | zero =>
  intro listed a _ _ J R H;refine⟨fun h=>(by rw[h]at J;cases J),fun j hj=>?_⟩
  by_cases A:j=i
  ·subst A;exact T a _ R H
  ·obtain⟨v0,w0,U⟩:=outE_some H
   have:=ready_mono hj A;rw[U.1]at this;cases this
 | succ f ih =>
  intro listed a E V J R H;refine⟨fun h=>(by rw[h]at J;cases J),fun j hj=>?_⟩
  by_cases A:j=i
  ·subst A;exact T a _ R H
  ·obtain⟨W,oj,B,_⟩:=mem_ready.1 hj
   have Y:=getD_ft (mem_ready.1 J).1;have M:=V.kind Y B A hj;have hap:=E j oj B A W (qVo J hj B);obtain⟨h3,h4,h5⟩:=Oper.apart_spec hap;have hsj:=fun cs b=>I j oj cs b B;have hsi:=fun cs b=>I i oi cs b hi
   have back:∀ {v u:Value},Yields P ops oj u (a.put oi.dst v)->Yields P ops oj u a:=fun {v u} N =>
    N.of_same (execOp_put oj hsj a oi.dst v h3).symm (wanted_put oj a oi.dst v h3).symm
   obtain⟨v0,w0,U⟩:=outE_some H;obtain⟨u,N,_⟩:=stT_yields B M (U.2 j (ready_mono hj A));have L:=back N;refine Yields.stT' B (Nat.le_zero.1 M) L ?_;refine ih (listed.setIfInBounds j true) _ E.set (V.set Y hj) (ready_mono J (Ne.symm A)) (by rw[wanted_put oi a oj.dst u h5];exact R) ?_;rw[execOp_put oi hsi a oj.dst u h5];refine qJc (fun v w' hv=>?_) H;obtain⟨u',Z,O⟩:=stT_yields B M (hv.2 j (ready_mono hj A));have:=Yields.det w (back Z) L;subst this;rw[qH _ _ A,<- Act.put_comm a v u' h4];exact O
def walkT (P:Program)(ops:Array Oper)(Q:Act->World->Prop):List Oper->Act->World->Prop
 | [],a,w=>Q a w
 | o::r,a,w=>if xQ o (yielded ops a.tmps) then stK P o a w (fun v w'=>walkT P ops Q r (a.put o.dst v) w') else walkT P ops Q r (a.put o.dst undef) w
def aloneB (P:Program)(ops:Array Oper)(i:Nat)(listed:Array Bool):Bool :=
 match ops[i]? with
 | none=>false
 | some oi=>let A:=kindOf P oi.op
  if A=0 then true else
  (qI ops.size).all fun j=>j == i || listed.getD j true || (match ops[j]? with | some oj=>let B:=kindOf P oj.op;B == 0 || (A == 1 && B == 1) | none=>true) || waitsB ops i listed ops.size j
def lexT (P:Program)(ops:Array Oper):Nat->Nat->Array Bool->Bool
 | 0,_,listed=>(qO .any ops listed).isEmpty
 | f+1,k,listed=>(qO .any ops listed).contains k && Region.free .any ops listed k && aloneB P ops k listed && lexT P ops f (k+1) (listed.setIfInBounds k true)
def lexAll (P:Program)(ops:Array Oper):Bool:=P.follows .mixedOrders && Region.noSelect ops && lexT P ops ops.size 0 (Array.replicate ops.size false)
theorem aloneB_spec {oi:Oper}(hi:ops[i]?=some oi)(h:aloneB P ops i listed=true) :
  kindOf P oi.op=0∨(kindOf P oi.op=1/\Alone P ops i 1 listed)∨(2<=kindOf P oi.op/\Alone P ops i 0 listed):=by
 unfold aloneB at h;simp only[hi]at h
 by_cases H:kindOf P oi.op=0
 ·exact .inl H
 ·simp only[H,if_false]at h
  have key:∀ j oj,ops[j]?=some oj->j≠i->listed.getD j true=false->(kindOf P oj.op=0∨(kindOf P oi.op=1/\kindOf P oj.op=1))∨waitsB ops i listed ops.size j=true:=by
   intro j oj hj A B;have E:j<ops.size:=(Array.getElem?_eq_some_iff.1 hj).1;have:=List.all_eq_true.1 h j (List.mem_range.2 E);simp only[hj,B,Bool.or_false,qT,beq_iff_eq,A,false_or,qN]at this;exact this
  right
  by_cases I:kindOf P oi.op=1
  ·left
   refine⟨I,fun j oj hj A B=>?_⟩
   rcases key j oj hj A B with (h | h) | h
   ·left;omega
   ·left;omega
   ·exact .inr h
  ·right
   refine⟨om,fun j oj hj A B=>?_⟩
   rcases key j oj hj A B with (h | h) | h
   ·left;omega
   ·exact absurd h.1 I
   ·exact .inr h
theorem anyT_lex {Q:Act->World->Prop}(hs:Region.noSelect ops=true):∀ (l:List Oper) (k:Nat) (listed:Array Bool) (a:Act) (w:World), (∀ j, l[j]?=ops[k+j]?) ->
  lexT P ops l.length k listed=true->walkT P ops Q l a w->anyT P ops Q l.length listed a w
 | [],_,_,_,_,_,R,h=>⟨by simpa [lexT] using R,h⟩
 | o::l,k,listed,a,w,hl,R,h=>by
  have H:ops[k]?=some o:=by simpa using (hl 0).symm
  simp only[List.length_cons,lexT,qN]at R;obtain⟨⟨⟨hr,hf⟩,T⟩,U⟩:=R;have I:k ∈ qO .any ops listed:=by simpa using hr
  have A:Free ops k o listed:=Region.free_spec H hf;have V:∀ j,l[j]?=ops[k+1+j]?:=fun j=>by have:=hl (j+1);simpa [Nat.add_assoc,Nat.add_comm 1 j] using this
  have B:=Region.noSelect_spec hs;have E:∀ a w,walkT P ops Q l a w->anyT P ops Q l.length (listed.setIfInBounds k true) a w:=fun a w h=>anyT_lex hs l (k+1) _ a w V U h;simp only[walkT]at h
  by_cases N:xQ o (yielded ops a.tmps)=true
  ·simp only[N,if_true]at h
   rcases aloneB_spec H T with J | ⟨J,W⟩ | ⟨J,W⟩
   ·unfold stK at h
    rw[J]at h;obtain⟨v,L,M⟩:=h;exact first0 H B (fun a w K Y O=>Yields.stT' H J Y O) _ _ _ _ A I (.inl ⟨N,L⟩) (E _ _ M)
   ·unfold stK at h
    rw[J]at h;obtain⟨v,L,M⟩:=h;exact first1 H J B _ _ _ A W I ⟨N,L⟩ (E _ _ M)
   ·exact first2 H J B _ _ _ A W I N (qJc (fun v w' hv=>E _ _ hv) (stK_out h))
  ·simp only[N]at h
   have Z:xQ o (yielded ops a.tmps)=false:=by simpa using N
   exact first0 (v:=undef) H B (fun a w K Y O=>by
    rcases Y with ⟨L,M⟩ | ⟨L,_⟩
    ·unfold stT
     simp only[H,L,if_true];unfold stK;split
     ·exact⟨undef,M,O⟩
     ·exact⟨undef,M w,O⟩
     ·simp only[outE,M w];exact O
    ·exact unwanted_stT H L O) _ _ _ _ A I (.inr ⟨Z,rfl⟩) (E _ _ h)
theorem wp_draw {id:Nat}{Q:Exit->Act->World->Prop}{a:Act}(A:lexAll P ops=true)(h:walkT P ops (fun a w=>Q .normal a w) ops.toList a w.drew):(Code.region id ops true).wp P Q a w:=by
 simp only[lexAll,qN]at A;refine wp_region_any A.1.1 (any_of_anyT (fun _ _ h=>h) _ _ _ _ ?_);have:=anyT_lex (P:=P) (Q:=fun a w=>Q .normal a w) A.1.2 ops.toList 0 (Array.replicate ops.size false) a w.drew sm (by simpa using A.2) h;simpa using this
end
end Go.V
