/- Helpers. -/
import Derived.Still
import Derived.Test.YtppmpdjlmgfdkaaGreatDoorM00
set_option linter.all false
set_option maxRecDepth 100000
set_option maxHeartbeats 8000000
open Array renaming toList_map->qF,setIfInBounds_comm->qH,range->qB,getElem?_eq_getElem->qD,getElem?_eq_none->qM
open Bool renaming and_eq_true->qN,false_eq_true->qP,not_eq_true'->qR,or_eq_true->qT
open Go.Builtin renaming delete_->qL,append_->qC
open List renaming map_cons->qS,map_nil->qE,range->qI
open Option renaming map_eq_some_iff->qJ,bind_eq_some_iff->qZ
open Go.Region renaming ready->qO,wanted->xQ,binds->xX
open Go.Result renaming andThen_ok->qY
open Go.Sem renaming run_bind->qU,run_pure->qG
namespace Go.V
variable {listed:Array Bool} {args c:Array Value} {f:FuncId} {b i j m r:Nat} {fz:Nat × Nat} {ob:Obj} {e kt t:TypeId} {k v:Value} {K K':Value->World->Prop} {w:World}
section
variable {P:Program}
theorem qVc (b o n:Nat):(⟨b,o,none⟩:Addr).add n=⟨b,o+n,none⟩:=by
 unfold Addr.add;split
 ·subst_vars;rfl
 ·rfl
theorem cell_blk {b o:Nat}(h:w.heap[b]?=some (.cells c e fz)) :
  w.cell? ⟨b,o,none⟩=c[o]?:=by simp[World.cell?,h]
theorem r_load {b o:Nat}
  (h:w.heap[b]?=some (.cells c e fz)) (A:c[o]?=some v):(load ⟨b,o,none⟩).run P w=.ok v w:=by
 simp[cell_blk h,A]
theorem qKt {b o n:Nat}
  (h:w.heap[b]?=some (.cells c e fz)) (D:o+n<=c.size):(loadCells ⟨b,o,none⟩ n).run P w=.ok (c.extract o (o+n)) w:=by
 rw[run_loadCells w ⟨b,o,none⟩ n (fun j=>c.getD (o+j) undef)]
 ·congr 1
  apply Array.ext
  ·simp;omega
  ·intro i E B
   have A:o+i<c.size:=by simp at B;omega
   simp[A]
 ·intro j hj
  have A:o+j<c.size:=x8
  rw[qVc,cell_blk h];simp[A]
theorem r_loadVar {b o:Nat}(h:ldO P t w.heap[b]? o=some v):(loadVar t ⟨b,o,none⟩).run P w=.ok v w:=by
 unfold ldO at h;split at h
 ·rename_i c e fz B
  split at h
  ·rename_i A
   split at h
   ·rename_i n D
    split at h
    ·rename_i E
     simp only[oSi]at h;subst h;simp[loadVar,r_agg A,qZe D,qKt B E]
    ·cases h
   ·cases h
  ·rename_i A
   simp only[loadVar,qU,r_agg A,qY,qP,if_false];exact r_load B h
  ·cases h
 ·cases h
theorem qQi {o:Obj}(h:w.heap[b]?=some o):b<w.heap.size:=(Array.getElem?_eq_some_iff.1 h).1
@[simp] theorem put_heap_size (w:World) (b:Nat) (o:Obj):(put w b o).heap.size=w.heap.size:=by simp[put]
theorem put_self {o:Obj}(h:w.heap[b]?=some o):put w b o=w:=by
 have A:=qQi h;have B:w.heap[b]=o:=by simpa [qD A] using h
 unfold put
 have:w.heap.setIfInBounds b o=w.heap:=by
  rw[<- B];simp[Array.setIfInBounds,A]
 rw[this]
theorem put_put (w:World)(b:Nat)(o A:Obj):put (put w b o) b A=put w b A:=by
 simp[put]
theorem qZi (o:Obj)(h:b<w.heap.size):(put w b o).heap[b]?=some o:=by
 simp[put,h]
theorem qVy {b A:Nat}(o:Obj)(h:b≠A):(put w b o).heap[A]?=w.heap[A]?:=by
 simp[put,Array.getElem?_setIfInBounds_ne h]
theorem setCell_put {b o:Nat}(v:Value)
  (h:w.heap[b]?=some (.cells c e fz)):w.setCell ⟨b,o,none⟩ v=put w b (.cells (c.setIfInBounds o v) e fz):=by
 have A:=qQi h;have D:w.heap[b]=.cells c e fz:=by simpa [qD A] using h
 unfold World.setCell put
 congr 1
 apply Array.ext_getElem?;intro i;rw[Array.getElem?_modify,Array.getElem?_setIfInBounds]
 by_cases B:b=i
 ·subst B;simp[A,D]
 ·simp[B]
theorem one_eq (v:Value):one v=v.oneCell':=by cases v <;> rfl
theorem qJg:∀ (vs:List Value) (o:Nat) (c:Array Value),(qZa vs o c).size=c.size
 | [],_,_=>rfl
 | _::r,o,c=>by simp[qZa,qJg r]
theorem qVi:∀ (vs:List Value) (w:World) (b o i:Nat) (c:Array Value) (e:TypeId), w.heap[b]?=some (.cells c e (0, 0)) ->
  o+i+vs.length<=c.size->vs.all one=true ->
  (storeCells ⟨b,o,none⟩ vs i).run P w=.ok () (put w b (.cells (qZa vs (o+i) c) e (0,0)))
 | [],w,b,o,i,c,e,h,_,_=>by simp[storeCells,qZa,put_self h]
 | v::r,w,b,o,i,c,e,h,D,A=>by
  simp only[List.length_cons]at D;simp only[List.all_cons,qN]at A;have B:o+i<c.size:=x8
  have E:w.cell? ⟨b,o+i,none⟩=some c[o+i]:=by rw[cell_blk h];simp[B]
  have H:w.frozen? ⟨b,o+i,none⟩=false:=by simp[World.frozen?,h]
  simp only[storeCells,qU,qVc,run_store P w _ v .plain (by rw[<- one_eq];exact A.1),E,H,qP,if_false,qY];rw[setCell_put v h];rw[qVi r _ b o (i+1) (c.setIfInBounds (o+i) v) e (qZi _ (qQi h)) (by simp;omega) A.2];rw[put_put];simp[qZa,Nat.add_assoc]
theorem r_storeVar {b o:Nat}(h:stO P t w.heap[b]? o v=some ob) :
  (storeVar t ⟨b,o,none⟩ v).run P w=.ok () (put w b ob):=by
 unfold stO at h;split at h
 ·rename_i c e B
  split at h
  ·rename_i A
   simp only[oSi]at h;subst h;have:=qVi (P:=P) v.cells.toList w b o 0 c e B (by simpa using A.2.1) (by simpa using A.2.2);simp only[storeVar,qU,qZe A.1,qY,ne_eq,not_true_eq_false,if_false];simpa using this
  ·cases h
 ·cases h
def plainB (w:World)(b:Nat):Bool:=match w.heap[b]? with | some (.cells _ _ (0,0))=>true | _=>false
def eqPtr (w:World)(x y:Value):Option Bool :=
 match x,y with
 | .pointer none,.pointer b=>some b.isNone
 | .pointer (some _),.pointer none=>some false
 | .pointer (some a),.pointer (some b)=>if a.block=b.block then some (a == b) else if plainB w a.block=true/\plainB w b.block=true then some false else none
 | _,_=>none
theorem plainB_spec (h:plainB w b=true):∃ c e,w.heap[b]?=some (.cells c e (0,0)):=by
 unfold plainB at h;split at h
 ·exact⟨_,_,as_⟩
 ·cases h
theorem r_sameAddr {a b:Addr}(hne:a.block≠b.block)(H:plainB w a.block=true)(I:plainB w b.block=true) :
  (sameAddr a b).run P w=.ok false w:=by
 obtain⟨c,e,B⟩:=plainB_spec H;obtain⟨c',J,A⟩:=plainB_spec I;have L:∀ n,w.frozen? ⟨a.block,n,a.spot⟩=false:=fun n=>by simp[World.frozen?,B]
 have M:∀ n,w.frozen? ⟨b.block,n,b.spot⟩=false:=fun n=>by simp[World.frozen?,A]
 have N:∀ n,w.frozen? ⟨a.block,n,none⟩=false:=fun n=>by simp[World.frozen?,B]
 have O:∀ n,w.frozen? ⟨b.block,n,none⟩=false:=fun n=>by simp[World.frozen?,A]
 have D:=L a.off;have E:=M b.off;have R:w.shape? a.block=some (e,c.size):=by simp[World.shape?,B]
 have T:w.shape? b.block=some (J,c'.size):=by simp[World.shape?,A]
 simp[sameAddr,hne,noView,viewAt,R,T,mayBeOne,stringish,D,E,N,O]
def ptrO (P:Program)(t:TypeId):Option Nat:=match P.underlying t with | some (.pointer e)=>szO P e | _=>none
def cmpR (P:Program)(w:World)(t:TypeId)(c:Bool)(a b:Value):Option Bool :=
 match a,b with
 | .pointer _,.pointer _=>(match ptrO P t with | some n=>if n=0 then none else eqPtr w a b | none=>none)
 | .agg _,.agg _=>if P.eqGuardType P.depth t=true then none else eqV P Op.maxDepth t a b
 | .nilIface,.nilIface=>if qVl P t=true/\c=true then some true else none
 | .nilIface,.iface _ _=>if qVl P t=true then some false else none
 | .iface _ _,.nilIface=>if qVl P t=true then some false else none
 | .slice x _ _,.slice y _ _=>(match slcO P t with | none=>none | some _=>match x,y with | none,y=>some y.isNone | some _,none=>some false | _,_=>none)
 | .map x,.map y=>(match mapO P t with | none=>none | some _=>match x,y with | none,y=>some y.isNone | some _,none=>some false | _,_=>none)
 | _,_=>none
theorem ifaceT_und (h:qVl P t=true):∃ ms,P.underlying t=some (.interface ms):=by
 unfold qVl at h;split at h
 ·exact⟨_,as_⟩
 ·cases h
theorem r_eqPtr (d:Nat){e n:Nat}{x y:Value}{r:Bool}(B:P.underlying t=some (.pointer e))(E:szO P e=some n)(A:¬ n=0)
  (h:eqPtr w x y=some r):(Op.equalIn (d+1) t x y).run P w=.ok r w:=by
 unfold eqPtr at h;split at h
 ·simp only[oSi]at h;subst h
  simp[Op.equalIn,r_und B]
 ·simp only[oSi]at h;subst h
  simp[Op.equalIn,r_und B]
 ·rename_i a b
  split at h
  ·rename_i D
   simp only[oSi]at h;subst h;simp[Op.equalIn,r_und B,qZe E,A,sameAddr,D]
  ·rename_i D
   split at h
   ·rename_i H
    simp only[oSi]at h;subst h;simp[Op.equalIn,r_und B,qZe E,A,r_sameAddr D H.1 H.2]
   ·cases h
 ·cases h
theorem r_eqIf (d:Nat)(ms:Array (String × TypeId))(A:P.underlying t=some (.interface ms)) :
  (Op.equalIn (d+1) t .nilIface .nilIface).run P w=.ok true w/\(∀ u v,(Op.equalIn (d+1) t .nilIface (.iface u v)).run P w=.ok false w) /\
  (∀ u v,(Op.equalIn (d+1) t (.iface u v) .nilIface).run P w=.ok false w):=by
 refine⟨?_,fun u v=>?_,fun u v=>?_⟩ <;> simp[Op.equalIn,r_und A]
theorem r_eqSl (d:Nat)(h:P.underlying t=some (.slice e))(y:Option Addr)(a b c A:Nat) :
  (Op.equalIn (d+1) t (.slice none a b) (.slice y c A)).run P w=.ok y.isNone w /\
  (∀ x,(Op.equalIn (d+1) t (.slice (some x) a b) (.slice none c A)).run P w=.ok false w):=by
 refine⟨?_,fun x=>?_⟩ <;> simp[Op.equalIn,r_und h]
theorem r_eqMp (d:Nat){t k e:TypeId}(h:P.underlying t=some (.map k e))(y:Option Nat) :
  (Op.equalIn (d+1) t (.map none) (.map y)).run P w=.ok y.isNone w /\
  (∀ x,(Op.equalIn (d+1) t (.map (some x)) (.map none)).run P w=.ok false w):=by
 refine⟨?_,fun x=>?_⟩ <;> simp[Op.equalIn,r_und h]
theorem qVm (t:TypeId)(a b:Value):Op.equal t a b=Op.equalIn (9999+1) t a b:=rfl
theorem r_cmp {x y:Operand}{a b:Value}{r:Bool}{op:BinOp}(A:op=.eql∨op=.neq)
  (h:cmpR P w t ((x matches .const _) || (y matches .const _)) a b=some r) :
  (do eqGuard op t x y a b;binOp op t a b:Sem Value).run P w=.ok (.bool (if op=.eql then r else !r)) w:=by
 have key:(eqGuard op t x y a b).run P w=.ok () w/\(Op.equal t a b).run P w=.ok r w /\
   (binOp .eql t a b=(do pure (.bool (<- Op.equal t a b))))/\(binOp .neq t a b=(do pure (.bool (!(<- Op.equal t a b))))):=by
  unfold cmpR at h;split at h
  ·rename_i p q
   split at h
   ·rename_i n H
    unfold ptrO at H;split at H
    ·rename_i e I
     split at h
     ·cases h
     ·rename_i J
      refine⟨by rcases A with rfl | rfl <;> simp[eqGuard],?_,by cases p <;> cases q <;> rfl,by cases p <;> cases q <;> rfl⟩;rw[qVm];exact r_eqPtr _ I H J h
    ·cases H
   ·cases h
  ·split at h
   ·cases h
   ·rename_i N
    refine⟨by rcases A with rfl | rfl <;> simp[eqGuard,N],?_,rfl,rfl⟩;exact r_eqV _ _ _ _ _ h w
  ·simp only[Option.ite_none_right_eq_some,oSi]at h
   obtain⟨D,rfl⟩:=h
   ·obtain⟨ms,B⟩:=ifaceT_und D.1
    refine⟨?_,by rw[qVm];exact (r_eqIf _ ms B).1,rfl,rfl⟩;have:=D.2
    rcases A with rfl | rfl <;> simp only[eqGuard] <;> cases x <;> cases y <;> simp_all
  ·split at h
   ·rename_i D
    obtain⟨ms,B⟩:=ifaceT_und D;simp only[oSi]at h;subst h;exact⟨by rcases A with rfl | rfl <;> simp[eqGuard],by rw[qVm];exact (r_eqIf _ ms B).2.1 _ _,rfl,rfl⟩
   ·cases h
  ·split at h
   ·rename_i D
    obtain⟨ms,B⟩:=ifaceT_und D;simp only[oSi]at h;subst h;exact⟨by rcases A with rfl | rfl <;> simp[eqGuard],by rw[qVm];exact (r_eqIf _ ms B).2.2 _ _,rfl,rfl⟩
   ·cases h
  ·split at h
   ·cases h
   ·rename_i e I
    refine⟨by rcases A with rfl | rfl <;> simp[eqGuard],?_,rfl,rfl⟩;split at h
    ·simp only[oSi]at h;subst h;rw[qVm];exact (r_eqSl _ (qZk I) _ _ _ _ _).1
    ·simp only[oSi]at h;subst h;rw[qVm];exact (r_eqSl _ (qZk I) none _ _ _ _).2 _
    ·cases h
  ·split at h
   ·cases h
   ·rename_i O E
    obtain⟨k,e⟩:=O;refine⟨by rcases A with rfl | rfl <;> simp[eqGuard],?_,rfl,rfl⟩;split at h
    ·simp only[oSi]at h;subst h;rw[qVm];exact (r_eqMp _ (mapO_und E) _).1
    ·simp only[oSi]at h;subst h;rw[qVm];exact (r_eqMp _ (mapO_und E) none).2 _
    ·cases h
  ·cases h
 obtain⟨L,M,R,T⟩:=key
 rcases A with rfl | rfl
 ·simp[L,R,M]
 ·simp[L,T,M]
end
section
variable {P:Program}
def ckV (P:Program):Nat->TypeId->Value->Bool
 | 0,_,_=>false
 | d+1,t,v =>
  match P.underlying t,v with
  | some .bool,_ | some (.int _),_ | some .string,_ | some (.pointer _),_=>true
  | some (.struct A), .agg cs => A.toList.all fun f => if f.name = "_" then true else match partO P f.type cs f.offset with | some u => ckV P d f.type u | none => false
  | some (.array n e),.agg cs=>match szO P e with | some s=>(qI n).all fun i=>(match partO P e cs (i*s) with | some u=>ckV P d e u | none=>false) | none=>false
  | _,_=>false
theorem r_forUnit {α:Type}(B:α->Unit->Sem (ForInStep Unit))(w:World) :
  ∀ (l:List α),(∀ x ∈ l,(B x ()).run P w=.ok (.yield ()) w)->(forIn (m:=Sem) l () B).run P w=.ok () w
 | [],_=>by simp
 | x::l,h=>by
  simp only[List.forIn_cons,qU,h x sm,qY];exact r_forUnit B w l fun y A=>h y (by simp[A])
theorem r_ckV (D:Bool):∀ (d:Nat) (t:TypeId) (v:Value),ckV P d t v=true->∀ w,(Instr.checkKey D d t v).run P w=.ok () w:=by
 intro d
 induction d with
 | zero=>intro t v h;cases h
 | succ d I =>
  intro t v h w;unfold ckV at h;split at h
  ·rename_i A;simp only[Instr.checkKey,qU,r_und A,qY];simp
  ·rename_i A;simp only[Instr.checkKey,qU,r_und A,qY];simp
  ·rename_i A;simp only[Instr.checkKey,qU,r_und A,qY];simp
  ·rename_i A;simp only[Instr.checkKey,qU,r_und A,qY];simp
  ·rename_i M cs A
   simp only[Instr.checkKey,qU,r_und A,qY];rw[<- Array.forIn_toList,r_forUnit]
   ·simp
   ·intro f J
    have:=List.all_eq_true.1 h f J;split at this
    ·rename_i E;simp[E]
    ·rename_i E
     split at this
     ·rename_i u B
      simp[E,r_part B,I _ _ this]
     ·cases this
  ·rename_i n e cs A
   simp only[Instr.checkKey,qU,r_und A,qY];split at h
   ·rename_i s L
    rw[Std.Legacy.Range.forIn_eq_forIn_range',r_forUnit]
    ·simp
    ·intro i hi
     have H:i ∈ qI n:=by simpa [Std.Legacy.Range.size,List.range_eq_range'] using hi
     have:=List.all_eq_true.1 h i H;split at this
     ·rename_i u B
      simp[qZe L,r_part B,I _ _ this]
     ·cases this
   ·cases h
  ·cases h
def mapEs (w:World)(m:Value):Option (List MapEntry) :=
 match m with
 | .map none=>some []
 | .map (some r)=>(match w.heap[r]? with | some (.map A _)=>some A.toList | _=>none)
 | _=>none
def findV (P:Program)(kt:TypeId)(k:Value):List MapEntry->Nat->Option (Option (Nat × Value))
 | [],_=>some none
 | e::A,i =>
  match eqV P Op.maxDepth kt k e.key with
  | some true=>some (some (i,e.val))
  | some false=>findV P kt k A (i+1)
  | none=>none
theorem eqV_now {d:TypeDesc}{a b:Value}{x y:Bool}(B:P.underlying kt=some d)(h:Instr.sameNow d a b=some x)(A:eqV P Op.maxDepth kt a b=some y):x=y:=by
 have e:eqV P Op.maxDepth kt a b=eqV P (9999+1) kt a b:=rfl;rw[e]at A;unfold eqV at A;unfold Instr.sameNow at h;rw[B]at A;split at h
 ·split at h
  ·rename_i D;simp_all
  ·cases h
 ·simp_all
 ·simp_all
 ·cases h
theorem findNow_eq {kt:TypeId}{d:TypeDesc}{k:Value}(I:P.underlying kt=some d):∀ (D:List MapEntry) (i:Nat) (r B:Option (Nat × Value)),
  findV P kt k D i=some r->Instr.findNow d k D i=some B->B=r
 | [],i,r,B,h,A=>by simp[findV]at h;simp[Instr.findNow]at A;rw[<- A,<- h]
 | e::D,i,r,B,h,A=>by
  unfold findV at h;unfold Instr.findNow at A
  cases E:Instr.sameNow d k e.key with
  | none=>rw[E]at A;cases A
  | some x =>
   rw[E]at A
   cases H:eqV P Op.maxDepth kt k e.key with
   | none=>rw[H]at h;cases h
   | some y =>
    rw[H]at h;have:=eqV_now I E H;subst this;cases x
    ·exact findNow_eq I D (i+1) r B h A
    ·simp only[oSi]at h A;rw[<- A,<- h]
theorem findAsking_eq {kt:TypeId}{k:Value}(w:World):∀ (A:List MapEntry) (i:Nat) (r:Option (Nat × Value)),
  findV P kt k A i=some r->(Instr.findAsking kt k A i).run P w=.ok r w
 | [],i,r,h=>by simp[findV]at h;simp[Instr.findAsking,h]
 | e::A,i,r,h=>by
  unfold findV at h;split at h
  ·rename_i B
   simp only[oSi]at h;subst h;simp[Instr.findAsking,Op.equal,r_eqV _ _ _ _ _ B]
  ·rename_i B
   simp[Instr.findAsking,Op.equal,r_eqV _ _ _ _ _ B,findAsking_eq w A (i+1) r h]
  ·cases h
theorem r_findKey {d:TypeDesc}{A:List MapEntry}{r:Option (Nat × Value)}(B:P.underlying kt=some d)(h:findV P kt k A 0=some r)(w:World) :
  (Instr.findKey kt k A).run P w=.ok r w:=by
 simp only[Instr.findKey,qU,r_und B,qY]
 cases D:Instr.findNow d k A 0 with
 | none=>simp only[];exact findAsking_eq w A 0 r h
 | some E=>simp[findNow_eq B A 0 r E h D]
theorem ckV_und {d:Nat}(h:ckV P d t v=true):∃ u,P.underlying t=some u:=by
 cases d with
 | zero=>cases h
 | succ d =>
  unfold ckV at h
  cases A:P.underlying t with
  | none=>simp[A]at h
  | some u=>exact⟨u,rfl⟩
def getK (P:Program)(kt:TypeId)(A:List MapEntry)(k:Value):Option (Option (Nat × Value)) :=
 if ckV P 10000 kt k=true then findV P kt k A 0 else none
def lookO (P:Program)(t:TypeId)(w:World)(m k:Value):Option (Value × Bool) :=
 (mapO P t).bind fun p=>(mapEs w m).bind fun A=>(getK P p.1 A k).bind fun r=>match r with
  | some (_,v)=>some (v,true)
  | none=>(zeroO P p.2).map fun z=>(z,false)
theorem r_getObj {A:Array MapEntry}{c:Nat}(h:w.heap[r]?=some (.map A c)):(getObj r).run P w=.ok (.map A c) w:=by
 simp[getObj,Sem.run,h]
theorem r_setObj {A:Array MapEntry}{c:Nat}{o:Obj}(h:w.heap[r]?=some (.map A c)):(setObj r o).run P w=.ok () (put w r o):=by
 simp[setObj,Sem.run,h,put]
theorem r_look {m k v:Value}{b ok:Bool}(h:lookO P t w m k=some (v, b)) :
  (Instr.lookup t m k ok).run P w=.ok (if ok=true then .tuple #[v,.bool b] else v) w:=by
 unfold lookO at h;simp only[qZ]at h;obtain⟨⟨kt,M⟩,I,N,A,r,D,h⟩:=h;unfold getK at D;split at D
 ·rename_i B
  obtain⟨d,E⟩:=ckV_und B;simp only at E B D h;unfold mapEs at A;split at A
  ·simp only[oSi]at A
   subst A;simp only[Instr.lookup,qU,r_und (mapO_und I),qY,qG,r_ckV _ _ _ _ B,r_findKey E D]
   cases r with
   | none =>
    simp only[qJ,Prod.mk.injEq]at h;obtain⟨z,H,rfl,rfl⟩:=h;simp[r_zero H]
   | some iv =>
    obtain⟨i,u⟩:=iv;simp only[oSi,Prod.mk.injEq]at h;obtain⟨rfl,rfl⟩:=h
    simp
  ·rename_i O
   split at A
   ·rename_i J c' L
    simp only[oSi]at A;subst A;simp only[Instr.lookup,qU,r_und (mapO_und I),qY,r_getObj L,qG,r_ckV _ _ _ _ B,r_findKey E D]
    cases r with
    | none =>
     simp only[qJ,Prod.mk.injEq]at h;obtain⟨z,H,rfl,rfl⟩:=h;simp[r_zero H]
    | some iv =>
     obtain⟨i,u⟩:=iv;simp only[oSi,Prod.mk.injEq]at h;obtain⟨rfl,rfl⟩:=h
     simp
   ·cases A
  ·cases A
 ·cases D
def putE (P:Program)(kt:TypeId)(ob:Option Obj)(k v:Value):Option Obj :=
 match ob with
 | some (.map A c)=>(getK P kt A.toList k).bind fun r=>match r with
  | some (i,_)=>if Instr.sameBits 10000 (((A[i]?).map (·.key)).getD k) k=true then some (.map (A.modify i fun e=>{ e with key:=k,val:=v }) c) else none
  | none=>some (.map (A.push { key:=k,val:=v,born:=c }) (c+1))
 | _=>none
theorem r_mapUpdate {t kt E:TypeId}(H:mapO P t=some (kt, E))(h:putE P kt w.heap[r]? k v=some ob) :
  (Instr.mapUpdate t (.map (some r)) k v).run P w=.ok () (put w r ob):=by
 unfold putE at h;split at h
 ·rename_i L c D
  simp only[qZ]at h;obtain⟨q,B,h⟩:=h;unfold getK at B;split at B
  ·rename_i A
   obtain⟨d,I⟩:=ckV_und A;simp only[Instr.mapUpdate,qU,r_und (mapO_und H),qY,r_getObj D,r_ckV _ _ _ _ A,r_findKey I B]
   cases q with
   | none=>simp only[oSi]at h;subst h;exact r_setObj D
   | some iv =>
    obtain⟨i,u⟩:=iv;simp only at h;split at h
    ·rename_i J
     simp only[oSi]at h;subst h;simp only[Instr.keyThatStays,J,if_true,qU,qG,qY];exact r_setObj D
    ·cases h
  ·cases B
 ·cases h
def delE (P:Program)(kt:TypeId)(ob:Option Obj)(k:Value):Option Obj :=
 match ob with
 | some (.map A c)=>(getK P kt A.toList k).map fun r=>match r with
  | some (i,_)=>.map (A.eraseIdxIfInBounds i) c
  | none=>.map A c
 | _=>none
def isC (x:Operand):Bool:=x matches .const _
def stepR (P:Program)(A:Ev)(w:World)(op:Op):Option Value :=
 match op with
 | .load t x=>match evO A x with | .pointer (some ⟨b,o,none⟩)=>rdO P t w b o | _=>none
 | .binOp op t x y _=>match op with
  | .eql=>(cmpR P w t (isC x || isC y) (evO A x) (evO A y)).map fun r=>.bool r
  | .neq=>(cmpR P w t (isC x || isC y) (evO A x) (evO A y)).map fun r=>.bool !r
  | _=>none
 | .lookup t m k ok=>(lookO P t w (evO A m) (evO A k)).map fun p=>if ok=true then .tuple #[p.1,.bool p.2] else p.1
 | .typeAssert x _ t ok=>match evO A x with
  | .iface u v=>if qVl P t=true then none else (aggO P t).bind fun _=>if u=t then some (if ok=true then .tuple #[v,.bool true] else v) else if ok=true then (zeroO P t).map fun z=>.tuple #[z,.bool false] else none
  | .nilIface=>if ok=true then (aggO P t).bind fun _=>(zeroO P t).map fun z=>.tuple #[z,.bool false] else none
  | _=>none
 | _=>none
theorem stepR_sound {a:Act}{o:Oper}(h:stepR P (evOf a) w o.op=some v):(execOp a.eval o).run P w=.ok (.value v) w:=by
 obtain⟨N,op,ty,pos,after,guard⟩:=o;unfold stepR at h;simp only at h
 split at h <;> simp only[execOp,qU,qXo]
 ·split at h
  ·rename_i b o A
   simp[Instr.loadAt,A,Instr.sureAddr,r_loadVar h]
  ·cases h
 ·rename_i O t x y z
  split at h
  ·simp only[qJ]at h
   obtain⟨r,E,rfl⟩:=h;have:=r_cmp (op:=.eql) (.inl rfl) E;simp only[qU]at this;rw[this];simp
  ·simp only[qJ]at h
   obtain⟨r,E,rfl⟩:=h;have:=r_cmp (op:=.neq) (.inr rfl) E;simp only[qU]at this;rw[this];simp
  ·cases h
 ·simp only[qJ]at h
  obtain⟨⟨u,b⟩,R,rfl⟩:=h;simp[r_look R]
 ·rename_i x U t ok
  split at h
  ·rename_i u V A
   split at h
   ·cases h
   ·rename_i B
    simp only[qZ]at h;obtain⟨b,H,h⟩:=h;obtain⟨d,D⟩:=aggO_und H;simp only[qVl,D]at B;have M:∀ ms,d≠.interface ms:=by intro ms T;subst T;simp at B
    split at h
    ·rename_i I
     simp only[oSi]at h;subst h;simp only[Instr.typeAssert,qU,r_und D,qY,A]
     cases d <;> simp_all
    ·rename_i I
     split at h
     ·rename_i J
      simp only[qJ]at h;obtain⟨z,L,rfl⟩:=h;simp only[Instr.typeAssert,qU,r_und D,qY,A]
      cases d <;> simp_all [r_zero L]
     ·cases h
  ·rename_i A
   split at h
   ·rename_i J
    simp only[qZ,qJ]at h;obtain⟨b,H,z,L,rfl⟩:=h;obtain⟨d,D⟩:=aggO_und H;simp only[Instr.typeAssert,qU,r_und D,qY,A]
    cases d <;> simp_all [r_zero L]
   ·cases h
  ·cases h
 ·cases h
end
section
variable {P:Program}
def Fn (P:Program)(f:FuncId)(args:Array Value)(w:World)(K:Value->World->Prop):Prop :=
 Calls P f args w fun e w'=>match e with | .returned v=>K v w' | _=>False
theorem Fn.mono (h:Fn P f args w K)(A:∀ v w',K v w'->K' v w'):Fn P f args w K' :=
 Calls.mono h fun e w'=>by cases e <;> simp only[] <;> first | exact A _ _ | exact id
theorem Fn.some (h:Fn P f args w K):∃ v w',K v w':=by
 obtain⟨e,w',fr,A,_⟩:=h []
 cases e with
 | returned v=>exact⟨v,w',A⟩
 | panicked c=>exact A.elim
 | outgrown=>exact A.elim
def outE (P:Program)(s:Sem Next)(w:World)(K:Value->World->Prop):Prop :=
 match s.run P w with
 | .ok (.value v) w'=>K v w'
 | .ok .skip w'=>K undef w'
 | .ok (.enter f args) w'=>Fn P f args w' K
 | _=>False
theorem qJl {s:Sem Next}(A:∀ v w',K v w'->K' v w')(h:outE P s w K):outE P s w K':=by
 unfold outE at *;split at h
 ·exact A _ _ h
 ·exact A _ _ h
 ·exact h.mono A
 ·exact h.elim
theorem outE_some {s:Sem Next}(h:outE P s w K):∃ v w',K v w':=by
 unfold outE at h;split at h
 ·exact⟨_,_,h⟩
 ·exact⟨_,_,h⟩
 ·exact h.some
 ·exact h.elim
theorem wp_of_outE {o:Oper}{a:Act}{N:Act->World->Prop}{Q:Exit->Act->World->Prop}(h:outE P (execOp a.eval o) w K)
  (B:∀ v w',K v w'->N (a.put o.dst v) w'):o.wp P a w N Q:=by
 unfold outE at h;unfold Oper.wp;split at h
 ·rename_i A;rw[A];exact B _ _ h
 ·rename_i A;rw[A];exact B _ _ h
 ·rename_i A;rw[A]
  refine Calls.mono h fun e w' D=>?_
  cases e with
  | returned v=>exact B _ _ D
  | panicked c=>exact D.elim
  | outgrown=>exact D.elim
 ·exact h.elim
def zrow (z:List Value)(n:Nat):Array Value:=(List.replicate n z).flatten.toArray
def stepE (P:Program)(A:Ev)(w:World)(op:Op):Option (Value × World) :=
 match op with
 | .alloc t=>(zeroO P t).map fun z=>(.pointer (some ⟨w.heap.size,0,none⟩),w.alloc (.cells z.cells t))
 | .box t x=>some (.pointer (some ⟨w.heap.size,0,none⟩),w.alloc (.cells (evO A x).cells t))
 | .buildSlice t n parts=>(slcO P t).bind fun e=>(szO P e).bind fun s=>(zeroO P e).bind fun z =>
   if n*s<=2 ^ 24/\0<s/\z.cells.size=s then
    (Instr.fill (fun i=>some (i*s,s)) (zrow z.cells.toList n) (parts.toList.map fun p=>(p.1,evO A p.2))).map fun cells =>
     (.slice (some ⟨w.heap.size,0,none⟩) n n,w.alloc (.cells cells e))
   else none
 | .store t x v=>match evO A x with
  | .pointer (some ⟨b,o,none⟩)=>(wrO P t w b o (evO A v)).map fun w'=>(undef,w')
  | _=>none
 | .makeMap _ none=>some (.map (some w.heap.size),w.alloc (.map #[] 0))
 | .mapUpdate t m k x | .insert t m k x=>match evO A m with
  | .map (some r)=>(mapO P t).bind fun p=>(putE P p.1 w.heap[r]? (evO A k) (evO A x)).map fun ob=>(undef,put w r ob)
  | _=>none
 | _=>none
theorem zrow_eq (z:Array Value)(n s:Nat)(A:z.size=s):(qB (n*s)).map (fun i=>z[i % z.size]!)=zrow z.toList n:=by
 apply Array.toList_inj.1;simp only[qF,Array.toList_range,zrow]
 induction n with
 | zero=>simp
 | succ n D =>
  rw[Nat.succ_mul,List.range_add,List.map_append,D,List.replicate_succ',List.flatten_append]
  congr 1
  simp only[List.map_map,List.flatten_cons,List.flatten_nil,List.append_nil];apply List.ext_getElem
  ·simp[A]
  ·intro i B E
   simp only[List.length_map,List.length_range]at B
   have:(n*s+i) % z.size=i:=by
    rw[A,Nat.add_comm,Nat.mul_comm,Nat.add_mul_mod_self_left,Nat.mod_eq_of_lt B]
   simp only[List.getElem_map,List.getElem_range,Function.comp_apply,this];simp[A,B]
theorem stepE_sound {a:Act}{o:Oper}(h:okO (stepE P (evOf a) w o.op) fun p=>K p.1 p.2):outE P (execOp a.eval o) w K:=by
 obtain⟨⟨v,w'⟩,A,D⟩:=qVk h;obtain⟨U,op,ty,pos,after,guard⟩:=o;unfold stepE at A;simp only at A D;unfold outE
 split at A <;> simp only[execOp,qXo]
 ·simp only[qJ,Prod.mk.injEq]at A
  obtain⟨z,L,rfl,rfl⟩:=A;simpa [Instr.alloc,r_zero L,newVar,newRow] using D
 ·simp only[oSi,Prod.mk.injEq]at A
  obtain⟨rfl,rfl⟩:=A;simpa [Instr.box,newVar,newRow] using D
 ·rename_i t n parts
  simp only[qZ]at A;obtain⟨e,V,s,hsz,z,L,A⟩:=A;split at A
  ·rename_i W
   simp only[qJ,Prod.mk.injEq]at A;obtain⟨cells,R,rfl,rfl⟩:=A;have T:(parts.map fun x:Nat × Operand=>(x.1,evO (evOf a) x.2)).toList=(parts.toList.map fun p=>(p.1,evO (evOf a) p.2)):=qF;have M:=zrow_eq z.cells n s W.2.2;have N:¬ (n*s > 2 ^ 24):=x8
   have key:(Instr.buildSlice t n (parts.map fun x:Nat × Operand=>(x.1,evO (evOf a) x.2))).run P w=.ok (.slice (some ⟨w.heap.size,0,none⟩) n n) (w.alloc (.cells cells e)):=by
    simp only[Instr.buildSlice,qU,r_und (qZk V),qY,qZe hsz,N,if_false]
    by_cases J:n*s=0
    ·have Y:n=0:=by
      rcases Nat.mul_eq_zero.1 J with h | h
      ·exact h
      ·omega
     subst Y
     have E:∀ I:Array Value,Instr.fill (fun i=>some (i*s,s)) ((qB (0*s)).map fun i=>I[i % I.size]!) (parts.map fun x:Nat × Operand=>(x.1,evO (evOf a) x.2)).toList=some cells:=fun I=>by
      have Z:(qB (0*s)).map (fun i=>I[i % I.size]!)=#[]:=by rw[Nat.zero_mul];simp
      have e2:zrow z.cells.toList 0=#[]:=rfl;rw[T,Z,<- e2,R]
     simp only[J,if_true];rw[<- J];simp only[E];simp[newRow]
    ·have E:Instr.fill (fun i=>some (i*s, s)) ((qB (n*s)).map fun i=>z.cells[i % z.cells.size]!) (parts.map fun x:Nat × Operand=>(x.1, evO (evOf a) x.2)).toList=some cells:=by
      rw[T,M,R]
     simp only[J,if_false,qU,r_zero L,qY,qG];simp only[E];simp[newRow]
   simp only[qU,key,qY,qG];exact D
  ·cases A
 ·rename_i t x v'
  split at A
  ·rename_i b o hx
   simp only[wrO,qJ,Prod.mk.injEq]at A;obtain⟨_,⟨ob,B,rfl⟩,rfl,rfl⟩:=A;simpa [Instr.storeAt,hx,Instr.sureAddr,r_storeVar B] using D
  ·cases A
 ·simp only[oSi,Prod.mk.injEq]at A
  obtain⟨rfl,rfl⟩:=A;simpa [Instr.makeMap] using D
 ·rename_i t m k x
  split at A
  ·rename_i r O
   simp only[qZ,qJ,Prod.mk.injEq]at A;obtain⟨⟨kt,et⟩,H,ob,B,rfl,rfl⟩:=A;simpa [O,r_mapUpdate H B] using D
  ·cases A
 ·rename_i t m k x
  split at A
  ·rename_i r O
   simp only[qZ,qJ,Prod.mk.injEq]at A;obtain⟨⟨kt,et⟩,H,ob,B,rfl,rfl⟩:=A;simpa [O,r_mapUpdate H B] using D
  ·cases A
 ·cases A
def SemD (P:Program)(s:Sem Value)(w:World)(K:Value->World->Prop):Prop:=∃ v w',s.run P w=.ok v w'/\K v w'
def AppD (P:Program)(ts:Array TypeId)(x y:Value)(w:World)(K:Value->World->Prop):Prop:=SemD P (qC ts 0 #[x,y]) w K
def DelD (P:Program)(ts:Array TypeId)(m k:Value)(w:World)(K:Value->World->Prop):Prop:=SemD P (qL ts 0 #[m,k]) w K
def CopyD (P:Program)(ts:Array TypeId)(x y:Value)(w:World)(K:Value->World->Prop):Prop:=SemD P (Builtin.copy_ ts 0 #[x,y]) w K
def ConvD (P:Program)(s d:TypeId)(x:Value)(w:World)(K:Value->World->Prop):Prop:=SemD P (convert s d x) w K
def cvP (P:Program)(s d:TypeId):Bool:=(intO P d).isSome || (strO P s && strO P d)
def biK (P:Program)(b:Builtin)(ts:Array TypeId):Bool :=
 match b with
 | .min | .max | .cap=>true
 | .len=>(ts[0]?.bind (mapO P)).isNone
 | _=>false
def dcall (P:Program)(c:Call)(A:Ev)(w:World)(K:Value->World->Prop):Prop :=
 match c.callee with
 | .value f=>match evO A f with
  | .func (.func g) B cs=>qQe P g=true/\Fn P g (B++c.args.map (evO A)++cs) w K
  | _=>False
 | .builtin b =>
  if biK P b c.argTypes=true then okO (biP P b c.argTypes (c.args.toList.map (evO A))) fun v=>K v w else
  match b,c.args.toList with
  | .append,[x,y]=>AppD P c.argTypes (evO A x) (evO A y) w K
  | .delete,[x,y]=>DelD P c.argTypes (evO A x) (evO A y) w K
  | .copy,[x,y]=>CopyD P c.argTypes (evO A x) (evO A y) w K
  | .len,[x]=>SemD P (Builtin.len_ c.argTypes 0 #[evO A x]) w K
  | .clear,[x]=>SemD P (Builtin.clear_ c.argTypes 0 #[evO A x]) w K
  | _,_=>False
 | .invoke r m=>match evO A r with
  | .iface t v=>∃ f u,(method (P.types.size+Made.depth) t v m).run P w=.ok (f,u) w/\qQe P f=true/\Fn P f (#[u]++c.args.map (evO A)) w K
  | _=>False
theorem qKv {s:Sem Value}(h:SemD P s w K):outE P (do pure (.value (<- s))) w K:=by
 obtain⟨v,w',A,B⟩:=h;simp only[outE,qU,A,qY,qG];exact B
theorem callFunc_plain {g:FuncId}(args:Array Value)(h:qQe P g=true)(w:World):(callFunc g args).run P w=.ok (.enter g args) w:=by
 unfold qQe at h;split at h
 ·rename_i B D
  simp only[qN,bne_iff_ne]at h;obtain⟨E,H⟩:=h
  have A:B.body.isNone=false:=by cases I:B.body <;> simp_all
  simp only[callFunc,qU,run_program,qY,D];rw[if_neg (by simpa using E),if_neg (by simp[A])]
  simp
 ·cases h
theorem dcall_sound {a:Act}{dst:Option Tmp}{ty:TypeId}{pos:String}{after:Array Edge}{guard:Option (Nat × Bool)}{c:Call}
  (h:dcall P c (evOf a) w K):outE P (execOp a.eval { dst,op:=.call c,type:=ty,pos,after,guard }) w K:=by
 unfold dcall at h;split at h
 ·rename_i f N
  split at h
  ·rename_i g W cs O
   obtain⟨J,L⟩:=h;simp only[outE,execOp,qXo,qU,resolve,N,Deferred.ofValue,O,qG,qY,invoke,callFunc_plain _ J];exact L
  ·exact h.elim
 ·rename_i b I
  split at h
  ·obtain⟨v,M,D⟩:=qVk h
   have:=fun cons=>r_biP (ty:=ty) (cons:=cons) M w
   have e:(c.args.toList.map (evO (evOf a))).toArray=c.args.map (evO (evOf a)):=by
    apply Array.toList_inj.1;rw[qF]
   rw[e]at this;simp only[outE,execOp,qXo,qU,resolve,I,qG,qY,invoke,this];exact D
  ·have E:∀ l:List Operand, c.args.toList=l->c.args.map (evO (evOf a))=(l.map (evO (evOf a))).toArray:=by
    intro l R;apply Array.toList_inj.1;rw[qF,R]
   split at h
   ·rename_i x y A _
    obtain⟨v,w',H,D⟩:=h;have B:(qC c.argTypes ty #[evO (evOf a) x,evO (evOf a) y]).run P w=.ok v w':=H;simp only[outE,execOp,qXo,qU,resolve,I,qG,qY,invoke,E _ A,qS,qE,builtin,B];exact D
   ·rename_i x y A _
    obtain⟨v,w',H,D⟩:=h;have B:(qL c.argTypes ty #[evO (evOf a) x,evO (evOf a) y]).run P w=.ok v w':=H;simp only[outE,execOp,qXo,qU,resolve,I,qG,qY,invoke,E _ A,qS,qE,builtin,B];exact D
   ·rename_i x y A _
    obtain⟨v,w',H,D⟩:=h;have B:(Builtin.copy_ c.argTypes ty #[evO (evOf a) x,evO (evOf a) y]).run P w=.ok v w':=H;simp only[outE,execOp,qXo,qU,resolve,I,qG,qY,invoke,E _ A,qS,qE,builtin,B];exact D
   ·rename_i x A _
    obtain⟨v,w',H,D⟩:=h;have B:(Builtin.len_ c.argTypes ty #[evO (evOf a) x]).run P w=.ok v w':=H;simp only[outE,execOp,qXo,qU,resolve,I,qG,qY,invoke,E _ A,qS,qE,builtin,B];exact D
   ·rename_i x A _
    obtain⟨v,w',H,D⟩:=h;have B:(Builtin.clear_ c.argTypes ty #[evO (evOf a) x]).run P w=.ok v w':=H;simp only[outE,execOp,qXo,qU,resolve,I,qG,qY,invoke,E _ A,qS,qE,builtin,B];exact D
   ·exact h.elim
 ·rename_i r m T
  split at h
  ·rename_i t v M
   obtain⟨f,u,J,L,U⟩:=h
   have e:(#[evO (evOf a) r]++c.args.map (evO (evOf a))).extract 1 (#[evO (evOf a) r]++c.args.map (evO (evOf a))).size=c.args.map (evO (evOf a)):=by
    apply Array.toList_inj.1;simp only[Array.toList_extract,Array.toList_append,qF,List.extract_eq_take_drop];simp only[List.singleton_append,List.drop_succ_cons,List.drop_zero];exact List.take_of_length_le sm
   have V:(#[evO (evOf a) r]++c.args.map (evO (evOf a)))[0]?=some (.iface t v):=by
    rw[Array.getElem?_append];simp[M]
   simp only[outE,execOp,qXo,qU,resolve,T,qG,qY,invoke,V,e,callMethod,run_program,J,callFunc_plain _ L];exact U
  ·exact h.elim
end
section
variable {P:Program}
def dop (P:Program)(op:Op)(ty:TypeId)(A:Ev)(w:World)(K:Value->World->Prop):Prop :=
 match op with
 | .load t x=>okO (stepR P A w (.load t x)) fun v=>K v w
 | .lookup t m k ok=>okO (stepR P A w (.lookup t m k ok)) fun v=>K v w
 | .typeAssert x B t ok=>okO (stepR P A w (.typeAssert x B t ok)) fun v=>K v w
 | .binOp op t x y z=>if flatT P t=true then okO (stepP P A (.binOp op t x y z)) fun v=>K v w else okO (stepR P A w (.binOp op t x y z)) fun v=>K v w
 | .convert s d x=>if cvP P s d=true then okO (stepP P A (.convert s d x)) fun v=>K v w else ConvD P s d (evO A x) w K
 | .alloc t=>okO (stepE P A w (.alloc t)) fun p=>K p.1 p.2
 | .box t x=>okO (stepE P A w (.box t x)) fun p=>K p.1 p.2
 | .buildSlice t n ps=>okO (stepE P A w (.buildSlice t n ps)) fun p=>K p.1 p.2
 | .store t x v=>okO (stepE P A w (.store t x v)) fun p=>K p.1 p.2
 | .makeMap t none=>okO (stepE P A w (.makeMap t none)) fun p=>K p.1 p.2
 | .makeMap t (some r)=>SemD P (Instr.makeMap t (some (evO A r))) w K
 | .mapUpdate t m k v=>okO (stepE P A w (.mapUpdate t m k v)) fun p=>K p.1 p.2
 | .insert t m k v=>okO (stepE P A w (.insert t m k v)) fun p=>K p.1 p.2
 | .makeSlice t l c=>SemD P (Instr.makeSlice t (evO A l) (evO A c)) w K
 | .mapEntry t m k=>SemD P (Instr.mapEntry t (evO A m) (evO A k)) w K
 | .entryStore t m s x=>SemD P (do Instr.entryStore t (evO A m) (evO A s) (evO A x);pure undef) w K
 | .range t x=>SemD P (Instr.range t (evO A x)) w K
 | .next x s=>SemD P (Instr.next (evO A x) s ty) w K
 | .entry x=>SemD P (Instr.entry (evO A x)) w K
 | .call c=>dcall P c A w K
 | op=>okO (stepP P A op) fun v=>K v w
def kindOf (P:Program)(op:Op):Nat :=
 match op with
 | .load .. | .lookup .. | .typeAssert ..=>1
 | .binOp _ t _ _ _=>if flatT P t=true then 0 else 1
 | .convert s d _=>if cvP P s d=true then 0 else 2
 | .alloc _ | .box .. | .buildSlice .. | .store .. | .makeMap .. | .mapUpdate .. | .insert .. | .makeSlice .. | .mapEntry .. | .entryStore .. | .range .. | .next .. | .entry ..=>2
 | .call c=>match c.callee with | .builtin b=>if biK P b c.argTypes=true then 0 else 2 | _=>2
 | _=>0
theorem dop_sound {a:Act}{o:Oper}(h:dop P o.op o.type (evOf a) w K):outE P (execOp a.eval o) w K:=by
 have p:∀ {op:Op},o.op=op->okO (stepP P (evOf a) op) (fun v=>K v w)->outE P (execOp a.eval o) w K:=by
  intro op B h;obtain⟨v,E,D⟩:=qVk h;simp only[outE,stepP_sound (B ▸ E) w];exact D
 have r:∀ {op:Op},o.op=op->okO (stepR P (evOf a) w op) (fun v=>K v w)->outE P (execOp a.eval o) w K:=by
  intro op B h;obtain⟨v,E,D⟩:=qVk h;simp only[outE,stepR_sound (B ▸ E)];exact D
 have e:∀ {op:Op},o.op=op->okO (stepE P (evOf a) w op) (fun p=>K p.1 p.2)->outE P (execOp a.eval o) w K:=by
  intro op B h;exact stepE_sound (B ▸ h)
 obtain⟨I,op,ty,pos,after,guard⟩:=o;simp only at p r e h;cases op
 case load=>exact r rfl h
 case lookup=>exact r rfl h
 case typeAssert=>exact r rfl h
 case binOp =>
  simp only[dop]at h;split at h
  ·exact p rfl h
  ·exact r rfl h
 case convert =>
  simp only[dop]at h;split at h
  ·exact p rfl h
  ·have:=qKv h;rw[<- qXo]at this;exact this
 case alloc=>exact e rfl h
 case box=>exact e rfl h
 case buildSlice=>exact e rfl h
 case store=>exact e rfl h
 case mapUpdate=>exact e rfl h
 case insert=>exact e rfl h
 case makeMap t mr =>
  cases mr with
  | none=>exact e rfl h
  | some mr=>have:=qKv h;rw[<- qXo]at this;exact this
 case makeSlice=>have:=qKv h;rw[<- qXo]at this;exact this
 case mapEntry=>have:=qKv h;rw[<- qXo]at this;exact this
 case range=>have:=qKv h;rw[<- qXo]at this;exact this
 case next=>have:=qKv h;rw[<- qXo]at this;exact this
 case entry=>have:=qKv h;rw[<- qXo]at this;exact this
 case entryStore t m s x =>
  obtain⟨v,w',A,D⟩:=h;simp only[outE,execOp,qXo,qU]at A ⊢
  cases H:(Instr.entryStore t (evO (evOf a) m) (evO (evOf a) s) (evO (evOf a) x)).run P w with
  | ok u J =>
   rw[H]at A;simp only[qY,qG,Result.ok.injEq]at A;obtain⟨rfl,rfl⟩:=A;simpa using D
  | halt x J=>rw[H]at A;simp at A
 case call=>exact dcall_sound h
 all_goals exact p rfl h
theorem dop_kind0 {a:Act}{o:Oper}(h:dop P o.op o.type (evOf a) w K)(A:kindOf P o.op=0) :
  ∃ v,(∀ w',(execOp a.eval o).run P w'=.ok (.value v) w')/\K v w:=by
 have p:∀ {op:Op},o.op=op->okO (stepP P (evOf a) op) (fun v=>K v w)->∃ v,(∀ w',(execOp a.eval o).run P w'=.ok (.value v) w')/\K v w:=by
  intro op H h;obtain⟨v,I,A⟩:=qVk h;exact⟨v,fun w'=>stepP_sound (H ▸ I) w',A⟩
 obtain⟨J,op,ty,pos,after,guard⟩:=o;simp only at p h A;cases op
 case load | lookup | typeAssert | alloc | box | buildSlice | store | mapUpdate | insert | makeMap | makeSlice | mapEntry | range | next | entry | entryStore=>cases A
 case binOp=>simp only[dop]at h;simp only[kindOf]at A;split at A <;> simp_all
 case convert=>simp only[dop]at h;simp only[kindOf]at A;split at A <;> simp_all
 case call c =>
  simp only[kindOf]at A;split at A
  ·rename_i b D
   split at A
   ·rename_i E
    simp only[dop]at h;unfold dcall at h;rw[D]at h;simp only[E,if_true]at h;refine p (op:=.call c) rfl ?_;obtain⟨B,args,ts⟩:=c;simp only at D;subst D;exact h
   ·cases A
  ·cases A
 all_goals exact p rfl h
theorem dop_kind1 {a:Act}{o:Oper}(h:dop P o.op o.type (evOf a) w K)(A:kindOf P o.op=1) :
  ∃ v,(execOp a.eval o).run P w=.ok (.value v) w/\K v w:=by
 have r:∀ {op:Op},o.op=op->okO (stepR P (evOf a) w op) (fun v=>K v w)->∃ v,(execOp a.eval o).run P w=.ok (.value v) w/\K v w:=by
  intro op B h;obtain⟨v,D,A⟩:=qVk h;exact⟨v,stepR_sound (B ▸ D),A⟩
 obtain⟨E,op,ty,pos,after,guard⟩:=o;simp only at r h A;cases op
 case load=>exact r rfl h
 case lookup=>exact r rfl h
 case typeAssert=>exact r rfl h
 case binOp=>simp only[dop]at h;simp only[kindOf]at A;split at A <;> simp_all
 case convert=>simp only[kindOf]at A;split at A <;> simp_all
 case call c=>simp only[kindOf]at A;split at A <;> (try split at A) <;> simp_all
 all_goals cases A
end
section
variable {P:Program} {ops:Array Oper}
def stK (P:Program)(o:Oper)(a:Act)(w:World)(K:Value->World->Prop):Prop :=
 match kindOf P o.op with
 | 0=>∃ v,(∀ w',(execOp a.eval o).run P w'=.ok (.value v) w')/\K v w
 | 1=>∃ v,(execOp a.eval o).run P w=.ok (.value v) w/\K v w
 | _=>outE P (execOp a.eval o) w K
theorem stK_mono {o:Oper}{a:Act}(A:∀ v w',K v w'->K' v w')(h:stK P o a w K):stK P o a w K':=by
 unfold stK at *;split at h
 ·obtain⟨v,B,D⟩:=h;exact⟨v,B,A _ _ D⟩
 ·obtain⟨v,B,D⟩:=h;exact⟨v,B,A _ _ D⟩
 ·exact qJl A h
theorem stK_out {o:Oper}{a:Act}(h:stK P o a w K):outE P (execOp a.eval o) w K:=by
 unfold stK at h;split at h
 ·obtain⟨v,A,B⟩:=h;simp only[outE,A w];exact B
 ·obtain⟨v,A,B⟩:=h;simp only[outE,A];exact B
 ·exact h
theorem stK_congr {o:Oper}{a A:Act}(B:execOp A.eval o=execOp a.eval o)(h:stK P o a w K):stK P o A w K:=by
 unfold stK at *;rw[B];exact h
def stT (P:Program)(ops:Array Oper)(i:Nat)(K:Act->World->Prop)(a:Act)(w:World):Prop :=
 match ops[i]? with
 | none=>K a w
 | some o=>if xQ o (yielded ops a.tmps) then stK P o a w (fun v w'=>K (a.put o.dst v) w') else K (a.put o.dst undef) w
def anyT (P:Program)(ops:Array Oper)(Q:Act->World->Prop):Nat->Array Bool->Act->World->Prop
 | 0,listed,a,w=>qO .any ops listed=[]/\Q a w
 | f+1,listed,a,w=>(qO .any ops listed=[]->Q a w)/\∀ i ∈ qO .any ops listed,stT P ops i (anyT P ops Q f (listed.setIfInBounds i true)) a w
theorem stT_wp {a:Act}{K:Act->World->Prop}{N:Act->World->Prop}{Q:Exit->Act->World->Prop}(A:∀ a w, K a w->N a w)(h:stT P ops i K a w) :
  wpOp P ops Q i N a w:=by
 unfold stT at h;unfold wpOp;split
 ·rename_i B;simp only[B]at h;exact A _ _ h
 ·rename_i o B
  simp only[B]at h;split
  ·rename_i D
   simp only[D,if_true]at h;exact .inl (wp_of_outE (stK_out h) fun v w' E=>A _ _ E)
  ·rename_i D
   simp only[D]at h;exact A _ _ h
theorem any_of_anyT {Q:Act->World->Prop}{B:Exit->Act->World->Prop}(A:∀ a w, Q a w->B .normal a w):∀ (f:Nat) (listed:Array Bool) (a:Act) (w:World),
  anyT P ops Q f listed a w->wpAny P .any ops B f listed a w
 | 0,_,_,_,h=>⟨h.1,A _ _ h.2⟩
 | f+1,_,_,_,h=>⟨fun D=>A _ _ (h.1 D),fun i hi=>stT_wp (fun a w=>any_of_anyT A f _ a w) (h.2 i hi)⟩
theorem stT_mono {a:Act}{K K':Act->World->Prop}(A:∀ a w,K a w->K' a w)(h:stT P ops i K a w):stT P ops i K' a w:=by
 unfold stT at *;split
 ·rename_i B;simp only[B]at h;exact A _ _ h
 ·rename_i o B
  simp only[B]at h;split
  ·rename_i D;simp only[D,if_true]at h;exact stK_mono (fun v w'=>A _ _) h
  ·rename_i D;simp only[D]at h;exact A _ _ h
section
variable {i j:Nat} {oi oj:Oper} (hj:ops[j]?=some oj) (hap:oi.apart ops oj=true)
 (hsi:∀ cs b,oi.op≠.select cs b) (hsj:∀ cs b,oj.op≠.select cs b)
include hj hap hsj in
theorem stT_put {K:Act->World->Prop}{a:Act}(h:stT P ops j K (a.put oi.dst v) w) :
  stT P ops j (fun B w'=>(∃ u,B=a.put oj.dst u)/\K (B.put oi.dst v) w') a w:=by
 obtain⟨D,H,J⟩:=Oper.apart_spec hap;unfold stT at *;simp only[hj]at *;rw[wanted_put oj a oi.dst v D]at h;have E:∀ u,(a.put oi.dst v).put oj.dst u=(a.put oj.dst u).put oi.dst v:=fun u=>Act.put_comm a v u H;split
 ·rename_i A
  simp only[A,if_true]at h;refine stK_mono (fun u w' I=>?_) (stK_congr (execOp_put oj hsj a oi.dst v D).symm h);exact⟨⟨u,rfl⟩,by rw[<- E];exact I⟩
 ·rename_i A
  simp only[A]at h;exact⟨⟨undef,rfl⟩,by rw[<- E];exact h⟩
include hap hsi in
theorem yields_put {a:Act}(u:Value)(B:Yields P ops oi v a):Yields P ops oi v (a.put oj.dst u):=by
 obtain⟨_,_,A⟩:=Oper.apart_spec hap;exact B.of_same (execOp_put oi hsi a oj.dst u A) (wanted_put oi a oj.dst u A)
end
theorem Yields.stT' {o:Oper}{a:Act}(hi:ops[i]?=some o)(B:kindOf P o.op=0)(D:Yields P ops o v a){K:Act->World->Prop}(h:K (a.put o.dst v) w):stT P ops i K a w:=by
 unfold stT;simp only[hi]
 rcases D with ⟨A,E⟩ | ⟨A,rfl⟩
 ·simp only[A,if_true,stK,B];exact⟨v,E,h⟩
 ·simp only[A,qP,if_false];exact h
theorem unwanted_stT {o:Oper}{a:Act}(hi:ops[i]?=some o)(A:xQ o (yielded ops a.tmps)=false){K:Act->World->Prop}(h:K (a.put o.dst undef) w):stT P ops i K a w:=by
 unfold stT;simp only[hi,A,qP,if_false];exact h
def Free (ops:Array Oper)(i:Nat)(oi:Oper)(listed:Array Bool):Prop :=
 ∀ j oj,ops[j]?=some oj->j≠i->listed.getD j true=false->(∀ e ∈ oj.after,xX .any e=true->e.on≠i)->oi.apart ops oj=true
theorem Free.set {oi:Oper}(h:Free ops i oi listed):Free ops i oi (listed.setIfInBounds j true):=by
 intro k ok H D A E;refine h k ok H D ?_ E
 by_cases B:j=k
 ·subst B
  rcases Nat.lt_or_ge j listed.size with h' | h'
  ·simp[h']at A
  ·simp at A
 ·rw[getD_set_ne true B]at A;exact A
theorem qVu {oj:Oper}(L:i ∈ qO .any ops listed)(hj:j ∈ qO .any ops listed)(E:ops[j]?=some oj) :
  ∀ e ∈ oj.after,xX .any e=true->e.on≠i:=by
 obtain⟨_,H,A,B⟩:=mem_ready.1 hj;have:oj=H:=Option.some.inj (E.symm.trans A);subst this;intro e M N I;have D:=B e M N;have J:=(mem_ready.1 L).1;rw[I]at D
 rcases Nat.lt_or_ge i listed.size with h' | h'
 ·simp[h']at J D;rw[J]at D;cases D
 ·simp[qM h']at D
theorem first0 {Q:Act->World->Prop}{oi:Oper}(hi:ops[i]?=some oi)
  (E:∀ (j:Nat) (o:Oper) cs b,ops[j]?=some o->o.op≠.select cs b)
  (J:∀ (a:Act) (w:World) (K:Act->World->Prop),Yields P ops oi v a->K (a.put oi.dst v) w->stT P ops i K a w) :
  ∀ (f:Nat) (listed:Array Bool) (a:Act) (w:World),Free ops i oi listed->i ∈ qO .any ops listed->Yields P ops oi v a ->
   anyT P ops Q f (listed.setIfInBounds i true) (a.put oi.dst v) w->anyT P ops Q (f+1) listed a w:=by
 intro f
 induction f with
 | zero =>
  intro listed a w _ I M H;refine⟨fun h=>(by rw[h]at I;cases I),fun j hj=>?_⟩
  by_cases A:j=i
  ·subst A;exact J a w _ M H
  ·have:=ready_mono hj A
   rw[H.1]at this;cases this
 | succ f N =>
  intro listed a w B I M H;refine⟨fun h=>(by rw[h]at I;cases I),fun j hj=>?_⟩
  by_cases A:j=i
  ·subst A;exact J a w _ M H
  ·have O:=H.2 j (ready_mono hj A)
   obtain⟨L,oj,D,_⟩:=mem_ready.1 hj;have hap:=B j oj D A L (qVu I hj D);have R:=stT_put D hap (fun cs b=>E j oj cs b D) O;refine stT_mono (fun V w' T=>?_) R;obtain⟨⟨u,rfl⟩,U⟩:=T;refine N (listed.setIfInBounds j true) _ w' B.set (ready_mono I (Ne.symm A)) (yields_put hap (fun cs b=>E i oi cs b hi) u M) ?_;rw[qH _ _ A];exact U
end
section
variable {P:Program} {ops:Array Oper}
def waitsB (ops:Array Oper)(i:Nat)(listed:Array Bool):Nat->Nat->Bool
 | 0,_=>false
 | f+1,j=>match ops[j]? with
  | some o=>o.after.any (fun e=>xX .any e && e.on == i) || o.after.any (fun e=>xX .any e && !listed.getD e.on false && waitsB ops i listed f e.on)
  | none=>false
theorem waitsB_not (hi:listed.getD i false=false){f j:Nat}(h:waitsB ops i listed f j=true):j ∉ qO .any ops listed:=by
 intro E;obtain⟨_,o,H,A⟩:=mem_ready.1 E
 cases f with
 | zero=>cases h
 | succ f =>
  unfold waitsB at h;simp only[H,qT]at h
  rcases h with h | h
  ·obtain⟨e,D,B⟩:=Array.any_eq_true'.1 h
   simp only[qN,beq_iff_eq]at B;have:=A e D B.1;rw[B.2,hi]at this;cases this
  ·obtain⟨e,D,B⟩:=Array.any_eq_true'.1 h
   simp only[qN,qR]at B;have:=A e D B.1.1;rw[B.1.2]at this;cases this
theorem waitsB_set {i B:Nat}(hi:listed.getD i false=false)(H:B ∈ qO .any ops listed) :
  ∀ {f j:Nat},waitsB ops i listed f j=true->waitsB ops i (listed.setIfInBounds B true) f j=true:=by
 intro f
 induction f with
 | zero=>intro j h;cases h
 | succ f I =>
  intro j h;unfold waitsB at h ⊢;split
  ·rename_i o D
   simp only[D,qT]at h ⊢
   rcases h with h | h
   ·exact .inl h
   ·right
    obtain⟨e,J,A⟩:=Array.any_eq_true'.1 h;simp only[qN,qR]at A;refine Array.any_eq_true'.2 ⟨e,J,?_⟩;simp only[qN,qR];have hne:B≠e.on:=fun E=>waitsB_not hi A.2 (E ▸ H);exact⟨⟨A.1.1,by rw[getD_set_ne false hne];exact A.1.2⟩,I A.2⟩
  ·rename_i D;simp[D]at h
def Alone (P:Program)(ops:Array Oper)(i:Nat)(m:Nat)(listed:Array Bool):Prop :=
 ∀ j oj,ops[j]?=some oj->j≠i->listed.getD j true=false->kindOf P oj.op<=m∨waitsB ops i listed ops.size j=true
theorem getD_ft (h:listed.getD i true=false):listed.getD i false=false:=by
 rcases Nat.lt_or_ge i listed.size with h' | h'
 ·simp[h']at h ⊢;exact h
 ·simp[qM h']at h
theorem Alone.set (hi:listed.getD i false=false)(E:j ∈ qO .any ops listed)(h:Alone P ops i m listed):Alone P ops i m (listed.setIfInBounds j true):=by
 intro k ok H D A
 have:listed.getD k true=false:=by
  by_cases B:j=k
  ·subst B;exact (mem_ready.1 E).1
  ·rw[getD_set_ne true B]at A;exact A
 exact (h k ok H D this).imp id (waitsB_set hi E)
theorem Alone.kind {oj:Oper}(h:Alone P ops i m listed)(hi:listed.getD i false=false)(A:ops[j]?=some oj)(B:j≠i)(hj:j ∈ qO .any ops listed):kindOf P oj.op<=m :=
 (h j oj A B (mem_ready.1 hj).1).resolve_right fun D=>waitsB_not hi D hj
theorem stT_same {oj:Oper}(hj:ops[j]?=some oj)(E:kindOf P oj.op<=1){a:Act}{K:Act->World->Prop}(h:stT P ops j K a w):stT P ops j (fun H w'=>w'=w/\K H w') a w:=by
 unfold stT at *;simp only[hj]at *;split
 ·rename_i B
  simp only[B,if_true]at h;unfold stK at *;split at h
  ·obtain⟨v,A,D⟩:=h;exact⟨v,A,rfl,D⟩
  ·obtain⟨v,A,D⟩:=h;exact⟨v,A,rfl,D⟩
  ·rename_i I A
   exact absurd E (by have J:kindOf P oj.op≠0:=I;have a1:kindOf P oj.op≠1:=A;omega)
 ·rename_i B
  simp only[B]at h;exact⟨trivial,h⟩
def Yields1 (P:Program)(ops:Array Oper)(o:Oper)(v:Value)(a:Act)(w:World):Prop :=
 xQ o (yielded ops a.tmps)=true/\(execOp a.eval o).run P w=.ok (.value v) w
theorem first1 {Q:Act->World->Prop}{oi:Oper}(hi:ops[i]?=some oi)(U:kindOf P oi.op=1)
  (E:∀ (j:Nat) (o:Oper) cs b,ops[j]?=some o->o.op≠.select cs b) :
  ∀ (f:Nat) (listed:Array Bool) (a:Act),Free ops i oi listed->Alone P ops i 1 listed->i ∈ qO .any ops listed->Yields1 P ops oi v a w ->
   anyT P ops Q f (listed.setIfInBounds i true) (a.put oi.dst v) w->anyT P ops Q (f+1) listed a w:=by
 have L:∀ (a:Act) (K:Act->World->Prop),Yields1 P ops oi v a w->K (a.put oi.dst v) w->stT P ops i K a w:=by
  intro a K I h;unfold stT;simp only[hi,I.1,if_true,stK,U];exact⟨v,I.2,h⟩
 intro f
 induction f with
 | zero =>
  intro listed a _ _ J I H;refine⟨fun h=>(by rw[h]at J;cases J),fun j hj=>?_⟩
  by_cases A:j=i
  ·subst A;exact L a _ I H
  ·have:=ready_mono hj A
   rw[H.1]at this;cases this
 | succ f V =>
  intro listed a D M J I H;refine⟨fun h=>(by rw[h]at J;cases J),fun j hj=>?_⟩
  by_cases A:j=i
  ·subst A;exact L a _ I H
  ·have W:=H.2 j (ready_mono hj A)
   obtain⟨N,oj,B,_⟩:=mem_ready.1 hj;have O:=getD_ft (mem_ready.1 J).1;have hap:=D j oj B A N (qVu J hj B);have Y:=stT_same B (M.kind O B A hj) (stT_put B hap (fun cs b=>E j oj cs b B) W);refine stT_mono (fun a' w' Z=>?_) Y;obtain⟨R,⟨u,rfl⟩,h4⟩:=Z;subst R;obtain⟨_,_,T⟩:=Oper.apart_spec hap;refine V (listed.setIfInBounds j true) _ D.set (M.set O hj) (ready_mono J (Ne.symm A)) ⟨?_,?_⟩ ?_
   ·rw[wanted_put oi a oj.dst u T];exact I.1
   ·rw[execOp_put oi (fun cs b=>E i oi cs b hi) a oj.dst u T];exact I.2
   ·rw[qH _ _ A]
    exact h4
theorem stT_yields {oj:Oper}(hj:ops[j]?=some oj)(B:kindOf P oj.op<=0){a:Act}{K:Act->World->Prop}(h:stT P ops j K a w) :
  ∃ u,Yields P ops oj u a/\K (a.put oj.dst u) w:=by
 unfold stT at h;simp only[hj]at h;split at h
 ·rename_i A
  unfold stK at h;rw[Nat.le_zero.1 B]at h;obtain⟨v,D,E⟩:=h;exact⟨v,.inl ⟨A,D⟩,E⟩
 ·rename_i A
  exact⟨undef,.inr ⟨by simpa using A,rfl⟩,h⟩
theorem Yields.det {o:Oper}{u v:Value}{a:Act}(w:World)(h:Yields P ops o u a)(D:Yields P ops o v a):u=v:=by
 rcases h with ⟨B,E⟩ | ⟨B,rfl⟩
 ·rcases D with ⟨_,H⟩ | ⟨A,_⟩
  ·have:=(E w).symm.trans (H w)
   simpa using this
  ·rw[B]at A;cases A
 ·rcases D with ⟨A,_⟩ | ⟨_,rfl⟩
  ·rw[B]at A;cases A
  ·rfl
theorem first2 {Q:Act->World->Prop}{oi:Oper}(hi:ops[i]?=some oi)(hk:2<=kindOf P oi.op)
  (E:∀ (j:Nat) (o:Oper) cs b,ops[j]?=some o->o.op≠.select cs b) :
  ∀ (f:Nat) (listed:Array Bool) (a:Act),Free ops i oi listed->Alone P ops i 0 listed->i ∈ qO .any ops listed ->
   xQ oi (yielded ops a.tmps)=true ->
   outE P (execOp a.eval oi) w (fun v w'=>anyT P ops Q f (listed.setIfInBounds i true) (a.put oi.dst v) w')->anyT P ops Q (f+1) listed a w:=by
 have R:∀ (a:Act) (K:Act->World->Prop),xQ oi (yielded ops a.tmps)=true->outE P (execOp a.eval oi) w (fun v w'=>K (a.put oi.dst v) w')->stT P ops i K a w:=by
  intro a K O h;unfold stT;simp only[hi,O,if_true];unfold stK;split
  ·rename_i T;omega
  ·rename_i T;omega
  ·exact h
 intro f
 induction f with
 | zero =>
  intro listed a _ _ I O H;refine⟨fun h=>(by rw[h]at I;cases I),fun j hj=>?_⟩
  by_cases A:j=i
  ·subst A;exact R a _ O H
  ·obtain⟨v0,w0,T⟩:=outE_some H
   have:=ready_mono hj A;rw[T.1]at this;cases this
 | succ f ih =>
  intro listed a D U I O H;refine⟨fun h=>(by rw[h]at I;cases I),fun j hj=>?_⟩
  by_cases A:j=i
  ·subst A;exact R a _ O H
  ·obtain⟨V,oj,B,_⟩:=mem_ready.1 hj
   have W:=getD_ft (mem_ready.1 I).1;have L:=U.kind W B A hj;have hap:=D j oj B A V (qVu I hj B);obtain⟨Z,h4,h5⟩:=Oper.apart_spec hap;have hsj:=fun cs b=>E j oj cs b B;have hsi:=fun cs b=>E i oi cs b hi
   have back:∀ {v u:Value},Yields P ops oj u (a.put oi.dst v)->Yields P ops oj u a:=fun {v u} M =>
    M.of_same (execOp_put oj hsj a oi.dst v Z).symm (wanted_put oj a oi.dst v Z).symm
   obtain⟨v0,w0,T⟩:=outE_some H;obtain⟨u,M,_⟩:=stT_yields B L (T.2 j (ready_mono hj A));have J:=back M;refine Yields.stT' B (Nat.le_zero.1 L) J ?_;refine ih (listed.setIfInBounds j true) _ D.set (U.set W hj) (ready_mono I (Ne.symm A)) (by rw[wanted_put oi a oj.dst u h5];exact O) ?_;rw[execOp_put oi hsi a oj.dst u h5];refine qJl (fun v w' hv=>?_) H;obtain⟨u',Y,N⟩:=stT_yields B L (hv.2 j (ready_mono hj A));have:=Yields.det w (back Y) J;subst this;rw[qH _ _ A,<- Act.put_comm a v u' h4];exact N
def walkT (P:Program)(ops:Array Oper)(Q:Act->World->Prop):List Oper->Act->World->Prop
 | [],a,w=>Q a w
 | o::r,a,w=>if xQ o (yielded ops a.tmps) then stK P o a w (fun v w'=>walkT P ops Q r (a.put o.dst v) w') else walkT P ops Q r (a.put o.dst undef) w
def aloneB (P:Program)(ops:Array Oper)(i:Nat)(listed:Array Bool):Bool :=
 match ops[i]? with
 | none=>false
 | some oi=>let A:=kindOf P oi.op
  if A=0 then true else
  (qI ops.size).all fun j=>j == i || listed.getD j true || (match ops[j]? with | some oj=>let B:=kindOf P oj.op;B == 0 || (A == 1 && B == 1) | none=>true) || waitsB ops i listed ops.size j
def lexT (P:Program)(ops:Array Oper):Nat->Nat->Array Bool->Bool
 | 0,_,listed=>(qO .any ops listed).isEmpty
 | f+1,k,listed=>(qO .any ops listed).contains k && Region.free .any ops listed k && aloneB P ops k listed && lexT P ops f (k+1) (listed.setIfInBounds k true)
def lexAll (P:Program)(ops:Array Oper):Bool:=P.follows .mixedOrders && Region.noSelect ops && lexT P ops ops.size 0 (Array.replicate ops.size false)
theorem aloneB_spec {oi:Oper}(hi:ops[i]?=some oi)(h:aloneB P ops i listed=true) :
  kindOf P oi.op=0∨(kindOf P oi.op=1/\Alone P ops i 1 listed)∨(2<=kindOf P oi.op/\Alone P ops i 0 listed):=by
 unfold aloneB at h;simp only[hi]at h
 by_cases E:kindOf P oi.op=0
 ·exact .inl E
 ·simp only[E,if_false]at h
  have key:∀ j oj,ops[j]?=some oj->j≠i->listed.getD j true=false->(kindOf P oj.op=0∨(kindOf P oi.op=1/\kindOf P oj.op=1))∨waitsB ops i listed ops.size j=true:=by
   intro j oj hj A B;have D:j<ops.size:=(Array.getElem?_eq_some_iff.1 hj).1;have:=List.all_eq_true.1 h j (List.mem_range.2 D);simp only[hj,B,Bool.or_false,qT,beq_iff_eq,A,false_or,qN]at this;exact this
  right
  by_cases H:kindOf P oi.op=1
  ·left
   refine⟨H,fun j oj hj A B=>?_⟩
   rcases key j oj hj A B with (h | h) | h
   ·left;omega
   ·left;omega
   ·exact .inr h
  ·right
   refine⟨x8,fun j oj hj A B=>?_⟩
   rcases key j oj hj A B with (h | h) | h
   ·left;omega
   ·exact absurd h.1 H
   ·exact .inr h
theorem anyT_lex {Q:Act->World->Prop}(Z:Region.noSelect ops=true):∀ (l:List Oper) (k:Nat) (listed:Array Bool) (a:Act) (w:World), (∀ j, l[j]?=ops[k+j]?) ->
  lexT P ops l.length k listed=true->walkT P ops Q l a w->anyT P ops Q l.length listed a w
 | [],_,_,_,_,_,O,h=>⟨by simpa [lexT] using O,h⟩
 | o::l,k,listed,a,w,hl,O,h=>by
  have E:ops[k]?=some o:=by simpa using (hl 0).symm
  simp only[List.length_cons,lexT,qN]at O;obtain⟨⟨⟨hr,hf⟩,R⟩,T⟩:=O;have H:k ∈ qO .any ops listed:=by simpa using hr
  have A:Free ops k o listed:=Region.free_spec E hf;have U:∀ j,l[j]?=ops[k+1+j]?:=fun j=>by have:=hl (j+1);simpa [Nat.add_assoc,Nat.add_comm 1 j] using this
  have B:=Region.noSelect_spec Z;have D:∀ a w,walkT P ops Q l a w->anyT P ops Q l.length (listed.setIfInBounds k true) a w:=fun a w h=>anyT_lex Z l (k+1) _ a w U T h;simp only[walkT]at h
  by_cases M:xQ o (yielded ops a.tmps)=true
  ·simp only[M,if_true]at h
   rcases aloneB_spec E R with I | ⟨I,V⟩ | ⟨I,V⟩
   ·unfold stK at h
    rw[I]at h;obtain⟨v,J,L⟩:=h;exact first0 E B (fun a w K W N=>Yields.stT' E I W N) _ _ _ _ A H (.inl ⟨M,J⟩) (D _ _ L)
   ·unfold stK at h
    rw[I]at h;obtain⟨v,J,L⟩:=h;exact first1 E I B _ _ _ A V H ⟨M,J⟩ (D _ _ L)
   ·exact first2 E I B _ _ _ A V H M (qJl (fun v w' hv=>D _ _ hv) (stK_out h))
  ·simp only[M]at h
   have Y:xQ o (yielded ops a.tmps)=false:=by simpa using M
   exact first0 (v:=undef) E B (fun a w K W N=>by
    rcases W with ⟨J,L⟩ | ⟨J,_⟩
    ·unfold stT
     simp only[E,J,if_true];unfold stK;split
     ·exact⟨undef,L,N⟩
     ·exact⟨undef,L w,N⟩
     ·simp only[outE,L w];exact N
    ·exact unwanted_stT E J N) _ _ _ _ A H (.inr ⟨Y,rfl⟩) (D _ _ h)
theorem wp_draw {id:Nat}{Q:Exit->Act->World->Prop}{a:Act}(A:lexAll P ops=true)(h:walkT P ops (fun a w=>Q .normal a w) ops.toList a w.drew):(Code.region id ops true).wp P Q a w:=by
 simp only[lexAll,qN]at A;refine wp_region_any A.1.1 (any_of_anyT (fun _ _ h=>h) _ _ _ _ ?_);have:=anyT_lex (P:=P) (Q:=fun a w=>Q .normal a w) A.1.2 ops.toList 0 (Array.replicate ops.size false) a w.drew sm (by simpa using A.2) h;simpa using this
end
end Go.V
