/-
 Helpers: LibD, LibE, LibF.
-/
import Derived.Test.YtmenaeggoakppaaGreatDoorB01
set_option linter.all false
section
namespace Go.V
variable {P:Program}
theorem add_off (b o n:Nat):(⟨b,o,none⟩:Addr).add n=⟨b,o+n,none⟩:=by
 unfold Addr.add;split
 ·subst_vars;rfl
 ·rfl
theorem cell_blk {w : World} {b o : Nat} {c : Array Value} {e : TypeId} {fz : Nat × Nat} (h : w.heap[b]? = some (.cells c e fz)) :
    w.cell? ⟨b,o,none⟩ = c[o]? := by simp [World.cell?,h]
theorem r_load {w : World} {b o : Nat} {c : Array Value} {e : TypeId} {fz : Nat × Nat} {v : Value}
    (h : w.heap[b]? = some (.cells c e fz)) (hv : c[o]? = some v) : (load ⟨b,o,none⟩).run P w = .ok v w := by
 simp[cell_blk h,hv]
theorem r_loadCells {w : World} {b o n : Nat} {c : Array Value} {e : TypeId} {fz : Nat × Nat}
    (h : w.heap[b]? = some (.cells c e fz)) (hn : o + n ≤ c.size) : (loadCells ⟨b,o,none⟩ n).run P w = .ok (c.extract o (o + n)) w := by
 rw[run_loadCells w ⟨b,o,none⟩ n (fun j=>c.getD (o+j) undef)]
 ·congr 1
  apply Array.ext
  ·simp;omega
  ·intro i h1 h2
   have h3:o+i<c.size:=by simp at h2;omega
   simp[h3]
 ·intro j hj
  have h3:o+j<c.size:=by omega
  rw[add_off,cell_blk h]
  simp[h3]
theorem r_loadVar {w:World} {t:TypeId} {b o:Nat} {v:Value} (h:ldO P t w.heap[b]? o=some v):(loadVar t ⟨b,o,none⟩).run P w=.ok v w:=by
 unfold ldO at h
 split at h
 ·rename_i c e fz hb
  split at h
  ·rename_i ha
   split at h
   ·rename_i n hs
    split at h
    ·rename_i hn
     simp only[Option.some.injEq] at h;subst h
     simp[loadVar,r_agg ha,r_size hs,r_loadCells hb hn]
    ·cases h
   ·cases h
  ·rename_i ha
   simp only[loadVar,Sem.run_bind,r_agg ha,Result.andThen_ok,Bool.false_eq_true,if_false]
   exact r_load hb h
  ·cases h
 ·cases h
theorem heap_lt {w:World} {b:Nat} {o:Obj} (h:w.heap[b]?=some o):b<w.heap.size:=(Array.getElem?_eq_some_iff.1 h).1
@[simp] theorem put_heap_size (w:World) (b:Nat) (o:Obj):(put w b o).heap.size=w.heap.size:=by simp[put]
theorem put_self {w:World} {b:Nat} {o:Obj} (h:w.heap[b]?=some o):put w b o=w:=by
 have h1:=heap_lt h
 have h2:w.heap[b]=o:=by simpa [Array.getElem?_eq_getElem h1] using h
 unfold put
 have:w.heap.setIfInBounds b o=w.heap:=by
  rw[← h2]
  simp[Array.setIfInBounds,h1]
 rw[this]
theorem put_put (w:World) (b:Nat) (o o':Obj):put (put w b o) b o'=put w b o':=by
 simp[put]
theorem blk_put_same {w:World} {b:Nat} (o:Obj) (h:b<w.heap.size):(put w b o).heap[b]?=some o:=by
 simp[put,h]
theorem blk_put_ne {w:World} {b b':Nat} (o:Obj) (h:b≠b'):(put w b o).heap[b']?=w.heap[b']?:=by
 simp[put,Array.getElem?_setIfInBounds_ne h]
theorem setCell_put {w : World} {b o : Nat} {c : Array Value} {e : TypeId} {fz : Nat × Nat} (v : Value)
    (h : w.heap[b]? = some (.cells c e fz)) : w.setCell ⟨b,o,none⟩ v = put w b (.cells (c.setIfInBounds o v) e fz) := by
 have h1:=heap_lt h
 have h2:w.heap[b]=.cells c e fz:=by simpa [Array.getElem?_eq_getElem h1] using h
 unfold World.setCell put
 congr 1
 apply Array.ext_getElem?
 intro i
 rw[Array.getElem?_modify,Array.getElem?_setIfInBounds]
 by_cases hb:b=i
 ·subst hb;simp[h1,h2]
 ·simp[hb]
theorem one_eq (v:Value):one v=v.oneCell':=by cases v <;> rfl
theorem storeL_size:∀ (vs:List Value) (o:Nat) (c:Array Value),(storeL vs o c).size=c.size
 | [],_,_=>rfl
 | _::r,o,c=>by simp[storeL,storeL_size r]
theorem r_storeCells : ∀ (vs : List Value) (w : World) (b o i : Nat) (c : Array Value) (e : TypeId), w.heap[b]? = some (.cells c e (0, 0)) →
    o + i + vs.length ≤ c.size → vs.all one = true →
    (storeCells ⟨b,o,none⟩ vs i).run P w = .ok () (put w b (.cells (storeL vs (o + i) c) e (0,0)))
 | [],w,b,o,i,c,e,h,_,_=>by simp[storeCells,storeL,put_self h]
 | v::r,w,b,o,i,c,e,h,hn,h1=>by
  simp only[List.length_cons] at hn
  simp only[List.all_cons,Bool.and_eq_true] at h1
  have hlt:o+i<c.size:=by omega
  have hc:w.cell? ⟨b,o+i,none⟩=some c[o+i]:=by rw[cell_blk h];simp[hlt]
  have hf:w.frozen? ⟨b,o+i,none⟩=false:=by simp[World.frozen?,h]
  simp only[storeCells,Sem.run_bind,add_off,run_store P w _ v .plain (by rw[← one_eq];exact h1.1),hc,hf,Bool.false_eq_true,if_false,Result.andThen_ok]
  rw[setCell_put v h]
  rw[r_storeCells r _ b o (i+1) (c.setIfInBounds (o+i) v) e (blk_put_same _ (heap_lt h)) (by simp;omega) h1.2]
  rw[put_put]
  simp[storeL,Nat.add_assoc]
theorem r_storeVar {w : World} {t : TypeId} {b o : Nat} {v : Value} {ob : Obj} (h : stO P t w.heap[b]? o v = some ob) :
    (storeVar t ⟨b,o,none⟩ v).run P w = .ok () (put w b ob) := by
 unfold stO at h
 split at h
 ·rename_i c e hb
  split at h
  ·rename_i hh
   simp only[Option.some.injEq] at h;subst h
   have:=r_storeCells (P:=P) v.cells.toList w b o 0 c e hb (by simpa using hh.2.1) (by simpa using hh.2.2)
   simp only[storeVar,Sem.run_bind,r_size hh.1,Result.andThen_ok,ne_eq,not_true_eq_false,if_false]
   simpa using this
  ·cases h
 ·cases h
def plainB (w:World) (b:Nat):Bool:=match w.heap[b]? with | some (.cells _ _ (0,0))=>true | _=>false
def eqPtr (w:World) (x y:Value):Option Bool :=
 match x,y with
 | .pointer none,.pointer b=>some b.isNone
 | .pointer (some _),.pointer none=>some false
 | .pointer (some a),.pointer (some b)=>if a.block=b.block then some (a == b) else if plainB w a.block=true∧plainB w b.block=true then some false else none
 | _,_=>none
theorem plainB_spec {w:World} {b:Nat} (h:plainB w b=true):∃ c e,w.heap[b]?=some (.cells c e (0,0)):=by
 unfold plainB at h
 split at h
 ·exact⟨_,_,by assumption⟩
 ·cases h
theorem r_sameAddr {w : World} {a b : Addr} (hne : a.block ≠ b.block) (ha : plainB w a.block = true) (hb : plainB w b.block = true) :
    (sameAddr a b).run P w = .ok false w := by
 obtain⟨c,e,hc⟩:=plainB_spec ha
 obtain⟨c',e',hc'⟩:=plainB_spec hb
 have f1:∀ n,w.frozen? ⟨a.block,n,a.spot⟩=false:=fun n=>by simp[World.frozen?,hc]
 have f2:∀ n,w.frozen? ⟨b.block,n,b.spot⟩=false:=fun n=>by simp[World.frozen?,hc']
 have f3:∀ n,w.frozen? ⟨a.block,n,none⟩=false:=fun n=>by simp[World.frozen?,hc]
 have f4:∀ n,w.frozen? ⟨b.block,n,none⟩=false:=fun n=>by simp[World.frozen?,hc']
 have f1':=f1 a.off
 have f2':=f2 b.off
 have s1:w.shape? a.block=some (e,c.size):=by simp[World.shape?,hc]
 have s2:w.shape? b.block=some (e',c'.size):=by simp[World.shape?,hc']
 simp[sameAddr,hne,noView,viewAt,s1,s2,mayBeOne,stringish,f1',f2',f3,f4]
def ptrO (P:Program) (t:TypeId):Option Nat:=match P.underlying t with | some (.pointer e)=>szO P e | _=>none
def cmpR (P:Program) (w:World) (t:TypeId) (c:Bool) (a b:Value):Option Bool :=
 match a,b with
 | .pointer _,.pointer _=>(match ptrO P t with | some n=>if n=0 then none else eqPtr w a b | none=>none)
 | .agg _,.agg _=>if P.eqGuardType P.depth t=true then none else eqV P Op.maxDepth t a b
 | .nilIface,.nilIface=>if ifaceT P t=true∧c=true then some true else none
 | .nilIface,.iface _ _=>if ifaceT P t=true then some false else none
 | .iface _ _,.nilIface=>if ifaceT P t=true then some false else none
 | .slice x _ _,.slice y _ _=>(match slcO P t with | none=>none | some _=>match x,y with | none,y=>some y.isNone | some _,none=>some false | _,_=>none)
 | .map x,.map y=>(match mapO P t with | none=>none | some _=>match x,y with | none,y=>some y.isNone | some _,none=>some false | _,_=>none)
 | _,_=>none
theorem ifaceT_und {t:TypeId} (h:ifaceT P t=true):∃ ms,P.underlying t=some (.interface ms):=by
 unfold ifaceT at h
 split at h
 ·exact⟨_,by assumption⟩
 ·cases h
theorem r_eqPtr (d : Nat) {w : World} {t : TypeId} {e n : Nat} {x y : Value} {r : Bool} (he : P.underlying t = some (.pointer e)) (hn : szO P e = some n) (hnz : ¬ n = 0)
    (h : eqPtr w x y = some r) : (Op.equalIn (d + 1) t x y).run P w = .ok r w := by
 unfold eqPtr at h
 split at h
 ·simp only[Option.some.injEq] at h;subst h
  simp[Op.equalIn,r_und he]
 ·simp only[Option.some.injEq] at h;subst h
  simp[Op.equalIn,r_und he]
 ·rename_i a b
  split at h
  ·rename_i hb
   simp only[Option.some.injEq] at h;subst h
   simp[Op.equalIn,r_und he,r_size hn,hnz,sameAddr,hb]
  ·rename_i hb
   split at h
   ·rename_i hp
    simp only[Option.some.injEq] at h;subst h
    simp[Op.equalIn,r_und he,r_size hn,hnz,r_sameAddr hb hp.1 hp.2]
   ·cases h
 ·cases h
theorem r_eqIf (d : Nat) {w : World} {t : TypeId} (ms : Array (String × TypeId)) (hms : P.underlying t = some (.interface ms)) :
    (Op.equalIn (d + 1) t .nilIface .nilIface).run P w = .ok true w ∧ (∀ u v,(Op.equalIn (d + 1) t .nilIface (.iface u v)).run P w = .ok false w) ∧
    (∀ u v,(Op.equalIn (d + 1) t (.iface u v) .nilIface).run P w = .ok false w) := by
 refine⟨?_,fun u v=>?_,fun u v=>?_⟩ <;> simp[Op.equalIn,r_und hms]
theorem r_eqSl (d : Nat) {w : World} {t e : TypeId} (h : P.underlying t = some (.slice e)) (y : Option Addr) (a b c e' : Nat) :
    (Op.equalIn (d + 1) t (.slice none a b) (.slice y c e')).run P w = .ok y.isNone w ∧
    (∀ x,(Op.equalIn (d + 1) t (.slice (some x) a b) (.slice none c e')).run P w = .ok false w) := by
 refine⟨?_,fun x=>?_⟩ <;> simp[Op.equalIn,r_und h]
theorem r_eqMp (d : Nat) {w : World} {t k e : TypeId} (h : P.underlying t = some (.map k e)) (y : Option Nat) :
    (Op.equalIn (d + 1) t (.map none) (.map y)).run P w = .ok y.isNone w ∧
    (∀ x,(Op.equalIn (d + 1) t (.map (some x)) (.map none)).run P w = .ok false w) := by
 refine⟨?_,fun x=>?_⟩ <;> simp[Op.equalIn,r_und h]
theorem equal_eq (t:TypeId) (a b:Value):Op.equal t a b=Op.equalIn (9999+1) t a b:=rfl
set_option maxHeartbeats 1000000 in
theorem r_cmp {w : World} {t : TypeId} {x y : Operand} {a b : Value} {r : Bool} {op : BinOp} (hop : op = .eql ∨ op = .neq)
    (h : cmpR P w t ((x matches .const _) || (y matches .const _)) a b = some r) :
    (do eqGuard op t x y a b; binOp op t a b : Sem Value).run P w = .ok (.bool (if op = .eql then r else !r)) w := by
 have key : (eqGuard op t x y a b).run P w = .ok () w ∧ (Op.equal t a b).run P w = .ok r w ∧
     (binOp .eql t a b = (do pure (.bool (← Op.equal t a b)))) ∧ (binOp .neq t a b = (do pure (.bool (!(← Op.equal t a b))))) := by
  unfold cmpR at h
  split at h
  ·rename_i p q
   split at h
   ·rename_i n hn
    unfold ptrO at hn
    split at hn
    ·rename_i e he
     split at h
     ·cases h
     ·rename_i hnz
      refine⟨by rcases hop with rfl | rfl <;> simp[eqGuard],?_,by cases p <;> cases q <;> rfl,by cases p <;> cases q <;> rfl⟩
      rw[equal_eq];exact r_eqPtr _ he hn hnz h
    ·cases hn
   ·cases h
  ·split at h
   ·cases h
   ·rename_i hg
    refine⟨by rcases hop with rfl | rfl <;> simp[eqGuard,hg],?_,rfl,rfl⟩
    exact r_eqV _ _ _ _ _ h w
  ·simp only[Option.ite_none_right_eq_some,Option.some.injEq] at h
   obtain⟨hh,rfl⟩:=h
   ·obtain⟨ms,hms⟩:=ifaceT_und hh.1
    refine⟨?_,by rw[equal_eq];exact (r_eqIf _ ms hms).1,rfl,rfl⟩
    have:=hh.2
    rcases hop with rfl | rfl <;> simp only[eqGuard] <;> cases x <;> cases y <;> simp_all
  ·split at h
   ·rename_i hh
    obtain⟨ms,hms⟩:=ifaceT_und hh
    simp only[Option.some.injEq] at h;subst h
    exact⟨by rcases hop with rfl | rfl <;> simp[eqGuard],by rw[equal_eq];exact (r_eqIf _ ms hms).2.1 _ _,rfl,rfl⟩
   ·cases h
  ·split at h
   ·rename_i hh
    obtain⟨ms,hms⟩:=ifaceT_und hh
    simp only[Option.some.injEq] at h;subst h
    exact⟨by rcases hop with rfl | rfl <;> simp[eqGuard],by rw[equal_eq];exact (r_eqIf _ ms hms).2.2 _ _,rfl,rfl⟩
   ·cases h
  ·split at h
   ·cases h
   ·rename_i e he
    refine⟨by rcases hop with rfl | rfl <;> simp[eqGuard],?_,rfl,rfl⟩
    split at h
    ·simp only[Option.some.injEq] at h;subst h;rw[equal_eq];exact (r_eqSl _ (slcO_und he) _ _ _ _ _).1
    ·simp only[Option.some.injEq] at h;subst h;rw[equal_eq];exact (r_eqSl _ (slcO_und he) none _ _ _ _).2 _
    ·cases h
  ·split at h
   ·cases h
   ·rename_i ke hke
    obtain⟨k,e⟩:=ke
    refine⟨by rcases hop with rfl | rfl <;> simp[eqGuard],?_,rfl,rfl⟩
    split at h
    ·simp only[Option.some.injEq] at h;subst h;rw[equal_eq];exact (r_eqMp _ (mapO_und hke) _).1
    ·simp only[Option.some.injEq] at h;subst h;rw[equal_eq];exact (r_eqMp _ (mapO_und hke) none).2 _
    ·cases h
  ·cases h
 obtain⟨h1,h2,h3,h4⟩:=key
 rcases hop with rfl | rfl
 ·simp[h1,h3,h2]
 ·simp[h1,h4,h2]
end Go.V
end
section
namespace Go.V
variable {P:Program}
def ckV (P:Program):Nat→TypeId→Value→Bool
 | 0,_,_=>false
 | d+1,t,v =>
  match P.underlying t,v with
  | some .bool,_ | some (.int _),_ | some .string,_ | some (.pointer _),_=>true
  | some (.struct fs), .agg cs => fs.toList.all fun f => if f.name = "_" then true else match partO P f.type cs f.offset with | some u => ckV P d f.type u | none => false
  | some (.array n e),.agg cs=>match szO P e with | some s=>(List.range n).all fun i=>(match partO P e cs (i*s) with | some u=>ckV P d e u | none=>false) | none=>false
  | _,_=>false
theorem r_forUnit {α : Type} (B : α → Unit → Sem (ForInStep Unit)) (w : World) :
    ∀ (l : List α),(∀ x ∈ l,(B x ()).run P w = .ok (.yield ()) w) → (forIn (m := Sem) l () B).run P w = .ok () w
 | [],_=>by simp
 | x::l,h=>by
  simp only[List.forIn_cons,Sem.run_bind,h x (by simp),Result.andThen_ok]
  exact r_forUnit B w l fun y hy=>h y (by simp[hy])
theorem r_ckV (emp:Bool):∀ (d:Nat) (t:TypeId) (v:Value),ckV P d t v=true→∀ w,(Instr.checkKey emp d t v).run P w=.ok () w:=by
 intro d
 induction d with
 | zero=>intro t v h;cases h
 | succ d ih =>
  intro t v h w
  unfold ckV at h
  split at h
  ·rename_i hu;simp only[Instr.checkKey,Sem.run_bind,r_und hu,Result.andThen_ok];simp
  ·rename_i hu;simp only[Instr.checkKey,Sem.run_bind,r_und hu,Result.andThen_ok];simp
  ·rename_i hu;simp only[Instr.checkKey,Sem.run_bind,r_und hu,Result.andThen_ok];simp
  ·rename_i hu;simp only[Instr.checkKey,Sem.run_bind,r_und hu,Result.andThen_ok];simp
  ·rename_i fs cs hu
   simp only[Instr.checkKey,Sem.run_bind,r_und hu,Result.andThen_ok]
   rw[← Array.forIn_toList,r_forUnit]
   ·simp
   ·intro f hf
    have:=List.all_eq_true.1 h f hf
    split at this
    ·rename_i hn;simp[hn]
    ·rename_i hn
     split at this
     ·rename_i u hu'
      simp[hn,r_part hu',ih _ _ this]
     ·cases this
  ·rename_i n e cs hu
   simp only[Instr.checkKey,Sem.run_bind,r_und hu,Result.andThen_ok]
   split at h
   ·rename_i s hs
    rw[Std.Legacy.Range.forIn_eq_forIn_range',r_forUnit]
    ·simp
    ·intro i hi
     have hi':i ∈ List.range n:=by simpa [Std.Legacy.Range.size,List.range_eq_range'] using hi
     have:=List.all_eq_true.1 h i hi'
     split at this
     ·rename_i u hu'
      simp[r_size hs,r_part hu',ih _ _ this]
     ·cases this
   ·cases h
  ·cases h
def mapEs (w:World) (m:Value):Option (List MapEntry) :=
 match m with
 | .map none=>some []
 | .map (some r)=>(match w.heap[r]? with | some (.map es _)=>some es.toList | _=>none)
 | _=>none
def findV (P:Program) (kt:TypeId) (k:Value):List MapEntry→Nat→Option (Option (Nat × Value))
 | [],_=>some none
 | e::es,i =>
  match eqV P Op.maxDepth kt k e.key with
  | some true=>some (some (i,e.val))
  | some false=>findV P kt k es (i+1)
  | none=>none
theorem eqV_now {kt:TypeId} {d:TypeDesc} {a b:Value} {x y:Bool} (hu:P.underlying kt=some d) (h:Instr.sameNow d a b=some x) (h':eqV P Op.maxDepth kt a b=some y):x=y:=by
 have e:eqV P Op.maxDepth kt a b=eqV P (9999+1) kt a b:=rfl
 rw[e] at h'
 unfold eqV at h'
 unfold Instr.sameNow at h
 rw[hu] at h'
 split at h
 ·split at h
  ·rename_i hk;simp_all
  ·cases h
 ·simp_all
 ·simp_all
 ·cases h
theorem findNow_eq {kt : TypeId} {d : TypeDesc} {k : Value} (hu : P.underlying kt = some d) : ∀ (es : List MapEntry) (i : Nat) (r r' : Option (Nat × Value)),
    findV P kt k es i = some r → Instr.findNow d k es i = some r' → r' = r
 | [],i,r,r',h,h'=>by simp[findV] at h;simp[Instr.findNow] at h';rw[← h',← h]
 | e::es,i,r,r',h,h'=>by
  unfold findV at h
  unfold Instr.findNow at h'
  cases hn:Instr.sameNow d k e.key with
  | none=>rw[hn] at h';cases h'
  | some x =>
   rw[hn] at h'
   cases hv:eqV P Op.maxDepth kt k e.key with
   | none=>rw[hv] at h;cases h
   | some y =>
    rw[hv] at h
    have:=eqV_now hu hn hv
    subst this
    cases x
    ·exact findNow_eq hu es (i+1) r r' h h'
    ·simp only[Option.some.injEq] at h h';rw[← h',← h]
theorem findAsking_eq {kt : TypeId} {k : Value} (w : World) : ∀ (es : List MapEntry) (i : Nat) (r : Option (Nat × Value)),
    findV P kt k es i = some r → (Instr.findAsking kt k es i).run P w = .ok r w
 | [],i,r,h=>by simp[findV] at h;simp[Instr.findAsking,h]
 | e::es,i,r,h=>by
  unfold findV at h
  split at h
  ·rename_i hv
   simp only[Option.some.injEq] at h;subst h
   simp[Instr.findAsking,Op.equal,r_eqV _ _ _ _ _ hv]
  ·rename_i hv
   simp[Instr.findAsking,Op.equal,r_eqV _ _ _ _ _ hv,findAsking_eq w es (i+1) r h]
  ·cases h
theorem r_findKey {kt : TypeId} {d : TypeDesc} {k : Value} {es : List MapEntry} {r : Option (Nat × Value)} (hu : P.underlying kt = some d) (h : findV P kt k es 0 = some r) (w : World) :
    (Instr.findKey kt k es).run P w = .ok r w := by
 simp only[Instr.findKey,Sem.run_bind,r_und hu,Result.andThen_ok]
 cases hn:Instr.findNow d k es 0 with
 | none=>simp only[];exact findAsking_eq w es 0 r h
 | some r'=>simp[findNow_eq hu es 0 r r' h hn]
theorem ckV_und {d:Nat} {t:TypeId} {v:Value} (h:ckV P d t v=true):∃ u,P.underlying t=some u:=by
 cases d with
 | zero=>cases h
 | succ d =>
  unfold ckV at h
  cases hu:P.underlying t with
  | none=>simp[hu] at h
  | some u=>exact⟨u,rfl⟩
/-- where a key stands among a map's entries -/
def getK (P:Program) (kt:TypeId) (es:List MapEntry) (k:Value):Option (Option (Nat × Value)) :=
 if ckV P 10000 kt k=true then findV P kt k es 0 else none
def lookO (P:Program) (t:TypeId) (w:World) (m k:Value):Option (Value × Bool) :=
 (mapO P t).bind fun p=>(mapEs w m).bind fun es=>(getK P p.1 es k).bind fun r=>match r with
  | some (_,v)=>some (v,true)
  | none=>(zeroO P p.2).map fun z=>(z,false)
theorem r_getObj {w:World} {r:Nat} {es:Array MapEntry} {c:Nat} (h:w.heap[r]?=some (.map es c)):(getObj r).run P w=.ok (.map es c) w:=by
 simp[getObj,Sem.run,h]
theorem r_setObj {w:World} {r:Nat} {es:Array MapEntry} {c:Nat} {o:Obj} (h:w.heap[r]?=some (.map es c)):(setObj r o).run P w=.ok () (put w r o):=by
 simp[setObj,Sem.run,h,put]
theorem r_look {t : TypeId} {w : World} {m k v : Value} {b ok : Bool} (h : lookO P t w m k = some (v, b)) :
    (Instr.lookup t m k ok).run P w = .ok (if ok = true then .tuple #[v,.bool b] else v) w := by
 unfold lookO at h
 simp only[Option.bind_eq_some_iff] at h
 obtain⟨⟨kt,et⟩,hm,es,hes,r,hr,h⟩:=h
 unfold getK at hr
 split at hr
 ·rename_i hck
  obtain⟨d,hd⟩:=ckV_und hck
  simp only at hd hck hr h
  unfold mapEs at hes
  split at hes
  ·simp only[Option.some.injEq] at hes
   subst hes
   simp only[Instr.lookup,Sem.run_bind,r_und (mapO_und hm),Result.andThen_ok,Sem.run_pure,r_ckV _ _ _ _ hck,r_findKey hd hr]
   cases r with
   | none =>
    simp only[Option.map_eq_some_iff,Prod.mk.injEq] at h
    obtain⟨z,hz,rfl,rfl⟩:=h
    simp[r_zero hz]
   | some iv =>
    obtain⟨i,u⟩:=iv
    simp only[Option.some.injEq,Prod.mk.injEq] at h
    obtain⟨rfl,rfl⟩:=h
    simp
  ·rename_i r'
   split at hes
   ·rename_i es' c' hb
    simp only[Option.some.injEq] at hes
    subst hes
    simp only[Instr.lookup,Sem.run_bind,r_und (mapO_und hm),Result.andThen_ok,r_getObj hb,Sem.run_pure,r_ckV _ _ _ _ hck,r_findKey hd hr]
    cases r with
    | none =>
     simp only[Option.map_eq_some_iff,Prod.mk.injEq] at h
     obtain⟨z,hz,rfl,rfl⟩:=h
     simp[r_zero hz]
    | some iv =>
     obtain⟨i,u⟩:=iv
     simp only[Option.some.injEq,Prod.mk.injEq] at h
     obtain⟨rfl,rfl⟩:=h
     simp
   ·cases hes
  ·cases hes
 ·cases hr
/-- a map's object behind a store -/
def putE (P:Program) (kt:TypeId) (ob:Option Obj) (k v:Value):Option Obj :=
 match ob with
 | some (.map es c)=>(getK P kt es.toList k).bind fun r=>match r with
  | some (i,_)=>if Instr.sameBits 10000 (((es[i]?).map (·.key)).getD k) k=true then some (.map (es.modify i fun e=>{ e with key:=k,val:=v }) c) else none
  | none=>some (.map (es.push { key:=k,val:=v,born:=c }) (c+1))
 | _=>none
theorem r_mapUpdate {t kt et : TypeId} {w : World} {r : Nat} {k v : Value} {ob : Obj} (hm : mapO P t = some (kt, et)) (h : putE P kt w.heap[r]? k v = some ob) :
    (Instr.mapUpdate t (.map (some r)) k v).run P w = .ok () (put w r ob) := by
 unfold putE at h
 split at h
 ·rename_i es c hb
  simp only[Option.bind_eq_some_iff] at h
  obtain⟨q,hr,h⟩:=h
  unfold getK at hr
  split at hr
  ·rename_i hck
   obtain⟨d,hd⟩:=ckV_und hck
   simp only[Instr.mapUpdate,Sem.run_bind,r_und (mapO_und hm),Result.andThen_ok,r_getObj hb,r_ckV _ _ _ _ hck,r_findKey hd hr]
   cases q with
   | none=>simp only[Option.some.injEq] at h;subst h;exact r_setObj hb
   | some iv =>
    obtain⟨i,u⟩:=iv
    simp only at h
    split at h
    ·rename_i hs
     simp only[Option.some.injEq] at h;subst h
     simp only[Instr.keyThatStays,hs,if_true,Sem.run_bind,Sem.run_pure,Result.andThen_ok]
     exact r_setObj hb
    ·cases h
  ·cases hr
 ·cases h
def delE (P:Program) (kt:TypeId) (ob:Option Obj) (k:Value):Option Obj :=
 match ob with
 | some (.map es c)=>(getK P kt es.toList k).map fun r=>match r with
  | some (i,_)=>.map (es.eraseIdxIfInBounds i) c
  | none=>.map es c
 | _=>none
def isC (x:Operand):Bool:=x matches .const _
/-- operations of the second kind -/
def stepR (P:Program) (ev:Ev) (w:World) (op:Op):Option Value :=
 match op with
 | .load t x=>match evO ev x with | .pointer (some ⟨b,o,none⟩)=>rdO P t w b o | _=>none
 | .binOp op t x y _=>match op with
  | .eql=>(cmpR P w t (isC x || isC y) (evO ev x) (evO ev y)).map fun r=>.bool r
  | .neq=>(cmpR P w t (isC x || isC y) (evO ev x) (evO ev y)).map fun r=>.bool !r
  | _=>none
 | .lookup t m k ok=>(lookO P t w (evO ev m) (evO ev k)).map fun p=>if ok=true then .tuple #[p.1,.bool p.2] else p.1
 | .typeAssert x _ t ok=>match evO ev x with
  | .iface u v=>if ifaceT P t=true then none else (aggO P t).bind fun _=>if u=t then some (if ok=true then .tuple #[v,.bool true] else v) else if ok=true then (zeroO P t).map fun z=>.tuple #[z,.bool false] else none
  | .nilIface=>if ok=true then (aggO P t).bind fun _=>(zeroO P t).map fun z=>.tuple #[z,.bool false] else none
  | _=>none
 | _=>none
theorem stepR_sound {a:Act} {o:Oper} {v:Value} {w:World} (h:stepR P (evOf a) w o.op=some v):(execOp a.eval o).run P w=.ok (.value v) w:=by
 obtain⟨dst,op,ty,pos,after,guard⟩:=o
 unfold stepR at h
 simp only at h
 split at h <;> simp only[execOp,Sem.run_bind,eval_evOf]
 ·split at h
  ·rename_i b o hx
   simp[Instr.loadAt,hx,Instr.sureAddr,r_loadVar h]
  ·cases h
 ·rename_i bop t x y z
  split at h
  ·simp only[Option.map_eq_some_iff] at h
   obtain⟨r,hr,rfl⟩:=h
   have:=r_cmp (op:=.eql) (.inl rfl) hr
   simp only[Sem.run_bind] at this
   rw[this];simp
  ·simp only[Option.map_eq_some_iff] at h
   obtain⟨r,hr,rfl⟩:=h
   have:=r_cmp (op:=.neq) (.inr rfl) hr
   simp only[Sem.run_bind] at this
   rw[this];simp
  ·cases h
 ·simp only[Option.map_eq_some_iff] at h
  obtain⟨⟨u,b⟩,hl,rfl⟩:=h
  simp[r_look hl]
 ·rename_i x xt t ok
  split at h
  ·rename_i u v' hx
   split at h
   ·cases h
   ·rename_i hni
    simp only[Option.bind_eq_some_iff] at h
    obtain⟨b,hb,h⟩:=h
    obtain⟨d,hd⟩:=aggO_und hb
    simp only[ifaceT,hd] at hni
    have hni':∀ ms,d≠.interface ms:=by intro ms he;subst he;simp at hni
    split at h
    ·rename_i hut
     simp only[Option.some.injEq] at h;subst h
     simp only[Instr.typeAssert,Sem.run_bind,r_und hd,Result.andThen_ok,hx]
     cases d <;> simp_all
    ·rename_i hut
     split at h
     ·rename_i hok
      simp only[Option.map_eq_some_iff] at h
      obtain⟨z,hz,rfl⟩:=h
      simp only[Instr.typeAssert,Sem.run_bind,r_und hd,Result.andThen_ok,hx]
      cases d <;> simp_all [r_zero hz]
     ·cases h
  ·rename_i hx
   split at h
   ·rename_i hok
    simp only[Option.bind_eq_some_iff,Option.map_eq_some_iff] at h
    obtain⟨b,hb,z,hz,rfl⟩:=h
    obtain⟨d,hd⟩:=aggO_und hb
    simp only[Instr.typeAssert,Sem.run_bind,r_und hd,Result.andThen_ok,hx]
    cases d <;> simp_all [r_zero hz]
   ·cases h
  ·cases h
 ·cases h
end Go.V
end
section
namespace Go.V
variable {P:Program}
/-- a call of a function: it returns, and K holds of what it returns and leaves -/
def Fn (P:Program) (f:FuncId) (args:Array Value) (w:World) (K:Value→World→Prop):Prop :=
 Calls P f args w fun e w'=>match e with | .returned v=>K v w' | _=>False
theorem Fn.mono {f:FuncId} {args:Array Value} {w:World} {K K':Value→World→Prop} (h:Fn P f args w K) (hk:∀ v w',K v w'→K' v w'):Fn P f args w K' :=
 Calls.mono h fun e w'=>by cases e <;> simp only[] <;> first | exact hk _ _ | exact id
theorem Fn.some {f:FuncId} {args:Array Value} {w:World} {K:Value→World→Prop} (h:Fn P f args w K):∃ v w',K v w':=by
 obtain⟨e,w',fr,hR,_⟩:=h []
 cases e with
 | returned v=>exact⟨v,w',hR⟩
 | panicked c=>exact hR.elim
 | outgrown=>exact hR.elim
def outE (P:Program) (s:Sem Next) (w:World) (K:Value→World→Prop):Prop :=
 match s.run P w with
 | .ok (.value v) w'=>K v w'
 | .ok .skip w'=>K undef w'
 | .ok (.enter f args) w'=>Fn P f args w' K
 | _=>False
theorem outE_mono {s:Sem Next} {w:World} {K K':Value→World→Prop} (hk:∀ v w',K v w'→K' v w') (h:outE P s w K):outE P s w K':=by
 unfold outE at *
 split at h
 ·exact hk _ _ h
 ·exact hk _ _ h
 ·exact h.mono hk
 ·exact h.elim
theorem outE_some {s:Sem Next} {w:World} {K:Value→World→Prop} (h:outE P s w K):∃ v w',K v w':=by
 unfold outE at h
 split at h
 ·exact⟨_,_,h⟩
 ·exact⟨_,_,h⟩
 ·exact h.some
 ·exact h.elim
theorem wp_of_outE {o : Oper} {a : Act} {w : World} {K : Value → World → Prop} {N : Act → World → Prop} {Q : Exit → Act → World → Prop} (h : outE P (execOp a.eval o) w K)
    (hk : ∀ v w',K v w' → N (a.put o.dst v) w') : o.wp P a w N Q := by
 unfold outE at h
 unfold Oper.wp
 split at h
 ·rename_i hr;rw[hr];exact hk _ _ h
 ·rename_i hr;rw[hr];exact hk _ _ h
 ·rename_i hr;rw[hr]
  refine Calls.mono h fun e w' he=>?_
  cases e with
  | returned v=>exact hk _ _ he
  | panicked c=>exact he.elim
  | outgrown=>exact he.elim
 ·exact h.elim
def zrow (z:List Value) (n:Nat):Array Value:=(List.replicate n z).flatten.toArray
def stepE (P:Program) (ev:Ev) (w:World) (op:Op):Option (Value × World) :=
 match op with
 | .alloc t=>(zeroO P t).map fun z=>(.pointer (some ⟨w.heap.size,0,none⟩),w.alloc (.cells z.cells t))
 | .box t x=>some (.pointer (some ⟨w.heap.size,0,none⟩),w.alloc (.cells (evO ev x).cells t))
 | .buildSlice t n parts => (slcO P t).bind fun e => (szO P e).bind fun s => (zeroO P e).bind fun z =>
     if n * s ≤ 2 ^ 24 ∧ 0 < s ∧ z.cells.size = s then
       (Instr.fill (fun i => some (i * s,s)) (zrow z.cells.toList n) (parts.toList.map fun p => (p.1,evO ev p.2))).map fun cells =>
         (.slice (some ⟨w.heap.size,0,none⟩) n n,w.alloc (.cells cells e))
     else none
 | .store t x v=>match evO ev x with
  | .pointer (some ⟨b,o,none⟩)=>(wrO P t w b o (evO ev v)).map fun w'=>(undef,w')
  | _=>none
 | .makeMap _ none=>some (.map (some w.heap.size),w.alloc (.map #[] 0))
 | .mapUpdate t m k x | .insert t m k x=>match evO ev m with
  | .map (some r)=>(mapO P t).bind fun p=>(putE P p.1 w.heap[r]? (evO ev k) (evO ev x)).map fun ob=>(undef,put w r ob)
  | _=>none
 | _=>none
theorem zrow_eq (z:Array Value) (n s:Nat) (hs:z.size=s):(Array.range (n*s)).map (fun i=>z[i % z.size]!)=zrow z.toList n:=by
 apply Array.toList_inj.1
 simp only[Array.toList_map,Array.toList_range,zrow]
 induction n with
 | zero=>simp
 | succ n ih =>
  rw[Nat.succ_mul,List.range_add,List.map_append,ih,List.replicate_succ',List.flatten_append]
  congr 1
  simp only[List.map_map,List.flatten_cons,List.flatten_nil,List.append_nil]
  apply List.ext_getElem
  ·simp[hs]
  ·intro i h1 h2
   simp only[List.length_map,List.length_range] at h1
   have:(n*s+i) % z.size=i:=by
    rw[hs,Nat.add_comm,Nat.mul_comm,Nat.add_mul_mod_self_left,Nat.mod_eq_of_lt h1]
   simp only[List.getElem_map,List.getElem_range,Function.comp_apply,this]
   simp[hs,h1]
theorem stepE_sound {a:Act} {o:Oper} {w:World} {K:Value→World→Prop} (h:okO (stepE P (evOf a) w o.op) fun p=>K p.1 p.2):outE P (execOp a.eval o) w K:=by
 obtain⟨⟨v,w'⟩,hs,hk⟩:=okO_elim h
 obtain⟨dst,op,ty,pos,after,guard⟩:=o
 unfold stepE at hs
 simp only at hs hk
 unfold outE
 split at hs <;> simp only[execOp,eval_evOf]
 ·simp only[Option.map_eq_some_iff,Prod.mk.injEq] at hs
  obtain⟨z,hz,rfl,rfl⟩:=hs
  simpa [Instr.alloc,r_zero hz,newVar,newRow] using hk
 ·simp only[Option.some.injEq,Prod.mk.injEq] at hs
  obtain⟨rfl,rfl⟩:=hs
  simpa [Instr.box,newVar,newRow] using hk
 ·rename_i t n parts
  simp only[Option.bind_eq_some_iff] at hs
  obtain⟨e,he,s,hsz,z,hz,hs⟩:=hs
  split at hs
  ·rename_i hc
   simp only[Option.map_eq_some_iff,Prod.mk.injEq] at hs
   obtain⟨cells,hf,rfl,rfl⟩:=hs
   have hp:(parts.map fun x:Nat × Operand=>(x.1,evO (evOf a) x.2)).toList=(parts.toList.map fun p=>(p.1,evO (evOf a) p.2)):=Array.toList_map
   have hz':=zrow_eq z.cells n s hc.2.2
   have h24:¬ (n*s > 2 ^ 24):=by omega
   have key:(Instr.buildSlice t n (parts.map fun x:Nat × Operand=>(x.1,evO (evOf a) x.2))).run P w=.ok (.slice (some ⟨w.heap.size,0,none⟩) n n) (w.alloc (.cells cells e)):=by
    simp only[Instr.buildSlice,Sem.run_bind,r_und (slcO_und he),Result.andThen_ok,r_size hsz,h24,if_false]
    by_cases h0:n*s=0
    ·have hn : n = 0 := by
       rcases Nat.mul_eq_zero.1 h0 with h | h
       · exact h
       · omega
     subst hn
     have hf':∀ z':Array Value,Instr.fill (fun i=>some (i*s,s)) ((Array.range (0*s)).map fun i=>z'[i % z'.size]!) (parts.map fun x:Nat × Operand=>(x.1,evO (evOf a) x.2)).toList=some cells:=fun z'=>by
      have e1:(Array.range (0*s)).map (fun i=>z'[i % z'.size]!)=#[]:=by rw[Nat.zero_mul];simp
      have e2:zrow z.cells.toList 0=#[]:=rfl
      rw[hp,e1,← e2,hf]
     simp only[h0,if_true,Sem.run_pure,Result.andThen_ok]
     rw[← h0]
     simp only[hf']
     simp[newRow]
    ·have hf' : Instr.fill (fun i => some (i * s, s)) ((Array.range (n * s)).map fun i => z.cells[i % z.cells.size]!) (parts.map fun x : Nat × Operand => (x.1, evO (evOf a) x.2)).toList = some cells := by
       rw [hp,hz',hf]
     simp only[h0,if_false,Sem.run_bind,r_zero hz,Result.andThen_ok,Sem.run_pure]
     simp only[hf']
     simp[newRow]
   simp only[Sem.run_bind,key,Result.andThen_ok,Sem.run_pure]
   exact hk
  ·cases hs
 ·rename_i t x v'
  split at hs
  ·rename_i b o hx
   simp only[wrO,Option.map_eq_some_iff,Prod.mk.injEq] at hs
   obtain⟨_,⟨ob,hob,rfl⟩,rfl,rfl⟩:=hs
   simpa [Instr.storeAt,hx,Instr.sureAddr,r_storeVar hob] using hk
  ·cases hs
 ·simp only[Option.some.injEq,Prod.mk.injEq] at hs
  obtain⟨rfl,rfl⟩:=hs
  simpa [Instr.makeMap] using hk
 ·rename_i t m k x
  split at hs
  ·rename_i r hm
   simp only[Option.bind_eq_some_iff,Option.map_eq_some_iff,Prod.mk.injEq] at hs
   obtain⟨⟨kt,et⟩,hmo,ob,hob,rfl,rfl⟩:=hs
   simpa [hm,r_mapUpdate hmo hob] using hk
  ·cases hs
 ·rename_i t m k x
  split at hs
  ·rename_i r hm
   simp only[Option.bind_eq_some_iff,Option.map_eq_some_iff,Prod.mk.injEq] at hs
   obtain⟨⟨kt,et⟩,hmo,ob,hob,rfl,rfl⟩:=hs
   simpa [hm,r_mapUpdate hmo hob] using hk
  ·cases hs
 ·cases hs
/-- what the machine does, told by its run -/
def SemD (P:Program) (s:Sem Value) (w:World) (K:Value→World→Prop):Prop:=∃ v w',s.run P w=.ok v w'∧K v w'
def AppD (P:Program) (ts:Array TypeId) (x y:Value) (w:World) (K:Value→World→Prop):Prop:=SemD P (Builtin.append_ ts 0 #[x,y]) w K
def DelD (P:Program) (ts:Array TypeId) (m k:Value) (w:World) (K:Value→World→Prop):Prop:=SemD P (Builtin.delete_ ts 0 #[m,k]) w K
def CopyD (P:Program) (ts:Array TypeId) (x y:Value) (w:World) (K:Value→World→Prop):Prop:=SemD P (Builtin.copy_ ts 0 #[x,y]) w K
def ConvD (P:Program) (s d:TypeId) (x:Value) (w:World) (K:Value→World→Prop):Prop:=SemD P (convert s d x) w K
/-- conversions that look at no memory -/
def cvP (P:Program) (s d:TypeId):Bool:=(intO P d).isSome || (strO P s && strO P d)
/-- built-in functions that look at no memory -/
def biK (P:Program) (b:Builtin) (ts:Array TypeId):Bool :=
 match b with
 | .min | .max | .cap=>true
 | .len=>(ts[0]?.bind (mapO P)).isNone
 | _=>false
def dcall (P:Program) (c:Call) (ev:Ev) (w:World) (K:Value→World→Prop):Prop :=
 match c.callee with
 | .value f=>match evO ev f with
  | .func (.func g) fs cs=>plainFn P g=true∧Fn P g (fs++c.args.map (evO ev)++cs) w K
  | _=>False
 | .builtin b =>
  if biK P b c.argTypes=true then okO (biP P b c.argTypes (c.args.toList.map (evO ev))) fun v=>K v w else
  match b,c.args.toList with
  | .append,[x,y]=>AppD P c.argTypes (evO ev x) (evO ev y) w K
  | .delete,[x,y]=>DelD P c.argTypes (evO ev x) (evO ev y) w K
  | .copy,[x,y]=>CopyD P c.argTypes (evO ev x) (evO ev y) w K
  | .len,[x]=>SemD P (Builtin.len_ c.argTypes 0 #[evO ev x]) w K
  | .clear,[x]=>SemD P (Builtin.clear_ c.argTypes 0 #[evO ev x]) w K
  | _,_=>False
 | .invoke r m=>match evO ev r with
  | .iface t v=>∃ f u,(method (P.types.size+Made.depth) t v m).run P w=.ok (f,u) w∧plainFn P f=true∧Fn P f (#[u]++c.args.map (evO ev)) w K
  | _=>False
theorem outE_semD {s:Sem Value} {w:World} {K:Value→World→Prop} (h:SemD P s w K):outE P (do pure (.value (← s))) w K:=by
 obtain⟨v,w',hr,hk⟩:=h
 simp only[outE,Sem.run_bind,hr,Result.andThen_ok,Sem.run_pure]
 exact hk
theorem callFunc_plain {g:FuncId} (args:Array Value) (h:plainFn P g=true) (w:World):(callFunc g args).run P w=.ok (.enter g args) w:=by
 unfold plainFn at h
 split at h
 ·rename_i fn hf
  simp only[Bool.and_eq_true,bne_iff_ne] at h
  obtain⟨h1,h2⟩:=h
  have h2':fn.body.isNone=false:=by cases hb:fn.body <;> simp_all
  simp only[callFunc,Sem.run_bind,run_program,Result.andThen_ok,hf]
  rw[if_neg (by simpa using h1),if_neg (by simp[h2'])]
  simp
 ·cases h
theorem dcall_sound {a : Act} {dst : Option Tmp} {ty : TypeId} {pos : String} {after : Array Edge} {guard : Option (Nat × Bool)} {c : Call} {w : World} {K : Value → World → Prop}
    (h : dcall P c (evOf a) w K) : outE P (execOp a.eval { dst,op := .call c,type := ty,pos,after,guard }) w K := by
 unfold dcall at h
 split at h
 ·rename_i f hf
  split at h
  ·rename_i g fs cs hg
   obtain⟨h1,h2⟩:=h
   simp only[outE,execOp,eval_evOf,Sem.run_bind,resolve,hf,Deferred.ofValue,hg,Sem.run_pure,Result.andThen_ok,invoke,callFunc_plain _ h1]
   exact h2
  ·exact h.elim
 ·rename_i b hb
  split at h
  ·obtain⟨v,hv,hk⟩:=okO_elim h
   have:=fun cons=>r_biP (ty:=ty) (cons:=cons) hv w
   have e:(c.args.toList.map (evO (evOf a))).toArray=c.args.map (evO (evOf a)):=by
    apply Array.toList_inj.1;rw[Array.toList_map]
   rw[e] at this
   simp only[outE,execOp,eval_evOf,Sem.run_bind,resolve,hb,Sem.run_pure,Result.andThen_ok,invoke,this]
   exact hk
  ·have toA : ∀ l : List Operand, c.args.toList = l → c.args.map (evO (evOf a)) = (l.map (evO (evOf a))).toArray := by
     intro l hl
     apply Array.toList_inj.1; rw [Array.toList_map,hl]
   split at h
   ·rename_i x y hxy _
    obtain⟨v,w',hr,hk⟩:=h
    have hr':(Builtin.append_ c.argTypes ty #[evO (evOf a) x,evO (evOf a) y]).run P w=.ok v w':=hr
    simp only[outE,execOp,eval_evOf,Sem.run_bind,resolve,hb,Sem.run_pure,Result.andThen_ok,invoke,toA _ hxy,List.map_cons,List.map_nil,builtin,hr']
    exact hk
   ·rename_i x y hxy _
    obtain⟨v,w',hr,hk⟩:=h
    have hr':(Builtin.delete_ c.argTypes ty #[evO (evOf a) x,evO (evOf a) y]).run P w=.ok v w':=hr
    simp only[outE,execOp,eval_evOf,Sem.run_bind,resolve,hb,Sem.run_pure,Result.andThen_ok,invoke,toA _ hxy,List.map_cons,List.map_nil,builtin,hr']
    exact hk
   ·rename_i x y hxy _
    obtain⟨v,w',hr,hk⟩:=h
    have hr':(Builtin.copy_ c.argTypes ty #[evO (evOf a) x,evO (evOf a) y]).run P w=.ok v w':=hr
    simp only[outE,execOp,eval_evOf,Sem.run_bind,resolve,hb,Sem.run_pure,Result.andThen_ok,invoke,toA _ hxy,List.map_cons,List.map_nil,builtin,hr']
    exact hk
   ·rename_i x hxy _
    obtain⟨v,w',hr,hk⟩:=h
    have hr':(Builtin.len_ c.argTypes ty #[evO (evOf a) x]).run P w=.ok v w':=hr
    simp only[outE,execOp,eval_evOf,Sem.run_bind,resolve,hb,Sem.run_pure,Result.andThen_ok,invoke,toA _ hxy,List.map_cons,List.map_nil,builtin,hr']
    exact hk
   ·rename_i x hxy _
    obtain⟨v,w',hr,hk⟩:=h
    have hr':(Builtin.clear_ c.argTypes ty #[evO (evOf a) x]).run P w=.ok v w':=hr
    simp only[outE,execOp,eval_evOf,Sem.run_bind,resolve,hb,Sem.run_pure,Result.andThen_ok,invoke,toA _ hxy,List.map_cons,List.map_nil,builtin,hr']
    exact hk
   ·exact h.elim
 ·rename_i r m hm
  split at h
  ·rename_i t v hv
   obtain⟨f,u,h1,h2,h3⟩:=h
   have e:(#[evO (evOf a) r]++c.args.map (evO (evOf a))).extract 1 (#[evO (evOf a) r]++c.args.map (evO (evOf a))).size=c.args.map (evO (evOf a)):=by
    apply Array.toList_inj.1
    simp only[Array.toList_extract,Array.toList_append,Array.toList_map,List.extract_eq_take_drop]
    simp only[List.singleton_append,List.drop_succ_cons,List.drop_zero]
    exact List.take_of_length_le (by simp)
   have e0:(#[evO (evOf a) r]++c.args.map (evO (evOf a)))[0]?=some (.iface t v):=by
    rw[Array.getElem?_append];simp[hv]
   simp only[outE,execOp,eval_evOf,Sem.run_bind,resolve,hm,Sem.run_pure,Result.andThen_ok,invoke,e0,e,callMethod,run_program,h1,callFunc_plain _ h2]
   exact h3
  ·exact h.elim
end Go.V
end
