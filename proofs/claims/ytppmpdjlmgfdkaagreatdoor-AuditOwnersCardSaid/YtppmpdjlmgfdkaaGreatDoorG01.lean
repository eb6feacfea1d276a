/- Helpers. -/
import Derived.Still
import Derived.Test.YtppmpdjlmgfdkaaGreatDoorG00
set_option linter.all false
set_option maxRecDepth 100000
set_option maxHeartbeats 8000000
open Array renaming toList_map→qF,range→qH,getElem?_eq_getElem→qB
open Bool renaming false_eq_true→qD
open Go.Builtin renaming delete_→qM,append_→qN
open List renaming map_cons→qP,map_nil→qR
open Option renaming map_eq_some_iff→qJ,bind_eq_some_iff→qZ
open Go.Region renaming ready→qT
open Go.Result renaming andThen_ok→qY
open Go.Sem renaming run_bind→qU,run_pure→qG
namespace Go.V
variable {listed:Array Bool} {args c:Array Value} {f:FuncId} {b i j r:Nat} {fz:Nat × Nat} {ob:Obj} {e kt t:TypeId} {k v:Value} {K K':Value→World→Prop} {w:World}
section
variable {P:Program}
theorem qKj (b o n:Nat):(⟨b,o,none⟩:Addr).add n=⟨b,o+n,none⟩:=by
 unfold Addr.add;split
 ·subst_vars;rfl
 ·rfl
theorem cell_blk {b o:Nat}(h:w.heap[b]?=some (.cells c e fz)) :
  w.cell? ⟨b,o,none⟩=c[o]?:=by simp[World.cell?,h]
theorem r_load {b o:Nat}
  (h:w.heap[b]?=some (.cells c e fz)) (hv:c[o]?=some v):(load ⟨b,o,none⟩).run P w=.ok v w:=by
 simp[cell_blk h,hv]
theorem qJq {b o n:Nat}
  (h:w.heap[b]?=some (.cells c e fz)) (hn:o+n≤c.size):(loadCells ⟨b,o,none⟩ n).run P w=.ok (c.extract o (o+n)) w:=by
 rw[run_loadCells w ⟨b,o,none⟩ n (fun j=>c.getD (o+j) undef)]
 ·congr 1
  apply Array.ext
  ·simp;omega
  ·intro i h1 h2
   have h3:o+i<c.size:=by simp at h2;omega
   simp[h3]
 ·intro j hj
  have h3:o+j<c.size:=by omega
  rw[qKj,cell_blk h];simp[h3]
theorem r_loadVar {b o:Nat}(h:ldO P t w.heap[b]? o=some v):(loadVar t ⟨b,o,none⟩).run P w=.ok v w:=by
 unfold ldO at h;split at h
 ·rename_i c e fz hb
  split at h
  ·rename_i ha
   split at h
   ·rename_i n hs
    split at h
    ·rename_i hn
     simp only[oSi]at h;subst h;simp[loadVar,r_agg ha,qXo hs,qJq hb hn]
    ·cases h
   ·cases h
  ·rename_i ha
   simp only[loadVar,qU,r_agg ha,qY,qD,if_false];exact r_load hb h
  ·cases h
 ·cases h
theorem qQh {o:Obj}(h:w.heap[b]?=some o):b<w.heap.size:=(Array.getElem?_eq_some_iff.1 h).1
@[simp] theorem put_heap_size (w:World) (b:Nat) (o:Obj):(put w b o).heap.size=w.heap.size:=by simp[put]
theorem put_self {o:Obj}(h:w.heap[b]?=some o):put w b o=w:=by
 have h1:=qQh h;have h2:w.heap[b]=o:=by simpa [qB h1] using h
 unfold put
 have:w.heap.setIfInBounds b o=w.heap:=by
  rw[← h2];simp[Array.setIfInBounds,h1]
 rw[this]
theorem put_put (w:World)(b:Nat)(o o':Obj):put (put w b o) b o'=put w b o':=by
 simp[put]
theorem qXt (o:Obj)(h:b<w.heap.size):(put w b o).heap[b]?=some o:=by
 simp[put,h]
theorem qKt {b b':Nat}(o:Obj)(h:b≠b'):(put w b o).heap[b']?=w.heap[b']?:=by
 simp[put,Array.getElem?_setIfInBounds_ne h]
theorem setCell_put {b o:Nat}(v:Value)
  (h:w.heap[b]?=some (.cells c e fz)):w.setCell ⟨b,o,none⟩ v=put w b (.cells (c.setIfInBounds o v) e fz):=by
 have h1:=qQh h;have h2:w.heap[b]=.cells c e fz:=by simpa [qB h1] using h
 unfold World.setCell put
 congr 1
 apply Array.ext_getElem?;intro i;rw[Array.getElem?_modify,Array.getElem?_setIfInBounds]
 by_cases hb:b=i
 ·subst hb;simp[h1,h2]
 ·simp[hb]
theorem one_eq (v:Value):one v=v.oneCell':=by cases v <;> rfl
theorem qKx:∀ (vs:List Value) (o:Nat) (c:Array Value),(qXl vs o c).size=c.size
 | [],_,_=>rfl
 | _::r,o,c=>by simp[qXl,qKx r]
theorem qKb:∀ (vs:List Value) (w:World) (b o i:Nat) (c:Array Value) (e:TypeId), w.heap[b]?=some (.cells c e (0, 0)) →
  o+i+vs.length≤c.size→vs.all one=true →
  (storeCells ⟨b,o,none⟩ vs i).run P w=.ok () (put w b (.cells (qXl vs (o+i) c) e (0,0)))
 | [],w,b,o,i,c,e,h,_,_=>by simp[storeCells,qXl,put_self h]
 | v::r,w,b,o,i,c,e,h,hn,h1=>by
  simp only[List.length_cons]at hn;simp only[List.all_cons,Bool.and_eq_true]at h1;have hlt:o+i<c.size:=by omega
  have hc:w.cell? ⟨b,o+i,none⟩=some c[o+i]:=by rw[cell_blk h];simp[hlt]
  have hf:w.frozen? ⟨b,o+i,none⟩=false:=by simp[World.frozen?,h]
  simp only[storeCells,qU,qKj,run_store P w _ v .plain (by rw[← one_eq];exact h1.1),hc,hf,qD,if_false,qY];rw[setCell_put v h];rw[qKb r _ b o (i+1) (c.setIfInBounds (o+i) v) e (qXt _ (qQh h)) (by simp;omega) h1.2];rw[put_put];simp[qXl,Nat.add_assoc]
theorem r_storeVar {b o:Nat}(h:stO P t w.heap[b]? o v=some ob) :
  (storeVar t ⟨b,o,none⟩ v).run P w=.ok () (put w b ob):=by
 unfold stO at h;split at h
 ·rename_i c e hb
  split at h
  ·rename_i hh
   simp only[oSi]at h;subst h;have:=qKb (P:=P) v.cells.toList w b o 0 c e hb (by simpa using hh.2.1) (by simpa using hh.2.2);simp only[storeVar,qU,qXo hh.1,qY,ne_eq,not_true_eq_false,if_false];simpa using this
  ·cases h
 ·cases h
def plainB (w:World)(b:Nat):Bool:=match w.heap[b]? with | some (.cells _ _ (0,0))=>true | _=>false
def eqPtr (w:World)(x y:Value):Option Bool :=
 match x,y with
 | .pointer none,.pointer b=>some b.isNone
 | .pointer (some _),.pointer none=>some false
 | .pointer (some a),.pointer (some b)=>if a.block=b.block then some (a == b) else if plainB w a.block=true∧plainB w b.block=true then some false else none
 | _,_=>none
theorem plainB_spec (h:plainB w b=true):∃ c e,w.heap[b]?=some (.cells c e (0,0)):=by
 unfold plainB at h;split at h
 ·exact⟨_,_,by assumption⟩
 ·cases h
theorem r_sameAddr {a b:Addr}(hne:a.block≠b.block)(ha:plainB w a.block=true)(hb:plainB w b.block=true) :
  (sameAddr a b).run P w=.ok false w:=by
 obtain⟨c,e,hc⟩:=plainB_spec ha;obtain⟨c',e',hc'⟩:=plainB_spec hb;have f1:∀ n,w.frozen? ⟨a.block,n,a.spot⟩=false:=fun n=>by simp[World.frozen?,hc]
 have f2:∀ n,w.frozen? ⟨b.block,n,b.spot⟩=false:=fun n=>by simp[World.frozen?,hc']
 have f3:∀ n,w.frozen? ⟨a.block,n,none⟩=false:=fun n=>by simp[World.frozen?,hc]
 have f4:∀ n,w.frozen? ⟨b.block,n,none⟩=false:=fun n=>by simp[World.frozen?,hc']
 have f1':=f1 a.off;have f2':=f2 b.off;have s1:w.shape? a.block=some (e,c.size):=by simp[World.shape?,hc]
 have s2:w.shape? b.block=some (e',c'.size):=by simp[World.shape?,hc']
 simp[sameAddr,hne,noView,viewAt,s1,s2,mayBeOne,stringish,f1',f2',f3,f4]
def ptrO (P:Program)(t:TypeId):Option Nat:=match P.underlying t with | some (.pointer e)=>szO P e | _=>none
def cmpR (P:Program)(w:World)(t:TypeId)(c:Bool)(a b:Value):Option Bool :=
 match a,b with
 | .pointer _,.pointer _=>(match ptrO P t with | some n=>if n=0 then none else eqPtr w a b | none=>none)
 | .agg _,.agg _=>if P.eqGuardType P.depth t=true then none else eqV P Op.maxDepth t a b
 | .nilIface,.nilIface=>if qKf P t=true∧c=true then some true else none
 | .nilIface,.iface _ _=>if qKf P t=true then some false else none
 | .iface _ _,.nilIface=>if qKf P t=true then some false else none
 | .slice x _ _,.slice y _ _=>(match slcO P t with | none=>none | some _=>match x,y with | none,y=>some y.isNone | some _,none=>some false | _,_=>none)
 | .map x,.map y=>(match mapO P t with | none=>none | some _=>match x,y with | none,y=>some y.isNone | some _,none=>some false | _,_=>none)
 | _,_=>none
theorem ifaceT_und (h:qKf P t=true):∃ ms,P.underlying t=some (.interface ms):=by
 unfold qKf at h;split at h
 ·exact⟨_,by assumption⟩
 ·cases h
theorem r_eqPtr (d:Nat){e n:Nat}{x y:Value}{r:Bool}(he:P.underlying t=some (.pointer e))(hn:szO P e=some n)(hnz:¬ n=0)
  (h:eqPtr w x y=some r):(Op.equalIn (d+1) t x y).run P w=.ok r w:=by
 unfold eqPtr at h;split at h
 ·simp only[oSi]at h;subst h
  simp[Op.equalIn,r_und he]
 ·simp only[oSi]at h;subst h
  simp[Op.equalIn,r_und he]
 ·rename_i a b
  split at h
  ·rename_i hb
   simp only[oSi]at h;subst h;simp[Op.equalIn,r_und he,qXo hn,hnz,sameAddr,hb]
  ·rename_i hb
   split at h
   ·rename_i hp
    simp only[oSi]at h;subst h;simp[Op.equalIn,r_und he,qXo hn,hnz,r_sameAddr hb hp.1 hp.2]
   ·cases h
 ·cases h
theorem r_eqIf (d:Nat)(ms:Array (String × TypeId))(hms:P.underlying t=some (.interface ms)) :
  (Op.equalIn (d+1) t .nilIface .nilIface).run P w=.ok true w∧(∀ u v,(Op.equalIn (d+1) t .nilIface (.iface u v)).run P w=.ok false w) ∧
  (∀ u v,(Op.equalIn (d+1) t (.iface u v) .nilIface).run P w=.ok false w):=by
 refine⟨?_,fun u v=>?_,fun u v=>?_⟩ <;> simp[Op.equalIn,r_und hms]
theorem r_eqSl (d:Nat)(h:P.underlying t=some (.slice e))(y:Option Addr)(a b c e':Nat) :
  (Op.equalIn (d+1) t (.slice none a b) (.slice y c e')).run P w=.ok y.isNone w ∧
  (∀ x,(Op.equalIn (d+1) t (.slice (some x) a b) (.slice none c e')).run P w=.ok false w):=by
 refine⟨?_,fun x=>?_⟩ <;> simp[Op.equalIn,r_und h]
theorem r_eqMp (d:Nat){t k e:TypeId}(h:P.underlying t=some (.map k e))(y:Option Nat) :
  (Op.equalIn (d+1) t (.map none) (.map y)).run P w=.ok y.isNone w ∧
  (∀ x,(Op.equalIn (d+1) t (.map (some x)) (.map none)).run P w=.ok false w):=by
 refine⟨?_,fun x=>?_⟩ <;> simp[Op.equalIn,r_und h]
theorem qKg (t:TypeId)(a b:Value):Op.equal t a b=Op.equalIn (9999+1) t a b:=rfl
theorem r_cmp {x y:Operand}{a b:Value}{r:Bool}{op:BinOp}(hop:op=.eql∨op=.neq)
  (h:cmpR P w t ((x matches .const _) || (y matches .const _)) a b=some r) :
  (do eqGuard op t x y a b;binOp op t a b:Sem Value).run P w=.ok (.bool (if op=.eql then r else !r)) w:=by
 have key:(eqGuard op t x y a b).run P w=.ok () w∧(Op.equal t a b).run P w=.ok r w ∧
   (binOp .eql t a b=(do pure (.bool (← Op.equal t a b))))∧(binOp .neq t a b=(do pure (.bool (!(← Op.equal t a b))))):=by
  unfold cmpR at h;split at h
  ·rename_i p q
   split at h
   ·rename_i n hn
    unfold ptrO at hn;split at hn
    ·rename_i e he
     split at h
     ·cases h
     ·rename_i hnz
      refine⟨by rcases hop with rfl | rfl <;> simp[eqGuard],?_,by cases p <;> cases q <;> rfl,by cases p <;> cases q <;> rfl⟩;rw[qKg];exact r_eqPtr _ he hn hnz h
    ·cases hn
   ·cases h
  ·split at h
   ·cases h
   ·rename_i hg
    refine⟨by rcases hop with rfl | rfl <;> simp[eqGuard,hg],?_,rfl,rfl⟩;exact r_eqV _ _ _ _ _ h w
  ·simp only[Option.ite_none_right_eq_some,oSi]at h
   obtain⟨hh,rfl⟩:=h
   ·obtain⟨ms,hms⟩:=ifaceT_und hh.1
    refine⟨?_,by rw[qKg];exact (r_eqIf _ ms hms).1,rfl,rfl⟩;have:=hh.2
    rcases hop with rfl | rfl <;> simp only[eqGuard] <;> cases x <;> cases y <;> simp_all
  ·split at h
   ·rename_i hh
    obtain⟨ms,hms⟩:=ifaceT_und hh;simp only[oSi]at h;subst h;exact⟨by rcases hop with rfl | rfl <;> simp[eqGuard],by rw[qKg];exact (r_eqIf _ ms hms).2.1 _ _,rfl,rfl⟩
   ·cases h
  ·split at h
   ·rename_i hh
    obtain⟨ms,hms⟩:=ifaceT_und hh;simp only[oSi]at h;subst h;exact⟨by rcases hop with rfl | rfl <;> simp[eqGuard],by rw[qKg];exact (r_eqIf _ ms hms).2.2 _ _,rfl,rfl⟩
   ·cases h
  ·split at h
   ·cases h
   ·rename_i e he
    refine⟨by rcases hop with rfl | rfl <;> simp[eqGuard],?_,rfl,rfl⟩;split at h
    ·simp only[oSi]at h;subst h;rw[qKg];exact (r_eqSl _ (qXu he) _ _ _ _ _).1
    ·simp only[oSi]at h;subst h;rw[qKg];exact (r_eqSl _ (qXu he) none _ _ _ _).2 _
    ·cases h
  ·split at h
   ·cases h
   ·rename_i ke hke
    obtain⟨k,e⟩:=ke;refine⟨by rcases hop with rfl | rfl <;> simp[eqGuard],?_,rfl,rfl⟩;split at h
    ·simp only[oSi]at h;subst h;rw[qKg];exact (r_eqMp _ (mapO_und hke) _).1
    ·simp only[oSi]at h;subst h;rw[qKg];exact (r_eqMp _ (mapO_und hke) none).2 _
    ·cases h
  ·cases h
 obtain⟨h1,h2,h3,h4⟩:=key
 rcases hop with rfl | rfl
 ·simp[h1,h3,h2]
 ·simp[h1,h4,h2]
end
section
variable {P:Program}
def ckV (P:Program):Nat→TypeId→Value→Bool
 | 0,_,_=>false
 | d+1,t,v =>
  match P.underlying t,v with
  | some .bool,_ | some (.int _),_ | some .string,_ | some (.pointer _),_=>true
  | some (.struct fs), .agg cs => fs.toList.all fun f => if f.name = "_" then true else match partO P f.type cs f.offset with | some u => ckV P d f.type u | none => false
  | some (.array n e),.agg cs=>match szO P e with | some s=>(List.range n).all fun i=>(match partO P e cs (i*s) with | some u=>ckV P d e u | none=>false) | none=>false
  | _,_=>false
theorem r_forUnit {α:Type}(B:α→Unit→Sem (ForInStep Unit))(w:World) :
  ∀ (l:List α),(∀ x ∈ l,(B x ()).run P w=.ok (.yield ()) w)→(forIn (m:=Sem) l () B).run P w=.ok () w
 | [],_=>by simp
 | x::l,h=>by
  simp only[List.forIn_cons,qU,h x (by simp),qY];exact r_forUnit B w l fun y hy=>h y (by simp[hy])
theorem r_ckV (emp:Bool):∀ (d:Nat) (t:TypeId) (v:Value),ckV P d t v=true→∀ w,(Instr.checkKey emp d t v).run P w=.ok () w:=by
 intro d
 induction d with
 | zero=>intro t v h;cases h
 | succ d ih =>
  intro t v h w;unfold ckV at h;split at h
  ·rename_i hu;simp only[Instr.checkKey,qU,r_und hu,qY];simp
  ·rename_i hu;simp only[Instr.checkKey,qU,r_und hu,qY];simp
  ·rename_i hu;simp only[Instr.checkKey,qU,r_und hu,qY];simp
  ·rename_i hu;simp only[Instr.checkKey,qU,r_und hu,qY];simp
  ·rename_i fs cs hu
   simp only[Instr.checkKey,qU,r_und hu,qY];rw[← Array.forIn_toList,r_forUnit]
   ·simp
   ·intro f hf
    have:=List.all_eq_true.1 h f hf;split at this
    ·rename_i hn;simp[hn]
    ·rename_i hn
     split at this
     ·rename_i u hu'
      simp[hn,r_part hu',ih _ _ this]
     ·cases this
  ·rename_i n e cs hu
   simp only[Instr.checkKey,qU,r_und hu,qY];split at h
   ·rename_i s hs
    rw[Std.Legacy.Range.forIn_eq_forIn_range',r_forUnit]
    ·simp
    ·intro i hi
     have hi':i ∈ List.range n:=by simpa [Std.Legacy.Range.size,List.range_eq_range'] using hi
     have:=List.all_eq_true.1 h i hi';split at this
     ·rename_i u hu'
      simp[qXo hs,r_part hu',ih _ _ this]
     ·cases this
   ·cases h
  ·cases h
def mapEs (w:World)(m:Value):Option (List MapEntry) :=
 match m with
 | .map none=>some []
 | .map (some r)=>(match w.heap[r]? with | some (.map es _)=>some es.toList | _=>none)
 | _=>none
def findV (P:Program)(kt:TypeId)(k:Value):List MapEntry→Nat→Option (Option (Nat × Value))
 | [],_=>some none
 | e::es,i =>
  match eqV P Op.maxDepth kt k e.key with
  | some true=>some (some (i,e.val))
  | some false=>findV P kt k es (i+1)
  | none=>none
theorem eqV_now {d:TypeDesc}{a b:Value}{x y:Bool}(hu:P.underlying kt=some d)(h:Instr.sameNow d a b=some x)(h':eqV P Op.maxDepth kt a b=some y):x=y:=by
 have e:eqV P Op.maxDepth kt a b=eqV P (9999+1) kt a b:=rfl;rw[e]at h';unfold eqV at h';unfold Instr.sameNow at h;rw[hu]at h';split at h
 ·split at h
  ·rename_i hk;simp_all
  ·cases h
 ·simp_all
 ·simp_all
 ·cases h
theorem findNow_eq {kt:TypeId}{d:TypeDesc}{k:Value}(hu:P.underlying kt=some d):∀ (es:List MapEntry) (i:Nat) (r r':Option (Nat × Value)),
  findV P kt k es i=some r→Instr.findNow d k es i=some r'→r'=r
 | [],i,r,r',h,h'=>by simp[findV]at h;simp[Instr.findNow]at h';rw[← h',← h]
 | e::es,i,r,r',h,h'=>by
  unfold findV at h;unfold Instr.findNow at h'
  cases hn:Instr.sameNow d k e.key with
  | none=>rw[hn]at h';cases h'
  | some x =>
   rw[hn]at h'
   cases hv:eqV P Op.maxDepth kt k e.key with
   | none=>rw[hv]at h;cases h
   | some y =>
    rw[hv]at h;have:=eqV_now hu hn hv;subst this;cases x
    ·exact findNow_eq hu es (i+1) r r' h h'
    ·simp only[oSi]at h h';rw[← h',← h]
theorem findAsking_eq {kt:TypeId}{k:Value}(w:World):∀ (es:List MapEntry) (i:Nat) (r:Option (Nat × Value)),
  findV P kt k es i=some r→(Instr.findAsking kt k es i).run P w=.ok r w
 | [],i,r,h=>by simp[findV]at h;simp[Instr.findAsking,h]
 | e::es,i,r,h=>by
  unfold findV at h;split at h
  ·rename_i hv
   simp only[oSi]at h;subst h;simp[Instr.findAsking,Op.equal,r_eqV _ _ _ _ _ hv]
  ·rename_i hv
   simp[Instr.findAsking,Op.equal,r_eqV _ _ _ _ _ hv,findAsking_eq w es (i+1) r h]
  ·cases h
theorem r_findKey {d:TypeDesc}{es:List MapEntry}{r:Option (Nat × Value)}(hu:P.underlying kt=some d)(h:findV P kt k es 0=some r)(w:World) :
  (Instr.findKey kt k es).run P w=.ok r w:=by
 simp only[Instr.findKey,qU,r_und hu,qY]
 cases hn:Instr.findNow d k es 0 with
 | none=>simp only[];exact findAsking_eq w es 0 r h
 | some r'=>simp[findNow_eq hu es 0 r r' h hn]
theorem ckV_und {d:Nat}(h:ckV P d t v=true):∃ u,P.underlying t=some u:=by
 cases d with
 | zero=>cases h
 | succ d =>
  unfold ckV at h
  cases hu:P.underlying t with
  | none=>simp[hu]at h
  | some u=>exact⟨u,rfl⟩
def getK (P:Program)(kt:TypeId)(es:List MapEntry)(k:Value):Option (Option (Nat × Value)) :=
 if ckV P 10000 kt k=true then findV P kt k es 0 else none
def lookO (P:Program)(t:TypeId)(w:World)(m k:Value):Option (Value × Bool) :=
 (mapO P t).bind fun p=>(mapEs w m).bind fun es=>(getK P p.1 es k).bind fun r=>match r with
  | some (_,v)=>some (v,true)
  | none=>(zeroO P p.2).map fun z=>(z,false)
theorem r_getObj {es:Array MapEntry}{c:Nat}(h:w.heap[r]?=some (.map es c)):(getObj r).run P w=.ok (.map es c) w:=by
 simp[getObj,Sem.run,h]
theorem r_setObj {es:Array MapEntry}{c:Nat}{o:Obj}(h:w.heap[r]?=some (.map es c)):(setObj r o).run P w=.ok () (put w r o):=by
 simp[setObj,Sem.run,h,put]
theorem r_look {m k v:Value}{b ok:Bool}(h:lookO P t w m k=some (v, b)) :
  (Instr.lookup t m k ok).run P w=.ok (if ok=true then .tuple #[v,.bool b] else v) w:=by
 unfold lookO at h;simp only[qZ]at h;obtain⟨⟨kt,et⟩,hm,es,hes,r,hr,h⟩:=h;unfold getK at hr;split at hr
 ·rename_i hck
  obtain⟨d,hd⟩:=ckV_und hck;simp only at hd hck hr h;unfold mapEs at hes;split at hes
  ·simp only[oSi]at hes
   subst hes;simp only[Instr.lookup,qU,r_und (mapO_und hm),qY,qG,r_ckV _ _ _ _ hck,r_findKey hd hr]
   cases r with
   | none =>
    simp only[qJ,Prod.mk.injEq]at h;obtain⟨z,hz,rfl,rfl⟩:=h;simp[r_zero hz]
   | some iv =>
    obtain⟨i,u⟩:=iv;simp only[oSi,Prod.mk.injEq]at h;obtain⟨rfl,rfl⟩:=h
    simp
  ·rename_i r'
   split at hes
   ·rename_i es' c' hb
    simp only[oSi]at hes;subst hes;simp only[Instr.lookup,qU,r_und (mapO_und hm),qY,r_getObj hb,qG,r_ckV _ _ _ _ hck,r_findKey hd hr]
    cases r with
    | none =>
     simp only[qJ,Prod.mk.injEq]at h;obtain⟨z,hz,rfl,rfl⟩:=h;simp[r_zero hz]
    | some iv =>
     obtain⟨i,u⟩:=iv;simp only[oSi,Prod.mk.injEq]at h;obtain⟨rfl,rfl⟩:=h
     simp
   ·cases hes
  ·cases hes
 ·cases hr
def putE (P:Program)(kt:TypeId)(ob:Option Obj)(k v:Value):Option Obj :=
 match ob with
 | some (.map es c)=>(getK P kt es.toList k).bind fun r=>match r with
  | some (i,_)=>if Instr.sameBits 10000 (((es[i]?).map (·.key)).getD k) k=true then some (.map (es.modify i fun e=>{ e with key:=k,val:=v }) c) else none
  | none=>some (.map (es.push { key:=k,val:=v,born:=c }) (c+1))
 | _=>none
theorem r_mapUpdate {t kt et:TypeId}(hm:mapO P t=some (kt, et))(h:putE P kt w.heap[r]? k v=some ob) :
  (Instr.mapUpdate t (.map (some r)) k v).run P w=.ok () (put w r ob):=by
 unfold putE at h;split at h
 ·rename_i es c hb
  simp only[qZ]at h;obtain⟨q,hr,h⟩:=h;unfold getK at hr;split at hr
  ·rename_i hck
   obtain⟨d,hd⟩:=ckV_und hck;simp only[Instr.mapUpdate,qU,r_und (mapO_und hm),qY,r_getObj hb,r_ckV _ _ _ _ hck,r_findKey hd hr]
   cases q with
   | none=>simp only[oSi]at h;subst h;exact r_setObj hb
   | some iv =>
    obtain⟨i,u⟩:=iv;simp only at h;split at h
    ·rename_i hs
     simp only[oSi]at h;subst h;simp only[Instr.keyThatStays,hs,if_true,qU,qG,qY];exact r_setObj hb
    ·cases h
  ·cases hr
 ·cases h
def delE (P:Program)(kt:TypeId)(ob:Option Obj)(k:Value):Option Obj :=
 match ob with
 | some (.map es c)=>(getK P kt es.toList k).map fun r=>match r with
  | some (i,_)=>.map (es.eraseIdxIfInBounds i) c
  | none=>.map es c
 | _=>none
def isC (x:Operand):Bool:=x matches .const _
def stepR (P:Program)(ev:Ev)(w:World)(op:Op):Option Value :=
 match op with
 | .load t x=>match evO ev x with | .pointer (some ⟨b,o,none⟩)=>rdO P t w b o | _=>none
 | .binOp op t x y _=>match op with
  | .eql=>(cmpR P w t (isC x || isC y) (evO ev x) (evO ev y)).map fun r=>.bool r
  | .neq=>(cmpR P w t (isC x || isC y) (evO ev x) (evO ev y)).map fun r=>.bool !r
  | _=>none
 | .lookup t m k ok=>(lookO P t w (evO ev m) (evO ev k)).map fun p=>if ok=true then .tuple #[p.1,.bool p.2] else p.1
 | .typeAssert x _ t ok=>match evO ev x with
  | .iface u v=>if qKf P t=true then none else (aggO P t).bind fun _=>if u=t then some (if ok=true then .tuple #[v,.bool true] else v) else if ok=true then (zeroO P t).map fun z=>.tuple #[z,.bool false] else none
  | .nilIface=>if ok=true then (aggO P t).bind fun _=>(zeroO P t).map fun z=>.tuple #[z,.bool false] else none
  | _=>none
 | _=>none
theorem stepR_sound {a:Act}{o:Oper}(h:stepR P (evOf a) w o.op=some v):(execOp a.eval o).run P w=.ok (.value v) w:=by
 obtain⟨dst,op,ty,pos,after,guard⟩:=o;unfold stepR at h;simp only at h
 split at h <;> simp only[execOp,qU,qXb]
 ·split at h
  ·rename_i b o hx
   simp[Instr.loadAt,hx,Instr.sureAddr,r_loadVar h]
  ·cases h
 ·rename_i bop t x y z
  split at h
  ·simp only[qJ]at h
   obtain⟨r,hr,rfl⟩:=h;have:=r_cmp (op:=.eql) (.inl rfl) hr;simp only[qU]at this;rw[this];simp
  ·simp only[qJ]at h
   obtain⟨r,hr,rfl⟩:=h;have:=r_cmp (op:=.neq) (.inr rfl) hr;simp only[qU]at this;rw[this];simp
  ·cases h
 ·simp only[qJ]at h
  obtain⟨⟨u,b⟩,hl,rfl⟩:=h;simp[r_look hl]
 ·rename_i x xt t ok
  split at h
  ·rename_i u v' hx
   split at h
   ·cases h
   ·rename_i hni
    simp only[qZ]at h;obtain⟨b,hb,h⟩:=h;obtain⟨d,hd⟩:=aggO_und hb;simp only[qKf,hd]at hni;have hni':∀ ms,d≠.interface ms:=by intro ms he;subst he;simp at hni
    split at h
    ·rename_i hut
     simp only[oSi]at h;subst h;simp only[Instr.typeAssert,qU,r_und hd,qY,hx]
     cases d <;> simp_all
    ·rename_i hut
     split at h
     ·rename_i hok
      simp only[qJ]at h;obtain⟨z,hz,rfl⟩:=h;simp only[Instr.typeAssert,qU,r_und hd,qY,hx]
      cases d <;> simp_all [r_zero hz]
     ·cases h
  ·rename_i hx
   split at h
   ·rename_i hok
    simp only[qZ,qJ]at h;obtain⟨b,hb,z,hz,rfl⟩:=h;obtain⟨d,hd⟩:=aggO_und hb;simp only[Instr.typeAssert,qU,r_und hd,qY,hx]
    cases d <;> simp_all [r_zero hz]
   ·cases h
  ·cases h
 ·cases h
end
section
variable {P:Program}
def Fn (P:Program)(f:FuncId)(args:Array Value)(w:World)(K:Value→World→Prop):Prop :=
 Calls P f args w fun e w'=>match e with | .returned v=>K v w' | _=>False
theorem Fn.mono (h:Fn P f args w K)(hk:∀ v w',K v w'→K' v w'):Fn P f args w K' :=
 Calls.mono h fun e w'=>by cases e <;> simp only[] <;> first | exact hk _ _ | exact id
theorem Fn.some (h:Fn P f args w K):∃ v w',K v w':=by
 obtain⟨e,w',fr,hR,_⟩:=h []
 cases e with
 | returned v=>exact⟨v,w',hR⟩
 | panicked c=>exact hR.elim
 | outgrown=>exact hR.elim
def outE (P:Program)(s:Sem Next)(w:World)(K:Value→World→Prop):Prop :=
 match s.run P w with
 | .ok (.value v) w'=>K v w'
 | .ok .skip w'=>K undef w'
 | .ok (.enter f args) w'=>Fn P f args w' K
 | _=>False
theorem qZr {s:Sem Next}(hk:∀ v w',K v w'→K' v w')(h:outE P s w K):outE P s w K':=by
 unfold outE at *;split at h
 ·exact hk _ _ h
 ·exact hk _ _ h
 ·exact h.mono hk
 ·exact h.elim
theorem outE_some {s:Sem Next}(h:outE P s w K):∃ v w',K v w':=by
 unfold outE at h;split at h
 ·exact⟨_,_,h⟩
 ·exact⟨_,_,h⟩
 ·exact h.some
 ·exact h.elim
theorem wp_of_outE {o:Oper}{a:Act}{N:Act→World→Prop}{Q:Exit→Act→World→Prop}(h:outE P (execOp a.eval o) w K)
  (hk:∀ v w',K v w'→N (a.put o.dst v) w'):o.wp P a w N Q:=by
 unfold outE at h;unfold Oper.wp;split at h
 ·rename_i hr;rw[hr];exact hk _ _ h
 ·rename_i hr;rw[hr];exact hk _ _ h
 ·rename_i hr;rw[hr]
  refine Calls.mono h fun e w' he=>?_
  cases e with
  | returned v=>exact hk _ _ he
  | panicked c=>exact he.elim
  | outgrown=>exact he.elim
 ·exact h.elim
def zrow (z:List Value)(n:Nat):Array Value:=(List.replicate n z).flatten.toArray
def stepE (P:Program)(ev:Ev)(w:World)(op:Op):Option (Value × World) :=
 match op with
 | .alloc t=>(zeroO P t).map fun z=>(.pointer (some ⟨w.heap.size,0,none⟩),w.alloc (.cells z.cells t))
 | .box t x=>some (.pointer (some ⟨w.heap.size,0,none⟩),w.alloc (.cells (evO ev x).cells t))
 | .buildSlice t n parts=>(slcO P t).bind fun e=>(szO P e).bind fun s=>(zeroO P e).bind fun z =>
   if n*s≤2 ^ 24∧0<s∧z.cells.size=s then
    (Instr.fill (fun i=>some (i*s,s)) (zrow z.cells.toList n) (parts.toList.map fun p=>(p.1,evO ev p.2))).map fun cells =>
     (.slice (some ⟨w.heap.size,0,none⟩) n n,w.alloc (.cells cells e))
   else none
 | .store t x v=>match evO ev x with
  | .pointer (some ⟨b,o,none⟩)=>(wrO P t w b o (evO ev v)).map fun w'=>(undef,w')
  | _=>none
 | .makeMap _ none=>some (.map (some w.heap.size),w.alloc (.map #[] 0))
 | .mapUpdate t m k x | .insert t m k x=>match evO ev m with
  | .map (some r)=>(mapO P t).bind fun p=>(putE P p.1 w.heap[r]? (evO ev k) (evO ev x)).map fun ob=>(undef,put w r ob)
  | _=>none
 | _=>none
theorem zrow_eq (z:Array Value)(n s:Nat)(hs:z.size=s):(qH (n*s)).map (fun i=>z[i % z.size]!)=zrow z.toList n:=by
 apply Array.toList_inj.1;simp only[qF,Array.toList_range,zrow]
 induction n with
 | zero=>simp
 | succ n ih =>
  rw[Nat.succ_mul,List.range_add,List.map_append,ih,List.replicate_succ',List.flatten_append]
  congr 1
  simp only[List.map_map,List.flatten_cons,List.flatten_nil,List.append_nil];apply List.ext_getElem
  ·simp[hs]
  ·intro i h1 h2
   simp only[List.length_map,List.length_range]at h1
   have:(n*s+i) % z.size=i:=by
    rw[hs,Nat.add_comm,Nat.mul_comm,Nat.add_mul_mod_self_left,Nat.mod_eq_of_lt h1]
   simp only[List.getElem_map,List.getElem_range,Function.comp_apply,this];simp[hs,h1]
theorem stepE_sound {a:Act}{o:Oper}(h:okO (stepE P (evOf a) w o.op) fun p=>K p.1 p.2):outE P (execOp a.eval o) w K:=by
 obtain⟨⟨v,w'⟩,hs,hk⟩:=qKe h;obtain⟨dst,op,ty,pos,after,guard⟩:=o;unfold stepE at hs;simp only at hs hk;unfold outE
 split at hs <;> simp only[execOp,qXb]
 ·simp only[qJ,Prod.mk.injEq]at hs
  obtain⟨z,hz,rfl,rfl⟩:=hs;simpa [Instr.alloc,r_zero hz,newVar,newRow] using hk
 ·simp only[oSi,Prod.mk.injEq]at hs
  obtain⟨rfl,rfl⟩:=hs;simpa [Instr.box,newVar,newRow] using hk
 ·rename_i t n parts
  simp only[qZ]at hs;obtain⟨e,he,s,hsz,z,hz,hs⟩:=hs;split at hs
  ·rename_i hc
   simp only[qJ,Prod.mk.injEq]at hs;obtain⟨cells,hf,rfl,rfl⟩:=hs;have hp:(parts.map fun x:Nat × Operand=>(x.1,evO (evOf a) x.2)).toList=(parts.toList.map fun p=>(p.1,evO (evOf a) p.2)):=qF;have hz':=zrow_eq z.cells n s hc.2.2;have h24:¬ (n*s > 2 ^ 24):=by omega
   have key:(Instr.buildSlice t n (parts.map fun x:Nat × Operand=>(x.1,evO (evOf a) x.2))).run P w=.ok (.slice (some ⟨w.heap.size,0,none⟩) n n) (w.alloc (.cells cells e)):=by
    simp only[Instr.buildSlice,qU,r_und (qXu he),qY,qXo hsz,h24,if_false]
    by_cases h0:n*s=0
    ·have hn:n=0:=by
      rcases Nat.mul_eq_zero.1 h0 with h | h
      ·exact h
      ·omega
     subst hn
     have hf':∀ z':Array Value,Instr.fill (fun i=>some (i*s,s)) ((qH (0*s)).map fun i=>z'[i % z'.size]!) (parts.map fun x:Nat × Operand=>(x.1,evO (evOf a) x.2)).toList=some cells:=fun z'=>by
      have e1:(qH (0*s)).map (fun i=>z'[i % z'.size]!)=#[]:=by rw[Nat.zero_mul];simp
      have e2:zrow z.cells.toList 0=#[]:=rfl;rw[hp,e1,← e2,hf]
     simp only[h0,if_true];rw[← h0];simp only[hf'];simp[newRow]
    ·have hf':Instr.fill (fun i=>some (i*s, s)) ((qH (n*s)).map fun i=>z.cells[i % z.cells.size]!) (parts.map fun x:Nat × Operand=>(x.1, evO (evOf a) x.2)).toList=some cells:=by
      rw[hp,hz',hf]
     simp only[h0,if_false,qU,r_zero hz,qY,qG];simp only[hf'];simp[newRow]
   simp only[qU,key,qY,qG];exact hk
  ·cases hs
 ·rename_i t x v'
  split at hs
  ·rename_i b o hx
   simp only[wrO,qJ,Prod.mk.injEq]at hs;obtain⟨_,⟨ob,hob,rfl⟩,rfl,rfl⟩:=hs;simpa [Instr.storeAt,hx,Instr.sureAddr,r_storeVar hob] using hk
  ·cases hs
 ·simp only[oSi,Prod.mk.injEq]at hs
  obtain⟨rfl,rfl⟩:=hs;simpa [Instr.makeMap] using hk
 ·rename_i t m k x
  split at hs
  ·rename_i r hm
   simp only[qZ,qJ,Prod.mk.injEq]at hs;obtain⟨⟨kt,et⟩,hmo,ob,hob,rfl,rfl⟩:=hs;simpa [hm,r_mapUpdate hmo hob] using hk
  ·cases hs
 ·rename_i t m k x
  split at hs
  ·rename_i r hm
   simp only[qZ,qJ,Prod.mk.injEq]at hs;obtain⟨⟨kt,et⟩,hmo,ob,hob,rfl,rfl⟩:=hs;simpa [hm,r_mapUpdate hmo hob] using hk
  ·cases hs
 ·cases hs
def SemD (P:Program)(s:Sem Value)(w:World)(K:Value→World→Prop):Prop:=∃ v w',s.run P w=.ok v w'∧K v w'
def AppD (P:Program)(ts:Array TypeId)(x y:Value)(w:World)(K:Value→World→Prop):Prop:=SemD P (qN ts 0 #[x,y]) w K
def DelD (P:Program)(ts:Array TypeId)(m k:Value)(w:World)(K:Value→World→Prop):Prop:=SemD P (qM ts 0 #[m,k]) w K
def CopyD (P:Program)(ts:Array TypeId)(x y:Value)(w:World)(K:Value→World→Prop):Prop:=SemD P (Builtin.copy_ ts 0 #[x,y]) w K
def ConvD (P:Program)(s d:TypeId)(x:Value)(w:World)(K:Value→World→Prop):Prop:=SemD P (convert s d x) w K
def cvP (P:Program)(s d:TypeId):Bool:=(intO P d).isSome || (strO P s && strO P d)
def biK (P:Program)(b:Builtin)(ts:Array TypeId):Bool :=
 match b with
 | .min | .max | .cap=>true
 | .len=>(ts[0]?.bind (mapO P)).isNone
 | _=>false
def dcall (P:Program)(c:Call)(ev:Ev)(w:World)(K:Value→World→Prop):Prop :=
 match c.callee with
 | .value f=>match evO ev f with
  | .func (.func g) fs cs=>qQe P g=true∧Fn P g (fs++c.args.map (evO ev)++cs) w K
  | _=>False
 | .builtin b =>
  if biK P b c.argTypes=true then okO (biP P b c.argTypes (c.args.toList.map (evO ev))) fun v=>K v w else
  match b,c.args.toList with
  | .append,[x,y]=>AppD P c.argTypes (evO ev x) (evO ev y) w K
  | .delete,[x,y]=>DelD P c.argTypes (evO ev x) (evO ev y) w K
  | .copy,[x,y]=>CopyD P c.argTypes (evO ev x) (evO ev y) w K
  | .len,[x]=>SemD P (Builtin.len_ c.argTypes 0 #[evO ev x]) w K
  | .clear,[x]=>SemD P (Builtin.clear_ c.argTypes 0 #[evO ev x]) w K
  | _,_=>False
 | .invoke r m=>match evO ev r with
  | .iface t v=>∃ f u,(method (P.types.size+Made.depth) t v m).run P w=.ok (f,u) w∧qQe P f=true∧Fn P f (#[u]++c.args.map (evO ev)) w K
  | _=>False
theorem qJr {s:Sem Value}(h:SemD P s w K):outE P (do pure (.value (← s))) w K:=by
 obtain⟨v,w',hr,hk⟩:=h;simp only[outE,qU,hr,qY,qG];exact hk
theorem callFunc_plain {g:FuncId}(args:Array Value)(h:qQe P g=true)(w:World):(callFunc g args).run P w=.ok (.enter g args) w:=by
 unfold qQe at h;split at h
 ·rename_i fn hf
  simp only[Bool.and_eq_true,bne_iff_ne]at h;obtain⟨h1,h2⟩:=h
  have h2':fn.body.isNone=false:=by cases hb:fn.body <;> simp_all
  simp only[callFunc,qU,run_program,qY,hf];rw[if_neg (by simpa using h1),if_neg (by simp[h2'])]
  simp
 ·cases h
theorem dcall_sound {a:Act}{dst:Option Tmp}{ty:TypeId}{pos:String}{after:Array Edge}{guard:Option (Nat × Bool)}{c:Call}
  (h:dcall P c (evOf a) w K):outE P (execOp a.eval { dst,op:=.call c,type:=ty,pos,after,guard }) w K:=by
 unfold dcall at h;split at h
 ·rename_i f hf
  split at h
  ·rename_i g fs cs hg
   obtain⟨h1,h2⟩:=h;simp only[outE,execOp,qXb,qU,resolve,hf,Deferred.ofValue,hg,qG,qY,invoke,callFunc_plain _ h1];exact h2
  ·exact h.elim
 ·rename_i b hb
  split at h
  ·obtain⟨v,hv,hk⟩:=qKe h
   have:=fun cons=>r_biP (ty:=ty) (cons:=cons) hv w
   have e:(c.args.toList.map (evO (evOf a))).toArray=c.args.map (evO (evOf a)):=by
    apply Array.toList_inj.1;rw[qF]
   rw[e]at this;simp only[outE,execOp,qXb,qU,resolve,hb,qG,qY,invoke,this];exact hk
  ·have toA:∀ l:List Operand, c.args.toList=l→c.args.map (evO (evOf a))=(l.map (evO (evOf a))).toArray:=by
    intro l hl;apply Array.toList_inj.1;rw[qF,hl]
   split at h
   ·rename_i x y hxy _
    obtain⟨v,w',hr,hk⟩:=h;have hr':(qN c.argTypes ty #[evO (evOf a) x,evO (evOf a) y]).run P w=.ok v w':=hr;simp only[outE,execOp,qXb,qU,resolve,hb,qG,qY,invoke,toA _ hxy,qP,qR,builtin,hr'];exact hk
   ·rename_i x y hxy _
    obtain⟨v,w',hr,hk⟩:=h;have hr':(qM c.argTypes ty #[evO (evOf a) x,evO (evOf a) y]).run P w=.ok v w':=hr;simp only[outE,execOp,qXb,qU,resolve,hb,qG,qY,invoke,toA _ hxy,qP,qR,builtin,hr'];exact hk
   ·rename_i x y hxy _
    obtain⟨v,w',hr,hk⟩:=h;have hr':(Builtin.copy_ c.argTypes ty #[evO (evOf a) x,evO (evOf a) y]).run P w=.ok v w':=hr;simp only[outE,execOp,qXb,qU,resolve,hb,qG,qY,invoke,toA _ hxy,qP,qR,builtin,hr'];exact hk
   ·rename_i x hxy _
    obtain⟨v,w',hr,hk⟩:=h;have hr':(Builtin.len_ c.argTypes ty #[evO (evOf a) x]).run P w=.ok v w':=hr;simp only[outE,execOp,qXb,qU,resolve,hb,qG,qY,invoke,toA _ hxy,qP,qR,builtin,hr'];exact hk
   ·rename_i x hxy _
    obtain⟨v,w',hr,hk⟩:=h;have hr':(Builtin.clear_ c.argTypes ty #[evO (evOf a) x]).run P w=.ok v w':=hr;simp only[outE,execOp,qXb,qU,resolve,hb,qG,qY,invoke,toA _ hxy,qP,qR,builtin,hr'];exact hk
   ·exact h.elim
 ·rename_i r m hm
  split at h
  ·rename_i t v hv
   obtain⟨f,u,h1,h2,h3⟩:=h
   have e:(#[evO (evOf a) r]++c.args.map (evO (evOf a))).extract 1 (#[evO (evOf a) r]++c.args.map (evO (evOf a))).size=c.args.map (evO (evOf a)):=by
    apply Array.toList_inj.1;simp only[Array.toList_extract,Array.toList_append,qF,List.extract_eq_take_drop];simp only[List.singleton_append,List.drop_succ_cons,List.drop_zero];exact List.take_of_length_le (by simp)
   have e0:(#[evO (evOf a) r]++c.args.map (evO (evOf a)))[0]?=some (.iface t v):=by
    rw[Array.getElem?_append];simp[hv]
   simp only[outE,execOp,qXb,qU,resolve,hm,qG,qY,invoke,e0,e,callMethod,run_program,h1,callFunc_plain _ h2];exact h3
  ·exact h.elim
end
section
variable {P:Program}
def dop (P:Program)(op:Op)(ty:TypeId)(ev:Ev)(w:World)(K:Value→World→Prop):Prop :=
 match op with
 | .load t x=>okO (stepR P ev w (.load t x)) fun v=>K v w
 | .lookup t m k ok=>okO (stepR P ev w (.lookup t m k ok)) fun v=>K v w
 | .typeAssert x xt t ok=>okO (stepR P ev w (.typeAssert x xt t ok)) fun v=>K v w
 | .binOp op t x y z=>if flatT P t=true then okO (stepP P ev (.binOp op t x y z)) fun v=>K v w else okO (stepR P ev w (.binOp op t x y z)) fun v=>K v w
 | .convert s d x=>if cvP P s d=true then okO (stepP P ev (.convert s d x)) fun v=>K v w else ConvD P s d (evO ev x) w K
 | .alloc t=>okO (stepE P ev w (.alloc t)) fun p=>K p.1 p.2
 | .box t x=>okO (stepE P ev w (.box t x)) fun p=>K p.1 p.2
 | .buildSlice t n ps=>okO (stepE P ev w (.buildSlice t n ps)) fun p=>K p.1 p.2
 | .store t x v=>okO (stepE P ev w (.store t x v)) fun p=>K p.1 p.2
 | .makeMap t none=>okO (stepE P ev w (.makeMap t none)) fun p=>K p.1 p.2
 | .makeMap t (some r)=>SemD P (Instr.makeMap t (some (evO ev r))) w K
 | .mapUpdate t m k v=>okO (stepE P ev w (.mapUpdate t m k v)) fun p=>K p.1 p.2
 | .insert t m k v=>okO (stepE P ev w (.insert t m k v)) fun p=>K p.1 p.2
 | .makeSlice t l c=>SemD P (Instr.makeSlice t (evO ev l) (evO ev c)) w K
 | .mapEntry t m k=>SemD P (Instr.mapEntry t (evO ev m) (evO ev k)) w K
 | .entryStore t m s x=>SemD P (do Instr.entryStore t (evO ev m) (evO ev s) (evO ev x);pure undef) w K
 | .range t x=>SemD P (Instr.range t (evO ev x)) w K
 | .next x s=>SemD P (Instr.next (evO ev x) s ty) w K
 | .entry x=>SemD P (Instr.entry (evO ev x)) w K
 | .call c=>dcall P c ev w K
 | op=>okO (stepP P ev op) fun v=>K v w
def kindOf (P:Program)(op:Op):Nat :=
 match op with
 | .load .. | .lookup .. | .typeAssert ..=>1
 | .binOp _ t _ _ _=>if flatT P t=true then 0 else 1
 | .convert s d _=>if cvP P s d=true then 0 else 2
 | .alloc _ | .box .. | .buildSlice .. | .store .. | .makeMap .. | .mapUpdate .. | .insert .. | .makeSlice .. | .mapEntry .. | .entryStore .. | .range .. | .next .. | .entry ..=>2
 | .call c=>match c.callee with | .builtin b=>if biK P b c.argTypes=true then 0 else 2 | _=>2
 | _=>0
theorem dop_sound {a:Act}{o:Oper}(h:dop P o.op o.type (evOf a) w K):outE P (execOp a.eval o) w K:=by
 have p:∀ {op:Op},o.op=op→okO (stepP P (evOf a) op) (fun v=>K v w)→outE P (execOp a.eval o) w K:=by
  intro op ho h;obtain⟨v,hv,hk⟩:=qKe h;simp only[outE,stepP_sound (ho ▸ hv) w];exact hk
 have r:∀ {op:Op},o.op=op→okO (stepR P (evOf a) w op) (fun v=>K v w)→outE P (execOp a.eval o) w K:=by
  intro op ho h;obtain⟨v,hv,hk⟩:=qKe h;simp only[outE,stepR_sound (ho ▸ hv)];exact hk
 have e:∀ {op:Op},o.op=op→okO (stepE P (evOf a) w op) (fun p=>K p.1 p.2)→outE P (execOp a.eval o) w K:=by
  intro op ho h;exact stepE_sound (ho ▸ h)
 obtain⟨dst,op,ty,pos,after,guard⟩:=o;simp only at p r e h;cases op
 case load=>exact r rfl h
 case lookup=>exact r rfl h
 case typeAssert=>exact r rfl h
 case binOp =>
  simp only[dop]at h;split at h
  ·exact p rfl h
  ·exact r rfl h
 case convert =>
  simp only[dop]at h;split at h
  ·exact p rfl h
  ·have:=qJr h;rw[← qXb]at this;exact this
 case alloc=>exact e rfl h
 case box=>exact e rfl h
 case buildSlice=>exact e rfl h
 case store=>exact e rfl h
 case mapUpdate=>exact e rfl h
 case insert=>exact e rfl h
 case makeMap t mr =>
  cases mr with
  | none=>exact e rfl h
  | some mr=>have:=qJr h;rw[← qXb]at this;exact this
 case makeSlice=>have:=qJr h;rw[← qXb]at this;exact this
 case mapEntry=>have:=qJr h;rw[← qXb]at this;exact this
 case range=>have:=qJr h;rw[← qXb]at this;exact this
 case next=>have:=qJr h;rw[← qXb]at this;exact this
 case entry=>have:=qJr h;rw[← qXb]at this;exact this
 case entryStore t m s x =>
  obtain⟨v,w',hr,hk⟩:=h;simp only[outE,execOp,qXb,qU]at hr ⊢
  cases hs:(Instr.entryStore t (evO (evOf a) m) (evO (evOf a) s) (evO (evOf a) x)).run P w with
  | ok u w1 =>
   rw[hs]at hr;simp only[qY,qG,Result.ok.injEq]at hr;obtain⟨rfl,rfl⟩:=hr;simpa using hk
  | halt x w1=>rw[hs]at hr;simp at hr
 case call=>exact dcall_sound h
 all_goals exact p rfl h
theorem dop_kind0 {a:Act}{o:Oper}(h:dop P o.op o.type (evOf a) w K)(hk:kindOf P o.op=0) :
  ∃ v,(∀ w',(execOp a.eval o).run P w'=.ok (.value v) w')∧K v w:=by
 have p:∀ {op:Op},o.op=op→okO (stepP P (evOf a) op) (fun v=>K v w)→∃ v,(∀ w',(execOp a.eval o).run P w'=.ok (.value v) w')∧K v w:=by
  intro op ho h;obtain⟨v,hv,hk⟩:=qKe h;exact⟨v,fun w'=>stepP_sound (ho ▸ hv) w',hk⟩
 obtain⟨dst,op,ty,pos,after,guard⟩:=o;simp only at p h hk;cases op
 case load | lookup | typeAssert | alloc | box | buildSlice | store | mapUpdate | insert | makeMap | makeSlice | mapEntry | range | next | entry | entryStore=>cases hk
 case binOp=>simp only[dop]at h;simp only[kindOf]at hk;split at hk <;> simp_all
 case convert=>simp only[dop]at h;simp only[kindOf]at hk;split at hk <;> simp_all
 case call c =>
  simp only[kindOf]at hk;split at hk
  ·rename_i b hb
   split at hk
   ·rename_i hbi
    simp only[dop]at h;unfold dcall at h;rw[hb]at h;simp only[hbi,if_true]at h;refine p (op:=.call c) rfl ?_;obtain⟨callee,args,ts⟩:=c;simp only at hb;subst hb;exact h
   ·cases hk
  ·cases hk
 all_goals exact p rfl h
theorem dop_kind1 {a:Act}{o:Oper}(h:dop P o.op o.type (evOf a) w K)(hk:kindOf P o.op=1) :
  ∃ v,(execOp a.eval o).run P w=.ok (.value v) w∧K v w:=by
 have r:∀ {op:Op},o.op=op→okO (stepR P (evOf a) w op) (fun v=>K v w)→∃ v,(execOp a.eval o).run P w=.ok (.value v) w∧K v w:=by
  intro op ho h;obtain⟨v,hv,hk⟩:=qKe h;exact⟨v,stepR_sound (ho ▸ hv),hk⟩
 obtain⟨dst,op,ty,pos,after,guard⟩:=o;simp only at r h hk;cases op
 case load=>exact r rfl h
 case lookup=>exact r rfl h
 case typeAssert=>exact r rfl h
 case binOp=>simp only[dop]at h;simp only[kindOf]at hk;split at hk <;> simp_all
 case convert=>simp only[kindOf]at hk;split at hk <;> simp_all
 case call c=>simp only[kindOf]at hk;split at hk <;> (try split at hk) <;> simp_all
 all_goals cases hk
end
section
variable {P:Program} {ops:Array Oper}
def stK (P:Program)(o:Oper)(a:Act)(w:World)(K:Value→World→Prop):Prop :=
 match kindOf P o.op with
 | 0=>∃ v,(∀ w',(execOp a.eval o).run P w'=.ok (.value v) w')∧K v w
 | 1=>∃ v,(execOp a.eval o).run P w=.ok (.value v) w∧K v w
 | _=>outE P (execOp a.eval o) w K
theorem stK_mono {o:Oper}{a:Act}(hk:∀ v w',K v w'→K' v w')(h:stK P o a w K):stK P o a w K':=by
 unfold stK at *;split at h
 ·obtain⟨v,h1,h2⟩:=h;exact⟨v,h1,hk _ _ h2⟩
 ·obtain⟨v,h1,h2⟩:=h;exact⟨v,h1,hk _ _ h2⟩
 ·exact qZr hk h
theorem stK_out {o:Oper}{a:Act}(h:stK P o a w K):outE P (execOp a.eval o) w K:=by
 unfold stK at h;split at h
 ·obtain⟨v,h1,h2⟩:=h;simp only[outE,h1 w];exact h2
 ·obtain⟨v,h1,h2⟩:=h;simp only[outE,h1];exact h2
 ·exact h
theorem stK_congr {o:Oper}{a a':Act}(he:execOp a'.eval o=execOp a.eval o)(h:stK P o a w K):stK P o a' w K:=by
 unfold stK at *;rw[he];exact h
def stT (P:Program)(ops:Array Oper)(i:Nat)(K:Act→World→Prop)(a:Act)(w:World):Prop :=
 match ops[i]? with
 | none=>K a w
 | some o=>if Region.wanted o (yielded ops a.tmps) then stK P o a w (fun v w'=>K (a.put o.dst v) w') else K (a.put o.dst undef) w
def anyT (P:Program)(ops:Array Oper)(Q:Act→World→Prop):Nat→Array Bool→Act→World→Prop
 | 0,listed,a,w=>qT .any ops listed=[]∧Q a w
 | f+1,listed,a,w=>(qT .any ops listed=[]→Q a w)∧∀ i ∈ qT .any ops listed,stT P ops i (anyT P ops Q f (listed.setIfInBounds i true)) a w
theorem stT_wp {a:Act}{K:Act→World→Prop}{N:Act→World→Prop}{Q:Exit→Act→World→Prop}(hk:∀ a w, K a w→N a w)(h:stT P ops i K a w) :
  wpOp P ops Q i N a w:=by
 unfold stT at h;unfold wpOp;split
 ·rename_i ho;simp only[ho]at h;exact hk _ _ h
 ·rename_i o ho
  simp only[ho]at h;split
  ·rename_i hw
   simp only[hw,if_true]at h;exact .inl (wp_of_outE (stK_out h) fun v w' hv=>hk _ _ hv)
  ·rename_i hw
   simp only[hw]at h;exact hk _ _ h
theorem any_of_anyT {Q:Act→World→Prop}{Q':Exit→Act→World→Prop}(hQ:∀ a w, Q a w→Q' .normal a w):∀ (f:Nat) (listed:Array Bool) (a:Act) (w:World),
  anyT P ops Q f listed a w→wpAny P .any ops Q' f listed a w
 | 0,_,_,_,h=>⟨h.1,hQ _ _ h.2⟩
 | f+1,_,_,_,h=>⟨fun h0=>hQ _ _ (h.1 h0),fun i hi=>stT_wp (fun a w=>any_of_anyT hQ f _ a w) (h.2 i hi)⟩
theorem stT_mono {a:Act}{K K':Act→World→Prop}(hk:∀ a w,K a w→K' a w)(h:stT P ops i K a w):stT P ops i K' a w:=by
 unfold stT at *;split
 ·rename_i ho;simp only[ho]at h;exact hk _ _ h
 ·rename_i o ho
  simp only[ho]at h;split
  ·rename_i hw;simp only[hw,if_true]at h;exact stK_mono (fun v w'=>hk _ _) h
  ·rename_i hw;simp only[hw]at h;exact hk _ _ h
section
variable {i j:Nat} {oi oj:Oper} (hj:ops[j]?=some oj) (hap:oi.apart ops oj=true)
 (hsi:∀ cs b,oi.op≠.select cs b) (hsj:∀ cs b,oj.op≠.select cs b)
include hj hap hsj in
theorem stT_put {K:Act→World→Prop}{a:Act}(h:stT P ops j K (a.put oi.dst v) w) :
  stT P ops j (fun a' w'=>(∃ u,a'=a.put oj.dst u)∧K (a'.put oi.dst v) w') a w:=by
 obtain⟨h1,h2,h3⟩:=Oper.apart_spec hap;unfold stT at *;simp only[hj]at *;rw[wanted_put oj a oi.dst v h1]at h;have hc:∀ u,(a.put oi.dst v).put oj.dst u=(a.put oj.dst u).put oi.dst v:=fun u=>Act.put_comm a v u h2;split
 ·rename_i hw
  simp only[hw,if_true]at h;refine stK_mono (fun u w' hu=>?_) (stK_congr (execOp_put oj hsj a oi.dst v h1).symm h);exact⟨⟨u,rfl⟩,by rw[← hc];exact hu⟩
 ·rename_i hw
  simp only[hw]at h;exact⟨⟨undef,rfl⟩,by rw[← hc];exact h⟩
include hap hsi in
theorem yields_put {a:Act}(u:Value)(hy:Yields P ops oi v a):Yields P ops oi v (a.put oj.dst u):=by
 obtain⟨_,_,h3⟩:=Oper.apart_spec hap;exact hy.of_same (execOp_put oi hsi a oj.dst u h3) (wanted_put oi a oj.dst u h3)
end
theorem Yields.stT' {o:Oper}{a:Act}(hi:ops[i]?=some o)(hk:kindOf P o.op=0)(hy:Yields P ops o v a){K:Act→World→Prop}(h:K (a.put o.dst v) w):stT P ops i K a w:=by
 unfold stT;simp only[hi]
 rcases hy with ⟨hw,hv⟩ | ⟨hw,rfl⟩
 ·simp only[hw,if_true,stK,hk];exact⟨v,hv,h⟩
 ·simp only[hw,qD,if_false];exact h
theorem unwanted_stT {o:Oper}{a:Act}(hi:ops[i]?=some o)(hw:Region.wanted o (yielded ops a.tmps)=false){K:Act→World→Prop}(h:K (a.put o.dst undef) w):stT P ops i K a w:=by
 unfold stT;simp only[hi,hw,qD,if_false];exact h
def Free (ops:Array Oper)(i:Nat)(oi:Oper)(listed:Array Bool):Prop :=
 ∀ j oj,ops[j]?=some oj→j≠i→listed.getD j true=false→(∀ e ∈ oj.after,Region.binds .any e=true→e.on≠i)→oi.apart ops oj=true
theorem Free.set {oi:Oper}(h:Free ops i oi listed):Free ops i oi (listed.setIfInBounds j true):=by
 intro k ok hk hki hun hno;refine h k ok hk hki ?_ hno
 by_cases hjk:j=k
 ·subst hjk
  rcases Nat.lt_or_ge j listed.size with h' | h'
  ·simp[h']at hun
  ·simp at hun
 ·rw[getD_set_ne true hjk]at hun;exact hun
theorem qKn {oj:Oper}(hr:i ∈ qT .any ops listed)(hj:j ∈ qT .any ops listed)(hoj:ops[j]?=some oj) :
  ∀ e ∈ oj.after,Region.binds .any e=true→e.on≠i:=by
 obtain⟨_,oj',hoj',hall⟩:=mem_ready.1 hj;have:oj=oj':=Option.some.inj (hoj.symm.trans hoj');subst this;intro e he hb heq;have h1:=hall e he hb;have h0:=(mem_ready.1 hr).1;rw[heq]at h1
 rcases Nat.lt_or_ge i listed.size with h' | h'
 ·simp[h']at h0 h1;rw[h0]at h1;cases h1
 ·simp[Array.getElem?_eq_none h']at h1
theorem first0 {Q:Act→World→Prop}{oi:Oper}(hi:ops[i]?=some oi)
  (hsel:∀ (j:Nat) (o:Oper) cs b,ops[j]?=some o→o.op≠.select cs b)
  (hst:∀ (a:Act) (w:World) (K:Act→World→Prop),Yields P ops oi v a→K (a.put oi.dst v) w→stT P ops i K a w) :
  ∀ (f:Nat) (listed:Array Bool) (a:Act) (w:World),Free ops i oi listed→i ∈ qT .any ops listed→Yields P ops oi v a →
   anyT P ops Q f (listed.setIfInBounds i true) (a.put oi.dst v) w→anyT P ops Q (f+1) listed a w:=by
 intro f
 induction f with
 | zero =>
  intro listed a w _ hr hy H;refine⟨fun h=>(by rw[h]at hr;cases hr),fun j hj=>?_⟩
  by_cases hji:j=i
  ·subst hji;exact hst a w _ hy H
  ·have:=ready_mono hj hji
   rw[H.1]at this;cases this
 | succ f ih =>
  intro listed a w hfree hr hy H;refine⟨fun h=>(by rw[h]at hr;cases hr),fun j hj=>?_⟩
  by_cases hji:j=i
  ·subst hji;exact hst a w _ hy H
  ·have h1:=H.2 j (ready_mono hj hji)
   obtain⟨hjun,oj,hoj,_⟩:=mem_ready.1 hj;have hap:=hfree j oj hoj hji hjun (qKn hr hj hoj);have h2:=stT_put hoj hap (fun cs b=>hsel j oj cs b hoj) h1;refine stT_mono (fun a' w' h3=>?_) h2;obtain⟨⟨u,rfl⟩,h4⟩:=h3;refine ih (listed.setIfInBounds j true) _ w' hfree.set (ready_mono hr (Ne.symm hji)) (yields_put hap (fun cs b=>hsel i oi cs b hi) u hy) ?_;rw[Array.setIfInBounds_comm _ _ hji];exact h4
end
end Go.V
