/- Helpers. -/
import Derived.Tactics
import Derived.Test.YtppmpdjlmgfdkaaGreatDoorG02
set_option linter.all false
set_option maxRecDepth 100000
set_option maxHeartbeats 8000000
open Array renaming getD_eq_getD_getElem?→qI
open Bool renaming and_eq_true→qL,false_eq_true→qD
open Go.Result renaming andThen_ok→qY
open Go.Sem renaming run_pure→qG,run_bind→qU
namespace Go.V
variable {args:Array Value} {ev:Ev} {f:FuncId} {n:Nat} {d:Option Nat} {K:Value→World→Prop} {w:World}
section
variable {P:Program}
def wantE (ops:Array Oper)(o:Oper)(ev:Ev):Bool :=
 match o.guard with
 | none=>true
 | some (j,want)=>match (ops[j]?).bind (·.dst) with
  | some d=>(match ev d with | .bool b=>b == want | _=>false)
  | none=>false
theorem wantE_eq (ops:Array Oper)(o:Oper)(a:Act):Region.wanted o (yielded ops a.tmps)=wantE ops o (evOf a):=by
 unfold Region.wanted wantE
 cases hg:o.guard with
 | none=>rfl
 | some jw =>
  obtain⟨j,want⟩:=jw;simp only[yielded]
  cases hd:(ops[j]?).bind (·.dst) with
  | none=>simp
  | some d =>
   simp only[Option.bind_some,evOf,qI]
   cases ht:a.tmps[d]? with
   | none=>simp[undef]
   | some v=>cases v <;> simp
abbrev Out:=Option (Value × World) ⊕ ((FuncId × Array Value) ⊕ Sem Value)
def val0 (r:Option Value)(w:World):Out:=.inl (r.map fun v=>(v,w))
def appS (ts:Array TypeId)(x y:Value):Sem Value:=Builtin.append_ ts 0 #[x,y]
def copyS (ts:Array TypeId)(x y:Value):Sem Value:=Builtin.copy_ ts 0 #[x,y]
def makeS (t:TypeId)(l c:Value):Sem Value:=Instr.makeSlice t l c
def methO (P:Program)(t:TypeId)(m:String):Option FuncId :=
 match P.underlying t with
 | some (.pointer _)=>none
 | some _=>match (P.info? t).bind fun i=>i.methods.find? (·.name == m) with
  | some r=>if r.path.isEmpty then (match r.func with | some (f,false)=>some f | _=>none) else none
  | none=>none
 | none=>none
theorem methO_run {t:TypeId}{m:String}(h:methO P t m=some f)(n:Nat)(v:Value)(w:World):(method (n+1) t v m).run P w=.ok (f,v) w:=by
 unfold methO at h;split at h
 ·cases h
 ·rename_i d hnp hu
  split at h
  ·rename_i r hr
   split at h
   ·rename_i hp
    split at h
    ·rename_i f' hf
     cases h;simp only[Option.bind_eq_some_iff]at hr;obtain⟨i,hi,hr⟩:=hr;have hp':r.path=#[]:=by simpa using hp
     unfold method;simp only[typeInfo,qU,run_program,qY,hi,qG,hr,hp',follow,hf,receiverAt,r_und hu];simp[Place.get]
    ·cases h
   ·cases h
  ·cases h
 ·cases h
def callX (P:Program)(c:Call)(ev:Ev)(w:World):Out :=
 match c.callee with
 | .value f=>match evO ev f with
  | .func (.func g) fs cs=>.inr (.inl (g,fs++(c.args.toList.map (evO ev)).toArray++cs))
  | _=>.inl none
 | .builtin b =>
  if biK P b c.argTypes=true then val0 (biP P b c.argTypes (c.args.toList.map (evO ev))) w else
  match b,c.args.toList with
  | .append,[x,y]=>.inr (.inr (appS c.argTypes (evO ev x) (evO ev y)))
  | .delete,[x,y]=>.inr (.inr (Builtin.delete_ c.argTypes 0 #[evO ev x,evO ev y]))
  | .copy,[x,y]=>.inr (.inr (copyS c.argTypes (evO ev x) (evO ev y)))
  | .len,[x]=>.inr (.inr (Builtin.len_ c.argTypes 0 #[evO ev x]))
  | .clear,[x]=>.inr (.inr (Builtin.clear_ c.argTypes 0 #[evO ev x]))
  | _,_=>.inl none
 | .invoke r m=>match evO ev r with
  | .iface t v=>match methO P t m with
   | some f=>.inr (.inl (f,#[v]++(c.args.toList.map (evO ev)).toArray))
   | none=>.inl none
  | _=>.inl none
def dopX (P:Program)(op:Op)(ty:TypeId)(ev:Ev)(w:World):Out :=
 match op with
 | .load t x=>val0 (stepR P ev w (.load t x)) w
 | .lookup t m k ok=>val0 (stepR P ev w (.lookup t m k ok)) w
 | .typeAssert x xt t ok=>val0 (stepR P ev w (.typeAssert x xt t ok)) w
 | .binOp op t x y z=>if flatT P t=true then val0 (stepP P ev (.binOp op t x y z)) w else val0 (stepR P ev w (.binOp op t x y z)) w
 | .convert s d x=>if cvP P s d=true then val0 (stepP P ev (.convert s d x)) w else .inr (.inr (convert s d (evO ev x)))
 | .alloc t=>.inl (stepE P ev w (.alloc t))
 | .box t x=>.inl (stepE P ev w (.box t x))
 | .buildSlice t n ps=>.inl (stepE P ev w (.buildSlice t n ps))
 | .store t x v=>.inl (stepE P ev w (.store t x v))
 | .makeMap t none=>.inl (stepE P ev w (.makeMap t none))
 | .makeMap t (some r)=>.inr (.inr (Instr.makeMap t (some (evO ev r))))
 | .mapUpdate t m k v=>.inl (stepE P ev w (.mapUpdate t m k v))
 | .insert t m k v=>.inl (stepE P ev w (.insert t m k v))
 | .makeSlice t l c=>.inr (.inr (makeS t (evO ev l) (evO ev c)))
 | .mapEntry t m k=>.inr (.inr (Instr.mapEntry t (evO ev m) (evO ev k)))
 | .entryStore t m s x=>.inr (.inr (do Instr.entryStore t (evO ev m) (evO ev s) (evO ev x);pure undef))
 | .range t x=>.inr (.inr (Instr.range t (evO ev x)))
 | .next x s=>.inr (.inr (Instr.next (evO ev x) s ty))
 | .entry x=>.inr (.inr (Instr.entry (evO ev x)))
 | .call c=>callX P c ev w
 | op=>val0 (stepP P ev op) w
def outK (P:Program)(r:Out)(w:World)(K:Value→World→Prop):Prop :=
 match r with
 | .inl (some (v,w'))=>K v w'
 | .inl none=>False
 | .inr (.inl (g,args))=>qQe P g=true∧Fn P g args w K
 | .inr (.inr s)=>SemD P s w K
theorem qJh {r:Option Value}(h:outK P (val0 r w) w K):okO r fun v=>K v w:=by
 cases r with
 | none=>exact h
 | some v=>exact h
theorem qKz {r:Option (Value × World)}(h:outK P (.inl r) w K):okO r fun p=>K p.1 p.2:=by
 cases r with
 | none=>exact h
 | some v=>exact h
theorem dop_of_X {op:Op}{ty:TypeId}(h:outK P (dopX P op ty ev w) w K):dop P op ty ev w K:=by
 cases op
 case load=>exact qJh h
 case lookup=>exact qJh h
 case typeAssert=>exact qJh h
 case binOp =>
  simp only[dopX]at h;simp only[dop];split at h
  ·rename_i hf;simp only[hf,if_true];exact qJh h
  ·rename_i hf;simp only[hf];exact qJh h
 case convert =>
  simp only[dopX]at h;simp only[dop];split at h
  ·rename_i hf;simp only[hf,if_true];exact qJh h
  ·rename_i hf;simp only[hf];exact h
 case alloc=>exact qKz h
 case box=>exact qKz h
 case buildSlice=>exact qKz h
 case store=>exact qKz h
 case mapUpdate=>exact qKz h
 case insert=>exact qKz h
 case makeMap t mr =>
  cases mr with
  | none=>exact qKz h
  | some mr=>exact h
 case makeSlice=>exact h
 case mapEntry=>exact h
 case range=>exact h
 case next=>exact h
 case entry=>exact h
 case entryStore=>exact h
 case call c =>
  simp only[dopX,callX]at h;simp only[dop,dcall];split at h
  ·rename_i f hf
   rw[hf];simp only[];split at h
   ·rename_i g fs cs hg
    rw[hg];simp only[]
    have e:(c.args.toList.map (evO ev)).toArray=c.args.map (evO ev):=by
     apply Array.toList_inj.1;rw[Array.toList_map]
    rw[e]at h;exact h
   ·exact h.elim
  ·rename_i b hb
   rw[hb];simp only[];split at h
   ·rename_i hbi;simp only[hbi,if_true];exact qJh h
   ·rename_i hbi
    simp only[hbi];split at h
    ·rename_i hxy;rw[hxy];exact h
    ·rename_i hxy;rw[hxy];exact h
    ·rename_i hxy;rw[hxy];exact h
    ·rename_i hxy;rw[hxy];exact h
    ·rename_i hxy;rw[hxy];exact h
    ·exact h.elim
  ·rename_i r m hm
   rw[hm];simp only[];split at h
   ·rename_i t v hv
    split at h
    ·rename_i f hf
     have e:(c.args.toList.map (evO ev)).toArray=c.args.map (evO ev):=by
      apply Array.toList_inj.1;rw[Array.toList_map]
     rw[e]at h;rw[hv];simp only[];exact⟨f,v,methO_run hf _ v w,h⟩
    ·exact h.elim
   ·exact h.elim
 all_goals exact qJh h
def updV (ev:Ev)(dst:Option Nat)(v:Value):Ev:=updO ev dst v
def denL (P:Program)(ops:Array Oper)(K:Ev→World→Prop):List Oper→Ev→World→Prop
 | [],ev,w=>K ev w
 | o::r,ev,w =>
  if wantE ops o ev=true then outK P (dopX P o.op o.type ev w) w (fun v w'=>denL P ops K r (updV ev o.dst v) w') else denL P ops K r (updO ev o.dst undef) w
def contL (P:Program)(ops:Array Oper)(K:Ev→World→Prop)(r:List Oper)(dst:Option Nat)(ev:Ev)(w:World)(x:Out):Prop :=
 outK P x w (fun v w'=>denL P ops K r (updV ev dst v) w')
theorem denL_nil (ops:Array Oper)(K:Ev→World→Prop)(ev:Ev)(w:World):denL P ops K [] ev w=K ev w:=rfl
theorem denL_cons (ops:Array Oper)(K:Ev→World→Prop)(r:List Oper)(dst:Option Nat)(op:Op)(ty:TypeId)(pos:String)(af:Array Edge)(ev:Ev)(w:World) :
  denL P ops K ({ dst,op,type:=ty,pos,after:=af,guard:=none }::r) ev w=contL P ops K r dst ev w (dopX P op ty ev w):=by
 simp[denL,wantE,contL]
theorem denL_guard (ops:Array Oper)(K:Ev→World→Prop)(r:List Oper)(dst:Option Nat)(op:Op)(ty:TypeId)(pos:String)(af:Array Edge)(g:Nat × Bool)(ev:Ev)(w:World) :
  denL P ops K ({ dst,op,type:=ty,pos,after:=af,guard:=some g }::r) ev w =
   if wantE ops { dst,op,type:=ty,pos,after:=af,guard:=some g } ev=true then contL P ops K r dst ev w (dopX P op ty ev w) else denL P ops K r (updO ev dst undef) w:=rfl
theorem contL_val (ops:Array Oper)(K:Ev→World→Prop)(r:List Oper)(d:Nat)(ev:Ev)(w w':World)(v:Value) :
  contL P ops K r (some d) ev w (.inl (some (v,w')))=denL P ops K r (upd ev d v) w':=rfl
theorem contL_val' (ops:Array Oper)(K:Ev→World→Prop)(r:List Oper)(ev:Ev)(w w':World)(v:Value) :
  contL P ops K r none ev w (.inl (some (v,w')))=denL P ops K r ev w':=rfl
theorem contL_no (ops:Array Oper)(K:Ev→World→Prop)(r:List Oper)(d:Option Nat)(ev:Ev)(w:World) :
  contL P ops K r d ev w (.inl none)=False:=rfl
theorem val0_some (v:Value)(w:World):val0 (some v) w=.inl (some (v,w)):=rfl
theorem qQa {ops:Array Oper}{K:Ev→World→Prop}{r:List Oper}{g:FuncId}
  (hp:qQe P g=true) (h:Fn P g args w fun v w'=>denL P ops K r (updO ev d v) w'):contL P ops K r d ev w (.inr (.inl (g,args))):=⟨hp,h⟩
theorem qQj {ops:Array Oper}{K:Ev→World→Prop}{r:List Oper}{s:Sem Value}
  (h:SemD P s w fun v w'=>denL P ops K r (updO ev d v) w'):contL P ops K r d ev w (.inr (.inr s)):=h
theorem dop_stK {a:Act}{o:Oper}(h:dop P o.op o.type (evOf a) w K):stK P o a w K:=by
 unfold stK;split
 ·rename_i h0;exact dop_kind0 h h0
 ·rename_i h0;exact dop_kind1 h h0
 ·exact dop_sound h
theorem denL_case {ops:Array Oper}{K:Ev→World→Prop}{o:Oper}{r:List Oper}(h:denL P ops K (o::r) ev w) :
  (wantE ops o ev=true∧dop P o.op o.type ev w fun v w'=>denL P ops K r (updO ev o.dst v) w')∨(wantE ops o ev=false∧denL P ops K r (updO ev o.dst undef) w):=by
 simp only[denL]at h;split at h
 ·rename_i hw;exact .inl ⟨hw,dop_of_X h⟩
 ·rename_i hw;exact .inr ⟨by simpa using hw,h⟩
theorem denL_list {ops:Array Oper}{n:Nat}{K:Ev→World→Prop}{Q:Exit→Act→World→Prop}(hQ:∀ a w, a.tmps.size=n→a.defers=[]→K (evOf a) w→Q .normal a w) :
  ∀ (l:List Oper) (a:Act) (w:World),(l.all fun o=>dstOk n o.dst)=true→a.tmps.size=n→a.defers=[]→denL P ops K l (evOf a) w→wpList P ops Q l a w
 | [],a,w,_,hn,hd,h=>hQ a w hn hd h
 | o::r,a,w,hl,hn,hd,h=>by
  simp only[List.all_cons,qL]at hl;simp only[wpList,wantE_eq]
  rcases denL_case h with ⟨hw,h⟩ | ⟨hw,h⟩
  ·simp only[hw,if_true]
   refine .inl (wp_of_outE (dop_sound h) fun v w' hv=>?_);exact denL_list hQ r _ w' hl.2 (by rw[qKc];exact hn) (by rw[qZp];exact hd) (by rw[qJj v hn hl.1];exact hv)
  ·simp only[hw,qD,if_false]
   exact denL_list hQ r _ w hl.2 (by rw[qKc];exact hn) (by rw[qZp];exact hd) (by rw[qJj undef hn hl.1];exact h)
theorem denL_walk {ops:Array Oper}{n:Nat}{K:Ev→World→Prop}{Q:Act→World→Prop}(hQ:∀ a w, a.tmps.size=n→a.defers=[]→K (evOf a) w→Q a w) :
  ∀ (l:List Oper) (a:Act) (w:World),(l.all fun o=>dstOk n o.dst)=true→a.tmps.size=n→a.defers=[]→denL P ops K l (evOf a) w→walkT P ops Q l a w
 | [],a,w,_,hn,hd,h=>hQ a w hn hd h
 | o::r,a,w,hl,hn,hd,h=>by
  simp only[List.all_cons,qL]at hl;simp only[walkT,wantE_eq]
  rcases denL_case h with ⟨hw,h⟩ | ⟨hw,h⟩
  ·simp only[hw,if_true]
   refine stK_mono (fun v w' hv=>?_) (dop_stK h);exact denL_walk hQ r _ w' hl.2 (by rw[qKc];exact hn) (by rw[qZp];exact hd) (by rw[qJj v hn hl.1];exact hv)
  ·simp only[hw,qD,if_false]
   exact denL_walk hQ r _ w hl.2 (by rw[qKc];exact hn) (by rw[qZp];exact hd) (by rw[qJj undef hn hl.1];exact h)
abbrev Post:=Exit→Ev→World→Prop
def thenQ (K:Ev→World→Prop)(Q:Post):Post:=fun e=>match e with | .normal=>K | e=>Q e
def blockQ (id:Nat)(Q:Post):Post:=fun e=>match e with | .exit i=>if i=id then Q .normal else Q (.exit i) | e=>Q e
def liftQ (n:Nat)(Q:Post):Exit→Act→World→Prop:=fun e a w=>a.tmps.size=n∧a.defers=[]∧Q e (evOf a) w
@[simp] theorem thenQ_normal (K:Ev→World→Prop) (Q:Post):thenQ K Q .normal=K:=rfl
@[simp] theorem thenQ_ret (K:Ev→World→Prop) (Q:Post):thenQ K Q .ret=Q .ret:=rfl
@[simp] theorem thenQ_exit (K:Ev→World→Prop) (Q:Post) (i:Nat):thenQ K Q (.exit i)=Q (.exit i):=rfl
@[simp] theorem blockQ_normal (id:Nat) (Q:Post):blockQ id Q .normal=Q .normal:=rfl
@[simp] theorem blockQ_ret (id:Nat) (Q:Post):blockQ id Q .ret=Q .ret:=rfl
@[simp] theorem blockQ_exit (id i:Nat) (Q:Post):blockQ id Q (.exit i)=if i=id then Q .normal else Q (.exit i):=rfl
def codeOk (P:Program)(n:Nat)(bad:List Nat):Code→Bool
 | .region id ops d=>(ops.toList.all fun o=>dstOk n o.dst) && (!d || bad.contains id || lexAll P ops)
 | .seq a b | .cond _ a b=>codeOk P n bad a && codeOk P n bad b
 | .block _ c | .loop c=>codeOk P n bad c
 | _=>true
def CodeD (P:Program)(n:Nat)(c:Code)(Q:Post)(ev:Ev)(w:World):Prop :=
 ∀ a:Act,a.tmps.size=n→a.defers=[]→evOf a=ev→c.wp P (liftQ n Q) a w
def LoopD (P:Program)(n:Nat)(bad:List Nat)(c:Code)(Q:Post)(ev:Ev)(w:World):Prop:=codeOk P n bad c=true→CodeD P n (.loop c) Q ev w
def den (P:Program)(n:Nat)(bad:List Nat):Code→Post→Ev→World→Prop
 | .skip,Q=>Q .normal
 | .label _,Q=>Q .normal
 | .seq x y,Q=>den P n bad x (thenQ (den P n bad y Q) Q)
 | .cond c x y,Q=>fun ev w=>match evO ev c with | .bool b=>(if b=true then den P n bad x Q ev w else den P n bad y Q ev w) | _=>False
 | .block id c,Q=>den P n bad c (blockQ id Q)
 | .exit id,Q=>Q (.exit id)
 | .ret,Q=>Q .ret
 | .region id ops d,Q=>if d=true then (if bad.contains id=true then CodeD P n (.region id ops d) Q else fun ev w=>denL P ops (Q .normal) ops.toList ev w.drew) else denL P ops (Q .normal) ops.toList
 | .loop c,Q=>LoopD P n bad c Q
 | c,Q=>CodeD P n c Q
theorem den_sound (P:Program)(n:Nat)(bad:List Nat):∀ (c:Code) (Q:Post) (a:Act) (w:World),codeOk P n bad c=true→a.tmps.size=n→a.defers=[]→den P n bad c Q (evOf a) w→c.wp P (liftQ n Q) a w:=by
 intro c
 induction c with
 | skip=>exact fun Q a w _ hn hd h=>wp_skip ⟨hn,hd,h⟩
 | label l=>exact fun Q a w _ hn hd h=>wp_label ⟨hn,hd,h⟩
 | seq x y ihx ihy =>
  intro Q a w hok hn hd h;simp only[codeOk,qL]at hok;refine wp_seq (wp_mono (ihx _ a w hok.1 hn hd h) fun e a' w' hq=>?_);obtain⟨h1,h2,h3⟩:=hq
  cases e with
  | normal=>exact ihy Q a' w' hok.2 h1 h2 h3
  | exit i=>exact⟨h1,h2,h3⟩
  | goto l=>exact⟨h1,h2,h3⟩
  | ret=>exact⟨h1,h2,h3⟩
  | panic ch=>exact⟨h1,h2,h3⟩
  | outgrown=>exact⟨h1,h2,h3⟩
 | cond c x y ihx ihy =>
  intro Q a w hok hn hd h;simp only[codeOk,qL]at hok;simp only[den]at h;split at h
  ·rename_i b hb
   refine wp_cond (t:=b) (by rw[evO_evOf];exact hb) ?_
   cases b with
   | true=>exact ihx Q a w hok.1 hn hd (by simpa using h)
   | false=>exact ihy Q a w hok.2 hn hd (by simpa using h)
  ·exact h.elim
 | block id c ih =>
  intro Q a w hok hn hd h;refine wp_block (wp_mono (ih _ a w hok hn hd h) fun e a' w' hq=>?_);obtain⟨h1,h2,h3⟩:=hq
  cases e with
  | exit i =>
   simp only[Exit.inBlock,blockQ_exit]at h3 ⊢;split
   ·rename_i hi;simp only[hi,if_true]at h3;exact⟨h1,h2,h3⟩
   ·rename_i hi;simp only[hi,if_false]at h3;exact⟨h1,h2,h3⟩
  | normal=>exact⟨h1,h2,h3⟩
  | goto l=>exact⟨h1,h2,h3⟩
  | ret=>exact⟨h1,h2,h3⟩
  | panic ch=>exact⟨h1,h2,h3⟩
  | outgrown=>exact⟨h1,h2,h3⟩
 | exit id=>exact fun Q a w _ hn hd h=>wp_exit ⟨hn,hd,h⟩
 | ret=>exact fun Q a w _ hn hd h=>wp_ret ⟨hn,hd,h⟩
 | region id ops d =>
  intro Q a w hok hn hd h;simp only[codeOk,qL,Bool.or_eq_true,Bool.not_eq_true']at hok;simp only[den]at h
  cases d with
  | true =>
   simp only[if_true]at h
   by_cases hb:bad.contains id=true
   ·simp only[hb,if_true]at h
    exact h a hn hd rfl
   ·simp only[hb]at h
    have hlex:lexAll P ops=true:=by
     rcases hok.2 with (h | h) | h
     ·cases h
     ·exact absurd h hb
     ·exact h
    exact wp_draw hlex (denL_walk (fun a w h1 h2 h3=>⟨h1,h2,h3⟩) _ a _ hok.1 hn hd h)
  | false =>
   simp only[qD,if_false]at h;exact wp_region_list (denL_list (fun a w h1 h2 h3=>⟨h1,h2,h3⟩) _ a _ hok.1 hn hd h)
 | loop c ih=>exact fun Q a w hok hn hd h=>h hok a hn hd rfl
 | rangeFunc f ps x y ihx ihy=>exact fun Q a w hok hn hd h=>h a hn hd rfl
 | scope c ih=>exact fun Q a w hok hn hd h=>h a hn hd rfl
 | goto l=>exact fun Q a w hok hn hd h=>h a hn hd rfl
 | refuse s=>exact fun Q a w hok hn hd h=>h a hn hd rfl
def setAll (g:Ev):List Nat→List Value→Ev
 | s::ss,v::vs=>upd (setAll g ss vs) s v
 | _,_=>g
theorem setAll_self (ev:Ev):∀ (ss:List Nat),setAll ev ss (ss.map ev)=ev
 | []=>rfl
 | s::ss=>by
  simp only[List.map_cons,setAll,setAll_self ev ss]
  funext i
  simp only[upd];split
  ·subst_vars;rfl
  ·rfl
theorem loopD {bad:List Nat}{c:Code}{Q:Post}(slots:List Nat)(I:Nat→List Value→World→Prop)(m0:Nat)
  (h0:I m0 (slots.map ev) w)
  (round:∀ (m:Nat) (vs:List Value) (w:World) (g:Ev),I m vs w→den P n bad c (thenQ (fun ev' w'=>∃ m',m'<m∧I m' (slots.map ev') w') Q) (setAll g slots vs) w) :
  LoopD P n bad c Q ev w:=by
 intro hok a hn hd hev;subst hev
 have key:∀ (m:Nat) (a:Act) (w:World), a.tmps.size=n→a.defers=[]→I m (slots.map (evOf a)) w →
   c.wp P (Exit.then (fun a' w'=>(∃ m',m'<m∧I m' (slots.map (evOf a')) w')∧a'.tmps.size=n∧a'.defers=[]) (liftQ n Q)) a w:=by
  intro m a w hn hd hI;have hr:=round m _ w (evOf a) hI;rw[setAll_self]at hr;refine wp_mono (den_sound P n bad c _ a w hok hn hd hr) fun e a' w' hq=>?_;obtain⟨h1,h2,h3⟩:=hq
  cases e with
  | normal=>exact⟨h3,h1,h2⟩
  | exit i=>exact⟨h1,h2,h3⟩
  | goto l=>exact⟨h1,h2,h3⟩
  | ret=>exact⟨h1,h2,h3⟩
  | panic ch=>exact⟨h1,h2,h3⟩
  | outgrown=>exact⟨h1,h2,h3⟩
 have all:∀ (m:Nat) (a:Act) (w:World), a.tmps.size=n→a.defers=[]→I m (slots.map (evOf a)) w→∀ b k cs,
   ∃ e a' w',liftQ n Q e a' w'∧Arrives P (lone (b.at a (.code c::.inLoop c::k)) cs w) b k cs e a' w':=by
  intro m
  induction m using Nat.strongRecOn with
  | _ m ih =>
   intro a w hn hd hI b k cs;obtain⟨e,a₁,w₁,hq,harr⟩:=key m a w hn hd hI b (.inLoop c::k) cs
   cases e with
   | normal =>
    obtain⟨⟨m',hlt,hI'⟩,hn',hd'⟩:=hq;obtain⟨e₂,a₂,w₂,hq₂,harr₂⟩:=ih m' hlt a₁ w₁ hn' hd' hI' b k cs;exact⟨e₂,a₂,w₂,hq₂,.of_steps (Steps.trans harr (.one step_inLoop)) harr₂⟩
   | exit id=>exact⟨_,a₁,w₁,hq,.pass (x:=.inLoop c) rfl (fun _ _=>.inl (by simp)) harr⟩
   | goto l=>exact⟨_,a₁,w₁,hq,.pass (x:=.inLoop c) rfl (fun _ _=>.inl (by simp)) harr⟩
   | ret=>exact⟨_,a₁,w₁,hq,.pass (x:=.inLoop c) rfl (fun _ _=>.inl (by simp)) harr⟩
   | panic ch=>exact⟨_,a₁,w₁,hq,.pass (x:=.inLoop c) rfl (fun _ _=>.inl (by simp)) harr⟩
   | outgrown=>exact⟨_,a₁,w₁,hq,.pass (x:=.inLoop c) rfl (fun _ _=>.inl (by simp)) harr⟩
 intro b k cs;obtain⟨e,a',w',hq,harr⟩:=all m0 a w hn hd h0 b k cs;exact⟨e,a',w',hq,.of_steps (.one step_loop) harr⟩
def ev0:List Value→Nat→Ev
 | [],_=>fun _=>undef
 | v::vs,k=>upd (ev0 vs (k+1)) k v
def pack:List Value→Value
 | [v]=>v
 | vs=>.tuple vs.toArray
def resQ (P:Program)(K:Value→World→Prop)(ev:Ev)(w:World):List ResultVar→List Value→Prop
 | [],vs=>K (pack vs) w
 | .tmp t::r,vs=>resQ P K ev w r (vs++[ev t])
 | .cell x t::r,vs=>match ev x with
  | .pointer (some ⟨b,o,none⟩)=>okO (rdO P t w b o) fun v=>resQ P K ev w r (vs++[v])
  | _=>False
def retQ (P:Program)(rs:List ResultVar)(K:Value→World→Prop):Post:=fun e ev w=>match e with | .normal | .ret=>resQ P K ev w rs [] | _=>False
@[simp] theorem retQ_normal (rs:List ResultVar) (K:Value→World→Prop):retQ P rs K .normal=fun ev w=>resQ P K ev w rs []:=rfl
@[simp] theorem retQ_ret (rs:List ResultVar) (K:Value→World→Prop):retQ P rs K .ret=fun ev w=>resQ P K ev w rs []:=rfl
@[simp] theorem retQ_exit (rs:List ResultVar) (K:Value→World→Prop) (i:Nat):retQ P rs K (.exit i)=fun _ _=>False:=rfl
theorem ev0_get:∀ (vs:List Value) (k i:Nat),ev0 vs k i=if k≤i then vs.getD (i - k) undef else undef
 | [],k,i=>by simp[ev0]
 | v::vs,k,i=>by
  simp only[ev0,upd,ev0_get vs (k+1) i]
  by_cases h:i=k
  ·subst h;simp
  ·simp only[h,if_false]
   by_cases h1:k≤i
   ·have h2:k+1≤i:=by omega
    simp only[h1,h2,if_true];rw[show i - k=(i - (k+1))+1 by omega]
    simp
   ·have h2:¬ k+1≤i:=by omega
    simp[h1,h2]
theorem evOf_args (args:Array Value)(n:Nat):evOf { tmps:=args++Array.replicate n undef,defers:=[] }=ev0 args.toList 0:=by
 funext i
 rw[ev0_get];simp only[evOf,Nat.zero_le,if_true,Nat.sub_zero,qI,Array.getElem?_append,gDq,Array.getElem?_toList];split
 ·rfl
 ·rename_i h
  rw[Array.getElem?_replicate];rw[show args[i]?=none from Array.getElem?_eq_none (by omega)]
  split <;> rfl
def rvSem (tmps:Array Value)(r:ResultVar):Sem Value :=
 match r with
 | .tmp t=>pure (tmps.getD t undef)
 | .cell a t=>do loadVar t (← asAddr (tmps.getD a undef))
theorem results_eq (fn:Func)(tmps:Array Value):results fn tmps=(fn.results.mapM (rvSem tmps)) >>= fun vs=>pure (if h:vs.size=1 then vs[0] else .tuple vs):=rfl
theorem r_resQ {K:Value→World→Prop}{ev:Ev}{w:World}{tmps:Array Value}(hev:ev=fun i=>tmps.getD i undef):∀ (rs:List ResultVar) (vs:List Value), resQ P K ev w rs vs →
  ∃ us,(rs.mapM (rvSem tmps)).run P w=.ok us w∧K (pack (vs++us)) w
 | [],vs,h=>⟨[],by simp,by simpa [resQ] using h⟩
 | .tmp t::rs,vs,h=>by
  obtain⟨us,h1,h2⟩:=r_resQ hev rs _ h;refine⟨ev t::us,?_,by simpa using h2⟩;have h3:(rvSem tmps (.tmp t)).run P w=.ok (ev t) w:=by simp[rvSem,hev]
  simp only[List.mapM_cons,qU,h1,h3,qY,qG]
 | .cell x t::rs,vs,h=>by
  simp only[resQ]at h;split at h
  ·rename_i b o hx
   obtain⟨v,hv,h⟩:=qKe h;obtain⟨us,h1,h2⟩:=r_resQ hev rs _ h;refine⟨v::us,?_,by simpa using h2⟩;have hx':tmps.getD x undef=.pointer (some ⟨b,o,none⟩):=by rw[hev]at hx;exact hx
   have h3:(rvSem tmps (.cell x t)).run P w=.ok v w:=by
    simp only[rvSem,qU,hx',asAddr,qG,qY,r_loadVar hv]
   simp only[List.mapM_cons,qU,h1,h3,qY,qG]
  ·exact h.elim
theorem r_results {fn:Func}{a:Act}(h:resQ P K (evOf a) w fn.results.toList []):∃ v,(results fn a.tmps).run P w=.ok v w∧K v w:=by
 obtain⟨us,h1,h2⟩:=r_resQ rfl fn.results.toList [] h;refine⟨pack us,?_,by simpa using h2⟩;rw[results_eq,Array.mapM_eq_mapM_toList];simp only[qU,Sem.run_map,h1,qY,qG]
 congr 1
 match us with
 | []=>rfl
 | [v]=>rfl
 | u::v::r=>simp[pack]
def bodyOf (fn:Func):Code:=fn.body.getD .skip
def DenF (P:Program)(fn:Func)(bad:List Nat)(args:Array Value)(w:World)(K:Value→World→Prop):Prop :=
 den P fn.ntmps bad (bodyOf fn) (retQ P fn.results.toList K) (ev0 args.toList 0) w
theorem fn_of_den {fn:Func}(bad:List Nat)(hf:P.funcs[f]?=some fn)(hb:fn.body.isSome=true)
  (hok:codeOk P fn.ntmps bad (bodyOf fn)=true) (hargs:args.size≤fn.ntmps) (h:den P fn.ntmps bad (bodyOf fn) (retQ P fn.results.toList K) (ev0 args.toList 0) w):Fn P f args w K:=by
 unfold Fn
 have hb':fn.body=some (bodyOf fn):=by
  unfold bodyOf
  cases h:fn.body with
  | none=>simp[h]at hb
  | some c=>rfl
 refine calls_of_wp hf hb' ?_;have h':=den_sound P fn.ntmps bad (bodyOf fn) (retQ P fn.results.toList K) { tmps:=args++Array.replicate (fn.ntmps - args.size) undef,defers:=[] } w hok (by simp;omega) rfl (by rw[evOf_args];exact h);refine wp_mono h' fun e a' w' hq=>?_;obtain⟨h1,h2,h3⟩:=hq
 cases e with
 | normal=>obtain⟨v,hv,hk⟩:=r_results h3;exact⟨h2,v,hv,hk⟩
 | ret=>obtain⟨v,hv,hk⟩:=r_results h3;exact⟨h2,v,hv,hk⟩
 | exit i=>exact h3.elim
 | goto l=>exact h3.elim
 | panic ch=>exact h3.elim
 | outgrown=>exact h3.elim
theorem fn_of_denF {fn:Func}(bad:List Nat)(hf:P.funcs[f]?=some fn)(hb:fn.body.isSome=true)
  (hok:codeOk P fn.ntmps bad (bodyOf fn)=true) (hn:fn.ntmps=n) (hargs:args.size≤n):DenF P fn bad args w K→Fn P f args w K :=
 fun h=>fn_of_den bad hf hb hok (hn ▸ hargs) h
end
end Go.V
