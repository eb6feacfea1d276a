/- Helpers. -/
import Derived.Tactics
import Derived.Test.YtppmpdjlmgfdkaaGreatDoorB01
set_option linter.all false
set_option maxRecDepth 100000
set_option maxHeartbeats 8000000
open Array renaming getD_eq_getD_getElem?->xZ
open Bool renaming and_eq_true->qN,false_eq_true->qP
open Go.Result renaming andThen_ok->qY
open Go.Sem renaming run_pure->qG,run_bind->qU
namespace Go.V
variable {args:Array Value} {ev:Ev} {f:FuncId} {n:Nat} {d:Option Nat} {K:Value->World->Prop} {w:World}
section
variable {P:Program}
def wantE (B:Array Oper)(o:Oper)(ev:Ev):Bool :=
 match o.guard with
 | none=>true
 | some (j,A)=>match (B[j]?).bind (·.dst) with
  | some d=>(match ev d with | .bool b=>b == A | _=>false)
  | none=>false
theorem wantE_eq (A:Array Oper)(o:Oper)(a:Act):Region.wanted o (yielded A a.tmps)=wantE A o (evOf a):=by
 unfold Region.wanted wantE
 cases H:o.guard with
 | none=>rfl
 | some E =>
  obtain⟨j,B⟩:=E;simp only[yielded]
  cases I:(A[j]?).bind (·.dst) with
  | none=>simp
  | some d =>
   simp only[Option.bind_some,evOf,xZ]
   cases J:a.tmps[d]? with
   | none=>simp[undef]
   | some v=>cases v <;> simp
abbrev Out:=Option (Value × World) ⊕ ((FuncId × Array Value) ⊕ Sem Value)
def val0 (r:Option Value)(w:World):Out:=.inl (r.map fun v=>(v,w))
def appS (ts:Array TypeId)(x y:Value):Sem Value:=Builtin.append_ ts 0 #[x,y]
def copyS (ts:Array TypeId)(x y:Value):Sem Value:=Builtin.copy_ ts 0 #[x,y]
def makeS (t:TypeId)(l c:Value):Sem Value:=Instr.makeSlice t l c
def methO (P:Program)(t:TypeId)(m:String):Option FuncId :=
 match P.underlying t with
 | some (.pointer _)=>none
 | some _=>match (P.info? t).bind fun i=>i.methods.find? (·.name == m) with
  | some r=>if r.path.isEmpty then (match r.func with | some (f,false)=>some f | _=>none) else none
  | none=>none
 | none=>none
theorem methO_run {t:TypeId}{m:String}(h:methO P t m=some f)(n:Nat)(v:Value)(w:World):(method (n+1) t v m).run P w=.ok (f,v) w:=by
 unfold methO at h;split at h
 ·cases h
 ·rename_i d E H
  split at h
  ·rename_i r A
   split at h
   ·rename_i I
    split at h
    ·rename_i L J
     cases h;simp only[Option.bind_eq_some_iff]at A;obtain⟨i,hi,A⟩:=A;have B:r.path=#[]:=by simpa using I
     unfold method;simp only[typeInfo,qU,run_program,qY,hi,qG,A,B,follow,J,receiverAt,r_und H];simp[Place.get]
    ·cases h
   ·cases h
  ·cases h
 ·cases h
def callX (P:Program)(c:Call)(ev:Ev)(w:World):Out :=
 match c.callee with
 | .value f=>match evO ev f with
  | .func (.func g) A B=>.inr (.inl (g,A++(c.args.toList.map (evO ev)).toArray++B))
  | _=>.inl none
 | .builtin b =>
  if biK P b c.argTypes=true then val0 (biP P b c.argTypes (c.args.toList.map (evO ev))) w else
  match b,c.args.toList with
  | .append,[x,y]=>.inr (.inr (appS c.argTypes (evO ev x) (evO ev y)))
  | .delete,[x,y]=>.inr (.inr (Builtin.delete_ c.argTypes 0 #[evO ev x,evO ev y]))
  | .copy,[x,y]=>.inr (.inr (copyS c.argTypes (evO ev x) (evO ev y)))
  | .len,[x]=>.inr (.inr (Builtin.len_ c.argTypes 0 #[evO ev x]))
  | .clear,[x]=>.inr (.inr (Builtin.clear_ c.argTypes 0 #[evO ev x]))
  | _,_=>.inl none
 | .invoke r m=>match evO ev r with
  | .iface t v=>match methO P t m with
   | some f=>.inr (.inl (f,#[v]++(c.args.toList.map (evO ev)).toArray))
   | none=>.inl none
  | _=>.inl none
def dopX (P:Program)(op:Op)(ty:TypeId)(ev:Ev)(w:World):Out :=
 match op with
 | .load t x=>val0 (stepR P ev w (.load t x)) w
 | .lookup t m k ok=>val0 (stepR P ev w (.lookup t m k ok)) w
 | .typeAssert x A t ok=>val0 (stepR P ev w (.typeAssert x A t ok)) w
 | .binOp op t x y z=>if flatT P t=true then val0 (stepP P ev (.binOp op t x y z)) w else val0 (stepR P ev w (.binOp op t x y z)) w
 | .convert s d x=>if cvP P s d=true then val0 (stepP P ev (.convert s d x)) w else .inr (.inr (convert s d (evO ev x)))
 | .alloc t=>.inl (stepE P ev w (.alloc t))
 | .box t x=>.inl (stepE P ev w (.box t x))
 | .buildSlice t n ps=>.inl (stepE P ev w (.buildSlice t n ps))
 | .store t x v=>.inl (stepE P ev w (.store t x v))
 | .makeMap t none=>.inl (stepE P ev w (.makeMap t none))
 | .makeMap t (some r)=>.inr (.inr (Instr.makeMap t (some (evO ev r))))
 | .mapUpdate t m k v=>.inl (stepE P ev w (.mapUpdate t m k v))
 | .insert t m k v=>.inl (stepE P ev w (.insert t m k v))
 | .makeSlice t l c=>.inr (.inr (makeS t (evO ev l) (evO ev c)))
 | .mapEntry t m k=>.inr (.inr (Instr.mapEntry t (evO ev m) (evO ev k)))
 | .entryStore t m s x=>.inr (.inr (do Instr.entryStore t (evO ev m) (evO ev s) (evO ev x);pure undef))
 | .range t x=>.inr (.inr (Instr.range t (evO ev x)))
 | .next x s=>.inr (.inr (Instr.next (evO ev x) s ty))
 | .entry x=>.inr (.inr (Instr.entry (evO ev x)))
 | .call c=>callX P c ev w
 | op=>val0 (stepP P ev op) w
def outK (P:Program)(r:Out)(w:World)(K:Value->World->Prop):Prop :=
 match r with
 | .inl (some (v,w'))=>K v w'
 | .inl none=>False
 | .inr (.inl (g,args))=>qQg P g=true/\Fn P g args w K
 | .inr (.inr s)=>SemD P s w K
theorem qJx {r:Option Value}(h:outK P (val0 r w) w K):okO r fun v=>K v w:=by
 cases r with
 | none=>exact h
 | some v=>exact h
theorem qVz {r:Option (Value × World)}(h:outK P (.inl r) w K):okO r fun p=>K p.1 p.2:=by
 cases r with
 | none=>exact h
 | some v=>exact h
theorem dop_of_X {op:Op}{ty:TypeId}(h:outK P (dopX P op ty ev w) w K):dop P op ty ev w K:=by
 cases op
 case load=>exact qJx h
 case lookup=>exact qJx h
 case typeAssert=>exact qJx h
 case binOp =>
  simp only[dopX]at h;simp only[dop];split at h
  ·rename_i B;simp only[B,if_true];exact qJx h
  ·rename_i B;simp only[B];exact qJx h
 case convert =>
  simp only[dopX]at h;simp only[dop];split at h
  ·rename_i B;simp only[B,if_true];exact qJx h
  ·rename_i B;simp only[B];exact h
 case alloc=>exact qVz h
 case box=>exact qVz h
 case buildSlice=>exact qVz h
 case store=>exact qVz h
 case mapUpdate=>exact qVz h
 case insert=>exact qVz h
 case makeMap t mr =>
  cases mr with
  | none=>exact qVz h
  | some mr=>exact h
 case makeSlice=>exact h
 case mapEntry=>exact h
 case range=>exact h
 case next=>exact h
 case entry=>exact h
 case entryStore=>exact h
 case call c =>
  simp only[dopX,callX]at h;simp only[dop,dcall];split at h
  ·rename_i f B
   rw[B];simp only[];split at h
   ·rename_i g M N H
    rw[H];simp only[]
    have e:(c.args.toList.map (evO ev)).toArray=c.args.map (evO ev):=by
     apply Array.toList_inj.1;rw[Array.toList_map]
    rw[e]at h;exact h
   ·exact h.elim
  ·rename_i b I
   rw[I];simp only[];split at h
   ·rename_i E;simp only[E,if_true];exact qJx h
   ·rename_i E
    simp only[E];split at h
    ·rename_i A;rw[A];exact h
    ·rename_i A;rw[A];exact h
    ·rename_i A;rw[A];exact h
    ·rename_i A;rw[A];exact h
    ·rename_i A;rw[A];exact h
    ·exact h.elim
  ·rename_i r m J
   rw[J];simp only[];split at h
   ·rename_i t v L
    split at h
    ·rename_i f B
     have e:(c.args.toList.map (evO ev)).toArray=c.args.map (evO ev):=by
      apply Array.toList_inj.1;rw[Array.toList_map]
     rw[e]at h;rw[L];simp only[];exact⟨f,v,methO_run B _ v w,h⟩
    ·exact h.elim
   ·exact h.elim
 all_goals exact qJx h
def updV (ev:Ev)(A:Option Nat)(v:Value):Ev:=updO ev A v
def denL (P:Program)(A:Array Oper)(K:Ev->World->Prop):List Oper->Ev->World->Prop
 | [],ev,w=>K ev w
 | o::r,ev,w =>
  if wantE A o ev=true then outK P (dopX P o.op o.type ev w) w (fun v w'=>denL P A K r (updV ev o.dst v) w') else denL P A K r (updO ev o.dst undef) w
def contL (P:Program)(A:Array Oper)(K:Ev->World->Prop)(r:List Oper)(B:Option Nat)(ev:Ev)(w:World)(x:Out):Prop :=
 outK P x w (fun v w'=>denL P A K r (updV ev B v) w')
theorem denL_nil (A:Array Oper)(K:Ev->World->Prop)(ev:Ev)(w:World):denL P A K [] ev w=K ev w:=rfl
theorem denL_cons (A:Array Oper)(K:Ev->World->Prop)(r:List Oper)(dst:Option Nat)(op:Op)(ty:TypeId)(pos:String)(B:Array Edge)(ev:Ev)(w:World) :
  denL P A K ({ dst,op,type:=ty,pos,after:=B,guard:=none }::r) ev w=contL P A K r dst ev w (dopX P op ty ev w):=by
 simp[denL,wantE,contL]
theorem denL_guard (A:Array Oper)(K:Ev->World->Prop)(r:List Oper)(dst:Option Nat)(op:Op)(ty:TypeId)(pos:String)(B:Array Edge)(g:Nat × Bool)(ev:Ev)(w:World) :
  denL P A K ({ dst,op,type:=ty,pos,after:=B,guard:=some g }::r) ev w =
   if wantE A { dst,op,type:=ty,pos,after:=B,guard:=some g } ev=true then contL P A K r dst ev w (dopX P op ty ev w) else denL P A K r (updO ev dst undef) w:=rfl
theorem contL_val (A:Array Oper)(K:Ev->World->Prop)(r:List Oper)(d:Nat)(ev:Ev)(w w':World)(v:Value) :
  contL P A K r (some d) ev w (.inl (some (v,w')))=denL P A K r (upd ev d v) w':=rfl
theorem contL_val' (A:Array Oper)(K:Ev->World->Prop)(r:List Oper)(ev:Ev)(w w':World)(v:Value) :
  contL P A K r none ev w (.inl (some (v,w')))=denL P A K r ev w':=rfl
theorem contL_no (A:Array Oper)(K:Ev->World->Prop)(r:List Oper)(d:Option Nat)(ev:Ev)(w:World) :
  contL P A K r d ev w (.inl none)=False:=rfl
theorem val0_some (v:Value)(w:World):val0 (some v) w=.inl (some (v,w)):=rfl
theorem qQa {A:Array Oper}{K:Ev->World->Prop}{r:List Oper}{g:FuncId}
  (B:qQg P g=true) (h:Fn P g args w fun v w'=>denL P A K r (updO ev d v) w'):contL P A K r d ev w (.inr (.inl (g,args))):=⟨B,h⟩
theorem qQj {A:Array Oper}{K:Ev->World->Prop}{r:List Oper}{s:Sem Value}
  (h:SemD P s w fun v w'=>denL P A K r (updO ev d v) w'):contL P A K r d ev w (.inr (.inr s)):=h
theorem dop_stK {a:Act}{o:Oper}(h:dop P o.op o.type (evOf a) w K):stK P o a w K:=by
 unfold stK;split
 ·rename_i A;exact dop_kind0 h A
 ·rename_i A;exact dop_kind1 h A
 ·exact dop_sound h
theorem denL_case {A:Array Oper}{K:Ev->World->Prop}{o:Oper}{r:List Oper}(h:denL P A K (o::r) ev w) :
  (wantE A o ev=true/\dop P o.op o.type ev w fun v w'=>denL P A K r (updO ev o.dst v) w')∨(wantE A o ev=false/\denL P A K r (updO ev o.dst undef) w):=by
 simp only[denL]at h;split at h
 ·rename_i B;exact .inl ⟨B,dop_of_X h⟩
 ·rename_i B;exact .inr ⟨by simpa using B,h⟩
theorem denL_list {B:Array Oper}{n:Nat}{K:Ev->World->Prop}{Q:Exit->Act->World->Prop}(I:∀ a w, a.tmps.size=n->a.defers=[]->K (evOf a) w->Q .normal a w) :
  ∀ (l:List Oper) (a:Act) (w:World),(l.all fun o=>dstOk n o.dst)=true->a.tmps.size=n->a.defers=[]->denL P B K l (evOf a) w->wpList P B Q l a w
 | [],a,w,_,A,H,h=>I a w A H h
 | o::r,a,w,E,A,H,h=>by
  simp only[List.all_cons,qN]at E;simp only[wpList,wantE_eq]
  rcases denL_case h with ⟨J,h⟩ | ⟨J,h⟩
  ·simp only[J,if_true]
   refine .inl (wp_of_outE (dop_sound h) fun v w' L=>?_);exact denL_list I r _ w' E.2 (by rw[qVa];exact A) (by rw[qJa];exact H) (by rw[qKa v A E.1];exact L)
  ·simp only[J,qP,if_false]
   exact denL_list I r _ w E.2 (by rw[qVa];exact A) (by rw[qJa];exact H) (by rw[qKa undef A E.1];exact h)
theorem denL_walk {B:Array Oper}{n:Nat}{K:Ev->World->Prop}{Q:Act->World->Prop}(I:∀ a w, a.tmps.size=n->a.defers=[]->K (evOf a) w->Q a w) :
  ∀ (l:List Oper) (a:Act) (w:World),(l.all fun o=>dstOk n o.dst)=true->a.tmps.size=n->a.defers=[]->denL P B K l (evOf a) w->walkT P B Q l a w
 | [],a,w,_,A,H,h=>I a w A H h
 | o::r,a,w,E,A,H,h=>by
  simp only[List.all_cons,qN]at E;simp only[walkT,wantE_eq]
  rcases denL_case h with ⟨J,h⟩ | ⟨J,h⟩
  ·simp only[J,if_true]
   refine stK_mono (fun v w' L=>?_) (dop_stK h);exact denL_walk I r _ w' E.2 (by rw[qVa];exact A) (by rw[qJa];exact H) (by rw[qKa v A E.1];exact L)
  ·simp only[J,qP,if_false]
   exact denL_walk I r _ w E.2 (by rw[qVa];exact A) (by rw[qJa];exact H) (by rw[qKa undef A E.1];exact h)
abbrev Post:=Exit->Ev->World->Prop
def thenQ (K:Ev->World->Prop)(Q:Post):Post:=fun e=>match e with | .normal=>K | e=>Q e
def blockQ (id:Nat)(Q:Post):Post:=fun e=>match e with | .exit i=>if i=id then Q .normal else Q (.exit i) | e=>Q e
def liftQ (n:Nat)(Q:Post):Exit->Act->World->Prop:=fun e a w=>a.tmps.size=n/\a.defers=[]/\Q e (evOf a) w
@[simp] theorem thenQ_normal (K:Ev->World->Prop) (Q:Post):thenQ K Q .normal=K:=rfl
@[simp] theorem thenQ_ret (K:Ev->World->Prop) (Q:Post):thenQ K Q .ret=Q .ret:=rfl
@[simp] theorem thenQ_exit (K:Ev->World->Prop) (Q:Post) (i:Nat):thenQ K Q (.exit i)=Q (.exit i):=rfl
@[simp] theorem blockQ_normal (id:Nat) (Q:Post):blockQ id Q .normal=Q .normal:=rfl
@[simp] theorem blockQ_ret (id:Nat) (Q:Post):blockQ id Q .ret=Q .ret:=rfl
@[simp] theorem blockQ_exit (id i:Nat) (Q:Post):blockQ id Q (.exit i)=if i=id then Q .normal else Q (.exit i):=rfl
def codeOk (P:Program)(n:Nat)(A:List Nat):Code->Bool
 | .region id B d=>(B.toList.all fun o=>dstOk n o.dst) && (!d || A.contains id || lexAll P B)
 | .seq a b | .cond _ a b=>codeOk P n A a && codeOk P n A b
 | .block _ c | .loop c=>codeOk P n A c
 | _=>true
def CodeD (P:Program)(n:Nat)(c:Code)(Q:Post)(ev:Ev)(w:World):Prop :=
 ∀ a:Act,a.tmps.size=n->a.defers=[]->evOf a=ev->c.wp P (liftQ n Q) a w
def LoopD (P:Program)(n:Nat)(A:List Nat)(c:Code)(Q:Post)(ev:Ev)(w:World):Prop:=codeOk P n A c=true->CodeD P n (.loop c) Q ev w
def den (P:Program)(n:Nat)(A:List Nat):Code->Post->Ev->World->Prop
 | .skip,Q=>Q .normal
 | .label _,Q=>Q .normal
 | .seq x y,Q=>den P n A x (thenQ (den P n A y Q) Q)
 | .cond c x y,Q=>fun ev w=>match evO ev c with | .bool b=>(if b=true then den P n A x Q ev w else den P n A y Q ev w) | _=>False
 | .block id c,Q=>den P n A c (blockQ id Q)
 | .exit id,Q=>Q (.exit id)
 | .ret,Q=>Q .ret
 | .region id B d,Q=>if d=true then (if A.contains id=true then CodeD P n (.region id B d) Q else fun ev w=>denL P B (Q .normal) B.toList ev w.drew) else denL P B (Q .normal) B.toList
 | .loop c,Q=>LoopD P n A c Q
 | c,Q=>CodeD P n c Q
theorem den_sound (P:Program)(n:Nat)(N:List Nat):∀ (c:Code) (Q:Post) (a:Act) (w:World),codeOk P n N c=true->a.tmps.size=n->a.defers=[]->den P n N c Q (evOf a) w->c.wp P (liftQ n Q) a w:=by
 intro c
 induction c with
 | skip=>exact fun Q a w _ B E h=>wp_skip ⟨B,E,h⟩
 | label l=>exact fun Q a w _ B E h=>wp_label ⟨B,E,h⟩
 | seq x y L M =>
  intro Q a w A B E h;simp only[codeOk,qN]at A;refine wp_seq (wp_mono (L _ a w A.1 B E h) fun e W w' T=>?_);obtain⟨I,J,H⟩:=T
  cases e with
  | normal=>exact M Q W w' A.2 I J H
  | exit i=>exact⟨I,J,H⟩
  | goto l=>exact⟨I,J,H⟩
  | ret=>exact⟨I,J,H⟩
  | panic ch=>exact⟨I,J,H⟩
  | outgrown=>exact⟨I,J,H⟩
 | cond c x y L M =>
  intro Q a w A B E h;simp only[codeOk,qN]at A;simp only[den]at h;split at h
  ·rename_i b O
   refine wp_cond (t:=b) (by rw[evO_evOf];exact O) ?_
   cases b with
   | true=>exact L Q a w A.1 B E (by simpa using h)
   | false=>exact M Q a w A.2 B E (by simpa using h)
  ·exact h.elim
 | block id c U =>
  intro Q a w A B E h;refine wp_block (wp_mono (U _ a w A B E h) fun e W w' T=>?_);obtain⟨I,J,H⟩:=T
  cases e with
  | exit i =>
   simp only[Exit.inBlock,blockQ_exit]at H ⊢;split
   ·rename_i hi;simp only[hi,if_true]at H;exact⟨I,J,H⟩
   ·rename_i hi;simp only[hi,if_false]at H;exact⟨I,J,H⟩
  | normal=>exact⟨I,J,H⟩
  | goto l=>exact⟨I,J,H⟩
  | ret=>exact⟨I,J,H⟩
  | panic ch=>exact⟨I,J,H⟩
  | outgrown=>exact⟨I,J,H⟩
 | exit id=>exact fun Q a w _ B E h=>wp_exit ⟨B,E,h⟩
 | ret=>exact fun Q a w _ B E h=>wp_ret ⟨B,E,h⟩
 | region id V d =>
  intro Q a w A B E h;simp only[codeOk,qN,Bool.or_eq_true,Bool.not_eq_true']at A;simp only[den]at h
  cases d with
  | true =>
   simp only[if_true]at h
   by_cases O:N.contains id=true
   ·simp only[O,if_true]at h
    exact h a B E rfl
   ·simp only[O]at h
    have R:lexAll P V=true:=by
     rcases A.2 with (h | h) | h
     ·cases h
     ·exact absurd h O
     ·exact h
    exact wp_draw R (denL_walk (fun a w I J H=>⟨I,J,H⟩) _ a _ A.1 B E h)
  | false =>
   simp only[qP,if_false]at h;exact wp_region_list (denL_list (fun a w I J H=>⟨I,J,H⟩) _ a _ A.1 B E h)
 | loop c U=>exact fun Q a w A B E h=>h A a B E rfl
 | rangeFunc f ps x y L M=>exact fun Q a w A B E h=>h a B E rfl
 | scope c U=>exact fun Q a w A B E h=>h a B E rfl
 | goto l=>exact fun Q a w A B E h=>h a B E rfl
 | refuse s=>exact fun Q a w A B E h=>h a B E rfl
def setAll (g:Ev):List Nat->List Value->Ev
 | s::A,v::vs=>upd (setAll g A vs) s v
 | _,_=>g
theorem setAll_self (ev:Ev):∀ (A:List Nat),setAll ev A (A.map ev)=ev
 | []=>rfl
 | s::A=>by
  simp only[List.map_cons,setAll,setAll_self ev A]
  funext i
  simp only[upd];split
  ·subst_vars;rfl
  ·rfl
theorem loopD {N:List Nat}{c:Code}{Q:Post}(A:List Nat)(I:Nat->List Value->World->Prop)(m0:Nat)
  (h0:I m0 (A.map ev) w)
  (O:∀ (m:Nat) (vs:List Value) (w:World) (g:Ev),I m vs w->den P n N c (thenQ (fun a5 w'=>∃ m',m'<m/\I m' (A.map a5) w') Q) (setAll g A vs) w) :
  LoopD P n N c Q ev w:=by
 intro a6 a Y Z a7;subst a7
 have key:∀ (m:Nat) (a:Act) (w:World), a.tmps.size=n->a.defers=[]->I m (A.map (evOf a)) w ->
   c.wp P (Exit.then (fun M w'=>(∃ m',m'<m/\I m' (A.map (evOf M)) w')/\M.tmps.size=n/\M.defers=[]) (liftQ n Q)) a w:=by
  intro m a w Y Z hI;have hr:=O m _ w (evOf a) hI;rw[setAll_self]at hr;refine wp_mono (den_sound P n N c _ a w a6 Y Z hr) fun e M w' L=>?_;obtain⟨U,V,W⟩:=L
  cases e with
  | normal=>exact⟨W,U,V⟩
  | exit i=>exact⟨U,V,W⟩
  | goto l=>exact⟨U,V,W⟩
  | ret=>exact⟨U,V,W⟩
  | panic ch=>exact⟨U,V,W⟩
  | outgrown=>exact⟨U,V,W⟩
 have all:∀ (m:Nat) (a:Act) (w:World), a.tmps.size=n->a.defers=[]->I m (A.map (evOf a)) w->∀ b k R,
   ∃ e M w',liftQ n Q e M w'/\Arrives P (lone (b.at a (.code c::.inLoop c::k)) R w) b k R e M w':=by
  intro m
  induction m using Nat.strongRecOn with
  | _ m ih =>
   intro a w Y Z hI b k R;obtain⟨e,E,H,L,B⟩:=key m a w Y Z hI b (.inLoop c::k) R
   cases e with
   | normal =>
    obtain⟨⟨m',a8,a9⟩,b0,b1⟩:=L;obtain⟨a0,a3,a4,T,J⟩:=ih m' a8 E H b0 b1 a9 b k R;exact⟨a0,a3,a4,T,.of_steps (Steps.trans B (.one step_inLoop)) J⟩
   | exit id=>exact⟨_,E,H,L,.pass (x:=.inLoop c) rfl (fun _ _=>.inl sm) B⟩
   | goto l=>exact⟨_,E,H,L,.pass (x:=.inLoop c) rfl (fun _ _=>.inl sm) B⟩
   | ret=>exact⟨_,E,H,L,.pass (x:=.inLoop c) rfl (fun _ _=>.inl sm) B⟩
   | panic ch=>exact⟨_,E,H,L,.pass (x:=.inLoop c) rfl (fun _ _=>.inl sm) B⟩
   | outgrown=>exact⟨_,E,H,L,.pass (x:=.inLoop c) rfl (fun _ _=>.inl sm) B⟩
 intro b k R;obtain⟨e,M,w',L,B⟩:=all m0 a w Y Z h0 b k R;exact⟨e,M,w',L,.of_steps (.one step_loop) B⟩
def ev0:List Value->Nat->Ev
 | [],_=>fun _=>undef
 | v::vs,k=>upd (ev0 vs (k+1)) k v
def pack:List Value->Value
 | [v]=>v
 | vs=>.tuple vs.toArray
def resQ (P:Program)(K:Value->World->Prop)(ev:Ev)(w:World):List ResultVar->List Value->Prop
 | [],vs=>K (pack vs) w
 | .tmp t::r,vs=>resQ P K ev w r (vs++[ev t])
 | .cell x t::r,vs=>match ev x with
  | .pointer (some ⟨b,o,none⟩)=>okO (rdO P t w b o) fun v=>resQ P K ev w r (vs++[v])
  | _=>False
def retQ (P:Program)(rs:List ResultVar)(K:Value->World->Prop):Post:=fun e ev w=>match e with | .normal | .ret=>resQ P K ev w rs [] | _=>False
@[simp] theorem retQ_normal (rs:List ResultVar) (K:Value->World->Prop):retQ P rs K .normal=fun ev w=>resQ P K ev w rs []:=rfl
@[simp] theorem retQ_ret (rs:List ResultVar) (K:Value->World->Prop):retQ P rs K .ret=fun ev w=>resQ P K ev w rs []:=rfl
@[simp] theorem retQ_exit (rs:List ResultVar) (K:Value->World->Prop) (i:Nat):retQ P rs K (.exit i)=fun _ _=>False:=rfl
theorem ev0_get:∀ (vs:List Value) (k i:Nat),ev0 vs k i=if k<=i then vs.getD (i - k) undef else undef
 | [],k,i=>by simp[ev0]
 | v::vs,k,i=>by
  simp only[ev0,upd,ev0_get vs (k+1) i]
  by_cases h:i=k
  ·subst h;simp
  ·simp only[h,if_false]
   by_cases B:k<=i
   ·have A:k+1<=i:=om
    simp only[B,A,if_true];rw[show i - k=(i - (k+1))+1 by omega]
    simp
   ·have A:¬ k+1<=i:=om
    simp[B,A]
theorem evOf_args (args:Array Value)(n:Nat):evOf { tmps:=args++Array.replicate n undef,defers:=[] }=ev0 args.toList 0:=by
 funext i
 rw[ev0_get];simp only[evOf,Nat.zero_le,if_true,Nat.sub_zero,xZ,Array.getElem?_append,gDq,Array.getElem?_toList];split
 ·rfl
 ·rename_i h
  rw[Array.getElem?_replicate];rw[show args[i]?=none from Array.getElem?_eq_none om]
  split <;> rfl
def rvSem (tmps:Array Value)(r:ResultVar):Sem Value :=
 match r with
 | .tmp t=>pure (tmps.getD t undef)
 | .cell a t=>do loadVar t (<- asAddr (tmps.getD a undef))
theorem results_eq (A:Func)(tmps:Array Value):results A tmps=(A.results.mapM (rvSem tmps)) >>= fun vs=>pure (if h:vs.size=1 then vs[0] else .tuple vs):=rfl
theorem r_resQ {K:Value->World->Prop}{ev:Ev}{w:World}{tmps:Array Value}(A:ev=fun i=>tmps.getD i undef):∀ (rs:List ResultVar) (vs:List Value), resQ P K ev w rs vs ->
  ∃ B,(rs.mapM (rvSem tmps)).run P w=.ok B w/\K (pack (vs++B)) w
 | [],vs,h=>⟨[],sm,by simpa [resQ] using h⟩
 | .tmp t::rs,vs,h=>by
  obtain⟨B,E,H⟩:=r_resQ A rs _ h;refine⟨ev t::B,?_,by simpa using H⟩;have I:(rvSem tmps (.tmp t)).run P w=.ok (ev t) w:=by simp[rvSem,A]
  simp only[List.mapM_cons,qU,E,I,qY,qG]
 | .cell x t::rs,vs,h=>by
  simp only[resQ]at h;split at h
  ·rename_i b o L
   obtain⟨v,M,h⟩:=qVb h;obtain⟨B,E,H⟩:=r_resQ A rs _ h;refine⟨v::B,?_,by simpa using H⟩;have J:tmps.getD x undef=.pointer (some ⟨b,o,none⟩):=by rw[A]at L;exact L
   have I:(rvSem tmps (.cell x t)).run P w=.ok v w:=by
    simp only[rvSem,qU,J,asAddr,qG,qY,r_loadVar M]
   simp only[List.mapM_cons,qU,E,I,qY,qG]
  ·exact h.elim
theorem r_results {A:Func}{a:Act}(h:resQ P K (evOf a) w A.results.toList []):∃ v,(results A a.tmps).run P w=.ok v w/\K v w:=by
 obtain⟨B,E,H⟩:=r_resQ rfl A.results.toList [] h;refine⟨pack B,?_,by simpa using H⟩;rw[results_eq,Array.mapM_eq_mapM_toList];simp only[qU,Sem.run_map,E,qY,qG]
 congr 1
 match B with
 | []=>rfl
 | [v]=>rfl
 | u::v::r=>simp[pack]
def qKc (A:Func):Code:=A.body.getD .skip
def DenF (P:Program)(A:Func)(B:List Nat)(args:Array Value)(w:World)(K:Value->World->Prop):Prop :=
 den P A.ntmps B (qKc A) (retQ P A.results.toList K) (ev0 args.toList 0) w
theorem fn_of_den {A:Func}(B:List Nat)(O:P.funcs[f]?=some A)(R:A.body.isSome=true)
  (H:codeOk P A.ntmps B (qKc A)=true) (I:args.size<=A.ntmps) (h:den P A.ntmps B (qKc A) (retQ P A.results.toList K) (ev0 args.toList 0) w):Fn P f args w K:=by
 unfold Fn
 have J:A.body=some (qKc A):=by
  unfold qKc
  cases h:A.body with
  | none=>simp[h]at R
  | some c=>rfl
 refine calls_of_wp O J ?_;have T:=den_sound P A.ntmps B (qKc A) (retQ P A.results.toList K) { tmps:=args++Array.replicate (A.ntmps - args.size) undef,defers:=[] } w H (by simp;omega) rfl (by rw[evOf_args];exact h);refine wp_mono T fun e V w' U=>?_;obtain⟨W,N,E⟩:=U
 cases e with
 | normal=>obtain⟨v,L,M⟩:=r_results E;exact⟨N,v,L,M⟩
 | ret=>obtain⟨v,L,M⟩:=r_results E;exact⟨N,v,L,M⟩
 | exit i=>exact E.elim
 | goto l=>exact E.elim
 | panic ch=>exact E.elim
 | outgrown=>exact E.elim
theorem fn_of_denF {E:Func}(A:List Nat)(I:P.funcs[f]?=some E)(J:E.body.isSome=true)
  (H:codeOk P E.ntmps A (qKc E)=true) (L:E.ntmps=n) (B:args.size<=n):DenF P E A args w K->Fn P f args w K :=
 fun h=>fn_of_den A I J H (L ▸ B) h
end
end Go.V
