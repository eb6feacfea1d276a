/- Helpers. -/
import Derived.Laws.Sem
import Derived.Laws.World
import Derived.Laws.Cells
import Derived.Laws.Small
import Derived.Still
import Derived.Orders
import Derived.KernelRfl
set_option linter.all false
set_option maxRecDepth 100000
set_option maxHeartbeats 8000000
open BitVec renaming ofInt->qQ
open List renaming mapM_cons->qX
open Option renaming bind_eq_some_iff->qZ,map_eq_some_iff->qJ,map_some->qK,bind_some->qV,bind_eq_bind->qW
open Go.Result renaming andThen_ok->qY
open Go.Sem renaming run_bind->qU,run_pure->qG
namespace Go.V
theorem dTo (p:Prop)[Decidable p](h:p:=by first | omega | (simp;omega)):decide p=true:=decide_eq_true h
theorem dFo (p:Prop)[Decidable p](h:¬p:=by first | omega | (simp;omega)):decide p=false:=decide_eq_false h
theorem iBd {i n:Nat}(h:i<n:=by omega):(0:Int)<=(i:Int)/\(i:Int)<(n:Int):=by omega
theorem iTn (n:Nat):(n:Int).toNat=n:=Int.toNat_natCast n
theorem oSi {α:Type _}(a b:α):(some a=some b)=(a=b):=Option.some.injEq a b
theorem lTk {α:Type _}{i:Nat}{l:List α}:(l.take i).length=min i l.length:=List.length_take
theorem lAp {α:Type _}{a b:List α}:(a++b).length=a.length+b.length:=List.length_append
theorem lDr {α:Type _}{i:Nat}{l:List α}:(l.drop i).length=l.length - i:=List.length_drop
theorem lRe {α:Type _}{n:Nat}{a:α}:(List.replicate n a).length=n:=List.length_replicate
theorem bSe {α:Type _}[BEq α][ReflBEq α](a:α):(a == a)=true:=beq_self_eq_true a
theorem bNe {α:Type _}[BEq α][LawfulBEq α](a:α):(a != a)=false:=bne_self_eq_false a
theorem bFn {α:Type _}[BEq α][LawfulBEq α]{a b:α}:(a == b)=false ↔ a≠b:=beq_eq_false_iff_ne
theorem gDq {α:Type _}{l:List α}{i:Nat}{a:α}:l.getD i a=l[i]?.getD a:=List.getD_eq_getElem?_getD
theorem tSg {α:Type _}{i:Nat}{l:List α}(h:i<l.length):l.take (i+1)=l.take i++[l[i]]:=List.take_succ_eq_append_getElem h
theorem _root_.om{p:Prop}(h:p:=by omega):p:=h
theorem _root_.x8{p:Prop}(h:p:=by kernel_rfl):p:=h
theorem _root_.sm{p:Prop}(h:p:=by simp):p:=h
theorem _root_.x9{p:Prop}(h:p:=by decide):p:=h
theorem _root_.j0{p:Prop}(h:p:=by trivial):p:=h
theorem _root_.as_{p:Prop}(h:p:=by assumption):p:=h
theorem gLa {α:Type _}{xs:List α}{i:Nat}:xs.toArray[i]?=xs[i]?:=List.getElem?_toArray
theorem gLz {α:Type _}{a:α}{l:List α}:(a::l)[0]?=some a:=rfl
theorem gLs {α:Type _}{a:α}{l:List α}{i:Nat}:(a::l)[i+1]?=l[i]?:=rfl
end Go.V
namespace Go.V
abbrev Ev:=Nat->Value
def upd (A:Ev)(d:Nat)(v:Value):Ev:=fun i=>if i=d then v else A i
def updO (A:Ev)(d:Option Nat)(v:Value):Ev:=match d with | some d=>upd A d v | none=>A
def evO (A:Ev):Operand->Value
 | .tmp t=>A t
 | .const v=>v
 | .global g=>.pointer (some ⟨g,0,none⟩)
 | .func f=>.func (.func f) #[] #[]
def evOf (a:Act):Ev:=fun i=>a.tmps.getD i undef
theorem evO_evOf (a:Act)(x:Operand):a.eval x=evO (evOf a) x:=by cases x <;> rfl
theorem qXk (a:Act):a.eval=evO (evOf a):=funext (evO_evOf a)
theorem evOf_put {a:Act}{d:Nat}(v:Value)(h:d<a.tmps.size):evOf (a.put (some d) v)=upd (evOf a) d v:=by
 funext i
 simp only[evOf,upd,Act.put,Array.getD_eq_getD_getElem?]
 by_cases hi:i=d
 ·subst hi;simp[h]
 ·rw[Array.getElem?_setIfInBounds_ne (Ne.symm hi)];simp[hi]
theorem qVa (a:Act)(d:Option Nat)(v:Value):(a.put d v).tmps.size=a.tmps.size:=by
 cases d <;> simp[Act.put]
theorem qJa (a:Act)(d:Option Nat)(v:Value):(a.put d v).defers=a.defers:=by
 cases d <;> rfl
def dstOk (n:Nat)(d:Option Nat):Bool:=match d with | some d=>decide (d<n) | none=>true
theorem qKa {a:Act}{n:Nat}{d:Option Nat}(v:Value)(A:a.tmps.size=n)(h:dstOk n d=true) :
  evOf (a.put d v)=updO (evOf a) d v:=by
 cases d with
 | none=>rfl
 | some d=>exact evOf_put v (by simpa [dstOk,A] using h)
def aggO (P:Program)(t:TypeId):Option Bool:=(P.underlying t).map fun | .struct _ | .array _ _=>true | _=>false
def szO (P:Program)(t:TypeId):Option Nat:=(P.info? t).map (·.size)
def zeroO (P:Program)(t:TypeId):Option Value:=(P.info? t).bind (·.zero)
def qQo (P:Program)(s f:Nat):Option (Nat × TypeId) :=
 match P.underlying s with
 | some (.struct B)=>match B[f]? with
  | some A=>match P.info? A.type with
   | some i=>if i.size=0 then none else some (A.offset,A.type)
   | none=>none
  | none=>none
 | _=>none
def arrO (P:Program)(t:TypeId):Option (Nat × TypeId):=match P.underlying t with | some (.array n e)=>some (n,e) | _=>none
def slcO (P:Program)(t:TypeId):Option TypeId:=match P.underlying t with | some (.slice e)=>some e | _=>none
def intO (P:Program)(t:TypeId):Option IntKind:=match P.underlying t with | some (.int k)=>some k | _=>none
def strO (P:Program)(t:TypeId):Bool:=match P.underlying t with | some .string=>true | _=>false
def mapO (P:Program)(t:TypeId):Option (TypeId × TypeId):=match P.underlying t with | some (.map k e)=>some (k,e) | _=>none
def flatT (P:Program)(t:TypeId):Bool:=match P.underlying t with | some .bool | some (.int _) | some .string=>true | _=>false
def qKp (P:Program)(t:TypeId):Bool:=match P.underlying t with | some (.interface _)=>true | _=>false
def qXh (P:Program)(t:TypeId):Option (List (Nat × Nat)) :=
 match P.underlying t with
 | some (.struct A)=>A.toList.mapM fun f=>(P.info? f.type).map fun i=>(f.offset,i.size)
 | _=>none
def qQg (P : Program) (f : FuncId) : Bool := match P.funcs[f]? with | some A => A.name != "runtime.NumGoroutine" && A.body.isSome | none => false
def put (w:World)(b:Nat)(o:Obj):World:={ w with heap:=w.heap.setIfInBounds b o }
def one (v:Value):Bool:=match v with | .agg _ | .tuple _=>false | _=>true
def ldO (P:Program)(t:TypeId)(A:Option Obj)(o:Nat):Option Value :=
 match A with
 | some (.cells c _ _) =>
  match aggO P t with
  | some true=>match szO P t with
   | some n=>if o+n<=c.size then some (.agg (c.extract o (o+n))) else none
   | none=>none
  | some false=>c[o]?
  | none=>none
 | _=>none
def qXz:List Value->Nat->Array Value->Array Value
 | [],_,c=>c
 | v::r,o,c=>qXz r (o+1) (c.setIfInBounds o v)
def stO (P:Program)(t:TypeId)(A:Option Obj)(o:Nat)(v:Value):Option Obj :=
 match A with
 | some (.cells c e (0,0)) =>
  if szO P t=some v.cells.size/\o+v.cells.size<=c.size/\v.cells.all one=true then some (.cells (qXz v.cells.toList o c) e (0,0)) else none
 | _=>none
def rdO (P:Program)(t:TypeId)(w:World)(b o:Nat):Option Value:=ldO P t w.heap[b]? o
def wrO (P:Program)(t:TypeId)(w:World)(b o:Nat)(v:Value):Option World:=(stO P t w.heap[b]? o v).map (put w b)
def okO {α:Type}(r:Option α)(K:α->Prop):Prop:=match r with | some a=>K a | none=>False
@[simp] theorem okO_some {α:Type} (a:α) (K:α->Prop):okO (some a) K=K a:=rfl
@[simp] theorem okO_none {α:Type} (K:α->Prop):okO none K=False:=rfl
theorem qVb {α:Type}{r:Option α}{K:α->Prop}(h:okO r K):∃ a,r=some a/\K a:=by
 cases r with
 | none=>exact h.elim
 | some a=>exact⟨a,rfl,h⟩
def boolT (P:Program)(t:TypeId):Bool:=match P.underlying t with | some .bool=>true | _=>false
def andK (k:IntKind)(a b:Int):Int:=k.wrap (qQ k.bits a &&& qQ k.bits b).toNat
def orK (k:IntKind)(a b:Int):Int:=k.wrap (qQ k.bits a ||| qQ k.bits b).toNat
def xorK (k:IntKind)(a b:Int):Int:=k.wrap (qQ k.bits a ^^^ qQ k.bits b).toNat
def andNotK (k:IntKind)(a b:Int):Int:=k.wrap (qQ k.bits a &&& ~~~qQ k.bits b).toNat
def notK (k:IntKind)(n:Int):Int:=k.wrap (qQ k.bits (if k.signed then -1 else k.max) ^^^ qQ k.bits n).toNat
def shlK (k:IntKind)(a b:Int):Int:=k.wrap (a*2 ^ (min b.toNat k.bits))
def shrK (k:IntKind)(a b:Int):Int:=a.fdiv (2 ^ (min b.toNat k.bits))
def binP (A:Bool)(op:BinOp)(x y:Value):Option Value :=
 match x,y with
 | .int k a,.int B b =>
  match op with
  | .shl=>if b<0 then none else some (.int k (shlK k a b))
  | .shr=>if b<0 then none else some (.int k (shrK k a b))
  | _=>if k≠B then none else
   match op with
   | .add=>some (.int k (k.wrap (a+b)))
   | .sub=>some (.int k (k.wrap (a - b)))
   | .mul=>some (.int k (k.wrap (a*b)))
   | .quo=>if b=0 then none else some (.int k (k.wrap (a.tdiv b)))
   | .rem=>if b=0 then none else some (.int k (a.tmod b))
   | .and=>some (.int k (andK k a b))
   | .or=>some (.int k (orK k a b))
   | .xor=>some (.int k (xorK k a b))
   | .andNot=>some (.int k (andNotK k a b))
   | .eql=>some (.bool (a == b))
   | .neq=>some (.bool (a != b))
   | .lss=>some (.bool (decide (a<b)))
   | .leq=>some (.bool (decide (a<=b)))
   | .gtr=>some (.bool (decide (a > b)))
   | .geq=>some (.bool (decide (a ≥ b)))
   | _=>none
 | .bool a,.bool b =>
  if A=true then (match op with
   | .eql=>some (.bool (a == b))
   | .neq=>some (.bool (!(a == b)))
   | _=>none) else none
 | .string a,.string b =>
  match op with
  | .add=>if ((a.size+b.size:Nat):Int) > IntKind.i64.max then none else some (.string (a++b))
  | .eql=>some (.bool (a.toList == b.toList))
  | .neq=>some (.bool (!(a.toList == b.toList)))
  | .lss=>some (.bool (Op.bytesLess a.toList b.toList))
  | _=>none
 | _,_=>none
def nilOk:Value->Bool
 | .pointer (some _)=>true
 | .func (.func _) _ _=>true
 | .iface _ _=>true
 | _=>false
def partO (P:Program)(t:TypeId)(A:Array Value)(off:Nat):Option Value :=
 match aggO P t with
 | some true=>(szO P t).map fun n=>.agg (A.extract off (off+n))
 | some false=>A[off]?
 | none=>none
def sbO (x:Value)(y:Nat):Option Nat:=match x with | .int _ i=>if 0<=i/\i<=y then some i.toNat else none | _=>none
def optB (x:Option Value)(y d:Nat):Option Nat:=match x with | some v=>sbO v y | none=>some d
def qQw (P:Program)(t:TypeId)(x:Value)(lo hi A:Option Value):Option Value :=
 match arrO P t with
 | some (n,e) =>
  match x with
  | .pointer (some a) =>
   match A with
   | some _=>none
   | none=>(optB hi n n).bind fun h=>(optB lo h 0).bind fun l=>(szO P e).map fun s=>.slice (some (if n=l then a else a.add (l*s))) (h - l) (n - l)
  | _=>none
 | none =>
  match x with
  | .string s=>if strO P t=true then (if A.isSome then none else (optB hi s.size s.size).bind fun h=>(optB lo h 0).map fun l=>.string (s.extract l h)) else none
  | .slice a len cap =>
   (slcO P t).bind fun e=>(optB A cap cap).bind fun m=>(match hi,A with | none,some _=>none | some v,_=>sbO v m | none,none=>some len).bind fun h =>
    (optB lo h 0).bind fun l=>(szO P e).map fun s=>.slice (if m=l then a else a.map (fun (q:Addr)=>q.add (l*s))) (h - l) (m - l)
  | _=>none
def bldO (P:Program)(t:TypeId)(parts:List (Nat × Value)):Option Value :=
 (zeroO P t).bind fun z =>
 match qXh P t with
 | some ps=>(Instr.fill (ps[·]?) z.cells parts).map .agg
 | none=>match arrO P t with
  | some (_,e)=>(szO P e).bind fun s=>(Instr.fill (fun i=>some (i*s,s)) z.cells parts).map .agg
  | none=>none
def minL:Value->List Value->Option Value
 | x,[]=>some x
 | .int k a,.int _ b::r=>minL (.int k (if b<a then b else a)) r
 | _,_::_=>none
def maxL:Value->List Value->Option Value
 | x,[]=>some x
 | .int k a,.int _ b::r=>maxL (.int k (if b > a then b else a)) r
 | _,_::_=>none
def lenP (P:Program)(t:TypeId)(x:Value):Option Value :=
 match arrO P t with
 | some (n,_)=>some (.int .i64 n)
 | none=>match x with
  | .string s=>if strO P t=true then some (.int .i64 s.size) else none
  | .slice _ n _=>(slcO P t).map fun _=>.int .i64 n
  | _=>none
def biP (P:Program)(b:Builtin)(ts:Array TypeId)(args:List Value):Option Value :=
 match b,args with
 | .len,[x]=>ts[0]?.bind fun t=>lenP P t x
 | .cap,[.slice _ _ c]=>ts[0]?.bind fun t=>(slcO P t).map fun _=>.int .i64 c
 | .min,x::r=>minL x r
 | .max,x::r=>maxL x r
 | _,_=>none
def stepP (P:Program)(A:Ev)(op:Op):Option Value :=
 match op with
 | .move x | .assign x=>some (evO A x)
 | .pick c a b=>match evO A c with | .bool t=>some (if t then evO A a else evO A b) | _=>none
 | .nilCheck x=>if nilOk (evO A x)=true then some (evO A x) else none
 | .binOp op t x y _=>if flatT P t=true then binP (boolT P t) op (evO A x) (evO A y) else none
 | .unOp op _ x=>match op,evO A x with
  | .neg,.int k n=>some (.int k (k.wrap (0 - n)))
  | .xor,.int k n=>some (.int k (notK k n))
  | .not,.bool b=>some (.bool !b)
  | _,_=>none
 | .convert I E x=>match aggO P I,intO P E,evO A x with
  | some _,some k,.int _ n=>some (.int k (k.wrap n))
  | some _,none,.string s=>if strO P E=true then some (.string s) else none
  | _,_,_=>none
 | .fieldAddr s x f=>match evO A x with
  | .pointer (some a)=>(qQo P s f).map fun p=>.pointer (some (a.add p.1))
  | _=>none
 | .field t x f=>match evO A x with
  | .agg J=>(qQo P t f).bind fun p=>partO P p.2 J p.1
  | _=>none
 | .indexAddr t x i=>match evO A i with
  | .int _ n=>match arrO P t with
   | some (len,e)=>match evO A x with
    | .pointer (some a)=>if 0<=n/\n<len then (szO P e).map fun s=>.pointer (some (a.add (n.toNat*s))) else none
    | _=>none
   | none=>match evO A x with
    | .slice (some a) len _=>if 0<=n/\n<len then (slcO P t).bind fun e=>(szO P e).map fun s=>.pointer (some (a.add (n.toNat*s))) else none
    | _=>none
  | _=>none
 | .index t x i=>match evO A i with
  | .int _ n=>match evO A x with
   | .agg J=>(arrO P t).bind fun p=>if 0<=n/\n<p.1 then (szO P p.2).bind fun s=>partO P p.2 J (n.toNat*s) else none
   | .string s=>if strO P t=true/\0<=n then s[n.toNat]?.map fun b=>.int .u8 b.toNat else none
   | _=>none
  | _=>none
 | .slice t x lo hi L=>qQw P t (evO A x) (lo.map (evO A)) (hi.map (evO A)) (L.map (evO A))
 | .extract t i=>match evO A t with | .tuple vs=>vs[i]? | _=>none
 | .build t parts=>bldO P t (parts.toList.map fun p=>(p.1,evO A p.2))
 | .makeInterface t x=>(aggO P t).bind fun _=>if qKp P t=true then none else some (.iface t (evO A x))
 | .makeFunc M first B=>some (.func M (first.map (evO A)) (B.map (evO A)))
 | .call { callee:=.builtin b,args,argTypes }=>biP P b argTypes (args.toList.map (evO A))
 | .sliceToArrayPointer t x=>match evO A x with
  | .slice a len _=>(arrO P t).bind fun p=>if p.1<=len then some (.pointer a) else none
  | _=>none
 | _=>none
section
variable {P:Program}
theorem r_und {t:TypeId}{d:TypeDesc}(h:P.underlying t=some d)(w:World):(underlying t).run P w=.ok d w:=by
 simp[underlying,h]
theorem qZd {t:TypeId}{n:Nat}(h:szO P t=some n)(w:World):(sizeOf t).run P w=.ok n w:=by
 unfold szO at h
 cases hi:P.info? t with
 | none=>simp[hi]at h
 | some i=>simp only[hi,qK,oSi]at h;simp[sizeOf,typeInfo,hi,h]
theorem r_zero {t:TypeId}{z:Value}(h:zeroO P t=some z)(w:World):(zeroValue t).run P w=.ok z w:=by
 unfold zeroO at h
 cases hi:P.info? t with
 | none=>simp[hi]at h
 | some i=>simp only[hi,qV]at h;simp[zeroValue,typeInfo,hi,h]
theorem aggO_und {t:TypeId}{b:Bool}(h:aggO P t=some b):∃ d,P.underlying t=some d:=by
 unfold aggO at h
 cases A:P.underlying t with
 | none=>simp[A]at h
 | some d=>exact⟨d,rfl⟩
theorem r_agg {t:TypeId}{b:Bool}(h:aggO P t=some b)(w:World):(isAgg t).run P w=.ok b w:=by
 obtain⟨d,A⟩:=aggO_und h;simp only[aggO,A,qK,oSi]at h;simp only[isAgg,qU,r_und A,qY]
 cases d <;> simp_all
theorem qVj {t:TypeId}{n:Nat}{e:TypeId}(h:arrO P t=some (n,e)):P.underlying t=some (.array n e):=by
 unfold arrO at h;split at h
 ·simp only[oSi,Prod.mk.injEq]at h;obtain⟨rfl,rfl⟩:=h;assumption
 ·cases h
theorem qZe {t:TypeId}{e:TypeId}(h:slcO P t=some e):P.underlying t=some (.slice e):=by
 unfold slcO at h;split at h
 ·simp only[oSi]at h;subst h;assumption
 ·cases h
theorem qJe {t:TypeId}{k:IntKind}(h:intO P t=some k):P.underlying t=some (.int k):=by
 unfold intO at h;split at h
 ·simp only[oSi]at h;subst h;assumption
 ·cases h
theorem strO_und {t:TypeId}(h:strO P t=true):P.underlying t=some .string:=by
 unfold strO at h;split at h
 ·assumption
 ·cases h
theorem mapO_und {t:TypeId}{k e:TypeId}(h:mapO P t=some (k,e)):P.underlying t=some (.map k e):=by
 unfold mapO at h;split at h
 ·simp only[oSi,Prod.mk.injEq]at h;obtain⟨rfl,rfl⟩:=h;assumption
 ·cases h
theorem r_part {t:TypeId}{E:Array Value}{off:Nat}{v:Value}(h:partO P t E off=some v)(w:World):(part t E off).run P w=.ok v w:=by
 unfold partO at h;split at h
 ·rename_i A
  cases B:szO P t with
  | none=>simp[B]at h
  | some n=>simp only[B,qK,oSi]at h;simp[part,r_agg A,qZd B,h]
 ·rename_i A
  simp[part,r_agg A,h]
 ·cases h
theorem fieldO_spec {s f:Nat}{off:Nat}{t:TypeId}(h:qQo P s f=some (off, t)) :
  ∃ B A n,P.underlying s=some (.struct B)/\B[f]?=some A/\A.offset=off/\A.type=t/\szO P A.type=some n/\n≠0:=by
 unfold qQo at h;split at h
 ·rename_i B hfs
  split at h
  ·rename_i A E
   split at h
   ·rename_i i hi
    split at h
    ·cases h
    ·rename_i H
     simp only[oSi,Prod.mk.injEq]at h;exact⟨B,A,i.size,hfs,E,h.1,h.2,by simp[szO,hi],H⟩
   ·cases h
  ·cases h
 ·cases h
theorem r_sb {x:Value}{y m:Nat}(h:sbO x y=some m)(A:BoundsCode)(w:World):(Instr.sliceBound x y A).run P w=.ok m w:=by
 unfold sbO at h;split at h
 ·split at h
  ·rename_i k i hi
   simp only[oSi]at h;simp[Instr.sliceBound,asIntOf,hi,h]
  ·cases h
 ·cases h
theorem r_mapM {α E:Type}(F:α->Sem E)(G:α->Option E)(h:∀ x y, G x=some y->∀ w, (F x).run P w=.ok y w) :
  ∀ (l:List α) (ps:List E),l.mapM G=some ps->∀ w,(l.mapM F).run P w=.ok ps w
 | [],ps,A,w=>by simp at A;subst A;simp
 | x::l,ps,A,w=>by
  simp only[qX,qW,qZ]at A;obtain⟨p,H,I,J,B⟩:=A;simp at B;simp only[qX,qU,h x p H,qY,r_mapM F G h l I J,qG,B]
theorem r_build {t:TypeId}{parts:List (Nat × Value)}{v:Value}(h:bldO P t parts=some v)(w:World) :
  (Instr.build t parts.toArray).run P w=.ok v w:=by
 unfold bldO at h
 cases H:zeroO P t with
 | none=>simp[H]at h
 | some z =>
  simp only[H,qV]at h;split at h
  ·rename_i ps A
   unfold qXh at A;split at A
   ·rename_i L hfs
    cases B:Instr.fill (ps[·]?) z.cells parts with
    | none=>simp[B]at h
    | some cells =>
     simp only[B,qK,oSi]at h
     have I:∀ w,(L.mapM (m:=Sem) fun f=>do pure (f.offset,<- sizeOf f.type)).run P w=.ok ps.toArray w:=by
      intro w;rw[Array.mapM_eq_mapM_toList]
      have:=r_mapM (P:=P) (fun f:Field=>(do pure (f.offset,<- sizeOf f.type):Sem (Nat × Nat))) (fun f=>(P.info? f.type).map fun i=>(f.offset,i.size))
       (fun f p J w=>by
        cases hi:P.info? f.type with
        | none=>simp[hi]at J
        | some i =>
         simp only[hi,qK,oSi]at J;have E:szO P f.type=some i.size:=by simp[szO,hi]
         simp[qZd E,J]) L.toList ps A
      simp only[Sem.run_map,this,qY]
     simp only[Instr.build,qU,r_zero H,qY,r_und hfs,I];have e:(fun x:Nat=>ps.toArray[x]?)=(fun x:Nat=>ps[x]?):=by funext x;simp
     rw[e,B];simp[h]
   ·cases A
  ·split at h
   ·rename_i n e M
    cases E:szO P e with
    | none=>simp[E]at h
    | some s =>
     simp only[E,qV]at h
     cases B:Instr.fill (fun i=>some (i*s,s)) z.cells parts with
     | none=>simp[B]at h
     | some cells =>
      simp only[B,qK,oSi]at h;simp[Instr.build,r_zero H,r_und (qVj M),qZd E,B,h]
   ·cases h
theorem r_slice {t:TypeId}{x:Value}{lo hi H:Option Value}{v:Value}(h:qQw P t x lo hi H=some v)(w:World) :
  (Instr.sliceAt t x lo hi H).run P w=.ok v w:=by
 unfold qQw at h;split at h
 ·rename_i n e L
  split at h
  ·rename_i a
   split at h
   ·cases h
   ·simp only[qZ,qJ]at h
    obtain⟨M,B,l,A,s,E,rfl⟩:=h;simp only[Instr.sliceAt,qU,r_und (qVj L),qY,Instr.sureAddr,qG,Instr.sliceBounds]
    cases hi with
    | none =>
     simp only[optB,oSi]at B;subst B
     cases lo with
     | none=>simp only[optB,oSi]at A;subst A;simp[qZd E]
     | some lo=>simp only[optB]at A;simp[qZd E,r_sb A]
    | some hi =>
     simp only[optB]at B
     cases lo with
     | none=>simp only[optB,oSi]at A;subst A;simp[qZd E,r_sb B]
     | some lo=>simp only[optB]at A;simp[qZd E,r_sb A,r_sb B]
  ·cases h
 ·rename_i N
  split at h
  ·rename_i s
   split at h
   ·rename_i O
    split at h
    ·cases h
    ·rename_i R
     have I:H=none:=by cases H <;> simp_all
     subst I;simp only[qZ,qJ]at h;obtain⟨M,B,l,A,rfl⟩:=h;simp only[Instr.sliceAt,qU,r_und (strO_und O),qY,Instr.slice,Instr.sliceBounds]
     cases hi with
     | none =>
      simp only[optB,oSi]at B;subst B
      cases lo with
      | none=>simp only[optB,oSi]at A;subst A;simp
      | some lo=>simp only[optB]at A;simp[r_sb A]
     | some hi =>
      simp only[optB]at B
      cases lo with
      | none=>simp only[optB,oSi]at A;subst A;simp[r_sb B]
      | some lo=>simp only[optB]at A;simp[r_sb A,r_sb B]
   ·cases h
  ·rename_i a len cap
   simp only[qZ,qJ]at h;obtain⟨e,L,m,J,M,B,l,A,s,E,rfl⟩:=h;simp only[Instr.sliceAt,qU,r_und (qZe L),qY,Instr.slice,Instr.sliceBounds]
   cases H with
   | none =>
    simp only[optB,oSi]at J;subst J
    cases hi with
    | none =>
     simp only[oSi]at B;subst B
     cases lo with
     | none=>simp only[optB,oSi]at A;subst A;simp[qZd E]
     | some lo=>simp only[optB]at A;simp[qZd E,r_sb A]
    | some hi =>
     simp only at B
     cases lo with
     | none=>simp only[optB,oSi]at A;subst A;simp[qZd E,r_sb B]
     | some lo=>simp only[optB]at A;simp[qZd E,r_sb A,r_sb B]
   | some H =>
    simp only[optB]at J
    cases hi with
    | none=>cases B
    | some hi =>
     simp only at B
     cases lo with
     | none=>simp only[optB,oSi]at A;subst A;simp[qZd E,r_sb B,r_sb J]
     | some lo=>simp only[optB]at A;simp[qZd E,r_sb A,r_sb B,r_sb J]
  ·cases h
theorem r_minL:∀ (r:List Value) (x v:Value),minL x r=some v->∀ w,(r.foldlM Builtin.min2 x).run P w=.ok v w
 | [],x,v,h,w=>by simp[minL]at h;simp[h]
 | y::r,x,v,h,w=>by
  cases x <;> cases y <;> simp only[minL]at h <;> try cases h
  simp only[List.foldlM_cons,qU,Builtin.min2,qG,qY];exact r_minL r _ v h w
theorem r_maxL:∀ (r:List Value) (x v:Value),maxL x r=some v->∀ w,(r.foldlM Builtin.max2 x).run P w=.ok v w
 | [],x,v,h,w=>by simp[maxL]at h;simp[h]
 | y::r,x,v,h,w=>by
  cases x <;> cases y <;> simp only[maxL]at h <;> try cases h
  simp only[List.foldlM_cons,qU,Builtin.max2,qG,qY];exact r_maxL r _ v h w
theorem r_biP {b:Builtin}{ts:Array TypeId}{ty:TypeId}{cons:Array Bool}{args:List Value}{v:Value}(h:biP P b ts args=some v)(w:World) :
  (builtin b ts ty cons args.toArray).run P w=.ok (.value v) w:=by
 unfold biP at h;split at h
 ·rename_i x
  simp only[qZ]at h;obtain⟨t,A,h⟩:=h;unfold lenP at h;split at h
  ·rename_i n e B
   simp only[oSi]at h;subst h;simp[builtin,Builtin.len_,A,r_und (qVj B),goInt]
  ·split at h
   ·split at h
    ·rename_i E
     simp only[oSi]at h;subst h;simp[builtin,Builtin.len_,A,r_und (strO_und E),goInt]
    ·cases h
   ·simp only[qJ]at h
    obtain⟨e,B,rfl⟩:=h;simp[builtin,Builtin.len_,A,r_und (qZe B),goInt]
   ·cases h
 ·simp only[qZ,qJ]at h
  obtain⟨t,A,e,B,rfl⟩:=h;simp[builtin,Builtin.cap_,A,r_und (qZe B),goInt]
 ·simp[builtin,Builtin.min_,r_minL _ _ _ h]
 ·simp[builtin,Builtin.max_,r_maxL _ _ _ h]
 ·cases h
theorem boolT_und {t:TypeId}(h:boolT P t=true):P.underlying t=some .bool:=by
 unfold boolT at h;split at h
 ·assumption
 ·cases h
theorem r_binP {op:BinOp}{t:TypeId}{x y:Operand}{a b v:Value}(h:binP (boolT P t) op a b=some v)(w:World) :
  (do eqGuard op t x y a b;binOp op t a b:Sem Value).run P w=.ok v w:=by
 unfold binP at h;split at h
 ·rename_i k a E b
  split at h
  ·split at h
   ·cases h
   ·rename_i A
    simp only[oSi]at h;subst h;simp[eqGuard,binOp,Op.shift,A,shlK]
  ·split at h
   ·cases h
   ·rename_i A
    simp only[oSi]at h;subst h;simp[eqGuard,binOp,Op.shift,A,shrK]
  ·split at h
   ·cases h
   ·rename_i H
    have B:k=E:=by simpa using H
    subst B
    cases op <;> simp only at h <;> (try split at h) <;> (try cases h) <;>
     simp_all [eqGuard,binOp,Op.intArith,Op.intDiv,Op.intBits,Op.intCmp,andK,orK,xorK,andNotK]
 ·rename_i a b
  split at h
  ·rename_i I
   cases op <;> simp only at h <;> cases h <;> simp[eqGuard,binOp,run_equal_bool w t a b (boolT_und I)]
  ·cases h
 ·rename_i a b
  cases op <;> simp only at h <;> (try split at h) <;> cases h <;> simp_all [eqGuard,binOp,Op.stringOp]
 ·cases h
end
section
variable {P:Program}
theorem stepP_sound {a:Act}{o:Oper}{v:Value}(h:stepP P (evOf a) o.op=some v)(w:World) :
  (execOp a.eval o).run P w=.ok (.value v) w:=by
 obtain⟨dst,op,ty,pos,after,guard⟩:=o;unfold stepP at h;simp only at h
 split at h <;> simp only[execOp,qU,qXk]
 case h_1 | h_2=>simp only[oSi]at h;simp[h]
 case h_3 =>
  split at h
  ·rename_i t ht;simp only[oSi]at h;subst h;cases t <;> simp[ht,asBool]
  ·cases h
 case h_4 x =>
  split at h
  ·rename_i T
   simp only[oSi]at h;subst h;generalize evO (evOf a) x=u at T ⊢;unfold nilOk at T
   split at T <;> simp_all
  ·cases h
 case h_5 bop t x y _ =>
  split at h
  ·have:=r_binP (x:=x) (y:=y) h w
   simp only[qU]at this
   cases E:(eqGuard bop t x y (evO (evOf a) x) (evO (evOf a) y)).run P w with
   | ok u w'=>rw[E]at this;simp only[qY]at this ⊢;simp[this]
   | halt u w'=>rw[E]at this;simp at this
  ·cases h
 case h_6 =>
  split at h <;> cases h <;> simp_all [Op.unary,Op.intArith,Op.intBits,notK]
 case h_7 src dst x =>
  split at h
  ·rename_i b k kk n E N I
   simp only[oSi]at h;subst h;obtain⟨d,O⟩:=aggO_und E;simp[convert,r_und O,r_und (qJe N),I,Conv.intToInt]
  ·rename_i b s E N I
   split at h
   ·rename_i H
    simp only[oSi]at h;subst h;obtain⟨d,O⟩:=aggO_und E;simp[convert,r_und O,r_und (strO_und H),I]
   ·cases h
  ·cases h
 case h_8 s x f =>
  split at h
  ·rename_i ad B
   simp only[qJ]at h;obtain⟨⟨off,t⟩,U,rfl⟩:=h;obtain⟨fs,fd,n,E,N,I,h4,h5,h6⟩:=fieldO_spec U;simp[Instr.fieldAt,r_und E,N,Instr.sureAddr,B,fieldPlace,qZd h5,h6,I]
  ·cases h
 case h_9 t x f =>
  split at h
  ·rename_i cs J
   simp only[qZ]at h;obtain⟨⟨off,t'⟩,U,V⟩:=h;obtain⟨fs,fd,n,E,N,I,h4,h5,h6⟩:=fieldO_spec U;subst I h4;simp[Instr.field,r_und E,N,J,asAgg,r_part V]
  ·cases h
 case h_10 t x i =>
  split at h
  ·rename_i k n L
   split at h
   ·rename_i len e M
    split at h
    ·rename_i ad B
     split at h
     ·rename_i A
      simp only[qJ]at h;obtain⟨s,H,rfl⟩:=h;simp[Instr.indexAt,asIntOf,L,r_und (qVj M),B,Instr.sureAddr,A,qZd H]
     ·cases h
    ·cases h
   ·split at h
    ·rename_i ad len cap B
     split at h
     ·rename_i A
      simp only[qZ,qJ]at h;obtain⟨e,M,s,H,rfl⟩:=h;simp[Instr.indexAt,asIntOf,L,r_und (qZe M),B,A,qZd H]
     ·cases h
    ·cases h
  ·cases h
 case h_11 t x i =>
  split at h
  ·rename_i k n L
   split at h
   ·rename_i cs J
    simp only[qZ]at h;obtain⟨⟨len,e⟩,M,h⟩:=h;split at h
    ·rename_i A
     simp only[qZ]at h;obtain⟨s,H,V⟩:=h;simp only at A;simp[Instr.index,asIntOf,L,r_und (qVj M),J,A,qZd H,r_part V]
    ·cases h
   ·rename_i s H
    split at h
    ·rename_i R
     simp only[qJ]at h;obtain⟨b,W,rfl⟩:=h;simp[Instr.index,asIntOf,L,r_und (strO_und R.1),H,R.2,W]
    ·cases h
   ·cases h
  ·cases h
 case h_12=>simp[r_slice h]
 case h_13 =>
  split at h
  ·rename_i vs Y;simp[Instr.extract,Y,h]
  ·cases h
 case h_14 t parts =>
  have:=r_build h w
  have e:(parts.map fun x:Nat × Operand=>(x.1,evO (evOf a) x.2))=(parts.toList.map fun p=>(p.1,evO (evOf a) p.2)).toArray:=by
   apply Array.toList_inj.1;rw[Array.toList_map]
  simp only[e,this,qY,qG]
 case h_15 t x =>
  simp only[qZ]at h;obtain⟨b,W,h⟩:=h;split at h
  ·cases h
  ·rename_i hi
   simp only[oSi]at h;subst h;obtain⟨d,O⟩:=aggO_und W;simp only[qKp,O]at hi;simp only[Instr.makeInterface,qU,r_und O,qY]
   cases d <;> simp_all
 case h_16=>simp only[oSi]at h;subst h;simp[Instr.makeFunc]
 case h_17 b args ts =>
  have:=r_biP (ty:=ty) (cons:=args.map fun | .const _=>true | _=>false) h w;simp only[resolve,qG,qY,invoke]
  have e:(args.toList.map (evO (evOf a))).toArray=args.map (evO (evOf a)):=by
   apply Array.toList_inj.1;rw[Array.toList_map]
  rw[e]at this;exact this
 case h_18 t x =>
  split at h
  ·rename_i a len cap hx
   simp only[qZ]at h;obtain⟨⟨n,e⟩,M,h⟩:=h;split at h
   ·rename_i L
    simp only[oSi]at h;subst h;have Z:¬ len<n:=by simp only at L;omega
    simp[Instr.arrayAt,hx,r_und (qVj M),Z]
   ·cases h
  ·cases h
 case h_19=>cases h
def eqV (P:Program):Nat->TypeId->Value->Value->Option Bool
 | 0,_,_,_=>none
 | d+1,t,x,y =>
  match P.underlying t,x,y with
  | some .bool,.bool a,.bool b=>some (a == b)
  | some (.int _),.int k a,.int B b=>if k=B then some (a == b) else none
  | some .string,.string a,.string b=>some (a == b)
  | some (.struct E),.agg xs,.agg A =>
   if P.stoodInHeld t=true then none else
   (E.toList.mapM fun f => if f.name = "_" then none else
    (partO P f.type xs f.offset).bind fun u=>(partO P f.type A f.offset).bind fun v=>eqV P d f.type u v).map fun bs=>bs.all id
  | some (.array n e),.agg xs,.agg A =>
   (szO P e).bind fun s=>((List.range n).mapM fun i =>
    (partO P e xs (i*s)).bind fun u=>(partO P e A (i*s)).bind fun v=>eqV P d e u v).map fun bs=>bs.all id
  | _,_,_=>none
theorem r_forAll {α:Type}(B:α->Option Bool × Unit->Sem (ForInStep (Option Bool × Unit)))(G:α->Option Bool)(w:World)
  (h:∀ x b s,G x=some b->(B x s).run P w=.ok (if b=true then .yield (none,()) else .done (some false,())) w) :
  ∀ (l:List α) (bs:List Bool),l.mapM G=some bs ->
  (forIn (m:=Sem) l ((none:Option Bool),()) B).run P w=.ok ((if bs.all id=true then none else some false),()) w
 | [],bs,A=>by simp at A;subst A;simp
 | x::l,bs,A=>by
  simp only[qX,qW,qZ]at A;obtain⟨p,H,I,J,E⟩:=A;simp at E;have L:=r_forAll B G w h l I J;subst E;simp only[List.forIn_cons,qU,h x p _ H,qY]
  cases p with
  | true=>simpa using L
  | false=>simp
theorem r_eqV:∀ (d:Nat) (t:TypeId) (x y:Value) (b:Bool),eqV P d t x y=some b->∀ w,(Op.equalIn d t x y).run P w=.ok b w:=by
 intro d
 induction d with
 | zero=>intro t x y b h;cases h
 | succ d M =>
  intro t x y b h w;unfold eqV at h;split at h
  ·rename_i A
   simp only[oSi]at h;subst h;simp[Op.equalIn,r_und A]
  ·rename_i A
   split at h
   ·rename_i N
    simp only[oSi]at h;subst h;simp[Op.equalIn,r_und A,N]
   ·cases h
  ·rename_i A
   simp only[oSi]at h;subst h;simp[Op.equalIn,r_und A]
  ·rename_i O xs R A
   split at h
   ·cases h
   ·rename_i J
    simp only[qJ]at h;obtain⟨bs,B,rfl⟩:=h;simp only[Op.equalIn,qU,r_und A,qY,run_program,J,Bool.false_eq_true,if_false];rw[<- Array.forIn_toList];rw[r_forAll _ _ w ?_ O.toList bs B]
    ·cases bs.all id <;> simp
    ·intro f b s E
     split at E
     ·cases E
     ·rename_i T
      simp only[qZ]at E;obtain⟨u,H,v,I,L⟩:=E
      cases b <;> simp[T,r_part H,r_part I,M _ _ _ _ L]
  ·rename_i n e xs R A
   simp only[qZ,qJ]at h;obtain⟨s,U,bs,B,rfl⟩:=h;simp only[Op.equalIn,qU,r_und A,qY,qZd U];rw[Std.Legacy.Range.forIn_eq_forIn_range'];rw[List.range_eq_range']at B;simp only[Std.Legacy.Range.size,Nat.sub_zero,Nat.add_sub_cancel,Nat.div_one];rw[r_forAll _ _ w ?_ _ bs B]
   ·cases bs.all id <;> simp
   ·intro i b s E
    simp only[qZ]at E;obtain⟨u,H,v,I,L⟩:=E
    cases b <;> simp[r_part H,r_part I,M _ _ _ _ L]
  ·cases h
end
end Go.V
