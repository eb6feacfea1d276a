/- Helpers. -/
import Derived.Laws.Sem
import Derived.Laws.World
import Derived.Laws.Cells
import Derived.Laws.Small
import Derived.Still
import Derived.Orders
import Derived.KernelRfl
set_option linter.all false
set_option maxRecDepth 100000
set_option maxHeartbeats 8000000
open BitVec renaming ofInt→qQ
open List renaming mapM_cons→qX
open Option renaming bind_eq_some_iff→qZ,map_eq_some_iff→qJ,map_some→qK,bind_some→qV,bind_eq_bind→qW
open Go.Result renaming andThen_ok→qY
open Go.Sem renaming run_bind→qU,run_pure→qG
namespace Go.V
theorem dTo (p:Prop)[Decidable p](h:p:=by first | omega | (simp;omega)):decide p=true:=decide_eq_true h
theorem dFo (p:Prop)[Decidable p](h:¬p:=by first | omega | (simp;omega)):decide p=false:=decide_eq_false h
theorem iBd {i n:Nat}(h:i<n:=by omega):(0:Int)≤(i:Int)∧(i:Int)<(n:Int):=by omega
theorem iTn (n:Nat):(n:Int).toNat=n:=Int.toNat_natCast n
theorem oSi {α:Type _}(a b:α):(some a=some b)=(a=b):=Option.some.injEq a b
theorem lTk {α:Type _}{i:Nat}{l:List α}:(l.take i).length=min i l.length:=List.length_take
theorem lAp {α:Type _}{a b:List α}:(a++b).length=a.length+b.length:=List.length_append
theorem lDr {α:Type _}{i:Nat}{l:List α}:(l.drop i).length=l.length - i:=List.length_drop
theorem lRe {α:Type _}{n:Nat}{a:α}:(List.replicate n a).length=n:=List.length_replicate
theorem bSe {α:Type _}[BEq α][ReflBEq α](a:α):(a == a)=true:=beq_self_eq_true a
theorem bNe {α:Type _}[BEq α][LawfulBEq α](a:α):(a != a)=false:=bne_self_eq_false a
theorem bFn {α:Type _}[BEq α][LawfulBEq α]{a b:α}:(a == b)=false ↔ a≠b:=beq_eq_false_iff_ne
theorem gDq {α:Type _}{l:List α}{i:Nat}{a:α}:l.getD i a=l[i]?.getD a:=List.getD_eq_getElem?_getD
theorem tSg {α:Type _}{i:Nat}{l:List α}(h:i<l.length):l.take (i+1)=l.take i++[l[i]]:=List.take_succ_eq_append_getElem h
theorem gLa {α:Type _}{xs:List α}{i:Nat}:xs.toArray[i]?=xs[i]?:=List.getElem?_toArray
theorem gLz {α:Type _}{a:α}{l:List α}:(a::l)[0]?=some a:=rfl
theorem gLs {α:Type _}{a:α}{l:List α}{i:Nat}:(a::l)[i+1]?=l[i]?:=rfl
end Go.V
namespace Go.V
abbrev Ev:=Nat→Value
def upd (ev:Ev)(d:Nat)(v:Value):Ev:=fun i=>if i=d then v else ev i
def updO (ev:Ev)(d:Option Nat)(v:Value):Ev:=match d with | some d=>upd ev d v | none=>ev
def evO (ev:Ev):Operand→Value
 | .tmp t=>ev t
 | .const v=>v
 | .global g=>.pointer (some ⟨g,0,none⟩)
 | .func f=>.func (.func f) #[] #[]
def evOf (a:Act):Ev:=fun i=>a.tmps.getD i undef
theorem evO_evOf (a:Act)(x:Operand):a.eval x=evO (evOf a) x:=by cases x <;> rfl
theorem qXb (a:Act):a.eval=evO (evOf a):=funext (evO_evOf a)
theorem evOf_put {a:Act}{d:Nat}(v:Value)(h:d<a.tmps.size):evOf (a.put (some d) v)=upd (evOf a) d v:=by
 funext i
 simp only[evOf,upd,Act.put,Array.getD_eq_getD_getElem?]
 by_cases hi:i=d
 ·subst hi;simp[h]
 ·rw[Array.getElem?_setIfInBounds_ne (Ne.symm hi)];simp[hi]
theorem qKc (a:Act)(d:Option Nat)(v:Value):(a.put d v).tmps.size=a.tmps.size:=by
 cases d <;> simp[Act.put]
theorem qZp (a:Act)(d:Option Nat)(v:Value):(a.put d v).defers=a.defers:=by
 cases d <;> rfl
def dstOk (n:Nat)(d:Option Nat):Bool:=match d with | some d=>decide (d<n) | none=>true
theorem qJj {a:Act}{n:Nat}{d:Option Nat}(v:Value)(hn:a.tmps.size=n)(h:dstOk n d=true) :
  evOf (a.put d v)=updO (evOf a) d v:=by
 cases d with
 | none=>rfl
 | some d=>exact evOf_put v (by simpa [dstOk,hn] using h)
def aggO (P:Program)(t:TypeId):Option Bool:=(P.underlying t).map fun | .struct _ | .array _ _=>true | _=>false
def szO (P:Program)(t:TypeId):Option Nat:=(P.info? t).map (·.size)
def zeroO (P:Program)(t:TypeId):Option Value:=(P.info? t).bind (·.zero)
def qQn (P:Program)(s f:Nat):Option (Nat × TypeId) :=
 match P.underlying s with
 | some (.struct fs)=>match fs[f]? with
  | some fd=>match P.info? fd.type with
   | some i=>if i.size=0 then none else some (fd.offset,fd.type)
   | none=>none
  | none=>none
 | _=>none
def arrO (P:Program)(t:TypeId):Option (Nat × TypeId):=match P.underlying t with | some (.array n e)=>some (n,e) | _=>none
def slcO (P:Program)(t:TypeId):Option TypeId:=match P.underlying t with | some (.slice e)=>some e | _=>none
def intO (P:Program)(t:TypeId):Option IntKind:=match P.underlying t with | some (.int k)=>some k | _=>none
def strO (P:Program)(t:TypeId):Bool:=match P.underlying t with | some .string=>true | _=>false
def mapO (P:Program)(t:TypeId):Option (TypeId × TypeId):=match P.underlying t with | some (.map k e)=>some (k,e) | _=>none
def flatT (P:Program)(t:TypeId):Bool:=match P.underlying t with | some .bool | some (.int _) | some .string=>true | _=>false
def qKf (P:Program)(t:TypeId):Bool:=match P.underlying t with | some (.interface _)=>true | _=>false
def qQy (P:Program)(t:TypeId):Option (List (Nat × Nat)) :=
 match P.underlying t with
 | some (.struct fs)=>fs.toList.mapM fun f=>(P.info? f.type).map fun i=>(f.offset,i.size)
 | _=>none
def qQe (P : Program) (f : FuncId) : Bool := match P.funcs[f]? with | some fn => fn.name != "runtime.NumGoroutine" && fn.body.isSome | none => false
def put (w:World)(b:Nat)(o:Obj):World:={ w with heap:=w.heap.setIfInBounds b o }
def one (v:Value):Bool:=match v with | .agg _ | .tuple _=>false | _=>true
def ldO (P:Program)(t:TypeId)(ob:Option Obj)(o:Nat):Option Value :=
 match ob with
 | some (.cells c _ _) =>
  match aggO P t with
  | some true=>match szO P t with
   | some n=>if o+n≤c.size then some (.agg (c.extract o (o+n))) else none
   | none=>none
  | some false=>c[o]?
  | none=>none
 | _=>none
def qXl:List Value→Nat→Array Value→Array Value
 | [],_,c=>c
 | v::r,o,c=>qXl r (o+1) (c.setIfInBounds o v)
def stO (P:Program)(t:TypeId)(ob:Option Obj)(o:Nat)(v:Value):Option Obj :=
 match ob with
 | some (.cells c e (0,0)) =>
  if szO P t=some v.cells.size∧o+v.cells.size≤c.size∧v.cells.all one=true then some (.cells (qXl v.cells.toList o c) e (0,0)) else none
 | _=>none
def rdO (P:Program)(t:TypeId)(w:World)(b o:Nat):Option Value:=ldO P t w.heap[b]? o
def wrO (P:Program)(t:TypeId)(w:World)(b o:Nat)(v:Value):Option World:=(stO P t w.heap[b]? o v).map (put w b)
def okO {α:Type}(r:Option α)(K:α→Prop):Prop:=match r with | some a=>K a | none=>False
@[simp] theorem okO_some {α:Type} (a:α) (K:α→Prop):okO (some a) K=K a:=rfl
@[simp] theorem okO_none {α:Type} (K:α→Prop):okO none K=False:=rfl
theorem qKe {α:Type}{r:Option α}{K:α→Prop}(h:okO r K):∃ a,r=some a∧K a:=by
 cases r with
 | none=>exact h.elim
 | some a=>exact⟨a,rfl,h⟩
def boolT (P:Program)(t:TypeId):Bool:=match P.underlying t with | some .bool=>true | _=>false
def andK (k:IntKind)(a b:Int):Int:=k.wrap (qQ k.bits a &&& qQ k.bits b).toNat
def orK (k:IntKind)(a b:Int):Int:=k.wrap (qQ k.bits a ||| qQ k.bits b).toNat
def xorK (k:IntKind)(a b:Int):Int:=k.wrap (qQ k.bits a ^^^ qQ k.bits b).toNat
def andNotK (k:IntKind)(a b:Int):Int:=k.wrap (qQ k.bits a &&& ~~~qQ k.bits b).toNat
def notK (k:IntKind)(n:Int):Int:=k.wrap (qQ k.bits (if k.signed then -1 else k.max) ^^^ qQ k.bits n).toNat
def shlK (k:IntKind)(a b:Int):Int:=k.wrap (a*2 ^ (min b.toNat k.bits))
def shrK (k:IntKind)(a b:Int):Int:=a.fdiv (2 ^ (min b.toNat k.bits))
def binP (bt:Bool)(op:BinOp)(x y:Value):Option Value :=
 match x,y with
 | .int k a,.int k' b =>
  match op with
  | .shl=>if b<0 then none else some (.int k (shlK k a b))
  | .shr=>if b<0 then none else some (.int k (shrK k a b))
  | _=>if k≠k' then none else
   match op with
   | .add=>some (.int k (k.wrap (a+b)))
   | .sub=>some (.int k (k.wrap (a - b)))
   | .mul=>some (.int k (k.wrap (a*b)))
   | .quo=>if b=0 then none else some (.int k (k.wrap (a.tdiv b)))
   | .rem=>if b=0 then none else some (.int k (a.tmod b))
   | .and=>some (.int k (andK k a b))
   | .or=>some (.int k (orK k a b))
   | .xor=>some (.int k (xorK k a b))
   | .andNot=>some (.int k (andNotK k a b))
   | .eql=>some (.bool (a == b))
   | .neq=>some (.bool (a != b))
   | .lss=>some (.bool (decide (a<b)))
   | .leq=>some (.bool (decide (a≤b)))
   | .gtr=>some (.bool (decide (a > b)))
   | .geq=>some (.bool (decide (a ≥ b)))
   | _=>none
 | .bool a,.bool b =>
  if bt=true then (match op with
   | .eql=>some (.bool (a == b))
   | .neq=>some (.bool (!(a == b)))
   | _=>none) else none
 | .string a,.string b =>
  match op with
  | .add=>if ((a.size+b.size:Nat):Int) > IntKind.i64.max then none else some (.string (a++b))
  | .eql=>some (.bool (a.toList == b.toList))
  | .neq=>some (.bool (!(a.toList == b.toList)))
  | .lss=>some (.bool (Op.bytesLess a.toList b.toList))
  | _=>none
 | _,_=>none
def nilOk:Value→Bool
 | .pointer (some _)=>true
 | .func (.func _) _ _=>true
 | .iface _ _=>true
 | _=>false
def partO (P:Program)(t:TypeId)(cs:Array Value)(off:Nat):Option Value :=
 match aggO P t with
 | some true=>(szO P t).map fun n=>.agg (cs.extract off (off+n))
 | some false=>cs[off]?
 | none=>none
def sbO (x:Value)(y:Nat):Option Nat:=match x with | .int _ i=>if 0≤i∧i≤y then some i.toNat else none | _=>none
def optB (x:Option Value)(y d:Nat):Option Nat:=match x with | some v=>sbO v y | none=>some d
def qQs (P:Program)(t:TypeId)(x:Value)(lo hi mx:Option Value):Option Value :=
 match arrO P t with
 | some (n,e) =>
  match x with
  | .pointer (some a) =>
   match mx with
   | some _=>none
   | none=>(optB hi n n).bind fun h=>(optB lo h 0).bind fun l=>(szO P e).map fun s=>.slice (some (if n=l then a else a.add (l*s))) (h - l) (n - l)
  | _=>none
 | none =>
  match x with
  | .string s=>if strO P t=true then (if mx.isSome then none else (optB hi s.size s.size).bind fun h=>(optB lo h 0).map fun l=>.string (s.extract l h)) else none
  | .slice a len cap =>
   (slcO P t).bind fun e=>(optB mx cap cap).bind fun m=>(match hi,mx with | none,some _=>none | some v,_=>sbO v m | none,none=>some len).bind fun h =>
    (optB lo h 0).bind fun l=>(szO P e).map fun s=>.slice (if m=l then a else a.map (fun (q:Addr)=>q.add (l*s))) (h - l) (m - l)
  | _=>none
def bldO (P:Program)(t:TypeId)(parts:List (Nat × Value)):Option Value :=
 (zeroO P t).bind fun z =>
 match qQy P t with
 | some ps=>(Instr.fill (ps[·]?) z.cells parts).map .agg
 | none=>match arrO P t with
  | some (_,e)=>(szO P e).bind fun s=>(Instr.fill (fun i=>some (i*s,s)) z.cells parts).map .agg
  | none=>none
def minL:Value→List Value→Option Value
 | x,[]=>some x
 | .int k a,.int _ b::r=>minL (.int k (if b<a then b else a)) r
 | _,_::_=>none
def maxL:Value→List Value→Option Value
 | x,[]=>some x
 | .int k a,.int _ b::r=>maxL (.int k (if b > a then b else a)) r
 | _,_::_=>none
def lenP (P:Program)(t:TypeId)(x:Value):Option Value :=
 match arrO P t with
 | some (n,_)=>some (.int .i64 n)
 | none=>match x with
  | .string s=>if strO P t=true then some (.int .i64 s.size) else none
  | .slice _ n _=>(slcO P t).map fun _=>.int .i64 n
  | _=>none
def biP (P:Program)(b:Builtin)(ts:Array TypeId)(args:List Value):Option Value :=
 match b,args with
 | .len,[x]=>ts[0]?.bind fun t=>lenP P t x
 | .cap,[.slice _ _ c]=>ts[0]?.bind fun t=>(slcO P t).map fun _=>.int .i64 c
 | .min,x::r=>minL x r
 | .max,x::r=>maxL x r
 | _,_=>none
def stepP (P:Program)(ev:Ev)(op:Op):Option Value :=
 match op with
 | .move x | .assign x=>some (evO ev x)
 | .pick c a b=>match evO ev c with | .bool t=>some (if t then evO ev a else evO ev b) | _=>none
 | .nilCheck x=>if nilOk (evO ev x)=true then some (evO ev x) else none
 | .binOp op t x y _=>if flatT P t=true then binP (boolT P t) op (evO ev x) (evO ev y) else none
 | .unOp op _ x=>match op,evO ev x with
  | .neg,.int k n=>some (.int k (k.wrap (0 - n)))
  | .xor,.int k n=>some (.int k (notK k n))
  | .not,.bool b=>some (.bool !b)
  | _,_=>none
 | .convert src dst x=>match aggO P src,intO P dst,evO ev x with
  | some _,some k,.int _ n=>some (.int k (k.wrap n))
  | some _,none,.string s=>if strO P dst=true then some (.string s) else none
  | _,_,_=>none
 | .fieldAddr s x f=>match evO ev x with
  | .pointer (some a)=>(qQn P s f).map fun p=>.pointer (some (a.add p.1))
  | _=>none
 | .field t x f=>match evO ev x with
  | .agg cs=>(qQn P t f).bind fun p=>partO P p.2 cs p.1
  | _=>none
 | .indexAddr t x i=>match evO ev i with
  | .int _ n=>match arrO P t with
   | some (len,e)=>match evO ev x with
    | .pointer (some a)=>if 0≤n∧n<len then (szO P e).map fun s=>.pointer (some (a.add (n.toNat*s))) else none
    | _=>none
   | none=>match evO ev x with
    | .slice (some a) len _=>if 0≤n∧n<len then (slcO P t).bind fun e=>(szO P e).map fun s=>.pointer (some (a.add (n.toNat*s))) else none
    | _=>none
  | _=>none
 | .index t x i=>match evO ev i with
  | .int _ n=>match evO ev x with
   | .agg cs=>(arrO P t).bind fun p=>if 0≤n∧n<p.1 then (szO P p.2).bind fun s=>partO P p.2 cs (n.toNat*s) else none
   | .string s=>if strO P t=true∧0≤n then s[n.toNat]?.map fun b=>.int .u8 b.toNat else none
   | _=>none
  | _=>none
 | .slice t x lo hi mx=>qQs P t (evO ev x) (lo.map (evO ev)) (hi.map (evO ev)) (mx.map (evO ev))
 | .extract t i=>match evO ev t with | .tuple vs=>vs[i]? | _=>none
 | .build t parts=>bldO P t (parts.toList.map fun p=>(p.1,evO ev p.2))
 | .makeInterface t x=>(aggO P t).bind fun _=>if qKf P t=true then none else some (.iface t (evO ev x))
 | .makeFunc fn first captured=>some (.func fn (first.map (evO ev)) (captured.map (evO ev)))
 | .call { callee:=.builtin b,args,argTypes }=>biP P b argTypes (args.toList.map (evO ev))
 | .sliceToArrayPointer t x=>match evO ev x with
  | .slice a len _=>(arrO P t).bind fun p=>if p.1≤len then some (.pointer a) else none
  | _=>none
 | _=>none
section
variable {P:Program}
theorem r_und {t:TypeId}{d:TypeDesc}(h:P.underlying t=some d)(w:World):(underlying t).run P w=.ok d w:=by
 simp[underlying,h]
theorem qXo {t:TypeId}{n:Nat}(h:szO P t=some n)(w:World):(sizeOf t).run P w=.ok n w:=by
 unfold szO at h
 cases hi:P.info? t with
 | none=>simp[hi]at h
 | some i=>simp only[hi,qK,oSi]at h;simp[sizeOf,typeInfo,hi,h]
theorem r_zero {t:TypeId}{z:Value}(h:zeroO P t=some z)(w:World):(zeroValue t).run P w=.ok z w:=by
 unfold zeroO at h
 cases hi:P.info? t with
 | none=>simp[hi]at h
 | some i=>simp only[hi,qV]at h;simp[zeroValue,typeInfo,hi,h]
theorem aggO_und {t:TypeId}{b:Bool}(h:aggO P t=some b):∃ d,P.underlying t=some d:=by
 unfold aggO at h
 cases hd:P.underlying t with
 | none=>simp[hd]at h
 | some d=>exact⟨d,rfl⟩
theorem r_agg {t:TypeId}{b:Bool}(h:aggO P t=some b)(w:World):(isAgg t).run P w=.ok b w:=by
 obtain⟨d,hd⟩:=aggO_und h;simp only[aggO,hd,qK,oSi]at h;simp only[isAgg,qU,r_und hd,qY]
 cases d <;> simp_all
theorem qKi {t:TypeId}{n:Nat}{e:TypeId}(h:arrO P t=some (n,e)):P.underlying t=some (.array n e):=by
 unfold arrO at h;split at h
 ·simp only[oSi,Prod.mk.injEq]at h;obtain⟨rfl,rfl⟩:=h;assumption
 ·cases h
theorem qXu {t:TypeId}{e:TypeId}(h:slcO P t=some e):P.underlying t=some (.slice e):=by
 unfold slcO at h;split at h
 ·simp only[oSi]at h;subst h;assumption
 ·cases h
theorem qJn {t:TypeId}{k:IntKind}(h:intO P t=some k):P.underlying t=some (.int k):=by
 unfold intO at h;split at h
 ·simp only[oSi]at h;subst h;assumption
 ·cases h
theorem strO_und {t:TypeId}(h:strO P t=true):P.underlying t=some .string:=by
 unfold strO at h;split at h
 ·assumption
 ·cases h
theorem mapO_und {t:TypeId}{k e:TypeId}(h:mapO P t=some (k,e)):P.underlying t=some (.map k e):=by
 unfold mapO at h;split at h
 ·simp only[oSi,Prod.mk.injEq]at h;obtain⟨rfl,rfl⟩:=h;assumption
 ·cases h
theorem r_part {t:TypeId}{cs:Array Value}{off:Nat}{v:Value}(h:partO P t cs off=some v)(w:World):(part t cs off).run P w=.ok v w:=by
 unfold partO at h;split at h
 ·rename_i ha
  cases hs:szO P t with
  | none=>simp[hs]at h
  | some n=>simp only[hs,qK,oSi]at h;simp[part,r_agg ha,qXo hs,h]
 ·rename_i ha
  simp[part,r_agg ha,h]
 ·cases h
theorem fieldO_spec {s f:Nat}{off:Nat}{t:TypeId}(h:qQn P s f=some (off, t)) :
  ∃ fs fd n,P.underlying s=some (.struct fs)∧fs[f]?=some fd∧fd.offset=off∧fd.type=t∧szO P fd.type=some n∧n≠0:=by
 unfold qQn at h;split at h
 ·rename_i fs hfs
  split at h
  ·rename_i fd hfd
   split at h
   ·rename_i i hi
    split at h
    ·cases h
    ·rename_i hz
     simp only[oSi,Prod.mk.injEq]at h;exact⟨fs,fd,i.size,hfs,hfd,h.1,h.2,by simp[szO,hi],hz⟩
   ·cases h
  ·cases h
 ·cases h
theorem r_sb {x:Value}{y m:Nat}(h:sbO x y=some m)(code:BoundsCode)(w:World):(Instr.sliceBound x y code).run P w=.ok m w:=by
 unfold sbO at h;split at h
 ·split at h
  ·rename_i k i hi
   simp only[oSi]at h;simp[Instr.sliceBound,asIntOf,hi,h]
  ·cases h
 ·cases h
theorem r_mapM {α β:Type}(F:α→Sem β)(G:α→Option β)(h:∀ x y, G x=some y→∀ w, (F x).run P w=.ok y w) :
  ∀ (l:List α) (ps:List β),l.mapM G=some ps→∀ w,(l.mapM F).run P w=.ok ps w
 | [],ps,hp,w=>by simp at hp;subst hp;simp
 | x::l,ps,hp,w=>by
  simp only[qX,qW,qZ]at hp;obtain⟨p,hp1,qs,hq,hps⟩:=hp;simp at hps;simp only[qX,qU,h x p hp1,qY,r_mapM F G h l qs hq,qG,hps]
theorem r_build {t:TypeId}{parts:List (Nat × Value)}{v:Value}(h:bldO P t parts=some v)(w:World) :
  (Instr.build t parts.toArray).run P w=.ok v w:=by
 unfold bldO at h
 cases hz:zeroO P t with
 | none=>simp[hz]at h
 | some z =>
  simp only[hz,qV]at h;split at h
  ·rename_i ps hps
   unfold qQy at hps;split at hps
   ·rename_i fs hfs
    cases hf:Instr.fill (ps[·]?) z.cells parts with
    | none=>simp[hf]at h
    | some cells =>
     simp only[hf,qK,oSi]at h
     have hm':∀ w,(fs.mapM (m:=Sem) fun f=>do pure (f.offset,← sizeOf f.type)).run P w=.ok ps.toArray w:=by
      intro w;rw[Array.mapM_eq_mapM_toList]
      have:=r_mapM (P:=P) (fun f:Field=>(do pure (f.offset,← sizeOf f.type):Sem (Nat × Nat))) (fun f=>(P.info? f.type).map fun i=>(f.offset,i.size))
       (fun f p hp w=>by
        cases hi:P.info? f.type with
        | none=>simp[hi]at hp
        | some i =>
         simp only[hi,qK,oSi]at hp;have hs:szO P f.type=some i.size:=by simp[szO,hi]
         simp[qXo hs,hp]) fs.toList ps hps
      simp only[Sem.run_map,this,qY]
     simp only[Instr.build,qU,r_zero hz,qY,r_und hfs,hm'];have e:(fun x:Nat=>ps.toArray[x]?)=(fun x:Nat=>ps[x]?):=by funext x;simp
     rw[e,hf];simp[h]
   ·cases hps
  ·split at h
   ·rename_i n e he
    cases hs:szO P e with
    | none=>simp[hs]at h
    | some s =>
     simp only[hs,qV]at h
     cases hf:Instr.fill (fun i=>some (i*s,s)) z.cells parts with
     | none=>simp[hf]at h
     | some cells =>
      simp only[hf,qK,oSi]at h;simp[Instr.build,r_zero hz,r_und (qKi he),qXo hs,hf,h]
   ·cases h
theorem r_slice {t:TypeId}{x:Value}{lo hi mx:Option Value}{v:Value}(h:qQs P t x lo hi mx=some v)(w:World) :
  (Instr.sliceAt t x lo hi mx).run P w=.ok v w:=by
 unfold qQs at h;split at h
 ·rename_i n e he
  split at h
  ·rename_i a
   split at h
   ·cases h
   ·simp only[qZ,qJ]at h
    obtain⟨hh,h1,l,h2,s,h3,rfl⟩:=h;simp only[Instr.sliceAt,qU,r_und (qKi he),qY,Instr.sureAddr,qG,Instr.sliceBounds]
    cases hi with
    | none =>
     simp only[optB,oSi]at h1;subst h1
     cases lo with
     | none=>simp only[optB,oSi]at h2;subst h2;simp[qXo h3]
     | some lo=>simp only[optB]at h2;simp[qXo h3,r_sb h2]
    | some hi =>
     simp only[optB]at h1
     cases lo with
     | none=>simp only[optB,oSi]at h2;subst h2;simp[qXo h3,r_sb h1]
     | some lo=>simp only[optB]at h2;simp[qXo h3,r_sb h2,r_sb h1]
  ·cases h
 ·rename_i hna
  split at h
  ·rename_i s
   split at h
   ·rename_i hs
    split at h
    ·cases h
    ·rename_i hmx
     have hmx':mx=none:=by cases mx <;> simp_all
     subst hmx';simp only[qZ,qJ]at h;obtain⟨hh,h1,l,h2,rfl⟩:=h;simp only[Instr.sliceAt,qU,r_und (strO_und hs),qY,Instr.slice,Instr.sliceBounds]
     cases hi with
     | none =>
      simp only[optB,oSi]at h1;subst h1
      cases lo with
      | none=>simp only[optB,oSi]at h2;subst h2;simp
      | some lo=>simp only[optB]at h2;simp[r_sb h2]
     | some hi =>
      simp only[optB]at h1
      cases lo with
      | none=>simp only[optB,oSi]at h2;subst h2;simp[r_sb h1]
      | some lo=>simp only[optB]at h2;simp[r_sb h2,r_sb h1]
   ·cases h
  ·rename_i a len cap
   simp only[qZ,qJ]at h;obtain⟨e,he,m,hm,hh,h1,l,h2,s,h3,rfl⟩:=h;simp only[Instr.sliceAt,qU,r_und (qXu he),qY,Instr.slice,Instr.sliceBounds]
   cases mx with
   | none =>
    simp only[optB,oSi]at hm;subst hm
    cases hi with
    | none =>
     simp only[oSi]at h1;subst h1
     cases lo with
     | none=>simp only[optB,oSi]at h2;subst h2;simp[qXo h3]
     | some lo=>simp only[optB]at h2;simp[qXo h3,r_sb h2]
    | some hi =>
     simp only at h1
     cases lo with
     | none=>simp only[optB,oSi]at h2;subst h2;simp[qXo h3,r_sb h1]
     | some lo=>simp only[optB]at h2;simp[qXo h3,r_sb h2,r_sb h1]
   | some mx =>
    simp only[optB]at hm
    cases hi with
    | none=>cases h1
    | some hi =>
     simp only at h1
     cases lo with
     | none=>simp only[optB,oSi]at h2;subst h2;simp[qXo h3,r_sb h1,r_sb hm]
     | some lo=>simp only[optB]at h2;simp[qXo h3,r_sb h2,r_sb h1,r_sb hm]
  ·cases h
theorem r_minL:∀ (r:List Value) (x v:Value),minL x r=some v→∀ w,(r.foldlM Builtin.min2 x).run P w=.ok v w
 | [],x,v,h,w=>by simp[minL]at h;simp[h]
 | y::r,x,v,h,w=>by
  cases x <;> cases y <;> simp only[minL]at h <;> try cases h
  simp only[List.foldlM_cons,qU,Builtin.min2,qG,qY];exact r_minL r _ v h w
theorem r_maxL:∀ (r:List Value) (x v:Value),maxL x r=some v→∀ w,(r.foldlM Builtin.max2 x).run P w=.ok v w
 | [],x,v,h,w=>by simp[maxL]at h;simp[h]
 | y::r,x,v,h,w=>by
  cases x <;> cases y <;> simp only[maxL]at h <;> try cases h
  simp only[List.foldlM_cons,qU,Builtin.max2,qG,qY];exact r_maxL r _ v h w
theorem r_biP {b:Builtin}{ts:Array TypeId}{ty:TypeId}{cons:Array Bool}{args:List Value}{v:Value}(h:biP P b ts args=some v)(w:World) :
  (builtin b ts ty cons args.toArray).run P w=.ok (.value v) w:=by
 unfold biP at h;split at h
 ·rename_i x
  simp only[qZ]at h;obtain⟨t,ht,h⟩:=h;unfold lenP at h;split at h
  ·rename_i n e he
   simp only[oSi]at h;subst h;simp[builtin,Builtin.len_,ht,r_und (qKi he),goInt]
  ·split at h
   ·split at h
    ·rename_i hs
     simp only[oSi]at h;subst h;simp[builtin,Builtin.len_,ht,r_und (strO_und hs),goInt]
    ·cases h
   ·simp only[qJ]at h
    obtain⟨e,he,rfl⟩:=h;simp[builtin,Builtin.len_,ht,r_und (qXu he),goInt]
   ·cases h
 ·simp only[qZ,qJ]at h
  obtain⟨t,ht,e,he,rfl⟩:=h;simp[builtin,Builtin.cap_,ht,r_und (qXu he),goInt]
 ·simp[builtin,Builtin.min_,r_minL _ _ _ h]
 ·simp[builtin,Builtin.max_,r_maxL _ _ _ h]
 ·cases h
theorem boolT_und {t:TypeId}(h:boolT P t=true):P.underlying t=some .bool:=by
 unfold boolT at h;split at h
 ·assumption
 ·cases h
theorem r_binP {op:BinOp}{t:TypeId}{x y:Operand}{a b v:Value}(h:binP (boolT P t) op a b=some v)(w:World) :
  (do eqGuard op t x y a b;binOp op t a b:Sem Value).run P w=.ok v w:=by
 unfold binP at h;split at h
 ·rename_i k a k' b
  split at h
  ·split at h
   ·cases h
   ·rename_i hb
    simp only[oSi]at h;subst h;simp[eqGuard,binOp,Op.shift,hb,shlK]
  ·split at h
   ·cases h
   ·rename_i hb
    simp only[oSi]at h;subst h;simp[eqGuard,binOp,Op.shift,hb,shrK]
  ·split at h
   ·cases h
   ·rename_i hk
    have hk':k=k':=by simpa using hk
    subst hk'
    cases op <;> simp only at h <;> (try split at h) <;> (try cases h) <;>
     simp_all [eqGuard,binOp,Op.intArith,Op.intDiv,Op.intBits,Op.intCmp,andK,orK,xorK,andNotK]
 ·rename_i a b
  split at h
  ·rename_i hu
   cases op <;> simp only at h <;> cases h <;> simp[eqGuard,binOp,run_equal_bool w t a b (boolT_und hu)]
  ·cases h
 ·rename_i a b
  cases op <;> simp only at h <;> (try split at h) <;> cases h <;> simp_all [eqGuard,binOp,Op.stringOp]
 ·cases h
end
section
variable {P:Program}
theorem stepP_sound {a:Act}{o:Oper}{v:Value}(h:stepP P (evOf a) o.op=some v)(w:World) :
  (execOp a.eval o).run P w=.ok (.value v) w:=by
 obtain⟨dst,op,ty,pos,after,guard⟩:=o;unfold stepP at h;simp only at h
 split at h <;> simp only[execOp,qU,qXb]
 case h_1 | h_2=>simp only[oSi]at h;simp[h]
 case h_3 =>
  split at h
  ·rename_i t ht;simp only[oSi]at h;subst h;cases t <;> simp[ht,asBool]
  ·cases h
 case h_4 x =>
  split at h
  ·rename_i hk
   simp only[oSi]at h;subst h;generalize evO (evOf a) x=u at hk ⊢;unfold nilOk at hk
   split at hk <;> simp_all
  ·cases h
 case h_5 bop t x y _ =>
  split at h
  ·have:=r_binP (x:=x) (y:=y) h w
   simp only[qU]at this
   cases h1:(eqGuard bop t x y (evO (evOf a) x) (evO (evOf a) y)).run P w with
   | ok u w'=>rw[h1]at this;simp only[qY]at this ⊢;simp[this]
   | halt u w'=>rw[h1]at this;simp at this
  ·cases h
 case h_6 =>
  split at h <;> cases h <;> simp_all [Op.unary,Op.intArith,Op.intBits,notK]
 case h_7 src dst x =>
  split at h
  ·rename_i b k kk n h1 h2 h3
   simp only[oSi]at h;subst h;obtain⟨d,hd⟩:=aggO_und h1;simp[convert,r_und hd,r_und (qJn h2),h3,Conv.intToInt]
  ·rename_i b s h1 h2 h3
   split at h
   ·rename_i hs
    simp only[oSi]at h;subst h;obtain⟨d,hd⟩:=aggO_und h1;simp[convert,r_und hd,r_und (strO_und hs),h3]
   ·cases h
  ·cases h
 case h_8 s x f =>
  split at h
  ·rename_i ad had
   simp only[qJ]at h;obtain⟨⟨off,t⟩,hf,rfl⟩:=h;obtain⟨fs,fd,n,h1,h2,h3,h4,h5,h6⟩:=fieldO_spec hf;simp[Instr.fieldAt,r_und h1,h2,Instr.sureAddr,had,fieldPlace,qXo h5,h6,h3]
  ·cases h
 case h_9 t x f =>
  split at h
  ·rename_i cs hcs
   simp only[qZ]at h;obtain⟨⟨off,t'⟩,hf,hp⟩:=h;obtain⟨fs,fd,n,h1,h2,h3,h4,h5,h6⟩:=fieldO_spec hf;subst h3 h4;simp[Instr.field,r_und h1,h2,hcs,asAgg,r_part hp]
  ·cases h
 case h_10 t x i =>
  split at h
  ·rename_i k n hn
   split at h
   ·rename_i len e he
    split at h
    ·rename_i ad had
     split at h
     ·rename_i hlt
      simp only[qJ]at h;obtain⟨s,hs,rfl⟩:=h;simp[Instr.indexAt,asIntOf,hn,r_und (qKi he),had,Instr.sureAddr,hlt,qXo hs]
     ·cases h
    ·cases h
   ·split at h
    ·rename_i ad len cap had
     split at h
     ·rename_i hlt
      simp only[qZ,qJ]at h;obtain⟨e,he,s,hs,rfl⟩:=h;simp[Instr.indexAt,asIntOf,hn,r_und (qXu he),had,hlt,qXo hs]
     ·cases h
    ·cases h
  ·cases h
 case h_11 t x i =>
  split at h
  ·rename_i k n hn
   split at h
   ·rename_i cs hcs
    simp only[qZ]at h;obtain⟨⟨len,e⟩,he,h⟩:=h;split at h
    ·rename_i hlt
     simp only[qZ]at h;obtain⟨s,hs,hp⟩:=h;simp only at hlt;simp[Instr.index,asIntOf,hn,r_und (qKi he),hcs,hlt,qXo hs,r_part hp]
    ·cases h
   ·rename_i s hs
    split at h
    ·rename_i hst
     simp only[qJ]at h;obtain⟨b,hb,rfl⟩:=h;simp[Instr.index,asIntOf,hn,r_und (strO_und hst.1),hs,hst.2,hb]
    ·cases h
   ·cases h
  ·cases h
 case h_12=>simp[r_slice h]
 case h_13 =>
  split at h
  ·rename_i vs hvs;simp[Instr.extract,hvs,h]
  ·cases h
 case h_14 t parts =>
  have:=r_build h w
  have e:(parts.map fun x:Nat × Operand=>(x.1,evO (evOf a) x.2))=(parts.toList.map fun p=>(p.1,evO (evOf a) p.2)).toArray:=by
   apply Array.toList_inj.1;rw[Array.toList_map]
  simp only[e,this,qY,qG]
 case h_15 t x =>
  simp only[qZ]at h;obtain⟨b,hb,h⟩:=h;split at h
  ·cases h
  ·rename_i hi
   simp only[oSi]at h;subst h;obtain⟨d,hd⟩:=aggO_und hb;simp only[qKf,hd]at hi;simp only[Instr.makeInterface,qU,r_und hd,qY]
   cases d <;> simp_all
 case h_16=>simp only[oSi]at h;subst h;simp[Instr.makeFunc]
 case h_17 b args ts =>
  have:=r_biP (ty:=ty) (cons:=args.map fun | .const _=>true | _=>false) h w;simp only[resolve,qG,qY,invoke]
  have e:(args.toList.map (evO (evOf a))).toArray=args.map (evO (evOf a)):=by
   apply Array.toList_inj.1;rw[Array.toList_map]
  rw[e]at this;exact this
 case h_18 t x =>
  split at h
  ·rename_i a len cap hx
   simp only[qZ]at h;obtain⟨⟨n,e⟩,he,h⟩:=h;split at h
   ·rename_i hn
    simp only[oSi]at h;subst h;have hn':¬ len<n:=by simp only at hn;omega
    simp[Instr.arrayAt,hx,r_und (qKi he),hn']
   ·cases h
  ·cases h
 case h_19=>cases h
def eqV (P:Program):Nat→TypeId→Value→Value→Option Bool
 | 0,_,_,_=>none
 | d+1,t,x,y =>
  match P.underlying t,x,y with
  | some .bool,.bool a,.bool b=>some (a == b)
  | some (.int _),.int k a,.int k' b=>if k=k' then some (a == b) else none
  | some .string,.string a,.string b=>some (a == b)
  | some (.struct fs),.agg xs,.agg ys =>
   if P.stoodInHeld t=true then none else
   (fs.toList.mapM fun f => if f.name = "_" then none else
    (partO P f.type xs f.offset).bind fun u=>(partO P f.type ys f.offset).bind fun v=>eqV P d f.type u v).map fun bs=>bs.all id
  | some (.array n e),.agg xs,.agg ys =>
   (szO P e).bind fun s=>((List.range n).mapM fun i =>
    (partO P e xs (i*s)).bind fun u=>(partO P e ys (i*s)).bind fun v=>eqV P d e u v).map fun bs=>bs.all id
  | _,_,_=>none
theorem r_forAll {α:Type}(B:α→Option Bool × Unit→Sem (ForInStep (Option Bool × Unit)))(G:α→Option Bool)(w:World)
  (h:∀ x b s,G x=some b→(B x s).run P w=.ok (if b=true then .yield (none,()) else .done (some false,())) w) :
  ∀ (l:List α) (bs:List Bool),l.mapM G=some bs →
  (forIn (m:=Sem) l ((none:Option Bool),()) B).run P w=.ok ((if bs.all id=true then none else some false),()) w
 | [],bs,hp=>by simp at hp;subst hp;simp
 | x::l,bs,hp=>by
  simp only[qX,qW,qZ]at hp;obtain⟨p,hp1,qs,hq,hps⟩:=hp;simp at hps;have ih:=r_forAll B G w h l qs hq;subst hps;simp only[List.forIn_cons,qU,h x p _ hp1,qY]
  cases p with
  | true=>simpa using ih
  | false=>simp
theorem r_eqV:∀ (d:Nat) (t:TypeId) (x y:Value) (b:Bool),eqV P d t x y=some b→∀ w,(Op.equalIn d t x y).run P w=.ok b w:=by
 intro d
 induction d with
 | zero=>intro t x y b h;cases h
 | succ d ih =>
  intro t x y b h w;unfold eqV at h;split at h
  ·rename_i hu
   simp only[oSi]at h;subst h;simp[Op.equalIn,r_und hu]
  ·rename_i hu
   split at h
   ·rename_i hk
    simp only[oSi]at h;subst h;simp[Op.equalIn,r_und hu,hk]
   ·cases h
  ·rename_i hu
   simp only[oSi]at h;subst h;simp[Op.equalIn,r_und hu]
  ·rename_i fs xs ys hu
   split at h
   ·cases h
   ·rename_i hst
    simp only[qJ]at h;obtain⟨bs,hbs,rfl⟩:=h;simp only[Op.equalIn,qU,r_und hu,qY,run_program,hst,Bool.false_eq_true,if_false];rw[← Array.forIn_toList];rw[r_forAll _ _ w ?_ fs.toList bs hbs]
    ·cases bs.all id <;> simp
    ·intro f b s hf
     split at hf
     ·cases hf
     ·rename_i hn
      simp only[qZ]at hf;obtain⟨u,hu1,v,hv1,he⟩:=hf
      cases b <;> simp[hn,r_part hu1,r_part hv1,ih _ _ _ _ he]
  ·rename_i n e xs ys hu
   simp only[qZ,qJ]at h;obtain⟨s,hs,bs,hbs,rfl⟩:=h;simp only[Op.equalIn,qU,r_und hu,qY,qXo hs];rw[Std.Legacy.Range.forIn_eq_forIn_range'];rw[List.range_eq_range']at hbs;simp only[Std.Legacy.Range.size,Nat.sub_zero,Nat.add_sub_cancel,Nat.div_one];rw[r_forAll _ _ w ?_ _ bs hbs]
   ·cases bs.all id <;> simp
   ·intro i b s hf
    simp only[qZ]at hf;obtain⟨u,hu1,v,hv1,he⟩:=hf
    cases b <;> simp[r_part hu1,r_part hv1,ih _ _ _ _ he]
  ·cases h
end
end Go.V
