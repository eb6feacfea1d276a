/-
  The wp-calculus over frames that are functions: 'den' turns a function's code into a formula by 'simp only'; 'fn_of_den' carries it to 'Calls'.
-/
import Derived.Laws.Sem
import Derived.Laws.World
import Derived.Laws.Cells
import Derived.Laws.Small
import Derived.Still
import Derived.Orders
import Derived.KernelRfl
namespace Go.V

/-! ### Frames as functions -/
abbrev Ev := Nat → Value
def upd (ev : Ev) (d : Nat) (v : Value) : Ev := fun i => if i = d then v else ev i
def updO (ev : Ev) (d : Option Nat) (v : Value) : Ev := match d with | some d => upd ev d v | none => ev
def evO (ev : Ev) : Operand → Value
  | .tmp t => ev t
  | .const v => v
  | .global g => .pointer (some ⟨g, 0, none⟩)
  | .func f => .func (.func f) #[] #[]
def evOf (a : Act) : Ev := fun i => a.tmps.getD i undef

theorem evO_evOf (a : Act) (x : Operand) : a.eval x = evO (evOf a) x := by cases x <;> rfl
theorem eval_evOf (a : Act) : a.eval = evO (evOf a) := funext (evO_evOf a)

theorem evOf_put {a : Act} {d : Nat} (v : Value) (h : d < a.tmps.size) : evOf (a.put (some d) v) = upd (evOf a) d v := by
  funext i
  simp only [evOf, upd, Act.put, Array.getD_eq_getD_getElem?]
  by_cases hi : i = d
  · subst hi; simp [h]
  · rw [Array.getElem?_setIfInBounds_ne (Ne.symm hi)]; simp [hi]

theorem put_size (a : Act) (d : Option Nat) (v : Value) : (a.put d v).tmps.size = a.tmps.size := by
  cases d <;> simp [Act.put]
theorem put_defers (a : Act) (d : Option Nat) (v : Value) : (a.put d v).defers = a.defers := by
  cases d <;> rfl

def dstOk (n : Nat) (d : Option Nat) : Bool := match d with | some d => decide (d < n) | none => true
theorem evOf_putO {a : Act} {n : Nat} {d : Option Nat} (v : Value) (hn : a.tmps.size = n) (h : dstOk n d = true) :
    evOf (a.put d v) = updO (evOf a) d v := by
  cases d with
  | none => rfl
  | some d => exact evOf_put v (by simpa [dstOk, hn] using h)

/-! ### Closed facts of a program's tables -/
def aggO (P : Program) (t : TypeId) : Option Bool := (P.underlying t).map fun | .struct _ | .array _ _ => true | _ => false
def szO (P : Program) (t : TypeId) : Option Nat := (P.info? t).map (·.size)
def zeroO (P : Program) (t : TypeId) : Option Value := (P.info? t).bind (·.zero)
/-- where a field lies, and its type -/
def fieldO (P : Program) (s f : Nat) : Option (Nat × TypeId) :=
  match P.underlying s with
  | some (.struct fs) => match fs[f]? with
    | some fd => match P.info? fd.type with
      | some i => if i.size = 0 then none else some (fd.offset, fd.type)
      | none => none
    | none => none
  | _ => none
/-- an array's length and element type; a slice's element type -/
def arrO (P : Program) (t : TypeId) : Option (Nat × TypeId) := match P.underlying t with | some (.array n e) => some (n, e) | _ => none
def slcO (P : Program) (t : TypeId) : Option TypeId := match P.underlying t with | some (.slice e) => some e | _ => none
def intO (P : Program) (t : TypeId) : Option IntKind := match P.underlying t with | some (.int k) => some k | _ => none
def strO (P : Program) (t : TypeId) : Bool := match P.underlying t with | some .string => true | _ => false
def mapO (P : Program) (t : TypeId) : Option (TypeId × TypeId) := match P.underlying t with | some (.map k e) => some (k, e) | _ => none
/-- a type whose '==' looks at no memory: bools, integers, strings -/
def flatT (P : Program) (t : TypeId) : Bool := match P.underlying t with | some .bool | some (.int _) | some .string => true | _ => false
def ifaceT (P : Program) (t : TypeId) : Bool := match P.underlying t with | some (.interface _) => true | _ => false
/-- the places of a struct's fields: offset and size -/
def placesO (P : Program) (t : TypeId) : Option (List (Nat × Nat)) :=
  match P.underlying t with
  | some (.struct fs) => fs.toList.mapM fun f => (P.info? f.type).map fun i => (f.offset, i.size)
  | _ => none
def plainFn (P : Program) (f : FuncId) : Bool := match P.funcs[f]? with | some fn => fn.name != "runtime.NumGoroutine" && fn.body.isSome | none => false

/-! ### Worlds -/
def put (w : World) (b : Nat) (o : Obj) : World := { w with heap := w.heap.setIfInBounds b o }
def one (v : Value) : Bool := match v with | .agg _ | .tuple _ => false | _ => true

def ldO (P : Program) (t : TypeId) (ob : Option Obj) (o : Nat) : Option Value :=
  match ob with
  | some (.cells c _ _) =>
    match aggO P t with
    | some true => match szO P t with
      | some n => if o + n ≤ c.size then some (.agg (c.extract o (o + n))) else none
      | none => none
    | some false => c[o]?
    | none => none
  | _ => none

def storeL : List Value → Nat → Array Value → Array Value
  | [], _, c => c
  | v :: r, o, c => storeL r (o + 1) (c.setIfInBounds o v)

def stO (P : Program) (t : TypeId) (ob : Option Obj) (o : Nat) (v : Value) : Option Obj :=
  match ob with
  | some (.cells c e (0, 0)) =>
    if szO P t = some v.cells.size ∧ o + v.cells.size ≤ c.size ∧ v.cells.all one = true then some (.cells (storeL v.cells.toList o c) e (0, 0)) else none
  | _ => none

/-- a variable read; a variable written -/
def rdO (P : Program) (t : TypeId) (w : World) (b o : Nat) : Option Value := ldO P t w.heap[b]? o
def wrO (P : Program) (t : TypeId) (w : World) (b o : Nat) (v : Value) : Option World := (stO P t w.heap[b]? o v).map (put w b)

/-- the options' elimination -/
def okO {α : Type} (r : Option α) (K : α → Prop) : Prop := match r with | some a => K a | none => False
@[simp] theorem okO_some {α : Type} (a : α) (K : α → Prop) : okO (some a) K = K a := rfl
@[simp] theorem okO_none {α : Type} (K : α → Prop) : okO none K = False := rfl
theorem okO_mono {α : Type} {r : Option α} {K K' : α → Prop} (h : ∀ a, K a → K' a) (hk : okO r K) : okO r K' := by
  cases r with
  | none => exact hk
  | some a => exact h a hk
theorem okO_elim {α : Type} {r : Option α} {K : α → Prop} (h : okO r K) : ∃ a, r = some a ∧ K a := by
  cases r with
  | none => exact h.elim
  | some a => exact ⟨a, rfl, h⟩

/-! ### Operations that look at no memory -/
def boolT (P : Program) (t : TypeId) : Bool := match P.underlying t with | some .bool => true | _ => false
/-- bit operations and shifts of integers of a kind (laws: LibT) -/
def andK (k : IntKind) (a b : Int) : Int := k.wrap (BitVec.ofInt k.bits a &&& BitVec.ofInt k.bits b).toNat
def orK (k : IntKind) (a b : Int) : Int := k.wrap (BitVec.ofInt k.bits a ||| BitVec.ofInt k.bits b).toNat
def xorK (k : IntKind) (a b : Int) : Int := k.wrap (BitVec.ofInt k.bits a ^^^ BitVec.ofInt k.bits b).toNat
def andNotK (k : IntKind) (a b : Int) : Int := k.wrap (BitVec.ofInt k.bits a &&& ~~~BitVec.ofInt k.bits b).toNat
def notK (k : IntKind) (n : Int) : Int := k.wrap (BitVec.ofInt k.bits (if k.signed then -1 else k.max) ^^^ BitVec.ofInt k.bits n).toNat
def shlK (k : IntKind) (a b : Int) : Int := k.wrap (a * 2 ^ (min b.toNat k.bits))
def shrK (k : IntKind) (a b : Int) : Int := a.fdiv (2 ^ (min b.toNat k.bits))
def binP (bt : Bool) (op : BinOp) (x y : Value) : Option Value :=
  match x, y with
  | .int k a, .int k' b =>
    match op with
    | .shl => if b < 0 then none else some (.int k (shlK k a b))
    | .shr => if b < 0 then none else some (.int k (shrK k a b))
    | _ => if k ≠ k' then none else
      match op with
      | .add => some (.int k (k.wrap (a + b)))
      | .sub => some (.int k (k.wrap (a - b)))
      | .mul => some (.int k (k.wrap (a * b)))
      | .quo => if b = 0 then none else some (.int k (k.wrap (a.tdiv b)))
      | .rem => if b = 0 then none else some (.int k (a.tmod b))
      | .and => some (.int k (andK k a b))
      | .or => some (.int k (orK k a b))
      | .xor => some (.int k (xorK k a b))
      | .andNot => some (.int k (andNotK k a b))
      | .eql => some (.bool (a == b))
      | .neq => some (.bool (a != b))
      | .lss => some (.bool (decide (a < b)))
      | .leq => some (.bool (decide (a ≤ b)))
      | .gtr => some (.bool (decide (a > b)))
      | .geq => some (.bool (decide (a ≥ b)))
      | _ => none
  | .bool a, .bool b =>
    if bt = true then (match op with
      | .eql => some (.bool (a == b))
      | .neq => some (.bool (!(a == b)))
      | _ => none) else none
  | .string a, .string b =>
    match op with
    | .add => if ((a.size + b.size : Nat) : Int) > IntKind.i64.max then none else some (.string (a ++ b))
    | .eql => some (.bool (a.toList == b.toList))
    | .neq => some (.bool (!(a.toList == b.toList)))
    | .lss => some (.bool (Op.bytesLess a.toList b.toList))
    | _ => none
  | _, _ => none

def nilOk : Value → Bool
  | .pointer (some _) => true
  | .func (.func _) _ _ => true
  | .iface _ _ => true
  | _ => false

def partO (P : Program) (t : TypeId) (cs : Array Value) (off : Nat) : Option Value :=
  match aggO P t with
  | some true => (szO P t).map fun n => .agg (cs.extract off (off + n))
  | some false => cs[off]?
  | none => none

/-- a bound of a slice expression -/
def sbO (x : Value) (y : Nat) : Option Nat := match x with | .int _ i => if 0 ≤ i ∧ i ≤ y then some i.toNat else none | _ => none
def optB (x : Option Value) (y d : Nat) : Option Nat := match x with | some v => sbO v y | none => some d

def sliceP (P : Program) (t : TypeId) (x : Value) (lo hi mx : Option Value) : Option Value :=
  match arrO P t with
  | some (n, e) =>
    match x with
    | .pointer (some a) =>
      match mx with
      | some _ => none
      | none => (optB hi n n).bind fun h => (optB lo h 0).bind fun l => (szO P e).map fun s => .slice (some (if n = l then a else a.add (l * s))) (h - l) (n - l)
    | _ => none
  | none =>
    match x with
    | .string s => if strO P t = true then (if mx.isSome then none else (optB hi s.size s.size).bind fun h => (optB lo h 0).map fun l => .string (s.extract l h)) else none
    | .slice a len cap =>
      (slcO P t).bind fun e => (optB mx cap cap).bind fun m => (match hi, mx with | none, some _ => none | some v, _ => sbO v m | none, none => some len).bind fun h =>
        (optB lo h 0).bind fun l => (szO P e).map fun s => .slice (if m = l then a else a.map (fun (q : Addr) => q.add (l * s))) (h - l) (m - l)
    | _ => none

/-- composite values: the parts laid over the zero value's cells -/
def bldO (P : Program) (t : TypeId) (parts : List (Nat × Value)) : Option Value :=
  (zeroO P t).bind fun z =>
  match placesO P t with
  | some ps => (Instr.fill (ps[·]?) z.cells parts).map .agg
  | none => match arrO P t with
    | some (_, e) => (szO P e).bind fun s => (Instr.fill (fun i => some (i * s, s)) z.cells parts).map .agg
    | none => none

def minL : Value → List Value → Option Value
  | x, [] => some x
  | .int k a, .int _ b :: r => minL (.int k (if b < a then b else a)) r
  | _, _ :: _ => none
def maxL : Value → List Value → Option Value
  | x, [] => some x
  | .int k a, .int _ b :: r => maxL (.int k (if b > a then b else a)) r
  | _, _ :: _ => none

def lenP (P : Program) (t : TypeId) (x : Value) : Option Value :=
  match arrO P t with
  | some (n, _) => some (.int .i64 n)
  | none => match x with
    | .string s => if strO P t = true then some (.int .i64 s.size) else none
    | .slice _ n _ => (slcO P t).map fun _ => .int .i64 n
    | _ => none

/-- built-in functions that look at no memory -/
def biP (P : Program) (b : Builtin) (ts : Array TypeId) (args : List Value) : Option Value :=
  match b, args with
  | .len, [x] => ts[0]?.bind fun t => lenP P t x
  | .cap, [.slice _ _ c] => ts[0]?.bind fun t => (slcO P t).map fun _ => .int .i64 c
  | .min, x :: r => minL x r
  | .max, x :: r => maxL x r
  | _, _ => none

/-- operations of the first kind: what they yield looks at no memory -/
def stepP (P : Program) (ev : Ev) (op : Op) : Option Value :=
  match op with
  | .move x | .assign x => some (evO ev x)
  | .pick c a b => match evO ev c with | .bool t => some (if t then evO ev a else evO ev b) | _ => none
  | .nilCheck x => if nilOk (evO ev x) = true then some (evO ev x) else none
  | .binOp op t x y _ => if flatT P t = true then binP (boolT P t) op (evO ev x) (evO ev y) else none
  | .unOp op _ x => match op, evO ev x with
    | .neg, .int k n => some (.int k (k.wrap (0 - n)))
    | .xor, .int k n => some (.int k (notK k n))
    | .not, .bool b => some (.bool !b)
    | _, _ => none
  | .convert src dst x => match aggO P src, intO P dst, evO ev x with
    | some _, some k, .int _ n => some (.int k (k.wrap n))
    | some _, none, .string s => if strO P dst = true then some (.string s) else none
    | _, _, _ => none
  | .fieldAddr s x f => match evO ev x with
    | .pointer (some a) => (fieldO P s f).map fun p => .pointer (some (a.add p.1))
    | _ => none
  | .field t x f => match evO ev x with
    | .agg cs => (fieldO P t f).bind fun p => partO P p.2 cs p.1
    | _ => none
  | .indexAddr t x i => match evO ev i with
    | .int _ n => match arrO P t with
      | some (len, e) => match evO ev x with
        | .pointer (some a) => if 0 ≤ n ∧ n < len then (szO P e).map fun s => .pointer (some (a.add (n.toNat * s))) else none
        | _ => none
      | none => match evO ev x with
        | .slice (some a) len _ => if 0 ≤ n ∧ n < len then (slcO P t).bind fun e => (szO P e).map fun s => .pointer (some (a.add (n.toNat * s))) else none
        | _ => none
    | _ => none
  | .index t x i => match evO ev i with
    | .int _ n => match evO ev x with
      | .agg cs => (arrO P t).bind fun p => if 0 ≤ n ∧ n < p.1 then (szO P p.2).bind fun s => partO P p.2 cs (n.toNat * s) else none
      | .string s => if strO P t = true ∧ 0 ≤ n then s[n.toNat]?.map fun b => .int .u8 b.toNat else none
      | _ => none
    | _ => none
  | .slice t x lo hi mx => sliceP P t (evO ev x) (lo.map (evO ev)) (hi.map (evO ev)) (mx.map (evO ev))
  | .extract t i => match evO ev t with | .tuple vs => vs[i]? | _ => none
  | .build t parts => bldO P t (parts.toList.map fun p => (p.1, evO ev p.2))
  | .makeInterface t x => (aggO P t).bind fun _ => if ifaceT P t = true then none else some (.iface t (evO ev x))
  | .makeFunc fn first captured => some (.func fn (first.map (evO ev)) (captured.map (evO ev)))
  | .call { callee := .builtin b, args, argTypes } => biP P b argTypes (args.toList.map (evO ev))
  | .sliceToArrayPointer t x => match evO ev x with
    | .slice a len _ => (arrO P t).bind fun p => if p.1 ≤ len then some (.pointer a) else none
    | _ => none
  | _ => none

end Go.V
