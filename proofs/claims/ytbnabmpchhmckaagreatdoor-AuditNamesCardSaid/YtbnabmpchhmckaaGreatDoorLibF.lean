/-
  'dop' for every operation, its soundness, and the theorem on regions that draw their order: where all that may come in either order leaves each other alone, the lexical walk serves every order.
-/
import Derived.Test.YtbnabmpchhmckaaGreatDoorLibE
namespace Go.V
variable {P : Program}

/-- a call of a function: it returns, and K holds of what it returns and leaves -/
def Fn (P : Program) (f : FuncId) (args : Array Value) (w : World) (K : Value → World → Prop) : Prop :=
  Calls P f args w fun e w' => match e with | .returned v => K v w' | _ => False
theorem Fn.mono {f : FuncId} {args : Array Value} {w : World} {K K' : Value → World → Prop} (h : Fn P f args w K) (hk : ∀ v w', K v w' → K' v w') : Fn P f args w K' :=
  Calls.mono h fun e w' => by cases e <;> simp only [] <;> first | exact hk _ _ | exact id
theorem Fn.some {f : FuncId} {args : Array Value} {w : World} {K : Value → World → Prop} (h : Fn P f args w K) : ∃ v w', K v w' := by
  obtain ⟨e, w', fr, hR, _⟩ := h []
  cases e with
  | returned v => exact ⟨v, w', hR⟩
  | panicked c => exact hR.elim
  | outgrown => exact hR.elim

def outE (P : Program) (s : Sem Next) (w : World) (K : Value → World → Prop) : Prop :=
  match s.run P w with
  | .ok (.value v) w' => K v w'
  | .ok .skip w' => K undef w'
  | .ok (.enter f args) w' => Fn P f args w' K
  | _ => False
theorem outE_mono {s : Sem Next} {w : World} {K K' : Value → World → Prop} (hk : ∀ v w', K v w' → K' v w') (h : outE P s w K) : outE P s w K' := by
  unfold outE at *
  split at h
  · exact hk _ _ h
  · exact hk _ _ h
  · exact h.mono hk
  · exact h.elim
theorem outE_some {s : Sem Next} {w : World} {K : Value → World → Prop} (h : outE P s w K) : ∃ v w', K v w' := by
  unfold outE at h
  split at h
  · exact ⟨_, _, h⟩
  · exact ⟨_, _, h⟩
  · exact h.some
  · exact h.elim
theorem wp_of_outE {o : Oper} {a : Act} {w : World} {K : Value → World → Prop} {N : Act → World → Prop} {Q : Exit → Act → World → Prop} (h : outE P (execOp a.eval o) w K)
    (hk : ∀ v w', K v w' → N (a.put o.dst v) w') : o.wp P a w N Q := by
  unfold outE at h
  unfold Oper.wp
  split at h
  · rename_i hr; rw [hr]; exact hk _ _ h
  · rename_i hr; rw [hr]; exact hk _ _ h
  · rename_i hr; rw [hr]
    refine Calls.mono h fun e w' he => ?_
    cases e with
    | returned v => exact hk _ _ he
    | panicked c => exact he.elim
    | outgrown => exact he.elim
  · exact h.elim

/-! ### The operations of the third kind -/
def zrow (z : List Value) (n : Nat) : Array Value := (List.replicate n z).flatten.toArray
def stepE (P : Program) (ev : Ev) (w : World) (op : Op) : Option (Value × World) :=
  match op with
  | .alloc t => (zeroO P t).map fun z => (.pointer (some ⟨w.heap.size, 0, none⟩), w.alloc (.cells z.cells t))
  | .box t x => some (.pointer (some ⟨w.heap.size, 0, none⟩), w.alloc (.cells (evO ev x).cells t))
  | .buildSlice t n parts => (slcO P t).bind fun e => (szO P e).bind fun s => (zeroO P e).bind fun z =>
      if n * s ≤ 2 ^ 24 ∧ 0 < s ∧ z.cells.size = s then
        (Instr.fill (fun i => some (i * s, s)) (zrow z.cells.toList n) (parts.toList.map fun p => (p.1, evO ev p.2))).map fun cells =>
          (.slice (some ⟨w.heap.size, 0, none⟩) n n, w.alloc (.cells cells e))
      else none
  | .store t x v => match evO ev x with
    | .pointer (some ⟨b, o, none⟩) => (wrO P t w b o (evO ev v)).map fun w' => (undef, w')
    | _ => none
  | .makeMap _ none => some (.map (some w.heap.size), w.alloc (.map #[] 0))
  | .mapUpdate t m k x | .insert t m k x => match evO ev m with
    | .map (some r) => (mapO P t).bind fun p => (putE P p.1 w.heap[r]? (evO ev k) (evO ev x)).map fun ob => (undef, put w r ob)
    | _ => none
  | _ => none

theorem zrow_eq (z : Array Value) (n s : Nat) (hs : z.size = s) : (Array.range (n * s)).map (fun i => z[i % z.size]!) = zrow z.toList n := by
  apply Array.toList_inj.1
  simp only [Array.toList_map, Array.toList_range, zrow]
  induction n with
  | zero => simp
  | succ n ih =>
    rw [Nat.succ_mul, List.range_add, List.map_append, ih, List.replicate_succ', List.flatten_append]
    congr 1
    simp only [List.map_map, List.flatten_cons, List.flatten_nil, List.append_nil]
    apply List.ext_getElem
    · simp [hs]
    · intro i h1 h2
      simp only [List.length_map, List.length_range] at h1
      have : (n * s + i) % z.size = i := by
        rw [hs, Nat.add_comm, Nat.mul_comm, Nat.add_mul_mod_self_left, Nat.mod_eq_of_lt h1]
      simp only [List.getElem_map, List.getElem_range, Function.comp_apply, this]
      simp [hs, h1]

theorem stepE_sound {a : Act} {o : Oper} {w : World} {K : Value → World → Prop} (h : okO (stepE P (evOf a) w o.op) fun p => K p.1 p.2) : outE P (execOp a.eval o) w K := by
  obtain ⟨⟨v, w'⟩, hs, hk⟩ := okO_elim h
  obtain ⟨dst, op, ty, pos, after, guard⟩ := o
  unfold stepE at hs
  simp only at hs hk
  unfold outE
  split at hs <;> simp only [execOp, eval_evOf]
  · simp only [Option.map_eq_some_iff, Prod.mk.injEq] at hs
    obtain ⟨z, hz, rfl, rfl⟩ := hs
    simpa [Instr.alloc, r_zero hz, newVar, newRow] using hk
  · simp only [Option.some.injEq, Prod.mk.injEq] at hs
    obtain ⟨rfl, rfl⟩ := hs
    simpa [Instr.box, newVar, newRow] using hk
  · rename_i t n parts
    simp only [Option.bind_eq_some_iff] at hs
    obtain ⟨e, he, s, hsz, z, hz, hs⟩ := hs
    split at hs
    · rename_i hc
      simp only [Option.map_eq_some_iff, Prod.mk.injEq] at hs
      obtain ⟨cells, hf, rfl, rfl⟩ := hs
      have hp : (parts.map fun x : Nat × Operand => (x.1, evO (evOf a) x.2)).toList = (parts.toList.map fun p => (p.1, evO (evOf a) p.2)) := Array.toList_map
      have hz' := zrow_eq z.cells n s hc.2.2
      have h24 : ¬ (n * s > 2 ^ 24) := by omega
      have key : (Instr.buildSlice t n (parts.map fun x : Nat × Operand => (x.1, evO (evOf a) x.2))).run P w = .ok (.slice (some ⟨w.heap.size, 0, none⟩) n n) (w.alloc (.cells cells e)) := by
        simp only [Instr.buildSlice, Sem.run_bind, r_und (slcO_und he), Result.andThen_ok, r_size hsz, h24, if_false]
        by_cases h0 : n * s = 0
        · have hn : n = 0 := by
            rcases Nat.mul_eq_zero.1 h0 with h | h
            · exact h
            · omega
          subst hn
          have hf' : ∀ z' : Array Value, Instr.fill (fun i => some (i * s, s)) ((Array.range (0 * s)).map fun i => z'[i % z'.size]!) (parts.map fun x : Nat × Operand => (x.1, evO (evOf a) x.2)).toList = some cells := fun z' => by
            have e1 : (Array.range (0 * s)).map (fun i => z'[i % z'.size]!) = #[] := by rw [Nat.zero_mul]; simp
            have e2 : zrow z.cells.toList 0 = #[] := rfl
            rw [hp, e1, ← e2, hf]
          simp only [h0, if_true, Sem.run_pure, Result.andThen_ok]
          rw [← h0]
          simp only [hf']
          simp [newRow]
        · have hf' : Instr.fill (fun i => some (i * s, s)) ((Array.range (n * s)).map fun i => z.cells[i % z.cells.size]!) (parts.map fun x : Nat × Operand => (x.1, evO (evOf a) x.2)).toList = some cells := by
            rw [hp, hz', hf]
          simp only [h0, if_false, Sem.run_bind, r_zero hz, Result.andThen_ok, Sem.run_pure]
          simp only [hf']
          simp [newRow]
      simp only [Sem.run_bind, key, Result.andThen_ok, Sem.run_pure]
      exact hk
    · cases hs
  · rename_i t x v'
    split at hs
    · rename_i b o hx
      simp only [wrO, Option.map_eq_some_iff, Prod.mk.injEq] at hs
      obtain ⟨_, ⟨ob, hob, rfl⟩, rfl, rfl⟩ := hs
      simpa [Instr.storeAt, hx, Instr.sureAddr, r_storeVar hob] using hk
    · cases hs
  · simp only [Option.some.injEq, Prod.mk.injEq] at hs
    obtain ⟨rfl, rfl⟩ := hs
    simpa [Instr.makeMap] using hk
  · rename_i t m k x
    split at hs
    · rename_i r hm
      simp only [Option.bind_eq_some_iff, Option.map_eq_some_iff, Prod.mk.injEq] at hs
      obtain ⟨⟨kt, et⟩, hmo, ob, hob, rfl, rfl⟩ := hs
      simpa [hm, r_mapUpdate hmo hob] using hk
    · cases hs
  · rename_i t m k x
    split at hs
    · rename_i r hm
      simp only [Option.bind_eq_some_iff, Option.map_eq_some_iff, Prod.mk.injEq] at hs
      obtain ⟨⟨kt, et⟩, hmo, ob, hob, rfl, rfl⟩ := hs
      simpa [hm, r_mapUpdate hmo hob] using hk
    · cases hs
  · cases hs

/-- what the machine does, told by its run -/
def SemD (P : Program) (s : Sem Value) (w : World) (K : Value → World → Prop) : Prop := ∃ v w', s.run P w = .ok v w' ∧ K v w'
def AppD (P : Program) (ts : Array TypeId) (x y : Value) (w : World) (K : Value → World → Prop) : Prop := SemD P (Builtin.append_ ts 0 #[x, y]) w K
def DelD (P : Program) (ts : Array TypeId) (m k : Value) (w : World) (K : Value → World → Prop) : Prop := SemD P (Builtin.delete_ ts 0 #[m, k]) w K
def CopyD (P : Program) (ts : Array TypeId) (x y : Value) (w : World) (K : Value → World → Prop) : Prop := SemD P (Builtin.copy_ ts 0 #[x, y]) w K
def ConvD (P : Program) (s d : TypeId) (x : Value) (w : World) (K : Value → World → Prop) : Prop := SemD P (convert s d x) w K

/-- conversions that look at no memory -/
def cvP (P : Program) (s d : TypeId) : Bool := (intO P d).isSome || (strO P s && strO P d)
/-- built-in functions that look at no memory -/
def biK (P : Program) (b : Builtin) (ts : Array TypeId) : Bool :=
  match b with
  | .min | .max | .cap => true
  | .len => (ts[0]?.bind (mapO P)).isNone
  | _ => false

def dcall (P : Program) (c : Call) (ev : Ev) (w : World) (K : Value → World → Prop) : Prop :=
  match c.callee with
  | .value f => match evO ev f with
    | .func (.func g) fs cs => plainFn P g = true ∧ Fn P g (fs ++ c.args.map (evO ev) ++ cs) w K
    | _ => False
  | .builtin b =>
    if biK P b c.argTypes = true then okO (biP P b c.argTypes (c.args.toList.map (evO ev))) fun v => K v w else
    match b, c.args.toList with
    | .append, [x, y] => AppD P c.argTypes (evO ev x) (evO ev y) w K
    | .delete, [x, y] => DelD P c.argTypes (evO ev x) (evO ev y) w K
    | .copy, [x, y] => CopyD P c.argTypes (evO ev x) (evO ev y) w K
    | .len, [x] => SemD P (Builtin.len_ c.argTypes 0 #[evO ev x]) w K
    | .clear, [x] => SemD P (Builtin.clear_ c.argTypes 0 #[evO ev x]) w K
    | _, _ => False
  | .invoke r m => match evO ev r with
    | .iface t v => ∃ f u, (method (P.types.size + Made.depth) t v m).run P w = .ok (f, u) w ∧ plainFn P f = true ∧ Fn P f (#[u] ++ c.args.map (evO ev)) w K
    | _ => False

theorem outE_semD {s : Sem Value} {w : World} {K : Value → World → Prop} (h : SemD P s w K) : outE P (do pure (.value (← s))) w K := by
  obtain ⟨v, w', hr, hk⟩ := h
  simp only [outE, Sem.run_bind, hr, Result.andThen_ok, Sem.run_pure]
  exact hk

theorem callFunc_plain {g : FuncId} (args : Array Value) (h : plainFn P g = true) (w : World) : (callFunc g args).run P w = .ok (.enter g args) w := by
  unfold plainFn at h
  split at h
  · rename_i fn hf
    simp only [Bool.and_eq_true, bne_iff_ne] at h
    obtain ⟨h1, h2⟩ := h
    have h2' : fn.body.isNone = false := by cases hb : fn.body <;> simp_all
    simp only [callFunc, Sem.run_bind, run_program, Result.andThen_ok, hf]
    rw [if_neg (by simpa using h1), if_neg (by simp [h2'])]
    simp
  · cases h

theorem dcall_sound {a : Act} {dst : Option Tmp} {ty : TypeId} {pos : String} {after : Array Edge} {guard : Option (Nat × Bool)} {c : Call} {w : World} {K : Value → World → Prop}
    (h : dcall P c (evOf a) w K) : outE P (execOp a.eval { dst, op := .call c, type := ty, pos, after, guard }) w K := by
  unfold dcall at h
  split at h
  · rename_i f hf
    split at h
    · rename_i g fs cs hg
      obtain ⟨h1, h2⟩ := h
      simp only [outE, execOp, eval_evOf, Sem.run_bind, resolve, hf, Deferred.ofValue, hg, Sem.run_pure, Result.andThen_ok, invoke, callFunc_plain _ h1]
      exact h2
    · exact h.elim
  · rename_i b hb
    split at h
    · obtain ⟨v, hv, hk⟩ := okO_elim h
      have := fun cons => r_biP (ty := ty) (cons := cons) hv w
      have e : (c.args.toList.map (evO (evOf a))).toArray = c.args.map (evO (evOf a)) := by
        apply Array.toList_inj.1; rw [Array.toList_map]
      rw [e] at this
      simp only [outE, execOp, eval_evOf, Sem.run_bind, resolve, hb, Sem.run_pure, Result.andThen_ok, invoke, this]
      exact hk
    · have toA : ∀ l : List Operand, c.args.toList = l → c.args.map (evO (evOf a)) = (l.map (evO (evOf a))).toArray := by
        intro l hl
        apply Array.toList_inj.1; rw [Array.toList_map, hl]
      split at h
      · rename_i x y hxy _
        obtain ⟨v, w', hr, hk⟩ := h
        have hr' : (Builtin.append_ c.argTypes ty #[evO (evOf a) x, evO (evOf a) y]).run P w = .ok v w' := hr
        simp only [outE, execOp, eval_evOf, Sem.run_bind, resolve, hb, Sem.run_pure, Result.andThen_ok, invoke, toA _ hxy, List.map_cons, List.map_nil, builtin, hr']
        exact hk
      · rename_i x y hxy _
        obtain ⟨v, w', hr, hk⟩ := h
        have hr' : (Builtin.delete_ c.argTypes ty #[evO (evOf a) x, evO (evOf a) y]).run P w = .ok v w' := hr
        simp only [outE, execOp, eval_evOf, Sem.run_bind, resolve, hb, Sem.run_pure, Result.andThen_ok, invoke, toA _ hxy, List.map_cons, List.map_nil, builtin, hr']
        exact hk
      · rename_i x y hxy _
        obtain ⟨v, w', hr, hk⟩ := h
        have hr' : (Builtin.copy_ c.argTypes ty #[evO (evOf a) x, evO (evOf a) y]).run P w = .ok v w' := hr
        simp only [outE, execOp, eval_evOf, Sem.run_bind, resolve, hb, Sem.run_pure, Result.andThen_ok, invoke, toA _ hxy, List.map_cons, List.map_nil, builtin, hr']
        exact hk
      · rename_i x hxy _
        obtain ⟨v, w', hr, hk⟩ := h
        have hr' : (Builtin.len_ c.argTypes ty #[evO (evOf a) x]).run P w = .ok v w' := hr
        simp only [outE, execOp, eval_evOf, Sem.run_bind, resolve, hb, Sem.run_pure, Result.andThen_ok, invoke, toA _ hxy, List.map_cons, List.map_nil, builtin, hr']
        exact hk
      · rename_i x hxy _
        obtain ⟨v, w', hr, hk⟩ := h
        have hr' : (Builtin.clear_ c.argTypes ty #[evO (evOf a) x]).run P w = .ok v w' := hr
        simp only [outE, execOp, eval_evOf, Sem.run_bind, resolve, hb, Sem.run_pure, Result.andThen_ok, invoke, toA _ hxy, List.map_cons, List.map_nil, builtin, hr']
        exact hk
      · exact h.elim
  · rename_i r m hm
    split at h
    · rename_i t v hv
      obtain ⟨f, u, h1, h2, h3⟩ := h
      have e : (#[evO (evOf a) r] ++ c.args.map (evO (evOf a))).extract 1 (#[evO (evOf a) r] ++ c.args.map (evO (evOf a))).size = c.args.map (evO (evOf a)) := by
        apply Array.toList_inj.1
        simp only [Array.toList_extract, Array.toList_append, Array.toList_map, List.extract_eq_take_drop]
        simp only [List.singleton_append, List.drop_succ_cons, List.drop_zero]
        exact List.take_of_length_le (by simp)
      have e0 : (#[evO (evOf a) r] ++ c.args.map (evO (evOf a)))[0]? = some (.iface t v) := by
        rw [Array.getElem?_append]; simp [hv]
      simp only [outE, execOp, eval_evOf, Sem.run_bind, resolve, hm, Sem.run_pure, Result.andThen_ok, invoke, e0, e, callMethod, run_program, h1, callFunc_plain _ h2]
      exact h3
    · exact h.elim

end Go.V
