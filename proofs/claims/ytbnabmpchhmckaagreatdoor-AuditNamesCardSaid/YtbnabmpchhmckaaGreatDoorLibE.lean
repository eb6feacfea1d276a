/-
  'dop': one operation as a formula; it is what the machine does.
-/
import Derived.Test.YtbnabmpchhmckaaGreatDoorLibD
namespace Go.V
variable {P : Program}

/-! ### Maps -/
def ckV (P : Program) : Nat → TypeId → Value → Bool
  | 0, _, _ => false
  | d + 1, t, v =>
    match P.underlying t, v with
    | some .bool, _ | some (.int _), _ | some .string, _ | some (.pointer _), _ => true
    | some (.struct fs), .agg cs => fs.toList.all fun f => if f.name = "_" then true else match partO P f.type cs f.offset with | some u => ckV P d f.type u | none => false
    | some (.array n e), .agg cs => match szO P e with | some s => (List.range n).all fun i => (match partO P e cs (i * s) with | some u => ckV P d e u | none => false) | none => false
    | _, _ => false

theorem r_forUnit {α : Type} (B : α → Unit → Sem (ForInStep Unit)) (w : World) :
    ∀ (l : List α), (∀ x ∈ l, (B x ()).run P w = .ok (.yield ()) w) → (forIn (m := Sem) l () B).run P w = .ok () w
  | [], _ => by simp
  | x :: l, h => by
    simp only [List.forIn_cons, Sem.run_bind, h x (by simp), Result.andThen_ok]
    exact r_forUnit B w l fun y hy => h y (by simp [hy])

theorem r_ckV (emp : Bool) : ∀ (d : Nat) (t : TypeId) (v : Value), ckV P d t v = true → ∀ w, (Instr.checkKey emp d t v).run P w = .ok () w := by
  intro d
  induction d with
  | zero => intro t v h; cases h
  | succ d ih =>
    intro t v h w
    unfold ckV at h
    split at h
    · rename_i hu; simp only [Instr.checkKey, Sem.run_bind, r_und hu, Result.andThen_ok]; simp
    · rename_i hu; simp only [Instr.checkKey, Sem.run_bind, r_und hu, Result.andThen_ok]; simp
    · rename_i hu; simp only [Instr.checkKey, Sem.run_bind, r_und hu, Result.andThen_ok]; simp
    · rename_i hu; simp only [Instr.checkKey, Sem.run_bind, r_und hu, Result.andThen_ok]; simp
    · rename_i fs cs hu
      simp only [Instr.checkKey, Sem.run_bind, r_und hu, Result.andThen_ok]
      rw [← Array.forIn_toList, r_forUnit]
      · simp
      · intro f hf
        have := List.all_eq_true.1 h f hf
        split at this
        · rename_i hn; simp [hn]
        · rename_i hn
          split at this
          · rename_i u hu'
            simp [hn, r_part hu', ih _ _ this]
          · cases this
    · rename_i n e cs hu
      simp only [Instr.checkKey, Sem.run_bind, r_und hu, Result.andThen_ok]
      split at h
      · rename_i s hs
        rw [Std.Legacy.Range.forIn_eq_forIn_range', r_forUnit]
        · simp
        · intro i hi
          have hi' : i ∈ List.range n := by simpa [Std.Legacy.Range.size, List.range_eq_range'] using hi
          have := List.all_eq_true.1 h i hi'
          split at this
          · rename_i u hu'
            simp [r_size hs, r_part hu', ih _ _ this]
          · cases this
      · cases h
    · cases h

def mapEs (w : World) (m : Value) : Option (List MapEntry) :=
  match m with
  | .map none => some []
  | .map (some r) => (match w.heap[r]? with | some (.map es _) => some es.toList | _ => none)
  | _ => none
def findV (P : Program) (kt : TypeId) (k : Value) : List MapEntry → Nat → Option (Option (Nat × Value))
  | [], _ => some none
  | e :: es, i =>
    match eqV P Op.maxDepth kt k e.key with
    | some true => some (some (i, e.val))
    | some false => findV P kt k es (i + 1)
    | none => none

theorem eqV_now {kt : TypeId} {d : TypeDesc} {a b : Value} {x y : Bool} (hu : P.underlying kt = some d) (h : Instr.sameNow d a b = some x) (h' : eqV P Op.maxDepth kt a b = some y) : x = y := by
  have e : eqV P Op.maxDepth kt a b = eqV P (9999 + 1) kt a b := rfl
  rw [e] at h'
  unfold eqV at h'
  unfold Instr.sameNow at h
  rw [hu] at h'
  split at h
  · split at h
    · rename_i hk; simp_all
    · cases h
  · simp_all
  · simp_all
  · cases h
theorem findNow_eq {kt : TypeId} {d : TypeDesc} {k : Value} (hu : P.underlying kt = some d) : ∀ (es : List MapEntry) (i : Nat) (r r' : Option (Nat × Value)),
    findV P kt k es i = some r → Instr.findNow d k es i = some r' → r' = r
  | [], i, r, r', h, h' => by simp [findV] at h; simp [Instr.findNow] at h'; rw [← h', ← h]
  | e :: es, i, r, r', h, h' => by
    unfold findV at h
    unfold Instr.findNow at h'
    cases hn : Instr.sameNow d k e.key with
    | none => rw [hn] at h'; cases h'
    | some x =>
      rw [hn] at h'
      cases hv : eqV P Op.maxDepth kt k e.key with
      | none => rw [hv] at h; cases h
      | some y =>
        rw [hv] at h
        have := eqV_now hu hn hv
        subst this
        cases x
        · exact findNow_eq hu es (i + 1) r r' h h'
        · simp only [Option.some.injEq] at h h'; rw [← h', ← h]
theorem findAsking_eq {kt : TypeId} {k : Value} (w : World) : ∀ (es : List MapEntry) (i : Nat) (r : Option (Nat × Value)),
    findV P kt k es i = some r → (Instr.findAsking kt k es i).run P w = .ok r w
  | [], i, r, h => by simp [findV] at h; simp [Instr.findAsking, h]
  | e :: es, i, r, h => by
    unfold findV at h
    split at h
    · rename_i hv
      simp only [Option.some.injEq] at h; subst h
      simp [Instr.findAsking, Op.equal, r_eqV _ _ _ _ _ hv]
    · rename_i hv
      simp [Instr.findAsking, Op.equal, r_eqV _ _ _ _ _ hv, findAsking_eq w es (i + 1) r h]
    · cases h
theorem r_findKey {kt : TypeId} {d : TypeDesc} {k : Value} {es : List MapEntry} {r : Option (Nat × Value)} (hu : P.underlying kt = some d) (h : findV P kt k es 0 = some r) (w : World) :
    (Instr.findKey kt k es).run P w = .ok r w := by
  simp only [Instr.findKey, Sem.run_bind, r_und hu, Result.andThen_ok]
  cases hn : Instr.findNow d k es 0 with
  | none => simp only []; exact findAsking_eq w es 0 r h
  | some r' => simp [findNow_eq hu es 0 r r' h hn]

theorem ckV_und {d : Nat} {t : TypeId} {v : Value} (h : ckV P d t v = true) : ∃ u, P.underlying t = some u := by
  cases d with
  | zero => cases h
  | succ d =>
    unfold ckV at h
    cases hu : P.underlying t with
    | none => simp [hu] at h
    | some u => exact ⟨u, rfl⟩

/-- where a key stands among a map's entries -/
def getK (P : Program) (kt : TypeId) (es : List MapEntry) (k : Value) : Option (Option (Nat × Value)) :=
  if ckV P 10000 kt k = true then findV P kt k es 0 else none
def lookO (P : Program) (t : TypeId) (w : World) (m k : Value) : Option (Value × Bool) :=
  (mapO P t).bind fun p => (mapEs w m).bind fun es => (getK P p.1 es k).bind fun r => match r with
    | some (_, v) => some (v, true)
    | none => (zeroO P p.2).map fun z => (z, false)
theorem r_getObj {w : World} {r : Nat} {es : Array MapEntry} {c : Nat} (h : w.heap[r]? = some (.map es c)) : (getObj r).run P w = .ok (.map es c) w := by
  simp [getObj, Sem.run, h]
theorem r_setObj {w : World} {r : Nat} {es : Array MapEntry} {c : Nat} {o : Obj} (h : w.heap[r]? = some (.map es c)) : (setObj r o).run P w = .ok () (put w r o) := by
  simp [setObj, Sem.run, h, put]
theorem r_look {t : TypeId} {w : World} {m k v : Value} {b ok : Bool} (h : lookO P t w m k = some (v, b)) :
    (Instr.lookup t m k ok).run P w = .ok (if ok = true then .tuple #[v, .bool b] else v) w := by
  unfold lookO at h
  simp only [Option.bind_eq_some_iff] at h
  obtain ⟨⟨kt, et⟩, hm, es, hes, r, hr, h⟩ := h
  unfold getK at hr
  split at hr
  · rename_i hck
    obtain ⟨d, hd⟩ := ckV_und hck
    simp only at hd hck hr h
    unfold mapEs at hes
    split at hes
    · simp only [Option.some.injEq] at hes
      subst hes
      simp only [Instr.lookup, Sem.run_bind, r_und (mapO_und hm), Result.andThen_ok, Sem.run_pure, r_ckV _ _ _ _ hck, r_findKey hd hr]
      cases r with
      | none =>
        simp only [Option.map_eq_some_iff, Prod.mk.injEq] at h
        obtain ⟨z, hz, rfl, rfl⟩ := h
        simp [r_zero hz]
      | some iv =>
        obtain ⟨i, u⟩ := iv
        simp only [Option.some.injEq, Prod.mk.injEq] at h
        obtain ⟨rfl, rfl⟩ := h
        simp
    · rename_i r'
      split at hes
      · rename_i es' c' hb
        simp only [Option.some.injEq] at hes
        subst hes
        simp only [Instr.lookup, Sem.run_bind, r_und (mapO_und hm), Result.andThen_ok, r_getObj hb, Sem.run_pure, r_ckV _ _ _ _ hck, r_findKey hd hr]
        cases r with
        | none =>
          simp only [Option.map_eq_some_iff, Prod.mk.injEq] at h
          obtain ⟨z, hz, rfl, rfl⟩ := h
          simp [r_zero hz]
        | some iv =>
          obtain ⟨i, u⟩ := iv
          simp only [Option.some.injEq, Prod.mk.injEq] at h
          obtain ⟨rfl, rfl⟩ := h
          simp
      · cases hes
    · cases hes
  · cases hr

/-- a map's object behind a store -/
def putE (P : Program) (kt : TypeId) (ob : Option Obj) (k v : Value) : Option Obj :=
  match ob with
  | some (.map es c) => (getK P kt es.toList k).bind fun r => match r with
    | some (i, _) => if Instr.sameBits 10000 (((es[i]?).map (·.key)).getD k) k = true then some (.map (es.modify i fun e => { e with key := k, val := v }) c) else none
    | none => some (.map (es.push { key := k, val := v, born := c }) (c + 1))
  | _ => none
theorem r_mapUpdate {t kt et : TypeId} {w : World} {r : Nat} {k v : Value} {ob : Obj} (hm : mapO P t = some (kt, et)) (h : putE P kt w.heap[r]? k v = some ob) :
    (Instr.mapUpdate t (.map (some r)) k v).run P w = .ok () (put w r ob) := by
  unfold putE at h
  split at h
  · rename_i es c hb
    simp only [Option.bind_eq_some_iff] at h
    obtain ⟨q, hr, h⟩ := h
    unfold getK at hr
    split at hr
    · rename_i hck
      obtain ⟨d, hd⟩ := ckV_und hck
      simp only [Instr.mapUpdate, Sem.run_bind, r_und (mapO_und hm), Result.andThen_ok, r_getObj hb, r_ckV _ _ _ _ hck, r_findKey hd hr]
      cases q with
      | none => simp only [Option.some.injEq] at h; subst h; exact r_setObj hb
      | some iv =>
        obtain ⟨i, u⟩ := iv
        simp only at h
        split at h
        · rename_i hs
          simp only [Option.some.injEq] at h; subst h
          simp only [Instr.keyThatStays, hs, if_true, Sem.run_bind, Sem.run_pure, Result.andThen_ok]
          exact r_setObj hb
        · cases h
    · cases hr
  · cases h
def delE (P : Program) (kt : TypeId) (ob : Option Obj) (k : Value) : Option Obj :=
  match ob with
  | some (.map es c) => (getK P kt es.toList k).map fun r => match r with
    | some (i, _) => .map (es.eraseIdxIfInBounds i) c
    | none => .map es c
  | _ => none
theorem r_delete {t kt et ty : TypeId} {ts : Array TypeId} {w : World} {r : Nat} {k : Value} {ob : Obj} (ht : ts[0]? = some t) (hm : mapO P t = some (kt, et)) (h : delE P kt w.heap[r]? k = some ob) :
    (Builtin.delete_ ts ty #[.map (some r), k]).run P w = .ok (.tuple #[]) (put w r ob) := by
  unfold delE at h
  split at h
  · rename_i es c hb
    simp only [Option.map_eq_some_iff] at h
    obtain ⟨q, hr, h⟩ := h
    unfold getK at hr
    split at hr
    · rename_i hck
      obtain ⟨d, hd⟩ := ckV_und hck
      subst h
      cases q with
      | none => simp [Builtin.delete_, ht, r_und (mapO_und hm), r_getObj hb, r_ckV _ _ _ _ hck, r_findKey hd hr, r_setObj hb]
      | some iv => simp [Builtin.delete_, ht, r_und (mapO_und hm), r_getObj hb, r_ckV _ _ _ _ hck, r_findKey hd hr, r_setObj hb]
    · cases hr
  · cases h

/-! ### The kinds -/
def isC (x : Operand) : Bool := x matches .const _
/-- operations of the second kind -/
def stepR (P : Program) (ev : Ev) (w : World) (op : Op) : Option Value :=
  match op with
  | .load t x => match evO ev x with | .pointer (some ⟨b, o, none⟩) => rdO P t w b o | _ => none
  | .binOp op t x y _ => match op with
    | .eql => (cmpR P w t (isC x || isC y) (evO ev x) (evO ev y)).map fun r => .bool r
    | .neq => (cmpR P w t (isC x || isC y) (evO ev x) (evO ev y)).map fun r => .bool !r
    | _ => none
  | .lookup t m k ok => (lookO P t w (evO ev m) (evO ev k)).map fun p => if ok = true then .tuple #[p.1, .bool p.2] else p.1
  | .typeAssert x _ t ok => match evO ev x with
    | .iface u v => if ifaceT P t = true then none else (aggO P t).bind fun _ => if u = t then some (if ok = true then .tuple #[v, .bool true] else v) else if ok = true then (zeroO P t).map fun z => .tuple #[z, .bool false] else none
    | .nilIface => if ok = true then (aggO P t).bind fun _ => (zeroO P t).map fun z => .tuple #[z, .bool false] else none
    | _ => none
  | _ => none

theorem stepR_sound {a : Act} {o : Oper} {v : Value} {w : World} (h : stepR P (evOf a) w o.op = some v) : (execOp a.eval o).run P w = .ok (.value v) w := by
  obtain ⟨dst, op, ty, pos, after, guard⟩ := o
  unfold stepR at h
  simp only at h
  split at h <;> simp only [execOp, Sem.run_bind, eval_evOf]
  · split at h
    · rename_i b o hx
      simp [Instr.loadAt, hx, Instr.sureAddr, r_loadVar h]
    · cases h
  · rename_i bop t x y z
    split at h
    · simp only [Option.map_eq_some_iff] at h
      obtain ⟨r, hr, rfl⟩ := h
      have := r_cmp (op := .eql) (.inl rfl) hr
      simp only [Sem.run_bind] at this
      rw [this]; simp
    · simp only [Option.map_eq_some_iff] at h
      obtain ⟨r, hr, rfl⟩ := h
      have := r_cmp (op := .neq) (.inr rfl) hr
      simp only [Sem.run_bind] at this
      rw [this]; simp
    · cases h
  · simp only [Option.map_eq_some_iff] at h
    obtain ⟨⟨u, b⟩, hl, rfl⟩ := h
    simp [r_look hl]
  · rename_i x xt t ok
    split at h
    · rename_i u v' hx
      split at h
      · cases h
      · rename_i hni
        simp only [Option.bind_eq_some_iff] at h
        obtain ⟨b, hb, h⟩ := h
        obtain ⟨d, hd⟩ := aggO_und hb
        simp only [ifaceT, hd] at hni
        have hni' : ∀ ms, d ≠ .interface ms := by intro ms he; subst he; simp at hni
        split at h
        · rename_i hut
          simp only [Option.some.injEq] at h; subst h
          simp only [Instr.typeAssert, Sem.run_bind, r_und hd, Result.andThen_ok, hx]
          cases d <;> simp_all
        · rename_i hut
          split at h
          · rename_i hok
            simp only [Option.map_eq_some_iff] at h
            obtain ⟨z, hz, rfl⟩ := h
            simp only [Instr.typeAssert, Sem.run_bind, r_und hd, Result.andThen_ok, hx]
            cases d <;> simp_all [r_zero hz]
          · cases h
    · rename_i hx
      split at h
      · rename_i hok
        simp only [Option.bind_eq_some_iff, Option.map_eq_some_iff] at h
        obtain ⟨b, hb, z, hz, rfl⟩ := h
        obtain ⟨d, hd⟩ := aggO_und hb
        simp only [Instr.typeAssert, Sem.run_bind, r_und hd, Result.andThen_ok, hx]
        cases d <;> simp_all [r_zero hz]
      · cases h
    · cases h
  · cases h
end Go.V
