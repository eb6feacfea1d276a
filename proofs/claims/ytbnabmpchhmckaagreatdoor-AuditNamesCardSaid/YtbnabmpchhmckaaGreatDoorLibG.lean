/-
  'dop' for every operation, and its soundness.
-/
import Derived.Test.YtbnabmpchhmckaaGreatDoorLibF
namespace Go.V
variable {P : Program}

/-- ONE OPERATION -/
def dop (P : Program) (op : Op) (ty : TypeId) (ev : Ev) (w : World) (K : Value → World → Prop) : Prop :=
  match op with
  | .load t x => okO (stepR P ev w (.load t x)) fun v => K v w
  | .lookup t m k ok => okO (stepR P ev w (.lookup t m k ok)) fun v => K v w
  | .typeAssert x xt t ok => okO (stepR P ev w (.typeAssert x xt t ok)) fun v => K v w
  | .binOp op t x y z => if flatT P t = true then okO (stepP P ev (.binOp op t x y z)) fun v => K v w else okO (stepR P ev w (.binOp op t x y z)) fun v => K v w
  | .convert s d x => if cvP P s d = true then okO (stepP P ev (.convert s d x)) fun v => K v w else ConvD P s d (evO ev x) w K
  | .alloc t => okO (stepE P ev w (.alloc t)) fun p => K p.1 p.2
  | .box t x => okO (stepE P ev w (.box t x)) fun p => K p.1 p.2
  | .buildSlice t n ps => okO (stepE P ev w (.buildSlice t n ps)) fun p => K p.1 p.2
  | .store t x v => okO (stepE P ev w (.store t x v)) fun p => K p.1 p.2
  | .makeMap t none => okO (stepE P ev w (.makeMap t none)) fun p => K p.1 p.2
  | .makeMap t (some r) => SemD P (Instr.makeMap t (some (evO ev r))) w K
  | .mapUpdate t m k v => okO (stepE P ev w (.mapUpdate t m k v)) fun p => K p.1 p.2
  | .insert t m k v => okO (stepE P ev w (.insert t m k v)) fun p => K p.1 p.2
  | .makeSlice t l c => SemD P (Instr.makeSlice t (evO ev l) (evO ev c)) w K
  | .mapEntry t m k => SemD P (Instr.mapEntry t (evO ev m) (evO ev k)) w K
  | .entryStore t m s x => SemD P (do Instr.entryStore t (evO ev m) (evO ev s) (evO ev x); pure undef) w K
  | .range t x => SemD P (Instr.range t (evO ev x)) w K
  | .next x s => SemD P (Instr.next (evO ev x) s ty) w K
  | .entry x => SemD P (Instr.entry (evO ev x)) w K
  | .call c => dcall P c ev w K
  | op => okO (stepP P ev op) fun v => K v w

/-- which kind: 0 looks at no memory, 1 leaves it alone, 2 all else -/
def kindOf (P : Program) (op : Op) : Nat :=
  match op with
  | .load .. | .lookup .. | .typeAssert .. => 1
  | .binOp _ t _ _ _ => if flatT P t = true then 0 else 1
  | .convert s d _ => if cvP P s d = true then 0 else 2
  | .alloc _ | .box .. | .buildSlice .. | .store .. | .makeMap .. | .mapUpdate .. | .insert .. | .makeSlice .. | .mapEntry .. | .entryStore .. | .range .. | .next .. | .entry .. => 2
  | .call c => match c.callee with | .builtin b => if biK P b c.argTypes = true then 0 else 2 | _ => 2
  | _ => 0

theorem dop_sound {a : Act} {o : Oper} {w : World} {K : Value → World → Prop} (h : dop P o.op o.type (evOf a) w K) : outE P (execOp a.eval o) w K := by
  have p : ∀ {op : Op}, o.op = op → okO (stepP P (evOf a) op) (fun v => K v w) → outE P (execOp a.eval o) w K := by
    intro op ho h
    obtain ⟨v, hv, hk⟩ := okO_elim h
    simp only [outE, stepP_sound (ho ▸ hv) w]; exact hk
  have r : ∀ {op : Op}, o.op = op → okO (stepR P (evOf a) w op) (fun v => K v w) → outE P (execOp a.eval o) w K := by
    intro op ho h
    obtain ⟨v, hv, hk⟩ := okO_elim h
    simp only [outE, stepR_sound (ho ▸ hv)]; exact hk
  have e : ∀ {op : Op}, o.op = op → okO (stepE P (evOf a) w op) (fun p => K p.1 p.2) → outE P (execOp a.eval o) w K := by
    intro op ho h
    exact stepE_sound (ho ▸ h)
  obtain ⟨dst, op, ty, pos, after, guard⟩ := o
  simp only at p r e h
  cases op
  case load => exact r rfl h
  case lookup => exact r rfl h
  case typeAssert => exact r rfl h
  case binOp =>
    simp only [dop] at h
    split at h
    · exact p rfl h
    · exact r rfl h
  case convert =>
    simp only [dop] at h
    split at h
    · exact p rfl h
    · have := outE_semD h; rw [← eval_evOf] at this; exact this
  case alloc => exact e rfl h
  case box => exact e rfl h
  case buildSlice => exact e rfl h
  case store => exact e rfl h
  case mapUpdate => exact e rfl h
  case insert => exact e rfl h
  case makeMap t mr =>
    cases mr with
    | none => exact e rfl h
    | some mr => have := outE_semD h; rw [← eval_evOf] at this; exact this
  case makeSlice => have := outE_semD h; rw [← eval_evOf] at this; exact this
  case mapEntry => have := outE_semD h; rw [← eval_evOf] at this; exact this
  case range => have := outE_semD h; rw [← eval_evOf] at this; exact this
  case next => have := outE_semD h; rw [← eval_evOf] at this; exact this
  case entry => have := outE_semD h; rw [← eval_evOf] at this; exact this
  case entryStore t m s x =>
    obtain ⟨v, w', hr, hk⟩ := h
    simp only [outE, execOp, eval_evOf, Sem.run_bind] at hr ⊢
    cases hs : (Instr.entryStore t (evO (evOf a) m) (evO (evOf a) s) (evO (evOf a) x)).run P w with
    | ok u w1 =>
      rw [hs] at hr
      simp only [Result.andThen_ok, Sem.run_pure, Result.ok.injEq] at hr
      obtain ⟨rfl, rfl⟩ := hr
      simpa using hk
    | halt x w1 => rw [hs] at hr; simp at hr
  case call => exact dcall_sound h
  all_goals exact p rfl h

/-- what an operation of the first kind yields it yields in every world -/
theorem dop_kind0 {a : Act} {o : Oper} {w : World} {K : Value → World → Prop} (h : dop P o.op o.type (evOf a) w K) (hk : kindOf P o.op = 0) :
    ∃ v, (∀ w', (execOp a.eval o).run P w' = .ok (.value v) w') ∧ K v w := by
  have p : ∀ {op : Op}, o.op = op → okO (stepP P (evOf a) op) (fun v => K v w) → ∃ v, (∀ w', (execOp a.eval o).run P w' = .ok (.value v) w') ∧ K v w := by
    intro op ho h
    obtain ⟨v, hv, hk⟩ := okO_elim h
    exact ⟨v, fun w' => stepP_sound (ho ▸ hv) w', hk⟩
  obtain ⟨dst, op, ty, pos, after, guard⟩ := o
  simp only at p h hk
  cases op
  case load | lookup | typeAssert | alloc | box | buildSlice | store | mapUpdate | insert | makeMap | makeSlice | mapEntry | range | next | entry | entryStore => cases hk
  case binOp => simp only [dop] at h; simp only [kindOf] at hk; split at hk <;> simp_all
  case convert => simp only [dop] at h; simp only [kindOf] at hk; split at hk <;> simp_all
  case call c =>
    simp only [kindOf] at hk
    split at hk
    · rename_i b hb
      split at hk
      · rename_i hbi
        simp only [dop] at h
        unfold dcall at h
        rw [hb] at h
        simp only [hbi, if_true] at h
        refine p (op := .call c) rfl ?_
        obtain ⟨callee, args, ts⟩ := c
        simp only at hb
        subst hb
        exact h
      · cases hk
    · cases hk
  all_goals exact p rfl h
theorem dop_kind1 {a : Act} {o : Oper} {w : World} {K : Value → World → Prop} (h : dop P o.op o.type (evOf a) w K) (hk : kindOf P o.op = 1) :
    ∃ v, (execOp a.eval o).run P w = .ok (.value v) w ∧ K v w := by
  have r : ∀ {op : Op}, o.op = op → okO (stepR P (evOf a) w op) (fun v => K v w) → ∃ v, (execOp a.eval o).run P w = .ok (.value v) w ∧ K v w := by
    intro op ho h
    obtain ⟨v, hv, hk⟩ := okO_elim h
    exact ⟨v, stepR_sound (ho ▸ hv), hk⟩
  obtain ⟨dst, op, ty, pos, after, guard⟩ := o
  simp only at r h hk
  cases op
  case load => exact r rfl h
  case lookup => exact r rfl h
  case typeAssert => exact r rfl h
  case binOp => simp only [dop] at h; simp only [kindOf] at hk; split at hk <;> simp_all
  case convert => simp only [kindOf] at hk; split at hk <;> simp_all
  case call c => simp only [kindOf] at hk; split at hk <;> (try split at hk) <;> simp_all
  all_goals cases hk
end Go.V
