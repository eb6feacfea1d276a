/-
  The operations that look at memory, and those that change it.
-/
import Derived.Test.YtbnabmpchhmckaaGreatDoorLibC
namespace Go.V
variable {P : Program}

/-! ### Memory -/
theorem add_off (b o n : Nat) : (⟨b, o, none⟩ : Addr).add n = ⟨b, o + n, none⟩ := by
  unfold Addr.add; split
  · subst_vars; rfl
  · rfl
theorem cell_blk {w : World} {b o : Nat} {c : Array Value} {e : TypeId} {fz : Nat × Nat} (h : w.heap[b]? = some (.cells c e fz)) :
    w.cell? ⟨b, o, none⟩ = c[o]? := by simp [World.cell?, h]
theorem r_load {w : World} {b o : Nat} {c : Array Value} {e : TypeId} {fz : Nat × Nat} {v : Value}
    (h : w.heap[b]? = some (.cells c e fz)) (hv : c[o]? = some v) : (load ⟨b, o, none⟩).run P w = .ok v w := by
  simp [cell_blk h, hv]
theorem r_loadCells {w : World} {b o n : Nat} {c : Array Value} {e : TypeId} {fz : Nat × Nat}
    (h : w.heap[b]? = some (.cells c e fz)) (hn : o + n ≤ c.size) : (loadCells ⟨b, o, none⟩ n).run P w = .ok (c.extract o (o + n)) w := by
  rw [run_loadCells w ⟨b, o, none⟩ n (fun j => c.getD (o + j) undef)]
  · congr 1
    apply Array.ext
    · simp; omega
    · intro i h1 h2
      have h3 : o + i < c.size := by simp at h2; omega
      simp [h3]
  · intro j hj
    have h3 : o + j < c.size := by omega
    rw [add_off, cell_blk h]
    simp [h3]
theorem r_loadVar {w : World} {t : TypeId} {b o : Nat} {v : Value} (h : ldO P t w.heap[b]? o = some v) : (loadVar t ⟨b, o, none⟩).run P w = .ok v w := by
  unfold ldO at h
  split at h
  · rename_i c e fz hb
    split at h
    · rename_i ha
      split at h
      · rename_i n hs
        split at h
        · rename_i hn
          simp only [Option.some.injEq] at h; subst h
          simp [loadVar, r_agg ha, r_size hs, r_loadCells hb hn]
        · cases h
      · cases h
    · rename_i ha
      simp only [loadVar, Sem.run_bind, r_agg ha, Result.andThen_ok, Bool.false_eq_true, if_false]
      exact r_load hb h
    · cases h
  · cases h

theorem heap_lt {w : World} {b : Nat} {o : Obj} (h : w.heap[b]? = some o) : b < w.heap.size := (Array.getElem?_eq_some_iff.1 h).1
@[simp] theorem put_heap_size (w : World) (b : Nat) (o : Obj) : (put w b o).heap.size = w.heap.size := by simp [put]
theorem put_self {w : World} {b : Nat} {o : Obj} (h : w.heap[b]? = some o) : put w b o = w := by
  have h1 := heap_lt h
  have h2 : w.heap[b] = o := by simpa [Array.getElem?_eq_getElem h1] using h
  unfold put
  have : w.heap.setIfInBounds b o = w.heap := by
    rw [← h2]
    simp [Array.setIfInBounds, h1]
  rw [this]
theorem put_put (w : World) (b : Nat) (o o' : Obj) : put (put w b o) b o' = put w b o' := by
  simp [put]
theorem blk_put_same {w : World} {b : Nat} (o : Obj) (h : b < w.heap.size) : (put w b o).heap[b]? = some o := by
  simp [put, h]
theorem blk_put_ne {w : World} {b b' : Nat} (o : Obj) (h : b ≠ b') : (put w b o).heap[b']? = w.heap[b']? := by
  simp [put, Array.getElem?_setIfInBounds_ne h]
theorem setCell_put {w : World} {b o : Nat} {c : Array Value} {e : TypeId} {fz : Nat × Nat} (v : Value)
    (h : w.heap[b]? = some (.cells c e fz)) : w.setCell ⟨b, o, none⟩ v = put w b (.cells (c.setIfInBounds o v) e fz) := by
  have h1 := heap_lt h
  have h2 : w.heap[b] = .cells c e fz := by simpa [Array.getElem?_eq_getElem h1] using h
  unfold World.setCell put
  congr 1
  apply Array.ext_getElem?
  intro i
  rw [Array.getElem?_modify, Array.getElem?_setIfInBounds]
  by_cases hb : b = i
  · subst hb; simp [h1, h2]
  · simp [hb]

theorem one_eq (v : Value) : one v = v.oneCell' := by cases v <;> rfl
theorem storeL_size : ∀ (vs : List Value) (o : Nat) (c : Array Value), (storeL vs o c).size = c.size
  | [], _, _ => rfl
  | _ :: r, o, c => by simp [storeL, storeL_size r]
theorem r_storeCells : ∀ (vs : List Value) (w : World) (b o i : Nat) (c : Array Value) (e : TypeId), w.heap[b]? = some (.cells c e (0, 0)) →
    o + i + vs.length ≤ c.size → vs.all one = true →
    (storeCells ⟨b, o, none⟩ vs i).run P w = .ok () (put w b (.cells (storeL vs (o + i) c) e (0, 0)))
  | [], w, b, o, i, c, e, h, _, _ => by simp [storeCells, storeL, put_self h]
  | v :: r, w, b, o, i, c, e, h, hn, h1 => by
    simp only [List.length_cons] at hn
    simp only [List.all_cons, Bool.and_eq_true] at h1
    have hlt : o + i < c.size := by omega
    have hc : w.cell? ⟨b, o + i, none⟩ = some c[o + i] := by rw [cell_blk h]; simp [hlt]
    have hf : w.frozen? ⟨b, o + i, none⟩ = false := by simp [World.frozen?, h]
    simp only [storeCells, Sem.run_bind, add_off, run_store P w _ v .plain (by rw [← one_eq]; exact h1.1), hc, hf, Bool.false_eq_true, if_false, Result.andThen_ok]
    rw [setCell_put v h]
    rw [r_storeCells r _ b o (i + 1) (c.setIfInBounds (o + i) v) e (blk_put_same _ (heap_lt h)) (by simp; omega) h1.2]
    rw [put_put]
    simp [storeL, Nat.add_assoc]
theorem r_storeVar {w : World} {t : TypeId} {b o : Nat} {v : Value} {ob : Obj} (h : stO P t w.heap[b]? o v = some ob) :
    (storeVar t ⟨b, o, none⟩ v).run P w = .ok () (put w b ob) := by
  unfold stO at h
  split at h
  · rename_i c e hb
    split at h
    · rename_i hh
      simp only [Option.some.injEq] at h; subst h
      have := r_storeCells (P := P) v.cells.toList w b o 0 c e hb (by simpa using hh.2.1) (by simpa using hh.2.2)
      simp only [storeVar, Sem.run_bind, r_size hh.1, Result.andThen_ok, ne_eq, not_true_eq_false, if_false]
      simpa using this
    · cases h
  · cases h

/-! ### Sameness, with addresses -/
def plainB (w : World) (b : Nat) : Bool := match w.heap[b]? with | some (.cells _ _ (0, 0)) => true | _ => false
def eqPtr (w : World) (x y : Value) : Option Bool :=
  match x, y with
  | .pointer none, .pointer b => some b.isNone
  | .pointer (some _), .pointer none => some false
  | .pointer (some a), .pointer (some b) => if a.block = b.block then some (a == b) else if plainB w a.block = true ∧ plainB w b.block = true then some false else none
  | _, _ => none
theorem plainB_spec {w : World} {b : Nat} (h : plainB w b = true) : ∃ c e, w.heap[b]? = some (.cells c e (0, 0)) := by
  unfold plainB at h
  split at h
  · exact ⟨_, _, by assumption⟩
  · cases h
theorem r_sameAddr {w : World} {a b : Addr} (hne : a.block ≠ b.block) (ha : plainB w a.block = true) (hb : plainB w b.block = true) :
    (sameAddr a b).run P w = .ok false w := by
  obtain ⟨c, e, hc⟩ := plainB_spec ha
  obtain ⟨c', e', hc'⟩ := plainB_spec hb
  have f1 : ∀ n, w.frozen? ⟨a.block, n, a.spot⟩ = false := fun n => by simp [World.frozen?, hc]
  have f2 : ∀ n, w.frozen? ⟨b.block, n, b.spot⟩ = false := fun n => by simp [World.frozen?, hc']
  have f3 : ∀ n, w.frozen? ⟨a.block, n, none⟩ = false := fun n => by simp [World.frozen?, hc]
  have f4 : ∀ n, w.frozen? ⟨b.block, n, none⟩ = false := fun n => by simp [World.frozen?, hc']
  have f1' := f1 a.off
  have f2' := f2 b.off
  have s1 : w.shape? a.block = some (e, c.size) := by simp [World.shape?, hc]
  have s2 : w.shape? b.block = some (e', c'.size) := by simp [World.shape?, hc']
  simp [sameAddr, hne, noView, viewAt, s1, s2, mayBeOne, stringish, f1', f2', f3, f4]

def ptrO (P : Program) (t : TypeId) : Option Nat := match P.underlying t with | some (.pointer e) => szO P e | _ => none
def cmpR (P : Program) (w : World) (t : TypeId) (c : Bool) (a b : Value) : Option Bool :=
  match a, b with
  | .pointer _, .pointer _ => (match ptrO P t with | some n => if n = 0 then none else eqPtr w a b | none => none)
  | .agg _, .agg _ => if P.eqGuardType P.depth t = true then none else eqV P Op.maxDepth t a b
  | .nilIface, .nilIface => if ifaceT P t = true ∧ c = true then some true else none
  | .nilIface, .iface _ _ => if ifaceT P t = true then some false else none
  | .iface _ _, .nilIface => if ifaceT P t = true then some false else none
  | .slice x _ _, .slice y _ _ => (match slcO P t with | none => none | some _ => match x, y with | none, y => some y.isNone | some _, none => some false | _, _ => none)
  | .map x, .map y => (match mapO P t with | none => none | some _ => match x, y with | none, y => some y.isNone | some _, none => some false | _, _ => none)
  | _, _ => none

theorem ifaceT_und {t : TypeId} (h : ifaceT P t = true) : ∃ ms, P.underlying t = some (.interface ms) := by
  unfold ifaceT at h
  split at h
  · exact ⟨_, by assumption⟩
  · cases h
theorem r_eqPtr (d : Nat) {w : World} {t : TypeId} {e n : Nat} {x y : Value} {r : Bool} (he : P.underlying t = some (.pointer e)) (hn : szO P e = some n) (hnz : ¬ n = 0)
    (h : eqPtr w x y = some r) : (Op.equalIn (d + 1) t x y).run P w = .ok r w := by
  unfold eqPtr at h
  split at h
  · simp only [Option.some.injEq] at h; subst h
    simp [Op.equalIn, r_und he]
  · simp only [Option.some.injEq] at h; subst h
    simp [Op.equalIn, r_und he]
  · rename_i a b
    split at h
    · rename_i hb
      simp only [Option.some.injEq] at h; subst h
      simp [Op.equalIn, r_und he, r_size hn, hnz, sameAddr, hb]
    · rename_i hb
      split at h
      · rename_i hp
        simp only [Option.some.injEq] at h; subst h
        simp [Op.equalIn, r_und he, r_size hn, hnz, r_sameAddr hb hp.1 hp.2]
      · cases h
  · cases h
theorem r_eqIf (d : Nat) {w : World} {t : TypeId} (ms : Array (String × TypeId)) (hms : P.underlying t = some (.interface ms)) :
    (Op.equalIn (d + 1) t .nilIface .nilIface).run P w = .ok true w ∧ (∀ u v, (Op.equalIn (d + 1) t .nilIface (.iface u v)).run P w = .ok false w) ∧
    (∀ u v, (Op.equalIn (d + 1) t (.iface u v) .nilIface).run P w = .ok false w) := by
  refine ⟨?_, fun u v => ?_, fun u v => ?_⟩ <;> simp [Op.equalIn, r_und hms]
theorem r_eqSl (d : Nat) {w : World} {t e : TypeId} (h : P.underlying t = some (.slice e)) (y : Option Addr) (a b c e' : Nat) :
    (Op.equalIn (d + 1) t (.slice none a b) (.slice y c e')).run P w = .ok y.isNone w ∧
    (∀ x, (Op.equalIn (d + 1) t (.slice (some x) a b) (.slice none c e')).run P w = .ok false w) := by
  refine ⟨?_, fun x => ?_⟩ <;> simp [Op.equalIn, r_und h]
theorem r_eqMp (d : Nat) {w : World} {t k e : TypeId} (h : P.underlying t = some (.map k e)) (y : Option Nat) :
    (Op.equalIn (d + 1) t (.map none) (.map y)).run P w = .ok y.isNone w ∧
    (∀ x, (Op.equalIn (d + 1) t (.map (some x)) (.map none)).run P w = .ok false w) := by
  refine ⟨?_, fun x => ?_⟩ <;> simp [Op.equalIn, r_und h]
theorem equal_eq (t : TypeId) (a b : Value) : Op.equal t a b = Op.equalIn (9999 + 1) t a b := rfl
set_option maxHeartbeats 1000000 in
theorem r_cmp {w : World} {t : TypeId} {x y : Operand} {a b : Value} {r : Bool} {op : BinOp} (hop : op = .eql ∨ op = .neq)
    (h : cmpR P w t ((x matches .const _) || (y matches .const _)) a b = some r) :
    (do eqGuard op t x y a b; binOp op t a b : Sem Value).run P w = .ok (.bool (if op = .eql then r else !r)) w := by
  have key : (eqGuard op t x y a b).run P w = .ok () w ∧ (Op.equal t a b).run P w = .ok r w ∧
      (binOp .eql t a b = (do pure (.bool (← Op.equal t a b)))) ∧ (binOp .neq t a b = (do pure (.bool (!(← Op.equal t a b))))) := by
    unfold cmpR at h
    split at h
    · rename_i p q
      split at h
      · rename_i n hn
        unfold ptrO at hn
        split at hn
        · rename_i e he
          split at h
          · cases h
          · rename_i hnz
            refine ⟨by rcases hop with rfl | rfl <;> simp [eqGuard], ?_, by cases p <;> cases q <;> rfl, by cases p <;> cases q <;> rfl⟩
            rw [equal_eq]; exact r_eqPtr _ he hn hnz h
        · cases hn
      · cases h
    · split at h
      · cases h
      · rename_i hg
        refine ⟨by rcases hop with rfl | rfl <;> simp [eqGuard, hg], ?_, rfl, rfl⟩
        exact r_eqV _ _ _ _ _ h w
    · simp only [Option.ite_none_right_eq_some, Option.some.injEq] at h
      obtain ⟨hh, rfl⟩ := h
      · obtain ⟨ms, hms⟩ := ifaceT_und hh.1
        refine ⟨?_, by rw [equal_eq]; exact (r_eqIf _ ms hms).1, rfl, rfl⟩
        have := hh.2
        rcases hop with rfl | rfl <;> simp only [eqGuard] <;> cases x <;> cases y <;> simp_all
    · split at h
      · rename_i hh
        obtain ⟨ms, hms⟩ := ifaceT_und hh
        simp only [Option.some.injEq] at h; subst h
        exact ⟨by rcases hop with rfl | rfl <;> simp [eqGuard], by rw [equal_eq]; exact (r_eqIf _ ms hms).2.1 _ _, rfl, rfl⟩
      · cases h
    · split at h
      · rename_i hh
        obtain ⟨ms, hms⟩ := ifaceT_und hh
        simp only [Option.some.injEq] at h; subst h
        exact ⟨by rcases hop with rfl | rfl <;> simp [eqGuard], by rw [equal_eq]; exact (r_eqIf _ ms hms).2.2 _ _, rfl, rfl⟩
      · cases h
    · split at h
      · cases h
      · rename_i e he
        refine ⟨by rcases hop with rfl | rfl <;> simp [eqGuard], ?_, rfl, rfl⟩
        split at h
        · simp only [Option.some.injEq] at h; subst h; rw [equal_eq]; exact (r_eqSl _ (slcO_und he) _ _ _ _ _).1
        · simp only [Option.some.injEq] at h; subst h; rw [equal_eq]; exact (r_eqSl _ (slcO_und he) none _ _ _ _).2 _
        · cases h
    · split at h
      · cases h
      · rename_i ke hke
        obtain ⟨k, e⟩ := ke
        refine ⟨by rcases hop with rfl | rfl <;> simp [eqGuard], ?_, rfl, rfl⟩
        split at h
        · simp only [Option.some.injEq] at h; subst h; rw [equal_eq]; exact (r_eqMp _ (mapO_und hke) _).1
        · simp only [Option.some.injEq] at h; subst h; rw [equal_eq]; exact (r_eqMp _ (mapO_und hke) none).2 _
        · cases h
    · cases h
  obtain ⟨h1, h2, h3, h4⟩ := key
  rcases hop with rfl | rfl
  · simp [h1, h3, h2]
  · simp [h1, h4, h2]
end Go.V
