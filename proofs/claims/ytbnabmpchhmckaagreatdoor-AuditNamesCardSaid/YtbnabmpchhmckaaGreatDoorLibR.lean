/-
  Worlds that differ in some blocks ('Fr'); aggregates read cell by cell; bytes made a text; what a row asks of a world.
-/
import Derived.Test.YtbnabmpchhmckaaGreatDoorLibQ
import Derived.RowKit3
namespace Go.V
open Go.RowKit
variable {P : Program}
/-- blocks outside F stand; the heap may have grown -/
structure Fr (F : Nat → Prop) (w w' : World) : Prop where
  os : w'.os = w.os
  out : w'.output = w.output
  size : w.heap.size ≤ w'.heap.size
  blk : ∀ b, b < w.heap.size → ¬ F b → w'.heap[b]? = w.heap[b]?
  thaw : ∀ b, Thawed w b → Thawed w' b
theorem Fr.refl (F : Nat → Prop) (w : World) : Fr F w w := ⟨rfl, rfl, Nat.le_refl _, fun _ _ _ => rfl, fun _ h => h⟩
theorem Fr.mono {F G : Nat → Prop} {w w' : World} (h : Fr F w w') (hf : ∀ b, b < w.heap.size → F b → G b) : Fr G w w' := ⟨h.os, h.out, h.size, fun b hb hg => h.blk b hb fun hf' => hg (hf b hb hf'), h.thaw⟩
theorem Fr.trans {F : Nat → Prop} {w w1 w2 : World} (h : Fr F w w1) (k : Fr F w1 w2) : Fr F w w2 :=
  ⟨k.os.trans h.os, k.out.trans h.out, Nat.le_trans h.size k.size, fun b hb hf => (k.blk b (Nat.lt_of_lt_of_le hb h.size) hf).trans (h.blk b hb hf), fun b hb => k.thaw b (h.thaw b hb)⟩
theorem Fr.trans' {F G : Nat → Prop} {w w1 w2 : World} (h : Fr F w w1) (k : Fr G w1 w2) (hg : ∀ b, b < w.heap.size → G b → F b) : Fr F w w2 :=
  ⟨k.os.trans h.os, k.out.trans h.out, Nat.le_trans h.size k.size, fun b hb hf => (k.blk b (Nat.lt_of_lt_of_le hb h.size) (fun h' => hf (hg b hb h'))).trans (h.blk b hb hf), fun b hb => k.thaw b (h.thaw b hb)⟩
theorem Fr.drew {F : Nat → Prop} {w w' : World} (h : Fr F w w') : Fr F w w'.drew := ⟨h.os, h.out, h.size, h.blk, h.thaw⟩
theorem Fr.setc {F : Nat → Prop} {w w' : World} (h : Fr F w w') {b : Nat} (o : Nat) (v : Value) (hb : b < w.heap.size → F b) : Fr F w (setc w' b o v) :=
  ⟨(setc_os w' b o v).1.trans h.os, (setc_os w' b o v).2.trans h.out, by rw [setc_size]; exact h.size, fun b' hb' hf => by
    rw [setc_blk v (fun e => hf (by subst e; exact hb hb'))]; exact h.blk b' hb' hf, fun b hb => thaw_setc (h.thaw b hb)⟩
theorem Fr.put {F : Nat → Prop} {w w' : World} (h : Fr F w w') {b : Nat} (o : Obj) (hb : b < w.heap.size → F b) (ho : fzO o = false := by first | rfl | exact putE_fz (by assumption) | exact delE_fz (by assumption)) : Fr F w (put w' b o) :=
  ⟨h.os, h.out, by rw [put_heap_size]; exact h.size, fun b' hb' hf => by
    rw [blk_put_ne _ (fun e => hf (by subst e; exact hb hb'))]; exact h.blk b' hb' hf, fun b hb => thaw_put ho (h.thaw b hb)⟩
theorem Fr.alloc {F : Nat → Prop} {w w' : World} (h : Fr F w w') (o : Obj) (ho : fzO o = false := by rfl) : Fr F w (w'.alloc o) :=
  ⟨h.os, h.out, by rw [alloc_heap_size]; have := h.size; omega, fun b' hb' hf => by
    rw [alloc_blk_old _ _ (Nat.lt_of_lt_of_le hb' h.size)]; exact h.blk b' hb' hf, fun b hb => thaw_alloc ho (h.thaw b hb)⟩
theorem Fr.cv {F : Nat → Prop} {w w' : World} (h : Fr F w w') {b : Nat} (hb : b < w.heap.size) (hf : ¬ F b) (o : Nat) : cv w' b o = cv w b o := cv_blk (h.blk b hb hf) o

/-- a value of several cells read, cell by cell -/
theorem rd_agg {t : TypeId} {w : World} {b o n : Nat} {vs : Array Value} (ha : aggO P t = some true) (hs : szO P t = some n) (hn : vs.size = n) (h0 : 0 < n) (h : ∀ i, i < n → cv w b (o + i) = vs[i]?) :
    rdO P t w b o = some (.agg vs) := by
  have h1 := h 0 h0
  have h2 : vs[0]? = some vs[0] := Array.getElem?_eq_getElem (by omega)
  rw [h2] at h1
  obtain ⟨c, e, hc, _⟩ := cv_row h1
  have hq : ∀ i, i < n → c[o + i]? = vs[i]? := fun i hi => by rw [← h i hi, cv_of_row hc]
  have hsz : o + n ≤ c.size := by
    have h3 := hq (n - 1) (by omega)
    have h4 : vs[n - 1]? = some vs[n - 1] := Array.getElem?_eq_getElem (by omega)
    rw [h4] at h3
    have := (Array.getElem?_eq_some_iff.1 h3).1
    omega
  have he : c.extract o (o + n) = vs := by
    apply Array.ext_getElem?
    intro i
    rw [Array.getElem?_extract]
    split
    · exact hq i (by omega)
    · rw [Array.getElem?_eq_none (by omega)]
  simp [rdO, ldO, hc, ha, hs, hsz, he]
theorem r_forPush (B : Value → ByteArray → Sem (ForInStep ByteArray)) (w : World) (hB : ∀ n s, (B (.int .u8 n) s).run P w = .ok (.yield (s.push (UInt8.ofNat n.toNat))) w) :
    ∀ (l : List Int) (s : ByteArray), (forIn (m := Sem) (l.map (Value.int .u8)) s B).run P w = .ok (l.foldl (fun s n => s.push (UInt8.ofNat n.toNat)) s) w
  | [], s => by simp
  | n :: l, s => by
    simp only [List.map_cons, List.forIn_cons, Sem.run_bind, hB, Result.andThen_ok, List.foldl_cons]
    exact r_forPush B w hB l _
theorem push_list : ∀ (l : List Int) (s : ByteArray), l.foldl (fun s n => s.push (UInt8.ofNat n.toNat)) s = ⟨s.data ++ (l.map fun n => UInt8.ofNat n.toNat).toArray⟩
  | [], s => by cases s; simp
  | n :: l, s => by
    rw [List.foldl_cons, push_list l]
    congr 1
    apply Array.toList_inj.1
    simp [ByteArray.push]
theorem r_bytesToString {w : World} {b o n cap : Nat} {c : Array Value} {e : TypeId} {fz : Nat × Nat} (h : w.heap[b]? = some (.cells c e fz)) (hn : o + n ≤ c.size) {l : List Int}
    (hl : (c.extract o (o + n)).toList = l.map (Value.int .u8)) : (Conv.bytesToString (.slice (some ⟨b, o, none⟩) n cap)).run P w = .ok (.string ⟨(l.map fun n => UInt8.ofNat n.toNat).toArray⟩) w := by
  simp only [Conv.bytesToString, Sem.run_bind, r_loadCells h hn, Result.andThen_ok]
  rw [← Array.forIn_toList, hl, r_forPush _ w (fun n s => by simp) l]
  simp only [Result.andThen_ok, Sem.run_pure, push_list]
  congr 3
  apply Array.toList_inj.1
  simp
theorem strO_und' {t : TypeId} (h : strO P t = true) : P.underlying t = some .string := strO_und h
theorem r_conv_str {s d : TypeId} {e : TypeId} (hs : slcO P s = some e) (he : intO P e = some .u8) (hd : strO P d = true) {w : World} {b o n cap : Nat} {c : Array Value} {el : TypeId} {fz : Nat × Nat}
    (h : w.heap[b]? = some (.cells c el fz)) (hn : o + n ≤ c.size) {l : List Int} (hl : (c.extract o (o + n)).toList = l.map (Value.int .u8)) :
    (convert s d (.slice (some ⟨b, o, none⟩) n cap)).run P w = .ok (.string ⟨(l.map fun n => UInt8.ofNat n.toNat).toArray⟩) w := by
  simp only [convert, Sem.run_bind, r_und (slcO_und hs), Result.andThen_ok, r_und (strO_und hd), r_und (intO_und he), r_bytesToString h hn hl]
theorem frozen_thaw {w : World} {a : Addr} (h : Thawed w a.block) : w.frozen? a = false := by
  unfold World.frozen?
  split
  · rename_i heq
    have := h _ heq
    simp only [fzO, Bool.not_eq_false', Bool.and_eq_true, beq_iff_eq] at this
    obtain ⟨h1, h2⟩ := this
    subst h1; subst h2
    simp
  · rfl
theorem keptBut_fr {F : Nat → Prop} {w w' : World} (h : Fr F w w') (hF : ∀ b, b < w.heap.size → ¬ F b) : w.keptBut w' (fun _ => False) := by
  refine ⟨h.os, h.out, fun i hi => ?_⟩
  rw [h.blk i hi (hF i hi)]
  split <;> simp_all
theorem grown_fr {F : Nat → Prop} {w w' : World} (h : Fr F w w') (hF : ∀ b, b < w.heap.size → ¬ F b) : Grown w w' := by
  refine ⟨keptBut_fr h hF, fun a => ?_, h.size⟩
  by_cases ha : a.block < w.heap.size
  · unfold World.frozen?; rw [h.blk _ ha (hF _ ha)]
  · have h1 : Thawed w a.block := thaw_new (by omega)
    rw [frozen_thaw h1, frozen_thaw (h.thaw _ h1)]
/-- a call that answers 'true' and has only new blocks -/
theorem calls_true {P : Program} {f : FuncId} {args : Array Value} {w : World} (h : Fn P f args w fun v w' => v = .bool true ∧ Fr (fun _ => False) w w') :
    Calls P f args w fun e w' => e = .returned (.bool true) ∧ Grown w w' := by
  refine Calls.mono h fun e w' he => ?_
  cases e <;> simp only [] at he
  exact ⟨by rw [he.1], grown_fr he.2 fun _ _ h => h⟩
end Go.V
