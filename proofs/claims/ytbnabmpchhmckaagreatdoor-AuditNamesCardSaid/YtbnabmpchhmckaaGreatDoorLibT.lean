/-
  Machine integers as bit vectors; cells read whatever is frozen; slices that are read.
-/
import Derived.Test.YtbnabmpchhmckaaGreatDoorLibS
namespace Go.V
variable {P : Program}

abbrev Byte := BitVec 8
abbrev W32 := BitVec 32
abbrev pt (b o : Nat) : Value := .pointer (some ⟨b, o, none⟩)
/-- no block of before is written -/
abbrev No (w w' : World) : Prop := Fr (fun _ => False) w w'
abbrev u8 (x : Byte) : Value := .int .u8 x.toNat
abbrev u32 (x : W32) : Value := .int .u32 x.toNat
theorem u8_inj {x y : Byte} (h : u8 x = u8 y) : x = y := by
  simp only [Value.int.injEq, true_and] at h
  exact BitVec.eq_of_toNat_eq (by exact_mod_cast h)

/-! ### wraps -/
theorem wrap_u8 (n : Int) : IntKind.u8.wrap n = n % 256 := by simp [IntKind.wrap, IntKind.bits, IntKind.signed]
theorem wrap_u32 (n : Int) : IntKind.u32.wrap n = n % 4294967296 := by simp [IntKind.wrap, IntKind.bits, IntKind.signed]
theorem wrap_u64 (n : Int) : IntKind.u64.wrap n = n % 18446744073709551616 := by simp [IntKind.wrap, IntKind.bits, IntKind.signed]
theorem w8_toNat (x : BitVec 8) : IntKind.u8.wrap (x.toNat : Int) = x.toNat := by
  rw [wrap_u8]; have := x.isLt; omega
theorem w32_toNat (x : BitVec 32) : IntKind.u32.wrap (x.toNat : Int) = x.toNat := by
  rw [wrap_u32]; have := x.isLt; omega
section
variable (x y : W32) (a : Byte)
theorem and32 : andK .u32 (x.toNat : Int) (y.toNat : Int) = ((x &&& y).toNat : Int) := by
  have e : andK .u32 (x.toNat : Int) (y.toNat : Int) = IntKind.u32.wrap (((BitVec.ofInt 32 (x.toNat : Int) &&& BitVec.ofInt 32 (y.toNat : Int)).toNat : Nat) : Int) := rfl
  rw [e, BitVec.ofInt_natCast, BitVec.ofInt_natCast, BitVec.ofNat_toNat, BitVec.ofNat_toNat, BitVec.setWidth_eq, BitVec.setWidth_eq]; exact w32_toNat _
theorem or32 : orK .u32 (x.toNat : Int) (y.toNat : Int) = ((x ||| y).toNat : Int) := by
  have e : orK .u32 (x.toNat : Int) (y.toNat : Int) = IntKind.u32.wrap (((BitVec.ofInt 32 (x.toNat : Int) ||| BitVec.ofInt 32 (y.toNat : Int)).toNat : Nat) : Int) := rfl
  rw [e, BitVec.ofInt_natCast, BitVec.ofInt_natCast, BitVec.ofNat_toNat, BitVec.ofNat_toNat, BitVec.setWidth_eq, BitVec.setWidth_eq]; exact w32_toNat _
theorem xor32 : xorK .u32 (x.toNat : Int) (y.toNat : Int) = ((x ^^^ y).toNat : Int) := by
  have e : xorK .u32 (x.toNat : Int) (y.toNat : Int) = IntKind.u32.wrap (((BitVec.ofInt 32 (x.toNat : Int) ^^^ BitVec.ofInt 32 (y.toNat : Int)).toNat : Nat) : Int) := rfl
  rw [e, BitVec.ofInt_natCast, BitVec.ofInt_natCast, BitVec.ofNat_toNat, BitVec.ofNat_toNat, BitVec.setWidth_eq, BitVec.setWidth_eq]; exact w32_toNat _
/-- with a constant -/
theorem and32n (n : Nat) : andK .u32 (x.toNat : Int) (n : Int) = ((x &&& BitVec.ofNat 32 n).toNat : Int) := by
  have e : andK .u32 (x.toNat : Int) (n : Int) = IntKind.u32.wrap (((BitVec.ofInt 32 (x.toNat : Int) &&& BitVec.ofInt 32 (n : Int)).toNat : Nat) : Int) := rfl
  rw [e, BitVec.ofInt_natCast, BitVec.ofInt_natCast, BitVec.ofNat_toNat, BitVec.setWidth_eq]; exact w32_toNat _
theorem not32 : notK .u32 (x.toNat : Int) = ((~~~x).toNat : Int) := by
  have e : notK .u32 (x.toNat : Int) = IntKind.u32.wrap (((BitVec.ofInt 32 4294967295 ^^^ BitVec.ofInt 32 (x.toNat : Int)).toNat : Nat) : Int) := rfl
  have e2 : BitVec.ofInt 32 4294967295 = BitVec.allOnes 32 := by decide
  rw [e, e2, BitVec.ofInt_natCast, BitVec.ofNat_toNat, BitVec.setWidth_eq, BitVec.allOnes_xor]; exact w32_toNat _
theorem add32 : IntKind.u32.wrap ((x.toNat : Int) + (y.toNat : Int)) = ((x + y).toNat : Int) := by
  rw [wrap_u32, BitVec.toNat_add]; omega
theorem fdivn (m k : Nat) : ((m : Int).fdiv (2 ^ k)) = ((m / 2 ^ k : Nat) : Int) := by
  rw [Int.fdiv_eq_ediv_of_nonneg _ (Int.le_of_lt (Int.pow_pos (by omega)))]
  push_cast
  rfl
theorem shr32 (k : Nat) (hk : k ≤ 32) : shrK .u32 (x.toNat : Int) (k : Int) = ((x >>> k).toNat : Int) := by
  have e : shrK .u32 (x.toNat : Int) (k : Int) = (x.toNat : Int).fdiv (2 ^ (min ((k : Nat) : Int).toNat 32)) := rfl
  rw [e, Int.toNat_natCast, Nat.min_eq_left hk, BitVec.toNat_ushiftRight, Nat.shiftRight_eq_div_pow, fdivn]
theorem shl32 (k : Nat) (hk : k ≤ 32) : shlK .u32 (x.toNat : Int) (k : Int) = ((x <<< k).toNat : Int) := by
  have e0 : shlK .u32 (x.toNat : Int) (k : Int) = IntKind.u32.wrap ((x.toNat : Int) * 2 ^ (min ((k : Nat) : Int).toNat 32)) := rfl
  have e : (x.toNat : Int) * 2 ^ k = ((x.toNat * 2 ^ k : Nat) : Int) := by rw [Int.natCast_mul, Int.natCast_pow]; rfl
  rw [e0, Int.toNat_natCast, Nat.min_eq_left hk, BitVec.toNat_shiftLeft, Nat.shiftLeft_eq, wrap_u32, e]
  generalize x.toNat * 2 ^ k = m
  omega
theorem cut32 : IntKind.u8.wrap (x.toNat : Int) = ((x.setWidth 8).toNat : Int) := by
  rw [wrap_u8, BitVec.toNat_setWidth]
  generalize x.toNat = m
  omega
theorem ext8 : IntKind.u32.wrap (a.toNat : Int) = ((a.setWidth 32).toNat : Int) := by
  rw [wrap_u32, BitVec.toNat_setWidth, Nat.mod_eq_of_lt (by have := a.isLt; omega)]; have := a.isLt; omega
end

/-! ### Cells, whatever is frozen -/
def rc (w : World) (b o : Nat) : Option Value := match w.heap[b]? with | some (.cells c _ _) => c[o]? | _ => none
theorem rc_row {w : World} {b o : Nat} {v : Value} (h : rc w b o = some v) : ∃ c e fz, w.heap[b]? = some (.cells c e fz) ∧ c[o]? = some v := by
  unfold rc at h
  split at h
  · exact ⟨_, _, _, by assumption, h⟩
  · cases h
theorem rc_of_row {w : World} {b o : Nat} {c : Array Value} {e : TypeId} {fz : Nat × Nat} (h : w.heap[b]? = some (.cells c e fz)) : rc w b o = c[o]? := by simp [rc, h]
theorem rc_lt {w : World} {b o : Nat} {v : Value} (h : rc w b o = some v) : b < w.heap.size := by
  obtain ⟨c, e, fz, h1, _⟩ := rc_row h; exact heap_lt h1
theorem rc_blk {w w' : World} {b : Nat} (h : w'.heap[b]? = w.heap[b]?) (o : Nat) : rc w' b o = rc w b o := by simp [rc, h]
theorem rc_cv {w : World} {b o : Nat} {v : Value} (h : cv w b o = some v) : rc w b o = some v := by
  obtain ⟨c, e, h1, h2⟩ := cv_row h
  rw [rc_of_row h1, h2]
theorem rd_rc {t : TypeId} {w : World} {b o : Nat} {v : Value} (ha : aggO P t = some false) (h : rc w b o = some v) : rdO P t w b o = some v := by
  obtain ⟨c, e, fz, h1, h2⟩ := rc_row h
  simp [rdO, ldO, h1, ha, h2]
theorem rd_rcs {t : TypeId} {w : World} {b o n : Nat} {vs : Array Value} (ha : aggO P t = some true) (hs : szO P t = some n) (hn : vs.size = n) (h0 : 0 < n) (h : ∀ i, i < n → rc w b (o + i) = vs[i]?) :
    rdO P t w b o = some (.agg vs) := by
  have h1 := h 0 h0
  have h2 : vs[0]? = some vs[0] := Array.getElem?_eq_getElem (by omega)
  rw [h2] at h1
  obtain ⟨c, e, fz, hc, _⟩ := rc_row h1
  have hq : ∀ i, i < n → c[o + i]? = vs[i]? := fun i hi => by rw [← h i hi, rc_of_row hc]
  have hsz : o + n ≤ c.size := by
    have h3 := hq (n - 1) (by omega)
    have h4 : vs[n - 1]? = some vs[n - 1] := Array.getElem?_eq_getElem (by omega)
    rw [h4] at h3
    have := (Array.getElem?_eq_some_iff.1 h3).1
    omega
  have he : c.extract o (o + n) = vs := by
    apply Array.ext_getElem?
    intro i
    rw [Array.getElem?_extract]
    split
    · exact hq i (by omega)
    · rw [Array.getElem?_eq_none (by omega)]
  simp [rdO, ldO, hc, ha, hs, hsz, he]
theorem Fr.rc {F : Nat → Prop} {w w' : World} (h : Fr F w w') {b : Nat} (hb : b < w.heap.size) (hf : ¬ F b) (o : Nat) : rc w' b o = rc w b o := rc_blk (h.blk b hb hf) o

/-! ### Slices that are read: elements of sz cells -/
/-- the slice v lays the cells cs, n elements of sz cells each -/
def Rd (w : World) (sz : Nat) (v : Value) (n : Nat) (cs : List Value) : Prop :=
  cs.length = n * sz ∧ ∃ a cap, v = .slice a n cap ∧ n ≤ cap ∧ (0 < n * sz → ∃ b o, a = some ⟨b, o, none⟩ ∧ ∀ i, i < n * sz → rc w b (o + i) = cs[i]?)
section
variable {w w' : World} {sz n : Nat} {v : Value} {cs : List Value}
theorem Rd.frame (h : Rd w sz v n cs) (hf : ∀ b, blockOf v = some b → b < w.heap.size → w'.heap[b]? = w.heap[b]?) : Rd w' sz v n cs := by
  obtain ⟨h1, a, cap, rfl, h2, h3⟩ := h
  refine ⟨h1, a, cap, rfl, h2, fun h0 => ?_⟩
  obtain ⟨b, o, rfl, h4⟩ := h3 h0
  refine ⟨b, o, rfl, fun i hi => ?_⟩
  rw [← h4 i hi]
  have hl : ∃ u, cs[i]? = some u := ⟨_, List.getElem?_eq_getElem (by omega)⟩
  obtain ⟨u, hu⟩ := hl
  have := rc_lt ((h4 i hi).trans hu)
  exact rc_blk (hf b rfl this) _
theorem Rd.fr {F : Nat → Prop} (h : Rd w sz v n cs) (k : Fr F w w') (hf : ∀ b, blockOf v = some b → b < w.heap.size → ¬ F b) : Rd w' sz v n cs :=
  h.frame fun b hb hl => k.blk b hl (hf b hb hl)
theorem OwnO.rd {e : TypeId} (h : OwnO w e sz v n cs) : Rd w sz v n cs := by
  rcases h with ⟨rfl, rfl, rfl⟩ | ⟨b, o, cap, c, rfl, h, hc, hn, hl, ht⟩
  · exact ⟨by simp, _, _, rfl, Nat.le_refl _, fun h => by omega⟩
  · exact ⟨hl, _, _, rfl, hn, fun _ => ⟨b, o, rfl, fun i hi => by rw [rc_of_row h]; exact ht i hi⟩⟩
end
/-- bytes -/
def By (w : World) (v : Value) (bs : List Byte) : Prop := Rd w 1 v bs.length (bs.map u8)
section
variable {w w' : World} {v : Value} {bs : List Byte}
theorem By.fr {F : Nat → Prop} (h : By w v bs) (k : Fr F w w') (hf : ∀ b, blockOf v = some b → b < w.heap.size → ¬ F b) : By w' v bs := Rd.fr h k hf
theorem By.fr0 (h : By w v bs) (k : Fr (fun _ => False) w w') : By w' v bs := Rd.fr h k fun _ _ _ h => h
theorem By.at (h : By w v bs) : ∃ a cap, v = .slice a bs.length cap ∧ bs.length ≤ cap ∧ ∀ i (hi : i < bs.length), ∃ b o, a = some ⟨b, o, none⟩ ∧ rc w b (o + i) = some (u8 bs[i]) := by
  obtain ⟨h1, a, cap, rfl, h2, h3⟩ := h
  refine ⟨a, cap, rfl, h2, fun i hi => ?_⟩
  obtain ⟨b, o, rfl, h4⟩ := h3 (by omega)
  refine ⟨b, o, rfl, ?_⟩
  rw [h4 i (by omega)]
  simp [hi]
end
/-- a slice of a slice, read -/
theorem Rd.cut {w : World} {sz n cap : Nat} {a : Option Addr} {cs : List Value} (h : Rd w sz (.slice a n cap) n cs) {l m : Nat} (hl : l ≤ m) (hm : m ≤ n) (a' : Option Addr)
    (ha : a' = if cap = l then a else a.map (fun (q : Addr) => q.add (l * sz))) : Rd w sz (.slice a' (m - l) (cap - l)) (m - l) ((cs.drop (l * sz)).take ((m - l) * sz)) := by
  obtain ⟨h1, a0, cap0, he, h2, h3⟩ := h
  cases he
  have hms : m * sz ≤ n * sz := Nat.mul_le_mul_right sz hm
  have hls : (m - l) * sz = m * sz - l * sz := Nat.sub_mul m l sz
  have hlm : l * sz ≤ m * sz := Nat.mul_le_mul_right sz hl
  refine ⟨by rw [List.length_take, List.length_drop]; omega, a', _, rfl, by omega, fun h0 => ?_⟩
  have hlt : l < m := by
    rcases Nat.lt_or_ge l m with h | h
    · exact h
    · rw [show m - l = 0 by omega] at h0; simp at h0
  obtain ⟨b, o, rfl, h4⟩ := h3 (by omega)
  rw [if_neg (by omega), Option.map_some, add_off] at ha
  refine ⟨b, o + l * sz, ha, fun i hi => ?_⟩
  rw [Nat.add_assoc, h4 _ (by omega), List.getElem?_take, if_pos hi, List.getElem?_drop]
theorem By.cut {w : World} {n cap : Nat} {a : Option Addr} {bs : List Byte} (h : By w (.slice a n cap) bs) {l m : Nat} (hl : l ≤ m) (hm : m ≤ n) (hn : bs.length = n) (a' : Option Addr)
    (ha : a' = if cap = l then a else a.map (fun (q : Addr) => q.add (l * 1))) : By w (.slice a' (m - l) (cap - l)) ((bs.drop l).take (m - l)) := by
  subst hn
  have e : ((bs.drop l).take (m - l)).length = m - l := by rw [List.length_take, List.length_drop]; omega
  have := Rd.cut (sz := 1) h hl hm a' ha
  unfold By
  rw [e, List.map_take, List.map_drop]
  simpa using this
end Go.V
