/-
  The keys of the second cache: an int as 32 cells of bytes; its value as a text.
-/
import Derived.Test.YtbbkpngcichdcaaPlay
namespace Go.V
open Go.Proofs
set_option maxRecDepth 100000
variable {P : Program}
/-- a value of several cells read, cell by cell -/
theorem rd_agg {t : TypeId} {w : World} {b o n : Nat} {vs : Array Value} (ha : aggO P t = some true) (hs : szO P t = some n) (hn : vs.size = n) (h0 : 0 < n) (h : ∀ i, i < n → cv w b (o + i) = vs[i]?) :
    rdO P t w b o = some (.agg vs) := by
  have h1 := h 0 h0
  have h2 : vs[0]? = some vs[0] := Array.getElem?_eq_getElem (by omega)
  rw [h2] at h1
  obtain ⟨c, e, hc, _⟩ := cv_row h1
  have hq : ∀ i, i < n → c[o + i]? = vs[i]? := fun i hi => by rw [← h i hi, cv_of_row hc]
  have hsz : o + n ≤ c.size := by
    have h3 := hq (n - 1) (by omega)
    have h4 : vs[n - 1]? = some vs[n - 1] := Array.getElem?_eq_getElem (by omega)
    rw [h4] at h3
    have := (Array.getElem?_eq_some_iff.1 h3).1
    omega
  have he : c.extract o (o + n) = vs := by
    apply Array.ext_getElem?
    intro i
    rw [Array.getElem?_extract]
    split
    · exact hq i (by omega)
    · rw [Array.getElem?_eq_none (by omega)]
  simp [rdO, ldO, hc, ha, hs, hsz, he]
namespace S
/-- byte j of the int n as a key -/
def keyB (n : Int) (j : Nat) : Int := if j < 24 then 0 else (n % 18446744073709551616) / (2 ^ (8 * (31 - j))) % 256
def keyCell (n : Int) (j : Nat) : Value := .int .u8 (keyB n j)
def keyA (n : Int) : Array Value := ((List.range 32).map (keyCell n)).toArray
abbrev kV (n : Int) : Value := .agg (keyA n)
def InR (n : Int) : Prop := -9223372036854775808 ≤ n ∧ n ≤ 9223372036854775807
theorem keyA_size (n : Int) : (keyA n).size = 32 := by simp [keyA]
theorem keyA_get (n : Int) {j : Nat} (h : j < 32) : (keyA n)[j]? = some (keyCell n j) := by simp [keyA, h]
theorem keyB_inj {a b : Int} (ha : InR a) (hb : InR b) (h : ∀ j, 24 ≤ j → j < 32 → keyB a j = keyB b j) : a = b := by
  have h0 := h 31 (by omega) (by omega)
  have h1 := h 30 (by omega) (by omega)
  have h2 := h 29 (by omega) (by omega)
  have h3 := h 28 (by omega) (by omega)
  have h4 := h 27 (by omega) (by omega)
  have h5 := h 26 (by omega) (by omega)
  have h6 := h 25 (by omega) (by omega)
  have h7 := h 24 (by omega) (by omega)
  unfold InR at ha hb
  have e : a % 18446744073709551616 = b % 18446744073709551616 := by
    have ra : 0 ≤ a % 18446744073709551616 ∧ a % 18446744073709551616 < 18446744073709551616 := by omega
    have rb : 0 ≤ b % 18446744073709551616 ∧ b % 18446744073709551616 < 18446744073709551616 := by omega
    simp only [keyB] at h0 h1 h2 h3 h4 h5 h6 h7
    generalize a % 18446744073709551616 = x at *
    generalize b % 18446744073709551616 = y at *
    simp at h0 h1 h2 h3 h4 h5 h6 h7
    clear ha hb h
    omega
  omega
theorem und5 : Try.prog.underlying 5 = some (.int .u8) := intO_und Try.int5
theorem mapM_some {α β : Type} (g : α → β) : ∀ l : List α, l.mapM (fun i => some (g i)) = some (l.map g)
  | [] => rfl
  | x :: l => by rw [List.mapM_cons, mapM_some g l]; rfl
theorem mapM_congr' {α β : Type} {f : α → Option β} {g : α → β} : ∀ {l : List α}, (∀ i ∈ l, f i = some (g i)) → l.mapM f = some (l.map g)
  | [], _ => rfl
  | x :: l, h => by rw [List.mapM_cons, h x (by simp), mapM_congr' (l := l) fun i hi => h i (by simp [hi])]; rfl
theorem eqV5 (d : Nat) (a b : Int) : eqV Try.prog (d + 1) 5 (.int .u8 a) (.int .u8 b) = some (a == b) := by
  unfold eqV; rw [und5]; simp
theorem part5 (n : Int) {i : Nat} (h : i < 32) : partO Try.prog 5 (keyA n) (i * 1) = some (keyCell n i) := by
  simp [partO, Try.agg5, keyA_get n h]
theorem eqV52 (d : Nat) {a b : Int} (ha : InR a) (hb : InR b) : eqV Try.prog (d + 2) 52 (kV a) (kV b) = some (a == b) := by
  have e : eqV Try.prog (d + 2) 52 (kV a) (kV b) = some (((List.range 32).map fun i => keyB a i == keyB b i).all id) := by
    conv => lhs; unfold eqV
    rw [arrO_und Try.arr52]
    simp only [Try.sz5, Option.bind_some]
    rw [mapM_congr' (g := fun i => keyB a i == keyB b i)]
    · simp
    · intro i hi
      have hi' := List.mem_range.1 hi
      rw [part5 a hi', part5 b hi']
      exact eqV5 d _ _
  rw [e]
  congr 1
  by_cases h : a = b
  · subst h; simp
  · rw [show (a == b) = false by simpa using h, Bool.eq_false_iff]
    intro hh
    refine h (keyB_inj ha hb fun j h1 h2 => ?_)
    have := List.all_eq_true.1 hh (keyB a j == keyB b j) (List.mem_map.2 ⟨j, List.mem_range.2 h2, rfl⟩)
    simpa using this
theorem ckV52 (d : Nat) (a : Int) : ckV Try.prog (d + 2) 52 (kV a) = true := by
  conv => lhs; unfold ckV
  rw [arrO_und Try.arr52]
  simp only [Try.sz5]
  refine List.all_eq_true.2 fun i hi => ?_
  rw [part5 a (List.mem_range.1 hi)]
  show ckV Try.prog (d + 1) 5 _ = true
  unfold ckV
  rw [und5]
/-- the text of a value -/
def noV : Int := 18446744073709551616
def word (n : Int) : ByteArray := if n = noV then ⟨#[]⟩ else ⟨((List.range 8).map fun j => UInt8.ofNat (keyB n (24 + j)).toNat).toArray⟩
abbrev wV (n : Int) : Value := .string (word n)
theorem word_no : word noV = ⟨#[]⟩ := by simp [word]
/-- the cells of a new entry -/
def entA (k : Int) : Array Value := keyA k ++ #[.string ⟨#[]⟩, .bool false, .pointer none, .pointer none]
theorem entA_key (k : Int) {i : Nat} (h : i < 32) : (entA k)[i]? = (keyA k)[i]? := by
  unfold entA; rw [Array.getElem?_append_left (by rw [keyA_size]; exact h)]
theorem entA_rest (k : Int) (i : Nat) : (entA k)[32 + i]? = (#[.string ⟨#[]⟩, .bool false, .pointer none, .pointer none] : Array Value)[i]? := by
  unfold entA; rw [Array.getElem?_append_right (by rw [keyA_size]; omega), keyA_size, Nat.add_sub_cancel_left]
end S
end Go.V
