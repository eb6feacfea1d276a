/-
  same and within: lists of ints in memory.
-/
import Derived.Test.YtbbkpngcichdcaaPlay
import Derived.Test.YtbbkpngcichdcaaLibM
namespace Go.V
open Go.Proofs
set_option maxRecDepth 100000
namespace I
/-- a list of ints in memory -/
def Ints (w : World) (v : Value) (ks : List Int) : Prop :=
  ∃ base cap, v = .slice base ks.length cap ∧ ∀ i k, ks[i]? = some k → ∃ b o, base = some ⟨b, o, none⟩ ∧ cv w b (o + i) = some (.int .i64 k)
theorem Ints.frame {w w' : World} {v : Value} {ks : List Int} (h : Ints w v ks) (f : Fr (fun _ => False) w w') : Ints w' v ks := by
  obtain ⟨base, cap, rfl, h⟩ := h
  refine ⟨base, cap, rfl, fun i k hk => ?_⟩
  obtain ⟨b, o, h1, h2⟩ := h i k hk
  exact ⟨b, o, h1, by rw [f.cv (cv_lt h2) id]; exact h2⟩
theorem OwnS.ints {w : World} {v : Value} {n : Nat} {l : KV} (h : OwnS w 3 1 v n (keysV l)) : Ints w v (l.map (·.1)) := by
  rcases h with ⟨rfl, rfl, h⟩ | ⟨b, cap, c, rfl, h1, h2, h3, h4, h5⟩
  · have : l = [] := by simpa [keysV] using h
    subst this
    exact ⟨none, 0, rfl, fun i k hk => by simp at hk⟩
  · have hl : l.length = n := by simpa [keysV] using h4
    refine ⟨some ⟨b, 0, none⟩, cap, by simp [hl], fun i k hk => ⟨b, 0, rfl, ?_⟩⟩
    rw [cv_of_row h1, Nat.zero_add, ← Array.getElem?_toList]
    have hi : i < l.length := by have := (List.getElem?_eq_some_iff.1 hk).1; simpa using this
    have : (c.toList.take (n * 1))[i]? = some (.int .i64 k) := by
      rw [h5]; simp only [keysV, List.getElem?_map] at hk ⊢
      cases hq : l[i]? with
      | none => rw [hq] at hk; cases hk
      | some p => rw [hq] at hk; simp only [Option.map_some, Option.some.injEq] at hk ⊢; rw [hk]
    rw [List.getElem?_take, if_pos (by omega)] at this
    exact this
def sameI (w0 : World) (v v' : Value) (ks : List Int) (m : Nat) (vs : List Value) (w : World) : Prop :=
  ∃ i, vs = [v, v', .int .i64 (i : Nat)] ∧ m = ks.length - i ∧ i ≤ ks.length ∧ Fr (fun _ => False) w0 w
theorem same_true {w : World} {v v' : Value} {ks : List Int} (h : Ints w v ks) (h' : Ints w v' ks) (hn : ks.length < 4611686018427387904) :
    Fn Try.prog 31 #[v, v'] w fun x w' => x = .bool true ∧ Fr (fun _ => False) w w' := by
  have h0 := h
  have h0' := h'
  obtain ⟨base, cap, rfl, h⟩ := h
  obtain ⟨base', cap', rfl, h'⟩ := h'
  refine Try.go31 (by simp) ?_
  simp -implicitDefEqProofs only [go_sem, Nat.reduceEqDiff, Try.f31]
  refine loopD [0, 1, 5] (sameI w (.slice base ks.length cap) (.slice base' ks.length cap') ks) ks.length ⟨0, by simp [upd], by omega, by omega, Fr.refl _ _⟩ ?_
  rintro m vs w1 g ⟨i, rfl, rfl, hi, f1⟩
  by_cases hlt : i < ks.length
  · have i1 : 0 ≤ (i : Int) := by omega
    have i2 : (i : Int) < (ks.length : Int) := by omega
    have hk : ks[i]? = some ks[i] := List.getElem?_eq_getElem hlt
    obtain ⟨b, o, rfl, e1⟩ := h i _ hk
    obtain ⟨b', o', rfl, e2⟩ := h' i _ hk
    generalize ks[i] = k at *
    have a1 : rdO Try.prog 3 w1.drew b (o + i) = some (.int .i64 k) := rd_cv Try.agg3 (by rw [cv_drew, f1.cv (cv_lt e1) id]; exact e1)
    have a2 : rdO Try.prog 3 w1.drew b' (o' + i) = some (.int .i64 k) := rd_cv Try.agg3 (by rw [cv_drew, f1.cv (cv_lt e2) id]; exact e2)
    have s1 : IntKind.i64.wrap ((i : Int) + 1) = ((i + 1 : Nat) : Int) := by rw [wrap64_id (by omega) (by omega)]; rfl
    simp -implicitDefEqProofs only [go_sem, Nat.reduceEqDiff, decide_true, i1, i2, and_self, Int.toNat_natCast, Nat.mul_one, a1, a2, s1]
    exact ⟨ks.length - (i + 1), by omega, i + 1, rfl, rfl, by omega, f1.drew⟩
  · have hd : decide ((i : Int) < (ks.length : Int)) = false := by simp; omega
    simp -implicitDefEqProofs only [go_sem, Nat.reduceEqDiff, hd]
    exact ⟨trivial, f1⟩
def withinI (w0 : World) (v v' : Value) (ks : List Int) (m : Nat) (vs : List Value) (w : World) : Prop :=
  ∃ i, vs = [v, v', .int .i64 (i : Nat)] ∧ m = ks.length - i ∧ i ≤ ks.length ∧ Fr (fun _ => False) w0 w
def withinJ (w0 : World) (v v' : Value) (ms : List Int) (i : Nat) (k : Int) (m : Nat) (vs : List Value) (w : World) : Prop :=
  ∃ (j : Nat) (f : Bool), vs = [v, v', .int .i64 (i : Nat), .bool f, .int .i64 (j : Nat)] ∧ m = ms.length - j ∧ j ≤ ms.length ∧ Fr (fun _ => False) w0 w ∧ (k ∈ ms.take j → f = true)
theorem within_true {w : World} {v v' : Value} {ks ms : List Int} (h : Ints w v ks) (h' : Ints w v' ms) (hin : ∀ k ∈ ks, k ∈ ms) (hn : ks.length < 4611686018427387904) (hm : ms.length < 4611686018427387904) :
    Fn Try.prog 30 #[v, v'] w fun x w' => x = .bool true ∧ Fr (fun _ => False) w w' := by
  obtain ⟨base, cap, rfl, h⟩ := h
  obtain ⟨base', cap', rfl, h'⟩ := h'
  refine Try.go30 (by simp) ?_
  simp -implicitDefEqProofs only [go_sem, Nat.reduceEqDiff, Try.f30]
  refine loopD [0, 1, 5] (withinI w (.slice base ks.length cap) (.slice base' ms.length cap') ks) ks.length ⟨0, by simp [upd], by omega, by omega, Fr.refl _ _⟩ ?_
  rintro m vs w1 g ⟨i, rfl, rfl, hi, f1⟩
  by_cases hlt : i < ks.length
  · have hd : decide ((i : Int) < (ks.length : Int)) = true := by simp; omega
    have i1 : 0 ≤ (i : Int) := by omega
    have i2 : (i : Int) < (ks.length : Int) := by omega
    have hk : ks[i]? = some ks[i] := List.getElem?_eq_getElem hlt
    have hkm : ks[i] ∈ ms := hin _ (List.getElem_mem hlt)
    obtain ⟨b, o, rfl, e1⟩ := h i _ hk
    generalize ks[i] = k at *
    simp -implicitDefEqProofs only [go_sem, Nat.reduceEqDiff, hd]
    refine loopD [0, 1, 5, 6, 7] (withinJ w (.slice (some ⟨b, o, none⟩) ks.length cap) (.slice base' ms.length cap') ms i k) ms.length ⟨0, false, by simp [upd], by omega, by omega, f1, by simp⟩ ?_
    rintro m vs w2 g2 ⟨j, f, rfl, rfl, hj, f2, hf⟩
    by_cases hlt2 : j < ms.length
    · have j1 : 0 ≤ (j : Int) := by omega
      have j2 : (j : Int) < (ms.length : Int) := by omega
      have hk2 : ms[j]? = some ms[j] := List.getElem?_eq_getElem hlt2
      have ht : ms.take (j + 1) = ms.take j ++ [ms[j]] := List.take_succ_eq_append_getElem hlt2
      obtain ⟨b', o', rfl, e2⟩ := h' j _ hk2
      generalize ms[j] = k2 at *
      have a1 : rdO Try.prog 3 w2.drew b (o + i) = some (.int .i64 k) := rd_cv Try.agg3 (by rw [cv_drew, f2.cv (cv_lt e1) id]; exact e1)
      have a2 : rdO Try.prog 3 w2.drew b' (o' + j) = some (.int .i64 k2) := rd_cv Try.agg3 (by rw [cv_drew, f2.cv (cv_lt e2) id]; exact e2)
      have s1 : IntKind.i64.wrap ((j : Int) + 1) = ((j + 1 : Nat) : Int) := by rw [wrap64_id (by omega) (by omega)]; rfl
      cases f with
      | true =>
        simp -implicitDefEqProofs only [go_sem, Nat.reduceEqDiff, decide_true, i1, i2, j1, j2, and_self, Int.toNat_natCast, Nat.mul_one, a1, a2, s1]
        exact ⟨ms.length - (j + 1), by omega, j + 1, true, rfl, rfl, by omega, f2.drew, fun _ => rfl⟩
      | false =>
        simp -implicitDefEqProofs only [go_sem, Nat.reduceEqDiff, decide_true, i1, i2, j1, j2, and_self, Int.toNat_natCast, Nat.mul_one, a1, a2, s1]
        refine ⟨ms.length - (j + 1), by omega, j + 1, k2 == k, rfl, rfl, by omega, f2.drew, fun hmem => ?_⟩
        rw [ht] at hmem
        rcases List.mem_append.1 hmem with hmem | hmem
        · cases hf hmem
        · simp at hmem; simp [hmem]
    · have hd2 : decide ((j : Int) < (ms.length : Int)) = false := by simp; omega
      have hft : f = true := hf (by rw [List.take_of_length_le (by omega)]; exact hkm)
      subst hft
      have s1 : IntKind.i64.wrap ((i : Int) + 1) = ((i + 1 : Nat) : Int) := by rw [wrap64_id (by omega) (by omega)]; rfl
      simp -implicitDefEqProofs only [go_sem, Nat.reduceEqDiff, hd2, Bool.not_true, s1]
      exact ⟨ks.length - (i + 1), by omega, i + 1, rfl, rfl, by omega, f2⟩
  · have hd : decide ((i : Int) < (ks.length : Int)) = false := by simp; omega
    simp -implicitDefEqProofs only [go_sem, Nat.reduceEqDiff, hd]
    exact ⟨trivial, f1⟩
end I
end Go.V
