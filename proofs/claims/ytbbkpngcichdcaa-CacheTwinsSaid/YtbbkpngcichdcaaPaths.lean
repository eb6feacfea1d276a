/-
  The walk of 'paths': ints and their keys, side by side.
-/
import Derived.Test.YtbbkpngcichdcaaTwin
namespace Go.V
open Go.Proofs
set_option maxRecDepth 100000
namespace S
open I (St opV In64 R64 KV Ints)
/-- a list of keys in memory -/
def Keys (w : World) (v : Value) (ks : List Int) : Prop :=
  ∃ base cap, v = .slice base ks.length cap ∧ ∀ i k, ks[i]? = some k → ∃ b o, base = some ⟨b, o, none⟩ ∧ ∀ j, j < 32 → cv w b (o + i * 32 + j) = (keyA k)[j]?
theorem Keys.frame {w w' : World} {v : Value} {ks : List Int} (h : Keys w v ks) (f : Fr (fun _ => False) w w') : Keys w' v ks := by
  obtain ⟨base, cap, rfl, h⟩ := h
  refine ⟨base, cap, rfl, fun i k hk => ?_⟩
  obtain ⟨b, o, h1, h2⟩ := h i k hk
  refine ⟨b, o, h1, fun j hj => ?_⟩
  have h0 := h2 0 (by omega)
  rw [keyA_get k (by omega)] at h0
  rw [f.cv (cv_lt h0) id]; exact h2 j hj
theorem keysV_get : ∀ (l : KV) (i j : Nat) (k : Int), (l.map (·.1))[i]? = some k → j < 32 → (keysV l)[i * 32 + j]? = (keyA k)[j]?
  | [], _, _, _, h, _ => by simp at h
  | p :: l, 0, j, k, h, hj => by
    simp only [List.map_cons, List.getElem?_cons_zero, Option.some.injEq] at h
    subst h
    show ((keyA p.1).toList ++ keysV l)[0 * 32 + j]? = _
    rw [Nat.zero_mul, Nat.zero_add, List.getElem?_append_left (by simp [keyA_size, hj]), Array.getElem?_toList]
  | p :: l, i + 1, j, k, h, hj => by
    simp only [List.map_cons, List.getElem?_cons_succ] at h
    show ((keyA p.1).toList ++ keysV l)[(i + 1) * 32 + j]? = _
    rw [List.getElem?_append_right (by simp [keyA_size]; omega), Array.length_toList, keyA_size, show (i + 1) * 32 + j - 32 = i * 32 + j by omega]
    exact keysV_get l i j k h hj
theorem keysV_len (l : KV) : (keysV l).length = l.length * 32 := by
  induction l with
  | nil => rfl
  | cons p l ih =>
    show ((keyA p.1).toList ++ keysV l).length = _
    rw [List.length_append, ih, Array.length_toList, keyA_size, List.length_cons]; omega
theorem OwnS.keys {w : World} {v : Value} {n : Nat} {l : KV} (h : OwnS w 52 32 v n (keysV l)) : Keys w v (l.map (·.1)) := by
  have hlen := h.len
  rw [keysV_len] at hlen
  have hl : l.length = n := by omega
  rcases h with ⟨rfl, rfl, h⟩ | ⟨b, cap, c, rfl, h1, h2, h3, h4, h5⟩
  · have : l = [] := List.length_eq_zero_iff.1 hl
    subst this
    exact ⟨none, 0, rfl, fun i k hk => by simp at hk⟩
  · refine ⟨some ⟨b, 0, none⟩, cap, by simp [hl], fun i k hk => ⟨b, 0, rfl, fun j hj => ?_⟩⟩
    have hi : i < l.length := by have := (List.getElem?_eq_some_iff.1 hk).1; simpa using this
    have := keysV_get l i j k hk hj
    rw [← h5, List.getElem?_take, if_pos (by omega)] at this
    rw [cv_of_row h1, Nat.zero_add, ← Array.getElem?_toList]
    exact this
def pathsI (w0 : World) (v v' : Value) (ks : List Int) (m : Nat) (vs : List Value) (w : World) : Prop :=
  ∃ i, vs = [v, v', .int .i64 (i : Nat)] ∧ m = ks.length - i ∧ i ≤ ks.length ∧ Fr (fun _ => False) w0 w
theorem paths_true {w : World} {v v' : Value} {ks : List Int} (h : Ints w v ks) (h' : Keys w v' ks) (hR : ∀ k ∈ ks, InR k) (hn : ks.length < 4611686018427387904) :
    Fn Try.prog 25 #[v, v'] w fun x w' => x = .bool true ∧ Fr (fun _ => False) w w' := by
  have h0 := h
  have h0' := h'
  obtain ⟨base, cap, rfl, h⟩ := h
  obtain ⟨base', cap', rfl, h'⟩ := h'
  refine Try.go25 (by simp) ?_
  simp -implicitDefEqProofs only [go_sem, Nat.reduceEqDiff, Try.f25]
  refine loopD [0, 1, 5] (pathsI w (.slice base ks.length cap) (.slice base' ks.length cap') ks) ks.length ⟨0, by simp [upd], by omega, by omega, Fr.refl _ _⟩ ?_
  rintro m vs w1 g ⟨i, rfl, rfl, hi, f1⟩
  by_cases hlt : i < ks.length
  · have i1 : 0 ≤ (i : Int) := by omega
    have i2 : (i : Int) < (ks.length : Int) := by omega
    have hk : ks[i]? = some ks[i] := List.getElem?_eq_getElem hlt
    obtain ⟨b, o, rfl, e1⟩ := h i _ hk
    obtain ⟨b', o', rfl, e2⟩ := h' i _ hk
    have hr := hR _ (List.getElem_mem hlt)
    generalize ks[i] = k at *
    have a1 : rdO Try.prog 3 w1.drew b (o + i) = some (.int .i64 k) := rd_cv Try.agg3 (by rw [cv_drew, f1.cv (cv_lt e1) id]; exact e1)
    have a2 : rdO Try.prog 52 w1.drew b' (o' + i * 32) = some (kV k) := rd_agg Try.agg52 Try.sz52 (keyA_size k) (by omega) fun j hj => by
      have h00 := e2 0 (by omega)
      rw [keyA_get k (by omega)] at h00
      rw [cv_drew, f1.cv (cv_lt h00) id]; exact e2 j hj
    have e52 : eqV Try.prog Op.maxDepth 52 (kV k) (kV k) = some true := by rw [show Op.maxDepth = 9998 + 2 from rfl, eqV52 _ hr hr, beq_self_eq_true]
    have s1 : IntKind.i64.wrap ((i : Int) + 1) = ((i + 1 : Nat) : Int) := by rw [wrap64_id (by omega) (by omega)]; rfl
    simp -implicitDefEqProofs only [go_sem, Nat.reduceEqDiff, decide_true, i1, i2]
    refine den_ext (fun j => j == 4) [0, 1, 2, 3, 5, 6, 7, 8, 4, 9] rfl (by kernel_rfl) (by kernel_rfl) ?_
    simp -implicitDefEqProofs only [go_sem, Nat.reduceEqDiff, List.getElem?_toArray, List.getElem?_cons_zero, List.getElem?_cons_succ, decide_true, i1, i2, and_self, Int.toNat_natCast, Nat.mul_one, a1, a2]
    refine contLX_call Try.pl21 ((path _ k).mono ?_)
    rintro _ w2 ⟨rfl, m2⟩
    refine ⟨fun _ => Fr.ext m2, ?_⟩
    have m12 : Fr (fun _ => False) w1 w2 := (Fr.refl _ _).drew.trans m2
    simp -implicitDefEqProofs only [go_sem, Nat.reduceEqDiff, List.getElem?_toArray, List.getElem?_cons_zero, List.getElem?_cons_succ, e52, s1, Bool.not_true]
    exact ⟨ks.length - (i + 1), by omega, i + 1, rfl, rfl, by omega, f1.trans m12⟩
  · have hd : decide ((i : Int) < (ks.length : Int)) = false := by simp; omega
    simp -implicitDefEqProofs only [go_sem, Nat.reduceEqDiff, hd]
    exact f1
end S
end Go.V
