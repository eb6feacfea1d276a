/-
  The walk of the law CachePlays.
-/
import Derived.Test.YtbbkpngcichdcaaRowE
namespace Go.V
open Go.Proofs
set_option maxRecDepth 100000
namespace B
open I (KV St grown opV R64 Script)
def z43 : Array Value := #[.slice none 0 0, .slice none 0 0, .slice none 0 0, .int .i64 0, .int .i64 0, .slice none 0 0, .slice none 0 0, .int .i64 0, .bool false]
theorem bld43 : bldO Try.prog 43 [] = some (.agg z43) := by
  unfold bldO; rw [Try.zero43, Try.places43]; rfl
theorem start (w : World) : ∃ own, RowAt w (w.alloc (.cells z43 43)) w.heap.size own [] [] := by
  have hb := alloc_blk_new w (.cells z43 43)
  have hc := fun o => cv_of_row (o := o) hb
  have e : (if w.heap.size < w.heap.size then ((12, 0) : Nat × Nat) else (0, 0)) = (0, 0) := if_neg (Nat.lt_irrefl _)
  refine ⟨fun b => if b < w.heap.size then (12, 0) else (0, 0), (Fr.refl _ _).alloc _, fun b hb => if_pos hb, e, ⟨_, [], hc 0, .nil _ _ _, fun b hb => (by cases hb), rfl, fun i s hi => (by simp at hi)⟩, ⟨_, [], hc 1, .nil _ _ _, fun b hb => (by cases hb), rfl, fun i s hi => (by simp at hi)⟩,
    ⟨_, _, _, [], [], 0, ⟨e, hc 2, ⟨_, hc 3⟩, ⟨_, hc 4⟩, hc 5, hc 6, ⟨_, hc 7⟩, hc 8, .nil _ _ _, fun b hb => (by cases hb), .nil _ _ _, fun b hb => (by cases hb), .nil _ _ _, fun b hb => (by cases hb), fun g hg => (by cases hg), fun g hg => (by cases hg), fun j c hj => (by simp at hj), by simp⟩, by simp, by simp⟩⟩
def playsI (w0 : World) (a0 : Int) (v : Value) (n wb : Nat) (m : Nat) (vs : List Value) (w : World) : Prop :=
  ∃ i own ss, vs = [.int .i64 a0, v, ptr (wb, 0), .int .i64 (i : Nat)] ∧ m = n - i ∧ i ≤ n ∧ RowAt w0 w wb own ss ss ∧ 0 < ss.length ∧ ss.length ≤ 5 + i ∧ ∀ s ∈ ss, s.size ≤ 4 + i
theorem Book.mono' {w w' : World} {wb : Nat} {own : Own} (h : Book w wb own) (f : Fr (fun _ => False) w w') : Book w' wb own := h.frame (fun _ _ _ => rfl) f fun _ h => h.elim
set_option maxHeartbeats 4000000 in
theorem playsLaw {w : World} {v : Value} {n : Nat} (hv : Script w v n) (hn : n ≤ 4398046511104) (a0 : Int) :
    Fn Try.prog 6 #[.int .i64 a0, v] w fun x w' => x = .bool true ∧ Fr (fun _ => False) w w' := by
  refine Try.go6 (by simp) ?_
  have b1 : bldO Try.prog 47 [(0, .int .i64 4), (2, .int .i64 7), (3, .int .i64 8)] = some (opV 4 0 7 8) := by
    unfold bldO; rw [Try.zero47, Try.places47]; rfl
  have b2 : bldO Try.prog 47 [(0, .int .i64 2), (2, .int .i64 7)] = some (opV 2 0 7 0) := by
    unfold bldO; rw [Try.zero47, Try.places47]; rfl
  have b3 : bldO Try.prog 47 [(0, .int .i64 6)] = some (opV 6 0 0 0) := by
    unfold bldO; rw [Try.zero47, Try.places47]; rfl
  obtain ⟨own0, h0⟩ := start w
  simp -implicitDefEqProofs only [go_sem, Nat.reduceEqDiff, Try.f6, bld43]
  generalize w.alloc (.cells z43 43) = w1 at *
  refine contL_call Try.pl14 ((h0.joins (by simp) a0).mono ?_)
  rintro _ w2 ⟨rfl, own2, h2⟩
  simp only [List.nil_append] at h2
  simp -implicitDefEqProofs only [go_sem, Nat.reduceEqDiff, Bool.not_true, b1]
  refine contL_call Try.pl15 ((h2.plays (n := 0) (by omega) (by simp) (by simp) (fun s hs => by simp only [List.mem_singleton] at hs; subst hs; simp [I.St.new, I.St.size]) 4 0 7 8).mono ?_)
  rintro _ w3 ⟨rfl, own3, ss3, h3, l3, m3, s3⟩
  have q3 : ss3.length ≤ 2 := m3
  simp -implicitDefEqProofs only [go_sem, Nat.reduceEqDiff, List.getElem?_toArray, List.getElem?_cons_zero, List.getElem?_cons_succ, beq_self_eq_true, if_true, b2]
  refine contL_call Try.pl15 ((h3.plays (by omega) l3 (by omega) s3 2 0 7 0).mono ?_)
  rintro _ w4 ⟨rfl, own4, ss4, h4, l4, m4, s4⟩
  simp -implicitDefEqProofs only [go_sem, Nat.reduceEqDiff, List.getElem?_toArray, List.getElem?_cons_zero, List.getElem?_cons_succ, beq_self_eq_true, if_true, b3]
  refine contL_call Try.pl15 ((h4.plays (by omega) l4 (by omega) s4 6 0 0 0).mono ?_)
  rintro _ w5 ⟨rfl, own5, ss5, h5, l5, m5, s5⟩
  simp -implicitDefEqProofs only [go_sem, Nat.reduceEqDiff, List.getElem?_toArray, List.getElem?_cons_zero, List.getElem?_cons_succ, beq_self_eq_true, if_true, b2]
  refine contL_call Try.pl15 ((h5.plays (by omega) l5 (by omega) s5 2 0 7 0).mono ?_)
  rintro _ w6 ⟨rfl, own6, ss6, h6, l6, m6, s6⟩
  simp -implicitDefEqProofs only [go_sem, Nat.reduceEqDiff, List.getElem?_toArray, List.getElem?_cons_zero, List.getElem?_cons_succ, beq_self_eq_true, if_true, Bool.not_true]
  obtain ⟨base, cap, rfl, hops⟩ := hv
  refine loopD [0, 1, 5, 7] (playsI w a0 (.slice base n cap) n w.heap.size) n ⟨0, own6, ss6, by simp [upd], by omega, by omega, h6, l6, by omega, fun s hs => by have := s6 s hs; omega⟩ ?_
  rintro m vs w7 g0 ⟨i, own7, ss7, rfl, rfl, hi, h7, l7, m7, s7⟩
  by_cases hlt : i < n
  · have i1 : 0 ≤ (i : Int) := by omega
    have i2 : (i : Int) < (n : Int) := by omega
    obtain ⟨b, o, kd, c, k, x, rfl, hb, hop, -⟩ := hops i hlt
    rw [← I.rd_frame h7.fr hb] at hop
    have q1 : IntKind.i64.wrap ((i : Int) + 1) = ((i + 1 : Nat) : Int) := by rw [wrap64_id (by omega) (by omega)]; rfl
    simp -implicitDefEqProofs only [go_sem, Nat.reduceEqDiff, decide_true, i1, i2, and_self, Int.toNat_natCast, hop]
    refine contL_call Try.pl15 ((h7.plays (n := 4 + i) (by omega) l7 (by omega) s7 kd c k x).mono ?_)
    rintro _ w8 ⟨rfl, own8, ss8, h8, l8, m8, s8⟩
    simp -implicitDefEqProofs only [go_sem, Nat.reduceEqDiff, List.getElem?_toArray, List.getElem?_cons_zero, List.getElem?_cons_succ, beq_self_eq_true, if_true, Bool.not_true]
    refine contL_call Try.pl16 (h8.book.stands.mono ?_)
    rintro _ w9 ⟨rfl, f9⟩
    simp -implicitDefEqProofs only [go_sem, Nat.reduceEqDiff, List.getElem?_toArray, List.getElem?_cons_zero, List.getElem?_cons_succ, beq_self_eq_true, if_true, Bool.not_true, tf_b, ft_b, Bool.false_eq_true, if_false, q1]
    exact ⟨n - (i + 1), by omega, i + 1, _, ss8, rfl, rfl, by omega, h8.grow f9 (11, 9), l8, by omega, fun s hs => by have := s8 s hs; omega⟩
  · have hd2 : decide ((i : Int) < (n : Int)) = false := by simp; omega
    simp -implicitDefEqProofs only [go_sem, Nat.reduceEqDiff, hd2]
    refine contL_call Try.pl17 (h7.book.ends.mono ?_)
    rintro _ w8 ⟨rfl, f8⟩
    simp -implicitDefEqProofs only [go_sem, Nat.reduceEqDiff]
    refine h7.fr.trans' f8 fun b hb hh => ?_
    rw [h7.new b hb] at hh
    rcases hh with (hh | hh) | hh
    · cases hh
    · omega
    · cases hh
end B
end Go.V
