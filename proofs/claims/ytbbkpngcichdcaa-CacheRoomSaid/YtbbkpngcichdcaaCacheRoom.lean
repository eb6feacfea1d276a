/-
  CacheRoom of ledgerlaw7 answers true and leaves the world as it was, for every call the statement names. Began as the print of proof-skeleton.mjs.
-/
import Derived.Test.YtbbkpngcichdcaaRows
import Derived.Test.YtbbkpngcichdcaaCacheK
import Derived.Test.YtbbkpngcichdcaaLibM
import Derived.Test.YtbbkpngcichdcaaRowk
import Derived.WalkKit
import Derived.ProofKit
import Derived.OpenShut
namespace Go.V
open Go.Proofs
set_option maxRecDepth 100000
namespace I
def rf (j : Nat) : Int := 3 * (j : Int) + 1
theorem Fill.keyAt {f : Nat → Int} {w0 w : World} {cb mb room i : Nat} {cl : List Nd} (h : Fill f w0 cb mb room w i cl) {j : Nat} (hj : j < cl.length) :
    (cl.reverse.map keyV)[j]? = some (.int .i64 ((i - 1 - j : Nat) : Int)) := by
  have e : cl.map Nd.k = ((List.range i).drop (i - room)).map fun j : Nat => (j : Int) := by
    have := congrArg (List.map Prod.fst) h.has
    simpa [Nd.kvh, Function.comp_def] using this
  have hl := h.len
  have e2 : cl.reverse.map keyV = (cl.map Nd.k).reverse.map (Value.int .i64) := by simp [keyV, Function.comp_def]
  have hj2 : j < ((List.range i).drop (i - room)).length := by simp; omega
  rw [e2, e, ← List.map_reverse, List.map_map, List.getElem?_map, List.getElem?_reverse hj2, List.getElem?_drop, List.getElem?_range (by simp; omega)]
  simp; omega
theorem Fill.head {f : Nat → Int} {w0 w : World} {cb mb room i : Nat} {cl : List Nd} (h : Fill f w0 cb mb room w i cl) (hi : 0 < i) (hr : 0 < room) :
    ∃ n b, cl = n :: b ∧ n.k = ((i - room : Nat) : Int) ∧ n.v = f (i - room) ∧ n.h = false := by
  have hl := h.len
  cases cl with
  | nil => simp at hl; omega
  | cons n b =>
    have := congrArg (fun l => l[0]?) h.has
    simp only [List.map_cons, List.getElem?_cons_zero, List.getElem?_map, List.getElem?_drop] at this
    rw [List.getElem?_range (by omega)] at this
    simp only [Option.map_some, Option.some.injEq, Nd.kvh, Prod.mk.injEq, Nat.add_zero] at this
    exact ⟨n, b, rfl, this.1, this.2.1, this.2.2⟩
def keptI (R N K : Nat) (cb vb cap : Nat) (w0 : World) (m : Nat) (vs : List Value) (w : World) : Prop :=
  ∃ i, vs = [.int .i64 R, .int .i64 N, ptr (cb, 0), .int .i64 K, .slice (some ⟨vb, 0, none⟩) K cap, .int .i64 (i : Nat)] ∧ m = K - i ∧ i ≤ K ∧ w = w0
def roomI (w0 : World) (R N : Nat) (m : Nat) (vs : List Value) (w : World) : Prop :=
  ∃ i cl, vs = [.int .i64 R, .int .i64 N, ptr (w0.heap.size + 1, 0), .int .i64 (i : Nat)] ∧ m = N + 1 - i ∧ i ≤ N + 1 ∧ Fill rf w0 (w0.heap.size + 1) w0.heap.size R w i cl
theorem room_in (w : World) (R N : Nat) (h1 : 1 ≤ R) (h2 : R ≤ 64) (h3 : N ≤ 200) :
    Fn Try.prog 5 #[.int .i64 R, .int .i64 N] w fun v w' => v = .bool true ∧ Fr (fun _ => False) w w' := by
  refine Try.go5 (by simp) ?_
  have d1 : decide ((R : Int) < 1) = false := by simp; omega
  have d2 : decide ((R : Int) > 64) = false := by simp; omega
  have d3 : decide ((N : Int) < 0) = false := by simp
  have d4 : decide ((N : Int) > 200) = false := by simp; omega
  have s1 : IntKind.i64.wrap ((N : Int) + 1) = ((N + 1 : Nat) : Int) := by rw [wrap64_id (by omega) (by omega)]; rfl
  simp -implicitDefEqProofs only [go_sem, Nat.reduceEqDiff, List.getElem?_toArray, List.getElem?_cons_zero, List.getElem?_cons_succ, beq_self_eq_true, Try.f5, d1, d2, d3, d4]
  refine contL_call Try.pl9 ((Fill.start rf w R).mono ?_)
  rintro _ w1 ⟨rfl, h0⟩
  have hR : min (R : Int).toNat 4096 = R := by simp; omega
  rw [hR] at h0
  simp -implicitDefEqProofs only [go_sem, Nat.reduceEqDiff]
  refine loopD [0, 1, 5, 6] (roomI w R N) (N + 1) ⟨0, [], by simp [upd], by omega, by omega, h0⟩ ?_
  rintro m vs w2 g ⟨i, cl, rfl, rfl, hi, h2⟩
  by_cases hlt : i < N + 1
  · have hd : decide ((i : Int) < ((N + 1 : Nat) : Int)) = true := by simp; omega
    have s2 : IntKind.i64.wrap (3 * (i : Int)) = 3 * (i : Int) := wrap64_id (by omega) (by omega)
    have s3 : IntKind.i64.wrap (3 * (i : Int) + 1) = rf i := wrap64_id (by omega) (by omega)
    have s4 : IntKind.i64.wrap ((i : Int) + 1) = ((i + 1 : Nat) : Int) := by rw [wrap64_id (by omega) (by omega)]; rfl
    simp -implicitDefEqProofs only [go_sem, Nat.reduceEqDiff, s1, hd, s2, s3]
    refine contL_call Try.pl10 ((h2.put (by omega) (by omega)).mono ?_)
    rintro _ w3 ⟨rfl, cl', h3⟩
    simp -implicitDefEqProofs only [go_sem, Nat.reduceEqDiff, s4]
    exact ⟨N + 1 - (i + 1), by omega, i + 1, cl', rfl, rfl, by omega, h3⟩
  · have hd : decide ((i : Int) < ((N + 1 : Nat) : Int)) = false := by simp; omega
    have he : i = N + 1 := by omega
    subst he
    obtain ⟨K, hK⟩ : ∃ K, K = min (N + 1) R := ⟨_, rfl⟩
    by_cases hc : N + 1 < R
    · have dk : decide (((N + 1 : Nat) : Int) < (R : Int)) = true := by simp; omega
      simp -implicitDefEqProofs only [go_sem, Nat.reduceEqDiff, s1, hd, dk]
      have e : N + 1 = K := by omega
      rw [e]

      have hl : cl.length = K := by rw [h2.len]; omega
      refine contL_call Try.pl12 ((keys h2.core (by omega)).mono ?_)
      rintro v w3 ⟨ho, h3, f3, hn3⟩
      rw [hl] at ho
      simp -implicitDefEqProofs only [go_sem, Nat.reduceEqDiff]
      refine contL_call Try.pl11 ((tally h3).mono ?_)
      rintro x w4 ⟨hx, h4, f4⟩
      rw [hl, List.length_nil] at hx
      subst hx
      have b0 := tally_wr w4 0 0 (N + 1 - R) K 0
      obtain ⟨t0, _, t2, t3, t4⟩ := tally_at (tally_blk w4 0 0 (N + 1 - R) K 0)
      have h5 : Core (tallyW w4 0 0 (N + 1 - R) K 0) (w.heap.size + 1) w.heap.size cl [] [] R 0 0 (N + 1 - R) := h4.frame fun b hb => tally_old _ _ _ _ _ _ (h4.foot_lt hb)
      have f5 := tally_fr (((h2.fr.trans' f3 (fun _ _ h => h)).trans' f4 (fun _ _ h => h))) 0 0 (N + 1 - R) K 0
      rcases ho with ⟨_, hbad, _⟩ | ⟨vb, cap, c, rfl, hc1, hc2, hc3, hc4, hc5⟩
      · omega
      have hvb : (tallyW w4 0 0 (N + 1 - R) K 0).heap[vb]? = some (.cells c 3 (0, 0)) := by
        have := heap_lt hc1
        rw [tally_old _ _ _ _ _ _ (Nat.lt_of_lt_of_le this f4.size), f4.blk _ this id]; exact hc1
      have hcell : ∀ j, j < K → cv (tallyW w4 0 0 (N + 1 - R) K 0) vb j = some (.int .i64 ((N - j : Nat) : Int)) := fun j hj => by
        have q := h2.keyAt (j := j) (by omega)
        rw [← hc5, List.getElem?_take, if_pos (by omega), Array.getElem?_toList, Nat.add_sub_cancel] at q
        rw [cv_of_row hvb]; exact q
      have g1 : ((0 : Nat) : Int) = 0 := rfl
      have s5 : IntKind.i64.wrap (((N + 1 : Nat) : Int) - (K : Int)) = ((N + 1 - R : Nat) : Int) := by rw [wrap64_id (by omega) (by omega)]; omega
      generalize hw5 : tallyW w4 0 0 (N + 1 - R) K 0 = w5 at *
      simp -implicitDefEqProofs only [go_sem, Nat.reduceEqDiff, List.getElem?_toArray, List.getElem?_cons_zero, List.getElem?_cons_succ, beq_self_eq_true, bne_self_eq_false, b0, t0, t2, t3, t4, g1, s1, s5]

      refine loopD [0, 1, 5, 7, 8, 10] (keptI R N K (w.heap.size + 1) vb cap w5) K ⟨0, by simp [upd], by omega, by omega, rfl⟩ ?_
      rintro m vs w6 g2 ⟨i, rfl, rfl, hi2, rfl⟩
      by_cases hlt2 : i < K
      · have hd2 : decide ((i : Int) < (K : Int)) = true := by simp; omega
        have hcl := hcell i hlt2
        have i1 : 0 ≤ (i : Int) := by omega
        have i2 : (i : Int) < (K : Int) := by omega
        have a1 : rdO Try.prog 3 w6 vb i = some _ := rd_cv Try.agg3 hcl
        have s6 : IntKind.i64.wrap ((N : Int) - (i : Int)) = ((N - i : Nat) : Int) := by rw [wrap64_id (by omega) (by omega)]; omega
        have s7 : IntKind.i64.wrap ((i : Int) + 1) = ((i + 1 : Nat) : Int) := by rw [wrap64_id (by omega) (by omega)]; rfl
        simp -implicitDefEqProofs only [go_sem, Nat.reduceEqDiff, decide_true, i1, i2, and_self, Int.toNat_natCast, Nat.mul_one, a1, s6, s7, bne_self_eq_false]
        exact ⟨K - (i + 1), by omega, i + 1, rfl, rfl, by omega, rfl⟩
      · have hd2 : decide ((i : Int) < (K : Int)) = false := by simp; omega
        have he : i = K := by omega
        subst he
        obtain ⟨n0, b, hcl, hk0, hv0, hh0⟩ := h2.head (by omega) (by omega)
        subst hcl
        have s6 : IntKind.i64.wrap ((i : Int) - 1) = ((i - 1 : Nat) : Int) := by rw [wrap64_id (by omega) (by omega)]; omega
        have i1 : 0 ≤ ((i - 1 : Nat) : Int) := by omega
        have i2 : ((i - 1 : Nat) : Int) < (i : Int) := by omega
        have hcl := hcell (i - 1) (by omega)
        rw [show N - (i - 1) = N + 1 - R by omega, ← hk0] at hcl
        have a1 : rdO Try.prog 3 w6 vb (i - 1) = some _ := rd_cv Try.agg3 hcl
        simp -implicitDefEqProofs only [go_sem, Nat.reduceEqDiff, hd2, s6, i1, i2, and_self, Int.toNat_natCast, Nat.mul_one, a1]
        have hbl : b.length + 1 = i := by simpa using hl
        refine contL_call Try.pl13 ((get_clean (n := n0) (a := []) (b := b) h5 hh0 (by omega) (by simp; omega)).mono ?_)
        rintro _ w7 ⟨rfl, h7, f7⟩
        have m1 : IntKind.i64.wrap (3 * n0.k) = 3 * n0.k := wrap64_id (by omega) (by omega)
        have m2 : IntKind.i64.wrap (3 * n0.k + 1) = n0.v := by rw [wrap64_id (by omega) (by omega), hv0, hk0]; rfl
        simp -implicitDefEqProofs only [go_sem, Nat.reduceEqDiff, List.getElem?_toArray, List.getElem?_cons_zero, List.getElem?_cons_succ, beq_self_eq_true, bne_self_eq_false, Bool.not_true, m1, m2]
        have hmem := h2.mem
        refine contL_call Try.pl10 ((put_new h7 (k := -1) (fun n hn => ?_) 0 (by simp; omega) (by omega)).mono ?_)
        · obtain ⟨j, hj, _⟩ := hmem n (by simp at hn ⊢; exact hn.symm)
          omega
        rintro _ w8 ⟨rfl, h8, f8⟩
        have hd8 : ([] ++ b ++ [n0]).length + 1 - R = i + 1 - R := by simp; omega
        rw [hd8] at h8
        have hk8 : (⟨w7.heap.size, -1, 0, false⟩ : Nd).k = -1 := rfl
        have hb8 : w.heap.size ≤ (⟨w7.heap.size, -1, 0, false⟩ : Nd).b := Nat.le_trans f5.size f7.size
        generalize (⟨w7.heap.size, -1, 0, false⟩ : Nd) = nw at *
        have hnew : ∀ bb, foot (w.heap.size + 1) w.heap.size (nw :: n0 :: b) bb → w.heap.size ≤ bb := fun bb hbb => by
          rcases hbb with hbb | hbb | ⟨n, hn, hbb⟩
          · omega
          · omega
          · rcases List.mem_cons.1 hn with hn | hn
            · subst hn; omega
            · exact h2.new bb (.inr (.inr ⟨n, hn, hbb⟩))
        have e7 : Fr (fun _ => False) w w7 := f5.trans' f7 fun bb hbb hf => by
          have := hnew bb (foot_sub (fun n hn => ⟨n, by simp at hn ⊢; grind, rfl⟩) hf); omega
        have e8 : Fr (fun _ => False) w w8 := e7.trans' f8 fun bb hbb hf => by
          have := hnew bb (foot_sub (fun n hn => ⟨n, by simp at hn ⊢; grind, rfl⟩) hf); omega
        by_cases hR1 : R = 1
        · have hb0 : b = [] := List.eq_nil_of_length_eq_zero (by omega)
          have hi1 : i = 1 := by omega
          subst hb0
          have hl8 : ([] ++ [] ++ [n0] ++ [nw]).drop (i + 1 - R) = [nw] := by rw [hi1, hR1]; rfl
          rw [hl8] at h8
          have kk : ((i : Int) == 1) = true := by rw [hi1]; rfl
          have rr : ((R : Int) == 1) = true := by rw [hR1]; rfl
          simp -implicitDefEqProofs only [go_sem, Nat.reduceEqDiff]
          refine contL_call Try.pl13 ((get_miss h8 (k := n0.k) (fun n hn => ?_) (by omega)).mono ?_)
          · simp at hn; subst hn; rw [hk8, hk0]; omega
          rintro _ w9 ⟨rfl, h9, f9⟩
          have e9 : Fr (fun _ => False) w w9 := e8.trans' f9 fun bb hbb hf => by
            have := hnew bb (foot_sub (fun n hn => ⟨n, by simp at hn ⊢; grind, rfl⟩) hf); omega
          simp -implicitDefEqProofs only [go_sem, Nat.reduceEqDiff, List.getElem?_toArray, List.getElem?_cons_zero, List.getElem?_cons_succ, beq_self_eq_true, bne_self_eq_false, Bool.not_true, Bool.not_false, kk, rr]
          exact ⟨trivial, e9⟩
        · have hl8 : ([] ++ b ++ [n0] ++ [nw]).drop (i + 1 - R) = b.drop (i + 1 - R) ++ n0 :: [nw] := by
            rw [List.nil_append, List.append_assoc, List.drop_append_of_le_length (by omega)]; rfl
          rw [hl8] at h8
          have rr : ((R : Int) == 1) = false := by simp; omega
          simp -implicitDefEqProofs only [go_sem, Nat.reduceEqDiff]
          refine contL_call Try.pl13 ((get_clean (n := n0) h8 hh0 (by omega) (by simp; omega)).mono ?_)
          rintro _ w9 ⟨rfl, h9, f9⟩
          have e9 : Fr (fun _ => False) w w9 := e8.trans' f9 fun bb hbb hf => by
            have := hnew bb (foot_sub (fun n hn => ⟨n, by simp at hn ⊢; rcases hn with hn | hn | hn; exact .inr (.inr (List.mem_of_mem_drop hn)); exact .inr (.inl hn); exact .inl hn, rfl⟩) hf); omega
          by_cases hk1 : i = 1
          · have kk : ((i : Int) == 1) = true := by rw [hk1]; rfl
            simp -implicitDefEqProofs only [go_sem, Nat.reduceEqDiff, List.getElem?_toArray, List.getElem?_cons_zero, List.getElem?_cons_succ, beq_self_eq_true, bne_self_eq_false, Bool.not_true, Bool.not_false, kk, rr, m1, m2]
            exact ⟨trivial, e9⟩
          · have kk : ((i : Int) == 1) = false := by simp; omega
            simp -implicitDefEqProofs only [go_sem, Nat.reduceEqDiff, List.getElem?_toArray, List.getElem?_cons_zero, List.getElem?_cons_succ, beq_self_eq_true, bne_self_eq_false, Bool.not_true, Bool.not_false, kk, rr, m1, m2]
            exact ⟨trivial, e9⟩
    · have dk : decide (((N + 1 : Nat) : Int) < (R : Int)) = false := by simp; omega
      simp -implicitDefEqProofs only [go_sem, Nat.reduceEqDiff, s1, hd, dk]
      have e : R = K := by omega
      rw [e]

      have hl : cl.length = K := by rw [h2.len]; omega
      refine contL_call Try.pl12 ((keys h2.core (by omega)).mono ?_)
      rintro v w3 ⟨ho, h3, f3, hn3⟩
      rw [hl] at ho
      simp -implicitDefEqProofs only [go_sem, Nat.reduceEqDiff]
      refine contL_call Try.pl11 ((tally h3).mono ?_)
      rintro x w4 ⟨hx, h4, f4⟩
      rw [hl, List.length_nil] at hx
      subst hx
      have b0 := tally_wr w4 0 0 (N + 1 - R) K 0
      obtain ⟨t0, _, t2, t3, t4⟩ := tally_at (tally_blk w4 0 0 (N + 1 - R) K 0)
      have h5 : Core (tallyW w4 0 0 (N + 1 - R) K 0) (w.heap.size + 1) w.heap.size cl [] [] R 0 0 (N + 1 - R) := h4.frame fun b hb => tally_old _ _ _ _ _ _ (h4.foot_lt hb)
      have f5 := tally_fr (((h2.fr.trans' f3 (fun _ _ h => h)).trans' f4 (fun _ _ h => h))) 0 0 (N + 1 - R) K 0
      rcases ho with ⟨_, hbad, _⟩ | ⟨vb, cap, c, rfl, hc1, hc2, hc3, hc4, hc5⟩
      · omega
      have hvb : (tallyW w4 0 0 (N + 1 - R) K 0).heap[vb]? = some (.cells c 3 (0, 0)) := by
        have := heap_lt hc1
        rw [tally_old _ _ _ _ _ _ (Nat.lt_of_lt_of_le this f4.size), f4.blk _ this id]; exact hc1
      have hcell : ∀ j, j < K → cv (tallyW w4 0 0 (N + 1 - R) K 0) vb j = some (.int .i64 ((N - j : Nat) : Int)) := fun j hj => by
        have q := h2.keyAt (j := j) (by omega)
        rw [← hc5, List.getElem?_take, if_pos (by omega), Array.getElem?_toList, Nat.add_sub_cancel] at q
        rw [cv_of_row hvb]; exact q
      have g1 : ((0 : Nat) : Int) = 0 := rfl
      have s5 : IntKind.i64.wrap (((N + 1 : Nat) : Int) - (K : Int)) = ((N + 1 - R : Nat) : Int) := by rw [wrap64_id (by omega) (by omega)]; omega
      generalize hw5 : tallyW w4 0 0 (N + 1 - R) K 0 = w5 at *
      simp -implicitDefEqProofs only [go_sem, Nat.reduceEqDiff, List.getElem?_toArray, List.getElem?_cons_zero, List.getElem?_cons_succ, beq_self_eq_true, bne_self_eq_false, b0, t0, t2, t3, t4, g1, s1, s5]

      refine loopD [0, 1, 5, 7, 8, 10] (keptI K N K (w.heap.size + 1) vb cap w5) K ⟨0, by simp [upd], by omega, by omega, rfl⟩ ?_
      rintro m vs w6 g2 ⟨i, rfl, rfl, hi2, rfl⟩
      by_cases hlt2 : i < K
      · have hd2 : decide ((i : Int) < (K : Int)) = true := by simp; omega
        have hcl := hcell i hlt2
        have i1 : 0 ≤ (i : Int) := by omega
        have i2 : (i : Int) < (K : Int) := by omega
        have a1 : rdO Try.prog 3 w6 vb i = some _ := rd_cv Try.agg3 hcl
        have s6 : IntKind.i64.wrap ((N : Int) - (i : Int)) = ((N - i : Nat) : Int) := by rw [wrap64_id (by omega) (by omega)]; omega
        have s7 : IntKind.i64.wrap ((i : Int) + 1) = ((i + 1 : Nat) : Int) := by rw [wrap64_id (by omega) (by omega)]; rfl
        simp -implicitDefEqProofs only [go_sem, Nat.reduceEqDiff, decide_true, i1, i2, and_self, Int.toNat_natCast, Nat.mul_one, a1, s6, s7, bne_self_eq_false]
        exact ⟨K - (i + 1), by omega, i + 1, rfl, rfl, by omega, rfl⟩
      · have hd2 : decide ((i : Int) < (K : Int)) = false := by simp; omega
        have he : i = K := by omega
        subst he
        obtain ⟨n0, b, hcl, hk0, hv0, hh0⟩ := h2.head (by omega) (by omega)
        subst hcl
        have s6 : IntKind.i64.wrap ((i : Int) - 1) = ((i - 1 : Nat) : Int) := by rw [wrap64_id (by omega) (by omega)]; omega
        have i1 : 0 ≤ ((i - 1 : Nat) : Int) := by omega
        have i2 : ((i - 1 : Nat) : Int) < (i : Int) := by omega
        have hcl := hcell (i - 1) (by omega)
        rw [show N - (i - 1) = N + 1 - R by omega, ← hk0] at hcl
        have a1 : rdO Try.prog 3 w6 vb (i - 1) = some _ := rd_cv Try.agg3 hcl
        simp -implicitDefEqProofs only [go_sem, Nat.reduceEqDiff, hd2, s6, i1, i2, and_self, Int.toNat_natCast, Nat.mul_one, a1]
        have hbl : b.length + 1 = i := by simpa using hl
        refine contL_call Try.pl13 ((get_clean (n := n0) (a := []) (b := b) h5 hh0 (by omega) (by simp; omega)).mono ?_)
        rintro _ w7 ⟨rfl, h7, f7⟩
        have m1 : IntKind.i64.wrap (3 * n0.k) = 3 * n0.k := wrap64_id (by omega) (by omega)
        have m2 : IntKind.i64.wrap (3 * n0.k + 1) = n0.v := by rw [wrap64_id (by omega) (by omega), hv0, hk0]; rfl
        simp -implicitDefEqProofs only [go_sem, Nat.reduceEqDiff, List.getElem?_toArray, List.getElem?_cons_zero, List.getElem?_cons_succ, beq_self_eq_true, bne_self_eq_false, Bool.not_true, m1, m2]
        have hmem := h2.mem
        refine contL_call Try.pl10 ((put_new h7 (k := -1) (fun n hn => ?_) 0 (by simp; omega) (by omega)).mono ?_)
        · obtain ⟨j, hj, _⟩ := hmem n (by simp at hn ⊢; exact hn.symm)
          omega
        rintro _ w8 ⟨rfl, h8, f8⟩
        have hd8 : ([] ++ b ++ [n0]).length + 1 - R = i + 1 - R := by simp; omega
        rw [hd8] at h8
        have hk8 : (⟨w7.heap.size, -1, 0, false⟩ : Nd).k = -1 := rfl
        have hb8 : w.heap.size ≤ (⟨w7.heap.size, -1, 0, false⟩ : Nd).b := Nat.le_trans f5.size f7.size
        generalize (⟨w7.heap.size, -1, 0, false⟩ : Nd) = nw at *
        have hnew : ∀ bb, foot (w.heap.size + 1) w.heap.size (nw :: n0 :: b) bb → w.heap.size ≤ bb := fun bb hbb => by
          rcases hbb with hbb | hbb | ⟨n, hn, hbb⟩
          · omega
          · omega
          · rcases List.mem_cons.1 hn with hn | hn
            · subst hn; omega
            · exact h2.new bb (.inr (.inr ⟨n, hn, hbb⟩))
        have e7 : Fr (fun _ => False) w w7 := f5.trans' f7 fun bb hbb hf => by
          have := hnew bb (foot_sub (fun n hn => ⟨n, by simp at hn ⊢; grind, rfl⟩) hf); omega
        have e8 : Fr (fun _ => False) w w8 := e7.trans' f8 fun bb hbb hf => by
          have := hnew bb (foot_sub (fun n hn => ⟨n, by simp at hn ⊢; grind, rfl⟩) hf); omega
        by_cases hR1 : R = 1
        · have hb0 : b = [] := List.eq_nil_of_length_eq_zero (by omega)
          have hi1 : i = 1 := by omega
          subst hb0
          have hl8 : ([] ++ [] ++ [n0] ++ [nw]).drop (i + 1 - R) = [nw] := by rw [hi1, hR1]; rfl
          rw [hl8] at h8
          have kk : ((i : Int) == 1) = true := by rw [hi1]; rfl
          have rr : ((R : Int) == 1) = true := by rw [hR1]; rfl
          simp -implicitDefEqProofs only [go_sem, Nat.reduceEqDiff]
          refine contL_call Try.pl13 ((get_miss h8 (k := n0.k) (fun n hn => ?_) (by omega)).mono ?_)
          · simp at hn; subst hn; rw [hk8, hk0]; omega
          rintro _ w9 ⟨rfl, h9, f9⟩
          have e9 : Fr (fun _ => False) w w9 := e8.trans' f9 fun bb hbb hf => by
            have := hnew bb (foot_sub (fun n hn => ⟨n, by simp at hn ⊢; grind, rfl⟩) hf); omega
          simp -implicitDefEqProofs only [go_sem, Nat.reduceEqDiff, List.getElem?_toArray, List.getElem?_cons_zero, List.getElem?_cons_succ, beq_self_eq_true, bne_self_eq_false, Bool.not_true, Bool.not_false, kk, rr]
          exact ⟨trivial, e9⟩
        · have hl8 : ([] ++ b ++ [n0] ++ [nw]).drop (i + 1 - R) = b.drop (i + 1 - R) ++ n0 :: [nw] := by
            rw [List.nil_append, List.append_assoc, List.drop_append_of_le_length (by omega)]; rfl
          rw [hl8] at h8
          have rr : ((R : Int) == 1) = false := by simp; omega
          simp -implicitDefEqProofs only [go_sem, Nat.reduceEqDiff]
          refine contL_call Try.pl13 ((get_clean (n := n0) h8 hh0 (by omega) (by simp; omega)).mono ?_)
          rintro _ w9 ⟨rfl, h9, f9⟩
          have e9 : Fr (fun _ => False) w w9 := e8.trans' f9 fun bb hbb hf => by
            have := hnew bb (foot_sub (fun n hn => ⟨n, by simp at hn ⊢; rcases hn with hn | hn | hn; exact .inr (.inr (List.mem_of_mem_drop hn)); exact .inr (.inl hn); exact .inl hn, rfl⟩) hf); omega
          by_cases hk1 : i = 1
          · exfalso; omega
          · have kk : ((i : Int) == 1) = false := by simp; omega
            simp -implicitDefEqProofs only [go_sem, Nat.reduceEqDiff, List.getElem?_toArray, List.getElem?_cons_zero, List.getElem?_cons_succ, beq_self_eq_true, bne_self_eq_false, Bool.not_true, Bool.not_false, kk, rr, m1, m2]
            exact ⟨trivial, e9⟩
theorem room (w : World) (a0 a1 : Int) : Fn Try.prog 5 #[.int .i64 a0, .int .i64 a1] w fun v w' => v = .bool true ∧ Fr (fun _ => False) w w' := by
  by_cases hin : 1 ≤ a0 ∧ a0 ≤ 64 ∧ 0 ≤ a1 ∧ a1 ≤ 200
  · obtain ⟨R, rfl⟩ : ∃ R : Nat, a0 = R := ⟨a0.toNat, by omega⟩
    obtain ⟨N, rfl⟩ : ∃ N : Nat, a1 = N := ⟨a1.toNat, by omega⟩
    exact room_in w R N (by omega) (by omega) (by omega)
  · refine Try.go5 (by simp) ?_
    by_cases k1 : a0 < 1
    · have d1 : decide (a0 < 1) = true := by simp [k1]
      simp -implicitDefEqProofs only [go_sem, Nat.reduceEqDiff, List.getElem?_toArray, List.getElem?_cons_zero, List.getElem?_cons_succ, beq_self_eq_true, Try.f5, d1]
      exact ⟨trivial, Fr.refl _ _⟩
    · have d1 : decide (a0 < 1) = false := by simp; omega
      by_cases k2 : a0 > 64
      · have d2 : decide (a0 > 64) = true := by simp; omega
        simp -implicitDefEqProofs only [go_sem, Nat.reduceEqDiff, List.getElem?_toArray, List.getElem?_cons_zero, List.getElem?_cons_succ, beq_self_eq_true, Try.f5, d1, d2]
        exact ⟨trivial, Fr.refl _ _⟩
      · have d2 : decide (a0 > 64) = false := by simp; omega
        by_cases k3 : a1 < 0
        · have d3 : decide (a1 < 0) = true := by simp [k3]
          simp -implicitDefEqProofs only [go_sem, Nat.reduceEqDiff, List.getElem?_toArray, List.getElem?_cons_zero, List.getElem?_cons_succ, beq_self_eq_true, Try.f5, d1, d2, d3]
          exact ⟨trivial, Fr.refl _ _⟩
        · have d3 : decide (a1 < 0) = false := by simp; omega
          have d4 : decide (a1 > 200) = true := by simp; omega
          simp -implicitDefEqProofs only [go_sem, Nat.reduceEqDiff, List.getElem?_toArray, List.getElem?_cons_zero, List.getElem?_cons_succ, beq_self_eq_true, Try.f5, d1, d2, d3, d4]
          exact ⟨trivial, Fr.refl _ _⟩
end I
end Go.V

namespace Go.Proofs.Ytbbkpngcichdcaa.cacheRoom
open Go.ChangeShapes Go.WideShapes Go.ChangeAt Go.RowKit
set_option linter.unusedVariables false      -- a walk need not use every 'w<i>' (that an integer argument fits its kind)

theorem own : ownKnob Try.prog.godebug = none := by kernel_rfl

/-! ### STEP 1: THE WALK: the Go text returns true. 'Grown w w'': the world has at most new blocks (Derived/RowKit3.lean). Part the cases AHEAD of 'go_enter' where a test parts the walk; take each callee by a contract of your own. -/
theorem walk (a0 : Int) (a1 : Int) (w0 : (Lit.int .i64 a0).wf = true) (w1 : (Lit.int .i64 a1).wf = true) (w : World) :
    Calls Try.prog 5 #[.int .i64 a0, .int .i64 a1] w fun e w' => e = .returned (.bool true) ∧ Grown w w' := by
  exact Go.V.calls_true (Go.V.I.room w a0 a1)

/-! ### THE ROW's STEP: WRITTEN OUT: LEAVE IT -/
set_option maxRecDepth 100000 in
theorem lifted (os : Os) (started : os.Started) (H : Type) (enc : TypeId × Value → H) :
    ReturnsInHanded {} Try.checked os 5 .any (Rows.cacheRoomSpec.pre6 enc Try.prog Try.f5 Rows.cacheRoomRow.domain false) (Rows.cacheRoomSpec.post enc Try.prog Try.f5 false true false false) := by
  refine returnsInHanded_of_change (C := Try.checked) own started (by kernel_rfl) Try.func5
    (ChangeSpec.witness6 (enc := enc) (C := Try.checked) false ⟨#[], #[.int .i64 0, .int .i64 0], []⟩ 8 (by kernel_rfl) (by kernel_rfl) (by kernel_rfl) (by kernel_rfl)) ?_
  intro W base args ds gs before hval0 hW hcnd _
  have hval : ∀ (j : Nat) t v, Try.f5.params[j]? = some t → args[j]? = some v → Value.okWide Try.prog W .any base t v := hval0
  have hW' := hW
  obtain ⟨p, q, hA0, hV, rfl, hfz, hnd⟩ := hW
  have hA : DataW.TrodAll enc Try.prog W 0 (fun _ => true) true Try.f5.params.toList args.toList ds p := hA0
  rw [Try.params5] at hA hval
  obtain ⟨v0, vs0, d0, ds0, p0, q0, hargs, rfl, rfl, h0, r0⟩ := trodAll_cons hA
  obtain ⟨v1, vs1, d1, ds1, p1, q1, rfl, rfl, rfl, h1, r1⟩ := trodAll_cons r0
  obtain ⟨rfl, rfl, rfl⟩ := trodAll_nil r1
  obtain rfl : args = #[v0, v1] := by cases args; simp_all
  obtain ⟨rfl, rfl⟩ := trodVars_none hV
  obtain ⟨a0, rfl, rfl, rfl, w0⟩ := open_int Try.underlying3 (hval 0 3 v0 rfl rfl) h0
  obtain ⟨a1, rfl, rfl, rfl, w1⟩ := open_int Try.underlying3 (hval 1 3 v1 rfl rfl) h1
  clear hA0 hval0
  simp only [List.append_nil] at hW'
  refine (walk a0 a1 w0 w1 W).mono fun e W' ⟨he, hg⟩ => ?_
  subst he
  exact ⟨_, rfl, post_of_same (pa := []) (pv := []) hW' (fun _ _ _ => (trodAll_cons_mk (shut_bool Try.underlying4 _) trodAll_mk0)) (fun sp _ => (trodAll_cons_mk (shut_int Try.underlying3 w0) (trodAll_cons_mk (shut_int Try.underlying3 w1) trodAll_mk0))) (fun _ _ => rfl) rfl
    (hg.frame _) hg.2.1 (ok_one (by kernel_rfl) rfl (okWide_bool_mk Try.underlying4 _))⟩

theorem over : Rows.cacheRoomRow.holds Try.pinned (OpenSpec.ofChange Rows.cacheRoomSpec) :=
  OpenClaim.holds_of_wide 5 Try.f5 rfl rfl rfl rfl rfl rfl rfl ⟨rfl, rfl, rfl, rfl, rfl⟩ rfl rfl rfl rfl rfl (by kernel_rfl) Try.func5 (by kernel_rfl)
    (of_decide_eq_true (by kernel_rfl)) (by unfold Func.isWrapper; first | (rw [if_pos (by decide +kernel)]; kernel_rfl) | (rw [if_neg (by decide +kernel)]; exact ⟨rfl, rfl⟩))
    (fun os started H enc _ => lifted os started H enc)

/-- ████ THE STATEMENT ████ -/
theorem proved : Rows.CacheRoomSaid :=
  over
#print axioms proved
end Go.Proofs.Ytbbkpngcichdcaa.cacheRoom
