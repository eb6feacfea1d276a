/-
  The document's cache: Settle, Release, Keys, Held.
-/
import Derived.Test.YtbbkpngcichdcaaRefD
namespace Go.V
open Go.Proofs
set_option maxRecDepth 100000
namespace R
open I (KV St wout sets grown keysV)
section
variable {w w' : World} {rb : Nat} {F : Nat → Prop} {vc vk : Value} {cl kp : KV} {room hits misses gone : Nat} {s : St}
theorem ft_beq' : (false == true) = false := rfl
theorem OwnO.cap {w : World} {e sz n : Nat} {v : Value} {cs : List Value} (h : OwnO w e sz v n cs) : ∃ base cap, v = .slice base n cap ∧ n ≤ cap := by
  rcases h with ⟨rfl, rfl, rfl⟩ | ⟨b, o, cap, c, rfl, _, _, h, _⟩
  · exact ⟨_, _, rfl, Nat.le_refl _⟩
  · exact ⟨_, _, rfl, h⟩
def releaseR (w0 : World) (rb : Nat) (kp : KV) (n : Nat) (m : Nat) (vs : List Value) (w : World) : Prop :=
  ∃ (j : Nat) (x : Value) (n' : Int), vs = [ptr (rb, 0), .int .i64 n', x, .int .i64 (j : Nat)] ∧ n' = n ∧ m = kp.length - j ∧ j ≤ kp.length ∧ j ≤ n ∧ OwnO w 100 2 x j (pairsV (kp.take j)) ∧ (∀ b, blockOf x = some b → w0.heap.size ≤ b) ∧ Fr (fun _ => False) w0 w
theorem Ref.release (h : Ref w rb F s) (hs : s.size < 8796093000000) (n : Int) :
    Fn Try.prog 43 #[ptr (rb, 0), .int .i64 n] w fun x w' => x = .tuple #[] ∧ Ref w' rb (grown F w w') (s.release n) ∧ Fr F w w' := by
  obtain ⟨vc, vk, h⟩ := h
  unfold I.St.size at hs
  refine Try.go43 (by simp) ?_
  by_cases h0 : n < 0
  case' pos =>
    have d1 : decide (n < 0) = true := by simp [h0]
    simp -implicitDefEqProofs only [go_sem, Nat.reduceEqDiff, Try.f43, d1]
    refine loopD [0, 1, 4, 5] (releaseR w rb s.kept n.toNat) s.kept.length ⟨0, .slice none 0 0, 0, by simp [upd], by omega, by omega, by omega, by omega, .nil _ _ _, fun b hb => (by cases hb), Fr.refl _ _⟩ ?_
  case' neg =>
    have d1 : decide (n < 0) = false := by simp; omega
    simp -implicitDefEqProofs only [go_sem, Nat.reduceEqDiff, Try.f43, d1]
    refine loopD [0, 1, 4, 5] (releaseR w rb s.kept n.toNat) s.kept.length ⟨0, .slice none 0 0, n, by simp [upd], by omega, by omega, by omega, by omega, .nil _ _ _, fun b hb => (by cases hb), Fr.refl _ _⟩ ?_
  all_goals
    rintro m vs w1 g ⟨j, x, n', rfl, hn', rfl, hj, hjn, ho, hxn, f1⟩
    have h1 := h.frame f1 fun _ _ h => h
    obtain ⟨_, _, a2, _⟩ := h1.rd
    obtain ⟨⟨kb, kc, hvk, hcell⟩, _⟩ := own_pairs h1.kp
    subst hvk
    by_cases hlt : j < s.kept.length
    · have e1 : decide ((j : Int) < (s.kept.length : Int)) = true := by simp; omega
      by_cases hlt2 : (j : Int) < n'
      · have e2 : decide ((j : Int) < n') = true := by simp; omega
        have hp : s.kept[j]? = some s.kept[j] := List.getElem?_eq_getElem hlt
        obtain ⟨b, o, rfl, q1, q2⟩ := hcell j _ hp
        have htake : s.kept.take (j + 1) = s.kept.take j ++ [s.kept[j]] := List.take_succ_eq_append_getElem hlt
        generalize s.kept[j] = p at *
        have a6 := pair_rd q1 q2
        have i1 : 0 ≤ (j : Int) := by omega
        have i2 : (j : Int) < (s.kept.length : Int) := by omega
        have s1 : IntKind.i64.wrap ((j : Int) + 1) = ((j + 1 : Nat) : Int) := by rw [wrap64_id (by omega) (by omega)]; rfl
        obtain ⟨x', w2, hrun, r⟩ := app_new (P := Try.prog) (ts := #[95, 95]) (t := 95) (t' := 95) rfl rfl Try.slc95 Try.int95 und95 Try.sz100 by100 Try.zero100 rfl ho (m := 1) #[.int .i64 p.1, .int .i64 p.2] rfl rfl (by omega) (by omega) (by omega)
        simp -implicitDefEqProofs only [go_sem, Nat.reduceEqDiff, List.getElem?_toArray, List.getElem?_cons_zero, List.getElem?_cons_succ, beq_self_eq_true, a2, e1, e2, i1, i2, and_self, Int.toNat_natCast, a6, decide_true, if_true]
        refine contL_is (v := .slice (some ⟨w1.heap.size, 0, none⟩) 1 1) (w' := w1.alloc (.cells #[.int .i64 p.1, .int .i64 p.2] 100)) rfl ?_
        simp -implicitDefEqProofs only [go_sem, Nat.reduceEqDiff]
        refine contL_sem ⟨x', w2, hrun, ?_⟩
        simp -implicitDefEqProofs only [go_sem, Nat.reduceEqDiff, s1]
        refine ⟨s.kept.length - (j + 1), by omega, j + 1, x', n', rfl, hn', rfl, by omega, by omega, ?_, fun b' hb' => ?_, f1.trans' r.fr fun b' hb' h => by have := hxn b' h; omega⟩
        · rw [htake, pairsV_app]; exact r.own
        · obtain ⟨b2, g1, g2⟩ := r.blk
          rw [g1] at hb'; cases hb'
          rcases g2 with g2 | g2
          · exact hxn _ g2
          · have := f1.size; omega
      · have e2 : decide ((j : Int) < n') = false := by simp; omega
        have hjn2 : j = n.toNat := by omega
        have ho2 : OwnO w1 100 2 x (s.kept.take n.toNat).length (pairsV (s.kept.take n.toNat)) := by
          rw [← hjn2, List.length_take, Nat.min_eq_left (by omega)]; exact ho
        obtain ⟨h3, f3, row3⟩ := h.kept (x := x) (kp' := s.kept.take n.toNat) (Fr.none f1) ho2 fun b hb => .inr (hxn b hb)
        have b3 := (wr_row row3).2.1 x (own_one ho)
        simp -implicitDefEqProofs only [go_sem, Nat.reduceEqDiff, List.getElem?_toArray, List.getElem?_cons_zero, List.getElem?_cons_succ, beq_self_eq_true, a2, e1, e2, if_true, b3]
        exact ⟨⟨_, _, h3.mono (fun b hb => hb.imp id fun h => ⟨h.1, by rw [refP_size]; exact h.2⟩) (grown_lt h.lt f3.size)⟩, f3⟩
    · have e1 : decide ((j : Int) < (s.kept.length : Int)) = false := by simp; omega
      have hjl : j = s.kept.length := by omega
      have ho2 : OwnO w1 100 2 x (s.kept.take n.toNat).length (pairsV (s.kept.take n.toNat)) := by
        rw [List.take_of_length_le (by omega), ← hjl]
        rw [List.take_of_length_le (by omega)] at ho; exact ho
      obtain ⟨h3, f3, row3⟩ := h.kept (x := x) (kp' := s.kept.take n.toNat) (Fr.none f1) ho2 fun b hb => .inr (hxn b hb)
      have b3 := (wr_row row3).2.1 x (own_one ho)
      simp -implicitDefEqProofs only [go_sem, Nat.reduceEqDiff, List.getElem?_toArray, List.getElem?_cons_zero, List.getElem?_cons_succ, ft_beq', a2, e1, Bool.false_eq_true, if_false, b3]
      exact ⟨⟨_, _, h3.mono (fun b hb => hb.imp id fun h => ⟨h.1, by rw [refP_size]; exact h.2⟩) (grown_lt h.lt f3.size)⟩, f3⟩
theorem Ref.settle (h : Ref w rb F s) (hs : s.size < 8796093000000) :
    Fn Try.prog 41 #[ptr (rb, 0)] w fun x w' => x = .tuple #[] ∧ Ref w' rb (grown F w w') s.settle ∧ Fr F w w' := by
  obtain ⟨vc, vk, h⟩ := h
  unfold I.St.size at hs
  refine Try.go41 (by simp) ?_
  have hd : RefAt w.drew rb F vc vk s.clean s.kept s.room s.hits s.misses s.gone := h.frame (G := fun _ => False) ((Fr.refl _ _).drew) fun _ _ h => h
  obtain ⟨_, a1, a2, _⟩ := hd.rd
  simp -implicitDefEqProofs only [go_sem, Nat.reduceEqDiff, Try.f41, a1, a2]
  -- the append
  have app : ∃ x w2, (Builtin.append_ #[95, 95] 0 #[vc, vk]).run Try.prog w.drew = .ok x w2 ∧ OwnO w2 100 2 x (s.clean ++ s.kept).length (pairsV (s.clean ++ s.kept)) ∧ Fr (fun b => blockOf vc = some b) w.drew w2 ∧ ∀ b, blockOf x = some b → blockOf vc = some b ∨ w.drew.heap.size ≤ b := by
    obtain ⟨cb, cc, rfl, hcc⟩ := OwnO.cap hd.cl
    rcases hd.kp with ⟨rfl, hk, hk2⟩ | ⟨b, o, cap, c, rfl, hb, hc, hn, hl, hcell⟩
    · refine ⟨_, _, run_app_zero (P := Try.prog) rfl rfl Try.slc95 Try.int95 und95 Try.sz100 hcc, ?_, Fr.refl _ _, fun b hb => .inl hb⟩
      have : s.kept = [] := List.length_eq_zero_iff.1 hk
      rw [this, List.append_nil]; exact hd.cl
    · by_cases hz : s.kept.length = 0
      · rw [hz]
        refine ⟨_, _, run_app_zero (P := Try.prog) rfl rfl Try.slc95 Try.int95 und95 Try.sz100 hcc, ?_, Fr.refl _ _, fun b hb => .inl hb⟩
        have : s.kept = [] := List.length_eq_zero_iff.1 hz
        rw [this, List.append_nil]; exact hd.cl
      · have hm := Nat.mul_le_mul_right 2 hn
        obtain ⟨x, w2, hrun, r⟩ := app_o (P := Try.prog) (ts := #[95, 95]) (t := 95) (t' := 95) rfl rfl Try.slc95 Try.int95 und95 Try.sz100 by100 Try.zero100 rfl hd.cl (xb := b) (xo := o) (m := s.kept.length) (xc := cap) (news := pairsV s.kept) hb (by omega)
          (get_extract (pairsV_len _) (by omega) hcell) (pairsV_one _) (fun cap' _ hc => by
            have := nextcap_le (need := s.clean.length + s.kept.length) (cap := cap') (by omega)
            have h2 := Nat.mul_le_mul_right 16 this
            omega) (by omega) (by omega)
        refine ⟨x, w2, hrun, by rw [List.length_append, pairsV_app]; exact r.own, r.fr, fun b' hb' => ?_⟩
        obtain ⟨b2, g1, g2⟩ := r.blk
        rw [g1] at hb'; cases hb'; exact g2
  obtain ⟨x, w2, hrun, ho, f2, hx⟩ := app
  refine contL_sem ⟨x, w2, hrun, ?_⟩
  obtain ⟨h3, f3, row2⟩ := hd.clean (x := x) (cl' := s.clean ++ s.kept) f2 ho hx
  have b2 := (wr_row row2).1 x (own_one ho)
  have b3 := (wr_row h3.row).2.1 (.slice none 0 0) rfl
  simp -implicitDefEqProofs only [go_sem, Nat.reduceEqDiff, b2, b3]
  obtain ⟨h4, f4, _⟩ := h3.kept (x := .slice none 0 0) (kp' := []) (Fr.refl _ _) (.nil _ _ _) fun b hb => by cases hb
  refine contL_call Try.pl56 ((trim h4 (by simp; omega)).mono ?_)
  rintro _ w8 ⟨rfl, ⟨vc8, vk8, h8⟩, f8⟩
  simp -implicitDefEqProofs only [go_sem, Nat.reduceEqDiff]
  have z2 : w.heap.size ≤ w2.heap.size := f2.size
  have z8 := f8.size
  have z3 : (refP w2 rb s.room x vk s.hits s.misses s.gone).heap.size = w2.heap.size := refP_size
  have z4 : (refP (refP w2 rb s.room x vk s.hits s.misses s.gone) rb s.room x (.slice none 0 0) s.hits s.misses s.gone).heap.size = w2.heap.size := refP_size.trans refP_size
  have f9 := ((((Fr.refl F w).drew).trans f3).trans' f4 fun b hb h' => by
      rcases h' with h' | h'
      · exact h'
      · have := h'.1; rw [drew_heap] at this; omega).trans' f8 fun b hb h' => by
      rcases h' with (h' | h') | h'
      · exact h'
      · have := h'.1; rw [drew_heap] at this; omega
      · have := h'.1; omega
  refine ⟨⟨vc8, vk8, h8.mono (fun b hb => ?_) (grown_lt h.lt f9.size)⟩, f9⟩
  rcases hb with ((hb | hb) | hb) | hb
  · exact .inl hb
  · have h1 := hb.1; have h2 := hb.2
    rw [drew_heap] at h1
    exact .inr ⟨h1, by omega⟩
  · exact .inr ⟨by have := hb.1; omega, by have := hb.2; omega⟩
  · exact .inr ⟨by have := hb.1; omega, hb.2⟩
/-- append of an int -/
theorem app_int {w : World} {v : Value} {n : Nat} {cs : List Value} (hv : OwnO w 3 1 v n cs) (k : Int) (hn : n < 8796093022000) :
    ∃ v' w', (Builtin.append_ #[29, 29] 0 #[v, .slice (some ⟨w.heap.size, 0, none⟩) 1 1]).run Try.prog (w.alloc (.cells #[.int .i64 k] 3)) = .ok v' w' ∧ AppR w w' 3 1 v v' (n + 1) (cs ++ [.int .i64 k]) [.int .i64 k] :=
  app_new (P := Try.prog) (ts := #[29, 29]) (t := 29) (t' := 29) rfl rfl Try.slc29 Try.int29 Try.und29 Try.sz3 Try.by3 Try.zero3 rfl hv (m := 1) #[.int .i64 k] rfl rfl (by omega) (by omega) (by omega)
def keysR (w0 : World) (rb : Nat) (cl : KV) (m : Nat) (vs : List Value) (w : World) : Prop :=
  ∃ q r x, vs = [ptr (rb, 0), x, .int .i64 ((q.length : Int) - 1)] ∧ m = q.length ∧ cl = q ++ r ∧ OwnO w 3 1 x r.length (keysV r.reverse) ∧ (∀ b, blockOf x = some b → w0.heap.size ≤ b) ∧ Fr (fun _ => False) w0 w
theorem Ref.keys (h : Ref w rb F s) (hs : s.clean.length < 8796093000000) :
    Fn Try.prog 57 #[ptr (rb, 0)] w fun x w' => OwnO w' 3 1 x s.clean.length (keysV s.clean.reverse) ∧ Fr (fun _ => False) w w' ∧ ∀ b, blockOf x = some b → w.heap.size ≤ b := by
  obtain ⟨vc, vk, h⟩ := h
  refine Try.go57 (by simp) ?_
  obtain ⟨_, a1, _⟩ := h.rd
  obtain ⟨⟨cb, cc, hvc, hcell⟩, _⟩ := own_pairs h.cl
  subst hvc
  have s0 : IntKind.i64.wrap ((s.clean.length : Int) - 1) = (s.clean.length : Int) - 1 := wrap64_id (by omega) (by omega)
  simp -implicitDefEqProofs only [go_sem, Nat.reduceEqDiff, Try.f57, a1, s0]
  refine loopD [0, 3, 4] (keysR w rb s.clean) s.clean.length ⟨s.clean, [], .slice none 0 0, by simp [upd], rfl, by simp, .nil _ _ _, fun b hb => (by cases hb), Fr.refl _ _⟩ ?_
  rintro m vs w1 g ⟨q, r, x, rfl, rfl, hqr, ho, hxn, f1⟩
  have h1 := h.frame f1 fun _ _ h => h
  obtain ⟨_, a1, _⟩ := h1.rd
  rcases List.eq_nil_or_concat q with rfl | ⟨q', y, hq⟩
  · have d1 : decide ((([] : KV).length : Int) - 1 ≥ 0) = false := by decide
    simp -implicitDefEqProofs only [go_sem, Nat.reduceEqDiff, d1]
    rw [List.nil_append] at hqr
    rw [hqr]
    exact ⟨ho, f1, hxn⟩
  · rw [List.concat_eq_append] at hq
    subst hq
    have hl : s.clean.length = q'.length + 1 + r.length := by rw [hqr]; simp; omega
    have hql : ((q' ++ [y]).length : Int) - 1 = (q'.length : Nat) := by rw [List.length_append, List.length_singleton]; omega
    have d1 : decide (((q'.length : Nat) : Int) ≥ 0) = true := by simp
    have i1 : 0 ≤ (q'.length : Int) := by omega
    have i2 : (q'.length : Int) < (s.clean.length : Int) := by omega
    have hp : s.clean[q'.length]? = some y := by rw [hqr, List.append_assoc]; simp
    obtain ⟨b, o, rfl, e1, e2⟩ := hcell _ _ hp
    have hb := f1.blk b (cv_lt e1) id
    have a6 : rdO Try.prog 3 w1 b (o + q'.length * 2) = some _ := rd_cv Try.agg3 ((cv_blk hb _).trans e1)
    have s1 : IntKind.i64.wrap ((q'.length : Int) - 1) = (q'.length : Int) - 1 := wrap64_id (by omega) (by omega)
    obtain ⟨x', w2, hrun, r2⟩ := app_int ho y.1 (by omega)
    simp only [hql] at *
    simp -implicitDefEqProofs only [go_sem, Nat.reduceEqDiff, d1, a1, i1, i2, and_self, Int.toNat_natCast, a6]
    refine contL_is (v := .slice (some ⟨w1.heap.size, 0, none⟩) 1 1) (w' := w1.alloc (.cells #[.int .i64 y.1] 3)) rfl ?_
    simp -implicitDefEqProofs only [go_sem, Nat.reduceEqDiff]
    refine contL_sem ⟨x', w2, hrun, ?_⟩
    simp -implicitDefEqProofs only [go_sem, Nat.reduceEqDiff, s1]
    refine ⟨q'.length, by simp, q', y :: r, x', rfl, rfl, by rw [hqr]; simp, ?_, fun b' hb' => ?_, f1.trans' r2.fr fun b' hb' h => by have := hxn b' h; omega⟩
    · have e : keysV (y :: r).reverse = keysV r.reverse ++ [.int .i64 y.1] := by simp [keysV]
      rw [e]; exact r2.own
    · obtain ⟨b2, g1, g2⟩ := r2.blk
      rw [g1] at hb'; cases hb'
      rcases g2 with g2 | g2
      · exact hxn _ g2
      · have := f1.size; omega
def heldR (w0 : World) (rb : Nat) (kp : KV) (m : Nat) (vs : List Value) (w : World) : Prop :=
  ∃ p q x, vs = [ptr (rb, 0), x, .int .i64 (p.length : Nat)] ∧ m = q.length ∧ kp = p ++ q ∧ OwnO w 3 1 x p.length (keysV p) ∧ (∀ b, blockOf x = some b → w0.heap.size ≤ b) ∧ Fr (fun _ => False) w0 w
theorem Ref.held (h : Ref w rb F s) (hs : s.kept.length < 8796093000000) :
    Fn Try.prog 58 #[ptr (rb, 0)] w fun x w' => OwnO w' 3 1 x s.kept.length (keysV s.kept) ∧ Fr (fun _ => False) w w' ∧ ∀ b, blockOf x = some b → w.heap.size ≤ b := by
  obtain ⟨vc, vk, h⟩ := h
  refine Try.go58 (by simp) ?_
  obtain ⟨⟨cb, cc, hvc, hcell⟩, _⟩ := own_pairs h.kp
  subst hvc
  simp -implicitDefEqProofs only [go_sem, Nat.reduceEqDiff, Try.f58]
  refine loopD [0, 3, 4] (heldR w rb s.kept) s.kept.length ⟨[], s.kept, .slice none 0 0, by simp [upd], rfl, by simp, .nil _ _ _, fun b hb => (by cases hb), Fr.refl _ _⟩ ?_
  rintro m vs w1 g ⟨p, q, x, rfl, rfl, hpq, ho, hxn, f1⟩
  have h1 := h.frame f1 fun _ _ h => h
  obtain ⟨_, _, a1, _⟩ := h1.rd
  cases q with
  | nil =>
    rw [List.append_nil] at hpq
    have d1 : decide ((p.length : Int) < (s.kept.length : Int)) = false := by rw [hpq]; simp
    simp -implicitDefEqProofs only [go_sem, Nat.reduceEqDiff, a1, d1]
    rw [hpq]
    exact ⟨ho, f1, hxn⟩
  | cons y q =>
    have hl : s.kept.length = p.length + (q.length + 1) := by rw [hpq]; simp
    have d1 : decide ((p.length : Int) < (s.kept.length : Int)) = true := by simp; omega
    have i1 : 0 ≤ (p.length : Int) := by omega
    have i2 : (p.length : Int) < (s.kept.length : Int) := by omega
    have hp : s.kept[p.length]? = some y := by rw [hpq]; simp
    obtain ⟨b, o, rfl, e1, e2⟩ := hcell _ _ hp
    have hb := f1.blk b (cv_lt e1) id
    have a6 : rdO Try.prog 3 w1 b (o + p.length * 2) = some _ := rd_cv Try.agg3 ((cv_blk hb _).trans e1)
    have s1 : IntKind.i64.wrap ((p.length : Int) + 1) = ((p.length + 1 : Nat) : Int) := by rw [wrap64_id (by omega) (by omega)]; rfl
    obtain ⟨x', w2, hrun, r2⟩ := app_int ho y.1 (by omega)
    simp -implicitDefEqProofs only [go_sem, Nat.reduceEqDiff, d1, a1, i1, i2, and_self, Int.toNat_natCast, a6, decide_true]
    refine contL_is (v := .slice (some ⟨w1.heap.size, 0, none⟩) 1 1) (w' := w1.alloc (.cells #[.int .i64 y.1] 3)) rfl ?_
    simp -implicitDefEqProofs only [go_sem, Nat.reduceEqDiff]
    refine contL_sem ⟨x', w2, hrun, ?_⟩
    simp -implicitDefEqProofs only [go_sem, Nat.reduceEqDiff, s1]
    refine ⟨q.length, by simp, p ++ [y], q, x', by simp, rfl, by rw [hpq]; simp, ?_, fun b' hb' => ?_, f1.trans' r2.fr fun b' hb' h => by have := hxn b' h; omega⟩
    · have e : keysV (p ++ [y]) = keysV p ++ [.int .i64 y.1] := by simp [keysV]
      rw [e, List.length_append]; exact r2.own
    · obtain ⟨b2, g1, g2⟩ := r2.blk
      rw [g1] at hb'; cases hb'
      rcases g2 with g2 | g2
      · exact hxn _ g2
      · have := f1.size; omega
end
end R
end Go.V
