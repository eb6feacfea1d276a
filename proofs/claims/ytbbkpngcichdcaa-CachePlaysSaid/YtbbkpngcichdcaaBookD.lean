/-
  'keep': a list that was looked at is marked.
-/
import Derived.Test.YtbbkpngcichdcaaBookB
namespace Go.V
open Go.Proofs
set_option maxRecDepth 100000
namespace B
open I (KV St)
abbrev mV (m : Int) : Value := .int .i64 m
def QB (w2 : World) (l : Value) (b : Nat) : Prop := blockOf l = some b ∨ w2.heap.size ≤ b
theorem own_all {w : World} {Q : Nat → Prop} {v : Value} {n : Nat} {m : Int} (h : OwnO w 3 1 v n (List.replicate n (mV m))) (hq : ∀ b, blockOf v = some b → Q b) (hn : n < 9223372036854775000) : AllM w Q v m := by
  obtain ⟨base, cap, rfl⟩ := h.slice
  refine ⟨base, n, cap, rfl, hn, fun i hi => ?_⟩
  obtain ⟨b, o, cap', e1, e2⟩ := h.at (i := i) (by omega)
  simp only [Value.slice.injEq, true_and] at e1
  obtain ⟨rfl, rfl⟩ := e1
  refine ⟨b, o, rfl, hq b rfl, e2.trans ?_⟩
  rw [List.getElem?_replicate, if_pos hi]
theorem app_mark {w2 w : World} {l v : Value} {m : Int} {n : Nat} (k : Nat) (hf : Fr (fun b => blockOf l = some b) w2 w) (hv : OwnO w 3 1 v n (List.replicate n (mV m))) (hq : ∀ b, blockOf v = some b → QB w2 l b) (hk : 0 < k) (hn : n + k < 8796093022000) :
    ∃ v' w', (Builtin.append_ #[29, 29] 0 #[v, .slice (some ⟨w.heap.size, 0, none⟩) k k]).run Try.prog (w.alloc (.cells (List.replicate k (mV m)).toArray 3)) = .ok v' w' ∧ OwnO w' 3 1 v' (n + k) (List.replicate (n + k) (mV m)) ∧ (∀ b, blockOf v' = some b → QB w2 l b) ∧
      Fr (fun b => blockOf l = some b) w2 w' ∧ (∀ x, AllM w (QB w2 l) x m → AllM w' (QB w2 l) x m) ∧ (∀ x nx, OwnO w 3 1 x nx (List.replicate nx (mV m)) → OwnO w' 3 1 x nx (List.replicate nx (mV m))) := by
  obtain ⟨v', w', h, r⟩ := app_new (P := Try.prog) (ts := #[29, 29]) (t := 29) (t' := 29) rfl rfl Try.slc29 Try.int29 Try.und29 Try.sz3 Try.by3 Try.zero3 rfl hv (m := k) (List.replicate k (mV m)).toArray (by simp) (by simp [one]) (by omega) (by omega) hk
  refine ⟨v', w', h, ?_, fun b hb => ?_, hf.trans' r.fr fun b hb h => ?_, fun x hx => hx.stay (fun _ _ h => h) fun b o _ hc => ?_, fun x nx hx => ?_⟩
  · have := r.own
    rw [List.toList_toArray, List.replicate_append_replicate] at this; exact this
  · obtain ⟨b', e1, e2⟩ := r.blk
    rw [e1] at hb; cases hb
    rcases e2 with e2 | e2
    · exact hq _ e2
    · exact .inr (by have := hf.size; omega)
  · rcases hq b h with h | h
    · exact h
    · omega
  · rcases r.cell b o _ hc with h | ⟨y, hy, h⟩
    · exact h
    · simp only [List.toList_toArray, List.mem_replicate] at hy
      rw [h, hy.2]
  · have := r.stay (y := mV m) (sx := 1) (nx := nx) (by rw [Nat.mul_one]; exact hx) fun u hu => by
      simp only [List.toList_toArray, List.mem_replicate] at hu; exact hu.2
    rw [Nat.mul_one] at this; exact this
structure Step (wb j : Nat) (own own' : Own) (w w' : World) : Prop where
  fr : Fr (fun b => bookB (own b) ∨ own b = (11, j)) w w'
  keep : ∀ b, b < w.heap.size → ¬ bookB (own b) → own b ≠ (11, j) → own' b = own b
  c0 : cv w' wb 0 = cv w wb 0
  c1 : cv w' wb 1 = cv w wb 1
theorem fill_set (cells : List Value) (i : Nat) (x : Value) (h : i < cells.length) : (List.replicate i x ++ cells.drop i).set i x = List.replicate (i + 1) x ++ cells.drop (i + 1) := by
  rw [List.set_append_right _ _ (by simp), List.length_replicate, Nat.sub_self, List.drop_eq_getElem_cons h, List.set_cons_zero, List.replicate_succ', List.append_assoc]; rfl
def fillI (w0 : World) (wb : Nat) (l : Value) (n : Nat) (cells : List Value) (mk : Int) (m : Nat) (vs : List Value) (w : World) : Prop :=
  ∃ i, vs = [ptr (wb, 2), l, .int .i64 mk, .int .i64 (i : Nat)] ∧ m = n - i ∧ i ≤ n ∧ OwnO w 3 1 l n (List.replicate i (mV mk) ++ cells.drop i) ∧ Fr (fun b => blockOf l = some b) w0 w
def moreI (w2 : World) (wb : Nat) (l g1 g2 : Value) (n : Nat) (mk : Int) (m : Nat) (vs : List Value) (w : World) : Prop :=
  ∃ (i : Nat) (g3 : Value), vs = [ptr (wb, 2), l, .int .i64 mk, g1, g2, g3, .int .i64 (i : Nat)] ∧ m = 300 - i ∧ i ≤ 300 ∧ OwnO w 3 1 g3 (n + i) (List.replicate (n + i) (mV mk)) ∧ (∀ b, blockOf g3 = some b → QB w2 l b) ∧
    Fr (fun b => blockOf l = some b) w2 w ∧ AllM w (QB w2 l) l mk ∧ AllM w (QB w2 l) g1 mk ∧ AllM w (QB w2 l) g2 mk
theorem tf_b : (true == false) = false := rfl
theorem ft_b : (false == true) = false := rfl
theorem und38 : (Try.prog.underlying 38).isSome = true := by kernel_rfl
theorem by79 : byO Try.prog 79 = some 104 := by kernel_rfl
theorem bld77 (b0 b1 b2 b3 : Option Addr) (n0 n1 n2 n3 c0 c1 c2 c3 : Nat) : bldO Try.prog 77 [(0, .slice b0 n0 c0), (1, .slice b1 n1 c1), (2, .slice b2 n2 c2), (3, .slice b3 n3 c3)] = some (.agg #[.slice b0 n0 c0, .slice b1 n1 c1, .slice b2 n2 c2, .slice b3 n3 c3]) := by
  unfold bldO; rw [Try.zero77, Try.places77, Try.arr77]; simp only [Option.bind_some, Try.sz29]; rfl
theorem bld79 (b0 b1 b2 b3 : Option Addr) (n0 n1 n2 n3 c0 c1 c2 c3 : Nat) (m : Int) : bldO Try.prog 79 [(0, .agg #[.slice b0 n0 c0, .slice b1 n1 c1, .slice b2 n2 c2, .slice b3 n3 c3]), (1, .int .i64 m)] = some (.agg #[.slice b0 n0 c0, .slice b1 n1 c1, .slice b2 n2 c2, .slice b3 n3 c3, .int .i64 m]) := by
  unfold bldO; rw [Try.zero79, Try.places79]; rfl
def keepI (w0 : World) (wb : Nat) (own : Own) (vc vu : Value) (cl cu : List Value) (cs : List Calm) (id0 : Nat) (m : Nat) (vs : List Value) (w : World) : Prop :=
  ∃ vg g gs, vs = [ptr (wb, 2)] ∧ m = gs.length ∧ BookAt w wb own vg vc vu (g :: gs) cl cu cs id0 ∧ Fr (fun b => b = wb) w0 w ∧ ∀ o, o < 2 → cv w wb o = cv w0 wb o
def ownK (own : Own) (j a c : Nat) : Own := fun b => if b < a then (if own b = (11, j) then (10, 0) else own b) else if b < c then (10, 0) else (5, 0)
section
variable {w : World} {wb j : Nat} {own : Own} {vg vc vu : Value} {gs : List Grp} {cl cu : List Value} {cs : List Calm} {id0 : Nat}
set_option maxHeartbeats 4000000 in
theorem BookAt.keep (h : BookAt w wb own vg vc vu gs cl cu cs id0) {l : Value} {n : Nat} {cells : List Value} (hl : OwnO w 3 1 l n cells) (hb : ∀ b, blockOf l = some b → own b = (11, j)) (hn : n < 8796093000000) (hg : gs.length ≤ 64) :
    Fn Try.prog 60 #[ptr (wb, 2), l] w fun x w' => x = .tuple #[] ∧ ∃ own' vg' gs', BookAt w' wb own' vg' vc vu gs' cl cu cs id0 ∧ gs'.length ≤ 64 ∧ Step wb j own own' w w' := by
  refine Try.go60 (by simp) ?_
  obtain ⟨nx, hnx⟩ := h.c4
  have a1 : rdO Try.prog 3 w wb 4 = some _ := rd_cv Try.agg3 hnx
  have a2 := wr_cv (P := Try.prog) (t := 3) (v := .int .i64 (IntKind.i64.wrap (nx + 1))) Try.sz3 rfl hnx
  have h1 := h.seti (o := 4) (by omega) (IntKind.i64.wrap (nx + 1))
  have hbw : ∀ b, blockOf l = some b → b ≠ wb := fun b hb' e => by have := hb b hb'; rw [e, h.row] at this; cases this
  have hl1 : OwnO (setc w wb 4 (.int .i64 (IntKind.i64.wrap (nx + 1)))) 3 1 l n cells := hl.frame fun b hb' => setc_blk _ (hbw b hb')
  have fr1 : Fr (fun b => b = wb) w (setc w wb 4 (.int .i64 (IntKind.i64.wrap (nx + 1)))) := (Fr.refl _ _).setc _ _ fun _ => rfl
  have cz1 : ∀ o, o < 2 → cv (setc w wb 4 (.int .i64 (IntKind.i64.wrap (nx + 1)))) wb o = cv w wb o := fun o ho => by rw [cv_setc _ hnx, if_neg (by omega)]
  simp -implicitDefEqProofs only [go_sem, Nat.reduceEqDiff, Try.f60, a1, a2]
  generalize setc w wb 4 (.int .i64 (IntKind.i64.wrap (nx + 1))) = w1 at *
  generalize IntKind.i64.wrap (-1000 - nx) = mk
  have hcl := hl.len
  refine loopD [0, 1, 4, 5] (fillI w1 wb l n cells mk) n ⟨0, by simp [upd], by omega, by omega, by simpa using hl1, Fr.refl _ _⟩ ?_
  rintro m vs w2 g0 ⟨i, rfl, rfl, hi, hl2, f2⟩
  obtain ⟨lb, lc, hls⟩ := hl.slice
  by_cases hlt : i < n
  · have d1 : decide ((i : Int) < (n : Int)) = true := by simp; omega
    have i1 : 0 ≤ (i : Int) := by omega
    have i2 : (i : Int) < (n : Int) := by omega
    have s1 : IntKind.i64.wrap ((i : Int) + 1) = ((i + 1 : Nat) : Int) := by rw [wrap64_id (by omega) (by omega)]; rfl
    obtain ⟨b, o, cap, e1, ho⟩ := hl2.setc (i := i) (by omega) (mV mk)
    obtain ⟨b', o', cap', e2, e3⟩ := hl2.at (i := i) (by omega)
    rw [fill_set _ _ _ (by omega)] at ho
    rw [e1] at e2
    simp only [Value.slice.injEq, Option.some.injEq, Addr.mk.injEq, and_true, true_and] at e2
    obtain ⟨⟨rfl, rfl⟩, rfl⟩ := e2
    obtain ⟨y, hy⟩ : ∃ y, (List.replicate i (mV mk) ++ cells.drop i)[i]? = some y := by
      rw [List.getElem?_append_right (by simp), List.length_replicate, Nat.sub_self, List.getElem?_drop, Nat.add_zero]
      exact ⟨_, List.getElem?_eq_getElem (by omega)⟩
    rw [hy] at e3
    have a3 := wr_cv (P := Try.prog) (t := 3) (v := mV mk) Try.sz3 rfl e3
    subst e1
    simp -implicitDefEqProofs only [go_sem, Nat.reduceEqDiff, d1, i1, i2, and_self, Int.toNat_natCast, Nat.mul_one, a3, s1]
    exact ⟨n - (i + 1), by omega, i + 1, rfl, rfl, by omega, ho, f2.setc _ _ fun _ => rfl⟩
  · have d1 : decide ((i : Int) < (n : Int)) = false := by simp; omega
    have hin : i = n := by omega
    subst hin
    rw [List.drop_of_length_le (by omega), List.append_nil] at hl2
    have q0 : ∀ b, blockOf l = some b → QB w2 l b := fun b hb => .inl hb
    have A0 := own_all (Q := QB w2 l) hl2 q0 (by omega)
    obtain ⟨g1, w3, run1, o1, q1, f3, st1, so1⟩ := app_mark (w2 := w2) 1 (Fr.refl _ _) hl2 q0 (by omega) (by omega)
    subst hls
    simp -implicitDefEqProofs only [go_sem, Nat.reduceEqDiff, d1]
    refine contL_is (v := .slice (some ⟨w2.heap.size, 0, none⟩) 1 1) (w' := w2.alloc (.cells (List.replicate 1 (mV mk)).toArray 3)) rfl ?_
    simp -implicitDefEqProofs only [go_sem, Nat.reduceEqDiff]
    refine contL_sem ⟨g1, w3, run1, ?_⟩
    have A1 := st1 _ A0
    have B1 := own_all (Q := QB w2 _) o1 q1 (by omega)
    have hl3 := so1 _ _ hl2
    obtain ⟨g2, w4, run2, o2, q2, f4, st2, so2⟩ := app_mark (w2 := w2) 2 f3 hl3 q0 (by omega) (by omega)
    simp -implicitDefEqProofs only [go_sem, Nat.reduceEqDiff]
    refine contL_is (v := .slice (some ⟨w3.heap.size, 0, none⟩) 2 2) (w' := w3.alloc (.cells (List.replicate 2 (mV mk)).toArray 3)) rfl ?_
    simp -implicitDefEqProofs only [go_sem, Nat.reduceEqDiff]
    refine contL_sem ⟨g2, w4, run2, ?_⟩
    have A2 := st2 _ A1
    have B2 := st2 _ B1
    have C2 := own_all (Q := QB w2 _) o2 q2 (by omega)
    have hl4 := so2 _ _ hl3
    obtain ⟨g3, w5, run3, o3, q3, f5, st3, so3⟩ := app_mark (w2 := w2) 3 f4 hl4 q0 (by omega) (by omega)
    simp -implicitDefEqProofs only [go_sem, Nat.reduceEqDiff]
    refine contL_is (v := .slice (some ⟨w4.heap.size, 0, none⟩) 3 3) (w' := w4.alloc (.cells (List.replicate 3 (mV mk)).toArray 3)) rfl ?_
    simp -implicitDefEqProofs only [go_sem, Nat.reduceEqDiff]
    refine contL_sem ⟨g3, w5, run3, ?_⟩
    have A3 := st3 _ A2
    have B3 := st3 _ B2
    have C3 := st3 _ C2
    simp -implicitDefEqProofs only [go_sem, Nat.reduceEqDiff]
    refine loopD [0, 1, 4, 6, 7, 8, 9] (moreI w2 wb (.slice lb i lc) g1 g2 (i + 3) mk) 300 ⟨0, g3, by simp [upd], by omega, by omega, o3, q3, f5, A3, B3, C3⟩ ?_
    rintro m vs w6 g4 ⟨k, g3', rfl, rfl, hk, o6, q6, f6, A6, B6, C6⟩
    by_cases hlk : k < 300
    · have d2 : decide ((k : Int) < 300) = true := by simp; omega
      have s1 : IntKind.i64.wrap ((k : Int) + 1) = ((k + 1 : Nat) : Int) := by rw [wrap64_id (by omega) (by omega)]; rfl
      obtain ⟨g3x, w7, run4, o7, q7, f7, st4, so4⟩ := app_mark (w2 := w2) 1 f6 o6 q6 (by omega) (by omega)
      simp -implicitDefEqProofs only [go_sem, Nat.reduceEqDiff, d2]
      refine contL_is (v := .slice (some ⟨w6.heap.size, 0, none⟩) 1 1) (w' := w6.alloc (.cells (List.replicate 1 (mV mk)).toArray 3)) rfl ?_
      simp -implicitDefEqProofs only [go_sem, Nat.reduceEqDiff]
      refine contL_sem ⟨g3x, w7, run4, ?_⟩
      simp -implicitDefEqProofs only [go_sem, Nat.reduceEqDiff, s1]
      exact ⟨300 - (k + 1), by omega, k + 1, g3x, rfl, rfl, by omega, o7, q7, f7, st4 _ A6, st4 _ B6, st4 _ C6⟩
    · have d2 : decide ((k : Int) < 300) = false := by simp; omega
      have D6 := own_all (Q := QB w2 _) o6 q6 (by omega)
      simp -implicitDefEqProofs only [go_sem, Nat.reduceEqDiff, d2]
      have h2 := h1.frame (own' := own) (fun _ _ _ => rfl) f2 fun b hb' hB => by
        rw [hb b hb'] at hB; rcases hB with hB | hB
        · cases hB
        · omega
      have hz := f6.size
      have h6 : BookAt w6 wb (ownK own j w2.heap.size w6.heap.size) vg vc vu gs cl cu cs id0 := h2.frame (fun b hb1 hB => by
        unfold ownK
        rw [if_pos hb1, if_neg]
        intro e; rw [e] at hB; rcases hB with hB | hB
        · cases hB
        · omega) f6 fun b hb' hB => by
        rw [hb b hb'] at hB; rcases hB with hB | hB
        · cases hB
        · omega
      have toOwn : ∀ x, AllM w6 (QB w2 (.slice lb i lc)) x mk → AllM w6 (fun b => ownK own j w2.heap.size w6.heap.size b = (10, 0)) x mk := fun x hx => hx.stay (fun b hb1 hq => by
        unfold ownK
        rcases hq with hq | hq
        · rw [if_pos (hl2.lt hq), if_pos (hb b hq)]
        · rw [if_neg (by omega), if_pos hb1]) fun _ _ _ h => h
      have A7 := toOwn _ A6
      have B7 := toOwn _ B6
      have C7 := toOwn _ C6
      have D7 := toOwn _ D6
      obtain ⟨g1b, g1c, rfl⟩ := o1.slice
      obtain ⟨g2b, g2c, rfl⟩ := o2.slice
      obtain ⟨g3b, g3c, rfl⟩ := o6.slice
      have k77 := bld77 lb g1b g2b g3b i (i + 1) (i + 2) (i + 3 + k) lc g1c g2c g3c
      have k79 := bld79 lb g1b g2b g3b i (i + 1) (i + 2) (i + 3 + k) lc g1c g2c g3c mk
      have r6 : rdO Try.prog 38 w6 wb 2 = some _ := rd_cv Try.agg38 h6.c2
      obtain ⟨vg', w7, run5, r7⟩ := app_new (P := Try.prog) (ts := #[38, 38]) (t := 38) (t' := 38) rfl rfl Try.slc38 Try.int38 und38 Try.sz79 by79 Try.zero79 rfl h6.og (m := 1) #[.slice lb i lc, .slice g1b (i + 1) g1c, .slice g2b (i + 2) g2c, .slice g3b (i + 3 + k) g3c, .int .i64 mk] rfl rfl (by omega) (by omega) (by omega)
      obtain ⟨h8, c27, f8⟩ := h6.addg (g := ([.slice lb i lc, .slice g1b (i + 1) g1c, .slice g2b (i + 2) g2c, .slice g3b (i + 3 + k) g3c], mk)) rfl (fun v hv => by
        simp only [List.mem_cons, List.not_mem_nil, or_false] at hv
        rcases hv with rfl | rfl | rfl | rfl
        · exact A7
        · exact B7
        · exact C7
        · exact D7) r7 (fun b hb1 => by unfold ownK; rw [if_neg (by omega), if_neg (by omega)]) hg
      have w8 := wr_cv (P := Try.prog) (t := 38) Try.sz38 (one_own r7.own) c27
      simp -implicitDefEqProofs only [go_sem, Nat.reduceEqDiff, k77, k79, r6]
      refine contL_is (v := .slice (some ⟨w6.heap.size, 0, none⟩) 1 1) (w' := w6.alloc (.cells #[.slice lb i lc, .slice g1b (i + 1) g1c, .slice g2b (i + 2) g2c, .slice g3b (i + 3 + k) g3c, .int .i64 mk] 79)) rfl ?_
      simp -implicitDefEqProofs only [go_sem, Nat.reduceEqDiff]
      refine contL_sem ⟨vg', w7, run5, ?_⟩
      simp -implicitDefEqProofs only [go_sem, Nat.reduceEqDiff, w8]
      have cz8 : ∀ o, o < 2 → cv (setc w7 wb 2 vg') wb o = cv w wb o := fun o ho => by
        rw [cv_setc _ c27, if_neg (by omega), r7.fr.cv h6.wlt (fun e => by have := h6.bg _ e; rw [h6.row] at this; cases this), f6.cv h2.wlt (fun e => hbw _ e rfl), f2.cv h1.wlt (fun e => hbw _ e rfl), cz1 o ho]
      have fr8 : Fr (fun b => own b = (0, 0) ∨ own b = (5, 0) ∨ own b = (11, j)) w (setc w7 wb 2 vg') := by
        have g0 : Fr (fun b => own b = (0, 0) ∨ own b = (5, 0) ∨ own b = (11, j)) w w6 := ((fr1.mono fun b _ e => .inl (by rw [e]; exact h.row)).trans' f2 fun b _ e => .inr (.inr (hb b e))).trans' f6 fun b _ e => .inr (.inr (hb b e))
        refine g0.trans' f8 fun b hb1 hh => ?_
        have hlt2 : b < w2.heap.size := Nat.lt_of_lt_of_le hb1 (Nat.le_trans fr1.size f2.size)
        unfold ownK at hh
        rw [if_pos hlt2] at hh
        split at hh
        · rcases hh with hh | hh <;> cases hh
        · rcases hh with hh | hh
          · exact .inl hh
          · exact .inr (.inl hh)
      have hlen8 : (gs ++ [(([.slice lb i lc, .slice g1b (i + 1) g1c, .slice g2b (i + 2) g2c, .slice g3b (i + 3 + k) g3c], mk) : Grp)]).length ≤ 65 := h8.lg
      have keepO : ∀ b, b < w.heap.size → ¬ bookB (own b) → own b ≠ (11, j) → ownK own j w2.heap.size w6.heap.size b = own b := fun b hb1 _ hne => by
        have hlt2 : b < w2.heap.size := Nat.lt_of_lt_of_le hb1 (Nat.le_trans fr1.size f2.size)
        unfold ownK
        rw [if_pos hlt2, if_neg hne]
      obtain ⟨g0', gt, hgt⟩ : ∃ g0' gt, gs ++ [(([.slice lb i lc, .slice g1b (i + 1) g1c, .slice g2b (i + 2) g2c, .slice g3b (i + 3 + k) g3c], mk) : Grp)] = g0' :: gt := by
        cases gs with
        | nil => exact ⟨_, _, rfl⟩
        | cons x y => exact ⟨x, _, rfl⟩
      rw [hgt] at h8
      have hown0 : ∀ b, b < w.heap.size → ownK own j w2.heap.size w6.heap.size b = (0, 0) → own b = (0, 0) := fun b hb1 hh => by
        have hlt2 : b < w2.heap.size := Nat.lt_of_lt_of_le hb1 (Nat.le_trans fr1.size f2.size)
        unfold ownK at hh
        rw [if_pos hlt2] at hh
        split at hh
        · cases hh
        · exact hh
      generalize setc w7 wb 2 vg' = w8' at *
      generalize ownK own j w2.heap.size w6.heap.size = own' at *
      clear A0 A6 B6 C6 D6 A7 B7 C7 D7 k77 k79 r6 run5 run1 run2 run3 o1 o2 o3 o6 q0 q1 q2 q3 q6 st1 st2 st3 so1 so2 so3 A1 A2 A3 B1 B2 B3 C2 C3 hl2 hl3 hl4 h2 h6 f3 f4 f5 f6 f8 r7 c27 w8 toOwn hz hl1 h1 f2 hgt hlen8
      obtain ⟨z3, hz3⟩ := h8.c3
      have a8 : rdO Try.prog 3 w8' wb 3 = some _ := rd_cv Try.agg3 hz3
      have a9 := wr_cv (P := Try.prog) (t := 3) (v := .int .i64 (IntKind.i64.wrap (IntKind.i64.wrap (z3 + IntKind.i64.wrap (4 * (i : Int))) + 306))) Try.sz3 rfl hz3
      have h9 := h8.seti (o := 3) (by omega) (IntKind.i64.wrap (IntKind.i64.wrap (z3 + IntKind.i64.wrap (4 * (i : Int))) + 306))
      have fr9 := fr8.setc (b := wb) 3 (.int .i64 (IntKind.i64.wrap (IntKind.i64.wrap (z3 + IntKind.i64.wrap (4 * (i : Int))) + 306))) fun _ => .inl h.row
      have cz9 : ∀ o, o < 2 → cv (setc w8' wb 3 (.int .i64 (IntKind.i64.wrap (IntKind.i64.wrap (z3 + IntKind.i64.wrap (4 * (i : Int))) + 306)))) wb o = cv w wb o := fun o ho => by rw [cv_setc _ hz3, if_neg (by omega)]; exact cz8 o ho
      simp -implicitDefEqProofs only [go_sem, Nat.reduceEqDiff, a8, a9]
      generalize setc w8' wb 3 (.int .i64 (IntKind.i64.wrap (IntKind.i64.wrap (z3 + IntKind.i64.wrap (4 * (i : Int))) + 306))) = w9 at *
      refine loopD [0] (keepI w9 wb own' vc vu cl cu cs id0) gt.length ⟨vg', g0', gt, by simp [upd], rfl, h9, Fr.refl _ _, fun _ _ => rfl⟩ ?_
      rintro m vs w10 g5 ⟨vg8, g, gs8, rfl, rfl, h10, f10, c10⟩
      have fin : gs8.length + 1 ≤ 64 → ∃ own'_1 vg'_1 gs', BookAt w10 wb own'_1 vg'_1 vc vu gs' cl cu cs id0 ∧ gs'.length ≤ 64 ∧ Step wb j own own'_1 w w10 := fun hle =>
        ⟨own', vg8, g :: gs8, h10, by rw [List.length_cons]; exact hle, ⟨(fr9.trans' f10 fun b _ e => .inl (by rw [e]; exact h.row)).mono fun b _ hh => by
          rcases hh with hh | hh | hh
          · exact .inl (.inl (by rw [hh]))
          · exact .inl (.inr (by rw [hh]; exact ⟨by omega, by omega⟩))
          · exact .inr hh, keepO, (c10 0 (by omega)).trans (cz9 0 (by omega)), (c10 1 (by omega)).trans (cz9 1 (by omega))⟩⟩
      obtain ⟨b8, c8, hv8⟩ := h10.og.slice
      have ra : rdO Try.prog 38 w10 wb 2 = some vg8 := rd_cv Try.agg38 h10.c2
      obtain ⟨z, hz⟩ := h10.c3
      have rz : rdO Try.prog 3 w10 wb 3 = some _ := rd_cv Try.agg3 hz
      subst hv8
      by_cases k1 : gs8.length = 0
      · have d1 : decide (((g :: gs8).length : Int) > 1) = false := by rw [List.length_cons]; simp; omega
        simp -implicitDefEqProofs only [go_sem, Nat.reduceEqDiff, List.getElem?_toArray, List.getElem?_cons_zero, List.getElem?_cons_succ, beq_self_eq_true, bne_self_eq_false, tf_b, ft_b, Bool.false_eq_true, if_false, if_true, ra, d1]
        exact fin (by omega)
      have d1 : decide (((g :: gs8).length : Int) > 1) = true := by rw [List.length_cons]; simp; omega
      by_cases k2 : gs8.length + 1 > 64
      case' pos =>
        have d2 : decide (((g :: gs8).length : Int) > 64) = true := by rw [List.length_cons]; simp; omega
        simp -implicitDefEqProofs only [go_sem, Nat.reduceEqDiff, List.getElem?_toArray, List.getElem?_cons_zero, List.getElem?_cons_succ, beq_self_eq_true, bne_self_eq_false, tf_b, ft_b, Bool.false_eq_true, if_false, if_true, ra, d1, d2]
      case' neg =>
        have d2 : decide (((g :: gs8).length : Int) > 64) = false := by rw [List.length_cons]; simp; omega
        by_cases k3 : z > 1000000
        case' neg =>
          have d3 : decide (z > 1000000) = false := by simp; omega
          simp -implicitDefEqProofs only [go_sem, Nat.reduceEqDiff, List.getElem?_toArray, List.getElem?_cons_zero, List.getElem?_cons_succ, beq_self_eq_true, bne_self_eq_false, tf_b, ft_b, Bool.false_eq_true, if_false, if_true, ra, rz, d1, d2, d3]
          exact fin (by omega)
        case' pos =>
          have d3 : decide (z > 1000000) = true := by simp; omega
          simp -implicitDefEqProofs only [go_sem, Nat.reduceEqDiff, List.getElem?_toArray, List.getElem?_cons_zero, List.getElem?_cons_succ, beq_self_eq_true, bne_self_eq_false, tf_b, ft_b, Bool.false_eq_true, if_false, if_true, ra, rz, d1, d2, d3]
      all_goals
        have h10d : BookAt w10.drew wb own' (.slice b8 (g :: gs8).length c8) vc vu (g :: gs8) cl cu cs id0 := h10.frame (own' := own') (fun _ _ _ => rfl) (G := fun _ => False) ((Fr.refl _ _).drew) fun _ h => h.elim
        obtain ⟨v0, v1, v2, v3, hg4⟩ := four_list (h10d.four g (by simp))
        obtain ⟨vb, vn, vcap, hv0, hvn, _⟩ := h10d.marked g (by simp) v0 (by rw [hg4]; simp)
        obtain ⟨b, o, cap, e1, e2⟩ := h10d.og.at (i := 0) (by rw [List.length_cons]; omega)
        simp only [Value.slice.injEq, true_and] at e1
        obtain ⟨rfl, rfl⟩ := e1
        have e3 : (gcells (g :: gs8))[0]? = some (.slice vb vn vcap) := by
          show (Grp.cells g ++ gcells gs8)[0]? = _
          unfold Grp.cells; rw [hg4, hv0]; rfl
        have r0 : rdO Try.prog 29 w10.drew b o = some _ := rd_cv Try.agg29 (e2.trans e3)
        have rz' : rdO Try.prog 3 w10.drew wb 3 = some _ := rd_cv Try.agg3 hz
        have ra' : rdO Try.prog 38 w10.drew wb 2 = some _ := rd_cv Try.agg38 h10d.c2
        have i0 : (0 : Int) < ((g :: gs8).length : Int) := by rw [List.length_cons]; omega
        have j0 : (0 : Int) < ((4 : Nat) : Int) := by omega
        have wz := wr_cv (P := Try.prog) (t := 3) (w := w10.drew) (v := .int .i64 (IntKind.i64.wrap (IntKind.i64.wrap (z - IntKind.i64.wrap (4 * (vn : Int))) - 306))) Try.sz3 rfl hz
        have h11 := h10d.seti (o := 3) (by omega) (IntKind.i64.wrap (IntKind.i64.wrap (z - IntKind.i64.wrap (4 * (vn : Int))) - 306))
        have f11 := (f10.drew).setc (b := wb) 3 (.int .i64 (IntKind.i64.wrap (IntKind.i64.wrap (z - IntKind.i64.wrap (4 * (vn : Int))) - 306))) fun _ => rfl
        have c11 : ∀ o, o < 2 → cv (setc w10.drew wb 3 (.int .i64 (IntKind.i64.wrap (IntKind.i64.wrap (z - IntKind.i64.wrap (4 * (vn : Int))) - 306)))) wb o = cv w9 wb o := fun o ho => by rw [cv_setc (w := w10.drew) _ hz, if_neg (by omega)]; exact c10 o ho
        simp -implicitDefEqProofs only [go_sem, Nat.reduceEqDiff, Int.le_refl, i0, j0, and_self, Int.reduceToNat, Nat.zero_mul, Nat.add_zero, rz', ra', r0, wz]
        generalize setc w10.drew wb 3 (.int .i64 (IntKind.i64.wrap (IntKind.i64.wrap (z - IntKind.i64.wrap (4 * (vn : Int))) - 306))) = w11 at *
        obtain ⟨vg9, p1, p2, h12⟩ := h11.popg
        have rb : rdO Try.prog 38 w11 wb 2 = some _ := rd_cv Try.agg38 h11.c2
        obtain ⟨g', gs9, rfl⟩ : ∃ g' gs9, gs8 = g' :: gs9 := by
          cases gs8 with
          | nil => simp at k1
          | cons x y => exact ⟨x, y, rfl⟩
        simp -implicitDefEqProofs only [go_sem, Nat.reduceEqDiff, rb, p1, p2]
        exact ⟨gs9.length, by rw [List.length_cons]; omega, vg9, g', gs9, rfl, rfl, h12, f11.setc _ _ fun _ => rfl, fun o ho => by rw [cv_setc _ h11.c2, if_neg (by omega)]; exact c11 o ho⟩
end
end B
end Go.V
