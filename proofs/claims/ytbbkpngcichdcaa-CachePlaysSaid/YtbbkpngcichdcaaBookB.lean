/-
  'stands': each marked list holds its mark alone.
-/
import Derived.Test.YtbbkpngcichdcaaBookA
namespace Go.V
open Go.Proofs
set_option maxRecDepth 100000
namespace B
open I (KV St)
def standA (w0 : World) (wb n : Nat) (m : Nat) (vs : List Value) (w : World) : Prop :=
  ∃ i, vs = [ptr (wb, 2), .int .i64 (i : Nat)] ∧ m = n - i ∧ i ≤ n ∧ Fr (fun _ => False) w0 w
def standK (w0 : World) (wb i tb : Nat) (g : Grp) (m : Nat) (vs : List Value) (w : World) : Prop :=
  ∃ k, vs = [ptr (wb, 2), .int .i64 (i : Nat), ptr (tb, 0), .int .i64 (k : Nat)] ∧ m = 4 - k ∧ k ≤ 4 ∧ w.heap[tb]? = some (.cells (Grp.cells g).toArray 79) ∧ Fr (fun _ => False) w0 w
def standJ (w0 : World) (wb i tb k n : Nat) (g : Grp) (m : Nat) (vs : List Value) (w : World) : Prop :=
  ∃ j, vs = [ptr (wb, 2), .int .i64 (i : Nat), ptr (tb, 0), .int .i64 (k : Nat), .int .i64 (j : Nat)] ∧ m = n - j ∧ j ≤ n ∧ w.heap[tb]? = some (.cells (Grp.cells g).toArray 79) ∧ Fr (fun _ => False) w0 w
theorem four_list {l : List Value} (h : l.length = 4) : ∃ a b c d, l = [a, b, c, d] := by
  match l, h with
  | [a, b, c, d], _ => exact ⟨a, b, c, d, rfl⟩
theorem Book.stands {w : World} {wb : Nat} {own : Own} (h : Book w wb own) :
    Fn Try.prog 16 #[ptr (wb, 2)] w fun x w' => x = .bool true ∧ Fr (fun _ => False) w w' := by
  obtain ⟨vg, vc, vu, gs, cs, id0, h, _, _⟩ := h
  refine Try.go16 (by simp) ?_
  have a1 : rdO Try.prog 38 w wb 2 = some vg := rd_cv Try.agg38 h.c2
  obtain ⟨gb, gc, rfl⟩ := h.og.slice
  simp -implicitDefEqProofs only [go_sem, Nat.reduceEqDiff, Try.f16]
  refine loopD [0, 3] (standA w wb gs.length) gs.length ⟨0, by simp [upd], by omega, by omega, Fr.refl _ _⟩ ?_
  rintro m vs w1 g0 ⟨i, rfl, rfl, hi, f1⟩
  have h1 := h.frame (own' := own) (fun _ _ _ => rfl) f1 fun _ h => h.elim
  have a1 : rdO Try.prog 38 w1 wb 2 = some _ := rd_cv Try.agg38 h1.c2
  by_cases hlt : i < gs.length
  · have d1 : decide ((i : Int) < (gs.length : Int)) = true := by simp; omega
    have i1 : 0 ≤ (i : Int) := by omega
    have i2 : (i : Int) < (gs.length : Int) := by omega
    have hg : gs[i]? = some gs[i] := List.getElem?_eq_getElem hlt
    have hgm : gs[i] ∈ gs := List.getElem_mem hlt
    have h4 := h1.four _ hgm
    have hmk := h1.marked _ hgm
    have hget := fun j hj => gcells_get gs i j _ h1.four hg hj
    generalize gs[i] = g at *
    obtain ⟨b, o, cap, e0, _⟩ := h1.og.at (i := i * 5) (by omega)
    simp only [Value.slice.injEq, true_and] at e0
    obtain ⟨rfl, rfl⟩ := e0
    have gl : (Grp.cells g).length = 5 := by simp [Grp.cells, h4]
    have a2 : rdO Try.prog 79 w1 b (o + i * 5) = some (.agg (Grp.cells g).toArray) := rd_agg Try.agg79 Try.sz79 (by simp [gl]) (by omega) fun j hj => by
      obtain ⟨b', o', cap', e1, e2⟩ := h1.og.at (i := i * 5 + j) (by omega)
      simp only [Value.slice.injEq, Option.some.injEq, Addr.mk.injEq, and_true, true_and] at e1
      obtain ⟨⟨rfl, rfl⟩, rfl⟩ := e1
      rw [Nat.add_assoc, e2, hget j hj, List.getElem?_toArray]
    have hn := alloc_blk_new w1 (.cells #[.slice none 0 0, .slice none 0 0, .slice none 0 0, .slice none 0 0, .int .i64 0] 79)
    have gone : (Grp.cells g).toArray.all one = true := by
      rw [← Array.all_toList]
      refine List.all_eq_true.2 fun v hv => ?_
      simp only [Grp.cells, List.toList_toArray, List.mem_append, List.mem_singleton] at hv
      rcases hv with hv | rfl
      · obtain ⟨_, _, _, rfl, _⟩ := hmk v hv; rfl
      · rfl
    have a3 := wr_all (P := Try.prog) (t := 79) (vs := (Grp.cells g).toArray) (by rw [List.size_toArray, gl]; exact Try.sz79) hn (by simp [gl]) gone
    have f2 : Fr (fun _ => False) w (put (w1.alloc (.cells #[.slice none 0 0, .slice none 0 0, .slice none 0 0, .slice none 0 0, .int .i64 0] 79)) w1.heap.size (.cells (Grp.cells g).toArray 79 (0, 0))) :=
      (f1.alloc _).put (b := w1.heap.size) _ fun hb => by have := f1.size; omega
    have f12 : Fr (fun _ => False) w1 (put (w1.alloc (.cells #[.slice none 0 0, .slice none 0 0, .slice none 0 0, .slice none 0 0, .int .i64 0] 79)) w1.heap.size (.cells (Grp.cells g).toArray 79 (0, 0))) :=
      ((Fr.refl _ w1).alloc _).put (b := w1.heap.size) _ fun hb => absurd hb (Nat.lt_irrefl _)
    simp -implicitDefEqProofs only [go_sem, Nat.reduceEqDiff, a1, d1, i1, i2, and_self, Int.toNat_natCast, a2, a3]
    have k2 : (put (w1.alloc (.cells #[.slice none 0 0, .slice none 0 0, .slice none 0 0, .slice none 0 0, .int .i64 0] 79)) w1.heap.size (.cells (Grp.cells g).toArray 79 (0, 0))).heap[w1.heap.size]? = some (.cells (Grp.cells g).toArray 79) := blk_put_same _ (heap_lt hn)
    generalize put (w1.alloc (.cells #[.slice none 0 0, .slice none 0 0, .slice none 0 0, .slice none 0 0, .int .i64 0] 79)) w1.heap.size (.cells (Grp.cells g).toArray 79 (0, 0)) = w2 at *
    refine loopD [0, 3, 4, 5] (standK w2 wb i w1.heap.size g) 4 ⟨0, by simp [upd], by omega, by omega, k2, Fr.refl _ _⟩ ?_
    rintro m vs w3 g1 ⟨k, rfl, rfl, hk, k3, f3⟩
    by_cases hlk : k < 4
    · have d2 : decide ((k : Int) < 4) = true := by simp; omega
      have j1 : 0 ≤ (k : Int) := by omega
      have j2 : (k : Int) < ((4 : Nat) : Int) := by omega
      have hv : g.1[k]? = some g.1[k] := List.getElem?_eq_getElem (by omega)
      obtain ⟨base, len, cap, ev, hlen, hall⟩ := hmk _ (List.getElem_mem (h := by omega) : g.1[k] ∈ g.1)
      rw [ev] at hv
      have rdv : ∀ {w4}, w4.heap[w1.heap.size]? = some (.cells (Grp.cells g).toArray 79) → rdO Try.prog 29 w4 w1.heap.size k = some (.slice base len cap) := fun {w4} hh => rd_cv Try.agg29 (by
        rw [cv_of_row hh, List.getElem?_toArray]
        unfold Grp.cells
        rw [List.getElem?_append_left (by omega)]; exact hv)
      have rdm : ∀ {w4}, w4.heap[w1.heap.size]? = some (.cells (Grp.cells g).toArray 79) → rdO Try.prog 3 w4 w1.heap.size 4 = some (.int .i64 g.2) := fun {w4} hh => rd_cv Try.agg3 (by
        rw [cv_of_row hh, List.getElem?_toArray]
        unfold Grp.cells
        rw [List.getElem?_append_right (by omega), h4]; rfl)
      simp -implicitDefEqProofs only [go_sem, Nat.reduceEqDiff, d2]
      refine loopD [0, 3, 4, 5, 6] (standJ w2 wb i w1.heap.size k len g) len ⟨0, by simp [upd], by omega, by omega, k3, f3⟩ ?_
      rintro m vs w4 g2 ⟨j, rfl, rfl, hj, k4, f4⟩
      have r1 := rdv k4
      by_cases hlj : j < len
      · have d3 : decide ((j : Int) < (len : Int)) = true := by simp; omega
        have l1 : 0 ≤ (j : Int) := by omega
        have l2 : (j : Int) < (len : Int) := by omega
        obtain ⟨vb, vo, rfl, _, e5⟩ := hall j hlj
        have r1' : rdO Try.prog 29 w4.drew w1.heap.size k = some _ := rdv k4
        have r2 : rdO Try.prog 3 w4.drew w1.heap.size 4 = some _ := rdm k4
        have r3 : rdO Try.prog 3 w4.drew vb (vo + j) = some _ := rd_cv Try.agg3 (by rw [cv_drew, (f12.trans f4).cv (cv_lt e5) id]; exact e5)
        have s1 : IntKind.i64.wrap ((j : Int) + 1) = ((j + 1 : Nat) : Int) := by rw [wrap64_id (by omega) (by omega)]; rfl
        simp -implicitDefEqProofs only [go_sem, Nat.reduceEqDiff, j1, j2, and_self, Int.toNat_natCast, Nat.mul_one, Nat.zero_add, r1, d3, l1, l2, r1', r2, r3, bne_self_eq_false, s1]
        exact ⟨len - (j + 1), by omega, j + 1, rfl, rfl, by omega, k4, f4.drew⟩
      · have d3 : decide ((j : Int) < (len : Int)) = false := by simp; omega
        have s1 : IntKind.i64.wrap ((k : Int) + 1) = ((k + 1 : Nat) : Int) := by rw [wrap64_id (by omega) (by omega)]; rfl
        simp -implicitDefEqProofs only [go_sem, Nat.reduceEqDiff, j1, j2, and_self, Int.toNat_natCast, Nat.mul_one, Nat.zero_add, r1, d3, s1]
        exact ⟨4 - (k + 1), by omega, k + 1, rfl, rfl, by omega, k4, f4⟩
    · have d2 : decide ((k : Int) < 4) = false := by simp; omega
      have s1 : IntKind.i64.wrap ((i : Int) + 1) = ((i + 1 : Nat) : Int) := by rw [wrap64_id (by have := h.lg; omega) (by have := h.lg; omega)]; rfl
      simp -implicitDefEqProofs only [go_sem, Nat.reduceEqDiff, d2, s1]
      exact ⟨gs.length - (i + 1), by omega, i + 1, rfl, rfl, by omega, f2.trans f3⟩
  · have d1 : decide ((i : Int) < (gs.length : Int)) = false := by simp; omega
    have a8 : rdO Try.prog 4 w1 wb 8 = some _ := rd_cv Try.agg4 h1.c8
    simp -implicitDefEqProofs only [go_sem, Nat.reduceEqDiff, a1, d1, a8, Bool.not_false]
    exact f1
end B
end Go.V
namespace Go.V
open Go.Proofs
set_option maxRecDepth 100000
namespace B
open I (KV St)
section
variable {w w' : World} {wb : Nat} {own own' : Own} {vg vc vu : Value} {gs : List Grp} {cl cu : List Value} {cs : List Calm} {id0 : Nat}
theorem BookAt.wlt (h : BookAt w wb own vg vc vu gs cl cu cs id0) : wb < w.heap.size := cv_lt h.c2
/-- only the row's block has changed -/
theorem BookAt.ofRow (h : BookAt w wb own vg vc vu gs cl cu cs id0) (hb : ∀ b, b ≠ wb → w'.heap[b]? = w.heap[b]?) (c2 : cv w' wb 2 = some vg) (c3 : ∃ z, cv w' wb 3 = some (.int .i64 z)) (c4 : ∃ z, cv w' wb 4 = some (.int .i64 z))
    (c5 : cv w' wb 5 = some vc) (c6 : cv w' wb 6 = some vu) (c7 : ∃ z, cv w' wb 7 = some (.int .i64 z)) (c8 : cv w' wb 8 = some (.bool false)) : BookAt w' wb own vg vc vu gs cl cu cs id0 := by
  have ne : ∀ {b x}, own b = x → x ≠ (0, 0) → b ≠ wb := fun e hx hb => hx (by rw [← e, hb]; exact h.row)
  refine ⟨h.row, c2, c3, c4, c5, c6, c7, c8, h.og.frame fun b hb' => hb b (ne (h.bg b hb') (by simp)), h.bg, h.oc.frame fun b hb' => hb b (ne (h.bc b hb') (by simp)), h.bc, h.ou.frame fun b hb' => hb b (ne (h.bu b hb') (by simp)), h.bu, h.four,
    fun g hg v hv => (h.marked g hg v hv).stay (fun _ _ h => h) fun b o e hc => ?_, fun j c hj => ?_, h.lg⟩
  · rw [cv_blk (hb b (ne e (by simp)))]; exact hc
  · obtain ⟨h1, h2, h3, h4, h5⟩ := h.calm j c hj
    exact ⟨h1.frame fun b hb' => hb b (ne (h2 b hb') (by simp)), h2, h3.frame fun b hb' => hb b (ne (h4 b hb') (by simp)), h4, h5⟩
theorem BookAt.cell (h : BookAt w wb own vg vc vu gs cl cu cs id0) {o : Nat} (ho : 2 ≤ o ∧ o ≤ 8) : ∃ u, cv w wb o = some u := by
  obtain ⟨z3, h3⟩ := h.c3
  obtain ⟨z4, h4⟩ := h.c4
  obtain ⟨z7, h7⟩ := h.c7
  have : o = 2 ∨ o = 3 ∨ o = 4 ∨ o = 5 ∨ o = 6 ∨ o = 7 ∨ o = 8 := by omega
  rcases this with rfl | rfl | rfl | rfl | rfl | rfl | rfl
  · exact ⟨_, h.c2⟩
  · exact ⟨_, h3⟩
  · exact ⟨_, h4⟩
  · exact ⟨_, h.c5⟩
  · exact ⟨_, h.c6⟩
  · exact ⟨_, h7⟩
  · exact ⟨_, h.c8⟩
/-- a number of the book is written -/
theorem BookAt.seti (h : BookAt w wb own vg vc vu gs cl cu cs id0) {o : Nat} (ho : o = 3 ∨ o = 4 ∨ o = 7) (z : Int) : BookAt (setc w wb o (.int .i64 z)) wb own vg vc vu gs cl cu cs id0 := by
  obtain ⟨u, hu⟩ := h.cell (o := o) (by omega)
  have q := fun o' => cv_setc (.int .i64 z) hu wb o'
  have num' : ∀ o', (∃ z, cv w wb o' = some (.int .i64 z)) → ∃ y, cv (setc w wb o (.int .i64 z)) wb o' = some (.int .i64 y) := fun o' ⟨z', hz⟩ => by
    by_cases e : o' = o
    · exact ⟨z, by rw [q, if_pos ⟨rfl, e⟩]⟩
    · exact ⟨z', by rw [q, if_neg (fun h => e h.2)]; exact hz⟩
  exact h.ofRow (fun b hb => setc_blk _ hb) (by rw [q, if_neg (by omega)]; exact h.c2) (num' 3 h.c3) (num' 4 h.c4) (by rw [q, if_neg (by omega)]; exact h.c5) (by rw [q, if_neg (by omega)]; exact h.c6) (num' 7 h.c7) (by rw [q, if_neg (by omega)]; exact h.c8)
/-- a group more -/
theorem BookAt.addg {vg' : Value} {g : Grp} {news : List Value} (h : BookAt w wb own vg vc vu gs cl cu cs id0) (h4 : g.1.length = 4) (hm : ∀ v ∈ g.1, AllM w (fun b => own b = (10, 0)) v g.2)
    (r : AppR w w' 79 5 vg vg' (gs.length + 1) (gcells gs ++ Grp.cells g) news) (hnew : ∀ b, w.heap.size ≤ b → own b = (5, 0)) (hl : gs.length ≤ 64) :
    BookAt (setc w' wb 2 vg') wb own vg' vc vu (gs ++ [g]) cl cu cs id0 ∧ cv w' wb 2 = some vg ∧ Fr (fun b => own b = (0, 0) ∨ own b = (5, 0)) w (setc w' wb 2 vg') := by
  have ne : ∀ {b x}, own b = x → x ≠ (0, 0) → b ≠ wb := fun e hx hb => hx (by rw [← e, hb]; exact h.row)
  have hw : ∀ {b x}, b < w.heap.size → own b = x → x ≠ (5, 0) → w'.heap[b]? = w.heap[b]? := fun hb e hx => r.fr.blk _ hb fun hh => hx (by rw [← e]; exact h.bg _ hh)
  have hwb := hw h.wlt h.row (by simp)
  have hc : ∀ o, cv w' wb o = cv w wb o := fun o => cv_blk hwb o
  have c2' : cv w' wb 2 = some vg := (hc 2).trans h.c2
  have q := fun o' => cv_setc vg' c2' wb o'
  have other : ∀ o, o ≠ 2 → cv (setc w' wb 2 vg') wb o = cv w wb o := fun o ho => by rw [q, if_neg (fun h => ho h.2)]; exact hc o
  have blk : ∀ {b x}, b < w.heap.size → own b = x → x ≠ (0, 0) → x ≠ (5, 0) → (setc w' wb 2 vg').heap[b]? = w.heap[b]? := fun hb e h0 h5 => (setc_blk _ (ne e h0)).trans (hw hb e h5)
  have hbg : ∀ b, blockOf vg' = some b → own b = (5, 0) := fun b hb => by
    obtain ⟨b', e1, e2⟩ := r.blk
    rw [hb] at e1; cases e1
    rcases e2 with e2 | e2
    · exact h.bg b e2
    · exact hnew b e2
  have stay : ∀ {v m}, AllM w (fun b => own b = (10, 0)) v m → AllM (setc w' wb 2 vg') (fun b => own b = (10, 0)) v m := fun ha => ha.stay (fun _ _ h => h) fun b o e hcv => by
    rw [cv_blk (blk (cv_lt hcv) e (by simp) (by simp))]; exact hcv
  refine ⟨⟨h.row, by rw [q, if_pos ⟨rfl, rfl⟩], by rw [other 3 (by omega)]; exact h.c3, by rw [other 4 (by omega)]; exact h.c4, (other 5 (by omega)).trans h.c5, (other 6 (by omega)).trans h.c6, by rw [other 7 (by omega)]; exact h.c7, (other 8 (by omega)).trans h.c8,
    ?_, hbg, h.oc.frame fun b hb => blk (h.oc.lt hb) (h.bc b hb) (by simp) (by simp), h.bc, h.ou.frame fun b hb => blk (h.ou.lt hb) (h.bu b hb) (by simp) (by simp), h.bu, fun g' hg' => ?_, fun g' hg' v hv => ?_, fun j c hj => ?_, by rw [List.length_append, List.length_singleton]; omega⟩, c2', ?_⟩
  · rw [List.length_append, gcells_app]
    have : gcells [g] = Grp.cells g := by simp [gcells]
    rw [this]
    exact r.own.frame fun b hb => setc_blk _ (ne (hbg b hb) (by simp))
  · rcases List.mem_append.1 hg' with hg' | hg'
    · exact h.four g' hg'
    · simp only [List.mem_singleton] at hg'; subst hg'; exact h4
  · rcases List.mem_append.1 hg' with hg' | hg'
    · exact stay (h.marked g' hg' v hv)
    · simp only [List.mem_singleton] at hg'; subst hg'; exact stay (hm v hv)
  · obtain ⟨h1, h2, h3, h4, h5⟩ := h.calm j c hj
    exact ⟨h1.frame fun b hb => blk (h1.lt hb) (h2 b hb) (by simp) (by simp), h2, h3.frame fun b hb => blk (h3.lt hb) (h4 b hb) (by simp) (by simp), h4, h5⟩
  · exact ((r.fr.mono fun b _ hb => .inr (h.bg b hb)).setc _ _ fun _ => .inl h.row)
/-- other lists in the row: what they hold is here already -/
theorem BookAt.lists (h : BookAt w wb own vg vc vu gs cl cu cs id0) {o : Nat} {x vg' vc' vu' : Value} {gs' : List Grp} {cl' cu' : List Value}
    (ho : (o = 2 ∧ x = vg' ∧ vc' = vc ∧ vu' = vu) ∨ (o = 5 ∧ x = vc' ∧ vg' = vg ∧ vu' = vu) ∨ (o = 6 ∧ x = vu' ∧ vg' = vg ∧ vc' = vc))
    (og : OwnO w 79 5 vg' gs'.length (gcells gs')) (bg : ∀ b, blockOf vg' = some b → own b = (5, 0)) (oc : OwnO w 29 1 vc' cl'.length cl') (bc : ∀ b, blockOf vc' = some b → own b = (6, 0))
    (ou : OwnO w 29 1 vu' cu'.length cu') (bu : ∀ b, blockOf vu' = some b → own b = (7, 0)) (hsub : ∀ g ∈ gs', g ∈ gs) (hl : gs'.length ≤ 65) : BookAt (setc w wb o x) wb own vg' vc' vu' gs' cl' cu' cs id0 := by
  have ne : ∀ {b x}, own b = x → x ≠ (0, 0) → b ≠ wb := fun e hx hb => hx (by rw [← e, hb]; exact h.row)
  obtain ⟨u, hu⟩ := h.cell (o := o) (by omega)
  have q := fun o' => cv_setc x hu wb o'
  have other : ∀ o', o' ≠ o → cv (setc w wb o x) wb o' = cv w wb o' := fun o' ho => by rw [q, if_neg (fun h => ho h.2)]
  have same : cv (setc w wb o x) wb o = some x := by rw [q, if_pos ⟨rfl, rfl⟩]
  refine ⟨h.row, ?_, by rw [other 3 (by omega)]; exact h.c3, by rw [other 4 (by omega)]; exact h.c4, ?_, ?_, by rw [other 7 (by omega)]; exact h.c7, (other 8 (by omega)).trans h.c8,
    og.frame fun b hb => setc_blk _ (ne (bg b hb) (by simp)), bg, oc.frame fun b hb => setc_blk _ (ne (bc b hb) (by simp)), bc, ou.frame fun b hb => setc_blk _ (ne (bu b hb) (by simp)), bu,
    fun g hg => h.four g (hsub g hg), fun g hg v hv => (h.marked g (hsub g hg) v hv).stay (fun _ _ h => h) fun b o' e hc => (by rw [cv_blk (setc_blk _ (ne e (by simp)))]; exact hc), fun j c hj => ?_, hl⟩
  · rcases ho with ⟨rfl, rfl, _⟩ | ⟨rfl, _, rfl, _⟩ | ⟨rfl, _, rfl, _⟩
    · exact same
    · exact (other 2 (by omega)).trans h.c2
    · exact (other 2 (by omega)).trans h.c2
  · rcases ho with ⟨rfl, _, rfl, _⟩ | ⟨rfl, rfl, _⟩ | ⟨rfl, _, _, rfl⟩
    · exact (other 5 (by omega)).trans h.c5
    · exact same
    · exact (other 5 (by omega)).trans h.c5
  · rcases ho with ⟨rfl, _, _, rfl⟩ | ⟨rfl, _, _, rfl⟩ | ⟨rfl, rfl, _⟩
    · exact (other 6 (by omega)).trans h.c6
    · exact (other 6 (by omega)).trans h.c6
    · exact same
  · obtain ⟨h1, h2, h3, h4, h5⟩ := h.calm j c hj
    exact ⟨h1.frame fun b hb => setc_blk _ (ne (h2 b hb) (by simp)), h2, h3.frame fun b hb => setc_blk _ (ne (h4 b hb) (by simp)), h4, h5⟩
theorem one_own {w : World} {e sz n : Nat} {v : Value} {cs : List Value} (h : OwnO w e sz v n cs) : one v = true := R.own_one h
/-- the first group goes -/
theorem BookAt.popg {g : Grp} (h : BookAt w wb own vg vc vu (g :: gs) cl cu cs id0) :
    ∃ vg', sliceP Try.prog 38 vg (some (.int .i64 1)) none none = some vg' ∧ wrO Try.prog 38 w wb 2 vg' = some (setc w wb 2 vg') ∧ BookAt (setc w wb 2 vg') wb own vg' vc vu gs cl cu cs id0 := by
  obtain ⟨vg', e1, e2, e3⟩ := tail (P := Try.prog) Try.arr38 Try.slc38 Try.sz79 h.og
  have e4 : (gcells (g :: gs)).drop 5 = gcells gs := by
    show (Grp.cells g ++ gcells gs).drop 5 = _
    have : (Grp.cells g).length = 5 := by simp [Grp.cells, h.four g (by simp)]
    rw [← this, List.drop_left]
  rw [e4] at e2
  have hl := h.lg
  rw [List.length_cons] at hl
  exact ⟨vg', e1, wr_cv Try.sz38 (one_own e2) h.c2, h.lists (.inl ⟨rfl, rfl, rfl, rfl⟩) e2 (fun b hb => h.bg b (e3 b hb)) h.oc h.bc h.ou h.bu (fun g' hg' => List.mem_cons_of_mem _ hg') (by omega)⟩
end
end B
end Go.V
