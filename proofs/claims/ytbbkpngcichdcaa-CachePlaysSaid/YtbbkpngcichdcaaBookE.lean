/-
  More of what changes the book: a calm list more, its copy; the first calm list goes; 'wakes'.
-/
import Derived.Test.YtbbkpngcichdcaaBookD
namespace Go.V
open Go.Proofs
set_option maxRecDepth 100000
namespace B
open I (KV St)
section
variable {w w' : World} {wb : Nat} {own own' : Own} {vg vc vu : Value} {gs : List Grp} {cl cu : List Value} {cs : List Calm} {id0 : Nat}
/-- one more in the list at place 5 -/
theorem BookAt.addc {vc' x : Value} {news : List Value} (h : BookAt w wb own vg vc vu gs cl cu cs id0)
    (r : AppR w w' 29 1 vc vc' (cl.length + 1) (cl ++ [x]) news) (hnew : ∀ b, w.heap.size ≤ b → own b = (6, 0)) :
    BookAt (setc w' wb 5 vc') wb own vg vc' vu gs (cl ++ [x]) cu cs id0 ∧ cv w' wb 5 = some vc ∧ Fr (fun b => own b = (0, 0) ∨ own b = (6, 0)) w (setc w' wb 5 vc') := by
  have ne : ∀ {b x}, own b = x → x ≠ (0, 0) → b ≠ wb := fun e hx hb => hx (by rw [← e, hb]; exact h.row)
  have hw : ∀ {b x}, b < w.heap.size → own b = x → x ≠ (6, 0) → w'.heap[b]? = w.heap[b]? := fun hb e hx => r.fr.blk _ hb fun hh => hx (by rw [← e]; exact h.bc _ hh)
  have hwb := hw h.wlt h.row (by simp)
  have hc : ∀ o, cv w' wb o = cv w wb o := fun o => cv_blk hwb o
  have c2' : cv w' wb 5 = some vc := (hc 5).trans h.c5
  have q := fun o' => cv_setc vc' c2' wb o'
  have other : ∀ o, o ≠ 5 → cv (setc w' wb 5 vc') wb o = cv w wb o := fun o ho => by rw [q, if_neg (fun h => ho h.2)]; exact hc o
  have same : cv (setc w' wb 5 vc') wb 5 = some vc' := by rw [q, if_pos ⟨rfl, rfl⟩]
  have blk : ∀ {b x}, b < w.heap.size → own b = x → x ≠ (0, 0) → x ≠ (6, 0) → (setc w' wb 5 vc').heap[b]? = w.heap[b]? := fun hb e h0 h5 => (setc_blk _ (ne e h0)).trans (hw hb e h5)
  have hbg : ∀ b, blockOf vc' = some b → own b = (6, 0) := fun b hb => by
    obtain ⟨b', e1, e2⟩ := r.blk
    rw [hb] at e1; cases e1
    rcases e2 with e2 | e2
    · exact h.bc b e2
    · exact hnew b e2
  have own2 : OwnO (setc w' wb 5 vc') 29 1 vc' (cl ++ [x]).length (cl ++ [x]) := by
    rw [List.length_append]; exact r.own.frame fun b hb => setc_blk _ (ne (hbg b hb) (by simp))
  refine ⟨⟨h.row, (other 2 (by omega)).trans h.c2, by rw [other 3 (by omega)]; exact h.c3, by rw [other 4 (by omega)]; exact h.c4, same, (other 6 (by omega)).trans h.c6, by rw [other 7 (by omega)]; exact h.c7, (other 8 (by omega)).trans h.c8,
    h.og.frame fun b hb => blk (h.og.lt hb) (h.bg b hb) (by simp) (by simp), h.bg, own2, hbg, h.ou.frame fun b hb => blk (h.ou.lt hb) (h.bu b hb) (by simp) (by simp), h.bu, h.four, fun g hg v hv => (h.marked g hg v hv).stay (fun _ _ h => h) fun b o e hcv => ?_, fun j c hj => ?_, h.lg⟩, c2', ?_⟩
  · rw [cv_blk (blk (cv_lt hcv) e (by simp) (by simp))]; exact hcv
  · obtain ⟨h1, h2, h3, h4, h5⟩ := h.calm j c hj
    exact ⟨h1.frame fun b hb => blk (h1.lt hb) (h2 b hb) (by simp) (by simp), h2, h3.frame fun b hb => blk (h3.lt hb) (h4 b hb) (by simp) (by simp), h4, h5⟩
  · exact ((r.fr.mono fun b _ hb => .inr (h.bc b hb)).setc _ _ fun _ => .inl h.row)
/-- one more in the list at place 6 -/
theorem BookAt.addu {vu' x : Value} {news : List Value} (h : BookAt w wb own vg vc vu gs cl cu cs id0)
    (r : AppR w w' 29 1 vu vu' (cu.length + 1) (cu ++ [x]) news) (hnew : ∀ b, w.heap.size ≤ b → own b = (7, 0)) :
    BookAt (setc w' wb 6 vu') wb own vg vc vu' gs cl (cu ++ [x]) cs id0 ∧ cv w' wb 6 = some vu ∧ Fr (fun b => own b = (0, 0) ∨ own b = (7, 0)) w (setc w' wb 6 vu') := by
  have ne : ∀ {b x}, own b = x → x ≠ (0, 0) → b ≠ wb := fun e hx hb => hx (by rw [← e, hb]; exact h.row)
  have hw : ∀ {b x}, b < w.heap.size → own b = x → x ≠ (7, 0) → w'.heap[b]? = w.heap[b]? := fun hb e hx => r.fr.blk _ hb fun hh => hx (by rw [← e]; exact h.bu _ hh)
  have hwb := hw h.wlt h.row (by simp)
  have hc : ∀ o, cv w' wb o = cv w wb o := fun o => cv_blk hwb o
  have c2' : cv w' wb 6 = some vu := (hc 6).trans h.c6
  have q := fun o' => cv_setc vu' c2' wb o'
  have other : ∀ o, o ≠ 6 → cv (setc w' wb 6 vu') wb o = cv w wb o := fun o ho => by rw [q, if_neg (fun h => ho h.2)]; exact hc o
  have same : cv (setc w' wb 6 vu') wb 6 = some vu' := by rw [q, if_pos ⟨rfl, rfl⟩]
  have blk : ∀ {b x}, b < w.heap.size → own b = x → x ≠ (0, 0) → x ≠ (7, 0) → (setc w' wb 6 vu').heap[b]? = w.heap[b]? := fun hb e h0 h5 => (setc_blk _ (ne e h0)).trans (hw hb e h5)
  have hbg : ∀ b, blockOf vu' = some b → own b = (7, 0) := fun b hb => by
    obtain ⟨b', e1, e2⟩ := r.blk
    rw [hb] at e1; cases e1
    rcases e2 with e2 | e2
    · exact h.bu b e2
    · exact hnew b e2
  have own2 : OwnO (setc w' wb 6 vu') 29 1 vu' (cu ++ [x]).length (cu ++ [x]) := by
    rw [List.length_append]; exact r.own.frame fun b hb => setc_blk _ (ne (hbg b hb) (by simp))
  refine ⟨⟨h.row, (other 2 (by omega)).trans h.c2, by rw [other 3 (by omega)]; exact h.c3, by rw [other 4 (by omega)]; exact h.c4, (other 5 (by omega)).trans h.c5, same, by rw [other 7 (by omega)]; exact h.c7, (other 8 (by omega)).trans h.c8,
    h.og.frame fun b hb => blk (h.og.lt hb) (h.bg b hb) (by simp) (by simp), h.bg, h.oc.frame fun b hb => blk (h.oc.lt hb) (h.bc b hb) (by simp) (by simp), h.bc, own2, hbg, h.four, fun g hg v hv => (h.marked g hg v hv).stay (fun _ _ h => h) fun b o e hcv => ?_, fun j c hj => ?_, h.lg⟩, c2', ?_⟩
  · rw [cv_blk (blk (cv_lt hcv) e (by simp) (by simp))]; exact hcv
  · obtain ⟨h1, h2, h3, h4, h5⟩ := h.calm j c hj
    exact ⟨h1.frame fun b hb => blk (h1.lt hb) (h2 b hb) (by simp) (by simp), h2, h3.frame fun b hb => blk (h3.lt hb) (h4 b hb) (by simp) (by simp), h4, h5⟩
  · exact ((r.fr.mono fun b _ hb => .inr (h.bu b hb)).setc _ _ fun _ => .inl h.row)
/-- the first of the calm ones goes: its list has another owner -/
theorem BookAt.popc {c0 : Calm} (h : BookAt w wb own vg vc vu gs cl cu (c0 :: cs) id0) (p : Nat × Nat) : BookAt w wb (fun b => if own b = (8, id0) then p else own b) vg vc vu gs cl cu cs (id0 + 1) := by
  have k : ∀ {b x}, own b = x → x ≠ (8, id0) → (if own b = (8, id0) then p else own b) = x := fun e hx => by rw [if_neg (by rw [e]; exact hx), e]
  refine ⟨k h.row (by simp), h.c2, h.c3, h.c4, h.c5, h.c6, h.c7, h.c8, h.og, fun b hb => k (h.bg b hb) (by simp), h.oc, fun b hb => k (h.bc b hb) (by simp), h.ou, fun b hb => k (h.bu b hb) (by simp), h.four,
    fun g hg v hv => (h.marked g hg v hv).stay (fun b _ e => k e (by simp)) fun _ _ _ h => h, fun j c hj => ?_, h.lg⟩
  obtain ⟨h1, h2, h3, h4, h5⟩ := h.calm (j + 1) c (by rw [List.getElem?_cons_succ]; exact hj)
  refine ⟨h1, fun b hb => ?_, h3, fun b hb => k (h4 b hb) (by simp), h5⟩
  have := k (h2 b hb) (by simp)
  rw [this, show id0 + (j + 1) = id0 + 1 + j by omega]
structure StepJ (wb : Nat) (J : Nat → Prop) (own own' : Own) (w w' : World) : Prop where
  fr : Fr (fun b => bookB (own b) ∨ ∃ i, J i ∧ own b = (11, i)) w w'
  keep : ∀ b, b < w.heap.size → ¬ bookB (own b) → (∀ i, J i → own b ≠ (11, i)) → own' b = own b
  c0 : cv w' wb 0 = cv w wb 0
  c1 : cv w' wb 1 = cv w wb 1
theorem StepJ.refl (wb : Nat) (J : Nat → Prop) (own : Own) (w : World) : StepJ wb J own own w w := ⟨Fr.refl _ _, fun _ _ _ _ => rfl, rfl, rfl⟩
theorem Step.toJ {j : Nat} {J : Nat → Prop} (h : Step wb j own own' w w') (hj : J j) : StepJ wb J own own' w w' :=
  ⟨h.fr.mono fun b _ hh => hh.imp id fun e => ⟨j, hj, e⟩, fun b hb h1 h2 => h.keep b hb h1 (h2 j hj), h.c0, h.c1⟩
theorem StepJ.mono {J J' : Nat → Prop} (h : StepJ wb J own own' w w') (hj : ∀ i, J i → J' i) : StepJ wb J' own own' w w' :=
  ⟨h.fr.mono fun b _ hh => hh.imp id fun ⟨i, h1, e⟩ => ⟨i, hj i h1, e⟩, fun b hb h1 h2 => h.keep b hb h1 fun i hi => h2 i (hj i hi), h.c0, h.c1⟩
theorem StepJ.trans {J : Nat → Prop} {own1 own2 : Own} {w1 w2 : World} (h : StepJ wb J own own1 w w1) (k : StepJ wb J own1 own2 w1 w2) : StepJ wb J own own2 w w2 := by
  refine ⟨h.fr.trans' k.fr fun b hb hh => ?_, fun b hb h1 h2 => ?_, k.c0.trans h.c0, k.c1.trans h.c1⟩
  · by_cases h1 : bookB (own b)
    · exact .inl h1
    · by_cases h2 : ∃ i, J i ∧ own b = (11, i)
      · exact .inr h2
      · have := h.keep b hb h1 fun i hi e => h2 ⟨i, hi, e⟩
        rw [this] at hh; exact hh
  · have e := h.keep b hb h1 h2
    rw [k.keep b (Nat.lt_of_lt_of_le hb h.fr.size) (by rw [e]; exact h1) (by rw [e]; exact h2), e]
/-- the world has new blocks alone, or the row's numbers written -/
theorem StepJ.rowW {J : Nat → Prop} (hr : own wb = (0, 0)) (f : Fr (fun b => b = wb) w w') (h0 : cv w' wb 0 = cv w wb 0) (h1 : cv w' wb 1 = cv w wb 1) (ho : ∀ b, b < w.heap.size → ¬ bookB (own b) → (∀ i, J i → own b ≠ (11, i)) → own' b = own b) : StepJ wb J own own' w w' :=
  ⟨f.mono fun b _ e => .inl (.inl (by rw [e, hr])), ho, h0, h1⟩
theorem own_ints {w : World} {v : Value} {n : Nat} {l : KV} (h : OwnO w 3 1 v n (I.keysV l)) : I.Ints w v (l.map (·.1)) := by
  have hl := h.len
  have hkl : (I.keysV l).length = l.length := by simp [I.keysV]
  obtain ⟨base, cap, rfl⟩ := h.slice
  have hn : n = l.length := by omega
  subst hn
  refine ⟨base, cap, by rw [List.length_map], fun i k hk => ?_⟩
  have hi : i < l.length := by have := (List.getElem?_eq_some_iff.1 hk).1; simpa using this
  obtain ⟨b, o, cap', e1, e2⟩ := h.at (i := i) (by omega)
  simp only [Value.slice.injEq, true_and] at e1
  refine ⟨b, o, e1.1, e2.trans ?_⟩
  simp only [I.keysV, List.getElem?_map] at hk ⊢
  cases hq : l[i]? with
  | none => rw [hq] at hk; cases hk
  | some p => rw [hq] at hk; simp only [Option.map_some, Option.some.injEq] at hk ⊢; rw [hk]
end
end B
end Go.V
