/-
  The row in memory: caches, the document's caches, the book.
-/
import Derived.Test.YtbbkpngcichdcaaBookG
namespace Go.V
open Go.Proofs
set_option maxRecDepth 100000
namespace B
open I (KV St grown)
abbrev ptrs (l : List Nat) : List Value := l.map fun b => ptr (b, 0)
structure RowAt (w0 w : World) (wb : Nat) (own : Own) (ss rs : List St) : Prop where
  fr : Fr (fun _ => False) w0 w
  new : ∀ b, b < w0.heap.size → own b = (12, 0)
  row : own wb = (0, 0)
  cs : ∃ v l, cv w wb 0 = some v ∧ OwnO w 23 1 v l.length (ptrs l) ∧ (∀ b, blockOf v = some b → own b = (1, 0)) ∧ l.length = ss.length ∧ ∀ i s, ss[i]? = some s → ∃ cb, l[i]? = some cb ∧ I.Box w cb (fun b => own b = (3, i) ∧ b < w.heap.size) s
  rs : ∃ v l, cv w wb 1 = some v ∧ OwnO w 72 1 v l.length (ptrs l) ∧ (∀ b, blockOf v = some b → own b = (2, 0)) ∧ l.length = rs.length ∧ ∀ i s, rs[i]? = some s → ∃ rb, l[i]? = some rb ∧ R.Ref w rb (fun b => own b = (4, i) ∧ b < w.heap.size) s
  book : Book w wb own
def ownN (own : Own) (n : Nat) (t : Nat × Nat) : Own := fun b => if b < n then own b else t
theorem ownN_old {own : Own} {n b : Nat} (t : Nat × Nat) (h : b < n) : ownN own n t b = own b := if_pos h
theorem ownN_new {own : Own} {n b : Nat} (t : Nat × Nat) (h : n ≤ b) : ownN own n t b = t := if_neg (by omega)
section
variable {w0 w w' : World} {wb : Nat} {own own' : Own} {ss rs : List St}
theorem Book.wlt (h : Book w wb own) : wb < w.heap.size := by
  obtain ⟨_, _, _, _, _, _, h, _⟩ := h; exact h.wlt
theorem Box.mono {cb : Nat} {F G : Nat → Prop} {s : St} (h : I.Box w cb F s) (hf : ∀ b, F b → G b) (hg : ∀ b, G b → b < w.heap.size) : I.Box w cb G s := by
  obtain ⟨mb, cl, kp, hc, h1, h2, h3, h4, h5, h6, h7, h8⟩ := h
  exact ⟨mb, cl, kp, hc, h1, h2, h3, h4, fun b hb => hf b (h5 b hb), hg, h7, h8⟩
theorem Ref.mono {rb : Nat} {F G : Nat → Prop} {s : St} (h : R.Ref w rb F s) (hf : ∀ b, F b → G b) (hg : ∀ b, G b → b < w.heap.size) : R.Ref w rb G s := by
  obtain ⟨vc, vk, h⟩ := h
  exact ⟨vc, vk, h.mono hf hg⟩
/-- what a step leaves alone: tags 1 to 4 and 12 -/
theorem RowAt.move (h : RowAt w0 w wb own ss rs) {G : Nat → Prop} (f : Fr G w w') (hg : ∀ b, b < w.heap.size → G b → bookB (own b) ∨ (own b).1 = 11)
    (ho : ∀ b, b < w.heap.size → ¬ bookB (own b) → (own b).1 ≠ 11 → own' b = own b) (hb : Book w' wb own') (hrow : own' wb = (0, 0)) (h0 : cv w' wb 0 = cv w wb 0) (h1 : cv w' wb 1 = cv w wb 1) : RowAt w0 w' wb own' ss rs := by
  have hw0 := h.fr.size
  have nb : ∀ {n m : Nat}, 1 ≤ n → (n ≤ 4 ∨ n = 12) → ¬ bookB (n, m) := fun h1 h2 hB => by
    rcases hB with hB | hB
    · simp only at hB; omega
    · simp only at hB; omega
  have stay : ∀ {b n m}, b < w.heap.size → own b = (n, m) → 1 ≤ n → (n ≤ 4 ∨ n = 12) → own' b = (n, m) ∧ ¬ G b := fun {b n m} hb e h1 h2 => by
    have hn : ¬ bookB (own b) := by rw [e]; exact nb h1 h2
    have h11 : (own b).1 ≠ 11 := by rw [e]; simp only; omega
    exact ⟨(ho b hb hn h11).trans e, fun hG => (hg b hb hG).elim hn h11⟩
  refine ⟨h.fr.trans' f fun b hb1 hG => ((stay (by omega) (h.new b hb1) (by omega) (by omega)).2 hG).elim, fun b hb1 => (stay (by omega) (h.new b hb1) (by omega) (by omega)).1, hrow, ?_, ?_, hb⟩
  · obtain ⟨v, l, c1, c2, c3, c4, c5⟩ := h.cs
    refine ⟨v, l, h0.trans c1, c2.frame fun b hb1 => f.blk b (c2.lt hb1) (stay (c2.lt hb1) (c3 b hb1) (by omega) (by omega)).2, fun b hb1 => (stay (c2.lt hb1) (c3 b hb1) (by omega) (by omega)).1, c4, fun i s hi => ?_⟩
    obtain ⟨cb, e1, e2⟩ := c5 i s hi
    exact ⟨cb, e1, Box.mono (e2.frame f fun b hb1 => (stay hb1.2 hb1.1 (by omega) (by omega)).2) (fun b hb1 => ⟨(stay hb1.2 hb1.1 (by omega) (by omega)).1, Nat.lt_of_lt_of_le hb1.2 f.size⟩) fun b hb1 => hb1.2⟩
  · obtain ⟨v, l, c1, c2, c3, c4, c5⟩ := h.rs
    refine ⟨v, l, h1.trans c1, c2.frame fun b hb1 => f.blk b (c2.lt hb1) (stay (c2.lt hb1) (c3 b hb1) (by omega) (by omega)).2, fun b hb1 => (stay (c2.lt hb1) (c3 b hb1) (by omega) (by omega)).1, c4, fun i s hi => ?_⟩
    obtain ⟨cb, e1, e2⟩ := c5 i s hi
    exact ⟨cb, e1, Ref.mono (e2.frame f fun b hb1 => (stay hb1.2 hb1.1 (by omega) (by omega)).2) (fun b hb1 => ⟨(stay hb1.2 hb1.1 (by omega) (by omega)).1, Nat.lt_of_lt_of_le hb1.2 f.size⟩) fun b hb1 => hb1.2⟩
/-- new blocks alone, with an owner of their own -/
theorem RowAt.grow (h : RowAt w0 w wb own ss rs) (f : Fr (fun _ => False) w w') (t : Nat × Nat) : RowAt w0 w' wb (ownN own w.heap.size t) ss rs :=
  h.move f (fun _ _ h => h.elim) (fun b hb _ _ => ownN_old t hb) (h.book.frame (fun b hb _ => ownN_old t hb) f fun _ h => h.elim) ((ownN_old t h.book.wlt).trans h.row) (f.cv h.book.wlt id 0) (f.cv h.book.wlt id 1)
/-- a step of the book -/
theorem RowAt.step {J : Nat → Prop} (h : RowAt w0 w wb own ss rs) (hb : Book w' wb own') (st : StepJ wb J own own' w w') : RowAt w0 w' wb own' ss rs := by
  have hrow : own' wb = (0, 0) := by obtain ⟨_, _, _, _, _, _, h, _⟩ := hb; exact h.row
  exact h.move st.fr (fun b _ hh => hh.imp id fun ⟨i, _, e⟩ => by rw [e]) (fun b hb1 h1 h2 => st.keep b hb1 h1 fun i _ e => h2 (by rw [e])) hb hrow st.c0 st.c1
/-- a step of cache i -/
theorem RowAt.box (h : RowAt w0 w wb own ss rs) {i : Nat} {s s' : St} (hi : ss[i]? = some s) {cb : Nat} (hcb : ∀ v l, cv w wb 0 = some v → OwnO w 23 1 v l.length (ptrs l) → l[i]? = some cb)
    (hx : I.Box w' cb (grown (fun b => own b = (3, i) ∧ b < w.heap.size) w w') s') (f : Fr (fun b => own b = (3, i) ∧ b < w.heap.size) w w') : RowAt w0 w' wb (ownN own w.heap.size (3, i)) (ss.set i s') rs := by
  have hw0 := h.fr.size
  have o : ∀ {b}, b < w.heap.size → ownN own w.heap.size (3, i) b = own b := fun hb => ownN_old _ hb
  have ne : ∀ {b x}, own b = x → x ≠ (3, i) → ¬ (own b = (3, i) ∧ b < w.heap.size) := fun e hx hh => hx (e.symm.trans hh.1)
  have hne : ∀ b, (own b = (3, i) ∧ b < w.heap.size) → ¬ bookB (own b) := fun b hh hB => by
    rw [hh.1] at hB
    rcases hB with hB | hB
    · simp only at hB; omega
    · simp only at hB; omega
  have hwl := h.book.wlt
  have hc : ∀ o, cv w' wb o = cv w wb o := fun o => f.cv hwl (ne h.row (by simp)) o
  refine ⟨h.fr.trans' f fun b hb1 hh => ?_, fun b hb1 => (o (by omega)).trans (h.new b hb1), (o hwl).trans h.row, ?_, ?_, h.book.frame (fun b hb _ => o hb) f hne⟩
  · have := h.new b hb1; rw [hh.1] at this; cases this
  · obtain ⟨v, l, c1, c2, c3, c4, c5⟩ := h.cs
    have hl := hcb v l c1 c2
    refine ⟨v, l, (hc 0).trans c1, c2.frame fun b hb1 => f.blk b (c2.lt hb1) (ne (c3 b hb1) (by simp)), fun b hb1 => (o (c2.lt hb1)).trans (c3 b hb1), by rw [List.length_set]; exact c4, fun k t hk => ?_⟩
    by_cases hki : k = i
    · subst hki
      have hlt : k < ss.length := (List.getElem?_eq_some_iff.1 hi).1
      rw [List.getElem?_set_self hlt] at hk
      cases hk
      refine ⟨cb, hl, Box.mono hx (fun b hb1 => ?_) fun b hb1 => hb1.2⟩
      rcases hb1 with hb1 | hb1
      · exact ⟨(o hb1.2).trans hb1.1, Nat.lt_of_lt_of_le hb1.2 f.size⟩
      · exact ⟨ownN_new _ hb1.1, hb1.2⟩
    · rw [List.getElem?_set_ne (Ne.symm hki)] at hk
      obtain ⟨cb', e1, e2⟩ := c5 k t hk
      exact ⟨cb', e1, Box.mono (e2.frame f fun b hb1 => ne hb1.1 (by simp [hki])) (fun b hb1 => ⟨(o hb1.2).trans hb1.1, Nat.lt_of_lt_of_le hb1.2 f.size⟩) fun b hb1 => hb1.2⟩
  · obtain ⟨v, l, c1, c2, c3, c4, c5⟩ := h.rs
    refine ⟨v, l, (hc 1).trans c1, c2.frame fun b hb1 => f.blk b (c2.lt hb1) (ne (c3 b hb1) (by simp)), fun b hb1 => (o (c2.lt hb1)).trans (c3 b hb1), c4, fun k t hk => ?_⟩
    obtain ⟨cb', e1, e2⟩ := c5 k t hk
    exact ⟨cb', e1, Ref.mono (e2.frame f fun b hb1 => ne hb1.1 (by simp)) (fun b hb1 => ⟨(o hb1.2).trans hb1.1, Nat.lt_of_lt_of_le hb1.2 f.size⟩) fun b hb1 => hb1.2⟩
/-- a step of the document's cache i -/
theorem RowAt.ref (h : RowAt w0 w wb own ss rs) {i : Nat} {s s' : St} (hi : rs[i]? = some s) {cb : Nat} (hcb : ∀ v l, cv w wb 1 = some v → OwnO w 72 1 v l.length (ptrs l) → l[i]? = some cb)
    (hx : R.Ref w' cb (grown (fun b => own b = (4, i) ∧ b < w.heap.size) w w') s') (f : Fr (fun b => own b = (4, i) ∧ b < w.heap.size) w w') : RowAt w0 w' wb (ownN own w.heap.size (4, i)) ss (rs.set i s') := by
  have hw0 := h.fr.size
  have o : ∀ {b}, b < w.heap.size → ownN own w.heap.size (4, i) b = own b := fun hb => ownN_old _ hb
  have ne : ∀ {b x}, own b = x → x ≠ (4, i) → ¬ (own b = (4, i) ∧ b < w.heap.size) := fun e hx hh => hx (e.symm.trans hh.1)
  have hne : ∀ b, (own b = (4, i) ∧ b < w.heap.size) → ¬ bookB (own b) := fun b hh hB => by
    rw [hh.1] at hB
    rcases hB with hB | hB
    · simp only at hB; omega
    · simp only at hB; omega
  have hwl := h.book.wlt
  have hc : ∀ o, cv w' wb o = cv w wb o := fun o => f.cv hwl (ne h.row (by simp)) o
  refine ⟨h.fr.trans' f fun b hb1 hh => ?_, fun b hb1 => (o (by omega)).trans (h.new b hb1), (o hwl).trans h.row, ?_, ?_, h.book.frame (fun b hb _ => o hb) f hne⟩
  · have := h.new b hb1; rw [hh.1] at this; cases this
  · obtain ⟨v, l, c1, c2, c3, c4, c5⟩ := h.cs
    refine ⟨v, l, (hc 0).trans c1, c2.frame fun b hb1 => f.blk b (c2.lt hb1) (ne (c3 b hb1) (by simp)), fun b hb1 => (o (c2.lt hb1)).trans (c3 b hb1), c4, fun k t hk => ?_⟩
    obtain ⟨cb', e1, e2⟩ := c5 k t hk
    exact ⟨cb', e1, Box.mono (e2.frame f fun b hb1 => ne hb1.1 (by simp)) (fun b hb1 => ⟨(o hb1.2).trans hb1.1, Nat.lt_of_lt_of_le hb1.2 f.size⟩) fun b hb1 => hb1.2⟩
  · obtain ⟨v, l, c1, c2, c3, c4, c5⟩ := h.rs
    have hl := hcb v l c1 c2
    refine ⟨v, l, (hc 1).trans c1, c2.frame fun b hb1 => f.blk b (c2.lt hb1) (ne (c3 b hb1) (by simp)), fun b hb1 => (o (c2.lt hb1)).trans (c3 b hb1), by rw [List.length_set]; exact c4, fun k t hk => ?_⟩
    by_cases hki : k = i
    · subst hki
      have hlt : k < rs.length := (List.getElem?_eq_some_iff.1 hi).1
      rw [List.getElem?_set_self hlt] at hk
      cases hk
      refine ⟨cb, hl, Ref.mono hx (fun b hb1 => ?_) fun b hb1 => hb1.2⟩
      rcases hb1 with hb1 | hb1
      · exact ⟨(o hb1.2).trans hb1.1, Nat.lt_of_lt_of_le hb1.2 f.size⟩
      · exact ⟨ownN_new _ hb1.1, hb1.2⟩
    · rw [List.getElem?_set_ne (Ne.symm hki)] at hk
      obtain ⟨cb', e1, e2⟩ := c5 k t hk
      exact ⟨cb', e1, Ref.mono (e2.frame f fun b hb1 => ne hb1.1 (by simp [hki])) (fun b hb1 => ⟨(o hb1.2).trans hb1.1, Nat.lt_of_lt_of_le hb1.2 f.size⟩) fun b hb1 => hb1.2⟩
end
end B
end Go.V
namespace Go.V
open Go.Proofs
set_option maxRecDepth 100000
namespace B
open I (KV St grown)
theorem und36 : (Try.prog.underlying 36).isSome = true := by kernel_rfl
theorem und37 : (Try.prog.underlying 37).isSome = true := by kernel_rfl
theorem by23 : byO Try.prog 23 = some 8 := by kernel_rfl
theorem by72 : byO Try.prog 72 = some 8 := by kernel_rfl
section
variable {w0 w w' : World} {wb : Nat} {own own' : Own} {ss rs : List St}
theorem Book.set01 (h : Book w wb own) {o : Nat} (ho : o < 2) {u : Value} (hu : cv w wb o = some u) (x : Value) : Book (setc w wb o x) wb own := by
  obtain ⟨vg, vc, vu, gs, cs, id0, h, h1, h2⟩ := h
  have q := fun o' => cv_setc x hu wb o'
  have k : ∀ o', 2 ≤ o' → cv (setc w wb o x) wb o' = cv w wb o' := fun o' ho' => by rw [q, if_neg (by omega)]
  exact ⟨vg, vc, vu, gs, cs, id0, h.ofRow (fun b hb => setc_blk _ hb) (by rw [k _ (by omega)]; exact h.c2) (by rw [k _ (by omega)]; exact h.c3) (by rw [k _ (by omega)]; exact h.c4) (by rw [k _ (by omega)]; exact h.c5) (by rw [k _ (by omega)]; exact h.c6) (by rw [k _ (by omega)]; exact h.c7) (by rw [k _ (by omega)]; exact h.c8), h1, h2⟩
theorem ptrs_inj {l l' : List Nat} (h : ptrs l = ptrs l') : l = l' := by
  induction l generalizing l' with
  | nil => cases l' with
    | nil => rfl
    | cons x y => cases h
  | cons x y ih => cases l' with
    | nil => cases h
    | cons x' y' =>
      simp only [ptrs, List.map_cons, List.cons.injEq] at h
      have h1 := ptr_inj h.1
      simp only [Prod.mk.injEq, and_true] at h1
      rw [h1, ih h.2]
theorem own_uniq {e : TypeId} {v : Value} {l l' : List Nat} (h : OwnO w e 1 v l.length (ptrs l)) (h' : OwnO w e 1 v l'.length (ptrs l')) : l = l' := by
  obtain ⟨b, c, e1⟩ := h.slice
  obtain ⟨b', c', e2⟩ := h'.slice
  rw [e1] at e2
  simp only [Value.slice.injEq] at e2
  apply ptrs_inj
  apply List.ext_getElem?
  intro i
  by_cases hi : i < l.length
  · obtain ⟨b1, o1, c1, g1, g2⟩ := h.at (i := i) (by omega)
    obtain ⟨b2, o2, c2, g3, g4⟩ := h'.at (i := i) (by omega)
    rw [g1] at g3
    simp only [Value.slice.injEq, Option.some.injEq, Addr.mk.injEq, and_true] at g3
    obtain ⟨⟨rfl, rfl⟩, _⟩ := g3
    rw [← g2, ← g4]
  · rw [List.getElem?_eq_none (by simp; omega), List.getElem?_eq_none (by simp; omega)]
/-- a cache joins -/
theorem RowAt.addcs (h : RowAt w0 w wb own ss rs) {v v' : Value} {l : List Nat} {news : List Value} {cb : Nat} {s : St} (c1 : cv w wb 0 = some v) (c2 : OwnO w 23 1 v l.length (ptrs l)) (hx : I.Box w cb (fun b => own b = (3, ss.length) ∧ b < w.heap.size) s)
    (r : AppR w w' 23 1 v v' (l.length + 1) (ptrs l ++ [ptr (cb, 0)]) news) (hnew : ∀ b, w.heap.size ≤ b → own b = (1, 0)) :
    RowAt w0 (setc w' wb 0 v') wb own (ss ++ [s]) rs ∧ cv w' wb 0 = some v := by
  obtain ⟨v0, l0, d1, d2, d3, d4, d5⟩ := h.cs
  rw [c1] at d1; cases d1
  have := own_uniq c2 d2
  subst this
  have hwl := h.book.wlt
  have hs := r.fr.size
  have ne : ∀ {b x}, own b = x → x ≠ (1, 0) → ¬ (blockOf v = some b) := fun e hx hh => hx (by rw [← e]; exact d3 _ hh)
  have nw : ∀ {b x}, own b = x → x ≠ (0, 0) → b ≠ wb := fun e hx hb => hx (by rw [← e, hb]; exact h.row)
  have hbn : ∀ b, blockOf v = some b → ¬ bookB (own b) := fun b hb hB => by
    rw [d3 b hb] at hB
    rcases hB with hB | hB
    · cases hB
    · simp only at hB; omega
  have hc : ∀ o, cv w' wb o = cv w wb o := fun o => r.fr.cv hwl (ne h.row (by simp)) o
  have c1' : cv w' wb 0 = some v := (hc 0).trans c1
  have bk : Book w' wb own := h.book.frame (fun _ _ _ => rfl) r.fr hbn
  have blk : ∀ {b x}, b < w.heap.size → own b = x → x ≠ (0, 0) → x ≠ (1, 0) → (setc w' wb 0 v').heap[b]? = w.heap[b]? := fun hb e h0 h1 => (setc_blk _ (nw e h0)).trans (r.fr.blk _ hb (ne e h1))
  have hv' : ∀ b, blockOf v' = some b → own b = (1, 0) := fun b hb => by
    obtain ⟨b', e1, e2⟩ := r.blk
    rw [hb] at e1; cases e1
    rcases e2 with e2 | e2
    · exact d3 b e2
    · exact hnew b e2
  have hw0 := h.fr.size
  have fr' : Fr (fun b => own b = (0, 0) ∨ own b = (1, 0)) w (setc w' wb 0 v') := (r.fr.mono fun b _ hb => .inr (d3 b hb)).setc _ _ fun _ => .inl h.row
  refine ⟨⟨h.fr.trans' fr' fun b hb1 hh => ?_, h.new, h.row, ⟨v', l ++ [cb], by rw [cv_setc _ c1', if_pos ⟨rfl, rfl⟩], ?_, hv', by rw [List.length_append, List.length_append, d4]; rfl, fun i t hi => ?_⟩, ?_, bk.set01 (by omega) c1' _⟩, c1'⟩
  · have := h.new b hb1; rw [this] at hh; rcases hh with hh | hh <;> cases hh
  · have e : ptrs (l ++ [cb]) = ptrs l ++ [ptr (cb, 0)] := by simp [ptrs]
    rw [e, List.length_append]
    exact r.own.frame fun b hb => setc_blk _ (nw (hv' b hb) (by simp))
  · have fb : ∀ {cb t j}, I.Box w cb (fun b => own b = (3, j) ∧ b < w.heap.size) t → I.Box (setc w' wb 0 v') cb (fun b => own b = (3, j) ∧ b < (setc w' wb 0 v').heap.size) t := fun hx =>
      Box.mono (hx.frame fr' fun b hb hh => by rw [hb.1] at hh; rcases hh with hh | hh <;> cases hh) (fun b hb => ⟨hb.1, Nat.lt_of_lt_of_le hb.2 fr'.size⟩) fun b hb => hb.2
    by_cases hlt : i < ss.length
    · rw [List.getElem?_append_left hlt] at hi
      obtain ⟨cb', e1, e2⟩ := d5 i t hi
      exact ⟨cb', by rw [List.getElem?_append_left (by omega)]; exact e1, fb e2⟩
    · have hi2 : i < (ss ++ [s]).length := (List.getElem?_eq_some_iff.1 hi).1
      rw [List.length_append, List.length_singleton] at hi2
      have hie : i = ss.length := by omega
      subst hie
      rw [List.getElem?_append_right (Nat.le_refl _), Nat.sub_self] at hi
      simp only [List.getElem?_cons_zero, Option.some.injEq] at hi
      subst hi
      exact ⟨cb, by rw [← d4, List.getElem?_append_right (Nat.le_refl _), Nat.sub_self]; rfl, fb hx⟩
  · obtain ⟨v2, l2, g1, g2, g3, g4, g5⟩ := h.rs
    refine ⟨v2, l2, by rw [cv_setc _ c1', if_neg (by omega)]; exact (hc 1).trans g1, g2.frame fun b hb => blk (g2.lt hb) (g3 b hb) (by simp) (by simp), g3, g4, fun i t hi => ?_⟩
    obtain ⟨rb, e1, e2⟩ := g5 i t hi
    exact ⟨rb, e1, Ref.mono (e2.frame fr' fun b hb hh => by rw [hb.1] at hh; rcases hh with hh | hh <;> cases hh) (fun b hb => ⟨hb.1, Nat.lt_of_lt_of_le hb.2 fr'.size⟩) fun b hb => hb.2⟩
/-- the document's cache joins -/
theorem RowAt.addrs (h : RowAt w0 w wb own ss rs) {v v' : Value} {l : List Nat} {news : List Value} {cb : Nat} {s : St} (c1 : cv w wb 1 = some v) (c2 : OwnO w 72 1 v l.length (ptrs l)) (hx : R.Ref w cb (fun b => own b = (4, rs.length) ∧ b < w.heap.size) s)
    (r : AppR w w' 72 1 v v' (l.length + 1) (ptrs l ++ [ptr (cb, 0)]) news) (hnew : ∀ b, w.heap.size ≤ b → own b = (2, 0)) :
    RowAt w0 (setc w' wb 1 v') wb own ss (rs ++ [s]) ∧ cv w' wb 1 = some v := by
  obtain ⟨v0, l0, d1, d2, d3, d4, d5⟩ := h.rs
  rw [c1] at d1; cases d1
  have := own_uniq c2 d2
  subst this
  have hwl := h.book.wlt
  have hs := r.fr.size
  have ne : ∀ {b x}, own b = x → x ≠ (2, 0) → ¬ (blockOf v = some b) := fun e hx hh => hx (by rw [← e]; exact d3 _ hh)
  have nw : ∀ {b x}, own b = x → x ≠ (0, 0) → b ≠ wb := fun e hx hb => hx (by rw [← e, hb]; exact h.row)
  have hbn : ∀ b, blockOf v = some b → ¬ bookB (own b) := fun b hb hB => by
    rw [d3 b hb] at hB
    rcases hB with hB | hB
    · cases hB
    · simp only at hB; omega
  have hc : ∀ o, cv w' wb o = cv w wb o := fun o => r.fr.cv hwl (ne h.row (by simp)) o
  have c1' : cv w' wb 1 = some v := (hc 1).trans c1
  have bk : Book w' wb own := h.book.frame (fun _ _ _ => rfl) r.fr hbn
  have blk : ∀ {b x}, b < w.heap.size → own b = x → x ≠ (0, 0) → x ≠ (2, 0) → (setc w' wb 1 v').heap[b]? = w.heap[b]? := fun hb e h0 h1 => (setc_blk _ (nw e h0)).trans (r.fr.blk _ hb (ne e h1))
  have hv' : ∀ b, blockOf v' = some b → own b = (2, 0) := fun b hb => by
    obtain ⟨b', e1, e2⟩ := r.blk
    rw [hb] at e1; cases e1
    rcases e2 with e2 | e2
    · exact d3 b e2
    · exact hnew b e2
  have hw0 := h.fr.size
  have fr' : Fr (fun b => own b = (0, 0) ∨ own b = (2, 0)) w (setc w' wb 1 v') := (r.fr.mono fun b _ hb => .inr (d3 b hb)).setc _ _ fun _ => .inl h.row
  refine ⟨⟨h.fr.trans' fr' fun b hb1 hh => ?_, h.new, h.row, ?_, ⟨v', l ++ [cb], by rw [cv_setc _ c1', if_pos ⟨rfl, rfl⟩], ?_, hv', by rw [List.length_append, List.length_append, d4]; rfl, fun i t hi => ?_⟩, bk.set01 (by omega) c1' _⟩, c1'⟩
  · have := h.new b hb1; rw [this] at hh; rcases hh with hh | hh <;> cases hh
  · obtain ⟨v2, l2, g1, g2, g3, g4, g5⟩ := h.cs
    refine ⟨v2, l2, by rw [cv_setc _ c1', if_neg (by omega)]; exact (hc 0).trans g1, g2.frame fun b hb => blk (g2.lt hb) (g3 b hb) (by simp) (by simp), g3, g4, fun i t hi => ?_⟩
    obtain ⟨rb, e1, e2⟩ := g5 i t hi
    exact ⟨rb, e1, Box.mono (e2.frame fr' fun b hb hh => by rw [hb.1] at hh; rcases hh with hh | hh <;> cases hh) (fun b hb => ⟨hb.1, Nat.lt_of_lt_of_le hb.2 fr'.size⟩) fun b hb => hb.2⟩
  · have e : ptrs (l ++ [cb]) = ptrs l ++ [ptr (cb, 0)] := by simp [ptrs]
    rw [e, List.length_append]
    exact r.own.frame fun b hb => setc_blk _ (nw (hv' b hb) (by simp))
  · have fb : ∀ {cb t j}, R.Ref w cb (fun b => own b = (4, j) ∧ b < w.heap.size) t → R.Ref (setc w' wb 1 v') cb (fun b => own b = (4, j) ∧ b < (setc w' wb 1 v').heap.size) t := fun hx =>
      Ref.mono (hx.frame fr' fun b hb hh => by rw [hb.1] at hh; rcases hh with hh | hh <;> cases hh) (fun b hb => ⟨hb.1, Nat.lt_of_lt_of_le hb.2 fr'.size⟩) fun b hb => hb.2
    by_cases hlt : i < rs.length
    · rw [List.getElem?_append_left hlt] at hi
      obtain ⟨cb', e1, e2⟩ := d5 i t hi
      exact ⟨cb', by rw [List.getElem?_append_left (by omega)]; exact e1, fb e2⟩
    · have hi2 : i < (rs ++ [s]).length := (List.getElem?_eq_some_iff.1 hi).1
      rw [List.length_append, List.length_singleton] at hi2
      have hie : i = rs.length := by omega
      subst hie
      rw [List.getElem?_append_right (Nat.le_refl _), Nat.sub_self] at hi
      simp only [List.getElem?_cons_zero, Option.some.injEq] at hi
      subst hi
      exact ⟨cb, by rw [← d4, List.getElem?_append_right (Nat.le_refl _), Nat.sub_self]; rfl, fb hx⟩
end
end B
end Go.V
namespace Go.V
open Go.Proofs
set_option maxRecDepth 100000
namespace B
open I (KV St grown)
section
variable {w0 w w' : World} {wb : Nat} {own own' : Own} {ss rs : List St}
set_option maxHeartbeats 4000000 in
theorem RowAt.joins (h : RowAt w0 w wb own ss ss) (hl : ss.length < 8796092000000) (r : Int) :
    Fn Try.prog 14 #[ptr (wb, 0), .int .i64 r] w fun x w' => x = .bool true ∧ ∃ own', RowAt w0 w' wb own' (ss ++ [I.St.new r]) (ss ++ [I.St.new r]) := by
  refine Try.go14 (by simp) ?_
  simp -implicitDefEqProofs only [go_sem, Nat.reduceEqDiff, Try.f14]
  refine contL_call Try.pl9 ((I.Box.new w r).mono ?_)
  rintro _ w1 ⟨cb, rfl, hx, f1⟩
  have h1 := (h.grow f1 (3, ss.length)).grow (Fr.refl (fun _ => False) w1) (1, 0)
  have hx1 : I.Box w1 cb (fun b => ownN (ownN own w.heap.size (3, ss.length)) w1.heap.size (1, 0) b = (3, ss.length) ∧ b < w1.heap.size) (I.St.new r) := Box.mono hx (fun b hb => ⟨by rw [ownN_old _ hb.2, ownN_new _ hb.1], hb.2⟩) fun b hb => hb.2
  obtain ⟨v, l, c1, c2, c3, c4, c5⟩ := h1.cs
  have a1 : rdO Try.prog 36 w1 wb 0 = some v := rd_cv Try.agg36 c1
  obtain ⟨v', w2, run2, r2⟩ := app_new (P := Try.prog) (ts := #[36, 36]) (t := 36) (t' := 36) rfl rfl Try.slc36 Try.int36 und36 Try.sz23 by23 Try.zero23 rfl c2 (m := 1) #[ptr (cb, 0)] rfl rfl (by omega) (by omega) (by omega)
  obtain ⟨h3, c1'⟩ := h1.addcs c1 c2 hx1 r2 (fun b hb => ownN_new _ hb)
  have b1 := wr_cv (P := Try.prog) (t := 36) (v := v') Try.sz36 (one_own r2.own) c1'
  simp -implicitDefEqProofs only [go_sem, Nat.reduceEqDiff, a1]
  refine contL_is (v := .slice (some ⟨w1.heap.size, 0, none⟩) 1 1) (w' := w1.alloc (.cells #[ptr (cb, 0)] 23)) rfl ?_
  simp -implicitDefEqProofs only [go_sem, Nat.reduceEqDiff]
  refine contL_sem ⟨v', w2, run2, ?_⟩
  simp -implicitDefEqProofs only [go_sem, Nat.reduceEqDiff, b1]
  generalize setc w2 wb 0 v' = w3 at *
  generalize ownN (ownN own w.heap.size (3, ss.length)) w1.heap.size (1, 0) = own3 at *
  obtain ⟨v2, l2, d1, d2, d3, d4, d5⟩ := h3.rs
  have a2 : rdO Try.prog 37 w3.drew wb 1 = some v2 := rd_cv Try.agg37 d1
  refine den_ext (fun j => j == 6 || j == 7) [0, 1, 2, 3, 4, 5, 6, 7, 8, 9, 10, 11] rfl (by kernel_rfl) (by kernel_rfl) ?_
  simp -implicitDefEqProofs only [go_sem, Nat.reduceEqDiff, List.getElem?_toArray, List.getElem?_cons_zero, List.getElem?_cons_succ, a2]
  refine contLX_call Try.pl36 ((R.Ref.new w3.drew r).mono ?_)
  rintro _ w4 ⟨rb, rfl, hy, f4⟩
  refine ⟨fun _ => f4.ext0, ?_⟩
  have f34 : Fr (fun _ => False) w3 w4 := ((Fr.refl _ w3).drew).trans f4
  have h4 := (h3.grow f34 (4, ss.length)).grow (Fr.refl (fun _ => False) w4) (2, 0)
  have hy1 : R.Ref w4 rb (fun b => ownN (ownN own3 w3.heap.size (4, ss.length)) w4.heap.size (2, 0) b = (4, ss.length) ∧ b < w4.heap.size) (I.St.new r) := Ref.mono hy (fun b hb => ⟨by
    have hb1 : w3.heap.size ≤ b := hb.1
    rw [ownN_old _ hb.2, ownN_new _ hb1], hb.2⟩) fun b hb => hb.2
  obtain ⟨v3, l3, e1, e2, e3, e4, e5⟩ := h4.rs
  have e1' : cv w4 wb 1 = some v2 := by rw [f34.cv h3.book.wlt id]; exact d1
  rw [e1] at e1'; cases e1'
  obtain ⟨v4, w5, run5, r5⟩ := app_new (P := Try.prog) (ts := #[37, 37]) (t := 37) (t' := 37) rfl rfl Try.slc37 Try.int37 und37 Try.sz72 by72 Try.zero72 rfl e2 (m := 1) #[ptr (rb, 0)] rfl rfl (by omega) (by omega) (by omega)
  obtain ⟨h6, c6⟩ := h4.addrs e1 e2 hy1 r5 (fun b hb => ownN_new _ hb)
  have b6 := wr_cv (P := Try.prog) (t := 37) (v := v4) Try.sz37 (one_own r5.own) c6
  simp -implicitDefEqProofs only [go_sem, Nat.reduceEqDiff, List.getElem?_toArray, List.getElem?_cons_zero, List.getElem?_cons_succ]
  refine contLX_is (v := .slice (some ⟨w4.heap.size, 0, none⟩) 1 1) (w' := w4.alloc (.cells #[ptr (rb, 0)] 72)) rfl (fun _ => Ext.alloc _ _) ?_
  simp -implicitDefEqProofs only [go_sem, Nat.reduceEqDiff, List.getElem?_toArray, List.getElem?_cons_zero, List.getElem?_cons_succ]
  refine contLX_sem ⟨v4, w5, run5, fun h => (by cases h), ?_⟩
  simp -implicitDefEqProofs only [go_sem, Nat.reduceEqDiff, List.getElem?_toArray, List.getElem?_cons_zero, List.getElem?_cons_succ, b6]
  exact ⟨fun h => (by cases h), _, h6⟩
end
end B
end Go.V
