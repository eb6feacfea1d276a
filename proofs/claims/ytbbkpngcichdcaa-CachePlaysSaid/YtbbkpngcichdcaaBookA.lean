/-
  The book of lists that were handed out: its form in memory; 'stands'.
-/
import Derived.Test.YtbbkpngcichdcaaRefE
namespace Go.V
open Go.Proofs
set_option maxRecDepth 100000
namespace B
open I (KV St)
/-- a slice whose elements are all m, in blocks of Q -/
def AllM (w : World) (Q : Nat → Prop) (v : Value) (m : Int) : Prop :=
  ∃ base len cap, v = .slice base len cap ∧ len < 9223372036854775000 ∧ ∀ i, i < len → ∃ b o, base = some ⟨b, o, none⟩ ∧ Q b ∧ cv w b (o + i) = some (.int .i64 m)
theorem AllM.stay {w w' : World} {Q Q' : Nat → Prop} {v : Value} {m : Int} (h : AllM w Q v m) (hq : ∀ b, b < w.heap.size → Q b → Q' b) (hc : ∀ b o, Q b → cv w b o = some (.int .i64 m) → cv w' b o = some (.int .i64 m)) : AllM w' Q' v m := by
  obtain ⟨base, len, cap, rfl, hl, h⟩ := h
  refine ⟨base, len, cap, rfl, hl, fun i hi => ?_⟩
  obtain ⟨b, o, h1, h2, h3⟩ := h i hi
  exact ⟨b, o, h1, hq b (cv_lt h3) h2, hc b _ h2 h3⟩
/-- a group: its lists and its mark -/
abbrev Grp := List Value × Int
def Grp.cells (g : Grp) : List Value := g.1 ++ [.int .i64 g.2]
def gcells (gs : List Grp) : List Value := gs.flatMap Grp.cells
theorem gcells_app (a b : List Grp) : gcells (a ++ b) = gcells a ++ gcells b := by simp [gcells]
theorem gcells_len : ∀ (gs : List Grp), (∀ g ∈ gs, g.1.length = 4) → (gcells gs).length = gs.length * 5
  | [], _ => rfl
  | g :: gs, h => by
    show (Grp.cells g ++ gcells gs).length = _
    rw [List.length_append, gcells_len gs fun x hx => h x (by simp [hx]), List.length_cons]
    simp only [Grp.cells, List.length_append, List.length_cons, List.length_nil, h g (by simp)]; omega
theorem gcells_get : ∀ (gs : List Grp) (i j : Nat) (g : Grp), (∀ g ∈ gs, g.1.length = 4) → gs[i]? = some g → j < 5 → (gcells gs)[i * 5 + j]? = (Grp.cells g)[j]?
  | [], _, _, _, _, h, _ => by simp at h
  | g :: gs, 0, j, g', h4, h, hj => by
    simp only [List.getElem?_cons_zero, Option.some.injEq] at h
    subst h
    have e : (Grp.cells g).length = 5 := by simp [Grp.cells, h4 g (by simp)]
    show (Grp.cells g ++ gcells gs)[0 * 5 + j]? = _
    rw [Nat.zero_mul, Nat.zero_add, List.getElem?_append_left (by omega)]
  | g :: gs, i + 1, j, g', h4, h, hj => by
    simp only [List.getElem?_cons_succ] at h
    have e : (Grp.cells g).length = 5 := by simp [Grp.cells, h4 g (by simp)]
    show (Grp.cells g ++ gcells gs)[(i + 1) * 5 + j]? = _
    rw [List.getElem?_append_right (by omega), e, show (i + 1) * 5 + j - 5 = i * 5 + j by omega]
    exact gcells_get gs i j g' (fun x hx => h4 x (by simp [hx])) h hj
/-- who owns a block: 0 the row, 1 its caches' list, 2 its references' list, (3, i) a cache, (4, i) a reference, 5 groups, 6 calm, 7 was, (8, i) a calm list, 9 copies, 10 marked lists, (11, i) a list that is looked at -/
abbrev Own := Nat → Nat × Nat
def bookB (o : Nat × Nat) : Prop := o.1 = 0 ∨ (5 ≤ o.1 ∧ o.1 ≤ 10)
/-- a calm list, its copy, what they hold -/
structure Calm where
  l : Value
  u : Value
  xs : KV
structure BookAt (w : World) (wb : Nat) (own : Own) (vg vc vu : Value) (gs : List Grp) (cl cu : List Value) (cs : List Calm) (id0 : Nat) : Prop where
  row : own wb = (0, 0)
  c2 : cv w wb 2 = some vg
  c3 : ∃ z, cv w wb 3 = some (.int .i64 z)
  c4 : ∃ z, cv w wb 4 = some (.int .i64 z)
  c5 : cv w wb 5 = some vc
  c6 : cv w wb 6 = some vu
  c7 : ∃ z, cv w wb 7 = some (.int .i64 z)
  c8 : cv w wb 8 = some (.bool false)
  og : OwnO w 79 5 vg gs.length (gcells gs)
  bg : ∀ b, blockOf vg = some b → own b = (5, 0)
  oc : OwnO w 29 1 vc cl.length cl
  bc : ∀ b, blockOf vc = some b → own b = (6, 0)
  ou : OwnO w 29 1 vu cu.length cu
  bu : ∀ b, blockOf vu = some b → own b = (7, 0)
  four : ∀ g ∈ gs, g.1.length = 4
  marked : ∀ g ∈ gs, ∀ v ∈ g.1, AllM w (fun b => own b = (10, 0)) v g.2
  calm : ∀ j c, cs[j]? = some c → OwnO w 3 1 c.l c.xs.length (I.keysV c.xs) ∧ (∀ b, blockOf c.l = some b → own b = (8, id0 + j)) ∧ OwnO w 3 1 c.u c.xs.length (I.keysV c.xs) ∧ (∀ b, blockOf c.u = some b → own b = (9, 0)) ∧ c.xs.length < 8796092000000
  lg : gs.length ≤ 65
def Book (w : World) (wb : Nat) (own : Own) : Prop := ∃ vg vc vu gs cs id0, BookAt w wb own vg vc vu gs (cs.map (·.l)) (cs.map (·.u)) cs id0 ∧ gs.length ≤ 64 ∧ cs.length ≤ 64
theorem BookAt.frame {w w' : World} {wb : Nat} {own own' : Own} {vg vc vu : Value} {gs : List Grp} {cl cu : List Value} {cs : List Calm} {id0 : Nat} (h : BookAt w wb own vg vc vu gs cl cu cs id0)
    (ho : ∀ b, b < w.heap.size → bookB (own b) → own' b = own b) {G : Nat → Prop} (f : Fr G w w') (hg : ∀ b, G b → ¬ bookB (own b)) : BookAt w' wb own' vg vc vu gs cl cu cs id0 := by
  have hwb : wb < w.heap.size := cv_lt h.c2
  have bb : ∀ {b x}, own b = x → bookB x → ¬ G b := fun e hx hG => hg _ hG (by rw [e]; exact hx)
  have hc : ∀ o, cv w' wb o = cv w wb o := fun o => f.cv hwb (bb h.row (.inl rfl)) o
  have blk : ∀ {b x}, b < w.heap.size → own b = x → bookB x → w'.heap[b]? = w.heap[b]? ∧ own' b = x := fun hb e hx => ⟨f.blk _ hb (bb e hx), (ho _ hb (by rw [e]; exact hx)).trans e⟩
  have b5 : bookB (5, 0) := .inr ⟨by omega, by omega⟩
  have b6 : bookB (6, 0) := .inr ⟨by simp, by simp⟩
  have b7 : bookB (7, 0) := .inr ⟨by simp, by simp⟩
  have b9 : bookB (9, 0) := .inr ⟨by simp, by simp⟩
  have b10 : bookB (10, 0) := .inr ⟨by simp, by simp⟩
  have b8 : ∀ j, bookB (8, j) := fun j => .inr ⟨by simp, by simp⟩
  refine ⟨(ho _ hwb (.inl (by rw [h.row]))).trans h.row, (hc 2).trans h.c2, by rw [hc]; exact h.c3, by rw [hc]; exact h.c4, (hc 5).trans h.c5, (hc 6).trans h.c6, by rw [hc]; exact h.c7, (hc 8).trans h.c8,
    h.og.frame fun b hb => (blk (h.og.lt hb) (h.bg b hb) b5).1, fun b hb => (blk (h.og.lt hb) (h.bg b hb) b5).2, h.oc.frame fun b hb => (blk (h.oc.lt hb) (h.bc b hb) b6).1, fun b hb => (blk (h.oc.lt hb) (h.bc b hb) b6).2,
    h.ou.frame fun b hb => (blk (h.ou.lt hb) (h.bu b hb) b7).1, fun b hb => (blk (h.ou.lt hb) (h.bu b hb) b7).2, h.four, fun g hg v hv => (h.marked g hg v hv).stay (fun b hb e => (blk hb e b10).2) (fun b o e hc => ?_), fun j c hj => ?_, h.lg⟩
  · rw [cv_blk (blk (cv_lt hc) e b10).1]; exact hc
  · obtain ⟨h1, h2, h3, h4, h5⟩ := h.calm j c hj
    exact ⟨h1.frame fun b hb => (blk (h1.lt hb) (h2 b hb) (b8 _)).1, fun b hb => (blk (h1.lt hb) (h2 b hb) (b8 _)).2, h3.frame fun b hb => (blk (h3.lt hb) (h4 b hb) b9).1, fun b hb => (blk (h3.lt hb) (h4 b hb) b9).2, h5⟩
theorem Book.frame {w w' : World} {wb : Nat} {own own' : Own} (h : Book w wb own) (ho : ∀ b, b < w.heap.size → bookB (own b) → own' b = own b) {G : Nat → Prop} (f : Fr G w w') (hg : ∀ b, G b → ¬ bookB (own b)) : Book w' wb own' := by
  obtain ⟨vg, vc, vu, gs, cs, id0, h, h1, h2⟩ := h
  exact ⟨vg, vc, vu, gs, cs, id0, h.frame ho f hg, h1, h2⟩
/-- the tail of a slice -/
theorem tail {P : Program} {w : World} {t e sz n : Nat} {v : Value} {cs : List Value} (ha : arrO P t = none) (hs : slcO P t = some e) (hsz : szO P e = some sz) (h : OwnO w e sz v (n + 1) cs) :
    ∃ v', sliceP P t v (some (.int .i64 1)) none none = some v' ∧ OwnO w e sz v' n (cs.drop sz) ∧ ∀ b, blockOf v' = some b → blockOf v = some b := by
  rcases h with ⟨_, h, _⟩ | ⟨b, o, cap, c, rfl, h1, h2, h3, h4, h5⟩
  · cases h
  · have hm : (n + 1) * sz = n * sz + sz := by rw [Nat.add_mul, Nat.one_mul]
    refine ⟨.slice (if cap = 1 then some ⟨b, o, none⟩ else some ⟨b, o + sz, none⟩) n (cap - 1), ?_, ?_, ?_⟩
    · simp only [sliceP, ha, hs, Option.bind_some, optB, sbO]
      rw [if_pos (by omega)]
      simp only [Option.bind_some, hsz, Option.map_some, Option.some.injEq, Value.slice.injEq]
      refine ⟨?_, by omega, rfl⟩
      by_cases hc : cap = 1
      · rw [if_pos (by omega), if_pos hc]
      · rw [if_neg (by omega), if_neg hc]; simp [Addr.add]
    · by_cases hc : cap = 1
      · rw [if_pos hc]
        have hn : n = 0 := by omega
        subst hn
        refine .inr ⟨b, o, cap - 1, c, rfl, h1, ?_, by omega, by rw [List.length_drop, h4]; omega, fun i hi => by omega⟩
        subst hc; omega
      · rw [if_neg hc]
        refine .inr ⟨b, o + sz, cap - 1, c, rfl, h1, ?_, by omega, by rw [List.length_drop, h4]; omega, fun i hi => ?_⟩
        · have : cap * sz = (cap - 1) * sz + sz := by
            rw [show cap = cap - 1 + 1 by omega, Nat.add_mul, Nat.one_mul, Nat.add_sub_cancel]
          omega
        · rw [List.getElem?_drop, Nat.add_assoc]; exact h5 (sz + i) (by omega)
    · intro b' hb'
      split at hb' <;> exact hb'
end B
end Go.V
