/-
  The rows of linked entries: what 'start', 'last' and 'drop' do to them.
-/
import Derived.Test.YtbbkpngcichdcaaTab
import Derived.Test.YtbbkpngcichdcaaRing
namespace Go.V
open Go.Proofs
set_option maxRecDepth 100000

/-- w' is w with cells of S written -/
structure Upd (S : Nat → Nat → Prop) (w w' : World) : Prop where
  os : w'.os = w.os
  out : w'.output = w.output
  size : w'.heap.size = w.heap.size
  blk : ∀ b, (∀ o, ¬ S b o) → w'.heap[b]? = w.heap[b]?
  cell : ∀ b o, ¬ S b o → cv w' b o = cv w b o
  keep : ∀ b o, (cv w b o).isSome → (cv w' b o).isSome
  thaw : ∀ b, Thawed w b → Thawed w' b
theorem Upd.refl (S : Nat → Nat → Prop) (w : World) : Upd S w w := ⟨rfl, rfl, rfl, fun _ _ => rfl, fun _ _ _ => rfl, fun _ _ h => h, fun _ h => h⟩
theorem Upd.drew {S : Nat → Nat → Prop} {w w' : World} (h : Upd S w w') : Upd S w w'.drew := ⟨h.os, h.out, h.size, h.blk, h.cell, h.keep, h.thaw⟩
theorem Upd.drew0 {S : Nat → Nat → Prop} {w w' : World} (h : Upd S w.drew w') : Upd S w w' := ⟨h.os, h.out, h.size, h.blk, h.cell, h.keep, h.thaw⟩
theorem Upd.mono {S T : Nat → Nat → Prop} {w w' : World} (h : Upd S w w') (hs : ∀ b o, S b o → T b o) : Upd T w w' :=
  ⟨h.os, h.out, h.size, fun b hb => h.blk b fun o ho => hb o (hs b o ho), fun b o hb => h.cell b o fun ho => hb (hs b o ho), h.keep, h.thaw⟩
theorem Upd.trans {S : Nat → Nat → Prop} {w w1 w2 : World} (h : Upd S w w1) (k : Upd S w1 w2) : Upd S w w2 :=
  ⟨k.os.trans h.os, k.out.trans h.out, k.size.trans h.size, fun b hb => (k.blk b hb).trans (h.blk b hb), fun b o hb => (k.cell b o hb).trans (h.cell b o hb), fun b o hb => k.keep b o (h.keep b o hb), fun b hb => k.thaw b (h.thaw b hb)⟩
theorem Upd.setc {S : Nat → Nat → Prop} {w w' : World} (h : Upd S w w') {b o : Nat} {u : Value} (v : Value) (hu : cv w' b o = some u) (hs : S b o) : Upd S w (setc w' b o v) := by
  refine ⟨(setc_os w' b o v).1.trans h.os, (setc_os w' b o v).2.trans h.out, (setc_size w' b o v).trans h.size, fun b' hb => ?_, fun b' o' hb => ?_, fun b' o' hb => ?_, fun b' hb => thaw_setc (h.thaw b' hb)⟩
  · rw [setc_blk v (fun e => hb o (by rw [e]; exact hs))]; exact h.blk b' hb
  · rw [cv_setc v hu, if_neg (fun e => hb (by rw [e.1, e.2]; exact hs))]; exact h.cell b' o' hb
  · rw [cv_setc v hu]; split
    · rfl
    · exact h.keep b' o' hb

/-- the cell of a place x at distance d -/
def nx (w : World) (d : Nat) : Ad → Option Value := fun x => cv w x.1 (x.2 + d)
/-- a row at r: its ring and its size. d: the distance of 'prev'; 'next' is behind it, the size behind that. -/
structure RowAt (w : World) (d : Nat) (r : Ad) (ns : List Ad) : Prop where
  ring : Ring (nx w (d + 1)) (nx w d) r ns
  size : cv w r.1 (r.2 + (d + 2)) = some (.int .i64 ns.length)
/-- the cells that lead on -/
def LinkS (d : Nat) (r : Ad) (ns : List Ad) (b o : Nat) : Prop := (b = r.1 ∧ (o = r.2 + d ∨ o = r.2 + (d + 1) ∨ o = r.2 + (d + 2))) ∨ ∃ x ∈ ns, b = x.1 ∧ (o = x.2 + d ∨ o = x.2 + (d + 1))
theorem LinkS.root {d : Nat} {r : Ad} {ns : List Ad} : LinkS d r ns r.1 (r.2 + d) ∧ LinkS d r ns r.1 (r.2 + (d + 1)) ∧ LinkS d r ns r.1 (r.2 + (d + 2)) := ⟨.inl ⟨rfl, .inl rfl⟩, .inl ⟨rfl, .inr (.inl rfl)⟩, .inl ⟨rfl, .inr (.inr rfl)⟩⟩
theorem LinkS.of {d : Nat} {r x : Ad} {ns : List Ad} (h : x = r ∨ x ∈ ns) : LinkS d r ns x.1 (x.2 + d) ∧ LinkS d r ns x.1 (x.2 + (d + 1)) := by
  rcases h with rfl | h
  · exact ⟨LinkS.root.1, LinkS.root.2.1⟩
  · exact ⟨.inr ⟨x, h, rfl, .inl rfl⟩, .inr ⟨x, h, rfl, .inr rfl⟩⟩
theorem RowAt.congr {w w' : World} {d : Nat} {r : Ad} {ns : List Ad} (h : RowAt w d r ns) (hc : ∀ b o, LinkS d r ns b o → cv w' b o = cv w b o) : RowAt w' d r ns :=
  ⟨h.ring.congr (fun _ hx => hc _ _ (LinkS.of hx).2) (fun _ hx => hc _ _ (LinkS.of hx).1), (hc _ _ LinkS.root.2.2).trans h.size⟩

theorem nx_setc {w : World} {d : Nat} {b o : Nat} {u : Value} (v : Value) (h : cv w b o = some u) (x : Ad) : nx (setc w b o v) d x = if x.1 = b ∧ x.2 + d = o then some v else nx w d x := by
  simp only [nx]; rw [cv_setc v h]

/-- places of a row: no two in one block but the root's own -/
def Sep (r : Ad) (ns : List Ad) : Prop := (r.1 :: ns.map (·.1)).Nodup ∧ ∀ x ∈ ns, x.2 = 0
theorem map_inj {l : List Ad} (hn : (l.map (·.1)).Nodup) {x y : Ad} (hx : x ∈ l) (hy : y ∈ l) (hxy : x.1 = y.1) : x = y := by
  induction l with
  | nil => cases hx
  | cons z l ih =>
    have hn' : z.1 ∉ l.map (·.1) ∧ (l.map (·.1)).Nodup := by simpa using hn
    rcases List.mem_cons.1 hx with hx | hx <;> rcases List.mem_cons.1 hy with hy | hy
    · rw [hx, hy]
    · exact absurd (List.mem_map.2 ⟨y, hy, by rw [← hxy, hx]⟩) hn'.1
    · exact absurd (List.mem_map.2 ⟨x, hx, by rw [hxy, hy]⟩) hn'.1
    · exact ih hn'.2 hx hy
theorem Sep.ne {r : Ad} {ns : List Ad} (h : Sep r ns) {x y : Ad} (hx : x = r ∨ x ∈ ns) (hy : y = r ∨ y ∈ ns) (hxy : x.1 = y.1) : x = y :=
  map_inj (l := r :: ns) (by simpa using h.1) (by simpa using hx) (by simpa using hy) hxy
theorem nodup_of_map {l : List Ad} (hn : (l.map (·.1)).Nodup) : l.Nodup := by
  induction l with
  | nil => simp
  | cons z l ih =>
    have hn' : z.1 ∉ l.map (·.1) ∧ (l.map (·.1)).Nodup := by simpa using hn
    exact List.nodup_cons.2 ⟨fun h => hn'.1 (List.mem_map.2 ⟨z, h, rfl⟩), ih hn'.2⟩
theorem Sep.nodup {r : Ad} {ns : List Ad} (h : Sep r ns) : (r :: ns).Nodup := nodup_of_map (by simpa using h.1)

theorem drop_world {w : World} {d : Nat} {r e : Ad} {a b : List Ad} (h : RowAt w d r (a ++ e :: b)) (hs : Sep r (a ++ e :: b)) :
    ∃ u v, nx w (d + 1) (prevOf r a) = some u ∧ nx w d (nextOf r b) = some v ∧
    (r.1 = (prevOf r a).1 → r.2 = (prevOf r a).2) ∧ (r.1 = (nextOf r b).1 → r.2 = (nextOf r b).2) := by
  obtain ⟨h1, h2, h3, h4⟩ := h.ring.nbrs
  refine ⟨_, _, h3, h4, fun he => ?_, fun he => ?_⟩
  · rcases prevOf_mem r a with hp | hp
    · rw [hp]
    · have := (List.nodup_cons.1 hs.1).1
      exact absurd (List.mem_map.2 ⟨prevOf r a, by simp [hp], he.symm⟩) this
  · rcases nextOf_mem r b with hp | hp
    · rw [hp]
    · have := (List.nodup_cons.1 hs.1).1
      exact absurd (List.mem_map.2 ⟨nextOf r b, by simp [hp], he.symm⟩) this

theorem drop_law {w : World} {d : Nat} {r e : Ad} {a b : List Ad} (h : RowAt w d r (a ++ e :: b)) (hs : Sep r (a ++ e :: b)) :
    let p := prevOf r a; let n := nextOf r b
    let w' := setc (setc (setc w.drew p.1 (p.2 + (d + 1)) (ptr n)) n.1 (n.2 + d) (ptr p)) r.1 (r.2 + (d + 2)) (.int .i64 ((a ++ b).length : Nat))
    RowAt w' d r (a ++ b) ∧ Upd (LinkS d r (a ++ e :: b)) w w' := by
  intro p n w'
  obtain ⟨h1, h2, h3, h4⟩ := h.ring.nbrs
  obtain ⟨u, v, hu, hv, q1, q2⟩ := drop_world h hs
  have hpm : p = r ∨ p ∈ a ++ e :: b := (prevOf_mem r a).imp id (fun h => by simp [p, h])
  have hnm : n = r ∨ n ∈ a ++ e :: b := (nextOf_mem r b).imp id (fun h => by simp [n, h])
  have u0 : Upd (LinkS d r (a ++ e :: b)) w w.drew := (Upd.refl _ _).drew
  have c1 : cv w.drew p.1 (p.2 + (d + 1)) = some u := hu
  have u1 := u0.setc (ptr n) c1 (LinkS.of hpm).2
  obtain ⟨v2, c2⟩ : ∃ v2, cv (setc w.drew p.1 (p.2 + (d + 1)) (ptr n)) n.1 (n.2 + d) = some v2 := by
    rw [cv_setc _ c1]; split
    · exact ⟨_, rfl⟩
    · exact ⟨_, hv⟩
  have u2 := u1.setc (ptr p) c2 (LinkS.of hnm).1
  have c3 : cv (setc (setc w.drew p.1 (p.2 + (d + 1)) (ptr n)) n.1 (n.2 + d) (ptr p)) r.1 (r.2 + (d + 2)) = some (.int .i64 ((a ++ e :: b).length : Nat)) := by
    rw [cv_setc _ c2, if_neg (fun h => by have := q2 h.1; have := h.2; simp only [n] at this; omega),
      cv_setc _ c1, if_neg (fun h => by have := q1 h.1; have := h.2; simp only [p] at this; omega)]
    exact h.size
  have u3 := u2.setc (.int .i64 ((a ++ b).length : Nat)) c3 LinkS.root.2.2
  refine ⟨⟨?_, ?_⟩, u3⟩
  · have ad_ne : ∀ {x y : Ad}, (x = r ∨ x ∈ a ++ e :: b) → (y = r ∨ y ∈ a ++ e :: b) → x.1 = y.1 → x = y := fun hx hy => hs.ne hx hy
    -- what 'next' and 'prev' are now
    have n1 : ∀ x, nx w' (d + 1) x = if x.1 = r.1 ∧ x.2 + (d + 1) = r.2 + (d + 2) then some (.int .i64 ((a ++ b).length : Nat)) else if x.1 = n.1 ∧ x.2 + (d + 1) = n.2 + d then some (ptr p) else if x.1 = p.1 ∧ x.2 + (d + 1) = p.2 + (d + 1) then some (ptr n) else nx w (d + 1) x := by
      intro x; simp only [w']; rw [nx_setc _ c3, nx_setc _ c2, nx_setc _ c1]; rfl
    have n0 : ∀ x, nx w' d x = if x.1 = r.1 ∧ x.2 + d = r.2 + (d + 2) then some (.int .i64 ((a ++ b).length : Nat)) else if x.1 = n.1 ∧ x.2 + d = n.2 + d then some (ptr p) else if x.1 = p.1 ∧ x.2 + d = p.2 + (d + 1) then some (ptr n) else nx w d x := by
      intro x; simp only [w']; rw [nx_setc _ c3, nx_setc _ c2, nx_setc _ c1]; rfl
    refine h.ring.drop hs.nodup ?_ (fun x hx hxp => ?_) ?_ (fun x hx hxn => ?_)
    · rw [n1, if_neg (fun h => by have := q1 h.1.symm; have := h.2; simp only [p] at *; omega), if_neg (fun h => ?_), if_pos ⟨rfl, rfl⟩]
      have e1 : (prevOf r a).2 = (nextOf r b).2 := congrArg Prod.snd (ad_ne hpm hnm h.1)
      have e2 : (prevOf r a).2 + (d + 1) = (nextOf r b).2 + d := h.2
      omega
    · rw [n1, if_neg (fun h => ?_), if_neg (fun h => ?_), if_neg (fun h => ?_)]
      · exact hxp (ad_ne hx hpm h.1)
      · have := ad_ne hx hnm h.1
        rw [this] at h; have := h.2; omega
      · have := ad_ne hx (.inl rfl) h.1
        rw [this] at h; have := h.2; omega
    · rw [n0, if_neg (fun h => by have := q2 h.1.symm; have := h.2; simp only [n] at *; omega), if_pos ⟨rfl, rfl⟩]
    · rw [n0, if_neg (fun h => ?_), if_neg (fun h => ?_), if_neg (fun h => ?_)]
      · have := ad_ne hx hpm h.1
        rw [this] at h; have := h.2; omega
      · exact hxn (ad_ne hx hnm h.1)
      · have := ad_ne hx (.inl rfl) h.1
        rw [this] at h; have := h.2; omega
  · simp only [w']; rw [cv_setc _ c3]; simp

theorem last_law {w : World} {d : Nat} {r e : Ad} {ns : List Ad} (h : RowAt w d r ns) (hs : Sep r (ns ++ [e])) {u v : Value} (he1 : cv w e.1 (e.2 + d) = some u) (he2 : cv w e.1 (e.2 + (d + 1)) = some v) :
    let l := prevOf r ns
    let w1 := setc (setc w.drew e.1 (e.2 + d) (ptr l)) e.1 (e.2 + (d + 1)) (ptr r)
    let w2 := setc (setc w1.drew l.1 (l.2 + (d + 1)) (ptr e)) r.1 (r.2 + d) (ptr e)
    let w' := setc w2 r.1 (r.2 + (d + 2)) (.int .i64 ((ns ++ [e]).length : Nat))
    RowAt w' d r (ns ++ [e]) ∧ Upd (LinkS d r (ns ++ [e])) w w' ∧
    -- what is asked on the way
    nx w d r = some (ptr l) ∧ (∃ u, cv (setc w.drew e.1 (e.2 + d) (ptr l)) e.1 (e.2 + (d + 1)) = some u) ∧ cv w1 e.1 (e.2 + d) = some (ptr l) ∧ cv w1 e.1 (e.2 + (d + 1)) = some (ptr r) ∧
    (∃ u, cv w1 l.1 (l.2 + (d + 1)) = some u) ∧ (∃ u, cv (setc w1.drew l.1 (l.2 + (d + 1)) (ptr e)) r.1 (r.2 + d) = some u) ∧ cv w2 r.1 (r.2 + (d + 2)) = some (.int .i64 (ns.length : Nat)) := by
  intro l w1 w2 w'
  have hlm : l = r ∨ l ∈ ns := prevOf_mem r ns
  have hlm' : l = r ∨ l ∈ ns ++ [e] := hlm.imp id (fun h => by simp [h])
  have hem : e = r ∨ e ∈ ns ++ [e] := .inr (by simp)
  have hrm : r = r ∨ r ∈ ns ++ [e] := .inl rfl
  have hne : ∀ x, x = r ∨ x ∈ ns → x.1 ≠ e.1 := by
    intro x hx hxe
    have := hs.ne (hx.imp id (fun h => by simp [h])) hem hxe
    subst this
    have hn := hs.nodup
    rcases hx with rfl | hx
    · exact (List.nodup_cons.1 hn).1 (by simp)
    · exact (List.nodup_append.1 (List.nodup_cons.1 hn).2).2.2 x hx x (by simp) rfl
  have hrl : r.1 = l.1 → r.2 = l.2 := fun hh => congrArg Prod.snd (hs.ne hrm hlm' hh)
  -- the ring's own two facts at its end
  obtain ⟨a', ha, hm⟩ := split_last r ns
  have f := h.ring.fwd
  rw [ha] at f
  have fl : nx w (d + 1) l = some (ptr r) := Chain.get (a := a') (b := []) (by simpa using f)
  obtain ⟨b', hb, hb'⟩ := split_head r ns.reverse
  have e2 : nextOf r ns.reverse = l := by simp [prevOf, nextOf, l]
  rw [e2] at hb
  have g := h.ring.bwd
  rw [show r :: ns.reverse ++ [r] = r :: (ns.reverse ++ [r]) by simp, hb] at g
  have gl : nx w d r = some (ptr l) := g.1
  have u0 : Upd (LinkS d r (ns ++ [e])) w w.drew := (Upd.refl _ _).drew
  have c1 : cv w.drew e.1 (e.2 + d) = some u := he1
  have u1 := u0.setc (ptr l) c1 (LinkS.of hem).1
  have c2 : cv (setc w.drew e.1 (e.2 + d) (ptr l)) e.1 (e.2 + (d + 1)) = some v := by
    rw [cv_setc _ c1, if_neg (by omega)]; exact he2
  have u2 := (u1.setc (ptr r) c2 (LinkS.of hem).2)
  have q1 : ∀ b o, cv w1 b o = if b = e.1 ∧ o = e.2 + (d + 1) then some (ptr r) else if b = e.1 ∧ o = e.2 + d then some (ptr l) else cv w b o := by
    intro b o; simp only [w1]; rw [cv_setc _ c2, cv_setc _ c1]; rfl
  have c3 : cv w1.drew l.1 (l.2 + (d + 1)) = some (ptr r) := by
    show cv w1 l.1 (l.2 + (d + 1)) = _
    rw [q1, if_neg (fun h => hne l hlm h.1), if_neg (fun h => hne l hlm h.1)]; exact fl
  have u3 := (u2.drew).setc (ptr e) c3 (LinkS.of hlm').2
  have c4 : ∃ u, cv (setc w1.drew l.1 (l.2 + (d + 1)) (ptr e)) r.1 (r.2 + d) = some u := by
    rw [cv_setc _ c3]; split
    · exact ⟨_, rfl⟩
    · refine ⟨ptr l, ?_⟩
      show cv w1 r.1 (r.2 + d) = _
      rw [q1, if_neg (fun h => hne r (.inl rfl) h.1), if_neg (fun h => hne r (.inl rfl) h.1)]; exact gl
  obtain ⟨u4, c4'⟩ := c4
  have u4 := u3.setc (ptr e) c4' LinkS.root.1
  have q2 : ∀ b o, cv w2 b o = if b = r.1 ∧ o = r.2 + d then some (ptr e) else if b = l.1 ∧ o = l.2 + (d + 1) then some (ptr e) else cv w1 b o := by
    intro b o; simp only [w2]; rw [cv_setc _ c4', cv_setc _ c3]; rfl
  have c5 : cv w2 r.1 (r.2 + (d + 2)) = some (.int .i64 (ns.length : Nat)) := by
    rw [q2, if_neg (by omega), if_neg (fun h => by have := hrl h.1; have := h.2; omega), q1, if_neg (fun h => hne r (.inl rfl) h.1), if_neg (fun h => hne r (.inl rfl) h.1)]; exact h.size
  have u5 := u4.setc (.int .i64 ((ns ++ [e]).length : Nat)) c5 LinkS.root.2.2
  have q3 : ∀ b o, cv w' b o = if b = r.1 ∧ o = r.2 + (d + 2) then some (.int .i64 ((ns ++ [e]).length : Nat)) else cv w2 b o := by
    intro b o; simp only [w']; rw [cv_setc _ c5]
  refine ⟨⟨?_, by rw [q3, if_pos ⟨rfl, rfl⟩]⟩, u5, gl, ⟨_, c2⟩, ?_, ?_, ⟨_, c3⟩, ⟨_, c4'⟩, c5⟩
  · have sn : Sep r ns := by
      refine ⟨?_, fun x hx => hs.2 x (by simp [hx])⟩
      have := hs.1
      rw [List.map_append, ← List.cons_append] at this
      exact (List.nodup_append.1 this).1
    refine h.ring.last sn.nodup ?_ ?_ (fun x hx hxl => ?_) ?_ ?_ (fun x hx => ?_)
    · show cv w' l.1 (l.2 + (d + 1)) = _
      rw [q3, if_neg (fun h => by have := hrl h.1.symm; have := h.2; omega), q2, if_neg (fun h => by have := hrl h.1.symm; have := h.2; omega), if_pos ⟨rfl, rfl⟩]
    · simp only [nx]; rw [q3, if_neg (fun h => hne r (.inl rfl) h.1.symm), q2, if_neg (fun h => hne r (.inl rfl) h.1.symm), if_neg (fun h => hne l hlm h.1.symm), q1, if_pos ⟨rfl, rfl⟩]
    · have hxe := hne x hx
      have hx' : x = r ∨ x ∈ ns ++ [e] := hx.imp id (fun h => by simp [h])
      simp only [nx]
      rw [q3, if_neg (fun h => by have := congrArg Prod.snd (hs.ne hx' hrm h.1); have := h.2; omega), q2, if_neg (fun h => by have := congrArg Prod.snd (hs.ne hx' hrm h.1); have := h.2; omega),
        if_neg (fun h => hxl (hs.ne hx' hlm' h.1)), q1, if_neg (fun h => hxe h.1), if_neg (fun h => hxe h.1)]
    · simp only [nx]; rw [q3, if_neg (by omega), q2, if_pos ⟨rfl, rfl⟩]
    · simp only [nx]; rw [q3, if_neg (fun h => hne r (.inl rfl) h.1.symm), q2, if_neg (fun h => hne r (.inl rfl) h.1.symm), if_neg (fun h => hne l hlm h.1.symm), q1, if_neg (by omega), if_pos ⟨rfl, rfl⟩]
    · have hxe := hne x (.inr hx)
      have hx' : x = r ∨ x ∈ ns ++ [e] := .inr (by simp [hx])
      have hxr : x ≠ r := fun h => (List.nodup_cons.1 sn.nodup).1 (h ▸ hx)
      simp only [nx]
      rw [q3, if_neg (fun h => hxr (hs.ne hx' hrm h.1)), q2, if_neg (fun h => hxr (hs.ne hx' hrm h.1)), if_neg (fun h => by have := congrArg Prod.snd (hs.ne hx' hlm' h.1); have := h.2; omega),
        q1, if_neg (fun h => hxe h.1), if_neg (fun h => hxe h.1)]
  · rw [q1, if_neg (by omega), if_pos ⟨rfl, rfl⟩]
  · rw [q1, if_pos ⟨rfl, rfl⟩]
end Go.V
