/-
  The walks of 'start', 'drop', 'last' of a row of ints.
-/
import Derived.Test.YtbbkpngcichdcaaCacheA
namespace Go.V
open Go.Proofs
set_option maxRecDepth 100000
namespace I

theorem drop {w : World} {r e : Ad} {a b : List Ad} (h : RowAt w 3 r (a ++ e :: b)) (hs : Sep r (a ++ e :: b)) (hl : (a ++ e :: b).length < 4611686018427387904) :
    Fn Try.prog 34 #[ptr r, ptr e] w fun x w' => x = .tuple #[] ∧ RowAt w' 3 r (a ++ b) ∧ Upd (LinkS 3 r (a ++ e :: b)) w w' := by
  obtain ⟨h1, h2, h3, h4⟩ := h.ring.nbrs
  obtain ⟨u, v, hu, hv, q1, q2⟩ := drop_world h hs
  have fin := drop_law h hs
  simp only at fin
  generalize prevOf r a = p at *
  generalize nextOf r b = n at *
  refine Try.go34 (by simp) ?_
  have a1 : rdO Try.prog 64 w.drew e.1 (e.2 + 3) = some (ptr p) := rd_cv Try.agg64 h1
  have a2 : rdO Try.prog 64 w.drew e.1 (e.2 + 4) = some (ptr n) := rd_cv Try.agg64 h2
  have c1 : cv w.drew p.1 (p.2 + 4) = some u := hu
  have a3 := wr_cv (P := Try.prog) (t := 64) (v := ptr n) Try.sz64 rfl c1
  obtain ⟨v2, c2⟩ : ∃ v2, cv (setc w.drew p.1 (p.2 + 4) (ptr n)) n.1 (n.2 + 3) = some v2 := by
    rw [cv_setc _ c1]; split
    · exact ⟨_, rfl⟩
    · exact ⟨_, hv⟩
  have a4 := wr_cv (P := Try.prog) (t := 64) (v := ptr p) Try.sz64 rfl c2
  have c3 : cv (setc (setc w.drew p.1 (p.2 + 4) (ptr n)) n.1 (n.2 + 3) (ptr p)) r.1 (r.2 + 5) = some (.int .i64 ((a ++ e :: b).length : Nat)) := by
    rw [cv_setc _ c2, if_neg (fun h => by have := q2 h.1; have := h.2; omega), cv_setc _ c1, if_neg (fun h => by have := q1 h.1; have := h.2; omega)]
    exact h.size
  have a5 : rdO Try.prog 3 _ r.1 (r.2 + 5) = some _ := rd_cv Try.agg3 c3
  have a6 := wr_cv (P := Try.prog) (t := 3) (v := .int .i64 ((a ++ b).length : Nat)) Try.sz3 rfl c3
  have a7 : IntKind.i64.wrap (((a ++ e :: b).length : Int) - 1) = ((a ++ b).length : Nat) := by
    rw [wrap64_id (by omega) (by omega)]; simp; omega
  simp -implicitDefEqProofs only [go_sem, Nat.reduceEqDiff, Nat.reduceAdd, Try.f34, a1, a2, a3, a4, a5, a6, binP, a7, ne_eq, not_true_eq_false]
  exact ⟨trivial, fin⟩

theorem last {w : World} {r e : Ad} {ns : List Ad} (h : RowAt w 3 r ns) (hs : Sep r (ns ++ [e])) {u v : Value} (he1 : cv w e.1 (e.2 + 3) = some u) (he2 : cv w e.1 (e.2 + 4) = some v) (hl : ns.length < 4611686018427387904) :
    Fn Try.prog 33 #[ptr r, ptr e] w fun x w' => x = .tuple #[] ∧ RowAt w' 3 r (ns ++ [e]) ∧ Upd (LinkS 3 r (ns ++ [e])) w w' := by
  have fin := last_law h hs he1 he2
  simp only at fin
  obtain ⟨g1, g2, b1, ⟨u2, b2⟩, b3, b4, ⟨u5, b5⟩, ⟨u6, b6⟩, b7⟩ := fin
  generalize prevOf r ns = l at *
  refine Try.go33 (by simp) ?_
  have a1 : rdO Try.prog 64 w.drew r.1 (r.2 + 3) = some (ptr l) := rd_cv Try.agg64 b1
  have a2 := wr_cv (P := Try.prog) (t := 64) (w := w.drew) (v := ptr l) Try.sz64 rfl he1
  have a3 := wr_cv (P := Try.prog) (t := 64) (v := ptr r) Try.sz64 rfl b2
  have a4 : rdO Try.prog 64 (World.drew _) e.1 (e.2 + 3) = some (ptr l) := rd_cv Try.agg64 b3
  have a5 : rdO Try.prog 64 (World.drew _) e.1 (e.2 + 4) = some (ptr r) := rd_cv Try.agg64 b4
  have a6 := wr_cv (P := Try.prog) (t := 64) (w := World.drew _) (v := ptr e) Try.sz64 rfl b5
  have a7 := wr_cv (P := Try.prog) (t := 64) (v := ptr e) Try.sz64 rfl b6
  have a8 : rdO Try.prog 3 _ r.1 (r.2 + 5) = some _ := rd_cv Try.agg3 b7
  have a9 := wr_cv (P := Try.prog) (t := 3) (v := .int .i64 ((ns ++ [e]).length : Nat)) Try.sz3 rfl b7
  have a10 : IntKind.i64.wrap ((ns.length : Int) + 1) = ((ns ++ [e]).length : Nat) := by
    rw [wrap64_id (by omega) (by omega)]; simp
  simp -implicitDefEqProofs only [go_sem, Nat.reduceEqDiff, Nat.reduceAdd, Nat.add_zero, Try.f33, a1, a2, a3, a4, a5, a6, a7, a8, a9, binP, a10, ne_eq, not_true_eq_false]
  exact ⟨trivial, g1, g2⟩

theorem start {w : World} {r : Ad} {u v : Value} (h1 : cv w r.1 (r.2 + 4) = some u) (h2 : cv w r.1 (r.2 + 3) = some v) (h3 : cv w r.1 (r.2 + 5) = some (.int .i64 0)) :
    Fn Try.prog 32 #[ptr r] w fun x w' => x = .tuple #[] ∧ RowAt w' 3 r [] ∧ Upd (LinkS 3 r []) w w' := by
  refine Try.go32 (by simp) ?_
  have a1 := wr_cv (P := Try.prog) (t := 64) (w := w.drew) (v := ptr r) Try.sz64 rfl h1
  have c1 : cv w.drew r.1 (r.2 + 4) = some u := h1
  have c2 : cv (setc w.drew r.1 (r.2 + 4) (ptr r)) r.1 (r.2 + 3) = some v := by rw [cv_setc _ c1, if_neg (by omega)]; exact h2
  have a2 := wr_cv (P := Try.prog) (t := 64) (v := ptr r) Try.sz64 rfl c2
  simp -implicitDefEqProofs only [go_sem, Nat.reduceEqDiff, Nat.add_zero, Try.f32, a1, a2]
  refine ⟨trivial, ⟨Ring.nil ?_ ?_, ?_⟩, ?_⟩
  · simp only [nx]; rw [cv_setc _ c2, if_neg (by omega), cv_setc _ c1, if_pos ⟨rfl, rfl⟩]
  · simp only [nx]; rw [cv_setc _ c2, if_pos ⟨rfl, rfl⟩]
  · rw [cv_setc _ c2, if_neg (by omega), cv_setc _ c1, if_neg (by omega)]; exact h3
  · exact (((Upd.refl _ _).drew).setc _ c1 LinkS.root.2.1).setc _ c2 LinkS.root.1
end I
end Go.V
