/-
  'wakes': the first untouched list is as it was, and is marked.
-/
import Derived.Test.YtbbkpngcichdcaaBookE
namespace Go.V
open Go.Proofs
set_option maxRecDepth 100000
namespace B
open I (KV St)
section
variable {w w' : World} {wb : Nat} {own own' : Own} {vg vc vu : Value} {gs : List Grp} {cl cu : List Value} {cs : List Calm} {id0 : Nat}
theorem BookAt.wakes {c0 : Calm} {J : Nat → Prop} (hJ : J 99) (h : BookAt w wb own vg vc vu gs ((c0 :: cs).map (·.l)) ((c0 :: cs).map (·.u)) (c0 :: cs) id0) (hg : gs.length ≤ 64) :
    Fn Try.prog 46 #[ptr (wb, 2)] w fun x w' => x = .tuple #[] ∧ ∃ own' vg' vc' vu' gs', BookAt w' wb own' vg' vc' vu' gs' (cs.map (·.l)) (cs.map (·.u)) cs (id0 + 1) ∧ gs'.length ≤ 64 ∧ StepJ wb J own own' w w' := by
  refine Try.go46 (by simp) ?_
  obtain ⟨hl, hlb, hu, hub, hn⟩ := h.calm 0 c0 rfl
  have a5 : rdO Try.prog 39 w wb 5 = some _ := rd_cv Try.agg39 h.c5
  have a6 : rdO Try.prog 39 w wb 6 = some _ := rd_cv Try.agg39 h.c6
  have a8 : rdO Try.prog 4 w wb 8 = some _ := rd_cv Try.agg4 h.c8
  obtain ⟨cb, co, cc, e1, e2⟩ := h.oc.at (i := 0) (by simp)
  obtain ⟨ub, uo, uc, e3, e4⟩ := h.ou.at (i := 0) (by simp)
  subst e1; subst e3
  have r1 : rdO Try.prog 29 w cb co = some c0.l := rd_cv Try.agg29 e2
  have r2 : rdO Try.prog 29 w ub uo = some c0.u := rd_cv Try.agg29 e4
  have i0 : (0 : Int) < (((c0.l :: cs.map (·.l)).length : Nat) : Int) := by rw [List.length_cons]; omega
  have i1 : (0 : Int) < (((c0.u :: cs.map (·.u)).length : Nat) : Int) := by rw [List.length_cons]; omega
  have st := I.same_true (own_ints hl) (own_ints hu) (by rw [List.length_map]; omega)
  simp -implicitDefEqProofs only [go_sem, Nat.reduceEqDiff, Try.f46, a5, a6, a8, Int.le_refl, i0, i1, and_self, Int.reduceToNat, Nat.zero_mul, Nat.add_zero, r1, r2, List.getElem?_toArray, List.getElem?_cons_zero, List.getElem?_cons_succ, beq_self_eq_true, if_true]
  refine contL_call Try.pl31 (st.mono ?_)
  rintro _ w1 ⟨rfl, f1⟩
  have h1 := h.frame (own' := own) (fun _ _ _ => rfl) f1 fun _ h => h.elim
  have hc1 : ∀ o, cv w1 wb o = cv w wb o := fun o => f1.cv h.wlt id o
  -- the mark that all is well
  have a9 := wr_cv (P := Try.prog) (t := 4) (v := .bool false) Try.sz4 rfl h1.c8
  have q2 := fun o => cv_setc (.bool false) h1.c8 wb o
  have h2 : BookAt (setc w1 wb 8 (.bool false)) wb own _ _ _ gs ((c0 :: cs).map (·.l)) ((c0 :: cs).map (·.u)) (c0 :: cs) id0 :=
    h1.ofRow (fun b hb => setc_blk _ hb) (by rw [q2, if_neg (by omega)]; exact h1.c2) (by rw [q2, if_neg (by omega)]; exact h1.c3) (by rw [q2, if_neg (by omega)]; exact h1.c4) (by rw [q2, if_neg (by omega)]; exact h1.c5) (by rw [q2, if_neg (by omega)]; exact h1.c6) (by rw [q2, if_neg (by omega)]; exact h1.c7) (by rw [q2, if_pos ⟨rfl, rfl⟩])
  have f2 : Fr (fun b => b = wb) w (setc w1 wb 8 (.bool false)) := (f1.mono fun _ _ h => h.elim).setc _ _ fun _ => rfl
  have c2 : ∀ o, o < 2 → cv (setc w1 wb 8 (.bool false)) wb o = cv w wb o := fun o ho => by rw [q2, if_neg (by omega)]; exact hc1 o
  obtain ⟨lb, lc, hls⟩ := hl.slice
  rw [hls]
  simp -implicitDefEqProofs only [go_sem, Nat.reduceEqDiff, a9, Bool.not_true, List.getElem?_toArray, List.getElem?_cons_zero, List.getElem?_cons_succ, beq_self_eq_true, if_true]
  generalize setc w1 wb 8 (.bool false) = w2 at *
  -- how much is untouched
  obtain ⟨z, hz⟩ := h2.c7
  have a7 : rdO Try.prog 3 w2 wb 7 = some _ := rd_cv Try.agg3 hz
  have b7 := wr_cv (P := Try.prog) (t := 3) (v := .int .i64 (IntKind.i64.wrap (z - (c0.xs.length : Int)))) Try.sz3 rfl hz
  have h3 := h2.seti (o := 7) (by omega) (IntKind.i64.wrap (z - (c0.xs.length : Int)))
  have f3 := f2.setc (b := wb) 7 (.int .i64 (IntKind.i64.wrap (z - (c0.xs.length : Int)))) fun _ => rfl
  have c3 : ∀ o, o < 2 → cv (setc w2 wb 7 (.int .i64 (IntKind.i64.wrap (z - (c0.xs.length : Int))))) wb o = cv w wb o := fun o ho => by rw [cv_setc _ hz, if_neg (by omega)]; exact c2 o ho
  simp -implicitDefEqProofs only [go_sem, Nat.reduceEqDiff, a7, b7]
  generalize setc w2 wb 7 (.int .i64 (IntKind.i64.wrap (z - (c0.xs.length : Int)))) = w3 at *
  -- the two lists are cut
  have oc3 := h3.oc
  obtain ⟨vc', p1, p2, p3⟩ := tail (P := Try.prog) (n := (cs.map (·.l)).length) Try.arr39 Try.slc39 Try.sz29 oc3
  have a5 : rdO Try.prog 39 w3 wb 5 = some _ := rd_cv Try.agg39 h3.c5
  have b5 := wr_cv (P := Try.prog) (t := 39) (v := vc') Try.sz39 (one_own p2) h3.c5
  simp only [List.map_cons, List.length_cons, List.drop_succ_cons, List.drop_zero] at p1 p2 a5 h3
  have h4 := h3.lists (o := 5) (x := vc') (vg' := vg) (vu' := _) (.inr (.inl ⟨rfl, rfl, rfl, rfl⟩)) h3.og h3.bg p2 (fun b hb => h3.bc b (p3 b hb)) h3.ou h3.bu (fun g hg => hg) h3.lg
  have f4 := f3.setc (b := wb) 5 vc' fun _ => rfl
  have c4 : ∀ o, o < 2 → cv (setc w3 wb 5 vc') wb o = cv w wb o := fun o ho => by rw [cv_setc _ h3.c5, if_neg (by omega)]; exact c3 o ho
  simp -implicitDefEqProofs only [go_sem, Nat.reduceEqDiff, List.length_cons, a5, p1, b5]
  generalize setc w3 wb 5 vc' = w4 at *
  obtain ⟨vu', s1, s2, s3⟩ := tail (P := Try.prog) (n := (cs.map (·.u)).length) Try.arr39 Try.slc39 Try.sz29 h4.ou
  have a6 : rdO Try.prog 39 w4 wb 6 = some _ := rd_cv Try.agg39 h4.c6
  have b6 := wr_cv (P := Try.prog) (t := 39) (v := vu') Try.sz39 (one_own s2) h4.c6
  simp only [List.length_cons, List.drop_succ_cons, List.drop_zero] at s1 s2 a6
  have h5 := h4.lists (o := 6) (x := vu') (vg' := vg) (vc' := vc') (.inr (.inr ⟨rfl, rfl, rfl, rfl⟩)) h4.og h4.bg h4.oc h4.bc s2 (fun b hb => h4.bu b (s3 b hb)) (fun g hg => hg) h4.lg
  have f5 := f4.setc (b := wb) 6 vu' fun _ => rfl
  have c5 : ∀ o, o < 2 → cv (setc w4 wb 6 vu') wb o = cv w wb o := fun o ho => by rw [cv_setc _ h4.c6, if_neg (by omega)]; exact c4 o ho
  simp -implicitDefEqProofs only [go_sem, Nat.reduceEqDiff, List.length_cons, a6, s1, b6]
  generalize setc w4 wb 6 vu' = w5 at *
  obtain ⟨hl5, hlb5, _⟩ := h5.calm 0 c0 rfl
  have h6 := h5.popc (11, 99)
  rw [← hls]
  refine contL_call Try.pl60 ((h6.keep (j := 99) hl5 (fun b hb => by
    show (if own b = (8, id0) then (11, 99) else own b) = (11, 99)
    rw [if_pos (by rw [hlb5 b hb, Nat.add_zero])]) (by omega) hg).mono ?_)
  rintro _ w6 ⟨rfl, own', vg', gs', h7, hg7, st7⟩
  simp -implicitDefEqProofs only [go_sem, Nat.reduceEqDiff]
  refine ⟨own', vg', vc', vu', gs', h7, hg7, StepJ.trans (StepJ.rowW h.row f5 (c5 0 (by omega)) (c5 1 (by omega)) fun b _ hb _ => ?_) (st7.toJ hJ)⟩
  show (if own b = (8, id0) then (11, 99) else own b) = own b
  rw [if_neg]
  intro e; exact hb (by rw [e]; exact .inr ⟨by simp, by simp⟩)
end
end B
end Go.V
