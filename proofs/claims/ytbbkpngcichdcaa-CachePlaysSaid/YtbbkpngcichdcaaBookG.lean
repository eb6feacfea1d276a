/-
  'leave' and 'ends'.
-/
import Derived.Test.YtbbkpngcichdcaaBookF
namespace Go.V
open Go.Proofs
set_option maxRecDepth 100000
namespace B
open I (KV St)
theorem und39 : (Try.prog.underlying 39).isSome = true := by kernel_rfl
theorem by29 : byO Try.prog 29 = some 24 := by kernel_rfl
def appNil (l : Value) : Sem Value := Builtin.append_ #[29, 29] 0 #[.slice none 0 0, l]
theorem appNil_eq (ev : Ev) (x : Value) (ts : Array TypeId) (h : ts = #[29, 29]) : Builtin.append_ ts 0 #[evO ev (Operand.const (.slice none 0 0)), x] = appNil x := by rw [h]; rfl
section
variable {w w' : World} {wb : Nat} {own own' : Own} {vg vc vu : Value} {gs : List Grp} {cl cu : List Value} {cs : List Calm} {id0 : Nat}
/-- the copy of a list -/
theorem copy {w : World} {l : Value} {xs : KV} (hl : OwnO w 3 1 l xs.length (I.keysV xs)) (hn : xs.length < 8796092000000) :
    ∃ u w', (Builtin.append_ #[29, 29] 0 #[.slice none 0 0, l]).run Try.prog w = .ok u w' ∧ OwnO w' 3 1 u xs.length (I.keysV xs) ∧ (∀ b, blockOf u = some b → w.heap.size ≤ b) ∧ Fr (fun _ => False) w w' := by
  have hkl : (I.keysV xs).length = xs.length := by simp [I.keysV]
  by_cases hz : xs.length = 0
  · obtain ⟨lb, lc, rfl⟩ := hl.slice
    rw [hz]
    have : xs = [] := List.length_eq_zero_iff.1 hz
    subst this
    exact ⟨_, w, run_app_zero (P := Try.prog) rfl rfl Try.slc29 Try.int29 Try.und29 Try.sz3 (Nat.le_refl 0), .nil _ _ _, fun b hb => (by cases hb), Fr.refl _ _⟩
  · rcases hl with ⟨_, h, _⟩ | ⟨b, o, cap, c, rfl, h1, h2, h3, h4, h5⟩
    · exact absurd h hz
    · obtain ⟨u, w', hrun, r⟩ := app_o (P := Try.prog) (ts := #[29, 29]) (t := 29) (t' := 29) rfl rfl Try.slc29 Try.int29 Try.und29 Try.sz3 Try.by3 Try.zero3 rfl (OwnO.nil w 3 1) (xb := b) (xo := o) (m := xs.length) (xc := cap) (news := I.keysV xs) h1 (by omega)
        (get_extract (by rw [hkl]; omega) (by omega) h5) (by
          refine List.all_eq_true.2 fun v hv => ?_
          simp only [I.keysV, List.mem_map] at hv
          obtain ⟨p, _, rfl⟩ := hv
          rfl) (fun cap' _ hc => by
            have := nextcap_le (need := 0 + xs.length) (cap := cap') (by omega)
            have h2 := Nat.mul_le_mul_right 8 this
            omega) (by omega) (by omega)
      refine ⟨u, w', hrun, ?_, fun b' hb' => ?_, r.fr.mono fun b' _ hb' => by cases hb'⟩
      · have := r.own
        rw [Nat.zero_add, List.nil_append] at this; exact this
      · obtain ⟨b2, g1, g2⟩ := r.blk
        rw [g1] at hb'; cases hb'
        rcases g2 with g2 | g2
        · cases g2
        · exact g2
theorem BookAt.addcalm {j : Nat} {l u : Value} {xs : KV} (h : BookAt w wb own vg vc vu gs cl cu cs id0) (hl : OwnO w 3 1 l xs.length (I.keysV xs)) (hlb : ∀ b, blockOf l = some b → own b = (11, j)) (hu : OwnO w 3 1 u xs.length (I.keysV xs)) (hub : ∀ b, blockOf u = some b → own b = (9, 0)) (hn : xs.length < 8796092000000) :
    BookAt w wb (fun b => if blockOf l = some b then (8, id0 + cs.length) else own b) vg vc vu gs cl cu (cs ++ [⟨l, u, xs⟩]) id0 := by
  have k : ∀ {b x}, own b = x → x.1 ≠ 11 → (if blockOf l = some b then (8, id0 + cs.length) else own b) = x := fun e hx => by
    rw [if_neg (fun hh => hx (by rw [← e, hlb _ hh])), e]
  refine ⟨k h.row (by simp), h.c2, h.c3, h.c4, h.c5, h.c6, h.c7, h.c8, h.og, fun b hb => k (h.bg b hb) (by simp), h.oc, fun b hb => k (h.bc b hb) (by simp), h.ou, fun b hb => k (h.bu b hb) (by simp), h.four,
    fun g hg v hv => (h.marked g hg v hv).stay (fun b _ e => k e (by simp)) fun _ _ _ h => h, fun i c hi => ?_, h.lg⟩
  by_cases hlt : i < cs.length
  · rw [List.getElem?_append_left hlt] at hi
    obtain ⟨h1, h2, h3, h4, h5⟩ := h.calm i c hi
    exact ⟨h1, fun b hb => k (h2 b hb) (by simp), h3, fun b hb => k (h4 b hb) (by simp), h5⟩
  · have hi2 : i < (cs ++ [(⟨l, u, xs⟩ : Calm)]).length := (List.getElem?_eq_some_iff.1 hi).1
    rw [List.length_append, List.length_singleton] at hi2
    have hie : i = cs.length := by omega
    subst hie
    rw [List.getElem?_append_right (Nat.le_refl _), Nat.sub_self] at hi
    simp only [List.getElem?_cons_zero, Option.some.injEq] at hi
    subst hi
    exact ⟨hl, fun b hb => if_pos hb, hu, fun b hb => k (hub b hb) (by simp), hn⟩
def leaveI (w0 : World) (wb : Nat) (own0 : Own) (J : Nat → Prop) (m : Nat) (vs : List Value) (w : World) : Prop :=
  ∃ own vg vc vu gs c0 cs id0, vs = [ptr (wb, 2)] ∧ m = cs.length ∧ BookAt w wb own vg vc vu gs ((c0 :: cs).map (·.l)) ((c0 :: cs).map (·.u)) (c0 :: cs) id0 ∧ gs.length ≤ 64 ∧ cs.length ≤ 64 ∧ StepJ wb J own0 own w0 w
set_option maxHeartbeats 4000000 in
theorem Book.leave {j : Nat} {J : Nat → Prop} (hJ : J 99) (hj : J j) (h : Book w wb own) {l : Value} {xs : KV} (hl : OwnO w 3 1 l xs.length (I.keysV xs)) (hb : ∀ b, blockOf l = some b → own b = (11, j)) (hn : xs.length < 8796092000000) :
    Fn Try.prog 59 #[ptr (wb, 2), l] w fun x w' => x = .tuple #[] ∧ ∃ own', Book w' wb own' ∧ StepJ wb J own own' w w' := by
  obtain ⟨vg, vc, vu, gs, cs, id0, h, hg, hcs⟩ := h
  refine Try.go59 (by simp) ?_
  obtain ⟨lb, lc, hls⟩ := hl.slice
  -- the list joins the calm ones
  have hnb : ∀ {b}, own b = (11, j) → ¬ bookB (own b) := fun e hB => by
    rw [e] at hB; rcases hB with hB | hB
    · cases hB
    · omega
  have h0 : BookAt w wb (fun b => if b < w.heap.size then own b else (6, 0)) vg vc vu gs (cs.map (·.l)) (cs.map (·.u)) cs id0 := h.frame (fun b hb1 _ => if_pos hb1) (Fr.refl (fun _ => False) w) fun _ h => h.elim
  have a5 : rdO Try.prog 39 w wb 5 = some _ := rd_cv Try.agg39 h.c5
  obtain ⟨vc', w1, run1, r1⟩ := app_new (P := Try.prog) (ts := #[39, 39]) (t := 39) (t' := 39) rfl rfl Try.slc39 Try.int39 und39 Try.sz29 by29 Try.zero29 rfl h0.oc (m := 1) #[l] rfl (by rw [hls]; rfl) (by rw [List.length_map]; omega) (by rw [List.length_map]; omega) (by omega)
  obtain ⟨h1, c1, f1⟩ := h0.addc r1 (fun b hb1 => if_neg (by omega))
  have b5 := wr_cv (P := Try.prog) (t := 39) (v := vc') Try.sz39 (one_own r1.own) c1
  simp -implicitDefEqProofs only [go_sem, Nat.reduceEqDiff, Try.f59, a5]
  refine contL_is (v := .slice (some ⟨w.heap.size, 0, none⟩) 1 1) (w' := w.alloc (.cells #[l] 29)) (by rw [hls]; rfl) ?_
  simp -implicitDefEqProofs only [go_sem, Nat.reduceEqDiff]
  refine contL_sem ⟨vc', w1, run1, ?_⟩
  simp -implicitDefEqProofs only [go_sem, Nat.reduceEqDiff, b5]
  have hown0 : ∀ b, b < w.heap.size → (if b < w.heap.size then own b else (6, 0)) = own b := fun b hb1 => if_pos hb1
  have f2 : Fr (fun b => own b = (0, 0) ∨ own b = (6, 0)) w (setc w1 wb 5 vc') := f1.mono fun b hb1 hh => by rw [hown0 b hb1] at hh; exact hh
  have hl2 : OwnO (setc w1 wb 5 vc').drew 3 1 l xs.length (I.keysV xs) := hl.frame fun b hb1 => f2.blk b (hl.lt hb1) fun hh => by rw [hb b hb1] at hh; rcases hh with hh | hh <;> cases hh
  have cz2 : ∀ o, o < 2 → cv (setc w1 wb 5 vc') wb o = cv w wb o := fun o ho => by
    rw [cv_setc _ c1, if_neg (by omega), r1.fr.cv h.wlt (fun e => by have := h.bc _ e; rw [h.row] at this; cases this)]
  generalize setc w1 wb 5 vc' = w2 at *
  obtain ⟨u, w3, run3, hu, hun, f3⟩ := copy hl2 hn
  have a6 : rdO Try.prog 39 w2.drew wb 6 = some _ := rd_cv Try.agg39 h1.c6
  have z2 : w.heap.size ≤ w2.heap.size := f2.size
  have z3 : w2.heap.size ≤ w3.heap.size := f3.size
  have h3 : BookAt w3 wb (fun b => if b < w.heap.size then own b else if b < w2.heap.size then (6, 0) else if b < w3.heap.size then (9, 0) else (7, 0)) vg vc' vu gs (cs.map (·.l) ++ [l]) (cs.map (·.u)) cs id0 :=
    h1.frame (fun b hb1 _ => by
      show (if b < w.heap.size then own b else if b < w2.heap.size then (6, 0) else if b < w3.heap.size then (9, 0) else (7, 0)) = if b < w.heap.size then own b else (6, 0)
      by_cases hbw : b < w.heap.size
      · rw [if_pos hbw, if_pos hbw]
      · rw [if_neg hbw, if_neg hbw, if_pos hb1]) (G := fun _ => False) (((Fr.refl _ w2).drew).trans f3) fun _ h => h.elim
  obtain ⟨vu', w4, run4, r4⟩ := app_new (P := Try.prog) (ts := #[39, 39]) (t := 39) (t' := 39) rfl rfl Try.slc39 Try.int39 und39 Try.sz29 by29 Try.zero29 rfl h3.ou (m := 1) #[u] rfl (by obtain ⟨_, _, rfl⟩ := hu.slice; rfl) (by rw [List.length_map]; omega) (by rw [List.length_map]; omega) (by omega)
  obtain ⟨h4, c4, f4⟩ := h3.addu r4 (fun b hb1 => by
    show (if b < w.heap.size then own b else if b < w2.heap.size then (6, 0) else if b < w3.heap.size then (9, 0) else (7, 0)) = (7, 0)
    rw [if_neg (by omega), if_neg (by omega), if_neg (by omega)])
  have b6 := wr_cv (P := Try.prog) (t := 39) (v := vu') Try.sz39 (one_own r4.own) c4
  refine den_ext (fun j => j == 6 || j == 7) [0, 1, 2, 3, 4, 5, 6, 7, 8, 9, 10, 11] rfl (by kernel_rfl) (by kernel_rfl) ?_
  simp -implicitDefEqProofs only [go_sem, Nat.reduceEqDiff, List.getElem?_toArray, List.getElem?_cons_zero, List.getElem?_cons_succ, a6, ↓appNil_eq]
  refine contLX_sem (s := appNil l) ⟨u, w3, run3, fun _ => (((Fr.refl _ w2.drew)).trans f3).ext0, ?_⟩
  simp -implicitDefEqProofs only [go_sem, Nat.reduceEqDiff, List.getElem?_toArray, List.getElem?_cons_zero, List.getElem?_cons_succ]
  refine contLX_is (v := .slice (some ⟨w3.heap.size, 0, none⟩) 1 1) (w' := w3.alloc (.cells #[u] 29)) (by obtain ⟨_, _, rfl⟩ := hu.slice; rfl) (fun _ => Ext.alloc _ _) ?_
  simp -implicitDefEqProofs only [go_sem, Nat.reduceEqDiff, List.getElem?_toArray, List.getElem?_cons_zero, List.getElem?_cons_succ]
  refine contLX_sem ⟨vu', w4, run4, fun h => (by cases h), ?_⟩
  simp -implicitDefEqProofs only [go_sem, Nat.reduceEqDiff, List.getElem?_toArray, List.getElem?_cons_zero, List.getElem?_cons_succ, b6]
  refine ⟨fun h => (by cases h), ?_⟩
  -- the list and its copy stand
  have hown2 : ∀ b, b < w.heap.size → (if b < w.heap.size then own b else if b < w2.heap.size then (6, 0) else if b < w3.heap.size then (9, 0) else (7, 0)) = own b := fun b hb1 => if_pos hb1
  have f5 : Fr (fun b => own b = (0, 0) ∨ own b = (6, 0) ∨ own b = (7, 0)) w (setc w4 wb 6 vu') := (((f2.mono fun b _ hh => hh.imp id .inl).drew).trans' f3 fun _ _ h => h.elim).trans' f4 fun b hb1 hh => by
    rw [hown2 b hb1] at hh; exact hh.imp id .inr
  have hl5 : OwnO (setc w4 wb 6 vu') 3 1 l xs.length (I.keysV xs) := hl.frame fun b hb1 => f5.blk b (hl.lt hb1) fun hh => by rw [hb b hb1] at hh; rcases hh with hh | hh | hh <;> cases hh
  have hub : ∀ b, blockOf u = some b → (if b < w.heap.size then own b else if b < w2.heap.size then (6, 0) else if b < w3.heap.size then (9, 0) else (7, 0)) = (9, 0) := fun b hb1 => by
    have g1 : w2.heap.size ≤ b := hun b hb1
    rw [if_neg (by omega), if_neg (by omega), if_pos (hu.lt hb1)]
  have hu5 : OwnO (setc w4 wb 6 vu') 3 1 u xs.length (I.keysV xs) := hu.frame fun b hb1 => f4.blk b (hu.lt hb1) fun hh => by
    rw [hub b hb1] at hh; rcases hh with hh | hh <;> cases hh
  have h5 := h4.addcalm (j := j) hl5 (fun b hb1 => (hown2 b (hl.lt hb1)).trans (hb b hb1)) hu5 hub hn
  have cz5 : ∀ o, o < 2 → cv (setc w4 wb 6 vu') wb o = cv w wb o := fun o ho => by
    rw [cv_setc _ c4, if_neg (by omega), r4.fr.cv h3.wlt (fun e => by have := h3.bu _ e; rw [h3.row] at this; cases this), f3.cv h1.wlt id]; exact cz2 o ho
  have keep5 : ∀ b, b < w.heap.size → ¬ bookB (own b) → (∀ i, J i → own b ≠ (11, i)) → (fun b => if blockOf l = some b then (8, id0 + cs.length) else if b < w.heap.size then own b else if b < w2.heap.size then (6, 0) else if b < w3.heap.size then (9, 0) else (7, 0)) b = own b := fun b hb1 _ hn2 => by
    show (if blockOf l = some b then (8, id0 + cs.length) else if b < w.heap.size then own b else if b < w2.heap.size then (6, 0) else if b < w3.heap.size then (9, 0) else (7, 0)) = own b
    rw [if_neg (fun hh => hn2 j hj (hb b hh)), if_pos hb1]
  have e1 : cs.map (·.l) ++ [l] = (cs ++ [(⟨l, u, xs⟩ : Calm)]).map (·.l) := by simp
  have e2 : cs.map (·.u) ++ [u] = (cs ++ [(⟨l, u, xs⟩ : Calm)]).map (·.u) := by simp
  rw [e1, e2] at h5
  have hlen5 : (cs ++ [(⟨l, u, xs⟩ : Calm)]).length ≤ 65 := by rw [List.length_append, List.length_singleton]; omega
  obtain ⟨c0, ct, hct⟩ : ∃ c0 ct, cs ++ [(⟨l, u, xs⟩ : Calm)] = c0 :: ct := by
    cases cs with
    | nil => exact ⟨_, _, rfl⟩
    | cons x y => exact ⟨x, _, rfl⟩
  rw [hct] at h5 hlen5
  generalize setc w4 wb 6 vu' = w5 at *
  generalize (fun b => if blockOf l = some b then (8, id0 + cs.length) else if b < w.heap.size then own b else if b < w2.heap.size then (6, 0) else if b < w3.heap.size then (9, 0) else (7, 0)) = own5 at *
  subst hls
  obtain ⟨z, hz⟩ := h5.c7
  have a7 : rdO Try.prog 3 w5 wb 7 = some _ := rd_cv Try.agg3 hz
  have b7 := wr_cv (P := Try.prog) (t := 3) (v := .int .i64 (IntKind.i64.wrap (z + (xs.length : Int)))) Try.sz3 rfl hz
  have h6 := h5.seti (o := 7) (by omega) (IntKind.i64.wrap (z + (xs.length : Int)))
  have f6 := f5.setc (b := wb) 7 (.int .i64 (IntKind.i64.wrap (z + (xs.length : Int)))) fun _ => .inl h.row
  have cz6 : ∀ o, o < 2 → cv (setc w5 wb 7 (.int .i64 (IntKind.i64.wrap (z + (xs.length : Int))))) wb o = cv w wb o := fun o ho => by rw [cv_setc _ hz, if_neg (by omega)]; exact cz5 o ho
  simp -implicitDefEqProofs only [go_sem, Nat.reduceEqDiff, a7, b7]
  generalize setc w5 wb 7 (.int .i64 (IntKind.i64.wrap (z + (xs.length : Int)))) = w6 at *
  have st6 : StepJ wb J own own5 w w6 := ⟨f6.mono fun b _ hh => .inl (by
    rcases hh with hh | hh | hh
    · exact .inl (by rw [hh])
    · exact .inr (by rw [hh]; exact ⟨by simp, by simp⟩)
    · exact .inr (by rw [hh]; exact ⟨by simp, by simp⟩)), keep5, cz6 0 (by omega), cz6 1 (by omega)⟩
  refine loopD [0] (leaveI w wb own J) ct.length ⟨own5, vg, vc', vu', gs, c0, ct, id0, by simp [upd], rfl, h6, hg, by rw [List.length_cons] at hlen5; omega, st6⟩ ?_
  rintro m vs w10 g5 ⟨own1, vg1, vc1, vu1, gs1, d0, ds, id1, rfl, rfl, h10, hg1, hds, st10⟩
  have fin : ds.length + 1 ≤ 64 → ∃ own', Book w10 wb own' ∧ StepJ wb J own own' w w10 := fun hle => ⟨own1, ⟨vg1, vc1, vu1, gs1, d0 :: ds, id1, h10, hg1, by rw [List.length_cons]; exact hle⟩, st10⟩
  obtain ⟨b8, c8, hv8⟩ := h10.oc.slice
  have ra : rdO Try.prog 39 w10 wb 5 = some _ := rd_cv Try.agg39 h10.c5
  obtain ⟨z1, hz1⟩ := h10.c7
  have rz : rdO Try.prog 3 w10 wb 7 = some _ := rd_cv Try.agg3 hz1
  rw [hv8] at ra
  have hlm : ((d0 :: ds).map (·.l)).length = ds.length + 1 := by simp
  rw [hlm] at ra
  by_cases k1 : ds.length = 0
  · have d1 : decide (((ds.length + 1 : Nat) : Int) > 1) = false := by simp; omega
    simp -implicitDefEqProofs only [go_sem, Nat.reduceEqDiff, List.getElem?_toArray, List.getElem?_cons_zero, List.getElem?_cons_succ, beq_self_eq_true, bne_self_eq_false, tf_b, ft_b, Bool.false_eq_true, if_false, if_true, ra, d1]
    exact fin (by omega)
  have d1 : decide (((ds.length + 1 : Nat) : Int) > 1) = true := by simp; omega
  by_cases k2 : ds.length + 1 > 64
  case' pos =>
    have d2 : decide (((ds.length + 1 : Nat) : Int) > 64) = true := by simp; omega
    simp -implicitDefEqProofs only [go_sem, Nat.reduceEqDiff, List.getElem?_toArray, List.getElem?_cons_zero, List.getElem?_cons_succ, beq_self_eq_true, bne_self_eq_false, tf_b, ft_b, Bool.false_eq_true, if_false, if_true, ra, d1, d2]
  case' neg =>
    have d2 : decide (((ds.length + 1 : Nat) : Int) > 64) = false := by simp; omega
    by_cases k3 : z1 > 1000000
    case' neg =>
      have d3 : decide (z1 > 1000000) = false := by simp; omega
      simp -implicitDefEqProofs only [go_sem, Nat.reduceEqDiff, List.getElem?_toArray, List.getElem?_cons_zero, List.getElem?_cons_succ, beq_self_eq_true, bne_self_eq_false, tf_b, ft_b, Bool.false_eq_true, if_false, if_true, ra, rz, d1, d2, d3]
      exact fin (by omega)
    case' pos =>
      have d3 : decide (z1 > 1000000) = true := by simp; omega
      simp -implicitDefEqProofs only [go_sem, Nat.reduceEqDiff, List.getElem?_toArray, List.getElem?_cons_zero, List.getElem?_cons_succ, beq_self_eq_true, bne_self_eq_false, tf_b, ft_b, Bool.false_eq_true, if_false, if_true, ra, rz, d1, d2, d3]
  all_goals
    refine contL_call Try.pl46 ((h10.wakes hJ hg1).mono ?_)
    rintro _ w11 ⟨rfl, own2, vg2, vc2, vu2, gs2, h11, hg2, st11⟩
    simp -implicitDefEqProofs only [go_sem, Nat.reduceEqDiff]
    obtain ⟨e0, es, rfl⟩ : ∃ e0 es, ds = e0 :: es := by
      cases ds with
      | nil => simp at k1
      | cons x y => exact ⟨x, y, rfl⟩
    exact ⟨es.length, by rw [List.length_cons]; omega, own2, vg2, vc2, vu2, gs2, e0, es, id1 + 1, rfl, rfl, h11, hg2, by rw [List.length_cons] at hds; omega, st10.trans st11⟩
def endsI (w0 : World) (wb : Nat) (own0 : Own) (m : Nat) (vs : List Value) (w : World) : Prop :=
  ∃ own vg vc vu gs cs id0, vs = [ptr (wb, 2), .bool true] ∧ m = cs.length ∧ BookAt w wb own vg vc vu gs (cs.map (·.l)) (cs.map (·.u)) cs id0 ∧ gs.length ≤ 64 ∧ cs.length ≤ 64 ∧ StepJ wb (fun i => i = 99) own0 own w0 w
theorem Book.ends (h : Book w wb own) :
    Fn Try.prog 17 #[ptr (wb, 2)] w fun x w' => x = .bool true ∧ Fr (fun b => bookB (own b) ∨ own b = (11, 99)) w w' := by
  refine Try.go17 (by simp) ?_
  simp -implicitDefEqProofs only [go_sem, Nat.reduceEqDiff, Try.f17]
  refine contL_call Try.pl16 (h.stands.mono ?_)
  rintro _ w1 ⟨rfl, f1⟩
  have h1 := h.frame (own' := own) (fun _ _ _ => rfl) f1 fun _ h => h.elim
  obtain ⟨vg, vc, vu, gs, cs, id0, h0, _, _⟩ := h
  have st1 : StepJ wb (fun i => i = 99) own own w w1 := ⟨f1.mono fun _ _ h => h.elim, fun _ _ _ _ => rfl, f1.cv h0.wlt id 0, f1.cv h0.wlt id 1⟩
  obtain ⟨vg, vc, vu, gs, cs, id0, h1, hg, hcs⟩ := h1
  simp -implicitDefEqProofs only [go_sem, Nat.reduceEqDiff]
  refine loopD [0, 3] (endsI w wb own) cs.length ⟨own, vg, vc, vu, gs, cs, id0, by simp [upd], rfl, h1, hg, hcs, st1⟩ ?_
  rintro m vs w2 g5 ⟨own2, vg2, vc2, vu2, gs2, cs2, id2, rfl, rfl, h2, hg2, hcs2, st2⟩
  obtain ⟨b8, c8, hv8⟩ := h2.oc.slice
  have ra : rdO Try.prog 39 w2 wb 5 = some _ := rd_cv Try.agg39 h2.c5
  rw [hv8, List.length_map] at ra
  cases cs2 with
  | nil =>
    have d1 : decide (((([] : List Calm).length : Nat) : Int) > 0) = false := by decide
    simp -implicitDefEqProofs only [go_sem, Nat.reduceEqDiff, ra, d1]
    exact st2.fr.mono fun b _ hh => hh.imp id fun ⟨i, hi, e⟩ => by rw [hi] at e; exact e
  | cons c0 ct =>
    have d1 : decide ((((c0 :: ct).length : Nat) : Int) > 0) = true := by rw [List.length_cons]; exact decide_eq_true (by omega)
    simp -implicitDefEqProofs only [go_sem, Nat.reduceEqDiff, ra, d1]
    refine contL_call Try.pl46 ((h2.wakes (J := fun i => i = 99) rfl hg2).mono ?_)
    rintro _ w3 ⟨rfl, own3, vg3, vc3, vu3, gs3, h3, hg3, st3⟩
    rw [List.length_cons] at hcs2
    have hB : Book w3 wb own3 := ⟨vg3, vc3, vu3, gs3, ct, id2 + 1, h3, hg3, by omega⟩
    simp -implicitDefEqProofs only [go_sem, Nat.reduceEqDiff, List.getElem?_toArray, List.getElem?_cons_zero, List.getElem?_cons_succ, beq_self_eq_true, if_true]
    refine contL_call Try.pl16 (hB.stands.mono ?_)
    rintro _ w4 ⟨rfl, f4⟩
    have h4 := h3.frame (own' := own3) (fun _ _ _ => rfl) f4 fun _ h => h.elim
    simp -implicitDefEqProofs only [go_sem, Nat.reduceEqDiff, List.getElem?_toArray, List.getElem?_cons_zero, List.getElem?_cons_succ, beq_self_eq_true, if_true]
    exact ⟨ct.length, by rw [List.length_cons]; omega, own3, vg3, vc3, vu3, gs3, ct, id2 + 1, rfl, rfl, h4, hg3, by omega, st2.trans (st3.trans ⟨f4.mono fun _ _ h => h.elim, fun _ _ _ _ => rfl, f4.cv h3.wlt id 0, f4.cv h3.wlt id 1⟩)⟩
end
end B
end Go.V
