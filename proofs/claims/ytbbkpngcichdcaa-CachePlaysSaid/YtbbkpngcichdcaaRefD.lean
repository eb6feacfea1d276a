/-
  The document's cache: Put, Hold.
-/
import Derived.Test.YtbbkpngcichdcaaRefC
namespace Go.V
open Go.Proofs
set_option maxRecDepth 100000
theorem OwnO.setc {w : World} {e sz n : Nat} {v : Value} {cs : List Value} (h : OwnO w e sz v n cs) {i : Nat} (hi : i < n * sz) (x : Value) : ∃ b o cap, v = .slice (some ⟨b, o, none⟩) n cap ∧ OwnO (setc w b (o + i) x) e sz v n (cs.set i x) := by
  rcases h with ⟨rfl, rfl, rfl⟩ | ⟨b, o, cap, c, rfl, h, h1, h2, h3, h4⟩
  · omega
  · refine ⟨b, o, cap, rfl, .inr ⟨b, o, cap, c.setIfInBounds (o + i) x, rfl, ?_, by rw [Array.size_setIfInBounds]; exact h1, h2, by rw [List.length_set]; exact h3, fun j hj => ?_⟩⟩
    · rw [setc_row _ h]; exact blk_put_same _ (heap_lt h)
    · rw [Array.getElem?_setIfInBounds, List.getElem?_set]
      by_cases hij : i = j
      · subst hij
        have := Nat.mul_le_mul_right sz h2
        rw [if_pos rfl, if_pos rfl, if_pos (by omega), if_pos (by omega)]
      · rw [if_neg (by omega), if_neg hij]; exact h4 j hj
namespace R
open I (KV St wout sets grown)
theorem pairsV_set : ∀ (l : KV) (i : Nat) (k v : Int) (p : Int × Int), l[i]? = some p → p.1 = k → pairsV (l.set i (k, v)) = (pairsV l).set (i * 2 + 1) (.int .i64 v)
  | [], _, _, _, _, h, _ => by simp at h
  | q :: l, 0, k, v, p, h, hk => by
    simp only [List.getElem?_cons_zero, Option.some.injEq] at h
    subst h; subst hk
    rfl
  | q :: l, i + 1, k, v, p, h, hk => by
    simp only [List.getElem?_cons_succ] at h
    rw [List.set_cons_succ, pairsV_cons, pairsV_cons, pairsV_set l i k v p h hk, List.set_append_right _ _ (by simp [pairV]; omega)]
    congr 2
    simp only [pairV, List.length_cons, List.length_nil]; omega
section
variable {w w' : World} {rb : Nat} {F : Nat → Prop} {vc vk : Value} {cl kp : KV} {room hits misses gone : Nat} {s : St}
/-- the value of a kept one written -/
theorem RefAt.setv (h : RefAt w rb F vc vk cl kp room hits misses gone) {i : Nat} {p : Int × Int} {k : Int} (hp : kp[i]? = some p) (hk : p.1 = k) (v : Int) :
    ∃ b o cap, vk = .slice (some ⟨b, o, none⟩) kp.length cap ∧ wrO Try.prog 3 w b (o + i * 2 + 1) (.int .i64 v) = some (setc w b (o + (i * 2 + 1)) (.int .i64 v)) ∧
      RefAt (setc w b (o + (i * 2 + 1)) (.int .i64 v)) rb F vc vk cl (kp.set i (k, v)) room hits misses gone ∧ Fr F w (setc w b (o + (i * 2 + 1)) (.int .i64 v)) := by
  have hi : i < kp.length := (List.getElem?_eq_some_iff.1 hp).1
  obtain ⟨b, o, cap, rfl, ho⟩ := h.kp.setc (i := i * 2 + 1) (by omega) (.int .i64 v)
  have hb := h.fk b rfl
  obtain ⟨b', o', cap', e1, e2⟩ := h.kp.at (i := i * 2 + 1) (by omega)
  simp only [Value.slice.injEq, Option.some.injEq, Addr.mk.injEq, and_true, true_and] at e1
  obtain ⟨⟨rfl, rfl⟩, rfl⟩ := e1
  rw [(pairsV_get kp i p hp).2] at e2
  refine ⟨b, o, cap, rfl, ?_, ⟨?_, ?_, ?_, h.frb, h.fc, h.fk, fun b' hb' => by rw [setc_size]; exact h.lt b' hb'⟩, (Fr.refl _ _).setc _ _ fun _ => hb.1⟩
  · rw [Nat.add_assoc]; exact wr_cv Try.sz3 rfl e2
  · rw [setc_blk _ (Ne.symm hb.2.1)]; exact h.row
  · exact h.cl.frame fun b' hb' => setc_blk _ fun e => hb.2.2 (by rw [← e]; exact hb')
  · rw [List.length_set, pairsV_set kp i k v p hp hk]; exact ho
theorem Ref.put (h : Ref w rb F s) (hok : s.Ok) (hs : s.size < 8796093000000) (k v : Int) :
    Fn Try.prog 38 #[ptr (rb, 0), .int .i64 k, .int .i64 v] w fun x w' => x = .tuple #[] ∧ Ref w' rb (grown F w w') (s.put k v) ∧ Fr F w w' := by
  obtain ⟨vc, vk, h⟩ := h
  have hnd := hok.keys
  rw [List.map_append] at hnd
  have hnc := (List.nodup_append.1 hnd).1
  have hnk := (List.nodup_append.1 hnd).2.1
  unfold I.St.size at hs
  refine Try.go38 (by simp) ?_
  obtain ⟨a0, a1, a2, a3, a4, a5⟩ := h.rd
  obtain ⟨hpk, _⟩ := own_pairs h.kp
  simp -implicitDefEqProofs only [go_sem, Nat.reduceEqDiff, Nat.reduceAdd, Try.f38, a2]
  refine contL_call Try.pl54 ((at_law hpk k (by omega)).mono ?_)
  rintro _ _ ⟨rfl, r, rfl, hr⟩
  obtain ⟨_, hc⟩ := idx_cases hr hnk
  rcases hc with ⟨rfl, hlk⟩ | ⟨i, p, rfl, hp, hk, hlk⟩
  · have d1 : decide ((-1 : Int) ≥ 0) = false := by decide
    have hd : RefAt w.drew rb F vc vk s.clean s.kept s.room s.hits s.misses s.gone := h.frame (G := fun _ => False) ((Fr.refl _ _).drew) fun _ _ h => h
    obtain ⟨_, a1, _⟩ := hd.rd
    obtain ⟨hpc, _⟩ := own_pairs hd.cl
    simp -implicitDefEqProofs only [go_sem, Nat.reduceEqDiff, d1]
    refine den_ext (fun j => j == 10) [0, 1, 2, 3, 4, 5, 6, 7, 8, 9, 10, 11, 12, 13, 14] rfl (by kernel_rfl) (by kernel_rfl) ?_
    simp -implicitDefEqProofs only [go_sem, Nat.reduceEqDiff, List.getElem?_toArray, List.getElem?_cons_zero, List.getElem?_cons_succ, a1]
    refine contLX_call Try.pl54 ((at_law hpc k (by omega)).mono ?_)
    rintro _ _ ⟨rfl, r, rfl, hr⟩
    obtain ⟨hwo, _⟩ := idx_cases hr hnc
    refine ⟨fun _ => Ext.refl _, ?_⟩
    simp -implicitDefEqProofs only [go_sem, Nat.reduceEqDiff, List.getElem?_toArray, List.getElem?_cons_zero, List.getElem?_cons_succ]
    refine contLX_call Try.pl55 ((without hpc r (by omega)).mono ?_)
    rintro x w2 ⟨ho, hxn, f2⟩
    refine ⟨fun h => (by cases h), ?_⟩
    rw [hwo] at ho
    obtain ⟨h3, f3, row2⟩ := hd.clean (x := x) (cl' := wout s.clean k) (Fr.none f2) ho fun b hb => .inr (hxn b hb)
    have b2 := (wr_row row2).1 x (own_one ho)
    obtain ⟨_, c1, _⟩ := h3.rd
    have bl : bldO Try.prog 100 [(0, .int .i64 k), (1, .int .i64 v)] = some (.agg #[.int .i64 k, .int .i64 v]) := by
      unfold bldO; rw [Try.zero100, Try.places100]; rfl
    have hs3 : (refP w2 rb s.room x vk s.hits s.misses s.gone).heap.size = w2.heap.size := refP_size
    have hwl : (wout s.clean k).length ≤ s.clean.length := List.length_filter_le _ _
    simp -implicitDefEqProofs only [go_sem, Nat.reduceEqDiff, List.getElem?_toArray, List.getElem?_cons_zero, List.getElem?_cons_succ, b2, c1, bl]
    refine ⟨fun h => (by cases h), ?_⟩
    generalize refP w2 rb s.room x vk s.hits s.misses s.gone = w3 at *
    obtain ⟨x', w6, hrun, r6⟩ := app_new (P := Try.prog) (ts := #[95, 95]) (t := 95) (t' := 95) rfl rfl Try.slc95 Try.int95 und95 Try.sz100 by100 Try.zero100 rfl h3.cl (m := 1) #[.int .i64 k, .int .i64 v] rfl rfl (by omega) (by omega) (by omega)
    refine contL_is (v := .slice (some ⟨w3.heap.size, 0, none⟩) 1 1) (w' := w3.alloc (.cells #[.int .i64 k, .int .i64 v] 100)) rfl ?_
    simp -implicitDefEqProofs only [go_sem, Nat.reduceEqDiff]
    refine contL_sem ⟨x', w6, hrun, ?_⟩
    have ho' : OwnO w6 100 2 x' (wout s.clean k ++ [(k, v)]).length (pairsV (wout s.clean k ++ [(k, v)])) := by
      rw [pairsV_app, List.length_append]; exact r6.own
    obtain ⟨h7, f7, row6⟩ := h3.clean (x := x') (cl' := wout s.clean k ++ [(k, v)]) r6.fr ho' fun b hb => by
      obtain ⟨b', q1, q2⟩ := r6.blk
      rw [q1] at hb; cases hb; exact q2
    have b3 := (wr_row row6).1 x' (own_one ho')
    simp -implicitDefEqProofs only [go_sem, Nat.reduceEqDiff, b3]
    refine contL_call Try.pl56 ((trim h7 (by simp; omega)).mono ?_)
    rintro _ w8 ⟨rfl, ⟨vc8, vk8, h8⟩, f8⟩
    have e2 : s.put k v = I.St.trim { s with clean := wout s.clean k ++ [(k, v)] } := by simp [I.St.put, hlk]
    rw [e2]
    have z6 : w3.heap.size ≤ w6.heap.size := r6.fr.size
    have z2 : w.heap.size ≤ w2.heap.size := f2.size
    have z7 : (refP w6 rb s.room x' vk s.hits s.misses s.gone).heap.size = w6.heap.size := refP_size
    have f9 := ((((Fr.refl F w).drew).trans f3).trans' f7 fun b hb h' => by
      rcases h' with h' | h'
      · exact h'
      · have := h'.1; rw [drew_heap] at this; omega).trans' f8 fun b hb h' => by
      rcases h' with (h' | h') | h'
      · exact h'
      · have := h'.1; rw [drew_heap] at this; omega
      · have := h'.1; omega
    simp -implicitDefEqProofs only [go_sem, Nat.reduceEqDiff]
    refine ⟨⟨vc8, vk8, h8.mono (fun b hb => ?_) (grown_lt h.lt f9.size)⟩, f9⟩
    have z8 := f8.size
    rcases hb with ((hb | hb) | hb) | hb
    · exact .inl hb
    · have h1 := hb.1; have h2 := hb.2
      rw [drew_heap] at h1
      exact .inr ⟨h1, by omega⟩
    · exact .inr ⟨by have := hb.1; omega, by have := hb.2; omega⟩
    · exact .inr ⟨by have := hb.1; omega, hb.2⟩
  · have d1 : decide ((i : Int) ≥ 0) = true := by simp
    have hi := (List.getElem?_eq_some_iff.1 hp).1
    have i1 : 0 ≤ (i : Int) := by omega
    have i2 : (i : Int) < (s.kept.length : Int) := by omega
    obtain ⟨b, o, cap, rfl, b1, h1, f1⟩ := h.setv hp hk v
    simp -implicitDefEqProofs only [go_sem, Nat.reduceEqDiff, d1, a2, i1, i2, and_self, Int.toNat_natCast, b1]
    have e2 : s.put k v = { s with kept := sets s.kept k v } := by simp [I.St.put, hlk]
    rw [e2, sets_idx hp hk hnk]
    exact ⟨⟨vc, _, h1.mono (fun _ h => .inl h) (grown_lt h.lt f1.size)⟩, f1⟩
theorem Ref.hold (h : Ref w rb F s) (hok : s.Ok) (hs : s.size < 8796093000000) (k v : Int) :
    Fn Try.prog 39 #[ptr (rb, 0), .int .i64 k, .int .i64 v] w fun x w' => x = .tuple #[] ∧ Ref w' rb (grown F w w') (s.hold k v) ∧ Fr F w w' := by
  obtain ⟨vc, vk, h⟩ := h
  have hnd := hok.keys
  rw [List.map_append] at hnd
  have hnc := (List.nodup_append.1 hnd).1
  have hnk := (List.nodup_append.1 hnd).2.1
  unfold I.St.size at hs
  refine Try.go39 (by simp) ?_
  obtain ⟨a0, a1, a2, a3, a4, a5⟩ := h.rd
  obtain ⟨hpk, _⟩ := own_pairs h.kp
  simp -implicitDefEqProofs only [go_sem, Nat.reduceEqDiff, Nat.reduceAdd, Try.f39, a2]
  refine contL_call Try.pl54 ((at_law hpk k (by omega)).mono ?_)
  rintro _ _ ⟨rfl, r, rfl, hr⟩
  obtain ⟨_, hc⟩ := idx_cases hr hnk
  rcases hc with ⟨rfl, hlk⟩ | ⟨i, p, rfl, hp, hk, hlk⟩
  · have d1 : decide ((-1 : Int) ≥ 0) = false := by decide
    have hd : RefAt w.drew rb F vc vk s.clean s.kept s.room s.hits s.misses s.gone := h.frame (G := fun _ => False) ((Fr.refl _ _).drew) fun _ _ h => h
    obtain ⟨_, a1, _⟩ := hd.rd
    obtain ⟨hpc, _⟩ := own_pairs hd.cl
    simp -implicitDefEqProofs only [go_sem, Nat.reduceEqDiff, d1]
    refine den_ext (fun j => j == 10) [0, 1, 2, 3, 4, 5, 6, 7, 8, 9, 10, 11, 12, 13, 14] rfl (by kernel_rfl) (by kernel_rfl) ?_
    simp -implicitDefEqProofs only [go_sem, Nat.reduceEqDiff, List.getElem?_toArray, List.getElem?_cons_zero, List.getElem?_cons_succ, a1]
    refine contLX_call Try.pl54 ((at_law hpc k (by omega)).mono ?_)
    rintro _ _ ⟨rfl, r, rfl, hr⟩
    obtain ⟨hwo, _⟩ := idx_cases hr hnc
    refine ⟨fun _ => Ext.refl _, ?_⟩
    simp -implicitDefEqProofs only [go_sem, Nat.reduceEqDiff, List.getElem?_toArray, List.getElem?_cons_zero, List.getElem?_cons_succ]
    refine contLX_call Try.pl55 ((without hpc r (by omega)).mono ?_)
    rintro x w2 ⟨ho, hxn, f2⟩
    refine ⟨fun h => (by cases h), ?_⟩
    rw [hwo] at ho
    obtain ⟨h3, f3, row2⟩ := hd.clean (x := x) (cl' := wout s.clean k) (Fr.none f2) ho fun b hb => .inr (hxn b hb)
    have b2 := (wr_row row2).1 x (own_one ho)
    obtain ⟨_, _, c1, _⟩ := h3.rd
    have bl : bldO Try.prog 100 [(0, .int .i64 k), (1, .int .i64 v)] = some (.agg #[.int .i64 k, .int .i64 v]) := by
      unfold bldO; rw [Try.zero100, Try.places100]; rfl
    have hs3 : (refP w2 rb s.room x vk s.hits s.misses s.gone).heap.size = w2.heap.size := refP_size
    have hwl : (wout s.clean k).length ≤ s.clean.length := List.length_filter_le _ _
    simp -implicitDefEqProofs only [go_sem, Nat.reduceEqDiff, List.getElem?_toArray, List.getElem?_cons_zero, List.getElem?_cons_succ, b2, c1, bl]
    refine ⟨fun h => (by cases h), ?_⟩
    generalize refP w2 rb s.room x vk s.hits s.misses s.gone = w3 at *
    obtain ⟨x', w6, hrun, r6⟩ := app_new (P := Try.prog) (ts := #[95, 95]) (t := 95) (t' := 95) rfl rfl Try.slc95 Try.int95 und95 Try.sz100 by100 Try.zero100 rfl h3.kp (m := 1) #[.int .i64 k, .int .i64 v] rfl rfl (by omega) (by omega) (by omega)
    refine contL_is (v := .slice (some ⟨w3.heap.size, 0, none⟩) 1 1) (w' := w3.alloc (.cells #[.int .i64 k, .int .i64 v] 100)) rfl ?_
    simp -implicitDefEqProofs only [go_sem, Nat.reduceEqDiff]
    refine contL_sem ⟨x', w6, hrun, ?_⟩
    have ho' : OwnO w6 100 2 x' (s.kept ++ [(k, v)]).length (pairsV (s.kept ++ [(k, v)])) := by
      rw [pairsV_app, List.length_append]; exact r6.own
    obtain ⟨h7, f7, row6⟩ := h3.kept (x := x') (kp' := s.kept ++ [(k, v)]) r6.fr ho' fun b hb => by
      obtain ⟨b', q1, q2⟩ := r6.blk
      rw [q1] at hb; cases hb; exact q2
    have b3 := (wr_row row6).2.1 x' (own_one ho')
    simp -implicitDefEqProofs only [go_sem, Nat.reduceEqDiff, b3]
    have e2 : s.hold k v = { s with clean := wout s.clean k, kept := s.kept ++ [(k, v)] } := by simp [I.St.hold, hlk]
    rw [e2]
    have z6 : w3.heap.size ≤ w6.heap.size := r6.fr.size
    have z2 : w.heap.size ≤ w2.heap.size := f2.size
    have z7 : (refP w6 rb s.room x x' s.hits s.misses s.gone).heap.size = w6.heap.size := refP_size
    have f9 := (((Fr.refl F w).drew).trans f3).trans' f7 fun b hb h' => by
      rcases h' with h' | h'
      · exact h'
      · have := h'.1; rw [drew_heap] at this; omega
    refine ⟨⟨x, x', h7.mono (fun b hb => ?_) (grown_lt h.lt f9.size)⟩, f9⟩
    rcases hb with (hb | hb) | hb
    · exact .inl hb
    · have h1 := hb.1; have h2 := hb.2
      rw [drew_heap] at h1
      exact .inr ⟨h1, by omega⟩
    · exact .inr ⟨by have := hb.1; omega, by have := hb.2; omega⟩
  · have d1 : decide ((i : Int) ≥ 0) = true := by simp
    have hi := (List.getElem?_eq_some_iff.1 hp).1
    have i1 : 0 ≤ (i : Int) := by omega
    have i2 : (i : Int) < (s.kept.length : Int) := by omega
    obtain ⟨b, o, cap, rfl, b1, h1, f1⟩ := h.setv hp hk v
    simp -implicitDefEqProofs only [go_sem, Nat.reduceEqDiff, d1, a2, i1, i2, and_self, Int.toNat_natCast, b1]
    have e2 : s.hold k v = { s with kept := sets s.kept k v } := by simp [I.St.hold, hlk]
    rw [e2, sets_idx hp hk hnk]
    exact ⟨⟨vc, _, h1.mono (fun _ h => .inl h) (grown_lt h.lt f1.size)⟩, f1⟩
end
end R
end Go.V
