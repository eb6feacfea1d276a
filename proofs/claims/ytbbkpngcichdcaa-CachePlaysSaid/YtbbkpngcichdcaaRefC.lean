/-
  The document's cache: New, Tally, Get.
-/
import Derived.Test.YtbbkpngcichdcaaRefB
namespace Go.V
open Go.Proofs
set_option maxRecDepth 100000
namespace R
open I (KV St wout sets grown)
theorem bld97 (room : Nat) : bldO Try.prog 97 [(0, .int .i64 room)] = some (.agg (refC room (.slice none 0 0) (.slice none 0 0) 0 0 0)) := by
  unfold bldO; rw [Try.zero97, Try.places97]; rfl
theorem Ref.new (w : World) (r : Int) :
    Fn Try.prog 36 #[.int .i64 r] w fun x w' => ∃ rb, x = ptr (rb, 0) ∧ Ref w' rb (fun b => w.heap.size ≤ b ∧ b < w'.heap.size) (I.St.new r) ∧ Fr (fun _ => False) w w' := by
  have fin : ∀ room : Nat, room = min r.toNat 4096 → ∃ rb, ptr (w.heap.size, 0) = ptr (rb, 0) ∧ Ref (w.alloc (.cells (refC room (.slice none 0 0) (.slice none 0 0) 0 0 0) 97)) rb (fun b => w.heap.size ≤ b ∧ b < w.heap.size + 1) (I.St.new r) ∧ Fr (fun _ => False) w (w.alloc (.cells (refC room (.slice none 0 0) (.slice none 0 0) 0 0 0) 97)) := by
    intro room hr
    refine ⟨_, rfl, ⟨_, _, ?_, .nil _ _ _, .nil _ _ _, ⟨Nat.le_refl _, Nat.lt_succ_self _⟩, fun b hb => (by cases hb), fun b hb => (by cases hb), fun b hb => by rw [alloc_heap_size]; exact hb.2⟩, (Fr.refl _ _).alloc _⟩
    rw [alloc_blk_new, hr]; rfl
  refine Try.go36 (by simp) ?_
  by_cases h0 : r < 0
  · have d1 : decide (r < 0) = true := by simp [h0]
    have d2 : decide ((0 : Int) > 4096) = false := by decide
    have b1 := bld97 0
    simp only [Int.ofNat_zero, Int.natCast_zero] at b1
    simp -implicitDefEqProofs only [go_sem, Nat.reduceEqDiff, Try.f36, d1, d2, b1]
    exact fin 0 (by omega)
  have d1 : decide (r < 0) = false := by simp; omega
  by_cases h1 : r > 4096
  · have d2 : decide (r > 4096) = true := by simp; omega
    have b1 : bldO Try.prog 97 [(0, .int .i64 4096)] = _ := bld97 4096
    simp -implicitDefEqProofs only [go_sem, Nat.reduceEqDiff, Try.f36, d1, d2, b1]
    exact fin 4096 (by omega)
  have d2 : decide (r > 4096) = false := by simp; omega
  obtain ⟨n, rfl⟩ : ∃ n : Nat, r = n := ⟨r.toNat, by omega⟩
  have b1 := bld97 n
  simp -implicitDefEqProofs only [go_sem, Nat.reduceEqDiff, Try.f36, d1, d2, b1]
  exact fin n (by omega)
section
variable {w w' : World} {rb : Nat} {F : Nat → Prop} {s : St}
theorem Ref.frame {G : Nat → Prop} (h : Ref w rb F s) (f : Fr G w w') (hd : ∀ b, F b → ¬ G b) : Ref w' rb F s := by
  obtain ⟨vc, vk, h⟩ := h
  exact ⟨vc, vk, h.frame f hd⟩
theorem Ref.lt (h : Ref w rb F s) : ∀ b, F b → b < w.heap.size := by
  obtain ⟨vc, vk, h⟩ := h
  exact h.lt
theorem Ref.tally (h : Ref w rb F s) : Fn Try.prog 45 #[ptr (rb, 0)] w fun x w' => x = I.tallyV s.hits s.misses s.gone s.clean.length s.kept.length ∧ Fr (fun _ => False) w w' := by
  obtain ⟨vc, vk, h⟩ := h
  refine Try.go45 (by simp) ?_
  have hal := h.frame (G := fun _ => False) (((Fr.refl _ w).alloc (.cells #[.int .i64 0, .int .i64 0, .int .i64 0, .int .i64 0, .int .i64 0] 27)).drew) fun _ _ h => h
  obtain ⟨_, a1, a2, a3, a4, a5⟩ := hal.rd
  obtain ⟨cb, cc, rfl⟩ := h.cl.slice
  obtain ⟨kb, kc, rfl⟩ := h.kp.slice
  have a6 : bldO Try.prog 27 [(0, .int .i64 s.hits), (1, .int .i64 s.misses), (2, .int .i64 s.gone), (3, .int .i64 s.clean.length), (4, .int .i64 s.kept.length)] =
      some (.agg #[.int .i64 s.hits, .int .i64 s.misses, .int .i64 s.gone, .int .i64 s.clean.length, .int .i64 s.kept.length]) := by
    unfold bldO; rw [Try.zero27, Try.places27]; rfl
  generalize hw1 : w.alloc (.cells #[.int .i64 0, .int .i64 0, .int .i64 0, .int .i64 0, .int .i64 0] 27) = w1 at *
  have hnew : w1.heap[w.heap.size]? = some (.cells #[.int .i64 0, .int .i64 0, .int .i64 0, .int .i64 0, .int .i64 0] 27) := by rw [← hw1]; exact alloc_blk_new _ _
  have hsz : w1.heap.size = w.heap.size + 1 := by rw [← hw1]; exact alloc_heap_size _ _
  have a7 := wr_all (P := Try.prog) (t := 27) (w := w1.drew) (vs := #[.int .i64 s.hits, .int .i64 s.misses, .int .i64 s.gone, .int .i64 s.clean.length, .int .i64 s.kept.length]) Try.sz27 hnew rfl (by simp [one])
  have a8 := rd_all (P := Try.prog) (t := 27) (w := put w1.drew w.heap.size (.cells #[.int .i64 s.hits, .int .i64 s.misses, .int .i64 s.gone, .int .i64 s.clean.length, .int .i64 s.kept.length] 27 (0, 0))) (b := w.heap.size) (fr := (0, 0)) (e := 27) (vs := #[.int .i64 s.hits, .int .i64 s.misses, .int .i64 s.gone, .int .i64 s.clean.length, .int .i64 s.kept.length]) Try.agg27 Try.sz27
    (blk_put_same _ (by rw [drew_heap, hsz]; omega))
  simp -implicitDefEqProofs only [go_sem, Nat.reduceEqDiff, Nat.reduceAdd, Try.f45, hw1, a1, a2, a3, a4, a5, a6, a7, a8]
  refine ⟨rfl, ?_⟩
  rw [← hw1]; exact (((Fr.refl _ _).alloc _).drew).put _ fun hb => by omega
theorem pair_rd {w : World} {b o i : Nat} {p : Int × Int} (e1 : cv w b (o + i * 2) = some (.int .i64 p.1)) (e2 : cv w b (o + i * 2 + 1) = some (.int .i64 p.2)) : rdO Try.prog 100 w b (o + i * 2) = some (.agg #[.int .i64 p.1, .int .i64 p.2]) :=
  rd_agg Try.agg100 Try.sz100 rfl (by omega) fun j hj => by
    match j with
    | 0 => exact e1
    | 1 => exact e2
theorem Ref.get (h : Ref w rb F s) (hok : s.Ok) (hs : s.size < 8796093020000) (k : Int) :
    Fn Try.prog 37 #[ptr (rb, 0), .int .i64 k] w fun x w' => x = .tuple #[.int .i64 (s.got k).1, .bool (s.got k).2] ∧ Ref w' rb (grown F w w') (s.get k) ∧ Fr F w w' := by
  obtain ⟨vc, vk, h⟩ := h
  have hnd := hok.keys
  rw [List.map_append] at hnd
  have hnc := (List.nodup_append.1 hnd).1
  have hnk := (List.nodup_append.1 hnd).2.1
  unfold I.St.size at hs
  refine Try.go37 (by simp) ?_
  obtain ⟨a0, a1, a2, a3, a4, a5⟩ := h.rd
  obtain ⟨hpk, _⟩ := own_pairs h.kp
  simp -implicitDefEqProofs only [go_sem, Nat.reduceEqDiff, Nat.reduceAdd, Try.f37, a2]
  refine contL_call Try.pl54 ((at_law hpk k (by omega)).mono ?_)
  rintro _ _ ⟨rfl, r, rfl, hr⟩
  obtain ⟨_, hc⟩ := idx_cases hr hnk
  rcases hc with ⟨rfl, hlk⟩ | ⟨i, p, rfl, hp, hk, hlk⟩
  · have d1 : decide ((-1 : Int) ≥ 0) = false := by decide
    simp -implicitDefEqProofs only [go_sem, Nat.reduceEqDiff, d1, a1]
    obtain ⟨hpc, _⟩ := own_pairs h.cl
    refine contL_call Try.pl54 ((at_law hpc k (by omega)).mono ?_)
    rintro _ _ ⟨rfl, r, rfl, hr⟩
    obtain ⟨hwo, hc⟩ := idx_cases hr hnc
    rcases hc with ⟨rfl, hlc⟩ | ⟨i, p, rfl, hp, hk, hlc⟩
    · have d2 : decide ((-1 : Int) < 0) = true := by decide
      have s1 : IntKind.i64.wrap ((s.misses : Int) + 1) = ((s.misses + 1 : Nat) : Int) := by rw [wrap64_id (by omega) (by omega)]; rfl
      have b1 := (wr_row h.row).2.2.2.1 (s.misses + 1)
      simp -implicitDefEqProofs only [go_sem, Nat.reduceEqDiff, d2, a4, s1, b1]
      have e1 : s.got k = (0, false) := by simp [I.St.got, hlk, hlc]
      have e2 : s.get k = { s with misses := s.misses + 1 } := by simp [I.St.get, hlk, hlc]
      rw [e1, e2]
      have h1 := h.count s.hits (s.misses + 1) s.gone
      exact ⟨rfl, ⟨vc, vk, h1.mono (fun _ h => .inl h) (grown_lt h.lt (by rw [refP_size]; exact Nat.le_refl _))⟩, refP_fr (Fr.refl _ _) fun _ => h.frb⟩
    · have d2 : decide ((i : Int) < 0) = false := by simp
      have hi := (List.getElem?_eq_some_iff.1 hp).1
      have i1 : 0 ≤ (i : Int) := by omega
      have i2 : (i : Int) < (s.clean.length : Int) := by omega
      obtain ⟨cb, cc, hvc, hcell⟩ := hpc
      subst hvc
      obtain ⟨b, o, rfl, e1, e2⟩ := hcell i p hp
      have a6 := pair_rd e1 e2
      have f2 : Fr (fun _ => False) w (put (w.alloc (.cells #[.int .i64 0, .int .i64 0] 100)) w.heap.size (.cells #[.int .i64 p.1, .int .i64 p.2] 100 (0, 0))) :=
        ((Fr.refl _ _).alloc _).put (b := w.heap.size) _ fun h => absurd h (Nat.lt_irrefl _)
      have hnew : (w.alloc (.cells #[.int .i64 0, .int .i64 0] 100)).heap[w.heap.size]? = some (.cells #[.int .i64 0, .int .i64 0] 100) := alloc_blk_new _ _
      have a7 := wr_all (P := Try.prog) (t := 100) (vs := #[.int .i64 p.1, .int .i64 p.2]) Try.sz100 hnew rfl (by simp [one])
      have k2 : (put (w.alloc (.cells #[.int .i64 0, .int .i64 0] 100)) w.heap.size (.cells #[.int .i64 p.1, .int .i64 p.2] 100 (0, 0))).heap[w.heap.size]? = some (.cells #[.int .i64 p.1, .int .i64 p.2] 100 (0, 0)) := blk_put_same _ (heap_lt hnew)
      have hs2 : (put (w.alloc (.cells #[.int .i64 0, .int .i64 0] 100)) w.heap.size (.cells #[.int .i64 p.1, .int .i64 p.2] 100 (0, 0))).heap.size = w.heap.size + 1 := by rw [put_heap_size, alloc_heap_size]
      have h2 := h.frame f2 fun _ _ h => h
      simp -implicitDefEqProofs only [go_sem, Nat.reduceEqDiff, d2, a1, decide_true, i1, i2, and_self, Int.toNat_natCast, a6, a7]
      generalize put (w.alloc (.cells #[.int .i64 0, .int .i64 0] 100)) w.heap.size (.cells #[.int .i64 p.1, .int .i64 p.2] 100 (0, 0)) = w2 at *
      obtain ⟨_, _, _, a3, _, _⟩ := h2.rd
      have s1 : IntKind.i64.wrap ((s.hits : Int) + 1) = ((s.hits + 1 : Nat) : Int) := by rw [wrap64_id (by omega) (by omega)]; rfl
      have b1 := (wr_row h2.row).2.2.1 (s.hits + 1)
      have h3 := h2.count (s.hits + 1) s.misses s.gone
      have f3 : Fr F w (refP w2 rb s.room (.slice (some ⟨b, o, none⟩) s.clean.length cc) vk (s.hits + 1) s.misses s.gone) := refP_fr (Fr.none f2) fun _ => h.frb
      have hrbb : rb ≠ w.heap.size := by have := h.lt rb h.frb; omega
      have k3 := (blk_put_ne (w := w2) (.cells (refC s.room (.slice (some ⟨b, o, none⟩) s.clean.length cc) vk (s.hits + 1) s.misses s.gone) 97 (0, 0)) hrbb).trans k2
      have hs3 : (refP w2 rb s.room (.slice (some ⟨b, o, none⟩) s.clean.length cc) vk (s.hits + 1) s.misses s.gone).heap.size = w.heap.size + 1 := refP_size.trans hs2
      change (refP w2 rb s.room (.slice (some ⟨b, o, none⟩) s.clean.length cc) vk (s.hits + 1) s.misses s.gone).heap[w.heap.size]? = _ at k3
      obtain ⟨_, c1, _⟩ := h3.rd
      simp -implicitDefEqProofs only [go_sem, Nat.reduceEqDiff, a3, s1, b1, c1]
      generalize refP w2 rb s.room (.slice (some ⟨b, o, none⟩) s.clean.length cc) vk (s.hits + 1) s.misses s.gone = w3 at *
      refine contL_call Try.pl55 ((without (own_pairs h3.cl).1 i (by omega)).mono ?_)
      rintro x w4 ⟨ho, hxn, f4⟩
      rw [hwo] at ho
      obtain ⟨h5, f5, row4⟩ := h3.clean (x := x) (cl' := wout s.clean k) (Fr.none f4) ho fun b hb => .inr (hxn b hb)
      have b2 := (wr_row row4).1 x (own_one ho)
      have k4 := (f4.blk w.heap.size (by omega) id).trans k3
      have k5 := (blk_put_ne (w := w4) (.cells (refC s.room x vk (s.hits + 1) s.misses s.gone) 97 (0, 0)) hrbb).trans k4
      change (refP w4 rb s.room x vk (s.hits + 1) s.misses s.gone).heap[w.heap.size]? = _ at k5
      have hs5 : (refP w4 rb s.room x vk (s.hits + 1) s.misses s.gone).heap.size = w4.heap.size := refP_size
      simp -implicitDefEqProofs only [go_sem, Nat.reduceEqDiff, b2]
      generalize refP w4 rb s.room x vk (s.hits + 1) s.misses s.gone = w5 at *
      have h5d : RefAt w5.drew rb (grown F w3 w4) x vk (wout s.clean k) s.kept s.room (s.hits + 1) s.misses s.gone := h5.frame (G := fun _ => False) ((Fr.refl _ _).drew) fun _ _ h => h
      obtain ⟨_, c2, _⟩ := h5d.rd
      have c3 : rdO Try.prog 100 w5.drew w.heap.size 0 = some _ := rd_all (vs := #[.int .i64 p.1, .int .i64 p.2]) Try.agg100 Try.sz100 k5
      have hwl : (wout s.clean k).length ≤ s.clean.length := List.length_filter_le _ _
      obtain ⟨x', w6, hrun, r⟩ := app_new (P := Try.prog) (ts := #[95, 95]) (t := 95) (t' := 95) rfl rfl Try.slc95 Try.int95 und95 Try.sz100 by100 Try.zero100 rfl h5d.cl (m := 1) #[.int .i64 p.1, .int .i64 p.2] rfl rfl (by omega) (by omega) (by omega)
      refine den_ext (fun j => j == 6) [0, 1, 2, 3, 4, 5, 6, 7, 8, 9, 10] rfl (by kernel_rfl) (by kernel_rfl) ?_
      simp -implicitDefEqProofs only [go_sem, Nat.reduceEqDiff, List.getElem?_toArray, List.getElem?_cons_zero, List.getElem?_cons_succ, c2, c3]
      refine contLX_is (v := .slice (some ⟨w5.heap.size, 0, none⟩) 1 1) (w' := w5.drew.alloc (.cells #[.int .i64 p.1, .int .i64 p.2] 100)) rfl (fun _ => Ext.alloc _ _) ?_
      simp -implicitDefEqProofs only [go_sem, Nat.reduceEqDiff, List.getElem?_toArray, List.getElem?_cons_zero, List.getElem?_cons_succ]
      refine contLX_sem ⟨x', w6, hrun, fun h => (by cases h), ?_⟩
      have ho' : OwnO w6 100 2 x' (wout s.clean k ++ [(k, p.2)]).length (pairsV (wout s.clean k ++ [(k, p.2)])) := by
        rw [show ((k, p.2) : Int × Int) = p by rw [← hk], pairsV_app, List.length_append]; exact r.own
      obtain ⟨h7, f7, row6⟩ := h5d.clean (x := x') (cl' := wout s.clean k ++ [(k, p.2)]) r.fr ho' fun b hb => by
        obtain ⟨b', q1, q2⟩ := r.blk
        rw [q1] at hb; cases hb; exact q2
      have b3 := (wr_row row6).1 x' (own_one ho')
      have k6 : w6.heap[w.heap.size]? = some (.cells #[.int .i64 p.1, .int .i64 p.2] 100 (0, 0)) := (r.fr.blk w.heap.size (by rw [drew_heap]; exact heap_lt k5) fun e => by have := hxn _ e; omega).trans k5
      have k7 := (blk_put_ne (w := w6) (.cells (refC s.room x' vk (s.hits + 1) s.misses s.gone) 97 (0, 0)) hrbb).trans k6
      have c4 : rdO Try.prog 3 (refP w6 rb s.room x' vk (s.hits + 1) s.misses s.gone) w.heap.size 1 = some _ := rd_cv Try.agg3 (cv_of_row (o := 1) k7)
      simp -implicitDefEqProofs only [go_sem, Nat.reduceEqDiff, List.getElem?_toArray, List.getElem?_cons_zero, List.getElem?_cons_succ, b3, c4]
      have g1 : s.got k = (p.2, true) := by simp [I.St.got, hlk, hlc]
      have g2 : s.get k = { s with clean := wout s.clean k ++ [(k, p.2)], hits := s.hits + 1 } := by simp [I.St.get, hlk, hlc]
      rw [g1, g2]
      have z3 := f3.size
      have z4 := f4.size
      have z6 : w5.heap.size ≤ w6.heap.size := r.fr.size
      have z7 : (refP w6 rb s.room x' vk (s.hits + 1) s.misses s.gone).heap.size = w6.heap.size := refP_size
      have f8 := ((f3.trans f5).drew).trans' f7 fun b hb h' => by
        rcases h' with h' | h'
        · exact h'
        · omega
      refine ⟨fun h => (by cases h), rfl, ⟨x', vk, h7.mono (fun b hb => ?_) (grown_lt h.lt f8.size)⟩, f8⟩
      rcases hb with (hb | hb) | hb
      · exact .inl hb
      · exact .inr ⟨by omega, by omega⟩
      · have hb1 : w5.heap.size ≤ b := hb.1
        exact .inr ⟨by omega, by rw [z7]; exact hb.2⟩
  · have d1 : decide ((i : Int) ≥ 0) = true := by simp
    have hi := (List.getElem?_eq_some_iff.1 hp).1
    have i1 : 0 ≤ (i : Int) := by omega
    have i2 : (i : Int) < (s.kept.length : Int) := by omega
    have s1 : IntKind.i64.wrap ((s.hits : Int) + 1) = ((s.hits + 1 : Nat) : Int) := by rw [wrap64_id (by omega) (by omega)]; rfl
    have b1 := (wr_row h.row).2.2.1 (s.hits + 1)
    have h1 := h.count (s.hits + 1) s.misses s.gone
    obtain ⟨_, _, c2, _⟩ := h1.rd
    obtain ⟨⟨kb, kc, hvk, hcell⟩, _⟩ := own_pairs h1.kp
    subst hvk
    obtain ⟨b, o, rfl, e1, e2⟩ := hcell i p hp
    have a6 : rdO Try.prog 3 _ b (o + i * 2 + 1) = some _ := rd_cv Try.agg3 e2
    simp -implicitDefEqProofs only [go_sem, Nat.reduceEqDiff, d1, a3, s1, b1, c2, decide_true, i1, i2, and_self, Int.toNat_natCast, a6]
    have e1 : s.got k = (p.2, true) := by simp [I.St.got, hlk]
    have e2 : s.get k = { s with hits := s.hits + 1 } := by simp [I.St.get, hlk]
    rw [e1, e2]
    exact ⟨rfl, ⟨vc, _, h1.mono (fun _ h => .inl h) (grown_lt h.lt (by rw [refP_size]; exact Nat.le_refl _))⟩, refP_fr (Fr.refl _ _) fun _ => h.frb⟩
end
end R
end Go.V
