/-
  An image of zeros is refused as blank: the walks of UnpackSuper, empty, Choose, page, look, clean, Check, Pages, Owner, Garbage at such an image.
-/
import Derived.Test.YtbnabmpchhmckaaGreatDoorCrc
import Derived.Test.YtbnabmpchhmckaaGreatDoorLibU
namespace Go.V
open Go.Proofs
set_option maxRecDepth 100000
abbrev sup0 : Array Value := #[.int .i64 0, .int .i64 0, .int .i64 0, .int .i64 0, .int .i64 0]
theorem bldSup0 : bldO Tryz.prog 39 [] = some (.agg sup0) := by
  unfold bldO; rw [Tryz.zero39, Tryz.places39]; rfl
theorem putRd {P : Program} {t : TypeId} {w : World} {b : Nat} {c vs : Array Value} {e : TypeId} (ha : aggO P t = some true) (hs : szO P t = some vs.size) (h : w.heap[b]? = some (.cells c e (0, 0))) (hc : c.size = vs.size) (ho : vs.all one = true) :
    wrO P t w b 0 (.agg vs) = some (put w b (.cells vs e (0, 0))) ∧ rdO P t (put w b (.cells vs e (0, 0))) b 0 = some (.agg vs) :=
  ⟨wr_all hs h hc ho, rd_all ha hs (blk_put_same _ (heap_lt h))⟩
def nulls (n : Nat) : List Byte := List.replicate n 0
theorem crc60 : (let n := (nulls 64).length - 4; let c := crcUpd 0 ((nulls 64).take n);
      (nulls 64).getD n 0 == c.setWidth 8 && (nulls 64).getD (n + 1) 0 == (c >>> 8).setWidth 8 && (nulls 64).getD (n + 2) 0 == (c >>> 16).setWidth 8 && (nulls 64).getD (n + 3) 0 == (c >>> 24).setWidth 8) = false := by
  decide +kernel
theorem nulls_len (n : Nat) : (nulls n).length = n := by simp [nulls]
/-- a list of zeros: where it lies -/
def Null (w : World) (b o n : Nat) : Prop := ∀ i, i < n → rc w b (o + i) = some (u8 0)
theorem By.null {w : World} {p : Value} {n : Nat} (h : By w p (nulls n)) (h0 : 0 < n) : ∃ b o cap, p = .slice (some ⟨b, o, none⟩) n cap ∧ n ≤ cap ∧ Null w b o n := by
  obtain ⟨a, cap, rfl, hcap, hat⟩ := By.at h
  have hn := nulls_len n
  obtain ⟨b, o, rfl, _⟩ := hat 0 (by omega)
  refine ⟨b, o, cap, by rw [hn], by omega, fun i hi => ?_⟩
  obtain ⟨b', o', e, h'⟩ := hat i (by omega)
  cases e
  rw [h']; simp [nulls]
theorem Null.by {w : World} {b o n : Nat} (h : Null w b o n) {m : Nat} (k : Nat) (hm : k + m ≤ n) {cap : Nat} (hc : m ≤ cap) : By w (.slice (some ⟨b, o + k, none⟩) m cap) (nulls m) := by
  refine ⟨by simp, _, _, by rw [nulls_len], by rw [nulls_len]; exact hc, fun _ => ⟨b, o + k, rfl, fun i hi => ?_⟩⟩
  rw [nulls_len, Nat.mul_one] at hi
  rw [Nat.add_assoc, h (k + i) (by omega), nulls]
  simp only [List.getElem?_map, List.getElem?_replicate]; rw [if_pos hi]; rfl
theorem Null.fr {w w' : World} {b o n : Nat} (h : Null w b o n) (k : No w w') : Null w' b o n := fun i hi => by
  have := h i hi
  rw [k.rc (rc_lt this) id]; exact this
theorem add_zero' (b o : Nat) : (⟨b, o, none⟩ : Addr).add 0 = ⟨b, o, none⟩ := add_off b o 0
theorem unpack0 (w : World) {b o cap : Nat} (hp : Null w b o 256) (hcap : 256 ≤ cap) :
    Fn Tryz.prog 24 #[.slice (some ⟨b, o, none⟩) 256 cap] w fun v w' => v = .tuple #[.agg sup0, .int .i64 52] ∧ No w w' := by
  refine Tryz.go24 (by simp) ?_
  have d0 : (((256 : Nat) : Int) != 256) = false := rfl
  have sb : sbO (.int .i64 64) cap = some 64 := by simp only [sbO]; rw [if_pos (by omega)]; rfl
  have f0 : No w (w.alloc (.cells sup0 39)) := (Fr.refl _ w).alloc _
  have hh' : By (w.alloc (.cells sup0 39)) (.slice (some ⟨b, o, none⟩) 64 cap) (nulls 64) := (hp.fr f0).by 0 (by omega) (by omega)
  have hc0 : ¬ cap = 0 := by omega
  simp -implicitDefEqProofs only [go_sem, Nat.reduceEqDiff, Tryz.f24, d0, sliceP, optB, sb, Value.cells, hc0, Nat.zero_mul, add_zero', Nat.sub_zero]
  refine contL_call Tryz.pl39 ((whole _ hh' (by rw [nulls_len]; omega) (by rw [nulls_len]; omega)).mono ?_); rintro _ w1 ⟨rfl, fr⟩
  rw [crc60]
  have hb : w1.heap[w.heap.size]? = some (.cells sup0 39 (0, 0)) := by
    rw [fr.blk _ (by rw [alloc_heap_size]; omega) id]; exact alloc_blk_new _ _
  obtain ⟨q0, q1⟩ := putRd (P := Tryz.prog) (t := 39) (vs := sup0) Tryz.agg39 Tryz.sz39 hb rfl (by rw [← Array.all_toList]; rfl)
  simp -implicitDefEqProofs only [go_sem, Nat.reduceEqDiff, bldSup0, q0, q1, Bool.not_false, List.map_nil]
  exact ((f0.trans fr)).put (b := w.heap.size) _ fun h => absurd h (Nat.lt_irrefl _)
theorem bldSec0 : bldO Tryz.prog 102 [] = some (dg (nulls 64)) := by
  unfold bldO; rw [Tryz.zero102, Tryz.places102, Tryz.arr102]; rfl
theorem empty0 (w : World) {b o cap : Nat} (hp : Null w b o 256) (hcap : 256 ≤ cap) :
    Fn Tryz.prog 26 #[.slice (some ⟨b, o, none⟩) 256 cap] w fun v w' => v = .bool true ∧ No w w' := by
  refine Tryz.go26 (by simp) ?_
  have d0 : (((256 : Nat) : Int) == 256) = true := rfl
  have sb : sbO (.int .i64 64) cap = some 64 := by simp only [sbO]; rw [if_pos (by omega)]; rfl
  have hc0 : ¬ cap = 0 := by omega
  have r0 : rdO Tryz.prog 102 w b o = some (dg (nulls 64)) := rd_dg Tryz.agg102 Tryz.sz102 (nulls_len 64) (by omega) fun i hi => by
    rw [hp i (by omega), nulls, List.getElem?_map, List.getElem?_replicate, if_pos hi]; rfl
  have e0 : eqV Tryz.prog Op.maxDepth 102 (dg (nulls 64)) (dg (nulls 64)) = some (nulls 64 == nulls 64) := eqm_dg Tryz.arr102 Tryz.int5 Tryz.sz5 Tryz.agg5 (nulls_len 64) (nulls_len 64)
  have e1 : (nulls 64 == nulls 64) = true := by simp
  rw [e1] at e0
  have b0 := bldSec0
  generalize nulls 64 = z at r0 e0 b0
  simp -implicitDefEqProofs only [go_sem, Nat.reduceEqDiff, Tryz.f26, d0, sliceP, optB, sb, hc0, Nat.zero_mul, add_zero', Nat.sub_zero, Nat.le_refl, r0, e0, b0, Tryz.eqg102, List.map_nil, List.getElem?_toArray, List.getElem?_cons_zero, List.getElem?_cons_succ, beq_self_eq_true]
  exact Fr.refl _ w
theorem choose0 (w : World) {b o cap : Nat} (hp : Null w b o 256) (hcap : 256 ≤ cap) {b' o' cap' : Nat} (hp' : Null w b' o' 256) (hcap' : 256 ≤ cap') :
    Fn Tryz.prog 14 #[.slice (some ⟨b, o, none⟩) 256 cap, .slice (some ⟨b', o', none⟩) 256 cap'] w fun v w' => v = .tuple #[.agg sup0, .int .i64 55] ∧ No w w' := by
  refine Tryz.go14 (by simp) ?_
  have f0 : No w (w.alloc (.cells sup0 39)) := (Fr.refl _ w).alloc _
  simp -implicitDefEqProofs only [go_sem, Nat.reduceEqDiff, Tryz.f14, Value.cells]
  refine contL_call Tryz.pl24 ((unpack0 (w.alloc (.cells sup0 39)) (hp.fr f0) hcap).mono ?_); rintro _ w1 ⟨rfl, f1⟩
  have hb : w1.heap[w.heap.size]? = some (.cells sup0 39 (0, 0)) := by
    rw [f1.blk _ (by rw [alloc_heap_size]; omega) id]; exact alloc_blk_new _ _
  obtain ⟨q0, q1⟩ := putRd (P := Tryz.prog) (t := 39) (w := w1.alloc (.cells sup0 39)) (vs := sup0) Tryz.agg39 Tryz.sz39 (alloc_blk_new _ _) rfl (by rw [← Array.all_toList]; rfl)
  have f2 : No w (put (w1.alloc (.cells sup0 39)) w1.heap.size (.cells sup0 39 (0, 0))) := ((f0.trans f1).alloc _).put (b := w1.heap.size) _ fun h => by have := f0.size; have := f1.size; omega
  have hb2 : (put (w1.alloc (.cells sup0 39)) w1.heap.size (.cells sup0 39 (0, 0))).heap[w.heap.size]? = some (.cells sup0 39 (0, 0)) := by
    have := heap_lt hb
    rw [blk_put_ne _ (by omega), alloc_blk_ne _ _ (by omega)]; exact hb
  simp -implicitDefEqProofs only [go_sem, Nat.reduceEqDiff, Value.cells, List.getElem?_toArray, List.getElem?_cons_zero, List.getElem?_cons_succ]
  simp -implicitDefEqProofs only [go_sem, Nat.reduceEqDiff, Value.cells, List.getElem?_toArray, List.getElem?_cons_zero, List.getElem?_cons_succ, q0]
  generalize put (w1.alloc (.cells sup0 39)) w1.heap.size (.cells sup0 39 (0, 0)) = w2 at *
  refine contL_call Tryz.pl24 ((unpack0 w2 (hp'.fr f2) hcap').mono ?_); rintro _ w3 ⟨rfl, f3⟩
  obtain ⟨q2, q3⟩ := putRd (P := Tryz.prog) (t := 39) (w := w3.alloc (.cells sup0 39)) (vs := sup0) Tryz.agg39 Tryz.sz39 (alloc_blk_new _ _) rfl (by rw [← Array.all_toList]; rfl)
  have f4 : No w (put (w3.alloc (.cells sup0 39)) w3.heap.size (.cells sup0 39 (0, 0))) := ((f2.trans f3).alloc _).put (b := w3.heap.size) _ fun h => by have := f2.size; have := f3.size; omega
  have hb4 : (put (w3.alloc (.cells sup0 39)) w3.heap.size (.cells sup0 39 (0, 0))).heap[w.heap.size]? = some (.cells sup0 39 (0, 0)) := by
    have := heap_lt hb2
    have := f3.size
    rw [blk_put_ne _ (by omega), alloc_blk_ne _ _ (by omega), f3.blk _ (heap_lt hb2) id]; exact hb2
  have n1 : ((52 : Int) == 0) = false := rfl
  simp -implicitDefEqProofs only [go_sem, Nat.reduceEqDiff, Value.cells, List.getElem?_toArray, List.getElem?_cons_zero, List.getElem?_cons_succ, q2, n1, beq_self_eq_true, ft_beq, tf_beq]
  generalize put (w3.alloc (.cells sup0 39)) w3.heap.size (.cells sup0 39 (0, 0)) = w4 at *
  refine contL_call Tryz.pl26 ((empty0 w4 (hp'.fr f4) hcap').mono ?_); rintro _ w5 ⟨rfl, f5⟩
  simp -implicitDefEqProofs only [go_sem, Nat.reduceEqDiff, List.getElem?_toArray, List.getElem?_cons_zero, List.getElem?_cons_succ, n1, beq_self_eq_true, ft_beq, tf_beq, Bool.not_true]
  refine contL_call Tryz.pl26 ((empty0 w5 ((hp.fr f4).fr f5) hcap).mono ?_); rintro _ w6 ⟨rfl, f6⟩
  have hb6 : w6.heap[w.heap.size]? = some (.cells sup0 39 (0, 0)) := by
    rw [(f5.trans f6).blk _ (heap_lt hb4) id]; exact hb4
  obtain ⟨q4, q5⟩ := putRd (P := Tryz.prog) (t := 39) (vs := sup0) Tryz.agg39 Tryz.sz39 hb6 rfl (by rw [← Array.all_toList]; rfl)
  simp -implicitDefEqProofs only [go_sem, Nat.reduceEqDiff, bldSup0, q4, q5, List.map_nil]
  exact ((f4.trans f5).trans f6).put (b := w.heap.size) _ fun h => absurd h (Nat.lt_irrefl _)
/-- the slice of a page -/
theorem page0 (w : World) {sb ib io cap k : Nat} {c : Array Value} {e : TypeId} (hrow : w.heap[sb]? = some (.cells c e (0, 0))) (h0 : c[0]? = some (.slice (some ⟨ib, io, none⟩) 768 cap)) (hcap : 768 ≤ cap) (hk : k < 2) :
    Fn Tryz.prog 15 #[pt sb 0, .int .i64 k] w fun v w' => v = .slice (some ⟨ib, io + k * 256, none⟩) 256 (cap - k * 256) ∧ w' = w := by
  refine Tryz.go15 (by simp) ?_
  have r0 : rdO Tryz.prog 28 w sb 0 = some (.slice (some ⟨ib, io, none⟩) 768 cap) := rd_cv Tryz.agg28 (by rw [cv_of_row hrow]; exact h0)
  have a1 : IntKind.i64.wrap ((k : Int) * 256) = ((k * 256 : Nat) : Int) := by rw [wrap64_id (by omega) (by omega)]; omega
  have a2 : IntKind.i64.wrap ((k : Int) + 1) = ((k + 1 : Nat) : Int) := by rw [wrap64_id (by omega) (by omega)]; omega
  have a3 : IntKind.i64.wrap (((k + 1 : Nat) : Int) * 256) = ((k * 256 + 256 : Nat) : Int) := by rw [wrap64_id (by omega) (by omega)]; omega
  have s1 : sbO (.int .i64 ((k * 256 + 256 : Nat) : Int)) cap = some (k * 256 + 256) := by simp only [sbO]; rw [if_pos (by omega), Int.toNat_natCast]
  have s2 : sbO (.int .i64 ((k * 256 : Nat) : Int)) (k * 256 + 256) = some (k * 256) := by simp only [sbO]; rw [if_pos (by omega), Int.toNat_natCast]
  have c1 : ¬ cap = k * 256 := by omega
  simp -implicitDefEqProofs only [go_sem, Nat.reduceEqDiff, Tryz.f15, r0, a1, a2, a3, sliceP, optB, s1, s2, c1, Nat.mul_one, Nat.add_sub_cancel_left]
/-- the cells of a new sight -/
abbrev sight0 (im nm rm : Value) : Array Value := #[im, .int .i64 0, .int .i64 0, .int .i64 0, .int .i64 0, .int .i64 0, nm, rm, .slice none 0 0, .slice none 0 0, .slice none 0 0, .slice none 0 0]
theorem bldSight (im : Option Addr) (n c : Nat) (x y : Option Nat) : bldO Tryz.prog 45 [(0, .slice im n c), (2, .map x), (3, .map y)] = some (.agg (sight0 (.slice im n c) (.map x) (.map y))) := by
  unfold bldO; rw [Tryz.zero45, Tryz.places45]; rfl
theorem wr_sub {P : Program} {t : TypeId} {w : World} {b o : Nat} {c vs : Array Value} {e : TypeId} (hs : szO P t = some vs.size) (h : w.heap[b]? = some (.cells c e (0, 0))) (hc : o + vs.size ≤ c.size) (ho : vs.all one = true) :
    wrO P t w b o (.agg vs) = some (put w b (.cells (storeL vs.toList o c) e (0, 0))) := by
  simp only [wrO, stO, h, Value.cells, hs, ho]
  rw [if_pos ⟨trivial, hc, trivial⟩]; rfl
theorem look0 (w : World) {b o cap : Nat} (hp : Null w b o 768) (hcap : 768 ≤ cap) :
    Fn Tryz.prog 8 #[.slice (some ⟨b, o, none⟩) 768 cap] w fun v w' => v = .tuple #[.pointer none, .int .i64 55] ∧ No w w' := by
  refine Tryz.go8 (by simp) ?_
  have d0 : (((768 : Nat) : Int).tmod 256 != 0) = false := rfl
  have d1 : IntKind.i64.wrap (((768 : Nat) : Int).tdiv 256) = 3 := by rw [wrap64_id (by decide) (by decide)]; rfl
  have d2 : decide ((3 : Int) < 3) = false := rfl
  have d3 : decide ((3 : Int) > 4096) = false := rfl
  have b1 := bldSight (some ⟨b, o, none⟩) 768 cap (some w.heap.size) (some (w.heap.size + 1))
  have n0 : ((256 : Int) = 0) = False := by simp
  simp -implicitDefEqProofs only [go_sem, Nat.reduceEqDiff, Tryz.f8, Value.cells, d0, d1, d2, d3, n0, List.getElem?_toArray, List.getElem?_cons_zero, List.getElem?_cons_succ, beq_self_eq_true, ft_beq, tf_beq, b1]
  generalize hA : sight0 (.slice (some ⟨b, o, none⟩) 768 cap) (.map (some w.heap.size)) (.map (some (w.heap.size + 1))) = A
  have hA0 : A[0]? = some (.slice (some ⟨b, o, none⟩) 768 cap) := by rw [← hA]; rfl
  have hA1 : A.size = 12 := by rw [← hA]; rfl
  have fW : No w (((w.alloc (.map #[] 0)).alloc (.map #[] 0)).alloc (.cells A 45)) := (((Fr.refl _ w).alloc _).alloc _).alloc _
  have hW : (((w.alloc (.map #[] 0)).alloc (.map #[] 0)).alloc (.cells A 45)).heap[w.heap.size + 1 + 1]? = some (.cells A 45 (0, 0)) := by
    have := alloc_blk_new ((w.alloc (.map #[] 0)).alloc (.map #[] 0)) (.cells A 45)
    rw [alloc_heap_size, alloc_heap_size] at this; exact this
  generalize ((w.alloc (.map #[] 0)).alloc (.map #[] 0)).alloc (.cells A 45) = W at fW hW
  refine contL_call Tryz.pl15 ((page0 (k := 0) W hW hA0 hcap (by omega)).mono ?_); rintro _ w1 ⟨rfl, rfl⟩
  simp -implicitDefEqProofs only [go_sem, Nat.reduceEqDiff]
  refine contL_call Tryz.pl15 ((page0 (k := 1) w1 hW hA0 hcap (by omega)).mono ?_); rintro _ w2 ⟨rfl, rfl⟩
  simp -implicitDefEqProofs only [go_sem, Nat.reduceEqDiff, Nat.zero_mul, Nat.one_mul, Nat.sub_zero]
  have hz : Null w2 b o 768 := hp.fr fW
  refine contL_call Tryz.pl14 ((choose0 w2 (b := b) (o := o) (fun i hi => hz i (by omega)) (by omega) (b' := b) (o' := o + 256) (fun i hi => by rw [Nat.add_assoc]; exact hz (256 + i) (by omega)) (by omega)).mono ?_); rintro _ w3 ⟨rfl, f3⟩
  have hb3 : w3.heap[w.heap.size + 1 + 1]? = some (.cells A 45 (0, 0)) := by rw [f3.blk _ (heap_lt hW) id]; exact hW
  have q3 := wr_sub (P := Tryz.prog) (t := 39) (o := 1) (vs := sup0) Tryz.sz39 hb3 (by rw [hA1]; decide) (by rw [← Array.all_toList]; rfl)
  have n1 : ((55 : Int) != 0) = true := rfl
  simp -implicitDefEqProofs only [go_sem, Nat.reduceEqDiff, q3, n1, List.getElem?_toArray, List.getElem?_cons_zero, List.getElem?_cons_succ]
  exact (fW.trans f3).put (b := w.heap.size + 1 + 1) _ fun h => by omega
theorem clean0 (w : World) {b o cap : Nat} (hp : Null w b o 768) (hcap : 768 ≤ cap) :
    Fn Tryz.prog 9 #[.slice (some ⟨b, o, none⟩) 768 cap] w fun v w' => v = .tuple #[.pointer none, .int .i64 55] ∧ No w w' := by
  refine Tryz.go9 (by simp) ?_
  simp -implicitDefEqProofs only [go_sem, Nat.reduceEqDiff, Tryz.f9]
  refine contL_call Tryz.pl8 ((look0 w hp hcap).mono ?_); rintro _ w1 ⟨rfl, fr⟩
  have n1 : ((55 : Int) == 0) = false := rfl
  simp -implicitDefEqProofs only [go_sem, Nat.reduceEqDiff, n1, List.getElem?_toArray, List.getElem?_cons_zero, List.getElem?_cons_succ, ft_beq, tf_beq]
  exact fr
theorem pages0 (w : World) {b o cap : Nat} (hp : Null w b o 768) (hcap : 768 ≤ cap) (n : Int) :
    Fn Tryz.prog 5 #[.slice (some ⟨b, o, none⟩) 768 cap, .int .i64 n] w fun v w' => v = .tuple #[.slice none 0 0, .int .i64 55] ∧ No w w' := by
  refine Tryz.go5 (by simp) ?_
  simp -implicitDefEqProofs only [go_sem, Nat.reduceEqDiff, Tryz.f5]
  refine contL_call Tryz.pl9 ((clean0 w hp hcap).mono ?_); rintro _ w1 ⟨rfl, fr⟩
  have n1 : ((55 : Int) != 0) = true := rfl
  simp -implicitDefEqProofs only [go_sem, Nat.reduceEqDiff, n1, List.getElem?_toArray, List.getElem?_cons_zero, List.getElem?_cons_succ, ft_beq, tf_beq]
  exact fr
theorem garbage0 (w : World) {b o cap : Nat} (hp : Null w b o 768) (hcap : 768 ≤ cap) (n : Int) :
    Fn Tryz.prog 7 #[.slice (some ⟨b, o, none⟩) 768 cap, .int .i64 n] w fun v w' => v = .tuple #[.slice none 0 0, .int .i64 55] ∧ No w w' := by
  refine Tryz.go7 (by simp) ?_
  simp -implicitDefEqProofs only [go_sem, Nat.reduceEqDiff, Tryz.f7]
  refine contL_call Tryz.pl9 ((clean0 w hp hcap).mono ?_); rintro _ w1 ⟨rfl, fr⟩
  have n1 : ((55 : Int) != 0) = true := rfl
  simp -implicitDefEqProofs only [go_sem, Nat.reduceEqDiff, n1, List.getElem?_toArray, List.getElem?_cons_zero, List.getElem?_cons_succ, ft_beq, tf_beq]
  exact fr
theorem owner0 (w : World) {b o cap : Nat} (hp : Null w b o 768) (hcap : 768 ≤ cap) (n : Int) :
    Fn Tryz.prog 6 #[.slice (some ⟨b, o, none⟩) 768 cap, .int .i64 n] w fun v w' => v = .tuple #[.int .i64 0, .int .i64 55] ∧ No w w' := by
  refine Tryz.go6 (by simp) ?_
  simp -implicitDefEqProofs only [go_sem, Nat.reduceEqDiff, Tryz.f6]
  refine contL_call Tryz.pl9 ((clean0 w hp hcap).mono ?_); rintro _ w1 ⟨rfl, fr⟩
  have n1 : ((55 : Int) != 0) = true := rfl
  simp -implicitDefEqProofs only [go_sem, Nat.reduceEqDiff, n1, List.getElem?_toArray, List.getElem?_cons_zero, List.getElem?_cons_succ, ft_beq, tf_beq]
  exact fr
end Go.V
