/-
  The walks of 'path' and 'word': an int as a key, and as a text.
-/
import Derived.Test.YtbbkpngcichdcaaSecP
import Derived.Test.YtbbkpngcichdcaaLibQ
namespace Go.V
open Go.Proofs
set_option maxRecDepth 100000
variable {P : Program}
theorem r_forPush (B : Value → ByteArray → Sem (ForInStep ByteArray)) (w : World) (hB : ∀ n s, (B (.int .u8 n) s).run P w = .ok (.yield (s.push (UInt8.ofNat n.toNat))) w) :
    ∀ (l : List Int) (s : ByteArray), (forIn (m := Sem) (l.map (Value.int .u8)) s B).run P w = .ok (l.foldl (fun s n => s.push (UInt8.ofNat n.toNat)) s) w
  | [], s => by simp
  | n :: l, s => by
    simp only [List.map_cons, List.forIn_cons, Sem.run_bind, hB, Result.andThen_ok, List.foldl_cons]
    exact r_forPush B w hB l _
theorem push_list : ∀ (l : List Int) (s : ByteArray), l.foldl (fun s n => s.push (UInt8.ofNat n.toNat)) s = ⟨s.data ++ (l.map fun n => UInt8.ofNat n.toNat).toArray⟩
  | [], s => by cases s; simp
  | n :: l, s => by
    rw [List.foldl_cons, push_list l]
    congr 1
    apply Array.toList_inj.1
    simp [ByteArray.push]
theorem r_bytesToString {w : World} {b o n cap : Nat} {c : Array Value} {e : TypeId} {fz : Nat × Nat} (h : w.heap[b]? = some (.cells c e fz)) (hn : o + n ≤ c.size) {l : List Int}
    (hl : (c.extract o (o + n)).toList = l.map (Value.int .u8)) : (Conv.bytesToString (.slice (some ⟨b, o, none⟩) n cap)).run P w = .ok (.string ⟨(l.map fun n => UInt8.ofNat n.toNat).toArray⟩) w := by
  simp only [Conv.bytesToString, Sem.run_bind, r_loadCells h hn, Result.andThen_ok]
  rw [← Array.forIn_toList, hl, r_forPush _ w (fun n s => by simp) l]
  simp only [Result.andThen_ok, Sem.run_pure, push_list]
  congr 3
  apply Array.toList_inj.1
  simp
theorem strO_und' {t : TypeId} (h : strO P t = true) : P.underlying t = some .string := strO_und h
theorem r_conv_str {s d : TypeId} {e : TypeId} (hs : slcO P s = some e) (he : intO P e = some .u8) (hd : strO P d = true) {w : World} {b o n cap : Nat} {c : Array Value} {el : TypeId} {fz : Nat × Nat}
    (h : w.heap[b]? = some (.cells c el fz)) (hn : o + n ≤ c.size) {l : List Int} (hl : (c.extract o (o + n)).toList = l.map (Value.int .u8)) :
    (convert s d (.slice (some ⟨b, o, none⟩) n cap)).run P w = .ok (.string ⟨(l.map fun n => UInt8.ofNat n.toNat).toArray⟩) w := by
  simp only [convert, Sem.run_bind, r_und (slcO_und hs), Result.andThen_ok, r_und (strO_und hd), r_und (intO_und he), r_bytesToString h hn hl]
namespace S
/-- the cells of a key under way -/
def pc (n : Int) (i : Nat) : Array Value := ((List.range 32).map fun j => if 31 < j + i then keyCell n j else .int .u8 0).toArray
theorem pc_size (n : Int) (i : Nat) : (pc n i).size = 32 := by simp [pc]
theorem pc_get (n : Int) (i : Nat) {j : Nat} (h : j < 32) : (pc n i)[j]? = some (if 31 < j + i then keyCell n j else .int .u8 0) := by simp [pc, h]
theorem pc_zero (n : Int) : pc n 0 = (List.replicate 32 (Value.int .u8 0)).toArray := by
  apply Array.ext_getElem?
  intro j
  by_cases h : j < 32
  · rw [pc_get n 0 h, if_neg (by omega), List.getElem?_toArray, List.getElem?_replicate, if_pos h]
  · rw [Array.getElem?_eq_none (by rw [pc_size]; omega), Array.getElem?_eq_none (by simp; omega)]
theorem pc_full (n : Int) : pc n 8 = keyA n := by
  apply Array.ext_getElem?
  intro j
  by_cases h : j < 32
  · rw [pc_get n 8 h, keyA_get n h]
    by_cases h2 : 24 ≤ j
    · rw [if_pos (by omega)]
    · rw [if_neg (by omega)]; simp [keyCell, keyB]; omega
  · rw [Array.getElem?_eq_none (by rw [pc_size]; omega), Array.getElem?_eq_none (by rw [keyA_size]; omega)]
theorem pc_step (n : Int) {i : Nat} (hi : i < 32) : (pc n i).setIfInBounds (31 - i) (keyCell n (31 - i)) = pc n (i + 1) := by
  apply Array.ext_getElem?
  intro j
  by_cases h : j < 32
  · rw [Array.getElem?_setIfInBounds, pc_get n i h, pc_get n (i + 1) h, pc_size]
    by_cases h2 : 31 - i = j
    · subst h2
      rw [if_pos rfl, if_pos (by omega), if_pos (by omega)]
    · rw [if_neg h2]
      by_cases h3 : 31 < j + i
      · rw [if_pos h3, if_pos (by omega)]
      · rw [if_neg h3, if_neg (by omega)]
  · rw [Array.getElem?_eq_none (by simp [pc_size]; omega), Array.getElem?_eq_none (by rw [pc_size]; omega)]
theorem byte_law (n : Int) {i : Nat} (hi : i < 8) : IntKind.u8.wrap ((IntKind.u64.wrap n).fdiv (2 ^ (min (IntKind.u64.wrap (IntKind.i64.wrap (8 * (i : Int)))).toNat IntKind.u64.bits))) = keyB n (31 - i) := by
  have hn : IntKind.u64.wrap n = n % 18446744073709551616 := by simp [IntKind.wrap, IntKind.bits, IntKind.signed]
  have hw : IntKind.u64.wrap (IntKind.i64.wrap (8 * (i : Int))) = 8 * i := by
    rw [wrap64_id (by omega) (by omega)]
    simp [IntKind.wrap, IntKind.bits, IntKind.signed]; omega
  have h8 : ∀ m, IntKind.u8.wrap m = m % 256 := fun m => by simp [IntKind.wrap, IntKind.bits, IntKind.signed]
  rw [hn, hw, h8]
  have hk : keyB n (31 - i) = (n % 18446744073709551616) / 2 ^ (8 * i) % 256 := by
    unfold keyB; rw [if_neg (by omega), show 31 - (31 - i) = i by omega]
  rw [hk, show min (8 * (i : Int)).toNat IntKind.u64.bits = 8 * i by simp [IntKind.bits]; omega, Int.fdiv_eq_ediv_of_nonneg]
  exact Int.le_of_lt (Int.pow_pos (by omega))
theorem lit52 (n : Int) : (#[.int .u8 0, .int .u8 0, .int .u8 0, .int .u8 0, .int .u8 0, .int .u8 0, .int .u8 0, .int .u8 0, .int .u8 0, .int .u8 0, .int .u8 0, .int .u8 0, .int .u8 0, .int .u8 0, .int .u8 0, .int .u8 0, .int .u8 0, .int .u8 0, .int .u8 0, .int .u8 0, .int .u8 0, .int .u8 0, .int .u8 0, .int .u8 0, .int .u8 0, .int .u8 0, .int .u8 0, .int .u8 0, .int .u8 0, .int .u8 0, .int .u8 0, .int .u8 0] : Array Value) = pc n 0 := by rw [pc_zero]; rfl
def pathI (w0 : World) (n : Int) (m : Nat) (vs : List Value) (w : World) : Prop :=
  ∃ i : Nat, vs = [.int .i64 n, ptr (w0.heap.size, 0), ptr (w0.heap.size + 1, 0), .int .i64 i] ∧ m = 8 - i ∧ i ≤ 8 ∧ w.heap[w0.heap.size]? = some (.cells (pc n 0) 52) ∧ w.heap[w0.heap.size + 1]? = some (.cells (pc n i) 52) ∧ Fr (fun _ => False) w0 w
theorem path (w : World) (n : Int) : Fn Try.prog 21 #[.int .i64 n] w fun x w' => x = kV n ∧ Fr (fun _ => False) w w' := by
  refine Try.go21 (by simp) ?_
  generalize hW : (w.alloc (.cells (pc n 0) 52)).alloc (.cells (pc n 0) 52) = W
  have hB : W.heap[w.heap.size + 1]? = some (.cells (pc n 0) 52) := by
    rw [← hW]; have := alloc_blk_new (w.alloc (.cells (pc n 0) 52)) (.cells (pc n 0) 52); rwa [alloc_heap_size] at this
  have hA : W.heap[w.heap.size]? = some (.cells (pc n 0) 52) := by
    rw [← hW, alloc_blk_old _ _ (by rw [alloc_heap_size]; omega)]; exact alloc_blk_new _ _
  have fr : Fr (fun _ => False) w W := by rw [← hW]; exact ((Fr.refl _ _).alloc _).alloc _
  simp -implicitDefEqProofs only [go_sem, Nat.reduceEqDiff, Try.f21, lit52 n, hW]
  refine loopD [0, 2, 3, 4] (pathI w n) 8 ⟨0, by simp [upd], by omega, by omega, hA, hB, fr⟩ ?_
  rintro m vs w1 g ⟨i, rfl, rfl, hi, hA, hB, fr⟩
  by_cases hlt : i < 8
  · have d1 : decide ((i : Int) < 8) = true := by simp; omega
    have c1 : IntKind.i64.wrap (31 - (i : Int)) = ((31 - i : Nat) : Int) := by rw [wrap64_id (by omega) (by omega)]; omega
    have c2 : IntKind.i64.wrap ((i : Int) + 1) = ((i + 1 : Nat) : Int) := by rw [wrap64_id (by omega) (by omega)]; rfl
    have c3 : ¬ (IntKind.u64.wrap (IntKind.i64.wrap (8 * (i : Int))) < 0) := by
      rw [wrap64_id (by omega) (by omega)]
      simp [IntKind.wrap, IntKind.bits, IntKind.signed]; omega
    have c4 : IntKind.u8.wrap ((IntKind.u64.wrap n).fdiv (2 ^ (min (IntKind.u64.wrap (IntKind.i64.wrap (8 * (i : Int)))).toNat 64))) = keyB n (31 - i) := byte_law n hlt
    have i1 : (0 : Int) ≤ ((31 - i : Nat) : Int) := by omega
    have i2 : ((31 - i : Nat) : Int) < ((32 : Nat) : Int) := by omega
    have q1 : cv w1 (w.heap.size + 1) (31 - i) = some (.int .u8 0) := by
      rw [cv_of_row hB, pc_get n i (by omega), if_neg (by omega)]
    have q2 := wr_cv (P := Try.prog) (t := 5) (v := keyCell n (31 - i)) Try.sz5 rfl q1
    rw [setc_row _ hB, pc_step n (by omega)] at q2
    simp only [keyCell] at q2
    simp -implicitDefEqProofs only [go_sem, Nat.reduceEqDiff, d1, c1, c2, c3, c4, binP, if_false, i1, i2, and_self, Int.toNat_natCast, Nat.mul_one, Nat.zero_add, q2]
    refine ⟨8 - (i + 1), by omega, i + 1, rfl, rfl, by omega, ?_, blk_put_same _ (heap_lt hB), fr.put (b := w.heap.size + 1) _ fun h => absurd h (by omega)⟩
    rw [blk_put_ne _ (by omega)]; exact hA
  · have d1 : decide ((i : Int) < 8) = false := by simp; omega
    have hi8 : i = 8 := by omega
    subst hi8
    rw [pc_full] at hB
    have a1 : rdO Try.prog 52 w1 (w.heap.size + 1) 0 = some _ := rd_all Try.agg52 (by rw [keyA_size]; exact Try.sz52) hB
    have a2 := wr_all (P := Try.prog) (t := 52) (w := w1) (vs := keyA n) (by rw [keyA_size]; exact Try.sz52) hA (by rw [pc_size, keyA_size]) (by
      rw [← Array.all_toList]; exact keyL_one ⟨0, n, 0, false⟩)
    have a3 : rdO Try.prog 52 (put w1 w.heap.size (.cells (keyA n) 52 (0, 0))) w.heap.size 0 = some _ := rd_all Try.agg52 (by rw [keyA_size]; exact Try.sz52) (blk_put_same _ (heap_lt hA))
    simp -implicitDefEqProofs only [go_sem, Nat.reduceEqDiff, d1, a1, a2, a3]
    exact fr.put (b := w.heap.size) _ fun h => absurd h (Nat.lt_irrefl _)
theorem word_walk (w : World) {n : Int} (hn : InR n) : Fn Try.prog 22 #[.int .i64 n] w fun x w' => x = wV n ∧ Fr (fun _ => False) w w' := by
  refine Try.go22 (by simp) ?_
  simp -implicitDefEqProofs only [go_sem, Nat.reduceEqDiff, Try.f22]
  refine contL_call Try.pl21 ((path w n).mono ?_)
  rintro _ w1 ⟨rfl, f1⟩
  have hA : (w1.alloc (.cells (pc n 0) 52)).heap[w1.heap.size]? = some (.cells (pc n 0) 52) := alloc_blk_new _ _
  have a2 := wr_all (P := Try.prog) (t := 52) (vs := keyA n) (by rw [keyA_size]; exact Try.sz52) hA (by rw [pc_size, keyA_size]) (by
      rw [← Array.all_toList]; exact keyL_one ⟨0, n, 0, false⟩)
  have s1 : sliceP Try.prog 52 (.pointer (some ⟨w1.heap.size, 0, none⟩)) (some (.int .i64 24)) none none = some (.slice (some ⟨w1.heap.size, 24, none⟩) 8 8) := by
    simp [sliceP, Try.arr52, optB, sbO, Try.sz5, Addr.add]
  simp -implicitDefEqProofs only [go_sem, Nat.reduceEqDiff, lit52 n, a2, s1]
  have hk : (put (w1.alloc (.cells (pc n 0) 52)) w1.heap.size (.cells (keyA n) 52)).heap[w1.heap.size]? = some (.cells (keyA n) 52 (0, 0)) := blk_put_same _ (heap_lt hA)
  have hl : ((keyA n).extract 24 (24 + 8)).toList = ((List.range 8).map fun j => keyB n (24 + j)).map (Value.int .u8) := by
    rw [Array.toList_extract]; rfl
  refine contL_sem ⟨_, _, r_conv_str Try.slc91 Try.int5 Try.str9 hk (by rw [keyA_size]; omega) hl, ?_⟩
  simp -implicitDefEqProofs only [go_sem, Nat.reduceEqDiff]
  refine ⟨?_, (f1.alloc _).put (b := w1.heap.size) _ fun h => absurd h (by have := f1.size; omega)⟩
  have hne : n ≠ noV := by
    unfold InR at hn; unfold noV; omega
  simp only [wV, word, hne, if_false, List.map_map]
  rfl
end S
end Go.V
