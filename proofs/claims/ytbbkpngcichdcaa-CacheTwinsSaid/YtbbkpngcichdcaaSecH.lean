/-
  The cache whose keys are arrays and whose values are texts: as CacheH.
-/
import Derived.Test.YtbbkpngcichdcaaSecG
namespace Go.V
open Go.Proofs
set_option maxRecDepth 100000
namespace S
section
variable {w : World} {cb mb : Nat} {cl kp xs : List Nd} {room hits misses gone : Nat}

theorem tally (h : Core w cb mb cl kp [] room hits misses gone) :
    Fn Try.prog 24 #[ptr (cb, 0)] w fun x w' => x = I.tallyV hits misses gone cl.length kp.length ∧ Core w' cb mb cl kp [] room hits misses gone ∧ Fr (fun _ => False) w w' := by
  refine Try.go24 (by simp) ?_
  have hal : Core (w.alloc (.cells #[.int .i64 0, .int .i64 0, .int .i64 0, .int .i64 0, .int .i64 0] 27)) cb mb cl kp [] room hits misses gone :=
    h.frame fun b hb => alloc_blk_old _ _ (h.foot_lt hb)
  generalize hw1 : w.alloc (.cells #[.int .i64 0, .int .i64 0, .int .i64 0, .int .i64 0, .int .i64 0] 27) = w1 at hal
  have hnew : w1.heap[w.heap.size]? = some (.cells #[.int .i64 0, .int .i64 0, .int .i64 0, .int .i64 0, .int .i64 0] 27) := by rw [← hw1]; exact alloc_blk_new _ _
  have hsz : w1.heap.size = w.heap.size + 1 := by rw [← hw1]; exact alloc_heap_size _ _
  have a1 : rdO Try.prog 3 w1.drew cb 76 = some _ := rd_cv Try.agg3 hal.hits
  have a2 : rdO Try.prog 3 w1.drew cb 77 = some _ := rd_cv Try.agg3 hal.misses
  have a3 : rdO Try.prog 3 w1.drew cb 78 = some _ := rd_cv Try.agg3 hal.gone
  have a4 : rdO Try.prog 3 w1.drew cb 38 = some _ := rd_cv Try.agg3 hal.clean.size
  have a5 : rdO Try.prog 3 w1.drew cb 75 = some _ := rd_cv Try.agg3 hal.kept.size
  have a6 : bldO Try.prog 27 [(0, .int .i64 hits), (1, .int .i64 misses), (2, .int .i64 gone), (3, .int .i64 (cl.map Nd.at).length), (4, .int .i64 (kp.map Nd.at).length)] =
      some (.agg #[.int .i64 hits, .int .i64 misses, .int .i64 gone, .int .i64 (cl.map Nd.at).length, .int .i64 (kp.map Nd.at).length]) := by
    unfold bldO; rw [Try.zero27, Try.places27]; rfl
  have a7 := wr_all (P := Try.prog) (t := 27) (w := w1.drew) (vs := #[.int .i64 hits, .int .i64 misses, .int .i64 gone, .int .i64 (cl.map Nd.at).length, .int .i64 (kp.map Nd.at).length]) Try.sz27 hnew rfl (by simp [one])
  have a8 := rd_all (P := Try.prog) (t := 27) (w := put w1.drew w.heap.size (.cells #[.int .i64 hits, .int .i64 misses, .int .i64 gone, .int .i64 (cl.map Nd.at).length, .int .i64 (kp.map Nd.at).length] 27 (0, 0))) (b := w.heap.size) (fr := (0, 0)) (e := 27) (vs := #[.int .i64 hits, .int .i64 misses, .int .i64 gone, .int .i64 (cl.map Nd.at).length, .int .i64 (kp.map Nd.at).length]) Try.agg27 Try.sz27
    (blk_put_same _ (by rw [drew_heap, hsz]; omega))
  simp -implicitDefEqProofs only [go_sem, Nat.reduceEqDiff, Nat.reduceAdd, Try.f24, hw1, a1, a2, a3, a4, a5, a6, a7, a8]
  refine ⟨by simp [I.tallyV], hal.frame fun b hb => ?_, ?_⟩
  · rw [blk_put_ne _ (fun e => by have := h.foot_lt hb; omega)]; rfl
  · rw [← hw1]; exact (((Fr.refl _ _).alloc _).drew).put _ fun hb => by omega

def z83 : List Value := List.replicate 32 (.int .u8 0) ++ [.string ⟨#[]⟩, .bool false, .pointer none, .pointer none]
def z87 (a b : Value) : Array Value := (a :: b :: (z83 ++ .int .i64 0 :: (z83 ++ [.int .i64 0, .int .i64 0, .int .i64 0, .int .i64 0]))).toArray
theorem zero87 : zeroO Try.prog 87 = some (.agg (z87 (.int .i64 0) (.map none))) := by kernel_rfl
def cacheA (room mb : Nat) : Array Value := z87 (.int .i64 room) (.map (some mb))
theorem bld87 (room mb : Nat) : bldO Try.prog 87 [(0, .int .i64 room), (1, .map (some mb))] = some (.agg (cacheA room mb)) := by
  unfold bldO; rw [zero87, Try.places87]; kernel_rfl
theorem cacheA_at (room mb : Nat) : (cacheA room mb)[0]? = some (.int .i64 room) ∧ (cacheA room mb)[1]? = some (.map (some mb)) ∧ (cacheA room mb)[36]? = some (.pointer none) ∧ (cacheA room mb)[37]? = some (.pointer none) ∧ (cacheA room mb)[38]? = some (.int .i64 0) ∧
    (cacheA room mb)[73]? = some (.pointer none) ∧ (cacheA room mb)[74]? = some (.pointer none) ∧ (cacheA room mb)[75]? = some (.int .i64 0) ∧ (cacheA room mb)[76]? = some (.int .i64 0) ∧ (cacheA room mb)[77]? = some (.int .i64 0) ∧ (cacheA room mb)[78]? = some (.int .i64 0) := by
  refine ⟨?_, ?_, ?_, ?_, ?_, ?_, ?_, ?_, ?_, ?_, ?_⟩ <;> kernel_rfl
theorem new (w : World) (r : Int) :
    Fn Try.prog 18 #[.int .i64 r] w fun x w' => x = ptr (w.heap.size + 1, 0) ∧ Core w' (w.heap.size + 1) w.heap.size [] [] [] (min r.toNat 4096) 0 0 0 ∧ Fr (fun _ => False) w w' := by
  refine Try.go18 (by simp) ?_
  have b1 : maxL (.int .i64 r) [.int .i64 0] = some (.int .i64 (r.toNat : Int)) := by
    simp only [maxL, Option.some.injEq, Value.int.injEq, true_and]
    split <;> omega
  have b2 : minL (.int .i64 (r.toNat : Int)) [.int .i64 4096] = some (.int .i64 (min r.toNat 4096 : Nat)) := by
    simp only [minL, Option.some.injEq, Value.int.injEq, true_and]
    split <;> omega
  generalize min r.toNat 4096 = room at *
  have b3 := bld87 room w.heap.size
  obtain ⟨d0, d1, d36, d37, d38, d73, d74, d75, d76, d77, d78⟩ := cacheA_at room w.heap.size
  generalize hcc : cacheA room w.heap.size = c at *
  generalize hw2 : (w.alloc (.map #[] 0)).alloc (.cells c 87) = w2
  have hs2 : w2.heap.size = w.heap.size + 2 := by rw [← hw2, alloc_heap_size, alloc_heap_size]
  have hc : w2.heap[w.heap.size + 1]? = some (.cells c 87) := by
    rw [← hw2]; have := alloc_blk_new (w.alloc (.map #[] 0)) (.cells c 87); rw [alloc_heap_size] at this; exact this
  have hm : w2.heap[w.heap.size]? = some (.map #[] 0) := by
    rw [← hw2, alloc_blk_old _ _ (by rw [alloc_heap_size]; omega)]; exact alloc_blk_new _ _
  have hcv : ∀ o, cv w2 (w.heap.size + 1) o = c[o]? := fun o => cv_of_row hc
  have fr2 : Fr (fun _ => False) w w2 := by rw [← hw2]; exact ((Fr.refl _ _).alloc _).alloc _
  simp -implicitDefEqProofs only [go_sem, Nat.reduceEqDiff, Try.f18, b1, b2, b3, hw2]
  refine contL_call Try.pl47 ((start (r := (w.heap.size + 1, 2)) (u := .pointer none) (v := .pointer none) ((hcv 37).trans d37) ((hcv 36).trans d36) ((hcv 38).trans d38)).mono ?_)
  rintro _ w3 ⟨rfl, r3, u3⟩
  have k3 : ∀ o, (o < 36 ∨ 39 ≤ o) → cv w3 (w.heap.size + 1) o = c[o]? := fun o ho => by
    rw [← hcv]; refine u3.cell _ _ fun h => ?_
    rcases h with ⟨_, h⟩ | ⟨x, hx, _⟩
    · simp only [] at h; omega
    · cases hx
  simp -implicitDefEqProofs only [go_sem, Nat.reduceEqDiff]
  refine contL_call Try.pl47 ((start (r := (w.heap.size + 1, 39)) (u := .pointer none) (v := .pointer none) ((k3 74 (by omega)).trans d74) ((k3 73 (by omega)).trans d73) ((k3 75 (by omega)).trans d75)).mono ?_)
  rintro _ w4 ⟨rfl, r4, u4⟩
  have k4 : ∀ o, (o < 36 ∨ 76 ≤ o) → cv w4 (w.heap.size + 1) o = c[o]? := fun o ho => by
    rw [← k3 o (by omega)]; refine u4.cell _ _ fun h => ?_
    rcases h with ⟨_, h⟩ | ⟨x, hx, _⟩
    · simp only [] at h; omega
    · cases hx
  simp -implicitDefEqProofs only [go_sem, Nat.reduceEqDiff]
  refine ⟨trivial, ⟨(k4 0 (by omega)).trans d0, (k4 1 (by omega)).trans d1, ?_, r4, (k4 76 (by omega)).trans d76, (k4 77 (by omega)).trans d77, (k4 78 (by omega)).trans d78, ?_, ?_, ?_, ?_, fun n hn => by cases hn⟩, ?_⟩
  · refine r3.congr fun b o hl => u4.cell b o fun h => ?_
    rcases hl with ⟨_, hl⟩ | ⟨x, hx, _⟩
    · rcases h with ⟨_, h⟩ | ⟨x, hx, _⟩
      · simp only [] at h hl; omega
      · cases hx
    · cases hx
  · intro n hn; cases hn
  · refine ⟨#[], 0, ?_, by simp [pairs]⟩
    have hne : ∀ (r o : Nat), ¬ LinkS 34 (w.heap.size + 1, r) [] w.heap.size o := fun r o h => by
      rcases h with ⟨h, _⟩ | ⟨x, hx, _⟩
      · simp at h
      · cases hx
    rw [u4.blk _ (hne 39), u3.blk _ (hne 2), hm]
  · simp
  · simp
  · have g : ∀ r b, b < w.heap.size → (∃ o, LinkS 34 (w.heap.size + 1, r) [] b o) → False := fun r b hb ⟨o, h⟩ => by
      rcases h with ⟨h, _⟩ | ⟨x, hx, _⟩
      · simp only [] at h; omega
      · cases hx
    exact (fr2.trans' u3.fr (g 2)).trans' u4.fr (g 39)
end
end S
end Go.V
