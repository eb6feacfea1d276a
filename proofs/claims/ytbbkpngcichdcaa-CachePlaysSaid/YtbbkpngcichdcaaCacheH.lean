/-
  Tally and New of a cache of ints.
-/
import Derived.Test.YtbbkpngcichdcaaCacheG
import Derived.Test.YtbbkpngcichdcaaLibL
namespace Go.V
open Go.Proofs
set_option maxRecDepth 100000
namespace I
section
variable {w : World} {cb mb : Nat} {cl kp xs : List Nd} {room hits misses gone : Nat}

def tallyV (hits misses gone clean kept : Nat) : Value := .agg #[.int .i64 hits, .int .i64 misses, .int .i64 gone, .int .i64 clean, .int .i64 kept]
theorem tally (h : Core w cb mb cl kp [] room hits misses gone) :
    Fn Try.prog 11 #[ptr (cb, 0)] w fun x w' => x = tallyV hits misses gone cl.length kp.length ∧ Core w' cb mb cl kp [] room hits misses gone ∧ Fr (fun _ => False) w w' := by
  refine Try.go11 (by simp) ?_
  have hal : Core (w.alloc (.cells #[.int .i64 0, .int .i64 0, .int .i64 0, .int .i64 0, .int .i64 0] 27)) cb mb cl kp [] room hits misses gone :=
    h.frame fun b hb => alloc_blk_old _ _ (h.foot_lt hb)
  generalize hw1 : w.alloc (.cells #[.int .i64 0, .int .i64 0, .int .i64 0, .int .i64 0, .int .i64 0] 27) = w1 at hal
  have hnew : w1.heap[w.heap.size]? = some (.cells #[.int .i64 0, .int .i64 0, .int .i64 0, .int .i64 0, .int .i64 0] 27) := by rw [← hw1]; exact alloc_blk_new _ _
  have hsz : w1.heap.size = w.heap.size + 1 := by rw [← hw1]; exact alloc_heap_size _ _
  have a1 : rdO Try.prog 3 w1.drew cb 14 = some _ := rd_cv Try.agg3 hal.hits
  have a2 : rdO Try.prog 3 w1.drew cb 15 = some _ := rd_cv Try.agg3 hal.misses
  have a3 : rdO Try.prog 3 w1.drew cb 16 = some _ := rd_cv Try.agg3 hal.gone
  have a4 : rdO Try.prog 3 w1.drew cb 7 = some _ := rd_cv Try.agg3 hal.clean.size
  have a5 : rdO Try.prog 3 w1.drew cb 13 = some _ := rd_cv Try.agg3 hal.kept.size
  have a6 : bldO Try.prog 27 [(0, .int .i64 hits), (1, .int .i64 misses), (2, .int .i64 gone), (3, .int .i64 (cl.map Nd.at).length), (4, .int .i64 (kp.map Nd.at).length)] =
      some (.agg #[.int .i64 hits, .int .i64 misses, .int .i64 gone, .int .i64 (cl.map Nd.at).length, .int .i64 (kp.map Nd.at).length]) := by
    unfold bldO; rw [Try.zero27, Try.places27]; rfl
  have a7 := wr_all (P := Try.prog) (t := 27) (w := w1.drew) (vs := #[.int .i64 hits, .int .i64 misses, .int .i64 gone, .int .i64 (cl.map Nd.at).length, .int .i64 (kp.map Nd.at).length]) Try.sz27 hnew rfl (by simp [one])
  have a8 := rd_all (P := Try.prog) (t := 27) (w := put w1.drew w.heap.size (.cells #[.int .i64 hits, .int .i64 misses, .int .i64 gone, .int .i64 (cl.map Nd.at).length, .int .i64 (kp.map Nd.at).length] 27 (0, 0))) (b := w.heap.size) (fr := (0, 0)) (e := 27) (vs := #[.int .i64 hits, .int .i64 misses, .int .i64 gone, .int .i64 (cl.map Nd.at).length, .int .i64 (kp.map Nd.at).length]) Try.agg27 Try.sz27
    (blk_put_same _ (by rw [drew_heap, hsz]; omega))
  simp -implicitDefEqProofs only [go_sem, Nat.reduceEqDiff, Nat.reduceAdd, Try.f11, hw1, a1, a2, a3, a4, a5, a6, a7, a8]
  refine ⟨by simp [tallyV], hal.frame fun b hb => ?_, ?_⟩
  · rw [blk_put_ne _ (fun e => by have := h.foot_lt hb; omega)]; rfl
  · rw [← hw1]; exact (((Fr.refl _ _).alloc _).drew).put _ fun hb => by omega

/-- a Tally in a new variable -/
def tallyW (w : World) (a b c d e : Nat) : World := put (w.alloc (.cells #[.int .i64 0, .int .i64 0, .int .i64 0, .int .i64 0, .int .i64 0] 27)) w.heap.size (.cells #[.int .i64 a, .int .i64 b, .int .i64 c, .int .i64 d, .int .i64 e] 27 (0, 0))
theorem tally_wr (w : World) (a b c d e : Nat) : wrO Try.prog 27 (w.alloc (.cells #[.int .i64 0, .int .i64 0, .int .i64 0, .int .i64 0, .int .i64 0] 27)) w.heap.size 0 (tallyV a b c d e) = some (tallyW w a b c d e) :=
  wr_all (P := Try.prog) (t := 27) (vs := #[.int .i64 a, .int .i64 b, .int .i64 c, .int .i64 d, .int .i64 e]) Try.sz27 (alloc_blk_new _ _) rfl (by simp [one])
theorem tally_blk (w : World) (a b c d e : Nat) : (tallyW w a b c d e).heap[w.heap.size]? = some (.cells #[.int .i64 a, .int .i64 b, .int .i64 c, .int .i64 d, .int .i64 e] 27 (0, 0)) :=
  blk_put_same _ (by rw [alloc_heap_size]; omega)
theorem tally_old (w : World) (a b c d e : Nat) {i : Nat} (h : i < w.heap.size) : (tallyW w a b c d e).heap[i]? = w.heap[i]? := by
  unfold tallyW; rw [blk_put_ne _ (by omega), alloc_blk_old _ _ h]
theorem tally_fr {F : Nat → Prop} {w0 w : World} (h : Fr F w0 w) (a b c d e : Nat) : Fr F w0 (tallyW w a b c d e) :=
  (h.alloc _).put _ fun hb => by have := h.size; omega
theorem tally_at {w' : World} {x a b c d e : Nat} (h : w'.heap[x]? = some (.cells #[.int .i64 a, .int .i64 b, .int .i64 c, .int .i64 d, .int .i64 e] 27 (0, 0))) :
    rdO Try.prog 3 w' x 0 = some (.int .i64 a) ∧ rdO Try.prog 3 w' x 1 = some (.int .i64 b) ∧ rdO Try.prog 3 w' x 2 = some (.int .i64 c) ∧ rdO Try.prog 3 w' x 3 = some (.int .i64 d) ∧ rdO Try.prog 3 w' x 4 = some (.int .i64 e) := by
  have hc := fun o => cv_of_row (o := o) h
  exact ⟨rd_cv Try.agg3 (hc 0), rd_cv Try.agg3 (hc 1), rd_cv Try.agg3 (hc 2), rd_cv Try.agg3 (hc 3), rd_cv Try.agg3 (hc 4)⟩

theorem new (w : World) (r : Int) :
    Fn Try.prog 9 #[.int .i64 r] w fun x w' => x = ptr (w.heap.size + 1, 0) ∧ Core w' (w.heap.size + 1) w.heap.size [] [] [] (min r.toNat 4096) 0 0 0 ∧ Fr (fun _ => False) w w' := by
  refine Try.go9 (by simp) ?_
  have b1 : maxL (.int .i64 r) [.int .i64 0] = some (.int .i64 (r.toNat : Int)) := by
    simp only [maxL, Option.some.injEq, Value.int.injEq, true_and]
    split <;> omega
  have b2 : minL (.int .i64 (r.toNat : Int)) [.int .i64 4096] = some (.int .i64 (min r.toNat 4096 : Nat)) := by
    simp only [minL, Option.some.injEq, Value.int.injEq, true_and]
    split <;> omega
  generalize min r.toNat 4096 = room at *
  let c : Array Value := #[.int .i64 room, .map (some w.heap.size), .int .i64 0, .int .i64 0, .bool false, .pointer none, .pointer none, .int .i64 0, .int .i64 0, .int .i64 0, .bool false, .pointer none, .pointer none, .int .i64 0, .int .i64 0, .int .i64 0, .int .i64 0]
  have b3 : bldO Try.prog 70 [(0, .int .i64 room), (1, .map (some w.heap.size))] = some (.agg c) := by
    unfold bldO; rw [Try.zero70, Try.places70]; rfl
  generalize hw2 : (w.alloc (.map #[] 0)).alloc (.cells c 70) = w2
  have hs2 : w2.heap.size = w.heap.size + 2 := by rw [← hw2, alloc_heap_size, alloc_heap_size]
  have hc : w2.heap[w.heap.size + 1]? = some (.cells c 70) := by
    rw [← hw2]; have := alloc_blk_new (w.alloc (.map #[] 0)) (.cells c 70); rw [alloc_heap_size] at this; exact this
  have hm : w2.heap[w.heap.size]? = some (.map #[] 0) := by
    rw [← hw2, alloc_blk_old _ _ (by rw [alloc_heap_size]; omega)]; exact alloc_blk_new _ _
  have hcv : ∀ o, cv w2 (w.heap.size + 1) o = c[o]? := fun o => cv_of_row hc
  have fr2 : Fr (fun _ => False) w w2 := by rw [← hw2]; exact ((Fr.refl _ _).alloc _).alloc _
  simp -implicitDefEqProofs only [go_sem, Nat.reduceEqDiff, Try.f9, b1, b2, b3, hw2]
  refine contL_call Try.pl32 ((start (r := (w.heap.size + 1, 2)) (u := .pointer none) (v := .pointer none) (by rw [hcv]; rfl) (by rw [hcv]; rfl) (by rw [hcv]; rfl)).mono ?_)
  rintro _ w3 ⟨rfl, r3, u3⟩
  have k3 : ∀ o, (o < 5 ∨ 8 ≤ o) → cv w3 (w.heap.size + 1) o = c[o]? := fun o ho => by
    rw [← hcv]; refine u3.cell _ _ fun h => ?_
    rcases h with ⟨_, h⟩ | ⟨x, hx, _⟩
    · simp only [] at h; omega
    · cases hx
  simp -implicitDefEqProofs only [go_sem, Nat.reduceEqDiff]
  refine contL_call Try.pl32 ((start (r := (w.heap.size + 1, 8)) (u := .pointer none) (v := .pointer none) (by rw [k3 _ (by simp)]; rfl) (by rw [k3 _ (by simp)]; rfl) (by rw [k3 _ (by simp)]; rfl)).mono ?_)
  rintro _ w4 ⟨rfl, r4, u4⟩
  have k4 : ∀ o, (o < 5 ∨ 14 ≤ o) → cv w4 (w.heap.size + 1) o = c[o]? := fun o ho => by
    rw [← k3 o (by omega)]; refine u4.cell _ _ fun h => ?_
    rcases h with ⟨_, h⟩ | ⟨x, hx, _⟩
    · simp only [] at h; omega
    · cases hx
  simp -implicitDefEqProofs only [go_sem, Nat.reduceEqDiff]
  refine ⟨trivial, ⟨?_, ?_, ?_, r4, ?_, ?_, ?_, ?_, ?_, ?_, ?_⟩, ?_⟩
  · rw [k4 _ (by simp)]; rfl
  · rw [k4 _ (by simp)]; rfl
  · refine r3.congr fun b o hl => u4.cell b o fun h => ?_
    rcases hl with ⟨_, hl⟩ | ⟨x, hx, _⟩
    · rcases h with ⟨_, h⟩ | ⟨x, hx, _⟩
      · simp only [] at h hl; omega
      · cases hx
    · cases hx
  · rw [k4 _ (by simp)]; rfl
  · rw [k4 _ (by simp)]; rfl
  · rw [k4 _ (by simp)]; rfl
  · intro n hn; cases hn
  · refine ⟨#[], 0, ?_, by simp [pairs]⟩
    have hne : ∀ (r o : Nat), ¬ LinkS 3 (w.heap.size + 1, r) [] w.heap.size o := fun r o h => by
      rcases h with ⟨h, _⟩ | ⟨x, hx, _⟩
      · simp at h
      · cases hx
    rw [u4.blk _ (hne 8), u3.blk _ (hne 2), hm]
  · simp
  · simp
  · have g : ∀ r b, b < w.heap.size → (∃ o, LinkS 3 (w.heap.size + 1, r) [] b o) → False := fun r b hb ⟨o, h⟩ => by
      rcases h with ⟨h, _⟩ | ⟨x, hx, _⟩
      · simp only [] at h; omega
      · cases hx
    exact (fr2.trans' u3.fr (g 2)).trans' u4.fr (g 8)
end
end I
end Go.V
