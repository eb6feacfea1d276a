/-
  Aggregates stored and read whole.
-/
import Derived.Test.YtbnabmpchhmckaaGreatDoorLibK
namespace Go.V
variable {P : Program}
theorem storeL_get : ∀ (vs : List Value) (o : Nat) (c : Array Value) (i : Nat), (storeL vs o c)[i]? = if o ≤ i ∧ i < o + vs.length ∧ i < c.size then vs[i - o]? else c[i]?
  | [], o, c, i => by
    rw [storeL, if_neg]; simp only [List.length_nil]; omega
  | v :: vs, o, c, i => by
    rw [storeL, storeL_get vs (o + 1), Array.getElem?_setIfInBounds, Array.size_setIfInBounds]
    simp only [List.length_cons]
    by_cases h : i = o
    · subst h
      rw [if_neg (by omega), if_pos rfl]
      by_cases hs : i < c.size
      · rw [if_pos hs, if_pos (by omega), Nat.sub_self]; rfl
      · rw [if_neg hs, if_neg (by omega)]; simp; omega
    · by_cases h2 : o + 1 ≤ i ∧ i < o + 1 + vs.length ∧ i < c.size
      · rw [if_pos h2, if_pos (by omega), show i - o = (i - (o + 1)) + 1 by omega]; rfl
      · rw [if_neg h2, if_neg (by omega), if_neg (by omega)]
theorem storeL_list (vs : List Value) (o : Nat) (c : Array Value) (h : o + vs.length ≤ c.size) : (storeL vs o c).toList = c.toList.take o ++ vs ++ c.toList.drop (o + vs.length) := by
  apply List.ext_getElem?
  intro i
  rw [Array.getElem?_toList, storeL_get, List.getElem?_append, List.getElem?_append, List.getElem?_take, List.getElem?_drop]
  simp only [List.length_append, List.length_take, Array.length_toList]
  rw [show min o c.size = o by omega]
  by_cases h1 : i < o
  · rw [if_neg (by omega), if_pos (by omega), if_pos h1, if_pos h1]; simp
  · by_cases h2 : i < o + vs.length
    · rw [if_pos (by omega), if_pos h2, if_neg h1]
    · rw [if_neg (by omega), if_neg h2, show o + vs.length + (i - (o + vs.length)) = i by omega]; simp
/-- an aggregate into a row of its size; out of it -/
theorem wr_all {t : TypeId} {w : World} {b : Nat} {c vs : Array Value} {e : TypeId} (hs : szO P t = some vs.size) (h : w.heap[b]? = some (.cells c e (0, 0))) (hc : c.size = vs.size) (ho : vs.all one = true) :
    wrO P t w b 0 (.agg vs) = some (put w b (.cells vs e (0, 0))) := by
  have e1 : storeL vs.toList 0 c = vs := by
    apply Array.toList_inj.1
    rw [storeL_list _ _ _ (by simp [hc])]
    simp [hc]
  simp only [wrO, stO, h, Value.cells, hs, ho]
  rw [if_pos ⟨trivial, by omega, trivial⟩, e1]; rfl
theorem rd_all {t : TypeId} {w : World} {b : Nat} {vs : Array Value} {e : TypeId} {fr : Nat × Nat} (ha : aggO P t = some true) (hs : szO P t = some vs.size) (h : w.heap[b]? = some (.cells vs e fr)) :
    rdO P t w b 0 = some (.agg vs) := by
  simp [rdO, ldO, h, ha, hs]
end Go.V
