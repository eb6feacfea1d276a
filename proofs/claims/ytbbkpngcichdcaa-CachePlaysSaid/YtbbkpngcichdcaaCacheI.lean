/-
  A cache of ints that is filled with distinct keys by Put.
-/
import Derived.Test.YtbbkpngcichdcaaCacheH
namespace Go.V
open Go.Proofs
set_option maxRecDepth 100000
namespace I
def Nd.kvh (n : Nd) : Int × Int × Bool := (n.k, n.v, n.h)
/-- what a fresh cache holds behind i Puts of (j, f j), j = 0 .. i - 1; the world has new blocks alone -/
structure Fill (f : Nat → Int) (w0 : World) (cb mb room : Nat) (w : World) (i : Nat) (cl : List Nd) : Prop where
  core : Core w cb mb cl [] [] room 0 0 (i - room)
  has : cl.map Nd.kvh = ((List.range i).drop (i - room)).map fun j : Nat => ((j : Int), f j, false)
  fr : Fr (fun _ => False) w0 w
  new : ∀ b, foot cb mb cl b → w0.heap.size ≤ b
theorem Fill.len {f : Nat → Int} {w0 w : World} {cb mb room i : Nat} {cl : List Nd} (h : Fill f w0 cb mb room w i cl) : cl.length = min i room := by
  have := congrArg List.length h.has
  simp at this; omega
theorem Fill.mem {f : Nat → Int} {w0 w : World} {cb mb room i : Nat} {cl : List Nd} (h : Fill f w0 cb mb room w i cl) : ∀ n ∈ cl, ∃ j : Nat, n.k = j ∧ j < i ∧ n.v = f j ∧ n.h = false := by
  intro n hn
  have : n.kvh ∈ cl.map Nd.kvh := List.mem_map.2 ⟨n, hn, rfl⟩
  rw [h.has] at this
  obtain ⟨j, hj, he⟩ := List.mem_map.1 this
  simp only [Nd.kvh, Prod.mk.injEq] at he
  exact ⟨j, he.1.symm, by have := List.mem_of_mem_drop hj; simpa using this, he.2.1.symm, he.2.2.symm⟩
theorem Fill.start (f : Nat → Int) (w : World) (r : Int) :
    Fn Try.prog 9 #[.int .i64 r] w fun x w' => x = ptr (w.heap.size + 1, 0) ∧ Fill f w (w.heap.size + 1) w.heap.size (min r.toNat 4096) w' 0 [] := by
  refine (I.new w r).mono ?_
  rintro x w' ⟨rfl, h, fr⟩
  refine ⟨rfl, by simpa using h, by simp, fr, fun b hb => ?_⟩
  rcases hb with rfl | rfl | ⟨n, hn, _⟩
  · omega
  · omega
  · cases hn
theorem Fill.put {f : Nat → Int} {w0 w : World} {cb mb room i : Nat} {cl : List Nd} (h : Fill f w0 cb mb room w i cl) (hi : i < 1099511627776) (hr : room < 4611686018427387904) :
    Fn Try.prog 10 #[ptr (cb, 0), .int .i64 i, .int .i64 (f i)] w fun x w' => x = .tuple #[] ∧ ∃ cl', Fill f w0 cb mb room w' (i + 1) cl' := by
  have hl := h.len
  refine (put_new h.core (k := i) (fun n hn => ?_) (f i) (by omega) hr).mono ?_
  · obtain ⟨j, h1, h2, _⟩ := h.mem n (by simpa using hn)
    omega
  rintro x w' ⟨rfl, hc, fr⟩
  have hg : i - room + (cl.length + 1 - room) = i + 1 - room := by omega
  rw [hg] at hc
  refine ⟨rfl, _, hc, ?_, h.fr.trans' fr fun b hb hf => ?_, fun b hb => ?_⟩
  · rw [List.map_drop, List.map_append, h.has, List.range_succ, show [(⟨w.heap.size, i, f i, false⟩ : Nd)].map Nd.kvh = [i].map (fun j : Nat => ((j : Int), f j, false)) from rfl, ← List.map_append, ← List.map_drop,
      ← List.drop_append_of_le_length (by simp), List.drop_drop, hg]
  · simp only [List.append_nil] at hf
    have := h.new b hf; omega
  · rcases hb with hb | hb | ⟨n, hn, hb⟩
    · exact h.new b (.inl hb)
    · exact h.new b (.inr (.inl hb))
    · have hn' := List.mem_of_mem_drop hn
      rcases List.mem_append.1 hn' with hn' | hn'
      · exact h.new b (.inr (.inr ⟨n, hn', hb⟩))
      · simp only [List.mem_singleton] at hn'
        subst hn'; subst hb
        exact h.fr.size
end I
end Go.V
