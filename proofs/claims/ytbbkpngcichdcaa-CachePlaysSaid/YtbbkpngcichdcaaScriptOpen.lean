/-
  A script that is handed in, opened.
-/
import Derived.Test.YtbbkpngcichdcaaNestLaw
import Derived.Deep.Slices
import Derived.DataReads
import Derived.SizedLaws
namespace Go.V
open Go.Proofs Go.ChangeShapes Go.WideShapes Go.Deep
set_option maxRecDepth 100000
theorem Try.cells47 : Try.prog.cellsOf 47 = 4 := by kernel_rfl
theorem Try.cells3 : Try.prog.cellsOf 3 = 1 := by kernel_rfl
theorem Try.bytes47 : Try.prog.bytesOf 47 = 32 := by kernel_rfl
namespace I
theorem cell_row {w : World} {a : Addr} {v : Value} (h : w.cell? a = some v) : a.spot = none ∧ ∃ c e fr, w.heap[a.block]? = some (.cells c e fr) ∧ c[a.off]? = some v := by
  unfold World.cell? at h
  split at h
  · rename_i c e fr hb
    split at h
    · cases h
    · rename_i hs
      exact ⟨by simpa using hs, c, e, fr, hb, h⟩
  · cases h
theorem wf64 {n : Int} (h : (Lit.int .i64 n).wf = true) : R64 n := by
  simp [Lit.wf, IntKind.wrap, IntKind.bits, IntKind.signed, IntKind.min, IntKind.max] at h
  unfold R64; omega
theorem op_at {H : Type} {enc : TypeId × Value → H} {W : World} {fuel : Nat} {cs : List Value} {x : DataW H × List MemPlace} (h : DataW.trod enc Try.prog W 0 (fun _ => true) true fuel 47 cs = some x) :
    ∃ kd c k v : Int, cs = [.int .i64 kd, .int .i64 c, .int .i64 k, .int .i64 v] ∧ R64 kd ∧ R64 c ∧ R64 k ∧ R64 v := by
  obtain ⟨xs, n, _, _, hl, hlen, hf⟩ := DataW.trod_struct Try.underlying47 h
  rw [Try.cells47] at hl
  match cs, hl with
  | [c0, c1, c2, c3], _ =>
    match xs, hlen with
    | [y0, y1, y2, y3], _ =>
      have f0 := hf 0 _ rfl
      have f1 := hf 1 _ rfl
      have f2 := hf 2 _ rfl
      have f3 := hf 3 _ rfl
      change DataW.trod enc Try.prog W 0 (fun _ => true) true n 3 (List.take (Try.prog.cellsOf 3) (List.drop 0 [c0, c1, c2, c3])) = _ at f0
      rw [Try.cells3] at f0
      change DataW.trod enc Try.prog W 0 (fun _ => true) true n 3 (List.take (Try.prog.cellsOf 3) (List.drop 1 [c0, c1, c2, c3])) = _ at f1
      rw [Try.cells3] at f1
      change DataW.trod enc Try.prog W 0 (fun _ => true) true n 3 (List.take (Try.prog.cellsOf 3) (List.drop 2 [c0, c1, c2, c3])) = _ at f2
      rw [Try.cells3] at f2
      change DataW.trod enc Try.prog W 0 (fun _ => true) true n 3 (List.take (Try.prog.cellsOf 3) (List.drop 3 [c0, c1, c2, c3])) = _ at f3
      rw [Try.cells3] at f3
      obtain ⟨n0, e0, _, g0⟩ := DataW.trod_int Try.underlying3 f0
      obtain ⟨n1, e1, _, g1⟩ := DataW.trod_int Try.underlying3 f1
      obtain ⟨n2, e2, _, g2⟩ := DataW.trod_int Try.underlying3 f2
      obtain ⟨n3, e3, _, g3⟩ := DataW.trod_int Try.underlying3 f3
      simp only [List.drop_zero, List.drop_succ_cons, List.take_succ_cons, List.take_zero, List.cons.injEq, and_true] at e0 e1 e2 e3
      subst e0; subst e1; subst e2; subst e3
      exact ⟨n0, n1, n2, n3, rfl, wf64 g0, wf64 g1, wf64 g2, wf64 g3⟩
theorem open_ops {H : Type} {enc : TypeId × Value → H} {W : World} {v : Value} {d : DataW H} {p : List MemPlace} (ht : DataW.Trod enc Try.prog W 0 (fun _ => true) true 34 v d p)
    (hv : ∃ a len cap, v = .slice a len cap) (hw : ∀ x ∈ d.weights Try.prog 34, x ≤ reachBytes) : ∃ n, Script W v n ∧ n ≤ 4398046511104 := by
  obtain ⟨fuel, hf⟩ := ht
  obtain ⟨a, len, cap, rfl⟩ := hv
  have hf' : DataW.trod enc Try.prog W 0 (fun _ => true) true fuel 34 [.slice a len cap] = some (d, p) := hf
  rcases open_slice Try.underlying34 hf' with ⟨hc, hx⟩ | ⟨a', len', cap', m, k, D, Pl, hc, _, hl, hm, hmm, hx, hall⟩
  · simp only [List.cons.injEq, and_true] at hc
    rw [hc]
    exact ⟨0, ⟨none, 0, rfl, fun i hi => by omega⟩, by omega⟩
  · simp only [List.cons.injEq, and_true] at hc
    rw [hc]
    simp only [if_true] at hmm
    subst hmm
    simp only [Prod.mk.injEq] at hx
    obtain ⟨hd, _⟩ := hx
    have hwt : (len' + (m - len')) * 32 ≤ reachBytes := by
      apply hw
      rw [hd]
      unfold DataW.weights
      rw [Try.underlying34]
      simp [Try.bytes47]
    have hr : reachBytes = 140737488351232 := rfl
    rw [hr] at hwt
    refine ⟨len', ⟨some a', m, rfl, fun i hi => ?_⟩, by omega⟩
    obtain ⟨cs', h1, h2⟩ := hall i (by omega)
    rw [Try.cells47] at h1
    obtain ⟨kd, c, k, v, rfl, R0, R1, R2, R3⟩ := op_at h2
    obtain ⟨_, _, hcell⟩ := World.cells?_some h1
    have g : ∀ j x, [Value.int .i64 kd, .int .i64 c, .int .i64 k, .int .i64 v][j]? = some x → j < 4 → W.cell? ((a'.add (i * 4)).add j) = some x := fun j x hj h4 => (hcell j h4).trans hj
    obtain ⟨s0, r, e, fr, q1, q2⟩ := cell_row (g 0 _ rfl (by omega))
    obtain ⟨b, o, sp⟩ := a'
    have hsp : sp = none := by
      obtain ⟨cs0, h10, h20⟩ := hall 0 (by omega)
      rw [Try.cells47] at h10
      obtain ⟨kd0, c0, k0, v0, rfl, -⟩ := op_at h20
      obtain ⟨_, _, hcell0⟩ := World.cells?_some h10
      obtain ⟨s1, _⟩ := cell_row ((hcell0 0 (by omega)).trans (show _ = some (Value.int .i64 kd0) from rfl))
      simpa [Addr.add] using s1
    subst hsp
    have addr : ∀ j, ((⟨b, o, none⟩ : Addr).add (i * 4)).add j = ⟨b, o + i * 4 + j, none⟩ := fun j => by rw [add_add, add_off, Nat.add_assoc]
    rw [addr] at q1 q2
    simp only [] at q1 q2
    have at' : ∀ j x, [Value.int .i64 kd, .int .i64 c, .int .i64 k, .int .i64 v][j]? = some x → j < 4 → r[o + i * 4 + j]? = some x := fun j x hj h4 => by
      obtain ⟨_, r', e', fr', p1, p2⟩ := cell_row (g j x hj h4)
      rw [addr] at p1 p2
      simp only [] at p1 p2
      rw [q1] at p1
      simp only [Option.some.injEq, Obj.cells.injEq] at p1
      rw [p1.1]; exact p2
    have z0 := at' 0 _ rfl (by omega)
    have z1 := at' 1 _ rfl (by omega)
    have z2 := at' 2 _ rfl (by omega)
    have z3 := at' 3 _ rfl (by omega)
    have hsz : o + i * 4 + 4 ≤ r.size := by have := (Array.getElem?_eq_some_iff.1 z3).1; omega
    refine ⟨b, o, kd, c, k, v, rfl, heap_lt q1, ?_, R0, R1, R2, R3⟩
    simp only [rdO, ldO, q1, Try.agg47, Try.sz47]
    rw [if_pos hsz]
    congr 1
    simp only [opV]
    congr 1
    apply Array.ext_getElem?
    intro j
    rw [Array.getElem?_extract]
    match j with
    | 0 => rw [if_pos (by omega)]; exact z0
    | 1 => rw [if_pos (by omega)]; exact z1
    | 2 => rw [if_pos (by omega)]; exact z2
    | 3 => rw [if_pos (by omega)]; exact z3
    | j + 4 => rw [if_neg (by omega)]; simp
end I
end Go.V
