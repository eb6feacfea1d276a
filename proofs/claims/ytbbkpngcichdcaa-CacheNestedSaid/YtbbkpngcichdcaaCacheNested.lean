/-
  CacheNested of ledgerlaw7 answers true and leaves what it reads as it was, for every call the statement names. The frame's form is the print of proof-skeleton.mjs for another law.
-/
import Derived.Test.YtbbkpngcichdcaaRows
import Derived.Test.YtbbkpngcichdcaaScriptOpen
import Derived.Test.YtbbkpngcichdcaaRowk
import Derived.WalkKit
import Derived.ProofKit
import Derived.OpenShut
import Derived.Carry
import Derived.SizedLaws
namespace Go.Proofs.Ytbbkpngcichdcaa.cacheNested
open Go.ChangeShapes Go.WideShapes Go.ChangeAt Go.RowKit
set_option linter.unusedVariables false

theorem own : ownKnob Try.prog.godebug = none := by kernel_rfl
theorem laidOut : laidOutB Try.prog = true := by kernel_rfl

set_option maxRecDepth 100000 in
theorem lifted (os : Os) (started : os.Started) (H : Type) (enc : TypeId × Value → H) :
    ReturnsInHanded {} Try.checked os 8 .any (Rows.cacheNestedSpec.pre6 enc Try.prog Try.f8 Rows.cacheNestedRow.domain false) (Rows.cacheNestedSpec.post enc Try.prog Try.f8 false true false false) := by
  refine returnsInHanded_of_change_sized (C := Try.checked) own started (by kernel_rfl) Try.func8
    (ChangeSpec.witness6 (enc := enc) (C := Try.checked) false ⟨#[], #[.int .i64 0, .int .i64 0, .slice none 0 0], []⟩ 8 (by kernel_rfl) (by kernel_rfl) (by kernel_rfl) (by kernel_rfl)) ?_
  intro W base args ds gs before hval0 hW hcnd hwt _
  have hval : ∀ (j : Nat) t v, Try.f8.params[j]? = some t → args[j]? = some v → Value.okWide Try.prog W .any base t v := hval0
  have hW' := hW
  obtain ⟨p, q, hA0, hV, rfl, hfz, hnd⟩ := hW
  have hA : DataW.TrodAll enc Try.prog W 0 (fun _ => true) true Try.f8.params.toList args.toList ds p := hA0
  rw [Try.params8] at hA hval
  obtain ⟨v0, vs0, d0, ds0, p0, q0, hargs, rfl, rfl, h0, r0⟩ := trodAll_cons hA
  obtain ⟨v1, vs1, d1, ds1, p1, q1, rfl, rfl, rfl, h1, r1⟩ := trodAll_cons r0
  obtain ⟨v2, vs2, d2, ds2, p2, q2, rfl, rfl, rfl, h2, r2⟩ := trodAll_cons r1
  obtain ⟨rfl, rfl, rfl⟩ := trodAll_nil r2
  obtain rfl : args = #[v0, v1, v2] := by cases args; simp_all
  obtain ⟨rfl, rfl⟩ := trodVars_none hV
  obtain ⟨a0, rfl, rfl, rfl, w0⟩ := open_int Try.underlying3 (hval 0 3 v0 rfl rfl) h0
  obtain ⟨a1, rfl, rfl, rfl, w1⟩ := open_int Try.underlying3 (hval 1 3 v1 rfl rfl) h1
  have hw2 : ∀ x ∈ d2.weights Try.prog 34, x ≤ reachBytes := by
    have hp : Try.f8.params.toList = [3, 3, 34] := by rw [Try.params8]
    rw [show (Try.checked.prog) = Try.prog from rfl, hp] at hwt
    simp only [List.cons_append, DataW.weightsEach, List.all_append, Bool.and_eq_true, List.all_eq_true, decide_eq_true_eq] at hwt
    exact hwt.2.2.1
  obtain ⟨n, hs, hn⟩ := Go.V.I.open_ops h2 (okWide_slice Try.underlying34 (hval 2 34 v2 rfl rfl)) hw2
  clear hA0 hval0
  simp only [List.append_nil, List.nil_append] at hW'
  have hlt : ∀ x ∈ p2, x.block < W.heap.size := fun x hx => hW'.lt x hx
  refine Calls.mono (Go.V.I.nestLaw hs hn a0 a1) fun e W' he => ?_
  cases e <;> simp only [] at he
  obtain ⟨rfl, fr⟩ := he
  have hg := Go.V.grown_fr fr fun _ _ h => h
  have hsame : ∀ x ∈ p2, W.sameAt W' x := fun x hx => by
    have hb := fr.blk _ (hlt x hx) id
    cases x with
    | cell b o => simp only [World.sameAt, World.cell?]; rw [show W'.heap[b]? = W.heap[b]? from hb]
    | map b => exact hb
  have hargs : ∀ sp : Nat → Bool, (∀ x ∈ p2, sp x.block = true) → DataW.TrodAll enc Try.prog W' 0 sp true [3, 3, 34] [.int .i64 a0, .int .i64 a1, v2] [.lit (.int .i64 a0), .lit (.int .i64 a1), d2] p2 := fun sp hsp => by
    have e1 : DataW.Trod enc Try.prog W' 0 sp true 34 v2 d2 p2 := WideElems.Trod_stays laidOut (by kernel_rfl) (of_decide_eq_true (by kernel_rfl)) h2 hsame fun x hx => hsp x hx
    have e2 : DataW.TrodAll enc Try.prog W' 0 sp true [34] [v2] [d2] (p2 ++ []) := trodAll_cons_mk e1 trodAll_mk0
    have e3 : DataW.TrodAll enc Try.prog W' 0 sp true [3, 34] [.int .i64 a1, v2] [.lit (.int .i64 a1), d2] ([] ++ (p2 ++ [])) := trodAll_cons_mk (shut_int Try.underlying3 w1) e2
    have e4 : DataW.TrodAll enc Try.prog W' 0 sp true [3, 3, 34] [.int .i64 a0, .int .i64 a1, v2] [.lit (.int .i64 a0), .lit (.int .i64 a1), d2] ([] ++ ([] ++ (p2 ++ []))) := trodAll_cons_mk (shut_int Try.underlying3 w0) e3
    simpa using e4
  exact ⟨_, rfl, post_of_same (pa := p2) (pv := []) hW' (fun _ _ _ => (trodAll_cons_mk (shut_bool Try.underlying4 _) trodAll_mk0))
    (fun sp hsp => hargs sp hsp) (fun _ _ => rfl) (by simp)
    (hg.frame _) hg.2.1 (ok_one (by kernel_rfl) rfl (okWide_bool_mk Try.underlying4 _))⟩

theorem over : Rows.cacheNestedRow.holds Try.pinned (OpenSpec.ofChange Rows.cacheNestedSpec) :=
  OpenClaim.holds_of_wide 8 Try.f8 rfl rfl rfl rfl rfl rfl rfl ⟨rfl, rfl, rfl, rfl, rfl⟩ rfl rfl rfl rfl rfl (by kernel_rfl) Try.func8 (by kernel_rfl)
    (of_decide_eq_true (by kernel_rfl)) (by unfold Func.isWrapper; first | (rw [if_pos (by decide +kernel)]; kernel_rfl) | (rw [if_neg (by decide +kernel)]; exact ⟨rfl, rfl⟩))
    (fun os started H enc _ => lifted os started H enc)

/-- the statement -/
theorem proved : Rows.CacheNestedSaid :=
  over
#print axioms proved
end Go.Proofs.Ytbbkpngcichdcaa.cacheNested
