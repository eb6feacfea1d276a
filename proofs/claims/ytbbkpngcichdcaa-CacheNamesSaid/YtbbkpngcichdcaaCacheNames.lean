/-
  CacheNames of ledgerlaw7 answers true and leaves the world as it was, for every call the statement names. Began as the print of proof-skeleton.mjs.
-/
import Derived.Test.YtbbkpngcichdcaaRows
import Derived.Test.YtbbkpngcichdcaaCacheI
import Derived.WalkKit
import Derived.ProofKit
import Derived.OpenShut
import Derived.Test.YtbbkpngcichdcaaRowk
namespace Go.V
open Go.Proofs
set_option maxRecDepth 100000
namespace I
def namesI (w0 : World) (m : Nat) (vs : List Value) (w : World) : Prop :=
  ∃ i cl, vs = [ptr (w0.heap.size + 1, 0), .int .i64 (i : Nat)] ∧ m = 4100 - i ∧ i ≤ 4100 ∧ Fill (fun j => (j : Int)) w0 (w0.heap.size + 1) w0.heap.size 4096 w i cl
theorem names (w : World) : Fn Try.prog 4 #[] w fun v w' => v = .bool true ∧ Fr (fun _ => False) w w' := by
  refine Try.go4 (by simp) ?_
  simp -implicitDefEqProofs only [go_sem, Nat.reduceEqDiff, Try.f4]
  refine contL_call Try.pl9 ((Fill.start (fun j => (j : Int)) w 1099511627776).mono ?_)
  rintro _ w1 ⟨rfl, h1⟩
  simp -implicitDefEqProofs only [go_sem, Nat.reduceEqDiff]
  refine loopD [1, 2] (namesI w) 4100 ⟨0, [], by simp [upd], rfl, by omega, h1⟩ ?_
  rintro m vs w2 g ⟨i, cl, rfl, rfl, hi, h2⟩
  by_cases hlt : i < 4100
  · have hd : decide ((i : Int) < 4100) = true := by simp; omega
    simp -implicitDefEqProofs only [go_sem, Nat.reduceEqDiff, hd]
    refine contL_call Try.pl10 ((h2.put (by omega) (by omega)).mono ?_)
    rintro _ w3 ⟨rfl, cl', h3⟩
    have a1 : IntKind.i64.wrap ((i : Int) + 1) = ((i + 1 : Nat) : Int) := by rw [wrap64_id (by omega) (by omega)]; rfl
    simp -implicitDefEqProofs only [go_sem, Nat.reduceEqDiff, a1]
    exact ⟨4100 - (i + 1), by omega, i + 1, cl', rfl, rfl, by omega, h3⟩
  · have hd : decide ((i : Int) < 4100) = false := by simp; omega
    have he : i = 4100 := by omega
    subst he
    simp -implicitDefEqProofs only [go_sem, Nat.reduceEqDiff, hd]
    refine contL_call Try.pl11 ((tally h2.core).mono ?_)
    rintro _ w3 ⟨rfl, h3, f3⟩
    rw [h2.len]
    obtain ⟨_, _, b2, b3, _⟩ := tally_at (tally_blk w3 0 0 (4100 - 4096) (min 4100 4096) ([] : List Nd).length)
    have b0 := tally_wr w3 0 0 (4100 - 4096) (min 4100 4096) ([] : List Nd).length
    have d2 : (((4100 - 4096 : Nat) : Int) == 4) = true := rfl
    have d3 : (((min 4100 4096 : Nat) : Int) == 4096) = true := rfl
    have f4 := tally_fr (h2.fr.trans' f3 (fun _ _ h => h)) 0 0 (4100 - 4096) (min 4100 4096) ([] : List Nd).length
    simp -implicitDefEqProofs only [go_sem, Nat.reduceEqDiff, List.getElem?_toArray, List.getElem?_cons_zero, List.getElem?_cons_succ, beq_self_eq_true, b0, b2, b3, d2, d3]
    exact ⟨trivial, f4⟩
end I
end Go.V

namespace Go.Proofs.Ytbbkpngcichdcaa.cacheNames
open Go.ChangeShapes Go.WideShapes Go.ChangeAt Go.RowKit
set_option linter.unusedVariables false      -- a walk need not use every 'w<i>' (that an integer argument fits its kind)

theorem own : ownKnob Try.prog.godebug = none := by kernel_rfl

/-! ### STEP 1: THE WALK: the Go text returns true. 'Grown w w'': the world has at most new blocks (Derived/RowKit3.lean). Part the cases AHEAD of 'go_enter' where a test parts the walk; take each callee by a contract of your own. -/
theorem walk  (w : World) :
    Calls Try.prog 4 #[] w fun e w' => e = .returned (.bool true) ∧ Grown w w' := by
  exact Go.V.calls_true (Go.V.I.names w)

/-! ### THE ROW's STEP: WRITTEN OUT: LEAVE IT -/
set_option maxRecDepth 100000 in
theorem lifted (os : Os) (started : os.Started) (H : Type) (enc : TypeId × Value → H) :
    ReturnsInHanded {} Try.checked os 4 .any (Rows.cacheNamesSpec.pre6 enc Try.prog Try.f4 Rows.cacheNamesRow.domain false) (Rows.cacheNamesSpec.post enc Try.prog Try.f4 false true false false) := by
  refine returnsInHanded_of_change (C := Try.checked) own started (by kernel_rfl) Try.func4
    (ChangeSpec.witness6 (enc := enc) (C := Try.checked) false ⟨#[], #[], []⟩ 8 (by kernel_rfl) (by kernel_rfl) (by kernel_rfl) (by kernel_rfl)) ?_
  intro W base args ds gs before hval0 hW hcnd _
  have hval : ∀ (j : Nat) t v, Try.f4.params[j]? = some t → args[j]? = some v → Value.okWide Try.prog W .any base t v := hval0
  have hW' := hW
  obtain ⟨p, q, hA0, hV, rfl, hfz, hnd⟩ := hW
  have hA : DataW.TrodAll enc Try.prog W 0 (fun _ => true) true Try.f4.params.toList args.toList ds p := hA0
  rw [Try.params4] at hA hval
  obtain ⟨rfl, rfl, rfl⟩ := trodAll_none hA
  obtain ⟨rfl, rfl⟩ := trodVars_none hV
  clear hA0 hval0
  simp only [List.append_nil] at hW'
  refine (walk  W).mono fun e W' ⟨he, hg⟩ => ?_
  subst he
  exact ⟨_, rfl, post_of_same (pa := []) (pv := []) hW' (fun _ _ _ => (trodAll_cons_mk (shut_bool Try.underlying4 _) trodAll_mk0)) (fun sp _ => rfl) (fun _ _ => rfl) rfl
    (hg.frame _) hg.2.1 (ok_one (by kernel_rfl) rfl (okWide_bool_mk Try.underlying4 _))⟩

theorem over : Rows.cacheNamesRow.holds Try.pinned (OpenSpec.ofChange Rows.cacheNamesSpec) :=
  OpenClaim.holds_of_wide 4 Try.f4 rfl rfl rfl rfl rfl rfl rfl ⟨rfl, rfl, rfl, rfl, rfl⟩ rfl rfl rfl rfl rfl (by kernel_rfl) Try.func4 (by kernel_rfl)
    (of_decide_eq_true (by kernel_rfl)) (by unfold Func.isWrapper; first | (rw [if_pos (by decide +kernel)]; kernel_rfl) | (rw [if_neg (by decide +kernel)]; exact ⟨rfl, rfl⟩))
    (fun os started H enc _ => lifted os started H enc)

/-- ████ THE STATEMENT ████ -/
theorem proved : Rows.CacheNamesSaid :=
  over
#print axioms proved
end Go.Proofs.Ytbbkpngcichdcaa.cacheNames
