/-
  AuditNames of ledgerlaw17 answers true and leaves the world as it was, at every call (it has no argument); the package variables that the row lists are not looked at.
-/
import Derived.Test.YtbnabmpchhmckaaGreatDoorAudNil
import Derived.Test.YtbnabmpchhmckaaGreatDoorCards
import Derived.Test.YtbnabmpchhmckaaGreatDoorTie
import Derived.WalkKit
import Derived.ProofKit
import Derived.OpenShut
import Derived.Deep.DeepHandedRow
import Derived.Lib.LaidTab
namespace Go.V
open Go.Proofs
set_option maxRecDepth 100000
abbrev rep0 : Array Value := #[.int .i64 0, .int .i64 0, .int .i64 0, .int .i64 0, .int .i64 0, .int .i64 0, .int .i64 0, .int .i64 0, .int .i64 0, .slice none 0 0]
theorem rep0_eq : (Array.replicate 9 (Value.int .i64 0) ++ #[.slice none 0 0]) = rep0 := rfl
theorem bldRep0 : bldO Tryz.prog 24 [] = some (.agg rep0) := by
  unfold bldO; rw [Tryz.zero24, Tryz.places24]; rfl
theorem check0 (w : World) {b o cap : Nat} (hp : Null w b o 768) (hcap : 768 ≤ cap) :
    Fn Tryz.prog 4 #[.slice (some ⟨b, o, none⟩) 768 cap] w fun v w' => v = .tuple #[.agg rep0, .int .i64 55] ∧ No w w' := by
  refine Tryz.go4 (by simp) ?_
  simp -implicitDefEqProofs only [go_sem, Nat.reduceEqDiff, Tryz.f4, Value.cells, rep0_eq]
  have f0 : No w (w.alloc (.cells rep0 24)) := (Fr.refl _ w).alloc _
  refine contL_call Tryz.pl8 ((look0 (w.alloc (.cells rep0 24)) (hp.fr f0) hcap).mono ?_); rintro _ w1 ⟨rfl, fr⟩
  have hb : w1.heap[w.heap.size]? = some (.cells rep0 24 (0, 0)) := by
    rw [fr.blk _ (by rw [alloc_heap_size]; omega) id]; exact alloc_blk_new _ _
  obtain ⟨q0, q1⟩ := putRd (P := Tryz.prog) (t := 24) (vs := rep0) Tryz.agg24 Tryz.sz24 hb rfl (by rw [← Array.all_toList]; rfl)
  have n1 : ((55 : Int) != 0) = true := rfl
  simp -implicitDefEqProofs only [go_sem, Nat.reduceEqDiff, bldRep0, q0, q1, n1, List.map_nil, List.getElem?_toArray, List.getElem?_cons_zero, List.getElem?_cons_succ]
  exact (f0.trans fr).put (b := w.heap.size) _ fun h => absurd h (Nat.lt_irrefl _)
theorem mk768 (w : World) : (Instr.makeSlice 28 (.int .i64 768) (.int .i64 768)).run Tryz.prog w = .ok (.slice (some ⟨w.heap.size, 0, none⟩) 768 768) (w.alloc (.cells (Array.replicate 768 (.int .u8 0)) 5)) := by
  have := run_mk (P := Tryz.prog) (t := 28) (by' := 1) Tryz.slc28 Tryz.sz5 Tryz.by5 Tryz.zero5 (l := 768) (c := 768) (Nat.le_refl _) (by decide) (by decide) .i64 .i64 w
  simp only [Value.cells, madeCells_one, Nat.mul_one] at this
  exact this
theorem mk_null (w : World) : Null (w.alloc (.cells (Array.replicate 768 (.int .u8 0)) 5)) w.heap.size 0 768 := fun i hi => by
  rw [rc_of_row (alloc_blk_new _ _), Nat.zero_add, Array.getElem?_replicate, if_pos hi]; rfl
theorem names (w : World) : Fn Tryz.prog 3 #[] w fun v w' => v = .bool true ∧ No w w' := by
  refine Tryz.go3 (by simp) ?_
  have n1 : ((55 : Int) == 55) = true := rfl
  simp -implicitDefEqProofs only [go_sem, Nat.reduceEqDiff, Tryz.f3]
  refine contL_sem ⟨_, _, mk768 w, ?_⟩
  simp -implicitDefEqProofs only [go_sem, Nat.reduceEqDiff]
  have fa : No w (w.alloc (.cells (Array.replicate 768 (.int .u8 0)) 5)) := (Fr.refl _ w).alloc _
  refine contL_call Tryz.pl4 ((check0 _ (mk_null w) (by omega)).mono ?_); rintro _ w1 ⟨rfl, f1⟩
  have g1 := fa.trans f1
  have q1 := (putRd (P := Tryz.prog) (t := 24) (w := w1.alloc (.cells rep0 24)) (vs := rep0) Tryz.agg24 Tryz.sz24 (alloc_blk_new _ _) rfl (by rw [← Array.all_toList]; rfl)).1
  have g2 : No w (put (w1.alloc (.cells rep0 24)) w1.heap.size (.cells rep0 24 (0, 0))) := (g1.alloc _).put (b := w1.heap.size) _ fun h => by have := g1.size; omega
  simp -implicitDefEqProofs only [go_sem, Nat.reduceEqDiff, Value.cells, rep0_eq, q1, List.getElem?_toArray, List.getElem?_cons_zero, List.getElem?_cons_succ]
  generalize put (w1.alloc (.cells rep0 24)) w1.heap.size (.cells rep0 24 (0, 0)) = w2 at *
  refine contL_sem ⟨_, _, mk768 w2, ?_⟩
  simp -implicitDefEqProofs only [go_sem, Nat.reduceEqDiff]
  refine contL_call Tryz.pl5 ((pages0 _ (mk_null w2) (by omega) 0).mono ?_); rintro _ w3 ⟨rfl, f3⟩
  have g3 := (g2.alloc _).trans f3
  simp -implicitDefEqProofs only [go_sem, Nat.reduceEqDiff, List.getElem?_toArray, List.getElem?_cons_zero, List.getElem?_cons_succ]
  refine contL_sem ⟨_, _, mk768 w3, ?_⟩
  simp -implicitDefEqProofs only [go_sem, Nat.reduceEqDiff]
  refine contL_call Tryz.pl6 ((owner0 _ (mk_null w3) (by omega) 2).mono ?_); rintro _ w4 ⟨rfl, f4⟩
  have g4 := (g3.alloc _).trans f4
  simp -implicitDefEqProofs only [go_sem, Nat.reduceEqDiff, List.getElem?_toArray, List.getElem?_cons_zero, List.getElem?_cons_succ]
  refine contL_sem ⟨_, _, mk768 w4, ?_⟩
  simp -implicitDefEqProofs only [go_sem, Nat.reduceEqDiff]
  refine contL_call Tryz.pl7 ((garbage0 _ (mk_null w4) (by omega) 0).mono ?_); rintro _ w5 ⟨rfl, f5⟩
  have g5 := (g4.alloc _).trans f5
  simp -implicitDefEqProofs only [go_sem, Nat.reduceEqDiff, n1, beq_self_eq_true, List.getElem?_toArray, List.getElem?_cons_zero, List.getElem?_cons_succ]
  exact g5
end Go.V

namespace Go.Proofs.YtbnabmpchhmckaaGreatDoor.auditNames
open Go.ChangeShapes Go.WideShapes Go.ChangeAt Go.RowKit
set_option linter.unusedVariables false
set_option maxRecDepth 100000
theorem own : ownKnob Tryz.prog.godebug = none := by kernel_rfl

theorem contract (H : Type) (enc : TypeId × Value → H) (W : World) (base : Nat) (args : Array Value) (ds gs : List (DataW H)) (before : List MemPlace)
    (hW : DataW.Whole enc Tryz.prog Tryz.f3.params.toList Rows.auditNamesSpec.vars false W args.toList ds gs before) :
    Calls Tryz.prog 3 args W fun e W' => ∃ v, e = .returned v ∧ Rows.auditNamesSpec.post enc Tryz.prog Tryz.f3 false true false false W args v W' := by
  have hW' := hW
  obtain ⟨p, q, hA0, hV, rfl, hfz, hnd⟩ := hW
  have hA : DataW.TrodAll enc Tryz.prog W 0 (fun _ => true) true Tryz.f3.params.toList args.toList ds p := hA0
  rw [Tryz.params3] at hA
  obtain ⟨rfl, hargs, rfl⟩ := trodAll_none hA
  obtain ⟨rfl, rfl⟩ := trodVars_none hV
  clear hA0
  simp only [List.append_nil] at hW'
  subst hargs
  refine (Go.V.calls_true (Go.V.names W)).mono fun e W' ⟨he, hg⟩ => ?_
  subst he
  exact ⟨_, rfl, post_of_same (pa := []) (pv := []) hW' (fun _ _ _ => (trodAll_cons_mk (shut_bool Tryz.underlying4 _) trodAll_mk0)) (fun sp _ => rfl) (fun _ _ => rfl) rfl
    (hg.frame _) hg.2.1 (ok_one (by kernel_rfl) rfl (okWide_bool_mk Tryz.underlying4 _))⟩

def words (l : List Nat) : Array Value := (l.map fun (n : Nat) => Value.int .u32 (n : Int)).toArray
def lay (vs : Array Value) : Obj → Obj
  | .cells _ t frozen => .cells vs t frozen
  | o => o
set_option maxRecDepth 100000 in
noncomputable def laidWorld (os : Os) : World :=
  { World.holding Tryz.prog os ⟨#[], #[], []⟩ with heap := ((World.holding Tryz.prog os ⟨#[], #[], []⟩).heap.modify 0 (lay (words [1779033703, 3144134277, 1013904242, 2773480762, 1359893119, 2600822924, 528734635, 1541459225]))).modify 1 (lay (words [1116352408, 1899447441, 3049323471, 3921009573, 961987163, 1508970993, 2453635748, 2870763221, 3624381080, 310598401, 607225278, 1426881987, 1925078388, 2162078206, 2614888103, 3248222580, 3835390401, 4022224774, 264347078, 604807628, 770255983, 1249150122, 1555081692, 1996064986, 2554220882, 2821834349, 2952996808, 3210313671, 3336571891, 3584528711, 113926993, 338241895, 666307205, 773529912, 1294757372, 1396182291, 1695183700, 1986661051, 2177026350, 2456956037, 2730485921, 2820302411, 3259730800, 3345764771, 3516065817, 3600352804, 4094571909, 275423344, 430227734, 506948616, 659060556, 883997877, 958139571, 1322822218, 1537002063, 1747873779, 1955562222, 2024104815, 2227730452, 2361852424, 2428436474, 2756734187, 3204031479, 3329325298])) }
theorem laid_met (os : Os) : laidMet Tryz.prog Rows.auditNamesRow.laid ((laidWorld os).forCall (fun _ _ => 0) ⟨#[], #[], []⟩).memory :=
  laidMet_of_run' 8 (by kernel_rfl) (by kernel_rfl)
theorem reads (os : Os) {H : Type} (enc : TypeId × Value → H) : ∃ places, DataW.whole enc Tryz.prog ((laidWorld os).forCall (fun _ _ => 0) ⟨#[], #[], []⟩).memory Tryz.f3.params.toList Rows.auditNamesSpec.vars false #[].toList 8 = some ([], [], places) :=
  ⟨[], by kernel_rfl⟩
set_option maxRecDepth 100000 in
theorem lifted (os : Os) (started : os.Started) (H : Type) (enc : TypeId × Value → H) (F : Stop.Interp) :
    ReturnsInHanded {} Tryz.checked os 3 .any ((OpenSpec.ofChange Rows.auditNamesSpec).preRow enc Tryz.prog Tryz.f3 Rows.auditNamesRow.domain false Rows.auditNamesRow.laid) (((OpenSpec.ofChange Rows.auditNamesSpec).at F).post enc Tryz.prog Tryz.f3 false true false false) := by
  obtain ⟨places, hx⟩ := reads os enc
  refine returnsInHanded_of_row (C := Tryz.checked) (s := OpenSpec.ofChange Rows.auditNamesSpec) own started (by kernel_rfl) Tryz.func3
    (witness_row_at (enc := enc) (C := Tryz.checked) false (laidWorld os) #[] rfl (by kernel_rfl) (by kernel_rfl) (by kernel_rfl)
      (OpenSpec.preRow_of_cond 8 hx (by kernel_rfl) (fun k hk => by cases hk) (by kernel_rfl) (laid_met os))) ?_
  intro W base args ds gs before hval hW _ _ _ hL _ _
  exact contract H enc W base args ds gs before hW

theorem said : Rows.AuditNamesSaid :=
  OpenClaim.holds_of_cond 3 Tryz.f3 rfl rfl rfl rfl rfl rfl rfl ⟨rfl, rfl, rfl, rfl, rfl⟩ rfl rfl rfl rfl rfl (by kernel_rfl) Tryz.func3 (by kernel_rfl)
    (of_decide_eq_true (by kernel_rfl)) (by unfold Func.isWrapper; first | (rw [if_pos (by decide +kernel)]; kernel_rfl) | (rw [if_neg (by decide +kernel)]; exact ⟨rfl, rfl⟩))
    (fun os started H enc _ F => by rw [OpenClaim.pre_eq_preRow]; exact lifted os started H enc F)

theorem plain (f : FuncId) (fn : Func) (hf : Tryz.pinned.checked.prog.funcNamed "ledger/ledgerlaw17.AuditNames" = some f) (hfn : Tryz.pinned.checked.prog.funcs[f]? = some fn) :
    true = Tryz.pinned.checked.prog.looks [] ∧ ∀ (j : Nat) t, fn.params[j]? = some t → Tryz.pinned.checked.prog.wantsStandIn t = false := by
  obtain rfl : f = 3 := Option.some.inj ((show Tryz.prog.funcNamed "ledger/ledgerlaw17.AuditNames" = some 3 by kernel_rfl).symm.trans hf) |>.symm
  obtain rfl : fn = Tryz.f3 := (Option.some.inj (Tryz.func3.symm.trans hfn)).symm
  refine ⟨by kernel_rfl, fun j t ht => ?_⟩
  rw [Tryz.params3] at ht
  simp at ht

/-- the card -/
theorem proved : Rows.AuditNamesCardSaid :=
  Claim7.holds_tied_plain_at .later [] _ _ _ _ said (fun _ h => by cases h) (by kernel_rfl) (fun _ h => by cases h) auditNames_row_tie rfl ⟨rfl, rfl⟩ (by kernel_rfl) rfl plain (by kernel_rfl)
#print axioms proved
end Go.Proofs.YtbnabmpchhmckaaGreatDoor.auditNames
