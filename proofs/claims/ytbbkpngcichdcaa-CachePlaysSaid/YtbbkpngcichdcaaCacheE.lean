/-
  The calls of a cache of ints: Get, Put, Hold, trim.
-/
import Derived.Test.YtbbkpngcichdcaaCacheD
namespace Go.V
open Go.Proofs
set_option maxRecDepth 100000
namespace I
section
variable {w : World} {cb mb : Nat} {cl kp xs : List Nd} {room hits misses gone : Nat}

theorem get_miss (h : Core w cb mb cl kp [] room hits misses gone) {k : Int} (hk : ∀ n ∈ cl ++ kp ++ [], n.k ≠ k) (hm : misses < 4611686018427387904) :
    Fn Try.prog 13 #[ptr (cb, 0), .int .i64 k] w fun x w' => x = .tuple #[.int .i64 0, .bool false] ∧ Core w' cb mb cl kp [] room hits (misses + 1) gone ∧ Fr (foot cb mb (cl ++ kp ++ [])) w w' := by
  refine Try.go13 (by simp) ?_
  have a1 : rdO Try.prog 63 w cb 1 = some _ := rd_cv Try.agg63 h.found
  have a2 := h.look_none hk
  have a3 : rdO Try.prog 3 w cb 15 = some _ := rd_cv Try.agg3 h.misses
  have a4 := wr_cv (P := Try.prog) (t := 3) (v := .int .i64 ((misses + 1 : Nat) : Int)) Try.sz3 rfl h.misses
  have a5 : IntKind.i64.wrap ((misses : Int) + 1) = ((misses + 1 : Nat) : Int) := by rw [wrap64_id (by omega) (by omega)]; rfl
  have fin := h.count (misses + 1) (.inr (.inl rfl))
  simp only [Nat.reduceEqDiff, if_false, if_true] at fin
  simp -implicitDefEqProofs only [go_sem, Nat.reduceEqDiff, Try.f13, a1, a2, a3, a4, a5]
  exact ⟨trivial, fin, (Fr.refl _ _).setc _ _ fun _ => .inl rfl⟩

theorem get_kept (h : Core w cb mb cl kp [] room hits misses gone) {n : Nd} (hn : n ∈ kp) (hh : n.h = true) (hm : hits < 4611686018427387904) :
    Fn Try.prog 13 #[ptr (cb, 0), .int .i64 n.k] w fun x w' => x = .tuple #[.int .i64 n.v, .bool true] ∧ Core w' cb mb cl kp [] room (hits + 1) misses gone ∧ Fr (foot cb mb (cl ++ kp ++ [])) w w' := by
  refine Try.go13 (by simp) ?_
  have hn' : n ∈ cl ++ kp ++ [] := by simp [hn]
  have a1 : rdO Try.prog 63 w cb 1 = some _ := rd_cv Try.agg63 h.found
  have a2 := h.look_some hn'
  have a3 : rdO Try.prog 3 w cb 14 = some _ := rd_cv Try.agg3 h.hits
  have a4 := wr_cv (P := Try.prog) (t := 3) (v := .int .i64 ((hits + 1 : Nat) : Int)) Try.sz3 rfl h.hits
  have a5 : IntKind.i64.wrap ((hits : Int) + 1) = ((hits + 1 : Nat) : Int) := by rw [wrap64_id (by omega) (by omega)]; rfl
  have fin := h.count (hits + 1) (.inl rfl)
  simp only [Nat.reduceEqDiff, if_false, if_true] at fin
  have e := fin.ents n hn'
  have a6 : rdO Try.prog 4 _ n.b 2 = some _ := rd_cv Try.agg4 e.held
  have a7 : rdO Try.prog 3 _ n.b 1 = some _ := rd_cv Try.agg3 e.val
  rw [hh] at a6
  simp -implicitDefEqProofs only [go_sem, Nat.reduceEqDiff, Try.f13, a1, a2, a3, a4, a5, a6, a7, Bool.not_true]
  exact ⟨trivial, fin, (Fr.refl _ _).setc _ _ fun _ => .inl rfl⟩

theorem get_clean {n : Nd} {a b : List Nd} (h : Core w cb mb (a ++ n :: b) kp [] room hits misses gone) (hh : n.h = false) (hm : hits < 4611686018427387904) (hl : (a ++ n :: b).length < 4611686018427387904) :
    Fn Try.prog 13 #[ptr (cb, 0), .int .i64 n.k] w fun x w' => x = .tuple #[.int .i64 n.v, .bool true] ∧ Core w' cb mb (a ++ b ++ [n]) kp [] room (hits + 1) misses gone ∧ Fr (foot cb mb (a ++ n :: b ++ kp ++ [])) w w' := by
  refine Try.go13 (by simp) ?_
  have hn' : n ∈ a ++ n :: b ++ kp ++ [] := by simp
  have a1 : rdO Try.prog 63 w cb 1 = some _ := rd_cv Try.agg63 h.found
  have a2 := h.look_some hn'
  have a3 : rdO Try.prog 3 w cb 14 = some _ := rd_cv Try.agg3 h.hits
  have a4 := wr_cv (P := Try.prog) (t := 3) (v := .int .i64 ((hits + 1 : Nat) : Int)) Try.sz3 rfl h.hits
  have a5 : IntKind.i64.wrap ((hits : Int) + 1) = ((hits + 1 : Nat) : Int) := by rw [wrap64_id (by omega) (by omega)]; rfl
  have h1 := h.count (hits + 1) (.inl rfl)
  simp only [Nat.reduceEqDiff, if_false, if_true] at h1
  have e := h1.ents n hn'
  have a6 : rdO Try.prog 4 _ n.b 2 = some _ := rd_cv Try.agg4 e.held
  rw [hh] at a6
  simp -implicitDefEqProofs only [go_sem, Nat.reduceEqDiff, Try.f13, a1, a2, a3, a4, a5, a6, Bool.not_false]
  refine contL_call Try.pl34 ((dropC h1 hl).mono ?_)
  rintro _ w2 ⟨rfl, h2, f2⟩
  simp -implicitDefEqProofs only [go_sem, Nat.reduceEqDiff]
  refine contL_call Try.pl33 ((lastC h2 (by simp at hl ⊢; omega)).mono ?_)
  rintro _ w3 ⟨rfl, h3, f3⟩
  have a7 : rdO Try.prog 3 w3 n.b 1 = some _ := rd_cv Try.agg3 (h3.ents n (by simp)).val
  simp -implicitDefEqProofs only [go_sem, Nat.reduceEqDiff, a7]
  refine ⟨trivial, h3, ?_⟩
  have f1 : Fr (foot cb mb (a ++ n :: b ++ kp ++ [])) w (setc w cb 14 (.int .i64 ((hits + 1 : Nat) : Int))) := (Fr.refl _ _).setc _ _ fun _ => .inl rfl
  refine (f1.trans' f2 fun b' _ hb => ?_).trans' f3 fun b' _ hb => ?_
  · rcases hb with hb | hb | ⟨m, hm, hb⟩
    · exact .inl hb
    · exact .inr (.inl hb)
    · exact .inr (.inr ⟨m, by simp only [List.mem_append] at hm ⊢; exact .inl (.inl hm), hb⟩)
  · rcases hb with hb | hb | ⟨m, hm, hb⟩
    · exact .inl hb
    · exact .inr (.inl hb)
    · refine .inr (.inr ⟨m, ?_, hb⟩)
      simp only [List.mem_append, List.mem_cons, List.not_mem_nil, or_false] at hm ⊢
      rcases hm with (hm | hm) | hm
      · exact .inl (.inl hm)
      · exact .inl (.inr (.inr hm))
      · exact .inl (.inr (.inl hm))

def trimI (w0 : World) (cb mb : Nat) (cl kp : List Nd) (room hits misses gone : Nat) (m : Nat) (vs : List Value) (w : World) : Prop :=
  ∃ j, vs = [ptr (cb, 0)] ∧ m = cl.length - j ∧ j ≤ cl.length - room ∧ Core w cb mb (cl.drop j) kp [] room hits misses (gone + j) ∧ Fr (foot cb mb (cl ++ kp ++ [])) w0 w
theorem trim (h : Core w cb mb cl kp [] room hits misses gone) (hg : gone + cl.length < 4611686018427387904) (hr : room < 4611686018427387904) :
    Fn Try.prog 35 #[ptr (cb, 0)] w fun x w' => x = .tuple #[] ∧ Core w' cb mb (cl.drop (cl.length - room)) kp [] room hits misses (gone + (cl.length - room)) ∧ Fr (foot cb mb (cl ++ kp ++ [])) w w' := by
  refine Try.go35 (by simp) ?_
  simp -implicitDefEqProofs only [go_sem, Try.f35]
  refine loopD [0] (trimI w cb mb cl kp room hits misses gone) cl.length ⟨0, by simp [upd], by omega, by omega, by simpa using h, Fr.refl _ _⟩ ?_
  rintro m vs w1 g ⟨j, rfl, rfl, hj, h1, f1⟩
  have a1 : rdO Try.prog 3 w1.drew cb 7 = some (.int .i64 ((cl.drop j).length : Nat)) := by
    have := h1.clean.size
    rw [List.length_map] at this
    exact rd_cv Try.agg3 this
  have a2 : rdO Try.prog 3 w1.drew cb 0 = some _ := rd_cv Try.agg3 h1.room
  by_cases hlt : room < (cl.drop j).length
  · have hd : decide (((cl.drop j).length : Int) > room) = true := by simp; simpa using hlt
    obtain ⟨n, b, hb⟩ : ∃ n b, cl.drop j = n :: b := by
      cases hcl : cl.drop j with
      | nil => rw [hcl] at hlt; simp at hlt
      | cons n b => exact ⟨n, b, rfl⟩
    have hjl : j < cl.length - room := by simp at hlt; omega
    have hnext : cl.drop (j + 1) = b := by
      have : cl.drop (j + 1) = (cl.drop j).drop 1 := by rw [List.drop_drop, Nat.add_comm]
      rw [this, hb]; rfl
    have h2 : Core w1.drew cb mb ([] ++ n :: b) kp [] room hits misses (gone + j) := by
      rw [hb] at h1; exact h1.frame fun _ _ => rfl
    have a3 : rdO Try.prog 64 w1.drew cb 6 = some (ptr n.at) := by
      have := (h2.clean.ring.nbrs (a := []) (e := n.at) (b := b.map Nd.at)).2.2.1
      exact rd_cv Try.agg64 this
    simp -implicitDefEqProofs only [go_sem, Nat.reduceEqDiff, a1, a2, hd, a3]
    refine contL_call Try.pl34 ((dropC h2 (by rw [List.nil_append, ← hb]; simp; omega)).mono ?_)
    rintro _ w3 ⟨rfl, h3, f3⟩
    have a4 : rdO Try.prog 63 w3.drew cb 1 = some _ := rd_cv Try.agg63 h3.found
    have a5 : rdO Try.prog 3 w3.drew n.b 0 = some _ := rd_cv Try.agg3 (h3.ents n (by simp)).key
    simp -implicitDefEqProofs only [go_sem, Nat.reduceEqDiff, a4, a5]
    have h3' : Core w3.drew cb mb b kp [n] room hits misses (gone + j) := h3.frame fun _ _ => rfl
    obtain ⟨ob, hob, h4⟩ := h3'.del
    refine contL_sem ⟨_, _, r_delete rfl Try.map63 hob, ?_⟩
    have a6 : rdO Try.prog 3 (put w3.drew mb ob) cb 16 = some _ := rd_cv Try.agg3 h4.gone
    have a7 := wr_cv (P := Try.prog) (t := 3) (v := .int .i64 ((gone + (j + 1) : Nat) : Int)) Try.sz3 rfl h4.gone
    have a8 : IntKind.i64.wrap (((gone + j : Nat) : Int) + 1) = ((gone + (j + 1) : Nat) : Int) := by
      rw [wrap64_id (by omega) (by omega)]; omega
    have h5 := h4.count (gone + (j + 1)) (.inr (.inr rfl))
    simp only [Nat.reduceEqDiff, if_false, if_true] at h5
    simp -implicitDefEqProofs only [go_sem, Nat.reduceEqDiff, a6, a7, a8]
    refine ⟨cl.length - (j + 1), by omega, j + 1, rfl, rfl, by omega, by rw [hnext]; exact h5, ?_⟩
    have f2 : Fr (foot cb mb (cl ++ kp ++ [])) w w3.drew := (f1.drew.trans' f3 fun b' _ hb' => ?_).drew
    · exact (f2.put _ fun _ => .inr (.inl rfl)).setc _ _ fun _ => .inl rfl
    · rcases hb' with hb' | hb' | ⟨m, hm, hb'⟩
      · exact .inl hb'
      · exact .inr (.inl hb')
      · refine .inr (.inr ⟨m, ?_, hb'⟩)
        rw [List.nil_append, ← hb] at hm
        have := List.mem_of_mem_drop hm
        simp [this]
  · have hd : decide (((cl.drop j).length : Int) > room) = false := by simp; simpa using hlt
    have hjl : j = cl.length - room := by simp at hlt; omega
    subst hjl
    simp -implicitDefEqProofs only [go_sem, Nat.reduceEqDiff, a1, a2, hd]
    exact ⟨trivial, h1.frame fun _ _ => rfl, f1.drew⟩
end
end I
end Go.V
