/-
  The calls of a cache of ints: Hold, Settle, Release, Tally, New.
-/
import Derived.Test.YtbbkpngcichdcaaCacheF
namespace Go.V
open Go.Proofs
set_option maxRecDepth 100000
namespace I
section
variable {w : World} {cb mb : Nat} {cl kp xs : List Nd} {room hits misses gone : Nat}

theorem hold_kept {n : Nd} {a b : List Nd} (h : Core w cb mb cl (a ++ n :: b) [] room hits misses gone) (hh : n.h = true) (v : Int) :
    Fn Try.prog 19 #[ptr (cb, 0), .int .i64 n.k, .int .i64 v] w fun x w' => x = .tuple #[] ∧
      Core w' cb mb cl (a ++ { n with v := v } :: b) [] room hits misses gone ∧ Fr (foot cb mb (cl ++ (a ++ n :: b) ++ [])) w w' := by
  have hn : n ∈ cl ++ (a ++ n :: b) ++ [] := by simp
  refine Try.go19 (by simp) ?_
  have a1 : rdO Try.prog 63 w cb 1 = some _ := rd_cv Try.agg63 h.found
  have a2 := h.look_some hn
  have e := h.ents n hn
  have a3 : rdO Try.prog 4 w n.b 2 = some _ := rd_cv Try.agg4 e.held
  rw [hh] at a3
  have a4 := wr_cv (P := Try.prog) (t := 3) (v := .int .i64 v) Try.sz3 rfl e.val
  have h1 := h.setv hn v
  obtain ⟨q1, q2⟩ := h.all_ne (n := n) (l1 := cl ++ a) (l2 := b) (by simp)
  have e1 : cl.map (Nd.sv n.b v) = cl := sv_none fun m hm => q1 m (by simp [hm])
  have e2 : (a ++ n :: b).map (Nd.sv n.b v) = a ++ { n with v := v } :: b := by
    rw [List.map_append, List.map_cons, sv_none fun m hm => q1 m (by simp [hm]), sv_none fun m hm => q2 m hm]
    simp [Nd.sv]
  rw [e1, e2, List.map_nil] at h1
  have hn1 : ({ n with v := v } : Nd) ∈ cl ++ (a ++ { n with v := v } :: b) ++ [] := by simp
  have a5 := wr_cv (P := Try.prog) (t := 4) (v := .bool true) Try.sz4 rfl (h1.ents _ hn1).held
  simp only at a5
  have h2 := h1.seth hn1 true
  have e3 : cl.map (Nd.sh n.b true) = cl := sh_none fun m hm => q1 m (by simp [hm])
  have e4 : (a ++ { n with v := v } :: b).map (Nd.sh n.b true) = a ++ { n with v := v } :: b := by
    rw [List.map_append, List.map_cons, sh_none fun m hm => q1 m (by simp [hm]), sh_none fun m hm => q2 m hm]
    simp [Nd.sh, hh]
  simp only [e3, e4, List.map_nil] at h2
  simp -implicitDefEqProofs only [go_sem, Nat.reduceEqDiff, Try.f19, a1, a2, a3, a4, a5, Bool.not_true]
  exact ⟨trivial, h2, ((Fr.refl _ _).setc _ _ fun _ => .inr (.inr ⟨n, hn, rfl⟩)).setc _ _ fun _ => .inr (.inr ⟨n, hn, rfl⟩)⟩

theorem hold_clean {n : Nd} {a b : List Nd} (h : Core w cb mb (a ++ n :: b) kp [] room hits misses gone) (hh : n.h = false) (v : Int) (hg : (a ++ n :: b).length + kp.length < 4611686018427387904) :
    Fn Try.prog 19 #[ptr (cb, 0), .int .i64 n.k, .int .i64 v] w fun x w' => x = .tuple #[] ∧
      Core w' cb mb (a ++ b) (kp ++ [{ n with v := v, h := true }]) [] room hits misses gone ∧ Fr (foot cb mb (a ++ n :: b ++ kp ++ [])) w w' := by
  have hn : n ∈ a ++ n :: b ++ kp ++ [] := by simp
  refine Try.go19 (by simp) ?_
  have a1 : rdO Try.prog 63 w cb 1 = some _ := rd_cv Try.agg63 h.found
  have a2 := h.look_some hn
  have e := h.ents n hn
  have a3 : rdO Try.prog 4 w n.b 2 = some _ := rd_cv Try.agg4 e.held
  rw [hh] at a3
  simp -implicitDefEqProofs only [go_sem, Nat.reduceEqDiff, Try.f19, a1, a2, a3, Bool.not_false]
  refine contL_call Try.pl34 ((dropC h (by omega)).mono ?_)
  rintro _ w2 ⟨rfl, h2, f2⟩
  simp -implicitDefEqProofs only [go_sem, Nat.reduceEqDiff]
  refine contL_call Try.pl33 ((lastK h2 (by omega)).mono ?_)
  rintro _ w3 ⟨rfl, h3, f3⟩
  have hn3 : n ∈ a ++ b ++ (kp ++ [n]) ++ [] := by simp
  have a4 := wr_cv (P := Try.prog) (t := 3) (v := .int .i64 v) Try.sz3 rfl (h3.ents n hn3).val
  have h4 := h3.setv hn3 v
  obtain ⟨q1, q2⟩ := h3.all_ne (n := n) (l1 := a ++ b ++ kp) (l2 := []) (by simp)
  have e1 : (kp ++ [n]).map (Nd.sv n.b v) = kp ++ [{ n with v := v }] := by
    rw [List.map_append, sv_none fun m hm => q1 m (by simp [hm])]; simp [Nd.sv]
  rw [e1, sv_none fun m hm => q1 m (by rw [List.mem_append]; exact .inl hm), List.map_nil] at h4
  have hn4 : ({ n with v := v } : Nd) ∈ a ++ b ++ (kp ++ [{ n with v := v }]) ++ [] := by simp
  have a5 := wr_cv (P := Try.prog) (t := 4) (v := .bool true) Try.sz4 rfl (h4.ents _ hn4).held
  simp only at a5
  have h5 := h4.seth hn4 true
  have e2 : (kp ++ [({ n with v := v } : Nd)]).map (Nd.sh n.b true) = kp ++ [{ n with v := v, h := true }] := by
    rw [List.map_append, sh_none fun m hm => q1 m (by simp [hm])]; simp [Nd.sh]
  simp only [e2, List.map_nil] at h5
  rw [sh_none fun m hm => q1 m (by rw [List.mem_append]; exact .inl hm)] at h5
  simp -implicitDefEqProofs only [go_sem, Nat.reduceEqDiff, a4, a5]
  refine ⟨trivial, h5, ?_⟩
  have f3' : Fr (foot cb mb (a ++ n :: b ++ kp ++ [])) w w3 := by
    refine (Fr.trans' (Fr.refl _ _) f2 fun b' _ hb => foot_sub (fun m hm => ⟨m, by simp only [List.mem_append] at hm ⊢; exact .inl (.inl hm), rfl⟩) hb).trans' f3 fun b' _ hb => foot_sub (fun m hm => ⟨m, ?_, rfl⟩) hb
    simp only [List.mem_append, List.mem_cons, List.not_mem_nil, or_false] at hm ⊢
    rcases hm with hm | hm
    · exact .inr hm
    · exact .inl (.inr (.inl hm))
  exact (f3'.setc _ _ fun _ => .inr (.inr ⟨n, hn, rfl⟩)).setc _ _ fun _ => .inr (.inr ⟨n, hn, rfl⟩)

theorem hold_new (h : Core w cb mb cl kp [] room hits misses gone) {k : Int} (hk : ∀ n ∈ cl ++ kp ++ [], n.k ≠ k) (v : Int) (hg : kp.length < 4611686018427387904) :
    Fn Try.prog 19 #[ptr (cb, 0), .int .i64 k, .int .i64 v] w fun x w' => x = .tuple #[] ∧
      Core w' cb mb cl (kp ++ [(⟨w.heap.size, k, v, true⟩ : Nd)]) [] room hits misses gone ∧ Fr (foot cb mb (cl ++ kp ++ [])) w w' := by
  refine Try.go19 (by simp) ?_
  have a1 : rdO Try.prog 63 w cb 1 = some _ := rd_cv Try.agg63 h.found
  have a2 := h.look_none hk
  obtain ⟨ob, hob, h1⟩ := h.fresh hk
  have hal : Core (w.alloc (.cells #[.int .i64 k, .int .i64 0, .bool false, .pointer none, .pointer none] 66)) cb mb cl kp [] room hits misses gone :=
    h.frame fun b hb => alloc_blk_old _ _ (h.foot_lt hb)
  have a3 : rdO Try.prog 63 (w.alloc (.cells #[.int .i64 k, .int .i64 0, .bool false, .pointer none, .pointer none] 66)) cb 1 = some _ := rd_cv Try.agg63 hal.found
  simp -implicitDefEqProofs only [go_sem, Nat.reduceEqDiff, Try.f19, a1, a2, a3, bld66, hob]
  have fr0 : Fr (foot cb mb (cl ++ kp ++ [])) w (put (w.alloc (.cells #[.int .i64 k, .int .i64 0, .bool false, .pointer none, .pointer none] 66)) mb ob) := ((Fr.refl _ _).alloc _).put _ fun _ => .inr (.inl rfl)
  generalize hN : (⟨w.heap.size, k, 0, false⟩ : Nd) = N at *
  have hNb : N.b = w.heap.size := by rw [← hN]
  have c1 := lastK h1 (by omega)
  rw [show N.at = (w.heap.size, 0) by rw [← hNb]] at c1
  refine contL_call Try.pl33 (c1.mono ?_)
  rintro _ w3 ⟨rfl, h3, f3⟩
  have hn3 : N ∈ cl ++ (kp ++ [N]) ++ [] := by simp
  have a4 := wr_cv (P := Try.prog) (t := 3) (v := .int .i64 v) Try.sz3 rfl (h3.ents N hn3).val
  rw [hNb] at a4
  have h4 := h3.setv hn3 v
  obtain ⟨q1, q2⟩ := h3.all_ne (n := N) (l1 := cl ++ kp) (l2 := []) (by simp)
  have e1 : (kp ++ [N]).map (Nd.sv N.b v) = kp ++ [(⟨w.heap.size, k, v, false⟩ : Nd)] := by
    rw [List.map_append, sv_none fun m hm => q1 m (by simp [hm]), ← hN]; simp [Nd.sv]
  rw [e1, sv_none fun m hm => q1 m (by simp [hm]), List.map_nil, hNb] at h4
  have hn4 : (⟨w.heap.size, k, v, false⟩ : Nd) ∈ cl ++ (kp ++ [(⟨w.heap.size, k, v, false⟩ : Nd)]) ++ [] := by simp
  have a5 := wr_cv (P := Try.prog) (t := 4) (v := .bool true) Try.sz4 rfl (h4.ents _ hn4).held
  simp only at a5
  have h5 := h4.seth hn4 true
  have e2 : (kp ++ [(⟨w.heap.size, k, v, false⟩ : Nd)]).map (Nd.sh w.heap.size true) = kp ++ [(⟨w.heap.size, k, v, true⟩ : Nd)] := by
    rw [List.map_append, sh_none fun m hm => by have := q1 m (by simp [hm]); rwa [hNb] at this]; simp [Nd.sh]
  simp only [e2, List.map_nil] at h5
  rw [sh_none fun m hm => by have := q1 m (by simp [hm]); rwa [hNb] at this] at h5
  simp -implicitDefEqProofs only [go_sem, Nat.reduceEqDiff, a4, a5]
  refine ⟨trivial, h5, ?_⟩
  have new_ne : ∀ b', b' < w.heap.size → b' ≠ N.b := fun b' hb => by rw [hNb]; omega
  refine ((fr0.trans' f3 fun b' hb' hb => ?_).setc (b := w.heap.size) _ _ fun hlt => absurd hlt (Nat.lt_irrefl _)).setc (b := w.heap.size) _ _ fun hlt => absurd hlt (Nat.lt_irrefl _)
  rcases hb with hb | hb | ⟨m, hm, hb⟩
  · exact .inl hb
  · exact .inr (.inl hb)
  · rcases List.mem_append.1 hm with hm | hm
    · exact .inr (.inr ⟨m, by simp [hm], hb⟩)
    · simp only [List.mem_singleton] at hm; subst hm; exact absurd hb (new_ne b' hb')

def Nd.off (n : Nd) : Nd := { n with h := false }
def settleI (w0 : World) (cb mb : Nat) (cl kp : List Nd) (room hits misses gone : Nat) (m : Nat) (vs : List Value) (w : World) : Prop :=
  ∃ j, vs = [ptr (cb, 0)] ∧ m = kp.length - j ∧ j ≤ kp.length ∧ Core w cb mb (cl ++ (kp.take j).map Nd.off) (kp.drop j) [] room hits misses gone ∧ Fr (foot cb mb (cl ++ kp ++ [])) w0 w
theorem settle (h : Core w cb mb cl kp [] room hits misses gone) (hg : gone + (cl.length + kp.length) < 4611686018427387904) (hr : room < 4611686018427387904) :
    Fn Try.prog 40 #[ptr (cb, 0)] w fun x w' => x = .tuple #[] ∧ Core w' cb mb ((cl ++ kp.map Nd.off).drop (cl.length + kp.length - room)) [] [] room hits misses (gone + (cl.length + kp.length - room)) ∧ Fr (foot cb mb (cl ++ kp ++ [])) w w' := by
  refine Try.go40 (by simp) ?_
  simp -implicitDefEqProofs only [go_sem, Try.f40]
  refine loopD [0] (settleI w cb mb cl kp room hits misses gone) kp.length ⟨0, by simp [upd], by omega, by omega, by simpa using h, Fr.refl _ _⟩ ?_
  rintro m vs w1 g ⟨j, rfl, rfl, hj, h1, f1⟩
  have a1 : rdO Try.prog 3 w1 cb 13 = some (.int .i64 ((kp.drop j).length : Nat)) := by
    have := h1.kept.size
    rw [List.length_map] at this
    exact rd_cv Try.agg3 this
  by_cases hlt : 0 < (kp.drop j).length
  · have hd : decide (((kp.drop j).length : Int) > 0) = true := by simp; simpa using hlt
    obtain ⟨n, b, hb⟩ : ∃ n b, kp.drop j = n :: b := by
      cases hcl : kp.drop j with
      | nil => rw [hcl] at hlt; simp at hlt
      | cons n b => exact ⟨n, b, rfl⟩
    have hjl : j < kp.length := by simp at hlt; omega
    have hnext : kp.drop (j + 1) = b := by
      have : kp.drop (j + 1) = (kp.drop j).drop 1 := by rw [List.drop_drop, Nat.add_comm]
      rw [this, hb]; rfl
    have htake : kp.take (j + 1) = kp.take j ++ [n] := by
      rw [List.take_succ_eq_append_getElem hjl]
      congr 1
      have : kp[j] = n := by
        have h0 : (kp.drop j)[0]? = some n := by rw [hb]; rfl
        rw [List.getElem?_drop, Nat.add_zero] at h0
        rw [List.getElem?_eq_getElem hjl] at h0
        simpa using h0
      rw [this]
    have h2 : Core w1 cb mb (cl ++ (kp.take j).map Nd.off) ([] ++ n :: b) [] room hits misses gone := by rw [hb] at h1; exact h1
    have a3 : rdO Try.prog 64 w1 cb 12 = some (ptr n.at) := by
      have := (h2.kept.ring.nbrs (a := []) (e := n.at) (b := b.map Nd.at)).2.2.1
      exact rd_cv Try.agg64 this
    simp -implicitDefEqProofs only [go_sem, Nat.reduceEqDiff, a1, hd, a3]
    refine contL_call Try.pl34 ((dropK h2 (by rw [List.nil_append, ← hb]; simp; omega)).mono ?_)
    rintro _ w3 ⟨rfl, h3, f3⟩
    have hn3 : n ∈ cl ++ (kp.take j).map Nd.off ++ ([] ++ b) ++ [n] := by simp
    have a4 := wr_cv (P := Try.prog) (t := 4) (v := .bool false) Try.sz4 rfl (h3.ents n hn3).held
    have h4 := h3.seth hn3 false
    obtain ⟨q1, q2⟩ := h3.all_ne (n := n) (l1 := cl ++ (kp.take j).map Nd.off ++ b) (l2 := []) (by simp)
    rw [sh_none (l := cl ++ (kp.take j).map Nd.off) fun m hm => q1 m (by rw [List.mem_append]; exact .inl hm), sh_none (l := [] ++ b) fun m hm => q1 m (by simp at hm; simp [hm])] at h4
    have e1 : [n].map (Nd.sh n.b false) = [n.off] := by simp [Nd.sh, Nd.off]
    rw [e1] at h4
    simp -implicitDefEqProofs only [go_sem, Nat.reduceEqDiff, a4]
    refine contL_call Try.pl33 ((lastC (n := n.off) h4 (by simp; omega)).mono ?_)
    rintro _ w5 ⟨rfl, h5, f5⟩
    simp -implicitDefEqProofs only [go_sem]
    refine ⟨kp.length - (j + 1), by omega, j + 1, rfl, rfl, by omega, ?_, ?_⟩
    · rw [hnext, htake, List.map_append, ← List.append_assoc]; exact h5
    · have hin : n ∈ kp := by have : n ∈ kp.drop j := by rw [hb]; simp
                              exact List.mem_of_mem_drop this
      have f2 := f1.trans' f3 fun b' _ hb' => foot_sub (fun m hm => ⟨m, by
        rw [List.nil_append, ← hb] at hm
        simp [List.mem_of_mem_drop hm], rfl⟩) hb'
      refine (f2.setc _ _ fun _ => .inr (.inr ⟨n, by simp [hin], rfl⟩)).trans' f5 fun b' _ hb' => foot_sub (fun m hm => ?_) hb'
      simp only [List.mem_append, List.mem_map, List.mem_singleton] at hm
      rcases hm with (hm | ⟨m', hm', rfl⟩) | rfl
      · exact ⟨m, by simp [hm], rfl⟩
      · exact ⟨m', by simp [List.mem_of_mem_take hm'], rfl⟩
      · exact ⟨n, by simp [hin], rfl⟩
  · have hd : decide (((kp.drop j).length : Int) > 0) = false := by simp; simp at hlt; omega
    have hjl : j = kp.length := by simp at hlt; omega
    subst hjl
    rw [List.take_length, List.drop_length] at h1
    simp -implicitDefEqProofs only [go_sem, Nat.reduceEqDiff, a1, hd]
    have hlen : (cl ++ kp.map Nd.off).length = cl.length + kp.length := by simp
    refine contL_call Try.pl35 ((trim h1 (by rw [hlen]; omega) hr).mono ?_)
    rintro _ w2 ⟨rfl, h2, f2⟩
    rw [hlen] at h2
    simp -implicitDefEqProofs only [go_sem]
    refine ⟨trivial, h2, f1.trans' f2 fun b' _ hb' => foot_sub (fun m hm => ?_) hb'⟩
    simp only [List.append_nil, List.mem_append, List.mem_map] at hm
    rcases hm with hm | ⟨m', hm', rfl⟩
    · exact ⟨m, by simp [hm], rfl⟩
    · exact ⟨m', by simp [hm'], rfl⟩

def releaseI (w0 : World) (cb mb : Nat) (cl kp : List Nd) (room hits misses gone : Nat) (frm : Int) (m : Nat) (vs : List Value) (w : World) : Prop :=
  ∃ j, vs = [ptr (cb, 0), .int .i64 frm] ∧ m = j ∧ min kp.length frm.toNat ≤ j ∧ j ≤ kp.length ∧ Core w cb mb cl (kp.take j) [] room hits misses gone ∧ Fr (foot cb mb (cl ++ kp ++ [])) w0 w
theorem release (h : Core w cb mb cl kp [] room hits misses gone) (frm : Int) (hg : kp.length < 4611686018427387904) :
    Fn Try.prog 42 #[ptr (cb, 0), .int .i64 frm] w fun x w' => x = .tuple #[] ∧ Core w' cb mb cl (kp.take frm.toNat) [] room hits misses gone ∧ Fr (foot cb mb (cl ++ kp ++ [])) w w' := by
  refine Try.go42 (by simp) ?_
  simp -implicitDefEqProofs only [go_sem, Try.f42]
  refine loopD [0, 1] (releaseI w cb mb cl kp room hits misses gone frm) kp.length ⟨kp.length, by simp [upd], rfl, by omega, by omega, by rw [List.take_length]; exact h, Fr.refl _ _⟩ ?_
  rintro m vs w1 g ⟨j, rfl, rfl, hj, hj2, h1, f1⟩
  have hlen : (kp.take m).length = m := by simp; omega
  have a1 : rdO Try.prog 3 w1 cb 13 = some (.int .i64 (m : Nat)) := by
    have := h1.kept.size
    rw [List.length_map, hlen] at this
    exact rd_cv Try.agg3 this
  have a2 : maxL (.int .i64 frm) [.int .i64 0] = some (.int .i64 (frm.toNat : Int)) := by
    simp only [maxL, Option.some.injEq, Value.int.injEq, true_and]
    split <;> omega
  by_cases hlt : frm.toNat < m
  · have hd : decide ((m : Int) > (frm.toNat : Int)) = true := by simp; omega
    obtain ⟨j, rfl⟩ : ∃ j, m = j + 1 := ⟨m - 1, by omega⟩
    have hjl : j < kp.length := by omega
    have htake : kp.take (j + 1) = kp.take j ++ [kp[j]] := List.take_succ_eq_append_getElem hjl
    generalize kp[j] = n at htake
    have h2 : Core w1 cb mb cl (kp.take j ++ n :: []) [] room hits misses gone := by rw [htake] at h1; exact h1
    have a3 : rdO Try.prog 64 w1 cb 11 = some (ptr n.at) := by
      have hr := h2.kept.ring
      rw [List.map_append] at hr
      have := (hr.nbrs (e := n.at) (b := [])).2.2.2
      exact rd_cv Try.agg64 this
    simp -implicitDefEqProofs only [go_sem, Nat.reduceEqDiff, a1, a2, hd, a3]
    refine contL_call Try.pl34 ((dropK h2 (by simp; omega)).mono ?_)
    rintro _ w3 ⟨rfl, h3, f3⟩
    have a4 : rdO Try.prog 63 w3.drew cb 1 = some _ := rd_cv Try.agg63 h3.found
    have a5 : rdO Try.prog 3 w3.drew n.b 0 = some _ := rd_cv Try.agg3 (h3.ents n (by simp)).key
    simp -implicitDefEqProofs only [go_sem, Nat.reduceEqDiff, a4, a5]
    have h3' : Core w3.drew cb mb cl (kp.take j) [n] room hits misses gone := by
      rw [List.append_nil] at h3; exact h3.frame fun _ _ => rfl
    obtain ⟨ob, hob, h4⟩ := h3'.del
    refine contL_sem ⟨_, _, r_delete rfl Try.map63 hob, ?_⟩
    simp -implicitDefEqProofs only [go_sem, Nat.reduceEqDiff]
    refine ⟨j, by omega, j, rfl, rfl, by omega, by omega, h4, ?_⟩
    refine (f1.trans' f3 fun b' _ hb' => foot_sub (fun m hm => ⟨m, ?_, rfl⟩) hb').drew.put _ fun _ => .inr (.inl rfl)
    have : m ∈ kp.take (j + 1) := by rw [htake]; exact hm
    simp [List.mem_of_mem_take this]
  · have hd : decide ((m : Int) > (frm.toNat : Int)) = false := by simp; omega
    simp -implicitDefEqProofs only [go_sem, Nat.reduceEqDiff, a1, a2, hd]
    refine ⟨trivial, ?_, f1⟩
    have e : kp.take m = kp.take frm.toNat := by
      by_cases hf : frm.toNat ≤ kp.length
      · rw [show m = frm.toNat by omega]
      · rw [List.take_of_length_le (by omega), List.take_of_length_le (by omega)]
    rw [e] at h1; exact h1
end
end I
end Go.V
