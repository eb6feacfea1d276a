/-
  The walk of the law CacheTwins.
-/
import Derived.Test.YtbbkpngcichdcaaPaths
namespace Go.V
open Go.Proofs
set_option maxRecDepth 100000
theorem Try.stood27 : Try.prog.stoodInHeld 27 = false := by kernel_rfl
theorem eqV27 (d a b c e f : Nat) : eqV Try.prog (d + 2) 27 (I.tallyV a b c e f) (I.tallyV a b c e f) = some true := by
  conv => lhs; unfold eqV
  rw [Try.underlying27]
  simp only [I.tallyV, Try.stood27, Bool.false_eq_true, if_false, List.mapM_cons, List.mapM_nil, partO, Try.agg3]
  have q : ∀ n : Int, eqV Try.prog (d + 1) 3 (.int .i64 n) (.int .i64 n) = some true := fun n => by rw [I.eqV3]; simp
  simp [q]
namespace S
open I (St opV In64 R64 KV Ints Script)
def twinsI (w0 : World) (a0 : Int) (v : Value) (n c1 c2 : Nat) (m : Nat) (vs : List Value) (w : World) : Prop :=
  ∃ i g, vs = [.int .i64 a0, v, ptr (c1, 0), ptr (c2, 0), .int .i64 (i : Nat)] ∧ m = n - i ∧ i ≤ n ∧ Twins w0 w c1 c2 (g.bump 1) g ∧ g.In ∧ g.size ≤ 4 + i
set_option maxHeartbeats 4000000 in
theorem twinsLaw {w : World} {v : Value} {n : Nat} (hv : Script w v n) (hn : n ≤ 4398046511104) (a0 : Int) :
    Fn Try.prog 7 #[.int .i64 a0, v] w fun x w' => x = .bool true ∧ Fr (fun _ => False) w w' := by
  refine Try.go7 (by simp) ?_
  simp -implicitDefEqProofs only [go_sem, Nat.reduceEqDiff, Try.f7]
  refine contL_call Try.pl9 ((I.Box.new w a0).mono ?_)
  rintro _ w1 ⟨c1, rfl, b1, f1⟩
  simp -implicitDefEqProofs only [go_sem, Nat.reduceEqDiff]
  refine contL_call Try.pl18 ((S.Box.new w1 a0).mono ?_)
  rintro _ w2 ⟨c2, rfl, b2, f2⟩
  simp -implicitDefEqProofs only [go_sem, Nat.reduceEqDiff]
  have b1' := b1.frame f2 fun _ _ h => h
  have r3 : R64 3 := by unfold R64; omega
  have r4 : R64 4 := by unfold R64; omega
  refine contL_call Try.pl19 ((b1'.hold (by simp [I.St.new, I.St.size]) 3 4).mono ?_)
  rintro _ w3 ⟨rfl, b3, f3⟩
  simp -implicitDefEqProofs only [go_sem, Nat.reduceEqDiff]
  refine contL_call Try.pl21 ((path w3 3).mono ?_)
  rintro _ w3a ⟨rfl, m1⟩
  simp -implicitDefEqProofs only [go_sem, Nat.reduceEqDiff]
  refine contL_call Try.pl22 ((word_walk w3a (r64 r4)).mono ?_)
  rintro _ w3b ⟨rfl, m2⟩
  simp -implicitDefEqProofs only [go_sem, Nat.reduceEqDiff]
  have m12 := m1.trans m2
  have b2' := (b2.frame f3 fun b hb h => by have := hb.1; have := h.2; omega).frame m12 fun _ _ h => h
  refine contL_call Try.pl20 ((b2'.hold (by simp [I.St.new, I.St.size]) 3 4 (r64 r3)).mono ?_)
  rintro _ w4 ⟨rfl, b4, f4⟩
  have t4 := twins_step (w0 := w) b1' b2 (fun b h h' => by have := h.2; have := h'.1; omega) (fun b h => h.1) (fun b h => Nat.le_trans f1.size h.1) (f1.trans f2) b3 f3 m12 b4 f4
  have z1 := I.size_hold (I.St.new a0) 3 4
  have z3 : (I.St.new a0).size = 0 := by simp [I.St.new, I.St.size]
  have hin : ((I.St.new a0).hold 3 4).In := I.St.In.hold (s := I.St.new a0) (fun p hp => by cases hp) r3 r4
  have hgot : ((I.St.new a0).hold 3 4).got 3 = (4, true) := by simp [I.St.hold, I.St.new, I.look, I.St.got]
  have hget : ((I.St.new a0).hold 3 4).get 3 = ((I.St.new a0).hold 3 4).bump 1 := by simp [I.St.hold, I.St.new, I.look, I.St.get, I.St.bump]
  generalize (I.St.new a0).hold 3 4 = g4 at *
  simp -implicitDefEqProofs only [go_sem, Nat.reduceEqDiff]
  obtain ⟨F1, F2, p1, p2, hd, n1, n2, fr⟩ := t4
  refine contL_call Try.pl13 ((p1.get (by omega) 3).mono ?_)
  rintro _ w5 ⟨rfl, p3, e3⟩
  rw [hget] at p3
  rw [hgot]
  simp -implicitDefEqProofs only [go_sem, Nat.reduceEqDiff, Bool.not_true]
  have l2 := p2.lt
  have t5 : Twins w w5 c1 c2 (g4.bump 1) g4 := ⟨I.grown F1 w4 w5, F2, p3, p2.frame e3 (fun b hb h => hd b h hb), fun b hb h => by
    rcases hb with hb | hb
    · exact hd b hb h
    · have := l2 b h; omega, fun b hb => by
    rcases hb with hb | hb
    · exact n1 b hb
    · have := fr.size; omega, n2, fr.trans' e3 fun b hb h => by have := n1 b h; omega⟩
  have bld : bldO Try.prog 47 [(0, .int .i64 2), (2, .int .i64 3)] = some (opV 2 0 3 0) := by
    unfold bldO; rw [Try.zero47, Try.places47]; rfl
  simp -implicitDefEqProofs only [go_sem, Nat.reduceEqDiff, bld]
  refine contL_call Try.pl23 ((twin_true t5 hin (by omega) (by omega) (kd := 2) (c := 0) (k := 3) (v := 0) r3 (by unfold R64; omega)).mono ?_)
  rintro _ w6 ⟨rfl, g6, t6, in6, z6⟩
  simp -implicitDefEqProofs only [go_sem, Nat.reduceEqDiff, Bool.not_true]
  obtain ⟨base, cap, rfl, hops⟩ := hv
  refine loopD [0, 1, 5, 6, 9] (twinsI w a0 (.slice base n cap) n c1 c2) n ⟨0, g6, by simp [upd], by omega, by omega, t6, in6, by omega⟩ ?_
  rintro m vs w7 g0 ⟨i, g, rfl, rfl, hi, t7, in7, hs7⟩
  by_cases hlt : i < n
  · have i1 : 0 ≤ (i : Int) := by omega
    have i2 : (i : Int) < (n : Int) := by omega
    obtain ⟨b, o, kd, c, k, x, rfl, hb, hop, _, _, hk, hx⟩ := hops i hlt
    have fr6 : Fr (fun _ => False) w w7 := by obtain ⟨_, _, _, _, _, _, _, h⟩ := t7; exact h
    rw [← I.rd_frame fr6 hb] at hop
    have q1 : IntKind.i64.wrap ((i : Int) + 1) = ((i + 1 : Nat) : Int) := by rw [wrap64_id (by omega) (by omega)]; rfl
    simp -implicitDefEqProofs only [go_sem, Nat.reduceEqDiff, decide_true, i1, i2, and_self, Int.toNat_natCast, hop]
    refine contL_call Try.pl23 ((twin_true t7 in7 (by omega) (by omega) hk hx).mono ?_)
    rintro _ w8 ⟨rfl, g', t8, in8, z8⟩
    simp -implicitDefEqProofs only [go_sem, Nat.reduceEqDiff, Bool.not_true, q1]
    exact ⟨n - (i + 1), by omega, i + 1, g', rfl, rfl, by omega, t8, in8, by omega⟩
  · have hd2 : decide ((i : Int) < (n : Int)) = false := by simp; omega
    simp -implicitDefEqProofs only [go_sem, Nat.reduceEqDiff, hd2]
    obtain ⟨G1, G2, v1, v2, hd6, k1, k2, fr6⟩ := t7
    unfold I.St.size at hs7
    refine contL_call Try.pl11 (v1.tally.mono ?_)
    rintro _ w8 ⟨rfl, e8⟩
    have v3 := v2.frame e8 fun _ _ h => h
    have ta := I.tally_wr w8 (g.bump 1).hits (g.bump 1).misses (g.bump 1).gone (g.bump 1).clean.length (g.bump 1).kept.length
    simp -implicitDefEqProofs only [go_sem, Nat.reduceEqDiff, ta]
    have e9 : Fr (fun _ => False) w8 (I.tallyW w8 (g.bump 1).hits (g.bump 1).misses (g.bump 1).gone (g.bump 1).clean.length (g.bump 1).kept.length) := I.tally_fr (Fr.refl _ _) _ _ _ _ _
    have k9 := I.tally_blk w8 (g.bump 1).hits (g.bump 1).misses (g.bump 1).gone (g.bump 1).clean.length (g.bump 1).kept.length
    generalize hw9 : I.tallyW w8 (g.bump 1).hits (g.bump 1).misses (g.bump 1).gone (g.bump 1).clean.length (g.bump 1).kept.length = w9 at *
    have v4 := v3.frame e9 fun _ _ h => h
    refine contL_call Try.pl24 (v4.tally.mono ?_)
    rintro _ w10 ⟨rfl, e10⟩
    have tb := I.tally_wr w10 g.hits g.misses g.gone g.clean.length g.kept.length
    have e11 : Fr (fun _ => False) w10 (I.tallyW w10 g.hits g.misses g.gone g.clean.length g.kept.length) := I.tally_fr (Fr.refl _ _) _ _ _ _ _
    have kB := I.tally_blk w10 g.hits g.misses g.gone g.clean.length g.kept.length
    have kA := (e11.blk _ (by have := e10.size; have := heap_lt k9; omega) id).trans ((e10.blk _ (heap_lt k9) id).trans k9)
    have hAB : w8.heap.size ≠ w10.heap.size := by have := e10.size; have := heap_lt k9; omega
    generalize hw11 : I.tallyW w10 g.hits g.misses g.gone g.clean.length g.kept.length = w11 at *
    have hlA := heap_lt kA
    have rA := (I.tally_at kA).1
    have sub1 : IntKind.i64.wrap (((g.bump 1).hits : Int) - 1) = (g.hits : Int) := by
      rw [wrap64_id (by simp only [St.bump]; omega) (by simp only [St.bump]; omega)]; simp only [St.bump]; omega
    have wA := wr_cv (P := Try.prog) (t := 3) (v := .int .i64 (g.hits : Int)) Try.sz3 rfl (cv_of_row (o := 0) kA)
    rw [setc_row _ kA] at wA
    have rAll := rd_all (P := Try.prog) (t := 27) (vs := #[.int .i64 g.hits, .int .i64 g.misses, .int .i64 g.gone, .int .i64 g.clean.length, .int .i64 g.kept.length]) Try.agg27 Try.sz27 (blk_put_same (w := w11) (.cells #[.int .i64 g.hits, .int .i64 g.misses, .int .i64 g.gone, .int .i64 g.clean.length, .int .i64 g.kept.length] 27 (0, 0)) hlA)
    have wA' : wrO Try.prog 3 w11 w8.heap.size 0 (.int .i64 (g.hits : Int)) = some (put w11 w8.heap.size (.cells #[.int .i64 g.hits, .int .i64 g.misses, .int .i64 g.gone, .int .i64 g.clean.length, .int .i64 g.kept.length] 27 (0, 0))) := wA
    have rBll := rd_all (P := Try.prog) (t := 27) (vs := #[.int .i64 g.hits, .int .i64 g.misses, .int .i64 g.gone, .int .i64 g.clean.length, .int .i64 g.kept.length]) Try.agg27 Try.sz27 ((blk_put_ne (w := w11) (.cells #[.int .i64 g.hits, .int .i64 g.misses, .int .i64 g.gone, .int .i64 g.clean.length, .int .i64 g.kept.length] 27 (0, 0)) hAB).trans kB)
    have eq27 := eqV27 9998 g.hits g.misses g.gone g.clean.length g.kept.length
    rw [show 9998 + 2 = Op.maxDepth from rfl] at eq27
    simp only [I.tallyV] at eq27
    have e12 : Fr (fun _ => False) w8 (put w11 w8.heap.size (.cells #[.int .i64 g.hits, .int .i64 g.misses, .int .i64 g.gone, .int .i64 g.clean.length, .int .i64 g.kept.length] 27 (0, 0))) :=
      ((e9.trans e10).trans e11).put (b := w8.heap.size) _ fun h => absurd h (Nat.lt_irrefl _)
    simp -implicitDefEqProofs only [go_sem, Nat.reduceEqDiff, tb, rA, sub1, wA', rAll, rBll, eq27, List.getElem?_toArray, List.getElem?_cons_zero, List.getElem?_cons_succ, beq_self_eq_true, tf_beq, ft_beq, Bool.not_true, Bool.false_eq_true, if_false, if_true]
    generalize put w11 w8.heap.size (.cells #[.int .i64 g.hits, .int .i64 g.misses, .int .i64 g.gone, .int .i64 g.clean.length, .int .i64 g.kept.length] 27 (0, 0)) = w12 at *
    have e8' := e8.trans e12
    have v5 := v1.frame e8' fun _ _ h => h
    have v6 := v2.frame e8' fun _ _ h => h
    refine contL_call Try.pl12 ((v5.keys (by have := v2.ok.fit; show g.clean.length < _; omega)).mono ?_)
    rintro y w13 ⟨y1, e13, _⟩
    have v7 := v6.frame e13 fun _ _ h => h
    simp -implicitDefEqProofs only [go_sem, Nat.reduceEqDiff, List.getElem?_toArray, List.getElem?_cons_zero, List.getElem?_cons_succ, beq_self_eq_true, tf_beq, ft_beq, Bool.not_true, Bool.false_eq_true, if_false, if_true]
    refine contL_call Try.pl26 ((v7.keys (by omega)).mono ?_)
    rintro z w14 ⟨z1, e14, _⟩
    simp -implicitDefEqProofs only [go_sem, Nat.reduceEqDiff, List.getElem?_toArray, List.getElem?_cons_zero, List.getElem?_cons_succ, beq_self_eq_true, tf_beq, ft_beq, Bool.not_true, Bool.false_eq_true, if_false, if_true]
    have in1 := (I.OwnS.ints y1).frame e14
    have in2 := OwnS.keys z1
    have hr1 : ∀ k ∈ g.clean.reverse.map (·.1), InR k := fun k hk => by
      obtain ⟨p, hp, rfl⟩ := List.mem_map.1 hk
      exact (in7 p (by simp at hp; simp [hp])).1
    refine contL_call Try.pl25 ((paths_true in1 in2 hr1 (by rw [List.length_map, List.length_reverse]; show g.clean.length < _; omega)).mono ?_)
    rintro _ w15 ⟨rfl, e15⟩
    simp -implicitDefEqProofs only [go_sem, Nat.reduceEqDiff, List.getElem?_toArray, List.getElem?_cons_zero, List.getElem?_cons_succ, beq_self_eq_true, tf_beq, ft_beq, Bool.not_true, Bool.false_eq_true, if_false, if_true]
    have e135 := (e13.trans e14).trans e15
    have v8 := v5.frame e135 fun _ _ h => h
    have v9 := v6.frame e135 fun _ _ h => h
    refine contL_call Try.pl27 ((v8.held (by show g.kept.length < _; omega)).mono ?_)
    rintro y' w16 ⟨y2, e16, _⟩
    have v10 := v9.frame e16 fun _ _ h => h
    simp -implicitDefEqProofs only [go_sem, Nat.reduceEqDiff, List.getElem?_toArray, List.getElem?_cons_zero, List.getElem?_cons_succ, beq_self_eq_true, tf_beq, ft_beq, Bool.not_true, Bool.false_eq_true, if_false, if_true]
    refine contL_call Try.pl28 ((v10.held (by omega)).mono ?_)
    rintro z' w17 ⟨z2, e17, _⟩
    simp -implicitDefEqProofs only [go_sem, Nat.reduceEqDiff, List.getElem?_toArray, List.getElem?_cons_zero, List.getElem?_cons_succ, beq_self_eq_true, tf_beq, ft_beq, Bool.not_true, Bool.false_eq_true, if_false, if_true]
    have in3 := (I.OwnS.ints y2).frame e17
    have in4 := OwnS.keys z2
    have hr2 : ∀ k ∈ g.kept.map (·.1), InR k := fun k hk => by
      obtain ⟨p, hp, rfl⟩ := List.mem_map.1 hk
      exact (in7 p (by simp [hp])).1
    refine contL_call Try.pl25 ((paths_true in3 in4 hr2 (by rw [List.length_map]; show g.kept.length < _; omega)).mono ?_)
    rintro _ w18 ⟨rfl, e18⟩
    simp -implicitDefEqProofs only [go_sem, Nat.reduceEqDiff, List.getElem?_toArray, List.getElem?_cons_zero, List.getElem?_cons_succ, beq_self_eq_true, tf_beq, ft_beq, Bool.not_true, Bool.false_eq_true, if_false, if_true]
    exact fr6.trans (e8'.trans (e135.trans ((e16.trans e17).trans e18)))
end S
end Go.V
