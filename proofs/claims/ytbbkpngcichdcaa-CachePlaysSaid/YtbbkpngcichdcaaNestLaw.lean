/-
  The walk of the law CacheNested.
-/
import Derived.Test.YtbbkpngcichdcaaNested
namespace Go.V
open Go.Proofs
set_option maxRecDepth 100000
namespace I
def R64 (n : Int) : Prop := -9223372036854775808 ≤ n ∧ n ≤ 9223372036854775807
/-- a script in memory -/
def Script (w : World) (v : Value) (n : Nat) : Prop :=
  ∃ base cap, v = .slice base n cap ∧ ∀ i, i < n → ∃ b o kd c k x, base = some ⟨b, o, none⟩ ∧ b < w.heap.size ∧ rdO Try.prog 47 w b (o + i * 4) = some (opV kd c k x) ∧ R64 kd ∧ R64 c ∧ R64 k ∧ R64 x
theorem rd_frame {t : TypeId} {w w' : World} (f : Fr (fun _ => False) w w') {b o : Nat} (hb : b < w.heap.size) : rdO Try.prog t w' b o = rdO Try.prog t w b o := by
  unfold rdO; rw [f.blk b hb id]
def nestI (w0 : World) (a0 a1 : Int) (v : Value) (n c1 c2 r1 r2 : Nat) (m : Nat) (vs : List Value) (w : World) : Prop :=
  ∃ i s g, vs = [.int .i64 a0, .int .i64 a1, v, ptr (c1, 0), ptr (c2, 0), .int .i64 (i : Nat)] ∧ m = n - i ∧ i ≤ n ∧ Two w0 w c1 c2 s g ∧ Nest s g ∧ s.size ≤ 2 + i ∧ g.size ≤ 2 + i ∧ s.room = r1 ∧ g.room = r2
set_option maxHeartbeats 4000000 in
theorem nestLaw {w : World} {v : Value} {n : Nat} (hv : Script w v n) (hn : n ≤ 4398046511104) (a0 a1 : Int) :
    Fn Try.prog 8 #[.int .i64 a0, .int .i64 a1, v] w fun x w' => x = .bool true ∧ Fr (fun _ => False) w w' := by
  refine Try.go8 (by simp) ?_
  by_cases k1 : a0 < 0
  · have d1 : decide (a0 < 0) = true := by simp [k1]
    simp -implicitDefEqProofs only [go_sem, Nat.reduceEqDiff, Try.f8, d1]
    exact ⟨trivial, Fr.refl _ _⟩
  have d1 : decide (a0 < 0) = false := by simp; omega
  by_cases k2 : a1 < 0
  · have d2 : decide (a1 < 0) = true := by simp [k2]
    simp -implicitDefEqProofs only [go_sem, Nat.reduceEqDiff, Try.f8, d1, d2]
    exact ⟨trivial, Fr.refl _ _⟩
  have d2 : decide (a1 < 0) = false := by simp; omega
  by_cases k3 : a0 > 4096
  · have d3 : decide (a0 > 4096) = true := by simp; omega
    simp -implicitDefEqProofs only [go_sem, Nat.reduceEqDiff, Try.f8, d1, d2, d3]
    exact ⟨trivial, Fr.refl _ _⟩
  have d3 : decide (a0 > 4096) = false := by simp; omega
  by_cases k4 : a1 > 4096
  · have d4 : decide (a1 > 4096) = true := by simp; omega
    simp -implicitDefEqProofs only [go_sem, Nat.reduceEqDiff, Try.f8, d1, d2, d3, d4]
    exact ⟨trivial, Fr.refl _ _⟩
  have d4 : decide (a1 > 4096) = false := by simp; omega
  have s1 : IntKind.i64.wrap (a0 + a1) = a0 + a1 := wrap64_id (by omega) (by omega)
  simp -implicitDefEqProofs only [go_sem, Nat.reduceEqDiff, Nat.reduceAdd, Try.f8, d1, d2, d3, d4]
  refine contL_call Try.pl9 ((Box.new w a0).mono ?_)
  rintro _ w1 ⟨c1, rfl, b1, f1⟩
  simp -implicitDefEqProofs only [go_sem, Nat.reduceEqDiff, s1]
  refine contL_call Try.pl9 ((Box.new w1 (a0 + a1)).mono ?_)
  rintro _ w2 ⟨c2, rfl, b2, f2⟩
  simp -implicitDefEqProofs only [go_sem, Nat.reduceEqDiff]
  have b1' := b1.frame f2 fun _ _ h => h
  refine contL_call Try.pl19 ((b1'.hold (by simp [St.new, St.size]) 5 6).mono ?_)
  rintro _ w3 ⟨rfl, b3, f3⟩
  have b2' := b2.frame f3 fun b hb h => by have := hb.1; have := h.2; omega
  simp -implicitDefEqProofs only [go_sem, Nat.reduceEqDiff]
  refine contL_call Try.pl19 ((b2'.hold (by simp [St.new, St.size]) 5 6).mono ?_)
  rintro _ w4 ⟨rfl, b4, f4⟩
  have t4 := two_step (w0 := w) b1' b2 (fun b h h' => by have := h.2; have := h'.1; omega) (fun b h => h.1) (fun b h => Nat.le_trans f1.size h.1) (f1.trans f2) b3 f3 b4 f4
  have hn4 := (Nest.new (a := a0) (b := a0 + a1) (by omega)).hold b1.ok b2.ok 5 6
  have z1 := size_hold (St.new a0) 5 6
  have z2 := size_hold (St.new (a0 + a1)) 5 6
  have z3 : (St.new a0).size = 0 := by simp [St.new, St.size]
  have z4 : (St.new (a0 + a1)).size = 0 := by simp [St.new, St.size]
  have y1 : ((St.new a0).hold 5 6).room = (St.new a0).room := room_hold _ _ _
  have y2 : ((St.new (a0 + a1)).hold 5 6).room = (St.new (a0 + a1)).room := room_hold _ _ _
  have hgot : ((St.new a0).hold 5 6).got 5 = (6, true) := by simp [St.hold, St.new, look, St.got]
  have hget : ((St.new a0).hold 5 6).get 5 = { (St.new a0).hold 5 6 with hits := ((St.new a0).hold 5 6).hits + 1 } := by simp [St.hold, St.new, look, St.get]
  generalize (St.new a0).hold 5 6 = s4 at *
  generalize (St.new (a0 + a1)).hold 5 6 = g4 at *
  simp -implicitDefEqProofs only [go_sem, Nat.reduceEqDiff]
  obtain ⟨F1, F2, p1, p2, hd, n1, n2, fr⟩ := t4
  refine contL_call Try.pl13 ((p1.get (by omega) 5).mono ?_)
  rintro _ w5 ⟨rfl, p3, e3⟩
  rw [hgot]
  simp -implicitDefEqProofs only [go_sem, Nat.reduceEqDiff, Bool.not_true]
  have l2 := p2.lt
  have t5 : Two w w5 c1 c2 (s4.get 5) g4 := ⟨grown F1 w4 w5, F2, p3, p2.frame e3 (fun b hb h => hd b h hb), fun b hb h => by
    rcases hb with hb | hb
    · exact hd b hb h
    · have := l2 b h; omega, fun b hb => by
    rcases hb with hb | hb
    · exact n1 b hb
    · have := fr.size; omega, n2, fr.trans' e3 fun b hb h => by have := n1 b h; omega⟩
  have hn5 : Nest (s4.get 5) g4 := by rw [hget]; exact ⟨hn4.kept, hn4.sub, hn4.room, hn4.diff⟩
  have z5 := size_get s4 5
  have y5 : (s4.get 5).room = s4.room := room_get _ _
  obtain ⟨base, cap, rfl, hops⟩ := hv
  refine loopD [0, 1, 2, 7, 8, 11] (nestI w a0 a1 (.slice base n cap) n c1 c2 (St.new a0).room (St.new (a0 + a1)).room) n ⟨0, s4.get 5, g4, by simp [upd], by omega, by omega, t5, hn5, by omega, by omega, y5.trans y1, y2⟩ ?_
  rintro m vs w6 g0 ⟨i, s, g, rfl, rfl, hi, t6, hn6, hs6, hg6, hr1, hr2⟩
  by_cases hlt : i < n
  · have i1 : 0 ≤ (i : Int) := by omega
    have i2 : (i : Int) < (n : Int) := by omega
    obtain ⟨b, o, kd, c, k, x, rfl, hb, hop, -⟩ := hops i hlt
    have fr6 : Fr (fun _ => False) w w6 := by obtain ⟨_, _, _, _, _, _, _, h⟩ := t6; exact h
    rw [← rd_frame fr6 hb] at hop
    have q1 : IntKind.i64.wrap ((i : Int) + 1) = ((i + 1 : Nat) : Int) := by rw [wrap64_id (by omega) (by omega)]; rfl
    simp -implicitDefEqProofs only [go_sem, Nat.reduceEqDiff, decide_true, i1, i2, and_self, Int.toNat_natCast, hop]
    refine contL_call Try.pl29 ((nested_true t6 hn6 (by omega) (by omega) kd c k x).mono ?_)
    rintro _ w7 ⟨rfl, s', g', t7, hn7, u1, u2, u3, u4⟩
    simp -implicitDefEqProofs only [go_sem, Nat.reduceEqDiff, Bool.not_true, q1]
    exact ⟨n - (i + 1), by omega, i + 1, s', g', rfl, rfl, by omega, t7, hn7, by omega, by omega, u3.trans hr1, u4.trans hr2⟩
  · have hd2 : decide ((i : Int) < (n : Int)) = false := by simp; omega
    simp -implicitDefEqProofs only [go_sem, Nat.reduceEqDiff, hd2]
    obtain ⟨G1, G2, v1, v2, hd6, m1, m2, fr6⟩ := t6
    have ok1 := v1.ok
    have ok2 := v2.ok
    unfold St.size at hs6 hg6
    have hr1' : s.room = (min a0.toNat 4096) := hr1
    have hr2' : g.room = (min (a0 + a1).toNat 4096) := hr2
    have le1 : decide ((s.clean.length : Int) ≤ a0) = true := by have := ok1.fit; simp; omega
    have le2 : decide ((g.clean.length : Int) ≤ a0 + a1) = true := by have := ok2.fit; simp; omega
    refine contL_call Try.pl12 ((v1.keys (by omega)).mono ?_)
    rintro y w7 ⟨y1, e7, _⟩
    have v3 := v2.frame e7 fun _ _ h => h
    simp -implicitDefEqProofs only [go_sem, Nat.reduceEqDiff]
    refine contL_call Try.pl12 ((v3.keys (by omega)).mono ?_)
    rintro z w8 ⟨z1, e8, _⟩
    have in1 := OwnS.ints y1 |>.frame e8
    have in2 := OwnS.ints z1
    have in1' := in1
    have in2' := in2
    obtain ⟨ybase, ycap, hy, _⟩ := in1'
    obtain ⟨zbase, zcap, hz, _⟩ := in2'
    have len1 : (s.clean.reverse.map (·.1)).length = s.clean.length := by simp
    have len2 : (g.clean.reverse.map (·.1)).length = g.clean.length := by simp
    rw [len1] at hy
    rw [len2] at hz
    subst hy
    subst hz
    have bd1 : (s.clean.reverse.map (·.1)).length < 4611686018427387904 := by rw [len1]; omega
    have bd2 : (g.clean.reverse.map (·.1)).length < 4611686018427387904 := by rw [len2]; omega
    have sub : ∀ q ∈ s.clean.reverse.map (·.1), q ∈ g.clean.reverse.map (·.1) := fun q hq => by
      rw [List.map_reverse, List.mem_reverse] at hq ⊢
      exact (hn6.sub.map _).subset hq
    have wt := within_true in1 in2 sub bd1 bd2
    simp -implicitDefEqProofs only [go_sem, Nat.reduceEqDiff, s1, le1, le2]
    refine contL_call Try.pl30 (wt.mono ?_)
    rintro _ w9 ⟨rfl, e9⟩
    have v4 := (v1.frame ((e7.trans e8).trans e9) fun _ _ h => h)
    have v5 := (v2.frame ((e7.trans e8).trans e9) fun _ _ h => h)
    simp -implicitDefEqProofs only [go_sem, Nat.reduceEqDiff]
    refine contL_call Try.pl27 ((v4.held (by omega)).mono ?_)
    rintro y' w10 ⟨y2, e10, _⟩
    have v6 := v5.frame e10 fun _ _ h => h
    simp -implicitDefEqProofs only [go_sem, Nat.reduceEqDiff]
    refine contL_call Try.pl27 ((v6.held (by omega)).mono ?_)
    rintro z' w11 ⟨z2, e11, _⟩
    simp -implicitDefEqProofs only [go_sem, Nat.reduceEqDiff]
    rw [hn6.kept] at y2
    have bd3 : (g.kept.map (·.1)).length < 4611686018427387904 := by rw [List.length_map]; omega
    have st := same_true ((OwnS.ints y2).frame e11) (OwnS.ints z2) bd3
    refine contL_call Try.pl31 (st.mono ?_)
    rintro _ w12 ⟨rfl, e12⟩
    have v7 := v4.frame ((e10.trans e11).trans e12) fun _ _ h => h
    simp -implicitDefEqProofs only [go_sem, Nat.reduceEqDiff]
    refine contL_call Try.pl11 (v7.tally.mono ?_)
    rintro _ w13 ⟨rfl, e13⟩
    have fin := (((((fr6.trans e7).trans e8).trans e9).trans e10).trans e11).trans (e12.trans e13)
    simp -implicitDefEqProofs only [go_sem, Nat.reduceEqDiff, tallyV, partO]
    exact ⟨trivial, fin⟩
end I
end Go.V
