/-
  crc: the walk of feed, Update, Sum, Whole.
-/
import Derived.Test.YtbnabmpchhmckaaGreatDoorATab
import Derived.Test.YtbnabmpchhmckaaGreatDoorLibT
import Derived.Test.YtbnabmpchhmckaaGreatDoorLibM
import Derived.Test.YtbnabmpchhmckaaGreatDoorLibQ
namespace Go.V
open Go.Proofs
set_option maxRecDepth 100000
def crcT : List W32 := [0, 498536548, 997073096, 651767980, 1994146192, 1802195444, 1303535960, 1342533948, 3988292384, 4027552580, 3604390888, 3412177804, 2607071920, 2262029012, 2685067896, 3183342108]
def crcA : Array Value := (crcT.map u32).toArray
theorem bldCrc : bldO Tryz.prog 144 [(0, .int .u32 0), (1, .int .u32 498536548), (2, .int .u32 997073096), (3, .int .u32 651767980), (4, .int .u32 1994146192), (5, .int .u32 1802195444), (6, .int .u32 1303535960), (7, .int .u32 1342533948), (8, .int .u32 3988292384), (9, .int .u32 4027552580), (10, .int .u32 3604390888), (11, .int .u32 3412177804), (12, .int .u32 2607071920), (13, .int .u32 2262029012), (14, .int .u32 2685067896), (15, .int .u32 3183342108)] = some (.agg crcA) := by
  unfold bldO; rw [Tryz.zero144, Tryz.places144, Tryz.arr144]; simp only [Option.bind_some, Tryz.sz98]; rfl
def crcStep (r : W32) : W32 := crcT.getD (r &&& 15#32).toNat 0 ^^^ (r >>> 4)
def crcByte (r : W32) (x : Byte) : W32 := crcStep (crcStep (r ^^^ x.setWidth 32))
def crcFeed (r : W32) (bs : List Byte) : W32 := bs.foldl crcByte r
theorem crcA_get {i : Nat} (h : i < 16) : crcA[i]? = some (u32 (crcT.getD i 0)) := by
  have : crcT.length = 16 := rfl
  simp [crcA, h, this]
theorem and15 (r : W32) : (r &&& 15#32).toNat < 16 := by
  rw [BitVec.toNat_and]
  exact Nat.lt_of_le_of_lt Nat.and_le_right (by decide)
def feedI (w0 : World) (r : W32) (a : Option Addr) (cap : Nat) (bs : List Byte) (m : Nat) (vs : List Value) (w : World) : Prop :=
  ∃ (i : Nat) (y : Value), vs = [u32 (crcFeed r (bs.take i)), pt w0.heap.size 0, y, .slice a bs.length cap, .int .i64 bs.length, .int .i64 i] ∧ i ≤ bs.length ∧ m = bs.length - i ∧ w.heap[w0.heap.size]? = some (.cells crcA 144 (0, 0)) ∧ No w0 w
set_option maxHeartbeats 1000000 in
theorem feed (w : World) (r : W32) {p : Value} {bs : List Byte} (hp : By w p bs) (hl : bs.length < 2 ^ 62) :
    Fn Tryz.prog 67 #[u32 r, p] w fun v w' => v = u32 (crcFeed r bs) ∧ No w w' := by
  obtain ⟨a, cap, rfl, hcap, hat⟩ := hp.at
  refine Tryz.go67 (by simp) ?_
  have q0 : wrO Tryz.prog 144 (w.alloc (.cells (Array.replicate 16 (.int .u32 0)) 144)) w.heap.size 0 (.agg crcA) = some (put (w.alloc (.cells (Array.replicate 16 (.int .u32 0)) 144)) w.heap.size (.cells crcA 144 (0, 0))) :=
    wr_all (by rw [Tryz.sz144]; rfl) (alloc_blk_new _ _) rfl (by rw [← Array.all_toList]; rfl)
  generalize hW : put (w.alloc (.cells (Array.replicate 16 (.int .u32 0)) 144)) w.heap.size (.cells crcA 144 (0, 0)) = W at q0
  have hb : W.heap[w.heap.size]? = some (.cells crcA 144 (0, 0)) := by
    rw [← hW]; exact blk_put_same _ (by rw [alloc_heap_size]; omega)
  have fr : No w W := by rw [← hW]; exact ((Fr.refl _ _).alloc _).put (b := w.heap.size) _ fun h => absurd h (Nat.lt_irrefl _)
  simp -implicitDefEqProofs only [go_sem, Nat.reduceEqDiff, Tryz.f67, bldCrc, Value.cells, q0]
  refine loopD [0, 5, 7, 9, 10, 11] (feedI w r a cap bs) bs.length ⟨0, undef, by simp [upd, crcFeed, ev0], by omega, by omega, hb, fr⟩ ?_
  rintro m vs w1 g ⟨i, y, rfl, hi, rfl, hA, fr⟩
  by_cases hlt : i < bs.length
  · have d1 : decide ((i : Int) < (bs.length : Int)) = true := by simp; omega
    obtain ⟨b, o, rfl, hb1⟩ := hat i hlt
    have c2 : IntKind.i64.wrap ((i : Int) + 1) = ((i + 1 : Nat) : Int) := by rw [wrap64_id (by omega) (by omega)]; rfl
    have i1 : (0 : Int) ≤ (i : Int) ∧ (i : Int) < (bs.length : Int) := by omega
    rw [← fr.rc (rc_lt hb1) id] at hb1
    have r1 : rdO Tryz.prog 5 w1 b (o + i) = some (u8 bs[i]) := rd_rc Tryz.agg5 hb1
    generalize hx : crcFeed r (bs.take i) = x
    have e15 : ∀ z : W32, andK .u32 (z.toNat : Int) 15 = ((z &&& 15#32).toNat : Int) := fun z => and32n z 15
    have t1 : ∀ z : W32, (0 : Int) ≤ ((z &&& 15#32).toNat : Int) ∧ ((z &&& 15#32).toNat : Int) < ((16 : Nat) : Int) := fun z => by have := and15 z; omega
    have r2 : ∀ z : W32, rdO Tryz.prog 98 w1 w.heap.size (z &&& 15#32).toNat = some (u32 (crcT.getD (z &&& 15#32).toNat 0)) := fun z =>
      rd_rc Tryz.agg98 (by rw [rc_of_row hA]; exact crcA_get (and15 z))
    have s4 : ∀ z : W32, shrK .u32 (z.toNat : Int) 4 = ((z >>> 4).toNat : Int) := fun z => shr32 z 4 (by omega)
    simp -implicitDefEqProofs only [go_sem, Nat.reduceEqDiff, d1, i1, and_self, Int.toNat_natCast, Nat.mul_one, r1, ext8, xor32, e15, t1, r2, s4, Int.reduceLT, c2]
    refine ⟨bs.length - (i + 1), by omega, i + 1, u8 bs[i], ?_, by omega, rfl, hA, fr⟩
    have e : crcFeed r (bs.take (i + 1)) = crcByte x bs[i] := by
      rw [← hx, crcFeed, List.take_succ_eq_append_getElem hlt, List.foldl_append]; rfl
    rw [e]; rfl
  · have d1 : decide ((i : Int) < (bs.length : Int)) = false := by simp; omega
    have e : i = bs.length := by omega
    subst e
    simp -implicitDefEqProofs only [go_sem, Nat.reduceEqDiff, d1]
    exact ⟨by rw [List.take_length], fr⟩
def crcUpd (c : W32) (bs : List Byte) : W32 := ~~~ crcFeed (~~~ c) bs
theorem update (w : World) (c : W32) {p : Value} {bs : List Byte} (hp : By w p bs) (hl : bs.length < 2 ^ 62) :
    Fn Tryz.prog 58 #[u32 c, p] w fun v w' => v = u32 (crcUpd c bs) ∧ No w w' := by
  refine Tryz.go58 (by simp) ?_
  simp -implicitDefEqProofs only [go_sem, Nat.reduceEqDiff, Tryz.f58, not32]
  refine contL_call Tryz.pl67 ((feed w (~~~ c) hp hl).mono ?_); rintro _ w' ⟨rfl, fr⟩
  simp -implicitDefEqProofs only [go_sem, Nat.reduceEqDiff, not32]
  exact ⟨rfl, fr⟩
theorem sum (w : World) {p : Value} {bs : List Byte} (hp : By w p bs) (hl : bs.length < 2 ^ 62) :
    Fn Tryz.prog 50 #[p] w fun v w' => v = u32 (crcUpd 0 bs) ∧ No w w' := by
  refine Tryz.go50 (by simp) ?_
  simp -implicitDefEqProofs only [go_sem, Nat.reduceEqDiff, Tryz.f50]
  refine contL_call Tryz.pl58 ((update w 0 hp hl).mono ?_); rintro _ w' ⟨rfl, fr⟩
  simp -implicitDefEqProofs only [go_sem, Nat.reduceEqDiff]
  exact fr
theorem ft_beq : (false == true) = false := rfl
theorem tf_beq : (true == false) = false := rfl
def sealB (s : W32) : List Byte := [s.setWidth 8, (s >>> 8).setWidth 8, (s >>> 16).setWidth 8, (s >>> 24).setWidth 8]
set_option maxHeartbeats 1000000 in
theorem whole (w : World) {p : Value} {bs : List Byte} (hp : By w p bs) (hl : bs.length < 2 ^ 62) (h4 : 4 ≤ bs.length) :
    Fn Tryz.prog 39 #[p] w fun v w' => v = .bool (let n := bs.length - 4; let c := crcUpd 0 (bs.take n);
      bs.getD n 0 == c.setWidth 8 && bs.getD (n + 1) 0 == (c >>> 8).setWidth 8 && bs.getD (n + 2) 0 == (c >>> 16).setWidth 8 && bs.getD (n + 3) 0 == (c >>> 24).setWidth 8) ∧ No w w' := by
  obtain ⟨a, cap, rfl, hcap, hat⟩ := hp.at
  refine Tryz.go39 (by simp) ?_
  have c1 : IntKind.i64.wrap ((bs.length : Int) - 4) = ((bs.length - 4 : Nat) : Int) := by rw [wrap64_id (by omega) (by omega)]; omega
  have d1 : decide (((bs.length - 4 : Nat) : Int) < 0) = false := by simp
  have sb : sbO (.int .i64 ((bs.length - 4 : Nat) : Int)) cap = some (bs.length - 4) := by
    simp only [sbO]; rw [if_pos (by omega), Int.toNat_natCast]
  simp -implicitDefEqProofs only [go_sem, Nat.reduceEqDiff, Tryz.f39, c1, d1, sliceP, optB, sb, Nat.sub_zero]
  refine contL_call Tryz.pl50 ((sum w (By.cut hp (Nat.zero_le _) (show bs.length - 4 ≤ bs.length by omega) rfl _ rfl) (by rw [List.length_take]; omega)).mono ?_); rintro _ w1 ⟨rfl, fr⟩
  simp only [List.drop_zero, Nat.sub_zero]
  generalize crcUpd 0 (bs.take (bs.length - 4)) = c
  have at' : ∀ j, j < 4 → ∃ b o, a = some ⟨b, o, none⟩ ∧ rdO Tryz.prog 5 w1 b (o + (bs.length - 4 + j)) = some (u8 (bs.getD (bs.length - 4 + j) 0)) := fun j hj => by
    obtain ⟨b, o, rfl, h⟩ := hat (bs.length - 4 + j) (by omega)
    rw [getD_lt 0 (show bs.length - 4 + j < bs.length by omega)]
    exact ⟨b, o, rfl, rd_rc Tryz.agg5 (by rw [fr.rc (rc_lt h) id]; exact h)⟩
  obtain ⟨b, o, rfl, r0⟩ := at' 0 (by omega)
  obtain ⟨b1, o1, e1, r1⟩ := at' 1 (by omega); cases e1
  obtain ⟨b2, o2, e2, r2⟩ := at' 2 (by omega); cases e2
  obtain ⟨b3, o3, e3, r3⟩ := at' 3 (by omega); cases e3
  have k1 : IntKind.i64.wrap (((bs.length - 4 : Nat) : Int) + 1) = ((bs.length - 4 + 1 : Nat) : Int) := by rw [wrap64_id (by omega) (by omega)]; omega
  have k2 : IntKind.i64.wrap (((bs.length - 4 : Nat) : Int) + 2) = ((bs.length - 4 + 2 : Nat) : Int) := by rw [wrap64_id (by omega) (by omega)]; omega
  have k3 : IntKind.i64.wrap (((bs.length - 4 : Nat) : Int) + 3) = ((bs.length - 4 + 3 : Nat) : Int) := by rw [wrap64_id (by omega) (by omega)]; omega
  have i0 : (0 : Int) ≤ ((bs.length - 4 : Nat) : Int) ∧ ((bs.length - 4 : Nat) : Int) < (bs.length : Int) := by omega
  have i1 : (0 : Int) ≤ ((bs.length - 4 + 1 : Nat) : Int) ∧ ((bs.length - 4 + 1 : Nat) : Int) < (bs.length : Int) := by omega
  have i2 : (0 : Int) ≤ ((bs.length - 4 + 2 : Nat) : Int) ∧ ((bs.length - 4 + 2 : Nat) : Int) < (bs.length : Int) := by omega
  have i3 : (0 : Int) ≤ ((bs.length - 4 + 3 : Nat) : Int) ∧ ((bs.length - 4 + 3 : Nat) : Int) < (bs.length : Int) := by omega
  rw [Nat.add_zero] at r0
  have s8 : shrK .u32 (c.toNat : Int) 8 = ((c >>> 8).toNat : Int) := shr32 c 8 (by omega)
  have s16 : shrK .u32 (c.toNat : Int) 16 = ((c >>> 16).toNat : Int) := shr32 c 16 (by omega)
  have s24 : shrK .u32 (c.toNat : Int) 24 = ((c >>> 24).toNat : Int) := shr32 c 24 (by omega)
  have h0 := u8_beq (bs.getD (bs.length - 4) 0) (c.setWidth 8)
  have h1 := u8_beq (bs.getD (bs.length - 4 + 1) 0) ((c >>> 8).setWidth 8)
  have h2 := u8_beq (bs.getD (bs.length - 4 + 2) 0) ((c >>> 16).setWidth 8)
  have h3 := u8_beq (bs.getD (bs.length - 4 + 3) 0) ((c >>> 24).setWidth 8)
  generalize bs.getD (bs.length - 4) 0 = y0 at *
  generalize bs.getD (bs.length - 4 + 1) 0 = y1 at *
  generalize bs.getD (bs.length - 4 + 2) 0 = y2 at *
  generalize bs.getD (bs.length - 4 + 3) 0 = y3 at *
  generalize (y0 == c.setWidth 8) = z0 at *
  generalize (y1 == (c >>> 8).setWidth 8) = z1 at *
  generalize (y2 == (c >>> 16).setWidth 8) = z2 at *
  generalize (y3 == (c >>> 24).setWidth 8) = z3 at *
  cases z0 <;> cases z1 <;> cases z2 <;>
  simp -implicitDefEqProofs only [go_sem, Nat.reduceEqDiff, i0, i1, i2, i3, and_self, Int.toNat_natCast, Nat.mul_one, r0, r1, r2, r3, cut32, k1, k2, k3, s8, s16, s24, h0, h1, h2, h3, Int.reduceLT, tf_beq, ft_beq, List.getElem?_toArray, List.getElem?_cons_zero, List.getElem?_cons_succ, beq_self_eq_true, Bool.true_and, Bool.false_and] <;>
  exact fr
end Go.V
