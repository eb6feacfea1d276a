/-
  Helpers: EmpR, BitsW, CommonW.
-/
import Derived.Test.YtmenaeggoakppaaGreatDoorP18
set_option linter.all false
section
namespace Go.V
open Go.Proofs Sha
set_option maxRecDepth 100000
theorem fill_one {z : List Value} (hz : z.length = 32) {c : Array Value} (hc : c.size = 32) {d : List Byte} (hd : d.length = 32) {y : List Value} (hy : y = z) (g : Array Value → Value × World) :
    (Sum.inl (if 1 * 32 ≤ 2 ^ 24 ∧ 0 < 32 ∧ c.size = 32 then Option.map g (Instr.fill (fun i => some (i * 32,32)) (zrow y 1) [(0,dg d)]) else none) : Out) = .inl (some (g (bl d))) := by
  subst hy
  rw [fill_dg hz hd,if_pos ⟨by decide,by decide,hc⟩]; rfl
theorem NwD.one {w0 w : World} {e : Nat} {d : List Byte} (hd : d.length = 32) (f : w0.heap.size ≤ w.heap.size) : NwD w0 (w.alloc (.cells (bl d) e)) e (.slice (some ⟨w.heap.size,0,none⟩) 1 1) [d] := by
  have := mk_nw w0 w e 32 1 1 (bl d) f (by rw [bl_size,hd]) (Nat.le_refl _)
  refine ⟨All32.one hd,?_⟩
  rw [flat_one]
  have e1 : (bl d).toList.take (1 * 32) = d.map u8 := by rw [List.take_of_length_le (by simp [hd])]
  rw [← e1]; exact this
theorem NwD.put {w0 w : World} {e b : Nat} {v : Value} {ds : List (List Byte)} (h : NwD w0 w e v ds) (o : Obj) (hb : ∀ c,blockOf v = some c → c ≠ b) (ho : fzO o = false := by rfl) : NwD w0 (V.put w b o) e v ds :=
  h.fr ((Fr.refl (fun c => c = b) w).put o (fun _ => rfl) ho) fun c hc hcb => hb c hc hcb
namespace R
def epI (w0 : World) (width : Int) (b3 : Nat) (n : Nat) (vs : List Value) (w : World) : Prop :=
  ∃ i v,vs = [.int .i64 width,pt b3 0,v,.int .i64 (i : Nat)] ∧ i ≤ 256 ∧ n = 256 - i ∧ NwD w0 w 23 v (empts width (i + 1)) ∧ w.heap[b3]? = some (.cells (bl (emptD width i)) 23 (0,0)) ∧ w0.heap.size ≤ b3 ∧ (∀ b,blockOf v = some b → b ≠ b3) ∧ No w0 w
theorem empts_succ (width : Int) (n : Nat) : empts width (n + 1) = empts width n ++ [emptD width n] := by simp [empts,List.range_succ]
theorem empts_all (width : Int) (n : Nat) : All32 (empts width n) := fun d hd => by
  obtain ⟨i,_,rfl⟩ := List.mem_map.1 hd; exact emptD_len _ _
set_option maxHeartbeats 1000000 in
theorem empties (w0 : World) (ht : Tabs w0) (width : Int) : Fn Tryz.prog 57 #[.int .i64 width] w0 fun v w' => NwD w0 w' 23 v (empts width 257) ∧ No w0 w' := by
  refine Tryz.go57 (by simp) ?_
  simp -implicitDefEqProofs only [go_sem,Nat.reduceEqDiff,Tryz.f57]
  refine contL_is (v := .slice (some ⟨w0.heap.size,0,none⟩) 1 1) (w' := w0.alloc (.cells (bl [2]) 5)) rfl ?_
  simp -implicitDefEqProofs only [go_sem,Nat.reduceEqDiff]
  have f1 : No w0 (w0.alloc (.cells (bl [2]) 5)) := (Fr.refl _ _).alloc _
  have b1 : NwB w0 (w0.alloc (.cells (bl [2]) 5)) (.slice (some ⟨w0.heap.size,0,none⟩) 1 1) [2] := mk_nw w0 w0 5 1 1 1 (bl [2]) (Nat.le_refl _) rfl (Nat.le_refl _)
  refine contL_call Tryz.pl99 ((rcut _ (ht.no f1) width b1.by (by simp)).mono ?_); rintro _ w2 ⟨rfl,f2⟩
  have he : hcut width [2] = emptD width 0 := rfl
  rw [he]
  have q := wr_d Tryz.sz23 (alloc_blk_new w2 (.cells (bl (List.replicate 32 0)) 23)) zl32 (emptD_len width 0)
  have k3 := put_at (o := .cells (bl (emptD width 0)) 23 (0,0)) (alloc_blk_new w2 (.cells (bl (List.replicate 32 0)) 23))
  have f3 : No w0 (put (w2.alloc (.cells (bl (List.replicate 32 0)) 23)) w2.heap.size (.cells (bl (emptD width 0)) 23 (0,0))) := ((f1.trans f2).alloc _).put (b := w2.heap.size) _ fun h => by have := f1.size; have := f2.size; omega
  have z3 : w0.heap.size ≤ w2.heap.size := (f1.trans f2).size
  have hr := rd_d Tryz.agg23 Tryz.sz23 k3 (emptD_len width 0)
  have hd0 := emptD_len width 0
  simp -implicitDefEqProofs only [go_sem,Nat.reduceEqDiff,Value.cells,bl_zero,q,hr]
  generalize hW3 : put (w2.alloc (.cells (bl (List.replicate 32 0)) 23)) w2.heap.size (.cells (bl (emptD width 0)) 23 (0,0)) = w3 at *
  have hsz : w3.heap.size = w2.heap.size + 1 := by rw [← hW3]; simp [put]
  have hy : List.map u8 (List.replicate 32 0) = List.replicate 32 (u8 0) := List.map_replicate
  refine contL_is (v := .slice (some ⟨w2.heap.size + 1,0,none⟩) 1 1) (w' := w3.alloc (.cells (bl (emptD width 0)) 23)) (fill_one (z := List.replicate 32 (u8 0)) (y := List.map u8 (List.replicate 32 0)) (c := bl (List.replicate 32 0)) List.length_replicate (by rw [bl_size,List.length_replicate]) hd0 hy _) ?_
  have b4 : NwD w0 (w3.alloc (.cells (bl (emptD width 0)) 23)) 23 (.slice (some ⟨w2.heap.size + 1,0,none⟩) 1 1) (empts width (0 + 1)) := by
    rw [← hsz]; exact NwD.one hd0 f3.size
  have f4 := f3.alloc (.cells (bl (emptD width 0)) 23)
  have k4 := alloc_at (o := .cells (bl (emptD width 0)) 23) k3
  generalize w3.alloc (.cells (bl (emptD width 0)) 23) = w4 at *
  simp -implicitDefEqProofs only [go_sem,Nat.reduceEqDiff]
  refine loopD [0,3,4,5] (epI w0 width w2.heap.size) 256 ⟨0,.slice (some ⟨w2.heap.size + 1,0,none⟩) 1 1,rfl,by omega,rfl,b4,k4,z3,fun b hb => by simp only [blockOf,Option.some.injEq] at hb; omega,f4⟩ ?_
  rintro _ vs w5 g ⟨i,v,rfl,hi,rfl,b5,k5,z5,n5,f5⟩
  by_cases hlt : i < 256
  · have d1 : decide ((i : Int) < 256) = true := by simp; omega
    have c1 : IntKind.i64.wrap ((i : Int) + 1) = ((i + 1 : Nat) : Int) := i64add (b := 1) (by omega)
    have hdi := emptD_len width i
    have r := rd_d Tryz.agg23 Tryz.sz23 k5 hdi
    simp -implicitDefEqProofs only [go_sem,Nat.reduceEqDiff,d1,r]
    refine contL_call Tryz.pl100 ((branch w5 (ht.no f5) width hdi hdi).mono ?_); rintro _ w6 ⟨rfl,f6⟩
    have he : branchD width (emptD width i) (emptD width i) = emptD width (i + 1) := rfl
    rw [he]
    have k6 := f6.at k5 id
    have hdj := emptD_len width (i + 1)
    have q := wr_d Tryz.sz23 k6 hdi hdj
    have k7 := put_at (o := .cells (bl (emptD width (i + 1))) 23 (0,0)) k6
    have r7 := rd_d Tryz.agg23 Tryz.sz23 k7 hdj
    have f7 : No w0 (put w6 w2.heap.size (.cells (bl (emptD width (i + 1))) 23 (0,0))) := (f5.trans f6).put (b := w2.heap.size) _ fun h => by omega
    have b7 := (b5.fr0 f6).put (.cells (bl (emptD width (i + 1))) 23 (0,0)) n5
    simp -implicitDefEqProofs only [go_sem,Nat.reduceEqDiff,Value.cells,bl_zero,q,r7]
    have hs7 : (put w6 w2.heap.size (.cells (bl (emptD width (i + 1))) 23 (0,0))).heap.size = w6.heap.size := by simp [put]
    generalize put w6 w2.heap.size (.cells (bl (emptD width (i + 1))) 23 (0,0)) = w7 at *
    rw [← hs7]
    refine contL_is (v := .slice (some ⟨w7.heap.size,0,none⟩) 1 1) (w' := w7.alloc (.cells (bl (emptD width (i + 1))) 23)) (fill_one (z := List.replicate 32 (u8 0)) (y := List.map u8 (List.replicate 32 0)) (c := bl (List.replicate 32 0)) List.length_replicate (by rw [bl_size,List.length_replicate]) hdj hy _) ?_
    obtain ⟨v8,w8,hr8,b8,f8,g8,h8⟩ := b7.push Tryz.app94_94 hdj (by rw [empts_len]; omega) f7
    rw [← empts_succ] at b8
    simp -implicitDefEqProofs only [go_sem,Nat.reduceEqDiff]
    refine contL_sem ⟨v8,w8,hr8,?_⟩
    simp -implicitDefEqProofs only [go_sem,Nat.reduceEqDiff,c1]
    refine ⟨256 - (i + 1),by omega,i + 1,v8,rfl,by omega,rfl,b8,g8.at k7 fun h => n5 _ h rfl,z3,fun b hb => ?_,f8⟩
    rcases h8 b hb with h | h
    · exact n5 b h
    · have := heap_lt k7; omega
  · have d1 : decide ((i : Int) < 256) = false := by simp; omega
    have e : i = 256 := by omega
    subst e
    simp -implicitDefEqProofs only [go_sem,Nat.reduceEqDiff,d1]
    exact ⟨b5,f5⟩
end R
end Go.V
end
section
namespace Go.V
open Go.Proofs Sha
set_option maxRecDepth 100000
/-- a bit as a number -/
def kb (k : Bs) (i : Nat) : Int := if kbit k i then 1 else 0
theorem kb_div (k : Bs) (i : Nat) : (((k.getD (i / 8) 0).toNat / 2 ^ (7 - i % 8) % 2 : Nat) : Int) = kb k i := by
  unfold kb kbit
  have : (k.getD (i / 8) 0).getLsbD (7 - i % 8) = decide ((k.getD (i / 8) 0).toNat / 2 ^ (7 - i % 8) % 2 = 1) := by
    show Nat.testBit _ _ = _
    rw [Nat.testBit_eq_decide_div_mod_eq]
  rw [this]
  have h2 : (k.getD (i / 8) 0).toNat / 2 ^ (7 - i % 8) % 2 < 2 := Nat.mod_lt _ (by decide)
  split
  · rename_i h; rw [of_decide_eq_true h]; rfl
  · rename_i h
    have : ¬ ((k.getD (i / 8) 0).toNat / 2 ^ (7 - i % 8) % 2 = 1) := fun e => h (decide_eq_true e)
    have : (k.getD (i / 8) 0).toNat / 2 ^ (7 - i % 8) % 2 = 0 := by omega
    rw [this]; rfl
theorem shr64i (a k : Nat) (hk : k ≤ 64) : shrK .i64 (a : Int) (k : Int) = ((a / 2 ^ k : Nat) : Int) := by
  have e : shrK .i64 (a : Int) (k : Int) = (a : Int).fdiv (2 ^ (min ((k : Nat) : Int).toNat 64)) := rfl
  rw [e,Int.toNat_natCast,Nat.min_eq_left hk,fdivn]
theorem shr8i (a k : Nat) (hk : k ≤ 8) : shrK .u8 (a : Int) (k : Int) = ((a / 2 ^ k : Nat) : Int) := by
  have e : shrK .u8 (a : Int) (k : Int) = (a : Int).fdiv (2 ^ (min ((k : Nat) : Int).toNat 8)) := rfl
  rw [e,Int.toNat_natCast,Nat.min_eq_left hk,fdivn]
theorem and64i (a b : Nat) (ha : a < 2 ^ 62) (hb : b < 2 ^ 62) : andK .i64 (a : Int) (b : Int) = ((a &&& b : Nat) : Int) := by
  have e : andK .i64 (a : Int) (b : Int) = IntKind.i64.wrap (((BitVec.ofInt 64 (a : Int) &&& BitVec.ofInt 64 (b : Int)).toNat : Nat) : Int) := rfl
  rw [e,BitVec.ofInt_natCast,BitVec.ofInt_natCast,BitVec.toNat_and,BitVec.toNat_ofNat,BitVec.toNat_ofNat,Nat.mod_eq_of_lt (by omega),Nat.mod_eq_of_lt (by omega)]
  exact i64n (by have := Nat.and_le_left (n := a) (m := b); omega)
theorem and64m (a k : Nat) (ha : a < 2 ^ 62) (hk : k < 62) : andK .i64 (a : Int) ((2 ^ k - 1 : Nat) : Int) = ((a % 2 ^ k : Nat) : Int) := by
  have : 2 ^ k < 2 ^ 62 := Nat.pow_lt_pow_right (by decide) hk
  rw [and64i a _ ha (by omega),Nat.and_two_pow_sub_one_eq_mod]
theorem and64_7 (a : Nat) (ha : a < 2 ^ 62) : andK .i64 (a : Int) 7 = ((a % 8 : Nat) : Int) := and64m a 3 ha (by decide)
theorem and64_1 (a : Nat) (ha : a < 2 ^ 62) : andK .i64 (a : Int) 1 = ((a % 2 : Nat) : Int) := and64m a 1 ha (by decide)
theorem xor8 (x y : Byte) : xorK .u8 (x.toNat : Int) (y.toNat : Int) = ((x ^^^ y).toNat : Int) := by
  have e : xorK .u8 (x.toNat : Int) (y.toNat : Int) = IntKind.u8.wrap (((BitVec.ofInt 8 (x.toNat : Int) ^^^ BitVec.ofInt 8 (y.toNat : Int)).toNat : Nat) : Int) := rfl
  rw [e,BitVec.ofInt_natCast,BitVec.ofInt_natCast,BitVec.ofNat_toNat,BitVec.ofNat_toNat,BitVec.setWidth_eq,BitVec.setWidth_eq]; exact w8_toNat _
namespace R
def biI (w0 : World) (x j0 : Nat) (n : Nat) (vs : List Value) (w : World) : Prop :=
  ∃ j,vs = [.int .i64 ((x / 2 ^ (j - j0) : Nat) : Int),.int .i64 (j : Nat)] ∧ j0 ≤ j ∧ j ≤ 7 ∧ n = 7 - j ∧ No w0 w
theorem bit (w0 : World) {k : Bs} (hk : k.length = 32) {i : Nat} (hi : i < 256) : Fn Tryz.prog 165 #[dg k,.int .i64 (i : Nat)] w0 fun v w' => v = .int .i64 (kb k i) ∧ No w0 w' := by
  refine Tryz.go165 (by simp) ?_
  have f1 : No w0 (w0.alloc (.cells (bl k) 34)) := (Fr.refl _ _).alloc _
  have k1 : (w0.alloc (.cells (bl k) 34)).heap[w0.heap.size]? = some (.cells (bl k) 34 (0,0)) := alloc_blk_new _ _
  have n0 : ((8 : Int) = 0) = False := by simp
  have n2 : ((2 : Int) = 0) = False := by simp
  have a1 : IntKind.i64.wrap ((i : Int).tdiv 8) = ((i / 8 : Nat) : Int) := by
    rw [show (i : Int).tdiv 8 = ((i / 8 : Nat) : Int) from rfl]; exact i64n (by omega)
  have a2 : (i : Int).tmod 8 = ((i % 8 : Nat) : Int) := rfl
  have y : (0 : Int) ≤ ((i / 8 : Nat) : Int) ∧ ((i / 8 : Nat) : Int) < ((32 : Nat) : Int) := by omega
  have r : rdO Tryz.prog 5 (w0.alloc (.cells (bl k) 34)) w0.heap.size (i / 8) = some (.int .u8 ((k.getD (i / 8) 0).toNat : Int)) := rd1 Tryz.agg5 k1 (bl_at (by omega))
  have c1 : IntKind.i64.wrap ((k.getD (i / 8) 0).toNat : Int) = ((k.getD (i / 8) 0).toNat : Int) := i64n (by have := (k.getD (i / 8) 0).isLt; omega)
  have hkb := kb_div k i
  have hx : (k.getD (i / 8) 0).toNat < 256 := (k.getD (i / 8) 0).isLt
  simp -implicitDefEqProofs only [go_sem,Nat.reduceEqDiff,Tryz.f165,Value.cells,n0,a1,a2,y,and_self,Int.toNat_natCast,Nat.mul_one,r,c1]
  generalize (k.getD (i / 8) 0).toNat = x at *
  refine loopD [5,6] (biI w0 x (i % 8)) (7 - i % 8) ⟨i % 8,by rw [Nat.sub_self,Nat.pow_zero,Nat.div_one]; rfl,Nat.le_refl _,by omega,rfl,f1⟩ ?_
  rintro _ vs w1 g ⟨j,rfl,h1,h2,rfl,f2⟩
  have hq : x / 2 ^ (j - i % 8) ≤ x := Nat.div_le_self _ _
  by_cases hlt : j < 7
  · have d1 : decide ((j : Int) < 7) = true := by simp; omega
    have c2 : IntKind.i64.wrap ((j : Int) + 1) = ((j + 1 : Nat) : Int) := i64add (b := 1) (by omega)
    have c3 : IntKind.i64.wrap (((x / 2 ^ (j - i % 8) : Nat) : Int).tdiv 2) = ((x / 2 ^ (j + 1 - i % 8) : Nat) : Int) := by
      rw [show ((x / 2 ^ (j - i % 8) : Nat) : Int).tdiv 2 = ((x / 2 ^ (j - i % 8) / 2 : Nat) : Int) from rfl,Nat.div_div_eq_div_mul,← Nat.pow_succ,show (j - i % 8).succ = j + 1 - i % 8 by omega]
      exact i64n (by have := Nat.div_le_self x (2 ^ (j + 1 - i % 8)); omega)
    simp -implicitDefEqProofs only [go_sem,Nat.reduceEqDiff,d1,n2,c2,c3]
    exact ⟨7 - (j + 1),by omega,j + 1,rfl,by omega,by omega,rfl,f2⟩
  · have d1 : decide ((j : Int) < 7) = false := by simp; omega
    have e : j = 7 := by omega
    subst e
    have c3 : (((x / 2 ^ (7 - i % 8) : Nat) : Int).tmod 2) = kb k i := hkb
    simp -implicitDefEqProofs only [go_sem,Nat.reduceEqDiff,d1,n2,c3]
    exact f2
theorem bit3 (w0 : World) {k : Bs} (hk : k.length = 32) {i : Nat} (hi : i < 256) : Fn Tryz.prog 166 #[dg k,.int .i64 (i : Nat)] w0 fun v w' => v = .int .i64 (kb k i) ∧ No w0 w' := by
  refine Tryz.go166 (by simp) ?_
  have f1 : No w0 (w0.alloc (.cells (bl k) 34)) := (Fr.refl _ _).alloc _
  have k1 : (w0.alloc (.cells (bl k) 34)).heap[w0.heap.size]? = some (.cells (bl k) 34 (0,0)) := alloc_blk_new _ _
  have n0 : ((8 : Int) = 0) = False := by simp
  have n2 : ((2 : Int) = 0) = False := by simp
  have a1 : IntKind.i64.wrap ((i : Int).tdiv 8) = ((i / 8 : Nat) : Int) := by
    rw [show (i : Int).tdiv 8 = ((i / 8 : Nat) : Int) from rfl]; exact i64n (by omega)
  have a2 : (i : Int).tmod 8 = ((i % 8 : Nat) : Int) := rfl
  have y : (0 : Int) ≤ ((i / 8 : Nat) : Int) ∧ ((i / 8 : Nat) : Int) < ((32 : Nat) : Int) := by omega
  have r : rdO Tryz.prog 5 (w0.alloc (.cells (bl k) 34)) w0.heap.size (i / 8) = some (.int .u8 ((k.getD (i / 8) 0).toNat : Int)) := rd1 Tryz.agg5 k1 (bl_at (by omega))
  have c1 : IntKind.i64.wrap ((k.getD (i / 8) 0).toNat : Int) = ((k.getD (i / 8) 0).toNat : Int) := i64n (by have := (k.getD (i / 8) 0).isLt; omega)
  have hkb := kb_div k i
  have hx : (k.getD (i / 8) 0).toNat < 256 := (k.getD (i / 8) 0).isLt
  have z1 : decide ((i : Int) < 0) = false := by simp
  have z2 : decide ((i : Int) > 255) = false := by simp; omega
  simp -implicitDefEqProofs only [go_sem,Nat.reduceEqDiff,gLa,gLz,gLs,beq_self_eq_true,bne_self_eq_false,Tryz.f166,Value.cells,z1,z2,n0,a1,a2,y,and_self,Int.toNat_natCast,Nat.mul_one,r,c1]
  generalize (k.getD (i / 8) 0).toNat = x at *
  refine loopD [5,6] (biI w0 x (i % 8)) (7 - i % 8) ⟨i % 8,by rw [Nat.sub_self,Nat.pow_zero,Nat.div_one]; rfl,Nat.le_refl _,by omega,rfl,f1⟩ ?_
  rintro _ vs w1 g ⟨j,rfl,h1,h2,rfl,f2⟩
  have hq : x / 2 ^ (j - i % 8) ≤ x := Nat.div_le_self _ _
  by_cases hlt : j < 7
  · have d1 : decide ((j : Int) < 7) = true := by simp; omega
    have c2 : IntKind.i64.wrap ((j : Int) + 1) = ((j + 1 : Nat) : Int) := i64add (b := 1) (by omega)
    have c3 : IntKind.i64.wrap (((x / 2 ^ (j - i % 8) : Nat) : Int).tdiv 2) = ((x / 2 ^ (j + 1 - i % 8) : Nat) : Int) := by
      rw [show ((x / 2 ^ (j - i % 8) : Nat) : Int).tdiv 2 = ((x / 2 ^ (j - i % 8) / 2 : Nat) : Int) from rfl,Nat.div_div_eq_div_mul,← Nat.pow_succ,show (j - i % 8).succ = j + 1 - i % 8 by omega]
      exact i64n (by have := Nat.div_le_self x (2 ^ (j + 1 - i % 8)); omega)
    simp -implicitDefEqProofs only [go_sem,Nat.reduceEqDiff,d1,n2,c2,c3]
    exact ⟨7 - (j + 1),by omega,j + 1,rfl,by omega,by omega,rfl,f2⟩
  · have d1 : decide ((j : Int) < 7) = false := by simp; omega
    have e : j = 7 := by omega
    subst e
    have c3 : (((x / 2 ^ (7 - i % 8) : Nat) : Int).tmod 2) = kb k i := hkb
    simp -implicitDefEqProofs only [go_sem,Nat.reduceEqDiff,d1,n2,c3]
    exact f2
end R
theorem bbit (w0 : World) {k : Bs} (hk : k.length = 32) {i : Nat} (hi : i < 256) : Fn Tryz.prog 92 #[dg k,.int .i64 (i : Nat)] w0 fun v w' => v = .int .i64 (kb k i) ∧ No w0 w' := by
  refine Tryz.go92 (by simp) ?_
  have f1 : No w0 (w0.alloc (.cells (bl k) 34)) := (Fr.refl _ _).alloc _
  have k1 : (w0.alloc (.cells (bl k) 34)).heap[w0.heap.size]? = some (.cells (bl k) 34 (0,0)) := alloc_blk_new _ _
  have z1 : decide ((i : Int) < 0) = false := by simp
  have z2 : decide ((i : Int) ≥ 256) = false := by simp; omega
  have a1 : shrK .i64 (i : Int) 3 = ((i / 8 : Nat) : Int) := shr64i i 3 (by omega)
  have a2 : andK .i64 (i : Int) 7 = ((i % 8 : Nat) : Int) := and64_7 i (by omega)
  have a3 : IntKind.i64.wrap (7 - ((i % 8 : Nat) : Int)) = ((7 - i % 8 : Nat) : Int) := i64sub (a := 7) (b := i % 8) (by omega) (by omega)
  have n1 : ¬ ((3 : Int) < 0) := by omega
  have n2 : ¬ (((7 - i % 8 : Nat) : Int) < 0) := by omega
  have y : (0 : Int) ≤ ((i / 8 : Nat) : Int) ∧ ((i / 8 : Nat) : Int) < ((32 : Nat) : Int) := by omega
  have r : rdO Tryz.prog 5 (w0.alloc (.cells (bl k) 34)) w0.heap.size (i / 8) = some (.int .u8 ((k.getD (i / 8) 0).toNat : Int)) := rd1 Tryz.agg5 k1 (bl_at (by omega))
  have hkb := kb_div k i
  have hx : (k.getD (i / 8) 0).toNat < 256 := (k.getD (i / 8) 0).isLt
  generalize (k.getD (i / 8) 0).toNat = x at *
  have a4 : shrK .u8 (x : Int) ((7 - i % 8 : Nat) : Int) = ((x / 2 ^ (7 - i % 8) : Nat) : Int) := shr8i x _ (by omega)
  have hq : x / 2 ^ (7 - i % 8) ≤ x := Nat.div_le_self _ _
  have a5 : IntKind.i64.wrap ((x / 2 ^ (7 - i % 8) : Nat) : Int) = ((x / 2 ^ (7 - i % 8) : Nat) : Int) := i64n (by omega)
  have a6 : andK .i64 ((x / 2 ^ (7 - i % 8) : Nat) : Int) 1 = kb k i := by rw [← hkb]; exact and64_1 _ (by omega)
  simp -implicitDefEqProofs only [go_sem,Nat.reduceEqDiff,gLa,gLz,gLs,beq_self_eq_true,bne_self_eq_false,Tryz.f92,Value.cells,z1,z2,a1,a2,a3,n1,n2,y,and_self,Int.toNat_natCast,Nat.mul_one,r,a4,a5,a6]
  exact f1
end Go.V
end
section
namespace Go.V
open Go.Proofs Sha
set_option maxRecDepth 100000
/-- how many bits a number has -/
def blen (z : Nat) : Nat := if z = 0 then 0 else z.log2 + 1
theorem blen_le {z m : Nat} : blen z ≤ m ↔ z < 2 ^ m := by
  unfold blen
  split
  · rename_i h; subst h; simp [Nat.two_pow_pos]
  · rename_i h; rw [← Nat.log2_lt h]; omega
theorem blen_bit {z : Nat} (h : z ≠ 0) : z.testBit (blen z - 1) = true := by
  have h1 : blen z = z.log2 + 1 := by unfold blen; rw [if_neg h]
  have h2 : ¬ z < 2 ^ (blen z - 1) := fun k => by have := blen_le.2 k; omega
  have h3 : z < 2 ^ (blen z) := blen_le.1 (Nat.le_refl _)
  rw [h1] at h2 h3 ⊢
  rw [Nat.add_sub_cancel] at h2 ⊢
  rw [Nat.testBit_eq_decide_div_mod_eq,decide_eq_true_eq]
  have h4 : z / 2 ^ z.log2 = 1 := by
    apply Nat.div_eq_of_lt_le
    · omega
    · rw [Nat.pow_succ] at h3; omega
  rw [h4]
theorem common_at {a b : Bs} {i : Nat} (hi : i < 32) (h : ∀ j, j < i → a.getD j 0 = b.getD j 0) (hne : a.getD i 0 ≠ b.getD i 0) :
    common a b = 8 * i + (8 - blen (a.getD i 0 ^^^ b.getD i 0).toNat) ∧ 0 < blen (a.getD i 0 ^^^ b.getD i 0).toNat ∧ blen (a.getD i 0 ^^^ b.getD i 0).toNat ≤ 8 := by
  have hz : (a.getD i 0 ^^^ b.getD i 0).toNat ≠ 0 := fun e => hne (by
    have h0 : a.getD i 0 ^^^ b.getD i 0 = 0#8 := BitVec.eq_of_toNat_eq e
    exact BitVec.xor_eq_zero_iff.1 h0)
  have h8 : blen (a.getD i 0 ^^^ b.getD i 0).toNat ≤ 8 := blen_le.2 (a.getD i 0 ^^^ b.getD i 0).isLt
  have h1 : 0 < blen (a.getD i 0 ^^^ b.getD i 0).toNat := by unfold blen; rw [if_neg hz]; omega
  have hb : ∀ m,(a.getD i 0 ^^^ b.getD i 0).toNat.testBit m = Bool.xor ((a.getD i 0).getLsbD m) ((b.getD i 0).getLsbD m) := fun m => by
    show (a.getD i 0 ^^^ b.getD i 0).getLsbD m = _
    rw [BitVec.getLsbD_xor]
  have ht := blen_bit hz
  have hlt := blen_le.1 (Nat.le_refl (blen (a.getD i 0 ^^^ b.getD i 0).toNat))
  generalize hn : blen (a.getD i 0 ^^^ b.getD i 0).toNat = n at *
  refine ⟨common_is (fun j hj => ?_) (fun _ => ?_) (by omega),h1,h8⟩
  · by_cases h5 : j < 8 * i
    · unfold kbit; rw [h (j / 8) (by omega)]
    · have e : j / 8 = i := by omega
      unfold kbit
      rw [e]
      have := hb (7 - j % 8)
      rw [Nat.testBit_lt_two_pow (Nat.lt_of_lt_of_le hlt (Nat.pow_le_pow_right (by decide) (by omega)))] at this
      revert this
      cases (a.getD i 0).getLsbD (7 - j % 8) <;> cases (b.getD i 0).getLsbD (7 - j % 8) <;> simp
  · unfold kbit
    rw [show (8 * i + (8 - n)) / 8 = i by omega,show 7 - (8 * i + (8 - n)) % 8 = n - 1 by omega]
    have := hb (n - 1)
    rw [ht] at this
    revert this
    cases (a.getD i 0).getLsbD (n - 1) <;> cases (b.getD i 0).getLsbD (n - 1) <;> simp
def lenS : ByteArray := ⟨((([0,1,2,2,3,3,3,3,4,4,4,4,4,4,4,4,5,5,5,5,5,5,5,5,5,5,5,5,5,5,5,5,6,6,6,6,6,6,6,6,6,6,6,6,6,6,6,6,6,6,6,6,6,6,6,6,6,6,6,6,6,6,6,6] : List UInt8).append [7,7,7,7,7,7,7,7,7,7,7,7,7,7,7,7,7,7,7,7,7,7,7,7,7,7,7,7,7,7,7,7,7,7,7,7,7,7,7,7,7,7,7,7,7,7,7,7,7,7,7,7,7,7,7,7,7,7,7,7,7,7,7,7]).append (([8,8,8,8,8,8,8,8,8,8,8,8,8,8,8,8,8,8,8,8,8,8,8,8,8,8,8,8,8,8,8,8,8,8,8,8,8,8,8,8,8,8,8,8,8,8,8,8,8,8,8,8,8,8,8,8,8,8,8,8,8,8,8,8] : List UInt8).append [8,8,8,8,8,8,8,8,8,8,8,8,8,8,8,8,8,8,8,8,8,8,8,8,8,8,8,8,8,8,8,8,8,8,8,8,8,8,8,8,8,8,8,8,8,8,8,8,8,8,8,8,8,8,8,8,8,8,8,8,8,8,8,8])).toArray⟩
theorem lenS_at : ∀ n : Fin 256,lenS[n.val]? = some (UInt8.ofNat (blen n.val)) := by decide +kernel
theorem len8 (w0 : World) (x : Byte) : Fn Tryz.prog 219 #[u8 x] w0 fun v w' => v = .int .i64 (blen x.toNat : Nat) ∧ w' = w0 := by
  refine Tryz.go219 (by simp) ?_
  simp -implicitDefEqProofs only [go_sem,Nat.reduceEqDiff,Tryz.f219]
  have h8 : blen x.toNat ≤ 8 := blen_le.2 x.isLt
  refine contL_is (v := .int .u8 (blen x.toNat : Nat)) (w' := w0) ?_ ?_
  · show val0 (if 0 ≤ (x.toNat : Int) then Option.map _ (lenS[(x.toNat : Int).toNat]?) else none) w0 = _
    rw [if_pos (by omega),Int.toNat_natCast,lenS_at ⟨x.toNat,x.isLt⟩]
    simp only [Option.map_some,val0,UInt8.toNat_ofNat']
    rw [Nat.mod_eq_of_lt (by omega)]
  · have c : IntKind.i64.wrap ((blen x.toNat : Nat) : Int) = ((blen x.toNat : Nat) : Int) := i64n (by omega)
    simp -implicitDefEqProofs only [go_sem,Nat.reduceEqDiff,c,and_self]
theorem lz8 (w0 : World) (x : Byte) : Fn Tryz.prog 203 #[u8 x] w0 fun v w' => v = .int .i64 (8 - blen x.toNat : Nat) ∧ w' = w0 := by
  refine Tryz.go203 (by simp) ?_
  simp -implicitDefEqProofs only [go_sem,Nat.reduceEqDiff,Tryz.f203]
  have h8 : blen x.toNat ≤ 8 := blen_le.2 x.isLt
  refine contL_call Tryz.pl219 ((len8 w0 x).mono ?_); rintro _ w' ⟨rfl,rfl⟩
  have c : IntKind.i64.wrap (8 - ((blen x.toNat : Nat) : Int)) = ((8 - blen x.toNat : Nat) : Int) := i64sub (a := 8) (by omega) (by omega)
  simp -implicitDefEqProofs only [go_sem,Nat.reduceEqDiff,c,and_self]
theorem eqKey {a b : Bs} (ha : a.length = 32) (hb : b.length = 32) : eqV Tryz.prog Op.maxDepth 34 (dg a) (dg b) = some (a == b) := eqm_dg Tryz.arr34 Tryz.int5 Tryz.sz5 Tryz.agg5 ha hb
theorem eqDig {a b : Bs} (ha : a.length = 32) (hb : b.length = 32) : eqV Tryz.prog Op.maxDepth 23 (dg a) (dg b) = some (a == b) := eqm_dg Tryz.arr23 Tryz.int5 Tryz.sz5 Tryz.agg5 ha hb
def cmI (w0 : World) (a b : Bs) (n : Nat) (vs : List Value) (w : World) : Prop :=
  ∃ (i : Nat) (x y : Value),vs = [pt w0.heap.size 0,pt (w0.heap.size + 1) 0,x,y,.int .i64 (i : Nat)] ∧ i ≤ 32 ∧ n = 32 - i ∧ (∀ j,j < i → a.getD j 0 = b.getD j 0) ∧ w.heap[w0.heap.size]? = some (.cells (bl a) 34 (0,0)) ∧
    w.heap[w0.heap.size + 1]? = some (.cells (bl b) 34 (0,0)) ∧ No w0 w
theorem commonP (w0 : World) {a b : Bs} (ha : a.length = 32) (hb : b.length = 32) : Fn Tryz.prog 160 #[dg a,dg b] w0 fun v w' => v = .int .i64 (common a b : Nat) ∧ No w0 w' := by
  refine Tryz.go160 (by simp) ?_
  have f1 : No w0 ((w0.alloc (.cells (bl a) 34)).alloc (.cells (bl b) 34)) := ((Fr.refl _ _).alloc _).alloc _
  have k1 : ((w0.alloc (.cells (bl a) 34)).alloc (.cells (bl b) 34)).heap[w0.heap.size]? = some (.cells (bl a) 34 (0,0)) := alloc_at (alloc_blk_new _ _)
  have j1 : ((w0.alloc (.cells (bl a) 34)).alloc (.cells (bl b) 34)).heap[w0.heap.size + 1]? = some (.cells (bl b) 34 (0,0)) := by
    have := alloc_blk_new (w0.alloc (.cells (bl a) 34)) (.cells (bl b) 34)
    rw [alloc_heap_size] at this; exact this
  simp -implicitDefEqProofs only [go_sem,Nat.reduceEqDiff,Tryz.f160,Value.cells]
  generalize (w0.alloc (.cells (bl a) 34)).alloc (.cells (bl b) 34) = W at *
  have r1 := rd_d Tryz.agg34 Tryz.sz34 k1 ha
  have r2 := rd_d Tryz.agg34 Tryz.sz34 j1 hb
  simp -implicitDefEqProofs only [go_sem,Nat.reduceEqDiff,r1,r2]
  rw [eqKey ha hb]
  by_cases he : a = b
  · subst he
    have e0 : (a == a) = true := beq_self_eq_true a
    rw [(common_full ha ha).2 rfl]
    simp -implicitDefEqProofs only [go_sem,Nat.reduceEqDiff,e0,Option.map_some]
    exact ⟨rfl,f1⟩
  · have e0 : (a == b) = false := by simpa using he
    simp -implicitDefEqProofs only [go_sem,Nat.reduceEqDiff,e0,Option.map_some]
    refine loopD [2,3,5,6,10] (cmI w0 a b) 32 ⟨0,_,_,rfl,by omega,rfl,fun j h => absurd h (by omega),k1,j1,f1⟩ ?_
    rintro _ vs w2 g ⟨i,x,y,rfl,hi,rfl,hs,k2,j2,f2⟩
    by_cases hlt : i < 32
    · have d1 : decide ((i : Int) < 32) = true := by simp; omega
      have c1 : IntKind.i64.wrap ((i : Int) + 1) = ((i + 1 : Nat) : Int) := i64add (b := 1) (by omega)
      have y1 : (0 : Int) ≤ (i : Int) ∧ (i : Int) < ((32 : Nat) : Int) := by omega
      have q1 : rdO Tryz.prog 5 w2 w0.heap.size i = some (.int .u8 ((a.getD i 0).toNat : Int)) := rd1 Tryz.agg5 k2 (bl_at (by omega))
      have q2 : rdO Tryz.prog 5 w2 (w0.heap.size + 1) i = some (.int .u8 ((b.getD i 0).toNat : Int)) := rd1 Tryz.agg5 j2 (bl_at (by omega))
      by_cases hne : a.getD i 0 = b.getD i 0
      · have hz : (((a.getD i 0 ^^^ b.getD i 0).toNat : Int) != 0) = false := by rw [hne,BitVec.xor_self]; rfl
        have hx := xor8 (a.getD i 0) (b.getD i 0)
        have hs' : ∀ j,j < i + 1 → a.getD j 0 = b.getD j 0 := fun j hj => by
          rcases Nat.lt_succ_iff_lt_or_eq.1 hj with h | rfl
          · exact hs j h
          · exact hne
        generalize a.getD i 0 = p at *
        generalize b.getD i 0 = q at *
        simp -implicitDefEqProofs only [go_sem,Nat.reduceEqDiff,d1,c1,y1,and_self,Int.toNat_natCast,Nat.mul_one,q1,q2,hx,hz]
        exact ⟨32 - (i + 1),by omega,i + 1,_,_,rfl,by omega,rfl,hs',k2,j2,f2.drew⟩
      · obtain ⟨hc,h0,h8⟩ := common_at hlt hs hne
        have hz : (((a.getD i 0 ^^^ b.getD i 0).toNat : Int) != 0) = true := by
          rw [bne_iff_ne]
          intro e
          have : (a.getD i 0 ^^^ b.getD i 0).toNat = 0 := by omega
          exact hne (BitVec.xor_eq_zero_iff.1 (BitVec.eq_of_toNat_eq this))
        have hx := xor8 (a.getD i 0) (b.getD i 0)
        rw [hc]
        generalize a.getD i 0 = p at *
        generalize b.getD i 0 = q at *
        have c2 : IntKind.i64.wrap (8 * (i : Int)) = ((8 * i : Nat) : Int) := i64mul (a := 8) (by omega)
        have c3 : IntKind.i64.wrap (((8 * i : Nat) : Int) + ((8 - blen (p ^^^ q).toNat : Nat) : Int)) = ((8 * i + (8 - blen (p ^^^ q).toNat) : Nat) : Int) := i64add (by omega)
        simp -implicitDefEqProofs only [go_sem,Nat.reduceEqDiff,d1,y1,and_self,Int.toNat_natCast,Nat.mul_one,q1,q2,hx,hz,c2]
        refine contL_call Tryz.pl203 ((lz8 w2.drew (p ^^^ q)).mono ?_); rintro _ w3 ⟨rfl,rfl⟩
        simp -implicitDefEqProofs only [go_sem,Nat.reduceEqDiff,c3]
        exact f2.drew
    · have e : i = 32 := by omega
      subst e
      refine absurd (List.ext_getElem (by omega) fun j h1 h2 => ?_) he
      have := hs j (by omega)
      rwa [getD_lt 0 h1,getD_lt 0 h2] at this
end Go.V
end
