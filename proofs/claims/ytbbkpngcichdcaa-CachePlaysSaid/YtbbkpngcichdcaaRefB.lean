/-
  The document's cache: 'without'; the cache in memory; 'trim', New, Tally.
-/
import Derived.Test.YtbbkpngcichdcaaRefA
namespace Go.V
open Go.Proofs
set_option maxRecDepth 100000
namespace R
open I (KV St wout sets)
def withoutI (w0 : World) (v : Value) (l : KV) (i : Int) (m : Nat) (vs : List Value) (w : World) : Prop :=
  ∃ p q x, vs = [v, .int .i64 i, x, .int .i64 (p.length : Nat)] ∧ m = q.length ∧ l = p ++ q ∧ OwnO w 100 2 x (wo p i).length (pairsV (wo p i)) ∧ (∀ b, blockOf x = some b → w0.heap.size ≤ b) ∧ Fr (fun _ => False) w0 w
theorem without {w : World} {v : Value} {l : KV} (h : Pairs w v l) (i : Int) (hn : l.length < 8796093020000) :
    Fn Try.prog 55 #[v, .int .i64 i] w fun x w' => OwnO w' 100 2 x (wo l i).length (pairsV (wo l i)) ∧ (∀ b, blockOf x = some b → w.heap.size ≤ b) ∧ Fr (fun _ => False) w w' := by
  have h0 := h
  obtain ⟨base, cap, rfl, h⟩ := h
  refine Try.go55 (by simp) ?_
  simp -implicitDefEqProofs only [go_sem, Nat.reduceEqDiff, Try.f55]
  refine loopD [0, 1, 5, 6] (withoutI w (.slice base l.length cap) l i) l.length ⟨[], l, .slice none 0 0, by simp [upd], rfl, rfl, .nil _ _ _, fun b hb => (by cases hb), Fr.refl _ _⟩ ?_
  rintro m vs w1 g ⟨p, q, x, rfl, rfl, hpq, ho, hnew, f1⟩
  cases q with
  | cons y q =>
    have hl : l.length = p.length + (q.length + 1) := by rw [hpq]; simp
    have i1 : 0 ≤ (p.length : Int) := by omega
    have i2 : (p.length : Int) < (l.length : Int) := by omega
    have hp : l[p.length]? = some y := by rw [hpq]; simp
    obtain ⟨b, o, rfl, e1, e2⟩ := h _ _ hp
    have s1 : IntKind.i64.wrap ((p.length : Int) + 1) = ((p.length + 1 : Nat) : Int) := by rw [wrap64_id (by omega) (by omega)]; rfl
    have hadd := woF_add p y 0 i
    rw [Nat.zero_add] at hadd
    by_cases hi : (p.length : Int) = i
    · have d1 : ((p.length : Int) != i) = false := by simpa using hi
      rw [if_pos hi, List.append_nil] at hadd
      simp -implicitDefEqProofs only [go_sem, Nat.reduceEqDiff, decide_true, i1, i2, d1, s1]
      exact ⟨q.length, by simp, p ++ [y], q, x, by simp, rfl, by simp [hpq], by unfold wo at ho ⊢; rw [hadd]; exact ho, hnew, f1⟩
    · have d1 : ((p.length : Int) != i) = true := by simpa using hi
      rw [if_neg hi] at hadd
      have hb := f1.blk b (cv_lt e1) id
      have a1 : rdO Try.prog 100 w1 b (o + p.length * 2) = some (.agg #[.int .i64 y.1, .int .i64 y.2]) := rd_agg Try.agg100 Try.sz100 rfl (by omega) fun j hj => by
        rw [cv_blk hb]
        match j with
        | 0 => exact e1
        | 1 => exact e2
      have hlen := wo_len p 0 i
      obtain ⟨x', w2, hrun, r⟩ := app_new (P := Try.prog) (ts := #[95, 95]) (t := 95) (t' := 95) rfl rfl Try.slc95 Try.int95 und95 Try.sz100 by100 Try.zero100 rfl ho (m := 1) #[.int .i64 y.1, .int .i64 y.2] rfl rfl (by unfold wo; omega) (by unfold wo; omega) (by omega)
      simp -implicitDefEqProofs only [go_sem, Nat.reduceEqDiff, decide_true, i1, i2, and_self, Int.toNat_natCast, d1, a1]
      refine contL_is (v := .slice (some ⟨w1.heap.size, 0, none⟩) 1 1) (w' := w1.alloc (.cells #[.int .i64 y.1, .int .i64 y.2] 100)) rfl ?_
      simp -implicitDefEqProofs only [go_sem, Nat.reduceEqDiff]
      refine contL_sem ⟨x', w2, hrun, ?_⟩
      simp -implicitDefEqProofs only [go_sem, Nat.reduceEqDiff, s1]
      refine ⟨q.length, by simp, p ++ [y], q, x', by simp, rfl, by simp [hpq], ?_, fun b hb => ?_, f1.trans' r.fr fun b hb h => by have := hnew b h; omega⟩
      · have := r.own
        unfold wo at this ⊢
        rw [hadd, pairsV_app, List.length_append]; exact this
      · obtain ⟨b', h1, h2⟩ := r.blk
        rw [h1] at hb; cases hb
        rcases h2 with h2 | h2
        · exact hnew b h2
        · have := f1.size; omega
  | nil =>
    rw [List.append_nil] at hpq
    subst hpq
    have hd : decide ((l.length : Int) < (l.length : Int)) = false := by simp
    simp -implicitDefEqProofs only [go_sem, Nat.reduceEqDiff, hd]
    exact ⟨ho, hnew, f1⟩
/-- the document's cache in memory at block rb, in the blocks F -/
def refC (room : Nat) (vc vk : Value) (hits misses gone : Nat) : Array Value := #[.int .i64 room, vc, vk, .int .i64 hits, .int .i64 misses, .int .i64 gone]
structure RefAt (w : World) (rb : Nat) (F : Nat → Prop) (vc vk : Value) (cl kp : KV) (room hits misses gone : Nat) : Prop where
  row : w.heap[rb]? = some (.cells (refC room vc vk hits misses gone) 97)
  cl : OwnO w 100 2 vc cl.length (pairsV cl)
  kp : OwnO w 100 2 vk kp.length (pairsV kp)
  frb : F rb
  fc : ∀ b, blockOf vc = some b → F b ∧ b ≠ rb
  fk : ∀ b, blockOf vk = some b → F b ∧ b ≠ rb ∧ blockOf vc ≠ some b
  lt : ∀ b, F b → b < w.heap.size
def Ref (w : World) (rb : Nat) (F : Nat → Prop) (s : St) : Prop := ∃ vc vk, RefAt w rb F vc vk s.clean s.kept s.room s.hits s.misses s.gone
section
open I (grown)
theorem grown_lt {F : Nat → Prop} {w w' : World} (h : ∀ b, F b → b < w.heap.size) (hs : w.heap.size ≤ w'.heap.size) : ∀ b, grown F w w' b → b < w'.heap.size := fun b hb => by
  rcases hb with hb | hb
  · have := h b hb; omega
  · exact hb.2
theorem grown_grown {F : Nat → Prop} {w w1 w2 : World} (h1 : w.heap.size ≤ w1.heap.size) (h2 : w1.heap.size ≤ w2.heap.size) : ∀ b, grown (grown F w w1) w1 w2 b → grown F w w2 b := fun b hb => by
  rcases hb with (hb | hb) | hb
  · exact .inl hb
  · exact .inr ⟨hb.1, by omega⟩
  · exact .inr ⟨by omega, hb.2⟩
variable {w w' : World} {rb : Nat} {F : Nat → Prop} {vc vk : Value} {cl kp : KV} {room hits misses gone : Nat}
theorem RefAt.mono {G : Nat → Prop} (h : RefAt w rb F vc vk cl kp room hits misses gone) (hf : ∀ b, F b → G b) (hl : ∀ b, G b → b < w.heap.size) : RefAt w rb G vc vk cl kp room hits misses gone :=
  ⟨h.row, h.cl, h.kp, hf _ h.frb, fun b hb => ⟨hf _ (h.fc b hb).1, (h.fc b hb).2⟩, fun b hb => ⟨hf _ (h.fk b hb).1, (h.fk b hb).2⟩, hl⟩
theorem RefAt.frame {G : Nat → Prop} (h : RefAt w rb F vc vk cl kp room hits misses gone) (f : Fr G w w') (hd : ∀ b, F b → ¬ G b) : RefAt w' rb F vc vk cl kp room hits misses gone := by
  have hb : ∀ b, F b → w'.heap[b]? = w.heap[b]? := fun b hb => f.blk b (h.lt b hb) (hd b hb)
  exact ⟨(hb _ h.frb).trans h.row, h.cl.frame fun b h' => hb b (h.fc b h').1, h.kp.frame fun b h' => hb b (h.fk b h').1, h.frb, h.fc, h.fk, fun b hb => Nat.lt_of_lt_of_le (h.lt b hb) f.size⟩
theorem RefAt.rd (h : RefAt w rb F vc vk cl kp room hits misses gone) : rdO Try.prog 3 w rb 0 = some (.int .i64 room) ∧ rdO Try.prog 95 w rb 1 = some vc ∧ rdO Try.prog 95 w rb 2 = some vk ∧
    rdO Try.prog 3 w rb 3 = some (.int .i64 hits) ∧ rdO Try.prog 3 w rb 4 = some (.int .i64 misses) ∧ rdO Try.prog 3 w rb 5 = some (.int .i64 gone) := by
  have hc := fun o => cv_of_row (o := o) h.row
  exact ⟨rd_cv Try.agg3 (hc 0), rd_cv Try.agg95 (hc 1), rd_cv Try.agg95 (hc 2), rd_cv Try.agg3 (hc 3), rd_cv Try.agg3 (hc 4), rd_cv Try.agg3 (hc 5)⟩
/-- the row's cells written -/
def refP (w : World) (rb room : Nat) (vc vk : Value) (hits misses gone : Nat) : World := put w rb (.cells (refC room vc vk hits misses gone) 97 (0, 0))
theorem wr_row {w : World} {rb : Nat} {room : Nat} {vc vk : Value} {hits misses gone : Nat} (h : w.heap[rb]? = some (.cells (refC room vc vk hits misses gone) 97)) :
    (∀ x, one x = true → wrO Try.prog 95 w rb 1 x = some (refP w rb room x vk hits misses gone)) ∧ (∀ x, one x = true → wrO Try.prog 95 w rb 2 x = some (refP w rb room vc x hits misses gone)) ∧
    (∀ n : Nat, wrO Try.prog 3 w rb 3 (.int .i64 n) = some (refP w rb room vc vk n misses gone)) ∧ (∀ n : Nat, wrO Try.prog 3 w rb 4 (.int .i64 n) = some (refP w rb room vc vk hits n gone)) ∧ (∀ n : Nat, wrO Try.prog 3 w rb 5 (.int .i64 n) = some (refP w rb room vc vk hits misses n)) := by
  have hc := fun o => cv_of_row (o := o) h
  refine ⟨fun x hx => ?_, fun x hx => ?_, fun n => ?_, fun n => ?_, fun n => ?_⟩
  · rw [wr_cv (P := Try.prog) Try.sz95 hx (hc 1), setc_row _ h]; rfl
  · rw [wr_cv (P := Try.prog) Try.sz95 hx (hc 2), setc_row _ h]; rfl
  · rw [wr_cv (P := Try.prog) Try.sz3 rfl (hc 3), setc_row _ h]; rfl
  · rw [wr_cv (P := Try.prog) Try.sz3 rfl (hc 4), setc_row _ h]; rfl
  · rw [wr_cv (P := Try.prog) Try.sz3 rfl (hc 5), setc_row _ h]; rfl
theorem own_one {w : World} {e sz n : Nat} {v : Value} {cs : List Value} (h : OwnO w e sz v n cs) : one v = true := by
  obtain ⟨_, _, rfl⟩ := h.slice; rfl
theorem refP_fr {w0 : World} {F : Nat → Prop} (f : Fr F w0 w) (hb : rb < w0.heap.size → F rb) : Fr F w0 (refP w rb room vc vk hits misses gone) := f.put _ hb
theorem refP_size : (refP w rb room vc vk hits misses gone).heap.size = w.heap.size := put_heap_size _ _ _
/-- the counts written -/
theorem RefAt.count (h : RefAt w rb F vc vk cl kp room hits misses gone) (a b c : Nat) : RefAt (refP w rb room vc vk a b c) rb F vc vk cl kp room a b c :=
  ⟨blk_put_same _ (heap_lt h.row), h.cl.frame fun b hb => blk_put_ne _ (Ne.symm (h.fc b hb).2), h.kp.frame fun b hb => blk_put_ne _ (Ne.symm (h.fk b hb).2.1), h.frb, h.fc, h.fk, fun b hb => by rw [refP_size]; exact h.lt b hb⟩
/-- the clean list is another, in new memory or where it was -/
theorem RefAt.clean {w1 : World} (h : RefAt w rb F vc vk cl kp room hits misses gone) {x : Value} {cl' : KV} (f : Fr (fun b => blockOf vc = some b) w w1) (ho : OwnO w1 100 2 x cl'.length (pairsV cl')) (hx : ∀ b, blockOf x = some b → blockOf vc = some b ∨ w.heap.size ≤ b) :
    RefAt (refP w1 rb room x vk hits misses gone) rb (grown F w w1) x vk cl' kp room hits misses gone ∧ Fr F w (refP w1 rb room x vk hits misses gone) ∧ w1.heap[rb]? = some (.cells (refC room vc vk hits misses gone) 97) := by
  have hrb := h.lt rb h.frb
  have hxr : ∀ b, blockOf x = some b → b ≠ rb := fun b hb e => by
    rcases hx b hb with h1 | h1
    · exact (h.fc b h1).2 e
    · omega
  have row1 : w1.heap[rb]? = some (.cells (refC room vc vk hits misses gone) 97) := (f.blk rb hrb fun e => (h.fc rb e).2 rfl).trans h.row
  refine ⟨⟨blk_put_same _ (heap_lt row1), ho.frame fun b hb => blk_put_ne _ (Ne.symm (hxr b hb)), ?_, .inl h.frb, fun b hb => ⟨?_, hxr b hb⟩, fun b hb => ⟨.inl (h.fk b hb).1, (h.fk b hb).2.1, fun e => ?_⟩, fun b hb => by rw [refP_size]; exact grown_lt h.lt f.size b hb⟩, refP_fr (f.mono fun b _ hb => (h.fc b hb).1) fun _ => h.frb, row1⟩
  · refine h.kp.frame fun b hb => ?_
    have hk := h.fk b hb
    unfold refP
    rw [blk_put_ne _ (Ne.symm hk.2.1)]
    exact f.blk b (h.lt b hk.1) hk.2.2
  · rcases hx b hb with h1 | h1
    · exact .inl (h.fc b h1).1
    · exact .inr ⟨h1, ho.lt hb⟩
  · rcases hx b e with h1 | h1
    · exact (h.fk b hb).2.2 h1
    · have := h.lt b (h.fk b hb).1; omega
theorem RefAt.kept {w1 : World} (h : RefAt w rb F vc vk cl kp room hits misses gone) {x : Value} {kp' : KV} (f : Fr (fun b => blockOf vk = some b) w w1) (ho : OwnO w1 100 2 x kp'.length (pairsV kp')) (hx : ∀ b, blockOf x = some b → blockOf vk = some b ∨ w.heap.size ≤ b) :
    RefAt (refP w1 rb room vc x hits misses gone) rb (grown F w w1) vc x cl kp' room hits misses gone ∧ Fr F w (refP w1 rb room vc x hits misses gone) ∧ w1.heap[rb]? = some (.cells (refC room vc vk hits misses gone) 97) := by
  have hrb := h.lt rb h.frb
  have hxr : ∀ b, blockOf x = some b → b ≠ rb := fun b hb e => by
    rcases hx b hb with h1 | h1
    · exact (h.fk b h1).2.1 e
    · omega
  have row1 : w1.heap[rb]? = some (.cells (refC room vc vk hits misses gone) 97) := (f.blk rb hrb fun e => (h.fk rb e).2.1 rfl).trans h.row
  refine ⟨⟨blk_put_same _ (heap_lt row1), ?_, ho.frame fun b hb => blk_put_ne _ (Ne.symm (hxr b hb)), .inl h.frb, fun b hb => ⟨.inl (h.fc b hb).1, (h.fc b hb).2⟩, fun b hb => ⟨?_, hxr b hb, fun e => ?_⟩, fun b hb => by rw [refP_size]; exact grown_lt h.lt f.size b hb⟩, refP_fr (f.mono fun b _ hb => (h.fk b hb).1) fun _ => h.frb, row1⟩
  · refine h.cl.frame fun b hb => ?_
    have hk := h.fc b hb
    unfold refP
    rw [blk_put_ne _ (Ne.symm hk.2)]
    exact f.blk b (h.lt b hk.1) fun e => (h.fk b e).2.2 hb
  · rcases hx b hb with h1 | h1
    · exact .inl (h.fk b h1).1
    · exact .inr ⟨h1, ho.lt hb⟩
  · rcases hx b hb with h1 | h1
    · exact (h.fk b h1).2.2 e
    · have := h.lt b (h.fc b e).1; omega
theorem Fr.none {w w1 : World} {F : Nat → Prop} (f : Fr (fun _ => False) w w1) : Fr F w w1 := f.mono fun _ _ h => h.elim
def trimR (w0 : World) (rb : Nat) (F : Nat → Prop) (cl kp : KV) (room hits misses gone : Nat) (m : Nat) (vs : List Value) (w : World) : Prop :=
  ∃ j vc vk, vs = [ptr (rb, 0)] ∧ m = cl.length - j ∧ j ≤ cl.length - room ∧ RefAt w rb (grown F w0 w) vc vk (cl.drop j) kp room hits misses (gone + j) ∧ Fr F w0 w
theorem trim (h : RefAt w rb F vc vk cl kp room hits misses gone) (hg : gone + cl.length < 8796093020000) :
    Fn Try.prog 56 #[ptr (rb, 0)] w fun x w' => x = .tuple #[] ∧ (∃ vc vk, RefAt w' rb (grown F w w') vc vk (cl.drop (cl.length - room)) kp room hits misses (gone + (cl.length - room))) ∧ Fr F w w' := by
  refine Try.go56 (by simp) ?_
  simp -implicitDefEqProofs only [go_sem, Try.f56]
  refine loopD [0] (trimR w rb F cl kp room hits misses gone) cl.length ⟨0, vc, vk, by simp [upd], by omega, by omega, by rw [List.drop_zero, Nat.add_zero]; exact h.mono (fun _ h => .inl h) (grown_lt h.lt (Nat.le_refl _)), Fr.refl _ _⟩ ?_
  rintro m vs w1 g ⟨j, vc1, vk1, rfl, rfl, hj, h1, f1⟩
  have h1d : RefAt w1.drew rb (grown F w w1) vc1 vk1 (cl.drop j) kp room hits misses (gone + j) := h1.frame (G := fun _ => False) ((Fr.refl _ _).drew) fun _ _ h => h
  obtain ⟨a0, a1, a2, a3, a4, a5⟩ := h1d.rd
  obtain ⟨base, cap, hvc⟩ := h1.cl.slice
  by_cases hlt : room < (cl.drop j).length
  · have hd : decide (((cl.drop j).length : Int) > room) = true := by simp; simpa using hlt
    have hlen : (cl.drop j).length = cl.length - j := by simp
    obtain ⟨hp, _⟩ := own_pairs h1d.cl
    have wo1 := without hp 0 (by omega)
    rw [wo_head, List.drop_drop] at wo1
    subst hvc
    simp -implicitDefEqProofs only [go_sem, Nat.reduceEqDiff, a0, a1, hd]
    refine contL_call Try.pl55 (wo1.mono ?_)
    rintro x w2 ⟨ho, hnew, f2⟩
    obtain ⟨h3, f3, row2⟩ := h1d.clean (x := x) (cl' := cl.drop (j + 1)) (Fr.none f2) ho fun b hb => .inr (hnew b hb)
    have b1 := (wr_row row2).1 x (own_one ho)
    obtain ⟨_, _, _, _, _, c5⟩ := h3.rd
    have c6 := (wr_row h3.row).2.2.2.2 (gone + (j + 1))
    have s1 : IntKind.i64.wrap (((gone + j : Nat) : Int) + 1) = ((gone + (j + 1) : Nat) : Int) := by
      rw [wrap64_id (by omega) (by omega)]; omega
    simp -implicitDefEqProofs only [go_sem, Nat.reduceEqDiff, b1, c5, s1, c6]
    have h4 := h3.count hits misses (gone + (j + 1))
    have f3' := f1.drew.trans' f3 fun b hb h => by
      rcases h with h | h
      · exact h
      · omega
    have f4 := refP_fr (room := room) (vc := x) (vk := vk1) (hits := hits) (misses := misses) (gone := gone + (j + 1)) (rb := rb) f3' (fun _ => h.frb)
    refine ⟨cl.length - (j + 1), by omega, j + 1, x, vk1, rfl, rfl, by omega, h4.mono (fun b hb => ?_) (grown_lt h.lt f4.size), f4⟩
    have := grown_grown (F := F) (w := w) f1.size f2.size b hb
    rcases this with h | h
    · exact .inl h
    · refine .inr ⟨h.1, ?_⟩
      rw [refP_size, refP_size]; exact h.2
  · have hd : decide (((cl.drop j).length : Int) > room) = false := by simp; simpa using hlt
    have hjl : j = cl.length - room := by simp at hlt; omega
    subst hjl
    subst hvc
    simp -implicitDefEqProofs only [go_sem, Nat.reduceEqDiff, a0, a1, hd]
    exact ⟨⟨_, _, h1d⟩, f1.drew⟩
end
end R
end Go.V
