/-
  Slices made since a world began ('Nw'): append, make, copy; values of bytes ('dg'): read, compared, indexed.
-/
import Derived.Test.YtbnabmpchhmckaaGreatDoorLibT
import Derived.Test.YtbnabmpchhmckaaGreatDoorLibQ
import Derived.Laws.MakeOwn
namespace Go.V
variable {P : Program}

/-! ### New slices -/
structure Nw (w0 w : World) (e sz : Nat) (v : Value) (n : Nat) (cs : List Value) : Prop where
  own : OwnO w e sz v n cs
  new : ∀ b, blockOf v = some b → w0.heap.size ≤ b
section
variable {w0 w w' : World} {e sz n : Nat} {v : Value} {cs : List Value}
theorem Nw.nil (w0 w : World) (e sz : Nat) : Nw w0 w e sz (.slice none 0 0) 0 [] := ⟨OwnO.nil _ _ _, fun _ h => by cases h⟩
theorem Nw.fr {F : Nat → Prop} (h : Nw w0 w e sz v n cs) (k : Fr F w w') (hf : ∀ b, blockOf v = some b → ¬ F b) : Nw w0 w' e sz v n cs :=
  ⟨h.own.frame fun b hb => k.blk b (h.own.lt hb) (hf b hb), h.new⟩
theorem Nw.fr0 (h : Nw w0 w e sz v n cs) (k : No w w') : Nw w0 w' e sz v n cs := h.fr k fun _ _ h => h
theorem Nw.rd (h : Nw w0 w e sz v n cs) : Rd w sz v n cs := h.own.rd
theorem Nw.len (h : Nw w0 w e sz v n cs) : cs.length = n * sz := h.own.len
theorem Nw.back {u : World} (h : Nw w0 w e sz v n cs) (hu : u.heap.size ≤ w0.heap.size) : Nw u w e sz v n cs := ⟨h.own, fun b hb => Nat.le_trans hu (h.new b hb)⟩
end
/-- append's types -/
structure AppT (P : Program) (ts : Array TypeId) (e sz by' : Nat) (z : Value) : Prop where
  ex : ∃ t t', ts[0]? = some t ∧ ts[1]? = some t' ∧ slcO P t = some e ∧ intO P t' = none ∧ (P.underlying t').isSome = true
  hsz : szO P e = some sz
  hby : byO P e = some by'
  hz : zeroO P e = some z
  hzs : z.cells.size = sz
theorem fr_size {F : Nat → Prop} {w w' : World} (h : Fr F w w') : w.heap.size ≤ w'.heap.size := h.size
theorem app_nw {w0 w : World} {ts : Array TypeId} {e sz by' : Nat} {z : Value} (ht : AppT P ts e sz by' z) {v : Value} {n : Nat} {cs : List Value} (hv : Nw w0 w e sz v n cs)
    {x : Value} {m : Nat} {news : List Value} (hx : Rd w sz x m news) (hone : news.all one = true) (hsz0 : 0 < sz)
    (hbd : ∀ cap, n ≤ cap → cap < n + m → Builtin.nextslicecap (n + m) cap * by' ≤ 2 ^ 48) (hbd2 : n + m ≤ 9223372036854775807) (hw : w0.heap.size ≤ w.heap.size) :
    ∃ v' w', (Builtin.append_ ts 0 #[v, x]).run P w = .ok v' w' ∧ Nw w0 w' e sz v' (n + m) (cs ++ news) ∧ Fr (fun b => blockOf v = some b) w w' ∧
      ∀ b, blockOf v' = some b → blockOf v = some b ∨ w.heap.size ≤ b := by
  obtain ⟨⟨t, t', h0, h1, hs, hi, hu'⟩, hsz, hby, hz, hzs⟩ := ht
  rcases Nat.eq_zero_or_pos m with rfl | hm
  · obtain ⟨hl, xa, xc, rfl, hxc, _⟩ := hx
    have hn0 : news = [] := List.eq_nil_of_length_eq_zero (by omega)
    subst hn0
    have key : ∃ ba cap, v = .slice ba n cap ∧ n ≤ cap := by
      rcases hv.own with ⟨rfl, rfl, _⟩ | ⟨b, o, cap, c, rfl, _, _, h, _⟩
      · exact ⟨none, 0, rfl, Nat.le_refl _⟩
      · exact ⟨_, _, rfl, h⟩
    obtain ⟨ba, cap, rfl, hcap⟩ := key
    refine ⟨_, w, run_app_zero (P := P) h0 h1 hs hi hu' hsz hcap, ?_, Fr.refl _ _, fun b hb => .inl hb⟩
    rw [List.append_nil]; exact hv
  · obtain ⟨hl, xa, xc, rfl, hxc, hat⟩ := hx
    have hpos : 0 < m * sz := Nat.mul_pos hm hsz0
    obtain ⟨b, o, rfl, hat2⟩ := hat hpos
    have hrow : ∃ (c : Array Value) (ex : TypeId) (fx : Nat × Nat), w.heap[b]? = some (.cells c ex fx) := by
      have h := hat2 0 hpos
      rw [List.getElem?_eq_getElem (by omega)] at h
      obtain ⟨c, ex, fx, h1, _⟩ := rc_row h
      exact ⟨c, ex, fx, h1⟩
    obtain ⟨c, ex, fx, hc⟩ := hrow
    have hcs : ∀ i, i < m * sz → c[o + i]? = news[i]? := fun i hi => by rw [← rc_of_row hc]; exact hat2 i hi
    have hsize : o + m * sz ≤ c.size := by
      have h := hcs (m * sz - 1) (by omega)
      rw [List.getElem?_eq_getElem (by omega)] at h
      have := (Array.getElem?_eq_some_iff.1 h).1
      omega
    obtain ⟨v', w', hr, r⟩ := app_o (P := P) h0 h1 hs hi hu' hsz hby hz hzs hv.own hc hsize (get_extract hl hsize hcs) hone hbd hbd2 hm
    obtain ⟨b', h1', h2'⟩ := r.blk
    refine ⟨v', w', hr, ⟨r.own, fun b hb => ?_⟩, r.fr, fun b hb => ?_⟩
    · rw [h1'] at hb; cases hb
      rcases h2' with h | h
      · exact hv.new _ h
      · omega
    · rw [h1'] at hb; cases hb; exact h2'

/-! ### make, copy -/
theorem run_mk {t e sz by' : Nat} {z : Value} (ht : slcO P t = some e) (hsz : szO P e = some sz) (hby : byO P e = some by') (hz : zeroO P e = some z) {l c : Nat} (hlc : l ≤ c) (hb : by' * c ≤ 2 ^ 48) (h63 : c ≤ 9223372036854775807) (kl kc : IntKind) (w : World) :
    (Instr.makeSlice t (.int kl (l : Int)) (.int kc (c : Int))).run P w = .ok (.slice (some ⟨w.heap.size, 0, none⟩) l c) (w.alloc (.cells (madeCells z.cells (c * sz)) e)) := by
  unfold szO at hsz; unfold byO at hby; unfold zeroO at hz
  cases hi : P.info? e with
  | none => simp [hi] at hsz
  | some i =>
    simp only [hi, Option.map_some, Option.some.injEq, Option.bind_some] at hsz hby hz
    subst hsz hby
    have hb' : (i.bytes : Int) * (c : Int) ≤ 281474976710656 := by
      have h : ((i.bytes * c : Nat) : Int) ≤ 281474976710656 := by omega
      rwa [Int.natCast_mul] at h
    have := run_make (P := P) w t e i z (slcO_und ht) hi hz kl kc (l : Int) (c : Int) (by omega) (by omega) hb' (by omega)
    simpa using this
theorem madeCells_one (z : Value) (n : Nat) : madeCells #[z] n = Array.replicate n z := by
  apply Array.ext_getElem?
  intro i
  simp only [madeCells, Array.getElem?_map, Array.getElem?_range, Array.getElem?_replicate]
  split
  · simp only [Option.map_some, List.size_toArray, List.length_cons, List.length_nil, Nat.zero_add, Nat.mod_one]; rfl
  · rfl
theorem madeCells_rep (z : Value) (k n : Nat) (hk : 0 < k) : madeCells (Array.replicate k z) n = Array.replicate n z := by
  apply Array.ext_getElem?
  intro i
  simp only [madeCells, Array.getElem?_map, Array.getElem?_range, Array.getElem?_replicate]
  split
  · simp [Nat.mod_lt _ hk]
  · rfl
theorem mk_nw (w0 w : World) (e sz l c : Nat) (cells : Array Value) (hw : w0.heap.size ≤ w.heap.size) (hc : cells.size = c * sz) (hl : l ≤ c) :
    Nw w0 (w.alloc (.cells cells e)) e sz (.slice (some ⟨w.heap.size, 0, none⟩) l c) l (cells.toList.take (l * sz)) := by
  have hls : l * sz ≤ c * sz := Nat.mul_le_mul_right sz hl
  refine ⟨.inr ⟨w.heap.size, 0, c, cells, rfl, alloc_blk_new _ _, by omega, hl, by rw [List.length_take, Array.length_toList]; omega, fun i hi => ?_⟩, fun b hb => ?_⟩
  · rw [List.getElem?_take, if_pos hi, Array.getElem?_toList, Nat.zero_add]
  · simp only [blockOf, Option.some.injEq] at hb; omega
theorem rd_first {w : World} {sz m k : Nat} {x : Value} {cells : List Value} (hx : Rd w sz x m cells) (hk : k ≤ m) : (Builtin.firstCells sz k x).run P w = .ok (cells.take (k * sz)).toArray w := by
  obtain ⟨hl, xa, xc, rfl, hxc, hat⟩ := hx
  have hks : k * sz ≤ m * sz := Nat.mul_le_mul_right sz hk
  rcases Nat.eq_zero_or_pos (k * sz) with h0 | h0
  · rw [h0, List.take_zero]
    cases xa with
    | none => rfl
    | some a => simp only [Builtin.firstCells, h0]; rfl
  · obtain ⟨b, o, rfl, hat2⟩ := hat (by omega)
    have hrow : ∃ (c : Array Value) (ex : TypeId) (fx : Nat × Nat), w.heap[b]? = some (.cells c ex fx) := by
      have h := hat2 0 (by omega)
      rw [List.getElem?_eq_getElem (by omega)] at h
      obtain ⟨c, ex, fx, h1, _⟩ := rc_row h
      exact ⟨c, ex, fx, h1⟩
    obtain ⟨c, ex, fx, hc⟩ := hrow
    have hcs : ∀ i, i < k * sz → c[o + i]? = (cells.take (k * sz))[i]? := fun i hi => by
      rw [← rc_of_row hc, hat2 i (by omega), List.getElem?_take, if_pos hi]
    have hsize : o + k * sz ≤ c.size := by
      have h := hcs (k * sz - 1) (by omega)
      rw [List.getElem?_eq_getElem (by rw [List.length_take]; omega)] at h
      have := (Array.getElem?_eq_some_iff.1 h).1
      omega
    have := r_loadCells (P := P) hc hsize
    simp only [Builtin.firstCells, this]
    congr 1
    apply Array.toList_inj.1
    exact get_extract (by rw [List.length_take]; omega) hsize hcs
theorem rd_len {w : World} {sz m : Nat} {x : Value} {cells : List Value} (hx : Rd w sz x m cells) : (Builtin.lenOf x).run P w = .ok m w := by
  obtain ⟨hl, xa, xc, rfl, hxc, hat⟩ := hx
  rfl
theorem run_copy {ts : Array TypeId} {t e sz : Nat} (h0 : ts[0]? = some t) (hs : slcO P t = some e) (hsz : szO P e = some sz) {w : World} {b o dn dc el : Nat} {c : Array Value} (hrow : w.heap[b]? = some (.cells c el (0, 0)))
    {x : Value} {m : Nat} {cells : List Value} (hx : Rd w sz x m cells) (hone : cells.all one = true) (hfit : o + min m dn * sz ≤ c.size) :
    (Builtin.copy_ ts 0 #[.slice (some ⟨b, o, none⟩) dn dc, x]).run P w = .ok (.int .i64 (min m dn : Nat)) (put w b (.cells (storeL (cells.take (min m dn * sz)) o c) el (0, 0))) := by
  have a0 : (#[Value.slice (some ⟨b, o, none⟩) dn dc, x] : Array Value)[0]? = some (.slice (some ⟨b, o, none⟩) dn dc) := rfl
  have a1 : (#[Value.slice (some ⟨b, o, none⟩) dn dc, x] : Array Value)[1]? = some x := rfl
  have hl := hx.1
  have hms : min m dn * sz ≤ m * sz := Nat.mul_le_mul_right sz (Nat.min_le_left _ _)
  have hst := r_storeCells (P := P) (cells.take (min m dn * sz)) w b o 0 c el hrow (by rw [List.length_take]; omega) (by
    rw [List.all_eq_true] at *; intro u hu; exact hone u (List.mem_of_mem_take hu))
  rw [Nat.add_zero] at hst
  simp only [Builtin.copy_, h0, a0, a1, Sem.run_bind, r_und (slcO_und hs), Result.andThen_ok, rd_len hx, r_size hsz, Nat.min_def] at hst ⊢
  rw [show (if m ≤ dn then m else dn) = min m dn from rfl] at hst ⊢
  simp only [rd_first hx (Nat.min_le_left m dn), Result.andThen_ok, hst, Sem.run_pure, goInt]
theorem run_copy_nil {ts : Array TypeId} {t e sz : Nat} (h0 : ts[0]? = some t) (hs : slcO P t = some e) (hsz : szO P e = some sz) {w : World} {dc : Nat}
    {x : Value} {m : Nat} {cells : List Value} (hx : Rd w sz x m cells) :
    (Builtin.copy_ ts 0 #[.slice none 0 dc, x]).run P w = .ok (.int .i64 0) w := by
  have a0 : (#[Value.slice none 0 dc, x] : Array Value)[0]? = some (.slice none 0 dc) := rfl
  have a1 : (#[Value.slice none 0 dc, x] : Array Value)[1]? = some x := rfl
  have hm : Nat.min m 0 = 0 := Nat.min_zero m
  have hf := rd_first (P := P) hx (Nat.zero_le m)
  simp only [Builtin.copy_, h0, a0, a1, Sem.run_bind, r_und (slcO_und hs), Result.andThen_ok, rd_len hx, r_size hsz, hm, hf, Sem.run_pure, goInt]
  rfl

/-! ### Values of bytes -/
abbrev dg (d : List Byte) : Value := .agg (d.map u8).toArray
theorem u8s_one (d : List Byte) : (d.map u8).all one = true := by simp [one]
theorem u8s_all (d : List Byte) : (d.map u8).toArray.all one = true := by rw [← Array.all_toList]; exact u8s_one d
theorem map_u8_inj : ∀ {a b : List Byte}, a.map u8 = b.map u8 → a = b
  | [], [], _ => rfl
  | [], _ :: _, h => by cases h
  | _ :: _, [], h => by cases h
  | x :: a, y :: b, h => by
    rw [List.map_cons, List.map_cons] at h
    injection h with h1 h2
    rw [u8_inj h1, map_u8_inj h2]
theorem dg_inj {a b : List Byte} (h : dg a = dg b) : a = b := by
  simp only [Value.agg.injEq] at h
  have h' := List.toArray_inj h
  exact map_u8_inj h'
theorem dg_size (d : List Byte) : (d.map u8).toArray.size = d.length := by simp
theorem rd_dg {t n : Nat} {w : World} {b o : Nat} {d : List Byte} (ha : aggO P t = some true) (hs : szO P t = some n) (hd : d.length = n) (h0 : 0 < n) (h : ∀ i, i < n → rc w b (o + i) = (d.map u8)[i]?) :
    rdO P t w b o = some (dg d) := rd_rcs ha hs (by rw [dg_size, hd]) h0 fun i hi => by rw [h i hi, List.getElem?_toArray]
theorem mapM_is {α β : Type} {f : α → Option β} {g : α → β} : ∀ {l : List α}, (∀ i ∈ l, f i = some (g i)) → l.mapM f = some (l.map g)
  | [], _ => rfl
  | x :: l, h => by rw [List.mapM_cons, h x (by simp), mapM_is (l := l) fun i hi => h i (by simp [hi])]; rfl
theorem getD_lt {α : Type} {l : List α} {i : Nat} (d : α) (h : i < l.length) : l.getD i d = l[i] := by
  rw [List.getD_eq_getElem?_getD, List.getElem?_eq_getElem h]; rfl
theorem u8_at {d : List Byte} {i : Nat} (h : i < d.length) : (d.map u8).toArray[i]? = some (u8 (d.getD i 0)) := by
  rw [List.getElem?_toArray, List.getElem?_map, List.getElem?_eq_getElem h, Option.map_some, getD_lt _ h]
theorem part_u8 {e : Nat} (ha : aggO P e = some false) {d : List Byte} {i : Nat} (h : i < d.length) : partO P e (d.map u8).toArray i = some (u8 (d.getD i 0)) := by
  simp only [partO, ha, u8_at h]
theorem u8_beq (a b : Byte) : ((a.toNat : Int) == (b.toNat : Int)) = (a == b) := by
  by_cases h : a = b
  · subst h; simp
  · have : ¬ a.toNat = b.toNat := fun e => h (BitVec.eq_of_toNat_eq e)
    rw [show (a == b) = false by simpa using h]
    simp; exact_mod_cast this
theorem all_beq {a b : List Byte} (h : a.length = b.length) : ((List.range a.length).map fun i => a.getD i 0 == b.getD i 0).all id = (a == b) := by
  by_cases he : a = b
  · subst he; simp
  · rw [show (a == b) = false by simpa using he, Bool.eq_false_iff]
    intro hh
    refine he (List.ext_getElem h fun i h1 h2 => ?_)
    have := List.all_eq_true.1 hh (a.getD i 0 == b.getD i 0) (List.mem_map.2 ⟨i, List.mem_range.2 h1, rfl⟩)
    rw [getD_lt _ h1, getD_lt _ h2] at this
    simpa using this
theorem eqV_dg {t n e : Nat} (ha : arrO P t = some (n, e)) (he : intO P e = some .u8) (hs : szO P e = some 1) (hag : aggO P e = some false) {a b : List Byte} (la : a.length = n) (lb : b.length = n) (d : Nat) :
    eqV P (d + 2) t (dg a) (dg b) = some (a == b) := by
  conv => lhs; unfold eqV
  rw [arrO_und ha]
  simp only [hs, Option.bind_some]
  subst la
  rw [mapM_is (g := fun i => a.getD i 0 == b.getD i 0)]
  · rw [Option.map_some, all_beq lb.symm]
  · intro i hi
    have hi' := List.mem_range.1 hi
    rw [Nat.mul_one, part_u8 hag hi', part_u8 hag (by omega)]
    show eqV P (d + 1) e (u8 _) (u8 _) = _
    unfold eqV; rw [intO_und he]; simp only [if_true, u8_beq]
theorem eqm_dg {t n e : Nat} (ha : arrO P t = some (n, e)) (he : intO P e = some .u8) (hs : szO P e = some 1) (hag : aggO P e = some false) {a b : List Byte} (la : a.length = n) (lb : b.length = n) :
    eqV P Op.maxDepth t (dg a) (dg b) = some (a == b) := eqV_dg ha he hs hag la lb 9998
theorem ckV_dg {t n e : Nat} (ha : arrO P t = some (n, e)) (he : intO P e = some .u8) (hs : szO P e = some 1) (hag : aggO P e = some false) {a : List Byte} (la : a.length = n) (d : Nat) : ckV P (d + 2) t (dg a) = true := by
  conv => lhs; unfold ckV
  rw [arrO_und ha]
  simp only [hs]
  refine List.all_eq_true.2 fun i hi => ?_
  have hi' := List.mem_range.1 hi
  rw [Nat.mul_one, part_u8 hag (by omega)]
  show ckV P (d + 1) e _ = true
  unfold ckV
  rw [intO_und he]
/-- bytes stored at one place -/
theorem set_u8 {d : List Byte} {i : Nat} (x : Byte) : ((d.map u8).toArray.setIfInBounds i (u8 x)) = ((d.set i x).map u8).toArray := by
  rw [List.map_set]; simp
end Go.V
