/-
  Slices that a call owns; append.
-/
import Derived.Test.YtbnabmpchhmckaaGreatDoorLibR
import Derived.Test.YtbnabmpchhmckaaGreatDoorLibL
namespace Go.V
variable {P : Program}

def byO (P : Program) (t : TypeId) : Option Nat := (P.info? t).map (·.bytes)
theorem run_app_fit {ts : Array TypeId} {t t' e sz : Nat} {d' : TypeDesc} (h0 : ts[0]? = some t) (h1 : ts[1]? = some t') (hs : slcO P t = some e) (hd' : P.underlying t' = some d') (hne : ∀ k, d' ≠ .int k)
    (hsz : szO P e = some sz) {w w' : World} {b o n cap m xc : Nat} {xa : Option Addr} {new : Array Value} (hfit : n + m ≤ cap)
    (hnew : (Builtin.firstCells sz m (.slice xa m xc)).run P w = .ok new w) (hst : (storeCells ⟨b, o + n * sz, none⟩ new.toList).run P w = .ok () w') :
    (Builtin.append_ ts 0 #[.slice (some ⟨b, o, none⟩) n cap, .slice xa m xc]).run P w = .ok (.slice (some ⟨b, o, none⟩) (n + m) cap) w' := by
  have hsl := r_und (slcO_und hs) w
  have hd := r_und hd' w
  have a0 : (#[Value.slice (some ⟨b, o, none⟩) n cap, .slice xa m xc] : Array Value)[0]? = some (.slice (some ⟨b, o, none⟩) n cap) := rfl
  have a1 : (#[Value.slice (some ⟨b, o, none⟩) n cap, .slice xa m xc] : Array Value)[1]? = some (.slice xa m xc) := rfl
  cases d' <;> first | exact absurd rfl (hne _) | (
    simp only [Builtin.append_, h0, h1, a0, a1, Sem.run_bind, hsl, hd, Result.andThen_ok, r_size hsz, Sem.run_pure, Bool.false_eq_true, if_false, Builtin.lenOf, hfit, if_true, Bool.not_false, hnew, add_off, hst])
theorem run_app_grow {ts : Array TypeId} {t t' e sz : Nat} {d' : TypeDesc} (h0 : ts[0]? = some t) (h1 : ts[1]? = some t') (hs : slcO P t = some e) (hd' : P.underlying t' = some d') (hne : ∀ k, d' ≠ .int k)
    (hsz : szO P e = some sz) {i : TypeInfo} (hi : P.info? e = some i) {z : Value} (hz : zeroO P e = some z) {w : World} {n cap m xc : Nat} {ba xa : Option Addr} {old new : Array Value} (hfit : ¬ n + m ≤ cap)
    (hb1 : ((n + m : Nat) : Int) ≤ IntKind.i64.max) (hb2 : Builtin.nextslicecap (n + m) cap * i.bytes ≤ 2 ^ 48)
    (hold : ∀ u : World, u.heap = w.heap → (Builtin.firstCells sz n (.slice ba n cap)).run P u = .ok old u)
    (hnew : ∀ u : World, u.heap = w.heap → (Builtin.firstCells sz m (.slice xa m xc)).run P u = .ok new u) :
    ∃ nc, n + m ≤ nc ∧ (Builtin.append_ ts 0 #[.slice ba n cap, .slice xa m xc]).run P w = .ok (.slice (some ⟨w.heap.size, 0, none⟩) (n + m) nc) (w.drew.alloc (.cells (old ++ new ++ Builtin.zeroCells z.cells (nc - (n + m))) e)) := by
  have hsl := r_und (slcO_und hs) w
  have hd := r_und hd' w
  have hti : ∀ u : World, (typeInfo e).run P u = .ok i u := fun u => by simp [typeInfo, hi]
  have a0 : (#[Value.slice ba n cap, .slice xa m xc] : Array Value)[0]? = some (.slice ba n cap) := rfl
  have a1 : (#[Value.slice ba n cap, .slice xa m xc] : Array Value)[1]? = some (.slice xa m xc) := rfl
  have c1 : ¬ (((n + m : Nat) : Int) > IntKind.i64.max ∧ (False ∨ i.bytes = 0)) := fun h => by omega
  have c2 : ¬ (Builtin.nextslicecap (n + m) cap * i.bytes > 2 ^ 48) := by omega
  refine ⟨(Question.appendCap (n + m) cap e).cut (w.tape w.drawn (.appendCap (n + m) cap e)), by simp only [Question.cut]; omega, ?_⟩
  have hf : (Question.appendCap (n + m) cap e).forced = false := rfl
  have ho := hold w.drew rfl
  have hn := hnew w.drew rfl
  cases d' <;> first | exact absurd rfl (hne _) | (
    simp only [Builtin.append_, h0, h1, a0, a1, Sem.run_bind, hsl, hd, Result.andThen_ok, r_size hsz, Sem.run_pure, Bool.false_eq_true, if_false, Builtin.lenOf, hfit, hti, c1, c2, run_choose, hf, World.drew_eq, run_askRoom, if_true, Bool.not_false, ho, hn, r_zero hz, newRow]
    rfl)
def blockOf : Value → Option Nat
  | .slice (some a) _ _ => some a.block
  | _ => none
/-- v: nil and empty, or from the head of an unfrozen row of elements e (sz cells each): n elements, the cells cs -/
def OwnS (w : World) (e : TypeId) (sz : Nat) (v : Value) (n : Nat) (cs : List Value) : Prop :=
  (v = .slice none 0 0 ∧ n = 0 ∧ cs = []) ∨
  ∃ b cap c, v = .slice (some ⟨b, 0, none⟩) n cap ∧ w.heap[b]? = some (.cells c e (0, 0)) ∧ c.size = cap * sz ∧ n ≤ cap ∧ cs.length = n * sz ∧ c.toList.take (n * sz) = cs
theorem OwnS.nil (w : World) (e sz : Nat) : OwnS w e sz (.slice none 0 0) 0 [] := .inl ⟨rfl, rfl, rfl⟩
theorem OwnS.frame {w w' : World} {e sz : Nat} {v : Value} {n : Nat} {cs : List Value} (h : OwnS w e sz v n cs) (hf : ∀ b, blockOf v = some b → w'.heap[b]? = w.heap[b]?) : OwnS w' e sz v n cs := by
  rcases h with h | ⟨b, cap, c, rfl, h, r⟩
  · exact .inl h
  · exact .inr ⟨b, cap, c, rfl, (hf b rfl).trans h, r⟩
theorem OwnS.lt {w : World} {e sz : Nat} {v : Value} {n : Nat} {cs : List Value} (h : OwnS w e sz v n cs) {b : Nat} (hb : blockOf v = some b) : b < w.heap.size := by
  rcases h with ⟨rfl, _⟩ | ⟨b', cap, c, rfl, h, r⟩
  · cases hb
  · simp only [blockOf, Option.some.injEq] at hb; subst hb; exact heap_lt h
theorem OwnS.len {w : World} {e sz : Nat} {v : Value} {n : Nat} {cs : List Value} (h : OwnS w e sz v n cs) : cs.length = n * sz := by
  rcases h with ⟨_, rfl, rfl⟩ | ⟨b', cap, c, _, _, _, _, h, _⟩
  · simp
  · exact h

theorem growBy_le (need : Nat) : ∀ (r c : Nat), c ≤ need → Builtin.growBy need r c ≤ 2 * need + 768
  | 0, c, h => by simp [Builtin.growBy]; omega
  | r + 1, c, h => by
    simp only [Builtin.growBy]
    split
    · omega
    · by_cases h2 : c + (c + 768) / 4 ≤ need
      · exact growBy_le need r _ h2
      · have : ∀ r, Builtin.growBy need r (c + (c + 768) / 4) = c + (c + 768) / 4 := by
          intro r
          cases r with
          | zero => rfl
          | succ r => simp only [Builtin.growBy]; rw [if_pos (by omega)]
        rw [this]; omega
theorem nextcap_le {need cap : Nat} (h : cap < need) : Builtin.nextslicecap need cap ≤ 2 * need + 768 := by
  unfold Builtin.nextslicecap
  split
  · omega
  · split
    · omega
    · exact growBy_le need 4 cap (by omega)

/-- append of what lies in memory to a slice of the call's own -/
theorem app_own' {ts : Array TypeId} {t t' e sz by' : Nat} {z : Value} (h0 : ts[0]? = some t) (h1 : ts[1]? = some t') (hs : slcO P t = some e) (hi : intO P t' = none) (hu' : (P.underlying t').isSome = true)
    (hsz : szO P e = some sz) (hby : byO P e = some by') (hz : zeroO P e = some z) (hzs : z.cells.size = sz)
    {w : World} {v : Value} {n : Nat} {cs : List Value} (hv : OwnS w e sz v n cs)
    {xb xo m xc : Nat} {cx : Array Value} {ex : TypeId} {fx : Nat × Nat} {news : List Value} (hx : w.heap[xb]? = some (.cells cx ex fx)) (hxl : xo + m * sz ≤ cx.size) (hnews : (cx.extract xo (xo + m * sz)).toList = news) (hone : news.all one = true)
    (hbd : ∀ cap, n ≤ cap → cap < n + m → Builtin.nextslicecap (n + m) cap * by' ≤ 2 ^ 48) (hbd2 : n + m ≤ 9223372036854775807) (hm : 0 < m) :
    ∃ v' w', (Builtin.append_ ts 0 #[v, .slice (some ⟨xb, xo, none⟩) m xc]).run P w = .ok v' w' ∧ OwnS w' e sz v' (n + m) (cs ++ news) ∧
      (∀ F, (∀ b, blockOf v = some b → F b) → Fr F w w') ∧ (∀ b, b < w.heap.size → blockOf v ≠ some b → w'.heap[b]? = w.heap[b]?) ∧ ∃ b, blockOf v' = some b ∧ (blockOf v = some b ∨ w.heap.size ≤ b) := by
  obtain ⟨d', hd'⟩ := Option.isSome_iff_exists.1 hu'
  have hne : ∀ k, d' ≠ .int k := fun k e => by
    subst e; unfold intO at hi; rw [hd'] at hi; cases hi
  have hnl : news.length = m * sz := by
    rw [← hnews]; simp; omega
  have hnw : ∀ u : World, u.heap = w.heap → (Builtin.firstCells sz m (.slice (some ⟨xb, xo, none⟩) m xc)).run P u = .ok news.toArray u := fun u hu => by
    have := r_loadCells (P := P) (w := u) (b := xb) (o := xo) (n := m * sz) (by rw [hu]; exact hx) hxl
    simp only [Builtin.firstCells, this]
    congr 1
    apply Array.toList_inj.1; rw [hnews]
  have hinfo : ∃ i, P.info? e = some i ∧ i.bytes = by' := by
    unfold byO at hby
    cases hi : P.info? e with
    | none => simp [hi] at hby
    | some i => exact ⟨i, rfl, by simpa [hi] using hby⟩
  obtain ⟨i, hi1, hi2⟩ := hinfo
  have hvl := hv.len
  -- a new row
  have grow : ∀ cap ba, v = .slice ba n cap → n ≤ cap → ¬ n + m ≤ cap → (∀ u : World, u.heap = w.heap → (Builtin.firstCells sz n (.slice ba n cap)).run P u = .ok cs.toArray u) →
      ∃ v' w', (Builtin.append_ ts 0 #[v, .slice (some ⟨xb, xo, none⟩) m xc]).run P w = .ok v' w' ∧ OwnS w' e sz v' (n + m) (cs ++ news) ∧
      (∀ F, (∀ b, blockOf v = some b → F b) → Fr F w w') ∧ (∀ b, b < w.heap.size → blockOf v ≠ some b → w'.heap[b]? = w.heap[b]?) ∧ ∃ b, blockOf v' = some b ∧ (blockOf v = some b ∨ w.heap.size ≤ b) := by
    intro cap ba hvv hncap hfit hold
    subst hvv
    have hb2 : Builtin.nextslicecap (n + m) cap * i.bytes ≤ 2 ^ 48 := by
      rw [hi2]; exact hbd cap hncap (by omega)
    have hmax : IntKind.i64.max = 9223372036854775807 := by decide
    obtain ⟨nc, hnc, hrun⟩ := run_app_grow (P := P) h0 h1 hs hd' hne hsz hi1 hz (w := w) (n := n) (cap := cap) (m := m) (xc := xc) (ba := ba) (xa := some ⟨xb, xo, none⟩) hfit (by rw [hmax]; omega) hb2 hold hnw
    have hrl : (Builtin.zeroCells z.cells (nc - (n + m))).size = (nc - (n + m)) * sz := by rw [← hzs]; simp [Builtin.zeroCells]
    refine ⟨_, _, hrun, .inr ⟨w.heap.size, nc, _, rfl, alloc_blk_new w.drew _, ?_, hnc, ?_, ?_⟩, fun F _ => ((Fr.refl F w).drew).alloc _, fun b hb _ => alloc_blk_old w.drew _ hb, w.heap.size, rfl, .inr (Nat.le_refl _)⟩
    · simp only [Array.size_append, hrl, List.size_toArray, hvl, hnl]
      rw [← Nat.add_mul, ← Nat.add_mul]; congr 1; omega
    · rw [List.length_append, hvl, hnl, Nat.add_mul]
    · simp only [Array.toList_append, List.toList_toArray]
      have hl : (cs ++ news).length = (n + m) * sz := by rw [List.length_append, hvl, hnl, Nat.add_mul]
      rw [List.take_append_of_le_length (by omega), List.take_of_length_le (by omega)]
  rcases hv with ⟨rfl, rfl, rfl⟩ | ⟨b, cap, c, rfl, h, hc, hn, hl, ht⟩
  · exact grow 0 none rfl (Nat.le_refl _) (by omega) fun u _ => rfl
  · by_cases hfit : n + m ≤ cap
    · have hcap : n * sz + news.length ≤ c.size := by
        rw [hnl, hc, ← Nat.add_mul]; exact Nat.mul_le_mul_right _ hfit
      have hst := r_storeCells (P := P) news w b (n * sz) 0 c e h (by simpa using hcap) hone
      have hrun := run_app_fit (P := P) h0 h1 hs hd' hne hsz (w := w) (b := b) (o := 0) (n := n) (cap := cap) (m := m) (xc := xc) (xa := some ⟨xb, xo, none⟩) hfit (hnw w rfl) (by rw [Nat.zero_add]; exact hst)
      refine ⟨_, _, hrun, .inr ⟨b, cap, _, rfl, blk_put_same _ (heap_lt h), ?_, hfit, ?_, ?_⟩, fun F hF => (Fr.refl F w).put _ (fun _ => hF b rfl), fun b' _ hb => blk_put_ne _ (fun e => hb (by simp [blockOf, e])), b, rfl, .inl rfl⟩
      · rw [storeL_size]; exact hc
      · rw [List.length_append, hl, hnl, Nat.add_mul]
      · rw [Nat.add_zero, storeL_list _ _ _ hcap, Nat.add_mul, ← hnl]
        have h5 : (c.toList.take (n * sz) ++ news).length = n * sz + news.length := by
          rw [List.length_append, ht, hl]
        rw [List.take_append_of_le_length (by omega), List.take_of_length_le (by omega), ht]
    · refine grow cap _ rfl hn hfit fun u hu => ?_
      have hle : 0 + n * sz ≤ c.size := by rw [hc]; simpa using Nat.mul_le_mul_right sz hn
      have := r_loadCells (P := P) (w := u) (b := b) (o := 0) (n := n * sz) (by rw [hu]; exact h) hle
      simp only [Builtin.firstCells, this]
      congr 1
      apply Array.toList_inj.1
      simp [← ht]
/-- append of what lies in memory to a slice of the call's own -/
theorem app_own {ts : Array TypeId} {t t' e sz by' : Nat} {z : Value} (h0 : ts[0]? = some t) (h1 : ts[1]? = some t') (hs : slcO P t = some e) (hi : intO P t' = none) (hu' : (P.underlying t').isSome = true)
    (hsz : szO P e = some sz) (hby : byO P e = some by') (hz : zeroO P e = some z) (hzs : z.cells.size = sz)
    {w : World} {v : Value} {n : Nat} {cs : List Value} (hv : OwnS w e sz v n cs)
    {xb xo m xc : Nat} {cx : Array Value} {ex : TypeId} {fx : Nat × Nat} {news : List Value} (hx : w.heap[xb]? = some (.cells cx ex fx)) (hxl : xo + m * sz ≤ cx.size) (hnews : (cx.extract xo (xo + m * sz)).toList = news) (hone : news.all one = true)
    (hbd : (2 * (n + m) + 768) * by' ≤ 2 ^ 48) (hbd2 : n + m ≤ 9223372036854775807) (hm : 0 < m) :
    ∃ v' w', (Builtin.append_ ts 0 #[v, .slice (some ⟨xb, xo, none⟩) m xc]).run P w = .ok v' w' ∧ OwnS w' e sz v' (n + m) (cs ++ news) ∧
      (∀ F, (∀ b, blockOf v = some b → F b) → Fr F w w') ∧ (∀ b, b < w.heap.size → blockOf v ≠ some b → w'.heap[b]? = w.heap[b]?) ∧ ∃ b, blockOf v' = some b ∧ (blockOf v = some b ∨ w.heap.size ≤ b) := by
  refine app_own' h0 h1 hs hi hu' hsz hby hz hzs hv hx hxl hnews hone (fun cap _ hc => ?_) hbd2 hm
  have := nextcap_le (need := n + m) (cap := cap) (by omega)
  have h2 := Nat.mul_le_mul_right by' this
  omega
theorem nextcap1_le {n cap : Nat} (h : n ≤ cap) (h2 : cap < n + 1) : Builtin.nextslicecap (n + 1) cap ≤ n + n / 4 + 1024 := by
  have : cap = n := by omega
  subst this
  unfold Builtin.nextslicecap
  split
  · omega
  · split
    · omega
    · simp only [Builtin.growBy]
      rw [if_neg (by omega), if_pos (by omega)]
      omega
/-- v: nil and empty, or in an unfrozen row of elements e (sz cells each): n elements, the cells cs -/
def OwnO (w : World) (e : TypeId) (sz : Nat) (v : Value) (n : Nat) (cs : List Value) : Prop :=
  (v = .slice none 0 0 ∧ n = 0 ∧ cs = []) ∨
  ∃ b o cap c, v = .slice (some ⟨b, o, none⟩) n cap ∧ w.heap[b]? = some (.cells c e (0, 0)) ∧ o + cap * sz ≤ c.size ∧ n ≤ cap ∧ cs.length = n * sz ∧ ∀ i, i < n * sz → c[o + i]? = cs[i]?
section
variable {w w' : World} {e sz n : Nat} {v : Value} {cs : List Value}
theorem OwnO.nil (w : World) (e sz : Nat) : OwnO w e sz (.slice none 0 0) 0 [] := .inl ⟨rfl, rfl, rfl⟩
theorem OwnO.frame (h : OwnO w e sz v n cs) (hf : ∀ b, blockOf v = some b → w'.heap[b]? = w.heap[b]?) : OwnO w' e sz v n cs := by
  rcases h with h | ⟨b, o, cap, c, rfl, h, r⟩
  · exact .inl h
  · exact .inr ⟨b, o, cap, c, rfl, (hf b rfl).trans h, r⟩
theorem OwnO.lt (h : OwnO w e sz v n cs) {b : Nat} (hb : blockOf v = some b) : b < w.heap.size := by
  rcases h with ⟨rfl, _⟩ | ⟨b', o, cap, c, rfl, h, r⟩
  · cases hb
  · simp only [blockOf, Option.some.injEq] at hb; subst hb; exact heap_lt h
theorem OwnO.len (h : OwnO w e sz v n cs) : cs.length = n * sz := by
  rcases h with ⟨_, rfl, rfl⟩ | ⟨b', o, cap, c, _, _, _, _, h, _⟩
  · simp
  · exact h
theorem OwnO.slice (h : OwnO w e sz v n cs) : ∃ base cap, v = .slice base n cap := by
  rcases h with ⟨rfl, rfl, rfl⟩ | ⟨b, o, cap, c, rfl, _⟩
  · exact ⟨_, _, rfl⟩
  · exact ⟨_, _, rfl⟩
/-- one cell of it -/
theorem OwnO.at (h : OwnO w e sz v n cs) {i : Nat} (hi : i < n * sz) : ∃ b o cap, v = .slice (some ⟨b, o, none⟩) n cap ∧ cv w b (o + i) = cs[i]? := by
  rcases h with ⟨rfl, rfl, rfl⟩ | ⟨b, o, cap, c, rfl, h, _, _, _, hc⟩
  · omega
  · exact ⟨b, o, cap, rfl, by rw [cv_of_row h]; exact hc i hi⟩
theorem OwnS.toO (h : OwnS w e sz v n cs) : OwnO w e sz v n cs := by
  rcases h with h | ⟨b, cap, c, rfl, h, hc, hn, hl, ht⟩
  · exact .inl h
  · refine .inr ⟨b, 0, cap, c, rfl, h, by omega, hn, hl, fun i hi => ?_⟩
    rw [← ht, Nat.zero_add, List.getElem?_take, if_pos hi, Array.getElem?_toList]
end
theorem get_extract {c : Array Value} {o k : Nat} {l : List Value} (hl : l.length = k) (hs : o + k ≤ c.size) (h : ∀ i, i < k → c[o + i]? = l[i]?) : (c.extract o (o + k)).toList = l := by
  apply List.ext_getElem?
  intro i
  rw [Array.getElem?_toList, Array.getElem?_extract]
  split
  · exact h i (by omega)
  · rw [List.getElem?_eq_none (by omega)]
/-- what an append does -/
structure AppR (w w' : World) (e sz : Nat) (v v' : Value) (n : Nat) (cs news : List Value) : Prop where
  own : OwnO w' e sz v' n cs
  fr : Fr (fun b => blockOf v = some b) w w'
  blk : ∃ b, blockOf v' = some b ∧ (blockOf v = some b ∨ w.heap.size ≤ b)
  cell : ∀ b o u, cv w b o = some u → cv w' b o = some u ∨ ∃ x ∈ news, cv w' b o = some x
  row : ∀ (b : Nat) (c : Array Value) (t : TypeId), w.heap[b]? = some (Obj.cells c t (0, 0)) → ∃ c' : Array Value, w'.heap[b]? = some (Obj.cells c' t (0, 0)) ∧ c'.size = c.size
/-- append of what lies in memory to a slice of the call's own -/
theorem app_o {ts : Array TypeId} {t t' e sz by' : Nat} {z : Value} (h0 : ts[0]? = some t) (h1 : ts[1]? = some t') (hs : slcO P t = some e) (hi : intO P t' = none) (hu' : (P.underlying t').isSome = true)
    (hsz : szO P e = some sz) (hby : byO P e = some by') (hz : zeroO P e = some z) (hzs : z.cells.size = sz)
    {w : World} {v : Value} {n : Nat} {cs : List Value} (hv : OwnO w e sz v n cs)
    {xb xo m xc : Nat} {cx : Array Value} {ex : TypeId} {fx : Nat × Nat} {news : List Value} (hx : w.heap[xb]? = some (.cells cx ex fx)) (hxl : xo + m * sz ≤ cx.size) (hnews : (cx.extract xo (xo + m * sz)).toList = news) (hone : news.all one = true)
    (hbd : ∀ cap, n ≤ cap → cap < n + m → Builtin.nextslicecap (n + m) cap * by' ≤ 2 ^ 48) (hbd2 : n + m ≤ 9223372036854775807) (hm : 0 < m) :
    ∃ v' w', (Builtin.append_ ts 0 #[v, .slice (some ⟨xb, xo, none⟩) m xc]).run P w = .ok v' w' ∧ AppR w w' e sz v v' (n + m) (cs ++ news) news := by
  obtain ⟨d', hd'⟩ := Option.isSome_iff_exists.1 hu'
  have hne : ∀ k, d' ≠ .int k := fun k e => by
    subst e; unfold intO at hi; rw [hd'] at hi; cases hi
  have hnl : news.length = m * sz := by
    rw [← hnews]; simp; omega
  have hnw : ∀ u : World, u.heap = w.heap → (Builtin.firstCells sz m (.slice (some ⟨xb, xo, none⟩) m xc)).run P u = .ok news.toArray u := fun u hu => by
    have := r_loadCells (P := P) (w := u) (b := xb) (o := xo) (n := m * sz) (by rw [hu]; exact hx) hxl
    simp only [Builtin.firstCells, this]
    congr 1
    apply Array.toList_inj.1; rw [hnews]
  have hinfo : ∃ i, P.info? e = some i ∧ i.bytes = by' := by
    unfold byO at hby
    cases hi : P.info? e with
    | none => simp [hi] at hby
    | some i => exact ⟨i, rfl, by simpa [hi] using hby⟩
  obtain ⟨i, hi1, hi2⟩ := hinfo
  have hvl := hv.len
  have grow : ∀ cap ba, v = .slice ba n cap → n ≤ cap → ¬ n + m ≤ cap → (∀ u : World, u.heap = w.heap → (Builtin.firstCells sz n (.slice ba n cap)).run P u = .ok cs.toArray u) →
      ∃ v' w', (Builtin.append_ ts 0 #[v, .slice (some ⟨xb, xo, none⟩) m xc]).run P w = .ok v' w' ∧ AppR w w' e sz v v' (n + m) (cs ++ news) news := by
    intro cap ba hvv hncap hfit hold
    subst hvv
    have hb2 : Builtin.nextslicecap (n + m) cap * i.bytes ≤ 2 ^ 48 := by
      rw [hi2]; exact hbd cap hncap (by omega)
    have hmax : IntKind.i64.max = 9223372036854775807 := by decide
    obtain ⟨nc, hnc, hrun⟩ := run_app_grow (P := P) h0 h1 hs hd' hne hsz hi1 hz (w := w) (n := n) (cap := cap) (m := m) (xc := xc) (ba := ba) (xa := some ⟨xb, xo, none⟩) hfit (by rw [hmax]; omega) hb2 hold hnw
    have hrl : (Builtin.zeroCells z.cells (nc - (n + m))).size = (nc - (n + m)) * sz := by rw [← hzs]; simp [Builtin.zeroCells]
    have hl : (cs ++ news).length = (n + m) * sz := by rw [List.length_append, hvl, hnl, Nat.add_mul]
    refine ⟨_, _, hrun, .inr ⟨w.heap.size, 0, nc, _, rfl, alloc_blk_new w.drew _, ?_, hnc, hl, fun i hi => ?_⟩, ((Fr.refl _ w).drew).alloc _, ⟨w.heap.size, rfl, .inr (Nat.le_refl _)⟩, fun b o u hu => .inl ?_, fun b c t hb => ⟨c, (alloc_blk_old w.drew _ (heap_lt hb)).trans hb, rfl⟩⟩
    · simp only [Array.size_append, hrl, List.size_toArray, hvl, hnl]
      rw [← Nat.add_mul, ← Nat.add_mul, Nat.zero_add]; exact Nat.mul_le_mul_right _ (by omega)
    · rw [Nat.zero_add, Array.getElem?_append_left (by simp only [Array.size_append, List.size_toArray]; rw [← List.length_append, hl]; exact hi)]
      rw [← Array.getElem?_toList, Array.toList_append]
    · rw [cv_blk (alloc_blk_old w.drew _ (cv_lt hu))]; exact hu
  rcases hv with ⟨rfl, rfl, rfl⟩ | ⟨b, o, cap, c, rfl, h, hc, hn, hl, ht⟩
  · exact grow 0 none rfl (Nat.le_refl _) (by omega) fun u _ => rfl
  · by_cases hfit : n + m ≤ cap
    · have hms := Nat.mul_le_mul_right sz hfit
      rw [Nat.add_mul] at hms
      have hcap : o + n * sz + news.length ≤ c.size := by rw [hnl]; omega
      have hst := r_storeCells (P := P) news w b (o + n * sz) 0 c e h (by simpa using hcap) hone
      have hrun := run_app_fit (P := P) h0 h1 hs hd' hne hsz (w := w) (b := b) (o := o) (n := n) (cap := cap) (m := m) (xc := xc) (xa := some ⟨xb, xo, none⟩) hfit (hnw w rfl) hst
      rw [Nat.add_zero] at hrun
      refine ⟨_, _, hrun, .inr ⟨b, o, cap, _, rfl, blk_put_same _ (heap_lt h), ?_, hfit, ?_, fun i hi => ?_⟩, (Fr.refl _ w).put _ (fun _ => rfl), ⟨b, rfl, .inl rfl⟩, fun b' o' u hu => ?_, fun b' c2 t hb' => ?_⟩
      · rw [storeL_size]; exact hc
      · rw [List.length_append, hl, hnl, Nat.add_mul]
      · rw [storeL_get]
        rw [Nat.add_mul] at hi
        by_cases h2 : i < n * sz
        · rw [if_neg (by omega), List.getElem?_append_left (by omega)]; exact ht i h2
        · rw [if_pos (by omega), List.getElem?_append_right (by omega), hl]
          congr 1; omega
      · by_cases hb : b' = b
        · subst hb
          rw [cv_of_row h] at hu
          have e1 : cv (put w b' (.cells (storeL news (o + n * sz) c) e (0, 0))) b' o' = (storeL news (o + n * sz) c)[o']? := cv_of_row (blk_put_same _ (heap_lt h))
          rw [e1, storeL_get]
          split
          · rename_i hh
            right
            obtain ⟨x, hx⟩ : ∃ x, news[o' - (o + n * sz)]? = some x := ⟨_, List.getElem?_eq_getElem (by omega)⟩
            exact ⟨x, List.mem_of_getElem? hx, hx⟩
          · exact .inl hu
        · left
          rw [cv_blk (blk_put_ne _ (Ne.symm hb))]; exact hu
      · by_cases hb : b' = b
        · subst hb
          rw [h] at hb'
          simp only [Option.some.injEq, Obj.cells.injEq] at hb'
          obtain ⟨rfl, rfl, _⟩ := hb'
          exact ⟨_, blk_put_same _ (heap_lt h), storeL_size _ _ _⟩
        · exact ⟨c2, (blk_put_ne _ (Ne.symm hb)).trans hb', rfl⟩
    · refine grow cap _ rfl hn hfit fun u hu => ?_
      have hle : o + n * sz ≤ c.size := by have := Nat.mul_le_mul_right sz hn; omega
      have := r_loadCells (P := P) (w := u) (b := b) (o := o) (n := n * sz) (by rw [hu]; exact h) hle
      simp only [Builtin.firstCells, this]
      congr 1
      apply Array.toList_inj.1
      exact get_extract hl hle ht
/-- append of m elements that were just laid down -/
theorem app_new {ts : Array TypeId} {t t' e sz by' : Nat} {z : Value} (h0 : ts[0]? = some t) (h1 : ts[1]? = some t') (hs : slcO P t = some e) (hi : intO P t' = none) (hu' : (P.underlying t').isSome = true)
    (hsz : szO P e = some sz) (hby : byO P e = some by') (hz : zeroO P e = some z) (hzs : z.cells.size = sz)
    {w : World} {v : Value} {n : Nat} {cs : List Value} (hv : OwnO w e sz v n cs) {m : Nat} (xs : Array Value) (hxs : xs.size = m * sz) (hone : xs.toList.all one = true)
    (hbd : (2 * (n + m) + 768) * by' ≤ 2 ^ 48) (hbd2 : n + m ≤ 9223372036854775807) (hm : 0 < m) :
    ∃ v' w', (Builtin.append_ ts 0 #[v, .slice (some ⟨w.heap.size, 0, none⟩) m m]).run P (w.alloc (.cells xs e)) = .ok v' w' ∧ AppR w w' e sz v v' (n + m) (cs ++ xs.toList) xs.toList := by
  have hv1 : OwnO (w.alloc (.cells xs e)) e sz v n cs := hv.frame fun b hb => alloc_blk_old _ _ (hv.lt hb)
  obtain ⟨v', w', h, r⟩ := app_o (P := P) h0 h1 hs hi hu' hsz hby hz hzs hv1 (xb := w.heap.size) (xo := 0) (m := m) (xc := m) (cx := xs) (news := xs.toList) (alloc_blk_new _ _) (by omega) (by
    rw [Nat.zero_add, Array.extract_eq_self_of_le (by omega)]) hone (fun cap _ hc => by
    have := nextcap_le (need := n + m) (cap := cap) (by omega)
    have h2 := Nat.mul_le_mul_right by' this
    omega) hbd2 hm
  refine ⟨v', w', h, r.own, (Fr.trans' ((Fr.refl _ w).alloc _) r.fr fun b _ hb => hb), ?_, fun b o u hu => r.cell b o u ?_, fun b c t hb => r.row b c t ((alloc_blk_old _ _ (heap_lt hb)).trans hb)⟩
  · obtain ⟨b, h1, h2⟩ := r.blk
    refine ⟨b, h1, h2.imp id fun h => ?_⟩
    rw [alloc_heap_size] at h; omega
  · rw [cv_blk (alloc_blk_old _ _ (cv_lt hu))]; exact hu
/-- a slice of equal cells stays so under an append of such -/
theorem AppR.stay {w w' : World} {e sz n : Nat} {v v' : Value} {cs news : List Value} (r : AppR w w' e sz v v' n cs news) {x : Value} {t sx nx : Nat} {y : Value} (h : OwnO w t sx x nx (List.replicate (nx * sx) y)) (hn : ∀ u ∈ news, u = y) :
    OwnO w' t sx x nx (List.replicate (nx * sx) y) := by
  rcases h with h | ⟨b, o, cap, c, rfl, h1, h2, h3, h4, h5⟩
  · exact .inl h
  · obtain ⟨c', e1, e2⟩ := r.row b c t h1
    refine .inr ⟨b, o, cap, c', rfl, e1, by omega, h3, h4, fun i hi => ?_⟩
    have e3 := h5 i hi
    rw [List.getElem?_replicate, if_pos hi] at e3 ⊢
    have e4 : cv w b (o + i) = some y := by rw [cv_of_row h1]; exact e3
    rw [← cv_of_row e1]
    rcases r.cell b (o + i) y e4 with h | ⟨u, hu, h⟩
    · exact h
    · rw [h, hn u hu]
theorem run_app_zero {ts : Array TypeId} {t t' e sz : Nat} (h0 : ts[0]? = some t) (h1 : ts[1]? = some t') (hs : slcO P t = some e) (hi : intO P t' = none) (hu' : (P.underlying t').isSome = true)
    (hsz : szO P e = some sz) {w : World} {n cap xc : Nat} {ba xa : Option Addr} (hn : n ≤ cap) :
    (Builtin.append_ ts 0 #[.slice ba n cap, .slice xa 0 xc]).run P w = .ok (.slice ba n cap) w := by
  obtain ⟨d', hd'⟩ := Option.isSome_iff_exists.1 hu'
  have hne : ∀ k, d' ≠ .int k := fun k e => by
    subst e; unfold intO at hi; rw [hd'] at hi; cases hi
  have hsl := r_und (slcO_und hs) w
  have hd := r_und hd' w
  have a0 : (#[Value.slice ba n cap, .slice xa 0 xc] : Array Value)[0]? = some (.slice ba n cap) := rfl
  have a1 : (#[Value.slice ba n cap, .slice xa 0 xc] : Array Value)[1]? = some (.slice xa 0 xc) := rfl
  have hf : (Builtin.firstCells sz 0 (.slice xa 0 xc)).run P w = .ok #[] w := by
    cases xa with
    | none => rfl
    | some a => simp only [Builtin.firstCells, Nat.zero_mul]; rfl
  cases ba <;> cases d' <;> first | exact absurd rfl (hne _) | (
    simp only [Builtin.append_, h0, h1, a0, a1, Sem.run_bind, hsl, hd, Result.andThen_ok, r_size hsz, Sem.run_pure, Bool.false_eq_true, if_false, Builtin.lenOf, Nat.add_zero, hn, if_true, Bool.not_false, hf, storeCells])
end Go.V
