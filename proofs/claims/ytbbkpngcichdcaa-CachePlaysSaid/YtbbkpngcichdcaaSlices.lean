/-
  Slices that a call owns; append.
-/
import Derived.Test.YtbbkpngcichdcaaLibL
import Derived.Test.YtbbkpngcichdcaaCacheC
namespace Go.V
variable {P : Program}

def byO (P : Program) (t : TypeId) : Option Nat := (P.info? t).map (·.bytes)
theorem run_app_fit {ts : Array TypeId} {t t' e sz : Nat} {d' : TypeDesc} (h0 : ts[0]? = some t) (h1 : ts[1]? = some t') (hs : slcO P t = some e) (hd' : P.underlying t' = some d') (hne : ∀ k, d' ≠ .int k)
    (hsz : szO P e = some sz) {w w' : World} {b o n cap m xc : Nat} {xa : Option Addr} {new : Array Value} (hfit : n + m ≤ cap)
    (hnew : (Builtin.firstCells sz m (.slice xa m xc)).run P w = .ok new w) (hst : (storeCells ⟨b, o + n * sz, none⟩ new.toList).run P w = .ok () w') :
    (Builtin.append_ ts 0 #[.slice (some ⟨b, o, none⟩) n cap, .slice xa m xc]).run P w = .ok (.slice (some ⟨b, o, none⟩) (n + m) cap) w' := by
  have hsl := r_und (slcO_und hs) w
  have hd := r_und hd' w
  have a0 : (#[Value.slice (some ⟨b, o, none⟩) n cap, .slice xa m xc] : Array Value)[0]? = some (.slice (some ⟨b, o, none⟩) n cap) := rfl
  have a1 : (#[Value.slice (some ⟨b, o, none⟩) n cap, .slice xa m xc] : Array Value)[1]? = some (.slice xa m xc) := rfl
  cases d' <;> first | exact absurd rfl (hne _) | (
    simp only [Builtin.append_, h0, h1, a0, a1, Sem.run_bind, hsl, hd, Result.andThen_ok, r_size hsz, Sem.run_pure, Bool.false_eq_true, if_false, Builtin.lenOf, hfit, if_true, Bool.not_false, hnew, add_off, hst])
theorem run_app_grow {ts : Array TypeId} {t t' e sz : Nat} {d' : TypeDesc} (h0 : ts[0]? = some t) (h1 : ts[1]? = some t') (hs : slcO P t = some e) (hd' : P.underlying t' = some d') (hne : ∀ k, d' ≠ .int k)
    (hsz : szO P e = some sz) {i : TypeInfo} (hi : P.info? e = some i) {z : Value} (hz : zeroO P e = some z) {w : World} {n cap m xc : Nat} {ba xa : Option Addr} {old new : Array Value} (hfit : ¬ n + m ≤ cap)
    (hb1 : ((n + m : Nat) : Int) ≤ IntKind.i64.max) (hb2 : Builtin.nextslicecap (n + m) cap * i.bytes ≤ 2 ^ 48)
    (hold : ∀ u : World, u.heap = w.heap → (Builtin.firstCells sz n (.slice ba n cap)).run P u = .ok old u)
    (hnew : ∀ u : World, u.heap = w.heap → (Builtin.firstCells sz m (.slice xa m xc)).run P u = .ok new u) :
    ∃ nc, n + m ≤ nc ∧ (Builtin.append_ ts 0 #[.slice ba n cap, .slice xa m xc]).run P w = .ok (.slice (some ⟨w.heap.size, 0, none⟩) (n + m) nc) (w.drew.alloc (.cells (old ++ new ++ Builtin.zeroCells z.cells (nc - (n + m))) e)) := by
  have hsl := r_und (slcO_und hs) w
  have hd := r_und hd' w
  have hti : ∀ u : World, (typeInfo e).run P u = .ok i u := fun u => by simp [typeInfo, hi]
  have a0 : (#[Value.slice ba n cap, .slice xa m xc] : Array Value)[0]? = some (.slice ba n cap) := rfl
  have a1 : (#[Value.slice ba n cap, .slice xa m xc] : Array Value)[1]? = some (.slice xa m xc) := rfl
  have c1 : ¬ (((n + m : Nat) : Int) > IntKind.i64.max ∧ (False ∨ i.bytes = 0)) := fun h => by omega
  have c2 : ¬ (Builtin.nextslicecap (n + m) cap * i.bytes > 2 ^ 48) := by omega
  refine ⟨(Question.appendCap (n + m) cap e).cut (w.tape w.drawn (.appendCap (n + m) cap e)), by simp only [Question.cut]; omega, ?_⟩
  have hf : (Question.appendCap (n + m) cap e).forced = false := rfl
  have ho := hold w.drew rfl
  have hn := hnew w.drew rfl
  cases d' <;> first | exact absurd rfl (hne _) | (
    simp only [Builtin.append_, h0, h1, a0, a1, Sem.run_bind, hsl, hd, Result.andThen_ok, r_size hsz, Sem.run_pure, Bool.false_eq_true, if_false, Builtin.lenOf, hfit, hti, c1, c2, run_choose, hf, World.drew_eq, run_askRoom, if_true, Bool.not_false, ho, hn, r_zero hz, newRow]
    rfl)
def blockOf : Value → Option Nat
  | .slice (some a) _ _ => some a.block
  | _ => none
/-- v: nil and empty, or from the head of an unfrozen row of elements e (sz cells each): n elements, the cells cs -/
def OwnS (w : World) (e : TypeId) (sz : Nat) (v : Value) (n : Nat) (cs : List Value) : Prop :=
  (v = .slice none 0 0 ∧ n = 0 ∧ cs = []) ∨
  ∃ b cap c, v = .slice (some ⟨b, 0, none⟩) n cap ∧ w.heap[b]? = some (.cells c e (0, 0)) ∧ c.size = cap * sz ∧ n ≤ cap ∧ cs.length = n * sz ∧ c.toList.take (n * sz) = cs
theorem OwnS.nil (w : World) (e sz : Nat) : OwnS w e sz (.slice none 0 0) 0 [] := .inl ⟨rfl, rfl, rfl⟩
theorem OwnS.frame {w w' : World} {e sz : Nat} {v : Value} {n : Nat} {cs : List Value} (h : OwnS w e sz v n cs) (hf : ∀ b, blockOf v = some b → w'.heap[b]? = w.heap[b]?) : OwnS w' e sz v n cs := by
  rcases h with h | ⟨b, cap, c, rfl, h, r⟩
  · exact .inl h
  · exact .inr ⟨b, cap, c, rfl, (hf b rfl).trans h, r⟩
theorem OwnS.lt {w : World} {e sz : Nat} {v : Value} {n : Nat} {cs : List Value} (h : OwnS w e sz v n cs) {b : Nat} (hb : blockOf v = some b) : b < w.heap.size := by
  rcases h with ⟨rfl, _⟩ | ⟨b', cap, c, rfl, h, r⟩
  · cases hb
  · simp only [blockOf, Option.some.injEq] at hb; subst hb; exact heap_lt h
theorem OwnS.len {w : World} {e sz : Nat} {v : Value} {n : Nat} {cs : List Value} (h : OwnS w e sz v n cs) : cs.length = n * sz := by
  rcases h with ⟨_, rfl, rfl⟩ | ⟨b', cap, c, _, _, _, _, h, _⟩
  · simp
  · exact h

theorem growBy_le (need : Nat) : ∀ (r c : Nat), c ≤ need → Builtin.growBy need r c ≤ 2 * need + 768
  | 0, c, h => by simp [Builtin.growBy]; omega
  | r + 1, c, h => by
    simp only [Builtin.growBy]
    split
    · omega
    · by_cases h2 : c + (c + 768) / 4 ≤ need
      · exact growBy_le need r _ h2
      · have : ∀ r, Builtin.growBy need r (c + (c + 768) / 4) = c + (c + 768) / 4 := by
          intro r
          cases r with
          | zero => rfl
          | succ r => simp only [Builtin.growBy]; rw [if_pos (by omega)]
        rw [this]; omega
theorem nextcap_le {need cap : Nat} (h : cap < need) : Builtin.nextslicecap need cap ≤ 2 * need + 768 := by
  unfold Builtin.nextslicecap
  split
  · omega
  · split
    · omega
    · exact growBy_le need 4 cap (by omega)

/-- append of what lies in memory to a slice of the call's own -/
theorem app_own' {ts : Array TypeId} {t t' e sz by' : Nat} {z : Value} (h0 : ts[0]? = some t) (h1 : ts[1]? = some t') (hs : slcO P t = some e) (hi : intO P t' = none) (hu' : (P.underlying t').isSome = true)
    (hsz : szO P e = some sz) (hby : byO P e = some by') (hz : zeroO P e = some z) (hzs : z.cells.size = sz)
    {w : World} {v : Value} {n : Nat} {cs : List Value} (hv : OwnS w e sz v n cs)
    {xb xo m xc : Nat} {cx : Array Value} {ex : TypeId} {fx : Nat × Nat} {news : List Value} (hx : w.heap[xb]? = some (.cells cx ex fx)) (hxl : xo + m * sz ≤ cx.size) (hnews : (cx.extract xo (xo + m * sz)).toList = news) (hone : news.all one = true)
    (hbd : ∀ cap, n ≤ cap → cap < n + m → Builtin.nextslicecap (n + m) cap * by' ≤ 2 ^ 48) (hbd2 : n + m ≤ 9223372036854775807) (hm : 0 < m) :
    ∃ v' w', (Builtin.append_ ts 0 #[v, .slice (some ⟨xb, xo, none⟩) m xc]).run P w = .ok v' w' ∧ OwnS w' e sz v' (n + m) (cs ++ news) ∧
      (∀ F, (∀ b, blockOf v = some b → F b) → Fr F w w') ∧ (∀ b, b < w.heap.size → blockOf v ≠ some b → w'.heap[b]? = w.heap[b]?) ∧ ∃ b, blockOf v' = some b ∧ (blockOf v = some b ∨ w.heap.size ≤ b) := by
  obtain ⟨d', hd'⟩ := Option.isSome_iff_exists.1 hu'
  have hne : ∀ k, d' ≠ .int k := fun k e => by
    subst e; unfold intO at hi; rw [hd'] at hi; cases hi
  have hnl : news.length = m * sz := by
    rw [← hnews]; simp; omega
  have hnw : ∀ u : World, u.heap = w.heap → (Builtin.firstCells sz m (.slice (some ⟨xb, xo, none⟩) m xc)).run P u = .ok news.toArray u := fun u hu => by
    have := r_loadCells (P := P) (w := u) (b := xb) (o := xo) (n := m * sz) (by rw [hu]; exact hx) hxl
    simp only [Builtin.firstCells, this]
    congr 1
    apply Array.toList_inj.1; rw [hnews]
  have hinfo : ∃ i, P.info? e = some i ∧ i.bytes = by' := by
    unfold byO at hby
    cases hi : P.info? e with
    | none => simp [hi] at hby
    | some i => exact ⟨i, rfl, by simpa [hi] using hby⟩
  obtain ⟨i, hi1, hi2⟩ := hinfo
  have hvl := hv.len
  -- a new row
  have grow : ∀ cap ba, v = .slice ba n cap → n ≤ cap → ¬ n + m ≤ cap → (∀ u : World, u.heap = w.heap → (Builtin.firstCells sz n (.slice ba n cap)).run P u = .ok cs.toArray u) →
      ∃ v' w', (Builtin.append_ ts 0 #[v, .slice (some ⟨xb, xo, none⟩) m xc]).run P w = .ok v' w' ∧ OwnS w' e sz v' (n + m) (cs ++ news) ∧
      (∀ F, (∀ b, blockOf v = some b → F b) → Fr F w w') ∧ (∀ b, b < w.heap.size → blockOf v ≠ some b → w'.heap[b]? = w.heap[b]?) ∧ ∃ b, blockOf v' = some b ∧ (blockOf v = some b ∨ w.heap.size ≤ b) := by
    intro cap ba hvv hncap hfit hold
    subst hvv
    have hb2 : Builtin.nextslicecap (n + m) cap * i.bytes ≤ 2 ^ 48 := by
      rw [hi2]; exact hbd cap hncap (by omega)
    have hmax : IntKind.i64.max = 9223372036854775807 := by decide
    obtain ⟨nc, hnc, hrun⟩ := run_app_grow (P := P) h0 h1 hs hd' hne hsz hi1 hz (w := w) (n := n) (cap := cap) (m := m) (xc := xc) (ba := ba) (xa := some ⟨xb, xo, none⟩) hfit (by rw [hmax]; omega) hb2 hold hnw
    have hrl : (Builtin.zeroCells z.cells (nc - (n + m))).size = (nc - (n + m)) * sz := by rw [← hzs]; simp [Builtin.zeroCells]
    refine ⟨_, _, hrun, .inr ⟨w.heap.size, nc, _, rfl, alloc_blk_new w.drew _, ?_, hnc, ?_, ?_⟩, fun F _ => ((Fr.refl F w).drew).alloc _, fun b hb _ => alloc_blk_old w.drew _ hb, w.heap.size, rfl, .inr (Nat.le_refl _)⟩
    · simp only [Array.size_append, hrl, List.size_toArray, hvl, hnl]
      rw [← Nat.add_mul, ← Nat.add_mul]; congr 1; omega
    · rw [List.length_append, hvl, hnl, Nat.add_mul]
    · simp only [Array.toList_append, List.toList_toArray]
      have hl : (cs ++ news).length = (n + m) * sz := by rw [List.length_append, hvl, hnl, Nat.add_mul]
      rw [List.take_append_of_le_length (by omega), List.take_of_length_le (by omega)]
  rcases hv with ⟨rfl, rfl, rfl⟩ | ⟨b, cap, c, rfl, h, hc, hn, hl, ht⟩
  · exact grow 0 none rfl (Nat.le_refl _) (by omega) fun u _ => rfl
  · by_cases hfit : n + m ≤ cap
    · have hcap : n * sz + news.length ≤ c.size := by
        rw [hnl, hc, ← Nat.add_mul]; exact Nat.mul_le_mul_right _ hfit
      have hst := r_storeCells (P := P) news w b (n * sz) 0 c e h (by simpa using hcap) hone
      have hrun := run_app_fit (P := P) h0 h1 hs hd' hne hsz (w := w) (b := b) (o := 0) (n := n) (cap := cap) (m := m) (xc := xc) (xa := some ⟨xb, xo, none⟩) hfit (hnw w rfl) (by rw [Nat.zero_add]; exact hst)
      refine ⟨_, _, hrun, .inr ⟨b, cap, _, rfl, blk_put_same _ (heap_lt h), ?_, hfit, ?_, ?_⟩, fun F hF => (Fr.refl F w).put _ (fun _ => hF b rfl), fun b' _ hb => blk_put_ne _ (fun e => hb (by simp [blockOf, e])), b, rfl, .inl rfl⟩
      · rw [storeL_size]; exact hc
      · rw [List.length_append, hl, hnl, Nat.add_mul]
      · rw [Nat.add_zero, storeL_list _ _ _ hcap, Nat.add_mul, ← hnl]
        have h5 : (c.toList.take (n * sz) ++ news).length = n * sz + news.length := by
          rw [List.length_append, ht, hl]
        rw [List.take_append_of_le_length (by omega), List.take_of_length_le (by omega), ht]
    · refine grow cap _ rfl hn hfit fun u hu => ?_
      have hle : 0 + n * sz ≤ c.size := by rw [hc]; simpa using Nat.mul_le_mul_right sz hn
      have := r_loadCells (P := P) (w := u) (b := b) (o := 0) (n := n * sz) (by rw [hu]; exact h) hle
      simp only [Builtin.firstCells, this]
      congr 1
      apply Array.toList_inj.1
      simp [← ht]
/-- append of what lies in memory to a slice of the call's own -/
theorem app_own {ts : Array TypeId} {t t' e sz by' : Nat} {z : Value} (h0 : ts[0]? = some t) (h1 : ts[1]? = some t') (hs : slcO P t = some e) (hi : intO P t' = none) (hu' : (P.underlying t').isSome = true)
    (hsz : szO P e = some sz) (hby : byO P e = some by') (hz : zeroO P e = some z) (hzs : z.cells.size = sz)
    {w : World} {v : Value} {n : Nat} {cs : List Value} (hv : OwnS w e sz v n cs)
    {xb xo m xc : Nat} {cx : Array Value} {ex : TypeId} {fx : Nat × Nat} {news : List Value} (hx : w.heap[xb]? = some (.cells cx ex fx)) (hxl : xo + m * sz ≤ cx.size) (hnews : (cx.extract xo (xo + m * sz)).toList = news) (hone : news.all one = true)
    (hbd : (2 * (n + m) + 768) * by' ≤ 2 ^ 48) (hbd2 : n + m ≤ 9223372036854775807) (hm : 0 < m) :
    ∃ v' w', (Builtin.append_ ts 0 #[v, .slice (some ⟨xb, xo, none⟩) m xc]).run P w = .ok v' w' ∧ OwnS w' e sz v' (n + m) (cs ++ news) ∧
      (∀ F, (∀ b, blockOf v = some b → F b) → Fr F w w') ∧ (∀ b, b < w.heap.size → blockOf v ≠ some b → w'.heap[b]? = w.heap[b]?) ∧ ∃ b, blockOf v' = some b ∧ (blockOf v = some b ∨ w.heap.size ≤ b) := by
  refine app_own' h0 h1 hs hi hu' hsz hby hz hzs hv hx hxl hnews hone (fun cap _ hc => ?_) hbd2 hm
  have := nextcap_le (need := n + m) (cap := cap) (by omega)
  have h2 := Nat.mul_le_mul_right by' this
  omega
theorem nextcap1_le {n cap : Nat} (h : n ≤ cap) (h2 : cap < n + 1) : Builtin.nextslicecap (n + 1) cap ≤ n + n / 4 + 1024 := by
  have : cap = n := by omega
  subst this
  unfold Builtin.nextslicecap
  split
  · omega
  · split
    · omega
    · simp only [Builtin.growBy]
      rw [if_neg (by omega), if_pos (by omega)]
      omega
end Go.V
