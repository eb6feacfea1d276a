/-
  More of what changes a cache of ints: a value, the mark 'held', a new entry, one that goes.
-/
import Derived.Test.YtbbkpngcichdcaaCacheC
namespace Go.V
open Go.Proofs
set_option maxRecDepth 100000
namespace I
section
variable {w : World} {cb mb : Nat} {cl kp xs : List Nd} {room hits misses gone : Nat}

def Nd.sv (b : Nat) (v : Int) (m : Nd) : Nd := if m.b = b then { m with v := v } else m
def Nd.sh (b : Nat) (h : Bool) (m : Nd) : Nd := if m.b = b then { m with h := h } else m
theorem Nd.sv_b (b : Nat) (v : Int) (m : Nd) : (m.sv b v).b = m.b ∧ (m.sv b v).k = m.k ∧ (m.sv b v).h = m.h := by unfold Nd.sv; split <;> exact ⟨rfl, rfl, rfl⟩
theorem Nd.sh_b (b : Nat) (v : Bool) (m : Nd) : (m.sh b v).b = m.b ∧ (m.sh b v).k = m.k ∧ (m.sh b v).v = m.v := by unfold Nd.sh; split <;> exact ⟨rfl, rfl, rfl⟩
theorem sv_at (b : Nat) (v : Int) (l : List Nd) : (l.map (Nd.sv b v)).map Nd.at = l.map Nd.at := by
  rw [List.map_map]; apply List.map_congr_left; intro m _; simp only [Function.comp_apply, Nd.at, (Nd.sv_b b v m).1]
theorem sh_at (b : Nat) (v : Bool) (l : List Nd) : (l.map (Nd.sh b v)).map Nd.at = l.map Nd.at := by
  rw [List.map_map]; apply List.map_congr_left; intro m _; simp only [Function.comp_apply, Nd.at, (Nd.sh_b b v m).1]

theorem Core.cell1 (h : Core w cb mb cl kp xs room hits misses gone) {n : Nd} (hn : n ∈ cl ++ kp ++ xs) {o : Nat} (ho : o < 3) {u : Value} (hu : cv w n.b o = some u) (v : Value) {f : Nd → Nd} (hf : ∀ m, (f m).b = m.b ∧ (f m).k = m.k)
    (he : ∀ m ∈ cl ++ kp ++ xs, Ent (setc w n.b o v) (f m)) : Core (setc w n.b o v) cb mb (cl.map f) (kp.map f) (xs.map f) room hits misses gone := by
  have q := fun b' o' => cv_setc v hu b' o'
  have hne := h.ne_blocks
  have hnb := hne.2 n hn
  have hcb : ∀ o', cv (setc w n.b o v) cb o' = cv w cb o' := fun o' => by rw [q, if_neg (fun h => hnb.1 h.1.symm)]
  have fat : ∀ l : List Nd, (l.map f).map Nd.at = l.map Nd.at := fun l => by
    rw [List.map_map]; apply List.map_congr_left; intro m _; simp only [Function.comp_apply, Nd.at, (hf m).1]
  have row : ∀ (r : Nat) (l : List Nd), RowAt w 3 (cb, r) (l.map Nd.at) → RowAt (setc w n.b o v) 3 (cb, r) ((l.map f).map Nd.at) := fun r l hr => by
    rw [fat]
    refine hr.congr fun b' o' hl => ?_
    rw [q, if_neg]
    rintro ⟨rfl, rfl⟩
    rcases hl with ⟨hb, _⟩ | ⟨x, hx, _, hl⟩
    · exact hnb.1 hb
    · obtain ⟨m, _, rfl⟩ := List.mem_map.1 hx
      simp only at hl; omega
  refine h.of ⟨hcb 0, hcb 1⟩ (row _ _ h.clean) (row _ _ h.kept) ((hcb 14).trans h.hits) ((hcb 15).trans h.misses) ((hcb 16).trans h.gone) ?_ (setc_blk _ (Ne.symm hnb.2)) ?_
  · rw [← List.map_append, ← List.map_append]
    intro m hm
    obtain ⟨m', hm', rfl⟩ := List.mem_map.1 hm
    exact he m' hm'
  · rw [← List.map_append, ← List.map_append, List.map_map]
    refine List.Perm.of_eq (List.map_congr_left fun m _ => ?_)
    simp only [Function.comp_apply, (hf m).1, (hf m).2]
theorem Core.uniq (h : Core w cb mb cl kp xs room hits misses gone) {n m : Nd} (hn : n ∈ cl ++ kp ++ xs) (hm : m ∈ cl ++ kp ++ xs) (hb : m.b = n.b) : m = n := by
  have hnd0 := h.nodup
  simp only [List.nodup_cons] at hnd0
  have hnd := hnd0.2.2
  clear hnd0 h
  generalize cl ++ kp ++ xs = l at *
  induction l with
  | nil => cases hn
  | cons x l ih =>
    simp only [List.map_cons, List.nodup_cons] at hnd
    rcases List.mem_cons.1 hn with h1 | h1 <;> rcases List.mem_cons.1 hm with h2 | h2
    · rw [h1, h2]
    · exact absurd (List.mem_map.2 ⟨m, h2, by rw [hb, h1]⟩) hnd.1
    · exact absurd (List.mem_map.2 ⟨n, h1, by rw [← hb, h2]⟩) hnd.1
    · exact ih h1 h2 hnd.2
/-- 'e.val = v' -/
theorem Core.setv (h : Core w cb mb cl kp xs room hits misses gone) {n : Nd} (hn : n ∈ cl ++ kp ++ xs) (v : Int) :
    Core (setc w n.b 1 (.int .i64 v)) cb mb (cl.map (Nd.sv n.b v)) (kp.map (Nd.sv n.b v)) (xs.map (Nd.sv n.b v)) room hits misses gone := by
  have hu := (h.ents n hn).val
  refine h.cell1 hn (by omega) hu _ (fun m => ⟨(Nd.sv_b _ _ m).1, (Nd.sv_b _ _ m).2.1⟩) fun m hm => ?_
  have q := fun b' o' => cv_setc (.int .i64 v) hu b' o'
  have e := h.ents m hm
  by_cases hb : m.b = n.b
  · have e1 : m.sv n.b v = { m with v := v } := by simp [Nd.sv, hb]
    rw [e1]
    refine ⟨?_, ?_, ?_, ?_, ?_⟩
    · simp only [q]; rw [if_neg (by omega)]; exact e.key
    · simp only [q]; rw [if_pos ⟨hb, trivial⟩]
    · simp only [q]; rw [if_neg (by omega)]; exact e.held
    · simp only [q]; rw [if_neg (by omega)]; exact e.pv
    · simp only [q]; rw [if_neg (by omega)]; exact e.nx
  · have e1 : m.sv n.b v = m := by simp [Nd.sv, hb]
    rw [e1]
    have q' : ∀ o', cv (setc w n.b 1 (.int .i64 v)) m.b o' = cv w m.b o' := fun o' => by rw [q, if_neg (fun h => hb h.1)]
    exact ⟨(q' 0).trans e.key, (q' 1).trans e.val, (q' 2).trans e.held, by rw [q' 3]; exact e.pv, by rw [q' 4]; exact e.nx⟩
/-- 'e.held = t' -/
theorem Core.seth (h : Core w cb mb cl kp xs room hits misses gone) {n : Nd} (hn : n ∈ cl ++ kp ++ xs) (v : Bool) :
    Core (setc w n.b 2 (.bool v)) cb mb (cl.map (Nd.sh n.b v)) (kp.map (Nd.sh n.b v)) (xs.map (Nd.sh n.b v)) room hits misses gone := by
  have hu := (h.ents n hn).held
  refine h.cell1 hn (by omega) hu _ (fun m => ⟨(Nd.sh_b _ _ m).1, (Nd.sh_b _ _ m).2.1⟩) fun m hm => ?_
  have q := fun b' o' => cv_setc (.bool v) hu b' o'
  have e := h.ents m hm
  by_cases hb : m.b = n.b
  · have e1 : m.sh n.b v = { m with h := v } := by simp [Nd.sh, hb]
    rw [e1]
    refine ⟨?_, ?_, ?_, ?_, ?_⟩
    · simp only [q]; rw [if_neg (by omega)]; exact e.key
    · simp only [q]; rw [if_neg (by omega)]; exact e.val
    · simp only [q]; rw [if_pos ⟨hb, trivial⟩]
    · simp only [q]; rw [if_neg (by omega)]; exact e.pv
    · simp only [q]; rw [if_neg (by omega)]; exact e.nx
  · have e1 : m.sh n.b v = m := by simp [Nd.sh, hb]
    rw [e1]
    have q' : ∀ o', cv (setc w n.b 2 (.bool v)) m.b o' = cv w m.b o' := fun o' => by rw [q, if_neg (fun h => hb h.1)]
    exact ⟨(q' 0).trans e.key, (q' 1).trans e.val, (q' 2).trans e.held, by rw [q' 3]; exact e.pv, by rw [q' 4]; exact e.nx⟩

theorem Core.lt (h : Core w cb mb cl kp xs room hits misses gone) : cb < w.heap.size ∧ mb < w.heap.size ∧ ∀ n ∈ cl ++ kp ++ xs, n.b < w.heap.size := by
  obtain ⟨es, c, h1, _⟩ := h.map
  exact ⟨cv_lt h.room, heap_lt h1, fun n hn => cv_lt (h.ents n hn).key⟩
theorem Core.foot_lt (h : Core w cb mb cl kp xs room hits misses gone) {b : Nat} (hb : foot cb mb (cl ++ kp ++ xs) b) : b < w.heap.size := by
  obtain ⟨h1, h2, h3⟩ := h.lt
  rcases hb with rfl | rfl | ⟨n, hn, rfl⟩
  · exact h1
  · exact h2
  · exact h3 n hn
theorem ring_mem_addr {w : World} {d : Nat} {r : Ad} {ns : List Ad} (_h : RowAt w d r ns) : True := trivial

/-- everything of a cache lies in its blocks -/
theorem Core.frame {w' : World} (h : Core w cb mb cl kp xs room hits misses gone) (hf : ∀ b, foot cb mb (cl ++ kp ++ xs) b → w'.heap[b]? = w.heap[b]?) : Core w' cb mb cl kp xs room hits misses gone := by
  have hcb : ∀ o, cv w' cb o = cv w cb o := fun o => cv_blk (hf cb (.inl rfl)) o
  have hn : ∀ n ∈ cl ++ kp ++ xs, ∀ o, cv w' n.b o = cv w n.b o := fun n hn o => cv_blk (hf n.b (.inr (.inr ⟨n, hn, rfl⟩))) o
  have row : ∀ (r : Nat) (l : List Nd), (∀ n ∈ l, n ∈ cl ++ kp ++ xs) → RowAt w 3 (cb, r) (l.map Nd.at) → RowAt w' 3 (cb, r) (l.map Nd.at) := fun r l hl hr => by
    refine hr.congr fun b o hlk => ?_
    rcases hlk with ⟨rfl, _⟩ | ⟨x, hx, rfl, _⟩
    · exact hcb o
    · obtain ⟨m, hm, rfl⟩ := List.mem_map.1 hx
      exact hn m (hl m hm) o
  refine h.of ⟨hcb 0, hcb 1⟩ (row _ _ (fun n hn => by simp [hn]) h.clean) (row _ _ (fun n hn => by simp [hn]) h.kept) ((hcb 14).trans h.hits) ((hcb 15).trans h.misses) ((hcb 16).trans h.gone) ?_ (hf mb (.inr (.inl rfl))) (List.Perm.refl _)
  intro m hm
  have e := h.ents m hm
  have q := hn m hm
  exact ⟨(q 0).trans e.key, (q 1).trans e.val, (q 2).trans e.held, by rw [q 3]; exact e.pv, by rw [q 4]; exact e.nx⟩

/-- a map written: only the map -/
theorem Core.setmap {xs' : List Nd} {es : Array MapEntry} {c : Nat} (h : Core w cb mb cl kp xs room hits misses gone) (hp : (es.toList.map fun e => (e.key, e.val)).Perm (pairs (cl ++ kp ++ xs')))
    (he : ∀ n ∈ xs', Ent w n ∧ n.b ≠ mb) (hnd : (cb :: mb :: (cl ++ kp ++ xs').map (·.b)).Nodup) (hk : ((cl ++ kp ++ xs').map (·.k)).Nodup) : Core (put w mb (.map es c)) cb mb cl kp xs' room hits misses gone := by
  have hne := h.ne_blocks
  have hcb : ∀ o, cv (put w mb (.map es c)) cb o = cv w cb o := fun o => cv_blk (blk_put_ne _ (Ne.symm hne.1)) o
  have hn : ∀ n ∈ cl ++ kp, ∀ o, cv (put w mb (.map es c)) n.b o = cv w n.b o := fun n hn o => cv_blk (blk_put_ne _ (Ne.symm (hne.2 n (by simp only [List.mem_append] at hn ⊢; exact .inl hn)).2)) o
  have row : ∀ (r : Nat) (l : List Nd), (∀ n ∈ l, n ∈ cl ++ kp) → RowAt w 3 (cb, r) (l.map Nd.at) → RowAt (put w mb (.map es c)) 3 (cb, r) (l.map Nd.at) := fun r l hl hr => by
    refine hr.congr fun b o hlk => ?_
    rcases hlk with ⟨rfl, _⟩ | ⟨x, hx, rfl, _⟩
    · exact hcb o
    · obtain ⟨m, hm, rfl⟩ := List.mem_map.1 hx
      exact hn m (hl m hm) o
  refine ⟨(hcb 0).trans h.room, (hcb 1).trans h.found, row _ _ (fun n hn => by simp [hn]) h.clean, row _ _ (fun n hn => by simp [hn]) h.kept, (hcb 14).trans h.hits, (hcb 15).trans h.misses, (hcb 16).trans h.gone, ?_,
    ⟨es, c, blk_put_same _ h.lt.2.1, hp⟩, hnd, hk⟩
  intro m hm
  have key : (∀ o, cv (put w mb (.map es c)) m.b o = cv w m.b o) ∧ Ent w m := by
    rcases List.mem_append.1 hm with hm | hm
    · exact ⟨hn m hm, h.ents m (by simp only [List.mem_append] at hm ⊢; exact .inl hm)⟩
    · exact ⟨fun o => cv_blk (blk_put_ne _ (Ne.symm (he m hm).2)) o, (he m hm).1⟩
  obtain ⟨q, e⟩ := key
  exact ⟨(q 0).trans e.key, (q 1).trans e.val, (q 2).trans e.held, by rw [q 3]; exact e.pv, by rw [q 4]; exact e.nx⟩

/-- 'e = &entry{key: k}; c.found[k] = e' -/
theorem Core.fresh (h : Core w cb mb cl kp xs room hits misses gone) {k : Int} (hk : ∀ n ∈ cl ++ kp ++ xs, n.k ≠ k) :
    ∃ ob, putE Try.prog 3 (w.alloc (.cells #[.int .i64 k, .int .i64 0, .bool false, .pointer none, .pointer none] 66)).heap[mb]? (.int .i64 k) (.pointer (some ⟨w.heap.size, 0, none⟩)) = some ob ∧
      Core (put (w.alloc (.cells #[.int .i64 k, .int .i64 0, .bool false, .pointer none, .pointer none] 66)) mb ob) cb mb cl kp (⟨w.heap.size, k, 0, false⟩ :: xs) room hits misses gone := by
  obtain ⟨l1, l2, l3⟩ := h.lt
  have h1 : Core (w.alloc (.cells #[.int .i64 k, .int .i64 0, .bool false, .pointer none, .pointer none] 66)) cb mb cl kp xs room hits misses gone :=
    h.frame fun b hb => alloc_blk_old _ _ (h.foot_lt hb)
  obtain ⟨es, c, m1, m2⟩ := h1.map
  refine ⟨.map (es.push { key := .int .i64 k, val := .pointer (some ⟨w.heap.size, 0, none⟩), born := c }) (c + 1), ?_, ?_⟩
  · simp only [putE, m1, get_none m2 hk, Option.bind_some]
  · have hn : ∀ o v, (#[.int .i64 k, .int .i64 0, .bool false, .pointer none, .pointer none] : Array Value)[o]? = some v → cv (w.alloc (.cells #[.int .i64 k, .int .i64 0, .bool false, .pointer none, .pointer none] 66)) w.heap.size o = some v := by
      intro o v ho
      rw [cv_of_row (alloc_blk_new _ _)]; exact ho
    refine h1.setmap ?_ ?_ ?_ ?_
    · have e1 : (es.push { key := .int .i64 k, val := .pointer (some ⟨w.heap.size, 0, none⟩), born := c }).toList.map (fun e => (e.key, e.val)) = es.toList.map (fun e => (e.key, e.val)) ++ [(.int .i64 k, ptr (w.heap.size, 0))] := by simp
      rw [e1]
      have e2 : pairs (cl ++ kp ++ ⟨w.heap.size, k, 0, false⟩ :: xs) = pairs (cl ++ kp) ++ (.int .i64 k, ptr (w.heap.size, 0)) :: pairs xs := by simp [pairs]
      rw [e2]
      have e3 : pairs (cl ++ kp ++ xs) = pairs (cl ++ kp) ++ pairs xs := by simp [pairs]
      rw [e3] at m2
      refine (List.perm_append_comm.trans ?_)
      exact ((m2.cons _).trans List.perm_middle.symm)
    · intro n hn'
      rcases List.mem_cons.1 hn' with rfl | hn'
      · exact ⟨⟨hn 0 _ rfl, hn 1 _ rfl, hn 2 _ rfl, ⟨_, hn 3 _ rfl⟩, ⟨_, hn 4 _ rfl⟩⟩, by simp only; omega⟩
      · exact ⟨h1.ents n (by simp [hn']), (h1.ne_blocks.2 n (by simp [hn'])).2⟩
    · have hp : (cb :: mb :: (cl ++ kp ++ ⟨w.heap.size, k, 0, false⟩ :: xs).map (·.b)).Perm (w.heap.size :: cb :: mb :: (cl ++ kp ++ xs).map (·.b)) := by
        have : ((cl ++ kp ++ ⟨w.heap.size, k, 0, false⟩ :: xs).map (·.b)).Perm (w.heap.size :: (cl ++ kp ++ xs).map (·.b)) := (List.perm_middle (a := (⟨w.heap.size, k, 0, false⟩ : Nd)) (l₁ := cl ++ kp) (l₂ := xs)).map (·.b)
        exact ((this.cons mb).cons cb).trans (((List.Perm.swap _ _ _).cons cb).trans (List.Perm.swap _ _ _))
      refine hp.nodup_iff.2 (List.nodup_cons.2 ⟨fun hm => ?_, h.nodup⟩)
      simp only [List.mem_cons, List.mem_map] at hm
      rcases hm with hm | hm | ⟨n, hn, hm⟩
      · omega
      · omega
      · have := l3 n hn; omega
    · have hp : ((cl ++ kp ++ ⟨w.heap.size, k, 0, false⟩ :: xs).map (·.k)).Perm (k :: (cl ++ kp ++ xs).map (·.k)) := (List.perm_middle (a := (⟨w.heap.size, k, 0, false⟩ : Nd)) (l₁ := cl ++ kp) (l₂ := xs)).map (·.k)
      refine hp.nodup_iff.2 (List.nodup_cons.2 ⟨fun hm => ?_, h.keys⟩)
      obtain ⟨n, hn, hm⟩ := List.mem_map.1 hm
      exact hk n hn hm

/-- 'delete(c.found, e.key)' -/
theorem Core.del {n : Nd} (h : Core w cb mb cl kp (n :: xs) room hits misses gone) :
    ∃ ob, delE Try.prog 3 w.heap[mb]? (.int .i64 n.k) = some ob ∧ Core (put w mb ob) cb mb cl kp xs room hits misses gone := by
  obtain ⟨es, c, m1, m2⟩ := h.map
  have hn : n ∈ cl ++ kp ++ n :: xs := by simp
  obtain ⟨j, hj, e, he, hek⟩ := get_some m2 hn h.keys
  have hlt : j < es.toList.length := (List.getElem?_eq_some_iff.1 he).1
  refine ⟨.map (es.eraseIdxIfInBounds j) c, by simp only [delE, m1, hj, Option.map_some], ?_⟩
  have hmid : (cl ++ kp ++ n :: xs).Perm (n :: (cl ++ kp ++ xs)) := List.perm_middle
  refine h.setmap ?_ (fun m hm => ⟨h.ents m (by simp [hm]), (h.ne_blocks.2 m (by simp [hm])).2⟩) ?_ ?_
  · have e1 : (es.eraseIdxIfInBounds j).toList = es.toList.eraseIdx j := by
      rw [Array.eraseIdxIfInBounds_eq]
      rw [dif_pos (by simpa using hlt)]
      simp
    rw [e1]
    have hval : (e.key, e.val) = ((.int .i64 n.k, ptr n.at) : Value × Value) := by
      obtain ⟨m, hm, k1, k2⟩ := map_keys m2 e (List.mem_of_getElem? he)
      have hmk : m.k = n.k := by rw [k1] at hek; simpa using hek
      have : m = n := by
        have hnd := h.keys
        have hn' := hn
        have hm' := hm
        generalize cl ++ kp ++ n :: xs = l at hnd hn' hm'
        clear h m2 hj he hmid hn hm
        induction l with
        | nil => cases hn'
        | cons x l ih =>
          simp only [List.map_cons, List.nodup_cons] at hnd
          rcases List.mem_cons.1 hn' with h1 | h1 <;> rcases List.mem_cons.1 hm' with h2 | h2
          · rw [h1, h2]
          · exact absurd (List.mem_map.2 ⟨m, h2, by rw [hmk, h1]⟩) hnd.1
          · exact absurd (List.mem_map.2 ⟨n, h1, by rw [← hmk, h2]⟩) hnd.1
          · exact ih hnd.2 h1 h2
      rw [k1, k2, this]
    have p1 : (es.toList.map fun e => (e.key, e.val)).Perm ((e.key, e.val) :: (es.toList.eraseIdx j).map fun e => (e.key, e.val)) := by
      have he' : es.toList[j] = e := by
        have := List.getElem?_eq_getElem hlt
        rw [this] at he; simpa using he
      have hsplit : es.toList = es.toList.take j ++ e :: es.toList.drop (j + 1) := by
        rw [← he', List.getElem_cons_drop, List.take_append_drop]
      have herase : es.toList.eraseIdx j = es.toList.take j ++ es.toList.drop (j + 1) := List.eraseIdx_eq_take_drop_succ _ _
      rw [herase]
      conv => lhs; rw [hsplit]
      exact List.perm_middle.map _
    have p2 : (pairs (cl ++ kp ++ n :: xs)).Perm ((.int .i64 n.k, ptr n.at) :: pairs (cl ++ kp ++ xs)) := hmid.map _
    rw [hval] at p1
    exact (p1.symm.trans (m2.trans p2)).cons_inv
  · have := ((hmid.map (·.b)).cons mb).cons cb
    have hn2 := this.nodup_iff.1 h.nodup
    simp only [List.map_cons, List.nodup_cons, List.mem_cons, not_or] at hn2 ⊢
    exact ⟨⟨hn2.1.1, hn2.1.2.2⟩, hn2.2.1.2, hn2.2.2.2⟩
  · have hn2 := (hmid.map (·.k)).nodup_iff.1 h.keys
    simp only [List.map_cons, List.nodup_cons] at hn2
    exact hn2.2
end
end I
end Go.V
