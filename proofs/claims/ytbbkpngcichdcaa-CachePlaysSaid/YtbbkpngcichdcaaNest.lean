/-
  The inclusion of caches that give up what was used least, over plain lists.
-/
import Derived.Test.YtbbkpngcichdcaaPlay
namespace Go.V
namespace I
structure Nest (s g : St) : Prop where
  kept : s.kept = g.kept
  sub : s.clean.Sublist g.clean
  room : s.room ≤ g.room
  diff : g.clean.length + s.room ≤ s.clean.length + g.room
theorem look_mem {k v : Int} : ∀ {l : KV}, look l k = some v → (k, v) ∈ l
  | [], h => by cases h
  | p :: l, h => by
    simp only [look] at h
    split at h
    · rename_i hk; cases h; subst hk; exact List.mem_cons_self ..
    · exact List.mem_cons_of_mem _ (look_mem h)
theorem look_of_mem {k v : Int} : ∀ {l : KV}, (l.map (·.1)).Nodup → (k, v) ∈ l → look l k = some v
  | [], _, h => by cases h
  | p :: l, hn, h => by
    simp only [List.map_cons, List.nodup_cons] at hn
    simp only [look]
    rcases List.mem_cons.1 h with h | h
    · subst h; simp
    · have : p.1 ≠ k := fun e => hn.1 (by rw [e]; exact List.mem_map.2 ⟨_, h, rfl⟩)
      rw [if_neg this]; exact look_of_mem hn.2 h
theorem look_sub {k v : Int} {l m : KV} (hs : l.Sublist m) (hn : (m.map (·.1)).Nodup) (h : look l k = some v) : look m k = some v :=
  look_of_mem hn (hs.subset (look_mem h))
theorem look_sub_none {k : Int} {l m : KV} (hs : l.Sublist m) (h : look m k = none) : look l k = none :=
  look_none.2 fun p hp => look_none.1 h p (hs.subset hp)
theorem wout_sub {l m : KV} (hs : l.Sublist m) (k : Int) : (wout l k).Sublist (wout m k) := hs.filter _
theorem wout_len {k v : Int} : ∀ {l : KV}, (l.map (·.1)).Nodup → look l k = some v → (wout l k).length + 1 = l.length
  | [], _, h => by cases h
  | p :: l, hn, h => by
    simp only [List.map_cons, List.nodup_cons] at hn
    simp only [look] at h
    by_cases hk : p.1 = k
    · have : look l k = none := look_none.2 fun q hq e => hn.1 (by rw [hk, ← e]; exact List.mem_map.2 ⟨q, hq, rfl⟩)
      have e := wout_none this
      unfold wout at e ⊢
      rw [List.filter_cons_of_neg (by simp [hk]), e]; simp
    · rw [if_neg hk] at h
      have e := wout_len hn.2 h
      unfold wout at e ⊢
      rw [List.filter_cons_of_pos (by simp [hk])]; simp only [List.length_cons]; omega
theorem Nest.cleanKeys {s : St} (h : s.Ok) : (s.clean.map (·.1)).Nodup := by
  have := h.keys; rw [List.map_append] at this; exact (List.nodup_append.1 this).1
theorem Nest.trim {s g : St} (kept : s.kept = g.kept) (sub : s.clean.Sublist g.clean) (room : s.room ≤ g.room) (diff : g.clean.length + s.room ≤ s.clean.length + g.room) : Nest s.trim g.trim := by
  have hl := sub.length_le
  refine ⟨kept, ?_, room, ?_⟩
  · simp only [St.trim]
    obtain ⟨d, hd⟩ : ∃ d, s.clean.length - s.room = g.clean.length - g.room + d := ⟨s.clean.length - s.room - (g.clean.length - g.room), by omega⟩
    rw [hd, ← List.drop_drop]
    exact (List.drop_sublist _ _).trans (sub.drop _)
  · simp only [St.trim, List.length_drop]; omega
theorem Nest.get {s g : St} (h : Nest s g) (hs : s.Ok) (hg : g.Ok) (k : Int) : Nest (s.get k) (g.get k) ∧ ((s.got k).2 = true → g.got k = s.got k) := by
  obtain ⟨h1, h2, h3, h4⟩ := h
  have ns := Nest.cleanKeys hs
  have ng := Nest.cleanKeys hg
  unfold St.get St.got
  rw [← h1]
  cases hk : look s.kept k with
  | some v => exact ⟨⟨rfl, h2, h3, h4⟩, fun _ => rfl⟩
  | none =>
    simp only []
    cases hl : look s.clean k with
    | some v =>
      have hl2 := look_sub h2 ng hl
      rw [hl2]
      refine ⟨⟨rfl, (wout_sub h2 k).append_right _, h3, ?_⟩, fun _ => rfl⟩
      have e1 := wout_len ns hl
      have e2 := wout_len ng hl2
      simp only [List.length_append, List.length_cons, List.length_nil]; omega
    | none =>
      refine ⟨?_, fun h => by cases h⟩
      cases hl2 : look g.clean k with
      | none => exact ⟨rfl, h2, h3, h4⟩
      | some v =>
        refine ⟨rfl, ?_, h3, ?_⟩
        · have := wout_sub h2 k
          rw [wout_none hl] at this
          exact this.trans (List.sublist_append_left _ _)
        · have e2 := wout_len ng hl2
          simp only [List.length_append, List.length_cons, List.length_nil]; omega
theorem Nest.put {s g : St} (h : Nest s g) (hs : s.Ok) (hg : g.Ok) (k v : Int) : Nest (s.put k v) (g.put k v) := by
  obtain ⟨h1, h2, h3, h4⟩ := h
  have ns := Nest.cleanKeys hs
  have ng := Nest.cleanKeys hg
  unfold St.put
  rw [← h1]
  cases hk : look s.kept k with
  | some u => exact ⟨rfl, h2, h3, h4⟩
  | none =>
    simp only []
    refine Nest.trim rfl ((wout_sub h2 k).append_right _) h3 ?_
    simp only [List.length_append, List.length_cons, List.length_nil]
    cases hl : look s.clean k with
    | some u =>
      have e1 := wout_len ns hl
      have e2 := wout_len ng (look_sub h2 ng hl)
      omega
    | none =>
      rw [wout_none hl]
      have e2 : (wout g.clean k).length ≤ g.clean.length := List.length_filter_le _ _
      omega
theorem Nest.hold {s g : St} (h : Nest s g) (hs : s.Ok) (hg : g.Ok) (k v : Int) : Nest (s.hold k v) (g.hold k v) := by
  obtain ⟨h1, h2, h3, h4⟩ := h
  have ns := Nest.cleanKeys hs
  have ng := Nest.cleanKeys hg
  unfold St.hold
  rw [← h1]
  cases hk : look s.kept k with
  | some u => exact ⟨rfl, h2, h3, h4⟩
  | none =>
    simp only []
    refine ⟨rfl, wout_sub h2 k, h3, ?_⟩
    cases hl : look s.clean k with
    | some u =>
      have e1 := wout_len ns hl
      have e2 := wout_len ng (look_sub h2 ng hl)
      simp only []; omega
    | none =>
      simp only []
      rw [wout_none hl]
      have e2 : (wout g.clean k).length ≤ g.clean.length := List.length_filter_le _ _
      omega
theorem Nest.settle {s g : St} (h : Nest s g) : Nest s.settle g.settle := by
  obtain ⟨h1, h2, h3, h4⟩ := h
  unfold St.settle
  refine Nest.trim rfl (by rw [h1]; exact h2.append_right _) h3 ?_
  simp only [List.length_append, h1]; omega
theorem Nest.release {s g : St} (h : Nest s g) (n : Int) : Nest (s.release n) (g.release n) := by
  obtain ⟨h1, h2, h3, h4⟩ := h
  exact ⟨by simp only [St.release, h1], h2, h3, h4⟩
theorem Nest.new {a b : Int} (h : a ≤ b) : Nest (St.new a) (St.new b) :=
  ⟨rfl, List.Sublist.refl _, by simp only [St.new]; omega, by simp only [St.new, List.length_nil]; omega⟩
/-! ### How a state's size grows -/
theorem size_get (s : St) (k : Int) : (s.get k).size ≤ s.size + 1 := by
  unfold St.get St.size
  have e : (wout s.clean k).length ≤ s.clean.length := List.length_filter_le _ _
  cases look s.kept k with
  | some v => simp only []; omega
  | none =>
    cases hl : look s.clean k with
    | none => simp only []; omega
    | some v =>
      have hm := look_mem hl
      have : (wout s.clean k).length < s.clean.length := by
        unfold wout
        refine Nat.lt_of_le_of_ne (List.length_filter_le _ _) fun h => ?_
        have := List.length_filter_eq_length_iff.1 h _ hm
        simp at this
      simp only [List.length_append, List.length_cons, List.length_nil]; omega
theorem size_put (s : St) (k v : Int) : (s.put k v).size ≤ s.size + 1 := by
  unfold St.put St.size
  have e : (wout s.clean k).length ≤ s.clean.length := List.length_filter_le _ _
  cases look s.kept k with
  | some u => simp only [sets, List.length_map]; omega
  | none => simp only [St.trim, List.length_append, List.length_cons, List.length_nil, List.length_drop]; omega
theorem size_hold (s : St) (k v : Int) : (s.hold k v).size ≤ s.size + 1 := by
  unfold St.hold St.size
  have e : (wout s.clean k).length ≤ s.clean.length := List.length_filter_le _ _
  cases look s.kept k with
  | some u => simp only [sets, List.length_map]; omega
  | none => simp only [List.length_append, List.length_cons, List.length_nil]; omega
theorem size_settle (s : St) : s.settle.size ≤ s.size := by
  simp only [St.settle, St.size, St.trim, List.length_append, List.length_nil, List.length_drop]; omega
theorem size_release (s : St) (n : Int) : (s.release n).size ≤ s.size := by
  simp only [St.release, St.size, List.length_take]; omega
end I
end Go.V
