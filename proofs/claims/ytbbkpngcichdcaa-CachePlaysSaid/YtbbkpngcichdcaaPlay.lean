/-
  What a cache of ints does, told over plain lists.
-/
import Derived.Test.YtbbkpngcichdcaaCacheK
namespace Go.V
open Go.Proofs
set_option maxRecDepth 100000
namespace I
abbrev KV := List (Int × Int)
structure St where
  clean : KV
  kept : KV
  room : Nat
  hits : Nat
  misses : Nat
  gone : Nat
def look : KV → Int → Option Int
  | [], _ => none
  | p :: l, k => if p.1 = k then some p.2 else look l k
def wout (l : KV) (k : Int) : KV := l.filter fun p => p.1 ≠ k
def sets (l : KV) (k v : Int) : KV := l.map fun p => if p.1 = k then (p.1, v) else p
def St.trim (s : St) : St := { s with clean := s.clean.drop (s.clean.length - s.room), gone := s.gone + (s.clean.length - s.room) }
def St.got (s : St) (k : Int) : Int × Bool := match look s.kept k with
  | some v => (v, true)
  | none => match look s.clean k with
    | some v => (v, true)
    | none => (0, false)
def St.get (s : St) (k : Int) : St := match look s.kept k with
  | some _ => { s with hits := s.hits + 1 }
  | none => match look s.clean k with
    | some v => { s with clean := wout s.clean k ++ [(k, v)], hits := s.hits + 1 }
    | none => { s with misses := s.misses + 1 }
def St.put (s : St) (k v : Int) : St := match look s.kept k with
  | some _ => { s with kept := sets s.kept k v }
  | none => St.trim { s with clean := wout s.clean k ++ [(k, v)] }
def St.hold (s : St) (k v : Int) : St := match look s.kept k with
  | some _ => { s with kept := sets s.kept k v }
  | none => { s with clean := wout s.clean k, kept := s.kept ++ [(k, v)] }
def St.settle (s : St) : St := St.trim { s with clean := s.clean ++ s.kept, kept := [] }
def St.release (s : St) (n : Int) : St := { s with kept := s.kept.take n.toNat }
def St.size (s : St) : Nat := s.hits + s.misses + s.gone + s.kept.length + s.clean.length
/-- what always holds of a state -/
structure St.Ok (s : St) : Prop where
  fit : s.clean.length ≤ s.room
  room : s.room ≤ 4096
  keys : ((s.clean ++ s.kept).map (·.1)).Nodup

def Nd.kv (n : Nd) : Int × Int := (n.k, n.v)
theorem look_some {k v : Int} : ∀ {l : List Nd}, look (l.map Nd.kv) k = some v → ∃ a n b, l = a ++ n :: b ∧ n.k = k ∧ n.v = v
  | [], h => by cases h
  | n :: l, h => by
    simp only [List.map_cons, look, Nd.kv] at h
    split at h
    · rename_i hk; cases h; exact ⟨[], n, l, rfl, hk, rfl⟩
    · obtain ⟨a, m, b, h1, h2⟩ := look_some (l := l) h
      exact ⟨n :: a, m, b, by rw [h1]; rfl, h2⟩
theorem look_none {k : Int} : ∀ {l : KV}, look l k = none ↔ ∀ p ∈ l, p.1 ≠ k
  | [] => by simp [look]
  | p :: l => by
    simp only [look, List.mem_cons, forall_eq_or_imp]
    split
    · rename_i h; simp [h]
    · rename_i h; rw [look_none]; simp [h]
theorem look_none' {k : Int} {l : List Nd} (h : look (l.map Nd.kv) k = none) : ∀ n ∈ l, n.k ≠ k := fun n hn =>
  look_none.1 h n.kv (List.mem_map.2 ⟨n, hn, rfl⟩)
theorem wout_none {k : Int} {l : KV} (h : look l k = none) : wout l k = l := by
  unfold wout; rw [List.filter_eq_self]; intro p hp; simpa using look_none.1 h p hp
theorem wout_at {n : Nd} {a b : List Nd} (h : ((a ++ n :: b).map Nd.k).Nodup) : wout ((a ++ n :: b).map Nd.kv) n.k = (a ++ b).map Nd.kv := by
  have hne : ∀ m ∈ a ++ b, m.k ≠ n.k := fun m hm e => by
    simp only [List.map_append, List.map_cons, List.nodup_append, List.nodup_cons, List.mem_map] at h
    rcases List.mem_append.1 hm with hm | hm
    · exact h.2.2 m.k ⟨m, hm, rfl⟩ n.k (by simp) e
    · exact h.2.1.1 ⟨m, hm, e⟩
  have e1 : ∀ l : List Nd, (∀ m ∈ l, m.k ≠ n.k) → wout (l.map Nd.kv) n.k = l.map Nd.kv := fun l hl => by
    unfold wout; rw [List.filter_eq_self]; intro p hp
    obtain ⟨m, hm, rfl⟩ := List.mem_map.1 hp
    exact decide_eq_true (show m.k ≠ n.k from hl m hm)
  rw [List.map_append, List.map_cons]
  unfold wout at e1 ⊢
  rw [List.filter_append, List.filter_cons_of_neg (by simp [Nd.kv]), e1 a fun m hm => hne m (by simp [hm]), e1 b fun m hm => hne m (by simp [hm]), List.map_append]
theorem sets_at {n : Nd} {a b : List Nd} (v : Int) (h : ((a ++ n :: b).map Nd.k).Nodup) : sets ((a ++ n :: b).map Nd.kv) n.k v = (a ++ { n with v := v } :: b).map Nd.kv := by
  have hne : ∀ m ∈ a ++ b, m.k ≠ n.k := fun m hm e => by
    simp only [List.map_append, List.map_cons, List.nodup_append, List.nodup_cons, List.mem_map] at h
    rcases List.mem_append.1 hm with hm | hm
    · exact h.2.2 m.k ⟨m, hm, rfl⟩ n.k (by simp) e
    · exact h.2.1.1 ⟨m, hm, e⟩
  have e1 : ∀ l : List Nd, (∀ m ∈ l, m.k ≠ n.k) → sets (l.map Nd.kv) n.k v = l.map Nd.kv := fun l hl => by
    unfold sets; rw [List.map_map]; apply List.map_congr_left; intro m hm; simp [Nd.kv, hl m hm]
  rw [List.map_append, List.map_cons, List.map_append, List.map_cons]
  unfold sets at e1 ⊢
  rw [List.map_append, List.map_cons, e1 a fun m hm => hne m (by simp [hm]), e1 b fun m hm => hne m (by simp [hm])]
  simp [Nd.kv]

/-- a cache in memory at block cb, in the blocks F -/
def Box (w : World) (cb : Nat) (F : Nat → Prop) (s : St) : Prop :=
  ∃ mb cl kp, Core w cb mb cl kp [] s.room s.hits s.misses s.gone ∧ (∀ n ∈ cl, n.h = false) ∧ (∀ n ∈ kp, n.h = true) ∧ cl.map Nd.kv = s.clean ∧ kp.map Nd.kv = s.kept ∧
    (∀ b, foot cb mb (cl ++ kp) b → F b) ∧ (∀ b, F b → b < w.heap.size) ∧ s.clean.length ≤ s.room ∧ s.room ≤ 4096
def grown (F : Nat → Prop) (w w' : World) (b : Nat) : Prop := F b ∨ (w.heap.size ≤ b ∧ b < w'.heap.size)
variable {w w' : World} {cb : Nat} {F : Nat → Prop} {s : St}
theorem Box.ok (h : Box w cb F s) : s.Ok := by
  obtain ⟨mb, cl, kp, hc, h1, h2, h3, h4, h5, h6, h7, h8⟩ := h
  refine ⟨h7, h8, ?_⟩
  have := hc.keys
  rw [List.append_nil] at this
  rw [← h3, ← h4, ← List.map_append, List.map_map]
  exact this
theorem Box.frame (h : Box w cb F s) {G : Nat → Prop} (f : Fr G w w') (hd : ∀ b, F b → ¬ G b) : Box w' cb F s := by
  obtain ⟨mb, cl, kp, hc, h1, h2, h3, h4, h5, h6, h7, h8⟩ := h
  refine ⟨mb, cl, kp, hc.frame fun b hb => ?_, h1, h2, h3, h4, h5, fun b hb => Nat.lt_of_lt_of_le (h6 b hb) f.size, h7, h8⟩
  rw [List.append_nil] at hb
  exact f.blk b (h6 b (h5 b hb)) (hd b (h5 b hb))
theorem foot_nil {cb mb : Nat} {l : List Nd} {b : Nat} (h : foot cb mb (l ++ []) b) : foot cb mb l b := by rwa [List.append_nil] at h
/-- the lists of a cache behind a call: as they were, permuted, cut, or with an entry more that is new -/
theorem Box.mk' {mb : Nat} {cl kp cl' kp' : List Nd} {s' : St} (h5 : ∀ b, foot cb mb (cl ++ kp) b → F b) (h6 : ∀ b, F b → b < w.heap.size) (fr : Fr (foot cb mb (cl ++ kp ++ [])) w w')
    (hc : Core w' cb mb cl' kp' [] s'.room s'.hits s'.misses s'.gone) (h1 : ∀ n ∈ cl', n.h = false) (h2 : ∀ n ∈ kp', n.h = true) (h3 : cl'.map Nd.kv = s'.clean) (h4 : kp'.map Nd.kv = s'.kept)
    (h7 : s'.clean.length ≤ s'.room) (h8 : s'.room ≤ 4096) (hn : ∀ n ∈ cl' ++ kp', w.heap.size ≤ n.b ∨ ∃ m ∈ cl ++ kp, m.b = n.b) :
    Box w' cb (grown F w w') s' ∧ Fr F w w' := by
  refine ⟨⟨mb, cl', kp', hc, h1, h2, h3, h4, fun b hb => ?_, fun b hb => ?_, h7, h8⟩, fr.mono fun b _ hb => h5 b (foot_nil hb)⟩
  · rcases hb with hb | hb | ⟨n, hn', hb⟩
    · exact .inl (h5 b (.inl hb))
    · exact .inl (h5 b (.inr (.inl hb)))
    · rcases hn n hn' with hh | ⟨m, hm, hh⟩
      · exact .inr ⟨by omega, by rw [hb]; exact hc.lt.2.2 n (by simpa using hn')⟩
      · exact .inl (h5 b (.inr (.inr ⟨m, hm, by omega⟩)))
  · rcases hb with hb | hb
    · exact Nat.lt_of_lt_of_le (h6 b hb) fr.size
    · exact hb.2

theorem Box.get (h : Box w cb F s) (hs : s.size < 2305843009213693952) (k : Int) :
    Fn Try.prog 13 #[ptr (cb, 0), .int .i64 k] w fun x w' => x = .tuple #[.int .i64 (s.got k).1, .bool (s.got k).2] ∧ Box w' cb (grown F w w') (s.get k) ∧ Fr F w w' := by
  obtain ⟨mb, cl, kp, hc, h1, h2, h3, h4, h5, h6, h7, h8⟩ := h
  have l3 : cl.length = s.clean.length := by rw [← h3]; simp
  have l4 : kp.length = s.kept.length := by rw [← h4]; simp
  unfold St.size at hs
  cases hk : look s.kept k with
  | some v =>
    have hk' := hk
    rw [← h4] at hk'
    obtain ⟨a, n, b, rfl, rfl, rfl⟩ := look_some hk'
    refine (get_kept hc (n := n) (by simp) (h2 n (by simp)) (by omega)).mono ?_
    rintro x w' ⟨rfl, hc', fr⟩
    have e1 : s.got n.k = (n.v, true) := by simp [St.got, hk]
    have e2 : s.get n.k = { s with hits := s.hits + 1 } := by simp [St.get, hk]
    rw [e1, e2]
    exact ⟨rfl, Box.mk' (s' := { s with hits := s.hits + 1 }) h5 h6 fr hc' h1 h2 h3 h4 h7 h8 fun n hn => .inr ⟨n, hn, rfl⟩⟩
  | none =>
    have hk' := hk
    rw [← h4] at hk'
    have hk2 := look_none' hk'
    cases hl : look s.clean k with
    | some v =>
      have hl' := hl
      rw [← h3] at hl'
      obtain ⟨a, n, b, rfl, rfl, rfl⟩ := look_some hl'
      refine (get_clean hc (h1 n (by simp)) (by omega) (by rw [l3]; omega)).mono ?_
      rintro x w' ⟨rfl, hc', fr⟩
      have e1 : s.got n.k = (n.v, true) := by simp [St.got, hk, hl]
      have e2 : s.get n.k = { s with clean := wout s.clean n.k ++ [(n.k, n.v)], hits := s.hits + 1 } := by simp [St.get, hk, hl]
      have hnd : ((a ++ n :: b).map Nd.k).Nodup := by
        have := hc.keys; rw [List.append_nil, List.map_append] at this; exact (List.nodup_append.1 this).1
      have e3 : (a ++ b ++ [n]).map Nd.kv = wout s.clean n.k ++ [(n.k, n.v)] := by rw [← h3, wout_at hnd, List.map_append]; rfl
      rw [e1, e2]
      refine ⟨rfl, Box.mk' (s' := { s with clean := wout s.clean n.k ++ [(n.k, n.v)], hits := s.hits + 1 }) h5 h6 fr hc' (fun m hm => h1 m (by simp at hm ⊢; grind)) h2 e3 h4 ?_ h8 fun m hm => .inr ⟨m, by simp at hm ⊢; grind, rfl⟩⟩
      have := congrArg List.length e3
      simp only [List.length_map, List.length_append, List.length_cons, List.length_nil] at this l3 ⊢
      omega
    | none =>
      have hl' := hl
      rw [← h3] at hl'
      have hl2 := look_none' hl'
      refine (get_miss hc (k := k) (fun n hn => by simp at hn; grind) (by omega)).mono ?_
      rintro x w' ⟨rfl, hc', fr⟩
      have e1 : s.got k = (0, false) := by simp [St.got, hk, hl]
      have e2 : s.get k = { s with misses := s.misses + 1 } := by simp [St.get, hk, hl]
      rw [e1, e2]
      exact ⟨rfl, Box.mk' (s' := { s with misses := s.misses + 1 }) h5 h6 fr hc' h1 h2 h3 h4 h7 h8 fun n hn => .inr ⟨n, hn, rfl⟩⟩

theorem Box.put (h : Box w cb F s) (hs : s.size < 2305843009213693952) (k v : Int) :
    Fn Try.prog 10 #[ptr (cb, 0), .int .i64 k, .int .i64 v] w fun x w' => x = .tuple #[] ∧ Box w' cb (grown F w w') (s.put k v) ∧ Fr F w w' := by
  obtain ⟨mb, cl, kp, hc, h1, h2, h3, h4, h5, h6, h7, h8⟩ := h
  have l3 : cl.length = s.clean.length := by rw [← h3]; simp
  have l4 : kp.length = s.kept.length := by rw [← h4]; simp
  unfold St.size at hs
  cases hk : look s.kept k with
  | some u =>
    have hk' := hk
    rw [← h4] at hk'
    obtain ⟨a, n, b, rfl, rfl, rfl⟩ := look_some hk'
    refine (put_kept hc (h2 n (by simp)) v (by omega) (by omega)).mono ?_
    rintro x w' ⟨rfl, hc', fr⟩
    rw [show cl.length - s.room = 0 by omega, List.drop_zero, Nat.add_zero] at hc'
    have hnd : ((a ++ n :: b).map Nd.k).Nodup := by
      have := hc.keys; rw [List.append_nil, List.map_append] at this; exact (List.nodup_append.1 this).2.1
    have e2 : s.put n.k v = { s with kept := sets s.kept n.k v } := by simp [St.put, hk]
    rw [e2]
    refine ⟨rfl, Box.mk' (s' := { s with kept := sets s.kept n.k v }) h5 h6 fr hc' h1 (fun m hm => ?_) h3 (by rw [← h4, sets_at v hnd]) h7 h8 fun m hm => .inr ?_⟩
    · simp at hm
      rcases hm with hm | rfl | hm
      · exact h2 m (by simp [hm])
      · exact h2 n (by simp)
      · exact h2 m (by simp [hm])
    · simp at hm
      rcases hm with hm | hm | rfl | hm
      · exact ⟨m, by simp [hm], rfl⟩
      · exact ⟨m, by simp [hm], rfl⟩
      · exact ⟨n, by simp, rfl⟩
      · exact ⟨m, by simp [hm], rfl⟩
  | none =>
    have hk' := hk
    rw [← h4] at hk'
    have hk2 := look_none' hk'
    have e2 : s.put k v = St.trim { s with clean := wout s.clean k ++ [(k, v)] } := by simp [St.put, hk]
    rw [e2]
    cases hl : look s.clean k with
    | some u =>
      have hl' := hl
      rw [← h3] at hl'
      obtain ⟨a, n, b, rfl, rfl, rfl⟩ := look_some hl'
      refine (put_clean hc (h1 n (by simp)) v (by rw [l3]; omega) (by omega)).mono ?_
      rintro x w' ⟨rfl, hc', fr⟩
      have hnd : ((a ++ n :: b).map Nd.k).Nodup := by
        have := hc.keys; rw [List.append_nil, List.map_append] at this; exact (List.nodup_append.1 this).1
      have e3 : (a ++ b ++ [{ n with v := v }]).map Nd.kv = wout s.clean n.k ++ [(n.k, v)] := by rw [← h3, wout_at hnd, List.map_append]; rfl
      have e4 : (wout s.clean n.k ++ [(n.k, v)]).length = s.clean.length := by rw [← e3, ← l3]; simp
      refine ⟨rfl, Box.mk' (s' := St.trim { s with clean := wout s.clean n.k ++ [(n.k, v)] }) h5 h6 fr (by simp only [St.trim, e4, ← l3]; exact hc') (fun m hm => ?_) h2 (by simp only [St.trim, e4, ← l3]; rw [List.map_drop, e3]) h4 ?_ h8 fun m hm => .inr ?_⟩
      · have := List.mem_of_mem_drop hm
        simp at this
        rcases this with hm | hm | rfl
        · exact h1 m (by simp [hm])
        · exact h1 m (by simp [hm])
        · exact h1 n (by simp)
      · simp only [St.trim, List.length_drop]; omega
      · rcases List.mem_append.1 hm with hm | hm
        · have := List.mem_of_mem_drop hm
          simp at this
          rcases this with hm | hm | rfl
          · exact ⟨m, by simp [hm], rfl⟩
          · exact ⟨m, by simp [hm], rfl⟩
          · exact ⟨n, by simp, rfl⟩
        · exact ⟨m, by simp [hm], rfl⟩
    | none =>
      have hl' := hl
      rw [← h3] at hl'
      have hl2 := look_none' hl'
      refine (put_new hc (k := k) (fun n hn => by simp at hn; grind) v (by omega) (by omega)).mono ?_
      rintro x w' ⟨rfl, hc', fr⟩
      have e3 : (cl ++ [(⟨w.heap.size, k, v, false⟩ : Nd)]).map Nd.kv = wout s.clean k ++ [(k, v)] := by rw [wout_none hl, ← h3, List.map_append]; rfl
      have e4 : (wout s.clean k ++ [(k, v)]).length = cl.length + 1 := by rw [← e3]; simp
      refine ⟨rfl, Box.mk' (s' := St.trim { s with clean := wout s.clean k ++ [(k, v)] }) h5 h6 fr (by simp only [St.trim, e4]; exact hc') (fun m hm => ?_) h2 (by simp only [St.trim, e4]; rw [List.map_drop, e3]) h4 ?_ h8 fun m hm => ?_⟩
      · have := List.mem_of_mem_drop hm
        simp at this
        rcases this with hm | rfl
        · exact h1 m hm
        · rfl
      · simp only [St.trim, List.length_drop]; omega
      · rcases List.mem_append.1 hm with hm | hm
        · have := List.mem_of_mem_drop hm
          simp at this
          rcases this with hm | rfl
          · exact .inr ⟨m, by simp [hm], rfl⟩
          · exact .inl (Nat.le_refl _)
        · exact .inr ⟨m, by simp [hm], rfl⟩

theorem Box.hold (h : Box w cb F s) (hs : s.size < 2305843009213693952) (k v : Int) :
    Fn Try.prog 19 #[ptr (cb, 0), .int .i64 k, .int .i64 v] w fun x w' => x = .tuple #[] ∧ Box w' cb (grown F w w') (s.hold k v) ∧ Fr F w w' := by
  obtain ⟨mb, cl, kp, hc, h1, h2, h3, h4, h5, h6, h7, h8⟩ := h
  have l3 : cl.length = s.clean.length := by rw [← h3]; simp
  have l4 : kp.length = s.kept.length := by rw [← h4]; simp
  unfold St.size at hs
  cases hk : look s.kept k with
  | some u =>
    have hk' := hk
    rw [← h4] at hk'
    obtain ⟨a, n, b, rfl, rfl, rfl⟩ := look_some hk'
    refine (hold_kept hc (h2 n (by simp)) v).mono ?_
    rintro x w' ⟨rfl, hc', fr⟩
    have hnd : ((a ++ n :: b).map Nd.k).Nodup := by
      have := hc.keys; rw [List.append_nil, List.map_append] at this; exact (List.nodup_append.1 this).2.1
    have e2 : s.hold n.k v = { s with kept := sets s.kept n.k v } := by simp [St.hold, hk]
    rw [e2]
    refine ⟨rfl, Box.mk' (s' := { s with kept := sets s.kept n.k v }) h5 h6 fr hc' h1 (fun m hm => ?_) h3 (by rw [← h4, sets_at v hnd]) h7 h8 fun m hm => .inr ?_⟩
    · simp at hm
      rcases hm with hm | rfl | hm
      · exact h2 m (by simp [hm])
      · exact h2 n (by simp)
      · exact h2 m (by simp [hm])
    · simp at hm
      rcases hm with hm | hm | rfl | hm
      · exact ⟨m, by simp [hm], rfl⟩
      · exact ⟨m, by simp [hm], rfl⟩
      · exact ⟨n, by simp, rfl⟩
      · exact ⟨m, by simp [hm], rfl⟩
  | none =>
    have hk' := hk
    rw [← h4] at hk'
    have hk2 := look_none' hk'
    have e2 : s.hold k v = { s with clean := wout s.clean k, kept := s.kept ++ [(k, v)] } := by simp [St.hold, hk]
    rw [e2]
    cases hl : look s.clean k with
    | some u =>
      have hl' := hl
      rw [← h3] at hl'
      obtain ⟨a, n, b, rfl, rfl, rfl⟩ := look_some hl'
      refine (hold_clean hc (h1 n (by simp)) v (by rw [l3]; omega)).mono ?_
      rintro x w' ⟨rfl, hc', fr⟩
      have hnd : ((a ++ n :: b).map Nd.k).Nodup := by
        have := hc.keys; rw [List.append_nil, List.map_append] at this; exact (List.nodup_append.1 this).1
      have e3 : (a ++ b).map Nd.kv = wout s.clean n.k := by rw [← h3, wout_at hnd]
      refine ⟨rfl, Box.mk' (s' := { s with clean := wout s.clean n.k, kept := s.kept ++ [(n.k, v)] }) h5 h6 fr hc' (fun m hm => h1 m (by simp at hm ⊢; grind)) (fun m hm => ?_) e3 (by rw [List.map_append, h4]; rfl) ?_ h8 fun m hm => .inr ?_⟩
      · simp at hm
        rcases hm with hm | rfl
        · exact h2 m hm
        · rfl
      · have := congrArg List.length e3
        simp only [List.length_map, List.length_append, List.length_cons] at this l3 ⊢
        omega
      · simp at hm
        rcases hm with hm | hm | hm | rfl
        · exact ⟨m, by simp [hm], rfl⟩
        · exact ⟨m, by simp [hm], rfl⟩
        · exact ⟨m, by simp [hm], rfl⟩
        · exact ⟨n, by simp, rfl⟩
    | none =>
      have hl' := hl
      rw [← h3] at hl'
      have hl2 := look_none' hl'
      refine (hold_new hc (k := k) (fun n hn => by simp at hn; grind) v (by omega)).mono ?_
      rintro x w' ⟨rfl, hc', fr⟩
      refine ⟨rfl, Box.mk' (s' := { s with clean := wout s.clean k, kept := s.kept ++ [(k, v)] }) h5 h6 fr hc' h1 (fun m hm => ?_) (by rw [wout_none hl]; exact h3) (by rw [List.map_append, h4]; rfl) (by rw [wout_none hl]; exact h7) h8 fun m hm => ?_⟩
      · simp at hm
        rcases hm with hm | rfl
        · exact h2 m hm
        · rfl
      · simp at hm
        rcases hm with hm | hm | rfl
        · exact .inr ⟨m, by simp [hm], rfl⟩
        · exact .inr ⟨m, by simp [hm], rfl⟩
        · exact .inl (Nat.le_refl _)

theorem off_kv (l : List Nd) : (l.map Nd.off).map Nd.kv = l.map Nd.kv := by
  rw [List.map_map]; apply List.map_congr_left; intro m _; rfl
theorem Box.settle (h : Box w cb F s) (hs : s.size < 2305843009213693952) :
    Fn Try.prog 40 #[ptr (cb, 0)] w fun x w' => x = .tuple #[] ∧ Box w' cb (grown F w w') s.settle ∧ Fr F w w' := by
  obtain ⟨mb, cl, kp, hc, h1, h2, h3, h4, h5, h6, h7, h8⟩ := h
  have l3 : cl.length = s.clean.length := by rw [← h3]; simp
  have l4 : kp.length = s.kept.length := by rw [← h4]; simp
  unfold St.size at hs
  refine (I.settle hc (by omega) (by omega)).mono ?_
  rintro x w' ⟨rfl, hc', fr⟩
  have e3 : (cl ++ kp.map Nd.off).map Nd.kv = s.clean ++ s.kept := by rw [List.map_append, off_kv, h3, h4]
  have e4 : (s.clean ++ s.kept).length = cl.length + kp.length := by rw [List.length_append, l3, l4]
  refine ⟨rfl, Box.mk' (s' := s.settle) h5 h6 fr (by simp only [St.settle, St.trim, e4]; exact hc') (fun m hm => ?_) (fun m hm => by cases hm) (by simp only [St.settle, St.trim, e4]; rw [List.map_drop, e3]) rfl ?_ h8 fun m hm => .inr ?_⟩
  · have := List.mem_of_mem_drop hm
    simp at this
    rcases this with hm | ⟨m', hm', rfl⟩
    · exact h1 m hm
    · rfl
  · simp only [St.settle, St.trim, List.length_drop]; omega
  · rw [List.append_nil] at hm
    have := List.mem_of_mem_drop hm
    simp at this
    rcases this with hm | ⟨m', hm', rfl⟩
    · exact ⟨m, by simp [hm], rfl⟩
    · exact ⟨m', by simp [hm'], rfl⟩
theorem Box.release (h : Box w cb F s) (hs : s.size < 2305843009213693952) (n : Int) :
    Fn Try.prog 42 #[ptr (cb, 0), .int .i64 n] w fun x w' => x = .tuple #[] ∧ Box w' cb (grown F w w') (s.release n) ∧ Fr F w w' := by
  obtain ⟨mb, cl, kp, hc, h1, h2, h3, h4, h5, h6, h7, h8⟩ := h
  have l4 : kp.length = s.kept.length := by rw [← h4]; simp
  unfold St.size at hs
  refine (I.release hc n (by omega)).mono ?_
  rintro x w' ⟨rfl, hc', fr⟩
  refine ⟨rfl, Box.mk' (s' := s.release n) h5 h6 fr hc' h1 (fun m hm => h2 m (List.mem_of_mem_take hm)) h3 (by simp only [St.release]; rw [List.map_take, h4]) h7 h8 fun m hm => .inr ⟨m, ?_, rfl⟩⟩
  rcases List.mem_append.1 hm with hm | hm
  · simp [hm]
  · simp [List.mem_of_mem_take hm]
def keysV (l : KV) : List Value := l.map fun p => .int .i64 p.1
theorem kv_keys (l : List Nd) : l.map keyV = keysV (l.map Nd.kv) := by simp [keysV, keyV, Nd.kv, Function.comp_def]
theorem Box.keys (h : Box w cb F s) (hs : s.clean.length < 8796093022208) :
    Fn Try.prog 12 #[ptr (cb, 0)] w fun x w' => OwnS w' 3 1 x s.clean.length (keysV s.clean.reverse) ∧ Fr (fun _ => False) w w' ∧ ∀ b, blockOf x = some b → w.heap.size ≤ b := by
  obtain ⟨mb, cl, kp, hc, h1, h2, h3, h4, h5, h6, h7, h8⟩ := h
  have l3 : cl.length = s.clean.length := by rw [← h3]; simp
  refine (I.keys hc (by omega)).mono ?_
  rintro x w' ⟨ho, hc', fr, hn⟩
  rw [kv_keys, List.map_reverse, h3, l3] at ho
  exact ⟨ho, fr, hn⟩
theorem Box.held (h : Box w cb F s) (hs : s.kept.length < 8796093022208) :
    Fn Try.prog 27 #[ptr (cb, 0)] w fun x w' => OwnS w' 3 1 x s.kept.length (keysV s.kept) ∧ Fr (fun _ => False) w w' ∧ ∀ b, blockOf x = some b → w.heap.size ≤ b := by
  obtain ⟨mb, cl, kp, hc, h1, h2, h3, h4, h5, h6, h7, h8⟩ := h
  have l4 : kp.length = s.kept.length := by rw [← h4]; simp
  refine (I.held hc (by omega)).mono ?_
  rintro x w' ⟨ho, hc', fr, hn⟩
  rw [kv_keys, h4, l4] at ho
  exact ⟨ho, fr, hn⟩
theorem Box.tally (h : Box w cb F s) :
    Fn Try.prog 11 #[ptr (cb, 0)] w fun x w' => x = tallyV s.hits s.misses s.gone s.clean.length s.kept.length ∧ Fr (fun _ => False) w w' := by
  obtain ⟨mb, cl, kp, hc, h1, h2, h3, h4, h5, h6, h7, h8⟩ := h
  refine (I.tally hc).mono ?_
  rintro x w' ⟨rfl, hc', fr⟩
  refine ⟨by rw [← h3, ← h4]; simp, fr⟩
def St.new (r : Int) : St := ⟨[], [], min r.toNat 4096, 0, 0, 0⟩
theorem Box.new (w : World) (r : Int) :
    Fn Try.prog 9 #[.int .i64 r] w fun x w' => ∃ cb, x = ptr (cb, 0) ∧ Box w' cb (fun b => w.heap.size ≤ b ∧ b < w'.heap.size) (St.new r) ∧ Fr (fun _ => False) w w' := by
  refine (I.new w r).mono ?_
  rintro x w' ⟨rfl, hc, fr⟩
  refine ⟨_, rfl, ⟨_, [], [], hc, fun n hn => (by cases hn), fun n hn => (by cases hn), rfl, rfl, fun b hb => ?_, fun b hb => hb.2, by simp [St.new], by simp only [St.new]; omega⟩, fr⟩
  have := hc.foot_lt (b := b) hb
  refine ⟨?_, this⟩
  rcases hb with rfl | rfl | ⟨n, hn, _⟩
  · omega
  · omega
  · cases hn
end I
end Go.V
