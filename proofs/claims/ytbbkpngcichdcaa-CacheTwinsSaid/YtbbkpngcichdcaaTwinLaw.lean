/-
  Plain laws for two caches with the same calls: the states are the same but for the count of hits; values stay in range.
-/
import Derived.Test.YtbbkpngcichdcaaNestLaw
namespace Go.V
namespace I
/-- more hits, the rest the same -/
def St.bump (s : St) (j : Nat) : St := { s with hits := s.hits + j }
theorem got_bump (s : St) (j : Nat) (k : Int) : (s.bump j).got k = s.got k := rfl
theorem get_bump (s : St) (j : Nat) (k : Int) : (s.bump j).get k = (s.get k).bump j := by
  have e1 : (s.bump j).kept = s.kept := rfl
  have e2 : (s.bump j).clean = s.clean := rfl
  unfold St.get
  rw [e1, e2]
  cases look s.kept k with
  | some v => simp only [St.bump]; congr 1; omega
  | none =>
    cases look s.clean k with
    | some v => simp only [St.bump]; congr 1; omega
    | none => rfl
theorem put_bump (s : St) (j : Nat) (k v : Int) : (s.bump j).put k v = (s.put k v).bump j := by
  have e1 : (s.bump j).kept = s.kept := rfl
  unfold St.put
  rw [e1]
  cases look s.kept k <;> rfl
theorem hold_bump (s : St) (j : Nat) (k v : Int) : (s.bump j).hold k v = (s.hold k v).bump j := by
  have e1 : (s.bump j).kept = s.kept := rfl
  unfold St.hold
  rw [e1]
  cases look s.kept k <;> rfl
theorem settle_bump (s : St) (j : Nat) : (s.bump j).settle = s.settle.bump j := rfl
theorem release_bump (s : St) (j : Nat) (n : Int) : (s.bump j).release n = (s.release n).bump j := rfl
theorem size_bump (s : St) (j : Nat) : (s.bump j).size = s.size + j := by simp only [St.bump, St.size]; omega

/-- keys and values in range -/
def In64 (l : KV) : Prop := ∀ p ∈ l, R64 p.1 ∧ R64 p.2
def St.In (s : St) : Prop := In64 (s.clean ++ s.kept)
theorem look_in {k v : Int} : ∀ {l : KV}, look l k = some v → (k, v) ∈ l
  | [], h => by cases h
  | p :: l, h => by
    unfold look at h
    split at h
    · rename_i hk; cases h; subst hk; simp
    · exact List.mem_cons_of_mem _ (look_in h)
theorem In64.sub {l m : KV} (h : In64 m) (hs : ∀ p ∈ l, p ∈ m) : In64 l := fun p hp => h p (hs p hp)
theorem In64.wout {l : KV} (h : In64 l) (k : Int) : In64 (wout l k) := h.sub fun p hp => (List.mem_filter.1 hp).1
theorem In64.sets {l : KV} (h : In64 l) (k : Int) {v : Int} (hv : R64 v) : In64 (sets l k v) := fun p hp => by
  obtain ⟨q, hq, rfl⟩ := List.mem_map.1 hp
  split
  · exact ⟨(h q hq).1, hv⟩
  · exact h q hq
theorem In64.app {l m : KV} (h : In64 l) (h2 : In64 m) : In64 (l ++ m) := fun p hp => by
  rcases List.mem_append.1 hp with hp | hp
  · exact h p hp
  · exact h2 p hp
theorem In64.one {k v : Int} (hk : R64 k) (hv : R64 v) : In64 [(k, v)] := fun p hp => by
  simp only [List.mem_singleton] at hp; subst hp; exact ⟨hk, hv⟩
theorem In64.left {l m : KV} (h : In64 (l ++ m)) : In64 l := h.sub fun p hp => by simp [hp]
theorem In64.right {l m : KV} (h : In64 (l ++ m)) : In64 m := h.sub fun p hp => by simp [hp]
theorem In64.drop {l : KV} (h : In64 l) (n : Nat) : In64 (l.drop n) := h.sub fun p hp => List.mem_of_mem_drop hp
theorem In64.take {l : KV} (h : In64 l) (n : Nat) : In64 (l.take n) := h.sub fun p hp => List.mem_of_mem_take hp
theorem St.In.got {s : St} (h : s.In) (k : Int) : R64 (s.got k).1 := by
  unfold St.got
  cases h1 : look s.kept k with
  | some v => exact (In64.right h _ (look_in h1)).2
  | none =>
    cases h2 : look s.clean k with
    | some v => exact (In64.left h _ (look_in h2)).2
    | none => unfold R64; simp only []; omega
theorem St.got_no {s : St} {k : Int} (h : (s.got k).2 = false) : (s.got k).1 = 0 := by
  revert h
  unfold St.got
  cases h1 : look s.kept k with
  | some v => intro h; cases h
  | none =>
    cases h2 : look s.clean k with
    | some v => intro h; cases h
    | none => intro _; rfl
theorem St.In.trim {s : St} (h : s.In) : (St.trim s).In := (In64.left h).drop _ |>.app (In64.right h)
theorem St.In.get {s : St} (h : s.In) {k : Int} (hk : R64 k) : (s.get k).In := by
  unfold St.get
  cases h1 : look s.kept k with
  | some v => exact h
  | none =>
    cases h2 : look s.clean k with
    | some v => exact (((In64.left h).wout k).app (In64.one hk (In64.left h _ (look_in h2)).2)).app (In64.right h)
    | none => exact h
theorem St.In.put {s : St} (h : s.In) {k v : Int} (hk : R64 k) (hv : R64 v) : (s.put k v).In := by
  unfold St.put
  cases h1 : look s.kept k with
  | some u => exact (In64.left h).app ((In64.right h).sets k hv)
  | none => exact St.In.trim (s := { s with clean := I.wout s.clean k ++ [(k, v)] }) ((((In64.left h).wout k).app (In64.one hk hv)).app (In64.right h))
theorem St.In.hold {s : St} (h : s.In) {k v : Int} (hk : R64 k) (hv : R64 v) : (s.hold k v).In := by
  unfold St.hold
  cases h1 : look s.kept k with
  | some u => exact (In64.left h).app ((In64.right h).sets k hv)
  | none => exact ((In64.left h).wout k).app ((In64.right h).app (In64.one hk hv))
theorem St.In.settle {s : St} (h : s.In) : s.settle.In :=
  St.In.trim (s := { s with clean := s.clean ++ s.kept, kept := [] }) (by show In64 ((s.clean ++ s.kept) ++ []); rw [List.append_nil]; exact h)
theorem St.In.release {s : St} (h : s.In) (n : Int) : (s.release n).In := (In64.left h).app ((In64.right h).take _)
end I
end Go.V
