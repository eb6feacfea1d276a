/-
  A cache of ints in memory: 'CacheAt'; its map.
-/
import Derived.Test.YtbbkpngcichdcaaCacheB
namespace Go.V
open Go.Proofs
set_option maxRecDepth 100000
/-- blocks outside F stand; the heap may have grown -/
structure Fr (F : Nat → Prop) (w w' : World) : Prop where
  os : w'.os = w.os
  out : w'.output = w.output
  size : w.heap.size ≤ w'.heap.size
  blk : ∀ b, b < w.heap.size → ¬ F b → w'.heap[b]? = w.heap[b]?
  thaw : ∀ b, Thawed w b → Thawed w' b
theorem Fr.refl (F : Nat → Prop) (w : World) : Fr F w w := ⟨rfl, rfl, Nat.le_refl _, fun _ _ _ => rfl, fun _ h => h⟩
theorem Fr.mono {F G : Nat → Prop} {w w' : World} (h : Fr F w w') (hf : ∀ b, b < w.heap.size → F b → G b) : Fr G w w' := ⟨h.os, h.out, h.size, fun b hb hg => h.blk b hb fun hf' => hg (hf b hb hf'), h.thaw⟩
theorem Fr.trans {F : Nat → Prop} {w w1 w2 : World} (h : Fr F w w1) (k : Fr F w1 w2) : Fr F w w2 :=
  ⟨k.os.trans h.os, k.out.trans h.out, Nat.le_trans h.size k.size, fun b hb hf => (k.blk b (Nat.lt_of_lt_of_le hb h.size) hf).trans (h.blk b hb hf), fun b hb => k.thaw b (h.thaw b hb)⟩
theorem Fr.trans' {F G : Nat → Prop} {w w1 w2 : World} (h : Fr F w w1) (k : Fr G w1 w2) (hg : ∀ b, b < w.heap.size → G b → F b) : Fr F w w2 :=
  ⟨k.os.trans h.os, k.out.trans h.out, Nat.le_trans h.size k.size, fun b hb hf => (k.blk b (Nat.lt_of_lt_of_le hb h.size) (fun h' => hf (hg b hb h'))).trans (h.blk b hb hf), fun b hb => k.thaw b (h.thaw b hb)⟩
theorem Upd.fr {S : Nat → Nat → Prop} {w w' : World} (h : Upd S w w') : Fr (fun b => ∃ o, S b o) w w' :=
  ⟨h.os, h.out, Nat.le_of_eq h.size.symm, fun b _ hb => h.blk b fun o ho => hb ⟨o, ho⟩, h.thaw⟩
theorem Fr.drew {F : Nat → Prop} {w w' : World} (h : Fr F w w') : Fr F w w'.drew := ⟨h.os, h.out, h.size, h.blk, h.thaw⟩
theorem Fr.setc {F : Nat → Prop} {w w' : World} (h : Fr F w w') {b : Nat} (o : Nat) (v : Value) (hb : b < w.heap.size → F b) : Fr F w (setc w' b o v) :=
  ⟨(setc_os w' b o v).1.trans h.os, (setc_os w' b o v).2.trans h.out, by rw [setc_size]; exact h.size, fun b' hb' hf => by
    rw [setc_blk v (fun e => hf (by subst e; exact hb hb'))]; exact h.blk b' hb' hf, fun b hb => thaw_setc (h.thaw b hb)⟩
theorem Fr.put {F : Nat → Prop} {w w' : World} (h : Fr F w w') {b : Nat} (o : Obj) (hb : b < w.heap.size → F b) (ho : fzO o = false := by first | rfl | exact putE_fz (by assumption) | exact delE_fz (by assumption)) : Fr F w (put w' b o) :=
  ⟨h.os, h.out, by rw [put_heap_size]; exact h.size, fun b' hb' hf => by
    rw [blk_put_ne _ (fun e => hf (by subst e; exact hb hb'))]; exact h.blk b' hb' hf, fun b hb => thaw_put ho (h.thaw b hb)⟩
theorem Fr.alloc {F : Nat → Prop} {w w' : World} (h : Fr F w w') (o : Obj) (ho : fzO o = false := by rfl) : Fr F w (w'.alloc o) :=
  ⟨h.os, h.out, by rw [alloc_heap_size]; have := h.size; omega, fun b' hb' hf => by
    rw [alloc_blk_old _ _ (Nat.lt_of_lt_of_le hb' h.size)]; exact h.blk b' hb' hf, fun b hb => thaw_alloc ho (h.thaw b hb)⟩
theorem Fr.cv {F : Nat → Prop} {w w' : World} (h : Fr F w w') {b : Nat} (hb : b < w.heap.size) (hf : ¬ F b) (o : Nat) : cv w' b o = cv w b o := cv_blk (h.blk b hb hf) o

namespace I
structure Nd where
  b : Nat
  k : Int
  v : Int
  h : Bool
abbrev Nd.at (n : Nd) : Ad := (n.b, 0)
structure Ent (w : World) (n : Nd) : Prop where
  key : cv w n.b 0 = some (.int .i64 n.k)
  val : cv w n.b 1 = some (.int .i64 n.v)
  held : cv w n.b 2 = some (.bool n.h)
  pv : ∃ u, cv w n.b 3 = some u
  nx : ∃ u, cv w n.b 4 = some u
def pairs (ns : List Nd) : List (Value × Value) := ns.map fun n => (.int .i64 n.k, ptr n.at)
/-- a cache in memory: cl and kp in its rows, xs in its map alone -/
structure Core (w : World) (cb mb : Nat) (cl kp xs : List Nd) (room hits misses gone : Nat) : Prop where
  room : cv w cb 0 = some (.int .i64 room)
  found : cv w cb 1 = some (.map (some mb))
  clean : RowAt w 3 (cb, 2) (cl.map Nd.at)
  kept : RowAt w 3 (cb, 8) (kp.map Nd.at)
  hits : cv w cb 14 = some (.int .i64 hits)
  misses : cv w cb 15 = some (.int .i64 misses)
  gone : cv w cb 16 = some (.int .i64 gone)
  ents : ∀ n ∈ cl ++ kp ++ xs, Ent w n
  map : ∃ es c, w.heap[mb]? = some (.map es c) ∧ (es.toList.map fun e => (e.key, e.val)).Perm (pairs (cl ++ kp ++ xs))
  nodup : (cb :: mb :: (cl ++ kp ++ xs).map (·.b)).Nodup
  keys : ((cl ++ kp ++ xs).map (·.k)).Nodup

/-! ### The map -/
theorem eqV3 (d : Nat) (a b : Int) : eqV Try.prog (d + 1) 3 (.int .i64 a) (.int .i64 b) = some (a == b) := by
  unfold eqV
  rw [intO_und Try.int3]
  simp
theorem ckV3 (d : Nat) (a : Int) : ckV Try.prog (d + 1) 3 (.int .i64 a) = true := by
  unfold ckV
  rw [intO_und Try.int3]
theorem find_none {k : Int} : ∀ (es : List MapEntry) (ns : List Nd) (i : Nat), (∀ e ∈ es, ∃ n ∈ ns, e.key = .int .i64 n.k) → (∀ n ∈ ns, n.k ≠ k) → findV Try.prog 3 (.int .i64 k) es i = some none
  | [], _, _, _, _ => rfl
  | e :: es, ns, i, h, hk => by
    obtain ⟨n, hn, he⟩ := h e (by simp)
    unfold findV
    rw [he, show Op.maxDepth = 9999 + 1 from rfl, eqV3, show (k == n.k) = false by simpa using fun h => hk n hn h.symm]
    exact find_none es ns (i + 1) (fun e he => h e (by simp [he])) hk
theorem find_some {k : Int} {n : Nd} (hk : n.k = k) : ∀ (es : List MapEntry) (i : Nat), (∀ e ∈ es, ∃ a, e.key = .int .i64 a) → (∀ e ∈ es, e.key = .int .i64 k → e.val = ptr n.at) → (∃ e ∈ es, e.key = .int .i64 k) →
    ∃ j, findV Try.prog 3 (.int .i64 k) es i = some (some (i + j, ptr n.at)) ∧ ∃ e, es[j]? = some e ∧ e.key = .int .i64 k
  | [], _, _, _, h => by obtain ⟨e, he, _⟩ := h; cases he
  | e :: es, i, h1, h2, h3 => by
    obtain ⟨a, ha⟩ := h1 e (by simp)
    unfold findV
    rw [ha, show Op.maxDepth = 9999 + 1 from rfl, eqV3]
    by_cases hka : k = a
    · subst hka
      refine ⟨0, ?_, e, by simp, ha⟩
      simp [h2 e (by simp) ha]
    · rw [show (k == a) = false by simpa using hka]
      obtain ⟨e', he', hek⟩ := h3
      have he'' : e' ∈ es := by
        rcases List.mem_cons.1 he' with rfl | h
        · rw [ha] at hek; simp only [Value.int.injEq, true_and] at hek; exact absurd hek.symm hka
        · exact h
      obtain ⟨j, hj, x, hx1, hx2⟩ := find_some hk es (i + 1) (fun e he => h1 e (by simp [he])) (fun e he => h2 e (by simp [he])) ⟨e', he'', hek⟩
      exact ⟨j + 1, by simp only []; rw [hj]; simp; omega, x, by simpa using hx1, hx2⟩

section
variable {es : List MapEntry} {ns : List Nd} (hp : (es.map fun e => (e.key, e.val)).Perm (pairs ns))
include hp
theorem map_keys : ∀ e ∈ es, ∃ n ∈ ns, e.key = .int .i64 n.k ∧ e.val = ptr n.at := by
  intro e he
  have : (e.key, e.val) ∈ pairs ns := hp.mem_iff.1 (List.mem_map.2 ⟨e, he, rfl⟩)
  obtain ⟨n, hn, h⟩ := List.mem_map.1 this
  simp only [Prod.mk.injEq] at h
  exact ⟨n, hn, h.1.symm, h.2.symm⟩
theorem map_mem {n : Nd} (hn : n ∈ ns) : ∃ e ∈ es, e.key = .int .i64 n.k ∧ e.val = ptr n.at := by
  have : (Value.int .i64 n.k, ptr n.at) ∈ es.map fun e => (e.key, e.val) := hp.mem_iff.2 (List.mem_map.2 ⟨n, hn, rfl⟩)
  obtain ⟨e, he, h⟩ := List.mem_map.1 this
  simp only [Prod.mk.injEq] at h
  exact ⟨e, he, h.1, h.2⟩
theorem get_none {k : Int} (hk : ∀ n ∈ ns, n.k ≠ k) : getK Try.prog 3 es (.int .i64 k) = some none := by
  unfold getK
  rw [show (10000 : Nat) = 9999 + 1 from rfl, ckV3, if_pos rfl]
  exact find_none es ns 0 (fun e he => let ⟨n, hn, h, _⟩ := map_keys hp e he; ⟨n, hn, h⟩) hk
theorem get_some {n : Nd} (hn : n ∈ ns) (hnd : (ns.map (·.k)).Nodup) : ∃ j, getK Try.prog 3 es (.int .i64 n.k) = some (some (j, ptr n.at)) ∧ ∃ e, es[j]? = some e ∧ e.key = .int .i64 n.k := by
  have uniq : ∀ m ∈ ns, m.k = n.k → m = n := by
    intro m hm hmn
    clear hp
    induction ns with
    | nil => cases hn
    | cons x l ih =>
      simp only [List.map_cons, List.nodup_cons] at hnd
      rcases List.mem_cons.1 hn with h1 | h1 <;> rcases List.mem_cons.1 hm with h2 | h2
      · rw [h1, h2]
      · exact absurd (List.mem_map.2 ⟨m, h2, by rw [hmn, h1]⟩) hnd.1
      · exact absurd (List.mem_map.2 ⟨n, h1, by rw [← hmn, h2]⟩) hnd.1
      · exact ih h1 hnd.2 h2
  obtain ⟨e, he, hek, _⟩ := map_mem hp hn
  obtain ⟨j, hj, x, hx⟩ := find_some (n := n) rfl es 0 (fun e he => let ⟨m, _, h, _⟩ := map_keys hp e he; ⟨m.k, h⟩) (fun e he hek => by
    obtain ⟨m, hm, h1, h2⟩ := map_keys hp e he
    rw [h1] at hek
    simp only [Value.int.injEq, true_and] at hek
    rw [h2, uniq m hm hek]) ⟨e, he, hek⟩
  unfold getK
  rw [show (10000 : Nat) = 9999 + 1 from rfl, ckV3, if_pos rfl]
  exact ⟨j, by simpa using hj, x, hx⟩
end

theorem Core.look_none {w : World} {cb mb : Nat} {cl kp xs : List Nd} {room hits misses gone : Nat} (h : Core w cb mb cl kp xs room hits misses gone) {k : Int} (hk : ∀ n ∈ cl ++ kp ++ xs, n.k ≠ k) :
    lookO Try.prog 63 w (.map (some mb)) (.int .i64 k) = some (.pointer none, false) := by
  obtain ⟨es, c, h1, h2⟩ := h.map
  simp only [lookO, Try.map63, Option.bind_some, mapEs, h1, get_none h2 hk, Try.zero64, Option.map_some]
theorem Core.look_some {w : World} {cb mb : Nat} {cl kp xs : List Nd} {room hits misses gone : Nat} (h : Core w cb mb cl kp xs room hits misses gone) {n : Nd} (hn : n ∈ cl ++ kp ++ xs) :
    lookO Try.prog 63 w (.map (some mb)) (.int .i64 n.k) = some (ptr n.at, true) := by
  obtain ⟨es, c, h1, h2⟩ := h.map
  obtain ⟨j, hj, _⟩ := get_some h2 hn h.keys
  simp only [lookO, Try.map63, Option.bind_some, mapEs, h1, hj]

/-! ### What changes a cache -/
section
variable {w : World} {cb mb : Nat} {cl kp xs : List Nd} {room hits misses gone : Nat}
theorem Core.ne_blocks (h : Core w cb mb cl kp xs room hits misses gone) : cb ≠ mb ∧ ∀ n ∈ cl ++ kp ++ xs, n.b ≠ cb ∧ n.b ≠ mb := by
  have hn := h.nodup
  simp only [List.nodup_cons, List.mem_cons, not_or] at hn
  exact ⟨hn.1.1, fun n hm => ⟨fun e => hn.1.2 (e ▸ List.mem_map.2 ⟨n, hm, rfl⟩), fun e => hn.2.1 (e ▸ List.mem_map.2 ⟨n, hm, rfl⟩)⟩⟩
theorem Core.sepC (h : Core w cb mb cl kp xs room hits misses gone) : Sep (cb, 2) (cl.map Nd.at) := by
  refine ⟨?_, fun x hx => by obtain ⟨n, _, rfl⟩ := List.mem_map.1 hx; rfl⟩
  have hn := h.nodup
  have e : (cl.map Nd.at).map (·.1) = cl.map (·.b) := by simp
  rw [e]
  simp only [List.map_append, List.nodup_cons, List.mem_cons, not_or] at hn
  exact List.nodup_cons.2 ⟨fun hm => hn.1.2 (by simp [hm]), (List.nodup_append.1 (List.nodup_append.1 hn.2.2).1).1⟩
theorem Core.sepK (h : Core w cb mb cl kp xs room hits misses gone) : Sep (cb, 8) (kp.map Nd.at) := by
  refine ⟨?_, fun x hx => by obtain ⟨n, _, rfl⟩ := List.mem_map.1 hx; rfl⟩
  have hn := h.nodup
  have e : (kp.map Nd.at).map (·.1) = kp.map (·.b) := by simp
  rw [e]
  simp only [List.map_append, List.nodup_cons, List.mem_cons, not_or] at hn
  exact List.nodup_cons.2 ⟨fun hm => hn.1.2 (by simp [hm]), (List.nodup_append.1 (List.nodup_append.1 hn.2.2).1).2.1⟩

/-- the same lists in another order, other cells of theirs -/
theorem Core.of {w' : World} {cl' kp' xs' : List Nd} {hits' misses' gone' : Nat} (h : Core w cb mb cl kp xs room hits misses gone)
    (hc : cv w' cb 0 = cv w cb 0 ∧ cv w' cb 1 = cv w cb 1) (h1 : RowAt w' 3 (cb, 2) (cl'.map Nd.at)) (h2 : RowAt w' 3 (cb, 8) (kp'.map Nd.at))
    (h3 : cv w' cb 14 = some (.int .i64 hits')) (h4 : cv w' cb 15 = some (.int .i64 misses')) (h5 : cv w' cb 16 = some (.int .i64 gone'))
    (h6 : ∀ n ∈ cl' ++ kp' ++ xs', Ent w' n) (h7 : w'.heap[mb]? = w.heap[mb]?)
    (h8 : ((cl' ++ kp' ++ xs').map fun n => (n.b, n.k)).Perm ((cl ++ kp ++ xs).map fun n => (n.b, n.k))) : Core w' cb mb cl' kp' xs' room hits' misses' gone' := by
  have hb : ((cl' ++ kp' ++ xs').map (·.b)).Perm ((cl ++ kp ++ xs).map (·.b)) := by simpa [List.map_map, Function.comp_def] using h8.map (·.1)
  have hk : ((cl' ++ kp' ++ xs').map (·.k)).Perm ((cl ++ kp ++ xs).map (·.k)) := by simpa [List.map_map, Function.comp_def] using h8.map (·.2)
  refine ⟨hc.1.trans h.room, hc.2.trans h.found, h1, h2, h3, h4, h5, h6, ?_, ?_, hk.nodup_iff.2 h.keys⟩
  · obtain ⟨es, c, m1, m2⟩ := h.map
    refine ⟨es, c, h7.trans m1, m2.trans ?_⟩
    have := h8.map fun p : Nat × Int => ((.int .i64 p.2, ptr (p.1, 0)) : Value × Value)
    simp only [List.map_map] at this
    exact this.symm
  · have := (hb.cons mb).cons cb
    exact this.nodup_iff.2 h.nodup

/-- a count is written -/
theorem Core.count (h : Core w cb mb cl kp xs room hits misses gone) {o : Nat} (n : Nat) (ho : o = 14 ∨ o = 15 ∨ o = 16) :
    Core (setc w cb o (.int .i64 n)) cb mb cl kp xs room (if o = 14 then n else hits) (if o = 15 then n else misses) (if o = 16 then n else gone) := by
  obtain ⟨u, hu⟩ : ∃ u, cv w cb o = some u := by
    rcases ho with rfl | rfl | rfl
    · exact ⟨_, h.hits⟩
    · exact ⟨_, h.misses⟩
    · exact ⟨_, h.gone⟩
  have q := fun b' o' => cv_setc (.int .i64 n) hu b' o'
  have hne := h.ne_blocks
  refine h.of ⟨by rw [q, if_neg (by omega)], by rw [q, if_neg (by omega)]⟩ ?_ ?_ ?_ ?_ ?_ ?_ (setc_blk _ (Ne.symm hne.1)) (List.Perm.refl _)
  · refine h.clean.congr fun b o' hl => ?_
    rw [q, if_neg]
    rintro ⟨rfl, rfl⟩
    rcases hl with ⟨_, hl⟩ | ⟨x, hx, hb, _⟩
    · simp only at hl; omega
    · obtain ⟨m, hm, rfl⟩ := List.mem_map.1 hx
      exact (hne.2 m (by simp [hm])).1 hb.symm
  · refine h.kept.congr fun b o' hl => ?_
    rw [q, if_neg]
    rintro ⟨rfl, rfl⟩
    rcases hl with ⟨_, hl⟩ | ⟨x, hx, hb, _⟩
    · simp only at hl; omega
    · obtain ⟨m, hm, rfl⟩ := List.mem_map.1 hx
      exact (hne.2 m (by simp [hm])).1 hb.symm
  · rw [q]; split
    · rename_i h'; rw [if_pos h'.2.symm]
    · rename_i h'; rw [if_neg (fun h'' => h' ⟨rfl, h''.symm⟩)]; exact h.hits
  · rw [q]; split
    · rename_i h'; rw [if_pos h'.2.symm]
    · rename_i h'; rw [if_neg (fun h'' => h' ⟨rfl, h''.symm⟩)]; exact h.misses
  · rw [q]; split
    · rename_i h'; rw [if_pos h'.2.symm]
    · rename_i h'; rw [if_neg (fun h'' => h' ⟨rfl, h''.symm⟩)]; exact h.gone
  · intro m hm
    have hb := (hne.2 m hm).1
    have q' : ∀ o', cv (setc w cb o (.int .i64 n)) m.b o' = cv w m.b o' := fun o' => by rw [q, if_neg (fun h => hb h.1)]
    have e := h.ents m hm
    exact ⟨(q' 0).trans e.key, (q' 1).trans e.val, (q' 2).trans e.held, by rw [q' 3]; exact e.pv, by rw [q' 4]; exact e.nx⟩

/-- links of one row are written: what the rest holds stays -/
theorem Core.links {w' : World} {r : Nat} {ns : List Nd} {cl' kp' xs' : List Nd} (h : Core w cb mb cl kp xs room hits misses gone) (hu : Upd (LinkS 3 (cb, r) (ns.map Nd.at)) w w') (hns : ∀ n ∈ ns, n ∈ cl ++ kp ++ xs)
    (hr : r = 2 ∨ r = 8) (h1 : RowAt w' 3 (cb, 2) (cl'.map Nd.at)) (h2 : RowAt w' 3 (cb, 8) (kp'.map Nd.at)) (hp : (cl' ++ kp' ++ xs').Perm (cl ++ kp ++ xs)) : Core w' cb mb cl' kp' xs' room hits misses gone := by
  have hne := h.ne_blocks
  have hcb : ∀ o, ¬ (o = r + 3 ∨ o = r + 4 ∨ o = r + 5) → cv w' cb o = cv w cb o := fun o ho => hu.cell cb o fun hl => by
    rcases hl with ⟨_, hl⟩ | ⟨x, hx, hb, _⟩
    · exact ho hl
    · obtain ⟨m, hm, rfl⟩ := List.mem_map.1 hx
      exact (hne.2 m (hns m hm)).1 hb.symm
  refine h.of ⟨hcb 0 (by omega), hcb 1 (by omega)⟩ h1 h2 ((hcb 14 (by omega)).trans h.hits) ((hcb 15 (by omega)).trans h.misses) ((hcb 16 (by omega)).trans h.gone) ?_ ?_ (hp.map _)
  · intro m hm
    have hm' := hp.mem_iff.1 hm
    have e := h.ents m hm'
    have q : ∀ o, o < 3 → cv w' m.b o = cv w m.b o := fun o ho => hu.cell m.b o fun hl => by
      rcases hl with ⟨hb, _⟩ | ⟨x, hx, _, hl⟩
      · exact (hne.2 m hm').1 hb
      · obtain ⟨m', _, rfl⟩ := List.mem_map.1 hx
        simp only at hl; omega
    obtain ⟨u, hu3⟩ := e.pv
    obtain ⟨v, hu4⟩ := e.nx
    exact ⟨(q 0 (by omega)).trans e.key, (q 1 (by omega)).trans e.val, (q 2 (by omega)).trans e.held,
      Option.isSome_iff_exists.1 (hu.keep _ _ (by rw [hu3]; rfl)), Option.isSome_iff_exists.1 (hu.keep _ _ (by rw [hu4]; rfl))⟩
  · exact hu.blk mb fun o hl => by
      rcases hl with ⟨hb, _⟩ | ⟨x, hx, hb, _⟩
      · exact hne.1 hb.symm
      · obtain ⟨m, hm, rfl⟩ := List.mem_map.1 hx
        exact (hne.2 m (hns m hm)).2 hb.symm
/-- the other row, while links of one are written -/
theorem Core.other {w' : World} {r r' : Nat} {ns ms : List Nd} (h : Core w cb mb cl kp xs room hits misses gone) (hu : Upd (LinkS 3 (cb, r) (ns.map Nd.at)) w w') (hns : ∀ n ∈ ns, n ∈ cl ++ kp ++ xs) (hms : ∀ n ∈ ms, n ∈ cl ++ kp ++ xs)
    (hd : ∀ n ∈ ns, ∀ m ∈ ms, n.b ≠ m.b) (hr : (r = 2 ∧ r' = 8) ∨ (r = 8 ∧ r' = 2)) (h1 : RowAt w 3 (cb, r') (ms.map Nd.at)) : RowAt w' 3 (cb, r') (ms.map Nd.at) := by
  have hne := h.ne_blocks
  refine h1.congr fun b o hl => hu.cell b o fun hl' => ?_
  rcases hl with ⟨hb, hl⟩ | ⟨x, hx, hb, hl⟩
  · rcases hl' with ⟨_, hl'⟩ | ⟨y, hy, hb', _⟩
    · simp only at hl hl'; omega
    · obtain ⟨m, hm, rfl⟩ := List.mem_map.1 hy
      exact (hne.2 m (hns m hm)).1 (hb'.symm.trans hb)
  · obtain ⟨m, hm, rfl⟩ := List.mem_map.1 hx
    rcases hl' with ⟨hb', _⟩ | ⟨y, hy, hb', _⟩
    · exact (hne.2 m (hms m hm)).1 (hb.symm.trans hb')
    · obtain ⟨m', hm', rfl⟩ := List.mem_map.1 hy
      exact hd m' hm' m hm (hb'.symm.trans hb)
theorem Core.apart (h : Core w cb mb cl kp xs room hits misses gone) : (∀ n ∈ cl, ∀ m ∈ kp, n.b ≠ m.b) ∧ (∀ n ∈ cl ++ kp, ∀ m ∈ xs, n.b ≠ m.b) := by
  have hn := h.nodup
  simp only [List.map_append, List.nodup_cons, List.mem_cons, not_or] at hn
  have h1 := List.nodup_append.1 hn.2.2
  have h2 := List.nodup_append.1 h1.1
  refine ⟨fun n hn m hm => h2.2.2 _ (List.mem_map.2 ⟨n, hn, rfl⟩) _ (List.mem_map.2 ⟨m, hm, rfl⟩), fun n hn m hm => h1.2.2 _ ?_ _ (List.mem_map.2 ⟨m, hm, rfl⟩)⟩
  rw [← List.map_append]; exact List.mem_map.2 ⟨n, hn, rfl⟩

def foot (cb mb : Nat) (ns : List Nd) (b : Nat) : Prop := b = cb ∨ b = mb ∨ ∃ n ∈ ns, b = n.b
theorem LinkS.foot {cb mb r : Nat} {ns ms : List Nd} (h : ∀ n ∈ ns, n ∈ ms) {b o : Nat} (hl : LinkS 3 (cb, r) (ns.map Nd.at) b o) : I.foot cb mb ms b := by
  rcases hl with ⟨hb, _⟩ | ⟨x, hx, hb, _⟩
  · exact .inl hb
  · obtain ⟨m, hm, rfl⟩ := List.mem_map.1 hx
    exact .inr (.inr ⟨m, h m hm, hb⟩)

/-- 'c.clean.drop(e)' -/
theorem dropC {n : Nd} {a b : List Nd} (h : Core w cb mb (a ++ n :: b) kp xs room hits misses gone) (hl : (a ++ n :: b).length < 4611686018427387904) :
    Fn Try.prog 34 #[ptr (cb, 2), ptr n.at] w fun x w' => x = .tuple #[] ∧ Core w' cb mb (a ++ b) kp (n :: xs) room hits misses gone ∧ Fr (foot cb mb (a ++ n :: b)) w w' := by
  have hr := h.clean
  have hs := h.sepC
  have e : (a ++ n :: b).map Nd.at = a.map Nd.at ++ n.at :: b.map Nd.at := by simp
  rw [e] at hr hs
  refine (drop hr hs (by simpa using hl)).mono ?_
  rintro x w' ⟨hx, h1, hu⟩
  rw [← e] at hu
  refine ⟨hx, ?_, hu.fr.mono fun b' _ ⟨o, ho⟩ => LinkS.foot (fun n h => h) ho⟩
  refine h.links hu (fun m hm => by simp only [List.mem_append] at hm ⊢; exact .inl (.inl hm)) (.inl rfl) (by simpa using h1) (h.other hu (fun m hm => by simp only [List.mem_append] at hm ⊢; exact .inl (.inl hm)) (fun m hm => by simp [hm]) h.apart.1 (.inl ⟨rfl, rfl⟩) h.kept) ?_
  simp only [List.append_assoc, List.cons_append]
  refine (List.Perm.append_left a ?_)
  have : (b ++ (kp ++ n :: xs)).Perm (n :: (b ++ (kp ++ xs))) := by
    rw [← List.append_assoc, ← List.append_assoc]; exact List.perm_middle
  exact this
theorem dropK {n : Nd} {a b : List Nd} (h : Core w cb mb cl (a ++ n :: b) xs room hits misses gone) (hl : (a ++ n :: b).length < 4611686018427387904) :
    Fn Try.prog 34 #[ptr (cb, 8), ptr n.at] w fun x w' => x = .tuple #[] ∧ Core w' cb mb cl (a ++ b) (n :: xs) room hits misses gone ∧ Fr (foot cb mb (a ++ n :: b)) w w' := by
  have hr := h.kept
  have hs := h.sepK
  have e : (a ++ n :: b).map Nd.at = a.map Nd.at ++ n.at :: b.map Nd.at := by simp
  rw [e] at hr hs
  refine (drop hr hs (by simpa using hl)).mono ?_
  rintro x w' ⟨hx, h1, hu⟩
  rw [← e] at hu
  refine ⟨hx, ?_, hu.fr.mono fun b' _ ⟨o, ho⟩ => LinkS.foot (fun n h => h) ho⟩
  refine h.links hu (fun m hm => by simp only [List.mem_append] at hm ⊢; exact .inl (.inr hm)) (.inr rfl) (h.other hu (fun m hm => by simp only [List.mem_append] at hm ⊢; exact .inl (.inr hm)) (fun m hm => by simp [hm]) (fun n hn m hm => Ne.symm (h.apart.1 m hm n hn)) (.inr ⟨rfl, rfl⟩) h.clean) (by simpa using h1) ?_
  simp only [List.append_assoc, List.cons_append]
  refine (List.Perm.append_left cl (List.Perm.append_left a ?_))
  rw [show b ++ n :: xs = b ++ n :: xs from rfl]
  exact List.perm_middle
/-- 'c.clean.last(e)' -/
theorem lastC {n : Nd} (h : Core w cb mb cl kp (n :: xs) room hits misses gone) (hl : cl.length < 4611686018427387904) :
    Fn Try.prog 33 #[ptr (cb, 2), ptr n.at] w fun x w' => x = .tuple #[] ∧ Core w' cb mb (cl ++ [n]) kp xs room hits misses gone ∧ Fr (foot cb mb (cl ++ [n])) w w' := by
  have e : (cl ++ [n]).map Nd.at = cl.map Nd.at ++ [n.at] := by simp
  have hent := h.ents n (by simp)
  obtain ⟨u, hu1⟩ := hent.pv
  obtain ⟨v, hv1⟩ := hent.nx
  have hs : Sep (cb, 2) (cl.map Nd.at ++ [n.at]) := by
    refine ⟨?_, fun x hx => ?_⟩
    · have h1 := h.sepC.1
      rw [List.map_append, ← List.cons_append]
      refine List.nodup_append.2 ⟨h1, by simp, fun x hx y hy => ?_⟩
      simp only [List.map_cons, List.map_nil, List.mem_singleton] at hy
      subst hy
      rcases List.mem_cons.1 hx with rfl | hx
      · exact Ne.symm (h.ne_blocks.2 n (by simp)).1
      · obtain ⟨y, hy, rfl⟩ := List.mem_map.1 hx
        obtain ⟨m, hm, rfl⟩ := List.mem_map.1 hy
        exact h.apart.2 m (by simp [hm]) n (by simp)
    · rcases List.mem_append.1 hx with hx | hx
      · exact h.sepC.2 x hx
      · simp only [List.mem_singleton] at hx; subst hx; rfl
  refine (last h.clean hs hu1 hv1 (by simpa using hl)).mono ?_
  rintro x w' ⟨hx, h1, hu⟩
  rw [← e] at hu h1
  have hin : ∀ m ∈ cl ++ [n], m ∈ cl ++ kp ++ n :: xs := fun m hm => by
    rcases List.mem_append.1 hm with h | h
    · simp [h]
    · simp at h; simp [h]
  refine ⟨hx, ?_, hu.fr.mono fun b' _ ⟨o, ho⟩ => LinkS.foot (fun n h => h) ho⟩
  refine h.links hu hin (.inl rfl) h1 (h.other hu hin (fun m hm => by simp [hm]) (fun m hm m' hm' => ?_) (.inl ⟨rfl, rfl⟩) h.kept) ?_
  · rcases List.mem_append.1 hm with hc | hc
    · exact h.apart.1 m hc m' hm'
    · simp at hc; subst hc; exact Ne.symm (h.apart.2 m' (by simp [hm']) m (by simp))
  · simp only [List.append_assoc]
    refine List.Perm.append_left cl ?_
    simp only [List.cons_append, List.nil_append]
    exact List.perm_middle.symm
theorem lastK {n : Nd} (h : Core w cb mb cl kp (n :: xs) room hits misses gone) (hl : kp.length < 4611686018427387904) :
    Fn Try.prog 33 #[ptr (cb, 8), ptr n.at] w fun x w' => x = .tuple #[] ∧ Core w' cb mb cl (kp ++ [n]) xs room hits misses gone ∧ Fr (foot cb mb (kp ++ [n])) w w' := by
  have e : (kp ++ [n]).map Nd.at = kp.map Nd.at ++ [n.at] := by simp
  have hent := h.ents n (by simp)
  obtain ⟨u, hu1⟩ := hent.pv
  obtain ⟨v, hv1⟩ := hent.nx
  have hs : Sep (cb, 8) (kp.map Nd.at ++ [n.at]) := by
    refine ⟨?_, fun x hx => ?_⟩
    · have h1 := h.sepK.1
      rw [List.map_append, ← List.cons_append]
      refine List.nodup_append.2 ⟨h1, by simp, fun x hx y hy => ?_⟩
      simp only [List.map_cons, List.map_nil, List.mem_singleton] at hy
      subst hy
      rcases List.mem_cons.1 hx with rfl | hx
      · exact Ne.symm (h.ne_blocks.2 n (by simp)).1
      · obtain ⟨y, hy, rfl⟩ := List.mem_map.1 hx
        obtain ⟨m, hm, rfl⟩ := List.mem_map.1 hy
        exact h.apart.2 m (by simp [hm]) n (by simp)
    · rcases List.mem_append.1 hx with hx | hx
      · exact h.sepK.2 x hx
      · simp only [List.mem_singleton] at hx; subst hx; rfl
  refine (last h.kept hs hu1 hv1 (by simpa using hl)).mono ?_
  rintro x w' ⟨hx, h1, hu⟩
  rw [← e] at hu h1
  have hin : ∀ m ∈ kp ++ [n], m ∈ cl ++ kp ++ n :: xs := fun m hm => by
    rcases List.mem_append.1 hm with h | h
    · simp [h]
    · simp at h; simp [h]
  refine ⟨hx, ?_, hu.fr.mono fun b' _ ⟨o, ho⟩ => LinkS.foot (fun n h => h) ho⟩
  refine h.links hu hin (.inr rfl) (h.other hu hin (fun m hm => by simp [hm]) (fun m hm m' hm' => ?_) (.inr ⟨rfl, rfl⟩) h.clean) h1 ?_
  · rcases List.mem_append.1 hm with hc | hc
    · exact Ne.symm (h.apart.1 m' hm' m hc)
    · simp at hc; subst hc; exact Ne.symm (h.apart.2 m' (by simp [hm']) m (by simp))
  · simp only [List.append_assoc]
    refine List.Perm.append_left cl (List.Perm.append_left kp ?_)
    simp
end
end I
end Go.V
