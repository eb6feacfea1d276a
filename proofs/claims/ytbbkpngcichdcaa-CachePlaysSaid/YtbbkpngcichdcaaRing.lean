/-
  Plain laws on rings of addresses: 'Chain f l': f leads from each to the next.
-/
import Derived.Test.YtbbkpngcichdcaaLibK
namespace Go.V

abbrev Ad := Nat × Nat
abbrev ptr (p : Ad) : Value := .pointer (some ⟨p.1, p.2, none⟩)
theorem ptr_inj {p q : Ad} (h : ptr p = ptr q) : p = q := by
  simp only [ptr, Value.pointer.injEq, Option.some.injEq, Addr.mk.injEq, and_true] at h
  exact Prod.ext h.1 h.2

def Chain (f : Ad → Option Value) : List Ad → Prop
  | x :: y :: l => f x = some (ptr y) ∧ Chain f (y :: l)
  | _ => True
theorem Chain.congr {f g : Ad → Option Value} : ∀ {l : List Ad}, (∀ x ∈ l.dropLast, g x = f x) → Chain f l → Chain g l
  | [], _, _ => trivial
  | [_], _, _ => trivial
  | x :: y :: l, h, hc => ⟨(h x (by simp)).trans hc.1, Chain.congr (l := y :: l) (fun z hz => h z (by simp only [List.dropLast_cons_cons, List.mem_cons]; exact .inr hz)) hc.2⟩
theorem Chain.append {f : Ad → Option Value} : ∀ {a : List Ad} {x : Ad} {b : List Ad}, Chain f (a ++ x :: b) ↔ Chain f (a ++ [x]) ∧ Chain f (x :: b)
  | [], x, b => by simp [Chain]
  | [y], x, b => by simp [Chain]
  | y :: z :: a, x, b => by
    have := Chain.append (f := f) (a := z :: a) (x := x) (b := b)
    simp only [List.cons_append, Chain] at this ⊢
    rw [this, and_assoc]

/-- take out what lies between p and n -/
theorem Chain.cut {f g : Ad → Option Value} {a b : List Ad} {p e n : Ad} (h : Chain f (a ++ p :: e :: n :: b)) (hp : g p = some (ptr n)) (hg : ∀ x ∈ a ++ (n :: b).dropLast, g x = f x) : Chain g (a ++ p :: n :: b) := by
  rw [Chain.append] at h ⊢
  refine ⟨Chain.congr (fun x hx => ?_) h.1, hp, Chain.congr (fun x hx => ?_) h.2.2.2⟩
  · rw [List.dropLast_concat] at hx
    exact hg x (by simp [hx])
  · exact hg x (by simp only [List.mem_append]; exact .inr hx)
/-- put e between l and r, at the end -/
theorem Chain.put {f g : Ad → Option Value} {a : List Ad} {l e r : Ad} (h : Chain f (a ++ [l, r])) (hl : g l = some (ptr e)) (he : g e = some (ptr r)) (hg : ∀ x ∈ a, g x = f x) : Chain g (a ++ [l, e, r]) := by
  rw [Chain.append] at h ⊢
  refine ⟨Chain.congr (fun x hx => ?_) h.1, hl, he, trivial⟩
  rw [List.dropLast_concat] at hx
  exact hg x hx
theorem Chain.get {f : Ad → Option Value} {a b : List Ad} {x y : Ad} (h : Chain f (a ++ x :: y :: b)) : f x = some (ptr y) := ((Chain.append.1 h).2).1

/-- a ring: forwards from r over ns back to r, and backwards -/
structure Ring (nx pv : Ad → Option Value) (r : Ad) (ns : List Ad) : Prop where
  fwd : Chain nx (r :: ns ++ [r])
  bwd : Chain pv (r :: ns.reverse ++ [r])
theorem Ring.congr {nx pv nx' pv' : Ad → Option Value} {r : Ad} {ns : List Ad} (h : Ring nx pv r ns) (h1 : ∀ x, x = r ∨ x ∈ ns → nx' x = nx x) (h2 : ∀ x, x = r ∨ x ∈ ns → pv' x = pv x) : Ring nx' pv' r ns :=
  ⟨Chain.congr (fun x hx => h1 x (by rw [List.dropLast_concat] at hx; simpa using hx)) h.fwd,
   Chain.congr (fun x hx => h2 x (by rw [List.dropLast_concat] at hx; simpa using hx)) h.bwd⟩

/-- the neighbours of one of a ring's -/
def prevOf (r : Ad) (a : List Ad) : Ad := a.getLast?.getD r
def nextOf (r : Ad) (b : List Ad) : Ad := b.head?.getD r
theorem prevOf_mem (r : Ad) (a : List Ad) : prevOf r a = r ∨ prevOf r a ∈ a := by
  unfold prevOf
  cases h : a.getLast? with
  | none => simp
  | some x => right; simpa using List.mem_of_getLast? h
theorem nextOf_mem (r : Ad) (b : List Ad) : nextOf r b = r ∨ nextOf r b ∈ b := by
  unfold nextOf
  cases b with
  | nil => simp
  | cons x l => simp
theorem split_last (r : Ad) (a : List Ad) : ∃ a', r :: a = a' ++ [prevOf r a] ∧ (∀ x ∈ a', x = r ∨ x ∈ a) := by
  rcases List.eq_nil_or_concat a with h | ⟨l, x, h⟩
  · subst h; exact ⟨[], by simp [prevOf], by simp⟩
  · subst h
    refine ⟨r :: l, by simp [prevOf], fun y hy => ?_⟩
    rcases List.mem_cons.1 hy with h | h
    · exact .inl h
    · right; simp [h]
theorem split_head (r : Ad) (b : List Ad) : ∃ b', b ++ [r] = nextOf r b :: b' ∧ (nextOf r b :: b').dropLast = b := by
  cases b with
  | nil => exact ⟨[], by simp [nextOf], by simp [nextOf]⟩
  | cons x l => exact ⟨l ++ [r], by simp [nextOf], by
      show (x :: (l ++ [r])).dropLast = x :: l
      rw [← List.cons_append, List.dropLast_concat]⟩

theorem Ring.nbrs {nx pv : Ad → Option Value} {r : Ad} {a b : List Ad} {e : Ad} (h : Ring nx pv r (a ++ e :: b)) :
    pv e = some (ptr (prevOf r a)) ∧ nx e = some (ptr (nextOf r b)) ∧ nx (prevOf r a) = some (ptr e) ∧ pv (nextOf r b) = some (ptr e) := by
  obtain ⟨a', ha, _⟩ := split_last r a
  obtain ⟨b', hb, _⟩ := split_head r b
  have f := h.fwd
  rw [show r :: (a ++ e :: b) ++ [r] = (r :: a) ++ e :: (b ++ [r]) by simp, ha, hb] at f
  have g := h.bwd
  obtain ⟨c', hc, _⟩ := split_last r b.reverse
  obtain ⟨d', hd, _⟩ := split_head r a.reverse
  rw [show r :: (a ++ e :: b).reverse ++ [r] = (r :: b.reverse) ++ e :: (a.reverse ++ [r]) by simp, hc, hd] at g
  have e1 : prevOf r b.reverse = nextOf r b := by simp [prevOf, nextOf]
  have e2 : nextOf r a.reverse = prevOf r a := by simp [prevOf, nextOf]
  rw [e1, e2] at g
  refine ⟨?_, ?_, ?_, ?_⟩
  · exact Chain.get g
  · exact Chain.get (a := a' ++ [prevOf r a]) f
  · exact Chain.get (a := a') (b := nextOf r b :: b') (by simpa using f)
  · exact Chain.get (a := c') (b := prevOf r a :: d') (by simpa using g)

/-- one taken out -/
theorem Ring.drop {nx pv nx' pv' : Ad → Option Value} {r : Ad} {a b : List Ad} {e : Ad} (h : Ring nx pv r (a ++ e :: b)) (hnd : (r :: (a ++ e :: b)).Nodup)
    (h1 : nx' (prevOf r a) = some (ptr (nextOf r b))) (h2 : ∀ x, x = r ∨ x ∈ a ++ e :: b → x ≠ prevOf r a → nx' x = nx x)
    (h3 : pv' (nextOf r b) = some (ptr (prevOf r a))) (h4 : ∀ x, x = r ∨ x ∈ a ++ e :: b → x ≠ nextOf r b → pv' x = pv x) : Ring nx' pv' r (a ++ b) := by
  have hnd' : ∀ (x : Ad) (l1 l2 : List Ad), (r :: (l1 ++ e :: l2)).Nodup → ∀ (a' : List Ad), r :: l1 = a' ++ [x] → ∀ b', (x = r ∨ x ∈ l1) → (∀ y ∈ b', y ∈ l2) → ∀ y ∈ a' ++ b', y ≠ x := by
    intro x l1 l2 hn a' ha b' hx hb y hy hyx
    subst hyx
    have hn2 : ((r :: l1) ++ e :: l2).Nodup := by simpa using hn
    rw [ha] at hn2
    rcases List.mem_append.1 hy with h | h
    · have := (List.nodup_append.1 (List.nodup_append.1 hn2).1).2.2 y h y (by simp)
      exact this rfl
    · have := (List.nodup_append.1 hn2).2.2 y (by simp) y (by simp [hb y h])
      exact this rfl
  obtain ⟨a', ha, ham⟩ := split_last r a
  obtain ⟨b', hb, hb'⟩ := split_head r b
  obtain ⟨c', hc, hcm⟩ := split_last r b.reverse
  obtain ⟨d', hd, hd'⟩ := split_head r a.reverse
  have e1 : prevOf r b.reverse = nextOf r b := by simp [prevOf, nextOf]
  have e2 : nextOf r a.reverse = prevOf r a := by simp [prevOf, nextOf]
  rw [e1] at hc
  rw [e2] at hd hd'
  constructor
  · have f := h.fwd
    rw [show r :: (a ++ e :: b) ++ [r] = (r :: a) ++ e :: (b ++ [r]) by simp, ha, hb] at f
    rw [show r :: (a ++ b) ++ [r] = (r :: a) ++ (b ++ [r]) by simp, ha, hb]
    have := Chain.cut (a := a') (b := b') (p := prevOf r a) (e := e) (n := nextOf r b) (by simpa using f) h1
      (by
        rw [hb']
        intro y hy
        refine h2 y ?_ (hnd' _ a b hnd a' ha b (prevOf_mem r a) (fun y hy => hy) y hy)
        rcases List.mem_append.1 hy with h | h
        · exact (ham y h).imp id (fun h => by simp [h])
        · right; simp [h])
    simpa using this
  · have g := h.bwd
    rw [show r :: (a ++ e :: b).reverse ++ [r] = (r :: b.reverse) ++ e :: (a.reverse ++ [r]) by simp, hc, hd] at g
    rw [show r :: (a ++ b).reverse ++ [r] = (r :: b.reverse) ++ (a.reverse ++ [r]) by simp, hc, hd]
    have hn : (r :: (b.reverse ++ e :: a.reverse)).Nodup := by
      have hp : (r :: (b.reverse ++ e :: a.reverse)).Perm (r :: (a ++ e :: b)) := by
        refine List.Perm.cons _ ?_
        have := (a ++ e :: b).reverse_perm
        simpa using this
      exact hp.nodup_iff.2 hnd
    have := Chain.cut (a := c') (b := d') (p := nextOf r b) (e := e) (n := prevOf r a) (by simpa using g) h3
      (by
        rw [hd']
        intro y hy
        refine h4 y ?_ (hnd' _ b.reverse a.reverse hn c' hc a.reverse (by have := nextOf_mem r b; simpa using this) (fun y hy => hy) y hy)
        rcases List.mem_append.1 hy with h | h
        · exact (hcm y h).imp id (fun h => by have : y ∈ b := by simpa using h
                                              simp [this])
        · right
          have : y ∈ a := by simpa using h
          simp [this])
    simpa using this
/-- one put at the end -/
theorem Ring.last {nx pv nx' pv' : Ad → Option Value} {r : Ad} {ns : List Ad} {e : Ad} (h : Ring nx pv r ns) (hnd : (r :: ns).Nodup)
    (h1 : nx' (prevOf r ns) = some (ptr e)) (h2 : nx' e = some (ptr r)) (h3 : ∀ x, x = r ∨ x ∈ ns → x ≠ prevOf r ns → nx' x = nx x)
    (h4 : pv' r = some (ptr e)) (h5 : pv' e = some (ptr (prevOf r ns))) (h6 : ∀ x ∈ ns, pv' x = pv x) : Ring nx' pv' r (ns ++ [e]) := by
  obtain ⟨a', ha, hm⟩ := split_last r ns
  constructor
  · have f := h.fwd
    rw [ha] at f
    rw [show r :: (ns ++ [e]) ++ [r] = (r :: ns) ++ [e, r] by simp, ha]
    have := Chain.put (a := a') (l := prevOf r ns) (e := e) (r := r) (by simpa using f) h1 h2 (fun x hx => by
      refine h3 x (hm x hx) (fun hxe => ?_)
      rw [ha] at hnd
      exact (List.nodup_append.1 hnd).2.2 x hx (prevOf r ns) (by simp) hxe)
    simpa using this
  · have g := h.bwd
    rw [show r :: (ns ++ [e]).reverse ++ [r] = [r] ++ e :: (ns.reverse ++ [r]) by simp]
    obtain ⟨b', hb, hb'⟩ := split_head r ns.reverse
    have e2 : nextOf r ns.reverse = prevOf r ns := by simp [prevOf, nextOf]
    rw [e2] at hb hb'
    rw [show r :: ns.reverse ++ [r] = r :: (ns.reverse ++ [r]) by simp, hb] at g
    rw [hb]
    refine ⟨h4, h5, Chain.congr (fun x hx => ?_) g.2⟩
    rw [hb'] at hx
    have hx' : x ∈ ns := by simpa using hx
    exact h6 x hx'
theorem Ring.nil {nx pv : Ad → Option Value} {r : Ad} (h1 : nx r = some (ptr r)) (h2 : pv r = some (ptr r)) : Ring nx pv r [] := ⟨⟨h1, trivial⟩, ⟨h2, trivial⟩⟩
end Go.V
