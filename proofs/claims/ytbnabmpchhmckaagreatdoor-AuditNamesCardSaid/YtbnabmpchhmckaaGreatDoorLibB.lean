/-
  What 'stepP', 'ldO', 'stO' say is what the machine does.
-/
import Derived.Test.YtbnabmpchhmckaaGreatDoorLibA
namespace Go.V
variable {P : Program}

theorem r_und {t : TypeId} {d : TypeDesc} (h : P.underlying t = some d) (w : World) : (underlying t).run P w = .ok d w := by
  simp [underlying, h]
theorem und_info {t : TypeId} {d : TypeDesc} (h : P.underlying t = some d) : ∃ i, P.info? t = some i := by
  unfold Program.underlying at h
  split at h
  · exact ⟨_, by assumption⟩
  · exact ⟨_, by assumption⟩
  · cases h
theorem r_size {t : TypeId} {n : Nat} (h : szO P t = some n) (w : World) : (sizeOf t).run P w = .ok n w := by
  unfold szO at h
  cases hi : P.info? t with
  | none => simp [hi] at h
  | some i => simp only [hi, Option.map_some, Option.some.injEq] at h; simp [sizeOf, typeInfo, hi, h]
theorem r_zero {t : TypeId} {z : Value} (h : zeroO P t = some z) (w : World) : (zeroValue t).run P w = .ok z w := by
  unfold zeroO at h
  cases hi : P.info? t with
  | none => simp [hi] at h
  | some i => simp only [hi, Option.bind_some] at h; simp [zeroValue, typeInfo, hi, h]
theorem aggO_und {t : TypeId} {b : Bool} (h : aggO P t = some b) : ∃ d, P.underlying t = some d := by
  unfold aggO at h
  cases hd : P.underlying t with
  | none => simp [hd] at h
  | some d => exact ⟨d, rfl⟩
theorem r_agg {t : TypeId} {b : Bool} (h : aggO P t = some b) (w : World) : (isAgg t).run P w = .ok b w := by
  obtain ⟨d, hd⟩ := aggO_und h
  simp only [aggO, hd, Option.map_some, Option.some.injEq] at h
  simp only [isAgg, Sem.run_bind, r_und hd, Result.andThen_ok]
  cases d <;> simp_all
theorem arrO_und {t : TypeId} {n : Nat} {e : TypeId} (h : arrO P t = some (n, e)) : P.underlying t = some (.array n e) := by
  unfold arrO at h
  split at h
  · simp only [Option.some.injEq, Prod.mk.injEq] at h; obtain ⟨rfl, rfl⟩ := h; assumption
  · cases h
theorem slcO_und {t : TypeId} {e : TypeId} (h : slcO P t = some e) : P.underlying t = some (.slice e) := by
  unfold slcO at h
  split at h
  · simp only [Option.some.injEq] at h; subst h; assumption
  · cases h
theorem intO_und {t : TypeId} {k : IntKind} (h : intO P t = some k) : P.underlying t = some (.int k) := by
  unfold intO at h
  split at h
  · simp only [Option.some.injEq] at h; subst h; assumption
  · cases h
theorem strO_und {t : TypeId} (h : strO P t = true) : P.underlying t = some .string := by
  unfold strO at h
  split at h
  · assumption
  · cases h
theorem mapO_und {t : TypeId} {k e : TypeId} (h : mapO P t = some (k, e)) : P.underlying t = some (.map k e) := by
  unfold mapO at h
  split at h
  · simp only [Option.some.injEq, Prod.mk.injEq] at h; obtain ⟨rfl, rfl⟩ := h; assumption
  · cases h
theorem r_part {t : TypeId} {cs : Array Value} {off : Nat} {v : Value} (h : partO P t cs off = some v) (w : World) : (part t cs off).run P w = .ok v w := by
  unfold partO at h
  split at h
  · rename_i ha
    cases hs : szO P t with
    | none => simp [hs] at h
    | some n => simp only [hs, Option.map_some, Option.some.injEq] at h; simp [part, r_agg ha, r_size hs, h]
  · rename_i ha
    simp [part, r_agg ha, h]
  · cases h
theorem fieldO_spec {s f : Nat} {off : Nat} {t : TypeId} (h : fieldO P s f = some (off, t)) :
    ∃ fs fd n, P.underlying s = some (.struct fs) ∧ fs[f]? = some fd ∧ fd.offset = off ∧ fd.type = t ∧ szO P fd.type = some n ∧ n ≠ 0 := by
  unfold fieldO at h
  split at h
  · rename_i fs hfs
    split at h
    · rename_i fd hfd
      split at h
      · rename_i i hi
        split at h
        · cases h
        · rename_i hz
          simp only [Option.some.injEq, Prod.mk.injEq] at h
          exact ⟨fs, fd, i.size, hfs, hfd, h.1, h.2, by simp [szO, hi], hz⟩
      · cases h
    · cases h
  · cases h

theorem r_sb {x : Value} {y m : Nat} (h : sbO x y = some m) (code : BoundsCode) (w : World) : (Instr.sliceBound x y code).run P w = .ok m w := by
  unfold sbO at h
  split at h
  · split at h
    · rename_i k i hi
      simp only [Option.some.injEq] at h
      simp [Instr.sliceBound, asIntOf, hi, h]
    · cases h
  · cases h

theorem r_mapM {α β : Type} (F : α → Sem β) (G : α → Option β) (h : ∀ x y, G x = some y → ∀ w, (F x).run P w = .ok y w) :
    ∀ (l : List α) (ps : List β), l.mapM G = some ps → ∀ w, (l.mapM F).run P w = .ok ps w
  | [], ps, hp, w => by simp at hp; subst hp; simp
  | x :: l, ps, hp, w => by
    simp only [List.mapM_cons, Option.bind_eq_bind, Option.bind_eq_some_iff] at hp
    obtain ⟨p, hp1, qs, hq, hps⟩ := hp
    simp at hps
    simp only [List.mapM_cons, Sem.run_bind, h x p hp1, Result.andThen_ok, r_mapM F G h l qs hq, Sem.run_pure, hps]

theorem r_build {t : TypeId} {parts : List (Nat × Value)} {v : Value} (h : bldO P t parts = some v) (w : World) :
    (Instr.build t parts.toArray).run P w = .ok v w := by
  unfold bldO at h
  cases hz : zeroO P t with
  | none => simp [hz] at h
  | some z =>
    simp only [hz, Option.bind_some] at h
    split at h
    · rename_i ps hps
      unfold placesO at hps
      split at hps
      · rename_i fs hfs
        cases hf : Instr.fill (ps[·]?) z.cells parts with
        | none => simp [hf] at h
        | some cells =>
          simp only [hf, Option.map_some, Option.some.injEq] at h
          have hm' : ∀ w, (fs.mapM (m := Sem) fun f => do pure (f.offset, ← sizeOf f.type)).run P w = .ok ps.toArray w := by
            intro w
            rw [Array.mapM_eq_mapM_toList]
            have := r_mapM (P := P) (fun f : Field => (do pure (f.offset, ← sizeOf f.type) : Sem (Nat × Nat))) (fun f => (P.info? f.type).map fun i => (f.offset, i.size))
              (fun f p hp w => by
                cases hi : P.info? f.type with
                | none => simp [hi] at hp
                | some i =>
                  simp only [hi, Option.map_some, Option.some.injEq] at hp
                  have hs : szO P f.type = some i.size := by simp [szO, hi]
                  simp [r_size hs, hp]) fs.toList ps hps
            simp only [Sem.run_map, this, Result.andThen_ok]
          simp only [Instr.build, Sem.run_bind, r_zero hz, Result.andThen_ok, r_und hfs, hm']
          have e : (fun x : Nat => ps.toArray[x]?) = (fun x : Nat => ps[x]?) := by funext x; simp
          rw [e, hf]
          simp [h]
      · cases hps
    · split at h
      · rename_i n e he
        cases hs : szO P e with
        | none => simp [hs] at h
        | some s =>
          simp only [hs, Option.bind_some] at h
          cases hf : Instr.fill (fun i => some (i * s, s)) z.cells parts with
          | none => simp [hf] at h
          | some cells =>
            simp only [hf, Option.map_some, Option.some.injEq] at h
            simp [Instr.build, r_zero hz, r_und (arrO_und he), r_size hs, hf, h]
      · cases h

theorem r_slice {t : TypeId} {x : Value} {lo hi mx : Option Value} {v : Value} (h : sliceP P t x lo hi mx = some v) (w : World) :
    (Instr.sliceAt t x lo hi mx).run P w = .ok v w := by
  unfold sliceP at h
  split at h
  · rename_i n e he
    split at h
    · rename_i a
      split at h
      · cases h
      · simp only [Option.bind_eq_some_iff, Option.map_eq_some_iff] at h
        obtain ⟨hh, h1, l, h2, s, h3, rfl⟩ := h
        simp only [Instr.sliceAt, Sem.run_bind, r_und (arrO_und he), Result.andThen_ok, Instr.sureAddr, Sem.run_pure, Instr.sliceBounds]
        cases hi with
        | none =>
          simp only [optB, Option.some.injEq] at h1; subst h1
          cases lo with
          | none => simp only [optB, Option.some.injEq] at h2; subst h2; simp [r_size h3]
          | some lo => simp only [optB] at h2; simp [r_size h3, r_sb h2]
        | some hi =>
          simp only [optB] at h1
          cases lo with
          | none => simp only [optB, Option.some.injEq] at h2; subst h2; simp [r_size h3, r_sb h1]
          | some lo => simp only [optB] at h2; simp [r_size h3, r_sb h2, r_sb h1]
    · cases h
  · rename_i hna
    split at h
    · rename_i s
      split at h
      · rename_i hs
        split at h
        · cases h
        · rename_i hmx
          have hmx' : mx = none := by cases mx <;> simp_all
          subst hmx'
          simp only [Option.bind_eq_some_iff, Option.map_eq_some_iff] at h
          obtain ⟨hh, h1, l, h2, rfl⟩ := h
          simp only [Instr.sliceAt, Sem.run_bind, r_und (strO_und hs), Result.andThen_ok, Instr.slice, Instr.sliceBounds]
          cases hi with
          | none =>
            simp only [optB, Option.some.injEq] at h1; subst h1
            cases lo with
            | none => simp only [optB, Option.some.injEq] at h2; subst h2; simp
            | some lo => simp only [optB] at h2; simp [r_sb h2]
          | some hi =>
            simp only [optB] at h1
            cases lo with
            | none => simp only [optB, Option.some.injEq] at h2; subst h2; simp [r_sb h1]
            | some lo => simp only [optB] at h2; simp [r_sb h2, r_sb h1]
      · cases h
    · rename_i a len cap
      simp only [Option.bind_eq_some_iff, Option.map_eq_some_iff] at h
      obtain ⟨e, he, m, hm, hh, h1, l, h2, s, h3, rfl⟩ := h
      simp only [Instr.sliceAt, Sem.run_bind, r_und (slcO_und he), Result.andThen_ok, Instr.slice, Instr.sliceBounds]
      cases mx with
      | none =>
        simp only [optB, Option.some.injEq] at hm; subst hm
        cases hi with
        | none =>
          simp only [Option.some.injEq] at h1; subst h1
          cases lo with
          | none => simp only [optB, Option.some.injEq] at h2; subst h2; simp [r_size h3]
          | some lo => simp only [optB] at h2; simp [r_size h3, r_sb h2]
        | some hi =>
          simp only at h1
          cases lo with
          | none => simp only [optB, Option.some.injEq] at h2; subst h2; simp [r_size h3, r_sb h1]
          | some lo => simp only [optB] at h2; simp [r_size h3, r_sb h2, r_sb h1]
      | some mx =>
        simp only [optB] at hm
        cases hi with
        | none => cases h1
        | some hi =>
          simp only at h1
          cases lo with
          | none => simp only [optB, Option.some.injEq] at h2; subst h2; simp [r_size h3, r_sb h1, r_sb hm]
          | some lo => simp only [optB] at h2; simp [r_size h3, r_sb h2, r_sb h1, r_sb hm]
    · cases h

theorem r_minL : ∀ (r : List Value) (x v : Value), minL x r = some v → ∀ w, (r.foldlM Builtin.min2 x).run P w = .ok v w
  | [], x, v, h, w => by simp [minL] at h; simp [h]
  | y :: r, x, v, h, w => by
    cases x <;> cases y <;> simp only [minL] at h <;> try cases h
    simp only [List.foldlM_cons, Sem.run_bind, Builtin.min2, Sem.run_pure, Result.andThen_ok]
    exact r_minL r _ v h w
theorem r_maxL : ∀ (r : List Value) (x v : Value), maxL x r = some v → ∀ w, (r.foldlM Builtin.max2 x).run P w = .ok v w
  | [], x, v, h, w => by simp [maxL] at h; simp [h]
  | y :: r, x, v, h, w => by
    cases x <;> cases y <;> simp only [maxL] at h <;> try cases h
    simp only [List.foldlM_cons, Sem.run_bind, Builtin.max2, Sem.run_pure, Result.andThen_ok]
    exact r_maxL r _ v h w

theorem r_biP {b : Builtin} {ts : Array TypeId} {ty : TypeId} {cons : Array Bool} {args : List Value} {v : Value} (h : biP P b ts args = some v) (w : World) :
    (builtin b ts ty cons args.toArray).run P w = .ok (.value v) w := by
  unfold biP at h
  split at h
  · rename_i x
    simp only [Option.bind_eq_some_iff] at h
    obtain ⟨t, ht, h⟩ := h
    unfold lenP at h
    split at h
    · rename_i n e he
      simp only [Option.some.injEq] at h; subst h
      simp [builtin, Builtin.len_, ht, r_und (arrO_und he), goInt]
    · split at h
      · split at h
        · rename_i hs
          simp only [Option.some.injEq] at h; subst h
          simp [builtin, Builtin.len_, ht, r_und (strO_und hs), goInt]
        · cases h
      · simp only [Option.map_eq_some_iff] at h
        obtain ⟨e, he, rfl⟩ := h
        simp [builtin, Builtin.len_, ht, r_und (slcO_und he), goInt]
      · cases h
  · simp only [Option.bind_eq_some_iff, Option.map_eq_some_iff] at h
    obtain ⟨t, ht, e, he, rfl⟩ := h
    simp [builtin, Builtin.cap_, ht, r_und (slcO_und he), goInt]
  · simp [builtin, Builtin.min_, r_minL _ _ _ h]
  · simp [builtin, Builtin.max_, r_maxL _ _ _ h]
  · cases h

theorem boolT_und {t : TypeId} (h : boolT P t = true) : P.underlying t = some .bool := by
  unfold boolT at h
  split at h
  · assumption
  · cases h

theorem r_binP {op : BinOp} {t : TypeId} {x y : Operand} {a b v : Value} (h : binP (boolT P t) op a b = some v) (w : World) :
    (do eqGuard op t x y a b; binOp op t a b : Sem Value).run P w = .ok v w := by
  unfold binP at h
  split at h
  · rename_i k a k' b
    split at h
    · split at h
      · cases h
      · rename_i hb
        simp only [Option.some.injEq] at h; subst h
        simp [eqGuard, binOp, Op.shift, hb, shlK, shrK]
    · split at h
      · cases h
      · rename_i hb
        simp only [Option.some.injEq] at h; subst h
        simp [eqGuard, binOp, Op.shift, hb, shlK, shrK]
    · split at h
      · cases h
      · rename_i hk
        have hk' : k = k' := by simpa using hk
        subst hk'
        cases op <;> simp only at h <;> (try split at h) <;> (try cases h) <;>
          simp_all [eqGuard, binOp, Op.intArith, Op.intDiv, Op.intBits, Op.intCmp, andK, orK, xorK, andNotK]
  · rename_i a b
    split at h
    · rename_i hu
      cases op <;> simp only at h <;> cases h <;> simp [eqGuard, binOp, run_equal_bool w t a b (boolT_und hu)]
    · cases h
  · rename_i a b
    cases op <;> simp only at h <;> (try split at h) <;> cases h <;> simp_all [eqGuard, binOp, Op.stringOp]
  · cases h
end Go.V
