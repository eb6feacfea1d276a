/-
  The operations of the first two kinds (looking at no memory; looking, but leaving the world alone): what they yield.
-/
import Derived.Test.YtbnabmpchhmckaaGreatDoorLibB
namespace Go.V
variable {P : Program}

theorem stepP_sound {a : Act} {o : Oper} {v : Value} (h : stepP P (evOf a) o.op = some v) (w : World) :
    (execOp a.eval o).run P w = .ok (.value v) w := by
  obtain ⟨dst, op, ty, pos, after, guard⟩ := o
  unfold stepP at h
  simp only at h
  split at h <;> simp only [execOp, Sem.run_bind, eval_evOf]
  case h_1 | h_2 => simp only [Option.some.injEq] at h; simp [h]
  case h_3 =>
    split at h
    · rename_i t ht; simp only [Option.some.injEq] at h; subst h; cases t <;> simp [ht, asBool]
    · cases h
  case h_4 x =>
    split at h
    · rename_i hk
      simp only [Option.some.injEq] at h; subst h
      generalize evO (evOf a) x = u at hk ⊢
      unfold nilOk at hk
      split at hk <;> simp_all
    · cases h
  case h_5 bop t x y _ =>
    split at h
    · have := r_binP (x := x) (y := y) h w
      simp only [Sem.run_bind] at this
      cases h1 : (eqGuard bop t x y (evO (evOf a) x) (evO (evOf a) y)).run P w with
      | ok u w' => rw [h1] at this; simp only [Result.andThen_ok] at this ⊢; simp [this]
      | halt u w' => rw [h1] at this; simp at this
    · cases h
  case h_6 =>
    split at h <;> cases h <;> simp_all [Op.unary, Op.intArith, Op.intBits, notK]
  case h_7 src dst x =>
    split at h
    · rename_i b k kk n h1 h2 h3
      simp only [Option.some.injEq] at h; subst h
      obtain ⟨d, hd⟩ := aggO_und h1
      simp [convert, r_und hd, r_und (intO_und h2), h3, Conv.intToInt]
    · rename_i b s h1 h2 h3
      split at h
      · rename_i hs
        simp only [Option.some.injEq] at h; subst h
        obtain ⟨d, hd⟩ := aggO_und h1
        simp [convert, r_und hd, r_und (strO_und hs), h3]
      · cases h
    · cases h
  case h_8 s x f =>
    split at h
    · rename_i ad had
      simp only [Option.map_eq_some_iff] at h
      obtain ⟨⟨off, t⟩, hf, rfl⟩ := h
      obtain ⟨fs, fd, n, h1, h2, h3, h4, h5, h6⟩ := fieldO_spec hf
      simp [Instr.fieldAt, r_und h1, h2, Instr.sureAddr, had, fieldPlace, r_size h5, h6, h3]
    · cases h
  case h_9 t x f =>
    split at h
    · rename_i cs hcs
      simp only [Option.bind_eq_some_iff] at h
      obtain ⟨⟨off, t'⟩, hf, hp⟩ := h
      obtain ⟨fs, fd, n, h1, h2, h3, h4, h5, h6⟩ := fieldO_spec hf
      subst h3 h4
      simp [Instr.field, r_und h1, h2, hcs, asAgg, r_part hp]
    · cases h
  case h_10 t x i =>
    split at h
    · rename_i k n hn
      split at h
      · rename_i len e he
        split at h
        · rename_i ad had
          split at h
          · rename_i hlt
            simp only [Option.map_eq_some_iff] at h
            obtain ⟨s, hs, rfl⟩ := h
            simp [Instr.indexAt, asIntOf, hn, r_und (arrO_und he), had, Instr.sureAddr, hlt, r_size hs]
          · cases h
        · cases h
      · split at h
        · rename_i ad len cap had
          split at h
          · rename_i hlt
            simp only [Option.bind_eq_some_iff, Option.map_eq_some_iff] at h
            obtain ⟨e, he, s, hs, rfl⟩ := h
            simp [Instr.indexAt, asIntOf, hn, r_und (slcO_und he), had, hlt, r_size hs]
          · cases h
        · cases h
    · cases h
  case h_11 t x i =>
    split at h
    · rename_i k n hn
      split at h
      · rename_i cs hcs
        simp only [Option.bind_eq_some_iff] at h
        obtain ⟨⟨len, e⟩, he, h⟩ := h
        split at h
        · rename_i hlt
          simp only [Option.bind_eq_some_iff] at h
          obtain ⟨s, hs, hp⟩ := h
          simp only at hlt
          simp [Instr.index, asIntOf, hn, r_und (arrO_und he), hcs, hlt, r_size hs, r_part hp]
        · cases h
      · rename_i s hs
        split at h
        · rename_i hst
          simp only [Option.map_eq_some_iff] at h
          obtain ⟨b, hb, rfl⟩ := h
          simp [Instr.index, asIntOf, hn, r_und (strO_und hst.1), hs, hst.2, hb]
        · cases h
      · cases h
    · cases h
  case h_12 => simp [r_slice h]
  case h_13 =>
    split at h
    · rename_i vs hvs; simp [Instr.extract, hvs, h]
    · cases h
  case h_14 t parts =>
    have := r_build h w
    have e : (parts.map fun x : Nat × Operand => (x.1, evO (evOf a) x.2)) = (parts.toList.map fun p => (p.1, evO (evOf a) p.2)).toArray := by
      apply Array.toList_inj.1
      rw [Array.toList_map]
    simp only [e, this, Result.andThen_ok, Sem.run_pure]
  case h_15 t x =>
    simp only [Option.bind_eq_some_iff] at h
    obtain ⟨b, hb, h⟩ := h
    split at h
    · cases h
    · rename_i hi
      simp only [Option.some.injEq] at h; subst h
      obtain ⟨d, hd⟩ := aggO_und hb
      simp only [ifaceT, hd] at hi
      simp only [Instr.makeInterface, Sem.run_bind, r_und hd, Result.andThen_ok]
      cases d <;> simp_all
  case h_16 => simp only [Option.some.injEq] at h; subst h; simp [Instr.makeFunc]
  case h_17 b args ts =>
    have := r_biP (ty := ty) (cons := args.map fun | .const _ => true | _ => false) h w
    simp only [resolve, Sem.run_pure, Result.andThen_ok, invoke]
    have e : (args.toList.map (evO (evOf a))).toArray = args.map (evO (evOf a)) := by
      apply Array.toList_inj.1
      rw [Array.toList_map]
    rw [e] at this
    exact this
  case h_18 t x =>
    split at h
    · rename_i a len cap hx
      simp only [Option.bind_eq_some_iff] at h
      obtain ⟨⟨n, e⟩, he, h⟩ := h
      split at h
      · rename_i hn
        simp only [Option.some.injEq] at h; subst h
        have hn' : ¬ len < n := by simp only at hn; omega
        simp [Instr.arrayAt, hx, r_und (arrO_und he), hn']
      · cases h
    · cases h
  case h_19 => cases h

/-! ### Sameness of values that hold no address -/
def eqV (P : Program) : Nat → TypeId → Value → Value → Option Bool
  | 0, _, _, _ => none
  | d + 1, t, x, y =>
    match P.underlying t, x, y with
    | some .bool, .bool a, .bool b => some (a == b)
    | some (.int _), .int k a, .int k' b => if k = k' then some (a == b) else none
    | some .string, .string a, .string b => some (a == b)
    | some (.struct fs), .agg xs, .agg ys =>
      if P.stoodInHeld t = true then none else
      (fs.toList.mapM fun f => if f.name = "_" then none else
        (partO P f.type xs f.offset).bind fun u => (partO P f.type ys f.offset).bind fun v => eqV P d f.type u v).map fun bs => bs.all id
    | some (.array n e), .agg xs, .agg ys =>
      (szO P e).bind fun s => ((List.range n).mapM fun i =>
        (partO P e xs (i * s)).bind fun u => (partO P e ys (i * s)).bind fun v => eqV P d e u v).map fun bs => bs.all id
    | _, _, _ => none

theorem r_forAll {α : Type} (B : α → Option Bool × Unit → Sem (ForInStep (Option Bool × Unit))) (G : α → Option Bool) (w : World)
    (h : ∀ x b s, G x = some b → (B x s).run P w = .ok (if b = true then .yield (none, ()) else .done (some false, ())) w) :
    ∀ (l : List α) (bs : List Bool), l.mapM G = some bs →
    (forIn (m := Sem) l ((none : Option Bool), ()) B).run P w = .ok ((if bs.all id = true then none else some false), ()) w
  | [], bs, hp => by simp at hp; subst hp; simp
  | x :: l, bs, hp => by
    simp only [List.mapM_cons, Option.bind_eq_bind, Option.bind_eq_some_iff] at hp
    obtain ⟨p, hp1, qs, hq, hps⟩ := hp
    simp at hps
    have ih := r_forAll B G w h l qs hq
    subst hps
    simp only [List.forIn_cons, Sem.run_bind, h x p _ hp1, Result.andThen_ok]
    cases p with
    | true => simpa using ih
    | false => simp

theorem r_eqV : ∀ (d : Nat) (t : TypeId) (x y : Value) (b : Bool), eqV P d t x y = some b → ∀ w, (Op.equalIn d t x y).run P w = .ok b w := by
  intro d
  induction d with
  | zero => intro t x y b h; cases h
  | succ d ih =>
    intro t x y b h w
    unfold eqV at h
    split at h
    · rename_i hu
      simp only [Option.some.injEq] at h; subst h
      simp [Op.equalIn, r_und hu]
    · rename_i hu
      split at h
      · rename_i hk
        simp only [Option.some.injEq] at h; subst h
        simp [Op.equalIn, r_und hu, hk]
      · cases h
    · rename_i hu
      simp only [Option.some.injEq] at h; subst h
      simp [Op.equalIn, r_und hu]
    · rename_i fs xs ys hu
      split at h
      · cases h
      · rename_i hst
        simp only [Option.map_eq_some_iff] at h
        obtain ⟨bs, hbs, rfl⟩ := h
        simp only [Op.equalIn, Sem.run_bind, r_und hu, Result.andThen_ok, run_program, hst, Bool.false_eq_true, if_false]
        rw [← Array.forIn_toList]
        rw [r_forAll _ _ w ?_ fs.toList bs hbs]
        · cases bs.all id <;> simp
        · intro f b s hf
          split at hf
          · cases hf
          · rename_i hn
            simp only [Option.bind_eq_some_iff] at hf
            obtain ⟨u, hu1, v, hv1, he⟩ := hf
            cases b <;> simp [hn, r_part hu1, r_part hv1, ih _ _ _ _ he]
    · rename_i n e xs ys hu
      simp only [Option.bind_eq_some_iff, Option.map_eq_some_iff] at h
      obtain ⟨s, hs, bs, hbs, rfl⟩ := h
      simp only [Op.equalIn, Sem.run_bind, r_und hu, Result.andThen_ok, r_size hs]
      rw [Std.Legacy.Range.forIn_eq_forIn_range']
      rw [List.range_eq_range'] at hbs
      simp only [Std.Legacy.Range.size, Nat.sub_zero, Nat.add_sub_cancel, Nat.div_one]
      rw [r_forAll _ _ w ?_ _ bs hbs]
      · cases bs.all id <;> simp
      · intro i b s hf
        simp only [Option.bind_eq_some_iff] at hf
        obtain ⟨u, hu1, v, hv1, he⟩ := hf
        cases b <;> simp [r_part hu1, r_part hv1, ih _ _ _ _ he]
    · cases h
end Go.V
