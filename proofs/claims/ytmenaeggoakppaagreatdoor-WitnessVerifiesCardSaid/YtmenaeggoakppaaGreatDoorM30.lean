/-
  Helpers: RTextA.
-/
import Derived.Test.YtmenaeggoakppaaGreatDoorM29
import Derived.Test.YtmenaeggoakppaaGreatDoorM11
set_option linter.all false
section
namespace Go.V
open Go.Proofs Sha
set_option maxRecDepth 100000
namespace R
def Mut (wb : Nat) (tv gv : Value) : Nat → Prop := fun b => b = wb ∨ blockOf tv = some b ∨ blockOf gv = some b
structure WiM (u w : World) (wb : Nat) (wd : Int) (ev rv tv gv : Value) (p : Nat) (bad : Bool) (txs gvs : Rows) : Prop where
  cell : WiAt w wb wd ev tv gv rv p bad
  txr : NwR u w 220 8 tv txs
  gvr : NwR u w 267 34 gv gvs
  wbu : u.heap.size ≤ wb
  no : No u w
  tne : ∀ b,blockOf tv = some b → b ≠ wb
  gne : ∀ b,blockOf gv = some b → b ≠ wb
  tg : ∀ b,blockOf tv = some b → blockOf gv ≠ some b
theorem WiM.fr {u w w' : World} {wb : Nat} {wd : Int} {ev rv tv gv : Value} {p : Nat} {bad : Bool} {txs gvs : Rows} {F : Nat → Prop} (h : WiM u w wb wd ev rv tv gv p bad txs gvs) (k : Fr F w w') (hf : ∀ b,b < w.heap.size → F b → ¬ Mut wb tv gv b ∧ u.heap.size ≤ b) : WiM u w' wb wd ev rv tv gv p bad txs gvs :=
  ⟨k.at h.cell fun e => (hf wb (heap_lt h.cell) e).1 (.inl rfl),h.txr.fr k fun b hb e => (hf b (h.txr.lt hb).2 e).1 (.inr (.inl hb)),h.gvr.fr k fun b hb e => (hf b (h.gvr.lt hb).2 e).1 (.inr (.inr hb)),h.wbu,
    h.no.trans' k fun b hb e => by have := (hf b (by have := h.no.size; omega) e).2; omega,h.tne,h.gne,h.tg⟩
theorem WiM.fr0 {u w w' : World} {wb : Nat} {wd : Int} {ev rv tv gv : Value} {p : Nat} {bad : Bool} {txs gvs : Rows} (h : WiM u w wb wd ev rv tv gv p bad txs gvs) (k : No w w') : WiM u w' wb wd ev rv tv gv p bad txs gvs := h.fr k fun _ _ h => h.elim
def TxR (u w : World) (M : Nat → Prop) (row : List Value) (x : Wit.Tx) : Prop := ∃ kv nv vv,row = [kv,.int .i64 (x.top : Nat),.int .i64 (x.fr : Nat),nv,.int .i64 (x.left : Nat),.int .i64 (x.right : Nat),.bool x.ans.isSome,vv] ∧
  RdD u kv x.keys ∧ NwD u w 23 nv x.near ∧ NwB u w vv (x.ans.getD []) ∧ (∀ b,blockOf nv = some b → ¬ M b) ∧ (∀ b,blockOf vv = some b → ¬ M b)
theorem TxR.fr {u w w' : World} {M F : Nat → Prop} {row : List Value} {x : Wit.Tx} (h : TxR u w M row x) (k : Fr F w w') (hf : ∀ b,b < w.heap.size → F b → M b) : TxR u w' M row x := by
  obtain ⟨kv,nv,vv,h1,h2,h3,h4,h5,h6⟩ := h
  exact ⟨kv,nv,vv,h1,h2,h3.fr k fun b hb e => h5 b hb (hf b (h3.lt hb).2 e),h4.fr k fun b hb e => h6 b hb (hf b (h4.lt hb).2 e),h5,h6⟩
theorem TxR.mono {u w : World} {M M' : Nat → Prop} {row : List Value} {x : Wit.Tx} (h : TxR u w M row x) (hm : ∀ b,b < w.heap.size → M' b → M b) : TxR u w M' row x := by
  obtain ⟨kv,nv,vv,h1,h2,h3,h4,h5,h6⟩ := h
  exact ⟨kv,nv,vv,h1,h2,h3,h4,fun b hb e => h5 b hb (hm b (h3.lt hb).2 e),fun b hb e => h6 b hb (hm b (h4.lt hb).2 e)⟩
def TxL (u w : World) (M : Nat → Prop) (rows : Rows) (xs : List Wit.Tx) : Prop := rows.length = xs.length ∧ ∀ i (h : i < rows.length) (h' : i < xs.length),TxR u w M rows[i] xs[i]
theorem TxL.fr {u w w' : World} {M F : Nat → Prop} {rows : Rows} {xs : List Wit.Tx} (h : TxL u w M rows xs) (k : Fr F w w') (hf : ∀ b,b < w.heap.size → F b → M b) : TxL u w' M rows xs := ⟨h.1,fun i a b => (h.2 i a b).fr k hf⟩
theorem TxL.mono {u w : World} {M M' : Nat → Prop} {rows : Rows} {xs : List Wit.Tx} (h : TxL u w M rows xs) (hm : ∀ b,b < w.heap.size → M' b → M b) : TxL u w M' rows xs := ⟨h.1,fun i a b => (h.2 i a b).mono hm⟩
theorem TxL.snoc {u w : World} {M : Nat → Prop} {rows : Rows} {xs : List Wit.Tx} (h : TxL u w M rows xs) {row : List Value} {x : Wit.Tx} (k : TxR u w M row x) : TxL u w M (rows ++ [row]) (xs ++ [x]) := by
  obtain ⟨h1,h2⟩ := h
  refine ⟨by simp [h1],fun i hi hi' => ?_⟩
  by_cases hl : i < rows.length
  · rw [List.getElem_append_left hl,List.getElem_append_left (by omega)]; exact h2 i hl (by omega)
  · have hi2 : i = rows.length := by simp at hi; omega
    subst hi2
    rw [List.getElem_append_right (Nat.le_refl _),List.getElem_append_right (by omega)]
    simpa [h1] using k
def GvR (row : List Value) (q : Nat × Bs) : Prop := ∃ tn,row = gvRow tn q ∧ q.2.length = 32
def GvL (rows : Rows) (gs : List (Nat × Bs)) : Prop := rows.length = gs.length ∧ ∀ i (h : i < rows.length) (h' : i < gs.length),GvR rows[i] gs[i]
theorem GvL.app {a b : Rows} {gs hs : List (Nat × Bs)} (h : GvL a gs) (k : GvL b hs) : GvL (a ++ b) (gs ++ hs) := by
  obtain ⟨h1,h2⟩ := h
  obtain ⟨k1,k2⟩ := k
  refine ⟨by simp [h1,k1],fun i hi hi' => ?_⟩
  by_cases hl : i < a.length
  · rw [List.getElem_append_left hl,List.getElem_append_left (by omega)]; exact h2 i hl (by omega)
  · rw [List.getElem_append_right (by omega),List.getElem_append_right (by omega)]
    have := k2 (i - a.length) (by rw [List.length_append] at hi; omega) (by rw [List.length_append] at hi'; omega)
    have e : i - gs.length = i - a.length := by omega
    simp only [e]; exact this
theorem GvL.own {gl : List (Nat × Bs)} (h : ∀ q ∈ gl,q.2.length = 32) : GvL (gl.map (gvRow 0)) gl := ⟨by simp,fun i hi hi' => ⟨0,by simp,h _ (List.getElem_mem hi')⟩⟩
theorem GvL.set {rows : Rows} {gs : List (Nat × Bs)} (h : GvL rows gs) {i : Nat} (hi : i < rows.length) (n : Int) : GvL (rows.set i (rows[i].set 0 (.int .i64 n))) gs := by
  refine ⟨by rw [List.length_set]; exact h.1,fun j hj hj' => ?_⟩
  rw [List.length_set] at hj
  rw [List.getElem_set]
  split
  · rename_i e
    subst e
    obtain ⟨tn,e1,e2⟩ := h.2 i hi hj'
    exact ⟨n,by rw [e1]; rfl,e2⟩
  · exact h.2 j hj hj'
abbrev txC (kv : Value) (top fr : Nat) (nv : Value) (l r : Int) (f : Bool) (vv : Value) : Array Value := #[kv,.int .i64 (top : Nat),.int .i64 (fr : Nat),nv,.int .i64 l,.int .i64 r,.bool f,vv]
theorem bldTx {kv : Value} (top : Nat) (h : one kv = true) : bldO Tryz.prog 220 [(0,kv),(1,.int .i64 (top : Nat))] = some (.agg (txC kv top 0 (.slice Option.none 0 0) 0 0 false (.slice Option.none 0 0))) := by
  simp only [bldO,Tryz.zero220,Tryz.places220,Option.bind_some]
  rw [fill_one1 (off := 0) rfl h (by decide),fill_one1 (off := 1) rfl rfl (by simp [Value.cells])]; rfl
def XtQ (u w0 : World) (wb : Nat) (wd : Int) (ev rv : Value) (raw : Bs) (n : Nat) (ks : List Bs) (top : Nat) (tv gv : Value) (p : Nat) (E : Nat → Prop) (xs : List Wit.Tx) (gs : List (Nat × Bs)) (r : Value) (w' : World) : Prop := Fr (Mut wb tv gv) w0 w' ∧
  match Wit.parse wd n ks top (raw.drop p) with
  | none => (∃ z : Int,r = .int .i64 z) ∧ ∃ tv' gv' q,WiAt w' wb wd ev tv' gv' rv q true ∧ q ≤ raw.length
  | some x => ∃ tv' gv' q txs' gvs', r = .int .i64 ((xs.length + x.1.size - 1 : Nat) : Int) ∧ WiM u w' wb wd ev rv tv' gv' q false txs' gvs' ∧ q ≤ raw.length ∧ raw.drop q = x.2.2 ∧ TxL u w' (fun b => Mut wb tv' gv' b ∨ E b) txs' (xs ++ Wit.flatT wd xs.length x.1) ∧ GvL gvs' (gs ++ x.2.1) ∧
      (∀ b,blockOf tv' = some b → blockOf tv = some b ∨ w0.heap.size ≤ b) ∧ (∀ b,blockOf gv' = some b → blockOf gv = some b ∨ w0.heap.size ≤ b)
theorem allocTx (w : World) {kv : Value} (top : Nat) (h : one kv = true) : ∃ W, wrO Tryz.prog 220 (w.alloc (.cells #[.slice Option.none 0 0, .int .i64 0, .int .i64 0, .slice Option.none 0 0, .int .i64 0, .int .i64 0, .bool false, .slice Option.none 0 0] 220)) w.heap.size 0 (.agg (txC kv top 0 (.slice Option.none 0 0) 0 0 false (.slice Option.none 0 0))) = some W ∧
    W.heap[w.heap.size]? = some (.cells (txC kv top 0 (.slice Option.none 0 0) 0 0 false (.slice Option.none 0 0)) 220 (0,0)) ∧ No w W ∧ W.heap.size = w.heap.size + 1 := by
  have k := alloc_blk_new w (.cells #[.slice Option.none 0 0,.int .i64 0,.int .i64 0,.slice Option.none 0 0,.int .i64 0,.int .i64 0,.bool false,.slice Option.none 0 0] 220)
  refine ⟨_,wr_all (vs := txC kv top 0 (.slice Option.none 0 0) 0 0 false (.slice Option.none 0 0)) Tryz.sz220 k rfl (by rw [← Array.all_toList]; simp only [List.all_cons,List.all_nil,h]; rfl),put_at k,((Fr.refl _ _).alloc _).put (b := w.heap.size) _ fun h => absurd h (Nat.lt_irrefl _),?_⟩
  simp [put,alloc_heap_size]
/-- behind a failure -/
theorem textBad (u w0 : World) {wb top : Nat} {wd : Int} {ev tv gv rv kv : Value} {p : Nat} {raw : Bs} {ks : List Bs} (h : WiAt w0 wb wd ev tv gv rv p true) (hr : By u rv raw) (no : No u w0) (hu : u.heap.size ≤ wb) (hrb : 0 < raw.length → ∀ b, blockOf rv = some b → b ≠ wb) (hp : p ≤ raw.length) (hl : raw.length ≤ 2 ^ 50)
    (hk : RdD w0 kv ks) (ha : Wit.Asc ks) (h0 : 0 < ks.length) (hkl : ks.length ≤ 2 ^ 40) :
    Fn Tryz.prog 180 #[pt wb 0,kv,.int .i64 (top : Nat)] w0 fun r w' => Fr (fun b => b = wb) w0 w' ∧ (∃ z : Int,r = .int .i64 z) ∧ WiAt w' wb wd ev tv gv rv p true := by
  refine Tryz.go180 (by simp) ?_
  obtain ⟨ka,kc,rfl,hkc⟩ := hk.slice
  have bl := bldTx (kv := .slice ka ks.length kc) top rfl
  obtain ⟨W,q1,t1,f1,s1⟩ := allocTx w0 (kv := .slice ka ks.length kc) top rfl
  have hwb : wb < w0.heap.size := heap_lt h
  simp -implicitDefEqProofs only [go_sem,Nat.reduceEqDiff,Nat.reduceBEq,Nat.reduceAdd,gLa,gLz,gLs,Tryz.f180,bl,Value.cells,q1]
  refine contL_call Tryz.pl136 ((fork W (hk.fr0 f1) ha h0 hkl).mono ?_)
  rintro _ w2 ⟨rfl,f2⟩
  have f02 := f1.trans f2
  simp -implicitDefEqProofs only [go_sem,Nat.reduceEqDiff,Nat.reduceBEq,Nat.reduceAdd,gLa,gLz,gLs]
  refine contL_call Tryz.pl208 ((taken u w2 (f02.at h id) hr (no.trans f02) hu hrb hp hl (k := 1) (by decide)).mono ?_)
  rintro bv w3 ⟨f3,bs,hbs,hbl,hbw,h3⟩
  rw [if_pos (.inl rfl)] at h3
  obtain ⟨bb,bo,bc,rfl,hbc⟩ := hbs.pos (by omega)
  have rb := hbs.get (P := Tryz.prog) Tryz.agg5 (i := 0) (by omega)
  rw [Nat.add_zero] at rb
  have y0 : (0 : Int) ≤ 0 ∧ (0 : Int) < ((bs.length : Nat) : Int) := by omega
  have c1 : IntKind.i64.wrap ((bs.getD 0 0).toNat : Int) = ((bs.getD 0 0).toNat : Int) := i64n (by have := (bs.getD 0 0).isLt; omega)
  have r3 := h3.row
  obtain ⟨w4,q4,h4,f4⟩ := h3.setBad
  simp -implicitDefEqProofs only [go_sem,Nat.reduceEqDiff,Nat.reduceBEq,Nat.reduceAdd,gLa,gLz,gLs,y0,rb,c1,r3,ldO_one,ft_beq,tf_beq,beq_self_eq_true,q4]
  exact ⟨((f02.mono fun _ _ h => h.elim).trans f3).trans f4,⟨0,rfl⟩,h4⟩
end R
end Go.V
end
