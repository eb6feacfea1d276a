/-
  Worlds that have only grown: what was read reads so still.
-/
import Derived.Test.YtbnabmpchhmckaaGreatDoorLibM
namespace Go.V
variable {P : Program}
/-- the blocks of w stand in w' -/
def Ext (w w' : World) : Prop := ∀ b, b < w.heap.size → w'.heap[b]? = w.heap[b]?
theorem Ext.refl (w : World) : Ext w w := fun _ _ => rfl
theorem Ext.get {w w' : World} (h : Ext w w') {b : Nat} {o : Obj} (hb : w.heap[b]? = some o) : w'.heap[b]? = some o := (h b (heap_lt hb)).trans hb
theorem Ext.trans {w w1 w2 : World} (h : Ext w w1) (k : Ext w1 w2) : Ext w w2 := fun b hb => by
  have e : w.heap[b]? = some w.heap[b] := Array.getElem?_eq_getElem hb
  rw [e]; exact k.get (h.get e)
theorem Ext.alloc (w : World) (o : Obj) : Ext w (w.alloc o) := fun _ hb => alloc_blk_old w o hb
theorem plainB_ext {w w' : World} (h : Ext w w') {b : Nat} (hb : plainB w b = true) : plainB w' b = true := by
  obtain ⟨c, e, h1⟩ := plainB_spec hb
  simp [plainB, h.get h1]
theorem eqPtr_ext {w w' : World} (h : Ext w w') {x y : Value} {r : Bool} (he : eqPtr w x y = some r) : eqPtr w' x y = some r := by
  unfold eqPtr at *
  split at he
  · exact he
  · exact he
  · split at he
    · rename_i hb; simp only [hb, if_true]; exact he
    · rename_i hb
      split at he
      · rename_i hp
        simp only [hb, if_false, plainB_ext h hp.1, plainB_ext h hp.2, and_self, if_true]; exact he
      · cases he
  · cases he
theorem cmpR_ext {w w' : World} (h : Ext w w') {t : TypeId} {c : Bool} {x y : Value} {r : Bool} (he : cmpR P w t c x y = some r) : cmpR P w' t c x y = some r := by
  unfold cmpR at *
  split at he
  · split at he
    · split at he
      · cases he
      · rename_i hn; simp only [hn, if_false]; exact eqPtr_ext h he
    · cases he
  all_goals exact he
theorem rdO_ext {w w' : World} (h : Ext w w') {t : TypeId} {b o : Nat} {v : Value} (he : rdO P t w b o = some v) : rdO P t w' b o = some v := by
  unfold rdO at *
  cases hb : w.heap[b]? with
  | none => rw [hb] at he; cases he
  | some ob => rw [h.get hb, ← hb]; exact he
theorem lookO_ext {w w' : World} (h : Ext w w') {t : TypeId} {m k : Value} {v : Value × Bool} (he : lookO P t w m k = some v) : lookO P t w' m k = some v := by
  have e : ∀ es, mapEs w m = some es → mapEs w' m = some es := fun es hm => by
    unfold mapEs at *
    split at hm
    · exact hm
    · split at hm
      · rename_i hb; simp only [h.get hb]; exact hm
      · cases hm
    · cases hm
  unfold lookO at *
  simp only [Option.bind_eq_some_iff] at he ⊢
  obtain ⟨p, hp, es, hes, r⟩ := he
  exact ⟨p, hp, es, e es hes, r⟩
theorem stepR_ext {w w' : World} (h : Ext w w') {ev : Ev} {op : Op} {v : Value} (he : stepR P ev w op = some v) : stepR P ev w' op = some v := by
  unfold stepR at *
  split at he
  · split at he
    · exact rdO_ext h he
    · cases he
  · split at he
    · simp only [Option.map_eq_some_iff] at he ⊢
      obtain ⟨r, hr, e⟩ := he
      exact ⟨r, cmpR_ext h hr, e⟩
    · simp only [Option.map_eq_some_iff] at he ⊢
      obtain ⟨r, hr, e⟩ := he
      exact ⟨r, cmpR_ext h hr, e⟩
    · cases he
  · simp only [Option.map_eq_some_iff] at he ⊢
    obtain ⟨r, hr, e⟩ := he
    exact ⟨r, lookO_ext h hr, e⟩
  · exact he
  · cases he
end Go.V
