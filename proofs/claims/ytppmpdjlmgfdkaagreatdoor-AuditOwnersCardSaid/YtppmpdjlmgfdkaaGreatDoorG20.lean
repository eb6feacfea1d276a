/- Helpers. -/
import Derived.Maps.RangeRun
import Derived.Test.YtppmpdjlmgfdkaaGreatDoorG19
set_option linter.all false
set_option maxRecDepth 100000
set_option maxHeartbeats 8000000
open Array renaming toList_filter→yY
namespace Go.V
section
theorem leftOf_push (es:Array MapEntry)(seen:Array Nat)(b:Nat):(leftOf es (seen.push b)).toList=(leftOf es seen).toList.filter fun x=>x.born != b:=by
 unfold leftOf;rw[yY,yY,List.filter_filter]
 congr 1
 funext x
 rw[Array.contains_push,Bool.not_or,Bool.and_comm]
 first | done | rfl | (congr 1)
theorem left_perm:∀ {l:List MapEntry} {e:MapEntry},(l.map (·.born)).Nodup→e ∈ l→(e::l.filter fun x=>x.born != e.born).Perm l
 | [],_,_,h=>by cases h
 | x::r,e,hn,h=>by
  rw[List.map_cons,List.nodup_cons]at hn
  rcases List.mem_cons.1 h with he | h
  ·have hr:r.filter (fun y=>y.born != x.born)=r:=List.filter_eq_self.2 fun y hy=>by
    rw[bne_iff_ne];exact fun hb=>hn.1 (by rw[← hb];exact List.mem_map_of_mem hy)
   subst he;rw[List.filter_cons,if_neg (by simp),hr]
  ·have hx:(x.born != e.born)=true:=by
    rw[bne_iff_ne];exact fun hb=>hn.1 (by rw[hb];exact List.mem_map_of_mem h)
   rw[List.filter_cons,if_pos hx];exact (List.Perm.swap ..).trans ((left_perm hn.2 h).cons x)
def It (w:World)(r bm:Nat)(es:Array MapEntry)(c:Nat)(seen:Array Nat):Prop :=
 ∃ since,w.heap[r]?=some (.mapIter (some bm) since seen c)∧w.heap[bm]?=some (.map es c)∧(∀ x ∈ es.toList,x.born<since)∧since≤c∧(es.toList.map (·.born)).Nodup∧r≠bm
section
variable {P:Program} {w:World} {r bm:Nat} {es:Array MapEntry} {c:Nat} {seen:Array Nat}
theorem It.left_nodup (h:It w r bm es c seen):((leftOf es seen).toList.map (·.born)).Nodup:=by
 obtain⟨_,_,_,_,_,hn,_⟩:=h;refine List.Nodup.sublist ?_ hn;unfold leftOf;rw[yY];exact (List.filter_sublist).map _
theorem left_mem {e:MapEntry}(he:e ∈ (leftOf es seen).toList):e ∈ es.toList:=by
 unfold leftOf at he;rw[yY]at he;exact (List.mem_filter.1 he).1
theorem qVa:leftOf es #[]=es:=by
 unfold leftOf
 simp
theorem It.fr {F:Nat→Prop}{w':World}(h:It w r bm es c seen)(f:Fr F w w')(h1:¬ F r)(h2:¬ F bm):It w' r bm es c seen:=by
 obtain⟨s,a,b,g⟩:=h;exact⟨s,f.at a h1,f.at b h2,g⟩
theorem It.next (h:It w r bm es c seen){ty:TypeId}{K:Value→World→Prop}(h0:(leftOf es seen).toList=[]→K (.tuple #[.bool false]) w)
  (h1:∀ e w',e ∈ (leftOf es seen).toList→It w' r bm es c (seen.push e.born)→Fr (fun b=>b=r) w w'→K (.tuple #[.bool true,e.key,e.val]) w'):SemD P (Instr.next (.pointer (some ⟨r,0,none⟩)) false ty) w K:=by
 obtain⟨s,a,b,ho,hs,hn,hne⟩:=h
 rcases run_next_at (P:=P) w ty r bm s c seen es c a b ho hs with ⟨hz,e⟩ | ⟨en,he,w1,hw,e⟩
 ·exact⟨_,_,e,h0 (by rw[← List.length_eq_zero_iff,Array.length_toList];exact hz)⟩
 ·have a1:w1.heap[r]?=some (.mapIter (some bm) s seen c):=by rcases hw with rfl | rfl <;> exact a
  have b1:w1.heap[bm]?=some (.map es c):=by rcases hw with rfl | rfl <;> exact b
  have f1:Fr (fun b=>b=r) w w1:=by
   rcases hw with rfl | rfl
   ·exact Fr.refl _ _
   ·exact (Fr.refl _ _).drew
  exact⟨_,_,e,h1 en _ he ⟨s,qQd (o:=.mapIter (some bm) s (seen.push en.born) c) a1,qQi (b:=r) (o:=.mapIter (some bm) s (seen.push en.born) c) b1 hne,ho,hs,hn,hne⟩ (f1.put (b:=r) (.mapIter (some bm) s (seen.push en.born) c) fun _=>rfl)⟩
theorem It.entry {e:MapEntry}(h:It w r bm es c (seen.push e.born))(he:e ∈ es.toList):(Instr.entry (.pointer (some ⟨r,0,none⟩))).run P w=.ok (.tuple #[e.key,e.val]) w:=by
 obtain⟨s,a,b,ho,hs,hn,hne⟩:=h;exact run_entry_at (P:=P) w r bm s seen es c e a b he hn
theorem range_it {t kt et:TypeId}(ht:P.underlying t=some (.map kt et))(hb:w.heap[bm]?=some (.map es c))(ho:∀ x ∈ es.toList, x.born<c)(hn:(es.toList.map (·.born)).Nodup) :
  (Instr.range t (.map (some bm))).run P w=.ok (.pointer (some ⟨w.heap.size,0,none⟩)) (w.alloc (.mapIter (some bm) c #[] c))∧It (w.alloc (.mapIter (some bm) c #[] c)) w.heap.size bm es c #[]∧No w (w.alloc (.mapIter (some bm) c #[] c)) :=
 ⟨run_range_map w t kt et bm es c ht hb,⟨c,qQb _ _,qQq hb,ho,Nat.le_refl _,hn,by have:=qQh hb;omega⟩,(Fr.refl _ _).alloc _⟩
theorem It.took (h:It w r bm es c seen){e:MapEntry}(he:e ∈ (leftOf es seen).toList):(e::(leftOf es (seen.push e.born)).toList).Perm (leftOf es seen).toList:=by
 rw[leftOf_push];exact left_perm h.left_nodup he
end
end
end Go.V
