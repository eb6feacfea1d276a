/- Helpers. -/
import Derived.Maps.RangeRun
import Derived.Test.YtppmpdjlmgfdkaaGreatDoorB15
set_option linter.all false
set_option maxRecDepth 100000
set_option maxHeartbeats 8000000
open Array renaming toList_filter->vZ
namespace Go.V
section
theorem leftOf_push (es:Array MapEntry)(seen:Array Nat)(b:Nat):(leftOf es (seen.push b)).toList=(leftOf es seen).toList.filter fun x=>x.born != b:=by
 unfold leftOf;rw[vZ,vZ,List.filter_filter]
 congr 1
 funext x
 rw[Array.contains_push,Bool.not_or,Bool.and_comm]
 first | done | rfl | (congr 1)
theorem left_perm:∀ {l:List MapEntry} {e:MapEntry},(l.map (·.born)).Nodup->e ∈ l->(e::l.filter fun x=>x.born != e.born).Perm l
 | [],_,_,h=>by cases h
 | x::r,e,A,h=>by
  rw[List.map_cons,List.nodup_cons]at A
  rcases List.mem_cons.1 h with he | h
  ·have E:r.filter (fun y=>y.born != x.born)=r:=List.filter_eq_self.2 fun y H=>by
    rw[bne_iff_ne];exact fun B=>A.1 (by rw[<- B];exact List.mem_map_of_mem H)
   subst he;rw[List.filter_cons,if_neg sm,E]
  ·have I:(x.born != e.born)=true:=by
    rw[bne_iff_ne];exact fun B=>A.1 (by rw[B];exact List.mem_map_of_mem h)
   rw[List.filter_cons,if_pos I];exact (List.Perm.swap ..).trans ((left_perm A.2 h).cons x)
def It (w:World)(r bm:Nat)(es:Array MapEntry)(c:Nat)(seen:Array Nat):Prop :=
 ∃ A,w.heap[r]?=some (.mapIter (some bm) A seen c)/\w.heap[bm]?=some (.map es c)/\(∀ x ∈ es.toList,x.born<A)/\A<=c/\(es.toList.map (·.born)).Nodup/\r≠bm
section
variable {P:Program} {w:World} {r bm:Nat} {es:Array MapEntry} {c:Nat} {seen:Array Nat}
theorem It.left_nodup (h:It w r bm es c seen):((leftOf es seen).toList.map (·.born)).Nodup:=by
 obtain⟨_,_,_,_,_,A,_⟩:=h;refine List.Nodup.sublist ?_ A;unfold leftOf;rw[vZ];exact (List.filter_sublist).map _
theorem left_mem {e:MapEntry}(A:e ∈ (leftOf es seen).toList):e ∈ es.toList:=by
 unfold leftOf at A;rw[vZ]at A;exact (List.mem_filter.1 A).1
theorem left_all:leftOf es #[]=es:=by
 unfold leftOf
 simp
theorem It.fr {F:Nat->Prop}{w':World}(h:It w r bm es c seen)(f:Fr F w w')(A:¬ F r)(B:¬ F bm):It w' r bm es c seen:=by
 obtain⟨s,a,b,g⟩:=h;exact⟨s,f.at a A,f.at b B,g⟩
theorem It.next (h:It w r bm es c seen){ty:TypeId}{K:Value->World->Prop}(J:(leftOf es seen).toList=[]->K (.tuple #[.bool false]) w)
  (L:∀ e w',e ∈ (leftOf es seen).toList->It w' r bm es c (seen.push e.born)->Fr (fun b=>b=r) w w'->K (.tuple #[.bool true,e.key,e.val]) w'):SemD P (Instr.next (.pointer (some ⟨r,0,none⟩)) false ty) w K:=by
 obtain⟨s,a,b,H,I,M,hne⟩:=h
 rcases run_next_at (P:=P) w ty r bm s c seen es c a b H I with ⟨N,e⟩ | ⟨A,O,B,E,e⟩
 ·exact⟨_,_,e,J (by rw[<- List.length_eq_zero_iff,Array.length_toList];exact N)⟩
 ·have a1:B.heap[r]?=some (.mapIter (some bm) s seen c):=by rcases E with rfl | rfl <;> exact a
  have R:B.heap[bm]?=some (.map es c):=by rcases E with rfl | rfl <;> exact b
  have T:Fr (fun b=>b=r) w B:=by
   rcases E with rfl | rfl
   ·exact Fr.refl _ _
   ·exact (Fr.refl _ _).drew
  exact⟨_,_,e,L A _ O ⟨s,qQd (o:=.mapIter (some bm) s (seen.push A.born) c) a1,qQi (b:=r) (o:=.mapIter (some bm) s (seen.push A.born) c) R hne,H,I,M,hne⟩ (T.put (b:=r) (.mapIter (some bm) s (seen.push A.born) c) fun _=>rfl)⟩
theorem It.entry {e:MapEntry}(h:It w r bm es c (seen.push e.born))(A:e ∈ es.toList):(Instr.entry (.pointer (some ⟨r,0,none⟩))).run P w=.ok (.tuple #[e.key,e.val]) w:=by
 obtain⟨s,a,b,E,H,B,hne⟩:=h;exact run_entry_at (P:=P) w r bm s seen es c e a b A B
theorem range_it {t B E:TypeId}(H:P.underlying t=some (.map B E))(A:w.heap[bm]?=some (.map es c))(I:∀ x ∈ es.toList, x.born<c)(J:(es.toList.map (·.born)).Nodup) :
  (Instr.range t (.map (some bm))).run P w=.ok (.pointer (some ⟨w.heap.size,0,none⟩)) (w.alloc (.mapIter (some bm) c #[] c))/\It (w.alloc (.mapIter (some bm) c #[] c)) w.heap.size bm es c #[]/\No w (w.alloc (.mapIter (some bm) c #[] c)) :=
 ⟨run_range_map w t B E bm es c H A,⟨c,qQb _ _,qQs A,I,Nat.le_refl _,J,by have:=qQh A;omega⟩,(Fr.refl _ _).alloc _⟩
theorem It.took (h:It w r bm es c seen){e:MapEntry}(A:e ∈ (leftOf es seen).toList):(e::(leftOf es (seen.push e.born)).toList).Perm (leftOf es seen).toList:=by
 rw[leftOf_push];exact left_perm h.left_nodup A
end
end
end Go.V
