/-
 Helpers: MergeP.
-/
import Derived.Test.YtmenaeggoakppaaGreatDoorS22
set_option linter.all false
section
namespace Go.V
open Go.Proofs Sha
theorem nodup_ne {α:Type} {l:List α} (h:l.Nodup) {i j:Nat} (hi:i<l.length) (hj:j<l.length) (hij:i≠j):l[i]≠l[j]:=by
 rw[List.Nodup,List.pairwise_iff_getElem] at h
 rcases Nat.lt_or_ge i j with h1 | h1
 ·exact h i j hi hj h1
 ·exact fun e=>h j i hj hi (by omega) e.symm
namespace Bat
def mergeP:List Ch→List Ch→List Ch
 | [],b=>b
 | x::a,[]=>x::a
 | x::a,y::b=>if kcmp x.key y.key≤0 then x::mergeP a (y::b) else y::mergeP (x::a) b
theorem mergeP_nil (a:List Ch):mergeP a []=a:=by cases a <;> simp[mergeP]
theorem mergeP_perm:∀ a b:List Ch,(mergeP a b).Perm (a++b)
 | [],b=>by simp[mergeP]
 | x::a,[]=>by simp[mergeP]
 | x::a,y::b=>by
  unfold mergeP
  split
  ·exact (mergeP_perm a (y::b)).cons x
  ·refine ((mergeP_perm (x::a) b).cons y).trans ?_
   exact List.perm_middle.symm
def Srt (l:List Ch):Prop:=l.Pairwise fun a b=>¬ klt b.key a.key
theorem kcmp_le {a b:Bs} (ha:a.length=32) (hb:b.length=32):kcmp a b≤0 ↔ ¬ klt b a:=by
 unfold kcmp
 by_cases e:a=b
 ·rw[if_pos e];subst e
  exact iff_of_true (by omega) (klt_irrefl a)
 ·rw[if_neg e]
  by_cases h:klt a b
  ·rw[if_pos h]
   exact iff_of_true (by omega) fun g=>klt_irrefl a (klt_trans h g)
  ·rw[if_neg h]
   exact iff_of_false (by omega) fun g=>((klt_total ha hb e).elim h g)
theorem nklt_trans {a b c:Bs} (ha:a.length=32) (hb:b.length=32) (h:¬ klt b a) (g:¬ klt c b):¬ klt c a:=fun k=>by
 by_cases e:a=b
 ·subst e;exact g k
 ·rcases klt_total ha hb e with h' | h'
  ·exact g (klt_trans k h')
  ·exact h h'
theorem mergeP_srt:∀ a b:List Ch,(∀ c ∈ a,c.key.length=32)→(∀ c ∈ b,c.key.length=32)→Srt a→Srt b→Srt (mergeP a b)
 | [],b,_,_,_,h=>by simp only[mergeP];exact h
 | x::a,[],_,_,h,_=>by simp only[mergeP];exact h
 | x::a,y::b,ka,kb,ha,hb=>by
  have kx:=ka x (List.mem_cons_self ..)
  have ky:=kb y (List.mem_cons_self ..)
  have ka':∀ c ∈ a,c.key.length=32:=fun c hc=>ka c (List.mem_cons_of_mem _ hc)
  have kb':∀ c ∈ b,c.key.length=32:=fun c hc=>kb c (List.mem_cons_of_mem _ hc)
  have ha':=List.pairwise_cons.1 ha
  have hb':=List.pairwise_cons.1 hb
  unfold mergeP
  split
  ·rename_i h
   refine List.pairwise_cons.2 ⟨fun z hz=>?_,mergeP_srt a (y::b) ka' kb ha'.2 hb⟩
   rcases List.mem_append.1 ((mergeP_perm a (y::b)).mem_iff.1 hz) with hz | hz
   ·exact ha'.1 z hz
   ·have hxy:=(kcmp_le kx ky).1 h
    rcases List.mem_cons.1 hz with rfl | hz
    ·exact hxy
    ·exact nklt_trans kx ky hxy (hb'.1 z hz)
  ·rename_i h
   have hyx:klt y.key x.key:=by
    by_cases g:klt y.key x.key
    ·exact g
    ·exact absurd ((kcmp_le kx ky).2 g) h
   have hnx:¬ klt x.key y.key:=fun g=>klt_irrefl _ (klt_trans g hyx)
   refine List.pairwise_cons.2 ⟨fun z hz=>?_,mergeP_srt (x::a) b ka kb' ha hb'.2⟩
   rcases List.mem_append.1 ((mergeP_perm (x::a) b).mem_iff.1 hz) with hz | hz
   ·rcases List.mem_cons.1 hz with rfl | hz
    ·exact hnx
    ·exact nklt_trans ky kx hnx (ha'.1 z hz)
   ·exact hb'.1 z hz
/-- one step of the going through both -/
theorem mergeP_drop {a b : List Ch} {i j : Nat} (hi : i < a.length) (hj : j < b.length) : mergeP (a.drop i) (b.drop j) =
    if kcmp a[i].key b[j].key ≤ 0 then a[i] :: mergeP (a.drop (i + 1)) (b.drop j) else b[j] :: mergeP (a.drop i) (b.drop (j + 1)) := by
 rw[List.drop_eq_getElem_cons hi,List.drop_eq_getElem_cons hj,mergeP]
/-- keys that stand once, in order: the sorted keys -/
theorem srt_keys {cs l:List Ch} (hp:l.Perm cs) (hk:∀ c ∈ cs,c.key.length=32) (hn:(cs.map Ch.key).Nodup) (hs:Srt l):l.map Ch.key=Wit.srt (cs.map Ch.key):=by
 have h32:All32 (cs.map Ch.key):=fun d hd=>by
  obtain⟨c,hc,rfl⟩:=List.mem_map.1 hd
  exact hk c hc
 have hpk:(l.map Ch.key).Perm (cs.map Ch.key):=hp.map _
 have hnl:(l.map Ch.key).Nodup:=hpk.nodup_iff.2 hn
 refine (Wit.sorted_is h32 hpk ?_ ?_).2
 ·exact List.pairwise_map.2 hs
 ·intro i hi e
  have h1:i<(l.map Ch.key).length:=by omega
  rw[getD_lt _ h1,getD_lt _ hi] at e
  exact nodup_ne hnl h1 hi (by omega) e
end Bat
end Go.V
end
