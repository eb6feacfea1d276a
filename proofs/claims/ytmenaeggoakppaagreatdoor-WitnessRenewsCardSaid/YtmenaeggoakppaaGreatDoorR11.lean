/- Helpers. -/
import Derived.Test.YtmenaeggoakppaaGreatDoorR10
set_option linter.all false
set_option maxRecDepth 100000
set_option maxHeartbeats 8000000
open List renaming append_assoc→zY,getElem_append_right→jJ,getElem?_append_left→zC,getElem_append_left→jK,length_singleton→zE
namespace Go.V
variable {k:Bs} {w:Int} {ds full ks:List Bs} {f:Nat}
section
namespace Wit
open Tw
structure Tx where
 keys:List Bs
 top:Nat
 fr:Nat
 near:List Bs
 left:Nat
 right:Nat
 ans:Option Bs
def Tw.size:Tw→Nat
 | .leaf _ _ _ _=>1
 | .fork _ _ _ _ l r=>l.size+r.size+1
theorem Tw.size_pos:∀ t:Tw,0<t.size
 | .leaf _ _ _ _=>by simp[Tw.size]
 | .fork _ _ _ _ _ _=>by simp[Tw.size]
def flatT (w:Int):Nat→Tw→List Tx
 | _,.leaf k top near a=>[⟨[k],top,0,near,0,0,a⟩]
 | n,.fork ks f top near l r=>flatT w n l++(flatT w (n+l.size) r++[⟨ks,top,f,(empts w 257).take f++near,n+l.size - 1,n+l.size+r.size - 1,none⟩])
theorem flatT_len (w:Int):∀ (t:Tw) (n:Nat),(flatT w n t).length=t.size
 | .leaf _ _ _ _,_=>rfl
 | .fork _ _ _ _ l r,n=>by simp only[flatT,lAp,flatT_len w l,flatT_len w r,Tw.size,zE];omega
def subT:Tw→List Tw
 | .leaf k top near a=>[.leaf k top near a]
 | .fork ks f top near l r=>subT l++(subT r++[.fork ks f top near l r])
theorem subT_len:∀ t:Tw,(subT t).length=t.size
 | .leaf _ _ _ _=>rfl
 | .fork _ _ _ _ l r=>by simp only[subT,lAp,subT_len l,subT_len r,Tw.size,zE];omega
def TxAt (w:Int)(ts:List Tx):Nat→Tw→Prop
 | i,.leaf k top near a=>ts[i]?=some ⟨[k],top,0,near,0,0,a⟩
 | i,.fork ks f top near l r=>∃ li ri,ts[i]?=some ⟨ks,top,f,(empts w 257).take f++near,li,ri,none⟩∧TxAt w ts li l∧TxAt w ts ri r
theorem TxAt.app {w:Int}{ts:List Tx}(us:List Tx):∀ {t:Tw} {i:Nat},TxAt w ts i t→TxAt w (ts++us) i t
 | .leaf _ _ _ _,i,h=>by
  have h:ts[i]?=_:=h;have:i<ts.length:=(List.getElem?_eq_some_iff.1 h).1;show (ts++us)[i]?=_;rw[zC this];exact h
 | .fork _ _ _ _ l r,i,h=>by
  obtain⟨li,ri,h1,h2,h3⟩:=h;have:i<ts.length:=(List.getElem?_eq_some_iff.1 h1).1;exact⟨li,ri,by rw[zC this];exact h1,h2.app us,h3.app us⟩
theorem flat_at' (w:Int):∀ (t:Tw) (ts:List Tx),TxAt w (ts++flatT w ts.length t) (ts.length+t.size - 1) t
 | .leaf _ _ _ _,ts=>by simp[TxAt,flatT,Tw.size]
 | .fork ks f top near l r,ts=>by
  have hl:=l.size_pos;have hr:=r.size_pos;have h1:=(flat_at' w l ts).app (flatT w (ts.length+l.size) r++[⟨ks,top,f,(empts w 257).take f++near,ts.length+l.size - 1,ts.length+l.size+r.size - 1,none⟩]);have h2:=flat_at' w r (ts++flatT w ts.length l);rw[lAp,flatT_len]at h2;have h2:=h2.app [⟨ks,top,f,(empts w 257).take f++near,ts.length+l.size - 1,ts.length+l.size+r.size - 1,none⟩];refine⟨ts.length+l.size - 1,ts.length+l.size+r.size - 1,?_,?_,?_⟩
  ·simp only[flatT,Tw.size]
   rw[← zY,← zY,List.getElem?_append_right (by simp only[lAp,flatT_len];omega)];simp only[lAp,flatT_len];rw[show ts.length+(l.size+r.size+1) - 1 - (ts.length+l.size+r.size)=0 by omega];rfl
  ·simp only[flatT];rw[zY]at h1;exact h1
  ·simp only[flatT]
   rw[← zY,← zY];rw[show ts.length+l.size+r.size - 1=ts.length+l.size+r.size - 1 from rfl];exact h2
theorem sub_at (w:Int):∀ (t:Tw) (ts:List Tx) (i:Nat) (h:i<(subT t).length),TxAt w (ts++flatT w ts.length t) (ts.length+i) (subT t)[i]
 | .leaf _ _ _ _,ts,i,h=>by
  have:i=0:=by simpa [subT] using h
  subst this;exact flat_at' w (.leaf _ _ _ _) ts
 | .fork ks f top near l r,ts,i,h=>by
  have h0:=h;rw[subT_len,Tw.size]at h0;have sl:=subT_len l;have sr:=subT_len r;simp only[subT]
  rcases Nat.lt_or_ge i l.size with h1 | h1
  ·rw[jK (by omega)]
   have:=(sub_at w l ts i (by omega)).app (flatT w (ts.length+l.size) r++[⟨ks,top,f,(empts w 257).take f++near,ts.length+l.size - 1,ts.length+l.size+r.size - 1,none⟩]);rw[zY]at this;exact this
  ·rw[jJ (by omega)]
   rcases Nat.lt_or_ge i (l.size+r.size) with h2 | h2
   ·rw[jK (by omega)]
    have:=sub_at w r (ts++flatT w ts.length l) (i - l.size) (by omega);rw[lAp,flatT_len]at this;have:=this.app [⟨ks,top,f,(empts w 257).take f++near,ts.length+l.size - 1,ts.length+l.size+r.size - 1,none⟩];simp only[flatT];rw[← zY,← zY];simp only[sl];rw[show ts.length+l.size+(i - l.size)=ts.length+i by omega]at this;exact this
   ·have e:i=l.size+r.size:=by omega
    subst e;have:=flat_at' w (.fork ks f top near l r) ts;rw[Tw.size,show ts.length+(l.size+r.size+1) - 1=ts.length+(l.size+r.size) by omega]at this;simp only[sl];rw[jJ (by omega)];simpa using this
theorem sides {f top:Nat}{near:List Bs}{l r:Tw}(h:(fork ks f top near l r).Ok)(hk:k ∈ ks) :
  (kbit k (256 - f)=true→k ∈ r.keys∧k ∉ l.keys)∧(kbit k (256 - f)=false→k ∈ l.keys∧k ∉ r.keys):=by
 obtain⟨h1,h2,h3,h4,h5,h6,h7,h8,h9,h10,h11,h12,h13,h14⟩:=h;rw[h9,h10,h1];have hs:=side_mem h6 h8 hk
 constructor <;> intro hb
 ·rw[if_pos hb]at hs
  refine⟨hs,fun hm=>?_⟩;have:=qKn h6 h8 k hm;rw[hb]at this;cases this
 ·rw[if_neg (by rw[hb];decide)]at hs
  refine⟨hs,fun hm=>?_⟩;have:=qKo h6 h8 k hm;rw[hb]at this;cases this
def over (f:Nat)(ds near:List Bs):List Bs:=ds.take f++(near++ds.drop (f+near.length))
def Tw.other (t:Tw)(k:Bs):Tw:=match t with | .leaf k' top near a=>.leaf k' top near a | .fork _ f _ _ l r=>if kbit k (256 - f) then l else r
def Tw.next (t:Tw)(k:Bs):Tw:=match t with | .leaf k' top near a=>.leaf k' top near a | .fork _ f _ _ l r=>if kbit k (256 - f) then r else l
theorem over_len {ds near:List Bs}(h:f+near.length≤ds.length):(over f ds near).length=ds.length:=by
 unfold over;simp only[lAp,lTk,lDr];omega
theorem down_leaf {k k':Bs}{top:Nat}{near:List Bs}{a:Option Bs}(h:(Tw.leaf k' top near a).Ok)(he:full=nbrs w (.leaf k' top near a) k++ds.drop top):over 0 ds near=full:=by
 rw[he];unfold over;rw[List.take_zero,List.nil_append,Nat.zero_add,h.2.2.1];rfl
theorem down_fork {f top:Nat}{near:List Bs}{l r:Tw}(h:(Tw.fork ks f top near l r).Ok)(hd:ds.length=256)(he:full=nbrs w (.fork ks f top near l r) k++ds.drop top) :
  full=nbrs w ((Tw.fork ks f top near l r).next k) k++((over f ds near).set (f - 1) (dig w asIs ((Tw.fork ks f top near l r).other k))).drop ((Tw.fork ks f top near l r).next k).top:=by
 have hp:=h.f_pos;obtain⟨h1,h2,h3,h4,h5,h6,h7,h8,h9,h10,h11,h12,h13,h14⟩:=h
 have key:∀ x:Bs,((over f ds near).set (f - 1) x).drop (f - 1)=x::(near++ds.drop top):=by
  intro x;unfold over
  have e:ds.take f=ds.take (f - 1)++[ds.getD (f - 1) []]:=by
   have:=List.take_succ (l:=ds) (i:=f - 1);rw[show f - 1+1=f by omega,List.getElem?_eq_getElem (by omega)]at this;rw[this,qQi _ (by omega)];rfl
  have hl:(ds.take (f - 1)).length=f - 1:=by rw[lTk];omega
  rw[e,zY,List.set_append_right _ _ (by omega),hl,Nat.sub_self,List.drop_left' hl,h4,show f+(top - f)=top by omega];rfl
 rw[he];simp only[nbrs,Tw.next,Tw.other]
 by_cases hb:kbit k (256 - f)=true
 ·rw[if_pos hb,if_pos hb,if_pos hb,h12,key];simp
 ·rw[if_neg hb,if_neg hb,if_neg hb,h11,key];simp
theorem next_ok {f top:Nat}{near:List Bs}{l r:Tw}(h:(Tw.fork ks f top near l r).Ok)(hk:k ∈ ks):((Tw.fork ks f top near l r).next k).Ok∧k ∈ ((Tw.fork ks f top near l r).next k).keys∧((Tw.fork ks f top near l r).other k).Ok:=by
 have hs:=sides h hk;have h13:=h.2.2.2.2.2.2.2.2.2.2.2.2.1;have h14:=h.2.2.2.2.2.2.2.2.2.2.2.2.2;simp only[Tw.next,Tw.other]
 by_cases hb:kbit k (256 - f)=true
 ·rw[if_pos hb,if_pos hb];exact⟨h14,(hs.1 hb).1,h13⟩
 ·rw[if_neg hb,if_neg hb];exact⟨h13,(hs.2 (by simpa using hb)).1,h14⟩
def Tw.endT:Tw→Bs→Tw
 | .leaf k' top near a,_=>.leaf k' top near a
 | .fork _ f _ _ l r,k=>if kbit k (256 - f) then r.endT k else l.endT k
theorem endT_leaf:∀ (t:Tw) (k:Bs),∃ k' top near,t.endT k=.leaf k' top near (t.at k)
 | .leaf k' top near a,_=>⟨k',top,near,rfl⟩
 | .fork _ f _ _ l r,k=>by
  simp only[Tw.endT,Tw.at];split
  ·exact endT_leaf r k
  ·exact endT_leaf l k
theorem sub_ok:∀ {t:Tw},t.Ok→∀ s ∈ subT t,s.Ok
 | .leaf k top near a,h,s,hs=>by
  have:s=.leaf k top near a:=by simpa [subT] using hs
  subst this;exact h
 | .fork ks f top near l r,h,s,hs=>by
  simp only[subT,List.mem_append,List.mem_singleton]at hs
  rcases hs with hs | hs | rfl
  ·exact sub_ok h.2.2.2.2.2.2.2.2.2.2.2.2.1 s hs
  ·exact sub_ok h.2.2.2.2.2.2.2.2.2.2.2.2.2 s hs
  ·exact h
end Wit
end
end Go.V
