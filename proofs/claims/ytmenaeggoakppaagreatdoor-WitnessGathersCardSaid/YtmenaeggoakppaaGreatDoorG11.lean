/- Helpers. -/
import Derived.Test.YtmenaeggoakppaaGreatDoorG10
set_option linter.all false
set_option maxRecDepth 100000
set_option maxHeartbeats 8000000
open List renaming append_assoc→zW,range→zQ,getElem?_append_left→zL,getElem?_eq_getElem→xO,take_append_drop→jJ,length_singleton→jK,getElem?_eq_none→jV,map_congr_left→jW
open Option renaming map_some→qK
namespace Go.V
variable {k:Bs} {w:Int} {ds full ks:List Bs} {f:Nat} {a:Option Bs}
section
namespace Wit
open Tw
theorem nbrs_len (w:Int):∀ {t:Tw} (k:Bs),t.Ok→(nbrs w t k).length=t.top
 | .leaf _ _ _ _,_,h=>h.2.2.1
 | .fork ks f top near l r,k,h=>by
  have hp:=h.f_pos;obtain⟨h1,h2,h3,h4,h5,h6,h7,h8,h9,h10,h11,h12,h13,h14⟩:=h;simp only[nbrs,Tw.top]
  split <;> simp only[lAp,jK,h4]
  ·rw[nbrs_len w k h14,h12];omega
  ·rw[nbrs_len w k h13,h11];omega
theorem nbrs_all (w:Int):∀ {t:Tw} (k:Bs),t.Ok→All32 (nbrs w t k)
 | .leaf _ _ _ _,_,h=>h.2.2.2.1
 | .fork ks f top near l r,k,h=>by
  obtain⟨h1,h2,h3,h4,h5,h6,h7,h8,h9,h10,h11,h12,h13,h14⟩:=h;simp only[nbrs];split
  ·exact ((nbrs_all w k h14).app (All32.one (dig_len _ _ _))).app h5
  ·exact ((nbrs_all w k h13).app (All32.one (dig_len _ _ _))).app h5
theorem side_mem (h:Asc ks)(h2:2≤ks.length)(hk:k ∈ ks):k ∈ (if kbit k (256 - frm ks) then ks.drop (lefts ks) else ks.take (lefts ks)):=by
 rw[← jJ (lefts ks) ks]at hk
 rcases List.mem_append.1 hk with hk | hk
 ·rw[bit_take h h2 k hk];exact hk
 ·rw[bit_drop h h2 k hk];exact hk
theorem at_len:∀ {t:Tw} (k:Bs),t.Ok→∀ v,t.at k=some v→v.length≤128
 | .leaf _ _ _ _,_,h,v,hv=>h.2.2.2.2 v hv
 | .fork ks f top near l r,k,h,v,hv=>by
  obtain⟨h1,h2,h3,h4,h5,h6,h7,h8,h9,h10,h11,h12,h13,h14⟩:=h;simp only[Tw.at]at hv;split at hv
  ·exact at_len k h14 v hv
  ·exact at_len k h13 v hv
def Tdy (w:Int):Tw→Prop
 | .leaf _ _ near _=>∀ d ∈ near,cutD w d=d
 | .fork _ _ _ near l r=>(∀ d ∈ near,cutD w d=d)∧Tdy w l∧Tdy w r
theorem cutD_cutD (w:Int)(d:Bs):cutD w (cutD w d)=cutD w d:=by
 refine List.ext_getElem (by rw[qXr,qXr]) fun i h1 h2=>?_;rw[qXr]at h1 h2;have h3:(cutD w d).getD i 0=(cutD w d)[i]'(by rw[qXr];exact h1):=qQi 0 _;simp only[cutD,List.getElem_map,List.getElem_range]at h3 ⊢;split
 ·rename_i h;rw[h3,if_pos h]
 ·rfl
theorem hcut_tdy (w:Int)(t:Bs):cutD w (hcut w t)=hcut w t:=cutD_cutD w _
theorem emptD_tdy (w:Int)(h:Nat):cutD w (emptD w h)=emptD w h:=by cases h <;> exact hcut_tdy _ _
theorem qKp {w:Int}:∀ {gs:List (Nat × Bs)},chk w gs=0 ↔ ∀ q ∈ gs,cutD w q.2=q.2∧q.2≠emptD w q.1
 | []=>by simp[chk]
 | p::gs=>by
  simp only[chk]
  by_cases h1:p.2=cutD w p.2
  ·rw[if_neg (by simpa using h1)]
   by_cases h2:p.2=emptD w p.1
   ·rw[if_pos h2]
    constructor
    ·intro h;cases h
    ·intro h;exact absurd h2 (h p (by simp)).2
   ·rw[if_neg h2,qKp]
    constructor
    ·intro h q hq
     rcases List.mem_cons.1 hq with rfl | hq
     ·exact⟨h1.symm,h2⟩
     ·exact h q hq
    ·intro h q hq;exact h q (by simp[hq])
  ·rw[if_pos h1]
   constructor
   ·intro h;cases h
   ·intro h;exact absurd (h p (by simp)).1.symm h1
theorem chk_app {a b:List (Nat × Bs)}:chk w (a++b)=0 ↔ chk w a=0∧chk w b=0:=by
 rw[qKp,qKp,qKp];constructor
 ·intro h;exact⟨fun q hq=>h q (by simp[hq]),fun q hq=>h q (by simp[hq])⟩
 ·rintro⟨h1,h2⟩ q hq
  rcases List.mem_append.1 hq with hq | hq
  ·exact h1 q hq
  ·exact h2 q hq
theorem fill_tdy {w:Int}(f:Nat):∀ (gs:List (Nat × Bs)) (b:List Bs),(∀ d ∈ b,cutD w d=d)→(∀ q ∈ gs,cutD w q.2=q.2)→∀ d ∈ fill f b gs,cutD w d=d
 | [],_,h,_=>h
 | p::gs, b, h, k=>fill_tdy f gs _ (fun d hd=>by
   rcases List.mem_or_eq_of_mem_set hd with hd | rfl
   ·exact h d hd
   ·exact k p (by simp)) fun q hq=>k q (by simp[hq])
theorem nearP_tdy {f top:Nat}{bs:Bs}{p:List Bs × List (Nat × Bs) × Bs}(h:nearP w f top bs=some p)(hc:chk w p.2.1=0):∀ d ∈ p.1,cutD w d=d:=by
 unfold nearP at h;split at h
 ·cases h
 ·obtain⟨q,hq,rfl⟩:=Option.map_eq_some_iff.1 h
  refine fill_tdy _ _ _ (fun d hd=>?_) fun x hx=>(qKp.1 hc x hx).1;obtain⟨i,_,rfl⟩:=List.mem_map.1 (List.mem_of_mem_drop (List.mem_of_mem_take hd));exact emptD_tdy _ _
theorem parse_tdy:∀ {n:Nat} {ks:List Bs} {top:Nat} {bs:Bs} {p:Tw × List (Nat × Bs) × Bs},parse w n ks top bs=some p→chk w p.2.1=0→Tdy w p.1:=by
 intro n
 induction n with
 | zero=>intro ks top bs p h;cases h
 | succ n ih =>
  intro ks top bs p h hc;simp only[parse]at h;split at h
  ·cases h
  split at h
  ·cases h
  split at h
  ·obtain⟨a,h3,h⟩:=Option.bind_eq_some_iff.1 h
   obtain⟨b,h4,h⟩:=Option.bind_eq_some_iff.1 h;obtain⟨c,h5,rfl⟩:=Option.map_eq_some_iff.1 h;obtain⟨c1,c2⟩:=chk_app.1 hc;obtain⟨c2,c3⟩:=chk_app.1 c2;exact⟨nearP_tdy h3 c1,ih h4 c2,ih h5 c3⟩
  ·obtain⟨a,h3,h⟩:=Option.bind_eq_some_iff.1 h
   obtain⟨b,h4,rfl⟩:=Option.map_eq_some_iff.1 h;exact nearP_tdy h4 hc
theorem gl_ne {w:Int}:∀ {near:List Bs} {h:Nat},∀ q ∈ gl w h near,q.2 ∈ near∧q.2≠emptD w q.1
 | [],_,_,hq=>by cases hq
 | d::r,h,q,hq=>by
  simp only[gl]at hq;split at hq
  ·have:=gl_ne q hq;exact⟨by simp[this.1],this.2⟩
  ·rename_i hd
   rcases List.mem_cons.1 hq with rfl | hq
   ·exact⟨by simp,hd⟩
   ·have:=gl_ne q hq;exact⟨by simp[this.1],this.2⟩
theorem gvs_chk {w:Int}:∀ {t:Tw},Tdy w t→chk w (gvs w t)=0
 | .leaf _ _ _ _,h=>qKp.2 fun q hq=>⟨h _ (gl_ne q hq).1,(gl_ne q hq).2⟩
 | .fork _ _ _ _ _ _,h=>by
  simp only[gvs];rw[chk_app,chk_app];exact⟨qKp.2 fun q hq=>⟨h.1 _ (gl_ne q hq).1,(gl_ne q hq).2⟩,gvs_chk h.2.1,gvs_chk h.2.2⟩
theorem form_txt {t:Tw}(h:t.Ok)(hd:Tdy w t)(ht:t.top=256):form w t.keys (txt w t)=.ok (some t):=by
 unfold form;have hp:=h.keys_pos;rw[if_neg (List.length_pos_iff.1 hp)];have:=parse_txt (w:=w) (t:=t) (n:=t.keys.length) [] h (Nat.le_refl _);rw[List.append_nil,ht]at this;rw[this];simp only[ne_eq,not_true_eq_false,if_false,gvs_chk hd]
theorem form_tdy {raw:Bs}{t:Tw}(ha:Asc ks)(hk:All32 ks)(h:form w ks raw=.ok (some t)):Tdy w t:=by
 obtain⟨_,_,_,gs,h1,h2⟩:=form_ok ha hk h;exact parse_tdy h1 h2
def part (w:Int)(t:Tw)(k:Bs):Tw:=.leaf k 256 (nbrs w t k) (t.at k)
theorem part_ok {t:Tw}(h:t.Ok)(ht:t.top=256)(hk:k ∈ t.keys):(part w t k).Ok :=
 ⟨h.all k hk,Nat.le_refl _,by rw[nbrs_len w k h,ht],nbrs_all w k h,at_len k h⟩
end Wit
end
section
namespace Wit
open Tw
structure Tx where
 keys:List Bs
 top:Nat
 fr:Nat
 near:List Bs
 left:Nat
 right:Nat
 ans:Option Bs
def Tw.size:Tw→Nat
 | .leaf _ _ _ _=>1
 | .fork _ _ _ _ l r=>l.size+r.size+1
theorem Tw.size_pos:∀ t:Tw,0<t.size
 | .leaf _ _ _ _=>by simp[Tw.size]
 | .fork _ _ _ _ _ _=>by simp[Tw.size]
def flatT (w:Int):Nat→Tw→List Tx
 | _,.leaf k top near a=>[⟨[k],top,0,near,0,0,a⟩]
 | n,.fork ks f top near l r=>flatT w n l++(flatT w (n+l.size) r++[⟨ks,top,f,(empts w 257).take f++near,n+l.size - 1,n+l.size+r.size - 1,none⟩])
theorem flatT_len (w:Int):∀ (t:Tw) (n:Nat),(flatT w n t).length=t.size
 | .leaf _ _ _ _,_=>rfl
 | .fork _ _ _ _ l r,n=>by simp only[flatT,lAp,flatT_len w l,flatT_len w r,Tw.size,jK];omega
def TxAt (w:Int)(ts:List Tx):Nat→Tw→Prop
 | i,.leaf k top near a=>ts[i]?=some ⟨[k],top,0,near,0,0,a⟩
 | i,.fork ks f top near l r=>∃ li ri,ts[i]?=some ⟨ks,top,f,(empts w 257).take f++near,li,ri,none⟩∧TxAt w ts li l∧TxAt w ts ri r
theorem TxAt.app {w:Int}{ts:List Tx}(us:List Tx):∀ {t:Tw} {i:Nat},TxAt w ts i t→TxAt w (ts++us) i t
 | .leaf _ _ _ _,i,h=>by
  have h:ts[i]?=_:=h;have:i<ts.length:=(List.getElem?_eq_some_iff.1 h).1;show (ts++us)[i]?=_;rw[zL this];exact h
 | .fork _ _ _ _ l r,i,h=>by
  obtain⟨li,ri,h1,h2,h3⟩:=h;have:i<ts.length:=(List.getElem?_eq_some_iff.1 h1).1;exact⟨li,ri,by rw[zL this];exact h1,h2.app us,h3.app us⟩
theorem flat_at' (w:Int):∀ (t:Tw) (ts:List Tx),TxAt w (ts++flatT w ts.length t) (ts.length+t.size - 1) t
 | .leaf _ _ _ _,ts=>by simp[TxAt,flatT,Tw.size]
 | .fork ks f top near l r,ts=>by
  have hl:=l.size_pos;have hr:=r.size_pos;have h1:=(flat_at' w l ts).app (flatT w (ts.length+l.size) r++[⟨ks,top,f,(empts w 257).take f++near,ts.length+l.size - 1,ts.length+l.size+r.size - 1,none⟩]);have h2:=flat_at' w r (ts++flatT w ts.length l);rw[lAp,flatT_len]at h2;have h2:=h2.app [⟨ks,top,f,(empts w 257).take f++near,ts.length+l.size - 1,ts.length+l.size+r.size - 1,none⟩];refine⟨ts.length+l.size - 1,ts.length+l.size+r.size - 1,?_,?_,?_⟩
  ·simp only[flatT,Tw.size]
   rw[← zW,← zW,List.getElem?_append_right (by simp only[lAp,flatT_len];omega)];simp only[lAp,flatT_len];rw[show ts.length+(l.size+r.size+1) - 1 - (ts.length+l.size+r.size)=0 by omega];rfl
  ·simp only[flatT];rw[zW]at h1;exact h1
  ·simp only[flatT]
   rw[← zW,← zW];rw[show ts.length+l.size+r.size - 1=ts.length+l.size+r.size - 1 from rfl];exact h2
theorem sides {f top:Nat}{near:List Bs}{l r:Tw}(h:(fork ks f top near l r).Ok)(hk:k ∈ ks) :
  (kbit k (256 - f)=true→k ∈ r.keys∧k ∉ l.keys)∧(kbit k (256 - f)=false→k ∈ l.keys∧k ∉ r.keys):=by
 obtain⟨h1,h2,h3,h4,h5,h6,h7,h8,h9,h10,h11,h12,h13,h14⟩:=h;rw[h9,h10,h1];have hs:=side_mem h6 h8 hk
 constructor <;> intro hb
 ·rw[if_pos hb]at hs
  refine⟨hs,fun hm=>?_⟩;have:=bit_take h6 h8 k hm;rw[hb]at this;cases this
 ·rw[if_neg (by rw[hb];decide)]at hs
  refine⟨hs,fun hm=>?_⟩;have:=bit_drop h6 h8 k hm;rw[hb]at this;cases this
def over (f:Nat)(ds near:List Bs):List Bs:=ds.take f++(near++ds.drop (f+near.length))
def Tw.other (t:Tw)(k:Bs):Tw:=match t with | .leaf k' top near a=>.leaf k' top near a | .fork _ f _ _ l r=>if kbit k (256 - f) then l else r
def Tw.next (t:Tw)(k:Bs):Tw:=match t with | .leaf k' top near a=>.leaf k' top near a | .fork _ f _ _ l r=>if kbit k (256 - f) then r else l
theorem over_len {ds near:List Bs}(h:f+near.length≤ds.length):(over f ds near).length=ds.length:=by
 unfold over;simp only[lAp,lTk,lDr];omega
theorem down_leaf {k k':Bs}{top:Nat}{near:List Bs}(h:(Tw.leaf k' top near a).Ok)(he:full=nbrs w (.leaf k' top near a) k++ds.drop top):over 0 ds near=full:=by
 rw[he];unfold over;rw[List.take_zero,List.nil_append,Nat.zero_add,h.2.2.1];rfl
theorem down_fork {f top:Nat}{near:List Bs}{l r:Tw}(h:(Tw.fork ks f top near l r).Ok)(hd:ds.length=256)(he:full=nbrs w (.fork ks f top near l r) k++ds.drop top) :
  full=nbrs w ((Tw.fork ks f top near l r).next k) k++((over f ds near).set (f - 1) (dig w asIs ((Tw.fork ks f top near l r).other k))).drop ((Tw.fork ks f top near l r).next k).top:=by
 have hp:=h.f_pos;obtain⟨h1,h2,h3,h4,h5,h6,h7,h8,h9,h10,h11,h12,h13,h14⟩:=h
 have key:∀ x:Bs,((over f ds near).set (f - 1) x).drop (f - 1)=x::(near++ds.drop top):=by
  intro x;unfold over
  have e:ds.take f=ds.take (f - 1)++[ds.getD (f - 1) []]:=by
   have:=List.take_succ (l:=ds) (i:=f - 1);rw[show f - 1+1=f by omega,xO (by omega)]at this;rw[this,qQi _ (by omega)];rfl
  have hl:(ds.take (f - 1)).length=f - 1:=by rw[lTk];omega
  rw[e,zW,List.set_append_right _ _ (by omega),hl,Nat.sub_self,List.drop_left' hl,h4,show f+(top - f)=top by omega];rfl
 rw[he];simp only[nbrs,Tw.next,Tw.other]
 by_cases hb:kbit k (256 - f)=true
 ·rw[if_pos hb,if_pos hb,if_pos hb,h12,key];simp
 ·rw[if_neg hb,if_neg hb,if_neg hb,h11,key];simp
theorem next_ok {f top:Nat}{near:List Bs}{l r:Tw}(h:(Tw.fork ks f top near l r).Ok)(hk:k ∈ ks):((Tw.fork ks f top near l r).next k).Ok∧k ∈ ((Tw.fork ks f top near l r).next k).keys∧((Tw.fork ks f top near l r).other k).Ok:=by
 have hs:=sides h hk;have h13:=h.2.2.2.2.2.2.2.2.2.2.2.2.1;have h14:=h.2.2.2.2.2.2.2.2.2.2.2.2.2;simp only[Tw.next,Tw.other]
 by_cases hb:kbit k (256 - f)=true
 ·rw[if_pos hb,if_pos hb];exact⟨h14,(hs.1 hb).1,h13⟩
 ·rw[if_neg hb,if_neg hb];exact⟨h13,(hs.2 (by simpa using hb)).1,h14⟩
def Tw.endT:Tw→Bs→Tw
 | .leaf k' top near a,_=>.leaf k' top near a
 | .fork _ f _ _ l r,k=>if kbit k (256 - f) then r.endT k else l.endT k
theorem endT_leaf:∀ (t:Tw) (k:Bs),∃ k' top near,t.endT k=.leaf k' top near (t.at k)
 | .leaf k' top near a,_=>⟨k',top,near,rfl⟩
 | .fork _ f _ _ l r,k=>by
  simp only[Tw.endT,Tw.at];split
  ·exact endT_leaf r k
  ·exact endT_leaf l k
end Wit
end
namespace Wit
def poss (bits:Bs):Nat→Nat→List Nat
 | 0,_=>[]
 | n+1,g=>if mbit bits g=false then poss bits n (g+1) else g::poss bits n (g+1)
theorem poss_step (bits:Bs)(n g:Nat):poss bits (n+1) g=if mbit bits g=false then poss bits n (g+1) else g::poss bits n (g+1):=rfl
def chunk:Nat→Bs→List Bs
 | 0,_=>[]
 | n+1,bs=>bs.take 32::chunk n (bs.drop 32)
theorem chunk_len:∀ (n:Nat) (bs:Bs),(chunk n bs).length=n
 | 0,_=>rfl
 | n+1,bs=>by simp[chunk,chunk_len n]
theorem chunk_all:∀ (n:Nat) (bs:Bs),32*n≤bs.length→All32 (chunk n bs)
 | 0,_,_=>All32.nil
 | n+1,bs,h=>fun d hd=>by
  rcases List.mem_cons.1 hd with rfl | hd
  ·rw[lTk];omega
  ·exact chunk_all n _ (by rw[lDr];omega) d hd
theorem poss_add (bits:Bs):∀ (n m g:Nat),poss bits (n+m) g=poss bits n g++poss bits m (g+n)
 | 0,m,g=>by simp[poss]
 | n+1,m,g=>by
  rw[show n+1+m=(n+m)+1 by omega];rw[poss_step,poss_step,poss_add bits n m (g+1),show g+1+n=g+(n+1) by omega]
  split <;> simp
theorem poss_snoc (bits:Bs)(n g:Nat):poss bits (n+1) g=poss bits n g++(if mbit bits (g+n)=false then [] else [g+n]):=by
 rw[poss_add bits n 1 g]
 rfl
theorem gvP_poss {bits:Bs}:∀ (n g:Nat) (bs:Bs),g+n≤256→gvP 0 256 bits n g bs=if bs.length<32*(poss bits n g).length then none else some ((poss bits n g).zip (chunk (poss bits n g).length bs),bs.drop (32*(poss bits n g).length))
 | 0,g,bs,_=>by simp[gvP,poss]
 | n+1,g,bs,h=>by
  unfold gvP;rw[poss_step]
  by_cases hb:mbit bits g=false
  ·simp only[if_pos hb];exact gvP_poss n (g+1) bs (by omega)
  ·simp only[if_neg hb]
   rw[gvP_poss n (g+1) (bs.drop 32) (by omega),lDr,List.length_cons]
   by_cases h1:bs.length<32
   ·rw[if_pos (.inl h1),if_pos (by omega)]
   ·rw[if_neg (show ¬ (bs.length<32∨g<0∨256≤g) by omega)]
    by_cases h2:bs.length<32*((poss bits n (g+1)).length+1)
    ·rw[if_pos (by omega),if_pos h2];rfl
    ·rw[if_neg (by omega),if_neg h2]
     simp only[qK,chunk,List.zip_cons_cons,List.drop_drop]
     congr 3
     omega
def decP (raw:Bs):Option (Option Bs × Bs × List Bs) :=
 if raw.length<1 then none
 else if 1<(raw.getD 0 0).toNat then none
 else (ansP (raw.getD 0 0).toNat (raw.drop 1)).bind fun p =>
  if p.2.length<32 then none
  else if p.2.length - 32≠32*(poss (p.2.take 32) 256 0).length then none
  else some (p.1,p.2.take 32,chunk (poss (p.2.take 32) 256 0).length (p.2.drop 32))
def gsOf (bits:Bs)(sums:List Bs):List (Nat × Bs):=(poss bits 256 0).zip sums
def nearH (w:Int)(bits:Bs)(sums:List Bs)(h:Nat):Bs:=if mbit bits h=false then emptD w h else sums.getD (poss bits h 0).length []
def nearL (w:Int)(bits:Bs)(sums:List Bs):List Bs:=(zQ 256).map (nearH w bits sums)
theorem fill_near (w:Int)(bits:Bs)(sums:List Bs)(hs:sums.length=(poss bits 256 0).length):fill 0 (((empts w 257).drop 0).take (256 - 0)) (gsOf bits sums)=nearL w bits sums:=by
 have key:∀ n,n≤256→fill 0 ((zQ 256).map (emptD w)) ((poss bits n 0).zip sums)=(zQ 256).map fun h=>if h<n then nearH w bits sums h else emptD w h:=by
  intro n
  induction n with
  | zero=>intro _;simp[poss,fill]
  | succ n ih =>
   intro hn;have ih:=ih (by omega);rw[poss_snoc,Nat.zero_add]
   by_cases hb:mbit bits n=false
   ·rw[if_pos hb,List.append_nil,ih]
    apply jW;intro h _
    by_cases e:h=n
    ·subst e
     rw[if_neg (by omega),if_pos (by omega),nearH,if_pos hb]
    ·by_cases h1:h<n
     ·rw[if_pos h1,if_pos (by omega)]
     ·rw[if_neg h1,if_neg (by omega)]
   ·have hlt:(poss bits n 0).length<sums.length:=by
     rw[hs,show 256=n+(1+(255 - n)) by omega,poss_add,poss_add];have:(poss bits 1 (0+n)).length=1:=by simp[poss,hb]
     simp only[lAp,this];omega
    rw[if_neg hb]
    have hz:(poss bits n 0++[n]).zip sums=(poss bits n 0).zip sums++[(n,sums.getD (poss bits n 0).length [])]:=by
     have hz1:sums=sums.take (poss bits n 0).length++sums.drop (poss bits n 0).length:=(jJ _ _).symm
     have hz2:(poss bits n 0).zip sums=(poss bits n 0).zip (sums.take (poss bits n 0).length):=by
      rw[List.zip_eq_zip_take_min,Nat.min_eq_left (by omega),List.take_length]
     rw[hz2]
     conv=>lhs;rw[hz1]
     rw[List.zip_append (by rw[lTk];omega)]
     congr 1
     rw[List.drop_eq_getElem_cons hlt,gDq,xO hlt]
     rfl
    rw[hz];unfold fill at ih ⊢;rw[List.foldl_append,ih];simp only[List.foldl_cons,List.foldl_nil,Nat.sub_zero];apply List.ext_getElem?;intro h;rw[List.getElem?_set]
    by_cases h256:h<256
    ·by_cases e:n=h
     ·subst e
      rw[if_pos rfl,if_pos (by simp;omega)];simp[h256,nearH,hb]
     ·rw[if_neg e]
      simp only[List.getElem?_map,List.getElem?_range h256,qK,oSi]
      by_cases h1:h<n
      ·rw[if_pos h1,if_pos (by omega)]
      ·rw[if_neg h1,if_neg (by omega)]
    ·rw[if_neg (by omega),jV (by simp;omega),jV (by simp;omega)]
 have h:=key 256 (Nat.le_refl _)
 have e:((empts w 257).drop 0).take (256 - 0)=(zQ 256).map (emptD w):=by
  have:=empts_part w (f:=0) (top:=256) (by omega) (by omega);rw[this];simp
 rw[e];unfold gsOf nearL;rw[h];apply jW;intro x hx;rw[if_pos (List.mem_range.1 hx)]
theorem decP_ok {raw:Bs}{bits:Bs}{sums:List Bs}(h:decP raw=some (a,bits,sums)):bits.length=32∧sums.length=(poss bits 256 0).length∧All32 sums∧∀ v,a=some v→v.length≤128:=by
 unfold decP at h;split at h
 ·cases h
 split at h
 ·cases h
 obtain⟨p,hp,h⟩:=Option.bind_eq_some_iff.1 h;split at h
 ·cases h
 split at h
 ·cases h
 rename_i h1 h2;simp only[oSi,Prod.mk.injEq]at h;obtain⟨rfl,rfl,rfl⟩:=h;refine⟨by rw[lTk];omega,chunk_len _ _,chunk_all _ _ (by rw[lDr];omega),fun v hv=>?_⟩;unfold ansP at hp;split at hp
 ·simp only[oSi]at hp;subst hp;cases hv
 split at hp
 ·cases hp
 split at hp
 ·cases hp
 split at hp
 ·cases hp
 simp only[oSi]at hp;subst hp;simp only[oSi]at hv;subst hv;rw[lTk];omega
theorem form_dec (wd:Int)(k raw:Bs):form wd [k] raw=match decP raw with
  | none=>.error 120
  | some (a,bits,sums)=>if chk wd (gsOf bits sums)≠0 then .error (chk wd (gsOf bits sums)) else .ok (some (.leaf k 256 (nearL wd bits sums) a)):=by
 have e:parse wd 1 [k] 256 raw=if raw.length<1 then none else if 1<(raw.getD 0 0).toNat then none else (ansP (raw.getD 0 0).toNat (raw.drop 1)).bind fun p=>(nearP wd 0 256 p.2).map fun q=>(.leaf k 256 q.1 p.1,q.2.1,q.2.2):=by
  unfold parse
  by_cases h1:raw.length<1
  ·rw[if_pos h1,if_pos h1]
  rw[if_neg h1,if_neg h1]
  by_cases h2:1<(raw.getD 0 0).toNat
  ·rw[if_pos h2,if_pos]
   by_cases h3:(raw.getD 0 0).toNat > 2
   ·exact .inl h3
   ·exact .inr fun h=>by have:=h.1 (by omega);simp at this
  ·rw[if_neg h2,if_neg,if_neg (by omega)]
   ·rfl
   ·rintro (h | h)
    ·omega
    ·exact h ⟨fun h=>by omega,fun h=>by simp at h⟩
 unfold form;rw[if_neg (by simp),show ([k]:List Bs).length=1 from rfl,e];unfold decP
 by_cases h1:raw.length<1
 ·rw[if_pos h1,if_pos h1]
 rw[if_neg h1,if_neg h1]
 by_cases h2:1<(raw.getD 0 0).toNat
 ·rw[if_pos h2,if_pos h2]
 rw[if_neg h2,if_neg h2]
 cases hA:ansP (raw.getD 0 0).toNat (raw.drop 1) with
 | none=>rfl
 | some p =>
  obtain⟨a,s⟩:=p;simp only[Option.bind_some];unfold nearP
  by_cases h3:s.length<32
  ·rw[if_pos h3,if_pos h3];rfl
  rw[if_neg h3,if_neg h3,gvP_poss 256 0 _ (by omega),lDr]
  by_cases h4:s.length - 32<32*(poss (s.take 32) 256 0).length
  ·rw[if_pos h4,if_pos (by omega)];rfl
  rw[if_neg h4];simp only[qK]
  by_cases h5:s.length - 32≠32*(poss (s.take 32) 256 0).length
  ·rw[if_pos h5,if_pos]
   intro h;have:=congrArg List.length h;simp at this;omega
  ·rw [if_neg h5, if_neg (by
     intro h; apply h; apply List.drop_of_length_le
     rw [lDr]; omega)]
   have hf:=fill_near wd (s.take 32) (chunk (poss (s.take 32) 256 0).length (s.drop 32)) (chunk_len _ _);unfold gsOf at hf;simp only[hf]
   rfl
end Wit
end Go.V
