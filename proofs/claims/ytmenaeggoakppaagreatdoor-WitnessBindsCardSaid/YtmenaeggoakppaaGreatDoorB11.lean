/-
 Helpers: WitB, WitC, DecP, WitR.
-/
import Derived.Test.YtmenaeggoakppaaGreatDoorB10
set_option linter.all false
section
namespace Go.V
namespace Wit
open Tw
theorem fill_len (f:Nat):∀ (gs:List (Nat × Bs)) (b:List Bs),(fill f b gs).length=b.length
 | [],_=>rfl
 | p::gs,b=>by
  show (fill f (b.set (p.1 - f) p.2) gs).length=_
  rw[fill_len f gs,List.length_set]
theorem fill_all (f:Nat):∀ (gs:List (Nat × Bs)) (b:List Bs),All32 b→(∀ q ∈ gs,q.2.length=32)→All32 (fill f b gs)
 | [],_,h,_=>h
 | p::gs,b,h,k=>fill_all f gs _ (h.set _ (k p (by simp))) fun q hq=>k q (by simp[hq])
theorem gvP_spec {f top:Nat} {bits:Bs}:∀ {n g:Nat} {bs:Bs} {p:List (Nat × Bs) × Bs},gvP f top bits n g bs=some p→∀ q ∈ p.1,f≤q.1∧q.1<top∧q.2.length=32:=by
 intro n
 induction n with
 | zero=>intro g bs p h;simp only[gvP,Option.some.injEq] at h;subst h;intro q hq;cases hq
 | succ n ih =>
  intro g bs p h
  simp only[gvP] at h
  split at h
  ·exact ih h
  ·split at h
   ·cases h
   ·rename_i h1
    obtain⟨q,hq,rfl⟩:=Option.map_eq_some_iff.1 h
    intro x hx
    rcases List.mem_cons.1 hx with rfl | hx
    ·refine⟨by omega,by omega,?_⟩
     show (bs.take 32).length=32
     rw[List.length_take];omega
    ·exact ih hq x hx
theorem empts32 (w:Int) (n:Nat):All32 (empts w n):=fun d hd=>by
 obtain⟨i,_,rfl⟩:=List.mem_map.1 hd;exact emptD_len _ _
theorem nearP_ok {w : Int} {f top : Nat} {bs : Bs} {p : List Bs × List (Nat × Bs) × Bs} (ht : top ≤ 256) (h : nearP w f top bs = some p) :
    p.1.length = top - f ∧ All32 p.1 ∧ ∀ q ∈ p.2.1,f ≤ q.1 ∧ q.1 < top ∧ q.2.length = 32 := by
 unfold nearP at h
 split at h
 ·cases h
 ·obtain⟨q,hq,rfl⟩:=Option.map_eq_some_iff.1 h
  have h1:=gvP_spec hq
  refine⟨?_,fill_all _ _ _ (((empts32 _ _).drop _).take _) fun x hx=>(h1 x hx).2.2,h1⟩
  rw[fill_len,List.length_take,List.length_drop,empts_len];omega
theorem parse_ok {w : Int} : ∀ {n : Nat} {ks : List Bs} {top : Nat} {bs : Bs} {p : Tw × List (Nat × Bs) × Bs}, Asc ks → All32 ks → 0 < ks.length → Shr (256 - top) ks → top ≤ 256 → parse w n ks top bs = some p →
    p.1.Ok ∧ p.1.keys = ks ∧ p.1.top = top ∧ ∀ q ∈ p.2.1,q.1 < 256 ∧ q.2.length = 32 := by
 intro n
 induction n with
 | zero=>intro ks top bs p _ _ _ _ _ h;cases h
 | succ n ih =>
  intro ks top bs p ha hk h0 hs ht h
  simp only[parse] at h
  split at h
  ·cases h
  split at h
  ·cases h
  rename_i hc
  split at h
  ·rename_i h2
   have hl:2≤ks.length:=by
    by_cases hl:1<ks.length
    ·exact hl
    ·exact absurd (Or.inr fun e=>hl (e.1 h2)) hc
   obtain⟨a,h3,h⟩:=Option.bind_eq_some_iff.1 h
   obtain⟨b,h4,h⟩:=Option.bind_eq_some_iff.1 h
   obtain⟨c,h5,rfl⟩:=Option.map_eq_some_iff.1 h
   have hf:=frm_bound ha hs (by omega)
   have hp:=frm_pos ha hl
   obtain⟨a1,a2,a3⟩:=nearP_ok ht h3
   have hlt:=lefts_lt ha hl
   have hlp:=lefts_pos ha hl
   obtain⟨b1,b2,b3,b4⟩:=ih (ha.take _) (hk.take _) (by rw[List.length_take];omega) (by rw[show 256 - (frm ks - 1)=257 - frm ks by have:=frm_le ha hl;omega];exact shr_take ha hl) (by omega) h4
   obtain⟨c1,c2,c3,c4⟩:=ih (ha.drop _) (hk.drop _) (by rw[List.length_drop];omega) (by rw[show 256 - (frm ks - 1)=257 - frm ks by have:=frm_le ha hl;omega];exact shr_drop ha hl) (by omega) h5
   refine⟨⟨rfl,by omega,ht,a1,a2,ha,hk,hl,b2,c2,b3,c3,b1,c1⟩,rfl,rfl,fun q hq=>?_⟩
   rcases List.mem_append.1 hq with hq | hq
   ·have:=a3 q hq;exact⟨by omega,this.2.2⟩
   ·rcases List.mem_append.1 hq with hq | hq
    ·exact b4 q hq
    ·exact c4 q hq
  ·rename_i h2
   have hl:ks.length=1:=by
    by_cases hl:1<ks.length
    ·exact absurd (Or.inr fun e=>h2 (e.2 hl)) hc
    ·omega
   obtain⟨a,h3,h⟩:=Option.bind_eq_some_iff.1 h
   obtain⟨b,h4,rfl⟩:=Option.map_eq_some_iff.1 h
   obtain⟨b1,b2,b3⟩:=nearP_ok ht h4
   obtain⟨k,rfl⟩:=List.length_eq_one_iff.1 hl
   refine⟨⟨hk.head,ht,b1,b2,fun v hv=>?_⟩,rfl,rfl,fun q hq=>?_⟩
   ·unfold ansP at h3
    split at h3
    ·simp only[Option.some.injEq] at h3;subst h3;cases hv
    split at h3
    ·cases h3
    split at h3
    ·cases h3
    split at h3
    ·cases h3
    simp only[Option.some.injEq] at h3;subst h3
    simp only[Option.some.injEq] at hv;subst hv
    rw[List.length_take];omega
   ·have:=b3 q hq;exact⟨by omega,this.2.2⟩
theorem form_ok {w:Int} {ks:List Bs} {raw:Bs} {t:Tw} (ha:Asc ks) (hk:All32 ks) (h:form w ks raw=.ok (some t)):t.Ok∧t.keys=ks∧t.top=256∧∃ gs,parse w ks.length ks 256 raw=some (t,gs,[])∧chk w gs=0:=by
 unfold form at h
 split at h
 ·split at h <;> cases h
 ·rename_i h0
  split at h
  ·cases h
  ·rename_i p hp
   split at h
   ·cases h
   ·split at h
    ·cases h
    ·rename_i h1 h2
     simp only[Except.ok.injEq,Option.some.injEq] at h
     subst h
     obtain⟨p1,p2,p3⟩:=p
     have hz:p3=[]:=by simpa using h1
     subst hz
     obtain⟨a,b,c,_⟩:=parse_ok ha hk (List.length_pos_iff.2 h0) (by rw[Nat.sub_self];exact shr_zero ks) (Nat.le_refl _) hp
     exact⟨a,b,c,p2,hp,by simpa using h2⟩
/-- the neighbours that are not empty, with their heights -/
def gl (w:Int):Nat→List Bs→List (Nat × Bs)
 | _,[]=>[]
 | h,d::r=>if d=emptD w h then gl w (h+1) r else (h,d)::gl w (h+1) r
def gvs (w:Int):Tw→List (Nat × Bs)
 | .leaf _ _ near _=>gl w 0 near
 | .fork _ f _ near l r=>gl w f near++(gvs w l++gvs w r)
theorem mbit_set {bits:Bs} (hl:bits.length=32) {h g:Nat} (hh:h<256):mbit (bits.set (h / 8) (bits.getD (h / 8) 0 ||| BitVec.ofNat 8 (2 ^ (h % 8)))) g=(mbit bits g || g == h):=by
 unfold mbit
 by_cases e:g / 8=h / 8
 ·rw[e,List.getD_eq_getElem?_getD,List.getElem?_set_self (by omega),Option.getD_some,BitVec.getLsbD_or]
  congr 1
  have hg:g % 8<8:=Nat.mod_lt _ (by decide)
  rw[BitVec.getLsbD_ofNat,Nat.testBit_two_pow,decide_eq_true hg,Bool.true_and]
  by_cases e2:h % 8=g % 8
  ·rw[decide_eq_true e2,show g=h by omega];simp
  ·rw[decide_eq_false e2]
   have:g≠h:=fun k=>e2 (by rw[k])
   simp[this]
 ·rw[List.getD_eq_getElem?_getD,List.getElem?_set_ne (fun k=>e k.symm),← List.getD_eq_getElem?_getD]
  have:g≠h:=fun k=>e (by rw[k])
  simp[this]
theorem gl_lt {w:Int}:∀ {near:List Bs} {h:Nat},∀ q ∈ gl w h near,h≤q.1∧q.1<h+near.length
 | [],_,_,hq=>by cases hq
 | d::r,h,q,hq=>by
  simp only[gl] at hq
  rw[List.length_cons]
  split at hq
  ·have:=gl_lt q hq;omega
  ·rcases List.mem_cons.1 hq with rfl | hq
   ·exact⟨Nat.le_refl _,by show h<_;omega⟩
   ·have:=gl_lt q hq;omega
theorem layN_spec (w : Int) : ∀ (near : List Bs) (h : Nat) (bits sums : Bs), bits.length = 32 → h + near.length ≤ 256 →
    (layN w h bits sums near).1.length = 32 ∧ (layN w h bits sums near).2 = sums ++ ((gl w h near).map (·.2)).flatten ∧ ∀ g,mbit (layN w h bits sums near).1 g = (mbit bits g || (gl w h near).any fun q => g == q.1)
 | [],h,bits,sums,hb,_=>by simp[layN,gl,hb]
 | d::r,h,bits,sums,hb,hh=>by
  rw[List.length_cons] at hh
  simp only[layN,gl]
  by_cases e:d=emptD w h
  ·rw[if_pos e,if_pos e]
   exact layN_spec w r (h+1) bits sums hb (by omega)
  ·rw[if_neg e,if_neg e]
   obtain⟨h1,h2,h3⟩:=layN_spec w r (h+1) (bits.set (h / 8) (bits.getD (h / 8) 0 ||| BitVec.ofNat 8 (2 ^ (h % 8)))) (sums++d) (by rw[List.length_set];exact hb) (by omega)
   refine⟨h1,?_,fun g=>?_⟩
   ·rw[h2,List.map_cons,List.flatten_cons,List.append_assoc]
   ·rw[h3,mbit_set hb (by omega),List.any_cons,Bool.or_assoc]
theorem gvP_gl {f top : Nat} {bits rest : Bs} : ∀ (n g : Nat) (l : List (Nat × Bs)), (∀ q ∈ l, g ≤ q.1 ∧ q.1 < g + n ∧ f ≤ q.1 ∧ q.1 < top ∧ q.2.length = 32) → l.Pairwise (fun a b => a.1 < b.1) → (∀ x, g ≤ x → mbit bits x = l.any fun q => x == q.1) →
    gvP f top bits n g ((l.map (·.2)).flatten ++ rest) = some (l,rest)
 | 0,g,l,h1,_,_=>by
  cases l with
  | nil=>rfl
  | cons q l=>have:=h1 q (by simp);omega
 | n+1,g,l,h1,h2,h3=>by
  simp only[gvP]
  rw[h3 g (Nat.le_refl _)]
  cases l with
  | nil =>
   rw[if_pos (by rfl)]
   exact gvP_gl n (g+1) [] (fun q hq=>by cases hq) List.Pairwise.nil fun x hx=>h3 x (by omega)
  | cons q l =>
   obtain⟨a1,a2,a3,a4,a5⟩:=h1 q (by simp)
   obtain⟨p1,p2⟩:=List.pairwise_cons.1 h2
   by_cases e:q.1=g
   ·have:((q::l).any fun q=>g == q.1)=true:=by simp[e]
    rw[this,if_neg (by decide),if_neg (by rw[List.map_cons,List.flatten_cons,List.append_assoc,List.length_append];omega)]
    rw[List.map_cons,List.flatten_cons,List.append_assoc]
    rw[show (q.2++((l.map (·.2)).flatten++rest)).drop 32=(l.map (·.2)).flatten++rest by rw[List.drop_append,a5,List.drop_of_length_le (by omega)];simp,
     show (q.2++((l.map (·.2)).flatten++rest)).take 32=q.2 by rw[List.take_append,a5,List.take_of_length_le (by omega)];simp]
    rw[gvP_gl n (g+1) l (fun x hx=>by have:=h1 x (by simp[hx]);have:=p1 x hx;omega) p2 fun x hx=>by rw[h3 x (by omega),List.any_cons,show (x == q.1)=false by simp;omega,Bool.false_or]]
    rw[Option.map_some,← e]
   ·have : ((q :: l).any fun q => g == q.1) = false := by
      rw [Bool.eq_false_iff]; intro h
      obtain ⟨x,hx,hg⟩ := List.any_eq_true.1 h
      have hg : g = x.1 := by simpa using hg
      rcases List.mem_cons.1 hx with rfl | hx
      · exact e hg.symm
      · have := p1 x hx; omega
    rw[this,if_pos rfl]
    refine gvP_gl n (g+1) (q::l) (fun x hx=>?_) h2 fun x hx=>h3 x (by omega)
    have hb:=h1 x hx
    rcases List.mem_cons.1 hx with rfl | hx
    ·omega
    ·have:=p1 x hx;omega
theorem gl_pair (w:Int):∀ (near:List Bs) (h:Nat),(gl w h near).Pairwise fun a b=>a.1<b.1
 | [],_=>List.Pairwise.nil
 | d::r,h=>by
  simp only[gl]
  split
  ·exact gl_pair w r _
  ·exact List.pairwise_cons.2 ⟨fun q hq=>by have:=gl_lt q hq;show h<q.1;omega,gl_pair w r _⟩
theorem gl_all {w:Int}:∀ {near:List Bs} {h:Nat},All32 near→∀ q ∈ gl w h near,q.2.length=32
 | [],_,_,_,hq=>by cases hq
 | d::r,h,ha,q,hq=>by
  simp only[gl] at hq
  split at hq
  ·exact gl_all ha.tail q hq
  ·rcases List.mem_cons.1 hq with rfl | hq
   ·exact ha.head
   ·exact gl_all ha.tail q hq
theorem mbit_zero (g:Nat):mbit (List.replicate 32 0) g=false:=by
 unfold mbit
 by_cases h:g / 8<32
 ·rw[getD_lt _ (by simpa using h),List.getElem_replicate];simp
 ·rw[List.getD_eq_getElem?_getD,List.getElem?_eq_none (by simp;omega)];simp
theorem fill_gl {w:Int} {f:Nat}:∀ {near:List Bs} {h:Nat} {pre:List Bs},f≤h→pre.length=h - f→fill f (pre++(List.range near.length).map (fun i=>emptD w (h+i))) (gl w h near)=pre++near
 | [],h,pre,_,_=>by simp[gl,fill]
 | d::r,h,pre,hh,hp=>by
  have e:(List.range (d::r).length).map (fun i=>emptD w (h+i))=emptD w h::(List.range r.length).map (fun i=>emptD w (h+1+i)):=by
   rw[List.length_cons,List.range_succ_eq_map,List.map_cons,List.map_map,Nat.add_zero]
   congr 1
   apply List.map_congr_left
   intro i _
   show emptD w (h+(i+1))=_
   congr 1;omega
  rw[e]
  simp only[gl]
  split
  ·rename_i hd
   rw[hd]
   have:=fill_gl (w:=w) (f:=f) (near:=r) (h:=h+1) (pre:=pre++[emptD w h]) (by omega) (by rw[List.length_append];simp;omega)
   rw[List.append_assoc,List.append_assoc] at this
   exact this
  ·show fill f ((pre++_).set (h - f) d) _=_
   rw[← hp,List.set_append_right _ _ (Nat.le_refl _),Nat.sub_self,List.set_cons_zero]
   have:=fill_gl (w:=w) (f:=f) (near:=r) (h:=h+1) (pre:=pre++[d]) (by omega) (by rw[List.length_append];simp;omega)
   rw[List.append_assoc,List.append_assoc] at this
   exact this
theorem empts_part (w:Int) {f top:Nat} (h:f≤top) (ht:top≤257):((empts w 257).drop f).take (top - f)=(List.range (top - f)).map fun i=>emptD w (f+i):=by
 refine List.ext_getElem (by rw[List.length_take,List.length_drop,empts_len,List.length_map,List.length_range];omega) fun i h1 h2=>?_
 rw[List.getElem_take,List.getElem_drop]
 simp[empts]
theorem nearP_nearT {w : Int} {f top : Nat} {near : List Bs} (rest : Bs) (hf : f ≤ top) (ht : top ≤ 256) (hl : near.length = top - f) (ha : All32 near) :
    nearP w f top (nearT w f near ++ rest) = some (near,gl w f near,rest) := by
 have hh:f+near.length≤256:=by omega
 obtain⟨h1,h2,h3⟩:=layN_spec w near f (List.replicate 32 0) [] (by simp) hh
 unfold nearP nearT
 rw[if_neg (by rw[List.length_append,List.length_append,h1];omega),List.append_assoc]
 rw[List.take_left' h1,List.drop_left' h1,h2,List.nil_append]
 rw[gvP_gl 256 0 (gl w f near) (fun q hq=>?_) (gl_pair w near f) (fun x _=>by rw[h3,mbit_zero,Bool.false_or])]
 ·rw[Option.map_some]
  have:=fill_gl (w:=w) (f:=f) (near:=near) (h:=f) (pre:=[]) (Nat.le_refl _) (by simp)
  rw[List.nil_append,List.nil_append] at this
  rw[empts_part w hf (by omega),← hl,this]
 ·have:=gl_lt q hq
  exact⟨by omega,by omega,by omega,by omega,gl_all ha q hq⟩
theorem b8_mod {n:Nat} (h:n≤128):(BitVec.ofNat 8 n).toNat+256*(BitVec.ofNat 8 (n / 256)).toNat=n:=by
 rw[BitVec.toNat_ofNat,BitVec.toNat_ofNat,Nat.div_eq_of_lt (by omega)]
 simp;omega
theorem parse_leaf {w : Int} {n : Nat} {ks : List Bs} {top : Nat} {x : Byte} {bs : Bs} (hx : x.toNat ≤ 1) (hk : ¬ 1 < ks.length) :
    parse w (n + 1) ks top (x :: bs) = (ansP x.toNat bs).bind fun p => (nearP w 0 top p.2).map fun q => (.leaf (ks.headD []) top q.1 p.1,q.2.1,q.2.2) := by
 simp only[parse,List.getD_cons_zero,List.drop_succ_cons,List.drop_zero]
 have h1:¬ (x::bs).length<1:=by simp
 have h2:¬ (x.toNat > 2∨¬ (x.toNat=2 ↔ 1<ks.length)):=by
  rintro (h | h)
  ·omega
  ·exact h ⟨fun e=>by omega,fun e=>absurd e hk⟩
 have h3:¬ (x.toNat=2):=by omega
 rw[if_neg h1,if_neg h2,if_neg h3]
theorem parse_fork {w : Int} {n : Nat} {ks : List Bs} {top : Nat} {bs : Bs} (hk : 1 < ks.length) :
    parse w (n + 1) ks top (2 :: bs) = (nearP w (frm ks) top bs).bind fun p =>
      (parse w n (ks.take (lefts ks)) (frm ks - 1) p.2.2).bind fun q =>
      (parse w n (ks.drop (lefts ks)) (frm ks - 1) q.2.2).map fun s => (.fork ks (frm ks) top p.1 q.1 s.1,p.2.1 ++ (q.2.1 ++ s.2.1),s.2.2) := by
 simp only[parse,List.getD_cons_zero,List.drop_succ_cons,List.drop_zero]
 have h1:¬ ((2:Byte)::bs).length<1:=by simp
 have h2:¬ ((2:Byte).toNat > 2∨¬ ((2:Byte).toNat=2 ↔ 1<ks.length)):=by
  rintro (h | h)
  ·exact absurd h (by decide)
  ·exact h ⟨fun _=>hk,fun _=>rfl⟩
 have h3:(2:Byte).toNat=2:=rfl
 rw[if_neg h1,if_neg h2,if_pos h3]
theorem parse_txt {w:Int}:∀ {t:Tw} {n:Nat} (rest:Bs),t.Ok→t.keys.length≤n→parse w n t.keys t.top (txt w t++rest)=some (t,gvs w t,rest)
 | .leaf k top near a,0,_,_,h=>by simp[keys] at h
 | .leaf k top near a,n+1,rest,h,_=>by
  obtain⟨h1,h2,h3,h4,h5⟩:=h
  cases a with
  | none =>
   have e:txt w (.leaf k top near none)++rest=0::(nearT w 0 near++rest):=rfl
   rw[e]
   simp only[keys,Tw.top,gvs]
   have e2:ansP (0:Byte).toNat (nearT w 0 near++rest)=some (none,nearT w 0 near++rest):=rfl
   rw[parse_leaf (by decide) (by simp),e2,Option.bind_some,nearP_nearT rest (Nat.zero_le _) h2 (by omega) h4]
   rfl
  | some v =>
   have hv:=h5 v rfl
   have e:txt w (.leaf k top near (some v))++rest=1::BitVec.ofNat 8 v.length::BitVec.ofNat 8 (v.length / 256)::(v++(nearT w 0 near++rest)):=by simp[txt,ansT]
   rw[e]
   simp only[keys,Tw.top,gvs]
   have e2:ansP (1:Byte).toNat (BitVec.ofNat 8 v.length::BitVec.ofNat 8 (v.length / 256)::(v++(nearT w 0 near++rest)))=some (some v,nearT w 0 near++rest):=by
    unfold ansP
    have hb:=b8_mod hv
    simp only[List.getD_cons_zero,List.getD_cons_succ,List.drop_succ_cons,List.drop_zero,hb,List.take_left,List.drop_left]
    rw[if_neg (by decide),if_neg (by simp),if_neg (by omega),if_neg (by simp)]
   rw[parse_leaf (by decide) (by simp),e2,Option.bind_some,nearP_nearT rest (Nat.zero_le _) h2 (by omega) h4]
   rfl
 | .fork ks f top near l r,0,_,h,h0=>by
  have:=h.2.2.2.2.2.2.2.1
  simp[keys] at h0;subst h0;simp at this
 | .fork ks f top near l r,n+1,rest,h,hn=>by
  have hn:ks.length≤n+1:=hn
  obtain⟨h1,h2,h3,h4,h5,h6,h7,h8,h9,h10,h11,h12,h13,h14⟩:=h
  have e:txt w (.fork ks f top near l r)++rest=2::(nearT w f near++(txt w l++(txt w r++rest))):=by simp[txt]
  rw[e]
  simp only[keys,Tw.top,gvs]
  have hlt:=lefts_lt h6 h8
  have hlp:=lefts_pos h6 h8
  rw[parse_fork h8,← h1,nearP_nearT _ h2 h3 h4 h5,Option.bind_some]
  have p1:=parse_txt (w:=w) (t:=l) (n:=n) (txt w r++rest) h13 (by rw[h9,List.length_take];omega)
  have p2:=parse_txt (w:=w) (t:=r) (n:=n) rest h14 (by rw[h10,List.length_drop];omega)
  rw[h9,h11] at p1
  rw[h10,h12] at p2
  simp only[p1,Option.bind_some,p2,Option.map_some]
end Wit
end Go.V
end
section
namespace Go.V
namespace Wit
open Tw
theorem climb_congr (w:Int) {a b:Bs}:∀ (near:List Bs) (f:Nat) (d:Bs),(∀ h,f≤h→h<f+near.length→kbit a (255 - h)=kbit b (255 - h))→climb w a f d near=climb w b f d near
 | [],_,_,_=>rfl
 | n::r,f,d,h=>by
  simp only[climb]
  have e:up w a f d n=up w b f d n:=by unfold up;rw[h f (Nat.le_refl _) (by simp)]
  rw[e]
  exact climb_congr w r (f+1) _ fun x h1 h2=>h x (by omega) (by simp;omega)
theorem nbrs_len (w:Int):∀ {t:Tw} (k:Bs),t.Ok→(nbrs w t k).length=t.top
 | .leaf _ _ _ _,_,h=>h.2.2.1
 | .fork ks f top near l r,k,h=>by
  have hp:=h.f_pos
  obtain⟨h1,h2,h3,h4,h5,h6,h7,h8,h9,h10,h11,h12,h13,h14⟩:=h
  simp only[nbrs,Tw.top]
  split <;> simp only[List.length_append,List.length_singleton,h4]
  ·rw[nbrs_len w k h14,h12];omega
  ·rw[nbrs_len w k h13,h11];omega
theorem nbrs_all (w:Int):∀ {t:Tw} (k:Bs),t.Ok→All32 (nbrs w t k)
 | .leaf _ _ _ _,_,h=>h.2.2.2.1
 | .fork ks f top near l r,k,h=>by
  obtain⟨h1,h2,h3,h4,h5,h6,h7,h8,h9,h10,h11,h12,h13,h14⟩:=h
  simp only[nbrs]
  split
  ·exact ((nbrs_all w k h14).app (All32.one (dig_len _ _ _))).app h5
  ·exact ((nbrs_all w k h13).app (All32.one (dig_len _ _ _))).app h5
theorem side_mem {ks:List Bs} {k:Bs} (h:Asc ks) (h2:2≤ks.length) (hk:k ∈ ks):k ∈ (if kbit k (256 - frm ks) then ks.drop (lefts ks) else ks.take (lefts ks)):=by
 rw[← List.take_append_drop (lefts ks) ks] at hk
 rcases List.mem_append.1 hk with hk | hk
 ·rw[bit_take h h2 k hk];exact hk
 ·rw[bit_drop h h2 k hk];exact hk
/-- a part leads where the whole leads -/
theorem single_dig (w:Int):∀ {t:Tw} {k:Bs},t.Ok→k ∈ t.keys→climb w k 0 (ldig w k (t.at k)) (nbrs w t k)=dig w asIs t
 | .leaf k' top near a,k,h,hk=>by
  have:k=k':=by simpa [keys] using hk
  subst this;rfl
 | .fork ks f top near l r,k,h,hk=>by
  have hp:=h.f_pos
  have hkl:=h.key_mem
  obtain⟨h1,h2,h3,h4,h5,h6,h7,h8,h9,h10,h11,h12,h13,h14⟩:=h
  have hs:=side_mem h6 h8 hk
  rw[← h1] at hs
  have hc:∀ d,climb w k f d near=climb w (Tw.fork ks f top near l r).key f d near:=fun d=>climb_congr w near f d fun x hx1 hx2=>frm_shr h6 h8 k hk _ hkl _ (by omega)
  have e:255 - (f - 1)=256 - f:=by omega
  have hf:0+(f - 1)+1=f:=by omega
  show climb w k 0 (ldig w k (if kbit k (256 - f) then r.at k else l.at k)) ((if kbit k (256 - f) then nbrs w r k++[dig w asIs l] else nbrs w l k++[dig w asIs r])++near)=_
  by_cases hb:kbit k (256 - f)=true
  ·rw[if_pos hb] at hs
   rw[if_pos hb,if_pos hb,climb_app,climb_app,single_dig w h14 (by rw[h10];exact hs)]
   simp only[climb,List.length_append,List.length_singleton,nbrs_len w k h14,h12]
   unfold up
   rw[show 255 - (0+(f - 1))=256 - f by omega,if_pos hb,show 0+(f - 1+1)=f by omega]
   exact hc _
  ·rw[if_neg hb] at hs
   rw[if_neg hb,if_neg hb,climb_app,climb_app,single_dig w h13 (by rw[h9];exact hs)]
   simp only[climb,List.length_append,List.length_singleton,nbrs_len w k h13,h11]
   unfold up
   rw[show 255 - (0+(f - 1))=256 - f by omega,if_neg hb,show 0+(f - 1+1)=f by omega]
   exact hc _
theorem at_len:∀ {t:Tw} (k:Bs),t.Ok→∀ v,t.at k=some v→v.length≤128
 | .leaf _ _ _ _,_,h,v,hv=>h.2.2.2.2 v hv
 | .fork ks f top near l r,k,h,v,hv=>by
  obtain⟨h1,h2,h3,h4,h5,h6,h7,h8,h9,h10,h11,h12,h13,h14⟩:=h
  simp only[Tw.at] at hv
  split at hv
  ·exact at_len k h14 v hv
  ·exact at_len k h13 v hv
def Tdy (w:Int):Tw→Prop
 | .leaf _ _ near _=>∀ d ∈ near,cutD w d=d
 | .fork _ _ _ near l r=>(∀ d ∈ near,cutD w d=d)∧Tdy w l∧Tdy w r
theorem cutD_cutD (w:Int) (d:Bs):cutD w (cutD w d)=cutD w d:=by
 refine List.ext_getElem (by rw[cutD_len,cutD_len]) fun i h1 h2=>?_
 rw[cutD_len] at h1 h2
 have h3:(cutD w d).getD i 0=(cutD w d)[i]'(by rw[cutD_len];exact h1):=getD_lt 0 _
 simp only[cutD,List.getElem_map,List.getElem_range] at h3 ⊢
 split
 ·rename_i h;rw[h3,if_pos h]
 ·rfl
theorem hcut_tdy (w:Int) (t:Bs):cutD w (hcut w t)=hcut w t:=cutD_cutD w _
theorem emptD_tdy (w:Int) (h:Nat):cutD w (emptD w h)=emptD w h:=by cases h <;> exact hcut_tdy _ _
theorem climb_tdy (w:Int) (k:Bs):∀ (near:List Bs) (f:Nat) (d:Bs),cutD w d=d→cutD w (climb w k f d near)=climb w k f d near
 | [],_,_,h=>h
 | n::r,f,d,_=>climb_tdy w k r _ _ (by unfold up;split <;> exact hcut_tdy _ _)
theorem ldig_tdy (w:Int) (k:Bs) (a:Option Bs):cutD w (ldig w k a)=ldig w k a:=by
 cases a
 ·exact emptD_tdy _ _
 ·exact hcut_tdy _ _
theorem dig_tdy (w:Int) (s:Says) (t:Tw):cutD w (dig w s t)=dig w s t:=climb_tdy w _ _ _ _ (by cases t;exact ldig_tdy _ _ _;exact hcut_tdy _ _)
theorem nbrs_tdy (w:Int):∀ {t:Tw} (k:Bs),Tdy w t→∀ d ∈ nbrs w t k,cutD w d=d
 | .leaf _ _ _ _,_,h=>h
 | .fork ks f top near l r,k,h=>by
  obtain⟨h1,h2,h3⟩:=h
  intro d hd
  simp only[nbrs] at hd
  rcases List.mem_append.1 hd with hd | hd
  ·split at hd
   ·rcases List.mem_append.1 hd with hd | hd
    ·exact nbrs_tdy w k h3 d hd
    ·simp only[List.mem_singleton] at hd;subst hd;exact dig_tdy _ _ _
   ·rcases List.mem_append.1 hd with hd | hd
    ·exact nbrs_tdy w k h2 d hd
    ·simp only[List.mem_singleton] at hd;subst hd;exact dig_tdy _ _ _
  ·exact h1 d hd
theorem chk_zero {w:Int}:∀ {gs:List (Nat × Bs)},chk w gs=0 ↔ ∀ q ∈ gs,cutD w q.2=q.2∧q.2≠emptD w q.1
 | []=>by simp[chk]
 | p::gs=>by
  simp only[chk]
  by_cases h1:p.2=cutD w p.2
  ·rw[if_neg (by simpa using h1)]
   by_cases h2:p.2=emptD w p.1
   ·rw[if_pos h2]
    constructor
    ·intro h;cases h
    ·intro h;exact absurd h2 (h p (by simp)).2
   ·rw[if_neg h2,chk_zero]
    constructor
    ·intro h q hq
     rcases List.mem_cons.1 hq with rfl | hq
     ·exact⟨h1.symm,h2⟩
     ·exact h q hq
    ·intro h q hq;exact h q (by simp[hq])
  ·rw[if_pos h1]
   constructor
   ·intro h;cases h
   ·intro h;exact absurd (h p (by simp)).1.symm h1
theorem chk_app {w:Int} {a b:List (Nat × Bs)}:chk w (a++b)=0 ↔ chk w a=0∧chk w b=0:=by
 rw[chk_zero,chk_zero,chk_zero]
 constructor
 ·intro h;exact⟨fun q hq=>h q (by simp[hq]),fun q hq=>h q (by simp[hq])⟩
 ·rintro⟨h1,h2⟩ q hq
  rcases List.mem_append.1 hq with hq | hq
  ·exact h1 q hq
  ·exact h2 q hq
theorem fill_tdy {w:Int} (f:Nat):∀ (gs:List (Nat × Bs)) (b:List Bs),(∀ d ∈ b,cutD w d=d)→(∀ q ∈ gs,cutD w q.2=q.2)→∀ d ∈ fill f b gs,cutD w d=d
 | [],_,h,_=>h
 | p :: gs, b, h, k => fill_tdy f gs _ (fun d hd => by
     rcases List.mem_or_eq_of_mem_set hd with hd | rfl
     · exact h d hd
     · exact k p (by simp)) fun q hq => k q (by simp [hq])
theorem nearP_tdy {w:Int} {f top:Nat} {bs:Bs} {p:List Bs × List (Nat × Bs) × Bs} (h:nearP w f top bs=some p) (hc:chk w p.2.1=0):∀ d ∈ p.1,cutD w d=d:=by
 unfold nearP at h
 split at h
 ·cases h
 ·obtain⟨q,hq,rfl⟩:=Option.map_eq_some_iff.1 h
  refine fill_tdy _ _ _ (fun d hd=>?_) fun x hx=>(chk_zero.1 hc x hx).1
  obtain⟨i,_,rfl⟩:=List.mem_map.1 (List.mem_of_mem_drop (List.mem_of_mem_take hd))
  exact emptD_tdy _ _
theorem parse_tdy {w:Int}:∀ {n:Nat} {ks:List Bs} {top:Nat} {bs:Bs} {p:Tw × List (Nat × Bs) × Bs},parse w n ks top bs=some p→chk w p.2.1=0→Tdy w p.1:=by
 intro n
 induction n with
 | zero=>intro ks top bs p h;cases h
 | succ n ih =>
  intro ks top bs p h hc
  simp only[parse] at h
  split at h
  ·cases h
  split at h
  ·cases h
  split at h
  ·obtain⟨a,h3,h⟩:=Option.bind_eq_some_iff.1 h
   obtain⟨b,h4,h⟩:=Option.bind_eq_some_iff.1 h
   obtain⟨c,h5,rfl⟩:=Option.map_eq_some_iff.1 h
   obtain⟨c1,c2⟩:=chk_app.1 hc
   obtain⟨c2,c3⟩:=chk_app.1 c2
   exact⟨nearP_tdy h3 c1,ih h4 c2,ih h5 c3⟩
  ·obtain⟨a,h3,h⟩:=Option.bind_eq_some_iff.1 h
   obtain⟨b,h4,rfl⟩:=Option.map_eq_some_iff.1 h
   exact nearP_tdy h4 hc
theorem gl_ne {w:Int}:∀ {near:List Bs} {h:Nat},∀ q ∈ gl w h near,q.2 ∈ near∧q.2≠emptD w q.1
 | [],_,_,hq=>by cases hq
 | d::r,h,q,hq=>by
  simp only[gl] at hq
  split at hq
  ·have:=gl_ne q hq;exact⟨by simp[this.1],this.2⟩
  ·rename_i hd
   rcases List.mem_cons.1 hq with rfl | hq
   ·exact⟨by simp,hd⟩
   ·have:=gl_ne q hq;exact⟨by simp[this.1],this.2⟩
theorem gvs_chk {w:Int}:∀ {t:Tw},Tdy w t→chk w (gvs w t)=0
 | .leaf _ _ _ _,h=>chk_zero.2 fun q hq=>⟨h _ (gl_ne q hq).1,(gl_ne q hq).2⟩
 | .fork _ _ _ _ _ _,h=>by
  simp only[gvs]
  rw[chk_app,chk_app]
  exact⟨chk_zero.2 fun q hq=>⟨h.1 _ (gl_ne q hq).1,(gl_ne q hq).2⟩,gvs_chk h.2.1,gvs_chk h.2.2⟩
theorem form_txt {w:Int} {t:Tw} (h:t.Ok) (hd:Tdy w t) (ht:t.top=256):form w t.keys (txt w t)=.ok (some t):=by
 unfold form
 have hp:=h.keys_pos
 rw[if_neg (List.length_pos_iff.1 hp)]
 have:=parse_txt (w:=w) (t:=t) (n:=t.keys.length) [] h (Nat.le_refl _)
 rw[List.append_nil,ht] at this
 rw[this]
 simp only[ne_eq,not_true_eq_false,if_false,gvs_chk hd]
theorem form_tdy {w:Int} {ks:List Bs} {raw:Bs} {t:Tw} (ha:Asc ks) (hk:All32 ks) (h:form w ks raw=.ok (some t)):Tdy w t:=by
 obtain⟨_,_,_,gs,h1,h2⟩:=form_ok ha hk h
 exact parse_tdy h1 h2
/-- one key's part -/
def part (w:Int) (t:Tw) (k:Bs):Tw:=.leaf k 256 (nbrs w t k) (t.at k)
theorem part_ok {w:Int} {t:Tw} {k:Bs} (h:t.Ok) (ht:t.top=256) (hk:k ∈ t.keys):(part w t k).Ok :=
 ⟨h.all k hk,Nat.le_refl _,by rw[nbrs_len w k h,ht],nbrs_all w k h,at_len k h⟩
theorem part_tdy {w:Int} {t:Tw} {k:Bs} (h:Tdy w t):Tdy w (part w t k):=nbrs_tdy w k h
theorem part_form {w:Int} {t:Tw} {k:Bs} (h:t.Ok) (hd:Tdy w t) (ht:t.top=256) (hk:k ∈ t.keys):form w [k] (txt w (part w t k))=.ok (some (part w t k)) :=
 form_txt (t:=part w t k) (part_ok h ht hk) (part_tdy hd) rfl
end Wit
end Go.V
end
section
namespace Go.V
namespace Wit
/-- the heights that a bitmap names -/
def poss (bits:Bs):Nat→Nat→List Nat
 | 0,_=>[]
 | n+1,g=>if mbit bits g=false then poss bits n (g+1) else g::poss bits n (g+1)
theorem poss_step (bits:Bs) (n g:Nat):poss bits (n+1) g=if mbit bits g=false then poss bits n (g+1) else g::poss bits n (g+1):=rfl
def chunk:Nat→Bs→List Bs
 | 0,_=>[]
 | n+1,bs=>bs.take 32::chunk n (bs.drop 32)
theorem chunk_len:∀ (n:Nat) (bs:Bs),(chunk n bs).length=n
 | 0,_=>rfl
 | n+1,bs=>by simp[chunk,chunk_len n]
theorem chunk_all:∀ (n:Nat) (bs:Bs),32*n≤bs.length→All32 (chunk n bs)
 | 0,_,_=>All32.nil
 | n+1,bs,h=>fun d hd=>by
  rcases List.mem_cons.1 hd with rfl | hd
  ·rw[List.length_take];omega
  ·exact chunk_all n _ (by rw[List.length_drop];omega) d hd
theorem poss_add (bits:Bs):∀ (n m g:Nat),poss bits (n+m) g=poss bits n g++poss bits m (g+n)
 | 0,m,g=>by simp[poss]
 | n+1,m,g=>by
  rw[show n+1+m=(n+m)+1 by omega]
  rw[poss_step,poss_step,poss_add bits n m (g+1),show g+1+n=g+(n+1) by omega]
  split <;> simp
theorem poss_snoc (bits:Bs) (n g:Nat):poss bits (n+1) g=poss bits n g++(if mbit bits (g+n)=false then [] else [g+n]):=by
 rw[poss_add bits n 1 g]
 rfl
theorem gvP_poss {bits:Bs}:∀ (n g:Nat) (bs:Bs),g+n≤256→gvP 0 256 bits n g bs=if bs.length<32*(poss bits n g).length then none else some ((poss bits n g).zip (chunk (poss bits n g).length bs),bs.drop (32*(poss bits n g).length))
 | 0,g,bs,_=>by simp[gvP,poss]
 | n+1,g,bs,h=>by
  unfold gvP
  rw[poss_step]
  by_cases hb:mbit bits g=false
  ·simp only[if_pos hb];exact gvP_poss n (g+1) bs (by omega)
  ·simp only[if_neg hb]
   rw[gvP_poss n (g+1) (bs.drop 32) (by omega),List.length_drop,List.length_cons]
   by_cases h1:bs.length<32
   ·rw[if_pos (.inl h1),if_pos (by omega)]
   ·rw[if_neg (show ¬ (bs.length<32∨g<0∨256≤g) by omega)]
    by_cases h2:bs.length<32*((poss bits n (g+1)).length+1)
    ·rw[if_pos (by omega),if_pos h2];rfl
    ·rw[if_neg (by omega),if_neg h2]
     simp only[Option.map_some,chunk,List.zip_cons_cons,List.drop_drop]
     congr 3
     omega
/-- a single proof's bytes: what it says, its bitmap, its digests -/
def decP (raw:Bs):Option (Option Bs × Bs × List Bs) :=
 if raw.length<1 then none
 else if 1<(raw.getD 0 0).toNat then none
 else (ansP (raw.getD 0 0).toNat (raw.drop 1)).bind fun p =>
  if p.2.length<32 then none
  else if p.2.length - 32≠32*(poss (p.2.take 32) 256 0).length then none
  else some (p.1,p.2.take 32,chunk (poss (p.2.take 32) 256 0).length (p.2.drop 32))
def gsOf (bits:Bs) (sums:List Bs):List (Nat × Bs):=(poss bits 256 0).zip sums
/-- the neighbour of a height -/
def nearH (w:Int) (bits:Bs) (sums:List Bs) (h:Nat):Bs:=if mbit bits h=false then emptD w h else sums.getD (poss bits h 0).length []
def nearL (w:Int) (bits:Bs) (sums:List Bs):List Bs:=(List.range 256).map (nearH w bits sums)
theorem fill_near (w:Int) (bits:Bs) (sums:List Bs) (hs:sums.length=(poss bits 256 0).length):fill 0 (((empts w 257).drop 0).take (256 - 0)) (gsOf bits sums)=nearL w bits sums:=by
 have key:∀ n,n≤256→fill 0 ((List.range 256).map (emptD w)) ((poss bits n 0).zip sums)=(List.range 256).map fun h=>if h<n then nearH w bits sums h else emptD w h:=by
  intro n
  induction n with
  | zero=>intro _;simp[poss,fill]
  | succ n ih =>
   intro hn
   have ih:=ih (by omega)
   rw[poss_snoc,Nat.zero_add]
   by_cases hb:mbit bits n=false
   ·rw[if_pos hb,List.append_nil,ih]
    apply List.map_congr_left
    intro h _
    by_cases e:h=n
    ·subst e
     rw[if_neg (by omega),if_pos (by omega),nearH,if_pos hb]
    ·by_cases h1:h<n
     ·rw[if_pos h1,if_pos (by omega)]
     ·rw[if_neg h1,if_neg (by omega)]
   ·have hlt : (poss bits n 0).length < sums.length := by
      rw [hs,show 256 = n + (1 + (255 - n)) by omega,poss_add,poss_add]
      have : (poss bits 1 (0 + n)).length = 1 := by simp [poss,hb]
      simp only [List.length_append,this]; omega
    rw[if_neg hb]
    have hz:(poss bits n 0++[n]).zip sums=(poss bits n 0).zip sums++[(n,sums.getD (poss bits n 0).length [])]:=by
     have hz1:sums=sums.take (poss bits n 0).length++sums.drop (poss bits n 0).length:=(List.take_append_drop _ _).symm
     have hz2:(poss bits n 0).zip sums=(poss bits n 0).zip (sums.take (poss bits n 0).length):=by
      rw[List.zip_eq_zip_take_min,Nat.min_eq_left (by omega),List.take_length]
     rw[hz2]
     conv=>lhs;rw[hz1]
     rw[List.zip_append (by rw[List.length_take];omega)]
     congr 1
     rw[List.drop_eq_getElem_cons hlt,List.getD_eq_getElem?_getD,List.getElem?_eq_getElem hlt]
     rfl
    rw[hz]
    unfold fill at ih ⊢
    rw[List.foldl_append,ih]
    simp only[List.foldl_cons,List.foldl_nil,Nat.sub_zero]
    apply List.ext_getElem?
    intro h
    rw[List.getElem?_set]
    by_cases h256:h<256
    ·by_cases e:n=h
     ·subst e
      rw[if_pos rfl,if_pos (by simp;omega)]
      simp[h256,nearH,hb]
     ·rw[if_neg e]
      simp only[List.getElem?_map,List.getElem?_range h256,Option.map_some,Option.some.injEq]
      by_cases h1:h<n
      ·rw[if_pos h1,if_pos (by omega)]
      ·rw[if_neg h1,if_neg (by omega)]
    ·rw[if_neg (by omega),List.getElem?_eq_none (by simp;omega),List.getElem?_eq_none (by simp;omega)]
 have h:=key 256 (Nat.le_refl _)
 have e:((empts w 257).drop 0).take (256 - 0)=(List.range 256).map (emptD w):=by
  have:=empts_part w (f:=0) (top:=256) (by omega) (by omega)
  rw[this];simp
 rw[e]
 unfold gsOf nearL
 rw[h]
 apply List.map_congr_left
 intro x hx
 rw[if_pos (List.mem_range.1 hx)]
theorem decP_ok {raw:Bs} {a:Option Bs} {bits:Bs} {sums:List Bs} (h:decP raw=some (a,bits,sums)):bits.length=32∧sums.length=(poss bits 256 0).length∧All32 sums∧∀ v,a=some v→v.length≤128:=by
 unfold decP at h
 split at h
 ·cases h
 split at h
 ·cases h
 obtain⟨p,hp,h⟩:=Option.bind_eq_some_iff.1 h
 split at h
 ·cases h
 split at h
 ·cases h
 rename_i h1 h2
 simp only[Option.some.injEq,Prod.mk.injEq] at h
 obtain⟨rfl,rfl,rfl⟩:=h
 refine⟨by rw[List.length_take];omega,chunk_len _ _,chunk_all _ _ (by rw[List.length_drop];omega),fun v hv=>?_⟩
 unfold ansP at hp
 split at hp
 ·simp only[Option.some.injEq] at hp;subst hp;cases hv
 split at hp
 ·cases hp
 split at hp
 ·cases hp
 split at hp
 ·cases hp
 simp only[Option.some.injEq] at hp
 subst hp
 simp only[Option.some.injEq] at hv
 subst hv
 rw[List.length_take];omega
/-- a witness for one key and a single proof are the same bytes -/
theorem form_dec (wd : Int) (k raw : Bs) : form wd [k] raw = match decP raw with
    | none => .error 120
    | some (a,bits,sums) => if chk wd (gsOf bits sums) ≠ 0 then .error (chk wd (gsOf bits sums)) else .ok (some (.leaf k 256 (nearL wd bits sums) a)) := by
 have e:parse wd 1 [k] 256 raw=if raw.length<1 then none else if 1<(raw.getD 0 0).toNat then none else (ansP (raw.getD 0 0).toNat (raw.drop 1)).bind fun p=>(nearP wd 0 256 p.2).map fun q=>(.leaf k 256 q.1 p.1,q.2.1,q.2.2):=by
  unfold parse
  by_cases h1:raw.length<1
  ·rw[if_pos h1,if_pos h1]
  rw[if_neg h1,if_neg h1]
  by_cases h2:1<(raw.getD 0 0).toNat
  ·rw[if_pos h2,if_pos]
   by_cases h3:(raw.getD 0 0).toNat > 2
   ·exact .inl h3
   ·exact .inr fun h=>by have:=h.1 (by omega);simp at this
  ·rw[if_neg h2,if_neg,if_neg (by omega)]
   ·rfl
   ·rintro (h | h)
    ·omega
    ·exact h ⟨fun h=>by omega,fun h=>by simp at h⟩
 unfold form
 rw[if_neg (by simp),show ([k]:List Bs).length=1 from rfl,e]
 unfold decP
 by_cases h1:raw.length<1
 ·rw[if_pos h1,if_pos h1]
 rw[if_neg h1,if_neg h1]
 by_cases h2:1<(raw.getD 0 0).toNat
 ·rw[if_pos h2,if_pos h2]
 rw[if_neg h2,if_neg h2]
 cases hA:ansP (raw.getD 0 0).toNat (raw.drop 1) with
 | none=>rfl
 | some p =>
  obtain⟨a,s⟩:=p
  simp only[Option.bind_some]
  unfold nearP
  by_cases h3:s.length<32
  ·rw[if_pos h3,if_pos h3];rfl
  rw[if_neg h3,if_neg h3,gvP_poss 256 0 _ (by omega),List.length_drop]
  by_cases h4:s.length - 32<32*(poss (s.take 32) 256 0).length
  ·rw[if_pos h4,if_pos (by omega)];rfl
  rw[if_neg h4]
  simp only[Option.map_some]
  by_cases h5:s.length - 32≠32*(poss (s.take 32) 256 0).length
  ·rw[if_pos h5,if_pos]
   intro h
   have:=congrArg List.length h
   simp at this;omega
  ·rw [if_neg h5, if_neg (by
     intro h
     apply h
     apply List.drop_of_length_le
     rw [List.length_drop]; omega)]
   have hf:=fill_near wd (s.take 32) (chunk (poss (s.take 32) 256 0).length (s.drop 32)) (chunk_len _ _)
   unfold gsOf at hf
   simp only[hf]
   rfl
end Wit
end Go.V
end
section
namespace Go.V
namespace Wit
open Tw
/-- a text of the document's list -/
structure Tx where
 keys:List Bs
 top:Nat
 fr:Nat
 near:List Bs
 left:Nat
 right:Nat
 ans:Option Bs
def Tw.size:Tw→Nat
 | .leaf _ _ _ _=>1
 | .fork _ _ _ _ l r=>l.size+r.size+1
theorem Tw.size_pos:∀ t:Tw,0<t.size
 | .leaf _ _ _ _=>by simp[Tw.size]
 | .fork _ _ _ _ _ _=>by simp[Tw.size]
/-- the texts of a tree, each fork behind what lies beneath it; n texts stand ahead -/
def flatT (w:Int):Nat→Tw→List Tx
 | _,.leaf k top near a=>[⟨[k],top,0,near,0,0,a⟩]
 | n,.fork ks f top near l r=>flatT w n l++(flatT w (n+l.size) r++[⟨ks,top,f,(empts w 257).take f++near,n+l.size - 1,n+l.size+r.size - 1,none⟩])
theorem sides {ks : List Bs} {f top : Nat} {near : List Bs} {l r : Tw} (h : (fork ks f top near l r).Ok) {k : Bs} (hk : k ∈ ks) :
    (kbit k (256 - f) = true → k ∈ r.keys ∧ k ∉ l.keys) ∧ (kbit k (256 - f) = false → k ∈ l.keys ∧ k ∉ r.keys) := by
 obtain⟨h1,h2,h3,h4,h5,h6,h7,h8,h9,h10,h11,h12,h13,h14⟩:=h
 rw[h9,h10,h1]
 have hs:=side_mem h6 h8 hk
 constructor <;> intro hb
 ·rw[if_pos hb] at hs
  refine⟨hs,fun hm=>?_⟩
  have:=bit_take h6 h8 k hm
  rw[hb] at this;cases this
 ·rw[if_neg (by rw[hb];decide)] at hs
  refine⟨hs,fun hm=>?_⟩
  have:=bit_drop h6 h8 k hm
  rw[hb] at this;cases this
def over (f:Nat) (ds near:List Bs):List Bs:=ds.take f++(near++ds.drop (f+near.length))
/-- from the top down -/
def Tw.other (t:Tw) (k:Bs):Tw:=match t with | .leaf k' top near a=>.leaf k' top near a | .fork _ f _ _ l r=>if kbit k (256 - f) then l else r
def Tw.next (t:Tw) (k:Bs):Tw:=match t with | .leaf k' top near a=>.leaf k' top near a | .fork _ f _ _ l r=>if kbit k (256 - f) then r else l
theorem over_len {f:Nat} {ds near:List Bs} (h:f+near.length≤ds.length):(over f ds near).length=ds.length:=by
 unfold over;simp only[List.length_append,List.length_take,List.length_drop];omega
theorem down_leaf {w:Int} {k k':Bs} {top:Nat} {near:List Bs} {a:Option Bs} {ds full:List Bs} (h:(Tw.leaf k' top near a).Ok) (he:full=nbrs w (.leaf k' top near a) k++ds.drop top):over 0 ds near=full:=by
 rw[he];unfold over
 rw[List.take_zero,List.nil_append,Nat.zero_add,h.2.2.1];rfl
theorem down_fork {w : Int} {k : Bs} {ks : List Bs} {f top : Nat} {near : List Bs} {l r : Tw} {ds full : List Bs} (h : (Tw.fork ks f top near l r).Ok) (hd : ds.length = 256) (he : full = nbrs w (.fork ks f top near l r) k ++ ds.drop top) :
    full = nbrs w ((Tw.fork ks f top near l r).next k) k ++ ((over f ds near).set (f - 1) (dig w asIs ((Tw.fork ks f top near l r).other k))).drop ((Tw.fork ks f top near l r).next k).top := by
 have hp:=h.f_pos
 obtain⟨h1,h2,h3,h4,h5,h6,h7,h8,h9,h10,h11,h12,h13,h14⟩:=h
 have key:∀ x:Bs,((over f ds near).set (f - 1) x).drop (f - 1)=x::(near++ds.drop top):=by
  intro x
  unfold over
  have e:ds.take f=ds.take (f - 1)++[ds.getD (f - 1) []]:=by
   have:=List.take_succ (l:=ds) (i:=f - 1)
   rw[show f - 1+1=f by omega,List.getElem?_eq_getElem (by omega)] at this
   rw[this,getD_lt _ (by omega)];rfl
  have hl:(ds.take (f - 1)).length=f - 1:=by rw[List.length_take];omega
  rw[e,List.append_assoc,List.set_append_right _ _ (by omega),hl,Nat.sub_self,List.drop_left' hl,h4,show f+(top - f)=top by omega];rfl
 rw[he]
 simp only[nbrs,Tw.next,Tw.other]
 by_cases hb:kbit k (256 - f)=true
 ·rw[if_pos hb,if_pos hb,if_pos hb,h12,key];simp
 ·rw[if_neg hb,if_neg hb,if_neg hb,h11,key];simp
theorem next_ok {ks:List Bs} {f top:Nat} {near:List Bs} {l r:Tw} (h:(Tw.fork ks f top near l r).Ok) {k:Bs} (hk:k ∈ ks):((Tw.fork ks f top near l r).next k).Ok∧k ∈ ((Tw.fork ks f top near l r).next k).keys∧((Tw.fork ks f top near l r).other k).Ok:=by
 have hs:=sides h hk
 have h13:=h.2.2.2.2.2.2.2.2.2.2.2.2.1
 have h14:=h.2.2.2.2.2.2.2.2.2.2.2.2.2
 simp only[Tw.next,Tw.other]
 by_cases hb:kbit k (256 - f)=true
 ·rw[if_pos hb,if_pos hb];exact⟨h14,(hs.1 hb).1,h13⟩
 ·rw[if_neg hb,if_neg hb];exact⟨h13,(hs.2 (by simpa using hb)).1,h14⟩
def Tw.endT:Tw→Bs→Tw
 | .leaf k' top near a,_=>.leaf k' top near a
 | .fork _ f _ _ l r,k=>if kbit k (256 - f) then r.endT k else l.endT k
theorem endT_leaf:∀ (t:Tw) (k:Bs),∃ k' top near,t.endT k=.leaf k' top near (t.at k)
 | .leaf k' top near a,_=>⟨k',top,near,rfl⟩
 | .fork _ f _ _ l r,k=>by
  simp only[Tw.endT,Tw.at]
  split
  ·exact endT_leaf r k
  ·exact endT_leaf l k
end Wit
end Go.V
end
