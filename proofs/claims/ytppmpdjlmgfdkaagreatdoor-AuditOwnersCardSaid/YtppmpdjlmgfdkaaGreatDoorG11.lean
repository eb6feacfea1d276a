/- Helpers. -/
import Derived.Test.YtppmpdjlmgfdkaaGreatDoorG10
set_option linter.all false
set_option maxRecDepth 100000
set_option maxHeartbeats 8000000
open BitVec renaming ofNat→zD
open List renaming append_assoc→zO,replicate→zV,mem_cons_of_mem→z7,mem_append_right→zN,mem_append_left→zP,take_left'→z8,drop_left'→jQ,take_of_length_le→zT,range→zX,mem_cons_self→jX
open Nat renaming le_refl→xT,add_sub_cancel→jZ,zero_le→zE
namespace Go.V
variable {D im l raw:Bs} {i j k m p:Nat}
namespace Aud
def pgF (im:Bs)(mark:Nat)(p:Nat):Option Pg:=if 2≤p∧p<mark then (match qXp p (pgB im p) with | .ok g=>some g | .error _=>none) else none
def qXz (im:Bs)(p:Nat):Int:=if p<2 then (if zer ((pgB im p).drop 64)=false then 53 else 0) else (match qXp p (pgB im p) with | .ok _=>0 | .error e=>e)
def qZg (im:Bs)(k:Nat):List (Nat × Int):=(zX k).filterMap fun p=>if qXz im p=0 then none else some (p,qXz im p)
theorem qZn (im:Bs)(k:Nat):qZg im (k+1)=qZg im k++(if qXz im k=0 then [] else [(k,qXz im k)]):=by
 unfold qZg;rw[List.range_succ,List.filterMap_append]
 by_cases h:qXz im k=0
 ·rw[if_pos h];simp[h]
 ·rw[if_neg h];simp[h]
theorem found1_len (im:Bs)(k:Nat):(qZg im k).length≤k:=by
 unfold qZg;exact Nat.le_trans (List.length_filterMap_le _ _) (by simp)
def chF (pg:Nat→Option Pg)(k:Nat):List Nat:=(zX k).filter fun p=>match pg p with
 | some (.rc _)=>true
 | _=>false
def foundP (im:Bs)(s:Sup):List (Nat × Int) :=
 if qZg im s.mark=[] then (match wholeP s.width (pgF im s.mark) (chF (pgF im s.mark) s.mark) s.mark s.head with | .ok _=>[] | .error e=>[e]) else qZg im s.mark
def lookP (im:Bs):Except Int (Sup × List (Nat × Int)) :=
 if im.length % 256≠0 then .error 42
 else if im.length / 256<3∨4096<im.length / 256 then .error 40
 else match qJb (pgB im 0) (pgB im 1) with
  | .error e=>.error e
  | .ok s=>if s.pages≠im.length / 256 then .error 4 else .ok (s,foundP im s)
theorem pgF_some {g:Pg}(h:pgF im m p=some g):2≤p∧p<m∧qXp p (pgB im p)=.ok g:=by
 unfold pgF at h;split at h
 ·rename_i hp
  split at h
  ·rename_i g' hg;cases h;exact⟨hp.1,hp.2,hg⟩
  ·cases h
 ·cases h
theorem qJl (h:¬ (2≤p∧p<m)):pgF im m p=none:=if_neg h
theorem decN_right {n:Nd}(h:decN k l=some n):n.right:=by
 unfold decN at h;split at h
 ·split at h
  ·rename_i hl
   cases h;exact⟨by rw[lTk];omega,by rw[lDr];omega⟩
  ·cases h
 ·split at h
  ·rename_i hl
   cases h;exact⟨hl.2.2,by rw[lTk,lDr];omega,by rw[lTk,lDr];omega⟩
  ·cases h
theorem decR_right {r:Rc}(h:decR l=some r):r.right∧r.sum.length=32:=by
 unfold decR at h;split at h
 ·rename_i hl
  cases h;exact⟨hl.2,by show ((l.drop 24).take 32).length=32;rw[lTk,lDr];omega⟩
 ·cases h
theorem qVf {g:Pg}(h:qXp p raw=.ok g):match g with | .nd n=>n.right | .rc r=>r.right∧r.sum.length=32:=by
 unfold qXp at h;split at h
 ·cases h
 ·split at h
  ·split at h
   ·rename_i r hr;cases h;exact decR_right hr
   ·cases h
  ·split at h
   ·rename_i n hn;cases h;exact decN_right hn
   ·cases h
end Aud
namespace Aud
def PT.pgs:PT→List Nat
 | .nil=>[]
 | .leaf p _ _=>[p]
 | .br p l r=>p::(l.pgs++r.pgs)
theorem rows_pgs:∀ {t:PT} {n:Nat} {row:Bs} {p:Nat},n≤256→t.Wf n→Row n row→((∃ key,rowAt n row t key=some p) ↔ p ∈ t.pgs)
 | .nil,n,row,p,_,_,_=>⟨(fun ⟨k,h⟩=>by cases h),fun h=>by cases h⟩
 | .leaf q k v,n,row,p,_,_,_=>by
  constructor
  ·rintro⟨key,h⟩
   unfold rowAt at h;split at h
   ·cases h;exact List.mem_singleton.2 rfl
   ·cases h
  ·intro h
   rw[List.mem_singleton.1 h];exact⟨(n,row),if_pos rfl⟩
 | .br q l r,n,row,p,hn6,hw,hr=>by
  obtain⟨_,hn,_,_,_,w1,w2⟩:=hw;have il:=rows_pgs (t:=l) (p:=p) (show n+1≤256 by omega) w1 (hr.under hn false);have ir:=rows_pgs (t:=r) (p:=p) (show n+1≤256 by omega) w2 (hr.under hn true);constructor
  ·rintro⟨key,h⟩
   unfold rowAt at h;split at h
   ·cases h;exact jX ..
   ·rw[Option.or_eq_some_iff]at h
    rcases h with h | ⟨_,h⟩
    ·exact z7 _ (zN _ (ir.1 ⟨key,h⟩))
    ·exact z7 _ (zP _ (il.1 ⟨key,h⟩))
  ·intro h
   have off:∀ {b:Bool} {t:PT} {m:Nat} {s:Bs} {x:Nat},t.Wf (n+1)→rowAt (n+1) (under n b row) t (m,s)=some x→n+1≤m∧kbit s n=b:=fun {b t m s x} ht hx=>by
    obtain⟨a,c,_⟩:=rowAt_in (by omega) ht (hr.under hn b) hx;exact⟨a,((qZa hr hn b).1 c).2⟩
   rcases List.mem_cons.1 h with h | h
   ·subst h;exact⟨(n,row),if_pos rfl⟩
   ·rcases List.mem_append.1 h with h | h
    ·obtain⟨⟨m,s⟩,hk⟩:=il.2 h
     obtain⟨hm,hb⟩:=off w1 hk;refine⟨(m,s),?_⟩;unfold rowAt;rw[if_neg fun e=>by cases e;omega]
     have:rowAt (n+1) (under n true row) r (m,s)=none:=by
      cases hx:rowAt (n+1) (under n true row) r (m,s) with
      | none=>rfl
      | some x=>have:=(off w2 hx).2;rw[hb]at this;cases this
     rw[this,hk];rfl
    ·obtain⟨⟨m,s⟩,hk⟩:=ir.2 h
     obtain⟨hm,hb⟩:=off w2 hk;refine⟨(m,s),?_⟩;unfold rowAt;rw[if_neg fun e=>by cases e;omega,hk];rfl
theorem pgs_le {dg:Nat→PT→Bs}{pg:Nat→Option Nd}:∀ {t:PT} {n p:Nat},Stands dg pg n t→p ∈ t.pgs→p≤t.page
 | .nil,_,_,_,h=>by cases h
 | .leaf q k v,_,p,_,h=>by rw[List.mem_singleton.1 h];exact xT _
 | .br q l r,n,p,hs,h=>by
  obtain⟨_,h1,h2,s1,s2⟩:=hs;show p≤q
  rcases List.mem_cons.1 h with h | h
  ·omega
  ·rcases List.mem_append.1 h with h | h
   ·have:=pgs_le s1 h;omega
   ·have:=pgs_le s2 h;omega
theorem pgs_pos:∀ {t:PT} {n p:Nat},t.Wf n→p ∈ t.pgs→2≤p
 | .nil,_,_,_,h=>by cases h
 | .leaf q k v,_,p,hw,h=>by rw[List.mem_singleton.1 h];exact hw
 | .br q l r,n,p,hw,h=>by
  obtain⟨h0,_,_,_,_,w1,w2⟩:=hw
  rcases List.mem_cons.1 h with h | h
  ·omega
  ·rcases List.mem_append.1 h with h | h
   ·exact pgs_pos w1 h
   ·exact pgs_pos w2 h
theorem pgs_len:∀ {t:PT} {n d:Nat},t.Wf n→n+d=257→1≤d→t.pgs.length≤t.ents.length*d
 | .nil,_,_,_,_,_=>zE _
 | .leaf q k v,_,d,_,_,h1=>by show 1≤1*d;omega
 | .br q l r,n,d,hw,hd,_=>by
  obtain⟨h0,h1,h2,_,_,w1,w2⟩:=hw
  obtain⟨e,rfl⟩:∃ e,d=e+1:=⟨d - 1,by omega⟩
  have a:=pgs_len (d:=e) w1 (by omega) (by omega);have b:=pgs_len (d:=e) w2 (by omega) (by omega);show (l.pgs++r.pgs).length+1≤(l.ents++r.ents).length*(e+1);rw[lAp,lAp,Nat.add_mul,Nat.mul_succ,Nat.mul_succ];omega
theorem kid_pgs {n:Nat}{b:Bool}{o:PT}(h:p ∈ (kid n b o).pgs):p ∈ o.pgs:=by
 cases o with
 | nil=>exact h
 | leaf q k v =>
  have h:p ∈ (if kbit k n=b then PT.leaf q k v else PT.nil).pgs:=h;split at h
  ·exact h
  ·cases h
 | br q l r =>
  cases b
  ·exact z7 _ (zP _ h)
  ·exact z7 _ (zN _ h)
theorem pageOf_pgs {k v:Bs}{p:Nat}:∀ {o:PT},pageOf k v o=some p→p ∈ o.pgs
 | .nil,h=>by cases h
 | .leaf q k' v',h=>by
  unfold pageOf at h;split at h
  ·cases h;exact List.mem_singleton.2 rfl
  ·cases h
 | .br q l r,h=>by
  unfold pageOf at h
  cases hl:pageOf k v l with
  | some x=>rw[hl]at h;cases h;exact z7 _ (zP _ (pageOf_pgs hl))
  | none=>rw[hl]at h;exact z7 _ (zN _ (pageOf_pgs h))
theorem lay_pgs:∀ {f n:Nat} {at':Bool} {o:PT} {m:List En} {next:Nat} {t:PT} {next':Nat}, lay f n at' o m next=(t, next') →
  next≤next'∧(∀ p ∈ t.pgs,p ∈ o.pgs∨next≤p∧p<next')∧∀ p,next≤p→p<next'→p ∈ t.pgs:=by
 intro f
 have one:∀ {k v:Bs} {o:PT} {next:Nat} {t:PT} {next':Nat},(match pageOf k v o with | some p=>(PT.leaf p k v,next) | none=>(PT.leaf next k v,next+1))=(t,next')→next≤next'∧(∀ p ∈ t.pgs,p ∈ o.pgs∨next≤p∧p<next')∧∀ p,next≤p→p<next'→p ∈ t.pgs:=fun {k v o next t next'} h=>by
  cases hp:pageOf k v o with
  | some q =>
   rw[hp]at h;cases h;exact⟨xT _,fun p h=>.inl (by rw[List.mem_singleton.1 h];exact pageOf_pgs hp),fun p h1 h2=>absurd h2 (by omega)⟩
  | none =>
   rw[hp]at h;cases h;exact⟨Nat.le_succ _,fun p h=>.inr (by rw[List.mem_singleton.1 h];omega),fun p h1 h2=>List.mem_singleton.2 (by omega)⟩
 induction f with
 | zero =>
  intro n at' o m next t next' h
  cases m with
  | nil=>unfold lay at h;cases h;exact⟨xT _,(fun p h=>by cases h),fun p h1 h2=>absurd h2 (by omega)⟩
  | cons e r=>unfold lay at h;exact one h
 | succ f ih =>
  intro n at' o m next t next' h
  cases m with
  | nil=>unfold lay at h;cases h;exact⟨xT _,(fun p h=>by cases h),fun p h1 h2=>absurd h2 (by omega)⟩
  | cons e r =>
   unfold lay at h;split at h
   ·cases h;exact⟨xT _,fun p h=>.inl h,fun p h1 h2=>absurd h2 (by omega)⟩
   ·split at h
    ·exact one h
    ·obtain⟨l,m1,hL⟩:∃ l m1,lay f (n+1) (at' && isBr o) (kid n false o) ((e::r).filter fun x=>!kbit x.1 n) next=(l,m1):=⟨_,_,rfl⟩
     obtain⟨r',m2,hR⟩:∃ r' m2,lay f (n+1) (at' && isBr o) (kid n true o) ((e::r).filter fun x=>kbit x.1 n) m1=(r',m2):=⟨_,_,rfl⟩
     rw[hL]at h;have h:(PT.br (lay f (n+1) (at' && isBr o) (kid n true o) ((e::r).filter fun x=>kbit x.1 n) m1).2 l (lay f (n+1) (at' && isBr o) (kid n true o) ((e::r).filter fun x=>kbit x.1 n) m1).1,(lay f (n+1) (at' && isBr o) (kid n true o) ((e::r).filter fun x=>kbit x.1 n) m1).2+1)=(t,next'):=h;rw[hR]at h;cases h;obtain⟨a1,a2,a3⟩:=ih hL;obtain⟨b1,b2,b3⟩:=ih hR;refine⟨by omega,fun p hp=>?_,fun p h1 h2=>?_⟩
     ·rcases List.mem_cons.1 hp with hp | hp
      ·exact .inr (by omega)
      ·rcases List.mem_append.1 hp with hp | hp
       ·rcases a2 p hp with h | h
        ·exact .inl (kid_pgs h)
        ·exact .inr (by omega)
       ·rcases b2 p hp with h | h
        ·exact .inl (kid_pgs h)
        ·exact .inr (by omega)
     ·by_cases e1:p=m2
      ·rw[e1];exact jX ..
      ·by_cases e2:p<m1
       ·exact z7 _ (zP _ (a3 p h1 e2))
       ·exact z7 _ (zN _ (b3 p (by omega) (by omega)))
def trP (wd:Int)(pg:Nat→Option Pg)(ch:List Nat):Nat→PT
 | 0=>.nil
 | i+1=>match verP wd pg ch (i+1) (trP wd pg ch i) with
  | .ok t=>t
  | .error _=>.nil
theorem trP_ok {wd:Int}{pg:Nat→Option Pg}{ch:List Nat}{t:PT}(h:verP wd pg ch (i+1) (trP wd pg ch i)=.ok t):trP wd pg ch (i+1)=t:=by
 show (match verP wd pg ch (i+1) (trP wd pg ch i) with | .ok t=>t | .error _=>.nil)=t;rw[h]
theorem versP_all {wd:Int}{pg:Nat→Option Pg}{ch:List Nat}:∀ {n i:Nat},versP wd pg ch n (i+1) (trP wd pg ch i)=.ok ()→∀ j,i≤j→j<i+n→verP wd pg ch (j+1) (trP wd pg ch j)=.ok (trP wd pg ch (j+1))
 | 0,i,_,j,h1,h2=>absurd h2 (by omega)
 | n+1,i,h,j,h1,h2=>by
  unfold versP at h;split at h
  ·cases h
  ·rename_i t ht
   have e:=trP_ok ht
   by_cases hj:j=i
   ·rw[hj,e];exact ht
   ·rw[← e]at h
    exact versP_all h j (by omega) (by omega)
end Aud
section
namespace Aud
structure PgOk (pg:Nat→Option Pg) (mark:Nat):Prop where
 hm:mark≤4096
 hpg:∀ p,mark≤p→pg p=none
 hnd:∀ p n,pg p=some (.nd n)→2≤p∧n.right
 hrc:∀ p r,pg p=some (.rc r)→2≤p∧r.right∧r.sum.length=32
section
variable {wd:Int} {pg:Nat→Option Pg} {mark:Nat}
theorem pnOf_some {n:Nd}(h:pnOf pg p=some n):pg p=some (.nd n):=by
 unfold pnOf at h;split at h
 ·rename_i m e;cases h;exact e
 ·cases h
theorem PgOk.nd (h:PgOk pg mark):NdOk (pnOf pg):=fun p nd hp=>by
 obtain⟨h2,hr⟩:=h.hnd p nd (pnOf_some hp);refine⟨h2,?_⟩
 cases nd with
 | leaf k v=>exact hr.1
 | br lp rp lc rc ls rs =>
  obtain⟨⟨a,b,_,d,_⟩,_⟩:=hr;refine⟨d,fun e=>?_,fun e=>?_⟩
  ·unfold chR at a;rw[if_pos e]at a;exact a
  ·unfold chR at b;rw[if_pos e]at b;exact b
theorem PgOk.rc (h:PgOk pg mark)(p:Nat):(rcAt pg p).first≤2 ^ 30∧((rcAt pg p).root=0→(rcAt pg p).count=0)∧(rcAt pg p).count≤4096∧(rcAt pg p).ver≤2 ^ 30:=by
 unfold rcAt;split
 ·rename_i r e
  obtain⟨_,hr,_⟩:=h.hrc _ _ e;refine⟨hr.1,fun h0=>?_,?_,hr.2.2.1⟩
  ·rcases hr.2.2.2.1 with h | h
   ·exact h.2
   ·exact absurd h0 h.1
  ·rcases hr.2.2.2.1 with h | h
   ·omega
   ·omega
 ·exact⟨zE _,fun _=>rfl,zE _,zE _⟩
theorem chF_mem:p ∈ chF pg mark ↔ p<mark∧∃ r,pg p=some (.rc r):=by
 unfold chF;rw[List.mem_filter,List.mem_range];constructor
 ·rintro⟨a,b⟩
  refine⟨a,?_⟩;split at b
  ·rename_i r e;exact⟨r,e⟩
  ·cases b
 ·rintro⟨a,r,e⟩
  exact⟨a,by rw[e]⟩
theorem chF_sort (pg:Nat→Option Pg)(mark:Nat):(chF pg mark).Pairwise (·<·):=List.Pairwise.filter _ List.pairwise_lt_range
theorem chAt_get {ch:List Nat}(h1:1≤i)(h2:i≤ch.length):∃ h:i - 1<ch.length,chAt ch i=ch[i - 1]:=by
 refine⟨by omega,?_⟩;unfold chAt;rw[if_neg (by omega),gDq,List.getElem?_eq_getElem (by omega)]
 rfl
theorem PgOk.ch (h:PgOk pg mark)(h1:1≤i)(h2:i≤(chF pg mark).length):2≤chAt (chF pg mark) i∧chAt (chF pg mark) i<mark∧pg (chAt (chF pg mark) i)=some (.rc (rcAt pg (chAt (chF pg mark) i))):=by
 obtain⟨hl,e⟩:=chAt_get h1 h2;have hm:=List.getElem_mem hl;rw[← e,chF_mem]at hm;obtain⟨a,r,b⟩:=hm;refine⟨(h.hrc _ _ b).1,a,?_⟩;unfold rcAt;rw[b]
theorem chAt_mono {ch:List Nat}(hs:ch.Pairwise (·<·))(h1:1≤i)(h2:i<j)(h3:j≤ch.length):chAt ch i<chAt ch j:=by
 obtain⟨a,ea⟩:=chAt_get h1 (by omega:i≤ch.length);obtain⟨b,eb⟩:=chAt_get (by omega:1≤j) h3;rw[ea,eb];exact (List.pairwise_iff_getElem.1 hs) _ _ _ _ (by omega)
theorem cnt_sorted {p:Nat}:∀ {l:List Nat},l.Pairwise (·<·)→(∀ i (h:i<l.length),i<l.countP (fun x=>decide (x<p))→l[i]<p)∧(∀ i (h:i<l.length),l.countP (fun x=>decide (x<p))≤i→p≤l[i])
 | [],_=>⟨fun i h _=>absurd h (by simp),fun i h _=>absurd h (by simp)⟩
 | a::l,hs=>by
  obtain⟨h1,h2⟩:=List.pairwise_cons.1 hs;obtain⟨i1,i2⟩:=cnt_sorted (p:=p) h2
  by_cases ha:a<p
  ·rw[List.countP_cons,if_pos (by simpa using ha)]
   refine⟨fun i h hi=>?_,fun i h hi=>?_⟩
   ·cases i with
    | zero=>exact ha
    | succ i=>exact i1 i (by simpa using h) (by omega)
   ·cases i with
    | zero=>omega
    | succ i=>exact i2 i (by simpa using h) (by omega)
  ·have h0:l.countP (fun x=>decide (x<p))=0:=List.countP_eq_zero.2 fun x hx=>by have:=h1 x hx;simp;omega
   rw[List.countP_cons,if_neg (by simpa using ha),h0];refine⟨fun i h hi=>absurd hi (by omega),fun i h _=>?_⟩
   cases i with
   | zero=>show p≤a;omega
   | succ i =>
    have:=h1 _ (List.getElem_mem (show i<l.length by simpa using h));show p≤l[i]'(by simpa using h);omega
def ownIx (ch:List Nat)(p:Nat):Nat:=ch.countP fun x=>decide (x<p)
def uses (wd:Int)(pg:Nat→Option Pg)(ch:List Nat)(i p:Nat):Prop:=1≤i∧(p=chAt ch i∨p ∈ (trP wd pg ch i).pgs)
def VsOk (wd:Int)(pg:Nat→Option Pg)(ch:List Nat):Prop:=∀ i,i<ch.length→verP wd pg ch (i+1) (trP wd pg ch i)=.ok (trP wd pg ch (i+1))
theorem VsOk.trees (h:PgOk pg mark)(hv:VsOk wd pg (chF pg mark)):∀ {i:Nat}, i≤(chF pg mark).length→(trP wd pg (chF pg mark) i).Wf 0∧Stands (dgT wd) (pnOf pg) 0 (trP wd pg (chF pg mark) i)∧(trP wd pg (chF pg mark) i).page<max 1 (chAt (chF pg mark) i)+1 ∧
  (0<i→chainR pg (chF pg mark) i∧Ver wd (pnOf pg) (max 1 (chAt (chF pg mark) (i - 1))+1) (trP wd pg (chF pg mark) (i - 1)) (chAt (chF pg mark) i) (rcAt pg (chAt (chF pg mark) i)) (trP wd pg (chF pg mark) i))
 | 0,_=>⟨trivial,trivial,by show 0<_;omega,fun h=>absurd h (by omega)⟩
 | i+1,hi=>by
  obtain⟨a,b,c,_⟩:=VsOk.trees h hv (i:=i) (by omega);have hc:=h.ch (i:=i+1) (by omega) hi;have hr:=hv i (by omega);unfold verP at hr;split at hr
  ·rename_i hcr
   rw[jZ]at hr;have g:=root1_ok h.nd a b c (h.rc _).2.1 (by omega) hr;exact⟨g.1,g.2.1,by have:=g.2.2.2.2.2.2.2;omega,fun _=>⟨hcr,by rw[jZ];exact g⟩⟩
  ·cases hr
section
variable (h:PgOk pg mark) (hv:VsOk wd pg (chF pg mark))
include h hv
theorem uses_rng (hi:i≤(chF pg mark).length)(hu:uses wd pg (chF pg mark) i p):2≤p∧p≤chAt (chF pg mark) i:=by
 obtain⟨h1,hu⟩:=hu
 rcases hu with rfl | hu
 ·exact⟨(h.ch h1 hi).1,xT _⟩
 ·obtain⟨a,b,_,c⟩:=hv.trees h hi
  have:=pgs_le b hu;have:=(c (by omega)).2.2.2.2.2.2.2.2;exact⟨pgs_pos a hu,by omega⟩
theorem uses_own (hi:i≤(chF pg mark).length)(hu:uses wd pg (chF pg mark) i p):ownIx (chF pg mark) p+1≤i:=by
 have h2:=(uses_rng h hv hi hu).2;have h1:=hu.1;obtain⟨hl,e⟩:=chAt_get h1 hi;rw[e]at h2;refine Classical.byContradiction fun hn=>?_;have:=(cnt_sorted (p:=p) (chF_sort pg mark)).1 (i - 1) hl (by unfold ownIx at hn;omega);omega
theorem own_le (h1:1≤i)(hi:i≤(chF pg mark).length):ownIx (chF pg mark) p+1≤i ↔ p≤chAt (chF pg mark) i:=by
 obtain⟨hl,e⟩:=chAt_get h1 hi;rw[e];constructor
 ·intro hn
  exact (cnt_sorted (p:=p) (chF_sort pg mark)).2 (i - 1) hl (by unfold ownIx at hn;omega)
 ·intro hn
  refine Classical.byContradiction fun hc=>?_;have:=(cnt_sorted (p:=p) (chF_sort pg mark)).1 (i - 1) hl (by unfold ownIx at hc;omega);omega
theorem uses_old (hi:i≤(chF pg mark).length)(hu:uses wd pg (chF pg mark) i p)(ho:ownIx (chF pg mark) p+1<i):uses wd pg (chF pg mark) (i - 1) p:=by
 have hp:=(own_le h hv (i:=i - 1) (p:=p) (by omega) (by omega)).1 (by omega);have hm:=chAt_mono (chF_sort pg mark) (i:=i - 1) (j:=i) (by omega) (by omega) hi;obtain⟨h1,hu⟩:=hu
 rcases hu with rfl | hu
 ·omega
 ·obtain⟨_,_,_,c⟩:=hv.trees h hi
  have hl:=(c (by omega)).2.2.2.2.2.2.2.1
  rcases (lay_pgs hl).2.1 p hu with hp' | hp'
  ·exact⟨by omega,.inr hp'⟩
  ·omega
theorem own_uses (hmk:(chF pg mark).length=0∧mark≤2∨0<(chF pg mark).length∧mark≤chAt (chF pg mark) (chF pg mark).length+1)(h2:2≤p)(hp:p<mark):ownIx (chF pg mark) p<(chF pg mark).length∧uses wd pg (chF pg mark) (ownIx (chF pg mark) p+1) p:=by
 rcases hmk with hmk | ⟨hn,hmk⟩
 ·omega
 ·have hlt:=(own_le h hv (i:=(chF pg mark).length) (p:=p) (by omega) (xT _)).2 (by omega)
  refine⟨by omega,by omega,?_⟩;have hle:=(own_le h hv (i:=ownIx (chF pg mark) p+1) (p:=p) (by omega) (by omega)).1 (xT _)
  by_cases e:p=chAt (chF pg mark) (ownIx (chF pg mark) p+1)
  ·exact .inl e
  ·obtain⟨_,_,_,c⟩:=hv.trees h (i:=ownIx (chF pg mark) p+1) (by omega)
   have hl:=(c (by omega)).2.2.2.2.2.2.2.1;refine .inr ((lay_pgs hl).2.2 p ?_ (by omega));rw[jZ]
   by_cases h0:ownIx (chF pg mark) p=0
   ·rw[h0];show max 1 (chAt _ 0)+1≤p
    have:chAt (chF pg mark) 0=0:=rfl;omega
   ·have:=(not_congr (own_le h hv (i:=ownIx (chF pg mark) p) (p:=p) (by omega) (by omega))).1 (by omega)
    omega
end
end
theorem pgOk {s:Sup}(h:s.ok):PgOk (pgF im s.mark) s.mark where
 hm:=by obtain⟨_,_,h3,h4,_⟩:=h;omega
 hpg p hp:=qJl fun e=>by omega
 hnd p n hn:=by obtain⟨h2,_,ha⟩:=pgF_some hn;exact⟨h2,qVf ha⟩
 hrc p r hr:=by obtain⟨h2,_,ha⟩:=pgF_some hr;exact⟨h2,qVf ha⟩
structure Cln (im:Bs) (s:Sup):Prop where
 ok:s.ok
 one:∀ p,2≤p→p<s.mark→pgF im s.mark p≠none
 vs:VsOk s.width (pgF im s.mark) (chF (pgF im s.mark) s.mark)
 mkd:(chF (pgF im s.mark) s.mark).length=0∧s.mark=2∧s.head=0∨0<(chF (pgF im s.mark) s.mark).length∧s.mark=chAt (chF (pgF im s.mark) s.mark) (chF (pgF im s.mark) s.mark).length+1∧s.head=chAt (chF (pgF im s.mark) s.mark) (chF (pgF im s.mark) s.mark).length
theorem look_sup {s:Sup}{fs:List (Nat × Int)}(h:lookP im=.ok (s,fs)):s.ok∧fs=foundP im s:=by
 unfold lookP at h;split at h
 ·cases h
 ·split at h
  ·cases h
  ·split at h
   ·cases h
   ·rename_i s' hc
    split at h
    ·cases h
    ·cases h;exact⟨chooseP_ok hc,rfl⟩
theorem qVc {s:Sup}(h:lookP im=.ok (s,[])):Cln im s:=by
 obtain⟨hs,hf⟩:=look_sup h
 have hf1:qZg im s.mark=[]:=by
  unfold foundP at hf;split at hf
  ·rename_i e;exact e
  ·exact hf.symm
 unfold foundP at hf;rw[if_pos hf1]at hf;generalize hpg:pgF im s.mark=pg at *;have hok:=pgOk (im:=im) hs;rw[hpg]at hok
 have hone:∀ p,2≤p→p<s.mark→pg p≠none:=fun p h2 hp he=>by
  have hw:qXz im p=0:=by
   by_cases hw:qXz im p=0
   ·exact hw
   ·have:(p,qXz im p) ∈ qZg im s.mark:=List.mem_filterMap.2 ⟨p,List.mem_range.2 hp,if_neg hw⟩
    rw[hf1]at this;cases this
  have hpe:pgF im s.mark p=(match qXp p (pgB im p) with | .ok g=>some g | .error _=>none):=if_pos ⟨h2,hp⟩;unfold qXz at hw;rw[if_neg (by omega)]at hw;rw[hpg,he]at hpe;split at hpe
  ·cases hpe
  ·rename_i e hae
   rw[hae]at hw;have hw:e=0:=hw;exact alone_err hae hw
 cases hw:wholeP s.width pg (chF pg s.mark) s.mark s.head with
 | error e=>rw[hw]at hf;cases hf
 | ok x =>
  clear hf;unfold wholeP at hw;split at hw
  ·cases hw
  ·rename_i x hx
   have hvs:VsOk s.width pg (chF pg s.mark):=fun i hi=>versP_all (n:=(chF pg s.mark).length) (i:=0) hx i (by omega) (by omega)
   have hmk:(chF pg s.mark).length=0∧s.mark=2∧s.head=0∨0<(chF pg s.mark).length∧s.mark=chAt (chF pg s.mark) (chF pg s.mark).length+1∧s.head=chAt (chF pg s.mark) (chF pg s.mark).length:=by
    have hw:(if max 1 (chAt (chF pg s.mark) (chF pg s.mark).length)+1<s.mark then .error (max 1 (chAt (chF pg s.mark) (chF pg s.mark).length)+1,172) else if 0<(chF pg s.mark).length∧s.head≠max 1 (chAt (chF pg s.mark) (chF pg s.mark).length) then .error (max 1 (chAt (chF pg s.mark) (chF pg s.mark).length),173) else .ok ():Except (Nat × Int) Unit)=.ok x:=hw;split at hw
    ·cases hw
    ·rename_i h1
     split at hw
     ·cases hw
     ·rename_i h2
      obtain⟨_,_,_,⟨h5,_⟩,h6⟩:=hs
      by_cases h0:(chF pg s.mark).length=0
      ·rw[h0]at h1
       have:chAt (chF pg s.mark) 0=0:=rfl;refine .inl ⟨h0,by omega,by omega⟩
      ·have hc:=hok.ch (i:=(chF pg s.mark).length) (by omega) (xT _)
       have h3:s.head=max 1 (chAt (chF pg s.mark) (chF pg s.mark).length):=Classical.byContradiction fun e=>h2 ⟨by omega,e⟩;exact .inr ⟨by omega,by omega,by omega⟩
   exact⟨hs,by rw[hpg];exact hone,by rw[hpg];exact hvs,by rw[hpg];exact hmk⟩
where
 alone_err {p:Nat} {raw:Bs} {e:Int} (h:qXp p raw=.error e) (h0:e=0):False:=by
  subst h0;unfold qXp at h;split at h
  ·rename_i e' hu
   cases h;unfold unpP at hu
   repeat' split at hu
   all_goals cases hu
  ·repeat' split at h
   all_goals cases h
end Aud
end
namespace Aud
theorem qZz {a r:Bs}{i v:Nat}(ha:a.length=i)(hv:v<4294967296):nat4 (a++(leB 4 v++r)) i=v:=by
 unfold nat4;rw[jQ ha,z8 (qQx 4 v)];exact le_leB (by omega)
theorem sub_at {a b r:Bs}(ha:a.length=i)(hb:b.length=j):((a++(b++r)).drop i).take j=b:=by
 rw[jQ ha,z8 hb]
theorem qJe (h:i+4≤l.length):leB 4 (nat4 l i)=(l.drop i).take 4:=by
 have h4:((l.drop i).take 4).length=4:=by rw[lTk,lDr];omega
 have:=leB_le ((l.drop i).take 4);rw[h4]at this;exact this
theorem qJs (l:Bs)(i j:Nat):l.take i++(l.drop i).take j=l.take (i+j):=(List.take_add (l:=l) (i:=i) (j:=j)).symm
theorem chR_lt {p c:Nat}{s:Bs}(h:chR p c s):p<4096∧c≤4096:=by
 unfold chR at h;split at h
 ·omega
 ·omega
theorem decN_iff {n:Nd}:decN k l=some n ↔ n.right∧k=n.kind∧l=lodN n:=by
 constructor
 ·intro h
  refine⟨decN_right h,?_⟩;unfold decN at h;split at h
  ·rename_i hk
   split at h
   ·cases h
    exact⟨hk,(List.take_append_drop 32 l).symm⟩
   ·cases h
  ·split at h
   ·rename_i hl
    cases h;refine⟨hl.1,?_⟩;show l=leB 4 (nat4 l 0)++leB 4 (nat4 l 4)++leB 4 (nat4 l 8)++leB 4 (nat4 l 12)++(l.drop 16).take 32++(l.drop 48).take 32;have hl:=hl.2.1;rw[qJe (by omega),qJe (by omega),qJe (by omega),qJe (by omega),List.drop_zero,qJs,qJs,qJs,qJs,qJs];rw[zT (by omega)]
   ·cases h
 ·rintro⟨hr,rfl,rfl⟩
  cases n with
  | leaf k v =>
   have hr:k.length=32∧v.length≤128:=hr;unfold decN;rw[if_pos (show Nd.kind (.leaf k v)=1 from rfl),if_pos (by show 32≤(k++v).length∧(k++v).length≤160;rw[lAp];omega)];show some (Nd.leaf ((k++v).take 32) ((k++v).drop 32))=_;rw[z8 hr.1,jQ hr.1]
  | br lp rp lc rc ls rs =>
   obtain⟨hb,h1,h2⟩:brR lp rp lc rc ls rs∧ls.length=32∧rs.length=32:=hr;have hl:=chR_lt hb.1;have hr':=chR_lt hb.2.1
   have e:lodN (.br lp rp lc rc ls rs)=leB 4 lp++(leB 4 rp++(leB 4 lc++(leB 4 rc++(ls++(rs++[]))))):=by
    show leB 4 lp++leB 4 rp++leB 4 lc++leB 4 rc++ls++rs=_;simp only[zO,List.append_nil]
   have n0:nat4 (lodN (.br lp rp lc rc ls rs)) 0=lp:=by rw[e];exact qZz (a:=[]) rfl (by omega)
   have n4:nat4 (lodN (.br lp rp lc rc ls rs)) 4=rp:=by rw[e];exact qZz (a:=leB 4 lp) rfl (by omega)
   have n8:nat4 (lodN (.br lp rp lc rc ls rs)) 8=lc:=by rw[e,← zO];exact qZz (by rfl) (by omega)
   have n12:nat4 (lodN (.br lp rp lc rc ls rs)) 12=rc:=by rw[e,← zO,← zO];exact qZz (by rfl) (by omega)
   have n16:((lodN (.br lp rp lc rc ls rs)).drop 16).take 32=ls:=by rw[e,← zO,← zO,← zO];exact sub_at (by rfl) h1
   have n48:((lodN (.br lp rp lc rc ls rs)).drop 48).take 32=rs:=by
    rw[e,← zO,← zO,← zO,← zO];exact sub_at (by rw[lAp,h1];rfl) h2
   have hlen:(lodN (.br lp rp lc rc ls rs)).length=80:=by
    rw[e];simp only[lAp,qQx,h1,h2,List.length_nil]
   unfold decN;rw[if_neg (by show ¬ (2=1);decide),n0,n4,n8,n12,n16,n48,if_pos ⟨rfl,hlen,hb⟩]
theorem decR_iff {r:Rc}:decR l=some r ↔ (r.right∧r.sum.length=32)∧l=lodR r:=by
 constructor
 ·intro h
  refine⟨decR_right h,?_⟩;unfold decR at h;split at h
  ·rename_i hl
   cases h;have hl:=hl.1;show l=leB 4 (nat4 l 0)++leB 4 (nat4 l 4)++leB 4 (nat4 l 8)++leB 4 (nat4 l 12)++leB 4 (nat4 l 16)++leB 4 (nat4 l 20)++(l.drop 24).take 32;rw[qJe (by omega),qJe (by omega),qJe (by omega),qJe (by omega),qJe (by omega),qJe (by omega),List.drop_zero,qJs,qJs,qJs,qJs,qJs,qJs];rw[zT (by omega)]
  ·cases h
 ·rintro⟨⟨hr,hs⟩,rfl⟩
  obtain⟨v,f,p,k,ro,c,s⟩:=r;have hr0:=hr;obtain⟨r1,r2,r3,r4,r5,r6⟩:=hr;have hs:s.length=32:=hs;simp only at r1 r2 r3 r4 r5 r6
  have bp:p<4096∧k<4096:=by
   split at r6
   ·omega
   ·obtain⟨⟨_,a⟩,b⟩:=r6
    refine⟨a,?_⟩;unfold skipOk at b;split at b
    ·omega
    ·split at b
     ·omega
     ·exact b.1.2
  have br:ro<4096∧c≤4096:=by
   rcases r4 with h | h
   ·omega
   ·exact⟨(r5 h.1).2,h.2.2⟩
  have e:lodR ⟨v,f,p,k,ro,c,s⟩=leB 4 v++(leB 4 f++(leB 4 p++(leB 4 k++(leB 4 ro++(leB 4 c++(s++[])))))):=by
   show leB 4 v++leB 4 f++leB 4 p++leB 4 k++leB 4 ro++leB 4 c++s=_;simp only[zO,List.append_nil]
  have hlen:(lodR ⟨v,f,p,k,ro,c,s⟩).length=56:=by rw[e];simp only[lAp,qQx,hs,List.length_nil]
  have n0:nat4 (lodR ⟨v,f,p,k,ro,c,s⟩) 0=v:=by rw[e];exact qZz (a:=[]) rfl (by omega)
  have n4:nat4 (lodR ⟨v,f,p,k,ro,c,s⟩) 4=f:=by rw[e];exact qZz (a:=leB 4 v) rfl (by omega)
  have n8:nat4 (lodR ⟨v,f,p,k,ro,c,s⟩) 8=p:=by rw[e,← zO];exact qZz (by rfl) (by omega)
  have n12:nat4 (lodR ⟨v,f,p,k,ro,c,s⟩) 12=k:=by rw[e,← zO,← zO];exact qZz (by rfl) (by omega)
  have n16:nat4 (lodR ⟨v,f,p,k,ro,c,s⟩) 16=ro:=by rw[e,← zO,← zO,← zO];exact qZz (by rfl) (by omega)
  have n20:nat4 (lodR ⟨v,f,p,k,ro,c,s⟩) 20=c:=by rw[e,← zO,← zO,← zO,← zO];exact qZz (by rfl) (by omega)
  have n24:((lodR ⟨v,f,p,k,ro,c,s⟩).drop 24).take 32=s:=by rw[e,← zO,← zO,← zO,← zO,← zO];exact sub_at (by rfl) hs
  have hR:rcR (lodR ⟨v,f,p,k,ro,c,s⟩)=⟨v,f,p,k,ro,c,s⟩:=by unfold rcR;rw[n0,n4,n8,n12,n16,n20,n24]
  unfold decR;rw[hR,if_pos ⟨hlen,hr0⟩]
def Pg.right:Pg→Prop
 | .nd n=>n.right
 | .rc r=>r.right∧r.sum.length=32
theorem lodN_len {n:Nd}(h:n.right):(lodN n).length≤160:=by
 cases n with
 | leaf k v =>
  have h:k.length=32∧v.length≤128:=h;show (k++v).length≤160;rw[lAp];omega
 | br lp rp lc rc ls rs =>
  obtain⟨_,h1,h2⟩:brR lp rp lc rc ls rs∧ls.length=32∧rs.length=32:=h;show (leB 4 lp++leB 4 rp++leB 4 lc++leB 4 rc++ls++rs).length≤160;simp only[lAp,qQx,h1,h2];omega
theorem lodR_len {r:Rc}(h:r.sum.length=32):(lodR r).length=56:=by
 show (leB 4 r.ver++leB 4 r.first++leB 4 r.prev++leB 4 r.skip++leB 4 r.root++leB 4 r.count++r.sum).length=56;simp only[lAp,qQx,h]
theorem alone_iff (hl:raw.length=256)(hp:p<4096){g:Pg}:qXp p raw=.ok g ↔ g.right∧raw=g.bytes p:=by
 unfold qXp;constructor
 ·intro h
  split at h
  ·cases h
  ·rename_i k l hu
   obtain⟨_,_,e⟩:=(unp_iff hl hp).1 hu;split at h
   ·rename_i hk
    split at h
    ·rename_i r hr
     cases h;obtain⟨a,b⟩:=decR_iff.1 hr;exact⟨a,by rw[e,b,hk];rfl⟩
    ·cases h
   ·split at h
    ·rename_i n hn
     cases h;obtain⟨a,b,c⟩:=decN_iff.1 hn;exact⟨a,by rw[e,b,c];rfl⟩
    ·cases h
 ·rintro⟨hr,e⟩
  cases g with
  | nd n =>
   have hk:1≤n.kind∧n.kind≤2:=by cases n <;> simp[Nd.kind]
   have hu:unpP p raw=.ok (n.kind,lodN n):=(unp_iff hl hp).2 ⟨by omega,by have:=lodN_len hr;omega,e⟩;rw[hu];show (if n.kind=3 then _ else _)=_;rw[if_neg (by omega),decN_iff.2 ⟨hr,rfl,rfl⟩]
  | rc r =>
   have hu:unpP p raw=.ok (3,lodR r):=(unp_iff hl hp).2 ⟨by omega,by rw[lodR_len hr.2];omega,e⟩;rw[hu];show (if 3=3 then _ else _)=_;rw[if_pos rfl,decR_iff.2 ⟨hr,rfl⟩]
def qKv (s:Sup):Bs:=padTo 0 60 ([76,68,71,49,zD 8 s.width,0,0,0]++leB 8 s.gen++leB 4 s.mark++leB 4 s.head++leB 4 s.pages)
def supB (s:Sup):Bs:=padTo 0 256 (qKv s++sealB (qJt 0 (qKv s)))
theorem qZx (s:Sup):(qKv s).length=60:=qZb (by simp[qQx])
theorem supB_len (s:Sup):(supB s).length=256:=qZb (by rw[lAp,qZx];show 60+4≤256;decide)
theorem leB_take (n m v:Nat):(leB (n+m) v).take n=leB n v:=by
 induction n generalizing v with
 | zero=>simp[leB]
 | succ n ih =>
  rw[show n+1+m=(n+m)+1 by omega];show (zD 8 v::leB (n+m) (v / 256)).take (n+1)=zD 8 v::leB n (v / 256);rw[List.take_succ_cons,ih]
theorem zer_rep (n:Nat):zer (zV n 0)=true:=zer_iff.2 (by rw[lRe])
theorem supP_supB {s:Sup}(h:s.ok):supP (supB s)=.ok s∧zer ((supB s).drop 64)=true:=by
 obtain⟨h1,h2,h3,h4,h5⟩:=id h;obtain⟨w,g,m,pgs,hd⟩:=s;simp only at h1 h2 h3 h4 h5;generalize hsl:sealB (qJt 0 (qKv ⟨w,g,m,pgs,hd⟩))=sl;have sll:sl.length=4:=by rw[← hsl];rfl
 have eb:qKv ⟨w,g,m,pgs,hd⟩=[76,68,71,49,zD 8 w,0,0,0]++(leB 8 g++(leB 4 m++(leB 4 hd++(leB 4 pgs++zV 32 0)))):=by
  unfold qKv padTo;rw[show ([76,68,71,49,zD 8 w,0,0,0]++leB 8 g++leB 4 m++leB 4 hd++leB 4 pgs:Bs).length=28 from rfl];simp only[zO]
 have e64:(supB ⟨w,g,m,pgs,hd⟩)=(qKv ⟨w,g,m,pgs,hd⟩++sl)++zV 192 0:=by
  unfold supB padTo;rw[hsl,lAp,qZx,sll]
 have hl64:(qKv ⟨w,g,m,pgs,hd⟩++sl).length=64:=by rw[lAp,qZx,sll]
 have t64:(supB ⟨w,g,m,pgs,hd⟩).take 64=qKv ⟨w,g,m,pgs,hd⟩++sl:=by rw[e64,z8 hl64]
 have d64:(supB ⟨w,g,m,pgs,hd⟩).drop 64=zV 192 0:=by rw[e64,jQ hl64]
 refine⟨?_,by rw[d64];exact zer_rep _⟩
 have hw:wholeB ((supB ⟨w,g,m,pgs,hd⟩).take 64)=true:=by
  unfold wholeB;rw[t64,hl64,decide_eq_true_eq,show 64 - 4=60 from rfl,jQ (qZx _),z8 (qZx _),hsl]
 have e:supB ⟨w,g,m,pgs,hd⟩=[76,68,71,49,zD 8 w,0,0,0]++(leB 8 g++(leB 4 m++(leB 4 hd++(leB 4 pgs++(zV 32 0++(sl++zV 192 0)))))):=by
  rw[e64,eb];simp only[zO]
 generalize supB ⟨w,g,m,pgs,hd⟩=raw at *;have a4:(raw.getD 4 0).toNat=w:=by rw[e];show (zD 8 w).toNat=w;rw[BitVec.toNat_ofNat];omega
 have b8:(raw.drop 8).take 8=leB 8 g:=by rw[e];exact sub_at (by rfl) (qQx 8 g)
 have a8:le ((raw.drop 8).take 7)=g:=by
  have:(raw.drop 8).take 7=((raw.drop 8).take 8).take 7:=by rw[List.take_take];rfl
  rw[this,b8,show leB 8 g=leB (7+1) g from rfl,leB_take];exact le_leB (by omega)
 have a16:le ((raw.drop 16).take 4)=m:=by
  have:=qZz (a:=[76,68,71,49,zD 8 w,0,0,0]++leB 8 g) (r:=leB 4 hd++(leB 4 pgs++(zV 32 0++(sl++zV 192 0)))) (i:=16) (v:=m) (by rfl) (by omega);rw[e,← zO];exact this
 have a20:le ((raw.drop 20).take 4)=hd:=by
  have:=qZz (a:=[76,68,71,49,zD 8 w,0,0,0]++leB 8 g++leB 4 m) (r:=leB 4 pgs++(zV 32 0++(sl++zV 192 0))) (i:=20) (v:=hd) (by rfl) (by omega);rw[e,← zO,← zO];exact this
 have a24:le ((raw.drop 24).take 4)=pgs:=by
  have:=qZz (a:=[76,68,71,49,zD 8 w,0,0,0]++leB 8 g++leB 4 m++leB 4 hd) (r:=zV 32 0++(sl++zV 192 0)) (i:=24) (v:=pgs) (by rfl) (by omega);rw[e,← zO,← zO,← zO];exact this
 have hR:supR raw=⟨w,g,m,pgs,hd⟩:=by unfold supR;rw[a4,a8,a16,a20,a24]
 have a15:raw.getD 15 0=0:=by
  rw[e];show zD 8 (g / 256 / 256 / 256 / 256 / 256 / 256 / 256)=0;rw[show g / 256 / 256 / 256 / 256 / 256 / 256 / 256=0 by omega];rfl
 have a28:(raw.drop 28).take 32=zV 32 0:=by
  rw[e,← zO,← zO,← zO,← zO];exact sub_at (by rfl) (by simp)
 have hF:supF raw:=⟨by rw[e];rfl,by rw[e];rfl,by rw[a28];exact zer_rep _,a15⟩
 unfold supP;rw[hw,if_neg (by decide),hR,if_pos ⟨hF,h⟩]
end Aud
namespace Aud
def kz:Bs:=zV 32 0
def smT:PT:=.leaf 2 kz [7]
def smR (D:Bs):Rc:=⟨1,0,0,0,2,1,D⟩
def smS:Sup:=⟨3,2,4,5,3⟩
def smW:Sup:=⟨3,1,2,5,0⟩
def smI (D:Bs):Bs:=supB smS++(supB smW++(pagB 1 2 (kz++[7])++(pagB 3 3 (lodR (smR D))++zV 256 0)))
theorem smI_len (hl:D.length=32):(smI D).length=1280:=by
 have h1:(pagB 1 2 (kz++[7])).length=256:=qJc (by decide);have h2:(pagB 3 3 (lodR (smR D))).length=256:=qJc (by rw[lodR_len (show (smR D).sum.length=32 from hl)];decide);unfold smI;simp only[lAp,supB_len,h1,h2,lRe]
theorem smI_pg (hl:D.length=32):pgB (smI D) 0=supB smS∧pgB (smI D) 1=supB smW∧pgB (smI D) 2=pagB 1 2 (kz++[7])∧pgB (smI D) 3=pagB 3 3 (lodR (smR D)):=by
 have h1:(pagB 1 2 (kz++[7])).length=256:=qJc (by decide);have h2:(pagB 3 3 (lodR (smR D))).length=256:=qJc (by rw[lodR_len (show (smR D).sum.length=32 from hl)];decide);unfold smI;generalize hA:pagB 1 2 (kz++[7])=A at *;generalize hB:pagB 3 3 (lodR (smR D))=B at *;have a:=supB_len smS;have b:=supB_len smW;generalize supB smS=X at *;generalize supB smW=Y at *;refine⟨?_,?_,?_,?_⟩
 ·exact sub_at (a:=[]) rfl a
 ·exact sub_at a b
 ·unfold pgB
  rw[← zO];exact sub_at (by rw[lAp,a,b]) h1
 ·unfold pgB
  rw[← zO,← zO];exact sub_at (by rw[lAp,lAp,a,b,h1]) h2
theorem smR_right (hl:D.length=32):(smR D).right∧(smR D).sum.length=32:=by
 refine⟨⟨by show 0≤2 ^ 30;decide,by show max 1 0≤1;decide,by show 1≤2 ^ 30;decide,.inr ⟨by show (2:Nat)≠0;decide,by show 0<1;decide,by show 1≤4096;decide⟩,fun _=>⟨by show 2≤2;decide,by show 2<4096;decide⟩,?_⟩,hl⟩;show (if (smR D).num=1 then _ else _);rw[if_pos (by rfl)];exact⟨rfl,rfl⟩
theorem small_alone (hl:D.length=32):qXp 2 (pgB (smI D) 2)=.ok (.nd (.leaf kz [7]))∧qXp 3 (pgB (smI D) 3)=.ok (.rc (smR D)):=by
 obtain⟨_,_,e2,e3⟩:=smI_pg hl;have l2:(pgB (smI D) 2).length=256:=pgB_len (by rw[smI_len hl];decide);have l3:(pgB (smI D) 3).length=256:=pgB_len (by rw[smI_len hl];decide);refine⟨(alone_iff l2 (by decide)).2 ⟨?_,e2⟩,(alone_iff l3 (by decide)).2 ⟨smR_right hl,e3⟩⟩;show kz.length=32∧_;exact⟨by decide,by decide⟩
theorem small_pg (hl:D.length=32):pgF (smI D) 4 0=none∧pgF (smI D) 4 1=none∧pgF (smI D) 4 2=some (.nd (.leaf kz [7]))∧pgF (smI D) 4 3=some (.rc (smR D)):=by
 obtain⟨a2,a3⟩:=small_alone hl;refine⟨qJl (by decide),qJl (by decide),?_,?_⟩
 ·unfold pgF;rw[if_pos (by decide),a2]
 ·unfold pgF;rw[if_pos (by decide),a3]
theorem small_ch (hl:D.length=32):chF (pgF (smI D) 4) 4=[3]:=by
 obtain⟨p0,p1,p2,p3⟩:=small_pg hl;unfold chF;rw[show zX 4=[0,1,2,3] from rfl];simp only[List.filter_cons,p0,p1,p2,p3,Bool.false_eq_true,if_false,if_true,List.filter_nil]
theorem small_whole (hl:D.length=32)(hD:dgT 3 256 smT=D):wholeP 3 (pgF (smI D) 4) [3] 4 3=.ok ():=by
 obtain⟨p0,p1,p2,p3⟩:=small_pg hl;generalize pgF (smI D) 4=pg at *;have hr:rcAt pg 3=smR D:=by unfold rcAt;rw[p3]
 have hn:pnOf pg 2=some (.leaf kz [7]):=by unfold pnOf;rw[p2]
 have hv:verP 3 pg [3] 1 .nil=.ok smT:=by
  unfold verP;rw[if_pos (by unfold chainR;rw[show chAt [3] 1=3 from rfl,hr];exact⟨rfl,rfl,rfl,rfl⟩),show chAt [3] 1=3 from rfl,hr];refine root1_conv (show PT.Wf 0 .nil from trivial) (show Stands _ _ 0 .nil from trivial) (fun e he=>by cases he) (by decide) ⟨?_,hn,rfl,rfl,hD,fun e he=>?_,?_,by decide⟩
  ·show 2≤2;exact xT _
  ·rw[List.mem_singleton.1 he];rfl
  ·exact lay_one 256 0 true (show PT.Wf 0 .nil from trivial) kz [7] 2
 unfold wholeP;rw[show ([3]:List Nat).length=0+1 from rfl];unfold versP;rw[hv]
 rfl
theorem small_look (hl:D.length=32)(hD:dgT 3 256 smT=D):lookP (smI D)=.ok (smS,[]):=by
 obtain⟨e0,e1,e2,e3⟩:=smI_pg hl;obtain⟨a2,a3⟩:=small_alone hl;obtain⟨s0,z0⟩:=supP_supB (s:=smS) (by decide);obtain⟨s1,z1⟩:=supP_supB (s:=smW) (by decide);unfold lookP;rw[smI_len hl,if_neg (by decide),if_neg (by decide),e0,e1]
 have hc:qJb (supB smS) (supB smW)=.ok smS:=by
  unfold qJb;rw[s0,s1]
  rfl
 rw[hc];show (if smS.pages≠1280 / 256 then _ else _)=_;rw[if_neg (by decide)]
 have hf:qZg (smI D) 4=[]:=by
  have w0:qXz (smI D) 0=0:=by unfold qXz;rw[if_pos (by decide),e0,z0];rfl
  have w1:qXz (smI D) 1=0:=by unfold qXz;rw[if_pos (by decide),e1,z1];rfl
  have w2:qXz (smI D) 2=0:=by unfold qXz;rw[if_neg (by decide),a2]
  have w3:qXz (smI D) 3=0:=by unfold qXz;rw[if_neg (by decide),a3]
  rw[qZn,qZn,qZn,qZn,w0,w1,w2,w3]
  rfl
 have:foundP (smI D) smS=[]:=by
  unfold foundP;rw[show smS.mark=4 from rfl,hf,if_pos rfl,small_ch hl,show (smS.width:Int)=3 from rfl,show smS.head=3 from rfl,small_whole hl hD]
 rw[this]
end Aud
end Go.V
