/- Helpers. -/
import Derived.Test.YtppmpdjlmgfdkaaGreatDoorG09
import Derived.Test.YtppmpdjlmgfdkaaGreatDoorG07
set_option linter.all false
set_option maxRecDepth 100000
set_option maxHeartbeats 8000000
open BitVec renaming ofNat→zD,toNat_ofNat→zM
open List renaming mem_append_right→zN,replicate→zV,mem_append_left→zP,take_append_of_le_length→zR,take_of_length_le→zT,drop_append_of_le_length→zL,drop_of_length_le→zC,nil_append→zS,take_add→zA
open Nat renaming le_refl→xT,zero_le→zE
open Option renaming or_eq_some_iff→zI
namespace Go.V
variable {a b k raw:Bs} {wd:Int} {fresh h n p:Nat}
namespace Aud
def dgT (wd:Int):Nat→PT→Bs
 | h,.nil=>emptD wd h
 | h,.leaf _ k v=>climb wd k 0 (leafD wd k v) (empts wd h)
 | h,.br _ l r=>qXk wd (dgT wd (h - 1) l) (dgT wd (h - 1) r)
def ndg (wd:Int)(h:Nat):Nd→Bs
 | .leaf k v=>climb wd k 0 (leafD wd k v) (empts wd h)
 | .br lp rp _ _ ls rs=>qXk wd (if lp=0 then emptD wd (h - 1) else ls) (if rp=0 then emptD wd (h - 1) else rs)
def lfOf (k:Bs):PT→Nat
 | .nil=>0
 | .leaf p k' _=>if k'=k then p else 0
 | .br _ l r=>if lfOf k l=0 then lfOf k r else lfOf k l
def rowOf (at':Bool)(o:PT):Nat:=if at' then o.page else 0
def linked (pg:Nat→Option Nd)(n:Nat)(row:Bs)(page by' count:Nat):Option Nd :=
 match pg page with
 | none=>none
 | some (.leaf k v)=>if page<by'∧count=1∧n≤common k row then some (.leaf k v) else none
 | some (.br lp rp lc rc ls rs)=>if page<by'∧count=lc+rc∧n<256 then some (.br lp rp lc rc ls rs) else none
def likeB (lp rp:Nat):PT→Bool
 | .br _ l r=>l.page == lp && r.page == rp
 | _=>false
theorem likeB_iff {lp rp:Nat}{o:PT}:likeB lp rp o=true ↔ ∃ q l' r',o=.br q l' r'∧l'.page=lp∧r'.page=rp:=by
 cases o with
 | nil=>simp[likeB]
 | leaf p k v=>simp[likeB]
 | br p l r =>
  simp only[likeB,Bool.and_eq_true,beq_iff_eq];constructor
  ·rintro⟨h1,h2⟩;exact⟨p,l,r,rfl,h1,h2⟩
  ·rintro⟨q,l',r',h,h1,h2⟩;cases h;exact⟨h1,h2⟩
def under (n:Nat)(b:Bool)(row:Bs):Bs:=if b then row.set (n / 8) (row.getD (n / 8) 0 ||| zD 8 (2 ^ (7 - n % 8))) else row
def thr (wd:Int)(pg:Nat→Option Nd)(fresh:Nat):Nat→Nat→Bool→PT→Bs→Nat→Nat→Nat→Bs→Nat→Except (Nat × Int) (PT × Nat)
 | 0,_,_,_,_,_,by',_,_,_=>.error (by',170)
 | f+1,n,at',o,row,page,by',count,sum,next =>
  match linked pg n row page by' count with
  | none=>.error (by',170)
  | some (.leaf k v) =>
   if page<fresh then
    if lfOf k o=page then (if climb wd k 0 (leafD wd k v) (empts wd (256 - n))=sum then .ok (.leaf page k v,next) else .error (by',171)) else .error (by',172)
   else if page=next∧pageOf k v o=none then (if climb wd k 0 (leafD wd k v) (empts wd (256 - n))=sum then .ok (.leaf page k v,next+1) else .error (by',171)) else .error (page,172)
  | some (.br lp rp lc rc ls rs) =>
   if page<fresh then
    if rowOf at' o=page then (if ndg wd (256 - n) (.br lp rp lc rc ls rs)=sum then .ok (o,next) else .error (by',171)) else .error (by',172)
   else
    match (if lp=0 then .ok (.nil,next) else thr wd pg fresh f (n+1) (at' && isBr o) (kid n false o) (under n false row) lp page lc ls next:Except (Nat × Int) (PT × Nat)) with
    | .error e=>.error e
    | .ok (l,m1) =>
     match (if rp=0 then .ok (.nil,m1) else thr wd pg fresh f (n+1) (at' && isBr o) (kid n true o) (under n true row) rp page rc rs m1:Except (Nat × Int) (PT × Nat)) with
     | .error e=>.error e
     | .ok (r,m2) =>
      if page=m2∧¬ (at'=true∧likeB lp rp o=true) then
       (if ndg wd (256 - n) (.br lp rp lc rc ls rs)=sum then .ok (.br page l r,m2+1) else .error (by',171))
      else .error (page,172)
theorem qKs (hn:n≤256):n≤common a b ↔ ∀ j,j<n→kbit a j=kbit b j:=by
 constructor
 ·intro h j hj
  exact common_same (by omega)
 ·intro h
  by_cases hc:common a b<256
  ·by_cases hlt:common a b<n
   ·exact absurd (h _ hlt) (common_diff hc)
   ·omega
  ·have:=common_le a b;omega
theorem kbit_under {row:Bs}(hl:row.length=32)(hn:n<256)(h0:kbit row n=false)(b:Bool)(j:Nat):kbit (under n b row) j=if j=n then b else kbit row j:=by
 cases b with
 | false =>
  show kbit row j=_
  by_cases h:j=n
  ·rw[if_pos h,h,h0]
  ·rw[if_neg h]
 | true =>
  show kbit (row.set (n / 8) (row.getD (n / 8) 0 ||| zD 8 (2 ^ (7 - n % 8)))) j=_;unfold kbit
  by_cases h8:j / 8=n / 8
  ·have e:(row.set (n / 8) (row.getD (n / 8) 0 ||| zD 8 (2 ^ (7 - n % 8)))).getD (j / 8) 0=row.getD (n / 8) 0 ||| zD 8 (2 ^ (7 - n % 8)):=by
    rw[h8,gDq,List.getElem?_set_self (by omega)];rfl
   rw[e,BitVec.getLsbD_or,h8]
   have hb:(zD 8 (2 ^ (7 - n % 8))).getLsbD (7 - j % 8)=decide (j % 8=n % 8):=by
    have h1:n % 8<8:=Nat.mod_lt _ (by decide);have h2:j % 8<8:=Nat.mod_lt _ (by decide);generalize n % 8=x at *;generalize j % 8=y at *;have:∀ x,x<8→∀ y,y<8→(zD 8 (2 ^ (7 - x))).getLsbD (7 - y)=decide (y=x):=by decide
    exact this x h1 y h2
   rw[hb]
   by_cases h:j=n
   ·rw[if_pos h,h];simp
   ·rw[if_neg h]
    have:j % 8≠n % 8:=fun h'=>h (by omega);simp[this]
  ·have e:(row.set (n / 8) (row.getD (n / 8) 0 ||| zD 8 (2 ^ (7 - n % 8)))).getD (j / 8) 0=row.getD (j / 8) 0:=by
    rw[gDq,List.getElem?_set_ne (by omega),← gDq]
   rw[e,if_neg (fun h=>h8 (by rw[h]))]
def Row (n:Nat)(row:Bs):Prop:=row.length=32∧∀ j,n≤j→j<256→kbit row j=false
theorem Row.under {row:Bs}(h:Row n row)(hn:n<256)(b:Bool):Row (n+1) (Aud.under n b row):=by
 refine⟨?_,fun j h1 h2=>?_⟩
 ·unfold Aud.under;split
  ·rw[List.length_set];exact h.1
  ·exact h.1
 ·rw[kbit_under h.1 hn (h.2 n (xT _) hn),if_neg (by omega)]
  exact h.2 j (by omega) h2
theorem qZa {row k:Bs}(h:Row n row)(hn:n<256)(b:Bool):n+1≤common k (Aud.under n b row) ↔ n≤common k row∧kbit k n=b:=by
 rw[qKs (by omega),qKs (by omega)];have hz:=h.2 n (xT _) hn;constructor
 ·intro g
  refine⟨fun j hj=>?_,?_⟩
  ·rw[g j (by omega),kbit_under h.1 hn hz,if_neg (by omega)]
  ·rw[g n (by omega),kbit_under h.1 hn hz,if_pos rfl]
 ·rintro⟨g1,g2⟩ j hj
  rw[kbit_under h.1 hn hz]
  by_cases e:j=n
  ·rw[if_pos e,e,g2]
  ·rw[if_neg e];exact g1 j (by omega)
def NdOk (pg:Nat→Option Nd):Prop:=∀ p nd,pg p=some nd→2≤p∧match nd with
 | .leaf k _=>k.length=32
 | .br lp rp lc rc ls rs=>2≤lc+rc∧(lp=0→lc=0∧ls=zV 32 0)∧(rp=0→rc=0∧rs=zV 32 0)
theorem lf_none {k v:Bs}:∀ {o:PT} {n:Nat},o.Wf n→lfOf k o=0→pageOf k v o=none
 | .nil,_,_,_=>rfl
 | .leaf p k' v',n,hw,h=>by
  have hp:2≤p:=hw;unfold lfOf at h;unfold pageOf
  by_cases e:k'=k
  ·rw[if_pos e]at h;omega
  ·rw[if_neg fun h'=>e h'.1]
 | .br p l r,n,hw,h=>by
  obtain⟨_,_,_,_,_,w1,w2⟩:=hw;unfold lfOf at h
  have hl:lfOf k l=0:=by
   by_cases hl:lfOf k l=0
   ·exact hl
   ·rw[if_neg hl]at h;exact absurd h hl
  rw[if_pos hl]at h;unfold pageOf;rw[lf_none (v:=v) w1 hl];exact lf_none w2 h
theorem lf_page {dg:Nat→PT→Bs}{pg:Nat→Option Nd}{k v:Bs}{p:Nat}(hp:p≠0)(hk:pg p=some (.leaf k v)):∀ {o:PT} {n:Nat},o.Wf n→Stands dg pg n o→lfOf k o=p→pageOf k v o=some p
 | .nil,_,_,_,h=>absurd h.symm hp
 | .leaf q k' v',n,hw,hs,h=>by
  unfold lfOf at h
  by_cases e:k'=k
  ·rw[if_pos e]at h
   subst h;have hs:pg q=some (.leaf k' v'):=hs;rw[hs]at hk;cases hk;unfold pageOf;rw[if_pos ⟨rfl,rfl⟩]
  ·rw[if_neg e]at h;exact absurd h.symm hp
 | .br q l r,n,hw,hs,h=>by
  obtain⟨_,_,_,_,_,w1,w2⟩:=hw;obtain⟨_,_,_,s1,s2⟩:=hs;unfold lfOf at h;unfold pageOf
  by_cases hl:lfOf k l=0
  ·rw[if_pos hl]at h
   rw[lf_none (v:=v) w1 hl];exact lf_page hp hk w2 s2 h
  ·rw[if_neg hl]at h
   rw[lf_page hp hk w1 s1 h];rfl
theorem qKq {pg:Nat→Option Nd}{row:Bs}{page by' count:Nat}{nd:Nd}(h:linked pg n row page by' count=some nd):pg page=some nd∧page<by'∧match nd with
  | .leaf k _=>count=1∧n≤common k row
  | .br _ _ lc rc _ _=>count=lc+rc∧n<256:=by
 unfold linked at h;split at h
 ·cases h
 ·rename_i k v hp
  split at h
  ·rename_i hc;cases h;exact⟨hp,hc.1,hc.2⟩
  ·cases h
 ·rename_i lp rp lc rc ls rs hp
  split at h
  ·rename_i hc;cases h;exact⟨hp,hc.1,hc.2⟩
  ·cases h
theorem kid_stands {dg:Nat→PT→Bs}{pg:Nat→Option Nd}{o:PT}(h:Stands dg pg n o)(b:Bool):Stands dg pg (n+1) (kid n b o):=by
 cases o with
 | nil=>exact trivial
 | leaf p k v =>
  show Stands dg pg (n+1) (if kbit k n=b then PT.leaf p k v else PT.nil)
  by_cases e:kbit k n=b
  ·rw[if_pos e];exact h
  ·rw[if_neg e];exact trivial
 | br p l r =>
  obtain⟨_,_,_,h1,h2⟩:=h;cases b
  ·exact h1
  ·exact h2
theorem kid_page {dg:Nat→PT→Bs}{pg:Nat→Option Nd}{o:PT}(h:Stands dg pg n o)(hf:o.page<fresh)(b:Bool):(kid n b o).page<fresh:=by
 cases o with
 | nil=>exact hf
 | leaf p k v =>
  show (if kbit k n=b then PT.leaf p k v else PT.nil).page<fresh
  by_cases e:kbit k n=b
  ·rw[if_pos e];exact hf
  ·rw[if_neg e];exact Nat.lt_of_le_of_lt (zE _) hf
 | br p l r =>
  obtain⟨_,h1,h2,_⟩:=h;have hf:p<fresh:=hf;cases b
  ·exact Nat.lt_trans h1 hf
  ·exact Nat.lt_trans h2 hf
theorem kid_row {o:PT}{row:Bs}(hw:o.Wf n)(hr:Row n row)(hn:n<256)(h:∀ e ∈ o.ents,n≤common e.1 row)(b:Bool):∀ e ∈ (kid n b o).ents,n+1≤common e.1 (under n b row):=by
 cases o with
 | nil=>intro e he;cases he
 | leaf p k v =>
  intro e he;have he:e ∈ (if kbit k n=b then PT.leaf p k v else PT.nil).ents:=he
  by_cases eb:kbit k n=b
  ·rw[if_pos eb]at he
   exact (qZa hr hn b).2 ⟨h e he,by rw[List.mem_singleton.1 he];exact eb⟩
  ·rw[if_neg eb]at he;cases he
 | br p l r =>
  obtain⟨_,_,_,hl,hr',_⟩:=hw;intro e he;cases b
  ·exact (qZa hr hn false).2 ⟨h e (zP _ he),hl e he⟩
  ·exact (qZa hr hn true).2 ⟨h e (zN _ he),hr' e he⟩
theorem said_of {t:PT}(ht:t≠.nil):said (dgT wd) h t=dgT wd h t:=by
 cases t with
 | nil=>exact absurd rfl ht
 | leaf p k v=>rfl
 | br p l r=>rfl
theorem ndg_br {pg:Nat→Option Nd}{l r:PT}{n m:Nat}(hl:l.Wf n)(hr:r.Wf m){lc rc:Nat}:ndg wd h (.br l.page r.page lc rc (said (dgT wd) (h - 1) l) (said (dgT wd) (h - 1) r))=dgT wd h (.br p l r):=by
 have key:∀ {t:PT} {n:Nat},t.Wf n→(if t.page=0 then emptD wd (h - 1) else said (dgT wd) (h - 1) t)=dgT wd (h - 1) t:=fun {t n} hw=>by
  by_cases e:t.page=0
  ·rw[if_pos e,t.page_nil hw e];rfl
  ·rw[if_neg e,said_of fun h=>e (by rw[h];rfl)]
 show qXk wd _ _=qXk wd _ _;rw[key hl,key hr]
theorem thr_ok {pg:Nat→Option Nd}(hpg:NdOk pg):∀ {f n:Nat} {at':Bool} {o:PT} {row:Bs} {page by' count:Nat} {sum:Bs} {next:Nat} {t:PT} {next':Nat}, n≤256→Row n row→o.Wf n→Stands (dgT wd) pg n o→o.page<fresh→fresh≤next →
  thr wd pg fresh f n at' o row page by' count sum next=.ok (t,next')→(∀ e ∈ o.ents,n≤common e.1 row) →
  t.Wf n∧Stands (dgT wd) pg n t∧t.page=page∧t≠.nil∧page<by'∧Okk n at' o t next next'∧t.ents.length=count∧dgT wd (256 - n) t=sum∧(∀ e ∈ t.ents,n≤common e.1 row)∧next≤next':=by
 intro f
 induction f with
 | zero=>intro n at' o row page by' count sum next t next' _ _ _ _ _ _ h;cases h
 | succ f ih =>
  intro n at' o row page by' count sum next t next' hn hr ho hs hf hfn h hoe
  unfold thr at h;split at h
  ·cases h
  ·-- a leaf
   rename_i k v hl;obtain⟨hp,hby,hc,hrow⟩:=qKq hl;obtain⟨h2,hk32⟩:=hpg _ _ hp;have he:∀ e ∈ (PT.leaf page k v).ents,n≤common e.1 row:=fun e he=>by rw[List.mem_singleton.1 he];exact hrow
   split at h
   ·split at h
    ·rename_i hlf
     split at h
     ·rename_i hd
      cases h;exact⟨h2,hp,rfl,(fun h=>by cases h),hby,.inl ⟨lf_page (by omega) hp ho hs hlf,rfl⟩,hc.symm,hd,he,xT _⟩
     ·cases h
    ·cases h
   ·split at h
    ·rename_i hnx
     split at h
     ·rename_i hd
      cases h;exact⟨h2,hp,rfl,(fun h=>by cases h),hby,.inr ⟨hnx.2,hnx.1,rfl⟩,hc.symm,hd,he,Nat.le_succ _⟩
     ·cases h
    ·cases h
  ·-- a branch
   rename_i lp rp lc rc ls rs hl;obtain⟨hp,hby,hc,hlt⟩:=qKq hl;obtain⟨h2,hcc,hl0,hr0⟩:=hpg _ _ hp;split at h
   ·split at h
    ·rename_i hro
     split at h
     ·rename_i hd
      cases h
      have ha:at'=true:=by
       cases at' with
       | true=>rfl
       | false=>have:0=page:=hro;omega
      subst ha;have hop:o.page=page:=hro
      cases o with
      | nil=>have:0=page:=hop;omega
      | leaf q k v =>
       have hop:q=page:=hop;subst hop;have hs:pg q=some (.leaf k v):=hs;rw[hs]at hp;cases hp
      | br q l r =>
       have hop:q=page:=hop;subst hop;obtain⟨s0,s1,s2,s3,s4⟩:=id hs;rw[s0]at hp;cases hp;obtain⟨w0,w1,w2,w3,w4,w5,w6⟩:=id ho;refine⟨ho,hs,rfl,(fun h=>by cases h),hby,.inl ⟨rfl,rfl,rfl⟩,?_,?_,hoe,xT _⟩
       ·show (l.ents++r.ents).length=count
        rw[lAp,hc]
       ·rw[← hd,← ndg_br (wd:=wd) (pg:=pg) (p:=q) (lc:=l.ents.length) (rc:=r.ents.length) (h:=256 - n) w5 w6]
        rw[show 256 - n - 1=255 - n by omega]
     ·cases h
    ·cases h
   ·rename_i hge
    have side:∀ {b:Bool} {cp cc:Nat} {cs:Bs} {m m':Nat} {u:PT}, fresh≤m→(cp=0→cc=0∧cs=zV 32 0) →
      (if cp=0 then .ok (.nil,m) else thr wd pg fresh f (n+1) (at' && isBr o) (kid n b o) (under n b row) cp page cc cs m:Except (Nat × Int) (PT × Nat))=.ok (u,m') →
      u.Wf (n+1)∧Stands (dgT wd) pg (n+1) u∧u.page=cp∧u.page<page∧Okk (n+1) (at' && isBr o) (kid n b o) u m m'∧u.ents.length=cc∧said (dgT wd) (255 - n) u=cs∧(∀ e ∈ u.ents,n+1≤common e.1 (under n b row))∧m≤m':=fun {b cp cc cs m m' u} hm h0 h=>by
     by_cases e:cp=0
     ·rw[if_pos e]at h
      cases h;obtain⟨c0,c1⟩:=h0 e;exact⟨trivial,trivial,e.symm,by show 0<page;omega,rfl,c0.symm,c1.symm,(fun e he=>by cases he),xT _⟩
     ·rw[if_neg e]at h
      obtain⟨g1,g2,g3,g4,g5,g6,g7,g8,g9,g10⟩:=ih (by omega) (hr.under hlt b) (kid_wf (at':=at') ho b) (kid_stands hs b) (kid_page hs hf b) hm h (kid_row ho hr hlt hoe b);exact⟨g1,g2,g3,by rw[g3];exact g5,g6,g7,by rw[said_of g4,← g8];congr 1;omega,g9,g10⟩
    split at h
    ·cases h
    ·rename_i l m1 hL
     split at h
     ·cases h
     ·rename_i r m2 hR
      split at h
      ·rename_i hnx
       split at h
       ·rename_i hd
        cases h;obtain⟨a1,a2,a3,a4,a5,a6,a7,a8,a9⟩:=side hfn hl0 hL;obtain⟨b1,b2,b3,b4,b5,b6,b7,b8,b9⟩:=side (by omega) hr0 hR;subst a3;subst b3;subst a6;subst b6;subst a7;subst b7;refine⟨⟨h2,hlt,hcc,fun e he=>((qZa hr hlt false).1 (a8 e he)).2,fun e he=>((qZa hr hlt true).1 (b8 e he)).2,a1,b1⟩,⟨hp,a4,b4,a2,b2⟩,rfl,(fun h=>by cases h),hby,.inr ⟨m1,m2,a5,b5,hnx.1,rfl,fun ⟨ha,q,l',r',e1,e2,e3⟩=>hnx.2 ⟨ha,likeB_iff.2 ⟨q,l',r',e1,e2,e3⟩⟩⟩,?_,?_,fun e he=>?_,by omega⟩
        ·show (l.ents++r.ents).length=count
         rw[lAp,hc]
        ·rw[← hd,← ndg_br (wd:=wd) (pg:=pg) (p:=page) (lc:=l.ents.length) (rc:=r.ents.length) (h:=256 - n) a1 b1]
         rw[show 256 - n - 1=255 - n by omega]
        ·rcases List.mem_append.1 he with he | he
         ·exact ((qZa hr hlt false).1 (a8 e he)).1
         ·exact ((qZa hr hlt true).1 (b8 e he)).1
       ·cases h
      ·cases h
theorem page_lf {k v:Bs}{p:Nat}:∀ {o:PT} {n:Nat},o.Wf n→(∀ e ∈ o.ents,∀ e' ∈ o.ents,e.1=e'.1→e=e')→pageOf k v o=some p→lfOf k o=p
 | .nil,_,_,_,h=>by cases h
 | .leaf q k' v',_,_,_,h=>by
  unfold pageOf at h;unfold lfOf
  by_cases e:k'=k∧v'=v
  ·rw[if_pos e]at h;cases h;rw[if_pos e.1]
  ·rw[if_neg e]at h;cases h
 | .br q l r,n,hw,hu,h=>by
  obtain⟨_,_,_,wl,wr,w1,w2⟩:=hw;unfold pageOf at h;unfold lfOf;have hul:∀ e ∈ l.ents,∀ e' ∈ l.ents,e.1=e'.1→e=e':=fun e he e' he'=>hu e (zP _ he) e' (zP _ he');have hur:∀ e ∈ r.ents,∀ e' ∈ r.ents,e.1=e'.1→e=e':=fun e he e' he'=>hu e (zN _ he) e' (zN _ he')
  cases hl:pageOf k v l with
  | some x =>
   rw[hl]at h;cases h;have e:=page_lf w1 hul hl;have h2:=pageOf_pos w1 hl;rw[if_neg (by omega)];exact e
  | none =>
   rw[hl]at h;have h:pageOf k v r=some p:=h;have hk0:kbit k n=true:=wr _ (pageOf_mem h)
   have hl0:lfOf k l=0:=lf_zero fun e he hk=>by
    have:=wl e he;rw[hk,hk0]at this;cases this
   rw[if_pos hl0];exact page_lf w2 hur h
where
 pageOf_mem {k v:Bs} {p:Nat}:∀ {o:PT},pageOf k v o=some p→(k,v) ∈ o.ents
  | .nil,h=>by cases h
  | .leaf q k' v',h=>by
   unfold pageOf at h
   by_cases e:k'=k∧v'=v
   ·rw[← e.1,← e.2];exact List.mem_singleton.2 rfl
   ·rw[if_neg e]at h;cases h
  | .br q l r,h=>by
   unfold pageOf at h
   cases hl:pageOf k v l with
   | some x=>exact zP _ (pageOf_mem hl)
   | none=>rw[hl]at h;exact zN _ (pageOf_mem h)
 pageOf_pos {k v:Bs} {p:Nat}:∀ {o:PT} {n:Nat},o.Wf n→pageOf k v o=some p→2≤p
  | .nil,_,_,h=>by cases h
  | .leaf q k' v',_,hw,h=>by
   have hw:2≤q:=hw;unfold pageOf at h
   by_cases e:k'=k∧v'=v
   ·rw[if_pos e]at h;cases h;exact hw
   ·rw[if_neg e]at h;cases h
  | .br q l r,n,hw,h=>by
   obtain⟨_,_,_,_,_,w1,w2⟩:=hw;unfold pageOf at h
   cases hl:pageOf k v l with
   | some x=>rw[hl]at h;cases h;exact pageOf_pos w1 hl
   | none=>rw[hl]at h;exact pageOf_pos w2 h
 lf_zero {k:Bs}:∀ {o:PT},(∀ e ∈ o.ents,e.1≠k)→lfOf k o=0
  | .nil,_=>rfl
  | .leaf q k' v',h=>by
   unfold lfOf;rw[if_neg (h (k',v') (List.mem_singleton.2 rfl))]
  | .br q l r,h=>by
   unfold lfOf;rw[if_pos (lf_zero fun e he=>h e (zP _ he))];exact lf_zero fun e he=>h e (zN _ he)
theorem okk_mono:∀ {t:PT} {n:Nat} {at':Bool} {o:PT} {next next':Nat},Okk n at' o t next next'→next≤next'
 | .nil,_,_,_,_,_,h=>by
  have h:_=_:=h;omega
 | .leaf p k v,_,_,_,_,_,h=>by
  rcases h with ⟨_,h⟩ | ⟨_,_,h⟩ <;> omega
 | .br p l r,_,_,_,_,_,h=>by
  rcases h with ⟨_,_,h⟩ | ⟨m1,m2,h1,h2,_,h3,_⟩
  ·omega
  ·have:=okk_mono h1;have:=okk_mono h2;omega
theorem pageOf_le {dg:Nat→PT→Bs}{pg:Nat→Option Nd}{k v:Bs}{p:Nat}:∀ {o:PT} {n:Nat},Stands dg pg n o→pageOf k v o=some p→p≤o.page
 | .nil,_,_,h=>by cases h
 | .leaf q k' v',_,_,h=>by
  unfold pageOf at h
  by_cases e:k'=k∧v'=v
  ·rw[if_pos e]at h;cases h;exact xT _
  ·rw[if_neg e]at h;cases h
 | .br q l r,n,hs,h=>by
  obtain⟨_,h1,h2,s1,s2⟩:=hs;unfold pageOf at h;show p≤q
  cases hl:pageOf k v l with
  | some x=>rw[hl]at h;cases h;have:=pageOf_le s1 hl;omega
  | none=>rw[hl]at h;have:=pageOf_le s2 h;omega
theorem thr_conv {wd:Int}{pg:Nat→Option Nd}{fresh:Nat}:∀ {t:PT} {f n:Nat} {at':Bool} {o:PT} {row:Bs} {page by' count:Nat} {sum:Bs} {next next':Nat}, n≤256→Row n row→t.Wf n→o.Wf n→Stands (dgT wd) pg n t→Stands (dgT wd) pg n o→(∀ e ∈ o.ents, ∀ e' ∈ o.ents, e.1=e'.1→e=e')→o.page<fresh→fresh≤next →
  t≠.nil→t.page=page→page<by'→page<f→t.ents.length=count→dgT wd (256 - n) t=sum→(∀ e ∈ t.ents,n≤common e.1 row)→Okk n at' o t next next'→thr wd pg fresh f n at' o row page by' count sum next=.ok (t,next')
 | .nil,_,_,_,_,_,_,_,_,_,_,_,_,_,_,_,_,_,_,_,_,hne,_,_,_,_,_,_,_=>absurd rfl hne
 | .leaf p k v,f,n,at',o,row,page,by',count,sum,next,next',hn,hr,ht,ho,hst,hso,hu,hof,hfn,_,hp,hby,hpf,hc,hd,he,hk=>by
  have hp:p=page:=hp;subst hp
  obtain⟨f,rfl⟩:∃ g,f=g+1:=⟨f - 1,by omega⟩
  have hst:pg p=some (.leaf k v):=hst
  have hl:linked pg n row p by' count=some (.leaf k v):=by
   unfold linked;rw[hst];exact if_pos ⟨hby,hc.symm,he (k,v) (List.mem_singleton.2 rfl)⟩
  have hd:climb wd k 0 (leafD wd k v) (empts wd (256 - n))=sum:=hd;unfold thr;rw[hl];show (if p<fresh then _ else _)=_
  rcases hk with ⟨h1,rfl⟩ | ⟨h1,rfl,rfl⟩
  ·have:=pageOf_le hso h1
   rw[if_pos (by omega),if_pos (page_lf ho hu h1),if_pos hd]
  ·rw[if_neg (by omega),if_pos ⟨rfl,h1⟩,if_pos hd]
 | .br p l r,f,n,at',o,row,page,by',count,sum,next,next',hn,hr,ht,ho,hst,hso,hu,hof,hfn,_,hp,hby,hpf,hc,hd,he,hk=>by
  have hp:p=page:=hp;subst hp
  obtain⟨f,rfl⟩:∃ g,f=g+1:=⟨f - 1,by omega⟩
  obtain⟨w0,w1,w2,w3,w4,w5,w6⟩:=id ht;obtain⟨s0,s1,s2,s3,s4⟩:=id hst;have hc:(l.ents++r.ents).length=count:=hc;rw[lAp]at hc
  have hl:linked pg n row p by' count=some (.br l.page r.page l.ents.length r.ents.length (said (dgT wd) (255 - n) l) (said (dgT wd) (255 - n) r)):=by
   unfold linked;rw[s0];exact if_pos ⟨hby,hc.symm,w1⟩
  have hd:ndg wd (256 - n) (.br l.page r.page l.ents.length r.ents.length (said (dgT wd) (255 - n) l) (said (dgT wd) (255 - n) r))=sum:=by
   rw[← hd,← ndg_br (wd:=wd) (pg:=pg) (p:=p) (lc:=l.ents.length) (rc:=r.ents.length) (h:=256 - n) w5 w6];rw[show 256 - n - 1=255 - n by omega]
  unfold thr;rw[hl];show (if p<fresh then _ else _)=_
  rcases hk with ⟨rfl,rfl,rfl⟩ | ⟨m1,m2,g1,g2,rfl,rfl,hlike⟩
  ·have hof:p<fresh:=hof
   rw[if_pos hof,if_pos (show rowOf true (PT.br p l r)=p from rfl),if_pos hd]
  ·have k1:=okk_mono g1
   have k2:=okk_mono g2;rw[if_neg (by omega)]
   have side:∀ {b:Bool} {u:PT} {m m':Nat}, u.Wf (n+1)→Stands (dgT wd) pg (n+1) u→u.page<p→fresh≤m→(∀ e ∈ u.ents, n+1≤common e.1 (under n b row))→Okk (n+1) (at' && isBr o) (kid n b o) u m m' →
     (u≠.nil→u.page<p→thr wd pg fresh f (n+1) (at' && isBr o) (kid n b o) (under n b row) u.page p u.ents.length (dgT wd (256 - (n+1)) u) m=.ok (u,m')) →
     (if u.page=0 then .ok (.nil,m) else thr wd pg fresh f (n+1) (at' && isBr o) (kid n b o) (under n b row) u.page p u.ents.length (said (dgT wd) (255 - n) u) m:Except (Nat × Int) (PT × Nat))=.ok (u,m'):=fun {b u m m'} hw hs hlt hm hrow hk hrec=>by
    by_cases e:u.page=0
    ·have hu:=u.page_nil hw e
     subst hu;rw[if_pos e];have hk:m'=m:=hk;rw[hk]
    ·have hne:u≠.nil:=fun h=>e (by rw[h];rfl)
     rw[if_neg e,said_of hne];have:=hrec hne hlt;rw[show 256 - (n+1)=255 - n by omega]at this;exact this
   have ul:∀ b,∀ e ∈ (kid n b o).ents,∀ e' ∈ (kid n b o).ents,e.1=e'.1→e=e':=fun b e h e' h'=>hu e (kid_sub h) e' (kid_sub h');have rl:∀ e ∈ l.ents,n+1≤common e.1 (under n false row):=fun e h=>(qZa hr w1 false).2 ⟨he e (zP _ h),w3 e h⟩;have rr:∀ e ∈ r.ents,n+1≤common e.1 (under n true row):=fun e h=>(qZa hr w1 true).2 ⟨he e (zN _ h),w4 e h⟩;have L:=side (b:=false) w5 s3 s1 hfn rl g1 fun hne hlt=>thr_conv (by omega) (hr.under w1 false) w5 (kid_wf (at':=at') ho false) s3 (kid_stands hso false) (ul false) (kid_page hso hof false) hfn hne rfl hlt (by omega) rfl rfl rl g1;have R:=side (b:=true) w6 s4 s2 (by omega) rr g2 fun hne hlt=>thr_conv (by omega) (hr.under w1 true) w6 (kid_wf (at':=at') ho true) s4 (kid_stands hso true) (ul true) (kid_page hso hof true) (by omega) hne rfl hlt (by omega) rfl rfl rr g2;rw[L]
   show (match (if r.page=0 then .ok (.nil,m1) else thr wd pg fresh f (n+1) (at' && isBr o) (kid n true o) (under n true row) r.page p r.ents.length (said (dgT wd) (255 - n) r) m1:Except (Nat × Int) (PT × Nat)) with
    | .error e=>_
    | .ok (r,m2)=>_)=_
   rw[R];show (if p=p∧_ then _ else _)=_;rw[if_pos ⟨rfl,fun ⟨ha,hb⟩=>hlike ⟨ha,likeB_iff.1 hb⟩⟩,if_pos hd]
where
 kid_sub {n:Nat} {b:Bool} {o:PT} {e:En} (h:e ∈ (kid n b o).ents):e ∈ o.ents:=by
  cases o with
  | nil=>exact h
  | leaf p k v =>
   have h:e ∈ (if kbit k n=b then PT.leaf p k v else PT.nil).ents:=h
   by_cases eb:kbit k n=b
   ·rw[if_pos eb]at h;exact h
   ·rw[if_neg eb]at h;cases h
  | br p l r =>
   cases b
   ·exact zP _ h
   ·exact zN _ h
end Aud
namespace Aud
end Aud
section
namespace Aud
section
variable (dg:Nat→PT→Bs)
def ndOf (n:Nat)(l r:PT):Nd:=.br l.page r.page l.ents.length r.ents.length (said dg (255 - n) l) (said dg (255 - n) r)
def news (fresh:Nat):Nat→PT→List Nd
 | _,.nil=>[]
 | _,.leaf p k v=>if fresh≤p then [.leaf k v] else []
 | n,.br p l r=>if fresh≤p then news fresh (n+1) l++news fresh (n+1) r++[ndOf dg n l r] else []
variable {dg}
end
end Aud
end
namespace Aud
structure Rc where
 ver:Nat
 first:Nat
 prev:Nat
 skip:Nat
 root:Nat
 count:Nat
 sum:Bs
 deriving DecidableEq
def zrow:Bs:=zV 32 0
theorem row0:Row 0 zrow:=by
 refine⟨by simp[zrow],fun j _ h=>?_⟩;unfold kbit zrow;rw[gDq,List.getElem?_replicate,if_pos (by omega)]
 simp
def chAt (chain:List Nat)(i:Nat):Nat:=if i=0 then 0 else chain.getD (i - 1) 0
def root1 (wd:Int)(pn:Nat→Option Nd)(fresh:Nat)(old:PT)(p:Nat)(r:Rc):Except (Nat × Int) PT :=
 match (if r.root=0 then (if r.sum=emptD wd 256 then .ok (.nil,fresh) else .error (p,171)) else thr wd pn fresh (r.root+1) 0 true old zrow r.root p r.count r.sum fresh:Except (Nat × Int) (PT × Nat)) with
 | .error e=>.error e
 | .ok (t,next)=>if next=p then .ok t else .error (next,172)
def Ver (wd:Int)(pn:Nat→Option Nd)(fresh:Nat)(old:PT)(p:Nat)(r:Rc)(t:PT):Prop :=
 t.Wf 0∧Stands (dgT wd) pn 0 t∧t.page=r.root∧t.ents.length=r.count∧dgT wd 256 t=r.sum∧(∀ e ∈ t.ents,e.1.length=32)∧lay 256 0 true old t.ents fresh=(t,p)∧t.page<p
theorem stands_keys {dg:Nat→PT→Bs}{pn:Nat→Option Nd}(hpn:NdOk pn):∀ {t:PT} {n:Nat},Stands dg pn n t→∀ e ∈ t.ents,e.1.length=32
 | .nil,_,_,e,he=>by cases he
 | .leaf p k v,_,hs,e,he=>by
  rw[List.mem_singleton.1 he];have hs:pn p=some (.leaf k v):=hs;exact (hpn _ _ hs).2
 | .br p l r,n,hs,e,he=>by
  obtain⟨_,_,_,s1,s2⟩:=hs
  rcases List.mem_append.1 he with he | he
  ·exact stands_keys hpn s1 e he
  ·exact stands_keys hpn s2 e he
theorem root1_ok {pn:Nat→Option Nd}(hpn:NdOk pn){old:PT}{r:Rc}(ho:old.Wf 0)(hs:Stands (dgT wd) pn 0 old)(hf:old.page<fresh)(hc:r.root=0→r.count=0)(hp:0<p){t:PT}(h:root1 wd pn fresh old p r=.ok t):Ver wd pn fresh old p r t:=by
 unfold root1 at h
 by_cases h0:r.root=0
 ·rw[if_pos h0]at h
  by_cases hsum:r.sum=emptD wd 256
  ·rw[if_pos hsum]at h
   have h:(if fresh=p then (Except.ok PT.nil:Except (Nat × Int) PT) else .error (fresh,172))=Except.ok t:=h
   by_cases e:fresh=p
   ·rw[if_pos e]at h
    cases h;exact⟨trivial,trivial,h0.symm,(hc h0).symm,hsum.symm,(fun e he=>by cases he),by rw[e];rfl,hp⟩
   ·rw[if_neg e]at h;cases h
  ·rw[if_neg hsum]at h;cases h
 ·rw[if_neg h0]at h
  split at h
  ·cases h
  ·rename_i t' next hth
   split at h
   ·rename_i e
    cases h;subst e;obtain⟨g1,g2,g3,g4,g5,g6,g7,g8,_,_⟩:=thr_ok hpn (zE _) row0 ho hs hf (xT _) hth fun e _=>zE _;exact⟨g1,g2,g3,g7,g8,stands_keys hpn g2,(okk_lay t (zE _) g1 ho g2 fun _=>hs).1 g6,by rw[g3];exact g5⟩
   ·cases h
theorem root1_conv {pn:Nat→Option Nd}{old:PT}{r:Rc}(ho:old.Wf 0)(hs:Stands (dgT wd) pn 0 old)(hu:∀ e ∈ old.ents,∀ e' ∈ old.ents,e.1=e'.1→e=e')(hf:old.page<fresh){t:PT}(h:Ver wd pn fresh old p r t):root1 wd pn fresh old p r=.ok t:=by
 obtain⟨g1,g2,g3,g4,g5,g6,g7,g8⟩:=h;unfold root1
 by_cases h0:r.root=0
 ·have ht:t=.nil:=t.page_nil g1 (g3.trans h0)
  subst ht;have e:lay 256 0 true old (PT.nil).ents fresh=(.nil,fresh):=rfl;rw[e]at g7;cases g7;rw[if_pos h0,if_pos (show r.sum=emptD wd 256 from g5.symm)];exact if_pos rfl
 ·have hne:t≠.nil:=fun h=>h0 (by rw[← g3,h];rfl)
  rw[if_neg h0,thr_conv (zE _) row0 g1 ho g2 hs hu hf (xT _) hne g3 (by rw[← g3];exact g8) (Nat.lt_succ_self _) g4 g5 (fun e _=>zE _) ((okk_lay t (zE _) g1 ho g2 fun _=>hs).2 g7)];exact if_pos rfl
end Aud
namespace Aud
def le:Bs→Nat
 | []=>0
 | x::r=>x.toNat+256*le r
def leB:Nat→Nat→Bs
 | 0,_=>[]
 | n+1,v=>zD 8 v::leB n (v / 256)
theorem qQx (n v:Nat):(leB n v).length=n:=by
 induction n generalizing v with
 | zero=>rfl
 | succ n ih=>show (leB n _).length+1=_;rw[ih]
theorem le_leB {n v:Nat}(h:v<256 ^ n):le (leB n v)=v:=by
 induction n generalizing v with
 | zero=>simp at h;subst h;rfl
 | succ n ih =>
  show (zD 8 v).toNat+256*le (leB n (v / 256))=v;rw[ih (by rw[Nat.pow_succ]at h;exact Nat.div_lt_of_lt_mul (by omega)),zM];omega
theorem leB_le (b:Bs):leB b.length (le b)=b:=by
 induction b with
 | nil=>rfl
 | cons x b ih =>
  show zD 8 (x.toNat+256*le b)::leB b.length ((x.toNat+256*le b) / 256)=_;have hx:=x.isLt;rw[show (x.toNat+256*le b) / 256=le b by omega,ih]
  congr 1
  refine BitVec.eq_of_toNat_eq ?_;rw[zM];omega
theorem le_lt (b:Bs):le b<256 ^ b.length:=by
 induction b with
 | nil=>decide
 | cons x b ih =>
  have hx:=x.isLt;show x.toNat+256*le b<256 ^ (b.length+1);rw[Nat.pow_succ];omega
def zer (b:Bs):Bool:=b.all (· == 0)
theorem zer_iff:zer b=true ↔ b=zV b.length 0:=by
 unfold zer;rw[List.all_eq_true];constructor
 ·intro h
  exact List.eq_replicate_iff.2 ⟨rfl,fun x hx=>by simpa using h x hx⟩
 ·intro h x hx
  rw[(List.eq_replicate_iff.1 h).2 x hx];rfl
def pgB (im:Bs)(p:Nat):Bs:=(im.drop (256*p)).take 256
theorem pgB_len {im:Bs}(h:256*p+256≤im.length):(pgB im p).length=256:=by unfold pgB;rw[lTk,lDr];omega
def body (kind p:Nat)(load:Bs):Bs:=padTo 0 252 ([zD 8 kind,zD 8 load.length]++leB 4 p++load)
def pagB (kind p:Nat)(load:Bs):Bs:=body kind p load++sealB (qJt 0 (body kind p load))
def unpP (p:Nat)(raw:Bs):Except Int (Nat × Bs) :=
 if wholeB raw=false then .error 52
 else if ¬ (1≤(raw.getD 0 0).toNat∧(raw.getD 0 0).toNat≤3) then .error 50
 else if 246<(raw.getD 1 0).toNat then .error 51
 else if le ((raw.drop 2).take 4)≠p then .error 54
 else if zer ((raw.drop (6+(raw.getD 1 0).toNat)).take (246 - (raw.getD 1 0).toNat))=false then .error 53
 else .ok ((raw.getD 0 0).toNat,(raw.drop 6).take (raw.getD 1 0).toNat)
theorem body_len {kind p:Nat}{load:Bs}(h:load.length≤246):(body kind p load).length=252:=qZb (by simp[qQx];omega)
theorem qJc {kind p:Nat}{load:Bs}(h:load.length≤246):(pagB kind p load).length=256:=by unfold pagB;rw[lAp,body_len h];rfl
theorem unp_iff (hl:raw.length=256)(hp:p<4096){k:Nat}{l:Bs}:unpP p raw=.ok (k,l) ↔ (1≤k∧k≤3)∧l.length≤246∧raw=pagB k p l:=by
 constructor
 ·intro h
  unfold unpP at h;split at h
  ·cases h
  rename_i hw;split at h
  ·cases h
  rename_i hk;split at h
  ·cases h
  rename_i hn;split at h
  ·cases h
  rename_i hpl;split at h
  ·cases h
  rename_i hz;simp only[Except.ok.injEq,Prod.mk.injEq]at h;obtain⟨rfl,rfl⟩:=h;have hll:((raw.drop 6).take (raw.getD 1 0).toNat).length=(raw.getD 1 0).toNat:=by rw[lTk,lDr];omega
  refine⟨Decidable.of_not_not hk,by omega,?_⟩
  have hb:body (raw.getD 0 0).toNat p ((raw.drop 6).take (raw.getD 1 0).toNat)=raw.take 252:=by
   unfold body padTo
   have e4:leB 4 p=(raw.drop 2).take 4:=by
    have h4:((raw.drop 2).take 4).length=4:=by rw[lTk,lDr];omega
    have:=leB_le ((raw.drop 2).take 4);rw[h4,show le ((raw.drop 2).take 4)=p from Decidable.of_not_not hpl]at this;exact this
   have e2:[zD 8 (raw.getD 0 0).toNat,zD 8 (raw.getD 1 0).toNat]=raw.take 2:=by
    match raw,hl with
    | a::b::r,_=>simp
   have ez:=zer_iff.1 ((Bool.not_eq_false _).mp hz);have hzl:((raw.drop (6+(raw.getD 1 0).toNat)).take (246 - (raw.getD 1 0).toNat)).length=246 - (raw.getD 1 0).toNat:=by rw[lTk,lDr];omega
   rw[hzl]at ez;rw[hll,e4,e2]
   have hlen:(raw.take 2++(raw.drop 2).take 4++(raw.drop 6).take (raw.getD 1 0).toNat).length=6+(raw.getD 1 0).toNat:=by
    simp only[lAp,hll,lTk,lDr];omega
   rw[hlen,show 252 - (6+(raw.getD 1 0).toNat)=246 - (raw.getD 1 0).toNat by omega,← ez];generalize hq:(raw.getD 1 0).toNat=n at hn ⊢;have t1:raw.take 2++(raw.drop 2).take 4=raw.take 6:=(zA (l:=raw) (i:=2) (j:=4)).symm;have t2:raw.take 6++(raw.drop 6).take n=raw.take (6+n):=(zA (l:=raw) (i:=6) (j:=n)).symm;have t3:raw.take (6+n)++(raw.drop (6+n)).take (246 - n)=raw.take (6+n+(246 - n)):=(zA (l:=raw) (i:=6+n) (j:=246 - n)).symm;rw[t1,t2,t3,show 6+n+(246 - n)=252 by omega]
  unfold pagB;rw[hb];unfold wholeB at hw;rw[hl]at hw;have hw:raw.drop 252=sealB (qJt 0 (raw.take 252)):=by simpa using hw
  rw[← hw,List.take_append_drop]
 ·rintro⟨⟨k1,k3⟩,hll,rfl⟩
  have hbl:=body_len (kind:=k) (p:=p) hll;have et:(pagB k p l).take 252=body k p l:=by unfold pagB;rw[zR (by omega),zT (by omega)]
  have ed:(pagB k p l).drop 252=sealB (qJt 0 (body k p l)):=by unfold pagB;rw[zL (by omega),zC (by omega),zS]
  have hw:wholeB (pagB k p l)=true:=by
   unfold wholeB;rw[hl,decide_eq_true_eq,show 256 - 4=252 from rfl,ed,et]
  have eb:∃ t,pagB k p l=zD 8 k::zD 8 l.length::(leB 4 p++(l++(zV (246 - l.length) 0++t))):=by
   refine⟨sealB (qJt 0 (body k p l)),?_⟩
   conv=>lhs;unfold pagB
   have:body k p l=zD 8 k::zD 8 l.length::(leB 4 p++(l++zV (246 - l.length) 0)):=by
    unfold body padTo;have:([zD 8 k,zD 8 l.length]++leB 4 p++l).length=6+l.length:=by simp only[lAp,qQx,List.length_cons,List.length_nil]
    rw[this,show 252 - (6+l.length)=246 - l.length by omega]
    simp
   rw[this]
   simp
  obtain⟨t,ht⟩:=eb;have d0:(pagB k p l).getD 0 0=zD 8 k:=by rw[ht];rfl
  have d1:(pagB k p l).getD 1 0=zD 8 l.length:=by rw[ht];rfl
  have n0:(zD 8 k).toNat=k:=by rw[zM];omega
  have n1:(zD 8 l.length).toNat=l.length:=by rw[zM];omega
  have d2:(pagB k p l).drop 2=leB 4 p++(l++(zV (246 - l.length) 0++t)):=by rw[ht];rfl
  have d6:(pagB k p l).drop 6=l++(zV (246 - l.length) 0++t):=by
   have:(pagB k p l).drop 6=((pagB k p l).drop 2).drop 4:=by rw[List.drop_drop]
   rw[this,d2,zL (by rw[qQx];omega),zC (by rw[qQx];omega),zS]
  have d6n:(pagB k p l).drop (6+l.length)=zV (246 - l.length) 0++t:=by
   rw[← List.drop_drop,d6,zL (xT _),zC (xT _),zS]
  unfold unpP;rw[d0,d1,n0,n1,hw,d2,d6,d6n];rw[if_neg (by decide),if_neg (not_not_intro ⟨k1,k3⟩),if_neg (by omega)];rw[zR (by rw[qQx];omega),zT (by rw[qQx];omega),le_leB (show p<256 ^ 4 by omega),if_neg (fun h=>h rfl)];rw[zR (by rw[lRe];omega),zT (by rw[lRe];omega),if_neg (by rw[zer_iff.2 (by rw[lRe])];decide)];rw[zR (xT _),zT (xT _)]
structure Sup where
 width:Nat
 gen:Nat
 mark:Nat
 pages:Nat
 head:Nat
 deriving DecidableEq
def Sup.ok (s:Sup):Prop:=(1≤s.width∧s.width≤32)∧s.gen≤2 ^ 40∧(3≤s.pages∧s.pages≤4096)∧(2≤s.mark∧s.mark≤s.pages)∧(s.head=0∨2≤s.head∧s.head<s.mark)
instance (s:Sup):Decidable s.ok:=by unfold Sup.ok;infer_instance
def supR (raw:Bs):Sup:=⟨(raw.getD 4 0).toNat,le ((raw.drop 8).take 7),le ((raw.drop 16).take 4),le ((raw.drop 24).take 4),le ((raw.drop 20).take 4)⟩
def supF (raw:Bs):Prop:=raw.take 4=[76,68,71,49]∧zer ((raw.drop 5).take 3)=true∧zer ((raw.drop 28).take 32)=true∧raw.getD 15 0=0
instance (raw:Bs):Decidable (supF raw):=by unfold supF;infer_instance
def supP (raw:Bs):Except Int Sup :=
 if wholeB (raw.take 64)=false then .error 52
 else if supF raw∧(supR raw).ok then .ok (supR raw) else .error 53
def qKo (a b:Sup):Except Int Sup :=
 if a.gen % 2=0∧b.gen % 2=1∧a.width=b.width∧a.pages=b.pages then
  if a.gen=b.gen+1∧b.mark≤a.mark then .ok a else if b.gen=a.gen+1∧a.mark≤b.mark then .ok b else .error 4
 else .error 4
def blankP (a b:Bs):Bool:=zer (b.take 64) && (zer (a.take 64) || match supP a with | .ok x=>decide (x.gen=0) | .error _=>false)
def qJb (a b:Bs):Except Int Sup :=
 match supP a,supP b with
 | .ok x,.ok y=>qKo x y
 | _,_=>if blankP a b then .error 55 else .error 4
theorem supP_ok {s:Sup}(h:supP raw=.ok s):s.ok:=by
 unfold supP at h;split at h
 ·cases h
 ·split at h
  ·rename_i h';cases h;exact h'.2
  ·cases h
theorem newerP_ok {a b s:Sup}(h:qKo a b=.ok s):s=a∨s=b:=by
 unfold qKo at h;split at h
 ·split at h
  ·cases h;exact .inl rfl
  ·split at h
   ·cases h;exact .inr rfl
   ·cases h
 ·cases h
theorem chooseP_ok {s:Sup}(h:qJb a b=.ok s):s.ok:=by
 unfold qJb at h;split at h
 ·rename_i x y hx hy
  rcases newerP_ok h with rfl | rfl
  ·exact supP_ok hx
  ·exact supP_ok hy
 ·split at h <;> cases h
def chR (page count:Nat)(sum:Bs):Prop:=if page=0 then count=0∧sum=zV 32 0 else 2≤page∧page<4096∧0<count∧count≤4096
instance (page count:Nat) (sum:Bs):Decidable (chR page count sum):=by unfold chR;infer_instance
def brR (lp rp lc rc:Nat)(ls rs:Bs):Prop:=chR lp lc ls∧chR rp rc rs∧lp≠rp∧2≤lc+rc∧lc+rc≤4096
instance (lp rp lc rc:Nat) (ls rs:Bs):Decidable (brR lp rp lc rc ls rs):=by unfold brR;infer_instance
def nat4 (l:Bs)(i:Nat):Nat:=le ((l.drop i).take 4)
def decN (kind:Nat)(l:Bs):Option Nd :=
 if kind=1 then (if 32≤l.length∧l.length≤160 then some (.leaf (l.take 32) (l.drop 32)) else none)
 else if kind=2∧l.length=80∧brR (nat4 l 0) (nat4 l 4) (nat4 l 8) (nat4 l 12) ((l.drop 16).take 32) ((l.drop 48).take 32) then some (.br (nat4 l 0) (nat4 l 4) (nat4 l 8) (nat4 l 12) ((l.drop 16).take 32) ((l.drop 48).take 32))
 else none
def far (i:Nat):Nat:=i &&& (i - 1)
def isPg (n:Nat):Prop:=2≤n∧n<4096
instance (n:Nat):Decidable (isPg n):=by unfold isPg;infer_instance
def held (root count:Nat):Prop:=(root=0∧count=0)∨(root≠0∧0<count∧count≤4096)
instance (r c:Nat):Decidable (held r c):=by unfold held;infer_instance
def Rc.num (r:Rc):Nat:=if r.first=0 then r.ver else r.ver - r.first+1
def skipOk (i prev skip:Nat):Prop:=if far i=0 then skip=0 else if far i=i - 1 then skip=prev else isPg skip∧skip<prev
instance (i p s:Nat):Decidable (skipOk i p s):=by unfold skipOk;infer_instance
def Rc.right (r:Rc):Prop:=r.first≤2 ^ 30∧max 1 r.first≤r.ver∧r.ver≤2 ^ 30∧held r.root r.count∧(r.root≠0→isPg r.root)∧(if r.num=1 then r.prev=0∧r.skip=0 else isPg r.prev∧skipOk r.num r.prev r.skip)
instance (r:Rc):Decidable r.right:=by unfold Rc.right;infer_instance
def rcR (l:Bs):Rc:=⟨nat4 l 0,nat4 l 4,nat4 l 8,nat4 l 12,nat4 l 16,nat4 l 20,(l.drop 24).take 32⟩
def decR (l:Bs):Option Rc:=if l.length=56∧(rcR l).right then some (rcR l) else none
inductive Pg where
 | nd (n:Nd)
 | rc (r:Rc)
def qXp (p:Nat)(raw:Bs):Except Int Pg :=
 match unpP p raw with
 | .error e=>.error e
 | .ok (k,l) =>
  if k=3 then (match decR l with | some r=>.ok (.rc r) | none=>.error 150)
  else match decN k l with | some n=>.ok (.nd n) | none=>.error 90
def lodN:Nd→Bs
 | .leaf k v=>k++v
 | .br lp rp lc rc ls rs=>leB 4 lp++leB 4 rp++leB 4 lc++leB 4 rc++ls++rs
def Nd.kind:Nd→Nat
 | .leaf _ _=>1
 | .br _ _ _ _ _ _=>2
def Nd.right:Nd→Prop
 | .leaf k v=>k.length=32∧v.length≤128
 | .br lp rp lc rc ls rs=>brR lp rp lc rc ls rs∧ls.length=32∧rs.length=32
def lodR (r:Rc):Bs:=leB 4 r.ver++leB 4 r.first++leB 4 r.prev++leB 4 r.skip++leB 4 r.root++leB 4 r.count++r.sum
def Pg.kind:Pg→Nat
 | .nd n=>n.kind
 | .rc _=>3
def Pg.load:Pg→Bs
 | .nd n=>lodN n
 | .rc r=>lodR r
def Pg.bytes (p:Nat)(g:Pg):Bs:=pagB g.kind p g.load
end Aud
namespace Aud
def rowAt:Nat→Bs→PT→Nat × Bs→Option Nat
 | _,_,.nil,_=>none
 | n,row,.leaf p _ _,key=>if key=(n,row) then some p else none
 | n,row,.br p l r,key=>if key=(n,row) then some p else (rowAt (n+1) (under n true row) r key).or (rowAt (n+1) (under n false row) l key)
def lfAt:PT→Bs→Option Nat
 | .nil,_=>none
 | .leaf p k' _,k=>if k'=k then some p else none
 | .br _ l r,k=>(lfAt r k).or (lfAt l k)
theorem rowAt_in:∀ {t:PT} {n:Nat} {row:Bs} {m:Nat} {r:Bs} {p:Nat},n≤256→t.Wf n→Row n row→rowAt n row t (m,r)=some p→n≤m∧n≤common r row∧Row m r
 | .nil,_,_,_,_,_,_,_,_,h=>by cases h
 | .leaf q k v,n,row,m,r,p,hn6,_,hr,h=>by
  unfold rowAt at h;split at h
  ·rename_i e;cases e;exact⟨xT _,by rw[qKs (by omega)];exact fun _ _=>rfl,hr⟩
  ·cases h
 | .br q l r',n,row,m,r,p,hn6,hw,hr,h=>by
  obtain⟨_,hn,_,_,_,w1,w2⟩:=hw;unfold rowAt at h;split at h
  ·rename_i e;cases e;exact⟨xT _,by rw[qKs (by omega)];exact fun _ _=>rfl,hr⟩
  ·rw[zI]at h
   have go:∀ b (t:PT),t.Wf (n+1)→rowAt (n+1) (under n b row) t (m,r)=some p→(n+1≤m∧n+1≤common r (under n b row)∧Row m r)→n≤m∧n≤common r row∧Row m r:=fun b t _ _ ⟨g1,g2,g3⟩=>⟨by omega,((qZa hr hn b).1 g2).1,g3⟩
   rcases h with h | ⟨_,h⟩
   ·exact go true r' w2 h (rowAt_in (by omega) w2 (hr.under hn true) h)
   ·exact go false l w1 h (rowAt_in (by omega) w1 (hr.under hn false) h)
theorem lfAt_mem:∀ {t:PT} {k:Bs} {p:Nat},lfAt t k=some p→∃ v,(k,v) ∈ t.ents
 | .nil,_,_,h=>by cases h
 | .leaf q k' v,k,p,h=>by
  unfold lfAt at h;split at h
  ·rename_i e;subst e;exact⟨v,List.mem_singleton.2 rfl⟩
  ·cases h
 | .br q l r,k,p,h=>by
  unfold lfAt at h;rw[zI]at h
  rcases h with h | ⟨_,h⟩
  ·obtain⟨v,hv⟩:=lfAt_mem h;exact⟨v,zN _ hv⟩
  ·obtain⟨v,hv⟩:=lfAt_mem h;exact⟨v,zP _ hv⟩
theorem lfAt_none {t:PT}(h:∀ e ∈ t.ents,e.1≠k):lfAt t k=none:=by
 cases hl:lfAt t k with
 | none=>rfl
 | some p=>obtain⟨v,hv⟩:=lfAt_mem hl;exact absurd rfl (h _ hv)
theorem lfAt_of:∀ {t:PT} {n:Nat} {k:Bs},t.Wf n→lfOf k t=(lfAt t k).getD 0
 | .nil,_,_,_=>rfl
 | .leaf q k' v,_,k,_=>by unfold lfOf lfAt;split <;> rfl
 | .br q l r,n,k,hw=>by
  obtain⟨_,hn,_,hl,hr,w1,w2⟩:=hw;unfold lfOf lfAt;rw[lfAt_of w1,lfAt_of w2]
  by_cases hb:kbit k n=true
  ·have:lfAt l k=none:=lfAt_none fun e he h=>by have:=hl e he;rw[h,hb]at this;cases this
   rw[this]
   simp
  ·have:lfAt r k=none:=lfAt_none fun e he h=>hb (by have:=hr e he;rw[h]at this;exact this)
   rw[this];simp only[Option.getD_none,Option.none_or];split
   ·rename_i h;exact h.symm
   ·rfl
structure Pos (T:PT) (n:Nat) (row:Bs) (at':Bool) (o:PT):Prop where
 rows:∀ m r,n≤m→n≤common r row→rowAt 0 zrow T (m,r)=if at' then rowAt n row o (m,r) else none
 lvs:∀ k,n≤common k row→lfAt T k=lfAt o k
theorem Pos.root (T:PT):Pos T 0 zrow true T:=⟨fun _ _ _ _=>rfl,fun _ _=>rfl⟩
theorem Pos.kid {T:PT}{row:Bs}{at':Bool}{o:PT}(h:Pos T n row at' o)(ho:o.Wf n)(hr:Row n row)(hn:n<256)(b:Bool):Pos T (n+1) (under n b row) (at' && isBr o) (Aud.kid n b o):=by
 constructor
 ·intro m r hm hc
  obtain⟨c1,c2⟩:=(qZa hr hn b).1 hc;rw[h.rows m r (by omega) c1]
  cases at' with
  | false=>rfl
  | true =>
   cases o with
   | nil=>rfl
   | leaf p k v =>
    show (if (m,r)=(n,row) then some p else none)=none;rw[if_neg fun e=>by cases e;omega]
   | br p l r' =>
    obtain⟨_,_,_,_,_,w1,w2⟩:=ho;show (if (m,r)=(n,row) then some p else (rowAt (n+1) (under n true row) r' (m,r)).or (rowAt (n+1) (under n false row) l (m,r)))=rowAt (n+1) (under n b row) (if b then r' else l) (m,r);rw[if_neg fun e=>by cases e;omega]
    have off:∀ b' (t:PT),t.Wf (n+1)→b'≠b→rowAt (n+1) (under n b' row) t (m,r)=none:=fun b' t ht hb=>by
     cases hx:rowAt (n+1) (under n b' row) t (m,r) with
     | none=>rfl
     | some x =>
      have:=(qZa hr hn b').1 (rowAt_in (by omega) ht (hr.under hn b') hx).2.1;exact absurd (this.2.symm.trans c2) hb
    cases b with
    | true=>rw[off false l w1 (by decide)];simp
    | false=>rw[off true r' w2 (by decide)];simp
 ·intro k hk
  obtain⟨c1,c2⟩:=(qZa hr hn b).1 hk;rw[h.lvs k c1]
  cases o with
  | nil=>rfl
  | leaf p k' v =>
   show (if k'=k then some p else none)=lfAt (if kbit k' n=b then .leaf p k' v else .nil) k
   by_cases e:k'=k
   ·subst e;rw[if_pos rfl,if_pos c2];unfold lfAt;rw[if_pos rfl]
   ·rw[if_neg e]
    split
    ·unfold lfAt;rw[if_neg e]
    ·rfl
  | br p l r =>
   obtain⟨_,_,_,hl,hr',w1,w2⟩:=ho;show (lfAt r k).or (lfAt l k)=lfAt (if b then r else l) k
   cases b with
   | true =>
    rw[show lfAt l k=none from lfAt_none fun e he h=>by have:=hl e he;rw[h,c2]at this;cases this]
    simp
   | false =>
    rw[show lfAt r k=none from lfAt_none fun e he h=>by have:=hr' e he;rw[h,c2]at this;cases this]
    simp
theorem lfAt_page {dg:Nat→PT→Bs}{pg:Nat→Option Nd}{k:Bs}{q:Nat}:∀ {o:PT} {n:Nat},o.Wf n→Stands dg pg n o→lfAt o k=some q→∃ v',pg q=some (.leaf k v')∧∀ v,pageOf k v o=none ↔ v'≠v
 | .nil,_,_,_,h=>by cases h
 | .leaf p k' v',_,_,hs,h=>by
  unfold lfAt at h;split at h
  ·rename_i e
   cases h;subst e;exact⟨v',hs,fun v=>by unfold pageOf;by_cases e:v'=v <;> simp[e]⟩
  ·cases h
 | .br p l r,n,hw,hs,h=>by
  obtain⟨_,hn,_,hl,hr,w1,w2⟩:=hw;obtain⟨_,_,_,s1,s2⟩:=hs;unfold lfAt at h;rw[zI]at h
  have pn:∀ {t:PT} {v:Bs},(∀ e ∈ t.ents,e.1≠k)→pageOf k v t=none:=fun {t v} ht=>by
   cases hp:pageOf k v t with
   | none=>rfl
   | some x=>exact absurd rfl (ht _ (page_lf.pageOf_mem hp))
  rcases h with h | ⟨h0,h⟩
  ·obtain⟨v',a,b⟩:=lfAt_page w2 s2 h
   obtain⟨x,hx⟩:=lfAt_mem h;have hk:=hr _ hx;refine⟨v',a,fun v=>?_⟩;unfold pageOf;rw[pn fun e he h=>by have:=hl e he;rw[h]at this;rw[this]at hk;cases hk];exact b v
  ·obtain⟨v',a,b⟩:=lfAt_page w1 s1 h
   obtain⟨x,hx⟩:=lfAt_mem h;have hk:=hl _ hx;refine⟨v',a,fun v=>?_⟩;unfold pageOf;rw[pn (t:=r) fun e he h=>by have:=hr e he;rw[h]at this;rw[this]at hk;cases hk];rw[← b v]
   cases pageOf k v l <;> simp
theorem lfAt_nopage {k v:Bs}{o:PT}(h:lfAt o k=none)(hw:o.Wf n):pageOf k v o=none:=lf_none hw (by rw[lfAt_of hw,h];rfl)
end Aud
namespace Aud
theorem thr_fuel {pg:Nat→Option Nd}:∀ {f g n:Nat} {at':Bool} {o:PT} {row:Bs} {page by' count:Nat} {sum:Bs} {next:Nat}, (page<f∨by'≤page)→n≤256→g+n=257 →
  thr wd pg fresh f n at' o row page by' count sum next=thr wd pg fresh g n at' o row page by' count sum next:=by
 intro f
 induction f with
 | zero =>
  intro g n at' o row page by' count sum next h hn hg
  cases g with
  | zero=>rfl
  | succ g =>
   have hl:linked pg n row page by' count=none:=by
    unfold linked;split
    ·rfl
    ·rw[if_neg fun e=>by omega]
    ·rw[if_neg fun e=>by omega]
   conv=>rhs;unfold thr
   rw[hl];rfl
 | succ f ih =>
  intro g n at' o row page by' count sum next h hn hg
  cases g with
  | zero=>omega
  | succ g =>
   unfold thr
   cases hl:linked pg n row page by' count with
   | none=>rfl
   | some nd =>
    obtain⟨_,hby,hk⟩:=qKq hl
    cases nd with
    | leaf k v=>rfl
    | br lp rp lc rc ls rs =>
     have hn':n<256:=hk.2
     have hc:∀ (b:Bool) (cp cc:Nat) (cs:Bs) (m:Nat), (if cp=0 then Except.ok (PT.nil, m) else thr wd pg fresh f (n+1) (at' && isBr o) (kid n b o) (under n b row) cp page cc cs m:Except (Nat × Int) (PT × Nat)) =
       (if cp=0 then Except.ok (PT.nil,m) else thr wd pg fresh g (n+1) (at' && isBr o) (kid n b o) (under n b row) cp page cc cs m):=fun b cp cc cs m=>by
      split
      ·rfl
      ·exact ih (by omega) (by omega) (by omega)
     simp only[hc]
def rcAt (pg:Nat→Option Pg)(p:Nat):Rc:=match pg p with
 | some (.rc r)=>r
 | _=>⟨0,0,0,0,0,0,zV 32 0⟩
def pnOf (pg:Nat→Option Pg)(p:Nat):Option Nd:=match pg p with
 | some (.nd n)=>some n
 | _=>none
def chainR (pg:Nat→Option Pg)(ch:List Nat)(i:Nat):Prop :=
 let r:=rcAt pg (chAt ch i)
 let first:=(rcAt pg (chAt ch 1)).first
 r.first=first∧r.ver=(if 0<first then first+i - 1 else i)∧r.prev=chAt ch (i - 1)∧r.skip=chAt ch (far i)
instance (pg:Nat→Option Pg) (ch:List Nat) (i:Nat):Decidable (chainR pg ch i):=by unfold chainR;infer_instance
def verP (wd:Int)(pg:Nat→Option Pg)(ch:List Nat)(i:Nat)(old:PT):Except (Nat × Int) PT :=
 if chainR pg ch i then root1 wd (pnOf pg) (max 1 (chAt ch (i - 1))+1) old (chAt ch i) (rcAt pg (chAt ch i)) else .error (chAt ch i,173)
def versP (wd:Int)(pg:Nat→Option Pg)(ch:List Nat):Nat→Nat→PT→Except (Nat × Int) Unit
 | 0,_,_=>.ok ()
 | n+1,i,old=>match verP wd pg ch i old with
  | .error e=>.error e
  | .ok t=>versP wd pg ch n (i+1) t
def wholeP (wd:Int)(pg:Nat→Option Pg)(ch:List Nat)(mark head:Nat):Except (Nat × Int) Unit :=
 match versP wd pg ch ch.length 1 .nil with
 | .error e=>.error e
 | .ok _ =>
  let last:=max 1 (chAt ch ch.length)
  if last+1<mark then .error (last+1,172) else if 0<ch.length∧head≠last then .error (last,173) else .ok ()
end Aud
end Go.V
