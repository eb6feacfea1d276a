/- Helpers. -/
import Derived.Test.YtmenaeggoakppaaGreatDoorR33
import Derived.Test.YtmenaeggoakppaaGreatDoorR20
import Derived.Test.YtmenaeggoakppaaGreatDoorR21
import Derived.Test.YtmenaeggoakppaaGreatDoorR28
set_option linter.all false
set_option maxRecDepth 100000
set_option maxHeartbeats 8000000
open Int renaming toNat_zero→vP,toNat_one→kY
open List renaming replicate→zF,take_of_length_le→zH,length_mapIdx→kU,ext_getElem→j6,getElem_mapIdx→kG,mem_singleton→vF
open Nat renaming reduceEqDiff→jU,zero_mul→jC,le_refl→xP,mul_one→jG
open Option renaming or_none→kF
open Go.Value renaming cells→jB
namespace Go.V
open Go.Proofs.Tryz Go.V.Tryz
open Go.Proofs Sha
variable {d:Bool} {k:Bs} {w:Int} {f g i n:Nat} {v:Value}
section
namespace Wit
open Tw
def bes:Tw→Bs→Nat→Option Tw
 | .leaf k' _ near a,k,h=>if common k' k=255 - h then some (.leaf k' h (near.take h) a) else none
 | .fork ks f _ near l r,k,h =>
  if f≤h then (if common (ks.headD []) k=255 - h then some (.fork ks f h (near.take (h - f)) l r) else none)
  else if (if h=f - 1 then !kbit k (256 - f) else kbit k (256 - f))=true then bes r k h else bes l k h
def cutT:Tw→Nat→Tw
 | .leaf k _ near a,g=>.leaf k g (near.take g) a
 | .fork ks f _ near l r,g=>.fork ks f g (near.take (g - f)) l r
def bsd (k:Bs)(g:Nat)(s:Tw):Bool:=decide (common s.key k=255 - g∧s.fr≤g∧g≤s.top)
theorem bsd_iff {s:Tw}:bsd k g s=true ↔ common s.key k=255 - g∧s.fr≤g∧g≤s.top:=decide_eq_true_iff
theorem cut_dig (w:Int)(says:Says)(s:Tw)(g:Nat):climb w s.key s.fr (base w says s) (s.near.take (g - s.fr))=dig w says (cutT s g):=by cases s <;> rfl
theorem sub_in:∀ {t:Tw},t.Ok→∀ s ∈ subT t,s.top≤t.top∧s.key ∈ t.keys
 | .leaf k top near a,h,s,hs=>by
  have:s=.leaf k top near a:=by simpa [subT] using hs
  subst this;exact⟨xP _,h.key_mem⟩
 | .fork ks f top near l r,h,s,hs=>by
  have hk:=h.key_mem;obtain⟨h1,h2,h3,h4,h5,h6,h7,h8,h9,h10,h11,h12,h13,h14⟩:=h;simp only[subT,List.mem_append,vF]at hs;show s.top≤top∧s.key ∈ ks
  rcases hs with hs | hs | rfl
  ·obtain⟨a,b⟩:=sub_in h13 s hs
   rw[h9]at b;exact⟨by omega,List.mem_of_mem_take b⟩
  ·obtain⟨a,b⟩:=sub_in h14 s hs
   rw[h10]at b;exact⟨by omega,List.mem_of_mem_drop b⟩
  ·exact⟨xP _,hk⟩
theorem qJn {l:List Tw}(h:∀ s ∈ l,¬ (common s.key k=255 - g∧s.fr≤g∧g≤s.top)):l.find? (bsd k g)=none:=by
 rw[List.find?_eq_none];intro s hs h';exact h s hs (bsd_iff.1 h')
theorem bes_find {k:Bs}{g:Nat}(hg2:g<256):∀ {t:Tw},t.Ok→g≤t.top→((subT t).find? (bsd k g)).map (cutT · g)=bes t k g
 | .leaf k' top near a,h,hg=>by
  have hg:g≤top:=hg;simp only[subT,List.find?_cons,List.find?_nil,bes]
  by_cases hc:common k' k=255 - g
  ·have:bsd k g (.leaf k' top near a)=true:=bsd_iff.2 ⟨hc,Nat.zero_le _,hg⟩
   rw[this,if_pos hc];rfl
  ·have:bsd k g (.leaf k' top near a)=false:=by
    rw[← Bool.not_eq_true];intro h;exact hc (bsd_iff.1 h).1
   rw[this,if_neg hc];rfl
 | .fork ks f top near l r,h,hg=>by
  have hp:=h.f_pos;have hok:=h;obtain⟨h1,h2,h3,h4,h5,h6,h7,h8,h9,h10,h11,h12,h13,h14⟩:=h;have hg:g≤top:=hg;have tl:l.top=f - 1:=h11;have tr:r.top=f - 1:=h12;simp only[subT,List.find?_append,bes]
  by_cases hfg:f≤g
  ·rw[if_pos hfg,qJn (l:=subT l) (fun s hs ⟨_,_,c⟩=>by have:=(sub_in h13 s hs).1;omega),qJn (l:=subT r) (fun s hs ⟨_,_,c⟩=>by have:=(sub_in h14 s hs).1;omega)]
   simp only[List.find?_cons,List.find?_nil]
   by_cases hc:common (ks.headD []) k=255 - g
   ·have:bsd k g (.fork ks f top near l r)=true:=bsd_iff.2 ⟨hc,hfg,hg⟩
    rw[this,if_pos hc];rfl
   ·have:bsd k g (.fork ks f top near l r)=false:=by
     rw[← Bool.not_eq_true];intro h;exact hc (bsd_iff.1 h).1
    rw[this,if_neg hc];rfl
  ·rw[if_neg hfg, qJn (l:=[Tw.fork ks f top near l r]) (fun s hs ⟨_, b, _⟩=>by
    simp only[vF]at hs;subst hs;exact hfg b)]
   have bl:∀ s ∈ subT l,kbit s.key (256 - f)=false:=fun s hs=>by
    have:=(sub_in h13 s hs).2;rw[h9]at this;rw[h1];exact qKn h6 h8 _ this
   have br:∀ s ∈ subT r,kbit s.key (256 - f)=true:=fun s hs=>by
    have:=(sub_in h14 s hs).2;rw[h10]at this;rw[h1];exact qKo h6 h8 _ this
   have il:=bes_find (k:=k) hg2 h13 (by rw[h11];omega);have ir:=bes_find (k:=k) hg2 h14 (by rw[h12];omega)
   by_cases hg1:g=f - 1
   ·rw[if_pos hg1]
    have e:255 - g=256 - f:=by omega
    have no:∀ s:Tw,kbit s.key (256 - f)=kbit k (256 - f)→¬ (common s.key k=255 - g∧s.fr≤g∧g≤s.top):=fun s hs ⟨c,_,_⟩=>by
     have:=qJp (a:=s.key) (b:=k) (by omega);rw[c,e]at this;exact this hs
    cases hb:kbit k (256 - f) with
    | true =>
     rw[qJn (l:=subT r) (fun s hs=>no s (by rw[br s hs,hb]))];simp only[Bool.not_true,Bool.false_eq_true,if_false,kF];exact il
    | false =>
     rw[qJn (l:=subT l) (fun s hs=>no s (by rw[bl s hs,hb]))];simp only[Bool.not_false,if_true,kF,Option.none_or];exact ir
   ·rw[if_neg hg1]
    have no:∀ s:Tw,kbit s.key (256 - f)≠kbit k (256 - f)→¬ (common s.key k=255 - g∧s.fr≤g∧g≤s.top):=fun s hs ⟨c,_,_⟩=>hs (qQv (by omega))
    cases hb:kbit k (256 - f) with
    | true =>
     rw[qJn (l:=subT l) (fun s hs=>no s (by rw[bl s hs,hb];decide))];simp only[if_true,kF,Option.none_or];exact ir
    | false =>
     rw[qJn (l:=subT r) (fun s hs=>no s (by rw[br s hs,hb];decide))];simp only[Bool.false_eq_true,if_false,kF];exact il
theorem cut_ok {s:Tw}(h:s.Ok)(h1:s.fr≤g)(h2:g≤s.top):(cutT s g).Ok:=by
 cases s with
 | leaf k top near a =>
  obtain⟨a1,a2,a3,a4,a5⟩:=h;have h2:g≤top:=h2;exact⟨a1,by omega,by rw[lTk];omega,a4.take _,a5⟩
 | fork ks f top near l r =>
  obtain⟨a1,a2,a3,a4,a5,a6⟩:=h;have h1:f≤g:=h1;have h2:g≤top:=h2;exact⟨a1,h1,by omega,by rw[lTk];omega,a5.take _,a6⟩
theorem bes_ok (hg2:g<256){t p:Tw}(h:t.Ok)(hg:g≤t.top)(hp:bes t k g=some p):p.Ok:=by
 rw[← bes_find hg2 h hg]at hp;obtain⟨s,hs,rfl⟩:=Option.map_eq_some_iff.1 hp;have hm:=List.mem_of_find?_eq_some hs;have hb:=bsd_iff.1 (List.find?_some hs);exact cut_ok (sub_ok h s hm) hb.2.1 hb.2.2
def rn1 (w:Int)(says:Says)(tt:Option Tw)(key:Bs)(h:Nat)(d:Bs):Bs:=match tt.bind (fun t=>bes t key h) with | some p=>dig w says p | none=>d
def rnN (w:Int)(says:Says)(tt:Option Tw)(key:Bs)(f:Nat)(near:List Bs):List Bs:=near.mapIdx fun i d=>rn1 w says tt key (f+i) d
def rnw (w:Int)(says:Says)(tt:Option Tw):Tw→Tw
 | .leaf k top near a=>.leaf k top (rnN w says tt k 0 near) (says k a)
 | .fork ks f top near l r=>.fork ks f top (rnN w says tt (ks.headD []) f near) (rnw w says tt l) (rnw w says tt r)
theorem rn1_len {says:Says}{tt:Option Tw}{key:Bs}{h:Nat}{d:Bs}(hd:d.length=32):(rn1 w says tt key h d).length=32:=by
 unfold rn1;split
 ·exact dig_len _ _ _
 ·exact hd
theorem rnN_len (w:Int)(says:Says)(tt:Option Tw)(key:Bs)(f:Nat)(near:List Bs):(rnN w says tt key f near).length=near.length:=by unfold rnN;rw[kU]
theorem rnN_get {says:Says}{tt:Option Tw}{key:Bs}{near:List Bs}(h:i<(rnN w says tt key f near).length)(h':i<near.length):(rnN w says tt key f near)[i]=rn1 w says tt key (f+i) near[i]:=kG (l:=near)
theorem rnN_all {says:Says}{tt:Option Tw}{key:Bs}{near:List Bs}(h:All32 near):All32 (rnN w says tt key f near):=fun d hd=>by
 obtain⟨i,hi,rfl⟩:=List.mem_iff_getElem.1 hd;have hi':=hi;rw[rnN_len]at hi';rw[rnN_get hi hi'];exact rn1_len (h _ (List.getElem_mem _))
theorem rnw_keys (w:Int)(says:Says)(tt:Option Tw)(t:Tw):(rnw w says tt t).keys=t.keys:=by cases t <;> rfl
theorem rnw_top (w:Int)(says:Says)(tt:Option Tw)(t:Tw):(rnw w says tt t).top=t.top:=by cases t <;> rfl
def Short (says:Says):Prop:=∀ k a,(∀ v,a=some v→v.length≤128)→∀ v,says k a=some v→v.length≤128
theorem rnw_ok {w:Int}{says:Says}(hs:Short says){tt:Option Tw}:∀ {t:Tw},t.Ok→(rnw w says tt t).Ok
 | .leaf _ _ _ _,h=>⟨h.1,h.2.1,by rw[rnN_len];exact h.2.2.1,rnN_all h.2.2.2.1,hs _ _ h.2.2.2.2⟩
 | .fork ks f top near l r,h=>by
  obtain⟨h1,h2,h3,h4,h5,h6,h7,h8,h9,h10,h11,h12,h13,h14⟩:=h;exact⟨h1,h2,h3,by rw[rnN_len];exact h4,rnN_all h5,h6,h7,h8,by rw[rnw_keys];exact h9,by rw[rnw_keys];exact h10,by rw[rnw_top];exact h11,by rw[rnw_top];exact h12,rnw_ok hs h13,rnw_ok hs h14⟩
def rnI (w:Int)(says:Says)(tt:Option Tw)(key:Bs)(f:Nat)(near:List Bs)(n:Nat):List Bs:=near.mapIdx fun i d=>if i<n then rn1 w says tt key (f+i) d else d
theorem rnI_get {says:Says}{tt:Option Tw}{key:Bs}{near:List Bs}(h:i<(rnI w says tt key f near n).length)(h':i<near.length):(rnI w says tt key f near n)[i]=if i<n then rn1 w says tt key (f+i) near[i] else near[i]:=kG (l:=near)
theorem rnI_zero {says:Says}{tt:Option Tw}{key:Bs}{near:List Bs}:rnI w says tt key f near 0=near:=by
 refine j6 (by unfold rnI;rw[kU]) fun i h1 h2=>?_;rw[rnI_get h1 h2,if_neg (by omega)]
theorem rnI_len {says:Says}{tt:Option Tw}{key:Bs}{near:List Bs}:(rnI w says tt key f near n).length=near.length:=by unfold rnI;rw[kU]
theorem rnI_all {says:Says}{tt:Option Tw}{key:Bs}{near:List Bs}:rnI w says tt key f near near.length=rnN w says tt key f near:=by
 refine j6 (by rw[rnI_len,rnN_len]) fun i h1 h2=>?_;rw[rnI_len]at h1;rw[rnI_get _ h1,rnN_get _ h1,if_pos h1]
theorem rnI_set {says:Says}{tt:Option Tw}{key:Bs}{near:List Bs}(h:n<near.length):(rnI w says tt key f near n).set n (rn1 w says tt key (f+n) (near.getD n []))=rnI w says tt key f near (n+1):=by
 rw[qQi _ h];refine j6 (by rw[List.length_set,rnI_len,rnI_len]) fun i h1 h2=>?_;have h3:i<near.length:=by rw[rnI_len]at h2;exact h2
 rw[List.getElem_set,rnI_get _ h3,rnI_get _ h3]
 by_cases hi:n=i
 ·subst hi;rw[if_pos rfl,if_pos (by omega)]
 ·rw[if_neg hi]
  by_cases h3:i<n
  ·rw[if_pos h3,if_pos (by omega)]
  ·rw[if_neg h3,if_neg (by omega)]
theorem rnI_same {says:Says}{tt:Option Tw}{key:Bs}{near:List Bs}(h:n<near.length)(hn:tt.bind (fun t=>bes t key (f+n))=none):rnI w says tt key f near n=rnI w says tt key f near (n+1):=by
 rw[← rnI_set h];refine (List.set_getElem_self (by rw[rnI_len];exact h:n<(rnI w says tt key f near n).length)).symm.trans ?_
 congr 1
 rw[rnI_get _ h,if_neg (by omega),qQi _ h];unfold rn1;rw[hn]
def renewP (wd:Int)(root:Bs)(ks:List Bs)(raw rawAt changes:Bs):Except Int Bs :=
 match sortW wd ks with
 | .error e=>.error e
 | .ok l=>match Bat.parseP changes with
  | .error e=>.error e
  | .ok cs=>match underP wd root l raw with
   | .error e=>.error e
   | .ok o=>match underP wd root (srt (cs.map Bat.Ch.key)) rawAt with
    | .error e=>.error e
    | .ok tt=>match o with
     | none=>.ok []
     | some t=>.ok (txt wd (rnw wd (saysC (cs.map chOf)) tt t))
theorem findC_mem' {k:Bs}{c:Ch}:∀ {cs:List Ch},findC cs k=some c→c ∈ cs
 | [],h=>by cases h
 | d::l,h=>by
  unfold findC at h;split at h
  ·cases h;exact List.mem_cons_self ..
  ·exact List.mem_cons_of_mem _ (findC_mem' h)
theorem says_short {cs:List Bat.Ch}(h:∀ c ∈ cs,c.Ok):Short (saysC (cs.map chOf)):=fun k a ha v hv=>by
 unfold saysC at hv
 cases hf:findC (cs.map chOf) k with
 | none=>rw[hf]at hv;exact ha v hv
 | some c =>
  rw[hf]at hv;obtain⟨c',hc',rfl⟩:=List.mem_map.1 (findC_mem' hf);have hv:(if c'.del then none else some c'.val)=some v:=hv;split at hv
  ·cases hv
  ·cases hv;exact (h c' hc').2.1
end Wit
end
def chC (k:Bs)(d:Bool)(v:Value):Array Value:=(k.map u8++[.bool d,v]).toArray
theorem qQo (d:Bool)(v:Value)(hk:k.length=32):(chC k d v).size=34:=by simp[chC,hk]
theorem qZk (d:Bool)(hv:one v=true):(chC k d v).all one=true:=by
 rw[← Array.all_toList];simp only[chC,List.all_append,List.all_cons,List.all_nil,hv,Bool.and_true];rw[List.all_eq_true.2 (by intro x hx;obtain⟨y,_,rfl⟩:=List.mem_map.1 hx;rfl)];rfl
theorem qXe:(Array.replicate 32 (Value.int .u8 0)++#[Value.bool false,Value.slice Option.none 0 0])=chC (zF 32 0) false (.slice Option.none 0 0):=rfl
theorem chC_flag {d e:Bool}(hk:k.length=32):(chC k d v).setIfInBounds 32 (.bool e)=chC k e v:=by
 apply Array.toList_inj.1;simp[chC,hk]
theorem chC_val {v u:Value}(hk:k.length=32):(chC k d v).setIfInBounds 33 u=chC k d u:=by
 apply Array.toList_inj.1;simp[chC,hk]
theorem chC_key {k k':Bs}(hk:k.length=32)(hk':k'.length=32):qXs (k'.map u8) 0 (chC k d v)=chC k' d v:=by
 apply Array.toList_inj.1;rw[qXr _ _ _ (by simp[chC,hk,hk'])];simp[chC,hk,hk']
theorem sliceK (b o:Nat):qXf prog 34 (.pointer (some ⟨b,o,Option.none⟩)) Option.none Option.none Option.none=some (.slice (some ⟨b,o,Option.none⟩) 32 32):=by
 simp only[qXf,arr34,optB,Option.bind_some,sz5,Option.map_some,jC,Nat.sub_zero]
 rfl
def ChV (w:World)(x:Value)(c:Bat.Ch):Prop:=∃ v,x=.agg (chC c.key c.del v)∧one v=true∧By w v c.val∧(c.del=true→v=.slice Option.none 0 0)
def TkQ (rv:Value)(w0:World)(y:Except Int (Bat.Ch × Bs))(r:Value)(w':World):Prop:=No w0 w'∧∃ k d v u e,r=.tuple #[.agg (chC k d v),u,.int .i64 e]∧k.length=32∧one v=true∧match y with
 | .error e'=>e=e'∧one u=true
 | .ok p=>e=0∧ChV w' (.agg (chC k d v)) p.1∧By w' u p.2∧(∀ b,qQb u=some b→qQb rv=some b)∧∀ b,qQb v=some b→w0.heap.size≤b∧b<w'.heap.size
theorem take (w0:World){rv:Value}{s:Bs}(hr:By w0 rv s)(hl:s.length≤2 ^ 50):Fn prog 167 #[rv] w0 (TkQ rv w0 (Bat.takeP s)):=by
 refine go167 (by simp) ?_;obtain⟨xa,xc,rfl,hxc⟩:=hr.slice;obtain⟨W,hW,f1,k1,k2,s1⟩:=qKp w0 (chC (zF 32 0) false (.slice .none 0 0)) 181 (chC (zF 32 0) false (.slice .none 0 0)) 181;have z32:(zF 32 (0:Byte)).length=32:=lRe
 have fin:∀ (w:World) (k:Bs) (d:Bool) (v:Value), w.heap[w0.heap.size]?=some (.cells (chC (zF 32 0) false (.slice .none 0 0)) 181 (0, 0))→k.length=32→one v=true →
   wrO prog 181 w w0.heap.size 0 (.agg (chC k d v))=some (put w w0.heap.size (.cells (chC k d v) 181 (0,0)))∧rdO prog 181 (put w w0.heap.size (.cells (chC k d v) 181 (0,0))) w0.heap.size 0=some (.agg (chC k d v)):=fun w k d v h hk hv =>
  ⟨qQt (by rw[qQo d v hk];exact sz181) h (by rw[qQo _ _ z32,qQo _ _ hk]) (qZk d hv),qXp agg181 (by rw[qQo d v hk];exact sz181) (qQf (o:=.cells (chC k d v) 181 (0,0)) h)⟩
 have rdc:∀ (w:World) (k:Bs) (d:Bool) (v:Value),w.heap[w0.heap.size+1]?=some (.cells (chC k d v) 181 (0,0))→k.length=32→rdO prog 181 w (w0.heap.size+1) 0=some (.agg (chC k d v)):=fun w k d v h hk =>
  qXp agg181 (by rw[qQo d v hk];exact sz181) h
 have lst:∀ (w:World) (c:Array Value),No w0 w→No w0 (put w w0.heap.size (.cells c 181 (0,0))):=fun w c h=>h.put (b:=w0.heap.size) _ fun h=>absurd h (Nat.lt_irrefl _);have lst1:∀ (w:World) (c:Array Value),No w0 w→No w0 (put w (w0.heap.size+1) (.cells c 181 (0,0))):=fun w c h=>h.put (b:=w0.heap.size+1) _ fun h=>by omega
 obtain⟨qe,le⟩:=fin W _ false (.slice .none 0 0) k1 z32 rfl;have re:=rdc W _ _ _ k2 z32;have xone:one (.slice xa s.length xc)=true:=rfl
 by_cases h33:s.length<33
 ·have d1:=dTo (((s.length:Nat):Int)<33)
  simp -implicitDefEqProofs only[go_sem,jU,gLa,gLz,gLs,Tryz.f167,jB,qXe,hW,d1,re,qe,le];refine⟨lst _ _ f1,_,_,_,_,_,rfl,z32,rfl,?_⟩;have:Bat.takeP s=.error 30:=by unfold Bat.takeP;rw[if_pos (.inl h33)]
  rw[this];exact⟨rfl,rfl⟩
 have d1:=dFo (((s.length:Nat):Int)<33);obtain⟨b,o,cap,he,hcap⟩:=hr.pos (by omega);cases he;have hr1:=hr.fr0 f1;have r0:rdO prog 5 W b o=some (.int .u8 ((s.getD 0 0).toNat:Int)):=by have:=hr1.get (P:=prog) agg5 (i:=0) (by omega);rw[Nat.add_zero]at this;rw[this,qQi _ (by omega)]
 have y0:(0:Int)≤0∧(0:Int)<((s.length:Nat):Int):=by omega
 by_cases hb:s.getD 0 0≠1∧s.getD 0 0≠2
 ·have n1:(((s.getD 0 0).toNat:Int) != 1)=true:=by rw[bne_iff_ne];intro h;exact hb.1 (by apply BitVec.eq_of_toNat_eq;simpa using (by exact_mod_cast h:(s.getD 0 0).toNat=1))
  have n2:(((s.getD 0 0).toNat:Int) != 2)=true:=by rw[bne_iff_ne];intro h;exact hb.2 (by apply BitVec.eq_of_toNat_eq;simpa using (by exact_mod_cast h:(s.getD 0 0).toNat=2))
  simp -implicitDefEqProofs only[go_sem,jU,gLa,gLz,gLs,Tryz.f167,jB,qXe,hW,d1,y0,and_self,vP,jC,r0,n1,n2,bSe,re,qe,le];refine⟨lst _ _ f1,_,_,_,_,_,rfl,z32,rfl,?_⟩;have:Bat.takeP s=.error 30:=by unfold Bat.takeP;rw[if_pos (.inr hb)]
  rw[this];exact⟨rfl,rfl⟩
 have hb12:s.getD 0 0=1∨s.getD 0 0=2:=by
  by_cases h1:s.getD 0 0=1
  ·exact .inl h1
  ·by_cases h2:s.getD 0 0=2
   ·exact .inr h2
   ·exact absurd ⟨h1,h2⟩ hb
 obtain⟨dl,hdl,n3,n1,n2⟩:∃ dl:Bool,(dl=true ↔ s.getD 0 0=2)∧(((s.getD 0 0).toNat:Int) == 2)=dl∧(((s.getD 0 0).toNat:Int) != 1)=dl∧(((s.getD 0 0).toNat:Int) != 2)=!dl:=by
  rcases hb12 with h | h <;> rw[h]
  ·exact⟨false,by simp,rfl,rfl,rfl⟩
  ·exact⟨true,by simp,rfl,rfl,rfl⟩
 have w3:=wr1 (P:=prog) (t:=4) (w:=W) (b:=w0.heap.size+1) (o:=32) (v:=.bool dl) sz4 rfl k2 (by rw[qQo _ _ z32];omega);rw[chC_flag z32]at w3;have k3:=qQf (o:=.cells (chC (zF 32 0) dl (.slice .none 0 0)) 181 (0,0)) k2;have f3:=lst1 W (chC (zF 32 0) dl (.slice .none 0 0)) f1;have k13:=qQq (b:=w0.heap.size+1) (o:=.cells (chC (zF 32 0) dl (.slice .none 0 0)) 181 (0,0)) k1 (by omega);have p5:=slc_lo (P:=prog) slc25 arr25 sz5 (a:=some (⟨b,o,.none⟩:Addr)) (n:=s.length) (cap:=xc) (l:=1) (by omega) hxc;have p5:qXf prog 25 (.slice (some ⟨b,o,.none⟩) s.length xc) (some (.int .i64 1)) .none .none=some (cutV 1 (some ⟨b,o,.none⟩) xc 1 s.length):=p5;have p6:=slc_lo (P:=prog) slc25 arr25 sz5 (a:=some (⟨b,o,.none⟩:Addr)) (n:=s.length) (cap:=xc) (l:=33) (by omega) hxc;have p6:qXf prog 25 (.slice (some ⟨b,o,.none⟩) s.length xc) (some (.int .i64 33)) .none .none=some (cutV 1 (some ⟨b,o,.none⟩) xc 33 s.length):=p6;generalize hW3:put W (w0.heap.size+1) (.cells (chC (zF 32 0) dl (.slice .none 0 0)) 181 (0,0))=W3 at *;have hy:By W3.drew (cutV 1 (some ⟨b,o,.none⟩) xc 1 s.length) ((s.drop 1).take (s.length - 1)):=(hr.fr0 f3.drew).cutV (by omega) (xP _) rfl
 obtain⟨key,hkey⟩:∃ key,key=(s.drop 1).take 32:=⟨_,rfl⟩
 have kl:key.length=32:=by rw[hkey,lTk,lDr];omega
 have hrun:=run_copy (P:=prog) (ts:=#[25,25]) (t:=25) rfl slc25 sz5 (w:=W3.drew) (b:=w0.heap.size+1) (o:=0) (dn:=32) (dc:=32) k3 hy (qXv _) (by rw[qQo _ _ z32];omega);have hm:min ((s.drop 1).take (s.length - 1)).length 32=32:=by rw[lTk,lDr];omega
 rw[hm,jG,← List.map_take,List.take_take,show min 32 (s.length - 1)=32 by omega,← hkey,chC_key z32 kl]at hrun;have k4:=qQf (o:=.cells (chC key dl (.slice .none 0 0)) 181 (0,0)) (show W3.drew.heap[w0.heap.size+1]?=_ from k3);have k14:=qQq (b:=w0.heap.size+1) (o:=.cells (chC key dl (.slice .none 0 0)) 181 (0,0)) (show W3.drew.heap[w0.heap.size]?=_ from k13) (by omega);have f4:=lst1 W3.drew (chC key dl (.slice .none 0 0)) f3.drew;generalize put W3.drew (w0.heap.size+1) (.cells (chC key dl (.slice .none 0 0)) 181 (0,0))=W4 at *;have r4:=rd1 (P:=prog) (t:=4) (o:=32) (v:=.bool dl) agg4 k4 (by simp[chC,kl]);have rc4:=rdc W4 _ _ _ k4 kl;have h2:By W4 (cutV 1 (some ⟨b,o,.none⟩) xc 33 s.length) ((s.drop 33).take (s.length - 33)):=(hr.fr0 f4).cutV (by omega) (xP _) rfl;rw[zH (by rw[lDr];omega)]at h2;have l2:(s.drop 33).length=s.length - 33:=lDr
 obtain⟨xa2,xc2,e2⟩:∃ xa2 xc2,cutV 1 (some (⟨b,o,.none⟩:Addr)) xc 33 s.length=.slice xa2 (s.length - 33) xc2:=⟨_,_,rfl⟩
 rw[e2]at h2 p6
 have hcut:∀ w:World,No w0 w→By w (.slice xa2 (s.length - 33) xc2) (s.drop 33):=fun w f=>by
  have:=(hr.fr0 f).cutV (l:=33) (m:=s.length) (by omega) (xP _) rfl;rw[zH (by rw[lDr];omega),e2]at this;exact this
 cases dl with
 | true =>
  have hs2:s.getD 0 0=2:=hdl.1 rfl;simp only[Bool.not_true]at n2;obtain⟨q4,l4⟩:=fin W4 key true (.slice .none 0 0) k14 kl rfl;simp -implicitDefEqProofs only[go_sem,jU,gLa,gLz,gLs,Tryz.f167,jB,qXe,hW,d1,y0,and_self,vP,jC,r0,n1,n2,n3,bSe,w3,p5,sliceK];refine qQg ⟨_,_,hrun,?_⟩;simp -implicitDefEqProofs only[go_sem,jU,p6,r4,rc4,q4,l4];refine⟨lst _ _ f4,_,_,_,_,_,rfl,kl,rfl,?_⟩;have:Bat.takeP s=.ok (⟨key,true,[]⟩,s.drop 33):=by unfold Bat.takeP;rw[if_neg (by rw[not_or];exact⟨h33,hb⟩),if_pos hs2,hkey]
  rw[this];exact⟨rfl,⟨_,rfl,rfl,(NwB.nil w0 _).by,fun _=>rfl⟩,hcut _ (lst _ _ f4),fun c hc=>by rw[← e2]at hc;exact qJh (n:=s.length) hc,fun c hc=>by cases hc⟩
 | false =>
  have hs2:¬ s.getD 0 0=2:=fun h=>by have:=hdl.2 h;cases this
  simp only[Bool.not_false]at n2;obtain⟨q4,l4⟩:=fin W4 key false (.slice .none 0 0) k14 kl rfl;have hn:¬ (s.length<33∨(s.getD 0 0≠1∧s.getD 0 0≠2)):=by rw[not_or];exact⟨h33,hb⟩
  by_cases h35:s.length<35
  ·have d5:=dTo (((s.length - 33:Nat):Int)<2)
   simp -implicitDefEqProofs only[go_sem,jU,gLa,gLz,gLs,Tryz.f167,jB,qXe,hW,d1,y0,and_self,vP,jC,r0,n1,n3,qZn,bSe,w3,p5,sliceK];refine qQg ⟨_,_,hrun,?_⟩;simp -implicitDefEqProofs only[go_sem,jU,gLa,gLz,p6,r4,rc4,q4,l4,d5];refine⟨lst _ _ f4,_,_,_,_,_,rfl,kl,rfl,?_⟩;have:Bat.takeP s=.error 30:=by unfold Bat.takeP;rw[if_neg hn,if_neg hs2,if_pos h35]
   rw[this];exact⟨rfl,rfl⟩
  have d5:=dFo (((s.length - 33:Nat):Int)<2);obtain⟨b2,o2,cap2,he2,hcap2⟩:=h2.pos (by rw[l2];omega);rw[l2]at he2 hcap2;cases he2;have gd:∀ i,(s.drop 33).getD i 0=s.getD (33+i) 0:=fun i=>by simp[gDq,List.getElem?_drop]
  obtain⟨q4d,l4d⟩:=fin W4.drew key false (.slice .none 0 0) k14 kl rfl
  have r20:rdO prog 5 W4 b2 o2=some (.int .u8 ((s.getD 33 0).toNat:Int)):=by
   have:=h2.get (P:=prog) agg5 (i:=0) (by omega);rw[Nat.add_zero]at this;rw[this,gd]
  have r21:rdO prog 5 W4 b2 (o2+1)=some (.int .u8 ((s.getD 34 0).toNat:Int)):=by
   have:=h2.get (P:=prog) agg5 (i:=1) (by omega);rw[this,gd]
  have y20:(0:Int)≤0∧(0:Int)<((s.length - 33:Nat):Int):=by omega
  have y21:(0:Int)≤1∧(1:Int)<((s.length - 33:Nat):Int):=by omega
  have c0:IntKind.i64.wrap ((s.getD 33 0).toNat:Int)=(((s.getD 33 0).toNat:Nat):Int):=i64n (by have:=(s.getD 33 0).isLt;omega);have c1:IntKind.i64.wrap ((s.getD 34 0).toNat:Int)=(((s.getD 34 0).toNat:Nat):Int):=i64n (by have:=(s.getD 34 0).isLt;omega);have lh:=lohi (s.getD 33 0) (s.getD 34 0)
  have htp : Bat.takeP s = if 128 < (s.getD 33 0).toNat + 256 * (s.getD 34 0).toNat then .error 32
      else if s.length < 35 + ((s.getD 33 0).toNat + 256 * (s.getD 34 0).toNat) then .error 30
      else .ok (⟨(s.drop 1).take 32,false,(s.drop 35).take ((s.getD 33 0).toNat + 256 * (s.getD 34 0).toNat)⟩,s.drop (35 + ((s.getD 33 0).toNat + 256 * (s.getD 34 0).toNat))) := by
   unfold Bat.takeP;rw[if_neg hn,if_neg hs2,if_neg h35]
  rw[htp,← hkey];generalize (s.getD 33 0).toNat+256*(s.getD 34 0).toNat=n at *;have p7:=slc_lo (P:=prog) slc25 arr25 sz5 (a:=some (⟨b2,o2,.none⟩:Addr)) (n:=s.length - 33) (cap:=xc2) (l:=2) (by omega) hcap2;have p7:qXf prog 25 (.slice (some ⟨b2,o2,.none⟩) (s.length - 33) xc2) (some (.int .i64 2)) .none .none=some (cutV 1 (some ⟨b2,o2,.none⟩) xc2 2 (s.length - 33)):=p7
  obtain⟨xa3,xc3,e3⟩:∃ xa3 xc3,cutV 1 (some (⟨b2,o2,.none⟩:Addr)) xc2 2 (s.length - 33)=.slice xa3 (s.length - 35) xc3:=by
   obtain⟨a',h⟩:=cutV_slice 1 (some (⟨b2,o2,.none⟩:Addr)) xc2 2 (s.length - 33);exact⟨a',_,by rw[h,show s.length - 33 - 2=s.length - 35 by omega]⟩
  have hcut3:∀ w:World,No w0 w→By w (.slice xa3 (s.length - 35) xc3) (s.drop 35):=fun w f=>by
   have:=(hcut w f).cutV (l:=2) (m:=s.length - 33) (by omega) (xP _) l2;rw[zH (by simp;omega),e3,List.drop_drop]at this;exact this
  rw[e3]at p7
  by_cases h128:128<n
  ·have d6:=dTo (((n:Nat):Int) > 128)
   simp -implicitDefEqProofs only[go_sem,jU,gLa,gLz,gLs,Tryz.f167,jB,qXe,hW,d1,y0,and_self,vP,jC,r0,n1,n3,qZn,bSe,w3,p5,sliceK];refine qQg ⟨_,_,hrun,?_⟩;simp -implicitDefEqProofs only[go_sem,jU,gLa,gLz,p6,r4,d5,y20,y21,and_self,vP,kY,jG,jC,r20,r21,c0,c1,lh,d6,rc4,q4d,l4d];refine⟨lst _ _ f4.drew,_,_,_,_,_,rfl,kl,rfl,?_⟩;rw[if_pos h128];exact⟨rfl,rfl⟩
  have d6:=dFo (((n:Nat):Int) > 128)
  by_cases hsh:s.length<35+n
  ·have d7:=dTo (((s.length - 35:Nat):Int)<((n:Nat):Int))
   simp -implicitDefEqProofs only[go_sem,jU,gLa,gLz,gLs,Tryz.f167,jB,qXe,hW,d1,y0,and_self,vP,jC,r0,n1,n3,qZn,bSe,w3,p5,sliceK];refine qQg ⟨_,_,hrun,?_⟩;simp -implicitDefEqProofs only[go_sem,jU,gLa,gLz,p6,r4,d5,y20,y21,and_self,vP,kY,jG,jC,r20,r21,c0,c1,lh,d6,p7,d7,rc4,q4d,l4d];refine⟨lst _ _ f4.drew,_,_,_,_,_,rfl,kl,rfl,?_⟩;rw[if_neg h128,if_pos hsh];exact⟨rfl,rfl⟩
  have d7:=dFo (((s.length - 35:Nat):Int)<((n:Nat):Int));have h3:=hcut3 W4.drew f4.drew;have l3:(s.drop 35).length=s.length - 35:=lDr;obtain⟨_,_,e4,hcap3⟩:=h3.slice;rw[l3]at e4 hcap3;cases e4;have p8:=slc_hi (P:=prog) slc25 arr25 sz5 (a:=xa3) (n:=s.length - 35) (cap:=xc3) (l:=n) (by omega) hcap3;have p9:=slc_lo (P:=prog) slc25 arr25 sz5 (a:=xa3) (n:=s.length - 35) (cap:=xc3) (l:=n) (by omega) hcap3;have p8:qXf prog 25 (.slice xa3 (s.length - 35) xc3) .none (some (.int .i64 ((n:Nat):Int))) .none=some (cutV 1 xa3 xc3 0 n):=p8;have p9:qXf prog 25 (.slice xa3 (s.length - 35) xc3) (some (.int .i64 ((n:Nat):Int))) .none .none=some (cutV 1 xa3 xc3 n (s.length - 35)):=p9;have h4:=(hcut3 W4.drew f4.drew).cutV (l:=0) (m:=n) (by omega) (by omega) l3;rw[List.drop_zero,Nat.sub_zero]at h4;obtain⟨v5,w5,hr5,b5,f5,g5,m5⟩:=NwB.catB (P:=prog) app25_25 (NwB.nil w0 W4.drew) h4 (by simp;omega) f4.drew;rw[List.nil_append]at b5;have k5:=g5.at (show W4.drew.heap[w0.heap.size+1]?=_ from k4) (by simp[qQb]);have k15:=g5.at (show W4.drew.heap[w0.heap.size]?=_ from k14) (by simp[qQb]);have o5:one v5=true:=by obtain⟨a,c,rfl⟩:=b5.slice;rfl
  have w6:=wr1 (P:=prog) (t:=25) (w:=w5) (b:=w0.heap.size+1) (o:=33) (v:=v5) sz25 o5 k5 (by rw[qQo _ _ kl];omega);rw[chC_val kl]at w6;have k6:=qQf (o:=.cells (chC key false v5) 181 (0,0)) k5;have k16:=qQq (b:=w0.heap.size+1) (o:=.cells (chC key false v5) 181 (0,0)) k15 (by omega);have f6:=lst1 w5 (chC key false v5) f5
  have b6:NwB w0 (put w5 (w0.heap.size+1) (.cells (chC key false v5) 181 (0,0))) v5 ((s.drop 35).take n):=by
   exact b5.put _ fun c hc=>by
    rcases m5 c hc with h | h
    ·cases h
    ·have:w0.heap.size+1<W4.heap.size:=qQl k4
     have h:W4.heap.size≤c:=h;omega
  have m6:∀ c,qQb v5=some c→c≠w0.heap.size:=fun c hc=>by
   rcases m5 c hc with h | h
   ·cases h
   ·have:w0.heap.size+1<W4.heap.size:=qQl k4
    have h:W4.heap.size≤c:=h;omega
  generalize put w5 (w0.heap.size+1) (.cells (chC key false v5) 181 (0,0))=W6 at *;have rc6:=rdc W6 _ _ _ k6 kl;obtain⟨q6,l6⟩:=fin W6.drew key false v5 k16 kl o5;simp -implicitDefEqProofs only[go_sem,jU,gLa,gLz,gLs,Tryz.f167,jB,qXe,hW,d1,y0,and_self,vP,jC,r0,n1,n3,qZn,bSe,w3,p5,sliceK];refine qQg ⟨_,_,hrun,?_⟩;simp -implicitDefEqProofs only[go_sem,jU,gLa,gLz,p6,r4,d5,y20,y21,and_self,vP,kY,jG,jC,r20,r21,c0,c1,lh,d6,p7,d7,p8];refine qQg ⟨v5,w5,hr5,?_⟩;simp -implicitDefEqProofs only[go_sem,jU,w6,rc6,p9,q6,l6];refine⟨lst _ _ f6.drew,_,_,_,_,_,rfl,kl,o5,?_⟩;rw[if_neg h128,if_neg hsh];have h9:=(hcut3 _ (lst W6.drew (chC key false v5) f6.drew)).cutV (l:=n) (m:=s.length - 35) (by omega) (xP _) l3;rw[zH (by simp;omega),List.drop_drop]at h9
  exact⟨rfl,⟨_,rfl,o5,((b6.fr0 (Fr.refl _ _).drew).put _ m6).by,fun h=>by cases h⟩,h9,fun c hc=>by
   have h1:qQb (.slice xa3 (s.length - 35) xc3)=some c:=qJh hc;rw[← e3]at h1;have h2:qQb (.slice (some ⟨b2,o2,.none⟩) (s.length - 33) xc2)=some c:=qJh h1;rw[← e2]at h2
   exact qJh (n:=s.length) h2,fun c hc=>((b6.fr0 (Fr.refl _ _).drew).put _ m6).lt hc⟩
end Go.V
