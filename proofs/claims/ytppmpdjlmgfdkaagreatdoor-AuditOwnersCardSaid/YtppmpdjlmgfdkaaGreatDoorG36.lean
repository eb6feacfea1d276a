/- Helpers. -/
import Derived.Test.YtppmpdjlmgfdkaaGreatDoorG34
import Derived.Test.YtppmpdjlmgfdkaaGreatDoorG35
set_option linter.all false
set_option maxRecDepth 100000
set_option maxHeartbeats 8000000
open List renaming length_map→zW,range→zX,mem_cons_self→jX,filter_cons→vT,map_map→vL,append_assoc→zO,map_append→vY,replicate→zV,mem_range→vC,pairwise_lt_range→vS,length_filter_le→vA,countP_singleton→vE,mem_cons_of_mem→z7,filter_append→zH,countP_append→vI
open Nat renaming reduceEqDiff→jY,zero_add→zB,reduceAdd→y7,le_trans→y9,le_refl→xT,mul_one→jU,mul_le_mul_right→xP
namespace Go.V
open Go.Proofs.Tryz Go.V.Tryz
open Go.Proofs Sha
variable {im:Bs} {i n p v:Nat} {iv:Value}
section
namespace A
open Aud
instance (wd:Int) (pg:Nat→Option Pg) (ch:List Nat) (i p:Nat):Decidable (Aud.uses wd pg ch i p):=by unfold Aud.uses;infer_instance
def pgsOf (im:Bs)(s:Sup)(i:Nat):List Nat:=(zX s.mark).filter fun p=>decide (Aud.uses s.width (pgF im s.mark) (chK (pgF im s.mark) s.mark) i p)
def askP {α:Type}(im:Bs)(f:Sup→Except Int α):Except Int α :=
 match lookP im with
 | .error e=>.error e
 | .ok (s,fs)=>if fs=[] then f s else .error 4
def numI (im:Bs)(s:Sup)(v:Int):Except Int Int:=numP (chK (pgF im s.mark) s.mark).length (rcAt (pgF im s.mark) s.head) v
def pagesP (im:Bs)(v:Int):Except Int (List Nat):=askP im fun s=>match numI im s v with
 | .error e=>.error e
 | .ok i=>.ok (pgsOf im s i.toNat)
def LsQ (u:World)(r:Except Int (List Nat))(v:Value)(w:World):Prop:=No u w∧match r with
 | .error e=>v=.tuple #[.slice none 0 0,.int .i64 e]
 | .ok l=>∃ lv,v=.tuple #[lv,.int .i64 0]∧NwR u w 3 1 lv (inR l)
theorem numP_err {h:Rc}{v e:Int}(hn:numP n h v=.error e):(e != 0)=true:=by
 unfold numP at hn;generalize (if v = -1 then (h.ver:Int) else v)=x at hn;split at hn
 ·cases hn;rfl
 ·split at hn
  ·cases hn;rfl
  ·cases hn
theorem numI_rng {s:Sup}(h:Cln im s){v i:Int}(hn:numI im s v=.ok i):0≤i∧i.toNat≤(chK (pgF im s.mark) s.mark).length:=by
 unfold numI numP at hn;have hok:=pgOk (im:=im) h.ok;generalize (if v = -1 then ((rcAt (pgF im s.mark) s.head).ver:Int) else v)=x at *;split at hn
 ·cases hn
 rename_i h1;split at hn
 ·cases hn
 rename_i h2;cases hn;rw[show chK (pgF im s.mark) s.mark=chF (pgF im s.mark) s.mark from rfl]
 rcases h.mkd with ⟨h0,hm,hh⟩ | ⟨h0,hm,hh⟩
 ·have hr:rcAt (pgF im s.mark) s.head=⟨0, 0, 0, 0, 0, 0, zV 32 0⟩:=by
   unfold rcAt;rw[hh,qJl (by omega)]
  rw[hr]at h1 h2 ⊢;simp only at h1 h2 ⊢;omega
 ·obtain⟨_,_,_,c⟩:=h.vs.trees hok (i:=(chF (pgF im s.mark) s.mark).length) (xT _)
  have c1:(rcAt (pgF im s.mark) (chAt (chF (pgF im s.mark) s.mark) (chF (pgF im s.mark) s.mark).length)).first=(rcAt (pgF im s.mark) (chAt (chF (pgF im s.mark) s.mark) 1)).first:=(c h0).1.1;have c2:(rcAt (pgF im s.mark) (chAt (chF (pgF im s.mark) s.mark) (chF (pgF im s.mark) s.mark).length)).ver=(if 0<(rcAt (pgF im s.mark) (chAt (chF (pgF im s.mark) s.mark) 1)).first then (rcAt (pgF im s.mark) (chAt (chF (pgF im s.mark) s.mark) 1)).first+(chF (pgF im s.mark) s.mark).length - 1 else (chF (pgF im s.mark) s.mark).length):=(c h0).1.2.1;rw[← hh]at c1 c2;rw[← c1]at c2;split at c2
  ·omega
  ·omega
theorem sorted_ext:∀ {l m:List Nat},l.Pairwise (·<·)→m.Pairwise (·<·)→(∀ x,x ∈ l ↔ x ∈ m)→l=m
 | [],[],_,_,_=>rfl
 | [],b::m,_,_,h=>absurd ((h b).2 (jX ..)) (by simp)
 | a::l,[],_,_,h=>absurd ((h a).1 (jX ..)) (by simp)
 | a::l,b::m,h1,h2,h=>by
  obtain⟨a1,a2⟩:=List.pairwise_cons.1 h1;obtain⟨b1,b2⟩:=List.pairwise_cons.1 h2
  have e:a=b:=by
   rcases List.mem_cons.1 ((h a).1 (jX ..)) with e | e
   ·exact e
   ·rcases List.mem_cons.1 ((h b).2 (jX ..)) with e' | e'
    ·exact e'.symm
    ·have:=b1 a e;have:=a1 b e';omega
  subst e
  congr 1
  refine sorted_ext a2 b2 fun x=>⟨fun hx=>?_,fun hx=>?_⟩
  ·rcases List.mem_cons.1 ((h x).1 (z7 _ hx)) with e | e
   ·have:=a1 x hx;omega
   ·exact e
  ·rcases List.mem_cons.1 ((h x).2 (z7 _ hx)) with e | e
   ·have:=b1 x hx;omega
   ·exact e
theorem sorted_lt {l:List Nat}(h:l.Pairwise (·≤·))(hn:l.Nodup):l.Pairwise (·<·):=(h.and hn).imp fun {a b} ⟨h1,h2⟩=>Nat.lt_of_le_of_ne h1 h2
def pgI (u w2:World)(r ub:Nat)(es:Array MapEntry)(c:Nat)(n:Nat)(vs:List Value)(w:World):Prop :=
 ∃ (seen:Array Nat) (ks:List Nat) (lv:Value),vs=[lv,pt r 0]∧It w r ub es c seen∧n=(leftOf es seen).toList.length∧(ks.map encN++(leftOf es seen).toList.map (·.key)).Perm (es.toList.map (·.key))∧NwR w2 w 3 1 lv (inR ks)∧No w2 w
theorem pages (w:World)(ht:Tabs w)(hi:By w iv im)(hl:im.length≤2 ^ 47)(ver:Int) :
  Fn prog 18 #[iv,.int .i64 ver] w fun v w'=>LsQ w (pagesP im ver) v w':=by
 refine go18 (by simp) ?_;simp -implicitDefEqProofs only[go_sem,jY,zB,Tryz.f18];refine qQa pl32 ((cleanW w ht hi hl).mono ?_);rintro v w2 hq;unfold ClQ at hq
 cases hlook:lookP im with
 | error e =>
  rw[hlook]at hq;obtain⟨rfl,f2⟩:=hq;have ne:=qKp hlook;simp -implicitDefEqProofs only[go_sem,jY,gLa,gLz,gLs,ne];refine And.intro f2 ?_;unfold pagesP askP;rw[hlook]
 | ok y =>
  obtain⟨s,fs⟩:=y;rw[hlook]at hq;obtain⟨sb,mn,mr,cv,vv,nl,rl,rfl,ho,⟨f2,fv,bv,hS,hb⟩,hV⟩:=hq
  by_cases h0:fs=[]
  case neg =>
   rw[if_neg h0];have ne:((4:Int) != 0)=true:=rfl;simp -implicitDefEqProofs only[go_sem,jY,gLa,gLz,gLs,ne];refine And.intro f2 ?_;unfold pagesP askP;rw[hlook]
   show match (if fs=[] then _ else _:Except Int (List Nat)) with | .error e=>_ | .ok l=>_
   rw[if_neg h0]
  rw[if_pos h0];have hcl:=qVc (by rw[hlook,h0]);have hV:=hV h0;have c00:((0:Int) != 0)=false:=rfl
  have hP:pagesP im ver=(match numI im s ver with | .error e=>.error e | .ok i=>.ok (pgsOf im s i.toNat)):=by
   unfold pagesP askP;rw[hlook];exact if_pos h0
  rw[hP];simp -implicitDefEqProofs only[go_sem,jY,gLa,gLz,gLs,bNe];refine qQa pl33 ((numberW hS ho ver).mono ?_);rintro _ w3 ⟨rfl,f3⟩;rw[show numP (chK (pgF im s.mark) s.mark).length (rcAt (pgF im s.mark) s.head) ver=numI im s ver from rfl]
  cases hn:numI im s ver with
  | error e =>
   have ne:=numP_err (show numP _ _ _=_ from hn);unfold numV;simp -implicitDefEqProofs only[go_sem,jY,gLa,gLz,gLs,ne];exact And.intro (f2.trans f3) rfl
  | ok i =>
   unfold numV;obtain⟨hi0,hin⟩:=numI_rng hcl hn;simp -implicitDefEqProofs only[go_sem,jY,gLa,gLz,gLs,bNe];have k4:(w3.alloc (.map #[] 0)).heap[w3.heap.size]?=some (.map #[] 0):=qQb _ _;have f4:No w3 (w3.alloc (.map #[] 0)):=(Fr.refl _ _).alloc _;have s4:(w3.alloc (.map #[] 0)).heap.size=w3.heap.size+1:=qQc _ _;generalize w3.alloc (.map #[] 0)=w4 at *;have hub:w2.heap.size≤w3.heap.size:=f3.size
   have hmark:Fn prog 34 #[pt sb 0,.int .i64 i,.map (some w3.heap.size)] w4 fun v w'=>v=.tuple #[]∧Fr (fun b=>b=w3.heap.size) w4 w'∧CntM w' w3.heap.size (fun p=>Aud.uses s.width (pgF im s.mark) (chK (pgF im s.mark) s.mark) i.toNat p) (2 ^ 23):=by
    by_cases h1:i<1
    ·refine (markSmall h1 _ _ _).mono ?_
     rintro v w' ⟨rfl,rfl⟩;exact⟨rfl,Fr.refl _ _,(CntM.new k4).ext (fun p=>⟨False.elim,fun hu=>by have:=hu.1;omega⟩) (by omega)⟩
    ·have htr:=hcl.vs.trees (pgOk (im:=im) hcl.ok) (i:=i.toNat) hin
     have hents:(trP s.width (pgF im s.mark) (chK (pgF im s.mark) s.mark) i.toNat).ents.length≤4096:=by
      have:=(htr.2.2.2 (by omega)).2.2.2.2.1;have:=((pgOk (im:=im) hcl.ok).rc (chAt (chF (pgF im s.mark) s.mark) i.toNat)).2.2.1;show (trP s.width (pgF im s.mark) (chF (pgF im s.mark) s.mark) i.toNat).ents.length≤4096;omega
     have hpl:=pgs_len (d:=257) htr.1 rfl (by decide);have hpl2:(trP s.width (pgF im s.mark) (chK (pgF im s.mark) s.mark) i.toNat).pgs.length≤2 ^ 22:=y9 hpl (y9 (xP 257 hents) (by decide));have:=markW hS ho hV (f3.trans f4) (i:=i.toNat) (by omega) hin htr.1 hpl2 hub (B:=0) (by omega) (CntM.new k4);rw[show ((i.toNat:Nat):Int)=i by omega]at this;refine this.mono ?_;rintro v w' ⟨rfl,a,b⟩;exact⟨rfl,a,b.ext (fun p=>by simp) (by omega)⟩
   refine qQa pl34 (hmark.mono ?_);rintro _ w5 ⟨rfl,f5,hc5⟩;simp -implicitDefEqProofs only[go_sem,jY];obtain⟨ul,hum,huc⟩:=hc5;obtain⟨es,c,m1,m2,m3,m4,m5,m6⟩:=id hum;obtain⟨q1,it1,f6⟩:=range_it (P:=prog) (mapUnd map105) m1 m5 m6;refine qQj ⟨_,_,q1,?_⟩;refine loopD [10,35] (pgI w w5 w5.heap.size w3.heap.size es c) es.toList.length ⟨#[],[],.slice none 0 0,by simp -implicitDefEqProofs only[go_sem,jY],it1,by rw[qVa],by rw[qVa];exact List.Perm.refl _,NwR.nil _ _ _ _,f6⟩ ?_;have noW5:No w w5:=((f2.trans f3).trans f4).trans' f5 fun b hb e=>by subst e;have:=f2.size;have:=f3.size;omega
   have hesl:es.toList.map (·.key)=ul.map fun p=>encN p.1:=by
    have:=congrArg (List.map Prod.fst) m2
    rwa [vL,vL]at this
   have huse:∀ p,p ∈ ul.map (·.1) ↔ Aud.uses s.width (pgF im s.mark) (chK (pgF im s.mark) s.mark) i.toNat p:=fun p=>by
    constructor
    ·intro hp
     refine Classical.byContradiction fun hc=>?_;exact qKr.1 ((huc p).2 hc) hp
    ·intro hp
     obtain⟨n,_,_,hf⟩:=(huc p).1 hp;refine Classical.byContradiction fun hc=>?_;rw[qKr.2 hc]at hf;cases hf
   have hur:∀ p,Aud.uses s.width (pgF im s.mark) (chK (pgF im s.mark) s.mark) i.toNat p→p<s.mark:=fun p hu=>by
    have hok:=pgOk (im:=im) hcl.ok;have h1:=uses_rng hok hcl.vs (i:=i.toNat) hin hu;have h2:=hok.ch (i:=i.toNat) hu.1 hin;omega
   have hul:ul.length≤4096:=by
    have h1:=nodup_le (l:=ul.map (·.1)) (m:=zX s.mark) m4 fun x hx=>List.mem_range.2 (hur x ((huse x).1 hx));rw[zW,List.length_range]at h1;have:=ho.hm;omega
   have hesz:es.toList.length=ul.length:=by have:=congrArg List.length hesl;rwa [zW,zW]at this
   rintro _ vs w6 g ⟨seen,ks,lv,rfl,hit,rfl,hpm,hlv,f6⟩
   have hkl:ks.length≤4096:=by
    have:=hpm.length_eq;rw[lAp,zW,zW,zW]at this;omega
   simp -implicitDefEqProofs only[go_sem,jY];refine qQj (It.next hit ?_ ?_)
   ·intro hnil
    rw[hnil]at hpm;have hpm:(ks.map encN).Perm (ul.map fun p=>encN p.1):=by rw[← hesl];simpa using hpm
    have hks:ks.Perm (ul.map (·.1)):=by
     have e1:(ul.map fun p=>encN p.1)=(ul.map (·.1)).map encN:=by rw[vL];rfl
     rw[e1]at hpm
     have:=hpm.map fun v:Value=>match v with | .int _ x=>x.toNat | _=>0
     rw[vL,vL]at this;have e2:((fun v:Value=>match v with | .int _ x=>x.toNat | _=>0) ∘ encN)=id:=by funext n;rfl
     rw[e2,List.map_id,List.map_id]at this;exact this
    simp -implicitDefEqProofs only[go_sem,jY,gLa,gLz];refine qQa pl35 ((sortI w5 w6 hlv (by omega)).mono ?_);rintro _ w7 ⟨rfl,l',hp',hs',hl',f7⟩;simp -implicitDefEqProofs only[go_sem,jY]
    have hlist:l'=pgsOf im s i.toNat:=by
     have hpp:=hp'.trans hks;refine sorted_ext (sorted_lt hs' (hpp.nodup_iff.2 m4)) (List.Pairwise.filter _ vS) fun x=>?_;unfold pgsOf;rw[hpp.mem_iff,huse,List.mem_filter,vC,decide_eq_true_eq];exact⟨fun hu=>⟨hur x hu,hu⟩,fun hu=>hu.2⟩
    refine And.intro ?_ ⟨lv,rfl,?_⟩
    ·exact (noW5.trans f6).trans' f7 fun b hb e=>by have:=hlv.2.new b e;have:=noW5.size;omega
    ·rw[← hlist];exact hl'.back noW5.size
   ·intro e w7 he hit7 f7
    simp -implicitDefEqProofs only[go_sem,jY,gLa,gLz];refine qQj ⟨_,_,hit7.entry (left_mem he),?_⟩
    obtain⟨p,hpe⟩:∃ p:Nat,e.key=encN p:=by
     have:=List.mem_map_of_mem (f:=fun e:MapEntry=>e.key) (left_mem he);rw[hesl]at this;obtain⟨q,_,hq⟩:=List.mem_map.1 this;exact⟨q.1,hq.symm⟩
    rw[hpe];have f67:No w5 w7:=f6.trans' f7 fun b hb e=>by subst e;omega
    have hlv7:NwR w5 w7 3 1 lv (inR ks):=hlv.fr f7 fun b hb e=>by
     subst e;obtain⟨cc,hcc⟩:=qXg hlv hb;obtain⟨_,hx,_⟩:=hit;rw[hcc]at hx;cases hx
    obtain⟨v8,w8,hr8,b8,g8,m8⟩:=hlv7.push (P:=prog) app45_45 (xs:=[encN p]) rfl rfl (by decide) (by rw[qQv];omega) (by rw[qQv];omega) f67.size;simp -implicitDefEqProofs only[go_sem,jY,gLa,gLz,Value.cells,zB];refine qQp (v:=.slice (some ⟨w7.heap.size,0,none⟩) 1 1) (w':=w7.alloc (.cells #[encN p] 3)) (qZk (K:=1) (by decide) (by decide) (y:=[.int .i64 0]) rfl rfl rfl _) ?_;simp -implicitDefEqProofs only[go_sem,jY];refine qQj ⟨v8,w8,hr8,?_⟩;simp -implicitDefEqProofs only[go_sem,jY];refine⟨_,?_,seen.push e.born,ks++[p],v8,rfl,hit7.fr g8 ?_ ?_,rfl,?_,?_,f67.trans' g8 ?_⟩
    ·have:=(hit.took he).length_eq
     rw[List.length_cons]at this;omega
    ·intro hb
     obtain⟨cc,hcc⟩:=qXg hlv7 hb;obtain⟨_,hx,_⟩:=hit7;rw[hcc]at hx;cases hx
    ·intro hb
     obtain⟨cc,hcc⟩:=qXg hlv7 hb;obtain⟨_,_,hx,_⟩:=hit7;rw[hcc]at hx;cases hx
    ·have h1:=(hit.took he).map (·.key)
     rw[vY,zO];refine List.Perm.trans (List.Perm.append_left _ ?_) hpm;rw[List.map_cons,hpe]at h1;exact h1
    ·unfold inR at b8 ⊢
     rw[vY];exact b8
    ·intro b hb e
     have:=hlv7.2.new b e;omega
end A
end
section
namespace A
open Aud
def ownerP (im:Bs)(p:Int):Except Int Nat:=askP im fun s=>if p<2∨(s.mark:Int)≤p then .error 41
 else .ok (rcAt (pgF im s.mark) (chAt (chK (pgF im s.mark) s.mark) (ownIx (chK (pgF im s.mark) s.mark) p.toNat+1))).ver
def OwQ (u:World)(r:Except Int Nat)(v:Value)(w:World):Prop:=No u w∧match r with
 | .error e=>v=.tuple #[.int .i64 0,.int .i64 e]
 | .ok x=>v=.tuple #[.int .i64 (x:Nat),.int .i64 0]
theorem owner (w:World)(ht:Tabs w)(hi:By w iv im)(hl:im.length≤2 ^ 47)(p:Int) :
  Fn prog 19 #[iv,.int .i64 p] w fun v w'=>OwQ w (ownerP im p) v w':=by
 refine go19 (by simp) ?_;simp -implicitDefEqProofs only[go_sem,jY,zB,Tryz.f19];refine qQa pl32 ((cleanW w ht hi hl).mono ?_);rintro v w2 hq;unfold ClQ at hq
 cases hlook:lookP im with
 | error e =>
  rw[hlook]at hq;obtain⟨rfl,f2⟩:=hq;have ne:=qKp hlook;simp -implicitDefEqProofs only[go_sem,jY,gLa,gLz,gLs,ne];refine And.intro f2 ?_;unfold ownerP askP;rw[hlook]
 | ok y =>
  obtain⟨s,fs⟩:=y;rw[hlook]at hq;obtain⟨sb,mn,mr,cv,vv,nl,rl,rfl,ho,⟨f2,fv,bv,hS,hb⟩,hV⟩:=hq
  by_cases h0:fs=[]
  case neg =>
   rw[if_neg h0];have ne:((4:Int) != 0)=true:=rfl;simp -implicitDefEqProofs only[go_sem,jY,gLa,gLz,gLs,ne];refine And.intro f2 ?_;unfold ownerP askP;rw[hlook]
   show match (if fs=[] then _ else _:Except Int Nat) with | .error e=>_ | .ok l=>_
   rw[if_neg h0]
  rw[if_pos h0];have hcl:=qVc (by rw[hlook,h0]);have c00:((0:Int) != 0)=false:=rfl
  have hP:ownerP im p=(if p<2∨(s.mark:Int)≤p then .error 41 else .ok (rcAt (pgF im s.mark) (chAt (chK (pgF im s.mark) s.mark) (ownIx (chK (pgF im s.mark) s.mark) p.toNat+1))).ver):=by
   unfold ownerP askP;rw[hlook];exact if_pos h0
  rw[hP];have r3:rdO prog 3 w2 sb 3=some (.int .i64 (s.mark:Nat)):=rd1 agg3 hS.row rfl
  by_cases h2:p<2
  ·have d1:decide (p<2)=true:=decide_eq_true h2
   simp -implicitDefEqProofs only[go_sem,jY,gLa,gLz,gLs,bNe,qXq,d1];rw[if_pos (.inl h2)];exact And.intro f2 rfl
  have d1:decide (p<2)=false:=decide_eq_false h2
  by_cases h3:(s.mark:Int)≤p
  ·have d2':decide (p ≥ (s.mark:Int))=true:=decide_eq_true h3
   simp -implicitDefEqProofs only[go_sem,jY,y7,gLa,gLz,gLs,bSe,bNe,zB,d1,r3,d2'];rw[if_pos (.inr h3)];exact And.intro f2 rfl
  have d2':decide (p ≥ (s.mark:Int))=false:=decide_eq_false h3;rw[if_neg (by omega)]
  obtain⟨q,rfl⟩:∃ q:Nat,p=q:=⟨p.toNat,by omega⟩
  have hmk:(chF (pgF im s.mark) s.mark).length=0∧s.mark≤2∨0<(chF (pgF im s.mark) s.mark).length∧s.mark≤chAt (chF (pgF im s.mark) s.mark) (chF (pgF im s.mark) s.mark).length+1:=by
   rcases hcl.mkd with ⟨a,b,_⟩ | ⟨a,b,_⟩
   ·exact .inl ⟨a,by omega⟩
   ·exact .inr ⟨a,by omega⟩
  have hown:=own_uses (pgOk (im:=im) hcl.ok) hcl.vs (p:=q) hmk (by omega) (by omega);have hlt:ownIx (chK (pgF im s.mark) s.mark) q<(chK (pgF im s.mark) s.mark).length:=hown.1;clear hown;have hln:=chK_len (pgF im s.mark) s.mark;have hm4:=ho.hm;generalize hch:chK (pgF im s.mark) s.mark=ch at *;have hsr:ch.Pairwise (·<·):=by rw[← hch];exact chF_sort _ _
  have hchn:=hS.chn;rw[hch]at hchn;obtain⟨cb,co,ccap,hce,hcc⟩:=hchn.rd.pos (by decide) (by rw[qQv];omega);rw[qQv]at hce hcc;have r8:rdO prog 45 w2 sb 8=some cv:=rd1 agg45 hS.row rfl;simp -implicitDefEqProofs only[go_sem,jY,y7,gLa,gLz,gLs,bSe,bNe,zB,d1,r3,d2',r8];refine qQa pl36 ((findI w2 hchn.rd (by omega) (by omega) (hsr.imp fun {a b} h=>Nat.le_of_lt h) q).mono ?_);rintro _ w5 ⟨⟨ok,rfl⟩,f5⟩;have h5:=hS.fr0 f5;have hchn5:=hchn.fr0 f5;rw[show ch.countP (fun y=>decide (y<q))=ownIx ch q from rfl];generalize hox:ownIx ch q=j at *;have lk0:=fun p=>rec_is (h5.fr0 (Fr.refl _ _).drew) ho p;have f6:No w2 w5.drew:=f5.drew;have h6:=h5;have hchn6:=hchn5;have no6:No w w5.drew:=f2.trans f6;have r7:rdO prog 69 w5 sb 7=some (.map (some mr)):=rd1 agg69 h6.row rfl;have r8:rdO prog 45 w5 sb 8=some cv:=rd1 agg45 h6.row rfl;rw[hce]at r8 hchn6
  have rj:rdO prog 3 w5 cb (co+j)=some (.int .i64 (ch[j]:Nat)):=by
   have:=hchn6.rd.fld (P:=prog) (t:=3) agg3 (i:=j) (by rw[qQv];exact hlt) (j:=0) (by decide) (x:=.int .i64 (ch[j]:Nat)) (by simp only[inR,List.getElem_map,List.getElem?_cons_zero]);rw[jU,Nat.add_zero]at this;exact this
  have hcj:chAt ch (j+1)=ch[j]:=by
   obtain⟨_,e⟩:=chAt_get (ch:=ch) (i:=j+1) (by omega) (by omega);rw[e];rfl
  have lk:=rec_is h6 ho ch[j];have lk0:=lk0 ch[j];have fe:partO prog 3 (rcC (rcAt (pgF im s.mark) ch[j])).toArray 0=some (.int .i64 ((rcAt (pgF im s.mark) ch[j]).ver:Nat)):=by rw[qKd agg3];rfl
  have y1:(0:Int)≤((j:Nat):Int)∧((j:Nat):Int)<(ch.length:Int):=by omega
  simp -implicitDefEqProofs only[go_sem,jY,gLa,gLz,gLs,zB,r7,r8,y1.1,y1.2,and_self,if_true,iTn,jU,rj,lk0,fe];refine And.intro no6 ?_;show Value.tuple _=Value.tuple _;rw[hcj]
end A
end
section
namespace A
open Aud
def lateB (im:Bs)(s:Sup)(i p:Nat):Bool:=(zX ((chK (pgF im s.mark) s.mark).length+1)).any fun j=>decide (i≤j) && decide (Aud.uses s.width (pgF im s.mark) (chK (pgF im s.mark) s.mark) j p)
theorem lateB_iff {s:Sup}:lateB im s i p=true ↔ ∃ j,i≤j∧j≤(chK (pgF im s.mark) s.mark).length∧Aud.uses s.width (pgF im s.mark) (chK (pgF im s.mark) s.mark) j p:=by
 unfold lateB;rw[List.any_eq_true];constructor
 ·rintro⟨j,hj,h⟩
  rw[vC]at hj;rw[Bool.and_eq_true,decide_eq_true_eq,decide_eq_true_eq]at h;exact⟨j,h.1,by omega,h.2⟩
 ·rintro⟨j,h1,h2,h3⟩
  exact⟨j,List.mem_range.2 (by omega),by rw[Bool.and_eq_true,decide_eq_true_eq,decide_eq_true_eq];exact⟨h1,h3⟩⟩
def qXs (im:Bs)(s:Sup)(i k:Nat):List Nat:=(zX k).filter fun p=>decide (2≤p) && !lateB im s i p
def garbP (im:Bs)(v:Int):Except Int (List Nat):=askP im fun s=>match numI im s v with
 | .error e=>.error e
 | .ok i=>.ok (qXs im s i.toNat s.mark)
theorem qVb (im:Bs)(s:Sup)(i k:Nat)(hk:2≤k):qXs im s i (k+1)=qXs im s i k++(if lateB im s i k=true then [] else [k]):=by
 unfold qXs;rw[List.range_succ,zH]
 congr 1
 rw[vT,decide_eq_true hk,Bool.true_and,List.filter_nil]
 cases lateB im s i k <;> rfl
theorem garbOf_two (im:Bs)(s:Sup)(i:Nat):qXs im s i 2=[]:=by
 unfold qXs;rw[show zX 2=[0,1] from rfl,vT,vT]
 rfl
theorem garbOf_len (im:Bs)(s:Sup)(i k:Nat):(qXs im s i k).length≤k:=by unfold qXs;exact y9 (vA _ _) (by simp)
def gbI (w3:World)(im:Bs)(s:Sup)(sb ub i0:Nat)(n:Nat)(vs:List Value)(w:World):Prop :=
 ∃ i:Nat,vs=[pt sb 0,.int .i64 (i:Nat),.map (some ub)]∧i0≤i∧i≤(chK (pgF im s.mark) s.mark).length+1∧n=(chK (pgF im s.mark) s.mark).length+1 - i∧CntM w ub (fun p=>∃ j,i0≤j∧j<i∧Aud.uses s.width (pgF im s.mark) (chK (pgF im s.mark) s.mark) j p) (i*2 ^ 23)∧No w3 w
def gcI (w3:World)(im:Bs)(s:Sup)(sb ub i0:Nat)(n:Nat)(vs:List Value)(w:World):Prop :=
 ∃ (k:Nat) (lv:Value),vs=[pt sb 0,.map (some ub),lv,.int .i64 (k:Nat)]∧2≤k∧k≤s.mark∧n=s.mark - k∧NwR w3 w 3 1 lv (inR (qXs im s i0 k))∧No w3 w
theorem garbage (w:World)(ht:Tabs w)(hi:By w iv im)(hl:im.length≤2 ^ 47)(ver:Int) :
  Fn prog 20 #[iv,.int .i64 ver] w fun v w'=>LsQ w (garbP im ver) v w':=by
 refine go20 (by simp) ?_;simp -implicitDefEqProofs only[go_sem,jY,zB,Tryz.f20];refine qQa pl32 ((cleanW w ht hi hl).mono ?_);rintro v w2 hq;unfold ClQ at hq
 cases hlook:lookP im with
 | error e =>
  rw[hlook]at hq;obtain⟨rfl,f2⟩:=hq;have ne:=qKp hlook;simp -implicitDefEqProofs only[go_sem,jY,gLa,gLz,gLs,ne];refine And.intro f2 ?_;unfold garbP askP;rw[hlook]
 | ok y =>
  obtain⟨s,fs⟩:=y;rw[hlook]at hq;obtain⟨sb,mn,mr,cv,vv,nl,rl,rfl,ho,⟨f2,fv,bv,hS,hb⟩,hV⟩:=hq
  by_cases h0:fs=[]
  case neg =>
   rw[if_neg h0];have ne:((4:Int) != 0)=true:=rfl;simp -implicitDefEqProofs only[go_sem,jY,gLa,gLz,gLs,ne];refine And.intro f2 ?_;unfold garbP askP;rw[hlook]
   show match (if fs=[] then _ else _:Except Int (List Nat)) with | .error e=>_ | .ok l=>_
   rw[if_neg h0]
  rw[if_pos h0];have hcl:=qVc (by rw[hlook,h0]);have hV:=hV h0;have c00:((0:Int) != 0)=false:=rfl
  have hP:garbP im ver=(match numI im s ver with | .error e=>.error e | .ok i=>.ok (qXs im s i.toNat s.mark)):=by
   unfold garbP askP;rw[hlook];exact if_pos h0
  rw[hP];simp -implicitDefEqProofs only[go_sem,jY,gLa,gLz,gLs,bNe];refine qQa pl33 ((numberW hS ho ver).mono ?_);rintro _ w3 ⟨rfl,f3⟩;rw[show numP (chK (pgF im s.mark) s.mark).length (rcAt (pgF im s.mark) s.head) ver=numI im s ver from rfl]
  cases hn:numI im s ver with
  | error e =>
   have ne:=numP_err (show numP _ _ _=_ from hn);unfold numV;simp -implicitDefEqProofs only[go_sem,jY,gLa,gLz,gLs,ne];exact And.intro (f2.trans f3) rfl
  | ok i =>
   unfold numV;obtain⟨hi0,hin⟩:=numI_rng hcl hn
   obtain⟨i,rfl⟩:∃ q:Nat,i=q:=⟨i.toNat,by omega⟩
   rw[iTn]at hin;simp -implicitDefEqProofs only[go_sem,jY,gLa,gLz,gLs,bNe];have k4:(w3.alloc (.map #[] 0)).heap[w3.heap.size]?=some (.map #[] 0):=qQb _ _;have f4:No w3 (w3.alloc (.map #[] 0)):=(Fr.refl _ _).alloc _;have s4:(w3.alloc (.map #[] 0)).heap.size=w3.heap.size+1:=qQc _ _;generalize w3.alloc (.map #[] 0)=w4 at *;have hub:w2.heap.size≤w3.heap.size:=f3.size;have hlk:=chK_len (pgF im s.mark) s.mark;have hm4:=ho.hm;have hm2:2≤s.mark:=by have:=hcl.ok.2.2.2.1;omega
   refine loopD [6,8,9] (gbI w3 im s sb w3.heap.size i) ((chK (pgF im s.mark) s.mark).length+1 - i) ⟨i,by simp -implicitDefEqProofs only[go_sem,jY],xT _,by omega,rfl,(CntM.new k4).ext (fun p=>⟨False.elim,fun ⟨j,h1,h2,_⟩=>by omega⟩) (Nat.zero_le _),f4⟩ ?_;rintro _ vs w5 g ⟨j,rfl,hj0,hjn,rfl,hc,f5⟩;have f25:=f3.trans f5;have h5:=hS.fr0 f25;obtain⟨a,cap,hcv,hcap⟩:=h5.chn.rd.slice;rw[qQv]at hcv hcap;have r8:rdO prog 45 w5 sb 8=some (.slice a (chK (pgF im s.mark) s.mark).length cap):=by rw[← hcv];exact rd1 agg45 h5.row rfl
   have dj:decide ((j:Int)≤((chK (pgF im s.mark) s.mark).length:Int))=decide (j≤(chK (pgF im s.mark) s.mark).length):=by simp
   by_cases hjl:j≤(chK (pgF im s.mark) s.mark).length
   ·rw[decide_eq_true hjl]at dj
    simp -implicitDefEqProofs only[go_sem,jY,gLa,gLz,zB,r8,dj]
    have hmark:Fn prog 34 #[pt sb 0,.int .i64 (j:Nat),.map (some w3.heap.size)] w5 fun v w'=>v=.tuple #[]∧Fr (fun b=>b=w3.heap.size) w5 w'∧CntM w' w3.heap.size (fun p=>(∃ j',i≤j'∧j'<j∧Aud.uses s.width (pgF im s.mark) (chK (pgF im s.mark) s.mark) j' p)∨Aud.uses s.width (pgF im s.mark) (chK (pgF im s.mark) s.mark) j p) (j*2 ^ 23+2 ^ 23):=by
     by_cases h1:(j:Int)<1
     ·refine (markSmall h1 _ _ _).mono ?_
      rintro v w' ⟨rfl,rfl⟩;exact⟨rfl,Fr.refl _ _,hc.ext (fun p=>⟨.inl,fun hu=>hu.resolve_right fun hu=>by have:=hu.1;omega⟩) (by omega)⟩
     ·have htr:=hcl.vs.trees (pgOk (im:=im) hcl.ok) (i:=j) hjl
      have hents:(trP s.width (pgF im s.mark) (chK (pgF im s.mark) s.mark) j).ents.length≤4096:=by
       have:=(htr.2.2.2 (by omega)).2.2.2.2.1;have:=((pgOk (im:=im) hcl.ok).rc (chAt (chF (pgF im s.mark) s.mark) j)).2.2.1;show (trP s.width (pgF im s.mark) (chF (pgF im s.mark) s.mark) j).ents.length≤4096;omega
      have hpl:=pgs_len (d:=257) htr.1 rfl (by decide);have hpl2:(trP s.width (pgF im s.mark) (chK (pgF im s.mark) s.mark) j).pgs.length≤2 ^ 22:=y9 hpl (y9 (xP 257 hents) (by decide));exact markW hS ho hV f25 (i:=j) (by omega) hjl htr.1 hpl2 hub (B:=j*2 ^ 23) (by omega) hc
    refine qQa pl34 (hmark.mono ?_);rintro _ w6 ⟨rfl,f6,hc6⟩;have cj:=iSu (i:=j);simp -implicitDefEqProofs only[go_sem,jY,cj];refine⟨(chK (pgF im s.mark) s.mark).length+1 - (j+1),by omega,j+1,rfl,by omega,by omega,rfl,hc6.ext (fun p=>?_) (by omega),f5.trans' f6 fun b hb e=>by subst e;omega⟩;constructor
    ·rintro (⟨j',a,b,c⟩ | hu)
     ·exact⟨j',a,by omega,c⟩
     ·exact⟨j,hj0,by omega,hu⟩
    ·rintro⟨j',a,b,c⟩
     by_cases e:j'=j
     ·exact .inr (by rw[← e];exact c)
     ·exact .inl ⟨j',a,by omega,c⟩
   ·rw[decide_eq_false hjl]at dj
    have hje:j=(chK (pgF im s.mark) s.mark).length+1:=by omega
    simp -implicitDefEqProofs only[go_sem,jY,gLa,gLz,zB,r8,dj];clear r8 dj;refine loopD [6,9,10,11] (gcI w5 im s sb w3.heap.size i) (s.mark - 2) ⟨2,.slice none 0 0,by simp -implicitDefEqProofs only[go_sem,jY];rfl,xT _,hm2,rfl,by rw[garbOf_two];exact NwR.nil _ _ _ _,Fr.refl _ _⟩ ?_;rintro _ vs w7 g7 ⟨k,lv,rfl,hk2,hkm,rfl,hlv,f7⟩;have h7:=h5.fr0 f7;have hc7:=hc.fr f7 id;have r3:rdO prog 3 w7 sb 3=some (.int .i64 (s.mark:Nat)):=rd1 agg3 h7.row rfl;have dk:=natlt k s.mark;have noW:No w w7:=((f2.trans f25)).trans f7
    by_cases hkl:k<s.mark
    ·rw[decide_eq_true hkl]at dk
     obtain⟨x,ok,_,hx,lk⟩:=hc7.look k
     have hlate:x=0 ↔ ¬ lateB im s i k=true:=by
      rw[hx,lateB_iff];exact not_congr ⟨fun ⟨j',a,b,c⟩=>⟨j',a,by omega,c⟩,fun ⟨j',a,b,c⟩=>⟨j',a,by omega,c⟩⟩
     have ex:=nateq x 0;have ck:=iSu (i:=k);have hsu:=qVb im s i k hk2
     by_cases hx0:x=0
     ·rw[decide_eq_true hx0]at ex
      rw[if_neg (hlate.1 hx0)]at hsu;have hgl:=garbOf_len im s i k;obtain⟨v8,w8,hr8,b8,g8,m8⟩:=hlv.push (P:=prog) app45_45 (xs:=[encN k]) rfl rfl (by decide) (by rw[qQv];omega) (by rw[qQv];omega) f7.size;have ex:((x:Int) == 0)=true:=ex;simp -implicitDefEqProofs only[go_sem,jY,y7,Value.cells,zB,r3,dk,lk,ex];refine qQp (v:=.slice (some ⟨w7.heap.size,0,none⟩) 1 1) (w':=w7.alloc (.cells #[encN k] 3)) (qZk (K:=1) (by decide) (by decide) (y:=[.int .i64 0]) rfl rfl rfl _) ?_;simp -implicitDefEqProofs only[go_sem,jY];refine qQj ⟨v8,w8,hr8,?_⟩;simp -implicitDefEqProofs only[go_sem,jY,ck];refine⟨s.mark - (k+1),by omega,k+1,v8,rfl,by omega,by omega,rfl,?_,f7.trans' g8 fun b hb e=>by have:=hlv.2.new b e;omega⟩;rw[hsu];unfold inR at b8 ⊢;rw[vY];exact b8
     ·rw[decide_eq_false hx0]at ex
      have hlt:lateB im s i k=true:=Classical.byContradiction fun h=>hx0 (hlate.2 h);rw[if_pos hlt,List.append_nil]at hsu;have ex:((x:Int) == 0)=false:=ex;simp -implicitDefEqProofs only[go_sem,jY,y7,zB,r3,dk,lk,ex,ck];refine⟨s.mark - (k+1),by omega,k+1,lv,rfl,by omega,by omega,rfl,?_,f7⟩;rw[hsu];exact hlv
    ·rw[decide_eq_false hkl]at dk
     simp -implicitDefEqProofs only[go_sem,jY,y7,zB,r3,dk];have hke:k=s.mark:=by omega
     subst hke;exact And.intro noW ⟨lv,rfl,hlv.back ((f2.trans f25).size)⟩
end A
end
section
namespace A
open Aud
theorem rcAt_none {pg:Nat→Option Pg}(h:isRc (pg p)=false):rcAt pg p=⟨0,0,0,0,0,0,zV 32 0⟩:=by
 unfold rcAt
 cases hp:pg p with
 | none=>rfl
 | some g=>cases g with
  | nd n=>rfl
  | rc r=>rw[hp]at h;cases h
section
variable {im:Bs} {s:Sup}
theorem rep_first (im:Bs)(s:Sup):(if isRc (pgF im s.mark s.head) then (rcAt (pgF im s.mark) s.head).first else 0)=(rcAt (pgF im s.mark) s.head).first:=by
 cases h:isRc (pgF im s.mark s.head)
 ·rw[rcAt_none h];rfl
 ·rfl
theorem rep_ver (im:Bs)(s:Sup):(if isRc (pgF im s.mark s.head) then (rcAt (pgF im s.mark) s.head).ver else 0)=(rcAt (pgF im s.mark) s.head).ver:=by
 cases h:isRc (pgF im s.mark s.head)
 ·rw[rcAt_none h];rfl
 ·rfl
def fstV (im:Bs)(s:Sup):Nat:=(rcAt (pgF im s.mark) s.head).first
def lstV (im:Bs)(s:Sup):Nat:=(rcAt (pgF im s.mark) s.head).ver
def cntR (im:Bs)(s:Sup):Nat:=(chK (pgF im s.mark) s.mark).length
structure VsF (im:Bs) (s:Sup):Prop where
 fl:fstV im s≤lstV im s
 ln:lstV im s≤fstV im s+cntR im s
 fp:0<fstV im s→lstV im s+1=fstV im s+cntR im s
 fz:fstV im s=0→lstV im s=cntR im s
 lb:lstV im s≤2 ^ 30
 nb:cntR im s≤4096
 vj:∀ j,1≤j→j≤cntR im s→(rcAt (pgF im s.mark) (chAt (chK (pgF im s.mark) s.mark) j)).ver+cntR im s=lstV im s+j
theorem vsF (h:Cln im s):VsF im s:=by
 have hok:=pgOk (im:=im) h.ok;have hb:=hok.rc s.head;have hln:cntR im s≤s.mark:=chK_len _ _;have hm:=hok.hm;have e:cntR im s=(chF (pgF im s.mark) s.mark).length:=rfl
 rcases h.mkd with ⟨h0,hmk,hh⟩ | ⟨h0,hmk,hh⟩
 ·have hr:rcAt (pgF im s.mark) s.head=⟨0, 0, 0, 0, 0, 0, zV 32 0⟩:=by
   unfold rcAt;rw[hh,qJl (by omega)]
  have hf:fstV im s=0:=by unfold fstV;rw[hr]
  have hl:lstV im s=0:=by unfold lstV;rw[hr]
  exact⟨by omega,by omega,by omega,by omega,by omega,by omega,fun j h1 h2=>by omega⟩
 ·have vr:∀ j, 1≤j→j≤cntR im s→(rcAt (pgF im s.mark) (chAt (chF (pgF im s.mark) s.mark) j)).first=(rcAt (pgF im s.mark) (chAt (chF (pgF im s.mark) s.mark) 1)).first∧(rcAt (pgF im s.mark) (chAt (chF (pgF im s.mark) s.mark) j)).ver=(if 0<(rcAt (pgF im s.mark) (chAt (chF (pgF im s.mark) s.mark) 1)).first then (rcAt (pgF im s.mark) (chAt (chF (pgF im s.mark) s.mark) 1)).first+j - 1 else j):=fun j h1 h2=>by
   obtain⟨_,_,_,c⟩:=h.vs.trees hok (i:=j) h2;exact⟨(c (by omega)).1.1,(c (by omega)).1.2.1⟩
  have v0:=vr (cntR im s) (by omega) (xT _);rw[e,← hh]at v0;have hfe:fstV im s=(rcAt (pgF im s.mark) (chAt (chF (pgF im s.mark) s.mark) 1)).first:=v0.1;have hle:lstV im s=(if 0<(rcAt (pgF im s.mark) (chAt (chF (pgF im s.mark) s.mark) 1)).first then (rcAt (pgF im s.mark) (chAt (chF (pgF im s.mark) s.mark) 1)).first+cntR im s - 1 else cntR im s):=v0.2;rw[← hfe]at hle;have hlb:lstV im s≤2 ^ 30:=hb.2.2.2;split at hle
  ·refine⟨by omega,by omega,by omega,by omega,hlb,by omega,fun j h1 h2=>?_⟩
   have:=(vr j h1 h2).2;rw[← hfe,if_pos (by assumption)]at this;rw[show chK (pgF im s.mark) s.mark=chF (pgF im s.mark) s.mark from rfl,this];omega
  ·refine⟨by omega,by omega,by omega,by omega,hlb,by omega,fun j h1 h2=>?_⟩
   have:=(vr j h1 h2).2;rw[← hfe,if_neg (by assumption)]at this;rw[show chK (pgF im s.mark) s.mark=chF (pgF im s.mark) s.mark from rfl,this];omega
def numV' (im:Bs)(s:Sup)(v:Nat):Nat:=cntR im s+v - lstV im s
theorem num_of (h:Cln im s)(h1:fstV im s≤v)(h2:v≤lstV im s):numI im s v=.ok ((numV' im s v:Nat):Int):=by
 have g:=vsF h;have g1:=g.ln;unfold numI numP;rw[if_neg (show ¬ ((v:Int) = -1) by omega)];have e1:(rcAt (pgF im s.mark) s.head).ver=lstV im s:=rfl;have e2:(rcAt (pgF im s.mark) s.head).first=fstV im s:=rfl;have e3:(chK (pgF im s.mark) s.mark).length=cntR im s:=rfl;rw[e1,e2,e3,if_neg (by omega),if_neg (by omega)]
 congr 1
 unfold numV';omega
theorem pages_of (hl:lookP im=.ok (s,[]))(h1:fstV im s≤v)(h2:v≤lstV im s):pagesP im v=.ok (pgsOf im s (numV' im s v)):=by
 unfold pagesP askP;rw[hl];show (if ([]:List (Nat × Int))=[] then _ else _:Except Int (List Nat))=_;rw[if_pos rfl];show (match numI im s v with | .error e=>_ | .ok i=>_:Except Int (List Nat))=_;rw[num_of (qVc hl) h1 h2]
 rfl
theorem garb_of (hl:lookP im=.ok (s,[]))(h1:fstV im s≤v)(h2:v≤lstV im s):garbP im v=.ok (qXs im s (numV' im s v) s.mark):=by
 unfold garbP askP;rw[hl];show (if ([]:List (Nat × Int))=[] then _ else _:Except Int (List Nat))=_;rw[if_pos rfl];show (match numI im s v with | .error e=>_ | .ok i=>_:Except Int (List Nat))=_;rw[num_of (qVc hl) h1 h2]
 rfl
theorem mk_own (h:Cln im s):(chF (pgF im s.mark) s.mark).length=0∧s.mark≤2∨0<(chF (pgF im s.mark) s.mark).length∧s.mark≤chAt (chF (pgF im s.mark) s.mark) (chF (pgF im s.mark) s.mark).length+1:=by
 rcases h.mkd with ⟨a,b,_⟩ | ⟨a,b,_⟩
 ·exact .inl ⟨a,by omega⟩
 ·exact .inr ⟨a,by omega⟩
abbrev usP (im:Bs)(s:Sup)(i p:Nat):Prop:=Aud.uses s.width (pgF im s.mark) (chK (pgF im s.mark) s.mark) i p
theorem own_of (hl:lookP im=.ok (s,[]))(h2:2≤p)(hp:p<s.mark):∃ x,ownerP im p=.ok x∧x+cntR im s=lstV im s+ownIx (chK (pgF im s.mark) s.mark) p+1∧usP im s (ownIx (chK (pgF im s.mark) s.mark) p+1) p∧ownIx (chK (pgF im s.mark) s.mark) p+1≤cntR im s:=by
 have h:=qVc hl;have ho:=own_uses (pgOk (im:=im) h.ok) h.vs (mk_own h) h2 hp;have g:=(vsF h).vj (ownIx (chK (pgF im s.mark) s.mark) p+1) (by omega) ho.1;refine⟨_,?_,g,ho.2,ho.1⟩;unfold ownerP askP;rw[hl];show (if ([]:List (Nat × Int))=[] then _ else _:Except Int Nat)=_;rw[if_pos rfl];show (if (p:Int)<2∨(s.mark:Int)≤p then _ else _:Except Int Nat)=_;rw[if_neg (by omega)]
 rfl
theorem us_rng (h:Cln im s)(hi:i≤cntR im s)(hu:usP im s i p):2≤p∧p<s.mark:=by
 have hok:=pgOk (im:=im) h.ok;have h1:=uses_rng hok h.vs (i:=i) hi hu;have h2:=hok.ch (i:=i) hu.1 hi;exact⟨h1.1,by omega⟩
theorem us_own (h:Cln im s)(hi:i≤cntR im s)(hu:usP im s i p):ownIx (chK (pgF im s.mark) s.mark) p+1≤i:=uses_own (pgOk (im:=im) h.ok) h.vs hi hu
theorem us_old (h:Cln im s)(hi:i≤cntR im s)(hu:usP im s i p)(ho:ownIx (chK (pgF im s.mark) s.mark) p+1<i):usP im s (i - 1) p:=uses_old (pgOk (im:=im) h.ok) h.vs hi hu ho
theorem pgs_mem (h:Cln im s)(hi:i≤cntR im s):p ∈ pgsOf im s i ↔ usP im s i p:=by
 unfold pgsOf;rw[List.mem_filter,vC,decide_eq_true_eq];exact⟨fun hu=>hu.2,fun hu=>⟨(us_rng h hi hu).2,hu⟩⟩
theorem pgs_sorted (im:Bs)(s:Sup)(i:Nat):(pgsOf im s i).Pairwise (·<·):=List.Pairwise.filter _ vS
theorem pgs_ne (h:Cln im s)(h1:1≤i)(hi:i≤cntR im s):0<(pgsOf im s i).length :=
 List.length_pos_of_mem ((pgs_mem h hi).2 ⟨h1,.inl rfl⟩)
theorem pgs_le' (im:Bs)(s:Sup)(i:Nat):(pgsOf im s i).length≤s.mark:=by unfold pgsOf;exact y9 (vA _ _) (by simp)
theorem garb_pre (im:Bs)(s:Sup)(i k:Nat)(h2:2≤k):∀ d,∃ r,qXs im s i (k+d)=qXs im s i k++r
 | 0=>⟨[],by simp⟩
 | d+1=>by
  obtain⟨r,hr⟩:=garb_pre im s i k h2 d;rw[show k+(d+1)=(k+d)+1 from rfl,qVb im s i (k+d) (by omega),hr,zO];exact⟨_,rfl⟩
theorem garb_at (im:Bs)(s:Sup)(i k m:Nat)(h2:2≤k)(hk:k<m)(hl:¬ lateB im s i k=true):(qXs im s i m)[(qXs im s i k).length]?=some k:=by
 obtain⟨r,hr⟩:=garb_pre im s i (k+1) (by omega) (m - (k+1));rw[show k+1+(m - (k+1))=m by omega,qVb im s i k h2,if_neg hl,zO]at hr;rw[hr,List.getElem?_append_right (xT _),Nat.sub_self]
 rfl
theorem cnt_all {pg:Nat→Option Pg}(hlo:∀ p,p<2→pg p=none):∀ k,(∀ p,2≤p→p<k+2→pg p≠none)→cntP isLf pg (k+2)+cntP isBrn pg (k+2)+(chK pg (k+2)).length=k
 | 0,_=>by
  unfold cntP chK;rw[show zX (0+2)=[0,1] from rfl];simp[hlo,isLf,isBrn,isRc]
 | k+1,h=>by
  have ih:=cnt_all hlo k fun p h2 hp=>h p h2 (by omega);have hk:=h (k+2) (by omega) (by omega);rw[show k+1+2=(k+2)+1 from rfl];unfold cntP chK at ih ⊢;rw[List.range_succ,vI,vI,zH,lAp,vE,vE]
  have e3:∀ x:Option Pg,pg (k+2)=x→((List.filter (fun p=>isRc (pg p)) [k+2]).length=if isRc x then 1 else 0):=fun x hx=>by
   rw[vT,List.filter_nil,hx]
   split <;> rfl
  have e4:=e3 _ rfl;rw[e4];generalize pg (k+2)=x at hk;generalize List.countP (fun p=>isLf (pg p)) (zX (k+2))=a at *;generalize List.countP (fun p=>isBrn (pg p)) (zX (k+2))=b at *;generalize (List.filter (fun p=>isRc (pg p)) (zX (k+2))).length=c at *
  cases x with
  | none=>exact absurd rfl hk
  | some g=>cases g with
   | rc r=>show a+0+(b+0)+(c+1)=k+1;omega
   | nd n=>cases n with
    | leaf _ _=>show a+1+(b+0)+(c+0)=k+1;omega
    | br _ _ _ _ _ _=>show a+0+(b+1)+(c+0)=k+1;omega
theorem cnt_clean (h:Cln im s):cntP isLf (pgF im s.mark) s.mark+cntP isBrn (pgF im s.mark) s.mark+cntR im s=s.mark - 2:=by
 have h2:2≤s.mark:=h.ok.2.2.2.1.1;have:=cnt_all (pg:=pgF im s.mark) (fun p hp=>qJl (by omega)) (s.mark - 2) (fun p hp hk=>h.one p hp (by omega));rw[show s.mark - 2+2=s.mark by omega]at this;exact this
end
def withinP (n lo hi:Int):Int:=if n.tmod (hi - lo+1)<0 then lo+(n.tmod (hi - lo+1)+hi - lo+1) else lo+n.tmod (hi - lo+1)
theorem within_rng {n lo hi:Int}(h:lo≤hi):lo≤withinP n lo hi∧withinP n lo hi≤hi:=by
 have hp:0<hi - lo+1:=by omega
 have h1:=Int.tmod_lt_of_pos n hp;have h2 : -(hi - lo+1)<n.tmod (hi - lo+1):=Int.lt_tmod_of_pos n hp;unfold withinP
 split <;> omega
end A
end
section
namespace A
open Aud
def BlM (w:World)(b n:Nat)(f:Nat→Bool):Prop:=∃ c:Array Value,w.heap[b]?=some (.cells c 4 (0,0))∧c.size=n∧∀ p,p<n→c[p]?=some (.bool (f p))
theorem mkBl (w:World)(hn:n≤2 ^ 40):∃ w',(Instr.makeSlice 114 (.int .i64 (n:Nat)) (.int .i64 (n:Nat))).run prog w=.ok (.slice (some ⟨w.heap.size,0,Option.none⟩) n n) w'∧No w w'∧w'.heap.size=w.heap.size+1∧BlM w' w.heap.size n fun _=>false:=by
 have:=run_mk (P:=prog) (t:=114) (by':=1) slc114 sz4 by4 zero4 (l:=n) (c:=n) (xT _) (by omega) (by omega) .i64 .i64 w;simp only[Value.cells,madeCells_one,jU]at this;refine⟨_,this,(Fr.refl _ w).alloc _,qQc _ _,_,qQb _ _,by simp,fun p hp=>?_⟩;rw[Array.getElem?_replicate,if_pos hp]
section
variable {w w':World} {b n:Nat} {f:Nat→Bool}
theorem BlM.fr {F:Nat→Prop}(h:BlM w b n f)(g:Fr F w w')(hf:¬ F b):BlM w' b n f:=by
 obtain⟨c,h1,h2⟩:=h;exact⟨c,g.at h1 hf,h2⟩
theorem BlM.rd (h:BlM w b n f)(hp:p<n):rdO prog 4 w b p=some (.bool (f p)):=by
 obtain⟨c,h1,_,h2⟩:=h;exact rd1 agg4 h1 (h2 p hp)
theorem BlM.st (h:BlM w b n f)(hp:p<n)(x:Bool):∃ w',wrO prog 4 w b p (.bool x)=some w'∧w'.heap.size=w.heap.size∧BlM w' b n (fun q=>if q=p then x else f q)∧Fr (fun c=>c=b) w w':=by
 obtain⟨c,h1,h2,h3⟩:=h;refine⟨_,wr1 sz4 rfl h1 (by omega),put_heap_size _ _ _,⟨_,qQd h1,by simpa using h2,fun q hq=>?_⟩,(Fr.refl _ _).put (b:=b) _ fun _=>rfl⟩;rw[Array.getElem?_setIfInBounds]
 by_cases e:p=q
 ·rw[if_pos e,if_pos (by omega)]
  show _=some (Value.bool (if q=p then x else f q));rw[if_pos e.symm]
 ·rw[if_neg e]
  show _=some (Value.bool (if q=p then x else f q));rw[if_neg (fun h:q=p=>e h.symm)];exact h3 q hq
end
theorem within (w:World){n lo hi:Int}(h0:0≤lo)(h1:lo≤hi)(h2:hi≤2 ^ 40) :
  Fn prog 13 #[.int .i64 n,.int .i64 lo,.int .i64 hi] w fun v w'=>v=.int .i64 (withinP n lo hi)∧No w w':=by
 refine go13 (by simp) ?_;have hp:0<hi - lo+1:=by omega
 have t1:=Int.tmod_lt_of_pos n hp;have t2 : -(hi - lo+1)<n.tmod (hi - lo+1):=Int.lt_tmod_of_pos n hp;have e1:IntKind.i64.wrap (hi - lo)=hi - lo:=qQm (by omega) (by omega);have e2:IntKind.i64.wrap (hi - lo+1)=hi - lo+1:=qQm (by omega) (by omega);have e0:((hi - lo+1 == 0)=false):=beq_eq_false_iff_ne.2 (by omega);have ew:withinP n lo hi=if n.tmod (hi - lo+1)<0 then lo+(n.tmod (hi - lo+1)+hi - lo+1) else lo+n.tmod (hi - lo+1):=rfl;generalize hr:n.tmod (hi - lo+1)=r at *;have e3:IntKind.i64.wrap r=r:=qQm (by omega) (by omega);have ez:¬ hi - lo+1=0:=by omega
 by_cases hn:r<0
 ·have d:decide (r<0)=true:=decide_eq_true hn
  have e4:IntKind.i64.wrap (r+hi)=r+hi:=qQm (by omega) (by omega);have e5:IntKind.i64.wrap (r+hi - lo)=r+hi - lo:=qQm (by omega) (by omega);have e6:IntKind.i64.wrap (r+hi - lo+1)=r+hi - lo+1:=qQm (by omega) (by omega);have e7:IntKind.i64.wrap (lo+(r+hi - lo+1))=lo+(r+hi - lo+1):=qQm (by omega) (by omega);simp -implicitDefEqProofs only[go_sem,jY,y7,zB,Tryz.f13,e1,e2,ez,hr,d,e4,e5,e6,e7];rw[ew,if_pos hn];exact⟨rfl,Fr.refl _ _⟩
 ·have d:decide (r<0)=false:=decide_eq_false hn
  have e7:IntKind.i64.wrap (lo+r)=lo+r:=qQm (by omega) (by omega);simp -implicitDefEqProofs only[go_sem,jY,y7,zB,Tryz.f13,e1,e2,ez,hr,d,e7];rw[ew,if_neg hn];exact⟨rfl,Fr.refl _ _⟩
end A
end
end Go.V
