/- Helpers. -/
import Derived.Test.YtppmpdjlmgfdkaaGreatDoorG36
import Derived.Test.YtppmpdjlmgfdkaaGreatDoorG33
set_option linter.all false
set_option maxRecDepth 100000
set_option maxHeartbeats 8000000
open Bool renaming not_false→xG,not_true→yG
open Nat renaming reduceEqDiff→jY,zero_add→zB,mul_one→jU
namespace Go.V
open Go.Proofs.Tryz Go.V.Tryz
open Go.Proofs Sha
section
namespace A
open Aud
abbrev blV (b n:Nat):Value:=.slice (some ⟨b,0,Option.none⟩) n n
def UsF (im:Bs)(s:Sup)(i:Nat)(f:Nat→Bool)(q:Nat→Prop):Prop:=∀ p,f p=true ↔ (∃ j,1≤j∧j<i∧usP im s j p)∨q p
def LtF (im:Bs)(s:Sup)(i0 i:Nat)(f:Nat→Bool)(q:Nat→Prop):Prop:=∀ p,f p=true ↔ (∃ j,i0≤j∧j<i∧usP im s j p)∨q p
def owI (w6:World)(im:Bs)(s:Sup)(iv:Value)(rb ub fr:Nat)(n:Nat)(vs:List Value)(w:World):Prop :=
 ∃ (v:Nat) (uf lf:Nat→Bool),vs=[iv,.int .i64 (fr:Nat),pt rb 0,blV ub (s.mark+1),blV (ub+1) (s.mark+1),.int .i64 (v:Nat)]∧fstV im s≤v∧v≤lstV im s+1∧n=lstV im s+1 - v∧BlM w ub (s.mark+1) uf∧BlM w (ub+1) (s.mark+1) lf∧Fr (fun b=>b=ub∨b=ub+1) w6 w∧UsF im s (numV' im s v) uf (fun _=>False)∧LtF im s (numV' im s fr) (numV' im s v) lf (fun _=>False)
def oxI (u w6:World)(im:Bs)(s:Sup)(iv lv:Value)(rb ub fr v:Nat)(l:List Nat)(n:Nat)(vs:List Value)(w:World):Prop :=
 ∃ (k:Nat) (uf lf:Nat→Bool),vs=[iv,.int .i64 (fr:Nat),pt rb 0,blV ub (s.mark+1),blV (ub+1) (s.mark+1),.int .i64 (v:Nat),lv,.int .i64 (k:Nat)]∧k≤l.length∧n=l.length - k∧BlM w ub (s.mark+1) uf∧BlM w (ub+1) (s.mark+1) lf∧Fr (fun b=>b=ub∨b=ub+1) w6 w∧NwR u w 3 1 lv (inR l)∧UsF im s (numV' im s v) uf (fun p=>p ∈ l.take k)∧LtF im s (numV' im s fr) (numV' im s v) lf (fun p=>fr≤v∧p ∈ l.take k)
def ogI (u w6:World)(im:Bs)(s:Sup)(gv:Value)(rb ub i0:Nat)(n:Nat)(vs:List Value)(w:World):Prop :=
 ∃ k:Nat,vs=[pt rb 0,blV ub (s.mark+1),blV (ub+1) (s.mark+1),gv,.int .i64 ((qXs im s i0 k).length:Nat),.int .i64 (k:Nat)]∧2≤k∧k≤s.mark∧n=s.mark - k∧w=w6
theorem owners (w:World)(ht:Tabs w){iv:Value}{im:Bs}(hi:By w iv im)(hl:im.length≤2 ^ 47)(from':Int)(must:Bool)(hmust:must=true→∃ s, lookP im=.ok (s, [])) :
  Fn prog 22 #[iv,.int .i64 from',.bool must] w fun v w'=>v=.bool true∧No w w':=by
 refine go22 (by simp) ?_;simp -implicitDefEqProofs only[go_sem,jY,Nat.reduceAdd,zB,Tryz.f22];refine qQa pl8 ((check w ht hi hl).mono ?_);rintro v w1 hq;unfold CkQ at hq;obtain⟨f1,hq⟩:=hq;obtain⟨W2,hW2,f2,k2,s2⟩:=qQl w1 rp0 25;have zz:Array.replicate 9 (Value.int .i64 0)++#[Value.slice none 0 0]=rp0:=by kernel_rfl
 cases hlook:lookP im with
 | error e =>
  rw[hlook]at hq;subst hq;have hm:must=false:=by cases must;rfl;obtain⟨s,hs⟩:=hmust rfl;rw[hlook]at hs;cases hs
  subst hm;have ne:=qKp hlook;have q2:wrO prog 25 W2 w1.heap.size 0 (.agg rp0)=some (put W2 w1.heap.size (.cells rp0 25 (0,0))):=qQr sz25 k2 rfl (by rw[← Array.all_toList];rfl);have f3:No w (put W2 w1.heap.size (.cells rp0 25 (0,0))):=(f1.trans f2).put (b:=w1.heap.size) _ fun h=>by have:=f1.size;omega
  simp -implicitDefEqProofs only[go_sem,jY,gLa,gLz,gLs,Value.cells,qXq,xG,zz,hW2,q2,ne];exact f3
 | ok y =>
  obtain⟨s,fs⟩:=y;rw[hlook]at hq;obtain⟨fv,rfl,hfv⟩:=hq;rw[rep_first,rep_ver,show (rcAt (pgF im s.mark) s.head).first=fstV im s from rfl,show (rcAt (pgF im s.mark) s.head).ver=lstV im s from rfl,show (chK (pgF im s.mark) s.mark).length=cntR im s from rfl];obtain⟨fa,fcap,hfe,hfcap⟩:=hfv.rd.slice;rw[fnR_len]at hfe hfcap;generalize hrp:rpC s.width s.pages s.mark s.head (fstV im s) (lstV im s) (cntP isLf (pgF im s.mark) s.mark) (cntP isBrn (pgF im s.mark) s.mark) (cntR im s) fv=rp;have q2:wrO prog 25 W2 w1.heap.size 0 (.agg rp)=some (put W2 w1.heap.size (.cells rp 25 (0,0))):=qQr (by rw[show rp.size=10 by rw[← hrp];rfl];exact sz25) k2 (by rw[← hrp];rfl) (by rw[← hrp,hfe,← Array.all_toList];rfl);have f3:No w (put W2 w1.heap.size (.cells rp 25 (0,0))):=(f1.trans f2).put (b:=w1.heap.size) _ fun h=>by have:=f1.size;omega
  have k3:=qQd (o:=.cells rp 25 (0,0)) k2;have s3:(put W2 w1.heap.size (.cells rp 25 (0,0))).heap.size=w1.heap.size+1:=by rw[put_heap_size,s2]
  have s01:=f1.size;have ze:((0:Int) != 0)=false:=rfl;simp -implicitDefEqProofs only[go_sem,jY,gLa,gLz,gLs,Value.cells,bSe,bNe,zB,zz,hW2,q2];generalize put W2 w1.heap.size (.cells rp 25 (0,0))=w3 at *;generalize w1.heap.size=rb at *;clear q2 hW2 k2 f2 s2 zz;have r9:rdO prog 23 w3 rb 9=some (.slice fa fs.length fcap):=by rw[← hfe];exact rd1 agg23 k3 (by rw[← hrp];rfl)
  have r4:∀ {w'},No w3 w'→rdO prog 3 w' rb 4=some (.int .i64 (fstV im s:Nat)):=fun f=>rd1 agg3 (f.at k3 id) (by rw[← hrp];rfl);have r5:∀ {w'},No w3 w'→rdO prog 3 w' rb 5=some (.int .i64 (lstV im s:Nat)):=fun f=>rd1 agg3 (f.at k3 id) (by rw[← hrp];rfl);have d9:decide ((fs.length:Int) > 0)=decide (0<fs.length):=natlt 0 fs.length
  by_cases h0:fs=[]
  case neg =>
   have hm:must=false:=by cases must;rfl;obtain⟨s',hs⟩:=hmust rfl;rw[hlook]at hs;cases hs;exact absurd rfl h0
   subst hm;have hp:0<fs.length:=List.length_pos_iff.2 h0;rw[decide_eq_true hp]at d9;simp -implicitDefEqProofs only[go_sem,jY,gLa,gLz,gLs,bSe,xG,r9,d9];exact f3
  subst h0;have hcl:=qVc hlook;have hV:=vsF hcl;have d9:decide (((([]:List (Nat × Int)).length:Nat):Int) > 0)=false:=d9;have n0:No w3 w3:=Fr.refl _ _;simp -implicitDefEqProofs only[go_sem,jY,gLa,gLz,gLs,bSe,zB,r9,d9,r4 n0,r5 n0];have hfl:=hV.fl;have hlb:=hV.lb;have hm2:2≤s.mark:=hcl.ok.2.2.2.1.1;have hm4:s.mark≤4096:=(pgOk (im:=im) hcl.ok).hm;have wr:=within_rng (n:=from') (lo:=(fstV im s:Nat)) (hi:=(lstV im s:Nat)) (by omega);refine qQa pl13 ((within w3 (n:=from') (lo:=(fstV im s:Nat)) (hi:=(lstV im s:Nat)) (by omega) (by omega) (by omega)).mono ?_);rintro _ w4 ⟨rfl,f4⟩
  obtain⟨fr,hfr⟩:∃ q:Nat,withinP from' (fstV im s:Nat) (lstV im s:Nat)=(q:Int):=⟨(withinP from' (fstV im s:Nat) (lstV im s:Nat)).toNat,by omega⟩
  rw[hfr]at wr ⊢;have fr1:fstV im s≤fr:=by omega
  have fr2:fr≤lstV im s:=by omega
  clear wr hfr;have r2:∀ {w'},No w3 w'→rdO prog 3 w' rb 2=some (.int .i64 (s.mark:Nat)):=fun f=>rd1 agg3 (f.at k3 id) (by rw[← hrp];rfl);have e1:IntKind.i64.wrap ((s.mark:Int)+1)=((s.mark+1:Nat):Int):=qXi (b:=1);obtain⟨w5,m5,f5,s5,b5⟩:=mkBl w4 (n:=s.mark+1) (by omega);obtain⟨w6,m6,f6,s6,b6⟩:=mkBl w5 (n:=s.mark+1) (by omega);have b5:=b5.fr f6 id;have f35:=f4.trans f5;have f36:=f35.trans f6;have s04:=f4.size;simp -implicitDefEqProofs only[go_sem,jY,zB,r2 f4,e1];refine qQj ⟨_,_,m5,?_⟩;simp -implicitDefEqProofs only[go_sem,jY,zB,r2 f35,e1];refine qQj ⟨_,_,m6,?_⟩;simp -implicitDefEqProofs only[go_sem,jY,zB,r4 f36];rw[s5]at b6 ⊢;generalize hub:w4.heap.size=ub at *;have hwub:w.heap.size≤ub:=by have:=f3.size;omega
  have hrbu:rb<ub:=by omega
  have ln:=hV.ln;have nb:=hV.nb
  have hst:numV' im s (fstV im s)≤1:=by
   unfold numV';have:=hV.fp;have:=hV.fz;omega
  have hno6:No w w6:=f3.trans f36;refine loopD [0,1,7,9,10,11] (owI w6 im s iv rb ub fr) (lstV im s+1 - fstV im s) ⟨fstV im s,fun _=>false,fun _=>false,by simp -implicitDefEqProofs only[go_sem,jY],Nat.le_refl _,by omega,rfl,b5,b6,Fr.refl _ _,fun p=>⟨(fun h=>by cases h),fun h=>h.elim (fun ⟨j,a,b,_⟩=>by omega) False.elim⟩,fun p=>⟨(fun h=>by cases h),fun h=>h.elim (fun ⟨j,a,b,c⟩=>by unfold numV' at *;omega) False.elim⟩⟩ ?_;rintro _ vs w7 g ⟨v,uf,lf,rfl,hv1,hv2,rfl,bu,bl,f7,hU,hL⟩;have hno7:No w w7:=hno6.trans' f7 fun b hb e=>by omega
  have k7:w7.heap[rb]?=some (.cells rp 25 (0,0)):=f7.at (f36.at k3 id) (by omega);have x5:rdO prog 3 w7 rb 5=some (.int .i64 (lstV im s:Nat)):=rd1 agg3 k7 (by rw[← hrp];rfl);have dv:decide ((v:Int)≤((lstV im s:Nat):Int))=decide (v≤lstV im s):=by simp
  by_cases hvl:v≤lstV im s
  ·rw[decide_eq_true hvl]at dv
   simp -implicitDefEqProofs only[go_sem,jY,zB,x5,dv];have hP:=pages_of hlook hv1 hvl;refine qQa pl18 ((pages w7 (ht.no hno7) (hi.fr0 hno7) hl (v:Nat)).mono ?_);rintro _ w8 ⟨f8,hq8⟩;rw[hP]at hq8;obtain⟨lv,rfl,hlv⟩:=hq8;have hin:numV' im s v≤cntR im s:=by unfold numV';omega
   have hne:0<v→0<(pgsOf im s (numV' im s v)).length:=fun h=>pgs_ne hcl (by
    unfold numV';have:=hV.fp;have:=hV.fz
    omega) hin
   have hmem:=fun p=>pgs_mem (p:=p) hcl hin;have hsort:=pgs_sorted im s (numV' im s v);have hlen:=pgs_le' im s (numV' im s v);generalize hl':pgsOf im s (numV' im s v)=l at *;obtain⟨la,lcap,hle,hlc⟩:=hlv.rd.slice;rw[qQv]at hle hlc;subst hle;have d0:decide ((v:Int) > 0)=decide (0<v):=natlt 0 v;have dl:((l.length:Int) == 0)=decide (l.length=0):=nateq l.length 0;have f78:=f7.trans' f8 fun b hb e=>False.elim e;have hno8:No w w8:=hno7.trans f8
   have hh:(decide ((v:Int) > 0)=true∧((l.length:Int) == 0)=false)∨decide ((v:Int) > 0)=false:=by
    by_cases hv0:0<v
    ·have hnl:=hne hv0
     exact .inl ⟨by rw[d0,decide_eq_true hv0],by rw[dl,decide_eq_false (show ¬ l.length=0 by omega)]⟩
    ·exact .inr (by rw[d0,decide_eq_false hv0])
   clear d0 dl
   have I0:oxI w7 w6 im s iv (.slice la l.length lcap) rb ub fr v l (l.length - 0) [iv,.int .i64 (fr:Nat),pt rb 0,blV ub (s.mark+1),blV (ub+1) (s.mark+1),.int .i64 (v:Nat),.slice la l.length lcap,.int .i64 0] w8 :=
    ⟨0,uf,lf,rfl,Nat.zero_le _,rfl,bu.fr f8 id,bl.fr f8 id,f78,hlv,fun p=>(hU p).trans (by simp),fun p=>(hL p).trans (by simp)⟩
   rcases hh with ⟨d0,dl⟩ | d0
   all_goals
    first | simp -implicitDefEqProofs only[go_sem,jY,gLa,gLz,gLs,bSe,bNe,d0,dl] | simp -implicitDefEqProofs only[go_sem,jY,gLa,gLz,gLs,bSe,bNe,qQt,d0]
    refine loopD [0,1,7,9,10,11,12,14] (oxI w7 w6 im s iv (.slice la l.length lcap) rb ub fr v l) (l.length - 0) (by simp -implicitDefEqProofs only[go_sem,jY];exact I0) ?_;rintro _ vs w9 g9 ⟨k,uf9,lf9,rfl,hk,rfl,bu9,bl9,f9,hlv9,hU9,hL9⟩;have dk:=natlt k l.length
    by_cases hkl:k<l.length
    ·rw[decide_eq_true hkl]at dk
     obtain⟨cb,co,ccap,hce,hcc⟩:=hlv9.rd.pos (by decide) (by rw[qQv];omega);rw[qQv]at hce hcc;cases hce
     have rk:∀ j (hj:j<l.length),rdO prog 3 w9 cb (co+j)=some (.int .i64 (l[j]:Nat)):=fun j hj=>by
      have:=hlv9.rd.fld (P:=prog) (t:=3) agg3 (i:=j) (by rw[qQv];exact hj) (j:=0) (by decide) (x:=.int .i64 (l[j]:Nat)) (by simp only[inR,List.getElem_map,List.getElem?_cons_zero]);rw[jU,Nat.add_zero]at this;exact this
     have y1:(0:Int)≤((k:Nat):Int)∧((k:Nat):Int)<(l.length:Int):=by omega
     have hus:=(hmem l[k]).1 (List.getElem_mem hkl);obtain⟨p2,pm⟩:=us_rng hcl hin hus;have k9:w9.heap[rb]?=some (.cells rp 25 (0,0)):=f9.at (f36.at k3 id) (by omega);have x2:rdO prog 3 w9 rb 2=some (.int .i64 (s.mark:Nat)):=rd1 agg3 k9 (by rw[← hrp];rfl);have rk0:=rk k hkl;have dp2:=dFo (((l[k]:Nat):Int)<2);have dpm:=dFo (((l[k]:Nat):Int) ≥ (s.mark:Int));have dk0:decide ((k:Int) > 0)=decide (0<k):=natlt 0 k;have dpv:=dTo (((l[k]:Nat):Int) ≥ 0)
     have hprev:(decide ((k:Int) > 0)=true∧∃ x,IntKind.i64.wrap ((k:Int) - 1)=((k - 1:Nat):Int)∧((0:Int)≤((k - 1:Nat):Int)∧((k - 1:Nat):Int)<(l.length:Int))∧rdO prog 3 w9 cb (co+(k - 1))=some (.int .i64 (x:Nat))∧decide (((x:Nat):Int) ≥ ((l[k]:Nat):Int))=false)∨decide ((k:Int) > 0)=false:=by
      by_cases h:0<k
      ·refine .inl ⟨by rw[dk0,decide_eq_true h],l[k - 1]'(by omega),qZj (b:=1) (by omega) (by omega),by omega,rk _ (by omega),decide_eq_false ?_⟩
       have:=List.pairwise_iff_getElem.1 hsort (k - 1) k (by omega) hkl (by omega);omega
      ·exact .inr (by rw[dk0,decide_eq_false h])
     clear dk0
     have htk:∀ q,q ∈ l.take (k+1) ↔ q ∈ l.take k∨q=l[k]:=fun q=>by
      rw[List.take_succ,List.mem_append,List.getElem?_eq_getElem hkl];simp
     obtain⟨x,hx,hxn,hxu,hxo⟩:=own_of hlook p2 pm;have hown:=us_own hcl hin hus;have hnv:numV' im s v+lstV im s=cntR im s+v:=by unfold numV';omega
     have dxv:=dFo (((x:Nat):Int) > ((v:Nat):Int))
     have hxe:uf9 l[k]=false→x=v:=fun hf=>by
      refine Classical.byContradiction fun hc=>?_;have ho:=us_old hcl hin hus (by omega);have:=(hU9 l[k]).2 (.inl ⟨_,ho.1,by omega,ho⟩);rw[hf]at this;cases this
     have ck:=iSu (i:=k);generalize hpk:l[k]=p at *;have y2:(0:Int)≤((p:Nat):Int)∧((p:Nat):Int)<((s.mark+1:Nat):Int):=by omega
     have hno9:No w w9:=hno6.trans' f9 fun b hb e=>by omega
     have hOw:=(owner w9 (ht.no hno9) (hi.fr0 hno9) hl (p:Nat))
     rw[hx]at hOw
     have fin:∀ {w10 w12:World} {y:Bool}, No w9 w10→Fr (fun b=>b=ub∨b=ub+1) w10 w12→BlM w12 ub (s.mark+1) (fun q=>if q=p then true else uf9 q)→BlM w12 (ub+1) (s.mark+1) (fun q=>if q=p then y else lf9 q)→(y=true ↔ lf9 p=true∨fr≤v) →
       ∃ m',m'<l.length - k∧oxI w7 w6 im s iv (.slice (some ⟨cb,co,none⟩) l.length lcap) rb ub fr v l m' [iv,.int .i64 (fr:Nat),pt rb 0,blV ub (s.mark+1),blV (ub+1) (s.mark+1),.int .i64 (v:Nat),.slice (some ⟨cb,co,none⟩) l.length lcap,.int .i64 ((k+1:Nat):Int)] w12:=fun {w10 w12 y} g1 g2 b1 b2 hy=>by
      refine⟨l.length - (k+1),by omega,k+1,_,_,rfl,by omega,rfl,b1,b2,(f9.trans' g1 fun b _ e=>False.elim e).trans g2,(hlv9.fr0 g1).fr g2 fun b hb e=>?_,fun q=>?_,fun q=>?_⟩
      ·have:=hlv9.2.new b hb
       have:=f7.size;omega
      ·show (if q=p then true else uf9 q)=true ↔ _∨q ∈ l.take (k+1)
       rw[htk]
       by_cases e:q=p
       ·subst e
        simp
       ·simp only[e,if_false,or_false]
        exact hU9 q
      ·show (if q=p then y else lf9 q)=true ↔ _∨fr≤v∧q ∈ l.take (k+1)
       rw[htk]
       by_cases e:q=p
       ·subst e
        simp only[if_true,or_true,and_true];rw[hy,hL9];constructor
        ·rintro (h | h)
         ·rcases h with h | h
          ·exact .inl h
          ·exact .inr h.1
         ·exact .inr h
        ·rintro (h | h)
         ·exact .inl (.inl h)
         ·exact .inr h
       ·simp only[e,if_false,or_false]
        exact hL9 q
     have hno:=hno9
     have okI:∀ {w10:World},No w9 w10→∃ w11,wrO prog 4 w10 ub p (.bool true)=some w11∧rdO prog 4 w10 ub p=some (.bool (uf9 p))∧rdO prog 4 w11 (ub+1) p=some (.bool (lf9 p))∧∀ y:Bool,(y=true ↔ lf9 p=true∨fr≤v)→∃ w12,wrO prog 4 w11 (ub+1) p (.bool y)=some w12∧∃ m',m'<l.length - k∧oxI w7 w6 im s iv (.slice (some ⟨cb,co,none⟩) l.length lcap) rb ub fr v l m' [iv,.int .i64 (fr:Nat),pt rb 0,blV ub (s.mark+1),blV (ub+1) (s.mark+1),.int .i64 (v:Nat),.slice (some ⟨cb,co,none⟩) l.length lcap,.int .i64 ((k+1:Nat):Int)] w12:=fun {w10} g1=>by
      have u1:=bu9.fr g1 id;have l1:=bl9.fr g1 id;obtain⟨w11,q11,s11,bu11,g11⟩:=u1.st (p:=p) (by omega) true;have l2:=l1.fr g11 (by omega);refine⟨w11,q11,u1.rd (by omega),l2.rd (by omega),fun y hy=>?_⟩;obtain⟨w12,q12,s12,bl12,g12⟩:=l2.st (p:=p) (by omega) y;refine⟨w12,q12,fin g1 ((g11.mono fun b _ e=>.inl e).trans (g12.mono fun b _ e=>.inr e)) (bu11.fr g12 (by omega)) bl12 hy⟩
     rcases hprev with ⟨dk0,x1,e1,y1',rk1,dx1⟩ | dk0
     all_goals
      first | simp -implicitDefEqProofs only[go_sem,jY,gLa,gLz,gLs,bSe,zB,y1.1,y1.2,and_self,if_true,iTn,jU,rk0,dp2,x2,dpm,dk0,e1,y1'.1,y1'.2,rk1,dx1] | simp -implicitDefEqProofs only[go_sem,jY,gLa,gLz,gLs,bSe,qQt,zB,y1.1,y1.2,and_self,if_true,iTn,jU,rk0,dp2,x2,dpm,dk0]
      refine qQa pl19 (hOw.mono ?_);rintro _ w10 ⟨f10,rfl⟩;obtain⟨w11,q11,ru,rl,hlate⟩:=okI f10;clear hlv9 bu9 bl9 f9 rk rk0 x2
      have hu2:uf9 p=true∨uf9 p=false∧(((x:Nat):Int) != ((v:Nat):Int))=false:=by
       cases h:uf9 p with
       | true=>exact .inl rfl
       | false=>exact .inr ⟨rfl,by rw[hxe h];simp⟩
      rcases hu2 with hu | ⟨hu,dx2⟩
      all_goals
       rw[hu]at ru
       cases hl2:lf9 p with
       | true =>
        obtain⟨w12,q12,hfin⟩:=hlate true (by rw[hl2];simp);rw[hl2]at rl
        first | simp -implicitDefEqProofs only[go_sem,jY,gLa,gLz,gLs,bSe,bNe,qXq,xG,zB,dxv,y2.1,y2.2,and_self,if_true,iTn,jU,zB,ru,dx2,q11,rl,q12,ck] | simp -implicitDefEqProofs only[go_sem,jY,gLa,gLz,gLs,bSe,bNe,qQt,qXq,yG,zB,dxv,y2.1,y2.2,and_self,if_true,iTn,jU,zB,ru,q11,rl,q12,ck]
        exact hfin
       | false =>
        obtain⟨w12,q12,hfin⟩:=hlate (decide ((v:Int) ≥ (fr:Int))) (by rw[hl2];simp);rw[hl2]at rl
        first | simp -implicitDefEqProofs only[go_sem,jY,gLa,gLz,gLs,bSe,bNe,xG,zB,dxv,y2.1,y2.2,and_self,if_true,iTn,jU,zB,ru,dx2,q11,rl,q12,ck] | simp -implicitDefEqProofs only[go_sem,jY,gLa,gLz,gLs,bSe,bNe,qQt,yG,zB,dxv,y2.1,y2.2,and_self,if_true,iTn,jU,zB,ru,q11,rl,q12,ck]
        exact hfin
    ·have hke:k=l.length:=by omega
     subst hke;rw[decide_eq_false hkl]at dk;have cv:=iSu (i:=v);rw[List.take_length]at hU9 hL9;simp -implicitDefEqProofs only[go_sem,jY,gLa,gLz,dk,cv];have hn1:numV' im s (v+1)=numV' im s v+1:=by unfold numV';omega
     refine⟨lstV im s+1 - (v+1),by omega,v+1,uf9,lf9,rfl,by omega,by omega,rfl,bu9,bl9,f9,fun q=>?_,fun q=>?_⟩
     ·rw[hU9 q]
      show _∨q ∈ l ↔ _∨False;rw[hmem,hn1,or_false];constructor
      ·rintro (⟨j,a,b,c⟩ | h)
       ·exact⟨j,a,by omega,c⟩
       ·exact⟨_,h.1,by omega,h⟩
      ·rintro⟨j,a,b,c⟩
       by_cases e:j=numV' im s v
       ·exact .inr (e ▸ c)
       ·exact .inl ⟨j,a,by omega,c⟩
     ·rw[hL9 q]
      show _∨fr≤v∧q ∈ l ↔ _∨False;rw[hmem,hn1,or_false];have hnf:numV' im s fr≤numV' im s v ↔ fr≤v:=by unfold numV';omega
      constructor
      ·rintro (⟨j,a,b,c⟩ | ⟨h0,h⟩)
       ·exact⟨j,a,by omega,c⟩
       ·exact⟨_,hnf.2 h0,by omega,h⟩
      ·rintro⟨j,a,b,c⟩
       by_cases e:j=numV' im s v
       ·exact .inr ⟨hnf.1 (by omega),e ▸ c⟩
       ·exact .inl ⟨j,a,by omega,c⟩
  ·rw[decide_eq_false hvl]at dv
   have hve:v=lstV im s+1:=by omega
   simp -implicitDefEqProofs only[go_sem,jY,zB,x5,dv];have hG:=garb_of hlook fr1 fr2;refine qQa pl20 ((garbage w7 (ht.no hno7) (hi.fr0 hno7) hl (fr:Nat)).mono ?_);rintro _ w8 ⟨f8,hq8⟩;rw[hG]at hq8;obtain⟨gv,rfl,hgv⟩:=hq8;obtain⟨ga,gcap,hge,hgc⟩:=hgv.rd.slice;rw[qQv]at hge hgc;subst hge;have hno8:No w w8:=hno7.trans f8;have bu8:=bu.fr f8 id;have bl8:=bl.fr f8 id;have k8:w8.heap[rb]?=some (.cells rp 25 (0,0)):=f8.at k7 id;have x2:rdO prog 3 w8 rb 2=some (.int .i64 (s.mark:Nat)):=rd1 agg3 k8 (by rw[← hrp];rfl);have hn1:numV' im s v=cntR im s+1:=by unfold numV';omega
   have hused:∀ p,2≤p→p<s.mark→uf p=true:=fun p h1 h2=>by
    obtain⟨_,_,_,c,d⟩:=own_of hlook h1 h2;exact (hU p).2 (.inl ⟨_,by omega,by omega,c⟩)
   have hlt:∀ p,lf p=true ↔ lateB im s (numV' im s fr) p=true:=fun p=>by
    rw[lateB_iff,hL p,hn1];exact⟨fun h=>h.elim (fun ⟨j,a,b,c⟩=>⟨j,a,Nat.le_of_lt_succ b,c⟩) False.elim,fun ⟨j,a,b,c⟩=>.inl ⟨j,a,Nat.lt_succ_of_le b,c⟩⟩
   have gl:=garbOf_len im s (numV' im s fr) s.mark;generalize hi0:numV' im s fr=i0 at *;simp -implicitDefEqProofs only[go_sem,jY,gLa,gLz,gLs,bNe];refine loopD [7,9,10,18,19,20] (ogI w7 w8 im s (.slice ga (qXs im s i0 s.mark).length gcap) rb ub i0) (s.mark - 2) ⟨2,by simp -implicitDefEqProofs only[go_sem,jY,garbOf_two];rfl,Nat.le_refl _,hm2,rfl,rfl⟩ ?_;rintro _ vs w9 g9 ⟨k,rfl,hk2,hkm,rfl,rfl⟩;have dk:=natlt k s.mark;have gk:=garbOf_len im s i0 k
   by_cases hkl:k<s.mark
   ·rw[decide_eq_true hkl]at dk
    have y1:(0:Int)≤((k:Nat):Int)∧((k:Nat):Int)<((s.mark+1:Nat):Int):=by omega
    have ru:=bu8.rd (p:=k) (by omega);have rl:=bl8.rd (p:=k) (by omega);rw[hused k hk2 hkl]at ru;have ck:=iSu (i:=k);have hsu:=qVb im s i0 k hk2
    cases hl2:lf k with
    | true =>
     rw[hl2]at rl;rw[if_pos ((hlt k).1 hl2),List.append_nil]at hsu;simp -implicitDefEqProofs only[go_sem,jY,yG,zB,x2,dk,y1.1,y1.2,and_self,if_true,iTn,jU,zB,ru,rl,ck];refine⟨s.mark - (k+1),by omega,k+1,?_,by omega,by omega,rfl,rfl⟩;rw[hsu]
    | false =>
     rw[hl2]at rl;have hnl:¬ lateB im s i0 k=true:=fun h=>by have:=(hlt k).2 h;rw[hl2]at this;cases this
     have ga':=garb_at im s i0 k s.mark hk2 hkl hnl;rw[if_neg hnl]at hsu;obtain⟨hgl,hge⟩:=List.getElem?_eq_some_iff.1 ga';obtain⟨cb,co,ccap,hce,hcc⟩:=hgv.rd.pos (by decide) (by rw[qQv];omega);rw[qQv]at hce hcc;cases hce
     have rk:rdO prog 3 w9 cb (co+(qXs im s i0 k).length)=some (.int .i64 (k:Nat)):=by
      have:=hgv.rd.fld (P:=prog) (t:=3) agg3 (i:=(qXs im s i0 k).length) (by rw[qQv];exact hgl) (j:=0) (by decide) (x:=.int .i64 (k:Nat)) (by simp only[inR,List.getElem_map,List.getElem?_cons_zero,hge]);rw[jU,Nat.add_zero]at this;exact this
     have y3:(0:Int)≤(((qXs im s i0 k).length:Nat):Int)∧(((qXs im s i0 k).length:Nat):Int)<((qXs im s i0 s.mark).length:Int):=by omega
     have d3:=dFo (((qXs im s i0 k).length:Int) ≥ ((qXs im s i0 s.mark).length:Int));have ca:IntKind.i64.wrap (((qXs im s i0 k).length:Int)+1)=(((qXs im s i0 k).length+1:Nat):Int):=qXi (b:=1);simp -implicitDefEqProofs only[go_sem,jY,gLa,gLz,gLs,bSe,bNe,yG,xG,zB,x2,dk,y1.1,y1.2,y3.1,y3.2,and_self,if_true,iTn,jU,zB,ru,rl,d3,rk,ca,ck];refine⟨s.mark - (k+1),by omega,k+1,?_,by omega,by omega,rfl,rfl⟩;rw[hsu,lAp]
     rfl
   ·have hke:k=s.mark:=by omega
    subst hke;rw[decide_eq_false hkl]at dk;have hcn:=cnt_clean hcl;have x6:rdO prog 3 w9 rb 6=some (.int .i64 (cntP isLf (pgF im s.mark) s.mark:Nat)):=rd1 agg3 k8 (by rw[← hrp];rfl);have x7:rdO prog 3 w9 rb 7=some (.int .i64 (cntP isBrn (pgF im s.mark) s.mark:Nat)):=rd1 agg3 k8 (by rw[← hrp];rfl);have x8:rdO prog 3 w9 rb 8=some (.int .i64 (cntR im s:Nat)):=rd1 agg3 k8 (by rw[← hrp];rfl);have c1:IntKind.i64.wrap (((cntP isLf (pgF im s.mark) s.mark:Nat):Int)+((cntP isBrn (pgF im s.mark) s.mark:Nat):Int))=((cntP isLf (pgF im s.mark) s.mark+cntP isBrn (pgF im s.mark) s.mark:Nat):Int):=qXi;have c2:IntKind.i64.wrap (((cntP isLf (pgF im s.mark) s.mark+cntP isBrn (pgF im s.mark) s.mark:Nat):Int)+((cntR im s:Nat):Int))=((s.mark - 2:Nat):Int):=by rw[qXi,hcn]
    have c3:IntKind.i64.wrap ((s.mark:Int) - 2)=((s.mark - 2:Nat):Int):=qZj (b:=2) hm2 (by omega);simp -implicitDefEqProofs only[go_sem,jY,gLa,gLz,gLs,bSe,zB,x2,dk,x6,x7,x8,c1,c2,c3];exact hno8
end A
end
section
open Aud A
theorem auditOwners (w:World)(ht:Tabs w)(hdv:R.DivT w){iv:Value}{im:Bs}(hi:By w iv im)(hl:im.length≤2 ^ 47)(from':Int) :
  Fn prog 7 #[iv,.int .i64 from'] w fun v w'=>v=.bool true∧No w w':=by
 refine go7 (by simp) ?_;simp -implicitDefEqProofs only[go_sem,zB,Tryz.f7];have hD:Go.V.climb 3 kz 0 (leafD 3 kz [7]) ((empts 3 257).take 256)=dgT 3 256 smT:=(R.dgT_leaf 3 2 kz [7]).symm;have hDl:(dgT 3 256 smT).length=32:=by rw[← hD];exact qJv _ _ _ _ _ (qZd _ _ _)
 refine qQa pl9 ((R.small w ht hdv hD hDl).mono ?_);rintro v1 w1 ⟨b1,f1⟩;simp -implicitDefEqProofs only[go_sem];refine qQa pl22 ((owners w1 (ht.no f1) b1.by (by rw[smI_len hDl];decide) 1 true (fun _=>⟨smS,small_look hDl rfl⟩)).mono ?_);rintro _ w2 ⟨rfl,f2⟩;have f12:=f1.trans f2;simp -implicitDefEqProofs only[go_sem,jY,gLa,gLz,gLs,bSe];refine qQa pl22 ((owners w2 (ht.no f12) (hi.fr0 f12) hl from' false (fun h=>by cases h)).mono ?_);rintro _ w3 ⟨rfl,f3⟩;simp -implicitDefEqProofs only[go_sem,jY];exact f12.trans f3
end
end Go.V
