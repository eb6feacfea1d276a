/- Helpers. -/
import Derived.Test.YtppmpdjlmgfdkaaGreatDoorG29
import Derived.Test.YtppmpdjlmgfdkaaGreatDoorG11
import Derived.Test.YtppmpdjlmgfdkaaGreatDoorG25
import Derived.Test.YtppmpdjlmgfdkaaGreatDoorG16
set_option linter.all false
set_option maxRecDepth 100000
set_option maxHeartbeats 8000000
open Int renaming toNat_zero→vQ
open List renaming replicate→zV,getElem?_eq_getElem→zQ
open Nat renaming reduceEqDiff→jY,zero_add→zB,reduceAdd→y7,zero_mul→jL,add_zero→jA,reduceBEq→jG
open Go.Value renaming cells→jH,int→yL,agg→yC
namespace Go.V
open Go.Proofs.Tryz Go.V.Tryz
open Go.Proofs Sha
variable {cs:Array Value} {im:Bs} {es:List (Bs × Bs)} {b el i n sb:Nat} {esv iv v:Value} {u w:World}
section
namespace A
open Aud
section
variable {u w w':World} {sb:Nat} {iv:Value} {im:Bs} {s:Sup} {mn mr:Nat} {cv vv fv bv:Value} {nl rl:List (Nat × Value)} {pg:Nat→Option Pg} {k:Nat} {fs:List (Nat × Int)} {ts:List PT}
theorem ndOk' (ho:LkOk u sb iv s pg):NdOk (pnOf pg):=fun p nd h=>by
 obtain⟨h2,hr⟩:=ho.hnd p nd (qJd.1 h);refine⟨h2,?_⟩
 cases nd with
 | leaf k v=>exact hr.1
 | br lp rp lc rc ls rs =>
  obtain⟨⟨a,b,_,d,_⟩,_⟩:=hr;refine⟨d,fun e=>?_,fun e=>?_⟩
  ·unfold chR at a;rw[if_pos e]at a;exact a
  ·unfold chR at b;rw[if_pos e]at b;exact b
theorem rc_first (ho:LkOk u sb iv s pg)(p:Nat):(rcAt pg p).first≤2 ^ 30∧((rcAt pg p).root=0→(rcAt pg p).count=0):=by
 unfold rcAt;split
 ·rename_i r h
  obtain⟨_,hr,_⟩:=ho.hrc _ _ h;refine⟨hr.1,fun h0=>?_⟩
  rcases hr.2.2.2.1 with h | h
  ·exact h.2
  ·exact absurd h0 h.1
 ·exact⟨Nat.zero_le _,fun _=>rfl⟩
theorem chAt_in (ho:LkOk u sb iv s pg)(hi:1≤i)(hl:i≤(chK pg s.mark).length):2≤chAt (chK pg s.mark) i:=by
 unfold chAt;rw[if_neg (by omega)];have hlt:i - 1<(chK pg s.mark).length:=by omega
 rw[gDq,zQ hlt];show 2≤(chK pg s.mark)[i - 1];have hm:=List.getElem_mem hlt;generalize (chK pg s.mark)[i - 1]=x at hm;unfold chK at hm;have:=(List.mem_filter.1 hm).2;unfold isRc at this;split at this
 ·rename_i r h;exact (ho.hrc _ _ h).1
 ·cases this
theorem chK_len (pg:Nat→Option Pg)(k:Nat):(chK pg k).length≤k:=by unfold chK;exact Nat.le_trans (List.length_filter_le _ _) (by simp)
def AhOk (s:Sup)(pg:Nat→Option Pg)(i:Nat)(o:PT):Prop:=o.Wf 0∧Stands (dgT s.width) (pnOf pg) 0 o∧o.page<max 1 (chAt (chK pg s.mark) i)+1
theorem ahead_next (ho:LkOk u sb iv s pg)(hl:i<(chK pg s.mark).length){o t:PT}(h:AhOk s pg i o)(hv:verP s.width pg (chK pg s.mark) (i+1) o=.ok t):AhOk s pg (i+1) t:=by
 unfold verP at hv;split at hv
 ·rw[Nat.add_sub_cancel]at hv
  have hp:=chAt_in ho (i:=i+1) (by omega) (by omega);have g:=root1_ok (ndOk' ho) h.1 h.2.1 h.2.2 (rc_first ho _).2 (by omega) hv;exact⟨g.1,g.2.1,by have:=g.2.2.2.2.2.2.2;omega⟩
 ·cases hv
def trsP (wd:Int)(pg:Nat→Option Pg)(ch:List Nat)(k:Nat):List PT:=(List.range k).map fun j=>trP wd pg ch (j+1)
theorem trsP_succ (wd:Int)(pg:Nat→Option Pg)(ch:List Nat)(k:Nat):trsP wd pg ch (k+1)=trsP wd pg ch k++[trP wd pg ch (k+1)]:=by unfold trsP;rw[List.range_succ,List.map_append];rfl
theorem trsP_len (wd:Int)(pg:Nat→Option Pg)(ch:List Nat)(k:Nat):(trsP wd pg ch k).length=k:=by unfold trsP;simp
theorem ahead_tr (wd:Int)(pg:Nat→Option Pg)(ch:List Nat)(k:Nat):ahead (trsP wd pg ch k)=trP wd pg ch k:=by
 cases k with
 | zero=>rfl
 | succ k=>rw[trsP_succ];unfold ahead;simp
def WhR (u:World)(sb:Nat)(iv:Value)(im:Bs)(s:Sup)(mn mr:Nat)(cv:Value)(nl rl:List (Nat × Value))(pg:Nat→Option Pg)(fs:List (Nat × Int))(r:Except (Nat × Int) Unit)(w:World):Prop :=
 ∃ vv,ErrL u sb iv im s mn mr cv vv nl rl pg (match r with | .ok _=>fs | .error e=>fs++[e]) w∧(r=.ok ()→VsM u w vv (trsP s.width pg (chK pg s.mark) (chK pg s.mark).length))
def whI (u:World)(sb:Nat)(iv:Value)(im:Bs)(s:Sup)(mn mr:Nat)(cv:Value)(nl rl:List (Nat × Value))(pg:Nat→Option Pg)(fs:List (Nat × Int))(R:Except (Nat × Int) Unit)(n:Nat)(vs:List Value)(w:World):Prop :=
 ∃ (i:Nat) (vv:Value) (ts:List PT),vs=[pt sb 0,.int .i64 ((chK pg s.mark).length:Nat),.int .i64 (i:Nat)]∧i≤(chK pg s.mark).length∧n=(chK pg s.mark).length - i∧LkM u w sb iv im s mn mr cv vv nl rl pg fs ts∧ts.length=i∧versP s.width pg (chK pg s.mark) ((chK pg s.mark).length - i) (i+1) (ahead ts)=R∧AhOk s pg i (ahead ts)∧ts=trsP s.width pg (chK pg s.mark) i
theorem whole (hL:LkM u w sb iv im s mn mr cv vv nl rl pg fs [])(ho:LkOk u sb iv s pg)(hfs:fs.length≤2 ^ 20) :
  Fn prog 45 #[pt sb 0] w fun v w'=>v=.tuple #[]∧WhR u sb iv im s mn mr cv nl rl pg fs (wholeP s.width pg (chK pg s.mark) s.mark s.head) w':=by
 refine go45 (by simp) ?_;obtain⟨fv,bv,h,hbl⟩:=hL.sg;obtain⟨a,cap,hcv,hcap⟩:=h.chn.rd.slice;rw[qQv]at hcv hcap;have hlk:=chK_len pg s.mark;have hm4:=ho.hm;generalize hch:chK pg s.mark=ch at *;have r0:rdO prog 45 w sb 8=some (.slice a ch.length cap):=by rw[← hcv];exact rd1 agg45 h.row rfl
 simp -implicitDefEqProofs only[go_sem,gLa,gLz,zB,Tryz.f45,r0];generalize hR:versP s.width pg ch ch.length 1 .nil=R;refine loopD [0,8,9] (whI u sb iv im s mn mr cv nl rl pg fs R) ch.length ⟨0,vv,[],by rw[hch];rfl,by omega,by rw[hch];rfl,hL,rfl,by rw[hch,← hR];rfl,⟨trivial,trivial,?_⟩,rfl⟩ ?_
 ·show 0<_;omega
 rintro _ vs w g ⟨i,vv,ts,rfl,hi,rfl,hL,hts,hv,hah,htr⟩;rw[hch]at hi hv ⊢
 by_cases hlt:i<ch.length
 ·have d1:=dTo ((i:Int)<(ch.length:Int))
  have c1:=iSu (i:=i);simp -implicitDefEqProofs only[go_sem,jY,d1,c1];refine qQa pl82 ((version hL ho hfs (i:=i+1) (by omega) (by omega) (rc_first ho _).1 hah.1 hah.2.1 (by rw[Nat.add_sub_cancel];exact hah.2.2)).mono ?_);rintro x w5 hq;rw[hch]at hq;rw[show ch.length - i=(ch.length - (i+1))+1 by omega]at hv;unfold versP at hv
  cases hvp:verP s.width pg ch (i+1) (ahead ts) with
  | error e =>
   rw[hvp]at hq hv;obtain⟨rfl,hq⟩:=hq;simp -implicitDefEqProofs only[go_sem,Bool.not_false];have hw:wholeP s.width pg ch s.mark s.head=.error e:=by unfold wholeP;rw[hR,← hv]
   rw[hw];exact⟨vv,hq,fun h=>by cases h⟩
  | ok t =>
   rw[hvp]at hq hv;obtain⟨rfl,vv5,hL5⟩:=hq;simp -implicitDefEqProofs only[go_sem,jY,Bool.not_true,c1];refine⟨ch.length - (i+1),by omega,i+1,vv5,ts++[t],by rw[hch],by rw[hch];omega,by rw[hch],hL5,by rw[lAp,hts];rfl,?_,?_,?_⟩
   ·rw[hch]
    have:ahead (ts++[t])=t:=by unfold ahead;simp
    rw[this];exact hv
   ·have:ahead (ts++[t])=t:=by unfold ahead;simp
    rw[this];exact ahead_next ho (by rw[hch];exact hlt) hah (by rw[hch];exact hvp)
   ·rw[htr,ahead_tr,hch]at hvp
    rw[trsP_succ,hch,trP_ok hvp,htr,hch]
 ·have hie:i=ch.length:=by omega
  subst hie;have d1:=dFo ((ch.length:Int)<(ch.length:Int));rw[Nat.sub_self]at hv;have hRo:R=.ok ():=hv.symm;subst hRo;obtain⟨fv5,bv5,h5,hb5⟩:=hL.sg
  have hE:ErrL u sb iv im s mn mr cv vv nl rl pg fs w:=⟨hL.no,hL.sg⟩
  have hVs:VsM u w vv (trsP s.width pg ch ch.length):=by have hx:=hL.vs;rw[htr,hch]at hx;exact hx
  unfold WhR;rw[hch];have r0:rdO prog 45 w sb 8=some (.slice a ch.length cap):=by rw[← hcv];exact rd1 agg45 h5.row rfl
  have r3:rdO prog 3 w sb 3=some (.int .i64 (s.mark:Nat)):=rd1 agg3 h5.row rfl;have r4:rdO prog 3 w sb 4=some (.int .i64 (s.head:Nat)):=rd1 agg3 h5.row rfl;simp -implicitDefEqProofs only[go_sem,jY,gLa,gLz,zB,d1,r0];refine qQa pl66 ((qJk h5 (i:=ch.length) (by omega)).mono ?_);rintro _ w5 ⟨e5',rfl⟩;rw[e5',hch];have hmx:=maxOne (chAt ch ch.length);have hc4:chAt ch ch.length<4096:=by rw[← hch];exact chAt_lt ho _
  generalize hla:max 1 (chAt ch ch.length)=last at *
  have hw:wholeP s.width pg ch s.mark s.head=if last+1<s.mark then .error (last+1,172) else if 0<ch.length∧s.head≠last then .error (last,173) else .ok ():=by
   unfold wholeP;rw[hR,hla]
  rw[hw];have c1:=iSu (i:=last);have l1:=natlt (last+1) s.mark
  by_cases hlm:last+1<s.mark
  ·rw[decide_eq_true hlm]at l1
   simp -implicitDefEqProofs only[go_sem,jY,y7,zB,hmx,c1,r3,l1];refine qQa pl44 ((errFind hE ho hfs (last+1) 172).mono ?_);rintro _ w9 ⟨rfl,e9⟩;simp -implicitDefEqProofs only[go_sem];rw[if_pos hlm];exact⟨vv,e9,fun h=>by cases h⟩
  ·rw[decide_eq_false hlm]at l1
   rw[if_neg hlm];have l2:decide ((ch.length:Int) > 0)=decide (0<ch.length):=natlt 0 ch.length;have n4:=natne s.head last
   by_cases h0:0<ch.length
   ·rw[decide_eq_true h0]at l2
    by_cases hh:s.head=last
    ·rw[decide_eq_false fun e=>e hh]at n4
     simp -implicitDefEqProofs only[go_sem,jY,y7,gLa,gLz,gLs,bSe,zB,hmx,c1,r3,l1,r0,l2,r4,n4];rw[if_neg fun h=>h.2 hh];exact⟨vv,hE,fun _=>hVs⟩
    ·rw[decide_eq_true hh]at n4
     simp -implicitDefEqProofs only[go_sem,jY,y7,gLa,gLz,gLs,bSe,zB,hmx,c1,r3,l1,r0,l2,r4,n4];refine qQa pl44 ((errFind hE ho hfs last 173).mono ?_);rintro _ w9 ⟨rfl,e9⟩;simp -implicitDefEqProofs only[go_sem];rw[if_pos ⟨h0,hh⟩];exact⟨vv,e9,fun h=>by cases h⟩
   ·rw[decide_eq_false h0]at l2
    simp -implicitDefEqProofs only[go_sem,jY,y7,gLa,gLz,gLs,qQt,zB,hmx,c1,r3,l1,r0,l2];rw[if_neg fun h=>h0 h.1];exact⟨vv,hE,fun _=>hVs⟩
end
end A
end
section
namespace A
open Aud
abbrev nS:Value:=.slice none 0 0
abbrev sup00:Sup:=⟨0,0,0,0,0⟩
theorem bldSight (im:Option Addr)(n c:Nat)(x y:Nat):bldO prog 73 [(0,.slice im n c),(2,.map (some x)),(3,.map (some y))]=some (.agg (sgC (.slice im n c) sup00 x y nS nS nS nS)):=by
 unfold bldO;rw[zero73,places73];rfl
theorem allocS (w:World)(c:Array Value):∃ W,((w.alloc (.map #[] 0)).alloc (.map #[] 0)).alloc (.cells c 73)=W∧No w W∧W.heap[w.heap.size]?=some (.map #[] 0)∧W.heap[w.heap.size+1]?=some (.map #[] 0)∧W.heap[w.heap.size+2]?=some (.cells c 73 (0,0))∧W.heap.size=w.heap.size+3:=by
 have f2:No w (w.alloc (.map #[] 0)):=(Fr.refl _ _).alloc _;have k2:(w.alloc (.map #[] 0)).heap[w.heap.size]?=some (.map #[] 0):=qQb _ _;have s2:(w.alloc (.map #[] 0)).heap.size=w.heap.size+1:=qQc _ _;generalize w.alloc (.map #[] 0)=W2 at *;have f3:No W2 (W2.alloc (.map #[] 0)):=(Fr.refl _ _).alloc _;have k3:(W2.alloc (.map #[] 0)).heap[W2.heap.size]?=some (.map #[] 0):=qQb _ _;have s3:(W2.alloc (.map #[] 0)).heap.size=W2.heap.size+1:=qQc _ _;generalize W2.alloc (.map #[] 0)=W3 at *;obtain⟨W4,h4,f4,k4,s4⟩:=qQl W3 c 73;have e3:W3.heap.size=w.heap.size+2:=by omega
 rw[s2]at k3;rw[e3]at k4;exact⟨W4,h4,(f2.trans f3).trans f4,by rw[f4.blk w.heap.size (by omega) id,f3.blk w.heap.size (by omega) id];exact k2,by rw[f4.blk (w.heap.size+1) (by omega) id];exact k3,k4,by omega⟩
theorem sgNew {sb mn mr:Nat}{s:Sup}(pg:Nat→Option Pg)(hr:w.heap[sb]?=some (.cells (sgC iv s mn mr nS nS nS nS) 73 (0, 0)))(hi:By w iv im)(h1:w.heap[mn]?=some (.map #[] 0))(h2:w.heap[mr]?=some (.map #[] 0))(hne:mn≠mr)(hs:u.heap.size≤sb)(hn:u.heap.size≤mn)(hm:u.heap.size≤mr) :
  SgM u w sb iv im s mn mr nS nS nS nS [] [] pg 0 [] :=
 ⟨hr,hi,Mp.new h1,Mp.new h2,hne,hs,hn,hm,NwR.nil _ _ _ _,NwR.nil _ _ _ _,fun p=>by rw[if_neg (Nat.not_lt_zero p)];rfl,fun p=>by rw[if_neg (Nat.not_lt_zero p)];rfl,rfl,rfl⟩
theorem chooseP_err {a b:Bs}{e:Int}(h:qJb a b=.error e):(e != 0)=true:=by
 unfold qJb at h;split at h
 ·unfold qKo at h
  repeat' split at h
  all_goals first | (cases h;decide) | cases h
 ·repeat' split at h
  all_goals first | (cases h;decide) | cases h
theorem wrSup {iv x y a b c d:Value}{s s':Sup}(k:w.heap[sb]?=some (.cells #[iv, .int .i64 (s.width:Nat), .int .i64 (s.gen:Nat), .int .i64 (s.mark:Nat), .int .i64 (s.head:Nat), .int .i64 (s.pages:Nat), x, y, a, b, c, d] 73 (0, 0))) :
  wrO prog 67 w sb 1 (.agg (supC s'))=some (put w sb (.cells #[iv,.int .i64 (s'.width:Nat),.int .i64 (s'.gen:Nat),.int .i64 (s'.mark:Nat),.int .i64 (s'.head:Nat),.int .i64 (s'.pages:Nat),x,y,a,b,c,d] 73 (0,0))) :=
 wr_mid (a:=[iv]) (m:=[.int .i64 (s.width:Nat),.int .i64 (s.gen:Nat),.int .i64 (s.mark:Nat),.int .i64 (s.head:Nat),.int .i64 (s.pages:Nat)]) (r:=[x,y,a,b,c,d]) (vs:=[.int .i64 (s'.width:Nat),.int .i64 (s'.gen:Nat),.int .i64 (s'.mark:Nat),.int .i64 (s'.head:Nat),.int .i64 (s'.pages:Nat)]) sz67 rfl rfl k rfl
theorem lkOk {s:Sup}(ht:Tabs u)(hs:u.heap.size≤sb)(hi:∀ b,qQg iv=some b→b<u.heap.size)(h:s.ok):LkOk u sb iv s (pgF im s.mark) where
 tabs:=ht
 hsb:=hs
 hiv:=hi
 hm:=by obtain⟨_,_,h3,h4,_⟩:=h;omega
 hpg p hp:=qJl fun e=>by omega
 hnd p n hn:=by obtain⟨h2,_,ha⟩:=pgF_some hn;exact⟨h2,qVf ha⟩
 hrc p r hr:=by obtain⟨h2,_,ha⟩:=pgF_some hr;exact⟨h2,qVf ha⟩
theorem loadsSmall (w:World)(sb:Nat){k:Nat}(h2:k<2):Fn prog 230 #[.agg #[],pt sb 0,.int .i64 (k:Nat)] w fun v w'=>v=.int .i64 0∧No w w':=by
 refine go230 (by simp) ?_;obtain⟨W,hW,f1,_,s1⟩:=qQl w #[] 174;have d1:=dTo ((k:Int)<2);simp -implicitDefEqProofs only[go_sem,jY,y7,jH,zB,Tryz.f230,hW,d1];exact f1
def lkI (u:World)(sb:Nat)(iv:Value)(im:Bs)(s:Sup)(mn mr ab:Nat)(n:Nat)(vs:List Value)(w:World):Prop :=
 ∃ (i:Nat) (cv fv:Value) (nl rl:List (Nat × Value)),vs=[pt sb 0,pt ab 0,.int .i64 (s.mark:Nat),.int .i64 (i:Nat)]∧i≤s.mark∧n=s.mark - i∧SgM u w sb iv im s mn mr cv nS fv nS nl rl (pgF im s.mark) i (qZg im i)∧No u w∧w.heap[ab]?=some (.cells #[zrV,loV] 120 (0,0))
section
variable {u w:World} {sb:Nat} {iv:Value} {im:Bs} {s:Sup} {mn mr:Nat} {cv vv fv bv:Value} {nl rl:List (Nat × Value)} {pg:Nat→Option Pg} {k:Nat} {fs:List (Nat × Int)}
theorem fvOff (h:SgM u w sb iv im s mn mr cv vv fv bv nl rl pg k fs)(b:Nat)(hb:b<u.heap.size)(e:FvB sb fv b):False:=by
 rcases e with rfl | e
 ·exact Nat.not_lt.2 h.hsb hb
 ·exact Nat.not_lt.2 (h.fnd.lt e).1 hb
theorem fvOff2 (h:SgM u w sb iv im s mn mr cv vv fv bv nl rl pg k fs)(hb:w.heap[b]?=some (.cells cs el (0,0)))(h1:el≠73)(h2:el≠43)(e:FvB sb fv b):False:=by
 rcases e with rfl | e
 ·rw[h.row]at hb;cases hb;exact h1 rfl
 ·obtain⟨c',hc'⟩:=qXg h.fnd e;rw[hb]at hc';cases hc';exact h2 rfl
theorem ldOff (h:SgM u w sb iv im s mn mr cv vv fv bv nl rl pg k fs)(b:Nat)(hb:b<u.heap.size)(e:LdB sb mn mr cv b):False:=by
 rcases e with rfl | rfl | rfl | e
 ·exact Nat.not_lt.2 h.hsb hb
 ·exact Nat.not_lt.2 h.hmn hb
 ·exact Nat.not_lt.2 h.hmr hb
 ·exact Nat.not_lt.2 (h.chn.lt e).1 hb
theorem ldOff2 (h:SgM u w sb iv im s mn mr cv vv fv bv nl rl pg k fs)(hb:w.heap[b]?=some (.cells cs el (0,0)))(h1:el≠73)(h2:el≠3)(e:LdB sb mn mr cv b):False:=by
 obtain⟨_,_,m1,_⟩:=h.nds;obtain⟨_,_,m2,_⟩:=h.rcs
 rcases e with rfl | rfl | rfl | e
 ·rw[h.row]at hb;cases hb;exact h1 rfl
 ·rw[m1]at hb;cases hb
 ·rw[m2]at hb;cases hb
 ·obtain⟨c',hc'⟩:=qXg h.chn e;rw[hb]at hc';cases hc';exact h2 rfl
end
def lkJ (u:World)(sb:Nat)(iv:Value)(im:Bs)(s:Sup)(mn mr ab i:Nat)(cv fv:Value)(nl rl:List (Nat × Value))(n:Nat)(vs:List Value)(w:World):Prop :=
 ∃ j:Nat,vs=[pt sb 0,pt ab 0,.int .i64 (i:Nat),.int .i64 (s.mark:Nat),.int .i64 (i:Nat),.agg #[zrV,loV],.int .i64 (j:Nat)]∧n=2 - j∧No u w∧w.heap[ab]?=some (.cells #[zrV,loV] 120 (0,0)) ∧
  ((j=0∧SgM u w sb iv im s mn mr cv nS fv nS nl rl (pgF im s.mark) i (qZg im i))∨(j=1∧SgM u w sb iv im s mn mr cv nS fv nS nl rl (pgF im s.mark) i (qZg im i)∧¬ (i<2∧zer ((pgB im i).drop 64)=false)) ∨
   (j=2∧qXz im i=0∧∃ cv' nl' rl',SgM u w sb iv im s mn mr cv' nS fv nS nl' rl' (pgF im s.mark) (i+1) (qZg im i)))
def LkQ (u:World)(iv:Value)(im:Bs)(v:Value)(w:World):Prop :=
 match lookP im with
 | .error e=>v=.tuple #[.pointer none,.int .i64 e]∧No u w
 | .ok (s,fs)=>∃ sb mn mr cv vv nl rl,v=.tuple #[pt sb 0,.int .i64 0]∧LkOk u sb iv s (pgF im s.mark)∧ErrL u sb iv im s mn mr cv vv nl rl (pgF im s.mark) fs w∧(fs=[]→VsM u w vv (trsP s.width (pgF im s.mark) (chK (pgF im s.mark) s.mark) (chK (pgF im s.mark) s.mark).length))
theorem look (w:World)(ht:Tabs w)(hi:By w iv im)(hl:im.length≤2 ^ 47) :
  Fn prog 23 #[iv] w fun v w'=>LkQ w iv im v w':=by
 refine go23 (by simp) ?_;obtain⟨a,cap,rfl,hcap⟩:=hi.slice;have n0:((256:Int)=0)=False:=by simp
 have d0:((im.length:Int).tmod 256 != 0)=decide (im.length % 256≠0):=natne (im.length % 256) 0
 by_cases h0:im.length % 256≠0
 ·rw[decide_eq_true h0]at d0
  simp -implicitDefEqProofs only[go_sem,jY,gLa,gLz,Tryz.f23,n0,if_false,d0];unfold LkQ lookP;rw[if_pos h0];exact⟨rfl,Fr.refl _ _⟩
 rw[decide_eq_false h0]at d0
 have d1:IntKind.i64.wrap ((im.length:Int).tdiv 256)=((im.length / 256:Nat):Int):=by
  have:(im.length:Int).tdiv 256=((im.length / 256:Nat):Int):=rfl;rw[this,qQm (by omega) (by omega)]
 have d2:decide (((im.length / 256:Nat):Int)<3)=decide (im.length / 256<3):=natlt _ 3;have d3:decide (((im.length / 256:Nat):Int) > 4096)=decide (4096<im.length / 256):=natlt 4096 _
 by_cases h1:im.length / 256<3∨4096<im.length / 256
 ·by_cases h3:im.length / 256<3
  ·rw[decide_eq_true h3]at d2
   simp -implicitDefEqProofs only[go_sem,jY,gLa,gLz,gLs,qXq,Tryz.f23,n0,if_false,d0,d1,d2];unfold LkQ lookP;rw[if_neg h0,if_pos h1];exact⟨rfl,Fr.refl _ _⟩
  ·rw[decide_eq_false h3]at d2
   rw[decide_eq_true (h1.resolve_left h3)]at d3;simp -implicitDefEqProofs only[go_sem,jY,gLa,gLz,gLs,bSe,Tryz.f23,n0,if_false,d0,d1,d2,d3];unfold LkQ lookP;rw[if_neg h0,if_pos h1];exact⟨rfl,Fr.refl _ _⟩
 have h3:¬ im.length / 256<3:=fun e=>h1 (.inl e);have h4:¬ 4096<im.length / 256:=fun e=>h1 (.inr e);rw[decide_eq_false h3]at d2;rw[decide_eq_false h4]at d3;have b1:=bldSight a im.length cap w.heap.size (w.heap.size+1);simp -implicitDefEqProofs only[go_sem,jY,gLa,gLz,gLs,jH,bSe,Tryz.f23,n0,if_false,d0,d1,d2,d3,b1];obtain⟨b,o,cap',he,hcap'⟩:=hi.pos (by omega);cases he
 have hbl:b<w.heap.size:=by
  obtain⟨_,_,e,_,h⟩:=hi.at;obtain⟨_,_,e',h⟩:=h 0 (by omega);cases e;cases e';exact rc_lt h
 have hold:∀ b',qQg (.slice (some ⟨b,o,none⟩) im.length cap)=some b'→b'<w.heap.size:=fun b' hb=>by cases hb;exact hbl
 obtain⟨W,hW,f1,k1,k2,k3,s1⟩:=allocS w (sgC (.slice (some ⟨b,o,none⟩) im.length cap) sup00 w.heap.size (w.heap.size+1) nS nS nS nS);rw[hW];have hS:=sgNew (u:=w) (fun _=>none) k3 (hi.fr0 f1) k1 k2 (by omega) (by omega) (Nat.le_refl _) (by omega);refine qQa pl42 ((sight_page hS rfl hcap hl (p:=0) (by omega)).mono ?_);rintro _ w5 ⟨e5,rfl⟩;rw[e5];simp -implicitDefEqProofs only[go_sem,jY];refine qQa pl42 ((sight_page hS rfl hcap hl (p:=1) (by omega)).mono ?_);rintro _ w6 ⟨e6,rfl⟩;rw[e6];simp -implicitDefEqProofs only[go_sem,jY];have p0:=page_by (hi.fr0 f1) (p:=0) (by omega) hcap;have p1:=page_by (hi.fr0 f1) (p:=1) (by omega) hcap;refine qQa pl41 ((choose W p0 (by omega) p1 (by omega)).mono ?_);rintro _ w7 ⟨f7,hq⟩
 cases hch:qJb (pgB im 0) (pgB im 1) with
 | error e =>
  rw[hch]at hq;subst hq;have k7:=f7.at k3 id;have q7:wrO prog 67 w7 (w.heap.size+2) 1 (.agg sup0)=some (put w7 (w.heap.size+2) (.cells (sgC (.slice (some ⟨b,o,none⟩) im.length cap) sup00 w.heap.size (w.heap.size+1) nS nS nS nS) 73 (0,0))):=wrSup (s:=sup00) (s':=sup00) k7;have ne:=chooseP_err hch;simp -implicitDefEqProofs only[go_sem,jY,gLa,gLz,gLs,zB,q7,ne];have hlook:lookP im=.error e:=by unfold lookP;rw[if_neg h0,if_neg h1,hch]
  unfold LkQ;rw[hlook];exact⟨rfl,(f1.trans f7).put (b:=w.heap.size+2) _ fun h=>by omega⟩
 | ok s =>
  rw[hch]at hq;subst hq;have k7:=f7.at k3 id;have q7:wrO prog 67 w7 (w.heap.size+2) 1 (.agg (supC s))=some (put w7 (w.heap.size+2) (.cells (sgC (.slice (some ⟨b,o,none⟩) im.length cap) s w.heap.size (w.heap.size+1) nS nS nS nS) 73 (0,0))):=wrSup (s:=sup00) (s':=s) k7;have hsok:=chooseP_ok hch;have k8:=qQd (o:=.cells (sgC (.slice (some ⟨b,o,none⟩) im.length cap) s w.heap.size (w.heap.size+1) nS nS nS nS) 73 (0,0)) k7;have f8:=(f1.trans f7).put (b:=w.heap.size+2) (.cells (sgC (.slice (some ⟨b,o,none⟩) im.length cap) s w.heap.size (w.heap.size+1) nS nS nS nS) 73 (0,0)) fun h=>by omega
  have k81:=(qQi (b:=w.heap.size+2) (o:=.cells (sgC (.slice (some ⟨b,o,none⟩) im.length cap) s w.heap.size (w.heap.size+1) nS nS nS nS) 73 (0,0)) ((f7.blk _ (qQh k1) id).trans k1) (by omega))
  have k82:=(qQi (b:=w.heap.size+2) (o:=.cells (sgC (.slice (some ⟨b,o,none⟩) im.length cap) s w.heap.size (w.heap.size+1) nS nS nS nS) 73 (0,0)) ((f7.blk _ (qQh k2) id).trans k2) (by omega))
  have c00:((0:Int) != 0)=false:=rfl;have np:=natne s.pages (im.length / 256);have r5:rdO prog 3 (put w7 (w.heap.size+2) (.cells (sgC (.slice (some ⟨b,o,none⟩) im.length cap) s w.heap.size (w.heap.size+1) nS nS nS nS) 73 (0,0))) (w.heap.size+2) 5=some (.int .i64 (s.pages:Nat)):=rd1 agg3 k8 rfl
  by_cases hpn:s.pages≠im.length / 256
  ·rw[decide_eq_true hpn]at np
   simp -implicitDefEqProofs only[go_sem,jY,y7,gLa,gLz,gLs,bNe,zB,q7,r5,np];have hlook:lookP im=.error 4:=by unfold lookP;rw[if_neg h0,if_neg h1,hch];exact if_pos hpn
   unfold LkQ;rw[hlook];exact⟨rfl,f8⟩
  rw[decide_eq_false hpn]at np;have hlook:lookP im=.ok (s,foundP im s):=by unfold lookP;rw[if_neg h0,if_neg h1,hch];exact if_neg hpn
  simp -implicitDefEqProofs only[go_sem,jY,y7,gLa,gLz,gLs,bNe,zB,q7,r5,np];have hS8:=sgNew (u:=w) (pgF im s.mark) k8 (hi.fr0 f8) k81 k82 (by omega) (by omega) (Nat.le_refl _) (by omega);generalize put w7 (w.heap.size+2) (.cells (sgC (.slice (some ⟨b,o,none⟩) im.length cap) s w.heap.size (w.heap.size+1) nS nS nS nS) 73 (0,0))=W8 at *;refine qQa pl43 ((rules W8).mono ?_);rintro _ w9 ⟨rfl,f9⟩;have hS9:=hS8.fr0 f9;obtain⟨WA,hWA,fA,kA,sA⟩:=qQl w9 #[.nilIface,.nilIface] 120;have qA:wrO prog 120 WA w9.heap.size 0 (.agg #[zrV,loV])=some (put WA w9.heap.size (.cells #[zrV,loV] 120 (0,0))):=qQr sz120 kA rfl (by rw[← Array.all_toList];rfl);have kB:=qQd (o:=.cells #[zrV,loV] 120 (0,0)) kA;have fB:=fA.put (b:=w9.heap.size) (.cells #[zrV,loV] 120 (0,0)) fun h=>by omega
  have hSB:=hS9.fr0 fB;have noB:No w (put WA w9.heap.size (.cells #[zrV,loV] 120 (0,0))):=(f8.trans f9).trans fB;have r3:rdO prog 3 (put WA w9.heap.size (.cells #[zrV,loV] 120 (0,0))) (w.heap.size+2) 3=some (.int .i64 (s.mark:Nat)):=rd1 agg3 hSB.row rfl;simp -implicitDefEqProofs only[go_sem,jY,y7,jH,zB,hWA,qA,r3];generalize put WA w9.heap.size (.cells #[zrV,loV] 120 (0,0))=WB at *;refine loopD [5,7,56,57] (lkI w (w.heap.size+2) (.slice (some ⟨b,o,none⟩) im.length cap) im s w.heap.size (w.heap.size+1) w9.heap.size) s.mark ⟨0,nS,nS,[],[],rfl,Nat.zero_le _,rfl,hSB,noB,kB⟩ ?_;rintro _ vs w5 g ⟨i,cv,fv,nl,rl,rfl,hi',rfl,hS,hno,kab⟩
  by_cases hlt:i<s.mark
  ·have dl:=dTo ((i:Int)<(s.mark:Int))
   have rab:=qQo (P:=prog) (t:=120) agg120 sz120 kab;simp -implicitDefEqProofs only[go_sem,jY,dl,rab];have c24:IntKind.i64.wrap ((i:Int)+1)=((i+1:Nat):Int):=qXi (b:=1) (by have:=hsok.2.2.1;have:=hsok.2.2.2.1;omega);have him:256*i+256≤im.length:=by have:=hsok.2.2.2.1;have:s.pages=im.length / 256:=Classical.not_not.1 hpn;omega
   have m0 : methO prog 173 "ledger/audit.wrong" = some 215 := by kernel_rfl
   have m1 : methO prog 174 "ledger/audit.wrong" = some 230 := by kernel_rfl
   refine loopD [5,7,8,56,57,60,61] (lkJ w (w.heap.size+2) (.slice (some ⟨b,o,none⟩) im.length cap) im s w.heap.size (w.heap.size+1) w9.heap.size i cv fv nl rl) 2 ⟨0,rfl,rfl,hno,kab,.inl ⟨rfl,hS⟩⟩ ?_;clear hS hno kab rab;rintro _ vs w5 g ⟨j,rfl,rfl,hno,kab,hj⟩
   rcases hj with ⟨rfl,hS⟩ | ⟨rfl,hS,hz⟩ | ⟨rfl,hw0,cv',nl',rl',hS⟩
   ·have dj:decide (((0:Nat):Int)<2)=true:=rfl
    have yA:(0:Int)≤((0:Nat):Int):=by omega
    have yB:((0:Nat):Int)<((2:Nat):Int):=by omega
    have pe:partO prog 119 #[zrV,loV] 0=some zrV:=by kernel_rfl
    simp -implicitDefEqProofs only[go_sem,jY,dj,m0,yA,yB,pe,if_true,iTn,jL];rw[show (#[yC #[]]++#[pt (w.heap.size+2) 0,yL .i64 (i:Nat)])=#[yC #[],pt (w.heap.size+2) 0,yL .i64 (i:Nat)] from rfl];refine qQa pl215 ((zerosWrong hS rfl hcap hl him).mono ?_);rintro _ w6 ⟨rfl,f6⟩;have hS6:=hS.fr0 f6;have kab6:=f6.at kab id
    by_cases hz:i<2∧zer ((pgB im i).drop 64)=false
    ·rw[if_pos hz]
     have c53:((53:Int) != 0)=true:=rfl;simp -implicitDefEqProofs only[go_sem,jY,c53];refine qQa pl44 ((sight_find hS6 (hno.trans f6).size hold i 53 (by have:=found1_len im i;omega)).mono ?_);rintro _ w7 ⟨rfl,f7,fv7,hS7⟩;simp -implicitDefEqProofs only[go_sem,jY,c24];have hw:qXz im i=53:=by unfold qXz;rw[if_pos hz.1,if_pos hz.2]
     refine⟨s.mark - (i+1),by omega,i+1,cv,fv7,nl,rl,rfl,by omega,rfl,?_,(hno.trans f6).trans' f7 (fun b hb e=>fvOff hS6 b hb e),f7.at kab6 fun e=>fvOff2 hS6 kab6 (by decide) (by decide) e⟩;rw[qZn,hw,if_neg (by decide)];exact hS7.skip (qJl fun e=>by omega)
    ·rw[if_neg hz]
     have c00:((0:Int) != 0)=false:=rfl;have c01:IntKind.i64.wrap (((0:Nat):Int)+1)=((1:Nat):Int):=rfl;simp -implicitDefEqProofs only[go_sem,jY,bNe,c01];exact⟨1,by omega,1,rfl,rfl,hno.trans f6,kab6,.inr (.inl ⟨rfl,hS6,hz⟩)⟩
   ·have dj:decide (((1:Nat):Int)<2)=true:=rfl
    have yA:(0:Int)≤((1:Nat):Int):=by omega
    have yB:((1:Nat):Int)<((2:Nat):Int):=by omega
    have pe:partO prog 119 #[zrV,loV] 1=some loV:=by kernel_rfl
    simp -implicitDefEqProofs only[go_sem,jY,dj,m1,yA,yB,pe,if_true,iTn,Nat.mul_one];rw[show (#[yC #[]]++#[pt (w.heap.size+2) 0,yL .i64 (i:Nat)])=#[yC #[],pt (w.heap.size+2) 0,yL .i64 (i:Nat)] from rfl];have c00:((0:Int) != 0)=false:=rfl;have c12:IntKind.i64.wrap (((1:Nat):Int)+1)=((2:Nat):Int):=rfl
    by_cases h2:i<2
    ·refine qQa pl230 ((loadsSmall w5 (w.heap.size+2) h2).mono ?_);rintro _ w6 ⟨rfl,f6⟩
     have hw:qXz im i=0:=by unfold qXz;rw[if_pos h2,if_neg fun e=>hz ⟨h2,e⟩]
     simp -implicitDefEqProofs only[go_sem,jY,bNe,c12];exact⟨0,by omega,2,rfl,rfl,hno.trans f6,f6.at kab id,.inr (.inr ⟨rfl,hw,cv,nl,rl,(hS.fr0 f6).skip (qJl fun e=>by omega)⟩)⟩
    ·have hpgi:pgF im s.mark i=(match qXp i (pgB im i) with | .ok g=>some g | .error _=>none):=if_pos ⟨by omega,hlt⟩
     refine qQa pl230 ((loadsWrong hS hno rfl hbl hcap hl him (by omega) (by have:=hsok.2.2.1;have:=hsok.2.2.2.1;omega) hpgi).mono ?_);rintro _ w6 ⟨rfl,f6,cv6,nl6,rl6,hS6⟩
     have hwE:qXz im i=errP (qXp i (pgB im i)):=by unfold qXz;rw[if_neg h2];cases qXp i (pgB im i) <;> rfl
     have kab6:=f6.at kab fun e=>ldOff2 hS kab (by decide) (by decide) e;have no6:No w w6:=hno.trans' f6 fun b hb e=>ldOff hS b hb e;generalize errP (qXp i (pgB im i))=E at *
     by_cases hE:E=0
     ·have cE:(E != 0)=false:=by rw[hE];rfl
      simp -implicitDefEqProofs only[go_sem,jY,cE,c12];exact⟨0,by omega,2,rfl,rfl,no6,kab6,.inr (.inr ⟨rfl,hwE.trans hE,cv6,nl6,rl6,hS6⟩)⟩
     ·have cE:(E != 0)=true:=by simpa using hE
      simp -implicitDefEqProofs only[go_sem,jY,cE];refine qQa pl44 ((sight_find hS6 no6.size hold i E (by have:=found1_len im i;omega)).mono ?_);rintro _ w7 ⟨rfl,f7,fv7,hS7⟩;simp -implicitDefEqProofs only[go_sem,jY,c24];refine⟨s.mark - (i+1),by omega,i+1,cv6,fv7,nl6,rl6,rfl,by omega,rfl,?_,no6.trans' f7 (fun b hb e=>fvOff hS6 b hb e),f7.at kab6 fun e=>fvOff2 hS6 kab6 (by decide) (by decide) e⟩;rw[qZn,hwE,if_neg hE];exact hS7
   ·have dj:decide (((2:Nat):Int)<2)=false:=rfl
    simp -implicitDefEqProofs only[go_sem,jY,dj,c24];refine⟨s.mark - (i+1),by omega,i+1,cv',fv,nl',rl',rfl,by omega,rfl,?_,hno,kab⟩;rw[qZn,if_pos hw0,List.append_nil];exact hS
  ·have hie:i=s.mark:=by omega
   subst hie;have dl:=dFo ((s.mark:Int)<(s.mark:Int));have hoks:=lkOk (u:=w) (sb:=w.heap.size+2) (iv:=.slice (some ⟨b,o,none⟩) im.length cap) (im:=im) ht (by omega) hold hsok
   have hLk:LkM w w5 (w.heap.size+2) (.slice (some ⟨b,o,none⟩) im.length cap) im s w.heap.size (w.heap.size+1) cv nS nl rl (pgF im s.mark) (qZg im s.mark) []:=⟨⟨fv,nS,hS,.inl rfl⟩,hno,[],NwR.nil _ _ _ _,rfl,fun j b t h=>by cases h⟩
   obtain⟨fa,fcap,hfv,hfcap⟩:=hS.fnd.rd.slice;rw[fnR_len]at hfv hfcap;have rf:rdO prog 23 w5 (w.heap.size+2) 10=some (.slice fa (qZg im s.mark).length fcap):=by rw[← hfv];exact rd1 agg23 hS.row rfl
   have nf:(((qZg im s.mark).length:Int) == 0)=decide ((qZg im s.mark).length=0):=nateq (qZg im s.mark).length 0
   by_cases hf0:(qZg im s.mark).length=0
   ·rw[decide_eq_true hf0]at nf
    simp -implicitDefEqProofs only[go_sem,jY,gLa,gLz,zB,dl,rf,nf];have hf1:qZg im s.mark=[]:=List.length_eq_zero_iff.1 hf0;rw[hf1]at hLk;refine qQa pl45 ((whole hLk hoks (by simp)).mono ?_);rintro _ w6 ⟨rfl,vv6,e6,v6⟩;simp -implicitDefEqProofs only[go_sem,jY];unfold LkQ;rw[hlook];refine⟨w.heap.size+2,w.heap.size,w.heap.size+1,cv,vv6,nl,rl,rfl,hoks,?_⟩;have:foundP im s=(match wholeP s.width (pgF im s.mark) (chK (pgF im s.mark) s.mark) s.mark s.head with | .ok _=>[] | .error e=>[e]):=if_pos hf1;rw[this]
    cases hwp:wholeP s.width (pgF im s.mark) (chK (pgF im s.mark) s.mark) s.mark s.head with
    | ok x=>rw[hwp]at e6;exact⟨e6,fun _=>v6 hwp⟩
    | error x=>rw[hwp]at e6;exact⟨e6,fun h=>by cases h⟩
   ·rw[decide_eq_false hf0]at nf
    simp -implicitDefEqProofs only[go_sem,jY,gLa,gLz,zB,dl,rf,nf];unfold LkQ;rw[hlook];refine⟨w.heap.size+2,w.heap.size,w.heap.size+1,cv,nS,nl,rl,rfl,hoks,?_⟩;have:foundP im s=qZg im s.mark:=if_neg fun e=>hf0 (by rw[e];rfl);rw[this];exact⟨⟨hno,fv,nS,hS,.inl rfl⟩,fun h=>absurd (by rw[h];rfl) hf0⟩
end A
end
def enRow (c:Bs × Bs)(vv:Value):List Value:=c.1.map u8++[vv]
def EnR (w:World)(v:Value)(es:List (Bs × Bs)):Prop:=∃ rows,RdR w 33 v rows∧rows.length=es.length∧∀ i (h:i<rows.length) (h':i<es.length),∃ vv,rows[i]=enRow es[i] vv∧es[i].1.length=32∧one vv=true∧By w vv es[i].2
theorem EnR.fr0 {w w':World}(h:EnR w v es)(k:No w w'):EnR w' v es:=by
 obtain⟨rows,h1,h2,h3⟩:=h;refine⟨rows,h1.fr0 k,h2,fun i a b=>?_⟩;obtain⟨vv,e,l,o,y⟩:=h3 i a b;exact⟨vv,e,l,o,y.fr0 k⟩
theorem EnR.slice (h:EnR w v es):∃ a cap,v=.slice a es.length cap∧es.length≤cap:=by
 obtain⟨rows,h1,h2,_⟩:=h;rw[← h2];exact h1.slice
theorem EnR.at (h:EnR w v es)(hi:i<es.length):∃ b o cap vv, v=.slice (some ⟨b, o, Option.none⟩) es.length cap∧es.length≤cap∧es[i].1.length=32∧one vv=true∧By w vv es[i].2 ∧
  ∀ w',No w w'→rdO prog 76 w' b (o+i*33)=some (dg es[i].1)∧rdO prog 22 w' b (o+i*33+32)=some vv∧rdO prog 83 w' b (o+i*33)=some (.agg (enRow es[i] vv).toArray):=by
 obtain⟨rows,hR,h2,h3⟩:=h;have hir:i<rows.length:=by omega
 obtain⟨vv,he,hl,ho,hb⟩:=h3 i hir hi;obtain⟨b,o,cap,rfl,hc⟩:=hR.pos (by decide) (by omega);refine⟨b,o,cap,vv,by rw[h2],by omega,hl,ho,hb,fun w' k=>⟨?_,?_,?_⟩⟩
 ·refine (hR.fr0 k).sub agg76 sz76 (by decide) hir (j:=0) (by decide) (xs:=es[i].1.map u8) (by simp[hl]) fun q hq=>?_
  rw[he,zB,enRow,List.getElem?_append_left (by simp[hl];omega)]
 ·refine (hR.fr0 k).fld agg22 hir (by decide) ?_
  rw[he,enRow,List.getElem?_append_right (by simp[hl])];simp[hl]
 ·rw[← he];exact (hR.fr0 k).get agg83 sz83 (by decide) hir
namespace R
def cwI (w0:World)(wd:Int)(esv:Value)(k full:Bs)(n:Nat)(m:Nat)(vs:List Value)(w:World):Prop :=
 ∃ (h:Nat) (d:Bs),vs=[esv,.int .i64 wd,pt w0.heap.size 0,pt (w0.heap.size+1) 0,pt (w0.heap.size+2) 0,.int .i64 (n:Nat),.int .i64 (h:Nat)]∧h≤n∧m=n - h∧d.length=32∧full=climb wd k h d (((empts wd 257).drop h).take (n - h)) ∧
  w.heap[w0.heap.size]?=some (.cells (bl k) 76 (0,0))∧w.heap[w0.heap.size+1]?=some (.cells (bl d) 75 (0,0))∧w.heap[w0.heap.size+2]?=some (.cells (bl (zV 32 0)) 75 (0,0))∧No w0 w
theorem climbWith (w0:World)(ht:Tabs w0)(wd:Int)(he:RdD w0 esv (empts wd 257)){k:Bs}(hk:k.length=32){d:Bs}(hd:d.length=32)(hn:n≤256) :
  Fn prog 141 #[esv,.int .i64 wd,dg k,.int .i64 0,dg d,.int .i64 (n:Nat)] w0 fun v w'=>v=dg (climb wd k 0 (cutD wd d) ((empts wd 257).take n))∧No w0 w':=by
 refine go141 (by simp) ?_;obtain⟨W,hW,f1,k1,k2,k3,s1⟩:=allocs3 w0 (bl k) 76 (bl d) 75 (bl (zV 32 0)) 75;simp -implicitDefEqProofs only[go_sem,jY,y7,Tryz.f141,jH,qQk,hW];refine qQa pl168 ((within W 0 0 256 (by decide)).mono ?_);rintro _ w2 ⟨rfl,rfl⟩;simp -implicitDefEqProofs only[go_sem,jY];refine qQa pl168 ((within w2 n 0 256 (by decide)).mono ?_);rintro _ w3 ⟨rfl,rfl⟩;have m1:max (0:Int) (min 0 256)=((0:Nat):Int):=rfl;have m2:max (0:Int) (min (n:Int) 256)=(n:Int):=by omega
 have r3:=rd_d agg75 sz75 k2 hd;simp -implicitDefEqProofs only[go_sem,jY,r3,m1,m2];refine qQa pl133 ((dcut w3 wd hd).mono ?_);rintro _ w4 ⟨rfl,f4⟩;have lc:=qXv wd d;have q5:=wr_d sz75 (f4.at k2 id) hd lc;have k5:=qQd (o:=.cells (bl (cutD wd d)) 75 (0,0)) (f4.at k2 id);have k51:=qQi (b:=w0.heap.size+1) (o:=.cells (bl (cutD wd d)) 75 (0,0)) (f4.at k1 id) (by omega);have k53:=qQi (b:=w0.heap.size+1) (o:=.cells (bl (cutD wd d)) 75 (0,0)) (f4.at k3 id) (by omega);have f5:No w0 (put w4 (w0.heap.size+1) (.cells (bl (cutD wd d)) 75 (0,0))):=(f1.trans f4).put (b:=w0.heap.size+1) _ fun h=>by omega
 simp -implicitDefEqProofs only[go_sem,jY,q5];generalize put w4 (w0.heap.size+1) (.cells (bl (cutD wd d)) 75 (0,0))=w5 at *;generalize hfull:climb wd k 0 (cutD wd d) ((empts wd 257).take n)=full;refine loopD [0,1,8,10,12,14,15] (cwI w0 wd esv k full n) n ⟨0,cutD wd d,rfl,by omega,rfl,lc,by rw[List.drop_zero,Nat.sub_zero,hfull],k51,k5,k53,f5⟩ ?_;clear r3 q5 k5 k51 k53 f5 f4 hfull;rintro _ vs w6 g ⟨h,x,rfl,hh,rfl,hx,hf,j1,j2,j3,f6⟩
 by_cases hlt:h<n
 ·have d1:=dTo ((h:Int)<(n:Int))
  have c1:=iSu (i:=h);have c2:IntKind.i64.wrap (255 - (h:Int))=((255 - h:Nat):Int):=qZj (a:=255) (by omega) (by omega);have rk:=rd_d agg76 sz76 j1 hk;simp -implicitDefEqProofs only[go_sem,jY,d1,rk,c2];refine qQa pl170 ((bit w6 hk (i:=255 - h) (by omega)).mono ?_);rintro _ w7 ⟨rfl,f7⟩;have he7:=he.fr0 (f6.trans f7);obtain⟨eb,eo,ec,rfl,_,_⟩:=he7.pos (by rw[qXm];decide);have re:=he7.get (P:=prog) agg75 sz75 (i:=h) (by rw[qXm];omega);rw[gDq,empts_at wd 257 (by omega),Option.getD_some]at re;have red:rdO prog 75 w7.drew eb (eo+h*32)=_:=re;have y1:(0:Int)≤(h:Int)∧(h:Int)<(((empts wd 257).length:Nat):Int):=by rw[qXm];omega
  have hdh:=qQu wd h;have k71:=f7.at j1 id;have k72:=f7.at j2 id;have k73:=f7.at j3 id;have rd7:=rd_d agg75 sz75 k72 hx;have rd7d:rdO prog 75 w7.drew (w0.heap.size+1) 0=_:=rd7
  have hst:((empts wd 257).drop h).take (n - h)=emptD wd h::((empts wd 257).drop (h+1)).take (n - (h+1)):=by
   rw[List.drop_eq_getElem_cons (by rw[qXm];omega),show n - h=(n - (h+1))+1 by omega,List.take_succ_cons]
   congr 1
   have:=empts_at wd 257 (i:=h) (by omega);rw[zQ (by rw[qXm];omega)]at this;exact Option.some.inj this
  rw[hst,climb]at hf;unfold up at hf;unfold kb
  by_cases hbit:kbit k (255 - h)=true
  ·rw[if_pos hbit]at hf
   rw[if_pos hbit];have d0:((1:Int) == 0)=false:=rfl;simp -implicitDefEqProofs only[go_sem,jY,d0,y1,and_self,iTn,red,rd7d];refine qQa pl96 ((branch w7.drew (ht.no (f6.trans f7).drew) wd hdh hx).mono ?_);rintro _ w8 ⟨rfl,f8⟩;have lb:(qXk wd (emptD wd h) x).length=32:=qXj _ _ _;have f78:No w7 w8:=(Fr.refl _ _).drew.trans f8;have q9:=wr_d sz75 (f78.at k72 id) hx lb;simp -implicitDefEqProofs only[go_sem,jY,q9,c1];exact⟨n - (h+1),by omega,h+1,_,rfl,by omega,rfl,lb,hf,qQi (f78.at k71 id) (by omega),qQd (f78.at k72 id),qQi (f78.at k73 id) (by omega),((f6.trans f7).trans f78).put (b:=w0.heap.size+1) _ fun h=>by omega⟩
  ·rw[if_neg hbit]at hf
   rw[if_neg hbit];have d0:((0:Int) == 0)=true:=rfl;simp -implicitDefEqProofs only[go_sem,jY,d0,y1,and_self,iTn,red,rd7d];refine qQa pl96 ((branch w7.drew (ht.no (f6.trans f7).drew) wd hx hdh).mono ?_);rintro _ w8 ⟨rfl,f8⟩;have lb:(qXk wd x (emptD wd h)).length=32:=qXj _ _ _;have f78:No w7 w8:=(Fr.refl _ _).drew.trans f8;have q9:=wr_d sz75 (f78.at k72 id) hx lb;simp -implicitDefEqProofs only[go_sem,jY,q9,c1];exact⟨n - (h+1),by omega,h+1,_,rfl,by omega,rfl,lb,hf,qQi (f78.at k71 id) (by omega),qQd (f78.at k72 id),qQi (f78.at k73 id) (by omega),((f6.trans f7).trans f78).put (b:=w0.heap.size+1) _ fun h=>by omega⟩
 ·have d1:=dFo ((h:Int)<(n:Int))
  obtain rfl:h=n:=by omega
  rw[Nat.sub_self,List.take_zero]at hf;have hf:full=x:=hf;subst hf;have rd6:=rd_d agg75 sz75 j2 hx;have q7:=wr_d sz75 j3 zl32 hx;have r7:=rd_d agg75 sz75 (qQd (o:=.cells (bl full) 75 (0,0)) j3) hx;simp -implicitDefEqProofs only[go_sem,jY,d1,rd6,q7,r7];exact f6.put (b:=w0.heap.size+2) _ fun h=>by omega
end R
namespace R
theorem leaf_cut (wd:Int)(k v:Bs):cutD wd (leafD wd k v)=leafD wd k v:=Wit.hcut_tdy wd _
theorem digest1 (w0:World)(ht:Tabs w0)(wd:Int){esv mv:Value}(he:RdD w0 esv (empts wd 257)){e:Bs × Bs}(hm:EnR w0 mv [e])(hl:e.2.length≤549755813888)(hn:n≤256) :
  Fn prog 100 #[.int .i64 wd,esv,mv,.int .i64 (n:Nat)] w0 fun v w'=>v=dg (climb wd e.1 0 (leafD wd e.1 e.2) ((empts wd 257).take (256 - n)))∧No w0 w':=by
 refine go100 (by simp) ?_;obtain⟨W,hW,f1,k1,s1⟩:=qQl w0 (bl (zV 32 0)) 75;obtain⟨b,o,cap,vv,rfl,hc,hk,hone,hby,hrd⟩:=(hm.fr0 f1).at (i:=0) (by simp);simp only[List.getElem_cons_zero]at hk hby hrd;have d1:(((([e]:List (Bs × Bs)).length:Nat):Int) == 0)=false:=rfl;have d2:(((([e]:List (Bs × Bs)).length:Nat):Int) == 1)=true:=rfl;have y1:(0:Int)≤0∧(0:Int)<((([e]:List (Bs × Bs)).length:Nat):Int):=by simp
 obtain⟨r1,r2,_⟩:=hrd W (Fr.refl _ _);obtain⟨r1d,r2d,_⟩:=hrd W.drew (Fr.refl _ _).drew;rw[jL,jA]at r1 r2 r1d r2d;simp -implicitDefEqProofs only[go_sem,jY,y7,gLa,gLz,Tryz.f100,jH,qQk,hW,d1,d2];refine qXf (fun j=>j == 9 || j == 10) (.one 0 (.one 1 (.one 2 (.one 3 (.one 4 (.one 5 (.one 6 (.one 7 (.one 8 (.two 9 (.row [10,11]) 10 (.row [9,11]))))))))))) rfl (by kernel_rfl) (by kernel_rfl) ?_;have ll:(leafD wd e.1 e.2).length=32:=qZd _ _ _;have lc:(climb wd e.1 0 (leafD wd e.1 e.2) ((empts wd 257).take (256 - n))).length=32:=qJv _ _ _ _ _ ll;have c1:IntKind.i64.wrap (256 - (n:Int))=((256 - n:Nat):Int):=qZj (a:=256) (by omega) (by omega);simp -implicitDefEqProofs only[go_sem,jY,jG,gLa,gLz,gLs,y1,and_self,vQ,jL,jA,r1d,r2d,bSe,OT.row,jH,qQk];constructor
 ·refine qQf pl144 ((leaf W.drew (ht.no f1.drew) wd hk (val:=e.2) (hby.fr0 (Fr.refl _ _).drew) hl).mono ?_)
  rintro _ w2 ⟨rfl,f2⟩;refine⟨fun _=>Fr.ext f2,?_⟩;have f12:No W w2:=(Fr.refl _ _).drew.trans f2;obtain⟨W3,q3,k3,f3,s3⟩:=A.allocD w2 (ty:=75) sz75 ll;have f13:=f12.trans f3;have f03:=f1.trans f13;obtain⟨r1,r2,_⟩:=hrd W3 f13;obtain⟨r1d,r2d,_⟩:=hrd W3.drew f13.drew;rw[jL,jA]at r1 r2 r1d r2d;have r3:=rd_d agg75 sz75 k3 ll;have r3d:rdO prog 75 W3.drew w2.heap.size 0=_:=r3;simp -implicitDefEqProofs only[go_sem,jY,jG,gLa,gLz,gLs,jH,qQk,q3,y1,and_self,vQ,jL,jA,r1d,r3d,c1,bSe];refine qQa pl141 ((climbWith W3.drew (ht.no f03.drew) wd (he.fr0 f03.drew) hk ll (n:=256 - n) (by omega)).mono ?_);rintro _ w4 ⟨rfl,f4⟩;rw[leaf_cut];have k4:=(f13.drew.trans f4).at k1 id;have q5:=wr_d sz75 k4 zl32 lc;have r5:=rd_d agg75 sz75 (qQd (o:=.cells (bl (climb wd e.1 0 (leafD wd e.1 e.2) ((empts wd 257).take (256 - n)))) 75 (0,0)) k4) lc;simp -implicitDefEqProofs only[go_sem,jY,q5,r5];exact (f03.drew.trans f4).put (b:=w0.heap.size) _ fun h=>by omega
 ·obtain⟨W2,hW2,f2,k2,s2⟩:=qQl W.drew (bl (zV 32 0)) 75
  simp only[hW2];have f12:No W W2:=(Fr.refl _ _).drew.trans f2;refine qQf pl144 ((leaf W2 (ht.no (f1.trans f12)) wd hk (val:=e.2) (hby.fr0 f12) hl).mono ?_);rintro _ w3' ⟨rfl,f3'⟩;refine⟨fun _=>Fr.ext f3',?_⟩;have k2':=f3'.at k2 id
  obtain⟨W3,q3,k3,f13⟩:∃ W3,wrO prog 75 w3' W.heap.size 0 (dg (leafD wd e.1 e.2))=some W3∧W3.heap[W.heap.size]?=some (.cells (bl (leafD wd e.1 e.2)) 75 (0,0))∧No W W3 :=
   ⟨_,wr_d sz75 k2' zl32 ll,qQd k2',(f12.trans f3').put (b:=W.heap.size) _ fun h=>absurd h (Nat.lt_irrefl _)⟩
  have f03:=f1.trans f13;obtain⟨r1,r2,_⟩:=hrd W3 f13;obtain⟨r1d,r2d,_⟩:=hrd W3.drew f13.drew;rw[jL,jA]at r1 r2 r1d r2d;have r3:=rd_d agg75 sz75 k3 ll;have r3d:rdO prog 75 W3.drew W.heap.size 0=_:=r3;simp -implicitDefEqProofs only[go_sem,jY,jG,gLa,gLz,gLs,q3,y1,and_self,vQ,jL,jA,r1d,r3d,c1];refine qQa pl141 ((climbWith W3.drew (ht.no f03.drew) wd (he.fr0 f03.drew) hk ll (n:=256 - n) (by omega)).mono ?_);rintro _ w4 ⟨rfl,f4⟩;rw[leaf_cut];have k4:=(f13.drew.trans f4).at k1 id;have q5:=wr_d sz75 k4 zl32 lc;have r5:=rd_d agg75 sz75 (qQd (o:=.cells (bl (climb wd e.1 0 (leafD wd e.1 e.2) ((empts wd 257).take (256 - n)))) 75 (0,0)) k4) lc;simp -implicitDefEqProofs only[go_sem,jY,q5,r5];exact (f03.drew.trans f4).put (b:=w0.heap.size) _ fun h=>by omega
end R
end Go.V
