/- Helpers. -/
import Derived.Test.YtppmpdjlmgfdkaaGreatDoorG28
import Derived.Test.YtppmpdjlmgfdkaaGreatDoorG10
set_option linter.all false
set_option maxRecDepth 100000
set_option maxHeartbeats 8000000
open List renaming getElem?_append_right→jB
open Nat renaming reduceEqDiff→jY,zero_add→zB,reduceBEq→jG,le_trans→y9,le_refl→xT
open Go.Value renaming cells→jH
namespace Go.V
open Go.Proofs.Tryz Go.V.Tryz
open Go.Proofs Sha
section
namespace A
open Aud
structure LkOk (u:World) (sb:Nat) (iv:Value) (s:Sup) (pg:Nat→Option Pg):Prop where
 tabs:Tabs u
 hsb:u.heap.size≤sb
 hiv:∀ b,qQg iv=some b→b<u.heap.size
 hm:s.mark≤4096
 hpg:∀ p,s.mark≤p→pg p=none
 hnd:∀ p n,pg p=some (.nd n)→2≤p∧n.right
 hrc:∀ p r,pg p=some (.rc r)→2≤p∧r.right∧r.sum.length=32
def ShM (u w:World)(b:Nat)(t:PT):Prop:=∃ mR mL rows lvs,w.heap[b]?=some (.cells #[.map (some mR),.map (some mL)] 155 (0,0))∧u.heap.size≤b∧u.heap.size≤mR∧u.heap.size≤mL∧Mp encR okR w mR rows∧Mp encK okK w mL lvs ∧
 (∀ key,findM rows key=enP (Aud.rowAt 0 Aud.zrow t key))∧∀ k,findM lvs k=enP (lfAt t k)
def VsM (u w:World)(vv:Value)(ts:List PT):Prop:=∃ ps:List Nat,NwR u w 156 1 vv (ps.map fun b=>[pt b 0])∧ps.length=ts.length∧∀ (i b:Nat) (t:PT),ps[i]?=some b→ts[i]?=some t→ShM u w b t
theorem ShM.fr {u w w':World}{b:Nat}{t:PT}{F:Nat→Prop}(h:ShM u w b t)(f:Fr F w w')(h1:∀ b c,w.heap[b]?=some (.cells c 155 (0,0))→¬ F b)(h2:∀ b es n,w.heap[b]?=some (.map es n)→¬ F b):ShM u w' b t:=by
 obtain⟨mR,mL,rows,lvs,a,hb,hR,hL,m1,m2,r1,r2⟩:=h;obtain⟨_,_,x1,_⟩:=id m1;obtain⟨_,_,x2,_⟩:=id m2;exact⟨mR,mL,rows,lvs,f.at a (h1 _ _ a),hb,hR,hL,m1.fr f (h2 _ _ _ x1),m2.fr f (h2 _ _ _ x2),r1,r2⟩
section
variable {u w w':World} {sb:Nat} {iv:Value} {im:Bs} {s:Sup} {mn mr:Nat} {cv vv fv bv:Value} {nl rl:List (Nat × Value)} {pg:Nat→Option Pg} {k:Nat} {fs:List (Nat × Int)}
theorem rcAt_len (ho:LkOk u sb iv s pg)(p:Nat):(rcAt pg p).sum.length=32:=by
 unfold rcAt;split
 ·rename_i r h;exact (ho.hrc _ _ h).2.2
 ·simp
theorem rec_look (h:SgM u w sb iv im s mn mr cv vv fv bv nl rl pg s.mark fs)(ho:LkOk u sb iv s pg)(p:Nat):∃ ok,lookO prog 69 w (.map (some mr)) (.int .i64 (p:Nat))=some (.agg (rcC (rcAt pg p)).toArray,ok):=by
 have lk:=h.rcs.look keyN (k:=p) trivial map69 (z:=.agg (rcC rc00).toArray) (by kernel_rfl);have hr:=h.ra p
 have hp:(if p<s.mark then pg p else none)=pg p:=by
  by_cases hl:p<s.mark
  ·rw[if_pos hl]
  ·rw[if_neg hl,ho.hpg p (by omega)]
 rw[hp]at hr;unfold rcAt;split at hr
 ·rename_i r e;rw[hr]at lk;rw[e];exact⟨_,lk⟩
 ·rename_i e
  rw[hr]at lk;split
  ·rename_i r e';exact absurd e' (e r)
  ·exact⟨_,lk⟩
end
theorem allocV (w:World):∃ W, (((w.alloc (.cells #[.map none, .map none] 155)).alloc (.map #[] 0)).alloc (.map #[] 0)).alloc (.cells #[.map (some (w.heap.size+1)), .map (some (w.heap.size+1+1))] 155)=W∧No w W ∧
  W.heap[w.heap.size]?=some (.cells #[.map none,.map none] 155 (0,0))∧W.heap[w.heap.size+1]?=some (.map #[] 0)∧W.heap[w.heap.size+2]?=some (.map #[] 0)∧W.heap[w.heap.size+3]?=some (.cells #[.map (some (w.heap.size+1)),.map (some (w.heap.size+1+1))] 155 (0,0))∧W.heap.size=w.heap.size+4:=by
 obtain⟨W1,h1,f1,k1,s1⟩:=qQl w #[.map none,.map none] 155;rw[h1];have f2:No W1 (W1.alloc (.map #[] 0)):=(Fr.refl _ _).alloc _;have k2:(W1.alloc (.map #[] 0)).heap[W1.heap.size]?=some (.map #[] 0):=qQb _ _;have s2:(W1.alloc (.map #[] 0)).heap.size=W1.heap.size+1:=qQc _ _;generalize W1.alloc (.map #[] 0)=W2 at *;have f3:No W2 (W2.alloc (.map #[] 0)):=(Fr.refl _ _).alloc _;have k3:(W2.alloc (.map #[] 0)).heap[W2.heap.size]?=some (.map #[] 0):=qQb _ _;have s3:(W2.alloc (.map #[] 0)).heap.size=W2.heap.size+1:=qQc _ _;generalize W2.alloc (.map #[] 0)=W3 at *;obtain⟨W4,h4,f4,k4,s4⟩:=qQl W3 #[.map (some (w.heap.size+1)),.map (some (w.heap.size+1+1))] 155;have e1:W1.heap.size=w.heap.size+1:=s1;have e2:W2.heap.size=w.heap.size+2:=by omega
 have e3:W3.heap.size=w.heap.size+3:=by omega
 rw[e1]at k2;rw[e2]at k3;rw[e3]at k4;exact⟨W4,h4,((f1.trans f2).trans f3).trans f4,f4.at (f3.at (f2.at k1 id) id) id,by rw[f4.blk (w.heap.size+1) (by omega) id,f3.blk (w.heap.size+1) (by omega) id];exact k2,by rw[f4.blk (w.heap.size+2) (by omega) id];exact k3,k4,by omega⟩
theorem maxOne (a:Nat):maxL (.int .i64 1) [.int .i64 (a:Nat)]=some (.int .i64 ((max 1 a:Nat):Int)):=by
 show some (Value.int IntKind.i64 (if (a:Int) > 1 then (a:Int) else 1))=_
 congr 2
 split <;> omega
theorem chAt_lt {u:World}{sb:Nat}{iv:Value}{s:Sup}{pg:Nat→Option Pg}(ho:LkOk u sb iv s pg)(i:Nat):chAt (chK pg s.mark) i<4096:=by
 unfold chAt;split
 ·omega
 ·rw[gDq]
  cases h:(chK pg s.mark)[i - 1]? with
  | none=>show 0<4096;omega
  | some x =>
   have hx:=List.mem_of_getElem? h;unfold chK at hx;have:=List.mem_range.1 (List.mem_filter.1 hx).1;have:=ho.hm;show x<4096;omega
theorem bldSh:bldO prog 155 []=some (.agg #[.map none,.map none]):=by
 unfold bldO;rw[zero155,places155];rfl
theorem bldSh2 (a b:Nat):bldO prog 155 [(0,.map (some a)),(1,.map (some b))]=some (.agg #[.map (some a),.map (some b)]):=by
 unfold bldO;rw[zero155,places155];rfl
theorem bldPa (sb ob nb f:Nat):bldO prog 213 [(0,pt sb 0),(1,pt ob 0),(2,pt nb 0),(3,.int .i64 (f:Nat))]=some (.agg #[pt sb 0,pt ob 0,pt nb 0,.int .i64 (f:Nat),.int .i64 0]):=by
 unfold bldO;rw[zero213,places213];rfl
structure LkM (u w:World) (sb:Nat) (iv:Value) (im:Bs) (s:Sup) (mn mr:Nat) (cv vv:Value) (nl rl:List (Nat × Value)) (pg:Nat→Option Pg) (fs:List (Nat × Int)) (ts:List PT):Prop where
 sg:∃ fv bv,SgM u w sb iv im s mn mr cv vv fv bv nl rl pg s.mark fs∧Blank u w s.width bv
 no:No u w
 vs:VsM u w vv ts
def ErrL (u:World)(sb:Nat)(iv:Value)(im:Bs)(s:Sup)(mn mr:Nat)(cv vv:Value)(nl rl:List (Nat × Value))(pg:Nat→Option Pg)(fs:List (Nat × Int))(w:World):Prop :=
 No u w∧∃ fv bv,SgM u w sb iv im s mn mr cv vv fv bv nl rl pg s.mark fs∧Blank u w s.width bv
section
variable {u w w':World} {sb:Nat} {iv:Value} {im:Bs} {s:Sup} {mn mr:Nat} {cv vv fv bv:Value} {nl rl:List (Nat × Value)} {pg:Nat→Option Pg} {k:Nat} {fs:List (Nat × Int)} {ts:List PT}
theorem VsM.fr0 (h:VsM u w vv ts)(f:No w w'):VsM u w' vv ts:=by
 obtain⟨ps,a,b,c⟩:=h;exact⟨ps,a.fr0 f,b,fun i b' t h1 h2=>(c i b' t h1 h2).fr f (fun _ _ _ h=>h) fun _ _ _ _ h=>h⟩
theorem LkM.fr0 (h:LkM u w sb iv im s mn mr cv vv nl rl pg fs ts)(f:No w w'):LkM u w' sb iv im s mn mr cv vv nl rl pg fs ts:=by
 obtain⟨fv,bv,hs,hb⟩:=h.sg;exact⟨⟨fv,bv,hs.fr0 f,hb.fr f fun _ _ _ _ _ h=>h⟩,h.no.trans f,h.vs.fr0 f⟩
theorem errFind (h0:ErrL u sb iv im s mn mr cv vv nl rl pg fs w)(ho:LkOk u sb iv s pg)(hf:fs.length≤2 ^ 20)(p:Nat)(e:Int):Fn prog 44 #[pt sb 0,.int .i64 (p:Nat),.int .i64 e] w fun v w'=>v=.tuple #[]∧ErrL u sb iv im s mn mr cv vv nl rl pg (fs++[(p,e)]) w':=by
 obtain⟨hno,fv,bv,hs,hb⟩:=h0;have hfn:=hs.fnd;refine (sight_find hs hno.size ho.hiv p e hf).mono ?_;rintro v w' ⟨rfl,f,fv',hs'⟩
 have hfb:∀ {b},FvB sb fv b→u.heap.size≤b:=fun {b} hb=>by
  rcases hb with rfl | hb
  ·exact hs.hsb
  ·exact hfn.2.new b hb
 refine⟨rfl,hno.trans' f fun b hb' e=>by have:=hfb e;omega,fv',bv,hs',hb.fr f fun b c' hb' _ _ e=>?_⟩
 rcases e with rfl | e
 ·rw[hs.row]at hb';cases hb'
 ·obtain⟨c'',hc''⟩:=qXg hfn e;rw[hb']at hc'';cases hc''
end
def V2 (w0:World)(sb i p first:Nat)(r:Rc)(x0 x1 x5 x6 x7:Value)(w:World):Prop :=
 x0=pt sb 0∧x1=.int .i64 (i:Nat)∧x5=.int .i64 (p:Nat)∧x7=.int .i64 (first:Nat)∧x6=pt w0.heap.size 0∧w.heap[w0.heap.size]?=some (.cells (rcC r).toArray 80 (0,0))∧No w0 w
section
variable {u w w':World} {sb:Nat} {iv:Value} {im:Bs} {s:Sup} {mn mr:Nat} {cv vv fv bv:Value} {nl rl:List (Nat × Value)} {pg:Nat→Option Pg} {k:Nat} {fs:List (Nat × Int)}
def V9 (u w0:World)(sb i p:Nat)(r:Rc)(x0 x1 x5 x6 x9:Value)(pb ob nb nR nL fresh next:Nat)(oR oL:Option Nat)(w:World):Prop :=
 x0=pt sb 0∧x1=.int .i64 (i:Nat)∧x5=.int .i64 (p:Nat)∧x6=pt w0.heap.size 0∧x9=pt pb 0∧w.heap[pb]?=some (.cells #[pt sb 0,pt ob 0,pt nb 0,.int .i64 (fresh:Nat),.int .i64 (next:Nat)] 213 (0,0))∧w.heap[ob]?=some (.cells #[.map oR,.map oL] 155 (0,0)) ∧
  w.heap[nb]?=some (.cells #[.map (some nR),.map (some nL)] 155 (0,0))∧w.heap[nR]?=some (.map #[] 0)∧w.heap[nL]?=some (.map #[] 0)∧w.heap[w0.heap.size]?=some (.cells (rcC r).toArray 80 (0,0))∧No w0 w∧w0.heap.size≤pb∧w0.heap.size≤nb∧w0.heap.size≤nR∧w0.heap.size≤nL∧nR≠nL∧nb≠ob
def OldM (w0 w:World)(t:PT)(oR oL:Option Nat)(ro:List (RK × Value))(lo:List (Bs × Value)):Prop :=
 MpO encR okR w oR ro∧MpO encK okK w oL lo∧(∀ key,findM ro key=enP (Aud.rowAt 0 Aud.zrow t key))∧(∀ k,findM lo k=enP (lfAt t k))∧(∀ b,oR=some b→b<w0.heap.size)∧∀ b,oL=some b→b<w0.heap.size
def VsR (u:World)(sb:Nat)(iv:Value)(im:Bs)(s:Sup)(mn mr:Nat)(cv vv:Value)(nl rl:List (Nat × Value))(pg:Nat→Option Pg)(fs:List (Nat × Int))(ts:List PT)(r:Except (Nat × Int) PT)(v:Value)(w:World):Prop :=
 match r with
 | .ok t=>v=.bool true∧∃ vv',LkM u w sb iv im s mn mr cv vv' nl rl pg fs (ts++[t])
 | .error e=>v=.bool false∧ErrL u sb iv im s mn mr cv vv nl rl pg (fs++[e]) w
def ahead (ts:List PT):PT:=ts.getLastD .nil
theorem version {ts:List PT}(hL:LkM u w sb iv im s mn mr cv vv nl rl pg fs ts)(ho:LkOk u sb iv s pg)(hfs:fs.length≤2 ^ 20){i:Nat}(hi:i=ts.length+1)(hi2:i≤4096)(h1:(rcAt pg (chAt (chK pg s.mark) 1)).first≤2 ^ 30)
  (how:(ahead ts).Wf 0) (hos:Stands (dgT s.width) (pnOf pg) 0 (ahead ts)) (hol:(ahead ts).page<max 1 (chAt (chK pg s.mark) (i - 1))+1) :
  Fn prog 82 #[pt sb 0,.int .i64 (i:Nat)] w fun v w'=>VsR u sb iv im s mn mr cv vv nl rl pg fs ts (verP s.width pg (chK pg s.mark) i (ahead ts)) v w':=by
 refine go82 (by simp) ?_;generalize hch:chK pg s.mark=ch at *;obtain⟨fv,bv,h,hbl⟩:=hL.sg;simp -implicitDefEqProofs only[go_sem,jY,zB,Tryz.f82];refine qQa pl66 ((qJk h (i:=i) (by omega)).mono ?_);rintro _ w1 ⟨e1,rfl⟩;rw[e1,hch];simp -implicitDefEqProofs only[go_sem];refine qXc (Q:=fun e ev w1=>e=.normal∧V2 w sb i (chAt ch i) (rcAt pg (chAt ch 1)).first (rcAt pg (chAt ch i)) (ev 0) (ev 1) (ev 5) (ev 6) (ev 7) w1) _ (fun e ev w1=>?_) ?_
 ·rintro⟨rfl,hV⟩
  rw[thenQ_normal];have hok:((rcAt pg (chAt ch i)).first=(rcAt pg (chAt ch 1)).first∧(rcAt pg (chAt ch i)).ver=(if 0<(rcAt pg (chAt ch 1)).first then (rcAt pg (chAt ch 1)).first+i - 1 else i)∧(rcAt pg (chAt ch i)).prev=chAt ch (i - 1)∧(rcAt pg (chAt ch i)).skip=chAt ch (far i))→verP s.width pg ch i (ahead ts)=root1 s.width (pnOf pg) (max 1 (chAt ch (i - 1))+1) (ahead ts) (chAt ch i) (rcAt pg (chAt ch i)):=fun h=>if_pos h;have hno:¬ ((rcAt pg (chAt ch i)).first=(rcAt pg (chAt ch 1)).first∧(rcAt pg (chAt ch i)).ver=(if 0<(rcAt pg (chAt ch 1)).first then (rcAt pg (chAt ch 1)).first+i - 1 else i)∧(rcAt pg (chAt ch i)).prev=chAt ch (i - 1)∧(rcAt pg (chAt ch i)).skip=chAt ch (far i))→verP s.width pg ch i (ahead ts)=.error (chAt ch i,173):=fun h=>if_neg h;generalize hfi:(rcAt pg (chAt ch 1)).first=first at *;generalize hrr:rcAt pg (chAt ch i)=r at *;have rsl:r.sum.length=32:=by rw[← hrr];exact rcAt_len ho _
  refine qXx (fun ev w1=>V2 w sb i (chAt ch i) first r (ev 0) (ev 1) (ev 5) (ev 6) (ev 7) w1∧ev 8=.int .i64 (i:Nat)) ?_ ?_
  ·obtain⟨e0,x1,e5,e7,e6,k,f⟩:=hV
   simp -implicitDefEqProofs only[go_sem,jY,x1];exact And.intro ⟨by first | rfl | assumption,by first | rfl | assumption,by first | rfl | assumption,by first | rfl | assumption,by first | rfl | assumption,k,f⟩ trivial
  clear hV;rintro ev w1 ⟨hV,e8⟩;refine qXx (fun ev w1=>V2 w sb i (chAt ch i) first r (ev 0) (ev 1) (ev 5) (ev 6) (ev 7) w1∧ev 8=.int .i64 ((if 0<first then first+i - 1 else i:Nat):Int)) ?_ ?_
  ·obtain⟨e0,x1,e5,e7,e6,k,f⟩:=hV
   have lt0:decide ((first:Int) > 0)=decide (0<first):=by simp
   by_cases hf:0<first
   ·rw[decide_eq_true hf]at lt0
    have a1:IntKind.i64.wrap ((first:Int)+(i:Int))=((first+i:Nat):Int):=qXi (b:=i);have a2:IntKind.i64.wrap (((first+i:Nat):Int) - 1)=((first+i - 1:Nat):Int):=qZj (b:=1) (by omega) (by omega);simp -implicitDefEqProofs only[go_sem,jY,e7,x1,lt0,a1,a2];rw[if_pos hf];exact⟨⟨by first | rfl | assumption,by first | rfl | assumption,by first | rfl | assumption,by first | rfl | assumption,by first | rfl | assumption,k,f⟩,rfl⟩
   ·rw[decide_eq_false hf]at lt0
    simp -implicitDefEqProofs only[go_sem,jY,e7,lt0];rw[if_neg hf];exact⟨⟨by first | rfl | assumption,by first | rfl | assumption,by first | rfl | assumption,by first | rfl | assumption,by first | rfl | assumption,k,f⟩,e8⟩
  clear hV e8;rintro ev w1 ⟨hV,e8⟩;generalize hnum:(if 0<first then first+i - 1 else i)=num at *;simp -implicitDefEqProofs only[go_sem];refine qXc (Q:=fun e ev w1=>e=.normal∧V2 w sb i (chAt ch i) first r (ev 0) (ev 1) (ev 5) (ev 6) (ev 7) w1∧ev 63=.bool (!decide (r.first=first∧r.ver=num∧r.prev=chAt ch (i - 1)∧r.skip=chAt ch (far i)))) _ (fun e ev w1=>?_) ?_
  ·rintro⟨rfl,hV,e63⟩
   rw[thenQ_normal];obtain⟨e0,x1,e5,e7,e6,k,f⟩:=hV;have hL1:=hL.fr0 f
   by_cases hc:r.first=first∧r.ver=num∧r.prev=chAt ch (i - 1)∧r.skip=chAt ch (far i)
   case neg =>
    rw[hno hc];rw[decide_eq_false hc]at e63;have e63:ev 63=.bool true:=e63;simp -implicitDefEqProofs only[go_sem,jY,e63,e0,e5];refine qQa pl44 ((errFind ⟨hL1.no,hL1.sg⟩ ho hfs (chAt ch i) 173).mono ?_);rintro _ w9 ⟨rfl,e9⟩;simp -implicitDefEqProofs only[go_sem];exact⟨rfl,e9⟩
   rw[hok hc];rw[decide_eq_true hc]at e63;have e63:ev 63=.bool false:=e63;clear hok hno hc hnum e8;have hwi:IntKind.i64.wrap ((i:Int) - 1)=((i - 1:Nat):Int):=qZj (b:=1) (by omega) (by omega);generalize hp:chAt ch i=p at *;have hp4:p<4096:=by rw[← hp,← hch];exact chAt_lt ho _
   generalize hpp:chAt ch (i - 1)=pp at *;have hpp4:pp<4096:=by rw[← hpp,← hch];exact chAt_lt ho _
   generalize hfr:max 1 pp+1=fresh at *;refine qXc (Q:=fun e ev' w'=>e=.normal∧ev'=ev∧w'=w1) _ (fun e ev' w'=>?_) ?_
   ·rintro⟨rfl,rfl,rfl⟩
    rw[thenQ_normal];refine qXx (fun ev w5=>∃ pb ob nb nR nL,V9 u w sb i p r (ev 0) (ev 1) (ev 5) (ev 6) (ev 9) pb ob nb nR nL fresh 0 none none w5∧LkM u w5 sb iv im s mn mr cv vv nl rl pg fs ts) ?_ ?_
    ·have bsh:=bldSh
     have bsh2:=bldSh2 (w'.heap.size+1) (w'.heap.size+1+1);obtain⟨W4,hW4,f4,a1,a2,a3,a4,s4⟩:=allocV w';simp -implicitDefEqProofs only[go_sem,jY,jH,e0,x1,bsh,bsh2,hW4,hwi];have hL4:=hL1.fr0 f4;obtain⟨fv4,bv4,h4,hb4⟩:=hL4.sg;refine qQa pl66 ((qJk h4 (i:=i - 1) (by omega)).mono ?_);rintro _ w5 ⟨e5',rfl⟩;rw[e5',hch,hpp];have hmx:=maxOne pp;have wf:IntKind.i64.wrap (((max 1 pp:Nat):Int)+1)=(fresh:Int):=by rw[← hfr];exact qXi (b:=1)
     have bpa:=bldPa sb w'.heap.size (w'.heap.size+1+1+1) fresh;obtain⟨W5,hW5,f5,a5,s5⟩:=qQl W4 #[pt sb 0,pt w'.heap.size 0,pt (w'.heap.size+1+1+1) 0,.int .i64 (fresh:Nat),.int .i64 0] 213;have hw:=qQh k;simp -implicitDefEqProofs only[go_sem,jY,jH,hmx,wf,bpa,hW5];exact⟨W4.heap.size,w'.heap.size,w'.heap.size+3,w'.heap.size+1,w'.heap.size+2,⟨by first | rfl | assumption,by first | rfl | assumption,by first | rfl | assumption,by first | rfl | assumption,rfl,a5,f5.at a1 id,f5.at a4 id,(f5.blk _ (qQh a2) id).trans a2,(f5.blk _ (qQh a3) id).trans a3,f5.at (f4.at k id) id,(f.trans f4).trans f5,by omega,by omega,by omega,by omega,by omega,by omega⟩,hL4.fr0 f5⟩
    clear e0 x1 e5 e7 e6 k f hL1 e63;rintro ev w5 ⟨pb,ob,nb,nR,nL,⟨e0,x1,e5,e6,e9,kp,ko,kn,kR,kL,k,f,lp,ln,lR,lL,nRL,nbo⟩,hL5⟩;refine qXx (fun ev w5=>∃ ob oR oL ro lo,V9 u w sb i p r (ev 0) (ev 1) (ev 5) (ev 6) (ev 9) pb ob nb nR nL fresh 0 oR oL w5∧LkM u w5 sb iv im s mn mr cv vv nl rl pg fs ts∧OldM w w5 (ahead ts) oR oL ro lo) ?_ ?_
    ·by_cases h1i:1<i
     ·have lt1:=dTo ((i:Int) > 1)
      have wi2:IntKind.i64.wrap ((i:Int) - 2)=((i - 2:Nat):Int):=qZj (b:=2) (by omega) (by omega);obtain⟨ps,hps,hpl,hsh⟩:=id hL.vs;obtain⟨fv5,bv5,h5,hb5⟩:=hL5.sg;have rv:rdO prog 70 w5 sb 9=some vv:=rd1 agg70 h5.row rfl;have hrd:=(hps.fr0 f).rd;have hplen:(ps.map fun b=>[pt b 0]).length=ts.length:=by rw[List.length_map];exact hpl
      obtain⟨vb,vo,vcap,hve,_⟩:=hrd.pos (by decide) (by rw[hplen];omega);have hj:i - 2<ps.length:=by omega
      have rpt:rdO prog 156 w5 vb (vo+(i - 2))=some (pt (ps[i - 2]) 0):=by
       rw[hve]at hrd;have:=hrd.fld (P:=prog) (t:=156) agg156 (i:=i - 2) (by rw[hplen];omega) (j:=0) (by decide) (x:=pt (ps[i - 2]) 0) (by simp only[List.getElem_map,List.getElem?_cons_zero]);rw[Nat.mul_one,Nat.add_zero]at this;exact this
      rw[hplen]at hve
      have hah:ts[i - 2]?=some (ahead ts):=by
       unfold ahead;rw[List.getLastD_eq_getLast?,List.getLast?_eq_getElem?,show ts.length - 1=i - 2 by omega]
       cases hx:ts[i - 2]? with
       | none=>rw[List.getElem?_eq_none_iff]at hx;omega
       | some x=>rfl
      obtain⟨mR,mL,ro,lo,s1,s2,s3,s4,s5,s6,s7,s8⟩:=hsh (i - 2) (ps[i - 2]) (ahead ts) (List.getElem?_eq_getElem hj) hah;generalize ps[i - 2]=ob2 at *;have y1:(0:Int)≤((i - 2:Nat):Int)∧((i - 2:Nat):Int)<(ts.length:Int):=by omega
      have q:=wr1 (P:=prog) (t:=156) (w:=w5) (b:=pb) (o:=1) (v:=pt ob2 0) sz156 rfl kp (show 1<5 by decide);rw[hve]at rv;simp -implicitDefEqProofs only[go_sem,jY,zB,x1,lt1,e0,e9,rv,wi2,y1,and_self,if_true,iTn,Nat.mul_one,rpt,q];have lob2:=qQh s1;have fq:Fr (fun b=>b=pb) w5 (put w5 pb (.cells (#[pt sb 0,pt ob 0,pt nb 0,.int .i64 (fresh:Nat),.int .i64 (0:Nat)].setIfInBounds 1 (pt ob2 0)) 213 (0,0))):=(Fr.refl _ _).put (b:=pb) _ (fun _=>rfl);have kp':=qQd (o:=.cells (#[pt sb 0,pt ob 0,pt nb 0,.int .i64 (fresh:Nat),.int .i64 (0:Nat)].setIfInBounds 1 (pt ob2 0)) 213 (0,0)) kp;have fq':No w (put w5 pb (.cells (#[pt sb 0,pt ob 0,pt nb 0,.int .i64 (fresh:Nat),.int .i64 (0:Nat)].setIfInBounds 1 (pt ob2 0)) 213 (0,0))):=f.put (b:=pb) _ fun h=>by omega
      have nbe:nb≠pb:=fun e=>by rw[e,kp]at kn;cases kn
      have nRe:nR≠pb:=fun e=>by rw[e,kp]at kR;cases kR
      have nLe:nL≠pb:=fun e=>by rw[e,kp]at kL;cases kL
      have wpe:w.heap.size≠pb:=fun e=>by rw[e,kp]at k;cases k
      refine⟨ob2,some mR,some mL,ro,lo,⟨by first | rfl | assumption,by first | rfl | assumption,by first | rfl | assumption,by first | rfl | assumption,by first | rfl | assumption,kp',fq'.at s1 id,fq.at kn nbe,(fq.blk _ (qQh kR) nRe).trans kR,(fq.blk _ (qQh kL) nLe).trans kL,fq.at k wpe,fq',lp,ln,lR,lL,nRL,by omega⟩,hL.fr0 fq',s5.fr0 fq',s6.fr0 fq',s7,s8,?_,?_⟩
      ·intro b hb;cases hb;obtain⟨_,_,x,_⟩:=s5;exact qQh x
      ·intro b hb;cases hb;obtain⟨_,_,x,_⟩:=s6;exact qQh x
     ·have lt1:=dFo ((i:Int) > 1)
      simp -implicitDefEqProofs only[go_sem,jY,x1,lt1];refine⟨ob,none,none,[],[],⟨by first | rfl | assumption,by first | rfl | assumption,by first | rfl | assumption,by first | rfl | assumption,by first | rfl | assumption,kp,ko,kn,kR,kL,k,f,lp,ln,lR,lL,nRL,nbo⟩,hL5,?_⟩;have:ts=[]:=List.length_eq_zero_iff.1 (by omega);rw[this];exact⟨rfl,rfl,fun _=>rfl,fun _=>rfl,(fun _ h=>by cases h),fun _ h=>by cases h⟩
    clear e0 x1 e5 e6 e9 kp ko kn kR kL k f lp ln lR lL nRL nbo hL5 ob;rintro ev w5 ⟨ob,oR,oL,ro,lo,⟨e0,x1,e5,e6,e9,kp,ko,kn,kR,kL,k,f,lp,ln,lR,lL,nRL,nbo⟩,hL5,hO⟩;refine qXx (fun ev w5=>V9 u w sb i p r (ev 0) (ev 1) (ev 5) (ev 6) (ev 9) pb ob nb nR nL fresh fresh oR oL w5∧LkM u w5 sb iv im s mn mr cv vv nl rl pg fs ts∧OldM w w5 (ahead ts) oR oL ro lo) ?_ ?_
    ·have r3:rdO prog 3 w5 pb 3=some (.int .i64 (fresh:Nat)):=rd1 agg3 kp rfl
     have q:=wr1 (P:=prog) (t:=3) (w:=w5) (b:=pb) (o:=4) (v:=.int .i64 (fresh:Nat)) sz3 rfl kp (show 4<5 by decide);have fq:Fr (fun b=>b=pb) w5 (put w5 pb (.cells (#[pt sb 0,pt ob 0,pt nb 0,.int .i64 (fresh:Nat),.int .i64 (0:Nat)].setIfInBounds 4 (.int .i64 (fresh:Nat))) 213 (0,0))):=(Fr.refl _ _).put (b:=pb) _ (fun _=>rfl);have kp':=qQd (o:=.cells (#[pt sb 0,pt ob 0,pt nb 0,.int .i64 (fresh:Nat),.int .i64 (0:Nat)].setIfInBounds 4 (.int .i64 (fresh:Nat))) 213 (0,0)) kp;have fq':No w (put w5 pb (.cells (#[pt sb 0,pt ob 0,pt nb 0,.int .i64 (fresh:Nat),.int .i64 (0:Nat)].setIfInBounds 4 (.int .i64 (fresh:Nat))) 213 (0,0))):=f.put (b:=pb) _ fun h=>by omega
     simp -implicitDefEqProofs only[go_sem,jY,zB,e9,r3,q];have nbe:nb≠pb:=fun e=>by rw[e,kp]at kn;cases kn
     have obe:ob≠pb:=fun e=>by rw[e,kp]at ko;cases ko
     have nRe:nR≠pb:=fun e=>by rw[e,kp]at kR;cases kR
     have nLe:nL≠pb:=fun e=>by rw[e,kp]at kL;cases kL
     have wpe:w.heap.size≠pb:=fun e=>by rw[e,kp]at k;cases k
     obtain⟨o1,o2,o3,o4,o5,o6⟩:=hO;exact⟨⟨by first | rfl | assumption,by first | rfl | assumption,by first | rfl | assumption,by first | rfl | assumption,by first | rfl | assumption,kp',fq.at ko obe,fq.at kn nbe,(fq.blk _ (qQh kR) nRe).trans kR,(fq.blk _ (qQh kL) nLe).trans kL,fq.at k wpe,fq',lp,ln,lR,lL,nRL,nbo⟩,hL.fr0 fq',o1.fr fq fun b hb=>by have:=o5 b hb;omega,o2.fr fq fun b hb=>by have:=o6 b hb;omega,o3,o4,o5,o6⟩
    clear e0 x1 e5 e6 e9 kp ko kn kR kL k f lp ln lR lL nRL nbo hL5 hO;rintro ev w5 ⟨⟨e0,x1,e5,e6,e9,kp,ko,kn,kR,kL,k,f,lp,ln,lR,lL,nRL,nbo⟩,hL5,hO⟩;obtain⟨o1,o2,o3,o4,o5,o6⟩:=hO;obtain⟨fv5,bv5,h5,hb5⟩:=hL5.sg;obtain⟨_,_,m1,_⟩:=h.nds;obtain⟨_,_,m2,_⟩:=h.rcs;have lmn:=qQh m1;have lmr:=qQh m2;have hu:=hL.no.size
    obtain⟨c,hcd⟩:∃ c:Cx,c={ u:=u,sb:=sb,iv:=iv,im:=im,s:=s,mn:=mn,mr:=mr,cv:=cv,vv:=vv,nl:=nl,rl:=rl,pg:=pg,pb:=pb,ob:=ob,nb:=nb,oR:=oR,oL:=oL,ro:=ro,lo:=lo,nR:=nR,nL:=nL,fresh:=fresh,fs:=fs }:=⟨_,rfl⟩
    have hk:c.Ok:=by
     subst hcd;exact { tabs:=ho.tabs,hRL:=nRL,hRn:=⟨by show nR≠mn;omega,by show nR≠mr;omega⟩,hLn:=⟨by show nL≠mn;omega,by show nL≠mr;omega⟩,hoR:=fun b hb=>by have:=o5 b hb;exact⟨by show b≠nR;omega,by show b≠nL;omega⟩,hoL:=fun b hb=>by have:=o6 b hb;exact⟨by show b≠nR;omega,by show b≠nL;omega⟩,hpb:=by show u.heap.size≤pb;omega,hsb:=ho.hsb,hnR:=by show u.heap.size≤nR;omega,hnL:=by show u.heap.size≤nL;omega,hiv:=ho.hiv,hm:=ho.hm,hpg:=ho.hpg,hnd:=ho.hnd,hf:=by show fresh≤4096;omega,hfs:=hfs }
    have hP:PassM c w5 fresh [] []:=by
     subst hcd;exact⟨⟨fv5,bv5,h5,hb5⟩,kp,ko,kn,o1,o2,Mp.new kR,Mp.new kL,hL5.no⟩
    have hT:OldT c (ahead ts):=by subst hcd;exact⟨o3,o4⟩
    have hH:Here c (ahead ts) 0 Aud.zrow true (ahead ts):=by
     subst hcd;exact⟨by omega,row0,how,hos,hol,Pos.root _,fun _ _=>Nat.zero_le _⟩
    have t4:rdO prog 3 w5 w.heap.size 4=some (.int .i64 (r.root:Nat)):=rd1 agg3 k rfl;have t5:rdO prog 3 w5 w.heap.size 5=some (.int .i64 (r.count:Nat)):=rd1 agg3 k rfl;have t6:∀ W:World,W.heap[w.heap.size]?=some (.cells (rcC r).toArray 80 (0,0))→rdO prog 75 W w.heap.size 6=some (dg r.sum):=fun W k=>qJg (e:=80) (fz:=(0,0)) (a:=[.int .i64 (r.ver:Nat),.int .i64 (r.first:Nat),.int .i64 (r.prev:Nat),.int .i64 (r.skip:Nat),.int .i64 (r.root:Nat),.int .i64 (r.count:Nat)]) (m:=r.sum.map u8) (r:=[]) agg75 (by simp[rsl];exact sz75) (by simp[rsl]) (by rw[k,rcC,List.append_nil]) rfl;unfold root1;generalize hres:(if r.root=0 then (if r.sum=emptD s.width 256 then .ok (.nil,fresh) else .error (p,171)) else thr s.width (pnOf pg) fresh (r.root+1) 0 true (ahead ts) Aud.zrow r.root p r.count r.sum fresh:Except (Nat × Int) (PT × Nat))=res;refine qXx (fun ev w6=>∃ t m rows lvs,res=.ok (t,m)∧ev 0=pt sb 0∧ev 5=.int .i64 (p:Nat)∧ev 9=pt pb 0∧PassM c w6 m rows lvs∧RowsIn 0 Aud.zrow t [] rows∧LvsIn t [] lvs∧Fr (PaB c) w5 w6) ?_ ?_
    ·have nz:((r.root:Int) == 0)=decide (r.root=0):=nateq r.root 0
     by_cases hz:r.root=0
     ·rw[decide_eq_true hz]at nz
      rw[if_pos hz]at hres;simp -implicitDefEqProofs only[go_sem,zB,e6,t4,nz];refine qXc (Q:=fun e ev w6=>e=.normal∧ev 0=pt sb 0∧ev 5=.int .i64 (p:Nat)∧ev 9=pt pb 0∧ev 109=.bool (!(r.sum == emptD s.width 256))∧PassM c w6 fresh [] []∧Fr (PaB c) w5 w6) _ (fun e ev w6=>?_) ?_
      ·rintro⟨rfl,e0,e5,e9,e109,hP6,f6⟩
       rw[thenQ_normal]
       by_cases hsum:r.sum=emptD s.width 256
       ·rw[beq_iff_eq.2 hsum]at e109
        have e109:ev 109=.bool false:=e109;rw[if_pos hsum]at hres;simp -implicitDefEqProofs only[go_sem,e109];exact⟨.nil,fresh,[],[],hres.symm,e0,e5,e9,hP6,RowsIn.nil 0 Aud.zrow [],LvsIn.nil [],f6⟩
       ·rw[beq_eq_false_iff_ne.2 hsum]at e109
        have e109:ev 109=.bool true:=e109;rw[if_neg hsum]at hres;simp -implicitDefEqProofs only[go_sem,jY,e109,e0,e5];have hfd:=hP6.find hk p 171;have hcs:c.sb=sb:=by subst hcd;rfl
        rw[hcs]at hfd;refine qQa pl44 (hfd.mono ?_);rintro _ w9 ⟨rfl,e9⟩;simp -implicitDefEqProofs only[go_sem];rw[← hres];subst hcd;exact⟨rfl,e9⟩
      ·refine qXf (fun _=>false) (.one 0 (.one 2 (.two 1 (.row [3,4]) 3 (.row [1,4])))) rfl (by kernel_rfl) (by kernel_rfl) ?_
       have hP1:=hP.drew;have k1:w5.drew.heap[w.heap.size]?=_:=k;have fd:Fr (PaB c) w5 w5.drew:=(Fr.refl _ _).drew;generalize w5.drew=W1 at *;obtain⟨fvx,bvx,hsx,_,hSR⟩:=hP1.srow;have hcs:c.sb=sb:=by subst hcd;rfl
       have hcw:c.s.width=s.width:=by subst hcd;rfl
       have hbare:=bareS (hk.tabs.fr hP1.no fun _ _ h=>h) hP1.no.size (y9 hk.tabs.size hk.hsb) hSR (fun _ h=>h.elim) (h:=256) (by omega);rw[hcs,hcw]at hbare;have r1:=t6 W1 k1;have es:=eqDig rsl (qQu s.width 256);have lsb:sb<w.heap.size:=qQh h.row
       have fin:∀ {w6},Fr (fun b=>b=sb) W1 w6→SRow c.u w6 sb c.iv c.s c.mn c.mr c.cv c.vv fvx (fun _=>False)→PassM c w6 fresh [] []∧Fr (PaB c) w5 w6∧w6.heap[w.heap.size]?=some (.cells (rcC r).toArray 80 (0,0)):=fun {w6} f6 hr6=>by
        rw[← hcs]at f6 hr6;exact⟨hP1.dig hk hsx f6 hr6,fd.trans (f6.mono fun _ _ e=>.inl e),f6.at k1 fun e=>by rw[hcs]at e;omega⟩
       simp -implicitDefEqProofs only[go_sem,jY,gLa,gLz,gLs,zB,OT.row,e0,e6,r1];refine⟨?_,?_⟩
       ·refine qQf pl125 (hbare.mono ?_);rintro _ w6 ⟨rfl,f6,hr6⟩
        refine⟨(fun h=>by cases h),?_⟩;obtain⟨a,b,k6⟩:=fin f6 hr6;have r6:=t6 w6 k6;simp -implicitDefEqProofs only[go_sem,jY,gLa,gLz,gLs,es,eqg75];exact⟨by first | rfl | assumption,by first | rfl | assumption,by first | rfl | assumption,a,b⟩
       ·refine qQf pl125 (hbare.mono ?_);rintro _ w6 ⟨rfl,f6,hr6⟩
        refine⟨(fun h=>by cases h),?_⟩;obtain⟨a,b,k6⟩:=fin f6 hr6;have r6:=t6 w6 k6;simp -implicitDefEqProofs only[go_sem,jY,gLa,gLz,gLs,r6,es,eqg75];exact⟨by first | rfl | assumption,by first | rfl | assumption,by first | rfl | assumption,a,b⟩
     ·rw[decide_eq_false hz]at nz
      rw[if_neg hz]at hres;have bs:=bldSt (page:=r.root) (by':=p) (count:=r.count) rsl;have bz:bldO prog 158 []=some (.agg (rwC 0 Aud.zrow).toArray):=by unfold bldO;rw[zero158,places158];kernel_rfl
      have t6:=t6 w5 k;simp -implicitDefEqProofs only[go_sem,jY,zB,e5,e6,e9,t4,t5,t6,nz,bs,bz];rw[thr_fuel (g:=257) (.inl (by omega)) (by omega) (by omega)]at hres;have hth:=through hk hT 257 0 rfl r.root p r.count hP hH (by subst hcd;exact xT _) (by omega) rsl;have hcp:c.pb=pb:=by subst hcd;rfl
      have hce:thr c.s.width (ndsP c.pg) c.fresh 257 0 true (ahead ts) Aud.zrow r.root p r.count r.sum fresh=res:=by subst hcd;exact hres
      rw[hcp,hce]at hth;refine qQa pl126 (hth.mono ?_);rintro x w6 hq
      cases res with
      | error e =>
       obtain⟨rfl,hq⟩:=hq;simp -implicitDefEqProofs only[go_sem,Bool.not_false];subst hcd;exact⟨rfl,hq⟩
      | ok y =>
       obtain⟨t,m⟩:=y;obtain⟨rfl,f6,rows6,lvs6,h6,rr,ll⟩:=hq;simp -implicitDefEqProofs only[go_sem,jY,Bool.not_true];exact⟨t,m,rows6,lvs6,rfl,by first | rfl | assumption,by first | rfl | assumption,by first | rfl | assumption,h6,rr,ll,f6⟩
    clear e0 x1 e5 e6 e9 hP;rintro ev w6 ⟨t,m,rows,lvs,rfl,e0,e5,e9,hP,rr,ll,f6⟩;subst hcd;have rn:rdO prog 3 w6 pb 4=some (.int .i64 (m:Nat)):=rd1 agg3 hP.pass rfl;have nm:=natne m p
    by_cases hm:m=p
    case neg =>
     rw[decide_eq_true hm]at nm;simp -implicitDefEqProofs only[go_sem,jY,zB,e0,e5,e9,rn,nm];refine qQa pl44 ((hP.find hk m 172).mono ?_);rintro _ w9 ⟨rfl,e9⟩;simp -implicitDefEqProofs only[go_sem];rw[if_neg hm];exact⟨rfl,e9⟩
    rw[decide_eq_false fun e=>e hm]at nm;simp -implicitDefEqProofs only[go_sem,jY,zB,e5,e9,rn,nm];refine qXf (fun j=>j == 9) (.row [0,1,2,3,5,6,7,4,8,9,10,11,12,13]) rfl (by kernel_rfl) (by kernel_rfl) ?_;obtain⟨ps,hps,hpl,hsh⟩:=id hL.vs;have lsb:sb<w.heap.size:=qQh h.row;have fA:Fr (fun b=>b=sb∨w.heap.size≤b) w w6.drew:=((f.mono fun _ _ h=>h.elim).trans (f6.mono fun b _ e=>by rcases e with e | e | e | e;exact .inl e;exact .inr (by have:b=pb:=e;omega);exact .inr (by have:b=nR:=e;omega);exact .inr (by have:b=nL:=e;omega))).drew;have hP:=hP.drew;generalize w6.drew=W1 at *;have offV:∀ b,qQg vv=some b→∃ cs,w.heap[b]?=some (.cells cs 156 (0,0)):=fun b hb=>qXg hps hb
    have psA:NwR u W1 156 1 vv (ps.map fun b=>[pt b 0]):=hps.fr fA fun b hb e=>by
     obtain⟨cs,hc⟩:=offV b hb
     rcases e with rfl | e
     ·rw[h.row]at hc;cases hc
     ·have:=qQh hc;omega
    have shA:∀ (j b:Nat) (t:PT),ps[j]?=some b→ts[j]?=some t→ShM u W1 b t:=fun j b t h1 h2=>(hsh j b t h1 h2).fr fA (fun b c hb e=>by rcases e with rfl | e;rw[h.row]at hb;cases hb;have:=qQh hb;omega) fun b es n hb e=>by rcases e with rfl | e;rw[h.row]at hb;cases hb;have:=qQh hb;omega
    obtain⟨fv6,bv6,h6,hb6⟩:=hP.sg;have hnow:W1.heap[nb]?=some (.cells #[.map (some nR),.map (some nL)] 155 (0,0)):=hP.now;have hnoP:No u W1:=hP.no;have rv:rdO prog 70 W1 sb 9=some vv:=rd1 agg70 h6.row rfl;have rnb:rdO prog 156 W1 pb 2=some (pt nb 0):=rd1 agg156 hP.pass rfl;have hplen:(ps.map fun b=>[pt b 0]).length=ts.length:=by rw[List.length_map];exact hpl
    obtain⟨v8,w8,hr8,b8,g8,m8⟩:=psA.push (P:=prog) app70_70 (xs:=[pt nb 0]) rfl rfl (by decide) (by rw[hplen];omega) (by rw[hplen];omega) hP.no.size;simp -implicitDefEqProofs only[go_sem,jY,jG,gLa,gLz,gLs,jH,zB,OT.row,e0,e9,rv,rnb];refine contOT_is (v:=.slice (some ⟨W1.heap.size,0,none⟩) 1 1) (w':=W1.alloc (.cells #[pt nb 0] 156)) (qZk (K:=1) (by decide) (by decide) (y:=[.pointer none]) rfl rfl rfl _) (fun _=>((Fr.refl (fun _=>False) _).alloc _).ext) ?_;simp -implicitDefEqProofs only[go_sem,jY,gLa,gLz,gLs];refine qZq ⟨v8,w8,hr8,?_⟩;refine⟨(fun h=>by cases h),?_⟩
    have vsb:∀ b,qQg vv=some b→b≠sb:=fun b hb e=>by
     obtain⟨cs,hc⟩:=offV b hb;subst e;rw[h.row]at hc;cases hc
    have k8:=g8.at h6.row fun hb=>vsb _ hb rfl;have o8:one v8=true:=by obtain⟨a,cc,e,_⟩:=b8.rd.slice;rw[e];rfl
    have q8:=wr1 (P:=prog) (t:=70) (o:=9) (v:=v8) sz70 o8 k8 (show 9<12 by decide);simp -implicitDefEqProofs only[go_sem,jY,jG,gLa,gLz,gLs,zB,q8];show VsR u sb iv im s mn mr cv vv nl rl pg fs ts (if m=p then Except.ok t else Except.error (m,172)) _ _;rw[if_pos hm];have f8:Fr (fun b=>b=sb∨qQg vv=some b) W1 (put w8 sb (.cells ((sgC iv s mn mr cv vv fv6 bv6).setIfInBounds 9 v8) 73 (0,0))):=(g8.mono (G:=fun b=>b=sb∨qQg vv=some b) fun b _ hb=>.inr hb).put (b:=sb) _ fun _=>.inl rfl;have kr8:=qQd (o:=.cells ((sgC iv s mn mr cv vv fv6 bv6).setIfInBounds 9 v8) 73 (0,0)) k8;have fsb:Fr (fun b=>b=sb) w8 (put w8 sb (.cells ((sgC iv s mn mr cv vv fv6 bv6).setIfInBounds 9 v8) 73 (0,0))):=(Fr.refl _ _).put (b:=sb) _ fun _=>rfl
    have v8s:∀ b,qQg v8=some b→b≠sb:=fun b hb e=>by
     rcases m8 b hb with h' | h'
     ·exact vsb b h' e
     ·have hx:sb<W1.heap.size:=qQh h6.row;omega
    generalize put w8 sb (.cells ((sgC iv s mn mr cv vv fv6 bv6).setIfInBounds 9 v8) 73 (0,0))=W9 at *
    have offc:∀ b cs el,W1.heap[b]?=some (.cells cs el (0,0))→(b=sb∨qQg vv=some b)→el=73∨el=156:=fun b cs el hb e=>by
     rcases e with rfl | e
     ·rw[h6.row]at hb;cases hb;exact .inl rfl
     ·obtain⟨cs',hc'⟩:=qXg psA e;rw[hb]at hc';cases hc';exact .inr rfl
    have offm:∀ b es n,W1.heap[b]?=some (.map es n)→¬ (b=sb∨qQg vv=some b):=fun b es n hb e=>by
     rcases e with rfl | e
     ·rw[h6.row]at hb;cases hb
     ·obtain⟨cs',hc'⟩:=qXg psA e;rw[hb]at hc';cases hc'
    have hub:∀ b,(b=sb∨qQg vv=some b)→u.heap.size≤b:=fun b e=>by
     rcases e with rfl | e
     ·exact ho.hsb
     ·exact (psA.lt e).1
    obtain⟨_,_,y1,_⟩:=id h6.nds;obtain⟨_,_,y2,_⟩:=id h6.rcs;obtain⟨_,_,y3,_⟩:=id hP.nowR;obtain⟨_,_,y4,_⟩:=id hP.nowL;refine⟨rfl,v8,⟨fv6,bv6,h6.fr f8 hub ho.hiv ⟨offm _ _ _ y1,offm _ _ _ y2⟩ (fun b cs el hb e=>?_) kr8 o8 h6.ob,hb6.fr f8 fun b cs hb _ _ e=>?_⟩,hnoP.trans' f8 (fun b hb e=>absurd hb (Nat.not_lt.2 (hub b e))),ps++[nb],?_,?_,?_⟩
    ·rcases offc b cs el hb e with rfl | rfl <;> exact⟨by decide,by decide,by decide⟩
    ·rcases offc b cs _ hb e with h' | h' <;> exact absurd h' (by decide)
    ·rw[List.map_append]
     exact b8.fr fsb v8s
    ·rw[lAp,lAp,hpl];rfl
    ·intro j b t' h1' h2'
     by_cases hj:j<ts.length
     ·rw[List.getElem?_append_left (by omega)]at h1' h2'
      exact (shA j b t' h1' h2').fr f8 (fun b cs hb e=>by rcases offc b cs _ hb e with h' | h' <;> exact absurd h' (by decide)) fun b es n hb=>offm b es n hb
     ·have hje:j=ts.length:=by
       have:=List.getElem?_eq_some_iff.1 h2';obtain⟨hlt,_⟩:=this;rw[lAp]at hlt;have:[t].length=1:=rfl;omega
      subst hje;rw[← hpl,jB (xT _),Nat.sub_self]at h1';rw[jB (xT _),Nat.sub_self]at h2';cases h1';cases h2';refine⟨nR,nL,rows,lvs,f8.at hnow (fun e=>by rcases offc _ _ _ hnow e with h' | h' <;> exact absurd h' (by decide)),y9 hu ln,y9 hu lR,y9 hu lL,hP.nowR.fr f8 (offm _ _ _ y3),hP.nowL.fr f8 (offm _ _ _ y4),fun key=>?_,fun key=>?_⟩
      ·rw[rr key];cases enP (Aud.rowAt 0 Aud.zrow t key) <;> rfl
      ·rw[ll key];cases enP (lfAt t key) <;> rfl
   ·simp -implicitDefEqProofs only[go_sem,e63]
  ·obtain⟨e0,x1,e5,e7,e6,k,f⟩:=hV
   refine qXf (fun j=>j == 16 || j == 27) (.row [0,2,1,3,4,5,7,6,8,9,10,11,13,14,15,12,16,17,18,19,20,22,23,24,25,26,21,27,28,29]) rfl (by kernel_rfl) (by kernel_rfl) ?_;have f:=f.drew;have k:w1.drew.heap[w.heap.size]?=_:=k;generalize w1.drew=W1 at *;have hs:=h.fr0 f;have r0:rdO prog 3 W1 w.heap.size 0=some (.int .i64 (r.ver:Nat)):=rd1 agg3 k rfl;have r1:rdO prog 3 W1 w.heap.size 1=some (.int .i64 (r.first:Nat)):=rd1 agg3 k rfl;have r2:rdO prog 3 W1 w.heap.size 2=some (.int .i64 (r.prev:Nat)):=rd1 agg3 k rfl;have r3:rdO prog 3 W1 w.heap.size 3=some (.int .i64 (r.skip:Nat)):=rd1 agg3 k rfl;have n1:=natne r.first first;have n2:=natne r.ver num;have n3:=natne r.prev (chAt ch (i - 1));have n4:=natne r.skip (chAt ch (far i));have wi:IntKind.i64.wrap ((i:Int) - 1)=((i - 1:Nat):Int):=qZj (b:=1) (by omega) (by omega)
   obtain⟨y,hy⟩:∃ y,andK .i64 (i:Int) ((i - 1:Nat):Int)=y:=⟨_,rfl⟩
   have hy':y=((far i:Nat):Int):=hy.symm.trans (and64 _ _ (by omega) (by omega));have done:∀ b:Bool,(b=!decide (r.first=first∧r.ver=num∧r.prev=chAt ch (i - 1)∧r.skip=chAt ch (far i)))→True:=fun _ _=>trivial
   by_cases c1:r.first=first
   case neg =>
    rw[decide_eq_true c1]at n1;simp -implicitDefEqProofs only[go_sem,jY,jG,gLa,gLz,gLs,qXq,zB,OT.row,e6,e7,r1,n1];exact⟨⟨by first | rfl | assumption,by first | rfl | assumption,by first | rfl | assumption,by first | rfl | assumption,by first | rfl | assumption,k,f⟩,by rw[decide_eq_false fun h=>c1 h.1];rfl⟩
   rw[decide_eq_false fun e=>e c1]at n1
   by_cases c2:r.ver=num
   case neg =>
    rw[decide_eq_true c2]at n2;simp -implicitDefEqProofs only[go_sem,jY,jG,gLa,gLz,gLs,bSe,qXq,zB,OT.row,e6,e7,e8,r1,n1,r0,n2];exact⟨⟨by first | rfl | assumption,by first | rfl | assumption,by first | rfl | assumption,by first | rfl | assumption,by first | rfl | assumption,k,f⟩,by rw[decide_eq_false fun h=>c2 h.2.1];rfl⟩
   rw[decide_eq_false fun e=>e c2]at n2;simp -implicitDefEqProofs only[go_sem,jY,jG,gLa,gLz,gLs,bSe,zB,OT.row,e0,x1,e6,e7,e8,r1,n1,r0,n2,r2,wi];refine qQf pl66 ((qJk hs (i:=i - 1) (by omega)).mono ?_);rintro _ w5 ⟨e5',rfl⟩;rw[e5',hch];refine⟨fun _=>(Fr.refl (fun _=>False) _).ext,?_⟩
   by_cases c3:r.prev=chAt ch (i - 1)
   case neg =>
    rw[decide_eq_true c3]at n3;simp -implicitDefEqProofs only[go_sem,jY,jG,gLa,gLz,gLs,bSe,qXq,n3];exact⟨⟨by first | rfl | assumption,by first | rfl | assumption,by first | rfl | assumption,by first | rfl | assumption,by first | rfl | assumption,k,f⟩,by rw[decide_eq_false fun h=>c3 h.2.2.1];rfl⟩
   rw[decide_eq_false fun e=>e c3]at n3;simp -implicitDefEqProofs only[go_sem,jY,jG,gLa,gLz,gLs,bSe,zB,e0,x1,e6,n3,wi,hy,r3];rw[hy'];refine qQf pl66 ((qJk hs (i:=far i) (by have:far i≤i:=Nat.and_le_left;omega)).mono ?_);rintro _ w5 ⟨e5',rfl⟩;rw[e5',hch];refine⟨fun _=>(Fr.refl (fun _=>False) _).ext,?_⟩
   by_cases c4:r.skip=chAt ch (far i)
   ·rw[decide_eq_false fun e=>e c4]at n4
    simp -implicitDefEqProofs only[go_sem,jY,jG,gLa,gLz,gLs,bSe,n4];exact⟨⟨by first | rfl | assumption,by first | rfl | assumption,by first | rfl | assumption,by first | rfl | assumption,by first | rfl | assumption,k,f⟩,by rw[decide_eq_true ⟨c1,c2,c3,c4⟩];rfl⟩
   ·rw[decide_eq_true c4]at n4
    simp -implicitDefEqProofs only[go_sem,jY,jG,gLa,gLz,gLs,bSe,n4];exact⟨⟨by first | rfl | assumption,by first | rfl | assumption,by first | rfl | assumption,by first | rfl | assumption,by first | rfl | assumption,k,f⟩,by rw[decide_eq_false fun h=>c4 h.2.2.2];rfl⟩
 ·refine qXf (fun j=>j == 11 || j == 14) (.one 0 (.one 1 (.one 2 (.one 4 (.one 6 (.one 7 (.one 8 (.one 10 (.one 3 (.one 5 (.tri 9 (.two 11 (.two 12 (.row [13,14,15,16]) 14 (.two 12 (.row [13,15,16]) 15 (.row [12,13,16]))) 14 (.one 11 (.two 12 (.row [13,15,16]) 15 (.row [12,13,16])))) 11 (.two 9 (.two 12 (.row [13,14,15,16]) 14 (.two 12 (.row [13,15,16]) 15 (.row [12,13,16]))) 14 (.two 9 (.two 12 (.row [13,15,16]) 15 (.row [12,13,16])) 15 (.row [9,12,13,16]))) 14 (.two 9 (.one 11 (.two 12 (.row [13,15,16]) 15 (.row [12,13,16]))) 11 (.two 9 (.two 12 (.row [13,15,16]) 15 (.row [12,13,16])) 15 (.row [9,12,13,16])))))))))))))) rfl (by kernel_rfl) (by kernel_rfl) ?_
  have h1:=h.fr0 (Fr.refl _ _).drew;have s1:w.drew.heap.size=w.heap.size:=rfl;have f1:No w w.drew:=(Fr.refl _ _).drew;generalize w.drew=W1 at *;have r0:rdO prog 69 W1 sb 7=some (.map (some mr)):=rd1 agg69 h1.row rfl;obtain⟨ok,lk⟩:=rec_look h1 ho (chAt ch i);obtain⟨W2,hW2,f2,k2,s2⟩:=qQl W1 (rcC rc00).toArray 80;have rl:(rcC (rcAt pg (chAt ch i))).length=38:=qXh (rcAt_len ho _);have h2:=h1.fr0 f2;have q:wrO prog 80 W2 W1.heap.size 0 (.agg (rcC (rcAt pg (chAt ch i))).toArray)=some (put W2 W1.heap.size (.cells (rcC (rcAt pg (chAt ch i))).toArray 80 (0,0))):=qQr (by simp[rl];exact sz80) k2 (by simp[rl,qXh (r:=rc00) z32l]) (by simpa using qJp _);have f3:=f2.put (b:=W1.heap.size) (.cells (rcC (rcAt pg (chAt ch i))).toArray 80 (0,0)) fun h=>by omega
  have h3:=h1.fr0 f3;have k3:=qQd (o:=.cells (rcC (rcAt pg (chAt ch i))).toArray 80 (0,0)) k2;generalize hB:put W2 W1.heap.size (.cells (rcC (rcAt pg (chAt ch i))).toArray 80 (0,0))=W3 at *;have r2:rdO prog 69 W2 sb 7=some (.map (some mr)):=rd1 agg69 h2.row rfl;have r3:rdO prog 69 W3 sb 7=some (.map (some mr)):=rd1 agg69 h3.row rfl;obtain⟨ok1,l1⟩:=rec_look h1 ho (chAt ch 1);obtain⟨ok2,l2⟩:=rec_look h2 ho (chAt ch 1);obtain⟨ok3,l3⟩:=rec_look h3 ho (chAt ch 1);obtain⟨ok4,l4⟩:=rec_look h2 ho (chAt ch i);have fe:partO prog 3 (rcC (rcAt pg (chAt ch 1))).toArray 1=some (.int .i64 ((rcAt pg (chAt ch 1)).first:Nat)):=by rw[qKd agg3];rfl
  have e2:=f2.ext;have hz:=rcZero
  have fin:V2 w sb i (chAt ch i) (rcAt pg (chAt ch 1)).first (rcAt pg (chAt ch i)) (pt sb 0) (.int .i64 (i:Nat)) (.int .i64 (chAt ch i:Nat)) (pt W1.heap.size 0) (.int .i64 ((rcAt pg (chAt ch 1)).first:Nat)) W3:=⟨rfl,rfl,rfl,rfl,by rw[s1],by rw[← s1];exact k3,f1.trans f3⟩
  simp -implicitDefEqProofs only[go_sem,jY,jG,gLa,gLz,gLs,jH,bSe,zB,qQk,OT.row,r0,r2,lk,hz,hW2,e2,implies_true,true_and]
  repeat' (first
   | (refine qQf pl66 ((qJk h1 (i:=1) (by omega)).mono ?_);rintro _ wx ⟨ex,rfl⟩;rw[ex,hch];refine And.intro (fun _=>(Fr.refl (fun _=>False) _).ext) ?_;simp -implicitDefEqProofs only[go_sem,jY,jG,gLa,gLz,gLs,jH,bSe,qQk,r0,r2,r3,l1,l2,l3,fe,hz,hW2,q,e2,implies_true,and_self,fin])
   | (refine qQf pl66 ((qJk h2 (i:=1) (by omega)).mono ?_);rintro _ wx ⟨ex,rfl⟩;rw[ex,hch];refine And.intro (fun _=>(Fr.refl (fun _=>False) _).ext) ?_;simp -implicitDefEqProofs only[go_sem,jY,jG,gLa,gLz,gLs,r2,r3,l2,l3,fe,q,implies_true,and_self,fin])
   | (refine qQf pl66 ((qJk h3 (i:=1) (by omega)).mono ?_);rintro _ wx ⟨ex,rfl⟩;rw[ex,hch];refine And.intro (fun _=>(Fr.refl (fun _=>False) _).ext) ?_;simp -implicitDefEqProofs only[go_sem,jY,jG,Nat.reduceAdd,gLa,gLz,gLs,jH,bSe,bNe,qQt,qXq,Bool.not_true,Bool.not_false,zB,Nat.add_zero,qQk,OT.row,r0,r2,r3,lk,l1,l2,l3,l4,fe,hz,hW2,q,e2,implies_true,true_and,and_self,fin])
   | (refine And.intro ?_ ?_))
end
end A
end
end Go.V
