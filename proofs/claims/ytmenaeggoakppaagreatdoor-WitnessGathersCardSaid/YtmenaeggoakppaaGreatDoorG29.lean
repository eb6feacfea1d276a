/- Helpers. -/
import Derived.Test.YtmenaeggoakppaaGreatDoorG28
import Derived.Test.YtmenaeggoakppaaGreatDoorG11
set_option linter.all false
set_option maxRecDepth 100000
set_option maxHeartbeats 8000000
open List renaming getElem_append_right→yD,getElem_append_left→yM
open Nat renaming reduceEqDiff→jF
open Go.V.Wit renaming lefts→yT,frm→yL,Tx→vN
namespace Go.V
open Go.Proofs.Tryz Go.V.Tryz
open Go.Proofs Sha
variable {bad:Bool} {wd:Int} {gs:List (Nat × Bs)} {ks:List Bs} {xs:List vN} {p wb:Nat} {F M M':Nat→Prop} {kv v:Value} {u w w':World}
namespace R
theorem fork (w0:World)(hk:RdD w0 v ks)(ha:Wit.Asc ks)(h0:0<ks.length)(hl:ks.length≤2 ^ 40) :
  Fn prog 136 #[v] w0 fun r w'=>r=.int .i64 ((yL ks:Nat) - 1:Int)∧No w0 w':=by
 refine go136 (by simp) ?_;obtain⟨b,o,cap,rfl,hcap,hb⟩:=hk.pos h0
 by_cases h1:ks.length<2
 ·have d1:=dTo (((ks.length:Nat):Int)<2)
  rw[Wit.frm_one h1];simp -implicitDefEqProofs only[go_sem,jF,gLa,gLz,Tryz.f136,d1];exact⟨rfl,Fr.refl _ _⟩
 ·have h2:2≤ks.length:=by omega
  have d1:=dFo (((ks.length:Nat):Int)<2);have r0:=fun w (f:No w0 w)=>(hk.fr0 f).get (P:=prog) agg34 sz34 h0;have r1:=fun w (f:No w0 w)=>(hk.fr0 f).get (P:=prog) agg34 sz34 (show ks.length - 1<ks.length by omega);simp only[Nat.zero_mul,Nat.add_zero]at r0;have k0:=hk.1.getD h0;have k1:=hk.1.getD (show ks.length - 1<ks.length by omega);have hc:=Wit.frm_eq ha h2;rw[qKg,last_getD]at hc;have c1:IntKind.i64.wrap (((ks.length:Nat):Int) - 1)=((ks.length - 1:Nat):Int):=qXl (b:=1) (by omega) (by omega);have y0:(0:Int)≤0∧(0:Int)<((ks.length:Nat):Int):=by omega
  have y1:(0:Int)≤((ks.length - 1:Nat):Int)∧((ks.length - 1:Nat):Int)<((ks.length:Nat):Int):=by omega
  have hle:=common_le (ks.getD 0 []) (ks.getD (ks.length - 1) []);have hfp:=Wit.frm_pos ha h2;generalize ks.getD 0 []=A at *;generalize ks.getD (ks.length - 1) []=B at *;have q0:=r0 _ (Fr.refl _ w0);have q0d:=r0 _ (Fr.refl _ w0).drew;have q1:=r1 _ (Fr.refl _ w0);have q1d:=r1 _ (Fr.refl _ w0).drew;simp -implicitDefEqProofs only[go_sem,jF,gLa,gLz,Tryz.f136,d1,c1,y0,y1,and_self,iTn,q0d,q1d,Int.toNat_zero,Nat.zero_mul];refine qQa pl182 ((common22 w0.drew k0 k1).mono ?_);rintro _ w1 ⟨rfl,f1⟩;have c2:IntKind.i64.wrap (255 - ((common A B:Nat):Int))=((yL ks:Nat):Int) - 1:=by rw[qZi (by omega) (by omega)];omega
  simp -implicitDefEqProofs only[go_sem,c2];exact (Fr.refl _ _).drew.trans f1
def lfI (w0:World)(v:Value)(f:Int)(ks:List Bs)(n:Nat)(vs:List Value)(w:World):Prop :=
 ∃ (i:Nat),vs=[v,.int .i64 f,.int .i64 ((min i (yT ks):Nat):Int),.int .i64 (i:Nat)]∧i≤ks.length∧n=ks.length - i∧No w0 w
theorem left (w0:World)(hk:RdD w0 v ks)(ha:Wit.Asc ks)(h2:2≤ks.length)(hl:ks.length≤2 ^ 40) :
  Fn prog 137 #[v,.int .i64 ((yL ks:Nat) - 1:Int)] w0 fun r w'=>r=.int .i64 (yT ks:Nat)∧No w0 w':=by
 refine go137 (by simp) ?_;obtain⟨b,o,cap,rfl,hcap,hb⟩:=hk.pos (by omega);simp -implicitDefEqProofs only[go_sem,Tryz.f137];refine loopD [0,1,5,6] (lfI w0 (.slice (some ⟨b,o,.none⟩) ks.length cap) ((yL ks:Nat) - 1:Int) ks) ks.length ⟨0,by rw[Nat.zero_min];rfl,by omega,rfl,Fr.refl _ _⟩ ?_;rintro _ vs w2 g ⟨i,rfl,hi,rfl,f2⟩;have hlt:=Wit.lefts_lt ha h2;have hp:=Wit.frm_pos ha h2;have hfl:=Wit.frm_le ha h2
 by_cases hi2:i<ks.length
 ·have d1:=dTo ((i:Int)<((ks.length:Nat):Int))
  have r2:=(hk.fr0 f2).get agg34 sz34 hi2;have y2:=iBd (i:=i) (n:=ks.length);have k2:=hk.1.getD hi2;have hbit:kbit (ks.getD i []) (256 - yL ks)=decide (yT ks≤i):=by rw[qQi _ hi2];exact Wit.lefts_at ha h2 hi2
  have c0:IntKind.i64.wrap (255 - (((yL ks:Nat):Int) - 1))=((256 - yL ks:Nat):Int):=by rw[qZi (by omega) (by omega)];omega
  have c1:=iSu (i:=i);have c2:IntKind.i64.wrap (((min i (yT ks):Nat):Int)+1)=((min i (yT ks)+1:Nat):Int):=qXc (b:=1);simp -implicitDefEqProofs only[go_sem,jF,gLa,gLz,y2,and_self,iTn,r2,c0];refine qQa pl166 ((bit3 w2 k2 (show 256 - yL ks<256 by omega)).mono ?_);rintro _ w3 ⟨rfl,f3⟩;unfold kb;rw[hbit]
  by_cases h3:yT ks≤i
  ·have e0:((1:Int) == 0)=false:=rfl
   rw[decide_eq_true h3];simp -implicitDefEqProofs only[go_sem,jF,if_true,e0,c1];exact⟨ks.length - (i+1),by omega,i+1,by rw[Nat.min_eq_right h3,Nat.min_eq_right (by omega)],by omega,rfl,f2.trans f3⟩
  ·have e0:((0:Int) == 0)=true:=rfl
   rw[decide_eq_false h3];simp -implicitDefEqProofs only[go_sem,jF,Bool.false_eq_true,if_false,e0,c1,c2];exact⟨ks.length - (i+1),by omega,i+1,by rw[Nat.min_eq_left (show i≤yT ks by omega),Nat.min_eq_left (by omega)],by omega,rfl,f2.trans f3⟩
 ·have d1:=dFo ((i:Int)<((ks.length:Nat):Int))
  have hm:min i (yT ks)=yT ks:=by omega
  simp -implicitDefEqProofs only[go_sem,jF,gLa,gLz,d1,hm];exact f2
end R
namespace R
def Mut (wb:Nat)(tv gv:Value):Nat→Prop:=fun b=>b=wb∨qQb tv=some b∨qQb gv=some b
structure WiM (u w:World) (wb:Nat) (wd:Int) (ev rv tv gv:Value) (p:Nat) (bad:Bool) (txs gvs:Rows):Prop where
 cell:WiAt w wb wd ev tv gv rv p bad
 txr:NwR u w 220 8 tv txs
 gvr:NwR u w 267 34 gv gvs
 wbu:u.heap.size≤wb
 no:No u w
 tne:∀ b,qQb tv=some b→b≠wb
 gne:∀ b,qQb gv=some b→b≠wb
 tg:∀ b,qQb tv=some b→qQb gv≠some b
theorem WiM.fr {ev rv tv gv:Value}{txs gvs:Rows}(h:WiM u w wb wd ev rv tv gv p bad txs gvs)(k:Fr F w w')(hf:∀ b,b<w.heap.size→F b→¬ Mut wb tv gv b∧u.heap.size≤b):WiM u w' wb wd ev rv tv gv p bad txs gvs :=
 ⟨k.at h.cell fun e=>(hf wb (qQh h.cell) e).1 (.inl rfl),h.txr.fr k fun b hb e=>(hf b (h.txr.lt hb).2 e).1 (.inr (.inl hb)),h.gvr.fr k fun b hb e=>(hf b (h.gvr.lt hb).2 e).1 (.inr (.inr hb)),h.wbu,
  h.no.trans' k fun b hb e=>by have:=(hf b (by have:=h.no.size;omega) e).2;omega,h.tne,h.gne,h.tg⟩
theorem WiM.fr0 {ev rv tv gv:Value}{txs gvs:Rows}(h:WiM u w wb wd ev rv tv gv p bad txs gvs)(k:No w w'):WiM u w' wb wd ev rv tv gv p bad txs gvs:=h.fr k fun _ _ h=>h.elim
def TxR (u w:World)(M:Nat→Prop)(row:List Value)(x:vN):Prop:=∃ kv nv vv,row=[kv,.int .i64 (x.top:Nat),.int .i64 (x.fr:Nat),nv,.int .i64 (x.left:Nat),.int .i64 (x.right:Nat),.bool x.ans.isSome,vv] ∧
 RdD u kv x.keys∧NwD u w 23 nv x.near∧NwB u w vv (x.ans.getD [])∧(∀ b,qQb nv=some b→¬ M b)∧(∀ b,qQb vv=some b→¬ M b)
theorem TxR.fr {row:List Value}{x:vN}(h:TxR u w M row x)(k:Fr F w w')(hf:∀ b,b<w.heap.size→F b→M b):TxR u w' M row x:=by
 obtain⟨kv,nv,vv,h1,h2,h3,h4,h5,h6⟩:=h;exact⟨kv,nv,vv,h1,h2,h3.fr k fun b hb e=>h5 b hb (hf b (h3.lt hb).2 e),h4.fr k fun b hb e=>h6 b hb (hf b (h4.lt hb).2 e),h5,h6⟩
theorem TxR.mono {row:List Value}{x:vN}(h:TxR u w M row x)(hm:∀ b,b<w.heap.size→M' b→M b):TxR u w M' row x:=by
 obtain⟨kv,nv,vv,h1,h2,h3,h4,h5,h6⟩:=h;exact⟨kv,nv,vv,h1,h2,h3,h4,fun b hb e=>h5 b hb (hm b (h3.lt hb).2 e),fun b hb e=>h6 b hb (hm b (h4.lt hb).2 e)⟩
def TxL (u w:World)(M:Nat→Prop)(rows:Rows)(xs:List vN):Prop:=rows.length=xs.length∧∀ i (h:i<rows.length) (h':i<xs.length),TxR u w M rows[i] xs[i]
theorem TxL.fr {rows:Rows}(h:TxL u w M rows xs)(k:Fr F w w')(hf:∀ b,b<w.heap.size→F b→M b):TxL u w' M rows xs:=⟨h.1,fun i a b=>(h.2 i a b).fr k hf⟩
theorem TxL.mono {rows:Rows}(h:TxL u w M rows xs)(hm:∀ b,b<w.heap.size→M' b→M b):TxL u w M' rows xs:=⟨h.1,fun i a b=>(h.2 i a b).mono hm⟩
theorem TxL.snoc {rows:Rows}(h:TxL u w M rows xs){row:List Value}{x:vN}(k:TxR u w M row x):TxL u w M (rows++[row]) (xs++[x]):=by
 obtain⟨h1,h2⟩:=h;refine⟨by simp[h1],fun i hi hi'=>?_⟩
 by_cases hl:i<rows.length
 ·rw[yM hl,yM (by omega)];exact h2 i hl (by omega)
 ·have hi2:i=rows.length:=by simp at hi;omega
  subst hi2;rw[yD (Nat.le_refl _),yD (by omega)];simpa [h1] using k
def GvR (row:List Value)(q:Nat × Bs):Prop:=∃ tn,row=gvRow tn q∧q.2.length=32
def GvL (rows:Rows)(gs:List (Nat × Bs)):Prop:=rows.length=gs.length∧∀ i (h:i<rows.length) (h':i<gs.length),GvR rows[i] gs[i]
theorem GvL.app {a b:Rows}{gs hs:List (Nat × Bs)}(h:GvL a gs)(k:GvL b hs):GvL (a++b) (gs++hs):=by
 obtain⟨h1,h2⟩:=h;obtain⟨k1,k2⟩:=k;refine⟨by simp[h1,k1],fun i hi hi'=>?_⟩
 by_cases hl:i<a.length
 ·rw[yM hl,yM (by omega)];exact h2 i hl (by omega)
 ·rw[yD (by omega),yD (by omega)]
  have:=k2 (i - a.length) (by rw[lAp]at hi;omega) (by rw[lAp]at hi';omega);have e:i - gs.length=i - a.length:=by omega
  simp only[e];exact this
theorem GvL.own {gl:List (Nat × Bs)}(h:∀ q ∈ gl,q.2.length=32):GvL (gl.map (gvRow 0)) gl:=⟨by simp,fun i hi hi'=>⟨0,by simp,h _ (List.getElem_mem hi')⟩⟩
theorem GvL.set {rows:Rows}(h:GvL rows gs){i:Nat}(hi:i<rows.length)(n:Int):GvL (rows.set i (rows[i].set 0 (.int .i64 n))) gs:=by
 refine⟨by rw[List.length_set];exact h.1,fun j hj hj'=>?_⟩;rw[List.length_set]at hj;rw[List.getElem_set];split
 ·rename_i e
  subst e;obtain⟨tn,e1,e2⟩:=h.2 i hi hj';exact⟨n,by rw[e1];rfl,e2⟩
 ·exact h.2 j hj hj'
abbrev txC (kv:Value)(top fr:Nat)(nv:Value)(l r:Int)(f:Bool)(vv:Value):Array Value:=#[kv,.int .i64 (top:Nat),.int .i64 (fr:Nat),nv,.int .i64 l,.int .i64 r,.bool f,vv]
theorem bldTx (top:Nat)(h:one kv=true):bldO prog 220 [(0,kv),(1,.int .i64 (top:Nat))]=some (.agg (txC kv top 0 (.slice Option.none 0 0) 0 0 false (.slice Option.none 0 0))):=by
 simp only[bldO,zero220,places220,Option.bind_some];rw[qXj (off:=0) rfl h (by decide),qXj (off:=1) rfl rfl (by simp[Value.cells])];rfl
def XtQ (u w0:World)(wb:Nat)(wd:Int)(ev rv:Value)(raw:Bs)(n:Nat)(ks:List Bs)(top:Nat)(tv gv:Value)(p:Nat)(E:Nat→Prop)(xs:List vN)(gs:List (Nat × Bs))(r:Value)(w':World):Prop:=Fr (Mut wb tv gv) w0 w' ∧
 match Wit.parse wd n ks top (raw.drop p) with
 | none=>(∃ z:Int,r=.int .i64 z)∧∃ tv' gv' q,WiAt w' wb wd ev tv' gv' rv q true∧q≤raw.length
 | some x=>∃ tv' gv' q txs' gvs', r=.int .i64 ((xs.length+x.1.size - 1:Nat):Int)∧WiM u w' wb wd ev rv tv' gv' q false txs' gvs'∧q≤raw.length∧raw.drop q=x.2.2∧TxL u w' (fun b=>Mut wb tv' gv' b∨E b) txs' (xs++Wit.flatT wd xs.length x.1)∧GvL gvs' (gs++x.2.1) ∧
   (∀ b,qQb tv'=some b→qQb tv=some b∨w0.heap.size≤b)∧(∀ b,qQb gv'=some b→qQb gv=some b∨w0.heap.size≤b)
theorem allocTx (w:World)(top:Nat)(h:one kv=true):∃ W, wrO prog 220 (w.alloc (.cells #[.slice Option.none 0 0, .int .i64 0, .int .i64 0, .slice Option.none 0 0, .int .i64 0, .int .i64 0, .bool false, .slice Option.none 0 0] 220)) w.heap.size 0 (.agg (txC kv top 0 (.slice Option.none 0 0) 0 0 false (.slice Option.none 0 0)))=some W ∧
  W.heap[w.heap.size]?=some (.cells (txC kv top 0 (.slice .none 0 0) 0 0 false (.slice .none 0 0)) 220 (0,0))∧No w W∧W.heap.size=w.heap.size+1:=by
 have k:=qQc w (.cells #[.slice .none 0 0,.int .i64 0,.int .i64 0,.slice .none 0 0,.int .i64 0,.int .i64 0,.bool false,.slice .none 0 0] 220);refine⟨_,qQw (vs:=txC kv top 0 (.slice .none 0 0) 0 0 false (.slice .none 0 0)) sz220 k rfl (by rw[← Array.all_toList];simp only[List.all_cons,List.all_nil,h];rfl),qQf k,((Fr.refl _ _).alloc _).put (b:=w.heap.size) _ fun h=>absurd h (Nat.lt_irrefl _),?_⟩;simp[put]
theorem textBad (u w0:World){wb top:Nat}{ev tv gv rv kv:Value}{raw:Bs}(h:WiAt w0 wb wd ev tv gv rv p true)(hr:By u rv raw)(no:No u w0)(hu:u.heap.size≤wb)(hrb:0<raw.length→∀ b, qQb rv=some b→b≠wb)(hp:p≤raw.length)(hl:raw.length≤2 ^ 50)
  (hk:RdD w0 kv ks) (ha:Wit.Asc ks) (h0:0<ks.length) (hkl:ks.length≤2 ^ 40) :
  Fn prog 180 #[pt wb 0,kv,.int .i64 (top:Nat)] w0 fun r w'=>Fr (fun b=>b=wb) w0 w'∧(∃ z:Int,r=.int .i64 z)∧WiAt w' wb wd ev tv gv rv p true:=by
 refine go180 (by simp) ?_;obtain⟨ka,kc,rfl,hkc⟩:=hk.slice;have bl:=bldTx (kv:=.slice ka ks.length kc) top rfl;obtain⟨W,q1,t1,f1,s1⟩:=allocTx w0 (kv:=.slice ka ks.length kc) top rfl;have hwb:wb<w0.heap.size:=qQh h;simp -implicitDefEqProofs only[go_sem,jF,Nat.reduceAdd,Tryz.f180,bl,Value.cells,q1];refine qQa pl136 ((fork W (hk.fr0 f1) ha h0 hkl).mono ?_);rintro _ w2 ⟨rfl,f2⟩;have f02:=f1.trans f2;simp -implicitDefEqProofs only[go_sem,jF];refine qQa pl208 ((taken u w2 (f02.at h id) hr (no.trans f02) hu hrb hp hl (k:=1) (by decide)).mono ?_);rintro bv w3 ⟨f3,bs,hbs,hbl,hbw,h3⟩;rw[if_pos (.inl rfl)]at h3;obtain⟨bb,bo,bc,rfl,hbc⟩:=hbs.pos (by omega);have rb:=hbs.get (P:=prog) agg5 (i:=0) (by omega);rw[Nat.add_zero]at rb;have y0:(0:Int)≤0∧(0:Int)<((bs.length:Nat):Int):=by omega
 have c1:IntKind.i64.wrap ((bs.getD 0 0).toNat:Int)=((bs.getD 0 0).toNat:Int):=i64n (by have:=(bs.getD 0 0).isLt;omega);have r3:=h3.row;obtain⟨w4,q4,h4,f4⟩:=h3.setBad;simp -implicitDefEqProofs only[go_sem,jF,gLa,gLz,gLs,y0,rb,c1,r3,qQk,tf_beq,q4];exact⟨((f02.mono fun _ _ h=>h.elim).trans f3).trans f4,⟨0,rfl⟩,h4⟩
end R
end Go.V
