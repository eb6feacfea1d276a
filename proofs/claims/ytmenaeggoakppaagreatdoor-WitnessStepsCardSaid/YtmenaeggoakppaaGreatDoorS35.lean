/-
 Helpers: RDig, VerP, RVer, RPart.
-/
import Derived.Test.YtmenaeggoakppaaGreatDoorS34
import Derived.Test.YtmenaeggoakppaaGreatDoorS22
import Derived.Test.YtmenaeggoakppaaGreatDoorS11
import Derived.Test.YtmenaeggoakppaaGreatDoorS21
import Derived.Test.YtmenaeggoakppaaGreatDoorS26
set_option linter.all false
section
namespace Go.V
open Go.Proofs Sha
set_option maxRecDepth 100000
namespace R
theorem WiAt.no {w w':World} {wb:Nat} {wd:Int} {ev tv gv rv:Value} {p:Nat} {bad:Bool} (h:WiAt w wb wd ev tv gv rv p bad) (k:No w w'):WiAt w' wb wd ev tv gv rv p bad:=k.at h id
/-- the witness in memory, with its texts -/
def WtY (u w:World) (wb:Nat) (wd:Int) (xs:List Wit.Tx):Prop:=∃ ev rv tv gv q txs gvs,RdD u ev (empts wd 257)∧WiM u w wb wd ev rv tv gv q false txs gvs∧TxL u w (Mut wb tv gv) txs xs
theorem WtY.fr0 {u w w':World} {wb:Nat} {wd:Int} {xs:List Wit.Tx} (h:WtY u w wb wd xs) (k:No w w'):WtY u w' wb wd xs:=by
 obtain⟨ev,rv,tv,gv,q,txs,gvs,h2,h3,h4⟩:=h
 exact⟨ev,rv,tv,gv,q,txs,gvs,h2,h3.fr0 k,h4.fr k fun _ _ h=>h.elim⟩
theorem WtX.y {w0 w:World} {wb:Nat} {wd:Int} {t:Wit.Tw} (h:WtX w0 w wb wd t):∃ u,No w0 u∧WtY u w wb wd (Wit.flatT wd 0 t):=by
 obtain⟨u,ev,rv,tv,gv,q,txs,gvs,h1,h2,h3,h4⟩:=h
 exact⟨u,h1,ev,rv,tv,gv,q,txs,gvs,h2,h3,h4⟩
theorem WtY.text {u w : World} {wb : Nat} {wd : Int} {xs : List Wit.Tx} (h : WtY u w wb wd xs) {i : Nat} {x : Wit.Tx} (hx : xs[i]? = some x) : ∃ ev tb to tc gv rv q kv nv vv, WiAt w wb wd ev (.slice (some ⟨tb, to, Option.none⟩) xs.length tc) gv rv q false ∧ RdD w ev (empts wd 257) ∧
    (∀ w',No w w' → rdO Tryz.prog 220 w' tb (to + i * 8) = some (.agg (txC kv x.top x.fr nv (x.left : Nat) (x.right : Nat) x.ans.isSome vv))) ∧ (∀ w' j (t : Nat),No w w' → aggO Tryz.prog t = some false → j < 8 → rdO Tryz.prog t w' tb (to + i * 8 + j) = (txC kv x.top x.fr nv (x.left : Nat) (x.right : Nat) x.ans.isSome vv)[j]?) ∧
    RdD w kv x.keys ∧ RdD w nv x.near ∧ By w vv (x.ans.getD []) ∧ (txC kv x.top x.fr nv (x.left : Nat) (x.right : Nat) x.ans.isSome vv).all one = true := by
 obtain⟨ev,rv,tv,gv,q,txs,gvs,h2,h3,h4⟩:=h
 obtain⟨hi,rfl⟩:=List.getElem?_eq_some_iff.1 hx
 have hir:i<txs.length:=by have:=h4.1;omega
 obtain⟨kv,nv,vv,hrow,hk,hn,hv,_⟩:=h4.2 i hir hi
 obtain⟨tb,to,tc,rfl,_⟩:=h3.txr.rd.pos (by decide) (by omega)
 have hall:=(h3.txr.1 _ (List.getElem_mem hir)).2
 have hc:=h3.cell
 have e:txs.length=xs.length:=h4.1
 refine⟨ev,tb,to,tc,gv,rv,q,kv,nv,vv,by rw[← e];exact hc,h2.fr0 h3.no,fun w' k=>?_,fun w' j t k ha hj=>?_,hk.fr0 h3.no,hn.rd,hv.by,?_⟩
 ·have:=(h3.txr.rd.fr0 k).get (P:=Tryz.prog) (t:=220) Tryz.agg220 Tryz.sz220 (by decide) hir
  rw[hrow] at this
  exact this
 ·have hq:txs[i][j]?=(txC kv xs[i].top xs[i].fr nv (xs[i].left:Nat) (xs[i].right:Nat) xs[i].ans.isSome vv)[j]?:=by rw[hrow,List.getElem?_toArray]
  have hl:txs[i].length=8:=(h3.txr.1 _ (List.getElem_mem hir)).1
  rw[← hq,List.getElem?_eq_getElem (by omega)]
  exact (h3.txr.rd.fr0 k).fld ha hir hj (List.getElem?_eq_getElem (by omega))
 ·rw[hrow] at hall
  rw[← Array.all_toList];exact hall
theorem allocT (w : World) {row : Array Value} (hs : row.size = 8) (h : row.all one = true) : ∃ W, wrO Tryz.prog 220 (w.alloc (.cells #[.slice Option.none 0 0, .int .i64 0, .int .i64 0, .slice Option.none 0 0, .int .i64 0, .int .i64 0, .bool false, .slice Option.none 0 0] 220)) w.heap.size 0 (.agg row) = some W ∧
    W.heap[w.heap.size]? = some (.cells row 220 (0,0)) ∧ No w W ∧ W.heap.size = w.heap.size + 1 := by
 have k:=alloc_blk_new w (.cells #[.slice Option.none 0 0,.int .i64 0,.int .i64 0,.slice Option.none 0 0,.int .i64 0,.int .i64 0,.bool false,.slice Option.none 0 0] 220)
 refine⟨_,wr_all (vs:=row) (by rw[hs];exact Tryz.sz220) k (by rw[hs];rfl) h,put_at k,((Fr.refl _ _).alloc _).put (b:=w.heap.size) _ fun h=>absurd h (Nat.lt_irrefl _),?_⟩
 simp[put,alloc_heap_size]
theorem allocD (w : World) {ty : TypeId} (hz : szO Tryz.prog ty = some 32) {d : Bs} (hd : d.length = 32) : ∃ W, wrO Tryz.prog ty (w.alloc (.cells (bl (List.replicate 32 0)) ty)) w.heap.size 0 (dg d) = some W ∧
    W.heap[w.heap.size]? = some (.cells (bl d) ty (0,0)) ∧ No w W ∧ W.heap.size = w.heap.size + 1 := by
 have k:=alloc_blk_new w (.cells (bl (List.replicate 32 0)) ty)
 refine⟨_,wr_d hz k zl32 hd,put_at k,((Fr.refl _ _).alloc _).put (b:=w.heap.size) _ fun h=>absurd h (Nat.lt_irrefl _),?_⟩
 simp[put,alloc_heap_size]
theorem allocC (w : World) {row : Array Value} (hs : row.size = 34) (h : row.all one = true) : ∃ W, wrO Tryz.prog 181 (w.alloc (.cells (Array.replicate 32 (Value.int .u8 0) ++ #[.bool false, .slice Option.none 0 0]) 181)) w.heap.size 0 (.agg row) = some W ∧
    W.heap[w.heap.size]? = some (.cells row 181 (0,0)) ∧ No w W ∧ W.heap.size = w.heap.size + 1 := by
 have k:=alloc_blk_new w (.cells (Array.replicate 32 (Value.int .u8 0)++#[.bool false,.slice Option.none 0 0]) 181)
 refine⟨_,wr_all (vs:=row) (by rw[hs];exact Tryz.sz181) k (by rw[hs];rfl) h,put_at k,((Fr.refl _ _).alloc _).put (b:=w.heap.size) _ fun h=>absurd h (Nat.lt_irrefl _),?_⟩
 simp[put,alloc_heap_size]
def ChL (cs:List Wit.Ch):Prop:=cs.length≤2 ^ 40∧∀ c ∈ cs,c.2.2.length≤549755813888
theorem findC_mem {cs:List Wit.Ch} {k:Bs} {c:Wit.Ch} (h:Wit.findC cs k=some c):c ∈ cs:=by
 induction cs with
 | nil=>cases h
 | cons d r ih =>
  rw[Wit.findC] at h
  split at h
  ·cases h;simp
  ·exact List.mem_cons_of_mem _ (ih h)
def bDig (wd:Int) (cs:List Wit.Ch) (wb i:Nat) (cv:Value) (w0:World) (t:Wit.Tw):Prop:=Fn Tryz.prog 210 #[pt wb 0,.int .i64 (i:Nat),cv] w0 fun v w'=>v=dg (Wit.base wd (Wit.saysC cs) t)∧No w0 w'
def dDig (wd:Int) (cs:List Wit.Ch) (wb i:Nat) (cv:Value) (w0:World) (t:Wit.Tw):Prop:=Fn Tryz.prog 134 #[pt wb 0,.int .i64 (i:Nat),cv] w0 fun v w'=>v=dg (Wit.dig wd (Wit.saysC cs) t)∧No w0 w'
set_option maxHeartbeats 2000000 in
theorem baseF (u w0 : World) (ht : Tabs w0) {wb i : Nat} {wd : Int} {xs : List Wit.Tx} (hY : WtY u w0 wb wd xs) {ks : List Bs} {f top : Nat} {near : List Bs} {l r : Wit.Tw} (hok : (Wit.Tw.fork ks f top near l r).Ok) (hx : Wit.TxAt wd xs i (.fork ks f top near l r)) {cv : Value} {cs : List Wit.Ch} (hxl : xs.length ≤ 2 ^ 40)
    (hl : ∀ w li,No w0 w → Wit.TxAt wd xs li l → dDig wd cs wb li cv w l) (hr : ∀ w li,No w0 w → Wit.TxAt wd xs li r → dDig wd cs wb li cv w r) : bDig wd cs wb i cv w0 (.fork ks f top near l r) := by
 refine Tryz.go210 (by simp) ?_
 obtain⟨li,ri,hx,hxl',hxr'⟩:=hx
 obtain⟨ev,tb,to,tc,gv,rv,q,kv,nv,vv,hc,he,hrt,hrf,hkv,hnv,hvv,hall⟩:=hY.text hx
 dsimp only[Option.isSome,Option.getD] at hrt hrf hkv hnv hvv hall
 have hil:=(List.getElem?_eq_some_iff.1 hx).1
 obtain⟨W1,hW1,f1,k1,s1⟩:=allocs1 w0 (bl (List.replicate 32 0)) 23
 have r1:=(hc.no f1).row
 have rt:=hrt W1 f1
 obtain⟨W2,q2,k2,f2,s2⟩:=allocT W1 (row:=txC kv top f nv (li:Nat) (ri:Nat) false vv) rfl hall
 have y1:(0:Int)≤(i:Int)∧(i:Int)<((xs.length:Nat):Int):=by omega
 have r2:=rdO_row (P:=Tryz.prog) k2
 have hfp:=hok.f_pos
 have d1:decide (((f:Nat):Int) > 0)=true:=by simp;omega
 simp -implicitDefEqProofs only[go_sem,Nat.reduceEqDiff,Nat.reduceBEq,Nat.reduceAdd,gLa,gLz,gLs,Tryz.f210,Value.cells,bl_zero,hW1,r1,ldO_one,y1,and_self,Int.toNat_natCast,rt,q2,r2,d1]
 have f02:=f1.trans f2
 refine contL_call Tryz.pl134 ((hl W2 li f02 hxl').mono ?_)
 rintro _ w3 ⟨rfl,f3⟩
 have ll:(Wit.dig wd (Wit.saysC cs) l).length=32:=Wit.dig_len _ _ _
 obtain⟨W4,q4,k4,f4,s4⟩:=allocD w3 (ty:=23) Tryz.sz23 ll
 have f04:=(f02.trans f3).trans f4
 have r4:=rdO_row (P:=Tryz.prog) ((f3.trans f4).at k2 id)
 simp -implicitDefEqProofs only[go_sem,Nat.reduceEqDiff,Nat.reduceBEq,Nat.reduceAdd,gLa,gLz,gLs,Value.cells,bl_zero,q4,r4,ldO_one]
 refine contL_call Tryz.pl134 ((hr W4 ri f04 hxr').mono ?_)
 rintro _ w5 ⟨rfl,f5⟩
 have lr:(Wit.dig wd (Wit.saysC cs) r).length=32:=Wit.dig_len _ _ _
 obtain⟨W6,q6,k6,f6,s6⟩:=allocD w5 (ty:=23) Tryz.sz23 lr
 have f06:=(f04.trans f5).trans f6
 have r6:=(hc.no f06).row
 have k46:=(f5.trans f6).at k4 id
 have ra:=rd_d Tryz.agg23 Tryz.sz23 k46 ll
 have rb:=rd_d Tryz.agg23 Tryz.sz23 k6 lr
 have rad:rdO Tryz.prog 23 W6.drew w3.heap.size 0=_:=ra
 have rbd:rdO Tryz.prog 23 W6.drew w5.heap.size 0=_:=rb
 have r6d:∀ t o,rdO Tryz.prog t W6.drew wb o=_:=r6
 simp -implicitDefEqProofs only[go_sem,Nat.reduceEqDiff,Nat.reduceBEq,Nat.reduceAdd,gLa,gLz,gLs,Value.cells,bl_zero,q6,r6,r6d,ra,rb,rad,rbd,ldO_one]
 refine contL_call Tryz.pl100 ((branch W6.drew (ht.no f06.drew) wd ll lr).mono ?_)
 rintro _ w7 ⟨rfl,f7⟩
 have lb:(branchD wd (Wit.dig wd (Wit.saysC cs) l) (Wit.dig wd (Wit.saysC cs) r)).length=32:=branchD_len _ _ _
 have f07:=f06.drew.trans f7
 have k7:=((((f2.trans f3).trans f4).trans f5).trans f6).drew.trans f7 |>.at k1 id
 have q8:=wr_d Tryz.sz23 k7 zl32 lb
 have r8:=rd_d Tryz.agg23 Tryz.sz23 (put_at (o:=.cells (bl (branchD wd (Wit.dig wd (Wit.saysC cs) l) (Wit.dig wd (Wit.saysC cs) r))) 23 (0,0)) k7) lb
 simp -implicitDefEqProofs only[go_sem,Nat.reduceEqDiff,Nat.reduceBEq,Nat.reduceAdd,gLa,gLz,gLs,q8,r8]
 exact⟨rfl,f07.put (b:=w0.heap.size) _ fun h=>by omega⟩
set_option maxHeartbeats 2000000 in
theorem baseL (u w0 : World) (ht : Tabs w0) {wb i : Nat} {wd : Int} {xs : List Wit.Tx} (hY : WtY u w0 wb wd xs) {k : Bs} {top : Nat} {near : List Bs} {a : Option Bs} (hok : (Wit.Tw.leaf k top near a).Ok) (hx : Wit.TxAt wd xs i (.leaf k top near a)) {cv : Value} {cs : List Wit.Ch} (hxl : xs.length ≤ 2 ^ 40)
    (hcs : CsR w0 cv cs) (hcl : ChL cs) : bDig wd cs wb i cv w0 (.leaf k top near a) := by
 refine Tryz.go210 (by simp) ?_
 have hx:xs[i]?=_:=hx
 obtain⟨ev,tb,to,tc,gv,rv,q,kv,nv,vv,hc,he,hrt,hrf,hkv,hnv,hvv,hall⟩:=hY.text hx
 dsimp only at hrt hrf hkv hnv hvv hall
 have hil:=(List.getElem?_eq_some_iff.1 hx).1
 have hk:=hok.1
 obtain⟨W1,hW1,f1,k1,s1⟩:=allocs1 w0 (bl (List.replicate 32 0)) 23
 have r1:=(hc.no f1).row
 have rt:=hrt W1 f1
 obtain⟨W2,q2,k2,f2,s2⟩:=allocT W1 (row:=txC kv top 0 nv (0:Nat) (0:Nat) a.isSome vv) rfl hall
 have f02:=f1.trans f2
 have y1:(0:Int)≤(i:Int)∧(i:Int)<((xs.length:Nat):Int):=by omega
 have r2:=rdO_row (P:=Tryz.prog) k2
 have d1:decide (((0:Nat):Int) > 0)=false:=rfl
 obtain⟨kb,ko,kc,rfl,_,_⟩:=(hkv.fr0 f02).pos (by simp)
 have rk:rdO Tryz.prog 34 W2 kb ko=some (dg k):=by
  have:=(hkv.fr0 f02).get (P:=Tryz.prog) Tryz.agg34 Tryz.sz34 (i:=0) (by simp)
  rw[Nat.zero_mul,Nat.add_zero] at this
  exact this
 have y2:(0:Int)≤0∧(0:Int)<((([k]:List Bs).length:Nat):Int):=by simp
 obtain⟨W3,q3,k3,f3,s3⟩:=allocD W2 (ty:=34) Tryz.sz34 hk
 have f03:=f02.trans f3
 have r3:=rd_d Tryz.agg34 Tryz.sz34 k3 hk
 simp -implicitDefEqProofs only[go_sem,Nat.reduceEqDiff,Nat.reduceBEq,Nat.reduceAdd,gLa,gLz,gLs,Tryz.f210,Value.cells,bl_zero,hW1,r1,ldO_one,y1,and_self,Int.toNat_natCast,rt,q2,r2,d1,y2,rk,q3,r3,Int.toNat_zero,Nat.zero_mul,Nat.add_zero]
 refine contL_call Tryz.pl162 ((says W3 (hcs.fr0 f03) hcl.1 hk).mono ?_)
 rintro r w4 ⟨f4,h4⟩
 have f04:=f03.trans f4
 obtain⟨eb,eo,ec,rfl,_,_⟩:=he.pos (by rw[empts_len];decide)
 have hbase:Wit.base wd (Wit.saysC cs) (.leaf k top near a)=Wit.ldig wd k (match Wit.findC cs k with | none=>a | some c=>c.ans):=rfl
 have y3:(0:Int)≤0∧(0:Int)<(((empts wd 257).length:Nat):Int):=by rw[empts_len];decide
 cases hfc:Wit.findC cs k with
 | none =>
  rw[hfc] at h4 hbase
  obtain⟨row,rfl,hrs,hra⟩:=h4
  obtain⟨W5,q5,k5,f5,s5⟩:=allocC w4 hrs hra
  have f05:=f04.trans f5
  have r5:=rdO_row (P:=Tryz.prog) (((f3.trans f4).trans f5).at k2 id)
  have rw5:=(hc.no f05).row
  cases a with
  | none =>
   have re:rdO Tryz.prog 23 W5 eb eo=some (dg (emptD wd 0)):=by
    have:=(he.fr0 f05).get (P:=Tryz.prog) Tryz.agg23 Tryz.sz23 (i:=0) (by rw[empts_len];decide)
    rw[Nat.zero_mul,Nat.add_zero,List.getD_eq_getElem?_getD,empts_at wd 257 (by decide)] at this
    exact this
   have q6:=wr_d Tryz.sz23 ((((f2.trans f3).trans f4).trans f5).at k1 id) zl32 (emptD_len wd 0)
   have k6:=put_at (o:=.cells (bl (emptD wd 0)) 23 (0,0)) ((((f2.trans f3).trans f4).trans f5).at k1 id)
   have r6:=rd_d Tryz.agg23 Tryz.sz23 k6 (emptD_len wd 0)
   simp -implicitDefEqProofs only[go_sem,Nat.reduceEqDiff,Nat.reduceBEq,Nat.reduceAdd,gLa,gLz,gLs,Value.cells,q5,r5,rw5,ldO_one,Option.isSome,y3,re,q6,r6,Int.toNat_zero,Nat.zero_mul,Nat.add_zero]
   exact⟨by rw[hbase];rfl,f05.put (b:=w0.heap.size) _ fun h=>by omega⟩
  | some val =>
   have r3':=rd_d Tryz.agg34 Tryz.sz34 ((f4.trans f5).at k3 id) hk
   have r3d:rdO Tryz.prog 34 W5.drew W2.heap.size 0=some (dg k):=r3'
   have rwd:∀ t o,rdO Tryz.prog t W5.drew wb o=_:=rw5
   simp -implicitDefEqProofs only[go_sem,Nat.reduceEqDiff,Nat.reduceBEq,Nat.reduceAdd,gLa,gLz,gLs,Value.cells,q5,r5,rw5,rwd,ldO_one,r3',r3d,Option.isSome]
   refine contL_call Tryz.pl101 ((leaf W5.drew (ht.no f05.drew) wd hk (val:=val) ((hvv.fr0 f05).fr0 (Fr.refl _ _).drew) (by have:=hok.2.2.2.2 val rfl;omega)).mono ?_)
   rintro _ w6 ⟨rfl,f6⟩
   have ll:(leafD wd k val).length=32:=leafD_len _ _ _
   have f06:=f05.drew.trans f6
   have k6:=((((f2.trans f3).trans f4).trans f5).drew.trans f6).at k1 id
   have q7:=wr_d Tryz.sz23 k6 zl32 ll
   have r7:=rd_d Tryz.agg23 Tryz.sz23 (put_at (o:=.cells (bl (leafD wd k val)) 23 (0,0)) k6) ll
   simp -implicitDefEqProofs only[go_sem,Nat.reduceEqDiff,Nat.reduceBEq,Nat.reduceAdd,gLa,gLz,gLs,q7,r7]
   exact⟨by rw[hbase];rfl,f06.put (b:=w0.heap.size) _ fun h=>by omega⟩
 | some c =>
  rw[hfc] at h4 hbase
  obtain⟨cvv,rfl,hl32,hov,hby⟩:=h4
  have hrs:(chRow c cvv).toArray.size=34:=by rw[List.size_toArray,chRow_len cvv hl32]
  have hra:(chRow c cvv).toArray.all one=true:=by
   rw[← Array.all_toList]
   have h1:(c.1.map u8).all one=true:=by
    rw[List.all_eq_true]
    intro x hx
    obtain⟨y,_,rfl⟩:=List.mem_map.1 hx
    rfl
   simp only[chRow,List.all_append,List.all_cons,List.all_nil,hov,h1,Bool.and_true,Bool.true_and]
   rfl
  obtain⟨W5,q5,k5,f5,s5⟩:=allocC w4 hrs hra
  have f05:=f04.trans f5
  have r5:=rdO_row (P:=Tryz.prog) (((f3.trans f4).trans f5).at k2 id)
  have rw5:=(hc.no f05).row
  have g1:rdO Tryz.prog 4 W5 w4.heap.size 32=some (.bool c.2.1):=ld_one Tryz.agg4 k5 (by rw[List.getElem?_toArray,chRow,List.getElem?_append_right (by simp[hl32])];simp[hl32])
  have g2:rdO Tryz.prog 25 W5 w4.heap.size 33=some cvv:=ld_one Tryz.agg25 k5 (by rw[List.getElem?_toArray,chRow,List.getElem?_append_right (by simp[hl32])];simp[hl32])
  have hcv:=hcl.2 c (findC_mem hfc)
  have hby:=hby.fr0 (f4.trans f5)
  obtain⟨ck,cdel,cval⟩:=c
  dsimp only at *
  cases cdel with
  | true =>
   have re:rdO Tryz.prog 23 W5 eb eo=some (dg (emptD wd 0)):=by
    have:=(he.fr0 f05).get (P:=Tryz.prog) Tryz.agg23 Tryz.sz23 (i:=0) (by rw[empts_len];decide)
    rw[Nat.zero_mul,Nat.add_zero,List.getD_eq_getElem?_getD,empts_at wd 257 (by decide)] at this
    exact this
   have q6:=wr_d Tryz.sz23 ((((f2.trans f3).trans f4).trans f5).at k1 id) zl32 (emptD_len wd 0)
   have k6:=put_at (o:=.cells (bl (emptD wd 0)) 23 (0,0)) ((((f2.trans f3).trans f4).trans f5).at k1 id)
   have r6:=rd_d Tryz.agg23 Tryz.sz23 k6 (emptD_len wd 0)
   simp -implicitDefEqProofs only[go_sem,Nat.reduceEqDiff,Nat.reduceBEq,Nat.reduceAdd,gLa,gLz,gLs,Value.cells,q5,r5,rw5,ldO_one,g1,g2,y3,re,q6,r6,Int.toNat_zero,Nat.zero_mul,Nat.add_zero]
   exact⟨by rw[hbase];rfl,f05.put (b:=w0.heap.size) _ fun h=>by omega⟩
  | false =>
   have r3':=rd_d Tryz.agg34 Tryz.sz34 ((f4.trans f5).at k3 id) hk
   have r3d:rdO Tryz.prog 34 W5.drew W2.heap.size 0=some (dg k):=r3'
   have rwd:∀ t o,rdO Tryz.prog t W5.drew wb o=_:=rw5
   simp -implicitDefEqProofs only[go_sem,Nat.reduceEqDiff,Nat.reduceBEq,Nat.reduceAdd,gLa,gLz,gLs,Value.cells,q5,r5,rw5,rwd,ldO_one,r3',r3d,g1,g2]
   refine contL_call Tryz.pl101 ((leaf W5.drew (ht.no f05.drew) wd hk (val:=cval) (hby.fr0 (Fr.refl _ _).drew) (by simpa using hcv)).mono ?_)
   rintro _ w6 ⟨rfl,f6⟩
   have ll:(leafD wd k cval).length=32:=leafD_len _ _ _
   have f06:=f05.drew.trans f6
   have k6:=((((f2.trans f3).trans f4).trans f5).drew.trans f6).at k1 id
   have q7:=wr_d Tryz.sz23 k6 zl32 ll
   have r7:=rd_d Tryz.agg23 Tryz.sz23 (put_at (o:=.cells (bl (leafD wd k cval)) 23 (0,0)) k6) ll
   simp -implicitDefEqProofs only[go_sem,Nat.reduceEqDiff,Nat.reduceBEq,Nat.reduceAdd,gLa,gLz,gLs,q7,r7]
   exact⟨by rw[hbase];rfl,f06.put (b:=w0.heap.size) _ fun h=>by omega⟩
def clI (w3:World) (zb wb tb db top:Nat) (wd:Int) (t:Wit.Tw) (x full:Bs) (g:Nat) (n:Nat) (vs:List Value) (w:World):Prop :=
 ∃ (h:Nat) (d:Bs),vs=[pt wb 0,.int .i64 (g:Nat),pt zb 0,pt tb 0,pt db 0,.int .i64 (h:Nat)]∧t.fr≤h∧h≤g∧n=g - h∧d.length=32∧full=climb wd t.key h d ((t.near.drop (h - t.fr)).take (g - h))∧w.heap[db]?=some (.cells (bl d) 23 (0,0))∧Fr (fun b=>b=db) w3 w
set_option maxHeartbeats 2000000 in
theorem climbedF (u w0 : World) (ht : Tabs w0) {wb i : Nat} {wd : Int} {xs : List Wit.Tx} (hY : WtY u w0 wb wd xs) {t : Wit.Tw} (hok : t.Ok) (hx : Wit.TxAt wd xs i t) {cv : Value} {cs : List Wit.Ch} (hxl : xs.length ≤ 2 ^ 40)
    (hb : ∀ w,No w0 w → bDig wd cs wb i cv w t) {g : Nat} (hg1 : t.fr ≤ g) (hg2 : g ≤ t.top) : Fn Tryz.prog 181 #[pt wb 0,.int .i64 (i : Nat),cv,.int .i64 (g : Nat)] w0 fun v w' => v = dg (climb wd t.key t.fr (Wit.base wd (Wit.saysC cs) t) (t.near.take (g - t.fr))) ∧ No w0 w' := by
 obtain⟨x,hx,e1,e2,e3,e4⟩:∃ x,xs[i]?=some x∧x.top=t.top∧x.fr=t.fr∧x.keys=t.keys∧∀ h,t.fr≤h→h<t.top→x.near.getD h []=t.near.getD (h - t.fr) []∧h<x.near.length:=by
  cases t with
  | leaf k top near a=>exact⟨_,hx,rfl,rfl,rfl,fun h h1 h2=>⟨by simp only[Wit.Tw.near,Wit.Tw.fr,Nat.sub_zero],by have:=hok.2.2.1;simp only[Wit.Tw.top] at h2;simp only;omega⟩⟩
  | fork ks f top near l r =>
   obtain⟨_,_,h,_⟩:=hx
   have hft:=hok.2.1
   have htt:=hok.2.2.1
   have hl:((empts wd 257).take f).length=f:=by rw[List.length_take,empts_len];omega
   refine⟨_,h,rfl,rfl,rfl,fun h h1 h2=>?_⟩
   simp only[Wit.Tw.near,Wit.Tw.fr,Wit.Tw.top] at *
   refine⟨?_,by rw[List.length_append,hl,hok.2.2.2.1];omega⟩
   rw[List.getD_eq_getElem?_getD,List.getD_eq_getElem?_getD,List.getElem?_append_right (by omega),hl]
 refine Tryz.go181 (by simp) ?_
 obtain⟨ev,tb,to,tc,gv,rv,q,kv,nv,vv,hc,he,hrt,hrf,hkv,hnv,hvv,hall⟩:=hY.text hx
 rw[e1,e2] at hrt hrf hall
 have hil:=(List.getElem?_eq_some_iff.1 hx).1
 have htop:=hok.top_le
 obtain⟨W1,hW1,f1,k1,s1⟩:=allocs1 w0 (bl (List.replicate 32 0)) 23
 have r1:=(hc.no f1).row
 have rt:=hrt W1 f1
 obtain⟨W2,q2,k2,f2,s2⟩:=allocT W1 (row:=txC kv t.top t.fr nv (x.left:Nat) (x.right:Nat) x.ans.isSome vv) rfl hall
 have f02:=f1.trans f2
 have y1:(0:Int)≤(i:Int)∧(i:Int)<((xs.length:Nat):Int):=by omega
 have r2:=rdO_row (P:=Tryz.prog) k2
 simp -implicitDefEqProofs only[go_sem,Nat.reduceEqDiff,Nat.reduceBEq,Nat.reduceAdd,gLa,gLz,gLs,Tryz.f181,Value.cells,bl_zero,hW1,r1,ldO_one,y1,and_self,Int.toNat_natCast,rt,q2]
 refine contL_call Tryz.pl210 ((hb W2 f02).mono ?_)
 rintro _ w3 ⟨rfl,f3⟩
 have hbl:(Wit.base wd (Wit.saysC cs) t).length=32:=Wit.base_len _ _ _
 obtain⟨W4,q4,k4,f4,s4⟩:=allocD w3 (ty:=23) Tryz.sz23 hbl
 have f04:=(f02.trans f3).trans f4
 have k24:=(f3.trans f4).at k2 id
 have r4:=rdO_row (P:=Tryz.prog) k24
 simp -implicitDefEqProofs only[go_sem,Nat.reduceEqDiff,Nat.reduceBEq,Nat.reduceAdd,gLa,gLz,gLs,Value.cells,bl_zero,q4,r4,ldO_one]
 have hnl:=hok.near_len
 have h12:W1.heap.size<w3.heap.size:=by have:=heap_lt (f3.at k2 id);omega
 have h02:w0.heap.size<w3.heap.size:=by have:=f3.size;have:=f2.size;omega
 generalize hfull:climb wd t.key t.fr (Wit.base wd (Wit.saysC cs) t) (t.near.take (g - t.fr))=full
 refine loopD [0,3,8,9,10,11] (clI W4 w0.heap.size wb W1.heap.size w3.heap.size t.top wd t (Wit.base wd (Wit.saysC cs) t) full g) (g - t.fr) ⟨t.fr,_,rfl,Nat.le_refl _,hg1,rfl,hbl,by rw[Nat.sub_self,List.drop_zero,hfull],k4,Fr.refl _ _⟩ ?_
 rintro _ vs w5 gg ⟨h,d,rfl,hh1,hh2,rfl,hdl,hfl,k5,f5⟩
 have k25:=f5.at k24 (by omega)
 have f05:No w0 w5:=f04.trans' f5 fun b hb e=>by omega
 have r5:=rdO_row (P:=Tryz.prog) k25
 by_cases hlt:h<g
 ·have d1:decide ((h:Int)<(g:Int))=true:=by simp;omega
  have c1:IntKind.i64.wrap ((h:Int)+1)=((h+1:Nat):Int):=i64add (b:=1) (by omega)
  have c2:IntKind.i64.wrap (255 - (h:Int))=((255 - h:Nat):Int):=i64sub (a:=255) (by omega) (by omega)
  have hkp:=hok.keys_pos
  have hkl:=hok.key_len
  rw[e3] at hkv
  obtain⟨kb',ko,kc,rfl,_,_⟩:=(hkv.fr0 f05).pos hkp
  have rk:rdO Tryz.prog 34 w5 kb' ko=some (dg t.key):=by
   have:=(hkv.fr0 f05).get (P:=Tryz.prog) Tryz.agg34 Tryz.sz34 (i:=0) hkp
   rw[Nat.zero_mul,Nat.add_zero,← head_getD] at this
   exact this
  have y2:(0:Int)<((t.keys.length:Nat):Int):=by omega
  have e4':=e4 h hh1 (by omega)
  obtain⟨nb,no,nc,rfl,_,_⟩:=hnv.pos (by omega)
  have y3:(0:Int)≤(h:Int)∧(h:Int)<((x.near.length:Nat):Int):=by omega
  simp -implicitDefEqProofs only[go_sem,Nat.reduceEqDiff,Nat.reduceBEq,Nat.reduceAdd,gLa,gLz,gLs,d1,r5,ldO_one,e3,y2,rk,Int.le_refl,and_self,if_true,Int.toNat_zero,Nat.zero_mul,Nat.add_zero,c2]
  refine contL_call Tryz.pl166 ((bit3 w5 hkl (i:=255 - h) (by omega)).mono ?_)
  rintro _ w6 ⟨rfl,f6⟩
  have f06:=f05.trans f6
  have k26:=f6.at k25 id
  have r6:=rdO_row (P:=Tryz.prog) k26
  have r6d:∀ t o,rdO Tryz.prog t w6.drew W1.heap.size o=_:=r6
  have rw6:=(hc.no f06).row
  have rw6d:∀ t o,rdO Tryz.prog t w6.drew wb o=_:=rw6
  have k56:=f6.at k5 id
  have rd6:=rd_d Tryz.agg23 Tryz.sz23 k56 hdl
  have rd6d:rdO Tryz.prog 23 w6.drew w3.heap.size 0=_:=rd6
  have rn:=(hnv.fr0 f06).get (P:=Tryz.prog) Tryz.agg23 Tryz.sz23 (i:=h) e4'.2
  rw[e4'.1] at rn
  have rnd:rdO Tryz.prog 23 w6.drew nb (no+h*32)=_:=rn
  have hnn:(t.near.getD (h - t.fr) []).length=32:=hok.near32.getD (by omega)
  have hstep:(t.near.drop (h - t.fr)).take (g - h)=t.near.getD (h - t.fr) []::(t.near.drop (h+1 - t.fr)).take (g - (h+1)):=by
   rw[List.drop_eq_getElem_cons (by omega),show g - h=(g - (h+1))+1 by omega,List.take_succ_cons,getD_lt _ (by omega),show h - t.fr+1=h+1 - t.fr by omega]
  rw[hstep,climb] at hfl
  unfold up at hfl
  unfold kb
  by_cases hbit:kbit t.key (255 - h)=true
  ·rw[if_pos hbit] at hfl
   rw[if_pos hbit]
   have d0:((1:Int) == 0)=false:=rfl
   simp -implicitDefEqProofs only[go_sem,Nat.reduceEqDiff,Nat.reduceBEq,Nat.reduceAdd,gLa,gLz,gLs,d0,r6,r6d,rw6,rw6d,ldO_one,rd6,rd6d,y3,and_self,Int.toNat_natCast,rn,rnd]
   refine contL_call Tryz.pl100 ((branch w6.drew (ht.no f06.drew) wd hnn hdl).mono ?_)
   rintro _ w7 ⟨rfl,f7⟩
   have lb:(branchD wd (t.near.getD (h - t.fr) []) d).length=32:=branchD_len _ _ _
   have k57:w7.heap[w3.heap.size]?=_:=f7.at (w:=w6.drew) k56 id
   have q8:=wr_d Tryz.sz23 k57 hdl lb
   simp -implicitDefEqProofs only[go_sem,Nat.reduceEqDiff,Nat.reduceBEq,Nat.reduceAdd,gLa,gLz,gLs,q8,c1]
   exact⟨g - (h+1),by omega,h+1,_,rfl,by omega,by omega,rfl,lb,hfl,put_at k57,(((f5.trans (f6.drew.mono fun _ _ h=>h.elim)).trans (f7.mono fun _ _ h=>h.elim))).put (b:=w3.heap.size) _ fun _=>rfl⟩
  ·rw[if_neg hbit] at hfl
   rw[if_neg hbit]
   have d0:((0:Int) == 0)=true:=rfl
   simp -implicitDefEqProofs only[go_sem,Nat.reduceEqDiff,Nat.reduceBEq,Nat.reduceAdd,gLa,gLz,gLs,d0,r6,r6d,rw6,rw6d,ldO_one,rd6,rd6d,y3,and_self,Int.toNat_natCast,rn,rnd]
   refine contL_call Tryz.pl100 ((branch w6.drew (ht.no f06.drew) wd hdl hnn).mono ?_)
   rintro _ w7 ⟨rfl,f7⟩
   have lb:(branchD wd d (t.near.getD (h - t.fr) [])).length=32:=branchD_len _ _ _
   have k57:w7.heap[w3.heap.size]?=_:=f7.at (w:=w6.drew) k56 id
   have q8:=wr_d Tryz.sz23 k57 hdl lb
   simp -implicitDefEqProofs only[go_sem,Nat.reduceEqDiff,Nat.reduceBEq,Nat.reduceAdd,gLa,gLz,gLs,q8,c1]
   exact⟨g - (h+1),by omega,h+1,_,rfl,by omega,by omega,rfl,lb,hfl,put_at k57,(((f5.trans (f6.drew.mono fun _ _ h=>h.elim)).trans (f7.mono fun _ _ h=>h.elim))).put (b:=w3.heap.size) _ fun _=>rfl⟩
 ·have d1:decide ((h:Int)<(g:Int))=false:=by simp;omega
  obtain rfl:h=g:=by omega
  rw[Nat.sub_self,List.take_zero] at hfl
  have hfl:full=d:=hfl
  subst hfl
  have rd5:=rd_d Tryz.agg23 Tryz.sz23 k5 hdl
  have k15:=f5.at (((f2.trans f3).trans f4).at k1 id) (by omega)
  have q6:=wr_d Tryz.sz23 k15 zl32 hdl
  have r6:=rd_d Tryz.agg23 Tryz.sz23 (put_at (o:=.cells (bl full) 23 (0,0)) k15) hdl
  simp -implicitDefEqProofs only[go_sem,Nat.reduceEqDiff,Nat.reduceBEq,Nat.reduceAdd,gLa,gLz,gLs,d1,rd5,q6,r6]
  exact f05.put (b:=w0.heap.size) _ fun h=>by omega
theorem digOf (u w0 : World) (ht : Tabs w0) {wb i : Nat} {wd : Int} {xs : List Wit.Tx} (hY : WtY u w0 wb wd xs) {t : Wit.Tw} (hok : t.Ok) (hx : Wit.TxAt wd xs i t) {cv : Value} {cs : List Wit.Ch} (hxl : xs.length ≤ 2 ^ 40)
    (hb : ∀ w,No w0 w → bDig wd cs wb i cv w t) : dDig wd cs wb i cv w0 t := by
 refine Tryz.go134 (by simp) ?_
 obtain⟨x,hx',e1⟩:∃ x,xs[i]?=some x∧x.top=t.top:=by
  cases t with
  | leaf k top near a=>exact⟨_,hx,rfl⟩
  | fork ks f top near l r=>obtain⟨_,_,h,_⟩:=hx;exact⟨_,h,rfl⟩
 obtain⟨ev,tb,to,tc,gv,rv,q,kv,nv,vv,hc,he,hrt,hrf,hkv,hnv,hvv,hall⟩:=hY.text hx'
 rw[e1] at hrf
 have hil:=(List.getElem?_eq_some_iff.1 hx').1
 obtain⟨W1,hW1,f1,k1,s1⟩:=allocs1 w0 (bl (List.replicate 32 0)) 23
 have r1:=(hc.no f1).row
 have rt:=hrf W1 1 3 f1 Tryz.agg3 (by decide)
 have y1:(0:Int)≤(i:Int)∧(i:Int)<((xs.length:Nat):Int):=by omega
 simp -implicitDefEqProofs only[go_sem,Nat.reduceEqDiff,Nat.reduceBEq,Nat.reduceAdd,gLa,gLz,gLs,Tryz.f134,Value.cells,bl_zero,hW1,r1,ldO_one,y1,and_self,Int.toNat_natCast,rt]
 refine contL_call Tryz.pl181 ((climbedF u W1 (ht.no f1) (hY.fr0 f1) hok hx hxl (fun w f=>hb w (f1.trans f)) hok.fr_le (Nat.le_refl _)).mono ?_)
 rintro _ w2 ⟨rfl,f2⟩
 have e:climb wd t.key t.fr (Wit.base wd (Wit.saysC cs) t) (t.near.take (t.top - t.fr))=Wit.dig wd (Wit.saysC cs) t:=by
  rw[← hok.near_len,List.take_length];rfl
 rw[e]
 have hl:=Wit.dig_len wd (Wit.saysC cs) t
 have k2:=f2.at k1 id
 have q3:=wr_d Tryz.sz23 k2 zl32 hl
 have r3:=rd_d Tryz.agg23 Tryz.sz23 (put_at (o:=.cells (bl (Wit.dig wd (Wit.saysC cs) t)) 23 (0,0)) k2) hl
 simp -implicitDefEqProofs only[go_sem,Nat.reduceEqDiff,Nat.reduceBEq,Nat.reduceAdd,gLa,gLz,gLs,q3,r3]
 exact (f1.trans f2).put (b:=w0.heap.size) _ fun h=>by omega
theorem base (u:World) {wb:Nat} {wd:Int} {xs:List Wit.Tx} (hxl:xs.length≤2 ^ 40) {cv:Value} {cs:List Wit.Ch} (hcl:ChL cs):∀ (t:Wit.Tw) (w0:World) (i:Nat),Tabs w0→WtY u w0 wb wd xs→t.Ok→Wit.TxAt wd xs i t→CsR w0 cv cs→bDig wd cs wb i cv w0 t
 | .leaf _ _ _ _,w0,_,ht,hY,hok,hx,hcs=>baseL u w0 ht hY hok hx hxl hcs hcl
 | .fork _ _ _ _ l r,w0,_,ht,hY,hok,hx,hcs=>by
  obtain⟨_,_,_,_,_,_,_,_,_,_,_,_,h13,h14⟩:=id hok
  exact baseF u w0 ht hY hok hx hxl (fun w li f h=>digOf u w (ht.no f) (hY.fr0 f) h13 h hxl fun w2 f2=>base u hxl hcl l w2 li ((ht.no f).no f2) ((hY.fr0 f).fr0 f2) h13 h ((hcs.fr0 f).fr0 f2))
   (fun w li f h=>digOf u w (ht.no f) (hY.fr0 f) h14 h hxl fun w2 f2=>base u hxl hcl r w2 li ((ht.no f).no f2) ((hY.fr0 f).fr0 f2) h14 h ((hcs.fr0 f).fr0 f2))
theorem digest (u : World) {wb : Nat} {wd : Int} {xs : List Wit.Tx} (hxl : xs.length ≤ 2 ^ 40) {cv : Value} {cs : List Wit.Ch} (hcl : ChL cs) {t : Wit.Tw} {w0 : World} {i : Nat} (ht : Tabs w0) (hY : WtY u w0 wb wd xs) (hok : t.Ok) (hx : Wit.TxAt wd xs i t) (hcs : CsR w0 cv cs) :
    dDig wd cs wb i cv w0 t := digOf u w0 ht hY hok hx hxl fun w f => base u hxl hcl t w i (ht.no f) (hY.fr0 f) hok hx (hcs.fr0 f)
/-- the root's digest -/
theorem root (u w0 : World) (ht : Tabs w0) {wb : Nat} {wd : Int} {t : Wit.Tw} (hY : WtY u w0 wb wd (Wit.flatT wd 0 t)) (hok : t.Ok) (hs : t.size ≤ 2 ^ 40) {cv : Value} {cs : List Wit.Ch} (hcs : CsR w0 cv cs) (hcl : ChL cs) :
    Fn Tryz.prog 85 #[pt wb 0,cv] w0 fun v w' => v = dg (Wit.dig wd (Wit.saysC cs) t) ∧ No w0 w' := by
 refine Tryz.go85 (by simp) ?_
 have hlen:=Wit.flatT_len wd t 0
 have hsp:=t.size_pos
 have hx:Wit.TxAt wd (Wit.flatT wd 0 t) (t.size - 1) t:=by have:=Wit.flat_at' wd t [];simpa using this
 obtain⟨W1,hW1,f1,k1,s1⟩:=allocs1 w0 (bl (List.replicate 32 0)) 23
 have hY1:=hY.fr0 f1
 obtain⟨ev,rv,tv,gv,q,txs,gvs,h2,h3,h4⟩:=id hY1
 obtain⟨ta,tc,rfl,_⟩:=h3.txr.rd.slice
 have r1:=h3.cell.row
 have htl:txs.length=t.size:=h4.1.trans hlen
 have c1:IntKind.i64.wrap (((txs.length:Nat):Int) - 1)=((t.size - 1:Nat):Int):=by rw[htl];exact i64sub (b:=1) (by omega) (by omega)
 simp -implicitDefEqProofs only[go_sem,Nat.reduceEqDiff,Nat.reduceBEq,Nat.reduceAdd,gLa,gLz,gLs,Tryz.f85,Value.cells,bl_zero,hW1,r1,ldO_one,c1]
 refine contL_call Tryz.pl134 ((digest u (by omega) hcl (ht.no f1) hY1 hok hx (hcs.fr0 f1)).mono ?_)
 rintro _ w2 ⟨rfl,f2⟩
 have hl:=Wit.dig_len wd (Wit.saysC cs) t
 have k2:=f2.at k1 id
 have q3:=wr_d Tryz.sz23 k2 zl32 hl
 have r3:=rd_d Tryz.agg23 Tryz.sz23 (put_at (o:=.cells (bl (Wit.dig wd (Wit.saysC cs) t)) 23 (0,0)) k2) hl
 simp -implicitDefEqProofs only[go_sem,Nat.reduceEqDiff,Nat.reduceBEq,Nat.reduceAdd,gLa,gLz,gLs,q3,r3]
 exact (f1.trans f2).put (b:=w0.heap.size) _ fun h=>by omega
end R
end Go.V
end
section
namespace Go.V
open Go.Proofs Sha
set_option maxRecDepth 100000
namespace Wit
def underP (w:Int) (root:Bs) (ks:List Bs) (raw:Bs):Except Int (Option Tw) :=
 match form w ks raw with
 | .error e=>.error e
 | .ok none=>.ok none
 | .ok (some t)=>if dig w asIs t=root then .ok (some t) else .error 131
theorem underP_ok {w:Int} {root:Bs} {ks:List Bs} {raw:Bs} {t:Tw} (h:underP w root ks raw=.ok (some t)):form w ks raw=.ok (some t)∧dig w asIs t=root:=by
 unfold underP at h
 split at h
 ·cases h
 ·cases h
 ·rename_i t' hf
  split at h
  ·rename_i hd
   simp only[Except.ok.injEq,Option.some.injEq] at h;subst h
   exact⟨hf,hd⟩
  ·cases h
theorem underP_none {w:Int} {root:Bs} {ks:List Bs} {raw:Bs} (h:underP w root ks raw=.ok none):ks=[]:=by
 unfold underP form at h
 by_cases h0:ks=[]
 ·exact h0
 ·rw[if_neg h0] at h
  exfalso
  revert h
  split
  ·simp
  ·rename_i hh
   split at hh
   ·cases hh
   ·split at hh
    ·cases hh
    ·split at hh <;> cases hh
  ·split <;> simp
def verifyP (w:Int) (root:Bs) (ks:List Bs) (raw:Bs):Except Int (List (Option Bs)) :=
 match sortW w ks with
 | .error e=>.error e
 | .ok l=>match underP w root l raw with
  | .error e=>.error e
  | .ok none=>.ok []
  | .ok (some t)=>.ok (ks.map t.at)
end Wit
theorem form_err {w:Int} {ks:List Bs} {raw:Bs} {e:Int} (h:Wit.form w ks raw=.error e):(e == 0)=false:=by
 have hc:∀ gs:List (Nat × Bs),Wit.chk w gs=0∨Wit.chk w gs=120∨Wit.chk w gs=130:=by
  intro gs
  induction gs with
  | nil=>exact .inl rfl
  | cons p gs ih =>
   simp only[Wit.chk]
   split
   ·exact .inr (.inl rfl)
   ·split
    ·exact .inr (.inr rfl)
    ·exact ih
 unfold Wit.form at h
 split at h
 ·split at h
  ·cases h
  ·cases h;rfl
 ·split at h
  ·cases h;rfl
  ·split at h
   ·cases h;rfl
   ·split at h
    ·rename_i hn
     simp only[Except.error.injEq] at h
     subst h
     rename_i p _ _
     rcases hc p.2.1 with h | h | h
     ·exact absurd h hn
     ·rw[h];rfl
     ·rw[h];rfl
    ·cases h
def acells (ps:List (Bool × Value)):List Value:=(ps.map fun p=>[Value.bool p.1,p.2]).flatten
def AnR (w:World) (p:Bool × Value) (a:Option Bs):Prop:=p.1=a.isSome∧one p.2=true∧By w p.2 (a.getD [])
def AnP (w:World) (ps:List (Bool × Value)) (an:List (Option Bs)):Prop:=ps.length=an.length∧∀ i (h:i<ps.length) (h':i<an.length),AnR w ps[i] an[i]
def AnL (w:World) (v:Value) (an:List (Option Bs)):Prop:=∃ ps,AnP w ps an∧Rd w 2 v ps.length (acells ps)
theorem AnR.fr0 {w w':World} {p:Bool × Value} {a:Option Bs} (h:AnR w p a) (k:No w w'):AnR w' p a:=⟨h.1,h.2.1,h.2.2.fr0 k⟩
theorem AnP.fr0 {w w':World} {ps:List (Bool × Value)} {an:List (Option Bs)} (h:AnP w ps an) (k:No w w'):AnP w' ps an:=⟨h.1,fun i a b=>(h.2 i a b).fr0 k⟩
theorem AnP.snoc {w:World} {ps:List (Bool × Value)} {an:List (Option Bs)} (h:AnP w ps an) {p:Bool × Value} {a:Option Bs} (hp:AnR w p a):AnP w (ps++[p]) (an++[a]):=by
 obtain⟨h1,h2⟩:=h
 refine⟨by simp[h1],fun i hi hi'=>?_⟩
 by_cases hl:i<ps.length
 ·rw[List.getElem_append_left hl,List.getElem_append_left (by omega)];exact h2 i hl (by omega)
 ·have hi2:i=ps.length:=by simp at hi;omega
  subst hi2
  rw[List.getElem_append_right (Nat.le_refl _),List.getElem_append_right (by omega)]
  simpa [h1] using hp
theorem acells_app (a b:List (Bool × Value)):acells (a++b)=acells a++acells b:=by simp[acells]
theorem AnP.nil (w:World):AnP w [] []:=⟨rfl,fun i h=>absurd h (by simp)⟩
def VeQ (w0:World) (x:Except Int (List (Option Bs))) (r:Value) (w':World):Prop:=No w0 w'∧match x with
 | .error e=>r=.tuple #[.slice none 0 0,.int .i64 e]
 | .ok an=>∃ v,r=.tuple #[v,.int .i64 0]∧AnL w' v an
theorem sortW_err {wd:Int} {ks:List Bs} {e:Int} (h:Wit.sortW wd ks=.error e):(e != 0)=true:=by
 unfold Wit.sortW Wit.sortE at h
 split at h
 ·cases h;rfl
 ·split at h
  ·cases h;rfl
  ·split at h
   ·cases h
   ·cases h;rfl
theorem underP_err {wd:Int} {root:Bs} {ks:List Bs} {raw:Bs} {e:Int} (h:Wit.underP wd root ks raw=.error e):(e != 0)=true:=by
 unfold Wit.underP at h
 split at h
 ·rename_i hf
  cases h
  have:=form_err hf
  rw[bne,this];rfl
 ·cases h
 ·split at h
  ·cases h
  ·cases h;rfl
namespace Wit
def partP (w:Int) (ks:List Bs) (raw:Bs) (k:Bs):Except Int Bs :=
 match sortW w ks with
 | .error e=>.error e
 | .ok l=>match form w l raw with
  | .error e=>.error e
  | .ok none=>.error 160
  | .ok (some t)=>if k ∈ l then .ok (txt w (part w t k)) else .error 160
end Wit
def BsQ (w0:World) (x:Except Int Bs) (r:Value) (w':World):Prop:=No w0 w'∧match x with
 | .error e=>r=.tuple #[.slice none 0 0,.int .i64 e]
 | .ok bs=>∃ v,r=.tuple #[v,.int .i64 0]∧NwB w0 w' v bs
end Go.V
end
section
namespace Go.V
open Go.Proofs Sha
set_option maxRecDepth 100000
namespace R
theorem holds (w0 : World) (ht : Tabs w0) {wd : Int} {W : Nat} (hW : wd = W) (hW2 : W ≤ 32) {root : Bs} (hroot : root.length = 32) {kv rawv : Value} {ks : List Bs} {raw : Bs} (hk : RdD w0 kv ks) (hr : By w0 rawv raw) (ha : Wit.Asc ks) (hl : ks.length ≤ 64) (hrl : raw.length ≤ 2 ^ 50) :
    Fn Tryz.prog 73 #[.int .i64 wd,dg root,kv,rawv] w0 (FoQ w0 wd (Wit.underP wd root ks raw)) := by
 refine Tryz.go73 (by simp) ?_
 obtain⟨W1,hW1,f1,k1,s1⟩:=allocs1 w0 (bl root) 23
 simp -implicitDefEqProofs only[go_sem,Nat.reduceEqDiff,Nat.reduceBEq,Nat.reduceAdd,gLa,gLz,gLs,Tryz.f73,Value.cells,hW1]
 refine contL_call Tryz.pl77 ((formR W1 (ht.no f1) hW hW2 (hk.fr0 f1) (hr.fr0 f1) ha hl hrl).mono ?_)
 rintro r w2 ⟨f2,h2⟩
 have f02:=f1.trans f2
 have k2:=f2.at k1 id
 unfold FoQ Wit.underP
 cases hf:Wit.form wd ks raw with
 | error e =>
  rw[hf] at h2
  subst h2
  have he:(e != 0)=true:=by rw[bne,form_err hf];rfl
  simp -implicitDefEqProofs only[go_sem,Nat.reduceEqDiff,Nat.reduceBEq,Nat.reduceAdd,gLa,gLz,gLs,he]
  exact⟨f02,trivial⟩
 | ok o =>
  rw[hf] at h2
  obtain⟨ka,kc,rfl,hkc⟩:=hk.slice
  cases o with
  | none =>
   obtain⟨wb,rfl,h2⟩:=h2
   have hl0:ks=[]:=Wit.underP_none (w:=wd) (root:=[]) (raw:=raw) (by unfold Wit.underP;rw[hf])
   subst hl0
   have d0:decide (((([]:List Bs).length:Nat):Int) > 0)=false:=rfl
   simp -implicitDefEqProofs only[go_sem,Nat.reduceEqDiff,Nat.reduceBEq,Nat.reduceAdd,gLa,gLz,gLs,bne_self_eq_false]
   refine den_ext (fun j=>j == 5) [0,1,2,3,4,6,5,7,8] rfl (by kernel_rfl) (by kernel_rfl) ?_
   simp -implicitDefEqProofs only[go_sem,Nat.reduceEqDiff,Nat.reduceBEq,Nat.reduceAdd,gLa,gLz,gLs,d0,ft_beq,tf_beq,beq_self_eq_true,Bool.false_eq_true,if_false,if_true]
   exact⟨f02.drew,wb,rfl,(h2.fr0 (Fr.refl _ _).drew).back f1⟩
  | some t =>
   obtain⟨wb,rfl,h2⟩:=h2
   obtain⟨hok,hkeys,_,_⟩:=Wit.form_ok ha hk.1 hf
   have hp:=hok.keys_pos
   rw[hkeys] at hp
   have d0:decide (((ks.length:Nat):Int) > 0)=true:=by simp;omega
   obtain⟨u,hu,hY⟩:=h2.y
   have hsz:t.size≤2 ^ 40:=by have:=Wit.size_keys hok;rw[hkeys] at this;omega
   simp -implicitDefEqProofs only[go_sem,Nat.reduceEqDiff,Nat.reduceBEq,Nat.reduceAdd,gLa,gLz,gLs,bne_self_eq_false]
   refine den_ext (fun j=>j == 5) [0,1,2,3,4,6,5,7,8] rfl (by kernel_rfl) (by kernel_rfl) ?_
   have r2:=rd_d Tryz.agg23 Tryz.sz23 k2 hroot
   have r2':rdO Tryz.prog 23 w2.drew w0.heap.size 0=some (dg root):=r2
   simp -implicitDefEqProofs only[go_sem,Nat.reduceEqDiff,Nat.reduceBEq,Nat.reduceAdd,gLa,gLz,gLs,d0,r2,r2',ft_beq,tf_beq,beq_self_eq_true,Bool.false_eq_true,if_false,if_true]
   refine contLX_call Tryz.pl85 ((R.root u w2.drew (ht.no f02.drew) (hY.fr0 (Fr.refl _ _).drew) hok hsz (CsR.nil _) ⟨by simp,fun c h=>by cases h⟩).mono ?_)
   rintro _ w3 ⟨rfl,f3⟩
   rw[Wit.saysC_nil]
   refine⟨fun _=>Fr.ext f3,?_⟩
   have eq:=eqDig (Wit.dig_len wd Wit.asIs t) hroot
   have f03:=f02.drew.trans f3
   by_cases hd:Wit.dig wd Wit.asIs t=root
   ·have hb:(Wit.dig wd Wit.asIs t == root)=true:=by rw[beq_iff_eq];exact hd
    simp -implicitDefEqProofs only[go_sem,Nat.reduceEqDiff,Nat.reduceBEq,Nat.reduceAdd,gLa,gLz,gLs,eq,hb,ft_beq,tf_beq,beq_self_eq_true,bne_self_eq_false,Bool.false_eq_true,if_false,if_true]
    rw[if_pos hd]
    exact⟨f03,wb,rfl,(h2.fr0 ((Fr.refl _ _).drew.trans f3)).back f1⟩
   ·have hb:(Wit.dig wd Wit.asIs t == root)=false:=by rw[beq_eq_false_iff_ne];exact hd
    simp -implicitDefEqProofs only[go_sem,Nat.reduceEqDiff,Nat.reduceBEq,Nat.reduceAdd,gLa,gLz,gLs,eq,hb,ft_beq,tf_beq,beq_self_eq_true,bne_self_eq_false,Bool.false_eq_true,if_false,if_true]
    rw[if_neg hd]
    exact⟨f03,rfl⟩
end R
end Go.V
end
section
namespace Go.V
open Go.Proofs Sha
set_option maxRecDepth 100000
namespace Wit
end Wit
namespace R
def nbI (wd:Int) (W:World) (wb kb:Nat) (n:Nat) (vs:List Value) (w:World):Prop :=
 ∃ (i:Nat) (v:Value),vs=[pt wb 0,pt kb 0,v,.int .i64 (i:Nat)]∧i≤256∧n=256 - i∧NwD W w 23 v (empts wd i)∧No W w
end R
end Go.V
end
