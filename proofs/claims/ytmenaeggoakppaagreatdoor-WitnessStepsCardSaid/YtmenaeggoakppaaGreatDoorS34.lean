/-
 Helpers: RForm, RSays.
-/
import Derived.Test.YtmenaeggoakppaaGreatDoorS33
set_option linter.all false
section
namespace Go.V
open Go.Proofs Sha
set_option maxRecDepth 100000
theorem cutD_zero {wd:Int} {W:Nat} (hW:wd=W) {d:Bs} (hd:d.length=32):d=cutD wd d ↔ ∀ j,W≤j→j<32→d.getD j 0=0:=by
 constructor
 ·intro h j h1 h2
  have:(cutD wd d).getD j 0=0:=by
   rw[getD_lt _ (by rw[cutD_len];exact h2)]
   simp only[cutD,List.getElem_map,List.getElem_range]
   rw[if_neg (by omega)]
  rw[h];exact this
 ·intro h
  refine List.ext_getElem (by rw[cutD_len,hd]) fun i h1 h2=>?_
  simp only[cutD,List.getElem_map,List.getElem_range]
  split
  ·rw[getD_lt _ h1]
  ·have:=h i (by omega) (by omega)
   rwa [getD_lt _ h1] at this
namespace R
/-- a witness that was read, with its texts -/
def WtZ (w0 w:World) (wb:Nat) (wd:Int) (xs:List Wit.Tx):Prop:=∃ u ev rv tv gv q txs gvs,No w0 u∧RdD u ev (empts wd 257)∧WiM u w wb wd ev rv tv gv q false txs gvs∧TxL u w (Mut wb tv gv) txs xs
theorem WtZ.fr0 {w0 w w':World} {wb:Nat} {wd:Int} {xs:List Wit.Tx} (h:WtZ w0 w wb wd xs) (k:No w w'):WtZ w0 w' wb wd xs:=by
 obtain⟨u,ev,rv,tv,gv,q,txs,gvs,h1,h2,h3,h4⟩:=h
 exact⟨u,ev,rv,tv,gv,q,txs,gvs,h1,h2,h3.fr0 k,h4.fr k fun _ _ h=>h.elim⟩
theorem WtZ.back {w0 w u:World} {wb:Nat} {wd:Int} {xs:List Wit.Tx} (h:WtZ w0 w wb wd xs) (k:No u w0):WtZ u w wb wd xs:=by
 obtain⟨u',r⟩:=h
 obtain⟨ev,rv,tv,gv,q,txs,gvs,h1,r⟩:=r
 exact⟨u',ev,rv,tv,gv,q,txs,gvs,k.trans h1,r⟩
def WtX (w0 w:World) (wb:Nat) (wd:Int) (t:Wit.Tw):Prop:=WtZ w0 w wb wd (Wit.flatT wd 0 t)
theorem WtX.fr0 {w0 w w':World} {wb:Nat} {wd:Int} {t:Wit.Tw} (h:WtX w0 w wb wd t) (k:No w w'):WtX w0 w' wb wd t:=WtZ.fr0 h k
theorem WtX.back {w0 w u:World} {wb:Nat} {wd:Int} {t:Wit.Tw} (h:WtX w0 w wb wd t) (k:No u w0):WtX u w wb wd t:=WtZ.back h k
def FoQ (w0:World) (wd:Int) (x:Except Int (Option Wit.Tw)) (r:Value) (w':World):Prop:=No w0 w'∧match x with
 | .error e=>r=.tuple #[.pointer Option.none,.int .i64 e]
 | .ok none=>∃ wb,r=.tuple #[pt wb 0,.int .i64 0]∧WtZ w0 w' wb wd []
 | .ok (some t)=>∃ wb,r=.tuple #[pt wb 0,.int .i64 0]∧WtX w0 w' wb wd t
def foI (w3:World) (wd:Int) (wb:Nat) (gs:List (Nat × Bs)) (n:Nat) (vs:List Value) (w:World):Prop :=
 ∃ (i:Nat),vs=[.int .i64 wd,pt wb 0,.int .i64 (i:Nat)]∧i≤gs.length∧n=gs.length - i∧Wit.chk wd gs=Wit.chk wd (gs.drop i)∧No w3 w
def foJ (w4:World) (wd:Int) (W wb db i:Nat) (d:Bs) (n:Nat) (vs:List Value) (w:World):Prop :=
 ∃ (j:Nat),vs=[.int .i64 wd,pt wb 0,.int .i64 (i:Nat),pt db 0,.int .i64 (j:Nat)]∧W≤j∧j≤32∧n=32 - j∧(∀ q,W≤q→q<j→d.getD q 0=0)∧w=w4
set_option maxHeartbeats 2000000 in
theorem formWith (w0 : World) {wd : Int} {W : Nat} (hW : wd = W) (hW2 : W ≤ 32) {ev kv rawv : Value} {ks : List Bs} {raw : Bs} (he : RdD w0 ev (empts wd 257)) (hk : RdD w0 kv ks) (hr : By w0 rawv raw) (ha : Wit.Asc ks) (hl : ks.length ≤ 64) (hrl : raw.length ≤ 2 ^ 50) :
    Fn Tryz.prog 130 #[ev,.int .i64 wd,kv,rawv] w0 (FoQ w0 wd (Wit.form wd ks raw)) := by
 subst hW
 refine Tryz.go130 (by simp) ?_
 obtain⟨ea,ec,rfl,hec⟩:=he.slice
 obtain⟨ka,kc,rfl,hkc⟩:=hk.slice
 obtain⟨ra,rc,rfl,hrc⟩:=hr.slice
 have bldt:bldO Tryz.prog 141 [(0,.int .i64 (W:Int)),(1,.slice ea (empts (W:Int) 257).length ec),(4,.slice ra raw.length rc)]=some (.agg (wiC (W:Int) (.slice ea (empts (W:Int) 257).length ec) (.slice Option.none 0 0) (.slice Option.none 0 0) (.slice ra raw.length rc) 0 false)):=rfl
 obtain⟨W1,hW1,f1,k1,s1⟩:=allocs1 w0 (wiC (W:Int) (.slice ea (empts (W:Int) 257).length ec) (.slice Option.none 0 0) (.slice Option.none 0 0) (.slice ra raw.length rc) 0 false) 141
 unfold FoQ
 by_cases h0:ks=[]
 ·subst h0
  have d1:(((([]:List Bs).length:Nat):Int) == 0)=true:=rfl
  by_cases hr0:raw=[]
  ·subst hr0
   have d2:decide (((([]:Bs).length:Nat):Int) > 0)=false:=rfl
   simp -implicitDefEqProofs only[go_sem,Nat.reduceEqDiff,Nat.reduceBEq,Nat.reduceAdd,gLa,gLz,gLs,Tryz.f130,bldt,Value.cells,hW1,d1,d2]
   exact⟨f1,_,rfl,w0,_,_,_,_,_,[],[],Fr.refl _ _,he,⟨k1,NwR.nil _ _ _ _,NwR.nil _ _ _ _,Nat.le_refl _,f1,fun b hb=>(by cases hb),fun b hb=>(by cases hb),fun b hb=>(by cases hb)⟩,rfl,fun i h=>absurd h (by simp)⟩
  ·have d2:decide (((raw.length:Nat):Int) > 0)=true:=by have:=List.length_pos_iff.2 hr0;simp;omega
   simp -implicitDefEqProofs only[go_sem,Nat.reduceEqDiff,Nat.reduceBEq,Nat.reduceAdd,gLa,gLz,gLs,Tryz.f130,bldt,Value.cells,hW1,d1,d2]
   unfold Wit.form
   rw[if_pos rfl,if_neg hr0]
   exact⟨f1,rfl⟩
 have hp:0<ks.length:=List.length_pos_iff.2 h0
 have d1:(((ks.length:Nat):Int) == 0)=false:=by rw[beq_eq_false_iff_ne];omega
 simp -implicitDefEqProofs only[go_sem,Nat.reduceEqDiff,Nat.reduceBEq,Nat.reduceAdd,gLa,gLz,gLs,Tryz.f130,bldt,Value.cells,hW1,d1]
 have hrb:0<raw.length→∀ b,blockOf (.slice ra raw.length rc)=some b→b≠w0.heap.size:=fun h0 b hb e=>by
  obtain⟨rb,ro,rc',e2,_⟩:=hr.pos h0
  cases e2
  obtain⟨_,_,_,e2,_,hat⟩:=hr
  cases e2
  obtain⟨_,_,e2,hat⟩:=hat (by omega)
  cases e2
  have:=hat 0 (by omega)
  simp only[blockOf,Option.some.injEq] at hb
  have h1:rb<w0.heap.size:=by
   rw[List.getElem?_eq_getElem (by rw[List.length_map];exact h0)] at this
   exact rc_lt this
  omega
 have hM:WiM w0 W1 w0.heap.size (W:Int) (.slice ea (empts (W:Int) 257).length ec) (.slice ra raw.length rc) (.slice Option.none 0 0) (.slice Option.none 0 0) 0 false [] [] :=
  ⟨k1,NwR.nil _ _ _ _,NwR.nil _ _ _ _,Nat.le_refl _,f1,fun b hb=>(by cases hb),fun b hb=>(by cases hb),fun b hb=>(by cases hb)⟩
 refine contL_call Tryz.pl180 ((text w0 (W:Int) ks.length W1 (E:=fun _=>False) (xs:=[]) (gs:=[]) (Nat.le_refl _) (fun b h=>h.elim) hM hr hrb (Nat.zero_le _) hrl he hk ⟨rfl,fun i h=>absurd h (by simp)⟩ ⟨rfl,fun i h=>absurd h (by simp)⟩ (by simp;omega) (by simp;omega) ha hp (Wit.shr_zero ks) (Nat.le_refl _)).mono ?_)
 rintro r3 w3 ⟨f3,h3⟩
 rw[List.drop_zero] at h3
 have f03:No w0 w3:=f1.trans' f3 fun b hb h=>by
  rcases h with h | h | h
  ·omega
  ·cases h
  ·cases h
 have hfm:Wit.form (W:Int) ks raw=match Wit.parse (W:Int) ks.length ks 256 raw with
  | none=>.error 120
  | some p=>if p.2.2≠[] then .error 120 else if Wit.chk (W:Int) p.2.1≠0 then .error (Wit.chk (W:Int) p.2.1) else .ok (some p.1):=by
  unfold Wit.form;rw[if_neg h0]
  cases Wit.parse (W:Int) ks.length ks 256 raw <;> rfl
 cases hpz:Wit.parse (W:Int) ks.length ks 256 raw with
 | none =>
  rw[hpz] at h3 hfm
  obtain⟨⟨z,rfl⟩,tv',gv',q,h3,hq⟩:=h3
  have r3:=h3.row
  simp -implicitDefEqProofs only[go_sem,Nat.reduceEqDiff,Nat.reduceBEq,Nat.reduceAdd,gLa,gLz,gLs,r3,ldO_one,ft_beq,tf_beq,beq_self_eq_true]
  rw[hfm]
  exact⟨f03,rfl⟩
 | some x =>
  rw[hpz] at h3 hfm
  simp only at hfm
  obtain⟨tv,gv,q,txs,gvs,rfl,hM3,hq,hrest,tx3,gv3,_,_⟩:=h3
  rw[List.nil_append] at gv3 tx3
  have r3:=hM3.cell.row
  by_cases hre:x.2.2=[]
  ·have hql : q = raw.length := by
     have := congrArg List.length hrest
     rw [hre,List.length_drop] at this
     simp at this; omega
   have d2:decide (((q:Nat):Int)<((raw.length:Nat):Int))=false:=by simp;omega
   simp -implicitDefEqProofs only[go_sem,Nat.reduceEqDiff,Nat.reduceBEq,Nat.reduceAdd,gLa,gLz,gLs,r3,ldO_one,ft_beq,tf_beq,beq_self_eq_true,d2]
   rw[if_neg (by simp[hre])] at hfm
   have hpo:=Wit.parse_ok ha hk.1 hp (Wit.shr_zero ks) (Nat.le_refl _) hpz
   have hpl:=parse_len ha hp hpz
   obtain⟨ga,gc,rfl,hgc⟩:=hM3.gvr.rd.slice
   have hgl:gvs.length=x.2.1.length:=gv3.1
   refine loopD [1,10,11] (foI w3 (W:Int) w0.heap.size x.2.1) x.2.1.length ⟨0,rfl,by omega,rfl,rfl,Fr.refl _ _⟩ ?_
   rintro _ vs w4 g4 ⟨i,rfl,hi,rfl,hch,f4⟩
   have hM4:=hM3.fr0 f4
   have r4:=hM4.cell.row
   by_cases hlt:i<x.2.1.length
   ·have d3:decide ((i:Int)<((gvs.length:Nat):Int))=true:=by simp;omega
    have c1:IntKind.i64.wrap ((i:Int)+1)=((i+1:Nat):Int):=i64add (b:=1) (by omega)
    have hig:i<gvs.length:=by omega
    obtain⟨tn,hrow,hd32⟩:=gv3.2 i hig hlt
    have hhq:=hpo.2.2.2 _ (List.getElem_mem hlt)
    have hdrop:x.2.1.drop i=x.2.1[i]::x.2.1.drop (i+1):=List.drop_eq_getElem_cons hlt
    rw[hdrop,Wit.chk] at hch
    obtain⟨gb,go,gc',e,_⟩:=hM4.gvr.rd.pos (by decide) (by omega)
    cases e
    have rg:=hM4.gvr.rd.get (P:=Tryz.prog) (t:=267) Tryz.agg267 Tryz.sz267 (by decide) hig
    rw[hrow] at rg
    generalize x.2.1[i]=pq at *
    obtain⟨h,d⟩:=pq
    simp only at hd32 hhq hch
    obtain⟨gr1,gr2⟩:=gvRow_ok tn (q:=(h,d)) hd32
    have y1:(0:Int)≤(i:Int)∧(i:Int)<((gvs.length:Nat):Int):=by omega
    obtain⟨W5,hW5,f5,k5,s5⟩:=allocs1 w4 (#[Value.int .i64 0,Value.int .i64 0]++bl (List.replicate 32 0)) 267
    have q5:wrO Tryz.prog 267 W5 w4.heap.size 0 (.agg (gvRow tn (h,d)).toArray)=some (put W5 w4.heap.size (.cells (gvRow tn (h,d)).toArray 267 (0,0))):=wr_all (vs:=(gvRow tn (h,d)).toArray) (by rw[List.size_toArray,gr1];exact Tryz.sz267) k5 (by simp[gvRow,hd32]) (by simpa using gr2)
    have k6:=put_at (o:=.cells (gvRow tn (h,d)).toArray 267 (0,0)) k5
    have f6:No w4 (put W5 w4.heap.size (.cells (gvRow tn (h,d)).toArray 267 (0,0))):=f5.put (b:=w4.heap.size) _ fun h=>by omega
    simp -implicitDefEqProofs only[go_sem,Nat.reduceEqDiff,Nat.reduceBEq,Nat.reduceAdd,gLa,gLz,gLs,d3,decide_true,r4,ldO_one,y1,and_self,Int.toNat_natCast,rg,Value.cells,bl_zero,hW5,q5]
    generalize put W5 w4.heap.size (.cells (gvRow tn (h,d)).toArray 267 (0,0))=w6 at *
    have hcz:=cutD_zero (W:=W) rfl hd32
    refine loopD [1,10,11,12,13] (foJ w6 (W:Int) W w0.heap.size w4.heap.size i d) (32 - W) ⟨W,rfl,Nat.le_refl _,hW2,rfl,fun q h1 h2=>absurd h2 (by omega),rfl⟩ ?_
    rintro _ vs w7 g7 ⟨j,rfl,hj1,hj2,rfl,hz,rfl⟩
    by_cases hj:j<32
    ·have d4:decide ((j:Int)<32)=true:=by simp;omega
     have c2:IntKind.i64.wrap ((j:Int)+1)=((j+1:Nat):Int):=i64add (b:=1) (by omega)
     have y2:(0:Int)≤(j:Int)∧(j:Int)<((32:Nat):Int):=by omega
     have rd:rdO Tryz.prog 5 w7 w4.heap.size (2+j)=some (.int .u8 ((d.getD j 0).toNat:Int)):=by
      refine rd1 Tryz.agg5 k6 ?_
      rw[List.getElem?_toArray,Nat.add_comm]
      show (Value.int .i64 tn::Value.int .i64 (h:Nat)::d.map u8)[j+2]?=_
      rw[List.getElem?_cons_succ,List.getElem?_cons_succ,List.getElem?_map,List.getElem?_eq_getElem (by omega),getD_lt _ (by omega)];rfl
     by_cases hnz:d.getD j 0=0
     ·have e0:(((d.getD j 0).toNat:Int) != 0)=false:=by rw[hnz];rfl
      simp -implicitDefEqProofs only[go_sem,Nat.reduceEqDiff,Nat.reduceBEq,Nat.reduceAdd,gLa,gLz,gLs,d4,y2,and_self,Int.toNat_natCast,Nat.mul_one,rd,e0,c2]
      refine⟨32 - (j+1),by omega,j+1,rfl,by omega,by omega,rfl,fun q h1 h2=>?_,rfl⟩
      rcases Nat.lt_or_ge q j with h | h
      ·exact hz q h1 h
      ·obtain rfl:q=j:=by omega
       exact hnz
     ·have e0 : (((d.getD j 0).toNat : Int) != 0) = true := by
        rw [bne_iff_ne]
        intro e
        exact hnz (BitVec.eq_of_toNat_eq (by show (d.getD j 0).toNat = 0; omega))
      simp -implicitDefEqProofs only[go_sem,Nat.reduceEqDiff,Nat.reduceBEq,Nat.reduceAdd,gLa,gLz,gLs,d4,y2,and_self,Int.toNat_natCast,Nat.mul_one,rd,e0]
      have hne:d≠cutD (W:Int) d:=fun e=>hnz (hcz.1 e j hj1 hj)
      rw[if_pos hne] at hch
      rw[hfm,hch]
      exact⟨f03.trans (f4.trans f6),rfl⟩
    ·have d4:decide ((j:Int)<32)=false:=by simp;omega
     obtain rfl:j=32:=by omega
     have heq:d=cutD (W:Int) d:=hcz.2 fun q h1 h2=>hz q h1 h2
     rw[if_neg (show ¬ d≠cutD (W:Int) d from fun h=>h heq)] at hch
     have rd2:rdO Tryz.prog 23 w7 w4.heap.size 2=some (dg d):=by
      refine rd_dg Tryz.agg23 Tryz.sz23 hd32 (by decide) fun q hq=>?_
      rw[rc_of_row k6,List.getElem?_toArray,Nat.add_comm];rfl
     have rh:rdO Tryz.prog 3 w7 w4.heap.size 1=some (.int .i64 (h:Nat)):=rd1 Tryz.agg3 k6 rfl
     have hM7:=hM4.fr0 f6
     have r7:=hM7.cell.row
     have hel:(empts (W:Int) 257).length=257:=empts_len _ _
     obtain⟨eb,eo,ec',e,_,_⟩:=he.pos (by omega)
     cases e
     have re:=(he.fr0 hM7.no.drew).get (P:=Tryz.prog) Tryz.agg23 Tryz.sz23 (i:=h) (by omega)
     have hem:(empts (W:Int) 257).getD h []=emptD (W:Int) h:=by rw[List.getD_eq_getElem?_getD,empts_at (W:Int) 257 (by omega)];rfl
     rw[hem] at re
     have y3:(0:Int)≤(h:Int)∧(h:Int)<(((empts (W:Int) 257).length:Nat):Int):=by omega
     have eq:=eqDig hd32 (emptD_len (W:Int) h)
     have rd2d:rdO Tryz.prog 23 w7.drew w4.heap.size 2=some (dg d):=rd2
     have rhd:rdO Tryz.prog 3 w7.drew w4.heap.size 1=some (.int .i64 (h:Nat)):=rh
     have r7d:∀ t o,rdO Tryz.prog t w7.drew w0.heap.size o=ldO Tryz.prog t (some (.cells (wiC (W:Int) (.slice (some ⟨eb,eo,Option.none⟩) (empts (W:Int) 257).length ec) tv (.slice (some ⟨gb,go,Option.none⟩) gvs.length gc) (.slice ra raw.length rc) q false) 141 (0,0))) o:=r7
     by_cases hde:d=emptD (W:Int) h
     ·have hb:(d == emptD (W:Int) h)=true:=by rw[beq_iff_eq];exact hde
      simp -implicitDefEqProofs only[go_sem,Nat.reduceEqDiff,Nat.reduceBEq,Nat.reduceAdd,gLa,gLz,gLs,d4,rd2,rd2d,rh,rhd,r7,r7d,ldO_one,y3,and_self,Int.toNat_natCast,re,eq,hb]
      rw[if_pos (show d=emptD (W:Int) h from hde)] at hch
      rw[hfm,hch]
      exact⟨f03.trans (f4.trans f6.drew),rfl⟩
     ·have hb:(d == emptD (W:Int) h)=false:=by rw[beq_eq_false_iff_ne];exact hde
      simp -implicitDefEqProofs only[go_sem,Nat.reduceEqDiff,Nat.reduceBEq,Nat.reduceAdd,gLa,gLz,gLs,d4,rd2,rd2d,rh,rhd,r7,r7d,ldO_one,y3,and_self,Int.toNat_natCast,re,eq,hb,c1]
      rw[if_neg (show ¬ d=emptD (W:Int) h from hde)] at hch
      exact⟨x.2.1.length - (i+1),by omega,i+1,rfl,by omega,rfl,hch,f4.trans f6.drew⟩
   ·have d3:decide ((i:Int)<((gvs.length:Nat):Int))=false:=by simp;omega
    obtain rfl:i=x.2.1.length:=by omega
    rw[List.drop_length] at hch
    have hch:Wit.chk (W:Int) x.2.1=0:=hch
    simp -implicitDefEqProofs only[go_sem,Nat.reduceEqDiff,Nat.reduceBEq,Nat.reduceAdd,gLa,gLz,gLs,r4,ldO_one,d3]
    rw[hfm,if_neg (by simp[hch])]
    exact⟨f03.trans f4,_,rfl,w0,_,_,_,_,_,_,_,Fr.refl _ _,he,hM4,(tx3.fr f4 fun _ _ h=>h.elim).mono fun b _ h=>.inl h⟩
  ·have hql : q < raw.length := by
     rcases Nat.lt_or_ge q raw.length with h | h
     · exact h
     · rw [List.drop_of_length_le h] at hrest; exact absurd hrest.symm hre
   have d2:decide (((q:Nat):Int)<((raw.length:Nat):Int))=true:=by simp;omega
   simp -implicitDefEqProofs only[go_sem,Nat.reduceEqDiff,Nat.reduceBEq,Nat.reduceAdd,gLa,gLz,gLs,r3,ldO_one,ft_beq,tf_beq,beq_self_eq_true,d2]
   rw[if_pos hre] at hfm
   rw[hfm]
   exact⟨f03,rfl⟩
end R
end Go.V
namespace Go.V
open Go.Proofs Sha
namespace R
theorem formR (w0 : World) (ht : Tabs w0) {wd : Int} {W : Nat} (hW : wd = W) (hW2 : W ≤ 32) {kv rawv : Value} {ks : List Bs} {raw : Bs} (hk : RdD w0 kv ks) (hr : By w0 rawv raw) (ha : Wit.Asc ks) (hl : ks.length ≤ 64) (hrl : raw.length ≤ 2 ^ 50) :
    Fn Tryz.prog 77 #[.int .i64 wd,kv,rawv] w0 (FoQ w0 wd (Wit.form wd ks raw)) := by
 refine Tryz.go77 (by simp) ?_
 simp -implicitDefEqProofs only[go_sem,Nat.reduceEqDiff,Nat.reduceBEq,Nat.reduceAdd,gLa,gLz,gLs,Tryz.f77]
 refine contL_call Tryz.pl57 ((empties w0 ht wd).mono ?_)
 rintro ev w1 ⟨n1,f1⟩
 simp -implicitDefEqProofs only[go_sem,Nat.reduceEqDiff,Nat.reduceBEq,Nat.reduceAdd,gLa,gLz,gLs]
 refine contL_call Tryz.pl130 ((formWith w1 hW hW2 n1.rd (hk.fr0 f1) (hr.fr0 f1) ha hl hrl).mono ?_)
 rintro r w2 ⟨f2,h2⟩
 unfold FoQ
 cases hf:Wit.form wd ks raw with
 | error e =>
  rw[hf] at h2
  subst h2
  simp -implicitDefEqProofs only[go_sem,Nat.reduceEqDiff,Nat.reduceBEq,Nat.reduceAdd,gLa,gLz,gLs]
  exact⟨f1.trans f2,trivial⟩
 | ok o =>
  rw[hf] at h2
  cases o with
  | none =>
   obtain⟨wb,rfl,h2⟩:=h2
   simp -implicitDefEqProofs only[go_sem,Nat.reduceEqDiff,Nat.reduceBEq,Nat.reduceAdd,gLa,gLz,gLs]
   exact⟨f1.trans f2,wb,rfl,h2.back f1⟩
  | some t =>
   obtain⟨wb,rfl,h2⟩:=h2
   simp -implicitDefEqProofs only[go_sem,Nat.reduceEqDiff,Nat.reduceBEq,Nat.reduceAdd,gLa,gLz,gLs]
   exact⟨f1.trans f2,wb,rfl,h2.back f1⟩
end R
end Go.V
end
section
namespace Go.V
open Go.Proofs Sha
set_option maxRecDepth 100000
namespace Wit
/-- a change: the key, is it taken away, the value -/
abbrev Ch:=Bs × Bool × Bs
def Ch.ans (c:Ch):Option Bs:=if c.2.1 then none else some c.2.2
def findC:List Ch→Bs→Option Ch
 | [],_=>none
 | c::r,k=>if c.1=k then some c else findC r k
def saysC (cs:List Ch):Says:=fun k a=>match findC cs k with | none=>a | some c=>c.ans
theorem saysC_nil:saysC []=asIs:=rfl
end Wit
namespace R
def chRow (c:Wit.Ch) (vv:Value):List Value:=c.1.map u8++[.bool c.2.1,vv]
theorem chRow_len {c:Wit.Ch} (vv:Value) (h:c.1.length=32):(chRow c vv).length=34:=by simp[chRow,h]
/-- a list of changes, read -/
def CsR (w:World) (v:Value) (cs:List Wit.Ch):Prop:=∃ rows,RdR w 34 v rows∧rows.length=cs.length∧∀ i (h:i<rows.length) (h':i<cs.length),∃ vv,rows[i]=chRow cs[i] vv∧cs[i].1.length=32∧one vv=true∧By w vv cs[i].2.2
theorem CsR.fr0 {w w':World} {v:Value} {cs:List Wit.Ch} (h:CsR w v cs) (k:No w w'):CsR w' v cs:=by
 obtain⟨rows,h1,h2,h3⟩:=h
 refine⟨rows,h1.fr0 k,h2,fun i a b=>?_⟩
 obtain⟨vv,e,l,o,y⟩:=h3 i a b
 exact⟨vv,e,l,o,y.fr0 k⟩
theorem CsR.nil (w:World):CsR w (.slice Option.none 0 0) []:=⟨[],(NwR.nil w w 0 34).rd,rfl,fun i h=>absurd h (by simp)⟩
def SaysQ (w0:World) (x:Option Wit.Ch) (r:Value) (w':World):Prop:=No w0 w'∧match x with
 | none=>∃ row,r=.tuple #[.agg row,.bool false]∧row.size=34∧row.all one=true
 | some c=>∃ vv,r=.tuple #[.agg (chRow c vv).toArray,.bool true]∧c.1.length=32∧one vv=true∧By w0 vv c.2.2
def syI (w1:World) (cv:Value) (cs:List Wit.Ch) (kb cb:Nat) (k:Bs) (n:Nat) (vs:List Value) (w:World):Prop :=
 ∃ (i:Nat),vs=[cv,pt kb 0,pt cb 0,.int .i64 (i:Nat)]∧i≤cs.length∧n=cs.length - i∧Wit.findC cs k=Wit.findC (cs.drop i) k∧No w1 w
set_option maxHeartbeats 1000000 in
theorem says (w0 : World) {cv : Value} {cs : List Wit.Ch} (hc : CsR w0 cv cs) (hcl : cs.length ≤ 2 ^ 40) {k : Bs} (hk : k.length = 32) :
    Fn Tryz.prog 162 #[cv,dg k] w0 (SaysQ w0 (Wit.findC cs k)) := by
 refine Tryz.go162 (by simp) ?_
 obtain⟨rows,hR,hRl,hrow⟩:=hc
 obtain⟨ca,cc,rfl,hcc⟩:=hR.slice
 have zrow:(Array.replicate 32 (Value.int .u8 0)++#[Value.bool false,Value.slice Option.none 0 0]).size=34:=rfl
 obtain⟨W,hW,f1,k1,k2,s1⟩:=allocs2 w0 (bl k) 34 (Array.replicate 32 (Value.int .u8 0)++#[.bool false,.slice Option.none 0 0]) 181
 simp -implicitDefEqProofs only[go_sem,Nat.reduceEqDiff,Nat.reduceBEq,Nat.reduceAdd,gLa,gLz,gLs,Tryz.f162,Value.cells,hW]
 refine loopD [0,3,4,6] (syI W (.slice ca rows.length cc) cs w0.heap.size (w0.heap.size+1) k) cs.length ⟨0,rfl,by omega,rfl,rfl,Fr.refl _ _⟩ ?_
 rintro _ vs w2 g ⟨i,rfl,hi,rfl,hf,f2⟩
 have f02:=f1.trans f2
 unfold SaysQ
 by_cases hlt:i<cs.length
 ·have hir:i<rows.length:=by omega
  have d1:decide ((i:Int)<((rows.length:Nat):Int))=true:=by simp;omega
  have y1:(0:Int)≤(i:Int)∧(i:Int)<((rows.length:Nat):Int):=by omega
  have c1:IntKind.i64.wrap ((i:Int)+1)=((i+1:Nat):Int):=i64add (b:=1) (by omega)
  have hdrop:cs.drop i=cs[i]::cs.drop (i+1):=List.drop_eq_getElem_cons hlt
  rw[hdrop,Wit.findC] at hf
  obtain⟨vv,he,hl32,hov,hby⟩:=hrow i hir hlt
  obtain⟨b,o,cap,e,_⟩:=hR.pos (by decide) (by omega)
  cases e
  have rk:∀ w,No w0 w→rdO Tryz.prog 34 w b (o+i*34)=some (dg cs[i].1):=fun w fw=>by
   refine (hR.fr0 fw).sub Tryz.agg34 Tryz.sz34 (by decide) hir (j:=0) (by decide) (xs:=cs[i].1.map u8) (by simp[hl32]) fun q hq=>?_
   rw[he,Nat.zero_add,chRow,List.getElem?_append_left (by simp[hl32];omega)]
  have rr:∀ w,No w0 w→rdO Tryz.prog 181 w b (o+i*34)=some (.agg (chRow cs[i] vv).toArray):=fun w fw=>by
   rw[← he];exact (hR.fr0 fw).get Tryz.agg181 Tryz.sz181 (by decide) hir
  have rkd:=rk w2.drew f02.drew
  have rk2:=rk w2 f02
  have r3:=rd_d Tryz.agg34 Tryz.sz34 (f2.at k1 id) hk
  have r3d:rdO Tryz.prog 34 w2.drew w0.heap.size 0=some (dg k):=r3
  have rrd:=rr w2.drew f02.drew
  have rr2:=rr w2 f02
  have eq:=eqKey hl32 hk
  have hch:(chRow cs[i] vv).length=34:=chRow_len vv hl32
  have hsz:(chRow cs[i] vv).toArray.size=34:=by rw[List.size_toArray,hch]
  have hall:((chRow cs[i] vv).toArray).all one=true:=by
   have:=(hR.1 _ (List.getElem_mem hir)).2
   rw[he] at this
   simpa using this
  have q4:wrO Tryz.prog 181 w2.drew (w0.heap.size+1) 0 (.agg (chRow cs[i] vv).toArray)=some (put w2.drew (w0.heap.size+1) (.cells (chRow cs[i] vv).toArray 181 (0,0))) :=
   wr_all (by rw[List.size_toArray,hch];exact Tryz.sz181) (show w2.drew.heap[w0.heap.size+1]?=_ from f2.at k2 id) (zrow.trans hsz.symm) hall
  have k4:=put_at (w:=w2.drew) (o:=.cells (chRow cs[i] vv).toArray 181 (0,0)) (f2.at k2 id)
  have r4:rdO Tryz.prog 181 _ (w0.heap.size+1) 0=some (.agg (chRow cs[i] vv).toArray):=rd_all Tryz.agg181 (by rw[List.size_toArray,hch];exact Tryz.sz181) k4
  have f4:No w0 (put w2.drew (w0.heap.size+1) (.cells (chRow cs[i] vv).toArray 181 (0,0))):=f02.drew.put (b:=w0.heap.size+1) _ fun h=>by omega
  by_cases hkk:cs[i].1=k
  ·have hb:(cs[i].1 == k)=true:=by rw[beq_iff_eq];exact hkk
   simp -implicitDefEqProofs only[go_sem,Nat.reduceEqDiff,Nat.reduceBEq,Nat.reduceAdd,gLa,gLz,gLs,d1,y1,and_self,Int.toNat_natCast,rkd,rk2,r3,r3d,eq,hb,rrd,rr2,q4,r4]
   rw[hf,if_pos hkk]
   exact⟨f4,vv,rfl,hl32,hov,hby⟩
  ·have hb:(cs[i].1 == k)=false:=by rw[beq_eq_false_iff_ne];exact hkk
   simp -implicitDefEqProofs only[go_sem,Nat.reduceEqDiff,Nat.reduceBEq,Nat.reduceAdd,gLa,gLz,gLs,d1,y1,and_self,Int.toNat_natCast,rkd,rk2,r3,r3d,eq,hb,c1]
   rw[if_neg hkk] at hf
   exact⟨cs.length - (i+1),by omega,i+1,rfl,by omega,rfl,hf,f2.drew⟩
 ·have d1:decide ((i:Int)<((rows.length:Nat):Int))=false:=by simp;omega
  obtain rfl:i=cs.length:=by omega
  rw[List.drop_length] at hf
  have bld0:bldO Tryz.prog 181 []=some (.agg (Array.replicate 32 (Value.int .u8 0)++#[.bool false,.slice Option.none 0 0])):=rfl
  have q4:wrO Tryz.prog 181 w2 (w0.heap.size+1) 0 (.agg (Array.replicate 32 (Value.int .u8 0)++#[.bool false,.slice Option.none 0 0]))=some (put w2 (w0.heap.size+1) (.cells (Array.replicate 32 (Value.int .u8 0)++#[.bool false,.slice Option.none 0 0]) 181 (0,0))) :=
   wr_all Tryz.sz181 (f2.at k2 id) rfl (by rw[← Array.all_toList];rfl)
  have k4:=put_at (o:=.cells (Array.replicate 32 (Value.int .u8 0)++#[.bool false,.slice Option.none 0 0]) 181 (0,0)) (f2.at k2 id)
  have r4:rdO Tryz.prog 181 _ (w0.heap.size+1) 0=some (.agg (Array.replicate 32 (Value.int .u8 0)++#[.bool false,.slice Option.none 0 0])):=rd_all Tryz.agg181 Tryz.sz181 k4
  simp -implicitDefEqProofs only[go_sem,Nat.reduceEqDiff,Nat.reduceBEq,Nat.reduceAdd,gLa,gLz,gLs,d1,bld0,q4,r4]
  rw[hf]
  exact⟨f02.put (b:=w0.heap.size+1) _ fun h=>by omega,_,rfl,rfl,by rw[← Array.all_toList];rfl⟩
end R
end Go.V
end
