/-
 Helpers: KnowA, KnowB, KnowC.
-/
import Derived.Test.YtmenaeggoakppaaGreatDoorS35
import Derived.Test.YtmenaeggoakppaaGreatDoorS21
set_option linter.all false
section
namespace Go.V
open Go.Proofs Sha
set_option maxRecDepth 100000
theorem RdR.cutV {w:World} {k n cap:Nat} {a:Option Addr} {rows:Rows} (h:RdR w k (.slice a n cap) rows) {l m:Nat} (hl:l≤m) (hm:m≤n) (hn:rows.length=n):RdR w k (V.cutV k a cap l m) ((rows.drop l).take (m - l)):=by
 subst hn
 refine⟨fun r hr=>h.1 r (List.mem_of_mem_drop (List.mem_of_mem_take hr)),?_⟩
 have e:((rows.drop l).take (m - l)).length=m - l:=by rw[List.length_take,List.length_drop];omega
 have hfl:∀ (l:Rows) (n:Nat),RowsOk k l→(l.flatten).take (n*k)=(l.take n).flatten∧(l.flatten).drop (n*k)=(l.drop n).flatten:=by
  intro l
  induction l with
  | nil=>intro n _;simp
  | cons r l ih =>
   intro n ho
   have hr:=(ho r (by simp)).1
   cases n with
   | zero=>simp
   | succ n =>
    obtain⟨i1,i2⟩:=ih n ho.tail
    have e1:(n+1)*k=r.length+n*k:=by rw[hr,Nat.add_mul];omega
    simp only[List.flatten_cons,List.take_succ_cons,List.drop_succ_cons]
    rw[e1]
    constructor
    ·rw[List.take_append,List.take_of_length_le (by omega),Nat.add_sub_cancel_left,i1]
    ·rw[List.drop_append,List.drop_of_length_le (by omega),Nat.add_sub_cancel_left,i2,List.nil_append]
 have hd:RowsOk k (rows.drop l):=fun r hr=>h.1 r (List.mem_of_mem_drop hr)
 rw[e,← (hfl _ _ hd).1,← (hfl _ _ h.1).2]
 exact Rd.cutV h.2 hl hm
/-- entries of a map in memory -/
def enRow (c:Bs × Bs) (vv:Value):List Value:=c.1.map u8++[vv]
def EnR (w:World) (v:Value) (es:List (Bs × Bs)):Prop:=∃ rows,RdR w 33 v rows∧rows.length=es.length∧∀ i (h:i<rows.length) (h':i<es.length),∃ vv,rows[i]=enRow es[i] vv∧es[i].1.length=32∧one vv=true∧By w vv es[i].2
theorem EnR.fr0 {w w':World} {v:Value} {es:List (Bs × Bs)} (h:EnR w v es) (k:No w w'):EnR w' v es:=by
 obtain⟨rows,h1,h2,h3⟩:=h
 refine⟨rows,h1.fr0 k,h2,fun i a b=>?_⟩
 obtain⟨vv,e,l,o,y⟩:=h3 i a b
 exact⟨vv,e,l,o,y.fr0 k⟩
theorem EnR.slice {w:World} {v:Value} {es:List (Bs × Bs)} (h:EnR w v es):∃ a cap,v=.slice a es.length cap∧es.length≤cap:=by
 obtain⟨rows,h1,h2,_⟩:=h
 rw[← h2];exact h1.slice
theorem EnR.cutV {w:World} {a:Option Addr} {n cap:Nat} {es:List (Bs × Bs)} (h:EnR w (.slice a n cap) es) {l m:Nat} (hl:l≤m) (hm:m≤n) (hn:es.length=n):EnR w (V.cutV 33 a cap l m) ((es.drop l).take (m - l)):=by
 obtain⟨rows,h1,h2,h3⟩:=h
 refine⟨_,h1.cutV hl hm (by omega),by simp[h2],fun i a b=>?_⟩
 simp only[List.getElem_take,List.getElem_drop]
 rw[List.length_take,List.length_drop] at a b
 exact h3 (l+i) (by omega) (by omega)
/-- one entry -/
theorem EnR.at {w : World} {v : Value} {es : List (Bs × Bs)} (h : EnR w v es) {i : Nat} (hi : i < es.length) : ∃ b o cap vv, v = .slice (some ⟨b, o, Option.none⟩) es.length cap ∧ es.length ≤ cap ∧ es[i].1.length = 32 ∧ one vv = true ∧ By w vv es[i].2 ∧
    ∀ w',No w w' → rdO Tryz.prog 34 w' b (o + i * 33) = some (dg es[i].1) ∧ rdO Tryz.prog 25 w' b (o + i * 33 + 32) = some vv ∧ rdO Tryz.prog 65 w' b (o + i * 33) = some (.agg (enRow es[i] vv).toArray) := by
 obtain⟨rows,hR,h2,h3⟩:=h
 have hir:i<rows.length:=by omega
 obtain⟨vv,he,hl,ho,hb⟩:=h3 i hir hi
 obtain⟨b,o,cap,rfl,hc⟩:=hR.pos (by decide) (by omega)
 refine⟨b,o,cap,vv,by rw[h2],by omega,hl,ho,hb,fun w' k=>⟨?_,?_,?_⟩⟩
 ·refine (hR.fr0 k).sub Tryz.agg34 Tryz.sz34 (by decide) hir (j:=0) (by decide) (xs:=es[i].1.map u8) (by simp[hl]) fun q hq=>?_
  rw[he,Nat.zero_add,enRow,List.getElem?_append_left (by simp[hl];omega)]
 ·refine (hR.fr0 k).fld Tryz.agg25 hir (by decide) ?_
  rw[he,enRow,List.getElem?_append_right (by simp[hl])];simp[hl]
 ·rw[← he];exact (hR.fr0 k).get Tryz.agg65 Tryz.sz65 (by decide) hir
namespace R
def cwI (w0:World) (wd:Int) (esv:Value) (k full:Bs) (n:Nat) (m:Nat) (vs:List Value) (w:World):Prop :=
 ∃ (h:Nat) (d:Bs),vs=[esv,.int .i64 wd,pt w0.heap.size 0,pt (w0.heap.size+1) 0,pt (w0.heap.size+2) 0,.int .i64 (n:Nat),.int .i64 (h:Nat)]∧h≤n∧m=n - h∧d.length=32∧full=climb wd k h d (((empts wd 257).drop h).take (n - h)) ∧
  w.heap[w0.heap.size]?=some (.cells (bl k) 34 (0,0))∧w.heap[w0.heap.size+1]?=some (.cells (bl d) 23 (0,0))∧w.heap[w0.heap.size+2]?=some (.cells (bl (List.replicate 32 0)) 23 (0,0))∧No w0 w
set_option maxHeartbeats 1000000 in
theorem climbWith (w0 : World) (ht : Tabs w0) (wd : Int) {esv : Value} (he : RdD w0 esv (empts wd 257)) {k : Bs} (hk : k.length = 32) {d : Bs} (hd : d.length = 32) {n : Nat} (hn : n ≤ 256) :
    Fn Tryz.prog 102 #[esv,.int .i64 wd,dg k,.int .i64 0,dg d,.int .i64 (n : Nat)] w0 fun v w' => v = dg (climb wd k 0 (cutD wd d) ((empts wd 257).take n)) ∧ No w0 w' := by
 refine Tryz.go102 (by simp) ?_
 obtain⟨W,hW,f1,k1,k2,k3,s1⟩:=allocs3 w0 (bl k) 34 (bl d) 23 (bl (List.replicate 32 0)) 23
 simp -implicitDefEqProofs only[go_sem,Nat.reduceEqDiff,Nat.reduceBEq,Nat.reduceAdd,gLa,gLz,gLs,Tryz.f102,Value.cells,bl_zero,hW]
 refine contL_call Tryz.pl164 ((within W 0 0 256 (by decide)).mono ?_)
 rintro _ w2 ⟨rfl,rfl⟩
 simp -implicitDefEqProofs only[go_sem,Nat.reduceEqDiff,Nat.reduceBEq,Nat.reduceAdd,gLa,gLz,gLs]
 refine contL_call Tryz.pl164 ((within w2 n 0 256 (by decide)).mono ?_)
 rintro _ w3 ⟨rfl,rfl⟩
 have m1:max (0:Int) (min 0 256)=((0:Nat):Int):=rfl
 have m2:max (0:Int) (min (n:Int) 256)=(n:Int):=by omega
 have r3:=rd_d Tryz.agg23 Tryz.sz23 k2 hd
 simp -implicitDefEqProofs only[go_sem,Nat.reduceEqDiff,Nat.reduceBEq,Nat.reduceAdd,gLa,gLz,gLs,r3,m1,m2]
 refine contL_call Tryz.pl163 ((dcut w3 wd hd).mono ?_)
 rintro _ w4 ⟨rfl,f4⟩
 have lc:=cutD_len wd d
 have q5:=wr_d Tryz.sz23 (f4.at k2 id) hd lc
 have k5:=put_at (o:=.cells (bl (cutD wd d)) 23 (0,0)) (f4.at k2 id)
 have k51:=put_off (b:=w0.heap.size+1) (o:=.cells (bl (cutD wd d)) 23 (0,0)) (f4.at k1 id) (by omega)
 have k53:=put_off (b:=w0.heap.size+1) (o:=.cells (bl (cutD wd d)) 23 (0,0)) (f4.at k3 id) (by omega)
 have f5:No w0 (put w4 (w0.heap.size+1) (.cells (bl (cutD wd d)) 23 (0,0))):=(f1.trans f4).put (b:=w0.heap.size+1) _ fun h=>by omega
 simp -implicitDefEqProofs only[go_sem,Nat.reduceEqDiff,Nat.reduceBEq,Nat.reduceAdd,gLa,gLz,gLs,q5]
 generalize put w4 (w0.heap.size+1) (.cells (bl (cutD wd d)) 23 (0,0))=w5 at *
 generalize hfull:climb wd k 0 (cutD wd d) ((empts wd 257).take n)=full
 refine loopD [0,1,8,10,12,14,15] (cwI w0 wd esv k full n) n ⟨0,cutD wd d,rfl,by omega,rfl,lc,by rw[List.drop_zero,Nat.sub_zero,hfull],k51,k5,k53,f5⟩ ?_
 clear r3 q5 k5 k51 k53 f5 f4 hfull
 rintro _ vs w6 g ⟨h,x,rfl,hh,rfl,hx,hf,j1,j2,j3,f6⟩
 by_cases hlt:h<n
 ·have d1:decide ((h:Int)<(n:Int))=true:=by simp;omega
  have c1:IntKind.i64.wrap ((h:Int)+1)=((h+1:Nat):Int):=i64add (b:=1) (by omega)
  have c2:IntKind.i64.wrap (255 - (h:Int))=((255 - h:Nat):Int):=i64sub (a:=255) (by omega) (by omega)
  have rk:=rd_d Tryz.agg34 Tryz.sz34 j1 hk
  simp -implicitDefEqProofs only[go_sem,Nat.reduceEqDiff,Nat.reduceBEq,Nat.reduceAdd,gLa,gLz,gLs,d1,rk,c2]
  refine contL_call Tryz.pl165 ((bit w6 hk (i:=255 - h) (by omega)).mono ?_)
  rintro _ w7 ⟨rfl,f7⟩
  have he7:=he.fr0 (f6.trans f7)
  obtain⟨eb,eo,ec,rfl,_,_⟩:=he7.pos (by rw[empts_len];decide)
  have re:=he7.get (P:=Tryz.prog) Tryz.agg23 Tryz.sz23 (i:=h) (by rw[empts_len];omega)
  rw[List.getD_eq_getElem?_getD,empts_at wd 257 (by omega),Option.getD_some] at re
  have red:rdO Tryz.prog 23 w7.drew eb (eo+h*32)=_:=re
  have y1:(0:Int)≤(h:Int)∧(h:Int)<(((empts wd 257).length:Nat):Int):=by rw[empts_len];omega
  have hdh:=emptD_len wd h
  have k71:=f7.at j1 id
  have k72:=f7.at j2 id
  have k73:=f7.at j3 id
  have rd7:=rd_d Tryz.agg23 Tryz.sz23 k72 hx
  have rd7d:rdO Tryz.prog 23 w7.drew (w0.heap.size+1) 0=_:=rd7
  have hst:((empts wd 257).drop h).take (n - h)=emptD wd h::((empts wd 257).drop (h+1)).take (n - (h+1)):=by
   rw[List.drop_eq_getElem_cons (by rw[empts_len];omega),show n - h=(n - (h+1))+1 by omega,List.take_succ_cons]
   congr 1
   have:=empts_at wd 257 (i:=h) (by omega)
   rw[List.getElem?_eq_getElem (by rw[empts_len];omega)] at this
   exact Option.some.inj this
  rw[hst,climb] at hf
  unfold up at hf
  unfold kb
  by_cases hbit:kbit k (255 - h)=true
  ·rw[if_pos hbit] at hf
   rw[if_pos hbit]
   have d0:((1:Int) == 0)=false:=rfl
   simp -implicitDefEqProofs only[go_sem,Nat.reduceEqDiff,Nat.reduceBEq,Nat.reduceAdd,gLa,gLz,gLs,d0,y1,and_self,Int.toNat_natCast,re,red,rd7,rd7d]
   refine contL_call Tryz.pl100 ((branch w7.drew (ht.no (f6.trans f7).drew) wd hdh hx).mono ?_)
   rintro _ w8 ⟨rfl,f8⟩
   have lb:(branchD wd (emptD wd h) x).length=32:=branchD_len _ _ _
   have f78:No w7 w8:=(Fr.refl _ _).drew.trans f8
   have q9:=wr_d Tryz.sz23 (f78.at k72 id) hx lb
   simp -implicitDefEqProofs only[go_sem,Nat.reduceEqDiff,Nat.reduceBEq,Nat.reduceAdd,gLa,gLz,gLs,q9,c1]
   exact⟨n - (h+1),by omega,h+1,_,rfl,by omega,rfl,lb,hf,put_off (f78.at k71 id) (by omega),put_at (f78.at k72 id),put_off (f78.at k73 id) (by omega),((f6.trans f7).trans f78).put (b:=w0.heap.size+1) _ fun h=>by omega⟩
  ·rw[if_neg hbit] at hf
   rw[if_neg hbit]
   have d0:((0:Int) == 0)=true:=rfl
   simp -implicitDefEqProofs only[go_sem,Nat.reduceEqDiff,Nat.reduceBEq,Nat.reduceAdd,gLa,gLz,gLs,d0,y1,and_self,Int.toNat_natCast,re,red,rd7,rd7d]
   refine contL_call Tryz.pl100 ((branch w7.drew (ht.no (f6.trans f7).drew) wd hx hdh).mono ?_)
   rintro _ w8 ⟨rfl,f8⟩
   have lb:(branchD wd x (emptD wd h)).length=32:=branchD_len _ _ _
   have f78:No w7 w8:=(Fr.refl _ _).drew.trans f8
   have q9:=wr_d Tryz.sz23 (f78.at k72 id) hx lb
   simp -implicitDefEqProofs only[go_sem,Nat.reduceEqDiff,Nat.reduceBEq,Nat.reduceAdd,gLa,gLz,gLs,q9,c1]
   exact⟨n - (h+1),by omega,h+1,_,rfl,by omega,rfl,lb,hf,put_off (f78.at k71 id) (by omega),put_at (f78.at k72 id),put_off (f78.at k73 id) (by omega),((f6.trans f7).trans f78).put (b:=w0.heap.size+1) _ fun h=>by omega⟩
 ·have d1:decide ((h:Int)<(n:Int))=false:=by simp;omega
  obtain rfl:h=n:=by omega
  rw[Nat.sub_self,List.take_zero] at hf
  have hf:full=x:=hf
  subst hf
  have rd6:=rd_d Tryz.agg23 Tryz.sz23 j2 hx
  have q7:=wr_d Tryz.sz23 j3 zl32 hx
  have r7:=rd_d Tryz.agg23 Tryz.sz23 (put_at (o:=.cells (bl full) 23 (0,0)) j3) hx
  simp -implicitDefEqProofs only[go_sem,Nat.reduceEqDiff,Nat.reduceBEq,Nat.reduceAdd,gLa,gLz,gLs,d1,rd6,q7,r7]
  exact f6.put (b:=w0.heap.size+2) _ fun h=>by omega
end R
end Go.V
end
section
namespace Go.V
open Go.Proofs Sha
set_option maxRecDepth 100000
namespace R
theorem leaf_cut (wd:Int) (k v:Bs):cutD wd (leafD wd k v)=leafD wd k v:=Wit.hcut_tdy wd _
set_option maxHeartbeats 1000000 in
theorem digest1 (w0 : World) (ht : Tabs w0) (wd : Int) {esv mv : Value} (he : RdD w0 esv (empts wd 257)) {e : Bs × Bs} (hm : EnR w0 mv [e]) (hl : e.2.length ≤ 549755813888) {n : Nat} (hn : n ≤ 256) :
    Fn Tryz.prog 58 #[.int .i64 wd,esv,mv,.int .i64 (n : Nat)] w0 fun v w' => v = dg (climb wd e.1 0 (leafD wd e.1 e.2) ((empts wd 257).take (256 - n))) ∧ No w0 w' := by
 refine Tryz.go58 (by simp) ?_
 obtain⟨W,hW,f1,k1,s1⟩:=allocs1 w0 (bl (List.replicate 32 0)) 23
 obtain⟨b,o,cap,vv,rfl,hc,hk,hone,hby,hrd⟩:=(hm.fr0 f1).at (i:=0) (by simp)
 simp only[List.getElem_cons_zero] at hk hby hrd
 have d1:(((([e]:List (Bs × Bs)).length:Nat):Int) == 0)=false:=rfl
 have d2:(((([e]:List (Bs × Bs)).length:Nat):Int) == 1)=true:=rfl
 have y1:(0:Int)≤0∧(0:Int)<((([e]:List (Bs × Bs)).length:Nat):Int):=by simp
 obtain⟨r1,r2,_⟩:=hrd W (Fr.refl _ _)
 obtain⟨r1d,r2d,_⟩:=hrd W.drew (Fr.refl _ _).drew
 rw[Nat.zero_mul,Nat.add_zero] at r1 r2 r1d r2d
 simp -implicitDefEqProofs only[go_sem,Nat.reduceEqDiff,Nat.reduceBEq,Nat.reduceAdd,gLa,gLz,gLs,Tryz.f58,Value.cells,bl_zero,hW,d1,d2]
 refine den_ot (fun j=>j == 9 || j == 10) (.one 0 (.one 1 (.one 2 (.one 3 (.one 4 (.one 5 (.one 6 (.one 7 (.one 8 (.two 9 (.row [10,11]) 10 (.row [9,11]))))))))))) rfl (by kernel_rfl) (by kernel_rfl) ?_
 have ll:(leafD wd e.1 e.2).length=32:=leafD_len _ _ _
 have lc:(climb wd e.1 0 (leafD wd e.1 e.2) ((empts wd 257).take (256 - n))).length=32:=climb_len _ _ _ _ _ ll
 have c1:IntKind.i64.wrap (256 - (n:Int))=((256 - n:Nat):Int):=i64sub (a:=256) (by omega) (by omega)
 simp -implicitDefEqProofs only[go_sem,Nat.reduceEqDiff,Nat.reduceBEq,Nat.reduceAdd,gLa,gLz,gLs,y1,and_self,Int.toNat_zero,Nat.zero_mul,Nat.add_zero,r1,r2,r1d,r2d,ft_beq,tf_beq,beq_self_eq_true,OT.row,Value.cells,bl_zero]
 constructor
 ·refine contOT_call Tryz.pl101 ((leaf W.drew (ht.no f1.drew) wd hk (val:=e.2) (hby.fr0 (Fr.refl _ _).drew) hl).mono ?_)
  rintro _ w2 ⟨rfl,f2⟩
  refine⟨fun _=>Fr.ext f2,?_⟩
  have f12:No W w2:=(Fr.refl _ _).drew.trans f2
  obtain⟨W3,q3,k3,f3,s3⟩:=allocD w2 (ty:=23) Tryz.sz23 ll
  have f13:=f12.trans f3
  have f03:=f1.trans f13
  obtain⟨r1,r2,_⟩:=hrd W3 f13
  obtain⟨r1d,r2d,_⟩:=hrd W3.drew f13.drew
  rw[Nat.zero_mul,Nat.add_zero] at r1 r2 r1d r2d
  have r3:=rd_d Tryz.agg23 Tryz.sz23 k3 ll
  have r3d:rdO Tryz.prog 23 W3.drew w2.heap.size 0=_:=r3
  simp -implicitDefEqProofs only[go_sem,Nat.reduceEqDiff,Nat.reduceBEq,Nat.reduceAdd,gLa,gLz,gLs,Value.cells,bl_zero,q3,y1,and_self,Int.toNat_zero,Nat.zero_mul,Nat.add_zero,r1,r2,r1d,r2d,r3,r3d,c1,ft_beq,tf_beq,beq_self_eq_true]
  refine contL_call Tryz.pl102 ((climbWith W3.drew (ht.no f03.drew) wd (he.fr0 f03.drew) hk ll (n:=256 - n) (by omega)).mono ?_)
  rintro _ w4 ⟨rfl,f4⟩
  rw[leaf_cut]
  have k4:=(f13.drew.trans f4).at k1 id
  have q5:=wr_d Tryz.sz23 k4 zl32 lc
  have r5:=rd_d Tryz.agg23 Tryz.sz23 (put_at (o:=.cells (bl (climb wd e.1 0 (leafD wd e.1 e.2) ((empts wd 257).take (256 - n)))) 23 (0,0)) k4) lc
  simp -implicitDefEqProofs only[go_sem,Nat.reduceEqDiff,Nat.reduceBEq,Nat.reduceAdd,gLa,gLz,gLs,q5,r5]
  exact (f03.drew.trans f4).put (b:=w0.heap.size) _ fun h=>by omega
 ·obtain⟨W2,hW2,f2,k2,s2⟩:=allocs1 W.drew (bl (List.replicate 32 0)) 23
  simp only[hW2]
  have f12:No W W2:=(Fr.refl _ _).drew.trans f2
  refine contOT_call Tryz.pl101 ((leaf W2 (ht.no (f1.trans f12)) wd hk (val:=e.2) (hby.fr0 f12) hl).mono ?_)
  rintro _ w3' ⟨rfl,f3'⟩
  refine⟨fun _=>Fr.ext f3',?_⟩
  have k2':=f3'.at k2 id
  obtain⟨W3,q3,k3,f13⟩:∃ W3,wrO Tryz.prog 23 w3' W.heap.size 0 (dg (leafD wd e.1 e.2))=some W3∧W3.heap[W.heap.size]?=some (.cells (bl (leafD wd e.1 e.2)) 23 (0,0))∧No W W3 :=
   ⟨_,wr_d Tryz.sz23 k2' zl32 ll,put_at k2',(f12.trans f3').put (b:=W.heap.size) _ fun h=>absurd h (Nat.lt_irrefl _)⟩
  have f03:=f1.trans f13
  obtain⟨r1,r2,_⟩:=hrd W3 f13
  obtain⟨r1d,r2d,_⟩:=hrd W3.drew f13.drew
  rw[Nat.zero_mul,Nat.add_zero] at r1 r2 r1d r2d
  have r3:=rd_d Tryz.agg23 Tryz.sz23 k3 ll
  have r3d:rdO Tryz.prog 23 W3.drew W.heap.size 0=_:=r3
  simp -implicitDefEqProofs only[go_sem,Nat.reduceEqDiff,Nat.reduceBEq,Nat.reduceAdd,gLa,gLz,gLs,q3,y1,and_self,Int.toNat_zero,Nat.zero_mul,Nat.add_zero,r1,r2,r1d,r2d,r3,r3d,c1,ft_beq,tf_beq,beq_self_eq_true]
  refine contL_call Tryz.pl102 ((climbWith W3.drew (ht.no f03.drew) wd (he.fr0 f03.drew) hk ll (n:=256 - n) (by omega)).mono ?_)
  rintro _ w4 ⟨rfl,f4⟩
  rw[leaf_cut]
  have k4:=(f13.drew.trans f4).at k1 id
  have q5:=wr_d Tryz.sz23 k4 zl32 lc
  have r5:=rd_d Tryz.agg23 Tryz.sz23 (put_at (o:=.cells (bl (climb wd e.1 0 (leafD wd e.1 e.2) ((empts wd 257).take (256 - n)))) 23 (0,0)) k4) lc
  simp -implicitDefEqProofs only[go_sem,Nat.reduceEqDiff,Nat.reduceBEq,Nat.reduceAdd,gLa,gLz,gLs,q5,r5]
  exact (f03.drew.trans f4).put (b:=w0.heap.size) _ fun h=>by omega
end R
end Go.V
end
section
namespace Go.V
open Go.Proofs Sha
set_option maxRecDepth 100000
namespace R
def spI (w0:World) (mv:Value) (m:Nat) (vs:List Value) (w:World):Prop:=∃ (k:Nat),vs=[mv,.int .i64 0,.int .i64 (k:Nat)]∧k≤1∧m=1 - k∧No w0 w
theorem split2 (w0 : World) {mv : Value} {e1 e2 : Bs × Bs} (hm : EnR w0 mv [e1, e2]) (h1 : kbit e1.1 0 = false) (h2 : kbit e2.1 0 = true) :
    Fn Tryz.prog 103 #[mv,.int .i64 0] w0 fun v w' => v = .int .i64 1 ∧ No w0 w' := by
 refine Tryz.go103 (by simp) ?_
 obtain⟨b,o,cap,vv1,rfl,hc,hk1,_,_,hrd1⟩:=hm.at (i:=0) (by simp)
 obtain⟨b',o',cap',vv2,e,_,hk2,_,_,hrd2⟩:=hm.at (i:=1) (by simp)
 cases e
 simp only[List.getElem_cons_zero,List.getElem_cons_succ] at hk1 hk2 hrd1 hrd2
 simp -implicitDefEqProofs only[go_sem,Nat.reduceEqDiff,Nat.reduceBEq,Nat.reduceAdd,gLa,gLz,gLs,Tryz.f103]
 refine loopD [0,1,5] (spI w0 (.slice (some ⟨b,o,Option.none⟩) ([e1,e2]:List (Bs × Bs)).length cap)) 1 ⟨0,rfl,by omega,rfl,Fr.refl _ _⟩ ?_
 rintro _ vs w g ⟨k,rfl,hk,rfl,f⟩
 rcases Nat.lt_or_ge k 1 with h | h
 ·obtain rfl:k=0:=by omega
  have d1:decide (((0:Nat):Int)<((([e1,e2]:List (Bs × Bs)).length:Nat):Int))=true:=rfl
  have y1:(0:Int)≤((0:Nat):Int)∧((0:Nat):Int)<((([e1,e2]:List (Bs × Bs)).length:Nat):Int):=by simp
  have r1:=(hrd1 w f).1
  have c1:IntKind.i64.wrap (((0:Nat):Int)+1)=((1:Nat):Int):=rfl
  rw[Nat.zero_mul,Nat.add_zero] at r1
  simp -implicitDefEqProofs only[go_sem,Nat.reduceEqDiff,Nat.reduceBEq,Nat.reduceAdd,gLa,gLz,gLs,d1,y1,and_self,Int.toNat_natCast,Nat.zero_mul,Nat.add_zero,r1,decide_true,ft_beq,tf_beq,beq_self_eq_true]
  refine contL_call Tryz.pl166 ((bit3 w hk1 (i:=0) (by decide)).mono ?_)
  rintro _ w2 ⟨rfl,f2⟩
  have hb:kb e1.1 0=0:=by unfold kb;rw[h1];rfl
  rw[hb]
  simp -implicitDefEqProofs only[go_sem,Nat.reduceEqDiff,Nat.reduceBEq,Nat.reduceAdd,gLa,gLz,gLs,decide_true,ft_beq,tf_beq,beq_self_eq_true,c1]
  exact⟨0,by omega,1,rfl,by omega,rfl,f.trans f2⟩
 ·obtain rfl:k=1:=by omega
  have d1:decide (((1:Nat):Int)<((([e1,e2]:List (Bs × Bs)).length:Nat):Int))=true:=rfl
  have y1:(0:Int)≤((1:Nat):Int)∧((1:Nat):Int)<((([e1,e2]:List (Bs × Bs)).length:Nat):Int):=by simp
  have r1:=(hrd2 w f).1
  simp -implicitDefEqProofs only[go_sem,Nat.reduceEqDiff,Nat.reduceBEq,Nat.reduceAdd,gLa,gLz,gLs,d1,y1,and_self,Int.toNat_natCast,r1,decide_true,ft_beq,tf_beq,beq_self_eq_true]
  refine contL_call Tryz.pl166 ((bit3 w hk2 (i:=0) (by decide)).mono ?_)
  rintro _ w2 ⟨rfl,f2⟩
  have hb:kb e2.1 0=1:=by unfold kb;rw[h2];rfl
  have d0:((1:Int) == 0)=false:=rfl
  rw[hb]
  simp -implicitDefEqProofs only[go_sem,Nat.reduceEqDiff,Nat.reduceBEq,Nat.reduceAdd,gLa,gLz,gLs,decide_true,ft_beq,tf_beq,beq_self_eq_true,d0]
  exact⟨rfl,f.trans f2⟩
/-- the digest of a lone key's place -/
def Lone (wd:Int) (e:Bs × Bs) (n:Nat) (x:Bs):Prop:=x=climb wd e.1 0 (leafD wd e.1 e.2) ((empts wd 257).take n)
theorem Lone.len {wd:Int} {e:Bs × Bs} {n:Nat} {x:Bs} (h:Lone wd e n x):x.length=32:=by rw[h];exact climb_len _ _ _ _ _ (leafD_len _ _ _)
theorem digestX (w0 : World) (ht : Tabs w0) (wd : Int) {esv mv : Value} (he : RdD w0 esv (empts wd 257)) {e : Bs × Bs} (hm : EnR w0 mv [e]) (hl : e.2.length ≤ 549755813888) {n : Nat} (hn : n ≤ 256) {x : Bs} (hx : Lone wd e (256 - n) x) :
    Fn Tryz.prog 58 #[.int .i64 wd,esv,mv,.int .i64 (n : Nat)] w0 fun v w' => v = dg x ∧ No w0 w' := by
 rw[hx];exact digest1 w0 ht wd he hm hl hn
set_option maxHeartbeats 1000000 in
theorem digest2 (w0 : World) (ht : Tabs w0) (wd : Int) {esv mv : Value} (he : RdD w0 esv (empts wd 257)) {e1 e2 : Bs × Bs} (hm : EnR w0 mv [e1, e2]) (h1 : kbit e1.1 0 = false) (h2 : kbit e2.1 0 = true) (hl1 : e1.2.length ≤ 549755813888) (hl2 : e2.2.length ≤ 549755813888)
    {x1 x2 : Bs} (hx1 : Lone wd e1 255 x1) (hx2 : Lone wd e2 255 x2) :
    Fn Tryz.prog 58 #[.int .i64 wd,esv,mv,.int .i64 0] w0 fun v w' => v = dg (branchD wd x1 x2) ∧ No w0 w' := by
 refine Tryz.go58 (by simp) ?_
 have l1:=hx1.len
 have l2:=hx2.len
 obtain⟨W,hW,f1,k1,s1⟩:=allocs1 w0 (bl (List.replicate 32 0)) 23
 obtain⟨a,cap,rfl,hc⟩:=hm.slice
 have hc:2≤cap:=hc
 have d1:(((([e1,e2]:List (Bs × Bs)).length:Nat):Int) == 0)=false:=rfl
 have d2:(((([e1,e2]:List (Bs × Bs)).length:Nat):Int) == 1)=false:=rfl
 simp -implicitDefEqProofs only[go_sem,Nat.reduceEqDiff,Nat.reduceBEq,Nat.reduceAdd,gLa,gLz,gLs,Tryz.f58,Value.cells,bl_zero,hW,d1,d2]
 refine contL_call Tryz.pl103 ((split2 W (hm.fr0 f1) h1 h2).mono ?_)
 rintro _ w2 ⟨rfl,f2⟩
 have f02:=f1.trans f2
 have c1:IntKind.i64.wrap ((0:Int)+1)=((1:Nat):Int):=rfl
 have p1:=slc_hi (P:=Tryz.prog) Tryz.slc66 Tryz.arr66 Tryz.sz65 (a:=a) (n:=([e1,e2]:List (Bs × Bs)).length) (cap:=cap) (l:=1) (by simp) hc
 have p2:=slc_lo (P:=Tryz.prog) Tryz.slc66 Tryz.arr66 Tryz.sz65 (a:=a) (n:=([e1,e2]:List (Bs × Bs)).length) (cap:=cap) (l:=1) (by simp) hc
 have p1:sliceP Tryz.prog 66 (.slice a ([e1,e2]:List (Bs × Bs)).length cap) Option.none (some (.int .i64 1)) Option.none=some (cutV 33 a cap 0 1):=p1
 have p2:sliceP Tryz.prog 66 (.slice a ([e1,e2]:List (Bs × Bs)).length cap) (some (.int .i64 1)) Option.none Option.none=some (cutV 33 a cap 1 2):=p2
 have m1:EnR w0 (cutV 33 a cap 0 1) [e1]:=hm.cutV (l:=0) (m:=1) (by decide) (by simp) rfl
 have m2:EnR w0 (cutV 33 a cap 1 2) [e2]:=hm.cutV (l:=1) (m:=2) (by decide) (by simp) rfl
 simp -implicitDefEqProofs only[go_sem,Nat.reduceEqDiff,Nat.reduceBEq,Nat.reduceAdd,gLa,gLz,gLs,p1,c1]
 refine contL_call Tryz.pl58 ((digestX w2 (ht.no f02) wd (he.fr0 f02) (m1.fr0 f02) hl1 (n:=1) (by decide) hx1).mono ?_)
 rintro _ w3 ⟨rfl,f3⟩
 obtain⟨W4,q4,k4,f4,s4⟩:=allocD w3 (ty:=23) Tryz.sz23 l1
 have f04:=(f02.trans f3).trans f4
 simp -implicitDefEqProofs only[go_sem,Nat.reduceEqDiff,Nat.reduceBEq,Nat.reduceAdd,gLa,gLz,gLs,Value.cells,bl_zero,q4,p2,c1]
 refine contL_call Tryz.pl58 ((digestX W4 (ht.no f04) wd (he.fr0 f04) (m2.fr0 f04) hl2 (n:=1) (by decide) hx2).mono ?_)
 rintro _ w5 ⟨rfl,f5⟩
 obtain⟨W6,q6,k6,f6,s6⟩:=allocD w5 (ty:=23) Tryz.sz23 l2
 have f06:=(f04.trans f5).trans f6
 have r6:=rd_d Tryz.agg23 Tryz.sz23 k6 l2
 have r4:=rd_d Tryz.agg23 Tryz.sz23 ((f5.trans f6).at k4 id) l1
 simp -implicitDefEqProofs only[go_sem,Nat.reduceEqDiff,Nat.reduceBEq,Nat.reduceAdd,gLa,gLz,gLs,Value.cells,bl_zero,q6,r4,r6]
 refine contL_call Tryz.pl100 ((branch W6 (ht.no f06) wd l1 l2).mono ?_)
 rintro _ w7 ⟨rfl,f7⟩
 have lb:(branchD wd x1 x2).length=32:=branchD_len _ _ _
 have k7:=(((((f2.trans f3).trans f4).trans f5).trans f6).trans f7).at k1 id
 have q8:=wr_d Tryz.sz23 k7 zl32 lb
 have r8:=rd_d Tryz.agg23 Tryz.sz23 (put_at (o:=.cells (bl (branchD wd x1 x2)) 23 (0,0)) k7) lb
 simp -implicitDefEqProofs only[go_sem,Nat.reduceEqDiff,Nat.reduceBEq,Nat.reduceAdd,gLa,gLz,gLs,q8,r8]
 exact (f06.trans f7).put (b:=w0.heap.size) _ fun h=>by omega
theorem root2 (w0 : World) (ht : Tabs w0) (wd : Int) {mv : Value} {e1 e2 : Bs × Bs} (hm : EnR w0 mv [e1, e2]) (h1 : kbit e1.1 0 = false) (h2 : kbit e2.1 0 = true) (hl1 : e1.2.length ≤ 549755813888) (hl2 : e2.2.length ≤ 549755813888)
    {x1 x2 : Bs} (hx1 : Lone wd e1 255 x1) (hx2 : Lone wd e2 255 x2) :
    Fn Tryz.prog 31 #[.int .i64 wd,mv] w0 fun v w' => v = dg (branchD wd x1 x2) ∧ No w0 w' := by
 refine Tryz.go31 (by simp) ?_
 obtain⟨W,hW,f1,k1,s1⟩:=allocs1 w0 (bl (List.replicate 32 0)) 23
 simp -implicitDefEqProofs only[go_sem,Nat.reduceEqDiff,Nat.reduceBEq,Nat.reduceAdd,gLa,gLz,gLs,Tryz.f31,Value.cells,bl_zero,hW]
 refine contL_call Tryz.pl57 ((empties W (ht.no f1) wd).mono ?_)
 rintro ev w2 ⟨n2,f2⟩
 have f02:=f1.trans f2
 simp -implicitDefEqProofs only[go_sem,Nat.reduceEqDiff,Nat.reduceBEq,Nat.reduceAdd,gLa,gLz,gLs]
 refine contL_call Tryz.pl58 ((digest2 w2 (ht.no f02) wd n2.rd (hm.fr0 f02) h1 h2 hl1 hl2 hx1 hx2).mono ?_)
 rintro _ w3 ⟨rfl,f3⟩
 have lb:(branchD wd x1 x2).length=32:=branchD_len _ _ _
 have k3:=(f2.trans f3).at k1 id
 have q4:=wr_d Tryz.sz23 k3 zl32 lb
 have r4:=rd_d Tryz.agg23 Tryz.sz23 (put_at (o:=.cells (bl (branchD wd x1 x2)) 23 (0,0)) k3) lb
 simp -implicitDefEqProofs only[go_sem,Nat.reduceEqDiff,Nat.reduceBEq,Nat.reduceAdd,gLa,gLz,gLs,q4,r4]
 exact (f02.trans f3).put (b:=w0.heap.size) _ fun h=>by omega
end R
end Go.V
end
