/- Helpers. -/
import Derived.Test.YtmenaeggoakppaaGreatDoorG39
import Derived.Test.YtmenaeggoakppaaGreatDoorG38
import Derived.Test.YtmenaeggoakppaaGreatDoorG34
import Derived.Test.YtmenaeggoakppaaGreatDoorG35
set_option linter.all false
set_option maxRecDepth 100000
set_option maxHeartbeats 8000000
open Bool renaming false_eq_true→qD
open List renaming replicate→zG
open Nat renaming reduceEqDiff→jF,reduceAdd→vJ,lt_irrefl→jD,zero_add→z8,mul_one→jH
open Option renaming getD_some→rW
open Go.Value renaming cells→jM
open Go.V.Wit renaming poss→kA,nearL→rX,gsOf→kO,chk→yO
namespace Go.V
open Go.Proofs.Tryz Go.V.Tryz
open Go.Proofs Sha
namespace R
def tdI (w1:World)(W:Nat)(db:Nat)(d:Bs)(n:Nat)(vs:List Value)(w:World):Prop :=
 ∃ (j:Nat),vs=[pt db 0,.int .i64 (j:Nat)]∧W≤j∧j≤32∧n=32 - j∧(∀ q,W≤q→q<j→d.getD q 0=0)∧No w1 w
theorem tidy13 (w0:World){wd:Int}{W:Nat}(hW:wd=W)(hW2:W≤32){d:Bs}(hd:d.length=32):Fn prog 187 #[.int .i64 wd,dg d] w0 fun v w'=>v=.bool (decide (d=cutD wd d))∧No w0 w':=by
 subst hW;refine go187 (by simp) ?_;obtain⟨w1,hw1,f1,k1,s1⟩:=qQs w0 (bl d) 23;simp -implicitDefEqProofs only[go_sem,jF,Tryz.f187,jM,hw1];refine loopD [3,5] (tdI w1 W w0.heap.size d) (32 - W) ⟨W,rfl,by omega,hW2,rfl,fun q h1 h2=>by omega,Fr.refl _ _⟩ ?_;rintro _ vs w g ⟨j,rfl,hj,hj2,rfl,hz,fw⟩;have hcz:=cutD_zero (wd:=(W:Int)) rfl hd
 by_cases hlt:j<32
 ·have d1:=dTo ((j:Int)<32)
  have y:=iBd (i:=j) (n:=32);have y2:=y.2;have r1:rdO prog 5 w w0.heap.size j=some (.int .u8 ((d.getD j 0).toNat:Int)):=rd1 agg5 (fw.at k1 id) (bl_at (by omega));have c1:=iSu (i:=j)
  by_cases h0:d.getD j 0=0
  ·have d2:(((d.getD j 0).toNat:Int) != 0)=false:=by rw[h0];rfl
   simp -implicitDefEqProofs only[go_sem,jF,d1,y,and_self,if_true,iTn,jH,z8,r1,d2,c1]
   exact⟨32 - (j+1),by omega,j+1,rfl,by omega,by omega,rfl,fun q h1 h2=>by
    by_cases e:q=j
    ·rw[e];exact h0
    ·exact hz q h1 (by omega),fw⟩
  ·have d2:(((d.getD j 0).toNat:Int) != 0)=true:=by
    rw[bne_iff_ne];intro h;apply h0;apply BitVec.eq_of_toNat_eq;simpa using h
   simp -implicitDefEqProofs only[go_sem,jF,d1,y,and_self,if_true,iTn,jH,z8,r1,d2];have:decide (d=cutD (W:Int) d)=false:=decide_eq_false fun h=>h0 (hcz.1 h j hj hlt);rw[this];exact⟨rfl,f1.trans fw⟩
 ·have d1:=dFo ((j:Int)<32)
  simp -implicitDefEqProofs only[go_sem,jF,d1];have:decide (d=cutD (W:Int) d)=true:=decide_eq_true (hcz.2 fun q h1 h2=>hz q h1 (by omega));rw[this];exact⟨rfl,f1.trans fw⟩
theorem sides13 (w0:World){k d n:Bs}(hk:k.length=32)(hd:d.length=32)(hn:n.length=32){h:Nat}(hh:h<256) :
  Fn prog 143 #[dg k,.int .i64 (h:Nat),dg d,dg n] w0 fun v w'=>v=.tuple (if kbit k (255 - h) then #[dg n,dg d] else #[dg d,dg n])∧No w0 w':=by
 refine go143 (by simp) ?_;obtain⟨W,hW,f1,k1,k2,k3,k4,s1⟩:=allocs4 w0 (bl k) 34 (bl d) 23 (bl n) 23 (bl (zG 32 0)) 23;obtain⟨W2,hW2,f2,k5,s2⟩:=qQs W (bl (zG 32 0)) 23;have f02:=f1.trans f2;have k1:=f2.at k1 id;have k2:=f2.at k2 id;have k3:=f2.at k3 id;have k4:=f2.at k4 id;rw[s1]at k5;have rk:=rd_d agg34 sz34 k1 hk;have c1:IntKind.i64.wrap (255 - (h:Int))=((255 - h:Nat):Int):=qXl (a:=255) (b:=h) (by omega) (by omega);simp -implicitDefEqProofs only[go_sem,jF,vJ,Tryz.f143,jM,qQj,hW,hW2,s1,rk,c1];refine qQa pl166 ((bit3 W2 hk (i:=255 - h) (by omega)).mono ?_);rintro _ w3 ⟨rfl,f3⟩;have f03:=f02.trans f3;have k2:=f3.at k2 id;have k3:=f3.at k3 id;have k4:=f3.at k4 id;have k5:=f3.at k5 id;have rd3:=rd_d agg23 sz23 k2 hd;have rn3:=rd_d agg23 sz23 k3 hn;have rd3d:rdO prog 23 w3.drew (w0.heap.size+1) 0=some (dg d):=rd3;have rn3d:rdO prog 23 w3.drew (w0.heap.size+1+1) 0=some (dg n):=rn3
 have fin:∀ x y:Bs, x.length=32→y.length=32→∃ u v, wrO prog 23 w3.drew (w0.heap.size+1+1+1) 0 (dg x)=some u∧wrO prog 23 u (w0.heap.size+4) 0 (dg y)=some v∧rdO prog 23 v (w0.heap.size+1+1+1) 0=some (dg x)∧rdO prog 23 v (w0.heap.size+4) 0=some (dg y) ∧
   rdO prog 23 u (w0.heap.size+1) 0=some (dg d)∧rdO prog 23 u (w0.heap.size+1+1) 0=some (dg n)∧No w0 v:=fun x y hx hy=>by
  have k4d:w3.drew.heap[w0.heap.size+1+1+1]?=_:=k4;have k5d:w3.drew.heap[w0.heap.size+4]?=_:=k5;have k2d:w3.drew.heap[w0.heap.size+1]?=_:=k2;have k3d:w3.drew.heap[w0.heap.size+1+1]?=_:=k3;have q1:=wr_d sz23 k4d zl32 hx;have k4':=qQf (o:=.cells (bl x) 23 (0,0)) k4d;have k5':=qQr (b:=w0.heap.size+1+1+1) (o:=.cells (bl x) 23 (0,0)) k5d (by omega);have k2':=qQr (b:=w0.heap.size+1+1+1) (o:=.cells (bl x) 23 (0,0)) k2d (by omega);have k3':=qQr (b:=w0.heap.size+1+1+1) (o:=.cells (bl x) 23 (0,0)) k3d (by omega);have f4:No w0 (put w3.drew (w0.heap.size+1+1+1) (.cells (bl x) 23 (0,0))):=f03.drew.put (b:=w0.heap.size+1+1+1) _ fun h=>by omega
  have q2:=wr_d sz23 k5' zl32 hy;exact⟨_,_,q1,q2,rd_d agg23 sz23 (qQr (b:=w0.heap.size+4) (o:=.cells (bl y) 23 (0,0)) k4' (by omega)) hx,rd_d agg23 sz23 (qQf (o:=.cells (bl y) 23 (0,0)) k5') hy,rd_d agg23 sz23 k2' hd,rd_d agg23 sz23 k3' hn,f4.put (b:=w0.heap.size+4) _ fun h=>by omega⟩
 cases hb:kbit k (255 - h) with
 | true =>
  have e1:kb k (255 - h)=1:=by unfold kb;rw[hb];rfl
  obtain⟨u,v,q1,q2,r1,r2,r3,r4,f4⟩:=fin n d hn hd;have d0:((1:Int) == 0)=false:=rfl;simp -implicitDefEqProofs only[go_sem,e1,d0];refine qJo (fun _=>false) (.two 0 (.two 1 (.row [2,3]) 2 (.row [1,3])) 1 (.row [0,2,3])) rfl (by kernel_rfl) (by kernel_rfl) ?_;simp only[OT.row];simp -implicitDefEqProofs only[go_sem,jF,gLa,gLz,gLs,rd3d,rn3d,q1,q2,r1,r2,r3,qD,false_implies,true_and,and_self];exact f4
 | false =>
  have e1:kb k (255 - h)=0:=by unfold kb;rw[hb];rfl
  obtain⟨u,v,q1,q2,r1,r2,r3,r4,f4⟩:=fin d n hd hn;simp -implicitDefEqProofs only[go_sem,e1,bSe];refine qJo (fun _=>false) (.two 0 (.two 1 (.row [2,3]) 2 (.row [1,3])) 1 (.row [0,2,3])) rfl (by kernel_rfl) (by kernel_rfl) ?_;simp only[OT.row];simp -implicitDefEqProofs only[go_sem,jF,gLa,gLz,gLs,rd3d,rn3d,q1,q2,r1,r2,r4,qD,false_implies,true_and,and_self];exact f4
theorem sidesR (w0:World){k d n:Bs}(hk:k.length=32)(hd:d.length=32)(hn:n.length=32){h:Nat}(hh:h<256) :
  Fn prog 143 #[dg k,.int .i64 (h:Nat),dg d,dg n] w0 fun v w'=>v=.tuple #[dg (sd1 k d n h),dg (sd2 k d n h)]∧No w0 w' :=
 (sides13 w0 hk hd hn hh).mono fun v w' ⟨h1,h2⟩=>⟨by rw[h1];unfold sd1 sd2;split <;> rfl,h2⟩
theorem wide13 (w0:World)(wd:Int):Fn prog 86 #[.int .i64 wd] w0 fun v w'=>v=.bool (decide (1≤wd∧wd≤32))∧w'=w0:=by
 refine go86 (by simp) ?_
 by_cases h1:1≤wd
 ·have d1:decide (wd ≥ 1)=true:=decide_eq_true h1
  by_cases h2:wd≤32
  ·have d2:decide (wd≤32)=true:=decide_eq_true h2
   have d3:decide (1≤wd∧wd≤32)=true:=decide_eq_true ⟨h1,h2⟩;simp -implicitDefEqProofs only[go_sem,jF,gLa,gLz,gLs,Tryz.f86,d1,d2,d3,bSe]
  ·have d2:decide (wd≤32)=false:=decide_eq_false h2
   have d3:decide (1≤wd∧wd≤32)=false:=decide_eq_false fun h=>h2 h.2;simp -implicitDefEqProofs only[go_sem,jF,gLa,gLz,gLs,Tryz.f86,d1,d2,d3,bSe]
 ·have d1:decide (wd ≥ 1)=false:=decide_eq_false h1
  have d3:decide (1≤wd∧wd≤32)=false:=decide_eq_false fun h=>h1 h.1;simp -implicitDefEqProofs only[go_sem,jF,gLa,gLz,gLs,Tryz.f86,d1,d3,qJu]
theorem empty0 (w0:World)(ht:Tabs w0)(wd:Int):Fn prog 188 #[.int .i64 wd,.int .i64 0] w0 fun v w'=>v=dg (emptD wd 0)∧No w0 w':=by
 refine go188 (by simp) ?_;obtain⟨W,hW,f1,k1,s1⟩:=qQs w0 (bl (zG 32 0)) 23;simp -implicitDefEqProofs only[go_sem,jF,Tryz.f188,jM,qQj,hW];refine qQa pl164 ((within W 0 0 256 (by omega)).mono ?_);rintro _ _ ⟨rfl,rfl⟩;rename_i W;have e0:max (0:Int) (min 0 256)=0:=rfl;simp -implicitDefEqProofs only[go_sem,e0];refine qQl (v:=.slice (some ⟨W.heap.size,0,none⟩) 1 1) (w':=W.alloc (.cells (bl [2]) 5)) rfl ?_;have f2:No W (W.alloc (.cells (bl [2]) 5)):=(Fr.refl _ _).alloc _;have b1:NwB w0 (W.alloc (.cells (bl [2]) 5)) (.slice (some ⟨W.heap.size,0,none⟩) 1 1) [2]:=mk_nw w0 W 5 1 1 1 (bl [2]) f1.size rfl (Nat.le_refl _);generalize W.alloc (.cells (bl [2]) 5)=w2 at *;simp -implicitDefEqProofs only[go_sem,jF];refine qQa pl99 ((rcut w2 (ht.no (f1.trans f2)) wd b1.by (by simp)).mono ?_);rintro _ w3 ⟨rfl,f3⟩;have he:hcut wd [2]=emptD wd 0:=rfl;rw[he];have hdl:=qQp wd 0;generalize emptD wd 0=D at *;obtain⟨w4,q4,k4,f4,s4⟩:=allocD w3 sz23 hdl;simp -implicitDefEqProofs only[go_sem,jF,jM,qQj,q4];refine loopD [0,4,5,6,7] (fun n vs w=>n=0∧vs=[.int .i64 wd,pt w0.heap.size 0,.int .i64 0,pt w3.heap.size 0,.int .i64 0]∧w=w4) 0 ⟨rfl,rfl,rfl⟩ ?_;rintro _ vs w g ⟨rfl,rfl,rfl⟩;have d1:decide ((0:Int)<0)=false:=rfl;have r4:=rd_d agg23 sz23 k4 hdl;have f14:=(f2.trans f3).trans f4;have k14:=f14.at k1 id;have q5:=wr_d sz23 k14 zl32 hdl;have k5:=qQf (o:=.cells (bl D) 23 (0,0)) k14;have r5:=rd_d agg23 sz23 k5 hdl;simp -implicitDefEqProofs only[go_sem,jF,d1,r4,q5,r5];exact (f1.trans f14).put (b:=w0.heap.size) _ fun h=>absurd h (jD _)
theorem start13 (w0:World)(ht:Tabs w0)(wd:Int){k:Bs}(hk:k.length=32){vv:Value}{a:Option Bs}(hv:By w0 vv (a.getD []))(hl:∀ v, a=some v→v.length≤128) :
  Fn prog 141 #[.int .i64 wd,dg k,.bool a.isSome,vv] w0 fun v w'=>v=dg (Wit.ldig wd k a)∧No w0 w':=by
 refine go141 (by simp) ?_;obtain⟨W,hW,f1,k1,k2,s1⟩:=qZa w0 (bl k) 34 (bl (zG 32 0)) 23;have rk:=rd_d agg34 sz34 k1 hk;obtain⟨xa,xc,rfl,_⟩:=hv.slice;have hdl:=Wit.ldig_len wd k a
 cases a with
 | none =>
  dsimp only[Option.isSome];simp -implicitDefEqProofs only[go_sem,jF,vJ,Tryz.f141,jM,qQj,hW];refine qQa pl188 ((empty0 W (ht.no f1) wd).mono ?_);rintro _ w2 ⟨rfl,f2⟩;have k22:=f2.at k2 id;have hdl:=qQp wd 0;have q3:=wr_d sz23 k22 zl32 hdl;have r3:=rd_d agg23 sz23 (qQf (o:=.cells (bl (emptD wd 0)) 23 (0,0)) k22) hdl;simp -implicitDefEqProofs only[go_sem,jF,q3,r3];exact⟨rfl,(f1.trans f2).put (b:=w0.heap.size+1) _ fun h=>by omega⟩
 | some val =>
  dsimp only[Option.isSome];simp -implicitDefEqProofs only[go_sem,jF,vJ,Tryz.f141,jM,qQj,hW,rk];refine qQa pl101 ((leaf W (ht.no f1) wd hk (hv.fr0 f1) (by have:=hl val rfl;show val.length≤_;omega)).mono ?_);rintro _ w2 ⟨rfl,f2⟩;have k22:=f2.at k2 id;have hdl:=qZb wd k val;have q3:=wr_d sz23 k22 zl32 hdl;have r3:=rd_d agg23 sz23 (qQf (o:=.cells (bl (leafD wd k val)) 23 (0,0)) k22) hdl;simp -implicitDefEqProofs only[go_sem,jF,rW,q3,r3];exact⟨rfl,(f1.trans f2).put (b:=w0.heap.size+1) _ fun h=>by omega⟩
end R
namespace R
abbrev spC (f:Bool)(vv nv:Value):Array Value:=#[.bool f,vv,nv]
def F13 (w0:World)(wd:Int)(raw:Bs)(r:Value)(w':World):Prop:=No w0 w'∧match Wit.decP raw with
 | none=>r=.tuple #[.agg (spC false (.slice .none 0 0) (.slice .none 0 0)),.int .i64 120]
 | some (a, bits, sums) => if yO wd (kO bits sums) ≠ 0 then r = .tuple #[.agg (spC false (.slice .none 0 0) (.slice .none 0 0)), .int .i64 (yO wd (kO bits sums))] else
     ∃ vv nv,r = .tuple #[.agg (spC a.isSome vv nv),.int .i64 0] ∧ one vv = true ∧ one nv = true ∧ By w' vv (a.getD []) ∧ RdD w' nv (rX wd bits sums) ∧ (∀ b,qQb vv = some b → w0.heap.size ≤ b) ∧ ∀ b,qQb nv = some b → w0.heap.size ≤ b
def f13I (w0 w1:World)(wd:Int)(esv:Value)(pb sb:Nat)(a:Option Bs)(bits:Bs)(sums:List Bs)(vv:Value)(n:Nat)(vs:List Value)(w:World):Prop :=
 ∃ (h:Nat) (nv:Value),vs=[.int .i64 wd,esv,pt w0.heap.size 0,pt pb 0,pt sb 0,.int .i64 ((kA bits h 0).length:Nat),.int .i64 (h:Nat)]∧h≤256∧n=256 - h∧w.heap[sb]?=some (.cells (spC a.isSome vv nv) 157 (0,0))∧one nv=true∧NwD w1 w 23 nv ((rX wd bits sums).take h) ∧
  yO wd (kO bits sums)=yO wd ((kO bits sums).drop (kA bits h 0).length)∧Fr (fun b=>b=sb) w1 w
theorem allocPr (w:World){p:List Value}(hp:p.length=35)(ho:p.all one=true):∃ W,wrO prog 122 (w.alloc (.cells pZ 122)) w.heap.size 0 (.agg p.toArray)=some W∧W.heap[w.heap.size]?=some (.cells p.toArray 122 (0,0))∧No w W∧W.heap.size=w.heap.size+1:=by
 have k:=qQc w (.cells pZ 122);refine⟨_,qQw (vs:=p.toArray) (by simp[hp,sz122]) k (by simp[pZ,hp]) (by simpa using ho),qQf k,((Fr.refl _ _).alloc _).put (b:=w.heap.size) _ fun h=>absurd h (jD _),?_⟩;simp[put]
theorem allocSp (w:World){f:Bool}{vv nv:Value}(ov:one vv=true)(on:one nv=true):∃ W,wrO prog 157 (w.alloc (.cells (spC false (.slice Option.none 0 0) (.slice Option.none 0 0)) 157)) w.heap.size 0 (.agg (spC f vv nv))=some W∧W.heap[w.heap.size]?=some (.cells (spC f vv nv) 157 (0,0))∧No w W∧W.heap.size=w.heap.size+1:=by
 have k:=qQc w (.cells (spC false (.slice .none 0 0) (.slice .none 0 0)) 157);refine⟨_,qQw (vs:=spC f vv nv) sz157 k rfl (by simp[ov,on];rfl),qQf k,((Fr.refl _ _).alloc _).put (b:=w.heap.size) _ fun h=>absurd h (jD _),?_⟩;simp[put]
theorem prRdBit {w:World}{b:Nat}{f:Bool}{vv sv:Value}{bits:Bs}(h:w.heap[b]?=some (.cells (prL f vv bits sv).toArray 122 (0,0)))(hb:bits.length=32){i:Nat}(hi:i<32):rdO prog 5 w b (2+i)=some (.int .u8 ((bits.getD i 0).toNat:Int)):=by
 refine rd1 agg5 h ?_;rw[List.getElem?_toArray,show 2+i=i+1+1 by omega];show (bits.map u8++[sv])[i]?=_;rw[List.getElem?_append_left (by simp[hb];exact hi),List.getElem?_map,List.getElem?_eq_getElem (by omega),Option.map_some,qQi _ (by omega)]
theorem form13 (w0:World){wd:Int}{W:Nat}(hW:wd=W)(hW2:W≤32){esv rv:Value}{raw:Bs}(he:RdD w0 esv (empts wd 257))(hr:By w0 rv raw)(hl:raw.length≤2 ^ 47) :
  Fn prog 140 #[.int .i64 wd,esv,rv] w0 (F13 w0 wd raw):=by
 refine go140 (by simp) ?_;obtain⟨eb,eo,ec,rfl,_,heb⟩:=he.pos (by rw[qQm];omega);obtain⟨ra,rc,rfl,_⟩:=hr.slice;have z157:spC false (.slice .none 0 0) (.slice .none 0 0)=#[.bool false,.slice .none 0 0,.slice .none 0 0]:=rfl;have bl0:bldO prog 157 []=some (.agg (spC false (.slice .none 0 0) (.slice .none 0 0))):=by kernel_rfl
 obtain⟨W1,hW1,f1,k1,s1⟩:=qQs w0 (spC false (.slice .none 0 0) (.slice .none 0 0)) 157
 have fin:∀ (w:World) (f:Bool) (vv nv:Value), w.heap[w0.heap.size]?=some (.cells (spC false (.slice .none 0 0) (.slice .none 0 0)) 157 (0, 0))→one vv=true→one nv=true→No w0 w →
   wrO prog 157 w w0.heap.size 0 (.agg (spC f vv nv))=some (put w w0.heap.size (.cells (spC f vv nv) 157 (0,0)))∧rdO prog 157 (put w w0.heap.size (.cells (spC f vv nv) 157 (0,0))) w0.heap.size 0=some (.agg (spC f vv nv))∧No w0 (put w w0.heap.size (.cells (spC f vv nv) 157 (0,0))):=fun w f vv nv h ov on fw =>
  ⟨qQw sz157 h rfl (by simp[ov,on];rfl),qXz agg157 sz157 (qQf (o:=.cells (spC f vv nv) 157 (0,0)) h),fw.put (b:=w0.heap.size) _ fun h=>absurd h (jD _)⟩
 simp -implicitDefEqProofs only[go_sem,jF,vJ,Tryz.f140,jM,hW1];refine qQa pl82 ((decode12 W1 (hr.fr0 f1) hl).mono ?_);rintro r w2 ⟨f2,hm⟩;have f02:=f1.trans f2;unfold F13
 cases hd:Wit.decP raw with
 | none =>
  rw[hd]at hm;subst hm;obtain⟨W3,q3,k3,f3,s3⟩:=allocPr w2 (p:=prL false (.slice .none 0 0) (zG 32 0) (.slice .none 0 0)) (qXv (by simp)) (qJz rfl rfl);have k13:=(f2.trans f3).at k1 id;obtain⟨q4,r4,f4⟩:=fin W3 false (.slice .none 0 0) (.slice .none 0 0) k13 rfl rfl (f02.trans f3);have n0:((120:Int) != 0)=true:=rfl;simp -implicitDefEqProofs only[go_sem,jF,gLa,gLz,gLs,jM,q3,n0,bl0,q4,r4];exact⟨f4,trivial⟩
 | some y =>
  obtain⟨a,bits,sums⟩:=y;rw[hd]at hm;obtain⟨vv,sv,rfl,hv,hs,ov,os,hvb,hsb⟩:=hm;obtain⟨hbl,hsl,h32,hal⟩:=Wit.decP_ok hd;obtain⟨w3,q3,k3,f3,s3⟩:=allocPr w2 (p:=prL a.isSome vv bits sv) (qXv hbl) (qJz ov os);have r3f:rdO prog 4 w3 w2.heap.size 0=some (.bool a.isSome):=rd1 agg4 k3 rfl;have r3v:rdO prog 25 w3 w2.heap.size 1=some vv:=rd1 agg25 k3 rfl
  have bl1:bldO prog 157 [(0,.bool a.isSome),(1,vv)]=some (.agg (spC a.isSome vv (.slice .none 0 0))):=by
   obtain⟨x,c,rfl,_⟩:=hv.slice
   rfl
  obtain⟨w4,q4,k4,f4,s4⟩:=allocSp w3 (f:=a.isSome) ov (nv:=.slice .none 0 0) rfl;have f03:=f02.trans f3;have f04:=f03.trans f4;have k14:=((f2.trans f3).trans f4).at k1 id;have kp4:=f4.at k3 id;simp -implicitDefEqProofs only[go_sem,jF,gLa,gLz,gLs,bNe,jM,q3,r3f,r3v,bl1,q4]
  obtain⟨pb,hpb⟩:∃ pb,pb=w2.heap.size:=⟨_,rfl⟩
  obtain⟨sb,hsb'⟩:∃ sb,sb=w3.heap.size:=⟨_,rfl⟩
  have hsb0:w0.heap.size<sb:=by have:=f02.size;have:=f1.size;omega
  have hw4:w4.heap.size=sb+1:=by omega
  refine loopD [0,1,6,8,10,11,12] (f13I w0 w4 wd (.slice (some ⟨eb,eo,.none⟩) (empts wd 257).length ec) pb sb a bits sums vv) 256 ⟨0,.slice .none 0 0,by rw[hpb,hsb'];rfl,by omega,rfl,by rw[hsb'];exact k4,rfl,NwD.nil _ _ _,rfl,Fr.refl _ _⟩ ?_;rw[← hpb]at kp4;rw[← hsb']at k4;rintro _ vs w5 g ⟨h,nv,rfl,hh,rfl,ks3,onv,nnv,hck,f3'⟩;have hne5:¬ (pb=sb):=by omega
  have f05:No w0 w5:=f04.trans' f3' fun b hb h=>by omega
  have kp5:=f3'.at kp4 hne5;have k15:=f3'.at k14 (by omega);have hnv2:∀ b,qQb nv=some b→b≠sb:=fun b hb h=>by have:=(nnv.lt hb).1;omega
  by_cases hlt:h<256
  ·have d1:=dTo ((h:Int)<256)
   have c1:=iSu (i:=h);have he5:=he.fr0 f05;have re:=he5.get (P:=prog) agg23 sz23 (i:=h) (by rw[qQm];omega);rw[gDq,qXw wd 257 (by omega),rW]at re;have ye:(0:Int)≤(h:Int)∧(h:Int)<(((empts wd 257).length:Nat):Int):=by rw[qQm];omega
   have hel:=qQp wd h;obtain⟨w6,q6,k6,f6,s6⟩:=allocD w5 sz23 hel;have n8:((8:Int)=0)=False:=by simp
   have a1:IntKind.i64.wrap ((h:Int).tdiv 8)=((h / 8:Nat):Int):=by rw[show (h:Int).tdiv 8=((h / 8:Nat):Int) from rfl];exact i64n
   have a2:(h:Int).tmod 8=((h % 8:Nat):Int):=rfl;have a3:IntKind.i64.wrap ((h % 8:Nat):Int)=((h % 8:Nat):Int):=i64n;have a4:IntKind.u64.wrap ((h % 8:Nat):Int)=((h % 8:Nat):Int):=u64n (by omega);have n2:¬ (((h % 8:Nat):Int)<0):=by omega
   have y:(0:Int)≤((h / 8:Nat):Int)∧((h / 8:Nat):Int)<((32:Nat):Int):=by omega
   have y2:=y.2;have kp6:=f6.at kp5 id;have ks6:=f6.at ks3 id;have k16:=f6.at k15 id;have rb:=prRdBit kp6 hbl (i:=h / 8) (by omega);have hm:=mbit_and1 bits h;simp -implicitDefEqProofs only[go_sem,jF,d1,ye,and_self,if_true,iTn,re,jM,qQj,q6,n8,a1,a2,a4,n2,y,jH,z8,rb,hm];have hkl:((rX wd bits sums).take h).length=h:=by rw[lTk,qXq];omega
   have htk0:(rX wd bits sums).take (h+1)=(rX wd bits sums).take h++[Wit.nearH wd bits sums h]:=by rw[tSg (by rw[qXq];omega),← nearL_at wd bits sums hlt,qQi _ (by rw[qXq];omega)]
   cases hm':Wit.mbit bits h with
   | false =>
    have hpos:(kA bits h 0).length=(kA bits (h+1) 0).length:=(Wit.gs_skip hm').symm;have htk:=htk0;rw[show Wit.nearH wd bits sums h=emptD wd h from if_pos hm']at htk;rw[hpos]at hck;have rD:=rd_d agg23 sz23 k6 hel;generalize emptD wd h=d at *;have hdl:=hel;have rS:rdO prog 94 w6 sb 2=some nv:=rd1 agg94 ks6 rfl;simp -implicitDefEqProofs only[go_sem,jF,rS,rD,qD,if_false];refine qQl (v:=.slice (some ⟨w6.heap.size,0,.none⟩) 1 1) (w':=w6.alloc (.cells (bl d) 23)) (qXb (y:=List.map u8 (zG 32 0)) (by simp) (c:=bl (zG 32 0)) (by simp) (d:=d) hdl _) ?_;obtain⟨v8,w8,hr8,n8',g8,m8⟩:=(nnv.fr0 f6).pushX app94_94 hdl (by rw[hkl];omega) (by have:=f6.size;have:=f3'.size;omega);simp -implicitDefEqProofs only[go_sem,jF];refine qQg ⟨v8,w8,hr8,?_⟩;have ks8:=g8.at ks6 fun h=>hnv2 _ h rfl;have o8:one v8=true:=by obtain⟨x,c,e,_⟩:=n8'.rd.slice;rw[e];rfl
    have q9:wrO prog 94 w8 sb 2 v8=some (put w8 sb (.cells (spC a.isSome vv v8) 157 (0,0))):=wr1 (P:=prog) sz94 o8 ks8 (by simp);simp -implicitDefEqProofs only[go_sem,jF,q9,c1];have f9:Fr (fun b=>b=sb) w8 (put w8 sb (.cells (spC a.isSome vv v8) 157 (0,0))):=(Fr.refl _ _).put (b:=sb) _ fun _=>rfl;refine⟨256 - (h+1),by omega,h+1,v8,by rw[hpos],by omega,rfl,qQf ks8,o8,?_,hck,((f3'.trans (f6.mono fun _ _ h=>h.elim)).trans' g8 fun b hb h=>by have:=(nnv.lt h).1;omega).trans f9⟩;rw[htk]
    exact n8'.fr f9 fun b hb h=>by
     rcases m8 b hb with h' | h'
     ·exact hnv2 b h' h
     ·have:=qQh ks6;omega
   | true =>
    obtain⟨hal2,hsuc,hdr⟩:=Wit.gs_at hsl hlt hm';rw[hdr,yO]at hck;have hdl:=h32.getD hal2;have f26:Fr (fun b=>b=sb) w2 w6:=(((f3.trans f4).mono fun _ _ h=>h.elim).trans f3').trans (f6.mono fun _ _ h=>h.elim);have hs6:RdD w6 sv sums:=hs.fr f26 fun b hb _ h=>by have:=(hsb b hb).2;omega
    obtain⟨xb,xo,xc,rfl,_,_⟩:=hs6.pos (by omega);have rs6:=prRdSum kp6 hbl;have rg6:=hs6.get (P:=prog) agg23 sz23 hal2;have yg:(0:Int)≤(((kA bits h 0).length:Nat):Int)∧(((kA bits h 0).length:Nat):Int)<((sums.length:Nat):Int):=by omega
    have hple:=Wit.poss_le bits h 0;have c2:IntKind.i64.wrap ((((kA bits h 0).length:Nat):Int)+1)=(((kA bits (h+1) 0).length:Nat):Int):=by rw[hsuc];exact qXc (b:=1)
    have htk:=htk0;rw[show Wit.nearH wd bits sums h=sums.getD (kA bits h 0).length [] from if_neg (by rw[hm'];decide)]at htk;have hpos:(kA bits (h+1) 0).length=(kA bits (h+1) 0).length:=rfl;dsimp only at hck;generalize sums.getD (kA bits h 0).length []=d at *;have q7:=wr_d sz23 k6 hel hdl;have k7:=qQf (o:=.cells (bl d) 23 (0,0)) k6;have f67:Fr (fun b=>b=w5.heap.size) w6 (put w6 w5.heap.size (.cells (bl d) 23 (0,0))):=(Fr.refl _ _).put (b:=w5.heap.size) _ fun _=>rfl;generalize put w6 w5.heap.size (.cells (bl d) 23 (0,0))=w7 at *;have f57:No w5 w7:=f6.trans' f67 fun b hb h=>by omega
    have r7:=rd_d agg23 sz23 k7 hdl;simp -implicitDefEqProofs only[go_sem,jF,rs6,yg,and_self,if_true,iTn,rg6,q7,c2,r7];refine qQa pl187 ((tidy13 w7 hW hW2 hdl).mono ?_);rintro _ w8 ⟨rfl,f78⟩;have f58:=f57.trans f78;have k18:=f58.at k15 id;have f08:=f05.trans f58
    by_cases ht:d=cutD wd d
    ·have dt:decide (d=cutD wd d)=true:=decide_eq_true ht
     rw[if_neg (by rw[← ht];exact fun h=>h rfl)]at hck;have r8:=rd_d agg23 sz23 (f78.at k7 id) hdl;have re8:=(he.fr0 f08).get (P:=prog) agg23 sz23 (i:=h) (by rw[qQm];omega);rw[gDq,qXw wd 257 (by omega),rW]at re8;have r8d:rdO prog 23 w8.drew w5.heap.size 0=_:=r8;have re8d:rdO prog 23 w8.drew eb (eo+h*32)=_:=re8;have eq:=eqDig hdl hel
     by_cases hq:d=emptD wd h
     ·have hb:(d == emptD wd h)=true:=by rw[beq_iff_eq];exact hq
      rw[if_pos hq]at hck;obtain⟨q9,r9,f9⟩:=fin w8.drew false (.slice .none 0 0) (.slice .none 0 0) k18 rfl rfl f08.drew;simp -implicitDefEqProofs only[go_sem,jF,dt,Bool.not_true,ye,and_self,if_true,iTn,r8d,re8d,eq,hb,bl0,q9,r9];rw[hck,if_pos (by decide)];exact⟨f9,rfl⟩
     ·have hb:(d == emptD wd h)=false:=by rw[bFn];exact hq
      rw[if_neg hq]at hck;have fd:No w8 w8.drew:=(Fr.refl _ _).drew;have f59:=f58.trans fd;have ks9:w8.drew.heap[sb]?=_:=f59.at ks3 id;have rD:rdO prog 23 w8.drew w5.heap.size 0=some (dg d):=r8;simp -implicitDefEqProofs only[go_sem,jF,dt,Bool.not_true,ye,and_self,if_true,iTn,r8d,re8d,eq,hb];have rS:rdO prog 94 w8.drew sb 2=some nv:=rd1 agg94 ks9 rfl;have rS0:rdO prog 94 w8 sb 2=some nv:=rS;simp -implicitDefEqProofs only[go_sem,jF,rS0,rD];refine qQl (v:=.slice (some ⟨w8.drew.heap.size,0,.none⟩) 1 1) (w':=w8.drew.alloc (.cells (bl d) 23)) (qXb (y:=List.map u8 (zG 32 0)) (by simp) (c:=bl (zG 32 0)) (by simp) (d:=d) hdl _) ?_;obtain⟨v8,w8,hr8,n8',g8,m8⟩:=(nnv.fr0 f59).pushX app94_94 hdl (by rw[hkl];omega) (by have:=f59.size;have:=f3'.size;omega);simp -implicitDefEqProofs only[go_sem,jF];refine qQg ⟨v8,w8,hr8,?_⟩;have ks8:=g8.at ks9 fun h=>hnv2 _ h rfl;have o8:one v8=true:=by obtain⟨x,c,e,_⟩:=n8'.rd.slice;rw[e];rfl
      have q9:wrO prog 94 w8 sb 2 v8=some (put w8 sb (.cells (spC a.isSome vv v8) 157 (0,0))):=wr1 (P:=prog) sz94 o8 ks8 (by simp);simp -implicitDefEqProofs only[go_sem,jF,q9,c1];have f9:Fr (fun b=>b=sb) w8 (put w8 sb (.cells (spC a.isSome vv v8) 157 (0,0))):=(Fr.refl _ _).put (b:=sb) _ fun _=>rfl;refine⟨256 - (h+1),by omega,h+1,v8,by rw[hpos],by omega,rfl,qQf ks8,o8,?_,hck,((f3'.trans (f59.mono fun _ _ h=>h.elim)).trans' g8 fun b hb h=>by have:=(nnv.lt h).1;omega).trans f9⟩;rw[htk]
      exact n8'.fr f9 fun b hb h=>by
       rcases m8 b hb with h' | h'
       ·exact hnv2 b h' h
       ·have:=qQh ks9;omega
    ·have dt:decide (d=cutD wd d)=false:=decide_eq_false ht
     rw[if_pos ht]at hck;obtain⟨q9,r9,f9⟩:=fin w8 false (.slice .none 0 0) (.slice .none 0 0) k18 rfl rfl f08;simp -implicitDefEqProofs only[go_sem,jF,dt,Bool.not_false,bl0,q9,r9];rw[hck,if_pos (by decide)];exact⟨f9,rfl⟩
  ·have d1:=dFo ((h:Int)<256)
   obtain rfl:h=256:=by omega
   have rs:=qXz (P:=prog) (vs:=spC a.isSome vv nv) agg157 sz157 ks3;obtain⟨q6,r6,f6⟩:=fin w5 a.isSome vv nv k15 ov onv f05;have g6:Fr (fun b=>b=w0.heap.size) w5 (put w5 w0.heap.size (.cells (spC a.isSome vv nv) 157 (0,0))):=(Fr.refl _ _).put (b:=w0.heap.size) _ fun _=>rfl;simp -implicitDefEqProofs only[go_sem,jF,d1,rs,q6,r6]
   have hz:(kO bits sums).drop (kA bits 256 0).length=[]:=by
    apply List.drop_of_length_le;unfold kO;rw[List.length_zip,hsl,Nat.min_self];exact Nat.le_refl _
   rw[hz]at hck;rw[hck,if_neg (by simp[yO])];have nl:(rX wd bits sums).length=256:=qXq _ _ _;rw[List.take_of_length_le (by omega)]at nnv;have fv:Fr (fun b=>b=sb) w2 w5:=((f3.trans f4).mono fun _ _ h=>h.elim).trans f3';refine⟨f6,vv,nv,rfl,ov,onv,?_,?_,fun b hb=>by have:=(hvb b hb).1;have:=f1.size;omega,fun b hb=>by have:=(nnv.lt hb).1;omega⟩
   ·exact (hv.fr fv fun b hb _ h=>by have:=(hvb b hb).2;omega).fr g6 fun b hb _ h=>by have:=(hvb b hb).1;have:=qQh k1;omega
   ·exact nnv.rd.fr g6 fun b hb _ h=>by have:=(nnv.lt hb).1;omega
end R
def TwO (u w:World)(g:Nat)(v:Value):Option Wit.Tw→Prop
 | none=>v=.pointer none
 | some t=>∃ tb B,v=pt tb 0∧TwM u w tb t B∧t.Ok∧g≤t.top
def sizeO:Option Wit.Tw→Nat
 | none=>0
 | some t=>t.size
def bsI (u wT w0:World)(q:Option Wit.Tw)(g:Nat)(k:Bs)(n:Nat)(vs:List Value)(w:World):Prop :=
 ∃ (v:Value) (o:Option Wit.Tw),vs=[v,.int .i64 (g:Nat),pt w0.heap.size 0]∧TwO u wT g v o∧(o.bind fun t=>Wit.bes t k g)=q∧n=sizeO o∧No w0 w∧w.heap[w0.heap.size]?=some (.cells (bl k) 34 (0,0))
end Go.V
