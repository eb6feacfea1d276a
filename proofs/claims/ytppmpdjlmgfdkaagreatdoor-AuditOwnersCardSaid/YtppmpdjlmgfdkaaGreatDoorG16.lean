/- Helpers. -/
import Derived.Test.YtppmpdjlmgfdkaaGreatDoorG15
import Derived.Test.YtppmpdjlmgfdkaaGreatDoorG08
import Derived.Test.YtppmpdjlmgfdkaaGreatDoorG09
set_option linter.all false
set_option maxRecDepth 100000
set_option maxHeartbeats 8000000
open List renaming replicate→zV,getElem_range→jI,take_of_length_le→zT,getElem_map→jO,ext_getElem→j5,take_zero→jP,getElem?_eq_getElem→zQ,append_assoc→zO,length_map→zW,append_nil→j6,map_replicate→j7
open Nat renaming reduceEqDiff→jY,mul_one→jU,le_refl→xT,zero_mul→jL,zero_add→zB,sub_zero→jC,lt_irrefl→jF
open Go.Value renaming cells→jH
namespace Go.V
open Go.Proofs.Tryz Go.V.Tryz
open Go.Proofs Sha
variable {d k l r val:Bs} {b:Nat} {fz:Nat × Nat} {e t:TypeId} {v vv:Value} {w w0:World}
theorem rd_d (ha:aggO prog t=some true)(hs:szO prog t=some 32)(h:w.heap[b]?=some (.cells (bl d) e fz))(hd:d.length=32):rdO prog t w b 0=some (dg d) :=
 rds ha hs h (by rw[qXa,hd]) (by omega) fun i _=>by rw[zB]
theorem wr_d {d d':Bs}(hs:szO prog t=some 32)(h:w.heap[b]?=some (.cells (bl d) e (0,0)))(hd:d.length=32)(hd':d'.length=32):wrO prog t w b 0 (dg d')=some (put w b (.cells (bl d') e (0,0))) :=
 qQr (by rw[qXa,hd'];exact hs) h (by rw[qXa,qXa,hd,hd']) (bl_one _)
theorem zl32:(zV 32 (0:Byte)).length=32:=by simp
theorem row_by (h:w.heap[b]?=some (.cells (bl d) e fz)){m cap:Nat}(hm:m≤d.length)(hc:m≤cap):By w (.slice (some ⟨b,0,none⟩) m cap) (d.take m):=by
 have hl:(d.take m).length=m:=by rw[lTk];omega
 refine⟨by simp,_,_,by rw[hl],by rw[hl];exact hc,fun _=>⟨_,_,rfl,fun j hj=>?_⟩⟩;rw[hl,jU]at hj;rw[qXe h,zB,bl_at (by omega),List.map_take,List.getElem?_take,if_pos hj,List.getElem?_map,zQ (by omega),qQw 0 (by omega)];rfl
theorem bldH:bldO prog 265 [(0,.agg (wl init.list))]=some (.agg (hC init.list (zV 64 0) 0 0)):=by kernel_rfl
theorem dsum (w0:World)(ht:Tabs w0){mv:Value}{msg:Bs}(hm:By w0 mv msg)(hl:msg.length≤1099511627776) :
  Fn prog 181 #[mv] w0 fun v w'=>v=dg (Sha.sum msg)∧No w0 w':=by
 refine go181 (by simp) ?_;have f1:No w0 (w0.alloc (.cells (bl (zV 32 0)) 75)):=(Fr.refl _ _).alloc _;have k1:(w0.alloc (.cells (bl (zV 32 0)) 75)).heap[w0.heap.size]?=some (.cells (bl (zV 32 0)) 75 (0,0)):=qQb _ _;have z1:(w0.alloc (.cells (bl (zV 32 0)) 75)).heap.size=w0.heap.size+1:=qQc _ _;have t1:=ht.no f1;simp -implicitDefEqProofs only[go_sem,Tryz.f181,jH,qQk];generalize w0.alloc (.cells (bl (zV 32 0)) 75)=W1 at *
 have q1:=qQr (P:=prog) (t:=265) (w:=W1.alloc (.cells (hC (zV 8 0) (zV 64 0) 0 0) 265)) (b:=w0.heap.size+1) (vs:=hC init.list (zV 64 0) 0 0) (by rw[qZe];exact sz265)
  (by rw[← z1];exact qQb _ _) (by rw[qZe,qZe];rfl) hC_one
 have h2:=qQd (o:=.cells (hC init.list (zV 64 0) 0 0) 265 (0,0)) (show (W1.alloc (.cells (hC (zV 8 0) (zV 64 0) 0 0) 265)).heap[w0.heap.size+1]?=_ by rw[← z1];exact qQb _ _);have k2:=qQi (b:=w0.heap.size+1) (o:=.cells (hC init.list (zV 64 0) 0 0) 265 (0,0)) (qQq (o:=.cells (hC (zV 8 0) (zV 64 0) 0 0) 265) k1) (by omega);have f2:=(f1.alloc (.cells (hC (zV 8 0) (zV 64 0) 0 0) 265)).put (b:=w0.heap.size+1) (.cells (hC init.list (zV 64 0) 0 0) 265 (0,0)) fun h=>by omega
 simp -implicitDefEqProofs only[go_sem,jY,jH,qQk,t1.init2,bldH,z1,zeroH,q1];generalize put (W1.alloc (.cells (hC (zV 8 0) (zV 64 0) 0 0) 265)) (w0.heap.size+1) (.cells (hC init.list (zV 64 0) 0 0) 265 (0,0))=W2 at *;have hsz:=ht.size;refine qQa pl190 ((write W2 (ht.no f2) (n:=0) (t:=0) (by omega) h2 (by simp) (by omega) (hm.fr0 f2) (fun hne b hb=>?_) (by omega) (by omega)).mono ?_)
 ·obtain⟨_,a,cap,rfl,_,h⟩:=hm
  obtain⟨b',o',rfl,h'⟩:=h (by rw[jU];exact List.length_pos_iff.2 hne);simp only[qQg,oSi]at hb;have:=h' 0 (by rw[jU];exact List.length_pos_iff.2 hne);rw[List.getElem?_map,zQ (List.length_pos_iff.2 hne)]at this;have:=rc_lt this;omega
 rintro _ w3 ⟨rfl,⟨⟨r',hr',e',h3⟩,g3⟩⟩;simp only[jP,List.nil_append,zB]at h3 e';have f3:=f2.trans' g3 fun b hb h=>by omega
 simp -implicitDefEqProofs only[go_sem,jY];refine qQa pl191 ((hsum w3 (ht.no f3) hl ⟨r',hr',e',h3⟩).mono ?_);rintro _ w4 ⟨rfl,f4⟩;have k4:=f4.at (g3.at k2 (by omega)) id;have q:=wr_d sz75 k4 zl32 (sum_len msg);have r:=rd_d agg75 sz75 (qQd (o:=.cells (bl (Sha.sum msg)) 75 (0,0)) k4) (sum_len msg);generalize Sha.sum msg=d at q r;simp -implicitDefEqProofs only[go_sem,jY,q,r];exact (f3.trans f4).put (b:=w0.heap.size) _ fun h=>absurd h (jF _)
theorem cutD_eq (w:Int)(d:Bs)(hd:d.length=32):cutD w d=d.take (wid w)++zV (32 - wid w) 0:=by
 refine j5 (by rw[qXv];have:=wid_le w;simp;omega) fun i h1 h2=>?_;rw[qXv]at h1;have hw:=wid_le w;rw[List.getElem_append];simp only[cutD,jO,jI,lTk,List.getElem_take,List.getElem_replicate];have:((i:Int)<w) ↔ i<wid w:=by unfold wid;omega
 by_cases h:i<wid w
 ·rw[if_pos (this.2 h),dif_pos (by omega),qQw 0 (by omega)]
 ·rw[if_neg fun h'=>h (this.1 h'),dif_neg (by omega)]
theorem clampW (w:Int):(if (32:Int)<(if (0:Int) > w then 0 else w) then (32:Int) else (if (0:Int) > w then 0 else w))=((wid w:Nat):Int):=by
 unfold wid;split <;> (try split) <;> omega
theorem dcut (w0:World)(width:Int)(hd:d.length=32) :
  Fn prog 180 #[dg d,.int .i64 width] w0 fun v w'=>v=dg (cutD width d)∧No w0 w':=by
 refine go180 (by simp) ?_;have f1:No w0 (((w0.alloc (.cells (bl d) 75)).alloc (.cells (bl (zV 32 0)) 75)).alloc (.cells (bl (zV 32 0)) 75)):=(((Fr.refl _ _).alloc _).alloc _).alloc _;have h0:(((w0.alloc (.cells (bl d) 75)).alloc (.cells (bl (zV 32 0)) 75)).alloc (.cells (bl (zV 32 0)) 75)).heap[w0.heap.size]?=some (.cells (bl d) 75 (0,0)):=qQq (qQq (qQb _ _))
 have h1:(((w0.alloc (.cells (bl d) 75)).alloc (.cells (bl (zV 32 0)) 75)).alloc (.cells (bl (zV 32 0)) 75)).heap[w0.heap.size+1]?=some (.cells (bl (zV 32 0)) 75 (0,0)):=by
  have:=qQb (w0.alloc (.cells (bl d) 75)) (.cells (bl (zV 32 0)) 75);rw[qQc]at this;exact qQq this
 have h2:(((w0.alloc (.cells (bl d) 75)).alloc (.cells (bl (zV 32 0)) 75)).alloc (.cells (bl (zV 32 0)) 75)).heap[w0.heap.size+1+1]?=some (.cells (bl (zV 32 0)) 75 (0,0)):=by
  have:=qQb ((w0.alloc (.cells (bl d) 75)).alloc (.cells (bl (zV 32 0)) 75)) (.cells (bl (zV 32 0)) 75);rw[qQc,qQc]at this;exact this
 have hw:=wid_le width;have n32:((32:Nat)=0)=False:=by simp
 have sb:sbO (.int .i64 ((wid width:Nat):Int)) 32=some (wid width):=by simp only[sbO];rw[if_pos (by omega),iTn]
 simp -implicitDefEqProofs only[go_sem,jY,Tryz.f180,jH,qQk,maxL,minL,clampW,qQs,optB,sb,n32,jL,jC];generalize ((w0.alloc (.cells (bl d) 75)).alloc (.cells (bl (zV 32 0)) 75)).alloc (.cells (bl (zV 32 0)) 75)=W at *;have hrun:=run_copy (P:=prog) (ts:=#[22,22]) (t:=22) rfl slc22 sz5 (w:=W.drew) (b:=w0.heap.size+1+1) (o:=0) (dn:=wid width) (dc:=32) h2 (row_by (w:=W.drew) h0 (m:=wid width) (cap:=32) (by omega) hw) (qXy _) (by rw[qXa,zl32];omega);have hm:min (d.take (wid width)).length (wid width)=wid width:=by rw[lTk];omega
 rw[hm,jU,zT (by rw[zW,lTk];omega)]at hrun
 have hst:qXl ((d.take (wid width)).map u8) 0 (bl (zV 32 0))=bl (cutD width d):=by
  apply Array.toList_inj.1;rw[qKy _ _ _ (by rw[zW,lTk,qXa,zl32];omega),cutD_eq width d hd,zW,lTk,hd];simp only[jP,List.nil_append,zB,List.map_append,j7,List.drop_replicate]
  congr 2;omega
 rw[hst]at hrun;refine qQj ⟨_,_,hrun,?_⟩;have l2:=qQd (o:=.cells (bl (cutD width d)) 75 (0,0)) h2;have r:=rd_d agg75 sz75 (show (put W.drew (w0.heap.size+1+1) (.cells (bl (cutD width d)) 75 (0,0))).heap[w0.heap.size+1+1]?=_ from qQd h2) (qXv width d);have k1:(put W.drew (w0.heap.size+1+1) (.cells (bl (cutD width d)) 75 (0,0))).heap[w0.heap.size+1]?=some (.cells (bl (zV 32 0)) 75 (0,0)):=qQi h1 (by omega);have q:=wr_d sz75 k1 zl32 (qXv width d);have r2:=rd_d agg75 sz75 (qQd (o:=.cells (bl (cutD width d)) 75 (0,0)) k1) (qXv width d);generalize cutD width d=d' at *;simp -implicitDefEqProofs only[go_sem,jY,r,q,r2];exact (f1.drew.put (b:=w0.heap.size+1+1) _ fun h=>by omega).put (b:=w0.heap.size+1) _ fun h=>by omega
theorem within (w0:World)(n lo hi:Int):Fn prog 182 #[.int .i64 n,.int .i64 lo,.int .i64 hi] w0 fun v w'=>v=.int .i64 (max lo (min n hi))∧w'=w0:=by
 refine go182 (by simp) ?_
 have e:(if lo<(if hi<n then hi else n) then (if hi<n then hi else n) else lo)=max lo (min n hi):=by split <;> (try split) <;> omega
 simp -implicitDefEqProofs only[go_sem,jY,Tryz.f182,maxL,minL,gt_iff_lt,e,and_self]
theorem widI (w:Int):max 0 (min w 32)=((wid w:Nat):Int):=by unfold wid;omega
theorem mk0 (w0 w:World){c:Nat}(hc:c≤1099511627776)(f:No w0 w):∃ w',(Instr.makeSlice 22 (.int .i64 0) (.int .i64 (c:Nat))).run prog w=.ok (.slice (some ⟨w.heap.size,0,none⟩) 0 c) w'∧NwB w0 w' (.slice (some ⟨w.heap.size,0,none⟩) 0 c) []∧No w0 w'∧No w w':=by
 have:=run_mk (P:=prog) (t:=22) (by':=1) slc22 sz5 by5 zero5 (l:=0) (c:=c) (Nat.zero_le _) (by omega) (by omega) .i64 .i64 w;refine⟨_,this,?_,f.alloc _,(Fr.refl _ _).alloc _⟩;have h:=mk_nw w0 w 5 1 0 c (madeCells (Value.int .u8 0).cells (c*1)) f.size (size_madeCells _ _) (Nat.zero_le _);unfold NwB;simpa using h
theorem leafText (w0:World)(hk:k.length=32)(hv:By w0 vv val)(hl:val.length≤549755813888) :
  Fn prog 197 #[dg k,vv] w0 fun v w'=>NwB w0 w' v (leafT k val)∧No w0 w':=by
 refine go197 (by simp) ?_;have f1:No w0 (w0.alloc (.cells (bl k) 76)):=(Fr.refl _ _).alloc _;have k1:(w0.alloc (.cells (bl k) 76)).heap[w0.heap.size]?=some (.cells (bl k) 76 (0,0)):=qQb _ _;have hv1:=hv.fr0 f1;have a1:IntKind.i64.wrap (33+((val.length:Nat):Int))=((33+val.length:Nat):Int):=qXi (a:=33);obtain⟨va,vc,rfl,_⟩:=hv.at;simp -implicitDefEqProofs only[go_sem,jY,Tryz.f197,jH,a1];generalize w0.alloc (.cells (bl k) 76)=W at *;obtain⟨w2,hr2,b2,f2,g2⟩:=mk0 w0 W (c:=33+val.length) (by omega) f1;refine qQj ⟨_,_,hr2,?_⟩;simp -implicitDefEqProofs only[go_sem];refine qQp (v:=.slice (some ⟨w2.heap.size,0,none⟩) 1 1) (w':=w2.alloc (.cells (bl [0]) 5)) rfl ?_;simp -implicitDefEqProofs only[go_sem,jY];obtain⟨v3,w3,hr3,b3,f3,g3⟩:=b2.push app22_22 [0] (bd47 (by simp)) (by simp) f2;refine qQj ⟨v3,w3,hr3,?_⟩;have hs2:=g2.size;have hblk3:∀ b,qQg (.slice (some ⟨W.heap.size,0,none⟩) 0 (33+val.length))=some b→b=W.heap.size:=fun b h=>by simpa [qQg,eq_comm] using h
 have k3:w3.heap[w0.heap.size]?=some (.cells (bl k) 76 (0,0)):=g3.at (g2.at k1 id) fun h=>by
  have:=hblk3 _ h;have:=qQh k1;omega
 have n32:((32:Nat)=0)=False:=by simp
 simp -implicitDefEqProofs only[go_sem,jY,qQs,optB,n32,jL,jC];have hkb:=row_by (w:=w3) k3 (m:=32) (cap:=32) (by omega) (by omega);rw[zT (by omega)]at hkb;obtain⟨v4,w4,hr4,b4,f4,g4⟩:=b3.cat app22_22 hkb (bd47 (by simp;omega)) (by simp;omega) f3;refine qQj ⟨v4,w4,hr4,?_⟩;simp -implicitDefEqProofs only[go_sem,jY];obtain⟨v5,w5,hr5,b5,f5,g5⟩:=b4.cat app22_22 (hv.fr0 f4) (bd47 (by simp;omega)) (by simp;omega) f4;refine qQj ⟨v5,w5,hr5,?_⟩;simp -implicitDefEqProofs only[go_sem];exact⟨by simpa [leafT] using b5,f5⟩
theorem branchText (w0:World)(width:Int)(hl:l.length=32)(hr:r.length=32) :
  Fn prog 183 #[.int .i64 width,dg l,dg r] w0 fun v w'=>NwB w0 w' v (qVd width l r)∧No w0 w':=by
 refine go183 (by simp) ?_;have f1:No w0 ((w0.alloc (.cells (bl l) 75)).alloc (.cells (bl r) 75)):=((Fr.refl _ _).alloc _).alloc _;have k1:((w0.alloc (.cells (bl l) 75)).alloc (.cells (bl r) 75)).heap[w0.heap.size]?=some (.cells (bl l) 75 (0,0)):=qQq (qQb _ _)
 have j1:((w0.alloc (.cells (bl l) 75)).alloc (.cells (bl r) 75)).heap[w0.heap.size+1]?=some (.cells (bl r) 75 (0,0)):=by
  have:=qQb (w0.alloc (.cells (bl l) 75)) (.cells (bl r) 75);rw[qQc]at this;exact this
 simp -implicitDefEqProofs only[go_sem,jY,Tryz.f183,jH];generalize (w0.alloc (.cells (bl l) 75)).alloc (.cells (bl r) 75)=W at *;refine qQa pl182 ((within W width 0 32).mono ?_);rintro _ _ ⟨rfl,rfl⟩;have hw:=wid_le width;have a1:IntKind.i64.wrap (2*((wid width:Nat):Int))=((2*wid width:Nat):Int):=i64mul (a:=2) (b:=wid width) (by omega);have a2:IntKind.i64.wrap (1+((2*wid width:Nat):Int))=((1+2*wid width:Nat):Int):=qXi (a:=1) (b:=2*wid width);rw[widI];generalize hww:wid width=ww at *;rename_i W';simp -implicitDefEqProofs only[go_sem,a1,a2];obtain⟨w2,hr2,b2,f2,g2⟩:=mk0 w0 W' (c:=1+2*ww) (by omega) f1;refine qQj ⟨_,_,hr2,?_⟩;simp -implicitDefEqProofs only[go_sem];refine qQp (v:=.slice (some ⟨w2.heap.size,0,none⟩) 1 1) (w':=w2.alloc (.cells (bl [1]) 5)) rfl ?_;simp -implicitDefEqProofs only[go_sem,jY];obtain⟨v3,w3,hr3,b3,f3,g3⟩:=b2.push app22_22 [1] (bd47 (by simp)) (by simp) f2;refine qQj ⟨v3,w3,hr3,?_⟩;have hs2:=g2.size;have hblk3:∀ b,qQg (.slice (some ⟨W'.heap.size,0,none⟩) 0 (1+2*ww))=some b→b=W'.heap.size:=fun b h=>by simpa [qQg,eq_comm] using h
 have k3:w3.heap[w0.heap.size]?=some (.cells (bl l) 75 (0,0)):=g3.at (g2.at k1 id) fun h=>by
  have:=hblk3 _ h;have:=qQh k1;omega
 have j3:w3.heap[w0.heap.size+1]?=some (.cells (bl r) 75 (0,0)):=g3.at (g2.at j1 id) fun h=>by
  have:=hblk3 _ h;have:=qQh j1;omega
 have n32:((32:Nat)=0)=False:=by simp
 have sb:sbO (.int .i64 ((ww:Nat):Int)) 32=some ww:=by simp only[sbO];rw[if_pos (by omega),iTn]
 have hv3:∀ b,qQg v3=some b→b≠w0.heap.size∧b≠w0.heap.size+1:=fun b hb=>by
  have:=qQh j1
  have h3:W'.heap.size≤b:=by
   have h4:=b3.own.lt hb;obtain⟨v3',w3',hr3',_,_,g3',h5⟩:=app_fresh app22_22 b2 (m:=1) (xs:=bl [1]) (by simp) rfl (by omega) (bd47 (by simp)) (by simp) f2;have e:=hr3.symm.trans hr3';simp only[Result.ok.injEq]at e;obtain⟨rfl,rfl⟩:=e
   rcases h5 b hb with h | h
   ·have:=hblk3 _ h;omega
   ·omega
  omega
 simp -implicitDefEqProofs only[go_sem,jY,qQs,optB,sb,n32,jL,jC];have hkb:=row_by (w:=w3.drew) k3 (m:=ww) (cap:=32) (by omega) (by omega);have b3d:NwB w0 w3.drew v3 ([]++[1]):=b3.fr0 (Fr.refl _ _).drew;obtain⟨v4,w4,hr4,b4,f4,g4⟩:=b3d.cat app22_22 hkb (bd47 (by simp;omega)) (by simp;omega) f3.drew;refine qQj ⟨v4,w4,hr4,?_⟩;simp -implicitDefEqProofs only[go_sem,jY,qQs,optB,sb,n32,jL,jC];have j4:w4.heap[w0.heap.size+1]?=some (.cells (bl r) 75 (0,0)):=g4.at j3 fun h=>(hv3 _ h).2 rfl;have hjb:=row_by (w:=w4) j4 (m:=ww) (cap:=32) (by omega) (by omega);obtain⟨v5,w5,hr5,b5,f5,g5⟩:=b4.cat app22_22 hjb (bd47 (by simp;omega)) (by simp;omega) f4;refine qQj ⟨v5,w5,hr5,?_⟩;simp -implicitDefEqProofs only[go_sem];refine⟨?_,f5⟩;unfold qVd;rw[hww];simpa using b5
theorem leafT_len (k v:Bs):(leafT k v).length=1+k.length+v.length:=by simp[leafT];omega
theorem branchT_len (w:Int)(l r:Bs):(qVd w l r).length≤65:=by have:=wid_le w;simp[qVd];omega
theorem leaf (w0:World)(ht:Tabs w0)(width:Int)(hk:k.length=32)(hv:By w0 vv val)(hl:val.length≤549755813888) :
  Fn prog 193 #[.int .i64 width,dg k,vv] w0 fun v w'=>v=dg (leafD width k val)∧No w0 w':=by
 refine go193 (by simp) ?_;have f1:No w0 ((w0.alloc (.cells (bl k) 76)).alloc (.cells (bl (zV 32 0)) 75)):=((Fr.refl _ _).alloc _).alloc _;have k1:((w0.alloc (.cells (bl k) 76)).alloc (.cells (bl (zV 32 0)) 75)).heap[w0.heap.size]?=some (.cells (bl k) 76 (0,0)):=qQq (qQb _ _)
 have j1:((w0.alloc (.cells (bl k) 76)).alloc (.cells (bl (zV 32 0)) 75)).heap[w0.heap.size+1]?=some (.cells (bl (zV 32 0)) 75 (0,0)):=by
  have:=qQb (w0.alloc (.cells (bl k) 76)) (.cells (bl (zV 32 0)) 75);rw[qQc]at this;exact this
 simp -implicitDefEqProofs only[go_sem,jY,Tryz.f193,jH,qQk];generalize (w0.alloc (.cells (bl k) 76)).alloc (.cells (bl (zV 32 0)) 75)=W at *;have r1:=rd_d agg76 sz76 k1 hk;simp -implicitDefEqProofs only[go_sem,jY,r1];refine qQa pl197 ((leafText W hk (hv.fr0 f1) hl).mono ?_);rintro tv w2 ⟨b2,f2⟩;simp -implicitDefEqProofs only[go_sem];refine qQa pl181 ((dsum w2 ((ht.no f1).no f2) b2.by (by rw[leafT_len];omega)).mono ?_);rintro _ w3 ⟨rfl,f3⟩;simp -implicitDefEqProofs only[go_sem,jY];refine qQa pl180 ((dcut w3 width (sum_len _)).mono ?_);rintro _ w4 ⟨rfl,f4⟩;have j4:=f4.at (f3.at (f2.at j1 id) id) id;show denL _ _ _ _ _ _;have e:cutD width (Sha.sum (leafT k val))=leafD width k val:=rfl;rw[e];have q:=wr_d sz75 j4 zl32 (qZd width k val);have r:=rd_d agg75 sz75 (qQd (o:=.cells (bl (leafD width k val)) 75 (0,0)) j4) (qZd width k val);generalize leafD width k val=d at q r;simp -implicitDefEqProofs only[go_sem,jY,q,r];exact (((f1.trans f2).trans f3).trans f4).put (b:=w0.heap.size+1) _ fun h=>by omega
theorem branch (w0:World)(ht:Tabs w0)(width:Int)(hl:l.length=32)(hr:r.length=32) :
  Fn prog 160 #[.int .i64 width,dg l,dg r] w0 fun v w'=>v=dg (qXk width l r)∧No w0 w':=by
 refine go160 (by simp) ?_;have f1:No w0 (((w0.alloc (.cells (bl l) 75)).alloc (.cells (bl r) 75)).alloc (.cells (bl (zV 32 0)) 75)):=(((Fr.refl _ _).alloc _).alloc _).alloc _;have k1:(((w0.alloc (.cells (bl l) 75)).alloc (.cells (bl r) 75)).alloc (.cells (bl (zV 32 0)) 75)).heap[w0.heap.size]?=some (.cells (bl l) 75 (0,0)):=qQq (qQq (qQb _ _))
 have j1:(((w0.alloc (.cells (bl l) 75)).alloc (.cells (bl r) 75)).alloc (.cells (bl (zV 32 0)) 75)).heap[w0.heap.size+1]?=some (.cells (bl r) 75 (0,0)):=by
  have:=qQb (w0.alloc (.cells (bl l) 75)) (.cells (bl r) 75);rw[qQc]at this;exact qQq this
 have i1:(((w0.alloc (.cells (bl l) 75)).alloc (.cells (bl r) 75)).alloc (.cells (bl (zV 32 0)) 75)).heap[w0.heap.size+1+1]?=some (.cells (bl (zV 32 0)) 75 (0,0)):=by
  have:=qQb ((w0.alloc (.cells (bl l) 75)).alloc (.cells (bl r) 75)) (.cells (bl (zV 32 0)) 75);rw[qQc,qQc]at this;exact this
 simp -implicitDefEqProofs only[go_sem,jY,Tryz.f160,jH,qQk];generalize ((w0.alloc (.cells (bl l) 75)).alloc (.cells (bl r) 75)).alloc (.cells (bl (zV 32 0)) 75)=W at *;have r1:=rd_d agg75 sz75 k1 hl;have r2:=rd_d agg75 sz75 j1 hr;simp -implicitDefEqProofs only[go_sem,jY,r1,r2];refine qQa pl183 ((branchText W width hl hr).mono ?_);rintro tv w2 ⟨b2,f2⟩;simp -implicitDefEqProofs only[go_sem];refine qQa pl181 ((dsum w2 ((ht.no f1).no f2) b2.by (by have:=branchT_len width l r;omega)).mono ?_);rintro _ w3 ⟨rfl,f3⟩;simp -implicitDefEqProofs only[go_sem,jY];refine qQa pl180 ((dcut w3 width (sum_len _)).mono ?_);rintro _ w4 ⟨rfl,f4⟩;have i4:=f4.at (f3.at (f2.at i1 id) id) id;show denL _ _ _ _ _ _;have e:cutD width (Sha.sum (qVd width l r))=qXk width l r:=rfl;rw[e];have q:=wr_d sz75 i4 zl32 (qXj width l r);have rr:=rd_d agg75 sz75 (qQd (o:=.cells (bl (qXk width l r)) 75 (0,0)) i4) (qXj width l r);generalize qXk width l r=d at q rr;simp -implicitDefEqProofs only[go_sem,jY,q,rr];exact (((f1.trans f2).trans f3).trans f4).put (b:=w0.heap.size+1+1) _ fun h=>by omega
namespace R
def cutK (w:Int)(d:Bs)(k:Nat):Bs:=(List.range 32).map fun (i:Nat)=>if i<k∧¬ ((i:Int)<w) then 0 else d.getD i 0
theorem qKh (w:Int)(d:Bs)(k:Nat):(cutK w d k).length=32:=by simp[cutK]
theorem cutK_zero (w:Int)(h:d.length=32):cutK w d 0=d:=by
 refine j5 (by rw[qKh,h]) fun i h1 h2=>?_;simp only[cutK,jO,jI];rw[if_neg (by omega),qQw 0 h2]
theorem cutK_all (w:Int)(d:Bs):cutK w d 32=cutD w d:=by
 refine j5 (by rw[qKh,qXv]) fun i h1 h2=>?_;rw[qKh]at h1;simp only[cutK,cutD,jO,jI]
 by_cases h:(i:Int)<w
 ·rw[if_neg (by simp[h]),if_pos h]
 ·rw[if_pos ⟨h1,h⟩,if_neg h]
theorem cutK_keep (w:Int)(d:Bs){k:Nat}(h:(k:Int)<w):cutK w d (k+1)=cutK w d k:=by
 refine j5 (by rw[qKh,qKh]) fun i h1 h2=>?_;simp only[cutK,jO,jI]
 by_cases hi:i=k
 ·subst hi;rw[if_neg (by simp[h]),if_neg (by omega)]
 ·by_cases h3:i<k
  ·simp[h3,show i<k+1 by omega]
  ·rw[if_neg (by omega),if_neg (by omega)]
theorem cutK_set (w:Int)(d:Bs){k:Nat}(h:¬ ((k:Int)<w))(hk:k<32):(cutK w d k).set k 0=cutK w d (k+1):=by
 refine j5 (by rw[List.length_set,qKh,qKh]) fun i h1 h2=>?_;rw[List.getElem_set];simp only[cutK,jO,jI]
 by_cases hi:k=i
 ·subst hi;rw[if_pos rfl,if_pos ⟨by omega,h⟩]
 ·rw[if_neg hi]
  by_cases h3:i<k
  ·simp[h3,show i<k+1 by omega]
  ·rw[if_neg (by omega),if_neg (by omega)]
def ctI (w0:World)(width:Int)(d:Bs)(n:Nat)(vs:List Value)(w:World):Prop :=
 ∃ i,vs=[.int .i64 width,pt w0.heap.size 0,pt (w0.heap.size+1) 0,.int .i64 (i:Nat)]∧i≤32∧n=32 - i∧w.heap[w0.heap.size]?=some (.cells (bl (cutK width d i)) 75 (0,0)) ∧
  w.heap[w0.heap.size+1]?=some (.cells (bl (zV 32 0)) 75 (0,0))∧No w0 w
theorem dcut (w0:World)(width:Int)(hd:d.length=32) :
  Fn prog 133 #[dg d,.int .i64 width] w0 fun v w'=>v=dg (cutD width d)∧No w0 w':=by
 refine go133 (by simp) ?_;have f1:No w0 ((w0.alloc (.cells (bl d) 75)).alloc (.cells (bl (zV 32 0)) 75)):=((Fr.refl _ _).alloc _).alloc _;have h0:((w0.alloc (.cells (bl d) 75)).alloc (.cells (bl (zV 32 0)) 75)).heap[w0.heap.size]?=some (.cells (bl d) 75 (0,0)):=qQq (qQb _ _)
 have h1:((w0.alloc (.cells (bl d) 75)).alloc (.cells (bl (zV 32 0)) 75)).heap[w0.heap.size+1]?=some (.cells (bl (zV 32 0)) 75 (0,0)):=by
  have:=qQb (w0.alloc (.cells (bl d) 75)) (.cells (bl (zV 32 0)) 75);rw[qQc]at this;exact this
 simp -implicitDefEqProofs only[go_sem,Tryz.f133,jH,qQk];refine loopD [1,2,4,5] (ctI w0 width d) 32 ⟨0,rfl,by omega,rfl,by rw[cutK_zero width hd];exact h0,h1,f1⟩ ?_;rintro _ vs w1 g ⟨i,rfl,hi,rfl,k0,k1,g1⟩
 by_cases hlt:i<32
 ·have d1:=dTo ((i:Int)<32)
  have c1:=iSu (i:=i)
  by_cases hw:(i:Int)<width
  ·have d2:=dFo ((i:Int) ≥ width)
   rw[← cutK_keep width d hw]at k0;simp -implicitDefEqProofs only[go_sem,jY,d1,d2,c1];exact⟨32 - (i+1),by omega,i+1,rfl,by omega,rfl,k0,k1,g1⟩
  ·have d2:=dTo ((i:Int) ≥ width)
   have y:=iBd (i:=i) (n:=32);have q:=wr1 (P:=prog) (t:=5) (v:=u8 0) (o:=i) sz5 rfl k0 (by rw[qXa,qKh];exact hlt);rw[bl_set,cutK_set width d hw hlt]at q
   replace q:wrO prog 5 w1 w0.heap.size i (.int .u8 0)=some (put w1 w0.heap.size (.cells (bl (cutK width d (i+1))) 75 (0,0))):=q
   simp -implicitDefEqProofs only[go_sem,jY,d1,d2,y,and_self,iTn,jU,q,c1];exact⟨32 - (i+1),by omega,i+1,rfl,by omega,rfl,qQd k0,qQi k1 (by omega),g1.put (b:=w0.heap.size) _ fun h=>absurd h (jF _)⟩
 ·have d1:=dFo ((i:Int)<32)
  have e:i=32:=by omega
  subst e;rw[cutK_all]at k0;have r:=rd_d agg75 sz75 k0 (qXv width d);have q:=wr_d sz75 k1 zl32 (qXv width d);have r2:=rd_d agg75 sz75 (qQd (o:=.cells (bl (cutD width d)) 75 (0,0)) k1) (qXv width d);generalize cutD width d=d' at *;simp -implicitDefEqProofs only[go_sem,jY,d1,r,q,r2];exact g1.put (b:=w0.heap.size+1) _ fun h=>by omega
theorem within (w0:World)(n lo hi:Int)(h:lo≤hi):Fn prog 168 #[.int .i64 n,.int .i64 lo,.int .i64 hi] w0 fun v w'=>v=.int .i64 (max lo (min n hi))∧w'=w0:=by
 refine go168 (by simp) ?_
 by_cases h1:n<lo
 ·have d1:decide (n<lo)=true:=by simpa using h1
  simp -implicitDefEqProofs only[go_sem,jY,Tryz.f168,d1];exact⟨by rw[show max lo (min n hi)=lo by omega],trivial⟩
 ·have d1:decide (n<lo)=false:=by simpa using h1
  by_cases h2:n > hi
  ·have d2:decide (n > hi)=true:=by simpa using h2
   simp -implicitDefEqProofs only[go_sem,jY,Tryz.f168,d1,d2];exact⟨by rw[show max lo (min n hi)=hi by omega],trivial⟩
  ·have d2:decide (n > hi)=false:=by simpa using h2
   simp -implicitDefEqProofs only[go_sem,jY,Tryz.f168,d1,d2];exact⟨by rw[show max lo (min n hi)=n by omega],trivial⟩
theorem rcut (w0:World)(ht:Tabs w0)(width:Int){tv:Value}{t:Bs}(hv:By w0 tv t)(hl:t.length≤1099511627776) :
  Fn prog 95 #[tv,.int .i64 width] w0 fun v w'=>v=dg (hcut width t)∧No w0 w':=by
 refine go95 (by simp) ?_;have f1:No w0 (w0.alloc (.cells (bl (zV 32 0)) 75)):=(Fr.refl _ _).alloc _;have k1:(w0.alloc (.cells (bl (zV 32 0)) 75)).heap[w0.heap.size]?=some (.cells (bl (zV 32 0)) 75 (0,0)):=qQb _ _;simp -implicitDefEqProofs only[go_sem,jY,Tryz.f95,jH,qQk];generalize w0.alloc (.cells (bl (zV 32 0)) 75)=W at *;refine qQa pl132 ((sum_ref W (ht.no f1) (hv.fr0 f1) hl).mono ?_);rintro _ w2 ⟨rfl,f2⟩;have q:=wr_d sz75 (qQb w2 (.cells (bl (zV 32 0)) 75)) zl32 (sum_len t);have hr:=rd_d agg75 sz75 (qQd (o:=.cells (bl (Sha.sum t)) 75 (0,0)) (qQb w2 (.cells (bl (zV 32 0)) 75))) (sum_len t);have hk2:=f2.at k1 id;have k3:(put (w2.alloc (.cells (bl (zV 32 0)) 75)) w2.heap.size (.cells (bl (Sha.sum t)) 75 (0,0))).heap[w0.heap.size]?=some (.cells (bl (zV 32 0)) 75 (0,0)):=qQi (qQq hk2) (by have:=qQh hk2;omega);have f3:No w0 (put (w2.alloc (.cells (bl (zV 32 0)) 75)) w2.heap.size (.cells (bl (Sha.sum t)) 75 (0,0))):=((f1.trans f2).alloc _).put (b:=w2.heap.size) _ fun h=>by have:=f1.size;have:=f2.size;omega
 have hsl:=sum_len t;have hcl:(hcut width t).length=32:=hcut_len _ _;have he:cutD width (Sha.sum t)=hcut width t:=rfl;generalize Sha.sum t=s at *;simp -implicitDefEqProofs only[go_sem,jY,jH,qQk,q,hr];generalize put (w2.alloc (.cells (bl (zV 32 0)) 75)) w2.heap.size (.cells (bl s) 75 (0,0))=w3 at *;refine qQa pl133 ((dcut w3 width hsl).mono ?_);rintro _ w4 ⟨rfl,f4⟩;rw[he];have k4:=f4.at k3 id;have q2:=wr_d sz75 k4 zl32 hcl;have r2:=rd_d agg75 sz75 (qQd (o:=.cells (bl (hcut width t)) 75 (0,0)) k4) hcl;generalize hcut width t=d' at *;simp -implicitDefEqProofs only[go_sem,jY,q2,r2];exact (f3.trans f4).put (b:=w0.heap.size) _ fun h=>absurd h (jF _)
def ltI (w0:World)(k:Bs)(vv:Value)(n:Nat)(vs:List Value)(w:World):Prop :=
 ∃ i v,vs=[vv,pt w0.heap.size 0,v,.int .i64 (i:Nat)]∧i≤32∧n=32 - i∧NwB w0 w v (0::k.take i)∧w.heap[w0.heap.size]?=some (.cells (bl k) 76 (0,0))∧(∀ b,qQg v=some b→b≠w0.heap.size)∧No w0 w
def ltJ (w0:World)(k val:Bs)(vv:Value)(n:Nat)(vs:List Value)(w:World):Prop :=
 ∃ i v,vs=[vv,v,.int .i64 (i:Nat)]∧i≤val.length∧n=val.length - i∧NwB w0 w v (0::k++val.take i)∧No w0 w
theorem qXw {i:Nat}(h:i<l.length):l.take i++[l.getD i 0]=l.take (i+1):=qKa (by rw[zQ h,qQw 0 h])
theorem NwB.grow {bs:Bs}(hv:NwB w0 w v bs)(x:Byte)(hl:bs.length≤70000000000000)(f:No w0 w) :
  ∃ v' w',(Builtin.append_ #[22,22] 0 #[v,.slice (some ⟨w.heap.size,0,none⟩) 1 1]).run prog (w.alloc (.cells (bl [x]) 5))=.ok v' w'∧NwB w0 w' v' (bs++[x])∧No w0 w'∧Fr (fun b=>qQg v=some b) w w' ∧
   ∀ b,qQg v'=some b→qQg v=some b∨w.heap.size≤b:=by
 obtain⟨v',w',hr,h1,h2,h3,h4⟩:=app_fresh app22_22 hv (m:=1) (xs:=bl [x]) (by simp) rfl (by omega) (bd47 (by omega)) (by omega) f;refine⟨v',w',hr,?_,h2,h3,h4⟩;unfold NwB;rw[lAp,List.map_append];exact h1
theorem leafText (w0:World)(hk:k.length=32)(hv:By w0 vv val)(hl:val.length≤549755813888) :
  Fn prog 172 #[dg k,vv] w0 fun v w'=>NwB w0 w' v (leafT k val)∧No w0 w':=by
 refine go172 (by simp) ?_;have f1:No w0 (w0.alloc (.cells (bl k) 76)):=(Fr.refl _ _).alloc _;have k1:(w0.alloc (.cells (bl k) 76)).heap[w0.heap.size]?=some (.cells (bl k) 76 (0,0)):=qQb _ _;have z1:(w0.alloc (.cells (bl k) 76)).heap.size=w0.heap.size+1:=qQc _ _;simp -implicitDefEqProofs only[go_sem,Tryz.f172,jH];generalize w0.alloc (.cells (bl k) 76)=W at *;refine qQp (v:=.slice (some ⟨W.heap.size,0,none⟩) 1 1) (w':=W.alloc (.cells (bl [0]) 5)) (by rw[← z1];rfl) ?_;simp -implicitDefEqProofs only[go_sem];have b1:NwB w0 (W.alloc (.cells (bl [0]) 5)) (.slice (some ⟨W.heap.size,0,none⟩) 1 1) (0::k.take 0):=mk_nw w0 W 5 1 1 1 (bl [0]) f1.size rfl (xT _);refine loopD [1,2,5,6] (ltI w0 k vv) 32 ⟨0,.slice (some ⟨W.heap.size,0,none⟩) 1 1,rfl,by omega,rfl,b1,qQq k1,fun b hb=>by simp only[qQg,oSi]at hb;omega,f1.alloc _⟩ ?_;rintro _ vs w2 g ⟨i,v,rfl,hi,rfl,b2,k2,n2,f2⟩
 by_cases hlt:i<32
 ·have d1:=dTo ((i:Int)<32)
  have c1:=iSu (i:=i);have y:=iBd (i:=i) (n:=32);have r:rdO prog 5 w2 w0.heap.size i=some (u8 (k.getD i 0)):=rd1 agg5 k2 (bl_at (by omega));have hsn:=qXw (l:=k) (i:=i) (by omega);obtain⟨v3,w3,hr3,b3,f3,g3,h3⟩:=NwB.grow b2 (k.getD i 0) (by simp;omega) f2;rw[List.cons_append,hsn]at b3;generalize k.getD i 0=x at *;simp -implicitDefEqProofs only[go_sem,jY,d1,y,and_self,iTn,jU,r];refine qQp (v:=.slice (some ⟨w2.heap.size,0,none⟩) 1 1) (w':=w2.alloc (.cells (bl [x]) 5)) rfl ?_;simp -implicitDefEqProofs only[go_sem,jY];refine qQj ⟨v3,w3,hr3,?_⟩;simp -implicitDefEqProofs only[go_sem,jY,c1];refine⟨32 - (i+1),by omega,i+1,v3,rfl,by omega,rfl,b3,g3.at k2 fun h=>n2 _ h rfl,fun b hb=>?_,f3⟩
  rcases h3 b hb with h | h
  ·exact n2 b h
  ·have:=qQh k2;omega
 ·have d1:=dFo ((i:Int)<32)
  have e:i=32:=by omega
  subst e;rw[zT (by omega)]at b2;simp -implicitDefEqProofs only[go_sem,jY,d1];refine loopD [1,5,7] (ltJ w0 k val vv) val.length ⟨0,v,rfl,by omega,rfl,by rw[jP,j6];exact b2,f2⟩ ?_;rintro _ vs w3 g3 ⟨i,v3,rfl,hi,rfl,b3,f3⟩;obtain⟨va,vc,rfl,hcap,hat⟩:=hv.at
  by_cases hlt:i<val.length
  ·have d1:=dTo ((i:Int)<((val.length:Nat):Int))
   have c1:=iSu (i:=i);have y:=iBd (i:=i) (n:=val.length);obtain⟨b,o,rfl,hb⟩:=hat i hlt;have r:rdO prog 5 w3 b (o+i)=some (u8 (val.getD i 0)):=rd_rc agg5 (by rw[f3.rc (rc_lt hb) id,hb,qQw 0 hlt]);have hsn:=qXw (l:=val) (i:=i) hlt;obtain⟨v4,w4,hr4,b4,f4,g4,_⟩:=NwB.grow b3 (val.getD i 0) (by simp;omega) f3;rw[zO,hsn]at b4;generalize val.getD i 0=x at *;simp -implicitDefEqProofs only[go_sem,jY,y,and_self,iTn,jU,r];refine qQp (v:=.slice (some ⟨w3.heap.size,0,none⟩) 1 1) (w':=w3.alloc (.cells (bl [x]) 5)) rfl ?_;simp -implicitDefEqProofs only[go_sem,jY];refine qQj ⟨v4,w4,hr4,?_⟩;simp -implicitDefEqProofs only[go_sem,jY,c1];exact⟨val.length - (i+1),by omega,i+1,v4,rfl,by omega,rfl,b4,f4⟩
  ·have d1:=dFo ((i:Int)<((val.length:Nat):Int))
   have e:i=val.length:=by omega
   subst e;rw[List.take_length]at b3;simp -implicitDefEqProofs only[go_sem,jY,d1];exact⟨b3,f3⟩
def btI (w0:World)(ww:Nat)(d l r:Bs)(pre:Bs)(b1:Nat)(n:Nat)(vs:List Value)(w:World)(keep:Bool):Prop :=
 ∃ i v,vs=(if keep then [pt w0.heap.size 0,pt (w0.heap.size+1) 0,.int .i64 (ww:Nat),v,.int .i64 (i:Nat)] else [pt (w0.heap.size+1) 0,.int .i64 (ww:Nat),v,.int .i64 (i:Nat)])∧i≤ww∧n=ww - i∧NwB w0 w v (pre++d.take i) ∧
  w.heap[w0.heap.size]?=some (.cells (bl l) 75 (0,0))∧w.heap[w0.heap.size+1]?=some (.cells (bl r) 75 (0,0))∧(∀ b,qQg v=some b→w0.heap.size+1<b)∧No w0 w
theorem branchText (w0:World)(width:Int)(hl:l.length=32)(hr:r.length=32) :
  Fn prog 134 #[.int .i64 width,dg l,dg r] w0 fun v w'=>NwB w0 w' v (qVd width l r)∧No w0 w':=by
 refine go134 (by simp) ?_;have f1:No w0 ((w0.alloc (.cells (bl l) 75)).alloc (.cells (bl r) 75)):=((Fr.refl _ _).alloc _).alloc _;have k1:((w0.alloc (.cells (bl l) 75)).alloc (.cells (bl r) 75)).heap[w0.heap.size]?=some (.cells (bl l) 75 (0,0)):=qQq (qQb _ _)
 have j1:((w0.alloc (.cells (bl l) 75)).alloc (.cells (bl r) 75)).heap[w0.heap.size+1]?=some (.cells (bl r) 75 (0,0)):=by
  have:=qQb (w0.alloc (.cells (bl l) 75)) (.cells (bl r) 75);rw[qQc]at this;exact this
 simp -implicitDefEqProofs only[go_sem,jY,Tryz.f134,jH];generalize (w0.alloc (.cells (bl l) 75)).alloc (.cells (bl r) 75)=W at *;refine qQa pl168 ((within W width 0 32 (by decide)).mono ?_);rintro _ _ ⟨rfl,rfl⟩;have hw:=wid_le width;rw[widI];rename_i W';simp -implicitDefEqProofs only[go_sem];refine qQp (v:=.slice (some ⟨W'.heap.size,0,none⟩) 1 1) (w':=W'.alloc (.cells (bl [1]) 5)) rfl ?_;simp -implicitDefEqProofs only[go_sem];have b1:NwB w0 (W'.alloc (.cells (bl [1]) 5)) (.slice (some ⟨W'.heap.size,0,none⟩) 1 1) [1]:=mk_nw w0 W' 5 1 1 1 (bl [1]) f1.size rfl (xT _);have hsz:=qQh j1;unfold qVd;generalize wid width=ww at *;refine loopD [4,5,7,8,9] (fun n vs w=>btI w0 ww l l r [1] 0 n vs w true) ww ⟨0,.slice (some ⟨W'.heap.size,0,none⟩) 1 1,rfl,by omega,rfl,by rw[jP,j6];exact b1,qQq k1,qQq j1,fun b hb=>by simp only[qQg,oSi]at hb;omega,f1.alloc _⟩ ?_;rintro _ vs w2 g ⟨i,v,rfl,hi,rfl,b2,k2,j2,n2,f2⟩
 by_cases hlt:i<ww
 ·have d1:=dTo ((i:Int)<((ww:Nat):Int))
  have c1:=iSu (i:=i);have y:=iBd (i:=i) (n:=32);have r':rdO prog 5 w2 w0.heap.size i=some (u8 (l.getD i 0)):=rd1 agg5 k2 (bl_at (by omega));have hsn:=qXw (l:=l) (i:=i) (by omega);obtain⟨v3,w3,hr3,b3,f3,g3,h3⟩:=NwB.grow b2 (l.getD i 0) (by simp;omega) f2;rw[zO,hsn]at b3;generalize l.getD i 0=x at *;simp -implicitDefEqProofs only[go_sem,jY,d1,y,and_self,iTn,jU,r'];refine qQp (v:=.slice (some ⟨w2.heap.size,0,none⟩) 1 1) (w':=w2.alloc (.cells (bl [x]) 5)) rfl ?_;simp -implicitDefEqProofs only[go_sem,jY];refine qQj ⟨v3,w3,hr3,?_⟩;simp -implicitDefEqProofs only[go_sem,jY,c1];refine⟨ww - (i+1),by omega,i+1,v3,rfl,by omega,rfl,b3,g3.at k2 fun h=>by have:=n2 _ h;omega,g3.at j2 fun h=>by have:=n2 _ h;omega,fun b hb=>?_,f3⟩
  rcases h3 b hb with h | h
  ·exact n2 b h
  ·have:=qQh j2;omega
 ·have d1:=dFo ((i:Int)<((ww:Nat):Int))
  have e:i=ww:=by omega
  subst e;simp -implicitDefEqProofs only[go_sem,jY,d1];refine loopD [5,7,8,10] (fun n vs w=>btI w0 i r l r ([1]++l.take i) 0 n vs w false) i ⟨0,v,rfl,by omega,rfl,by rw[jP,j6];exact b2,k2,j2,n2,f2⟩ ?_;rintro _ vs w3 g3 ⟨j,v3,rfl,hj,rfl,b3,k3,j3,n3,f3⟩
  by_cases hlt:j<i
  ·have d1:=dTo ((j:Int)<((i:Nat):Int))
   have c1:=iSu (i:=j);have y:=iBd (i:=j) (n:=32);have r':rdO prog 5 w3 (w0.heap.size+1) j=some (u8 (r.getD j 0)):=rd1 agg5 j3 (bl_at (by omega));have hsn:=qXw (l:=r) (i:=j) (by omega);obtain⟨v4,w4,hr4,b4,f4,g4,h4⟩:=NwB.grow b3 (r.getD j 0) (by simp;omega) f3;rw[zO,hsn]at b4;generalize r.getD j 0=x at *;simp -implicitDefEqProofs only[go_sem,jY,d1,y,and_self,iTn,jU,r'];refine qQp (v:=.slice (some ⟨w3.heap.size,0,none⟩) 1 1) (w':=w3.alloc (.cells (bl [x]) 5)) rfl ?_;simp -implicitDefEqProofs only[go_sem,jY];refine qQj ⟨v4,w4,hr4,?_⟩;simp -implicitDefEqProofs only[go_sem,jY,c1];refine⟨i - (j+1),by omega,j+1,v4,rfl,by omega,rfl,b4,g4.at k3 fun h=>by have:=n3 _ h;omega,g4.at j3 fun h=>by have:=n3 _ h;omega,fun b hb=>?_,f4⟩
   rcases h4 b hb with h | h
   ·exact n3 b h
   ·have:=qQh j3;omega
  ·have d1:=dFo ((j:Int)<((i:Nat):Int))
   have e:j=i:=by omega
   subst e;simp -implicitDefEqProofs only[go_sem,jY,d1];exact⟨by simpa using b3,f3⟩
theorem leaf (w0:World)(ht:Tabs w0)(width:Int)(hk:k.length=32)(hv:By w0 vv val)(hl:val.length≤549755813888) :
  Fn prog 144 #[.int .i64 width,dg k,vv] w0 fun v w'=>v=dg (leafD width k val)∧No w0 w':=by
 refine go144 (by simp) ?_;have f1:No w0 ((w0.alloc (.cells (bl k) 76)).alloc (.cells (bl (zV 32 0)) 75)):=((Fr.refl _ _).alloc _).alloc _;have k1:((w0.alloc (.cells (bl k) 76)).alloc (.cells (bl (zV 32 0)) 75)).heap[w0.heap.size]?=some (.cells (bl k) 76 (0,0)):=qQq (qQb _ _)
 have j1:((w0.alloc (.cells (bl k) 76)).alloc (.cells (bl (zV 32 0)) 75)).heap[w0.heap.size+1]?=some (.cells (bl (zV 32 0)) 75 (0,0)):=by
  have:=qQb (w0.alloc (.cells (bl k) 76)) (.cells (bl (zV 32 0)) 75);rw[qQc]at this;exact this
 simp -implicitDefEqProofs only[go_sem,jY,Tryz.f144,jH,qQk];generalize (w0.alloc (.cells (bl k) 76)).alloc (.cells (bl (zV 32 0)) 75)=W at *;have r1:=rd_d agg76 sz76 k1 hk;simp -implicitDefEqProofs only[go_sem,jY,r1];refine qQa pl172 ((leafText W hk (hv.fr0 f1) hl).mono ?_);rintro tv w2 ⟨b2,f2⟩;simp -implicitDefEqProofs only[go_sem,jY];refine qQa pl95 ((rcut w2 ((ht.no f1).no f2) width b2.by (by rw[leafT_len];omega)).mono ?_);rintro _ w3 ⟨rfl,f3⟩;have j4:=f3.at (f2.at j1 id) id;have e:hcut width (leafT k val)=leafD width k val:=rfl;rw[e];have q:=wr_d sz75 j4 zl32 (qZd width k val);have r:=rd_d agg75 sz75 (qQd (o:=.cells (bl (leafD width k val)) 75 (0,0)) j4) (qZd width k val);generalize leafD width k val=d at q r;simp -implicitDefEqProofs only[go_sem,jY,q,r];exact ((f1.trans f2).trans f3).put (b:=w0.heap.size+1) _ fun h=>by omega
theorem branch (w0:World)(ht:Tabs w0)(width:Int)(hl:l.length=32)(hr:r.length=32) :
  Fn prog 96 #[.int .i64 width,dg l,dg r] w0 fun v w'=>v=dg (qXk width l r)∧No w0 w':=by
 refine go96 (by simp) ?_;have f1:No w0 (((w0.alloc (.cells (bl l) 75)).alloc (.cells (bl r) 75)).alloc (.cells (bl (zV 32 0)) 75)):=(((Fr.refl _ _).alloc _).alloc _).alloc _;have k1:(((w0.alloc (.cells (bl l) 75)).alloc (.cells (bl r) 75)).alloc (.cells (bl (zV 32 0)) 75)).heap[w0.heap.size]?=some (.cells (bl l) 75 (0,0)):=qQq (qQq (qQb _ _))
 have j1:(((w0.alloc (.cells (bl l) 75)).alloc (.cells (bl r) 75)).alloc (.cells (bl (zV 32 0)) 75)).heap[w0.heap.size+1]?=some (.cells (bl r) 75 (0,0)):=by
  have:=qQb (w0.alloc (.cells (bl l) 75)) (.cells (bl r) 75);rw[qQc]at this;exact qQq this
 have i1:(((w0.alloc (.cells (bl l) 75)).alloc (.cells (bl r) 75)).alloc (.cells (bl (zV 32 0)) 75)).heap[w0.heap.size+1+1]?=some (.cells (bl (zV 32 0)) 75 (0,0)):=by
  have:=qQb ((w0.alloc (.cells (bl l) 75)).alloc (.cells (bl r) 75)) (.cells (bl (zV 32 0)) 75);rw[qQc,qQc]at this;exact this
 simp -implicitDefEqProofs only[go_sem,jY,Tryz.f96,jH,qQk];generalize ((w0.alloc (.cells (bl l) 75)).alloc (.cells (bl r) 75)).alloc (.cells (bl (zV 32 0)) 75)=W at *;have r1:=rd_d agg75 sz75 k1 hl;have r2:=rd_d agg75 sz75 j1 hr;simp -implicitDefEqProofs only[go_sem,jY,r1,r2];refine qQa pl134 ((branchText W width hl hr).mono ?_);rintro tv w2 ⟨b2,f2⟩;simp -implicitDefEqProofs only[go_sem,jY];refine qQa pl95 ((rcut w2 ((ht.no f1).no f2) width b2.by (by have:=branchT_len width l r;omega)).mono ?_);rintro _ w3 ⟨rfl,f3⟩;have i4:=f3.at (f2.at i1 id) id;have e:hcut width (qVd width l r)=qXk width l r:=rfl;rw[e];have q:=wr_d sz75 i4 zl32 (qXj width l r);have rr:=rd_d agg75 sz75 (qQd (o:=.cells (bl (qXk width l r)) 75 (0,0)) i4) (qXj width l r);generalize qXk width l r=d at q rr;simp -implicitDefEqProofs only[go_sem,jY,q,rr];exact ((f1.trans f2).trans f3).put (b:=w0.heap.size+1+1) _ fun h=>by omega
end R
theorem fill_one {z:List Value}(hz:z.length=32){c:Array Value}(hc:c.size=32){d:List Byte}(hd:d.length=32){y:List Value}(hy:y=z)(g:Array Value→Value × World) :
  (Sum.inl (if 1*32≤2 ^ 24∧0<32∧c.size=32 then Option.map g (Instr.fill (fun i=>some (i*32,32)) (zrow y 1) [(0,dg d)]) else none):Out)=.inl (some (g (bl d))):=by
 subst hy;rw[fill_dg hz hd,if_pos ⟨by decide,by decide,hc⟩];rfl
theorem NwD.one {e:Nat}{d:List Byte}(hd:d.length=32)(f:w0.heap.size≤w.heap.size):NwD w0 (w.alloc (.cells (bl d) e)) e (.slice (some ⟨w.heap.size,0,none⟩) 1 1) [d]:=by
 have:=mk_nw w0 w e 32 1 1 (bl d) f (by rw[qXa,hd]) (xT _);refine⟨All32.one hd,?_⟩;rw[flat_one];have e1:(bl d).toList.take (1*32)=d.map u8:=by rw[zT (by simp[hd])]
 rw[← e1];exact this
theorem NwD.put {e b:Nat}{ds:List (List Byte)}(h:NwD w0 w e v ds)(o:Obj)(hb:∀ c,qQg v=some c→c≠b)(ho:fzO o=false:=by rfl):NwD w0 (V.put w b o) e v ds :=
 h.fr ((Fr.refl (fun c=>c=b) w).put o (fun _=>rfl) ho) fun c hc hcb=>hb c hc hcb
namespace R
def epI (w0:World)(width:Int)(b3:Nat)(n:Nat)(vs:List Value)(w:World):Prop :=
 ∃ i v,vs=[.int .i64 width,pt b3 0,v,.int .i64 (i:Nat)]∧i≤256∧n=256 - i∧NwD w0 w 75 v (empts width (i+1))∧w.heap[b3]?=some (.cells (bl (emptD width i)) 75 (0,0))∧w0.heap.size≤b3∧(∀ b,qQg v=some b→b≠b3)∧No w0 w
theorem empts_succ (width:Int)(n:Nat):empts width (n+1)=empts width n++[emptD width n]:=by simp[empts,List.range_succ]
theorem empties (w0:World)(ht:Tabs w0)(width:Int):Fn prog 55 #[.int .i64 width] w0 fun v w'=>NwD w0 w' 75 v (empts width 257)∧No w0 w':=by
 refine go55 (by simp) ?_;simp -implicitDefEqProofs only[go_sem,Tryz.f55];refine qQp (v:=.slice (some ⟨w0.heap.size,0,none⟩) 1 1) (w':=w0.alloc (.cells (bl [2]) 5)) rfl ?_;simp -implicitDefEqProofs only[go_sem,jY];have f1:No w0 (w0.alloc (.cells (bl [2]) 5)):=(Fr.refl _ _).alloc _;have b1:NwB w0 (w0.alloc (.cells (bl [2]) 5)) (.slice (some ⟨w0.heap.size,0,none⟩) 1 1) [2]:=mk_nw w0 w0 5 1 1 1 (bl [2]) (xT _) rfl (xT _);refine qQa pl95 ((rcut _ (ht.no f1) width b1.by (by simp)).mono ?_);rintro _ w2 ⟨rfl,f2⟩;have he:hcut width [2]=emptD width 0:=rfl;rw[he];have q:=wr_d sz75 (qQb w2 (.cells (bl (zV 32 0)) 75)) zl32 (qQu width 0);have k3:=qQd (o:=.cells (bl (emptD width 0)) 75 (0,0)) (qQb w2 (.cells (bl (zV 32 0)) 75));have f3:No w0 (put (w2.alloc (.cells (bl (zV 32 0)) 75)) w2.heap.size (.cells (bl (emptD width 0)) 75 (0,0))):=((f1.trans f2).alloc _).put (b:=w2.heap.size) _ fun h=>by have:=f1.size;have:=f2.size;omega
 have z3:w0.heap.size≤w2.heap.size:=(f1.trans f2).size;have hr:=rd_d agg75 sz75 k3 (qQu width 0);have hd0:=qQu width 0;simp -implicitDefEqProofs only[go_sem,jY,jH,qQk,q,hr];generalize hW3:put (w2.alloc (.cells (bl (zV 32 0)) 75)) w2.heap.size (.cells (bl (emptD width 0)) 75 (0,0))=w3 at *;have hsz:w3.heap.size=w2.heap.size+1:=by rw[← hW3];simp[put]
 have hy:List.map u8 (zV 32 0)=zV 32 (u8 0):=j7;refine qQp (v:=.slice (some ⟨w2.heap.size+1,0,none⟩) 1 1) (w':=w3.alloc (.cells (bl (emptD width 0)) 75)) (fill_one (z:=zV 32 (u8 0)) (y:=List.map u8 (zV 32 0)) (c:=bl (zV 32 0)) lRe (by rw[qXa,lRe]) hd0 hy _) ?_
 have b4:NwD w0 (w3.alloc (.cells (bl (emptD width 0)) 75)) 75 (.slice (some ⟨w2.heap.size+1,0,none⟩) 1 1) (empts width (0+1)):=by
  rw[← hsz];exact NwD.one hd0 f3.size
 have f4:=f3.alloc (.cells (bl (emptD width 0)) 75);have k4:=qQq (o:=.cells (bl (emptD width 0)) 75) k3;generalize w3.alloc (.cells (bl (emptD width 0)) 75)=w4 at *;simp -implicitDefEqProofs only[go_sem];refine loopD [0,3,4,5] (epI w0 width w2.heap.size) 256 ⟨0,.slice (some ⟨w2.heap.size+1,0,none⟩) 1 1,rfl,by omega,rfl,b4,k4,z3,fun b hb=>by simp only[qQg,oSi]at hb;omega,f4⟩ ?_;rintro _ vs w5 g ⟨i,v,rfl,hi,rfl,b5,k5,z5,n5,f5⟩
 by_cases hlt:i<256
 ·have d1:=dTo ((i:Int)<256)
  have c1:=iSu (i:=i);have hdi:=qQu width i;have r:=rd_d agg75 sz75 k5 hdi;simp -implicitDefEqProofs only[go_sem,jY,d1,r];refine qQa pl96 ((branch w5 (ht.no f5) width hdi hdi).mono ?_);rintro _ w6 ⟨rfl,f6⟩;have he:qXk width (emptD width i) (emptD width i)=emptD width (i+1):=rfl;rw[he];have k6:=f6.at k5 id;have hdj:=qQu width (i+1);have q:=wr_d sz75 k6 hdi hdj;have k7:=qQd (o:=.cells (bl (emptD width (i+1))) 75 (0,0)) k6;have r7:=rd_d agg75 sz75 k7 hdj;have f7:No w0 (put w6 w2.heap.size (.cells (bl (emptD width (i+1))) 75 (0,0))):=(f5.trans f6).put (b:=w2.heap.size) _ fun h=>by omega
  have b7:=(b5.fr0 f6).put (.cells (bl (emptD width (i+1))) 75 (0,0)) n5;simp -implicitDefEqProofs only[go_sem,jY,jH,qQk,q,r7];have hs7:(put w6 w2.heap.size (.cells (bl (emptD width (i+1))) 75 (0,0))).heap.size=w6.heap.size:=by simp[put]
  generalize put w6 w2.heap.size (.cells (bl (emptD width (i+1))) 75 (0,0))=w7 at *;rw[← hs7];refine qQp (v:=.slice (some ⟨w7.heap.size,0,none⟩) 1 1) (w':=w7.alloc (.cells (bl (emptD width (i+1))) 75)) (fill_one (z:=zV 32 (u8 0)) (y:=List.map u8 (zV 32 0)) (c:=bl (zV 32 0)) lRe (by rw[qXa,lRe]) hdj hy _) ?_;obtain⟨v8,w8,hr8,b8,f8,g8,h8⟩:=b7.push app71_71 hdj (by rw[qXm];omega) f7;rw[← empts_succ]at b8;simp -implicitDefEqProofs only[go_sem,jY];refine qQj ⟨v8,w8,hr8,?_⟩;simp -implicitDefEqProofs only[go_sem,jY,c1];refine⟨256 - (i+1),by omega,i+1,v8,rfl,by omega,rfl,b8,g8.at k7 fun h=>n5 _ h rfl,z3,fun b hb=>?_,f8⟩
  rcases h8 b hb with h | h
  ·exact n5 b h
  ·have:=qQh k7;omega
 ·have d1:=dFo ((i:Int)<256)
  have e:i=256:=by omega
  subst e;simp -implicitDefEqProofs only[go_sem,jY,d1];exact⟨b5,f5⟩
end R
end Go.V
