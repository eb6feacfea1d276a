/- Helpers. -/
import Derived.Test.YtppmpdjlmgfdkaaGreatDoorG21
import Derived.Test.YtppmpdjlmgfdkaaGreatDoorG16
import Derived.Test.YtppmpdjlmgfdkaaGreatDoorG19
set_option linter.all false
set_option maxRecDepth 100000
set_option maxHeartbeats 8000000
open List renaming replicate→zV,append_nil→j6,nil_append→zS,all_append→yN,take_of_length_le→zT
open Nat renaming reduceEqDiff→jY,zero_add→zB,reduceBEq→jG,lt_irrefl→jF,le_refl→xT
open Option renaming map→jE
open Go.Value renaming cells→jH,int→yL,agg→yC
namespace Go.V
open Go.Proofs.Tryz Go.V.Tryz
variable {k l ls rs:Bs} {p vv:Value}
section
open Go.Proofs
namespace A
open Aud
abbrev supC (s:Sup):Array Value:=#[.int .i64 (s.width:Nat),.int .i64 (s.gen:Nat),.int .i64 (s.mark:Nat),.int .i64 (s.head:Nat),.int .i64 (s.pages:Nat)]
abbrev sup0:Array Value:=#[.int .i64 0,.int .i64 0,.int .i64 0,.int .i64 0,.int .i64 0]
theorem qKu (s:Sup):(supC s).all one=true:=by rw[← Array.all_toList];rfl
theorem valid (w:World)(s:Sup):Fn prog 124 #[.agg (supC s)] w fun v w'=>v=.bool (decide s.ok)∧No w w':=by
 refine go124 (by simp) ?_;obtain⟨W,hW,f1,k1,s1⟩:=qQl w (supC s) 67;have r0:rdO prog 3 W w.heap.size 0=some (.int .i64 (s.width:Nat)):=rd1 agg3 k1 rfl;have r1:rdO prog 3 W w.heap.size 1=some (.int .i64 (s.gen:Nat)):=rd1 agg3 k1 rfl;have r2:rdO prog 3 W w.heap.size 2=some (.int .i64 (s.mark:Nat)):=rd1 agg3 k1 rfl;have r3:rdO prog 3 W w.heap.size 3=some (.int .i64 (s.head:Nat)):=rd1 agg3 k1 rfl;have r4:rdO prog 3 W w.heap.size 4=some (.int .i64 (s.pages:Nat)):=rd1 agg3 k1 rfl;have g0:=dTo ((s.gen:Int) ≥ 0)
 by_cases h1:1≤s.width
 case neg =>
  have d1:=dFo ((s.width:Int) ≥ 1);have e:decide s.ok=false:=decide_eq_false fun h=>h1 h.1.1;simp -implicitDefEqProofs only[go_sem,jY,gLa,gLz,gLs,qQt,zB,Tryz.f124,jH,hW,r0,r2,r3,d1,e];exact f1
 have d1:=dTo ((s.width:Int) ≥ 1)
 by_cases h2:s.width≤32
 case neg =>
  have d2:=dFo ((s.width:Int)≤32);have e:decide s.ok=false:=decide_eq_false fun h=>h2 h.1.2;simp -implicitDefEqProofs only[go_sem,jY,gLa,gLz,gLs,bSe,qQt,zB,Tryz.f124,jH,hW,r0,r2,r3,d1,d2,e];exact f1
 have d2:=dTo ((s.width:Int)≤32)
 by_cases h3:s.gen≤1099511627776
 case neg =>
  have d3:=dFo ((s.gen:Int)≤1099511627776);have e:decide s.ok=false:=decide_eq_false fun h=>h3 h.2.1;simp -implicitDefEqProofs only[go_sem,jY,gLa,gLz,gLs,bSe,qQt,zB,Tryz.f124,jH,hW,r0,r1,r2,r3,g0,d1,d2,d3,e];exact f1
 have d3:=dTo ((s.gen:Int)≤1099511627776)
 by_cases h4:3≤s.pages
 case neg =>
  have d4:=dFo ((s.pages:Int) ≥ 3);have e:decide s.ok=false:=decide_eq_false fun h=>h4 h.2.2.1.1;simp -implicitDefEqProofs only[go_sem,jY,gLa,gLz,gLs,bSe,qQt,zB,Tryz.f124,jH,hW,r0,r1,r2,r3,r4,g0,d1,d2,d3,d4,e];exact f1
 have d4:=dTo ((s.pages:Int) ≥ 3)
 by_cases h5:s.pages≤4096
 case neg =>
  have d5:=dFo ((s.pages:Int)≤4096);have e:decide s.ok=false:=decide_eq_false fun h=>h5 h.2.2.1.2;simp -implicitDefEqProofs only[go_sem,jY,gLa,gLz,gLs,bSe,qQt,zB,Tryz.f124,jH,hW,r0,r1,r2,r3,r4,g0,d1,d2,d3,d4,d5,e];exact f1
 have d5:=dTo ((s.pages:Int)≤4096)
 by_cases h6:2≤s.mark
 case neg =>
  have d6:=dFo ((s.mark:Int) ≥ 2);have e:decide s.ok=false:=decide_eq_false fun h=>h6 h.2.2.2.1.1;simp -implicitDefEqProofs only[go_sem,jY,gLa,gLz,gLs,bSe,qQt,zB,Tryz.f124,jH,hW,r0,r1,r2,r3,r4,g0,d1,d2,d3,d4,d5,d6,e];exact f1
 have d6:=dTo ((s.mark:Int) ≥ 2)
 by_cases h7:s.mark≤s.pages
 case neg =>
  have d7:=dFo ((s.mark:Int)≤(s.pages:Int));have e:decide s.ok=false:=decide_eq_false fun h=>h7 h.2.2.2.1.2;simp -implicitDefEqProofs only[go_sem,jY,gLa,gLz,gLs,bSe,qQt,zB,Tryz.f124,jH,hW,r0,r1,r2,r3,r4,g0,d1,d2,d3,d4,d5,d6,d7,e];exact f1
 have d7:=dTo ((s.mark:Int)≤(s.pages:Int))
 by_cases h8:s.head=0
 case pos =>
  have d8:((s.head:Int) == 0)=true:=by rw[h8];rfl
  have e:decide s.ok=true:=decide_eq_true ⟨⟨h1,h2⟩,h3,⟨h4,h5⟩,⟨h6,h7⟩,.inl h8⟩;simp -implicitDefEqProofs only[go_sem,jY,gLa,gLz,gLs,bSe,qXq,zB,Tryz.f124,jH,hW,r0,r1,r2,r3,r4,g0,d1,d2,d3,d4,d5,d6,d7,d8,e];exact f1
 have d8:((s.head:Int) == 0)=false:=by rw[bFn];omega
 by_cases h9:2≤s.head
 case neg =>
  have d9:=dFo ((s.head:Int) ≥ 2);have e:decide s.ok=false:=decide_eq_false fun h=>h.2.2.2.2.elim h8 fun h=>h9 h.1;simp -implicitDefEqProofs only[go_sem,jY,gLa,gLz,gLs,bSe,qQt,zB,Tryz.f124,jH,hW,r0,r1,r2,r3,r4,g0,d1,d2,d3,d4,d5,d6,d7,d8,d9,e];exact f1
 have d9:=dTo ((s.head:Int) ≥ 2);have d10:decide ((s.head:Int)<(s.mark:Int))=decide (s.head<s.mark):=decide_eq_decide.2 ⟨fun h=>by omega,fun h=>by omega⟩;have e:decide s.ok=decide (s.head<s.mark):=decide_eq_decide.2 ⟨fun h=>h.2.2.2.2.elim (fun h=>absurd h h8) fun h=>h.2,fun h=>⟨⟨h1,h2⟩,h3,⟨h4,h5⟩,⟨h6,h7⟩,.inr ⟨h9,h⟩⟩⟩;simp -implicitDefEqProofs only[go_sem,jY,gLa,gLz,gLs,bSe,zB,Tryz.f124,jH,hW,r0,r1,r2,r3,r4,g0,d1,d2,d3,d4,d5,d6,d7,d8,d9,d10,e];exact f1
end A
end
section
open Go.Proofs
namespace A
open Aud
def lfV (k:Bs)(vv:Value):Value:=.iface 315 (.agg (lfC k vv).toArray)
def brV (lp lc:Nat)(ls:Bs)(rp rc:Nat)(rs:Bs):Value:=.iface 320 (.agg (cdC lp lc ls++cdC rp rc rs).toArray)
def RdN (w:World)(kind:Nat)(l:Bs)(v:Value):Prop :=
 if kind=1∧32≤l.length then ∃ vv,v=lfV (l.take 32) vv∧one vv=true∧By w vv (l.drop 32)
 else if kind=2∧l.length=80 then v=brV (nat4 l 0) (nat4 l 8) ((l.drop 16).take 32) (nat4 l 4) (nat4 l 12) ((l.drop 48).take 32)
 else v=.nilIface
theorem bldLf (vv:Value)(hv:one vv=true):bldO prog 315 [(1,vv)]=some (.agg (lfC z32 vv).toArray):=by
 rw[qJw zero315 places315 (c:=(lfC z32 (.slice none 0 0)).toArray) (by kernel_rfl)];have:=qZw (ps:=fun i=>[(0,32),(32,1)][i]?) (i:=1) (o:=32) (a:=z32.map u8) (r:=[]) (u:=.slice none 0 0) (v:=vv) (rest:=[]) rfl (by simp) hv;rw[qZf]at this;exact congrArg (jE yC) this
theorem bldCd (p c:Nat):bldO prog 318 [(0,.int .i64 (p:Nat)),(1,.int .i64 (c:Nat))]=some (.agg (cdC p c z32).toArray):=by
 rw[qJw zero318 places318 (c:=(cdC 0 0 z32).toArray) (by kernel_rfl)];rfl
theorem bldBr (p c p' c':Nat):bldO prog 320 [(0,.agg (cdC p c z32).toArray),(1,.agg (cdC p' c' z32).toArray)]=some (.agg (cdC p c z32++cdC p' c' z32).toArray):=by
 rw[qJw zero320 places320 (c:=(cdC 0 0 z32++cdC 0 0 z32).toArray) (by kernel_rfl)];have z:z32.length=32:=by simp
 have h1:=qJf (ps:=fun i=>[(0,34),(34,34)][i]?) (i:=0) (o:=0) (n:=34) (a:=[]) (m:=cdC 0 0 z32) (r:=cdC 0 0 z32) (vs:=cdC p c z32) (rest:=[(1,.agg (cdC p' c' z32).toArray)]) rfl rfl (qXn z _ _) (qXn z _ _);have h2:=qJf (ps:=fun i=>[(0,34),(34,34)][i]?) (i:=1) (o:=34) (n:=34) (a:=cdC p c z32) (m:=cdC 0 0 z32) (r:=[]) (vs:=cdC p' c' z32) (rest:=[]) rfl (qXn z _ _) (qXn z _ _) (qXn z _ _);rw[zS,zS]at h1;rw[j6,j6,qZf]at h2;exact congrArg (jE yC) (h1.trans h2)
theorem read (w0:World)(kind:Nat)(hp:By w0 p l)(hl:l.length≤2 ^ 40):Fn prog 237 #[.int .i64 (kind:Nat),p] w0 fun v w'=>No w0 w'∧RdN w' kind l v:=by
 obtain⟨a,cap,rfl,hcap⟩:=hp.slice;refine go237 (by simp) ?_;have n1:=nateq kind 1;have n2:=nateq kind 2;have n1':((kind:Int) == 1)=decide (kind=1):=n1;have n2':((kind:Int) == 2)=decide (kind=2):=n2;clear n1 n2
 by_cases hA:kind=1∧32≤l.length
 ·obtain⟨rfl,h32⟩:=hA
  obtain⟨b,o,cap',e,_⟩:=hp.pos (by omega);cases e;have d1:=dTo ((l.length:Int) ≥ 32);have i1:(((1:Nat):Int) == 1)=true:=rfl;have s1:qQs prog 22 (.slice (some ⟨b,o,none⟩) l.length cap) (some (.int .i64 32)) none none=some (cutV 1 (some ⟨b,o,none⟩) cap 32 l.length):=slc_lo slc22 arr22 sz5 (l:=32) (n:=l.length) h32 hcap;obtain⟨a',hcut⟩:=cutV_slice 1 (some ⟨b,o,none⟩) cap 32 l.length
  have hvv:By w0 (cutV 1 (some ⟨b,o,none⟩) cap 32 l.length) (l.drop 32):=by
   have:=By.slc hp (l:=32) (m:=l.length) h32 (xT _)
   rwa [zT (by rw[lDr];omega)]at this
  have ov:one (cutV 1 (some ⟨b,o,none⟩) cap 32 l.length)=true:=by rw[hcut];rfl
  generalize cutV 1 (some ⟨b,o,none⟩) cap 32 l.length=vv at *;obtain⟨W,hW,f1,k1,s2⟩:=qQl w0 (lfC z32 (.slice none 0 0)).toArray 315;have zz:bl (zV 32 0)++#[.slice none 0 0]=(lfC z32 (.slice none 0 0)).toArray:=by kernel_rfl
  have z:z32.length=32:=by simp
  have q1:wrO prog 315 W w0.heap.size 0 (.agg (lfC z32 vv).toArray)=some (put W w0.heap.size (.cells (lfC z32 vv).toArray 315 (0,0))):=qQr (by simp[lfC_len z];exact sz315) k1 (by simp[lfC_len z]) (by simpa using lfC_one z32 ov);have k2:=qQd (o:=.cells (lfC z32 vv).toArray 315 (0,0)) k1;have f2:=f1.put (b:=w0.heap.size) (.cells (lfC z32 vv).toArray 315 (0,0)) fun h=>absurd h (jF _);have b0:=bldLf vv ov;have ps:=pt_slice (P:=prog) (o:=0) arr76 sz5 (by omega) w0.heap.size;simp -implicitDefEqProofs only[go_sem,jY,gLa,gLz,gLs,jH,bSe,zB,qQk,Tryz.f237,i1,d1,s1,b0,zz,hW,q1,ps];generalize put W w0.heap.size (.cells (lfC z32 vv).toArray 315 (0,0))=w2 at *;have hc:=copy_mid (P:=prog) (ts:=#[22,22]) (t:=22) rfl slc22 sz5 (b:=w0.heap.size) (o:=0) (a:=[]) (r:=[vv]) (d:=z32) rfl (n:=32) (by simp) k2 (hp.fr0 f2) h32;refine qQj ⟨_,_,hc,?_⟩;rw[zS]at *;have k3:=qQd (o:=.cells ((l.take 32).map u8++[vv]).toArray 315 (0,0)) k2;have h3:(l.take 32).length=32:=by rw[lTk];omega
  have ld:=qQo (P:=prog) (t:=315) agg315 sz315 k3 (by simp;omega);have f3:=f2.put (b:=w0.heap.size) (.cells ((l.take 32).map u8++[vv]).toArray 315 (0,0)) fun h=>absurd h (jF _);simp -implicitDefEqProofs only[go_sem,jY,ld];refine⟨f3,?_⟩;unfold RdN;rw[if_pos ⟨rfl,h32⟩];exact⟨vv,rfl,ov,hvv.fr0 f3⟩
 by_cases hB:kind=2∧l.length=80
 case neg =>
  have fin:RdN w0 kind l .nilIface:=by unfold RdN;rw[if_neg hA,if_neg hB]
  by_cases h1:kind=1
  ·have d1:decide ((l.length:Int) ≥ 32)=false:=decide_eq_false fun h=>hA ⟨h1,by omega⟩
   have i1:((kind:Int) == 1)=true:=by rw[h1];rfl
   have i2:((kind:Int) == 2)=false:=by rw[h1];rfl
   simp -implicitDefEqProofs only[go_sem,jY,gLa,gLz,gLs,bSe,qQt,zB,Tryz.f237,i1,d1,i2];exact⟨Fr.refl _ _,fin⟩
  ·have i1:((kind:Int) == 1)=false:=by rw[n1',decide_eq_false h1]
   by_cases h2:kind=2
   ·have i2:((kind:Int) == 2)=true:=by rw[h2];rfl
    have d2:((l.length:Int) == 80)=false:=by rw[bFn];exact fun h=>hB ⟨h2,by omega⟩
    simp -implicitDefEqProofs only[go_sem,jY,gLa,gLz,gLs,bSe,qQt,zB,Tryz.f237,i1,i2,d2];exact⟨Fr.refl _ _,fin⟩
   ·have i2:((kind:Int) == 2)=false:=by rw[n2',decide_eq_false h2]
    simp -implicitDefEqProofs only[go_sem,jY,gLa,gLz,gLs,qQt,zB,Tryz.f237,i1,i2];exact⟨Fr.refl _ _,fin⟩
 obtain⟨rfl,h80⟩:=hB;obtain⟨b,o,cap',e,_⟩:=hp.pos (by omega);cases e;have i1:(((2:Nat):Int) == 1)=false:=rfl;have i2:(((2:Nat):Int) == 2)=true:=rfl;have d2:((l.length:Int) == 80)=true:=by rw[h80];rfl
 have sl:∀ {k:Nat},k≤80→qQs prog 22 (.slice (some ⟨b,o,none⟩) l.length cap) (some (.int .i64 (k:Nat))) none none=some (cutV 1 (some ⟨b,o,none⟩) cap k l.length):=fun {k} hk=>slc_lo slc22 arr22 sz5 (l:=k) (n:=l.length) (by omega) hcap
 have cut:∀ {k:Nat},k≤80→By w0 (cutV 1 (some ⟨b,o,none⟩) cap k l.length) (l.drop k):=fun {k} hk=>by
  have:=By.slc hp (l:=k) (m:=l.length) (by omega) (xT _)
  rwa [zT (by rw[lDr];omega)]at this
 have s4:=sl (k:=4) (by omega);have s8:=sl (k:=8) (by omega);have s12:=sl (k:=12) (by omega);have c4:=cut (k:=4) (by omega);have c8:=cut (k:=8) (by omega);have c12:=cut (k:=12) (by omega);have s4:qQs prog 22 (.slice (some ⟨b,o,none⟩) l.length cap) (some (.int .i64 4)) none none=_:=s4;have s8:qQs prog 22 (.slice (some ⟨b,o,none⟩) l.length cap) (some (.int .i64 8)) none none=_:=s8;have s12:qQs prog 22 (.slice (some ⟨b,o,none⟩) l.length cap) (some (.int .i64 12)) none none=_:=s12;have f4:∀ (w:World) {v:Value} {k:Nat},By w0 v (l.drop k)→k+4≤80→No w0 w→Fn prog 242 #[v] w fun v w'=>v=.int .i64 (nat4 l k)∧No w w':=fun w v k h hk f=>four w (h.fr0 f) (by rw[lDr];omega) (by rw[lDr];omega);have p0:By w0 (.slice (some ⟨b,o,none⟩) l.length cap) (l.drop 0):=hp;have zz:#[.int .i64 0,.int .i64 0]++bl (zV 32 0)++#[.int .i64 0,.int .i64 0]++bl (zV 32 0)=(cdC 0 0 z32++cdC 0 0 z32).toArray:=by kernel_rfl
 have z:z32.length=32:=by simp
 have l1:((l.drop 16).take 32).length=32:=by rw[lTk,lDr];omega
 have l2:((l.drop 48).take 32).length=32:=by rw[lTk,lDr];omega
 simp -implicitDefEqProofs only[go_sem,jY,gLa,gLz,gLs,bSe,qQt,zB,Tryz.f237,i1,i2,d2];refine qXc (Q:=fun e ev w=>e=.normal∧∃ tb,ev 1=.slice (some ⟨b,o,none⟩) l.length cap∧ev 6=pt tb 0∧w.heap[tb]?=some (.cells (cdC (nat4 l 0) (nat4 l 8) z32++cdC (nat4 l 4) (nat4 l 12) z32).toArray 320 (0,0))∧w0.heap.size≤tb∧No w0 w) _ (fun e ev w=>?_) ?_
 ·rintro⟨rfl,tb,e1,e6,kt,hlt,fw⟩
  have ps1:=pt_slice (P:=prog) (o:=2) arr75 sz5 (by omega) tb;have ps2:=pt_slice (P:=prog) (o:=36) arr75 sz5 (by omega) tb;have s16:qQs prog 22 (.slice (some ⟨b,o,none⟩) l.length cap) (some (.int .i64 16)) none none=_:=sl (k:=16) (by omega);have s48:qQs prog 22 (.slice (some ⟨b,o,none⟩) l.length cap) (some (.int .i64 48)) none none=_:=sl (k:=48) (by omega);have kd:w.drew.heap[tb]?=some (.cells ([yL .i64 (nat4 l 0:Nat),yL .i64 (nat4 l 8:Nat)]++z32.map u8++cdC (nat4 l 4) (nat4 l 12) z32).toArray 320 (0,0)):=kt;have f2:∀ c:Array Value,No w0 (put w.drew tb (.cells c 320 (0,0))):=fun c=>fw.drew.put (b:=tb) _ fun h=>by omega
  have hc1:=copy_mid (P:=prog) (ts:=#[22,22]) (t:=22) rfl slc22 sz5 (b:=tb) (o:=2) (a:=[yL .i64 (nat4 l 0:Nat),yL .i64 (nat4 l 8:Nat)]) (d:=z32) rfl (n:=32) (by simp) kd ((cut (k:=16) (by omega)).fr0 fw.drew) (by rw[lDr];omega);have k2:=qQd (o:=.cells ([yL .i64 (nat4 l 0:Nat),yL .i64 (nat4 l 8:Nat)]++((l.drop 16).take 32).map u8++cdC (nat4 l 4) (nat4 l 12) z32).toArray 320 (0,0)) kd;have g2:=f2 ([yL .i64 (nat4 l 0:Nat),yL .i64 (nat4 l 8:Nat)]++((l.drop 16).take 32).map u8++cdC (nat4 l 4) (nat4 l 12) z32).toArray;simp -implicitDefEqProofs only[go_sem,jY,jG,zB,e1,e6,ps1,s16];refine qQj ⟨_,_,hc1,?_⟩;generalize put w.drew tb (.cells ([yL .i64 (nat4 l 0:Nat),yL .i64 (nat4 l 8:Nat)]++((l.drop 16).take 32).map u8++cdC (nat4 l 4) (nat4 l 12) z32).toArray 320 (0,0))=w2 at *
  have k2d:w2.drew.heap[tb]?=some (.cells ((cdC (nat4 l 0) (nat4 l 8) ((l.drop 16).take 32)++[yL .i64 (nat4 l 4:Nat),yL .i64 (nat4 l 12:Nat)])++z32.map u8++[]).toArray 320 (0,0)):=by
   show w2.heap[tb]?=_;rw[k2];simp[cdC]
  have hc2:=copy_mid (P:=prog) (ts:=#[22,22]) (t:=22) rfl slc22 sz5 (b:=tb) (o:=36) (a:=cdC (nat4 l 0) (nat4 l 8) ((l.drop 16).take 32)++[yL .i64 (nat4 l 4:Nat),yL .i64 (nat4 l 12:Nat)]) (d:=z32) (by simp[cdC];omega) (n:=32) (by simp) k2d ((cut (k:=48) (by omega)).fr0 g2.drew) (by rw[lDr];omega);have e3:(cdC (nat4 l 0) (nat4 l 8) ((l.drop 16).take 32)++[yL .i64 (nat4 l 4:Nat),yL .i64 (nat4 l 12:Nat)])++((l.drop 48).take 32).map u8++[]=cdC (nat4 l 0) (nat4 l 8) ((l.drop 16).take 32)++cdC (nat4 l 4) (nat4 l 12) ((l.drop 48).take 32):=by simp[cdC]
  rw[e3]at hc2;have k3:=qQd (o:=.cells (cdC (nat4 l 0) (nat4 l 8) ((l.drop 16).take 32)++cdC (nat4 l 4) (nat4 l 12) ((l.drop 48).take 32)).toArray 320 (0,0)) k2d;have g3:=g2.drew.put (b:=tb) (.cells (cdC (nat4 l 0) (nat4 l 8) ((l.drop 16).take 32)++cdC (nat4 l 4) (nat4 l 12) ((l.drop 48).take 32)).toArray 320 (0,0)) fun h=>by omega
  simp -implicitDefEqProofs only[go_sem,jY,jG,Nat.reduceAdd,zB,e1,e6,ps2,s48];refine qQj ⟨_,_,hc2,?_⟩;have ld:=qQo (P:=prog) (t:=320) agg320 sz320 k3 (by simp[qXn l1,qXn l2]);simp -implicitDefEqProofs only[go_sem,jY,e6,ld];refine⟨g3,?_⟩;unfold RdN;rw[if_neg (by omega),if_pos ⟨rfl,h80⟩]
  rfl
 have allo:∀ w:World,No w0 w→∃ W,w.alloc (.cells (cdC 0 0 z32++cdC 0 0 z32).toArray 320)=W∧Ext w W∧No w0 W∧W.heap[w.heap.size]?=some (.cells (cdC 0 0 z32++cdC 0 0 z32).toArray 320 (0,0))∧w0.heap.size≤w.heap.size:=fun w f=>by
  obtain⟨W5,hW5,f5,k5,s5⟩:=qQl w (cdC 0 0 z32++cdC 0 0 z32).toArray 320;exact⟨W5,hW5,f5.ext,f.trans f5,k5,f.size⟩
 have fin:∀ (w:World) (tb:Nat), No w0 w→w.heap[tb]?=some (.cells (cdC 0 0 z32++cdC 0 0 z32).toArray 320 (0, 0))→w0.heap.size≤tb →
   wrO prog 320 w tb 0 (.agg (cdC (nat4 l 0) (nat4 l 8) z32++cdC (nat4 l 4) (nat4 l 12) z32).toArray)=some (put w tb (.cells (cdC (nat4 l 0) (nat4 l 8) z32++cdC (nat4 l 4) (nat4 l 12) z32).toArray 320 (0,0))) ∧
   (put w tb (.cells (cdC (nat4 l 0) (nat4 l 8) z32++cdC (nat4 l 4) (nat4 l 12) z32).toArray 320 (0,0))).heap[tb]?=some (.cells (cdC (nat4 l 0) (nat4 l 8) z32++cdC (nat4 l 4) (nat4 l 12) z32).toArray 320 (0,0))∧No w0 (put w tb (.cells (cdC (nat4 l 0) (nat4 l 8) z32++cdC (nat4 l 4) (nat4 l 12) z32).toArray 320 (0,0))):=fun w tb f k h =>
  ⟨qQr (by simp[qXn z];exact sz320) k (by simp[qXn z]) (by simp only[List.size_toArray,List.all_toArray',yN,cdC_one,Bool.and_self]),qQd (o:=.cells (cdC (nat4 l 0) (nat4 l 8) z32++cdC (nat4 l 4) (nat4 l 12) z32).toArray 320 (0,0)) k,f.put (b:=tb) _ fun h'=>by omega⟩
 have bc1:=bldCd (nat4 l 0) (nat4 l 8);have bc2:=bldCd (nat4 l 4) (nat4 l 12);have bb:=bldBr (nat4 l 0) (nat4 l 8) (nat4 l 4) (nat4 l 12);refine qXf (fun j=>j == 14) (.one 0 (.one 2 (.one 3 (.one 6 (.one 7 (.one 9 (.one 10 (.two 1 (.two 4 (.one 5 (.two 8 (.two 11 (.row [12,13,14,15]) 14 (.row [11,12,13,15])) 14 (.row [8,11,12,13,15]))) 14 (.row [4,5,8,11,12,13,15])) 14 (.row [1,4,5,8,11,12,13,15]))))))))) rfl (by kernel_rfl) (by kernel_rfl) ?_;have g0:No w0 w0.drew:=(Fr.refl _ _).drew;generalize w0.drew=w1 at *;obtain⟨V0,hV0,x0,y0,v0,u0⟩:=allo w1 g0;simp -implicitDefEqProofs only[go_sem,jY,jG,gLa,gLz,gLs,jH,bSe,qQk,OT.row,s4,s8,s12,zz,hV0,x0];refine⟨?_,?_⟩
 ·refine qQf pl242 ((f4 w1 (k:=0) p0 (by omega) g0).mono ?_);rintro _ W10 ⟨rfl,F10⟩;refine⟨fun h=>absurd h (by decide),?_⟩
  have G10:=(g0).trans F10;obtain⟨V10,hV10,x10,y10,v10,u10⟩:=allo W10 G10;simp -implicitDefEqProofs only[go_sem,jY,gLa,gLz,gLs,jH,bSe,qQk,zz,hV10,x10,implies_true];refine⟨?_,?_⟩
  ·refine qQf pl242 ((f4 W10 (k:=8) c8 (by omega) G10).mono ?_);rintro _ W11 ⟨rfl,F11⟩;refine⟨fun h=>absurd h (by decide),?_⟩
   have G11:=(G10).trans F11;obtain⟨V11,hV11,x11,y11,v11,u11⟩:=allo W11 G11;simp -implicitDefEqProofs only[go_sem,jY,jG,gLa,gLz,gLs,jH,bSe,qQk,bc1,zz,hV11,x11,implies_true];refine⟨?_,?_⟩
   ·refine qQf pl242 ((f4 W11 (k:=4) c4 (by omega) G11).mono ?_);rintro _ W12 ⟨rfl,F12⟩;refine⟨fun h=>absurd h (by decide),?_⟩
    have G12:=(G11).trans F12;obtain⟨V12,hV12,x12,y12,v12,u12⟩:=allo W12 G12;simp -implicitDefEqProofs only[go_sem,jY,gLa,gLz,gLs,jH,bSe,qQk,zz,hV12,x12,implies_true];refine⟨?_,?_⟩
    ·refine qQf pl242 ((f4 W12 (k:=12) c12 (by omega) G12).mono ?_);rintro _ W13 ⟨rfl,F13⟩;refine⟨fun h=>absurd h (by decide),?_⟩
     have G13:=(G12).trans F13;obtain⟨V13,hV13,x13,y13,v13,u13⟩:=allo W13 G13;obtain⟨q1,q2,q3⟩:=fin _ _ y13 v13 u13;simp -implicitDefEqProofs only[go_sem,jY,jG,gLa,gLz,gLs,jH,bSe,qQk,bc2,bb,zz,hV13,x13,implies_true,q1];exact⟨_,rfl,q2,u13,q3⟩
    ·refine qQf pl242 ((f4 V12 (k:=12) c12 (by omega) y12).mono ?_);rintro _ W14 ⟨rfl,F14⟩;refine⟨fun h=>absurd h (by decide),?_⟩
     have G14:=(y12).trans F14;have K14:=F14.at v12 id;obtain⟨q1,q2,q3⟩:=fin _ _ G14 K14 u12;simp -implicitDefEqProofs only[go_sem,jY,jG,gLa,gLz,gLs,bc2,bb,q1];exact⟨_,rfl,q2,u12,q3⟩
   ·refine qQf pl242 ((f4 V11 (k:=4) c4 (by omega) y11).mono ?_);rintro _ W15 ⟨rfl,F15⟩;refine⟨fun h=>absurd h (by decide),?_⟩
    have G15:=(y11).trans F15;have K15:=F15.at v11 id;simp -implicitDefEqProofs only[go_sem,jY,gLa,gLz,gLs];refine qQf pl242 ((f4 W15 (k:=12) c12 (by omega) G15).mono ?_);rintro _ W16 ⟨rfl,F16⟩;refine⟨fun h=>absurd h (by decide),?_⟩;have G16:=(G15).trans F16;have K16:=F16.at K15 id;obtain⟨q1,q2,q3⟩:=fin _ _ G16 K16 u11;simp -implicitDefEqProofs only[go_sem,jY,jG,gLa,gLz,gLs,bc2,bb,q1];exact⟨_,rfl,q2,u11,q3⟩
  ·refine qQf pl242 ((f4 V10 (k:=8) c8 (by omega) y10).mono ?_);rintro _ W17 ⟨rfl,F17⟩;refine⟨fun h=>absurd h (by decide),?_⟩
   have G17:=(y10).trans F17;have K17:=F17.at v10 id;simp -implicitDefEqProofs only[go_sem,jY,jG,gLa,gLz,gLs,bc1];refine qQf pl242 ((f4 W17 (k:=4) c4 (by omega) G17).mono ?_);rintro _ W18 ⟨rfl,F18⟩;refine⟨fun h=>absurd h (by decide),?_⟩;have G18:=(G17).trans F18;have K18:=F18.at K17 id;simp -implicitDefEqProofs only[go_sem,jY,gLa,gLz,gLs];refine qQf pl242 ((f4 W18 (k:=12) c12 (by omega) G18).mono ?_);rintro _ W19 ⟨rfl,F19⟩;refine⟨fun h=>absurd h (by decide),?_⟩;have G19:=(G18).trans F19;have K19:=F19.at K18 id;obtain⟨q1,q2,q3⟩:=fin _ _ G19 K19 u10;simp -implicitDefEqProofs only[go_sem,jY,jG,gLa,gLz,gLs,bc2,bb,q1];exact⟨_,rfl,q2,u10,q3⟩
 ·refine qQf pl242 ((f4 V0 (k:=0) p0 (by omega) y0).mono ?_);rintro _ W20 ⟨rfl,F20⟩;refine⟨fun h=>absurd h (by decide),?_⟩
  have G20:=(y0).trans F20;have K20:=F20.at v0 id;simp -implicitDefEqProofs only[go_sem,jY,gLa,gLz,gLs];refine qQf pl242 ((f4 W20 (k:=8) c8 (by omega) G20).mono ?_);rintro _ W21 ⟨rfl,F21⟩;refine⟨fun h=>absurd h (by decide),?_⟩;have G21:=(G20).trans F21;have K21:=F21.at K20 id;simp -implicitDefEqProofs only[go_sem,jY,jG,gLa,gLz,gLs,bc1];refine qQf pl242 ((f4 W21 (k:=4) c4 (by omega) G21).mono ?_);rintro _ W22 ⟨rfl,F22⟩;refine⟨fun h=>absurd h (by decide),?_⟩;have G22:=(G21).trans F22;have K22:=F22.at K21 id;simp -implicitDefEqProofs only[go_sem,jY,gLa,gLz,gLs];refine qQf pl242 ((f4 W22 (k:=12) c12 (by omega) G22).mono ?_);rintro _ W23 ⟨rfl,F23⟩;refine⟨fun h=>absurd h (by decide),?_⟩;have G23:=(G22).trans F23;have K23:=F23.at K22 id;obtain⟨q1,q2,q3⟩:=fin _ _ G23 K23 u0;simp -implicitDefEqProofs only[go_sem,jY,jG,gLa,gLz,gLs,bc2,bb,q1];exact⟨_,rfl,q2,u0,q3⟩
end A
end
section
open Go.Proofs
namespace A
open Aud
def ndC (kind l r lc rc:Nat)(ls rs k:Bs)(vv:Value):List Value :=
 [.int .i64 (kind:Nat),.int .i64 (l:Nat),.int .i64 (r:Nat),.int .i64 (lc:Nat),.int .i64 (rc:Nat)]++ls.map u8++rs.map u8++k.map u8++[vv]
def ndA:Nd→Value→List Value
 | .leaf k _,vv=>ndC 1 0 0 0 0 z32 z32 k vv
 | .br lp rp lc rc ls rs,vv=>ndC 2 lp rp lc rc ls rs z32 vv
def ndVal:Nd→Bs
 | .leaf _ v=>v
 | .br _ _ _ _ _ _=>[]
abbrev nd0:List Value:=ndC 0 0 0 0 0 z32 z32 z32 (.slice none 0 0)
theorem qQz {kind l r lc rc:Nat}(h1:ls.length=32)(h2:rs.length=32)(h3:k.length=32)(vv:Value):(ndC kind l r lc rc ls rs k vv).length=102:=by simp[ndC,h1,h2,h3]
theorem qZy (kind l r lc rc:Nat)(ls rs k:Bs)(h:one vv=true):(ndC kind l r lc rc ls rs k vv).all one=true:=by
 simp only[ndC,yN,qXy,List.all_cons,h,List.all_nil,Bool.and_true];rfl
theorem z32l:z32.length=32:=by simp
theorem ndZero:#[.int .i64 0,.int .i64 0,.int .i64 0,.int .i64 0,.int .i64 0]++bl (zV 96 0)++#[.slice none 0 0]=nd0.toArray:=by kernel_rfl
theorem bldNd0:bldO prog 78 []=some (.agg nd0.toArray):=by
 rw[qJw zero78 places78 (c:=nd0.toArray) (by kernel_rfl)];rfl
def ndPs:List (Nat × Nat):=[(0,1),(1,1),(2,1),(3,1),(4,1),(5,32),(37,32),(69,32),(101,1)]
theorem ndPlaces:qQy prog 78=some ndPs:=by kernel_rfl
theorem bldLeaf (hk:k.length=32)(hv:one vv=true):bldO prog 78 [(0,.int .i64 1),(7,dg k),(8,vv)]=some (.agg (ndC 1 0 0 0 0 z32 z32 k vv).toArray):=by
 rw[qJw zero78 ndPlaces (c:=nd0.toArray) (by kernel_rfl)];have h1:=qZw (ps:=fun i=>ndPs[i]?) (i:=0) (o:=0) (a:=[]) (r:=(ndC 0 0 0 0 0 z32 z32 z32 (.slice none 0 0)).drop 1) (u:=.int .i64 0) (v:=.int .i64 1) (rest:=[(7,dg k),(8,vv)]) rfl rfl rfl;have h2:=qJf (ps:=fun i=>ndPs[i]?) (i:=7) (o:=69) (n:=32) (a:=[.int .i64 1,.int .i64 0,.int .i64 0,.int .i64 0,.int .i64 0]++z32.map u8++z32.map u8) (m:=z32.map u8) (r:=[.slice none 0 0]) (vs:=k.map u8) (rest:=[(8,vv)]) rfl (by simp) (by simp) (by simp[hk]);have h3:=qZw (ps:=fun i=>ndPs[i]?) (i:=8) (o:=101) (a:=[.int .i64 1,.int .i64 0,.int .i64 0,.int .i64 0,.int .i64 0]++z32.map u8++z32.map u8++k.map u8) (r:=[]) (u:=.slice none 0 0) (v:=vv) (rest:=[]) rfl (by simp[hk]) hv;rw[qZf]at h3;exact congrArg (jE yC) ((h1.trans h2).trans h3)
theorem bldBranch (h1:ls.length=32)(h2:rs.length=32)(l r lc rc:Nat):bldO prog 78 [(0,.int .i64 2),(1,.int .i64 (l:Nat)),(2,.int .i64 (r:Nat)),(3,.int .i64 (lc:Nat)),(4,.int .i64 (rc:Nat)),(5,dg ls),(6,dg rs)]=some (.agg (ndC 2 l r lc rc ls rs z32 (.slice none 0 0)).toArray):=by
 rw[qJw zero78 ndPlaces (c:=nd0.toArray) (by kernel_rfl)];have tl:nd0.drop 5=z32.map u8++z32.map u8++z32.map u8++[.slice none 0 0]:=rfl;have s:∀ (i:Nat) (a r:List Value) (u v:Value) (rest:List (Nat × Value)),ndPs[i]?=some (i,1)→a.length=i→one v=true→Instr.fill (fun i=>ndPs[i]?) (a++u::r).toArray ((i,v)::rest)=Instr.fill (fun i=>ndPs[i]?) (a++v::r).toArray rest:=fun i a r u v rest hp ha hv=>qZw hp ha hv;have g0:=s 0 [] (nd0.drop 1) (.int .i64 0) (.int .i64 2) [(1,.int .i64 (l:Nat)),(2,.int .i64 (r:Nat)),(3,.int .i64 (lc:Nat)),(4,.int .i64 (rc:Nat)),(5,dg ls),(6,dg rs)] rfl rfl rfl;have g1:=s 1 [.int .i64 2] (nd0.drop 2) (.int .i64 0) (.int .i64 (l:Nat)) [(2,.int .i64 (r:Nat)),(3,.int .i64 (lc:Nat)),(4,.int .i64 (rc:Nat)),(5,dg ls),(6,dg rs)] rfl rfl rfl;have g2:=s 2 [.int .i64 2,.int .i64 (l:Nat)] (nd0.drop 3) (.int .i64 0) (.int .i64 (r:Nat)) [(3,.int .i64 (lc:Nat)),(4,.int .i64 (rc:Nat)),(5,dg ls),(6,dg rs)] rfl rfl rfl;have g3:=s 3 [.int .i64 2,.int .i64 (l:Nat),.int .i64 (r:Nat)] (nd0.drop 4) (.int .i64 0) (.int .i64 (lc:Nat)) [(4,.int .i64 (rc:Nat)),(5,dg ls),(6,dg rs)] rfl rfl rfl;have g4:=s 4 [.int .i64 2,.int .i64 (l:Nat),.int .i64 (r:Nat),.int .i64 (lc:Nat)] (nd0.drop 5) (.int .i64 0) (.int .i64 (rc:Nat)) [(5,dg ls),(6,dg rs)] rfl rfl rfl;have g5:=qJf (ps:=fun i=>ndPs[i]?) (i:=5) (o:=5) (n:=32) (a:=[.int .i64 2,.int .i64 (l:Nat),.int .i64 (r:Nat),.int .i64 (lc:Nat),.int .i64 (rc:Nat)]) (m:=z32.map u8) (r:=z32.map u8++z32.map u8++[.slice none 0 0]) (vs:=ls.map u8) (rest:=[(6,dg rs)]) rfl rfl (by simp) (by simp[h1]);have g6:=qJf (ps:=fun i=>ndPs[i]?) (i:=6) (o:=37) (n:=32) (a:=[.int .i64 2,.int .i64 (l:Nat),.int .i64 (r:Nat),.int .i64 (lc:Nat),.int .i64 (rc:Nat)]++ls.map u8) (m:=z32.map u8) (r:=z32.map u8++[.slice none 0 0]) (vs:=rs.map u8) (rest:=[]) rfl (by simp[h1]) (by simp) (by simp[h2])
 rw[qZf]at g6;have e:([yL .i64 2,.int .i64 (l:Nat),.int .i64 (r:Nat),.int .i64 (lc:Nat),.int .i64 (rc:Nat)]++ls.map u8)++z32.map u8++(z32.map u8++[.slice none 0 0])=[yL .i64 2,.int .i64 (l:Nat),.int .i64 (r:Nat),.int .i64 (lc:Nat),.int .i64 (rc:Nat)]++ls.map u8++(z32.map u8++z32.map u8++[.slice none 0 0]):=by simp only[List.append_assoc]
 rw[e]at g6;have e2:([yL .i64 2,.int .i64 (l:Nat),.int .i64 (r:Nat),.int .i64 (lc:Nat),.int .i64 (rc:Nat)]++ls.map u8)++rs.map u8++(z32.map u8++[.slice none 0 0])=ndC 2 l r lc rc ls rs z32 (.slice none 0 0):=by simp only[ndC,List.append_assoc];rfl
 rw[e2]at g6;exact congrArg (jE yC) ((((((g0.trans g1).trans g2).trans g3).trans g4).trans g5).trans g6)
def NdM (w0 w:World)(n:Nd)(v:Value):Prop:=∃ vv,v=.agg (ndA n vv).toArray∧one vv=true∧NwB w0 w vv (ndVal n)∧(n.kind=2→vv=.slice none 0 0)
theorem nodeOfLeaf (w0:World){k val:Bs}(hk:k.length=32)(ov:one vv=true)(hv:By w0 vv val)(hl:val.length≤2 ^ 40):Fn prog 238 #[lfV k vv] w0 fun v w'=>No w0 w'∧NdM w0 w' (.leaf k val) v:=by
 refine go238 (by simp) ?_;obtain⟨W,hW,f1,k1,s1⟩:=qQl w0 nd0.toArray 78;obtain⟨W2,hW2,f2,k2,s2⟩:=qQl W (lfC z32 (.slice none 0 0)).toArray 315;have zz:bl (zV 32 0)++#[.slice none 0 0]=(lfC z32 (.slice none 0 0)).toArray:=by kernel_rfl
 have q1:wrO prog 315 W2 W.heap.size 0 (.agg (lfC k vv).toArray)=some (put W2 W.heap.size (.cells (lfC k vv).toArray 315 (0,0))):=qQr (by simp[lfC_len hk];exact sz315) k2 (by simp[lfC_len hk,lfC_len z32l]) (by simpa using lfC_one k ov);have k3:=qQd (o:=.cells (lfC k vv).toArray 315 (0,0)) k2;have k13:=qQi (b:=W.heap.size) (o:=.cells (lfC k vv).toArray 315 (0,0)) (f2.at k1 id) (by omega);have f3:=(f1.trans f2).put (b:=W.heap.size) (.cells (lfC k vv).toArray 315 (0,0)) fun h=>by omega
 have hlf:lfV k vv=.iface 315 (.agg (lfC k vv).toArray):=rfl;simp -implicitDefEqProofs only[go_sem,jY,gLa,gLz,gLs,jH,qQk,Tryz.f238,ndZero,hW,hlf,if_true,zz,hW2,q1];generalize put W2 W.heap.size (.cells (lfC k vv).toArray 315 (0,0))=w3 at *;have rk:rdO prog 76 w3.drew W.heap.size 0=some (dg k):=qJg (a:=[]) (m:=k.map u8) (r:=[vv]) (w:=w3.drew) agg76 (by simp[hk];exact sz76) (by simp[hk]) k3 rfl;have rv:rdO prog 22 w3.drew W.heap.size 32=some vv:=rd_one (a:=k.map u8) (r:=[]) (w:=w3.drew) agg22 k3 (by simp[hk]);obtain⟨v5,w5,hr5,b5,f5,g5,m5⟩:=NwB.catB (P:=prog) app22_22 (NwB.nil w0 w3.drew) (hv.fr0 f3.drew) (by simp;omega) f3.drew;rw[zS]at b5;have o5:one v5=true:=by obtain⟨a,c,rfl⟩:=b5.slice;rfl
 refine qXf (fun j=>j == 4) (.row [0,2,1,3,4,5,6]) rfl (by kernel_rfl) (by kernel_rfl) ?_;simp -implicitDefEqProofs only[go_sem,jY,jG,gLa,gLz,gLs,zB,OT.row,rk,rv];refine qZq ⟨v5,w5,hr5,?_⟩;refine⟨fun _=>(g5.mono (G:=fun _=>False) fun b _ h=>by cases h).ext,?_⟩;have k5:w5.heap[w0.heap.size]?=_:=g5.at (show w3.drew.heap[w0.heap.size]?=_ from k13) (by simp[qQg]);have bl5:=bldLeaf hk o5;have q6:wrO prog 78 w5 w0.heap.size 0 (.agg (ndC 1 0 0 0 0 z32 z32 k v5).toArray)=some (put w5 w0.heap.size (.cells (ndC 1 0 0 0 0 z32 z32 k v5).toArray 78 (0,0))):=qQr (by simp[qQz z32l z32l hk];exact sz78) k5 (by simp[qQz z32l z32l hk,qQz z32l z32l z32l]) (by simpa using qZy 1 0 0 0 0 z32 z32 k o5);have k6:=qQd (o:=.cells (ndC 1 0 0 0 0 z32 z32 k v5).toArray 78 (0,0)) k5;have ld:=qQo (P:=prog) (t:=78) agg78 sz78 k6 (by simp[qQz z32l z32l hk]);simp -implicitDefEqProofs only[go_sem,jY,jG,gLa,gLz,gLs,bl5,q6,ld,implies_true];have h0:w0.heap.size<W.heap.size:=qQh k1;have hW3:W.heap.size<w3.heap.size:=qQh k3;refine⟨f5.put (b:=w0.heap.size) _ fun h=>absurd h (jF _),v5,rfl,o5,b5.put _ fun c hc=>?_,fun h=>by cases h⟩
 rcases m5 c hc with h | h
 ·cases h
 ·have h:w3.heap.size≤c:=h
  omega
end A
end
section
open Go.Proofs
namespace A
open Aud
def NoR (w0:World)(rb:Nat)(cl cr:List Value)(x2 x5 x6:Value)(w:World):Prop :=
 ∃ a b,x2=pt rb 0∧x5=pt a 0∧x6=pt b 0∧w.heap[a]?=some (.cells cl.toArray 318 (0,0))∧w.heap[b]?=some (.cells cr.toArray 318 (0,0))∧w.heap[rb]?=some (.cells nd0.toArray 78 (0,0))∧No w0 w
theorem nodeOfBranch (w0:World)(lp lc rp rc:Nat)(hl:ls.length=32)(hr:rs.length=32):Fn prog 238 #[brV lp lc ls rp rc rs] w0 fun v w'=>No w0 w'∧NdM w0 w' (.br lp rp lc rc ls rs) v:=by
 refine go238 (by simp) ?_;obtain⟨W,hW,f1,k1,s1⟩:=qQl w0 nd0.toArray 78;obtain⟨W2,hW2,f2,k2,s2⟩:=qQl W (cdC 0 0 z32++cdC 0 0 z32).toArray 320;have zz:#[.int .i64 0,.int .i64 0]++bl (zV 32 0)++#[.int .i64 0,.int .i64 0]++bl (zV 32 0)=(cdC 0 0 z32++cdC 0 0 z32).toArray:=by kernel_rfl
 have zc:#[.int .i64 0,.int .i64 0]++bl (zV 32 0)=(cdC 0 0 z32).toArray:=by kernel_rfl
 generalize hcl:cdC lp lc ls=cl;generalize hcr:cdC rp rc rs=cr;have lcl:cl.length=34:=by rw[← hcl];exact qXn hl _ _
 have lcr:cr.length=34:=by rw[← hcr];exact qXn hr _ _
 have ocl:cl.all one=true:=by rw[← hcl];exact cdC_one _ _ _
 have ocr:cr.all one=true:=by rw[← hcr];exact cdC_one _ _ _
 have q1:wrO prog 320 W2 W.heap.size 0 (.agg (cl++cr).toArray)=some (put W2 W.heap.size (.cells (cl++cr).toArray 320 (0,0))):=qQr (by simp[lcl,lcr];exact sz320) k2 (by simp[lcl,lcr,qXn z32l]) (by simp only[List.size_toArray,List.all_toArray',yN,ocl,ocr,Bool.and_self]);have k3:=qQd (o:=.cells (cl++cr).toArray 320 (0,0)) k2;have k13:=qQi (b:=W.heap.size) (o:=.cells (cl++cr).toArray 320 (0,0)) (f2.at k1 id) (by omega);have f3:=(f1.trans f2).put (b:=W.heap.size) (.cells (cl++cr).toArray 320 (0,0)) fun h=>by omega
 have hlf:brV lp lc ls rp rc rs=.iface 320 (.agg (cl++cr).toArray):=by unfold brV;rw[hcl,hcr]
 simp -implicitDefEqProofs only[go_sem,jY,gLa,gLz,gLs,jH,qQk,Tryz.f238,ndZero,hW,hlf,if_true,zz,hW2,q1];generalize put W2 W.heap.size (.cells (cl++cr).toArray 320 (0,0))=w3 at *;generalize htb:W.heap.size=tb at *;have hrt:w0.heap.size≠tb:=by have:=qQh k1;omega
 refine qXc (Q:=fun e ev w=>e=.normal∧NoR w0 w0.heap.size cl cr (ev 2) (ev 5) (ev 6) w) _ (fun e ev w=>?_) ?_
 ·rintro⟨rfl,a,b,e2,e5,e6,ka,kb,kr,fw⟩
  subst hcl hcr;have r1:rdO prog 3 w a 0=some (.int .i64 (lp:Nat)):=rd1 agg3 ka rfl;have r2:rdO prog 3 w b 0=some (.int .i64 (rp:Nat)):=rd1 agg3 kb rfl;have r3:rdO prog 3 w a 1=some (.int .i64 (lc:Nat)):=rd1 agg3 ka rfl;have r4:rdO prog 3 w b 1=some (.int .i64 (rc:Nat)):=rd1 agg3 kb rfl;have r5:rdO prog 75 w a 2=some (dg ls):=qJg (a:=[.int .i64 (lp:Nat),.int .i64 (lc:Nat)]) (m:=ls.map u8) (r:=[]) agg75 (by simp[hl];exact sz75) (by simp[hl]) (by rw[j6];exact ka) rfl;have r6:rdO prog 75 w b 2=some (dg rs):=qJg (a:=[.int .i64 (rp:Nat),.int .i64 (rc:Nat)]) (m:=rs.map u8) (r:=[]) agg75 (by simp[hr];exact sz75) (by simp[hr]) (by rw[j6];exact kb) rfl;have bb:=bldBranch hl hr lp rp lc rc;have q6:wrO prog 78 w w0.heap.size 0 (.agg (ndC 2 lp rp lc rc ls rs z32 (.slice none 0 0)).toArray)=some (put w w0.heap.size (.cells (ndC 2 lp rp lc rc ls rs z32 (.slice none 0 0)).toArray 78 (0,0))):=qQr (by simp[qQz hl hr z32l];exact sz78) kr (by simp[qQz hl hr z32l,qQz z32l z32l z32l]) (by simpa using qZy 2 lp rp lc rc ls rs z32 (vv:=.slice none 0 0) rfl);have k6:=qQd (o:=.cells (ndC 2 lp rp lc rc ls rs z32 (.slice none 0 0)).toArray 78 (0,0)) kr;have ld:=qQo (P:=prog) (t:=78) agg78 sz78 k6 (by simp[qQz hl hr z32l]);simp -implicitDefEqProofs only[go_sem,jY,zB,e2,e5,e6,r1,r2,r3,r4,r5,r6,bb,q6,ld];exact⟨fw.put (b:=w0.heap.size) _ fun h=>absurd h (jF _),.slice none 0 0,rfl,rfl,NwB.nil _ _,fun _=>rfl⟩
 refine qXf (fun j=>j == 4 || j == 5) (.one 0 (.one 2 (.one 1 (.tri 3 (.two 4 (.row [5,6,7]) 5 (.row [4,6,7])) 4 (.two 3 (.row [5,6,7]) 5 (.two 3 (.row [6,7]) 6 (.row [3,7]))) 5 (.two 3 (.row [4,6,7]) 4 (.two 3 (.row [6,7]) 6 (.row [3,7]))))))) rfl (by kernel_rfl) (by kernel_rfl) ?_
 replace f3:=f3.drew
 have k3:w3.drew.heap[tb]?=_:=k3;have k13:w3.drew.heap[w0.heap.size]?=_:=k13;generalize w3.drew=w3 at *;obtain⟨A1,hA1,g1,a1,t1⟩:=qQl w3 (cdC 0 0 z32).toArray 318;obtain⟨A2,hA2,g2,a2,t2⟩:=qQl A1 (cdC 0 0 z32).toArray 318;have hn:A1.heap.size=w3.heap.size+1:=t1;rw[hn]at a2;have b1:=g2.at a1 id
 have rd:∀ W:World,W.heap[tb]?=some (.cells (cl++cr).toArray 320 (0,0))→rdO prog 318 W tb 0=some (.agg cl.toArray)∧rdO prog 318 W tb 34=some (.agg cr.toArray):=fun W k =>
  ⟨qJg (a:=[]) (m:=cl) (r:=cr) agg318 (by rw[lcl];exact sz318) (by omega) k rfl,qJg (a:=cl) (m:=cr) (r:=[]) agg318 (by rw[lcr];exact sz318) (by omega) (by rw[j6];exact k) lcl⟩
 have wr:∀ (W:World) (n:Nat) (c:List Value),W.heap[n]?=some (.cells (cdC 0 0 z32).toArray 318 (0,0))→c.length=34→c.all one=true→wrO prog 318 W n 0 (.agg c.toArray)=some (put W n (.cells c.toArray 318 (0,0))):=fun W n c k h o =>
  qQr (by simp[h];exact sz318) k (by simp[h,qXn z32l]) (by simpa using o)
 have h3:=qQh k3;have h0:=qQh k13;obtain⟨x1,y1⟩:=rd w3 k3;obtain⟨x2,y2⟩:=rd A1 (g1.at k3 id);obtain⟨x3,y3⟩:=rd A2 (g2.at (g1.at k3 id) id);have kA:=g2.at (g1.at k3 id) id;have kR:=g2.at (g1.at k13 id) id;have fA:=(f3.trans g1).trans g2;obtain⟨_,y4⟩:=rd (put A2 w3.heap.size (.cells cl.toArray 318 (0,0))) (qQi kA (by omega));obtain⟨_,y5⟩:=rd (put A2 (w3.heap.size+1) (.cells cl.toArray 318 (0,0))) (qQi kA (by omega));have u1:=wr A2 w3.heap.size cl b1 lcl ocl;have u2:=wr A2 (w3.heap.size+1) cl a2 lcl ocl;have u3:=wr (put A2 w3.heap.size (.cells cl.toArray 318 (0,0))) (w3.heap.size+1) cr (qQi a2 (by omega)) lcr ocr;have u4:=wr (put A2 (w3.heap.size+1) (.cells cl.toArray 318 (0,0))) w3.heap.size cr (qQi b1 (by omega)) lcr ocr
 have l1:NoR w0 w0.heap.size cl cr (pt w0.heap.size 0) (pt w3.heap.size 0) (pt (w3.heap.size+1) 0) (put (put A2 w3.heap.size (.cells cl.toArray 318 (0,0))) (w3.heap.size+1) (.cells cr.toArray 318 (0,0))) :=
  ⟨_,_,rfl,rfl,rfl,qQi (qQd b1) (by omega),qQd (qQi (o:=.cells cl.toArray 318 (0,0)) a2 (show w3.heap.size≠w3.heap.size+1 by omega)),qQi (qQi kR (by omega)) (by omega),(fA.put (b:=w3.heap.size) _ fun h=>by omega).put (b:=w3.heap.size+1) _ fun h=>by omega⟩
 have l2:NoR w0 w0.heap.size cl cr (pt w0.heap.size 0) (pt (w3.heap.size+1) 0) (pt w3.heap.size 0) (put (put A2 (w3.heap.size+1) (.cells cl.toArray 318 (0,0))) w3.heap.size (.cells cr.toArray 318 (0,0))) :=
  ⟨_,_,rfl,rfl,rfl,qQi (qQd a2) (by omega),qQd (qQi (o:=.cells cl.toArray 318 (0,0)) b1 (show w3.heap.size+1≠w3.heap.size by omega)),qQi (qQi kR (by omega)) (by omega),(fA.put (b:=w3.heap.size+1) _ fun h=>by omega).put (b:=w3.heap.size) _ fun h=>by omega⟩
 have e1:=g1.ext;have e2:=g2.ext;simp -implicitDefEqProofs only[go_sem,jY,jG,gLa,gLz,gLs,jH,bSe,zB,qQk,OT.row,zc,hA1,hA2,hn,e1,e2,x1,y1,y2,y3,y4,y5,u1,u2,u3,u4,l1,l2,implies_true,and_self,true_and]
theorem isC_c (v:Value):isC (.const v)=true:=rfl
def DeQ (w0:World)(r:Option Nd)(v:Value)(w':World):Prop:=No w0 w'∧match r with
 | none=>v=.tuple #[.agg nd0.toArray,.int .i64 90]
 | some n=>∃ x,v=.tuple #[x,.int .i64 0]∧NdM w0 w' n x
theorem methLf : methO prog 315 "ledger/node.stands" = some 246 := by kernel_rfl
theorem methBr : methO prog 320 "ledger/node.stands" = some 249 := by kernel_rfl
theorem decode (w0:World)(kind:Nat)(hp:By w0 p l)(hl:l.length≤2 ^ 40):Fn prog 233 #[.int .i64 (kind:Nat),p] w0 (DeQ w0 (decN kind l)):=by
 refine go233 (by simp) ?_;obtain⟨W,hW,f1,k1,s1⟩:=qQl w0 nd0.toArray 78
 have ret:∀ (w:World) (c:List Value), No w0 w→w.heap[w0.heap.size]?=some (.cells nd0.toArray 78 (0, 0))→c.length=102→c.all one=true →
   wrO prog 78 w w0.heap.size 0 (.agg c.toArray)=some (put w w0.heap.size (.cells c.toArray 78 (0,0)))∧rdO prog 78 (put w w0.heap.size (.cells c.toArray 78 (0,0))) w0.heap.size 0=some (.agg c.toArray)∧No w0 (put w w0.heap.size (.cells c.toArray 78 (0,0))):=fun w c f k h5 ho =>
  ⟨qQr (by simp[h5];exact sz78) k (by simp[h5,qQz z32l z32l z32l]) (by simpa using ho),rd_all agg78 (by simp[h5];exact sz78) (qQd (o:=.cells c.toArray 78 (0,0)) k),f.put (b:=w0.heap.size) _ fun h=>absurd h (jF _)⟩
 simp -implicitDefEqProofs only[go_sem,jY,jH,zB,qQk,Tryz.f233,ndZero,hW];refine qQa pl237 ((read W kind (hp.fr0 f1) hl).mono ?_);rintro v w2 ⟨f2,h2⟩;have f02:=f1.trans f2;have k2:=f2.at k1 id;unfold RdN at h2;unfold decN
 by_cases hA:kind=1∧32≤l.length
 ·rw[if_pos hA]at h2
  obtain⟨vv,rfl,ov,hv⟩:=h2;obtain⟨rfl,h32⟩:=hA;have hk:(l.take 32).length=32:=by rw[lTk];omega
  rw[if_pos rfl];have hlf:lfV (l.take 32) vv=.iface 315 (.agg (lfC (l.take 32) vv).toArray):=rfl;simp -implicitDefEqProofs only[go_sem,jY,gLa,gLz,gLs,bSe,hlf,methLf];refine qQa pl246 ((leafStands w2 hk hv).mono ?_);rintro _ w3 ⟨rfl,f3⟩;rw[← hlf];have f03:=f02.trans f3;have k3:=f3.at k2 id;have lv:(l.drop 32).length=l.length - 32:=lDr
  by_cases hs:(l.drop 32).length≤128
  case neg =>
   obtain⟨q1,q2,q3⟩:=ret w3 nd0 f03 k3 (qQz z32l z32l z32l _) (qZy _ _ _ _ _ _ _ _ rfl);rw[decide_eq_false hs,if_neg (by omega)];simp -implicitDefEqProofs only[go_sem,jY,gLa,gLz,gLs,bSe,Bool.not_false,bldNd0,q1,q2];exact⟨q3,rfl⟩
  rw[decide_eq_true hs,if_pos ⟨h32,by omega⟩];simp -implicitDefEqProofs only[go_sem,jY,gLa,gLz,gLs,bSe,Bool.not_true];refine qQa pl238 ((nodeOfLeaf w3 hk ov (hv.fr0 f3) (by omega)).mono ?_);rintro _ w4 ⟨f4,v5,rfl,o5,n5,e5⟩;obtain⟨q1,q2,q3⟩:=ret w4 (ndA (.leaf (l.take 32) (l.drop 32)) v5) (f03.trans f4) (f4.at k3 id) (qQz z32l z32l hk _) (qZy _ _ _ _ _ _ _ _ o5);have h3:=qQh k3;simp -implicitDefEqProofs only[go_sem,jY,q1,q2];exact⟨q3,_,rfl,v5,rfl,o5,(n5.put _ fun c hc=>by have:=(NwB.lt n5 hc).1;omega).back f03.size,e5⟩
 rw[if_neg hA]at h2
 by_cases hB:kind=2∧l.length=80
 case neg =>
  rw[if_neg hB]at h2;subst h2;obtain⟨q1,q2,q3⟩:=ret w2 nd0 f02 k2 (qQz z32l z32l z32l _) (qZy _ _ _ _ _ _ _ _ rfl)
  have e:(if kind=1 then (if 32≤l.length∧l.length≤160 then some (Nd.leaf (l.take 32) (l.drop 32)) else none)
   else if kind=2∧l.length=80∧brR (nat4 l 0) (nat4 l 4) (nat4 l 8) (nat4 l 12) ((l.drop 16).take 32) ((l.drop 48).take 32) then some (Nd.br (nat4 l 0) (nat4 l 4) (nat4 l 8) (nat4 l 12) ((l.drop 16).take 32) ((l.drop 48).take 32))
   else none)=none:=by
   by_cases h1:kind=1
   ·rw[if_pos h1,if_neg fun h=>hA ⟨h1,h.1⟩]
   ·rw[if_neg h1,if_neg fun h=>hB ⟨h.1,h.2.1⟩]
  rw[e];simp -implicitDefEqProofs only[go_sem,jY,gLa,gLz,gLs,qXq,isC_c,Bool.or_true,if_true,bldNd0,q1,q2];exact⟨q3,rfl⟩
 rw[if_pos hB]at h2;subst h2;obtain⟨rfl,h80⟩:=hB;have l1:((l.drop 16).take 32).length=32:=by rw[lTk,lDr];omega
 have l2:((l.drop 48).take 32).length=32:=by rw[lTk,lDr];omega
 have b4:∀ k,nat4 l k<2 ^ 32:=fun k=>by
  have:=le_small (b:=(l.drop k).take 4) (n:=4) (by rw[lTk];omega);exact this
 have hlf:brV (nat4 l 0) (nat4 l 8) ((l.drop 16).take 32) (nat4 l 4) (nat4 l 12) ((l.drop 48).take 32)=.iface 320 (.agg (cdC (nat4 l 0) (nat4 l 8) ((l.drop 16).take 32)++cdC (nat4 l 4) (nat4 l 12) ((l.drop 48).take 32)).toArray):=rfl;rw[if_neg (by decide)];simp -implicitDefEqProofs only[go_sem,jY,gLa,gLz,gLs,bSe,hlf,methBr];refine qQa pl249 ((brStands w2 _ _ _ _ l1 l2 (b4 _) (b4 _)).mono ?_);rintro _ w3 ⟨rfl,f3⟩;rw[← hlf];have f03:=f02.trans f3;have k3:=f3.at k2 id
 by_cases hs:brR (nat4 l 0) (nat4 l 4) (nat4 l 8) (nat4 l 12) ((l.drop 16).take 32) ((l.drop 48).take 32)
 case neg =>
  obtain⟨q1,q2,q3⟩:=ret w3 nd0 f03 k3 (qQz z32l z32l z32l _) (qZy _ _ _ _ _ _ _ _ rfl);rw[decide_eq_false hs,if_neg fun h=>hs h.2];simp -implicitDefEqProofs only[go_sem,jY,gLa,gLz,gLs,bSe,Bool.not_false,bldNd0,q1,q2];exact⟨q3,rfl⟩
 rw[decide_eq_true hs,if_pos ⟨h80,hs⟩];simp -implicitDefEqProofs only[go_sem,jY,gLa,gLz,gLs,bSe,Bool.not_true];refine qQa pl238 ((nodeOfBranch w3 _ _ _ _ l1 l2).mono ?_);rintro _ w4 ⟨f4,v5,rfl,o5,n5,e5⟩;obtain⟨q1,q2,q3⟩:=ret w4 (ndA (.br (nat4 l 0) (nat4 l 4) (nat4 l 8) (nat4 l 12) ((l.drop 16).take 32) ((l.drop 48).take 32)) v5) (f03.trans f4) (f4.at k3 id) (qQz l1 l2 z32l _) (qZy _ _ _ _ _ _ _ _ o5);have h3:=qQh k3;simp -implicitDefEqProofs only[go_sem,jY,q1,q2];exact⟨q3,_,rfl,v5,rfl,o5,(n5.put _ fun c hc=>by have:=(NwB.lt n5 hc).1;omega).back f03.size,e5⟩
end A
end
section
open Go.Proofs Sha
def em0I (w0:World)(b5:Nat)(w1:World)(n:Nat)(vs:List Value)(w:World):Prop:=vs=[pt w0.heap.size 0,pt b5 0,.int .i64 0,.int .i64 0]∧w=w1
theorem empty0 (w0:World)(ht:Tabs w0)(width:Int):Fn prog 159 #[.int .i64 width,.int .i64 0] w0 fun v w'=>v=dg (emptD width 0)∧No w0 w':=by
 refine go159 (by simp) ?_;have f1:No w0 (w0.alloc (.cells (bl (zV 32 0)) 75)):=(Fr.refl _ _).alloc _;have k1:(w0.alloc (.cells (bl (zV 32 0)) 75)).heap[w0.heap.size]?=some (.cells (bl (zV 32 0)) 75 (0,0)):=qQb _ _;have z1:(w0.alloc (.cells (bl (zV 32 0)) 75)).heap.size=w0.heap.size+1:=qQc _ _;simp -implicitDefEqProofs only[go_sem,Tryz.f159,jH,qQk];generalize w0.alloc (.cells (bl (zV 32 0)) 75)=W at *;refine qQp (v:=.slice (some ⟨W.heap.size,0,none⟩) 1 1) (w':=W.alloc (.cells (bl [2]) 5)) (by rw[← z1];rfl) ?_;have f2:=f1.alloc (.cells (bl [2]) 5);have b1:NwB w0 (W.alloc (.cells (bl [2]) 5)) (.slice (some ⟨W.heap.size,0,none⟩) 1 1) [2]:=mk_nw w0 W 5 1 1 1 (bl [2]) f1.size rfl (xT _);have k2:=qQq (o:=.cells (bl [2]) 5) k1;generalize W.alloc (.cells (bl [2]) 5)=w2 at *;simp -implicitDefEqProofs only[go_sem];refine qQa pl181 ((dsum w2 (ht.no f2) b1.by (by simp)).mono ?_);rintro _ w3 ⟨rfl,f3⟩;simp -implicitDefEqProofs only[go_sem,jY];refine qQa pl180 ((dcut w3 width (sum_len [2])).mono ?_);rintro _ w4 ⟨rfl,f4⟩;have he:cutD width (Sha.sum [2])=emptD width 0:=rfl;rw[he];have hd0:=qQu width 0;have k4:=f4.at (f3.at k2 id) id;have f4':=(f2.trans f3).trans f4;have q:=wr_d sz75 (qQb w4 (.cells (bl (zV 32 0)) 75)) zl32 hd0;have r:=rd_d agg75 sz75 (qQd (o:=.cells (bl (emptD width 0)) 75 (0,0)) (qQb w4 (.cells (bl (zV 32 0)) 75))) hd0;have k5:(put (w4.alloc (.cells (bl (zV 32 0)) 75)) w4.heap.size (.cells (bl (emptD width 0)) 75 (0,0))).heap[w0.heap.size]?=some (.cells (bl (zV 32 0)) 75 (0,0)):=qQi (qQq k4) (by have:=qQh k4;omega);have f5:No w0 (put (w4.alloc (.cells (bl (zV 32 0)) 75)) w4.heap.size (.cells (bl (emptD width 0)) 75 (0,0))):=(f4'.alloc _).put (b:=w4.heap.size) _ fun h=>by have:=f4'.size;omega
 simp -implicitDefEqProofs only[go_sem,jY,jH,qQk,q];have q5:=r;generalize put (w4.alloc (.cells (bl (zV 32 0)) 75)) w4.heap.size (.cells (bl (emptD width 0)) 75 (0,0))=w5 at *;refine qQa pl182 ((within w5 0 0 256).mono ?_);rintro _ _ ⟨rfl,rfl⟩;rename_i w6;have e0:max (0:Int) (min 0 256)=0:=by decide
 have d0:decide ((0:Int)<0)=false:=by decide
 have r5:=q5;simp -implicitDefEqProofs only[go_sem,e0];refine loopD [4,5,11,12] (em0I w0 w4.heap.size w6) 0 ⟨rfl,rfl⟩ ?_;rintro _ vs w7 g ⟨rfl,rfl⟩;have q7:=wr_d sz75 k5 zl32 hd0;have r7:=rd_d agg75 sz75 (qQd (o:=.cells (bl (emptD width 0)) 75 (0,0)) k5) hd0;simp -implicitDefEqProofs only[go_sem,jY,d0,q5,q7,r7];exact f5.put (b:=w0.heap.size) _ fun h=>absurd h (jF _)
end
end Go.V
