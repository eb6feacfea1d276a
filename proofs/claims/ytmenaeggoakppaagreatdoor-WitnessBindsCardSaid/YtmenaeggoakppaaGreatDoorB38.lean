/-
 Helpers: ClC.
-/
import Derived.Test.YtmenaeggoakppaaGreatDoorB37
import Derived.Test.YtmenaeggoakppaaGreatDoorB31
set_option linter.all false
section
namespace Go.V
open Go.Proofs Sha
set_option maxRecDepth 100000
namespace Wit
theorem gs_at {bits : Bs} {sums : List Bs} (hs : sums.length = (poss bits 256 0).length) {h : Nat} (hh : h < 256) (hb : mbit bits h = true) :
    (poss bits h 0).length < sums.length ∧ (poss bits (h + 1) 0).length = (poss bits h 0).length + 1 ∧ (gsOf bits sums).drop (poss bits h 0).length = (h,sums.getD (poss bits h 0).length []) :: (gsOf bits sums).drop (poss bits (h + 1) 0).length := by
 have h1:poss bits (h+1) 0=poss bits h 0++[h]:=by rw[poss_snoc,Nat.zero_add,if_neg (by rw[hb];decide)]
 have h2:(poss bits (h+1) 0).length=(poss bits h 0).length+1:=by rw[h1];simp
 have h3:poss bits 256 0=poss bits (h+1) 0++poss bits (255 - h) (h+1):=by rw[show 256=(h+1)+(255 - h) by omega,poss_add,Nat.zero_add]
 have h4:(poss bits h 0).length<(poss bits 256 0).length:=by rw[h3,List.length_append,h2];omega
 refine⟨by omega,h2,?_⟩
 have hz:(gsOf bits sums).length=sums.length:=by unfold gsOf;rw[List.length_zip,hs,Nat.min_self]
 rw[List.drop_eq_getElem_cons (by omega),h2]
 congr 1
 have hg:(poss bits 256 0)[(poss bits h 0).length]'h4=h:=by
  have:(poss bits 256 0)[(poss bits h 0).length]?=some h:=by
   rw[h3,List.getElem?_append_left (by omega),h1,List.getElem?_append_right (Nat.le_refl _),Nat.sub_self];rfl
  rw[List.getElem?_eq_getElem h4] at this
  exact Option.some.inj this
 unfold gsOf
 rw[List.getElem_zip,hg,getD_lt _ (by omega)]
theorem gs_skip {bits:Bs} {h:Nat} (hb:mbit bits h=false):(poss bits (h+1) 0).length=(poss bits h 0).length:=by rw[poss_snoc,Nat.zero_add,if_pos hb,List.append_nil]
end Wit
/-- a check that was read -/
structure CkP (w:World) (cb:Nat) (wd:Int) (k root:Bs) (a:Option Bs) (bits:Bs) (sums:List Bs) (rv vv sv bv:Value) (e:Bs):Prop where
 ck:Ck w cb wd k rv root (prL a.isSome vv bits sv) e bv
 hb:bits.length=32
 vl:By w vv (a.getD [])
 sm:RdD w sv sums
 bl:Bl w cb wd bv
 vn:∀ b,blockOf vv=some b→cb<b
 sn:∀ b,blockOf sv=some b→cb<b
 le:∀ v,a=some v→v.length≤128
 sl:sums.length=(Wit.poss bits 256 0).length
 tb:5≤cb
 vlt:∀ b,blockOf vv=some b→b<w.heap.size
 slt:∀ b,blockOf sv=some b→b<w.heap.size
section
variable {w w':World} {cb:Nat} {wd:Int} {k root:Bs} {a:Option Bs} {bits:Bs} {sums:List Bs} {rv vv sv bv:Value} {e:Bs}
theorem CkP.fr0 (h:CkP w cb wd k root a bits sums rv vv sv bv e) (f:No w w'):CkP w' cb wd k root a bits sums rv vv sv bv e :=
 ⟨h.ck.fr0 f,h.hb,h.vl.fr0 f,h.sm.fr0 f,h.bl.fr0 f,h.vn,h.sn,h.le,h.sl,h.tb,fun b hb=>by have:=h.vlt b hb;have:=f.size;omega,fun b hb=>by have:=h.slt b hb;have:=f.size;omega⟩
theorem CkP.frC (h:CkP w cb wd k root a bits sums rv vv sv bv e) (f:Fr (fun b=>b=cb) w w') {e':Bs} {bv':Value} (hC:Ck w' cb wd k rv root (prL a.isSome vv bits sv) e' bv') (hB:Bl w' cb wd bv'):CkP w' cb wd k root a bits sums rv vv sv bv' e' :=
 ⟨hC,h.hb,h.vl.fr f fun b hb _ e=>by have:=h.vn b hb;omega,h.sm.fr f fun b hb _ e=>by have:=h.sn b hb;omega,hB,h.vn,h.sn,h.le,h.sl,h.tb,fun b hb=>by have:=h.vlt b hb;have:=f.size;omega,fun b hb=>by have:=h.slt b hb;have:=f.size;omega⟩
theorem CkP.bits68 (h:CkP w cb wd k root a bits sums rv vv sv bv e):∀ i,i<32→rdO Tryz.prog 5 w cb (66+2+i)=some (u8 (bits.getD i 0)):=fun i hi=>h.ck.bit h.hb hi
theorem CkP.frF {F:Nat→Prop} (h:CkP w cb wd k root a bits sums rv vv sv bv e) (f:Fr F w w') (h1:¬ F cb) (h2:∀ b,F b→blockOf vv≠some b) (h3:∀ b,F b→blockOf sv≠some b) (h4:∀ b,F b→blockOf bv≠some b):CkP w' cb wd k root a bits sums rv vv sv bv e :=
 ⟨h.ck.fr f h1,h.hb,h.vl.fr f fun b hb _ hF=>h2 b hF hb,h.sm.fr f fun b hb _ hF=>h3 b hF hb,h.bl.imp id fun h'=>⟨h'.1.fr f fun b hb _ hF=>h4 b hF hb,h'.2⟩,h.vn,h.sn,h.le,h.sl,h.tb,fun b hb=>by have:=h.vlt b hb;have:=f.size;omega,fun b hb=>by have:=h.slt b hb;have:=f.size;omega⟩
end
namespace C
def RdQ (w0:World) (cb:Nat) (wd:Int) (k root:Bs) (rv:Value) (e:Bs) (bv:Value) (y:Option (Option Bs × Bs × List Bs)) (r:Value) (w':World):Prop:=Fr (fun b=>b=cb) w0 w'∧match y with
 | none=>r=.int .i64 120
 | some (a,bits,sums)=>r=.int .i64 0∧∃ vv sv,CkP w' cb wd k root a bits sums rv vv sv bv e
set_option maxHeartbeats 1000000 in
theorem cread (w0 : World) {cb : Nat} {wd : Int} {k : Bs} {rv : Value} {root : Bs} {p : List Value} {e : Bs} {bv : Value} {raw : Bs} (hC : Ck w0 cb wd k rv root p e bv) (hB : Bl w0 cb wd bv) (hcb : 5 ≤ cb) (hr : By w0 rv raw) (hl : raw.length ≤ 2 ^ 50) :
    Fn Tryz.prog 151 #[pt cb 0] w0 (RdQ w0 cb wd k root rv e bv (Wit.decP raw)) := by
 refine Tryz.go151 (by simp) ?_
 have r1:=hC.raw
 simp -implicitDefEqProofs only[go_sem,Nat.reduceEqDiff,Nat.reduceBEq,Nat.reduceAdd,gLa,gLz,gLs,Tryz.f151,r1]
 refine contL_call Tryz.pl66 ((decode w0 hr hl).mono ?_)
 rintro r w2 ⟨f2,hm⟩
 unfold RdQ
 have hlt:=hC.lt
 cases hd:Wit.decP raw with
 | none =>
  rw[hd] at hm
  subst hm
  obtain⟨w3,q3,hC3,f3⟩:=(hC.fr0 f2).putP (p':=prL false (.slice Option.none 0 0) (List.replicate 32 0) (.slice Option.none 0 0)) (prL_len (by simp)) (prL_one rfl rfl)
  simp -implicitDefEqProofs only[go_sem,Nat.reduceEqDiff,Nat.reduceBEq,Nat.reduceAdd,gLa,gLz,gLs,q3]
  exact⟨(f2.mono fun _ _ h=>h.elim).trans f3,trivial⟩
 | some y =>
  obtain⟨a,bits,sums⟩:=y
  rw[hd] at hm
  obtain⟨vv,sv,rfl,hv,hs,hvo,hso,hvb,hsb⟩:=hm
  obtain⟨h1,h2,h3,h4⟩:=Wit.decP_ok hd
  obtain⟨w3,q3,hC3,f3⟩:=(hC.fr0 f2).putP (p':=prL a.isSome vv bits sv) (prL_len h1) (prL_one hvo hso)
  simp -implicitDefEqProofs only[go_sem,Nat.reduceEqDiff,Nat.reduceBEq,Nat.reduceAdd,gLa,gLz,gLs,q3]
  have hvn:∀ b,blockOf vv=some b→cb<b:=fun b hb=>by have:=(hvb b hb).1;omega
  have hsn:∀ b,blockOf sv=some b→cb<b:=fun b hb=>by have:=(hsb b hb).1;omega
  exact⟨(f2.mono fun _ _ h=>h.elim).trans f3,vv,sv,hC3,h1,hv.fr f3 fun b hb _ e=>by have:=hvn b hb;omega,hs.fr f3 fun b hb _ e=>by have:=hsn b hb;omega,(hB.fr0 f2).frC f3,hvn,hsn,h4,h2,hcb,fun b hb=>by have:=(hvb b hb).2;have:=f3.size;omega,fun b hb=>by have:=(hsb b hb).2;have:=f3.size;omega⟩
theorem bareP (w0 : World) (ht : Tabs w0) {cb : Nat} {wd : Int} {k root : Bs} {a : Option Bs} {bits : Bs} {sums : List Bs} {rv vv sv bv : Value} {e : Bs} (hP : CkP w0 cb wd k root a bits sums rv vv sv bv e) {h : Nat} (hh : h < 256) :
    Fn Tryz.prog 201 #[pt cb 0,.int .i64 (h : Nat)] w0 fun v w' => v = dg (emptD wd h) ∧ Fr (fun b => b = cb) w0 w' ∧ ∃ bv',CkP w' cb wd k root a bits sums rv vv sv bv' e ∧ RdD w' bv' (empts wd 256) ∧ ((bv = .slice Option.none 0 0 ∧ ∀ b,blockOf bv' = some b → w0.heap.size ≤ b) ∨ bv' = bv) :=
 (bare w0 ht hP.ck hP.bl hP.tb hh).mono fun v w' ⟨h1,h2,bv',h3,h4,h5,h6⟩=>⟨h1,h2,bv',hP.frC h2 h3 (.inr ⟨h4,h5⟩),h4,h6⟩
def tyI (w0:World) (cb:Nat) (wd:Int) (k root:Bs) (a:Option Bs) (bits:Bs) (sums:List Bs) (rv vv sv:Value) (e:Bs) (bv0:Value) (n:Nat) (vs:List Value) (w:World):Prop :=
 ∃ (h:Nat) (bv:Value),vs=[pt cb 0,.int .i64 ((Wit.poss bits h 0).length:Nat),.int .i64 (h:Nat)]∧h≤256∧n=256 - h∧CkP w cb wd k root a bits sums rv vv sv bv e∧Fr (fun b=>b=cb) w0 w∧Wit.chk wd (Wit.gsOf bits sums)=Wit.chk wd ((Wit.gsOf bits sums).drop (Wit.poss bits h 0).length)∧(bv0=.slice Option.none 0 0∨bv=bv0)
def tyJ (w3:World) (cb db W:Nat) (at' h:Nat) (d:Bs) (sl:Value) (n:Nat) (vs:List Value) (w:World):Prop :=
 ∃ (j:Nat),vs=[pt cb 0,.int .i64 (at':Nat),.int .i64 (h:Nat),pt db 0,.int .i64 (h:Nat),sl,.int .i64 ((32 - W:Nat):Int),.int .i64 (j:Nat)]∧j≤32 - W∧n=32 - W - j∧(∀ q,W≤q→q<W+j→d.getD q 0=0)∧w=w3
def tyK (w0:World) (cb:Nat) (wd:Int) (k root:Bs) (a:Option Bs) (bits:Bs) (sums:List Bs) (rv vv sv:Value) (e:Bs) (bv:Value) (h at1:Nat) (q:Bool) (x0 x3 x8 x44:Value) (w':World):Prop :=
 ∃ bv',x0=pt cb 0∧x3=.int .i64 (at1:Nat)∧x8=.int .i64 (h:Nat)∧x44=.bool q∧CkP w' cb wd k root a bits sums rv vv sv bv' e∧Fr (fun b=>b=cb) w0 w'∧(bv=.slice Option.none 0 0∨bv'=bv)
set_option maxHeartbeats 4000000 in
theorem tidy (w0 : World) (ht : Tabs w0) {cb : Nat} {wd : Int} {k root : Bs} {a : Option Bs} {bits : Bs} {sums : List Bs} {rv vv sv bv : Value} {e : Bs} (hP : CkP w0 cb wd k root a bits sums rv vv sv bv e) {W : Nat} (hW : wd = W) (hW2 : W ≤ 32) :
    Fn Tryz.prog 152 #[pt cb 0] w0 fun v w' => v = .int .i64 (Wit.chk wd (Wit.gsOf bits sums)) ∧ Fr (fun b => b = cb) w0 w' ∧ ∃ bv',CkP w' cb wd k root a bits sums rv vv sv bv' e ∧ (bv = .slice Option.none 0 0 ∨ bv' = bv) := by
 refine Tryz.go152 (by simp) ?_
 simp -implicitDefEqProofs only[go_sem,Nat.reduceEqDiff,Nat.reduceBEq,Nat.reduceAdd,gLa,gLz,gLs,Tryz.f152]
 refine loopD [0,3,8] (tyI w0 cb wd k root a bits sums rv vv sv e bv) 256 ⟨0,bv,rfl,by omega,rfl,hP,Fr.refl _ _,rfl,.inr rfl⟩ ?_
 rintro _ vs w g ⟨h,bv1,rfl,hh,rfl,hP1,fw,hck,hor⟩
 have hcl:=hP1.ck.lt
 have hle:=Wit.poss_le bits h 0
 by_cases hlt:h<256
 ·have d1:decide ((h:Int)<256)=true:=decide_eq_true (by omega)
  have c1:IntKind.i64.wrap ((h:Int)+1)=((h+1:Nat):Int):=i64add (b:=1) (by omega)
  simp -implicitDefEqProofs only[go_sem,Nat.reduceEqDiff,Nat.reduceBEq,Nat.reduceAdd,gLa,gLz,gLs,d1]
  refine contL_call Tryz.pl200 ((bitOf w hP1.bits68 hlt).mono ?_)
  rintro _ _ ⟨rfl,rfl⟩
  rename_i w
  cases hm:Wit.mbit bits h with
  | false =>
   simp -implicitDefEqProofs only[go_sem,Nat.reduceEqDiff,Nat.reduceBEq,Nat.reduceAdd,gLa,gLz,gLs,Bool.not_false,c1]
   rw[← Wit.gs_skip hm] at *
   exact⟨256 - (h+1),by omega,h+1,bv1,rfl,by omega,rfl,hP1,fw,hck,hor⟩
  | true =>
   obtain⟨hal,hsuc,hdr⟩:=Wit.gs_at hP1.sl hlt hm
   rw[hdr,Wit.chk] at hck
   rw[hsuc] at hck hdr
   have hd32:(sums.getD (Wit.poss bits h 0).length []).length=32:=hP1.sm.1.getD hal
   obtain⟨b,o,cap,he,_,hsb⟩:=hP1.sm.pos (by omega)
   have rs:=hP1.ck.sums hP1.hb
   rw[he] at rs
   have hsm:=hP1.sm
   rw[he] at hsm
   have rd:=hsm.get (P:=Tryz.prog) Tryz.agg23 Tryz.sz23 hal
   have y1:(0:Int)≤((Wit.poss bits h 0).length:Int)∧((Wit.poss bits h 0).length:Int)<((sums.length:Nat):Int):=by omega
   have c2:IntKind.i64.wrap (((Wit.poss bits h 0).length:Int)+1)=(((Wit.poss bits h 0).length+1:Nat):Int):=i64add (b:=1) (by omega)
   generalize hdd:sums.getD (Wit.poss bits h 0).length []=d at *
   obtain⟨w3,q3,k3,f3,s3⟩:=R.allocD w Tryz.sz23 hd32
   have hP3:=hP1.fr0 f3
   have r3:=hP3.ck.wd0
   rw[hW] at r3
   obtain⟨o5,psl,ho5⟩:∃ o5,sliceP Tryz.prog 23 (.pointer (some ⟨w.heap.size,0,Option.none⟩)) (some (.int .i64 (W:Int))) Option.none Option.none=some (.slice (some ⟨w.heap.size,o5,Option.none⟩) (32 - W) (32 - W))∧(W<32→o5=W):=by
    by_cases e:32=W
    ·refine⟨0,?_,fun h=>by omega⟩
     simp only[sliceP,Tryz.arr23,optB,Option.bind_some,sbO_nat hW2,Tryz.sz5,Option.map_some]
     rw[if_pos e]
    ·refine⟨W,?_,fun _=>rfl⟩
     simp only[sliceP,Tryz.arr23,optB,Option.bind_some,sbO_nat hW2,Tryz.sz5,Option.map_some]
     rw[if_neg e]
     simp[Addr.add]
     omega
   simp -implicitDefEqProofs only[go_sem,Nat.reduceEqDiff,Nat.reduceBEq,Nat.reduceAdd,gLa,gLz,gLs,Bool.not_true,rs,y1,and_self,Int.toNat_natCast,rd,Value.cells,bl_zero,q3,c2,r3,psl]
   refine loopD [0,3,4,5,8,31,32,33] (tyJ w3 cb w.heap.size W ((Wit.poss bits h 0).length+1) h d (.slice (some ⟨w.heap.size,o5,Option.none⟩) (32 - W) (32 - W))) (32 - W) ⟨0,rfl,by omega,rfl,fun q h1 h2=>by omega,rfl⟩ ?_
   rintro _ vs _ g ⟨j,rfl,hj,rfl,hz,rfl⟩
   rename_i w3
   have hcut:=cutD_zero hW hd32
   by_cases hjl:j<32 - W
   ·have d2:decide ((j:Int)<((32 - W:Nat):Int))=true:=decide_eq_true (by omega)
    have y2:(0:Int)≤(j:Int)∧(j:Int)<((32 - W:Nat):Int):=by omega
    have c3:IntKind.i64.wrap ((j:Int)+1)=((j+1:Nat):Int):=i64add (b:=1) (by omega)
    have ho:o5=W:=ho5 (by omega)
    subst ho
    have rb:rdO Tryz.prog 5 w3 w.heap.size (o5+j)=some (.int .u8 ((d.getD (o5+j) 0).toNat:Int)):=rd1 Tryz.agg5 k3 (bl_at (by omega))
    by_cases hb0:d.getD (o5+j) 0=0
    ·have d3:((((d.getD (o5+j) 0).toNat:Nat):Int) != 0)=false:=by rw[hb0];rfl
     simp -implicitDefEqProofs only[go_sem,Nat.reduceEqDiff,Nat.reduceBEq,Nat.reduceAdd,gLa,gLz,gLs,d2,y2,and_self,Int.toNat_natCast,Nat.mul_one,rb,d3,c3]
     refine⟨32 - o5 - (j+1),by omega,j+1,rfl,by omega,rfl,fun q h1 h2=>?_,rfl⟩
     by_cases e:q=o5+j
     ·subst e;exact hb0
     ·exact hz q h1 (by omega)
    ·have d3 : ((((d.getD (o5 + j) 0).toNat : Nat) : Int) != 0) = true := by
       rw [bne_iff_ne]
       intro h
       apply hb0
       apply BitVec.eq_of_toNat_eq
       simpa using (by exact_mod_cast h : (d.getD (o5 + j) 0).toNat = 0)
     simp -implicitDefEqProofs only[go_sem,Nat.reduceEqDiff,Nat.reduceBEq,Nat.reduceAdd,gLa,gLz,gLs,d2,y2,and_self,Int.toNat_natCast,Nat.mul_one,rb,d3]
     rw[hck,if_pos fun e=>hb0 (hcut.1 e (o5+j) (by omega) (by omega))]
     exact⟨rfl,fw.trans (f3.mono fun _ _ h=>h.elim),bv1,hP3,hor⟩
   ·have d2:decide ((j:Int)<((32 - W:Nat):Int))=false:=decide_eq_false (by omega)
    have hcd:d=cutD wd d:=hcut.2 fun q h1 h2=>hz q h1 (by omega)
    rw[if_neg (fun e=>e hcd)] at hck
    have f03:Fr (fun b=>b=cb) w0 w3:=fw.trans (f3.mono fun _ _ h=>h.elim)
    have hcb3:cb<w.heap.size:=hcl
    have r5:=rd_d Tryz.agg23 Tryz.sz23 k3 hd32
    have r5d:rdO Tryz.prog 23 w3.drew w.heap.size 0=some (dg d):=r5
    have fd3:No w3 w3.drew:=(Fr.refl _ _).drew
    simp -implicitDefEqProofs only[go_sem,Nat.reduceEqDiff,Nat.reduceBEq,Nat.reduceAdd,gLa,gLz,gLs,d2]
    refine den_ot (fun _=>false) (.one 1 (.one 2 (.two 0 (.row [3,4]) 3 (.row [0,4])))) rfl (by kernel_rfl) (by kernel_rfl) ?_
    refine denOT_mono (K:=fun ev w'=>tyK w0 cb wd k root a bits sums rv vv sv e bv h ((Wit.poss bits h 0).length+1) (d == emptD wd h) (ev 0) (ev 3) (ev 8) (ev 44) w') ?rest _ ?main
    case main =>
     have eq:=eqDig hd32 (emptD_len wd h)
     simp only[OT.row]
     simp -implicitDefEqProofs only[go_sem,Nat.reduceEqDiff,Nat.reduceBEq,Nat.reduceAdd,gLa,gLz,gLs,r5,r5d]
     refine⟨?_,?_⟩
     ·refine contOT_call Tryz.pl201 ((bareP w3.drew ((ht.fr f03 fun b hb h=>by have:=hP.tb;omega).no fd3) (hP3.fr0 fd3) hlt).mono ?_)
      rintro _ w4 ⟨rfl,f4,bv2,hP4,_,hor2⟩
      refine⟨fun h=>(by cases h),?_⟩
      simp -implicitDefEqProofs only[go_sem,Nat.reduceEqDiff,Nat.reduceBEq,Nat.reduceAdd,gLa,gLz,gLs,eq]
      refine⟨bv2,rfl,rfl,rfl,rfl,hP4,f03.trans ((fd3.mono fun _ _ h=>h.elim).trans f4),?_⟩
      rcases hor with h | h
      ·exact .inl h
      ·rcases hor2 with g | g
       ·exact .inl (h.symm.trans g.1)
       ·exact .inr (g.trans h)
     ·refine contOT_call Tryz.pl201 ((bareP w3.drew ((ht.fr f03 fun b hb h=>by have:=hP.tb;omega).no fd3) (hP3.fr0 fd3) hlt).mono ?_)
      rintro _ w4 ⟨rfl,f4,bv2,hP4,_,hor2⟩
      refine⟨fun h=>(by cases h),?_⟩
      have k4:=f4.at (show w3.drew.heap[w.heap.size]?=_ from k3) (by omega)
      have r6:=rd_d Tryz.agg23 Tryz.sz23 k4 hd32
      simp -implicitDefEqProofs only[go_sem,Nat.reduceEqDiff,Nat.reduceBEq,Nat.reduceAdd,gLa,gLz,gLs,r6,eq]
      refine⟨bv2,rfl,rfl,rfl,rfl,hP4,f03.trans ((fd3.mono fun _ _ h=>h.elim).trans f4),?_⟩
      rcases hor with h | h
      ·exact .inl h
      ·rcases hor2 with g | g
       ·exact .inl (h.symm.trans g.1)
       ·exact .inr (g.trans h)
    case rest =>
     rintro ev w5 ⟨bv2,e0,e3,e8,e44,hP5,f5,hor2⟩
     by_cases hde:d=emptD wd h
     ·have hb:(d == emptD wd h)=true:=by rw[beq_iff_eq];exact hde
      rw[hb] at e44
      simp -implicitDefEqProofs only[go_sem,Nat.reduceEqDiff,Nat.reduceBEq,Nat.reduceAdd,gLa,gLz,gLs,e44]
      rw[hck,if_pos hde]
      exact⟨rfl,f5,bv2,hP5,hor2⟩
     ·have hb:(d == emptD wd h)=false:=by rw[beq_eq_false_iff_ne];exact hde
      rw[hb] at e44
      rw[if_neg hde] at hck
      simp -implicitDefEqProofs only[go_sem,Nat.reduceEqDiff,Nat.reduceBEq,Nat.reduceAdd,gLa,gLz,gLs,e0,e3,e8,e44,c1]
      rw[← hsuc]
      exact⟨256 - (h+1),by omega,h+1,bv2,rfl,by omega,rfl,hP5,f5,by rw[hsuc];exact hck,hor2⟩
 ·have d1:decide ((h:Int)<256)=false:=decide_eq_false (by omega)
  obtain rfl:h=256:=by omega
  rw[List.drop_of_length_le (by unfold Wit.gsOf;rw[List.length_zip];omega)] at hck
  simp -implicitDefEqProofs only[go_sem,Nat.reduceEqDiff,Nat.reduceBEq,Nat.reduceAdd,gLa,gLz,gLs,d1]
  rw[hck]
  exact⟨rfl,fw,bv1,hP1,hor⟩
end C
end Go.V
end
