/- Helpers. -/
import Derived.Test.YtmenaeggoakppaaGreatDoorC37
import Derived.Test.YtmenaeggoakppaaGreatDoorC31
set_option linter.all false
set_option maxRecDepth 100000
set_option maxHeartbeats 8000000
open Go.V.Fr renaming ext→rX
open List renaming replicate→zG
open Nat renaming reduceEqDiff→jR,reduceBEq→jL,zero_add→zO,reduceAdd→vY
open Go.Value renaming cells→jS
open Go.V.Wit renaming poss→rW,nearH→rB,nearL→rM,gsOf→rP
namespace Go.V
open Go.Proofs.Tryz Go.V.Tryz
open Go.Proofs Sha
variable {bits d e k n:Bs} {wd:Int} {cb h:Nat} {a:Option Bs} {bv rv sv vv:Value}
section
namespace Wit
theorem gs_at {sums:List Bs}(hs:sums.length=(poss bits 256 0).length)(hh:h<256)(hb:mbit bits h=true) :
  (poss bits h 0).length<sums.length∧(poss bits (h+1) 0).length=(poss bits h 0).length+1∧(gsOf bits sums).drop (poss bits h 0).length=(h,sums.getD (poss bits h 0).length [])::(gsOf bits sums).drop (poss bits (h+1) 0).length:=by
 have h1:poss bits (h+1) 0=poss bits h 0++[h]:=by rw[poss_snoc,zO,if_neg (by rw[hb];decide)]
 have h2:(poss bits (h+1) 0).length=(poss bits h 0).length+1:=by rw[h1];simp
 have h3:poss bits 256 0=poss bits (h+1) 0++poss bits (255 - h) (h+1):=by rw[show 256=(h+1)+(255 - h) by omega,poss_add,zO]
 have h4:(poss bits h 0).length<(poss bits 256 0).length:=by rw[h3,lAp,h2];omega
 refine⟨by omega,h2,?_⟩;have hz:(gsOf bits sums).length=sums.length:=by unfold gsOf;rw[List.length_zip,hs,Nat.min_self]
 rw[List.drop_eq_getElem_cons (by omega),h2]
 congr 1
 have hg:(poss bits 256 0)[(poss bits h 0).length]'h4=h:=by
  have:(poss bits 256 0)[(poss bits h 0).length]?=some h:=by
   rw[h3,List.getElem?_append_left (by omega),h1,List.getElem?_append_right (Nat.le_refl _),Nat.sub_self];rfl
  rw[List.getElem?_eq_getElem h4]at this;exact Option.some.inj this
 unfold gsOf;rw[List.getElem_zip,hg,qQl _ (by omega)]
theorem gs_skip (hb:mbit bits h=false):(poss bits (h+1) 0).length=(poss bits h 0).length:=by rw[poss_snoc,zO,if_pos hb,List.append_nil]
end Wit
structure CkP (w:World) (cb:Nat) (wd:Int) (k root:Bs) (a:Option Bs) (bits:Bs) (sums:List Bs) (rv vv sv bv:Value) (e:Bs):Prop where
 ck:Ck w cb wd k rv root (prL a.isSome vv bits sv) e bv
 hb:bits.length=32
 vl:By w vv (a.getD [])
 sm:RdD w sv sums
 bl:Bl w cb wd bv
 vn:∀ b,qQb vv=some b→cb<b
 sn:∀ b,qQb sv=some b→cb<b
 le:∀ v,a=some v→v.length≤128
 sl:sums.length=(rW bits 256 0).length
 tb:5≤cb
 vlt:∀ b,qQb vv=some b→b<w.heap.size
 slt:∀ b,qQb sv=some b→b<w.heap.size
section
variable {w w':World} {cb:Nat} {wd:Int} {k root:Bs} {a:Option Bs} {bits:Bs} {sums:List Bs} {rv vv sv bv:Value} {e:Bs}
theorem CkP.fr0 (h:CkP w cb wd k root a bits sums rv vv sv bv e)(f:No w w'):CkP w' cb wd k root a bits sums rv vv sv bv e :=
 ⟨h.ck.fr0 f,h.hb,h.vl.fr0 f,h.sm.fr0 f,h.bl.fr0 f,h.vn,h.sn,h.le,h.sl,h.tb,fun b hb=>by have:=h.vlt b hb;have:=f.size;omega,fun b hb=>by have:=h.slt b hb;have:=f.size;omega⟩
theorem CkP.frC (h:CkP w cb wd k root a bits sums rv vv sv bv e)(f:Fr (fun b=>b=cb) w w'){e':Bs}{bv':Value}(hC:Ck w' cb wd k rv root (prL a.isSome vv bits sv) e' bv')(hB:Bl w' cb wd bv'):CkP w' cb wd k root a bits sums rv vv sv bv' e' :=
 ⟨hC,h.hb,h.vl.fr f fun b hb _ e=>by have:=h.vn b hb;omega,h.sm.fr f fun b hb _ e=>by have:=h.sn b hb;omega,hB,h.vn,h.sn,h.le,h.sl,h.tb,fun b hb=>by have:=h.vlt b hb;have:=f.size;omega,fun b hb=>by have:=h.slt b hb;have:=f.size;omega⟩
theorem CkP.bits68 (h:CkP w cb wd k root a bits sums rv vv sv bv e):∀ i,i<32→rdO prog 5 w cb (66+2+i)=some (u8 (bits.getD i 0)):=fun i hi=>h.ck.bit h.hb hi
theorem CkP.frF {F:Nat→Prop}(h:CkP w cb wd k root a bits sums rv vv sv bv e)(f:Fr F w w')(h1:¬ F cb)(h2:∀ b,F b→qQb vv≠some b)(h3:∀ b,F b→qQb sv≠some b)(h4:∀ b,F b→qQb bv≠some b):CkP w' cb wd k root a bits sums rv vv sv bv e :=
 ⟨h.ck.fr f h1,h.hb,h.vl.fr f fun b hb _ hF=>h2 b hF hb,h.sm.fr f fun b hb _ hF=>h3 b hF hb,h.bl.imp id fun h'=>⟨h'.1.fr f fun b hb _ hF=>h4 b hF hb,h'.2⟩,h.vn,h.sn,h.le,h.sl,h.tb,fun b hb=>by have:=h.vlt b hb;have:=f.size;omega,fun b hb=>by have:=h.slt b hb;have:=f.size;omega⟩
end
namespace C
def RdQ (w0:World)(cb:Nat)(wd:Int)(k root:Bs)(rv:Value)(e:Bs)(bv:Value)(y:Option (Option Bs × Bs × List Bs))(r:Value)(w':World):Prop:=Fr (fun b=>b=cb) w0 w'∧match y with
 | none=>r=.int .i64 120
 | some (a,bits,sums)=>r=.int .i64 0∧∃ vv sv,CkP w' cb wd k root a bits sums rv vv sv bv e
theorem cread (w0:World){root:Bs}{p:List Value}{raw:Bs}(hC:Ck w0 cb wd k rv root p e bv)(hB:Bl w0 cb wd bv)(hcb:5≤cb)(hr:By w0 rv raw)(hl:raw.length≤2 ^ 50) :
  Fn prog 151 #[pt cb 0] w0 (RdQ w0 cb wd k root rv e bv (Wit.decP raw)):=by
 refine go151 (by simp) ?_;have r1:=hC.raw;simp -implicitDefEqProofs only[go_sem,jR,Tryz.f151,r1];refine qQa pl66 ((decode w0 hr hl).mono ?_);rintro r w2 ⟨f2,hm⟩;unfold RdQ;have hlt:=hC.lt
 cases hd:Wit.decP raw with
 | none =>
  rw[hd]at hm;subst hm;obtain⟨w3,q3,hC3,f3⟩:=(hC.fr0 f2).putP (p':=prL false (.slice .none 0 0) (zG 32 0) (.slice .none 0 0)) (qZc (by simp)) (prL_one rfl rfl);simp -implicitDefEqProofs only[go_sem,jR,gLa,gLz,gLs,q3];exact⟨(f2.mono fun _ _ h=>h.elim).trans f3,trivial⟩
 | some y =>
  obtain⟨a,bits,sums⟩:=y;rw[hd]at hm;obtain⟨vv,sv,rfl,hv,hs,hvo,hso,hvb,hsb⟩:=hm;obtain⟨h1,h2,h3,h4⟩:=Wit.decP_ok hd;obtain⟨w3,q3,hC3,f3⟩:=(hC.fr0 f2).putP (p':=prL a.isSome vv bits sv) (qZc h1) (prL_one hvo hso);simp -implicitDefEqProofs only[go_sem,jR,gLa,gLz,gLs,q3];have hvn:∀ b,qQb vv=some b→cb<b:=fun b hb=>by have:=(hvb b hb).1;omega
  have hsn:∀ b,qQb sv=some b→cb<b:=fun b hb=>by have:=(hsb b hb).1;omega
  exact⟨(f2.mono fun _ _ h=>h.elim).trans f3,vv,sv,hC3,h1,hv.fr f3 fun b hb _ e=>by have:=hvn b hb;omega,hs.fr f3 fun b hb _ e=>by have:=hsn b hb;omega,(hB.fr0 f2).frC f3,hvn,hsn,h4,h2,hcb,fun b hb=>by have:=(hvb b hb).2;have:=f3.size;omega,fun b hb=>by have:=(hsb b hb).2;have:=f3.size;omega⟩
theorem bareP (w0:World)(ht:Tabs w0){k root:Bs}{sums:List Bs}(hP:CkP w0 cb wd k root a bits sums rv vv sv bv e)(hh:h<256) :
  Fn prog 201 #[pt cb 0,.int .i64 (h:Nat)] w0 fun v w'=>v=dg (emptD wd h)∧Fr (fun b=>b=cb) w0 w'∧∃ bv',CkP w' cb wd k root a bits sums rv vv sv bv' e∧RdD w' bv' (empts wd 256)∧((bv=.slice .none 0 0∧∀ b,qQb bv'=some b→w0.heap.size≤b)∨bv'=bv) :=
 (bare w0 ht hP.ck hP.bl hP.tb hh).mono fun v w' ⟨h1,h2,bv',h3,h4,h5,h6⟩=>⟨h1,h2,bv',hP.frC h2 h3 (.inr ⟨h4,h5⟩),h4,h6⟩
def tyI (w0:World)(cb:Nat)(wd:Int)(k root:Bs)(a:Option Bs)(bits:Bs)(sums:List Bs)(rv vv sv:Value)(e:Bs)(bv0:Value)(n:Nat)(vs:List Value)(w:World):Prop :=
 ∃ (h:Nat) (bv:Value),vs=[pt cb 0,.int .i64 ((rW bits h 0).length:Nat),.int .i64 (h:Nat)]∧h≤256∧n=256 - h∧CkP w cb wd k root a bits sums rv vv sv bv e∧Fr (fun b=>b=cb) w0 w∧Wit.chk wd (rP bits sums)=Wit.chk wd ((rP bits sums).drop (rW bits h 0).length)∧(bv0=.slice .none 0 0∨bv=bv0)
def tyJ (w3:World)(cb db W:Nat)(at' h:Nat)(d:Bs)(sl:Value)(n:Nat)(vs:List Value)(w:World):Prop :=
 ∃ (j:Nat),vs=[pt cb 0,.int .i64 (at':Nat),.int .i64 (h:Nat),pt db 0,.int .i64 (h:Nat),sl,.int .i64 ((32 - W:Nat):Int),.int .i64 (j:Nat)]∧j≤32 - W∧n=32 - W - j∧(∀ q,W≤q→q<W+j→d.getD q 0=0)∧w=w3
def tyK (w0:World)(cb:Nat)(wd:Int)(k root:Bs)(a:Option Bs)(bits:Bs)(sums:List Bs)(rv vv sv:Value)(e:Bs)(bv:Value)(h at1:Nat)(q:Bool)(x0 x3 x8 x44:Value)(w':World):Prop :=
 ∃ bv',x0=pt cb 0∧x3=.int .i64 (at1:Nat)∧x8=.int .i64 (h:Nat)∧x44=.bool q∧CkP w' cb wd k root a bits sums rv vv sv bv' e∧Fr (fun b=>b=cb) w0 w'∧(bv=.slice .none 0 0∨bv'=bv)
theorem tidy (w0:World)(ht:Tabs w0){k root:Bs}{sums:List Bs}(hP:CkP w0 cb wd k root a bits sums rv vv sv bv e){W:Nat}(hW:wd=W)(hW2:W≤32) :
  Fn prog 152 #[pt cb 0] w0 fun v w'=>v=.int .i64 (Wit.chk wd (rP bits sums))∧Fr (fun b=>b=cb) w0 w'∧∃ bv',CkP w' cb wd k root a bits sums rv vv sv bv' e∧(bv=.slice .none 0 0∨bv'=bv):=by
 refine go152 (by simp) ?_;simp -implicitDefEqProofs only[go_sem,Tryz.f152];refine loopD [0,3,8] (tyI w0 cb wd k root a bits sums rv vv sv e bv) 256 ⟨0,bv,rfl,by omega,rfl,hP,Fr.refl _ _,rfl,.inr rfl⟩ ?_;rintro _ vs w g ⟨h,bv1,rfl,hh,rfl,hP1,fw,hck,hor⟩;have hcl:=hP1.ck.lt;have hle:=Wit.poss_le bits h 0
 by_cases hlt:h<256
 ·have d1:=dTo ((h:Int)<256)
  have c1:=iSu (i:=h);simp -implicitDefEqProofs only[go_sem,jR,d1];refine qQa pl200 ((bitOf w hP1.bits68 hlt).mono ?_);rintro _ _ ⟨rfl,rfl⟩;rename_i w
  cases hm:Wit.mbit bits h with
  | false =>
   simp -implicitDefEqProofs only[go_sem,jR,Bool.not_false,c1];rw[← Wit.gs_skip hm]at *;exact⟨256 - (h+1),by omega,h+1,bv1,rfl,by omega,rfl,hP1,fw,hck,hor⟩
  | true =>
   obtain⟨hal,hsuc,hdr⟩:=Wit.gs_at hP1.sl hlt hm;rw[hdr,Wit.chk]at hck;rw[hsuc]at hck hdr;have hd32:(sums.getD (rW bits h 0).length []).length=32:=hP1.sm.1.getD hal;obtain⟨b,o,cap,he,_,hsb⟩:=hP1.sm.pos (by omega);have rs:=hP1.ck.sums hP1.hb;rw[he]at rs;have hsm:=hP1.sm;rw[he]at hsm;have rd:=hsm.get (P:=prog) agg23 sz23 hal;have y1:(0:Int)≤((rW bits h 0).length:Int)∧((rW bits h 0).length:Int)<((sums.length:Nat):Int):=by omega
   have c2:IntKind.i64.wrap (((rW bits h 0).length:Int)+1)=(((rW bits h 0).length+1:Nat):Int):=qXb (b:=1);generalize hdd:sums.getD (rW bits h 0).length []=d at *;obtain⟨w3,q3,k3,f3,s3⟩:=R.allocD w sz23 hd32;have hP3:=hP1.fr0 f3;have r3:=hP3.ck.wd0;rw[hW]at r3
   obtain⟨o5,psl,ho5⟩:∃ o5,qXf prog 23 (.pointer (some ⟨w.heap.size,0,.none⟩)) (some (.int .i64 (W:Int))) .none .none=some (.slice (some ⟨w.heap.size,o5,.none⟩) (32 - W) (32 - W))∧(W<32→o5=W):=by
    by_cases e:32=W
    ·refine⟨0,?_,fun h=>by omega⟩
     simp only[qXf,arr23,optB,Option.bind_some,sbO_nat hW2,sz5,Option.map_some];rw[if_pos e]
    ·refine⟨W,?_,fun _=>rfl⟩
     simp only[qXf,arr23,optB,Option.bind_some,sbO_nat hW2,sz5,Option.map_some];rw[if_neg e];simp[Addr.add];omega
   simp -implicitDefEqProofs only[go_sem,jR,vY,gLa,gLz,Bool.not_true,rs,y1,and_self,iTn,rd,jS,qQj,q3,c2,r3,psl];refine loopD [0,3,4,5,8,31,32,33] (tyJ w3 cb w.heap.size W ((rW bits h 0).length+1) h d (.slice (some ⟨w.heap.size,o5,.none⟩) (32 - W) (32 - W))) (32 - W) ⟨0,rfl,by omega,rfl,fun q h1 h2=>by omega,rfl⟩ ?_;rintro _ vs _ g ⟨j,rfl,hj,rfl,hz,rfl⟩;rename_i w3;have hcut:=cutD_zero hW hd32
   by_cases hjl:j<32 - W
   ·have d2:=dTo ((j:Int)<((32 - W:Nat):Int))
    have y2:=iBd (i:=j) (n:=32 - W);have c3:=iSu (i:=j);have ho:o5=W:=ho5 (by omega);subst ho;have rb:rdO prog 5 w3 w.heap.size (o5+j)=some (.int .u8 ((d.getD (o5+j) 0).toNat:Int)):=rd1 agg5 k3 (bl_at (by omega))
    by_cases hb0:d.getD (o5+j) 0=0
    ·have d3:((((d.getD (o5+j) 0).toNat:Nat):Int) != 0)=false:=by rw[hb0];rfl
     simp -implicitDefEqProofs only[go_sem,jR,y2,and_self,iTn,Nat.mul_one,rb,d3,c3];refine⟨32 - o5 - (j+1),by omega,j+1,rfl,by omega,rfl,fun q h1 h2=>?_,rfl⟩
     by_cases e:q=o5+j
     ·subst e;exact hb0
     ·exact hz q h1 (by omega)
    ·have d3:((((d.getD (o5+j) 0).toNat:Nat):Int) != 0)=true:=by
      rw[bne_iff_ne];intro h;apply hb0;apply BitVec.eq_of_toNat_eq;simpa using (by exact_mod_cast h:(d.getD (o5+j) 0).toNat=0)
     simp -implicitDefEqProofs only[go_sem,jR,y2,and_self,iTn,Nat.mul_one,rb,d3];rw[hck,if_pos fun e=>hb0 (hcut.1 e (o5+j) (by omega) (by omega))];exact⟨rfl,fw.trans (f3.mono fun _ _ h=>h.elim),bv1,hP3,hor⟩
   ·have d2:=dFo ((j:Int)<((32 - W:Nat):Int))
    have hcd:d=cutD wd d:=hcut.2 fun q h1 h2=>hz q h1 (by omega);rw[if_neg (fun e=>e hcd)]at hck;have f03:Fr (fun b=>b=cb) w0 w3:=fw.trans (f3.mono fun _ _ h=>h.elim);have hcb3:cb<w.heap.size:=hcl;have r5:=rd_d agg23 sz23 k3 hd32;have r5d:rdO prog 23 w3.drew w.heap.size 0=some (dg d):=r5;have fd3:No w3 w3.drew:=(Fr.refl _ _).drew;simp -implicitDefEqProofs only[go_sem,jR,d2];refine qJa (fun _=>false) (.one 1 (.one 2 (.two 0 (.row [3,4]) 3 (.row [0,4])))) rfl (by kernel_rfl) (by kernel_rfl) ?_;refine qXh (K:=fun ev w'=>tyK w0 cb wd k root a bits sums rv vv sv e bv h ((rW bits h 0).length+1) (d == emptD wd h) (ev 0) (ev 3) (ev 8) (ev 44) w') ?rest _ ?main
    case main =>
     have eq:=eqDig hd32 (qQr wd h);simp only[OT.row];simp -implicitDefEqProofs only[go_sem,jR,gLa,gLz,gLs,r5d];refine⟨?_,?_⟩
     ·refine qQg pl201 ((bareP w3.drew ((ht.fr f03 fun b hb h=>by have:=hP.tb;omega).no fd3) (hP3.fr0 fd3) hlt).mono ?_)
      rintro _ w4 ⟨rfl,f4,bv2,hP4,_,hor2⟩;refine⟨fun h=>(by cases h),?_⟩;simp -implicitDefEqProofs only[go_sem,jR,gLa,gLz,gLs,eq];refine⟨bv2,rfl,rfl,rfl,rfl,hP4,f03.trans ((fd3.mono fun _ _ h=>h.elim).trans f4),?_⟩
      rcases hor with h | h
      ·exact .inl h
      ·rcases hor2 with g | g
       ·exact .inl (h.symm.trans g.1)
       ·exact .inr (g.trans h)
     ·refine qQg pl201 ((bareP w3.drew ((ht.fr f03 fun b hb h=>by have:=hP.tb;omega).no fd3) (hP3.fr0 fd3) hlt).mono ?_)
      rintro _ w4 ⟨rfl,f4,bv2,hP4,_,hor2⟩;refine⟨fun h=>(by cases h),?_⟩;have k4:=f4.at (show w3.drew.heap[w.heap.size]?=_ from k3) (by omega);have r6:=rd_d agg23 sz23 k4 hd32;simp -implicitDefEqProofs only[go_sem,jR,gLa,gLz,gLs,r6,eq];refine⟨bv2,rfl,rfl,rfl,rfl,hP4,f03.trans ((fd3.mono fun _ _ h=>h.elim).trans f4),?_⟩
      rcases hor with h | h
      ·exact .inl h
      ·rcases hor2 with g | g
       ·exact .inl (h.symm.trans g.1)
       ·exact .inr (g.trans h)
    case rest =>
     rintro ev w5 ⟨bv2,e0,e3,e8,e44,hP5,f5,hor2⟩
     by_cases hde:d=emptD wd h
     ·have hb:(d == emptD wd h)=true:=by rw[beq_iff_eq];exact hde
      rw[hb]at e44;simp -implicitDefEqProofs only[go_sem,e44];rw[hck,if_pos hde];exact⟨rfl,f5,bv2,hP5,hor2⟩
     ·have hb:(d == emptD wd h)=false:=by rw[bFn];exact hde
      rw[hb]at e44;rw[if_neg hde]at hck;simp -implicitDefEqProofs only[go_sem,jR,e0,e3,e8,e44,c1];rw[← hsuc];exact⟨256 - (h+1),by omega,h+1,bv2,rfl,by omega,rfl,hP5,f5,by rw[hsuc];exact hck,hor2⟩
 ·have d1:=dFo ((h:Int)<256)
  obtain rfl:h=256:=by omega
  rw[List.drop_of_length_le (by unfold rP;rw[List.length_zip];omega)]at hck;simp -implicitDefEqProofs only[go_sem,jR,d1];rw[hck];exact⟨rfl,fw,bv1,hP1,hor⟩
end C
end
def sd1 (k d n:Bs)(h:Nat):Bs:=if kbit k (255 - h) then n else d
def sd2 (k d n:Bs)(h:Nat):Bs:=if kbit k (255 - h) then d else n
theorem sd1_len (hd:d.length=32)(hn:n.length=32):(sd1 k d n h).length=32:=by unfold sd1;split <;> assumption
theorem sd2_len (hd:d.length=32)(hn:n.length=32):(sd2 k d n h).length=32:=by unfold sd2;split <;> assumption
theorem sd_up (wd:Int)(k d n:Bs)(h:Nat):qQv wd (sd1 k d n h) (sd2 k d n h)=up wd k h d n:=by unfold sd1 sd2 up;split <;> rfl
theorem climb_succ (wd:Int)(k d0:Bs){l:List Bs}(hh:h<l.length):climb wd k 0 d0 (l.take (h+1))=up wd k h (climb wd k 0 d0 (l.take h)) (l.getD h []):=by
 rw[tSg hh,qKi,qQl _ hh,zO,lTk,Nat.min_eq_left (by omega)]
 rfl
theorem st2d {w:World}{b c:Nat}(hb:w.heap[b]?=some (.cells (bl (zG 32 0)) 23 (0, 0)))(hc:w.heap[c]?=some (.cells (bl (zG 32 0)) 23 (0, 0)))(hne:b≠c){x y:Bs}(hx:x.length=32)(hy:y.length=32) :
  ∃ u v,wrO prog 23 w b 0 (dg x)=some u∧wrO prog 23 u c 0 (dg y)=some v∧v.heap[b]?=some (.cells (bl x) 23 (0,0))∧v.heap[c]?=some (.cells (bl y) 23 (0,0))∧Fr (fun z=>z=b∨z=c) w v:=by
 have k2:=qQt (b:=b) (o:=.cells (bl x) 23 (0,0)) hc hne;have k1:=qQf (o:=.cells (bl x) 23 (0,0)) hb;have f1:Fr (fun z=>z=b∨z=c) w (put w b (.cells (bl x) 23 (0,0))):=(Fr.refl _ _).put (b:=b) _ fun _=>.inl rfl;exact⟨_,_,wr_d sz23 hb zl32 hx,wr_d sz23 k2 zl32 hy,qQt (b:=c) (o:=.cells (bl y) 23 (0,0)) k1 (fun h=>hne h.symm),qQf k2,f1.put (b:=c) _ fun _=>.inr rfl⟩
theorem qXs (wd:Int)(bits:Bs)(sums:List Bs):(rM wd bits sums).length=256:=by simp[rM]
theorem nearL_at (wd:Int)(bits:Bs)(sums:List Bs)(hh:h<256):(rM wd bits sums).getD h []=rB wd bits sums h:=by
 rw[qQl _ (by rw[qXs];exact hh)];simp[rM]
namespace C
theorem qJn (w0:World)(hk:k.length=32)(hd:d.length=32)(hn:n.length=32)(hh:h<256) :
  Fn prog 158 #[dg k,.int .i64 (h:Nat),dg d,dg n] w0 fun v w'=>v=.tuple #[dg (sd1 k d n h),dg (sd2 k d n h)]∧No w0 w' :=
 (sides w0 hk hd hn hh).mono fun v w' ⟨h1,h2⟩=>⟨by rw[h1];unfold sd1 sd2;split <;> rfl,h2⟩
structure Seen (w0:World) (cb:Nat) (vv sv bv:Value) (gs:FuncId) (bs cs:Array Value) (path near:Nat→Bs) (J:Nat→World→(Nat→Prop)→Prop) (F0:Nat→Prop) (C:World→Prop):Prop where
 pl:qQe prog gs=true
 init:J 0 w0 F0
 fr:∀ {h w w' F F'},J h w F→Fr F' w w'→(∀ b,F' b→¬ F b)→J h w' F
 lt:∀ {h w F},J h w F→∀ b,F b→b<w.heap.size
 run:∀ {h w F},h<256→J h w F→No w0 w0→C w→Fn prog gs (bs++#[.int .i64 (h:Nat),dg (path h),dg (near h)]++cs) w fun r w'=>r=.tuple #[]∧∃ F',J (h+1) w' F'∧Fr F w w'∧∀ b,F' b→F b∨w.heap.size≤b
 own:bv≠.slice .none 0 0∨∀ h w F,J h w F→∀ b,¬ F b
 safe:∀ b,F0 b→5≤b∧b≠cb∧qQb vv≠some b∧qQb sv≠some b∧qQb bv≠some b
def clI (w0:World)(cb:Nat)(wd:Int)(k root:Bs)(a:Option Bs)(bits:Bs)(sums:List Bs)(rv vv sv bv:Value)(e:Bs)(path:Nat→Bs)(J:Nat→World→(Nat→Prop)→Prop)(F0:Nat→Prop)(fv:Value)(n:Nat)(vs:List Value)(w:World):Prop :=
 ∃ (h:Nat) (bv':Value) (F:Nat→Prop),vs=[pt cb 0,fv,pt w0.heap.size 0,pt (w0.heap.size+1) 0,.int .i64 ((rW bits h 0).length:Nat),.int .i64 (h:Nat)]∧h≤256∧n=256 - h∧CkP w cb wd k root a bits sums rv vv sv bv' e∧(bv=.slice .none 0 0∨bv'=bv) ∧
  w.heap[w0.heap.size]?=some (.cells (bl (path h)) 23 (0,0))∧w.heap[w0.heap.size+1]?=some (.cells (bl (zG 32 0)) 23 (0,0))∧J h w F∧(∀ b,F b→5≤b∧b≠cb∧qQb vv≠some b∧qQb sv≠some b∧qQb bv'≠some b∧b≠w0.heap.size∧b≠w0.heap.size+1)∧Fr (fun b=>b=cb∨F0 b) w0 w∧(∀ b,F b→F0 b∨w0.heap.size≤b)∧(∀ b,qQb bv'=some b→b<w0.heap.size∨w0.heap.size+2≤b)∧(h=0∨bv'≠.slice .none 0 0)
def clK (w4:World)(cb db rb h at1:Nat)(fv:Value)(X Y:Bs)(x0 x2 x4 x6 x7 x12 x10 x11:Value)(w:World):Prop :=
 x0=pt cb 0∧x2=fv∧x4=pt db 0∧x6=pt rb 0∧x7=.int .i64 (at1:Nat)∧x12=.int .i64 (h:Nat)∧∃ b c,x10=pt b 0∧x11=pt c 0∧w.heap[b]?=some (.cells (bl X) 23 (0,0))∧w.heap[c]?=some (.cells (bl Y) 23 (0,0))∧No w4 w
theorem climb (w0:World)(ht:Tabs w0){k root:Bs}{sums:List Bs}(hP:CkP w0 cb wd k root a bits sums rv vv sv bv e){d0:Bs}(hd0:d0.length=32)
  {gs:FuncId} {bs cs:Array Value} {J:Nat→World→(Nat→Prop)→Prop} {F0:Nat→Prop}
  (hS:Seen w0 cb vv sv bv gs bs cs (fun h=>V.climb wd k 0 d0 ((rM wd bits sums).take h)) (rB wd bits sums) J F0 (fun w=>Tabs w∧∃ bv',CkP w cb wd k root a bits sums rv vv sv bv' e)) :
  Fn prog 155 #[pt cb 0,dg d0,.func (.func gs) bs cs] w0 fun v w'=>v=dg (V.climb wd k 0 d0 (rM wd bits sums))∧∃ bv' F,CkP w' cb wd k root a bits sums rv vv sv bv' e∧RdD w' bv' (empts wd 256)∧(bv=.slice .none 0 0∨bv'=bv)∧J 256 w' F∧Fr (fun b=>b=cb∨F0 b) w0 w'∧(∀ b,F b→F0 b∨w0.heap.size≤b):=by
 refine go155 (by simp) ?_;obtain⟨W,hW,f1,k1,k2,s1⟩:=qXe w0 (bl d0) 23 (bl (zG 32 0)) 23
 obtain⟨path,hpath⟩:∃ path:Nat→Bs,path=fun h=>V.climb wd k 0 d0 ((rM wd bits sums).take h):=⟨_,rfl⟩
 have hp0:path 0=d0:=by rw[hpath];rfl
 have hplen:∀ h,(path h).length=32:=fun h=>by rw[hpath];exact qZq _ _ _ _ _ hd0
 have hps:∀ h,h<256→path (h+1)=up wd k h (path h) (rB wd bits sums h):=fun h hh=>by
  rw[hpath];show V.climb wd k 0 d0 _=_;rw[climb_succ wd k d0 (by rw[qXs];exact hh),nearL_at wd bits sums hh]
 have hp256:path 256=V.climb wd k 0 d0 (rM wd bits sums):=by
  rw[hpath];show V.climb wd k 0 d0 _=_;rw[List.take_of_length_le (by rw[qXs];exact Nat.le_refl _)]
 rw[← hpath]at hS;rw[← hp256];clear hpath hp256;have hcl:=hP.ck.lt;have hlt0:=hS.lt hS.init
 have hbv0:∀ b,qQb bv=some b→b<w0.heap.size∨w0.heap.size+2≤b:=fun b hb=>by
  rcases hP.bl with h | ⟨h,_⟩
  ·rw[h]at hb;cases hb
  ·obtain⟨b',o,cap,e,_,hlt⟩:=h.pos (by rw[qQn];omega)
   rw[e]at hb;simp only[qQb,oSi]at hb;omega
 simp -implicitDefEqProofs only[go_sem,jR,vY,Tryz.f155,jS,qQj,hW];refine loopD [0,2,4,6,7,12] (clI w0 cb wd k root a bits sums rv vv sv bv e path J F0 (.func (.func gs) bs cs)) 256 ⟨0,bv,F0,rfl,by omega,rfl,hP.fr0 f1,.inr rfl,by rw[hp0];exact k1,k2,hS.fr hS.init f1 (fun _ h=>h.elim),fun b hb=>⟨(hS.safe b hb).1,(hS.safe b hb).2.1,(hS.safe b hb).2.2.1,(hS.safe b hb).2.2.2.1,(hS.safe b hb).2.2.2.2,by have:=hlt0 b hb;omega,by have:=hlt0 b hb;omega⟩,f1.mono fun _ _ h=>h.elim,fun b h=>.inl h,hbv0,.inl rfl⟩ ?_;rintro _ vs w g ⟨h,bv1,F,rfl,hh,rfl,hP1,hor,kd,kr,hJ,hF,fw,hFo,hbv1,hnn⟩;have hsz:w0.heap.size+2≤w.heap.size:=by have:=qQi kr;omega
 have htw:Tabs w:=ht.fr fw fun b hb hh=>by
  rcases hh with rfl | hh
  ·have:=hP.tb;omega
  ·have:=(hS.safe b hh).1;omega
 by_cases hlt:h<256
 ·have d1:=dTo ((h:Int)<256)
  have c1:=iSu (i:=h);have hle:=Wit.poss_le bits h 0;simp -implicitDefEqProofs only[go_sem,jR,d1];refine qQa pl201 ((bareP w htw hP1 hlt).mono ?_);rintro _ w2 ⟨rfl,f2,bv2,hP2,hRb,hor2⟩;have hJ2:J h w2 F:=hS.fr hJ f2 fun b hb hb'=>(hF b hb').2.1 hb;have s2:=f2.size;have k2d:=f2.at kd (by omega);have k2r:=f2.at kr (by omega)
  have hor3:bv=.slice .none 0 0∨bv2=bv:=by
   rcases hor with h | h
   ·exact .inl h
   ·rcases hor2 with g | g
    ·exact .inl (h.symm.trans g.1)
    ·exact .inr (g.trans h)
  have hbv2:∀ b,qQb bv2=some b→b<w0.heap.size∨w0.heap.size+2≤b:=fun b hb=>by
   rcases hor2 with g | g
   ·have:=g.2 b hb;omega
   ·rw[g]at hb;exact hbv1 b hb
  have hnil2:bv2≠.slice .none 0 0:=fun e=>by
   obtain⟨b',o,cap,e',_⟩:=hRb.pos (by rw[qQn];omega);rw[e]at e';cases e'
  have hF2:∀ b,F b→qQb bv2≠some b:=fun b hb=>by
   rcases hor2 with g | g
   ·rcases hS.own with h | h
    ·rcases hor with h' | h'
     ·exact absurd h' h
     ·rw[h']at g;exact absurd g.1 h
    ·exact absurd hb (h _ _ _ hJ b)
   ·rw[g];exact (hF b hb).2.2.2.2.1
  obtain⟨w3,q3,k3,f3,s3⟩:=R.allocD w2 sz23 (qQr wd h);have f03:Fr (fun b=>b=cb∨F0 b) w0 w3:=(fw.trans (f2.mono fun _ _ h=>.inl h)).trans (f3.mono fun _ _ h=>h.elim);have hP3:=hP2.fr0 f3;have hJ3:J h w3 F:=hS.fr hJ2 f3 fun _ h=>h.elim;have k3d:=f3.at k2d id;have k3r:=f3.at k2r id;have hF3:∀ b,F b→b<w2.heap.size:=fun b hb=>by have:=hS.lt hJ2 b hb;exact this
  simp -implicitDefEqProofs only[go_sem,jR,jS,qQj,q3];refine qQa pl200 ((bitOf w3 hP3.bits68 hlt).mono ?_);rintro _ _ ⟨rfl,rfl⟩;rename_i w3
  have hnl:(rB wd bits sums h).length=32:=by
   unfold rB;split
   ·exact qQr _ _
   ·rename_i hb
    obtain⟨hal,_⟩:=Wit.gs_at hP.sl hlt (by simpa using hb);exact hP.sm.1.getD hal
  have hdl:=hplen h;have l1:=sd1_len (k:=k) (h:=h) hdl hnl;have l2:=sd2_len (k:=k) (h:=h) hdl hnl;have hrun:∀ {w:World} {F:Nat→Prop},J h w F→(Tabs w∧∃ bv',CkP w cb wd k root a bits sums rv vv sv bv' e)→Fn prog gs (bs++#[.int .i64 (h:Nat),dg (path h),dg (rB wd bits sums h)]++cs) w fun r w'=>r=.tuple #[]∧∃ F',J (h+1) w' F'∧Fr F w w'∧∀ b,F' b→F b∨w.heap.size≤b:=fun hJ hC=>hS.run hlt hJ (Fr.refl _ _) hC;have hup:=(hps h hlt).trans (sd_up wd k (path h) (rB wd bits sums h) h).symm;have hplen1:=hplen (h+1);have hcb2:cb<w2.heap.size:=hP2.ck.lt
  cases hm:Wit.mbit bits h with
  | false =>
   have hnear:rB wd bits sums h=emptD wd h:=by unfold rB;rw[if_pos hm]
   have hsk:=Wit.gs_skip hm;rw[← hnear]at k3
   obtain⟨at1,hat1⟩:∃ at1,at1=(rW bits h 0).length:=⟨_,rfl⟩
   have hat2:at1=(rW bits (h+1) 0).length:=by rw[hat1,hsk]
   rw[← hat1];generalize rB wd bits sums h=N at *;have f24:No w2 w3:=f3;have k4:=k3
   have w4d:∃ w4,w4=w3:=⟨_,rfl⟩
   obtain⟨w4,hw4⟩:=w4d;rw[← hw4]at k4 f24 ⊢;have fw4:Fr (fun b=>b=cb∨F0 b) w0 w4:=(fw.trans (f2.mono fun _ _ h=>.inl h)).trans (f24.mono fun _ _ h=>h.elim);have hP4:=hP2.fr0 f24;have hJ4:J h w4 F:=hS.fr hJ2 f24 fun _ h=>h.elim;have k4d:=f24.at k2d id;have k4r:=f24.at k2r id;have s24:=f24.size
   have ht4:Tabs w4:=ht.fr fw4 fun b hb hh=>by
    rcases hh with rfl | hh
    ·have:=hP.tb;omega
    ·have:=(hS.safe b hh).1;omega
   have rpd:=rd_d agg23 sz23 k4d hdl;have rpn:=rd_d agg23 sz23 k4 hnl;simp -implicitDefEqProofs only[go_sem,jR,rpd,rpn];refine qQa hS.pl ((hrun hJ4 ⟨ht4,bv2,hP4⟩).mono ?_);rintro _ w5 ⟨rfl,F',hJ5,f5,hF5⟩;have hF4:∀ b,F b→b<w2.heap.size:=fun b hb=>hS.lt hJ2 b hb;have s45:=f5.size;have hP5:=hP4.frF f5 (fun h=>(hF cb h).2.1 rfl) (fun b h=>(hF b h).2.2.1) (fun b h=>(hF b h).2.2.2.1) hF2;have k5d:=f5.at k4d fun h=>(hF _ h).2.2.2.2.2.1 rfl;have k5r:=f5.at k4r fun h=>(hF _ h).2.2.2.2.2.2 rfl;have k5n:=f5.at k4 fun h=>by have:=hF4 _ h;omega
   have rk:=hP5.ck.key;have rkd:rdO prog 34 w5.drew cb 1=_:=rk;have rd4:=rd_d agg23 sz23 k5d hdl;have rd4d:rdO prog 23 w5.drew w0.heap.size 0=_:=rd4;have rn4:=rd_d agg23 sz23 k5n hnl;have rn4d:rdO prog 23 w5.drew w2.heap.size 0=_:=rn4;simp -implicitDefEqProofs only[go_sem];refine qJa (fun j=>j == 7 || (j == 11 || j == 12)) (.one 0 (.one 1 (.one 2 (.one 3 (.one 4 (.one 5 (.one 6 (.tri 7 (.one 8 (.one 9 (.one 10 (.two 11 (.row [12,13,14]) 12 (.row [11,13,14]))))) 11 (.two 7 (.row [8,9,10,12,13,14]) 12 (.row [7,8,9,10,13,14])) 12 (.two 7 (.row [8,9,10,11,13,14]) 11 (.row [7,8,9,10,13,14])))))))))) rfl (by kernel_rfl) (by kernel_rfl) ?_;refine qXh (K:=fun ev w=>clK w5 cb w0.heap.size (w0.heap.size+1) h at1 (.func (.func gs) bs cs) (sd1 k (path h) N h) (sd2 k (path h) N h) (ev 0) (ev 2) (ev 4) (ev 6) (ev 7) (ev 12) (ev 10) (ev 11) w) ?rest _ ?main
   case main =>
    have gd:No w5 w5.drew:=(Fr.refl _ _).drew;simp only[OT.row];simp -implicitDefEqProofs only[go_sem,jR,jL,gLa,gLz,gLs,jS,qQj,rkd,rd4d,rn4d];refine⟨?_,?_,?_⟩
    ·refine qQg pl158 ((qJn w5.drew hP5.ck.lk hdl hnl hlt).mono ?_)
     rintro _ wa ⟨rfl,ga⟩;refine⟨fun _=>rX ga,?_⟩;have Ga:=gd.trans ga;simp -implicitDefEqProofs only[go_sem,jR,jL,gLa,gLz,gLs,jS,qQj];obtain⟨wc,hwc,gc,kb,kc,sc⟩:=qXe wa (bl (zG 32 0)) 23 (bl (zG 32 0)) 23;have Gc:=Ga.trans gc;have sGa:=Ga.size;refine⟨?_,?_⟩
     ·obtain⟨u1,u2,q1,q2,z1,z2,gz⟩:=st2d kb kc (by omega) l1 l2
      simp -implicitDefEqProofs only[go_sem,jR,jL,gLa,gLz,gLs,hwc,q1,q2];exact⟨rfl,rfl,rfl,rfl,rfl,rfl,_,_,rfl,rfl,z1,z2,Gc.trans' gz (by intro z hz h;omega)⟩
     ·obtain⟨u1,u2,q1,q2,z1,z2,gz⟩:=st2d kc kb (by omega) l1 l2
      simp -implicitDefEqProofs only[go_sem,jR,jL,gLa,gLz,gLs,hwc,q1,q2];exact⟨rfl,rfl,rfl,rfl,rfl,rfl,_,_,rfl,rfl,z1,z2,Gc.trans' gz (by intro z hz h;omega)⟩
    ·refine⟨fun _=>Ext.alloc w5.drew _,?_⟩
     refine⟨?_,?_⟩
     ·have ga:No w5 (w5.alloc (.cells (bl (zG 32 0)) 23)).drew:=((Fr.refl _ _).alloc _).drew
      have ka:(w5.alloc (.cells (bl (zG 32 0)) 23)).drew.heap[w5.heap.size]?=_:=qQc w5 (.cells (bl (zG 32 0)) 23);generalize (w5.alloc (.cells (bl (zG 32 0)) 23)).drew=wa at *;refine qQg pl158 ((qJn wa hP5.ck.lk hdl hnl hlt).mono ?_);rintro _ wb ⟨rfl,gb⟩;refine⟨fun _=>rX gb,?_⟩;simp -implicitDefEqProofs only[go_sem,jR,jL,gLa,gLz,gLs,jS,qQj];obtain⟨wc,hwc,gc,kc,sc⟩:=qQm wb (bl (zG 32 0)) 23;have Gc:=ga.trans (gb.trans gc);have ka2:=gc.at (gb.at ka id) id;have lne:=qQi (gb.at ka id);obtain⟨u1,u2,q1,q2,z1,z2,gz⟩:=st2d ka2 kc (by omega) l1 l2;simp -implicitDefEqProofs only[go_sem,jR,jL,gLa,gLz,gLs,hwc,q1,q2];exact⟨rfl,rfl,rfl,rfl,rfl,rfl,_,_,rfl,rfl,z1,z2,Gc.trans' gz (by intro z hz h;omega)⟩
     ·refine⟨fun _=>Ext.alloc (w5.alloc (.cells (bl (zG 32 0)) 23)).drew _,?_⟩
      obtain⟨wb,hwb,gb,ka,kb,sb⟩:=qXe w5 (bl (zG 32 0)) 23 (bl (zG 32 0)) 23;rw[hwb];refine qQg pl158 ((qJn wb.drew hP5.ck.lk hdl hnl hlt).mono ?_);rintro _ wc ⟨rfl,gc⟩;refine⟨fun _=>rX gc,?_⟩;have Gc:=gb.drew.trans gc;have ka2:=gc.at (show wb.drew.heap[w5.heap.size]?=_ from ka) id;have kb2:=gc.at (show wb.drew.heap[w5.heap.size+1]?=_ from kb) id;obtain⟨u1,u2,q1,q2,z1,z2,gz⟩:=st2d ka2 kb2 (by omega) l1 l2;simp -implicitDefEqProofs only[go_sem,jR,jL,gLa,gLz,gLs,q1,q2];exact⟨rfl,rfl,rfl,rfl,rfl,rfl,_,_,rfl,rfl,z1,z2,Gc.trans' gz (by intro z hz h;omega)⟩
    ·refine⟨fun _=>Ext.alloc w5.drew _,?_⟩
     refine⟨?_,?_⟩
     ·have ga:No w5 (w5.alloc (.cells (bl (zG 32 0)) 23)).drew:=((Fr.refl _ _).alloc _).drew
      have ka:(w5.alloc (.cells (bl (zG 32 0)) 23)).drew.heap[w5.heap.size]?=_:=qQc w5 (.cells (bl (zG 32 0)) 23);generalize (w5.alloc (.cells (bl (zG 32 0)) 23)).drew=wa at *;refine qQg pl158 ((qJn wa hP5.ck.lk hdl hnl hlt).mono ?_);rintro _ wb ⟨rfl,gb⟩;refine⟨fun _=>rX gb,?_⟩;simp -implicitDefEqProofs only[go_sem,jR,jL,gLa,gLz,gLs,jS,qQj];obtain⟨wc,hwc,gc,kc,sc⟩:=qQm wb (bl (zG 32 0)) 23;have Gc:=ga.trans (gb.trans gc);have ka2:=gc.at (gb.at ka id) id;have lne:=qQi (gb.at ka id);obtain⟨u1,u2,q1,q2,z1,z2,gz⟩:=st2d kc ka2 (by omega) l1 l2;simp -implicitDefEqProofs only[go_sem,jR,jL,gLa,gLz,gLs,hwc,q1,q2];exact⟨rfl,rfl,rfl,rfl,rfl,rfl,_,_,rfl,rfl,z1,z2,Gc.trans' gz (by intro z hz h;omega)⟩
     ·refine⟨fun _=>Ext.alloc (w5.alloc (.cells (bl (zG 32 0)) 23)).drew _,?_⟩
      obtain⟨wb,hwb,gb,ka,kb,sb⟩:=qXe w5 (bl (zG 32 0)) 23 (bl (zG 32 0)) 23;rw[hwb];refine qQg pl158 ((qJn wb.drew hP5.ck.lk hdl hnl hlt).mono ?_);rintro _ wc ⟨rfl,gc⟩;refine⟨fun _=>rX gc,?_⟩;have Gc:=gb.drew.trans gc;have ka2:=gc.at (show wb.drew.heap[w5.heap.size]?=_ from ka) id;have kb2:=gc.at (show wb.drew.heap[w5.heap.size+1]?=_ from kb) id;obtain⟨u1,u2,q1,q2,z1,z2,gz⟩:=st2d kb2 ka2 (by omega) l1 l2;simp -implicitDefEqProofs only[go_sem,jR,jL,gLa,gLz,gLs,q1,q2];exact⟨rfl,rfl,rfl,rfl,rfl,rfl,_,_,rfl,rfl,z1,z2,Gc.trans' gz (by intro z hz h;omega)⟩
   case rest =>
    rintro ev w6 ⟨e0,e2,e4,e6,e7,e12,b10,b11,e10,e11,k10,k11,f6⟩;have hP6:=hP5.fr0 f6;have k6d:=f6.at k5d id;have k6r:=f6.at k5r id;have r6w:=hP6.ck.wd0;have r6wd:rdO prog 3 w6.drew cb 0=_:=r6w;have r10:=rd_d agg23 sz23 k10 l1;have r10d:rdO prog 23 w6.drew b10 0=_:=r10;have r11:=rd_d agg23 sz23 k11 l2;have r11d:rdO prog 23 w6.drew b11 0=_:=r11
    have f45:Fr (fun b=>b=cb∨F0 b) w0 w5:=fw4.trans' f5 fun b hb h=>by
     rcases hFo b h with h' | h'
     ·exact .inr h'
     ·omega
    have ht6:Tabs w6:=(ht.fr f45 fun b hb hh=>by
     rcases hh with rfl | hh
     ·have:=hP.tb;omega
     ·have:=(hS.safe b hh).1;omega).no f6
    simp -implicitDefEqProofs only[go_sem,jR,jL,e0,e10,e11,r6wd,r10d,r11d];refine qQa pl110 ((branch w6.drew (ht6.no (Fr.refl _ _).drew) wd l1 l2).mono ?_);rintro _ w7 ⟨rfl,f7⟩;have f67:No w6 w7:=(Fr.refl _ _).drew.trans f7;rw[← hup];have k7d:=f67.at k6d id;have q7:=wr_d sz23 k7d hdl hplen1;simp -implicitDefEqProofs only[go_sem,jR,q7,c1,e0,e2,e4,e6,e7,e12];have f8:Fr (fun b=>b=w0.heap.size) w7 (put w7 w0.heap.size (.cells (bl (path (h+1))) 23 (0,0))):=(Fr.refl _ _).put (b:=w0.heap.size) _ fun _=>rfl;have f58:No w5 w7:=f6.trans f67;have s57:=f58.size
    have hFn:∀ b,F' b→5≤b∧b≠cb∧qQb vv≠some b∧qQb sv≠some b∧qQb bv2≠some b∧b≠w0.heap.size∧b≠w0.heap.size+1:=fun b hb=>by
     rcases hF5 b hb with h' | h'
     ·obtain⟨a1,a2,a3,a4,_,a6,a7⟩:=hF b h'
      exact⟨a1,a2,a3,a4,hF2 b h',a6,a7⟩
     ·refine⟨by have:=hP.tb;omega,by omega,fun hb=>?_,fun hb=>?_,fun hb=>?_,by omega,by omega⟩
      ·have:=hP2.vlt b hb;omega
      ·have:=hP2.slt b hb;omega
      ·rcases hP4.bl with h | ⟨h,_⟩
       ·rw[h]at hb;cases hb
       ·obtain⟨b',o',cap',e',_,hlt'⟩:=h.pos (by rw[qQn];omega)
        rw[e']at hb;simp only[qQb,oSi]at hb;omega
    refine⟨256 - (h+1),by omega,h+1,bv2,F',by rw[hat2],by omega,rfl,(hP6.fr0 f67).frF f8 (by omega) (fun b hb h=>by have:=hP.vlt b h;omega) (fun b hb h=>by have:=hP.slt b h;omega) (fun b hb h=>by have:=hbv2 b h;omega),hor3,qQf k7d,f8.at (f67.at k6r id) (by omega),hS.fr (hS.fr hJ5 f58 fun _ h=>h.elim) f8 (fun b hb hb'=>by subst hb;exact (hFn _ hb').2.2.2.2.2.1 rfl),hFn,?_,fun b hb=>?_,hbv2,.inr hnil2⟩
    ·exact (f45.trans (f58.mono fun _ _ h=>h.elim)).trans' f8 fun b hb h=>by omega
    ·rcases hF5 b hb with h' | h'
     ·exact hFo b h'
     ·exact .inr (by omega)
  | true =>
   obtain⟨hal,hsuc,_⟩:=Wit.gs_at hP3.sl hlt hm;have hnear:rB wd bits sums h=sums.getD (rW bits h 0).length []:=by unfold rB;rw[if_neg (by rw[hm];decide)]
   obtain⟨b,o,cap,he,_,hsb⟩:=hP3.sm.pos (by omega);have rs:=hP3.ck.sums hP3.hb;rw[he]at rs;have hsm:=hP3.sm;rw[he]at hsm;have rd:=hsm.get (P:=prog) agg23 sz23 hal;have y1:(0:Int)≤((rW bits h 0).length:Int)∧((rW bits h 0).length:Int)<((sums.length:Nat):Int):=by omega
   have c2:IntKind.i64.wrap (((rW bits h 0).length:Int)+1)=(((rW bits h 0).length+1:Nat):Int):=qXb (b:=1);rw[← hnear]at rd;have q4:=wr_d sz23 k3 (qQr wd h) hnl
   obtain⟨at1,hat1⟩:∃ at1,at1=(rW bits h 0).length+1:=⟨_,rfl⟩
   have hat2:at1=(rW bits (h+1) 0).length:=by rw[hat1,hsuc]
   rw[← hat1]at c2;generalize rB wd bits sums h=N at *;have f24:No w2 (put w3 w2.heap.size (.cells (bl N) 23 (0,0))):=f3.put (b:=w2.heap.size) _ fun h=>absurd h (Nat.lt_irrefl _);have k4:=qQf (o:=.cells (bl N) 23 (0,0)) k3;generalize put w3 w2.heap.size (.cells (bl N) 23 (0,0))=w4 at *;have fw4:Fr (fun b=>b=cb∨F0 b) w0 w4:=(fw.trans (f2.mono fun _ _ h=>.inl h)).trans (f24.mono fun _ _ h=>h.elim);have hP4:=hP2.fr0 f24;have hJ4:J h w4 F:=hS.fr hJ2 f24 fun _ h=>h.elim;have k4d:=f24.at k2d id;have k4r:=f24.at k2r id;have s24:=f24.size
   have ht4:Tabs w4:=ht.fr fw4 fun b hb hh=>by
    rcases hh with rfl | hh
    ·have:=hP.tb;omega
    ·have:=(hS.safe b hh).1;omega
   have rpd:=rd_d agg23 sz23 k4d hdl;have rpn:=rd_d agg23 sz23 k4 hnl;simp -implicitDefEqProofs only[go_sem,jR,vY,rs,y1,and_self,iTn,rd,q4,c2,rpd,rpn];refine qQa hS.pl ((hrun hJ4 ⟨ht4,bv2,hP4⟩).mono ?_);rintro _ w5 ⟨rfl,F',hJ5,f5,hF5⟩;have hF4:∀ b,F b→b<w2.heap.size:=fun b hb=>hS.lt hJ2 b hb;have s45:=f5.size;have hP5:=hP4.frF f5 (fun h=>(hF cb h).2.1 rfl) (fun b h=>(hF b h).2.2.1) (fun b h=>(hF b h).2.2.2.1) hF2;have k5d:=f5.at k4d fun h=>(hF _ h).2.2.2.2.2.1 rfl;have k5r:=f5.at k4r fun h=>(hF _ h).2.2.2.2.2.2 rfl;have k5n:=f5.at k4 fun h=>by have:=hF4 _ h;omega
   have rk:=hP5.ck.key;have rkd:rdO prog 34 w5.drew cb 1=_:=rk;have rd4:=rd_d agg23 sz23 k5d hdl;have rd4d:rdO prog 23 w5.drew w0.heap.size 0=_:=rd4;have rn4:=rd_d agg23 sz23 k5n hnl;have rn4d:rdO prog 23 w5.drew w2.heap.size 0=_:=rn4;simp -implicitDefEqProofs only[go_sem];refine qJa (fun j=>j == 7 || (j == 11 || j == 12)) (.one 0 (.one 1 (.one 2 (.one 3 (.one 4 (.one 5 (.one 6 (.tri 7 (.one 8 (.one 9 (.one 10 (.two 11 (.row [12,13,14]) 12 (.row [11,13,14]))))) 11 (.two 7 (.row [8,9,10,12,13,14]) 12 (.row [7,8,9,10,13,14])) 12 (.two 7 (.row [8,9,10,11,13,14]) 11 (.row [7,8,9,10,13,14])))))))))) rfl (by kernel_rfl) (by kernel_rfl) ?_;refine qXh (K:=fun ev w=>clK w5 cb w0.heap.size (w0.heap.size+1) h at1 (.func (.func gs) bs cs) (sd1 k (path h) N h) (sd2 k (path h) N h) (ev 0) (ev 2) (ev 4) (ev 6) (ev 7) (ev 12) (ev 10) (ev 11) w) ?rest _ ?main
   case main =>
    have gd:No w5 w5.drew:=(Fr.refl _ _).drew;simp only[OT.row];simp -implicitDefEqProofs only[go_sem,jR,jL,gLa,gLz,gLs,jS,qQj,rkd,rd4d,rn4d];refine⟨?_,?_,?_⟩
    ·refine qQg pl158 ((qJn w5.drew hP5.ck.lk hdl hnl hlt).mono ?_)
     rintro _ wa ⟨rfl,ga⟩;refine⟨fun _=>rX ga,?_⟩;have Ga:=gd.trans ga;simp -implicitDefEqProofs only[go_sem,jR,jL,gLa,gLz,gLs,jS,qQj];obtain⟨wc,hwc,gc,kb,kc,sc⟩:=qXe wa (bl (zG 32 0)) 23 (bl (zG 32 0)) 23;have Gc:=Ga.trans gc;have sGa:=Ga.size;refine⟨?_,?_⟩
     ·obtain⟨u1,u2,q1,q2,z1,z2,gz⟩:=st2d kb kc (by omega) l1 l2
      simp -implicitDefEqProofs only[go_sem,jR,jL,gLa,gLz,gLs,hwc,q1,q2];exact⟨rfl,rfl,rfl,rfl,rfl,rfl,_,_,rfl,rfl,z1,z2,Gc.trans' gz (by intro z hz h;omega)⟩
     ·obtain⟨u1,u2,q1,q2,z1,z2,gz⟩:=st2d kc kb (by omega) l1 l2
      simp -implicitDefEqProofs only[go_sem,jR,jL,gLa,gLz,gLs,hwc,q1,q2];exact⟨rfl,rfl,rfl,rfl,rfl,rfl,_,_,rfl,rfl,z1,z2,Gc.trans' gz (by intro z hz h;omega)⟩
    ·refine⟨fun _=>Ext.alloc w5.drew _,?_⟩
     refine⟨?_,?_⟩
     ·have ga:No w5 (w5.alloc (.cells (bl (zG 32 0)) 23)).drew:=((Fr.refl _ _).alloc _).drew
      have ka:(w5.alloc (.cells (bl (zG 32 0)) 23)).drew.heap[w5.heap.size]?=_:=qQc w5 (.cells (bl (zG 32 0)) 23);generalize (w5.alloc (.cells (bl (zG 32 0)) 23)).drew=wa at *;refine qQg pl158 ((qJn wa hP5.ck.lk hdl hnl hlt).mono ?_);rintro _ wb ⟨rfl,gb⟩;refine⟨fun _=>rX gb,?_⟩;simp -implicitDefEqProofs only[go_sem,jR,jL,gLa,gLz,gLs,jS,qQj];obtain⟨wc,hwc,gc,kc,sc⟩:=qQm wb (bl (zG 32 0)) 23;have Gc:=ga.trans (gb.trans gc);have ka2:=gc.at (gb.at ka id) id;have lne:=qQi (gb.at ka id);obtain⟨u1,u2,q1,q2,z1,z2,gz⟩:=st2d ka2 kc (by omega) l1 l2;simp -implicitDefEqProofs only[go_sem,jR,jL,gLa,gLz,gLs,hwc,q1,q2];exact⟨rfl,rfl,rfl,rfl,rfl,rfl,_,_,rfl,rfl,z1,z2,Gc.trans' gz (by intro z hz h;omega)⟩
     ·refine⟨fun _=>Ext.alloc (w5.alloc (.cells (bl (zG 32 0)) 23)).drew _,?_⟩
      obtain⟨wb,hwb,gb,ka,kb,sb⟩:=qXe w5 (bl (zG 32 0)) 23 (bl (zG 32 0)) 23;rw[hwb];refine qQg pl158 ((qJn wb.drew hP5.ck.lk hdl hnl hlt).mono ?_);rintro _ wc ⟨rfl,gc⟩;refine⟨fun _=>rX gc,?_⟩;have Gc:=gb.drew.trans gc;have ka2:=gc.at (show wb.drew.heap[w5.heap.size]?=_ from ka) id;have kb2:=gc.at (show wb.drew.heap[w5.heap.size+1]?=_ from kb) id;obtain⟨u1,u2,q1,q2,z1,z2,gz⟩:=st2d ka2 kb2 (by omega) l1 l2;simp -implicitDefEqProofs only[go_sem,jR,jL,gLa,gLz,gLs,q1,q2];exact⟨rfl,rfl,rfl,rfl,rfl,rfl,_,_,rfl,rfl,z1,z2,Gc.trans' gz (by intro z hz h;omega)⟩
    ·refine⟨fun _=>Ext.alloc w5.drew _,?_⟩
     refine⟨?_,?_⟩
     ·have ga:No w5 (w5.alloc (.cells (bl (zG 32 0)) 23)).drew:=((Fr.refl _ _).alloc _).drew
      have ka:(w5.alloc (.cells (bl (zG 32 0)) 23)).drew.heap[w5.heap.size]?=_:=qQc w5 (.cells (bl (zG 32 0)) 23);generalize (w5.alloc (.cells (bl (zG 32 0)) 23)).drew=wa at *;refine qQg pl158 ((qJn wa hP5.ck.lk hdl hnl hlt).mono ?_);rintro _ wb ⟨rfl,gb⟩;refine⟨fun _=>rX gb,?_⟩;simp -implicitDefEqProofs only[go_sem,jR,jL,gLa,gLz,gLs,jS,qQj];obtain⟨wc,hwc,gc,kc,sc⟩:=qQm wb (bl (zG 32 0)) 23;have Gc:=ga.trans (gb.trans gc);have ka2:=gc.at (gb.at ka id) id;have lne:=qQi (gb.at ka id);obtain⟨u1,u2,q1,q2,z1,z2,gz⟩:=st2d kc ka2 (by omega) l1 l2;simp -implicitDefEqProofs only[go_sem,jR,jL,gLa,gLz,gLs,hwc,q1,q2];exact⟨rfl,rfl,rfl,rfl,rfl,rfl,_,_,rfl,rfl,z1,z2,Gc.trans' gz (by intro z hz h;omega)⟩
     ·refine⟨fun _=>Ext.alloc (w5.alloc (.cells (bl (zG 32 0)) 23)).drew _,?_⟩
      obtain⟨wb,hwb,gb,ka,kb,sb⟩:=qXe w5 (bl (zG 32 0)) 23 (bl (zG 32 0)) 23;rw[hwb];refine qQg pl158 ((qJn wb.drew hP5.ck.lk hdl hnl hlt).mono ?_);rintro _ wc ⟨rfl,gc⟩;refine⟨fun _=>rX gc,?_⟩;have Gc:=gb.drew.trans gc;have ka2:=gc.at (show wb.drew.heap[w5.heap.size]?=_ from ka) id;have kb2:=gc.at (show wb.drew.heap[w5.heap.size+1]?=_ from kb) id;obtain⟨u1,u2,q1,q2,z1,z2,gz⟩:=st2d kb2 ka2 (by omega) l1 l2;simp -implicitDefEqProofs only[go_sem,jR,jL,gLa,gLz,gLs,q1,q2];exact⟨rfl,rfl,rfl,rfl,rfl,rfl,_,_,rfl,rfl,z1,z2,Gc.trans' gz (by intro z hz h;omega)⟩
   case rest =>
    rintro ev w6 ⟨e0,e2,e4,e6,e7,e12,b10,b11,e10,e11,k10,k11,f6⟩;have hP6:=hP5.fr0 f6;have k6d:=f6.at k5d id;have k6r:=f6.at k5r id;have r6w:=hP6.ck.wd0;have r6wd:rdO prog 3 w6.drew cb 0=_:=r6w;have r10:=rd_d agg23 sz23 k10 l1;have r10d:rdO prog 23 w6.drew b10 0=_:=r10;have r11:=rd_d agg23 sz23 k11 l2;have r11d:rdO prog 23 w6.drew b11 0=_:=r11
    have f45:Fr (fun b=>b=cb∨F0 b) w0 w5:=fw4.trans' f5 fun b hb h=>by
     rcases hFo b h with h' | h'
     ·exact .inr h'
     ·omega
    have ht6:Tabs w6:=(ht.fr f45 fun b hb hh=>by
     rcases hh with rfl | hh
     ·have:=hP.tb;omega
     ·have:=(hS.safe b hh).1;omega).no f6
    simp -implicitDefEqProofs only[go_sem,jR,jL,e0,e10,e11,r6wd,r10d,r11d];refine qQa pl110 ((branch w6.drew (ht6.no (Fr.refl _ _).drew) wd l1 l2).mono ?_);rintro _ w7 ⟨rfl,f7⟩;have f67:No w6 w7:=(Fr.refl _ _).drew.trans f7;rw[← hup];have k7d:=f67.at k6d id;have q7:=wr_d sz23 k7d hdl hplen1;simp -implicitDefEqProofs only[go_sem,jR,q7,c1,e0,e2,e4,e6,e7,e12];have f8:Fr (fun b=>b=w0.heap.size) w7 (put w7 w0.heap.size (.cells (bl (path (h+1))) 23 (0,0))):=(Fr.refl _ _).put (b:=w0.heap.size) _ fun _=>rfl;have f58:No w5 w7:=f6.trans f67;have s57:=f58.size
    have hFn:∀ b,F' b→5≤b∧b≠cb∧qQb vv≠some b∧qQb sv≠some b∧qQb bv2≠some b∧b≠w0.heap.size∧b≠w0.heap.size+1:=fun b hb=>by
     rcases hF5 b hb with h' | h'
     ·obtain⟨a1,a2,a3,a4,_,a6,a7⟩:=hF b h'
      exact⟨a1,a2,a3,a4,hF2 b h',a6,a7⟩
     ·refine⟨by have:=hP.tb;omega,by omega,fun hb=>?_,fun hb=>?_,fun hb=>?_,by omega,by omega⟩
      ·have:=hP2.vlt b hb;omega
      ·have:=hP2.slt b hb;omega
      ·rcases hP4.bl with h | ⟨h,_⟩
       ·rw[h]at hb;cases hb
       ·obtain⟨b',o',cap',e',_,hlt'⟩:=h.pos (by rw[qQn];omega)
        rw[e']at hb;simp only[qQb,oSi]at hb;omega
    refine⟨256 - (h+1),by omega,h+1,bv2,F',by rw[hat2],by omega,rfl,(hP6.fr0 f67).frF f8 (by omega) (fun b hb h=>by have:=hP.vlt b h;omega) (fun b hb h=>by have:=hP.slt b h;omega) (fun b hb h=>by have:=hbv2 b h;omega),hor3,qQf k7d,f8.at (f67.at k6r id) (by omega),hS.fr (hS.fr hJ5 f58 fun _ h=>h.elim) f8 (fun b hb hb'=>by subst hb;exact (hFn _ hb').2.2.2.2.2.1 rfl),hFn,?_,fun b hb=>?_,hbv2,.inr hnil2⟩
    ·exact (f45.trans (f58.mono fun _ _ h=>h.elim)).trans' f8 fun b hb h=>by omega
    ·rcases hF5 b hb with h' | h'
     ·exact hFo b h'
     ·exact .inr (by omega)
 ·have d1:=dFo ((h:Int)<256)
  obtain rfl:h=256:=by omega
  have rd:=rd_d agg23 sz23 kd (hplen 256);have q:=wr_d sz23 kr zl32 (hplen 256);have l:=rd_d agg23 sz23 (qQf (o:=.cells (bl (path 256)) 23 (0,0)) kr) (hplen 256);simp -implicitDefEqProofs only[go_sem,jR,d1,rd,q,l];have f8:Fr (fun b=>b=w0.heap.size+1) w (put w (w0.heap.size+1) (.cells (bl (path 256)) 23 (0,0))):=(Fr.refl _ _).put (b:=w0.heap.size+1) _ fun _=>rfl;have hP8:=hP1.frF f8 (by omega) (fun b hb h=>by have:=hP.vlt b h;omega) (fun b hb h=>by have:=hP.slt b h;omega) (fun b hb h=>by have:=hbv1 b h;omega);refine⟨bv1,F,hP8,?_,hor,hS.fr hJ f8 (fun b hb hb'=>(hF b hb').2.2.2.2.2.2 hb),fw.trans' f8 fun b hb h=>by omega,hFo⟩
  rcases hP8.bl with h | ⟨h,_⟩
  ·rcases hnn with h' | h'
   ·omega
   ·exact absurd h h'
  ·exact h
end C
end Go.V
