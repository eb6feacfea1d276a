/-
 Helpers: ClE, ClF, ClG.
-/
import Derived.Test.YtmenaeggoakppaaGreatDoorB39
set_option linter.all false
section
namespace Go.V
open Go.Proofs Sha
set_option maxRecDepth 100000
theorem storeL_mid {A B B' C:List Value} (h:B'.length=B.length) {o:Nat} (ho:A.length=o):storeL B' o (A++(B++C)).toArray=(A++(B'++C)).toArray:=by
 subst ho
 apply Array.toList_inj.1
 rw[storeL_list _ _ _ (by simp[h])]
 simp[h,List.drop_append,List.take_append]
theorem set_mid {A C:List Value} {u v:Value} {o:Nat} (ho:A.length=o):((A++u::C).toArray).setIfInBounds o v=(A++v::C).toArray:=by
 subst ho
 apply Array.toList_inj.1
 simp[Array.toList_setIfInBounds,List.set_append]
theorem bldCk {wd : Int} {k root : Bs} {rv : Value} (hk : k.length = 32) (hr : root.length = 32) (hv : one rv = true) : bldO Tryz.prog 200 [(0, .int .i64 wd), (1, dg k), (2, rv), (3, dg root)] =
    some (.agg (ckL wd k rv root (prL false (.slice Option.none 0 0) (List.replicate 32 0) (.slice Option.none 0 0)) (List.replicate 32 0) (.slice Option.none 0 0)).toArray) := by
 simp only[bldO,Tryz.zero200,Tryz.places200,Option.bind_some]
 obtain⟨P,hP⟩:∃ P,P=prL false (.slice Option.none 0 0) (List.replicate 32 0) (.slice Option.none 0 0):=⟨_,rfl⟩
 have hPl:P.length=35:=by rw[hP];exact prL_len (by simp)
 have z32:(List.replicate 32 (0:Byte)).length=32:=by simp
 have hZ:(Value.agg (#[.int .i64 0]++Array.replicate 32 (.int .u8 0)++#[.slice none 0 0]++Array.replicate 32 (.int .u8 0)++#[.bool false,.slice none 0 0]++Array.replicate 32 (.int .u8 0)++#[.slice none 0 0]++Array.replicate 32 (.int .u8 0)++#[.slice none 0 0])).cells=(ckL 0 (List.replicate 32 0) (.slice Option.none 0 0) (List.replicate 32 0) P (List.replicate 32 0) (.slice Option.none 0 0)).toArray:=by
  rw[hP];rfl
 rw[hZ]
 have sz:∀ (wd:Int) (k:Bs) (rv:Value) (root:Bs),k.length=32→root.length=32→(ckL wd k rv root P (List.replicate 32 0) (.slice Option.none 0 0)).toArray.size=134:=fun wd k rv root h1 h2=>by simp[ckL,h1,h2,hPl]
 rw[fill_one1 (off:=0) rfl rfl (by rw[sz _ _ _ _ z32 z32];decide)]
 rw[show ((ckL 0 (List.replicate 32 0) (.slice Option.none 0 0) (List.replicate 32 0) P (List.replicate 32 0) (.slice Option.none 0 0)).toArray).setIfInBounds 0 (.int .i64 wd)=(ckL wd (List.replicate 32 0) (.slice Option.none 0 0) (List.replicate 32 0) P (List.replicate 32 0) (.slice Option.none 0 0)).toArray from set_mid (A:=[]) rfl]
 rw[fill_cons (off:=1) (n:=32) rfl (by simp[Value.cells,hk]) (by rw[sz _ _ _ _ z32 z32];decide)]
 rw[show storeL (dg k).cells.toList 1 ((ckL wd (List.replicate 32 0) (.slice Option.none 0 0) (List.replicate 32 0) P (List.replicate 32 0) (.slice Option.none 0 0)).toArray)=(ckL wd k (.slice Option.none 0 0) (List.replicate 32 0) P (List.replicate 32 0) (.slice Option.none 0 0)).toArray from storeL_mid (A:=[.int .i64 wd]) (B:=(List.replicate 32 (0:Byte)).map u8) (B':=k.map u8) (by simp[hk]) rfl]
 rw[fill_one1 (off:=33) rfl hv (by rw[sz _ _ _ _ hk z32];decide)]
 rw[show ((ckL wd k (.slice Option.none 0 0) (List.replicate 32 0) P (List.replicate 32 0) (.slice Option.none 0 0)).toArray).setIfInBounds 33 rv=(ckL wd k rv (List.replicate 32 0) P (List.replicate 32 0) (.slice Option.none 0 0)).toArray from set_mid (A:=.int .i64 wd::k.map u8) (by simp[hk])]
 rw[fill_cons (off:=34) (n:=32) rfl (by simp[Value.cells,hr]) (by rw[sz _ _ _ _ hk z32];decide)]
 have e4:storeL (root.map u8) 34 ((ckL wd k rv (List.replicate 32 0) P (List.replicate 32 0) (.slice Option.none 0 0)).toArray)=(ckL wd k rv root P (List.replicate 32 0) (.slice Option.none 0 0)).toArray:=by
  have:=storeL_mid (A:=.int .i64 wd::(k.map u8++[rv])) (B:=(List.replicate 32 (0:Byte)).map u8) (B':=root.map u8) (C:=P++((List.replicate 32 (0:Byte)).map u8++[.slice Option.none 0 0])) (by simp[hr]) (o:=34) (by simp[hk])
  simpa only[ckL,List.cons_append,List.append_assoc,List.nil_append] using this
 rw[show (dg root).cells.toList=root.map u8 from rfl,e4,fill_nil',Option.map_some,hP]
namespace C
theorem seen0 (w0:World) (cb:Nat) (vv sv bv:Value) (path near:Nat→Bs) (C:World→Prop) (hl:∀ h,(path h).length=32) (hn:∀ h,h<256→(near h).length=32):Seen w0 cb vv sv bv 202 #[] #[] path near (fun _ _ F=>∀ b,¬ F b) (fun _=>False) C where
 pl:=Tryz.pl202
 init:=fun _ h=>h
 fr:=fun h _ _=>h
 lt:=fun h b hb=>(h b hb).elim
 run:=fun {h w F} hh hJ _ _=>by
  show Fn Tryz.prog 202 #[.int .i64 (h:Nat),dg (path h),dg (near h)] w _
  refine Tryz.go202 (by simp) ?_
  obtain⟨W,hW,f1,_⟩:=allocs2 w (bl (path h)) 23 (bl (near h)) 23
  simp -implicitDefEqProofs only[go_sem,Nat.reduceEqDiff,Nat.reduceBEq,Nat.reduceAdd,gLa,gLz,gLs,Tryz.f202,Value.cells,hW]
  exact⟨fun _=>False,fun _ h=>h,f1.mono fun _ _ h=>h.elim,fun _ h=>h.elim⟩
 own:=.inr fun _ _ _ h=>h
 safe:=fun _ h=>h.elim
def clD (wd:Int) (k:Bs) (a:Option Bs) (bits:Bs) (sums:List Bs):Bs:=V.climb wd k 0 (Wit.ldig wd k a) (Wit.nearL wd bits sums)
theorem clD_len (wd:Int) (k:Bs) (a:Option Bs) (bits:Bs) (sums:List Bs):(clD wd k a bits sums).length=32:=climb_len _ _ _ _ _ (Wit.ldig_len _ _ _)
set_option maxHeartbeats 1000000 in
theorem leads (w0 : World) (ht : Tabs w0) {cb : Nat} {wd : Int} {k root : Bs} {a : Option Bs} {bits : Bs} {sums : List Bs} {rv vv sv bv : Value} {e : Bs} (hP : CkP w0 cb wd k root a bits sums rv vv sv bv e) :
    Fn Tryz.prog 153 #[pt cb 0] w0 fun v w' => v = .int .i64 (if clD wd k a bits sums = root then 0 else 131) ∧ Fr (fun b => b = cb) w0 w' ∧ ∃ bv' e',CkP w' cb wd k root a bits sums rv vv sv bv' e' ∧ RdD w' bv' (empts wd 256) ∧ (bv = .slice Option.none 0 0 ∨ bv' = bv) := by
 refine Tryz.go153 (by simp) ?_
 simp -implicitDefEqProofs only[go_sem,Nat.reduceEqDiff,Nat.reduceBEq,Nat.reduceAdd,gLa,gLz,gLs,Tryz.f153]
 refine contL_call Tryz.pl156 ((first w0 ht hP.ck hP.vl hP.le).mono ?_)
 rintro _ w2 ⟨rfl,f2⟩
 have hnl:∀ h,h<256→(Wit.nearH wd bits sums h).length=32:=fun h hh=>by
  unfold Wit.nearH
  split
  ·exact emptD_len _ _
  ·rename_i hb
   obtain⟨hal,_⟩:=Wit.gs_at hP.sl hh (by simpa using hb)
   exact hP.sm.1.getD hal
 have hl:=Wit.ldig_len wd k a
 simp -implicitDefEqProofs only[go_sem,Nat.reduceEqDiff,Nat.reduceBEq,Nat.reduceAdd,gLa,gLz,gLs]
 refine contL_call Tryz.pl155 ((climb w2 (ht.no f2) (hP.fr0 f2) hl (seen0 w2 cb vv sv bv _ _ _ (fun h=>climb_len _ _ _ _ _ hl) hnl)).mono ?_)
 rintro _ w3 ⟨rfl,bv3,F,hP3,hR3,hor,_,f3,_⟩
 have f23:Fr (fun b=>b=cb) w2 w3:=f3.mono fun _ _ h=>h.elim id fun h=>h.elim
 have f03:Fr (fun b=>b=cb) w0 w3:=(f2.mono fun _ _ h=>h.elim).trans f23
 have hdl:=clD_len wd k a bits sums
 obtain⟨w4,q4,hC4,f4⟩:=hP3.ck.putE (e':=clD wd k a bits sums) hdl
 have q4:wrO Tryz.prog 23 w3 cb 101 (dg (V.climb wd k 0 (Wit.ldig wd k a) (Wit.nearL wd bits sums)))=some w4:=q4
 have hP4:=hP3.frC f4 hC4 (hP3.bl.frC f4)
 have re:=hC4.end
 have rr:=hC4.rdRoot
 have red:rdO Tryz.prog 23 w4.drew cb 101=_:=re
 have rrd:rdO Tryz.prog 23 w4.drew cb 34=_:=rr
 have eq:=eqDig hdl hP.ck.lr
 have fd:No w4 w4.drew:=(Fr.refl _ _).drew
 have hR4:RdD w4 bv3 (empts wd 256):=by
  rcases hP4.bl with h | ⟨h,_⟩
  ·obtain⟨b',o,cap,e',_⟩:=hR3.pos (by rw[empts_len];omega)
   rw[h] at e';cases e'
  ·exact h
 by_cases hd:clD wd k a bits sums=root
 ·have hb:(clD wd k a bits sums == root)=true:=by rw[beq_iff_eq];exact hd
  simp -implicitDefEqProofs only[go_sem,Nat.reduceEqDiff,Nat.reduceBEq,Nat.reduceAdd,gLa,gLz,gLs,q4,re,rr,red,rrd,eq,hb,bne,Bool.not_true]
  rw[if_pos hd]
  exact⟨rfl,(f03.trans f4).trans (fd.mono fun _ _ h=>h.elim),bv3,_,hP4.fr0 fd,hR4.fr0 fd,hor⟩
 ·have hb:(clD wd k a bits sums == root)=false:=by rw[beq_eq_false_iff_ne];exact hd
  simp -implicitDefEqProofs only[go_sem,Nat.reduceEqDiff,Nat.reduceBEq,Nat.reduceAdd,gLa,gLz,gLs,q4,re,rr,red,rrd,eq,hb,bne,Bool.not_false]
  rw[if_neg hd]
  exact⟨rfl,(f03.trans f4).trans (fd.mono fun _ _ h=>h.elim),bv3,_,hP4.fr0 fd,hR4.fr0 fd,hor⟩
end C
end Go.V
end
section
namespace Go.V
open Go.Proofs Sha
set_option maxRecDepth 100000
namespace C
def heldP (wd:Int) (root k raw:Bs):Except Int (Option Bs × Bs × List Bs) :=
 if wd<1∨32<wd then .error 1
 else match Wit.decP raw with
  | none=>.error 120
  | some (a,bits,sums)=>if Wit.chk wd (Wit.gsOf bits sums)≠0 then .error (Wit.chk wd (Wit.gsOf bits sums)) else if clD wd k a bits sums=root then .ok (a,bits,sums) else .error 131
/-- how far the steps have come -/
def thS (w0:World) (cb:Nat) (wd:Int) (k root:Bs) (rv:Value) (p:List Value) (e:Bs) (bv:Value) (raw:Bs):Nat→World→Prop
 | 0,w=>w=w0
 | 1,w=>¬ (wd<1∨32<wd)∧No w0 w
 | 2,w=>¬ (wd<1∨32<wd)∧Fr (fun b=>b=cb) w0 w∧∃ a bits sums vv sv,Wit.decP raw=some (a,bits,sums)∧CkP w cb wd k root a bits sums rv vv sv bv e
 | 3,w=>¬ (wd<1∨32<wd)∧Fr (fun b=>b=cb) w0 w∧∃ a bits sums vv sv bv',Wit.decP raw=some (a,bits,sums)∧Wit.chk wd (Wit.gsOf bits sums)=0∧CkP w cb wd k root a bits sums rv vv sv bv' e∧(bv=.slice Option.none 0 0∨bv'=bv)
 | _,w=>Fr (fun b=>b=cb) w0 w∧∃ a bits sums vv sv bv' e',heldP wd root k raw=.ok (a,bits,sums)∧CkP w cb wd k root a bits sums rv vv sv bv' e'∧RdD w bv' (empts wd 256)∧(bv=.slice Option.none 0 0∨bv'=bv)
def thI (w0:World) (cb:Nat) (wd:Int) (k root:Bs) (rv:Value) (p:List Value) (e:Bs) (bv:Value) (raw:Bs) (fsv:Value) (n:Nat) (vs:List Value) (w:World):Prop :=
 ∃ (i:Nat),vs=[fsv,.int .i64 ((4:Nat):Int),.int .i64 (i:Nat)]∧i≤4∧n=4 - i∧thS w0 cb wd k root rv p e bv raw i w
def ThQ (w0:World) (cb:Nat) (wd:Int) (k root:Bs) (rv bv:Value) (raw:Bs) (v:Value) (w':World):Prop:=Fr (fun b=>b=cb) w0 w'∧match heldP wd root k raw with
 | .error e=>v=.int .i64 e
 | .ok (a,bits,sums)=>v=.int .i64 0∧∃ vv sv bv' e',CkP w' cb wd k root a bits sums rv vv sv bv' e'∧RdD w' bv' (empts wd 256)∧(bv=.slice Option.none 0 0∨bv'=bv)
def fun4 (cb:Nat):Array Value:=#[.func (.func 150) #[pt cb 0] #[],.func (.func 151) #[pt cb 0] #[],.func (.func 152) #[pt cb 0] #[],.func (.func 153) #[pt cb 0] #[]]
set_option maxHeartbeats 2000000 in
theorem through (w0 : World) (ht : Tabs w0) {cb : Nat} {wd : Int} {k : Bs} {rv : Value} {root : Bs} {p : List Value} {e : Bs} {bv : Value} {raw : Bs} (hC : Ck w0 cb wd k rv root p e bv) (hB : Bl w0 cb wd bv) (hcb : 5 ≤ cb) (hr : By w0 rv raw) (hl : raw.length ≤ 2 ^ 50)
    {fb : Nat} (hf : w0.heap[fb]? = some (.cells (fun4 cb) 245 (0,0))) (hne : fb ≠ cb) : Fn Tryz.prog 149 #[.slice (some ⟨fb,0,Option.none⟩) 4 4] w0 (ThQ w0 cb wd k root rv bv raw) := by
 refine Tryz.go149 (by simp) ?_
 simp -implicitDefEqProofs only[go_sem,Nat.reduceEqDiff,Nat.reduceBEq,Nat.reduceAdd,gLa,gLz,gLs,Tryz.f149]
 refine loopD [6,7,8] (thI w0 cb wd k root rv p e bv raw (.slice (some ⟨fb,0,Option.none⟩) 4 4)) 4 ⟨0,rfl,by omega,rfl,rfl⟩ ?_
 rintro _ vs w g ⟨i,rfl,hi,rfl,hS⟩
 unfold ThQ
 have lf:∀ (w:World) (i:Nat) (v:Value),Fr (fun b=>b=cb) w0 w→(fun4 cb)[i]?=some v→rdO Tryz.prog 245 w fb i=some v:=fun w i v f h=>rd1 Tryz.agg245 (f.at hf hne) h
 have c0:∀ i:Nat,i<4→IntKind.i64.wrap ((i:Int)+1)=((i+1:Nat):Int):=fun i h=>i64add (b:=1) (by omega)
 have cases5:i=0∨i=1∨i=2∨i=3∨i=4:=by omega
 rcases cases5 with rfl | rfl | rfl | rfl | rfl
 ·obtain rfl:w=w0:=hS
  have r1:=lf w 0 _ (Fr.refl _ _) rfl
  have d1:decide (((0:Nat):Int)<((4:Nat):Int))=true:=rfl
  have y1:(0:Int)≤((0:Nat):Int)∧((0:Nat):Int)<((4:Nat):Int):=by decide
  have c1:=c0 0 (by omega)
  simp -implicitDefEqProofs only[go_sem,Nat.reduceEqDiff,Nat.reduceBEq,Nat.reduceAdd,gLa,gLz,gLs,d1,y1,and_self,Int.toNat_natCast,Nat.mul_one,Nat.zero_add,r1,decide_true]
  refine contL_call Tryz.pl150 ((wide w hC).mono ?_)
  rintro _ w2 ⟨rfl,f2⟩
  by_cases hwd:wd<1∨32<wd
  ·rw[if_pos hwd]
   have he:((1:Int) != 0)=true:=rfl
   simp -implicitDefEqProofs only[go_sem,Nat.reduceEqDiff,Nat.reduceBEq,Nat.reduceAdd,gLa,gLz,gLs,he]
   have:heldP wd root k raw=.error 1:=by unfold heldP;rw[if_pos hwd]
   rw[this]
   exact⟨f2.mono fun _ _ h=>h.elim,rfl⟩
  ·rw[if_neg hwd]
   simp -implicitDefEqProofs only[go_sem,Nat.reduceEqDiff,Nat.reduceBEq,Nat.reduceAdd,gLa,gLz,gLs,bne_self_eq_false,c1]
   exact⟨4 - (0+1),by omega,0+1,rfl,by omega,rfl,hwd,f2⟩
 ·obtain⟨hwd,fw⟩:=hS
  have r1:=lf w 1 _ (fw.mono fun _ _ h=>h.elim) rfl
  have d1:decide (((1:Nat):Int)<((4:Nat):Int))=true:=rfl
  have y1:(0:Int)≤((1:Nat):Int)∧((1:Nat):Int)<((4:Nat):Int):=by decide
  have c1:=c0 1 (by omega)
  simp -implicitDefEqProofs only[go_sem,Nat.reduceEqDiff,Nat.reduceBEq,Nat.reduceAdd,gLa,gLz,gLs,d1,y1,and_self,Int.toNat_natCast,Nat.mul_one,Nat.zero_add,r1,decide_true]
  refine contL_call Tryz.pl151 ((cread w (hC.fr0 fw) (hB.fr0 fw) hcb (hr.fr0 fw) hl).mono ?_)
  rintro v w2 ⟨f2,hm⟩
  have f02:Fr (fun b=>b=cb) w0 w2:=(fw.mono fun _ _ h=>h.elim).trans f2
  cases hd:Wit.decP raw with
  | none =>
   rw[hd] at hm
   obtain rfl:v=.int .i64 120:=hm
   have he:((120:Int) != 0)=true:=rfl
   simp -implicitDefEqProofs only[go_sem,Nat.reduceEqDiff,Nat.reduceBEq,Nat.reduceAdd,gLa,gLz,gLs,he]
   have:heldP wd root k raw=.error 120:=by unfold heldP;rw[if_neg hwd,hd]
   rw[this]
   exact⟨f02,rfl⟩
  | some y =>
   obtain⟨a,bits,sums⟩:=y
   rw[hd] at hm
   obtain⟨rfl,vv,sv,hP⟩:=hm
   simp -implicitDefEqProofs only[go_sem,Nat.reduceEqDiff,Nat.reduceBEq,Nat.reduceAdd,gLa,gLz,gLs,bne_self_eq_false,c1]
   exact⟨4 - (1+1),by omega,1+1,rfl,by omega,rfl,hwd,f02,a,bits,sums,vv,sv,hd,hP⟩
 ·obtain⟨hwd,fw,a,bits,sums,vv,sv,hd,hP⟩:=hS
  have r1:=lf w 2 _ fw rfl
  have d1:decide (((2:Nat):Int)<((4:Nat):Int))=true:=rfl
  have y1:(0:Int)≤((2:Nat):Int)∧((2:Nat):Int)<((4:Nat):Int):=by decide
  have c1:=c0 2 (by omega)
  obtain⟨W',hW'⟩:∃ n:Nat,wd=n:=⟨wd.toNat,by omega⟩
  simp -implicitDefEqProofs only[go_sem,Nat.reduceEqDiff,Nat.reduceBEq,Nat.reduceAdd,gLa,gLz,gLs,d1,y1,and_self,Int.toNat_natCast,Nat.mul_one,Nat.zero_add,r1,decide_true]
  refine contL_call Tryz.pl152 ((tidy w (ht.fr fw fun b hb h=>by omega) hP hW' (by omega)).mono ?_)
  rintro _ w2 ⟨rfl,f2,bv2,hP2,hor⟩
  by_cases hc:Wit.chk wd (Wit.gsOf bits sums)=0
  ·have he:(Wit.chk wd (Wit.gsOf bits sums) != 0)=false:=by rw[hc];rfl
   simp -implicitDefEqProofs only[go_sem,Nat.reduceEqDiff,Nat.reduceBEq,Nat.reduceAdd,gLa,gLz,gLs,he,c1]
   exact⟨4 - (2+1),by omega,2+1,rfl,by omega,rfl,hwd,fw.trans f2,a,bits,sums,vv,sv,bv2,hd,hc,hP2,hor⟩
  ·have he:(Wit.chk wd (Wit.gsOf bits sums) != 0)=true:=by rw[bne_iff_ne];exact hc
   simp -implicitDefEqProofs only[go_sem,Nat.reduceEqDiff,Nat.reduceBEq,Nat.reduceAdd,gLa,gLz,gLs,he]
   have:heldP wd root k raw=.error (Wit.chk wd (Wit.gsOf bits sums)):=by unfold heldP;rw[if_neg hwd,hd];exact if_pos hc
   rw[this]
   exact⟨fw.trans f2,rfl⟩
 ·obtain⟨hwd,fw,a,bits,sums,vv,sv,bv1,hd,hc,hP,hor⟩:=hS
  have r1:=lf w 3 _ fw rfl
  have d1:decide (((3:Nat):Int)<((4:Nat):Int))=true:=rfl
  have y1:(0:Int)≤((3:Nat):Int)∧((3:Nat):Int)<((4:Nat):Int):=by decide
  have c1:=c0 3 (by omega)
  simp -implicitDefEqProofs only[go_sem,Nat.reduceEqDiff,Nat.reduceBEq,Nat.reduceAdd,gLa,gLz,gLs,d1,y1,and_self,Int.toNat_natCast,Nat.mul_one,Nat.zero_add,r1,decide_true]
  refine contL_call Tryz.pl153 ((leads w (ht.fr fw fun b hb h=>by omega) hP).mono ?_)
  rintro _ w2 ⟨rfl,f2,bv2,e2,hP2,hR2,hor2⟩
  have hor3:bv=.slice Option.none 0 0∨bv2=bv:=by
   rcases hor with h | h
   ·exact .inl h
   ·rcases hor2 with g | g
    ·exact .inl (h.symm.trans g)
    ·exact .inr (g.trans h)
  by_cases hcd:clD wd k a bits sums=root
  ·have : heldP wd root k raw = .ok (a, bits, sums) := by
     unfold heldP; rw [if_neg hwd,hd]
     show (if _ then _ else _) = _
     rw [if_neg (fun h => h hc),if_pos hcd]
   rw[if_pos hcd]
   simp -implicitDefEqProofs only[go_sem,Nat.reduceEqDiff,Nat.reduceBEq,Nat.reduceAdd,gLa,gLz,gLs,bne_self_eq_false,c1]
   exact⟨4 - (3+1),by omega,3+1,rfl,by omega,rfl,fw.trans f2,a,bits,sums,vv,sv,bv2,e2,this,hP2,hR2,hor3⟩
  ·have he:((131:Int) != 0)=true:=rfl
   rw[if_neg hcd]
   simp -implicitDefEqProofs only[go_sem,Nat.reduceEqDiff,Nat.reduceBEq,Nat.reduceAdd,gLa,gLz,gLs,he]
   have:heldP wd root k raw=.error 131:=by
    unfold heldP;rw[if_neg hwd,hd]
    show (if _ then _ else _)=_
    rw[if_neg (fun h=>h hc),if_neg hcd]
   rw[this]
   exact⟨fw.trans f2,rfl⟩
 ·obtain⟨fw,a,bits,sums,vv,sv,bv1,e1,hh,hP,hR,hor⟩:=hS
  have d1:decide (((4:Nat):Int)<((4:Nat):Int))=false:=rfl
  simp -implicitDefEqProofs only[go_sem,Nat.reduceEqDiff,Nat.reduceBEq,Nat.reduceAdd,gLa,gLz,gLs,d1]
  rw[hh]
  exact⟨fw,vv,sv,bv1,e1,hP,hR,hor⟩
def HdQ (w0:World) (wd:Int) (root k:Bs) (rv bv0:Value) (raw:Bs) (r:Value) (w':World):Prop:=No w0 w'∧match heldP wd root k raw with
 | .error e=>∃ p,r=.tuple #[p,.int .i64 e]
 | .ok (a,bits,sums)=>∃ cb vv sv bv' e',r=.tuple #[pt cb 0,.int .i64 0]∧w0.heap.size≤cb∧CkP w' cb wd k root a bits sums rv vv sv bv' e'∧RdD w' bv' (empts wd 256)∧(bv0=.slice Option.none 0 0∨bv'=bv0)
set_option maxHeartbeats 2000000 in
theorem held (w0 : World) (ht : Tabs w0) (wd : Int) {root k : Bs} (hroot : root.length = 32) (hk : k.length = 32) {rv : Value} {raw : Bs} (hr : By w0 rv raw) (hl : raw.length ≤ 2 ^ 50) {av bv0 : Value}
    (ha : av = .slice Option.none 0 0 ∧ bv0 = .slice Option.none 0 0 ∨ ∃ ab ao ac cb0,av = .slice (some ⟨ab,ao,Option.none⟩) 1 ac ∧ rdO Tryz.prog 164 w0 ab ao = some (pt cb0 0) ∧ (∀ w',No w0 w' → rdO Tryz.prog 164 w' ab ao = some (pt cb0 0)) ∧ (∀ w',No w0 w' → rdO Tryz.prog 94 w' cb0 133 = some bv0) ∧ RdD w0 bv0 (empts wd 256)) :
    Fn Tryz.prog 93 #[.int .i64 wd,dg root,dg k,rv,av] w0 (HdQ w0 wd root k rv bv0 raw) := by
 refine Tryz.go93 (by simp) ?_
 obtain⟨xa,xc,rfl,hxc⟩:=hr.slice
 obtain⟨W,hW,f1,k1,k2,s1⟩:=allocs2 w0 (bl root) 23 (bl k) 34
 have rr:=rd_d Tryz.agg23 Tryz.sz23 k1 hroot
 have rk:=rd_d Tryz.agg34 Tryz.sz34 k2 hk
 have bld:=bldCk (wd:=wd) (rv:=.slice xa raw.length xc) hk hroot rfl
 obtain⟨p0,hp0⟩:∃ p0,p0=prL false (.slice Option.none 0 0) (List.replicate 32 0) (.slice Option.none 0 0):=⟨_,rfl⟩
 have hpl:p0.length=35:=by rw[hp0];exact prL_len (by simp)
 rw[← hp0] at bld
 have f2:No W (W.alloc (.cells (ckL wd k (.slice xa raw.length xc) root p0 (List.replicate 32 0) (.slice Option.none 0 0)).toArray 200)):=(Fr.refl _ _).alloc _
 have k3:=alloc_blk_new W (.cells (ckL wd k (.slice xa raw.length xc) root p0 (List.replicate 32 0) (.slice Option.none 0 0)).toArray 200)
 obtain⟨W2,hW2⟩:∃ W2,W.alloc (.cells (ckL wd k (.slice xa raw.length xc) root p0 (List.replicate 32 0) (.slice Option.none 0 0)).toArray 200)=W2:=⟨_,rfl⟩
 rw[hW2] at f2 k3
 have hC:Ck W2 W.heap.size wd k (.slice xa raw.length xc) root p0 (List.replicate 32 0) (.slice Option.none 0 0):=⟨k3,hk,hroot,hpl,by simp⟩
 have h5:5≤w0.heap.size:=ht.size
 have f02:=f1.trans f2
 -- what the steps say
 have fin:∀ (w:World) (bv:Value),Ck w W.heap.size wd k (.slice xa raw.length xc) root p0 (List.replicate 32 0) bv→Bl w W.heap.size wd bv→No w0 w→∀ w4,w4=w.alloc (.cells (fun4 W.heap.size) 245)→Fn Tryz.prog 149 #[.slice (some ⟨w.heap.size,0,Option.none⟩) 4 4] w4 (ThQ w4 W.heap.size wd k root (.slice xa raw.length xc) bv raw)∧No w0 w4:=fun w bv hC hB fw w4 e=>by
  subst e
  have fa:No w (w.alloc (.cells (fun4 W.heap.size) 245)):=(Fr.refl _ _).alloc _
  have f4:=fw.trans fa
  exact⟨through _ (ht.no f4) (hC.fr0 fa) (hB.fr0 fa) (by omega) (hr.fr0 f4) hl (alloc_blk_new _ _) (by have:=hC.lt;omega),f4⟩
 have done:∀ (w4 w5:World) (bv v:Value),bv=bv0→No w0 w4→ThQ w4 W.heap.size wd k root (.slice xa raw.length xc) bv raw v w5→∃ e,v=.int .i64 e∧HdQ w0 wd root k (.slice xa raw.length xc) bv0 raw (.tuple #[pt W.heap.size 0,.int .i64 e]) w5:=fun w4 w5 bv v hbv f4 h=>by
  subst hbv
  obtain⟨f5,h⟩:=h
  have f05:No w0 w5:=f4.trans' f5 fun b hb h=>by omega
  unfold HdQ
  cases hh:heldP wd root k raw with
  | error e =>
   rw[hh] at h
   exact⟨e,h,f05,_,rfl⟩
  | ok y =>
   obtain⟨a,bits,sums⟩:=y
   rw[hh] at h
   obtain⟨rfl,vv,sv,bv',e',hP,hR,hor⟩:=h
   exact⟨0,rfl,f05,W.heap.size,vv,sv,bv',e',rfl,by omega,hP,hR,hor⟩
 rcases ha with ⟨rfl,rfl⟩ | ⟨ab,ao,ac,cb0,rfl,_,hap,hab,hbd⟩
 ·have d1:decide (((0:Nat):Int) > 0)=false:=rfl
  have d2:decide ((0:Int) > 0)=false:=rfl
  simp -implicitDefEqProofs only[go_sem,Nat.reduceEqDiff,Nat.reduceBEq,Nat.reduceAdd,gLa,gLz,gLs,Tryz.f93,Value.cells,hW,rr,rk,bld,hW2,d1,d2,Int.natCast_zero]
  refine contL_is (v:=.slice (some ⟨W2.heap.size,0,Option.none⟩) 4 4) (w':=W2.alloc (.cells (fun4 W.heap.size) 245)) rfl ?_
  obtain⟨hth,f4⟩:=fin W2 _ hC (.inl rfl) f02 _ rfl
  generalize W2.alloc (.cells (fun4 W.heap.size) 245)=w4 at *
  simp -implicitDefEqProofs only[go_sem,Nat.reduceEqDiff,Nat.reduceBEq,Nat.reduceAdd,gLa,gLz,gLs]
  refine contL_call Tryz.pl149 (hth.mono ?_)
  intro v w5 h5
  obtain⟨e,rfl,hq⟩:=done w4 w5 _ v rfl f4 h5
  simp -implicitDefEqProofs only[go_sem,Nat.reduceEqDiff,Nat.reduceBEq,Nat.reduceAdd,gLa,gLz,gLs]
  exact hq
 ·have d1:decide (((1:Nat):Int) > 0)=true:=rfl
  have y1:(0:Int)≤0∧(0:Int)<((1:Nat):Int):=by decide
  have ra:=hap W2 f02
  have rb:=hab W2 f02
  have bo:one bv0=true:=by obtain⟨b',o,cap,e,_⟩:=hbd.pos (by rw[empts_len];omega);rw[e];rfl
  obtain⟨w3,q3,hC3,f3⟩:=hC.putB bo
  have f03:No w0 w3:=f02.trans' f3 fun b hb h=>by omega
  have hB3:Bl w3 W.heap.size wd bv0:=.inr ⟨hbd.fr0 f03,fun b hb h=>by
   obtain⟨b',o,cap,e,_,hlt⟩:=hbd.pos (by rw[empts_len];omega)
   rw[e] at hb
   simp only[blockOf,Option.some.injEq] at hb
   omega⟩
  simp -implicitDefEqProofs only[go_sem,Nat.reduceEqDiff,Nat.reduceBEq,Nat.reduceAdd,gLa,gLz,gLs,Tryz.f93,Value.cells,hW,rr,rk,bld,hW2,d1,decide_true,y1,and_self,Int.toNat_zero,Nat.zero_mul,Nat.add_zero,ra,rb,q3]
  refine contL_is (v:=.slice (some ⟨w3.heap.size,0,Option.none⟩) 4 4) (w':=w3.alloc (.cells (fun4 W.heap.size) 245)) rfl ?_
  obtain⟨hth,f4⟩:=fin w3 _ hC3 hB3 f03 _ rfl
  generalize w3.alloc (.cells (fun4 W.heap.size) 245)=w4 at *
  simp -implicitDefEqProofs only[go_sem,Nat.reduceEqDiff,Nat.reduceBEq,Nat.reduceAdd,gLa,gLz,gLs]
  refine contL_call Tryz.pl149 (hth.mono ?_)
  intro v w5 h5
  obtain⟨e,rfl,hq⟩:=done w4 w5 _ v rfl f4 h5
  simp -implicitDefEqProofs only[go_sem,Nat.reduceEqDiff,Nat.reduceBEq,Nat.reduceAdd,gLa,gLz,gLs]
  exact hq
end C
end Go.V
end
section
namespace Go.V
open Go.Proofs Sha
set_option maxRecDepth 100000
/-- texts of the call's own, side by side -/
def NwT (w0 w:World) (v:Value) (vals:List Value) (ts:List Bs):Prop:=Nw w0 w 25 1 v ts.length vals∧vals.length=ts.length∧∀ i (h:i<vals.length) (h':i<ts.length),NwB w0 w vals[i] ts[i]∧∀ b,blockOf vals[i]=some b→blockOf v≠some b
theorem NwT.fr {F:Nat→Prop} {w0 w w':World} {v:Value} {vals:List Value} {ts:List Bs} (h:NwT w0 w v vals ts) (f:Fr F w w') (h1:∀ b,blockOf v=some b→¬ F b) (h2:∀ x ∈ vals,∀ b,blockOf x=some b→¬ F b):NwT w0 w' v vals ts :=
 ⟨h.1.fr f h1,h.2.1,fun i a b=>⟨(h.2.2 i a b).1.fr f (h2 _ (List.getElem_mem a)),(h.2.2 i a b).2⟩⟩
theorem NwT.fr0 {w0 w w':World} {v:Value} {vals:List Value} {ts:List Bs} (h:NwT w0 w v vals ts) (f:No w w'):NwT w0 w' v vals ts:=h.fr f (fun _ _ h=>h) fun _ _ _ _ h=>h
theorem NwT.push {w0 w : World} {v : Value} {vals : List Value} {ts : List Bs} (h : NwT w0 w v vals ts) (f : w0.heap.size ≤ w.heap.size) {x : Value} {t : Bs} (hx : NwB w0 w x t) (hap : ∀ b, blockOf x = some b → blockOf v ≠ some b) (hl : ts.length ≤ 2 ^ 30) :
    ∃ v' w',(Builtin.append_ #[37,37] 0 #[v,.slice (some ⟨w.heap.size,0,Option.none⟩) 1 1]).run Tryz.prog (w.alloc (.cells #[x] 25)) = .ok v' w' ∧ NwT w0 w' v' (vals ++ [x]) (ts ++ [t]) ∧ Fr (fun b => blockOf v = some b) w w' ∧ ∀ b,blockOf v' = some b → blockOf v = some b ∨ w.heap.size ≤ b := by
 obtain⟨h1,h2,h3⟩:=h
 have ox:one x=true:=by obtain⟨a,c,rfl⟩:=hx.slice;rfl
 obtain⟨v',w',hr,hown,g,m⟩:=app_freshX (P:=Tryz.prog) Tryz.app37_37 h1 (m:=1) (xs:=#[x]) rfl (by simp[ox]) (by omega) (bd_one (by omega)) (by omega) f
 refine⟨v',w',hr,⟨by rw[List.length_append];exact hown,by simp[h2],fun i a b=>?_⟩,g,m⟩
 by_cases hi:i<vals.length
 ·obtain⟨e1,e2⟩:=h3 i hi (by omega)
  rw[List.getElem_append_left hi,List.getElem_append_left (by omega)]
  refine⟨e1.fr g fun b hb h=>e2 b hb h,fun b hb h=>?_⟩
  rcases m b h with h' | h'
  ·exact e2 b hb h'
  ·have:=(e1.lt hb).2;omega
 ·have hi':i=vals.length:=by simp at a;omega
  subst hi'
  have ev:(vals++[x])[vals.length]'a=x:=by simp
  have et:(ts++[t])[vals.length]'b=t:=by simp[h2]
  rw[ev,et]
  refine⟨hx.fr g fun b hb h=>hap b hb h,fun b hb h=>?_⟩
  rcases m b h with h' | h'
  ·exact hap b hb h'
  ·have:=(hx.lt hb).2;omega
namespace C
/-- the text of a height above the end -/
def txH (wd:Int) (k:Bs) (path near:Nat→Bs) (h:Nat):Bs:=branchT wd (sd1 k (path h) (near h) h) (sd2 k (path h) (near h) h)
def lowT (k:Bs):Option Bs→Bs
 | none=>[2]
 | some v=>leafT k v
def txL (wd:Int) (k:Bs) (a:Option Bs) (path near:Nat→Bs) (n:Nat):List Bs:=lowT k a::(List.range n).map (txH wd k path near)
theorem txL_len (wd:Int) (k:Bs) (a:Option Bs) (path near:Nat→Bs) (n:Nat):(txL wd k a path near n).length=n+1:=by simp[txL]
theorem txL_succ (wd:Int) (k:Bs) (a:Option Bs) (path near:Nat→Bs) (n:Nat):txL wd k a path near (n+1)=txL wd k a path near n++[txH wd k path near n]:=by simp[txL,List.range_succ]
def JT (wB:World) (cb xb lb:Nat) (wd:Int) (k:Bs) (a:Option Bs) (path near:Nat→Bs) (h:Nat) (w:World) (F:Nat→Prop):Prop :=
 ∃ lv vals,w.heap[xb]?=some (.cells #[pt cb 0] 164 (0,0))∧w.heap[lb]?=some (.cells #[lv] 37 (0,0))∧one lv=true∧NwT wB w lv vals (txL wd k a path near h)∧F=(fun b=>b=xb∨b=lb∨blockOf lv=some b∨∃ x ∈ vals,blockOf x=some b)∧wB.heap.size≤w.heap.size∧wB.heap.size≤lb∧wB.heap.size≤xb∧(∀ b,blockOf lv=some b→b≠lb∧b≠xb)∧(∀ x ∈ vals,∀ b,blockOf x=some b→b≠lb∧b≠xb)∧xb≠lb
def tsK (w1:World) (xb lb:Nat) (X Y:Bs) (x3 x4 x8 x9:Value) (w:World):Prop:=x3=pt xb 0∧x4=pt lb 0∧∃ b c,x8=pt b 0∧x9=pt c 0∧w.heap[b]?=some (.cells (bl X) 23 (0,0))∧w.heap[c]?=some (.cells (bl Y) 23 (0,0))∧No w1 w
set_option maxHeartbeats 4000000 in
theorem texts1 (wB w : World) {cb xb lb : Nat} {wd : Int} {k root : Bs} {a : Option Bs} {bits : Bs} {sums : List Bs} {rv vv sv : Value} {e : Bs} {path near : Nat → Bs} (hpl : ∀ h, (path h).length = 32) (hnl : ∀ h, h < 256 → (near h).length = 32) {h : Nat} (hh : h < 256) {F : Nat → Prop} (hJ : JT wB cb xb lb wd k a path near h w F) (ht : Tabs w) {bv' : Value} (hP : CkP w cb wd k root a bits sums rv vv sv bv' e) (hcF : ∀ b, F b → b ≠ cb) :
    Fn Tryz.prog 157 #[.int .i64 (h : Nat),dg (path h),dg (near h),pt xb 0,pt lb 0] w fun r w' => r = .tuple #[] ∧ ∃ F',JT wB cb xb lb wd k a path near (h + 1) w' F' ∧ Fr F w w' ∧ ∀ b,F' b → F b ∨ w.heap.size ≤ b := by
 refine Tryz.go157 (by simp) ?_
 obtain⟨lv,vals,kx,kl,lo,hT,hF,hs1,hs2,hs3,hlb,hvb,hne⟩:=hJ
 have hd:=hpl h
 have hn:=hnl h hh
 have hk:=hP.ck.lk
 obtain⟨w1,hW,f1,k1,k2,s1⟩:=allocs2 w (bl (path h)) 23 (bl (near h)) 23
 have hP1:=hP.fr0 f1
 have rc:rdO Tryz.prog 164 w1 xb 0=some (pt cb 0):=rd1 Tryz.agg164 (f1.at kx id) rfl
 have rcd:rdO Tryz.prog 164 w1.drew xb 0=some (pt cb 0):=rc
 have rk:=hP1.ck.key
 have rkd:rdO Tryz.prog 34 w1.drew cb 1=_:=rk
 have rd:=rd_d Tryz.agg23 Tryz.sz23 k1 hd
 have rdd:rdO Tryz.prog 23 w1.drew w.heap.size 0=_:=rd
 have rn:=rd_d Tryz.agg23 Tryz.sz23 k2 hn
 have rnd:rdO Tryz.prog 23 w1.drew (w.heap.size+1) 0=_:=rn
 have l1:=sd1_len (k:=k) (h:=h) hd hn
 have l2:=sd2_len (k:=k) (h:=h) hd hn
 simp -implicitDefEqProofs only[go_sem,Nat.reduceEqDiff,Nat.reduceBEq,Nat.reduceAdd,gLa,gLz,gLs,Tryz.f157,Value.cells,hW]
 refine den_ot (fun j=>j == 7 || (j == 11 || j == 12)) (.one 0 (.one 1 (.one 2 (.one 3 (.one 4 (.one 5 (.one 6 (.tri 7 (.one 8 (.one 9 (.one 10 (.two 11 (.row [12,13,14]) 12 (.row [11,13,14]))))) 11 (.two 7 (.row [8,9,10,12,13,14]) 12 (.row [7,8,9,10,13,14])) 12 (.two 7 (.row [8,9,10,11,13,14]) 11 (.row [7,8,9,10,13,14])))))))))) rfl (by kernel_rfl) (by kernel_rfl) ?_
 refine denOT_mono (K:=fun ev w=>tsK w1 xb lb (sd1 k (path h) (near h) h) (sd2 k (path h) (near h) h) (ev 3) (ev 4) (ev 8) (ev 9) w) ?rest _ ?main
 case main =>
     have gd : No w1 w1.drew := (Fr.refl _ _).drew
     simp only [OT.row]
     simp -implicitDefEqProofs only [go_sem,Nat.reduceEqDiff,Nat.reduceBEq,Nat.reduceAdd,gLa,gLz,gLs,Value.cells,bl_zero,rc,rcd,rk,rkd,rd,rdd,rn,rnd]
     refine ⟨?_,?_,?_⟩
     · refine contOT_call Tryz.pl158 ((sidesC w1.drew hk hd hn hh).mono ?_)
       rintro _ wa ⟨rfl,ga⟩
       refine ⟨fun _ => Fr.ext ga,?_⟩
       have Ga := gd.trans ga
       simp -implicitDefEqProofs only [go_sem,Nat.reduceEqDiff,Nat.reduceBEq,Nat.reduceAdd,gLa,gLz,gLs,Value.cells,bl_zero]
       obtain ⟨wc,hwc,gc,kb,kc,sc⟩ := allocs2 wa (bl (List.replicate 32 0)) 23 (bl (List.replicate 32 0)) 23
       have Gc := Ga.trans gc
       have sGa := Ga.size
       refine ⟨?_,?_⟩
       · obtain ⟨u1,u2,q1,q2,z1,z2,gz⟩ := st2d kb kc (by omega) l1 l2
         simp -implicitDefEqProofs only [go_sem,Nat.reduceEqDiff,Nat.reduceBEq,Nat.reduceAdd,gLa,gLz,gLs,hwc,q1,q2]
         exact ⟨rfl,rfl,_,_,rfl,rfl,z1,z2,Gc.trans' gz (by intro z hz h; omega)⟩
       · obtain ⟨u1,u2,q1,q2,z1,z2,gz⟩ := st2d kc kb (by omega) l1 l2
         simp -implicitDefEqProofs only [go_sem,Nat.reduceEqDiff,Nat.reduceBEq,Nat.reduceAdd,gLa,gLz,gLs,hwc,q1,q2]
         exact ⟨rfl,rfl,_,_,rfl,rfl,z1,z2,Gc.trans' gz (by intro z hz h; omega)⟩
     · refine ⟨fun _ => Ext.alloc w1.drew _,?_⟩
       refine ⟨?_,?_⟩
       · have ga : No w1 (w1.alloc (.cells (bl (List.replicate 32 0)) 23)).drew := ((Fr.refl _ _).alloc _).drew
         have ka : (w1.alloc (.cells (bl (List.replicate 32 0)) 23)).drew.heap[w1.heap.size]? = _ := alloc_blk_new w1 (.cells (bl (List.replicate 32 0)) 23)
         generalize (w1.alloc (.cells (bl (List.replicate 32 0)) 23)).drew = wa at *
         refine contOT_call Tryz.pl158 ((sidesC wa hk hd hn hh).mono ?_)
         rintro _ wb ⟨rfl,gb⟩
         refine ⟨fun _ => Fr.ext gb,?_⟩
         simp -implicitDefEqProofs only [go_sem,Nat.reduceEqDiff,Nat.reduceBEq,Nat.reduceAdd,gLa,gLz,gLs,Value.cells,bl_zero]
         obtain ⟨wc,hwc,gc,kc,sc⟩ := allocs1 wb (bl (List.replicate 32 0)) 23
         have Gc := ga.trans (gb.trans gc)
         have ka2 := gc.at (gb.at ka id) id
         have lne := heap_lt (gb.at ka id)
         obtain ⟨u1,u2,q1,q2,z1,z2,gz⟩ := st2d ka2 kc (by omega) l1 l2
         simp -implicitDefEqProofs only [go_sem,Nat.reduceEqDiff,Nat.reduceBEq,Nat.reduceAdd,gLa,gLz,gLs,hwc,q1,q2]
         exact ⟨rfl,rfl,_,_,rfl,rfl,z1,z2,Gc.trans' gz (by intro z hz h; omega)⟩
       · refine ⟨fun _ => Ext.alloc (w1.alloc (.cells (bl (List.replicate 32 0)) 23)).drew _,?_⟩
         obtain ⟨wb,hwb,gb,ka,kb,sb⟩ := allocs2 w1 (bl (List.replicate 32 0)) 23 (bl (List.replicate 32 0)) 23
         rw [hwb]
         refine contOT_call Tryz.pl158 ((sidesC wb.drew hk hd hn hh).mono ?_)
         rintro _ wc ⟨rfl,gc⟩
         refine ⟨fun _ => Fr.ext gc,?_⟩
         have Gc := gb.drew.trans gc
         have ka2 := gc.at (show wb.drew.heap[w1.heap.size]? = _ from ka) id
         have kb2 := gc.at (show wb.drew.heap[w1.heap.size + 1]? = _ from kb) id
         obtain ⟨u1,u2,q1,q2,z1,z2,gz⟩ := st2d ka2 kb2 (by omega) l1 l2
         simp -implicitDefEqProofs only [go_sem,Nat.reduceEqDiff,Nat.reduceBEq,Nat.reduceAdd,gLa,gLz,gLs,q1,q2]
         exact ⟨rfl,rfl,_,_,rfl,rfl,z1,z2,Gc.trans' gz (by intro z hz h; omega)⟩
     · refine ⟨fun _ => Ext.alloc w1.drew _,?_⟩
       refine ⟨?_,?_⟩
       · have ga : No w1 (w1.alloc (.cells (bl (List.replicate 32 0)) 23)).drew := ((Fr.refl _ _).alloc _).drew
         have ka : (w1.alloc (.cells (bl (List.replicate 32 0)) 23)).drew.heap[w1.heap.size]? = _ := alloc_blk_new w1 (.cells (bl (List.replicate 32 0)) 23)
         generalize (w1.alloc (.cells (bl (List.replicate 32 0)) 23)).drew = wa at *
         refine contOT_call Tryz.pl158 ((sidesC wa hk hd hn hh).mono ?_)
         rintro _ wb ⟨rfl,gb⟩
         refine ⟨fun _ => Fr.ext gb,?_⟩
         simp -implicitDefEqProofs only [go_sem,Nat.reduceEqDiff,Nat.reduceBEq,Nat.reduceAdd,gLa,gLz,gLs,Value.cells,bl_zero]
         obtain ⟨wc,hwc,gc,kc,sc⟩ := allocs1 wb (bl (List.replicate 32 0)) 23
         have Gc := ga.trans (gb.trans gc)
         have ka2 := gc.at (gb.at ka id) id
         have lne := heap_lt (gb.at ka id)
         obtain ⟨u1,u2,q1,q2,z1,z2,gz⟩ := st2d kc ka2 (by omega) l1 l2
         simp -implicitDefEqProofs only [go_sem,Nat.reduceEqDiff,Nat.reduceBEq,Nat.reduceAdd,gLa,gLz,gLs,hwc,q1,q2]
         exact ⟨rfl,rfl,_,_,rfl,rfl,z1,z2,Gc.trans' gz (by intro z hz h; omega)⟩
       · refine ⟨fun _ => Ext.alloc (w1.alloc (.cells (bl (List.replicate 32 0)) 23)).drew _,?_⟩
         obtain ⟨wb,hwb,gb,ka,kb,sb⟩ := allocs2 w1 (bl (List.replicate 32 0)) 23 (bl (List.replicate 32 0)) 23
         rw [hwb]
         refine contOT_call Tryz.pl158 ((sidesC wb.drew hk hd hn hh).mono ?_)
         rintro _ wc ⟨rfl,gc⟩
         refine ⟨fun _ => Fr.ext gc,?_⟩
         have Gc := gb.drew.trans gc
         have ka2 := gc.at (show wb.drew.heap[w1.heap.size]? = _ from ka) id
         have kb2 := gc.at (show wb.drew.heap[w1.heap.size + 1]? = _ from kb) id
         obtain ⟨u1,u2,q1,q2,z1,z2,gz⟩ := st2d kb2 ka2 (by omega) l1 l2
         simp -implicitDefEqProofs only [go_sem,Nat.reduceEqDiff,Nat.reduceBEq,Nat.reduceAdd,gLa,gLz,gLs,q1,q2]
         exact ⟨rfl,rfl,_,_,rfl,rfl,z1,z2,Gc.trans' gz (by intro z hz h; omega)⟩
 case rest =>
  rintro ev w2 ⟨e3,e4,b8,b9,e8,e9,k8,k9,f2⟩
  have f02:No w w2:=f1.trans f2
  have hP2:=hP.fr0 f02
  have rl:rdO Tryz.prog 37 w2 lb 0=some lv:=rd1 Tryz.agg37 (f02.at kl id) rfl
  have rld:rdO Tryz.prog 37 w2.drew lb 0=some lv:=rl
  have rx:rdO Tryz.prog 164 w2 xb 0=some (pt cb 0):=rd1 Tryz.agg164 (f02.at kx id) rfl
  have rxd:rdO Tryz.prog 164 w2.drew xb 0=some (pt cb 0):=rx
  have rw2:=hP2.ck.wd0
  have rw2d:rdO Tryz.prog 3 w2.drew cb 0=_:=rw2
  have r8:=rd_d Tryz.agg23 Tryz.sz23 k8 l1
  have r8d:rdO Tryz.prog 23 w2.drew b8 0=_:=r8
  have r9:=rd_d Tryz.agg23 Tryz.sz23 k9 l2
  have r9d:rdO Tryz.prog 23 w2.drew b9 0=_:=r9
  simp -implicitDefEqProofs only[go_sem,Nat.reduceEqDiff,Nat.reduceBEq,Nat.reduceAdd,gLa,gLz,gLs,e3,e4,e8,e9]
  refine den_ext (fun j=>j == 7 || j == 8) [0,1,2,3,4,5,6,7,8,9,10] rfl (by kernel_rfl) (by kernel_rfl) ?_
  simp -implicitDefEqProofs only[go_sem,Nat.reduceEqDiff,Nat.reduceBEq,Nat.reduceAdd,gLa,gLz,gLs,e3,e4,e8,e9,rl,rld,rx,rxd,rw2,rw2d,r8,r8d,r9,r9d,ft_beq,tf_beq,beq_self_eq_true]
  refine contLX_call Tryz.pl159 ((branchText w2.drew wd l1 l2).mono ?_)
  rintro x3 w3 ⟨n3,f3⟩
  refine⟨fun _=>Fr.ext f3,?_⟩
  have f23:No w2 w3:=(Fr.refl _ _).drew.trans f3
  have f03:=f02.trans f23
  have hx1:one x3=true:=by obtain⟨a,c,rfl⟩:=n3.slice;rfl
  have s02:=f02.size
  have s23:=f23.size
  have n3B:NwB wB w3 x3 (txH wd k path near h):=n3.back (show wB.heap.size≤w2.heap.size by omega)
  have hxb:∀ b,blockOf x3=some b→w2.heap.size≤b∧b<w3.heap.size:=fun b hb=>n3.lt hb
  have hlvb:∀ b,blockOf lv=some b→b<w.heap.size:=fun b hb=>(hT.1.own.lt hb)
  obtain⟨xa,xc,hxs⟩:=n3.slice
  simp -implicitDefEqProofs only[go_sem,Nat.reduceEqDiff,Nat.reduceBEq,Nat.reduceAdd,gLa,gLz,gLs,ft_beq,tf_beq,beq_self_eq_true]
  refine contLX_is (v:=.slice (some ⟨w3.heap.size,0,Option.none⟩) 1 1) (w':=w3.alloc (.cells #[x3] 25)) (by subst hxs;rfl) (fun _=>Ext.alloc _ _) ?_
  obtain⟨v4,w4,hr4,hT4,g4,m4⟩:=(hT.fr0 f03).push (by omega) n3B (fun b hb h=>by have:=(hxb b hb).1;have:=hlvb b h;omega) (by rw[txL_len];omega)
  have o4:one v4=true:=by obtain⟨_,a,c,rfl,_⟩:=hT4.1.rd;rfl
  simp -implicitDefEqProofs only[go_sem,Nat.reduceEqDiff,Nat.reduceBEq,Nat.reduceAdd,gLa,gLz,gLs,ft_beq,tf_beq,beq_self_eq_true]
  refine contLX_sem ⟨v4,w4,hr4,(fun h=>by cases h),?_⟩
  have k4l:=g4.at (f03.at kl id) fun h=>(hlb _ h).1 rfl
  have k4x:=g4.at (f03.at kx id) fun h=>(hlb _ h).2 rfl
  have q4:wrO Tryz.prog 37 w4 lb 0 v4=some (put w4 lb (.cells #[v4] 37 (0,0))):=wr1 (P:=Tryz.prog) (o:=0) Tryz.sz37 o4 k4l (by simp)
  simp -implicitDefEqProofs only[go_sem,Nat.reduceEqDiff,Nat.reduceBEq,Nat.reduceAdd,gLa,gLz,gLs,ft_beq,tf_beq,beq_self_eq_true,e4,q4]
  have f5:Fr (fun b=>b=lb) w4 (put w4 lb (.cells #[v4] 37 (0,0))):=(Fr.refl _ _).put (b:=lb) _ fun _=>rfl
  have s34:=g4.size
  have s45:=f5.size
  have hlbl:lb<w.heap.size:=heap_lt kl
  have hxbl:xb<w.heap.size:=heap_lt kx
  have hv4:∀ b,blockOf v4=some b→b≠lb∧b≠xb:=fun b hb=>by
   rcases m4 b hb with h | h
   ·exact hlb b h
   ·omega
  have hx4:∀ x ∈ vals++[x3],∀ b,blockOf x=some b→b≠lb∧b≠xb:=fun x hx b hb=>by
   rcases List.mem_append.1 hx with hx | hx
   ·exact hvb x hx b hb
   ·simp only[List.mem_singleton] at hx;subst hx
    have:=(hxb b hb).1;omega
  refine⟨_,⟨v4,vals++[x3],f5.at k4x hne,put_at k4l,o4,?_,rfl,by omega,hs2,hs3,hv4,hx4,hne⟩,?_,fun b hb=>?_⟩
  ·rw[txL_succ]
   exact hT4.fr f5 (fun b hb h=>(hv4 b hb).1 h) fun x hx b hb h=>(hx4 x hx b hb).1 h
  ·subst hF
   exact ((f03.mono fun _ _ h=>h.elim).trans (g4.mono fun b _ h=>.inr (.inr (.inl h)))).trans (f5.mono fun b _ h=>.inr (.inl h))
  ·subst hF
   rcases hb with h | h | h | ⟨x,hx,h⟩
   ·exact .inl (.inl h)
   ·exact .inl (.inr (.inl h))
   ·rcases m4 b h with h' | h'
    ·exact .inl (.inr (.inr (.inl h')))
    ·exact .inr (by omega)
   ·rcases List.mem_append.1 hx with hx | hx
    ·exact .inl (.inr (.inr (.inr ⟨x,hx,h⟩)))
    ·simp only[List.mem_singleton] at hx;subst hx
     exact .inr (by have:=(hxb b h).1;omega)
end C
end Go.V
end
