/- Helpers. -/
import Derived.Test.YtmenaeggoakppaaGreatDoorG37
set_option linter.all false
set_option maxRecDepth 100000
set_option maxHeartbeats 8000000
open Array renaming replicate→xR
open Go.V.Fr renaming ext→kB
open List renaming replicate→zG
open Nat renaming reduceEqDiff→jF,reduceBEq→jB,reduceAdd→vJ
open Go.Value renaming cells→jM
open Go.V.Wit renaming nearH→rQ,nearL→rX,poss→kA
namespace Go.V
open Go.Proofs.Tryz Go.V.Tryz
open Go.Proofs Sha
variable {bits d k n:Bs} {wd:Int} {A C:List Value} {cb h o:Nat} {a:Option Bs} {bv rv sv vv:Value}
def sd1 (k d n:Bs)(h:Nat):Bs:=if kbit k (255 - h) then n else d
def sd2 (k d n:Bs)(h:Nat):Bs:=if kbit k (255 - h) then d else n
theorem sd1_len (hd:d.length=32)(hn:n.length=32):(sd1 k d n h).length=32:=by unfold sd1;split <;> assumption
theorem sd2_len (hd:d.length=32)(hn:n.length=32):(sd2 k d n h).length=32:=by unfold sd2;split <;> assumption
theorem sd_up (wd:Int)(k d n:Bs)(h:Nat):qQv wd (sd1 k d n h) (sd2 k d n h)=up wd k h d n:=by unfold sd1 sd2 up;split <;> rfl
theorem climb_succ (wd:Int)(k d0:Bs){l:List Bs}(hh:h<l.length):climb wd k 0 d0 (l.take (h+1))=up wd k h (climb wd k 0 d0 (l.take h)) (l.getD h []):=by
 rw[tSg hh,climb_app,qQi _ hh,Nat.zero_add,lTk,Nat.min_eq_left (by omega)]
 rfl
theorem st2d {w:World}{b c:Nat}(hb:w.heap[b]?=some (.cells (bl (zG 32 0)) 23 (0, 0)))(hc:w.heap[c]?=some (.cells (bl (zG 32 0)) 23 (0, 0)))(hne:b≠c){x y:Bs}(hx:x.length=32)(hy:y.length=32) :
  ∃ u v,wrO prog 23 w b 0 (dg x)=some u∧wrO prog 23 u c 0 (dg y)=some v∧v.heap[b]?=some (.cells (bl x) 23 (0,0))∧v.heap[c]?=some (.cells (bl y) 23 (0,0))∧Fr (fun z=>z=b∨z=c) w v:=by
 have k2:=qQr (b:=b) (o:=.cells (bl x) 23 (0,0)) hc hne;have k1:=qQf (o:=.cells (bl x) 23 (0,0)) hb;have f1:Fr (fun z=>z=b∨z=c) w (put w b (.cells (bl x) 23 (0,0))):=(Fr.refl _ _).put (b:=b) _ fun _=>.inl rfl;exact⟨_,_,wr_d sz23 hb zl32 hx,wr_d sz23 k2 zl32 hy,qQr (b:=c) (o:=.cells (bl y) 23 (0,0)) k1 (fun h=>hne h.symm),qQf k2,f1.put (b:=c) _ fun _=>.inr rfl⟩
theorem qXq (wd:Int)(bits:Bs)(sums:List Bs):(rX wd bits sums).length=256:=by simp[rX]
theorem nearL_at (wd:Int)(bits:Bs)(sums:List Bs)(hh:h<256):(rX wd bits sums).getD h []=rQ wd bits sums h:=by
 rw[qQi _ (by rw[qXq];exact hh)];simp[rX]
namespace C
theorem sidesC (w0:World)(hk:k.length=32)(hd:d.length=32)(hn:n.length=32)(hh:h<256) :
  Fn prog 158 #[dg k,.int .i64 (h:Nat),dg d,dg n] w0 fun v w'=>v=.tuple #[dg (sd1 k d n h),dg (sd2 k d n h)]∧No w0 w' :=
 (sides w0 hk hd hn hh).mono fun v w' ⟨h1,h2⟩=>⟨by rw[h1];unfold sd1 sd2;split <;> rfl,h2⟩
structure Seen (w0:World) (cb:Nat) (vv sv bv:Value) (gs:FuncId) (bs cs:Array Value) (path near:Nat→Bs) (J:Nat→World→(Nat→Prop)→Prop) (F0:Nat→Prop) (C:World→Prop):Prop where
 pl:qQe prog gs=true
 init:J 0 w0 F0
 fr:∀ {h w w' F F'},J h w F→Fr F' w w'→(∀ b,F' b→¬ F b)→J h w' F
 lt:∀ {h w F},J h w F→∀ b,F b→b<w.heap.size
 run:∀ {h w F},h<256→J h w F→No w0 w0→C w→Fn prog gs (bs++#[.int .i64 (h:Nat),dg (path h),dg (near h)]++cs) w fun r w'=>r=.tuple #[]∧∃ F',J (h+1) w' F'∧Fr F w w'∧∀ b,F' b→F b∨w.heap.size≤b
 own:bv≠.slice .none 0 0∨∀ h w F,J h w F→∀ b,¬ F b
 safe:∀ b,F0 b→5≤b∧b≠cb∧qQb vv≠some b∧qQb sv≠some b∧qQb bv≠some b
def clI (w0:World)(cb:Nat)(wd:Int)(k root:Bs)(a:Option Bs)(bits:Bs)(sums:List Bs)(rv vv sv bv:Value)(e:Bs)(path:Nat→Bs)(J:Nat→World→(Nat→Prop)→Prop)(F0:Nat→Prop)(fv:Value)(n:Nat)(vs:List Value)(w:World):Prop :=
 ∃ (h:Nat) (bv':Value) (F:Nat→Prop),vs=[pt cb 0,fv,pt w0.heap.size 0,pt (w0.heap.size+1) 0,.int .i64 ((kA bits h 0).length:Nat),.int .i64 (h:Nat)]∧h≤256∧n=256 - h∧CkP w cb wd k root a bits sums rv vv sv bv' e∧(bv=.slice .none 0 0∨bv'=bv) ∧
  w.heap[w0.heap.size]?=some (.cells (bl (path h)) 23 (0,0))∧w.heap[w0.heap.size+1]?=some (.cells (bl (zG 32 0)) 23 (0,0))∧J h w F∧(∀ b,F b→5≤b∧b≠cb∧qQb vv≠some b∧qQb sv≠some b∧qQb bv'≠some b∧b≠w0.heap.size∧b≠w0.heap.size+1)∧Fr (fun b=>b=cb∨F0 b) w0 w∧(∀ b,F b→F0 b∨w0.heap.size≤b)∧(∀ b,qQb bv'=some b→b<w0.heap.size∨w0.heap.size+2≤b)∧(h=0∨bv'≠.slice .none 0 0)
def clK (w4:World)(cb db rb h at1:Nat)(fv:Value)(X Y:Bs)(x0 x2 x4 x6 x7 x12 x10 x11:Value)(w:World):Prop :=
 x0=pt cb 0∧x2=fv∧x4=pt db 0∧x6=pt rb 0∧x7=.int .i64 (at1:Nat)∧x12=.int .i64 (h:Nat)∧∃ b c,x10=pt b 0∧x11=pt c 0∧w.heap[b]?=some (.cells (bl X) 23 (0,0))∧w.heap[c]?=some (.cells (bl Y) 23 (0,0))∧No w4 w
theorem climb (w0:World)(ht:Tabs w0){k root:Bs}{sums:List Bs}{e:Bs}(hP:CkP w0 cb wd k root a bits sums rv vv sv bv e){d0:Bs}(hd0:d0.length=32)
  {gs:FuncId} {bs cs:Array Value} {J:Nat→World→(Nat→Prop)→Prop} {F0:Nat→Prop}
  (hS:Seen w0 cb vv sv bv gs bs cs (fun h=>V.climb wd k 0 d0 ((rX wd bits sums).take h)) (rQ wd bits sums) J F0 (fun w=>Tabs w∧∃ bv',CkP w cb wd k root a bits sums rv vv sv bv' e)) :
  Fn prog 155 #[pt cb 0,dg d0,.func (.func gs) bs cs] w0 fun v w'=>v=dg (V.climb wd k 0 d0 (rX wd bits sums))∧∃ bv' F,CkP w' cb wd k root a bits sums rv vv sv bv' e∧RdD w' bv' (empts wd 256)∧(bv=.slice .none 0 0∨bv'=bv)∧J 256 w' F∧Fr (fun b=>b=cb∨F0 b) w0 w'∧(∀ b,F b→F0 b∨w0.heap.size≤b):=by
 refine go155 (by simp) ?_;obtain⟨W,hW,f1,k1,k2,s1⟩:=qZa w0 (bl d0) 23 (bl (zG 32 0)) 23
 obtain⟨path,hpath⟩:∃ path:Nat→Bs,path=fun h=>V.climb wd k 0 d0 ((rX wd bits sums).take h):=⟨_,rfl⟩
 have hp0:path 0=d0:=by rw[hpath];rfl
 have hplen:∀ h,(path h).length=32:=fun h=>by rw[hpath];exact qJa _ _ _ _ _ hd0
 have hps:∀ h,h<256→path (h+1)=up wd k h (path h) (rQ wd bits sums h):=fun h hh=>by
  rw[hpath];show V.climb wd k 0 d0 _=_;rw[climb_succ wd k d0 (by rw[qXq];exact hh),nearL_at wd bits sums hh]
 have hp256:path 256=V.climb wd k 0 d0 (rX wd bits sums):=by
  rw[hpath];show V.climb wd k 0 d0 _=_;rw[List.take_of_length_le (by rw[qXq];exact Nat.le_refl _)]
 rw[← hpath]at hS;rw[← hp256];clear hpath hp256;have hcl:=hP.ck.lt;have hlt0:=hS.lt hS.init
 have hbv0:∀ b,qQb bv=some b→b<w0.heap.size∨w0.heap.size+2≤b:=fun b hb=>by
  rcases hP.bl with h | ⟨h,_⟩
  ·rw[h]at hb;cases hb
  ·obtain⟨b',o,cap,e,_,hlt⟩:=h.pos (by rw[qQm];omega)
   rw[e]at hb;simp only[qQb,oSi]at hb;omega
 simp -implicitDefEqProofs only[go_sem,jF,vJ,Tryz.f155,jM,qQj,hW];refine loopD [0,2,4,6,7,12] (clI w0 cb wd k root a bits sums rv vv sv bv e path J F0 (.func (.func gs) bs cs)) 256 ⟨0,bv,F0,rfl,by omega,rfl,hP.fr0 f1,.inr rfl,by rw[hp0];exact k1,k2,hS.fr hS.init f1 (fun _ h=>h.elim),fun b hb=>⟨(hS.safe b hb).1,(hS.safe b hb).2.1,(hS.safe b hb).2.2.1,(hS.safe b hb).2.2.2.1,(hS.safe b hb).2.2.2.2,by have:=hlt0 b hb;omega,by have:=hlt0 b hb;omega⟩,f1.mono fun _ _ h=>h.elim,fun b h=>.inl h,hbv0,.inl rfl⟩ ?_;rintro _ vs w g ⟨h,bv1,F,rfl,hh,rfl,hP1,hor,kd,kr,hJ,hF,fw,hFo,hbv1,hnn⟩;have hsz:w0.heap.size+2≤w.heap.size:=by have:=qQh kr;omega
 have htw:Tabs w:=ht.fr fw fun b hb hh=>by
  rcases hh with rfl | hh
  ·have:=hP.tb;omega
  ·have:=(hS.safe b hh).1;omega
 by_cases hlt:h<256
 ·have d1:=dTo ((h:Int)<256)
  have c1:=iSu (i:=h);have hle:=Wit.poss_le bits h 0;simp -implicitDefEqProofs only[go_sem,jF,d1];refine qQa pl201 ((bareP w htw hP1 hlt).mono ?_);rintro _ w2 ⟨rfl,f2,bv2,hP2,hRb,hor2⟩;have hJ2:J h w2 F:=hS.fr hJ f2 fun b hb hb'=>(hF b hb').2.1 hb;have s2:=f2.size;have k2d:=f2.at kd (by omega);have k2r:=f2.at kr (by omega)
  have hor3:bv=.slice .none 0 0∨bv2=bv:=by
   rcases hor with h | h
   ·exact .inl h
   ·rcases hor2 with g | g
    ·exact .inl (h.symm.trans g.1)
    ·exact .inr (g.trans h)
  have hbv2:∀ b,qQb bv2=some b→b<w0.heap.size∨w0.heap.size+2≤b:=fun b hb=>by
   rcases hor2 with g | g
   ·have:=g.2 b hb;omega
   ·rw[g]at hb;exact hbv1 b hb
  have hnil2:bv2≠.slice .none 0 0:=fun e=>by
   obtain⟨b',o,cap,e',_⟩:=hRb.pos (by rw[qQm];omega);rw[e]at e';cases e'
  have hF2:∀ b,F b→qQb bv2≠some b:=fun b hb=>by
   rcases hor2 with g | g
   ·rcases hS.own with h | h
    ·rcases hor with h' | h'
     ·exact absurd h' h
     ·rw[h']at g;exact absurd g.1 h
    ·exact absurd hb (h _ _ _ hJ b)
   ·rw[g];exact (hF b hb).2.2.2.2.1
  obtain⟨w3,q3,k3,f3,s3⟩:=R.allocD w2 sz23 (qQp wd h);have f03:Fr (fun b=>b=cb∨F0 b) w0 w3:=(fw.trans (f2.mono fun _ _ h=>.inl h)).trans (f3.mono fun _ _ h=>h.elim);have hP3:=hP2.fr0 f3;have hJ3:J h w3 F:=hS.fr hJ2 f3 fun _ h=>h.elim;have k3d:=f3.at k2d id;have k3r:=f3.at k2r id;have hF3:∀ b,F b→b<w2.heap.size:=fun b hb=>by have:=hS.lt hJ2 b hb;exact this
  simp -implicitDefEqProofs only[go_sem,jF,jM,qQj,q3];refine qQa pl200 ((bitOf w3 hP3.bits68 hlt).mono ?_);rintro _ _ ⟨rfl,rfl⟩;rename_i w3
  have hnl:(rQ wd bits sums h).length=32:=by
   unfold rQ;split
   ·exact qQp _ _
   ·rename_i hb
    obtain⟨hal,_⟩:=Wit.gs_at hP.sl hlt (by simpa using hb);exact hP.sm.1.getD hal
  have hdl:=hplen h;have l1:=sd1_len (k:=k) (h:=h) hdl hnl;have l2:=sd2_len (k:=k) (h:=h) hdl hnl;have hrun:∀ {w:World} {F:Nat→Prop},J h w F→(Tabs w∧∃ bv',CkP w cb wd k root a bits sums rv vv sv bv' e)→Fn prog gs (bs++#[.int .i64 (h:Nat),dg (path h),dg (rQ wd bits sums h)]++cs) w fun r w'=>r=.tuple #[]∧∃ F',J (h+1) w' F'∧Fr F w w'∧∀ b,F' b→F b∨w.heap.size≤b:=fun hJ hC=>hS.run hlt hJ (Fr.refl _ _) hC;have hup:=(hps h hlt).trans (sd_up wd k (path h) (rQ wd bits sums h) h).symm;have hplen1:=hplen (h+1);have hcb2:cb<w2.heap.size:=hP2.ck.lt
  cases hm:Wit.mbit bits h with
  | false =>
   have hnear:rQ wd bits sums h=emptD wd h:=by unfold rQ;rw[if_pos hm]
   have hsk:=Wit.gs_skip hm;rw[← hnear]at k3
   obtain⟨at1,hat1⟩:∃ at1,at1=(kA bits h 0).length:=⟨_,rfl⟩
   have hat2:at1=(kA bits (h+1) 0).length:=by rw[hat1,hsk]
   rw[← hat1];generalize rQ wd bits sums h=N at *;have f24:No w2 w3:=f3;have k4:=k3
   have w4d:∃ w4,w4=w3:=⟨_,rfl⟩
   obtain⟨w4,hw4⟩:=w4d;rw[← hw4]at k4 f24 ⊢;have fw4:Fr (fun b=>b=cb∨F0 b) w0 w4:=(fw.trans (f2.mono fun _ _ h=>.inl h)).trans (f24.mono fun _ _ h=>h.elim);have hP4:=hP2.fr0 f24;have hJ4:J h w4 F:=hS.fr hJ2 f24 fun _ h=>h.elim;have k4d:=f24.at k2d id;have k4r:=f24.at k2r id;have s24:=f24.size
   have ht4:Tabs w4:=ht.fr fw4 fun b hb hh=>by
    rcases hh with rfl | hh
    ·have:=hP.tb;omega
    ·have:=(hS.safe b hh).1;omega
   have rpd:=rd_d agg23 sz23 k4d hdl;have rpn:=rd_d agg23 sz23 k4 hnl;simp -implicitDefEqProofs only[go_sem,jF,rpd,rpn];refine qQa hS.pl ((hrun hJ4 ⟨ht4,bv2,hP4⟩).mono ?_);rintro _ w5 ⟨rfl,F',hJ5,f5,hF5⟩;have hF4:∀ b,F b→b<w2.heap.size:=fun b hb=>hS.lt hJ2 b hb;have s45:=f5.size;have hP5:=hP4.frF f5 (fun h=>(hF cb h).2.1 rfl) (fun b h=>(hF b h).2.2.1) (fun b h=>(hF b h).2.2.2.1) hF2;have k5d:=f5.at k4d fun h=>(hF _ h).2.2.2.2.2.1 rfl;have k5r:=f5.at k4r fun h=>(hF _ h).2.2.2.2.2.2 rfl;have k5n:=f5.at k4 fun h=>by have:=hF4 _ h;omega
   have rk:=hP5.ck.key;have rkd:rdO prog 34 w5.drew cb 1=_:=rk;have rd4:=rd_d agg23 sz23 k5d hdl;have rd4d:rdO prog 23 w5.drew w0.heap.size 0=_:=rd4;have rn4:=rd_d agg23 sz23 k5n hnl;have rn4d:rdO prog 23 w5.drew w2.heap.size 0=_:=rn4;simp -implicitDefEqProofs only[go_sem];refine qJo (fun j=>j == 7 || (j == 11 || j == 12)) (.one 0 (.one 1 (.one 2 (.one 3 (.one 4 (.one 5 (.one 6 (.tri 7 (.one 8 (.one 9 (.one 10 (.two 11 (.row [12,13,14]) 12 (.row [11,13,14]))))) 11 (.two 7 (.row [8,9,10,12,13,14]) 12 (.row [7,8,9,10,13,14])) 12 (.two 7 (.row [8,9,10,11,13,14]) 11 (.row [7,8,9,10,13,14])))))))))) rfl (by kernel_rfl) (by kernel_rfl) ?_;refine qXm (K:=fun ev w=>clK w5 cb w0.heap.size (w0.heap.size+1) h at1 (.func (.func gs) bs cs) (sd1 k (path h) N h) (sd2 k (path h) N h) (ev 0) (ev 2) (ev 4) (ev 6) (ev 7) (ev 12) (ev 10) (ev 11) w) ?rest _ ?main
   case main =>
    have gd:No w5 w5.drew:=(Fr.refl _ _).drew;simp only[OT.row];simp -implicitDefEqProofs only[go_sem,jF,jB,gLa,gLz,gLs,jM,qQj,rkd,rd4d,rn4d];refine⟨?_,?_,?_⟩
    ·refine qQn pl158 ((sidesC w5.drew hP5.ck.lk hdl hnl hlt).mono ?_)
     rintro _ wa ⟨rfl,ga⟩;refine⟨fun _=>kB ga,?_⟩;have Ga:=gd.trans ga;simp -implicitDefEqProofs only[go_sem,jF,jB,gLa,gLz,gLs,jM,qQj];obtain⟨wc,hwc,gc,kb,kc,sc⟩:=qZa wa (bl (zG 32 0)) 23 (bl (zG 32 0)) 23;have Gc:=Ga.trans gc;have sGa:=Ga.size;refine⟨?_,?_⟩
     ·obtain⟨u1,u2,q1,q2,z1,z2,gz⟩:=st2d kb kc (by omega) l1 l2
      simp -implicitDefEqProofs only[go_sem,jF,jB,gLa,gLz,gLs,hwc,q1,q2];exact⟨rfl,rfl,rfl,rfl,rfl,rfl,_,_,rfl,rfl,z1,z2,Gc.trans' gz (by intro z hz h;omega)⟩
     ·obtain⟨u1,u2,q1,q2,z1,z2,gz⟩:=st2d kc kb (by omega) l1 l2
      simp -implicitDefEqProofs only[go_sem,jF,jB,gLa,gLz,gLs,hwc,q1,q2];exact⟨rfl,rfl,rfl,rfl,rfl,rfl,_,_,rfl,rfl,z1,z2,Gc.trans' gz (by intro z hz h;omega)⟩
    ·refine⟨fun _=>Ext.alloc w5.drew _,?_⟩
     refine⟨?_,?_⟩
     ·have ga:No w5 (w5.alloc (.cells (bl (zG 32 0)) 23)).drew:=((Fr.refl _ _).alloc _).drew
      have ka:(w5.alloc (.cells (bl (zG 32 0)) 23)).drew.heap[w5.heap.size]?=_:=qQc w5 (.cells (bl (zG 32 0)) 23);generalize (w5.alloc (.cells (bl (zG 32 0)) 23)).drew=wa at *;refine qQn pl158 ((sidesC wa hP5.ck.lk hdl hnl hlt).mono ?_);rintro _ wb ⟨rfl,gb⟩;refine⟨fun _=>kB gb,?_⟩;simp -implicitDefEqProofs only[go_sem,jF,jB,gLa,gLz,gLs,jM,qQj];obtain⟨wc,hwc,gc,kc,sc⟩:=qQs wb (bl (zG 32 0)) 23;have Gc:=ga.trans (gb.trans gc);have ka2:=gc.at (gb.at ka id) id;have lne:=qQh (gb.at ka id);obtain⟨u1,u2,q1,q2,z1,z2,gz⟩:=st2d ka2 kc (by omega) l1 l2;simp -implicitDefEqProofs only[go_sem,jF,jB,gLa,gLz,gLs,hwc,q1,q2];exact⟨rfl,rfl,rfl,rfl,rfl,rfl,_,_,rfl,rfl,z1,z2,Gc.trans' gz (by intro z hz h;omega)⟩
     ·refine⟨fun _=>Ext.alloc (w5.alloc (.cells (bl (zG 32 0)) 23)).drew _,?_⟩
      obtain⟨wb,hwb,gb,ka,kb,sb⟩:=qZa w5 (bl (zG 32 0)) 23 (bl (zG 32 0)) 23;rw[hwb];refine qQn pl158 ((sidesC wb.drew hP5.ck.lk hdl hnl hlt).mono ?_);rintro _ wc ⟨rfl,gc⟩;refine⟨fun _=>kB gc,?_⟩;have Gc:=gb.drew.trans gc;have ka2:=gc.at (show wb.drew.heap[w5.heap.size]?=_ from ka) id;have kb2:=gc.at (show wb.drew.heap[w5.heap.size+1]?=_ from kb) id;obtain⟨u1,u2,q1,q2,z1,z2,gz⟩:=st2d ka2 kb2 (by omega) l1 l2;simp -implicitDefEqProofs only[go_sem,jF,jB,gLa,gLz,gLs,q1,q2];exact⟨rfl,rfl,rfl,rfl,rfl,rfl,_,_,rfl,rfl,z1,z2,Gc.trans' gz (by intro z hz h;omega)⟩
    ·refine⟨fun _=>Ext.alloc w5.drew _,?_⟩
     refine⟨?_,?_⟩
     ·have ga:No w5 (w5.alloc (.cells (bl (zG 32 0)) 23)).drew:=((Fr.refl _ _).alloc _).drew
      have ka:(w5.alloc (.cells (bl (zG 32 0)) 23)).drew.heap[w5.heap.size]?=_:=qQc w5 (.cells (bl (zG 32 0)) 23);generalize (w5.alloc (.cells (bl (zG 32 0)) 23)).drew=wa at *;refine qQn pl158 ((sidesC wa hP5.ck.lk hdl hnl hlt).mono ?_);rintro _ wb ⟨rfl,gb⟩;refine⟨fun _=>kB gb,?_⟩;simp -implicitDefEqProofs only[go_sem,jF,jB,gLa,gLz,gLs,jM,qQj];obtain⟨wc,hwc,gc,kc,sc⟩:=qQs wb (bl (zG 32 0)) 23;have Gc:=ga.trans (gb.trans gc);have ka2:=gc.at (gb.at ka id) id;have lne:=qQh (gb.at ka id);obtain⟨u1,u2,q1,q2,z1,z2,gz⟩:=st2d kc ka2 (by omega) l1 l2;simp -implicitDefEqProofs only[go_sem,jF,jB,gLa,gLz,gLs,hwc,q1,q2];exact⟨rfl,rfl,rfl,rfl,rfl,rfl,_,_,rfl,rfl,z1,z2,Gc.trans' gz (by intro z hz h;omega)⟩
     ·refine⟨fun _=>Ext.alloc (w5.alloc (.cells (bl (zG 32 0)) 23)).drew _,?_⟩
      obtain⟨wb,hwb,gb,ka,kb,sb⟩:=qZa w5 (bl (zG 32 0)) 23 (bl (zG 32 0)) 23;rw[hwb];refine qQn pl158 ((sidesC wb.drew hP5.ck.lk hdl hnl hlt).mono ?_);rintro _ wc ⟨rfl,gc⟩;refine⟨fun _=>kB gc,?_⟩;have Gc:=gb.drew.trans gc;have ka2:=gc.at (show wb.drew.heap[w5.heap.size]?=_ from ka) id;have kb2:=gc.at (show wb.drew.heap[w5.heap.size+1]?=_ from kb) id;obtain⟨u1,u2,q1,q2,z1,z2,gz⟩:=st2d kb2 ka2 (by omega) l1 l2;simp -implicitDefEqProofs only[go_sem,jF,jB,gLa,gLz,gLs,q1,q2];exact⟨rfl,rfl,rfl,rfl,rfl,rfl,_,_,rfl,rfl,z1,z2,Gc.trans' gz (by intro z hz h;omega)⟩
   case rest =>
    rintro ev w6 ⟨e0,e2,e4,e6,e7,e12,b10,b11,e10,e11,k10,k11,f6⟩;have hP6:=hP5.fr0 f6;have k6d:=f6.at k5d id;have k6r:=f6.at k5r id;have r6w:=hP6.ck.wd0;have r6wd:rdO prog 3 w6.drew cb 0=_:=r6w;have r10:=rd_d agg23 sz23 k10 l1;have r10d:rdO prog 23 w6.drew b10 0=_:=r10;have r11:=rd_d agg23 sz23 k11 l2;have r11d:rdO prog 23 w6.drew b11 0=_:=r11
    have f45:Fr (fun b=>b=cb∨F0 b) w0 w5:=fw4.trans' f5 fun b hb h=>by
     rcases hFo b h with h' | h'
     ·exact .inr h'
     ·omega
    have ht6:Tabs w6:=(ht.fr f45 fun b hb hh=>by
     rcases hh with rfl | hh
     ·have:=hP.tb;omega
     ·have:=(hS.safe b hh).1;omega).no f6
    simp -implicitDefEqProofs only[go_sem,jF,jB,e0,e10,e11,r6wd,r10d,r11d];refine qQa pl110 ((branch w6.drew (ht6.no (Fr.refl _ _).drew) wd l1 l2).mono ?_);rintro _ w7 ⟨rfl,f7⟩;have f67:No w6 w7:=(Fr.refl _ _).drew.trans f7;rw[← hup];have k7d:=f67.at k6d id;have q7:=wr_d sz23 k7d hdl hplen1;simp -implicitDefEqProofs only[go_sem,jF,q7,c1,e0,e2,e4,e6,e7,e12];have f8:Fr (fun b=>b=w0.heap.size) w7 (put w7 w0.heap.size (.cells (bl (path (h+1))) 23 (0,0))):=(Fr.refl _ _).put (b:=w0.heap.size) _ fun _=>rfl;have f58:No w5 w7:=f6.trans f67;have s57:=f58.size
    have hFn:∀ b,F' b→5≤b∧b≠cb∧qQb vv≠some b∧qQb sv≠some b∧qQb bv2≠some b∧b≠w0.heap.size∧b≠w0.heap.size+1:=fun b hb=>by
     rcases hF5 b hb with h' | h'
     ·obtain⟨a1,a2,a3,a4,_,a6,a7⟩:=hF b h'
      exact⟨a1,a2,a3,a4,hF2 b h',a6,a7⟩
     ·refine⟨by have:=hP.tb;omega,by omega,fun hb=>?_,fun hb=>?_,fun hb=>?_,by omega,by omega⟩
      ·have:=hP2.vlt b hb;omega
      ·have:=hP2.slt b hb;omega
      ·rcases hP4.bl with h | ⟨h,_⟩
       ·rw[h]at hb;cases hb
       ·obtain⟨b',o',cap',e',_,hlt'⟩:=h.pos (by rw[qQm];omega)
        rw[e']at hb;simp only[qQb,oSi]at hb;omega
    refine⟨256 - (h+1),by omega,h+1,bv2,F',by rw[hat2],by omega,rfl,(hP6.fr0 f67).frF f8 (by omega) (fun b hb h=>by have:=hP.vlt b h;omega) (fun b hb h=>by have:=hP.slt b h;omega) (fun b hb h=>by have:=hbv2 b h;omega),hor3,qQf k7d,f8.at (f67.at k6r id) (by omega),hS.fr (hS.fr hJ5 f58 fun _ h=>h.elim) f8 (fun b hb hb'=>by subst hb;exact (hFn _ hb').2.2.2.2.2.1 rfl),hFn,?_,fun b hb=>?_,hbv2,.inr hnil2⟩
    ·exact (f45.trans (f58.mono fun _ _ h=>h.elim)).trans' f8 fun b hb h=>by omega
    ·rcases hF5 b hb with h' | h'
     ·exact hFo b h'
     ·exact .inr (by omega)
  | true =>
   obtain⟨hal,hsuc,_⟩:=Wit.gs_at hP3.sl hlt hm;have hnear:rQ wd bits sums h=sums.getD (kA bits h 0).length []:=by unfold rQ;rw[if_neg (by rw[hm];decide)]
   obtain⟨b,o,cap,he,_,hsb⟩:=hP3.sm.pos (by omega);have rs:=hP3.ck.sums hP3.hb;rw[he]at rs;have hsm:=hP3.sm;rw[he]at hsm;have rd:=hsm.get (P:=prog) agg23 sz23 hal;have y1:(0:Int)≤((kA bits h 0).length:Int)∧((kA bits h 0).length:Int)<((sums.length:Nat):Int):=by omega
   have c2:IntKind.i64.wrap (((kA bits h 0).length:Int)+1)=(((kA bits h 0).length+1:Nat):Int):=qXc (b:=1);rw[← hnear]at rd;have q4:=wr_d sz23 k3 (qQp wd h) hnl
   obtain⟨at1,hat1⟩:∃ at1,at1=(kA bits h 0).length+1:=⟨_,rfl⟩
   have hat2:at1=(kA bits (h+1) 0).length:=by rw[hat1,hsuc]
   rw[← hat1]at c2;generalize rQ wd bits sums h=N at *;have f24:No w2 (put w3 w2.heap.size (.cells (bl N) 23 (0,0))):=f3.put (b:=w2.heap.size) _ fun h=>absurd h (Nat.lt_irrefl _);have k4:=qQf (o:=.cells (bl N) 23 (0,0)) k3;generalize put w3 w2.heap.size (.cells (bl N) 23 (0,0))=w4 at *;have fw4:Fr (fun b=>b=cb∨F0 b) w0 w4:=(fw.trans (f2.mono fun _ _ h=>.inl h)).trans (f24.mono fun _ _ h=>h.elim);have hP4:=hP2.fr0 f24;have hJ4:J h w4 F:=hS.fr hJ2 f24 fun _ h=>h.elim;have k4d:=f24.at k2d id;have k4r:=f24.at k2r id;have s24:=f24.size
   have ht4:Tabs w4:=ht.fr fw4 fun b hb hh=>by
    rcases hh with rfl | hh
    ·have:=hP.tb;omega
    ·have:=(hS.safe b hh).1;omega
   have rpd:=rd_d agg23 sz23 k4d hdl;have rpn:=rd_d agg23 sz23 k4 hnl;simp -implicitDefEqProofs only[go_sem,jF,vJ,rs,y1,and_self,iTn,rd,q4,c2,rpd,rpn];refine qQa hS.pl ((hrun hJ4 ⟨ht4,bv2,hP4⟩).mono ?_);rintro _ w5 ⟨rfl,F',hJ5,f5,hF5⟩;have hF4:∀ b,F b→b<w2.heap.size:=fun b hb=>hS.lt hJ2 b hb;have s45:=f5.size;have hP5:=hP4.frF f5 (fun h=>(hF cb h).2.1 rfl) (fun b h=>(hF b h).2.2.1) (fun b h=>(hF b h).2.2.2.1) hF2;have k5d:=f5.at k4d fun h=>(hF _ h).2.2.2.2.2.1 rfl;have k5r:=f5.at k4r fun h=>(hF _ h).2.2.2.2.2.2 rfl;have k5n:=f5.at k4 fun h=>by have:=hF4 _ h;omega
   have rk:=hP5.ck.key;have rkd:rdO prog 34 w5.drew cb 1=_:=rk;have rd4:=rd_d agg23 sz23 k5d hdl;have rd4d:rdO prog 23 w5.drew w0.heap.size 0=_:=rd4;have rn4:=rd_d agg23 sz23 k5n hnl;have rn4d:rdO prog 23 w5.drew w2.heap.size 0=_:=rn4;simp -implicitDefEqProofs only[go_sem];refine qJo (fun j=>j == 7 || (j == 11 || j == 12)) (.one 0 (.one 1 (.one 2 (.one 3 (.one 4 (.one 5 (.one 6 (.tri 7 (.one 8 (.one 9 (.one 10 (.two 11 (.row [12,13,14]) 12 (.row [11,13,14]))))) 11 (.two 7 (.row [8,9,10,12,13,14]) 12 (.row [7,8,9,10,13,14])) 12 (.two 7 (.row [8,9,10,11,13,14]) 11 (.row [7,8,9,10,13,14])))))))))) rfl (by kernel_rfl) (by kernel_rfl) ?_;refine qXm (K:=fun ev w=>clK w5 cb w0.heap.size (w0.heap.size+1) h at1 (.func (.func gs) bs cs) (sd1 k (path h) N h) (sd2 k (path h) N h) (ev 0) (ev 2) (ev 4) (ev 6) (ev 7) (ev 12) (ev 10) (ev 11) w) ?rest _ ?main
   case main =>
    have gd:No w5 w5.drew:=(Fr.refl _ _).drew;simp only[OT.row];simp -implicitDefEqProofs only[go_sem,jF,jB,gLa,gLz,gLs,jM,qQj,rkd,rd4d,rn4d];refine⟨?_,?_,?_⟩
    ·refine qQn pl158 ((sidesC w5.drew hP5.ck.lk hdl hnl hlt).mono ?_)
     rintro _ wa ⟨rfl,ga⟩;refine⟨fun _=>kB ga,?_⟩;have Ga:=gd.trans ga;simp -implicitDefEqProofs only[go_sem,jF,jB,gLa,gLz,gLs,jM,qQj];obtain⟨wc,hwc,gc,kb,kc,sc⟩:=qZa wa (bl (zG 32 0)) 23 (bl (zG 32 0)) 23;have Gc:=Ga.trans gc;have sGa:=Ga.size;refine⟨?_,?_⟩
     ·obtain⟨u1,u2,q1,q2,z1,z2,gz⟩:=st2d kb kc (by omega) l1 l2
      simp -implicitDefEqProofs only[go_sem,jF,jB,gLa,gLz,gLs,hwc,q1,q2];exact⟨rfl,rfl,rfl,rfl,rfl,rfl,_,_,rfl,rfl,z1,z2,Gc.trans' gz (by intro z hz h;omega)⟩
     ·obtain⟨u1,u2,q1,q2,z1,z2,gz⟩:=st2d kc kb (by omega) l1 l2
      simp -implicitDefEqProofs only[go_sem,jF,jB,gLa,gLz,gLs,hwc,q1,q2];exact⟨rfl,rfl,rfl,rfl,rfl,rfl,_,_,rfl,rfl,z1,z2,Gc.trans' gz (by intro z hz h;omega)⟩
    ·refine⟨fun _=>Ext.alloc w5.drew _,?_⟩
     refine⟨?_,?_⟩
     ·have ga:No w5 (w5.alloc (.cells (bl (zG 32 0)) 23)).drew:=((Fr.refl _ _).alloc _).drew
      have ka:(w5.alloc (.cells (bl (zG 32 0)) 23)).drew.heap[w5.heap.size]?=_:=qQc w5 (.cells (bl (zG 32 0)) 23);generalize (w5.alloc (.cells (bl (zG 32 0)) 23)).drew=wa at *;refine qQn pl158 ((sidesC wa hP5.ck.lk hdl hnl hlt).mono ?_);rintro _ wb ⟨rfl,gb⟩;refine⟨fun _=>kB gb,?_⟩;simp -implicitDefEqProofs only[go_sem,jF,jB,gLa,gLz,gLs,jM,qQj];obtain⟨wc,hwc,gc,kc,sc⟩:=qQs wb (bl (zG 32 0)) 23;have Gc:=ga.trans (gb.trans gc);have ka2:=gc.at (gb.at ka id) id;have lne:=qQh (gb.at ka id);obtain⟨u1,u2,q1,q2,z1,z2,gz⟩:=st2d ka2 kc (by omega) l1 l2;simp -implicitDefEqProofs only[go_sem,jF,jB,gLa,gLz,gLs,hwc,q1,q2];exact⟨rfl,rfl,rfl,rfl,rfl,rfl,_,_,rfl,rfl,z1,z2,Gc.trans' gz (by intro z hz h;omega)⟩
     ·refine⟨fun _=>Ext.alloc (w5.alloc (.cells (bl (zG 32 0)) 23)).drew _,?_⟩
      obtain⟨wb,hwb,gb,ka,kb,sb⟩:=qZa w5 (bl (zG 32 0)) 23 (bl (zG 32 0)) 23;rw[hwb];refine qQn pl158 ((sidesC wb.drew hP5.ck.lk hdl hnl hlt).mono ?_);rintro _ wc ⟨rfl,gc⟩;refine⟨fun _=>kB gc,?_⟩;have Gc:=gb.drew.trans gc;have ka2:=gc.at (show wb.drew.heap[w5.heap.size]?=_ from ka) id;have kb2:=gc.at (show wb.drew.heap[w5.heap.size+1]?=_ from kb) id;obtain⟨u1,u2,q1,q2,z1,z2,gz⟩:=st2d ka2 kb2 (by omega) l1 l2;simp -implicitDefEqProofs only[go_sem,jF,jB,gLa,gLz,gLs,q1,q2];exact⟨rfl,rfl,rfl,rfl,rfl,rfl,_,_,rfl,rfl,z1,z2,Gc.trans' gz (by intro z hz h;omega)⟩
    ·refine⟨fun _=>Ext.alloc w5.drew _,?_⟩
     refine⟨?_,?_⟩
     ·have ga:No w5 (w5.alloc (.cells (bl (zG 32 0)) 23)).drew:=((Fr.refl _ _).alloc _).drew
      have ka:(w5.alloc (.cells (bl (zG 32 0)) 23)).drew.heap[w5.heap.size]?=_:=qQc w5 (.cells (bl (zG 32 0)) 23);generalize (w5.alloc (.cells (bl (zG 32 0)) 23)).drew=wa at *;refine qQn pl158 ((sidesC wa hP5.ck.lk hdl hnl hlt).mono ?_);rintro _ wb ⟨rfl,gb⟩;refine⟨fun _=>kB gb,?_⟩;simp -implicitDefEqProofs only[go_sem,jF,jB,gLa,gLz,gLs,jM,qQj];obtain⟨wc,hwc,gc,kc,sc⟩:=qQs wb (bl (zG 32 0)) 23;have Gc:=ga.trans (gb.trans gc);have ka2:=gc.at (gb.at ka id) id;have lne:=qQh (gb.at ka id);obtain⟨u1,u2,q1,q2,z1,z2,gz⟩:=st2d kc ka2 (by omega) l1 l2;simp -implicitDefEqProofs only[go_sem,jF,jB,gLa,gLz,gLs,hwc,q1,q2];exact⟨rfl,rfl,rfl,rfl,rfl,rfl,_,_,rfl,rfl,z1,z2,Gc.trans' gz (by intro z hz h;omega)⟩
     ·refine⟨fun _=>Ext.alloc (w5.alloc (.cells (bl (zG 32 0)) 23)).drew _,?_⟩
      obtain⟨wb,hwb,gb,ka,kb,sb⟩:=qZa w5 (bl (zG 32 0)) 23 (bl (zG 32 0)) 23;rw[hwb];refine qQn pl158 ((sidesC wb.drew hP5.ck.lk hdl hnl hlt).mono ?_);rintro _ wc ⟨rfl,gc⟩;refine⟨fun _=>kB gc,?_⟩;have Gc:=gb.drew.trans gc;have ka2:=gc.at (show wb.drew.heap[w5.heap.size]?=_ from ka) id;have kb2:=gc.at (show wb.drew.heap[w5.heap.size+1]?=_ from kb) id;obtain⟨u1,u2,q1,q2,z1,z2,gz⟩:=st2d kb2 ka2 (by omega) l1 l2;simp -implicitDefEqProofs only[go_sem,jF,jB,gLa,gLz,gLs,q1,q2];exact⟨rfl,rfl,rfl,rfl,rfl,rfl,_,_,rfl,rfl,z1,z2,Gc.trans' gz (by intro z hz h;omega)⟩
   case rest =>
    rintro ev w6 ⟨e0,e2,e4,e6,e7,e12,b10,b11,e10,e11,k10,k11,f6⟩;have hP6:=hP5.fr0 f6;have k6d:=f6.at k5d id;have k6r:=f6.at k5r id;have r6w:=hP6.ck.wd0;have r6wd:rdO prog 3 w6.drew cb 0=_:=r6w;have r10:=rd_d agg23 sz23 k10 l1;have r10d:rdO prog 23 w6.drew b10 0=_:=r10;have r11:=rd_d agg23 sz23 k11 l2;have r11d:rdO prog 23 w6.drew b11 0=_:=r11
    have f45:Fr (fun b=>b=cb∨F0 b) w0 w5:=fw4.trans' f5 fun b hb h=>by
     rcases hFo b h with h' | h'
     ·exact .inr h'
     ·omega
    have ht6:Tabs w6:=(ht.fr f45 fun b hb hh=>by
     rcases hh with rfl | hh
     ·have:=hP.tb;omega
     ·have:=(hS.safe b hh).1;omega).no f6
    simp -implicitDefEqProofs only[go_sem,jF,jB,e0,e10,e11,r6wd,r10d,r11d];refine qQa pl110 ((branch w6.drew (ht6.no (Fr.refl _ _).drew) wd l1 l2).mono ?_);rintro _ w7 ⟨rfl,f7⟩;have f67:No w6 w7:=(Fr.refl _ _).drew.trans f7;rw[← hup];have k7d:=f67.at k6d id;have q7:=wr_d sz23 k7d hdl hplen1;simp -implicitDefEqProofs only[go_sem,jF,q7,c1,e0,e2,e4,e6,e7,e12];have f8:Fr (fun b=>b=w0.heap.size) w7 (put w7 w0.heap.size (.cells (bl (path (h+1))) 23 (0,0))):=(Fr.refl _ _).put (b:=w0.heap.size) _ fun _=>rfl;have f58:No w5 w7:=f6.trans f67;have s57:=f58.size
    have hFn:∀ b,F' b→5≤b∧b≠cb∧qQb vv≠some b∧qQb sv≠some b∧qQb bv2≠some b∧b≠w0.heap.size∧b≠w0.heap.size+1:=fun b hb=>by
     rcases hF5 b hb with h' | h'
     ·obtain⟨a1,a2,a3,a4,_,a6,a7⟩:=hF b h'
      exact⟨a1,a2,a3,a4,hF2 b h',a6,a7⟩
     ·refine⟨by have:=hP.tb;omega,by omega,fun hb=>?_,fun hb=>?_,fun hb=>?_,by omega,by omega⟩
      ·have:=hP2.vlt b hb;omega
      ·have:=hP2.slt b hb;omega
      ·rcases hP4.bl with h | ⟨h,_⟩
       ·rw[h]at hb;cases hb
       ·obtain⟨b',o',cap',e',_,hlt'⟩:=h.pos (by rw[qQm];omega)
        rw[e']at hb;simp only[qQb,oSi]at hb;omega
    refine⟨256 - (h+1),by omega,h+1,bv2,F',by rw[hat2],by omega,rfl,(hP6.fr0 f67).frF f8 (by omega) (fun b hb h=>by have:=hP.vlt b h;omega) (fun b hb h=>by have:=hP.slt b h;omega) (fun b hb h=>by have:=hbv2 b h;omega),hor3,qQf k7d,f8.at (f67.at k6r id) (by omega),hS.fr (hS.fr hJ5 f58 fun _ h=>h.elim) f8 (fun b hb hb'=>by subst hb;exact (hFn _ hb').2.2.2.2.2.1 rfl),hFn,?_,fun b hb=>?_,hbv2,.inr hnil2⟩
    ·exact (f45.trans (f58.mono fun _ _ h=>h.elim)).trans' f8 fun b hb h=>by omega
    ·rcases hF5 b hb with h' | h'
     ·exact hFo b h'
     ·exact .inr (by omega)
 ·have d1:=dFo ((h:Int)<256)
  obtain rfl:h=256:=by omega
  have rd:=rd_d agg23 sz23 kd (hplen 256);have q:=wr_d sz23 kr zl32 (hplen 256);have l:=rd_d agg23 sz23 (qQf (o:=.cells (bl (path 256)) 23 (0,0)) kr) (hplen 256);simp -implicitDefEqProofs only[go_sem,jF,d1,rd,q,l];have f8:Fr (fun b=>b=w0.heap.size+1) w (put w (w0.heap.size+1) (.cells (bl (path 256)) 23 (0,0))):=(Fr.refl _ _).put (b:=w0.heap.size+1) _ fun _=>rfl;have hP8:=hP1.frF f8 (by omega) (fun b hb h=>by have:=hP.vlt b h;omega) (fun b hb h=>by have:=hP.slt b h;omega) (fun b hb h=>by have:=hbv1 b h;omega);refine⟨bv1,F,hP8,?_,hor,hS.fr hJ f8 (fun b hb hb'=>(hF b hb').2.2.2.2.2.2 hb),fw.trans' f8 fun b hb h=>by omega,hFo⟩
  rcases hP8.bl with h | ⟨h,_⟩
  ·rcases hnn with h' | h'
   ·omega
   ·exact absurd h h'
  ·exact h
end C
theorem storeL_mid {A B B' C:List Value}(h:B'.length=B.length)(ho:A.length=o):qXo B' o (A++(B++C)).toArray=(A++(B'++C)).toArray:=by
 subst ho;apply Array.toList_inj.1;rw[qXk _ _ _ (by simp[h])];simp[h,List.drop_append]
theorem set_mid {u v:Value}(ho:A.length=o):((A++u::C).toArray).setIfInBounds o v=(A++v::C).toArray:=by
 subst ho;apply Array.toList_inj.1;simp[]
theorem bldCk {k root:Bs}(hk:k.length=32)(hr:root.length=32)(hv:one rv=true):bldO prog 200 [(0, .int .i64 wd), (1, dg k), (2, rv), (3, dg root)] =
  some (.agg (ckL wd k rv root (prL false (.slice .none 0 0) (zG 32 0) (.slice .none 0 0)) (zG 32 0) (.slice .none 0 0)).toArray):=by
 simp only[bldO,zero200,places200,Option.bind_some]
 obtain⟨P,hP⟩:∃ P,P=prL false (.slice .none 0 0) (zG 32 0) (.slice .none 0 0):=⟨_,rfl⟩
 have hPl:P.length=35:=by rw[hP];exact qXv (by simp)
 have z32:(zG 32 (0:Byte)).length=32:=by simp
 have hZ:(Value.agg (#[.int .i64 0]++xR 32 (.int .u8 0)++#[.slice none 0 0]++xR 32 (.int .u8 0)++#[.bool false,.slice none 0 0]++xR 32 (.int .u8 0)++#[.slice none 0 0]++xR 32 (.int .u8 0)++#[.slice none 0 0])).cells=(ckL 0 (zG 32 0) (.slice .none 0 0) (zG 32 0) P (zG 32 0) (.slice .none 0 0)).toArray:=by
  rw[hP];rfl
 rw[hZ];have sz:∀ (wd:Int) (k:Bs) (rv:Value) (root:Bs),k.length=32→root.length=32→(ckL wd k rv root P (zG 32 0) (.slice .none 0 0)).toArray.size=134:=fun wd k rv root h1 h2=>by simp[ckL,h1,h2,hPl]
 rw[qXj (off:=0) rfl rfl (by rw[sz _ _ _ _ z32 z32];decide)];rw[show ((ckL 0 (zG 32 0) (.slice .none 0 0) (zG 32 0) P (zG 32 0) (.slice .none 0 0)).toArray).setIfInBounds 0 (.int .i64 wd)=(ckL wd (zG 32 0) (.slice .none 0 0) (zG 32 0) P (zG 32 0) (.slice .none 0 0)).toArray from set_mid (A:=[]) rfl];rw[qZd (off:=1) (n:=32) rfl (by simp[jM,hk]) (by rw[sz _ _ _ _ z32 z32];decide)];rw[show qXo (dg k).cells.toList 1 ((ckL wd (zG 32 0) (.slice .none 0 0) (zG 32 0) P (zG 32 0) (.slice .none 0 0)).toArray)=(ckL wd k (.slice .none 0 0) (zG 32 0) P (zG 32 0) (.slice .none 0 0)).toArray from storeL_mid (A:=[.int .i64 wd]) (B:=(zG 32 (0:Byte)).map u8) (B':=k.map u8) (by simp[hk]) rfl];rw[qXj (off:=33) rfl hv (by rw[sz _ _ _ _ hk z32];decide)];rw[show ((ckL wd k (.slice .none 0 0) (zG 32 0) P (zG 32 0) (.slice .none 0 0)).toArray).setIfInBounds 33 rv=(ckL wd k rv (zG 32 0) P (zG 32 0) (.slice .none 0 0)).toArray from set_mid (A:=.int .i64 wd::k.map u8) (by simp[hk])];rw[qZd (off:=34) (n:=32) rfl (by simp[jM,hr]) (by rw[sz _ _ _ _ hk z32];decide)]
 have e4:qXo (root.map u8) 34 ((ckL wd k rv (zG 32 0) P (zG 32 0) (.slice .none 0 0)).toArray)=(ckL wd k rv root P (zG 32 0) (.slice .none 0 0)).toArray:=by
  have:=storeL_mid (A:=.int .i64 wd::(k.map u8++[rv])) (B:=(zG 32 (0:Byte)).map u8) (B':=root.map u8) (C:=P++((zG 32 (0:Byte)).map u8++[.slice .none 0 0])) (by simp[hr]) (o:=34) (by simp[hk]);simpa only[ckL,List.cons_append,List.append_assoc,List.nil_append] using this
 rw[show (dg root).cells.toList=root.map u8 from rfl,e4,fill_nil',Option.map_some,hP]
namespace C
theorem seen0 (w0:World)(cb:Nat)(vv sv bv:Value)(path near:Nat→Bs)(C:World→Prop)(hl:∀ h,(path h).length=32)(hn:∀ h,h<256→(near h).length=32):Seen w0 cb vv sv bv 202 #[] #[] path near (fun _ _ F=>∀ b,¬ F b) (fun _=>False) C where
 pl:=pl202
 init:=fun _ h=>h
 fr:=fun h _ _=>h
 lt:=fun h b hb=>(h b hb).elim
 run:=fun {h w F} hh hJ _ _=>by
  show Fn prog 202 #[.int .i64 (h:Nat),dg (path h),dg (near h)] w _;refine go202 (by simp) ?_;obtain⟨W,hW,f1,_⟩:=qZa w (bl (path h)) 23 (bl (near h)) 23;simp -implicitDefEqProofs only[go_sem,jF,vJ,Tryz.f202,jM,hW];exact⟨fun _=>False,fun _ h=>h,f1.mono fun _ _ h=>h.elim,fun _ h=>h.elim⟩
 own:=.inr fun _ _ _ h=>h
 safe:=fun _ h=>h.elim
def clD (wd:Int)(k:Bs)(a:Option Bs)(bits:Bs)(sums:List Bs):Bs:=V.climb wd k 0 (Wit.ldig wd k a) (rX wd bits sums)
theorem clD_len (wd:Int)(k:Bs)(a:Option Bs)(bits:Bs)(sums:List Bs):(clD wd k a bits sums).length=32:=qJa _ _ _ _ _ (Wit.ldig_len _ _ _)
theorem leads (w0:World)(ht:Tabs w0){k root:Bs}{sums:List Bs}{e:Bs}(hP:CkP w0 cb wd k root a bits sums rv vv sv bv e) :
  Fn prog 153 #[pt cb 0] w0 fun v w'=>v=.int .i64 (if clD wd k a bits sums=root then 0 else 131)∧Fr (fun b=>b=cb) w0 w'∧∃ bv' e',CkP w' cb wd k root a bits sums rv vv sv bv' e'∧RdD w' bv' (empts wd 256)∧(bv=.slice .none 0 0∨bv'=bv):=by
 refine go153 (by simp) ?_;simp -implicitDefEqProofs only[go_sem,jF,Tryz.f153];refine qQa pl156 ((first w0 ht hP.ck hP.vl hP.le).mono ?_);rintro _ w2 ⟨rfl,f2⟩
 have hnl:∀ h,h<256→(rQ wd bits sums h).length=32:=fun h hh=>by
  unfold rQ;split
  ·exact qQp _ _
  ·rename_i hb
   obtain⟨hal,_⟩:=Wit.gs_at hP.sl hh (by simpa using hb);exact hP.sm.1.getD hal
 have hl:=Wit.ldig_len wd k a;simp -implicitDefEqProofs only[go_sem,jF];refine qQa pl155 ((climb w2 (ht.no f2) (hP.fr0 f2) hl (seen0 w2 cb vv sv bv _ _ _ (fun h=>qJa _ _ _ _ _ hl) hnl)).mono ?_);rintro _ w3 ⟨rfl,bv3,F,hP3,hR3,hor,_,f3,_⟩;have f23:Fr (fun b=>b=cb) w2 w3:=f3.mono fun _ _ h=>h.elim id fun h=>h.elim;have f03:Fr (fun b=>b=cb) w0 w3:=(f2.mono fun _ _ h=>h.elim).trans f23;have hdl:=clD_len wd k a bits sums;obtain⟨w4,q4,hC4,f4⟩:=hP3.ck.putE (e':=clD wd k a bits sums) hdl;have q4:wrO prog 23 w3 cb 101 (dg (V.climb wd k 0 (Wit.ldig wd k a) (rX wd bits sums)))=some w4:=q4;have hP4:=hP3.frC f4 hC4 (hP3.bl.frC f4);have re:=hC4.end;have rr:=hC4.rdRoot;have red:rdO prog 23 w4.drew cb 101=_:=re;have rrd:rdO prog 23 w4.drew cb 34=_:=rr;have eq:=eqDig hdl hP.ck.lr;have fd:No w4 w4.drew:=(Fr.refl _ _).drew
 have hR4:RdD w4 bv3 (empts wd 256):=by
  rcases hP4.bl with h | ⟨h,_⟩
  ·obtain⟨b',o,cap,e',_⟩:=hR3.pos (by rw[qQm];omega)
   rw[h]at e';cases e'
  ·exact h
 by_cases hd:clD wd k a bits sums=root
 ·have hb:(clD wd k a bits sums == root)=true:=by rw[beq_iff_eq];exact hd
  simp -implicitDefEqProofs only[go_sem,jF,q4,red,rrd,eq,hb,Bool.not_true];rw[if_pos hd];exact⟨rfl,(f03.trans f4).trans (fd.mono fun _ _ h=>h.elim),bv3,_,hP4.fr0 fd,hR4.fr0 fd,hor⟩
 ·have hb:(clD wd k a bits sums == root)=false:=by rw[bFn];exact hd
  simp -implicitDefEqProofs only[go_sem,jF,q4,red,rrd,eq,hb,Bool.not_false];rw[if_neg hd];exact⟨rfl,(f03.trans f4).trans (fd.mono fun _ _ h=>h.elim),bv3,_,hP4.fr0 fd,hR4.fr0 fd,hor⟩
end C
end Go.V
