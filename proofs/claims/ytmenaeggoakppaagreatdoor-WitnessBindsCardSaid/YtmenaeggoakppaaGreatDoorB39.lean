/-
 Helpers: ClD.
-/
import Derived.Test.YtmenaeggoakppaaGreatDoorB38
set_option linter.all false
section
namespace Go.V
open Go.Proofs Sha
set_option maxRecDepth 100000
def sd1 (k d n:Bs) (h:Nat):Bs:=if kbit k (255 - h) then n else d
def sd2 (k d n:Bs) (h:Nat):Bs:=if kbit k (255 - h) then d else n
theorem sd1_len {k d n:Bs} {h:Nat} (hd:d.length=32) (hn:n.length=32):(sd1 k d n h).length=32:=by unfold sd1;split <;> assumption
theorem sd2_len {k d n:Bs} {h:Nat} (hd:d.length=32) (hn:n.length=32):(sd2 k d n h).length=32:=by unfold sd2;split <;> assumption
theorem sd_up (wd:Int) (k d n:Bs) (h:Nat):branchD wd (sd1 k d n h) (sd2 k d n h)=up wd k h d n:=by unfold sd1 sd2 up;split <;> rfl
theorem climb_succ (wd:Int) (k d0:Bs) {l:List Bs} {h:Nat} (hh:h<l.length):climb wd k 0 d0 (l.take (h+1))=up wd k h (climb wd k 0 d0 (l.take h)) (l.getD h []):=by
 rw[List.take_succ_eq_append_getElem hh,climb_app,getD_lt _ hh,Nat.zero_add,List.length_take,Nat.min_eq_left (by omega)]
 rfl
/-- two digests stored at two places -/
theorem st2d {w : World} {b c : Nat} (hb : w.heap[b]? = some (.cells (bl (List.replicate 32 0)) 23 (0, 0))) (hc : w.heap[c]? = some (.cells (bl (List.replicate 32 0)) 23 (0, 0))) (hne : b ≠ c) {x y : Bs} (hx : x.length = 32) (hy : y.length = 32) :
    ∃ u v,wrO Tryz.prog 23 w b 0 (dg x) = some u ∧ wrO Tryz.prog 23 u c 0 (dg y) = some v ∧ v.heap[b]? = some (.cells (bl x) 23 (0,0)) ∧ v.heap[c]? = some (.cells (bl y) 23 (0,0)) ∧ Fr (fun z => z = b ∨ z = c) w v := by
 have k2:=put_off (b:=b) (o:=.cells (bl x) 23 (0,0)) hc hne
 have k1:=put_at (o:=.cells (bl x) 23 (0,0)) hb
 have f1:Fr (fun z=>z=b∨z=c) w (put w b (.cells (bl x) 23 (0,0))):=(Fr.refl _ _).put (b:=b) _ fun _=>.inl rfl
 exact⟨_,_,wr_d Tryz.sz23 hb zl32 hx,wr_d Tryz.sz23 k2 zl32 hy,put_off (b:=c) (o:=.cells (bl y) 23 (0,0)) k1 (fun h=>hne h.symm),put_at k2,f1.put (b:=c) _ fun _=>.inr rfl⟩
theorem nearL_len (wd:Int) (bits:Bs) (sums:List Bs):(Wit.nearL wd bits sums).length=256:=by simp[Wit.nearL]
theorem nearL_at (wd:Int) (bits:Bs) (sums:List Bs) {h:Nat} (hh:h<256):(Wit.nearL wd bits sums).getD h []=Wit.nearH wd bits sums h:=by
 rw[getD_lt _ (by rw[nearL_len];exact hh)];simp[Wit.nearL]
namespace C
theorem sidesC (w0 : World) {k d n : Bs} (hk : k.length = 32) (hd : d.length = 32) (hn : n.length = 32) {h : Nat} (hh : h < 256) :
    Fn Tryz.prog 158 #[dg k,.int .i64 (h : Nat),dg d,dg n] w0 fun v w' => v = .tuple #[dg (sd1 k d n h),dg (sd2 k d n h)] ∧ No w0 w' :=
 (sides w0 hk hd hn hh).mono fun v w' ⟨h1,h2⟩=>⟨by rw[h1];unfold sd1 sd2;split <;> rfl,h2⟩
/-- what a climb hands to whoever sees: a state by height and the blocks that are its own -/
structure Seen (w0:World) (cb:Nat) (vv sv bv:Value) (gs:FuncId) (bs cs:Array Value) (path near:Nat→Bs) (J:Nat→World→(Nat→Prop)→Prop) (F0:Nat→Prop) (C:World→Prop):Prop where
 pl:plainFn Tryz.prog gs=true
 init:J 0 w0 F0
 fr:∀ {h w w' F F'},J h w F→Fr F' w w'→(∀ b,F' b→¬ F b)→J h w' F
 lt:∀ {h w F},J h w F→∀ b,F b→b<w.heap.size
 run:∀ {h w F},h<256→J h w F→No w0 w0→C w→Fn Tryz.prog gs (bs++#[.int .i64 (h:Nat),dg (path h),dg (near h)]++cs) w fun r w'=>r=.tuple #[]∧∃ F',J (h+1) w' F'∧Fr F w w'∧∀ b,F' b→F b∨w.heap.size≤b
 own:bv≠.slice Option.none 0 0∨∀ h w F,J h w F→∀ b,¬ F b
 safe:∀ b,F0 b→5≤b∧b≠cb∧blockOf vv≠some b∧blockOf sv≠some b∧blockOf bv≠some b
def clI (w0:World) (cb:Nat) (wd:Int) (k root:Bs) (a:Option Bs) (bits:Bs) (sums:List Bs) (rv vv sv bv:Value) (e:Bs) (path:Nat→Bs) (J:Nat→World→(Nat→Prop)→Prop) (F0:Nat→Prop) (fv:Value) (n:Nat) (vs:List Value) (w:World):Prop :=
 ∃ (h:Nat) (bv':Value) (F:Nat→Prop),vs=[pt cb 0,fv,pt w0.heap.size 0,pt (w0.heap.size+1) 0,.int .i64 ((Wit.poss bits h 0).length:Nat),.int .i64 (h:Nat)]∧h≤256∧n=256 - h∧CkP w cb wd k root a bits sums rv vv sv bv' e∧(bv=.slice Option.none 0 0∨bv'=bv) ∧
  w.heap[w0.heap.size]?=some (.cells (bl (path h)) 23 (0,0))∧w.heap[w0.heap.size+1]?=some (.cells (bl (List.replicate 32 0)) 23 (0,0))∧J h w F∧(∀ b,F b→5≤b∧b≠cb∧blockOf vv≠some b∧blockOf sv≠some b∧blockOf bv'≠some b∧b≠w0.heap.size∧b≠w0.heap.size+1)∧Fr (fun b=>b=cb∨F0 b) w0 w∧(∀ b,F b→F0 b∨w0.heap.size≤b)∧(∀ b,blockOf bv'=some b→b<w0.heap.size∨w0.heap.size+2≤b)∧(h=0∨bv'≠.slice Option.none 0 0)
def clK (w4:World) (cb db rb h at1:Nat) (fv:Value) (X Y:Bs) (x0 x2 x4 x6 x7 x12 x10 x11:Value) (w:World):Prop :=
 x0=pt cb 0∧x2=fv∧x4=pt db 0∧x6=pt rb 0∧x7=.int .i64 (at1:Nat)∧x12=.int .i64 (h:Nat)∧∃ b c,x10=pt b 0∧x11=pt c 0∧w.heap[b]?=some (.cells (bl X) 23 (0,0))∧w.heap[c]?=some (.cells (bl Y) 23 (0,0))∧No w4 w
set_option maxHeartbeats 4000000 in
theorem climb (w0 : World) (ht : Tabs w0) {cb : Nat} {wd : Int} {k root : Bs} {a : Option Bs} {bits : Bs} {sums : List Bs} {rv vv sv bv : Value} {e : Bs} (hP : CkP w0 cb wd k root a bits sums rv vv sv bv e) {d0 : Bs} (hd0 : d0.length = 32)
    {gs : FuncId} {bs cs : Array Value} {J : Nat → World → (Nat → Prop) → Prop} {F0 : Nat → Prop}
    (hS : Seen w0 cb vv sv bv gs bs cs (fun h => V.climb wd k 0 d0 ((Wit.nearL wd bits sums).take h)) (Wit.nearH wd bits sums) J F0 (fun w => Tabs w ∧ ∃ bv',CkP w cb wd k root a bits sums rv vv sv bv' e)) :
    Fn Tryz.prog 155 #[pt cb 0,dg d0,.func (.func gs) bs cs] w0 fun v w' => v = dg (V.climb wd k 0 d0 (Wit.nearL wd bits sums)) ∧ ∃ bv' F,CkP w' cb wd k root a bits sums rv vv sv bv' e ∧ RdD w' bv' (empts wd 256) ∧ (bv = .slice Option.none 0 0 ∨ bv' = bv) ∧ J 256 w' F ∧ Fr (fun b => b = cb ∨ F0 b) w0 w' ∧ (∀ b,F b → F0 b ∨ w0.heap.size ≤ b) := by
 refine Tryz.go155 (by simp) ?_
 obtain⟨W,hW,f1,k1,k2,s1⟩:=allocs2 w0 (bl d0) 23 (bl (List.replicate 32 0)) 23
 obtain⟨path,hpath⟩:∃ path:Nat→Bs,path=fun h=>V.climb wd k 0 d0 ((Wit.nearL wd bits sums).take h):=⟨_,rfl⟩
 have hp0:path 0=d0:=by rw[hpath];rfl
 have hplen:∀ h,(path h).length=32:=fun h=>by rw[hpath];exact climb_len _ _ _ _ _ hd0
 have hps:∀ h,h<256→path (h+1)=up wd k h (path h) (Wit.nearH wd bits sums h):=fun h hh=>by
  rw[hpath]
  show V.climb wd k 0 d0 _=_
  rw[climb_succ wd k d0 (by rw[nearL_len];exact hh),nearL_at wd bits sums hh]
 have hp256:path 256=V.climb wd k 0 d0 (Wit.nearL wd bits sums):=by
  rw[hpath]
  show V.climb wd k 0 d0 _=_
  rw[List.take_of_length_le (by rw[nearL_len];exact Nat.le_refl _)]
 rw[← hpath] at hS
 rw[← hp256]
 clear hpath hp256
 have hcl:=hP.ck.lt
 have hlt0:=hS.lt hS.init
 have hbv0:∀ b,blockOf bv=some b→b<w0.heap.size∨w0.heap.size+2≤b:=fun b hb=>by
  rcases hP.bl with h | ⟨h,_⟩
  ·rw[h] at hb;cases hb
  ·obtain⟨b',o,cap,e,_,hlt⟩:=h.pos (by rw[empts_len];omega)
   rw[e] at hb
   simp only[blockOf,Option.some.injEq] at hb
   omega
 simp -implicitDefEqProofs only[go_sem,Nat.reduceEqDiff,Nat.reduceBEq,Nat.reduceAdd,gLa,gLz,gLs,Tryz.f155,Value.cells,bl_zero,hW]
 refine loopD [0,2,4,6,7,12] (clI w0 cb wd k root a bits sums rv vv sv bv e path J F0 (.func (.func gs) bs cs)) 256 ⟨0,bv,F0,rfl,by omega,rfl,hP.fr0 f1,.inr rfl,by rw[hp0];exact k1,k2,hS.fr hS.init f1 (fun _ h=>h.elim),fun b hb=>⟨(hS.safe b hb).1,(hS.safe b hb).2.1,(hS.safe b hb).2.2.1,(hS.safe b hb).2.2.2.1,(hS.safe b hb).2.2.2.2,by have:=hlt0 b hb;omega,by have:=hlt0 b hb;omega⟩,f1.mono fun _ _ h=>h.elim,fun b h=>.inl h,hbv0,.inl rfl⟩ ?_
 rintro _ vs w g ⟨h,bv1,F,rfl,hh,rfl,hP1,hor,kd,kr,hJ,hF,fw,hFo,hbv1,hnn⟩
 have hsz:w0.heap.size+2≤w.heap.size:=by have:=heap_lt kr;omega
 have htw:Tabs w:=ht.fr fw fun b hb hh=>by
  rcases hh with rfl | hh
  ·have:=hP.tb;omega
  ·have:=(hS.safe b hh).1;omega
 by_cases hlt:h<256
 ·have d1:decide ((h:Int)<256)=true:=decide_eq_true (by omega)
  have c1:IntKind.i64.wrap ((h:Int)+1)=((h+1:Nat):Int):=i64add (b:=1) (by omega)
  have hle:=Wit.poss_le bits h 0
  simp -implicitDefEqProofs only[go_sem,Nat.reduceEqDiff,Nat.reduceBEq,Nat.reduceAdd,gLa,gLz,gLs,d1]
  refine contL_call Tryz.pl201 ((bareP w htw hP1 hlt).mono ?_)
  rintro _ w2 ⟨rfl,f2,bv2,hP2,hRb,hor2⟩
  have hJ2:J h w2 F:=hS.fr hJ f2 fun b hb hb'=>(hF b hb').2.1 hb
  have s2:=f2.size
  have k2d:=f2.at kd (by omega)
  have k2r:=f2.at kr (by omega)
  have hor3:bv=.slice Option.none 0 0∨bv2=bv:=by
   rcases hor with h | h
   ·exact .inl h
   ·rcases hor2 with g | g
    ·exact .inl (h.symm.trans g.1)
    ·exact .inr (g.trans h)
  have hbv2:∀ b,blockOf bv2=some b→b<w0.heap.size∨w0.heap.size+2≤b:=fun b hb=>by
   rcases hor2 with g | g
   ·have:=g.2 b hb;omega
   ·rw[g] at hb;exact hbv1 b hb
  have hnil2:bv2≠.slice Option.none 0 0:=fun e=>by
   obtain⟨b',o,cap,e',_⟩:=hRb.pos (by rw[empts_len];omega)
   rw[e] at e'
   cases e'
  have hF2:∀ b,F b→blockOf bv2≠some b:=fun b hb=>by
   rcases hor2 with g | g
   ·rcases hS.own with h | h
    ·rcases hor with h' | h'
     ·exact absurd h' h
     ·rw[h'] at g;exact absurd g.1 h
    ·exact absurd hb (h _ _ _ hJ b)
   ·rw[g];exact (hF b hb).2.2.2.2.1
  obtain⟨w3,q3,k3,f3,s3⟩:=R.allocD w2 Tryz.sz23 (emptD_len wd h)
  have f03:Fr (fun b=>b=cb∨F0 b) w0 w3:=(fw.trans (f2.mono fun _ _ h=>.inl h)).trans (f3.mono fun _ _ h=>h.elim)
  have hP3:=hP2.fr0 f3
  have hJ3:J h w3 F:=hS.fr hJ2 f3 fun _ h=>h.elim
  have k3d:=f3.at k2d id
  have k3r:=f3.at k2r id
  have hF3:∀ b,F b→b<w2.heap.size:=fun b hb=>by have:=hS.lt hJ2 b hb;exact this
  simp -implicitDefEqProofs only[go_sem,Nat.reduceEqDiff,Nat.reduceBEq,Nat.reduceAdd,gLa,gLz,gLs,Value.cells,bl_zero,q3]
  refine contL_call Tryz.pl200 ((bitOf w3 hP3.bits68 hlt).mono ?_)
  rintro _ _ ⟨rfl,rfl⟩
  rename_i w3
  have hnl:(Wit.nearH wd bits sums h).length=32:=by
   unfold Wit.nearH
   split
   ·exact emptD_len _ _
   ·rename_i hb
    obtain⟨hal,_⟩:=Wit.gs_at hP.sl hlt (by simpa using hb)
    exact hP.sm.1.getD hal
  have hdl:=hplen h
  have l1:=sd1_len (k:=k) (h:=h) hdl hnl
  have l2:=sd2_len (k:=k) (h:=h) hdl hnl
  have hrun:∀ {w:World} {F:Nat→Prop},J h w F→(Tabs w∧∃ bv',CkP w cb wd k root a bits sums rv vv sv bv' e)→Fn Tryz.prog gs (bs++#[.int .i64 (h:Nat),dg (path h),dg (Wit.nearH wd bits sums h)]++cs) w fun r w'=>r=.tuple #[]∧∃ F',J (h+1) w' F'∧Fr F w w'∧∀ b,F' b→F b∨w.heap.size≤b:=fun hJ hC=>hS.run hlt hJ (Fr.refl _ _) hC
  have hup:=(hps h hlt).trans (sd_up wd k (path h) (Wit.nearH wd bits sums h) h).symm
  have hplen1:=hplen (h+1)
  have hcb2:cb<w2.heap.size:=hP2.ck.lt
  cases hm:Wit.mbit bits h with
  | false =>
   have hnear:Wit.nearH wd bits sums h=emptD wd h:=by unfold Wit.nearH;rw[if_pos hm]
   have hsk:=Wit.gs_skip hm
   rw[← hnear] at k3
   obtain⟨at1,hat1⟩:∃ at1,at1=(Wit.poss bits h 0).length:=⟨_,rfl⟩
   have hat2:at1=(Wit.poss bits (h+1) 0).length:=by rw[hat1,hsk]
   rw[← hat1]
   generalize Wit.nearH wd bits sums h=N at *
   have f24:No w2 w3:=f3
   have k4:=k3
   have w4d:∃ w4,w4=w3:=⟨_,rfl⟩
   obtain⟨w4,hw4⟩:=w4d
   rw[← hw4] at k4 f24 ⊢
   have fw4:Fr (fun b=>b=cb∨F0 b) w0 w4:=(fw.trans (f2.mono fun _ _ h=>.inl h)).trans (f24.mono fun _ _ h=>h.elim)
   have hP4:=hP2.fr0 f24
   have hJ4:J h w4 F:=hS.fr hJ2 f24 fun _ h=>h.elim
   have k4d:=f24.at k2d id
   have k4r:=f24.at k2r id
   have s24:=f24.size
   have ht4:Tabs w4:=ht.fr fw4 fun b hb hh=>by
    rcases hh with rfl | hh
    ·have:=hP.tb;omega
    ·have:=(hS.safe b hh).1;omega
   have rpd:=rd_d Tryz.agg23 Tryz.sz23 k4d hdl
   have rpn:=rd_d Tryz.agg23 Tryz.sz23 k4 hnl
   simp -implicitDefEqProofs only[go_sem,Nat.reduceEqDiff,Nat.reduceBEq,Nat.reduceAdd,gLa,gLz,gLs,rpd,rpn]
   refine contL_call hS.pl ((hrun hJ4 ⟨ht4,bv2,hP4⟩).mono ?_)
   rintro _ w5 ⟨rfl,F',hJ5,f5,hF5⟩
   have hF4:∀ b,F b→b<w2.heap.size:=fun b hb=>hS.lt hJ2 b hb
   have s45:=f5.size
   have hP5:=hP4.frF f5 (fun h=>(hF cb h).2.1 rfl) (fun b h=>(hF b h).2.2.1) (fun b h=>(hF b h).2.2.2.1) hF2
   have k5d:=f5.at k4d fun h=>(hF _ h).2.2.2.2.2.1 rfl
   have k5r:=f5.at k4r fun h=>(hF _ h).2.2.2.2.2.2 rfl
   have k5n:=f5.at k4 fun h=>by have:=hF4 _ h;omega
   have rk:=hP5.ck.key
   have rkd:rdO Tryz.prog 34 w5.drew cb 1=_:=rk
   have rd4:=rd_d Tryz.agg23 Tryz.sz23 k5d hdl
   have rd4d:rdO Tryz.prog 23 w5.drew w0.heap.size 0=_:=rd4
   have rn4:=rd_d Tryz.agg23 Tryz.sz23 k5n hnl
   have rn4d:rdO Tryz.prog 23 w5.drew w2.heap.size 0=_:=rn4
   simp -implicitDefEqProofs only[go_sem,Nat.reduceEqDiff,Nat.reduceBEq,Nat.reduceAdd,gLa,gLz,gLs]
   refine den_ot (fun j=>j == 7 || (j == 11 || j == 12)) (.one 0 (.one 1 (.one 2 (.one 3 (.one 4 (.one 5 (.one 6 (.tri 7 (.one 8 (.one 9 (.one 10 (.two 11 (.row [12,13,14]) 12 (.row [11,13,14]))))) 11 (.two 7 (.row [8,9,10,12,13,14]) 12 (.row [7,8,9,10,13,14])) 12 (.two 7 (.row [8,9,10,11,13,14]) 11 (.row [7,8,9,10,13,14])))))))))) rfl (by kernel_rfl) (by kernel_rfl) ?_
   refine denOT_mono (K:=fun ev w=>clK w5 cb w0.heap.size (w0.heap.size+1) h at1 (.func (.func gs) bs cs) (sd1 k (path h) N h) (sd2 k (path h) N h) (ev 0) (ev 2) (ev 4) (ev 6) (ev 7) (ev 12) (ev 10) (ev 11) w) ?rest _ ?main
   case main =>
    have gd:No w5 w5.drew:=(Fr.refl _ _).drew
    simp only[OT.row]
    simp -implicitDefEqProofs only[go_sem,Nat.reduceEqDiff,Nat.reduceBEq,Nat.reduceAdd,gLa,gLz,gLs,Value.cells,bl_zero,rk,rkd,rd4,rd4d,rn4,rn4d]
    refine⟨?_,?_,?_⟩
    ·refine contOT_call Tryz.pl158 ((sidesC w5.drew hP5.ck.lk hdl hnl hlt).mono ?_)
     rintro _ wa ⟨rfl,ga⟩
     refine⟨fun _=>Fr.ext ga,?_⟩
     have Ga:=gd.trans ga
     simp -implicitDefEqProofs only[go_sem,Nat.reduceEqDiff,Nat.reduceBEq,Nat.reduceAdd,gLa,gLz,gLs,Value.cells,bl_zero]
     obtain⟨wc,hwc,gc,kb,kc,sc⟩:=allocs2 wa (bl (List.replicate 32 0)) 23 (bl (List.replicate 32 0)) 23
     have Gc:=Ga.trans gc
     have sGa:=Ga.size
     refine⟨?_,?_⟩
     ·obtain⟨u1,u2,q1,q2,z1,z2,gz⟩:=st2d kb kc (by omega) l1 l2
      simp -implicitDefEqProofs only[go_sem,Nat.reduceEqDiff,Nat.reduceBEq,Nat.reduceAdd,gLa,gLz,gLs,hwc,q1,q2]
      exact⟨rfl,rfl,rfl,rfl,rfl,rfl,_,_,rfl,rfl,z1,z2,Gc.trans' gz (by intro z hz h;omega)⟩
     ·obtain⟨u1,u2,q1,q2,z1,z2,gz⟩:=st2d kc kb (by omega) l1 l2
      simp -implicitDefEqProofs only[go_sem,Nat.reduceEqDiff,Nat.reduceBEq,Nat.reduceAdd,gLa,gLz,gLs,hwc,q1,q2]
      exact⟨rfl,rfl,rfl,rfl,rfl,rfl,_,_,rfl,rfl,z1,z2,Gc.trans' gz (by intro z hz h;omega)⟩
    ·refine⟨fun _=>Ext.alloc w5.drew _,?_⟩
     refine⟨?_,?_⟩
     ·have ga:No w5 (w5.alloc (.cells (bl (List.replicate 32 0)) 23)).drew:=((Fr.refl _ _).alloc _).drew
      have ka:(w5.alloc (.cells (bl (List.replicate 32 0)) 23)).drew.heap[w5.heap.size]?=_:=alloc_blk_new w5 (.cells (bl (List.replicate 32 0)) 23)
      generalize (w5.alloc (.cells (bl (List.replicate 32 0)) 23)).drew=wa at *
      refine contOT_call Tryz.pl158 ((sidesC wa hP5.ck.lk hdl hnl hlt).mono ?_)
      rintro _ wb ⟨rfl,gb⟩
      refine⟨fun _=>Fr.ext gb,?_⟩
      simp -implicitDefEqProofs only[go_sem,Nat.reduceEqDiff,Nat.reduceBEq,Nat.reduceAdd,gLa,gLz,gLs,Value.cells,bl_zero]
      obtain⟨wc,hwc,gc,kc,sc⟩:=allocs1 wb (bl (List.replicate 32 0)) 23
      have Gc:=ga.trans (gb.trans gc)
      have ka2:=gc.at (gb.at ka id) id
      have lne:=heap_lt (gb.at ka id)
      obtain⟨u1,u2,q1,q2,z1,z2,gz⟩:=st2d ka2 kc (by omega) l1 l2
      simp -implicitDefEqProofs only[go_sem,Nat.reduceEqDiff,Nat.reduceBEq,Nat.reduceAdd,gLa,gLz,gLs,hwc,q1,q2]
      exact⟨rfl,rfl,rfl,rfl,rfl,rfl,_,_,rfl,rfl,z1,z2,Gc.trans' gz (by intro z hz h;omega)⟩
     ·refine⟨fun _=>Ext.alloc (w5.alloc (.cells (bl (List.replicate 32 0)) 23)).drew _,?_⟩
      obtain⟨wb,hwb,gb,ka,kb,sb⟩:=allocs2 w5 (bl (List.replicate 32 0)) 23 (bl (List.replicate 32 0)) 23
      rw[hwb]
      refine contOT_call Tryz.pl158 ((sidesC wb.drew hP5.ck.lk hdl hnl hlt).mono ?_)
      rintro _ wc ⟨rfl,gc⟩
      refine⟨fun _=>Fr.ext gc,?_⟩
      have Gc:=gb.drew.trans gc
      have ka2:=gc.at (show wb.drew.heap[w5.heap.size]?=_ from ka) id
      have kb2:=gc.at (show wb.drew.heap[w5.heap.size+1]?=_ from kb) id
      obtain⟨u1,u2,q1,q2,z1,z2,gz⟩:=st2d ka2 kb2 (by omega) l1 l2
      simp -implicitDefEqProofs only[go_sem,Nat.reduceEqDiff,Nat.reduceBEq,Nat.reduceAdd,gLa,gLz,gLs,q1,q2]
      exact⟨rfl,rfl,rfl,rfl,rfl,rfl,_,_,rfl,rfl,z1,z2,Gc.trans' gz (by intro z hz h;omega)⟩
    ·refine⟨fun _=>Ext.alloc w5.drew _,?_⟩
     refine⟨?_,?_⟩
     ·have ga:No w5 (w5.alloc (.cells (bl (List.replicate 32 0)) 23)).drew:=((Fr.refl _ _).alloc _).drew
      have ka:(w5.alloc (.cells (bl (List.replicate 32 0)) 23)).drew.heap[w5.heap.size]?=_:=alloc_blk_new w5 (.cells (bl (List.replicate 32 0)) 23)
      generalize (w5.alloc (.cells (bl (List.replicate 32 0)) 23)).drew=wa at *
      refine contOT_call Tryz.pl158 ((sidesC wa hP5.ck.lk hdl hnl hlt).mono ?_)
      rintro _ wb ⟨rfl,gb⟩
      refine⟨fun _=>Fr.ext gb,?_⟩
      simp -implicitDefEqProofs only[go_sem,Nat.reduceEqDiff,Nat.reduceBEq,Nat.reduceAdd,gLa,gLz,gLs,Value.cells,bl_zero]
      obtain⟨wc,hwc,gc,kc,sc⟩:=allocs1 wb (bl (List.replicate 32 0)) 23
      have Gc:=ga.trans (gb.trans gc)
      have ka2:=gc.at (gb.at ka id) id
      have lne:=heap_lt (gb.at ka id)
      obtain⟨u1,u2,q1,q2,z1,z2,gz⟩:=st2d kc ka2 (by omega) l1 l2
      simp -implicitDefEqProofs only[go_sem,Nat.reduceEqDiff,Nat.reduceBEq,Nat.reduceAdd,gLa,gLz,gLs,hwc,q1,q2]
      exact⟨rfl,rfl,rfl,rfl,rfl,rfl,_,_,rfl,rfl,z1,z2,Gc.trans' gz (by intro z hz h;omega)⟩
     ·refine⟨fun _=>Ext.alloc (w5.alloc (.cells (bl (List.replicate 32 0)) 23)).drew _,?_⟩
      obtain⟨wb,hwb,gb,ka,kb,sb⟩:=allocs2 w5 (bl (List.replicate 32 0)) 23 (bl (List.replicate 32 0)) 23
      rw[hwb]
      refine contOT_call Tryz.pl158 ((sidesC wb.drew hP5.ck.lk hdl hnl hlt).mono ?_)
      rintro _ wc ⟨rfl,gc⟩
      refine⟨fun _=>Fr.ext gc,?_⟩
      have Gc:=gb.drew.trans gc
      have ka2:=gc.at (show wb.drew.heap[w5.heap.size]?=_ from ka) id
      have kb2:=gc.at (show wb.drew.heap[w5.heap.size+1]?=_ from kb) id
      obtain⟨u1,u2,q1,q2,z1,z2,gz⟩:=st2d kb2 ka2 (by omega) l1 l2
      simp -implicitDefEqProofs only[go_sem,Nat.reduceEqDiff,Nat.reduceBEq,Nat.reduceAdd,gLa,gLz,gLs,q1,q2]
      exact⟨rfl,rfl,rfl,rfl,rfl,rfl,_,_,rfl,rfl,z1,z2,Gc.trans' gz (by intro z hz h;omega)⟩
   case rest =>
    rintro ev w6 ⟨e0,e2,e4,e6,e7,e12,b10,b11,e10,e11,k10,k11,f6⟩
    have hP6:=hP5.fr0 f6
    have k6d:=f6.at k5d id
    have k6r:=f6.at k5r id
    have r6w:=hP6.ck.wd0
    have r6wd:rdO Tryz.prog 3 w6.drew cb 0=_:=r6w
    have r10:=rd_d Tryz.agg23 Tryz.sz23 k10 l1
    have r10d:rdO Tryz.prog 23 w6.drew b10 0=_:=r10
    have r11:=rd_d Tryz.agg23 Tryz.sz23 k11 l2
    have r11d:rdO Tryz.prog 23 w6.drew b11 0=_:=r11
    have f45:Fr (fun b=>b=cb∨F0 b) w0 w5:=fw4.trans' f5 fun b hb h=>by
     rcases hFo b h with h' | h'
     ·exact .inr h'
     ·omega
    have ht6:Tabs w6:=(ht.fr f45 fun b hb hh=>by
     rcases hh with rfl | hh
     ·have:=hP.tb;omega
     ·have:=(hS.safe b hh).1;omega).no f6
    simp -implicitDefEqProofs only[go_sem,Nat.reduceEqDiff,Nat.reduceBEq,Nat.reduceAdd,gLa,gLz,gLs,e0,e2,e4,e6,e7,e12,e10,e11,r6w,r6wd,r10,r10d,r11,r11d]
    refine contL_call Tryz.pl110 ((branch w6.drew (ht6.no (Fr.refl _ _).drew) wd l1 l2).mono ?_)
    rintro _ w7 ⟨rfl,f7⟩
    have f67:No w6 w7:=(Fr.refl _ _).drew.trans f7
    rw[← hup]
    have k7d:=f67.at k6d id
    have q7:=wr_d Tryz.sz23 k7d hdl hplen1
    simp -implicitDefEqProofs only[go_sem,Nat.reduceEqDiff,Nat.reduceBEq,Nat.reduceAdd,gLa,gLz,gLs,q7,c1,e0,e2,e4,e6,e7,e12]
    have f8:Fr (fun b=>b=w0.heap.size) w7 (put w7 w0.heap.size (.cells (bl (path (h+1))) 23 (0,0))):=(Fr.refl _ _).put (b:=w0.heap.size) _ fun _=>rfl
    have f58:No w5 w7:=f6.trans f67
    have s57:=f58.size
    have hFn:∀ b,F' b→5≤b∧b≠cb∧blockOf vv≠some b∧blockOf sv≠some b∧blockOf bv2≠some b∧b≠w0.heap.size∧b≠w0.heap.size+1:=fun b hb=>by
     rcases hF5 b hb with h' | h'
     ·obtain⟨a1,a2,a3,a4,_,a6,a7⟩:=hF b h'
      exact⟨a1,a2,a3,a4,hF2 b h',a6,a7⟩
     ·refine⟨by have:=hP.tb;omega,by omega,fun hb=>?_,fun hb=>?_,fun hb=>?_,by omega,by omega⟩
      ·have:=hP2.vlt b hb;omega
      ·have:=hP2.slt b hb;omega
      ·rcases hP4.bl with h | ⟨h,_⟩
       ·rw[h] at hb;cases hb
       ·obtain⟨b',o',cap',e',_,hlt'⟩:=h.pos (by rw[empts_len];omega)
        rw[e'] at hb
        simp only[blockOf,Option.some.injEq] at hb
        omega
    refine⟨256 - (h+1),by omega,h+1,bv2,F',by rw[hat2],by omega,rfl,(hP6.fr0 f67).frF f8 (by omega) (fun b hb h=>by have:=hP.vlt b h;omega) (fun b hb h=>by have:=hP.slt b h;omega) (fun b hb h=>by have:=hbv2 b h;omega),hor3,put_at k7d,f8.at (f67.at k6r id) (by omega),hS.fr (hS.fr hJ5 f58 fun _ h=>h.elim) f8 (fun b hb hb'=>by subst hb;exact (hFn _ hb').2.2.2.2.2.1 rfl),hFn,?_,fun b hb=>?_,hbv2,.inr hnil2⟩
    ·exact (f45.trans (f58.mono fun _ _ h=>h.elim)).trans' f8 fun b hb h=>by omega
    ·rcases hF5 b hb with h' | h'
     ·exact hFo b h'
     ·exact .inr (by omega)
  | true =>
   obtain⟨hal,hsuc,_⟩:=Wit.gs_at hP3.sl hlt hm
   have hnear:Wit.nearH wd bits sums h=sums.getD (Wit.poss bits h 0).length []:=by unfold Wit.nearH;rw[if_neg (by rw[hm];decide)]
   obtain⟨b,o,cap,he,_,hsb⟩:=hP3.sm.pos (by omega)
   have rs:=hP3.ck.sums hP3.hb
   rw[he] at rs
   have hsm:=hP3.sm
   rw[he] at hsm
   have rd:=hsm.get (P:=Tryz.prog) Tryz.agg23 Tryz.sz23 hal
   have y1:(0:Int)≤((Wit.poss bits h 0).length:Int)∧((Wit.poss bits h 0).length:Int)<((sums.length:Nat):Int):=by omega
   have c2:IntKind.i64.wrap (((Wit.poss bits h 0).length:Int)+1)=(((Wit.poss bits h 0).length+1:Nat):Int):=i64add (b:=1) (by omega)
   rw[← hnear] at rd
   have q4:=wr_d Tryz.sz23 k3 (emptD_len wd h) hnl
   obtain⟨at1,hat1⟩:∃ at1,at1=(Wit.poss bits h 0).length+1:=⟨_,rfl⟩
   have hat2:at1=(Wit.poss bits (h+1) 0).length:=by rw[hat1,hsuc]
   rw[← hat1] at c2
   generalize Wit.nearH wd bits sums h=N at *
   have f24:No w2 (put w3 w2.heap.size (.cells (bl N) 23 (0,0))):=f3.put (b:=w2.heap.size) _ fun h=>absurd h (Nat.lt_irrefl _)
   have k4:=put_at (o:=.cells (bl N) 23 (0,0)) k3
   generalize put w3 w2.heap.size (.cells (bl N) 23 (0,0))=w4 at *
   have fw4:Fr (fun b=>b=cb∨F0 b) w0 w4:=(fw.trans (f2.mono fun _ _ h=>.inl h)).trans (f24.mono fun _ _ h=>h.elim)
   have hP4:=hP2.fr0 f24
   have hJ4:J h w4 F:=hS.fr hJ2 f24 fun _ h=>h.elim
   have k4d:=f24.at k2d id
   have k4r:=f24.at k2r id
   have s24:=f24.size
   have ht4:Tabs w4:=ht.fr fw4 fun b hb hh=>by
    rcases hh with rfl | hh
    ·have:=hP.tb;omega
    ·have:=(hS.safe b hh).1;omega
   have rpd:=rd_d Tryz.agg23 Tryz.sz23 k4d hdl
   have rpn:=rd_d Tryz.agg23 Tryz.sz23 k4 hnl
   simp -implicitDefEqProofs only[go_sem,Nat.reduceEqDiff,Nat.reduceBEq,Nat.reduceAdd,gLa,gLz,gLs,rs,y1,and_self,Int.toNat_natCast,rd,q4,c2,rpd,rpn]
   refine contL_call hS.pl ((hrun hJ4 ⟨ht4,bv2,hP4⟩).mono ?_)
   rintro _ w5 ⟨rfl,F',hJ5,f5,hF5⟩
   have hF4:∀ b,F b→b<w2.heap.size:=fun b hb=>hS.lt hJ2 b hb
   have s45:=f5.size
   have hP5:=hP4.frF f5 (fun h=>(hF cb h).2.1 rfl) (fun b h=>(hF b h).2.2.1) (fun b h=>(hF b h).2.2.2.1) hF2
   have k5d:=f5.at k4d fun h=>(hF _ h).2.2.2.2.2.1 rfl
   have k5r:=f5.at k4r fun h=>(hF _ h).2.2.2.2.2.2 rfl
   have k5n:=f5.at k4 fun h=>by have:=hF4 _ h;omega
   have rk:=hP5.ck.key
   have rkd:rdO Tryz.prog 34 w5.drew cb 1=_:=rk
   have rd4:=rd_d Tryz.agg23 Tryz.sz23 k5d hdl
   have rd4d:rdO Tryz.prog 23 w5.drew w0.heap.size 0=_:=rd4
   have rn4:=rd_d Tryz.agg23 Tryz.sz23 k5n hnl
   have rn4d:rdO Tryz.prog 23 w5.drew w2.heap.size 0=_:=rn4
   simp -implicitDefEqProofs only[go_sem,Nat.reduceEqDiff,Nat.reduceBEq,Nat.reduceAdd,gLa,gLz,gLs]
   refine den_ot (fun j=>j == 7 || (j == 11 || j == 12)) (.one 0 (.one 1 (.one 2 (.one 3 (.one 4 (.one 5 (.one 6 (.tri 7 (.one 8 (.one 9 (.one 10 (.two 11 (.row [12,13,14]) 12 (.row [11,13,14]))))) 11 (.two 7 (.row [8,9,10,12,13,14]) 12 (.row [7,8,9,10,13,14])) 12 (.two 7 (.row [8,9,10,11,13,14]) 11 (.row [7,8,9,10,13,14])))))))))) rfl (by kernel_rfl) (by kernel_rfl) ?_
   refine denOT_mono (K:=fun ev w=>clK w5 cb w0.heap.size (w0.heap.size+1) h at1 (.func (.func gs) bs cs) (sd1 k (path h) N h) (sd2 k (path h) N h) (ev 0) (ev 2) (ev 4) (ev 6) (ev 7) (ev 12) (ev 10) (ev 11) w) ?rest _ ?main
   case main =>
    have gd:No w5 w5.drew:=(Fr.refl _ _).drew
    simp only[OT.row]
    simp -implicitDefEqProofs only[go_sem,Nat.reduceEqDiff,Nat.reduceBEq,Nat.reduceAdd,gLa,gLz,gLs,Value.cells,bl_zero,rk,rkd,rd4,rd4d,rn4,rn4d]
    refine⟨?_,?_,?_⟩
    ·refine contOT_call Tryz.pl158 ((sidesC w5.drew hP5.ck.lk hdl hnl hlt).mono ?_)
     rintro _ wa ⟨rfl,ga⟩
     refine⟨fun _=>Fr.ext ga,?_⟩
     have Ga:=gd.trans ga
     simp -implicitDefEqProofs only[go_sem,Nat.reduceEqDiff,Nat.reduceBEq,Nat.reduceAdd,gLa,gLz,gLs,Value.cells,bl_zero]
     obtain⟨wc,hwc,gc,kb,kc,sc⟩:=allocs2 wa (bl (List.replicate 32 0)) 23 (bl (List.replicate 32 0)) 23
     have Gc:=Ga.trans gc
     have sGa:=Ga.size
     refine⟨?_,?_⟩
     ·obtain⟨u1,u2,q1,q2,z1,z2,gz⟩:=st2d kb kc (by omega) l1 l2
      simp -implicitDefEqProofs only[go_sem,Nat.reduceEqDiff,Nat.reduceBEq,Nat.reduceAdd,gLa,gLz,gLs,hwc,q1,q2]
      exact⟨rfl,rfl,rfl,rfl,rfl,rfl,_,_,rfl,rfl,z1,z2,Gc.trans' gz (by intro z hz h;omega)⟩
     ·obtain⟨u1,u2,q1,q2,z1,z2,gz⟩:=st2d kc kb (by omega) l1 l2
      simp -implicitDefEqProofs only[go_sem,Nat.reduceEqDiff,Nat.reduceBEq,Nat.reduceAdd,gLa,gLz,gLs,hwc,q1,q2]
      exact⟨rfl,rfl,rfl,rfl,rfl,rfl,_,_,rfl,rfl,z1,z2,Gc.trans' gz (by intro z hz h;omega)⟩
    ·refine⟨fun _=>Ext.alloc w5.drew _,?_⟩
     refine⟨?_,?_⟩
     ·have ga:No w5 (w5.alloc (.cells (bl (List.replicate 32 0)) 23)).drew:=((Fr.refl _ _).alloc _).drew
      have ka:(w5.alloc (.cells (bl (List.replicate 32 0)) 23)).drew.heap[w5.heap.size]?=_:=alloc_blk_new w5 (.cells (bl (List.replicate 32 0)) 23)
      generalize (w5.alloc (.cells (bl (List.replicate 32 0)) 23)).drew=wa at *
      refine contOT_call Tryz.pl158 ((sidesC wa hP5.ck.lk hdl hnl hlt).mono ?_)
      rintro _ wb ⟨rfl,gb⟩
      refine⟨fun _=>Fr.ext gb,?_⟩
      simp -implicitDefEqProofs only[go_sem,Nat.reduceEqDiff,Nat.reduceBEq,Nat.reduceAdd,gLa,gLz,gLs,Value.cells,bl_zero]
      obtain⟨wc,hwc,gc,kc,sc⟩:=allocs1 wb (bl (List.replicate 32 0)) 23
      have Gc:=ga.trans (gb.trans gc)
      have ka2:=gc.at (gb.at ka id) id
      have lne:=heap_lt (gb.at ka id)
      obtain⟨u1,u2,q1,q2,z1,z2,gz⟩:=st2d ka2 kc (by omega) l1 l2
      simp -implicitDefEqProofs only[go_sem,Nat.reduceEqDiff,Nat.reduceBEq,Nat.reduceAdd,gLa,gLz,gLs,hwc,q1,q2]
      exact⟨rfl,rfl,rfl,rfl,rfl,rfl,_,_,rfl,rfl,z1,z2,Gc.trans' gz (by intro z hz h;omega)⟩
     ·refine⟨fun _=>Ext.alloc (w5.alloc (.cells (bl (List.replicate 32 0)) 23)).drew _,?_⟩
      obtain⟨wb,hwb,gb,ka,kb,sb⟩:=allocs2 w5 (bl (List.replicate 32 0)) 23 (bl (List.replicate 32 0)) 23
      rw[hwb]
      refine contOT_call Tryz.pl158 ((sidesC wb.drew hP5.ck.lk hdl hnl hlt).mono ?_)
      rintro _ wc ⟨rfl,gc⟩
      refine⟨fun _=>Fr.ext gc,?_⟩
      have Gc:=gb.drew.trans gc
      have ka2:=gc.at (show wb.drew.heap[w5.heap.size]?=_ from ka) id
      have kb2:=gc.at (show wb.drew.heap[w5.heap.size+1]?=_ from kb) id
      obtain⟨u1,u2,q1,q2,z1,z2,gz⟩:=st2d ka2 kb2 (by omega) l1 l2
      simp -implicitDefEqProofs only[go_sem,Nat.reduceEqDiff,Nat.reduceBEq,Nat.reduceAdd,gLa,gLz,gLs,q1,q2]
      exact⟨rfl,rfl,rfl,rfl,rfl,rfl,_,_,rfl,rfl,z1,z2,Gc.trans' gz (by intro z hz h;omega)⟩
    ·refine⟨fun _=>Ext.alloc w5.drew _,?_⟩
     refine⟨?_,?_⟩
     ·have ga:No w5 (w5.alloc (.cells (bl (List.replicate 32 0)) 23)).drew:=((Fr.refl _ _).alloc _).drew
      have ka:(w5.alloc (.cells (bl (List.replicate 32 0)) 23)).drew.heap[w5.heap.size]?=_:=alloc_blk_new w5 (.cells (bl (List.replicate 32 0)) 23)
      generalize (w5.alloc (.cells (bl (List.replicate 32 0)) 23)).drew=wa at *
      refine contOT_call Tryz.pl158 ((sidesC wa hP5.ck.lk hdl hnl hlt).mono ?_)
      rintro _ wb ⟨rfl,gb⟩
      refine⟨fun _=>Fr.ext gb,?_⟩
      simp -implicitDefEqProofs only[go_sem,Nat.reduceEqDiff,Nat.reduceBEq,Nat.reduceAdd,gLa,gLz,gLs,Value.cells,bl_zero]
      obtain⟨wc,hwc,gc,kc,sc⟩:=allocs1 wb (bl (List.replicate 32 0)) 23
      have Gc:=ga.trans (gb.trans gc)
      have ka2:=gc.at (gb.at ka id) id
      have lne:=heap_lt (gb.at ka id)
      obtain⟨u1,u2,q1,q2,z1,z2,gz⟩:=st2d kc ka2 (by omega) l1 l2
      simp -implicitDefEqProofs only[go_sem,Nat.reduceEqDiff,Nat.reduceBEq,Nat.reduceAdd,gLa,gLz,gLs,hwc,q1,q2]
      exact⟨rfl,rfl,rfl,rfl,rfl,rfl,_,_,rfl,rfl,z1,z2,Gc.trans' gz (by intro z hz h;omega)⟩
     ·refine⟨fun _=>Ext.alloc (w5.alloc (.cells (bl (List.replicate 32 0)) 23)).drew _,?_⟩
      obtain⟨wb,hwb,gb,ka,kb,sb⟩:=allocs2 w5 (bl (List.replicate 32 0)) 23 (bl (List.replicate 32 0)) 23
      rw[hwb]
      refine contOT_call Tryz.pl158 ((sidesC wb.drew hP5.ck.lk hdl hnl hlt).mono ?_)
      rintro _ wc ⟨rfl,gc⟩
      refine⟨fun _=>Fr.ext gc,?_⟩
      have Gc:=gb.drew.trans gc
      have ka2:=gc.at (show wb.drew.heap[w5.heap.size]?=_ from ka) id
      have kb2:=gc.at (show wb.drew.heap[w5.heap.size+1]?=_ from kb) id
      obtain⟨u1,u2,q1,q2,z1,z2,gz⟩:=st2d kb2 ka2 (by omega) l1 l2
      simp -implicitDefEqProofs only[go_sem,Nat.reduceEqDiff,Nat.reduceBEq,Nat.reduceAdd,gLa,gLz,gLs,q1,q2]
      exact⟨rfl,rfl,rfl,rfl,rfl,rfl,_,_,rfl,rfl,z1,z2,Gc.trans' gz (by intro z hz h;omega)⟩
   case rest =>
    rintro ev w6 ⟨e0,e2,e4,e6,e7,e12,b10,b11,e10,e11,k10,k11,f6⟩
    have hP6:=hP5.fr0 f6
    have k6d:=f6.at k5d id
    have k6r:=f6.at k5r id
    have r6w:=hP6.ck.wd0
    have r6wd:rdO Tryz.prog 3 w6.drew cb 0=_:=r6w
    have r10:=rd_d Tryz.agg23 Tryz.sz23 k10 l1
    have r10d:rdO Tryz.prog 23 w6.drew b10 0=_:=r10
    have r11:=rd_d Tryz.agg23 Tryz.sz23 k11 l2
    have r11d:rdO Tryz.prog 23 w6.drew b11 0=_:=r11
    have f45:Fr (fun b=>b=cb∨F0 b) w0 w5:=fw4.trans' f5 fun b hb h=>by
     rcases hFo b h with h' | h'
     ·exact .inr h'
     ·omega
    have ht6:Tabs w6:=(ht.fr f45 fun b hb hh=>by
     rcases hh with rfl | hh
     ·have:=hP.tb;omega
     ·have:=(hS.safe b hh).1;omega).no f6
    simp -implicitDefEqProofs only[go_sem,Nat.reduceEqDiff,Nat.reduceBEq,Nat.reduceAdd,gLa,gLz,gLs,e0,e2,e4,e6,e7,e12,e10,e11,r6w,r6wd,r10,r10d,r11,r11d]
    refine contL_call Tryz.pl110 ((branch w6.drew (ht6.no (Fr.refl _ _).drew) wd l1 l2).mono ?_)
    rintro _ w7 ⟨rfl,f7⟩
    have f67:No w6 w7:=(Fr.refl _ _).drew.trans f7
    rw[← hup]
    have k7d:=f67.at k6d id
    have q7:=wr_d Tryz.sz23 k7d hdl hplen1
    simp -implicitDefEqProofs only[go_sem,Nat.reduceEqDiff,Nat.reduceBEq,Nat.reduceAdd,gLa,gLz,gLs,q7,c1,e0,e2,e4,e6,e7,e12]
    have f8:Fr (fun b=>b=w0.heap.size) w7 (put w7 w0.heap.size (.cells (bl (path (h+1))) 23 (0,0))):=(Fr.refl _ _).put (b:=w0.heap.size) _ fun _=>rfl
    have f58:No w5 w7:=f6.trans f67
    have s57:=f58.size
    have hFn:∀ b,F' b→5≤b∧b≠cb∧blockOf vv≠some b∧blockOf sv≠some b∧blockOf bv2≠some b∧b≠w0.heap.size∧b≠w0.heap.size+1:=fun b hb=>by
     rcases hF5 b hb with h' | h'
     ·obtain⟨a1,a2,a3,a4,_,a6,a7⟩:=hF b h'
      exact⟨a1,a2,a3,a4,hF2 b h',a6,a7⟩
     ·refine⟨by have:=hP.tb;omega,by omega,fun hb=>?_,fun hb=>?_,fun hb=>?_,by omega,by omega⟩
      ·have:=hP2.vlt b hb;omega
      ·have:=hP2.slt b hb;omega
      ·rcases hP4.bl with h | ⟨h,_⟩
       ·rw[h] at hb;cases hb
       ·obtain⟨b',o',cap',e',_,hlt'⟩:=h.pos (by rw[empts_len];omega)
        rw[e'] at hb
        simp only[blockOf,Option.some.injEq] at hb
        omega
    refine⟨256 - (h+1),by omega,h+1,bv2,F',by rw[hat2],by omega,rfl,(hP6.fr0 f67).frF f8 (by omega) (fun b hb h=>by have:=hP.vlt b h;omega) (fun b hb h=>by have:=hP.slt b h;omega) (fun b hb h=>by have:=hbv2 b h;omega),hor3,put_at k7d,f8.at (f67.at k6r id) (by omega),hS.fr (hS.fr hJ5 f58 fun _ h=>h.elim) f8 (fun b hb hb'=>by subst hb;exact (hFn _ hb').2.2.2.2.2.1 rfl),hFn,?_,fun b hb=>?_,hbv2,.inr hnil2⟩
    ·exact (f45.trans (f58.mono fun _ _ h=>h.elim)).trans' f8 fun b hb h=>by omega
    ·rcases hF5 b hb with h' | h'
     ·exact hFo b h'
     ·exact .inr (by omega)
 ·have d1:decide ((h:Int)<256)=false:=decide_eq_false (by omega)
  obtain rfl:h=256:=by omega
  have rd:=rd_d Tryz.agg23 Tryz.sz23 kd (hplen 256)
  have q:=wr_d Tryz.sz23 kr zl32 (hplen 256)
  have l:=rd_d Tryz.agg23 Tryz.sz23 (put_at (o:=.cells (bl (path 256)) 23 (0,0)) kr) (hplen 256)
  simp -implicitDefEqProofs only[go_sem,Nat.reduceEqDiff,Nat.reduceBEq,Nat.reduceAdd,gLa,gLz,gLs,d1,rd,q,l]
  have f8:Fr (fun b=>b=w0.heap.size+1) w (put w (w0.heap.size+1) (.cells (bl (path 256)) 23 (0,0))):=(Fr.refl _ _).put (b:=w0.heap.size+1) _ fun _=>rfl
  have hP8:=hP1.frF f8 (by omega) (fun b hb h=>by have:=hP.vlt b h;omega) (fun b hb h=>by have:=hP.slt b h;omega) (fun b hb h=>by have:=hbv1 b h;omega)
  refine⟨bv1,F,hP8,?_,hor,hS.fr hJ f8 (fun b hb hb'=>(hF b hb').2.2.2.2.2.2 hb),fw.trans' f8 fun b hb h=>by omega,hFo⟩
  rcases hP8.bl with h | ⟨h,_⟩
  ·rcases hnn with h' | h'
   ·omega
   ·exact absurd h h'
  ·exact h
end C
end Go.V
end
