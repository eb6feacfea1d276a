/-
 Helpers: ClH, ClI, PartW.
-/
import Derived.Test.YtmenaeggoakppaaGreatDoorB40
import Derived.Test.YtmenaeggoakppaaGreatDoorB35
set_option linter.all false
section
namespace Go.V
open Go.Proofs Sha
set_option maxRecDepth 100000
namespace C
/-- the path of a proof, and its texts -/
def pth (wd:Int) (k:Bs) (a:Option Bs) (bits:Bs) (sums:List Bs) (h:Nat):Bs:=V.climb wd k 0 (Wit.ldig wd k a) ((Wit.nearL wd bits sums).take h)
def txs (wd:Int) (k:Bs) (a:Option Bs) (bits:Bs) (sums:List Bs):List Bs:=txL wd k a (pth wd k a bits sums) (Wit.nearH wd bits sums) 256
set_option maxHeartbeats 4000000 in
theorem texts (w0 : World) (ht : Tabs w0) {cb : Nat} {wd : Int} {k root : Bs} {a : Option Bs} {bits : Bs} {sums : List Bs} {rv vv sv bv : Value} {e : Bs} (hP : CkP w0 cb wd k root a bits sums rv vv sv bv e) (hR : RdD w0 bv (empts wd 256)) :
    Fn Tryz.prog 94 #[pt cb 0] w0 fun v w' => ∃ vals,NwT w0 w' v vals (txs wd k a bits sums) ∧ Fr (fun b => b = cb) w0 w' := by
 refine Tryz.go94 (by simp) ?_
 obtain⟨W,hW,f1,kx,s1⟩:=allocs1 w0 #[pt cb 0] 164
 have h5:=ht.size
 have hcl:=hP.ck.lt
 obtain⟨W2,hW2⟩:∃ W2,W.alloc (.cells (bl [2]) 5)=W2:=⟨_,rfl⟩
 have f2:No W W2:=by rw[← hW2];exact (Fr.refl _ _).alloc _
 have n2:NwB w0 W2 (.slice (some ⟨W.heap.size,0,Option.none⟩) 1 1) [2]:=by rw[← hW2];exact mk_nw w0 W 5 1 1 1 (bl [2]) f1.size rfl (Nat.le_refl _)
 have s2:W2.heap.size=W.heap.size+1:=by rw[← hW2];exact alloc_heap_size _ _
 have hP2:=(hP.fr0 f1).fr0 f2
 have kx2:=f2.at kx id
 have rx:rdO Tryz.prog 164 W2 w0.heap.size 0=some (pt cb 0):=rd1 Tryz.agg164 kx2 rfl
 have rxd:rdO Tryz.prog 164 W2.drew w0.heap.size 0=some (pt cb 0):=rx
 have rf:=hP2.ck.rdFound
 have rk:=hP2.ck.key
 have rkd:rdO Tryz.prog 34 W2.drew cb 1=_:=rk
 have rv2:=hP2.ck.val
 have rv2d:rdO Tryz.prog 25 W2.drew cb 67=_:=rv2
 have nl0:bv≠.slice Option.none 0 0:=fun h=>by
  obtain⟨b',o,cap,e',_⟩:=hR.pos (by rw[empts_len];omega)
  rw[h] at e';cases e'
 have bvl:∀ b,blockOf bv=some b→b<w0.heap.size:=fun b hb=>by
  obtain⟨b',o,cap,e',_,hlt⟩:=hR.pos (by rw[empts_len];omega)
  rw[e'] at hb
  simp only[blockOf,Option.some.injEq] at hb
  omega
 have hnl:∀ h,h<256→(Wit.nearH wd bits sums h).length=32:=fun h hh=>by
  unfold Wit.nearH
  split
  ·exact emptD_len _ _
  ·rename_i hb
   obtain⟨hal,_⟩:=Wit.gs_at hP.sl hh (by simpa using hb)
   exact hP.sm.1.getD hal
 have hl:=Wit.ldig_len wd k a
 have hpl:∀ h,(pth wd k a bits sums h).length=32:=fun h=>climb_len _ _ _ _ _ hl
 -- from the lowest text on
 have go : ∀ (w : World) (x : Value), No w0 w → NwB w0 w x (lowT k a) → w.heap[w0.heap.size]? = some (.cells #[pt cb 0] 164 (0, 0)) → (∀ b, blockOf x = some b → b ≠ w0.heap.size) →
     ∃ w2,w2 = w.alloc (.cells #[x] 25) ∧ ∃ w3,wrO Tryz.prog 37 (w2.alloc (.cells #[.slice Option.none 0 0] 37)) w2.heap.size 0 (.slice (some ⟨w.heap.size,0,Option.none⟩) 1 1) = some w3 ∧ No w0 w3 ∧ w3.heap[w0.heap.size]? = some (.cells #[pt cb 0] 164 (0,0)) ∧
       JT w0 cb w0.heap.size w2.heap.size wd k a (pth wd k a bits sums) (Wit.nearH wd bits sums) 0 w3 (fun b => b = w0.heap.size ∨ b = w2.heap.size ∨ blockOf (.slice (some ⟨w.heap.size,0,Option.none⟩) 1 1) = some b ∨ ∃ y ∈ [x],blockOf y = some b) ∧ w0.heap.size < w2.heap.size := fun w x fw nx kw hx => by
  have ga:No w (w.alloc (.cells #[x] 25)):=(Fr.refl _ _).alloc _
  have sa:(w.alloc (.cells #[x] 25)).heap.size=w.heap.size+1:=alloc_heap_size _ _
  have na:Nw w0 (w.alloc (.cells #[x] 25)) 25 1 (.slice (some ⟨w.heap.size,0,Option.none⟩) 1 1) 1 [x]:=mk_nw w0 w 25 1 1 1 #[x] fw.size rfl (Nat.le_refl _)
  refine⟨_,rfl,?_⟩
  generalize w.alloc (.cells #[x] 25)=w2 at *
  obtain⟨w3,hw3,gb,kl,sb⟩:=allocs1 w2 #[.slice Option.none 0 0] 37
  have q:wrO Tryz.prog 37 w3 w2.heap.size 0 (.slice (some ⟨w.heap.size,0,Option.none⟩) 1 1)=some (put w3 w2.heap.size (.cells #[.slice (some ⟨w.heap.size,0,Option.none⟩) 1 1] 37 (0,0))):=wr1 (P:=Tryz.prog) (o:=0) Tryz.sz37 rfl kl (by simp)
  rw[hw3]
  have gc:Fr (fun b=>b=w2.heap.size) w3 (put w3 w2.heap.size (.cells #[.slice (some ⟨w.heap.size,0,Option.none⟩) 1 1] 37 (0,0))):=(Fr.refl _ _).put (b:=w2.heap.size) _ fun _=>rfl
  have fsz:=fw.size
  have g3:No w2 (put w3 w2.heap.size (.cells #[.slice (some ⟨w.heap.size,0,Option.none⟩) 1 1] 37 (0,0))):=gb.put (b:=w2.heap.size) _ fun h=>absurd h (Nat.lt_irrefl _)
  have hkx:w0.heap.size<w.heap.size:=heap_lt kw
  have nxl:∀ b,blockOf x=some b→w0.heap.size≤b∧b<w.heap.size:=fun b hb=>nx.lt hb
  refine⟨_,q,(fw.trans ga).trans g3,g3.at (ga.at kw id) id,⟨_,[x],g3.at (ga.at kw id) id,put_at kl,rfl,⟨na.fr0 g3,rfl,fun i h h'=>?_⟩,rfl,by have:=g3.size;omega,by omega,Nat.le_refl _,fun b hb=>?_,fun y hy b hb=>?_,by omega⟩,by omega⟩
  ·have:i=0:=by simp at h;omega
   subst this
   refine⟨(nx.fr0 ga).fr0 g3,fun b hb h=>?_⟩
   simp only[blockOf,Option.some.injEq] at h
   have:=(nxl b hb).2
   omega
  ·simp only[blockOf,Option.some.injEq] at hb
   omega
  ·simp only[List.mem_singleton] at hy;subst hy
   have:=(nxl b hb).2
   have:=hx b hb
   omega
 have fin : ∀ (w w2 w3 : World) (x : Value), No w0 w → NwB w0 w x (lowT k a) → w2 = w.alloc (.cells #[x] 25) → No w0 w3 → w0.heap.size < w2.heap.size →
     JT w0 cb w0.heap.size w2.heap.size wd k a (pth wd k a bits sums) (Wit.nearH wd bits sums) 0 w3 (fun b => b = w0.heap.size ∨ b = w2.heap.size ∨ blockOf (.slice (some ⟨w.heap.size,0,Option.none⟩) 1 1) = some b ∨ ∃ y ∈ [x],blockOf y = some b) →
     ∀ w4,No w3 w4 → Fn Tryz.prog 155 #[pt cb 0,dg (Wit.ldig wd k a),.func (.func 157) #[] #[pt w0.heap.size 0,pt w2.heap.size 0]] w4 fun v w' => ∃ lv vals,w'.heap[w2.heap.size]? = some (.cells #[lv] 37 (0,0)) ∧ NwT w0 w' lv vals (txs wd k a bits sums) ∧ Fr (fun b => b = cb) w0 w' := fun w w2 w3 x fw nx e2 f3 hlt hJ w4 f4 => by
  have f04:=f3.trans f4
  have fws:=fw.size
  have hP4:=hP.fr0 f04
  have hF0:∀ b,(b=w0.heap.size∨b=w2.heap.size∨blockOf (.slice (some ⟨w.heap.size,0,Option.none⟩) 1 1)=some b∨∃ y ∈ [x],blockOf y=some b)→w0.heap.size≤b:=fun b hb=>by
   rcases hb with h | h | h | ⟨y,hy,h⟩
   ·omega
   ·omega
   ·simp only[blockOf,Option.some.injEq] at h;omega
   ·simp only[List.mem_singleton] at hy;subst hy
    exact (nx.lt h).1
  have hfr:∀ {h:Nat} {w w':World} {F F':Nat→Prop},JT w0 cb w0.heap.size w2.heap.size wd k a (pth wd k a bits sums) (Wit.nearH wd bits sums) h w F→Fr F' w w'→(∀ b,F' b→¬ F b)→JT w0 cb w0.heap.size w2.heap.size wd k a (pth wd k a bits sums) (Wit.nearH wd bits sums) h w' F:=fun hJ f hd=>by
   obtain⟨lv,vals,a1,a2,a3,a4,a5,a6,a7,a8,a9,a10,a11⟩:=hJ
   subst a5
   refine⟨lv,vals,f.at a1 fun h=>hd _ h (.inl rfl),f.at a2 fun h=>hd _ h (.inr (.inl rfl)),a3,a4.fr f (fun b hb h=>hd _ h (.inr (.inr (.inl hb)))) (fun x hx b hb h=>hd _ h (.inr (.inr (.inr ⟨x,hx,hb⟩)))),rfl,by have:=f.size;omega,a7,a8,a9,a10,a11⟩
  have seen:Seen w4 cb vv sv bv 157 #[] #[pt w0.heap.size 0,pt w2.heap.size 0] (fun h=>V.climb wd k 0 (Wit.ldig wd k a) ((Wit.nearL wd bits sums).take h)) (Wit.nearH wd bits sums) (JT w0 cb w0.heap.size w2.heap.size wd k a (pth wd k a bits sums) (Wit.nearH wd bits sums)) (fun b=>b=w0.heap.size∨b=w2.heap.size∨blockOf (.slice (some ⟨w.heap.size,0,Option.none⟩) 1 1)=some b∨∃ y ∈ [x],blockOf y=some b) (fun w=>Tabs w∧∃ bv',CkP w cb wd k root a bits sums rv vv sv bv' e) :=
   {
    pl:=Tryz.pl157
    init:=hfr hJ f4 fun _ h=>h.elim
    fr:=hfr
    lt:=fun {h w F} hJ b hb=>by
     obtain⟨lv,vals,a1,a2,a3,a4,a5,_⟩:=hJ
     subst a5
     rcases hb with rfl | rfl | h | ⟨y,hy,h⟩
     ·exact heap_lt a1
     ·exact heap_lt a2
     ·exact a4.1.own.lt h
     ·obtain⟨i,hi,rfl⟩:=List.getElem_of_mem hy
      exact ((a4.2.2 i hi (by rw[← a4.2.1];exact hi)).1.lt h).2
    run:=fun {h w F} hh hJ _ hC=>by
     obtain⟨htw,bv',hPw⟩:=hC
     show Fn Tryz.prog 157 #[.int .i64 (h:Nat),dg (pth wd k a bits sums h),dg (Wit.nearH wd bits sums h),pt w0.heap.size 0,pt w2.heap.size 0] w _
     refine texts1 w0 w hpl hnl hh hJ htw hPw fun b hb h=>?_
     obtain⟨lv,vals,a1,a2,a3,a4,a5,_⟩:=hJ
     subst a5
     rcases hb with rfl | rfl | h' | ⟨y,hy,h'⟩
     ·omega
     ·omega
     ·have:=a4.1.new b h';omega
     ·obtain⟨i,hi,rfl⟩:=List.getElem_of_mem hy
      have:=((a4.2.2 i hi (by rw[← a4.2.1];exact hi)).1.lt h').1
      omega
    own:=.inl nl0
    safe:=fun b hb=>by
     have:=hF0 b hb
     refine⟨by omega,by omega,fun h=>?_,fun h=>?_,fun h=>?_⟩
     ·have:=hP.vlt b h;omega
     ·have:=hP.slt b h;omega
     ·have:=bvl b h;omega }
  refine (climb w4 (ht.no f04) hP4 hl seen).mono ?_
  rintro v w' ⟨_,bv',F,_,_,_,hJ',f',_⟩
  obtain⟨lv,vals,a1,a2,a3,a4,_⟩:=hJ'
  exact⟨lv,vals,a2,a4,(f04.mono fun _ _ h=>h.elim).trans' f' fun b hb h=>by
   rcases h with h | h
   ·exact h
   ·have:=hF0 b h;omega⟩
 cases a with
 | none =>
  dsimp only[Option.isSome] at rf
  obtain⟨w2,e2,w3,q3,f3,kx3,hJ,hlt⟩:=go W2 (.slice (some ⟨W.heap.size,0,Option.none⟩) 1 1) (f1.trans f2) n2 kx2 (fun b hb=>by simp only[blockOf,Option.some.injEq] at hb;omega)
  have rx3:rdO Tryz.prog 164 w3 w0.heap.size 0=some (pt cb 0):=rd1 Tryz.agg164 kx3 rfl
  have rx3d:rdO Tryz.prog 164 w3.drew w0.heap.size 0=some (pt cb 0):=rx3
  simp -implicitDefEqProofs only[go_sem,Nat.reduceEqDiff,Nat.reduceBEq,Nat.reduceAdd,gLa,gLz,gLs,Tryz.f94,Value.cells,hW]
  refine contL_is (v:=.slice (some ⟨W.heap.size,0,Option.none⟩) 1 1) (w':=W2) (by rw[← hW2];rfl) ?_
  simp -implicitDefEqProofs only[go_sem,Nat.reduceEqDiff,Nat.reduceBEq,Nat.reduceAdd,gLa,gLz,gLs,rx,rf]
  refine contL_is (v:=.slice (some ⟨(W2).heap.size,0,Option.none⟩) 1 1) (w':=w2) (by rw[e2];rfl) ?_
  simp -implicitDefEqProofs only[go_sem,Nat.reduceEqDiff,Nat.reduceBEq,Nat.reduceAdd,gLa,gLz,gLs,Value.cells,q3]
  refine den_ext (fun j=>j == 2) [0,1,2,3,4] rfl (by kernel_rfl) (by kernel_rfl) ?_
  simp -implicitDefEqProofs only[go_sem,Nat.reduceEqDiff,Nat.reduceBEq,Nat.reduceAdd,gLa,gLz,gLs,rx3,rx3d,ft_beq,tf_beq,beq_self_eq_true]
  refine contLX_call Tryz.pl156 ((first w3.drew ((ht.no f3).no (Fr.refl _ _).drew) ((hP.fr0 f3).fr0 (Fr.refl (fun _=>False) w3).drew).ck ((hP.fr0 f3).fr0 (Fr.refl (fun _=>False) w3).drew).vl hP.le).mono ?_)
  rintro _ w4 ⟨rfl,f4⟩
  refine⟨fun _=>Fr.ext f4,?_⟩
  have hcl:=fin W2 w2 w3 (.slice (some ⟨W.heap.size,0,Option.none⟩) 1 1) (f1.trans f2) n2 e2 f3 hlt hJ w4 ((Fr.refl _ _).drew.trans f4)
  simp -implicitDefEqProofs only[go_sem,Nat.reduceEqDiff,Nat.reduceBEq,Nat.reduceAdd,gLa,gLz,gLs,ft_beq,tf_beq,beq_self_eq_true]
  refine contLX_call Tryz.pl155 (hcl.mono ?_)
  rintro _ w5 ⟨lv,vals,kl,hT,f5⟩
  refine⟨fun h=>(by cases h),?_⟩
  have rl:rdO Tryz.prog 37 w5 w2.heap.size 0=some lv:=rd1 Tryz.agg37 kl rfl
  simp -implicitDefEqProofs only[go_sem,Nat.reduceEqDiff,Nat.reduceBEq,Nat.reduceAdd,gLa,gLz,gLs,rl,ft_beq,tf_beq,beq_self_eq_true]
  exact⟨vals,hT,f5⟩
 | some val =>
  dsimp only[Option.isSome] at rf
  simp -implicitDefEqProofs only[go_sem,Nat.reduceEqDiff,Nat.reduceBEq,Nat.reduceAdd,gLa,gLz,gLs,Tryz.f94,Value.cells,hW]
  refine contL_is (v:=.slice (some ⟨W.heap.size,0,Option.none⟩) 1 1) (w':=W2) (by rw[← hW2];rfl) ?_
  simp -implicitDefEqProofs only[go_sem,Nat.reduceEqDiff,Nat.reduceBEq,Nat.reduceAdd,gLa,gLz,gLs,rx,rf,rxd,rk,rkd,rv2,rv2d]
  refine contL_call Tryz.pl154 ((leafText W2.drew hP.ck.lk ((hP2.vl).fr0 (Fr.refl (fun _=>False) W2).drew) (by have:=hP.le val rfl;show val.length≤_;omega)).mono ?_)
  rintro x6 w6 ⟨n6',f6⟩
  have f26:No W2 w6:=(Fr.refl _ _).drew.trans f6
  have f06:=(f1.trans f2).trans f26
  have n6:NwB w0 w6 x6 (lowT k (some val)):=n6'.back (show w0.heap.size≤W2.heap.size by omega)
  have kx6:=f26.at kx2 id
  obtain⟨w2,e2,w3,q3,f3,kx3,hJ,hlt⟩:=go w6 x6 f06 n6 kx6 (fun b hb h=>by have:=(n6'.lt hb).1;have:=f1.size;have:=f2.size;have:w0.heap.size<W2.drew.heap.size:=heap_lt kx2;omega)
  have rx3:rdO Tryz.prog 164 w3 w0.heap.size 0=some (pt cb 0):=rd1 Tryz.agg164 kx3 rfl
  have rx3d:rdO Tryz.prog 164 w3.drew w0.heap.size 0=some (pt cb 0):=rx3
  obtain⟨xa,xc,hxs⟩:=(n6).slice
  simp -implicitDefEqProofs only[go_sem,Nat.reduceEqDiff,Nat.reduceBEq,Nat.reduceAdd,gLa,gLz,gLs]
  refine contL_is (v:=.slice (some ⟨(w6).heap.size,0,Option.none⟩) 1 1) (w':=w2) (by rw[e2];subst hxs;rfl) ?_
  simp -implicitDefEqProofs only[go_sem,Nat.reduceEqDiff,Nat.reduceBEq,Nat.reduceAdd,gLa,gLz,gLs,Value.cells,q3]
  refine den_ext (fun j=>j == 2) [0,1,2,3,4] rfl (by kernel_rfl) (by kernel_rfl) ?_
  simp -implicitDefEqProofs only[go_sem,Nat.reduceEqDiff,Nat.reduceBEq,Nat.reduceAdd,gLa,gLz,gLs,rx3,rx3d,ft_beq,tf_beq,beq_self_eq_true]
  refine contLX_call Tryz.pl156 ((first w3.drew ((ht.no f3).no (Fr.refl _ _).drew) ((hP.fr0 f3).fr0 (Fr.refl (fun _=>False) w3).drew).ck ((hP.fr0 f3).fr0 (Fr.refl (fun _=>False) w3).drew).vl hP.le).mono ?_)
  rintro _ w4 ⟨rfl,f4⟩
  refine⟨fun _=>Fr.ext f4,?_⟩
  have hcl:=fin w6 w2 w3 x6 f06 n6 e2 f3 hlt hJ w4 ((Fr.refl _ _).drew.trans f4)
  simp -implicitDefEqProofs only[go_sem,Nat.reduceEqDiff,Nat.reduceBEq,Nat.reduceAdd,gLa,gLz,gLs,ft_beq,tf_beq,beq_self_eq_true]
  refine contLX_call Tryz.pl155 (hcl.mono ?_)
  rintro _ w5 ⟨lv,vals,kl,hT,f5⟩
  refine⟨fun h=>(by cases h),?_⟩
  have rl:rdO Tryz.prog 37 w5 w2.heap.size 0=some lv:=rd1 Tryz.agg37 kl rfl
  simp -implicitDefEqProofs only[go_sem,Nat.reduceEqDiff,Nat.reduceBEq,Nat.reduceAdd,gLa,gLz,gLs,rl,ft_beq,tf_beq,beq_self_eq_true]
  exact⟨vals,hT,f5⟩
end C
end Go.V
end
section
namespace Go.V
open Go.Proofs Sha
set_option maxRecDepth 100000
/-- bytes made a text -/
theorem by_str {w:World} {v:Value} {bs:Bs} (h:By w v bs):(convert 25 9 v).run Tryz.prog w=.ok (.string ⟨(bs.map fun x=>UInt8.ofNat x.toNat).toArray⟩) w:=by
 rcases Nat.eq_zero_or_pos bs.length with h0 | h0
 ·obtain⟨a,cap,rfl,_⟩:=h.slice
  have hb:=List.length_eq_zero_iff.1 h0
  subst hb
  cases a with
  | none=>rfl
  | some ad=>rfl
 ·obtain⟨b,o,cap,e,_⟩:=h.pos h0
  subst e
  obtain⟨_,a,c,e2,hc,hr⟩:=id h
  cases e2
  obtain⟨b2,o2,e3,hr⟩:=hr (by omega)
  cases e3
  obtain⟨cs,el,fz,hcs,hl⟩:∃ cs el fz,w.heap[b]?=some (.cells cs el fz)∧∀ i,i<bs.length→cs[o+i]?=(bs.map u8)[i]?:=by
   have h1:=hr 0 (by omega)
   have h2:(bs.map u8)[0]?=some (bs.map u8)[0]:=List.getElem?_eq_getElem (by simp;omega)
   rw[h2] at h1
   obtain⟨cs,el,fz,hcs⟩:∃ cs el fz,w.heap[b]?=some (.cells cs el fz):=by
    unfold rc at h1
    split at h1
    ·rename_i heq;exact⟨_,_,_,heq⟩
    ·cases h1
   exact⟨cs,el,fz,hcs,fun i hi=>by rw[← hr i (by omega),rc_of_row hcs]⟩
  have hn:o+bs.length≤cs.size:=by
   have h1:=hl (bs.length - 1) (by omega)
   rw[List.getElem?_eq_getElem (by simp;omega)] at h1
   have:=(Array.getElem?_eq_some_iff.1 h1).1
   omega
  have hx:=r_conv_str (P:=Tryz.prog) (s:=25) (d:=9) (n:=bs.length) (cap:=cap) Tryz.slc25 Tryz.int5 Tryz.str9 (l:=bs.map fun x=>(x.toNat:Int)) hcs hn (by
   apply List.ext_getElem?
   intro i
   rw[Array.getElem?_toList,Array.getElem?_extract]
   split
   ·rw[hl i (by omega)]
    simp only[List.map_map,List.getElem?_map]
    rfl
   ·rw[List.getElem?_eq_none (by simp;omega)])
  rw[hx,List.map_map]
  rfl
theorem str_eq (a b:Bs):(ByteArray.toList ⟨(a.map fun x=>UInt8.ofNat x.toNat).toArray⟩ == ByteArray.toList ⟨(b.map fun x=>UInt8.ofNat x.toNat).toArray⟩)=decide (a=b):=by
 rw[ByteArray.toList_eq,ByteArray.toList_eq]
 rw[Bool.eq_iff_iff,beq_iff_eq,decide_eq_true_iff]
 constructor
 ·intro h
  have h:a.map (fun x=>UInt8.ofNat x.toNat)=b.map (fun x=>UInt8.ofNat x.toNat):=h
  refine List.map_inj_right (fun x y e=>?_) |>.1 h
  have:=congrArg UInt8.toNat e
  have h1:=x.isLt
  have h2:=y.isLt
  simp only[UInt8.toNat_ofNat'] at this
  apply BitVec.eq_of_toNat_eq
  omega
 ·rintro rfl;rfl
theorem bequal (w0:World) {av bv:Value} {a b:Bs} (ha:By w0 av a) (hb:By w0 bv b):Fn Tryz.prog 49 #[av,bv] w0 fun v w'=>v=.bool (decide (a=b))∧w'=w0:=by
 refine Tryz.go49 (by simp) ?_
 simp -implicitDefEqProofs only[go_sem,Nat.reduceEqDiff,Nat.reduceBEq,Nat.reduceAdd,gLa,gLz,gLs,Tryz.f49]
 refine contL_sem ⟨_,_,by_str ha,?_⟩
 simp -implicitDefEqProofs only[go_sem,Nat.reduceEqDiff,Nat.reduceBEq,Nat.reduceAdd,gLa,gLz,gLs]
 refine contL_sem ⟨_,_,by_str hb,?_⟩
 simp -implicitDefEqProofs only[go_sem,Nat.reduceEqDiff,Nat.reduceBEq,Nat.reduceAdd,gLa,gLz,gLs]
 rw[str_eq]
 exact⟨rfl,trivial⟩
end Go.V
end
section
namespace Go.V
open Go.Proofs Sha
set_option maxRecDepth 100000
def ixI (w0:World) (kv:Value) (ks:List Bs) (k:Bs) (n:Nat) (vs:List Value) (w:World):Prop :=
 ∃ (i:Nat),vs=[kv,pt w0.heap.size 0,.int .i64 (ks.length:Nat),.int .i64 (i:Nat)]∧i≤ks.length∧n=ks.length - i∧k ∉ ks.take i∧No w0 w∧w.heap[w0.heap.size]?=some (.cells (bl k) 34 (0,0))
theorem kindex (w0 : World) {kv : Value} {ks : List Bs} (hk : RdD w0 kv ks) {k : Bs} (hkl : k.length = 32) (hl : ks.length ≤ 2 ^ 40) :
    Fn Tryz.prog 114 #[kv,dg k] w0 fun v w' => No w0 w' ∧ ∃ z : Int,v = .int .i64 z ∧ (0 ≤ z ↔ k ∈ ks) := by
 refine Tryz.go114 (by simp) ?_
 obtain⟨W,hW,f1,k1,s1⟩:=allocs1 w0 (bl k) 34
 obtain⟨ka,kc,rfl,hkc⟩:=hk.slice
 simp -implicitDefEqProofs only[go_sem,Nat.reduceEqDiff,Nat.reduceBEq,Nat.reduceAdd,gLa,gLz,gLs,Tryz.f114,Value.cells,hW]
 refine loopD [0,3,7,8] (ixI w0 (.slice ka ks.length kc) ks k) ks.length ⟨0,rfl,by omega,rfl,by simp,f1,k1⟩ ?_
 rintro _ vs w2 g ⟨i,rfl,hi,rfl,hno,f2,k2⟩
 by_cases hlt:i<ks.length
 ·have d4:decide ((i:Int)<((ks.length:Nat):Int))=true:=by simp;omega
  have hk4:=hk.fr0 f2
  obtain⟨b,o,cap,he,_,_⟩:=hk4.pos (by omega)
  cases he
  have q1:=hk4.get (P:=Tryz.prog) Tryz.agg34 Tryz.sz34 hlt
  have kl:=hk.1.getD hlt
  have y1:(0:Int)≤(i:Int)∧(i:Int)<((ks.length:Nat):Int):=by omega
  have rk:=rd_d Tryz.agg34 Tryz.sz34 k2 hkl
  have q1d:rdO Tryz.prog 34 w2.drew b (o+i*32)=some (dg (ks.getD i [])):=q1
  have rkd:rdO Tryz.prog 34 w2.drew w0.heap.size 0=some (dg k):=rk
  have eq:=eqKey hkl kl
  have c2:IntKind.i64.wrap ((i:Int)+1)=((i+1:Nat):Int):=i64add (b:=1) (by omega)
  have htk:ks.take (i+1)=ks.take i++[ks.getD i []]:=by rw[List.take_succ_eq_append_getElem hlt,getD_lt _ hlt]
  by_cases he:k=ks.getD i []
  ·have hb:(k == ks.getD i [])=true:=by rw[beq_iff_eq];exact he
   simp -implicitDefEqProofs only[go_sem,Nat.reduceEqDiff,Nat.reduceBEq,Nat.reduceAdd,gLa,gLz,gLs,d4,y1,and_self,Int.toNat_natCast,q1,q1d,rk,rkd,eq,hb]
   exact⟨f2.drew,i,rfl,iff_of_true (by omega) (by rw[he,getD_lt _ hlt];exact List.getElem_mem _)⟩
  ·have hb:(k == ks.getD i [])=false:=by rw[beq_eq_false_iff_ne];exact he
   simp -implicitDefEqProofs only[go_sem,Nat.reduceEqDiff,Nat.reduceBEq,Nat.reduceAdd,gLa,gLz,gLs,d4,y1,and_self,Int.toNat_natCast,q1,q1d,rk,rkd,eq,hb,c2]
   exact⟨ks.length - (i+1),by omega,i+1,rfl,by omega,rfl,fun hm=>by rw[htk] at hm;rcases List.mem_append.1 hm with hm | hm;exact hno hm;exact he (by simpa using hm),f2.drew,k2⟩
 ·have d4:decide ((i:Int)<((ks.length:Nat):Int))=false:=by simp;omega
  obtain rfl:i=ks.length:=by omega
  rw[List.take_length] at hno
  simp -implicitDefEqProofs only[go_sem,Nat.reduceEqDiff,Nat.reduceBEq,Nat.reduceAdd,gLa,gLz,gLs,d4]
  exact⟨f2,-1,rfl,iff_of_false (by omega) hno⟩
theorem kcontains (w0 : World) {kv : Value} {ks : List Bs} (hk : RdD w0 kv ks) {k : Bs} (hkl : k.length = 32) (hl : ks.length ≤ 2 ^ 40) :
    Fn Tryz.prog 63 #[kv,dg k] w0 fun v w' => No w0 w' ∧ v = .bool (decide (k ∈ ks)) := by
 refine Tryz.go63 (by simp) ?_
 obtain⟨W,hW,f1,k1,s1⟩:=allocs1 w0 (bl k) 34
 obtain⟨ka,kc,rfl,hkc⟩:=hk.slice
 have rk:=rd_d Tryz.agg34 Tryz.sz34 k1 hkl
 simp -implicitDefEqProofs only[go_sem,Nat.reduceEqDiff,Nat.reduceBEq,Nat.reduceAdd,gLa,gLz,gLs,Tryz.f63,Value.cells,hW,rk]
 refine contL_call Tryz.pl114 ((kindex W (hk.fr0 f1) hkl hl).mono ?_)
 rintro _ w2 ⟨f2,z,rfl,hz⟩
 have d:decide (z ≥ 0)=decide (k ∈ ks):=by
  by_cases h:k ∈ ks
  ·rw[decide_eq_true h,decide_eq_true (hz.2 h)]
  ·rw[decide_eq_false h,decide_eq_false (fun c=>h (hz.1 c))]
 simp -implicitDefEqProofs only[go_sem,Nat.reduceEqDiff,Nat.reduceBEq,Nat.reduceAdd,gLa,gLz,gLs,d]
 exact⟨f1.trans f2,trivial⟩
theorem partW (w0 : World) (ht : Tabs w0) (wd : Int) {kv rawv : Value} {ks : List Bs} {raw : Bs} (hk : RdD w0 kv ks) (hr : By w0 rawv raw) {k : Bs} (hkl : k.length = 32) :
    Fn Tryz.prog 33 #[.int .i64 wd,kv,rawv,dg k] w0 (BsQ w0 (Wit.partP wd ks raw k)) := by
 refine Tryz.go33 (by simp) ?_
 obtain⟨W,hW,f1,k1,s1⟩:=allocs1 w0 (bl k) 34
 simp -implicitDefEqProofs only[go_sem,Nat.reduceEqDiff,Nat.reduceBEq,Nat.reduceAdd,gLa,gLz,gLs,Tryz.f33,Value.cells,hW]
 refine contL_call Tryz.pl46 ((sorted W wd (hk.fr0 f1)).mono ?_)
 rintro r w2 ⟨f2,h2⟩
 have f02:=f1.trans f2
 unfold BsQ Wit.partP
 cases hs:Wit.sortW wd ks with
 | error e =>
  rw[hs] at h2
  subst h2
  have he:=sortW_err hs
  simp -implicitDefEqProofs only[go_sem,Nat.reduceEqDiff,Nat.reduceBEq,Nat.reduceAdd,gLa,gLz,gLs,he]
  exact⟨f02,trivial⟩
 | ok l =>
  rw[hs] at h2
  obtain⟨lv,rfl,n2⟩:=h2
  obtain⟨hse,_,_⟩:=Wit.sortW_ok hs
  obtain⟨asc,l32,hlen,hl64,hperm⟩:=Wit.sortE_ok hk.1 hse
  simp -implicitDefEqProofs only[go_sem,Nat.reduceEqDiff,Nat.reduceBEq,Nat.reduceAdd,gLa,gLz,gLs,bne_self_eq_false]
  refine contL_call Tryz.pl62 ((rread w2 (ht.no f02) wd n2.rd (hr.fr0 f02) asc hl64).mono ?_)
  rintro r w3 ⟨f3,h3⟩
  have f03:=f02.trans f3
  have n3:=n2.fr0 f3
  have r3:=rd_d Tryz.agg34 Tryz.sz34 ((f2.trans f3).at k1 id) hkl
  cases hf:Wit.form wd l raw with
  | error e =>
   rw[hf] at h3
   subst h3
   have he:(e != 0)=true:=by rw[bne,form_err hf];rfl
   simp -implicitDefEqProofs only[go_sem,Nat.reduceEqDiff,Nat.reduceBEq,Nat.reduceAdd,gLa,gLz,gLs,he]
   exact⟨f03,trivial⟩
  | ok o =>
   rw[hf] at h3
   cases o with
   | none =>
    subst h3
    have hl0:l=[]:=Wit.underP_none (w:=wd) (root:=[]) (raw:=raw) (by unfold Wit.underP;rw[hf])
    subst hl0
    simp -implicitDefEqProofs only[go_sem,Nat.reduceEqDiff,Nat.reduceBEq,Nat.reduceAdd,gLa,gLz,gLs,bne_self_eq_false,r3]
    refine contL_call Tryz.pl63 ((kcontains w3 n3.rd hkl (by simp)).mono ?_)
    rintro _ w4 ⟨f4,rfl⟩
    have d:decide (k ∈ ([]:List Bs))=false:=by simp
    simp -implicitDefEqProofs only[go_sem,Nat.reduceEqDiff,Nat.reduceBEq,Nat.reduceAdd,gLa,gLz,gLs,d]
    exact⟨f03.trans f4,trivial⟩
   | some t =>
    obtain⟨tv,rfl,hX⟩:=h3
    obtain⟨u,tb,B,rfl,g1,g2,T3,nd,bd⟩:=hX
    obtain⟨hok,hkeys,htop,_⟩:=Wit.form_ok asc l32 hf
    simp -implicitDefEqProofs only[go_sem,Nat.reduceEqDiff,Nat.reduceBEq,Nat.reduceAdd,gLa,gLz,gLs,bne_self_eq_false,r3]
    refine contL_call Tryz.pl63 ((kcontains w3 n3.rd hkl (by omega)).mono ?_)
    rintro _ w4 ⟨f4,rfl⟩
    by_cases hm:k ∈ l
    ·have d:decide (k ∈ l)=true:=decide_eq_true hm
     have r4:=rd_d Tryz.agg34 Tryz.sz34 (((f2.trans f3).trans f4).at k1 id) hkl
     simp -implicitDefEqProofs only[go_sem,Nat.reduceEqDiff,Nat.reduceBEq,Nat.reduceAdd,gLa,gLz,gLs,d,r4]
     refine contL_call Tryz.pl51 ((single u w4 (ht.no (f03.trans f4)) wd (T3.fr0 f4) hok htop (g2.trans f4) (by rw[hkeys];exact hm)).mono ?_)
     rintro v w5 ⟨n5,f5⟩
     rw[if_pos hm]
     simp -implicitDefEqProofs only[go_sem,Nat.reduceEqDiff,Nat.reduceBEq,Nat.reduceAdd,gLa,gLz,gLs]
     exact⟨(f03.trans f4).trans f5,v,rfl,n5.back (f03.trans f4).size⟩
    ·have d:decide (k ∈ l)=false:=decide_eq_false hm
     rw[if_neg hm]
     simp -implicitDefEqProofs only[go_sem,Nat.reduceEqDiff,Nat.reduceBEq,Nat.reduceAdd,gLa,gLz,gLs,d]
     exact⟨f03.trans f4,trivial⟩
end Go.V
end
