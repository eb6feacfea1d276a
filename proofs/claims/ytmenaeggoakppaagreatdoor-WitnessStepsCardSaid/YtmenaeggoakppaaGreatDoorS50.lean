/-
 Helpers: LawL.
-/
import Derived.Test.YtmenaeggoakppaaGreatDoorS45
import Derived.Test.YtmenaeggoakppaaGreatDoorS49
set_option linter.all false
section
namespace Go.V
open Go.Proofs Sha
set_option maxRecDepth 100000
def digOf:Except Int Bs→Bs
 | .error _=>List.replicate 32 0
 | .ok d=>d
theorem DgQ.both {w0 w':World} {x:Except Int Bs} {r:Value} (h:DgQ w0 x r w'):No w0 w'∧∃ d e,r=.tuple #[dg d,.int .i64 e]∧e=errOf x∧d=digOf x∧d.length=32:=by
 obtain⟨f,h⟩:=h
 cases x with
 | error e=>exact⟨f,_,e,h,rfl,rfl,List.length_replicate⟩
 | ok d=>exact⟨f,d,0,h.1,rfl,rfl,h.2⟩
theorem ts2 (w:World) {rv sv:Value} {raw s:Bs} (h:By w rv raw) (g:By w sv s) {A:Nat→Prop} (h1:raw≠[]→∀ b,blockOf rv=some b→¬ A b) (g1:s≠[]→∀ b,blockOf sv=some b→¬ A b) (h2:¬ A w.heap.size):TsA (w.alloc (.cells #[rv,sv] 25)) (.slice (some ⟨w.heap.size,0,Option.none⟩) 2 2) [raw,s] A:=by
 have f:No w (w.alloc (.cells #[rv,sv] 25)):=(Fr.refl _ _).alloc _
 refine⟨[rv,sv],rfl,⟨rfl,_,_,rfl,Nat.le_refl _,fun _=>⟨_,_,rfl,fun i hi=>?_⟩⟩,fun b hb e=>?_,fun i a b=>?_⟩
 ·rw[rc_of_row (alloc_blk_new _ _),Nat.zero_add,List.getElem?_toArray]
 ·simp only[blockOf,Option.some.injEq] at hb;subst hb;exact h2 e
 ·have:i=0∨i=1:=by simp at a;omega
  rcases this with rfl | rfl
  ·exact⟨h.fr0 f,h1⟩
  ·exact⟨g.fr0 f,g1⟩
theorem two_len {a b c d:Bs} (h:a.length=c.length) (g:b.length=d.length):∀ i,(([a,b]:List Bs).getD i []).length=(([c,d]:List Bs).getD i []).length:=fun i=>by
 match i with
 | 0=>exact h
 | 1=>exact g
 | i+2=>simp
def st1 (w1 W:World) (wd:Int) (pb:Nat) (rv cv:Value) (D:Bs) (E:Int) (x0 x2 x3 x4 x6 x11 x12:Value) (w:World):Prop:=x0=.int .i64 wd∧x2=pt pb 0∧x3=rv∧x4=cv∧x6=pt w1.heap.size 0∧x12=.int .i64 E∧No W w∧∃ b,x11=pt b 0∧w.heap[b]?=some (.cells (bl D) 23 (0,0))
def st2 (W:World) (pb:Nat) (rv cv:Value) (D:Bs) (E:Int) (x2 x3 x4 x11 x12 x13 x14:Value) (w:World):Prop:=x2=pt pb 0∧x3=rv∧x4=cv∧x12=.int .i64 E∧x14=.int .i64 E∧No W w∧∃ b c,x11=pt b 0∧x13=pt c 0∧w.heap[b]?=some (.cells (bl D) 23 (0,0))∧w.heap[c]?=some (.cells (bl D) 23 (0,0))
set_option maxHeartbeats 2000000 in
theorem stepped (w0 w1 : World) (ht : Tabs w1) (wd : Int) {root : Bs} (hroot : root.length = 32) {pb : Nat} {kq : Nat × Nat × Nat} {iv av : Value} {qs : List (Nat × Nat × Nat)} {raw cs : Bs} (h : Pl w0 w1 pb kq iv av qs [] [raw, cs]) {rv cv : Value} (hr : By w1 rv raw) (hc : By w1 cv cs) (hrl : raw.length ≤ 2 ^ 47) (hcl : cs.length ≤ 2 ^ 47) :
    Fn Tryz.prog 18 #[.int .i64 wd,dg root,pt pb 0,rv,cv] w1 fun r w' => r = .bool true ∧ No w1 w' := by
 refine Tryz.go18 (by simp) ?_
 obtain⟨xa,xc,rfl,hxc⟩:=hr.slice
 obtain⟨ya,yc,rfl,hyc⟩:=hc.slice
 obtain⟨W,hW,f1,k1,s1⟩:=allocs1 w1 (bl root) 23
 have h2:=h.fr0 f1
 have rc:=rdO_row (P:=Tryz.prog) h2.cell
 have rcd:∀ t' o,rdO Tryz.prog t' W.drew pb o=_:=rc
 have r1:=rd_d Tryz.agg23 Tryz.sz23 k1 hroot
 have r1d:rdO Tryz.prog 23 W.drew w1.heap.size 0=_:=r1
 obtain⟨q,b1,o1,c1',b2,o2,c2',hq,rfl,rfl,hN,hr1,_⟩:=h2.at (i:=0) (by simp)
 obtain⟨q2,b1',o1',c1'',b2',o2',c2'',hq2,e1,e2,hN2,hr2,_⟩:=h2.at (i:=1) (by simp)
 cases e1
 cases e2
 have ra:=hr1 W (Fr.refl _ _)
 have rad:=hr1 W.drew (Fr.refl _ _).drew
 have rb:=hr2 W (Fr.refl _ _)
 have rbd:=hr2 W.drew (Fr.refl _ _).drew
 have hg:([raw,cs]:List Bs).getD 0 []=raw:=rfl
 have hg2:([raw,cs]:List Bs).getD 1 []=cs:=rfl
 rw[hg] at ra rad hN
 rw[hg2] at rb rbd hN2
 rw[Nat.add_zero] at ra rad
 have y1:(0:Int)≤0∧(0:Int)<((([raw,cs]:List Bs).length:Nat):Int):=by simp
 have y2:(0:Int)≤1∧(1:Int)<((([raw,cs]:List Bs).length:Nat):Int):=by simp
 obtain⟨D,hD⟩:∃ D,D=digOf (Wit.stepP wd root raw cs):=⟨_,rfl⟩
 obtain⟨E,hE⟩:∃ E,E=errOf (Wit.stepP wd root raw cs):=⟨_,rfl⟩
 have hDl:D.length=32:=by
  rw[hD]
  cases hx:Wit.stepP wd root raw cs with
  | error e=>exact List.length_replicate
  | ok d =>
   unfold Wit.stepP at hx
   split at hx
   ·cases hx
   split at hx
   ·cases hx
   split at hx
   ·cases hx
   ·cases hx;exact hroot
   ·cases hx;exact Wit.dig_len' _ _ _
 have fd:No W W.drew:=(Fr.refl _ _).drew
 simp -implicitDefEqProofs only[go_sem,Nat.reduceEqDiff,Nat.reduceBEq,Nat.reduceAdd,gLa,gLz,gLs,Tryz.f18,Value.cells,hW]
 refine den_ot (fun j=>j == 14 || j == 18) (.one 0 (.one 1 (.one 2 (.one 3 (.one 4 (.one 5 (.one 6 (.one 7 (.one 8 (.one 9 (.one 10 (.one 11 (.one 12 (.one 13 (.two 14 (.row [15,16,17,18,19,20]) 18 (.row [14,15,16,17,19,20])))))))))))))))) rfl (by kernel_rfl) (by kernel_rfl) ?_
 refine denOT_mono (K:=fun ev w=>st1 w1 W wd pb (.slice xa raw.length xc) (.slice ya cs.length yc) D E (ev 0) (ev 2) (ev 3) (ev 4) (ev 6) (ev 11) (ev 12) w) ?rest _ ?main
 case main =>
  simp only[OT.row]
  simp -implicitDefEqProofs only[go_sem,Nat.reduceEqDiff,Nat.reduceBEq,Nat.reduceAdd,gLa,gLz,gLs,rc,rcd,ldO_one,r1,r1d,y1,y2,and_self,Int.toNat_zero,Int.toNat_one,Nat.zero_mul,Nat.mul_one,Nat.add_zero,ra,rad,rb,rbd]
  refine⟨?_,?_⟩
  ·refine contOT_call Tryz.pl32 ((V.wstep W.drew (ht.no f1.drew) wd hroot (hN.by.pre.fr0 fd) (hN2.by.pre.fr0 fd) (by omega)).mono ?_)
   intro r w3 h3
   obtain⟨f3,d3,e3,rfl,he3,hd3,hl3⟩:=h3.both
   refine⟨fun _=>Fr.ext f3,?_⟩
   rw[← hD] at hd3
   rw[← hE] at he3
   subst hd3 he3
   obtain⟨W4,q4,k4,f4,s4⟩:=R.allocD w3 Tryz.sz23 hl3
   simp -implicitDefEqProofs only[go_sem,Nat.reduceEqDiff,Nat.reduceBEq,Nat.reduceAdd,gLa,gLz,gLs,Value.cells,bl_zero,q4]
   exact⟨rfl,rfl,rfl,rfl,rfl,rfl,fd.trans (f3.trans f4),_,rfl,k4⟩
  ·simp -implicitDefEqProofs only[go_sem,Nat.reduceEqDiff,Nat.reduceBEq,Nat.reduceAdd,gLa,gLz,gLs,Value.cells,bl_zero]
   refine⟨fun _=>Ext.alloc W.drew _,?_⟩
   have g5:No W (W.alloc (.cells (bl (List.replicate 32 0)) 23)).drew:=((Fr.refl _ _).alloc _).drew
   have k5:(W.alloc (.cells (bl (List.replicate 32 0)) 23)).drew.heap[W.heap.size]?=_:=alloc_blk_new W (.cells (bl (List.replicate 32 0)) 23)
   generalize (W.alloc (.cells (bl (List.replicate 32 0)) 23)).drew=w5 at *
   refine contOT_call Tryz.pl32 ((V.wstep w5 (ht.no (f1.trans g5)) wd hroot (hN.by.pre.fr0 g5) (hN2.by.pre.fr0 g5) (by omega)).mono ?_)
   intro r w3 h3
   obtain⟨f3,d3,e3,rfl,he3,hd3,hl3⟩:=h3.both
   refine⟨fun _=>Fr.ext f3,?_⟩
   rw[← hD] at hd3
   rw[← hE] at he3
   subst hd3 he3
   have k3:=f3.at k5 id
   have q3:=wr_d Tryz.sz23 k3 zl32 hl3
   simp -implicitDefEqProofs only[go_sem,Nat.reduceEqDiff,Nat.reduceBEq,Nat.reduceAdd,gLa,gLz,gLs,q3]
   exact⟨rfl,rfl,rfl,rfl,rfl,rfl,(g5.trans f3).put (b:=W.heap.size) _ (fun h=>absurd h (Nat.lt_irrefl _)),_,rfl,put_at k3⟩
 case rest =>
  rintro ev w ⟨e0,e2,e3,e4,e6,e12,f13,bb,e11,kb⟩
  have f03:=f1.trans f13
  have r4:=rd_d Tryz.agg23 Tryz.sz23 (f13.at k1 id) hroot
  have r4d:rdO Tryz.prog 23 w.drew w1.heap.size 0=_:=r4
  have fw0:No w1 w.drew:=f03.drew
  simp -implicitDefEqProofs only[go_sem,Nat.reduceEqDiff,Nat.reduceBEq,Nat.reduceAdd,gLa,gLz,gLs,e0,e2,e3,e4,e6,e11,e12]
  refine den_ot (fun j=>(j == 3 || j == 5) || (j == 6 || j == 10)) (.one 0 (.one 1 (.one 2 (.one 4 (.two 3 (.two 5 (.two 6 (.row [7,8,9,10,11,12]) 10 (.row [6,7,8,9,11,12])) 10 (.row [5,6,7,8,9,11,12])) 10 (.row [3,5,6,7,8,9,11,12])))))) rfl (by kernel_rfl) (by kernel_rfl) ?_
  refine denOT_mono (K:=fun ev w=>st2 W pb (.slice xa raw.length xc) (.slice ya cs.length yc) D E (ev 2) (ev 3) (ev 4) (ev 11) (ev 12) (ev 13) (ev 14) w) ?rest2 _ ?main2
  case main2 =>
   simp only[OT.row]
   simp -implicitDefEqProofs only[go_sem,Nat.reduceEqDiff,Nat.reduceBEq,Nat.reduceAdd,gLa,gLz,gLs,e0,e2,e3,e4,e6,e11,e12,r4,r4d]
   refine⟨?_,?_⟩
   ·refine contOT_call Tryz.pl22 ((V.copied w.drew (hr.fr0 fw0) hrl).mono ?_)
    rintro v5 w5 ⟨n5,g5⟩
    refine⟨fun _=>Fr.ext g5,?_⟩
    have G5:No w w5:=(Fr.refl _ _).drew.trans g5
    simp -implicitDefEqProofs only[go_sem,Nat.reduceEqDiff,Nat.reduceBEq,Nat.reduceAdd,gLa,gLz,gLs,e0,e2,e3,e4,e6,e11,e12]
    refine⟨?_,?_⟩
    ·refine contOT_call Tryz.pl22 ((V.copied w5 (hc.fr0 (f03.trans G5)) hcl).mono ?_)
     rintro v6 w6 ⟨n6,g6⟩
     refine⟨fun _=>Fr.ext g6,?_⟩
     have G6:=G5.trans g6
     simp -implicitDefEqProofs only[go_sem,Nat.reduceEqDiff,Nat.reduceBEq,Nat.reduceAdd,gLa,gLz,gLs,e0,e2,e3,e4,e6,e11,e12]
     refine⟨?_,?_⟩
     ·refine contOT_call Tryz.pl42 ((R.step w6 (ht.no (f03.trans G6)) wd hroot (n5.by.fr0 g6) n6.by (by omega) (by omega)).mono ?_)
      intro r w9 h9
      obtain⟨g9,d9,e9,rfl,he9,hd9,hl9⟩:=h9.both
      refine⟨fun _=>Fr.ext g9,?_⟩
      rw[← hD] at hd9
      rw[← hE] at he9
      subst hd9 he9
      obtain⟨Wz,qz,kz,fz,sz⟩:=R.allocD w9 Tryz.sz23 hl9
      simp -implicitDefEqProofs only[go_sem,Nat.reduceEqDiff,Nat.reduceBEq,Nat.reduceAdd,gLa,gLz,gLs,Value.cells,bl_zero,qz]
      exact⟨by first | rfl | assumption,by first | rfl | assumption,by first | rfl | assumption,by first | rfl | assumption,by first | rfl | assumption,f13.trans (G6.trans (g9.trans fz)),_,_,by first | rfl | assumption,rfl,((G6.trans (g9.trans fz)).at kb id),kz⟩
     ·simp -implicitDefEqProofs only[go_sem,Nat.reduceEqDiff,Nat.reduceBEq,Nat.reduceAdd,gLa,gLz,gLs,Value.cells,bl_zero]
      have g7:No w6 (w6.alloc (.cells (bl (List.replicate 32 0)) 23)):=(Fr.refl _ _).alloc _
      have k7:=alloc_blk_new w6 (.cells (bl (List.replicate 32 0)) 23)
      generalize w6.alloc (.cells (bl (List.replicate 32 0)) 23)=w7 at *
      have G7:=G6.trans g7
      refine contOT_call Tryz.pl42 ((R.step w7 (ht.no (f03.trans G7)) wd hroot ((n5.by.fr0 g6).fr0 g7) (n6.by.fr0 g7) (by omega) (by omega)).mono ?_)
      intro r w9 h9
      obtain⟨g9,d9,e9,rfl,he9,hd9,hl9⟩:=h9.both
      refine⟨fun _=>Fr.ext g9,?_⟩
      rw[← hD] at hd9
      rw[← hE] at he9
      subst hd9 he9
      have kq9:=(g9).at k7 id
      have qz:=wr_d Tryz.sz23 kq9 zl32 hl9
      simp -implicitDefEqProofs only[go_sem,Nat.reduceEqDiff,Nat.reduceBEq,Nat.reduceAdd,gLa,gLz,gLs,qz]
      have ne9:∀ x:Nat,x<w.heap.size→w6.heap.size≠x:=fun x hx=>by have:=G6.size;omega
      exact⟨by first | rfl | assumption,by first | rfl | assumption,by first | rfl | assumption,by first | rfl | assumption,by first | rfl | assumption,(f13.trans (G7.trans g9)).put (b:=w6.heap.size) _ (fun h=>by have:=G6.size;have:=f13.size;omega),_,_,by first | rfl | assumption,rfl,put_off (b:=w6.heap.size) ((G7.trans g9).at kb id) (ne9 _ (heap_lt kb)),put_at kq9⟩
    ·simp -implicitDefEqProofs only[go_sem,Nat.reduceEqDiff,Nat.reduceBEq,Nat.reduceAdd,gLa,gLz,gLs,Value.cells,bl_zero]
     have g6:No w5 (w5.alloc (.cells (bl (List.replicate 32 0)) 23)):=(Fr.refl _ _).alloc _
     have k6:=alloc_blk_new w5 (.cells (bl (List.replicate 32 0)) 23)
     generalize w5.alloc (.cells (bl (List.replicate 32 0)) 23)=w6 at *
     have G6:=G5.trans g6
     refine contOT_call Tryz.pl22 ((V.copied w6 (hc.fr0 (f03.trans G6)) hcl).mono ?_)
     rintro v7 w7 ⟨n7,g7⟩
     refine⟨fun _=>Fr.ext g7,?_⟩
     have G7:=G6.trans g7
     simp -implicitDefEqProofs only[go_sem,Nat.reduceEqDiff,Nat.reduceBEq,Nat.reduceAdd,gLa,gLz,gLs,e0,e2,e3,e4,e6,e11,e12]
     refine contOT_call Tryz.pl42 ((R.step w7 (ht.no (f03.trans G7)) wd hroot (n5.by.fr0 (g6.trans g7)) n7.by (by omega) (by omega)).mono ?_)
     intro r w9 h9
     obtain⟨g9,d9,e9,rfl,he9,hd9,hl9⟩:=h9.both
     refine⟨fun _=>Fr.ext g9,?_⟩
     rw[← hD] at hd9
     rw[← hE] at he9
     subst hd9 he9
     have kq9:=(g7.trans g9).at k6 id
     have qz:=wr_d Tryz.sz23 kq9 zl32 hl9
     simp -implicitDefEqProofs only[go_sem,Nat.reduceEqDiff,Nat.reduceBEq,Nat.reduceAdd,gLa,gLz,gLs,qz]
     have ne9:∀ x:Nat,x<w.heap.size→w5.heap.size≠x:=fun x hx=>by have:=G5.size;omega
     exact⟨by first | rfl | assumption,by first | rfl | assumption,by first | rfl | assumption,by first | rfl | assumption,by first | rfl | assumption,(f13.trans (G7.trans g9)).put (b:=w5.heap.size) _ (fun h=>by have:=G5.size;have:=f13.size;omega),_,_,by first | rfl | assumption,rfl,put_off (b:=w5.heap.size) ((G7.trans g9).at kb id) (ne9 _ (heap_lt kb)),put_at kq9⟩
   ·simp -implicitDefEqProofs only[go_sem,Nat.reduceEqDiff,Nat.reduceBEq,Nat.reduceAdd,gLa,gLz,gLs,Value.cells,bl_zero]
    refine⟨fun _=>Ext.alloc w.drew _,?_⟩
    have g5:No w (w.alloc (.cells (bl (List.replicate 32 0)) 23)).drew:=((Fr.refl _ _).alloc _).drew
    have k5:(w.alloc (.cells (bl (List.replicate 32 0)) 23)).drew.heap[w.heap.size]?=_:=alloc_blk_new w (.cells (bl (List.replicate 32 0)) 23)
    generalize (w.alloc (.cells (bl (List.replicate 32 0)) 23)).drew=w5 at *
    refine contOT_call Tryz.pl22 ((V.copied w5 (hr.fr0 (f03.trans g5)) hrl).mono ?_)
    rintro v6 w6 ⟨n6,g6⟩
    refine⟨fun _=>Fr.ext g6,?_⟩
    have G6:=g5.trans g6
    simp -implicitDefEqProofs only[go_sem,Nat.reduceEqDiff,Nat.reduceBEq,Nat.reduceAdd,gLa,gLz,gLs,e0,e2,e3,e4,e6,e11,e12]
    refine contOT_call Tryz.pl22 ((V.copied w6 (hc.fr0 (f03.trans G6)) hcl).mono ?_)
    rintro v7 w7 ⟨n7,g7⟩
    refine⟨fun _=>Fr.ext g7,?_⟩
    have G7:=G6.trans g7
    simp -implicitDefEqProofs only[go_sem,Nat.reduceEqDiff,Nat.reduceBEq,Nat.reduceAdd,gLa,gLz,gLs,e0,e2,e3,e4,e6,e11,e12]
    refine contOT_call Tryz.pl42 ((R.step w7 (ht.no (f03.trans G7)) wd hroot (n6.by.fr0 g7) n7.by (by omega) (by omega)).mono ?_)
    intro r w9 h9
    obtain⟨g9,d9,e9,rfl,he9,hd9,hl9⟩:=h9.both
    refine⟨fun _=>Fr.ext g9,?_⟩
    rw[← hD] at hd9
    rw[← hE] at he9
    subst hd9 he9
    have kq9:=((g6.trans g7).trans g9).at k5 id
    have qz:=wr_d Tryz.sz23 kq9 zl32 hl9
    simp -implicitDefEqProofs only[go_sem,Nat.reduceEqDiff,Nat.reduceBEq,Nat.reduceAdd,gLa,gLz,gLs,qz]
    have ne9:∀ x:Nat,x<w.heap.size→w.heap.size≠x:=fun x hx=>by omega
    exact⟨by first | rfl | assumption,by first | rfl | assumption,by first | rfl | assumption,by first | rfl | assumption,by first | rfl | assumption,(f13.trans (G7.trans g9)).put (b:=w.heap.size) _ (fun h=>by have:=f13.size;omega),_,_,by first | rfl | assumption,rfl,put_off (b:=w.heap.size) ((G7.trans g9).at kb id) (ne9 _ (heap_lt kb)),put_at kq9⟩
  case rest2 =>
   clear e0 e2 e3 e4 e6 e11 e12 r4 r4d fw0 kb f03 f13
   rintro ev w ⟨e2,e3,e4,e12,e14,f13,bb,bc,e11,e13,kb,kc⟩
   have f03:=f1.trans f13
   have hee:(E == E)=true:=by simp
   have r8:=rd_d Tryz.agg23 Tryz.sz23 kb hDl
   have r9:=rd_d Tryz.agg23 Tryz.sz23 kc hDl
   have eq:=eqDig hDl hDl
   have hdb:(D == D)=true:=by simp
   simp -implicitDefEqProofs only[go_sem,Nat.reduceEqDiff,Nat.reduceBEq,Nat.reduceAdd,gLa,gLz,gLs,e2,e3,e4,e11,e12,e13,e14,hee,r8,r9,eq,hdb,ft_beq,tf_beq,beq_self_eq_true]
   refine contL_is (w:=w) (v:=.slice (some ⟨w.heap.size,0,Option.none⟩) 2 2) (w':=w.alloc (.cells #[.slice xa raw.length xc,.slice ya cs.length yc] 25)) rfl ?_
   have hts:=ts2 w (hr.fr0 f03) (hc.fr0 f03) (A:=fun _=>False) (fun _ _ _ h=>h) (fun _ _ _ h=>h) (fun h=>h)
   have f9:No w (w.alloc (.cells #[.slice xa raw.length xc,.slice ya cs.length yc] 25)):=(Fr.refl _ _).alloc _
   generalize w.alloc (.cells #[.slice xa raw.length xc,.slice ya cs.length yc] 25)=w9 at *
   generalize (Value.slice (some ⟨w.heap.size,0,Option.none⟩) 2 2)=tsv at *
   have f09:=f03.trans f9
   simp -implicitDefEqProofs only[go_sem,Nat.reduceEqDiff,Nat.reduceBEq,Nat.reduceAdd,gLa,gLz,gLs,e2,e3,e4,ft_beq,tf_beq,beq_self_eq_true]
   refine contL_call Tryz.pl37 ((placesLeft w0 w9 (h.fr0 f09) (NwD.nil w9 w9 34).rd hts (by simp) (fun t ht'=>by
    rcases List.mem_cons.1 ht' with rfl | ht'
    ·omega
    ·simp only[List.mem_singleton] at ht';subst ht';omega) (by simp)).mono ?_)
   rintro _ w10 ⟨rfl,f10⟩
   simp -implicitDefEqProofs only[go_sem,Nat.reduceEqDiff,Nat.reduceBEq,Nat.reduceAdd,gLa,gLz,gLs,decide_true,ft_beq,tf_beq,beq_self_eq_true]
   exact f09.trans f10
set_option maxHeartbeats 4000000 in
theorem lawSteps (w : World) (ht : Tabs w) (wd : Int) {root : Bs} (hroot : root.length = 32) {rv cv : Value} {raw cs : Bs} (hr : By w rv raw) (hc : By w cv cs) (hrl : raw.length ≤ 2 ^ 47) (hcl : cs.length ≤ 2 ^ 47) :
    Fn Tryz.prog 6 #[.int .i64 wd,dg root,rv,cv] w fun v w' => v = .bool true ∧ No w w' := by
 refine Tryz.go6 (by simp) ?_
 obtain⟨xa,xc,rfl,hxc⟩:=hr.slice
 obtain⟨ya,yc,rfl,hyc⟩:=hc.slice
 have tl2:∀ {a b:Bs},a.length≤2 ^ 47→b.length≤2 ^ 47→∀ t ∈ ([a,b]:List Bs),t.length≤2 ^ 47:=fun h g t ht'=>by
  rcases List.mem_cons.1 ht' with rfl | ht'
  ·exact h
  ·simp only[List.mem_singleton] at ht';subst ht';exact g
 obtain⟨W,hW,f1,k1,s1⟩:=allocs1 w (bl root) 23
 simp -implicitDefEqProofs only[go_sem,Nat.reduceEqDiff,Nat.reduceBEq,Nat.reduceAdd,gLa,gLz,gLs,Tryz.f6,Value.cells,hW]
 refine contL_is (w:=W) (v:=.slice (some ⟨W.heap.size,0,Option.none⟩) 2 2) (w':=W.alloc (.cells #[.slice xa raw.length xc,.slice ya cs.length yc] 25)) rfl ?_
 have ht2:=ts2 W (hr.fr0 f1) (hc.fr0 f1) (A:=fun _=>False) (fun _ _ _ h=>h) (fun _ _ _ h=>h) (fun h=>h)
 have f2:No W (W.alloc (.cells #[.slice xa raw.length xc,.slice ya cs.length yc] 25)):=(Fr.refl _ _).alloc _
 generalize W.alloc (.cells #[.slice xa raw.length xc,.slice ya cs.length yc] 25)=w2 at *
 generalize (Value.slice (some ⟨W.heap.size,0,Option.none⟩) 2 2)=tsv at *
 have f02:=f1.trans f2
 simp -implicitDefEqProofs only[go_sem,Nat.reduceEqDiff,Nat.reduceBEq,Nat.reduceAdd,gLa,gLz,gLs]
 refine contL_call Tryz.pl10 ((lawLaid w2 (NwD.nil w2 w2 34).rd ht2 (by simp) (tl2 hrl hcl) (by simp)).mono ?_)
 rintro _ w3 ⟨f3,pb,kq,iv,av,qs,rfl,P3⟩
 have f03:=f02.trans f3
 have hWge:∀ b,Pl.W kq qs b→w2.heap.size≤b∧b<w3.heap.size:=fun b hb=>P3.ge hb
 have z02:=f02.size
 have hWold:∀ b,b<w.heap.size→¬ Pl.W kq qs b:=fun b hb h=>by have:=(hWge b h).1;omega
 simp -implicitDefEqProofs only[go_sem,Nat.reduceEqDiff,Nat.reduceBEq,Nat.reduceAdd,gLa,gLz,gLs]
 refine contL_call Tryz.pl11 ((known w3 (ht.no f03)).mono ?_)
 rintro _ w4 ⟨rfl,f4⟩
 have f04:=f03.trans f4
 have k4:=((f2.trans f3).trans f4).at k1 id
 have r4:=rd_d Tryz.agg23 Tryz.sz23 k4 hroot
 simp -implicitDefEqProofs only[go_sem,Nat.reduceEqDiff,Nat.reduceBEq,Nat.reduceAdd,gLa,gLz,gLs,r4,ft_beq,tf_beq,beq_self_eq_true]
 refine contL_call Tryz.pl18 ((stepped w2 w4 (ht.no f04) wd hroot (P3.fr0 f4) (hr.fr0 f04) (hc.fr0 f04) hrl hcl).mono ?_)
 rintro _ w5 ⟨rfl,f5⟩
 have f05:=f04.trans f5
 have n2:((2:Int)=0)=False:=by simp
 have a2:IntKind.i64.wrap (((raw.length:Nat):Int).tdiv 2)=((raw.length / 2:Nat):Int):=by rw[show ((raw.length:Nat):Int).tdiv 2=((raw.length / 2:Nat):Int) from rfl];exact i64n (by omega)
 simp -implicitDefEqProofs only[go_sem,Nat.reduceEqDiff,Nat.reduceBEq,Nat.reduceAdd,gLa,gLz,gLs,n2,a2,ft_beq,tf_beq,beq_self_eq_true]
 refine contL_call Tryz.pl13 ((other w5 (hr.fr0 f05) hrl (raw.length / 2) (by omega)).mono ?_)
 rintro v6 w6 ⟨n6,f6⟩
 have f06:=f05.trans f6
 have ho:=oth_len raw (raw.length / 2)
 generalize oth raw (raw.length / 2)=o at *
 obtain⟨oa,oc,rfl⟩:=n6.slice
 have s35:w3.heap.size≤w5.heap.size:=(f4.trans f5).size
 have s56:=f6.size
 have oldc:cs≠[]→∀ b,blockOf (.slice ya cs.length yc)=some b→¬ Pl.W kq qs b:=fun hn b hb h=>hWold b (hc.blk (List.length_pos_iff.2 hn) hb) h
 have oldr:raw≠[]→∀ b,blockOf (.slice xa raw.length xc)=some b→¬ Pl.W kq qs b:=fun hn b hb h=>hWold b (hr.blk (List.length_pos_iff.2 hn) hb) h
 simp -implicitDefEqProofs only[go_sem,Nat.reduceEqDiff,Nat.reduceBEq,Nat.reduceAdd,gLa,gLz,gLs]
 refine contL_is (w:=w6) (v:=.slice (some ⟨w6.heap.size,0,Option.none⟩) 2 2) (w':=w6.alloc (.cells #[.slice oa o.length oc,.slice ya cs.length yc] 25)) rfl ?_
 have ht7:=ts2 w6 n6.by (hc.fr0 f06) (A:=Pl.W kq qs) (fun _ b hb h=>by have:=(n6.lt hb).1;have:=(hWge b h).2;omega) oldc (fun h=>by have:=(hWge _ h).2;omega)
 have f7:No w6 (w6.alloc (.cells #[.slice oa o.length oc,.slice ya cs.length yc] 25)):=(Fr.refl _ _).alloc _
 generalize w6.alloc (.cells #[.slice oa o.length oc,.slice ya cs.length yc] 25)=w7 at *
 generalize (Value.slice (some ⟨w6.heap.size,0,Option.none⟩) 2 2)=tsv7 at *
 have f07:=f06.trans f7
 have f37:=((f4.trans f5).trans f6).trans f7
 simp -implicitDefEqProofs only[go_sem,Nat.reduceEqDiff,Nat.reduceBEq,Nat.reduceAdd,gLa,gLz,gLs]
 refine contL_call Tryz.pl14 ((over w2 w7 (P3.fr0 f37) (NwD.nil w7 w7 34).rd rfl (fun hn=>absurd rfl hn) ht7 rfl (two_len ho rfl) (by simp) (fun t h=>by have:=tl2 hrl hcl t h;omega) (by simp)).mono ?_)
 rintro _ w8 ⟨rfl,P8,f8⟩
 have f08:No w w8:=f07.trans' f8 fun b hb h=>hWold b hb h
 have y8:By w8 (.slice oa o.length oc) o:=(n6.by.fr0 f7).fr f8 fun b hb _ h=>by have:=(n6.lt hb).1;have:=(hWge b h).2;omega
 have k7:=(((f5.trans f6).trans f7)).at k4 id
 have hwz:w.heap.size<w2.heap.size:=by have:=f2.size;omega
 have k8:=f8.at k7 fun h=>by have:=(hWge _ h).1;omega
 have r8:=rd_d Tryz.agg23 Tryz.sz23 k8 hroot
 have s78:=f8.size
 simp -implicitDefEqProofs only[go_sem,Nat.reduceEqDiff,Nat.reduceBEq,Nat.reduceAdd,gLa,gLz,gLs,r8]
 refine contL_call Tryz.pl18 ((stepped w2 w8 (ht.no f08) wd hroot P8 y8 (hc.fr0 f08) (by omega) hcl).mono ?_)
 rintro _ w9 ⟨rfl,f9⟩
 have f09:=f08.trans f9
 simp -implicitDefEqProofs only[go_sem,Nat.reduceEqDiff,Nat.reduceBEq,Nat.reduceAdd,gLa,gLz,gLs]
 refine contL_call Tryz.pl13 ((other w9 (hc.fr0 f09) hcl cs.length (by omega)).mono ?_)
 rintro v10 w10 ⟨n10,f10⟩
 have f010:=f09.trans f10
 have ho2:=oth_len cs cs.length
 generalize oth cs cs.length=o2 at *
 obtain⟨pa,pc,rfl⟩:=n10.slice
 have s38:w3.heap.size≤w9.heap.size:=by have:=f37.size;have:=f9.size;omega
 have s910:=f10.size
 simp -implicitDefEqProofs only[go_sem,Nat.reduceEqDiff,Nat.reduceBEq,Nat.reduceAdd,gLa,gLz,gLs]
 refine contL_is (w:=w10) (v:=.slice (some ⟨w10.heap.size,0,Option.none⟩) 2 2) (w':=w10.alloc (.cells #[.slice xa raw.length xc,.slice pa o2.length pc] 25)) rfl ?_
 have ht11:=ts2 w10 (hr.fr0 f010) n10.by (A:=Pl.W kq qs) oldr (fun _ b hb h=>by have:=(n10.lt hb).1;have:=(hWge b h).2;omega) (fun h=>by have:=(hWge _ h).2;omega)
 have f11:No w10 (w10.alloc (.cells #[.slice xa raw.length xc,.slice pa o2.length pc] 25)):=(Fr.refl _ _).alloc _
 generalize w10.alloc (.cells #[.slice xa raw.length xc,.slice pa o2.length pc] 25)=w11 at *
 generalize (Value.slice (some ⟨w10.heap.size,0,Option.none⟩) 2 2)=tsv11 at *
 have f011:=f010.trans f11
 have tlo:∀ t ∈ ([o,cs]:List Bs),t.length≤2 ^ 50:=fun t h=>by have:=tl2 (show o.length≤2 ^ 47 by omega) hcl t h;omega
 simp -implicitDefEqProofs only[go_sem,Nat.reduceEqDiff,Nat.reduceBEq,Nat.reduceAdd,gLa,gLz,gLs]
 refine contL_call Tryz.pl14 ((over w2 w11 (P8.fr0 ((f9.trans f10).trans f11)) (NwD.nil w11 w11 34).rd rfl (fun hn=>absurd rfl hn) ht11 rfl (two_len ho.symm ho2) (by simp) tlo (by simp)).mono ?_)
 rintro _ w12 ⟨rfl,P12,f12⟩
 have f012:No w w12:=f011.trans' f12 fun b hb h=>hWold b hb h
 have y12:By w12 (.slice pa o2.length pc) o2:=(n10.by.fr0 f11).fr f12 fun b hb _ h=>by have:=(n10.lt hb).1;have:=(hWge b h).2;omega
 have k12:=f12.at (((f9.trans f10).trans f11).at k8 id) fun h=>by have:=(hWge _ h).1;omega
 have r12:=rd_d Tryz.agg23 Tryz.sz23 k12 hroot
 have s11:=f11.size
 have s12:=f12.size
 simp -implicitDefEqProofs only[go_sem,Nat.reduceEqDiff,Nat.reduceBEq,Nat.reduceAdd,gLa,gLz,gLs,r12]
 refine contL_call Tryz.pl18 ((stepped w2 w12 (ht.no f012) wd hroot P12 (hr.fr0 f012) y12 hrl (by omega)).mono ?_)
 rintro _ w13 ⟨rfl,f13⟩
 have f013:=f012.trans f13
 have s13:=f13.size
 simp -implicitDefEqProofs only[go_sem,Nat.reduceEqDiff,Nat.reduceBEq,Nat.reduceAdd,gLa,gLz,gLs]
 refine contL_is (w:=w13) (v:=.slice (some ⟨w13.heap.size,0,Option.none⟩) 2 2) (w':=w13.alloc (.cells #[.slice xa raw.length xc,.slice ya cs.length yc] 25)) rfl ?_
 have ht14:=ts2 w13 (hr.fr0 f013) (hc.fr0 f013) (A:=Pl.W kq qs) oldr oldc (fun h=>by have:=(hWge _ h).2;omega)
 have f14:No w13 (w13.alloc (.cells #[.slice xa raw.length xc,.slice ya cs.length yc] 25)):=(Fr.refl _ _).alloc _
 generalize w13.alloc (.cells #[.slice xa raw.length xc,.slice ya cs.length yc] 25)=w14 at *
 generalize (Value.slice (some ⟨w13.heap.size,0,Option.none⟩) 2 2)=tsv14 at *
 have f014:=f013.trans f14
 have tlo2:∀ t ∈ ([raw,o2]:List Bs),t.length≤2 ^ 50:=fun t h=>by have:=tl2 hrl (show o2.length≤2 ^ 47 by omega) t h;omega
 simp -implicitDefEqProofs only[go_sem,Nat.reduceEqDiff,Nat.reduceBEq,Nat.reduceAdd,gLa,gLz,gLs]
 refine contL_call Tryz.pl14 ((over w2 w14 (P12.fr0 (f13.trans f14)) (NwD.nil w14 w14 34).rd rfl (fun hn=>absurd rfl hn) ht14 rfl (two_len rfl ho2.symm) (by simp) tlo2 (by simp)).mono ?_)
 rintro _ w15 ⟨rfl,P15,f15⟩
 have f015:No w w15:=f014.trans' f15 fun b hb h=>hWold b hb h
 have k15:=f15.at ((f13.trans f14).at k12 id) fun h=>by have:=(hWge _ h).1;omega
 have r15:=rd_d Tryz.agg23 Tryz.sz23 k15 hroot
 simp -implicitDefEqProofs only[go_sem,Nat.reduceEqDiff,Nat.reduceBEq,Nat.reduceAdd,gLa,gLz,gLs,r15]
 refine contL_call Tryz.pl18 ((stepped w2 w15 (ht.no f015) wd hroot P15 (hr.fr0 f015) (hc.fr0 f015) hrl hcl).mono ?_)
 rintro _ w16 ⟨rfl,f16⟩
 simp -implicitDefEqProofs only[go_sem,Nat.reduceEqDiff,Nat.reduceBEq,Nat.reduceAdd,gLa,gLz,gLs]
 exact f015.trans f16
end Go.V
end
