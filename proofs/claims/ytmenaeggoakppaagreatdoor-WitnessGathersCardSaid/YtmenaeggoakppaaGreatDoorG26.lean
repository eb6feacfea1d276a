/- Helpers. -/
import Derived.Test.YtmenaeggoakppaaGreatDoorG24
import Derived.Test.YtmenaeggoakppaaGreatDoorG18
set_option linter.all false
set_option maxRecDepth 100000
set_option maxHeartbeats 8000000
open BitVec renaming ofNat→zK,ofInt_natCast→xJ,setWidth_eq→xK,ofNat_toNat→xV
open List renaming replicate→zG
open Nat renaming reduceEqDiff→jF,reduceBEq→jB,le_refl→xP,min_eq_left→vK
open Go.Value renaming cells→jM
open Go.V.Wit renaming fold→vU,ansT→vG
namespace Go.V
open Go.Proofs.Tryz Go.V.Tryz
open Go.Proofs Sha
theorem bldSc2 {x y:Value}(hx:one x=true)(hy:one y=true):bldO prog 212 [(0,x),(2,y)]=some (.agg (scC x (.slice none 0 0) y (zG 32 0))):=by
 simp only[bldO,zero212,places212,Option.bind_some];rw[qXj (off:=0) rfl hx (by simp[jM]),qXj (off:=2) rfl hy (by simp[jM])]
 rfl
theorem u8_of (n:Nat):Value.int .u8 (IntKind.u8.wrap ((n:Nat):Int))=u8 (zK 8 n):=by
 rw[wrap_u8];show _=Value.int .u8 ((zK 8 n).toNat:Int);rw[BitVec.toNat_ofNat]
 congr 1
theorem sc_one {hv sv tv:Value}{bits:Bs}(h:one hv=true)(s:one sv=true)(t:one tv=true):(scC hv sv tv bits).all one=true:=by
 rw[← Array.all_toList];simp only[List.all_cons,h,s,t,Bool.true_and];exact qXs _
theorem laid1 (w0:World){k:Bs}{x:Value}{a:Option Bs}(hk:k.length=32)(hx:AnsR w0 x a)(hal:∀ v, a=some v→v.length≤128) :
  Fn prog 122 #[dg k,x] w0 fun v w'=>ScR w0 w' v (scrE k a)∧No w0 w':=by
 refine go122 (by simp) ?_;obtain⟨vv,rfl,hv1,hvb⟩:=hx;obtain⟨va,vc,rfl,_⟩:=hvb.slice;obtain⟨W,hW,f1,k1,k2,k4,s1⟩:=qZw w0 (bl k) 34 #[.bool a.isSome,.slice va (a.getD []).length vc] 69 (scC (.slice none 0 0) (.slice none 0 0) (.slice none 0 0) (zG 32 0)) 212;have r0:=qJc (P:=prog) (v:=.bool a.isSome) agg4 k2 (o:=0) rfl
 have fin:∀ (w:World) (v:Value) (h:Bs), NwB w0 w v h→No w0 w→w.heap[w0.heap.size+1+1]?=some (.cells (scC (.slice none 0 0) (.slice none 0 0) (.slice none 0 0) (zG 32 0)) 212 (0, 0))→(∀ c, qQb v=some c→c≠w0.heap.size+1+1) →
   wrO prog 212 w (w0.heap.size+1+1) 0 (.agg (scC v (.slice none 0 0) (.slice none 0 0) (zG 32 0)))=some (put w (w0.heap.size+1+1) (.cells (scC v (.slice none 0 0) (.slice none 0 0) (zG 32 0)) 212 (0,0))) ∧
   rdO prog 212 (put w (w0.heap.size+1+1) (.cells (scC v (.slice none 0 0) (.slice none 0 0) (zG 32 0)) 212 (0,0))) (w0.heap.size+1+1) 0=some (.agg (scC v (.slice none 0 0) (.slice none 0 0) (zG 32 0))) ∧
   ScR w0 (put w (w0.heap.size+1+1) (.cells (scC v (.slice none 0 0) (.slice none 0 0) (zG 32 0)) 212 (0,0))) (.agg (scC v (.slice none 0 0) (.slice none 0 0) (zG 32 0))) ⟨h,zG 32 0,[],[]⟩ ∧
   No w0 (put w (w0.heap.size+1+1) (.cells (scC v (.slice none 0 0) (.slice none 0 0) (zG 32 0)) 212 (0,0))):=fun w v h hh hf hk hne=>by
  refine⟨qQw (by rw[qXi];exact sz212) hk (by rw[qXi,qXi]) (sc_one hh.by.one rfl rfl),qZk agg212 sz212 (qQf hk) (by rw[qXi];simp),⟨v,_,_,rfl,by simp,hh.put _ hne,NwB.nil _ _,NwB.nil _ _,fun c hc=>by cases hc⟩,hf.put (b:=w0.heap.size+1+1) _ fun h=>by omega⟩
 cases a with
 | none =>
  simp only[Option.isSome]at r0;obtain⟨q1,q2,q3,q4⟩:=fin (W.alloc (.cells (bl [0]) 5)) (.slice (some ⟨W.heap.size,0,none⟩) 1 1) [0] (mk_nw w0 W 5 1 1 1 (bl [0]) f1.size rfl (xP _)) (f1.alloc _) (qQq k4) (fun c hc=>by simp only[qQb,oSi]at hc;omega);have b1:=bldSc (y:=undef) (z:=undef) (x:=.slice (some ⟨W.heap.size,0,none⟩) 1 1) rfl;simp -implicitDefEqProofs only[go_sem,jF,Tryz.f122,jM,scZ,qQj,hW,r0];refine qQl (v:=.slice (some ⟨W.heap.size,0,none⟩) 1 1) (w':=W.alloc (.cells (bl [0]) 5)) rfl ?_;simp -implicitDefEqProofs only[go_sem,jF,b1,q1,q2];exact⟨q3,q4⟩
 | some val =>
  have hval:=hal val rfl;simp only[Option.isSome,Option.getD_some]at r0 hvb k2 hW ⊢;have r1:=qJc (P:=prog) (v:=.slice va val.length vc) agg25 k2 (o:=1) rfl;have c1:=u8_of val.length;have c2:=u8_of (val.length / 256);have c3:shrK .i64 ((val.length:Nat):Int) 8=((val.length / 256:Nat):Int):=shr64i val.length 8 (by omega);simp -implicitDefEqProofs only[go_sem,jF,gLa,gLz,Tryz.f122,jM,scZ,qQj,hW,r0,r1,c1,c2,c3];refine qQl (v:=.slice (some ⟨W.heap.size,0,none⟩) 3 3) (w':=W.alloc (.cells (bl [1,zK 8 val.length,zK 8 (val.length / 256)]) 5)) rfl ?_;have b2:NwB w0 (W.alloc (.cells (bl [1,zK 8 val.length,zK 8 (val.length / 256)]) 5)) (.slice (some ⟨W.heap.size,0,none⟩) 3 3) [1,zK 8 val.length,zK 8 (val.length / 256)]:=mk_nw w0 W 5 1 3 3 (bl [1,zK 8 val.length,zK 8 (val.length / 256)]) f1.size rfl (xP _);have f2:=f1.alloc (.cells (bl [1,zK 8 val.length,zK 8 (val.length / 256)]) 5);have k22:=qQq (o:=.cells (bl [1,zK 8 val.length,zK 8 (val.length / 256)]) 5) k2;have k42:=qQq (o:=.cells (bl [1,zK 8 val.length,zK 8 (val.length / 256)]) 5) k4;have hbl:∀ c,qQb (.slice (some ⟨W.heap.size,0,none⟩) 3 3)=some c→w0.heap.size+3≤c:=fun c hc=>by simp only[qQb,oSi]at hc;omega
  have hs2:(W.alloc (.cells (bl [1,zK 8 val.length,zK 8 (val.length / 256)]) 5)).heap.size=w0.heap.size+4:=by rw[qQd,s1]
  generalize W.alloc (.cells (bl [1,zK 8 val.length,zK 8 (val.length / 256)]) 5)=w2 at *;have r2:=qJc (P:=prog) (v:=.slice va val.length vc) agg25 k22 (o:=1) rfl;obtain⟨v3,w3,hr3,b3,f3,g3,n3⟩:=NwB.catB app25_25 b2 (hvb.fr0 f2) (by simp;omega) f2;have k43:=g3.at k42 fun h=>by have:=hbl _ h;omega
  have b3:NwB w0 w3 v3 (vG (some val)):=b3
  obtain⟨q1,q2,q3,q4⟩:=fin w3 v3 _ b3 f3 k43 (fun c hc=>by
   rcases n3 c hc with h | h
   ·have:=hbl _ h;omega
   ·omega)
  have bl3:=bldSc (y:=undef) (z:=undef) b3.by.one
  simp -implicitDefEqProofs only[go_sem,jF,r2];refine qQg ⟨v3,w3,hr3,?_⟩;simp -implicitDefEqProofs only[go_sem,jF,bl3,q1,q2];exact⟨q3,q4⟩
theorem laid2 (b w0:World){x y:Value}{l r:Scr}(hx:ScR b w0 x l)(hy:ScR b w0 y r)(hn:l.text.length+r.text.length≤2 ^ 28) :
  Fn prog 123 #[x,y] w0 fun v w'=>ScR w0 w' v (scrF l r)∧No w0 w':=by
 refine go123 (by simp) ?_;obtain⟨hv,sv,tv,rfl,hb,bh,bs,bt,_⟩:=hx;obtain⟨hv',sv',tv',rfl,hb',bh',bs',bt',_⟩:=hy;have hnl:l.text.length=l.head.length+(l.bits.length+(l.sums.length+l.tail.length)):=by simp[Scr.text]
 have hnr:r.text.length=r.head.length+(r.bits.length+(r.sums.length+r.tail.length)):=by simp[Scr.text]
 obtain⟨W,hW,f1,k1,k2,k4,s1⟩:=qZw w0 (scC hv sv tv l.bits) 212 (scC hv' sv' tv' r.bits) 212 (scC (.slice none 0 0) (.slice none 0 0) (.slice none 0 0) (zG 32 0)) 212;have l1:=qZk (P:=prog) agg212 sz212 k1 (by rw[qXi,hb]);have l2:=qZk (P:=prog) agg212 sz212 k2 (by rw[qXi,hb']);have tx1:∀ w,No W w→Fn prog 124 #[.agg (scC hv sv tv l.bits)] w fun r w'=>NwB w w' r l.text∧No w w':=fun w f=>stext w (bh.by.fr0 (f1.trans f)) (bs.by.fr0 (f1.trans f)) (bt.by.fr0 (f1.trans f)) hb (by omega);have tx2:∀ w,No W w→Fn prog 124 #[.agg (scC hv' sv' tv' r.bits)] w fun x w'=>NwB w w' x r.text∧No w w':=fun w f=>stext w (bh'.by.fr0 (f1.trans f)) (bs'.by.fr0 (f1.trans f)) (bt'.by.fr0 (f1.trans f)) hb' (by omega)
 have fin:∀ (w:World) (v2 v5:Value), NwB W w v2 [2]→NwB W w v5 (l.text++r.text)→No w0 w→w.heap[w0.heap.size+1+1]?=some (.cells (scC (.slice none 0 0) (.slice none 0 0) (.slice none 0 0) (zG 32 0)) 212 (0, 0)) →
   bldO prog 212 [(0,v2),(2,v5)]=some (.agg (scC v2 (.slice none 0 0) v5 (zG 32 0))) ∧
   wrO prog 212 w (w0.heap.size+1+1) 0 (.agg (scC v2 (.slice none 0 0) v5 (zG 32 0)))=some (put w (w0.heap.size+1+1) (.cells (scC v2 (.slice none 0 0) v5 (zG 32 0)) 212 (0,0))) ∧
   rdO prog 212 (put w (w0.heap.size+1+1) (.cells (scC v2 (.slice none 0 0) v5 (zG 32 0)) 212 (0,0))) (w0.heap.size+1+1) 0=some (.agg (scC v2 (.slice none 0 0) v5 (zG 32 0))) ∧
   ScR w0 (put w (w0.heap.size+1+1) (.cells (scC v2 (.slice none 0 0) v5 (zG 32 0)) 212 (0,0))) (.agg (scC v2 (.slice none 0 0) v5 (zG 32 0))) (scrF l r) ∧
   No w0 (put w (w0.heap.size+1+1) (.cells (scC v2 (.slice none 0 0) v5 (zG 32 0)) 212 (0,0))):=fun w v2 v5 b2 b5 hf hk=>by
  refine⟨bldSc2 b2.by.one b5.by.one,qQw (by rw[qXi];exact sz212) hk (by rw[qXi,qXi]) (sc_one b2.by.one rfl b5.by.one),qZk agg212 sz212 (qQf hk) (by rw[qXi];simp),⟨v2,_,v5,rfl,by simp[scrF],?_,NwB.nil _ _,?_,fun c hc=>by cases hc⟩,hf.put (b:=w0.heap.size+1+1) _ fun h=>by omega⟩
  ·exact (b2.back (by omega)).put _ fun c hc=>by have:=b2.lt hc;omega
  ·exact (b5.back (by omega)).put _ fun c hc=>by have:=b5.lt hc;omega
 have nb2:∀ w,No W w→NwB W (w.alloc (.cells (bl [2]) 5)) (.slice (some ⟨w.heap.size,0,none⟩) 1 1) [2]:=fun w f=>mk_nw W w 5 1 1 1 (bl [2]) f.size rfl (xP _);simp -implicitDefEqProofs only[go_sem,jF,Tryz.f123,jM,scZ,qQj,hW];refine qJo (fun j=>j == 0 || j == 2 || j == 4) (.one 1 (.one 3 (.two 0 (.row [2,4,5,6,7]) 2 (.two 0 (.row [4,5,6,7]) 4 (.two 0 (.row [5,6,7]) 5 (.row [0,6,7])))))) rfl (by kernel_rfl) (by kernel_rfl) ?_;have fd:No W W.drew:=(Fr.refl _ _).drew;have kd:W.drew.heap[w0.heap.size+1+1]?=some (.cells (scC (.slice none 0 0) (.slice none 0 0) (.slice none 0 0) (zG 32 0)) 212 (0,0)):=k4;have hlt:l.text.length+r.text.length≤2 ^ 46:=by omega
 simp only[OT.row];simp -implicitDefEqProofs only[go_sem,jF,jB,gLa,gLz,gLs,l1,l2];refine⟨?_,?_⟩
 ·skip
  refine qZe (v:=(.slice (some ⟨W.heap.size,0,none⟩) 1 1)) (w':=W.drew.alloc (.cells (bl [2]) 5)) rfl (fun _=>Ext.alloc _ _) ?_;have N1:NwB W (W.drew.alloc (.cells (bl [2]) 5)) (.slice (some ⟨W.heap.size,0,none⟩) 1 1) [2]:=nb2 W.drew fd;have G1:No W.drew (W.drew.alloc (.cells (bl [2]) 5)):=(Fr.refl _ _).alloc _;generalize W.drew.alloc (.cells (bl [2]) 5)=w10 at N1 G1 ⊢;have F1:=fd.trans G1;have K1:=G1.at kd id;simp -implicitDefEqProofs only[go_sem,jF,gLa,gLz,gLs];refine qQn pl124 ((tx1 w10 F1).mono ?_);rintro t2 w11 ⟨M2,G2⟩;refine⟨fun _=>Fr.ext G2,?_⟩;have N2:=M2.back F1.size
  have ap:∀ c,qQb (.slice (some ⟨W.heap.size,0,none⟩) 1 1)=some c→qQb t2≠some c:=fun c h h'=>by
   have:=M2.lt h';have:=N1.lt h;omega
  have F2:=F1.trans G2;have K2:=G2.at K1 id;have cB2:=N1.fr0 G2;simp -implicitDefEqProofs only[go_sem,jF,gLa,gLz,gLs];refine qQn pl124 ((tx2 w11 F2).mono ?_);rintro t3 w12 ⟨M3,G3⟩;refine⟨fun _=>Fr.ext G3,?_⟩;have N3:=M3.back F2.size;have F3:=F2.trans G3;have K3:=G3.at K2 id;have cB3:=cB2.fr0 G3;have cT13:=N2.fr0 G3;simp -implicitDefEqProofs only[go_sem,jF,gLa,gLz,gLs];obtain⟨v4,w13,e4,N4,P4,G4,m4⟩:=NwB.catB app25_25 cT13 N3.by hlt F3
  refine qXx ⟨v4,w13,e4,fun h=>(by cases h),?_⟩;have K4:=G4.at K3 fun h=>by have:=cT13.lt h;omega
  have cB4:=cB3.fr G4 fun c hc h=>ap c hc h;simp -implicitDefEqProofs only[go_sem,jF,gLa,gLz,gLs];obtain⟨q0,q1,q2,q3,q4⟩:=fin w13 _ _ cB4 N4 (f1.trans P4) K4;simp -implicitDefEqProofs only[go_sem,jF,jB,gLa,gLz,gLs,q0,q1,q2];exact⟨q3,q4⟩
 ·skip
  refine qQn pl124 ((tx1 W.drew fd).mono ?_);rintro t5 w14 ⟨M5,G5⟩;refine⟨fun _=>Fr.ext G5,?_⟩;have N5:=M5.back fd.size;have F5:=fd.trans G5;have K5:=G5.at kd id;simp -implicitDefEqProofs only[go_sem,jF,gLa,gLz,gLs];refine⟨?_,?_⟩
  ·skip
   refine qZe (v:=(.slice (some ⟨w14.heap.size,0,none⟩) 1 1)) (w':=w14.alloc (.cells (bl [2]) 5)) rfl (fun _=>Ext.alloc _ _) ?_;have N6:NwB W (w14.alloc (.cells (bl [2]) 5)) (.slice (some ⟨w14.heap.size,0,none⟩) 1 1) [2]:=nb2 w14 F5;have G6:No w14 (w14.alloc (.cells (bl [2]) 5)):=(Fr.refl _ _).alloc _
   have ap:∀ c,qQb (.slice (some ⟨w14.heap.size,0,none⟩) 1 1)=some c→qQb t5≠some c:=fun c h h'=>by
    have:=N5.lt h';simp only[qQb,oSi]at h;omega
   generalize w14.alloc (.cells (bl [2]) 5)=w15 at N6 G6 ⊢;have F6:=F5.trans G6;have K6:=G6.at K5 id;have cT16:=N5.fr0 G6;simp -implicitDefEqProofs only[go_sem,jF,gLa,gLz,gLs];refine qQn pl124 ((tx2 w15 F6).mono ?_);rintro t7 w16 ⟨M7,G7⟩;refine⟨fun _=>Fr.ext G7,?_⟩;have N7:=M7.back F6.size;have F7:=F6.trans G7;have K7:=G7.at K6 id;have cB7:=N6.fr0 G7;have cT17:=cT16.fr0 G7;simp -implicitDefEqProofs only[go_sem,jF,gLa,gLz,gLs];obtain⟨v8,w17,e8,N8,P8,G8,m8⟩:=NwB.catB app25_25 cT17 N7.by hlt F7
   refine qXx ⟨v8,w17,e8,fun h=>(by cases h),?_⟩;have K8:=G8.at K7 fun h=>by have:=cT17.lt h;omega
   have cB8:=cB7.fr G8 fun c hc h=>ap c hc h;simp -implicitDefEqProofs only[go_sem,jF,gLa,gLz,gLs];obtain⟨q0,q1,q2,q3,q4⟩:=fin w17 _ _ cB8 N8 (f1.trans P8) K8;simp -implicitDefEqProofs only[go_sem,jF,jB,gLa,gLz,gLs,q0,q1,q2];exact⟨q3,q4⟩
  ·skip
   refine qQn pl124 ((tx2 w14 F5).mono ?_);rintro t9 w18 ⟨M9,G9⟩;refine⟨fun _=>Fr.ext G9,?_⟩;have N9:=M9.back F5.size;have F9:=F5.trans G9;have K9:=G9.at K5 id;have cT19:=N5.fr0 G9;simp -implicitDefEqProofs only[go_sem,jF,gLa,gLz,gLs];refine⟨?_,?_⟩
   ·skip
    refine qZe (v:=(.slice (some ⟨w18.heap.size,0,none⟩) 1 1)) (w':=w18.alloc (.cells (bl [2]) 5)) rfl (fun _=>Ext.alloc _ _) ?_;have N10:NwB W (w18.alloc (.cells (bl [2]) 5)) (.slice (some ⟨w18.heap.size,0,none⟩) 1 1) [2]:=nb2 w18 F9;have G10:No w18 (w18.alloc (.cells (bl [2]) 5)):=(Fr.refl _ _).alloc _
    have ap:∀ c,qQb (.slice (some ⟨w18.heap.size,0,none⟩) 1 1)=some c→qQb t5≠some c:=fun c h h'=>by
     have:=cT19.lt h';simp only[qQb,oSi]at h;omega
    generalize w18.alloc (.cells (bl [2]) 5)=w19 at N10 G10 ⊢;have F10:=F9.trans G10;have K10:=G10.at K9 id;have cT110:=cT19.fr0 G10;have cT210:=N9.fr0 G10;simp -implicitDefEqProofs only[go_sem,jF,gLa,gLz,gLs];obtain⟨v11,w20,e11,N11,P11,G11,m11⟩:=NwB.catB app25_25 cT110 cT210.by hlt F10
    refine qXx ⟨v11,w20,e11,fun h=>(by cases h),?_⟩;have K11:=G11.at K10 fun h=>by have:=cT110.lt h;omega
    have cB11:=N10.fr G11 fun c hc h=>ap c hc h;simp -implicitDefEqProofs only[go_sem,jF,gLa,gLz,gLs];obtain⟨q0,q1,q2,q3,q4⟩:=fin w20 _ _ cB11 N11 (f1.trans P11) K11;simp -implicitDefEqProofs only[go_sem,jF,jB,gLa,gLz,gLs,q0,q1,q2];exact⟨q3,q4⟩
   ·skip
    obtain⟨v12,w21,e12,N12,P12,G12,m12⟩:=NwB.catB app25_25 cT19 N9.by hlt F9
    refine qXx ⟨v12,w21,e12,fun h=>(by cases h),?_⟩;have K12:=G12.at K9 fun h=>by have:=cT19.lt h;omega
    simp -implicitDefEqProofs only[go_sem,gLa,gLz];refine qZe (v:=(.slice (some ⟨w21.heap.size,0,none⟩) 1 1)) (w':=w21.alloc (.cells (bl [2]) 5)) rfl (fun _=>Ext.alloc _ _) ?_;have N13:NwB W (w21.alloc (.cells (bl [2]) 5)) (.slice (some ⟨w21.heap.size,0,none⟩) 1 1) [2]:=nb2 w21 P12;have G13:No w21 (w21.alloc (.cells (bl [2]) 5)):=(Fr.refl _ _).alloc _;generalize w21.alloc (.cells (bl [2]) 5)=w22 at N13 G13 ⊢;have F13:=P12.trans G13;have K13:=G13.at K12 id;have cA13:=N12.fr0 G13;simp -implicitDefEqProofs only[go_sem,jF,gLa,gLz,gLs];obtain⟨q0,q1,q2,q3,q4⟩:=fin w22 _ _ N13 cA13 (f1.trans F13) K13;simp -implicitDefEqProofs only[go_sem,jF,jB,gLa,gLz,gLs,q0,q1,q2];exact⟨q3,q4⟩
theorem shl8_1 (k:Nat)(hk:k<8):Value.int .u8 (shlK .u8 1 ((k:Nat):Int))=u8 (zK 8 (2 ^ k)):=by
 have e:shlK .u8 1 ((k:Nat):Int)=IntKind.u8.wrap (1*2 ^ (min ((k:Nat):Int).toNat 8)):=rfl;rw[e,iTn,vK (by omega),Int.one_mul,← u8_of]
 congr 2
theorem or8 (x y:Byte):orK .u8 (x.toNat:Int) (y.toNat:Int)=((x ||| y).toNat:Int):=by
 have e:orK .u8 (x.toNat:Int) (y.toNat:Int)=IntKind.u8.wrap (((BitVec.ofInt 8 (x.toNat:Int) ||| BitVec.ofInt 8 (y.toNat:Int)).toNat:Nat):Int):=rfl;rw[e,xJ,xJ,xV,xV,xK,xK];exact w8_toNat _
theorem scC_set {hv sv tv:Value}{bits:Bs}(i:Nat)(x:Byte):(scC hv sv tv bits).setIfInBounds (3+i) (u8 x)=scC hv sv tv (bits.set i x):=by
 apply Array.toList_inj.1;rw[Array.toList_setIfInBounds,Nat.add_comm];simp[List.map_set]
theorem sliceD (b o:Nat):qXe prog 23 (.pointer (some ⟨b,o,none⟩)) none none none=some (.slice (some ⟨b,o,none⟩) 32 32):=by
 unfold qXe;rw[arr23];simp only[optB,Option.bind_some,sz5,Option.map_some,Nat.sub_zero];rw[if_neg (by decide),Nat.zero_mul]
 rfl
theorem laid3 (b w:World)(wd:Int){bb:Nat}{bv x:Value}{s:Scr}(hbw:b.heap.size≤w.heap.size)(kb:w.heap[bb]?=some (.cells #[bv] 94 (0, 0)))(hbv:RdD w bv (empts wd 257))(hx:ScR b w x s){k n:Bs}{h:Nat}
  (hk:k.length=32) (hh:h<256) (hn:n.length=32) (hG:(scrP wd s k h n).sums.length≤2 ^ 40) :
  Fn prog 125 #[x,dg k,.int .i64 ((h:Nat):Int),dg n,pt bb 0] w fun v w'=>ScR b w' v (scrP wd s k h n)∧Fr (fun c=>b.heap.size≤c) w w':=by
 refine go125 (by simp) ?_;obtain⟨hv,sv,tv,rfl,hb,bh,bs,bt,hsep⟩:=hx;obtain⟨W,hW,f1,k1,k2,k3,k4,s1⟩:=allocs4 w (scC hv sv tv s.bits) 212 (bl k) 34 (bl n) 23 (scC (.slice none 0 0) (.slice none 0 0) (.slice none 0 0) (zG 32 0)) 212;have rn:=rd_d agg23 sz23 k3 hn;obtain⟨eb,eo,ec,rfl,_⟩:=hbv.pos (by rw[qQm];omega);have rb:=qJc (P:=prog) (v:=.slice (some ⟨eb,eo,none⟩) (empts wd 257).length ec) agg94 (f1.at kb id) (o:=0) rfl;have re:=(hbv.fr0 f1).get (P:=prog) agg23 sz23 (i:=h) (by rw[qQm];omega);have hem:(empts wd 257).getD h []=emptD wd h:=by rw[gDq,qXw wd 257 (by omega)];rfl
 rw[hem]at re;have y1:(0:Int)≤(h:Int)∧(h:Int)<(((empts wd 257).length:Nat):Int):=by rw[qQm];omega
 have eq1:=eqDig hn (qQp wd h);have q4:∀ (w:World) (v:Array Value),w.heap[w.heap.size]?=none→True:=fun _ _ _=>trivial;unfold scrP at hG ⊢
 by_cases he:n=emptD wd h
 ·have e1:(n == emptD wd h)=true:=by rw[beq_iff_eq];exact he
  rw[if_pos he]at hG ⊢;have r1:=qZk (P:=prog) (w:=W) agg212 sz212 k1 (by rw[qXi,hb]);have q:=qQw (P:=prog) (t:=212) (w:=W.drew) (vs:=scC hv sv tv s.bits) (by rw[qXi,hb];exact sz212) k4 (by rw[qXi,qXi,hb];simp) (sc_one bh.by.one bs.by.one bt.by.one);have l:=qZk (P:=prog) (t:=212) agg212 sz212 (qQf (w:=W.drew) (o:=.cells (scC hv sv tv s.bits) 212 (0,0)) k4) (by rw[qXi,hb]);simp -implicitDefEqProofs only[go_sem,jF,Nat.reduceAdd,Tryz.f125,jM,scZ,qQj,hW,rn,rb,y1,re,eq1,e1,r1,q,l];have fp:No w (put W.drew (w.heap.size+1+1+1) (.cells (scC hv sv tv s.bits) 212 (0,0))):=f1.drew.put (b:=w.heap.size+1+1+1) _ fun h=>by omega
  exact⟨⟨hv,sv,tv,rfl,hb,bh.fr0 fp,bs.fr0 fp,bt.fr0 fp,hsep⟩,fp.mono fun _ _ h=>h.elim⟩
 ·have e1:(n == emptD wd h)=false:=by rw[bFn];exact he
  rw[if_neg he]at hG ⊢;have a0:IntKind.i64.wrap ((h:Int).tdiv 8)=((h / 8:Nat):Int):=by rw[show (h:Int).tdiv 8=((h / 8:Nat):Int) from rfl];exact i64n
  have a1:(h:Int).tmod 8=((h % 8:Nat):Int):=rfl;have n0:((8:Int)=0)=False:=by simp
  have n1:¬ (((h % 8:Nat):Int)<0):=by omega
  have y2:(0:Int)≤((h / 8:Nat):Int)∧((h / 8:Nat):Int)<((32:Nat):Int):=by omega
  have rbit:rdO prog 5 W w.heap.size (3+h / 8)=some (.int .u8 ((s.bits.getD (h / 8) 0).toNat:Int)):=by
   rw[qQo k1,qQk agg5,scC_bits,List.getElem?_map,List.getElem?_eq_getElem (by omega),qQi _ (by omega)];rfl
  have sh:=shl8_1 (h % 8) (by omega);have or1:=or8 (s.bits.getD (h / 8) 0) (zK 8 (2 ^ (h % 8)));simp -implicitDefEqProofs only[go_sem,jF,Nat.reduceAdd,Tryz.f125,jM,scZ,qQj,hW,rn,rb,y1,re,eq1,e1,a0,a1,n0,n1,y2,rbit,sh,or1];generalize hbits:s.bits.set (h / 8) (s.bits.getD (h / 8) 0 ||| zK 8 (2 ^ (h % 8)))=bits' at *;have hb':bits'.length=32:=by rw[← hbits,List.length_set];exact hb
  have q5:wrO prog 5 W.drew.drew w.heap.size (3+h / 8) (.int .u8 ((s.bits.getD (h / 8) 0 ||| zK 8 (2 ^ (h % 8))).toNat:Int))=some (put W.drew.drew w.heap.size (.cells (scC hv sv tv bits') 212 (0,0))):=by
   rw[qZl (w:=W.drew.drew) k1,qKl sz5 rfl (by rw[qXi,hb];omega)];show some (put W.drew.drew w.heap.size (.cells ((scC hv sv tv s.bits).setIfInBounds (3+h / 8) (u8 _)) 212 (0,0)))=_;rw[scC_set,hbits]
  have k15:=qQf (w:=W.drew.drew) (o:=.cells (scC hv sv tv bits') 212 (0,0)) k1;have f5:No w (put W.drew.drew w.heap.size (.cells (scC hv sv tv bits') 212 (0,0))):=f1.drew.drew.put (b:=w.heap.size) _ fun h=>absurd h (Nat.lt_irrefl _);have k35:(put W.drew.drew w.heap.size (.cells (scC hv sv tv bits') 212 (0,0))).heap[w.heap.size+1+1]?=some (.cells (bl n) 23 (0,0)):=qQr (w:=W.drew.drew) k3 (by omega);have k45:(put W.drew.drew w.heap.size (.cells (scC hv sv tv bits') 212 (0,0))).heap[w.heap.size+1+1+1]?=some (.cells (scC (.slice none 0 0) (.slice none 0 0) (.slice none 0 0) (zG 32 0)) 212 (0,0)):=qQr (w:=W.drew.drew) k4 (by omega);simp -implicitDefEqProofs only[go_sem,jF,q5];generalize put W.drew.drew w.heap.size (.cells (scC hv sv tv bits') 212 (0,0))=w5 at *;have r5:=qJc (P:=prog) (w:=w5) (v:=sv) agg25 k15 (o:=1) rfl;have sd:=sliceD (w.heap.size+1+1) 0
  have hnb:By w5.drew (.slice (some ⟨w.heap.size+1+1,0,none⟩) 32 32) n:=by
   have:=row_by (w:=w5.drew) k35 (m:=32) (cap:=32) (by omega) (by omega);rw[List.take_of_length_le (by omega)]at this;exact this
  have f5d:No w w5.drew:=f5.drew;have bs5:NwB b w5.drew sv s.sums:=bs.fr0 f5d;have hsl:=fun c (hc:qQb sv=some c)=>bs.lt hc
  obtain⟨sv',w6,hr6,b6,h63,h64⟩:∃ v' w',(Builtin.append_ #[25,25] 0 #[sv,.slice (some ⟨w.heap.size+1+1,0,none⟩) 32 32]).run prog w5.drew=.ok v' w'∧NwB b w' v' (s.sums++n)∧Fr (fun c=>qQb sv=some c) w5.drew w'∧∀ c,qQb v'=some c→qQb sv=some c∨w5.heap.size≤c:=by
   have hln:s.sums.length+n.length≤2 ^ 40:=by simpa using hG
   obtain⟨v',w',hr,h1,h2,h3⟩:=app_nw app25_25 bs5 hnb (qXs n) (by omega) (qJy (by omega)) (by omega) (show b.heap.size≤w5.heap.size by have:=f5.size;omega);refine⟨v',w',hr,?_,h2,h3⟩;unfold NwB;rw[lAp,List.map_append];exact h1
  simp -implicitDefEqProofs only[go_sem,jF,r5,sd];refine qQg ⟨sv',w6,hr6,?_⟩;have k16:w6.heap[w.heap.size]?=_:=h63.at (w:=w5.drew) k15 fun h=>by have:=hsl _ h;omega
  have k46:w6.heap[w.heap.size+1+1+1]?=_:=h63.at (w:=w5.drew) k45 fun h=>by have:=hsl _ h;omega
  have q6:wrO prog 25 w6 w.heap.size 1 sv'=some (put w6 w.heap.size (.cells (scC hv sv' tv bits') 212 (0,0))):=by
   rw[qZl k16,qKl sz25 b6.by.one (by rw[qXi];omega)]
   rfl
  have k17:=qQf (o:=.cells (scC hv sv' tv bits') 212 (0,0)) k16;have k47:(put w6 w.heap.size (.cells (scC hv sv' tv bits') 212 (0,0))).heap[w.heap.size+1+1+1]?=_:=qQr k46 (by omega);have bh6:=(bh.fr0 f5d).fr h63 fun c hc h=>(hsep c h).1 hc;have bt6:=(bt.fr0 f5d).fr h63 fun c hc h=>(hsep c h).2 hc;have f6:Fr (fun c=>b.heap.size≤c) w w6:=(f5d.mono fun _ _ h=>h.elim).trans' h63 fun c hc h=>(hsl c h).1;have hs56:w5.heap.size≤w6.heap.size:=h63.size;have hs5:w.heap.size+4≤w5.heap.size:=by have:=qQh k45;omega
  have r7:=qZk (P:=prog) (t:=212) agg212 sz212 k17 (by rw[qXi,hb']);have q7:=qQw (P:=prog) (t:=212) (vs:=scC hv sv' tv bits') (by rw[qXi,hb'];exact sz212) k47 (by rw[qXi,qXi,hb'];simp) (sc_one bh.by.one b6.by.one bt.by.one);have r8:=qZk (P:=prog) (t:=212) agg212 sz212 (qQf (o:=.cells (scC hv sv' tv bits') 212 (0,0)) k47) (by rw[qXi,hb']);simp -implicitDefEqProofs only[go_sem,jF,q6,r7,q7,r8];have nsv:∀ c,qQb sv'=some c→c<w.heap.size∨w5.heap.size≤c:=fun c hc=>(h64 c hc).imp (fun h=>(hsl c h).2) id;have fp:Fr (fun c=>c=w.heap.size∨c=w.heap.size+1+1+1) w6 (put (put w6 w.heap.size (.cells (scC hv sv' tv bits') 212 (0,0))) (w.heap.size+1+1+1) (.cells (scC hv sv' tv bits') 212 (0,0))):=((Fr.refl _ _).put (b:=w.heap.size) _ fun _=>.inl rfl).put (b:=w.heap.size+1+1+1) _ fun _=>.inr rfl;refine⟨⟨hv,sv',tv,rfl,hb',bh6.fr fp fun c hc e=>?_,b6.fr fp fun c hc e=>?_,bt6.fr fp fun c hc e=>?_,fun c hc=>?_⟩,f6.trans' fp fun c hc e=>by omega⟩
  ·have:=bh.lt hc;omega
  ·have:=nsv c hc;omega
  ·have:=bt.lt hc;omega
  ·rcases h64 c hc with h | h
   ·exact hsep c h
   ·exact⟨fun e=>by have:=bh.lt e;omega,fun e=>by have:=bt.lt e;omega⟩
def Scr.sz (s:Scr):Nat:=s.head.length+s.sums.length+s.tail.length
theorem Scr.text_len (s:Scr):s.text.length=s.sz+s.bits.length:=by simp[Scr.text,Scr.sz];omega
theorem passes_sz (wd:Int)(k:Bs):∀ (near:List Bs) (h:Nat) (s:Scr),All32 near→(Wit.passes (scrP wd) k h s near).sz≤s.sz+32*near.length∧(Wit.passes (scrP wd) k h s near).bits.length=s.bits.length
 | [],_,s,_=>⟨xP _,rfl⟩
 | n::r,h,s,ha=>by
  simp only[Wit.passes];have h1:=passes_sz wd k r (h+1) (scrP wd s k h n) ha.tail
  have h2:(scrP wd s k h n).sz≤s.sz+32∧(scrP wd s k h n).bits.length=s.bits.length:=by
   unfold scrP;split
   ·exact⟨by omega,rfl⟩
   ·refine⟨?_,List.length_set⟩
    simp only[Scr.sz,lAp,ha.head];omega
  rw[List.length_cons];exact⟨by omega,h1.2.trans h2.2⟩
theorem fold_sz (wd:Int):∀ (t:Wit.Tw),t.Ok→(vU scrE scrF (scrP wd) t).bits.length=32∧(vU scrE scrF (scrP wd) t).sz+32≤8400*(2*t.keys.length - 1)∧(t.keys.length≤1024→Wit.AllG (fun s:Scr=>s.sz≤2 ^ 26) scrE scrF (scrP wd) t)
 | .leaf k top near a,h=>by
  obtain⟨h1,h2,h3,h4,h5⟩:=h
  have ha:(vG a).length≤131:=by
   cases a with
   | none=>simp[vG]
   | some v=>have:=h5 v rfl;simp[vG];omega
  have hE:(scrE k a).sz≤131:=by simp[scrE,Scr.sz];exact ha
  have hp:=passes_sz wd k near 0 (scrE k a) h4;simp only[vU,Wit.Tw.keys,List.length_singleton];refine⟨by rw[hp.2];simp[scrE],by omega,fun _ i hi=>?_⟩;have:=(passes_sz wd k (near.take i) 0 (scrE k a) (h4.take i)).1;rw[lTk,vK hi]at this;show Scr.sz _≤_;omega
 | .fork ks f top near l r,h=>by
  obtain⟨h1,h2,h3,h4,h5,h6,h7,h8,h9,h10,h11,h12,h13,h14⟩:=h;obtain⟨a1,a2,a3⟩:=fold_sz wd l h13;obtain⟨b1,b2,b3⟩:=fold_sz wd r h14;have hlt:=Wit.lefts_lt h6 h8;have hlp:=Wit.lefts_pos h6 h8;have e1:l.keys.length=Wit.lefts ks:=by rw[h9,lTk];omega
  have e2:r.keys.length=ks.length - Wit.lefts ks:=by rw[h10,lDr]
  rw[e1]at a2 a3;rw[e2]at b2 b3
  have hF:(scrF (vU scrE scrF (scrP wd) l) (vU scrE scrF (scrP wd) r)).sz≤8400*(2*ks.length - 2)+1:=by
   have:(scrF (vU scrE scrF (scrP wd) l) (vU scrE scrF (scrP wd) r)).sz=1+((vU scrE scrF (scrP wd) l).text.length+(vU scrE scrF (scrP wd) r).text.length):=by simp[scrF,Scr.sz]
   rw[this,Scr.text_len,Scr.text_len,a1,b1];omega
  have hp:=passes_sz wd (ks.headD []) near f (scrF (vU scrE scrF (scrP wd) l) (vU scrE scrF (scrP wd) r)) h5;simp only[vU,Wit.Tw.keys];refine⟨by rw[hp.2];simp[scrF],by omega,fun hn=>⟨a3 (by omega),b3 (by omega),fun i hi=>?_⟩⟩;have:=(passes_sz wd (ks.headD []) (near.take i) f (scrF (vU scrE scrF (scrP wd) l) (vU scrE scrF (scrP wd) r)) (h5.take i)).1;rw[lTk,vK hi]at this;show Scr.sz _≤_;omega
theorem txt_len (wd:Int){t:Wit.Tw}(h:t.Ok):(Wit.txt wd t).length≤8400*(2*t.keys.length - 1):=by
 have:=fold_sz wd t h;rw[← fold_txt,Scr.text_len];omega
theorem laid (u w0:World)(ht:Tabs w0)(wd:Int){t:Wit.Tw}{tb:Nat}{B:List Nat}(hT:TwM u w0 tb t B)(hok:t.Ok)(hn:t.keys.length≤1024)(hu:No u w0) :
  Fn prog 69 #[.int .i64 wd,pt tb 0] w0 fun v w'=>NwB w0 w' v (Wit.txt wd t)∧No w0 w':=by
 refine go69 (by simp) ?_;simp -implicitDefEqProofs only[go_sem,jF,Tryz.f69];refine qQa pl64 ((empties w0 ht wd).mono ?_);rintro bv w1 ⟨b1,f1⟩;obtain⟨ba,bc,hbe,_⟩:=b1.rd.slice;have hone:one bv=true:=by rw[hbe];rfl
 obtain⟨W,hW,f2,k2,s2⟩:=qQs w1 #[.slice none 0 0] 94
 have q2:wrO prog 94 W w1.heap.size 0 bv=some (put W w1.heap.size (.cells #[bv] 94 (0,0))):=by
  rw[qZp sz94 k2 hone (by simp)];rfl
 have k3:=qQf (o:=.cells #[bv] 94 (0,0)) k2;have f3:No w1 (put W w1.heap.size (.cells #[bv] 94 (0,0))):=f2.put (b:=w1.heap.size) _ fun h=>absurd h (Nat.lt_irrefl _);simp -implicitDefEqProofs only[go_sem,jF,hW,q2];generalize put W w1.heap.size (.cells #[bv] 94 (0,0))=w3 at *;have f03:=f1.trans f3;have hsz:=fold_sz wd t hok
 refine qQa pl121 ((foldS repS (fun s:Scr=>s.sz≤2 ^ 26) scrE scrF (scrP wd) 122 123 125 #[] #[] #[pt w1.heap.size 0] u w3 pl122 pl123 pl125
  (fun w k x a hw hk hx hal _=>by rw[args20];exact laid1 w hk hx hal)
  (fun b w v1 x1 v2 x2 hw _ h1 h2 hG=>by
   rw[args20];refine laid2 b w h1 h2 ?_;have:(scrF x1 x2).sz=1+(x1.text.length+x2.text.length):=by simp[scrF,Scr.sz]
   have hG:(scrF x1 x2).sz≤2 ^ 26:=hG
   omega)
  (fun b w v x k h n hw hbw hx hk hh hn hG=>by
   rw[args41];refine laid3 b w wd hbw (hw.at k3 id) ((b1.rd.fr0 f3).fr0 hw) hx hk hh hn ?_;have hG:(scrP wd x k h n).sz≤2 ^ 26:=hG;simp only[Scr.sz]at hG
   omega)
  t tb B w3 (hT.fr0 f03) hok (hu.trans f03) (Fr.refl _ _) (hsz.2.2 hn)).mono ?_)
 rintro v4 w4 ⟨R4,f4⟩;obtain⟨hv,sv,tv,rfl,hb,bh,bs,bt,_⟩:ScR w3 w4 v4 (vU scrE scrF (scrP wd) t):=R4;simp -implicitDefEqProofs only[go_sem];refine qQa pl124 ((stext w4 bh.by bs.by bt.by hb (by have:=hsz.2.1;simp only[Scr.sz]at this;omega)).mono ?_);rintro v5 w5 ⟨b5,f5⟩;simp -implicitDefEqProofs only[go_sem];have e:(vU scrE scrF (scrP wd) t).head++((vU scrE scrF (scrP wd) t).bits++((vU scrE scrF (scrP wd) t).sums++(vU scrE scrF (scrP wd) t).tail))=Wit.txt wd t:=fold_txt wd t;rw[e]at b5;exact⟨b5.back (f03.trans f4).size,(f03.trans f4).trans f5⟩
end Go.V
