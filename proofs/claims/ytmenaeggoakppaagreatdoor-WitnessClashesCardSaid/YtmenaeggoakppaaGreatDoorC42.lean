/- Helpers. -/
import Derived.Test.YtmenaeggoakppaaGreatDoorC39
import Derived.Test.YtmenaeggoakppaaGreatDoorC41
set_option linter.all false
set_option maxRecDepth 100000
set_option maxHeartbeats 8000000
open Go.V.Fr renaming ext→rX
open List renaming replicate→zG,take_of_length_le→zF,getD_cons_succ→yP
open Nat renaming reduceEqDiff→jR,reduceBEq→jL,reduceAdd→vY,le_refl→xP
open Go.Value renaming cells→jS
open Go.V.Wit renaming nearL→rM,ldig→vG,nearH→rB,single_dig→rA,part→rE
namespace Go.V
open Go.Proofs.Tryz Go.V.Tryz
open Go.Proofs Sha
variable {d k:Bs} {w wd:Int} {h n:Nat} {a:Option Bs} {nv:Value} {t:Wit.Tw}
namespace R
def pathL (wd:Int)(k d:Bs)(near:List Bs)(n:Nat):List Bs:=(List.range n).map fun h=>climb wd k 0 d (near.take h)
theorem _root_.Go.V.C.txs_succ' (wd:Int)(k:Bs)(a:Option Bs)(bits:Bs)(sums:List Bs)(hh:h<256):(C.txs wd k a bits sums).getD (h+1) []=C.txH wd k (C.pth wd k a bits sums) (rB wd bits sums) h:=by
 unfold C.txs C.txL;rw[yP,qQl _ (by simpa using hh)]
 simp
theorem qKe (wd:Int)(k d:Bs)(near:List Bs)(n:Nat):(pathL wd k d near n).length=n:=by simp[pathL]
theorem pathL_at (wd:Int)(k d:Bs)(near:List Bs)(hh:h<n):(pathL wd k d near n).getD h []=climb wd k 0 d (near.take h):=by
 rw[qQl _ (by rw[qKe];exact hh)];simp[pathL]
theorem pathL_succ (wd:Int)(k d:Bs){near:List Bs}(hh:h<near.length):pathL wd k d near (h+2)=pathL wd k d near (h+1)++[up wd k h ((pathL wd k d near (h+1)).getD h []) (near.getD h [])]:=by
 rw[pathL_at wd k d near (by omega),← climb_succ wd k d hh];simp[pathL,List.range_succ]
def upI (w0 w1:World)(wd:Int)(k d:Bs)(nv:Value)(near:List Bs)(kb:Nat)(n:Nat)(vs:List Value)(w:World):Prop :=
 ∃ (h:Nat) (v:Value),vs=[.int .i64 wd,nv,pt kb 0,v,.int .i64 (h:Nat)]∧h≤256∧n=256 - h∧NwD w1 w 23 v (pathL wd k d near (h+1))∧No w1 w
def upK (w1:World)(wd:Int)(nv v:Value)(kb h:Nat)(X Y:Bs)(x0 x3 x5 x9 x10 x11 x12:Value)(w:World):Prop :=
 x0=.int .i64 wd∧x3=nv∧x5=pt kb 0∧x9=v∧x10=.int .i64 (h:Nat)∧∃ b c,x11=pt b 0∧x12=pt c 0∧w.heap[b]?=some (.cells (bl X) 23 (0,0))∧w.heap[c]?=some (.cells (bl Y) 23 (0,0))∧No w1 w
theorem upward13 (w0:World)(ht:Tabs w0)(wd:Int)(hk:k.length=32)(hd:d.length=32){near:List Bs}(hn:RdD w0 nv near)(hl:near.length=256) :
  Fn prog 142 #[.int .i64 wd,dg k,dg d,nv] w0 fun v w'=>NwD w0 w' 23 v (pathL wd k d near 257)∧No w0 w':=by
 refine go142 (by simp) ?_;obtain⟨nb,no,nc,rfl,_,hnb⟩:=hn.pos (by omega);obtain⟨W,hW,f1,k1,k2,s1⟩:=qXe w0 (bl k) 34 (bl d) 23;have rd0:=rd_d agg23 sz23 k2 hd;simp -implicitDefEqProofs only[go_sem,jR,vY,Tryz.f142,jS,hW,rd0];refine qQo (v:=.slice (some ⟨W.heap.size,0,.none⟩) 1 1) (w':=W.alloc (.cells (bl d) 23)) (qXk (y:=List.map u8 (zG 32 0)) (by simp) (c:=bl (zG 32 0)) (by simp) (d:=d) hd _) ?_;have f2:No W (W.alloc (.cells (bl d) 23)):=(Fr.refl _ _).alloc _;have n2:NwD W (W.alloc (.cells (bl d) 23)) 23 (.slice (some ⟨W.heap.size,0,.none⟩) 1 1) (pathL wd k d near 1):=NwD.one hd (xP _);generalize W.alloc (.cells (bl d) 23)=w2 at *;simp -implicitDefEqProofs only[go_sem];refine loopD [0,3,5,9,10] (upI w0 W wd k d (.slice (some ⟨nb,no,.none⟩) near.length nc) near w0.heap.size) 256 ⟨0,_,rfl,by omega,rfl,n2,f2⟩ ?_;rintro _ vs w1 g ⟨h,v,rfl,hh,rfl,nv1,f3⟩;have f01:=f1.trans f3
 by_cases hlt:h<256
 ·have d1:=dTo ((h:Int)<256)
  have c1:=iSu (i:=h);have rk:=rd_d agg34 sz34 (f3.at k1 id) hk;have rkd:rdO prog 34 w1.drew w0.heap.size 0=_:=rk;have hpl:=qKe wd k d near (h+1);obtain⟨pb,po,pc,rfl,_,_⟩:=nv1.rd.pos (by omega);have rp:=nv1.rd.get (P:=prog) agg23 sz23 (i:=h) (by omega);have rpd:rdO prog 23 w1.drew pb (po+h*32)=_:=rp;have yp:(0:Int)≤(h:Int)∧(h:Int)<(((pathL wd k d near (h+1)).length:Nat):Int):=by omega
  have rn:=(hn.fr0 f01).get (P:=prog) agg23 sz23 (i:=h) (by omega);have rnd:rdO prog 23 w1.drew nb (no+h*32)=_:=rn;have yn:=iBd (i:=h) (n:=near.length);have hdl:((pathL wd k d near (h+1)).getD h []).length=32:=nv1.1.getD (by omega);have hnl:(near.getD h []).length=32:=hn.1.getD (by omega);have hps:=pathL_succ wd k d (near:=near) (h:=h) (by omega);have hsu:=sd_up wd k ((pathL wd k d near (h+1)).getD h []) (near.getD h []) h;rw[← hsu]at hps;generalize (pathL wd k d near (h+1)).getD h []=D at *;generalize near.getD h []=N at *;have l1:=sd1_len (k:=k) (h:=h) hdl hnl;have l2:=sd2_len (k:=k) (h:=h) hdl hnl;simp -implicitDefEqProofs only[go_sem,jR,d1];refine qJa (fun j=>j == 10 || (j == 14 || j == 15)) (.one 0 (.one 1 (.one 2 (.one 3 (.one 4 (.one 5 (.one 6 (.one 7 (.one 8 (.one 9 (.tri 10 (.one 11 (.one 12 (.one 13 (.two 14 (.row [15,16,17]) 15 (.row [14,16,17]))))) 14 (.two 10 (.row [11,12,13,15,16,17]) 15 (.row [10,11,12,13,16,17])) 15 (.two 10 (.row [11,12,13,14,16,17]) 14 (.row [10,11,12,13,16,17]))))))))))))) rfl (by kernel_rfl) (by kernel_rfl) ?_;refine qXh (K:=fun ev w=>upK w1 wd (.slice (some ⟨nb,no,.none⟩) near.length nc) (.slice (some ⟨pb,po,.none⟩) (pathL wd k d near (h+1)).length pc) w0.heap.size h (sd1 k D N h) (sd2 k D N h) (ev 0) (ev 3) (ev 5) (ev 9) (ev 10) (ev 11) (ev 12) w) ?rest _ ?main
  case main =>
    have gd:No w1 w1.drew:=(Fr.refl _ _).drew;simp only[OT.row];simp -implicitDefEqProofs only[go_sem,jR,jL,gLa,gLz,gLs,jS,qQj,rkd,yp,yn,and_self,if_true,iTn,rpd,rnd];refine⟨?_,?_,?_⟩
    ·refine qQg pl143 ((sidesR w1.drew hk hdl hnl hlt).mono ?_)
     rintro _ wa ⟨rfl,ga⟩;refine⟨fun _=>rX ga,?_⟩;have Ga:=gd.trans ga;simp -implicitDefEqProofs only[go_sem,jR,jL,gLa,gLz,gLs,jS,qQj];obtain⟨wc,hwc,gc,kb,kc,sc⟩:=qXe wa (bl (zG 32 0)) 23 (bl (zG 32 0)) 23;have Gc:=Ga.trans gc;have sGa:=Ga.size;refine⟨?_,?_⟩
     ·obtain⟨u1,u2,q1,q2,z1,z2,gz⟩:=st2d kb kc (by omega) l1 l2
      simp -implicitDefEqProofs only[go_sem,jR,jL,gLa,gLz,gLs,hwc,q1,q2];exact⟨rfl,rfl,rfl,rfl,rfl,_,_,rfl,rfl,z1,z2,Gc.trans' gz (by intro z hz h;omega)⟩
     ·obtain⟨u1,u2,q1,q2,z1,z2,gz⟩:=st2d kc kb (by omega) l1 l2
      simp -implicitDefEqProofs only[go_sem,jR,jL,gLa,gLz,gLs,hwc,q1,q2];exact⟨rfl,rfl,rfl,rfl,rfl,_,_,rfl,rfl,z1,z2,Gc.trans' gz (by intro z hz h;omega)⟩
    ·refine⟨fun _=>Ext.alloc w1.drew _,?_⟩
     refine⟨?_,?_⟩
     ·have ga:No w1 (w1.alloc (.cells (bl (zG 32 0)) 23)).drew:=((Fr.refl _ _).alloc _).drew
      have ka:(w1.alloc (.cells (bl (zG 32 0)) 23)).drew.heap[w1.heap.size]?=_:=qQc w1 (.cells (bl (zG 32 0)) 23);generalize (w1.alloc (.cells (bl (zG 32 0)) 23)).drew=wa at *;refine qQg pl143 ((sidesR wa hk hdl hnl hlt).mono ?_);rintro _ wb ⟨rfl,gb⟩;refine⟨fun _=>rX gb,?_⟩;simp -implicitDefEqProofs only[go_sem,jR,jL,gLa,gLz,gLs,jS,qQj];obtain⟨wc,hwc,gc,kc,sc⟩:=qQm wb (bl (zG 32 0)) 23;have Gc:=ga.trans (gb.trans gc);have ka2:=gc.at (gb.at ka id) id;have lne:=qQi (gb.at ka id);obtain⟨u1,u2,q1,q2,z1,z2,gz⟩:=st2d ka2 kc (by omega) l1 l2;simp -implicitDefEqProofs only[go_sem,jR,jL,gLa,gLz,gLs,hwc,q1,q2];exact⟨rfl,rfl,rfl,rfl,rfl,_,_,rfl,rfl,z1,z2,Gc.trans' gz (by intro z hz h;omega)⟩
     ·refine⟨fun _=>Ext.alloc (w1.alloc (.cells (bl (zG 32 0)) 23)).drew _,?_⟩
      obtain⟨wb,hwb,gb,ka,kb,sb⟩:=qXe w1 (bl (zG 32 0)) 23 (bl (zG 32 0)) 23;rw[hwb];refine qQg pl143 ((sidesR wb.drew hk hdl hnl hlt).mono ?_);rintro _ wc ⟨rfl,gc⟩;refine⟨fun _=>rX gc,?_⟩;have Gc:=gb.drew.trans gc;have ka2:=gc.at (show wb.drew.heap[w1.heap.size]?=_ from ka) id;have kb2:=gc.at (show wb.drew.heap[w1.heap.size+1]?=_ from kb) id;obtain⟨u1,u2,q1,q2,z1,z2,gz⟩:=st2d ka2 kb2 (by omega) l1 l2;simp -implicitDefEqProofs only[go_sem,jR,jL,gLa,gLz,gLs,q1,q2];exact⟨rfl,rfl,rfl,rfl,rfl,_,_,rfl,rfl,z1,z2,Gc.trans' gz (by intro z hz h;omega)⟩
    ·refine⟨fun _=>Ext.alloc w1.drew _,?_⟩
     refine⟨?_,?_⟩
     ·have ga:No w1 (w1.alloc (.cells (bl (zG 32 0)) 23)).drew:=((Fr.refl _ _).alloc _).drew
      have ka:(w1.alloc (.cells (bl (zG 32 0)) 23)).drew.heap[w1.heap.size]?=_:=qQc w1 (.cells (bl (zG 32 0)) 23);generalize (w1.alloc (.cells (bl (zG 32 0)) 23)).drew=wa at *;refine qQg pl143 ((sidesR wa hk hdl hnl hlt).mono ?_);rintro _ wb ⟨rfl,gb⟩;refine⟨fun _=>rX gb,?_⟩;simp -implicitDefEqProofs only[go_sem,jR,jL,gLa,gLz,gLs,jS,qQj];obtain⟨wc,hwc,gc,kc,sc⟩:=qQm wb (bl (zG 32 0)) 23;have Gc:=ga.trans (gb.trans gc);have ka2:=gc.at (gb.at ka id) id;have lne:=qQi (gb.at ka id);obtain⟨u1,u2,q1,q2,z1,z2,gz⟩:=st2d kc ka2 (by omega) l1 l2;simp -implicitDefEqProofs only[go_sem,jR,jL,gLa,gLz,gLs,hwc,q1,q2];exact⟨rfl,rfl,rfl,rfl,rfl,_,_,rfl,rfl,z1,z2,Gc.trans' gz (by intro z hz h;omega)⟩
     ·refine⟨fun _=>Ext.alloc (w1.alloc (.cells (bl (zG 32 0)) 23)).drew _,?_⟩
      obtain⟨wb,hwb,gb,ka,kb,sb⟩:=qXe w1 (bl (zG 32 0)) 23 (bl (zG 32 0)) 23;rw[hwb];refine qQg pl143 ((sidesR wb.drew hk hdl hnl hlt).mono ?_);rintro _ wc ⟨rfl,gc⟩;refine⟨fun _=>rX gc,?_⟩;have Gc:=gb.drew.trans gc;have ka2:=gc.at (show wb.drew.heap[w1.heap.size]?=_ from ka) id;have kb2:=gc.at (show wb.drew.heap[w1.heap.size+1]?=_ from kb) id;obtain⟨u1,u2,q1,q2,z1,z2,gz⟩:=st2d kb2 ka2 (by omega) l1 l2;simp -implicitDefEqProofs only[go_sem,jR,jL,gLa,gLz,gLs,q1,q2];exact⟨rfl,rfl,rfl,rfl,rfl,_,_,rfl,rfl,z1,z2,Gc.trans' gz (by intro z hz h;omega)⟩
  case rest =>
   rintro ev w2 ⟨e0,e3,e5,e9,e10,b,c,e11,e12,kb,kc,f12⟩;have f02:=f01.trans f12;have rb:=rd_d agg23 sz23 kb l1;have rc:=rd_d agg23 sz23 kc l2;simp -implicitDefEqProofs only[go_sem,jR,e0,e11,e12,rb,rc];refine qQa pl100 ((branch w2 (ht.no f02) wd l1 l2).mono ?_);rintro _ w3 ⟨rfl,f23⟩;have hbl:=qQz wd (sd1 k D N h) (sd2 k D N h);generalize qQv wd (sd1 k D N h) (sd2 k D N h)=U at *;obtain⟨w4,q4,k4,f34,s4⟩:=allocD w3 sz23 hbl;have r4:=rd_d agg23 sz23 k4 hbl;have f14:=(f12.trans f23).trans f34;simp -implicitDefEqProofs only[go_sem,jR,jS,qQj,q4,e9,r4];refine qQo (v:=.slice (some ⟨w4.heap.size,0,.none⟩) 1 1) (w':=w4.alloc (.cells (bl U) 23)) (qXk (y:=List.map u8 (zG 32 0)) (by simp) (c:=bl (zG 32 0)) (by simp) (d:=U) hbl _) ?_;obtain⟨v5,w5,hr5,n5,f5,_,_⟩:=(nv1.fr0 f14).push app94_94 hbl (by rw[qKe];omega) (f3.trans f14);rw[← hps]at n5;simp -implicitDefEqProofs only[go_sem,jR];refine qQh ⟨v5,w5,hr5,?_⟩;simp -implicitDefEqProofs only[go_sem,jR,e10,c1];exact⟨256 - (h+1),by omega,h+1,v5,by show [ev 0,ev 3,ev 5,_,_]=_;rw[e0,e3,e5],by omega,rfl,n5,f5⟩
 ·have d1:=dFo ((h:Int)<256)
  obtain rfl:h=256:=by omega
  simp -implicitDefEqProofs only[go_sem,jR,d1];exact⟨nv1.back f1.size,f01⟩
def tx13 (wd:Int)(k:Bs)(a:Option Bs)(near path:List Bs):Nat→Bs
 | 0=>C.lowT k a
 | h+1=>qZg wd (sd1 k (path.getD h []) (near.getD h []) h) (sd2 k (path.getD h []) (near.getD h []) h)
def txK (W:World)(wd:Int)(X Y:Bs)(x0 x11 x12:Value)(w:World):Prop :=
 x0=.int .i64 wd∧∃ b c,x11=pt b 0∧x12=pt c 0∧w.heap[b]?=some (.cells (bl X) 23 (0,0))∧w.heap[c]?=some (.cells (bl Y) 23 (0,0))∧No W w
theorem text13 (w0:World)(wd:Int)(hk:k.length=32){vv nv pv:Value}{near path:List Bs}(hv:By w0 vv (a.getD []))(hal:∀ v, a=some v→v.length≤128)(hn:RdD w0 nv near)(hl:near.length=256)(hp:RdD w0 pv path)(hpl:path.length=257)(hh:h<257) :
  Fn prog 88 #[.int .i64 wd,dg k,.agg (spC a.isSome vv nv),pv,.int .i64 (h:Nat)] w0 fun v w'=>NwB w0 w' v (tx13 wd k a near path h)∧No w0 w':=by
 refine go88 (by simp) ?_;obtain⟨nb,no,nc,rfl,_,hnb⟩:=hn.pos (by omega);obtain⟨pb,po,pc,rfl,_,hpb⟩:=hp.pos (by omega);obtain⟨W,hW,f1,k1,k2,s1⟩:=qXe w0 (bl k) 34 (spC a.isSome vv (.slice (some ⟨nb,no,.none⟩) near.length nc)) 157;have rk:=rd_d agg34 sz34 k1 hk
 cases h with
 | zero =>
  have d1:decide (((0:Nat):Int) > 0)=false:=rfl;have rF:rdO prog 4 W (w0.heap.size+1) 0=some (.bool a.isSome):=rd1 agg4 k2 rfl;have rV:rdO prog 25 W (w0.heap.size+1) 1=some vv:=rd1 agg25 k2 rfl
  cases a with
  | none =>
   dsimp only[Option.isSome]at *;simp -implicitDefEqProofs only[go_sem,jR,vY,Tryz.f88,jS,hW,d1,rF];refine qQo (v:=.slice (some ⟨W.heap.size,0,.none⟩) 1 1) (w':=W.alloc (.cells (bl [2]) 5)) rfl ?_;have n2:NwB w0 (W.alloc (.cells (bl [2]) 5)) (.slice (some ⟨W.heap.size,0,.none⟩) 1 1) [2]:=mk_nw w0 W 5 1 1 1 (bl [2]) f1.size rfl (xP _);simp -implicitDefEqProofs only[go_sem];exact⟨n2,f1.alloc _⟩
  | some val =>
   dsimp only[Option.isSome]at *;simp -implicitDefEqProofs only[go_sem,jR,vY,Tryz.f88,jS,hW,d1,rF,rV,rk];refine qQa pl145 ((leafText W hk (hv.fr0 f1) (by have:=hal val rfl;show val.length≤_;omega)).mono ?_);rintro v w2 ⟨n2,f2⟩;obtain⟨xa,xc,rfl⟩:=n2.slice;simp -implicitDefEqProofs only[go_sem];exact⟨n2.back f1.size,f1.trans f2⟩
 | succ h =>
  have d1:=dTo (((h+1:Nat):Int) > 0);have c1:IntKind.i64.wrap (((h+1:Nat):Int) - 1)=(h:Int):=by rw[show (((h+1:Nat):Int) - 1)=((h:Nat):Int) by omega];exact i64n
  have rkd:rdO prog 34 W.drew w0.heap.size 0=_:=rk;have rS:rdO prog 94 W (w0.heap.size+1) 2=some (.slice (some ⟨nb,no,.none⟩) near.length nc):=rd1 agg94 k2 rfl;have rSd:rdO prog 94 W.drew (w0.heap.size+1) 2=_:=rS;have rp:=(hp.fr0 f1).get (P:=prog) agg23 sz23 (i:=h) (by omega);have rpd:rdO prog 23 W.drew pb (po+h*32)=_:=rp;have yp:=iBd (i:=h) (n:=path.length);have rn:=(hn.fr0 f1).get (P:=prog) agg23 sz23 (i:=h) (by omega);have rnd:rdO prog 23 W.drew nb (no+h*32)=_:=rn;have yn:=iBd (i:=h) (n:=near.length);have hdl:(path.getD h []).length=32:=hp.1.getD (by omega);have hnl:(near.getD h []).length=32:=hn.1.getD (by omega);have htx:tx13 wd k a near path (h+1)=qZg wd (sd1 k (path.getD h []) (near.getD h []) h) (sd2 k (path.getD h []) (near.getD h []) h):=rfl;rw[htx];generalize path.getD h []=D at *;generalize near.getD h []=N at *;have l1:=sd1_len (k:=k) (h:=h) hdl hnl;have l2:=sd2_len (k:=k) (h:=h) hdl hnl;simp -implicitDefEqProofs only[go_sem,jR,vY,Tryz.f88,jS,hW,d1];refine qJa (fun j=>j == 14 || (j == 18 || j == 19)) (.one 0 (.one 1 (.one 2 (.one 3 (.one 4 (.one 5 (.one 6 (.one 7 (.one 8 (.one 9 (.one 10 (.one 11 (.one 12 (.one 13 (.tri 14 (.one 15 (.one 16 (.one 17 (.two 18 (.row [19,20,21]) 19 (.row [18,20,21]))))) 18 (.two 14 (.row [15,16,17,19,20,21]) 19 (.row [14,15,16,17,20,21])) 19 (.two 14 (.row [15,16,17,18,20,21]) 18 (.row [14,15,16,17,20,21]))))))))))))))))) rfl (by kernel_rfl) (by kernel_rfl) ?_;refine qXh (K:=fun ev w=>txK W wd (sd1 k D N h) (sd2 k D N h) (ev 0) (ev 11) (ev 12) w) ?rest _ ?main
  case main =>
   have gd:No W W.drew:=(Fr.refl _ _).drew;simp only[OT.row];simp -implicitDefEqProofs only[go_sem,jR,jL,gLa,gLz,gLs,jS,qQj,rkd,c1,yp,yn,and_self,if_true,iTn,rSd,rpd,rnd];refine⟨?_,?_,?_⟩
   ·refine qQg pl143 ((sidesR W.drew hk hdl hnl (show h<256 by omega)).mono ?_)
    rintro _ wa ⟨rfl,ga⟩;refine⟨fun _=>rX ga,?_⟩;have Ga:=gd.trans ga;simp -implicitDefEqProofs only[go_sem,jR,jL,gLa,gLz,gLs,jS,qQj];obtain⟨wc,hwc,gc,kb,kc,sc⟩:=qXe wa (bl (zG 32 0)) 23 (bl (zG 32 0)) 23;have Gc:=Ga.trans gc;have sGa:=Ga.size;refine⟨?_,?_⟩
    ·obtain⟨u1,u2,q1,q2,z1,z2,gz⟩:=st2d kb kc (by omega) l1 l2
     simp -implicitDefEqProofs only[go_sem,jR,jL,gLa,gLz,gLs,hwc,q1,q2];exact⟨rfl,_,_,rfl,rfl,z1,z2,Gc.trans' gz (by intro z hz h;omega)⟩
    ·obtain⟨u1,u2,q1,q2,z1,z2,gz⟩:=st2d kc kb (by omega) l1 l2
     simp -implicitDefEqProofs only[go_sem,jR,jL,gLa,gLz,gLs,hwc,q1,q2];exact⟨rfl,_,_,rfl,rfl,z1,z2,Gc.trans' gz (by intro z hz h;omega)⟩
   ·refine⟨fun _=>Ext.alloc W.drew _,?_⟩
    refine⟨?_,?_⟩
    ·have ga:No W (W.alloc (.cells (bl (zG 32 0)) 23)).drew:=((Fr.refl _ _).alloc _).drew
     have ka:(W.alloc (.cells (bl (zG 32 0)) 23)).drew.heap[W.heap.size]?=_:=qQc W (.cells (bl (zG 32 0)) 23);generalize (W.alloc (.cells (bl (zG 32 0)) 23)).drew=wa at *;refine qQg pl143 ((sidesR wa hk hdl hnl (show h<256 by omega)).mono ?_);rintro _ wb ⟨rfl,gb⟩;refine⟨fun _=>rX gb,?_⟩;simp -implicitDefEqProofs only[go_sem,jR,jL,gLa,gLz,gLs,jS,qQj];obtain⟨wc,hwc,gc,kc,sc⟩:=qQm wb (bl (zG 32 0)) 23;have Gc:=ga.trans (gb.trans gc);have ka2:=gc.at (gb.at ka id) id;have lne:=qQi (gb.at ka id);obtain⟨u1,u2,q1,q2,z1,z2,gz⟩:=st2d ka2 kc (by omega) l1 l2;simp -implicitDefEqProofs only[go_sem,jR,jL,gLa,gLz,gLs,hwc,q1,q2];exact⟨rfl,_,_,rfl,rfl,z1,z2,Gc.trans' gz (by intro z hz h;omega)⟩
    ·refine⟨fun _=>Ext.alloc (W.alloc (.cells (bl (zG 32 0)) 23)).drew _,?_⟩
     obtain⟨wb,hwb,gb,ka,kb,sb⟩:=qXe W (bl (zG 32 0)) 23 (bl (zG 32 0)) 23;rw[hwb];refine qQg pl143 ((sidesR wb.drew hk hdl hnl (show h<256 by omega)).mono ?_);rintro _ wc ⟨rfl,gc⟩;refine⟨fun _=>rX gc,?_⟩;have Gc:=gb.drew.trans gc;have ka2:=gc.at (show wb.drew.heap[W.heap.size]?=_ from ka) id;have kb2:=gc.at (show wb.drew.heap[W.heap.size+1]?=_ from kb) id;obtain⟨u1,u2,q1,q2,z1,z2,gz⟩:=st2d ka2 kb2 (by omega) l1 l2;simp -implicitDefEqProofs only[go_sem,jR,jL,gLa,gLz,gLs,q1,q2];exact⟨rfl,_,_,rfl,rfl,z1,z2,Gc.trans' gz (by intro z hz h;omega)⟩
   ·refine⟨fun _=>Ext.alloc W.drew _,?_⟩
    refine⟨?_,?_⟩
    ·have ga:No W (W.alloc (.cells (bl (zG 32 0)) 23)).drew:=((Fr.refl _ _).alloc _).drew
     have ka:(W.alloc (.cells (bl (zG 32 0)) 23)).drew.heap[W.heap.size]?=_:=qQc W (.cells (bl (zG 32 0)) 23);generalize (W.alloc (.cells (bl (zG 32 0)) 23)).drew=wa at *;refine qQg pl143 ((sidesR wa hk hdl hnl (show h<256 by omega)).mono ?_);rintro _ wb ⟨rfl,gb⟩;refine⟨fun _=>rX gb,?_⟩;simp -implicitDefEqProofs only[go_sem,jR,jL,gLa,gLz,gLs,jS,qQj];obtain⟨wc,hwc,gc,kc,sc⟩:=qQm wb (bl (zG 32 0)) 23;have Gc:=ga.trans (gb.trans gc);have ka2:=gc.at (gb.at ka id) id;have lne:=qQi (gb.at ka id);obtain⟨u1,u2,q1,q2,z1,z2,gz⟩:=st2d kc ka2 (by omega) l1 l2;simp -implicitDefEqProofs only[go_sem,jR,jL,gLa,gLz,gLs,hwc,q1,q2];exact⟨rfl,_,_,rfl,rfl,z1,z2,Gc.trans' gz (by intro z hz h;omega)⟩
    ·refine⟨fun _=>Ext.alloc (W.alloc (.cells (bl (zG 32 0)) 23)).drew _,?_⟩
     obtain⟨wb,hwb,gb,ka,kb,sb⟩:=qXe W (bl (zG 32 0)) 23 (bl (zG 32 0)) 23;rw[hwb];refine qQg pl143 ((sidesR wb.drew hk hdl hnl (show h<256 by omega)).mono ?_);rintro _ wc ⟨rfl,gc⟩;refine⟨fun _=>rX gc,?_⟩;have Gc:=gb.drew.trans gc;have ka2:=gc.at (show wb.drew.heap[W.heap.size]?=_ from ka) id;have kb2:=gc.at (show wb.drew.heap[W.heap.size+1]?=_ from kb) id;obtain⟨u1,u2,q1,q2,z1,z2,gz⟩:=st2d kb2 ka2 (by omega) l1 l2;simp -implicitDefEqProofs only[go_sem,jR,jL,gLa,gLz,gLs,q1,q2];exact⟨rfl,_,_,rfl,rfl,z1,z2,Gc.trans' gz (by intro z hz h;omega)⟩
  case rest =>
   rintro ev w2 ⟨e0,b,c,e11,e12,kb,kc,f12⟩;have rb:=rd_d agg23 sz23 kb l1;have rc:=rd_d agg23 sz23 kc l2;simp -implicitDefEqProofs only[go_sem,jR,e0,e11,e12,rb,rc];refine qQa pl144 ((branchText w2 wd l1 l2).mono ?_);rintro v w3 ⟨n3,f3⟩;obtain⟨xa,xc,rfl⟩:=n3.slice;simp -implicitDefEqProofs only[go_sem];exact⟨n3.back (f1.trans f12).size,(f1.trans f12).trans f3⟩
end R
namespace R
def H13 (w0:World)(wd:Int)(root k raw:Bs)(r:Value)(w':World):Prop:=No w0 w'∧match C.heldP wd root k raw with
 | .error e=>r=.tuple #[.agg (spC false (.slice .none 0 0) (.slice .none 0 0)),.slice .none 0 0,.int .i64 e]
 | .ok (a,bits,sums)=>∃ vv nv pv,r=.tuple #[.agg (spC a.isSome vv nv),pv,.int .i64 0]∧one vv=true∧one nv=true∧By w' vv (a.getD [])∧RdD w' nv (rM wd bits sums)∧RdD w' pv (pathL wd k (vG wd k a) (rM wd bits sums) 257)
theorem holds13 (w0:World)(ht:Tabs w0){W:Nat}(hW:wd=W)(hW1:1≤W)(hW2:W≤32){root k raw:Bs}(hroot:root.length=32)(hk:k.length=32){esv rv:Value}(he:RdD w0 esv (empts wd 257))(hr:By w0 rv raw)(hl:raw.length≤2 ^ 40) :
  Fn prog 87 #[.int .i64 wd,esv,dg root,dg k,rv] w0 (H13 w0 wd root k raw):=by
 refine go87 (by simp) ?_;have bl0:bldO prog 157 []=some (.agg (spC false (.slice .none 0 0) (.slice .none 0 0))):=by kernel_rfl
 obtain⟨eb,eo,ec,rfl,_,heb⟩:=he.pos (by rw[qQn];omega);obtain⟨ra,rc,rfl,_⟩:=hr.slice;obtain⟨w1,hw1,f1,k1,k2,k3,s1⟩:=qJd w0 (bl root) 23 (bl k) 34 (spC false (.slice .none 0 0) (.slice .none 0 0)) 157
 have fin:∀ (w:World) (f:Bool) (vv nv:Value), No w1 w→one vv=true→one nv=true →
   wrO prog 157 w (w0.heap.size+1+1) 0 (.agg (spC f vv nv))=some (put w (w0.heap.size+1+1) (.cells (spC f vv nv) 157 (0,0)))∧rdO prog 157 (put w (w0.heap.size+1+1) (.cells (spC f vv nv) 157 (0,0))) (w0.heap.size+1+1) 0=some (.agg (spC f vv nv)) ∧
    No w0 (put w (w0.heap.size+1+1) (.cells (spC f vv nv) 157 (0,0)))∧Fr (fun b=>b=w0.heap.size+1+1) w (put w (w0.heap.size+1+1) (.cells (spC f vv nv) 157 (0,0))):=fun w f vv nv fw ov on =>
  have h:=fw.at k3 id
  ⟨qQw sz157 h rfl (by simp[ov,on];rfl),qXv agg157 sz157 (qQf (o:=.cells (spC f vv nv) 157 (0,0)) h),(f1.trans fw).put (b:=w0.heap.size+1+1) _ fun h=>by omega,(Fr.refl _ _).put (b:=w0.heap.size+1+1) _ fun _=>rfl⟩
 simp -implicitDefEqProofs only[go_sem,jR,vY,Tryz.f87,jS,hw1];refine qQa pl140 ((form13 w1 hW hW2 (he.fr0 f1) (hr.fr0 f1) hl).mono ?_);rintro r w2 ⟨f2,hm⟩;have f02:=f1.trans f2;unfold H13 C.heldP;rw[if_neg (by omega)]
 have bad:∀ e:Int, (e != 0)=true→r=.tuple #[.agg (spC false (.slice .none 0 0) (.slice .none 0 0)), .int .i64 e]→∃ w3 w4, wrO prog 157 (w2.alloc (.cells (spC false (.slice .none 0 0) (.slice .none 0 0)) 157)) w2.heap.size 0 (.agg (spC false (.slice .none 0 0) (.slice .none 0 0)))=some w3 ∧
   wrO prog 157 w3 (w0.heap.size+1+1) 0 (.agg (spC false (.slice .none 0 0) (.slice .none 0 0)))=some w4∧rdO prog 157 w4 (w0.heap.size+1+1) 0=some (.agg (spC false (.slice .none 0 0) (.slice .none 0 0)))∧No w0 w4:=fun e _ _=>by
  obtain⟨w3,q3,k3,f3,s3⟩:=allocSp w2 (f:=false) (vv:=.slice .none 0 0) (nv:=.slice .none 0 0) rfl rfl;obtain⟨q4,r4,f4,_⟩:=fin w3 false (.slice .none 0 0) (.slice .none 0 0) (f2.trans f3) rfl rfl;exact⟨w3,_,q3,q4,r4,f4⟩
 cases hd:Wit.decP raw with
 | none =>
  rw[hd]at hm;obtain⟨w3,w4,q3,q4,r4,f4⟩:=bad 120 rfl hm;subst hm;have n0:((120:Int) != 0)=true:=rfl;simp -implicitDefEqProofs only[go_sem,jR,gLa,gLz,gLs,jS,q3,n0,bl0,q4,r4];exact⟨f4,trivial⟩
 | some y =>
  obtain⟨a,bits,sums⟩:=y;rw[hd]at hm;obtain⟨hbl,hsl,h32,hal⟩:=Wit.decP_ok hd;dsimp only at hm ⊢
  by_cases hc:Wit.chk wd (Wit.gsOf bits sums)=0
  ·rw[if_neg (fun h=>h hc)]at hm
   rw[if_neg (fun h=>h hc)];obtain⟨vv,nv,rfl,ov,on,hv,hn,hvb,hnb⟩:=hm;obtain⟨w3,q3,k3',f3,s3⟩:=allocSp w2 (f:=a.isSome) ov on;have f13:=f2.trans f3;have f03:=f1.trans f13;have rF:rdO prog 4 w3 w2.heap.size 0=some (.bool a.isSome):=rd1 agg4 k3' rfl;have rV:rdO prog 25 w3 w2.heap.size 1=some vv:=rd1 agg25 k3' rfl;have rk:=rd_d agg34 sz34 (f13.at k2 id) hk;simp -implicitDefEqProofs only[go_sem,jR,gLa,gLz,gLs,bNe,jS,q3,rF,rV,rk];refine qQa pl141 ((start13 w3 (ht.no f03) wd hk (hv.fr0 f3) hal).mono ?_);rintro _ w4 ⟨rfl,f4⟩;have hdl:=Wit.ldig_len wd k a;obtain⟨w5,q5,k5,f5,s5⟩:=allocD w4 sz23 hdl;have f35:=f4.trans f5;have f15:=f13.trans f35;have f05:=f1.trans f15;have rk5:=rd_d agg34 sz34 (f15.at k2 id) hk;have rD:=rd_d agg23 sz23 k5 hdl;have rN:rdO prog 94 w5 w2.heap.size 2=some nv:=rd1 agg94 (f35.at k3' id) rfl;have hnl:(rM wd bits sums).length=256:=qXs _ _ _;simp -implicitDefEqProofs only[go_sem,jR,jS,qQj,q5,rk5,rD,rN];refine qQa pl142 ((upward13 w5 (ht.no f05) wd hk hdl (hn.fr0 (f3.trans f35)) hnl).mono ?_);rintro pv w6 ⟨np,f6⟩;have f16:=f15.trans f6;have f06:=f1.trans f16;have hpl:=qKe wd k (vG wd k a) (rM wd bits sums) 257;obtain⟨pb,po,pc,rfl,_,_⟩:=np.rd.pos (by omega);have rp:=np.rd.get (P:=prog) agg23 sz23 (i:=256) (by omega);rw[pathL_at wd k _ _ (by omega),zF (by omega)]at rp;have rp:rdO prog 23 w6 pb (po+256*32)=some (dg (C.clD wd k a bits sums)):=rp;have rpd:rdO prog 23 w6.drew pb (po+256*32)=_:=rp;have rr:=rd_d agg23 sz23 (f16.at k1 id) hroot;have rrd:rdO prog 23 w6.drew w0.heap.size 0=_:=rr;have yp:(0:Int)≤256∧(256:Int)<(((pathL wd k (vG wd k a) (rM wd bits sums) 257).length:Nat):Int):=by omega
   have t256:(256:Int).toNat=256:=rfl;have eq:=eqDig (C.clD_len wd k a bits sums) hroot;have rsp:rdO prog 157 w6 w2.heap.size 0=some (.agg (spC a.isSome vv nv)):=qXv (P:=prog) (vs:=spC a.isSome vv nv) agg157 sz157 ((f35.trans f6).at k3' id);have rspd:rdO prog 157 w6.drew w2.heap.size 0=_:=rsp
   by_cases hcd:C.clD wd k a bits sums=root
   ·have hb:(C.clD wd k a bits sums == root)=true:=by rw[beq_iff_eq];exact hcd
    obtain⟨q7,r7,f7,g7⟩:=fin w6.drew a.isSome vv nv f16.drew ov on;have g67:Fr (fun b=>b=w0.heap.size+1+1) w6 (put w6.drew (w0.heap.size+1+1) (.cells (spC a.isSome vv nv) 157 (0,0))):=((Fr.refl _ w6).drew).trans g7;simp -implicitDefEqProofs only[go_sem,jR,yp,t256,and_self,if_true,rpd,rrd,eq,hb,Bool.not_true,rspd,q7,r7];rw[if_pos hcd];refine⟨f7,vv,nv,_,rfl,ov,on,?_,?_,?_⟩
    ·exact (hv.fr0 (f3.trans (f35.trans f6))).fr g67 fun b hb _ h=>by have:=hvb b hb;omega
    ·exact (hn.fr0 (f3.trans (f35.trans f6))).fr g67 fun b hb _ h=>by have:=hnb b hb;omega
    ·exact np.rd.fr g67 fun b hb _ h=>by have:=(np.lt hb).1;have:=f15.size;omega
   ·have hb:(C.clD wd k a bits sums == root)=false:=by rw[bFn];exact hcd
    obtain⟨q7,r7,f7,_⟩:=fin w6.drew false (.slice .none 0 0) (.slice .none 0 0) f16.drew rfl rfl;simp -implicitDefEqProofs only[go_sem,jR,yp,t256,and_self,if_true,rpd,rrd,eq,hb,Bool.not_false,bl0,q7,r7];rw[if_neg hcd];exact⟨f7,rfl⟩
  ·rw[if_pos hc]at hm
   rw[if_pos hc];obtain⟨w3,w4,q3,q4,r4,f4⟩:=bad _ (by rw[bne_iff_ne];exact hc) hm;subst hm;have n0:(Wit.chk wd (Wit.gsOf bits sums) != 0)=true:=by rw[bne_iff_ne];exact hc
   simp -implicitDefEqProofs only[go_sem,jR,gLa,gLz,gLs,jS,q3,n0,bl0,q4,r4];exact⟨f4,trivial⟩
theorem tx13_eq (wd:Int)(k:Bs)(a:Option Bs)(bits:Bs)(sums:List Bs)(hn:n<257):tx13 wd k a (rM wd bits sums) (pathL wd k (vG wd k a) (rM wd bits sums) 257) n=(C.txs wd k a bits sums).getD n []:=by
 cases n with
 | zero=>rfl
 | succ h =>
  rw[C.txs_succ' wd k a bits sums (by omega)];unfold C.txH C.pth;show qZg wd (sd1 k ((pathL wd k (vG wd k a) (rM wd bits sums) 257).getD h []) ((rM wd bits sums).getD h []) h) (sd2 k ((pathL wd k (vG wd k a) (rM wd bits sums) 257).getD h []) ((rM wd bits sums).getD h []) h)=_;rw[pathL_at wd k _ _ (by omega),nearL_at wd bits sums (by omega)]
def ex13I (w1:World)(wd:Int)(kb sb1 sb2:Nat)(pv1 pv2:Value)(x y:List Bs)(m:Nat)(vs:List Value)(w:World):Prop :=
 ∃ n:Nat,vs=[.int .i64 wd,pt kb 0,pt sb1 0,pv1,pt sb2 0,pv2,.int .i64 ((n:Int) - 1)]∧n≤257∧m=n∧exP x y=exG x y n∧No w1 w
theorem extract13 (w0:World)(ht:Tabs w0){W:Nat}(hW:wd=W)(hW1:1≤W)(hW2:W≤32){root k:Bs}(hroot:root.length=32)(hk:k.length=32){r1 r2:Value}{p1 p2:Bs}(h1:By w0 r1 p1)(h2:By w0 r2 p2)(l1:p1.length≤2 ^ 40)(l2:p2.length≤2 ^ 40)(hne:p1≠p2)
  {a1 a2:Option Bs} {b1 b2:Bs} {s1 s2:List Bs} (g1:C.heldP wd root k p1=.ok (a1,b1,s1)) (g2:C.heldP wd root k p2=.ok (a2,b2,s2)) (hal1:∀ v,a1=some v→v.length≤128) (hal2:∀ v,a2=some v→v.length≤128) :
  Fn prog 44 #[.int .i64 wd,dg root,dg k,r1,r2] w0 (ExQ w0 (exP (C.txs wd k a1 b1 s1) (C.txs wd k a2 b2 s2))):=by
 refine go44 (by simp) ?_;obtain⟨w1,hw1,f1,k1,k2,sw1⟩:=qXe w0 (bl root) 23 (bl k) 34;simp -implicitDefEqProofs only[go_sem,jR,vY,Tryz.f44,jS,hw1];refine qQa pl86 ((wide13 w1 wd).mono ?_);rintro _ _ ⟨rfl,rfl⟩;rename_i w1;have dw:=dTo (1≤wd∧wd≤32);simp -implicitDefEqProofs only[go_sem,jR,gLa,gLz,gLs,dw,Bool.not_true,bSe];refine qQh ⟨_,_,by_str (h1.fr0 f1),?_⟩;simp -implicitDefEqProofs only[go_sem,jR,gLa,gLz,gLs];refine qQh ⟨_,_,by_str (h2.fr0 f1),?_⟩;have dne:decide (p1=p2)=false:=decide_eq_false hne;simp -implicitDefEqProofs only[go_sem,jR,gLa,gLz,gLs,str_eq,dne,bSe];refine qQa pl57 ((empties w1 (ht.no f1) wd).mono ?_);rintro esv w2 ⟨ne,f2⟩;have f02:=f1.trans f2;have rr2:=rd_d agg23 sz23 (f2.at k1 id) hroot;have rk2:=rd_d agg34 sz34 (f2.at k2 id) hk;simp -implicitDefEqProofs only[go_sem,jR,rr2,rk2];refine qQa pl87 ((holds13 w2 (ht.no f02) hW hW1 hW2 hroot hk ne.rd (h1.fr0 f02) l1).mono ?_);rintro _ w3 ⟨f3,hm⟩;rw[g1]at hm;obtain⟨vv1,nv1,pv1,rfl,ov1,on1,hv1,hn1,hp1⟩:=hm;obtain⟨w4,q4,k4,f4,s4⟩:=allocSp w3 (f:=a1.isSome) ov1 on1;have f24:=f3.trans f4;have f04:=f02.trans f24;have rr4:=rd_d agg23 sz23 ((f2.trans f24).at k1 id) hroot;have rk4:=rd_d agg34 sz34 ((f2.trans f24).at k2 id) hk;simp -implicitDefEqProofs only[go_sem,jR,gLa,gLz,gLs,jS,q4,rr4,rk4];refine qQa pl87 ((holds13 w4 (ht.no f04) hW hW1 hW2 hroot hk (ne.rd.fr0 f24) (h2.fr0 f04) l2).mono ?_);rintro _ w5 ⟨f5,hm⟩;rw[g2]at hm;obtain⟨vv2,nv2,pv2,rfl,ov2,on2,hv2,hn2,hp2⟩:=hm;obtain⟨w6,q6,k6,f6,s6⟩:=allocSp w5 (f:=a2.isSome) ov2 on2;have f46:=f5.trans f6;have f26:=f24.trans f46;have f06:=f02.trans f26;have ks1:=f46.at k4 id;have kk6:=(f2.trans f26).at k2 id;have hv1:=hv1.fr0 (f4.trans f46);have hn1:=hn1.fr0 (f4.trans f46);have hp1:=hp1.fr0 (f4.trans f46);have hv2:=hv2.fr0 f6;have hn2:=hn2.fr0 f6
 have hp2:=hp2.fr0 f6;simp -implicitDefEqProofs only[go_sem,jR,gLa,gLz,gLs,bNe,jS,q6,bSe];have e1:∀ n,n<257→tx13 wd k a1 (rM wd b1 s1) (pathL wd k (vG wd k a1) (rM wd b1 s1) 257) n=(C.txs wd k a1 b1 s1).getD n []:=fun n hn=>tx13_eq wd k a1 b1 s1 hn;have e2:∀ n,n<257→tx13 wd k a2 (rM wd b2 s2) (pathL wd k (vG wd k a2) (rM wd b2 s2) 257) n=(C.txs wd k a2 b2 s2).getD n []:=fun n hn=>tx13_eq wd k a2 b2 s2 hn;have hnl1:(rM wd b1 s1).length=256:=qXs _ _ _;have hnl2:(rM wd b2 s2).length=256:=qXs _ _ _;have hpl1:=qKe wd k (vG wd k a1) (rM wd b1 s1) 257;have hpl2:=qKe wd k (vG wd k a2) (rM wd b2 s2) 257;generalize C.txs wd k a1 b1 s1=X at *;generalize C.txs wd k a2 b2 s2=Y at *;refine loopD [0,7,14,15,17,18,20] (ex13I w6 wd (w0.heap.size+1) w3.heap.size w5.heap.size pv1 pv2 X Y) 257 ⟨257,rfl,xP _,rfl,rfl,Fr.refl _ _⟩ ?_;rintro n vs w g ⟨_,rfl,hn,rfl,hG,fw⟩;unfold ExQ
 cases n with
 | zero =>
  have d1:decide (((0:Nat):Int) - 1 ≥ 0)=false:=rfl;simp -implicitDefEqProofs only[go_sem,jR,d1];rw[hG];exact⟨f06.trans fw,trivial⟩
 | succ n =>
  have en:((n+1:Nat):Int) - 1=(n:Nat):=by omega
  have d1:=dTo ((n:Int) ≥ 0);have c1:IntKind.i64.wrap ((n:Int) - 1)=(n:Int) - 1:=qZa (by omega) (by omega);have rk7:=rd_d agg34 sz34 (fw.at kk6 id) hk;have rs7:=qXv (P:=prog) (vs:=spC a1.isSome vv1 nv1) agg157 sz157 (fw.at ks1 id);simp -implicitDefEqProofs only[go_sem,jR,en,d1,rk7,rs7];refine qQa pl88 ((text13 w wd hk (hv1.fr0 fw) hal1 (hn1.fr0 fw) hnl1 (hp1.fr0 fw) hpl1 (h:=n) (by omega)).mono ?_);rintro xv w7 ⟨nx,f7⟩;rw[e1 n (by omega)]at nx;have fw7:=fw.trans f7;have rk8:=rd_d agg34 sz34 (fw7.at kk6 id) hk;have rs8:=qXv (P:=prog) (vs:=spC a2.isSome vv2 nv2) agg157 sz157 (fw7.at k6 id);simp -implicitDefEqProofs only[go_sem,jR,rk8,rs8];refine qQa pl88 ((text13 w7 wd hk (hv2.fr0 fw7) hal2 (hn2.fr0 fw7) hnl2 (hp2.fr0 fw7) hpl2 (h:=n) (by omega)).mono ?_);rintro yv w8 ⟨ny,f8⟩;rw[e2 n (by omega)]at ny;have fw8:=fw7.trans f8
  have bx:=(nx.fr0 f8).by
  have by':=ny.by
  simp -implicitDefEqProofs only[go_sem,jR];refine qQh ⟨_,_,by_str bx,?_⟩;simp -implicitDefEqProofs only[go_sem,jR];refine qQh ⟨_,_,by_str by',?_⟩
  by_cases he:X.getD n []=Y.getD n []
  ·have d2:decide (X.getD n []=Y.getD n [])=true:=decide_eq_true he
   simp -implicitDefEqProofs only[go_sem,jR,str_eq,d2,Bool.not_true,c1];exact⟨n,by omega,n,rfl,by omega,rfl,by rw[hG,exG,if_pos he],fw8⟩
  ·have d2:decide (X.getD n []=Y.getD n [])=false:=decide_eq_false he
   have ex:exP X Y=some (X.getD n [],Y.getD n []):=by rw[hG,exG,if_neg he]
   simp -implicitDefEqProofs only[go_sem,jR,str_eq,d2,Bool.not_false];rw[ex];exact⟨f06.trans fw8,xv,yv,rfl,bx,by'⟩
end R
section
namespace C
theorem cut_inj {d e:Bs}(hd:cutD w d=d)(he:cutD w e=e)(h:d.take (wid w)=e.take (wid w)):d=e:=by
 have l1:d.length=32:=by rw[← hd];exact qXj _ _
 have l2:e.length=32:=by rw[← he];exact qXj _ _
 rw[← hd,← he,cutD_eq w d l1,cutD_eq w e l2,h]
theorem branchT_inj {a b c d:Bs}(ha:cutD w a=a)(hb:cutD w b=b)(hc:cutD w c=c)(hd:cutD w d=d)(h:qZg w a b=qZg w c d):a=c∧b=d:=by
 have la:a.length=32:=by rw[← ha];exact qXj _ _
 have lc:c.length=32:=by rw[← hc];exact qXj _ _
 have hw:=wid_le w;unfold qZg at h;have h:=List.append_inj (List.cons.inj h).2 (by rw[lTk,lTk,la,lc]);exact⟨cut_inj ha hc h.1,cut_inj hb hd h.2⟩
theorem lowT_inj {a b:Option Bs}(h:lowT k a=lowT k b):a=b:=by
 cases a <;> cases b <;> simp_all [lowT,leafT]
theorem lowT_cut (wd:Int)(k:Bs)(a:Option Bs):hcut wd (lowT k a)=vG wd k a:=by cases a <;> rfl
section
variable {wd:Int} {k:Bs} {a b:Option Bs} {b1 b2:Bs} {s1 s2:List Bs}
theorem pth_succ (wd:Int)(k:Bs)(a:Option Bs)(bits:Bs)(sums:List Bs)(hh:h<256):pth wd k a bits sums (h+1)=up wd k h (pth wd k a bits sums h) (rB wd bits sums h):=by
 unfold pth;rw[climb_succ wd k _ (by rw[qXs];exact hh),nearL_at wd bits sums hh]
theorem pth_top (wd:Int)(k:Bs)(a:Option Bs)(bits:Bs)(sums:List Bs):pth wd k a bits sums 256=clD wd k a bits sums:=by
 unfold pth clD;rw[zF (by rw[qXs];exact xP _)]
theorem pth_tdy (wd:Int)(k:Bs)(a:Option Bs)(bits:Bs)(sums:List Bs)(h:Nat):cutD wd (pth wd k a bits sums h)=pth wd k a bits sums h:=Wit.climb_tdy wd k _ _ _ (Wit.ldig_tdy _ _ _)
theorem txs_zero (wd:Int)(k:Bs)(a:Option Bs)(bits:Bs)(sums:List Bs):(txs wd k a bits sums).getD 0 []=lowT k a:=rfl
theorem txs_succ (wd:Int)(k:Bs)(a:Option Bs)(bits:Bs)(sums:List Bs)(hh:h<256):(txs wd k a bits sums).getD (h+1) []=txH wd k (pth wd k a bits sums) (rB wd bits sums) h:=by
 unfold txs txL;rw[yP,qQl _ (by simpa using hh)]
 simp
theorem txs_cut (wd:Int)(k:Bs)(a:Option Bs)(bits:Bs)(sums:List Bs):∀ {h:Nat},h<257→hcut wd ((txs wd k a bits sums).getD h [])=pth wd k a bits sums h
 | 0,_=>by rw[txs_zero,lowT_cut];rfl
 | h+1,hh=>by
  rw[txs_succ _ _ _ _ _ (by omega),pth_succ _ _ _ _ _ (by omega),← sd_up]
  rfl
theorem exG_ok (t1:∀ h, h<256→cutD wd (rB wd b1 s1 h)=rB wd b1 s1 h)(t2:∀ h, h<256→cutD wd (rB wd b2 s2 h)=rB wd b2 s2 h)(hab:a≠b) :
  ∀ n,n<257→pth wd k a b1 s1 n=pth wd k b b2 s2 n→∃ x y,exG (txs wd k a b1 s1) (txs wd k b b2 s2) (n+1)=some (x,y)∧x≠y∧hcut wd x=hcut wd y:=by
 intro n
 induction n with
 | zero =>
  intro _ h
  have hne:¬ (txs wd k a b1 s1).getD 0 []=(txs wd k b b2 s2).getD 0 []:=fun e=>by
   rw[txs_zero,txs_zero]at e;exact hab (lowT_inj e)
  refine⟨_,_,by rw[exG,if_neg hne],hne,?_⟩;rw[txs_cut _ _ _ _ _ (by omega),txs_cut _ _ _ _ _ (by omega),h]
 | succ n ih =>
  intro hn h
  by_cases he:(txs wd k a b1 s1).getD (n+1) []=(txs wd k b b2 s2).getD (n+1) []
  ·rw[exG,if_pos he]
   refine ih (by omega) ?_;rw[txs_succ _ _ _ _ _ (by omega),txs_succ _ _ _ _ _ (by omega)]at he;unfold txH sd1 sd2 at he;split at he
   ·exact (branchT_inj (t1 n (by omega)) (pth_tdy _ _ _ _ _ _) (t2 n (by omega)) (pth_tdy _ _ _ _ _ _) he).2
   ·exact (branchT_inj (pth_tdy _ _ _ _ _ _) (t1 n (by omega)) (pth_tdy _ _ _ _ _ _) (t2 n (by omega)) he).1
  ·refine⟨_,_,by rw[exG,if_neg he],he,?_⟩
   rw[txs_cut _ _ _ _ _ (by omega),txs_cut _ _ _ _ _ (by omega),h]
end
theorem part_held {root:Bs}(hok:t.Ok)(hd:Wit.Tdy wd t)(htop:t.top=256)(hk:k ∈ t.keys)(hr:Wit.dig wd Wit.asIs t=root)(h1:1≤wd)(h2:wd≤32) :
  ∃ bits sums,heldP wd root k (Wit.txt wd (rE wd t k))=.ok (t.at k,bits,sums)∧rM wd bits sums=Wit.nbrs wd t k:=by
 have h:=Wit.part_form hok hd htop hk;rw[Wit.form_dec]at h;unfold heldP;rw[if_neg (by omega)]
 cases hdec:Wit.decP (Wit.txt wd (rE wd t k)) with
 | none=>rw[hdec]at h;cases h
 | some y =>
  obtain⟨a,bits,sums⟩:=y;rw[hdec]at h;dsimp only at h ⊢
  by_cases hc:Wit.chk wd (Wit.gsOf bits sums)=0
  ·rw[if_neg (fun e=>e hc)]at h
   unfold rE at h;simp only[Except.ok.injEq,oSi,Wit.Tw.leaf.injEq,true_and]at h;obtain⟨hn,ha⟩:=h;refine⟨bits,sums,?_,hn⟩
   have hcl:clD wd k a bits sums=root:=by
    unfold clD;rw[hn,ha,rA wd hok hk,hr]
   rw[if_neg (fun e=>e hc),if_pos hcl,ha]
  ·rw[if_pos hc]at h;cases h
theorem clashed {root:Bs}{s t:Wit.Tw}(os:s.Ok)(ds:Wit.Tdy wd s)(ts:s.top=256)(ks:k ∈ s.keys)(rs:Wit.dig wd Wit.asIs s=root)(ot:t.Ok)(dt:Wit.Tdy wd t)(tt:t.top=256)(kt:k ∈ t.keys)(rt:Wit.dig wd Wit.asIs t=root)(h1:1≤wd)(h2:wd≤32)(hne:s.at k≠t.at k) :
  ∃ b1 s1 b2 s2 x y,heldP wd root k (Wit.txt wd (rE wd s k))=.ok (s.at k,b1,s1)∧heldP wd root k (Wit.txt wd (rE wd t k))=.ok (t.at k,b2,s2)∧exP (txs wd k (s.at k) b1 s1) (txs wd k (t.at k) b2 s2)=some (x,y)∧x≠y∧hcut wd x=hcut wd y:=by
 obtain⟨b1,s1,e1,n1⟩:=part_held os ds ts ks rs h1 h2;obtain⟨b2,s2,e2,n2⟩:=part_held ot dt tt kt rt h1 h2
 have tdy:∀ {b:Bs} {s:List Bs} {u:Wit.Tw},Wit.Tdy wd u→rM wd b s=Wit.nbrs wd u k→∀ h,h<256→cutD wd (rB wd b s h)=rB wd b s h:=fun {b s u} hu e h hh=>by
  refine Wit.nbrs_tdy wd k hu _ ?_;rw[← e,← nearL_at wd b s hh,qQl _ (by rw[qXs];exact hh)];exact List.getElem_mem _
 have hp:pth wd k (s.at k) b1 s1 256=pth wd k (t.at k) b2 s2 256:=by
  rw[pth_top,pth_top];unfold clD;rw[n1,n2,rA wd os ks,rA wd ot kt,rs,rt]
 obtain⟨x,y,hx,hxy,hc⟩:=exG_ok (tdy ds n1) (tdy dt n2) hne 256 (by omega) hp;exact⟨b1,s1,b2,s2,x,y,e1,e2,hx,hxy,hc⟩
end C
end
end Go.V
