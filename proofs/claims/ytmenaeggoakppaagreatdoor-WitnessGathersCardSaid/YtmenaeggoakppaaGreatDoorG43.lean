/- Helpers. -/
import Derived.Test.YtmenaeggoakppaaGreatDoorG40
import Derived.Test.YtmenaeggoakppaaGreatDoorG42
import Derived.Test.YtmenaeggoakppaaGreatDoorG34
import Derived.Test.YtmenaeggoakppaaGreatDoorG25
import Derived.Test.YtmenaeggoakppaaGreatDoorG35
import Derived.Test.YtmenaeggoakppaaGreatDoorG20
import Derived.Test.YtmenaeggoakppaaGreatDoorG32
import Derived.Test.YtmenaeggoakppaaGreatDoorG17
import Derived.Test.YtmenaeggoakppaaGreatDoorG39
import Derived.Test.YtmenaeggoakppaaGreatDoorG24
import Derived.Test.YtmenaeggoakppaaGreatDoorG22
import Derived.Test.YtmenaeggoakppaaGreatDoorG23
import Derived.Test.YtmenaeggoakppaaGreatDoorG26
set_option linter.all false
set_option maxRecDepth 100000
set_option maxHeartbeats 8000000
open List renaming replicate→zG,map_cons→qP,take_of_length_le→zF
open Nat renaming reduceEqDiff→jF,reduceBEq→jB,reduceAdd→vJ,le_refl→xP
open Go.Value renaming cells→jM
open Go.V.Wit renaming frm→yL,findS→rP,lefts→yT,Sg→rR,nearL→rX
namespace Go.V
open Go.Proofs.Tryz Go.V.Tryz
open Go.Proofs Sha
variable {p:Bool} {bs:Bs} {wd:Int} {b h mb n:Nat} {rv v:Value} {w w':World}
namespace R
def pathL (wd:Int)(k d:Bs)(near:List Bs)(n:Nat):List Bs:=(List.range n).map fun h=>climb wd k 0 d (near.take h)
theorem pathL_len (wd:Int)(k d:Bs)(near:List Bs)(n:Nat):(pathL wd k d near n).length=n:=by simp[pathL]
theorem pathL_at (wd:Int)(k d:Bs)(near:List Bs)(hh:h<n):(pathL wd k d near n).getD h []=climb wd k 0 d (near.take h):=by
 rw[qQi _ (by rw[pathL_len];exact hh)];simp[pathL]
theorem pathL_succ (wd:Int)(k d:Bs){near:List Bs}(hh:h<near.length):pathL wd k d near (h+2)=pathL wd k d near (h+1)++[up wd k h ((pathL wd k d near (h+1)).getD h []) (near.getD h [])]:=by
 rw[pathL_at wd k d near (by omega),← climb_succ wd k d hh];simp[pathL,List.range_succ]
def upI (w0 w1:World)(wd:Int)(k d:Bs)(nv:Value)(near:List Bs)(kb:Nat)(n:Nat)(vs:List Value)(w:World):Prop :=
 ∃ (h:Nat) (v:Value),vs=[.int .i64 wd,nv,pt kb 0,v,.int .i64 (h:Nat)]∧h≤256∧n=256 - h∧NwD w1 w 23 v (pathL wd k d near (h+1))∧No w1 w
def upK (w1:World)(wd:Int)(nv v:Value)(kb h:Nat)(X Y:Bs)(x0 x3 x5 x9 x10 x11 x12:Value)(w:World):Prop :=
 x0=.int .i64 wd∧x3=nv∧x5=pt kb 0∧x9=v∧x10=.int .i64 (h:Nat)∧∃ b c,x11=pt b 0∧x12=pt c 0∧w.heap[b]?=some (.cells (bl X) 23 (0,0))∧w.heap[c]?=some (.cells (bl Y) 23 (0,0))∧No w1 w
theorem upward13 (w0:World)(ht:Tabs w0)(wd:Int){k d:Bs}(hk:k.length=32)(hd:d.length=32){nv:Value}{near:List Bs}(hn:RdD w0 nv near)(hl:near.length=256) :
  Fn prog 142 #[.int .i64 wd,dg k,dg d,nv] w0 fun v w'=>NwD w0 w' 23 v (pathL wd k d near 257)∧No w0 w':=by
 refine go142 (by simp) ?_;obtain⟨nb,no,nc,rfl,_,hnb⟩:=hn.pos (by omega);obtain⟨W,hW,f1,k1,k2,s1⟩:=qZa w0 (bl k) 34 (bl d) 23;have rd0:=rd_d agg23 sz23 k2 hd;simp -implicitDefEqProofs only[go_sem,jF,vJ,Tryz.f142,jM,hW,rd0];refine qQl (v:=.slice (some ⟨W.heap.size,0,.none⟩) 1 1) (w':=W.alloc (.cells (bl d) 23)) (qXb (y:=List.map u8 (zG 32 0)) (by simp) (c:=bl (zG 32 0)) (by simp) (d:=d) hd _) ?_;have f2:No W (W.alloc (.cells (bl d) 23)):=(Fr.refl _ _).alloc _;have n2:NwD W (W.alloc (.cells (bl d) 23)) 23 (.slice (some ⟨W.heap.size,0,.none⟩) 1 1) (pathL wd k d near 1):=NwD.one hd (xP _);generalize W.alloc (.cells (bl d) 23)=w2 at *;simp -implicitDefEqProofs only[go_sem];refine loopD [0,3,5,9,10] (upI w0 W wd k d (.slice (some ⟨nb,no,.none⟩) near.length nc) near w0.heap.size) 256 ⟨0,_,rfl,by omega,rfl,n2,f2⟩ ?_;rintro _ vs w1 g ⟨h,v,rfl,hh,rfl,nv1,f3⟩;have f01:=f1.trans f3
 by_cases hlt:h<256
 ·have d1:=dTo ((h:Int)<256)
  have c1:=iSu (i:=h);have rk:=rd_d agg34 sz34 (f3.at k1 id) hk;have rkd:rdO prog 34 w1.drew w0.heap.size 0=_:=rk;have hpl:=pathL_len wd k d near (h+1);obtain⟨pb,po,pc,rfl,_,_⟩:=nv1.rd.pos (by omega);have rp:=nv1.rd.get (P:=prog) agg23 sz23 (i:=h) (by omega);have rpd:rdO prog 23 w1.drew pb (po+h*32)=_:=rp;have yp:(0:Int)≤(h:Int)∧(h:Int)<(((pathL wd k d near (h+1)).length:Nat):Int):=by omega
  have rn:=(hn.fr0 f01).get (P:=prog) agg23 sz23 (i:=h) (by omega);have rnd:rdO prog 23 w1.drew nb (no+h*32)=_:=rn;have yn:=iBd (i:=h) (n:=near.length);have hdl:((pathL wd k d near (h+1)).getD h []).length=32:=nv1.1.getD (by omega);have hnl:(near.getD h []).length=32:=hn.1.getD (by omega);have hps:=pathL_succ wd k d (near:=near) (h:=h) (by omega);have hsu:=sd_up wd k ((pathL wd k d near (h+1)).getD h []) (near.getD h []) h;rw[← hsu]at hps;generalize (pathL wd k d near (h+1)).getD h []=D at *;generalize near.getD h []=N at *;have l1:=sd1_len (k:=k) (h:=h) hdl hnl;have l2:=sd2_len (k:=k) (h:=h) hdl hnl;simp -implicitDefEqProofs only[go_sem,jF,d1];refine qJo (fun j=>j == 10 || (j == 14 || j == 15)) (.one 0 (.one 1 (.one 2 (.one 3 (.one 4 (.one 5 (.one 6 (.one 7 (.one 8 (.one 9 (.tri 10 (.one 11 (.one 12 (.one 13 (.two 14 (.row [15,16,17]) 15 (.row [14,16,17]))))) 14 (.two 10 (.row [11,12,13,15,16,17]) 15 (.row [10,11,12,13,16,17])) 15 (.two 10 (.row [11,12,13,14,16,17]) 14 (.row [10,11,12,13,16,17]))))))))))))) rfl (by kernel_rfl) (by kernel_rfl) ?_;refine qXm (K:=fun ev w=>upK w1 wd (.slice (some ⟨nb,no,.none⟩) near.length nc) (.slice (some ⟨pb,po,.none⟩) (pathL wd k d near (h+1)).length pc) w0.heap.size h (sd1 k D N h) (sd2 k D N h) (ev 0) (ev 3) (ev 5) (ev 9) (ev 10) (ev 11) (ev 12) w) ?rest _ ?main
  case main =>
    have gd:No w1 w1.drew:=(Fr.refl _ _).drew;simp only[OT.row];simp -implicitDefEqProofs only[go_sem,jF,jB,gLa,gLz,gLs,jM,qQj,rkd,yp,yn,and_self,if_true,iTn,rpd,rnd];refine⟨?_,?_,?_⟩
    ·refine qQn pl143 ((sidesR w1.drew hk hdl hnl hlt).mono ?_)
     rintro _ wa ⟨rfl,ga⟩;refine⟨fun _=>Fr.ext ga,?_⟩;have Ga:=gd.trans ga;simp -implicitDefEqProofs only[go_sem,jF,jB,gLa,gLz,gLs,jM,qQj];obtain⟨wc,hwc,gc,kb,kc,sc⟩:=qZa wa (bl (zG 32 0)) 23 (bl (zG 32 0)) 23;have Gc:=Ga.trans gc;have sGa:=Ga.size;refine⟨?_,?_⟩
     ·obtain⟨u1,u2,q1,q2,z1,z2,gz⟩:=st2d kb kc (by omega) l1 l2
      simp -implicitDefEqProofs only[go_sem,jF,jB,gLa,gLz,gLs,hwc,q1,q2];exact⟨rfl,rfl,rfl,rfl,rfl,_,_,rfl,rfl,z1,z2,Gc.trans' gz (by intro z hz h;omega)⟩
     ·obtain⟨u1,u2,q1,q2,z1,z2,gz⟩:=st2d kc kb (by omega) l1 l2
      simp -implicitDefEqProofs only[go_sem,jF,jB,gLa,gLz,gLs,hwc,q1,q2];exact⟨rfl,rfl,rfl,rfl,rfl,_,_,rfl,rfl,z1,z2,Gc.trans' gz (by intro z hz h;omega)⟩
    ·refine⟨fun _=>Ext.alloc w1.drew _,?_⟩
     refine⟨?_,?_⟩
     ·have ga:No w1 (w1.alloc (.cells (bl (zG 32 0)) 23)).drew:=((Fr.refl _ _).alloc _).drew
      have ka:(w1.alloc (.cells (bl (zG 32 0)) 23)).drew.heap[w1.heap.size]?=_:=qQc w1 (.cells (bl (zG 32 0)) 23);generalize (w1.alloc (.cells (bl (zG 32 0)) 23)).drew=wa at *;refine qQn pl143 ((sidesR wa hk hdl hnl hlt).mono ?_);rintro _ wb ⟨rfl,gb⟩;refine⟨fun _=>Fr.ext gb,?_⟩;simp -implicitDefEqProofs only[go_sem,jF,jB,gLa,gLz,gLs,jM,qQj];obtain⟨wc,hwc,gc,kc,sc⟩:=qQs wb (bl (zG 32 0)) 23;have Gc:=ga.trans (gb.trans gc);have ka2:=gc.at (gb.at ka id) id;have lne:=qQh (gb.at ka id);obtain⟨u1,u2,q1,q2,z1,z2,gz⟩:=st2d ka2 kc (by omega) l1 l2;simp -implicitDefEqProofs only[go_sem,jF,jB,gLa,gLz,gLs,hwc,q1,q2];exact⟨rfl,rfl,rfl,rfl,rfl,_,_,rfl,rfl,z1,z2,Gc.trans' gz (by intro z hz h;omega)⟩
     ·refine⟨fun _=>Ext.alloc (w1.alloc (.cells (bl (zG 32 0)) 23)).drew _,?_⟩
      obtain⟨wb,hwb,gb,ka,kb,sb⟩:=qZa w1 (bl (zG 32 0)) 23 (bl (zG 32 0)) 23;rw[hwb];refine qQn pl143 ((sidesR wb.drew hk hdl hnl hlt).mono ?_);rintro _ wc ⟨rfl,gc⟩;refine⟨fun _=>Fr.ext gc,?_⟩;have Gc:=gb.drew.trans gc;have ka2:=gc.at (show wb.drew.heap[w1.heap.size]?=_ from ka) id;have kb2:=gc.at (show wb.drew.heap[w1.heap.size+1]?=_ from kb) id;obtain⟨u1,u2,q1,q2,z1,z2,gz⟩:=st2d ka2 kb2 (by omega) l1 l2;simp -implicitDefEqProofs only[go_sem,jF,jB,gLa,gLz,gLs,q1,q2];exact⟨rfl,rfl,rfl,rfl,rfl,_,_,rfl,rfl,z1,z2,Gc.trans' gz (by intro z hz h;omega)⟩
    ·refine⟨fun _=>Ext.alloc w1.drew _,?_⟩
     refine⟨?_,?_⟩
     ·have ga:No w1 (w1.alloc (.cells (bl (zG 32 0)) 23)).drew:=((Fr.refl _ _).alloc _).drew
      have ka:(w1.alloc (.cells (bl (zG 32 0)) 23)).drew.heap[w1.heap.size]?=_:=qQc w1 (.cells (bl (zG 32 0)) 23);generalize (w1.alloc (.cells (bl (zG 32 0)) 23)).drew=wa at *;refine qQn pl143 ((sidesR wa hk hdl hnl hlt).mono ?_);rintro _ wb ⟨rfl,gb⟩;refine⟨fun _=>Fr.ext gb,?_⟩;simp -implicitDefEqProofs only[go_sem,jF,jB,gLa,gLz,gLs,jM,qQj];obtain⟨wc,hwc,gc,kc,sc⟩:=qQs wb (bl (zG 32 0)) 23;have Gc:=ga.trans (gb.trans gc);have ka2:=gc.at (gb.at ka id) id;have lne:=qQh (gb.at ka id);obtain⟨u1,u2,q1,q2,z1,z2,gz⟩:=st2d kc ka2 (by omega) l1 l2;simp -implicitDefEqProofs only[go_sem,jF,jB,gLa,gLz,gLs,hwc,q1,q2];exact⟨rfl,rfl,rfl,rfl,rfl,_,_,rfl,rfl,z1,z2,Gc.trans' gz (by intro z hz h;omega)⟩
     ·refine⟨fun _=>Ext.alloc (w1.alloc (.cells (bl (zG 32 0)) 23)).drew _,?_⟩
      obtain⟨wb,hwb,gb,ka,kb,sb⟩:=qZa w1 (bl (zG 32 0)) 23 (bl (zG 32 0)) 23;rw[hwb];refine qQn pl143 ((sidesR wb.drew hk hdl hnl hlt).mono ?_);rintro _ wc ⟨rfl,gc⟩;refine⟨fun _=>Fr.ext gc,?_⟩;have Gc:=gb.drew.trans gc;have ka2:=gc.at (show wb.drew.heap[w1.heap.size]?=_ from ka) id;have kb2:=gc.at (show wb.drew.heap[w1.heap.size+1]?=_ from kb) id;obtain⟨u1,u2,q1,q2,z1,z2,gz⟩:=st2d kb2 ka2 (by omega) l1 l2;simp -implicitDefEqProofs only[go_sem,jF,jB,gLa,gLz,gLs,q1,q2];exact⟨rfl,rfl,rfl,rfl,rfl,_,_,rfl,rfl,z1,z2,Gc.trans' gz (by intro z hz h;omega)⟩
  case rest =>
   rintro ev w2 ⟨e0,e3,e5,e9,e10,b,c,e11,e12,kb,kc,f12⟩;have f02:=f01.trans f12;have rb:=rd_d agg23 sz23 kb l1;have rc:=rd_d agg23 sz23 kc l2;simp -implicitDefEqProofs only[go_sem,jF,e0,e11,e12,rb,rc];refine qQa pl100 ((branch w2 (ht.no f02) wd l1 l2).mono ?_);rintro _ w3 ⟨rfl,f23⟩;have hbl:=qQz wd (sd1 k D N h) (sd2 k D N h);generalize qQv wd (sd1 k D N h) (sd2 k D N h)=U at *;obtain⟨w4,q4,k4,f34,s4⟩:=allocD w3 sz23 hbl;have r4:=rd_d agg23 sz23 k4 hbl;have f14:=(f12.trans f23).trans f34;simp -implicitDefEqProofs only[go_sem,jF,jM,qQj,q4,e9,r4];refine qQl (v:=.slice (some ⟨w4.heap.size,0,.none⟩) 1 1) (w':=w4.alloc (.cells (bl U) 23)) (qXb (y:=List.map u8 (zG 32 0)) (by simp) (c:=bl (zG 32 0)) (by simp) (d:=U) hbl _) ?_;obtain⟨v5,w5,hr5,n5,f5,_,_⟩:=(nv1.fr0 f14).push app94_94 hbl (by rw[pathL_len];omega) (f3.trans f14);rw[← hps]at n5;simp -implicitDefEqProofs only[go_sem,jF];refine qQg ⟨v5,w5,hr5,?_⟩;simp -implicitDefEqProofs only[go_sem,jF,e10,c1];exact⟨256 - (h+1),by omega,h+1,v5,by show [ev 0,ev 3,ev 5,_,_]=_;rw[e0,e3,e5],by omega,rfl,n5,f5⟩
 ·have d1:=dFo ((h:Int)<256)
  obtain rfl:h=256:=by omega
  simp -implicitDefEqProofs only[go_sem,jF,d1];exact⟨nv1.back f1.size,f01⟩
def tx13 (wd:Int)(k:Bs)(a:Option Bs)(near path:List Bs):Nat→Bs
 | 0=>C.lowT k a
 | h+1=>qJp wd (sd1 k (path.getD h []) (near.getD h []) h) (sd2 k (path.getD h []) (near.getD h []) h)
end R
namespace R
def H13 (w0:World)(wd:Int)(root k raw:Bs)(r:Value)(w':World):Prop:=No w0 w'∧match C.heldP wd root k raw with
 | .error e=>r=.tuple #[.agg (spC false (.slice .none 0 0) (.slice .none 0 0)),.slice .none 0 0,.int .i64 e]
 | .ok (a,bits,sums)=>∃ vv nv pv,r=.tuple #[.agg (spC a.isSome vv nv),pv,.int .i64 0]∧one vv=true∧one nv=true∧By w' vv (a.getD [])∧RdD w' nv (rX wd bits sums)∧RdD w' pv (pathL wd k (Wit.ldig wd k a) (rX wd bits sums) 257)∧∀ b,qQb vv=some b→w0.heap.size≤b
theorem holds13 (w0:World)(ht:Tabs w0){W:Nat}(hW:wd=W)(hW1:1≤W)(hW2:W≤32){root k raw:Bs}(hroot:root.length=32)(hk:k.length=32){esv rv:Value}(he:RdD w0 esv (empts wd 257))(hr:By w0 rv raw)(hl:raw.length≤2 ^ 47) :
  Fn prog 87 #[.int .i64 wd,esv,dg root,dg k,rv] w0 (H13 w0 wd root k raw):=by
 refine go87 (by simp) ?_;have bl0:bldO prog 157 []=some (.agg (spC false (.slice .none 0 0) (.slice .none 0 0))):=by kernel_rfl
 obtain⟨eb,eo,ec,rfl,_,heb⟩:=he.pos (by rw[qQm];omega);obtain⟨ra,rc,rfl,_⟩:=hr.slice;obtain⟨w1,hw1,f1,k1,k2,k3,s1⟩:=qZw w0 (bl root) 23 (bl k) 34 (spC false (.slice .none 0 0) (.slice .none 0 0)) 157
 have fin:∀ (w:World) (f:Bool) (vv nv:Value), No w1 w→one vv=true→one nv=true →
   wrO prog 157 w (w0.heap.size+1+1) 0 (.agg (spC f vv nv))=some (put w (w0.heap.size+1+1) (.cells (spC f vv nv) 157 (0,0)))∧rdO prog 157 (put w (w0.heap.size+1+1) (.cells (spC f vv nv) 157 (0,0))) (w0.heap.size+1+1) 0=some (.agg (spC f vv nv)) ∧
    No w0 (put w (w0.heap.size+1+1) (.cells (spC f vv nv) 157 (0,0)))∧Fr (fun b=>b=w0.heap.size+1+1) w (put w (w0.heap.size+1+1) (.cells (spC f vv nv) 157 (0,0))):=fun w f vv nv fw ov on =>
  have h:=fw.at k3 id
  ⟨qQw sz157 h rfl (by simp[ov,on];rfl),qXz agg157 sz157 (qQf (o:=.cells (spC f vv nv) 157 (0,0)) h),(f1.trans fw).put (b:=w0.heap.size+1+1) _ fun h=>by omega,(Fr.refl _ _).put (b:=w0.heap.size+1+1) _ fun _=>rfl⟩
 simp -implicitDefEqProofs only[go_sem,jF,vJ,Tryz.f87,jM,hw1];refine qQa pl140 ((form13 w1 hW hW2 (he.fr0 f1) (hr.fr0 f1) hl).mono ?_);rintro r w2 ⟨f2,hm⟩;have f02:=f1.trans f2;unfold H13 C.heldP;rw[if_neg (by omega)]
 have bad:∀ e:Int, (e != 0)=true→r=.tuple #[.agg (spC false (.slice .none 0 0) (.slice .none 0 0)), .int .i64 e]→∃ w3 w4, wrO prog 157 (w2.alloc (.cells (spC false (.slice .none 0 0) (.slice .none 0 0)) 157)) w2.heap.size 0 (.agg (spC false (.slice .none 0 0) (.slice .none 0 0)))=some w3 ∧
   wrO prog 157 w3 (w0.heap.size+1+1) 0 (.agg (spC false (.slice .none 0 0) (.slice .none 0 0)))=some w4∧rdO prog 157 w4 (w0.heap.size+1+1) 0=some (.agg (spC false (.slice .none 0 0) (.slice .none 0 0)))∧No w0 w4:=fun e _ _=>by
  obtain⟨w3,q3,k3,f3,s3⟩:=allocSp w2 (f:=false) (vv:=.slice .none 0 0) (nv:=.slice .none 0 0) rfl rfl;obtain⟨q4,r4,f4,_⟩:=fin w3 false (.slice .none 0 0) (.slice .none 0 0) (f2.trans f3) rfl rfl;exact⟨w3,_,q3,q4,r4,f4⟩
 cases hd:Wit.decP raw with
 | none =>
  rw[hd]at hm;obtain⟨w3,w4,q3,q4,r4,f4⟩:=bad 120 rfl hm;subst hm;have n0:((120:Int) != 0)=true:=rfl;simp -implicitDefEqProofs only[go_sem,jF,gLa,gLz,gLs,jM,q3,n0,bl0,q4,r4];exact⟨f4,trivial⟩
 | some y =>
  obtain⟨a,bits,sums⟩:=y;rw[hd]at hm;obtain⟨hbl,hsl,h32,hal⟩:=Wit.decP_ok hd;dsimp only at hm ⊢
  by_cases hc:Wit.chk wd (Wit.gsOf bits sums)=0
  ·rw[if_neg (fun h=>h hc)]at hm
   rw[if_neg (fun h=>h hc)];obtain⟨vv,nv,rfl,ov,on,hv,hn,hvb,hnb⟩:=hm;obtain⟨w3,q3,k3',f3,s3⟩:=allocSp w2 (f:=a.isSome) ov on;have f13:=f2.trans f3;have f03:=f1.trans f13;have rF:rdO prog 4 w3 w2.heap.size 0=some (.bool a.isSome):=rd1 agg4 k3' rfl;have rV:rdO prog 25 w3 w2.heap.size 1=some vv:=rd1 agg25 k3' rfl;have rk:=rd_d agg34 sz34 (f13.at k2 id) hk;simp -implicitDefEqProofs only[go_sem,jF,gLa,gLz,gLs,bNe,jM,q3,rF,rV,rk];refine qQa pl141 ((start13 w3 (ht.no f03) wd hk (hv.fr0 f3) hal).mono ?_);rintro _ w4 ⟨rfl,f4⟩;have hdl:=Wit.ldig_len wd k a;obtain⟨w5,q5,k5,f5,s5⟩:=allocD w4 sz23 hdl;have f35:=f4.trans f5;have f15:=f13.trans f35;have f05:=f1.trans f15;have rk5:=rd_d agg34 sz34 (f15.at k2 id) hk;have rD:=rd_d agg23 sz23 k5 hdl;have rN:rdO prog 94 w5 w2.heap.size 2=some nv:=rd1 agg94 (f35.at k3' id) rfl;have hnl:(rX wd bits sums).length=256:=qXq _ _ _;simp -implicitDefEqProofs only[go_sem,jF,jM,qQj,q5,rk5,rD,rN];refine qQa pl142 ((upward13 w5 (ht.no f05) wd hk hdl (hn.fr0 (f3.trans f35)) hnl).mono ?_);rintro pv w6 ⟨np,f6⟩;have f16:=f15.trans f6;have f06:=f1.trans f16;have hpl:=pathL_len wd k (Wit.ldig wd k a) (rX wd bits sums) 257;obtain⟨pb,po,pc,rfl,_,_⟩:=np.rd.pos (by omega);have rp:=np.rd.get (P:=prog) agg23 sz23 (i:=256) (by omega);rw[pathL_at wd k _ _ (by omega),zF (by omega)]at rp;have rp:rdO prog 23 w6 pb (po+256*32)=some (dg (C.clD wd k a bits sums)):=rp;have rpd:rdO prog 23 w6.drew pb (po+256*32)=_:=rp;have rr:=rd_d agg23 sz23 (f16.at k1 id) hroot;have rrd:rdO prog 23 w6.drew w0.heap.size 0=_:=rr;have yp:(0:Int)≤256∧(256:Int)<(((pathL wd k (Wit.ldig wd k a) (rX wd bits sums) 257).length:Nat):Int):=by omega
   have t256:(256:Int).toNat=256:=rfl;have eq:=eqDig (C.clD_len wd k a bits sums) hroot;have rsp:rdO prog 157 w6 w2.heap.size 0=some (.agg (spC a.isSome vv nv)):=qXz (P:=prog) (vs:=spC a.isSome vv nv) agg157 sz157 ((f35.trans f6).at k3' id);have rspd:rdO prog 157 w6.drew w2.heap.size 0=_:=rsp
   by_cases hcd:C.clD wd k a bits sums=root
   ·have hb:(C.clD wd k a bits sums == root)=true:=by rw[beq_iff_eq];exact hcd
    obtain⟨q7,r7,f7,g7⟩:=fin w6.drew a.isSome vv nv f16.drew ov on;have g67:Fr (fun b=>b=w0.heap.size+1+1) w6 (put w6.drew (w0.heap.size+1+1) (.cells (spC a.isSome vv nv) 157 (0,0))):=((Fr.refl _ w6).drew).trans g7;simp -implicitDefEqProofs only[go_sem,jF,yp,t256,and_self,if_true,rpd,rrd,eq,hb,Bool.not_true,rspd,q7,r7];rw[if_pos hcd];refine⟨f7,vv,nv,_,rfl,ov,on,?_,?_,?_,fun b hb=>by have:=hvb b hb;omega⟩
    ·exact (hv.fr0 (f3.trans (f35.trans f6))).fr g67 fun b hb _ h=>by have:=hvb b hb;omega
    ·exact (hn.fr0 (f3.trans (f35.trans f6))).fr g67 fun b hb _ h=>by have:=hnb b hb;omega
    ·exact np.rd.fr g67 fun b hb _ h=>by have:=(np.lt hb).1;have:=f15.size;omega
   ·have hb:(C.clD wd k a bits sums == root)=false:=by rw[bFn];exact hcd
    obtain⟨q7,r7,f7,_⟩:=fin w6.drew false (.slice .none 0 0) (.slice .none 0 0) f16.drew rfl rfl;simp -implicitDefEqProofs only[go_sem,jF,yp,t256,and_self,if_true,rpd,rrd,eq,hb,Bool.not_false,bl0,q7,r7];rw[if_neg hcd];exact⟨f7,rfl⟩
  ·rw[if_pos hc]at hm
   rw[if_pos hc];obtain⟨w3,w4,q3,q4,r4,f4⟩:=bad _ (by rw[bne_iff_ne];exact hc) hm;subst hm;have n0:(Wit.chk wd (Wit.gsOf bits sums) != 0)=true:=by rw[bne_iff_ne];exact hc
   simp -implicitDefEqProofs only[go_sem,jF,gLa,gLz,gLs,jM,q3,n0,bl0,q4,r4];exact⟨f4,trivial⟩
end R
def chRow (c:Bat.Ch)(v:Value):List Value:=c.key.map u8++[.bool c.del,v]
def psI (w0:World)(s0:Bs)(n:Nat)(m:Nat)(vs:List Value)(w:World):Prop :=
 ∃ (i:Nat) (rv cv:Value) (l:List Bat.Ch) (r:Bs) (rows:Rows),vs=[.int .i64 (n:Nat),rv,cv,.int .i64 (n:Nat),.int .i64 (i:Nat)]∧i≤n∧m=n - i∧Bat.takesP i s0=.ok (l,r)∧By w rv r∧(∀ b,qQb rv=some b→b<w0.heap.size)∧r.length≤2 ^ 50 ∧
  NwR w0 w 181 34 cv rows∧rows.length=l.length∧(∀ i (h:i<rows.length) (h':i<l.length),∃ vv,rows[i]=chRow l[i] vv∧one vv=true∧By w vv l[i].val∧(∀ b,qQb vv=some b→b<w.heap.size∧qQb cv≠some b)∧(l[i].del=true→vv=.slice .none 0 0)∧l[i].key.length=32)∧No w0 w
theorem By.blkB {b o n cap:Nat}(h:By w (.slice (some ⟨b,o,Option.none⟩) n cap) bs)(h0:0<bs.length):b<w.heap.size:=by
 have h1:=h.len;have:=h.get (P:=prog) agg5 (i:=0) h0;obtain⟨hl,a,cap,e,hc,hat⟩:=h;obtain⟨b',o',rfl,hat2⟩:=hat (by omega);cases e;have h2:=hat2 0 (by omega);rw[List.getElem?_eq_getElem (by rw[List.length_map];omega)]at h2;exact rc_lt h2
namespace R
def twI (w0:World)(sv:Value)(ks:List Bs)(n:Nat)(vs:List Value)(w:World):Prop :=
 ∃ (i:Nat),vs=[sv,.int .i64 (i:Nat)]∧i≤ks.length∧n=ks.length - i∧(∀ p,p<i→∀ q,q<p→ks[p]! ≠ ks[q]!)∧No w0 w
end R
namespace R
end R
namespace R
def psI (w0:World)(sv:Value)(s s0:Bs)(n:Nat)(m:Nat)(vs:List Value)(w:World):Prop :=
 ∃ (i at':Nat) (cv:Value) (l:List Bat.Ch) (rows:Rows),vs=[sv,.int .i64 (n:Nat),cv,.int .i64 (at':Nat),.int .i64 (i:Nat)]∧i≤n∧m=n - i∧at'≤s.length∧Bat.takesP i s0=.ok (l,s.drop at') ∧
  NwR w0 w 181 34 cv rows∧rows.length=l.length∧(∀ i (h:i<rows.length) (h':i<l.length),∃ vv,rows[i]=V.chRow l[i] vv∧one vv=true∧By w vv l[i].val∧(∀ b,qQb vv=some b→b<w.heap.size∧qQb cv≠some b)∧(l[i].del=true→vv=.slice .none 0 0)∧l[i].key.length=32)∧No w0 w
end R
theorem By.blk0 (h:By w v bs)(h0:bs≠[])(hb:qQb v=some b):b<w.heap.size:=by
 have hp:=List.length_pos_iff.2 h0;obtain⟨b',o,cap,rfl,_⟩:=h.pos hp;have:=h.blkB hp;simp only[qQb,oSi]at hb;omega
def ChX (w0 w:World)(v:Value)(cs:List Bat.Ch):Prop:=∃ rows,NwR w0 w 181 34 v rows∧rows.length=cs.length∧∀ i (h:i<rows.length) (h':i<cs.length),∃ vv,rows[i]=V.chRow cs[i] vv∧one vv=true∧By w vv cs[i].val∧(cs[i].val≠[]→∀ b,qQb vv=some b→qQb v≠some b)∧(cs[i].del=true→vv=.slice Option.none 0 0)∧cs[i].key.length=32
namespace R
end R
namespace R
def soI (w0:World)(sv:Value)(cs:List Bat.Ch)(n:Nat)(vs:List Value)(w:World):Prop :=
 ∃ (i:Nat) (mv:Value),vs=[sv,mv,.int .i64 (i:Nat)]∧i≤cs.length∧n=cs.length - i∧ChX w0 w mv (cs.take i)∧(i=0→mv=.slice .none 0 0)∧No w0 w
def wrI (w0:World)(sv nv:Value)(cs:List Bat.Ch)(n:Nat)(vs:List Value)(w:World):Prop :=
 ∃ (i:Nat),vs=[sv,.int .i64 (i:Nat)]∧i≤cs.length∧n=cs.length - i∧No w0 w
end R
theorem By.ne_cells (h:By w v bs){c:Array Value}{e:TypeId}{fz:Nat × Nat}(hb:w.heap[b]?=some (.cells c e fz))(hc:∀ (i:Nat) (x:Byte),c[i]?≠some (u8 x))(hn:bs≠[]){b':Nat}(h':qQb v=some b'):b'≠b:=by
 rintro rfl;have hp:=List.length_pos_iff.2 hn;obtain⟨a,cap,rfl,_,hat⟩:=h.at;obtain⟨b1,o1,rfl,hr⟩:=hat 0 hp;simp only[qQb,oSi]at h';subst h';rw[qXd hb]at hr;exact hc _ _ hr
def SvQ (w0:World)(x:Except Int rR)(r:Value)(w':World):Prop:=No w0 w'∧match x with
 | .error e=>r=.tuple #[.agg #[.bool false,.slice .none 0 0],.int .i64 e]
 | .ok s=>∃ vv,r=.tuple #[.agg #[.bool s.1.isSome,vv],.int .i64 0]∧one vv=true∧By w' vv (s.1.getD [])∧∀ b,qQb vv=some b→w0.heap.size≤b
theorem ansW (k:w.heap[b]?=some (.cells #[.bool false, .slice Option.none 0 0] 69 (0, 0)))(o:one v=true) :
  wrO prog 69 w b 0 (.agg #[.bool p,v])=some (put w b (.cells #[.bool p,v] 69 (0,0)))∧rdO prog 69 (put w b (.cells #[.bool p,v] 69 (0,0))) b 0=some (.agg #[.bool p,v]) :=
 ⟨qQw (vs:=#[.bool p,v]) sz69 k rfl (by rw[← Array.all_toList];simp only[List.all_cons,List.all_nil,o];rfl),qXz agg69 sz69 (qQf (o:=.cells #[.bool p,v] 69 (0,0)) k)⟩
namespace C
theorem verify (w0:World)(ht:Tabs w0)(wd:Int){root k:Bs}(hroot:root.length=32)(hk:k.length=32){raw:Bs}(hr:By w0 rv raw)(hl:raw.length≤2 ^ 50) :
  Fn prog 65 #[.int .i64 wd,dg root,dg k,rv] w0 (SvQ w0 (Wit.sgP wd root k raw)):=by
 refine go65 (by simp) ?_;obtain⟨W,hW,f1,k1,k2,k3,s1⟩:=qZw w0 (bl root) 23 (bl k) 34 #[.bool false,.slice .none 0 0] 69;have r1:=rd_d agg23 sz23 k1 hroot;have r2:=rd_d agg34 sz34 k2 hk;simp -implicitDefEqProofs only[go_sem,jF,vJ,Tryz.f65,jM,hW,r1,r2];refine qQa pl93 ((held W (ht.no f1) wd hroot hk (hr.fr0 f1) hl (.inl ⟨rfl,rfl⟩)).mono ?_);rintro r w2 ⟨f2,h2⟩;have f02:=f1.trans f2;unfold SvQ Wit.sgP
 cases hh:heldP wd root k raw with
 | error e =>
  rw[hh]at h2;obtain⟨p,rfl⟩:=h2;have he:(e != 0)=true:=by rw[bne_iff_ne];exact heldP_err hh
  obtain⟨q3,l3⟩:=ansW (f2.at k3 id) (p:=false) (v:=.slice .none 0 0) rfl;simp -implicitDefEqProofs only[go_sem,jF,gLa,gLz,gLs,he,bldAns0,q3,l3];exact⟨f02.put (b:=w0.heap.size+1+1) _ fun h=>by omega,trivial⟩
 | ok y =>
  obtain⟨a,bits,sums⟩:=y;rw[hh]at h2;obtain⟨cb,vv,sv,bv',e',rfl,_,hP,_,_⟩:=h2;have fd:No w2 w2.drew:=(Fr.refl _ _).drew;have hP':=hP.fr0 fd;have r3:=hP'.ck.rdFound;have r4:=hP'.ck.val;simp -implicitDefEqProofs only[go_sem,jF,gLa,gLz,gLs,bNe];refine qXh (fun j=>j == 10) [0,1,2,3,4,5,6,7,8,9,10,11,12,13] rfl (by kernel_rfl) (by kernel_rfl) ?_;simp -implicitDefEqProofs only[go_sem,jF,jB,vJ,gLa,gLz,gLs,r3,r4]
  refine qQt pl115 ((bclone w2.drew hP'.vl (by
   cases a with
   | none=>simp
   | some v=>have:=hP.le v rfl;simp only[Option.getD_some];omega)).mono ?_)
  rintro v5 w5 ⟨n5,f5⟩;refine⟨fun _=>Fr.ext f5,?_⟩;have f25:=fd.trans f5;have o5:=n5.by.one
  have bl5:=bldAns (x:=.bool a.isSome) (y:=v5) rfl o5;obtain⟨q6,l6⟩:=ansW ((f2.trans f25).at k3 id) (p:=a.isSome) (v:=v5) o5;simp -implicitDefEqProofs only[go_sem,jF,jB,gLa,gLz,gLs,bl5,q6,l6];refine⟨(f02.trans f25).put (b:=w0.heap.size+1+1) _ fun h=>by omega,v5,rfl,o5,?_,fun b hb=>by have:=(n5.lt hb).1;have:=(f02.trans fd).size;omega⟩;exact n5.by.fr ((Fr.refl (fun b=>b=w0.heap.size+1+1) w5).put (b:=w0.heap.size+1+1) _ fun _=>rfl) fun b hb _ e=>by have:=(n5.lt hb).1;have:=(f2.trans fd).size;omega
end C
namespace R
theorem verify13 (w0:World)(ht:Tabs w0)(wd:Int){root k:Bs}(hroot:root.length=32)(hk:k.length=32){raw:Bs}(hr:By w0 rv raw)(hl:raw.length≤2 ^ 47) :
  Fn prog 81 #[.int .i64 wd,dg root,dg k,rv] w0 (SvQ w0 (Wit.sgP wd root k raw)):=by
 refine go81 (by simp) ?_;obtain⟨W,hW,f1,k1,k2,k3,s1⟩:=qZw w0 (bl root) 23 (bl k) 34 #[.bool false,.slice .none 0 0] 69;simp -implicitDefEqProofs only[go_sem,jF,vJ,Tryz.f81,jM,hW];refine qQa pl86 ((wide13 W wd).mono ?_);rintro _ w2 ⟨rfl,rfl⟩;unfold SvQ Wit.sgP
 by_cases hw:wd<1∨32<wd
 ·have d1:(!decide (1≤wd∧wd≤32))=true:=by rw[decide_eq_false (by omega)];rfl
  have hh:C.heldP wd root k raw=.error 1:=by unfold C.heldP;rw[if_pos hw]
  rw[hh];obtain⟨q3,l3⟩:=ansW k3 (p:=false) (v:=.slice .none 0 0) rfl;simp -implicitDefEqProofs only[go_sem,jF,d1,bldAns0,q3,l3];exact⟨f1.put (b:=w0.heap.size+1+1) _ fun h=>by omega,trivial⟩
 have d1:(!decide (1≤wd∧wd≤32))=false:=by rw[decide_eq_true (by omega)];rfl
 obtain⟨Wn,hWn⟩:∃ n:Nat,wd=n:=⟨wd.toNat,by omega⟩
 simp -implicitDefEqProofs only[go_sem,jF,d1];refine qQa pl57 ((empties w2 (ht.no f1) wd).mono ?_);rintro ev w3 ⟨ne,f3⟩;have f03:=f1.trans f3;have r1:=rd_d agg23 sz23 (f3.at k1 id) hroot;have r2:=rd_d agg34 sz34 (f3.at k2 id) hk;simp -implicitDefEqProofs only[go_sem,jF,r1,r2];refine qQa pl87 ((holds13 w3 (ht.no f03) hWn (by omega) (by omega) hroot hk ne.rd (hr.fr0 f03) hl).mono ?_);rintro r w4 ⟨f4,h4⟩;have f04:=f03.trans f4;have f34:=f3.trans f4
 cases hh:C.heldP wd root k raw with
 | error e =>
  rw[hh]at h4;obtain rfl:r=_:=h4;have he:(e != 0)=true:=by rw[bne_iff_ne];exact C.heldP_err hh
  obtain⟨W5,q5,k5,f5,s5⟩:=allocSp w4 (f:=false) (vv:=.slice .none 0 0) (nv:=.slice .none 0 0) rfl rfl;obtain⟨q6,l6⟩:=ansW ((f34.trans f5).at k3 id) (p:=false) (v:=.slice .none 0 0) rfl;simp -implicitDefEqProofs only[go_sem,jF,gLa,gLz,gLs,jM,q5,he,bldAns0,q6,l6];exact⟨(f04.trans f5).put (b:=w0.heap.size+1+1) _ fun h=>by omega,trivial⟩
 | ok y =>
  obtain⟨a,bits,sums⟩:=y;rw[hh]at h4;obtain⟨vv,nv,pv,rfl,ov,on,hv,_,_,hvb⟩:=h4;obtain⟨W5,q5,k5,f5,s5⟩:=allocSp w4 (f:=a.isSome) (vv:=vv) (nv:=nv) ov on;have f35:=f34.trans f5;have r5:=qQo (P:=prog) k5;have bl5:=bldAns (x:=.bool a.isSome) (y:=vv) rfl ov;obtain⟨q6,l6⟩:=ansW (f35.at k3 id) (p:=a.isSome) (v:=vv) ov;simp -implicitDefEqProofs only[go_sem,jF,gLa,gLz,gLs,jM,q5,bNe,r5,qQk,bl5,q6,l6];refine⟨(f04.trans f5).put (b:=w0.heap.size+1+1) _ fun h=>by omega,vv,rfl,ov,?_,fun b hb=>by have:=hvb b hb;have:=f03.size;omega⟩
  exact (hv.fr0 f5).frn ((Fr.refl (fun b=>b=w0.heap.size+1+1) W5).put (b:=w0.heap.size+1+1) _ fun _=>rfl) fun hn b hb=>(hv.fr0 f5).ne_cells (f35.at k3 id) (fun i x=>by
   match i with
   | 0=>simp[u8]
   | 1=>simp[u8]
   | i+2=>simp) hn hb
end R
def SvE (w:World)(x:Except Int rR)(p:Bool)(v:Value)(e:Int):Prop:=one v=true∧match x with
 | .error e'=>e=e'
 | .ok s=>e=0∧p=s.1.isSome∧By w v (s.1.getD [])
theorem SvQ.e {w0 w':World}{x:Except Int rR}{r:Value}(h:SvQ w0 x r w'):No w0 w'∧∃ p v e,r=.tuple #[.agg #[.bool p,v],.int .i64 e]∧SvE w' x p v e∧∀ b,qQb v=some b→w0.heap.size≤b:=by
 obtain⟨f,h⟩:=h;refine⟨f,?_⟩
 cases x with
 | error e=>exact⟨_,_,_,h,⟨rfl,rfl⟩,fun b hb=>by cases hb⟩
 | ok s=>obtain⟨vv,h1,h2,h3,h4⟩:=h;exact⟨_,_,_,h1,⟨h2,rfl,rfl,h3⟩,h4⟩
theorem SvE.fr0 {x:Except Int rR}{e:Int}(h:SvE w x p v e)(f:No w w'):SvE w' x p v e:=by
 obtain⟨h1,h2⟩:=h;refine⟨h1,?_⟩
 cases x with
 | error e=>exact h2
 | ok s=>exact⟨h2.1,h2.2.1,h2.2.2.fr0 f⟩
theorem SvE.frA {x:Except Int rR}{e:Int}{F:Nat→Prop}(h:SvE w x p v e)(f:Fr F w w')(hF:∀ {b},F b→∃ c ty fz,w.heap[b]?=some (.cells c ty fz)∧∀ (i:Nat) (x:Byte),c[i]?≠some (u8 x)):SvE w' x p v e:=by
 obtain⟨h1,h2⟩:=h;refine⟨h1,?_⟩
 cases x with
 | error e=>exact h2
 | ok s=>exact⟨h2.1,h2.2.1,h2.2.2.frn f fun hn b hb h=>by obtain⟨c,ty,fz,k,hc⟩:=hF h;exact h2.2.2.ne_cells k hc hn hb rfl⟩
theorem near_snoc {bits:Bs}{sums:List Bs}(hh:h<256):(rX wd bits sums).take (h+1)=(rX wd bits sums).take h++[Wit.nearH wd bits sums h]:=by
 rw[tSg (by rw[qXq];exact hh)];simp[rX]
def Sg1 (w:World)(v:Value)(s:rR):Prop:=∃ tb kv nv vv,v=pt tb 0∧w.heap[tb]?=some (.cells (twC kv 0 256 nv (.bool s.1.isSome) vv (.pointer none) (.pointer none)) 96 (0,0))∧NwD wE w 23 nv s.2∧By w vv (s.1.getD [])∧one vv=true
def SgM (w:World):List (Bs × Value)→List (Bs × rR)→Prop
 | [],[]=>True
 | p::ps,q::qs=>p.1=q.1∧Sg1 w p.2 q.2∧SgM w ps qs
 | _,_=>False
theorem Sg1.fr {s:rR}{es:Array MapEntry}{c:Nat}(h:Sg1 w v s)(hm:w.heap[mb]?=some (.map es c))(k:Fr (fun b=>b=mb) w w'):Sg1 w' v s:=by
 obtain⟨tb,kv,nv,vv,h1,h2,h3,h4,h5⟩:=h;refine⟨tb,kv,nv,vv,h1,k.at h2 (fun e=>by subst e;rw[hm]at h2;cases h2),h3.fr k fun b hb e=>?_,h4.frn k fun hn b hb e=>?_,h5⟩
 ·subst e
  rcases h3.2.own with ⟨rfl,_⟩ | ⟨b',o,cap,c',rfl,hc,_⟩
  ·cases hb
  ·simp only[qQb,oSi]at hb;subst hb;rw[hm]at hc;cases hc
 ·subst e
  obtain⟨a,cap,rfl,_,hat⟩:=h4.at;obtain⟨b',o,rfl,hr⟩:=hat 0 (List.length_pos_iff.2 hn);simp only[qQb,oSi]at hb;subst hb;obtain⟨_,_,_,hc,_⟩:=rc_row hr;rw[hm]at hc;cases hc
theorem Sg1.fr0 {s:rR}(h:Sg1 w v s)(k:No w w'):Sg1 w' v s:=by
 obtain⟨tb,kv,nv,vv,h1,h2,h3,h4,h5⟩:=h;exact⟨tb,kv,nv,vv,h1,k.at h2 id,h3.fr0 k,h4.fr0 k,h5⟩
theorem SgM.fr0 {w w':World}(k:No w w'):∀ {ps:List (Bs × Value)} {qs:List (Bs × rR)},SgM w ps qs→SgM w' ps qs
 | [],[],_=>trivial
 | _::_,_::_,⟨h1,h2,h3⟩=>⟨h1,h2.fr0 k,SgM.fr0 k h3⟩
 | [],_::_,h=>h
 | _::_,[],h=>h
theorem SgM.fr {w w':World}{mb:Nat}{es:Array MapEntry}{c:Nat}(hm:w.heap[mb]?=some (.map es c))(k:Fr (fun b=>b=mb) w w'):∀ {ps:List (Bs × Value)} {qs:List (Bs × rR)},SgM w ps qs→SgM w' ps qs
 | [],[],_=>trivial
 | _::_,_::_,⟨h1,h2,h3⟩=>⟨h1,h2.fr hm k,SgM.fr hm k h3⟩
 | [],_::_,h=>h
 | _::_,[],h=>h
theorem SgM.snoc {w:World}{k:Bs}{v:Value}{s:rR}(h:Sg1 w v s):∀ {ps:List (Bs × Value)} {qs:List (Bs × rR)},SgM w ps qs→SgM w (ps++[(k,v)]) (qs++[(k,s)])
 | [],[],_=>⟨rfl,h,trivial⟩
 | _::_,_::_,⟨h1,h2,h3⟩=>⟨h1,h2,SgM.snoc h h3⟩
 | [],_::_,h=>h.elim
 | _::_,[],h=>h.elim
theorem SgM.keys {w:World}:∀ {ps:List (Bs × Value)} {qs:List (Bs × rR)},SgM w ps qs→ps.map (·.1)=qs.map (·.1)
 | [],[],_=>rfl
 | _::_,_::_,⟨h1,_,h3⟩=>by rw[qP,qP,h1,SgM.keys h3]
 | [],_::_,h=>h.elim
 | _::_,[],h=>h.elim
theorem SgM.find {w:World}{k:Bs}:∀ {ps:List (Bs × Value)} {qs:List (Bs × rR)},SgM w ps qs→k ∈ qs.map (·.1)→∃ v,findA ps k=some v∧Sg1 w v (rP qs k)
 | [],[],_,h=>by cases h
 | p::ps,q::qs,⟨h1,h2,h3⟩,h=>by
  unfold findA rP
  by_cases e:q.1=k
  ·rw[if_pos (h1.trans e),if_pos e];exact⟨_,rfl,h2⟩
  ·rw[if_neg (fun e'=>e (h1 ▸ e')),if_neg e]
   exact SgM.find h3 (by
    simp only[qP,List.mem_cons]at h
    rcases h with h | h
    ·exact absurd h.symm e
    ·exact h)
 | [],_::_,h,_=>h.elim
 | _::_,[],h,_=>h.elim
theorem grown (u wS:World){lp:List (Bs × Value)}{ls:List (Bs × rR)}(hS:SgM wS lp ls):∀ (n:Nat) (w0:World) {ks:List Bs} {top:Nat} {kv:Value}, ks.length≤n→No u w0→No wS w0→MpA w0 mb lp→RdD u kv ks→Wit.Asc ks→0<ks.length→ks.length≤2 ^ 40→Wit.Shr (256 - top) ks→top≤256 →
  (∀ k ∈ ks,k ∈ ls.map (·.1)∧(rP ls k).2.length=256) →
  Fn prog 67 #[.map (some mb),kv,.int .i64 (top:Nat)] w0 fun v w'=>No w0 w'∧∃ tb,v=pt tb 0∧TwV u w' (fun b=>b<wS.heap.size∨w0.heap.size≤b) tb (Wit.grow (rP ls) n ks top):=by
 intro n
 induction n with
 | zero=>intro w0 ks top kv hn _ _ _ _ _ h0;omega
 | succ n ih =>
  intro w0 ks top kv hn hu huS hM hk ha h0 hkl hs ht hm;refine go67 (by simp) ?_;have hh:=Wit.headD_mem h0;obtain⟨hin,h256⟩:=hm _ hh;obtain⟨pv,hfa,tb0,kv0,nv0,vv0,rfl,t0',hn0',hv0',ho0⟩:=hS.find hin;have t0:=huS.at t0' id;have hn0:=hn0'.fr0 huS;have hv0:=hv0'.fr0 huS;have zS:=huS.size;have hklen:=hk.1 _ hh;have lk:=hM.look hklen map118 zero91;rw[hfa]at lk;simp only[Option.getD_some,Option.isSome_some]at lk;obtain⟨kb,ko,kc,rfl,hkc,_⟩:=(hk.fr0 hu).pos h0
  have rk:rdO prog 34 w0 kb ko=some (dg (ks.headD [])):=by
   have:=(hk.fr0 hu).get (P:=prog) agg34 sz34 (i:=0) h0;rw[Nat.zero_mul,Nat.add_zero,← qKg]at this;exact this
  have yk:(0:Int)<((ks.length:Nat):Int):=by omega
  have bl:=bldTw (kv:=.slice (some ⟨kb,ko,.none⟩) ks.length kc) top rfl;obtain⟨W,hW,f1,k1,s1⟩:=qQs w0 (twC (.slice (some ⟨kb,ko,.none⟩) ks.length kc) 0 top (.slice none 0 0) (.bool false) (.slice none 0 0) (.pointer none) (.pointer none)) 96;simp -implicitDefEqProofs only[go_sem,jF,vJ,Tryz.f67,yk,Int.le_refl,and_self,if_true,Int.toNat_zero,Nat.zero_mul,rk,lk,bl,jM,hW];refine qQa pl119 ((split W (hk.fr0 (hu.trans f1)) ha h0 hkl).mono ?_);rintro _ w2 ⟨rfl,f2⟩;have f02:=f1.trans f2;have q2:wrO prog 3 w2 w0.heap.size 1 (.int .i64 ((yL ks:Nat):Int))=some (put w2 w0.heap.size (.cells (twC (.slice (some ⟨kb,ko,.none⟩) ks.length kc) (yL ks) top (.slice none 0 0) (.bool false) (.slice none 0 0) (.pointer none) (.pointer none)) 96 (0,0))):=qZp sz3 (f2.at k1 id) rfl (by simp);have k3:=qQf (o:=.cells (twC (.slice (some ⟨kb,ko,.none⟩) ks.length kc) (yL ks) top (.slice none 0 0) (.bool false) (.slice none 0 0) (.pointer none) (.pointer none)) 96 (0,0)) (f2.at k1 id);have f3:No w0 (put w2 w0.heap.size (.cells (twC (.slice (some ⟨kb,ko,.none⟩) ks.length kc) (yL ks) top (.slice none 0 0) (.bool false) (.slice none 0 0) (.pointer none) (.pointer none)) 96 (0,0))):=f02.put (b:=w0.heap.size) _ fun h=>absurd h (Nat.lt_irrefl _);generalize put w2 w0.heap.size (.cells (twC (.slice (some ⟨kb,ko,.none⟩) ks.length kc) (yL ks) top (.slice none 0 0) (.bool false) (.slice none 0 0) (.pointer none) (.pointer none)) 96 (0,0))=w3 at *;have hf:=Wit.frm_bound ha hs (by omega);have t3d:∀ t' o',rdO prog t' w3.drew w0.heap.size o'=_:=qQo (P:=prog) k3;have s3d:∀ t' o',rdO prog t' w3.drew tb0 o'=_:=qQo (P:=prog) (w:=w3.drew) (f3.at t0 id);obtain⟨na,nc,rfl,hnc⟩:=hn0.rd.slice;clear hn0';have sl:=slc_both (P:=prog) slc94 arr94 sz23 (a:=na) (n:=(rP ls (ks.headD [])).2.length) (cap:=nc) (l:=yL ks) (m:=top) (by omega) (by omega) hnc;have f3d:No w0 w3.drew:=f3.drew
  simp -implicitDefEqProofs only[go_sem,jF,gLa,gLz,gLs,q2,t3d,s3d,qQk,sl];refine qQa pl120 ((dclone w3.drew (RdD.cutV (hn0.rd.fr0 f3d) (show yL ks≤top by omega) (by omega) rfl) (by rw[lTk,lDr];omega)).mono ?_);rintro nv w4 ⟨n4,f4⟩;have f34:No w3 w4:=(Fr.refl _ _).drew.trans f4;have f04:=f3.trans f34;obtain⟨na4,nc4,hnv4,_⟩:=n4.rd.slice;have on4:one nv=true:=by rw[hnv4];rfl
  have q5:wrO prog 94 w4 w0.heap.size 3 nv=some (put w4 w0.heap.size (.cells (twC (.slice (some ⟨kb,ko,.none⟩) ks.length kc) (yL ks) top nv (.bool false) (.slice none 0 0) (.pointer none) (.pointer none)) 96 (0,0))):=qZp sz94 (f34.at k3 id) on4 (by simp);have k5:=qQf (o:=.cells (twC (.slice (some ⟨kb,ko,.none⟩) ks.length kc) (yL ks) top nv (.bool false) (.slice none 0 0) (.pointer none) (.pointer none)) 96 (0,0)) (f34.at k3 id);have f5:No w0 (put w4 w0.heap.size (.cells (twC (.slice (some ⟨kb,ko,.none⟩) ks.length kc) (yL ks) top nv (.bool false) (.slice none 0 0) (.pointer none) (.pointer none)) 96 (0,0))):=f04.put (b:=w0.heap.size) _ fun h=>absurd h (Nat.lt_irrefl _);have n5:=n4.fr ((Fr.refl (fun b=>b=w0.heap.size) w4).put (b:=w0.heap.size) (.cells (twC (.slice (some ⟨kb,ko,.none⟩) ks.length kc) (yL ks) top nv (.bool false) (.slice none 0 0) (.pointer none) (.pointer none)) 96 (0,0)) fun _=>rfl) fun b hb e=>by have:=(n4.lt hb).1;have:=qQh k3;have:w3.drew.heap.size=w3.heap.size:=rfl;omega
  have nn5:∀ b,qQb nv=some b→w0.heap.size≤b:=fun b hb=>by have:=(n4.lt hb).1;have:=f3d.size;omega
  have nb5:∀ b,qQb nv=some b→b≠w0.heap.size:=fun b hb e=>by have:=(n4.lt hb).1;have:=qQh k3;have:w3.drew.heap.size=w3.heap.size:=rfl;omega
  simp -implicitDefEqProofs only[go_sem,jF,gLa,gLz,q5];generalize put w4 w0.heap.size (.cells (twC (.slice (some ⟨kb,ko,.none⟩) ks.length kc) (yL ks) top nv (.bool false) (.slice none 0 0) (.pointer none) (.pointer none)) 96 (0,0))=w5 at *;have n5:NwD wE w5 23 nv (((rP ls (ks.headD [])).2.drop (yL ks)).take (top - yL ks)):=n5.back (Nat.zero_le _);simp only[Wit.grow]
  by_cases h1:ks.length<2
  ·obtain⟨k,rfl⟩:=List.length_eq_one_iff.1 (show ks.length=1 by omega)
   rw[if_pos h1];have e0:yL [k]=0:=Wit.frm_one h1;have d1:((((([k]:List Bs).length:Nat):Int)) == 1)=true:=rfl;have s5:=qQo (P:=prog) (f5.at t0 id)
   have lA:ldO prog 69 (some (.cells (twC kv0 0 256 (.slice na (rP ls (([k]:List Bs).headD [])).2.length nc) (.bool (rP ls (([k]:List Bs).headD [])).1.isSome) vv0 (.pointer none) (.pointer none)) 96 (0,0))) 4=some (.agg #[.bool (rP ls (([k]:List Bs).headD [])).1.isSome,vv0]):=by
    rw[qJb agg69 sz69 (by simp)];rfl
   have q6:wrO prog 69 w5 w0.heap.size 4 (.agg #[.bool (rP ls (([k]:List Bs).headD [])).1.isSome,vv0])=some (put w5 w0.heap.size (.cells (twC (.slice (some ⟨kb,ko,.none⟩) ([k]:List Bs).length kc) (yL [k]) top nv (.bool (rP ls (([k]:List Bs).headD [])).1.isSome) vv0 (.pointer none) (.pointer none)) 96 (0,0))):=by
    rw[qZl k5,stO_agg sz69 (by rw[← Array.all_toList];simp only[List.all_cons,List.all_nil,ho0];rfl) (by simp)];rfl
   have k6:=qQf (o:=.cells (twC (.slice (some ⟨kb,ko,.none⟩) ([k]:List Bs).length kc) (yL [k]) top nv (.bool (rP ls (([k]:List Bs).headD [])).1.isSome) vv0 (.pointer none) (.pointer none)) 96 (0,0)) k5;have f6:Fr (fun b=>b=w0.heap.size) w5 (put w5 w0.heap.size (.cells (twC (.slice (some ⟨kb,ko,.none⟩) ([k]:List Bs).length kc) (yL [k]) top nv (.bool (rP ls (([k]:List Bs).headD [])).1.isSome) vv0 (.pointer none) (.pointer none)) 96 (0,0))):=(Fr.refl _ _).put (b:=w0.heap.size) _ fun _=>rfl;simp -implicitDefEqProofs only[go_sem,jF,d1,s5,lA,q6];refine⟨f5.trans' f6 fun b hb e=>by omega,w0.heap.size,rfl,_,nv,vv0,.inr (xP _),?_,hk,n5.fr f6 nb5,fun b hb=>.inr (nn5 b hb),(hv0.fr0 f5).frn f6 fun hn b hb e=>?_,fun hn b hb=>.inl (hv0'.blkn hn hb)⟩
   ·rw[e0]at k6;exact k6
   ·have:=hv0'.blkn hn hb;omega
  ·rw[if_neg h1]
   have h2:2≤ks.length:=by omega
   have hlt:=Wit.lefts_lt ha h2;have hlp:=Wit.lefts_pos ha h2;have hfp:=Wit.frm_pos ha h2;have hfl:=Wit.frm_le ha h2;have e257:256 - (yL ks - 1)=257 - yL ks:=by omega
   have d1:(((ks.length:Nat):Int) == 1)=false:=by rw[bFn];omega
   have c1:IntKind.i64.wrap (((yL ks:Nat):Int) - 1)=((yL ks - 1:Nat):Int):=qXl (b:=1) (by omega) (by omega);have p1:=slc_hi (P:=prog) slc24 arr24 sz34 (a:=some ⟨kb,ko,.none⟩) (show yT ks≤ks.length by omega) hkc;have p2:=slc_lo (P:=prog) slc24 arr24 sz34 (a:=some ⟨kb,ko,.none⟩) (show yT ks≤ks.length by omega) hkc;have kk1:=RdD.cutV hk (Nat.zero_le (yT ks)) (by omega) rfl;have kk2:=RdD.cutV hk (show yT ks≤ks.length by omega) (xP _) rfl;rw[List.drop_zero,Nat.sub_zero]at kk1;rw[zF (by rw[lDr];omega)]at kk2;have hl1:(ks.take (yT ks)).length=yT ks:=by rw[lTk];omega
   have hl2:(ks.drop (yT ks)).length=ks.length - yT ks:=by rw[lDr]
   have t5d:∀ t' o',rdO prog t' w5.drew w0.heap.size o'=_:=qQo (P:=prog) k5;have fd5:No w5 w5.drew:=(Fr.refl _ _).drew;have f5d:=f5.trans fd5;simp -implicitDefEqProofs only[go_sem,jF,gLa,gLz,gLs,d1,h1,if_false,t5d,qQk,c1,p1];refine qQa pl67 ((ih w5.drew (ks:=ks.take (yT ks)) (top:=yL ks - 1) (by omega) (hu.trans f5d) (huS.trans f5d) (hM.fr0 f5d) kk1 (ha.take _) (by omega) (by omega) (by rw[e257];exact Wit.shr_take ha h2) (by omega) fun k hk'=>hm k (List.mem_of_mem_take hk')).mono ?_);rintro _ w6 ⟨f6,lb,rfl,hL⟩;have f56:=fd5.trans f6;have k6:=f56.at k5 id;have q7:wrO prog 91 w6 w0.heap.size 6 (pt lb 0)=some (put w6 w0.heap.size (.cells (twC (.slice (some ⟨kb,ko,.none⟩) ks.length kc) (yL ks) top nv (.bool false) (.slice none 0 0) (pt lb 0) (.pointer none)) 96 (0,0))):=qZp sz91 k6 rfl (by simp);have k7:=qQf (o:=.cells (twC (.slice (some ⟨kb,ko,.none⟩) ks.length kc) (yL ks) top nv (.bool false) (.slice none 0 0) (pt lb 0) (.pointer none)) 96 (0,0)) k6;have p7:Fr (fun b=>b=w0.heap.size) w6 (put w6 w0.heap.size (.cells (twC (.slice (some ⟨kb,ko,.none⟩) ks.length kc) (yL ks) top nv (.bool false) (.slice none 0 0) (pt lb 0) (.pointer none)) 96 (0,0))):=(Fr.refl _ _).put (b:=w0.heap.size) _ fun _=>rfl;simp -implicitDefEqProofs only[go_sem,jF,q7];generalize put w6 w0.heap.size (.cells (twC (.slice (some ⟨kb,ko,.none⟩) ks.length kc) (yL ks) top nv (.bool false) (.slice none 0 0) (pt lb 0) (.pointer none)) 96 (0,0))=w7 at *;have f7:No w0 w7:=(f5.trans f56).trans' p7 fun b hb e=>by omega
   have t7d:∀ t' o',rdO prog t' w7.drew w0.heap.size o'=_:=qQo (P:=prog) (w:=w7.drew) k7;have fd7:No w7 w7.drew:=(Fr.refl _ _).drew;have f7d:=f7.trans fd7;simp -implicitDefEqProofs only[go_sem,jF,gLa,gLz,gLs,t7d,qQk,c1,p2];refine qQa pl67 ((ih w7.drew (ks:=ks.drop (yT ks)) (top:=yL ks - 1) (by omega) (hu.trans f7d) (huS.trans f7d) (hM.fr0 f7d) kk2 (ha.drop _) (by omega) (by omega) (by rw[e257];exact Wit.shr_drop ha h2) (by omega) fun k hk'=>hm k (List.mem_of_mem_drop hk')).mono ?_);rintro _ w8 ⟨f8,rb,rfl,hR⟩;have f78:=fd7.trans f8;have k8:=f78.at k7 id;have q9:wrO prog 91 w8 w0.heap.size 7 (pt rb 0)=some (put w8 w0.heap.size (.cells (twC (.slice (some ⟨kb,ko,.none⟩) ks.length kc) (yL ks) top nv (.bool false) (.slice none 0 0) (pt lb 0) (pt rb 0)) 96 (0,0))):=qZp sz91 k8 rfl (by simp);have k9:=qQf (o:=.cells (twC (.slice (some ⟨kb,ko,.none⟩) ks.length kc) (yL ks) top nv (.bool false) (.slice none 0 0) (pt lb 0) (pt rb 0)) 96 (0,0)) k8;have p9:Fr (fun b=>b=w0.heap.size) w8 (put w8 w0.heap.size (.cells (twC (.slice (some ⟨kb,ko,.none⟩) ks.length kc) (yL ks) top nv (.bool false) (.slice none 0 0) (pt lb 0) (pt rb 0)) 96 (0,0))):=(Fr.refl _ _).put (b:=w0.heap.size) _ fun _=>rfl;simp -implicitDefEqProofs only[go_sem,jF,q9];have z5:w0.heap.size<w5.drew.heap.size:=qQh k5;have z7:w0.heap.size<w7.drew.heap.size:=qQh k7;have notL:∀ b,b<wS.heap.size∨w5.drew.heap.size≤b→¬ b=w0.heap.size:=fun b h e=>by omega
   have notR:∀ b,b<wS.heap.size∨w7.drew.heap.size≤b→¬ b=w0.heap.size:=fun b h e=>by omega
   refine⟨(f7.trans f78).trans' p9 fun b hb e=>by omega,w0.heap.size,rfl,_,nv,⟨.bool false,rfl⟩,⟨.slice none 0 0,rfl⟩,lb,rb,.inr (xP _),k9,hk,?_,fun b hb=>.inr (nn5 b hb),?_,?_⟩
   ·exact ((((n5.fr0 f56).fr p7 nb5).fr0 f78).fr p9 nb5)
   ·exact ((((hL.fr p7 notL).fr f78 fun _ _ h=>h).fr p9 notL).mono fun b h=>h.imp id fun h=>by omega)
   ·exact ((hR.fr p9 notR).mono fun b h=>h.imp id fun h=>by omega)
section
structure AgE (w:World) (ab wb yb gb:Nat) (wd:Int) (av kv:Value) (mb:Nat):Prop where
 a:w.heap[ab]?=some (.cells #[av] 91 (0,0))
 d:w.heap[wb]?=some (.cells #[.int .i64 wd] 3 (0,0))
 y:w.heap[yb]?=some (.cells #[kv,.map (some mb)] 111 (0,0))
 g:w.heap[gb]?=some (.cells #[.func (.func 96) #[] #[pt ab 0,pt wb 0,pt yb 0,pt gb 0]] 170 (0,0))
section
variable (u:World) (wd:Int) (cs:List Bat.Ch) (tt:Option Wit.Tw) (av kv:Value) (mb ab wb yb gb:Nat)
end
end
namespace R
end R
namespace Wit
end Wit
namespace R
end R
end Go.V
