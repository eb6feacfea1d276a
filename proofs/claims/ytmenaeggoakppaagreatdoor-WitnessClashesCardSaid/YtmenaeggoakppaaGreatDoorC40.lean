/- Helpers. -/
import Derived.Test.YtmenaeggoakppaaGreatDoorC39
import Derived.Test.YtmenaeggoakppaaGreatDoorC35
set_option linter.all false
set_option maxRecDepth 100000
set_option maxHeartbeats 8000000
open Go.V.Fr renaming ext→rX
open List renaming replicate→zG,mem_singleton→jV,getElem_append_left→jF,getElem?_eq_getElem→xO,getElem_of_mem→rT
open Nat renaming reduceEqDiff→jR,reduceBEq→jL,reduceAdd→vY,le_refl→xP
open Go.Value renaming cells→jS
open Go.V.Wit renaming nearH→rB
namespace Go.V
open Go.Proofs.Tryz Go.V.Tryz
open Go.Proofs Sha
variable {bits e k:Bs} {wd:Int} {ks:List Bs} {vals:List Value} {cb:Nat} {F:Nat→Prop} {a:Option Bs} {bv kv rv sv v vv:Value} {w w' w0:World}
def NwT (w0 w:World)(v:Value)(vals:List Value)(ts:List Bs):Prop:=Nw w0 w 25 1 v ts.length vals∧vals.length=ts.length∧∀ i (h:i<vals.length) (h':i<ts.length),NwB w0 w vals[i] ts[i]∧∀ b,qQb vals[i]=some b→qQb v≠some b
theorem NwT.fr {ts:List Bs}(h:NwT w0 w v vals ts)(f:Fr F w w')(h1:∀ b,qQb v=some b→¬ F b)(h2:∀ x ∈ vals,∀ b,qQb x=some b→¬ F b):NwT w0 w' v vals ts :=
 ⟨h.1.fr f h1,h.2.1,fun i a b=>⟨(h.2.2 i a b).1.fr f (h2 _ (List.getElem_mem a)),(h.2.2 i a b).2⟩⟩
theorem NwT.fr0 {ts:List Bs}(h:NwT w0 w v vals ts)(f:No w w'):NwT w0 w' v vals ts:=h.fr f (fun _ _ h=>h) fun _ _ _ _ h=>h
theorem NwT.push {ts:List Bs}(h:NwT w0 w v vals ts)(f:w0.heap.size≤w.heap.size){x:Value}{t:Bs}(hx:NwB w0 w x t)(hap:∀ b, qQb x=some b→qQb v≠some b)(hl:ts.length≤2 ^ 30) :
  ∃ v' w',(Builtin.append_ #[37,37] 0 #[v,.slice (some ⟨w.heap.size,0,.none⟩) 1 1]).run prog (w.alloc (.cells #[x] 25))=.ok v' w'∧NwT w0 w' v' (vals++[x]) (ts++[t])∧Fr (fun b=>qQb v=some b) w w'∧∀ b,qQb v'=some b→qQb v=some b∨w.heap.size≤b:=by
 obtain⟨h1,h2,h3⟩:=h;have ox:one x=true:=by obtain⟨a,c,rfl⟩:=hx.slice;rfl
 obtain⟨v',w',hr,hown,g,m⟩:=qKk (P:=prog) app37_37 h1 (m:=1) (xs:=#[x]) rfl (by simp[ox]) (by omega) (bd_one (by omega)) (by omega) f;refine⟨v',w',hr,⟨by rw[lAp];exact hown,by simp[h2],fun i a b=>?_⟩,g,m⟩
 by_cases hi:i<vals.length
 ·obtain⟨e1,e2⟩:=h3 i hi (by omega)
  rw[jF hi,jF (by omega)];refine⟨e1.fr g fun b hb h=>e2 b hb h,fun b hb h=>?_⟩
  rcases m b h with h' | h'
  ·exact e2 b hb h'
  ·have:=(e1.lt hb).2;omega
 ·have hi':i=vals.length:=by simp at a;omega
  subst hi';have ev:(vals++[x])[vals.length]'a=x:=by simp
  have et:(ts++[t])[vals.length]'b=t:=by simp[h2]
  rw[ev,et];refine⟨hx.fr g fun b hb h=>hap b hb h,fun b hb h=>?_⟩
  rcases m b h with h' | h'
  ·exact hap b hb h'
  ·have:=(hx.lt hb).2;omega
namespace C
def txH (wd:Int)(k:Bs)(path near:Nat→Bs)(h:Nat):Bs:=qZg wd (sd1 k (path h) (near h) h) (sd2 k (path h) (near h) h)
def lowT (k:Bs):Option Bs→Bs
 | none=>[2]
 | some v=>leafT k v
def txL (wd:Int)(k:Bs)(a:Option Bs)(path near:Nat→Bs)(n:Nat):List Bs:=lowT k a::(List.range n).map (txH wd k path near)
theorem txL_len (wd:Int)(k:Bs)(a:Option Bs)(path near:Nat→Bs)(n:Nat):(txL wd k a path near n).length=n+1:=by simp[txL]
theorem txL_succ (wd:Int)(k:Bs)(a:Option Bs)(path near:Nat→Bs)(n:Nat):txL wd k a path near (n+1)=txL wd k a path near n++[txH wd k path near n]:=by simp[txL,List.range_succ]
def JT (wB:World)(cb xb lb:Nat)(wd:Int)(k:Bs)(a:Option Bs)(path near:Nat→Bs)(h:Nat)(w:World)(F:Nat→Prop):Prop :=
 ∃ lv vals,w.heap[xb]?=some (.cells #[pt cb 0] 164 (0,0))∧w.heap[lb]?=some (.cells #[lv] 37 (0,0))∧one lv=true∧NwT wB w lv vals (txL wd k a path near h)∧F=(fun b=>b=xb∨b=lb∨qQb lv=some b∨∃ x ∈ vals,qQb x=some b)∧wB.heap.size≤w.heap.size∧wB.heap.size≤lb∧wB.heap.size≤xb∧(∀ b,qQb lv=some b→b≠lb∧b≠xb)∧(∀ x ∈ vals,∀ b,qQb x=some b→b≠lb∧b≠xb)∧xb≠lb
def tsK (w1:World)(xb lb:Nat)(X Y:Bs)(x3 x4 x8 x9:Value)(w:World):Prop:=x3=pt xb 0∧x4=pt lb 0∧∃ b c,x8=pt b 0∧x9=pt c 0∧w.heap[b]?=some (.cells (bl X) 23 (0,0))∧w.heap[c]?=some (.cells (bl Y) 23 (0,0))∧No w1 w
theorem texts1 (wB w:World){cb xb lb:Nat}{k root:Bs}{sums:List Bs}{path near:Nat→Bs}(hpl:∀ h, (path h).length=32)(hnl:∀ h, h<256→(near h).length=32){h:Nat}(hh:h<256)(hJ:JT wB cb xb lb wd k a path near h w F)(ht:Tabs w){bv':Value}(hP:CkP w cb wd k root a bits sums rv vv sv bv' e)(hcF:∀ b, F b→b≠cb) :
  Fn prog 157 #[.int .i64 (h:Nat),dg (path h),dg (near h),pt xb 0,pt lb 0] w fun r w'=>r=.tuple #[]∧∃ F',JT wB cb xb lb wd k a path near (h+1) w' F'∧Fr F w w'∧∀ b,F' b→F b∨w.heap.size≤b:=by
 refine go157 (by simp) ?_;obtain⟨lv,vals,kx,kl,lo,hT,hF,hs1,hs2,hs3,hlb,hvb,hne⟩:=hJ;have hd:=hpl h;have hn:=hnl h hh;have hk:=hP.ck.lk;obtain⟨w1,hW,f1,k1,k2,s1⟩:=qXe w (bl (path h)) 23 (bl (near h)) 23;have hP1:=hP.fr0 f1;have rc:rdO prog 164 w1 xb 0=some (pt cb 0):=rd1 agg164 (f1.at kx id) rfl;have rcd:rdO prog 164 w1.drew xb 0=some (pt cb 0):=rc;have rk:=hP1.ck.key;have rkd:rdO prog 34 w1.drew cb 1=_:=rk;have rd:=rd_d agg23 sz23 k1 hd;have rdd:rdO prog 23 w1.drew w.heap.size 0=_:=rd;have rn:=rd_d agg23 sz23 k2 hn;have rnd:rdO prog 23 w1.drew (w.heap.size+1) 0=_:=rn;have l1:=sd1_len (k:=k) (h:=h) hd hn;have l2:=sd2_len (k:=k) (h:=h) hd hn;simp -implicitDefEqProofs only[go_sem,jR,vY,Tryz.f157,jS,hW];refine qJa (fun j=>j == 7 || (j == 11 || j == 12)) (.one 0 (.one 1 (.one 2 (.one 3 (.one 4 (.one 5 (.one 6 (.tri 7 (.one 8 (.one 9 (.one 10 (.two 11 (.row [12,13,14]) 12 (.row [11,13,14]))))) 11 (.two 7 (.row [8,9,10,12,13,14]) 12 (.row [7,8,9,10,13,14])) 12 (.two 7 (.row [8,9,10,11,13,14]) 11 (.row [7,8,9,10,13,14])))))))))) rfl (by kernel_rfl) (by kernel_rfl) ?_;refine qXh (K:=fun ev w=>tsK w1 xb lb (sd1 k (path h) (near h) h) (sd2 k (path h) (near h) h) (ev 3) (ev 4) (ev 8) (ev 9) w) ?rest _ ?main
 case main =>
   have gd:No w1 w1.drew:=(Fr.refl _ _).drew;simp only[OT.row];simp -implicitDefEqProofs only[go_sem,jR,jL,gLa,gLz,gLs,jS,qQj,rcd,rkd,rdd,rnd];refine⟨?_,?_,?_⟩
   ·refine qQg pl158 ((qJn w1.drew hk hd hn hh).mono ?_)
    rintro _ wa ⟨rfl,ga⟩;refine⟨fun _=>rX ga,?_⟩;have Ga:=gd.trans ga;simp -implicitDefEqProofs only[go_sem,jR,jL,gLa,gLz,gLs,jS,qQj];obtain⟨wc,hwc,gc,kb,kc,sc⟩:=qXe wa (bl (zG 32 0)) 23 (bl (zG 32 0)) 23;have Gc:=Ga.trans gc;have sGa:=Ga.size;refine⟨?_,?_⟩
    ·obtain⟨u1,u2,q1,q2,z1,z2,gz⟩:=st2d kb kc (by omega) l1 l2
     simp -implicitDefEqProofs only[go_sem,jR,jL,gLa,gLz,gLs,hwc,q1,q2];exact⟨rfl,rfl,_,_,rfl,rfl,z1,z2,Gc.trans' gz (by intro z hz h;omega)⟩
    ·obtain⟨u1,u2,q1,q2,z1,z2,gz⟩:=st2d kc kb (by omega) l1 l2
     simp -implicitDefEqProofs only[go_sem,jR,jL,gLa,gLz,gLs,hwc,q1,q2];exact⟨rfl,rfl,_,_,rfl,rfl,z1,z2,Gc.trans' gz (by intro z hz h;omega)⟩
   ·refine⟨fun _=>Ext.alloc w1.drew _,?_⟩
    refine⟨?_,?_⟩
    ·have ga:No w1 (w1.alloc (.cells (bl (zG 32 0)) 23)).drew:=((Fr.refl _ _).alloc _).drew
     have ka:(w1.alloc (.cells (bl (zG 32 0)) 23)).drew.heap[w1.heap.size]?=_:=qQc w1 (.cells (bl (zG 32 0)) 23);generalize (w1.alloc (.cells (bl (zG 32 0)) 23)).drew=wa at *;refine qQg pl158 ((qJn wa hk hd hn hh).mono ?_);rintro _ wb ⟨rfl,gb⟩;refine⟨fun _=>rX gb,?_⟩;simp -implicitDefEqProofs only[go_sem,jR,jL,gLa,gLz,gLs,jS,qQj];obtain⟨wc,hwc,gc,kc,sc⟩:=qQm wb (bl (zG 32 0)) 23;have Gc:=ga.trans (gb.trans gc);have ka2:=gc.at (gb.at ka id) id;have lne:=qQi (gb.at ka id);obtain⟨u1,u2,q1,q2,z1,z2,gz⟩:=st2d ka2 kc (by omega) l1 l2;simp -implicitDefEqProofs only[go_sem,jR,jL,gLa,gLz,gLs,hwc,q1,q2];exact⟨rfl,rfl,_,_,rfl,rfl,z1,z2,Gc.trans' gz (by intro z hz h;omega)⟩
    ·refine⟨fun _=>Ext.alloc (w1.alloc (.cells (bl (zG 32 0)) 23)).drew _,?_⟩
     obtain⟨wb,hwb,gb,ka,kb,sb⟩:=qXe w1 (bl (zG 32 0)) 23 (bl (zG 32 0)) 23;rw[hwb];refine qQg pl158 ((qJn wb.drew hk hd hn hh).mono ?_);rintro _ wc ⟨rfl,gc⟩;refine⟨fun _=>rX gc,?_⟩;have Gc:=gb.drew.trans gc;have ka2:=gc.at (show wb.drew.heap[w1.heap.size]?=_ from ka) id;have kb2:=gc.at (show wb.drew.heap[w1.heap.size+1]?=_ from kb) id;obtain⟨u1,u2,q1,q2,z1,z2,gz⟩:=st2d ka2 kb2 (by omega) l1 l2;simp -implicitDefEqProofs only[go_sem,jR,jL,gLa,gLz,gLs,q1,q2];exact⟨rfl,rfl,_,_,rfl,rfl,z1,z2,Gc.trans' gz (by intro z hz h;omega)⟩
   ·refine⟨fun _=>Ext.alloc w1.drew _,?_⟩
    refine⟨?_,?_⟩
    ·have ga:No w1 (w1.alloc (.cells (bl (zG 32 0)) 23)).drew:=((Fr.refl _ _).alloc _).drew
     have ka:(w1.alloc (.cells (bl (zG 32 0)) 23)).drew.heap[w1.heap.size]?=_:=qQc w1 (.cells (bl (zG 32 0)) 23);generalize (w1.alloc (.cells (bl (zG 32 0)) 23)).drew=wa at *;refine qQg pl158 ((qJn wa hk hd hn hh).mono ?_);rintro _ wb ⟨rfl,gb⟩;refine⟨fun _=>rX gb,?_⟩;simp -implicitDefEqProofs only[go_sem,jR,jL,gLa,gLz,gLs,jS,qQj];obtain⟨wc,hwc,gc,kc,sc⟩:=qQm wb (bl (zG 32 0)) 23;have Gc:=ga.trans (gb.trans gc);have ka2:=gc.at (gb.at ka id) id;have lne:=qQi (gb.at ka id);obtain⟨u1,u2,q1,q2,z1,z2,gz⟩:=st2d kc ka2 (by omega) l1 l2;simp -implicitDefEqProofs only[go_sem,jR,jL,gLa,gLz,gLs,hwc,q1,q2];exact⟨rfl,rfl,_,_,rfl,rfl,z1,z2,Gc.trans' gz (by intro z hz h;omega)⟩
    ·refine⟨fun _=>Ext.alloc (w1.alloc (.cells (bl (zG 32 0)) 23)).drew _,?_⟩
     obtain⟨wb,hwb,gb,ka,kb,sb⟩:=qXe w1 (bl (zG 32 0)) 23 (bl (zG 32 0)) 23;rw[hwb];refine qQg pl158 ((qJn wb.drew hk hd hn hh).mono ?_);rintro _ wc ⟨rfl,gc⟩;refine⟨fun _=>rX gc,?_⟩;have Gc:=gb.drew.trans gc;have ka2:=gc.at (show wb.drew.heap[w1.heap.size]?=_ from ka) id;have kb2:=gc.at (show wb.drew.heap[w1.heap.size+1]?=_ from kb) id;obtain⟨u1,u2,q1,q2,z1,z2,gz⟩:=st2d kb2 ka2 (by omega) l1 l2;simp -implicitDefEqProofs only[go_sem,jR,jL,gLa,gLz,gLs,q1,q2];exact⟨rfl,rfl,_,_,rfl,rfl,z1,z2,Gc.trans' gz (by intro z hz h;omega)⟩
 case rest =>
  rintro ev w2 ⟨e3,e4,b8,b9,e8,e9,k8,k9,f2⟩;have f02:No w w2:=f1.trans f2;have hP2:=hP.fr0 f02;have rl:rdO prog 37 w2 lb 0=some lv:=rd1 agg37 (f02.at kl id) rfl;have rld:rdO prog 37 w2.drew lb 0=some lv:=rl;have rx:rdO prog 164 w2 xb 0=some (pt cb 0):=rd1 agg164 (f02.at kx id) rfl;have rxd:rdO prog 164 w2.drew xb 0=some (pt cb 0):=rx;have rw2:=hP2.ck.wd0;have rw2d:rdO prog 3 w2.drew cb 0=_:=rw2;have r8:=rd_d agg23 sz23 k8 l1;have r8d:rdO prog 23 w2.drew b8 0=_:=r8;have r9:=rd_d agg23 sz23 k9 l2;have r9d:rdO prog 23 w2.drew b9 0=_:=r9;simp -implicitDefEqProofs only[go_sem];refine qXd (fun j=>j == 7 || j == 8) [0,1,2,3,4,5,6,7,8,9,10] rfl (by kernel_rfl) (by kernel_rfl) ?_;simp -implicitDefEqProofs only[go_sem,jR,jL,gLa,gLz,gLs,e3,e4,e8,e9,rld,rxd,rw2d,r8d,r9d];refine qQp pl159 ((branchText w2.drew wd l1 l2).mono ?_);rintro x3 w3 ⟨n3,f3⟩;refine⟨fun _=>rX f3,?_⟩;have f23:No w2 w3:=(Fr.refl _ _).drew.trans f3;have f03:=f02.trans f23;have hx1:one x3=true:=by obtain⟨a,c,rfl⟩:=n3.slice;rfl
  have s02:=f02.size;have s23:=f23.size;have n3B:NwB wB w3 x3 (txH wd k path near h):=n3.back (show wB.heap.size≤w2.heap.size by omega);have hxb:∀ b,qQb x3=some b→w2.heap.size≤b∧b<w3.heap.size:=fun b hb=>n3.lt hb
  have hlvb:∀ b,qQb lv=some b→b<w.heap.size:=fun b hb=>(hT.1.own.lt hb)
  obtain⟨xa,xc,hxs⟩:=n3.slice;simp -implicitDefEqProofs only[go_sem,gLa,gLz,gLs];refine contLX_is (v:=.slice (some ⟨w3.heap.size,0,.none⟩) 1 1) (w':=w3.alloc (.cells #[x3] 25)) (by subst hxs;rfl) (fun _=>Ext.alloc _ _) ?_;obtain⟨v4,w4,hr4,hT4,g4,m4⟩:=(hT.fr0 f03).push (by omega) n3B (fun b hb h=>by have:=(hxb b hb).1;have:=hlvb b h;omega) (by rw[txL_len];omega);have o4:one v4=true:=by obtain⟨_,a,c,rfl,_⟩:=hT4.1.rd;rfl
  simp -implicitDefEqProofs only[go_sem,jR,gLa,gLz,gLs];refine qKh ⟨v4,w4,hr4,(fun h=>by cases h),?_⟩;have k4l:=g4.at (f03.at kl id) fun h=>(hlb _ h).1 rfl;have k4x:=g4.at (f03.at kx id) fun h=>(hlb _ h).2 rfl;have q4:wrO prog 37 w4 lb 0 v4=some (put w4 lb (.cells #[v4] 37 (0,0))):=wr1 (P:=prog) (o:=0) sz37 o4 k4l (by simp);simp -implicitDefEqProofs only[go_sem,jR,jL,gLa,gLz,gLs,e4,q4];have f5:Fr (fun b=>b=lb) w4 (put w4 lb (.cells #[v4] 37 (0,0))):=(Fr.refl _ _).put (b:=lb) _ fun _=>rfl;have s34:=g4.size;have s45:=f5.size;have hlbl:lb<w.heap.size:=qQi kl;have hxbl:xb<w.heap.size:=qQi kx
  have hv4:∀ b,qQb v4=some b→b≠lb∧b≠xb:=fun b hb=>by
   rcases m4 b hb with h | h
   ·exact hlb b h
   ·omega
  have hx4:∀ x ∈ vals++[x3],∀ b,qQb x=some b→b≠lb∧b≠xb:=fun x hx b hb=>by
   rcases List.mem_append.1 hx with hx | hx
   ·exact hvb x hx b hb
   ·simp only[jV]at hx;subst hx
    have:=(hxb b hb).1;omega
  refine⟨_,⟨v4,vals++[x3],f5.at k4x hne,qQf k4l,o4,?_,rfl,by omega,hs2,hs3,hv4,hx4,hne⟩,?_,fun b hb=>?_⟩
  ·rw[txL_succ]
   exact hT4.fr f5 (fun b hb h=>(hv4 b hb).1 h) fun x hx b hb h=>(hx4 x hx b hb).1 h
  ·subst hF
   exact ((f03.mono fun _ _ h=>h.elim).trans (g4.mono fun b _ h=>.inr (.inr (.inl h)))).trans (f5.mono fun b _ h=>.inr (.inl h))
  ·subst hF
   rcases hb with h | h | h | ⟨x,hx,h⟩
   ·exact .inl (.inl h)
   ·exact .inl (.inr (.inl h))
   ·rcases m4 b h with h' | h'
    ·exact .inl (.inr (.inr (.inl h')))
    ·exact .inr (by omega)
   ·rcases List.mem_append.1 hx with hx | hx
    ·exact .inl (.inr (.inr (.inr ⟨x,hx,h⟩)))
    ·simp only[jV]at hx;subst hx
     exact .inr (by have:=(hxb b h).1;omega)
end C
namespace C
def pth (wd:Int)(k:Bs)(a:Option Bs)(bits:Bs)(sums:List Bs)(h:Nat):Bs:=V.climb wd k 0 (Wit.ldig wd k a) ((Wit.nearL wd bits sums).take h)
def txs (wd:Int)(k:Bs)(a:Option Bs)(bits:Bs)(sums:List Bs):List Bs:=txL wd k a (pth wd k a bits sums) (rB wd bits sums) 256
theorem texts (w0:World)(ht:Tabs w0){k root:Bs}{sums:List Bs}(hP:CkP w0 cb wd k root a bits sums rv vv sv bv e)(hR:RdD w0 bv (empts wd 256)) :
  Fn prog 94 #[pt cb 0] w0 fun v w'=>∃ vals,NwT w0 w' v vals (txs wd k a bits sums)∧Fr (fun b=>b=cb) w0 w':=by
 refine go94 (by simp) ?_;obtain⟨W,hW,f1,kx,s1⟩:=qQm w0 #[pt cb 0] 164;have h5:=ht.size;have hcl:=hP.ck.lt
 obtain⟨W2,hW2⟩:∃ W2,W.alloc (.cells (bl [2]) 5)=W2:=⟨_,rfl⟩
 have f2:No W W2:=by rw[← hW2];exact (Fr.refl _ _).alloc _
 have n2:NwB w0 W2 (.slice (some ⟨W.heap.size,0,.none⟩) 1 1) [2]:=by rw[← hW2];exact mk_nw w0 W 5 1 1 1 (bl [2]) f1.size rfl (xP _)
 have s2:W2.heap.size=W.heap.size+1:=by rw[← hW2];exact qQd _ _
 have hP2:=(hP.fr0 f1).fr0 f2;have kx2:=f2.at kx id;have rx:rdO prog 164 W2 w0.heap.size 0=some (pt cb 0):=rd1 agg164 kx2 rfl;have rxd:rdO prog 164 W2.drew w0.heap.size 0=some (pt cb 0):=rx;have rf:=hP2.ck.rdFound;have rk:=hP2.ck.key;have rkd:rdO prog 34 W2.drew cb 1=_:=rk;have rv2:=hP2.ck.val;have rv2d:rdO prog 25 W2.drew cb 67=_:=rv2
 have nl0:bv≠.slice .none 0 0:=fun h=>by
  obtain⟨b',o,cap,e',_⟩:=hR.pos (by rw[qQn];omega);rw[h]at e';cases e'
 have bvl:∀ b,qQb bv=some b→b<w0.heap.size:=fun b hb=>by
  obtain⟨b',o,cap,e',_,hlt⟩:=hR.pos (by rw[qQn];omega);rw[e']at hb;simp only[qQb,oSi]at hb;omega
 have hnl:∀ h,h<256→(rB wd bits sums h).length=32:=fun h hh=>by
  unfold rB;split
  ·exact qQr _ _
  ·rename_i hb
   obtain⟨hal,_⟩:=Wit.gs_at hP.sl hh (by simpa using hb);exact hP.sm.1.getD hal
 have hl:=Wit.ldig_len wd k a;have hpl:∀ h,(pth wd k a bits sums h).length=32:=fun h=>qZq _ _ _ _ _ hl
 have go:∀ (w:World) (x:Value), No w0 w→NwB w0 w x (lowT k a)→w.heap[w0.heap.size]?=some (.cells #[pt cb 0] 164 (0, 0))→(∀ b, qQb x=some b→b≠w0.heap.size) →
   ∃ w2,w2=w.alloc (.cells #[x] 25)∧∃ w3,wrO prog 37 (w2.alloc (.cells #[.slice .none 0 0] 37)) w2.heap.size 0 (.slice (some ⟨w.heap.size,0,.none⟩) 1 1)=some w3∧No w0 w3∧w3.heap[w0.heap.size]?=some (.cells #[pt cb 0] 164 (0,0)) ∧
    JT w0 cb w0.heap.size w2.heap.size wd k a (pth wd k a bits sums) (rB wd bits sums) 0 w3 (fun b=>b=w0.heap.size∨b=w2.heap.size∨qQb (.slice (some ⟨w.heap.size,0,.none⟩) 1 1)=some b∨∃ y ∈ [x],qQb y=some b)∧w0.heap.size<w2.heap.size:=fun w x fw nx kw hx=>by
  have ga:No w (w.alloc (.cells #[x] 25)):=(Fr.refl _ _).alloc _;have sa:(w.alloc (.cells #[x] 25)).heap.size=w.heap.size+1:=qQd _ _;have na:Nw w0 (w.alloc (.cells #[x] 25)) 25 1 (.slice (some ⟨w.heap.size,0,.none⟩) 1 1) 1 [x]:=mk_nw w0 w 25 1 1 1 #[x] fw.size rfl (xP _);refine⟨_,rfl,?_⟩;generalize w.alloc (.cells #[x] 25)=w2 at *;obtain⟨w3,hw3,gb,kl,sb⟩:=qQm w2 #[.slice .none 0 0] 37;have q:wrO prog 37 w3 w2.heap.size 0 (.slice (some ⟨w.heap.size,0,.none⟩) 1 1)=some (put w3 w2.heap.size (.cells #[.slice (some ⟨w.heap.size,0,.none⟩) 1 1] 37 (0,0))):=wr1 (P:=prog) (o:=0) sz37 rfl kl (by simp);rw[hw3];have gc:Fr (fun b=>b=w2.heap.size) w3 (put w3 w2.heap.size (.cells #[.slice (some ⟨w.heap.size,0,.none⟩) 1 1] 37 (0,0))):=(Fr.refl _ _).put (b:=w2.heap.size) _ fun _=>rfl;have fsz:=fw.size;have g3:No w2 (put w3 w2.heap.size (.cells #[.slice (some ⟨w.heap.size,0,.none⟩) 1 1] 37 (0,0))):=gb.put (b:=w2.heap.size) _ fun h=>absurd h (Nat.lt_irrefl _);have hkx:w0.heap.size<w.heap.size:=qQi kw;have nxl:∀ b,qQb x=some b→w0.heap.size≤b∧b<w.heap.size:=fun b hb=>nx.lt hb;refine⟨_,q,(fw.trans ga).trans g3,g3.at (ga.at kw id) id,⟨_,[x],g3.at (ga.at kw id) id,qQf kl,rfl,⟨na.fr0 g3,rfl,fun i h h'=>?_⟩,rfl,by have:=g3.size;omega,by omega,xP _,fun b hb=>?_,fun y hy b hb=>?_,by omega⟩,by omega⟩
  ·have:i=0:=by simp at h;omega
   subst this;refine⟨(nx.fr0 ga).fr0 g3,fun b hb h=>?_⟩;simp only[qQb,oSi]at h;have:=(nxl b hb).2;omega
  ·simp only[qQb,oSi]at hb
   omega
  ·simp only[jV]at hy;subst hy
   have:=(nxl b hb).2;have:=hx b hb;omega
 have fin:∀ (w w2 w3:World) (x:Value), No w0 w→NwB w0 w x (lowT k a)→w2=w.alloc (.cells #[x] 25)→No w0 w3→w0.heap.size<w2.heap.size →
   JT w0 cb w0.heap.size w2.heap.size wd k a (pth wd k a bits sums) (rB wd bits sums) 0 w3 (fun b=>b=w0.heap.size∨b=w2.heap.size∨qQb (.slice (some ⟨w.heap.size,0,.none⟩) 1 1)=some b∨∃ y ∈ [x],qQb y=some b) →
   ∀ w4,No w3 w4→Fn prog 155 #[pt cb 0,dg (Wit.ldig wd k a),.func (.func 157) #[] #[pt w0.heap.size 0,pt w2.heap.size 0]] w4 fun v w'=>∃ lv vals,w'.heap[w2.heap.size]?=some (.cells #[lv] 37 (0,0))∧NwT w0 w' lv vals (txs wd k a bits sums)∧Fr (fun b=>b=cb) w0 w':=fun w w2 w3 x fw nx e2 f3 hlt hJ w4 f4=>by
  have f04:=f3.trans f4;have fws:=fw.size;have hP4:=hP.fr0 f04
  have hF0:∀ b,(b=w0.heap.size∨b=w2.heap.size∨qQb (.slice (some ⟨w.heap.size,0,.none⟩) 1 1)=some b∨∃ y ∈ [x],qQb y=some b)→w0.heap.size≤b:=fun b hb=>by
   rcases hb with h | h | h | ⟨y,hy,h⟩
   ·omega
   ·omega
   ·simp only[qQb,oSi]at h;omega
   ·simp only[jV]at hy;subst hy
    exact (nx.lt h).1
  have hfr:∀ {h:Nat} {w w':World} {F F':Nat→Prop},JT w0 cb w0.heap.size w2.heap.size wd k a (pth wd k a bits sums) (rB wd bits sums) h w F→Fr F' w w'→(∀ b,F' b→¬ F b)→JT w0 cb w0.heap.size w2.heap.size wd k a (pth wd k a bits sums) (rB wd bits sums) h w' F:=fun hJ f hd=>by
   obtain⟨lv,vals,a1,a2,a3,a4,a5,a6,a7,a8,a9,a10,a11⟩:=hJ;subst a5;refine⟨lv,vals,f.at a1 fun h=>hd _ h (.inl rfl),f.at a2 fun h=>hd _ h (.inr (.inl rfl)),a3,a4.fr f (fun b hb h=>hd _ h (.inr (.inr (.inl hb)))) (fun x hx b hb h=>hd _ h (.inr (.inr (.inr ⟨x,hx,hb⟩)))),rfl,by have:=f.size;omega,a7,a8,a9,a10,a11⟩
  have seen:Seen w4 cb vv sv bv 157 #[] #[pt w0.heap.size 0,pt w2.heap.size 0] (fun h=>V.climb wd k 0 (Wit.ldig wd k a) ((Wit.nearL wd bits sums).take h)) (rB wd bits sums) (JT w0 cb w0.heap.size w2.heap.size wd k a (pth wd k a bits sums) (rB wd bits sums)) (fun b=>b=w0.heap.size∨b=w2.heap.size∨qQb (.slice (some ⟨w.heap.size,0,.none⟩) 1 1)=some b∨∃ y ∈ [x],qQb y=some b) (fun w=>Tabs w∧∃ bv',CkP w cb wd k root a bits sums rv vv sv bv' e) :=
   {
    pl:=pl157
    init:=hfr hJ f4 fun _ h=>h.elim
    fr:=hfr
    lt:=fun {h w F} hJ b hb=>by
     obtain⟨lv,vals,a1,a2,a3,a4,a5,_⟩:=hJ;subst a5
     rcases hb with rfl | rfl | h | ⟨y,hy,h⟩
     ·exact qQi a1
     ·exact qQi a2
     ·exact a4.1.own.lt h
     ·obtain⟨i,hi,rfl⟩:=rT hy
      exact ((a4.2.2 i hi (by rw[← a4.2.1];exact hi)).1.lt h).2
    run:=fun {h w F} hh hJ _ hC=>by
     obtain⟨htw,bv',hPw⟩:=hC;show Fn prog 157 #[.int .i64 (h:Nat),dg (pth wd k a bits sums h),dg (rB wd bits sums h),pt w0.heap.size 0,pt w2.heap.size 0] w _;refine texts1 w0 w hpl hnl hh hJ htw hPw fun b hb h=>?_;obtain⟨lv,vals,a1,a2,a3,a4,a5,_⟩:=hJ;subst a5
     rcases hb with rfl | rfl | h' | ⟨y,hy,h'⟩
     ·omega
     ·omega
     ·have:=a4.1.new b h';omega
     ·obtain⟨i,hi,rfl⟩:=rT hy
      have:=((a4.2.2 i hi (by rw[← a4.2.1];exact hi)).1.lt h').1;omega
    own:=.inl nl0
    safe:=fun b hb=>by
     have:=hF0 b hb;refine⟨by omega,by omega,fun h=>?_,fun h=>?_,fun h=>?_⟩
     ·have:=hP.vlt b h;omega
     ·have:=hP.slt b h;omega
     ·have:=bvl b h;omega }
  refine (climb w4 (ht.no f04) hP4 hl seen).mono ?_;rintro v w' ⟨_,bv',F,_,_,_,hJ',f',_⟩;obtain⟨lv,vals,a1,a2,a3,a4,_⟩:=hJ'
  exact⟨lv,vals,a2,a4,(f04.mono fun _ _ h=>h.elim).trans' f' fun b hb h=>by
   rcases h with h | h
   ·exact h
   ·have:=hF0 b h;omega⟩
 cases a with
 | none =>
  dsimp only[Option.isSome]at rf;obtain⟨w2,e2,w3,q3,f3,kx3,hJ,hlt⟩:=go W2 (.slice (some ⟨W.heap.size,0,.none⟩) 1 1) (f1.trans f2) n2 kx2 (fun b hb=>by simp only[qQb,oSi]at hb;omega);have rx3:rdO prog 164 w3 w0.heap.size 0=some (pt cb 0):=rd1 agg164 kx3 rfl;have rx3d:rdO prog 164 w3.drew w0.heap.size 0=some (pt cb 0):=rx3;simp -implicitDefEqProofs only[go_sem,Tryz.f94,jS,hW];refine qQo (v:=.slice (some ⟨W.heap.size,0,.none⟩) 1 1) (w':=W2) (by rw[← hW2];rfl) ?_;simp -implicitDefEqProofs only[go_sem,jR,rx,rf];refine qQo (v:=.slice (some ⟨(W2).heap.size,0,.none⟩) 1 1) (w':=w2) (by rw[e2];rfl) ?_;simp -implicitDefEqProofs only[go_sem,jR,jS,q3];refine qXd (fun j=>j == 2) [0,1,2,3,4] rfl (by kernel_rfl) (by kernel_rfl) ?_;simp -implicitDefEqProofs only[go_sem,jR,jL,gLa,gLz,gLs,rx3d];refine qQp pl156 ((first w3.drew ((ht.no f3).no (Fr.refl _ _).drew) ((hP.fr0 f3).fr0 (Fr.refl (fun _=>False) w3).drew).ck ((hP.fr0 f3).fr0 (Fr.refl (fun _=>False) w3).drew).vl hP.le).mono ?_);rintro _ w4 ⟨rfl,f4⟩;refine⟨fun _=>rX f4,?_⟩;have hcl:=fin W2 w2 w3 (.slice (some ⟨W.heap.size,0,.none⟩) 1 1) (f1.trans f2) n2 e2 f3 hlt hJ w4 ((Fr.refl _ _).drew.trans f4);simp -implicitDefEqProofs only[go_sem,jR,jL,gLa,gLz,gLs];refine qQp pl155 (hcl.mono ?_);rintro _ w5 ⟨lv,vals,kl,hT,f5⟩;refine⟨fun h=>(by cases h),?_⟩;have rl:rdO prog 37 w5 w2.heap.size 0=some lv:=rd1 agg37 kl rfl;simp -implicitDefEqProofs only[go_sem,jR,rl];exact⟨vals,hT,f5⟩
 | some val =>
  dsimp only[Option.isSome]at rf;simp -implicitDefEqProofs only[go_sem,Tryz.f94,jS,hW];refine qQo (v:=.slice (some ⟨W.heap.size,0,.none⟩) 1 1) (w':=W2) (by rw[← hW2];rfl) ?_;simp -implicitDefEqProofs only[go_sem,jR,jL,vY,rx,rf,rxd,rkd,rv2d];refine qQa pl154 ((leafText W2.drew hP.ck.lk ((hP2.vl).fr0 (Fr.refl (fun _=>False) W2).drew) (by have:=hP.le val rfl;show val.length≤_;omega)).mono ?_);rintro x6 w6 ⟨n6',f6⟩;have f26:No W2 w6:=(Fr.refl _ _).drew.trans f6;have f06:=(f1.trans f2).trans f26;have n6:NwB w0 w6 x6 (lowT k (some val)):=n6'.back (show w0.heap.size≤W2.heap.size by omega);have kx6:=f26.at kx2 id;obtain⟨w2,e2,w3,q3,f3,kx3,hJ,hlt⟩:=go w6 x6 f06 n6 kx6 (fun b hb h=>by have:=(n6'.lt hb).1;have:=f1.size;have:=f2.size;have:w0.heap.size<W2.drew.heap.size:=qQi kx2;omega);have rx3:rdO prog 164 w3 w0.heap.size 0=some (pt cb 0):=rd1 agg164 kx3 rfl;have rx3d:rdO prog 164 w3.drew w0.heap.size 0=some (pt cb 0):=rx3;obtain⟨xa,xc,hxs⟩:=(n6).slice;simp -implicitDefEqProofs only[go_sem];refine qQo (v:=.slice (some ⟨(w6).heap.size,0,.none⟩) 1 1) (w':=w2) (by rw[e2];subst hxs;rfl) ?_;simp -implicitDefEqProofs only[go_sem,jR,jS,q3];refine qXd (fun j=>j == 2) [0,1,2,3,4] rfl (by kernel_rfl) (by kernel_rfl) ?_;simp -implicitDefEqProofs only[go_sem,jR,jL,gLa,gLz,gLs,rx3d];refine qQp pl156 ((first w3.drew ((ht.no f3).no (Fr.refl _ _).drew) ((hP.fr0 f3).fr0 (Fr.refl (fun _=>False) w3).drew).ck ((hP.fr0 f3).fr0 (Fr.refl (fun _=>False) w3).drew).vl hP.le).mono ?_);rintro _ w4 ⟨rfl,f4⟩;refine⟨fun _=>rX f4,?_⟩;have hcl:=fin w6 w2 w3 x6 f06 n6 e2 f3 hlt hJ w4 ((Fr.refl _ _).drew.trans f4);simp -implicitDefEqProofs only[go_sem,jR,jL,gLa,gLz,gLs];refine qQp pl155 (hcl.mono ?_);rintro _ w5 ⟨lv,vals,kl,hT,f5⟩;refine⟨fun h=>(by cases h),?_⟩;have rl:rdO prog 37 w5 w2.heap.size 0=some lv:=rd1 agg37 kl rfl
  simp -implicitDefEqProofs only[go_sem,jR,rl];exact⟨vals,hT,f5⟩
end C
theorem by_str {bs:Bs}(h:By w v bs):(convert 25 9 v).run prog w=.ok (.string ⟨(bs.map fun x=>UInt8.ofNat x.toNat).toArray⟩) w:=by
 rcases Nat.eq_zero_or_pos bs.length with h0 | h0
 ·obtain⟨a,cap,rfl,_⟩:=h.slice
  have hb:=List.length_eq_zero_iff.1 h0;subst hb
  cases a with
  | none=>rfl
  | some ad=>rfl
 ·obtain⟨b,o,cap,e,_⟩:=h.pos h0
  subst e;obtain⟨_,a,c,e2,hc,hr⟩:=id h;cases e2;obtain⟨b2,o2,e3,hr⟩:=hr (by omega);cases e3
  obtain⟨cs,el,fz,hcs,hl⟩:∃ cs el fz,w.heap[b]?=some (.cells cs el fz)∧∀ i,i<bs.length→cs[o+i]?=(bs.map u8)[i]?:=by
   have h1:=hr 0 (by omega);have h2:(bs.map u8)[0]?=some (bs.map u8)[0]:=xO (by simp;omega);rw[h2]at h1
   obtain⟨cs,el,fz,hcs⟩:∃ cs el fz,w.heap[b]?=some (.cells cs el fz):=by
    unfold rc at h1;split at h1
    ·rename_i heq;exact⟨_,_,_,heq⟩
    ·cases h1
   exact⟨cs,el,fz,hcs,fun i hi=>by rw[← hr i (by omega),qXc hcs]⟩
  have hn:o+bs.length≤cs.size:=by
   have h1:=hl (bs.length - 1) (by omega);rw[xO (by simp;omega)]at h1;have:=(Array.getElem?_eq_some_iff.1 h1).1;omega
  have hx:=r_conv_str (P:=prog) (s:=25) (d:=9) (n:=bs.length) (cap:=cap) slc25 int5 str9 (l:=bs.map fun x=>(x.toNat:Int)) hcs hn (by
   apply List.ext_getElem?;intro i;rw[Array.getElem?_toList,Array.getElem?_extract];split
   ·rw[hl i (by omega)]
    simp only[List.map_map,List.getElem?_map]
    rfl
   ·rw[List.getElem?_eq_none (by simp;omega)])
  rw[hx,List.map_map]
  rfl
theorem str_eq (a b:Bs):(ByteArray.toList ⟨(a.map fun x=>UInt8.ofNat x.toNat).toArray⟩ == ByteArray.toList ⟨(b.map fun x=>UInt8.ofNat x.toNat).toArray⟩)=decide (a=b):=by
 rw[ByteArray.toList_eq,ByteArray.toList_eq];rw[Bool.eq_iff_iff,beq_iff_eq,decide_eq_true_iff];constructor
 ·intro h
  have h:a.map (fun x=>UInt8.ofNat x.toNat)=b.map (fun x=>UInt8.ofNat x.toNat):=h
  refine List.map_inj_right (fun x y e=>?_) |>.1 h
  have:=congrArg UInt8.toNat e;have h1:=x.isLt;have h2:=y.isLt;simp only[UInt8.toNat_ofNat']at this;apply BitVec.eq_of_toNat_eq;omega
 ·rintro rfl;rfl
theorem bequal (w0:World){av bv:Value}{a b:Bs}(ha:By w0 av a)(hb:By w0 bv b):Fn prog 49 #[av,bv] w0 fun v w'=>v=.bool (decide (a=b))∧w'=w0:=by
 refine go49 (by simp) ?_;simp -implicitDefEqProofs only[go_sem,jR,Tryz.f49];refine qQh ⟨_,_,by_str ha,?_⟩;simp -implicitDefEqProofs only[go_sem,jR];refine qQh ⟨_,_,by_str hb,?_⟩;simp -implicitDefEqProofs only[go_sem,jR];rw[str_eq];exact⟨rfl,trivial⟩
def ixI (w0:World)(kv:Value)(ks:List Bs)(k:Bs)(n:Nat)(vs:List Value)(w:World):Prop :=
 ∃ (i:Nat),vs=[kv,pt w0.heap.size 0,.int .i64 (ks.length:Nat),.int .i64 (i:Nat)]∧i≤ks.length∧n=ks.length - i∧k ∉ ks.take i∧No w0 w∧w.heap[w0.heap.size]?=some (.cells (bl k) 34 (0,0))
theorem kindex (w0:World)(hk:RdD w0 kv ks)(hkl:k.length=32)(hl:ks.length≤2 ^ 40) :
  Fn prog 114 #[kv,dg k] w0 fun v w'=>No w0 w'∧∃ z:Int,v=.int .i64 z∧(0≤z ↔ k ∈ ks):=by
 refine go114 (by simp) ?_;obtain⟨W,hW,f1,k1,s1⟩:=qQm w0 (bl k) 34;obtain⟨ka,kc,rfl,hkc⟩:=hk.slice;simp -implicitDefEqProofs only[go_sem,jR,gLa,gLz,Tryz.f114,jS,hW];refine loopD [0,3,7,8] (ixI w0 (.slice ka ks.length kc) ks k) ks.length ⟨0,rfl,by omega,rfl,by simp,f1,k1⟩ ?_;rintro _ vs w2 g ⟨i,rfl,hi,rfl,hno,f2,k2⟩
 by_cases hlt:i<ks.length
 ·have d4:=dTo ((i:Int)<((ks.length:Nat):Int))
  have hk4:=hk.fr0 f2;obtain⟨b,o,cap,he,_,_⟩:=hk4.pos (by omega);cases he;have q1:=hk4.get (P:=prog) agg34 sz34 hlt;have kl:=hk.1.getD hlt;have y1:=iBd (i:=i) (n:=ks.length);have rk:=rd_d agg34 sz34 k2 hkl;have q1d:rdO prog 34 w2.drew b (o+i*32)=some (dg (ks.getD i [])):=q1;have rkd:rdO prog 34 w2.drew w0.heap.size 0=some (dg k):=rk;have eq:=eqKey hkl kl;have c2:=iSu (i:=i);have htk:ks.take (i+1)=ks.take i++[ks.getD i []]:=by rw[tSg hlt,qQl _ hlt]
  by_cases he:k=ks.getD i []
  ·have hb:(k == ks.getD i [])=true:=by rw[beq_iff_eq];exact he
   simp -implicitDefEqProofs only[go_sem,jR,y1,and_self,iTn,q1d,rkd,eq,hb];exact⟨f2.drew,i,rfl,iff_of_true (by omega) (by rw[he,qQl _ hlt];exact List.getElem_mem _)⟩
  ·have hb:(k == ks.getD i [])=false:=by rw[bFn];exact he
   simp -implicitDefEqProofs only[go_sem,jR,y1,and_self,iTn,q1d,rkd,eq,hb,c2];exact⟨ks.length - (i+1),by omega,i+1,rfl,by omega,rfl,fun hm=>by rw[htk]at hm;rcases List.mem_append.1 hm with hm | hm;exact hno hm;exact he (by simpa using hm),f2.drew,k2⟩
 ·have d4:=dFo ((i:Int)<((ks.length:Nat):Int))
  obtain rfl:i=ks.length:=by omega
  rw[List.take_length]at hno;simp -implicitDefEqProofs only[go_sem,jR,d4];exact⟨f2,-1,rfl,iff_of_false (by omega) hno⟩
theorem kcontains (w0:World)(hk:RdD w0 kv ks)(hkl:k.length=32)(hl:ks.length≤2 ^ 40) :
  Fn prog 63 #[kv,dg k] w0 fun v w'=>No w0 w'∧v=.bool (decide (k ∈ ks)):=by
 refine go63 (by simp) ?_;obtain⟨W,hW,f1,k1,s1⟩:=qQm w0 (bl k) 34;obtain⟨ka,kc,rfl,hkc⟩:=hk.slice;have rk:=rd_d agg34 sz34 k1 hkl;simp -implicitDefEqProofs only[go_sem,jR,Tryz.f63,jS,hW,rk];refine qQa pl114 ((kindex W (hk.fr0 f1) hkl hl).mono ?_);rintro _ w2 ⟨f2,z,rfl,hz⟩
 have d:decide (z ≥ 0)=decide (k ∈ ks):=by
  by_cases h:k ∈ ks
  ·rw[decide_eq_true h,decide_eq_true (hz.2 h)]
  ·rw[decide_eq_false h,decide_eq_false (fun c=>h (hz.1 c))]
 simp -implicitDefEqProofs only[go_sem,d];exact⟨f1.trans f2,trivial⟩
theorem partW (w0:World)(ht:Tabs w0)(wd:Int){kv rawv:Value}{raw:Bs}(hk:RdD w0 kv ks)(hr:By w0 rawv raw)(hkl:k.length=32) :
  Fn prog 33 #[.int .i64 wd,kv,rawv,dg k] w0 (BsQ w0 (Wit.partP wd ks raw k)):=by
 refine go33 (by simp) ?_;obtain⟨W,hW,f1,k1,s1⟩:=qQm w0 (bl k) 34;simp -implicitDefEqProofs only[go_sem,jR,vY,Tryz.f33,jS,hW];refine qQa pl46 ((sorted W wd (hk.fr0 f1)).mono ?_);rintro r w2 ⟨f2,h2⟩;have f02:=f1.trans f2;unfold BsQ Wit.partP
 cases hs:Wit.sortW wd ks with
 | error e =>
  rw[hs]at h2;subst h2;have he:=sortW_err hs;simp -implicitDefEqProofs only[go_sem,jR,gLa,gLz,gLs,he];exact⟨f02,trivial⟩
 | ok l =>
  rw[hs]at h2;obtain⟨lv,rfl,n2⟩:=h2;obtain⟨hse,_,_⟩:=Wit.sortW_ok hs;obtain⟨asc,l32,hlen,hl64,hperm⟩:=Wit.sortE_ok hk.1 hse;simp -implicitDefEqProofs only[go_sem,jR,gLa,gLz,gLs,bNe];refine qQa pl62 ((rread w2 w2 (Fr.refl _ _) (ht.no f02) wd n2.rd (hr.fr0 f02) asc hl64).mono ?_);rintro r w3 ⟨f3,h3⟩;have f03:=f02.trans f3;have n3:=n2.fr0 f3;have r3:=rd_d agg34 sz34 ((f2.trans f3).at k1 id) hkl
  cases hf:Wit.form wd l raw with
  | error e =>
   rw[hf]at h3;subst h3;have he:(e != 0)=true:=by rw[bne,form_err hf];rfl
   simp -implicitDefEqProofs only[go_sem,jR,gLa,gLz,gLs,he];exact⟨f03,trivial⟩
  | ok o =>
   rw[hf]at h3
   cases o with
   | none =>
    subst h3;have hl0:l=[]:=Wit.underP_none (w:=wd) (root:=[]) (raw:=raw) (by unfold Wit.underP;rw[hf]);subst hl0;simp -implicitDefEqProofs only[go_sem,jR,gLa,gLz,gLs,bNe,r3];refine qQa pl63 ((kcontains w3 n3.rd hkl (by simp)).mono ?_);rintro _ w4 ⟨f4,rfl⟩;have d:decide (k ∈ ([]:List Bs))=false:=by simp
    simp -implicitDefEqProofs only[go_sem,jR,d];exact⟨f03.trans f4,trivial⟩
   | some t =>
    obtain⟨tv,rfl,hX⟩:=h3;obtain⟨u,tb,B,rfl,g1,g2,T3,nd,bd⟩:=hX.x (Fr.refl _ _);obtain⟨hok,hkeys,htop,_⟩:=Wit.form_ok asc l32 hf;simp -implicitDefEqProofs only[go_sem,jR,gLa,gLz,gLs,bNe,r3];refine qQa pl63 ((kcontains w3 n3.rd hkl (by omega)).mono ?_);rintro _ w4 ⟨f4,rfl⟩
    by_cases hm:k ∈ l
    ·have d:decide (k ∈ l)=true:=decide_eq_true hm
     have r4:=rd_d agg34 sz34 (((f2.trans f3).trans f4).at k1 id) hkl;simp -implicitDefEqProofs only[go_sem,jR,d,r4];refine qQa pl51 ((single u w4 (ht.no (f03.trans f4)) wd (T3.fr0 f4) hok htop (g2.trans f4) (by rw[hkeys];exact hm)).mono ?_);rintro v w5 ⟨n5,f5⟩;rw[if_pos hm];simp -implicitDefEqProofs only[go_sem,jR];exact⟨(f03.trans f4).trans f5,v,rfl,n5.back (f03.trans f4).size⟩
    ·have d:decide (k ∈ l)=false:=decide_eq_false hm
     rw[if_neg hm];simp -implicitDefEqProofs only[go_sem,jR,d];exact⟨f03.trans f4,trivial⟩
end Go.V
