/- Helpers. -/
import Derived.Test.YtppmpdjlmgfdkaaGreatDoorM20
import Derived.Test.YtppmpdjlmgfdkaaGreatDoorM18
import Derived.Test.YtppmpdjlmgfdkaaGreatDoorM17
set_option linter.all false
set_option maxRecDepth 100000
set_option maxHeartbeats 8000000
open Array renaming all_toList->kJ
open Bool renaming not_true->y8,not_false->xH
open Int renaming toNat_zero->vI,toNat_one->kM,reduceToNat->jN
open List renaming length_map->zE,replicate->zG,getElem?_append_right->jR,append_assoc->zU,getElem?_eq_getElem->zZ,length_filter_le->kP,getElem?_append_left->z8,take_of_length_le->zB,nil_append->zA,getElem?_drop->vL,size_toArray->kG,drop_zero->jA,drop_of_length_le->zS,getElem?_toArray->zJ,length->kT
open Nat renaming reduceEqDiff->j7,zero_add->jV,reduceBEq->yX,mul_one->j8,reduceAdd->vS,zero_mul->j9,le_refl->xC,add_zero->yK,le_trans->kC,lt_irrefl->yZ,sub_zero->yQ
open Go.Value renaming cells->yU
namespace Go.V
open Go.Proofs.Tryz Go.V.Tryz
open Go.Proofs Sha
variable {d ky ls raw rs s:Bs} {b i n p:Nat} {v vv:Value} {w:World}
section
namespace R
open Aud A
theorem kid_ents {o:PT}(A:o.Wf n):(kid n false o).ents=o.ents.filter (fun x=>!kbit x.1 n)/\(kid n true o).ents=o.ents.filter (fun x=>kbit x.1 n):=by
 cases o with
 | nil=>exact⟨rfl,rfl⟩
 | leaf p k v =>
  show (if kbit k n=false then PT.leaf p k v else PT.nil).ents=_/\(if kbit k n=true then PT.leaf p k v else PT.nil).ents=_
  cases h:kbit k n <;> simp[PT.ents,h]
 | br p l r=>exact⟨(filt_l A).symm,(filt_r A).symm⟩
theorem bldBr5 (l r lc rc:Nat):bldO prog 78 [(0,.int .i64 2),(1,.int .i64 (l:Nat)),(2,.int .i64 (r:Nat)),(3,.int .i64 (lc:Nat)),(4,.int .i64 (rc:Nat))]=some (.agg (ndC 2 l r lc rc z32 z32 z32 nil0).toArray):=by
 rw[qJp zero78 ndPlaces (c:=nd0.toArray) x9];have s:∀ (i:Nat) (a r:List Value) (u v:Value) (rest:List (Nat × Value)),ndPs[i]?=some (i,1)->a.length=i->one v=true->Instr.fill (fun i=>ndPs[i]?) (a++u::r).toArray ((i,v)::rest)=Instr.fill (fun i=>ndPs[i]?) (a++v::r).toArray rest:=fun i a r u v rest B D E=>qJb B D E;have H:=s 0 [] (nd0.drop 1) (.int .i64 0) (.int .i64 2) [(1,.int .i64 (l:Nat)),(2,.int .i64 (r:Nat)),(3,.int .i64 (lc:Nat)),(4,.int .i64 (rc:Nat))] rfl rfl rfl;have I:=s 1 [.int .i64 2] (nd0.drop 2) (.int .i64 0) (.int .i64 (l:Nat)) [(2,.int .i64 (r:Nat)),(3,.int .i64 (lc:Nat)),(4,.int .i64 (rc:Nat))] rfl rfl rfl;have J:=s 2 [.int .i64 2,.int .i64 (l:Nat)] (nd0.drop 3) (.int .i64 0) (.int .i64 (r:Nat)) [(3,.int .i64 (lc:Nat)),(4,.int .i64 (rc:Nat))] rfl rfl rfl;have L:=s 3 [.int .i64 2,.int .i64 (l:Nat),.int .i64 (r:Nat)] (nd0.drop 4) (.int .i64 0) (.int .i64 (lc:Nat)) [(4,.int .i64 (rc:Nat))] rfl rfl rfl;have A:=s 4 [.int .i64 2,.int .i64 (l:Nat),.int .i64 (r:Nat),.int .i64 (lc:Nat)] (nd0.drop 5) (.int .i64 0) (.int .i64 (rc:Nat)) [] rfl rfl rfl;rw[qXq]at A;exact congrArg (Option.map Value.agg) ((((H.trans I).trans J).trans L).trans A)
theorem ndC_L {k l r lc rc:Nat}:ndC k l r lc rc ls rs ky vv=[Value.int .i64 (k:Nat),.int .i64 (l:Nat),.int .i64 (r:Nat),.int .i64 (lc:Nat),.int .i64 (rc:Nat)]++ls.map u8++(rs.map u8++ky.map u8++[vv]):=by simp only[ndC,zU]
theorem ndC_R {k l r lc rc:Nat}:ndC k l r lc rc ls rs ky vv=([Value.int .i64 (k:Nat),.int .i64 (l:Nat),.int .i64 (r:Nat),.int .i64 (lc:Nat),.int .i64 (rc:Nat)]++ls.map u8)++rs.map u8++(ky.map u8++[vv]):=by simp only[ndC,zU]
theorem nd_putL {b k l r lc rc:Nat}(h:w.heap[b]?=some (.cells (ndC k l r lc rc ls rs ky vv).toArray 78 (0,0)))(A:ls.length=32)(B:d.length=32):wrO prog 75 w b 5 (dg d)=some (put w b (.cells (ndC k l r lc rc d rs ky vv).toArray 78 (0,0))):=by
 rw[ndC_L]at h;have:=wr_mid (P:=prog) (t:=75) (vs:=d.map u8) (by rw[zE,A];exact sz75) (by simp[A,B]) (qXy d) h (o:=5) rfl;rw[<- ndC_L]at this;exact this
theorem nd_putR {b k l r lc rc:Nat}(h:w.heap[b]?=some (.cells (ndC k l r lc rc ls rs ky vv).toArray 78 (0,0)))(A:ls.length=32)(B:rs.length=32)(D:d.length=32):wrO prog 75 w b 37 (dg d)=some (put w b (.cells (ndC k l r lc rc ls d ky vv).toArray 78 (0,0))):=by
 rw[ndC_R]at h;have:=wr_mid (P:=prog) (t:=75) (vs:=d.map u8) (by rw[zE,B];exact sz75) (by simp[B,D]) (qXy d) h (o:=37) (by simp[A]);rw[<- ndC_R]at this;exact this
section
variable {u w0:World} {sb wd:Nat} {esv:Value} {T:PT} {oM oS:Value} {fresh:Nat}
def LB1 (u w0 w:World)(sb wd next:Nat)(esv:Value)(H:Nat)(oM oS:Value)(n p:Nat)(mv I iv J:Value)(k D:Bs)(L:List Nd)(ss:List Sb)(A:Ev)(B:World):Prop :=
 A 0=pt sb 0/\A 1=mv/\A 2=I/\A 3=.int .i64 (n:Nat)/\A 9=pt w.heap.size 0/\A 10=pt (w.heap.size+1) 0/\A 18=iv/\A 19=J/\A 20=.int .i64 (p:Nat)/\(∃ E,A 21=pt E 0/\B.heap[E]?=some (.cells (bl D) 75 (0,0))) /\
 B.heap[w.heap.size]?=some (.cells (bl (zG 32 0)) 75 (0,0))/\B.heap[w.heap.size+1]?=some (.cells (bl k) 76 (0,0))/\Fr (StF w0 w) w B/\SpM u w0 B sb wd next esv H oM oS L ss
def LB2 (u w0 w:World)(sb wd next:Nat)(esv:Value)(J:Nat)(oM oS:Value)(n p q:Nat)(L M:Value)(k D E:Bs)(N:List Nd)(ss:List Sb)(A:Ev)(B:World):Prop :=
 A 0=pt sb 0/\A 2=L/\A 3=.int .i64 (n:Nat)/\A 9=pt w.heap.size 0/\A 10=pt (w.heap.size+1) 0/\A 19=M/\A 20=.int .i64 (p:Nat)/\A 22=.int .i64 (q:Nat)/\(∃ H,A 21=pt H 0/\B.heap[H]?=some (.cells (bl D) 75 (0,0)))/\(∃ I,A 23=pt I 0/\B.heap[I]?=some (.cells (bl E) 75 (0,0))) /\
 B.heap[w.heap.size]?=some (.cells (bl (zG 32 0)) 75 (0,0))/\B.heap[w.heap.size+1]?=some (.cells (bl k) 76 (0,0))/\Fr (StF w0 w) w B/\SpM u w0 B sb wd next esv J oM oS N ss
theorem layBr (hx:LayX u w0 sb wd esv T oM oS fresh)(d7:n<256){o:PT}{A:List En}{next m1 O:Nat}{l r:PT}(ho:o.Wf n)(h4:Map n o.ents)(m8:o.ents.length<=2 ^ 40)(h2:2<=A.length)(m9:A.length<=2 ^ 40)(hM:Map n A)
  (hL:LayC u w0 sb wd esv T oM oS fresh (n+1) (kid n false o).ents (A.filter fun x=>!kbit x.1 n) next l m1) (hR:LayC u w0 sb wd esv T oM oS fresh (n+1) (kid n true o).ents (A.filter fun x=>kbit x.1 n) m1 r O)
  (s3:m1=next+(news (dgT wd) fresh (n+1) l).length) (s4:O=m1+(news (dgT wd) fresh (n+1) r).length) (s5:fresh<=next) (s6:O<=2 ^ 38) (n0:l.page<2 ^ 50) (n3:r.page<2 ^ 50)
  (h5:l.ents=A.filter fun x=>!kbit x.1 n) (h6:r.ents=A.filter fun x=>kbit x.1 n) (n4:l.Wf (n+1)) (n5:r.Wf (n+1)) :
  LayRest u w0 sb wd esv T oM oS fresh n o.ents A next (.br O l r) (O+1):=by
 intro w mv tv ns ss f0 hm ht h7 n6 R w5 ⟨U,e1,e2,W,e9,B,kr,kk,F5,h8⟩;have f5:=StF.no f0 F5;have h9:(PT.br O l r).pgs.length=l.pgs.length+r.pgs.length+1:=by show (O::(l.pgs++r.pgs)).length=_;rw[List.length_cons,lAp]
 rw[h9]at n6;obtain⟨ma,mc,rfl,f6⟩:=hm.slice;obtain⟨ta,tc,rfl,f7⟩:=ht.slice;obtain⟨d8,n7⟩:=kid_ents ho;have k0:=h4.split d7;have g0:=hM.split d7;have k1:=congrArg kT k0;have k2:=congrArg kT g0;rw[lAp]at k1 k2
 have a5:(headK A).length=32:=by
  cases A with
  | nil=>simp at h2
  | cons e L=>exact hM.2 e sm
 have s7:=subs_len (wd:=wd) (t:=l) (n:=n+1);have n8:=subs_len (wd:=wd) (t:=r) (n:=n+1);have a3:(dgT wd (256 - (n+1)) l).length=32:=qJd _ _ _;have a4:(dgT wd (256 - (n+1)) r).length=32:=qJd _ _ _;have e8:=said_len (wd:Int) (255 - n) l;have k3:=said_len (wd:Int) (255 - n) r;have k4:l.page=0->said (dgT wd) (255 - n) l=z32:=fun h=>by rw[l.page_nil n4 h];rfl
 have f1:r.page=0->said (dgT wd) (255 - n) r=z32:=fun h=>by rw[r.page_nil n5 h];rfl
 have k5:l.page≠0->said (dgT wd) (255 - n) l=dgT wd (256 - (n+1)) l:=fun h=>by
  rw[said_of (fun e=>h (by rw[e];rfl)),show 256 - (n+1)=255 - n by omega]
 have k6:r.page≠0->said (dgT wd) (255 - n) r=dgT wd (256 - (n+1)) r:=fun h=>by
  rw[said_of (fun e=>h (by rw[e];rfl)),show 256 - (n+1)=255 - n by omega]
 have n9:news (dgT wd) fresh n (.br O l r)=news (dgT wd) fresh (n+1) l++news (dgT wd) fresh (n+1) r++[.br l.page r.page (A.filter fun x=>!kbit x.1 n).length (A.filter fun x=>kbit x.1 n).length (said (dgT wd) (255 - n) l) (said (dgT wd) (255 - n) r)]:=by
  conv=>lhs;unfold news
  rw[if_pos x8];unfold ndOf;rw[h5,h6]
 have p0:subsL wd n (.br O l r)=subsL wd (n+1) l++subsL wd (n+1) r++[⟨n,O,headK A,qXk wd (dgT wd (256 - (n+1)) l) (dgT wd (256 - (n+1)) r)⟩]:=by
  show subsL wd (n+1) l++subsL wd (n+1) r++[Sb.mk n O (headK (l.ents++r.ents)) (qXk wd (dgT wd (256 - n - 1) l) (dgT wd (256 - n - 1) r))]=_;rw[h5,h6,g0,show 256 - (n+1)=256 - n - 1 by omega]
 have p5:dgT wd (256 - n) (.br O l r)=qXk wd (dgT wd (256 - (n+1)) l) (dgT wd (256 - (n+1)) r):=by
  show qXk wd (dgT wd (256 - n - 1) l) (dgT wd (256 - n - 1) r)=_;rw[show 256 - (n+1)=256 - n - 1 by omega]
 have g3:∀ (x:World) (L:List En) (a:Option Addr) (c:Nat),EnR x (.slice a L.length c) L->L.length<=c->(L.filter (fun x=>!kbit x.1 n)++L.filter fun x=>kbit x.1 n)=L->EnR x (V.cutV 33 a c 0 (L.filter fun x=>!kbit x.1 n).length) (L.filter fun x=>!kbit x.1 n)/\EnR x (V.cutV 33 a c (L.filter fun x=>!kbit x.1 n).length L.length) (L.filter fun x=>kbit x.1 n):=fun _ L a c h hc hs=>by
  have k7:=congrArg kT hs;rw[lAp]at k7;have g1:=h.cutV (l:=0) (m:=(L.filter fun x=>!kbit x.1 n).length) x8 x8 rfl;have g2:=h.cutV (l:=(L.filter fun x=>!kbit x.1 n).length) (m:=L.length) x8 x8 rfl
  have e1:((L.drop 0).take ((L.filter fun x=>!kbit x.1 n).length - 0))=L.filter fun x=>!kbit x.1 n:=by
   rw[jA,yQ]
   conv=>lhs;rw[<- hs]
   rw[List.take_append_of_le_length (by rw[hs];exact xC _)];rw[hs,List.take_length]
  have e2:((L.drop (L.filter fun x=>!kbit x.1 n).length).take (L.length - (L.filter fun x=>!kbit x.1 n).length))=L.filter fun x=>kbit x.1 n:=by
   have:L.drop (L.filter fun x=>!kbit x.1 n).length=L.filter fun x=>kbit x.1 n:=by
    conv=>lhs;arg 2;rw[<- hs]
    rw[List.drop_append_of_le_length (xC _),List.drop_length,zA]
   rw[this,zB x8]
  rw[e1]at g1;rw[e2]at g2;exact⟨g1,g2⟩
 obtain⟨g4,d9⟩:=g3 w0 o.ents ma mc hm f6 k0;obtain⟨l0,l1⟩:=g3 u A ta tc ht f7 g0;rw[<- d8]at g4;rw[<- n7]at d9;clear g3;have l2:=fun {y:World} (f:No w0 y)=>split y (hm.fr0 f) h4 d7 m8;have p6:=fun {y:World} (f:No w0 y)=>split y (ht.fr0 (hx.hu.trans f)) hM d7 m9;rw[<- d8]at l2;have e4:=fun {y:World} {a b:Value} {c8:List Nd} {c9:List Sb} (h1:SpM u w0 y sb wd next esv T.page oM oS c8 c9) (h2:No w0 y)=>hL y a b c8 c9 h1 h2;have e5:=fun {y:World} {a b:Value} {c8:List Nd} {c9:List Sb} (h1:SpM u w0 y sb wd m1 esv T.page oM oS c8 c9) (h2:No w0 y)=>hR y a b c8 c9 h1 h2;unfold LayPost at e4 e5;show LyD (fun v w'=>v=.tuple #[vi O,dg (dgT wd (256 - n) (.br O l r))]/\Fr (StF w0 w) w w'/\SpM u w0 w' sb wd (O+1) esv T.page oM oS (ns++news (dgT wd) fresh n (.br O l r)) (ss++subsL wd n (.br O l r))) R w5;have i1:(kid n false o).ents.length<=o.ents.length:=by rw[d8];omega
 have j1:(A.filter fun x=>!kbit x.1 n).length<=A.length:=x8
 have p7:(A.filter fun x=>kbit x.1 n).length=A.length - (A.filter fun x=>!kbit x.1 n).length:=x8
 rw[n9,p0,p5];have a6:(qXk wd (dgT wd (256 - (n+1)) l) (dgT wd (256 - (n+1)) r)).length=32:=qXp _ _ _;have l3:=fun (y:World) (hT:Tabs y)=>branch y hT (wd:Int) a3 a4;generalize qXk wd (dgT wd (256 - (n+1)) l) (dgT wd (256 - (n+1)) r)=D at *;generalize dgT wd (256 - (n+1)) l=DL at *;generalize dgT wd (256 - (n+1)) r=DR at *;generalize said (dgT wd) (255 - n) l=SL at *;generalize said (dgT wd) (255 - n) r=SR at *;generalize news (dgT wd) fresh (n+1) l=NL at *;generalize news (dgT wd) fresh (n+1) r=NR at *;generalize subsL wd (n+1) l=UL at *;generalize subsL wd (n+1) r=UR at *;generalize hI:(kid n false o).ents.length=I at *;rw[<- d8,hI]at d9;generalize hJ:(A.filter fun x=>!kbit x.1 n).length=J at *;generalize headK A=k at *;have d1:(((A.length:Nat):Int) == 1)=false:=(nateq A.length 1).trans (decide_eq_false x8);have c3:=iSu (i:=n);have p1:=slc_hi (P:=prog) slc84 arr84 sz83 (a:=ma) (n:=o.ents.length) (cap:=mc) (l:=I) x8 f6;have p2:=slc_lo (P:=prog) slc84 arr84 sz83 (a:=ma) (n:=o.ents.length) (cap:=mc) (l:=I) x8 f6;have p3:=slc_hi (P:=prog) slc84 arr84 sz83 (a:=ta) (n:=A.length) (cap:=tc) (l:=J) x8 f7;have p4:=slc_lo (P:=prog) slc84 arr84 sz83 (a:=ta) (n:=A.length) (cap:=tc) (l:=J) x8 f7;unfold LyD;simp only[go_sem,j7,Tryz.f97,bodyOf,tailC,e1,e2,W,d1];refine qQa pl143 ((l2 f5).mono ?_);rintro _ wa ⟨rfl,fa⟩;have c5:=f5.trans fa;simp only[go_sem,j7,e2,W];refine qQa pl143 ((p6 c5).mono ?_);rintro _ wb ⟨rfl,fb⟩;have d0:=fa.trans fb;have a8:=c5.trans fb;have a9:=d0.at kr id;have b0:=d0.at kk id;have Fb:=StF.trans F5 (StF.of w0 d0);have b1:=h8.fr0 d0;simp only[go_sem];refine qXg (Q:=fun x R w6=>x=.normal/\LB1 u w0 w sb wd m1 esv T.page oM oS n l.page (.slice ma o.ents.length mc) (.slice ta A.length tc) (.int .i64 (I:Nat)) (.int .i64 (J:Nat)) k DL (ns++NL) (ss++UL) R w6) _ (fun x R w6=>?_) ?_
 rotate_left
 ·refine qXj (fun j=>j == 13) (.one 0 (.one 1 (.one 2 (.one 3 (.one 4 (.one 5 (.one 6 (.one 7 (.one 8 (.two 9 (.row [10,11,12,13,14,15]) 13 (.row [9,10,11,12,14,15])))))))))))  rfl x9 x9 ?_
  have fd:No wb wb.drew:=(Fr.refl _ _).drew;generalize wb.drew=wc at *;have d2:=a8.trans fd;have b3:=fd.at a9 id;have b4:=fd.at b0 id;have Fc:=StF.trans Fb (StF.of w0 fd);have d3:=b1.fr0 fd;simp only[go_sem,j7,yX,yU,bSe,qQk,OT.row,U,e1,e2,W,p1,p3,c3];constructor
  ·refine qQc pl97 ((e4 d3 d2 g4 l0 h7 x8).mono ?_);rintro _ M ⟨rfl,Fd,b5⟩
   refine⟨(fun h=>by cases h),?_⟩;obtain⟨We,qe,ke,N,se⟩:=allocD M (ty:=75) sz75 a3;have ee:Ext M (M.alloc (.cells (bl (zG 32 0)) 75)):=Ext.alloc _ _;simp only[go_sem,j7,yX,yU,bSe,qQk,qe,ee,implies_true,true_and]
   refine⟨?_,?_,?_,?_,?_,?_,?_,?_,?_,⟨M.heap.size,?_,ke⟩,N.at (StF.at Fd b3 j0) id,N.at (StF.at Fd b4 j0) id,StF.trans (StF.trans Fc Fd) (StF.of w0 N),b5.fr0 N⟩ <;> simp only[go_sem,j7,U,e1,e2,W,e9,B]
  ·obtain⟨We,g5,N,ke,se⟩:=qQl wc (bl (zG 32 0)) 75
   have ee:=N.ext;simp only[go_sem,g5];refine qQc pl97 ((e4 (d3.fr0 N) (d2.trans N) g4 l0 h7 x8).mono ?_);rintro _ M ⟨rfl,Fd,b5⟩;refine⟨(fun h=>by cases h),?_⟩;have b6:=StF.at Fd ke j0;have qe:=wr_d sz75 b6 zl32 a3;have g6:=qQd (o:=.cells (bl DL) 75 (0,0)) b6;have h1:=qQi b3;have h2:=qQi b4;have p8:=f0.size;have Fe:Fr (StF w0 w) w (put M wc.heap.size (.cells (bl DL) 75 (0,0))):=(StF.trans (StF.trans Fc (StF.of w0 N)) Fd).put (b:=wc.heap.size) _ fun h=>by omega
   simp only[go_sem,j7,yX,qe]
   refine⟨?_,?_,?_,?_,?_,?_,?_,?_,?_,⟨wc.heap.size,?_,g6⟩,qQh (b:=wc.heap.size) (StF.at Fd (N.at b3 id) j0) x8,qQh (b:=wc.heap.size) (StF.at Fd (N.at b4 id) j0) x8,Fe,b5.put' b6 j0 _⟩ <;> simp only[go_sem,j7,U,e1,e2,W,e9,B]
 clear U e1 e2 W e9 B a9 b0 Fb b1 d0 a8 fa fb c5 kr kk F5 h8 f5;rintro⟨rfl,U,e1,e2,W,e9,B,l4,b7,c6,⟨lb,E,d4⟩,a9,b0,Fb,b1⟩;rw[thenQ_normal];have a8:=StF.no f0 Fb;simp only[go_sem];refine qXg (Q:=fun x R H=>x=.normal/\LB2 u w0 w sb wd O esv T.page oM oS n l.page r.page (.slice ta A.length tc) (.int .i64 (J:Nat)) k DL DR (ns++NL++NR) (ss++UL++UR) R H) _ (fun x R H=>?_) ?_
 rotate_left
 ·refine qXj (fun j=>j == 13) (.one 0 (.one 1 (.one 2 (.one 3 (.one 4 (.one 5 (.one 6 (.one 7 (.one 8 (.two 9 (.row [10,11,12,13,14,15]) 13 (.row [9,10,11,12,14,15])))))))))))  rfl x9 x9 ?_
  have fd:No w6 w6.drew:=(Fr.refl _ _).drew;generalize w6.drew=wc at *;have d2:=a8.trans fd;have b3:=fd.at a9 id;have b4:=fd.at b0 id;have g7:=fd.at d4 id;have Fc:=StF.trans Fb (StF.of w0 fd);have d3:=b1.fr0 fd;have f2:(ns++NL).length<=m1:=by rw[lAp];omega
  have f3:(ss++UL).length+r.pgs.length+T.pgs.length<=2 ^ 38:=by rw[lAp];omega
  simp only[go_sem,j7,yX,yU,bSe,qQk,OT.row,U,e1,e2,W,l4,b7,p2,p4,c3];constructor
  ·refine qQc pl97 ((e5 d3 d2 d9 l1 f2 f3).mono ?_);rintro _ M ⟨rfl,Fd,b5⟩
   refine⟨(fun h=>by cases h),?_⟩;obtain⟨We,qe,ke,N,se⟩:=allocD M (ty:=75) sz75 a4;have ee:Ext M (M.alloc (.cells (bl (zG 32 0)) 75)):=Ext.alloc _ _;simp only[go_sem,j7,yX,yU,bSe,qQk,qe,ee,implies_true,true_and]
   refine⟨?_,?_,?_,?_,?_,?_,?_,?_,⟨lb,?_,N.at (StF.at Fd g7 j0) id⟩,⟨M.heap.size,?_,ke⟩,N.at (StF.at Fd b3 j0) id,N.at (StF.at Fd b4 j0) id,StF.trans (StF.trans Fc Fd) (StF.of w0 N),b5.fr0 N⟩ <;> simp only[go_sem,j7,U,e2,W,e9,B,b7,c6,E]
  ·obtain⟨We,g5,N,ke,se⟩:=qQl wc (bl (zG 32 0)) 75
   have ee:=N.ext;simp only[go_sem,g5];refine qQc pl97 ((e5 (d3.fr0 N) (d2.trans N) d9 l1 f2 f3).mono ?_);rintro _ M ⟨rfl,Fd,b5⟩;refine⟨(fun h=>by cases h),?_⟩;have b6:=StF.at Fd ke j0;have qe:=wr_d sz75 b6 zl32 a4;have g6:=qQd (o:=.cells (bl DR) 75 (0,0)) b6;have h1:=qQi b3;have h2:=qQi b4;have h3:=qQi g7;have p8:=f0.size;have Fe:Fr (StF w0 w) w (put M wc.heap.size (.cells (bl DR) 75 (0,0))):=(StF.trans (StF.trans Fc (StF.of w0 N)) Fd).put (b:=wc.heap.size) _ fun h=>by omega
   simp only[go_sem,j7,yX,qe]
   refine⟨?_,?_,?_,?_,?_,?_,?_,?_,⟨lb,?_,qQh (b:=wc.heap.size) (StF.at Fd (N.at g7 id) j0) x8⟩,⟨wc.heap.size,?_,g6⟩,qQh (b:=wc.heap.size) (StF.at Fd (N.at b3 id) j0) x8,qQh (b:=wc.heap.size) (StF.at Fd (N.at b4 id) j0) x8,Fe,b5.put' b6 j0 _⟩ <;> simp only[go_sem,j7,U,e2,W,e9,B,b7,c6,E]
 clear U e1 e2 W e9 B l4 b7 c6 E d4 a9 b0 Fb b1 a8;clear p1 p2 p3 p4 e4 e5 hL hR;rintro⟨rfl,U,e2,W,e9,B,b7,c6,e6,⟨lb,E,d4⟩,⟨rb,Y,f4⟩,a9,b0,Fb,b1⟩;rw[thenQ_normal];have a8:=StF.no f0 Fb;refine den_cutR 3 (fun R w8=>R 0=pt sb 0/\R 3=.int .i64 (n:Nat)/\R 9=pt w.heap.size 0/\R 10=pt (w.heap.size+1) 0/\R 21=pt lb 0/\R 23=pt rb 0/\No H w8/\∃ nb,R 24=pt nb 0/\w8.heap[nb]?=some (.cells (ndA (.br l.page r.page J (A.filter fun x=>kbit x.1 n).length SL SR) nil0).toArray 78 (0,0))) ?_ ?_
 ·have bn:=bldBr5 l.page r.page J (A.filter fun x=>kbit x.1 n).length
  have c4:IntKind.i64.wrap (((A.length:Nat):Int) - (J:Int))=(((A.filter fun x=>kbit x.1 n).length:Nat):Int):=by rw[p7];exact qXv x8 x8
  have cl:∀ a b:Bs,a.length=32->b.length=32->(ndC 2 l.page r.page J (A.filter fun x=>kbit x.1 n).length a b z32 nil0).toArray.size=102:=fun a b h1 h2=>by rw[kG];exact qQu h1 h2 z32l _
  have zn:nd0.toArray.size=102:=rfl;obtain⟨W8,p9,f8,k8,s8⟩:=qQl H nd0.toArray 78;have q8:wrO prog 78 W8 H.heap.size 0 (.agg (ndC 2 l.page r.page J (A.filter fun x=>kbit x.1 n).length z32 z32 z32 nil0).toArray)=some (put W8 H.heap.size (.cells (ndC 2 l.page r.page J (A.filter fun x=>kbit x.1 n).length z32 z32 z32 nil0).toArray 78 (0,0))):=qQo (by rw[cl z32 z32 z32l z32l];exact sz78) k8 (by rw[zn,cl z32 z32 z32l z32l]) (by rw[<- kJ];exact qXz _ _ _ _ _ _ _ _ rfl);have k9:=qQd (o:=.cells (ndC 2 l.page r.page J (A.filter fun x=>kbit x.1 n).length z32 z32 z32 nil0).toArray 78 (0,0)) k8;have f9:No H (put W8 H.heap.size (.cells (ndC 2 l.page r.page J (A.filter fun x=>kbit x.1 n).length z32 z32 z32 nil0).toArray 78 (0,0))):=f8.put (b:=H.heap.size) _ fun h=>by omega
  have hz:=qKk;simp only[go_sem,j7,yU,qQk,e2,b7,c6,e6,c4,bn,hz,p9,q8];generalize put W8 H.heap.size (.cells (ndC 2 l.page r.page J (A.filter fun x=>kbit x.1 n).length z32 z32 z32 nil0).toArray 78 (0,0))=w9 at *;have b8:=natne l.page 0;have a0:=natne r.page 0;have rl:∀ {y:World},No H y->rdO prog 75 y lb 0=some (dg DL):=fun f=>rd_d agg75 sz75 (f.at d4 id) a3;have rr:∀ {y:World},No H y->rdO prog 75 y rb 0=some (dg DR):=fun f=>rd_d agg75 sz75 (f.at f4 id) a4
  have c0:∀ (y:World) (ls:Bs), ls.length=32->No H y->y.heap[H.heap.size]?=some (.cells (ndC 2 l.page r.page J (A.filter fun x=>kbit x.1 n).length ls z32 z32 nil0).toArray 78 (0, 0))->r.page≠0 ->
    wrO prog 75 y H.heap.size 37 (dg DR)=some (put y H.heap.size (.cells (ndC 2 l.page r.page J (A.filter fun x=>kbit x.1 n).length ls SR z32 nil0).toArray 78 (0,0)))/\No H (put y H.heap.size (.cells (ndC 2 l.page r.page J (A.filter fun x=>kbit x.1 n).length ls SR z32 nil0).toArray 78 (0,0))) /\
    (put y H.heap.size (.cells (ndC 2 l.page r.page J (A.filter fun x=>kbit x.1 n).length ls SR z32 nil0).toArray 78 (0,0))).heap[H.heap.size]?=some (.cells (ndC 2 l.page r.page J (A.filter fun x=>kbit x.1 n).length ls SR z32 nil0).toArray 78 (0,0)):=fun y ls q0 f h hne=>by
   rw[k6 hne];exact⟨nd_putR h q0 z32l a4,f.put (b:=H.heap.size) _ fun h=>by omega,qQd h⟩
  by_cases e7:l.page=0
  ·have l5:=k4 e7
   have b8:((l.page:Int) != 0)=false:=by rw[e7];rfl
   by_cases a7:r.page=0
   ·have g8:=f1 a7
    have a0:((r.page:Int) != 0)=false:=by rw[a7];rfl
    simp only[go_sem,b8,a0]
    refine qZv ⟨?_,?_,?_,?_,?_,?_,f9,H.heap.size,?_,by rw[l5,g8];exact k9⟩ <;> simp only[go_sem,j7,U,W,e9,B,E,Y]
   ·have a0:((r.page:Int) != 0)=true:=a0.trans (decide_eq_true a7)
    obtain⟨q,fq,kq⟩:=c0 w9 z32 z32l f9 k9 a7;have q1:=rr f9;simp only[go_sem,j7,jV,Y,b8,a0,q1,q]
    refine qZv ⟨?_,?_,?_,?_,?_,?_,fq,H.heap.size,?_,by rw[l5];exact kq⟩ <;> simp only[go_sem,j7,U,W,e9,B,E,Y]
  ·have b8:((l.page:Int) != 0)=true:=b8.trans (decide_eq_true e7)
   have g9:=rl f9;have ql:=nd_putL k9 z32l a3;rw[<- k5 e7]at ql g9;have kl:=qQd (o:=.cells (ndC 2 l.page r.page J (A.filter fun x=>kbit x.1 n).length SL z32 z32 nil0).toArray 78 (0,0)) k9;have fl:No H (put w9 H.heap.size (.cells (ndC 2 l.page r.page J (A.filter fun x=>kbit x.1 n).length SL z32 z32 nil0).toArray 78 (0,0))):=f9.put (b:=H.heap.size) _ fun h=>by omega
   by_cases a7:r.page=0
   ·have g8:=f1 a7
    have a0:((r.page:Int) != 0)=false:=by rw[a7];rfl
    simp only[go_sem,j7,jV,e6,E,b8,a0,g9,ql]
    refine qZv ⟨?_,?_,?_,?_,?_,?_,fl,H.heap.size,?_,by rw[g8];exact kl⟩ <;> simp only[go_sem,j7,U,W,e9,B,E,Y]
   ·have a0:((r.page:Int) != 0)=true:=a0.trans (decide_eq_true a7)
    simp only[go_sem,j7,jV,e6,E,b8,a0,g9,ql];generalize put w9 H.heap.size (.cells (ndC 2 l.page r.page J (A.filter fun x=>kbit x.1 n).length SL z32 z32 nil0).toArray 78 (0,0))=wa at *;obtain⟨q,fq,kq⟩:=c0 wa SL e8 fl kl a7;have q2:=rr fl;simp only[go_sem,j7,jV,Y,q2,q]
    refine qZv ⟨?_,?_,?_,?_,?_,?_,fq,H.heap.size,?_,kq⟩ <;> simp only[go_sem,j7,U,W,e9,B,E,Y]
 clear U e2 W e9 B b7 c6 E e6 Y;rintro R w8 ⟨U,W,e9,B,E,Y,b9,nb,l6,q3⟩;have q4:=b9.at a9 id;have q5:=b9.at b0 id;have q6:=b9.at d4 id;have l7:=b9.at f4 id;have F8:=StF.trans Fb (StF.of w0 b9);have q7:=b1.fr0 b9;have r0:=a8.trans b9
 have d5:NdWide (.br l.page r.page J (A.filter fun x=>kbit x.1 n).length SL SR):=⟨⟨n0,n3,x8,x8⟩,e8,k3⟩
 have r1:=qQm (P:=prog) (t:=78) agg78 sz78 q3 (by rw[kG];exact wide_len d5 nil0);have s9:(ns++NL++NR).length<=O:=by rw[lAp,lAp];omega
 have l8:=staged10 q7 hx.hsb r0 x8 x8 d5 (vv:=nil0) rfl (NwB.nil u u).by (fun _=>rfl)
 rw[zU (ns++NL) NR,<- zU,zU ns NL NR]at l8;rw[<- zU ns,<- zU ns,zU ns NL NR];simp only[go_sem,j7,tailC,U,l6,r1];refine qQa pl142 (l8.mono ?_);rintro _ w9 ⟨rfl,d6,l9⟩;have m0:=StF.at d6 q4 j0;have m3:=StF.at d6 q5 j0;have r2:=StF.at d6 q6 j0;have m4:=StF.at d6 l7 j0;have F9:=StF.trans F8 d6;have r3:=StF.no f0 F9;have t0:=qQi m0;have t1:=qQi m3;simp only[go_sem];refine qXg (Q:=fun x R wx=>x=.normal/\R 0=pt sb 0/\R 3=.int .i64 (n:Nat)/\R 9=pt w.heap.size 0/\R 10=pt (w.heap.size+1) 0/\R 25=.int .i64 (O:Nat)/\No w9 wx/\∃ db,R 26=pt db 0/\wx.heap[db]?=some (.cells (bl D) 75 (0,0))) _ (fun x R wx=>?_) ?_
 rotate_left
 ·refine qXj (fun j=>j == 7) (.one 0 (.one 1 (.one 2 (.one 3 (.one 4 (.one 5 (.two 6 (.row [7,8]) 7 (.row [6,8])))))))) rfl x9 x9 ?_
  have fd:No w9 w9.drew:=(Fr.refl _ _).drew;generalize w9.drew=wa at *;have c5:=r3.trans fd;obtain⟨nv,sv,rows,ks,_⟩:=l9.fr0 fd;have r4:rdO prog 3 wa sb 0=some (vi wd):=rd1 agg3 ks rfl;have rl:=rd_d agg75 sz75 (fd.at r2 id) a3;have rr:=rd_d agg75 sz75 (fd.at m4 id) a4;simp only[go_sem,j7,yX,yU,bSe,jV,qQk,OT.row,U,E,Y,r4,rl,rr];constructor
  ·refine qQc pl96 ((l3 wa (hx.tabs.no c5)).mono ?_);rintro _ wb ⟨rfl,fb⟩
   refine⟨(fun h=>by cases h),?_⟩;obtain⟨Wc,qc,kc,fc,sc⟩:=allocD wb (ty:=75) sz75 a6;have ec:Ext wb (wb.alloc (.cells (bl (zG 32 0)) 75)):=Ext.alloc _ _;simp only[go_sem,j7,yX,yU,bSe,qQk,qc,ec,implies_true,true_and]
   refine⟨?_,?_,?_,?_,(fd.trans fb).trans fc,wb.heap.size,?_,kc⟩ <;> simp only[go_sem,U,W,e9,B]
  ·obtain⟨Wb,r5,fb,kb,t2⟩:=qQl wa (bl (zG 32 0)) 75
   have eb:=fb.ext;simp only[go_sem,r5];refine qQc pl96 ((l3 Wb (hx.tabs.no (c5.trans fb))).mono ?_);rintro _ wc ⟨rfl,fc⟩;refine⟨(fun h=>by cases h),?_⟩;have kc:=fc.at kb id;have qc:=wr_d sz75 kc zl32 a6;simp only[go_sem,j7,yX,qc]
   refine⟨?_,?_,?_,?_,((fd.trans fb).trans fc).put (b:=wa.heap.size) _ (fun h=>by have:=fd.size;omega),wa.heap.size,?_,qQd kc⟩ <;> simp only[go_sem,U,W,e9,B]
 clear U W e9 B E Y l6;rintro⟨rfl,U,W,e9,B,m5,c7,db,m6,kd⟩;rw[thenQ_normal];simp only[go_sem];refine qXj (fun j=>j == 10) (.row [0,1,2,3,5,6,4,7,8,9,10,11,12,13,14]) rfl x9 x9 ?_;have c7:=c7.drew;have kd:wx.drew.heap[db]?=_:=kd;generalize wx.drew=wy at *;have r6:=c7.at m0 id;have r7:=c7.at m3 id;have Fy:=StF.trans F9 (StF.of w0 c7);have r8:=l9.fr0 c7;have rk:=rd_d agg76 sz76 r7 a5;have rd:=rd_d agg75 sz75 kd a6;have bs:=bldSb (bits:=n) (page:=O) a5 a6;obtain⟨sv,v8,wz,rsv,r9,cs,t3,ob,q9,Fz,Mz⟩:=r8.pushS hx.hsb (StF.no f0 Fy) (by rw[lAp,lAp];have:UR.length=r.pgs.length:=n8;omega) (x:=⟨n,O,k,D⟩) a5 a6;have lx:(sbC n O k D).toArray.size=66:=by rw[kG];exact sbC_len a5 a6
 simp only[go_sem,j7,yX,yU,jV,qQk,OT.row,rsv,U,W,B,m5,m6,rk,rd,bs];refine qKg (v:=.slice (some ⟨wy.heap.size,0,none⟩) 1 1) (w':=wy.alloc (.cells (sbC n O k D).toArray 229)) (qQx (K:=66) j0 j0 (y:=[.int .i64 0,.int .i64 0]++(zG 64 (0:Byte)).map u8) (by rfl) (by rfl) lx _) (fun _=>((Fr.refl (fun _=>False) _).alloc _).ext) ?_;simp only[go_sem,j7];refine qXf ⟨v8,wz,r9,?_⟩;refine⟨(fun h=>by cases h),?_⟩;simp only[go_sem,j7,yX,jV,q9];generalize put wz sb ob=wp at *;have h0:wp.drew.heap[w.heap.size]?=_:=StF.at Fz r6 j0;have m7:=rd_d agg75 sz75 (StF.at Fz kd j0) a6;have s2:rdO prog 75 wp.drew db 0=_:=m7;have qw:=wr_d sz75 h0 zl32 a6;have qr:=rd_d agg75 sz75 (qQd (o:=.cells (bl D) 75 (0,0)) h0) a6;simp only[go_sem,j7,e9,m5,m6,m7,qw,qr];have s0:=Mz.fr0 (Fr.refl (fun _=>False) wp).drew;have s1:=StF.trans (StF.trans Fy Fz) (StF.of w0 (Fr.refl (fun _=>False) wp).drew);refine And.intro (s1.put (b:=w.heap.size) _ fun h=>absurd h (yZ _)) ?_;have Z:=s0.put' h0 j0 (.cells (bl D) 75 (0,0));simp only[zU]at Z ⊢;exact Z
theorem page_lt {t:PT}(A:0<b)(h:∀ p ∈ t.pgs,p<b):t.page<b:=by
 cases t with
 | nil=>exact A
 | leaf q k v=>exact h q (by simp[PT.pgs])
 | br q l r=>exact h q (by simp[PT.pgs])
theorem kid_map {o:PT}(A:o.Wf n)(B:Map n o.ents)(b:Bool):Map (n+1) (kid n b o).ents:=by
 cases b
 ·rw[(kid_ents A).1];exact B.lo
 ·rw[(kid_ents A).2];exact B.hi
theorem kid_len {o:PT}(A:o.Wf n)(b:Bool):(kid n b o).ents.length<=o.ents.length:=by
 cases b
 ·rw[(kid_ents A).1];exact kP _ _
 ·rw[(kid_ents A).2];exact kP _ _
theorem one10 (J:LayX u w0 sb wd esv T oM oS fresh)(L:n<=256){at':Bool}{o:PT}{e:En}{next next':Nat}{t:PT}(M:o.Wf n)(D:o.ents.length<=2 ^ 40)(B:∀ p ∈ o.pgs, p<fresh)(E:fresh<=next)(R:next'<=2 ^ 38)(H:e.1.length=32)(I:e.2.length<=128)(N:PosS wd T n e.1 at' o)
  (A:(match pageOf e.1 e.2 o with | some p=>(PT.leaf p e.1 e.2,next) | none=>(PT.leaf next e.1 e.2,next+1))=(t,next')):LayC u w0 sb wd esv T oM oS fresh n o.ents [e] next t next':=by
 have U:next<=next':=by
  cases O:pageOf e.1 e.2 o with
  | some p=>rw[O]at A;cases A;exact xC _
  | none=>rw[O]at A;cases A;exact Nat.le_succ _
 refine layTop J L (at':=at') sm M B N D (fun V _=>?_) fun _=>layOne J L B N H I E x8 A;obtain⟨p,rfl⟩:=ents_one M V;have:pageOf e.1 e.2 (.leaf p e.1 e.2)=some p:=by simp[pageOf]
 rw[this]at A;cases A;exact⟨rfl,rfl⟩
theorem lay10 (E:LayX u w0 sb wd esv T oM oS fresh):∀ (f:Nat) {n:Nat} {at':Bool} {o:PT} {A:List En} {next next':Nat} {t:PT}, n+f=256->o.Wf n->Map n o.ents->o.ents.length<=2 ^ 40->(∀ p ∈ o.pgs, p<fresh) ->
  Map n A->A.length<=2 ^ 40->(∀ e ∈ A,e.2.length<=128)->(∀ e ∈ A,PosS wd T n e.1 at' o)->2<=next->fresh<=next->next'<=2 ^ 38->Aud.lay f n at' o A next=(t,next')->LayC u w0 sb wd esv T oM oS fresh n o.ents A next t next':=by
 intro f
 have small:∀ {f n:Nat} {at':Bool} {o:PT} {A:List En} {next next':Nat} {t:PT},n<=256->o.Wf n->o.ents.length<=2 ^ 40->(∀ p ∈ o.pgs,p<fresh)->Map n A->(∀ e ∈ A,e.2.length<=128)->(∀ e ∈ A,PosS wd T n e.1 at' o)->fresh<=next->next'<=2 ^ 38->A.length<=1->Aud.lay f n at' o A next=(t,next')->LayC u w0 sb wd esv T oM oS fresh n o.ents A next t next':=by
  intro f n at' o A next next' t hn L D I J O R H M h1 B
  match A,J,R,O,h1,B with
  | [],_,_,_,_,B =>
   have:Aud.lay f n at' o [] next=(.nil,next):=by cases f <;> rfl
   rw[this]at B;cases B;exact layNil E hn
  | [e],J,R,O,_,B =>
   have B:Aud.lay f n at' o [(e.1,e.2)] next=(t,next'):=B;rw[lay_one f n at' L e.1 e.2 next]at B;exact one10 E hn L D I H M (J.2 e sm) (O e sm) (R e sm) B
  | _::_::_,_,_,_,h1,_=>simp at h1
 induction f with
 | zero =>
  intro n at' o A next next' t a5 L U D I J V O R a0 H M B;refine small x8 L D I J O R H M ?_ B
  match A,J with
  | [],_=>simp
  | [e],_=>simp
  | e::e'::es,J =>
   have:=(List.pairwise_cons.1 J.1).1 e' sm;have h1:=this.1.1;omega
 | succ f ih =>
  intro n at' o A next next' t a5 L U D I J V O R a0 H M B
  by_cases a6:A.length<=1
  ·exact small x8 L D I J O R H M a6 B
  have Y:2<=A.length:=x8
  obtain⟨e,a7,a8⟩:∃ e ∈ A,headK A=e.1:=by
   cases A with
   | nil=>simp at Y
   | cons e es=>exact⟨e,sm,rfl⟩
  have a9 : Aud.lay (f + 1) n at' o A next = if at' = true /\ o.ents = A then (o, next) else
      (.br (Aud.lay f (n + 1) (at' && isBr o) (kid n true o) (A.filter fun x => kbit x.1 n) (Aud.lay f (n + 1) (at' && isBr o) (kid n false o) (A.filter fun x => !kbit x.1 n) next).2).2 (Aud.lay f (n + 1) (at' && isBr o) (kid n false o) (A.filter fun x => !kbit x.1 n) next).1 (Aud.lay f (n + 1) (at' && isBr o) (kid n true o) (A.filter fun x => kbit x.1 n) (Aud.lay f (n + 1) (at' && isBr o) (kid n false o) (A.filter fun x => !kbit x.1 n) next).2).1,
        (Aud.lay f (n + 1) (at' && isBr o) (kid n true o) (A.filter fun x => kbit x.1 n) (Aud.lay f (n + 1) (at' && isBr o) (kid n false o) (A.filter fun x => !kbit x.1 n) next).2).2 + 1) := by
   match A,Y with
   | [],Y=>simp at Y
   | [_],Y=>simp at Y
   | e::e'::es,_ =>
    conv=>lhs;unfold Aud.lay
    rw[if_neg (show ¬ (e'::es=[]) by simp)]
  rw[a9]at B;refine layTop E x8 (at':=at') x8 L I (by rw[a8];exact R e a7) D (fun hs ha=>?_) fun hs=>?_
  ·rw[if_pos ⟨ha,hs⟩]at B
   cases B;exact⟨rfl,rfl⟩
  ·rw[if_neg fun h=>hs ⟨h.2,h.1⟩]at B
   obtain⟨l,m1,hL⟩:∃ l m1,Aud.lay f (n+1) (at' && isBr o) (kid n false o) (A.filter fun x=>!kbit x.1 n) next=(l,m1):=⟨_,_,rfl⟩
   obtain⟨r,m2,hR⟩:∃ r m2,Aud.lay f (n+1) (at' && isBr o) (kid n true o) (A.filter fun x=>kbit x.1 n) m1=(r,m2):=⟨_,_,rfl⟩
   rw[hL]at B;dsimp only at B;rw[hR]at B;cases B;have a3:n<256:=x8
   have W:=fun b=>kid_wf (at':=at') L b;have N:=fun b p (hp:p ∈ (kid n b o).pgs)=>I p (kid_pgs hp);obtain⟨L1,L2,_⟩:=lay_pgs hL;obtain⟨R1,R2,_⟩:=lay_pgs hR;have b0:=lay_len (dgT wd) (fresh:=fresh) (N false) H E.hf hL;have b1:=lay_len (dgT wd) (fresh:=fresh) (N true) x8 E.hf hR;obtain⟨b3,b4,_⟩:=lay_ok (f:=f) (n:=n+1) x8 x8 (W false) J.lo a0 hL;obtain⟨b5,b6,_⟩:=lay_ok (f:=f) (n:=n+1) x8 x8 (W true) J.hi x8 hR
   have Z:∀ (b:Bool) x,x ∈ A->kbit x.1 n=b->PosS wd T (n+1) x.1 (at' && isBr o) (kid n b o):=fun b x E hb=>by
    have:=(R x E).kid L a3
    rwa [hb]at this
   have iL:=ih (n:=n+1) (at':=at' && isBr o) x8 (W false) (kid_map L U false) (kC (kid_len L false) D) (N false) J.lo (kC (kP _ _) V) (fun x E=>O x (List.mem_filter.1 E).1) (fun x E=>Z false x (List.mem_filter.1 E).1 (by simpa using (List.mem_filter.1 E).2)) a0 H x8 hL;have iR:=ih (n:=n+1) (at':=at' && isBr o) x8 (W true) (kid_map L U true) (kC (kid_len L true) D) (N true) J.hi (kC (kP _ _) V) (fun x E=>O x (List.mem_filter.1 E).1) (fun x E=>Z true x (List.mem_filter.1 E).1 (List.mem_filter.1 E).2) x8 x8 x8 hR
   have a4:∀ {t:PT} {b:Bool} {a c:Nat},(∀ p ∈ t.pgs,p ∈ (kid n b o).pgs∨a<=p/\p<c)->fresh<=2 ^ 38->c<=2 ^ 38->t.page<2 ^ 50:=fun {t b a c} h h1 Y=>page_lt j0 fun p hp=>by
    rcases h p hp with h | h
    ·have:=N _ _ h;omega
    ·omega
   exact layBr E a3 L U D Y V J iL iR b0 b1 H x8 (a4 L2 x8 x8) (a4 R2 x8 x8) b4 b6 b3 b5
end
end R
end
section
namespace R
open Aud A
theorem dgT_leaf (wd:Int)(p:Nat)(k v:Bs):dgT wd 256 (.leaf p k v)=climb wd k 0 (leafD wd k v) ((empts wd 257).take 256):=by
 show climb wd k 0 (leafD wd k v) (empts wd 256)=_
 congr 1
end R
end
section
namespace R
open Aud A
theorem bldTr {a b:Option Addr}{x y x' y':Nat}:bldO prog 141 [(0,vi n),(1,.slice a x y),(2,.slice b x' y')]=some (.agg #[vi n,.slice a x y,.slice b x' y']):=by
 unfold bldO;rw[zero141,places141];rfl
abbrev tr0:Array Value:=#[.int .i64 0,nil0,nil0]
end R
end
section
namespace R
open Aud A
theorem bldSpG {wd next p:Nat}{a a1 a2:Option Addr}{n c n1 c1 n2 c2:Nat}:bldO prog 187 [(0,vi wd),(1,vi next),(2,.slice a n c),(3,.agg #[vi p,.slice a1 n1 c1,.slice a2 n2 c2])]=some (.agg (spC wd next (.slice a n c) p (.slice a1 n1 c1) (.slice a2 n2 c2) nil0 nil0)):=by
 unfold bldO;rw[zero187,places187];rfl
structure TrM (w:World) (wd:Nat) (T:PT) (oM oS:Value):Prop where
 hT:T.Wf 0
 hTM:Map 0 T.ents
 hTl:T.ents.length<=2 ^ 30
 hM:EnR w oM T.ents
 hS:RdR w 66 oS ((subsL wd 0 T).map sbR)
theorem step10 (u w:World)(hu:No u w)(ht:Tabs w){wd next next':Nat}{T t:PT}{esv oM oS mv:Value}{m:List En}(he:RdD w esv (empts wd 257))(A:TrM w wd T oM oS)(hTp:∀ p ∈ T.pgs, p<next)(c6:T.pgs.length<=2 ^ 36)(hm:EnR u mv m)(a6:Map 0 m)(c7:m.length<=2 ^ 30)(a8:∀ e ∈ m, e.2.length<=128)(h2:2<=next)(c8:next'<=2 ^ 36)
  (B:Aud.lay 256 0 true T m next=(t,next')) :
  Fn prog 56 #[vi wd,esv,.agg #[vi T.page,oM,oS],vi next,mv] w fun v w'=>No w w'/\∃ nv sv rows,v=.tuple #[.agg #[vi t.page,mv,sv],nv]/\one nv=true/\one sv=true/\NwR w w' 78 102 nv rows/\NdRows u rows (news (dgT wd) next 0 t)/\NwR w w' 229 66 sv ((subsL wd 0 t).map sbR):=by
 refine go56 sm ?_;obtain⟨E,H,rfl,_⟩:=A.hM.slice;obtain⟨I,J,rfl,_⟩:=A.hS.slice;obtain⟨ea,ec,rfl,_⟩:=he.slice;obtain⟨U,V,rfl,_⟩:=hm.slice;generalize c9:(subsL wd 0 T).map sbR=RT at *;obtain⟨W,hW,f1,k1,k2,s1⟩:=qJq w #[vi T.page,.slice E T.ents.length H,.slice I RT.length J] 141 tr0 141;have l1:=qQm (P:=prog) (t:=141) agg141 sz141 k1;have b1:=bldSpG (wd:=wd) (next:=next) (p:=T.page) (a:=ea) (n:=(empts wd 257).length) (c:=ec) (a1:=E) (n1:=T.ents.length) (c1:=H) (a2:=I) (n2:=RT.length) (c2:=J);obtain⟨W2,a9,f2,k3,s2⟩:=qQl W (spC wd next (.slice ea (empts wd 257).length ec) T.page (.slice E T.ents.length H) (.slice I RT.length J) nil0 nil0) 187;have b0:=f2.at k1 id;have r1:rdO prog 84 W2 w.heap.size 1=some (.slice E T.ents.length H):=rd1 agg84 b0 rfl;have a7:=f1.trans f2
 have hx:LayX u w W.heap.size wd (.slice ea (empts wd 257).length ec) T (.slice E T.ents.length H) (.slice I RT.length J) next:=⟨hu,ht,he,f1.size,A.hT,A.hTM,A.hTl,hTp,A.hM,A.hS,x8⟩
 have b3:SpM u w W2 W.heap.size wd next (.slice ea (empts wd 257).length ec) T.page (.slice E T.ents.length H) (.slice I RT.length J) [] []:=⟨nil0,nil0,[],k3,rfl,rfl,NwR.nil _ _ _ _,⟨rfl,fun i h=>absurd h sm⟩,NwR.nil _ _ _ _⟩
 obtain⟨P1,P2,P3⟩:=lay_pgs B;obtain⟨d0,d1,_⟩:=lay_ok (f:=256) (n:=0) rfl x8 A.hT a6 h2 B;have d2:=lay_cnt B;have a0:=lay10 hx 256 (n:=0) rfl A.hT A.hTM (by have:=A.hTl;omega) hTp a6 x8 a8 (fun e _=>PosS.root _ _ _) h2 (xC _) x8 B W2 _ _ [] [] b3 a7 A.hM hm sm (by simp;omega);unfold LayPost at a0;have b4:(dgT wd (256 - 0) t).length=32:=qJd _ _ _;generalize dgT wd (256 - 0) t=D at *;rw[zA,zA]at a0;simp -implicitDefEqProofs only[go_sem,j7,vS,yU,jV,Tryz.f56,hW,l1,b1,a9,r1];refine qQa pl97 (a0.mono ?_);rintro _ w4 ⟨rfl,F4,nv,sv,rows,k4,d3,d4,b5,b6,b7⟩;have b8:w4.heap[w.heap.size+1]?=_:=StF.at F4 (f2.at k2 id) j0;have b9:=StF.no a7 F4;obtain⟨W5,q5,k5,f5,s5⟩:=allocD w4 (ty:=75) sz75 b4;have L:=f5.at k4 id;simp -implicitDefEqProofs only[go_sem,j7,yU,qQk,q5];refine qXj (fun j=>false) (.one 0 (.one 1 (.one 2 (.one 3 (.one 4 (.one 7 (.one 8 (.one 9 (.one 5 (.one 6 (.two 10 (.row [11,12]) 11 (.row [10,12])))))))))))) rfl x9 x9 ?_;have c0:No w W5.drew:=(b9.trans f5).drew;have L:W5.drew.heap[W.heap.size]?=_:=L;have d5:w.heap.size+2=W.heap.size:=s1.symm;have a3:W5.drew.heap[w.heap.size+1]?=_:=f5.at b8 id;have M:=(b5.fr0 f5).fr0 (Fr.refl _ _).drew;have N:=(b7.fr0 f5).fr0 (Fr.refl _ _).drew;generalize W5.drew=w6 at *;obtain⟨na,nc,rfl,_⟩:=M.rd.slice;obtain⟨Y,Z,rfl,_⟩:=N.rd.slice;generalize hrs:(subsL wd 0 t).map sbR=R at *;have r7:rdO prog 139 w6 W.heap.size 7=some (.slice Y R.length Z):=rd1 agg139 L rfl;have r6:rdO prog 88 w6 W.heap.size 6=some (.slice na rows.length nc):=rd1 agg88 L rfl;have q6:wrO prog 141 w6 (w.heap.size+1) 0 (.agg #[vi t.page,.slice U m.length V,.slice Y R.length Z])=some (put w6 (w.heap.size+1) (.cells #[vi t.page,.slice U m.length V,.slice Y R.length Z] 141 (0,0))):=qQo sz141 a3 rfl (by rw[<- kJ];rfl)
 have bt:=bldTr (n:=t.page) (a:=U) (x:=m.length) (y:=V) (b:=Y) (x':=R.length) (y':=Z);have k7:=qQd (o:=.cells #[vi t.page,.slice U m.length V,.slice Y R.length Z] 141 (0,0)) a3;have c3:=qQh (b:=w.heap.size+1) (o:=.cells #[vi t.page,.slice U m.length V,.slice Y R.length Z] 141 (0,0)) L x8;have a4:Fr (fun b=>b=w.heap.size+1) w6 (put w6 (w.heap.size+1) (.cells #[vi t.page,.slice U m.length V,.slice Y R.length Z] 141 (0,0))):=(Fr.refl _ _).put (b:=w.heap.size+1) _ fun _=>rfl;generalize put w6 (w.heap.size+1) (.cells #[vi t.page,.slice U m.length V,.slice Y R.length Z] 141 (0,0))=w7 at *;have c4:rdO prog 88 w7 W.heap.size 6=some (.slice na rows.length nc):=rd1 agg88 c3 rfl;have l7:=qQm (P:=prog) (t:=141) agg141 sz141 k7
 have off:∀ {ty k:Nat} {v:Value} {rs:Rows},NwR w w6 ty k v rs->¬ ty=141->∀ b,qQf v=some b->¬ b=w.heap.size+1:=fun h c5 b hb e=>by
  obtain⟨c,hc⟩:=qQz h hb;rw[e,a3]at hc;cases hc;exact c5 rfl
 have a5:No w w7/\∃ nv sv O,Value.tuple #[.agg #[vi t.page,.slice U m.length V,.slice Y R.length Z],.slice na rows.length nc]=.tuple #[.agg #[vi t.page,.slice U m.length V,sv],nv]/\one nv=true/\one sv=true/\NwR w w7 78 102 nv O/\NdRows u O (news (dgT wd) next 0 t)/\NwR w w7 229 66 sv R :=
  ⟨c0.trans' a4 fun b hb e=>by subst e;omega,_,_,rows,rfl,rfl,rfl,M.fr a4 (off M j0),b6,N.fr a4 (off N j0)⟩
 simp -implicitDefEqProofs only[go_sem,j7,jV,OT.row,r7,r6,bt,q6,c4,l7,implies_true,true_and]
 first | exact a5 | exact⟨a5,a5⟩
end R
end
section
namespace R
open Aud A
def brI (W:World)(c:List Value)(A d:Bs)(n:Nat)(vs:List Value)(w:World):Prop :=
 ∃ (i:Nat) (v:Value),vs=c++[v,.int .i64 (i:Nat)]/\i<=32/\n=32 - i/\NwB W w v (A++d.take i)/\No W w
theorem load9br (w0:World){A B lc rc:Nat}(D:A<2 ^ 62/\B<2 ^ 62/\lc<2 ^ 62/\rc<2 ^ 62)(R:ls.length=32)(hrs:rs.length=32):Fn prog 58 #[.agg (ndA (.br A B lc rc ls rs) nil0).toArray] w0 fun v w'=>NwB w0 w' v (lodN (.br A B lc rc ls rs))/\No w0 w':=by
 refine go58 sm ?_;obtain⟨W,hW,f0,I,s0⟩:=qQl w0 (ndA (.br A B lc rc ls rs) nil0).toArray 78;have r0:rdO prog 3 W w0.heap.size 0=some (.int .i64 (2:Nat)):=rd1 agg3 I rfl;have U:(((2:Nat):Int) == 1)=false:=rfl;have r1:∀ {w:World},No W w->rdO prog 3 w w0.heap.size 1=some (.int .i64 (A:Nat)):=fun f=>rd1 agg3 (f.at I id) rfl;have r2:∀ {w:World},No W w->rdO prog 3 w w0.heap.size 2=some (.int .i64 (B:Nat)):=fun f=>rd1 agg3 (f.at I id) rfl;have r3:∀ {w:World},No W w->rdO prog 3 w w0.heap.size 3=some (.int .i64 (lc:Nat)):=fun f=>rd1 agg3 (f.at I id) rfl;have r4:∀ {w:World},No W w->rdO prog 3 w w0.heap.size 4=some (.int .i64 (rc:Nat)):=fun f=>rd1 agg3 (f.at I id) rfl;have q1:=r1 (Fr.refl _ W);have E:∀ v,(leB 4 v).length=4:=fun v=>qQt 4 v;simp -implicitDefEqProofs only[go_sem,j7,yU,jV,Tryz.f58,hW,r0,U,q1];refine qQa pl99 ((four9 W A D.1).mono ?_);rintro v1 w1 ⟨b1,f1,n1⟩;simp -implicitDefEqProofs only[go_sem,j7];refine qQa pl98 ((joined9 W w1 (NwB.nil W w1) f1 b1 (fun _ b _ e=>by cases e) sm (by rw[E];decide)).mono ?_);rintro v2 w2 ⟨b2,f2,_⟩;rw[zA]at b2;have q2:=r2 f2;simp -implicitDefEqProofs only[go_sem,j7,jV,q2];refine qQa pl99 ((four9 w2 B D.2.1).mono ?_);rintro v3 w3 ⟨b3,f3,n3⟩;simp -implicitDefEqProofs only[go_sem,j7];refine qQa pl98 ((joined9 W w3 (b2.fr0 f3) (f2.trans f3) b3 (fun _ b D e=>by have:=n3 b D;have:=(NwB.lt b2 e).2;omega) (by rw[E];decide) (by rw[E];decide)).mono ?_);rintro v4 w4 ⟨b4,f4,_⟩;have q3:=r3 f4;simp -implicitDefEqProofs only[go_sem,j7,jV,q3];refine qQa pl99 ((four9 w4 lc D.2.2.1).mono ?_);rintro v5 w5 ⟨b5,f5,n5⟩;simp -implicitDefEqProofs only[go_sem,j7];refine qQa pl98 ((joined9 W w5 (b4.fr0 f5) (f4.trans f5) b5 (fun _ b D e=>by have:=n5 b D;have:=(NwB.lt b4 e).2;omega) (by simp[E]) (by rw[E];decide)).mono ?_)
 rintro v6 w6 ⟨b6,f6,_⟩;have q4:=r4 f6;simp -implicitDefEqProofs only[go_sem,j7,jV,q4];refine qQa pl99 ((four9 w6 rc D.2.2.2).mono ?_);rintro v7 w7 ⟨b7,f7,n7⟩;simp -implicitDefEqProofs only[go_sem,j7];refine qQa pl98 ((joined9 W w7 (b6.fr0 f7) (f6.trans f7) b7 (fun _ b D e=>by have:=n7 b D;have:=(NwB.lt b6 e).2;omega) (by simp[E]) (by rw[E];decide)).mono ?_);rintro v8 w8 ⟨b8,f8,_⟩;have a4:(leB 4 A++leB 4 B++leB 4 lc++leB 4 rc).length=16:=by simp[E]
 show _;have H:lodN (.br A B lc rc ls rs)=leB 4 A++leB 4 B++leB 4 lc++leB 4 rc++ls++rs:=rfl;rw[H];generalize leB 4 A++leB 4 B++leB 4 lc++leB 4 rc=J at *;simp -implicitDefEqProofs only[go_sem];refine loopD [1,3,5] (brI W [pt w0.heap.size 0] J ls) 32 ⟨0,v8,rfl,x8,rfl,by rw[List.take_zero,List.append_nil];exact b8,f8⟩ ?_;rintro _ vs w9 g ⟨i,v,rfl,hi,rfl,V,Y⟩;have k9:=Y.at I id
 by_cases Z:i<32
 ·have L:=dTo ((i:Int)<32)
  have c1:=iSu (i:=i);have y:=iBd (i:=i) (n:=32);have M:=qXu (l:=ls) (i:=i) x8;have r:=midB (i:=i) (a:=[.int .i64 (2:Nat),.int .i64 (A:Nat),.int .i64 (B:Nat),.int .i64 (lc:Nat),.int .i64 (rc:Nat)]) (r:=rs.map u8++z32.map u8++[nil0]) (ds:=ls) (o:=5) (e:=78) (fz:=(0,0)) (by rw[<- ndC_L];exact k9) rfl x8;obtain⟨O,wa,N,ba,fa,ga,ha⟩:=NwB.grow V (ls.getD i 0) (by simp;omega) Y;rw[zU,M]at ba;generalize ls.getD i 0=x at *;simp -implicitDefEqProofs only[go_sem,j7,yU,jV,L,y,and_self,iTn,j8,arr75,r];refine qQn (v:=.slice (some ⟨w9.heap.size,0,none⟩) 1 1) (w':=w9.alloc (.cells (bl [x]) 5)) rfl ?_;simp -implicitDefEqProofs only[go_sem,j7];refine qQj ⟨O,wa,N,?_⟩;simp -implicitDefEqProofs only[go_sem,j7,c1];exact⟨32 - (i+1),x8,i+1,O,rfl,x8,rfl,ba,fa⟩
 have L:=dFo ((i:Int)<32);have e:i=32:=x8
 subst e;rw[zB x8]at V;clear H;have a3:(J++ls).length=48:=by rw[lAp];omega
 generalize J++ls=a0 at *;simp -implicitDefEqProofs only[go_sem,j7,L];refine loopD [1,3,6] (brI W [pt w0.heap.size 0] a0 rs) 32 ⟨0,v,rfl,x8,rfl,by rw[List.take_zero,List.append_nil];exact V,Y⟩ ?_;rintro _ vs wb g ⟨i,v',rfl,hi,rfl,bb,fb⟩;have kb:=fb.at I id
 by_cases Z:i<32
 ·have L:=dTo ((i:Int)<32)
  have c1:=iSu (i:=i);have y:=iBd (i:=i) (n:=32);have M:=qXu (l:=rs) (i:=i) x8;have r:=midB (i:=i) (a:=[.int .i64 (2:Nat),.int .i64 (A:Nat),.int .i64 (B:Nat),.int .i64 (lc:Nat),.int .i64 (rc:Nat)]++ls.map u8) (r:=z32.map u8++[nil0]) (ds:=rs) (o:=37) (e:=78) (fz:=(0,0)) (by rw[<- ndC_R];exact kb) (by simp[R]) x8;obtain⟨O,wa,N,ba,fa,ga,ha⟩:=NwB.grow bb (rs.getD i 0) (by simp;omega) fb;rw[zU,M]at ba;generalize rs.getD i 0=x at *;simp -implicitDefEqProofs only[go_sem,j7,yU,jV,L,y,and_self,iTn,j8,arr75,r];refine qQn (v:=.slice (some ⟨wb.heap.size,0,none⟩) 1 1) (w':=wb.alloc (.cells (bl [x]) 5)) rfl ?_;simp -implicitDefEqProofs only[go_sem,j7];refine qQj ⟨O,wa,N,?_⟩;simp -implicitDefEqProofs only[go_sem,j7,c1];exact⟨32 - (i+1),x8,i+1,O,rfl,x8,rfl,ba,fa⟩
 have L:=dFo ((i:Int)<32);have e:i=32:=x8
 subst e;rw[zB x8]at bb;simp -implicitDefEqProofs only[go_sem,j7,L];exact And.intro (bb.back f0.size) (f0.trans fb)
theorem load9 (w0:World){n:Nd}(A:NdWide n)(B:one vv=true)(D:By w0 vv (ndVal n))(E:n.kind=2->vv=nil0):Fn prog 58 #[.agg (ndA n vv).toArray] w0 fun v w'=>NwB w0 w' v (lodN n)/\No w0 w':=by
 cases n with
 | leaf k v=>exact load9leaf w0 A.1 B D (by have:=A.2;omega)
 | br J L lc rc ls rs =>
  rw[E rfl];obtain⟨⟨M,N,O,R⟩,H,I⟩:=A;exact load9br w0 ⟨x8,x8,x8,x8⟩ H I
end R
end
section
namespace R
open Aud A
theorem zer_take (b:Bs)(i k:Nat)(hi:i+k<b.length):zer ((b.drop i).take (k+1))=(zer ((b.drop i).take k) && b.getD (i+k) 0 == 0):=by
 unfold zer;have A:k<(b.drop i).length:=by rw[lDr];omega
 rw[tSg A,List.all_append];simp[gDq,zZ hi]
theorem u8ne (x y:Byte):(((x.toNat:Int)) != ((y.toNat:Int)))=!(x == y):=by
 by_cases h:x=y
 ·subst h;simp
 ·have:x.toNat≠y.toNat:=fun e=>h (BitVec.eq_of_toNat_eq e)
  rw[show (x == y)=false from beq_eq_false_iff_ne.2 h];simp only[xH,bne_iff_ne,ne_eq];omega
def z5I (v:Value)(i j:Nat)(b:Bs)(w0:World)(m:Nat)(vs:List Value)(w:World):Prop :=
 ∃ k:Nat,vs=[v,.int .i64 (j:Nat),.int .i64 ((i+k:Nat):Int)]/\i+k<=j/\m=j - (i+k)/\w=w0/\zer ((b.drop i).take k)=true
theorem zeros5 (w:World){b:Bs}(R:By w v b){i j:Nat}(U:i<=j)(W:j<=b.length)(Y:b.length<=2 ^ 50):Fn prog 88 #[v,.int .i64 (i:Nat),.int .i64 (j:Nat)] w fun r w'=>r=.bool (zer ((b.drop i).take (j - i)))/\w'=w:=by
 refine go88 sm ?_;simp -implicitDefEqProofs only[go_sem,j7,vS,jV,Tryz.f88];refine loopD [0,2,7] (z5I v i j b w) (j - i) ⟨0,by simp -implicitDefEqProofs only[go_sem,j7,yK,yK],x8,rfl,rfl,rfl⟩ ?_;rintro _ vs Z g ⟨k,rfl,hk,rfl,rfl,O⟩;have D:=natlt (i+k) j
 by_cases E:i+k<j
 ·rw[decide_eq_true E]at D
  obtain⟨bb,o,cap,I,J⟩:=by_rd R (i:=i+k) x8;subst I;have H:(0:Int)<=((i+k:Nat):Int)/\((i+k:Nat):Int)<(b.length:Int):=x8
  have B:=u8ne (b.getD (i+k) 0) 0;have c1:IntKind.i64.wrap (((i+k:Nat):Int)+1)=((i+(k+1):Nat):Int):=qXa (a:=i+k) (b:=1);have A:=zer_take b i k x8;rw[O,Bool.true_and]at A
  by_cases L:b.getD (i+k) 0=0
  ·rw[L]at B J A
   have B:(((0:Byte).toNat:Int) != 0)=false:=rfl;simp -implicitDefEqProofs only[go_sem,j7,D,H.1,H.2,and_self,if_true,iTn,j8,J,B,c1];exact⟨j - (i+(k+1)),x8,k+1,rfl,x8,rfl,rfl,A⟩
  ·have B:(((b.getD (i+k) 0).toNat:Int) != 0)=true:=by
    have:(((b.getD (i+k) 0).toNat:Int) != ((0:Byte).toNat:Int))=true:=by rw[B,beq_eq_false_iff_ne.2 L];rfl
    exact this
   simp -implicitDefEqProofs only[go_sem,j7,D,H.1,H.2,and_self,if_true,iTn,j8,J,B];refine⟨?_,trivial⟩;rw[beq_eq_false_iff_ne.2 L]at A
   congr 1
   symm
   rw[Bool.eq_false_iff];intro M;unfold zer at A M;rw[List.all_eq_true]at M;rw[<- Bool.not_eq_true,List.all_eq_true]at A;exact A fun x V=>M x (List.take_subset_take_left _ (show k+1<=j - i by omega) V)
 ·rw[decide_eq_false E]at D
  have N:k=j - i:=x8
  subst N;simp -implicitDefEqProofs only[go_sem,j7,D];rw[O];exact⟨rfl,trivial⟩
theorem le_drop (l:Bs)(k:Nat)(A:k<l.length):le (l.drop k)=(l.getD k 0).toNat+256*le (l.drop (k+1)):=by
 rw[List.drop_eq_getElem_cons A,gDq,zZ A]
 rfl
theorem le_drop_le (l:Bs):∀ k,le (l.drop k)<=le l
 | 0=>xC _
 | k+1=>by
  by_cases A:k<l.length
  ·have:=le_drop l k A
   have:=le_drop_le l k;omega
  ·rw[zS x8];exact Nat.zero_le _
def RdOk (l:Bs)(r:Int):Prop:=(r=(le l:Int)/\le l<2 ^ 54)∨(r = -1/\2 ^ 45<le l)
def r5I (v:Value)(at' n:Nat)(l:Bs)(w0:World)(m:Nat)(vs:List Value)(w:World):Prop :=
 ∃ k:Nat,vs=[v,.int .i64 (at':Nat),.int .i64 (le (l.drop k):Nat),.int .i64 ((k:Int) - 1)]/\k<=n/\m=k/\w=w0/\le (l.drop k)<2 ^ 54
theorem read5 (w:World){b:Bs}(R:By w v b){at' n:Nat}(hn:at'+n<=b.length)(hb:b.length<=2 ^ 50):Fn prog 87 #[v,.int .i64 (at':Nat),.int .i64 (n:Nat)] w fun r w'=>(∃ x,r=.int .i64 x/\RdOk ((b.drop at').take n) x)/\w'=w:=by
 refine go87 sm ?_;have U:((b.drop at').take n).length=n:=by simp;omega
 have E:∀ k,k<n->((b.drop at').take n).getD k 0=b.getD (at'+k) 0:=fun k J=>by
  simp only[gDq,List.getElem?_take,vL,if_pos J]
 generalize hl:(b.drop at').take n=l at *;have V:IntKind.i64.wrap ((n:Int) - 1)=(n:Int) - 1:=qQr x8 x8;have L:le (l.drop n)=0:=by rw[zS x8];rfl
 simp -implicitDefEqProofs only[go_sem,j7,vS,jV,Tryz.f87,V];refine loopD [0,1,7,8] (r5I v at' n l w) n ⟨n,by rw[L];simp -implicitDefEqProofs only[go_sem,j7];rfl,xC _,rfl,rfl,by rw[L];decide⟩ ?_;rintro k vs w3 g ⟨_,rfl,J,rfl,rfl,H⟩
 by_cases h0:0<k
 ·have B:=dTo ((k:Int) - 1 ≥ 0)
  have D:decide ((le (l.drop k):Int) > 35184372088832)=decide (2 ^ 45<le (l.drop k)):=by
   by_cases h:2 ^ 45<le (l.drop k)
   ·rw[decide_eq_true h];exact decide_eq_true x8
   ·rw[decide_eq_false h];exact decide_eq_false x8
  by_cases A:2 ^ 45<le (l.drop k)
  ·rw[decide_eq_true A]at D
   simp -implicitDefEqProofs only[go_sem,j7,B,D];have:=le_drop_le l k;exact⟨⟨-1,rfl,.inr ⟨rfl,x8⟩⟩,trivial⟩
  ·rw[decide_eq_false A]at D
   obtain⟨bb,o,cap,I,M⟩:=by_rd R (i:=at'+(k - 1)) x8;subst I;rw[<- E (k - 1) x8]at M;have N:=le_drop l (k - 1) x8;rw[show k - 1+1=k by omega]at N;have hx:=(l.getD (k - 1) 0).isLt;have c2:IntKind.i64.wrap ((le (l.drop k):Int)*256)=((le (l.drop k)*256:Nat):Int):=qZu (b:=256) x8;have W:IntKind.i64.wrap ((at':Int)+((k:Int) - 1))=((at'+(k - 1):Nat):Int):=by rw[qQr x8 x8];omega
   have O:(0:Int)<=((at'+(k - 1):Nat):Int)/\((at'+(k - 1):Nat):Int)<(b.length:Int):=x8
   have Y:IntKind.i64.wrap (((l.getD (k - 1) 0).toNat:Nat):Int)=(((l.getD (k - 1) 0).toNat:Nat):Int):=i64n;have Z:IntKind.i64.wrap (((le (l.drop k)*256:Nat):Int)+(((l.getD (k - 1) 0).toNat:Nat):Int))=((le (l.drop (k - 1)):Nat):Int):=by rw[qXa,N];congr 1;omega
   have c6:IntKind.i64.wrap ((k:Int) - 1 - 1)=(k:Int) - 1 - 1:=qQr x8 x8;simp -implicitDefEqProofs only[go_sem,j7,B,D,c2,W,O.1,O.2,and_self,if_true,iTn,j8,M,Y,Z,c6];refine⟨k - 1,x8,k - 1,?_,x8,rfl,rfl,x8⟩;rw[show ((k - 1:Nat):Int)=(k:Int) - 1 by omega]
 ·have B:=dFo ((k:Int) - 1 ≥ 0)
  have e:k=0:=x8
  subst e;simp -implicitDefEqProofs only[go_sem,j7,B];exact⟨⟨_,rfl,.inl ⟨rfl,H⟩⟩,trivial⟩
def w2I (v:Value)(n:Nat)(s:W32)(b:Bs)(w0:World)(m:Nat)(vs:List Value)(w:World):Prop :=
 ∃ i:Nat,vs=[v,.int .i64 (n:Nat),u32 s,.int .i64 (i:Nat)]/\i<=4/\m=4 - i/\w=w0/\∀ j,j<i->b.getD (n+j) 0=(sealB s).getD j 0
theorem whole2 (w0:World)(ht:DivT w0){b:Bs}(U:By w0 v b)(h4:4<=b.length)(hl:b.length<=2 ^ 30):Fn prog 86 #[v] w0 fun r w'=>r=.bool (qKj b)/\No w0 w':=by
 refine go86 sm ?_;obtain⟨V,W,rfl,D⟩:=U.slice;have c0:IntKind.i64.wrap ((b.length:Int) - 4)=((b.length - 4:Nat):Int):=qXv (b:=4) h4 x8;have d0:=dFo (((b.length - 4:Nat):Int)<0);have hcut:=By.slc U (l:=0) (m:=b.length - 4) x8 x8;rw[yQ,jA]at hcut;have B:qQv prog 22 (.slice V b.length W) none (some (.int .i64 ((b.length - 4:Nat):Int))) none=some (cutV 1 V W 0 (b.length - 4)):=slc_hi slc22 arr22 sz5 x8 D;have E:(b.take (b.length - 4)).length<=2 ^ 30:=by rw[lTk];omega
 simp -implicitDefEqProofs only[go_sem,j7,Tryz.f86,c0,d0,B];refine qQa pl103 ((sum2 w0 ht hcut E).mono ?_);rintro _ w1 ⟨rfl,Y⟩;have Z:=U.fr0 Y;have H:qKj b=decide (b.drop (b.length - 4)=sealB (qKf 0 (b.take (b.length - 4)))):=rfl
 have I:∀ j,j<4->(b.drop (b.length - 4)).getD j 0=b.getD (b.length - 4+j) 0:=fun j M=>by
  simp only[gDq,vL]
 have a0:(b.drop (b.length - 4)).length=4:=by rw[lDr];omega
 generalize qKf 0 (b.take (b.length - 4))=s at *;clear B hcut E;simp -implicitDefEqProofs only[go_sem];refine loopD [0,3,4,5] (w2I (.slice V b.length W) (b.length - 4) s b w1) 4 ⟨0,rfl,x8,rfl,rfl,fun j M=>by omega⟩ ?_;rintro _ vs w3 g ⟨i,rfl,hi,rfl,rfl,M⟩
 by_cases J:i<4
 ·have N:=dTo ((i:Int)<4)
  have c1:=iSu (i:=i);have c2:IntKind.i64.wrap (8*(i:Int))=((8*i:Nat):Int):=by rw[qQr x8 x8];omega
  have c3:=u64id (8*i) x8;have nj:(((8*i:Nat):Int)<0)=False:=by simp;omega
  have s1:=shr32 s (8*i) x8;have B:=cut32 (s >>> (8*i));have c4:IntKind.i64.wrap (((b.length - 4:Nat):Int)+(i:Int))=((b.length - 4+i:Nat):Int):=qXa;obtain⟨bb,o,cap,a3,rk⟩:=by_rd Z (i:=b.length - 4+i) x8;cases a3;have O:(0:Int)<=((b.length - 4+i:Nat):Int)/\((b.length - 4+i:Nat):Int)<(b.length:Int):=x8
  have A:=u8ne (b.getD (b.length - 4+i) 0) ((s >>> (8*i)).setWidth 8);rw[seal_at s J]at A B
  by_cases R:b.getD (b.length - 4+i) 0=(sealB s).getD i 0
  ·have A:(((b.getD (b.length - 4+i) 0).toNat:Int) != (((sealB s).getD i 0).toNat:Int))=false:=by rw[A,R];simp
   simp -implicitDefEqProofs only[go_sem,j7,N,c4,O.1,O.2,and_self,if_true,iTn,j8,rk,c2,c3,nj,if_false,s1,B,A,c1];refine⟨4 - (i+1),x8,i+1,rfl,x8,rfl,rfl,fun j a4=>?_⟩
   by_cases e:j=i
   ·rw[e];exact R
   ·exact M j x8
  ·have A:(((b.getD (b.length - 4+i) 0).toNat:Int) != (((sealB s).getD i 0).toNat:Int))=true:=by rw[A,beq_eq_false_iff_ne.2 R];rfl
   simp -implicitDefEqProofs only[go_sem,j7,N,c4,O.1,O.2,and_self,if_true,iTn,j8,rk,c2,c3,nj,if_false,s1,B,A];refine⟨?_,Y⟩;rw[H,decide_eq_false (fun h=>R (by rw[<- I i J,h]))]
 ·have N:=dFo ((i:Int)<4)
  have e:i=4:=x8
  subst e;simp -implicitDefEqProofs only[go_sem,j7,N];refine⟨?_,Y⟩;rw[H,decide_eq_true];refine List.ext_getElem (by rw[a0,sealB_len]) fun j h1 h2=>?_;have L:j<4:=x8
  have e1:=I j L;have e2:=M j L;rw[<- e1]at e2;simpa only[gDq,zZ h1,zZ h2,Option.getD_some] using e2
end R
end
section
namespace R
open Aud A
def UnRQ (w0:World)(r:Except Int (Nat × Bs))(v:Value)(w':World):Prop:=No w0 w'/\match r with
 | .error e=>v=.tuple #[.int .i64 0,.slice .none 0 0,.int .i64 e]
 | .ok (k,l)=>∃ A,v=.tuple #[.int .i64 (k:Nat),A,.int .i64 0]/\NwB w0 w' A l
theorem padTo_self {l:Bs}(h:l.length=n):padTo 0 n l=l:=by
 unfold padTo;rw[h,Nat.sub_self];simp
theorem unpack5 (w0:World)(ht:DivT w0)(U:By w0 v raw)(hl:raw.length=256)(h2:2<=p)(h4:p<4096) :
  Fn prog 49 #[.int .i64 (p:Nat),v] w0 fun r w'=>UnRQ w0 (unpP p raw) r w':=by
 refine go49 sm ?_;obtain⟨b,o,cap,rfl,B⟩:=U.pos x8;rw[hl]at B ⊢;rw[hl]at U;have d1:=dFo ((p:Int)<2);have d2:=dFo ((p:Int) ≥ 4096);have n1:((((256:Nat):Int)) != 256)=false:=rfl;simp -implicitDefEqProofs only[go_sem,j7,bSe,jV,Tryz.f49,d1,d2,n1];refine qQa pl86 ((whole2 w0 ht U x8 x8).mono ?_);rintro _ L ⟨rfl,D⟩;have A:=U.fr0 D;unfold UnRQ unpP
 by_cases M:qKj raw=false
 case pos =>
  rw[M,if_pos rfl];simp -implicitDefEqProofs only[go_sem,j7,xH];exact⟨D,trivial⟩
 rw[if_neg M];have M:qKj raw=true:=by simpa using M
 rw[M]
 have H:rdO prog 5 L b o=some (u8 (raw.getD 0 0)):=by
  have:=A.get agg5 (i:=0) x8
  rwa [yK]at this
 have I:rdO prog 5 L b (o+1)=some (u8 (raw.getD 1 0)):=A.get agg5 (i:=1) x8;have k8:=(raw.getD 0 0).isLt;have n8:=(raw.getD 1 0).isLt;have V:=ext8i (raw.getD 0 0);have W:=ext8i (raw.getD 1 0);generalize hk:(raw.getD 0 0).toNat=k at *;generalize hn:(raw.getD 1 0).toNat=n at *;have H:rdO prog 5 L b o=some (.int .u8 (k:Nat)):=by rw[H,<- hk]
 have I:rdO prog 5 L b (o+1)=some (.int .u8 (n:Nat)):=by rw[I,<- hn]
 have Y:(0:Int)<=0/\(0:Int)<((256:Nat):Int):=x8
 have Z:(0:Int)<=1/\(1:Int)<((256:Nat):Int):=x8
 by_cases N:¬ (1<=k/\k<=3)
 ·rw[if_pos N]
  by_cases a4:k<1
  ·have J:=dTo ((k:Int)<1)
   simp -implicitDefEqProofs only[go_sem,j7,qXd,y8,Y,Z,and_self,if_true,vI,kM,j8,j9,H,I,V,W,J];exact⟨D,trivial⟩
  ·have J:=dFo ((k:Int)<1)
   have d4:=dTo ((k:Int) > 3);simp -implicitDefEqProofs only[go_sem,j7,bSe,y8,Y,Z,and_self,if_true,vI,kM,j8,j9,H,I,V,W,J,d4];exact⟨D,trivial⟩
 rw[if_neg N];have J:=dFo ((k:Int)<1);have d4:=dFo ((k:Int) > 3)
 by_cases O:246<n
 ·rw[if_pos O]
  have d5:=dTo ((n:Int) > 246);simp -implicitDefEqProofs only[go_sem,j7,bSe,y8,Y,Z,and_self,if_true,vI,kM,j8,j9,H,I,V,W,J,d4,d5];exact⟨D,trivial⟩
 rw[if_neg O];have d5:=dFo ((n:Int) > 246);simp -implicitDefEqProofs only[go_sem,j7,bSe,y8,Y,Z,and_self,if_true,vI,kM,j8,j9,H,I,V,W,J,d4,d5];refine qQa pl87 ((read5 L A (at':=2) (n:=4) x8 x8).mono ?_);rintro _ w2 ⟨⟨x,rfl,hx⟩,rfl⟩;have f2:No w2 w2:=Fr.refl _ _
 have a5:le ((raw.drop 2).take 4)<2 ^ 32:=by
  have:=le_lt ((raw.drop 2).take 4);rw[lTk,lDr,hl]at this;exact this
 have hx:x=(le ((raw.drop 2).take 4):Int):=by
  rcases hx with ⟨h,_⟩ | ⟨_,h⟩
  ·exact h
  ·omega
 subst hx;have R:=A.fr0 f2;have e1:(((le ((raw.drop 2).take 4):Nat):Int) != ((p:Nat):Int))=decide (le ((raw.drop 2).take 4)≠p):=natne _ _
 by_cases hp:le ((raw.drop 2).take 4)≠p
 ·rw[if_pos hp]
  rw[decide_eq_true hp]at e1;simp -implicitDefEqProofs only[go_sem,j7,e1];exact⟨D.trans f2,trivial⟩
 rw[if_neg hp];rw[decide_eq_false hp]at e1;have c6:IntKind.i64.wrap (6+(n:Int))=((6+n:Nat):Int):=qXa (a:=6);simp -implicitDefEqProofs only[go_sem,j7,e1,c6];refine qQa pl88 ((zeros5 w2 R (i:=6+n) (j:=252) x8 x8 x8).mono ?_);rintro _ w3 ⟨rfl,rfl⟩;have f3:No w3 w3:=Fr.refl _ _;rw[show 252 - (6+n)=246 - n by omega];have a0:=R.fr0 f3;have E:=(D.trans f2).trans f3
 by_cases hz:zer ((raw.drop (6+n)).take (246 - n))=false
 ·rw[if_pos hz,hz]
  simp -implicitDefEqProofs only[go_sem,j7,xH];exact⟨E,trivial⟩
 rw[if_neg hz,show zer ((raw.drop (6+n)).take (246 - n))=true by simpa using hz];have s4:qQv prog 22 (.slice (some ⟨b,o,none⟩) 256 cap) (some (.int .i64 6)) (some (.int .i64 ((6+n:Nat):Int))) none=some (cutV 1 (some ⟨b,o,none⟩) cap 6 (6+n)):=qWa slc22 arr22 sz5 (l:=6) (m:=6+n) (n:=256) x8 x8 B;have hc:By w3 (cutV 1 (some ⟨b,o,none⟩) cap 6 (6+n)) ((raw.drop 6).take (6+n - 6)):=By.slc a0 x8 x8;rw[show 6+n - 6=n by omega]at hc;have a3:((raw.drop 6).take n).length=n:=by simp;omega
 simp -implicitDefEqProofs only[go_sem,j7,y8,c6,s4];refine qQa pl64 ((filled5 w3 hc (n:=n) x8 x8).mono ?_);rintro lv w4 ⟨b4,f4⟩;rw[padTo_self a3]at b4;simp -implicitDefEqProofs only[go_sem,j7];exact And.intro (E.trans f4) ⟨lv,rfl,b4.back E.size⟩
end R
end
section
namespace R
open Aud A
abbrev supG (s:Sup)(g:Int):Array Value:=#[.int .i64 (s.width:Nat),.int .i64 g,.int .i64 (s.mark:Nat),.int .i64 (s.head:Nat),.int .i64 (s.pages:Nat)]
theorem supG_one (s:Sup)(g:Int):(supG s g).all one=true:=by rw[<- kJ];rfl
theorem valid5 (w:World)(s:Sup){g:Int}(hg:g=(s.gen:Int)∨g = -1):Fn prog 127 #[.agg (supG s g)] w fun v w'=>v=.bool (decide (g=(s.gen:Int)/\s.ok))/\No w w':=by
 refine go127 sm ?_;obtain⟨W,B,D,V,s1⟩:=qQl w (supG s g) 67;have E:rdO prog 3 W w.heap.size 0=some (.int .i64 (s.width:Nat)):=rd1 agg3 V rfl;have J:rdO prog 3 W w.heap.size 1=some (.int .i64 g):=rd1 agg3 V rfl;have Y:rdO prog 3 W w.heap.size 2=some (.int .i64 (s.mark:Nat)):=rd1 agg3 V rfl;have r3:rdO prog 3 W w.heap.size 3=some (.int .i64 (s.head:Nat)):=rd1 agg3 V rfl;have N:rdO prog 3 W w.heap.size 4=some (.int .i64 (s.pages:Nat)):=rd1 agg3 V rfl
 by_cases h1:s.width<1
 case pos =>
  have A:=dTo ((s.width:Int)<1);have e:decide (g=(s.gen:Int)/\s.ok)=false:=decide_eq_false (fun h=>absurd h.2.1.1 x8);simp -implicitDefEqProofs only[go_sem,j7,yU,qXd,jV,Tryz.f127,yU,B,E,A,e];exact D
 have A:=dFo ((s.width:Int)<1)
 by_cases h2:32<s.width
 case pos =>
  have H:=dTo ((s.width:Int) > 32);have e:decide (g=(s.gen:Int)/\s.ok)=false:=decide_eq_false (fun h=>absurd h.2.1.2 x8);simp -implicitDefEqProofs only[go_sem,j7,yU,bSe,qXd,jV,Tryz.f127,yU,B,E,A,H,e];exact D
 have H:=dFo ((s.width:Int) > 32)
 by_cases h3:g<0
 case pos =>
  have I:=dTo (g<0);have e:decide (g=(s.gen:Int)/\s.ok)=false:=decide_eq_false (fun h=>by have:=h.1;omega);simp -implicitDefEqProofs only[go_sem,j7,yU,bSe,qXd,jV,Tryz.f127,yU,B,E,J,A,H,I,e];exact D
 have I:=dFo (g<0)
 by_cases h4:1099511627776<s.gen
 case pos =>
  have L:=dTo (g > 1099511627776);have e:decide (g=(s.gen:Int)/\s.ok)=false:=decide_eq_false (fun h=>absurd h.2.2.1 x8);simp -implicitDefEqProofs only[go_sem,j7,yU,bSe,jV,Tryz.f127,yU,B,E,J,A,H,I,L,e];exact D
 have L:=dFo (g > 1099511627776)
 by_cases h5:s.pages<3
 case pos =>
  have M:=dTo ((s.pages:Int)<3);have e:decide (g=(s.gen:Int)/\s.ok)=false:=decide_eq_false (fun h=>absurd h.2.2.2.1.1 x8);simp -implicitDefEqProofs only[go_sem,j7,yU,bSe,qXd,jV,Tryz.f127,yU,B,E,J,N,A,H,I,L,M,e];exact D
 have M:=dFo ((s.pages:Int)<3)
 by_cases h6:4096<s.pages
 case pos =>
  have O:=dTo ((s.pages:Int) > 4096);have e:decide (g=(s.gen:Int)/\s.ok)=false:=decide_eq_false (fun h=>absurd h.2.2.2.1.2 x8);simp -implicitDefEqProofs only[go_sem,j7,yU,bSe,qXd,jV,Tryz.f127,yU,B,E,J,N,A,H,I,L,M,O,e];exact D
 have O:=dFo ((s.pages:Int) > 4096)
 by_cases h7:s.mark<2
 case pos =>
  have U:=dTo ((s.mark:Int)<2);have e:decide (g=(s.gen:Int)/\s.ok)=false:=decide_eq_false (fun h=>absurd h.2.2.2.2.1.1 x8);simp -implicitDefEqProofs only[go_sem,j7,yU,bSe,qXd,jV,Tryz.f127,yU,B,E,J,Y,N,A,H,I,L,M,O,U,e];exact D
 have U:=dFo ((s.mark:Int)<2)
 by_cases h8:s.pages<s.mark
 case pos =>
  have Z:=dTo ((s.mark:Int) > (s.pages:Int));have e:decide (g=(s.gen:Int)/\s.ok)=false:=decide_eq_false (fun h=>absurd h.2.2.2.2.1.2 x8);simp -implicitDefEqProofs only[go_sem,j7,yU,bSe,jV,Tryz.f127,yU,B,E,J,Y,N,A,H,I,L,M,O,U,Z,e];exact D
 have Z:=dFo ((s.mark:Int) > (s.pages:Int))
 by_cases h9:s.head=0
 case pos =>
  have d9:((s.head:Int) == 0)=true:=by rw[h9];rfl
  have e:decide (g=(s.gen:Int)/\s.ok)=true:=decide_eq_true ⟨x8,⟨x8,x8⟩,x8,⟨x8,x8⟩,⟨x8,x8⟩,.inl h9⟩;simp -implicitDefEqProofs only[go_sem,j7,yU,bSe,qXd,jV,Tryz.f127,yU,B,E,J,Y,r3,N,A,H,I,L,M,O,U,Z,d9,e];exact D
 have d9:((s.head:Int) == 0)=false:=by rw[bFn];omega
 by_cases a0:2<=s.head
 case neg =>
  have R:=dFo ((s.head:Int) ≥ 2);have e:decide (g=(s.gen:Int)/\s.ok)=false:=decide_eq_false fun h=>h.2.2.2.2.2.elim h9 fun h=>a0 h.1;simp -implicitDefEqProofs only[go_sem,j7,yU,bSe,qQq,jV,Tryz.f127,yU,B,E,J,Y,r3,N,A,H,I,L,M,O,U,Z,d9,R,e];exact D
 have R:=dTo ((s.head:Int) ≥ 2);have a3:decide ((s.head:Int)<(s.mark:Int))=decide (s.head<s.mark):=natlt _ _;have e:decide (g=(s.gen:Int)/\s.ok)=decide (s.head<s.mark):=decide_eq_decide.2 ⟨fun h=>h.2.2.2.2.2.elim (fun h=>absurd h h9) fun h=>h.2,fun h=>⟨x8,⟨x8,x8⟩,x8,⟨x8,x8⟩,⟨x8,x8⟩,.inr ⟨a0,h⟩⟩⟩;simp -implicitDefEqProofs only[go_sem,j7,yU,bSe,jV,Tryz.f127,yU,B,E,J,Y,r3,N,A,H,I,L,M,O,U,Z,d9,R,a3,e];exact D
theorem empty5 (w:World)(A:By w v raw)(D:raw.length=256):Fn prog 85 #[v] w fun r w'=>r=.bool (zer (raw.take 64))/\w'=w:=by
 refine go85 sm ?_;obtain⟨E,H,rfl,B⟩:=A.slice;have n1:((raw.length:Int) == 256)=true:=by rw[D];rfl
 simp -implicitDefEqProofs only[go_sem,j7,bSe,Tryz.f85,n1];refine qQa pl88 ((zeros5 w A (i:=0) (j:=64) x8 x8 x8).mono ?_);rintro _ I ⟨rfl,rfl⟩;rw[jA,yQ];simp -implicitDefEqProofs only[go_sem,j7]
end R
end
section
namespace R
open Aud A
theorem newer5 (w0:World)(a b:Sup)(ha:a.ok)(hb:b.ok):Fn prog 84 #[.agg (supC a),.agg (supC b)] w0 (SuQ w0 (qZh a b)):=by
 refine go84 sm ?_;obtain⟨W,H,f1,k1,k2,k3,s1⟩:=allocs3 w0 (supC a) 67 (supC b) 67 sup0 67;have ga:=ha.2.1;have gb:=hb.2.1;have O:rdO prog 3 W w0.heap.size 0=some (.int .i64 (a.width:Nat)):=rd1 agg3 k1 rfl;have a1:rdO prog 3 W w0.heap.size 1=some (.int .i64 (a.gen:Nat)):=rd1 agg3 k1 rfl;have a2:rdO prog 3 W w0.heap.size 2=some (.int .i64 (a.mark:Nat)):=rd1 agg3 k1 rfl;have a4:rdO prog 3 W w0.heap.size 4=some (.int .i64 (a.pages:Nat)):=rd1 agg3 k1 rfl;have R:rdO prog 3 W (w0.heap.size+1) 0=some (.int .i64 (b.width:Nat)):=rd1 agg3 k2 rfl;have L:rdO prog 3 W (w0.heap.size+1) 1=some (.int .i64 (b.gen:Nat)):=rd1 agg3 k2 rfl;have b2:rdO prog 3 W (w0.heap.size+1) 2=some (.int .i64 (b.mark:Nat)):=rd1 agg3 k2 rfl;have b4:rdO prog 3 W (w0.heap.size+1) 4=some (.int .i64 (b.pages:Nat)):=rd1 agg3 k2 rfl;have la:=qQm (P:=prog) (t:=67) agg67 sz67 k1;have lb:=qQm (P:=prog) (t:=67) agg67 sz67 k2;have B:((2:Int)=0)=False:=sm
 have m2:∀ n:Nat,((n:Int).tmod 2)=((n % 2:Nat):Int):=fun n=>rfl;have I:=m2 a.gen;have M:=m2 b.gen
 have U:∀ (w:World) (vs:Array Value), No w0 w->w.heap[w0.heap.size+1+1]?=some (.cells sup0 67 (0, 0))->vs.size=5->vs.all one=true ->
   wrO prog 67 w (w0.heap.size+1+1) 0 (.agg vs)=some (put w (w0.heap.size+1+1) (.cells vs 67 (0,0)))/\rdO prog 67 (put w (w0.heap.size+1+1) (.cells vs 67 (0,0))) (w0.heap.size+1+1) 0=some (.agg vs)/\No w0 (put w (w0.heap.size+1+1) (.cells vs 67 (0,0))):=fun w vs f k h5 ho =>
  ⟨qQo (by rw[h5];exact sz67) k (by rw[h5];rfl) ho,qKs agg67 (by rw[h5];exact sz67) (qQd (o:=.cells vs 67 (0,0)) k),f.put (b:=w0.heap.size+1+1) _ fun h=>absurd h x8⟩
 obtain⟨V,Y,q3⟩:=U W sup0 f1 k3 rfl qZj;obtain⟨a3,a5,a6⟩:=U W (supC a) f1 k3 rfl (qZz _);obtain⟨a7,a8,a9⟩:=U W (supC b) f1 k3 rfl (qZz _);have bs:=qZn
 by_cases h1:a.gen % 2=0
 case neg =>
  have E:(((a.gen % 2:Nat):Int) != 0)=true:=by have:=natne (a.gen % 2) 0;rw[decide_eq_true h1]at this;exact this
  have e:qZh a b=.error 4:=by unfold qZh;rw[if_neg (fun h=>h1 h.1)]
  rw[e];simp -implicitDefEqProofs only[go_sem,j7,yU,qXd,jV,Tryz.f84,H,B,if_false,a1,I,E,bs,V,Y];exact⟨q3,rfl⟩
 have E:(((a.gen % 2:Nat):Int) != 0)=false:=by have:=natne (a.gen % 2) 0;rw[decide_eq_false (not_not_intro h1)]at this;exact this
 by_cases h2:b.gen % 2=1
 case neg =>
  have J:(((b.gen % 2:Nat):Int) != 1)=true:=by have:=natne (b.gen % 2) 1;rw[decide_eq_true h2]at this;exact this
  have e:qZh a b=.error 4:=by unfold qZh;rw[if_neg (fun h=>h2 h.2.1)]
  rw[e];simp -implicitDefEqProofs only[go_sem,j7,yU,bSe,qXd,jV,Tryz.f84,H,B,if_false,a1,L,I,M,E,J,bs,V,Y];exact⟨q3,rfl⟩
 have J:(((b.gen % 2:Nat):Int) != 1)=false:=by have:=natne (b.gen % 2) 1;rw[decide_eq_false (not_not_intro h2)]at this;exact this
 by_cases h3:a.width=b.width
 case neg =>
  have N:(((a.width:Nat):Int) != ((b.width:Nat):Int))=true:=by have:=natne a.width b.width;rw[decide_eq_true h3]at this;exact this
  have e:qZh a b=.error 4:=by unfold qZh;rw[if_neg (fun h=>h3 h.2.2.1)]
  rw[e];simp -implicitDefEqProofs only[go_sem,j7,yU,bSe,qXd,jV,Tryz.f84,H,B,if_false,O,a1,R,L,I,M,E,J,N,bs,V,Y];exact⟨q3,rfl⟩
 have N:(((a.width:Nat):Int) != ((b.width:Nat):Int))=false:=by have:=natne a.width b.width;rw[decide_eq_false (not_not_intro h3)]at this;exact this
 by_cases h4:a.pages=b.pages
 case neg =>
  have Z:(((a.pages:Nat):Int) != ((b.pages:Nat):Int))=true:=by have:=natne a.pages b.pages;rw[decide_eq_true h4]at this;exact this
  have e:qZh a b=.error 4:=by unfold qZh;rw[if_neg (fun h=>h4 h.2.2.2)]
  rw[e];simp -implicitDefEqProofs only[go_sem,j7,yU,bSe,jV,Tryz.f84,H,B,if_false,O,a1,a4,R,L,b4,I,M,E,J,N,Z,bs,V,Y];exact⟨q3,rfl⟩
 have Z:(((a.pages:Nat):Int) != ((b.pages:Nat):Int))=false:=by have:=natne a.pages b.pages;rw[decide_eq_false (not_not_intro h4)]at this;exact this
 have hN:qZh a b=if a.gen=b.gen+1/\b.mark<=a.mark then .ok a else if b.gen=a.gen+1/\a.mark<=b.mark then .ok b else .error 4:=by unfold qZh;rw[if_pos ⟨h1,h2,h3,h4⟩]
 rw[hN];have c1:IntKind.i64.wrap ((b.gen:Int)+1)=((b.gen+1:Nat):Int):=qXa (b:=1);have c2:IntKind.i64.wrap ((a.gen:Int)+1)=((a.gen+1:Nat):Int):=qXa (b:=1);have e1:=nateq a.gen (b.gen+1);have e2:=nateq b.gen (a.gen+1);have g1:decide (((a.mark:Nat):Int) ≥ ((b.mark:Nat):Int))=decide (b.mark<=a.mark):=sm
 have g2:decide (((b.mark:Nat):Int) ≥ ((a.mark:Nat):Int))=decide (a.mark<=b.mark):=sm
 have A:¬ (a.gen=b.gen+1/\b.mark<=a.mark)->(b.gen=a.gen+1/\a.mark<=b.mark->SuQ w0 (if a.gen=b.gen+1/\b.mark<=a.mark then .ok a else if b.gen=a.gen+1/\a.mark<=b.mark then .ok b else .error 4) (.tuple #[.agg (supC b),.int .i64 0]) (put W (w0.heap.size+1+1) (.cells (supC b) 67 (0,0))))/\(¬ (b.gen=a.gen+1/\a.mark<=b.mark)->SuQ w0 (if a.gen=b.gen+1/\b.mark<=a.mark then .ok a else if b.gen=a.gen+1/\a.mark<=b.mark then .ok b else .error 4) (.tuple #[.agg sup0,.int .i64 4]) (put W (w0.heap.size+1+1) (.cells sup0 67 (0,0)))):=fun hn=>⟨fun h=>by rw[if_neg hn,if_pos h];exact⟨a9,rfl⟩,fun h=>by rw[if_neg hn,if_neg h];exact⟨q3,rfl⟩⟩
 by_cases x1:a.gen=b.gen+1
 ·rw[decide_eq_true x1]at e1
  by_cases x2:b.mark<=a.mark
  ·rw[decide_eq_true x2]at g1
   rw[if_pos ⟨x1,x2⟩];simp -implicitDefEqProofs only[go_sem,j7,yU,bSe,jV,Tryz.f84,H,B,if_false,O,a1,a2,a4,R,L,b2,b4,I,M,E,J,N,Z,c1,e1,g1,la,a3,a5];exact⟨a6,rfl⟩
  ·rw[decide_eq_false x2]at g1
   have hn:¬ b.gen=a.gen+1:=x8
   rw[decide_eq_false hn]at e2;have D:=(A fun h=>x2 h.2).2 fun h=>hn h.1;simp -implicitDefEqProofs only[go_sem,j7,yU,bSe,qQq,jV,Tryz.f84,H,B,if_false,O,a1,a2,a4,R,L,b2,b4,I,M,E,J,N,Z,c1,c2,e1,g1,e2,bs,V,Y];exact D
 ·rw[decide_eq_false x1]at e1
  by_cases x3:b.gen=a.gen+1
  ·rw[decide_eq_true x3]at e2
   by_cases x4:a.mark<=b.mark
   ·rw[decide_eq_true x4]at g2
    have D:=(A fun h=>x1 h.1).1 ⟨x3,x4⟩;simp -implicitDefEqProofs only[go_sem,j7,yU,bSe,qQq,jV,Tryz.f84,H,B,if_false,O,a1,a2,a4,R,L,b2,b4,I,M,E,J,N,Z,c1,c2,e1,e2,g2,lb,a7,a8];exact D
   ·rw[decide_eq_false x4]at g2
    have D:=(A fun h=>x1 h.1).2 fun h=>x4 h.2;simp -implicitDefEqProofs only[go_sem,j7,yU,bSe,qQq,jV,Tryz.f84,H,B,if_false,O,a1,a2,a4,R,L,b2,b4,I,M,E,J,N,Z,c1,c2,e1,e2,g2,bs,V,Y];exact D
  ·rw[decide_eq_false x3]at e2
   have D:=(A fun h=>x1 h.1).2 fun h=>x3 h.1;simp -implicitDefEqProofs only[go_sem,j7,yU,bSe,qQq,jV,Tryz.f84,H,B,if_false,O,a1,a4,R,L,b4,I,M,E,J,N,Z,c1,c2,e1,e2,bs,V,Y];exact D
end R
end
section
namespace R
open Aud A
theorem le_snoc (l:Bs)(x:Byte):le (l++[x])=le l+256 ^ l.length*x.toNat:=by
 induction l with
 | nil=>show x.toNat+256*0=0+1*x.toNat;omega
 | cons y l A =>
  show y.toNat+256*le (l++[x])=y.toNat+256*le l+256 ^ (l.length+1)*x.toNat;rw[A,Nat.pow_succ,Nat.mul_add,Nat.mul_comm (256 ^ l.length) 256,Nat.mul_assoc];omega
theorem le8 (B:16<=raw.length):le ((raw.drop 8).take 8)=le ((raw.drop 8).take 7)+256 ^ 7*(raw.getD 15 0).toNat:=by
 have A:7<(raw.drop 8).length:=by rw[lDr];omega
 rw[tSg A,le_snoc,lTk,Nat.min_eq_left x8]
 congr 2
 rw[List.getElem_drop,gDq,zZ x8]
 rfl
def supR8 (raw:Bs):Sup:={ supR raw with gen:=le ((raw.drop 8).take 8) }
theorem sup8 (J:16<=raw.length){x:Int}(I:RdOk ((raw.drop 8).take 8) x):((x=((supR8 raw).gen:Int)/\(supR8 raw).ok) ↔ (raw.getD 15 0=0/\(supR raw).ok))/\((raw.getD 15 0=0/\(supR raw).ok)->supG (supR8 raw) x=supC (supR raw)):=by
 have e:=le8 J;have D:(supR8 raw).gen=le ((raw.drop 8).take 8):=rfl;have N:(supR raw).gen=le ((raw.drop 8).take 7):=rfl;have L:256 ^ 7=72057594037927936:=j0
 have key:raw.getD 15 0=0->(supR8 raw)=supR raw:=fun E=>by
  rw[E]at e;have:le ((raw.drop 8).take 8)=le ((raw.drop 8).take 7):=by rw[e];simp
  unfold supR8;rw[this]
  rfl
 have H:(supR8 raw).gen<=2 ^ 40->raw.getD 15 0=0:=fun h=>by
  rw[D,e,L]at h;refine BitVec.eq_of_toNat_eq ?_;show (raw.getD 15 0).toNat=0;omega
 refine⟨⟨fun ⟨A,B⟩=>?_,fun ⟨A,B⟩=>?_⟩,fun ⟨A,B⟩=>?_⟩
 ·have E:=H B.2.1
  exact⟨E,by rw[<- key E];exact B⟩
 ·rw[key A]
  refine⟨?_,B⟩;have M:=B.2.1
  rcases I with ⟨h,_⟩ | ⟨_,h⟩
  ·rw[h,<- D,key A]
  ·rw[<- D,key A]at h;omega
 ·have M:=B.2.1
  rcases I with ⟨h,_⟩ | ⟨_,h⟩
  ·rw[h,<- D,key A]
  ·rw[<- D,key A]at h;omega
theorem unpackSuper5 (w0:World)(ht:DivT w0){b o cap:Nat}(hp:By w0 (.slice (some ⟨b, o, none⟩) 256 cap) raw)(a6:256<=cap) :
  Fn prog 83 #[.slice (some ⟨b,o,none⟩) 256 cap] w0 (SuQ w0 (supP raw)):=by
 have a7:raw.length=256:=hp.len.symm;refine go83 sm ?_;obtain⟨W,hW,f1,k1,s1⟩:=qQl w0 sup0 67;have d1:(((256:Nat):Int) != 256)=false:=rfl;have b1:qQv prog 22 (.slice (some ⟨b,o,none⟩) 256 cap) none (some (.int .i64 64)) none=some (.slice (some ⟨b,o,none⟩) 64 cap):=(slc_hi slc22 arr22 sz5 (l:=64) (n:=256) x8 a6).trans (by rw[cutV_hi])
 have y1:By W (.slice (some ⟨b,o,none⟩) 64 cap) (raw.take 64):=by
  have:=By.slc (hp.fr0 f1) (l:=0) (m:=64) x8 x8;rw[cutV_hi]at this;exact this
 have b7:(raw.take 64).length=64:=by rw[lTk];omega
 simp -implicitDefEqProofs only[go_sem,j7,yU,Tryz.f83,d1,b1,hW];refine qQa pl86 ((whole2 W (ht.no f1) y1 x8 x8).mono ?_);rintro _ w1 ⟨rfl,f2⟩;have B:=f1.trans f2;have k2:=f2.at k1 id
 have a5:∀ (w:World) (vs:Array Value), No w0 w->w.heap[w0.heap.size]?=some (.cells sup0 67 (0, 0))->vs.size=5->vs.all one=true ->
   wrO prog 67 w w0.heap.size 0 (.agg vs)=some (put w w0.heap.size (.cells vs 67 (0,0)))/\rdO prog 67 (put w w0.heap.size (.cells vs 67 (0,0))) w0.heap.size 0=some (.agg vs)/\No w0 (put w w0.heap.size (.cells vs 67 (0,0))):=fun w vs f k h5 ho =>
  ⟨qQo (by rw[h5];exact sz67) k (by rw[h5];rfl) ho,qKs agg67 (by rw[h5];exact sz67) (qQd (o:=.cells vs 67 (0,0)) k),f.put (b:=w0.heap.size) _ fun h=>absurd h (yZ _)⟩
 unfold supP
 cases hw:qKj (raw.take 64) with
 | false =>
  obtain⟨D,E,H⟩:=a5 w1 sup0 B k2 rfl qZj;rw[if_pos rfl];simp -implicitDefEqProofs only[go_sem,j7,xH,qZn,D,E];exact⟨H,rfl⟩
 | true =>
  rw[if_neg j0];have U:=hp.fr0 B
  have I:∀ w, No w0 w->w.heap[w0.heap.size]?=some (.cells sup0 67 (0, 0))->¬ (supF raw/\(supR raw).ok) ->
    wrO prog 67 w w0.heap.size 0 (.agg sup0)=some (put w w0.heap.size (.cells sup0 67 (0,0)))/\rdO prog 67 (put w w0.heap.size (.cells sup0 67 (0,0))) w0.heap.size 0=some (.agg sup0)/\SuQ w0 (if supF raw/\(supR raw).ok then .ok (supR raw) else .error 53) (.tuple #[.agg sup0,.int .i64 53]) (put w w0.heap.size (.cells sup0 67 (0,0))):=fun w f k hn=>by
   obtain⟨D,E,H⟩:=a5 w sup0 f k rfl qZj;rw[if_neg hn];exact⟨D,E,H,rfl⟩
  have rr:∀ i,i<256->rdO prog 5 w1 b (o+i)=some (.int .u8 ((raw.getD i 0).toNat:Int)):=fun i hi=>U.get agg5 x8;have r0:rdO prog 5 w1 b o=some (.int .u8 ((raw.getD 0 0).toNat:Int)):=rr 0 x8;have r1:=rr 1 x8;have r2:=rr 2 x8;have r3:=rr 3 x8;have i0:(0:Int)<=0/\(0:Int)<((256:Nat):Int):=x8
  have i1:(0:Int)<=1/\(1:Int)<((256:Nat):Int):=x8
  have i2:(0:Int)<=2/\(2:Int)<((256:Nat):Int):=x8
  have i3:(0:Int)<=3/\(3:Int)<((256:Nat):Int):=x8
  have L:supF raw->raw.getD 0 0=76/\raw.getD 1 0=68/\raw.getD 2 0=71/\raw.getD 3 0=49:=fun h=>by
   have h4:=h.1;have g:∀ i,i<4->raw.getD i 0=([76,68,71,49]:Bs).getD i 0:=fun i hi=>by rw[<- h4,getD_take hi]
   exact⟨g 0 x8,g 1 x8,g 2 x8,g 3 x8⟩
  have ne:∀ (i:Nat) (y:Byte) (n:Int),(y.toNat:Int)=n->(((raw.getD i 0).toNat:Int) != n)=!(raw.getD i 0 == y):=fun i y n h=>by rw[<- h];exact u8ne _ _
  by_cases h0:raw.getD 0 0=76
  case neg =>
   have e0:(((raw.getD 0 0).toNat:Int) != 76)=true:=by rw[ne 0 76 76 rfl,beq_eq_false_iff_ne.2 h0];rfl
   obtain⟨D,E,H⟩:=I w1 B k2 fun h=>h0 (L h.1).1;simp -implicitDefEqProofs only[go_sem,j7,qXd,y8,i0,and_self,if_true,vI,j9,r0,e0,qZn,D,E];exact H
  have e0:(((raw.getD 0 0).toNat:Int) != 76)=false:=by rw[h0];rfl
  by_cases h1:raw.getD 1 0=68
  case neg =>
   have e1:(((raw.getD 1 0).toNat:Int) != 68)=true:=by rw[ne 1 68 68 rfl,beq_eq_false_iff_ne.2 h1];rfl
   obtain⟨D,E,H⟩:=I w1 B k2 fun h=>h1 (L h.1).2.1;simp -implicitDefEqProofs only[go_sem,j7,bSe,qXd,y8,i0,i1,and_self,if_true,vI,kM,j8,j9,r0,r1,e0,e1,qZn,D,E];exact H
  have e1:(((raw.getD 1 0).toNat:Int) != 68)=false:=by rw[h1];rfl
  by_cases h2:raw.getD 2 0=71
  case neg =>
   have e2:(((raw.getD 2 0).toNat:Int) != 71)=true:=by rw[ne 2 71 71 rfl,beq_eq_false_iff_ne.2 h2];rfl
   obtain⟨D,E,H⟩:=I w1 B k2 fun h=>h2 (L h.1).2.2.1;simp -implicitDefEqProofs only[go_sem,j7,bSe,qXd,y8,i0,i1,i2,and_self,if_true,vI,kM,jN,j8,j9,r0,r1,r2,e0,e1,e2,qZn,D,E];exact H
  have e2:(((raw.getD 2 0).toNat:Int) != 71)=false:=by rw[h2];rfl
  by_cases h3:raw.getD 3 0=49
  case neg =>
   have e3:(((raw.getD 3 0).toNat:Int) != 49)=true:=by rw[ne 3 49 49 rfl,beq_eq_false_iff_ne.2 h3];rfl
   obtain⟨D,E,H⟩:=I w1 B k2 fun h=>h3 (L h.1).2.2.2;simp -implicitDefEqProofs only[go_sem,j7,bSe,qXd,y8,i0,i1,i2,i3,and_self,if_true,vI,kM,jN,j8,j9,r0,r1,r2,r3,e0,e1,e2,e3,qZn,D,E];exact H
  have e3:(((raw.getD 3 0).toNat:Int) != 49)=false:=by rw[h3];rfl
  have hL:raw.take 4=[76,68,71,49]:=by
   refine List.ext_getElem (by rw[lTk];simp;omega) fun i hi _=>?_;rw[lTk]at hi;have:i<raw.length:=x8
   rw[List.getElem_take];have g:∀ j (hj:j<raw.length) y,raw.getD j 0=y->raw[j]=y:=fun j hj y h=>by rw[<- h,gDq,zZ hj];rfl
   rcases (by omega:i=0∨i=1∨i=2∨i=3) with rfl | rfl | rfl | rfl
   ·exact g 0 _ _ h0
   ·exact g 1 _ _ h1
   ·exact g 2 _ _ h2
   ·exact g 3 _ _ h3
  simp -implicitDefEqProofs only[go_sem,j7,bSe,y8,i0,i1,i2,i3,and_self,if_true,vI,kM,jN,j8,j9,r0,r1,r2,r3,e0,e1,e2,e3];refine qQa pl88 ((zeros5 w1 U (i:=5) (j:=8) x8 x8 x8).mono ?_);rintro _ _ ⟨rfl,rfl⟩;rename_i w4;rw[show 8 - 5=3 from rfl]
  cases a8:zer ((raw.drop 5).take 3) with
  | false =>
   obtain⟨D,E,H⟩:=I w4 B k2 fun h=>by have:=h.1.2.1;rw[a8]at this;cases this
   simp -implicitDefEqProofs only[go_sem,j7,bSe,qXd,xH,qZn,D,E];exact H
  | true =>
  simp -implicitDefEqProofs only[go_sem,j7,bSe,y8];refine qQa pl88 ((zeros5 w4 U (i:=28) (j:=60) x8 x8 x8).mono ?_);rintro _ _ ⟨rfl,rfl⟩;rename_i w4;rw[show 60 - 28=32 from rfl]
  cases a9:zer ((raw.drop 28).take 32) with
  | false =>
   obtain⟨D,E,H⟩:=I w4 B k2 fun h=>by have:=h.1.2.2.1;rw[a9]at this;cases this
   simp -implicitDefEqProofs only[go_sem,j7,bSe,xH,qZn,D,E];exact H
  | true =>
  have a3:(supF raw/\(supR raw).ok) ↔ (raw.getD 15 0=0/\(supR raw).ok):=⟨fun h=>⟨h.1.2.2.2,h.2⟩,fun h=>⟨⟨hL,a8,a9,h.1⟩,h.2⟩⟩
  have r4:=rr 4 x8;have e4:=ext8i (raw.getD 4 0);have x4:(0:Int)<=4/\(4:Int)<((256:Nat):Int):=x8
  have bs:∀ x:Int,bldO prog 67 [(0,.int .i64 ((raw.getD 4 0).toNat:Int)),(1,.int .i64 x),(2,.int .i64 (le ((raw.drop 16).take 4):Nat)),(3,.int .i64 (le ((raw.drop 20).take 4):Nat)),(4,.int .i64 (le ((raw.drop 24).take 4):Nat))]=some (.agg (supG (supR8 raw) x)):=fun x=>bldSup _ _ _ _ _
  have A:∀ (w:World),By w (.slice (some ⟨b,o,none⟩) 256 cap) raw->∀ at':Nat,at'+4<=256->Fn prog 87 #[.slice (some ⟨b,o,none⟩) 256 cap,.int .i64 (at':Nat),.int .i64 4] w fun v w'=>v=.int .i64 (le ((raw.drop at').take 4):Nat)/\w'=w:=fun w h at' ha=>by
   refine (read5 w h (at':=at') (n:=4) x8 x8).mono ?_;rintro _ w' ⟨⟨x,rfl,V⟩,rfl⟩;refine⟨?_,rfl⟩;have:=le_lt ((raw.drop at').take 4);rw[lTk,lDr,a7,Nat.min_eq_left x8]at this;have p4:256 ^ 4=4294967296:=j0
   rcases V with ⟨h,_⟩ | ⟨_,h⟩
   ·rw[h]
   ·omega
  have a4:∀ (w:World),By w (.slice (some ⟨b,o,none⟩) 256 cap) raw->Fn prog 87 #[.slice (some ⟨b,o,none⟩) 256 cap,.int .i64 8,.int .i64 8] w fun v w'=>(∃ x,v=.int .i64 x/\RdOk ((raw.drop 8).take 8) x)/\w'=w:=fun w h=>read5 w h (at':=8) (n:=8) x8 x8;simp -implicitDefEqProofs only[go_sem,j7,bSe,y8];refine qXg (Q:=fun e ev w=>e=.normal/\∃ tb x,RdOk ((raw.drop 8).take 8) x/\ev 2=pt w0.heap.size 0/\ev 4=pt tb 0/\w.heap[tb]?=some (.cells (supG (supR8 raw) x) 67 (0,0))/\No w0 w/\w.heap[w0.heap.size]?=some (.cells sup0 67 (0,0))) _ (fun e ev w=>?_) ?_
  ·rintro⟨rfl,tb,x,V,e2,e5,kt,fw,kr⟩
   obtain⟨h8,b3⟩:=sup8 (raw:=raw) x8 V
   have b4:x=((supR8 raw).gen:Int)∨x = -1:=by
    rcases V with ⟨h,_⟩ | ⟨h,_⟩
    ·exact .inl h
    ·exact .inr h
   have rt:=qQm (P:=prog) (t:=67) agg67 sz67 kt;simp -implicitDefEqProofs only[go_sem,e5,rt];refine qQa pl127 ((valid5 w (supR8 raw) b4).mono ?_);rintro _ w5 ⟨rfl,f5⟩
   by_cases a0:x=((supR8 raw).gen:Int)/\(supR8 raw).ok
   case neg =>
    obtain⟨D,E,H⟩:=I w5 (fw.trans f5) (f5.at kr id) fun h=>a0 (h8.2 (a3.1 h));rw[decide_eq_false a0];simp -implicitDefEqProofs only[go_sem,j7,xH,e2,qZn,D,E];exact H
   rw[decide_eq_true a0];have Y:=h8.1 a0;have kt:=f5.at kt id;rw[b3 Y]at kt;obtain⟨D,E,H⟩:=a5 w5 (supC (supR raw)) (fw.trans f5) (f5.at kr id) rfl (qZz _);have b5:=qQm (P:=prog) (t:=67) agg67 sz67 kt;rw[if_pos (a3.2 Y)];simp -implicitDefEqProofs only[go_sem,j7,y8,e2,e5,b5,D,E];exact⟨H,rfl⟩
  have b0:∀ w:World, By w (.slice (some ⟨b, o, none⟩) 256 cap) raw->w.heap[w0.heap.size]?=some (.cells sup0 67 (0, 0))->No w0 w->∃ W, w.alloc (.cells sup0 67)=W/\Ext w W/\By W (.slice (some ⟨b, o, none⟩) 256 cap) raw /\
    ∀ x:Int,wrO prog 67 W w.heap.size 0 (.agg (supG (supR8 raw) x))=some (put W w.heap.size (.cells (supG (supR8 raw) x) 67 (0,0)))/\(put W w.heap.size (.cells (supG (supR8 raw) x) 67 (0,0))).heap[w.heap.size]?=some (.cells (supG (supR8 raw) x) 67 (0,0))/\No w0 (put W w.heap.size (.cells (supG (supR8 raw) x) 67 (0,0)))/\(put W w.heap.size (.cells (supG (supR8 raw) x) 67 (0,0))).heap[w0.heap.size]?=some (.cells sup0 67 (0,0)):=fun w hb kr f=>by
   obtain⟨W5,J,f5,k5,s5⟩:=qQl w sup0 67;exact⟨W5,J,f5.ext,hb.fr0 f5,fun x=>⟨qQo sz67 k5 rfl (supG_one _ _),qQd (o:=.cells (supG (supR8 raw) x) 67 (0,0)) k5,(f.trans f5).put (b:=w.heap.size) _ fun h=>by have:=f.size;omega,qQh (b:=w.heap.size) (o:=.cells (supG (supR8 raw) x) 67 (0,0)) (f5.at kr id) (by have:=qQi kr;omega)⟩⟩
  have b6:rdO prog 5 w4.drew b (o+4)=some (.int .u8 ((raw.getD 4 0).toNat:Int)):=r4;have Z:By w4.drew (.slice (some ⟨b,o,none⟩) 256 cap) raw:=U
  replace k2:w4.drew.heap[w0.heap.size]?=_:=k2
  replace B:=B.drew
  clear r4 rr r0 r1 r2 r3 U;refine qXj (fun j=>j == 5 || (j == 7 || (j == 9 || (j == 11 || j == 13)))) (.one 0 (.one 1 (.one 2 (.one 3 (.one 4 (.one 6 (.one 8 (.one 10 (.two 5 (.two 7 (.two 9 (.two 11 (.row [12,13,14]) 13 (.row [11,12,14])) 13 (.row [9,11,12,14])) 13 (.row [7,9,11,12,14])) 13 (.row [5,7,9,11,12,14])))))))))) rfl x9 x9 ?_;generalize w4.drew=w4 at *;obtain⟨W5,J,x5,kS,q5⟩:=b0 w4 Z k2 B;simp -implicitDefEqProofs only[go_sem,j7,yX,yU,bSe,OT.row,x4,and_self,if_true,jN,j8,b6,e4,J,x5,implies_true];refine⟨?_,?_⟩
  ·refine qQc pl87 ((a4 _ Z).mono ?_);rintro _ _ ⟨⟨x,rfl,V⟩,rfl⟩;refine⟨fun _=>Ext.refl _,?_⟩
   obtain⟨M,N,O,R⟩:=q5 x;simp -implicitDefEqProofs only[go_sem,j7,yX,yU,bSe,J,x5,implies_true];refine⟨?_,?_⟩
   ·refine qQc pl87 ((A _ Z 16 x8).mono ?_);rintro _ _ ⟨rfl,rfl⟩;refine⟨fun _=>Ext.refl _,?_⟩
    simp -implicitDefEqProofs only[go_sem,j7,yX,yU,bSe,J,x5,implies_true];refine⟨?_,?_⟩
    ·refine qQc pl87 ((A _ Z 20 x8).mono ?_);rintro _ _ ⟨rfl,rfl⟩;refine⟨fun _=>Ext.refl _,?_⟩
     simp -implicitDefEqProofs only[go_sem,j7,yX,yU,bSe,J,x5,implies_true];refine⟨?_,?_⟩
     ·refine qQc pl87 ((A _ Z 24 x8).mono ?_);rintro _ _ ⟨rfl,rfl⟩;refine⟨fun _=>Ext.refl _,?_⟩
      simp -implicitDefEqProofs only[go_sem,j7,yX,yU,bSe,bs,J,M,x5,implies_true];exact⟨_,x,V,rfl,N,O,R⟩
     ·refine qQc pl87 ((A _ kS 24 x8).mono ?_);rintro _ _ ⟨rfl,rfl⟩;refine⟨fun _=>Ext.refl _,?_⟩
      simp -implicitDefEqProofs only[go_sem,j7,yX,bs,M];exact⟨_,x,V,rfl,N,O,R⟩
    ·refine qQc pl87 ((A _ kS 20 x8).mono ?_);rintro _ _ ⟨rfl,rfl⟩;refine⟨fun _=>Ext.refl _,?_⟩
     simp -implicitDefEqProofs only[go_sem,j7];refine qQc pl87 ((A _ kS 24 x8).mono ?_);rintro _ _ ⟨rfl,rfl⟩;refine⟨fun _=>Ext.refl _,?_⟩;simp -implicitDefEqProofs only[go_sem,j7,yX,bs,M];exact⟨_,x,V,rfl,N,O,R⟩
   ·refine qQc pl87 ((A _ kS 16 x8).mono ?_);rintro _ _ ⟨rfl,rfl⟩;refine⟨fun _=>Ext.refl _,?_⟩
    simp -implicitDefEqProofs only[go_sem,j7];refine qQc pl87 ((A _ kS 20 x8).mono ?_);rintro _ _ ⟨rfl,rfl⟩;refine⟨fun _=>Ext.refl _,?_⟩;simp -implicitDefEqProofs only[go_sem,j7];refine qQc pl87 ((A _ kS 24 x8).mono ?_);rintro _ _ ⟨rfl,rfl⟩;refine⟨fun _=>Ext.refl _,?_⟩;simp -implicitDefEqProofs only[go_sem,j7,yX,bs,M];exact⟨_,x,V,rfl,N,O,R⟩
  ·refine qQc pl87 ((a4 _ kS).mono ?_);rintro _ _ ⟨⟨x,rfl,V⟩,rfl⟩;refine⟨fun _=>Ext.refl _,?_⟩
   obtain⟨M,N,O,R⟩:=q5 x;simp -implicitDefEqProofs only[go_sem,j7];refine qQc pl87 ((A _ kS 16 x8).mono ?_);rintro _ _ ⟨rfl,rfl⟩;refine⟨fun _=>Ext.refl _,?_⟩;simp -implicitDefEqProofs only[go_sem,j7];refine qQc pl87 ((A _ kS 20 x8).mono ?_);rintro _ _ ⟨rfl,rfl⟩;refine⟨fun _=>Ext.refl _,?_⟩;simp -implicitDefEqProofs only[go_sem,j7];refine qQc pl87 ((A _ kS 24 x8).mono ?_);rintro _ _ ⟨rfl,rfl⟩;refine⟨fun _=>Ext.refl _,?_⟩;simp -implicitDefEqProofs only[go_sem,j7,yX,bs,M];exact⟨_,x,V,rfl,N,O,R⟩
end R
end
section
namespace R
open Aud A
theorem choose5 (w0:World)(ht:DivT w0){b o cap:Nat}{D:Bs}(hp:By w0 (.slice (some ⟨b, o, none⟩) 256 cap) D)(a3:256<=cap){b' o' H:Nat}{E:Bs}(L:By w0 (.slice (some ⟨b', o', none⟩) 256 H) E)(Z:256<=H) :
  Fn prog 46 #[.slice (some ⟨b,o,none⟩) 256 cap,.slice (some ⟨b',o',none⟩) 256 H] w0 (SuQ w0 (qZc D E)):=by
 refine go46 sm ?_;obtain⟨W,hW,f1,k1,s1⟩:=qQl w0 sup0 67;simp -implicitDefEqProofs only[go_sem,j7,yU,jV,Tryz.f46,hW];refine qQa pl83 ((unpackSuper5 W (ht.no f1) (hp.fr0 f1) a3).mono ?_);rintro _ U ⟨f2,h2⟩;have a4:=f1.trans f2
 have a5:∀ (w:World) (vs:Array Value), No w0 w->w.heap[w0.heap.size]?=some (.cells sup0 67 (0, 0))->vs.size=5->vs.all one=true ->
   wrO prog 67 w w0.heap.size 0 (.agg vs)=some (put w w0.heap.size (.cells vs 67 (0,0)))/\rdO prog 67 (put w w0.heap.size (.cells vs 67 (0,0))) w0.heap.size 0=some (.agg vs)/\No w0 (put w w0.heap.size (.cells vs 67 (0,0))):=fun w vs f k h5 ho =>
  ⟨qQo (by rw[h5];exact sz67) k (by rw[h5];rfl) ho,qKs agg67 (by rw[h5];exact sz67) (qQd (o:=.cells vs 67 (0,0)) k),f.put (b:=w0.heap.size) _ fun h=>absurd h (yZ _)⟩
 obtain⟨b7,rfl⟩:=SuQ.eq ⟨f2,h2⟩;have k2:=f2.at k1 id;generalize A:supP D=xa at *;obtain⟨W3,b3,f3,k3,s3⟩:=qQl U sup0 67;have I:wrO prog 67 W3 U.heap.size 0 (.agg (suC xa))=some (put W3 U.heap.size (.cells (suC xa) 67 (0,0))):=qQo (by rw[qZr];exact sz67) k3 (by rw[qZr];rfl) (suC_one _);have k4:=qQd (o:=.cells (suC xa) 67 (0,0)) k3;have b4:=qQh (b:=U.heap.size) (o:=.cells (suC xa) 67 (0,0)) (f3.at k2 id) (by have:=qQi k2;omega);have f4:No w0 (put W3 U.heap.size (.cells (suC xa) 67 (0,0))):=(a4.trans f3).put (b:=U.heap.size) _ fun h=>by have:=a4.size;omega
 simp -implicitDefEqProofs only[go_sem,j7,yU,b3,I];generalize put W3 U.heap.size (.cells (suC xa) 67 (0,0))=w4 at *;generalize b8:U.heap.size=tx at *;refine qQa pl83 ((unpackSuper5 w4 (ht.no f4) (L.fr0 f4) Z).mono ?_);rintro _ M h5;obtain⟨f5,rfl⟩:=SuQ.eq h5;clear h5;have a6:=f4.trans f5;generalize N:supP E=B at *;obtain⟨W6,b5,f6,k6,s6⟩:=qQl M sup0 67;have q6:wrO prog 67 W6 M.heap.size 0 (.agg (suC B))=some (put W6 M.heap.size (.cells (suC B) 67 (0,0))):=qQo (by rw[qZr];exact sz67) k6 (by rw[qZr];rfl) (suC_one _);have k7:=qQd (o:=.cells (suC B) 67 (0,0)) k6;have a7:=f5.at k4 id;have a8:=f5.at b4 id;have k8:=qQh (b:=M.heap.size) (o:=.cells (suC B) 67 (0,0)) (f6.at a7 id) (by have:=qQi a7;omega);have k9:=qQh (b:=M.heap.size) (o:=.cells (suC B) 67 (0,0)) (f6.at a8 id) (by have:=qQi a8;omega);have f7:No w0 (put W6 M.heap.size (.cells (suC B) 67 (0,0))):=(a6.trans f6).put (b:=M.heap.size) _ fun h=>by have:=a6.size;omega
 have a9:∀ e,supP D=.error e->((e:Int) == 0)=false:=fun e h=>by rw[bFn];exact supP_err h
 have b6:∀ e,supP E=.error e->((e:Int) == 0)=false:=fun e h=>by rw[bFn];exact supP_err h
 simp -implicitDefEqProofs only[go_sem,j7,yU,b5,q6];generalize put W6 M.heap.size (.cells (suC B) 67 (0,0))=J at *;generalize b9:M.heap.size=ty at *;have lx:=qQm (P:=prog) (t:=67) agg67 sz67 k8 (qZr _);have ly:=qQm (P:=prog) (t:=67) agg67 sz67 k7 (qZr _);have rg:rdO prog 3 J tx 1=some (.int .i64 (suG xa:Nat)):=rd1 agg3 k8 (suC_gen _);have b0:=qZn;have b1:∀ x y,xa=.ok x->B=.ok y->qZc D E=qZh x y:=fun x y hx hy=>by unfold qZc;rw[A,N,hx,hy]
 have other:(∀ x y,¬ (xa=.ok x/\B=.ok y))->qZc D E=if blankP D E then .error 55 else .error 4:=fun h=>by
  unfold qZc;rw[A,N]
  cases xa <;> cases B <;> first | rfl | exact absurd ⟨rfl,rfl⟩ (h _ _)
 by_cases hB:∃ x y,xa=.ok x/\B=.ok y
 ·obtain⟨x,y,rfl,rfl⟩:=hB
  simp -implicitDefEqProofs only[go_sem,j7,bSe,suE,lx,ly];refine qQa pl84 ((newer5 J x y (supP_ok A) (supP_ok N)).mono ?_);rintro _ w8 h8;obtain⟨f8,rfl⟩:=SuQ.eq h8;obtain⟨O,R,I⟩:=a5 w8 (suC (qZh x y)) (f7.trans f8) (f8.at k9 id) (qZr _) (suC_one _);simp -implicitDefEqProofs only[go_sem,j7,O,R];rw[b1 x y rfl rfl];exact SuQ.of I
 rw[other fun x y h=>hB ⟨x,y,h⟩]
 have e0:∃ z:Bool,((suE xa == 0)=z)/\(z=true->(suE B == 0)=false):=by
  cases xa with
  | error e=>exact⟨false,a9 e A,fun h=>by cases h⟩
  | ok x =>
   cases B with
   | error e=>exact⟨true,rfl,fun _=>b6 e N⟩
   | ok y=>exact absurd ⟨x,y,rfl,rfl⟩ hB
 obtain⟨z,hz,a0⟩:=e0
 have go:blankP D E=(zer (E.take 64) && (zer (D.take 64) || (z && decide (suG xa=0)))):=by
  unfold blankP;rw[A]
  cases xa with
  | error e =>
   have:z=false:=by rw[<- hz];exact a9 e A
   rw[this];rfl
  | ok x =>
   have:z=true:=by rw[<- hz];rfl
   rw[this];rfl
 rw[go];have g0:=nateq (suG xa) 0;obtain⟨O,R,I⟩:=a5 J sup0 f7 k9 rfl qZj;have V:D.length=256:=hp.len.symm;have Y:E.length=256:=L.len.symm
 cases z with
 | false =>
  simp -implicitDefEqProofs only[go_sem,qQq,hz];refine qQa pl85 ((empty5 J (L.fr0 f7) Y).mono ?_);rintro _ _ ⟨rfl,rfl⟩;rename_i J
  cases zer (E.take 64) with
  | false =>
   simp -implicitDefEqProofs only[go_sem,j7,qQq,jV,b0,O,R];exact⟨I,rfl⟩
  | true =>
   simp -implicitDefEqProofs only[go_sem,j7,bSe];refine qQa pl85 ((empty5 J (hp.fr0 f7) V).mono ?_);rintro _ _ ⟨rfl,rfl⟩;rename_i J
   cases zer (D.take 64) with
   | false =>
    simp -implicitDefEqProofs only[go_sem,j7,bSe,qQq,hz,b0,O,R];exact⟨I,rfl⟩
   | true =>
    simp -implicitDefEqProofs only[go_sem,j7,bSe,qXd,jV,b0,O,R];exact⟨I,rfl⟩
 | true =>
  have a0:=a0 rfl;simp -implicitDefEqProofs only[go_sem,bSe,hz,a0];refine qQa pl85 ((empty5 J (L.fr0 f7) Y).mono ?_);rintro _ _ ⟨rfl,rfl⟩;rename_i J
  cases zer (E.take 64) with
  | false =>
   simp -implicitDefEqProofs only[go_sem,j7,qQq,jV,b0,O,R];exact⟨I,rfl⟩
  | true =>
   simp -implicitDefEqProofs only[go_sem,j7,bSe];refine qQa pl85 ((empty5 J (hp.fr0 f7) V).mono ?_);rintro _ _ ⟨rfl,rfl⟩;rename_i J
   cases zer (D.take 64) with
   | true =>
    simp -implicitDefEqProofs only[go_sem,j7,bSe,qXd,jV,b0,O,R];exact⟨I,rfl⟩
   | false =>
    by_cases hg:suG xa=0
    ·have g0:(((suG xa:Nat):Int) == 0)=true:=by rw[hg];rfl
     rw[decide_eq_true hg];simp -implicitDefEqProofs only[go_sem,j7,bSe,jV,hz,rg,g0,b0,O,R];exact⟨I,rfl⟩
    ·have g0:(((suG xa:Nat):Int) == 0)=false:=by rw[decide_eq_false hg]at g0;exact g0
     rw[decide_eq_false hg];simp -implicitDefEqProofs only[go_sem,j7,bSe,jV,hz,rg,g0,b0,O,R];exact⟨I,rfl⟩
end R
end
section
namespace R
open Aud A
theorem nat4_eq {b:Bs}(h:i+4<=b.length):nat4 b i=(b.getD i 0).toNat+256*(b.getD (i+1) 0).toNat+65536*(b.getD (i+2) 0).toNat+16777216*(b.getD (i+3) 0).toNat:=by
 unfold nat4;rw[A.le4 (by rw[lDr];omega)];simp only[gDq,vL,yK]
theorem number9 (w:World){b:Bs}(E:By w v b)(hi:i+4<=b.length)(hb:b.length<=2 ^ 50):Fn prog 91 #[v,.int .i64 (i:Nat)] w fun r w'=>r=.int .i64 (nat4 b i:Nat)/\No w w':=by
 obtain⟨O,o,cap,rfl,H⟩:=E.pos x8;refine go91 sm ?_;have B:∀ j,j<4->rdO prog 5 w O (o+(i+j))=some (.int .u8 ((b.getD (i+j) 0).toNat:Int)):=fun j hj=>E.get agg5 x8;have I:=B 0 x8;have R:=B 1 x8;have U:=B 2 x8;have V:=B 3 x8;rw[yK]at I;have J:(0:Int)<=((i:Nat):Int)/\((i:Nat):Int)<(b.length:Int):=x8
 have L:(0:Int)<=((i+1:Nat):Int)/\((i+1:Nat):Int)<(b.length:Int):=x8
 have M:(0:Int)<=((i+2:Nat):Int)/\((i+2:Nat):Int)<(b.length:Int):=x8
 have N:(0:Int)<=((i+3:Nat):Int)/\((i+3:Nat):Int)<(b.length:Int):=x8
 have c1:=iSu (i:=i);have c2:IntKind.i64.wrap ((i:Int)+2)=((i+2:Nat):Int):=qXa (b:=2);have W:IntKind.i64.wrap ((i:Int)+3)=((i+3:Nat):Int):=qXa (b:=3);have Y:=nat4_eq hi;have Z:=ext8i (b.getD i 0);have x1:=ext8i (b.getD (i+1) 0);have x2:=ext8i (b.getD (i+2) 0);have x3:=ext8i (b.getD (i+3) 0);have k0:=(b.getD i 0).isLt;have k1:=(b.getD (i+1) 0).isLt;have k2:=(b.getD (i+2) 0).isLt;have k3:=(b.getD (i+3) 0).isLt;rw[Y];generalize (b.getD i 0).toNat=A at *;generalize (b.getD (i+1) 0).toNat=n1 at *;generalize (b.getD (i+2) 0).toNat=n2 at *;generalize (b.getD (i+3) 0).toNat=D at *;have m1:IntKind.i64.wrap (256*(n1:Int))=((256*n1:Nat):Int):=qZu (a:=256) x8;have m2:IntKind.i64.wrap (65536*(n2:Int))=((65536*n2:Nat):Int):=qZu (a:=65536) x8;have m3:IntKind.i64.wrap (16777216*(D:Int))=((16777216*D:Nat):Int):=qZu (a:=16777216) x8;have a1:IntKind.i64.wrap ((A:Int)+((256*n1:Nat):Int))=((A+256*n1:Nat):Int):=qXa;have a2:IntKind.i64.wrap (((A+256*n1:Nat):Int)+((65536*n2:Nat):Int))=((A+256*n1+65536*n2:Nat):Int):=qXa;have a3:IntKind.i64.wrap (((A+256*n1+65536*n2:Nat):Int)+((16777216*D:Nat):Int))=((A+256*n1+65536*n2+16777216*D:Nat):Int):=qXa;simp -implicitDefEqProofs only[go_sem,j7,jV,Tryz.f91,c1,c2,W,J.1,J.2,L.1,L.2,M.1,M.2,N.1,N.2,and_self,if_true,iTn,j8,I,R,U,V,Z,x1,x2,x3,m1,m2,m3,a1,a2,a3];exact (Fr.refl _ _).drew
theorem bldDg0:bldO prog 75 []=some (dg (zG 32 0)):=by
 unfold bldO;rw[zero75,places75,arr75];rfl
theorem eqDg {s t:Bs}(h:s.length=32)(A:t.length=32):eqV prog Op.maxDepth 75 (dg s) (dg t)=some (s == t):=eqm_dg arr75 int5 sz5 agg5 h A
theorem child9 (w0:World)(p c:Nat)(h:s.length=32):Fn prog 130 #[.int .i64 (p:Nat),.int .i64 (c:Nat),dg s] w0 fun v w'=>v=.bool (decide (chR p c s))/\No w0 w':=by
 refine go130 sm ?_;obtain⟨W,B,D,Y,s1⟩:=qQl w0 (bl s) 75;have Z:rdO prog 75 W w0.heap.size 0=some (dg s):=qQm (P:=prog) (t:=75) agg75 sz75 Y (by rw[qXn,h]);have O:=eqDg h (show (zG 32 (0:Byte)).length=32 by simp);have bd:=bldDg0
 by_cases J:p=0
 ·have A:((p:Int) == 0)=true:=by rw[J];rfl
  have e:decide (chR p c s)=decide (c=0/\s=zG 32 0):=decide_eq_decide.2 (by unfold chR;rw[if_pos J]);rw[e]
  have hb:(s == zG 32 0)=decide (s=zG 32 0):=by
   by_cases H:s=zG 32 0
   ·rw[decide_eq_true H,H];simp
   ·rw[decide_eq_false H];exact beq_eq_false_iff_ne.2 H
  by_cases L:c=0
  ·have n1:((c:Int) == 0)=true:=by rw[L];rfl
   have M:decide (c=0/\s=zG 32 0)=decide (s=zG 32 0):=decide_eq_decide.2 ⟨fun h=>h.2,fun h=>⟨L,h⟩⟩;rw[hb]at O;generalize decide (s=zG 32 0)=q at *;generalize zG 32 (0:Byte)=z at *;simp -implicitDefEqProofs only[go_sem,j7,vS,yU,bSe,jV,Tryz.f130,B,A,n1,Z,bd,O,eqg75,M];exact D
  ·have n1:((c:Int) == 0)=false:=by rw[bFn];omega
   have M:decide (c=0/\s=zG 32 0)=false:=decide_eq_false fun h=>L h.1;simp -implicitDefEqProofs only[go_sem,j7,vS,yU,qQq,jV,Tryz.f130,B,A,n1,M];exact D
 have A:((p:Int) == 0)=false:=by rw[bFn];omega
 have e:decide (chR p c s)=decide (2<=p/\p<4096/\0<c/\c<=4096):=decide_eq_decide.2 (by unfold chR;rw[if_neg J]);rw[e]
 by_cases R:2<=p
 case neg =>
  have E:=dFo ((p:Int) ≥ 2);have e:decide (2<=p/\p<4096/\0<c/\c<=4096)=false:=decide_eq_false fun h=>R h.1;simp -implicitDefEqProofs only[go_sem,j7,vS,yU,qQq,jV,Tryz.f130,B,A,E,e];exact D
 have E:=dTo ((p:Int) ≥ 2)
 by_cases U:p<4096
 case neg =>
  have I:=dFo ((p:Int)<4096);have e:decide (2<=p/\p<4096/\0<c/\c<=4096)=false:=decide_eq_false fun h=>U h.2.1;simp -implicitDefEqProofs only[go_sem,j7,vS,yU,bSe,qQq,jV,Tryz.f130,B,A,E,I,e];exact D
 have I:=dTo ((p:Int)<4096)
 by_cases V:0<c
 case neg =>
  have N:=dFo ((c:Int) > 0);have e:decide (2<=p/\p<4096/\0<c/\c<=4096)=false:=decide_eq_false fun h=>V h.2.2.1;simp -implicitDefEqProofs only[go_sem,j7,vS,yU,bSe,qQq,jV,Tryz.f130,B,A,E,I,N,e];exact D
 have N:=dTo ((c:Int) > 0);have d4:decide ((c:Int)<=4096)=decide (c<=4096):=decide_eq_decide.2 ⟨fun h=>by omega,fun h=>by omega⟩;have e:decide (2<=p/\p<4096/\0<c/\c<=4096)=decide (c<=4096):=decide_eq_decide.2 ⟨fun h=>h.2.2.2,fun h=>⟨R,U,V,h⟩⟩;simp -implicitDefEqProofs only[go_sem,j7,vS,yU,bSe,jV,Tryz.f130,B,A,E,I,N,d4,e];exact D
end R
end
section
namespace R
open Aud A
theorem nd_rd {kind l r lc rc:Nat}{ls rs k:Bs}{e:TypeId}{fz:Nat × Nat}(h:w.heap[b]?=some (.cells (ndC kind l r lc rc ls rs k vv).toArray e fz))(A:ls.length=32)(B:rs.length=32)(D:k.length=32) :
  rdO prog 3 w b 0=some (.int .i64 (kind:Nat))/\rdO prog 3 w b 1=some (.int .i64 (l:Nat))/\rdO prog 3 w b 2=some (.int .i64 (r:Nat))/\rdO prog 3 w b 3=some (.int .i64 (lc:Nat))/\rdO prog 3 w b 4=some (.int .i64 (rc:Nat))/\rdO prog 75 w b 5=some (dg ls)/\rdO prog 75 w b 37=some (dg rs)/\rdO prog 76 w b 69=some (dg k)/\rdO prog 22 w b 101=some vv:=by
 have at':∀ i:Nat,Go.V.rc w b i=(ndC kind l r lc rc ls rs k vv)[i]?:=fun i=>by rw[qXl h,zJ]
 have E:ndC kind l r lc rc ls rs k vv=[Value.int .i64 (kind:Nat),.int .i64 (l:Nat),.int .i64 (r:Nat),.int .i64 (lc:Nat),.int .i64 (rc:Nat)]++(ls.map u8++(rs.map u8++(k.map u8++[vv]))):=by simp only[ndC,zU]
 refine⟨rd1 agg3 h rfl,rd1 agg3 h rfl,rd1 agg3 h rfl,rd1 agg3 h rfl,rd1 agg3 h rfl,rd_dg agg75 sz75 A x8 fun i hi=>?_,rd_dg agg75 sz75 B x8 fun i hi=>?_,rd_dg agg76 sz76 D x8 fun i hi=>?_,rd1 agg22 h ?_⟩
 ·rw[at',E,jR (by show 5<=5+i;omega),z8 (by rw[zE,A];show 5+i - 5<32;omega)]
  congr 1;show 5+i - 5=i;omega
 ·rw[at',E,jR (by show 5<=37+i;omega),jR (by rw[zE,A];show 32<=37+i - 5;omega),z8 (by rw[zE,zE,A,B];show 37+i - 5 - 32<32;omega)]
  congr 1;rw[zE,A];show 37+i - 5 - 32=i;omega
 ·rw[at',E,jR (by show 5<=69+i;omega),jR (by rw[zE,A];show 32<=69+i - 5;omega),jR (by rw[zE,zE,A,B];show 32<=69+i - 5 - 32;omega),z8 (by rw[zE,zE,zE,A,B,D];show 69+i - 5 - 32 - 32<32;omega)]
  congr 1;rw[zE,zE,A,B];show 69+i - 5 - 32 - 32=i;omega
 ·rw[zJ,E,jR (by show 5<=101;omega),jR (by rw[zE,A];show 32<=101 - 5;omega),jR (by rw[zE,zE,A,B];show 32<=101 - 5 - 32;omega),jR (by rw[zE,zE,zE,A,B,D];show 32<=101 - 5 - 32 - 32;omega),zE,zE,zE,A,B,D]
  rfl
theorem bldKy0:bldO prog 76 []=some (dg (zG 32 0)):=by
 unfold bldO;rw[zero76,places76,arr76];rfl
theorem eqKy {s t:Bs}(h:s.length=32)(A:t.length=32):eqV prog Op.maxDepth 76 (dg s) (dg t)=some (s == t):=eqm_dg arr76 int5 sz5 agg5 h A
theorem right9 (w0:World)(A B lc rc:Nat)(L:ls.length=32)(M:rs.length=32)(hl:lc<2 ^ 32)(hr:rc<2 ^ 32) :
  Fn prog 92 #[.agg (ndC 2 A B lc rc ls rs z32 (.slice none 0 0)).toArray] w0 fun v w'=>v=.bool (decide (brR A B lc rc ls rs))/\No w0 w':=by
 refine go92 sm ?_;obtain⟨W,hW,f1,Z,s1⟩:=qQl w0 (ndC 2 A B lc rc ls rs z32 (.slice none 0 0)).toArray 78;obtain⟨N,O,H,I,J,r5,r6,R,U⟩:=nd_rd Z L M z32l;have n1:(((2:Nat):Int) == 1)=false:=rfl;have n2:(((2:Nat):Int) != 2)=false:=rfl;have bk:=bldKy0;have V:=eqKy (s:=z32) (t:=zG 32 0) z32l sm;rw[show (z32 == zG 32 0)=true from bSe _]at V;generalize zG 32 (0:Byte)=zz at bk V;have n3:decide (((0:Nat):Int) > 0)=false:=rfl;have Y:=nateq A B
 by_cases D:A=B
 ·rw[decide_eq_true D]at Y
  have e:decide (brR A B lc rc ls rs)=false:=decide_eq_false fun h=>h.2.2.1 D;simp -implicitDefEqProofs only[go_sem,j7,yU,bSe,y8,jV,Tryz.f92,hW,N,O,H,R,U,n1,n2,bk,V,eqg76,n3,Y,e];exact f1
 rw[decide_eq_false D]at Y;simp -implicitDefEqProofs only[go_sem,j7,yU,bSe,y8,jV,Tryz.f92,hW,N,O,H,I,r5,R,U,n1,n2,bk,V,eqg76,n3,Y];refine qQa pl130 ((child9 W A lc L).mono ?_);rintro _ w2 ⟨rfl,f2⟩;obtain⟨N,O,H,I,J,r5,r6,R,U⟩:=nd_rd (f2.at Z id) L M z32l;simp -implicitDefEqProofs only[go_sem,j7,jV,H,J,r6];refine qQa pl130 ((child9 w2 B rc M).mono ?_);rintro _ w3 ⟨rfl,f3⟩;obtain⟨N,O,H,I,J,r5,r6,R,U⟩:=nd_rd (f3.at (f2.at Z id) id) L M z32l;have E:=(f1.trans f2).trans f3
 by_cases c1:chR A lc ls
 case neg =>
  have e:decide (brR A B lc rc ls rs)=false:=decide_eq_false fun h=>c1 h.1;rw[decide_eq_false c1];simp -implicitDefEqProofs only[go_sem,j7,qXd,xH,e];exact E
 rw[decide_eq_true c1]
 by_cases c2:chR B rc rs
 case neg =>
  have e:decide (brR A B lc rc ls rs)=false:=decide_eq_false fun h=>c2 h.2.1;rw[decide_eq_false c2];simp -implicitDefEqProofs only[go_sem,j7,bSe,y8,xH,e];exact E
 rw[decide_eq_true c2];have a1:IntKind.i64.wrap ((lc:Int)+(rc:Int))=((lc+rc:Nat):Int):=qXa
 by_cases h5:2<=lc+rc
 ·have d5:=dTo (((lc+rc:Nat):Int) ≥ 2)
  have d6:decide (((lc+rc:Nat):Int)<=4096)=decide (lc+rc<=4096):=decide_eq_decide.2 ⟨fun h=>by omega,fun h=>by omega⟩;have e:decide (brR A B lc rc ls rs)=decide (lc+rc<=4096):=decide_eq_decide.2 ⟨fun h=>h.2.2.2.2,fun h=>⟨c1,c2,D,h5,h⟩⟩;simp -implicitDefEqProofs only[go_sem,j7,bSe,y8,jV,I,J,a1,d5,d6,e];exact E
 ·have d5:=dFo (((lc+rc:Nat):Int) ≥ 2)
  have e:decide (brR A B lc rc ls rs)=false:=decide_eq_false fun h=>h5 h.2.2.2.1;simp -implicitDefEqProofs only[go_sem,j7,bSe,qQq,y8,jV,I,J,a1,d5,e];exact E
end R
end
end Go.V
