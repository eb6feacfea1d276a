/- Helpers. -/
import Derived.Test.YtppmpdjlmgfdkaaGreatDoorG27
set_option linter.all false
set_option maxRecDepth 100000
set_option maxHeartbeats 8000000
open Bool renaming not_false→xG,not_true→yG
open Nat renaming reduceEqDiff→jY,zero_add→zB,reduceBEq→jG
namespace Go.V
open Go.Proofs.Tryz Go.V.Tryz
open Go.Proofs Sha
section
namespace A
open Aud
theorem rowAt_self (n:Nat)(row:Bs)(o:PT):(Aud.rowAt n row o (n,row)).getD 0=o.page:=by
 cases o with
 | nil=>rfl
 | leaf p k v=>unfold Aud.rowAt;rw[if_pos rfl];rfl
 | br p l r=>unfold Aud.rowAt;rw[if_pos rfl];rfl
theorem Here.rowOf {c:Cx}{T:PT}{n:Nat}{row:Bs}{at':Bool}{o:PT}(h:Here c T n row at' o):(Aud.rowAt 0 Aud.zrow T (n,row)).getD 0=rowOf at' o:=by
 rw[h.pos.rows n row (Nat.le_refl _) ((qKs h.hn).2 fun _ _=>rfl)]
 cases at' with
 | false=>rfl
 | true=>exact rowAt_self n row o
theorem Here.lfOf {c:Cx}{T:PT}{n:Nat}{row:Bs}{at':Bool}{o:PT}(h:Here c T n row at' o){k:Bs}(hc:n≤common k row):(lfAt T k).getD 0=lfOf k o:=by
 rw[h.pos.lvs k hc,lfAt_of h.wf]
def TrS (c:Cx)(w0:World)(st:List Value)(n:Nat)(row:Bs)(nc:List Value)(x0 x4 x5 x7:Value)(w:World):Prop :=
 x0=pt c.pb 0∧x4=pt w0.heap.size 0∧x5=pt (w0.heap.size+1) 0∧∃ b,x7=pt b 0∧w0.heap.size≤b∧w.heap[b]?=some (.cells nc.toArray 78 (0,0))∧w.heap[w0.heap.size]?=some (.cells st.toArray 217 (0,0))∧w.heap[w0.heap.size+1]?=some (.cells (rwC n row).toArray 158 (0,0))
theorem TrS.fr {c:Cx}{w0 w w':World}{st nc:List Value}{n:Nat}{row:Bs}{x0 x4 x5 x7:Value}(h:TrS c w0 st n row nc x0 x4 x5 x7 w){F:Nat→Prop}(f:Fr F w w')(hF:∀ b,F b→b<w0.heap.size):TrS c w0 st n row nc x0 x4 x5 x7 w':=by
 obtain⟨a,b,d,b7,e,hb,k7,k4,k5⟩:=h;exact⟨a,b,d,b7,e,hb,f.at k7 fun e=>by have:=hF _ e;omega,f.at k4 fun e=>by have:=hF _ e;omega,f.at k5 fun e=>by have:=hF _ e;omega⟩
theorem PassM.drew {c:Cx}{w:World}{next:Nat}{rows:List (RK × Value)}{lvs:List (Bs × Value)}(h:PassM c w next rows lvs):PassM c w.drew next rows lvs:=h.fr0 (Fr.refl _ _).drew
theorem PassM.off {c:Cx}{w:World}{next:Nat}{rows:List (RK × Value)}{lvs:List (Bs × Value)}(h:PassM c w next rows lvs){b:Nat}{cs:Array Value}{el:Nat}(hb:w.heap[b]?=some (.cells cs el (0,0)))(h1:el≠73)(h2:el≠213):¬ PaB c b:=by
 obtain⟨fv,bv,hs,_⟩:=h.sg;obtain⟨_,_,m1,_⟩:=h.nowR;obtain⟨_,_,m2,_⟩:=h.nowL;rintro (rfl | rfl | rfl | rfl)
 ·rw[hs.row]at hb;cases hb;exact h1 rfl
 ·rw[h.pass]at hb;cases hb;exact h2 rfl
 ·rw[m1]at hb;cases hb
 ·rw[m2]at hb;cases hb
theorem PassM.nwb {c:Cx}{w w':World}{next:Nat}{rows:List (RK × Value)}{lvs:List (Bs × Value)}(h:PassM c w next rows lvs){vv:Value}{x:Bs}(hv:NwB c.u w vv x)(f:Fr (PaB c) w w'):NwB c.u w' vv x:=hv.fr f fun b hb=>by
 rcases hv.own with ⟨rfl,_⟩ | ⟨b',o',cap,c',rfl,hc,_⟩
 ·cases hb
 ·cases hb;exact h.off hc (by decide) (by decide)
theorem look_drew {t:TypeId}{w:World}{m k:Value}:lookO prog t w.drew m k=lookO prog t w m k:=rfl
theorem through {c:Cx}(hk:c.Ok){T:PT}(hT:OldT c T):∀ (f n:Nat),f+n=257→ThF c T f n:=by
 intro f
 induction f with
 | zero =>
  intro n e;unfold ThF;intro w next rows lvs row at' o page by' count sum h hh hf hnx hsum
  exact absurd hh.hn (by omega)
 | succ f ihf =>
  intro n e;have ih:ThF c T f (n+1):=ihf (n+1) (by omega);unfold ThF;intro w next rows lvs row at' o page by' count sum h hh hf hnx hsum
  refine go126 (by simp) ?_;have lP:∀ {b:Nat},PaB c b→b<w.heap.size:=h.lt;obtain⟨W,hW,f1,k1,k2,s1⟩:=qJy w (stC page by' count sum).toArray 217 (rwC n row).toArray 158;have h1:=h.fr0 f1;have ls:=qQo (P:=prog) (t:=217) agg217 sz217 k1 (by simp[stC,hsum]);obtain⟨_,_,t2⟩:=rdRw hh.hrow.1 k2;simp -implicitDefEqProofs only[go_sem,jY,Nat.reduceAdd,Value.cells,zB,Tryz.f126,hW,ls,t2];refine qQa pl161 ((links h1 hk hh.hrow.1 page by' count sum).mono ?_);rintro _ w3 ⟨rfl,f3⟩;have h3:=h1.fr0 f3;have k1:=f3.at k1 id;have k2:=f3.at k2 id;have f3:=f1.trans f3;clear h1 ls t2 f1;rw[thr_part]
  cases hl:Aud.linked (ndsP c.pg) n row page by' count with
  | none =>
   have b1:rdO prog 3 w3 w.heap.size 1=some (.int .i64 (by':Nat)):=rd1 agg3 k1 rfl;obtain⟨p0,_⟩:=h3.rds;have c1:(none:Option Nd).isSome=false:=rfl;simp -implicitDefEqProofs only[go_sem,jY,jG,xG,zB,c1,p0,b1];refine qQa pl44 (((h3.fr0 (Fr.refl _ _).drew).find hk by' 170).mono ?_);rintro _ w9 ⟨rfl,e9⟩;simp -implicitDefEqProofs only[go_sem];exact⟨rfl,e9⟩
  | some nd =>
   obtain⟨hp,hby,hlk⟩:=qKq hl;have c1:(some nd).isSome=true:=rfl;simp -implicitDefEqProofs only[go_sem,yG,c1];refine qXc (Q:=fun e ev w1=>e=.normal∧No w w1∧∃ vv,TrS c w (stC page by' count sum) n row (ndA nd vv) (ev 0) (ev 4) (ev 5) (ev 7) w1∧one vv=true∧NwB c.u w1 vv (ndVal nd)) _ (fun e ev w1=>?_) ?_
   ·rintro⟨rfl,f1,vv,hS,ov,nb⟩
    rw[thenQ_normal];have h1:=h.fr0 f1;have hnr:=(hk.hnd page _ (qJd.1 hp)).2;have hp2:=(hk.hnd page _ (qJd.1 hp)).1;have f1':=f1.mono (G:=PaB c) fun _ _ h=>h.elim;refine qXx (fun ev w1=>∃ t m,part c f n at' o row page by' next nd=.ok (t,m)∧TrS c w (stC page by' count sum) n row (ndA nd vv) (ev 0) (ev 4) (ev 5) (ev 7) w1∧NwB c.u w1 vv (ndVal nd)∧Fr (PaB c) w w1∧∃ rows' lvs',PassM c w1 m rows' lvs'∧RowsIn n row t rows rows'∧LvsIn t lvs lvs') ?_ ?_
    ·obtain⟨e0,e4,e5,b7,e7,hb7,k7,k4,k5⟩:=id hS
     have b0:rdO prog 3 w1 w.heap.size 0=some (.int .i64 (page:Nat)):=rd1 agg3 k4 rfl;have b1:rdO prog 3 w1 w.heap.size 1=some (.int .i64 (by':Nat)):=rd1 agg3 k4 rfl;obtain⟨p0,p1,p2,p3,p4,p5,p6,p7,p8,p9⟩:=h1.rds;obtain⟨_,_,t2⟩:=rdRw hh.hrow.1 k5;have lt1:=natlt page c.fresh;have lo:=h1.oldRow hT (n:=n) hh.hrow.1;rw[hh.rowOf]at lo;have le1:=nateq (rowOf at' o) page;have ln:=qQo (P:=prog) (t:=78) agg78 sz78 k7 (by simp[qZm hnr])
     have fin:∀ {w5 rows5 lvs5 t m}, part c f n at' o row page by' next nd=.ok (t, m)→Fr (PaB c) w1 w5→PassM c w5 m rows5 lvs5→RowsIn n row t rows rows5→LvsIn t lvs lvs5 →
       ∃ t m,part c f n at' o row page by' next nd=.ok (t,m)∧TrS c w (stC page by' count sum) n row (ndA nd vv) (ev 0) (ev 4) (ev 5) (ev 7) w5∧NwB c.u w5 vv (ndVal nd)∧Fr (PaB c) w w5∧∃ rows' lvs',PassM c w5 m rows' lvs'∧RowsIn n row t rows rows'∧LvsIn t lvs lvs' :=
      fun {w5 rows5 lvs5 t m} hpt f5 h5 rr ll=>⟨t,m,hpt,hS.fr f5 (fun _ e=>lP e),h1.nwb nb f5,f1'.trans f5,rows5,lvs5,h5,rr,ll⟩
     cases nd with
     | leaf k v =>
      obtain⟨d0,d1,d2,d3,d4⟩:=rdLf hnr.1 k7;have c11:((1:Int) == 1)=true:=rfl
      by_cases hfr:page<c.fresh
      ·rw[decide_eq_true hfr]at lt1
       have ll:=h1.oldLf hT hnr.1;rw[hh.lfOf hlk.2]at ll;have le2:=nateq (lfOf k o) page
       by_cases hlf:lfOf k o=page
       ·rw[decide_eq_true hlf]at le2
        simp -implicitDefEqProofs only[go_sem,jY,jG,bSe,yG,zB,e0,e4,e5,e7,b0,p8,lt1,p3,p6,t2,look_drew,lo,le1,d0,p7,d3,ll,le2];refine qQa pl162 ((keep hk (t:=.leaf page k v) (dgf:=dgT c.s.width) h1.drew.drew.drew hp hp2 (fun h=>by cases h) hh.hn hh.hrow).mono ?_);rintro _ w5 ⟨rfl,f5,rows5,lvs5,h5,rr,ll⟩;simp -implicitDefEqProofs only[go_sem,jY];exact fin ((if_pos hfr).trans (if_pos hlf)) (((Fr.refl _ _).drew.drew.drew).trans f5) h5 rr ll
       ·rw[decide_eq_false hlf]at le2
        simp -implicitDefEqProofs only[go_sem,jY,jG,bSe,xG,zB,e0,e4,e5,e7,b0,p8,lt1,p3,p6,t2,look_drew,lo,le1,d0,p7,d3,ll,le2,p0,b1];refine qQa pl44 ((h1.drew.drew.drew.drew.find hk by' 172).mono ?_);rintro _ w9 ⟨rfl,e9⟩;simp -implicitDefEqProofs only[go_sem];rw[show part c f n at' o row page by' next (.leaf k v)=.error (by',172) from (if_pos hfr).trans (if_neg hlf)];exact⟨rfl,e9⟩
      ·rw[decide_eq_false hfr]at lt1
       simp -implicitDefEqProofs only[go_sem,jY,jG,zB,e0,e4,e5,e7,b0,p8,lt1,ln,t2];refine qQa pl163 ((anewLf h1.drew hk hT hh hp hlk.2 ov (nb.by.fr0 (Fr.refl _ _).drew) (by omega)).mono ?_);rintro x w5 hq;have hpt:part c f n at' o row page by' next (.leaf k v)=newLf c o page next k v:=if_neg hfr
       cases hR:newLf c o page next k v with
       | error e =>
        rw[hR]at hq hpt;obtain⟨rfl,hq⟩:=hq;simp -implicitDefEqProofs only[go_sem,xG];rw[hpt];exact⟨rfl,hq⟩
       | ok y =>
        obtain⟨t,m⟩:=y;rw[hR]at hq hpt;obtain⟨rfl,f5,rows5,lvs5,h5,rr,ll⟩:=hq;simp -implicitDefEqProofs only[go_sem,jY,yG];exact fin hpt ((Fr.refl _ _).drew.trans f5) h5 rr ll
     | br lp rp lc rc ls rs =>
      obtain⟨d0,d1,d2,d3,d4,d5,d6⟩:=rdBr hnr.2.1 hnr.2.2 k7;have c21:((2:Int) == 1)=false:=rfl
      by_cases hfr:page<c.fresh
      ·rw[decide_eq_true hfr]at lt1
       by_cases hlf:rowOf at' o=page
       ·rw[decide_eq_true hlf]at le1
        simp -implicitDefEqProofs only[go_sem,jY,jG,yG,zB,e0,e4,e5,e7,b0,p8,lt1,p3,p6,t2,look_drew,lo,le1,d0,c21]
        have hop:o.page=page:=by
         cases at' with
         | true=>exact hlf
         | false=>have:0=page:=hlf;omega
        have hkp:=keep hk (t:=o) (dgf:=dgT c.s.width) h1.drew.drew hh.st hh.wf (fun h=>by rw[h]at hop;have:0=page:=hop;omega) hh.hn hh.hrow;rw[hop]at hkp;refine qQa pl162 (hkp.mono ?_);rintro _ w5 ⟨rfl,f5,rows5,lvs5,h5,rr,ll⟩;simp -implicitDefEqProofs only[go_sem,jY];exact fin ((if_pos hfr).trans (if_pos hlf)) ((Fr.refl _ _).drew.drew.trans f5) h5 rr ll
       ·rw[decide_eq_false hlf]at le1
        simp -implicitDefEqProofs only[go_sem,jY,jG,xG,zB,e0,e4,e5,e7,b0,p8,lt1,p3,p6,t2,look_drew,lo,le1,d0,c21,p0,b1];refine qQa pl44 ((h1.drew.drew.drew.find hk by' 172).mono ?_);rintro _ w9 ⟨rfl,e9⟩;simp -implicitDefEqProofs only[go_sem];rw[show part c f n at' o row page by' next (.br lp rp lc rc ls rs)=.error (by',172) from (if_pos hfr).trans (if_neg hlf)];exact⟨rfl,e9⟩
      ·rw[decide_eq_false hfr]at lt1
       simp -implicitDefEqProofs only[go_sem,jY,jG,zB,e0,e4,e5,e7,b0,p8,lt1,ln,t2];refine qQa pl163 ((anewBr h1.drew hk hT hh hp hlk.2 ov hf hnx ih).mono ?_);rintro x w5 hq;have hpt:part c f n at' o row page by' next (.br lp rp lc rc ls rs)=newBr c f n at' o row page next lp rp lc rc ls rs:=if_neg hfr
       cases hR:newBr c f n at' o row page next lp rp lc rc ls rs with
       | error e =>
        rw[hR]at hq hpt;obtain⟨rfl,hq⟩:=hq;simp -implicitDefEqProofs only[go_sem,xG];rw[hpt];exact⟨rfl,hq⟩
       | ok y =>
        obtain⟨t,m⟩:=y;rw[hR]at hq hpt;obtain⟨rfl,f5,rows5,lvs5,h5,rr,ll⟩:=hq;simp -implicitDefEqProofs only[go_sem,jY,yG];exact fin hpt ((Fr.refl _ _).drew.trans f5) h5 rr ll
    ·rintro ev w1 ⟨t,m,hpt,⟨e0,e4,e5,b7,e7,hb7,k7,k4,k5⟩,nb,f1,rows',lvs',h1,rr,ll⟩
     rw[hpt]
     have hdl:(ndg c.s.width (256 - n) nd).length=32:=by
      cases nd with
      | leaf k v=>exact qJv _ _ _ _ _ (qZd _ _ _)
      | br lp rp lc rc ls rs=>exact qXj _ _ _
     simp -implicitDefEqProofs only[go_sem];refine qXc (Q:=fun e ev w5=>e=.normal∧ev 0=pt c.pb 0∧ev 4=pt w.heap.size 0∧ev 98=.bool (!(ndg c.s.width (256 - n) nd == sum))∧PassM c w5 m rows' lvs'∧Fr (PaB c) w w5∧w5.heap[w.heap.size]?=some (.cells (stC page by' count sum).toArray 217 (0,0))) _ (fun e ev w1=>?_) ?_
     ·rintro⟨rfl,e0,e4,e98,h1,f1,k4⟩
      rw[thenQ_normal];obtain⟨p0,_⟩:=h1.rds;have b1:rdO prog 3 w1 w.heap.size 1=some (.int .i64 (by':Nat)):=rd1 agg3 k4 rfl
      by_cases hd:ndg c.s.width (256 - n) nd=sum
      ·rw[beq_iff_eq.2 hd]at e98
       have e98:ev 98=.bool false:=e98;simp -implicitDefEqProofs only[go_sem,e98];rw[if_pos hd];exact⟨rfl,f1,rows',lvs',h1,rr,ll⟩
      ·rw[beq_eq_false_iff_ne.2 hd]at e98
       have e98:ev 98=.bool true:=e98;simp -implicitDefEqProofs only[go_sem,jY,jG,zB,e98,e0,e4,p0,b1];refine qQa pl44 ((h1.drew.find hk by' 171).mono ?_);rintro _ w9 ⟨rfl,e9⟩;simp -implicitDefEqProofs only[go_sem];rw[if_neg hd];exact⟨rfl,e9⟩
     ·refine qXf (fun _=>false) (.one 0 (.one 1 (.one 2 (.one 5 (.one 9 (.one 3 (.one 4 (.one 6 (.one 7 (.two 8 (.row [10,11]) 10 (.row [8,11]))))))))))) rfl (by kernel_rfl) (by kernel_rfl) ?_
      have f1:=f1.drew;have h1:=h1.drew;have nb:=nb.fr0 (Fr.refl _ _).drew;have k4:w1.drew.heap[w.heap.size]?=_:=k4;have k5:w1.drew.heap[w.heap.size+1]?=_:=k5;have k7:w1.drew.heap[b7]?=_:=k7;generalize w1.drew=W1 at *;obtain⟨p0,_⟩:=h1.rds;obtain⟨t0,_⟩:=rdRw hh.hrow.1 k5;have ln:=qQo (P:=prog) (t:=78) agg78 sz78 k7 (by simp[qZm hnr]);have wi:IntKind.i64.wrap (256 - (n:Int))=((256 - n:Nat):Int):=by rw[qQm (by have:=hh.hn;omega) (by omega)];have:=hh.hn;omega
      have rsum:∀ W:World,W.heap[w.heap.size]?=some (.cells (stC page by' count sum).toArray 217 (0,0))→rdO prog 75 W w.heap.size 3=some (dg sum):=fun W k=>qJg (e:=217) (fz:=(0,0)) (a:=[.int .i64 (page:Nat),.int .i64 (by':Nat),.int .i64 (count:Nat)]) (m:=sum.map u8) (r:=[]) agg75 (by simp[hsum];exact sz75) (by simp[hsum]) (by rw[k,stC,List.append_nil]) rfl;have r1:=rsum W1 k4;have es:=eqDig hdl hsum;have f5x:c.sb<w.heap.size:=lP (.inl rfl);obtain⟨fv,bv,hs,_,hSR⟩:=h1.srow
      have hdg:Fn prog 164 #[pt c.sb 0,.agg (ndA nd vv).toArray,.int .i64 ((256 - n:Nat):Int)] W1 fun v w'=>v=dg (ndg c.s.width (256 - n) nd)∧Fr (fun b=>b=c.sb) W1 w'∧SRow c.u w' c.sb c.iv c.s c.mn c.mr c.cv c.vv fv (fun _=>False):=by
       have ht:Tabs W1:=hk.tabs.fr h1.no fun _ _ h=>h;have h5:=hk.tabs.size
       cases nd with
       | leaf k v=>exact digestLf ht h1.no.size (Nat.le_trans h5 hk.hsb) hSR (fun _ h=>h.elim) hnr.1 nb.by ov hnr.2 (by omega)
       | br lp rp lc rc ls rs=>exact digestBr ht h1.no.size (Nat.le_trans h5 hk.hsb) hSR (fun _ h=>h.elim) hnr.2.1 hnr.2.2 (by have:=hlk.2;omega) (by omega)
      have fin:∀ {w5},Fr (fun b=>b=c.sb) W1 w5→SRow c.u w5 c.sb c.iv c.s c.mn c.mr c.cv c.vv fv (fun _=>False)→PassM c w5 m rows' lvs'∧Fr (PaB c) w w5∧w5.heap[w.heap.size]?=some (.cells (stC page by' count sum).toArray 217 (0,0)):=fun {w5} f5 hr5=>⟨h1.dig hk hs f5 hr5,f1.trans (f5.mono fun _ _ e=>.inl e),f5.at k4 fun e=>by omega⟩
      clear ih ihf;simp -implicitDefEqProofs only[go_sem,jY,gLa,gLz,gLs,zB,OT.row,e0,e4,e5,e7,p0,ln,t0,wi,r1];refine⟨?_,?_⟩
      ·refine qQf pl164 (hdg.mono ?_);rintro _ w5 ⟨rfl,f5,hr5⟩
       refine⟨(fun h=>by cases h),?_⟩;obtain⟨a,b,k⟩:=fin f5 hr5;have r5:rdO prog 75 w5 w.heap.size 3=some (dg sum):=rsum w5 k;simp -implicitDefEqProofs only[go_sem,jY,gLa,gLz,gLs,r5,es,eqg75];exact⟨e0,e4,a,b,k⟩
      ·refine qQf pl164 (hdg.mono ?_);rintro _ w5 ⟨rfl,f5,hr5⟩
       refine⟨(fun h=>by cases h),?_⟩;obtain⟨a,b,k⟩:=fin f5 hr5;simp -implicitDefEqProofs only[go_sem,jY,gLa,gLz,gLs,es,eqg75];exact⟨e0,e4,a,b,k⟩
   ·refine qXf (fun j=>j == 10) (.row [0,1,2,7,3,4,5,6,8,9,10,11]) rfl (by kernel_rfl) (by kernel_rfl) ?_
    have f3:=f3.drew;have h3:=h3.fr0 (Fr.refl _ _).drew;have k1:w3.drew.heap[w.heap.size]?=_:=k1;have k2:w3.drew.heap[w.heap.size+1]?=_:=k2;generalize w3.drew=W1 at *;obtain⟨p0,p1,_⟩:=h3.rds;have b0:rdO prog 3 W1 w.heap.size 0=some (.int .i64 (page:Nat)):=rd1 agg3 k1 rfl;obtain⟨vv,lk,ov,nb,hnr,_,_⟩:=h3.ndS hk hp;obtain⟨W2,hW2,f2,k3,s2⟩:=qQl W1 nd0.toArray 78;have q3:wrO prog 78 W2 W1.heap.size 0 (.agg (ndA nd vv).toArray)=some (put W2 W1.heap.size (.cells (ndA nd vv).toArray 78 (0,0))):=qQr (by simp[qZm hnr];exact sz78) k3 (by simp[qZm hnr,qQz z32l z32l z32l]) (by simpa using ndA_one ov);have fe:=f2.ext;simp -implicitDefEqProofs only[go_sem,jY,jG,gLa,gLz,gLs,Value.cells,bSe,zB,qQk,OT.row,p0,p1,b0,lk,ndZero,hW2,q3,fe,implies_true];have f4:=f2.put (b:=W1.heap.size) (.cells (ndA nd vv).toArray 78 (0,0)) fun h=>by omega
    exact⟨f3.trans f4,vv,⟨rfl,rfl,rfl,W1.heap.size,rfl,by have:=f3.size;omega,qQd k3,f4.at k1 id,f4.at k2 id⟩,ov,nb.fr0 f4⟩
end A
end
end Go.V
