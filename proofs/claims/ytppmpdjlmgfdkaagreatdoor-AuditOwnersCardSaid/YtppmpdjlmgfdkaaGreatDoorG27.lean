/- Helpers. -/
import Derived.Test.YtppmpdjlmgfdkaaGreatDoorG26
import Derived.Test.YtppmpdjlmgfdkaaGreatDoorG23
set_option linter.all false
set_option maxRecDepth 100000
set_option maxHeartbeats 8000000
open List renaming getElem?_toArray→zZ
open Nat renaming reduceEqDiff→jY,zero_add→zB,reduceBEq→jG
namespace Go.V
open Go.Proofs.Tryz Go.V.Tryz
open Go.Proofs Sha
variable {at':Bool} {k:Bs} {f n:Nat} {vv:Value}
section
namespace A
open Aud
structure OldT (c:Cx) (T:PT):Prop where
 rows:∀ key,findM c.ro key=enP (Aud.rowAt 0 Aud.zrow T key)
 lvs:∀ k,findM c.lo k=enP (lfAt T k)
structure Here (c:Cx) (T:PT) (n:Nat) (row:Bs) (at':Bool) (o:PT):Prop where
 hn:n≤256
 hrow:Row n row
 wf:o.Wf n
 st:Stands (dgT c.s.width) (ndsP c.pg) n o
 lt:o.page<c.fresh
 pos:Pos T n row at' o
 ents:∀ e ∈ o.ents,n≤common e.1 row
theorem Here.kid {c:Cx}{T:PT}{row:Bs}{o:PT}(h:Here c T n row at' o)(hn:n<256)(b:Bool):Here c T (n+1) (Aud.under n b row) (at' && isBr o) (Aud.kid n b o) :=
 ⟨hn,h.hrow.under hn b,kid_wf (at':=at') h.wf b,kid_stands h.st b,kid_page h.st h.lt b,h.pos.kid h.wf h.hrow hn b,kid_row h.wf h.hrow hn h.ents b⟩
def ErrQ (c:Cx)(w:World)(e:Nat × Int):Prop:=No c.u w∧SgX c w (c.fs++[e])
def ThQ (c:Cx)(w0:World)(n:Nat)(row:Bs)(rows:List (RK × Value))(lvs:List (Bs × Value))(r:Except (Nat × Int) (PT × Nat))(v:Value)(w:World):Prop :=
 match r with
 | .ok (t,m)=>v=.bool true∧Fr (PaB c) w0 w∧∃ rows' lvs',PassM c w m rows' lvs'∧RowsIn n row t rows rows'∧LvsIn t lvs lvs'
 | .error e=>v=.bool false∧ErrQ c w e
section
variable {c:Cx} {w w':World} {next:Nat} {rows:List (RK × Value)} {lvs:List (Bs × Value)}
theorem PassM.find (h:PassM c w next rows lvs)(hk:c.Ok)(p:Nat)(e:Int):Fn prog 44 #[pt c.sb 0,.int .i64 (p:Nat),.int .i64 e] w fun v w'=>v=.tuple #[]∧ErrQ c w' (p,e):=by
 obtain⟨fv,bv,hs,hb⟩:=h.sg;have hfn:=hs.fnd;refine (sight_find hs h.no.size hk.hiv p e hk.hfs).mono ?_;rintro v w' ⟨rfl,f,fv',hs'⟩
 have hfb:∀ {b},FvB c.sb fv b→c.u.heap.size≤b:=fun {b} hb=>by
  rcases hb with rfl | hb
  ·exact hs.hsb
  ·exact hfn.2.new b hb
 refine⟨rfl,h.no.trans' f fun b hb' e=>by have:=hfb e;omega,fv',bv,hs',hb.fr f fun b c' hb' _ _ e=>?_⟩
 rcases e with rfl | e
 ·rw[hs.row]at hb';cases hb'
 ·obtain⟨c'',hc''⟩:=qXg hfn e;rw[hb']at hc'';cases hc''
theorem PassM.oldRow (h:PassM c w next rows lvs){T:PT}(ho:OldT c T){row:Bs}(hr:row.length=32):lookO prog 152 w (.map c.oR) (.agg (rwC n row).toArray)=some (.int .i64 ((Aud.rowAt 0 Aud.zrow T (n,row)).getD 0:Nat),(Aud.rowAt 0 Aud.zrow T (n,row)).isSome):=by
 have:=h.oldR.look keyR (k:=(n,row)) hr map152 zero3;rw[ho.rows]at this;rw[this]
 cases Aud.rowAt 0 Aud.zrow T (n,row) <;> rfl
theorem PassM.oldLf (h:PassM c w next rows lvs){T:PT}(ho:OldT c T)(hr:k.length=32):lookO prog 153 w (.map c.oL) (dg k)=some (.int .i64 ((lfAt T k).getD 0:Nat),(lfAt T k).isSome):=by
 have:=h.oldL.look keyK (k:=k) hr map153 zero3;rw[ho.lvs]at this;rw[this]
 cases lfAt T k <;> rfl
theorem ndA_val (hk:k.length=32)(v:Bs)(vv:Value):(ndA (.leaf k v) vv)[101]?=some vv:=by
 show ([.int .i64 1,.int .i64 0,.int .i64 0,.int .i64 0,.int .i64 0]++z32.map u8++z32.map u8++k.map u8++[vv])[101]?=_;rw[List.getElem?_append_right (by simp[hk])];simp[hk]
def newLf (c:Cx)(o:PT)(page next:Nat)(k v:Bs):Except (Nat × Int) (PT × Nat):=if page=next∧pageOf k v o=none then .ok (.leaf page k v,next+1) else .error (page,172)
theorem anewLf (h:PassM c w next rows lvs)(hk:c.Ok){T:PT}(hT:OldT c T){row:Bs}{o:PT}(hh:Here c T n row at' o){page:Nat}{k v:Bs}(hp:ndsP c.pg page=some (.leaf k v))(hc:n≤common k row)(ov:one vv=true)(hv:By w vv v)(hnx:next<2 ^ 20) :
  Fn prog 163 #[pt c.pb 0,.int .i64 (page:Nat),.agg (ndA (.leaf k v) vv).toArray,.agg (rwC n row).toArray] w fun x w'=>ThQ c w n row rows lvs (newLf c o page next k v) x w':=by
 refine go163 (by simp) ?_;have hnr:=(hk.hnd page _ (qJd.1 hp)).2;obtain⟨W,hW,f1,k1,k2,s1⟩:=qJy w (ndA (.leaf k v) vv).toArray 78 (rwC n row).toArray 158;have h1:=h.fr0 f1;obtain⟨d0,d1,d2,d3,d4⟩:=rdLf hnr.1 k1;have c00:((0:Int) != 0)=false:=rfl;have c11:((1:Int) == 1)=true:=rfl;simp -implicitDefEqProofs only[go_sem,jY,Nat.reduceAdd,Value.cells,zB,Tryz.f163,hW];refine qXf (fun j=>j == 14) (.row [0,1,2,3,4,5,7,8,10,6,9,11,12,13,14,15,16,17]) rfl (by kernel_rfl) (by kernel_rfl) ?_;have d1':rdO prog 3 W.drew w.heap.size 1=some (.int .i64 0):=d1;simp -implicitDefEqProofs only[go_sem,jY,jG,gLa,gLz,gLs,bNe,qQt,zB,OT.row,d1'];refine qXf (fun j=>j == 14) (.row [0,1,2,3,4,5,7,8,10,6,9,11,12,13,14,15,16,17]) rfl (by kernel_rfl) (by kernel_rfl) ?_;have d2':rdO prog 3 W.drew.drew w.heap.size 2=some (.int .i64 0):=d2;obtain⟨p0,p1,p2,p3,p4,p5,p6,p7,p8,p9⟩:=h1.rds;simp -implicitDefEqProofs only[go_sem,jY,jG,gLa,gLz,gLs,bSe,bNe,qQt,zB,OT.row,d2',d0,p3,p7,d3];have f1:=f1.drew.drew.drew;have h1:=h.fr0 f1;have k1:W.drew.drew.drew.heap[w.heap.size]?=_:=k1;have k2:W.drew.drew.drew.heap[w.heap.size+1]?=_:=k2;have s1:W.drew.drew.drew.heap.size=_:=s1;generalize W.drew.drew.drew=W1 at *;clear p0 p1 p2 p3 p4 p5 p6 p7 p8 p9 d0 d1 d2 d3 d4 d1' d2';have lk:=h1.oldLf hT hnr.1;rw[hh.pos.lvs k hc]at lk;obtain⟨d0,d1,d2,d3,d4⟩:=rdLf hnr.1 k1;obtain⟨p0,p1,p2,p3,p4,p5,p6,p7,p8,p9⟩:=h1.rds;have lP:∀ {b:Nat},PaB c b→b<w.heap.size:=h.lt;have nx:((page:Int) != (next:Int))=decide (page≠next):=natne page next;have wi:=iSu (i:=next);have hd:=h1.fr0 (Fr.refl _ _).drew;have q3:wrO prog 3 W1.drew c.pb 4 (.int .i64 ((next+1:Nat):Int))=some (put W1.drew c.pb (.cells (paC c (next+1)) 213 (0,0))):=wr1 sz3 rfl hd.pass (show 4<5 by decide)
 cases hl:lfAt o k with
 | none =>
  rw[hl]at lk;have hno:=lfAt_nopage (v:=v) hl hh.wf;have lk:lookO prog 153 W1 (.map c.oL) (dg k)=some (.int .i64 0,false):=lk
  by_cases hx:page=next
  ·rw[decide_eq_false fun e=>e hx]at nx
   simp -implicitDefEqProofs only[go_sem,jY,jG,gLa,gLz,gLs,bSe,qQt,zB,lk,p9,nx];simp -implicitDefEqProofs only[go_sem,jY,jG,zB,wi,q3];have k3:=qQd (o:=.cells (paC c (next+1)) 213 (0,0)) hd.pass;have f3:Fr (fun b=>b=c.pb) W1.drew (put W1.drew c.pb (.cells (paC c (next+1)) 213 (0,0))):=(Fr.refl _ _).put (b:=c.pb) _ (fun _=>rfl);have h3:=hd.step hk (next+1) f3 k3;have g1:=f3.at (show W1.drew.heap[w.heap.size]?=_ from k1) fun e=>by have:=lP (b:=c.pb) (.inr (.inl rfl));omega
   have g2:=f3.at (show W1.drew.heap[w.heap.size+1]?=_ from k2) fun e=>by have:=lP (b:=c.pb) (.inr (.inl rfl));omega
   have f3:=(f1.drew.mono (G:=PaB c) fun _ _ h=>h.elim).trans (f3.mono (G:=PaB c) fun _ _ e=>.inr (.inl e));generalize put W1.drew c.pb (.cells (paC c (next+1)) 213 (0,0))=W3 at *;obtain⟨_,_,x2,_,x4,_⟩:=h3.rds;obtain⟨_,_,t2⟩:=rdRw hh.hrow.1 g2;have h3:=h3.fr0 (Fr.refl _ _).drew;have f3:=f3.drew;have g1:W3.drew.heap[w.heap.size]?=_:=g1;obtain⟨ob,hpo,h4,f4⟩:=h3.putR hk (n:=n) (r:=row) hh.hrow.1 page;have hpo:putE prog 158 W3.heap[c.nR]? (.agg (rwC n row).toArray) (.int .i64 (page:Nat))=some ob:=hpo;simp -implicitDefEqProofs only[go_sem,jY,zB,x2,x4,t2,map152,hpo];have g1:=f4.at g1 fun e=>by have:=lP (b:=c.nR) (.inr (.inr (.inl rfl)));omega
   have f4:=f3.trans (f4.mono (G:=PaB c) fun _ _ e=>.inr (.inr (.inl e)));generalize put W3.drew c.nR ob=W5 at *;obtain⟨d0,_,_,d3,_⟩:=rdLf hnr.1 g1;obtain⟨_,_,x2,_,_,x5,_⟩:=h4.rds;have h4:=h4.fr0 (Fr.refl _ _).drew;obtain⟨ob2,hpo2,h5,f5⟩:=h4.putL hk (k:=k) hnr.1 page;have hpo2:putE prog 76 W5.heap[c.nL]? (dg k) (.int .i64 (page:Nat))=some ob2:=hpo2;simp -implicitDefEqProofs only[go_sem,jY,jG,bSe,zB,d0,x2,x5,d3,map153,hpo2];have:newLf c o page next k v=.ok (.leaf page k v,next+1):=if_pos ⟨hx,hno⟩;rw[this];exact⟨rfl,f4.drew.trans (f5.mono fun _ _ e=>.inr (.inr (.inr e))),_,_,h5,RowsIn.leaf n row page k v rows,LvsIn.leaf page k v lvs⟩
  ·rw[decide_eq_true hx]at nx
   simp -implicitDefEqProofs only[go_sem,jY,jG,gLa,gLz,gLs,qQt,qXq,zB,lk,p9,nx,p0];refine qQa pl44 ((hd.find hk page 172).mono ?_);rintro _ w9 ⟨rfl,e9⟩;simp -implicitDefEqProofs only[go_sem];have:newLf c o page next k v=.error (page,172):=if_neg (by exact fun h=>hx h.1);rw[this];exact⟨rfl,e9⟩
 | some q =>
  rw[hl]at lk;have lk:lookO prog 153 W1 (.map c.oL) (dg k)=some (.int .i64 (q:Nat),true):=lk;obtain⟨v',hq,hpo⟩:=lfAt_page hh.wf hh.st hl;obtain⟨vq,lq,oq,nq,hqr,_⟩:=hd.ndS hk hq
  have fe:partO prog 22 (ndA (.leaf k v') vq).toArray 101=some vq:=by
   rw[qKd agg22,zZ];exact ndA_val hqr.1 v' vq
  simp -implicitDefEqProofs only[go_sem,jY,jG,gLa,gLz,gLs,bSe,zB,lk,p0,p1,lq,fe,d4];refine qQa pl186 ((bequal W1.drew nq.by (hv.fr0 f1.drew)).mono ?_);rintro _ _ ⟨rfl,rfl⟩
  by_cases hvv:v'=v
  ·have e1:decide (ndVal (Nd.leaf k v')=v)=true:=decide_eq_true hvv
   by_cases hx:page=next
   ·rw[decide_eq_false fun e=>e hx]at nx
    simp -implicitDefEqProofs only[go_sem,jY,gLa,gLz,gLs,bSe,zB,e1,p9,nx,p0];refine qQa pl44 ((hd.find hk page 172).mono ?_);rintro _ w9 ⟨rfl,e9⟩;simp -implicitDefEqProofs only[go_sem];have:newLf c o page next k v=.error (page,172):=if_neg (by exact fun h=>((hpo v).1 h.2) hvv);rw[this];exact⟨rfl,e9⟩
   ·rw[decide_eq_true hx]at nx
    simp -implicitDefEqProofs only[go_sem,jY,gLa,gLz,gLs,qXq,zB,e1,p9,nx,p0];refine qQa pl44 ((hd.find hk page 172).mono ?_);rintro _ w9 ⟨rfl,e9⟩;simp -implicitDefEqProofs only[go_sem];have:newLf c o page next k v=.error (page,172):=if_neg (by exact fun h=>hx h.1);rw[this];exact⟨rfl,e9⟩
  ·have e1:decide (ndVal (Nd.leaf k v')=v)=false:=decide_eq_false hvv
   have hno:pageOf k v o=none:=(hpo v).2 hvv
   by_cases hx:page=next
   ·rw[decide_eq_false fun e=>e hx]at nx
    simp -implicitDefEqProofs only[go_sem,jY,gLa,gLz,gLs,bSe,zB,e1,p9,nx];simp -implicitDefEqProofs only[go_sem,jY,jG,zB,wi,q3];have k3:=qQd (o:=.cells (paC c (next+1)) 213 (0,0)) hd.pass;have f3:Fr (fun b=>b=c.pb) W1.drew (put W1.drew c.pb (.cells (paC c (next+1)) 213 (0,0))):=(Fr.refl _ _).put (b:=c.pb) _ (fun _=>rfl);have h3:=hd.step hk (next+1) f3 k3;have g1:=f3.at (show W1.drew.heap[w.heap.size]?=_ from k1) fun e=>by have:=lP (b:=c.pb) (.inr (.inl rfl));omega
    have g2:=f3.at (show W1.drew.heap[w.heap.size+1]?=_ from k2) fun e=>by have:=lP (b:=c.pb) (.inr (.inl rfl));omega
    have f3:=(f1.drew.mono (G:=PaB c) fun _ _ h=>h.elim).trans (f3.mono (G:=PaB c) fun _ _ e=>.inr (.inl e));generalize put W1.drew c.pb (.cells (paC c (next+1)) 213 (0,0))=W3 at *;obtain⟨_,_,x2,_,x4,_⟩:=h3.rds;obtain⟨_,_,t2⟩:=rdRw hh.hrow.1 g2;have h3:=h3.fr0 (Fr.refl _ _).drew;have f3:=f3.drew;have g1:W3.drew.heap[w.heap.size]?=_:=g1;obtain⟨ob,hpo,h4,f4⟩:=h3.putR hk (n:=n) (r:=row) hh.hrow.1 page;have hpo:putE prog 158 W3.heap[c.nR]? (.agg (rwC n row).toArray) (.int .i64 (page:Nat))=some ob:=hpo;simp -implicitDefEqProofs only[go_sem,jY,zB,x2,x4,t2,map152,hpo];have g1:=f4.at g1 fun e=>by have:=lP (b:=c.nR) (.inr (.inr (.inl rfl)));omega
    have f4:=f3.trans (f4.mono (G:=PaB c) fun _ _ e=>.inr (.inr (.inl e)));generalize put W3.drew c.nR ob=W5 at *;obtain⟨d0,_,_,d3,_⟩:=rdLf hnr.1 g1;obtain⟨_,_,x2,_,_,x5,_⟩:=h4.rds;have h4:=h4.fr0 (Fr.refl _ _).drew;obtain⟨ob2,hpo2,h5,f5⟩:=h4.putL hk (k:=k) hnr.1 page;have hpo2:putE prog 76 W5.heap[c.nL]? (dg k) (.int .i64 (page:Nat))=some ob2:=hpo2;simp -implicitDefEqProofs only[go_sem,jY,jG,bSe,zB,d0,x2,x5,d3,map153,hpo2];have:newLf c o page next k v=.ok (.leaf page k v,next+1):=if_pos ⟨hx,hno⟩;rw[this];exact⟨rfl,f4.drew.trans (f5.mono fun _ _ e=>.inr (.inr (.inr e))),_,_,h5,RowsIn.leaf n row page k v rows,LvsIn.leaf page k v lvs⟩
   ·rw[decide_eq_true hx]at nx
    simp -implicitDefEqProofs only[go_sem,jY,gLa,gLz,gLs,qXq,zB,e1,p9,nx,p0];refine qQa pl44 ((hd.find hk page 172).mono ?_);rintro _ w9 ⟨rfl,e9⟩;simp -implicitDefEqProofs only[go_sem];have:newLf c o page next k v=.error (page,172):=if_neg (by exact fun h=>hx h.1);rw[this];exact⟨rfl,e9⟩
end
end A
end
section
namespace A
open Aud
theorem ndOk {c:Cx}(hk:c.Ok):NdOk (ndsP c.pg):=fun p nd h=>by
 obtain⟨h2,hr⟩:=hk.hnd p nd (qJd.1 h);refine⟨h2,?_⟩
 cases nd with
 | leaf k v=>exact hr.1
 | br lp rp lc rc ls rs =>
  obtain⟨⟨a,b,_,d,_⟩,_⟩:=hr;refine⟨d,fun e=>?_,fun e=>?_⟩
  ·unfold chR at a;rw[if_pos e]at a;exact a
  ·unfold chR at b;rw[if_pos e]at b;exact b
theorem pg_lt {c:Cx}(hk:c.Ok){p:Nat}{n:Nd}(h:ndsP c.pg p=some n):p<4096:=by
 by_cases hl:p<c.s.mark
 ·have:=hk.hm;omega
 ·have:=qJd.1 h;rw[hk.hpg p (by omega)]at this;cases this
theorem thr_bound {wd:Int}{pg:Nat→Option Nd}{fresh M:Nat}(hb:∀ p n, pg p=some n→p<M):∀ {f n:Nat} {at':Bool} {o:PT} {row:Bs} {page by' count:Nat} {sum:Bs} {next:Nat} {t:PT} {next':Nat}, next≤M →
  thr wd pg fresh f n at' o row page by' count sum next=.ok (t,next')→next'≤M:=by
 intro f
 induction f with
 | zero=>intro n at' o row page by' count sum next t next' _ h;cases h
 | succ f ih =>
  intro n at' o row page by' count sum next t next' hn h
  unfold thr at h;split at h
  ·cases h
  ·rename_i k v hl
   have hp:=hb _ _ (qKq hl).1;split at h
   ·split at h
    ·split at h
     ·cases h;exact hn
     ·cases h
    ·cases h
   ·split at h
    ·rename_i hx
     split at h
     ·cases h;omega
     ·cases h
    ·cases h
  ·rename_i lp rp lc rc ls rs hl
   have hp:=hb _ _ (qKq hl).1;split at h
   ·split at h
    ·split at h
     ·cases h;exact hn
     ·cases h
    ·cases h
   ·split at h
    ·cases h
    ·split at h
     ·cases h
     ·split at h
      ·rename_i hx
       split at h
       ·cases h;omega
       ·cases h
      ·cases h
def newBr (c:Cx)(f n:Nat)(at':Bool)(o:PT)(row:Bs)(page next lp rp lc rc:Nat)(ls rs:Bs):Except (Nat × Int) (PT × Nat) :=
 match (if lp=0 then .ok (.nil,next) else thr c.s.width (ndsP c.pg) c.fresh f (n+1) (at' && isBr o) (Aud.kid n false o) (Aud.under n false row) lp page lc ls next:Except (Nat × Int) (PT × Nat)) with
 | .error e=>.error e
 | .ok (l,m1) =>
  match (if rp=0 then .ok (.nil,m1) else thr c.s.width (ndsP c.pg) c.fresh f (n+1) (at' && isBr o) (Aud.kid n true o) (Aud.under n true row) rp page rc rs m1:Except (Nat × Int) (PT × Nat)) with
  | .error e=>.error e
  | .ok (r,m2)=>if page=m2∧¬ (at'=true∧likeB lp rp o=true) then .ok (.br page l r,m2+1) else .error (page,172)
def part (c:Cx)(f n:Nat)(at':Bool)(o:PT)(row:Bs)(page by' next:Nat):Nd→Except (Nat × Int) (PT × Nat)
 | .leaf k v=>if page<c.fresh then (if lfOf k o=page then .ok (.leaf page k v,next) else .error (by',172)) else newLf c o page next k v
 | .br lp rp lc rc ls rs=>if page<c.fresh then (if rowOf at' o=page then .ok (o,next) else .error (by',172)) else newBr c f n at' o row page next lp rp lc rc ls rs
theorem thr_part {c:Cx}{o:PT}{row:Bs}{page by' count:Nat}{sum:Bs}{next:Nat}:thr c.s.width (ndsP c.pg) c.fresh (f+1) n at' o row page by' count sum next =
  match Aud.linked (ndsP c.pg) n row page by' count with
  | none=>.error (by',170)
  | some nd=>match part c f n at' o row page by' next nd with
   | .error e=>.error e
   | .ok (t,m)=>if ndg c.s.width (256 - n) nd=sum then .ok (t,m) else .error (by',171):=by
 conv=>lhs;unfold thr
 cases Aud.linked (ndsP c.pg) n row page by' count with
 | none=>rfl
 | some nd =>
  cases nd with
  | leaf k v =>
   simp only[part,ndg,newLf];split
   ·split <;> rfl
   ·split <;> rfl
  | br lp rp lc rc ls rs =>
   simp only[part,newBr];split
   ·split <;> rfl
   ·generalize (if lp=0 then Except.ok (PT.nil,next) else thr c.s.width (ndsP c.pg) c.fresh f (n+1) (at' && isBr o) (Aud.kid n false o) (Aud.under n false row) lp page lc ls next:Except (Nat × Int) (PT × Nat))=x
    cases x with
    | error e=>rfl
    | ok x =>
     obtain⟨l,m1⟩:=x;simp only;generalize (if rp=0 then Except.ok (PT.nil,m1) else thr c.s.width (ndsP c.pg) c.fresh f (n+1) (at' && isBr o) (Aud.kid n true o) (Aud.under n true row) rp page rc rs m1:Except (Nat × Int) (PT × Nat))=y
     cases y with
     | error e=>rfl
     | ok y =>
      obtain⟨r,m2⟩:=y;simp only
      split <;> rfl
theorem side_ok {c:Cx}{T:PT}{row:Bs}{o:PT}(hk:c.Ok)(hh:Here c T n row at' o)(hn:n<256)(b:Bool){cp page cc m m':Nat}{cs:Bs}{u:PT}(hm:c.fresh≤m∧m≤4096)
  (h:(if cp=0 then .ok (.nil,m) else thr c.s.width (ndsP c.pg) c.fresh f (n+1) (at' && isBr o) (Aud.kid n b o) (Aud.under n b row) cp page cc cs m:Except (Nat × Int) (PT × Nat))=.ok (u,m')):u.Wf (n+1)∧c.fresh≤m'∧m'≤4096:=by
 by_cases e:cp=0
 ·rw[if_pos e]at h;cases h;exact⟨trivial,hm⟩
 ·rw[if_neg e]at h
  have hh':=hh.kid hn b;have g:=thr_ok (ndOk hk) hh'.hn hh'.hrow hh'.wf hh'.st hh'.lt hm.1 h hh'.ents;exact⟨g.1,Nat.le_trans hm.1 g.2.2.2.2.2.2.2.2.2,thr_bound (fun p n hp=>pg_lt hk hp) hm.2 h⟩
theorem stPlaces:qQy prog 217=some [(0,1),(1,1),(2,1),(3,32)]:=by kernel_rfl
theorem bldSt {page by' count:Nat}{sum:Bs}(h:sum.length=32):bldO prog 217 [(0,.int .i64 (page:Nat)),(1,.int .i64 (by':Nat)),(2,.int .i64 (count:Nat)),(3,dg sum)]=some (.agg (stC page by' count sum).toArray):=by
 rw[qJw zero217 stPlaces (c:=(stC 0 0 0 z32).toArray) (by kernel_rfl)];have g0:=qZw (ps:=fun i=>[(0,1),(1,1),(2,1),(3,32)][i]?) (i:=0) (o:=0) (a:=[]) (r:=(stC 0 0 0 z32).drop 1) (u:=.int .i64 0) (v:=.int .i64 (page:Nat)) (rest:=[(1,.int .i64 (by':Nat)),(2,.int .i64 (count:Nat)),(3,dg sum)]) rfl rfl rfl;have g1:=qZw (ps:=fun i=>[(0,1),(1,1),(2,1),(3,32)][i]?) (i:=1) (o:=1) (a:=[.int .i64 (page:Nat)]) (r:=(stC 0 0 0 z32).drop 2) (u:=.int .i64 0) (v:=.int .i64 (by':Nat)) (rest:=[(2,.int .i64 (count:Nat)),(3,dg sum)]) rfl rfl rfl;have g2:=qZw (ps:=fun i=>[(0,1),(1,1),(2,1),(3,32)][i]?) (i:=2) (o:=2) (a:=[.int .i64 (page:Nat),.int .i64 (by':Nat)]) (r:=(stC 0 0 0 z32).drop 3) (u:=.int .i64 0) (v:=.int .i64 (count:Nat)) (rest:=[(3,dg sum)]) rfl rfl rfl;have g3:=qJf (ps:=fun i=>[(0,1),(1,1),(2,1),(3,32)][i]?) (i:=3) (o:=3) (n:=32) (a:=[.int .i64 (page:Nat),.int .i64 (by':Nat),.int .i64 (count:Nat)]) (m:=z32.map u8) (r:=[]) (vs:=sum.map u8) (rest:=[]) rfl rfl (by simp) (by simp[h]);rw[qZf,List.append_nil,List.append_nil]at g3;exact congrArg (Option.map Value.agg) (((g0.trans g1).trans g2).trans g3)
def SdQ (c:Cx)(w0:World)(page n:Nat)(row:Bs)(nc:List Value)(b:Bool)(rows:List (RK × Value))(lvs:List (Bs × Value))(r:Except (Nat × Int) (PT × Nat))(x0 x1 x6 x7 xb:Value)(w:World):Prop :=
 x0=pt c.pb 0∧x1=.int .i64 (page:Nat)∧x6=pt w0.heap.size 0∧x7=pt (w0.heap.size+1) 0 ∧
  match r with
  | .error e=>xb=.bool true∧ErrQ c w e
  | .ok (t,m)=>xb=.bool false∧Fr (PaB c) w0 w∧w.heap[w0.heap.size]?=some (.cells nc.toArray 78 (0,0))∧w.heap[w0.heap.size+1]?=some (.cells (rwC n row).toArray 158 (0,0))∧∃ rows' lvs',PassM c w m rows' lvs'∧RowsIn (n+1) (Aud.under n b row) t rows rows'∧LvsIn t lvs lvs'
end A
end
section
namespace A
open Aud
section
variable {c:Cx} {w w':World} {next:Nat} {rows:List (RK × Value)} {lvs:List (Bs × Value)}
def ThF (c:Cx)(T:PT)(f n:Nat):Prop:=∀ {w:World} {next:Nat} {rows:List (RK × Value)} {lvs:List (Bs × Value)} {row:Bs} {at':Bool} {o:PT} (page by' count:Nat) {sum:Bs},PassM c w next rows lvs→Here c T n row at' o→c.fresh≤next→next≤4096→sum.length=32 →
 Fn prog 126 #[pt c.pb 0,.agg (stC page by' count sum).toArray,.agg (rwC n row).toArray] w fun x w'=>ThQ c w n row rows lvs (thr c.s.width (ndsP c.pg) c.fresh f n at' o row page by' count sum next) x w'
theorem likeM (h:PassM c w next rows lvs)(hk:c.Ok){T:PT}{row:Bs}{o:PT}(hh:Here c T n row at' o)(lp rp:Nat):∃ (mc:List Value) (ok:Bool), lookO prog 68 w (.map (some c.mn)) (.int .i64 ((Aud.rowAt 0 Aud.zrow T (n, row)).getD 0:Nat))=some (.agg mc.toArray, ok)∧mc.length=102∧mc.all one=true ∧
  ((∃ a b:Nat,mc[0]?=some (.int .i64 2)∧mc[1]?=some (.int .i64 (a:Nat))∧mc[2]?=some (.int .i64 (b:Nat))∧((a=lp∧b=rp) ↔ (at'=true∧likeB lp rp o=true)))∨∃ kd:Int,mc[0]?=some (.int .i64 kd)∧(kd == 2)=false∧¬ (at'=true∧likeB lp rp o=true)):=by
 have hz:∀ {q:Nat},q=0→¬ (at'=true∧likeB lp rp o=true)→∃ (mc:List Value) (ok:Bool),lookO prog 68 w (.map (some c.mn)) (.int .i64 (q:Nat))=some (.agg mc.toArray,ok)∧mc.length=102∧mc.all one=true ∧
  ((∃ a b:Nat,mc[0]?=some (.int .i64 2)∧mc[1]?=some (.int .i64 (a:Nat))∧mc[2]?=some (.int .i64 (b:Nat))∧((a=lp∧b=rp) ↔ (at'=true∧likeB lp rp o=true)))∨∃ kd:Int,mc[0]?=some (.int .i64 kd)∧(kd == 2)=false∧¬ (at'=true∧likeB lp rp o=true)):=fun {q} hq hn=>by
  subst hq
  have h0:ndsP c.pg 0=none:=by
   cases hx:ndsP c.pg 0 with
   | none=>rfl
   | some nd=>have:=(hk.hnd 0 nd (qJd.1 hx)).1;omega
  exact⟨nd0,false,h.ndN hk h0,qQz z32l z32l z32l _,qZy _ _ _ _ _ _ _ _ rfl,.inr ⟨0,rfl,rfl,hn⟩⟩
 have hpos:=hh.pos.rows n row (Nat.le_refl _) ((qKs hh.hn).2 fun _ _=>rfl);rw[hpos]
 cases at' with
 | false=>exact hz rfl fun e=>by cases e.1
 | true =>
  rw[if_pos rfl]
  cases o with
  | nil=>exact hz rfl fun e=>by cases e.2
  | leaf p k v =>
   have e:(Aud.rowAt n row (.leaf p k v) (n,row)).getD 0=p:=by unfold Aud.rowAt;rw[if_pos rfl];rfl
   rw[e];obtain⟨vv,lk,ov,_,hnr,_,_⟩:=h.ndS hk (p:=p) (n:=.leaf k v) hh.st;exact⟨_,_,lk,qZm hnr _,ndA_one ov,.inr ⟨1,rfl,rfl,fun e=>by cases e.2⟩⟩
  | br p l r =>
   have e:(Aud.rowAt n row (.br p l r) (n,row)).getD 0=p:=by unfold Aud.rowAt;rw[if_pos rfl];rfl
   rw[e];obtain⟨vv,lk,ov,_,hnr,_,_⟩:=h.ndS hk (p:=p) hh.st.1;refine⟨_,_,lk,qZm hnr _,ndA_one ov,.inl ⟨l.page,r.page,rfl,rfl,rfl,?_⟩⟩;simp[likeB]
def MdQ (c:Cx)(w0:World)(page n:Nat)(row:Bs)(nc:List Value)(rows:List (RK × Value))(lvs:List (Bs × Value))(m:Nat)(x0 x1 x6 x7:Value)(w:World):Prop :=
 x0=pt c.pb 0∧x1=.int .i64 (page:Nat)∧x6=pt w0.heap.size 0∧x7=pt (w0.heap.size+1) 0∧Fr (PaB c) w0 w∧w.heap[w0.heap.size]?=some (.cells nc.toArray 78 (0,0))∧w.heap[w0.heap.size+1]?=some (.cells (rwC n row).toArray 158 (0,0))∧PassM c w m rows lvs
theorem anewBr (h:PassM c w next rows lvs)(hk:c.Ok){T:PT}(hT:OldT c T){row:Bs}{o:PT}(hh:Here c T n row at' o){page lp rp lc rc:Nat}{ls rs:Bs}(hp:ndsP c.pg page=some (.br lp rp lc rc ls rs))(hn:n<256)(ov:one vv=true)(hf:c.fresh≤next)(hnx:next≤4096)(ih:ThF c T f (n+1)) :
  Fn prog 163 #[pt c.pb 0,.int .i64 (page:Nat),.agg (ndA (.br lp rp lc rc ls rs) vv).toArray,.agg (rwC n row).toArray] w fun x w'=>ThQ c w n row rows lvs (newBr c f n at' o row page next lp rp lc rc ls rs) x w':=by
 refine go163 (by simp) ?_;have hnr:=(hk.hnd page _ (qJd.1 hp)).2;obtain⟨W,hW,f1,k1,k2,s1⟩:=qJy w (ndA (.br lp rp lc rc ls rs) vv).toArray 78 (rwC n row).toArray 158;have h1:=h.fr0 f1;have lP:∀ {b:Nat},PaB c b→b<w.heap.size:=h.lt;simp -implicitDefEqProofs only[go_sem,jY,Nat.reduceAdd,Value.cells,zB,Tryz.f163,hW];unfold newBr;generalize hl:(if lp=0 then Except.ok (PT.nil,next) else thr c.s.width (ndsP c.pg) c.fresh f (n+1) (at' && isBr o) (Aud.kid n false o) (Aud.under n false row) lp page lc ls next:Except (Nat × Int) (PT × Nat))=L;refine qXc (Q:=fun e ev w1=>e=.normal∧SdQ c w page n row (ndA (.br lp rp lc rc ls rs) vv) false rows lvs L (ev 0) (ev 1) (ev 6) (ev 7) (ev 30) w1) _ (fun e ev w1=>?_) ?_
 ·rintro⟨rfl,hD⟩
  rw[thenQ_normal];clear h1 k1 k2 f1 s1 hW W;obtain⟨e0,e1,e6,e7,hD⟩:=hD
  cases L with
  | error e =>
   obtain⟨e30,hD⟩:=hD;simp -implicitDefEqProofs only[go_sem,e30];exact⟨rfl,hD⟩
  | ok y =>
  obtain⟨l,m1⟩:=y;obtain⟨e30,f1,k1,k2,rows1,lvs1,h1,rr1,ll1⟩:=hD;have g1':=side_ok hk hh hn false ⟨hf,hnx⟩ hl;simp -implicitDefEqProofs only[go_sem,e30];generalize hr:(if rp=0 then Except.ok (PT.nil,m1) else thr c.s.width (ndsP c.pg) c.fresh f (n+1) (at' && isBr o) (Aud.kid n true o) (Aud.under n true row) rp page rc rs m1:Except (Nat × Int) (PT × Nat))=R;refine qXc (Q:=fun e ev w1=>e=.normal∧SdQ c w page n row (ndA (.br lp rp lc rc ls rs) vv) true rows1 lvs1 R (ev 0) (ev 1) (ev 6) (ev 7) (ev 48) w1) _ (fun e ev w1=>?_) ?_
  ·rintro⟨rfl,hD⟩
   rw[thenQ_normal];clear h1 k1 k2 f1 e0 e1 e6 e7 e30;obtain⟨e0,e1,e6,e7,hD⟩:=hD
   cases R with
   | error e =>
    obtain⟨e48,hD⟩:=hD;simp -implicitDefEqProofs only[go_sem,e48];exact⟨rfl,hD⟩
   | ok y =>
   obtain⟨r,m2⟩:=y;obtain⟨e48,f1,k1,k2,rows2,lvs2,h1,rr2,ll2⟩:=hD;have g2':=side_ok hk hh hn true g1'.2 hr;obtain⟨d0,d1,d2,d3,d4,d5,d6⟩:=rdBr hnr.2.1 hnr.2.2 k1;have c21:((2:Int) == 1)=false:=rfl;simp -implicitDefEqProofs only[go_sem,jY,zB,e48,e6,d0,c21];obtain⟨mc,ok,lm,ml,mo,mb⟩:=likeM h1 hk hh lp rp;refine qXc (Q:=fun e ev w1=>e=.normal∧MdQ c w page n row (ndA (.br lp rp lc rc ls rs) vv) rows2 lvs2 m2 (ev 0) (ev 1) (ev 6) (ev 7) w1∧∃ b,ev 12=pt b 0∧w1.heap[b]?=some (.cells mc.toArray 78 (0,0))) _ (fun e ev w1=>?_) ?_
   ·rintro⟨rfl,hM,b,e12,kb⟩
    rw[thenQ_normal];refine qXc (Q:=fun e ev w1=>e=.normal∧MdQ c w page n row (ndA (.br lp rp lc rc ls rs) vv) rows2 lvs2 m2 (ev 0) (ev 1) (ev 6) (ev 7) w1∧ev 9=.bool (decide (at'=true∧likeB lp rp o=true))) _ (fun e ev w1=>?_) ?_
    ·
     rintro⟨rfl,hM,e9⟩;rw[thenQ_normal];clear h1 k1 k2 f1 e0 e1 e6 e7 e48 d0 d1 d2 d3 d4 d5 d6 lm;obtain⟨e0,e1,e6,e7,f1,k1,k2,h1⟩:=hM;have lP2:∀ {b:Nat},PaB c b→b<w.heap.size:=lP;obtain⟨p0,_,_,_,_,_,_,_,_,p9⟩:=h1.rds;have nx:((page:Int) != (m2:Int))=decide (page≠m2):=natne page m2;have wi:=iSu (i:=m2)
     by_cases hx:page=m2
     ·rw[decide_eq_false fun e=>e hx]at nx
      by_cases hB:at'=true∧likeB lp rp o=true
      ·rw[decide_eq_true hB]at e9
       simp -implicitDefEqProofs only[go_sem,jY,gLa,gLz,gLs,bSe,zB,e0,e1,e9,p9,nx,p0];refine qQa pl44 ((h1.find hk page 172).mono ?_);rintro _ w9 ⟨rfl,e9⟩;simp -implicitDefEqProofs only[go_sem];rw[if_neg fun h=>h.2 hB];exact⟨rfl,e9⟩
      ·rw[decide_eq_false hB]at e9
       have q3:wrO prog 3 w1 c.pb 4 (.int .i64 ((m2+1:Nat):Int))=some (put w1 c.pb (.cells (paC c (m2+1)) 213 (0,0))):=wr1 sz3 rfl h1.pass (show 4<5 by decide);simp -implicitDefEqProofs only[go_sem,jY,jG,gLa,gLz,gLs,bSe,zB,e0,e1,e9,p9,nx,wi,q3];have k3:=qQd (o:=.cells (paC c (m2+1)) 213 (0,0)) h1.pass;have f3:Fr (fun b=>b=c.pb) w1 (put w1 c.pb (.cells (paC c (m2+1)) 213 (0,0))):=(Fr.refl _ _).put (b:=c.pb) _ (fun _=>rfl);have h3:=h1.step hk (m2+1) f3 k3;have g1:=f3.at k1 fun e=>by have:=lP (b:=c.pb) (.inr (.inl rfl));omega
       have g2:=f3.at k2 fun e=>by have:=lP (b:=c.pb) (.inr (.inl rfl));omega
       have f3:=f1.trans (f3.mono (G:=PaB c) fun _ _ e=>.inr (.inl e));generalize put w1 c.pb (.cells (paC c (m2+1)) 213 (0,0))=W3 at *;obtain⟨_,_,x2,_,x4,_⟩:=h3.rds;obtain⟨_,_,t2⟩:=rdRw hh.hrow.1 g2;have h3:=h3.fr0 (Fr.refl _ _).drew;have f3:=f3.drew;have g1:W3.drew.heap[w.heap.size]?=_:=g1;obtain⟨ob,hpo,h4,f4⟩:=h3.putR hk (n:=n) (r:=row) hh.hrow.1 page;have hpo:putE prog 158 W3.heap[c.nR]? (.agg (rwC n row).toArray) (.int .i64 (page:Nat))=some ob:=hpo;simp -implicitDefEqProofs only[go_sem,jY,zB,e1,e7,x2,x4,t2,map152,hpo];have g1:=f4.at g1 fun e=>by have:=lP (b:=c.nR) (.inr (.inr (.inl rfl)));omega
       have f4:=f3.trans (f4.mono (G:=PaB c) fun _ _ e=>.inr (.inr (.inl e)));generalize put W3.drew c.nR ob=W5 at *;obtain⟨d0,_⟩:=rdBr hnr.2.1 hnr.2.2 g1;simp -implicitDefEqProofs only[go_sem,e6,d0,c21];rw[if_pos ⟨hx,hB⟩];exact⟨rfl,f4,_,_,h4,RowsIn.brL hn hh.hrow g1'.1 g2'.1 rr1 rr2,LvsIn.br ll1 ll2⟩
     ·rw[decide_eq_true hx]at nx
      simp -implicitDefEqProofs only[go_sem,jY,gLa,gLz,gLs,qXq,zB,e0,e1,p9,nx,p0];refine qQa pl44 ((h1.find hk page 172).mono ?_);rintro _ w9 ⟨rfl,e9⟩;simp -implicitDefEqProofs only[go_sem];rw[if_neg fun h=>hx h.1];exact⟨rfl,e9⟩
    ·
     obtain⟨e0,e1,e6,e7,f1,k1,k2,h1⟩:=hM;obtain⟨d0,d1,d2,d3,d4,d5,d6⟩:=rdBr hnr.2.1 hnr.2.2 k1
     rcases mb with ⟨a,b',m0,m1',m2',hab⟩ | ⟨kd,m0,hkd,hB⟩
     ·have r0:rdO prog 3 w1 b 0=some (.int .i64 2):=rd1 agg3 kb (by rw[zZ];exact m0)
      have r1:rdO prog 3 w1 b 1=some (.int .i64 (a:Nat)):=rd1 agg3 kb (by rw[zZ];exact m1');have r2:rdO prog 3 w1 b 2=some (.int .i64 (b':Nat)):=rd1 agg3 kb (by rw[zZ];exact m2');have c22:((2:Int) == 2)=true:=rfl;have na:=nateq a lp;have nb:=nateq b' rp
      by_cases ha:a=lp
      ·rw[decide_eq_true ha]at na
       simp -implicitDefEqProofs only[go_sem,jY,gLa,gLz,gLs,bSe,zB,e6,e12,r0,r1,r2,d1,d2,na,nb];refine⟨⟨by first | rfl | assumption,by first | rfl | assumption,by first | rfl | assumption,by first | rfl | assumption,f1,k1,k2,h1⟩,?_⟩
       congr 1
       exact decide_eq_decide.2 ⟨fun h=>hab.1 ⟨ha,h⟩,fun h=>(hab.2 h).2⟩
      ·rw[decide_eq_false ha]at na
       simp -implicitDefEqProofs only[go_sem,jY,gLa,gLz,gLs,bSe,qQt,zB,e6,e12,r0,r1,d1,na];refine⟨⟨by first | rfl | assumption,by first | rfl | assumption,by first | rfl | assumption,by first | rfl | assumption,f1,k1,k2,h1⟩,?_⟩;rw[decide_eq_false fun h=>ha (hab.2 h).1]
     ·have r0:rdO prog 3 w1 b 0=some (.int .i64 kd):=rd1 agg3 kb (by rw[zZ];exact m0)
      simp -implicitDefEqProofs only[go_sem,jY,gLa,gLz,gLs,qQt,zB,e6,e12,r0,hkd];refine⟨⟨by first | rfl | assumption,by first | rfl | assumption,by first | rfl | assumption,by first | rfl | assumption,f1,k1,k2,h1⟩,?_⟩;rw[decide_eq_false hB]
   ·
    refine qXf (fun j=>j == 17) (.row [0,1,2,7,8,9,3,4,5,6,10,11,12,13,14,15,16,17,18]) rfl (by kernel_rfl) (by kernel_rfl) ?_;have f1:=f1.drew;have h1:=h1.fr0 (Fr.refl _ _).drew;have k1:w1.drew.heap[w.heap.size]?=_:=k1;have k2:w1.drew.heap[w.heap.size+1]?=_:=k2;have lm:lookO prog 68 w1.drew (.map (some c.mn)) (.int .i64 ((Aud.rowAt 0 Aud.zrow T (n,row)).getD 0:Nat))=some (.agg mc.toArray,ok):=lm;generalize w1.drew=W1 at *;obtain⟨p0,p1,p2,p3,p4,p5,p6,p7,p8,p9⟩:=h1.rds;obtain⟨_,_,t2⟩:=rdRw hh.hrow.1 k2;have lo:=h1.oldRow hT (n:=n) hh.hrow.1;obtain⟨W2,hW2,f2,k3,s2⟩:=qQl W1 nd0.toArray 78;have q3:wrO prog 78 W2 W1.heap.size 0 (.agg mc.toArray)=some (put W2 W1.heap.size (.cells mc.toArray 78 (0,0))):=qQr (by simp[ml];exact sz78) k3 (by simp[ml,qQz z32l z32l z32l]) (by simpa using mo);have fe:=f2.ext;simp -implicitDefEqProofs only[go_sem,jY,jG,gLa,gLz,gLs,Value.cells,bSe,zB,qQk,OT.row,e0,e7,p0,p1,p3,p6,t2,lo,lm,ndZero,hW2,q3,fe,implies_true];have f3:=f2.put (b:=W1.heap.size) (.cells mc.toArray 78 (0,0)) fun h=>by omega
    exact⟨⟨by first | rfl | assumption,by first | rfl | assumption,by first | rfl | assumption,by first | rfl | assumption,f1.trans (f3.mono fun _ _ h=>h.elim),f3.at k1 id,f3.at k2 id,h1.fr0 f3⟩,_,rfl,qQd k3⟩
  ·
   refine qXf (fun j=>j == 14) (.row [0,1,2,3,4,5,7,8,10,6,9,11,12,13,14,15,16,17]) rfl (by kernel_rfl) (by kernel_rfl) ?_;have f1:=f1.drew;have h1:=h1.fr0 (Fr.refl _ _).drew;have k1:w1.drew.heap[w.heap.size]?=_:=k1;have k2:w1.drew.heap[w.heap.size+1]?=_:=k2;generalize w1.drew=W1 at *;obtain⟨d0,d1,d2,d3,d4,d5,d6⟩:=rdBr hnr.2.1 hnr.2.2 k1;obtain⟨_,_,t2⟩:=rdRw hh.hrow.1 k2;have nl:((rp:Int) != 0)=decide (rp≠0):=natne rp 0
   by_cases zl:rp=0
   ·rw[decide_eq_false fun e=>e zl]at nl
    rw[if_pos zl]at hr;simp -implicitDefEqProofs only[go_sem,jY,jG,gLa,gLz,gLs,qQt,zB,OT.row,d2,nl,e0,e1,e6,e7];rw[← hr];exact⟨by first | rfl | assumption,by first | rfl | assumption,by first | rfl | assumption,by first | rfl | assumption,by first | rfl | assumption,f1,k1,k2,rows1,lvs1,h1,RowsIn.nil (n+1) (Aud.under n true row) rows1,LvsIn.nil lvs1⟩
   ·rw[decide_eq_true zl]at nl
    rw[if_neg zl]at hr;have bs:=bldSt (page:=rp) (by':=page) (count:=rc) hnr.2.2;simp -implicitDefEqProofs only[go_sem,jY,jG,gLa,gLz,gLs,bSe,zB,OT.row,d2,nl,d4,d6,bs,t2,e0,e1,e6,e7];refine qQf pl185 ((rowUnder W1 n hn hh.hrow.1 1 (by decide)).mono ?_);rintro _ w6 ⟨rfl,f6⟩;refine⟨fun _=>f6.ext,?_⟩;rw[show Aud.under n ((1:Nat) == 1) row=Aud.under n true row from rfl];simp -implicitDefEqProofs only[go_sem,jY,gLa,gLz,gLs,bSe];refine qQf pl126 ((ih rp page rc (h1.fr0 f6) (hh.kid hn true) g1'.2.1 g1'.2.2 hnr.2.2).mono ?_);rintro x w7 hq;rw[hr]at hq;refine⟨(fun h=>by cases h),?_⟩
    cases hR:R with
    | error e =>
     rw[hR]at hq;obtain⟨rfl,hq⟩:=hq;simp -implicitDefEqProofs only[go_sem,jY,jG,gLa,gLz,gLs,bSe,Bool.not_false];exact⟨by first | rfl | assumption,by first | rfl | assumption,by first | rfl | assumption,by first | rfl | assumption,by first | rfl | assumption,hq⟩
    | ok y =>
     obtain⟨t,m⟩:=y;rw[hR]at hq;obtain⟨rfl,f7,rows7,lvs7,h7,rr,ll⟩:=hq;simp -implicitDefEqProofs only[go_sem,jY,jG,gLa,gLz,gLs,bSe,Bool.not_true];exact⟨by first | rfl | assumption,by first | rfl | assumption,by first | rfl | assumption,by first | rfl | assumption,by first | rfl | assumption,(f1.trans (f6.mono fun _ _ h=>h.elim)).trans f7,f7.at (f6.at k1 id) fun e=>by have:=lP e;omega,f7.at (f6.at k2 id) fun e=>by have:=lP e;omega,rows7,lvs7,h7,rr,ll⟩
 ·
  refine qXf (fun j=>j == 14) (.row [0,1,2,3,4,5,7,8,10,6,9,11,12,13,14,15,16,17]) rfl (by kernel_rfl) (by kernel_rfl) ?_;have f1:=(f1.mono (G:=PaB c) fun _ _ h=>h.elim).drew;have h1:=h1.fr0 (Fr.refl _ _).drew;have k1:W.drew.heap[w.heap.size]?=_:=k1;have k2:W.drew.heap[w.heap.size+1]?=_:=k2;generalize W.drew=W1 at *;obtain⟨d0,d1,d2,d3,d4,d5,d6⟩:=rdBr hnr.2.1 hnr.2.2 k1;obtain⟨_,_,t2⟩:=rdRw hh.hrow.1 k2;have nl:((lp:Int) != 0)=decide (lp≠0):=natne lp 0
  by_cases zl:lp=0
  ·rw[decide_eq_false fun e=>e zl]at nl
   rw[if_pos zl]at hl;simp -implicitDefEqProofs only[go_sem,jY,jG,gLa,gLz,gLs,qQt,zB,OT.row,d1,nl];rw[← hl];exact⟨by first | rfl | assumption,by first | rfl | assumption,by first | rfl | assumption,by first | rfl | assumption,by first | rfl | assumption,f1,k1,k2,rows,lvs,h1,RowsIn.nil (n+1) (Aud.under n false row) rows,LvsIn.nil lvs⟩
  ·rw[decide_eq_true zl]at nl
   rw[if_neg zl]at hl;have bs:=bldSt (page:=lp) (by':=page) (count:=lc) hnr.2.1;simp -implicitDefEqProofs only[go_sem,jY,jG,gLa,gLz,gLs,bSe,zB,OT.row,d1,nl,d3,d5,bs,t2];refine qQf pl185 ((rowUnder W1 n hn hh.hrow.1 0 (by decide)).mono ?_);rintro _ w6 ⟨rfl,f6⟩;refine⟨fun _=>f6.ext,?_⟩;rw[show Aud.under n ((0:Nat) == 1) row=Aud.under n false row from rfl];simp -implicitDefEqProofs only[go_sem,jY,gLa,gLz,gLs,bSe];refine qQf pl126 ((ih lp page lc (h1.fr0 f6) (hh.kid hn false) hf hnx hnr.2.1).mono ?_);rintro x w7 hq;rw[hl]at hq;refine⟨(fun h=>by cases h),?_⟩
   cases hR:L with
   | error e =>
    rw[hR]at hq;obtain⟨rfl,hq⟩:=hq;simp -implicitDefEqProofs only[go_sem,jY,jG,gLa,gLz,gLs,bSe,Bool.not_false];exact⟨by first | rfl | assumption,by first | rfl | assumption,by first | rfl | assumption,by first | rfl | assumption,by first | rfl | assumption,hq⟩
   | ok y =>
    obtain⟨t,m⟩:=y;rw[hR]at hq;obtain⟨rfl,f7,rows7,lvs7,h7,rr,ll⟩:=hq;simp -implicitDefEqProofs only[go_sem,jY,jG,gLa,gLz,gLs,bSe,Bool.not_true];exact⟨by first | rfl | assumption,by first | rfl | assumption,by first | rfl | assumption,by first | rfl | assumption,by first | rfl | assumption,(f1.trans (f6.mono fun _ _ h=>h.elim)).trans f7,f7.at (f6.at k1 id) fun e=>by have:=lP e;omega,f7.at (f6.at k2 id) fun e=>by have:=lP e;omega,rows7,lvs7,h7,rr,ll⟩
end
end A
end
end Go.V
