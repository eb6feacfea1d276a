/- Helpers. -/
import Derived.Test.YtmenaeggoakppaaGreatDoorG22
set_option linter.all false
set_option maxRecDepth 100000
set_option maxHeartbeats 8000000
open Array renaming all_toList→y8
open Go.Builtin renaming zeroCells→xH,nextslicecap→xG,append_→qN
open List renaming replicate→zG,length→vQ,take_length→vX,all_cons→vZ,getD_cons_zero→zR
open Nat renaming reduceEqDiff→jF,reduceBEq→jB,reduceAdd→vJ,min_eq_left→vK,lt_irrefl→jD,zero_mul→jA,add_zero→jO,zero_le→jZ,zero_add→z8
open Go.Value renaming cells→jM
open Go.V.Wit renaming ldig→vV,Says→vW
namespace Go.V
open Go.Proofs.Tryz Go.V.Tryz
open Go.Proofs Sha
variable {bs cs:Array Value} {k:Bs} {gs:FuncId} {b3 i:Nat} {w:World}
section
namespace Wit
variable {α:Type}
def passes (P:α→Bs→Nat→Bs→α)(k:Bs):Nat→α→List Bs→α
 | _,x,[]=>x
 | h,x,n::r=>passes P k (h+1) (P x k h n) r
def fold (E:Bs→Option Bs→α)(F:α→α→α)(P:α→Bs→Nat→Bs→α):Tw→α
 | .leaf k _ near a=>passes P k 0 (E k a) near
 | .fork ks f _ near l r=>passes P (ks.headD []) f (F (fold E F P l) (fold E F P r)) near
def AllG (G:α→Prop)(E:Bs→Option Bs→α)(F:α→α→α)(P:α→Bs→Nat→Bs→α):Tw→Prop
 | .leaf k _ near a=>∀ i,i≤near.length→G (passes P k 0 (E k a) (near.take i))
 | .fork ks f _ near l r=>AllG G E F P l∧AllG G E F P r∧∀ i,i≤near.length→G (passes P (ks.headD []) f (F (fold E F P l) (fold E F P r)) (near.take i))
theorem passes_snoc (P:α→Bs→Nat→Bs→α)(k:Bs):∀ (near:List Bs) (h:Nat) (x:α) (n:Bs),passes P k h x (near++[n])=P (passes P k h x near) k (h+near.length) n
 | [],_,_,_=>rfl
 | m::r,h,x,n=>by
  simp only[List.cons_append,passes,List.length_cons];rw[passes_snoc P k r,show h+1+r.length=h+(r.length+1) by omega]
end Wit
def AnsR (w:World)(x:Value)(a:Option Bs):Prop:=∃ v,x=.agg #[.bool a.isSome,v]∧one v=true∧By w v (a.getD [])
theorem By.one {v:Value}{bs:Bs}(h:By w v bs):V.one v=true:=by
 obtain⟨a,c,rfl,_⟩:=h.slice;rfl
theorem qZj {t:TypeId}{b:Nat}{e:TypeId}{fz:Nat × Nat}(ha:aggO prog t=some true)(hs:szO prog t=some cs.size)(h:w.heap[b]?=some (.cells cs e fz)):rdO prog t w b 0=some (.agg cs):=by
 rw[qQo h,qJb ha hs (by omega)]
 congr 2
 simp
structure Rep (α:Type) (sz:Nat) where
 R:World→World→Value→α→Prop
 back:∀ {b b' w v x},R b w v x→b'.heap.size≤b.heap.size→R b' w v x
 fr:∀ {b w w' v x} {F:Nat→Prop},R b w v x→Fr F w w'→(∀ c,b.heap.size≤c→¬ F c)→R b w' v x
 agg:∀ {b w v x},R b w v x→∃ cs,v=.agg cs∧cs.size=sz∧cs.all V.one=true
section
variable {α:Type} (rep:Rep α 32) (G:α→Prop) (E:Bs→Option Bs→α) (F:α→α→α) (Pp:α→Bs→Nat→Bs→α) (ge gf gp:FuncId) (ce cf cp:Array Value) (u wb:World)
def fpID (bs w0:World)(b8 b9:Nat)(tbv pv nv:Value)(k:Bs)(f:Nat)(x0:α)(near:List Bs)(n:Nat)(vs:List Value)(w:World):Prop :=
 ∃ (i:Nat) (y z:Value) (cs:Array Value),vs=[tbv,pv,pt b8 0,pt b9 0,y,z,nv,.int .i64 (near.length:Nat),.int .i64 (i:Nat)]∧i≤near.length∧n=near.length - i∧w.heap[b9]?=some (.cells cs 23 (0,0))∧rep.R bs w (.agg cs) (Wit.passes Pp k f x0 (near.take i))∧No w0 w∧w.heap[b8]?=some (.cells (bl (zG 32 0)) 23 (0,0))∧bs.heap.size≤w.heap.size
theorem foldD (pe:qQe prog ge=true)(pf:qQe prog gf=true)(pp:qQe prog gp=true)
  (hE:∀ w k x a,No wb w→k.length=32→AnsR w x a→(∀ v,a=some v→v.length≤128)→G (E k a)→Fn prog ge (#[]++#[dg k,x]++ce) w fun v w'=>rep.R w w' v (E k a)∧No w w')
  (hF:∀ b w v1 x1 v2 x2,No wb w→b.heap.size≤w.heap.size→rep.R b w v1 x1→rep.R b w v2 x2→G (F x1 x2)→Fn prog gf (#[]++#[v1,v2]++cf) w fun v w'=>rep.R w w' v (F x1 x2)∧No w w')
  (hP:∀ b w v x k h n,No wb w→b.heap.size≤w.heap.size→rep.R b w v x→k.length=32→h<256→n.length=32→G (Pp x k h n)→Fn prog gp (#[]++#[v,dg k,.int .i64 ((h:Nat):Int),dg n]++cp) w fun v w'=>rep.R b w' v (Pp x k h n)∧Fr (fun c=>b.heap.size≤c) w w') :
  ∀ (t:Wit.Tw) (tb:Nat) (B:List Nat) (w0:World),TwM u w0 tb t B→t.Ok→No u w0→No wb w0→Wit.AllG G E F Pp t →
   Fn prog 105 #[pt tb 0,.func (.func ge) #[] ce,.func (.func gf) #[] cf,.func (.func gp) #[] cp] w0 fun v w'=>rep.R w0 w' v (Wit.fold E F Pp t)∧No w0 w':=by
 intro t
 induction t with
 | leaf k top near a =>
  intro tb B w0 hT hok hu hb hG;obtain⟨kv,nv,vv,Bn,Bv,rfl,t0,hk,hn,_,hv,_⟩:=hT;refine go105 (by simp) ?_;have f2:No w0 ((w0.alloc (.cells (bl (zG 32 0)) 23)).alloc (.cells (bl (zG 32 0)) 23)):=((Fr.refl _ _).alloc _).alloc _;have k82:((w0.alloc (.cells (bl (zG 32 0)) 23)).alloc (.cells (bl (zG 32 0)) 23)).heap[w0.heap.size]?=some (.cells (bl (zG 32 0)) 23 (0,0)):=qQq (qQc _ _)
  have k92:((w0.alloc (.cells (bl (zG 32 0)) 23)).alloc (.cells (bl (zG 32 0)) 23)).heap[w0.heap.size+1]?=some (.cells (bl (zG 32 0)) 23 (0,0)):=by
   have:=qQc (w0.alloc (.cells (bl (zG 32 0)) 23)) (.cells (bl (zG 32 0)) 23);rw[qQd]at this;exact this
  have hs2:((w0.alloc (.cells (bl (zG 32 0)) 23)).alloc (.cells (bl (zG 32 0)) 23)).heap.size=w0.heap.size+2:=by rw[qQd,qQd]
  simp -implicitDefEqProofs only[go_sem,jF,vJ,Tryz.f105,jM,qQj];generalize (w0.alloc (.cells (bl (zG 32 0)) 23)).alloc (.cells (bl (zG 32 0)) 23)=w2 at *;have t2:=f2.at t0 id;have r2:=qQo (P:=prog) t2
  have l69:rdO prog 69 w2 tb 4=some (.agg #[.bool a.isSome,vv]):=by
   rw[r2,qJb agg69 sz69 (by simp)];rfl
  have hkey:k.length=32:=hok.1;obtain⟨kb,ko,kc,rfl,_⟩:=hk.pos (by simp);have rk2:=(hk.fr0 (hu.trans f2)).get (P:=prog) agg34 sz34 (i:=0) (by simp);rw[jA,jO,zR]at rk2;have y0:(0:Int)≤0∧(0:Int)<((([k]:List Bs).length:Nat):Int):=by simp
  have l24:rdO prog 24 w2 tb 0=some (.slice (some ⟨kb,ko,none⟩) ([k]:List Bs).length kc):=by
   rw[r2,qQk agg24];rfl
  have l91:rdO prog 91 w2 tb 6=some (.pointer none):=by
   rw[r2,qQk agg91];rfl
  simp -implicitDefEqProofs only[go_sem,jF,jB,l24,l91,l69,rk2,y0];refine qQa pe ((hE w2.drew k _ a (hb.trans f2).drew hkey ⟨vv,rfl,hv.one,hv.fr0 f2.drew⟩ hok.2.2.2.2 (hG 0 (jZ _))).mono ?_);rintro v3 w3 ⟨R3,f3⟩;have k93:w3.heap[w0.heap.size+1]?=_:=f3.at (w:=w2.drew) k92 id;have k83:w3.heap[w0.heap.size]?=_:=f3.at (w:=w2.drew) k82 id;have f03:No w0 w3:=f2.drew.trans f3;have hs3:w2.heap.size≤w3.heap.size:=f3.size;have hnl:near.length≤256:=by have:=hok.2.2.1;have:=hok.2.1;omega
  obtain⟨c4,rfl,hc4,hone4⟩:=rep.agg R3;have q3:=qQw (P:=prog) (t:=23) (vs:=c4) (by rw[hc4];exact sz23) k93 (by rw[hc4];simp) hone4;have k94:=qQf (o:=.cells c4 23 (0,0)) k93;have k84:(put w3 (w0.heap.size+1) (.cells c4 23 (0,0))).heap[w0.heap.size]?=some (.cells (bl (zG 32 0)) 23 (0,0)):=qQr k83 (by omega);have fp4:Fr (fun b=>b=w0.heap.size+1) w3 (put w3 (w0.heap.size+1) (.cells c4 23 (0,0))):=(Fr.refl _ _).put (b:=w0.heap.size+1) _ fun _=>rfl;have f4:No w0 (put w3 (w0.heap.size+1) (.cells c4 23 (0,0))):=f03.put (b:=w0.heap.size+1) _ fun h=>by omega
  have R4:rep.R w2 (put w3 (w0.heap.size+1) (.cells c4 23 (0,0))) (.agg c4) (E k a):=rep.back (rep.fr R3 fp4 fun c hc e=>by have hc:w2.heap.size≤c:=hc;omega) (show w2.heap.size≤w2.heap.size by omega);have hs4:w2.heap.size≤(put w3 (w0.heap.size+1) (.cells c4 23 (0,0))).heap.size:=by have:=fp4.size;omega
  have t4:=f4.at t0 id;simp -implicitDefEqProofs only[go_sem,jF,q3];generalize put w3 (w0.heap.size+1) (.cells c4 23 (0,0))=w4 at *;obtain⟨na,nc,rfl,hnc⟩:=hn.rd.slice;have r4:=qQo (P:=prog) t4;simp -implicitDefEqProofs only[go_sem,gLa,gLz,gLs,r4,qQk];refine loopD [0,3,8,9,10,11,50,51,52] (fpID rep Pp w2 w0 w0.heap.size (w0.heap.size+1) (pt tb 0) (.func (.func gp) #[] cp) (.slice na near.length nc) k 0 (E k a) near) near.length ⟨0,_,_,c4,rfl,by omega,rfl,k94,R4,f4,k84,hs4⟩ ?_;rintro _ vs w5 g ⟨i,y,z,cs,rfl,hi,rfl,k95,R5,f5,k85,hs5⟩
  by_cases hlt:i<near.length
  ·have d1:=dTo ((i:Int)<((near.length:Nat):Int))
   have hn5:=(hn.rd.fr0 f5)
   obtain⟨nb,no,ncc,he,_⟩:=hn5.pos (by omega);cases he;have rn:=hn5.get (P:=prog) agg23 sz23 hlt;have nl:=hn.1.getD hlt;have y1:=iBd (i:=i) (n:=near.length);have hsn:near.take (i+1)=near.take i++[near.getD i []]:=by rw[tSg hlt,qQi _ hlt]
   generalize near.getD i []=N at rn nl hsn ⊢;have q6:=wr_d sz23 (qQc w5 (.cells (bl (zG 32 0)) 23)) zl32 nl;have k6:=qQf (o:=.cells (bl N) 23 (0,0)) (qQc w5 (.cells (bl (zG 32 0)) 23));have f56:No w5 (put (w5.alloc (.cells (bl (zG 32 0)) 23)) w5.heap.size (.cells (bl N) 23 (0,0))):=((Fr.refl _ _).alloc _).put (b:=w5.heap.size) _ fun h=>absurd h (jD _);simp -implicitDefEqProofs only[go_sem,jF,jB,y1,rn,jM,qQj,q6];generalize put (w5.alloc (.cells (bl (zG 32 0)) 23)) w5.heap.size (.cells (bl N) 23 (0,0))=w6 at *;have f6:=f5.trans f56;obtain⟨cs',he',hcs,hone⟩:=rep.agg R5;cases he';have r96:=qZj (t:=23) agg23 (by rw[hcs];exact sz23) (f56.at k95 id);have rN6:=rd_d agg23 sz23 k6 nl;have rt6:=qQo (P:=prog) (f6.at t0 id);have rk6:=(hk.fr0 (hu.trans f6)).get (P:=prog) agg34 sz34 (i:=0) (show 0<([k]:List Bs).length by simp);rw[jA,jO,zR]at rk6;have y0:(0:Int)≤0∧(0:Int)<((([k]:List Bs).length:Nat):Int):=by have:=(show 0<([k]:List Bs).length by simp);omega
   have hfi:0+i<256:=by omega
   have c1:IntKind.i64.wrap (((0:Nat):Int)+(i:Int))=((0+i:Nat):Int):=qXc;have hs6:w2.heap.size≤w6.drew.heap.size:=by have:=f56.size;simp only[World.drew];omega
   simp -implicitDefEqProofs only[go_sem,jF,gLa,gLz,gLs,r96,rN6,rt6,rk6,y0,qQk,c1];have hGi:=hG (i+1) (by omega);rw[hsn,Wit.passes_snoc,lTk,vK (by omega)]at hGi;have hPi:=hP w2 w6.drew (.agg cs) _ _ (0+i) N (hb.trans f6).drew hs6 (rep.fr R5 f56.drew fun _ _ h=>h) hkey hfi nl hGi;rw[z8]at hPi;refine qQa pp (hPi.mono ?_);rintro v7 w7 ⟨R7,f7⟩;obtain⟨cs7,rfl,hcs7,hone7⟩:=rep.agg R7;have k97:w7.heap[w0.heap.size+1]?=_:=f7.at (w:=w6.drew) (f56.at k95 id) (by omega);have q7:=qQw (P:=prog) (t:=23) (vs:=cs7) (by rw[hcs7];exact sz23) k97 (by rw[hcs,hcs7]) hone7;have c2:=iSu (i:=i);simp -implicitDefEqProofs only[go_sem,jF,q7,c2];have fp8:Fr (fun b=>b=w0.heap.size+1) w7 (put w7 (w0.heap.size+1) (.cells cs7 23 (0,0))):=(Fr.refl _ _).put (b:=w0.heap.size+1) _ fun _=>rfl;have fno:No w0 (put w7 (w0.heap.size+1) (.cells cs7 23 (0,0))):=(f6.drew.trans' f7 fun b hb h=>by omega).put (b:=w0.heap.size+1) _ fun h=>by omega
   refine⟨near.length - (i+1),by omega,i+1,_,_,cs7,rfl,by omega,rfl,qQf k97,?_,fno,qQr (f7.at (w:=w6.drew) (f56.at k85 id) (by omega)) (by omega),?_⟩
   ·rw[hsn,Wit.passes_snoc,lTk,vK (by omega)]
    rw[z8];exact rep.fr R7 fp8 fun c hc e=>by omega
   ·have:=f7.size;have:=fp8.size;omega
  ·have d1:=dFo ((i:Int)<((near.length:Nat):Int))
   have e:i=near.length:=by omega
   subst e;rw[vX]at R5;obtain⟨cs',he',hcs,hone⟩:=rep.agg R5;cases he';have r95:=qZj (t:=23) agg23 (by rw[hcs];exact sz23) k95;have q85:=qQw (P:=prog) (t:=23) (vs:=cs) (by rw[hcs];exact sz23) k85 (by rw[hcs];simp) hone;have k86:=qQf (o:=.cells cs 23 (0,0)) k85;have r86:=qZj (t:=23) agg23 (by rw[hcs];exact sz23) k86;simp -implicitDefEqProofs only[go_sem,jF,d1,r95,q85,r86];have fp8:Fr (fun b=>b=w0.heap.size) w5 (put w5 w0.heap.size (.cells cs 23 (0,0))):=(Fr.refl _ _).put (b:=w0.heap.size) _ fun _=>rfl;exact⟨rep.back (rep.fr R5 fp8 fun c hc e=>by omega) (by omega),f5.put (b:=w0.heap.size) _ fun h=>absurd h (jD _)⟩
 | fork ks f top near l r ihl ihr =>
  intro tb B w0 hT hok hu hb hG;obtain⟨kv,nv,fb,vv,lb,rb,Bn,Bl,Br,rfl,t0,hk,hn,_,hTl,hTr⟩:=hT;refine go105 (by simp) ?_;have f2:No w0 ((w0.alloc (.cells (bl (zG 32 0)) 23)).alloc (.cells (bl (zG 32 0)) 23)):=((Fr.refl _ _).alloc _).alloc _;have k82:((w0.alloc (.cells (bl (zG 32 0)) 23)).alloc (.cells (bl (zG 32 0)) 23)).heap[w0.heap.size]?=some (.cells (bl (zG 32 0)) 23 (0,0)):=qQq (qQc _ _)
  have k92:((w0.alloc (.cells (bl (zG 32 0)) 23)).alloc (.cells (bl (zG 32 0)) 23)).heap[w0.heap.size+1]?=some (.cells (bl (zG 32 0)) 23 (0,0)):=by
   have:=qQc (w0.alloc (.cells (bl (zG 32 0)) 23)) (.cells (bl (zG 32 0)) 23);rw[qQd]at this;exact this
  have hs2:((w0.alloc (.cells (bl (zG 32 0)) 23)).alloc (.cells (bl (zG 32 0)) 23)).heap.size=w0.heap.size+2:=by rw[qQd,qQd]
  simp -implicitDefEqProofs only[go_sem,jF,vJ,Tryz.f105,jM,qQj];generalize (w0.alloc (.cells (bl (zG 32 0)) 23)).alloc (.cells (bl (zG 32 0)) 23)=w2 at *;have t2:=f2.at t0 id;have r2:=qQo (P:=prog) t2;have hkey:(ks.headD []).length=32:=hok.key_len;have hpos:0<ks.length:=hok.keys_pos;obtain⟨kb,ko,kc,rfl,_⟩:=hk.pos hpos;have hf1:=hok.fr_le;have hf2:=hok.top_le;have hf3:=hok.near_len;simp only[Wit.Tw.fr,Wit.Tw.top,Wit.Tw.near]at hf1 hf2 hf3;obtain⟨okl,okr⟩:l.Ok∧r.Ok:=hok.2.2.2.2.2.2.2.2.2.2.2.2;have t2d:w2.drew.heap[tb]?=_:=t2;simp -implicitDefEqProofs only[go_sem,jF,gLa,gLz,gLs,r2,qQk];refine qXh (fun j=>j == 8 || j == 16 || j == 17) [0,1,2,3,4,9,10,11,12,5,6,7,8,13,14,15,16,17,18] rfl (by kernel_rfl) (by kernel_rfl) ?_;simp -implicitDefEqProofs only[go_sem,jF,jB,gLa,gLz,gLs,r2,qQk];have nod:No w0 w2.drew:=f2.drew;refine qQt pl105 ((ihl lb Bl w2.drew (hTl.fr0 nod) okl (hu.trans nod) (hb.trans nod) hG.1).mono ?_);rintro vl wl ⟨Rl,fl⟩;refine⟨fun _=>Fr.ext fl,?_⟩;simp -implicitDefEqProofs only[go_sem,jF,jB,gLa,gLz,gLs];have nol:No w0 wl:=nod.trans fl;refine qQt pl105 ((ihr rb Br wl (hTr.fr0 nol) okr (hu.trans nol) (hb.trans nol) hG.2.1).mono ?_);rintro vr wr ⟨Rr,fr⟩;refine⟨fun _=>Fr.ext fr,?_⟩;simp -implicitDefEqProofs only[go_sem,jF,gLa,gLz,gLs];have nor:No w0 wr:=nol.trans fr;have hsl:w2.heap.size≤wl.heap.size:=fl.size;have hsr:wl.heap.size≤wr.heap.size:=fr.size;refine qQt pf ((hF w2.drew wr vl _ vr _ (hb.trans nor) (show w2.heap.size≤wr.heap.size by omega) (rep.fr Rl fr fun _ _ h=>h) (rep.back Rr (show w2.heap.size≤wl.heap.size from hsl)) (hG.2.2 0 (jZ _))).mono ?_);rintro v3 w3 ⟨R3,f3⟩;refine⟨fun _=>Fr.ext f3,?_⟩;have f23:No w2.drew w3:=(fl.trans fr).trans f3;have k93:w3.heap[w0.heap.size+1]?=_:=f23.at (w:=w2.drew) k92 id
  have k83:w3.heap[w0.heap.size]?=_:=f23.at (w:=w2.drew) k82 id;have f03:No w0 w3:=nod.trans f23;have hs3:w2.heap.size≤w3.heap.size:=f23.size;have hnl:near.length≤256:=by omega
  obtain⟨c4,rfl,hc4,hone4⟩:=rep.agg R3;have q3:=qQw (P:=prog) (t:=23) (vs:=c4) (by rw[hc4];exact sz23) k93 (by rw[hc4];simp) hone4;have k94:=qQf (o:=.cells c4 23 (0,0)) k93;have k84:(put w3 (w0.heap.size+1) (.cells c4 23 (0,0))).heap[w0.heap.size]?=some (.cells (bl (zG 32 0)) 23 (0,0)):=qQr k83 (by omega);have fp4:Fr (fun b=>b=w0.heap.size+1) w3 (put w3 (w0.heap.size+1) (.cells c4 23 (0,0))):=(Fr.refl _ _).put (b:=w0.heap.size+1) _ fun _=>rfl;have f4:No w0 (put w3 (w0.heap.size+1) (.cells c4 23 (0,0))):=f03.put (b:=w0.heap.size+1) _ fun h=>by omega
  have R4:rep.R w2 (put w3 (w0.heap.size+1) (.cells c4 23 (0,0))) (.agg c4) (F (Wit.fold E F Pp l) (Wit.fold E F Pp r)):=rep.back (rep.fr R3 fp4 fun c hc e=>by have hc:wr.heap.size≤c:=hc;omega) (show w2.heap.size≤wr.heap.size by omega);have hs4:w2.heap.size≤(put w3 (w0.heap.size+1) (.cells c4 23 (0,0))).heap.size:=by have:=fp4.size;omega
  have t4:=f4.at t0 id;simp -implicitDefEqProofs only[go_sem,jF,jB,gLa,gLz,gLs,q3];generalize put w3 (w0.heap.size+1) (.cells c4 23 (0,0))=w4 at *;obtain⟨na,nc,rfl,hnc⟩:=hn.rd.slice;have r4:=qQo (P:=prog) t4;simp -implicitDefEqProofs only[go_sem,gLa,gLz,gLs,r4,qQk];refine loopD [0,3,8,9,10,11,50,51,52] (fpID rep Pp w2 w0 w0.heap.size (w0.heap.size+1) (pt tb 0) (.func (.func gp) #[] cp) (.slice na near.length nc) (ks.headD []) f (F (Wit.fold E F Pp l) (Wit.fold E F Pp r)) near) near.length ⟨0,_,_,c4,rfl,by omega,rfl,k94,R4,f4,k84,hs4⟩ ?_;rintro _ vs w5 g ⟨i,y,z,cs,rfl,hi,rfl,k95,R5,f5,k85,hs5⟩
  by_cases hlt:i<near.length
  ·have d1:=dTo ((i:Int)<((near.length:Nat):Int))
   have hn5:=(hn.rd.fr0 f5)
   obtain⟨nb,no,ncc,he,_⟩:=hn5.pos (by omega);cases he;have rn:=hn5.get (P:=prog) agg23 sz23 hlt;have nl:=hn.1.getD hlt;have y1:=iBd (i:=i) (n:=near.length);have hsn:near.take (i+1)=near.take i++[near.getD i []]:=by rw[tSg hlt,qQi _ hlt]
   generalize near.getD i []=N at rn nl hsn ⊢;have q6:=wr_d sz23 (qQc w5 (.cells (bl (zG 32 0)) 23)) zl32 nl;have k6:=qQf (o:=.cells (bl N) 23 (0,0)) (qQc w5 (.cells (bl (zG 32 0)) 23));have f56:No w5 (put (w5.alloc (.cells (bl (zG 32 0)) 23)) w5.heap.size (.cells (bl N) 23 (0,0))):=((Fr.refl _ _).alloc _).put (b:=w5.heap.size) _ fun h=>absurd h (jD _);simp -implicitDefEqProofs only[go_sem,jF,jB,y1,rn,jM,qQj,q6];generalize put (w5.alloc (.cells (bl (zG 32 0)) 23)) w5.heap.size (.cells (bl N) 23 (0,0))=w6 at *;have f6:=f5.trans f56;obtain⟨cs',he',hcs,hone⟩:=rep.agg R5;cases he';have r96:=qZj (t:=23) agg23 (by rw[hcs];exact sz23) (f56.at k95 id);have rN6:=rd_d agg23 sz23 k6 nl;have rt6:=qQo (P:=prog) (f6.at t0 id);have rk6:=(hk.fr0 (hu.trans f6)).get (P:=prog) agg34 sz34 (i:=0) hpos;rw[jA,jO,← qKg]at rk6;have y0:(0:Int)≤0∧(0:Int)<((ks.length:Nat):Int):=by have:=hpos;omega
   have hfi:f+i<256:=by omega
   have c1:IntKind.i64.wrap (((f:Nat):Int)+(i:Int))=((f+i:Nat):Int):=qXc;have hs6:w2.heap.size≤w6.drew.heap.size:=by have:=f56.size;simp only[World.drew];omega
   simp -implicitDefEqProofs only[go_sem,jF,gLa,gLz,gLs,r96,rN6,rt6,rk6,y0,qQk,c1];have hGi:=hG.2.2 (i+1) (by omega);rw[hsn,Wit.passes_snoc,lTk,vK (by omega)]at hGi;have hPi:=hP w2 w6.drew (.agg cs) _ _ (f+i) N (hb.trans f6).drew hs6 (rep.fr R5 f56.drew fun _ _ h=>h) hkey hfi nl hGi;refine qQa pp (hPi.mono ?_);rintro v7 w7 ⟨R7,f7⟩;obtain⟨cs7,rfl,hcs7,hone7⟩:=rep.agg R7;have k97:w7.heap[w0.heap.size+1]?=_:=f7.at (w:=w6.drew) (f56.at k95 id) (by omega);have q7:=qQw (P:=prog) (t:=23) (vs:=cs7) (by rw[hcs7];exact sz23) k97 (by rw[hcs,hcs7]) hone7;have c2:=iSu (i:=i);simp -implicitDefEqProofs only[go_sem,jF,q7,c2];have fp8:Fr (fun b=>b=w0.heap.size+1) w7 (put w7 (w0.heap.size+1) (.cells cs7 23 (0,0))):=(Fr.refl _ _).put (b:=w0.heap.size+1) _ fun _=>rfl;have fno:No w0 (put w7 (w0.heap.size+1) (.cells cs7 23 (0,0))):=(f6.drew.trans' f7 fun b hb h=>by omega).put (b:=w0.heap.size+1) _ fun h=>by omega
   refine⟨near.length - (i+1),by omega,i+1,_,_,cs7,rfl,by omega,rfl,qQf k97,?_,fno,qQr (f7.at (w:=w6.drew) (f56.at k85 id) (by omega)) (by omega),?_⟩
   ·rw[hsn,Wit.passes_snoc,lTk,vK (by omega)]
    exact rep.fr R7 fp8 fun c hc e=>by omega
   ·have:=f7.size;have:=fp8.size;omega
  ·have d1:=dFo ((i:Int)<((near.length:Nat):Int))
   have e:i=near.length:=by omega
   subst e;rw[vX]at R5;obtain⟨cs',he',hcs,hone⟩:=rep.agg R5;cases he';have r95:=qZj (t:=23) agg23 (by rw[hcs];exact sz23) k95;have q85:=qQw (P:=prog) (t:=23) (vs:=cs) (by rw[hcs];exact sz23) k85 (by rw[hcs];simp) hone;have k86:=qQf (o:=.cells cs 23 (0,0)) k85;have r86:=qZj (t:=23) agg23 (by rw[hcs];exact sz23) k86;simp -implicitDefEqProofs only[go_sem,jF,d1,r95,q85,r86];have fp8:Fr (fun b=>b=w0.heap.size) w5 (put w5 w0.heap.size (.cells cs 23 (0,0))):=(Fr.refl _ _).put (b:=w0.heap.size) _ fun _=>rfl;exact⟨rep.back (rep.fr R5 fp8 fun c hc e=>by omega) (by omega),f5.put (b:=w0.heap.size) _ fun h=>absurd h (jD _)⟩
end
end
theorem passes_climb (wd:Int)(k:Bs):∀ (near:List Bs) (h:Nat) (x:Bs),Wit.passes (fun x k h n=>up wd k h x n) k h x near=climb wd k h x near
 | [],_,_=>rfl
 | n::r,h,x=>by simp only[Wit.passes,climb];exact passes_climb wd k r _ _
theorem fold_dig (wd:Int)(says:vW):∀ t,Wit.fold (fun k a=>vV wd k (says k a)) (qQv wd) (fun x k h n=>up wd k h x n) t=Wit.dig wd says t
 | .leaf k top near a=>passes_climb wd k near 0 _
 | .fork ks f top near l r=>by
  simp only[Wit.fold];rw[passes_climb,fold_dig wd says l,fold_dig wd says r];rfl
theorem allT {α:Type}(E:Bs→Option Bs→α)(F:α→α→α)(P:α→Bs→Nat→Bs→α):∀ t,Wit.AllG (fun _=>True) E F P t
 | .leaf _ _ _ _=>fun _ _=>trivial
 | .fork _ _ _ _ l r=>⟨allT E F P l,allT E F P r,fun _ _=>trivial⟩
def repD:Rep Bs 32 where
 R:=fun _ _ v d=>v=dg d∧d.length=32
 back:=fun h _=>h
 fr:=fun h _ _=>h
 agg:=fun h=>⟨_,h.1,by rw[dg_size,h.2],u8s_all _⟩
def SaysF (wb:World)(gs:FuncId)(bs cs:Array Value)(says:vW):Prop:=qQe prog gs=true∧∀ w0 w k x a,No wb w0→No w0 w→k.length=32→AnsR w0 x a→(∀ v,a=some v→v.length≤128) →
 Fn prog gs (bs++#[dg k,x]++cs) w fun v w'=>AnsR w0 v (says k a)∧No w w'∧∀ v,says k a=some v→v.length≤128
theorem SaysF.no {wb wb':World}{says:vW}(h:SaysF wb gs bs cs says)(k:No wb wb'):SaysF wb' gs bs cs says:=⟨h.1,fun w0 w a b c hw=>h.2 w0 w a b c (k.trans hw)⟩
theorem hash1 (wb w:World)(ht:Tabs w){says:vW}(hs:SaysF wb gs bs cs says)(hb:No wb w)(wd:Int){b5 b3:Nat}(k5:w.heap[b5]?=some (.cells #[.func (.func gs) bs cs] 115 (0, 0)))
  (k3:w.heap[b3]?=some (.cells #[.int .i64 wd] 3 (0,0))) {x:Value} {a:Option Bs} (hk:k.length=32) (hx:AnsR w x a) (hal:∀ v,a=some v→v.length≤128) :
  Fn prog 106 #[dg k,x,pt b5 0,pt b3 0] w fun v w'=>(v=dg (vV wd k (says k a))∧(vV wd k (says k a)).length=32)∧No w w':=by
 refine go106 (by simp) ?_;obtain⟨vv,rfl,hv1,hvb⟩:=id hx;obtain⟨W,hW,f1,k1,k2,k6,s1⟩:=qZw w (bl k) 34 #[.bool a.isSome,vv] 69 (bl (zG 32 0)) 23;have r5:=qJc (P:=prog) (v:=.func (.func gs) bs cs) agg115 (f1.at k5 id) (o:=0) rfl;have r1:=rd_d agg34 sz34 k1 hk;have r2:=qZk (P:=prog) (t:=69) agg69 sz69 k2;simp -implicitDefEqProofs only[go_sem,jF,vJ,Tryz.f106,jM,qQj,hW,r5,r1,r2];refine qQa hs.1 ((hs.2 w W k _ a hb f1 hk hx hal).mono ?_);rintro _ w3 ⟨⟨v3,rfl,h31,hb3⟩,f3,hl3⟩;have f13:=f1.trans f3;have k23:=f3.at k2 id;have q3:=qQw (P:=prog) (t:=69) (vs:=#[.bool (says k a).isSome,v3]) sz69 k23 rfl (by rw[← y8];simp only[vZ,List.all_nil,h31];rfl);have k24:=qQf (o:=.cells #[.bool (says k a).isSome,v3] 69 (0,0)) k23;have fp:=(Fr.refl (fun b=>b=w.heap.size+1) w3).put (b:=w.heap.size+1) (.cells #[.bool (says k a).isSome,v3] 69 (0,0)) fun _=>rfl;have f4:No w (put w3 (w.heap.size+1) (.cells #[.bool (says k a).isSome,v3] 69 (0,0))):=f13.put (b:=w.heap.size+1) _ fun h=>by omega
 have k14:=fp.at (f3.at k1 id) (by omega);have k64:=fp.at (f3.at k6 id) (by omega);have r4:=qJc (P:=prog) (v:=.bool (says k a).isSome) agg4 k24 (o:=0) rfl;have r42:=qJc (P:=prog) (v:=v3) agg25 k24 (o:=1) rfl;have r43:=qJc (P:=prog) (v:=.int .i64 wd) agg3 (f4.at k3 id) (o:=0) rfl;have r14:=rd_d agg34 sz34 k14 hk;simp -implicitDefEqProofs only[go_sem,jF,q3];have hb4:=hb3.fr0 f4;have r43d:=r43;generalize put w3 (w.heap.size+1) (.cells #[.bool (says k a).isSome,v3] 69 (0,0))=w4 at *
 cases hsa:says k a with
 | none =>
  rw[hsa]at r4;simp -implicitDefEqProofs only[go_sem,jF,r4,r43,Option.isSome];refine qQa pl108 ((empty0 w4 (ht.no f4) wd).mono ?_);rintro _ w5 ⟨rfl,f5⟩;have q5:=wr_d sz23 (f5.at k64 id) zl32 (qQp wd 0);have r5:=rd_d agg23 sz23 (qQf (o:=.cells (bl (emptD wd 0)) 23 (0,0)) (f5.at k64 id)) (qQp wd 0);simp -implicitDefEqProofs only[go_sem,jF,q5,r5];exact⟨⟨rfl,qQp wd 0⟩,(f4.trans f5).put (b:=w.heap.size+1+1) _ fun h=>by omega⟩
 | some val =>
  rw[hsa]at r4 hb4;simp -implicitDefEqProofs only[go_sem,jF,r4,r43,r14,r42,Option.isSome];refine qQa pl107 ((leaf w4 (ht.no f4) wd hk hb4 (by have:=hl3 val hsa;simp only[Option.getD_some];omega)).mono ?_);rintro _ w5 ⟨rfl,f5⟩;have hll:(leafD wd k ((some val).getD [])).length=32:=qZb _ _ _;have hle:vV wd k (some val)=leafD wd k ((some val).getD []):=rfl;rw[hle];generalize leafD wd k ((some val).getD [])=D at *;have q5:=wr_d sz23 (f5.at k64 id) zl32 hll;have r5:=rd_d agg23 sz23 (qQf (o:=.cells (bl D) 23 (0,0)) (f5.at k64 id)) hll;simp -implicitDefEqProofs only[go_sem,jF,q5,r5];exact⟨hll,(f4.trans f5).put (b:=w.heap.size+1+1) _ fun h=>by omega⟩
theorem hash2 (w:World)(ht:Tabs w)(wd:Int)(k3:w.heap[b3]?=some (.cells #[.int .i64 wd] 3 (0, 0))){x y:Bs}(hx:x.length=32)(hy:y.length=32) :
  Fn prog 109 #[dg x,dg y,pt b3 0] w fun v w'=>(v=dg (qQv wd x y)∧(qQv wd x y).length=32)∧No w w':=by
 refine go109 (by simp) ?_;obtain⟨W,hW,f1,k1,k2,k6,s1⟩:=qZw w (bl x) 23 (bl y) 23 (bl (zG 32 0)) 23;have r3:=qJc (P:=prog) (v:=.int .i64 wd) agg3 (f1.at k3 id) (o:=0) rfl;have r1:=rd_d agg23 sz23 k1 hx;have r2:=rd_d agg23 sz23 k2 hy;simp -implicitDefEqProofs only[go_sem,jF,vJ,Tryz.f109,jM,qQj,hW,r1,r2,r3];refine qQa pl110 ((branch _ (ht.no f1) wd hx hy).mono ?_);rintro _ w5 ⟨rfl,f5⟩;have hll:=qQz wd x y;generalize qQv wd x y=D at *;have k65:w5.heap[w.heap.size+1+1]?=_:=f5.at k6 id;have q5:=wr_d sz23 k65 zl32 hll;have r5:=rd_d agg23 sz23 (qQf (o:=.cells (bl D) 23 (0,0)) k65) hll;simp -implicitDefEqProofs only[go_sem,jF,q5,r5];exact⟨hll,(f1.trans f5).put (b:=w.heap.size+1+1) _ fun h=>by omega⟩
theorem hash3 (w:World)(ht:Tabs w)(wd:Int)(k3:w.heap[b3]?=some (.cells #[.int .i64 wd] 3 (0, 0))){x k n:Bs}(hx:x.length=32)(hk:k.length=32)(hn:n.length=32){h:Nat}(hh:h<256) :
  Fn prog 111 #[dg x,dg k,.int .i64 (h:Nat),dg n,pt b3 0] w fun v w'=>(v=dg (up wd k h x n)∧(up wd k h x n).length=32)∧No w w':=by
 refine go111 (by simp) ?_;obtain⟨W,hW,f1,k1,k2,k4,k6,s1⟩:=allocs4 w (bl x) 23 (bl k) 34 (bl n) 23 (bl (zG 32 0)) 23;have r2:=rd_d agg34 sz34 k2 hk;have c1:IntKind.i64.wrap (255 - (h:Int))=((255 - h:Nat):Int):=qXl (a:=255) (by omega) (by omega);simp -implicitDefEqProofs only[go_sem,jF,vJ,Tryz.f111,jM,qQj,hW,r2,c1];refine qQa pl92 ((bbit W hk (show 255 - h<256 by omega)).mono ?_);rintro _ w4 ⟨rfl,f4⟩;have f14:=f1.trans f4;have r3:=qJc (P:=prog) (v:=.int .i64 wd) agg3 (f14.at k3 id) (o:=0) rfl;have r1:=rd_d agg23 sz23 (f4.at k1 id) hx;have rn:=rd_d agg23 sz23 (f4.at k4 id) hn;unfold up kb
 cases hb:kbit k (255 - h) with
 | true =>
  have d0:((1:Int) == 0)=false:=rfl;simp -implicitDefEqProofs only[go_sem,jF,d0,r3,r1,rn];refine qQa pl110 ((branch _ (ht.no f14) wd hn hx).mono ?_);rintro _ w5 ⟨rfl,f5⟩;have hll:=qQz wd n x;generalize qQv wd n x=D at *;have k65:w5.heap[w.heap.size+1+1+1]?=_:=f5.at (f4.at k6 id) id;have q5:=wr_d sz23 k65 zl32 hll;have r5:=rd_d agg23 sz23 (qQf (o:=.cells (bl D) 23 (0,0)) k65) hll;simp -implicitDefEqProofs only[go_sem,jF,q5,r5];exact⟨hll,(f14.trans f5).put (b:=w.heap.size+1+1+1) _ fun h=>by omega⟩
 | false =>
  have d0:((0:Int) == 0)=true:=rfl;simp -implicitDefEqProofs only[go_sem,jF,d0,r3,r1,rn];refine qQa pl110 ((branch _ (ht.no f14) wd hx hn).mono ?_);rintro _ w5 ⟨rfl,f5⟩;have hll:=qQz wd x n;generalize qQv wd x n=D at *;have k65:w5.heap[w.heap.size+1+1+1]?=_:=f5.at (f4.at k6 id) id;have q5:=wr_d sz23 k65 zl32 hll;have r5:=rd_d agg23 sz23 (qQf (o:=.cells (bl D) 23 (0,0)) k65) hll;simp -implicitDefEqProofs only[go_sem,jF,q5,r5];exact⟨hll,(f14.trans f5).put (b:=w.heap.size+1+1+1) _ fun h=>by omega⟩
theorem hashed (u w0:World)(ht:Tabs w0)(wd:Int){says:vW}(hs:SaysF w0 gs bs cs says){t:Wit.Tw}{tb:Nat}{B:List Nat}(hT:TwM u w0 tb t B)(hok:t.Ok)(hu:No u w0) :
  Fn prog 60 #[.int .i64 wd,pt tb 0,.func (.func gs) bs cs] w0 fun v w'=>v=dg (Wit.dig wd says t)∧No w0 w':=by
 refine go60 (by simp) ?_;obtain⟨W,hW,f1,k1,k2,k6,s1⟩:=qZw w0 #[.int .i64 wd] 3 #[.func (.func gs) bs cs] 115 (bl (zG 32 0)) 23;simp -implicitDefEqProofs only[go_sem,jF,vJ,Tryz.f60,jM,qQj,hW]
 refine qQa pl105 ((foldD repD (fun _=>True) (fun k a=>vV wd k (says k a)) (qQv wd) (fun x k h n=>up wd k h x n) 106 109 111 #[pt (w0.heap.size+1) 0,pt w0.heap.size 0] #[pt w0.heap.size 0] #[pt w0.heap.size 0] u W pl106 pl109 pl111
  (fun w k x a hw hk hx hal _=>by rw[args22];exact hash1 W w (ht.no (f1.trans hw)) (hs.no f1) hw wd (hw.at k2 id) (hw.at k1 id) hk hx hal)
  (fun b w v1 x1 v2 x2 hw _ h1 h2 _=>by rw[h1.1,h2.1,args21];exact hash2 w (ht.no (f1.trans hw)) wd (hw.at k1 id) h1.2 h2.2)
  (fun b w v x k h n hw _ hx hk hh hn _=>by
   rw[hx.1,args41]
   exact (hash3 w (ht.no (f1.trans hw)) wd (hw.at k1 id) hx.2 hk hn hh).mono fun _ _ h=>⟨h.1,h.2.mono fun _ _ h=>h.elim⟩)
  t tb B W (hT.fr0 f1) hok (hu.trans f1) (Fr.refl _ _) (allT _ _ _ t)).mono ?_)
 rintro _ w5 ⟨⟨rfl,hll⟩,f5⟩;rw[fold_dig]at *;generalize Wit.dig wd says t=D at *;have k65:=f5.at k6 id;have q5:=wr_d sz23 k65 zl32 hll;have r5:=rd_d agg23 sz23 (qQf (o:=.cells (bl D) 23 (0,0)) k65) hll;simp -implicitDefEqProofs only[go_sem,jF,q5,r5];exact (f1.trans f5).put (b:=w0.heap.size+1+1) _ fun h=>by omega
theorem asIsF (wb:World):SaysF wb 68 #[] #[] Wit.asIs:=by
 refine⟨pl68,fun w0 w k x a _ hw hk hx hal=>?_⟩;rw[args20];refine go68 (by simp) ?_;obtain⟨vv,rfl,hv1,hvb⟩:=id hx;obtain⟨W,hW,f1,k1,k2,k6,s1⟩:=qZw w (bl k) 34 #[.bool a.isSome,vv] 69 #[.bool false,.slice none 0 0] 69;have r2:=qZk (P:=prog) (t:=69) agg69 sz69 k2;have q:=qQw (P:=prog) (t:=69) (vs:=#[.bool a.isSome,vv]) sz69 k6 rfl (by rw[← y8];simp only[vZ,List.all_nil,hv1];rfl);have k3:=qQf (o:=.cells #[.bool a.isSome,vv] 69 (0,0)) k6;have r3:=qZk (P:=prog) (t:=69) agg69 sz69 k3;simp -implicitDefEqProofs only[go_sem,jF,Tryz.f68,jM,hW,r2,q,r3];have f3:No w (put W (w.heap.size+1+1) (.cells #[.bool a.isSome,vv] 69 (0,0))):=f1.put (b:=w.heap.size+1+1) _ fun h=>by omega
 exact⟨⟨vv,rfl,hv1,hvb⟩,f3,hal⟩
theorem run_app_zeros {P:Program}{ts:Array TypeId}{t t' e sz:Nat}{k:IntKind}(h0:ts[0]?=some t)(h1:ts[1]?=some t')(hs:slcO P t=some e)(hd:P.underlying t'=some (.int k))
  (hsz:szO P e=some sz) (hsz0:0<sz) {by':Nat} (hby:byO P e=some by') (hib:by'≠0) {z:Value} (hz:zeroO P e=some z) {n:Nat} (hn:0<n) (hn2:n≤2 ^ 40) (hb:n*by'≤2 ^ 48) :
  ∃ nc,n≤nc∧(qN ts 0 #[.slice none 0 0,.int .i64 (n:Int)]).run P w=.ok (.slice (some ⟨w.heap.size,0,none⟩) n nc) (w.drew.alloc (.cells (#[]++xH z.cells n++xH z.cells (nc - n)) e)):=by
 have hinfo:∃ i,P.info? e=some i∧i.bytes=by':=by
  unfold byO at hby
  cases hi:P.info? e with
  | none=>simp[hi]at hby
  | some i=>exact⟨i,rfl,by simpa [hi] using hby⟩
 obtain⟨i,hi,rfl⟩:=hinfo;have hsl:=r_und (qXf hs) w;have hd:=r_und hd w;have hti:∀ u:World,(typeInfo e).run P u=.ok i u:=fun u=>by simp[typeInfo,hi]
 have a0:(#[Value.slice none 0 0,.int .i64 (n:Int)]:Array Value)[0]?=some (.slice none 0 0):=rfl;have a1:(#[Value.slice none 0 0,.int .i64 (n:Int)]:Array Value)[1]?=some (.int .i64 (n:Int)):=rfl;have hmax:IntKind.i64.max=9223372036854775807:=by decide
 have hw:IntKind.i64.wrap (n:Int)=(n:Int):=i64n;have c0:¬ ((n:Int)<0):=by omega
 have c01:¬ ((n:Int)*(i.bytes:Int) > 2 ^ 48):=by
  have:(n:Int)*(i.bytes:Int)=((n*i.bytes:Nat):Int):=by rw[Int.natCast_mul]
  rw[this];omega
 have c1:¬ (((n:Nat):Int) > IntKind.i64.max∧(True∨i.bytes=0)):=fun h=>by rw[hmax]at h;omega
 have hnx:xG n 0=n:=by
  unfold xG;rw[Nat.mul_zero,if_pos (by omega)]
 have c2:¬ (xG n 0*i.bytes > 2 ^ 48):=by rw[hnx];omega
 have c3:¬ (n*sz=0):=by
  have:=Nat.mul_pos hn hsz0;omega
 have c4:¬ (n≤0):=by omega
 refine⟨(Question.appendCap n 0 e).cut (w.tape w.drawn (.appendCap n 0 e)),by simp only[Question.cut];omega,?_⟩;have hf:(Question.appendCap n 0 e).forced=false:=rfl;have hfc:∀ u:World,(Builtin.firstCells sz 0 (.slice none 0 0)).run P u=.ok #[] u:=fun u=>rfl;simp only[qN,h0,h1,a0,a1,Sem.run_bind,hsl,hd,Result.andThen_ok,qXp hsz,Sem.run_pure,if_true,asInt,asIntOf,hw,c0,if_false,hti,c01,iTn,z8,c4,c1,c2,run_choose,hf,World.drew_eq,run_askRoom,hfc,Bool.not_true,Bool.false_eq_true,c3,r_zero hz,newRow]
 rfl
theorem grow0 (w0:World)(n:Nat)(hn:n≤2 ^ 40):Fn prog 206 #[.slice none 0 0,.int .i64 (n:Nat)] w0 fun v w'=>NwB w0 w' v []∧No w0 w':=by
 refine go206 (by simp) ?_;have d0:decide ((n:Int)<0)=false:=by simp
 have e0:IntKind.i64.wrap (((0:Nat):Int) - ((0:Nat):Int))=((0:Nat):Int):=by decide
 have e1:IntKind.i64.wrap ((n:Int) - ((0:Nat):Int))=(n:Int):=qXl (b:=0) (by omega) (by omega);have s0:qXe prog 25 (.slice none 0 0) none (some (.int .i64 ((0:Nat):Int))) none=some (.slice none 0 0):=rfl
 by_cases h0:n=0
 ·have d1:=dFo ((n:Int) > 0)
  simp -implicitDefEqProofs only[go_sem,jF,gLa,gLz,Tryz.f206,d0,e0,e1,d1];exact⟨NwB.nil _ _,Fr.refl _ _⟩
 ·have d1:=dTo ((n:Int) > 0)
  obtain⟨nc,hnc,hr⟩:=run_app_zeros (P:=prog) (ts:=#[25,3]) (t:=25) (t':=3) (e:=5) (sz:=1) (k:=.i64) (by':=1) rfl rfl slc25 (qJe int3) sz5 (by decide) (by kernel_rfl) (by decide) zero5 (w:=w0) (n:=n) (by omega) hn (by omega);simp -implicitDefEqProofs only[go_sem,jF,gLa,gLz,Tryz.f206,d0,e0,e1,d1,s0];refine qQg ⟨_,_,hr,?_⟩;have s1:=slc_hi (P:=prog) slc25 arr25 sz5 (a:=some ⟨w0.heap.size,0,none⟩) (n:=n) (cap:=nc) (jZ _) hnc;simp -implicitDefEqProofs only[go_sem,jF,gLa,gLz,s1]
  have ec:cutV 1 (some ⟨w0.heap.size,0,none⟩) nc 0 0=.slice (some ⟨w0.drew.heap.size,0,none⟩) 0 nc:=by
   unfold cutV;rw[if_neg (by omega)];rfl
  rw[ec];refine⟨?_,(Fr.refl _ _).drew.alloc _⟩;have:=mk_nw w0 w0.drew 5 1 0 nc (#[]++xH (Value.int .u8 0).cells n++xH (Value.int .u8 0).cells (nc - n)) (Nat.le_refl _) (by simp[xH,jM];omega) (jZ _);rw[jA,List.take_zero]at this;simp only[Array.empty_append,jM]at this;exact this
def ccI (w0:World)(xs:Value)(bs:List Bs)(n:Nat)(vs:List Value)(w:World):Prop :=
 ∃ (i:Nat) (y:Value),vs=[xs,.int .i64 (((bs.take i).map vQ).sum:Nat),y,xs,.int .i64 (bs.length:Nat),.int .i64 (i:Nat)]∧i≤bs.length∧n=bs.length - i∧No w0 w
def ccJ (w0:World)(xs:Value)(bs:List Bs)(n:Nat)(vs:List Value)(w:World):Prop :=
 ∃ (i:Nat) (v y:Value),vs=[v,y,xs,.int .i64 (bs.length:Nat),.int .i64 (i:Nat)]∧i≤bs.length∧n=bs.length - i∧NwB w0 w v (bs.take i).flatten∧No w0 w
theorem sum_take_le (bs:List Bs):∀ i,((bs.take i).map vQ).sum≤(bs.map vQ).sum:=by
 induction bs with
 | nil=>intro i;simp
 | cons a l ih =>
  intro i
  cases i with
  | zero=>simp
  | succ i=>simp only[List.take_succ_cons,List.map_cons,List.sum_cons];have:=ih i;omega
theorem take_sum_succ {bs:List Bs}(h:i<bs.length):((bs.take (i+1)).map vQ).sum=((bs.take i).map vQ).sum+bs[i].length:=by
 rw[tSg h,List.map_append,List.sum_append];simp only[List.map_cons,List.map_nil,List.sum_cons,List.sum_nil,jO]
theorem take_flat_succ {bs:List Bs}(h:i<bs.length):(bs.take (i+1)).flatten=(bs.take i).flatten++bs[i]:=by
 rw[tSg h,List.flatten_append];simp only[List.flatten_cons,List.flatten_nil,List.append_nil]
theorem take_len_sum (bs:List Bs)(i:Nat):(bs.take i).flatten.length=((bs.take i).map vQ).sum:=by rw[List.length_flatten]
theorem concat (w0:World){xs:Value}{xl:List Value}{bs:List Bs}(hl:xl.length=bs.length)(hx:Rd w0 1 xs xl.length xl)(hb:∀ i (h:i<bs.length), By w0 (xl.getD i undef) bs[i])(hn:bs.length≤8)(hs:(bs.map vQ).sum≤2 ^ 40) :
  Fn prog 176 #[xs] w0 fun v w'=>NwB w0 w' v bs.flatten∧No w0 w':=by
 refine go176 (by simp) ?_;obtain⟨_,xa,xc,rfl,hxc,hxat⟩:=id hx;rw[hl]at hxc hxat ⊢
 have get:∀ w (f:No w0 w) i (h:i<bs.length),∃ b o,xa=some ⟨b,o,none⟩∧rdO prog 25 w b (o+i)=some (xl.getD i undef):=fun w f i h=>by
  obtain⟨b,o,rfl,hat⟩:=hxat (by omega);refine⟨b,o,rfl,?_⟩;have:=hat i (by omega);rw[List.getElem?_eq_getElem (by omega),← qQi undef]at this;exact rd_rc agg25 (by rw[f.rc (rc_lt this) id];exact this)
 simp -implicitDefEqProofs only[go_sem,jF,gLa,gLz,Tryz.f176];refine loopD [0,3,5,9,10,11] (ccI w0 (.slice xa bs.length xc) bs) bs.length ⟨0,_,rfl,by omega,rfl,Fr.refl _ _⟩ ?_;rintro _ vs w1 g ⟨i,y,rfl,hi,rfl,f1⟩
 by_cases hlt:i<bs.length
 ·have d1:=dTo ((i:Int)<((bs.length:Nat):Int))
  obtain⟨b,o,rfl,r1⟩:=get w1 f1 i hlt;have hbi:=hb i hlt;obtain⟨ba,bc,hbe,_⟩:=hbi.slice;rw[hbe]at r1;have y1:=iBd (i:=i) (n:=bs.length);have hsum:((bs.take (i+1)).map vQ).sum=((bs.take i).map vQ).sum+bs[i].length:=take_sum_succ hlt;have hle:=sum_take_le bs (i+1);have c1:IntKind.i64.wrap (((((bs.take i).map vQ).sum:Nat):Int)+((bs[i].length:Nat):Int))=((((bs.take (i+1)).map vQ).sum:Nat):Int):=by rw[hsum];exact qXc
  have c2:=iSu (i:=i);have d2:decide (((((bs.take (i+1)).map vQ).sum:Nat):Int)<0)=false:=by simp
  simp -implicitDefEqProofs only[go_sem,jF,gLa,gLz,y1,r1,c1,d2,c2];exact⟨bs.length - (i+1),by omega,i+1,_,rfl,by omega,rfl,f1⟩
 ·have d1:=dFo ((i:Int)<((bs.length:Nat):Int))
  have e:i=bs.length:=by omega
  subst e;rw[vX];simp -implicitDefEqProofs only[go_sem,jF,d1];refine qQa pl206 ((grow0 w1 _ hs).mono ?_);rintro v2 w2 ⟨b2,f2⟩;simp -implicitDefEqProofs only[go_sem,jF,gLa,gLz];refine loopD [6,8,25,26,27] (ccJ w0 (.slice xa bs.length xc) bs) bs.length ⟨0,v2,_,rfl,by omega,rfl,b2.back f1.size,f1.trans f2⟩ ?_;rintro _ vs w3 g3 ⟨i,v3,y3,rfl,hi,rfl,b3,f3⟩
  by_cases hlt:i<bs.length
  ·have d1:=dTo ((i:Int)<((bs.length:Nat):Int))
   obtain⟨b,o,rfl,r1⟩:=get w3 f3 i hlt;have hbi:=hb i hlt;have y1:=iBd (i:=i) (n:=bs.length);have hsum:((bs.take (i+1)).map vQ).sum=((bs.take i).map vQ).sum+bs[i].length:=take_sum_succ hlt;have hle:=sum_take_le bs (i+1);have hlen:=take_len_sum bs i;have c2:=iSu (i:=i);obtain⟨v4,w4,hr4,b4,f4,_⟩:=NwB.cat app25_25 b3 (hbi.fr0 f3) (qJy (by omega)) (by omega) f3;have hfl:=take_flat_succ hlt;rw[← hfl]at b4;simp -implicitDefEqProofs only[go_sem,jF,y1,r1];refine qQg ⟨v4,w4,hr4,?_⟩;simp -implicitDefEqProofs only[go_sem,jF,c2];exact⟨bs.length - (i+1),by omega,i+1,v4,_,rfl,by omega,rfl,b4,f4⟩
  ·have d1:=dFo ((i:Int)<((bs.length:Nat):Int))
   have e:i=bs.length:=by omega
   subst e;rw[vX]at b3;simp -implicitDefEqProofs only[go_sem,jF,d1];exact⟨b3,f3⟩
structure Scr where
 head:Bs
 bits:Bs
 sums:Bs
 tail:Bs
def Scr.text (s:Scr):Bs:=s.head++(s.bits++(s.sums++s.tail))
def scrE (_:Bs)(a:Option Bs):Scr:=⟨Wit.ansT a,zG 32 0,[],[]⟩
def scrF (l r:Scr):Scr:=⟨[2],zG 32 0,[],l.text++r.text⟩
def scrP (wd:Int)(s:Scr)(_:Bs)(h:Nat)(n:Bs):Scr:=if n=emptD wd h then s else ⟨s.head,s.bits.set (h / 8) (s.bits.getD (h / 8) 0 ||| BitVec.ofNat 8 (2 ^ (h % 8))),s.sums++n,s.tail⟩
theorem passes_lay (wd:Int)(k:Bs):∀ (near:List Bs) (h:Nat) (s:Scr),Wit.passes (scrP wd) k h s near=⟨s.head,(Wit.layN wd h s.bits s.sums near).1,(Wit.layN wd h s.bits s.sums near).2,s.tail⟩
 | [],_,_=>rfl
 | n::r,h,s=>by
  simp only[Wit.passes,Wit.layN];rw[passes_lay wd k r];unfold scrP
  split <;> rfl
theorem fold_txt (wd:Int):∀ t,(Wit.fold scrE scrF (scrP wd) t).text=Wit.txt wd t
 | .leaf k top near a=>by
  simp only[Wit.fold];rw[passes_lay];simp[Scr.text,scrE,Wit.txt,Wit.nearT]
 | .fork ks f top near l r=>by
  simp only[Wit.fold];rw[passes_lay];have hl:=fold_txt wd l;have hr:=fold_txt wd r;simp only[Scr.text,scrF,Wit.txt,Wit.nearT]at *;rw[hl,hr]
  simp
abbrev scC (hv sv tv:Value)(bits:Bs):Array Value:=(hv::sv::tv::bits.map u8).toArray
def ScR (b w:World)(v:Value)(s:Scr):Prop:=∃ hv sv tv,v=.agg (scC hv sv tv s.bits)∧s.bits.length=32∧NwB b w hv s.head∧NwB b w sv s.sums∧NwB b w tv s.tail ∧
 ∀ c,qQb sv=some c→qQb hv≠some c∧qQb tv≠some c
def repS:Rep Scr 35 where
 R:=ScR
 back:=fun ⟨hv,sv,tv,h1,h2,h3,h4,h5,h6⟩ h=>⟨hv,sv,tv,h1,h2,h3.back h,h4.back h,h5.back h,h6⟩
 fr:=fun ⟨hv,sv,tv,h1,h2,h3,h4,h5,h6⟩ k hf=>⟨hv,sv,tv,h1,h2,h3.fr k fun b hb=>hf b (h3.lt hb).1,h4.fr k fun b hb=>hf b (h4.lt hb).1,h5.fr k fun b hb=>hf b (h5.lt hb).1,h6⟩
 agg:=fun ⟨hv,sv,tv,h1,h2,h3,h4,h5,h6⟩=>⟨_,h1,by simp[h2],by
  rw[← y8];simp only[vZ,h3.by.one,h4.by.one,h5.by.one,Bool.true_and]
  exact qXs _⟩
end Go.V
