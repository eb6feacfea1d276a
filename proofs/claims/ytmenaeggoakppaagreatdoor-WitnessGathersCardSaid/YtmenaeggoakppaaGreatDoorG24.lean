/- Helpers. -/
import Derived.Test.YtmenaeggoakppaaGreatDoorG23
import Derived.Test.YtmenaeggoakppaaGreatDoorG21
set_option linter.all false
set_option maxRecDepth 100000
set_option maxHeartbeats 8000000
open List renaming replicate→zG,getElem?_toArray→zX,getD_cons_zero→zR
open Nat renaming reduceEqDiff→jF,reduceBEq→jB,min_eq_left→vK,lt_irrefl→jD,zero_mul→jA,zero_add→z8,add_zero→jO
open Go.Value renaming cells→jM
open Go.V.Wit renaming passes_snoc→vY,fold→vU
namespace Go.V
open Go.Proofs.Tryz Go.V.Tryz
open Go.Proofs Sha
variable {bits bs:Bs} {b:Nat} {v:Value} {w:World}
section
theorem scZ:#[.slice none 0 0,.slice none 0 0,.slice none 0 0]++bl (zG 32 0)=scC (.slice none 0 0) (.slice none 0 0) (.slice none 0 0) (zG 32 0):=by
 apply Array.toList_inj.1;simp[]
section
variable {α:Type} (rep:Rep α 35) (G:α→Prop) (E:Bs→Option Bs→α) (F:α→α→α) (Pp:α→Bs→Nat→Bs→α) (ge gf gp:FuncId) (ce cf cp:Array Value) (u wb:World)
def fpIS (bs w0:World)(b8 b9:Nat)(tbv pv nv:Value)(k:Bs)(f:Nat)(x0:α)(near:List Bs)(n:Nat)(vs:List Value)(w:World):Prop :=
 ∃ (i:Nat) (y z:Value) (cs:Array Value),vs=[tbv,pv,pt b8 0,pt b9 0,y,z,nv,.int .i64 (near.length:Nat),.int .i64 (i:Nat)]∧i≤near.length∧n=near.length - i∧w.heap[b9]?=some (.cells cs 212 (0,0))∧rep.R bs w (.agg cs) (Wit.passes Pp k f x0 (near.take i))∧No w0 w∧w.heap[b8]?=some (.cells (scC (.slice none 0 0) (.slice none 0 0) (.slice none 0 0) (zG 32 0)) 212 (0,0))∧bs.heap.size≤w.heap.size
theorem foldS (pe:qQe prog ge=true)(pf:qQe prog gf=true)(pp:qQe prog gp=true)
  (hE:∀ w k x a,No wb w→k.length=32→AnsR w x a→(∀ v,a=some v→v.length≤128)→G (E k a)→Fn prog ge (#[]++#[dg k,x]++ce) w fun v w'=>rep.R w w' v (E k a)∧No w w')
  (hF:∀ b w v1 x1 v2 x2,No wb w→b.heap.size≤w.heap.size→rep.R b w v1 x1→rep.R b w v2 x2→G (F x1 x2)→Fn prog gf (#[]++#[v1,v2]++cf) w fun v w'=>rep.R w w' v (F x1 x2)∧No w w')
  (hP:∀ b w v x k h n,No wb w→b.heap.size≤w.heap.size→rep.R b w v x→k.length=32→h<256→n.length=32→G (Pp x k h n)→Fn prog gp (#[]++#[v,dg k,.int .i64 ((h:Nat):Int),dg n]++cp) w fun v w'=>rep.R b w' v (Pp x k h n)∧Fr (fun c=>b.heap.size≤c) w w') :
  ∀ (t:Wit.Tw) (tb:Nat) (B:List Nat) (w0:World),TwM u w0 tb t B→t.Ok→No u w0→No wb w0→Wit.AllG G E F Pp t →
   Fn prog 121 #[pt tb 0,.func (.func ge) #[] ce,.func (.func gf) #[] cf,.func (.func gp) #[] cp] w0 fun v w'=>rep.R w0 w' v (vU E F Pp t)∧No w0 w':=by
 intro t
 induction t with
 | leaf k top near a =>
  intro tb B w0 hT hok hu hb hG;obtain⟨kv,nv,vv,Bn,Bv,rfl,t0,hk,hn,_,hv,_⟩:=hT;refine go121 (by simp) ?_;have f2:No w0 ((w0.alloc (.cells (scC (.slice none 0 0) (.slice none 0 0) (.slice none 0 0) (zG 32 0)) 212)).alloc (.cells (scC (.slice none 0 0) (.slice none 0 0) (.slice none 0 0) (zG 32 0)) 212)):=((Fr.refl _ _).alloc _).alloc _;have k82:((w0.alloc (.cells (scC (.slice none 0 0) (.slice none 0 0) (.slice none 0 0) (zG 32 0)) 212)).alloc (.cells (scC (.slice none 0 0) (.slice none 0 0) (.slice none 0 0) (zG 32 0)) 212)).heap[w0.heap.size]?=some (.cells (scC (.slice none 0 0) (.slice none 0 0) (.slice none 0 0) (zG 32 0)) 212 (0,0)):=qQq (qQc _ _)
  have k92:((w0.alloc (.cells (scC (.slice none 0 0) (.slice none 0 0) (.slice none 0 0) (zG 32 0)) 212)).alloc (.cells (scC (.slice none 0 0) (.slice none 0 0) (.slice none 0 0) (zG 32 0)) 212)).heap[w0.heap.size+1]?=some (.cells (scC (.slice none 0 0) (.slice none 0 0) (.slice none 0 0) (zG 32 0)) 212 (0,0)):=by
   have:=qQc (w0.alloc (.cells (scC (.slice none 0 0) (.slice none 0 0) (.slice none 0 0) (zG 32 0)) 212)) (.cells (scC (.slice none 0 0) (.slice none 0 0) (.slice none 0 0) (zG 32 0)) 212);rw[qQd]at this;exact this
  have hs2:((w0.alloc (.cells (scC (.slice none 0 0) (.slice none 0 0) (.slice none 0 0) (zG 32 0)) 212)).alloc (.cells (scC (.slice none 0 0) (.slice none 0 0) (.slice none 0 0) (zG 32 0)) 212)).heap.size=w0.heap.size+2:=by rw[qQd,qQd]
  simp -implicitDefEqProofs only[go_sem,jF,Nat.reduceAdd,Tryz.f121,jM,scZ,qQj];generalize (w0.alloc (.cells (scC (.slice none 0 0) (.slice none 0 0) (.slice none 0 0) (zG 32 0)) 212)).alloc (.cells (scC (.slice none 0 0) (.slice none 0 0) (.slice none 0 0) (zG 32 0)) 212)=w2 at *;have t2:=f2.at t0 id;have r2:=qQo (P:=prog) t2
  have l69:rdO prog 69 w2 tb 4=some (.agg #[.bool a.isSome,vv]):=by
   rw[r2,qJb agg69 sz69 (by simp)];rfl
  have hkey:k.length=32:=hok.1;obtain⟨kb,ko,kc,rfl,_⟩:=hk.pos (by simp);have rk2:=(hk.fr0 (hu.trans f2)).get (P:=prog) agg34 sz34 (i:=0) (by simp);rw[jA,jO,zR]at rk2;have y0:(0:Int)≤0∧(0:Int)<((([k]:List Bs).length:Nat):Int):=by simp
  have l24:rdO prog 24 w2 tb 0=some (.slice (some ⟨kb,ko,none⟩) ([k]:List Bs).length kc):=by
   rw[r2,qQk agg24];rfl
  have l91:rdO prog 91 w2 tb 6=some (.pointer none):=by
   rw[r2,qQk agg91];rfl
  simp -implicitDefEqProofs only[go_sem,jF,jB,l24,l91,l69,rk2,y0];refine qQa pe ((hE w2.drew k _ a (hb.trans f2).drew hkey ⟨vv,rfl,hv.one,hv.fr0 f2.drew⟩ hok.2.2.2.2 (hG 0 (Nat.zero_le _))).mono ?_);rintro v3 w3 ⟨R3,f3⟩;have k93:w3.heap[w0.heap.size+1]?=_:=f3.at (w:=w2.drew) k92 id;have k83:w3.heap[w0.heap.size]?=_:=f3.at (w:=w2.drew) k82 id;have f03:No w0 w3:=f2.drew.trans f3;have hs3:w2.heap.size≤w3.heap.size:=f3.size;have hnl:near.length≤256:=by have:=hok.2.2.1;have:=hok.2.1;omega
  obtain⟨c4,rfl,hc4,hone4⟩:=rep.agg R3;have q3:=qQw (P:=prog) (t:=212) (vs:=c4) (by rw[hc4];exact sz212) k93 (by rw[hc4];simp) hone4;have k94:=qQf (o:=.cells c4 212 (0,0)) k93;have k84:(put w3 (w0.heap.size+1) (.cells c4 212 (0,0))).heap[w0.heap.size]?=some (.cells (scC (.slice none 0 0) (.slice none 0 0) (.slice none 0 0) (zG 32 0)) 212 (0,0)):=qQr k83 (by omega);have fp4:Fr (fun b=>b=w0.heap.size+1) w3 (put w3 (w0.heap.size+1) (.cells c4 212 (0,0))):=(Fr.refl _ _).put (b:=w0.heap.size+1) _ fun _=>rfl;have f4:No w0 (put w3 (w0.heap.size+1) (.cells c4 212 (0,0))):=f03.put (b:=w0.heap.size+1) _ fun h=>by omega
  have R4:rep.R w2 (put w3 (w0.heap.size+1) (.cells c4 212 (0,0))) (.agg c4) (E k a):=rep.back (rep.fr R3 fp4 fun c hc e=>by have hc:w2.heap.size≤c:=hc;omega) (show w2.heap.size≤w2.heap.size by omega);have hs4:w2.heap.size≤(put w3 (w0.heap.size+1) (.cells c4 212 (0,0))).heap.size:=by have:=fp4.size;omega
  have t4:=f4.at t0 id;simp -implicitDefEqProofs only[go_sem,jF,q3];generalize put w3 (w0.heap.size+1) (.cells c4 212 (0,0))=w4 at *;obtain⟨na,nc,rfl,hnc⟩:=hn.rd.slice;have r4:=qQo (P:=prog) t4;simp -implicitDefEqProofs only[go_sem,gLa,gLz,gLs,r4,qQk];refine loopD [0,3,8,9,10,11,50,51,52] (fpIS rep Pp w2 w0 w0.heap.size (w0.heap.size+1) (pt tb 0) (.func (.func gp) #[] cp) (.slice na near.length nc) k 0 (E k a) near) near.length ⟨0,_,_,c4,rfl,by omega,rfl,k94,R4,f4,k84,hs4⟩ ?_;rintro _ vs w5 g ⟨i,y,z,cs,rfl,hi,rfl,k95,R5,f5,k85,hs5⟩
  by_cases hlt:i<near.length
  ·have d1:=dTo ((i:Int)<((near.length:Nat):Int))
   have hn5:=(hn.rd.fr0 f5)
   obtain⟨nb,no,ncc,he,_⟩:=hn5.pos (by omega);cases he;have rn:=hn5.get (P:=prog) agg23 sz23 hlt;have nl:=hn.1.getD hlt;have y1:=iBd (i:=i) (n:=near.length);have hsn:near.take (i+1)=near.take i++[near.getD i []]:=by rw[tSg hlt,qQi _ hlt]
   generalize near.getD i []=N at rn nl hsn ⊢;have q6:=wr_d sz23 (qQc w5 (.cells (bl (zG 32 0)) 23)) zl32 nl;have k6:=qQf (o:=.cells (bl N) 23 (0,0)) (qQc w5 (.cells (bl (zG 32 0)) 23));have f56:No w5 (put (w5.alloc (.cells (bl (zG 32 0)) 23)) w5.heap.size (.cells (bl N) 23 (0,0))):=((Fr.refl _ _).alloc _).put (b:=w5.heap.size) _ fun h=>absurd h (jD _);simp -implicitDefEqProofs only[go_sem,jF,jB,y1,rn,jM,qQj,q6];generalize put (w5.alloc (.cells (bl (zG 32 0)) 23)) w5.heap.size (.cells (bl N) 23 (0,0))=w6 at *;have f6:=f5.trans f56;obtain⟨cs',he',hcs,hone⟩:=rep.agg R5;cases he';have r96:=qZj (t:=212) agg212 (by rw[hcs];exact sz212) (f56.at k95 id);have rN6:=rd_d agg23 sz23 k6 nl;have rt6:=qQo (P:=prog) (f6.at t0 id);have rk6:=(hk.fr0 (hu.trans f6)).get (P:=prog) agg34 sz34 (i:=0) (show 0<([k]:List Bs).length by simp);rw[jA,jO,zR]at rk6;have y0:(0:Int)≤0∧(0:Int)<((([k]:List Bs).length:Nat):Int):=by have:=(show 0<([k]:List Bs).length by simp);omega
   have hfi:0+i<256:=by omega
   have c1:IntKind.i64.wrap (((0:Nat):Int)+(i:Int))=((0+i:Nat):Int):=qXc;have hs6:w2.heap.size≤w6.drew.heap.size:=by have:=f56.size;simp only[World.drew];omega
   simp -implicitDefEqProofs only[go_sem,jF,gLa,gLz,gLs,r96,rN6,rt6,rk6,y0,qQk,c1];have hGi:=hG (i+1) (by omega);rw[hsn,vY,lTk,vK (by omega)]at hGi;have hPi:=hP w2 w6.drew (.agg cs) _ _ (0+i) N (hb.trans f6).drew hs6 (rep.fr R5 f56.drew fun _ _ h=>h) hkey hfi nl hGi;rw[z8]at hPi;refine qQa pp (hPi.mono ?_);rintro v7 w7 ⟨R7,f7⟩;obtain⟨cs7,rfl,hcs7,hone7⟩:=rep.agg R7;have k97:w7.heap[w0.heap.size+1]?=_:=f7.at (w:=w6.drew) (f56.at k95 id) (by omega);have q7:=qQw (P:=prog) (t:=212) (vs:=cs7) (by rw[hcs7];exact sz212) k97 (by rw[hcs,hcs7]) hone7;have c2:=iSu (i:=i);simp -implicitDefEqProofs only[go_sem,jF,q7,c2];have fp8:Fr (fun b=>b=w0.heap.size+1) w7 (put w7 (w0.heap.size+1) (.cells cs7 212 (0,0))):=(Fr.refl _ _).put (b:=w0.heap.size+1) _ fun _=>rfl;have fno:No w0 (put w7 (w0.heap.size+1) (.cells cs7 212 (0,0))):=(f6.drew.trans' f7 fun b hb h=>by omega).put (b:=w0.heap.size+1) _ fun h=>by omega
   refine⟨near.length - (i+1),by omega,i+1,_,_,cs7,rfl,by omega,rfl,qQf k97,?_,fno,qQr (f7.at (w:=w6.drew) (f56.at k85 id) (by omega)) (by omega),?_⟩
   ·rw[hsn,vY,lTk,vK (by omega)]
    rw[z8];exact rep.fr R7 fp8 fun c hc e=>by omega
   ·have:=f7.size;have:=fp8.size;omega
  ·have d1:=dFo ((i:Int)<((near.length:Nat):Int))
   have e:i=near.length:=by omega
   subst e;rw[List.take_length]at R5;obtain⟨cs',he',hcs,hone⟩:=rep.agg R5;cases he';have r95:=qZj (t:=212) agg212 (by rw[hcs];exact sz212) k95;have q85:=qQw (P:=prog) (t:=212) (vs:=cs) (by rw[hcs];exact sz212) k85 (by rw[hcs];simp) hone;have k86:=qQf (o:=.cells cs 212 (0,0)) k85;have r86:=qZj (t:=212) agg212 (by rw[hcs];exact sz212) k86;simp -implicitDefEqProofs only[go_sem,jF,d1,r95,q85,r86];have fp8:Fr (fun b=>b=w0.heap.size) w5 (put w5 w0.heap.size (.cells cs 212 (0,0))):=(Fr.refl _ _).put (b:=w0.heap.size) _ fun _=>rfl;exact⟨rep.back (rep.fr R5 fp8 fun c hc e=>by omega) (by omega),f5.put (b:=w0.heap.size) _ fun h=>absurd h (jD _)⟩
 | fork ks f top near l r ihl ihr =>
  intro tb B w0 hT hok hu hb hG;obtain⟨kv,nv,fb,vv,lb,rb,Bn,Bl,Br,rfl,t0,hk,hn,_,hTl,hTr⟩:=hT;refine go121 (by simp) ?_;have f2:No w0 ((w0.alloc (.cells (scC (.slice none 0 0) (.slice none 0 0) (.slice none 0 0) (zG 32 0)) 212)).alloc (.cells (scC (.slice none 0 0) (.slice none 0 0) (.slice none 0 0) (zG 32 0)) 212)):=((Fr.refl _ _).alloc _).alloc _;have k82:((w0.alloc (.cells (scC (.slice none 0 0) (.slice none 0 0) (.slice none 0 0) (zG 32 0)) 212)).alloc (.cells (scC (.slice none 0 0) (.slice none 0 0) (.slice none 0 0) (zG 32 0)) 212)).heap[w0.heap.size]?=some (.cells (scC (.slice none 0 0) (.slice none 0 0) (.slice none 0 0) (zG 32 0)) 212 (0,0)):=qQq (qQc _ _)
  have k92:((w0.alloc (.cells (scC (.slice none 0 0) (.slice none 0 0) (.slice none 0 0) (zG 32 0)) 212)).alloc (.cells (scC (.slice none 0 0) (.slice none 0 0) (.slice none 0 0) (zG 32 0)) 212)).heap[w0.heap.size+1]?=some (.cells (scC (.slice none 0 0) (.slice none 0 0) (.slice none 0 0) (zG 32 0)) 212 (0,0)):=by
   have:=qQc (w0.alloc (.cells (scC (.slice none 0 0) (.slice none 0 0) (.slice none 0 0) (zG 32 0)) 212)) (.cells (scC (.slice none 0 0) (.slice none 0 0) (.slice none 0 0) (zG 32 0)) 212);rw[qQd]at this;exact this
  have hs2:((w0.alloc (.cells (scC (.slice none 0 0) (.slice none 0 0) (.slice none 0 0) (zG 32 0)) 212)).alloc (.cells (scC (.slice none 0 0) (.slice none 0 0) (.slice none 0 0) (zG 32 0)) 212)).heap.size=w0.heap.size+2:=by rw[qQd,qQd]
  simp -implicitDefEqProofs only[go_sem,jF,Nat.reduceAdd,Tryz.f121,jM,scZ,qQj];generalize (w0.alloc (.cells (scC (.slice none 0 0) (.slice none 0 0) (.slice none 0 0) (zG 32 0)) 212)).alloc (.cells (scC (.slice none 0 0) (.slice none 0 0) (.slice none 0 0) (zG 32 0)) 212)=w2 at *;have t2:=f2.at t0 id;have r2:=qQo (P:=prog) t2;have hkey:(ks.headD []).length=32:=hok.key_len;have hpos:0<ks.length:=hok.keys_pos;obtain⟨kb,ko,kc,rfl,_⟩:=hk.pos hpos;have hf1:=hok.fr_le;have hf2:=hok.top_le;have hf3:=hok.near_len;simp only[Wit.Tw.fr,Wit.Tw.top,Wit.Tw.near]at hf1 hf2 hf3;obtain⟨okl,okr⟩:l.Ok∧r.Ok:=hok.2.2.2.2.2.2.2.2.2.2.2.2;have t2d:w2.drew.heap[tb]?=_:=t2;simp -implicitDefEqProofs only[go_sem,jF,gLa,gLz,gLs,r2,qQk];refine qXh (fun j=>j == 8 || j == 16 || j == 17) [0,1,2,3,4,9,10,11,12,5,6,7,8,13,14,15,16,17,18] rfl (by kernel_rfl) (by kernel_rfl) ?_;simp -implicitDefEqProofs only[go_sem,jF,jB,gLa,gLz,gLs,r2,qQk];have nod:No w0 w2.drew:=f2.drew;refine qQt pl121 ((ihl lb Bl w2.drew (hTl.fr0 nod) okl (hu.trans nod) (hb.trans nod) hG.1).mono ?_);rintro vl wl ⟨Rl,fl⟩;refine⟨fun _=>Fr.ext fl,?_⟩;simp -implicitDefEqProofs only[go_sem,jF,jB,gLa,gLz,gLs];have nol:No w0 wl:=nod.trans fl;refine qQt pl121 ((ihr rb Br wl (hTr.fr0 nol) okr (hu.trans nol) (hb.trans nol) hG.2.1).mono ?_);rintro vr wr ⟨Rr,fr⟩;refine⟨fun _=>Fr.ext fr,?_⟩;simp -implicitDefEqProofs only[go_sem,jF,gLa,gLz,gLs];have nor:No w0 wr:=nol.trans fr;have hsl:w2.heap.size≤wl.heap.size:=fl.size;have hsr:wl.heap.size≤wr.heap.size:=fr.size;refine qQt pf ((hF w2.drew wr vl _ vr _ (hb.trans nor) (show w2.heap.size≤wr.heap.size by omega) (rep.fr Rl fr fun _ _ h=>h) (rep.back Rr (show w2.heap.size≤wl.heap.size from hsl)) (hG.2.2 0 (Nat.zero_le _))).mono ?_);rintro v3 w3 ⟨R3,f3⟩;refine⟨fun _=>Fr.ext f3,?_⟩
  have f23:No w2.drew w3:=(fl.trans fr).trans f3;have k93:w3.heap[w0.heap.size+1]?=_:=f23.at (w:=w2.drew) k92 id;have k83:w3.heap[w0.heap.size]?=_:=f23.at (w:=w2.drew) k82 id;have f03:No w0 w3:=nod.trans f23;have hs3:w2.heap.size≤w3.heap.size:=f23.size;have hnl:near.length≤256:=by omega
  obtain⟨c4,rfl,hc4,hone4⟩:=rep.agg R3;have q3:=qQw (P:=prog) (t:=212) (vs:=c4) (by rw[hc4];exact sz212) k93 (by rw[hc4];simp) hone4;have k94:=qQf (o:=.cells c4 212 (0,0)) k93;have k84:(put w3 (w0.heap.size+1) (.cells c4 212 (0,0))).heap[w0.heap.size]?=some (.cells (scC (.slice none 0 0) (.slice none 0 0) (.slice none 0 0) (zG 32 0)) 212 (0,0)):=qQr k83 (by omega);have fp4:Fr (fun b=>b=w0.heap.size+1) w3 (put w3 (w0.heap.size+1) (.cells c4 212 (0,0))):=(Fr.refl _ _).put (b:=w0.heap.size+1) _ fun _=>rfl;have f4:No w0 (put w3 (w0.heap.size+1) (.cells c4 212 (0,0))):=f03.put (b:=w0.heap.size+1) _ fun h=>by omega
  have R4:rep.R w2 (put w3 (w0.heap.size+1) (.cells c4 212 (0,0))) (.agg c4) (F (vU E F Pp l) (vU E F Pp r)):=rep.back (rep.fr R3 fp4 fun c hc e=>by have hc:wr.heap.size≤c:=hc;omega) (show w2.heap.size≤wr.heap.size by omega);have hs4:w2.heap.size≤(put w3 (w0.heap.size+1) (.cells c4 212 (0,0))).heap.size:=by have:=fp4.size;omega
  have t4:=f4.at t0 id;simp -implicitDefEqProofs only[go_sem,jF,jB,gLa,gLz,gLs,q3];generalize put w3 (w0.heap.size+1) (.cells c4 212 (0,0))=w4 at *;obtain⟨na,nc,rfl,hnc⟩:=hn.rd.slice;have r4:=qQo (P:=prog) t4;simp -implicitDefEqProofs only[go_sem,gLa,gLz,gLs,r4,qQk];refine loopD [0,3,8,9,10,11,50,51,52] (fpIS rep Pp w2 w0 w0.heap.size (w0.heap.size+1) (pt tb 0) (.func (.func gp) #[] cp) (.slice na near.length nc) (ks.headD []) f (F (vU E F Pp l) (vU E F Pp r)) near) near.length ⟨0,_,_,c4,rfl,by omega,rfl,k94,R4,f4,k84,hs4⟩ ?_;rintro _ vs w5 g ⟨i,y,z,cs,rfl,hi,rfl,k95,R5,f5,k85,hs5⟩
  by_cases hlt:i<near.length
  ·have d1:=dTo ((i:Int)<((near.length:Nat):Int))
   have hn5:=(hn.rd.fr0 f5)
   obtain⟨nb,no,ncc,he,_⟩:=hn5.pos (by omega);cases he;have rn:=hn5.get (P:=prog) agg23 sz23 hlt;have nl:=hn.1.getD hlt;have y1:=iBd (i:=i) (n:=near.length);have hsn:near.take (i+1)=near.take i++[near.getD i []]:=by rw[tSg hlt,qQi _ hlt]
   generalize near.getD i []=N at rn nl hsn ⊢;have q6:=wr_d sz23 (qQc w5 (.cells (bl (zG 32 0)) 23)) zl32 nl;have k6:=qQf (o:=.cells (bl N) 23 (0,0)) (qQc w5 (.cells (bl (zG 32 0)) 23));have f56:No w5 (put (w5.alloc (.cells (bl (zG 32 0)) 23)) w5.heap.size (.cells (bl N) 23 (0,0))):=((Fr.refl _ _).alloc _).put (b:=w5.heap.size) _ fun h=>absurd h (jD _);simp -implicitDefEqProofs only[go_sem,jF,jB,y1,rn,jM,qQj,q6];generalize put (w5.alloc (.cells (bl (zG 32 0)) 23)) w5.heap.size (.cells (bl N) 23 (0,0))=w6 at *;have f6:=f5.trans f56;obtain⟨cs',he',hcs,hone⟩:=rep.agg R5;cases he';have r96:=qZj (t:=212) agg212 (by rw[hcs];exact sz212) (f56.at k95 id);have rN6:=rd_d agg23 sz23 k6 nl;have rt6:=qQo (P:=prog) (f6.at t0 id);have rk6:=(hk.fr0 (hu.trans f6)).get (P:=prog) agg34 sz34 (i:=0) hpos;rw[jA,jO,← qKg]at rk6;have y0:(0:Int)≤0∧(0:Int)<((ks.length:Nat):Int):=by have:=hpos;omega
   have hfi:f+i<256:=by omega
   have c1:IntKind.i64.wrap (((f:Nat):Int)+(i:Int))=((f+i:Nat):Int):=qXc;have hs6:w2.heap.size≤w6.drew.heap.size:=by have:=f56.size;simp only[World.drew];omega
   simp -implicitDefEqProofs only[go_sem,jF,gLa,gLz,gLs,r96,rN6,rt6,rk6,y0,qQk,c1];have hGi:=hG.2.2 (i+1) (by omega);rw[hsn,vY,lTk,vK (by omega)]at hGi;have hPi:=hP w2 w6.drew (.agg cs) _ _ (f+i) N (hb.trans f6).drew hs6 (rep.fr R5 f56.drew fun _ _ h=>h) hkey hfi nl hGi;refine qQa pp (hPi.mono ?_);rintro v7 w7 ⟨R7,f7⟩;obtain⟨cs7,rfl,hcs7,hone7⟩:=rep.agg R7;have k97:w7.heap[w0.heap.size+1]?=_:=f7.at (w:=w6.drew) (f56.at k95 id) (by omega);have q7:=qQw (P:=prog) (t:=212) (vs:=cs7) (by rw[hcs7];exact sz212) k97 (by rw[hcs,hcs7]) hone7;have c2:=iSu (i:=i);simp -implicitDefEqProofs only[go_sem,jF,q7,c2];have fp8:Fr (fun b=>b=w0.heap.size+1) w7 (put w7 (w0.heap.size+1) (.cells cs7 212 (0,0))):=(Fr.refl _ _).put (b:=w0.heap.size+1) _ fun _=>rfl;have fno:No w0 (put w7 (w0.heap.size+1) (.cells cs7 212 (0,0))):=(f6.drew.trans' f7 fun b hb h=>by omega).put (b:=w0.heap.size+1) _ fun h=>by omega
   refine⟨near.length - (i+1),by omega,i+1,_,_,cs7,rfl,by omega,rfl,qQf k97,?_,fno,qQr (f7.at (w:=w6.drew) (f56.at k85 id) (by omega)) (by omega),?_⟩
   ·rw[hsn,vY,lTk,vK (by omega)]
    exact rep.fr R7 fp8 fun c hc e=>by omega
   ·have:=f7.size;have:=fp8.size;omega
  ·have d1:=dFo ((i:Int)<((near.length:Nat):Int))
   have e:i=near.length:=by omega
   subst e;rw[List.take_length]at R5;obtain⟨cs',he',hcs,hone⟩:=rep.agg R5;cases he';have r95:=qZj (t:=212) agg212 (by rw[hcs];exact sz212) k95;have q85:=qQw (P:=prog) (t:=212) (vs:=cs) (by rw[hcs];exact sz212) k85 (by rw[hcs];simp) hone;have k86:=qQf (o:=.cells cs 212 (0,0)) k85;have r86:=qZj (t:=212) agg212 (by rw[hcs];exact sz212) k86;simp -implicitDefEqProofs only[go_sem,jF,d1,r95,q85,r86];have fp8:Fr (fun b=>b=w0.heap.size) w5 (put w5 w0.heap.size (.cells cs 212 (0,0))):=(Fr.refl _ _).put (b:=w0.heap.size) _ fun _=>rfl;exact⟨rep.back (rep.fr R5 fp8 fun c hc e=>by omega) (by omega),f5.put (b:=w0.heap.size) _ fun h=>absurd h (jD _)⟩
end
end
theorem qXi (hv sv tv:Value)(bits:Bs):(scC hv sv tv bits).size=bits.length+3:=by simp
theorem scC_bits {hv sv tv:Value}(i:Nat):(scC hv sv tv bits)[3+i]?=(bits.map u8)[i]?:=by
 rw[zX,Nat.add_comm];rfl
theorem sc_by {hv sv tv:Value}{e:TypeId}{fz:Nat × Nat}(h:w.heap[b]?=some (.cells (scC hv sv tv bits) e fz))(hl:bits.length=32):By w (.slice (some ⟨b,3,none⟩) 32 32) bits:=by
 refine⟨by rw[List.length_map,Nat.mul_one],some ⟨b,3,none⟩,32,by rw[hl],by omega,fun _=>⟨b,3,rfl,fun i hi=>?_⟩⟩;rw[qXd h,scC_bits]
theorem sliceA (b o:Nat):qXe prog 22 (.pointer (some ⟨b,o,none⟩)) none none none=some (.slice (some ⟨b,o,none⟩) 32 32):=by
 unfold qXe;rw[arr22];simp only[optB,Option.bind_some,sz5,Option.map_some,Nat.sub_zero];rw[if_neg (by decide),jA]
 rfl
theorem stext (w0:World){hv sv tv:Value}{h bits s t:Bs}(hh:By w0 hv h)(hs:By w0 sv s)(ht:By w0 tv t)(hb:bits.length=32)(hn:h.length+s.length+t.length≤2 ^ 30) :
  Fn prog 124 #[.agg (scC hv sv tv bits)] w0 fun r w'=>NwB w0 w' r (h++(bits++(s++t)))∧No w0 w':=by
 refine go124 (by simp) ?_;obtain⟨ha,hc,rfl,_⟩:=hh.slice;obtain⟨sa,sc,rfl,_⟩:=hs.slice;obtain⟨ta,tc,rfl,_⟩:=ht.slice;obtain⟨W,hW,f1,k1,s1⟩:=qQs w0 (scC (.slice ha h.length hc) (.slice sa s.length sc) (.slice ta t.length tc) bits) 212;have r0:=qJc (P:=prog) (v:=.slice ha h.length hc) agg25 k1 (o:=0) rfl;have r1:=qJc (P:=prog) (v:=.slice sa s.length sc) agg25 k1 (o:=1) rfl;have r2:=qJc (P:=prog) (v:=.slice ta t.length tc) agg25 k1 (o:=2) rfl;have sa':=sliceA w0.heap.size 3;simp -implicitDefEqProofs only[go_sem,jF,Tryz.f124,jM,hW,r0,r1,r2,sa'];refine qQl (v:=.slice (some ⟨W.drew.heap.size,0,none⟩) 4 4) (w':=W.drew.alloc (.cells #[.slice ha h.length hc,.slice (some ⟨w0.heap.size,3,none⟩) 32 32,.slice sa s.length sc,.slice ta t.length tc] 25)) rfl ?_;obtain⟨W2,hW2,f2,k2,s2⟩:=qQs W.drew #[.slice ha h.length hc,.slice (some ⟨w0.heap.size,3,none⟩) 32 32,.slice sa s.length sc,.slice ta t.length tc] 25;rw[hW2];have f12:No w0 W2:=f1.drew.trans f2;simp -implicitDefEqProofs only[go_sem]
 have hx:Rd W2 1 (.slice (some ⟨W.drew.heap.size,0,none⟩) 4 4) 4 [.slice ha h.length hc,.slice (some ⟨w0.heap.size,3,none⟩) 32 32,.slice sa s.length sc,.slice ta t.length tc] :=
  ⟨rfl,_,_,rfl,Nat.le_refl _,fun _=>⟨_,_,rfl,fun i _=>by rw[qXd k2,z8,zX]⟩⟩
 refine qQa pl176 ((concat W2 (xs:=.slice (some ⟨W.drew.heap.size,0,none⟩) 4 4) (xl:=[.slice ha h.length hc,.slice (some ⟨w0.heap.size,3,none⟩) 32 32,.slice sa s.length sc,.slice ta t.length tc]) (bs:=[h,bits,s,t]) rfl hx (fun i hi=>?_) (by simp) (by simp[hb];omega)).mono ?_)
 ·match i,hi with
  | 0,_=>exact hh.fr0 f12
  | 1,_=>exact sc_by (f2.at (w:=W.drew) k1 id) hb
  | 2,_=>exact hs.fr0 f12
  | 3,_=>exact ht.fr0 f12
 ·rintro r w3 ⟨b3,f3⟩
  simp -implicitDefEqProofs only[go_sem];have e:[h,bits,s,t].flatten=h++(bits++(s++t)):=by simp
  rw[e]at b3;exact⟨b3.back f12.size,f12.trans f3⟩
theorem bldSc {x y z:Value}(hx:one x=true):bldO prog 212 [(0,x)]=some (.agg (scC x (.slice none 0 0) (.slice none 0 0) (zG 32 0))):=by
 simp only[bldO,zero212,places212,Option.bind_some];rw[qXj (off:=0) rfl hx (by simp[jM])]
 rfl
theorem By.frn {w w':World}{F:Nat→Prop}(h:By w v bs)(k:Fr F w w')(hf:bs≠[]→∀ b,qQb v=some b→¬ F b):By w' v bs:=by
 by_cases hb:bs=[]
 ·subst hb
  obtain⟨h1,a,cap,e,h2,_⟩:=h;exact⟨h1,a,cap,e,h2,fun h0=>absurd h0 (by simp)⟩
 ·exact h.fr k fun b h1 _=>hf hb b h1
theorem By.blkn (h:By w v bs)(hb:bs≠[])(hv:qQb v=some b):b<w.heap.size:=by
 obtain⟨a,cap,rfl,_,hat⟩:=h.at;obtain⟨b',o,rfl,hr⟩:=hat 0 (List.length_pos_iff.2 hb);simp only[qQb,oSi]at hv;subst hv;exact rc_lt hr
def TwV (u w:World)(S:Nat→Prop):Nat→Wit.Tw→Prop
 | tb, .leaf k top near a=>∃ kv nv vv, S tb∧w.heap[tb]?=some (.cells (twC kv 0 top nv (.bool a.isSome) vv (.pointer none) (.pointer none)) 96 (0, 0))∧RdD u kv [k] ∧
   NwD wE w 23 nv near∧(∀ b,qQb nv=some b→S b)∧By w vv (a.getD [])∧(a.getD []≠[]→∀ b,qQb vv=some b→S b)
 | tb, .fork ks f top near l r=>∃ kv nv, ∃ (fb vv:OneV), ∃ lb rb, S tb∧w.heap[tb]?=some (.cells (twC kv f top nv fb vv (pt lb 0) (pt rb 0)) 96 (0, 0))∧RdD u kv ks ∧
   NwD wE w 23 nv near∧(∀ b,qQb nv=some b→S b)∧TwV u w S lb l∧TwV u w S rb r
theorem TwV.fr {u w w':World}{F S:Nat→Prop}(k:Fr F w w')(hf:∀ b,S b→¬ F b):∀ {t:Wit.Tw} {tb:Nat},TwV u w S tb t→TwV u w' S tb t
 | .leaf _ _ _ _,tb,h=>by
  obtain⟨kv,nv,vv,h0,h1,h2,h3,h4,h5,h6⟩:=h;exact⟨kv,nv,vv,h0,k.at h1 (hf _ h0),h2,h3.fr k fun b hb=>hf _ (h4 b hb),h4,h5.frn k fun hn b hb=>hf _ (h6 hn b hb),h6⟩
 | .fork _ _ _ _ l r,tb,h=>by
  obtain⟨kv,nv,fb,vv,lb,rb,h0,h1,h2,h3,h4,h5,h6⟩:=h;exact⟨kv,nv,fb,vv,lb,rb,h0,k.at h1 (hf _ h0),h2,h3.fr k fun b hb=>hf _ (h4 b hb),h4,TwV.fr k hf h5,TwV.fr k hf h6⟩
theorem TwV.mono {u w:World}{S S':Nat→Prop}(hs:∀ b,S b→S' b):∀ {t:Wit.Tw} {tb:Nat},TwV u w S tb t→TwV u w S' tb t
 | .leaf _ _ _ _,tb,h=>by
  obtain⟨kv,nv,vv,h0,h1,h2,h3,h4,h5,h6⟩:=h;exact⟨kv,nv,vv,hs _ h0,h1,h2,h3,fun b hb=>hs _ (h4 b hb),h5,fun hn b hb=>hs _ (h6 hn b hb)⟩
 | .fork _ _ _ _ l r,tb,h=>by
  obtain⟨kv,nv,fb,vv,lb,rb,h0,h1,h2,h3,h4,h5,h6⟩:=h;exact⟨kv,nv,fb,vv,lb,rb,hs _ h0,h1,h2,h3,fun b hb=>hs _ (h4 b hb),TwV.mono hs h5,TwV.mono hs h6⟩
theorem TwV.m {u w:World}{S:Nat→Prop}:∀ {t:Wit.Tw} {tb:Nat},TwV u w S tb t→∃ B,TwM u w tb t B
 | .leaf _ _ _ _,tb,h=>by
  obtain⟨kv,nv,vv,h0,h1,h2,h3,h4,h5,h6⟩:=h;exact⟨_,kv,nv,vv,(qQb nv).toList,(qQb vv).toList,rfl,h1,h2,h3,fun b hb=>by simp[hb],h5,fun b hb=>by simp[hb]⟩
 | .fork _ _ _ _ l r,tb,h=>by
  obtain⟨kv,nv,fb,vv,lb,rb,h0,h1,h2,h3,h4,h5,h6⟩:=h;obtain⟨Bl,hl⟩:=TwV.m h5;obtain⟨Br,hr⟩:=TwV.m h6;exact⟨_,kv,nv,fb,vv,lb,rb,(qQb nv).toList,Bl,Br,rfl,h1,h2,h3,fun b hb=>by simp[hb],hl,hr⟩
end Go.V
