/- Helpers. -/
import Derived.Test.YtmenaeggoakppaaGreatDoorR36
import Derived.Test.YtmenaeggoakppaaGreatDoorR40
import Derived.Test.YtmenaeggoakppaaGreatDoorR26
import Derived.Test.YtmenaeggoakppaaGreatDoorR32
import Derived.Test.YtmenaeggoakppaaGreatDoorR34
set_option linter.all false
set_option maxRecDepth 100000
set_option maxHeartbeats 8000000
open Bool renaming not_eq_true→rY
open Int renaming toNat_zero→vP,le_refl→rU
open List renaming replicate→zF
open Nat renaming reduceEqDiff→jU,reduceBEq→jF,zero_mul→jC,reduceAdd→vQ,add_zero→jE
open Go.Value renaming cells→jB
open Go.V.Wit renaming saysC→rG,Tw→vS,chOf→rV,dig→vA,cutT→rF,bsd→rH,bes→kS
namespace Go.V
open Go.Proofs.Tryz Go.V.Tryz
open Go.Proofs Sha
variable {bs k raw:Bs} {wd:Int} {ks:List Bs} {g wb:Nat} {F X:Nat→Prop} {av kv rv v:Value} {u w w':World}
section
theorem args14 (a b c d e:Value):(#[]++#[a]++#[b,c,d,e]:Array Value)=#[a,b,c,d,e]:=by simp
theorem By.frn (h:By w v bs)(k:Fr F w w')(hf:bs≠[]→∀ b,qQb v=some b→¬ F b):By w' v bs:=by
 by_cases hb:bs=[]
 ·subst hb
  obtain⟨h1,a,cap,e,h2,_⟩:=h;exact⟨h1,a,cap,e,h2,fun h0=>absurd h0 (by simp)⟩
 ·exact h.fr k fun b h1 _=>hf hb b h1
theorem By.blkn (h:By w v bs)(hb:bs≠[]){b:Nat}(hv:qQb v=some b):b<w.heap.size:=by
 obtain⟨a,cap,rfl,_,hat⟩:=h.at;obtain⟨b',o,rfl,hr⟩:=hat 0 (List.length_pos_iff.2 hb);simp only[qQb,oSi]at hv;subst hv;exact rc_lt hr
def TwV (u w:World)(S:Nat→Prop):Nat→vS→Prop
 | tb, .leaf k top near a=>∃ kv nv vv, S tb∧w.heap[tb]?=some (.cells (twC kv 0 top nv (.bool a.isSome) vv (.pointer none) (.pointer none)) 96 (0, 0))∧RdD u kv [k] ∧
   NwD wE w 23 nv near∧(∀ b,qQb nv=some b→S b)∧By w vv (a.getD [])∧(a.getD []≠[]→∀ b,qQb vv=some b→S b)
 | tb, .fork ks f top near l r=>∃ kv nv, ∃ (fb vv:OneV), ∃ lb rb, S tb∧w.heap[tb]?=some (.cells (twC kv f top nv fb vv (pt lb 0) (pt rb 0)) 96 (0, 0))∧RdD u kv ks ∧
   NwD wE w 23 nv near∧(∀ b,qQb nv=some b→S b)∧TwV u w S lb l∧TwV u w S rb r
theorem TwV.fr {u w w':World}{F S:Nat→Prop}(k:Fr F w w')(hf:∀ b,S b→¬ F b):∀ {t:vS} {tb:Nat},TwV u w S tb t→TwV u w' S tb t
 | .leaf _ _ _ _,tb,h=>by
  obtain⟨kv,nv,vv,h0,h1,h2,h3,h4,h5,h6⟩:=h;exact⟨kv,nv,vv,h0,k.at h1 (hf _ h0),h2,h3.fr k fun b hb=>hf _ (h4 b hb),h4,h5.frn k fun hn b hb=>hf _ (h6 hn b hb),h6⟩
 | .fork _ _ _ _ l r,tb,h=>by
  obtain⟨kv,nv,fb,vv,lb,rb,h0,h1,h2,h3,h4,h5,h6⟩:=h;exact⟨kv,nv,fb,vv,lb,rb,h0,k.at h1 (hf _ h0),h2,h3.fr k fun b hb=>hf _ (h4 b hb),h4,TwV.fr k hf h5,TwV.fr k hf h6⟩
theorem TwV.mono {u w:World}{S S':Nat→Prop}(hs:∀ b,S b→S' b):∀ {t:vS} {tb:Nat},TwV u w S tb t→TwV u w S' tb t
 | .leaf _ _ _ _,tb,h=>by
  obtain⟨kv,nv,vv,h0,h1,h2,h3,h4,h5,h6⟩:=h;exact⟨kv,nv,vv,hs _ h0,h1,h2,h3,fun b hb=>hs _ (h4 b hb),h5,fun hn b hb=>hs _ (h6 hn b hb)⟩
 | .fork _ _ _ _ l r,tb,h=>by
  obtain⟨kv,nv,fb,vv,lb,rb,h0,h1,h2,h3,h4,h5,h6⟩:=h;exact⟨kv,nv,fb,vv,lb,rb,hs _ h0,h1,h2,h3,fun b hb=>hs _ (h4 b hb),TwV.mono hs h5,TwV.mono hs h6⟩
theorem TwV.m {u w:World}{S:Nat→Prop}:∀ {t:vS} {tb:Nat},TwV u w S tb t→∃ B,TwM u w tb t B
 | .leaf _ _ _ _,tb,h=>by
  obtain⟨kv,nv,vv,h0,h1,h2,h3,h4,h5,h6⟩:=h;exact⟨_,kv,nv,vv,(qQb nv).toList,(qQb vv).toList,rfl,h1,h2,h3,fun b hb=>by simp[hb],h5,fun b hb=>by simp[hb]⟩
 | .fork _ _ _ _ l r,tb,h=>by
  obtain⟨kv,nv,fb,vv,lb,rb,h0,h1,h2,h3,h4,h5,h6⟩:=h;obtain⟨Bl,hl⟩:=TwV.m h5;obtain⟨Br,hr⟩:=TwV.m h6;exact⟨_,kv,nv,fb,vv,lb,rb,(qQb nv).toList,Bl,Br,rfl,h1,h2,h3,fun b hb=>by simp[hb],hl,hr⟩
structure AgE (w:World) (ab wb yb gb:Nat) (wd:Int) (av kv:Value) (mb:Nat):Prop where
 a:w.heap[ab]?=some (.cells #[av] 91 (0,0))
 d:w.heap[wb]?=some (.cells #[.int .i64 wd] 3 (0,0))
 y:w.heap[yb]?=some (.cells #[kv,.map (some mb)] 111 (0,0))
 g:w.heap[gb]?=some (.cells #[.func (.func 96) #[] #[pt ab 0,pt wb 0,pt yb 0,pt gb 0]] 170 (0,0))
theorem AgE.fr {ab wb yb gb:Nat}{mb:Nat}(h:AgE w ab wb yb gb wd av kv mb)(k:Fr F w w')(h1:¬ F ab)(h2:¬ F wb)(h3:¬ F yb)(h4:¬ F gb):AgE w' ab wb yb gb wd av kv mb :=
 ⟨k.at h.a h1,k.at h.d h2,k.at h.y h3,k.at h.g h4⟩
def AtO (u w:World)(X:Nat→Prop)(v:Value):Option vS→Prop
 | none=>v=.pointer none
 | some t=>∃ tb A,v=pt tb 0∧TwM u w tb t A∧t.Ok∧t.top=256∧∀ b ∈ A,¬ X b
theorem AtO.fr {o:Option vS}(h:AtO u w X v o)(k:Fr F w w')(hf:∀ b,F b→X b):AtO u w' X v o:=by
 cases o with
 | none=>exact h
 | some t =>
  obtain⟨tb,A,h1,h2,h3,h4,h5⟩:=h;exact⟨tb,A,h1,h2.fr k fun b hb hF=>h5 b hb (hf b hF),h3,h4,h5⟩
theorem AtO.mono {X X':Nat→Prop}{o:Option vS}(h:AtO u w X v o)(hx:∀ b,X' b→X b):AtO u w X' v o:=by
 cases o with
 | none=>exact h
 | some t =>
  obtain⟨tb,A,h1,h2,h3,h4,h5⟩:=h;exact⟨tb,A,h1,h2,h3,h4,fun b hb hX=>h5 b hb (hx b hX)⟩
theorem AtO.o {u w:World}{X:Nat→Prop}{v:Value}{o:Option vS}(h:AtO u w X v o){g:Nat}(hg:g≤256):TwO u w g v o:=by
 cases o with
 | none=>exact h
 | some t =>
  obtain⟨tb,A,h1,h2,h3,h4,h5⟩:=h;exact⟨tb,A,h1,h2,h3,by omega⟩
theorem BeO.ok {o:Option vS}(h:AtO u w X v o)(hg:g<256){p:vS}(hp:(o.bind fun t=>kS t k g)=some p):p.Ok:=by
 cases o with
 | none=>cases hp
 | some t =>
  obtain⟨tb,A,h1,h2,h3,h4,h5⟩:=h;exact Wit.bes_ok hg h3 (by omega) hp
section
variable (u:World) (wd:Int) (cs:List Bat.Ch) (tt:Option vS) (av kv:Value) (mb ab wb yb gb:Nat)
def AgP (t:vS):Prop:=∀ (w0:World) (tb:Nat) (B:List Nat),No u w0→AgE w0 ab wb yb gb wd av kv mb→(ab ∉ B∧wb ∉ B∧yb ∉ B∧gb ∉ B)→AtO u w0 (fun b=>b ∈ B) av tt→TwM u w0 tb t B→B.Nodup→(∀ b ∈ B,u.heap.size≤b)→t.Ok →
 Fn prog 96 #[pt tb 0,pt ab 0,pt wb 0,pt yb 0,pt gb 0] w0 fun _ w'=>Fr (fun b=>b ∈ B) w0 w'∧TwV u w' (fun b=>b ∈ B∨b<u.heap.size) tb (Wit.rnw wd (rG (cs.map rV)) tt t)
def agI (w0:World)(tb:Nat)(t:vS)(nv:Value)(n:Nat)(vs:List Value)(w:World):Prop :=
 ∃ i:Nat,vs=[pt tb 0,pt ab 0,pt wb 0,pt yb 0,pt gb 0,.int .i64 (t.near.length:Nat),.int .i64 (i:Nat)]∧i≤t.near.length∧n=t.near.length - i ∧
  NwD wE w 23 nv (Wit.rnI wd (rG (cs.map rV)) tt t.key t.fr t.near i)∧Fr (fun b=>qQb nv=some b) w0 w
theorem again1 (htu:Tabs u)(ho:one kv=true)(hM:TurnM u mb cs)(hok:∀ c ∈ cs, c.Ok)(t:vS)
  (hrec:∀ ks f top near l r,t=.fork ks f top near l r→AgP u wd cs tt av kv mb ab wb yb gb l∧AgP u wd cs tt av kv mb ab wb yb gb r):AgP u wd cs tt av kv mb ab wb yb gb t:=by
 intro w0 tb B hu hE hB hA hT hnd hbd tok;refine go96 (by simp) ?_
 have hcell:∃ kv' a cap fb vv lp rp,w0.heap[tb]?=some (.cells (twC kv' t.fr t.top (.slice a t.near.length cap) fb vv lp rp) 96 (0,0))∧RdD u kv' t.keys∧NwD wE w0 23 (.slice a t.near.length cap) t.near∧tb ∈ B∧(∀ b,qQb (.slice a t.near.length cap)=some b→b ∈ B∧b≠tb):=by
  cases t with
  | leaf k' top near a =>
   obtain⟨kv',nv,vv,Bn,Bv,rfl,t0,hkv,hn,hbn,hv,_⟩:=id hT;obtain⟨na,cap,rfl,hc⟩:=hn.rd.slice;refine⟨_,_,_,_,_,_,_,t0,hkv,hn,by simp,fun b hb=>⟨by simp[hbn b hb],fun e=>?_⟩⟩;subst e;exact (List.nodup_cons.1 hnd).1 (by simp[hbn _ hb])
  | fork ks f top near l r =>
   obtain⟨kv',nv,fb,vv,lb,rb,Bn,Bl,Br,rfl,t0,hkv,hn,hbn,_⟩:=id hT;obtain⟨na,cap,rfl,hc⟩:=hn.rd.slice;refine⟨_,_,_,_,_,_,_,t0,hkv,hn,by simp,fun b hb=>⟨by simp[hbn b hb],fun e=>?_⟩⟩;subst e;exact (List.nodup_cons.1 hnd).1 (by simp[hbn _ hb])
 obtain⟨kv',na,ncap,fb,vv,lp,rp,t0,hkv,hn0,htb,hnb⟩:=hcell;have hfr:=tok.fr_le;have htp:=tok.top_le;have hnl:=tok.near_len;have hkp:=tok.keys_pos;have hkl:=tok.key_len;have r0:=qQk (P:=prog) t0;have hFB:∀ {w w':World},Fr (fun b=>qQb (.slice na t.near.length ncap)=some b) w w'→Fr (fun b=>b ∈ B) w w':=fun f=>f.mono fun b _ h=>(hnb b h).1;obtain⟨kb',ko,kc,rfl,_,_⟩:=hkv.pos hkp;simp -implicitDefEqProofs only[go_sem,vQ,gLa,gLz,gLs,Tryz.f96,r0,qQh];refine loopD [0,1,2,3,4,12,13] (agI wd cs tt ab wb yb gb w0 tb t (.slice na t.near.length ncap)) t.near.length ⟨0,rfl,by omega,rfl,by rw[Wit.rnI_zero];exact hn0,Fr.refl _ _⟩ ?_;rintro _ vs w ev ⟨i,rfl,hi,rfl,hN,fw⟩;have fB:=hFB fw;have hE2:=hE.fr fB hB.1 hB.2.1 hB.2.2.1 hB.2.2.2;have hA2:=hA.fr fB fun _ h=>h;have hu2:No u w:=hu.trans' fB fun b hb h=>by have:=hbd b h;omega
 have t2:=fw.at t0 fun h=>(hnb _ h).2 rfl
 have rk:∀ w',No w w'→rdO prog 34 w' kb' ko=some (dg t.key):=fun w' f=>by
  have:=(hkv.fr0 (hu2.trans f)).get (P:=prog) agg34 sz34 (i:=0) hkp;rw[jC,jE,← qZr]at this;exact this
 have y1:(0:Int)<((t.keys.length:Nat):Int):=by omega
 by_cases hlt:i<t.near.length
 ·have d1:=dTo ((i:Int)<((t.near.length:Nat):Int))
  have c1:=iSu (i:=i);have c2:IntKind.i64.wrap (((t.fr:Nat):Int)+(i:Int))=((t.fr+i:Nat):Int):=qXd;have ra:=qXx (P:=prog) (t:=91) (w:=w.drew) (b:=ab) (o:=0) agg91 hE2.a rfl;have r2d:∀ t' o,rdO prog t' w.drew tb o=ldO prog t' (some (.cells (twC (.slice (some ⟨kb',ko,.none⟩) t.keys.length kc) t.fr t.top (.slice na t.near.length ncap) fb vv lp rp) 96 (0,0))) o:=qQk (P:=prog) (w:=w.drew) t2;have fd:No w w.drew:=(Fr.refl _ _).drew;have rkd:=rk w.drew fd;simp -implicitDefEqProofs only[go_sem,jU,jF,gLa,gLz,gLs,d1,ra,r2d,qQh,y1,rU,and_self,if_true,vP,jC,rkd,c2];have hg:t.fr+i<256:=by omega
  refine qQa pl97 ((beside u w.drew w.drew ((hA2.fr (fd.mono fun _ _ h=>h.elim) fun _ h=>h).o (g:=t.fr+i) (by omega)) (hu2.trans fd) (Fr.refl _ _) hkl hg).mono ?_);rintro v w3 ⟨f3,h3⟩;have f23:No w w3:=fd.trans f3;have hN3:=hN.fr0 f23
  cases hbe:(tt.bind fun t'=>kS t' t.key (t.fr+i)) with
  | none =>
   rw[hbe]at h3;obtain rfl:v=.pointer none:=h3;simp -implicitDefEqProofs only[go_sem,jU,c1];exact⟨t.near.length - (i+1),by omega,i+1,rfl,by omega,rfl,by rw[← Wit.rnI_same hlt hbe];exact hN3,fw.trans (f23.mono fun _ _ h=>h.elim)⟩
  | some p =>
   rw[hbe]at h3;obtain⟨pb,Bp,rfl,hP⟩:=h3;have pok:=BeO.ok hA2 hg hbe;have hE3:=hE2.fr f23 id id id id;have t3:=f23.at t2 id;simp -implicitDefEqProofs only[go_sem,jU];refine qXk (fun j=>j == 9) [0,1,2,3,4,5,6,7,8,9,10,11] rfl (by kernel_rfl) (by kernel_rfl) ?_;have r3:∀ t' o,rdO prog t' w3.drew tb o=ldO prog t' (some (.cells (twC (.slice (some ⟨kb',ko,.none⟩) t.keys.length kc) t.fr t.top (.slice na t.near.length ncap) fb vv lp rp) 96 (0,0))) o:=qQk (P:=prog) (w:=w3.drew) t3;have rw3:=qXx (P:=prog) (t:=3) (w:=w3.drew) (b:=wb) (o:=0) agg3 hE3.d rfl;have ry3:rdO prog 111 w3.drew yb 0=some (.agg #[kv,.map (some mb)]):=qXp agg111 sz111 (w:=w3.drew) hE3.y;have f3d:No w w3.drew:=f23.drew
   obtain⟨nb,no,rfl⟩:∃ nb no,na=some ⟨nb,no,.none⟩:=by
    obtain⟨b,o,cap,e,_⟩:=hn0.rd.pos (by omega);cases e;exact⟨b,o,rfl⟩
   simp -implicitDefEqProofs only[go_sem,jU,jF,gLa,gLz,gLs,r3,qQh,rw3,ry3];refine qQn pl60 ((hashed u w3.drew (htu.no (hu2.trans f3d)) wd (saysF w3.drew ho (hM.fr0 (hu2.trans f3d)) hok) (hP.fr0 (Fr.refl _ _).drew) pok (hu2.trans f3d)).mono ?_);rintro _ w5 ⟨rfl,f5⟩;refine⟨fun _=>Fr.ext f5,?_⟩;have f25:=f3d.trans f5;have dl:(vA wd (rG (cs.map rV)) p).length=32:=Wit.dig_len _ _ _;obtain⟨w6,q6,n6,f6⟩:=(hN.fr0 f25).set (P:=prog) (t:=23) sz23 (i:=i) (d:=vA wd (rG (cs.map rV)) p) (by rw[Wit.rnI_len];exact hlt) dl;have y2:=iBd (i:=i) (n:=t.near.length);have e1:Wit.rn1 wd (rG (cs.map rV)) tt t.key (t.fr+i) (t.near.getD i [])=vA wd (rG (cs.map rV)) p:=by unfold Wit.rn1;rw[hbe]
   simp -implicitDefEqProofs only[go_sem,jU,jF,gLa,gLz,gLs,y2,and_self,if_true,iTn,q6,c1];exact⟨t.near.length - (i+1),by omega,i+1,rfl,by omega,rfl,by rw[← Wit.rnI_set hlt,e1];exact n6,(fw.trans (f25.mono fun _ _ h=>h.elim)).trans (f6.mono fun b _ h=>by rw[h];rfl)⟩
 ·have d1:=dFo ((i:Int)<((t.near.length:Nat):Int))
  obtain rfl:i=t.near.length:=by omega
  rw[Wit.rnI_all]at hN;have r2:=qQk (P:=prog) t2;have fd:No w w.drew:=(Fr.refl _ _).drew
  cases t with
  | leaf k' top near a =>
   obtain⟨kv1,nv1,vv1,Bn,Bv,rfl,t1,_,_,hb4,hv,hb6⟩:=id hT;have e:=t1.symm.trans t0;simp only[twC,oSi,Obj.cells.injEq,Array.mk.injEq,List.cons.injEq,and_true]at e;obtain⟨rfl,_,_,rfl,rfl,rfl,rfl,rfl⟩:=e;clear t1;obtain⟨hn1,hn2⟩:=List.nodup_cons.1 hnd;obtain⟨_,_,hn4⟩:=List.nodup_append.1 hn2
   have hvt:∀ b,qQb vv1=some b→b≠tb∧b ∈ Bv:=fun b hb=>⟨fun e=>hn1 (by rw[← e];exact List.mem_append.2 (.inr (hb6 b hb))),hb6 b hb⟩
   have hvw:By w vv1 (a.getD []):=hv.fr fw fun b hb _ h=>hn4 b (hb4 b h) b (hb6 b hb) rfl;have t2:w.heap[tb]?=some (.cells (twC (.slice (some ⟨kb',ko,.none⟩) 1 kc) 0 top (.slice na near.length ncap) (.bool a.isSome) vv1 (.pointer none) (.pointer none)) 96 (0,0)):=t2;have r2:=qQk (P:=prog) t2;have r2d:∀ t' o,rdO prog t' w.drew tb o=ldO prog t' (some (.cells (twC (.slice (some ⟨kb',ko,.none⟩) 1 kc) 0 top (.slice na near.length ncap) (.bool a.isSome) vv1 (.pointer none) (.pointer none)) 96 (0,0))) o:=r2
   have lA:ldO prog 69 (some (.cells (twC (.slice (some ⟨kb',ko,.none⟩) 1 kc) 0 top (.slice na near.length ncap) (.bool a.isSome) vv1 (.pointer none) (.pointer none)) 96 (0,0))) 4=some (.agg #[.bool a.isSome,vv1]):=by
    rw[qJe agg69 sz69 (by simp)];rfl
   have ry:rdO prog 111 w.drew yb 0=some (.agg #[kv,.map (some mb)]):=qXp agg111 sz111 (w:=w.drew) hE2.y;have rkd:rdO prog 34 w.drew kb' ko=some (dg k'):=rk w.drew fd;have y1:(0:Int)<((1:Nat):Int):=by decide
   simp -implicitDefEqProofs only[go_sem,jU,jF,gLa,gLz,gLs,d1,r2,r2d,qQh,lA,ry,rkd,y1,rU,and_self,if_true,vP,jC];refine qQa pl61 ((saysG u ho hM hok w.drew w.drew k' _ a (hu2.trans fd) (Fr.refl _ _) hkl ⟨vv1,rfl,hv.one,hvw.fr0 fd⟩).mono ?_);rintro v3 w3 ⟨f3,h3⟩;have f23:No w w3:=fd.trans f3
   have hfin:∃ vv',v3=.agg #[.bool (rG (cs.map rV) k' a).isSome,vv']∧one vv'=true∧By w3 vv' ((rG (cs.map rV) k' a).getD [])∧((rG (cs.map rV) k' a).getD []≠[]→∀ b,qQb vv'=some b→b≠tb∧(b ∈ tb::(Bn++Bv)∨b<u.heap.size)):=by
    have says:rG (cs.map rV) k' a=match Wit.findC (cs.map rV) k' with | none=>a | some c=>c.ans:=rfl
    rw[says];unfold SyG at h3
    cases hf:Wit.findC (cs.map rV) k' with
    | none =>
     rw[hf]at h3;subst h3;exact⟨vv1,rfl,hv.one,hvw.fr0 f23,fun _ b hb=>⟨(hvt b hb).1,.inl (by simp[(hvt b hb).2])⟩⟩
    | some c =>
     rw[hf]at h3;obtain⟨vv',rfl,o,y⟩:=h3;exact⟨vv',rfl,o,y.fr0 (hu2.trans f23),fun hn b hb=>⟨fun e=>by have:=y.blkn hn hb;have:=hbd tb (by simp);omega,.inr (y.blkn hn hb)⟩⟩
   clear h3;obtain⟨vv',rfl,o3,y3,b3⟩:=hfin;have t3:=f23.at t2 id
   have q3:wrO prog 69 w3 tb 4 (.agg #[.bool (rG (cs.map rV) k' a).isSome,vv'])=some (put w3 tb (.cells (twC (.slice (some ⟨kb',ko,.none⟩) 1 kc) 0 top (.slice na near.length ncap) (.bool (rG (cs.map rV) k' a).isSome) vv' (.pointer none) (.pointer none)) 96 (0,0))):=by
    rw[qZi t3,stO_agg sz69 (by rw[← Array.all_toList];simp only[List.all_cons,List.all_nil,o3];rfl) (by simp)];rfl
   have t4:=qQf (o:=.cells (twC (.slice (some ⟨kb',ko,.none⟩) 1 kc) 0 top (.slice na near.length ncap) (.bool (rG (cs.map rV) k' a).isSome) vv' (.pointer none) (.pointer none)) 96 (0,0)) t3;have f4:Fr (fun b=>b=tb) w3 (put w3 tb (.cells (twC (.slice (some ⟨kb',ko,.none⟩) 1 kc) 0 top (.slice na near.length ncap) (.bool (rG (cs.map rV) k' a).isSome) vv' (.pointer none) (.pointer none)) 96 (0,0))):=(Fr.refl _ _).put (b:=tb) _ fun _=>rfl;simp -implicitDefEqProofs only[go_sem,jU,q3];exact⟨(fB.trans (f23.mono fun _ _ h=>h.elim)).trans (f4.mono fun b _ h=>by rw[h];exact htb),_,_,vv',.inl htb,t4,hkv,(hN.fr0 f23).fr f4 (fun b hb=>(hnb b hb).2),fun b hb=>.inl (hnb b hb).1,y3.frn f4 (fun hn b hb=>(b3 hn b hb).1),fun hn b hb=>(b3 hn b hb).2⟩
  | fork ks f top near l r =>
   obtain⟨kv1,nv1,fb1,vv1,lb,rb,Bn,Bl,Br,rfl,t1,_,_,hb4,hL,hR⟩:=id hT;have e:=t1.symm.trans t0;simp only[twC,oSi,Obj.cells.injEq,Array.mk.injEq,List.cons.injEq,and_true]at e;obtain⟨rfl,_,_,rfl,rfl,rfl,rfl,rfl⟩:=e;clear t1;obtain⟨hn1,hn2⟩:=List.nodup_cons.1 hnd;obtain⟨_,hn3,hn4⟩:=List.nodup_append.1 hn2;obtain⟨ndl,ndr,hn5⟩:=List.nodup_append.1 hn3;have inL:∀ b ∈ Bl,b ∈ tb::(Bn++(Bl++Br)):=fun b h=>by simp[h]
   have inR:∀ b ∈ Br,b ∈ tb::(Bn++(Bl++Br)):=fun b h=>by simp[h]
   have tnL:tb ∉ Bl:=fun h=>hn1 (by simp[h]);have tnR:tb ∉ Br:=fun h=>hn1 (by simp[h]);have okl:=tok.2.2.2.2.2.2.2.2.2.2.2.2.1;have okr:=tok.2.2.2.2.2.2.2.2.2.2.2.2.2;have hL2:=hL.fr fw fun b hb h=>hn4 b (hb4 b h) b (List.mem_append.2 (.inl hb)) rfl;have hR2:=hR.fr fw fun b hb h=>hn4 b (hb4 b h) b (List.mem_append.2 (.inr hb)) rfl;have t2:w.heap[tb]?=some (.cells (twC (.slice (some ⟨kb',ko,.none⟩) ks.length kc) f top (.slice na near.length ncap) fb1 vv1 (pt lb 0) (pt rb 0)) 96 (0,0)):=t2;have r2:=qQk (P:=prog) t2;have r2d:∀ t' o,rdO prog t' w.drew tb o=ldO prog t' (some (.cells (twC (.slice (some ⟨kb',ko,.none⟩) ks.length kc) f top (.slice na near.length ncap) fb1 vv1 (pt lb 0) (pt rb 0)) 96 (0,0))) o:=r2;have rg:=qXx (P:=prog) (t:=170) (w:=w.drew) (b:=gb) (o:=0) agg170 hE2.g rfl;simp -implicitDefEqProofs only[go_sem,jU,jF,gLa,gLz,gLs,d1,r2,r2d,qQh,rg];refine qQa pl96 ?_;rw[args14];refine ((hrec _ _ _ _ _ _ rfl).1 w.drew lb Bl (hu2.trans fd) (hE2.fr fd id id id id) ⟨fun h=>hB.1 (inL _ h),fun h=>hB.2.1 (inL _ h),fun h=>hB.2.2.1 (inL _ h),fun h=>hB.2.2.2 (inL _ h)⟩ ((hA2.fr (fd.mono fun _ _ h=>h.elim) fun _ h=>h).mono inL) (hL2.fr0 fd) ndl (fun b hb=>hbd b (inL b hb)) okl).mono ?_;rintro _ w4 ⟨f4,v4⟩;have f24:Fr (fun b=>b ∈ Bl) w w4:=(fd.mono fun _ _ h=>h.elim).trans f4;have hu4:No u w4:=hu2.trans' f24 fun b hb h=>by have:=hbd b (inL b h);omega
   have hE4:=hE2.fr f24 (fun h=>hB.1 (inL _ h)) (fun h=>hB.2.1 (inL _ h)) (fun h=>hB.2.2.1 (inL _ h)) (fun h=>hB.2.2.2 (inL _ h));have hA4:=hA2.fr f24 inL;have t4:=f24.at t2 tnL;have hR4:=hR2.fr f24 fun b hb h=>hn5 b h b hb rfl;have r4d:∀ t' o,rdO prog t' w4.drew tb o=ldO prog t' (some (.cells (twC (.slice (some ⟨kb',ko,.none⟩) ks.length kc) f top (.slice na near.length ncap) fb1 vv1 (pt lb 0) (pt rb 0)) 96 (0,0))) o:=qQk (P:=prog) (w:=w4.drew) t4;have rg4:=qXx (P:=prog) (t:=170) (w:=w4.drew) (b:=gb) (o:=0) agg170 hE4.g rfl;have fd4:No w4 w4.drew:=(Fr.refl _ _).drew;simp -implicitDefEqProofs only[go_sem,jU,jF,gLa,gLz,gLs,r4d,qQh,rg4];refine qQa pl96 ?_;rw[args14];refine ((hrec _ _ _ _ _ _ rfl).2 w4.drew rb Br (hu4.trans fd4) (hE4.fr fd4 id id id id) ⟨fun h=>hB.1 (inR _ h),fun h=>hB.2.1 (inR _ h),fun h=>hB.2.2.1 (inR _ h),fun h=>hB.2.2.2 (inR _ h)⟩ ((hA4.fr (fd4.mono fun _ _ h=>h.elim) fun _ h=>h).mono inR) (hR4.fr0 fd4) ndr (fun b hb=>hbd b (inR b hb)) okr).mono ?_;rintro _ w5 ⟨f5,v5⟩;have f45:Fr (fun b=>b ∈ Br) w4 w5:=(fd4.mono fun _ _ h=>h.elim).trans f5;simp -implicitDefEqProofs only[go_sem];have t5:=f45.at t4 tnR
   have nb4:∀ b,qQb (.slice na near.length ncap)=some b→b ∉ Bl∧b ∉ Br:=fun b hb=>⟨fun h=>hn4 b (hb4 b hb) b (List.mem_append.2 (.inl h)) rfl,fun h=>hn4 b (hb4 b hb) b (List.mem_append.2 (.inr h)) rfl⟩
   exact⟨(fB.trans (f24.mono fun b _ h=>inL b h)).trans (f45.mono fun b _ h=>inR b h),_,_,fb1,vv1,lb,rb,.inl htb,t5,hkv,(hN.fr f24 fun b hb=>(nb4 b hb).1).fr f45 (fun b hb=>(nb4 b hb).2),fun b hb=>.inl (hnb b hb).1,
    (v4.fr f45 fun b hb h=>by rcases hb with hb | hb;exact hn5 b hb b h rfl;have:=hbd b (inR b h);omega).mono (fun b hb=>hb.imp (inL b) id),v5.mono fun b hb=>hb.imp (inR b) id⟩
theorem again (htu:Tabs u)(ho:one kv=true)(hM:TurnM u mb cs)(hok:∀ c ∈ cs,c.Ok):∀ t:vS,AgP u wd cs tt av kv mb ab wb yb gb t
 | .leaf _ _ _ _=>again1 u wd cs tt av kv mb ab wb yb gb htu ho hM hok _ (fun _ _ _ _ _ _ h=>by cases h)
 | .fork _ _ _ _ l r=>again1 u wd cs tt av kv mb ab wb yb gb htu ho hM hok _ (fun _ _ _ _ _ _ h=>by cases h;exact⟨again htu ho hM hok l,again htu ho hM hok r⟩)
end
end
namespace R
def BtQ (w0:World)(y:Except Int (List Bat.Ch))(r:Value)(w':World):Prop:=No w0 w'∧match y with
 | .error e=>r=.tuple #[.slice .none 0 0,.slice .none 0 0,.int .i64 e]
 | .ok cs=>∃ v kv l,r=.tuple #[v,kv,.int .i64 0]∧ChR w' v l∧l.Perm cs∧RdD w' kv (Wit.srt (cs.map Bat.Ch.key))
def bhI (w0:World)(v:Value)(l:List Bat.Ch)(n:Nat)(vs:List Value)(w:World):Prop :=
 ∃ (i:Nat) (kv:Value),vs=[v,kv,.int .i64 (i:Nat)]∧i≤l.length∧n=l.length - i∧NwD w0 w 34 kv ((l.map Bat.Ch.key).take i)∧No w0 w
theorem batch (w0:World){s:Bs}(hr:By w0 rv s)(hl:s.length≤2 ^ 50):Fn prog 84 #[rv] w0 (BtQ w0 (Bat.parseP s)):=by
 refine go84 (by simp) ?_;simp -implicitDefEqProofs only[go_sem,jU,Tryz.f84];refine qQa pl138 ((parse3 w0 hr hl).mono ?_);rintro _ w2 ⟨f2,v,i,e,rfl,hm⟩;unfold BtQ
 cases hp:Bat.parseP s with
 | error e' =>
  rw[hp]at hm;obtain rfl:e=e':=hm;have he0:(e != 0)=true:=by rw[bne_iff_ne];exact Wit.parseP_err hp
  simp -implicitDefEqProofs only[go_sem,jU,gLa,gLz,gLs,he0];exact⟨f2,trivial⟩
 | ok cs =>
  rw[hp]at hm;obtain⟨rfl,hC⟩:=hm;obtain⟨h64,hok,hnd⟩:=Bat.parseP_ok hp;simp -implicitDefEqProofs only[go_sem,jU,gLa,gLz,gLs,bNe];refine qQa pl139 ((normal3 w2 hC.rd hok hnd h64).mono ?_);rintro _ w3 ⟨f3,lv,l,rfl,hL,hpm,hs⟩;have f03:=f2.trans f3;have hk:=Bat.srt_keys hpm (fun c hc=>(hok c hc).1) hnd hs;have hll:=hpm.length_eq;obtain⟨la,lc,rfl,hlc⟩:=hL.slice;simp -implicitDefEqProofs only[go_sem,jU,gLa,gLz,gLs];refine loopD [5,8,9] (bhI w3 (.slice la l.length lc) l) l.length ⟨0,_,rfl,by omega,rfl,NwD.nil _ _ _,Fr.refl _ _⟩ ?_;rintro _ vs w4 g ⟨j,kv,rfl,hj,rfl,b4,f4⟩
  by_cases hlt:j<l.length
  ·have d1:=dTo ((j:Int)<((l.length:Nat):Int))
   have y1:=iBd (i:=j) (n:=l.length);have c1:=iSu (i:=j);obtain⟨b1,o1,c1',v1,e1,_,_,_,hk1,hr1⟩:=hL.at hlt;cases e1;obtain⟨_,r1,_,_⟩:=hr1 w4 f4;have hst:(l.map Bat.Ch.key).take (j+1)=(l.map Bat.Ch.key).take j++[l[j].key]:=by rw[tSg (by simpa using hlt)];simp
   generalize l[j].key=d at *;simp -implicitDefEqProofs only[go_sem,jU,gLa,gLz,y1,and_self,iTn,jE,r1];refine qQj (v:=.slice (some ⟨w4.heap.size,0,.none⟩) 1 1) (w':=w4.alloc (.cells (bl d) 34)) (qXm (y:=List.map u8 (zF 32 0)) (by simp) (c:=bl (zF 32 0)) (by simp) (d:=d) hk1 _) ?_;obtain⟨v5,w5,hr5,b5,f5,g5,h5⟩:=b4.push app24_24 hk1 (by rw[lTk,List.length_map];omega) f4;rw[← hst]at b5;simp -implicitDefEqProofs only[go_sem,jU];refine qQg ⟨v5,w5,hr5,?_⟩;simp -implicitDefEqProofs only[go_sem,jU,c1];exact⟨l.length - (j+1),by omega,j+1,v5,rfl,by omega,rfl,b5,f5⟩
  ·have d1:=dFo ((j:Int)<((l.length:Nat):Int))
   obtain rfl:j=l.length:=by omega
   rw[show l.length=(l.map Bat.Ch.key).length by simp,List.take_length,hk]at b4;simp -implicitDefEqProofs only[go_sem,jU,gLa,gLz,d1];exact⟨f03.trans f4,_,_,l,rfl,hL.fr0 f4,hpm,b4.rd⟩
end R
theorem bldD0:bldO prog 23 []=some (dg (zF 32 0)):=by kernel_rfl
namespace Wit
theorem underP_err {root:Bs}{e:Int}(h:underP wd root ks raw=.error e):e≠0:=by
 unfold underP at h;split at h
 ·rename_i e' hf
  simp only[Except.error.injEq]at h;subst h;have:=form_err hf
  rwa [bFn]at this
 ·cases h
 ·split at h
  ·cases h
  ·simp only[Except.error.injEq]at h;subst h;decide
theorem dig_len' (wd:Int)(says:Says)(t:Tw):(dig wd says t).length=32:=dig_len wd says t
end Wit
theorem ChR.csR {l:List Bat.Ch}(h:ChR w v l):R.CsR w v (l.map rV):=by
 obtain⟨rows,h1,h2,h3⟩:=h;refine⟨rows,h1,by simp[h2],fun i a b=>?_⟩;have hi:i<l.length:=by simpa using b
 obtain⟨vv,e1,e2,e3,_,e5⟩:=h3 i a hi;simp only[List.getElem_map];exact⟨vv,e1,e5,e2,e3⟩
namespace R
end R
theorem allocV (w:World){ty:TypeId}(hz:szO prog ty=some 1)(z:Value)(hv:one v=true):∃ W, wrO prog ty (w.alloc (.cells #[z] ty)) w.heap.size 0 v=some W ∧
  W.heap[w.heap.size]?=some (.cells #[v] ty (0,0))∧No w W∧W.heap.size=w.heap.size+1:=by
 have k:=qQc w (.cells #[z] ty);refine⟨put (w.alloc (.cells #[z] ty)) w.heap.size (.cells #[v] ty (0,0)),qZw hz k hv (by simp),qQf k,((Fr.refl _ _).alloc _).put (b:=w.heap.size) _ fun h=>absurd h (Nat.lt_irrefl _),?_⟩;simp[put]
theorem renewW (w0:World)(ht:Tabs w0)(wd:Int){root:Bs}(hroot:root.length=32){kv rv av cv:Value}{raw rawAt cs:Bs}(hk:RdD w0 kv ks)(hr:By w0 rv raw)(ha:By w0 av rawAt)(hc:By w0 cv cs)(hcl:cs.length≤2 ^ 50) :
  Fn prog 55 #[.int .i64 wd,dg root,kv,rv,av,cv] w0 (BsQ w0 (Wit.renewP wd root ks raw rawAt cs)):=by
 refine go55 (by simp) ?_;obtain⟨W,hW,f1,k1,k2,s1⟩:=qKp w0 #[.int .i64 wd] 3 (bl root) 23;have rw1:∀ w,No W w→rdO prog 3 w w0.heap.size 0=some (.int .i64 wd):=fun w f=>qXx agg3 (f.at k1 id) rfl;have rr1:∀ w,No W w→rdO prog 23 w (w0.heap.size+1) 0=some (dg root):=fun w f=>rd_d agg23 sz23 (f.at k2 id) hroot;have r1:=rw1 W (Fr.refl _ _);simp -implicitDefEqProofs only[go_sem,jU,vQ,Tryz.f55,jB,hW,r1];refine qQa pl46 ((sorted W wd (hk.fr0 f1)).mono ?_);rintro r w2 ⟨f2,h2⟩;have f02:=f1.trans f2;unfold BsQ Wit.renewP
 cases hs:Wit.sortW wd ks with
 | error e =>
  rw[hs]at h2;subst h2;have he:=sortW_err hs;simp -implicitDefEqProofs only[go_sem,jU,gLa,gLz,gLs,he];exact⟨f02,trivial⟩
 | ok l =>
 rw[hs]at h2;obtain⟨lv,rfl,n2⟩:=h2;obtain⟨hse,_,_⟩:=Wit.sortW_ok hs;obtain⟨asc,l32,hlen,hl64,hperm⟩:=Wit.sortE_ok hk.1 hse;simp -implicitDefEqProofs only[go_sem,jU,gLa,gLz,gLs,bNe];refine qQa pl59 ((parsed w2 (hc.fr0 f02) hcl).mono ?_);rintro r w3 ⟨f3,hm⟩;have f03:=f02.trans f3;have fW3:=f2.trans f3;obtain⟨W4,hW4,f4,k4,s4⟩:=qQr w3 #[.slice .none 0 0,.map .none] 111
 have st:∀ a b:Value,one a=true→one b=true→∃ w5,wrO prog 111 W4 w3.heap.size 0 (.agg #[a,b])=some w5∧w5.heap[w3.heap.size]?=some (.cells #[a,b] 111 (0,0))∧No w3 w5:=fun a b ha hb =>
  ⟨put W4 w3.heap.size (.cells #[a,b] 111 (0,0)),qQt (vs:=#[a,b]) sz111 k4 rfl (by rw[← Array.all_toList];simp only[List.all_cons,List.all_nil,ha,hb];rfl),qQf (o:=.cells #[a,b] 111 (0,0)) k4,f4.put (b:=w3.heap.size) _ fun h=>absurd h (Nat.lt_irrefl _)⟩
 cases hp:Bat.parseP cs with
 | error e =>
  rw[hp]at hm;subst hm;have he0:(e != 0)=true:=by rw[bne_iff_ne];exact Wit.parseP_err hp
  obtain⟨w5,q5,k5,f5⟩:=st (.slice .none 0 0) (.map .none) rfl rfl;simp -implicitDefEqProofs only[go_sem,jU,gLa,gLz,gLs,hW4,jB,q5,he0];exact⟨f03.trans f5,trivial⟩
 | ok cs' =>
 rw[hp]at hm;obtain⟨tv0,mb,rfl,hko,hK,hM⟩:=hm;obtain⟨h64,hok,hnd⟩:=Bat.parseP_ok hp;have h32:=Wit.ok_keys hok;have hasc:=Wit.srt_asc h32 hnd;have hsl:(Wit.srt (cs'.map Bat.Ch.key)).length≤64:=by rw[Wit.srt_len];simpa using h64
 obtain⟨ks',hks⟩:∃ ks',ks'=Wit.srt (cs'.map Bat.Ch.key):=⟨_,rfl⟩
 rw[← hks]at hasc hsl hK;simp only[← hks];obtain⟨w5,q5,k5,f5⟩:=st tv0 (.map (some mb)) hko rfl;have f05:=f03.trans f5;have fW5:=fW3.trans f5;have r5:=rw1 w5 fW5;have rr5:=rr1 w5 fW5;simp -implicitDefEqProofs only[go_sem,jU,gLa,gLz,gLs,hW4,jB,q5,r5,rr5,bNe];refine qQa pl47 ((underK w5 w5 (Fr.refl _ _) (ht.no f05) wd hroot (n2.rd.fr0 (f3.trans f5)) (hr.fr0 f05) asc hl64).mono ?_);rintro r w6 ⟨f6,h6⟩;have f06:=f05.trans f6;have fW6:=fW5.trans f6
 cases hu:Wit.underP wd root l raw with
 | error e =>
  rw[hu]at h6;subst h6;have he0:(e != 0)=true:=by rw[bne_iff_ne];exact Wit.underP_err hu
  simp -implicitDefEqProofs only[go_sem,jU,gLa,gLz,gLs,he0];exact⟨f06,trivial⟩
 | ok o =>
 have key1:∃ tv,r=.tuple #[tv,.int .i64 0]∧(o=none→tv=.pointer none)∧∀ t,o=some t→TwK w5 w5 w6 tv t:=by
  rw[hu]at h6
  cases o with
  | none=>exact⟨_,h6,fun _=>rfl,fun t h=>by cases h⟩
  | some t=>obtain⟨tv,h,hX⟩:=h6;exact⟨tv,h,fun h=>(by cases h),fun t' h'=>by cases h';exact hX⟩
 clear h6;obtain⟨tv,rfl,hN1,hS1⟩:=key1;have r6:=rw1 w6 fW6;have rr6:=rr1 w6 fW6;have rk6:rdO prog 24 w6 w3.heap.size 0=some tv0:=rd1 agg24 (f6.at k5 id) rfl;simp -implicitDefEqProofs only[go_sem,jU,gLa,gLz,gLs,bNe,r6,rr6,rk6];refine qQa pl47 ((underK w5 w6 f6 (ht.no f06) wd hroot (hK.fr0 f5) (ha.fr0 f06) hasc hsl).mono ?_);rintro r w7 ⟨f7,h7⟩;have f07:=f06.trans f7;have fW7:=fW6.trans f7
 cases hv:Wit.underP wd root ks' rawAt with
 | error e =>
  rw[hv]at h7;subst h7;have he0:(e != 0)=true:=by rw[bne_iff_ne];exact Wit.underP_err hv
  obtain⟨w8,q8,k8,f8,s8⟩:=allocV w7 (ty:=91) sz91 (.pointer .none) (v:=.pointer .none) rfl;simp -implicitDefEqProofs only[go_sem,jU,gLa,gLz,gLs,he0,jB,q8];exact⟨f07.trans f8,trivial⟩
 | ok o2 =>
 have key2:∃ tv,r=.tuple #[tv,.int .i64 0]∧one tv=true∧(o2=none→tv=.pointer none)∧∀ t,o2=some t→TwK w5 w6 w7 tv t:=by
  rw[hv]at h7
  cases o2 with
  | none=>exact⟨_,h7,rfl,fun _=>rfl,fun t h=>by cases h⟩
  | some t=>obtain⟨tv,h,hX⟩:=h7;exact⟨tv,h,by obtain⟨tb,B,rfl,_⟩:=hX;rfl,fun h=>(by cases h),fun t' h'=>by cases h';exact hX⟩
 clear h7;obtain⟨tv2,rfl,ho2,hN2,hS2⟩:=key2;obtain⟨w8,q8,k8,f8,s8⟩:=allocV w7 (ty:=91) sz91 (.pointer .none) (v:=tv2) ho2;have f08:=f07.trans f8;have fW8:=fW7.trans f8
 cases o with
 | none =>
  obtain rfl:=hN1 rfl;simp -implicitDefEqProofs only[go_sem,jU,gLa,gLz,gLs,bNe,jB,q8];exact⟨f08,_,rfl,NwB.nil _ _⟩
 | some t =>
 obtain⟨tb,B,rfl,_,T6,ndB,bdB⟩:=hS1 t rfl;obtain⟨tok,tkeys,ttop,_⟩:=Wit.form_ok asc l32 (Wit.underP_ok hu).1;obtain⟨w9,q9,k9,f9,s9⟩:=allocV w8 (ty:=170) sz170 .nilFunc (v:=.func (.func 96) #[] #[pt w7.heap.size 0,pt w0.heap.size 0,pt w3.heap.size 0,pt w8.heap.size 0]) rfl;have f09:=f08.trans f9;have fW9:=fW8.trans f9;have rg9:=qXx (P:=prog) (t:=170) agg170 k9 (o:=0) rfl;simp -implicitDefEqProofs only[go_sem,jU,gLa,gLz,gLs,bNe,jB,q8,q9,rg9];refine qQa pl96 ?_;rw[args14];have f59:No w5 w9:=((f6.trans f7).trans f8).trans f9;have z05:=f05.size;have z56:=f6.size;have z67:=f7.size;have z3:w3.heap.size<w5.heap.size:=qQl k5;have zW:w0.heap.size+2≤w5.heap.size:=by have:=fW5.size;omega
 have hE:AgE w9 w7.heap.size w0.heap.size w3.heap.size w8.heap.size wd tv2 tv0 mb:=⟨f9.at k8 id,fW9.at k1 id,f59.at k5 id,k9⟩
 have hA:AtO w5 w9 (fun b=>b ∈ B) tv2 o2:=by
  cases o2 with
  | none=>exact hN2 rfl
  | some t2 =>
   obtain⟨ab,A,rfl,_,T7,_,bdA⟩:=hS2 t2 rfl;obtain⟨ok2,_,top2,_⟩:=Wit.form_ok hasc hK.1 (Wit.underP_ok hv).1;exact⟨ab,A,rfl,(T7.fr0 f8).fr0 f9,ok2,top2,fun b hb h=>by have:=bdA b hb;have:=bdB b h;omega⟩
 refine (again w5 wd cs' o2 tv2 tv0 mb w7.heap.size w0.heap.size w3.heap.size w8.heap.size (ht.no f05) hko (hM.fr0 f5) hok t w9 tb B f59 hE ⟨fun h=>by have:=bdB _ h;omega,fun h=>by have:=bdB _ h;omega,fun h=>by have:=bdB _ h;omega,fun h=>by have:=bdB _ h;omega⟩ hA (((T6.fr0 f7).fr0 f8).fr0 f9) ndB (fun b hb=>(bdB b hb).1) tok).mono ?_;rintro _ wa ⟨fa,va⟩;obtain⟨B',Ta⟩:=va.m;have f0a:No w0 wa:=f09.trans' fa fun b hb h=>by have:=bdB b h;omega
 have f5a:No w5 wa:=f59.trans' fa fun b hb h=>by have:=bdB b h;omega
 have rwa:rdO prog 3 wa w0.heap.size 0=some (.int .i64 wd):=qXx agg3 (f5a.at (fW5.at k1 id) id) rfl;simp -implicitDefEqProofs only[go_sem,jU,rwa];refine qQa pl69 ((laid w5 wa (ht.no f0a) wd Ta (Wit.rnw_ok (Wit.says_short hok) tok) (by rw[Wit.rnw_keys,tkeys];omega) f5a).mono ?_);rintro v wb ⟨nb,fb⟩;simp -implicitDefEqProofs only[go_sem,jU];exact⟨f0a.trans fb,v,rfl,nb.back f0a.size⟩
def flO (wd:Int):Option vS→List Wit.Tx
 | none=>[]
 | some t=>Wit.flatT wd 0 t
def suO:Option vS→List vS
 | none=>[]
 | some t=>Wit.subT t
def OkO (o:Option vS):Prop:=∀ t,o=some t→t.Ok∧t.top=256∧t.size≤2 ^ 40
theorem flO_len (wd:Int)(o:Option vS):(flO wd o).length=(suO o).length:=by
 cases o with
 | none=>rfl
 | some t=>exact (Wit.flatT_len wd t 0).trans (Wit.subT_len t).symm
theorem flO_le {o:Option vS}(h:OkO o):(flO wd o).length≤2 ^ 40:=by
 cases o with
 | none=>exact Nat.zero_le _
 | some t=>have:=(h t rfl).2.2;have e:=Wit.flatT_len wd t 0;show (Wit.flatT wd 0 t).length≤_;omega
theorem suO_at (wd:Int)(o:Option vS)(i:Nat)(h:i<(suO o).length):Wit.TxAt wd (flO wd o) i (suO o)[i]:=by
 cases o with
 | none=>exact absurd h (Nat.not_lt_zero _)
 | some t =>
  have hx:=Wit.sub_at wd t [] i h;rw[List.nil_append,List.length_nil,Nat.zero_add]at hx;exact hx
theorem suO_ok {o:Option vS}(h:OkO o):∀ s ∈ suO o,s.Ok:=by
 cases o with
 | none=>intro s hs;cases hs
 | some t=>exact Wit.sub_ok (h t rfl).1
theorem suO_find {o:Option vS}(h:OkO o)(hg:g<256):((suO o).find? (rH k g)).map (rF · g)=o.bind fun t=>kS t k g:=by
 cases o with
 | none=>rfl
 | some t=>exact Wit.bes_find hg (h t rfl).1 (by have:=(h t rfl).2.1;omega)
def PlQ (w0:World)(wd:Int)(cs:List Wit.Ch)(q:Option vS)(v:Value)(w':World):Prop:=No w0 w'∧match q with
 | none=>v=.tuple #[dg (zF 32 0),.bool false]
 | some p=>v=.tuple #[dg (vA wd (rG cs) p),.bool true]
def plcI (W:World)(wb kb cb g:Nat)(cv:Value)(k:Bs)(ss:List vS)(n:Nat)(vs:List Value)(w:World):Prop :=
 ∃ i:Nat,vs=[pt wb 0,.int .i64 (g:Nat),cv,pt kb 0,pt cb 0,.int .i64 (i:Nat)]∧i≤ss.length∧n=ss.length - i∧ss.find? (rH k g)=(ss.drop i).find? (rH k g)∧No W w
namespace R
theorem place (u w0:World)(ht:Tabs w0){o:Option vS}(hY:WtY u w0 wb wd (flO wd o))(ho:OkO o){cv:Value}{cs:List Wit.Ch}(hcs:CsR w0 cv cs)(hcl:ChL cs)(hk:k.length=32)(hg:g<256) :
  Fn prog 161 #[pt wb 0,dg k,.int .i64 (g:Nat),cv] w0 (PlQ w0 wd cs (o.bind fun t=>kS t k g)):=by
 refine go161 (by simp) ?_;obtain⟨W,hW,f1,k1,k2,s1⟩:=qKp w0 (bl k) 34 (bl (zF 32 0)) 23
 have fin:∀ (w:World) (d:Bs),No W w→d.length=32→wrO prog 23 w (w0.heap.size+1) 0 (dg d)=some (put w (w0.heap.size+1) (.cells (bl d) 23 (0,0)))∧rdO prog 23 (put w (w0.heap.size+1) (.cells (bl d) 23 (0,0))) (w0.heap.size+1) 0=some (dg d)∧No w0 (put w (w0.heap.size+1) (.cells (bl d) 23 (0,0))):=fun w d f hd =>
  ⟨wr_d sz23 (f.at k2 id) zl32 hd,rd_d agg23 sz23 (qQf (o:=.cells (bl d) 23 (0,0)) (f.at k2 id)) hd,(f1.trans f).put (b:=w0.heap.size+1) _ fun h=>by omega⟩
 simp -implicitDefEqProofs only[go_sem,jU,vQ,Tryz.f161,jB,qQm,hW];have hfin:=suO_find ho (k:=k) hg;generalize (o.bind fun t=>kS t k g)=q at *;refine loopD [0,2,3,5,8,10] (plcI W wb w0.heap.size (w0.heap.size+1) g cv k (suO o)) (suO o).length ⟨0,rfl,by omega,rfl,rfl,Fr.refl _ _⟩ ?_;rintro _ vs w2 ev0 ⟨i,rfl,hi,rfl,hfd,f2⟩;have f02:=f1.trans f2;have hY2:=hY.fr0 f02;have hfl:=flO_len wd o
 by_cases hlt:i<(suO o).length
 ·have hdrop:(suO o).drop i=(suO o)[i]::(suO o).drop (i+1):=List.drop_eq_getElem_cons hlt
  rw[hdrop,List.find?_cons]at hfd;have hx:=suO_at wd o i hlt;have sok:=suO_ok ho _ (List.getElem_mem hlt);have d1:=dTo ((i:Int)<(((flO wd o).length:Nat):Int));have c1:IntKind.i64.wrap ((i:Int)+1)=((i+1:Nat):Int):=qXd (b:=1) (by have:=flO_le (wd:=wd) ho;omega);have y1:=iBd (i:=i) (n:=(flO wd o).length);generalize (suO o)[i]=s at *;obtain⟨x,hx',e1,e2,e3,e4⟩:=textX sok hx;obtain⟨ev,tb,to,tc,gv,rv,q',kv,nv,vv,hc,he,hrt,hrf,hkv,hnv,hvv,hall⟩:=hY2.text hx';rw[e1,e2]at hrt hall;rw[e3]at hkv;have rt:=hrt w2 (Fr.refl _ _);have rw2:=hc.row;obtain⟨W3,q3,k3,f3,s3⟩:=allocT w2 (row:=txC kv s.top s.fr nv (x.left:Nat) (x.right:Nat) x.ans.isSome vv) rfl hall;have f03:=f02.trans f3;have hkp:=sok.keys_pos;have fd:No W3 W3.drew:=(Fr.refl _ _).drew;obtain⟨kb',ko,kc,rfl,_,_⟩:=((hkv.fr0 f3).fr0 fd).pos hkp
  have rk3:rdO prog 34 W3.drew kb' ko=some (dg s.key):=by
   have:=((hkv.fr0 f3).fr0 fd).get (P:=prog) agg34 sz34 (i:=0) hkp;rw[jC,jE,← qZr]at this;exact this
  have r3d:=qQk (P:=prog) (fd.at k3 id);have rkk:=rd_d agg34 sz34 (fd.at ((f2.trans f3).at k1 id) id) hk;have yk:(0:Int)<((s.keys.length:Nat):Int):=by omega
  simp -implicitDefEqProofs only[go_sem,jU,gLa,gLz,gLs,rw2,qQh,y1,and_self,if_true,iTn,rt,q3,jB,r3d,yk,rU,rk3,rkk,vP,jC];refine qQa pl182 ((common22 W3.drew sok.key_len hk).mono ?_);rintro _ w4 ⟨rfl,f4⟩;have f34:No W3 w4:=fd.trans f4;have f04:=f03.trans f34;have f24:=f3.trans f34;have r4:=qQk (P:=prog) (f34.at k3 id);have c2:IntKind.i64.wrap (255 - (g:Int))=((255 - g:Nat):Int):=qXg (a:=255) (by omega) (by omega)
  have next:rH k g s=false→∃ m,m<(suO o).length - i∧plcI W wb w0.heap.size (w0.heap.size+1) g cv k (suO o) m [pt wb 0,.int .i64 (g:Nat),cv,pt w0.heap.size 0,pt (w0.heap.size+1) 0,.int .i64 ((i+1:Nat):Int)] w4:=fun h=>by
   rw[h]at hfd;exact⟨(suO o).length - (i+1),by omega,i+1,rfl,by omega,rfl,hfd,f2.trans f24⟩
  by_cases b1:common s.key k=255 - g
  ·have d3:(((common s.key k:Nat):Int) == ((255 - g:Nat):Int))=true:=by rw[b1];exact bSe _
   by_cases b2:s.fr≤g
   ·have d4:=dTo (((s.fr:Nat):Int)≤(g:Int))
    by_cases b3:g≤s.top
    ·have d5:=dTo ((g:Int)≤((s.top:Nat):Int))
     have hb:rH k g s=true:=Wit.bsd_iff.2 ⟨b1,b2,b3⟩;rw[hb]at hfd;simp only at hfd;rw[hfd,Option.map_some]at hfin;subst hfin;simp -implicitDefEqProofs only[go_sem,jU,gLa,gLz,gLs,c2,d3,r4,qQh,d4,d5,bSe];refine qQa pl181 ((climbed u (flO_le ho) hcl (ht.no f04) (hY.fr0 f04) sok hx (hcs.fr0 f04) b2 b3).mono ?_);rintro _ w5 ⟨rfl,f5⟩;rw[Wit.cut_dig];have hdl:=Wit.dig_len' wd (rG cs) (rF s g);obtain⟨q6,r6,f6⟩:=fin w5 _ ((f2.trans f24).trans f5) hdl
     have hr:PlQ w0 wd cs (some (rF s g)) (.tuple #[dg (vA wd (rG cs) (rF s g)),.bool true]) _:=⟨f6,rfl⟩
     generalize vA wd (rG cs) (rF s g)=D at *;simp -implicitDefEqProofs only[go_sem,jU,q6,r6];exact hr
    ·have d5:=dFo ((g:Int)≤((s.top:Nat):Int))
     obtain⟨m,hm,hI⟩:=next (by rw[← rY];exact fun h=>b3 (Wit.bsd_iff.1 h).2.2);simp -implicitDefEqProofs only[go_sem,jU,gLa,gLz,gLs,c2,d3,r4,qQh,d4,d5,bSe,c1];exact⟨m,hm,hI⟩
   ·have d4:=dFo (((s.fr:Nat):Int)≤(g:Int))
    obtain⟨m,hm,hI⟩:=next (by rw[← rY];exact fun h=>b2 (Wit.bsd_iff.1 h).2.1);simp -implicitDefEqProofs only[go_sem,jU,gLa,gLz,gLs,c2,d3,r4,qQh,d4,qZn,bSe,c1];exact⟨m,hm,hI⟩
  ·have d3:(((common s.key k:Nat):Int) == ((255 - g:Nat):Int))=false:=by rw[bFn];omega
   obtain⟨m,hm,hI⟩:=next (by rw[← rY];exact fun h=>b1 (Wit.bsd_iff.1 h).1);simp -implicitDefEqProofs only[go_sem,jU,gLa,gLz,gLs,c2,d3,qZn,c1];exact⟨m,hm,hI⟩
 ·obtain rfl:i=(suO o).length:=by omega
  rw[List.drop_length]at hfd;rw[hfd]at hfin;subst hfin;obtain⟨ev,rv,tv,gv,q',txs,gvs,h2,h3,h4⟩:=id hY2;obtain⟨ta,tc,rfl,_⟩:=h3.txr.rd.slice;have r1:=h3.cell.row;have htl:txs.length=(flO wd o).length:=h4.1;have d1:decide ((((suO o).length:Nat):Int)<((txs.length:Nat):Int))=false:=by rw[htl,hfl];simp
  obtain⟨q9,r9,f9⟩:=fin w2 _ f2 zl32;simp -implicitDefEqProofs only[go_sem,jU,gLa,gLz,gLs,r1,qQh,d1,bldD0,q9,r9];exact⟨f9,rfl⟩
end R
end Go.V
