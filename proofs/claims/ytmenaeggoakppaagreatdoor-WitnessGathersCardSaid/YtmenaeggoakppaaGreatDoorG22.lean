/- Helpers. -/
import Derived.Test.YtmenaeggoakppaaGreatDoorG21
set_option linter.all false
set_option maxRecDepth 100000
set_option maxHeartbeats 8000000
open List renaming getD_cons_zero→zR,nodup_append→yA
open Nat renaming reduceEqDiff→jF,le_refl→xP,reduceBEq→jB,zero_le→jZ
open Option renaming bind_some→qV
open Go.Value renaming cells→jM
open Go.V.Wit renaming frm→yL,lefts→yT,parse→yE,form→yI,chk→yO
namespace Go.V
open Go.Proofs.Tryz Go.V.Tryz
open Go.Proofs Sha
variable {kv v:Value} {t:Wit.Tw} {uk w w0:World}
def TwQ (uk u w0:World)(wd:Int)(rb:Nat)(n:Nat)(ks:List Bs)(top:Nat)(bv:Value)(ps:List (Nat × Nat × Nat))(raw:Bs)(gb:Nat→Prop)(r:Value)(w':World):Prop:=Fr (fun b=>b=rb∨gb b) w0 w' ∧
 match yE wd n ks top raw with
 | none=>∃ p,one p=true∧r=.tuple #[p,.bool false]
 | some p=>∃ tb B gv ps', r=.tuple #[pt tb 0, .bool true]∧TwM uk w' tb p.1 B∧B.Nodup∧(∀ b ∈ B, w0.heap.size≤b∧b<w'.heap.size)∧Rdr u w' rb p.2.2 bv gv∧GvAt u w' gv (ps++ps') ∧
   (∀ b,qQb gv=some b→(gb b∨w0.heap.size≤b)∧b≠rb∧b ∉ B)∧GvOk w' ps' p.2.1∧∀ q ∈ ps',q.2.1 ∈ B
theorem bldTw (top:Nat)(h:one kv=true):bldO prog 96 [(0,kv),(2,.int .i64 (top:Nat))]=some (.agg (twC kv 0 top (.slice none 0 0) (.bool false) (.slice none 0 0) (.pointer none) (.pointer none))):=by
 simp only[bldO,zero96,places96,qV];rw[qXj (off:=0) rfl h (by decide),qXj (off:=2) rfl rfl (by simp[jM])];rfl
theorem rtwig (uk u:World)(huk:No uk u)(wd:Int):∀ (n:Nat) (w0:World) {rb top:Nat} {ks:List Bs} {kv bv gv:Value} {raw:Bs} {ps:List (Nat × Nat × Nat)}, ks.length≤n→Rdr u w0 rb raw bv gv→RdD u bv (empts wd 257)→RdD uk kv ks→GvAt u w0 gv ps→ps.length+512*ks.length≤2 ^ 20 →
  Wit.Asc ks→0<ks.length→Wit.Shr (256 - top) ks→top≤256→(∀ b,qQb gv=some b→b≠rb) →
  Fn prog 112 #[pt rb 0,kv,.int .i64 (top:Nat)] w0 (TwQ uk u w0 wd rb n ks top bv ps raw (fun b=>qQb gv=some b)):=by
 intro n
 induction n with
 | zero=>intro w0 rb top ks kv bv gv raw ps h _ _ _ _ _ _ h0;omega
 | succ n ih =>
  intro w0 rb top ks kv bv gv raw ps hn hr hb hk hg hps ha h0 hs ht hgn;refine go112 (by simp) ?_;simp -implicitDefEqProofs only[go_sem,jF,Tryz.f112];refine qQa pl171 ((rtake u w0 hr 1).mono ?_);rintro r w1 ⟨f1,h1⟩
  have fno:yE wd (n+1) ks top raw=none→∀ w' p,one p=true→Fr (fun b=>b=rb∨qQb gv=some b) w0 w'→TwQ uk u w0 wd rb (n+1) ks top bv ps raw (fun b=>qQb gv=some b) (.tuple #[p,.bool false]) w':=fun h w' p hp hf=>by
   unfold TwQ;rw[h];exact⟨hf,p,hp,rfl⟩
  have f1':Fr (fun b=>b=rb∨qQb gv=some b) w0 w1:=f1.mono fun _ _ h=>.inl h
  cases raw with
  | nil =>
   rw[if_pos (by simp)]at h1;obtain⟨rfl,h1⟩:=h1;simp -implicitDefEqProofs only[go_sem,jF,gLa,gLz,gLs];exact fno rfl _ _ rfl f1'
  | cons x bs =>
   rw[if_neg (by simp)]at h1;obtain⟨v1,rfl,b1,h1⟩:=h1;rw[List.take_succ_cons,List.take_zero]at b1;rw[List.drop_succ_cons,List.drop_zero]at h1;obtain⟨b,o,c,rfl,_⟩:=b1.pos (by simp);have r1:=fun w (f:No u w)=>(b1.fr0 f).get (P:=prog) agg5 (i:=0) (by simp);simp only[zR,Nat.add_zero]at r1;have r11:=r1 w1 h1.2.1;have y0:(0:Int)≤0∧(0:Int)<((([x]:Bs).length:Nat):Int):=by simp
   obtain⟨ka,kc,rfl,hkc⟩:=hk.slice
   by_cases hx:x.toNat > 2
   ·have d1:=dTo ((x.toNat:Int) > 2)
    simp -implicitDefEqProofs only[go_sem,jF,gLa,gLz,gLs,bSe,y0,r11,d1];exact fno (by simp only[yE,zR];rw[if_neg (by simp),if_pos (.inl hx)]) _ _ rfl f1'
   ·have d1:=dFo ((x.toNat:Int) > 2)
    by_cases hc:x.toNat=2 ↔ 1<ks.length
    ·have hz:(!(((x.toNat:Int) == 2) == decide (((ks.length:Nat):Int) > 1)))=false:=by
      by_cases h2:x.toNat=2
      ·have h3:=hc.1 h2
       have e1:((x.toNat:Int) == 2)=true:=by rw[h2];rfl
       have e2:=dTo (((ks.length:Nat):Int) > 1);rw[e1,e2];rfl
      ·have h3:¬ 1<ks.length:=fun h=>h2 (hc.2 h)
       have e1:((x.toNat:Int) == 2)=false:=by rw[bFn];omega
       have e2:=dFo (((ks.length:Nat):Int) > 1);rw[e1,e2];rfl
     have bl:=bldTw (kv:=.slice ka ks.length kc) top rfl;simp -implicitDefEqProofs only[go_sem,jF,gLa,gLz,gLs,bSe,y0,r11,d1,hz,bl,jM];have hsz1:w0.heap.size≤w1.heap.size:=f1.size;have hrb:rb<w0.heap.size:=by obtain⟨_,_,v,h,_⟩:=hr;exact qQh h
     have hgl:∀ b,qQb gv=some b→b<w0.heap.size:=fun b hb=>hg.own.lt hb;have hus:u.heap.size≤w0.heap.size:=hr.2.1.size;have f2:No w1 (w1.alloc (.cells (twC (.slice ka ks.length kc) 0 top (.slice none 0 0) (.bool false) (.slice none 0 0) (.pointer none) (.pointer none)) 96)):=(Fr.refl _ _).alloc _;have t2:=qQc w1 (.cells (twC (.slice ka ks.length kc) 0 top (.slice none 0 0) (.bool false) (.slice none 0 0) (.pointer none) (.pointer none)) 96);have h2:=h1.fr f2 fun _ _ h=>h;have f12:=f1'.trans' f2 fun _ _ h=>h.elim;have g2:=Nw.fr0 (Nw.fr hg f1 fun b hb e=>hgn b hb e) f2;have hsz2:(w1.alloc (.cells (twC (.slice ka ks.length kc) 0 top (.slice none 0 0) (.bool false) (.slice none 0 0) (.pointer none) (.pointer none)) 96)).heap.size=w1.heap.size+1:=qQd _ _;generalize w1.alloc (.cells (twC (.slice ka ks.length kc) 0 top (.slice none 0 0) (.bool false) (.slice none 0 0) (.pointer none) (.pointer none)) 96)=w2 at *;generalize htb:w1.heap.size=tb at *;refine qQa pl119 ((split w2 (hk.fr0 (huk.trans h2.2.1)) ha h0 (by omega)).mono ?_);rintro _ w3 ⟨rfl,f3⟩;have t3:=f3.at t2 id
     have q3:wrO prog 3 w3 tb 1 (.int .i64 ((yL ks:Nat):Int))=some (put w3 tb (.cells (twC (.slice ka ks.length kc) (yL ks) top (.slice none 0 0) (.bool false) (.slice none 0 0) (.pointer none) (.pointer none)) 96 (0,0))):=by
      rw[qZl t3,qKl sz3 rfl (by simp)];rfl
     have hsz3:w2.heap.size≤w3.heap.size:=f3.size;have fp4:Fr (fun b=>b=tb) w3 (put w3 tb (.cells (twC (.slice ka ks.length kc) (yL ks) top (.slice none 0 0) (.bool false) (.slice none 0 0) (.pointer none) (.pointer none)) 96 (0,0))):=(Fr.refl _ _).put (b:=tb) _ fun _=>rfl;have t4:=qQf (o:=.cells (twC (.slice ka ks.length kc) (yL ks) top (.slice none 0 0) (.bool false) (.slice none 0 0) (.pointer none) (.pointer none)) 96 (0,0)) t3;have h4:Rdr u (put w3 tb (.cells (twC (.slice ka ks.length kc) (yL ks) top (.slice none 0 0) (.bool false) (.slice none 0 0) (.pointer none) (.pointer none)) 96 (0,0))) rb bs bv gv:=(h2.fr f3 fun _ _ h=>h).fr fp4 fun b hb e=>by omega
     have g4:=Nw.fr (Nw.fr0 g2 f3) fp4 fun b hb e=>by have:=hgl b hb;omega
     have f14:=(f12.trans' f3 fun _ _ h=>h.elim).put (b:=tb) (.cells (twC (.slice ka ks.length kc) (yL ks) top (.slice none 0 0) (.bool false) (.slice none 0 0) (.pointer none) (.pointer none)) 96 (0,0)) fun h=>by omega
     have hsz4:(put w3 tb (.cells (twC (.slice ka ks.length kc) (yL ks) top (.slice none 0 0) (.bool false) (.slice none 0 0) (.pointer none) (.pointer none)) 96 (0,0))).heap.size=w3.heap.size:=by simp[put]
     simp -implicitDefEqProofs only[go_sem,jF,Nat.reduceAdd,gLa,gLz,gLs,q3];have hf:=Wit.frm_bound ha hs (by omega);generalize put w3 tb (.cells (twC (.slice ka ks.length kc) (yL ks) top (.slice none 0 0) (.bool false) (.slice none 0 0) (.pointer none) (.pointer none)) 96 (0,0))=w4 at *;have r14:=r1 w4 h4.2.1
     by_cases h2x:x.toNat=2
     ·have hl:=hc.1 h2x
      obtain rfl:x=2:=BitVec.eq_of_toNat_eq h2x;have e1:((((2:Byte).toNat:Int)) != 2)=false:=rfl;have hp:=Wit.parse_fork (w:=wd) (n:=n) (ks:=ks) (top:=top) (bs:=bs) hl;have hlt:=Wit.lefts_lt ha hl;have hlp:=Wit.lefts_pos ha hl;have hfp:=Wit.frm_pos ha hl;have hfl:=Wit.frm_le ha hl;have enl:¬ ks.length<2:=by omega
      simp -implicitDefEqProofs only[go_sem,jF,y0,r14,e1,enl];refine qQa pl173 ((rnbrs u w4 wd h4 hb g4 (by omega) (fun b hb=>⟨hgn b hb,by have:=hgl b hb;omega⟩) (by omega) (by omega) t4 (by omega) ht).mono ?_);rintro r w7 ⟨f7,h7⟩
      have f17:Fr (fun b=>b=rb∨qQb gv=some b) w0 w7:=f14.trans' f7 fun b hb h=>by
       rcases h with h | h | h
       ·exact .inl h
       ·omega
       ·exact .inr h
      have hsz7:w4.heap.size≤w7.heap.size:=f7.size
      cases hn7:Wit.nearP wd (yL ks) top bs with
      | none =>
       rw[hn7]at h7;subst h7;simp -implicitDefEqProofs only[go_sem,jF];exact fno (by rw[hp,hn7];rfl) _ _ rfl f17
      | some pn =>
       rw[hn7]at h7;obtain⟨rfl,nv,nb,no,gv7,R7,G7,gn7,go7,t7,N7,hv7⟩:=h7;obtain⟨ok7,bk7⟩:=gps_ok (by omega) ht hn7 N7 hv7;have nlt:=fun b (hb:qQb nv=some b)=>N7.lt hb;have r7:=qQo (P:=prog) t7;have len7:=(nearP_gs (by omega) ht hn7).1;have c1:IntKind.i64.wrap (((yL ks:Nat):Int) - 1)=((yL ks - 1:Nat):Int):=qXl (b:=1) (by omega) (by omega);have s1:=slc_hi (P:=prog) slc24 arr24 sz34 (a:=ka) (show yT ks≤ks.length by omega) hkc;have s2:=slc_lo (P:=prog) slc24 arr24 sz34 (a:=ka) (show yT ks≤ks.length by omega) hkc;have k1:=RdD.cutV hk (jZ (yT ks)) (by omega) rfl;have k2:=RdD.cutV hk (show yT ks≤ks.length by omega) (xP _) rfl;rw[List.drop_zero,Nat.sub_zero]at k1;rw[List.take_of_length_le (by rw[lDr];omega)]at k2;have hl1:(ks.take (yT ks)).length=yT ks:=by rw[lTk];omega
       have hl2:(ks.drop (yT ks)).length=ks.length - yT ks:=by rw[lDr]
       have e256:256 - (yL ks - 1)=257 - yL ks:=by omega
       simp -implicitDefEqProofs only[go_sem,jF,gLa,gLz,gLs,r7,qQk,c1,s1];have hr7d:Rdr u w7.drew rb pn.2.2 bv gv7:=R7.fr (F:=fun _=>False) (Fr.refl _ _).drew fun _ _ h=>h;have hg7d:GvAt u w7.drew gv7 (ps++gps (yL ks) nb no pn.2.1):=Nw.fr0 G7 (Fr.refl _ _).drew;have hlg:(gps (yL ks) nb no pn.2.1).length=pn.2.1.length:=by simp[gps]
       refine qQa pl112 ((ih w7.drew (by omega) hr7d hb k1 hg7d (by rw[lAp,hlg,hl1];omega) (ha.take _) (by omega) (by rw[e256];exact Wit.shr_take ha hl) (by omega) (fun b hb=>(go7 b hb).1)).mono ?_);rintro r w8 ⟨f8,h8⟩
       have t8:w8.heap[tb]?=_:=f8.at (w:=w7.drew) t7 fun e=>by
        rcases e with e | e
        ·omega
        ·exact (go7 tb e).2.1 rfl
       have f18:Fr (fun b=>b=rb∨qQb gv=some b) w0 w8:=f17.drew.trans' f8 fun b hb h=>by
        rcases h with h | h
        ·exact .inl h
        ·rcases gn7 b h with h | h
         ·exact .inr h
         ·omega
       have hsz8:w7.heap.size≤w8.heap.size:=f8.size;have htl8:=qQh t8
       have stL:∀ p,one p=true→wrO prog 91 w8 tb 6 p=some (put w8 tb (.cells (twC (.slice ka ks.length kc) (yL ks) top nv (.bool false) (.slice none 0 0) p (.pointer none)) 96 (0,0))):=fun p hp=>by
        rw[qZl t8,qKl sz91 hp (by simp)];rfl
       cases hL:yE wd n (ks.take (yT ks)) (yL ks - 1) pn.2.2 with
       | none =>
        rw[hL]at h8;obtain⟨p8,hp8,rfl⟩:=h8;have q8:=stL p8 hp8;simp -implicitDefEqProofs only[go_sem,jF,gLa,gLz,gLs,q8];exact fno (by rw[hp,hn7,qV,hL];rfl) _ _ rfl (f18.put (b:=tb) _ fun h=>by omega)
       | some pL =>
        rw[hL]at h8;obtain⟨lb,B8,gv8,ps8,rfl,T8,nd8,bd8,R8,G8,gn8,ok8,in8⟩:=h8;have q8:=stL (pt lb 0) rfl;have t9:=qQf (o:=.cells (twC (.slice ka ks.length kc) (yL ks) top nv (.bool false) (.slice none 0 0) (pt lb 0) (.pointer none)) 96 (0,0)) t8;have fp9:Fr (fun b=>b=tb) w8 (put w8 tb (.cells (twC (.slice ka ks.length kc) (yL ks) top nv (.bool false) (.slice none 0 0) (pt lb 0) (.pointer none)) 96 (0,0))):=(Fr.refl _ _).put (b:=tb) _ fun _=>rfl;have hbd8:∀ b ∈ B8,w7.heap.size≤b∧b<w8.heap.size:=bd8;have T9:=T8.fr fp9 fun b hb e=>by have:=hbd8 b hb;have:=qQh t7;omega
        have R9:=R8.fr fp9 fun b hb e=>by omega
        have gn8':∀ b,qQb gv8=some b→b≠tb:=fun b hb e=>by
         rcases (gn8 b hb).1 with h | h
         ·exact (go7 b h).2.1 e
         ·have:=qQh t7;simp only[World.drew]at h;omega
        have G9:=Nw.fr G8 fp9 fun b hb e=>gn8' b hb e;have ok9:=ok8.fr fp9 fun q hq e=>by have:=hbd8 _ (in8 q hq);have:=qQh t7;omega
        have f19:=f18.put (b:=tb) (.cells (twC (.slice ka ks.length kc) (yL ks) top nv (.bool false) (.slice none 0 0) (pt lb 0) (.pointer none)) 96 (0,0)) fun h=>by omega
        have hsz9:(put w8 tb (.cells (twC (.slice ka ks.length kc) (yL ks) top nv (.bool false) (.slice none 0 0) (pt lb 0) (.pointer none)) 96 (0,0))).heap.size=w8.heap.size:=by simp[put]
        have f79:Fr (fun b=>b=rb∨qQb gv7=some b∨b=tb) w7 (put w8 tb (.cells (twC (.slice ka ks.length kc) (yL ks) top nv (.bool false) (.slice none 0 0) (pt lb 0) (.pointer none)) 96 (0,0))) :=
         ((Fr.refl _ _).drew.trans' f8 fun b _ h=>by rcases h with h | h;exact .inl h;exact .inr (.inl h)).put (b:=tb) _ fun _=>.inr (.inr rfl)
        have lenL:=parse_len (ha.take _) (by omega) hL;rw[hl1]at lenL;simp -implicitDefEqProofs only[go_sem,jF,gLa,gLz,gLs,q8];generalize put w8 tb (.cells (twC (.slice ka ks.length kc) (yL ks) top nv (.bool false) (.slice none 0 0) (pt lb 0) (.pointer none)) 96 (0,0))=w9 at *;have r9:=qQo (P:=prog) t9;simp -implicitDefEqProofs only[go_sem,jF,gLa,gLz,gLs,r9,qQk,c1,s2];have hr9d:Rdr u w9.drew rb pL.2.2 bv gv8:=R9.fr (F:=fun _=>False) (Fr.refl _ _).drew fun _ _ h=>h;have hg9d:GvAt u w9.drew gv8 (ps++gps (yL ks) nb no pn.2.1++ps8):=Nw.fr0 G9 (Fr.refl _ _).drew;refine qQa pl112 ((ih w9.drew (by omega) hr9d hb k2 hg9d (by rw[lAp,lAp,hlg,hl2,ok8.1];omega) (ha.drop _) (by omega) (by rw[e256];exact Wit.shr_drop ha hl) (by omega) (fun b hb=>(gn8 b hb).2.1)).mono ?_);rintro r wa ⟨fa,h10⟩
        have ta:wa.heap[tb]?=_:=fa.at (w:=w9.drew) t9 fun e=>by
         rcases e with e | e
         ·omega
         ·exact gn8' tb e rfl
        have f1a:Fr (fun b=>b=rb∨qQb gv=some b) w0 wa:=f19.drew.trans' fa fun b hb h=>by
         rcases h with h | h
         ·exact .inl h
         ·rcases (gn8 b h).1 with h | h
          ·rcases gn7 b h with h | h
           ·exact .inr h
           ·omega
          ·have:w7.heap.size≤b:=h
           omega
        have hsza:w9.heap.size≤wa.heap.size:=fa.size
        have stR:∀ p,one p=true→wrO prog 91 wa tb 7 p=some (put wa tb (.cells (twC (.slice ka ks.length kc) (yL ks) top nv (.bool false) (.slice none 0 0) (pt lb 0) p) 96 (0,0))):=fun p hp=>by
         rw[qZl ta,qKl sz91 hp (by simp)];rfl
        cases hR:yE wd n (ks.drop (yT ks)) (yL ks - 1) pL.2.2 with
        | none =>
         rw[hR]at h10;obtain⟨p8,hp8,rfl⟩:=h10;have qa:=stR p8 hp8;simp -implicitDefEqProofs only[go_sem,jF,gLa,gLz,gLs,qa];exact fno (by rw[hp,hn7,qV,hL,qV,hR];rfl) _ _ rfl (f1a.put (b:=tb) _ fun h=>by omega)
        | some pR =>
         rw[hR]at h10;obtain⟨rbb,Ba,gva,psa,rfl,Ta,nda,bda,Ra,Ga,gna,oka,ina⟩:=h10;have qa:=stR (pt rbb 0) rfl;have tz:=qQf (o:=.cells (twC (.slice ka ks.length kc) (yL ks) top nv (.bool false) (.slice none 0 0) (pt lb 0) (pt rbb 0)) 96 (0,0)) ta;have fpz:Fr (fun b=>b=tb) wa (put wa tb (.cells (twC (.slice ka ks.length kc) (yL ks) top nv (.bool false) (.slice none 0 0) (pt lb 0) (pt rbb 0)) 96 (0,0))):=(Fr.refl _ _).put (b:=tb) _ fun _=>rfl;have hbda:∀ b ∈ Ba,w9.heap.size≤b∧b<wa.heap.size:=bda;have htl7:=qQh t7;have hsz79:w7.heap.size≤w9.heap.size:=by omega
         simp -implicitDefEqProofs only[go_sem,jF,gLa,gLz,gLs,qa]
         have f7z:Fr (fun b=>b=rb∨qQb gv7=some b∨qQb gv8=some b∨b=tb) w7 (put wa tb (.cells (twC (.slice ka ks.length kc) (yL ks) top nv (.bool false) (.slice none 0 0) (pt lb 0) (pt rbb 0)) 96 (0,0))) :=
          (((f79.mono fun b _ h=>by rcases h with h | h | h;exact .inl h;exact .inr (.inl h);exact .inr (.inr (.inr h))).drew).trans' fa fun b _ h=>by rcases h with h | h;exact .inl h;exact .inr (.inr (.inl h))).put (b:=tb) _ fun _=>.inr (.inr (.inr rfl))
         have gn8n:∀ b,qQb nv=some b→qQb gv8≠some b:=fun b hb h=>by
          rcases (gn8 b h).1 with h | h
          ·exact (go7 b h).2.2 hb
          ·have:=nlt b hb
           have:w7.heap.size≤b:=h;omega
         have nok:∀ b,qQb nv=some b→¬ (b=rb∨qQb gv7=some b∨qQb gv8=some b∨b=tb):=fun b hb e=>by
          have:=nlt b hb
          rcases e with e | e | e | e
          ·omega
          ·exact (go7 b e).2.2 hb
          ·exact gn8n b hb e
          ·omega
         refine⟨f1a.put (b:=tb) _ fun h=>by omega,?_⟩;rw[hp,hn7,qV,hL,qV,hR,Option.map_some]
         have f9a:Fr (fun b=>b=rb∨qQb gv8=some b∨b=tb) w9 (put wa tb (.cells (twC (.slice ka ks.length kc) (yL ks) top nv (.bool false) (.slice none 0 0) (pt lb 0) (pt rbb 0)) 96 (0,0))) :=
          ((Fr.refl _ _).drew.trans' fa fun b _ h=>by rcases h with h | h;exact .inl h;exact .inr (.inl h)).put (b:=tb) _ fun _=>.inr (.inr rfl)
         have b8ok:∀ b ∈ B8,¬ (b=rb∨qQb gv8=some b∨b=tb):=fun b hb e=>by
          have:=hbd8 b hb
          rcases e with e | e | e
          ·omega
          ·exact (gn8 b e).2.2 hb
          ·omega
         refine⟨tb,tb::((qQb nv).toList++(B8++Ba)),gva,gps (yL ks) nb no pn.2.1++(ps8++psa),rfl,
          ⟨_,nv,⟨.bool false,rfl⟩,⟨.slice none 0 0,rfl⟩,lb,rbb,_,B8,Ba,rfl,tz,hk,(N7.fr f7z nok).back (jZ _),fun b hb=>by simp[hb],T9.fr f9a b8ok,Ta.fr fpz fun b hb e=>by have:=hbda b hb;omega⟩,?_,?_,Ra.fr fpz fun b hb e=>by omega,?_,?_,?_,?_⟩
         ·rw[List.nodup_cons]
          refine⟨fun h=>?_,?_⟩
          ·rcases List.mem_append.1 h with h | h
           ·have:=nlt tb (by simpa using h);omega
           ·rcases List.mem_append.1 h with h | h
            ·have:=hbd8 tb h;omega
            ·have:=hbda tb h;omega
          ·rw[yA]
           refine⟨by cases qQb nv <;> simp,?_,fun a ha b hb e=>?_⟩
           ·rw[yA]
            exact⟨nd8,nda,fun a ha b hb e=>by have:=hbd8 a ha;have:=hbda b hb;omega⟩
           ·have:=nlt a (by simpa using ha)
            rcases List.mem_append.1 hb with h | h
            ·have:=hbd8 b h;omega
            ·have:=hbda b h;omega
         ·have hzs:(put wa tb (.cells (twC (.slice ka ks.length kc) (yL ks) top nv (.bool false) (.slice none 0 0) (pt lb 0) (pt rbb 0)) 96 (0,0))).heap.size=wa.heap.size:=by simp[put]
          intro b hb;rw[hzs]
          rcases List.mem_cons.1 hb with rfl | hb
          ·omega
          ·rcases List.mem_append.1 hb with h | h
           ·have:=nlt b (by simpa using h);omega
           ·rcases List.mem_append.1 h with h | h
            ·have:=hbd8 b h;omega
            ·have:=hbda b h;omega
         ·have:ps++(gps (yL ks) nb no pn.2.1++(ps8++psa))=ps++gps (yL ks) nb no pn.2.1++ps8++psa:=by simp
          rw[this]
          exact Nw.fr Ga fpz fun b hb e=>by
           rcases (gna b hb).1 with h | h
           ·exact gn8' b h e
           ·have:w9.heap.size≤b:=h
            omega
         ·intro b hb
          have hbb:(qQb gv=some b∨w0.heap.size≤b):=by
           rcases (gna b hb).1 with h | h
           ·rcases (gn8 b h).1 with h | h
            ·exact (gn7 b h).imp id fun h=>by omega
            ·have:w7.heap.size≤b:=h
             right;omega
           ·have:w9.heap.size≤b:=h
            right;omega
          refine⟨hbb,(gna b hb).2.1,fun h=>?_⟩
          rcases List.mem_cons.1 h with e | h
          ·rcases (gna b hb).1 with h | h
           ·exact gn8' b h e
           ·have:w9.heap.size≤b:=h
            omega
          ·rcases List.mem_append.1 h with h | h
           ·have hnb:qQb nv=some b:=by simpa using h
            rcases (gna b hb).1 with h | h
            ·exact gn8n b hnb h
            ·have:w9.heap.size≤b:=h
             have:=nlt b hnb;omega
           ·rcases List.mem_append.1 h with h | h
            ·rcases (gna b hb).1 with h' | h'
             ·exact (gn8 b h').2.2 h
             ·have:w9.heap.size≤b:=h'
              have:=hbd8 b h;omega
            ·exact (gna b hb).2.2 h
         ·refine (ok7.fr f7z fun q hq=>nok _ (bk7 q hq)).app ((ok9.fr f9a fun q hq=>b8ok _ (in8 q hq)).app (oka.fr fpz fun q hq e=>by have:=hbda _ (ina q hq);omega))
         ·intro q hq
          rcases List.mem_append.1 hq with hq | hq
          ·have:=bk7 q hq;simp[this]
          ·rcases List.mem_append.1 hq with hq | hq
           ·have:=in8 q hq;simp[this]
           ·have:=ina q hq;simp[this]
     ·have hl:¬ 1<ks.length:=fun h=>h2x (hc.2 h)
      have e1:(((x.toNat:Int)) != 2)=true:=by rw[bne_iff_ne];omega
      have hp:=Wit.parse_leaf (w:=wd) (n:=n) (ks:=ks) (top:=top) (x:=x) (bs:=bs) (by omega) hl;simp -implicitDefEqProofs only[go_sem,jF,y0,r14,e1];refine qQa pl172 ((ransw u w4 h4 x).mono ?_);rintro r w5 ⟨f5,h5⟩;have t5:=f5.at t4 (fun e=>by omega);have f15:=f14.trans' f5 fun b _ h=>.inl h
      cases ha5:Wit.ansP x.toNat bs with
      | none =>
       rw[ha5]at h5;obtain⟨fb,vv,hvv,rfl⟩:=h5
       have q5:wrO prog 69 w5 tb 4 (.agg #[.bool fb,vv])=some (put w5 tb (.cells (twC (.slice ka ks.length kc) (yL ks) top (.slice none 0 0) (.bool fb) vv (.pointer none) (.pointer none)) 96 (0,0))):=by
        rw[qZl t5,stO_agg sz69 (by rw[← Array.all_toList];simp only[List.all_cons,List.all_nil,hvv];rfl) (by simp)];rfl
       simp -implicitDefEqProofs only[go_sem,jF,gLa,gLz,gLs,q5];exact fno (by rw[hp,ha5];rfl) _ _ rfl (f15.put (b:=tb) _ fun h=>by omega)
      | some pa =>
       rw[ha5]at h5;obtain⟨av,rfl,⟨vv,rfl,v5⟩,h5⟩:=h5;obtain⟨va,vc,hvv⟩:=v5.slice
       have q5:wrO prog 69 w5 tb 4 (.agg #[.bool pa.1.isSome,vv])=some (put w5 tb (.cells (twC (.slice ka ks.length kc) (yL ks) top (.slice none 0 0) (.bool pa.1.isSome) vv (.pointer none) (.pointer none)) 96 (0,0))):=by
        rw[qZl t5,stO_agg sz69 (by simp[hvv,one]) (by simp)];rfl
       have fp6:Fr (fun b=>b=tb) w5 (put w5 tb (.cells (twC (.slice ka ks.length kc) (yL ks) top (.slice none 0 0) (.bool pa.1.isSome) vv (.pointer none) (.pointer none)) 96 (0,0))):=(Fr.refl _ _).put (b:=tb) _ fun _=>rfl;have t6:=qQf (o:=.cells (twC (.slice ka ks.length kc) (yL ks) top (.slice none 0 0) (.bool pa.1.isSome) vv (.pointer none) (.pointer none)) 96 (0,0)) t5;have h6:=h5.fr fp6 fun b hb e=>by omega
       have hsz5:w4.heap.size≤w5.heap.size:=f5.size;have vlt:=fun b (hb:qQb vv=some b)=>v5.lt hb;have v6:=v5.fr fp6 fun b hb e=>by have:=vlt b hb;omega
       have g6:=Nw.fr (Nw.fr g4 f5 fun b hb e=>hgn b hb e) fp6 fun b hb e=>by have:=hgl b hb;omega
       have f16:=f15.put (b:=tb) (.cells (twC (.slice ka ks.length kc) (yL ks) top (.slice none 0 0) (.bool pa.1.isSome) vv (.pointer none) (.pointer none)) 96 (0,0)) fun h=>by omega
       have hsz6:(put w5 tb (.cells (twC (.slice ka ks.length kc) (yL ks) top (.slice none 0 0) (.bool pa.1.isSome) vv (.pointer none) (.pointer none)) 96 (0,0))).heap.size=w5.heap.size:=by simp[put]
       simp -implicitDefEqProofs only[go_sem,jF,gLa,gLz,gLs,q5];generalize put w5 tb (.cells (twC (.slice ka ks.length kc) (yL ks) top (.slice none 0 0) (.bool pa.1.isSome) vv (.pointer none) (.pointer none)) 96 (0,0))=w6 at *;have e0:yL ks=0:=Wit.frm_one (by omega);rw[e0]at t6;refine qQa pl173 ((rnbrs u w6 wd h6 hb g6 (by omega) (fun b hb=>⟨hgn b hb,by have:=hgl b hb;omega⟩) (by omega) (by omega) t6 (by omega) ht).mono ?_);rintro r w7 ⟨f7,h7⟩
       have f17:Fr (fun b=>b=rb∨qQb gv=some b) w0 w7:=f16.trans' f7 fun b hb h=>by
        rcases h with h | h | h
        ·exact .inl h
        ·omega
        ·exact .inr h
       have hsz7:w6.heap.size≤w7.heap.size:=f7.size
       cases hn7:Wit.nearP wd 0 top pa.2 with
       | none =>
        rw[hn7]at h7;subst h7;simp -implicitDefEqProofs only[go_sem,jF];exact fno (by rw[hp,ha5,qV,hn7];rfl) _ _ rfl f17
       | some pn =>
        rw[hn7]at h7;obtain⟨rfl,nv,nb,no,gv7,R7,G7,gn7,go7,t7,N7,hv7⟩:=h7;simp -implicitDefEqProofs only[go_sem,jF];refine⟨f17,?_⟩;rw[hp,ha5,qV,hn7,Option.map_some];obtain⟨ok7,bk7⟩:=gps_ok (by omega) ht hn7 N7 hv7;have nlt:=fun b (hb:qQb nv=some b)=>N7.lt hb
        have v7:=v6.fr f7 fun b hb e=>by
         have:=vlt b hb
         rcases e with e | e | e
         ·omega
         ·omega
         ·have:=hgl b e;omega
        obtain⟨k,rfl⟩:=List.length_eq_one_iff.1 (show ks.length=1 by omega);refine⟨tb,tb::((qQb nv).toList++(qQb vv).toList),gv7,gps 0 nb no pn.2.1,rfl,⟨_,nv,vv,_,_,rfl,t7,hk,N7.back (jZ _),fun b hb=>by simp[hb],v7.by,fun b hb=>by simp[hb]⟩,?_,?_,R7,G7,?_,ok7,fun q hq=>?_⟩
        ·rw[List.nodup_cons]
         refine⟨fun h=>?_,?_⟩
         ·rcases List.mem_append.1 h with h | h
          ·have:=nlt tb (by simpa using h);omega
          ·have:=vlt tb (by simpa using h);omega
         ·rw[yA]
          refine⟨by cases qQb nv <;> simp,by cases qQb vv <;> simp,fun a ha b hb e=>?_⟩;have:=nlt a (by simpa using ha);have:=vlt b (by simpa using hb);omega
        ·intro b hb
         rcases List.mem_cons.1 hb with rfl | hb
         ·have:=qQh t7;omega
         ·rcases List.mem_append.1 hb with h | h
          ·have:=nlt b (by simpa using h);omega
          ·have:=vlt b (by simpa using h);omega
        ·intro b hb
         refine⟨(gn7 b hb).imp id fun h=>by omega,(go7 b hb).1,fun h=>?_⟩
         rcases List.mem_cons.1 h with rfl | h
         ·exact (go7 b hb).2.1 rfl
         ·rcases List.mem_append.1 h with h | h
          ·exact (go7 b hb).2.2 (by simpa using h)
          ·have:=vlt b (by simpa using h)
           rcases gn7 b hb with h | h
           ·have:=hgl b h;omega
           ·omega
        ·have:=bk7 q hq
         simp[this]
    ·have hz:(!(((x.toNat:Int) == 2) == decide (((ks.length:Nat):Int) > 1)))=true:=by
      by_cases h2:x.toNat=2
      ·have h3:¬ 1<ks.length:=fun h=>hc ⟨fun _=>h,fun _=>h2⟩
       have e1:((x.toNat:Int) == 2)=true:=by rw[h2];rfl
       have e2:=dFo (((ks.length:Nat):Int) > 1);rw[e1,e2];rfl
      ·have h3:1<ks.length:=by
        by_cases h3:1<ks.length
        ·exact h3
        ·exact absurd ⟨fun h=>absurd h h2,fun h=>absurd h h3⟩ hc
       have e1:((x.toNat:Int) == 2)=false:=by rw[bFn];omega
       have e2:=dTo (((ks.length:Nat):Int) > 1);rw[e1,e2];rfl
     simp -implicitDefEqProofs only[go_sem,jF,gLa,gLz,gLs,bSe,y0,r11,d1,hz];exact fno (by simp only[yE,zR];rw[if_neg (by simp),if_pos (.inr hc)]) _ _ rfl f1'
theorem gcells_at:∀ (ps:List (Nat × Nat × Nat)) (i:Nat) (h:i<ps.length),(gcells ps)[i*2]?=some (.int .i64 ((ps[i].1:Nat):Int))∧(gcells ps)[i*2+1]?=some (pt ps[i].2.1 ps[i].2.2)
 | p::ps,0,_=>⟨rfl,rfl⟩
 | p::ps,i+1,h=>by
  have:=gcells_at ps i (by simpa using h);rw[show (i+1)*2=i*2+1+1 by omega];simp only[gcells,List.map_cons,List.flatten_cons,List.cons_append,List.nil_append,List.getElem?_cons_succ,List.getElem_cons_succ]at this ⊢;exact this
theorem gv_get {b o n cap:Nat}{ps:List (Nat × Nat × Nat)}(h:Rd w 2 (.slice (some ⟨b,o,none⟩) n cap) ps.length (gcells ps)){i:Nat}(hi:i<ps.length):rdO prog 196 w b (o+i*2)=some (.agg #[.int .i64 ((ps[i].1:Nat):Int),pt ps[i].2.1 ps[i].2.2]):=by
 obtain⟨h1,a,cap',he,hcap,hat⟩:=h;cases he;obtain⟨b',o',he,hat⟩:=hat (by omega);cases he;obtain⟨g1,g2⟩:=gcells_at ps i hi;refine rd_rcs (n:=2) agg196 sz196 rfl (by decide) fun j hj=>?_;rw[Nat.add_assoc,hat _ (by omega)]
 obtain rfl | rfl:j=0∨j=1:=by omega
 ·rw[Nat.add_zero,g1];rfl
 ·rw[g2];rfl
def TwX (w0 w:World)(v:Value)(t:Wit.Tw):Prop:=∃ u tb B,v=pt tb 0∧No w0 u∧No u w∧TwM u w tb t B∧B.Nodup∧∀ b ∈ B,u.heap.size≤b∧b<w.heap.size
def TwK (uk w0 w:World)(v:Value)(t:Wit.Tw):Prop:=∃ tb B,v=pt tb 0∧No w0 w∧TwM uk w tb t B∧B.Nodup∧∀ b ∈ B,w0.heap.size≤b∧b<w.heap.size
theorem TwK.fr0 {uk w0 w w':World}(h:TwK uk w0 w v t)(k:No w w'):TwK uk w0 w' v t:=by
 obtain⟨tb,B,h1,h3,h4,h5,h6⟩:=h;exact⟨tb,B,h1,h3.trans k,h4.fr0 k,h5,fun b hb=>by have:=h6 b hb;have:=k.size;omega⟩
theorem TwK.back {uk w0 w u:World}(h:TwK uk w0 w v t)(k:No u w0):TwK uk u w v t:=by
 obtain⟨tb,B,h1,h3,h4,h5,h6⟩:=h;exact⟨tb,B,h1,k.trans h3,h4,h5,fun b hb=>by have:=h6 b hb;have:=k.size;omega⟩
theorem TwM.keys {uk u w:World}(k:No uk u):∀ {t:Wit.Tw} {tb:Nat} {B:List Nat},TwM uk w tb t B→TwM u w tb t B
 | .leaf _ _ _ _,tb,B,h=>by
  obtain⟨kv,nv,vv,Bn,Bv,rfl,h1,h2,h3⟩:=h;exact⟨kv,nv,vv,Bn,Bv,rfl,h1,h2.fr0 k,h3⟩
 | .fork _ _ _ _ l r,tb,B,h=>by
  obtain⟨kv,nv,fb,vv,lb,rb,Bn,Bl,Br,rfl,h1,h2,h3,h4,h5,h6⟩:=h;exact⟨kv,nv,fb,vv,lb,rb,Bn,Bl,Br,rfl,h1,h2.fr0 k,h3,h4,TwM.keys k h5,TwM.keys k h6⟩
theorem TwK.x (h:TwK uk w0 w v t)(k:No uk w0):TwX w0 w v t:=by
 obtain⟨tb,B,h1,h3,h4,h5,h6⟩:=h;exact⟨w0,tb,B,h1,Fr.refl _ _,h3,h4.keys k,h5,h6⟩
def RdQ (uk w0:World)(wd:Int)(ks:List Bs)(raw:Bs)(r:Value)(w':World):Prop:=No w0 w'∧match yI wd ks raw with
 | .error e=>r=.tuple #[.pointer none,.int .i64 e]
 | .ok none=>r=.tuple #[.pointer none,.int .i64 0]
 | .ok (some t)=>∃ v,r=.tuple #[v,.int .i64 0]∧TwK uk w0 w' v t
def rdI (wa:World)(wd:Int)(rb tb:Nat)(gv:Value)(gs:List (Nat × Bs))(n:Nat)(vs:List Value)(w:World):Prop :=
 ∃ (i:Nat) (x:Value),vs=[.int .i64 wd,pt rb 0,pt tb 0,x,gv,.int .i64 (gs.length:Nat),.int .i64 (i:Nat)]∧i≤gs.length∧n=gs.length - i∧yO wd gs=yO wd (gs.drop i)∧No wa w
theorem rread (uk w0:World)(huk:No uk w0)(ht:Tabs w0)(wd:Int){kv rawv:Value}{ks:List Bs}{raw:Bs}(hk:RdD uk kv ks)(hr:By w0 rawv raw)(ha:Wit.Asc ks)(hl:ks.length≤64) :
  Fn prog 62 #[.int .i64 wd,kv,rawv] w0 (RdQ uk w0 wd ks raw):=by
 refine go62 (by simp) ?_;obtain⟨ka,kc,rfl,hkc⟩:=hk.slice;obtain⟨ra,rc,rfl,hrc⟩:=hr.slice;simp -implicitDefEqProofs only[go_sem,jF,Tryz.f62]
 by_cases h0:ks=[]
 ·subst h0
  have d1:(((([]:List Bs).length:Nat):Int) == 0)=true:=rfl
  by_cases hr0:raw=[]
  ·subst hr0
   have d2:decide (((([]:Bs).length:Nat):Int) > 0)=false:=rfl;simp -implicitDefEqProofs only[go_sem,d1,d2];exact⟨Fr.refl _ _,rfl⟩
  ·have d2:decide (((raw.length:Nat):Int) > 0)=true:=by have:=List.length_pos_iff.2 hr0;simp;omega
   simp -implicitDefEqProofs only[go_sem,d1,d2];refine⟨Fr.refl _ _,?_⟩;unfold yI;rw[if_pos rfl,if_neg hr0]
 ·have hp:0<ks.length:=List.length_pos_iff.2 h0
  have d1:(((ks.length:Nat):Int) == 0)=false:=by rw[bFn];omega
  simp -implicitDefEqProofs only[go_sem,d1];refine qQa pl64 ((empties w0 ht wd).mono ?_);rintro bv w1 ⟨b1,f1⟩;obtain⟨ba,bc,rfl,hbc⟩:=b1.rd.slice;have bl:bldO prog 191 [(0,.slice ra raw.length rc),(1,.slice ba (empts wd 257).length bc)]=some (.agg #[.slice ra raw.length rc,.slice ba (empts wd 257).length bc,.slice none 0 0]):=rfl;have f2:No w1 (w1.alloc (.cells #[.slice ra raw.length rc,.slice ba (empts wd 257).length bc,.slice none 0 0] 191)):=(Fr.refl _ _).alloc _;have k2:=qQc w1 (.cells #[.slice ra raw.length rc,.slice ba (empts wd 257).length bc,.slice none 0 0] 191)
  have r2:Rdr w1 (w1.alloc (.cells #[.slice ra raw.length rc,.slice ba (empts wd 257).length bc,.slice none 0 0] 191)) w1.heap.size raw (.slice ba (empts wd 257).length bc) (.slice none 0 0):=⟨xP _,f2,_,k2,hr.fr0 f1⟩
  simp -implicitDefEqProofs only[go_sem,jF,bl,jM];generalize w1.alloc (.cells #[.slice ra raw.length rc,.slice ba (empts wd 257).length bc,.slice none 0 0] 191)=w2 at *;have g2:GvAt w1 w2 (.slice none 0 0) []:=Nw.nil _ _ _ _;refine qQa pl112 ((rtwig uk w1 (huk.trans f1) wd ks.length w2 (xP _) r2 b1.rd hk g2 (by simp;omega) ha hp (Wit.shr_zero ks) (xP _) (fun b hb=>by cases hb)).mono ?_);rintro r w3 ⟨f3,h3⟩;have hs1:w0.heap.size≤w1.heap.size:=f1.size
  have f03:No w0 w3:=(f1.trans f2).trans' f3 fun b hb h=>by
   rcases h with h | h
   ·omega
   ·cases h
  cases hpz:yE wd ks.length ks 256 raw with
  | none =>
   rw[hpz]at h3;obtain⟨p,hp,rfl⟩:=h3;simp -implicitDefEqProofs only[go_sem,jF,gLa,gLz,gLs];refine⟨f03,?_⟩;unfold yI;rw[if_neg h0,hpz]
  | some p =>
   rw[hpz]at h3;obtain⟨tb,B,gv,ps,rfl,T3,nd3,bd3,R3,G3,gn3,ok3,in3⟩:=h3;obtain⟨e1,e2,rv,e3,e4⟩:=id R3;obtain⟨rva,rvc,rfl,_⟩:=e4.slice;have q3:=qQo (P:=prog) e3
   by_cases hrest:p.2.2=[]
   ·have d2:decide (((p.2.2.length:Nat):Int) > 0)=false:=by rw[hrest];rfl
    rw[List.nil_append]at G3;have hG:=G3.rd;obtain⟨_,ga,gc,rfl,hgc,_⟩:=id hG;simp -implicitDefEqProofs only[go_sem,jF,gLa,gLz,gLs,bSe,q3,qQk,d2];have hgl:=ok3.1;rw[hgl];refine loopD [0,8,9,12,43,44,45] (rdI w3 wd w1.heap.size tb (.slice ga ps.length gc) p.2.1) p.2.1.length ⟨0,_,by rw[hgl];rfl,by omega,rfl,rfl,Fr.refl _ _⟩ ?_;rintro _ vs w4 g ⟨i,x,rfl,hi,rfl,hch,f4⟩
    have hfm:yI wd ks raw=if yO wd p.2.1≠0 then .error (yO wd p.2.1) else .ok (some p.1):=by
     unfold yI;rw[if_neg h0,hpz];simp only[ne_eq,hrest,not_true_eq_false,if_false]
    have hpl:=parse_len ha hp hpz;have hpo:=Wit.parse_ok ha hk.1 hp (Wit.shr_zero ks) (xP _) hpz
    by_cases hlt:i<p.2.1.length
    ·have d3:=dTo ((i:Int)<((p.2.1.length:Nat):Int))
     have hip:i<ps.length:=by omega
     obtain⟨gb,go,ge,hge⟩:∃ gb go ge,(.slice ga ps.length gc:Value)=.slice (some ⟨gb,go,none⟩) ps.length ge:=by
      obtain⟨_,a,c,he,_,hat⟩:=id hG;obtain⟨b',o',rfl,_⟩:=hat (by omega);exact⟨b',o',c,by rw[he]⟩
     cases hge;have y3:=iBd (i:=i) (n:=ps.length);have r4:=gv_get (Rd.fr hG f4 fun _ _ _ h=>h) hip;obtain⟨o1,o2⟩:=ok3.2 i hip hlt;have hq:=hpo.2.2.2 _ (List.getElem_mem hlt);have hdrop:p.2.1.drop i=p.2.1[i]::p.2.1.drop (i+1):=List.drop_eq_getElem_cons hlt;rw[hdrop]at hch;have o2:=fun w (f:No w3 w)=>rdO_fr o2 f id;rw[o1]at r4;generalize p.2.1[i]=q at *;obtain⟨h,d⟩:=q;generalize ps[i].2.1=nb at *;generalize ps[i].2.2=no at *;have k5:=qQc w4 (.cells #[.int .i64 0,.pointer none] 196)
     have q5:wrO prog 196 (w4.alloc (.cells #[.int .i64 0,.pointer none] 196)) w4.heap.size 0 (.agg #[.int .i64 (h:Nat),pt nb no])=some (put (w4.alloc (.cells #[.int .i64 0,.pointer none] 196)) w4.heap.size (.cells #[.int .i64 (h:Nat),pt nb no] 196 (0,0))):=by
      rw[qZl k5,stO_agg sz196 (by rw[← Array.all_toList];rfl) (by simp)];rfl
     simp -implicitDefEqProofs only[go_sem,jF,jM,d3,y3,r4,q5];have k6:=qQf (o:=.cells #[.int .i64 (h:Nat),pt nb no] 196 (0,0)) k5;have f6:No w3 (put (w4.alloc (.cells #[.int .i64 0,.pointer none] 196)) w4.heap.size (.cells #[.int .i64 (h:Nat),pt nb no] 196 (0,0))):=(f4.alloc _).put (b:=w4.heap.size) _ fun h=>by have:=f4.size;omega
     generalize put (w4.alloc (.cells #[.int .i64 0,.pointer none] 196)) w4.heap.size (.cells #[.int .i64 (h:Nat),pt nb no] 196 (0,0))=w6 at *;have r6:=qQo (P:=prog) k6;have o6:=o2 w6 f6;refine qXh (fun j=>j == 9) [0,1,2,3,4,5,6,7,8,9,10] rfl (by kernel_rfl) (by kernel_rfl) ?_;simp -implicitDefEqProofs only[go_sem,jF,jB,gLa,gLz,gLs,r6,qQk,o6];refine qQt pl113 ((dcut w6.drew wd hq.2).mono ?_);rintro _ w7 ⟨rfl,f7⟩;refine⟨fun _=>Fr.ext f7,?_⟩;have eq7:=eqDig hq.2 (qXr wd d);have f7':=f6.drew.trans f7;rw[yO]at hch
     by_cases hd:d=cutD wd d
     ·have hb7:(d == cutD wd d)=true:=by rw[beq_iff_eq];exact hd
      rw[if_neg (show ¬ d≠cutD wd d from fun h=>h hd)]at hch;have k7:=f7.at (w:=w6.drew) k6 id;have r7:=qQo (P:=prog) k7;have o7:=o2 w7 f7';have rr7:=qQo (P:=prog) (f7'.at e3 id);have hbe:(empts wd 257).length=257:=qQm _ _
      obtain⟨bb,bo,be,hbb⟩:∃ bb bo be,(.slice ba (empts wd 257).length bc:Value)=.slice (some ⟨bb,bo,none⟩) (empts wd 257).length be:=by
       obtain⟨b',o',c,e,_⟩:=b1.rd.pos (by rw[hbe];omega);exact⟨b',o',c,e⟩
      cases hbb;have rb7:=((b1.fr0 e2).fr0 f7').rd.get (P:=prog) agg23 sz23 (i:=h) (by omega);have hem:(empts wd 257).getD h []=emptD wd h:=by rw[gDq,qXw wd 257 (by omega)];rfl
      rw[hem]at rb7;have y7:=iBd (i:=h) (n:=(empts wd 257).length);have c1:=iSu (i:=i);have eq8:=eqDig hq.2 (qQp wd h);simp -implicitDefEqProofs only[go_sem,jF,jB,gLa,gLz,gLs,eq7,hb7,r7,qQk,o7,rr7,y7,rb7,eq8,c1]
      by_cases hd2:d=emptD wd h
      ·have hb8:(d == emptD wd h)=true:=by rw[beq_iff_eq];exact hd2
       rw[if_pos (show d=emptD wd h from hd2)]at hch;simp -implicitDefEqProofs only[go_sem,hb8];refine⟨f03.trans f7'.drew,?_⟩;rw[hfm,hch];rfl
      ·have hb8:(d == emptD wd h)=false:=by rw[bFn];exact hd2
       rw[if_neg (show ¬ d=emptD wd h from hd2)]at hch;simp -implicitDefEqProofs only[go_sem,hb8];exact⟨p.2.1.length - (i+1),by omega,i+1,_,by rw[hgl],by omega,rfl,hch,f7'.drew⟩
     ·have hb7:(d == cutD wd d)=false:=by rw[bFn];exact hd
      rw[if_pos (show d≠cutD wd d from hd)]at hch;simp -implicitDefEqProofs only[go_sem,jF,jB,gLa,gLz,gLs,eq7,hb7];refine⟨f03.trans f7',?_⟩;rw[hfm,hch];rfl
    ·have d3:=dFo ((i:Int)<((p.2.1.length:Nat):Int))
     have e:i=p.2.1.length:=by omega
     subst e;simp -implicitDefEqProofs only[go_sem,jF,d3];refine⟨f03.trans f4,?_⟩;rw[hfm,hch,List.drop_length];exact⟨pt tb 0,rfl,tb,B,rfl,f03.trans f4,T3.fr0 f4,nd3,fun b hb=>by have:=bd3 b hb;have:=f4.size;have:=f2.size;omega⟩
   ·have d2:decide (((p.2.2.length:Nat):Int) > 0)=true:=by have:=List.length_pos_iff.2 hrest;simp;omega
    simp -implicitDefEqProofs only[go_sem,jF,gLa,gLz,gLs,bSe,q3,qQk,d2];refine⟨f03,?_⟩;unfold yI;rw[if_neg h0,hpz];simp only[ne_eq,hrest,not_false_eq_true,if_true]
end Go.V
