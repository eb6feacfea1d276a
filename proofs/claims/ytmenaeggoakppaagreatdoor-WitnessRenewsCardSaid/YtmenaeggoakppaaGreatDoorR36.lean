/- Helpers. -/
import Derived.Test.YtmenaeggoakppaaGreatDoorR34
import Derived.Test.YtmenaeggoakppaaGreatDoorR35
set_option linter.all false
set_option maxRecDepth 100000
set_option maxHeartbeats 8000000
open Nat renaming reduceEqDiff→jU
open Option renaming bind_some→qV
open Go.V.Wit renaming bes→kS,Tw→vS
namespace Go.V
open Go.Proofs.Tryz Go.V.Tryz
open Go.Proofs Sha
theorem NwD.hi {w0 w:World}{e n cap:Nat}{a:Option Addr}{ds:List Bs}(h:NwD w0 w e (.slice a n cap) ds){m:Nat}(hm:m≤ds.length):NwD w0 w e (cutV 32 a cap 0 m) (ds.take m):=by
 have hn:=h.rd.len;subst hn;obtain⟨h32,hown,hnew⟩:=h;have hl:(ds.take m).length=m:=by rw[lTk];omega
 refine⟨h32.take _,?_,fun b hb=>hnew b (qJh hb)⟩
 rcases hown with ⟨he,h0,_⟩ | ⟨b,o,cap',c,he,hb,hc,hncap,hfl,hat⟩
 ·injection he with e1 e2 e3
  subst e1 e3;obtain rfl:m=0:=by omega
  exact .inl ⟨rfl,hl,rfl⟩
 ·injection he with e1 e2 e3
  subst e1 e3;refine .inr ⟨b,o,cap,c,?_,hb,hc,by omega,by rw[qJa (h32.take _)],fun i hi=>?_⟩
  ·unfold cutV
   rw[hl]
   split <;> simp[Addr.add]
  ·rw[hl]at hi
   rw[hat i (by omega),← flat_take h32,List.getElem?_take,if_pos hi]
theorem allocTw (w:World){row:Array Value}(hs:row.size=8)(h:row.all one=true):∃ W, wrO prog 96 (w.alloc (.cells #[.slice Option.none 0 0, .int .i64 0, .int .i64 0, .slice Option.none 0 0, .bool false, .slice Option.none 0 0, .pointer Option.none, .pointer Option.none] 96)) w.heap.size 0 (.agg row)=some W ∧
  W.heap[w.heap.size]?=some (.cells row 96 (0,0))∧No w W∧W.heap.size=w.heap.size+1:=by
 obtain⟨W,hW,f,k,s⟩:=qQr w #[.slice .none 0 0,.int .i64 0,.int .i64 0,.slice .none 0 0,.bool false,.slice .none 0 0,.pointer .none,.pointer .none] 96;rw[hW];exact⟨_,qQt (vs:=row) (by rw[hs];exact sz96) k hs.symm h,qQf (o:=.cells row 96 (0,0)) k,f.put (b:=w.heap.size) _ fun h=>absurd h (Nat.lt_irrefl _),by rw[put_heap_size,s]⟩
def TwO (u w:World)(g:Nat)(v:Value):Option vS→Prop
 | none=>v=.pointer none
 | some t=>∃ tb B,v=pt tb 0∧TwM u w tb t B∧t.Ok∧g≤t.top
def BeQ (u w0:World)(p:Option vS)(v:Value)(w':World):Prop:=No w0 w'∧match p with
 | none=>v=.pointer none
 | some p=>∃ pb B,v=pt pb 0∧TwM u w' pb p B
def sizeO:Option vS→Nat
 | none=>0
 | some t=>t.size
def bsI (u wT w0:World)(q:Option vS)(g:Nat)(k:Bs)(n:Nat)(vs:List Value)(w:World):Prop :=
 ∃ (v:Value) (o:Option vS),vs=[v,.int .i64 (g:Nat),pt w0.heap.size 0]∧TwO u wT g v o∧(o.bind fun t=>kS t k g)=q∧n=sizeO o∧No w0 w∧w.heap[w0.heap.size]?=some (.cells (bl k) 34 (0,0))
theorem bes_ge {s:vS}{k:Bs}{g:Nat}(h:s.fr≤g):kS s k g=if common s.key k=255 - g then some (Wit.cutT s g) else none:=by
 cases s with
 | leaf k' top near a=>rfl
 | fork ks f top near l r=>simp only[kS];rw[if_pos (show f≤g from h)];rfl
theorem TwM.cut {u w w':World}{tb pb:Nat}{s:vS}{B:List Nat}(hS:TwM u w tb s B)(f:No w w'){g:Nat}(hok:s.Ok)(h1:s.fr≤g)(h2:g≤s.top){kv fb vv lp rp:Value}{a:Option Addr}{n cap:Nat}
  (hr:w.heap[tb]?=some (.cells (twC kv s.fr s.top (.slice a n cap) fb vv lp rp) 96 (0,0)))
  (hp:w'.heap[pb]?=some (.cells (twC kv s.fr g (cutV 32 a cap 0 (g - s.fr)) fb vv lp rp) 96 (0,0))):∃ B',TwM u w' pb (Wit.cutT s g) B':=by
 have hnl:=hok.near_len
 cases s with
 | leaf k' top near a' =>
  obtain⟨kv',nv,vv',Bn,Bv,rfl,t0,h2',h3,h4,h5,h6⟩:=hS;have e:=t0.symm.trans hr;simp only[twC,oSi,Obj.cells.injEq,Array.mk.injEq,List.cons.injEq,and_true]at e;obtain⟨rfl,_,_,rfl,rfl,rfl,rfl,rfl⟩:=e;simp only[Wit.Tw.fr,Wit.Tw.near,Wit.Tw.top,Nat.sub_zero]at hp hnl h2;exact⟨_,_,_,_,Bn,Bv,rfl,hp,h2',(h3.hi (m:=g) (by omega)).fr0 f,fun b hb=>h4 b (qJh hb),h5.fr0 f,h6⟩
 | fork ks f' top near l r =>
  obtain⟨kv',nv,fb',vv',lb,rb,Bn,Bl,Br,rfl,t0,h2',h3,h4,h5,h6⟩:=hS;have e:=t0.symm.trans hr;simp only[twC,oSi,Obj.cells.injEq,Array.mk.injEq,List.cons.injEq,and_true]at e;obtain⟨rfl,_,_,rfl,rfl,rfl,rfl,rfl⟩:=e;simp only[Wit.Tw.fr,Wit.Tw.near,Wit.Tw.top]at hp hnl h1 h2;exact⟨_,_,_,_,_,_,_,Bn,Bl,Br,rfl,hp,h2',(h3.hi (m:=g - f') (by omega)).fr0 f,fun b hb=>h4 b (qJh hb),h5.fr0 f,h6.fr0 f⟩
theorem beside (u wT w0:World){v:Value}{tt:Option vS}{g:Nat}(hT:TwO u wT g v tt)(hu:No u wT)(hw:No wT w0){k:Bs}(hk:k.length=32)(hg:g<256) :
  Fn prog 97 #[v,dg k,.int .i64 (g:Nat)] w0 (BeQ u w0 (tt.bind fun t=>kS t k g)):=by
 refine go97 (by simp) ?_;obtain⟨W,hW,f1,k1,s1⟩:=qQr w0 (bl k) 34;simp -implicitDefEqProofs only[go_sem,jU,Nat.reduceAdd,Tryz.f97,Value.cells,hW];generalize hq:(tt.bind fun t=>kS t k g)=q;refine loopD [0,2,4] (bsI u wT w0 q g k) (sizeO tt) ⟨v,tt,rfl,hT,hq,rfl,f1,k1⟩ ?_;rintro _ vs w2 ev ⟨v,o,rfl,hO,hb,rfl,f2,k2⟩;clear hT hq
 cases o with
 | none =>
  obtain rfl:v=.pointer none:=hO;simp -implicitDefEqProofs only[go_sem,jU];subst hb;exact⟨f2,rfl⟩
 | some s =>
  obtain⟨cb,B,rfl,hS,sok,hgt⟩:=hO;simp only[qV]at hb
  have hcell:∃ kv a n cap fb vv lp rp,wT.heap[cb]?=some (.cells (twC kv s.fr s.top (.slice a n cap) fb vv lp rp) 96 (0,0))∧RdD u kv s.keys∧n≤cap∧n=s.near.length∧(twC kv s.fr s.top (.slice a n cap) fb vv lp rp).all one=true:=by
   cases s with
   | leaf k' top near a =>
    obtain⟨kv,nv,vv,Bn,Bv,rfl,t0,hkv,hn,_,hv,_⟩:=id hS;obtain⟨a,cap,rfl,hc⟩:=hn.rd.slice;obtain⟨ka,kc,rfl,_⟩:=hkv.slice;obtain⟨va,vc,rfl,_⟩:=hv.slice;exact⟨_,_,_,_,_,_,_,_,t0,hkv,hc,rfl,by rw[← Array.all_toList];rfl⟩
   | fork ks f top near l r =>
    obtain⟨kv,nv,fb,vv,lb,rb,Bn,Bl,Br,rfl,t0,hkv,hn,_⟩:=id hS;obtain⟨a,cap,rfl,hc⟩:=hn.rd.slice;obtain⟨ka,kc,rfl,_⟩:=hkv.slice;exact⟨_,_,_,_,_,_,_,_,t0,hkv,hc,rfl,by rw[← Array.all_toList];simp only[List.all_cons,List.all_nil,fb.2,vv.2];rfl⟩
  obtain⟨kv,na,nn,cap,fb,vv,lp,rp,t0,hkv,hcap,hnn,hall⟩:=hcell;have hfr:=sok.fr_le;have htp:=sok.top_le;have hnl:=sok.near_len;have hkp:=sok.keys_pos;have hkl:=sok.key_len;have f0:No wT w2:=hw.trans f2;have r2d:∀ t o,rdO prog t w2.drew cb o=ldO prog t (some (.cells (twC kv s.fr s.top (.slice na nn cap) fb vv lp rp) 96 (0,0))) o:=qQk (P:=prog) (f0.at t0 id);obtain⟨kb',ko,kc,rfl,_,_⟩:=(hkv.fr0 (hu.trans f0)).pos hkp
  have rk:∀ w,No w2 w→rdO prog 34 w kb' ko=some (dg s.key):=fun w f=>by
   have:=(hkv.fr0 ((hu.trans f0).trans f)).get (P:=prog) agg34 sz34 (i:=0) hkp;rw[Nat.zero_mul,Nat.add_zero,← qZr]at this;exact this
  have fd:No w2 w2.drew:=(Fr.refl _ _).drew;have rkd:=rk w2.drew fd;have rk2d:rdO prog 34 w2.drew w0.heap.size 0=some (dg k):=rd_d agg34 sz34 k2 hk;have y1:(0:Int)<((s.keys.length:Nat):Int):=by omega
  simp -implicitDefEqProofs only[go_sem,jU,gLa,gLz,r2d,qQh,y1,Int.le_refl,and_self,if_true,Int.toNat_zero,Nat.zero_mul,rkd,rk2d];refine qQa pl160 ((commonP w2.drew hkl hk).mono ?_);rintro _ w3 ⟨rfl,f3⟩;have f23:No w2 w3:=fd.trans f3;have f03:=f2.trans f23;have t3:=(f0.trans f23).at t0 id;have r3:=qQk (P:=prog) t3
  have lw:ldO prog 96 (some (.cells (twC (.slice (some ⟨kb',ko,.none⟩) s.keys.length kc) s.fr s.top (.slice na nn cap) fb vv lp rp) 96 (0,0))) 0=some (.agg (twC (.slice (some ⟨kb',ko,.none⟩) s.keys.length kc) s.fr s.top (.slice na nn cap) fb vv lp rp)) :=
   (qQk (P:=prog) t3 96 0).symm.trans (qXy (P:=prog) agg96 sz96 t3)
  have c1:IntKind.i64.wrap (255 - (g:Int))=((255 - g:Nat):Int):=qXg (a:=255) (by omega) (by omega)
  by_cases hge:s.fr≤g
  ·have d1:=dTo ((g:Int) ≥ ((s.fr:Nat):Int))
   rw[bes_ge hge]at hb
   by_cases hc:common s.key k=255 - g
   ·have d2:(((common s.key k:Nat):Int) != ((255 - g:Nat):Int))=false:=by rw[hc];exact bNe _
    rw[if_pos hc]at hb;obtain⟨W4,q4,k4,f4,s4⟩:=allocTw w3 (row:=twC (.slice (some ⟨kb',ko,.none⟩) s.keys.length kc) s.fr s.top (.slice na nn cap) fb vv lp rp) rfl hall;have r4d:∀ t o,rdO prog t W4.drew cb o=ldO prog t (some (.cells (twC (.slice (some ⟨kb',ko,.none⟩) s.keys.length kc) s.fr s.top (.slice na nn cap) fb vv lp rp) 96 (0,0))) o:=qQk (P:=prog) (f4.at t3 id);have c2:IntKind.i64.wrap ((g:Int) - ((s.fr:Nat):Int))=((g - s.fr:Nat):Int):=qXg (by omega) (by omega);have sl:=slc_hi (P:=prog) slc94 arr94 sz23 (a:=na) (l:=g - s.fr) (n:=nn) (cap:=cap) (by omega) hcap;have k4d:W4.drew.heap[w3.heap.size]?=_:=k4;have q5:wrO prog 3 W4.drew w3.heap.size 2 (.int .i64 (g:Nat))=some (put W4.drew w3.heap.size (.cells (twC (.slice (some ⟨kb',ko,.none⟩) s.keys.length kc) s.fr g (.slice na nn cap) fb vv lp rp) 96 (0,0))):=qZw sz3 k4d rfl (by simp);have k5:=qQf (w:=W4.drew) (o:=.cells (twC (.slice (some ⟨kb',ko,.none⟩) s.keys.length kc) s.fr g (.slice na nn cap) fb vv lp rp) 96 (0,0)) k4d;have f5:No w3 (put W4.drew w3.heap.size (.cells (twC (.slice (some ⟨kb',ko,.none⟩) s.keys.length kc) s.fr g (.slice na nn cap) fb vv lp rp) 96 (0,0))):=f4.drew.put (b:=w3.heap.size) _ fun h=>by omega
    generalize put W4.drew w3.heap.size (.cells (twC (.slice (some ⟨kb',ko,.none⟩) s.keys.length kc) s.fr g (.slice na nn cap) fb vv lp rp) 96 (0,0))=w5 at *;have q6:wrO prog 94 w5 w3.heap.size 3 (cutV 32 na cap 0 (g - s.fr))=some (put w5 w3.heap.size (.cells (twC (.slice (some ⟨kb',ko,.none⟩) s.keys.length kc) s.fr g (cutV 32 na cap 0 (g - s.fr)) fb vv lp rp) 96 (0,0))):=qZw sz94 k5 rfl (by simp);have k6:=qQf (o:=.cells (twC (.slice (some ⟨kb',ko,.none⟩) s.keys.length kc) s.fr g (cutV 32 na cap 0 (g - s.fr)) fb vv lp rp) 96 (0,0)) k5;have f6:No w3 (put w5 w3.heap.size (.cells (twC (.slice (some ⟨kb',ko,.none⟩) s.keys.length kc) s.fr g (cutV 32 na cap 0 (g - s.fr)) fb vv lp rp) 96 (0,0))):=f5.put (b:=w3.heap.size) _ fun h=>by omega
    simp -implicitDefEqProofs only[go_sem,jU,gLa,gLz,gLs,r3,qQh,d1,c1,d2,lw,Value.cells,q4,r4d,c2,sl,q5,q6];subst hb;obtain⟨B',hB⟩:=hS.cut ((f0.trans f23).trans f6) sok hge hgt t0 k6;exact⟨f03.trans f6,_,B',rfl,hB⟩
   ·have d2:(((common s.key k:Nat):Int) != ((255 - g:Nat):Int))=true:=by rw[bne_iff_ne];omega
    rw[if_neg hc]at hb;simp -implicitDefEqProofs only[go_sem,jU,gLa,gLz,gLs,r3,qQh,d1,c1,d2];subst hb;exact⟨f03,rfl⟩
  ·have d1:=dFo ((g:Int) ≥ ((s.fr:Nat):Int))
   cases s with
   | leaf k' top near a=>exact absurd (Nat.zero_le _) hge
   | fork ks f top near l r =>
    obtain⟨kv1,nv1,fb1,vv1,lb,rb,Bn,Bl,Br,rfl,t1,_,_,_,hL,hR⟩:=id hS;have hfp:=sok.f_pos;have hfg:¬ f≤g:=hge;have hfl:f≤256:=Nat.le_trans sok.2.1 sok.2.2.1;have r3:=qQk (P:=prog) ((f0.trans f23).at t1 id);have r3d:∀ t o,rdO prog t w3.drew cb o=ldO prog t (some (.cells (twC kv1 f top nv1 fb1 vv1 (pt lb 0) (pt rb 0)) 96 (0,0))) o:=r3;have rk3d:rdO prog 34 w3.drew w0.heap.size 0=some (dg k):=rd_d agg34 sz34 (f23.at k2 id) hk;have c2:IntKind.i64.wrap (256 - (f:Int))=((256 - f:Nat):Int):=qXg (a:=256) (by omega) (by omega);have c3:IntKind.i64.wrap ((f:Int) - 1)=((f - 1:Nat):Int):=qXg (b:=1) (by omega) (by omega);have d1:decide ((g:Int) ≥ (f:Int))=false:=d1;simp -implicitDefEqProofs only[go_sem,jU,gLa,gLz,gLs,r3,r3d,qQh,d1,rk3d,c2];refine qQa pl92 ((bbit w3.drew hk (show 256 - f<256 by omega)).mono ?_);rintro _ w4 ⟨rfl,f4⟩;have f34:No w3 w4:=(Fr.refl _ _).drew.trans f4;have f04:=f03.trans f34;have r4:=qQk (P:=prog) (((f0.trans f23).trans f34).at t1 id);have k4:=(f23.trans f34).at k2 id
    have goL:kS (.fork ks f top near l r) k g=kS l k g→bsI u wT w0 q g k l.size [pt lb 0,.int .i64 (g:Nat),pt w0.heap.size 0] w4:=fun e=>⟨_,some l,rfl,⟨lb,Bl,rfl,hL,sok.2.2.2.2.2.2.2.2.2.2.2.2.1,by rw[sok.2.2.2.2.2.2.2.2.2.2.1];omega⟩,by rw[qV,← e];exact hb,rfl,f04,k4⟩
    have goR:kS (.fork ks f top near l r) k g=kS r k g→bsI u wT w0 q g k r.size [pt rb 0,.int .i64 (g:Nat),pt w0.heap.size 0] w4:=fun e=>⟨_,some r,rfl,⟨rb,Br,rfl,hR,sok.2.2.2.2.2.2.2.2.2.2.2.2.2,by rw[sok.2.2.2.2.2.2.2.2.2.2.2.1];omega⟩,by rw[qV,← e];exact hb,rfl,f04,k4⟩
    have sl:=l.size_pos;have sr:=r.size_pos;have e0:sizeO (some (Wit.Tw.fork ks f top near l r))=l.size+r.size+1:=rfl;have b00:((0:Int) == 0)=true:=rfl;have b10:((1:Int) == 0)=false:=rfl;have w11:IntKind.i64.wrap (1 - 1)=0:=rfl;have w10:IntKind.i64.wrap (1 - 0)=1:=rfl;unfold kb
    by_cases hg1:g=f - 1
    ·have d4:((g:Int) == ((f - 1:Nat):Int))=true:=by rw[beq_iff_eq,hg1]
     cases hbit:kbit k (256 - f) with
     | true =>
      rw[if_pos rfl];simp -implicitDefEqProofs only[go_sem,jU,gLa,gLz,gLs,r4,qQh,c3,d4,w11,b00];exact⟨l.size,by omega,goL (by simp only[kS];rw[if_neg hfg,if_pos hg1,hbit];rfl)⟩
     | false =>
      rw[if_neg (by decide)];simp -implicitDefEqProofs only[go_sem,jU,gLa,gLz,gLs,r4,qQh,c3,d4,w10,b10];exact⟨r.size,by omega,goR (by simp only[kS];rw[if_neg hfg,if_pos hg1,hbit];rfl)⟩
    ·have d4:((g:Int) == ((f - 1:Nat):Int))=false:=by rw[bFn];omega
     cases hbit:kbit k (256 - f) with
     | true =>
      rw[if_pos rfl];simp -implicitDefEqProofs only[go_sem,jU,gLa,gLz,gLs,r4,qQh,c3,d4,b10];exact⟨r.size,by omega,goR (by simp only[kS];rw[if_neg hfg,if_neg hg1,hbit];rfl)⟩
     | false =>
      rw[if_neg (by decide)];simp -implicitDefEqProofs only[go_sem,jU,gLa,gLz,gLs,r4,qQh,c3,d4,b00];exact⟨l.size,by omega,goL (by simp only[kS];rw[if_neg hfg,if_neg hg1,hbit];rfl)⟩
end Go.V
