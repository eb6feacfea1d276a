/-
 Helpers: ReadD, ReadE.
-/
import Derived.Test.YtmenaeggoakppaaGreatDoorB23
set_option linter.all false
section
namespace Go.V
open Go.Proofs Sha
set_option maxRecDepth 100000
abbrev twC (kv:Value) (f top:Nat) (nv fb vv lp rp:Value):Array Value:=#[kv,.int .i64 (f:Nat),.int .i64 (top:Nat),nv,fb,vv,lp,rp]
/-- no place is older than this -/
def wE:World:={ heap:=#[],tape:=fun _ _=>0,drawn:=0,os:=default,output:=#[] }
def TwM (u w:World):Nat→Wit.Tw→List Nat→Prop
 | tb, .leaf k top near a, B => ∃ kv nv vv Bn Bv, B = tb :: (Bn ++ Bv) ∧ w.heap[tb]? = some (.cells (twC kv 0 top nv (.bool a.isSome) vv (.pointer none) (.pointer none)) 96 (0, 0)) ∧ RdD u kv [k] ∧
     NwD wE w 23 nv near ∧ (∀ b,blockOf nv = some b → b ∈ Bn) ∧ By w vv (a.getD []) ∧ (∀ b,blockOf vv = some b → b ∈ Bv)
 | tb, .fork ks f top near l r, B => ∃ kv nv fb vv lb rb Bn Bl Br, B = tb :: (Bn ++ (Bl ++ Br)) ∧ w.heap[tb]? = some (.cells (twC kv f top nv fb vv (pt lb 0) (pt rb 0)) 96 (0, 0)) ∧ RdD u kv ks ∧
     NwD wE w 23 nv near ∧ (∀ b,blockOf nv = some b → b ∈ Bn) ∧ TwM u w lb l Bl ∧ TwM u w rb r Br
theorem TwM.fr {u w w':World} {F:Nat→Prop} (k:Fr F w w'):∀ {t:Wit.Tw} {tb:Nat} {B:List Nat},TwM u w tb t B→(∀ b ∈ B,¬ F b)→TwM u w' tb t B
 | .leaf _ _ _ _,tb,B,h,hf=>by
  obtain⟨kv,nv,vv,Bn,Bv,rfl,h1,h2,h3,h4,h5,h6⟩:=h
  exact⟨kv,nv,vv,Bn,Bv,rfl,k.at h1 (hf _ (by simp)),h2,h3.fr k fun b hb=>hf _ (by simp[h4 b hb]),h4,h5.fr k fun b hb _=>hf _ (by simp[h6 b hb]),h6⟩
 | .fork _ _ _ _ l r,tb,B,h,hf=>by
  obtain⟨kv,nv,fb,vv,lb,rb,Bn,Bl,Br,rfl,h1,h2,h3,h4,h5,h6⟩:=h
  exact⟨kv,nv,fb,vv,lb,rb,Bn,Bl,Br,rfl,k.at h1 (hf _ (by simp)),h2,h3.fr k fun b hb=>hf _ (by simp[h4 b hb]),h4,TwM.fr k h5 fun b hb=>hf _ (by simp[hb]),TwM.fr k h6 fun b hb=>hf _ (by simp[hb])⟩
theorem TwM.fr0 {u w w':World} (k:No w w') {t:Wit.Tw} {tb:Nat} {B:List Nat} (h:TwM u w tb t B):TwM u w' tb t B:=h.fr k fun _ _ h=>h
def GvOk (w:World) (ps:List (Nat × Nat × Nat)) (gs:List (Nat × Bs)):Prop:=ps.length=gs.length∧∀ i (h:i<ps.length) (h':i<gs.length),ps[i].1=gs[i].1∧rdO Tryz.prog 23 w ps[i].2.1 ps[i].2.2=some (dg gs[i].2)
theorem GvOk.app {w:World} {ps qs:List (Nat × Nat × Nat)} {gs hs:List (Nat × Bs)} (h:GvOk w ps gs) (k:GvOk w qs hs):GvOk w (ps++qs) (gs++hs):=by
 obtain⟨h1,h2⟩:=h
 obtain⟨k1,k2⟩:=k
 refine⟨by rw[List.length_append,List.length_append,h1,k1],fun i hi hi'=>?_⟩
 by_cases hl:i<ps.length
 ·rw[List.getElem_append_left hl,List.getElem_append_left (by omega)];exact h2 i hl (by omega)
 ·rw[List.getElem_append_right (by omega),List.getElem_append_right (by omega)]
  have:=k2 (i - ps.length) (by rw[List.length_append] at hi;omega) (by rw[List.length_append] at hi';omega)
  have e:i - gs.length=i - ps.length:=by omega
  simp only[e];exact this
theorem rdO_fr {P:Program} {F:Nat→Prop} {w w':World} {t:TypeId} {b o:Nat} {v:Value} (h:rdO P t w b o=some v) (k:Fr F w w') (hf:¬ F b):rdO P t w' b o=some v:=by
 have hb:b<w.heap.size:=by
  rcases Nat.lt_or_ge b w.heap.size with hb | hb
  ·exact hb
  ·rw[rdO,Array.getElem?_eq_none hb] at h;cases h
 rw[rdO,k.blk b hb hf];exact h
theorem GvOk.fr {w w':World} {F:Nat→Prop} {ps:List (Nat × Nat × Nat)} {gs:List (Nat × Bs)} (h:GvOk w ps gs) (k:Fr F w w') (hf:∀ p ∈ ps,¬ F p.2.1):GvOk w' ps gs :=
 ⟨h.1,fun i hi hi'=>⟨(h.2 i hi hi').1,rdO_fr (h.2 i hi hi').2 k (hf _ (List.getElem_mem hi))⟩⟩
theorem fill_get {f:Nat}:∀ {gs:List (Nat × Bs)} {b:List Bs},gs.Pairwise (fun x y=>x.1<y.1)→(∀ q ∈ gs,f≤q.1∧q.1 - f<b.length)→∀ q ∈ gs,(Wit.fill f b gs).getD (q.1 - f) []=q.2
 | [],_,_,_,q,hq=>by cases hq
 | p::gs,b,hp,hb,q,hq=>by
  obtain⟨h1,h2⟩:=List.pairwise_cons.1 hp
  have hbp:=hb p (by simp)
  rcases List.mem_cons.1 hq with rfl | hq
  ·have keep : ∀ {gs : List (Nat × Bs)} {b : List Bs}, (∀ x ∈ gs, f ≤ x.1 ∧ q.1 < x.1) → q.1 ≥ f → (Wit.fill f b gs).getD (q.1 - f) [] = b.getD (q.1 - f) [] := by
     intro gs
     induction gs with
     | nil => intro b _ _; rfl
     | cons x gs ih =>
       intro b hx hq
       show (Wit.fill f (b.set (x.1 - f) x.2) gs).getD _ _ = _
       have := hx x (by simp)
       rw [ih (fun y hy => hx y (by simp [hy])) hq,List.getD_eq_getElem?_getD,List.getElem?_set_ne (by omega),← List.getD_eq_getElem?_getD]
   show (Wit.fill f (b.set (q.1 - f) q.2) gs).getD _ _=_
   rw[keep (fun x hx=>⟨(hb x (by simp[hx])).1,h1 x hx⟩) hbp.1,List.getD_eq_getElem?_getD,List.getElem?_set_self hbp.2];rfl
  ·exact fill_get (gs:=gs) (b:=b.set (p.1 - f) p.2) h2 (fun x hx=>by rw[List.length_set];exact hb x (by simp[hx])) q hq
theorem gvP_pair {f top:Nat} {bits:Bs}:∀ {n g:Nat} {bs:Bs} {p:List (Nat × Bs) × Bs},Wit.gvP f top bits n g bs=some p→p.1.Pairwise (fun x y=>x.1<y.1)∧(∀ q ∈ p.1,g≤q.1)∧p.1.length≤n:=by
 intro n
 induction n with
 | zero=>intro g bs p h;simp only[Wit.gvP,Option.some.injEq] at h;subst h;simp
 | succ n ih =>
  intro g bs p h
  simp only[Wit.gvP] at h
  split at h
  ·obtain⟨h1,h2,h3⟩:=ih h
   exact⟨h1,fun q hq=>by have:=h2 q hq;omega,by omega⟩
  ·split at h
   ·cases h
   ·obtain⟨q,hq,rfl⟩:=Option.map_eq_some_iff.1 h
    obtain⟨h1,h2,h3⟩:=ih hq
    refine⟨List.pairwise_cons.2 ⟨fun x hx=>by have:=h2 x hx;show g<x.1;omega,h1⟩,fun x hx=>?_,by simp;omega⟩
    rcases List.mem_cons.1 hx with rfl | hx
    ·exact Nat.le_refl _
    ·have:=h2 x hx;omega
theorem nearP_gs {wd : Int} {f top : Nat} {bs : Bs} {p : List Bs × List (Nat × Bs) × Bs} (hf : f ≤ top) (ht : top ≤ 256) (h : Wit.nearP wd f top bs = some p) :
    p.2.1.length ≤ 256 ∧ ∀ q ∈ p.2.1,f ≤ q.1 ∧ q.1 < top ∧ q.2.length = 32 ∧ p.1.getD (q.1 - f) [] = q.2 := by
 have hok:=Wit.nearP_ok ht h
 unfold Wit.nearP at h
 split at h
 ·cases h
 ·obtain⟨q,hq,rfl⟩:=Option.map_eq_some_iff.1 h
  obtain⟨h1,h2,h3⟩:=gvP_pair hq
  refine⟨h3,fun x hx=>?_⟩
  obtain⟨a,b,c⟩:=hok.2.2 x hx
  refine⟨a,b,c,fill_get h1 (fun y hy=>?_) x hx⟩
  have:=hok.2.2 y hy
  rw[List.length_take,List.length_drop,empts_len];omega
theorem gps_ok {wd : Int} {w0 w : World} {f top nb no : Nat} {nv : Value} {bs : Bs} {p : List Bs × List (Nat × Bs) × Bs} (hf : f ≤ top) (ht : top ≤ 256) (h : Wit.nearP wd f top bs = some p) (hn : NwD w0 w 23 nv p.1) (hv : 0 < top - f → ∃ cap, nv = .slice (some ⟨nb, no, none⟩) (top - f) cap) :
    GvOk w (gps f nb no p.2.1) p.2.1 ∧ ∀ q ∈ gps f nb no p.2.1,blockOf nv = some q.2.1 := by
 obtain⟨_,hg⟩:=nearP_gs hf ht h
 have hok:=Wit.nearP_ok ht h
 refine⟨⟨by simp[gps],fun i hi hi'=>?_⟩,fun q hq=>?_⟩
 ·have:=hg _ (List.getElem_mem hi')
  obtain⟨cap,rfl⟩:=hv (by omega)
  simp only[gps,List.getElem_map]
  refine⟨trivial,?_⟩
  rw[← this.2.2.2]
  exact hn.rd.get Tryz.agg23 Tryz.sz23 (by rw[hok.1];omega)
 ·obtain⟨x,hx,rfl⟩:=List.mem_map.1 hq
  have:=hg x hx
  obtain⟨cap,rfl⟩:=hv (by omega)
  rfl
theorem parse_len {wd:Int}:∀ {n:Nat} {ks:List Bs} {top:Nat} {bs:Bs} {p:Wit.Tw × List (Nat × Bs) × Bs},Wit.Asc ks→0<ks.length→Wit.parse wd n ks top bs=some p→p.2.1.length+256≤512*ks.length:=by
 have hnl:∀ {f top:Nat} {bs:Bs} {p:List Bs × List (Nat × Bs) × Bs},Wit.nearP wd f top bs=some p→p.2.1.length≤256:=by
  intro f top bs p h
  unfold Wit.nearP at h
  split at h
  ·cases h
  ·obtain⟨q,hq,rfl⟩:=Option.map_eq_some_iff.1 h
   exact (gvP_pair hq).2.2
 intro n
 induction n with
 | zero=>intro ks top bs p _ _ h;cases h
 | succ n ih =>
  intro ks top bs p ha h0 h
  simp only[Wit.parse] at h
  split at h
  ·cases h
  split at h
  ·cases h
  rename_i hc
  split at h
  ·rename_i h2
   have hl:2≤ks.length:=by
    by_cases hl:1<ks.length
    ·exact hl
    ·exact absurd (Or.inr fun e=>hl (e.1 h2)) hc
   obtain⟨a,h3,h⟩:=Option.bind_eq_some_iff.1 h
   obtain⟨b,h4,h⟩:=Option.bind_eq_some_iff.1 h
   obtain⟨c,h5,rfl⟩:=Option.map_eq_some_iff.1 h
   have hlt:=Wit.lefts_lt ha hl
   have hlp:=Wit.lefts_pos ha hl
   have e1:=hnl h3
   have e2:=ih (ha.take _) (by rw[List.length_take];omega) h4
   have e3:=ih (ha.drop _) (by rw[List.length_drop];omega) h5
   rw[List.length_take] at e2
   rw[List.length_drop] at e3
   simp only[List.length_append];omega
  ·obtain⟨a,h3,h⟩:=Option.bind_eq_some_iff.1 h
   obtain⟨b,h4,rfl⟩:=Option.map_eq_some_iff.1 h
   have:=hnl h4
   show b.2.1.length+256≤_
   omega
end Go.V
end
section
namespace Go.V
open Go.Proofs Sha
set_option maxRecDepth 100000
def TwQ (u w0:World) (wd:Int) (rb:Nat) (n:Nat) (ks:List Bs) (top:Nat) (bv:Value) (ps:List (Nat × Nat × Nat)) (raw:Bs) (gb:Nat→Prop) (r:Value) (w':World):Prop:=Fr (fun b=>b=rb∨gb b) w0 w' ∧
 match Wit.parse wd n ks top raw with
 | none=>∃ p,one p=true∧r=.tuple #[p,.bool false]
 | some p => ∃ tb B gv ps', r = .tuple #[pt tb 0, .bool true] ∧ TwM u w' tb p.1 B ∧ B.Nodup ∧ (∀ b ∈ B, w0.heap.size ≤ b ∧ b < w'.heap.size) ∧ Rdr u w' rb p.2.2 bv gv ∧ GvAt u w' gv (ps ++ ps') ∧
     (∀ b,blockOf gv = some b → (gb b ∨ w0.heap.size ≤ b) ∧ b ≠ rb ∧ b ∉ B) ∧ GvOk w' ps' p.2.1 ∧ ∀ q ∈ ps',q.2.1 ∈ B
theorem bldTw {kv:Value} (top:Nat) (h:one kv=true):bldO Tryz.prog 96 [(0,kv),(2,.int .i64 (top:Nat))]=some (.agg (twC kv 0 top (.slice none 0 0) (.bool false) (.slice none 0 0) (.pointer none) (.pointer none))):=by
 simp only[bldO,Tryz.zero96,Tryz.places96,Option.bind_some]
 rw[fill_one1 (off:=0) rfl h (by decide),fill_one1 (off:=2) rfl rfl (by simp[Value.cells])];rfl
theorem rtwig (u : World) (wd : Int) : ∀ (n : Nat) (w0 : World) {rb top : Nat} {ks : List Bs} {kv bv gv : Value} {raw : Bs} {ps : List (Nat × Nat × Nat)}, ks.length ≤ n → Rdr u w0 rb raw bv gv → RdD u bv (empts wd 257) → RdD u kv ks → GvAt u w0 gv ps → ps.length + 512 * ks.length ≤ 2 ^ 20 →
    Wit.Asc ks → 0 < ks.length → Wit.Shr (256 - top) ks → top ≤ 256 → (∀ b,blockOf gv = some b → b ≠ rb) →
    Fn Tryz.prog 112 #[pt rb 0,kv,.int .i64 (top : Nat)] w0 (TwQ u w0 wd rb n ks top bv ps raw (fun b => blockOf gv = some b)) := by
 intro n
 induction n with
 | zero=>intro w0 rb top ks kv bv gv raw ps h _ _ _ _ _ _ h0;omega
 | succ n ih =>
  intro w0 rb top ks kv bv gv raw ps hn hr hb hk hg hps ha h0 hs ht hgn
  refine Tryz.go112 (by simp) ?_
  simp -implicitDefEqProofs only[go_sem,Nat.reduceEqDiff,Tryz.f112]
  refine contL_call Tryz.pl171 ((rtake u w0 hr 1).mono ?_)
  rintro r w1 ⟨f1,h1⟩
  have fno:Wit.parse wd (n+1) ks top raw=none→∀ w' p,one p=true→Fr (fun b=>b=rb∨blockOf gv=some b) w0 w'→TwQ u w0 wd rb (n+1) ks top bv ps raw (fun b=>blockOf gv=some b) (.tuple #[p,.bool false]) w':=fun h w' p hp hf=>by
   unfold TwQ
   rw[h];exact⟨hf,p,hp,rfl⟩
  have f1':Fr (fun b=>b=rb∨blockOf gv=some b) w0 w1:=f1.mono fun _ _ h=>.inl h
  cases raw with
  | nil =>
   rw[if_pos (by simp)] at h1
   obtain⟨rfl,h1⟩:=h1
   simp -implicitDefEqProofs only[go_sem,Nat.reduceEqDiff,gLa,gLz,gLs,beq_self_eq_true,bne_self_eq_false]
   exact fno rfl _ _ rfl f1'
  | cons x bs =>
   rw[if_neg (by simp)] at h1
   obtain⟨v1,rfl,b1,h1⟩:=h1
   rw[List.take_succ_cons,List.take_zero] at b1
   rw[List.drop_succ_cons,List.drop_zero] at h1
   obtain⟨b,o,c,rfl,_⟩:=b1.pos (by simp)
   have r1:=fun w (f:No u w)=>(b1.fr0 f).get (P:=Tryz.prog) Tryz.agg5 (i:=0) (by simp)
   simp only[List.getD_cons_zero,Nat.add_zero] at r1
   have r11:=r1 w1 h1.2.1
   have y0:(0:Int)≤0∧(0:Int)<((([x]:Bs).length:Nat):Int):=by simp
   obtain⟨ka,kc,rfl,hkc⟩:=hk.slice
   by_cases hx:x.toNat > 2
   ·have d1:decide ((x.toNat:Int) > 2)=true:=by simp;omega
    simp -implicitDefEqProofs only[go_sem,Nat.reduceEqDiff,gLa,gLz,gLs,beq_self_eq_true,bne_self_eq_false,y0,r11,d1]
    exact fno (by simp only[Wit.parse,List.getD_cons_zero];rw[if_neg (by simp),if_pos (.inl hx)]) _ _ rfl f1'
   ·have d1:decide ((x.toNat:Int) > 2)=false:=by simp;omega
    by_cases hc:x.toNat=2 ↔ 1<ks.length
    ·have hz : (!(((x.toNat : Int) == 2) == decide (((ks.length : Nat) : Int) > 1))) = false := by
       by_cases h2 : x.toNat = 2
       · have h3 := hc.1 h2
         have e1 : ((x.toNat : Int) == 2) = true := by rw [h2]; rfl
         have e2 : decide (((ks.length : Nat) : Int) > 1) = true := by simp; omega
         rw [e1,e2]; rfl
       · have h3 : ¬ 1 < ks.length := fun h => h2 (hc.2 h)
         have e1 : ((x.toNat : Int) == 2) = false := by rw [beq_eq_false_iff_ne]; omega
         have e2 : decide (((ks.length : Nat) : Int) > 1) = false := by simp; omega
         rw [e1,e2]; rfl
     have bl:=bldTw (kv:=.slice ka ks.length kc) top rfl
     simp -implicitDefEqProofs only[go_sem,Nat.reduceEqDiff,gLa,gLz,gLs,beq_self_eq_true,bne_self_eq_false,y0,r11,d1,hz,bl,Value.cells]
     have hsz1:w0.heap.size≤w1.heap.size:=f1.size
     have hrb:rb<w0.heap.size:=by obtain⟨_,_,v,h,_⟩:=hr;exact heap_lt h
     have hgl:∀ b,blockOf gv=some b→b<w0.heap.size:=fun b hb=>hg.own.lt hb
     have hus:u.heap.size≤w0.heap.size:=hr.2.1.size
     have f2:No w1 (w1.alloc (.cells (twC (.slice ka ks.length kc) 0 top (.slice none 0 0) (.bool false) (.slice none 0 0) (.pointer none) (.pointer none)) 96)):=(Fr.refl _ _).alloc _
     have t2:=alloc_blk_new w1 (.cells (twC (.slice ka ks.length kc) 0 top (.slice none 0 0) (.bool false) (.slice none 0 0) (.pointer none) (.pointer none)) 96)
     have h2:=h1.fr f2 fun _ _ h=>h
     have f12:=f1'.trans' f2 fun _ _ h=>h.elim
     have g2:=Nw.fr0 (Nw.fr hg f1 fun b hb e=>hgn b hb e) f2
     have hsz2:(w1.alloc (.cells (twC (.slice ka ks.length kc) 0 top (.slice none 0 0) (.bool false) (.slice none 0 0) (.pointer none) (.pointer none)) 96)).heap.size=w1.heap.size+1:=alloc_heap_size _ _
     generalize w1.alloc (.cells (twC (.slice ka ks.length kc) 0 top (.slice none 0 0) (.bool false) (.slice none 0 0) (.pointer none) (.pointer none)) 96)=w2 at *
     generalize htb:w1.heap.size=tb at *
     refine contL_call Tryz.pl119 ((split w2 (hk.fr0 h2.2.1) ha h0 (by omega)).mono ?_)
     rintro _ w3 ⟨rfl,f3⟩
     have t3:=f3.at t2 id
     have q3:wrO Tryz.prog 3 w3 tb 1 (.int .i64 ((Wit.frm ks:Nat):Int))=some (put w3 tb (.cells (twC (.slice ka ks.length kc) (Wit.frm ks) top (.slice none 0 0) (.bool false) (.slice none 0 0) (.pointer none) (.pointer none)) 96 (0,0))):=by
      rw[wrO_row t3,stO_one Tryz.sz3 rfl (by simp)];rfl
     have hsz3:w2.heap.size≤w3.heap.size:=f3.size
     have fp4:Fr (fun b=>b=tb) w3 (put w3 tb (.cells (twC (.slice ka ks.length kc) (Wit.frm ks) top (.slice none 0 0) (.bool false) (.slice none 0 0) (.pointer none) (.pointer none)) 96 (0,0))):=(Fr.refl _ _).put (b:=tb) _ fun _=>rfl
     have t4:=put_at (o:=.cells (twC (.slice ka ks.length kc) (Wit.frm ks) top (.slice none 0 0) (.bool false) (.slice none 0 0) (.pointer none) (.pointer none)) 96 (0,0)) t3
     have h4:Rdr u (put w3 tb (.cells (twC (.slice ka ks.length kc) (Wit.frm ks) top (.slice none 0 0) (.bool false) (.slice none 0 0) (.pointer none) (.pointer none)) 96 (0,0))) rb bs bv gv:=(h2.fr f3 fun _ _ h=>h).fr fp4 fun b hb e=>by omega
     have g4:=Nw.fr (Nw.fr0 g2 f3) fp4 fun b hb e=>by have:=hgl b hb;omega
     have f14:=(f12.trans' f3 fun _ _ h=>h.elim).put (b:=tb) (.cells (twC (.slice ka ks.length kc) (Wit.frm ks) top (.slice none 0 0) (.bool false) (.slice none 0 0) (.pointer none) (.pointer none)) 96 (0,0)) fun h=>by omega
     have hsz4:(put w3 tb (.cells (twC (.slice ka ks.length kc) (Wit.frm ks) top (.slice none 0 0) (.bool false) (.slice none 0 0) (.pointer none) (.pointer none)) 96 (0,0))).heap.size=w3.heap.size:=by simp[put]
     simp -implicitDefEqProofs only[go_sem,Nat.reduceEqDiff,Nat.reduceAdd,gLa,gLz,gLs,q3]
     have hf:=Wit.frm_bound ha hs (by omega)
     generalize put w3 tb (.cells (twC (.slice ka ks.length kc) (Wit.frm ks) top (.slice none 0 0) (.bool false) (.slice none 0 0) (.pointer none) (.pointer none)) 96 (0,0))=w4 at *
     have r14:=r1 w4 h4.2.1
     by_cases h2x:x.toNat=2
     ·have hl:=hc.1 h2x
      obtain rfl:x=2:=BitVec.eq_of_toNat_eq h2x
      have e1:((((2:Byte).toNat:Int)) != 2)=false:=rfl
      have hp:=Wit.parse_fork (w:=wd) (n:=n) (ks:=ks) (top:=top) (bs:=bs) hl
      have hlt:=Wit.lefts_lt ha hl
      have hlp:=Wit.lefts_pos ha hl
      have hfp:=Wit.frm_pos ha hl
      have hfl:=Wit.frm_le ha hl
      have enl:¬ ks.length<2:=by omega
      simp -implicitDefEqProofs only[go_sem,Nat.reduceEqDiff,Nat.reduceAdd,gLa,gLz,gLs,y0,r14,e1,enl]
      refine contL_call Tryz.pl173 ((rnbrs u w4 wd h4 hb g4 (by omega) (fun b hb=>⟨hgn b hb,by have:=hgl b hb;omega⟩) (by omega) (by omega) t4 (by omega) ht).mono ?_)
      rintro r w7 ⟨f7,h7⟩
      have f17:Fr (fun b=>b=rb∨blockOf gv=some b) w0 w7:=f14.trans' f7 fun b hb h=>by
       rcases h with h | h | h
       ·exact .inl h
       ·omega
       ·exact .inr h
      have hsz7:w4.heap.size≤w7.heap.size:=f7.size
      cases hn7:Wit.nearP wd (Wit.frm ks) top bs with
      | none =>
       rw[hn7] at h7
       subst h7
       simp -implicitDefEqProofs only[go_sem,Nat.reduceEqDiff,Nat.reduceAdd,gLa,gLz,gLs]
       exact fno (by rw[hp,hn7];rfl) _ _ rfl f17
      | some pn =>
       rw[hn7] at h7
       obtain⟨rfl,nv,nb,no,gv7,R7,G7,gn7,go7,t7,N7,hv7⟩:=h7
       obtain⟨ok7,bk7⟩:=gps_ok (by omega) ht hn7 N7 hv7
       have nlt:=fun b (hb:blockOf nv=some b)=>N7.lt hb
       have r7:=rdO_row (P:=Tryz.prog) t7
       have len7:=(nearP_gs (by omega) ht hn7).1
       have c1:IntKind.i64.wrap (((Wit.frm ks:Nat):Int) - 1)=((Wit.frm ks - 1:Nat):Int):=i64sub (b:=1) (by omega) (by omega)
       have s1:=slc_hi (P:=Tryz.prog) Tryz.slc24 Tryz.arr24 Tryz.sz34 (a:=ka) (show Wit.lefts ks≤ks.length by omega) hkc
       have s2:=slc_lo (P:=Tryz.prog) Tryz.slc24 Tryz.arr24 Tryz.sz34 (a:=ka) (show Wit.lefts ks≤ks.length by omega) hkc
       have k1:=RdD.cutV hk (Nat.zero_le (Wit.lefts ks)) (by omega) rfl
       have k2:=RdD.cutV hk (show Wit.lefts ks≤ks.length by omega) (Nat.le_refl _) rfl
       rw[List.drop_zero,Nat.sub_zero] at k1
       rw[List.take_of_length_le (by rw[List.length_drop];omega)] at k2
       have hl1:(ks.take (Wit.lefts ks)).length=Wit.lefts ks:=by rw[List.length_take];omega
       have hl2:(ks.drop (Wit.lefts ks)).length=ks.length - Wit.lefts ks:=by rw[List.length_drop]
       have e256:256 - (Wit.frm ks - 1)=257 - Wit.frm ks:=by omega
       simp -implicitDefEqProofs only[go_sem,Nat.reduceEqDiff,Nat.reduceAdd,gLa,gLz,gLs,r7,ldO_one,c1,s1]
       have hr7d:Rdr u w7.drew rb pn.2.2 bv gv7:=R7.fr (F:=fun _=>False) (Fr.refl _ _).drew fun _ _ h=>h
       have hg7d:GvAt u w7.drew gv7 (ps++gps (Wit.frm ks) nb no pn.2.1):=Nw.fr0 G7 (Fr.refl _ _).drew
       have hlg:(gps (Wit.frm ks) nb no pn.2.1).length=pn.2.1.length:=by simp[gps]
       refine contL_call Tryz.pl112 ((ih w7.drew (by omega) hr7d hb k1 hg7d (by rw[List.length_append,hlg,hl1];omega) (ha.take _) (by omega) (by rw[e256];exact Wit.shr_take ha hl) (by omega) (fun b hb=>(go7 b hb).1)).mono ?_)
       rintro r w8 ⟨f8,h8⟩
       have t8:w8.heap[tb]?=_:=f8.at (w:=w7.drew) t7 fun e=>by
        rcases e with e | e
        ·omega
        ·exact (go7 tb e).2.1 rfl
       have f18:Fr (fun b=>b=rb∨blockOf gv=some b) w0 w8:=f17.drew.trans' f8 fun b hb h=>by
        rcases h with h | h
        ·exact .inl h
        ·rcases gn7 b h with h | h
         ·exact .inr h
         ·omega
       have hsz8:w7.heap.size≤w8.heap.size:=f8.size
       have htl8:=heap_lt t8
       have stL:∀ p,one p=true→wrO Tryz.prog 91 w8 tb 6 p=some (put w8 tb (.cells (twC (.slice ka ks.length kc) (Wit.frm ks) top nv (.bool false) (.slice none 0 0) p (.pointer none)) 96 (0,0))):=fun p hp=>by
        rw[wrO_row t8,stO_one Tryz.sz91 hp (by simp)];rfl
       cases hL:Wit.parse wd n (ks.take (Wit.lefts ks)) (Wit.frm ks - 1) pn.2.2 with
       | none =>
        rw[hL] at h8
        obtain⟨p8,hp8,rfl⟩:=h8
        have q8:=stL p8 hp8
        simp -implicitDefEqProofs only[go_sem,Nat.reduceEqDiff,Nat.reduceAdd,gLa,gLz,gLs,q8]
        exact fno (by rw[hp,hn7,Option.bind_some,hL];rfl) _ _ rfl (f18.put (b:=tb) _ fun h=>by omega)
       | some pL =>
        rw[hL] at h8
        obtain⟨lb,B8,gv8,ps8,rfl,T8,nd8,bd8,R8,G8,gn8,ok8,in8⟩:=h8
        have q8:=stL (pt lb 0) rfl
        have t9:=put_at (o:=.cells (twC (.slice ka ks.length kc) (Wit.frm ks) top nv (.bool false) (.slice none 0 0) (pt lb 0) (.pointer none)) 96 (0,0)) t8
        have fp9:Fr (fun b=>b=tb) w8 (put w8 tb (.cells (twC (.slice ka ks.length kc) (Wit.frm ks) top nv (.bool false) (.slice none 0 0) (pt lb 0) (.pointer none)) 96 (0,0))):=(Fr.refl _ _).put (b:=tb) _ fun _=>rfl
        have hbd8:∀ b ∈ B8,w7.heap.size≤b∧b<w8.heap.size:=bd8
        have T9:=T8.fr fp9 fun b hb e=>by have:=hbd8 b hb;have:=heap_lt t7;omega
        have R9:=R8.fr fp9 fun b hb e=>by omega
        have gn8':∀ b,blockOf gv8=some b→b≠tb:=fun b hb e=>by
         rcases (gn8 b hb).1 with h | h
         ·exact (go7 b h).2.1 e
         ·have:=heap_lt t7;simp only[World.drew] at h;omega
        have G9:=Nw.fr G8 fp9 fun b hb e=>gn8' b hb e
        have ok9:=ok8.fr fp9 fun q hq e=>by have:=hbd8 _ (in8 q hq);have:=heap_lt t7;omega
        have f19:=f18.put (b:=tb) (.cells (twC (.slice ka ks.length kc) (Wit.frm ks) top nv (.bool false) (.slice none 0 0) (pt lb 0) (.pointer none)) 96 (0,0)) fun h=>by omega
        have hsz9:(put w8 tb (.cells (twC (.slice ka ks.length kc) (Wit.frm ks) top nv (.bool false) (.slice none 0 0) (pt lb 0) (.pointer none)) 96 (0,0))).heap.size=w8.heap.size:=by simp[put]
        have f79:Fr (fun b=>b=rb∨blockOf gv7=some b∨b=tb) w7 (put w8 tb (.cells (twC (.slice ka ks.length kc) (Wit.frm ks) top nv (.bool false) (.slice none 0 0) (pt lb 0) (.pointer none)) 96 (0,0))) :=
         ((Fr.refl _ _).drew.trans' f8 fun b _ h=>by rcases h with h | h;exact .inl h;exact .inr (.inl h)).put (b:=tb) _ fun _=>.inr (.inr rfl)
        have lenL:=parse_len (ha.take _) (by omega) hL
        rw[hl1] at lenL
        simp -implicitDefEqProofs only[go_sem,Nat.reduceEqDiff,Nat.reduceAdd,gLa,gLz,gLs,q8]
        generalize put w8 tb (.cells (twC (.slice ka ks.length kc) (Wit.frm ks) top nv (.bool false) (.slice none 0 0) (pt lb 0) (.pointer none)) 96 (0,0))=w9 at *
        have r9:=rdO_row (P:=Tryz.prog) t9
        simp -implicitDefEqProofs only[go_sem,Nat.reduceEqDiff,Nat.reduceAdd,gLa,gLz,gLs,r9,ldO_one,c1,s2]
        have hr9d:Rdr u w9.drew rb pL.2.2 bv gv8:=R9.fr (F:=fun _=>False) (Fr.refl _ _).drew fun _ _ h=>h
        have hg9d:GvAt u w9.drew gv8 (ps++gps (Wit.frm ks) nb no pn.2.1++ps8):=Nw.fr0 G9 (Fr.refl _ _).drew
        refine contL_call Tryz.pl112 ((ih w9.drew (by omega) hr9d hb k2 hg9d (by rw[List.length_append,List.length_append,hlg,hl2,ok8.1];omega) (ha.drop _) (by omega) (by rw[e256];exact Wit.shr_drop ha hl) (by omega) (fun b hb=>(gn8 b hb).2.1)).mono ?_)
        rintro r wa ⟨fa,h10⟩
        have ta:wa.heap[tb]?=_:=fa.at (w:=w9.drew) t9 fun e=>by
         rcases e with e | e
         ·omega
         ·exact gn8' tb e rfl
        have f1a:Fr (fun b=>b=rb∨blockOf gv=some b) w0 wa:=f19.drew.trans' fa fun b hb h=>by
         rcases h with h | h
         ·exact .inl h
         ·rcases (gn8 b h).1 with h | h
          ·rcases gn7 b h with h | h
           ·exact .inr h
           ·omega
          ·have:w7.heap.size≤b:=h
           omega
        have hsza:w9.heap.size≤wa.heap.size:=fa.size
        have stR:∀ p,one p=true→wrO Tryz.prog 91 wa tb 7 p=some (put wa tb (.cells (twC (.slice ka ks.length kc) (Wit.frm ks) top nv (.bool false) (.slice none 0 0) (pt lb 0) p) 96 (0,0))):=fun p hp=>by
         rw[wrO_row ta,stO_one Tryz.sz91 hp (by simp)];rfl
        cases hR:Wit.parse wd n (ks.drop (Wit.lefts ks)) (Wit.frm ks - 1) pL.2.2 with
        | none =>
         rw[hR] at h10
         obtain⟨p8,hp8,rfl⟩:=h10
         have qa:=stR p8 hp8
         simp -implicitDefEqProofs only[go_sem,Nat.reduceEqDiff,Nat.reduceAdd,gLa,gLz,gLs,qa]
         exact fno (by rw[hp,hn7,Option.bind_some,hL,Option.bind_some,hR];rfl) _ _ rfl (f1a.put (b:=tb) _ fun h=>by omega)
        | some pR =>
         rw[hR] at h10
         obtain⟨rbb,Ba,gva,psa,rfl,Ta,nda,bda,Ra,Ga,gna,oka,ina⟩:=h10
         have qa:=stR (pt rbb 0) rfl
         have tz:=put_at (o:=.cells (twC (.slice ka ks.length kc) (Wit.frm ks) top nv (.bool false) (.slice none 0 0) (pt lb 0) (pt rbb 0)) 96 (0,0)) ta
         have fpz:Fr (fun b=>b=tb) wa (put wa tb (.cells (twC (.slice ka ks.length kc) (Wit.frm ks) top nv (.bool false) (.slice none 0 0) (pt lb 0) (pt rbb 0)) 96 (0,0))):=(Fr.refl _ _).put (b:=tb) _ fun _=>rfl
         have hbda:∀ b ∈ Ba,w9.heap.size≤b∧b<wa.heap.size:=bda
         have htl7:=heap_lt t7
         have hsz79:w7.heap.size≤w9.heap.size:=by omega
         simp -implicitDefEqProofs only[go_sem,Nat.reduceEqDiff,Nat.reduceAdd,gLa,gLz,gLs,qa]
         have f7z:Fr (fun b=>b=rb∨blockOf gv7=some b∨blockOf gv8=some b∨b=tb) w7 (put wa tb (.cells (twC (.slice ka ks.length kc) (Wit.frm ks) top nv (.bool false) (.slice none 0 0) (pt lb 0) (pt rbb 0)) 96 (0,0))) :=
          (((f79.mono fun b _ h=>by rcases h with h | h | h;exact .inl h;exact .inr (.inl h);exact .inr (.inr (.inr h))).drew).trans' fa fun b _ h=>by rcases h with h | h;exact .inl h;exact .inr (.inr (.inl h))).put (b:=tb) _ fun _=>.inr (.inr (.inr rfl))
         have gn8n:∀ b,blockOf nv=some b→blockOf gv8≠some b:=fun b hb h=>by
          rcases (gn8 b h).1 with h | h
          ·exact (go7 b h).2.2 hb
          ·have:=nlt b hb
           have:w7.heap.size≤b:=h
           omega
         have nok:∀ b,blockOf nv=some b→¬ (b=rb∨blockOf gv7=some b∨blockOf gv8=some b∨b=tb):=fun b hb e=>by
          have:=nlt b hb
          rcases e with e | e | e | e
          ·omega
          ·exact (go7 b e).2.2 hb
          ·exact gn8n b hb e
          ·omega
         refine⟨f1a.put (b:=tb) _ fun h=>by omega,?_⟩
         rw[hp,hn7,Option.bind_some,hL,Option.bind_some,hR,Option.map_some]
         have f9a:Fr (fun b=>b=rb∨blockOf gv8=some b∨b=tb) w9 (put wa tb (.cells (twC (.slice ka ks.length kc) (Wit.frm ks) top nv (.bool false) (.slice none 0 0) (pt lb 0) (pt rbb 0)) 96 (0,0))) :=
          ((Fr.refl _ _).drew.trans' fa fun b _ h=>by rcases h with h | h;exact .inl h;exact .inr (.inl h)).put (b:=tb) _ fun _=>.inr (.inr rfl)
         have b8ok:∀ b ∈ B8,¬ (b=rb∨blockOf gv8=some b∨b=tb):=fun b hb e=>by
          have:=hbd8 b hb
          rcases e with e | e | e
          ·omega
          ·exact (gn8 b e).2.2 hb
          ·omega
         refine⟨tb,tb::((blockOf nv).toList++(B8++Ba)),gva,gps (Wit.frm ks) nb no pn.2.1++(ps8++psa),rfl,
          ⟨_,nv,_,_,lb,rbb,_,B8,Ba,rfl,tz,hk,(N7.fr f7z nok).back (Nat.zero_le _),fun b hb=>by simp[hb],T9.fr f9a b8ok,Ta.fr fpz fun b hb e=>by have:=hbda b hb;omega⟩,?_,?_,Ra.fr fpz fun b hb e=>by omega,?_,?_,?_,?_⟩
         ·rw[List.nodup_cons]
          refine⟨fun h=>?_,?_⟩
          ·rcases List.mem_append.1 h with h | h
           ·have:=nlt tb (by simpa using h);omega
           ·rcases List.mem_append.1 h with h | h
            ·have:=hbd8 tb h;omega
            ·have:=hbda tb h;omega
          ·rw[List.nodup_append]
           refine⟨by cases blockOf nv <;> simp,?_,fun a ha b hb e=>?_⟩
           ·rw[List.nodup_append]
            exact⟨nd8,nda,fun a ha b hb e=>by have:=hbd8 a ha;have:=hbda b hb;omega⟩
           ·have:=nlt a (by simpa using ha)
            rcases List.mem_append.1 hb with h | h
            ·have:=hbd8 b h;omega
            ·have:=hbda b h;omega
         ·have hzs:(put wa tb (.cells (twC (.slice ka ks.length kc) (Wit.frm ks) top nv (.bool false) (.slice none 0 0) (pt lb 0) (pt rbb 0)) 96 (0,0))).heap.size=wa.heap.size:=by simp[put]
          intro b hb
          rw[hzs]
          rcases List.mem_cons.1 hb with rfl | hb
          ·omega
          ·rcases List.mem_append.1 hb with h | h
           ·have:=nlt b (by simpa using h);omega
           ·rcases List.mem_append.1 h with h | h
            ·have:=hbd8 b h;omega
            ·have:=hbda b h;omega
         ·have:ps++(gps (Wit.frm ks) nb no pn.2.1++(ps8++psa))=ps++gps (Wit.frm ks) nb no pn.2.1++ps8++psa:=by simp
          rw[this]
          exact Nw.fr Ga fpz fun b hb e=>by
           rcases (gna b hb).1 with h | h
           ·exact gn8' b h e
           ·have:w9.heap.size≤b:=h
            omega
         ·intro b hb
          have hbb:(blockOf gv=some b∨w0.heap.size≤b):=by
           rcases (gna b hb).1 with h | h
           ·rcases (gn8 b h).1 with h | h
            ·exact (gn7 b h).imp id fun h=>by omega
            ·have:w7.heap.size≤b:=h
             right;omega
           ·have:w9.heap.size≤b:=h
            right;omega
          refine⟨hbb,(gna b hb).2.1,fun h=>?_⟩
          rcases List.mem_cons.1 h with e | h
          ·rcases (gna b hb).1 with h | h
           ·exact gn8' b h e
           ·have:w9.heap.size≤b:=h
            omega
          ·rcases List.mem_append.1 h with h | h
           ·have hnb:blockOf nv=some b:=by simpa using h
            rcases (gna b hb).1 with h | h
            ·exact gn8n b hnb h
            ·have:w9.heap.size≤b:=h
             have:=nlt b hnb;omega
           ·rcases List.mem_append.1 h with h | h
            ·rcases (gna b hb).1 with h' | h'
             ·exact (gn8 b h').2.2 h
             ·have:w9.heap.size≤b:=h'
              have:=hbd8 b h;omega
            ·exact (gna b hb).2.2 h
         ·refine (ok7.fr f7z fun q hq=>nok _ (bk7 q hq)).app ((ok9.fr f9a fun q hq=>b8ok _ (in8 q hq)).app (oka.fr fpz fun q hq e=>by have:=hbda _ (ina q hq);omega))
         ·intro q hq
          rcases List.mem_append.1 hq with hq | hq
          ·have:=bk7 q hq;simp[this]
          ·rcases List.mem_append.1 hq with hq | hq
           ·have:=in8 q hq;simp[this]
           ·have:=ina q hq;simp[this]
     ·have hl:¬ 1<ks.length:=fun h=>h2x (hc.2 h)
      have e1:(((x.toNat:Int)) != 2)=true:=by rw[bne_iff_ne];omega
      have hp:=Wit.parse_leaf (w:=wd) (n:=n) (ks:=ks) (top:=top) (x:=x) (bs:=bs) (by omega) hl
      simp -implicitDefEqProofs only[go_sem,Nat.reduceEqDiff,Nat.reduceAdd,gLa,gLz,gLs,y0,r14,e1]
      refine contL_call Tryz.pl172 ((ransw u w4 h4 x).mono ?_)
      rintro r w5 ⟨f5,h5⟩
      have t5:=f5.at t4 (fun e=>by omega)
      have f15:=f14.trans' f5 fun b _ h=>.inl h
      cases ha5:Wit.ansP x.toNat bs with
      | none =>
       rw[ha5] at h5
       obtain⟨fb,vv,hvv,rfl⟩:=h5
       have q5:wrO Tryz.prog 69 w5 tb 4 (.agg #[.bool fb,vv])=some (put w5 tb (.cells (twC (.slice ka ks.length kc) (Wit.frm ks) top (.slice none 0 0) (.bool fb) vv (.pointer none) (.pointer none)) 96 (0,0))):=by
        rw[wrO_row t5,stO_agg Tryz.sz69 (by rw[← Array.all_toList];simp only[List.all_cons,List.all_nil,hvv];rfl) (by simp)];rfl
       simp -implicitDefEqProofs only[go_sem,Nat.reduceEqDiff,Nat.reduceAdd,gLa,gLz,gLs,q5]
       exact fno (by rw[hp,ha5];rfl) _ _ rfl (f15.put (b:=tb) _ fun h=>by omega)
      | some pa =>
       rw[ha5] at h5
       obtain⟨av,rfl,⟨vv,rfl,v5⟩,h5⟩:=h5
       obtain⟨va,vc,hvv⟩:=v5.slice
       have q5:wrO Tryz.prog 69 w5 tb 4 (.agg #[.bool pa.1.isSome,vv])=some (put w5 tb (.cells (twC (.slice ka ks.length kc) (Wit.frm ks) top (.slice none 0 0) (.bool pa.1.isSome) vv (.pointer none) (.pointer none)) 96 (0,0))):=by
        rw[wrO_row t5,stO_agg Tryz.sz69 (by simp[hvv,one]) (by simp)];rfl
       have fp6:Fr (fun b=>b=tb) w5 (put w5 tb (.cells (twC (.slice ka ks.length kc) (Wit.frm ks) top (.slice none 0 0) (.bool pa.1.isSome) vv (.pointer none) (.pointer none)) 96 (0,0))):=(Fr.refl _ _).put (b:=tb) _ fun _=>rfl
       have t6:=put_at (o:=.cells (twC (.slice ka ks.length kc) (Wit.frm ks) top (.slice none 0 0) (.bool pa.1.isSome) vv (.pointer none) (.pointer none)) 96 (0,0)) t5
       have h6:=h5.fr fp6 fun b hb e=>by omega
       have hsz5:w4.heap.size≤w5.heap.size:=f5.size
       have vlt:=fun b (hb:blockOf vv=some b)=>v5.lt hb
       have v6:=v5.fr fp6 fun b hb e=>by have:=vlt b hb;omega
       have g6:=Nw.fr (Nw.fr g4 f5 fun b hb e=>hgn b hb e) fp6 fun b hb e=>by have:=hgl b hb;omega
       have f16:=f15.put (b:=tb) (.cells (twC (.slice ka ks.length kc) (Wit.frm ks) top (.slice none 0 0) (.bool pa.1.isSome) vv (.pointer none) (.pointer none)) 96 (0,0)) fun h=>by omega
       have hsz6:(put w5 tb (.cells (twC (.slice ka ks.length kc) (Wit.frm ks) top (.slice none 0 0) (.bool pa.1.isSome) vv (.pointer none) (.pointer none)) 96 (0,0))).heap.size=w5.heap.size:=by simp[put]
       simp -implicitDefEqProofs only[go_sem,Nat.reduceEqDiff,Nat.reduceAdd,gLa,gLz,gLs,q5]
       generalize put w5 tb (.cells (twC (.slice ka ks.length kc) (Wit.frm ks) top (.slice none 0 0) (.bool pa.1.isSome) vv (.pointer none) (.pointer none)) 96 (0,0))=w6 at *
       have e0:Wit.frm ks=0:=Wit.frm_one (by omega)
       rw[e0] at t6
       refine contL_call Tryz.pl173 ((rnbrs u w6 wd h6 hb g6 (by omega) (fun b hb=>⟨hgn b hb,by have:=hgl b hb;omega⟩) (by omega) (by omega) t6 (by omega) ht).mono ?_)
       rintro r w7 ⟨f7,h7⟩
       have f17:Fr (fun b=>b=rb∨blockOf gv=some b) w0 w7:=f16.trans' f7 fun b hb h=>by
        rcases h with h | h | h
        ·exact .inl h
        ·omega
        ·exact .inr h
       have hsz7:w6.heap.size≤w7.heap.size:=f7.size
       cases hn7:Wit.nearP wd 0 top pa.2 with
       | none =>
        rw[hn7] at h7
        subst h7
        simp -implicitDefEqProofs only[go_sem,Nat.reduceEqDiff,Nat.reduceAdd,gLa,gLz,gLs]
        exact fno (by rw[hp,ha5,Option.bind_some,hn7];rfl) _ _ rfl f17
       | some pn =>
        rw[hn7] at h7
        obtain⟨rfl,nv,nb,no,gv7,R7,G7,gn7,go7,t7,N7,hv7⟩:=h7
        simp -implicitDefEqProofs only[go_sem,Nat.reduceEqDiff,Nat.reduceAdd,gLa,gLz,gLs]
        refine⟨f17,?_⟩
        rw[hp,ha5,Option.bind_some,hn7,Option.map_some]
        obtain⟨ok7,bk7⟩:=gps_ok (by omega) ht hn7 N7 hv7
        have nlt:=fun b (hb:blockOf nv=some b)=>N7.lt hb
        have v7:=v6.fr f7 fun b hb e=>by
         have:=vlt b hb
         rcases e with e | e | e
         ·omega
         ·omega
         ·have:=hgl b e;omega
        obtain⟨k,rfl⟩:=List.length_eq_one_iff.1 (show ks.length=1 by omega)
        refine⟨tb,tb::((blockOf nv).toList++(blockOf vv).toList),gv7,gps 0 nb no pn.2.1,rfl,⟨_,nv,vv,_,_,rfl,t7,hk,N7.back (Nat.zero_le _),fun b hb=>by simp[hb],v7.by,fun b hb=>by simp[hb]⟩,?_,?_,R7,G7,?_,ok7,fun q hq=>?_⟩
        ·rw[List.nodup_cons]
         refine⟨fun h=>?_,?_⟩
         ·rcases List.mem_append.1 h with h | h
          ·have:=nlt tb (by simpa using h);omega
          ·have:=vlt tb (by simpa using h);omega
         ·rw[List.nodup_append]
          refine⟨by cases blockOf nv <;> simp,by cases blockOf vv <;> simp,fun a ha b hb e=>?_⟩
          have:=nlt a (by simpa using ha)
          have:=vlt b (by simpa using hb)
          omega
        ·intro b hb
         rcases List.mem_cons.1 hb with rfl | hb
         ·have:=heap_lt t7;omega
         ·rcases List.mem_append.1 hb with h | h
          ·have:=nlt b (by simpa using h);omega
          ·have:=vlt b (by simpa using h);omega
        ·intro b hb
         refine⟨(gn7 b hb).imp id fun h=>by omega,(go7 b hb).1,fun h=>?_⟩
         rcases List.mem_cons.1 h with rfl | h
         ·exact (go7 b hb).2.1 rfl
         ·rcases List.mem_append.1 h with h | h
          ·exact (go7 b hb).2.2 (by simpa using h)
          ·have:=vlt b (by simpa using h)
           rcases gn7 b hb with h | h
           ·have:=hgl b h;omega
           ·omega
        ·have:=bk7 q hq
         simp[this]
    ·have hz : (!(((x.toNat : Int) == 2) == decide (((ks.length : Nat) : Int) > 1))) = true := by
       by_cases h2 : x.toNat = 2
       · have h3 : ¬ 1 < ks.length := fun h => hc ⟨fun _ => h,fun _ => h2⟩
         have e1 : ((x.toNat : Int) == 2) = true := by rw [h2]; rfl
         have e2 : decide (((ks.length : Nat) : Int) > 1) = false := by simp; omega
         rw [e1,e2]; rfl
       · have h3 : 1 < ks.length := by
           by_cases h3 : 1 < ks.length
           · exact h3
           · exact absurd ⟨fun h => absurd h h2,fun h => absurd h h3⟩ hc
         have e1 : ((x.toNat : Int) == 2) = false := by rw [beq_eq_false_iff_ne]; omega
         have e2 : decide (((ks.length : Nat) : Int) > 1) = true := by simp; omega
         rw [e1,e2]; rfl
     simp -implicitDefEqProofs only[go_sem,Nat.reduceEqDiff,gLa,gLz,gLs,beq_self_eq_true,bne_self_eq_false,y0,r11,d1,hz]
     exact fno (by simp only[Wit.parse,List.getD_cons_zero];rw[if_neg (by simp),if_pos (.inr hc)]) _ _ rfl f1'
end Go.V
end
