/-
 Helpers: ReadF, FoldD.
-/
import Derived.Test.YtmenaeggoakppaaGreatDoorB24
set_option linter.all false
section
namespace Go.V
open Go.Proofs Sha
set_option maxRecDepth 100000
theorem gcells_at:∀ (ps:List (Nat × Nat × Nat)) (i:Nat) (h:i<ps.length),(gcells ps)[i*2]?=some (.int .i64 ((ps[i].1:Nat):Int))∧(gcells ps)[i*2+1]?=some (pt ps[i].2.1 ps[i].2.2)
 | p::ps,0,_=>⟨rfl,rfl⟩
 | p::ps,i+1,h=>by
  have:=gcells_at ps i (by simpa using h)
  rw[show (i+1)*2=i*2+1+1 by omega]
  simp only[gcells,List.map_cons,List.flatten_cons,List.cons_append,List.nil_append,List.getElem?_cons_succ,List.getElem_cons_succ] at this ⊢
  exact this
theorem gv_get {w:World} {b o n cap:Nat} {ps:List (Nat × Nat × Nat)} (h:Rd w 2 (.slice (some ⟨b,o,none⟩) n cap) ps.length (gcells ps)) {i:Nat} (hi:i<ps.length):rdO Tryz.prog 196 w b (o+i*2)=some (.agg #[.int .i64 ((ps[i].1:Nat):Int),pt ps[i].2.1 ps[i].2.2]):=by
 obtain⟨h1,a,cap',he,hcap,hat⟩:=h
 cases he
 obtain⟨b',o',he,hat⟩:=hat (by omega)
 cases he
 obtain⟨g1,g2⟩:=gcells_at ps i hi
 refine rd_rcs (n:=2) Tryz.agg196 Tryz.sz196 rfl (by decide) fun j hj=>?_
 rw[Nat.add_assoc,hat _ (by omega)]
 obtain rfl | rfl:j=0∨j=1:=by omega
 ·rw[Nat.add_zero,g1];rfl
 ·rw[g2];rfl
/-- a tree handed out: new memory since w0 -/
def TwX (w0 w:World) (v:Value) (t:Wit.Tw):Prop:=∃ u tb B,v=pt tb 0∧No w0 u∧No u w∧TwM u w tb t B∧B.Nodup∧∀ b ∈ B,u.heap.size≤b∧b<w.heap.size
theorem TwX.fr0 {w0 w w':World} {v:Value} {t:Wit.Tw} (h:TwX w0 w v t) (k:No w w'):TwX w0 w' v t:=by
 obtain⟨u,tb,B,h1,h2,h3,h4,h5,h6⟩:=h
 exact⟨u,tb,B,h1,h2,h3.trans k,h4.fr0 k,h5,fun b hb=>by have:=h6 b hb;have:=k.size;omega⟩
theorem TwX.back {w0 w u:World} {v:Value} {t:Wit.Tw} (h:TwX w0 w v t) (k:No u w0):TwX u w v t:=by
 obtain⟨u',tb,B,h1,h2,h3⟩:=h
 exact⟨u',tb,B,h1,k.trans h2,h3⟩
def RdQ (w0:World) (wd:Int) (ks:List Bs) (raw:Bs) (r:Value) (w':World):Prop:=No w0 w'∧match Wit.form wd ks raw with
 | .error e=>r=.tuple #[.pointer none,.int .i64 e]
 | .ok none=>r=.tuple #[.pointer none,.int .i64 0]
 | .ok (some t)=>∃ v,r=.tuple #[v,.int .i64 0]∧TwX w0 w' v t
def rdI (wa:World) (wd:Int) (rb tb:Nat) (gv:Value) (gs:List (Nat × Bs)) (n:Nat) (vs:List Value) (w:World):Prop :=
 ∃ (i:Nat) (x:Value),vs=[.int .i64 wd,pt rb 0,pt tb 0,x,gv,.int .i64 (gs.length:Nat),.int .i64 (i:Nat)]∧i≤gs.length∧n=gs.length - i∧Wit.chk wd gs=Wit.chk wd (gs.drop i)∧No wa w
theorem rread (w0 : World) (ht : Tabs w0) (wd : Int) {kv rawv : Value} {ks : List Bs} {raw : Bs} (hk : RdD w0 kv ks) (hr : By w0 rawv raw) (ha : Wit.Asc ks) (hl : ks.length ≤ 64) :
    Fn Tryz.prog 62 #[.int .i64 wd,kv,rawv] w0 (RdQ w0 wd ks raw) := by
 refine Tryz.go62 (by simp) ?_
 obtain⟨ka,kc,rfl,hkc⟩:=hk.slice
 obtain⟨ra,rc,rfl,hrc⟩:=hr.slice
 simp -implicitDefEqProofs only[go_sem,Nat.reduceEqDiff,Nat.reduceBEq,Tryz.f62]
 by_cases h0:ks=[]
 ·subst h0
  have d1:(((([]:List Bs).length:Nat):Int) == 0)=true:=rfl
  by_cases hr0:raw=[]
  ·subst hr0
   have d2:decide (((([]:Bs).length:Nat):Int) > 0)=false:=rfl
   simp -implicitDefEqProofs only[go_sem,Nat.reduceEqDiff,Nat.reduceBEq,d1,d2]
   exact⟨Fr.refl _ _,rfl⟩
  ·have d2:decide (((raw.length:Nat):Int) > 0)=true:=by have:=List.length_pos_iff.2 hr0;simp;omega
   simp -implicitDefEqProofs only[go_sem,Nat.reduceEqDiff,Nat.reduceBEq,d1,d2]
   refine⟨Fr.refl _ _,?_⟩
   unfold Wit.form
   rw[if_pos rfl,if_neg hr0]
 ·have hp:0<ks.length:=List.length_pos_iff.2 h0
  have d1:(((ks.length:Nat):Int) == 0)=false:=by rw[beq_eq_false_iff_ne];omega
  simp -implicitDefEqProofs only[go_sem,Nat.reduceEqDiff,Nat.reduceBEq,d1]
  refine contL_call Tryz.pl64 ((empties w0 ht wd).mono ?_)
  rintro bv w1 ⟨b1,f1⟩
  obtain⟨ba,bc,rfl,hbc⟩:=b1.rd.slice
  have bl:bldO Tryz.prog 191 [(0,.slice ra raw.length rc),(1,.slice ba (empts wd 257).length bc)]=some (.agg #[.slice ra raw.length rc,.slice ba (empts wd 257).length bc,.slice none 0 0]):=rfl
  have f2:No w1 (w1.alloc (.cells #[.slice ra raw.length rc,.slice ba (empts wd 257).length bc,.slice none 0 0] 191)):=(Fr.refl _ _).alloc _
  have k2:=alloc_blk_new w1 (.cells #[.slice ra raw.length rc,.slice ba (empts wd 257).length bc,.slice none 0 0] 191)
  have r2:Rdr w1 (w1.alloc (.cells #[.slice ra raw.length rc,.slice ba (empts wd 257).length bc,.slice none 0 0] 191)) w1.heap.size raw (.slice ba (empts wd 257).length bc) (.slice none 0 0):=⟨Nat.le_refl _,f2,_,k2,hr.fr0 f1⟩
  simp -implicitDefEqProofs only[go_sem,Nat.reduceEqDiff,Nat.reduceBEq,bl,Value.cells]
  generalize w1.alloc (.cells #[.slice ra raw.length rc,.slice ba (empts wd 257).length bc,.slice none 0 0] 191)=w2 at *
  have g2:GvAt w1 w2 (.slice none 0 0) []:=Nw.nil _ _ _ _
  refine contL_call Tryz.pl112 ((rtwig w1 wd ks.length w2 (Nat.le_refl _) r2 b1.rd (hk.fr0 f1) g2 (by simp;omega) ha hp (Wit.shr_zero ks) (Nat.le_refl _) (fun b hb=>by cases hb)).mono ?_)
  rintro r w3 ⟨f3,h3⟩
  have hs1:w0.heap.size≤w1.heap.size:=f1.size
  have f03:No w0 w3:=(f1.trans f2).trans' f3 fun b hb h=>by
   rcases h with h | h
   ·omega
   ·cases h
  cases hpz:Wit.parse wd ks.length ks 256 raw with
  | none =>
   rw[hpz] at h3
   obtain⟨p,hp,rfl⟩:=h3
   simp -implicitDefEqProofs only[go_sem,Nat.reduceEqDiff,Nat.reduceBEq,gLa,gLz,gLs,beq_self_eq_true,bne_self_eq_false]
   refine⟨f03,?_⟩
   unfold Wit.form
   rw[if_neg h0,hpz]
  | some p =>
   rw[hpz] at h3
   obtain⟨tb,B,gv,ps,rfl,T3,nd3,bd3,R3,G3,gn3,ok3,in3⟩:=h3
   obtain⟨e1,e2,rv,e3,e4⟩:=id R3
   obtain⟨rva,rvc,rfl,_⟩:=e4.slice
   have q3:=rdO_row (P:=Tryz.prog) e3
   by_cases hrest:p.2.2=[]
   ·have d2:decide (((p.2.2.length:Nat):Int) > 0)=false:=by rw[hrest];rfl
    rw[List.nil_append] at G3
    have hG:=G3.rd
    obtain⟨_,ga,gc,rfl,hgc,_⟩:=id hG
    simp -implicitDefEqProofs only[go_sem,Nat.reduceEqDiff,Nat.reduceBEq,gLa,gLz,gLs,beq_self_eq_true,bne_self_eq_false,q3,ldO_one,d2]
    have hgl:=ok3.1
    rw[hgl]
    refine loopD [0,8,9,12,43,44,45] (rdI w3 wd w1.heap.size tb (.slice ga ps.length gc) p.2.1) p.2.1.length ⟨0,_,by rw[hgl];rfl,by omega,rfl,rfl,Fr.refl _ _⟩ ?_
    rintro _ vs w4 g ⟨i,x,rfl,hi,rfl,hch,f4⟩
    have hfm:Wit.form wd ks raw=if Wit.chk wd p.2.1≠0 then .error (Wit.chk wd p.2.1) else .ok (some p.1):=by
     unfold Wit.form
     rw[if_neg h0,hpz]
     simp only[ne_eq,hrest,not_true_eq_false,if_false]
    have hpl:=parse_len ha hp hpz
    have hpo:=Wit.parse_ok ha hk.1 hp (Wit.shr_zero ks) (Nat.le_refl _) hpz
    by_cases hlt:i<p.2.1.length
    ·have d3:decide ((i:Int)<((p.2.1.length:Nat):Int))=true:=by simp;omega
     have hip:i<ps.length:=by omega
     obtain⟨gb,go,ge,hge⟩:∃ gb go ge,(.slice ga ps.length gc:Value)=.slice (some ⟨gb,go,none⟩) ps.length ge:=by
      obtain⟨_,a,c,he,_,hat⟩:=id hG
      obtain⟨b',o',rfl,_⟩:=hat (by omega)
      exact⟨b',o',c,by rw[he]⟩
     cases hge
     have y3:(0:Int)≤(i:Int)∧(i:Int)<((ps.length:Nat):Int):=by omega
     have r4:=gv_get (Rd.fr hG f4 fun _ _ _ h=>h) hip
     obtain⟨o1,o2⟩:=ok3.2 i hip hlt
     have hq:=hpo.2.2.2 _ (List.getElem_mem hlt)
     have hdrop:p.2.1.drop i=p.2.1[i]::p.2.1.drop (i+1):=List.drop_eq_getElem_cons hlt
     rw[hdrop] at hch
     have o2:=fun w (f:No w3 w)=>rdO_fr o2 f id
     rw[o1] at r4
     generalize p.2.1[i]=q at *
     obtain⟨h,d⟩:=q
     generalize ps[i].2.1=nb at *
     generalize ps[i].2.2=no at *
     have k5:=alloc_blk_new w4 (.cells #[.int .i64 0,.pointer none] 196)
     have q5:wrO Tryz.prog 196 (w4.alloc (.cells #[.int .i64 0,.pointer none] 196)) w4.heap.size 0 (.agg #[.int .i64 (h:Nat),pt nb no])=some (put (w4.alloc (.cells #[.int .i64 0,.pointer none] 196)) w4.heap.size (.cells #[.int .i64 (h:Nat),pt nb no] 196 (0,0))):=by
      rw[wrO_row k5,stO_agg Tryz.sz196 (by rw[← Array.all_toList];rfl) (by simp)];rfl
     simp -implicitDefEqProofs only[go_sem,Nat.reduceEqDiff,Nat.reduceBEq,Value.cells,d3,y3,r4,q5]
     have k6:=put_at (o:=.cells #[.int .i64 (h:Nat),pt nb no] 196 (0,0)) k5
     have f6:No w3 (put (w4.alloc (.cells #[.int .i64 0,.pointer none] 196)) w4.heap.size (.cells #[.int .i64 (h:Nat),pt nb no] 196 (0,0))):=(f4.alloc _).put (b:=w4.heap.size) _ fun h=>by have:=f4.size;omega
     generalize put (w4.alloc (.cells #[.int .i64 0,.pointer none] 196)) w4.heap.size (.cells #[.int .i64 (h:Nat),pt nb no] 196 (0,0))=w6 at *
     have r6:=rdO_row (P:=Tryz.prog) k6
     have o6:=o2 w6 f6
     refine den_ext (fun j=>j == 9) [0,1,2,3,4,5,6,7,8,9,10] rfl (by kernel_rfl) (by kernel_rfl) ?_
     simp -implicitDefEqProofs only[go_sem,Nat.reduceEqDiff,Nat.reduceBEq,gLa,gLz,gLs,r6,ldO_one,o6]
     refine contLX_call Tryz.pl113 ((dcut w6.drew wd hq.2).mono ?_)
     rintro _ w7 ⟨rfl,f7⟩
     refine⟨fun _=>Fr.ext f7,?_⟩
     have eq7:=eqDig hq.2 (cutD_len wd d)
     have f7':=f6.drew.trans f7
     rw[Wit.chk] at hch
     by_cases hd:d=cutD wd d
     ·have hb7:(d == cutD wd d)=true:=by rw[beq_iff_eq];exact hd
      rw[if_neg (show ¬ d≠cutD wd d from fun h=>h hd)] at hch
      have k7:=f7.at (w:=w6.drew) k6 id
      have r7:=rdO_row (P:=Tryz.prog) k7
      have o7:=o2 w7 f7'
      have rr7:=rdO_row (P:=Tryz.prog) (f7'.at e3 id)
      have hbe:(empts wd 257).length=257:=empts_len _ _
      obtain⟨bb,bo,be,hbb⟩:∃ bb bo be,(.slice ba (empts wd 257).length bc:Value)=.slice (some ⟨bb,bo,none⟩) (empts wd 257).length be:=by
       obtain⟨b',o',c,e,_⟩:=b1.rd.pos (by rw[hbe];omega)
       exact⟨b',o',c,e⟩
      cases hbb
      have rb7:=((b1.fr0 e2).fr0 f7').rd.get (P:=Tryz.prog) Tryz.agg23 Tryz.sz23 (i:=h) (by omega)
      have hem:(empts wd 257).getD h []=emptD wd h:=by rw[List.getD_eq_getElem?_getD,empts_at wd 257 (by omega)];rfl
      rw[hem] at rb7
      have y7:(0:Int)≤(h:Int)∧(h:Int)<(((empts wd 257).length:Nat):Int):=by omega
      have c1:IntKind.i64.wrap ((i:Int)+1)=((i+1:Nat):Int):=i64add (b:=1) (by omega)
      have eq8:=eqDig hq.2 (emptD_len wd h)
      simp -implicitDefEqProofs only[go_sem,Nat.reduceEqDiff,Nat.reduceBEq,gLa,gLz,gLs,eq7,hb7,r7,ldO_one,o7,rr7,y7,rb7,eq8,c1]
      by_cases hd2:d=emptD wd h
      ·have hb8:(d == emptD wd h)=true:=by rw[beq_iff_eq];exact hd2
       rw[if_pos (show d=emptD wd h from hd2)] at hch
       simp -implicitDefEqProofs only[go_sem,Nat.reduceEqDiff,Nat.reduceBEq,gLa,gLz,gLs,hb8]
       refine⟨f03.trans f7'.drew,?_⟩
       rw[hfm,hch];rfl
      ·have hb8:(d == emptD wd h)=false:=by rw[beq_eq_false_iff_ne];exact hd2
       rw[if_neg (show ¬ d=emptD wd h from hd2)] at hch
       simp -implicitDefEqProofs only[go_sem,Nat.reduceEqDiff,Nat.reduceBEq,gLa,gLz,gLs,hb8,c1]
       exact⟨p.2.1.length - (i+1),by omega,i+1,_,by rw[hgl],by omega,rfl,hch,f7'.drew⟩
     ·have hb7:(d == cutD wd d)=false:=by rw[beq_eq_false_iff_ne];exact hd
      rw[if_pos (show d≠cutD wd d from hd)] at hch
      simp -implicitDefEqProofs only[go_sem,Nat.reduceEqDiff,Nat.reduceBEq,gLa,gLz,gLs,eq7,hb7]
      refine⟨f03.trans f7',?_⟩
      rw[hfm,hch];rfl
    ·have d3:decide ((i:Int)<((p.2.1.length:Nat):Int))=false:=by simp;omega
     have e:i=p.2.1.length:=by omega
     subst e
     simp -implicitDefEqProofs only[go_sem,Nat.reduceEqDiff,Nat.reduceBEq,d3]
     refine⟨f03.trans f4,?_⟩
     rw[hfm,hch,List.drop_length]
     exact⟨pt tb 0,rfl,w1,tb,B,rfl,f1,e2.trans f4,T3.fr0 f4,nd3,fun b hb=>by have:=bd3 b hb;have:=f4.size;have:=f2.size;omega⟩
   ·have d2:decide (((p.2.2.length:Nat):Int) > 0)=true:=by have:=List.length_pos_iff.2 hrest;simp;omega
    simp -implicitDefEqProofs only[go_sem,Nat.reduceEqDiff,Nat.reduceBEq,gLa,gLz,gLs,beq_self_eq_true,bne_self_eq_false,q3,ldO_one,d2]
    refine⟨f03,?_⟩
    unfold Wit.form
    rw[if_neg h0,hpz]
    simp only[ne_eq,hrest,not_false_eq_true,if_true]
end Go.V
end
section
namespace Go.V
open Go.Proofs Sha
set_option maxRecDepth 100000
namespace Wit
variable {α:Type}
def passes (P:α→Bs→Nat→Bs→α) (k:Bs):Nat→α→List Bs→α
 | _,x,[]=>x
 | h,x,n::r=>passes P k (h+1) (P x k h n) r
def fold (E:Bs→Option Bs→α) (F:α→α→α) (P:α→Bs→Nat→Bs→α):Tw→α
 | .leaf k _ near a=>passes P k 0 (E k a) near
 | .fork ks f _ near l r=>passes P (ks.headD []) f (F (fold E F P l) (fold E F P r)) near
def AllG (G:α→Prop) (E:Bs→Option Bs→α) (F:α→α→α) (P:α→Bs→Nat→Bs→α):Tw→Prop
 | .leaf k _ near a=>∀ i,i≤near.length→G (passes P k 0 (E k a) (near.take i))
 | .fork ks f _ near l r=>AllG G E F P l∧AllG G E F P r∧∀ i,i≤near.length→G (passes P (ks.headD []) f (F (fold E F P l) (fold E F P r)) (near.take i))
theorem passes_snoc (P:α→Bs→Nat→Bs→α) (k:Bs):∀ (near:List Bs) (h:Nat) (x:α) (n:Bs),passes P k h x (near++[n])=P (passes P k h x near) k (h+near.length) n
 | [],_,_,_=>rfl
 | m::r,h,x,n=>by
  simp only[List.cons_append,passes,List.length_cons]
  rw[passes_snoc P k r,show h+1+r.length=h+(r.length+1) by omega]
end Wit
/-- an answer's value, read -/
def AnsR (w:World) (x:Value) (a:Option Bs):Prop:=∃ v,x=.agg #[.bool a.isSome,v]∧one v=true∧By w v (a.getD [])
theorem By.one {w:World} {v:Value} {bs:Bs} (h:By w v bs):V.one v=true:=by
 obtain⟨a,c,rfl,_⟩:=h.slice;rfl
theorem rd_whole {t:TypeId} {w:World} {b:Nat} {cs:Array Value} {e:TypeId} {fz:Nat × Nat} (ha:aggO Tryz.prog t=some true) (hs:szO Tryz.prog t=some cs.size) (h:w.heap[b]?=some (.cells cs e fz)):rdO Tryz.prog t w b 0=some (.agg cs):=by
 rw[rdO_row h,ldO_agg ha hs (by omega)]
 congr 2
 simp
/-- how the values of a type stand for things: their memory is new since a world -/
structure Rep (α:Type) (sz:Nat) where
 R:World→World→Value→α→Prop
 back:∀ {b b' w v x},R b w v x→b'.heap.size≤b.heap.size→R b' w v x
 fr:∀ {b w w' v x} {F:Nat→Prop},R b w v x→Fr F w w'→(∀ c,b.heap.size≤c→¬ F c)→R b w' v x
 agg:∀ {b w v x},R b w v x→∃ cs,v=.agg cs∧cs.size=sz∧cs.all V.one=true
section
variable {α:Type} (rep:Rep α 32) (G:α→Prop) (E:Bs→Option Bs→α) (F:α→α→α) (Pp:α→Bs→Nat→Bs→α) (ge gf gp:FuncId) (ce cf cp:Array Value) (u wb:World)
def fpID (bs w0:World) (b8 b9:Nat) (tbv pv nv:Value) (k:Bs) (f:Nat) (x0:α) (near:List Bs) (n:Nat) (vs:List Value) (w:World):Prop :=
 ∃ (i:Nat) (y z:Value) (cs:Array Value),vs=[tbv,pv,pt b8 0,pt b9 0,y,z,nv,.int .i64 (near.length:Nat),.int .i64 (i:Nat)]∧i≤near.length∧n=near.length - i∧w.heap[b9]?=some (.cells cs 23 (0,0))∧rep.R bs w (.agg cs) (Wit.passes Pp k f x0 (near.take i))∧No w0 w∧w.heap[b8]?=some (.cells (bl (List.replicate 32 0)) 23 (0,0))∧bs.heap.size≤w.heap.size
theorem foldD (pe : plainFn Tryz.prog ge = true) (pf : plainFn Tryz.prog gf = true) (pp : plainFn Tryz.prog gp = true)
    (hE : ∀ w k x a,No wb w → k.length = 32 → AnsR w x a → (∀ v,a = some v → v.length ≤ 128) → G (E k a) → Fn Tryz.prog ge (#[] ++ #[dg k,x] ++ ce) w fun v w' => rep.R w w' v (E k a) ∧ No w w')
    (hF : ∀ b w v1 x1 v2 x2,No wb w → b.heap.size ≤ w.heap.size → rep.R b w v1 x1 → rep.R b w v2 x2 → G (F x1 x2) → Fn Tryz.prog gf (#[] ++ #[v1,v2] ++ cf) w fun v w' => rep.R w w' v (F x1 x2) ∧ No w w')
    (hP : ∀ b w v x k h n,No wb w → b.heap.size ≤ w.heap.size → rep.R b w v x → k.length = 32 → h < 256 → n.length = 32 → G (Pp x k h n) → Fn Tryz.prog gp (#[] ++ #[v,dg k,.int .i64 ((h : Nat) : Int),dg n] ++ cp) w fun v w' => rep.R b w' v (Pp x k h n) ∧ Fr (fun c => b.heap.size ≤ c) w w') :
    ∀ (t : Wit.Tw) (tb : Nat) (B : List Nat) (w0 : World),TwM u w0 tb t B → t.Ok → No u w0 → No wb w0 → Wit.AllG G E F Pp t →
      Fn Tryz.prog 105 #[pt tb 0,.func (.func ge) #[] ce,.func (.func gf) #[] cf,.func (.func gp) #[] cp] w0 fun v w' => rep.R w0 w' v (Wit.fold E F Pp t) ∧ No w0 w' := by
 intro t
 induction t with
 | leaf k top near a =>
  intro tb B w0 hT hok hu hb hG
  obtain⟨kv,nv,vv,Bn,Bv,rfl,t0,hk,hn,_,hv,_⟩:=hT
  refine Tryz.go105 (by simp) ?_
  have f2:No w0 ((w0.alloc (.cells (bl (List.replicate 32 0)) 23)).alloc (.cells (bl (List.replicate 32 0)) 23)):=((Fr.refl _ _).alloc _).alloc _
  have k82:((w0.alloc (.cells (bl (List.replicate 32 0)) 23)).alloc (.cells (bl (List.replicate 32 0)) 23)).heap[w0.heap.size]?=some (.cells (bl (List.replicate 32 0)) 23 (0,0)):=alloc_at (alloc_blk_new _ _)
  have k92:((w0.alloc (.cells (bl (List.replicate 32 0)) 23)).alloc (.cells (bl (List.replicate 32 0)) 23)).heap[w0.heap.size+1]?=some (.cells (bl (List.replicate 32 0)) 23 (0,0)):=by
   have:=alloc_blk_new (w0.alloc (.cells (bl (List.replicate 32 0)) 23)) (.cells (bl (List.replicate 32 0)) 23)
   rw[alloc_heap_size] at this;exact this
  have hs2:((w0.alloc (.cells (bl (List.replicate 32 0)) 23)).alloc (.cells (bl (List.replicate 32 0)) 23)).heap.size=w0.heap.size+2:=by rw[alloc_heap_size,alloc_heap_size]
  simp -implicitDefEqProofs only[go_sem,Nat.reduceEqDiff,Nat.reduceBEq,Nat.reduceAdd,gLa,gLz,gLs,Tryz.f105,Value.cells,bl_zero]
  generalize (w0.alloc (.cells (bl (List.replicate 32 0)) 23)).alloc (.cells (bl (List.replicate 32 0)) 23)=w2 at *
  have t2:=f2.at t0 id
  have r2:=rdO_row (P:=Tryz.prog) t2
  have l69:rdO Tryz.prog 69 w2 tb 4=some (.agg #[.bool a.isSome,vv]):=by
   rw[r2,ldO_agg Tryz.agg69 Tryz.sz69 (by simp)];rfl
  have hkey:k.length=32:=hok.1
  obtain⟨kb,ko,kc,rfl,_⟩:=hk.pos (by simp)
  have rk2:=(hk.fr0 (hu.trans f2)).get (P:=Tryz.prog) Tryz.agg34 Tryz.sz34 (i:=0) (by simp)
  rw[Nat.zero_mul,Nat.add_zero,List.getD_cons_zero] at rk2
  have y0:(0:Int)≤0∧(0:Int)<((([k]:List Bs).length:Nat):Int):=by simp
  have l24:rdO Tryz.prog 24 w2 tb 0=some (.slice (some ⟨kb,ko,none⟩) ([k]:List Bs).length kc):=by
   rw[r2,ldO_one Tryz.agg24];rfl
  have l91:rdO Tryz.prog 91 w2 tb 6=some (.pointer none):=by
   rw[r2,ldO_one Tryz.agg91];rfl
  simp -implicitDefEqProofs only[go_sem,Nat.reduceEqDiff,Nat.reduceBEq,Nat.reduceAdd,gLa,gLz,gLs,l24,l91,l69,rk2,y0]
  refine contL_call pe ((hE w2.drew k _ a (hb.trans f2).drew hkey ⟨vv,rfl,hv.one,hv.fr0 f2.drew⟩ hok.2.2.2.2 (hG 0 (Nat.zero_le _))).mono ?_)
  rintro v3 w3 ⟨R3,f3⟩
  have k93:w3.heap[w0.heap.size+1]?=_:=f3.at (w:=w2.drew) k92 id
  have k83:w3.heap[w0.heap.size]?=_:=f3.at (w:=w2.drew) k82 id
  have f03:No w0 w3:=f2.drew.trans f3
  have hs3:w2.heap.size≤w3.heap.size:=f3.size
  have hnl:near.length≤256:=by have:=hok.2.2.1;have:=hok.2.1;omega
  obtain⟨c4,rfl,hc4,hone4⟩:=rep.agg R3
  have q3:=wr_all (P:=Tryz.prog) (t:=23) (vs:=c4) (by rw[hc4];exact Tryz.sz23) k93 (by rw[hc4];simp) hone4
  have k94:=put_at (o:=.cells c4 23 (0,0)) k93
  have k84:(put w3 (w0.heap.size+1) (.cells c4 23 (0,0))).heap[w0.heap.size]?=some (.cells (bl (List.replicate 32 0)) 23 (0,0)):=put_off k83 (by omega)
  have fp4:Fr (fun b=>b=w0.heap.size+1) w3 (put w3 (w0.heap.size+1) (.cells c4 23 (0,0))):=(Fr.refl _ _).put (b:=w0.heap.size+1) _ fun _=>rfl
  have f4:No w0 (put w3 (w0.heap.size+1) (.cells c4 23 (0,0))):=f03.put (b:=w0.heap.size+1) _ fun h=>by omega
  have R4:rep.R w2 (put w3 (w0.heap.size+1) (.cells c4 23 (0,0))) (.agg c4) (E k a):=rep.back (rep.fr R3 fp4 fun c hc e=>by have hc:w2.heap.size≤c:=hc;omega) (show w2.heap.size≤w2.heap.size by omega)
  have hs4:w2.heap.size≤(put w3 (w0.heap.size+1) (.cells c4 23 (0,0))).heap.size:=by have:=fp4.size;omega
  have t4:=f4.at t0 id
  simp -implicitDefEqProofs only[go_sem,Nat.reduceEqDiff,Nat.reduceBEq,Nat.reduceAdd,gLa,gLz,gLs,q3]
  generalize put w3 (w0.heap.size+1) (.cells c4 23 (0,0))=w4 at *
  obtain⟨na,nc,rfl,hnc⟩:=hn.rd.slice
  have r4:=rdO_row (P:=Tryz.prog) t4
  simp -implicitDefEqProofs only[go_sem,Nat.reduceEqDiff,Nat.reduceBEq,Nat.reduceAdd,gLa,gLz,gLs,r4,ldO_one]
  refine loopD [0,3,8,9,10,11,50,51,52] (fpID rep Pp w2 w0 w0.heap.size (w0.heap.size+1) (pt tb 0) (.func (.func gp) #[] cp) (.slice na near.length nc) k 0 (E k a) near) near.length ⟨0,_,_,c4,rfl,by omega,rfl,k94,R4,f4,k84,hs4⟩ ?_
  rintro _ vs w5 g ⟨i,y,z,cs,rfl,hi,rfl,k95,R5,f5,k85,hs5⟩
  by_cases hlt:i<near.length
  ·have d1:decide ((i:Int)<((near.length:Nat):Int))=true:=by simp;omega
   have hn5:=(hn.rd.fr0 f5)
   obtain⟨nb,no,ncc,he,_⟩:=hn5.pos (by omega)
   cases he
   have rn:=hn5.get (P:=Tryz.prog) Tryz.agg23 Tryz.sz23 hlt
   have nl:=hn.1.getD hlt
   have y1:(0:Int)≤(i:Int)∧(i:Int)<((near.length:Nat):Int):=by omega
   have hsn:near.take (i+1)=near.take i++[near.getD i []]:=by rw[List.take_succ_eq_append_getElem hlt,getD_lt _ hlt]
   generalize near.getD i []=N at rn nl hsn ⊢
   have q6:=wr_d Tryz.sz23 (alloc_blk_new w5 (.cells (bl (List.replicate 32 0)) 23)) zl32 nl
   have k6:=put_at (o:=.cells (bl N) 23 (0,0)) (alloc_blk_new w5 (.cells (bl (List.replicate 32 0)) 23))
   have f56:No w5 (put (w5.alloc (.cells (bl (List.replicate 32 0)) 23)) w5.heap.size (.cells (bl N) 23 (0,0))):=((Fr.refl _ _).alloc _).put (b:=w5.heap.size) _ fun h=>absurd h (Nat.lt_irrefl _)
   simp -implicitDefEqProofs only[go_sem,Nat.reduceEqDiff,Nat.reduceBEq,Nat.reduceAdd,gLa,gLz,gLs,d1,y1,rn,Value.cells,bl_zero,q6]
   generalize put (w5.alloc (.cells (bl (List.replicate 32 0)) 23)) w5.heap.size (.cells (bl N) 23 (0,0))=w6 at *
   have f6:=f5.trans f56
   obtain⟨cs',he',hcs,hone⟩:=rep.agg R5
   cases he'
   have r96:=rd_whole (t:=23) Tryz.agg23 (by rw[hcs];exact Tryz.sz23) (f56.at k95 id)
   have rN6:=rd_d Tryz.agg23 Tryz.sz23 k6 nl
   have rt6:=rdO_row (P:=Tryz.prog) (f6.at t0 id)
   have rk6:=(hk.fr0 (hu.trans f6)).get (P:=Tryz.prog) Tryz.agg34 Tryz.sz34 (i:=0) (show 0<([k]:List Bs).length by simp)
   rw[Nat.zero_mul,Nat.add_zero,List.getD_cons_zero] at rk6
   have y0:(0:Int)≤0∧(0:Int)<((([k]:List Bs).length:Nat):Int):=by have:=(show 0<([k]:List Bs).length by simp);omega
   have hfi:0+i<256:=by omega
   have c1:IntKind.i64.wrap (((0:Nat):Int)+(i:Int))=((0+i:Nat):Int):=i64add (by omega)
   have hs6:w2.heap.size≤w6.drew.heap.size:=by have:=f56.size;simp only[World.drew];omega
   simp -implicitDefEqProofs only[go_sem,Nat.reduceEqDiff,Nat.reduceBEq,Nat.reduceAdd,gLa,gLz,gLs,r96,rN6,rt6,rk6,y0,ldO_one,c1]
   have hGi:=hG (i+1) (by omega)
   rw[hsn,Wit.passes_snoc,List.length_take,Nat.min_eq_left (by omega)] at hGi
   have hPi:=hP w2 w6.drew (.agg cs) _ _ (0+i) N (hb.trans f6).drew hs6 (rep.fr R5 f56.drew fun _ _ h=>h) hkey hfi nl hGi
   rw[Nat.zero_add] at hPi
   refine contL_call pp (hPi.mono ?_)
   rintro v7 w7 ⟨R7,f7⟩
   obtain⟨cs7,rfl,hcs7,hone7⟩:=rep.agg R7
   have k97:w7.heap[w0.heap.size+1]?=_:=f7.at (w:=w6.drew) (f56.at k95 id) (by omega)
   have q7:=wr_all (P:=Tryz.prog) (t:=23) (vs:=cs7) (by rw[hcs7];exact Tryz.sz23) k97 (by rw[hcs,hcs7]) hone7
   have c2:IntKind.i64.wrap ((i:Int)+1)=((i+1:Nat):Int):=i64add (b:=1) (by omega)
   simp -implicitDefEqProofs only[go_sem,Nat.reduceEqDiff,Nat.reduceBEq,Nat.reduceAdd,gLa,gLz,gLs,q7,c2]
   have fp8:Fr (fun b=>b=w0.heap.size+1) w7 (put w7 (w0.heap.size+1) (.cells cs7 23 (0,0))):=(Fr.refl _ _).put (b:=w0.heap.size+1) _ fun _=>rfl
   have fno:No w0 (put w7 (w0.heap.size+1) (.cells cs7 23 (0,0))):=(f6.drew.trans' f7 fun b hb h=>by omega).put (b:=w0.heap.size+1) _ fun h=>by omega
   refine⟨near.length - (i+1),by omega,i+1,_,_,cs7,rfl,by omega,rfl,put_at k97,?_,fno,put_off (f7.at (w:=w6.drew) (f56.at k85 id) (by omega)) (by omega),?_⟩
   ·rw[hsn,Wit.passes_snoc,List.length_take,Nat.min_eq_left (by omega)]
    rw[Nat.zero_add]
    exact rep.fr R7 fp8 fun c hc e=>by omega
   ·have:=f7.size;have:=fp8.size;omega
  ·have d1:decide ((i:Int)<((near.length:Nat):Int))=false:=by simp;omega
   have e:i=near.length:=by omega
   subst e
   rw[List.take_length] at R5
   obtain⟨cs',he',hcs,hone⟩:=rep.agg R5
   cases he'
   have r95:=rd_whole (t:=23) Tryz.agg23 (by rw[hcs];exact Tryz.sz23) k95
   have q85:=wr_all (P:=Tryz.prog) (t:=23) (vs:=cs) (by rw[hcs];exact Tryz.sz23) k85 (by rw[hcs];simp) hone
   have k86:=put_at (o:=.cells cs 23 (0,0)) k85
   have r86:=rd_whole (t:=23) Tryz.agg23 (by rw[hcs];exact Tryz.sz23) k86
   simp -implicitDefEqProofs only[go_sem,Nat.reduceEqDiff,Nat.reduceBEq,Nat.reduceAdd,gLa,gLz,gLs,d1,r95,q85,r86]
   have fp8:Fr (fun b=>b=w0.heap.size) w5 (put w5 w0.heap.size (.cells cs 23 (0,0))):=(Fr.refl _ _).put (b:=w0.heap.size) _ fun _=>rfl
   exact⟨rep.back (rep.fr R5 fp8 fun c hc e=>by omega) (by omega),f5.put (b:=w0.heap.size) _ fun h=>absurd h (Nat.lt_irrefl _)⟩
 | fork ks f top near l r ihl ihr =>
  intro tb B w0 hT hok hu hb hG
  obtain⟨kv,nv,fb,vv,lb,rb,Bn,Bl,Br,rfl,t0,hk,hn,_,hTl,hTr⟩:=hT
  refine Tryz.go105 (by simp) ?_
  have f2:No w0 ((w0.alloc (.cells (bl (List.replicate 32 0)) 23)).alloc (.cells (bl (List.replicate 32 0)) 23)):=((Fr.refl _ _).alloc _).alloc _
  have k82:((w0.alloc (.cells (bl (List.replicate 32 0)) 23)).alloc (.cells (bl (List.replicate 32 0)) 23)).heap[w0.heap.size]?=some (.cells (bl (List.replicate 32 0)) 23 (0,0)):=alloc_at (alloc_blk_new _ _)
  have k92:((w0.alloc (.cells (bl (List.replicate 32 0)) 23)).alloc (.cells (bl (List.replicate 32 0)) 23)).heap[w0.heap.size+1]?=some (.cells (bl (List.replicate 32 0)) 23 (0,0)):=by
   have:=alloc_blk_new (w0.alloc (.cells (bl (List.replicate 32 0)) 23)) (.cells (bl (List.replicate 32 0)) 23)
   rw[alloc_heap_size] at this;exact this
  have hs2:((w0.alloc (.cells (bl (List.replicate 32 0)) 23)).alloc (.cells (bl (List.replicate 32 0)) 23)).heap.size=w0.heap.size+2:=by rw[alloc_heap_size,alloc_heap_size]
  simp -implicitDefEqProofs only[go_sem,Nat.reduceEqDiff,Nat.reduceBEq,Nat.reduceAdd,gLa,gLz,gLs,Tryz.f105,Value.cells,bl_zero]
  generalize (w0.alloc (.cells (bl (List.replicate 32 0)) 23)).alloc (.cells (bl (List.replicate 32 0)) 23)=w2 at *
  have t2:=f2.at t0 id
  have r2:=rdO_row (P:=Tryz.prog) t2
  have hkey:(ks.headD []).length=32:=hok.key_len
  have hpos:0<ks.length:=hok.keys_pos
  obtain⟨kb,ko,kc,rfl,_⟩:=hk.pos hpos
  have hf1:=hok.fr_le
  have hf2:=hok.top_le
  have hf3:=hok.near_len
  simp only[Wit.Tw.fr,Wit.Tw.top,Wit.Tw.near] at hf1 hf2 hf3
  obtain⟨okl,okr⟩:l.Ok∧r.Ok:=hok.2.2.2.2.2.2.2.2.2.2.2.2
  have t2d:w2.drew.heap[tb]?=_:=t2
  simp -implicitDefEqProofs only[go_sem,Nat.reduceEqDiff,Nat.reduceBEq,Nat.reduceAdd,gLa,gLz,gLs,r2,ldO_one]
  refine den_ext (fun j=>j == 8 || j == 16 || j == 17) [0,1,2,3,4,9,10,11,12,5,6,7,8,13,14,15,16,17,18] rfl (by kernel_rfl) (by kernel_rfl) ?_
  simp -implicitDefEqProofs only[go_sem,Nat.reduceEqDiff,Nat.reduceBEq,Nat.reduceAdd,gLa,gLz,gLs,r2,ldO_one]
  have nod:No w0 w2.drew:=f2.drew
  refine contLX_call Tryz.pl105 ((ihl lb Bl w2.drew (hTl.fr0 nod) okl (hu.trans nod) (hb.trans nod) hG.1).mono ?_)
  rintro vl wl ⟨Rl,fl⟩
  refine⟨fun _=>Fr.ext fl,?_⟩
  simp -implicitDefEqProofs only[go_sem,Nat.reduceEqDiff,Nat.reduceBEq,Nat.reduceAdd,gLa,gLz,gLs]
  have nol:No w0 wl:=nod.trans fl
  refine contLX_call Tryz.pl105 ((ihr rb Br wl (hTr.fr0 nol) okr (hu.trans nol) (hb.trans nol) hG.2.1).mono ?_)
  rintro vr wr ⟨Rr,fr⟩
  refine⟨fun _=>Fr.ext fr,?_⟩
  simp -implicitDefEqProofs only[go_sem,Nat.reduceEqDiff,Nat.reduceBEq,Nat.reduceAdd,gLa,gLz,gLs]
  have nor:No w0 wr:=nol.trans fr
  have hsl:w2.heap.size≤wl.heap.size:=fl.size
  have hsr:wl.heap.size≤wr.heap.size:=fr.size
  refine contLX_call pf ((hF w2.drew wr vl _ vr _ (hb.trans nor) (show w2.heap.size≤wr.heap.size by omega) (rep.fr Rl fr fun _ _ h=>h) (rep.back Rr (show w2.heap.size≤wl.heap.size from hsl)) (hG.2.2 0 (Nat.zero_le _))).mono ?_)
  rintro v3 w3 ⟨R3,f3⟩
  refine⟨fun _=>Fr.ext f3,?_⟩
  have f23:No w2.drew w3:=(fl.trans fr).trans f3
  have k93:w3.heap[w0.heap.size+1]?=_:=f23.at (w:=w2.drew) k92 id
  have k83:w3.heap[w0.heap.size]?=_:=f23.at (w:=w2.drew) k82 id
  have f03:No w0 w3:=nod.trans f23
  have hs3:w2.heap.size≤w3.heap.size:=f23.size
  have hnl:near.length≤256:=by omega
  obtain⟨c4,rfl,hc4,hone4⟩:=rep.agg R3
  have q3:=wr_all (P:=Tryz.prog) (t:=23) (vs:=c4) (by rw[hc4];exact Tryz.sz23) k93 (by rw[hc4];simp) hone4
  have k94:=put_at (o:=.cells c4 23 (0,0)) k93
  have k84:(put w3 (w0.heap.size+1) (.cells c4 23 (0,0))).heap[w0.heap.size]?=some (.cells (bl (List.replicate 32 0)) 23 (0,0)):=put_off k83 (by omega)
  have fp4:Fr (fun b=>b=w0.heap.size+1) w3 (put w3 (w0.heap.size+1) (.cells c4 23 (0,0))):=(Fr.refl _ _).put (b:=w0.heap.size+1) _ fun _=>rfl
  have f4:No w0 (put w3 (w0.heap.size+1) (.cells c4 23 (0,0))):=f03.put (b:=w0.heap.size+1) _ fun h=>by omega
  have R4:rep.R w2 (put w3 (w0.heap.size+1) (.cells c4 23 (0,0))) (.agg c4) (F (Wit.fold E F Pp l) (Wit.fold E F Pp r)):=rep.back (rep.fr R3 fp4 fun c hc e=>by have hc:wr.heap.size≤c:=hc;omega) (show w2.heap.size≤wr.heap.size by omega)
  have hs4:w2.heap.size≤(put w3 (w0.heap.size+1) (.cells c4 23 (0,0))).heap.size:=by have:=fp4.size;omega
  have t4:=f4.at t0 id
  simp -implicitDefEqProofs only[go_sem,Nat.reduceEqDiff,Nat.reduceBEq,Nat.reduceAdd,gLa,gLz,gLs,q3]
  generalize put w3 (w0.heap.size+1) (.cells c4 23 (0,0))=w4 at *
  obtain⟨na,nc,rfl,hnc⟩:=hn.rd.slice
  have r4:=rdO_row (P:=Tryz.prog) t4
  simp -implicitDefEqProofs only[go_sem,Nat.reduceEqDiff,Nat.reduceBEq,Nat.reduceAdd,gLa,gLz,gLs,r4,ldO_one]
  refine loopD [0,3,8,9,10,11,50,51,52] (fpID rep Pp w2 w0 w0.heap.size (w0.heap.size+1) (pt tb 0) (.func (.func gp) #[] cp) (.slice na near.length nc) (ks.headD []) f (F (Wit.fold E F Pp l) (Wit.fold E F Pp r)) near) near.length ⟨0,_,_,c4,rfl,by omega,rfl,k94,R4,f4,k84,hs4⟩ ?_
  rintro _ vs w5 g ⟨i,y,z,cs,rfl,hi,rfl,k95,R5,f5,k85,hs5⟩
  by_cases hlt:i<near.length
  ·have d1:decide ((i:Int)<((near.length:Nat):Int))=true:=by simp;omega
   have hn5:=(hn.rd.fr0 f5)
   obtain⟨nb,no,ncc,he,_⟩:=hn5.pos (by omega)
   cases he
   have rn:=hn5.get (P:=Tryz.prog) Tryz.agg23 Tryz.sz23 hlt
   have nl:=hn.1.getD hlt
   have y1:(0:Int)≤(i:Int)∧(i:Int)<((near.length:Nat):Int):=by omega
   have hsn:near.take (i+1)=near.take i++[near.getD i []]:=by rw[List.take_succ_eq_append_getElem hlt,getD_lt _ hlt]
   generalize near.getD i []=N at rn nl hsn ⊢
   have q6:=wr_d Tryz.sz23 (alloc_blk_new w5 (.cells (bl (List.replicate 32 0)) 23)) zl32 nl
   have k6:=put_at (o:=.cells (bl N) 23 (0,0)) (alloc_blk_new w5 (.cells (bl (List.replicate 32 0)) 23))
   have f56:No w5 (put (w5.alloc (.cells (bl (List.replicate 32 0)) 23)) w5.heap.size (.cells (bl N) 23 (0,0))):=((Fr.refl _ _).alloc _).put (b:=w5.heap.size) _ fun h=>absurd h (Nat.lt_irrefl _)
   simp -implicitDefEqProofs only[go_sem,Nat.reduceEqDiff,Nat.reduceBEq,Nat.reduceAdd,gLa,gLz,gLs,d1,y1,rn,Value.cells,bl_zero,q6]
   generalize put (w5.alloc (.cells (bl (List.replicate 32 0)) 23)) w5.heap.size (.cells (bl N) 23 (0,0))=w6 at *
   have f6:=f5.trans f56
   obtain⟨cs',he',hcs,hone⟩:=rep.agg R5
   cases he'
   have r96:=rd_whole (t:=23) Tryz.agg23 (by rw[hcs];exact Tryz.sz23) (f56.at k95 id)
   have rN6:=rd_d Tryz.agg23 Tryz.sz23 k6 nl
   have rt6:=rdO_row (P:=Tryz.prog) (f6.at t0 id)
   have rk6:=(hk.fr0 (hu.trans f6)).get (P:=Tryz.prog) Tryz.agg34 Tryz.sz34 (i:=0) hpos
   rw[Nat.zero_mul,Nat.add_zero,← head_getD] at rk6
   have y0:(0:Int)≤0∧(0:Int)<((ks.length:Nat):Int):=by have:=hpos;omega
   have hfi:f+i<256:=by omega
   have c1:IntKind.i64.wrap (((f:Nat):Int)+(i:Int))=((f+i:Nat):Int):=i64add (by omega)
   have hs6:w2.heap.size≤w6.drew.heap.size:=by have:=f56.size;simp only[World.drew];omega
   simp -implicitDefEqProofs only[go_sem,Nat.reduceEqDiff,Nat.reduceBEq,Nat.reduceAdd,gLa,gLz,gLs,r96,rN6,rt6,rk6,y0,ldO_one,c1]
   have hGi:=hG.2.2 (i+1) (by omega)
   rw[hsn,Wit.passes_snoc,List.length_take,Nat.min_eq_left (by omega)] at hGi
   have hPi:=hP w2 w6.drew (.agg cs) _ _ (f+i) N (hb.trans f6).drew hs6 (rep.fr R5 f56.drew fun _ _ h=>h) hkey hfi nl hGi
   refine contL_call pp (hPi.mono ?_)
   rintro v7 w7 ⟨R7,f7⟩
   obtain⟨cs7,rfl,hcs7,hone7⟩:=rep.agg R7
   have k97:w7.heap[w0.heap.size+1]?=_:=f7.at (w:=w6.drew) (f56.at k95 id) (by omega)
   have q7:=wr_all (P:=Tryz.prog) (t:=23) (vs:=cs7) (by rw[hcs7];exact Tryz.sz23) k97 (by rw[hcs,hcs7]) hone7
   have c2:IntKind.i64.wrap ((i:Int)+1)=((i+1:Nat):Int):=i64add (b:=1) (by omega)
   simp -implicitDefEqProofs only[go_sem,Nat.reduceEqDiff,Nat.reduceBEq,Nat.reduceAdd,gLa,gLz,gLs,q7,c2]
   have fp8:Fr (fun b=>b=w0.heap.size+1) w7 (put w7 (w0.heap.size+1) (.cells cs7 23 (0,0))):=(Fr.refl _ _).put (b:=w0.heap.size+1) _ fun _=>rfl
   have fno:No w0 (put w7 (w0.heap.size+1) (.cells cs7 23 (0,0))):=(f6.drew.trans' f7 fun b hb h=>by omega).put (b:=w0.heap.size+1) _ fun h=>by omega
   refine⟨near.length - (i+1),by omega,i+1,_,_,cs7,rfl,by omega,rfl,put_at k97,?_,fno,put_off (f7.at (w:=w6.drew) (f56.at k85 id) (by omega)) (by omega),?_⟩
   ·rw[hsn,Wit.passes_snoc,List.length_take,Nat.min_eq_left (by omega)]
    exact rep.fr R7 fp8 fun c hc e=>by omega
   ·have:=f7.size;have:=fp8.size;omega
  ·have d1:decide ((i:Int)<((near.length:Nat):Int))=false:=by simp;omega
   have e:i=near.length:=by omega
   subst e
   rw[List.take_length] at R5
   obtain⟨cs',he',hcs,hone⟩:=rep.agg R5
   cases he'
   have r95:=rd_whole (t:=23) Tryz.agg23 (by rw[hcs];exact Tryz.sz23) k95
   have q85:=wr_all (P:=Tryz.prog) (t:=23) (vs:=cs) (by rw[hcs];exact Tryz.sz23) k85 (by rw[hcs];simp) hone
   have k86:=put_at (o:=.cells cs 23 (0,0)) k85
   have r86:=rd_whole (t:=23) Tryz.agg23 (by rw[hcs];exact Tryz.sz23) k86
   simp -implicitDefEqProofs only[go_sem,Nat.reduceEqDiff,Nat.reduceBEq,Nat.reduceAdd,gLa,gLz,gLs,d1,r95,q85,r86]
   have fp8:Fr (fun b=>b=w0.heap.size) w5 (put w5 w0.heap.size (.cells cs 23 (0,0))):=(Fr.refl _ _).put (b:=w0.heap.size) _ fun _=>rfl
   exact⟨rep.back (rep.fr R5 fp8 fun c hc e=>by omega) (by omega),f5.put (b:=w0.heap.size) _ fun h=>absurd h (Nat.lt_irrefl _)⟩
end
end Go.V
end
