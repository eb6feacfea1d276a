/-
 Helpers: Hashed, ConcatW, LaidW.
-/
import Derived.Test.YtmenaeggoakppaaGreatDoorB25
set_option linter.all false
section
namespace Go.V
open Go.Proofs Sha
set_option maxRecDepth 100000
theorem passes_climb (wd:Int) (k:Bs):∀ (near:List Bs) (h:Nat) (x:Bs),Wit.passes (fun x k h n=>up wd k h x n) k h x near=climb wd k h x near
 | [],_,_=>rfl
 | n::r,h,x=>by simp only[Wit.passes,climb];exact passes_climb wd k r _ _
theorem fold_dig (wd:Int) (says:Wit.Says):∀ t,Wit.fold (fun k a=>Wit.ldig wd k (says k a)) (branchD wd) (fun x k h n=>up wd k h x n) t=Wit.dig wd says t
 | .leaf k top near a=>passes_climb wd k near 0 _
 | .fork ks f top near l r=>by
  simp only[Wit.fold]
  rw[passes_climb,fold_dig wd says l,fold_dig wd says r];rfl
theorem allT {α:Type} (E:Bs→Option Bs→α) (F:α→α→α) (P:α→Bs→Nat→Bs→α):∀ t,Wit.AllG (fun _=>True) E F P t
 | .leaf _ _ _ _=>fun _ _=>trivial
 | .fork _ _ _ _ l r=>⟨allT E F P l,allT E F P r,fun _ _=>trivial⟩
def repD:Rep Bs 32 where
 R:=fun _ _ v d=>v=dg d∧d.length=32
 back:=fun h _=>h
 fr:=fun h _ _=>h
 agg:=fun h=>⟨_,h.1,by rw[dg_size,h.2],u8s_all _⟩
/-- what a closure answers of a key -/
def SaysF (wb:World) (gs:FuncId) (bs cs:Array Value) (says:Wit.Says):Prop:=plainFn Tryz.prog gs=true∧∀ w0 w k x a,No wb w0→No w0 w→k.length=32→AnsR w0 x a→(∀ v,a=some v→v.length≤128) →
 Fn Tryz.prog gs (bs++#[dg k,x]++cs) w fun v w'=>AnsR w0 v (says k a)∧No w w'∧∀ v,says k a=some v→v.length≤128
theorem SaysF.no {wb wb':World} {gs:FuncId} {bs cs:Array Value} {says:Wit.Says} (h:SaysF wb gs bs cs says) (k:No wb wb'):SaysF wb' gs bs cs says:=⟨h.1,fun w0 w a b c hw=>h.2 w0 w a b c (k.trans hw)⟩
theorem hash1 (wb w : World) (ht : Tabs w) {gs : FuncId} {bs cs : Array Value} {says : Wit.Says} (hs : SaysF wb gs bs cs says) (hb : No wb w) (wd : Int) {b5 b3 : Nat} (k5 : w.heap[b5]? = some (.cells #[.func (.func gs) bs cs] 115 (0, 0)))
    (k3 : w.heap[b3]? = some (.cells #[.int .i64 wd] 3 (0,0))) {k : Bs} {x : Value} {a : Option Bs} (hk : k.length = 32) (hx : AnsR w x a) (hal : ∀ v,a = some v → v.length ≤ 128) :
    Fn Tryz.prog 106 #[dg k,x,pt b5 0,pt b3 0] w fun v w' => (v = dg (Wit.ldig wd k (says k a)) ∧ (Wit.ldig wd k (says k a)).length = 32) ∧ No w w' := by
 refine Tryz.go106 (by simp) ?_
 obtain⟨vv,rfl,hv1,hvb⟩:=id hx
 obtain⟨W,hW,f1,k1,k2,k6,s1⟩:=allocs3 w (bl k) 34 #[.bool a.isSome,vv] 69 (bl (List.replicate 32 0)) 23
 have r5:=ld_one (P:=Tryz.prog) (v:=.func (.func gs) bs cs) Tryz.agg115 (f1.at k5 id) (o:=0) rfl
 have r1:=rd_d Tryz.agg34 Tryz.sz34 k1 hk
 have r2:=ld_whole (P:=Tryz.prog) (t:=69) Tryz.agg69 Tryz.sz69 k2
 simp -implicitDefEqProofs only[go_sem,Nat.reduceEqDiff,Nat.reduceBEq,Nat.reduceAdd,gLa,gLz,gLs,Tryz.f106,Value.cells,bl_zero,hW,r5,r1,r2]
 refine contL_call hs.1 ((hs.2 w W k _ a hb f1 hk hx hal).mono ?_)
 rintro _ w3 ⟨⟨v3,rfl,h31,hb3⟩,f3,hl3⟩
 have f13:=f1.trans f3
 have k23:=f3.at k2 id
 have q3:=wr_all (P:=Tryz.prog) (t:=69) (vs:=#[.bool (says k a).isSome,v3]) Tryz.sz69 k23 rfl (by rw[← Array.all_toList];simp only[List.all_cons,List.all_nil,h31];rfl)
 have k24:=put_at (o:=.cells #[.bool (says k a).isSome,v3] 69 (0,0)) k23
 have fp:=(Fr.refl (fun b=>b=w.heap.size+1) w3).put (b:=w.heap.size+1) (.cells #[.bool (says k a).isSome,v3] 69 (0,0)) fun _=>rfl
 have f4:No w (put w3 (w.heap.size+1) (.cells #[.bool (says k a).isSome,v3] 69 (0,0))):=f13.put (b:=w.heap.size+1) _ fun h=>by omega
 have k14:=fp.at (f3.at k1 id) (by omega)
 have k64:=fp.at (f3.at k6 id) (by omega)
 have r4:=ld_one (P:=Tryz.prog) (v:=.bool (says k a).isSome) Tryz.agg4 k24 (o:=0) rfl
 have r42:=ld_one (P:=Tryz.prog) (v:=v3) Tryz.agg25 k24 (o:=1) rfl
 have r43:=ld_one (P:=Tryz.prog) (v:=.int .i64 wd) Tryz.agg3 (f4.at k3 id) (o:=0) rfl
 have r14:=rd_d Tryz.agg34 Tryz.sz34 k14 hk
 simp -implicitDefEqProofs only[go_sem,Nat.reduceEqDiff,Nat.reduceBEq,Nat.reduceAdd,gLa,gLz,gLs,q3]
 have hb4:=hb3.fr0 f4
 have r43d:=r43
 generalize put w3 (w.heap.size+1) (.cells #[.bool (says k a).isSome,v3] 69 (0,0))=w4 at *
 cases hsa:says k a with
 | none =>
  rw[hsa] at r4
  simp -implicitDefEqProofs only[go_sem,Nat.reduceEqDiff,Nat.reduceBEq,Nat.reduceAdd,gLa,gLz,gLs,r4,r43,Option.isSome]
  refine contL_call Tryz.pl108 ((empty0 w4 (ht.no f4) wd).mono ?_)
  rintro _ w5 ⟨rfl,f5⟩
  have q5:=wr_d Tryz.sz23 (f5.at k64 id) zl32 (emptD_len wd 0)
  have r5:=rd_d Tryz.agg23 Tryz.sz23 (put_at (o:=.cells (bl (emptD wd 0)) 23 (0,0)) (f5.at k64 id)) (emptD_len wd 0)
  simp -implicitDefEqProofs only[go_sem,Nat.reduceEqDiff,Nat.reduceBEq,Nat.reduceAdd,gLa,gLz,gLs,q5,r5]
  exact⟨⟨rfl,emptD_len wd 0⟩,(f4.trans f5).put (b:=w.heap.size+1+1) _ fun h=>by omega⟩
 | some val =>
  rw[hsa] at r4 hb4
  simp -implicitDefEqProofs only[go_sem,Nat.reduceEqDiff,Nat.reduceBEq,Nat.reduceAdd,gLa,gLz,gLs,r4,r43,r14,r42,Option.isSome]
  refine contL_call Tryz.pl107 ((leaf w4 (ht.no f4) wd hk hb4 (by have:=hl3 val hsa;simp only[Option.getD_some];omega)).mono ?_)
  rintro _ w5 ⟨rfl,f5⟩
  have hll:(leafD wd k ((some val).getD [])).length=32:=leafD_len _ _ _
  have hle:Wit.ldig wd k (some val)=leafD wd k ((some val).getD []):=rfl
  rw[hle]
  generalize leafD wd k ((some val).getD [])=D at *
  have q5:=wr_d Tryz.sz23 (f5.at k64 id) zl32 hll
  have r5:=rd_d Tryz.agg23 Tryz.sz23 (put_at (o:=.cells (bl D) 23 (0,0)) (f5.at k64 id)) hll
  simp -implicitDefEqProofs only[go_sem,Nat.reduceEqDiff,Nat.reduceBEq,Nat.reduceAdd,gLa,gLz,gLs,q5,r5]
  exact⟨hll,(f4.trans f5).put (b:=w.heap.size+1+1) _ fun h=>by omega⟩
theorem hash2 (w : World) (ht : Tabs w) (wd : Int) {b3 : Nat} (k3 : w.heap[b3]? = some (.cells #[.int .i64 wd] 3 (0, 0))) {x y : Bs} (hx : x.length = 32) (hy : y.length = 32) :
    Fn Tryz.prog 109 #[dg x,dg y,pt b3 0] w fun v w' => (v = dg (branchD wd x y) ∧ (branchD wd x y).length = 32) ∧ No w w' := by
 refine Tryz.go109 (by simp) ?_
 obtain⟨W,hW,f1,k1,k2,k6,s1⟩:=allocs3 w (bl x) 23 (bl y) 23 (bl (List.replicate 32 0)) 23
 have r3:=ld_one (P:=Tryz.prog) (v:=.int .i64 wd) Tryz.agg3 (f1.at k3 id) (o:=0) rfl
 have r1:=rd_d Tryz.agg23 Tryz.sz23 k1 hx
 have r2:=rd_d Tryz.agg23 Tryz.sz23 k2 hy
 simp -implicitDefEqProofs only[go_sem,Nat.reduceEqDiff,Nat.reduceBEq,Nat.reduceAdd,gLa,gLz,gLs,Tryz.f109,Value.cells,bl_zero,hW,r1,r2,r3]
 refine contL_call Tryz.pl110 ((branch _ (ht.no f1) wd hx hy).mono ?_)
 rintro _ w5 ⟨rfl,f5⟩
 have hll:=branchD_len wd x y
 generalize branchD wd x y=D at *
 have k65:w5.heap[w.heap.size+1+1]?=_:=f5.at k6 id
 have q5:=wr_d Tryz.sz23 k65 zl32 hll
 have r5:=rd_d Tryz.agg23 Tryz.sz23 (put_at (o:=.cells (bl D) 23 (0,0)) k65) hll
 simp -implicitDefEqProofs only[go_sem,Nat.reduceEqDiff,Nat.reduceBEq,Nat.reduceAdd,gLa,gLz,gLs,q5,r5]
 exact⟨hll,(f1.trans f5).put (b:=w.heap.size+1+1) _ fun h=>by omega⟩
theorem hash3 (w : World) (ht : Tabs w) (wd : Int) {b3 : Nat} (k3 : w.heap[b3]? = some (.cells #[.int .i64 wd] 3 (0, 0))) {x k n : Bs} (hx : x.length = 32) (hk : k.length = 32) (hn : n.length = 32) {h : Nat} (hh : h < 256) :
    Fn Tryz.prog 111 #[dg x,dg k,.int .i64 (h : Nat),dg n,pt b3 0] w fun v w' => (v = dg (up wd k h x n) ∧ (up wd k h x n).length = 32) ∧ No w w' := by
 refine Tryz.go111 (by simp) ?_
 obtain⟨W,hW,f1,k1,k2,k4,k6,s1⟩:=allocs4 w (bl x) 23 (bl k) 34 (bl n) 23 (bl (List.replicate 32 0)) 23
 have r2:=rd_d Tryz.agg34 Tryz.sz34 k2 hk
 have c1:IntKind.i64.wrap (255 - (h:Int))=((255 - h:Nat):Int):=i64sub (a:=255) (by omega) (by omega)
 simp -implicitDefEqProofs only[go_sem,Nat.reduceEqDiff,Nat.reduceBEq,Nat.reduceAdd,gLa,gLz,gLs,Tryz.f111,Value.cells,bl_zero,hW,r2,c1]
 refine contL_call Tryz.pl92 ((bbit W hk (show 255 - h<256 by omega)).mono ?_)
 rintro _ w4 ⟨rfl,f4⟩
 have f14:=f1.trans f4
 have r3:=ld_one (P:=Tryz.prog) (v:=.int .i64 wd) Tryz.agg3 (f14.at k3 id) (o:=0) rfl
 have r1:=rd_d Tryz.agg23 Tryz.sz23 (f4.at k1 id) hx
 have rn:=rd_d Tryz.agg23 Tryz.sz23 (f4.at k4 id) hn
 unfold up kb
 cases hb:kbit k (255 - h) with
 | true =>
  have d0:((1:Int) == 0)=false:=rfl
  simp -implicitDefEqProofs only[go_sem,Nat.reduceEqDiff,Nat.reduceBEq,Nat.reduceAdd,gLa,gLz,gLs,d0,r3,r1,rn]
  refine contL_call Tryz.pl110 ((branch _ (ht.no f14) wd hn hx).mono ?_)
  rintro _ w5 ⟨rfl,f5⟩
  have hll:=branchD_len wd n x
  generalize branchD wd n x=D at *
  have k65:w5.heap[w.heap.size+1+1+1]?=_:=f5.at (f4.at k6 id) id
  have q5:=wr_d Tryz.sz23 k65 zl32 hll
  have r5:=rd_d Tryz.agg23 Tryz.sz23 (put_at (o:=.cells (bl D) 23 (0,0)) k65) hll
  simp -implicitDefEqProofs only[go_sem,Nat.reduceEqDiff,Nat.reduceBEq,Nat.reduceAdd,gLa,gLz,gLs,q5,r5]
  exact⟨hll,(f14.trans f5).put (b:=w.heap.size+1+1+1) _ fun h=>by omega⟩
 | false =>
  have d0:((0:Int) == 0)=true:=rfl
  simp -implicitDefEqProofs only[go_sem,Nat.reduceEqDiff,Nat.reduceBEq,Nat.reduceAdd,gLa,gLz,gLs,d0,r3,r1,rn]
  refine contL_call Tryz.pl110 ((branch _ (ht.no f14) wd hx hn).mono ?_)
  rintro _ w5 ⟨rfl,f5⟩
  have hll:=branchD_len wd x n
  generalize branchD wd x n=D at *
  have k65:w5.heap[w.heap.size+1+1+1]?=_:=f5.at (f4.at k6 id) id
  have q5:=wr_d Tryz.sz23 k65 zl32 hll
  have r5:=rd_d Tryz.agg23 Tryz.sz23 (put_at (o:=.cells (bl D) 23 (0,0)) k65) hll
  simp -implicitDefEqProofs only[go_sem,Nat.reduceEqDiff,Nat.reduceBEq,Nat.reduceAdd,gLa,gLz,gLs,q5,r5]
  exact⟨hll,(f14.trans f5).put (b:=w.heap.size+1+1+1) _ fun h=>by omega⟩
theorem hashed (u w0 : World) (ht : Tabs w0) (wd : Int) {gs : FuncId} {bs cs : Array Value} {says : Wit.Says} (hs : SaysF w0 gs bs cs says) {t : Wit.Tw} {tb : Nat} {B : List Nat} (hT : TwM u w0 tb t B) (hok : t.Ok) (hu : No u w0) :
    Fn Tryz.prog 60 #[.int .i64 wd,pt tb 0,.func (.func gs) bs cs] w0 fun v w' => v = dg (Wit.dig wd says t) ∧ No w0 w' := by
 refine Tryz.go60 (by simp) ?_
 obtain⟨W,hW,f1,k1,k2,k6,s1⟩:=allocs3 w0 #[.int .i64 wd] 3 #[.func (.func gs) bs cs] 115 (bl (List.replicate 32 0)) 23
 simp -implicitDefEqProofs only[go_sem,Nat.reduceEqDiff,Nat.reduceBEq,Nat.reduceAdd,gLa,gLz,gLs,Tryz.f60,Value.cells,bl_zero,hW]
 refine contL_call Tryz.pl105 ((foldD repD (fun _=>True) (fun k a=>Wit.ldig wd k (says k a)) (branchD wd) (fun x k h n=>up wd k h x n) 106 109 111 #[pt (w0.heap.size+1) 0,pt w0.heap.size 0] #[pt w0.heap.size 0] #[pt w0.heap.size 0] u W Tryz.pl106 Tryz.pl109 Tryz.pl111
  (fun w k x a hw hk hx hal _=>by rw[args22];exact hash1 W w (ht.no (f1.trans hw)) (hs.no f1) hw wd (hw.at k2 id) (hw.at k1 id) hk hx hal)
  (fun b w v1 x1 v2 x2 hw _ h1 h2 _=>by rw[h1.1,h2.1,args21];exact hash2 w (ht.no (f1.trans hw)) wd (hw.at k1 id) h1.2 h2.2)
  (fun b w v x k h n hw _ hx hk hh hn _=>by
   rw[hx.1,args41]
   exact (hash3 w (ht.no (f1.trans hw)) wd (hw.at k1 id) hx.2 hk hn hh).mono fun _ _ h=>⟨h.1,h.2.mono fun _ _ h=>h.elim⟩)
  t tb B W (hT.fr0 f1) hok (hu.trans f1) (Fr.refl _ _) (allT _ _ _ t)).mono ?_)
 rintro _ w5 ⟨⟨rfl,hll⟩,f5⟩
 rw[fold_dig] at *
 generalize Wit.dig wd says t=D at *
 have k65:=f5.at k6 id
 have q5:=wr_d Tryz.sz23 k65 zl32 hll
 have r5:=rd_d Tryz.agg23 Tryz.sz23 (put_at (o:=.cells (bl D) 23 (0,0)) k65) hll
 simp -implicitDefEqProofs only[go_sem,Nat.reduceEqDiff,Nat.reduceBEq,Nat.reduceAdd,gLa,gLz,gLs,q5,r5]
 exact (f1.trans f5).put (b:=w0.heap.size+1+1) _ fun h=>by omega
theorem asIsF (wb:World):SaysF wb 68 #[] #[] Wit.asIs:=by
 refine⟨Tryz.pl68,fun w0 w k x a _ hw hk hx hal=>?_⟩
 rw[args20]
 refine Tryz.go68 (by simp) ?_
 obtain⟨vv,rfl,hv1,hvb⟩:=id hx
 obtain⟨W,hW,f1,k1,k2,k6,s1⟩:=allocs3 w (bl k) 34 #[.bool a.isSome,vv] 69 #[.bool false,.slice none 0 0] 69
 have r2:=ld_whole (P:=Tryz.prog) (t:=69) Tryz.agg69 Tryz.sz69 k2
 have q:=wr_all (P:=Tryz.prog) (t:=69) (vs:=#[.bool a.isSome,vv]) Tryz.sz69 k6 rfl (by rw[← Array.all_toList];simp only[List.all_cons,List.all_nil,hv1];rfl)
 have k3:=put_at (o:=.cells #[.bool a.isSome,vv] 69 (0,0)) k6
 have r3:=ld_whole (P:=Tryz.prog) (t:=69) Tryz.agg69 Tryz.sz69 k3
 simp -implicitDefEqProofs only[go_sem,Nat.reduceEqDiff,Nat.reduceBEq,Nat.reduceAdd,gLa,gLz,gLs,Tryz.f68,Value.cells,hW,r2,q,r3]
 have f3:No w (put W (w.heap.size+1+1) (.cells #[.bool a.isSome,vv] 69 (0,0))):=f1.put (b:=w.heap.size+1+1) _ fun h=>by omega
 exact⟨⟨vv,rfl,hv1,hvb⟩,f3,hal⟩
end Go.V
end
section
namespace Go.V
open Go.Proofs Sha
set_option maxRecDepth 100000
theorem run_app_zeros {P : Program} {ts : Array TypeId} {t t' e sz : Nat} {k : IntKind} (h0 : ts[0]? = some t) (h1 : ts[1]? = some t') (hs : slcO P t = some e) (hd : P.underlying t' = some (.int k))
    (hsz : szO P e = some sz) (hsz0 : 0 < sz) {by' : Nat} (hby : byO P e = some by') (hib : by' ≠ 0) {z : Value} (hz : zeroO P e = some z) {w : World} {n : Nat} (hn : 0 < n) (hn2 : n ≤ 2 ^ 40) (hb : n * by' ≤ 2 ^ 48) :
    ∃ nc,n ≤ nc ∧ (Builtin.append_ ts 0 #[.slice none 0 0,.int .i64 (n : Int)]).run P w = .ok (.slice (some ⟨w.heap.size,0,none⟩) n nc) (w.drew.alloc (.cells (#[] ++ Builtin.zeroCells z.cells n ++ Builtin.zeroCells z.cells (nc - n)) e)) := by
 have hinfo:∃ i,P.info? e=some i∧i.bytes=by':=by
  unfold byO at hby
  cases hi:P.info? e with
  | none=>simp[hi] at hby
  | some i=>exact⟨i,rfl,by simpa [hi] using hby⟩
 obtain⟨i,hi,rfl⟩:=hinfo
 have hsl:=r_und (slcO_und hs) w
 have hd:=r_und hd w
 have hti:∀ u:World,(typeInfo e).run P u=.ok i u:=fun u=>by simp[typeInfo,hi]
 have a0:(#[Value.slice none 0 0,.int .i64 (n:Int)]:Array Value)[0]?=some (.slice none 0 0):=rfl
 have a1:(#[Value.slice none 0 0,.int .i64 (n:Int)]:Array Value)[1]?=some (.int .i64 (n:Int)):=rfl
 have hmax:IntKind.i64.max=9223372036854775807:=by decide
 have hw:IntKind.i64.wrap (n:Int)=(n:Int):=i64n (by omega)
 have c0:¬ ((n:Int)<0):=by omega
 have c01:¬ ((n:Int)*(i.bytes:Int) > 2 ^ 48):=by
  have:(n:Int)*(i.bytes:Int)=((n*i.bytes:Nat):Int):=by rw[Int.natCast_mul]
  rw[this];omega
 have c1:¬ (((n:Nat):Int) > IntKind.i64.max∧(True∨i.bytes=0)):=fun h=>by rw[hmax] at h;omega
 have hnx:Builtin.nextslicecap n 0=n:=by
  unfold Builtin.nextslicecap
  rw[Nat.mul_zero,if_pos (by omega)]
 have c2:¬ (Builtin.nextslicecap n 0*i.bytes > 2 ^ 48):=by rw[hnx];omega
 have c3:¬ (n*sz=0):=by
  have:=Nat.mul_pos hn hsz0;omega
 have c4:¬ (n≤0):=by omega
 refine⟨(Question.appendCap n 0 e).cut (w.tape w.drawn (.appendCap n 0 e)),by simp only[Question.cut];omega,?_⟩
 have hf:(Question.appendCap n 0 e).forced=false:=rfl
 have hfc:∀ u:World,(Builtin.firstCells sz 0 (.slice none 0 0)).run P u=.ok #[] u:=fun u=>rfl
 simp only[Builtin.append_,h0,h1,a0,a1,Sem.run_bind,hsl,hd,Result.andThen_ok,r_size hsz,Sem.run_pure,if_true,asInt,asIntOf,hw,c0,if_false,hti,c01,Int.toNat_natCast,Nat.zero_add,c4,c1,c2,run_choose,hf,World.drew_eq,run_askRoom,hfc,Bool.not_true,Bool.false_eq_true,c3,r_zero hz,newRow]
 rfl
theorem grow0 (w0:World) (n:Nat) (hn:n≤2 ^ 40):Fn Tryz.prog 206 #[.slice none 0 0,.int .i64 (n:Nat)] w0 fun v w'=>NwB w0 w' v []∧No w0 w':=by
 refine Tryz.go206 (by simp) ?_
 have d0:decide ((n:Int)<0)=false:=by simp
 have e0:IntKind.i64.wrap (((0:Nat):Int) - ((0:Nat):Int))=((0:Nat):Int):=by decide
 have e1:IntKind.i64.wrap ((n:Int) - ((0:Nat):Int))=(n:Int):=i64sub (b:=0) (by omega) (by omega)
 have s0:sliceP Tryz.prog 25 (.slice none 0 0) none (some (.int .i64 ((0:Nat):Int))) none=some (.slice none 0 0):=rfl
 by_cases h0:n=0
 ·have d1:decide ((n:Int) > 0)=false:=by simp;omega
  simp -implicitDefEqProofs only[go_sem,Nat.reduceEqDiff,Nat.reduceBEq,Nat.reduceAdd,gLa,gLz,gLs,Tryz.f206,d0,e0,e1,d1]
  exact⟨NwB.nil _ _,Fr.refl _ _⟩
 ·have d1:decide ((n:Int) > 0)=true:=by simp;omega
  obtain⟨nc,hnc,hr⟩:=run_app_zeros (P:=Tryz.prog) (ts:=#[25,3]) (t:=25) (t':=3) (e:=5) (sz:=1) (k:=.i64) (by':=1) rfl rfl Tryz.slc25 (intO_und Tryz.int3) Tryz.sz5 (by decide) (by kernel_rfl) (by decide) Tryz.zero5 (w:=w0) (n:=n) (by omega) hn (by omega)
  simp -implicitDefEqProofs only[go_sem,Nat.reduceEqDiff,Nat.reduceBEq,Nat.reduceAdd,gLa,gLz,gLs,Tryz.f206,d0,e0,e1,d1,s0]
  refine contL_sem ⟨_,_,hr,?_⟩
  have s1:=slc_hi (P:=Tryz.prog) Tryz.slc25 Tryz.arr25 Tryz.sz5 (a:=some ⟨w0.heap.size,0,none⟩) (n:=n) (cap:=nc) (Nat.zero_le _) hnc
  simp -implicitDefEqProofs only[go_sem,Nat.reduceEqDiff,Nat.reduceBEq,Nat.reduceAdd,gLa,gLz,gLs,s1]
  have ec:cutV 1 (some ⟨w0.heap.size,0,none⟩) nc 0 0=.slice (some ⟨w0.drew.heap.size,0,none⟩) 0 nc:=by
   unfold cutV
   rw[if_neg (by omega)];rfl
  rw[ec]
  refine⟨?_,(Fr.refl _ _).drew.alloc _⟩
  have:=mk_nw w0 w0.drew 5 1 0 nc (#[]++Builtin.zeroCells (Value.int .u8 0).cells n++Builtin.zeroCells (Value.int .u8 0).cells (nc - n)) (Nat.le_refl _) (by simp[Builtin.zeroCells,Value.cells];omega) (Nat.zero_le _)
  rw[Nat.zero_mul,List.take_zero] at this
  simp only[Array.empty_append,Value.cells] at this
  exact this
def ccI (w0:World) (xs:Value) (bs:List Bs) (n:Nat) (vs:List Value) (w:World):Prop :=
 ∃ (i:Nat) (y:Value),vs=[xs,.int .i64 (((bs.take i).map List.length).sum:Nat),y,xs,.int .i64 (bs.length:Nat),.int .i64 (i:Nat)]∧i≤bs.length∧n=bs.length - i∧No w0 w
def ccJ (w0:World) (xs:Value) (bs:List Bs) (n:Nat) (vs:List Value) (w:World):Prop :=
 ∃ (i:Nat) (v y:Value),vs=[v,y,xs,.int .i64 (bs.length:Nat),.int .i64 (i:Nat)]∧i≤bs.length∧n=bs.length - i∧NwB w0 w v (bs.take i).flatten∧No w0 w
theorem sum_take_le (bs:List Bs):∀ i,((bs.take i).map List.length).sum≤(bs.map List.length).sum:=by
 induction bs with
 | nil=>intro i;simp
 | cons a l ih =>
  intro i
  cases i with
  | zero=>simp
  | succ i=>simp only[List.take_succ_cons,List.map_cons,List.sum_cons];have:=ih i;omega
theorem take_sum_succ {bs:List Bs} {i:Nat} (h:i<bs.length):((bs.take (i+1)).map List.length).sum=((bs.take i).map List.length).sum+bs[i].length:=by
 rw[List.take_succ_eq_append_getElem h,List.map_append,List.sum_append]
 simp only[List.map_cons,List.map_nil,List.sum_cons,List.sum_nil,Nat.add_zero]
theorem take_flat_succ {bs:List Bs} {i:Nat} (h:i<bs.length):(bs.take (i+1)).flatten=(bs.take i).flatten++bs[i]:=by
 rw[List.take_succ_eq_append_getElem h,List.flatten_append]
 simp only[List.flatten_cons,List.flatten_nil,List.append_nil]
theorem take_len_sum (bs:List Bs) (i:Nat):(bs.take i).flatten.length=((bs.take i).map List.length).sum:=by rw[List.length_flatten]
theorem concat (w0 : World) {xs : Value} {xl : List Value} {bs : List Bs} (hl : xl.length = bs.length) (hx : Rd w0 1 xs xl.length xl) (hb : ∀ i (h : i < bs.length), By w0 (xl.getD i undef) bs[i]) (hn : bs.length ≤ 8) (hs : (bs.map List.length).sum ≤ 2 ^ 40) :
    Fn Tryz.prog 176 #[xs] w0 fun v w' => NwB w0 w' v bs.flatten ∧ No w0 w' := by
 refine Tryz.go176 (by simp) ?_
 obtain⟨_,xa,xc,rfl,hxc,hxat⟩:=id hx
 rw[hl] at hxc hxat ⊢
 have get:∀ w (f:No w0 w) i (h:i<bs.length),∃ b o,xa=some ⟨b,o,none⟩∧rdO Tryz.prog 25 w b (o+i)=some (xl.getD i undef):=fun w f i h=>by
  obtain⟨b,o,rfl,hat⟩:=hxat (by omega)
  refine⟨b,o,rfl,?_⟩
  have:=hat i (by omega)
  rw[List.getElem?_eq_getElem (by omega),← getD_lt undef] at this
  exact rd_rc Tryz.agg25 (by rw[f.rc (rc_lt this) id];exact this)
 simp -implicitDefEqProofs only[go_sem,Nat.reduceEqDiff,Nat.reduceBEq,Nat.reduceAdd,gLa,gLz,gLs,Tryz.f176]
 refine loopD [0,3,5,9,10,11] (ccI w0 (.slice xa bs.length xc) bs) bs.length ⟨0,_,rfl,by omega,rfl,Fr.refl _ _⟩ ?_
 rintro _ vs w1 g ⟨i,y,rfl,hi,rfl,f1⟩
 by_cases hlt:i<bs.length
 ·have d1:decide ((i:Int)<((bs.length:Nat):Int))=true:=by simp;omega
  obtain⟨b,o,rfl,r1⟩:=get w1 f1 i hlt
  have hbi:=hb i hlt
  obtain⟨ba,bc,hbe,_⟩:=hbi.slice
  rw[hbe] at r1
  have y1:(0:Int)≤(i:Int)∧(i:Int)<((bs.length:Nat):Int):=by omega
  have hsum:((bs.take (i+1)).map List.length).sum=((bs.take i).map List.length).sum+bs[i].length:=take_sum_succ hlt
  have hle:=sum_take_le bs (i+1)
  have c1:IntKind.i64.wrap (((((bs.take i).map List.length).sum:Nat):Int)+((bs[i].length:Nat):Int))=((((bs.take (i+1)).map List.length).sum:Nat):Int):=by rw[hsum];exact i64add (by omega)
  have c2:IntKind.i64.wrap ((i:Int)+1)=((i+1:Nat):Int):=i64add (b:=1) (by omega)
  have d2:decide (((((bs.take (i+1)).map List.length).sum:Nat):Int)<0)=false:=by simp
  simp -implicitDefEqProofs only[go_sem,Nat.reduceEqDiff,Nat.reduceBEq,Nat.reduceAdd,gLa,gLz,gLs,d1,y1,r1,c1,d2,c2]
  exact⟨bs.length - (i+1),by omega,i+1,_,rfl,by omega,rfl,f1⟩
 ·have d1:decide ((i:Int)<((bs.length:Nat):Int))=false:=by simp;omega
  have e:i=bs.length:=by omega
  subst e
  rw[List.take_length]
  simp -implicitDefEqProofs only[go_sem,Nat.reduceEqDiff,Nat.reduceBEq,Nat.reduceAdd,gLa,gLz,gLs,d1]
  refine contL_call Tryz.pl206 ((grow0 w1 _ hs).mono ?_)
  rintro v2 w2 ⟨b2,f2⟩
  simp -implicitDefEqProofs only[go_sem,Nat.reduceEqDiff,Nat.reduceBEq,Nat.reduceAdd,gLa,gLz,gLs]
  refine loopD [6,8,25,26,27] (ccJ w0 (.slice xa bs.length xc) bs) bs.length ⟨0,v2,_,rfl,by omega,rfl,b2.back f1.size,f1.trans f2⟩ ?_
  rintro _ vs w3 g3 ⟨i,v3,y3,rfl,hi,rfl,b3,f3⟩
  by_cases hlt:i<bs.length
  ·have d1:decide ((i:Int)<((bs.length:Nat):Int))=true:=by simp;omega
   obtain⟨b,o,rfl,r1⟩:=get w3 f3 i hlt
   have hbi:=hb i hlt
   have y1:(0:Int)≤(i:Int)∧(i:Int)<((bs.length:Nat):Int):=by omega
   have hsum:((bs.take (i+1)).map List.length).sum=((bs.take i).map List.length).sum+bs[i].length:=take_sum_succ hlt
   have hle:=sum_take_le bs (i+1)
   have hlen:=take_len_sum bs i
   have c2:IntKind.i64.wrap ((i:Int)+1)=((i+1:Nat):Int):=i64add (b:=1) (by omega)
   obtain⟨v4,w4,hr4,b4,f4,_⟩:=NwB.cat Tryz.app25_25 b3 (hbi.fr0 f3) (bd_small (by omega)) (by omega) f3
   have hfl:=take_flat_succ hlt
   rw[← hfl] at b4
   simp -implicitDefEqProofs only[go_sem,Nat.reduceEqDiff,Nat.reduceBEq,Nat.reduceAdd,gLa,gLz,gLs,d1,y1,r1]
   refine contL_sem ⟨v4,w4,hr4,?_⟩
   simp -implicitDefEqProofs only[go_sem,Nat.reduceEqDiff,Nat.reduceBEq,Nat.reduceAdd,gLa,gLz,gLs,c2]
   exact⟨bs.length - (i+1),by omega,i+1,v4,_,rfl,by omega,rfl,b4,f4⟩
  ·have d1:decide ((i:Int)<((bs.length:Nat):Int))=false:=by simp;omega
   have e:i=bs.length:=by omega
   subst e
   rw[List.take_length] at b3
   simp -implicitDefEqProofs only[go_sem,Nat.reduceEqDiff,Nat.reduceBEq,Nat.reduceAdd,gLa,gLz,gLs,d1]
   exact⟨b3,f3⟩
end Go.V
end
section
namespace Go.V
open Go.Proofs Sha
set_option maxRecDepth 100000
structure Scr where
 head:Bs
 bits:Bs
 sums:Bs
 tail:Bs
def Scr.text (s:Scr):Bs:=s.head++(s.bits++(s.sums++s.tail))
def scrE (_:Bs) (a:Option Bs):Scr:=⟨Wit.ansT a,List.replicate 32 0,[],[]⟩
def scrF (l r:Scr):Scr:=⟨[2],List.replicate 32 0,[],l.text++r.text⟩
def scrP (wd:Int) (s:Scr) (_:Bs) (h:Nat) (n:Bs):Scr:=if n=emptD wd h then s else ⟨s.head,s.bits.set (h / 8) (s.bits.getD (h / 8) 0 ||| BitVec.ofNat 8 (2 ^ (h % 8))),s.sums++n,s.tail⟩
theorem passes_lay (wd:Int) (k:Bs):∀ (near:List Bs) (h:Nat) (s:Scr),Wit.passes (scrP wd) k h s near=⟨s.head,(Wit.layN wd h s.bits s.sums near).1,(Wit.layN wd h s.bits s.sums near).2,s.tail⟩
 | [],_,_=>rfl
 | n::r,h,s=>by
  simp only[Wit.passes,Wit.layN]
  rw[passes_lay wd k r]
  unfold scrP
  split <;> rfl
theorem fold_txt (wd:Int):∀ t,(Wit.fold scrE scrF (scrP wd) t).text=Wit.txt wd t
 | .leaf k top near a=>by
  simp only[Wit.fold]
  rw[passes_lay]
  simp[Scr.text,scrE,Wit.txt,Wit.nearT]
 | .fork ks f top near l r=>by
  simp only[Wit.fold]
  rw[passes_lay]
  have hl:=fold_txt wd l
  have hr:=fold_txt wd r
  simp only[Scr.text,scrF,Wit.txt,Wit.nearT] at *
  rw[hl,hr]
  simp
abbrev scC (hv sv tv:Value) (bits:Bs):Array Value:=(hv::sv::tv::bits.map u8).toArray
/-- a scroll's value; its lists are new since b, each in a place of its own -/
def ScR (b w:World) (v:Value) (s:Scr):Prop:=∃ hv sv tv,v=.agg (scC hv sv tv s.bits)∧s.bits.length=32∧NwB b w hv s.head∧NwB b w sv s.sums∧NwB b w tv s.tail ∧
 ∀ c,blockOf sv=some c→blockOf hv≠some c∧blockOf tv≠some c
def repS:Rep Scr 35 where
 R:=ScR
 back:=fun ⟨hv,sv,tv,h1,h2,h3,h4,h5,h6⟩ h=>⟨hv,sv,tv,h1,h2,h3.back h,h4.back h,h5.back h,h6⟩
 fr:=fun ⟨hv,sv,tv,h1,h2,h3,h4,h5,h6⟩ k hf=>⟨hv,sv,tv,h1,h2,h3.fr k fun b hb=>hf b (h3.lt hb).1,h4.fr k fun b hb=>hf b (h4.lt hb).1,h5.fr k fun b hb=>hf b (h5.lt hb).1,h6⟩
 agg:=fun ⟨hv,sv,tv,h1,h2,h3,h4,h5,h6⟩=>⟨_,h1,by simp[h2],by
  rw[← Array.all_toList]
  simp only[List.all_cons,h3.by.one,h4.by.one,h5.by.one,Bool.true_and]
  exact u8s_one _⟩
end Go.V
end
