/-
 Helpers: R3D, R3E.
-/
import Derived.Test.YtmenaeggoakppaaGreatDoorS47
import Derived.Test.YtmenaeggoakppaaGreatDoorS23
import Derived.Test.YtmenaeggoakppaaGreatDoorS36
set_option linter.all false
section
namespace Go.V
open Go.Proofs Sha
set_option maxRecDepth 100000
theorem By.blk0 {w:World} {v:Value} {bs:Bs} (h:By w v bs) (h0:bs≠[]) {b:Nat} (hb:blockOf v=some b):b<w.heap.size:=by
 have hp:=List.length_pos_iff.2 h0
 obtain⟨b',o,cap,rfl,_⟩:=h.pos hp
 have:=h.blkB hp
 simp only[blockOf,Option.some.injEq] at hb
 omega
/-- changes of the call's own whose values lie apart from the list -/
def ChX (w0 w:World) (v:Value) (cs:List Bat.Ch):Prop:=∃ rows,NwR w0 w 181 34 v rows∧rows.length=cs.length∧∀ i (h:i<rows.length) (h':i<cs.length),∃ vv,rows[i]=V.chRow cs[i] vv∧one vv=true∧By w vv cs[i].val∧(cs[i].val≠[]→∀ b,blockOf vv=some b→blockOf v≠some b)∧(cs[i].del=true→vv=.slice Option.none 0 0)∧cs[i].key.length=32
theorem ChX.new {w0 w:World} {v:Value} {cs:List Bat.Ch} (h:ChX w0 w v cs):ChN w0 w v cs:=by
 obtain⟨rows,h1,h2,h3⟩:=h
 refine⟨rows,h1,h2,fun i a b=>?_⟩
 obtain⟨vv,e1,e2,e3,_,e5,e6⟩:=h3 i a b
 exact⟨vv,e1,e2,e3,e5,e6⟩
theorem ChX.nil (w0 w:World):ChX w0 w (.slice Option.none 0 0) []:=⟨[],NwR.nil _ _ _ _,rfl,fun i h=>absurd h (by simp)⟩
theorem ChX.fr0 {w0 w w':World} {v:Value} {cs:List Bat.Ch} (h:ChX w0 w v cs) (f:No w w'):ChX w0 w' v cs:=by
 obtain⟨rows,h1,h2,h3⟩:=h
 refine⟨rows,h1.fr0 f,h2,fun i a b=>?_⟩
 obtain⟨vv,e1,e2,e3,e4,e5⟩:=h3 i a b
 exact⟨vv,e1,e2,e3.fr0 f,e4,e5⟩
theorem ChX.push {w0 w : World} {v : Value} {cs : List Bat.Ch} (h : ChX w0 w v cs) (f : No w0 w) {c : Bat.Ch} {vv : Value} (hk : c.key.length = 32) (ho : one vv = true) (hv : By w vv c.val) (hb : c.val ≠ [] → ∀ b, blockOf vv = some b → blockOf v ≠ some b) (hd : c.del = true → vv = .slice Option.none 0 0) (hl : cs.length ≤ 2 ^ 30) :
    ∃ v' w',(Builtin.append_ #[151,151] 0 #[v,.slice (some ⟨w.heap.size,0,Option.none⟩) 1 1]).run Tryz.prog (w.alloc (.cells (chC c.key c.del vv) 181)) = .ok v' w' ∧ ChX w0 w' v' (cs ++ [c]) ∧ No w0 w' := by
 obtain⟨rows,hN,hrows,hch⟩:=h
 obtain⟨v8,w8,hr8,b8,g8,m8⟩:=hN.push (P:=Tryz.prog) Tryz.app151_151 (xs:=V.chRow c vv) (by simp[V.chRow,hk]) (by have:=chC_one (k:=c.key) c.del ho;rw[← Array.all_toList] at this;simpa [chC,V.chRow] using this) (by decide) (by omega) (by omega) f.size
 have f8:No w0 w8:=f.trans' g8 fun b' hb' h=>by have:=(hN.lt h).1;omega
 refine⟨v8,w8,hr8,⟨rows++[V.chRow c vv],b8,by simp[hrows],?_⟩,f8⟩
 have hcv:∀ b',blockOf v=some b'→b'<w.heap.size:=fun b' h=>(hN.lt h).2
 intro q hq hq'
 by_cases hql:q<rows.length
 ·obtain⟨x,a1,a2,a3,a4,a5,a6⟩:=hch q hql (by omega)
  have el:(cs++[c])[q]=cs[q]'(by omega):=List.getElem_append_left (by omega)
  rw[el]
  refine⟨x,by rw[List.getElem_append_left hql];exact a1,a2,a3.fr' g8 fun hn b' h h'=>a4 hn b' h h',fun hn b' h h'=>?_,a5,a6⟩
  rcases m8 b' h' with h'' | h''
  ·exact a4 hn b' h h''
  ·have:=a3.blk0 hn h;omega
 ·obtain rfl:q=rows.length:=by simp at hq;omega
  have el:(cs++[c])[rows.length]'hq'=c:=by simp[hrows]
  rw[el]
  refine⟨vv,by simp,ho,hv.fr' g8 fun hn b' h h'=>hb hn b' h h',fun hn b' h h'=>?_,hd,hk⟩
  rcases m8 b' h' with h'' | h''
  ·exact hb hn b' h h''
  ·have:=hv.blk0 hn h;omega
theorem ChR.at {w : World} {v : Value} {cs : List Bat.Ch} (h : ChR w v cs) {i : Nat} (hi : i < cs.length) : ∃ b o cap vv, v = .slice (some ⟨b, o, Option.none⟩) cs.length cap ∧ one vv = true ∧ By w vv cs[i].val ∧ (cs[i].del = true → vv = .slice Option.none 0 0) ∧ cs[i].key.length = 32 ∧
    ∀ w',No w w' → rdO Tryz.prog 181 w' b (o + i * 34) = some (.agg (chC cs[i].key cs[i].del vv)) ∧ rdO Tryz.prog 34 w' b (o + i * 34) = some (dg cs[i].key) ∧ rdO Tryz.prog 4 w' b (o + i * 34 + 32) = some (.bool cs[i].del) ∧ rdO Tryz.prog 25 w' b (o + i * 34 + 33) = some vv := by
 obtain⟨rows,h1,h2,h3⟩:=h
 obtain⟨b,o,cap,rfl,hc⟩:=h1.pos (by decide) (by omega)
 obtain⟨vv,e1,e2,e3,e4,e5⟩:=h3 i (by omega) hi
 refine⟨b,o,cap,vv,by rw[h2],e2,e3,e4,e5,fun w' f=>⟨?_,?_,?_,?_⟩⟩
 ·have:=(h1.fr0 f).get (P:=Tryz.prog) (t:=181) Tryz.agg181 Tryz.sz181 (by decide) (i:=i) (by omega)
  rw[this,e1];rfl
 ·have := (h1.fr0 f).sub (P := Tryz.prog) (t := 34) (m := 32) Tryz.agg34 Tryz.sz34 (by decide) (i := i) (by omega) (j := 0) (by decide) (xs := cs[i].key.map u8) (by simp [e5]) (fun q hq => by
    rw [e1,V.chRow,Nat.zero_add,List.getElem?_append_left (by simp [e5]; exact hq)])
  rw[Nat.add_zero] at this
  exact this
 ·exact (h1.fr0 f).fld Tryz.agg4 (by omega) (j:=32) (by decide) (by rw[e1,V.chRow,List.getElem?_append_right (by simp[e5])];simp[e5])
 ·exact (h1.fr0 f).fld Tryz.agg25 (by omega) (j:=33) (by decide) (by rw[e1,V.chRow,List.getElem?_append_right (by simp[e5])];simp[e5])
theorem bldC {k:Bs} (d:Bool) (hk:k.length=32):bldO Tryz.prog 181 [(0,dg k),(1,.bool d)]=some (.agg (chC k d (.slice Option.none 0 0))):=by
 simp only[bldO,Tryz.zero181,Tryz.places181,Option.bind_some]
 have hz:(Value.agg (Array.replicate 32 (.int .u8 0)++#[Value.bool false,Value.slice Option.none 0 0])).cells.size=34:=rfl
 have e:(dg k).cells.toList=k.map u8:=rfl
 rw[fill_cons (off:=0) (n:=32) rfl (by simp[Value.cells,hk]) (by rw[hz];decide),fill_one1 (off:=32) rfl rfl (by rw[storeL_size,hz];decide),fill_nil',Option.map_some]
 congr 2
 apply Array.toList_inj.1
 rw[Array.toList_setIfInBounds,e,storeL_list _ _ _ (by rw[hz,List.length_map,hk];decide)]
 simp[Value.cells,hk,chC]
namespace R
set_option maxHeartbeats 1000000 in
theorem plain3 (w0:World) {c:Bat.Ch} {vv:Value} (hok:c.Ok) (ho:one vv=true) (hv:By w0 vv c.val) (hd:c.del=true→vv=.slice Option.none 0 0):Fn Tryz.prog 212 #[.agg (chC c.key c.del vv)] w0 fun r w'=>No w0 w'∧∃ v,r=.agg (chC c.key c.del v)∧one v=true∧By w' v c.val∧(c.del=true→v=.slice Option.none 0 0):=by
 refine Tryz.go212 (by simp) ?_
 obtain⟨hk,hvl,hdv⟩:=hok
 generalize c.del=dl at *
 have z32:(List.replicate 32 (0:Byte)).length=32:=List.length_replicate
 obtain⟨W,hW,f1,k1,k2,s1⟩:=allocs2 w0 (chC c.key dl vv) 181 (chC (List.replicate 32 0) false (.slice Option.none 0 0)) 181
 obtain⟨W3,hW3,f3,k3,s3⟩:=allocs1 W (chC (List.replicate 32 0) false (.slice Option.none 0 0)) 181
 have sz1:∀ d v,(chC c.key d v).size=34:=fun d v=>chC_size d v hk
 have rk:rdO Tryz.prog 34 W w0.heap.size 0=some (dg c.key):=by
  have:=rd_rcs (P:=Tryz.prog) (w:=W) (b:=w0.heap.size) (o:=0) Tryz.agg34 Tryz.sz34 (vs:=(c.key.map u8).toArray) (by simp[hk]) (by decide) (fun j hj=>by
   rw[rc_of_row k1,Nat.zero_add]
   simp[chC,List.getElem?_append_left,hk,hj])
  exact this
 have rb:rdO Tryz.prog 4 W w0.heap.size 32=some (.bool dl):=rd1 (P:=Tryz.prog) Tryz.agg4 k1 (by simp[chC,hk])
 have q3:wrO Tryz.prog 181 W3 W.heap.size 0 (.agg (chC c.key dl (.slice Option.none 0 0)))=some (put W3 W.heap.size (.cells (chC c.key dl (.slice Option.none 0 0)) 181 (0,0))):=wr_all (by rw[sz1];exact Tryz.sz181) k3 (by rw[chC_size _ _ z32,sz1]) (chC_one _ rfl)
 have k4:=put_at (o:=.cells (chC c.key dl (.slice Option.none 0 0)) 181 (0,0)) k3
 have f4:No W (put W3 W.heap.size (.cells (chC c.key dl (.slice Option.none 0 0)) 181 (0,0))):=f3.put (b:=W.heap.size) _ fun h=>absurd h (Nat.lt_irrefl _)
 have f04:=f1.trans f4
 have k14:=f4.at k1 id
 have k24:=f4.at k2 id
 have hs1:w0.heap.size+1<W.heap.size:=by omega
 generalize hw4:put W3 W.heap.size (.cells (chC c.key dl (.slice Option.none 0 0)) 181 (0,0))=w4 at *
 have rb4:rdO Tryz.prog 4 w4 w0.heap.size 32=some (.bool dl):=rd1 (P:=Tryz.prog) Tryz.agg4 k14 (by simp[chC,hk])
 have rv4:rdO Tryz.prog 25 w4 w0.heap.size 33=some vv:=rd1 (P:=Tryz.prog) Tryz.agg25 k14 (by simp[chC,hk])
 have fin : ∀ (w : World) (v : Value), w.heap[w0.heap.size + 1]? = some (.cells (chC (List.replicate 32 0) false (.slice Option.none 0 0)) 181 (0, 0)) → w.heap[W.heap.size]? = some (.cells (chC c.key dl v) 181 (0, 0)) → one v = true →
     rdO Tryz.prog 181 w W.heap.size 0 = some (.agg (chC c.key dl v)) ∧ wrO Tryz.prog 181 w (w0.heap.size + 1) 0 (.agg (chC c.key dl v)) = some (put w (w0.heap.size + 1) (.cells (chC c.key dl v) 181 (0,0))) ∧
     rdO Tryz.prog 181 (put w (w0.heap.size + 1) (.cells (chC c.key dl v) 181 (0,0))) (w0.heap.size + 1) 0 = some (.agg (chC c.key dl v)) := fun w v h h' hv =>
  ⟨rd_all Tryz.agg181 (by rw[sz1];exact Tryz.sz181) h',wr_all (by rw[sz1];exact Tryz.sz181) h (by rw[chC_size _ _ z32,sz1]) (chC_one _ hv),rd_all Tryz.agg181 (by rw[sz1];exact Tryz.sz181) (put_at (o:=.cells (chC c.key dl v) 181 (0,0)) h)⟩
 have bl:=bldC dl hk
 cases dl with
 | true =>
  have hv0:=hdv rfl
  obtain⟨r5,q5,r6⟩:=fin w4 _ k24 k4 rfl
  simp -implicitDefEqProofs only[go_sem,Nat.reduceEqDiff,Nat.reduceBEq,Nat.reduceAdd,gLa,gLz,gLs,Tryz.f212,Value.cells,chC_zero,hW,hW3,rk,rb,bl,q3,rb4,Nat.zero_add,Nat.add_zero,Bool.not_true,r5,q5,r6]
  exact⟨f04.put (b:=w0.heap.size+1) _ fun h=>by omega,_,rfl,rfl,by rw[hv0];exact (NwB.nil w0 _).by,fun _=>rfl⟩
 | false =>
  simp -implicitDefEqProofs only[go_sem,Nat.reduceEqDiff,Nat.reduceBEq,Nat.reduceAdd,gLa,gLz,gLs,Tryz.f212,Value.cells,chC_zero,hW,hW3,rk,rb,bl,q3,rb4,Nat.zero_add,Nat.add_zero,Bool.not_false,rv4]
  refine contL_call Tryz.pl211 ((bytes3 w4 (hv.fr0 f04) (by omega)).mono ?_)
  rintro v5 w5 ⟨n5,f5⟩
  have o5:one v5=true:=by obtain⟨a,cap,rfl⟩:=n5.slice;rfl
  have k5:=f5.at k4 id
  have q6:=wr1 (P:=Tryz.prog) (t:=25) (w:=w5) (b:=W.heap.size) (o:=33) (v:=v5) Tryz.sz25 o5 k5 (by rw[sz1];omega)
  rw[chC_val hk] at q6
  have k6:=put_at (o:=.cells (chC c.key false v5) 181 (0,0)) k5
  have hb:∀ b,blockOf v5=some b→W.heap.size<b:=fun b hb=>by have:=(n5.lt hb).1;have:=heap_lt k4;omega
  have n6:=n5.put (b:=W.heap.size) (.cells (chC c.key false v5) 181 (0,0)) fun b h=>by have:=hb b h;omega
  have f6:No w0 (put w5 W.heap.size (.cells (chC c.key false v5) 181 (0,0))):=(f04.trans f5).put (b:=W.heap.size) _ fun h=>by omega
  have k26:=put_off (b:=W.heap.size) (o:=.cells (chC c.key false v5) 181 (0,0)) (f5.at k24 id) (by omega)
  generalize put w5 W.heap.size (.cells (chC c.key false v5) 181 (0,0))=w6 at *
  obtain⟨r7,q7,r8⟩:=fin w6 v5 k26 k6 o5
  simp -implicitDefEqProofs only[go_sem,Nat.reduceEqDiff,Nat.reduceBEq,Nat.reduceAdd,gLa,gLz,gLs,q6,r7,q7,r8,Nat.zero_add,Nat.add_zero]
  exact⟨f6.put (b:=w0.heap.size+1) _ fun h=>by omega,_,rfl,o5,(n6.put (b:=w0.heap.size+1) (.cells (chC c.key false v5) 181 (0,0)) fun b h=>by have:=hb b h;omega).by,trivial⟩
def mgI (w0:World) (av bv:Value) (xs ys:List Bat.Ch) (n:Nat) (vs:List Value) (w:World):Prop :=
 ∃ (i j:Nat) (mv:Value) (out:List Bat.Ch),vs=[av,bv,mv,.int .i64 (i:Nat),.int .i64 (j:Nat)]∧i≤xs.length∧j≤ys.length∧n=(xs.length - i)+(ys.length - j)∧Bat.mergeP xs ys=out++Bat.mergeP (xs.drop i) (ys.drop j)∧out.length=i+j∧ChX w0 w mv out∧No w0 w
set_option maxHeartbeats 2000000 in
theorem merged (w0:World) {av bv:Value} {xs ys:List Bat.Ch} (ha:ChR w0 av xs) (hb:ChR w0 bv ys) (hla:xs.length≤2 ^ 20) (hlb:ys.length≤2 ^ 20):Fn Tryz.prog 213 #[av,bv] w0 fun v w'=>No w0 w'∧ChX w0 w' v (Bat.mergeP xs ys):=by
 refine Tryz.go213 (by simp) ?_
 obtain⟨aa,ac,rfl,hac⟩:=ha.slice
 obtain⟨ba,bc,rfl,hbc⟩:=hb.slice
 simp -implicitDefEqProofs only[go_sem,Nat.reduceEqDiff,Nat.reduceBEq,Nat.reduceAdd,gLa,gLz,gLs,Tryz.f213]
 refine loopD [0,1,5,6,7] (mgI w0 (.slice aa xs.length ac) (.slice ba ys.length bc) xs ys) (xs.length+ys.length) ⟨0,0,_,[],rfl,by omega,by omega,by omega,rfl,rfl,ChX.nil _ _,Fr.refl _ _⟩ ?_
 rintro _ vs w g ⟨i,j,mv,out,rfl,hi,hj,rfl,hmg,hol,hX,fw⟩
 have ca:IntKind.i64.wrap ((i:Int)+1)=((i+1:Nat):Int):=i64add (b:=1) (by omega)
 have cb:IntKind.i64.wrap ((j:Int)+1)=((j+1:Nat):Int):=i64add (b:=1) (by omega)
 have pushA:∀ (h:i<xs.length) (w':World) (vv:Value),No w0 w'→ChX w0 w' mv out→one vv=true→By w0 vv xs[i].val→(xs[i].del=true→vv=.slice Option.none 0 0)→xs[i].key.length=32→∃ v' w'',(Builtin.append_ #[151,151] 0 #[mv,.slice (some ⟨w'.heap.size,0,Option.none⟩) 1 1]).run Tryz.prog (w'.alloc (.cells (chC xs[i].key xs[i].del vv) 181))=.ok v' w''∧ChX w0 w'' v' (out++[xs[i]])∧No w0 w'':=fun h w' vv f hX ho hv hd hk =>
  hX.push f hk ho (hv.fr0 f) (fun hn b h1 h2=>by have:=hv.blk0 hn h1;obtain⟨rows,hN,_⟩:=hX;have:=(hN.lt h2).1;omega) hd (by omega)
 have pushB:∀ (h:j<ys.length) (w':World) (vv:Value),No w0 w'→ChX w0 w' mv out→one vv=true→By w0 vv ys[j].val→(ys[j].del=true→vv=.slice Option.none 0 0)→ys[j].key.length=32→∃ v' w'',(Builtin.append_ #[151,151] 0 #[mv,.slice (some ⟨w'.heap.size,0,Option.none⟩) 1 1]).run Tryz.prog (w'.alloc (.cells (chC ys[j].key ys[j].del vv) 181))=.ok v' w''∧ChX w0 w'' v' (out++[ys[j]])∧No w0 w'':=fun h w' vv f hX ho hv hd hk =>
  hX.push f hk ho (hv.fr0 f) (fun hn b h1 h2=>by have:=hv.blk0 hn h1;obtain⟨rows,hN,_⟩:=hX;have:=(hN.lt h2).1;omega) hd (by omega)
 by_cases hia:i<xs.length
 ·have d1:decide ((i:Int)<((xs.length:Nat):Int))=true:=decide_eq_true (by omega)
  obtain⟨b1,o1,c1,v1,e1,ho1,hv1,hd1,hk1,hr1⟩:=ha.at hia
  cases e1
  obtain⟨ra,rka,_,_⟩:=hr1 w fw
  obtain⟨_,rkad,_,_⟩:=hr1 w.drew fw.drew
  have y1:(0:Int)≤(i:Int)∧(i:Int)<((xs.length:Nat):Int):=by omega
  by_cases hjb:j<ys.length
  ·have d2:decide ((j:Int)<((ys.length:Nat):Int))=true:=decide_eq_true (by omega)
   have d3:decide ((j:Int) ≥ ((ys.length:Nat):Int))=false:=decide_eq_false (by omega)
   obtain⟨b2,o2,c2,v2,e2,ho2,hv2,hd2,hk2,hr2⟩:=hb.at hjb
   cases e2
   obtain⟨_,rkb,_,_⟩:=hr2 w fw
   obtain⟨_,rkbd,_,_⟩:=hr2 w.drew fw.drew
   have y2:(0:Int)≤(j:Int)∧(j:Int)<((ys.length:Nat):Int):=by omega
   rw[Bat.mergeP_drop hia hjb] at hmg
   simp -implicitDefEqProofs only[go_sem,Nat.reduceEqDiff,Nat.reduceBEq,Nat.reduceAdd,gLa,gLz,gLs,d1,d2,d3,y1,y2,and_self,Int.toNat_natCast,Nat.add_zero,rka,rkb,rkad,rkbd,ft_beq,tf_beq,beq_self_eq_true]
   refine contL_call Tryz.pl128 ((cmp w.drew hk1 hk2).mono ?_)
   rintro _ w3 ⟨rfl,f3⟩
   have f03:No w0 w3:=fw.drew.trans f3
   have X3:ChX w0 w3 mv out:=hX.fr0 ((Fr.refl _ _).drew.trans f3)
   by_cases hle:kcmp xs[i].key ys[j].key≤0
   ·have d4:decide (kcmp xs[i].key ys[j].key≤0)=true:=decide_eq_true hle
    obtain⟨ra3,_,_,_⟩:=hr1 w3 f03
    simp -implicitDefEqProofs only[go_sem,Nat.reduceEqDiff,Nat.reduceBEq,Nat.reduceAdd,gLa,gLz,gLs,d4,y1,and_self,Int.toNat_natCast,Nat.add_zero,ra3]
    refine contL_is (v:=.slice (some ⟨w3.heap.size,0,Option.none⟩) 1 1) (w':=w3.alloc (.cells (chC xs[i].key xs[i].del v1) 181)) (fill_oneN (K:=34) (by decide) (by decide) (by simp[chC]) (by simp[chC]) (chC_size _ _ hk1) _) ?_
    obtain⟨v8,w8,hr8,X8,f8⟩:=pushA hia w3 v1 f03 X3 ho1 hv1 hd1 hk1
    simp -implicitDefEqProofs only[go_sem,Nat.reduceEqDiff,Nat.reduceBEq,Nat.reduceAdd,gLa,gLz,gLs]
    refine contL_sem ⟨v8,w8,hr8,?_⟩
    simp -implicitDefEqProofs only[go_sem,Nat.reduceEqDiff,Nat.reduceBEq,Nat.reduceAdd,gLa,gLz,gLs,ca]
    rw[if_pos hle] at hmg
    exact⟨(xs.length - (i+1))+(ys.length - j),by omega,i+1,j,v8,out++[xs[i]],rfl,by omega,by omega,rfl,by rw[hmg];simp,by simp;omega,X8,f8⟩
   ·have d4:decide (kcmp xs[i].key ys[j].key≤0)=false:=decide_eq_false hle
    obtain⟨rb3,_,_,_⟩:=hr2 w3 f03
    simp -implicitDefEqProofs only[go_sem,Nat.reduceEqDiff,Nat.reduceBEq,Nat.reduceAdd,gLa,gLz,gLs,d4,y2,and_self,Int.toNat_natCast,Nat.add_zero,rb3]
    refine contL_is (v:=.slice (some ⟨w3.heap.size,0,Option.none⟩) 1 1) (w':=w3.alloc (.cells (chC ys[j].key ys[j].del v2) 181)) (fill_oneN (K:=34) (by decide) (by decide) (by simp[chC]) (by simp[chC]) (chC_size _ _ hk2) _) ?_
    obtain⟨v8,w8,hr8,X8,f8⟩:=pushB hjb w3 v2 f03 X3 ho2 hv2 hd2 hk2
    simp -implicitDefEqProofs only[go_sem,Nat.reduceEqDiff,Nat.reduceBEq,Nat.reduceAdd,gLa,gLz,gLs]
    refine contL_sem ⟨v8,w8,hr8,?_⟩
    simp -implicitDefEqProofs only[go_sem,Nat.reduceEqDiff,Nat.reduceBEq,Nat.reduceAdd,gLa,gLz,gLs,cb]
    rw[if_neg hle] at hmg
    exact⟨(xs.length - i)+(ys.length - (j+1)),by omega,i,j+1,v8,out++[ys[j]],rfl,by omega,by omega,rfl,by rw[hmg];simp,by simp;omega,X8,f8⟩
  ·have d2:decide ((j:Int)<((ys.length:Nat):Int))=false:=decide_eq_false (by omega)
   have d3:decide ((j:Int) ≥ ((ys.length:Nat):Int))=true:=decide_eq_true (by omega)
   have hbd:ys.drop j=[]:=List.drop_of_length_le (by omega)
   rw[hbd,Bat.mergeP_nil,List.drop_eq_getElem_cons hia] at hmg
   simp -implicitDefEqProofs only[go_sem,Nat.reduceEqDiff,Nat.reduceBEq,Nat.reduceAdd,gLa,gLz,gLs,d1,d2,d3,y1,and_self,Int.toNat_natCast,Nat.add_zero,ft_beq,tf_beq,beq_self_eq_true,ra]
   refine contL_is (v:=.slice (some ⟨w.heap.size,0,Option.none⟩) 1 1) (w':=w.alloc (.cells (chC xs[i].key xs[i].del v1) 181)) (fill_oneN (K:=34) (by decide) (by decide) (by simp[chC]) (by simp[chC]) (chC_size _ _ hk1) _) ?_
   obtain⟨v8,w8,hr8,X8,f8⟩:=pushA hia w v1 fw hX ho1 hv1 hd1 hk1
   simp -implicitDefEqProofs only[go_sem,Nat.reduceEqDiff,Nat.reduceBEq,Nat.reduceAdd,gLa,gLz,gLs]
   refine contL_sem ⟨v8,w8,hr8,?_⟩
   simp -implicitDefEqProofs only[go_sem,Nat.reduceEqDiff,Nat.reduceBEq,Nat.reduceAdd,gLa,gLz,gLs,ca]
   exact⟨(xs.length - (i+1))+(ys.length - j),by omega,i+1,j,v8,out++[xs[i]],rfl,by omega,by omega,rfl,by rw[hmg,hbd,Bat.mergeP_nil];simp,by simp;omega,X8,f8⟩
 ·have d1:decide ((i:Int)<((xs.length:Nat):Int))=false:=decide_eq_false (by omega)
  have had:xs.drop i=[]:=List.drop_of_length_le (by omega)
  by_cases hjb:j<ys.length
  ·have d2:decide ((j:Int)<((ys.length:Nat):Int))=true:=decide_eq_true (by omega)
   have d3:decide ((j:Int) ≥ ((ys.length:Nat):Int))=false:=decide_eq_false (by omega)
   obtain⟨b2,o2,c2,v2,e2,ho2,hv2,hd2,hk2,hr2⟩:=hb.at hjb
   cases e2
   obtain⟨rb,_,_,_⟩:=hr2 w fw
   have y2:(0:Int)≤(j:Int)∧(j:Int)<((ys.length:Nat):Int):=by omega
   rw[had,show Bat.mergeP [] (ys.drop j)=ys.drop j by simp[Bat.mergeP],List.drop_eq_getElem_cons hjb] at hmg
   simp -implicitDefEqProofs only[go_sem,Nat.reduceEqDiff,Nat.reduceBEq,Nat.reduceAdd,gLa,gLz,gLs,d1,d2,d3,y2,and_self,Int.toNat_natCast,Nat.add_zero,ft_beq,tf_beq,beq_self_eq_true,rb]
   refine contL_is (v:=.slice (some ⟨w.heap.size,0,Option.none⟩) 1 1) (w':=w.alloc (.cells (chC ys[j].key ys[j].del v2) 181)) (fill_oneN (K:=34) (by decide) (by decide) (by simp[chC]) (by simp[chC]) (chC_size _ _ hk2) _) ?_
   obtain⟨v8,w8,hr8,X8,f8⟩:=pushB hjb w v2 fw hX ho2 hv2 hd2 hk2
   simp -implicitDefEqProofs only[go_sem,Nat.reduceEqDiff,Nat.reduceBEq,Nat.reduceAdd,gLa,gLz,gLs]
   refine contL_sem ⟨v8,w8,hr8,?_⟩
   simp -implicitDefEqProofs only[go_sem,Nat.reduceEqDiff,Nat.reduceBEq,Nat.reduceAdd,gLa,gLz,gLs,cb]
   exact⟨(xs.length - i)+(ys.length - (j+1)),by omega,i,j+1,v8,out++[ys[j]],rfl,by omega,by omega,rfl,by rw[hmg,had];simp[Bat.mergeP],by simp;omega,X8,f8⟩
  ·have d2:decide ((j:Int)<((ys.length:Nat):Int))=false:=decide_eq_false (by omega)
   have hbd:ys.drop j=[]:=List.drop_of_length_le (by omega)
   rw[had,hbd,Bat.mergeP_nil,List.append_nil] at hmg
   simp -implicitDefEqProofs only[go_sem,Nat.reduceEqDiff,Nat.reduceBEq,Nat.reduceAdd,gLa,gLz,gLs,d1,d2,ft_beq,tf_beq,beq_self_eq_true]
   rw[hmg]
   exact⟨fw,hX⟩
end R
end Go.V
end
section
namespace Go.V
open Go.Proofs Sha
set_option maxRecDepth 100000
theorem ChR.cutV {w:World} {a:Option Addr} {n cap:Nat} {cs:List Bat.Ch} (h:ChR w (.slice a n cap) cs) {l m:Nat} (hl:l≤m) (hm:m≤n) (hn:cs.length=n):ChR w (V.cutV 34 a cap l m) ((cs.drop l).take (m - l)):=by
 obtain⟨rows,h1,h2,h3⟩:=h
 refine⟨_,h1.cutV hl hm (by omega),by simp[h2],fun i a b=>?_⟩
 simp only[List.getElem_take,List.getElem_drop]
 rw[List.length_take,List.length_drop] at a b
 exact h3 (l+i) (by omega) (by omega)
namespace R
def soI (w0:World) (sv:Value) (cs:List Bat.Ch) (n:Nat) (vs:List Value) (w:World):Prop :=
 ∃ (i:Nat) (mv:Value),vs=[sv,mv,.int .i64 (i:Nat)]∧i≤cs.length∧n=cs.length - i∧ChX w0 w mv (cs.take i)∧(i=0→mv=.slice Option.none 0 0)∧No w0 w
set_option maxHeartbeats 1000000 in
theorem sorted3:∀ (N:Nat) (w0:World) {sv:Value} {cs:List Bat.Ch},cs.length≤N→ChR w0 sv cs→(∀ c ∈ cs,c.Ok)→cs.length≤2 ^ 20→Fn Tryz.prog 186 #[sv] w0 fun v w'=>No w0 w'∧∃ l,ChR w' v l∧l.Perm cs∧Bat.Srt l:=by
 intro N
 induction N with
 | zero =>
  intro w0 sv cs hN h hok hl
  obtain rfl:cs=[]:=List.length_eq_zero_iff.1 (by omega)
  refine Tryz.go186 (by simp) ?_
  obtain⟨a,cap,rfl,hcap⟩:=h.slice
  have d0:decide (((([]:List Bat.Ch).length:Nat):Int)<2)=true:=rfl
  simp -implicitDefEqProofs only[go_sem,Nat.reduceEqDiff,Nat.reduceBEq,Nat.reduceAdd,gLa,gLz,gLs,Tryz.f186,d0]
  refine loopD [0,3,4] (soI w0 (.slice a ([]:List Bat.Ch).length cap) []) 0 ⟨0,_,rfl,by omega,rfl,ChX.nil _ _,fun _=>rfl,Fr.refl _ _⟩ ?_
  rintro _ vs w g ⟨i,mv,rfl,hi,rfl,hX,h0,fw⟩
  obtain rfl:i=0:=by simpa using hi
  have d1:decide (((0:Nat):Int)<((([]:List Bat.Ch).length:Nat):Int))=false:=rfl
  simp -implicitDefEqProofs only[go_sem,Nat.reduceEqDiff,Nat.reduceBEq,Nat.reduceAdd,gLa,gLz,gLs,d1]
  exact⟨fw,_,hX.new.rd,List.Perm.refl _,List.Pairwise.nil⟩
 | succ N ih =>
  intro w0 sv cs hN h hok hl
  refine Tryz.go186 (by simp) ?_
  obtain⟨a,cap,rfl,hcap⟩:=h.slice
  by_cases h2:cs.length<2
  ·have d0:decide (((cs.length:Nat):Int)<2)=true:=decide_eq_true (by omega)
   simp -implicitDefEqProofs only[go_sem,Nat.reduceEqDiff,Nat.reduceBEq,Nat.reduceAdd,gLa,gLz,gLs,Tryz.f186,d0]
   refine loopD [0,3,4] (soI w0 (.slice a cs.length cap) cs) cs.length ⟨0,_,rfl,by omega,rfl,by rw[List.take_zero];exact ChX.nil _ _,fun _=>rfl,Fr.refl _ _⟩ ?_
   rintro _ vs w g ⟨i,mv,rfl,hi,rfl,hX,h0,fw⟩
   by_cases hlt:i<cs.length
   ·obtain rfl:i=0:=by omega
    obtain rfl:=h0 rfl
    have d1:decide (((0:Nat):Int)<((cs.length:Nat):Int))=true:=decide_eq_true (by omega)
    have y1:(0:Int)≤((0:Nat):Int)∧((0:Nat):Int)<((cs.length:Nat):Int):=by omega
    have c1:IntKind.i64.wrap (((0:Nat):Int)+1)=((0+1:Nat):Int):=i64add (b:=1) (by omega)
    obtain⟨b1,o1,c1',v1,e1,ho1,hv1,hd1,hk1,hr1⟩:=h.at hlt
    cases e1
    obtain⟨ra,_,_,_⟩:=hr1 w fw
    rw[Nat.zero_mul,Nat.add_zero] at ra
    have hst:cs.take (0+1)=cs.take 0++[cs[0]]:=List.take_succ_eq_append_getElem hlt
    have hok0:=hok cs[0] (List.getElem_mem hlt)
    generalize cs[0]=c at *
    simp -implicitDefEqProofs only[go_sem,Nat.reduceEqDiff,Nat.reduceBEq,Nat.reduceAdd,gLa,gLz,gLs,d1,y1,and_self,Int.toNat_natCast,ra,decide_true]
    refine contL_call Tryz.pl212 ((plain3 w hok0 ho1 (hv1.fr0 fw) hd1).mono ?_)
    rintro _ w2 ⟨f2,v2,rfl,ho2,hv2,hd2⟩
    have f02:=fw.trans f2
    obtain⟨W3,hW3,f3,k3,s3⟩:=allocs1 w2 (chC (List.replicate 32 0) false (.slice Option.none 0 0)) 181
    have q3:wrO Tryz.prog 181 W3 w2.heap.size 0 (.agg (chC c.key c.del v2))=some (put W3 w2.heap.size (.cells (chC c.key c.del v2) 181 (0,0))):=wr_all (by rw[chC_size _ _ hk1];exact Tryz.sz181) k3 (by rw[chC_size _ _ List.length_replicate,chC_size _ _ hk1]) (chC_one _ ho2)
    have k4:=put_at (o:=.cells (chC c.key c.del v2) 181 (0,0)) k3
    have f24:No w2 (put W3 w2.heap.size (.cells (chC c.key c.del v2) 181 (0,0))):=f3.put (b:=w2.heap.size) _ fun h=>absurd h (Nat.lt_irrefl _)
    obtain⟨w4,hw4⟩:∃ w4,w4=put W3 w2.heap.size (.cells (chC c.key c.del v2) 181 (0,0)):=⟨_,rfl⟩
    rw[← hw4] at q3 k4 f24
    have r4:rdO Tryz.prog 181 w4 w2.heap.size 0=some (.agg (chC c.key c.del v2)):=rd_all Tryz.agg181 (by rw[chC_size _ _ hk1];exact Tryz.sz181) k4
    have f04:=f02.trans f24
    simp -implicitDefEqProofs only[go_sem,Nat.reduceEqDiff,Nat.reduceBEq,Nat.reduceAdd,gLa,gLz,gLs,Value.cells,chC_zero,hW3,q3,r4]
    refine contL_is (v:=.slice (some ⟨w4.heap.size,0,Option.none⟩) 1 1) (w':=w4.alloc (.cells (chC c.key c.del v2) 181)) (fill_oneN (K:=34) (by decide) (by decide) (by simp[chC]) (by simp[chC]) (chC_size _ _ hk1) _) ?_
    obtain⟨v8,w8,hr8,X8,f8⟩:=((hX.fr0 f2).fr0 f24).push f04 hk1 ho2 (hv2.fr0 f24) (fun _ b _ h=>by cases h) hd2 (by simp)
    rw[← hst] at X8
    simp -implicitDefEqProofs only[go_sem,Nat.reduceEqDiff,Nat.reduceBEq,Nat.reduceAdd,gLa,gLz,gLs]
    refine contL_sem ⟨v8,w8,hr8,?_⟩
    simp -implicitDefEqProofs only[go_sem,Nat.reduceEqDiff,Nat.reduceBEq,Nat.reduceAdd,gLa,gLz,gLs,c1]
    exact⟨cs.length - (0+1),by omega,0+1,v8,rfl,by omega,rfl,X8,fun h=>by omega,f8⟩
   ·have d1:decide ((i:Int)<((cs.length:Nat):Int))=false:=decide_eq_false (by omega)
    obtain rfl:i=cs.length:=by omega
    rw[List.take_length] at hX
    simp -implicitDefEqProofs only[go_sem,Nat.reduceEqDiff,Nat.reduceBEq,Nat.reduceAdd,gLa,gLz,gLs,d1]
    refine⟨fw,_,hX.new.rd,List.Perm.refl _,?_⟩
    match cs,h2 with
    | [],_=>exact List.Pairwise.nil
    | [c],_=>exact List.pairwise_singleton _ _
  ·have d0:decide (((cs.length:Nat):Int)<2)=false:=decide_eq_false (by omega)
   have n2:((2:Int)=0)=False:=by simp
   have a2:IntKind.i64.wrap (((cs.length:Nat):Int).tdiv 2)=((cs.length / 2:Nat):Int):=by rw[show ((cs.length:Nat):Int).tdiv 2=((cs.length / 2:Nat):Int) from rfl];exact i64n (by omega)
   obtain⟨m,hm⟩:∃ m,m=cs.length / 2:=⟨_,rfl⟩
   rw[← hm] at a2
   have p1:=slc_hi (P:=Tryz.prog) Tryz.slc151 Tryz.arr151 Tryz.sz181 (a:=a) (n:=cs.length) (cap:=cap) (l:=m) (by omega) hcap
   have p2:=slc_lo (P:=Tryz.prog) Tryz.slc151 Tryz.arr151 Tryz.sz181 (a:=a) (n:=cs.length) (cap:=cap) (l:=m) (by omega) hcap
   have h1:∀ w,No w0 w→ChR w (V.cutV 34 a cap 0 m) (cs.take m):=fun w f=>by
    have:=(h.fr0 f).cutV (l:=0) (m:=m) (by omega) (by omega) rfl
    rwa [List.drop_zero,Nat.sub_zero] at this
   have h2':∀ w,No w0 w→ChR w (V.cutV 34 a cap m cs.length) (cs.drop m):=fun w f=>by
    have:=(h.fr0 f).cutV (l:=m) (m:=cs.length) (by omega) (by omega) rfl
    rwa [List.take_of_length_le (by rw[List.length_drop];omega)] at this
   simp -implicitDefEqProofs only[go_sem,Nat.reduceEqDiff,Nat.reduceBEq,Nat.reduceAdd,gLa,gLz,gLs,Tryz.f186,d0,n2,a2,p1]
   refine contL_call Tryz.pl186 ((ih w0 (by rw[List.length_take];omega) (h1 w0 (Fr.refl _ _)) (fun c hc=>hok c (List.mem_of_mem_take hc)) (by rw[List.length_take];omega)).mono ?_)
   rintro v3 w3 ⟨f3,l3,h3,hp3,hs3⟩
   simp -implicitDefEqProofs only[go_sem,Nat.reduceEqDiff,Nat.reduceBEq,Nat.reduceAdd,gLa,gLz,gLs,p2]
   refine contL_call Tryz.pl186 ((ih w3 (by rw[List.length_drop];omega) (h2' w3 f3) (fun c hc=>hok c (List.mem_of_mem_drop hc)) (by rw[List.length_drop];omega)).mono ?_)
   rintro v4 w4 ⟨f4,l4,h4,hp4,hs4⟩
   have f04:=f3.trans f4
   have e3:=hp3.length_eq
   have e4:=hp4.length_eq
   rw[List.length_take] at e3
   rw[List.length_drop] at e4
   simp -implicitDefEqProofs only[go_sem,Nat.reduceEqDiff,Nat.reduceBEq,Nat.reduceAdd,gLa,gLz,gLs]
   refine contL_call Tryz.pl213 ((merged w4 (h3.fr0 f4) h4 (by omega) (by omega)).mono ?_)
   rintro v5 w5 ⟨f5,X5⟩
   simp -implicitDefEqProofs only[go_sem,Nat.reduceEqDiff,Nat.reduceBEq,Nat.reduceAdd,gLa,gLz,gLs]
   refine⟨f04.trans f5,_,X5.new.rd,?_,?_⟩
   ·refine (Bat.mergeP_perm l3 l4).trans ((hp3.append hp4).trans ?_)
    rw[List.take_append_drop]
   ·exact Bat.mergeP_srt l3 l4 (fun c hc=>(hok c (List.mem_of_mem_take (hp3.mem_iff.1 hc))).1) (fun c hc=>(hok c (List.mem_of_mem_drop (hp4.mem_iff.1 hc))).1) hs3 hs4
def wrI (w0:World) (sv nv:Value) (cs:List Bat.Ch) (n:Nat) (vs:List Value) (w:World):Prop :=
 ∃ (i:Nat),vs=[sv,.int .i64 (i:Nat)]∧i≤cs.length∧n=cs.length - i∧No w0 w
def wrJ (w0:World) (lv:Value) (l:List Bat.Ch) (n:Nat) (vs:List Value) (w:World):Prop :=
 ∃ (i:Nat),vs=[lv,.int .i64 (i:Nat)]∧1≤i∧(i≤l.length∨i=1)∧n=l.length+1 - i∧No w0 w
set_option maxHeartbeats 1000000 in
theorem wrong3 (w0:World) {sv:Value} {cs:List Bat.Ch} (h:ChR w0 sv cs) (hok:∀ c ∈ cs,c.Ok) (hn:(cs.map Bat.Ch.key).Nodup) (hl:cs.length≤64):Fn Tryz.prog 185 #[sv,.int .i64 4096] w0 fun v w'=>No w0 w'∧v=.int .i64 0:=by
 refine Tryz.go185 (by simp) ?_
 obtain⟨a,cap,rfl,hcap⟩:=h.slice
 have d0:decide (((cs.length:Nat):Int) > 4096)=false:=decide_eq_false (by omega)
 simp -implicitDefEqProofs only[go_sem,Nat.reduceEqDiff,Nat.reduceBEq,Nat.reduceAdd,gLa,gLz,gLs,Tryz.f185,d0]
 refine loopD [0,5] (wrI w0 (.slice a cs.length cap) (.int .i64 0) cs) cs.length ⟨0,rfl,by omega,rfl,Fr.refl _ _⟩ ?_
 rintro _ vs w g ⟨i,rfl,hi,rfl,fw⟩
 by_cases hlt:i<cs.length
 ·have d1:decide ((i:Int)<((cs.length:Nat):Int))=true:=decide_eq_true (by omega)
  have y1:(0:Int)≤(i:Int)∧(i:Int)<((cs.length:Nat):Int):=by omega
  have c1:IntKind.i64.wrap ((i:Int)+1)=((i+1:Nat):Int):=i64add (b:=1) (by omega)
  obtain⟨b1,o1,c1',v1,e1,ho1,hv1,hd1,hk1,hr1⟩:=h.at hlt
  cases e1
  obtain⟨_,_,rb,rv⟩:=hr1 w fw
  obtain⟨_,hvl,_⟩:=hok cs[i] (List.getElem_mem hlt)
  obtain⟨va,vc,rfl,hvc⟩:=hv1.slice
  have d2:decide (((cs[i].val.length:Nat):Int) > 128)=false:=decide_eq_false (by omega)
  cases hdel:cs[i].del with
  | true =>
   rw[hdel] at rb
   simp -implicitDefEqProofs only[go_sem,Nat.reduceEqDiff,Nat.reduceBEq,Nat.reduceAdd,gLa,gLz,gLs,d1,y1,and_self,Int.toNat_natCast,rb,Bool.not_true,ft_beq,tf_beq,beq_self_eq_true,c1]
   exact⟨cs.length - (i+1),by omega,i+1,rfl,by omega,rfl,fw⟩
  | false =>
   rw[hdel] at rb
   simp -implicitDefEqProofs only[go_sem,Nat.reduceEqDiff,Nat.reduceBEq,Nat.reduceAdd,gLa,gLz,gLs,d1,y1,and_self,Int.toNat_natCast,rb,Bool.not_false,ft_beq,tf_beq,beq_self_eq_true,rv,d2,c1]
   exact⟨cs.length - (i+1),by omega,i+1,rfl,by omega,rfl,fw⟩
 ·have d1:decide ((i:Int)<((cs.length:Nat):Int))=false:=decide_eq_false (by omega)
  simp -implicitDefEqProofs only[go_sem,Nat.reduceEqDiff,Nat.reduceBEq,Nat.reduceAdd,gLa,gLz,gLs,d1]
  refine contL_call Tryz.pl186 ((sorted3 64 w hl (h.fr0 fw) hok (by omega)).mono ?_)
  rintro lv w2 ⟨f2,l,hL,hp,hs⟩
  have f02:=fw.trans f2
  have hll:=hp.length_eq
  have hnl:(l.map Bat.Ch.key).Nodup:=(hp.map _).nodup_iff.2 hn
  obtain⟨la,lc,rfl,hlc⟩:=hL.slice
  simp -implicitDefEqProofs only[go_sem,Nat.reduceEqDiff,Nat.reduceBEq,Nat.reduceAdd,gLa,gLz,gLs]
  refine loopD [6,7] (wrJ w2 (.slice la l.length lc) l) l.length ⟨1,rfl,Nat.le_refl _,.inr rfl,by omega,Fr.refl _ _⟩ ?_
  rintro _ vs w3 g ⟨j,rfl,hj,hj2,rfl,f3⟩
  by_cases hjl:j<l.length
  ·have d3:decide ((j:Int)<((l.length:Nat):Int))=true:=decide_eq_true (by omega)
   have y2:(0:Int)≤(j:Int)∧(j:Int)<((l.length:Nat):Int):=by omega
   have y3:(0:Int)≤((j - 1:Nat):Int)∧((j - 1:Nat):Int)<((l.length:Nat):Int):=by omega
   have c2:IntKind.i64.wrap ((j:Int) - 1)=((j - 1:Nat):Int):=i64sub (b:=1) (by omega) (by omega)
   have c3:IntKind.i64.wrap ((j:Int)+1)=((j+1:Nat):Int):=i64add (b:=1) (by omega)
   obtain⟨b1,o1,c1',v1,e1,_,_,_,hk1,hr1⟩:=hL.at hjl
   cases e1
   obtain⟨b2,o2,c2',v2,e2,_,_,_,hk2,hr2⟩:=hL.at (show j - 1<l.length by omega)
   cases e2
   obtain⟨_,r1,_,_⟩:=hr1 w3 f3
   obtain⟨_,r2,_,_⟩:=hr2 w3 f3
   obtain⟨_,r1d,_,_⟩:=hr1 w3.drew f3.drew
   obtain⟨_,r2d,_,_⟩:=hr2 w3.drew f3.drew
   have eq:=eqKey hk1 hk2
   have hb:(l[j].key == l[j - 1].key)=false:=by
    rw[beq_eq_false_iff_ne]
    intro e
    exact nodup_ne hnl (i:=j) (j:=j - 1) (by simpa using hjl) (by simp;omega) (by omega) (by simpa using e)
   simp -implicitDefEqProofs only[go_sem,Nat.reduceEqDiff,Nat.reduceBEq,Nat.reduceAdd,gLa,gLz,gLs,d3,y2,y3,and_self,Int.toNat_natCast,Nat.add_zero,c2,c3,r1,r2,r1d,r2d,eq,hb]
   exact⟨l.length+1 - (j+1),by omega,j+1,rfl,by omega,.inl (by omega),rfl,f3.drew⟩
  ·have d3:decide ((j:Int)<((l.length:Nat):Int))=false:=decide_eq_false (by omega)
   simp -implicitDefEqProofs only[go_sem,Nat.reduceEqDiff,Nat.reduceBEq,Nat.reduceAdd,gLa,gLz,gLs,d3]
   exact⟨f02.trans f3,trivial⟩
theorem normal3 (w0:World) {sv:Value} {cs:List Bat.Ch} (h:ChR w0 sv cs) (hok:∀ c ∈ cs,c.Ok) (hn:(cs.map Bat.Ch.key).Nodup) (hl:cs.length≤64):Fn Tryz.prog 139 #[sv] w0 fun r w'=>No w0 w'∧∃ v l,r=.tuple #[v,.int .i64 0]∧ChR w' v l∧l.Perm cs∧Bat.Srt l:=by
 refine Tryz.go139 (by simp) ?_
 simp -implicitDefEqProofs only[go_sem,Nat.reduceEqDiff,Nat.reduceBEq,Nat.reduceAdd,gLa,gLz,gLs,Tryz.f139]
 refine contL_call Tryz.pl185 ((wrong3 w0 h hok hn hl).mono ?_)
 rintro _ w2 ⟨f2,rfl⟩
 simp -implicitDefEqProofs only[go_sem,Nat.reduceEqDiff,Nat.reduceBEq,Nat.reduceAdd,gLa,gLz,gLs,bne_self_eq_false]
 refine contL_call Tryz.pl186 ((sorted3 64 w2 hl (h.fr0 f2) hok (by omega)).mono ?_)
 rintro v w3 ⟨f3,l,hL,hp,hs⟩
 simp -implicitDefEqProofs only[go_sem,Nat.reduceEqDiff,Nat.reduceBEq,Nat.reduceAdd,gLa,gLz,gLs]
 exact⟨f2.trans f3,v,l,rfl,hL,hp,hs⟩
end R
end Go.V
end
