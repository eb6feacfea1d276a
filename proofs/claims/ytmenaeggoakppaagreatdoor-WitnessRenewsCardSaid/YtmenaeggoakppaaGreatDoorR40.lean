/- Helpers. -/
import Derived.Test.YtmenaeggoakppaaGreatDoorR39
import Derived.Test.YtmenaeggoakppaaGreatDoorR20
import Derived.Test.YtmenaeggoakppaaGreatDoorR32
import Derived.Test.YtmenaeggoakppaaGreatDoorR17
import Derived.Test.YtmenaeggoakppaaGreatDoorR23
set_option linter.all false
set_option maxRecDepth 100000
set_option maxHeartbeats 8000000
open Array renaming all_toList→yI
open Bool renaming not_true→rJ,not_false→xY
open Go.Builtin renaming append_→qN
open List renaming replicate→zF,getElem?_append_left→zC,drop_eq_getElem_cons→yY,drop_of_length_le→zS,map_cons→qP,take_length→y5,getElem?_append_right→jD,getElem_append_left→jK,take_append_drop→rK,mem_of_mem_take→zN,mem_of_mem_drop→zP
open Nat renaming reduceEqDiff→jU,zero_add→z8,lt_irrefl→jH,add_zero→jE,reduceAdd→vQ
open Go.Value renaming cells→jB
open Go.V.Wit renaming chOf→rV,findC→rW
namespace Go.V
open Go.Proofs.Tryz Go.V.Tryz
open Go.Proofs Sha
variable {c:Bat.Ch} {bs:Bs} {cs:List Bat.Ch} {b mb:Nat} {kv sv v vv:Value} {w w' w0:World}
theorem By.blk0 (h:By w v bs)(h0:bs≠[])(hb:qQb v=some b):b<w.heap.size:=by
 have hp:=List.length_pos_iff.2 h0;obtain⟨b',o,cap,rfl,_⟩:=h.pos hp;have:=h.blkB hp;simp only[qQb,oSi]at hb;omega
def ChX (w0 w:World)(v:Value)(cs:List Bat.Ch):Prop:=∃ rows,NwR w0 w 181 34 v rows∧rows.length=cs.length∧∀ i (h:i<rows.length) (h':i<cs.length),∃ vv,rows[i]=V.chRow cs[i] vv∧one vv=true∧By w vv cs[i].val∧(cs[i].val≠[]→∀ b,qQb vv=some b→qQb v≠some b)∧(cs[i].del=true→vv=.slice Option.none 0 0)∧cs[i].key.length=32
theorem ChX.new (h:ChX w0 w v cs):ChN w0 w v cs:=by
 obtain⟨rows,h1,h2,h3⟩:=h;refine⟨rows,h1,h2,fun i a b=>?_⟩;obtain⟨vv,e1,e2,e3,_,e5,e6⟩:=h3 i a b;exact⟨vv,e1,e2,e3,e5,e6⟩
theorem ChX.nil (w0 w:World):ChX w0 w (.slice Option.none 0 0) []:=⟨[],NwR.nil _ _ _ _,rfl,fun i h=>absurd h (by simp)⟩
theorem ChX.fr0 (h:ChX w0 w v cs)(f:No w w'):ChX w0 w' v cs:=by
 obtain⟨rows,h1,h2,h3⟩:=h;refine⟨rows,h1.fr0 f,h2,fun i a b=>?_⟩;obtain⟨vv,e1,e2,e3,e4,e5⟩:=h3 i a b;exact⟨vv,e1,e2,e3.fr0 f,e4,e5⟩
theorem ChX.push (h:ChX w0 w v cs)(f:No w0 w)(hk:c.key.length=32)(ho:one vv=true)(hv:By w vv c.val)(hb:c.val≠[]→∀ b, qQb vv=some b→qQb v≠some b)(hd:c.del=true→vv=.slice Option.none 0 0)(hl:cs.length≤2 ^ 30) :
  ∃ v' w',(qN #[151,151] 0 #[v,.slice (some ⟨w.heap.size,0,.none⟩) 1 1]).run prog (w.alloc (.cells (chC c.key c.del vv) 181))=.ok v' w'∧ChX w0 w' v' (cs++[c])∧No w0 w':=by
 obtain⟨rows,hN,hrows,hch⟩:=h;obtain⟨v8,w8,hr8,b8,g8,m8⟩:=hN.push (P:=prog) app151_151 (xs:=V.chRow c vv) (by simp[V.chRow,hk]) (by have:=qZk (k:=c.key) c.del ho;rw[← yI]at this;simpa [chC,V.chRow] using this) (by decide) (by omega) (by omega) f.size;have f8:No w0 w8:=f.trans' g8 fun b' hb' h=>by have:=(hN.lt h).1;omega
 refine⟨v8,w8,hr8,⟨rows++[V.chRow c vv],b8,by simp[hrows],?_⟩,f8⟩;have hcv:∀ b',qQb v=some b'→b'<w.heap.size:=fun b' h=>(hN.lt h).2;intro q hq hq'
 by_cases hql:q<rows.length
 ·obtain⟨x,a1,a2,a3,a4,a5,a6⟩:=hch q hql (by omega)
  have el:(cs++[c])[q]=cs[q]'(by omega):=jK (by omega);rw[el];refine⟨x,by rw[jK hql];exact a1,a2,a3.fr' g8 fun hn b' h h'=>a4 hn b' h h',fun hn b' h h'=>?_,a5,a6⟩
  rcases m8 b' h' with h'' | h''
  ·exact a4 hn b' h h''
  ·have:=a3.blk0 hn h;omega
 ·obtain rfl:q=rows.length:=by simp at hq;omega
  have el:(cs++[c])[rows.length]'hq'=c:=by simp[hrows]
  rw[el];refine⟨vv,by simp,ho,hv.fr' g8 fun hn b' h h'=>hb hn b' h h',fun hn b' h h'=>?_,hd,hk⟩
  rcases m8 b' h' with h'' | h''
  ·exact hb hn b' h h''
  ·have:=hv.blk0 hn h;omega
theorem ChR.at {w:World}{v:Value}{cs:List Bat.Ch}(h:ChR w v cs){i:Nat}(hi:i<cs.length):∃ b o cap vv, v=.slice (some ⟨b, o, Option.none⟩) cs.length cap∧one vv=true∧By w vv cs[i].val∧(cs[i].del=true→vv=.slice Option.none 0 0)∧cs[i].key.length=32 ∧
  ∀ w',No w w'→rdO prog 181 w' b (o+i*34)=some (.agg (chC cs[i].key cs[i].del vv))∧rdO prog 34 w' b (o+i*34)=some (dg cs[i].key)∧rdO prog 4 w' b (o+i*34+32)=some (.bool cs[i].del)∧rdO prog 25 w' b (o+i*34+33)=some vv:=by
 obtain⟨rows,h1,h2,h3⟩:=h;obtain⟨b,o,cap,rfl,hc⟩:=h1.pos (by decide) (by omega);obtain⟨vv,e1,e2,e3,e4,e5⟩:=h3 i (by omega) hi;refine⟨b,o,cap,vv,by rw[h2],e2,e3,e4,e5,fun w' f=>⟨?_,?_,?_,?_⟩⟩
 ·have:=(h1.fr0 f).get (P:=prog) (t:=181) agg181 sz181 (by decide) (i:=i) (by omega)
  rw[this,e1];rfl
 ·have:=(h1.fr0 f).sub (P:=prog) (t:=34) (m:=32) agg34 sz34 (by decide) (i:=i) (by omega) (j:=0) (by decide) (xs:=cs[i].key.map u8) (by simp[e5]) (fun q hq=>by
   rw[e1,V.chRow,z8,zC (by simp[e5];exact hq)])
  rw[jE]at this;exact this
 ·exact (h1.fr0 f).fld agg4 (by omega) (j:=32) (by decide) (by rw[e1,V.chRow,jD (by simp[e5])];simp[e5])
 ·exact (h1.fr0 f).fld agg25 (by omega) (j:=33) (by decide) (by rw[e1,V.chRow,jD (by simp[e5])];simp[e5])
theorem bldC {k:Bs}(d:Bool)(hk:k.length=32):bldO prog 181 [(0,dg k),(1,.bool d)]=some (.agg (chC k d (.slice Option.none 0 0))):=by
 simp only[bldO,zero181,places181,Option.bind_some];have hz:(Value.agg (Array.replicate 32 (.int .u8 0)++#[Value.bool false,Value.slice .none 0 0])).cells.size=34:=rfl;have e:(dg k).cells.toList=k.map u8:=rfl;rw[qJo (off:=0) (n:=32) rfl (by simp[jB,hk]) (by rw[hz];decide),qXn (off:=32) rfl rfl (by rw[qXq,hz];decide),fill_nil',Option.map_some]
 congr 2
 apply Array.toList_inj.1;rw[Array.toList_setIfInBounds,e,qXr _ _ _ (by rw[hz,List.length_map,hk];decide)];simp[jB,hk,chC]
namespace R
theorem plain3 (w0:World)(hok:c.Ok)(ho:one vv=true)(hv:By w0 vv c.val)(hd:c.del=true→vv=.slice Option.none 0 0):Fn prog 212 #[.agg (chC c.key c.del vv)] w0 fun r w'=>No w0 w'∧∃ v,r=.agg (chC c.key c.del v)∧one v=true∧By w' v c.val∧(c.del=true→v=.slice Option.none 0 0):=by
 refine go212 (by simp) ?_;obtain⟨hk,hvl,hdv⟩:=hok;generalize c.del=dl at *;have z32:(zF 32 (0:Byte)).length=32:=lRe;obtain⟨W,hW,f1,k1,k2,s1⟩:=qKp w0 (chC c.key dl vv) 181 (chC (zF 32 0) false (.slice .none 0 0)) 181;obtain⟨W3,hW3,f3,k3,s3⟩:=qQr W (chC (zF 32 0) false (.slice .none 0 0)) 181;have sz1:∀ d v,(chC c.key d v).size=34:=fun d v=>qQo d v hk
 have rk:rdO prog 34 W w0.heap.size 0=some (dg c.key):=by
  have:=rd_rcs (P:=prog) (w:=W) (b:=w0.heap.size) (o:=0) agg34 sz34 (vs:=(c.key.map u8).toArray) (by simp[hk]) (by decide) (fun j hj=>by
   rw[qXa k1,z8]
   simp[chC,zC,hk,hj])
  exact this
 have rb:rdO prog 4 W w0.heap.size 32=some (.bool dl):=rd1 (P:=prog) agg4 k1 (by simp[chC,hk]);have q3:wrO prog 181 W3 W.heap.size 0 (.agg (chC c.key dl (.slice .none 0 0)))=some (put W3 W.heap.size (.cells (chC c.key dl (.slice .none 0 0)) 181 (0,0))):=qQt (by rw[sz1];exact sz181) k3 (by rw[qQo _ _ z32,sz1]) (qZk _ rfl);have k4:=qQf (o:=.cells (chC c.key dl (.slice .none 0 0)) 181 (0,0)) k3;have f4:No W (put W3 W.heap.size (.cells (chC c.key dl (.slice .none 0 0)) 181 (0,0))):=f3.put (b:=W.heap.size) _ fun h=>absurd h (jH _);have f04:=f1.trans f4;have k14:=f4.at k1 id;have k24:=f4.at k2 id;have hs1:w0.heap.size+1<W.heap.size:=by omega
 generalize hw4:put W3 W.heap.size (.cells (chC c.key dl (.slice .none 0 0)) 181 (0,0))=w4 at *;have rb4:rdO prog 4 w4 w0.heap.size 32=some (.bool dl):=rd1 (P:=prog) agg4 k14 (by simp[chC,hk]);have rv4:rdO prog 25 w4 w0.heap.size 33=some vv:=rd1 (P:=prog) agg25 k14 (by simp[chC,hk])
 have fin:∀ (w:World) (v:Value), w.heap[w0.heap.size+1]?=some (.cells (chC (zF 32 0) false (.slice .none 0 0)) 181 (0, 0))→w.heap[W.heap.size]?=some (.cells (chC c.key dl v) 181 (0, 0))→one v=true →
   rdO prog 181 w W.heap.size 0=some (.agg (chC c.key dl v))∧wrO prog 181 w (w0.heap.size+1) 0 (.agg (chC c.key dl v))=some (put w (w0.heap.size+1) (.cells (chC c.key dl v) 181 (0,0))) ∧
   rdO prog 181 (put w (w0.heap.size+1) (.cells (chC c.key dl v) 181 (0,0))) (w0.heap.size+1) 0=some (.agg (chC c.key dl v)):=fun w v h h' hv =>
  ⟨qXp agg181 (by rw[sz1];exact sz181) h',qQt (by rw[sz1];exact sz181) h (by rw[qQo _ _ z32,sz1]) (qZk _ hv),qXp agg181 (by rw[sz1];exact sz181) (qQf (o:=.cells (chC c.key dl v) 181 (0,0)) h)⟩
 have bl:=bldC dl hk
 cases dl with
 | true =>
  have hv0:=hdv rfl;obtain⟨r5,q5,r6⟩:=fin w4 _ k24 k4 rfl;simp -implicitDefEqProofs only[go_sem,jU,Tryz.f212,jB,qXe,hW,hW3,rk,rb,bl,q3,rb4,z8,rJ,r5,q5,r6];exact⟨f04.put (b:=w0.heap.size+1) _ fun h=>by omega,_,rfl,rfl,by rw[hv0];exact (NwB.nil w0 _).by,fun _=>rfl⟩
 | false =>
  simp -implicitDefEqProofs only[go_sem,jU,Tryz.f212,jB,qXe,hW,hW3,rk,rb,bl,q3,rb4,z8,xY,rv4];refine qQa pl211 ((bytes3 w4 (hv.fr0 f04) (by omega)).mono ?_);rintro v5 w5 ⟨n5,f5⟩;have o5:one v5=true:=by obtain⟨a,cap,rfl⟩:=n5.slice;rfl
  have k5:=f5.at k4 id;have q6:=wr1 (P:=prog) (t:=25) (w:=w5) (b:=W.heap.size) (o:=33) (v:=v5) sz25 o5 k5 (by rw[sz1];omega);rw[chC_val hk]at q6;have k6:=qQf (o:=.cells (chC c.key false v5) 181 (0,0)) k5;have hb:∀ b,qQb v5=some b→W.heap.size<b:=fun b hb=>by have:=(n5.lt hb).1;have:=qQl k4;omega
  have n6:=n5.put (b:=W.heap.size) (.cells (chC c.key false v5) 181 (0,0)) fun b h=>by have:=hb b h;omega
  have f6:No w0 (put w5 W.heap.size (.cells (chC c.key false v5) 181 (0,0))):=(f04.trans f5).put (b:=W.heap.size) _ fun h=>by omega
  have k26:=qQq (b:=W.heap.size) (o:=.cells (chC c.key false v5) 181 (0,0)) (f5.at k24 id) (by omega);generalize put w5 W.heap.size (.cells (chC c.key false v5) 181 (0,0))=w6 at *;obtain⟨r7,q7,r8⟩:=fin w6 v5 k26 k6 o5;simp -implicitDefEqProofs only[go_sem,jU,q6,r7,q7,r8,z8];exact⟨f6.put (b:=w0.heap.size+1) _ fun h=>by omega,_,rfl,o5,(n6.put (b:=w0.heap.size+1) (.cells (chC c.key false v5) 181 (0,0)) fun b h=>by have:=hb b h;omega).by,trivial⟩
def mgI (w0:World)(av bv:Value)(xs ys:List Bat.Ch)(n:Nat)(vs:List Value)(w:World):Prop :=
 ∃ (i j:Nat) (mv:Value) (out:List Bat.Ch),vs=[av,bv,mv,.int .i64 (i:Nat),.int .i64 (j:Nat)]∧i≤xs.length∧j≤ys.length∧n=(xs.length - i)+(ys.length - j)∧Bat.mergeP xs ys=out++Bat.mergeP (xs.drop i) (ys.drop j)∧out.length=i+j∧ChX w0 w mv out∧No w0 w
theorem merged (w0:World){av bv:Value}{xs ys:List Bat.Ch}(ha:ChR w0 av xs)(hb:ChR w0 bv ys)(hla:xs.length≤2 ^ 20)(hlb:ys.length≤2 ^ 20):Fn prog 213 #[av,bv] w0 fun v w'=>No w0 w'∧ChX w0 w' v (Bat.mergeP xs ys):=by
 refine go213 (by simp) ?_;obtain⟨aa,ac,rfl,hac⟩:=ha.slice;obtain⟨ba,bc,rfl,hbc⟩:=hb.slice;simp -implicitDefEqProofs only[go_sem,Tryz.f213];refine loopD [0,1,5,6,7] (mgI w0 (.slice aa xs.length ac) (.slice ba ys.length bc) xs ys) (xs.length+ys.length) ⟨0,0,_,[],rfl,by omega,by omega,by omega,rfl,rfl,ChX.nil _ _,Fr.refl _ _⟩ ?_;rintro _ vs w g ⟨i,j,mv,out,rfl,hi,hj,rfl,hmg,hol,hX,fw⟩;have ca:=iSu (i:=i);have cb:=iSu (i:=j)
 have pushA:∀ (h:i<xs.length) (w':World) (vv:Value),No w0 w'→ChX w0 w' mv out→one vv=true→By w0 vv xs[i].val→(xs[i].del=true→vv=.slice .none 0 0)→xs[i].key.length=32→∃ v' w'',(qN #[151,151] 0 #[mv,.slice (some ⟨w'.heap.size,0,.none⟩) 1 1]).run prog (w'.alloc (.cells (chC xs[i].key xs[i].del vv) 181))=.ok v' w''∧ChX w0 w'' v' (out++[xs[i]])∧No w0 w'':=fun h w' vv f hX ho hv hd hk =>
  hX.push f hk ho (hv.fr0 f) (fun hn b h1 h2=>by have:=hv.blk0 hn h1;obtain⟨rows,hN,_⟩:=hX;have:=(hN.lt h2).1;omega) hd (by omega)
 have pushB:∀ (h:j<ys.length) (w':World) (vv:Value),No w0 w'→ChX w0 w' mv out→one vv=true→By w0 vv ys[j].val→(ys[j].del=true→vv=.slice .none 0 0)→ys[j].key.length=32→∃ v' w'',(qN #[151,151] 0 #[mv,.slice (some ⟨w'.heap.size,0,.none⟩) 1 1]).run prog (w'.alloc (.cells (chC ys[j].key ys[j].del vv) 181))=.ok v' w''∧ChX w0 w'' v' (out++[ys[j]])∧No w0 w'':=fun h w' vv f hX ho hv hd hk =>
  hX.push f hk ho (hv.fr0 f) (fun hn b h1 h2=>by have:=hv.blk0 hn h1;obtain⟨rows,hN,_⟩:=hX;have:=(hN.lt h2).1;omega) hd (by omega)
 by_cases hia:i<xs.length
 ·have d1:=dTo ((i:Int)<((xs.length:Nat):Int))
  obtain⟨b1,o1,c1,v1,e1,ho1,hv1,hd1,hk1,hr1⟩:=ha.at hia;cases e1;obtain⟨ra,rka,_,_⟩:=hr1 w fw;obtain⟨_,rkad,_,_⟩:=hr1 w.drew fw.drew;have y1:=iBd (i:=i) (n:=xs.length)
  by_cases hjb:j<ys.length
  ·have d2:=dTo ((j:Int)<((ys.length:Nat):Int))
   have d3:=dFo ((j:Int) ≥ ((ys.length:Nat):Int));obtain⟨b2,o2,c2,v2,e2,ho2,hv2,hd2,hk2,hr2⟩:=hb.at hjb;cases e2;obtain⟨_,rkb,_,_⟩:=hr2 w fw;obtain⟨_,rkbd,_,_⟩:=hr2 w.drew fw.drew;have y2:=iBd (i:=j) (n:=ys.length);rw[Bat.mergeP_drop hia hjb]at hmg;simp -implicitDefEqProofs only[go_sem,jU,gLa,gLz,gLs,d3,y1,y2,and_self,iTn,jE,rkad,rkbd];refine qQa pl128 ((cmp w.drew hk1 hk2).mono ?_);rintro _ w3 ⟨rfl,f3⟩;have f03:No w0 w3:=fw.drew.trans f3;have X3:ChX w0 w3 mv out:=hX.fr0 ((Fr.refl _ _).drew.trans f3)
   by_cases hle:kcmp xs[i].key ys[j].key≤0
   ·have d4:decide (kcmp xs[i].key ys[j].key≤0)=true:=decide_eq_true hle
    obtain⟨ra3,_,_,_⟩:=hr1 w3 f03;simp -implicitDefEqProofs only[go_sem,jU,d4,y1,and_self,iTn,ra3];refine qQj (v:=.slice (some ⟨w3.heap.size,0,.none⟩) 1 1) (w':=w3.alloc (.cells (chC xs[i].key xs[i].del v1) 181)) (qZb (K:=34) (by decide) (by decide) (by simp[]) (by simp[]) (qQo _ _ hk1) _) ?_;obtain⟨v8,w8,hr8,X8,f8⟩:=pushA hia w3 v1 f03 X3 ho1 hv1 hd1 hk1;simp -implicitDefEqProofs only[go_sem,jU];refine qQg ⟨v8,w8,hr8,?_⟩;simp -implicitDefEqProofs only[go_sem,jU,ca];rw[if_pos hle]at hmg;exact⟨(xs.length - (i+1))+(ys.length - j),by omega,i+1,j,v8,out++[xs[i]],rfl,by omega,by omega,rfl,by rw[hmg];simp,by simp;omega,X8,f8⟩
   ·have d4:decide (kcmp xs[i].key ys[j].key≤0)=false:=decide_eq_false hle
    obtain⟨rb3,_,_,_⟩:=hr2 w3 f03;simp -implicitDefEqProofs only[go_sem,jU,d4,y2,and_self,iTn,rb3];refine qQj (v:=.slice (some ⟨w3.heap.size,0,.none⟩) 1 1) (w':=w3.alloc (.cells (chC ys[j].key ys[j].del v2) 181)) (qZb (K:=34) (by decide) (by decide) (by simp[]) (by simp[]) (qQo _ _ hk2) _) ?_;obtain⟨v8,w8,hr8,X8,f8⟩:=pushB hjb w3 v2 f03 X3 ho2 hv2 hd2 hk2;simp -implicitDefEqProofs only[go_sem,jU];refine qQg ⟨v8,w8,hr8,?_⟩;simp -implicitDefEqProofs only[go_sem,jU,cb];rw[if_neg hle]at hmg;exact⟨(xs.length - i)+(ys.length - (j+1)),by omega,i,j+1,v8,out++[ys[j]],rfl,by omega,by omega,rfl,by rw[hmg];simp,by simp;omega,X8,f8⟩
  ·have d2:=dFo ((j:Int)<((ys.length:Nat):Int))
   have d3:=dTo ((j:Int) ≥ ((ys.length:Nat):Int));have hbd:ys.drop j=[]:=zS (by omega);rw[hbd,Bat.mergeP_nil,yY hia]at hmg;simp -implicitDefEqProofs only[go_sem,jU,gLa,gLz,gLs,d2,d3,y1,and_self,iTn,jE,ra];refine qQj (v:=.slice (some ⟨w.heap.size,0,.none⟩) 1 1) (w':=w.alloc (.cells (chC xs[i].key xs[i].del v1) 181)) (qZb (K:=34) (by decide) (by decide) (by simp[]) (by simp[]) (qQo _ _ hk1) _) ?_;obtain⟨v8,w8,hr8,X8,f8⟩:=pushA hia w v1 fw hX ho1 hv1 hd1 hk1;simp -implicitDefEqProofs only[go_sem,jU];refine qQg ⟨v8,w8,hr8,?_⟩;simp -implicitDefEqProofs only[go_sem,jU,ca];exact⟨(xs.length - (i+1))+(ys.length - j),by omega,i+1,j,v8,out++[xs[i]],rfl,by omega,by omega,rfl,by rw[hmg,hbd,Bat.mergeP_nil];simp,by simp;omega,X8,f8⟩
 ·have d1:=dFo ((i:Int)<((xs.length:Nat):Int))
  have had:xs.drop i=[]:=zS (by omega)
  by_cases hjb:j<ys.length
  ·have d2:=dTo ((j:Int)<((ys.length:Nat):Int))
   have d3:=dFo ((j:Int) ≥ ((ys.length:Nat):Int));obtain⟨b2,o2,c2,v2,e2,ho2,hv2,hd2,hk2,hr2⟩:=hb.at hjb;cases e2;obtain⟨rb,_,_,_⟩:=hr2 w fw;have y2:=iBd (i:=j) (n:=ys.length);rw[had,show Bat.mergeP [] (ys.drop j)=ys.drop j by simp[Bat.mergeP],yY hjb]at hmg;simp -implicitDefEqProofs only[go_sem,jU,gLa,gLz,gLs,d1,d3,y2,and_self,iTn,qZn,bSe,rb];refine qQj (v:=.slice (some ⟨w.heap.size,0,.none⟩) 1 1) (w':=w.alloc (.cells (chC ys[j].key ys[j].del v2) 181)) (qZb (K:=34) (by decide) (by decide) (by simp[]) (by simp[]) (qQo _ _ hk2) _) ?_;obtain⟨v8,w8,hr8,X8,f8⟩:=pushB hjb w v2 fw hX ho2 hv2 hd2 hk2;simp -implicitDefEqProofs only[go_sem,jU];refine qQg ⟨v8,w8,hr8,?_⟩;simp -implicitDefEqProofs only[go_sem,jU,cb];exact⟨(xs.length - i)+(ys.length - (j+1)),by omega,i,j+1,v8,out++[ys[j]],rfl,by omega,by omega,rfl,by rw[hmg,had];simp[Bat.mergeP],by simp;omega,X8,f8⟩
  ·have d2:=dFo ((j:Int)<((ys.length:Nat):Int))
   have hbd:ys.drop j=[]:=zS (by omega);rw[had,hbd,Bat.mergeP_nil,List.append_nil]at hmg;simp -implicitDefEqProofs only[go_sem,jU,gLa,gLz,gLs,d1,d2,bSe];rw[hmg];exact⟨fw,hX⟩
end R
theorem ChR.cutV {a:Option Addr}{n cap:Nat}(h:ChR w (.slice a n cap) cs){l m:Nat}(hl:l≤m)(hm:m≤n)(hn:cs.length=n):ChR w (V.cutV 34 a cap l m) ((cs.drop l).take (m - l)):=by
 obtain⟨rows,h1,h2,h3⟩:=h;refine⟨_,h1.cutV hl hm (by omega),by simp[h2],fun i a b=>?_⟩;simp only[List.getElem_take,List.getElem_drop];rw[lTk,lDr]at a b;exact h3 (l+i) (by omega) (by omega)
namespace R
def soI (w0:World)(sv:Value)(cs:List Bat.Ch)(n:Nat)(vs:List Value)(w:World):Prop :=
 ∃ (i:Nat) (mv:Value),vs=[sv,mv,.int .i64 (i:Nat)]∧i≤cs.length∧n=cs.length - i∧ChX w0 w mv (cs.take i)∧(i=0→mv=.slice .none 0 0)∧No w0 w
theorem sorted3:∀ (N:Nat) (w0:World) {sv:Value} {cs:List Bat.Ch},cs.length≤N→ChR w0 sv cs→(∀ c ∈ cs,c.Ok)→cs.length≤2 ^ 20→Fn prog 186 #[sv] w0 fun v w'=>No w0 w'∧∃ l,ChR w' v l∧l.Perm cs∧Bat.Srt l:=by
 intro N
 induction N with
 | zero =>
  intro w0 sv cs hN h hok hl;obtain rfl:cs=[]:=List.length_eq_zero_iff.1 (by omega);refine go186 (by simp) ?_;obtain⟨a,cap,rfl,hcap⟩:=h.slice;have d0:decide (((([]:List Bat.Ch).length:Nat):Int)<2)=true:=rfl;simp -implicitDefEqProofs only[go_sem,jU,gLa,gLz,Tryz.f186,d0];refine loopD [0,3,4] (soI w0 (.slice a ([]:List Bat.Ch).length cap) []) 0 ⟨0,_,rfl,by omega,rfl,ChX.nil _ _,fun _=>rfl,Fr.refl _ _⟩ ?_;rintro _ vs w g ⟨i,mv,rfl,hi,rfl,hX,h0,fw⟩;obtain rfl:i=0:=by simpa using hi
  have d1:decide (((0:Nat):Int)<((([]:List Bat.Ch).length:Nat):Int))=false:=rfl;simp -implicitDefEqProofs only[go_sem,jU,gLa,gLz,d1];exact⟨fw,_,hX.new.rd,List.Perm.refl _,List.Pairwise.nil⟩
 | succ N ih =>
  intro w0 sv cs hN h hok hl;refine go186 (by simp) ?_;obtain⟨a,cap,rfl,hcap⟩:=h.slice
  by_cases h2:cs.length<2
  ·have d0:=dTo (((cs.length:Nat):Int)<2)
   simp -implicitDefEqProofs only[go_sem,jU,gLa,gLz,Tryz.f186,d0];refine loopD [0,3,4] (soI w0 (.slice a cs.length cap) cs) cs.length ⟨0,_,rfl,by omega,rfl,by rw[List.take_zero];exact ChX.nil _ _,fun _=>rfl,Fr.refl _ _⟩ ?_;rintro _ vs w g ⟨i,mv,rfl,hi,rfl,hX,h0,fw⟩
   by_cases hlt:i<cs.length
   ·obtain rfl:i=0:=by omega
    obtain rfl:=h0 rfl;have d1:=dTo (((0:Nat):Int)<((cs.length:Nat):Int));have y1:(0:Int)≤((0:Nat):Int)∧((0:Nat):Int)<((cs.length:Nat):Int):=by omega
    have c1:IntKind.i64.wrap (((0:Nat):Int)+1)=((0+1:Nat):Int):=qXd (b:=1);obtain⟨b1,o1,c1',v1,e1,ho1,hv1,hd1,hk1,hr1⟩:=h.at hlt;cases e1;obtain⟨ra,_,_,_⟩:=hr1 w fw;rw[Nat.zero_mul,jE]at ra;have hst:cs.take (0+1)=cs.take 0++[cs[0]]:=tSg hlt;have hok0:=hok cs[0] (List.getElem_mem hlt);generalize cs[0]=c at *;simp -implicitDefEqProofs only[go_sem,jU,gLa,gLz,y1,and_self,iTn,ra,decide_true];refine qQa pl212 ((plain3 w hok0 ho1 (hv1.fr0 fw) hd1).mono ?_);rintro _ w2 ⟨f2,v2,rfl,ho2,hv2,hd2⟩;have f02:=fw.trans f2;obtain⟨W3,hW3,f3,k3,s3⟩:=qQr w2 (chC (zF 32 0) false (.slice .none 0 0)) 181;have q3:wrO prog 181 W3 w2.heap.size 0 (.agg (chC c.key c.del v2))=some (put W3 w2.heap.size (.cells (chC c.key c.del v2) 181 (0,0))):=qQt (by rw[qQo _ _ hk1];exact sz181) k3 (by rw[qQo _ _ lRe,qQo _ _ hk1]) (qZk _ ho2);have k4:=qQf (o:=.cells (chC c.key c.del v2) 181 (0,0)) k3;have f24:No w2 (put W3 w2.heap.size (.cells (chC c.key c.del v2) 181 (0,0))):=f3.put (b:=w2.heap.size) _ fun h=>absurd h (jH _)
    obtain⟨w4,hw4⟩:∃ w4,w4=put W3 w2.heap.size (.cells (chC c.key c.del v2) 181 (0,0)):=⟨_,rfl⟩
    rw[← hw4]at q3 k4 f24;have r4:rdO prog 181 w4 w2.heap.size 0=some (.agg (chC c.key c.del v2)):=qXp agg181 (by rw[qQo _ _ hk1];exact sz181) k4;have f04:=f02.trans f24;simp -implicitDefEqProofs only[go_sem,jU,jB,qXe,hW3,q3,r4];refine qQj (v:=.slice (some ⟨w4.heap.size,0,.none⟩) 1 1) (w':=w4.alloc (.cells (chC c.key c.del v2) 181)) (qZb (K:=34) (by decide) (by decide) (by simp[chC]) (by simp[chC]) (qQo _ _ hk1) _) ?_;obtain⟨v8,w8,hr8,X8,f8⟩:=((hX.fr0 f2).fr0 f24).push f04 hk1 ho2 (hv2.fr0 f24) (fun _ b _ h=>by cases h) hd2 (by simp);rw[← hst]at X8;simp -implicitDefEqProofs only[go_sem,jU];refine qQg ⟨v8,w8,hr8,?_⟩;simp -implicitDefEqProofs only[go_sem,jU,c1];exact⟨cs.length - (0+1),by omega,0+1,v8,rfl,by omega,rfl,X8,fun h=>by omega,f8⟩
   ·have d1:=dFo ((i:Int)<((cs.length:Nat):Int))
    obtain rfl:i=cs.length:=by omega
    rw[y5]at hX;simp -implicitDefEqProofs only[go_sem,jU,gLa,gLz,d1];refine⟨fw,_,hX.new.rd,List.Perm.refl _,?_⟩
    match cs,h2 with
    | [],_=>exact List.Pairwise.nil
    | [c],_=>exact List.pairwise_singleton _ _
  ·have d0:=dFo (((cs.length:Nat):Int)<2)
   have n2:((2:Int)=0)=False:=by simp
   have a2:IntKind.i64.wrap (((cs.length:Nat):Int).tdiv 2)=((cs.length / 2:Nat):Int):=by rw[show ((cs.length:Nat):Int).tdiv 2=((cs.length / 2:Nat):Int) from rfl];exact i64n
   obtain⟨m,hm⟩:∃ m,m=cs.length / 2:=⟨_,rfl⟩
   rw[← hm]at a2;have p1:=slc_hi (P:=prog) slc151 arr151 sz181 (a:=a) (n:=cs.length) (cap:=cap) (l:=m) (by omega) hcap;have p2:=slc_lo (P:=prog) slc151 arr151 sz181 (a:=a) (n:=cs.length) (cap:=cap) (l:=m) (by omega) hcap
   have h1:∀ w,No w0 w→ChR w (V.cutV 34 a cap 0 m) (cs.take m):=fun w f=>by
    have:=(h.fr0 f).cutV (l:=0) (m:=m) (by omega) (by omega) rfl
    rwa [List.drop_zero,Nat.sub_zero]at this
   have h2':∀ w,No w0 w→ChR w (V.cutV 34 a cap m cs.length) (cs.drop m):=fun w f=>by
    have:=(h.fr0 f).cutV (l:=m) (m:=cs.length) (by omega) (by omega) rfl
    rwa [List.take_of_length_le (by rw[lDr];omega)]at this
   simp -implicitDefEqProofs only[go_sem,jU,gLa,gLz,Tryz.f186,d0,n2,a2,p1];refine qQa pl186 ((ih w0 (by rw[lTk];omega) (h1 w0 (Fr.refl _ _)) (fun c hc=>hok c (zN hc)) (by rw[lTk];omega)).mono ?_);rintro v3 w3 ⟨f3,l3,h3,hp3,hs3⟩;simp -implicitDefEqProofs only[go_sem,jU,p2];refine qQa pl186 ((ih w3 (by rw[lDr];omega) (h2' w3 f3) (fun c hc=>hok c (zP hc)) (by rw[lDr];omega)).mono ?_);rintro v4 w4 ⟨f4,l4,h4,hp4,hs4⟩;have f04:=f3.trans f4;have e3:=hp3.length_eq;have e4:=hp4.length_eq;rw[lTk]at e3;rw[lDr]at e4;simp -implicitDefEqProofs only[go_sem,jU];refine qQa pl213 ((merged w4 (h3.fr0 f4) h4 (by omega) (by omega)).mono ?_);rintro v5 w5 ⟨f5,X5⟩;simp -implicitDefEqProofs only[go_sem];refine⟨f04.trans f5,_,X5.new.rd,?_,?_⟩
   ·refine (Bat.mergeP_perm l3 l4).trans ((hp3.append hp4).trans ?_)
    rw[rK]
   ·exact Bat.mergeP_srt l3 l4 (fun c hc=>(hok c (zN (hp3.mem_iff.1 hc))).1) (fun c hc=>(hok c (zP (hp4.mem_iff.1 hc))).1) hs3 hs4
def wrI (w0:World)(sv nv:Value)(cs:List Bat.Ch)(n:Nat)(vs:List Value)(w:World):Prop :=
 ∃ (i:Nat),vs=[sv,.int .i64 (i:Nat)]∧i≤cs.length∧n=cs.length - i∧No w0 w
def wrJ (w0:World)(lv:Value)(l:List Bat.Ch)(n:Nat)(vs:List Value)(w:World):Prop :=
 ∃ (i:Nat),vs=[lv,.int .i64 (i:Nat)]∧1≤i∧(i≤l.length∨i=1)∧n=l.length+1 - i∧No w0 w
theorem wrong3 (w0:World)(h:ChR w0 sv cs)(hok:∀ c ∈ cs,c.Ok)(hn:(cs.map Bat.Ch.key).Nodup)(hl:cs.length≤64):Fn prog 185 #[sv,.int .i64 4096] w0 fun v w'=>No w0 w'∧v=.int .i64 0:=by
 refine go185 (by simp) ?_;obtain⟨a,cap,rfl,hcap⟩:=h.slice;have d0:=dFo (((cs.length:Nat):Int) > 4096);simp -implicitDefEqProofs only[go_sem,jU,gLa,gLz,Tryz.f185,d0];refine loopD [0,5] (wrI w0 (.slice a cs.length cap) (.int .i64 0) cs) cs.length ⟨0,rfl,by omega,rfl,Fr.refl _ _⟩ ?_;rintro _ vs w g ⟨i,rfl,hi,rfl,fw⟩
 by_cases hlt:i<cs.length
 ·have d1:=dTo ((i:Int)<((cs.length:Nat):Int))
  have y1:=iBd (i:=i) (n:=cs.length);have c1:=iSu (i:=i);obtain⟨b1,o1,c1',v1,e1,ho1,hv1,hd1,hk1,hr1⟩:=h.at hlt;cases e1;obtain⟨_,_,rb,rv⟩:=hr1 w fw;obtain⟨_,hvl,_⟩:=hok cs[i] (List.getElem_mem hlt);obtain⟨va,vc,rfl,hvc⟩:=hv1.slice;have d2:=dFo (((cs[i].val.length:Nat):Int) > 128)
  cases hdel:cs[i].del with
  | true =>
   rw[hdel]at rb;simp -implicitDefEqProofs only[go_sem,jU,gLa,gLz,gLs,y1,and_self,iTn,rb,rJ,qZn,c1];exact⟨cs.length - (i+1),by omega,i+1,rfl,by omega,rfl,fw⟩
  | false =>
   rw[hdel]at rb;simp -implicitDefEqProofs only[go_sem,jU,gLa,gLz,gLs,y1,and_self,iTn,rb,xY,bSe,rv,d2,c1];exact⟨cs.length - (i+1),by omega,i+1,rfl,by omega,rfl,fw⟩
 ·have d1:=dFo ((i:Int)<((cs.length:Nat):Int))
  simp -implicitDefEqProofs only[go_sem,jU,gLa,gLz,d1];refine qQa pl186 ((sorted3 64 w hl (h.fr0 fw) hok (by omega)).mono ?_);rintro lv w2 ⟨f2,l,hL,hp,hs⟩;have f02:=fw.trans f2;have hll:=hp.length_eq;have hnl:(l.map Bat.Ch.key).Nodup:=(hp.map _).nodup_iff.2 hn;obtain⟨la,lc,rfl,hlc⟩:=hL.slice;simp -implicitDefEqProofs only[go_sem];refine loopD [6,7] (wrJ w2 (.slice la l.length lc) l) l.length ⟨1,rfl,Nat.le_refl _,.inr rfl,by omega,Fr.refl _ _⟩ ?_;rintro _ vs w3 g ⟨j,rfl,hj,hj2,rfl,f3⟩
  by_cases hjl:j<l.length
  ·have d3:=dTo ((j:Int)<((l.length:Nat):Int))
   have y2:=iBd (i:=j) (n:=l.length);have y3:(0:Int)≤((j - 1:Nat):Int)∧((j - 1:Nat):Int)<((l.length:Nat):Int):=by omega
   have c2:IntKind.i64.wrap ((j:Int) - 1)=((j - 1:Nat):Int):=qXg (b:=1) (by omega) (by omega);have c3:=iSu (i:=j);obtain⟨b1,o1,c1',v1,e1,_,_,_,hk1,hr1⟩:=hL.at hjl;cases e1;obtain⟨b2,o2,c2',v2,e2,_,_,_,hk2,hr2⟩:=hL.at (show j - 1<l.length by omega);cases e2;obtain⟨_,r1,_,_⟩:=hr1 w3 f3;obtain⟨_,r2,_,_⟩:=hr2 w3 f3;obtain⟨_,r1d,_,_⟩:=hr1 w3.drew f3.drew;obtain⟨_,r2d,_,_⟩:=hr2 w3.drew f3.drew;have eq:=eqKey hk1 hk2
   have hb:(l[j].key == l[j - 1].key)=false:=by
    rw[bFn];intro e;exact nodup_ne hnl (i:=j) (j:=j - 1) (by simpa using hjl) (by simp;omega) (by omega) (by simpa using e)
   simp -implicitDefEqProofs only[go_sem,jU,gLa,gLz,y2,y3,and_self,iTn,jE,c2,c3,r1d,r2d,eq,hb];exact⟨l.length+1 - (j+1),by omega,j+1,rfl,by omega,.inl (by omega),rfl,f3.drew⟩
  ·have d3:=dFo ((j:Int)<((l.length:Nat):Int))
   simp -implicitDefEqProofs only[go_sem,jU,gLa,gLz,d3];exact⟨f02.trans f3,trivial⟩
theorem normal3 (w0:World)(h:ChR w0 sv cs)(hok:∀ c ∈ cs,c.Ok)(hn:(cs.map Bat.Ch.key).Nodup)(hl:cs.length≤64):Fn prog 139 #[sv] w0 fun r w'=>No w0 w'∧∃ v l,r=.tuple #[v,.int .i64 0]∧ChR w' v l∧l.Perm cs∧Bat.Srt l:=by
 refine go139 (by simp) ?_;simp -implicitDefEqProofs only[go_sem,jU,Tryz.f139];refine qQa pl185 ((wrong3 w0 h hok hn hl).mono ?_);rintro _ w2 ⟨f2,rfl⟩;simp -implicitDefEqProofs only[go_sem,jU,bNe];refine qQa pl186 ((sorted3 64 w2 hl (h.fr0 f2) hok (by omega)).mono ?_);rintro v w3 ⟨f3,l,hL,hp,hs⟩;simp -implicitDefEqProofs only[go_sem,jU];exact⟨f2.trans f3,v,l,rfl,hL,hp,hs⟩
end R
theorem srt_of {ks d:List Bs}(hk:All32 ks)(hn:ks.Nodup)(hp:d.Perm ks)(ho:d.Pairwise fun a b=>¬ klt b a):d=Wit.srt ks:=by
 refine (Wit.sorted_is hk hp ho fun i hi e=>?_).2;have hnl:=hp.nodup_iff.2 hn;have h1:i<d.length:=by omega
 rw[qQi _ h1,qQi _ hi]at e;exact nodup_ne hnl h1 hi (by omega) e
def Ents (w:World):List (Bs × Value)→List Bat.Ch→Prop
 | [],[]=>True
 | p::l,c::cs=>(p.1=c.key∧c.key.length=32∧∃ vv,p.2=.agg (chC c.key c.del vv)∧one vv=true∧By w vv c.val)∧Ents w l cs
 | _,_=>False
theorem Ents.fr0 {w w':World}(f:No w w'):∀ {l:List (Bs × Value)} {cs:List Bat.Ch},Ents w l cs→Ents w' l cs
 | [],[],_=>trivial
 | p::l,c::cs,⟨⟨h1,h2,vv,h3,h4,h5⟩,h⟩=>⟨⟨h1,h2,vv,h3,h4,h5.fr0 f⟩,h.fr0 f⟩
 | [],_::_,h=>h.elim
 | _::_,[],h=>h.elim
theorem Ents.frB {F:Nat→Prop}{w w':World}(f:Fr F w w')(hF:∀ vv bs,By w vv bs→bs≠[]→∀ b,qQb vv=some b→¬ F b):∀ {l:List (Bs × Value)} {cs:List Bat.Ch},Ents w l cs→Ents w' l cs
 | [],[],_=>trivial
 | p::l,c::cs,⟨⟨h1,h2,vv,h3,h4,h5⟩,h⟩=>⟨⟨h1,h2,vv,h3,h4,h5.fr' f fun hn b hb=>hF vv _ h5 hn b hb⟩,h.frB f hF⟩
 | [],_::_,h=>h.elim
 | _::_,[],h=>h.elim
theorem By.ne_cells (h:By w v bs){c:Array Value}{e:TypeId}{fz:Nat × Nat}(hb:w.heap[b]?=some (.cells c e fz))(hc:∀ (i:Nat) (x:Byte),c[i]?≠some (u8 x))(hn:bs≠[]){b':Nat}(h':qQb v=some b'):b'≠b:=by
 rintro rfl;have hp:=List.length_pos_iff.2 hn;obtain⟨a,cap,rfl,_,hat⟩:=h.at;obtain⟨b1,o1,rfl,hr⟩:=hat 0 hp;simp only[qQb,oSi]at h';subst h';rw[qXa hb]at hr;exact hc _ _ hr
theorem Ents.snoc {w:World}{c:Bat.Ch}{vv:Value}(hk:c.key.length=32)(ho:one vv=true)(hv:By w vv c.val):∀ {l:List (Bs × Value)} {cs:List Bat.Ch},Ents w l cs→Ents w (l++[(c.key,.agg (chC c.key c.del vv))]) (cs++[c])
 | [],[],_=>⟨⟨rfl,hk,vv,rfl,ho,hv⟩,trivial⟩
 | p::l,d::cs,⟨h1,h⟩=>⟨h1,h.snoc hk ho hv⟩
 | [],_::_,h=>h.elim
 | _::_,[],h=>h.elim
theorem Ents.keys {w:World}:∀ {l:List (Bs × Value)} {cs:List Bat.Ch},Ents w l cs→l.map (·.1)=cs.map Bat.Ch.key
 | [],[],_=>rfl
 | p::l,c::cs,⟨h1,h⟩=>by rw[qP,qP,h1.1,h.keys]
 | [],_::_,h=>h.elim
 | _::_,[],h=>h.elim
theorem Ents.find {w:World}(k:Bs):∀ {l:List (Bs × Value)} {cs:List Bat.Ch}, Ents w l cs→match rW (cs.map rV) k with
  | none=>findA l k=none
  | some c=>∃ vv,findA l k=some (.agg (chC c.1 c.2.1 vv))∧c.1.length=32∧one vv=true∧By w vv c.2.2
 | [],[],_=>rfl
 | p::l,c::cs,⟨⟨h1,h2,vv,h3,h4,h5⟩,h⟩=>by
  have ih:=Ents.find k h;simp only[qP,rW,findA]
  by_cases e:c.key=k
  ·rw[if_pos (show (rV c).1=k from e),if_pos (h1.trans e)]
   exact⟨vv,by rw[h3];rfl,h2,h4,h5⟩
  ·rw[if_neg (show ¬ (rV c).1=k from e),if_neg fun g=>e (h1.symm.trans g)]
   exact ih
 | [],_::_,h=>h.elim
 | _::_,[],h=>h.elim
def TurnM (w:World)(mb:Nat)(cs:List Bat.Ch):Prop:=∃ l,MpA w mb l∧Ents w l cs
theorem TurnM.fr0 (h:TurnM w mb cs)(f:No w w'):TurnM w' mb cs:=by
 obtain⟨l,h1,h2⟩:=h;exact⟨l,h1.fr0 f,h2.fr0 f⟩
def PaQ (w0:World)(y:Except Int (List Bat.Ch))(r:Value)(w':World):Prop:=No w0 w'∧match y with
 | .error e=>r=.tuple #[.agg #[.slice .none 0 0,.map .none],.int .i64 e]
 | .ok cs=>∃ kv mb,r=.tuple #[.agg #[kv,.map (some mb)],.int .i64 0]∧one kv=true∧RdD w' kv (Wit.srt (cs.map Bat.Ch.key))∧TurnM w' mb cs
def paI (w2:World)(db tb mb:Nat)(sv:Value)(cs:List Bat.Ch)(n:Nat)(vs:List Value)(w:World):Prop :=
 ∃ (i:Nat) (kv:Value) (l:List (Bs × Value)),vs=[pt db 0,pt tb 0,sv,.int .i64 (cs.length:Nat),.int .i64 (i:Nat)]∧i≤cs.length∧n=cs.length - i∧w.heap[tb]?=some (.cells #[kv,.map (some mb)] 111 (0,0)) ∧
  NwD w2 w 34 kv ((cs.map Bat.Ch.key).take i)∧(∀ b,qQb kv=some b→b≠tb∧b≠mb)∧MpA w mb l∧Ents w2 l (cs.take i)∧No w2 w
theorem parsed (w0:World){rv:Value}{s:Bs}(hr:By w0 rv s)(hl:s.length≤2 ^ 50):Fn prog 59 #[rv] w0 (PaQ w0 (Bat.parseP s)):=by
 refine go59 (by simp) ?_;obtain⟨W,hW,f1,k1,s1⟩:=qQr w0 #[.slice .none 0 0,.map .none] 111;simp -implicitDefEqProofs only[go_sem,jU,Tryz.f59,jB,hW];refine qQa pl104 ((parse W (hr.fr0 f1) hl).mono ?_);rintro _ w2 ⟨f2,cv,i,e,rfl,hm⟩;have f02:=f1.trans f2;have k12:=f2.at k1 id
 have fin:∀ (w:World) (a b:Value), w.heap[w0.heap.size]?=some (.cells #[.slice .none 0 0, .map .none] 111 (0, 0))→one a=true→one b=true →
   wrO prog 111 w w0.heap.size 0 (.agg #[a,b])=some (put w w0.heap.size (.cells #[a,b] 111 (0,0)))∧rdO prog 111 (put w w0.heap.size (.cells #[a,b] 111 (0,0))) w0.heap.size 0=some (.agg #[a,b]):=fun w a b h ha hb =>
  ⟨qQt (vs:=#[a,b]) sz111 h rfl (by rw[← yI];simp only[List.all_cons,List.all_nil,ha,hb];rfl),qXp agg111 sz111 (qQf (o:=.cells #[a,b] 111 (0,0)) h)⟩
 have lst:∀ (w:World) (c:Array Value),No w0 w→No w0 (put w w0.heap.size (.cells c 111 (0,0))):=fun w c h=>h.put (b:=w0.heap.size) _ fun h=>absurd h (jH _);unfold PaQ
 cases hp:Bat.parseP s with
 | error e' =>
  rw[hp]at hm;obtain rfl:e=e':=hm;have he0:(e != 0)=true:=by rw[bne_iff_ne];exact Wit.parseP_err hp
  obtain⟨q2,l2⟩:=fin w2 _ _ k12 (show one (.slice .none 0 0)=true from rfl) (show one (.map .none)=true from rfl);have bl0:bldO prog 111 []=some (.agg #[.slice .none 0 0,.map .none]):=rfl;simp -implicitDefEqProofs only[go_sem,jU,gLa,gLz,gLs,he0,bl0,q2,l2];exact⟨lst _ _ f02,trivial⟩
 | ok cs =>
  rw[hp]at hm;obtain⟨rfl,hC⟩:=hm;obtain⟨h64,hok,hnd⟩:=Bat.parseP_ok hp;have h32:=Wit.ok_keys hok;have hR:=hC.rd;clear hC;obtain⟨ca,cc,rfl,hcc⟩:=hR.slice;have bld:bldO prog 111 [(1,.map (some w2.heap.size))]=some (.agg #[.slice .none 0 0,.map (some w2.heap.size)]):=rfl;have f3:No w2 (w2.alloc (.map #[] 0)):=(Fr.refl _ _).alloc _;have m3:(w2.alloc (.map #[] 0)).heap[w2.heap.size]?=some (.map #[] 0):=qQc _ _;have s3:(w2.alloc (.map #[] 0)).heap.size=w2.heap.size+1:=qQd _ _
  obtain⟨W3,hW3⟩:∃ W3,w2.alloc (.map #[] 0)=W3:=⟨_,rfl⟩
  rw[hW3]at f3 m3 s3;obtain⟨W4,hW4,f4,k4,s4⟩:=qQr W3 #[.slice .none 0 0,.map .none] 111;have q5:wrO prog 111 W4 W3.heap.size 0 (.agg #[.slice .none 0 0,.map (some w2.heap.size)])=some (put W4 W3.heap.size (.cells #[.slice .none 0 0,.map (some w2.heap.size)] 111 (0,0))):=qQt (vs:=#[.slice .none 0 0,.map (some w2.heap.size)]) sz111 k4 rfl (by rw[← yI];rfl);have k5:=qQf (o:=.cells #[.slice .none 0 0,.map (some w2.heap.size)] 111 (0,0)) k4;have f5:No W3 (put W4 W3.heap.size (.cells #[.slice .none 0 0,.map (some w2.heap.size)] 111 (0,0))):=f4.put (b:=W3.heap.size) _ fun h=>absurd h (jH _)
  obtain⟨w5,hw5⟩:∃ w5,w5=put W4 W3.heap.size (.cells #[.slice .none 0 0,.map (some w2.heap.size)] 111 (0,0)):=⟨_,rfl⟩
  rw[← hw5]at q5 k5 f5;have f25:=f3.trans f5;have s5:W3.heap.size<w5.heap.size:=qQl k5;have m5:=f5.at m3 id;have hdb:w0.heap.size<w2.heap.size:=qQl k12;simp -implicitDefEqProofs only[go_sem,jU,gLa,gLz,gLs,bNe,bld,hW3,hW4,jB,q5];generalize htb:W3.heap.size=tb at *;generalize hmb:w2.heap.size=mb at *;refine loopD [2,7,22,23,24] (paI w2 w0.heap.size tb mb (.slice ca cs.length cc) cs) cs.length ⟨0,_,[],rfl,by omega,rfl,k5,NwD.nil _ _ _,(fun b h=>by cases h),MpA.new m5,trivial,f25⟩ ?_;rintro _ vs w g ⟨j,kv,l,rfl,hj,rfl,kt,hN,hNb,hM,hE,f2w⟩;have hko:one kv=true:=by obtain⟨a,c,rfl,_⟩:=hN.rd.slice;rfl
  by_cases hlt:j<cs.length
  ·have d1:=dTo ((j:Int)<((cs.length:Nat):Int))
   have y1:=iBd (i:=j) (n:=cs.length);have c1:=iSu (i:=j);obtain⟨b1,o1,c1',v1,e1,ho1,hv1,hd1,hk1,hr1⟩:=hR.at hlt;cases e1;obtain⟨ra,_,_,_⟩:=hr1 w f2w;have hst:(cs.map Bat.Ch.key).take (j+1)=(cs.map Bat.Ch.key).take j++[cs[j].key]:=by rw[tSg (by simpa using hlt)];simp
   have hst2:cs.take (j+1)=cs.take j++[cs[j]]:=tSg hlt
   have hnf:findA l cs[j].key=none:=findA_none (by
    rw[hE.keys];intro hmem;have h1:=hnd;rw[← rK j (cs.map Bat.Ch.key),List.nodup_append]at h1;have hin:cs[j].key ∈ List.drop j (cs.map Bat.Ch.key):=by rw[← List.map_drop,yY hlt,qP];exact List.mem_cons_self ..
    exact h1.2.2 _ (by rw[← List.map_take];exact hmem) _ hin rfl)
   generalize cs[j]=c at *;obtain⟨W6,hW6,f6,k6,s6⟩:=qQr w (chC (zF 32 0) false (.slice .none 0 0)) 181;have q6:wrO prog 181 W6 w.heap.size 0 (.agg (chC c.key c.del v1))=some (put W6 w.heap.size (.cells (chC c.key c.del v1) 181 (0,0))):=qQt (by rw[qQo _ _ hk1];exact sz181) k6 (by rw[qQo _ _ lRe,qQo _ _ hk1]) (qZk _ ho1);have k7:=qQf (o:=.cells (chC c.key c.del v1) 181 (0,0)) k6;have f7:No w (put W6 w.heap.size (.cells (chC c.key c.del v1) 181 (0,0))):=f6.put (b:=w.heap.size) _ fun h=>absurd h (jH _)
   obtain⟨w7,hw7⟩:∃ w7,w7=put W6 w.heap.size (.cells (chC c.key c.del v1) 181 (0,0)):=⟨_,rfl⟩
   rw[← hw7]at q6 k7 f7;have kt7:=f7.at kt id;have r7:rdO prog 24 w7 tb 0=some kv:=rd1 agg24 kt7 rfl
   have rkc:∀ w':World,w'.heap[w.heap.size]?=some (.cells (chC c.key c.del v1) 181 (0,0))→rdO prog 34 w' w.heap.size 0=some (dg c.key):=fun w' k=>by
    have:=rd_rcs (P:=prog) (w:=w') (b:=w.heap.size) (o:=0) agg34 sz34 (vs:=(c.key.map u8).toArray) (by simp[hk1]) (by decide) (fun j hj=>by
     rw[qXa k,z8]
     simp[chC,zC,hk1,hj])
    exact this
   have rk7:=rkc w7 k7;simp -implicitDefEqProofs only[go_sem,jU,y1,and_self,iTn,ra,jB,qXe,hW6,q6,r7,rk7];refine qQj (v:=.slice (some ⟨w7.heap.size,0,.none⟩) 1 1) (w':=w7.alloc (.cells (bl c.key) 34)) (qXm (y:=List.map u8 (zF 32 0)) (by simp) (c:=bl (zF 32 0)) (by simp) (d:=c.key) hk1 _) ?_;obtain⟨v8,w8,hr8,b8,g8,g8',m8⟩:=(hN.fr0 f7).push app24_24 hk1 (by rw[lTk,List.length_map];omega) (f2w.trans f7);rw[← hst]at b8;have htw:tb<w.heap.size:=qQl kt;have hmw:mb<w.heap.size:=hM.lt;have hkw:∀ b,qQb kv=some b→b<w.heap.size:=fun b h=>(hN.lt h).2;have s7:w.heap.size≤w7.heap.size:=f7.size;have s78:w7.heap.size≤w8.heap.size:=g8'.size;have o8:one v8=true:=by obtain⟨a,c,rfl,_⟩:=b8.rd.slice;rfl
   have hb8:∀ b,qQb v8=some b→b≠tb∧b≠mb:=fun b h=>by
    rcases m8 b h with h' | h'
    ·exact hNb b h'
    ·omega
   simp -implicitDefEqProofs only[go_sem,jU];refine qQg ⟨v8,w8,hr8,?_⟩;have kt8:=g8'.at kt7 fun h=>(hNb _ h).1 rfl;have k78:=g8'.at k7 fun h=>by have:=hkw _ h;omega
   have q9:=wr1 (P:=prog) (t:=24) (w:=w8) (b:=tb) (o:=0) (v:=v8) sz24 o8 kt8 (by simp);have q9:wrO prog 24 w8 tb 0 v8=some (put w8 tb (.cells #[v8,.map (some mb)] 111 (0,0))):=q9;have kt9:=qQf (o:=.cells #[v8,.map (some mb)] 111 (0,0)) kt8;have k79:=qQq (b:=tb) (o:=.cells #[v8,.map (some mb)] 111 (0,0)) k78 (by omega);have f89:Fr (fun b=>b=tb) w8 (put w8 tb (.cells #[v8,.map (some mb)] 111 (0,0))):=(Fr.refl _ _).put (b:=tb) _ fun _=>rfl;have f29:No w2 (put w8 tb (.cells #[v8,.map (some mb)] 111 (0,0))):=g8.put (b:=tb) _ fun h=>by omega
   have M8:MpA w8 mb l:=(hM.fr0 f7).fr g8' fun h=>(hNb _ h).2 rfl
   obtain⟨w9,hw9⟩:∃ w9,w9=put w8 tb (.cells #[v8,.map (some mb)] 111 (0,0)):=⟨_,rfl⟩
   rw[← hw9]at q9 kt9 k79 f89 f29;have M9:MpA w9 mb l:=M8.fr f89 fun h=>by omega
   have b9:=b8.fr f89 fun b h=>(hb8 b h).1;have r9:rdO prog 109 w9 tb 1=some (.map (some mb)):=rd1 agg109 kt9 rfl;have rk9:=rkc w9 k79;have rc9:rdO prog 181 w9 w.heap.size 0=some (.agg (chC c.key c.del v1)):=qXp agg181 (by rw[qQo _ _ hk1];exact sz181) k79;obtain⟨ob,hob,hfz,hput⟩:=M9.put hk1 hnf (.agg (chC c.key c.del v1));simp -implicitDefEqProofs only[go_sem,jU,q9,r9,rk9,rc9,map109,hob,c1,z8];have ob9:∃ o,w9.heap[mb]?=some o:=by obtain⟨es,q,h,_⟩:=M9;exact⟨_,h⟩
   obtain⟨o9,ho9⟩:=ob9;have f9X:Fr (fun b=>b=mb) w9 (put w9 mb ob):=(Fr.refl _ _).put (b:=mb) _ (fun _=>rfl) hfz;refine⟨cs.length - (j+1),by omega,j+1,v8,l++[(c.key,.agg (chC c.key c.del v1))],rfl,by omega,rfl,qQq (b:=mb) kt9 (by omega),b9.fr f9X fun b h=>(hb8 b h).2,hb8,hput _ (qQf ho9),?_,f29.put (b:=mb) _ (fun h=>by omega) hfz⟩;rw[hst2];exact hE.snoc hk1 ho1 hv1
  ·have d1:=dFo ((j:Int)<((cs.length:Nat):Int))
   obtain rfl:j=cs.length:=by omega
   rw[show cs.length=(cs.map Bat.Ch.key).length by simp,y5]at hN;rw[y5]at hE;have r5:rdO prog 24 w tb 0=some kv:=rd1 agg24 kt rfl;simp -implicitDefEqProofs only[go_sem,jU,d1,r5];refine qQa pl90 ((ksort w2 w hN (by simp;omega)).mono ?_);rintro _ w6 ⟨rfl,d,hpm,ho,n6,f6⟩;have hd:=srt_of h32 hnd hpm ho;subst hd;have f26:No w2 w6:=f2w.trans' f6 fun b hb h=>by have:=(hN.lt h).1;omega
   have kt6:=f6.at kt fun h=>(hNb _ h).1 rfl;have M6:=hM.fr f6 fun h=>(hNb _ h).2 rfl;have r6:rdO prog 111 w6 tb 0=some (.agg #[kv,.map (some mb)]):=qXp agg111 sz111 kt6;obtain⟨q7,l7⟩:=fin w6 kv (.map (some mb)) (f26.at k12 id) hko rfl;simp -implicitDefEqProofs only[go_sem,jU,r6,q7,l7];have f7:Fr (fun b=>b=w0.heap.size) w6 (put w6 w0.heap.size (.cells #[kv,.map (some mb)] 111 (0,0))):=(Fr.refl _ _).put (b:=w0.heap.size) _ fun _=>rfl;have f27:Fr (fun b=>b=w0.heap.size) w2 (put w6 w0.heap.size (.cells #[kv,.map (some mb)] 111 (0,0))):=(f26.mono fun _ _ h=>h.elim).trans f7
   exact⟨lst _ _ (f02.trans f26),kv,mb,rfl,hko,(n6.fr f7 fun b h=>by have:=(n6.lt h).1;omega).rd,l,M6.fr f7 (by omega),hE.frB f27 fun vv bs hv hn b h h'=>hv.ne_cells k12 (fun i x=>by
    match i with
    | 0=>simp
    | 1=>simp
    | i+2=>simp) hn h h'⟩
def SyG (wb:World)(cs:List Bat.Ch)(k:Bs)(x v:Value):Prop:=match rW (cs.map rV) k with
 | none=>v=x
 | some c=>∃ vv,v=.agg #[.bool c.ans.isSome,vv]∧one vv=true∧By wb vv (c.ans.getD [])
theorem saysG (wb:World)(ho:one kv=true)(hM:TurnM wb mb cs)(hok:∀ c ∈ cs, c.Ok)(w0 w:World)(k:Bs)(x:Value)(a:Option Bs)(hw0:No wb w0)(hw:No w0 w)(hk:k.length=32)(hx:AnsR w0 x a) :
  Fn prog 61 #[.agg #[kv,.map (some mb)],dg k,x] w fun v w'=>No w w'∧SyG wb cs k x v:=by
 refine go61 (by simp) ?_;obtain⟨vv,rfl,hv1,hvb⟩:=id hx;have hb:=hw0.trans hw;obtain⟨W,hW,f1,k1,k2,k3,k4,s1⟩:=allocs4 w #[kv,.map (some mb)] 111 (bl k) 34 #[.bool a.isSome,vv] 69 #[.bool false,.slice .none 0 0] 69;obtain⟨l,hMp0,hE0⟩:=hM;have hMp:=hMp0.fr0 (hb.trans f1);have r1:rdO prog 109 W w.heap.size 1=some (.map (some mb)):=rd1 agg109 k1 rfl;have r2:=rd_d agg34 sz34 k2 hk;have lk:=hMp.look hk map109 zero181;have hfind:=hE0.find k;have z32:(zF 32 (0:Byte)).length=32:=lRe;obtain⟨W5,hW5,f5,k5,s5⟩:=qQr W (chC (zF 32 0) false (.slice .none 0 0)) 181
 have fin:∀ (w':World) (b:Bool) (v:Value), w'.heap[w.heap.size+1+1+1]?=some (.cells #[.bool false, .slice .none 0 0] 69 (0, 0))→one v=true →
   wrO prog 69 w' (w.heap.size+1+1+1) 0 (.agg #[.bool b,v])=some (put w' (w.heap.size+1+1+1) (.cells #[.bool b,v] 69 (0,0)))∧rdO prog 69 (put w' (w.heap.size+1+1+1) (.cells #[.bool b,v] 69 (0,0))) (w.heap.size+1+1+1) 0=some (.agg #[.bool b,v]):=fun w' b v h hv =>
  ⟨qQt (vs:=#[.bool b,v]) sz69 h rfl (by rw[← yI];simp only[List.all_cons,List.all_nil,hv];rfl),qXp agg69 sz69 (qQf (o:=.cells #[.bool b,v] 69 (0,0)) h)⟩
 have lst:∀ (w':World) (c:Array Value),No w w'→No w (put w' (w.heap.size+1+1+1) (.cells c 69 (0,0))):=fun w' c h=>h.put (b:=w.heap.size+1+1+1) _ fun h=>by omega
 have bl0:bldO prog 69 []=some (.agg #[.bool false,.slice .none 0 0]):=rfl;unfold SyG
 cases hf:rW (cs.map rV) k with
 | none =>
  rw[hf]at hfind;have hfind:findA l k=none:=hfind;rw[hfind]at lk;simp only[Option.getD_none,Option.isSome_none]at lk;have q5:wrO prog 181 W5 W.heap.size 0 (.agg (chC (zF 32 0) false (.slice .none 0 0)))=some (put W5 W.heap.size (.cells (chC (zF 32 0) false (.slice .none 0 0)) 181 (0,0))):=qQt (by rw[qQo _ _ z32];exact sz181) k5 (by rw[qQo _ _ z32]) (qZk _ rfl);have f6:No W (put W5 W.heap.size (.cells (chC (zF 32 0) false (.slice .none 0 0)) 181 (0,0))):=f5.put (b:=W.heap.size) _ fun h=>absurd h (jH _)
  obtain⟨w6,hw6⟩:∃ w6,w6=put W5 W.heap.size (.cells (chC (zF 32 0) false (.slice .none 0 0)) 181 (0,0)):=⟨_,rfl⟩
  rw[← hw6]at q5 f6;have r6:=qXy (P:=prog) (t:=69) agg69 sz69 (f6.at k3 id);obtain⟨q7,l7⟩:=fin w6 a.isSome vv (f6.at k4 id) hv1;simp -implicitDefEqProofs only[go_sem,jU,vQ,gLa,gLz,gLs,Tryz.f61,jB,hW,r1,r2,lk,qXe,hW5,q5,xY,r6,q7,l7,z8];exact⟨lst _ _ (f1.trans f6),trivial⟩
 | some c =>
  rw[hf]at hfind;obtain⟨v,hfa,hck,hov,hby⟩:=hfind;rw[hfa]at lk;simp only[Option.getD_some,Option.isSome_some]at lk;obtain⟨c',hc',rfl⟩:=List.mem_map.1 (R.findC_mem hf);have hcok:=hok c' hc';have hck:c'.key.length=32:=hck
  have hby:By wb v c'.val:=hby
  have lk:lookO prog 109 W (.map (some mb)) (dg k)=some (.agg (chC c'.key c'.del v),true):=lk;have hans:(rV c').ans=if c'.del then none else some c'.val:=rfl;have q5:wrO prog 181 W5 W.heap.size 0 (.agg (chC c'.key c'.del v))=some (put W5 W.heap.size (.cells (chC c'.key c'.del v) 181 (0,0))):=qQt (by rw[qQo _ _ hck];exact sz181) k5 (by rw[qQo _ _ z32,qQo _ _ hck]) (qZk _ hov);have k6:=qQf (o:=.cells (chC c'.key c'.del v) 181 (0,0)) k5;have f6:No W (put W5 W.heap.size (.cells (chC c'.key c'.del v) 181 (0,0))):=f5.put (b:=W.heap.size) _ fun h=>absurd h (jH _)
  obtain⟨w6,hw6⟩:∃ w6,w6=put W5 W.heap.size (.cells (chC c'.key c'.del v) 181 (0,0)):=⟨_,rfl⟩
  rw[← hw6]at q5 f6 k6;have r6:rdO prog 4 w6 W.heap.size 32=some (.bool c'.del):=rd1 (P:=prog) agg4 k6 (by simp[chC,hck]);have r7:rdO prog 25 w6 W.heap.size 33=some v:=rd1 (P:=prog) agg25 k6 (by simp[chC,hck])
  cases hdel:c'.del with
  | true =>
   rw[hdel]at r6;obtain⟨q7,l7⟩:=fin w6 false (.slice .none 0 0) (f6.at k4 id) rfl;simp -implicitDefEqProofs only[go_sem,jU,vQ,gLa,gLz,gLs,Tryz.f61,jB,hW,r1,r2,lk,qXe,hW5,q5,rJ,r6,bl0,q7,l7,z8];have ha:(rV c').ans=none:=by rw[hans,if_pos hdel]
   simp only[ha];exact⟨lst _ _ (f1.trans f6),_,rfl,rfl,(NwB.nil wb wb).by⟩
  | false =>
   rw[hdel]at r6;have bl1:bldO prog 69 [(0,.bool true),(1,v)]=some (.agg #[.bool true,v]):=bldAns rfl hov;obtain⟨q7,l7⟩:=fin w6 true v (f6.at k4 id) hov;simp -implicitDefEqProofs only[go_sem,jU,vQ,gLa,gLz,gLs,Tryz.f61,jB,hW,r1,r2,lk,qXe,hW5,q5,rJ,r6,r7,bl1,q7,l7,z8];have ha:(rV c').ans=some c'.val:=by rw[hans,if_neg (by rw[hdel];decide)]
   simp only[ha];exact⟨lst _ _ (f1.trans f6),v,rfl,hov,hby⟩
theorem saysF (wb:World)(ho:one kv=true)(hM:TurnM wb mb cs)(hok:∀ c ∈ cs,c.Ok):SaysF wb 61 #[.agg #[kv,.map (some mb)]] #[] (Wit.saysC (cs.map rV)):=by
 refine⟨pl61,fun w0 w k x a hw0 hw hk hx hal=>(saysG wb ho hM hok w0 w k x a hw0 hw hk hx).mono fun v w' h=>?_⟩;obtain⟨f,h⟩:=h;unfold SyG at h
 have says:Wit.saysC (cs.map rV) k a=match rW (cs.map rV) k with | none=>a | some c=>c.ans:=rfl
 rw[says]
 cases hf:rW (cs.map rV) k with
 | none=>rw[hf]at h;subst h;exact⟨hx,f,hal⟩
 | some c =>
  rw[hf]at h;obtain⟨vv,rfl,o,y⟩:=h;refine⟨⟨vv,rfl,o,y.fr0 hw0⟩,f,fun v hv=>?_⟩;obtain⟨c',hc',rfl⟩:=List.mem_map.1 (R.findC_mem hf);have hv:(if c'.del then none else some c'.val)=some v:=hv;split at hv
  ·cases hv
  ·cases hv;exact (hok c' hc').2.1
end Go.V
