/- Helpers. -/
import Derived.Test.YtmenaeggoakppaaGreatDoorC31
import Derived.Test.YtmenaeggoakppaaGreatDoorC28
import Derived.Test.YtmenaeggoakppaaGreatDoorC19
set_option linter.all false
set_option maxRecDepth 100000
set_option maxHeartbeats 8000000
open Bool renaming false_eq_true→qD
open Int renaming toNat_zero→vE
open List renaming drop_eq_getElem_cons→jG,replicate→zG,take_length→vV,getElem_mem→vO,nil_append→zD,length_set→jM,length_nil→kV,getElem?_append_right→jA,getElem?_eq_getElem→xO,drop_of_length_le→zC,set_append_right→zS,mem_of_mem_drop→zN,take_succ_cons→kY,mem_singleton→jV
open Nat renaming reduceEqDiff→jR,reduceBEq→jL,add_sub_cancel_left→vP,reduceAdd→vY,zero_mul→j8,le_refl→xP,zero_add→zO
open Option renaming getD_some→kU
open Go.Value renaming cells→jS
open Go.V.Wit renaming subT→kG,partP→kF,ofP→kH,asIs→kB,dig→kJ,underP→kM,size_keys→kN,saysC_nil→kP,flatT_len→vS,dig_len→kK,ansT→vD
namespace Go.V
open Go.Proofs.Tryz Go.V.Tryz
open Go.Proofs Sha
variable {k:Bs} {wd:Int} {es:List (Bs × Bs)} {ds ks:List Bs} {xs:List Wit.Tx} {cap i l m n wb:Nat} {a:Option Addr} {esv kv rawv v:Value} {t:Wit.Tw} {w:World}
namespace R
theorem holds (w0:World)(ht:Tabs w0){W:Nat}(hW:wd=W)(hW2:W≤32){root:Bs}(hroot:root.length=32){raw:Bs}(hk:RdD w0 kv ks)(hr:By w0 rawv raw)(ha:Wit.Asc ks)(hl:ks.length≤64)(hrl:raw.length≤2 ^ 50) :
  Fn prog 73 #[.int .i64 wd,dg root,kv,rawv] w0 (FoQ w0 wd (kM wd root ks raw)):=by
 refine go73 (by simp) ?_;obtain⟨W1,hW1,f1,k1,s1⟩:=qQm w0 (bl root) 23;simp -implicitDefEqProofs only[go_sem,jR,vY,Tryz.f73,jS,hW1];refine qQa pl77 ((formR W1 (ht.no f1) hW hW2 (hk.fr0 f1) (hr.fr0 f1) ha hl hrl).mono ?_);rintro r w2 ⟨f2,h2⟩;have f02:=f1.trans f2;have k2:=f2.at k1 id;unfold FoQ kM
 cases hf:Wit.form wd ks raw with
 | error e =>
  rw[hf]at h2;subst h2;have he:(e != 0)=true:=by rw[bne,form_err hf];rfl
  simp -implicitDefEqProofs only[go_sem,jR,gLa,gLz,gLs,he];exact⟨f02,trivial⟩
 | ok o =>
  rw[hf]at h2;obtain⟨ka,kc,rfl,hkc⟩:=hk.slice
  cases o with
  | none =>
   obtain⟨wb,rfl,h2⟩:=h2;have hl0:ks=[]:=Wit.underP_none (w:=wd) (root:=[]) (raw:=raw) (by unfold kM;rw[hf]);subst hl0;have d0:decide (((([]:List Bs).length:Nat):Int) > 0)=false:=rfl;simp -implicitDefEqProofs only[go_sem,jR,gLa,gLz,gLs,bNe];refine qXd (fun j=>j == 5) [0,1,2,3,4,6,5,7,8] rfl (by kernel_rfl) (by kernel_rfl) ?_;simp -implicitDefEqProofs only[go_sem,jR,jL,gLa,gLz,gLs,d0,qJg,qD,if_false,if_true];exact⟨f02.drew,wb,rfl,(h2.fr0 (Fr.refl _ _).drew).back f1⟩
  | some t =>
   obtain⟨wb,rfl,h2⟩:=h2;obtain⟨hok,hkeys,_,_⟩:=Wit.form_ok ha hk.1 hf;have hp:=hok.keys_pos;rw[hkeys]at hp;have d0:=dTo (((ks.length:Nat):Int) > 0);obtain⟨u,hu,hY⟩:=h2.y;have hsz:t.size≤2 ^ 40:=by have:=kN hok;rw[hkeys]at this;omega
   simp -implicitDefEqProofs only[go_sem,jR,gLa,gLz,gLs,bNe];refine qXd (fun j=>j == 5) [0,1,2,3,4,6,5,7,8] rfl (by kernel_rfl) (by kernel_rfl) ?_;have r2:=rd_d agg23 sz23 k2 hroot;have r2':rdO prog 23 w2.drew w0.heap.size 0=some (dg root):=r2;simp -implicitDefEqProofs only[go_sem,jR,jL,gLa,gLz,gLs,d0,r2',bSe,qD,if_false,if_true];refine qQp pl85 ((R.root u w2.drew (ht.no f02.drew) (hY.fr0 (Fr.refl _ _).drew) hok hsz (CsR.nil _) ⟨by simp,fun c h=>by cases h⟩).mono ?_);rintro _ w3 ⟨rfl,f3⟩;rw[kP];refine⟨fun _=>Fr.ext f3,?_⟩;have eq:=eqDig (kK wd kB t) hroot;have f03:=f02.drew.trans f3
   by_cases hd:kJ wd kB t=root
   ·have hb:(kJ wd kB t == root)=true:=by rw[beq_iff_eq];exact hd
    simp -implicitDefEqProofs only[go_sem,jR,jL,gLa,gLz,gLs,eq,hb,bSe,qD,if_false,if_true];rw[if_pos hd];exact⟨f03,wb,rfl,(h2.fr0 ((Fr.refl _ _).drew.trans f3)).back f1⟩
   ·have hb:(kJ wd kB t == root)=false:=by rw[bFn];exact hd
    simp -implicitDefEqProofs only[go_sem,jR,jL,gLa,gLz,gLs,eq,hb,bSe,qD,if_false,if_true];rw[if_neg hd];exact⟨f03,rfl⟩
def ofI (W:World)(wb kb cb:Nat)(k:Bs)(ss:List Wit.Tw)(n:Nat)(vs:List Value)(w:World):Prop :=
 ∃ (i:Nat),vs=[pt wb 0,pt kb 0,pt cb 0,.int .i64 (i:Nat)]∧i≤ss.length∧n=ss.length - i∧kH k ss=kH k (ss.drop i)∧No W w
def AnQ (w0:World)(a:Option Bs)(v:Value)(w':World):Prop:=No w0 w'∧∃ vv,v=.agg #[.bool a.isSome,vv]∧one vv=true∧NwB w0 w' vv (a.getD [])
theorem wof (u w0:World)(hY:WtY u w0 wb wd (Wit.flatT wd 0 t))(hok:t.Ok)(hs:t.size≤2 ^ 40)(hk:k ∈ t.keys) :
  Fn prog 74 #[pt wb 0,dg k] w0 (AnQ w0 (t.at k)):=by
 refine go74 (by simp) ?_;have hkl:=hok.all k hk;obtain⟨W,hW,f1,k1,k2,s1⟩:=qXe w0 (bl k) 34 #[.bool false,.slice .none 0 0] 69;simp -implicitDefEqProofs only[go_sem,jR,Tryz.f74,jS,hW];have hofP:=Wit.ofP_at hok hk;have hlen:=vS wd t 0;have hsl:=Wit.subT_len t;refine loopD [0,3,4,5] (ofI W wb w0.heap.size (w0.heap.size+1) k (kG t)) (kG t).length ⟨0,rfl,by omega,rfl,rfl,Fr.refl _ _⟩ ?_;rintro _ vs w2 g ⟨i,rfl,hi,rfl,hof,f2⟩;have f02:=f1.trans f2;unfold AnQ;have hY2:=hY.fr0 f02
 by_cases hlt:i<(kG t).length
 ·have hdrop:(kG t).drop i=(kG t)[i]::(kG t).drop (i+1):=jG hlt
  rw[hdrop]at hof;have hx:=Wit.sub_at wd t [] i hlt;rw[zD,kV,zO]at hx;have sok:=Wit.sub_ok hok _ (vO hlt);have d1:=dTo ((i:Int)<(((Wit.flatT wd 0 t).length:Nat):Int));have c1:=iSu (i:=i);have y1:=iBd (i:=i) (n:=(Wit.flatT wd 0 t).length);generalize (kG t)[i]=s at *
  cases s with
  | fork ks f top near l r =>
   obtain⟨li,ri,hx,_,_⟩:=hx;obtain⟨ev,tb,to,tc,gv,rv,q,kv,nv,vv,hc,he,hrt,hrf,hkv,hnv,hvv,hall⟩:=hY2.text hx;dsimp only[Option.isSome,Option.getD]at hrt hrf hkv hnv hvv hall;have rt:=hrt w2 (Fr.refl _ _);have rw2:=hc.row;obtain⟨W3,q3,k3,f3,s3⟩:=allocT w2 (row:=txC kv top f nv (li:Nat) (ri:Nat) false vv) rfl hall;have r3:=qQq (P:=prog) k3;have hfp:=sok.f_pos;have d2:(((f:Nat):Int) == 0)=false:=by rw[bFn];omega
   have hof:kH k (kG t)=kH k ((kG t).drop (i+1)):=hof;simp -implicitDefEqProofs only[go_sem,jR,gLa,gLz,gLs,rw2,qQk,y1,and_self,iTn,rt,q3,r3,d2,qJg,jS,c1];exact⟨(kG t).length - (i+1),by omega,i+1,rfl,by omega,rfl,hof,f2.trans f3.drew⟩
  | leaf k' top near a =>
   have hx:(Wit.flatT wd 0 t)[i]?=_:=hx;obtain⟨ev,tb,to,tc,gv,rv,q,kv,nv,vv,hc,he,hrt,hrf,hkv,hnv,hvv,hall⟩:=hY2.text hx;dsimp only at hrt hrf hkv hnv hvv hall;have rt:=hrt w2 (Fr.refl _ _);have rw2:=hc.row;obtain⟨W3,q3,k3,f3,s3⟩:=allocT w2 (row:=txC kv top 0 nv (0:Nat) (0:Nat) a.isSome vv) rfl hall;have r3:=qQq (P:=prog) k3;have r3d:∀ t o,rdO prog t W3.drew w2.heap.size o=_:=r3;have d2:(((0:Nat):Int) == 0)=true:=rfl;have hk':k'.length=32:=sok.1;obtain⟨kb,ko,kc,rfl,_,_⟩:=(hkv.fr0 f3).pos (by simp)
   have rk:rdO prog 34 W3 kb ko=some (dg k'):=by
    have:=(hkv.fr0 f3).get (P:=prog) agg34 sz34 (i:=0) (by simp);rw[j8,Nat.add_zero]at this;exact this
   have rkd:rdO prog 34 W3.drew kb ko=some (dg k'):=rk;have rk2:=rd_d agg34 sz34 ((f2.trans f3).at k1 id) hkl;have rk2d:rdO prog 34 W3.drew w0.heap.size 0=some (dg k):=rk2;have eq:=eqKey hk' hkl;have y2:(0:Int)≤0∧(0:Int)<((([k']:List Bs).length:Nat):Int):=by simp
   have go:kH k (kG t)=(if k'=k then a.or (kH k ((kG t).drop (i+1))) else kH k ((kG t).drop (i+1))):=by
    rw[hof]
    cases a with
    | none=>simp[kH]
    | some v=>simp only[kH,Option.some_or]
   by_cases hkk:k'=k
   ·have hb:(k' == k)=true:=by rw[beq_iff_eq];exact hkk
    rw[if_pos hkk]at go
    cases a with
    | none =>
     dsimp only[Option.isSome_none]at q3 r3 r3d rt;simp -implicitDefEqProofs only[go_sem,jR,gLa,gLz,gLs,rw2,qQk,y1,and_self,iTn,rt,q3,r3d,d2,bSe,jS,c1,y2,vE,j8,rkd,rk2d,eq,hb];exact⟨(kG t).length - (i+1),by omega,i+1,rfl,by omega,rfl,go,f2.trans f3.drew⟩
    | some val =>
     dsimp only[Option.isSome_some]at q3 r3 r3d rt;simp -implicitDefEqProofs only[go_sem,jR,gLa,gLz,gLs,rw2,qQk,y1,and_self,iTn,rt,q3,r3d,d2,bSe,jS,y2,vE,j8,rkd,rk2d,eq,hb];have f03:=f02.trans f3.drew;refine qQa pl129 ((copied W3.drew (hvv.fr0 f3.drew) (by have:=sok.2.2.2.2 val rfl;simp only[kU];omega)).mono ?_);rintro cvv w4 ⟨n4,f4⟩;have hone:=n4.by.one
     have bldA:=bldAns (x:=.bool true) (y:=cvv) rfl hone;have k24:=((f2.trans f3.drew).trans f4).at k2 id;have q5:wrO prog 69 w4 (w0.heap.size+1) 0 (.agg #[.bool true,cvv])=some (put w4 (w0.heap.size+1) (.cells #[.bool true,cvv] 69 (0,0))):=qQw (vs:=#[.bool true,cvv]) sz69 k24 rfl (by rw[← Array.all_toList];simp only[List.all_cons,List.all_nil,hone];rfl);have k5:=qQf (o:=.cells #[.bool true,cvv] 69 (0,0)) k24;have r5:rdO prog 69 _ (w0.heap.size+1) 0=some (.agg #[.bool true,cvv]):=qXv agg69 sz69 k5;simp -implicitDefEqProofs only[go_sem,jR,bldA,q5,r5];have e:t.at k=some val:=by rw[← hofP,go];rfl
     rw[e]
     have hbk:∀ c,qQb cvv=some c→c≠w0.heap.size+1:=fun c hc h=>by
      have h1:=(n4.lt hc).1;have h2:=f03.size;have h3:=qQi ((f2.trans f3.drew).at k2 id);omega
     exact⟨(f03.trans f4).put (b:=w0.heap.size+1) _ fun h=>by omega,cvv,rfl,hone,(n4.back f03.size).put (b:=w0.heap.size+1) _ hbk⟩
   ·have hb:(k' == k)=false:=by rw[bFn];exact hkk
    rw[if_neg hkk]at go;simp -implicitDefEqProofs only[go_sem,jR,gLa,gLz,gLs,rw2,qQk,y1,and_self,iTn,rt,q3,r3d,d2,qJg,bSe,jS,c1,y2,vE,j8,rkd,rk2d,eq,hb];exact⟨(kG t).length - (i+1),by omega,i+1,rfl,by omega,rfl,go,f2.trans f3.drew⟩
 ·have d1:=dFo ((i:Int)<(((Wit.flatT wd 0 t).length:Nat):Int))
  obtain rfl:i=(kG t).length:=by omega
  rw[List.drop_length]at hof;have hof:kH k (kG t)=none:=hof;obtain⟨ev,rv,tv,gv,q,txs,gvs,h2,h3,h4⟩:=id hY2;obtain⟨ta,tc,rfl,_⟩:=h3.txr.rd.slice;have r1:=h3.cell.row;have htl:txs.length=(Wit.flatT wd 0 t).length:=h4.1;rw[← htl]at d1;have k22:=f2.at k2 id;have q5:wrO prog 69 w2 (w0.heap.size+1) 0 (.agg #[.bool false,.slice .none 0 0])=some (put w2 (w0.heap.size+1) (.cells #[.bool false,.slice .none 0 0] 69 (0,0))):=qQw (vs:=#[.bool false,.slice .none 0 0]) sz69 k22 rfl (by rw[← Array.all_toList];rfl);have k5:=qQf (o:=.cells #[.bool false,.slice .none 0 0] 69 (0,0)) k22;have r5:rdO prog 69 _ (w0.heap.size+1) 0=some (.agg #[.bool false,.slice .none 0 0]):=qXv agg69 sz69 k5;simp -implicitDefEqProofs only[go_sem,jR,gLa,gLz,gLs,r1,qQk,d1,bldAns0,q5,r5];have e:t.at k=none:=by rw[← hofP];exact hof
  rw[e];exact⟨f02.put (b:=w0.heap.size+1) _ fun h=>by omega,_,rfl,rfl,NwB.nil _ _⟩
theorem allocA (w:World){row:Array Value}(hs:row.size=2)(h:row.all one=true):∃ W, wrO prog 69 (w.alloc (.cells #[.bool false, .slice Option.none 0 0] 69)) w.heap.size 0 (.agg row)=some W ∧
  W.heap[w.heap.size]?=some (.cells row 69 (0,0))∧No w W∧W.heap.size=w.heap.size+1:=by
 have k:=qQc w (.cells #[.bool false,.slice .none 0 0] 69);refine⟨_,qQw (vs:=row) (by rw[hs];exact sz69) k (by rw[hs];rfl) h,qQf k,((Fr.refl _ _).alloc _).put (b:=w.heap.size) _ fun h=>absurd h (Nat.lt_irrefl _),?_⟩;simp[put]
end R
namespace Wit
theorem over_nil (f:Nat)(ds:List Bs)(h:f≤ds.length):over f ds []=ds:=by unfold over;simp
theorem over_step {f:Nat}{ds near:List Bs}{j:Nat}(hj:j<near.length)(h:f+near.length≤ds.length):(over f ds (near.take j)).set (f+j) (near.getD j [])=over f ds (near.take (j+1)):=by
 unfold over;have e1:(ds.take f).length=f:=by rw[lTk];omega
 have e2:(near.take j).length=j:=by rw[lTk];omega
 have e3:(near.take (j+1)).length=j+1:=by rw[lTk];omega
 rw[zS _ _ (by omega),e1,vP,zS _ _ (by omega),e2,Nat.sub_self,e3,jG (i:=f+j) (by omega),List.set_cons_zero,qQl _ hj,Nat.add_assoc];rw[tSg hj,List.append_assoc];rfl
theorem layN_le (w:Int):∀ (near:List Bs) (h:Nat) (b s:Bs),All32 near→(layN w h b s near).1.length=b.length∧(layN w h b s near).2.length≤s.length+32*near.length
 | [],_,_,_,_=>⟨rfl,by simp[layN]⟩
 | d::r,h,b,s,ha=>by
  have hd:=ha.head;simp only[layN];split
  ·have:=layN_le w r (h+1) b s ha.tail
   exact⟨this.1,by rw[List.length_cons];omega⟩
  ·have:=layN_le w r (h+1) (b.set (h / 8) (b.getD (h / 8) 0 ||| BitVec.ofNat 8 (2 ^ (h % 8)))) (s++d) ha.tail
   rw[jM,lAp]at this;exact⟨this.1,by rw[List.length_cons];omega⟩
theorem nearT_le (w:Int)(f:Nat){near:List Bs}(ha:All32 near):(nearT w f near).length≤32+32*near.length:=by
 have:=layN_le w near f (zG 32 0) [] ha;unfold nearT;rw[lAp,this.1];simp only[lRe,kV]at this ⊢;omega
end Wit
namespace R
theorem textX {s:Wit.Tw}(hok:s.Ok)(hx:Wit.TxAt wd xs i s):∃ x,xs[i]?=some x∧x.top=s.top∧x.fr=s.fr∧x.keys=s.keys∧∀ h,s.fr≤h→h<s.top→x.near.getD h []=s.near.getD (h - s.fr) []∧h<x.near.length:=by
 cases s with
 | leaf k top near a=>exact⟨_,hx,rfl,rfl,rfl,fun h h1 h2=>⟨by simp only[Wit.Tw.near,Wit.Tw.fr,Nat.sub_zero],by have:=hok.2.2.1;simp only[Wit.Tw.top]at h2;simp only;omega⟩⟩
 | fork ks f top near l r =>
  obtain⟨_,_,h,_⟩:=hx;have hft:=hok.2.1;have htt:=hok.2.2.1;have hl:((empts wd 257).take f).length=f:=by rw[lTk,qQn];omega
  refine⟨_,h,rfl,rfl,rfl,fun h h1 h2=>?_⟩;simp only[Wit.Tw.near,Wit.Tw.fr,Wit.Tw.top]at *;refine⟨?_,by rw[lAp,hl,hok.2.2.2.1];omega⟩;rw[gDq,gDq,jA (by omega),hl]
theorem WtY.texts {u w:World}(h:WtY u w wb wd xs)(h0:0<xs.length):∃ ev tb to tc gv rv q, WiAt w wb wd ev (.slice (some ⟨tb, to, Option.none⟩) xs.length tc) gv rv q false∧RdD w ev (empts wd 257)∧∀ i x, xs[i]?=some x→∃ kv nv vv,
  (∀ w',No w w'→rdO prog 220 w' tb (to+i*8)=some (.agg (txC kv x.top x.fr nv (x.left:Nat) (x.right:Nat) x.ans.isSome vv)))∧(∀ w' j (t:Nat),No w w'→aggO prog t=some false→j<8→rdO prog t w' tb (to+i*8+j)=(txC kv x.top x.fr nv (x.left:Nat) (x.right:Nat) x.ans.isSome vv)[j]?) ∧
  RdD w kv x.keys∧RdD w nv x.near∧By w vv (x.ans.getD [])∧(txC kv x.top x.fr nv (x.left:Nat) (x.right:Nat) x.ans.isSome vv).all one=true:=by
 obtain⟨x0,hx0⟩:∃ x,xs[0]?=some x:=⟨xs[0],xO h0⟩
 obtain⟨ev,tb,to,tc,gv,rv,q,_,_,_,hc,he,_⟩:=h.text hx0;refine⟨ev,tb,to,tc,gv,rv,q,hc,he,fun i x hx=>?_⟩;obtain⟨ev',tb',to',tc',gv',rv',q',kv,nv,vv,hc',he',r⟩:=h.text hx;have e:=hc.symm.trans hc';simp only[wiC,oSi,Obj.cells.injEq,Array.mk.injEq,List.cons.injEq,Value.slice.injEq,Addr.mk.injEq]at e;obtain⟨⟨_,_,⟨⟨rfl,rfl,_⟩,_,_⟩,_⟩,_⟩:=e;exact⟨kv,nv,vv,r⟩
theorem sub_keys (h:t.Ok):∀ s ∈ kG t,s.keys.length≤t.keys.length:=by
 induction t with
 | leaf k top near a =>
  intro s hs;have:s=.leaf k top near a:=by simpa [kG] using hs
  subst this;exact xP _
 | fork ks f top near l r ihl ihr =>
  obtain⟨h1,h2,h3,h4,h5,h6,h7,h8,h9,h10,h11,h12,h13,h14⟩:=h;intro s hs;simp only[kG,List.mem_append,jV]at hs;show s.keys.length≤ks.length
  rcases hs with hs | hs | rfl
  ·have:=ihl h13 s hs;rw[h9,lTk]at this;omega
  ·have:=ihr h14 s hs;rw[h10,lDr]at this;omega
  ·exact xP _
def hsI (w0:World)(kv:Value)(ks:List Bs)(k:Bs)(n:Nat)(vs:List Value)(w:World):Prop :=
 ∃ (i:Nat),vs=[kv,pt w0.heap.size 0,.int .i64 (i:Nat)]∧i≤ks.length∧n=ks.length - i∧k ∉ ks.take i∧No w0 w∧w.heap[w0.heap.size]?=some (.cells (bl k) 34 (0,0))
theorem has (w0:World)(hk:RdD w0 kv ks)(hkl:k.length=32)(hl:ks.length≤2 ^ 40) :
  Fn prog 78 #[kv,dg k] w0 fun v w'=>v=.bool (decide (k ∈ ks))∧No w0 w':=by
 refine go78 (by simp) ?_;obtain⟨W,hW,f1,k1,s1⟩:=qQm w0 (bl k) 34;obtain⟨ka,kc,rfl,hkc⟩:=hk.slice;simp -implicitDefEqProofs only[go_sem,jR,Tryz.f78,jS,hW];refine loopD [0,3,5] (hsI w0 (.slice ka ks.length kc) ks k) ks.length ⟨0,rfl,by omega,rfl,by simp,f1,k1⟩ ?_;rintro _ vs w2 g ⟨i,rfl,hi,rfl,hno,f2,k2⟩
 by_cases hlt:i<ks.length
 ·have d4:=dTo ((i:Int)<((ks.length:Nat):Int))
  have hk4:=hk.fr0 f2;obtain⟨b,o,cap,he,_,_⟩:=hk4.pos (by omega);cases he;have q1:=hk4.get (P:=prog) agg34 sz34 hlt;have kl:=hk.1.getD hlt;have y1:=iBd (i:=i) (n:=ks.length);have rk:=rd_d agg34 sz34 k2 hkl;have q1d:rdO prog 34 w2.drew b (o+i*32)=some (dg (ks.getD i [])):=q1;have rkd:rdO prog 34 w2.drew w0.heap.size 0=some (dg k):=rk;have eq:=eqKey kl hkl;have c2:=iSu (i:=i);have htk:ks.take (i+1)=ks.take i++[ks.getD i []]:=by rw[tSg hlt,qQl _ hlt]
  by_cases he:ks.getD i []=k
  ·have hb:(ks.getD i [] == k)=true:=by rw[beq_iff_eq];exact he
   simp -implicitDefEqProofs only[go_sem,jR,gLa,gLz,y1,and_self,iTn,q1d,rkd,eq,hb];have hm:k ∈ ks:=by rw[← he,qQl _ hlt];exact vO _
   rw[decide_eq_true hm];exact⟨rfl,f2.drew⟩
  ·have hb:(ks.getD i [] == k)=false:=by rw[bFn];exact he
   simp -implicitDefEqProofs only[go_sem,jR,gLa,gLz,y1,and_self,iTn,q1d,rkd,eq,hb,c2];exact⟨ks.length - (i+1),by omega,i+1,rfl,by omega,rfl,fun hm=>by rw[htk]at hm;rcases List.mem_append.1 hm with hm | hm;exact hno hm;exact he (by simp only[jV]at hm;exact hm.symm),f2.drew,k2⟩
 ·have d4:=dFo ((i:Int)<((ks.length:Nat):Int))
  obtain rfl:i=ks.length:=by omega
  rw[vV]at hno;simp -implicitDefEqProofs only[go_sem,jR,gLa,gLz,d4];rw[decide_eq_false hno];exact⟨rfl,f2⟩
theorem singleR (w0:World)(wd:Int){esv dsv vv:Value}{a:Option Bs}(he:RdD w0 esv (empts wd 257))(hd:RdD w0 dsv ds)(hl:ds.length=256)(hv:By w0 vv (a.getD []))(hvl:(a.getD []).length≤256)(hone:one vv=true) :
  Fn prog 79 #[esv,.agg #[.bool a.isSome,vv],dsv] w0 fun v w'=>NwB w0 w' v (vD a++Wit.nearT wd 0 ds)∧No w0 w':=by
 refine go79 (by simp) ?_;obtain⟨W,hW,f1,k1,s1⟩:=qQm w0 #[.bool a.isSome,vv] 69;have r1:=qQq (P:=prog) k1;simp -implicitDefEqProofs only[go_sem,jR,vY,gLa,gLz,gLs,Tryz.f79,jS,hW,r1,qQk];refine qQa pl132 ((answer W (hv.fr0 f1) hvl).mono ?_);rintro v2 w2 ⟨n2,f2⟩;have f02:=f1.trans f2;simp -implicitDefEqProofs only[go_sem,jR];refine qQa pl133 ((nearR w2 wd (he.fr0 f02) (hd.fr0 f02) (f:=0) (t:=256) (by decide) (by omega) (by decide)).mono ?_);rintro v3 w3 ⟨n3,f3⟩;rw[List.drop_zero,show 256 - 0=ds.length by omega,vV]at n3;simp -implicitDefEqProofs only[go_sem,jR]
 have l2:(vD a).length≤300:=by
  cases a with
  | none=>simp[vD]
  | some v=>simp only[kU]at hvl;simp[vD];omega
 have l3:(Wit.nearT wd 0 ds).length≤2 ^ 40:=by
  have:=Wit.nearT_le wd 0 hd.1;omega
 refine qQa pl131 ((joined w3 (n2.fr0 f3).by n3.by (by omega) l3).mono ?_);rintro v4 w4 ⟨n4,f4⟩;simp -implicitDefEqProofs only[go_sem];exact⟨n4.back (f02.trans f3).size,(f02.trans f3).trans f4⟩
def nbI (wd:Int)(W:World)(wb kb:Nat)(n:Nat)(vs:List Value)(w:World):Prop :=
 ∃ (i:Nat) (v:Value),vs=[pt wb 0,pt kb 0,v,.int .i64 (i:Nat)]∧i≤256∧n=256 - i∧NwD W w 23 v (empts wd i)∧No W w
def nbJ (wd:Int)(W:World)(wb kb:Nat)(k:Bs)(ss:List Wit.Tw)(full:List Bs)(n:Nat)(vs:List Value)(w:World):Prop :=
 ∃ (i:Nat) (v:Value) (ds:List Bs),vs=[pt wb 0,pt kb 0,v,.int .i64 (i:Nat)]∧i≤ss.length∧n=ss.length - i∧NwD W w 23 v ds∧ds.length=256∧(ss.drop i).foldl (Wit.nbS wd k) ds=full∧No W w
def nbK (W w3:World)(wb kb tb i f:Nat)(v:Value)(ds near:List Bs)(n:Nat)(vs:List Value)(w:World):Prop :=
 ∃ (j:Nat),vs=[pt wb 0,pt kb 0,v,.int .i64 (i:Nat),pt tb 0,.int .i64 ((f+j:Nat):Int)]∧j≤near.length∧n=near.length - j∧NwD W w 23 v (Wit.over f ds (near.take j))∧Fr (fun b=>qQb v=some b) w3 w
theorem neighbours (u w0:World)(ht:Tabs w0)(hY:WtY u w0 wb wd (Wit.flatT wd 0 t))(hok:t.Ok)(htop:t.top=256)(hs:t.size≤2 ^ 40)(hk:k ∈ t.keys) :
  Fn prog 80 #[pt wb 0,dg k] w0 fun v w'=>NwD w0 w' 23 v (Wit.nbrs wd t k)∧No w0 w':=by
 refine go80 (by simp) ?_;have hkl:=hok.all k hk;obtain⟨W,hW,f1,k1,s1⟩:=qQm w0 (bl k) 34;simp -implicitDefEqProofs only[go_sem,jR,Tryz.f80,jS,hW];have hlen:=vS wd t 0;have hsl:=Wit.subT_len t;have hY1:=hY.fr0 f1
 have hx0:(Wit.flatT wd 0 t)[t.size - 1]?≠none:=by
  have:=t.size_pos;rw[ne_eq,List.getElem?_eq_none_iff];omega
 obtain⟨x0,hx0⟩:=Option.ne_none_iff_exists'.1 hx0;refine loopD [0,3,5,6] (nbI wd W wb w0.heap.size) 256 ⟨0,_,rfl,by omega,rfl,NwD.nil _ _ _,Fr.refl _ _⟩ ?_;rintro _ vs w2 g ⟨i,v,rfl,hi,rfl,b2,f2⟩
 by_cases hlt:i<256
 ·have d1:=dTo ((i:Int)<256)
  have c1:=iSu (i:=i);obtain⟨ev,tb,to,tc,gv,rv,q,kv,nv,vv,hc,he,_⟩:=(hY1.fr0 f2).text hx0;have r2:=hc.row;obtain⟨eb,eo,ec,rfl,_,_⟩:=he.pos (by rw[qQn];decide);have re:=he.get (P:=prog) agg23 sz23 (i:=i) (by rw[qQn];omega);rw[gDq,qXy wd 257 (by omega),kU]at re;have y1:(0:Int)≤(i:Int)∧(i:Int)<(((empts wd 257).length:Nat):Int):=by rw[qQn];omega
  have hdi:=qQr wd i;simp -implicitDefEqProofs only[go_sem,jR,gLa,gLz,gLs,d1,r2,qQk,y1,and_self,iTn,re];refine qQo (v:=.slice (some ⟨w2.heap.size,0,.none⟩) 1 1) (w':=w2.alloc (.cells (bl (emptD wd i)) 23)) (qXk (y:=List.map u8 (zG 32 0)) (by simp) (c:=bl (zG 32 0)) (by simp) (d:=emptD wd i) hdi _) ?_;obtain⟨v3,w3,hr3,b3,f3,g3,h3⟩:=b2.push app94_94 hdi (by rw[qQn];omega) f2;rw[← empts_succ]at b3;simp -implicitDefEqProofs only[go_sem,jR];refine qQh ⟨v3,w3,hr3,?_⟩;simp -implicitDefEqProofs only[go_sem,jR,c1];exact⟨256 - (i+1),by omega,i+1,v3,rfl,by omega,rfl,b3,f3⟩
 have d1:=dFo ((i:Int)<256);obtain rfl:i=256:=by omega
 simp -implicitDefEqProofs only[go_sem,jR,d1];have hfin:=Wit.nbS_at wd (k:=k) (empts wd 256) hok hk (by rw[htop,qQn];exact xP _);rw[htop,zC (by rw[qQn];exact xP _),List.append_nil]at hfin;generalize hfull:Wit.nbrs wd t k=full at *;refine loopD [0,3,5,7] (nbJ wd W wb w0.heap.size k (kG t) full) (kG t).length ⟨0,v,_,rfl,by omega,rfl,b2,qQn _ _,hfin,f2⟩ ?_;clear hfin d1 b2 f2;rintro _ vs w2 g ⟨i,v,ds,rfl,hi,rfl,b2,hdl,hfo,f2⟩;have f02:=f1.trans f2;have hY2:=hY.fr0 f02
 by_cases hlt:i<(kG t).length
 ·have hdrop:(kG t).drop i=(kG t)[i]::(kG t).drop (i+1):=jG hlt
  rw[hdrop,List.foldl_cons]at hfo;have hx:=Wit.sub_at wd t [] i hlt;rw[zD,kV,zO]at hx;have sok:=Wit.sub_ok hok _ (vO hlt);have d1:=dTo ((i:Int)<(((Wit.flatT wd 0 t).length:Nat):Int));have c1:=iSu (i:=i);have y1:=iBd (i:=i) (n:=(Wit.flatT wd 0 t).length);have hsm:(kG t)[i] ∈ kG t:=vO hlt;generalize (kG t)[i]=s at *;obtain⟨x,hx',e1,e2,e3,e4⟩:∃ x,(Wit.flatT wd 0 t)[i]?=some x∧x.top=s.top∧x.fr=s.fr∧x.keys=s.keys∧∀ h,s.fr≤h→h<s.top→x.near.getD h []=s.near.getD (h - s.fr) []∧h<x.near.length:=textX sok hx;obtain⟨ev,tb,to,tc,gv,rv,q,hc,he,htx⟩:=hY.texts (by omega);obtain⟨kv,nv,vv,hrt,hrf,hkv,hnv,hvv,hall⟩:=htx i x hx';rw[e1,e2]at hrt hall;rw[e3]at hkv;have rt:=hrt w2 f02;have rw2:=(hc.no f02).row;obtain⟨W3,q3,k3,f3,s3⟩:=allocT w2 (row:=txC kv s.top s.fr nv (x.left:Nat) (x.right:Nat) x.ans.isSome vv) rfl hall;have r3:=qQq (P:=prog) k3;have f03:=f02.trans f3;have rk3:=rd_d agg34 sz34 ((f2.trans f3).at k1 id) hkl;have hkc:s.keys.length≤2 ^ 40:=by have:=sub_keys hok s hsm;have:=kN hok;omega
  simp -implicitDefEqProofs only[go_sem,jR,gLa,gLz,gLs,rw2,qQk,y1,and_self,iTn,rt,q3,jS,r3,rk3];refine qQa pl78 ((has W3 (hkv.fr0 f03) hkl hkc).mono ?_);rintro _ w4 ⟨rfl,f4⟩;have f24:=f3.trans f4;have b4:=b2.fr0 f24
  by_cases hin:k ∈ s.keys
  ·have d2:(!decide (k ∈ s.keys))=false:=by rw[decide_eq_true hin];rfl
   have r4:=qQq (P:=prog) (f4.at k3 id);have hst:=sok.top_le;have hsf:=sok.fr_le;have hnl:=sok.near_len;simp -implicitDefEqProofs only[go_sem,jR,gLa,gLz,gLs,d2,r4,qQk];have hov:Wit.over s.fr ds (s.near.take 0)=ds:=by rw[List.take_zero];exact Wit.over_nil _ _ (by omega)
   refine loopD [0,3,5,7,8,10] (nbK W w4 wb w0.heap.size w2.heap.size i s.fr v ds s.near) s.near.length ⟨0,rfl,by omega,rfl,by rw[hov];exact b4,Fr.refl _ _⟩ ?_;rintro _ vs w5 g ⟨j,rfl,hj,rfl,b5,f5⟩;have hvb:∀ b,qQb v=some b→W.heap.size≤b∧b<w2.heap.size:=fun b hb=>b2.lt hb;have f25:No W w5:=(f2.trans f24).trans' f5 fun b hb h=>by have:=(hvb b h).1;omega
   have f05:=f1.trans f25;have k5:=f5.at (f4.at k3 id) fun h=>by have:=(hvb _ h).2;omega
   have r5:=qQq (P:=prog) k5;have hol:(Wit.over s.fr ds (s.near.take j)).length=256:=by rw[Wit.over_len (by rw[lTk];omega)];exact hdl
   by_cases hjl:j<s.near.length
   ·have d3:=dTo ((s.fr+j:Nat)<((s.top:Nat):Int))
    have c2:IntKind.i64.wrap (((s.fr+j:Nat):Int)+1)=((s.fr+(j+1):Nat):Int):=qXb (b:=1);obtain⟨e41,e42⟩:=e4 (s.fr+j) (by omega) (by omega);have hnv5:=hnv.fr0 f05;obtain⟨nb,no,ncap,rfl,_,_⟩:=hnv5.pos (by omega);have rn:=hnv5.get (P:=prog) agg23 sz23 (i:=s.fr+j) e42;rw[e41,vP]at rn;have hnn:(s.near.getD j []).length=32:=sok.near32.getD hjl;have y2:(0:Int)≤((s.fr+j:Nat):Int)∧((s.fr+j:Nat):Int)<((x.near.length:Nat):Int):=by omega
    have hstep:=Wit.over_step (f:=s.fr) (ds:=ds) hjl (by omega);obtain⟨vb,vo,vcap,rfl,_,_⟩:=b5.rd.pos (by omega);obtain⟨w6,q6,b6,f6⟩:=b5.set sz23 (i:=s.fr+j) (by omega) hnn;rw[hstep]at b6;have y3:(0:Int)≤((s.fr+j:Nat):Int)∧((s.fr+j:Nat):Int)<(((Wit.over s.fr ds (s.near.take j)).length:Nat):Int):=by omega
    simp -implicitDefEqProofs only[go_sem,jR,gLa,gLz,gLs,r5,qQk,d3,y2,y3,and_self,iTn,rn,q6,c2];exact⟨s.near.length - (j+1),by omega,j+1,rfl,by omega,rfl,b6,f5.trans (f6.mono fun b _ h=>by subst h;rfl)⟩
   ·have d3:=dFo ((s.fr+j:Nat)<((s.top:Nat):Int))
    obtain rfl:j=s.near.length:=by omega
    rw[vV]at b5;have hol':(Wit.over s.fr ds s.near).length=256:=by rw[vV]at hol;exact hol
    cases s with
    | leaf k' top near a =>
     have hx:(Wit.flatT wd 0 t)[i]?=_:=hx;rw[hx]at hx';simp only[oSi]at hx';subst hx';have d4:decide (((0:Nat):Int) > 0)=false:=rfl;have hnb:Wit.nbS wd k ds (.leaf k' top near a)=Wit.over 0 ds near:=if_pos hin;rw[hnb]at hfo;have r5:∀ (t':TypeId) (o:Nat),rdO prog t' w5 w2.heap.size o=ldO prog t' (some (Obj.cells (txC kv top 0 nv (0:Nat) (0:Nat) a.isSome vv) 220 (0,0))) o:=r5;have d3:decide ((((Wit.Tw.leaf k' top near a).fr+(Wit.Tw.leaf k' top near a).near.length:Nat):Int)<((top:Nat):Int))=false:=d3;simp -implicitDefEqProofs only[go_sem,jR,gLa,gLz,gLs,r5,qQk,d3,d4,c1];exact⟨(kG t).length - (i+1),by omega,i+1,v,_,rfl,by omega,rfl,b5,hol',hfo,f25⟩
    | fork ks f top near l r =>
     obtain⟨li,ri,hx,hxl,hxr⟩:=hx;rw[hx]at hx';simp only[oSi]at hx';subst hx';have hfp:=sok.f_pos;obtain⟨_,_,_,_,_,_,_,_,h9,_,_,_,okl,okr⟩:=id sok;have d4:=dTo (((f:Nat):Int) > 0);have hnb:Wit.nbS wd k ds (.fork ks f top near l r)=(Wit.over f ds near).set (f - 1) (kJ wd kB (if k ∈ l.keys then r else l)):=if_pos hin;rw[hnb]at hfo;have r5:∀ (t':TypeId) (o:Nat),rdO prog t' w5 w2.heap.size o=ldO prog t' (some (Obj.cells (txC kv top f nv (li:Nat) (ri:Nat) false vv) 220 (0,0))) o:=r5;have r5d:∀ (t':TypeId) (o:Nat),rdO prog t' w5.drew w2.heap.size o=_:=r5;have d3:decide ((((Wit.Tw.fork ks f top near l r).fr+(Wit.Tw.fork ks f top near l r).near.length:Nat):Int)<((top:Nat):Int))=false:=d3;have hol':(Wit.over f ds near).length=256:=hol';have b5:NwD W w5 23 v (Wit.over f ds near):=b5;obtain⟨vb,vo,vcap,rfl,_,_⟩:=b5.rd.pos (by omega);obtain⟨xl,hxl',el1,el2,el3,_⟩:=textX okl hxl;obtain⟨kvl,nvl,vvl,_,hrfl,hkvl,_⟩:=htx li xl hxl';have hli:=(List.getElem?_eq_some_iff.1 hxl').1;have y4:=iBd (i:=li) (n:=(Wit.flatT wd 0 t).length);have rw5:=(hc.no f05).row;have rw5d:∀ t' o,rdO prog t' w5.drew wb o=_:=rw5;have rkl:=hrfl w5 0 24 f05 agg24 (by decide);have rkl:rdO prog 24 w5 tb (to+li*8)=some kvl:=rkl;have rkld:rdO prog 24 w5.drew tb (to+li*8)=some kvl:=rkl;have rk5:=rd_d agg34 sz34 (f25.at k1 id) hkl;have rk5d:rdO prog 34 w5.drew w0.heap.size 0=some (dg k):=rk5;simp -implicitDefEqProofs only[go_sem,jR,jL,gLa,gLz,gLs,r5,qQk,d3,d4,rw5d,r5d,y4,and_self,iTn,rkld,rk5d,Nat.add_zero];rw[el3]at hkvl;have hkc2:l.keys.length≤2 ^ 40:=by rw[h9,lTk];have:ks.length≤2 ^ 40:=hkc;omega
     refine qQa pl78 ((has w5.drew ((hkvl.fr0 f05).fr0 (Fr.refl _ _).drew) hkl hkc2).mono ?_);rintro _ w7 ⟨rfl,f7⟩;have f57:No w5 w7:=(Fr.refl _ _).drew.trans f7;have f07:=f05.trans f57;have k7:=f57.at k5 id;have r7:∀ (t':TypeId) (o:Nat),rdO prog t' w7 w2.heap.size o=ldO prog t' (some (Obj.cells (txC kv top f nv (li:Nat) (ri:Nat) false vv) 220 (0,0))) o:=qQq (P:=prog) k7;have c3:IntKind.i64.wrap (((f:Nat):Int) - 1)=((f - 1:Nat):Int):=qXm (b:=1) (by omega) (by omega)
     by_cases hml:k ∈ l.keys
     ·rw[if_pos hml]at hfo
      rw[decide_eq_true hml];simp -implicitDefEqProofs only[go_sem,jR,gLa,gLz,gLs,r7,qQk];refine qXd (fun j=>j == 6) [0,1,2,3,4,5,6,7,8] rfl (by kernel_rfl) (by kernel_rfl) ?_;have r7d:∀ t o,rdO prog t w7.drew w2.heap.size o=_:=r7;simp -implicitDefEqProofs only[go_sem,jR,jL,gLa,gLz,gLs,r7d,qQk,c3];refine qQp pl134 ((digest u (cv:=.slice .none 0 0) (cs:=[]) (by omega) ⟨by simp,fun c h=>by cases h⟩ (ht.no f07.drew) (hY.fr0 f07.drew) okr hxr (CsR.nil _)).mono ?_);rintro _ w8 ⟨rfl,f8⟩;rw[kP];refine⟨fun _=>Fr.ext f8,?_⟩;have hdd:(kJ wd kB r).length=32:=kK _ _ _;obtain⟨w9,q9,b9,f9⟩:=((b5.fr0 f57.drew).fr0 f8).set sz23 (i:=f - 1) (by omega) hdd;have y5:(0:Int)≤((f - 1:Nat):Int)∧((f - 1:Nat):Int)<(((Wit.over f ds near).length:Nat):Int):=by omega
      simp -implicitDefEqProofs only[go_sem,jR,jL,gLa,gLz,gLs,y5,and_self,iTn,q9,c1];refine⟨(kG t).length - (i+1),by omega,i+1,_,_,rfl,by omega,rfl,b9,by rw[jM];exact hol',hfo,(((f25.trans f57.drew).trans f8).trans' f9 fun b hb h=>by have:=(hvb b (by rw[h];rfl)).1;omega)⟩
     ·rw[if_neg hml]at hfo
      rw[decide_eq_false hml];simp -implicitDefEqProofs only[go_sem];refine qXd (fun j=>j == 6) [0,1,2,3,4,5,6,7,8] rfl (by kernel_rfl) (by kernel_rfl) ?_;have r7d:∀ t o,rdO prog t w7.drew w2.heap.size o=_:=r7;simp -implicitDefEqProofs only[go_sem,jR,jL,gLa,gLz,gLs,r7d,qQk,c3];refine qQp pl134 ((digest u (cv:=.slice .none 0 0) (cs:=[]) (by omega) ⟨by simp,fun c h=>by cases h⟩ (ht.no f07.drew) (hY.fr0 f07.drew) okl hxl (CsR.nil _)).mono ?_);rintro _ w8 ⟨rfl,f8⟩;rw[kP];refine⟨fun _=>Fr.ext f8,?_⟩;have hdd:(kJ wd kB l).length=32:=kK _ _ _;obtain⟨w9,q9,b9,f9⟩:=((b5.fr0 f57.drew).fr0 f8).set sz23 (i:=f - 1) (by omega) hdd;have y5:(0:Int)≤((f - 1:Nat):Int)∧((f - 1:Nat):Int)<(((Wit.over f ds near).length:Nat):Int):=by omega
      simp -implicitDefEqProofs only[go_sem,jR,jL,gLa,gLz,gLs,y5,and_self,iTn,q9,c1];refine⟨(kG t).length - (i+1),by omega,i+1,_,_,rfl,by omega,rfl,b9,by rw[jM];exact hol',hfo,(((f25.trans f57.drew).trans f8).trans' f9 fun b hb h=>by have:=(hvb b (by rw[h];rfl)).1;omega)⟩
  ·have d2:(!decide (k ∈ s.keys))=true:=by rw[decide_eq_false hin];rfl
   have hnb:Wit.nbS wd k ds s=ds:=by cases s <;> exact if_neg hin
   rw[hnb]at hfo;simp -implicitDefEqProofs only[go_sem,jR,d2,c1];exact⟨(kG t).length - (i+1),by omega,i+1,v,ds,rfl,by omega,rfl,b4,hdl,hfo,f2.trans f24⟩
 ·obtain rfl:i=(kG t).length:=by omega
  rw[List.drop_length]at hfo;have hfo:ds=full:=hfo;subst hfo;obtain⟨ev,rv,tv,gv,q,txs,gvs,h2,h3,h4⟩:=id hY2;obtain⟨ta,tc,rfl,_⟩:=h3.txr.rd.slice;have r1:=h3.cell.row;have htl:txs.length=(Wit.flatT wd 0 t).length:=h4.1;have d1:decide ((((kG t).length:Nat):Int)<((txs.length:Nat):Int))=false:=by rw[htl,hlen,hsl];simp
  simp -implicitDefEqProofs only[go_sem,jR,gLa,gLz,gLs,r1,qQk,d1];exact⟨b2.back f1.size,f02⟩
theorem partR (w0:World)(ht:Tabs w0)(wd:Int){raw:Bs}(hk:RdD w0 kv ks)(hr:By w0 rawv raw)(hrl:raw.length≤2 ^ 50)(hkl:k.length=32) :
  Fn prog 40 #[.int .i64 wd,kv,rawv,dg k] w0 (BsQ w0 (kF wd ks raw k)):=by
 refine go40 (by simp) ?_;obtain⟨W,hW,f1,k1,s1⟩:=qQm w0 (bl k) 34
 by_cases hw:wd<1∨32<wd
 ·have hvp:kF wd ks raw k=.error 1:=by unfold kF Wit.sortW;rw[if_pos hw]
  rw[hvp]
  by_cases h1:wd<1
  ·have d1:decide (wd<1)=true:=decide_eq_true h1
   simp -implicitDefEqProofs only[go_sem,jR,vY,gLa,gLz,gLs,Tryz.f40,jS,hW,d1,qJe];exact⟨f1,rfl⟩
  ·have d1:decide (wd<1)=false:=decide_eq_false h1
   have d2:=dTo (wd > 32);simp -implicitDefEqProofs only[go_sem,jR,vY,gLa,gLz,gLs,Tryz.f40,jS,hW,d1,d2,bSe];exact⟨f1,rfl⟩
 have hsw:Wit.sortW wd ks=Wit.sortE ks:=if_neg hw;have d1:=dFo (wd<1);have d2:=dFo (wd > 32)
 obtain⟨Wn,hWn⟩:∃ n:Nat,wd=n:=⟨wd.toNat,by omega⟩
 simp -implicitDefEqProofs only[go_sem,jR,vY,gLa,gLz,gLs,Tryz.f40,jS,hW,d1,d2,bSe];refine qQa pl72 ((sorted W (hk.fr0 f1)).mono ?_);rintro r w2 ⟨f2,h2⟩;have f02:=f1.trans f2
 cases hs:Wit.sortE ks with
 | error e =>
  rw[hs]at h2;subst h2
  have he:(e != 0)=true:=by
   unfold Wit.sortE at hs;split at hs
   ·cases hs;rfl
   ·split at hs
    ·cases hs
    ·cases hs;rfl
  have hvp:kF wd ks raw k=.error e:=by unfold kF;rw[hsw,hs]
  rw[hvp];simp -implicitDefEqProofs only[go_sem,jR,gLa,gLz,gLs,he];exact⟨f02,rfl⟩
 | ok l =>
  rw[hs]at h2;obtain⟨lv,rfl,n2⟩:=h2;obtain⟨asc,l32,hlen,hl64,hperm⟩:=Wit.sortE_ok hk.1 hs
  have hvp : kF wd ks raw k = match Wit.form wd l raw with
      | .error e => .error e
      | .ok none => .error 160
      | .ok (some t) => if k ∈ l then .ok (Wit.txt wd (Wit.part wd t k)) else .error 160 := by unfold kF; rw [hsw,hs]; rfl
  simp -implicitDefEqProofs only[go_sem,jR,gLa,gLz,gLs,bNe];refine qQa pl77 ((formR w2 (ht.no f02) hWn (by omega) n2.rd (hr.fr0 f02) asc hl64 hrl).mono ?_);rintro r w3 ⟨f3,h3⟩;have f03:=f02.trans f3;have n3:=n2.fr0 f3;have r3:=rd_d agg34 sz34 ((f2.trans f3).at k1 id) hkl
  cases hf:Wit.form wd l raw with
  | error e =>
   rw[hf]at h3 hvp;subst h3;have he:(e != 0)=true:=by rw[bne,form_err hf];rfl
   rw[hvp];simp -implicitDefEqProofs only[go_sem,jR,gLa,gLz,gLs,he];exact⟨f03,rfl⟩
  | ok o =>
   rw[hf]at h3 hvp
   cases o with
   | none =>
    obtain⟨wb,rfl,_⟩:=h3;have hl0:l=[]:=Wit.underP_none (w:=wd) (root:=[]) (raw:=raw) (by unfold kM;rw[hf]);subst hl0;simp -implicitDefEqProofs only[go_sem,jR,gLa,gLz,gLs,bNe,r3];refine qQa pl78 ((has w3 n3.rd hkl (by simp)).mono ?_);rintro _ w4 ⟨rfl,f4⟩;have d:(!decide (k ∈ ([]:List Bs)))=true:=by simp
    rw[hvp];simp -implicitDefEqProofs only[go_sem,jR,d];exact⟨f03.trans f4,rfl⟩
   | some t =>
    obtain⟨wb,rfl,hX⟩:=h3;obtain⟨u,_,hY⟩:=hX.y;obtain⟨hok,hkeys,htop,_⟩:=Wit.form_ok asc l32 hf;have hsz:t.size≤2 ^ 40:=by have:=kN hok;rw[hkeys]at this;omega
    simp -implicitDefEqProofs only[go_sem,jR,gLa,gLz,gLs,bNe,r3];refine qQa pl78 ((has w3 n3.rd hkl (by omega)).mono ?_);rintro _ w4 ⟨rfl,f4⟩;have f04:=f03.trans f4
    by_cases hm:k ∈ l
    ·have d:(!decide (k ∈ l))=false:=by rw[decide_eq_true hm];rfl
     have hvp:kF wd ks raw k=.ok (Wit.txt wd (Wit.part wd t k)):=hvp.trans (if_pos hm);rw[hvp];have hkm:k ∈ t.keys:=by rw[hkeys];exact hm
     have hlen:=vS wd t 0;have hsp:=t.size_pos;obtain⟨ev,tb,to,tc,gv,rv,q,hc,he,_⟩:=(hY.fr0 f4).texts (by omega);simp -implicitDefEqProofs only[go_sem,d];refine qXd (fun j=>j == 6 || j == 9 || j == 10) [0,1,2,3,4,5,7,8,6,9,10,11,12] rfl (by kernel_rfl) (by kernel_rfl) ?_;have rw4:=hc.row;have rw4d:∀ t' o,rdO prog t' w4.drew wb o=_:=rw4;have r4:=rd_d agg34 sz34 (((f2.trans f3).trans f4).at k1 id) hkl;have r4d:rdO prog 34 w4.drew w0.heap.size 0=some (dg k):=r4;simp -implicitDefEqProofs only[go_sem,jR,jL,gLa,gLz,gLs,rw4d,qQk,r4d];refine qQp pl74 ((wof u w4.drew ((hY.fr0 f4).fr0 (Fr.refl _ _).drew) hok hsz hkm).mono ?_);rintro _ w5 ⟨f5,vv,rfl,hone,n5⟩;refine⟨fun _=>Fr.ext f5,?_⟩;have f45:No w4 w5:=(Fr.refl _ _).drew.trans f5;simp -implicitDefEqProofs only[go_sem,jR,gLa,gLz,gLs];refine qQp pl80 ((neighbours u w5 (ht.no (f04.trans f45)) ((hY.fr0 f4).fr0 f45) hok htop hsz hkm).mono ?_);rintro nv w6 ⟨n6,f6⟩;refine⟨fun _=>Fr.ext f6,?_⟩;have hal:=Wit.at_len k hok;simp -implicitDefEqProofs only[go_sem,jR,gLa,gLz,gLs]
     refine qQp pl79 ((singleR w6 wd ((he.fr0 f45).fr0 f6) n6.rd (by rw[Wit.nbrs_len wd k hok,htop]) (n5.by.fr0 f6) (by
      cases hta:t.at k with
      | none=>simp
      | some v=>have:=hal v hta;simp only[kU];omega) hone).mono ?_)
     rintro v w7 ⟨n7,f7⟩;refine⟨fun _=>Fr.ext f7,?_⟩;have f47:=(f45.trans f6).trans f7;simp -implicitDefEqProofs only[go_sem,jR,jL,gLa,gLz,gLs];exact⟨f04.trans f47,v,rfl,n7.back (f04.trans (f45.trans f6)).size⟩
    ·have d:(!decide (k ∈ l))=true:=by rw[decide_eq_false hm];rfl
     have hvp:kF wd ks raw k=.error 160:=hvp.trans (if_neg hm);rw[hvp];simp -implicitDefEqProofs only[go_sem,jR,d];exact⟨f04,rfl⟩
end R
theorem RdR.cutV {k n cap:Nat}{rows:Rows}(h:RdR w k (.slice a n cap) rows)(hl:l≤m)(hm:m≤n)(hn:rows.length=n):RdR w k (V.cutV k a cap l m) ((rows.drop l).take (m - l)):=by
 subst hn;refine⟨fun r hr=>h.1 r (zN (List.mem_of_mem_take hr)),?_⟩;have e:((rows.drop l).take (m - l)).length=m - l:=by rw[lTk,lDr];omega
 have hfl:∀ (l:Rows) (n:Nat),RowsOk k l→(l.flatten).take (n*k)=(l.take n).flatten∧(l.flatten).drop (n*k)=(l.drop n).flatten:=by
  intro l
  induction l with
  | nil=>intro n _;simp
  | cons r l ih =>
   intro n ho;have hr:=(ho r (by simp)).1
   cases n with
   | zero=>simp
   | succ n =>
    obtain⟨i1,i2⟩:=ih n ho.tail;have e1:(n+1)*k=r.length+n*k:=by rw[hr,Nat.add_mul];omega
    simp only[List.flatten_cons,kY,List.drop_succ_cons];rw[e1];constructor
    ·rw[List.take_append,List.take_of_length_le (by omega),vP,i1]
    ·rw[List.drop_append,zC (by omega),vP,i2,zD]
 have hd:RowsOk k (rows.drop l):=fun r hr=>h.1 r (zN hr);rw[e,← (hfl _ _ hd).1,← (hfl _ _ h.1).2];exact Rd.cutV h.2 hl hm
def enRow (c:Bs × Bs)(vv:Value):List Value:=c.1.map u8++[vv]
def EnR (w:World)(v:Value)(es:List (Bs × Bs)):Prop:=∃ rows,RdR w 33 v rows∧rows.length=es.length∧∀ i (h:i<rows.length) (h':i<es.length),∃ vv,rows[i]=enRow es[i] vv∧es[i].1.length=32∧one vv=true∧By w vv es[i].2
theorem EnR.fr0 {w w':World}(h:EnR w v es)(k:No w w'):EnR w' v es:=by
 obtain⟨rows,h1,h2,h3⟩:=h;refine⟨rows,h1.fr0 k,h2,fun i a b=>?_⟩;obtain⟨vv,e,l,o,y⟩:=h3 i a b;exact⟨vv,e,l,o,y.fr0 k⟩
theorem EnR.slice (h:EnR w v es):∃ a cap,v=.slice a es.length cap∧es.length≤cap:=by
 obtain⟨rows,h1,h2,_⟩:=h;rw[← h2];exact h1.slice
theorem EnR.cutV (h:EnR w (.slice a n cap) es)(hl:l≤m)(hm:m≤n)(hn:es.length=n):EnR w (V.cutV 33 a cap l m) ((es.drop l).take (m - l)):=by
 obtain⟨rows,h1,h2,h3⟩:=h;refine⟨_,h1.cutV hl hm (by omega),by simp[h2],fun i a b=>?_⟩;simp only[List.getElem_take,List.getElem_drop];rw[lTk,lDr]at a b;exact h3 (l+i) (by omega) (by omega)
theorem EnR.at (h:EnR w v es)(hi:i<es.length):∃ b o cap vv, v=.slice (some ⟨b, o, Option.none⟩) es.length cap∧es.length≤cap∧es[i].1.length=32∧one vv=true∧By w vv es[i].2 ∧
  ∀ w',No w w'→rdO prog 34 w' b (o+i*33)=some (dg es[i].1)∧rdO prog 25 w' b (o+i*33+32)=some vv∧rdO prog 65 w' b (o+i*33)=some (.agg (enRow es[i] vv).toArray):=by
 obtain⟨rows,hR,h2,h3⟩:=h;have hir:i<rows.length:=by omega
 obtain⟨vv,he,hl,ho,hb⟩:=h3 i hir hi;obtain⟨b,o,cap,rfl,hc⟩:=hR.pos (by decide) (by omega);refine⟨b,o,cap,vv,by rw[h2],by omega,hl,ho,hb,fun w' k=>⟨?_,?_,?_⟩⟩
 ·refine (hR.fr0 k).sub agg34 sz34 (by decide) hir (j:=0) (by decide) (xs:=es[i].1.map u8) (by simp[hl]) fun q hq=>?_
  rw[he,zO,enRow,List.getElem?_append_left (by simp[hl];omega)]
 ·refine (hR.fr0 k).fld agg25 hir (by decide) ?_
  rw[he,enRow,jA (by simp[hl])];simp[hl]
 ·rw[← he];exact (hR.fr0 k).get agg65 sz65 (by decide) hir
namespace R
def cwI (w0:World)(wd:Int)(esv:Value)(k full:Bs)(n:Nat)(m:Nat)(vs:List Value)(w:World):Prop :=
 ∃ (h:Nat) (d:Bs),vs=[esv,.int .i64 wd,pt w0.heap.size 0,pt (w0.heap.size+1) 0,pt (w0.heap.size+2) 0,.int .i64 (n:Nat),.int .i64 (h:Nat)]∧h≤n∧m=n - h∧d.length=32∧full=climb wd k h d (((empts wd 257).drop h).take (n - h)) ∧
  w.heap[w0.heap.size]?=some (.cells (bl k) 34 (0,0))∧w.heap[w0.heap.size+1]?=some (.cells (bl d) 23 (0,0))∧w.heap[w0.heap.size+2]?=some (.cells (bl (zG 32 0)) 23 (0,0))∧No w0 w
theorem climbWith (w0:World)(ht:Tabs w0)(wd:Int)(he:RdD w0 esv (empts wd 257))(hk:k.length=32){d:Bs}(hd:d.length=32)(hn:n≤256) :
  Fn prog 102 #[esv,.int .i64 wd,dg k,.int .i64 0,dg d,.int .i64 (n:Nat)] w0 fun v w'=>v=dg (climb wd k 0 (cutD wd d) ((empts wd 257).take n))∧No w0 w':=by
 refine go102 (by simp) ?_;obtain⟨W,hW,f1,k1,k2,k3,s1⟩:=qJd w0 (bl k) 34 (bl d) 23 (bl (zG 32 0)) 23;simp -implicitDefEqProofs only[go_sem,jR,vY,Tryz.f102,jS,qQj,hW];refine qQa pl164 ((within W 0 0 256 (by decide)).mono ?_);rintro _ w2 ⟨rfl,rfl⟩;simp -implicitDefEqProofs only[go_sem,jR];refine qQa pl164 ((within w2 n 0 256 (by decide)).mono ?_);rintro _ w3 ⟨rfl,rfl⟩;have m1:max (0:Int) (min 0 256)=((0:Nat):Int):=rfl;have m2:max (0:Int) (min (n:Int) 256)=(n:Int):=by omega
 have r3:=rd_d agg23 sz23 k2 hd;simp -implicitDefEqProofs only[go_sem,jR,r3,m1,m2];refine qQa pl163 ((dcut w3 wd hd).mono ?_);rintro _ w4 ⟨rfl,f4⟩;have lc:=qXj wd d;have q5:=wr_d sz23 (f4.at k2 id) hd lc;have k5:=qQf (o:=.cells (bl (cutD wd d)) 23 (0,0)) (f4.at k2 id);have k51:=qQt (b:=w0.heap.size+1) (o:=.cells (bl (cutD wd d)) 23 (0,0)) (f4.at k1 id) (by omega);have k53:=qQt (b:=w0.heap.size+1) (o:=.cells (bl (cutD wd d)) 23 (0,0)) (f4.at k3 id) (by omega);have f5:No w0 (put w4 (w0.heap.size+1) (.cells (bl (cutD wd d)) 23 (0,0))):=(f1.trans f4).put (b:=w0.heap.size+1) _ fun h=>by omega
 simp -implicitDefEqProofs only[go_sem,jR,q5];generalize put w4 (w0.heap.size+1) (.cells (bl (cutD wd d)) 23 (0,0))=w5 at *;generalize hfull:climb wd k 0 (cutD wd d) ((empts wd 257).take n)=full;refine loopD [0,1,8,10,12,14,15] (cwI w0 wd esv k full n) n ⟨0,cutD wd d,rfl,by omega,rfl,lc,by rw[List.drop_zero,Nat.sub_zero,hfull],k51,k5,k53,f5⟩ ?_;clear r3 q5 k5 k51 k53 f5 f4 hfull;rintro _ vs w6 g ⟨h,x,rfl,hh,rfl,hx,hf,j1,j2,j3,f6⟩
 by_cases hlt:h<n
 ·have d1:=dTo ((h:Int)<(n:Int))
  have c1:=iSu (i:=h);have c2:IntKind.i64.wrap (255 - (h:Int))=((255 - h:Nat):Int):=qXm (a:=255) (by omega) (by omega);have rk:=rd_d agg34 sz34 j1 hk;simp -implicitDefEqProofs only[go_sem,jR,d1,rk,c2];refine qQa pl165 ((bit w6 hk (i:=255 - h) (by omega)).mono ?_);rintro _ w7 ⟨rfl,f7⟩;have he7:=he.fr0 (f6.trans f7);obtain⟨eb,eo,ec,rfl,_,_⟩:=he7.pos (by rw[qQn];decide);have re:=he7.get (P:=prog) agg23 sz23 (i:=h) (by rw[qQn];omega);rw[gDq,qXy wd 257 (by omega),kU]at re;have red:rdO prog 23 w7.drew eb (eo+h*32)=_:=re;have y1:(0:Int)≤(h:Int)∧(h:Int)<(((empts wd 257).length:Nat):Int):=by rw[qQn];omega
  have hdh:=qQr wd h;have k71:=f7.at j1 id;have k72:=f7.at j2 id;have k73:=f7.at j3 id;have rd7:=rd_d agg23 sz23 k72 hx;have rd7d:rdO prog 23 w7.drew (w0.heap.size+1) 0=_:=rd7
  have hst:((empts wd 257).drop h).take (n - h)=emptD wd h::((empts wd 257).drop (h+1)).take (n - (h+1)):=by
   rw[jG (by rw[qQn];omega),show n - h=(n - (h+1))+1 by omega,kY]
   congr 1
   have:=qXy wd 257 (i:=h) (by omega);rw[xO (by rw[qQn];omega)]at this;exact Option.some.inj this
  rw[hst,climb]at hf;unfold up at hf;unfold kb
  by_cases hbit:kbit k (255 - h)=true
  ·rw[if_pos hbit]at hf
   rw[if_pos hbit];have d0:((1:Int) == 0)=false:=rfl;simp -implicitDefEqProofs only[go_sem,jR,d0,y1,and_self,iTn,red,rd7d];refine qQa pl100 ((branch w7.drew (ht.no (f6.trans f7).drew) wd hdh hx).mono ?_);rintro _ w8 ⟨rfl,f8⟩;have lb:(qQv wd (emptD wd h) x).length=32:=qQz _ _ _;have f78:No w7 w8:=(Fr.refl _ _).drew.trans f8;have q9:=wr_d sz23 (f78.at k72 id) hx lb;simp -implicitDefEqProofs only[go_sem,jR,q9,c1];exact⟨n - (h+1),by omega,h+1,_,rfl,by omega,rfl,lb,hf,qQt (f78.at k71 id) (by omega),qQf (f78.at k72 id),qQt (f78.at k73 id) (by omega),((f6.trans f7).trans f78).put (b:=w0.heap.size+1) _ fun h=>by omega⟩
  ·rw[if_neg hbit]at hf
   rw[if_neg hbit];have d0:((0:Int) == 0)=true:=rfl;simp -implicitDefEqProofs only[go_sem,jR,d0,y1,and_self,iTn,red,rd7d];refine qQa pl100 ((branch w7.drew (ht.no (f6.trans f7).drew) wd hx hdh).mono ?_);rintro _ w8 ⟨rfl,f8⟩;have lb:(qQv wd x (emptD wd h)).length=32:=qQz _ _ _;have f78:No w7 w8:=(Fr.refl _ _).drew.trans f8;have q9:=wr_d sz23 (f78.at k72 id) hx lb;simp -implicitDefEqProofs only[go_sem,jR,q9,c1];exact⟨n - (h+1),by omega,h+1,_,rfl,by omega,rfl,lb,hf,qQt (f78.at k71 id) (by omega),qQf (f78.at k72 id),qQt (f78.at k73 id) (by omega),((f6.trans f7).trans f78).put (b:=w0.heap.size+1) _ fun h=>by omega⟩
 ·have d1:=dFo ((h:Int)<(n:Int))
  obtain rfl:h=n:=by omega
  rw[Nat.sub_self,List.take_zero]at hf;have hf:full=x:=hf;subst hf;have rd6:=rd_d agg23 sz23 j2 hx;have q7:=wr_d sz23 j3 zl32 hx;have r7:=rd_d agg23 sz23 (qQf (o:=.cells (bl full) 23 (0,0)) j3) hx;simp -implicitDefEqProofs only[go_sem,jR,d1,rd6,q7,r7];exact f6.put (b:=w0.heap.size+2) _ fun h=>by omega
end R
end Go.V
