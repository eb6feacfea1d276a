/- Helpers. -/
import Derived.Test.YtmenaeggoakppaaGreatDoorG20
import Derived.Test.YtmenaeggoakppaaGreatDoorG11
import Derived.Test.YtmenaeggoakppaaGreatDoorG19
import Derived.Test.YtmenaeggoakppaaGreatDoorG22
import Derived.Test.YtmenaeggoakppaaGreatDoorG31
set_option linter.all false
set_option maxRecDepth 100000
set_option maxHeartbeats 8000000
open Bool renaming false_eq_true→qD
open Int renaming toNat_zero→vL
open List renaming replicate→zG,getElem_append_right→yD,getElem_append_left→yM,getElem_cons_zero→kZ,length_cons→zH,take_of_length_le→zF,mem_of_mem_drop→zN,take_succ_cons→kJ
open Nat renaming reduceEqDiff→jF,add_zero→jO,zero_mul→jA,reduceBEq→jB,reduceAdd→vJ,le_refl→xP,add_sub_cancel_left→kK
open Go.Value renaming cells→jM
namespace Go.V
open Go.Proofs.Tryz Go.V.Tryz
open Go.Proofs Sha
variable {p:Bool × Value} {k x1 x2:Bs} {e1 e2:Bs × Bs} {wd:Int} {ps:List (Bool × Value)} {es:List (Bs × Bs)} {an:List (Option Bs)} {ks:List Bs} {cap n:Nat} {a:Option Bs} {esv mv v:Value} {w w':World}
namespace Wit
def underP (w:Int)(root:Bs)(ks:List Bs)(raw:Bs):Except Int (Option Tw) :=
 match form w ks raw with
 | .error e=>.error e
 | .ok none=>.ok none
 | .ok (some t)=>if dig w asIs t=root then .ok (some t) else .error 131
theorem underP_ok {w:Int}{root:Bs}{raw:Bs}{t:Tw}(h:underP w root ks raw=.ok (some t)):form w ks raw=.ok (some t)∧dig w asIs t=root:=by
 unfold underP at h;split at h
 ·cases h
 ·cases h
 ·rename_i t' hf
  split at h
  ·rename_i hd
   simp only[Except.ok.injEq,oSi]at h;subst h;exact⟨hf,hd⟩
  ·cases h
theorem underP_none {w:Int}{root:Bs}{raw:Bs}(h:underP w root ks raw=.ok none):ks=[]:=by
 unfold underP form at h
 by_cases h0:ks=[]
 ·exact h0
 ·rw[if_neg h0]at h
  exfalso
  revert h
  split
  ·simp
  ·rename_i hh
   split at hh
   ·cases hh
   ·split at hh
    ·cases hh
    ·split at hh <;> cases hh
  ·split <;> simp
def verifyP (w:Int)(root:Bs)(ks:List Bs)(raw:Bs):Except Int (List (Option Bs)) :=
 match sortW w ks with
 | .error e=>.error e
 | .ok l=>match underP w root l raw with
  | .error e=>.error e
  | .ok none=>.ok []
  | .ok (some t)=>.ok (ks.map t.at)
end Wit
theorem form_err {w:Int}{raw:Bs}{e:Int}(h:Wit.form w ks raw=.error e):(e == 0)=false:=by
 have hc:∀ gs:List (Nat × Bs),Wit.chk w gs=0∨Wit.chk w gs=120∨Wit.chk w gs=130:=by
  intro gs
  induction gs with
  | nil=>exact .inl rfl
  | cons p gs ih =>
   simp only[Wit.chk];split
   ·exact .inr (.inl rfl)
   ·split
    ·exact .inr (.inr rfl)
    ·exact ih
 unfold Wit.form at h;split at h
 ·split at h
  ·cases h
  ·cases h;rfl
 ·split at h
  ·cases h;rfl
  ·split at h
   ·cases h;rfl
   ·split at h
    ·rename_i hn
     simp only[Except.error.injEq]at h;subst h;rename_i p _ _
     rcases hc p.2.1 with h | h | h
     ·exact absurd h hn
     ·rw[h];rfl
     ·rw[h];rfl
    ·cases h
def acells (ps:List (Bool × Value)):List Value:=(ps.map fun p=>[Value.bool p.1,p.2]).flatten
def AnR (w:World)(p:Bool × Value)(a:Option Bs):Prop:=p.1=a.isSome∧one p.2=true∧By w p.2 (a.getD [])
def AnP (w:World)(ps:List (Bool × Value))(an:List (Option Bs)):Prop:=ps.length=an.length∧∀ i (h:i<ps.length) (h':i<an.length),AnR w ps[i] an[i]
def AnL (w:World)(v:Value)(an:List (Option Bs)):Prop:=∃ ps,AnP w ps an∧Rd w 2 v ps.length (acells ps)
theorem AnR.fr0 (h:AnR w p a)(k:No w w'):AnR w' p a:=⟨h.1,h.2.1,h.2.2.fr0 k⟩
theorem AnP.fr0 (h:AnP w ps an)(k:No w w'):AnP w' ps an:=⟨h.1,fun i a b=>(h.2 i a b).fr0 k⟩
theorem AnP.snoc (h:AnP w ps an)(hp:AnR w p a):AnP w (ps++[p]) (an++[a]):=by
 obtain⟨h1,h2⟩:=h;refine⟨by simp[h1],fun i hi hi'=>?_⟩
 by_cases hl:i<ps.length
 ·rw[yM hl,yM (by omega)];exact h2 i hl (by omega)
 ·have hi2:i=ps.length:=by simp at hi;omega
  subst hi2;rw[yD (xP _),yD (by omega)];simpa [h1] using hp
theorem acells_app (a b:List (Bool × Value)):acells (a++b)=acells a++acells b:=by simp[acells]
theorem AnP.nil (w:World):AnP w [] []:=⟨rfl,fun i h=>absurd h (by simp)⟩
def VeQ (w0:World)(x:Except Int (List (Option Bs)))(r:Value)(w':World):Prop:=No w0 w'∧match x with
 | .error e=>r=.tuple #[.slice none 0 0,.int .i64 e]
 | .ok an=>∃ v,r=.tuple #[v,.int .i64 0]∧AnL w' v an
theorem sortW_err {e:Int}(h:Wit.sortW wd ks=.error e):(e != 0)=true:=by
 unfold Wit.sortW Wit.sortE at h;split at h
 ·cases h;rfl
 ·split at h
  ·cases h;rfl
  ·split at h
   ·cases h
   ·cases h;rfl
theorem underP_err {root:Bs}{raw:Bs}{e:Int}(h:Wit.underP wd root ks raw=.error e):(e != 0)=true:=by
 unfold Wit.underP at h;split at h
 ·rename_i hf
  cases h;have:=form_err hf;rw[bne,this];rfl
 ·cases h
 ·split at h
  ·cases h
  ·cases h;rfl
namespace Wit
def partP (w:Int)(ks:List Bs)(raw:Bs)(k:Bs):Except Int Bs :=
 match sortW w ks with
 | .error e=>.error e
 | .ok l=>match form w l raw with
  | .error e=>.error e
  | .ok none=>.error 160
  | .ok (some t)=>if k ∈ l then .ok (txt w (part w t k)) else .error 160
end Wit
def BsQ (w0:World)(x:Except Int Bs)(r:Value)(w':World):Prop:=No w0 w'∧match x with
 | .error e=>r=.tuple #[.slice none 0 0,.int .i64 e]
 | .ok bs=>∃ v,r=.tuple #[v,.int .i64 0]∧NwB w0 w' v bs
namespace R
theorem holds (w0:World)(ht:Tabs w0){W:Nat}(hW:wd=W)(hW2:W≤32){root:Bs}(hroot:root.length=32){kv rawv:Value}{raw:Bs}(hk:RdD w0 kv ks)(hr:By w0 rawv raw)(ha:Wit.Asc ks)(hl:ks.length≤64)(hrl:raw.length≤2 ^ 50) :
  Fn prog 73 #[.int .i64 wd,dg root,kv,rawv] w0 (FoQ w0 wd (Wit.underP wd root ks raw)):=by
 refine go73 (by simp) ?_;obtain⟨W1,hW1,f1,k1,s1⟩:=qQs w0 (bl root) 23;simp -implicitDefEqProofs only[go_sem,jF,vJ,Tryz.f73,jM,hW1];refine qQa pl77 ((formR W1 (ht.no f1) hW hW2 (hk.fr0 f1) (hr.fr0 f1) ha hl hrl).mono ?_);rintro r w2 ⟨f2,h2⟩;have f02:=f1.trans f2;have k2:=f2.at k1 id;unfold FoQ Wit.underP
 cases hf:Wit.form wd ks raw with
 | error e =>
  rw[hf]at h2;subst h2;have he:(e != 0)=true:=by rw[bne,form_err hf];rfl
  simp -implicitDefEqProofs only[go_sem,jF,gLa,gLz,gLs,he];exact⟨f02,trivial⟩
 | ok o =>
  rw[hf]at h2;obtain⟨ka,kc,rfl,hkc⟩:=hk.slice
  cases o with
  | none =>
   obtain⟨wb,rfl,h2⟩:=h2;have hl0:ks=[]:=Wit.underP_none (w:=wd) (root:=[]) (raw:=raw) (by unfold Wit.underP;rw[hf]);subst hl0;have d0:decide (((([]:List Bs).length:Nat):Int) > 0)=false:=rfl;simp -implicitDefEqProofs only[go_sem,jF,gLa,gLz,gLs,bNe];refine qXh (fun j=>j == 5) [0,1,2,3,4,6,5,7,8] rfl (by kernel_rfl) (by kernel_rfl) ?_;simp -implicitDefEqProofs only[go_sem,jF,jB,gLa,gLz,gLs,d0,qJu,qD,if_false,if_true];exact⟨f02.drew,wb,rfl,(h2.fr0 (Fr.refl _ _).drew).back f1⟩
  | some t =>
   obtain⟨wb,rfl,h2⟩:=h2;obtain⟨hok,hkeys,_,_⟩:=Wit.form_ok ha hk.1 hf;have hp:=hok.keys_pos;rw[hkeys]at hp;have d0:=dTo (((ks.length:Nat):Int) > 0);obtain⟨u,hu,hY⟩:=h2.y;have hsz:t.size≤2 ^ 40:=by have:=Wit.size_keys hok;rw[hkeys]at this;omega
   simp -implicitDefEqProofs only[go_sem,jF,gLa,gLz,gLs,bNe];refine qXh (fun j=>j == 5) [0,1,2,3,4,6,5,7,8] rfl (by kernel_rfl) (by kernel_rfl) ?_;have r2:=rd_d agg23 sz23 k2 hroot;have r2':rdO prog 23 w2.drew w0.heap.size 0=some (dg root):=r2;simp -implicitDefEqProofs only[go_sem,jF,jB,gLa,gLz,gLs,d0,r2',bSe,qD,if_false,if_true];refine qQt pl85 ((R.root u w2.drew (ht.no f02.drew) (hY.fr0 (Fr.refl _ _).drew) hok hsz (CsR.nil _) ⟨by simp,fun c h=>by cases h⟩).mono ?_);rintro _ w3 ⟨rfl,f3⟩;rw[Wit.saysC_nil];refine⟨fun _=>Fr.ext f3,?_⟩;have eq:=eqDig (Wit.dig_len wd Wit.asIs t) hroot;have f03:=f02.drew.trans f3
   by_cases hd:Wit.dig wd Wit.asIs t=root
   ·have hb:(Wit.dig wd Wit.asIs t == root)=true:=by rw[beq_iff_eq];exact hd
    simp -implicitDefEqProofs only[go_sem,jF,jB,gLa,gLz,gLs,eq,hb,bSe,qD,if_false,if_true];rw[if_pos hd];exact⟨f03,wb,rfl,(h2.fr0 ((Fr.refl _ _).drew.trans f3)).back f1⟩
   ·have hb:(Wit.dig wd Wit.asIs t == root)=false:=by rw[bFn];exact hd
    simp -implicitDefEqProofs only[go_sem,jF,jB,gLa,gLz,gLs,eq,hb,bSe,qD,if_false,if_true];rw[if_neg hd];exact⟨f03,rfl⟩
end R
namespace Wit
theorem layN_le (w:Int):∀ (near:List Bs) (h:Nat) (b s:Bs),All32 near→(layN w h b s near).1.length=b.length∧(layN w h b s near).2.length≤s.length+32*near.length
 | [],_,_,_,_=>⟨rfl,by simp[layN]⟩
 | d::r,h,b,s,ha=>by
  have hd:=ha.head;simp only[layN];split
  ·have:=layN_le w r (h+1) b s ha.tail
   exact⟨this.1,by rw[zH];omega⟩
  ·have:=layN_le w r (h+1) (b.set (h / 8) (b.getD (h / 8) 0 ||| BitVec.ofNat 8 (2 ^ (h % 8)))) (s++d) ha.tail
   rw[List.length_set,lAp]at this;exact⟨this.1,by rw[zH];omega⟩
theorem nearT_le (w:Int)(f:Nat){near:List Bs}(ha:All32 near):(nearT w f near).length≤32+32*near.length:=by
 have:=layN_le w near f (zG 32 0) [] ha;unfold nearT;rw[lAp,this.1];simp only[lRe,List.length_nil]at this ⊢;omega
end Wit
namespace R
def nbI (wd:Int)(W:World)(wb kb:Nat)(n:Nat)(vs:List Value)(w:World):Prop :=
 ∃ (i:Nat) (v:Value),vs=[pt wb 0,pt kb 0,v,.int .i64 (i:Nat)]∧i≤256∧n=256 - i∧NwD W w 23 v (empts wd i)∧No W w
end R
theorem RdR.cutV {k n cap:Nat}{a:Option Addr}{rows:Rows}(h:RdR w k (.slice a n cap) rows){l m:Nat}(hl:l≤m)(hm:m≤n)(hn:rows.length=n):RdR w k (V.cutV k a cap l m) ((rows.drop l).take (m - l)):=by
 subst hn;refine⟨fun r hr=>h.1 r (zN (List.mem_of_mem_take hr)),?_⟩;have e:((rows.drop l).take (m - l)).length=m - l:=by rw[lTk,lDr];omega
 have hfl:∀ (l:Rows) (n:Nat),RowsOk k l→(l.flatten).take (n*k)=(l.take n).flatten∧(l.flatten).drop (n*k)=(l.drop n).flatten:=by
  intro l
  induction l with
  | nil=>intro n _;simp
  | cons r l ih =>
   intro n ho;have hr:=(ho r (by simp)).1
   cases n with
   | zero=>simp
   | succ n =>
    obtain⟨i1,i2⟩:=ih n ho.tail;have e1:(n+1)*k=r.length+n*k:=by rw[hr,Nat.add_mul];omega
    simp only[List.flatten_cons,kJ,List.drop_succ_cons];rw[e1];constructor
    ·rw[List.take_append,zF (by omega),kK,i1]
    ·rw[List.drop_append,List.drop_of_length_le (by omega),kK,i2,List.nil_append]
 have hd:RowsOk k (rows.drop l):=fun r hr=>h.1 r (zN hr);rw[e,← (hfl _ _ hd).1,← (hfl _ _ h.1).2];exact Rd.cutV h.2 hl hm
def enRow (c:Bs × Bs)(vv:Value):List Value:=c.1.map u8++[vv]
def EnR (w:World)(v:Value)(es:List (Bs × Bs)):Prop:=∃ rows,RdR w 33 v rows∧rows.length=es.length∧∀ i (h:i<rows.length) (h':i<es.length),∃ vv,rows[i]=enRow es[i] vv∧es[i].1.length=32∧one vv=true∧By w vv es[i].2
theorem EnR.fr0 (h:EnR w v es)(k:No w w'):EnR w' v es:=by
 obtain⟨rows,h1,h2,h3⟩:=h;refine⟨rows,h1.fr0 k,h2,fun i a b=>?_⟩;obtain⟨vv,e,l,o,y⟩:=h3 i a b;exact⟨vv,e,l,o,y.fr0 k⟩
theorem EnR.slice (h:EnR w v es):∃ a cap,v=.slice a es.length cap∧es.length≤cap:=by
 obtain⟨rows,h1,h2,_⟩:=h;rw[← h2];exact h1.slice
theorem EnR.cutV {a:Option Addr}(h:EnR w (.slice a n cap) es){l m:Nat}(hl:l≤m)(hm:m≤n)(hn:es.length=n):EnR w (V.cutV 33 a cap l m) ((es.drop l).take (m - l)):=by
 obtain⟨rows,h1,h2,h3⟩:=h;refine⟨_,h1.cutV hl hm (by omega),by simp[h2],fun i a b=>?_⟩;simp only[List.getElem_take,List.getElem_drop];rw[lTk,lDr]at a b;exact h3 (l+i) (by omega) (by omega)
theorem EnR.at (h:EnR w v es){i:Nat}(hi:i<es.length):∃ b o cap vv, v=.slice (some ⟨b, o, Option.none⟩) es.length cap∧es.length≤cap∧es[i].1.length=32∧one vv=true∧By w vv es[i].2 ∧
  ∀ w',No w w'→rdO prog 34 w' b (o+i*33)=some (dg es[i].1)∧rdO prog 25 w' b (o+i*33+32)=some vv∧rdO prog 65 w' b (o+i*33)=some (.agg (enRow es[i] vv).toArray):=by
 obtain⟨rows,hR,h2,h3⟩:=h;have hir:i<rows.length:=by omega
 obtain⟨vv,he,hl,ho,hb⟩:=h3 i hir hi;obtain⟨b,o,cap,rfl,hc⟩:=hR.pos (by decide) (by omega);refine⟨b,o,cap,vv,by rw[h2],by omega,hl,ho,hb,fun w' k=>⟨?_,?_,?_⟩⟩
 ·refine (hR.fr0 k).sub agg34 sz34 (by decide) hir (j:=0) (by decide) (xs:=es[i].1.map u8) (by simp[hl]) fun q hq=>?_
  rw[he,Nat.zero_add,enRow,List.getElem?_append_left (by simp[hl];omega)]
 ·refine (hR.fr0 k).fld agg25 hir (by decide) ?_
  rw[he,enRow,List.getElem?_append_right (by simp[hl])];simp[hl]
 ·rw[← he];exact (hR.fr0 k).get agg65 sz65 (by decide) hir
namespace R
def cwI (w0:World)(wd:Int)(esv:Value)(k full:Bs)(n:Nat)(m:Nat)(vs:List Value)(w:World):Prop :=
 ∃ (h:Nat) (d:Bs),vs=[esv,.int .i64 wd,pt w0.heap.size 0,pt (w0.heap.size+1) 0,pt (w0.heap.size+2) 0,.int .i64 (n:Nat),.int .i64 (h:Nat)]∧h≤n∧m=n - h∧d.length=32∧full=climb wd k h d (((empts wd 257).drop h).take (n - h)) ∧
  w.heap[w0.heap.size]?=some (.cells (bl k) 34 (0,0))∧w.heap[w0.heap.size+1]?=some (.cells (bl d) 23 (0,0))∧w.heap[w0.heap.size+2]?=some (.cells (bl (zG 32 0)) 23 (0,0))∧No w0 w
theorem climbWith (w0:World)(ht:Tabs w0)(wd:Int)(he:RdD w0 esv (empts wd 257))(hk:k.length=32){d:Bs}(hd:d.length=32)(hn:n≤256) :
  Fn prog 102 #[esv,.int .i64 wd,dg k,.int .i64 0,dg d,.int .i64 (n:Nat)] w0 fun v w'=>v=dg (climb wd k 0 (cutD wd d) ((empts wd 257).take n))∧No w0 w':=by
 refine go102 (by simp) ?_;obtain⟨W,hW,f1,k1,k2,k3,s1⟩:=qZw w0 (bl k) 34 (bl d) 23 (bl (zG 32 0)) 23;simp -implicitDefEqProofs only[go_sem,jF,vJ,Tryz.f102,jM,qQj,hW];refine qQa pl164 ((within W 0 0 256 (by decide)).mono ?_);rintro _ w2 ⟨rfl,rfl⟩;simp -implicitDefEqProofs only[go_sem,jF];refine qQa pl164 ((within w2 n 0 256 (by decide)).mono ?_);rintro _ w3 ⟨rfl,rfl⟩;have m1:max (0:Int) (min 0 256)=((0:Nat):Int):=rfl;have m2:max (0:Int) (min (n:Int) 256)=(n:Int):=by omega
 have r3:=rd_d agg23 sz23 k2 hd;simp -implicitDefEqProofs only[go_sem,jF,r3,m1,m2];refine qQa pl163 ((dcut w3 wd hd).mono ?_);rintro _ w4 ⟨rfl,f4⟩;have lc:=qXr wd d;have q5:=wr_d sz23 (f4.at k2 id) hd lc;have k5:=qQf (o:=.cells (bl (cutD wd d)) 23 (0,0)) (f4.at k2 id);have k51:=qQr (b:=w0.heap.size+1) (o:=.cells (bl (cutD wd d)) 23 (0,0)) (f4.at k1 id) (by omega);have k53:=qQr (b:=w0.heap.size+1) (o:=.cells (bl (cutD wd d)) 23 (0,0)) (f4.at k3 id) (by omega);have f5:No w0 (put w4 (w0.heap.size+1) (.cells (bl (cutD wd d)) 23 (0,0))):=(f1.trans f4).put (b:=w0.heap.size+1) _ fun h=>by omega
 simp -implicitDefEqProofs only[go_sem,jF,q5];generalize put w4 (w0.heap.size+1) (.cells (bl (cutD wd d)) 23 (0,0))=w5 at *;generalize hfull:climb wd k 0 (cutD wd d) ((empts wd 257).take n)=full;refine loopD [0,1,8,10,12,14,15] (cwI w0 wd esv k full n) n ⟨0,cutD wd d,rfl,by omega,rfl,lc,by rw[List.drop_zero,Nat.sub_zero,hfull],k51,k5,k53,f5⟩ ?_;clear r3 q5 k5 k51 k53 f5 f4 hfull;rintro _ vs w6 g ⟨h,x,rfl,hh,rfl,hx,hf,j1,j2,j3,f6⟩
 by_cases hlt:h<n
 ·have d1:=dTo ((h:Int)<(n:Int))
  have c1:=iSu (i:=h);have c2:IntKind.i64.wrap (255 - (h:Int))=((255 - h:Nat):Int):=qXl (a:=255) (by omega) (by omega);have rk:=rd_d agg34 sz34 j1 hk;simp -implicitDefEqProofs only[go_sem,jF,d1,rk,c2];refine qQa pl165 ((bit w6 hk (i:=255 - h) (by omega)).mono ?_);rintro _ w7 ⟨rfl,f7⟩;have he7:=he.fr0 (f6.trans f7);obtain⟨eb,eo,ec,rfl,_,_⟩:=he7.pos (by rw[qQm];decide);have re:=he7.get (P:=prog) agg23 sz23 (i:=h) (by rw[qQm];omega);rw[gDq,qXw wd 257 (by omega),Option.getD_some]at re;have red:rdO prog 23 w7.drew eb (eo+h*32)=_:=re;have y1:(0:Int)≤(h:Int)∧(h:Int)<(((empts wd 257).length:Nat):Int):=by rw[qQm];omega
  have hdh:=qQp wd h;have k71:=f7.at j1 id;have k72:=f7.at j2 id;have k73:=f7.at j3 id;have rd7:=rd_d agg23 sz23 k72 hx;have rd7d:rdO prog 23 w7.drew (w0.heap.size+1) 0=_:=rd7
  have hst:((empts wd 257).drop h).take (n - h)=emptD wd h::((empts wd 257).drop (h+1)).take (n - (h+1)):=by
   rw[List.drop_eq_getElem_cons (by rw[qQm];omega),show n - h=(n - (h+1))+1 by omega,kJ]
   congr 1
   have:=qXw wd 257 (i:=h) (by omega);rw[List.getElem?_eq_getElem (by rw[qQm];omega)]at this;exact Option.some.inj this
  rw[hst,climb]at hf;unfold up at hf;unfold kb
  by_cases hbit:kbit k (255 - h)=true
  ·rw[if_pos hbit]at hf
   rw[if_pos hbit];have d0:((1:Int) == 0)=false:=rfl;simp -implicitDefEqProofs only[go_sem,jF,d0,y1,and_self,iTn,red,rd7d];refine qQa pl100 ((branch w7.drew (ht.no (f6.trans f7).drew) wd hdh hx).mono ?_);rintro _ w8 ⟨rfl,f8⟩;have lb:(qQv wd (emptD wd h) x).length=32:=qQz _ _ _;have f78:No w7 w8:=(Fr.refl _ _).drew.trans f8;have q9:=wr_d sz23 (f78.at k72 id) hx lb;simp -implicitDefEqProofs only[go_sem,jF,q9,c1];exact⟨n - (h+1),by omega,h+1,_,rfl,by omega,rfl,lb,hf,qQr (f78.at k71 id) (by omega),qQf (f78.at k72 id),qQr (f78.at k73 id) (by omega),((f6.trans f7).trans f78).put (b:=w0.heap.size+1) _ fun h=>by omega⟩
  ·rw[if_neg hbit]at hf
   rw[if_neg hbit];have d0:((0:Int) == 0)=true:=rfl;simp -implicitDefEqProofs only[go_sem,jF,d0,y1,and_self,iTn,red,rd7d];refine qQa pl100 ((branch w7.drew (ht.no (f6.trans f7).drew) wd hx hdh).mono ?_);rintro _ w8 ⟨rfl,f8⟩;have lb:(qQv wd x (emptD wd h)).length=32:=qQz _ _ _;have f78:No w7 w8:=(Fr.refl _ _).drew.trans f8;have q9:=wr_d sz23 (f78.at k72 id) hx lb;simp -implicitDefEqProofs only[go_sem,jF,q9,c1];exact⟨n - (h+1),by omega,h+1,_,rfl,by omega,rfl,lb,hf,qQr (f78.at k71 id) (by omega),qQf (f78.at k72 id),qQr (f78.at k73 id) (by omega),((f6.trans f7).trans f78).put (b:=w0.heap.size+1) _ fun h=>by omega⟩
 ·have d1:=dFo ((h:Int)<(n:Int))
  obtain rfl:h=n:=by omega
  rw[Nat.sub_self,List.take_zero]at hf;have hf:full=x:=hf;subst hf;have rd6:=rd_d agg23 sz23 j2 hx;have q7:=wr_d sz23 j3 zl32 hx;have r7:=rd_d agg23 sz23 (qQf (o:=.cells (bl full) 23 (0,0)) j3) hx;simp -implicitDefEqProofs only[go_sem,jF,d1,rd6,q7,r7];exact f6.put (b:=w0.heap.size+2) _ fun h=>by omega
end R
namespace R
theorem leaf_cut (wd:Int)(k v:Bs):cutD wd (leafD wd k v)=leafD wd k v:=Wit.hcut_tdy wd _
theorem digest1 (w0:World)(ht:Tabs w0)(wd:Int)(he:RdD w0 esv (empts wd 257)){e:Bs × Bs}(hm:EnR w0 mv [e])(hl:e.2.length≤549755813888)(hn:n≤256) :
  Fn prog 58 #[.int .i64 wd,esv,mv,.int .i64 (n:Nat)] w0 fun v w'=>v=dg (climb wd e.1 0 (leafD wd e.1 e.2) ((empts wd 257).take (256 - n)))∧No w0 w':=by
 refine go58 (by simp) ?_;obtain⟨W,hW,f1,k1,s1⟩:=qQs w0 (bl (zG 32 0)) 23;obtain⟨b,o,cap,vv,rfl,hc,hk,hone,hby,hrd⟩:=(hm.fr0 f1).at (i:=0) (by simp);simp only[kZ]at hk hby hrd;have d1:(((([e]:List (Bs × Bs)).length:Nat):Int) == 0)=false:=rfl;have d2:(((([e]:List (Bs × Bs)).length:Nat):Int) == 1)=true:=rfl;have y1:(0:Int)≤0∧(0:Int)<((([e]:List (Bs × Bs)).length:Nat):Int):=by simp
 obtain⟨r1,r2,_⟩:=hrd W (Fr.refl _ _);obtain⟨r1d,r2d,_⟩:=hrd W.drew (Fr.refl _ _).drew;rw[jA,jO]at r1 r2 r1d r2d;simp -implicitDefEqProofs only[go_sem,jF,vJ,gLa,gLz,Tryz.f58,jM,qQj,hW,d1,d2];refine qJo (fun j=>j == 9 || j == 10) (.one 0 (.one 1 (.one 2 (.one 3 (.one 4 (.one 5 (.one 6 (.one 7 (.one 8 (.two 9 (.row [10,11]) 10 (.row [9,11]))))))))))) rfl (by kernel_rfl) (by kernel_rfl) ?_;have ll:(leafD wd e.1 e.2).length=32:=qZb _ _ _;have lc:(climb wd e.1 0 (leafD wd e.1 e.2) ((empts wd 257).take (256 - n))).length=32:=qJa _ _ _ _ _ ll;have c1:IntKind.i64.wrap (256 - (n:Int))=((256 - n:Nat):Int):=qXl (a:=256) (by omega) (by omega);simp -implicitDefEqProofs only[go_sem,jF,jB,gLa,gLz,gLs,y1,and_self,vL,jA,jO,r1d,r2d,bSe,OT.row,jM,qQj];constructor
 ·refine qQn pl101 ((leaf W.drew (ht.no f1.drew) wd hk (val:=e.2) (hby.fr0 (Fr.refl _ _).drew) hl).mono ?_)
  rintro _ w2 ⟨rfl,f2⟩;refine⟨fun _=>Fr.ext f2,?_⟩;have f12:No W w2:=(Fr.refl _ _).drew.trans f2;obtain⟨W3,q3,k3,f3,s3⟩:=allocD w2 (ty:=23) sz23 ll;have f13:=f12.trans f3;have f03:=f1.trans f13;obtain⟨r1,r2,_⟩:=hrd W3 f13;obtain⟨r1d,r2d,_⟩:=hrd W3.drew f13.drew;rw[jA,jO]at r1 r2 r1d r2d;have r3:=rd_d agg23 sz23 k3 ll;have r3d:rdO prog 23 W3.drew w2.heap.size 0=_:=r3;simp -implicitDefEqProofs only[go_sem,jF,jB,gLa,gLz,gLs,jM,qQj,q3,y1,and_self,vL,jA,jO,r1d,r3d,c1,bSe];refine qQa pl102 ((climbWith W3.drew (ht.no f03.drew) wd (he.fr0 f03.drew) hk ll (n:=256 - n) (by omega)).mono ?_);rintro _ w4 ⟨rfl,f4⟩;rw[leaf_cut];have k4:=(f13.drew.trans f4).at k1 id;have q5:=wr_d sz23 k4 zl32 lc;have r5:=rd_d agg23 sz23 (qQf (o:=.cells (bl (climb wd e.1 0 (leafD wd e.1 e.2) ((empts wd 257).take (256 - n)))) 23 (0,0)) k4) lc;simp -implicitDefEqProofs only[go_sem,jF,q5,r5];exact (f03.drew.trans f4).put (b:=w0.heap.size) _ fun h=>by omega
 ·obtain⟨W2,hW2,f2,k2,s2⟩:=qQs W.drew (bl (zG 32 0)) 23
  simp only[hW2];have f12:No W W2:=(Fr.refl _ _).drew.trans f2;refine qQn pl101 ((leaf W2 (ht.no (f1.trans f12)) wd hk (val:=e.2) (hby.fr0 f12) hl).mono ?_);rintro _ w3' ⟨rfl,f3'⟩;refine⟨fun _=>Fr.ext f3',?_⟩;have k2':=f3'.at k2 id
  obtain⟨W3,q3,k3,f13⟩:∃ W3,wrO prog 23 w3' W.heap.size 0 (dg (leafD wd e.1 e.2))=some W3∧W3.heap[W.heap.size]?=some (.cells (bl (leafD wd e.1 e.2)) 23 (0,0))∧No W W3 :=
   ⟨_,wr_d sz23 k2' zl32 ll,qQf k2',(f12.trans f3').put (b:=W.heap.size) _ fun h=>absurd h (Nat.lt_irrefl _)⟩
  have f03:=f1.trans f13;obtain⟨r1,r2,_⟩:=hrd W3 f13;obtain⟨r1d,r2d,_⟩:=hrd W3.drew f13.drew;rw[jA,jO]at r1 r2 r1d r2d;have r3:=rd_d agg23 sz23 k3 ll;have r3d:rdO prog 23 W3.drew W.heap.size 0=_:=r3;simp -implicitDefEqProofs only[go_sem,jF,jB,gLa,gLz,gLs,q3,y1,and_self,vL,jA,jO,r1d,r3d,c1];refine qQa pl102 ((climbWith W3.drew (ht.no f03.drew) wd (he.fr0 f03.drew) hk ll (n:=256 - n) (by omega)).mono ?_);rintro _ w4 ⟨rfl,f4⟩;rw[leaf_cut];have k4:=(f13.drew.trans f4).at k1 id;have q5:=wr_d sz23 k4 zl32 lc;have r5:=rd_d agg23 sz23 (qQf (o:=.cells (bl (climb wd e.1 0 (leafD wd e.1 e.2) ((empts wd 257).take (256 - n)))) 23 (0,0)) k4) lc;simp -implicitDefEqProofs only[go_sem,jF,q5,r5];exact (f03.drew.trans f4).put (b:=w0.heap.size) _ fun h=>by omega
end R
namespace R
def spI (w0:World)(mv:Value)(m:Nat)(vs:List Value)(w:World):Prop:=∃ (k:Nat),vs=[mv,.int .i64 0,.int .i64 (k:Nat)]∧k≤1∧m=1 - k∧No w0 w
theorem split2 (w0:World)(hm:EnR w0 mv [e1, e2])(h1:kbit e1.1 0=false)(h2:kbit e2.1 0=true) :
  Fn prog 103 #[mv,.int .i64 0] w0 fun v w'=>v=.int .i64 1∧No w0 w':=by
 refine go103 (by simp) ?_;obtain⟨b,o,cap,vv1,rfl,hc,hk1,_,_,hrd1⟩:=hm.at (i:=0) (by simp);obtain⟨b',o',cap',vv2,e,_,hk2,_,_,hrd2⟩:=hm.at (i:=1) (by simp);cases e;simp only[kZ,List.getElem_cons_succ]at hk1 hk2 hrd1 hrd2;simp -implicitDefEqProofs only[go_sem,Tryz.f103];refine loopD [0,1,5] (spI w0 (.slice (some ⟨b,o,.none⟩) ([e1,e2]:List (Bs × Bs)).length cap)) 1 ⟨0,rfl,by omega,rfl,Fr.refl _ _⟩ ?_;rintro _ vs w g ⟨k,rfl,hk,rfl,f⟩
 rcases Nat.lt_or_ge k 1 with h | h
 ·obtain rfl:k=0:=by omega
  have d1:decide (((0:Nat):Int)<((([e1,e2]:List (Bs × Bs)).length:Nat):Int))=true:=rfl;have y1:(0:Int)≤((0:Nat):Int)∧((0:Nat):Int)<((([e1,e2]:List (Bs × Bs)).length:Nat):Int):=by simp
  have r1:=(hrd1 w f).1;have c1:IntKind.i64.wrap (((0:Nat):Int)+1)=((1:Nat):Int):=rfl;rw[jA,jO]at r1;simp -implicitDefEqProofs only[go_sem,jF,gLa,gLz,gLs,y1,and_self,iTn,jA,jO,r1,decide_true,bSe];refine qQa pl166 ((bit3 w hk1 (i:=0) (by decide)).mono ?_);rintro _ w2 ⟨rfl,f2⟩;have hb:kb e1.1 0=0:=by unfold kb;rw[h1];rfl
  rw[hb];simp -implicitDefEqProofs only[go_sem,jF,gLa,gLz,gLs,bSe,c1];exact⟨0,by omega,1,rfl,by omega,rfl,f.trans f2⟩
 ·obtain rfl:k=1:=by omega
  have d1:decide (((1:Nat):Int)<((([e1,e2]:List (Bs × Bs)).length:Nat):Int))=true:=rfl;have y1:(0:Int)≤((1:Nat):Int)∧((1:Nat):Int)<((([e1,e2]:List (Bs × Bs)).length:Nat):Int):=by simp
  have r1:=(hrd2 w f).1;simp -implicitDefEqProofs only[go_sem,jF,gLa,gLz,gLs,y1,and_self,iTn,r1,decide_true,bSe];refine qQa pl166 ((bit3 w hk2 (i:=0) (by decide)).mono ?_);rintro _ w2 ⟨rfl,f2⟩;have hb:kb e2.1 0=1:=by unfold kb;rw[h2];rfl
  have d0:((1:Int) == 0)=false:=rfl;rw[hb];simp -implicitDefEqProofs only[go_sem,jF,gLa,gLz,gLs,bSe,d0];exact⟨rfl,f.trans f2⟩
def Lone (wd:Int)(e:Bs × Bs)(n:Nat)(x:Bs):Prop:=x=climb wd e.1 0 (leafD wd e.1 e.2) ((empts wd 257).take n)
theorem Lone.len {e:Bs × Bs}{x:Bs}(h:Lone wd e n x):x.length=32:=by rw[h];exact qJa _ _ _ _ _ (qZb _ _ _)
theorem digestX (w0:World)(ht:Tabs w0)(wd:Int)(he:RdD w0 esv (empts wd 257)){e:Bs × Bs}(hm:EnR w0 mv [e])(hl:e.2.length≤549755813888)(hn:n≤256){x:Bs}(hx:Lone wd e (256 - n) x) :
  Fn prog 58 #[.int .i64 wd,esv,mv,.int .i64 (n:Nat)] w0 fun v w'=>v=dg x∧No w0 w':=by
 rw[hx];exact digest1 w0 ht wd he hm hl hn
theorem digest2 (w0:World)(ht:Tabs w0)(wd:Int)(he:RdD w0 esv (empts wd 257))(hm:EnR w0 mv [e1, e2])(h1:kbit e1.1 0=false)(h2:kbit e2.1 0=true)(hl1:e1.2.length≤549755813888)(hl2:e2.2.length≤549755813888)
  (hx1:Lone wd e1 255 x1) (hx2:Lone wd e2 255 x2) :
  Fn prog 58 #[.int .i64 wd,esv,mv,.int .i64 0] w0 fun v w'=>v=dg (qQv wd x1 x2)∧No w0 w':=by
 refine go58 (by simp) ?_;have l1:=hx1.len;have l2:=hx2.len;obtain⟨W,hW,f1,k1,s1⟩:=qQs w0 (bl (zG 32 0)) 23;obtain⟨a,cap,rfl,hc⟩:=hm.slice;have hc:2≤cap:=hc;have d1:(((([e1,e2]:List (Bs × Bs)).length:Nat):Int) == 0)=false:=rfl;have d2:(((([e1,e2]:List (Bs × Bs)).length:Nat):Int) == 1)=false:=rfl;simp -implicitDefEqProofs only[go_sem,jF,vJ,gLa,gLz,Tryz.f58,jM,qQj,hW,d1,d2];refine qQa pl103 ((split2 W (hm.fr0 f1) h1 h2).mono ?_);rintro _ w2 ⟨rfl,f2⟩;have f02:=f1.trans f2;have c1:IntKind.i64.wrap ((0:Int)+1)=((1:Nat):Int):=rfl;have p1:=slc_hi (P:=prog) slc66 arr66 sz65 (a:=a) (n:=([e1,e2]:List (Bs × Bs)).length) (cap:=cap) (l:=1) (by simp) hc;have p2:=slc_lo (P:=prog) slc66 arr66 sz65 (a:=a) (n:=([e1,e2]:List (Bs × Bs)).length) (cap:=cap) (l:=1) (by simp) hc;have p1:qXe prog 66 (.slice a ([e1,e2]:List (Bs × Bs)).length cap) .none (some (.int .i64 1)) .none=some (cutV 33 a cap 0 1):=p1;have p2:qXe prog 66 (.slice a ([e1,e2]:List (Bs × Bs)).length cap) (some (.int .i64 1)) .none .none=some (cutV 33 a cap 1 2):=p2;have m1:EnR w0 (cutV 33 a cap 0 1) [e1]:=hm.cutV (l:=0) (m:=1) (by decide) (by simp) rfl;have m2:EnR w0 (cutV 33 a cap 1 2) [e2]:=hm.cutV (l:=1) (m:=2) (by decide) (by simp) rfl;simp -implicitDefEqProofs only[go_sem,jF,p1,c1];refine qQa pl58 ((digestX w2 (ht.no f02) wd (he.fr0 f02) (m1.fr0 f02) hl1 (n:=1) (by decide) hx1).mono ?_);rintro _ w3 ⟨rfl,f3⟩;obtain⟨W4,q4,k4,f4,s4⟩:=allocD w3 (ty:=23) sz23 l1;have f04:=(f02.trans f3).trans f4;simp -implicitDefEqProofs only[go_sem,jF,jM,qQj,q4,p2,c1];refine qQa pl58 ((digestX W4 (ht.no f04) wd (he.fr0 f04) (m2.fr0 f04) hl2 (n:=1) (by decide) hx2).mono ?_);rintro _ w5 ⟨rfl,f5⟩;obtain⟨W6,q6,k6,f6,s6⟩:=allocD w5 (ty:=23) sz23 l2;have f06:=(f04.trans f5).trans f6;have r6:=rd_d agg23 sz23 k6 l2
 have r4:=rd_d agg23 sz23 ((f5.trans f6).at k4 id) l1;simp -implicitDefEqProofs only[go_sem,jF,jM,qQj,q6,r4,r6];refine qQa pl100 ((branch W6 (ht.no f06) wd l1 l2).mono ?_);rintro _ w7 ⟨rfl,f7⟩;have lb:(qQv wd x1 x2).length=32:=qQz _ _ _;have k7:=(((((f2.trans f3).trans f4).trans f5).trans f6).trans f7).at k1 id;have q8:=wr_d sz23 k7 zl32 lb;have r8:=rd_d agg23 sz23 (qQf (o:=.cells (bl (qQv wd x1 x2)) 23 (0,0)) k7) lb;simp -implicitDefEqProofs only[go_sem,jF,q8,r8];exact (f06.trans f7).put (b:=w0.heap.size) _ fun h=>by omega
theorem root2 (w0:World)(ht:Tabs w0)(wd:Int)(hm:EnR w0 mv [e1, e2])(h1:kbit e1.1 0=false)(h2:kbit e2.1 0=true)(hl1:e1.2.length≤549755813888)(hl2:e2.2.length≤549755813888)
  (hx1:Lone wd e1 255 x1) (hx2:Lone wd e2 255 x2) :
  Fn prog 31 #[.int .i64 wd,mv] w0 fun v w'=>v=dg (qQv wd x1 x2)∧No w0 w':=by
 refine go31 (by simp) ?_;obtain⟨W,hW,f1,k1,s1⟩:=qQs w0 (bl (zG 32 0)) 23;simp -implicitDefEqProofs only[go_sem,jF,Tryz.f31,jM,qQj,hW];refine qQa pl57 ((empties W (ht.no f1) wd).mono ?_);rintro ev w2 ⟨n2,f2⟩;have f02:=f1.trans f2;simp -implicitDefEqProofs only[go_sem,jF];refine qQa pl58 ((digest2 w2 (ht.no f02) wd n2.rd (hm.fr0 f02) h1 h2 hl1 hl2 hx1 hx2).mono ?_);rintro _ w3 ⟨rfl,f3⟩;have lb:(qQv wd x1 x2).length=32:=qQz _ _ _;have k3:=(f2.trans f3).at k1 id;have q4:=wr_d sz23 k3 zl32 lb;have r4:=rd_d agg23 sz23 (qQf (o:=.cells (bl (qQv wd x1 x2)) 23 (0,0)) k3) lb;simp -implicitDefEqProofs only[go_sem,jF,q4,r4];exact (f02.trans f3).put (b:=w0.heap.size) _ fun h=>by omega
end R
namespace R
theorem digest12 (w0:World)(ht:Tabs w0)(wd:Int)(he:RdD w0 esv (empts wd 257)){e:Bs × Bs}(hm:EnR w0 mv [e])(hl:e.2.length≤549755813888)(hn:n≤256) :
  Fn prog 178 #[esv,.int .i64 wd,mv,.int .i64 (n:Nat)] w0 fun v w'=>v=dg (climb wd e.1 0 (leafD wd e.1 e.2) ((empts wd 257).take n))∧No w0 w':=by
 refine go178 (by simp) ?_;obtain⟨W,hW,f1,k1,s1⟩:=qQs w0 (bl (zG 32 0)) 23;obtain⟨b,o,cap,vv,rfl,hc,hk,hone,hby,hrd⟩:=(hm.fr0 f1).at (i:=0) (by simp);simp only[kZ]at hk hby hrd;have d1:(((([e]:List (Bs × Bs)).length:Nat):Int) == 0)=false:=rfl;have d2:(((([e]:List (Bs × Bs)).length:Nat):Int) == 1)=true:=rfl;have y1:(0:Int)≤0∧(0:Int)<((([e]:List (Bs × Bs)).length:Nat):Int):=by simp
 obtain⟨r1,r2,_⟩:=hrd W (Fr.refl _ _);obtain⟨r1d,r2d,_⟩:=hrd W.drew (Fr.refl _ _).drew;rw[jA,jO]at r1 r2 r1d r2d;simp -implicitDefEqProofs only[go_sem,jF,vJ,gLa,gLz,Tryz.f178,jM,qQj,hW,d1,d2];refine qJo (fun j=>j == 9 || j == 10) (.one 0 (.one 1 (.one 2 (.one 3 (.one 4 (.one 5 (.one 6 (.one 7 (.one 8 (.two 9 (.row [10,11]) 10 (.row [9,11]))))))))))) rfl (by kernel_rfl) (by kernel_rfl) ?_;have ll:(leafD wd e.1 e.2).length=32:=qZb _ _ _;have lc:(climb wd e.1 0 (leafD wd e.1 e.2) ((empts wd 257).take n)).length=32:=qJa _ _ _ _ _ ll;simp -implicitDefEqProofs only[go_sem,jF,jB,gLa,gLz,gLs,y1,and_self,vL,jA,jO,r1d,r2d,bSe,OT.row,jM,qQj];constructor
 ·refine qQn pl101 ((leaf W.drew (ht.no f1.drew) wd hk (val:=e.2) (hby.fr0 (Fr.refl _ _).drew) hl).mono ?_)
  rintro _ w2 ⟨rfl,f2⟩;refine⟨fun _=>Fr.ext f2,?_⟩;have f12:No W w2:=(Fr.refl _ _).drew.trans f2;obtain⟨W3,q3,k3,f3,s3⟩:=allocD w2 (ty:=23) sz23 ll;have f13:=f12.trans f3;have f03:=f1.trans f13;obtain⟨r1,r2,_⟩:=hrd W3 f13;obtain⟨r1d,r2d,_⟩:=hrd W3.drew f13.drew;rw[jA,jO]at r1 r2 r1d r2d;have r3:=rd_d agg23 sz23 k3 ll;have r3d:rdO prog 23 W3.drew w2.heap.size 0=_:=r3;simp -implicitDefEqProofs only[go_sem,jF,jB,gLa,gLz,gLs,jM,qQj,q3,y1,and_self,vL,jA,jO,r1d,r3d,bSe];refine qQa pl102 ((climbWith W3.drew (ht.no f03.drew) wd (he.fr0 f03.drew) hk ll (n:=n) hn).mono ?_);rintro _ w4 ⟨rfl,f4⟩;rw[leaf_cut];have k4:=(f13.drew.trans f4).at k1 id;have q5:=wr_d sz23 k4 zl32 lc;have r5:=rd_d agg23 sz23 (qQf (o:=.cells (bl (climb wd e.1 0 (leafD wd e.1 e.2) ((empts wd 257).take n))) 23 (0,0)) k4) lc;simp -implicitDefEqProofs only[go_sem,jF,q5,r5];exact (f03.drew.trans f4).put (b:=w0.heap.size) _ fun h=>by omega
 ·obtain⟨W2,hW2,f2,k2,s2⟩:=qQs W.drew (bl (zG 32 0)) 23
  simp only[hW2];have f12:No W W2:=(Fr.refl _ _).drew.trans f2;refine qQn pl101 ((leaf W2 (ht.no (f1.trans f12)) wd hk (val:=e.2) (hby.fr0 f12) hl).mono ?_);rintro _ w3' ⟨rfl,f3'⟩;refine⟨fun _=>Fr.ext f3',?_⟩;have k2':=f3'.at k2 id
  obtain⟨W3,q3,k3,f13⟩:∃ W3,wrO prog 23 w3' W.heap.size 0 (dg (leafD wd e.1 e.2))=some W3∧W3.heap[W.heap.size]?=some (.cells (bl (leafD wd e.1 e.2)) 23 (0,0))∧No W W3 :=
   ⟨_,wr_d sz23 k2' zl32 ll,qQf k2',(f12.trans f3').put (b:=W.heap.size) _ fun h=>absurd h (Nat.lt_irrefl _)⟩
  have f03:=f1.trans f13;obtain⟨r1,r2,_⟩:=hrd W3 f13;obtain⟨r1d,r2d,_⟩:=hrd W3.drew f13.drew;rw[jA,jO]at r1 r2 r1d r2d;have r3:=rd_d agg23 sz23 k3 ll;have r3d:rdO prog 23 W3.drew W.heap.size 0=_:=r3;simp -implicitDefEqProofs only[go_sem,jF,jB,gLa,gLz,gLs,q3,y1,and_self,vL,jA,jO,r1d,r3d];refine qQa pl102 ((climbWith W3.drew (ht.no f03.drew) wd (he.fr0 f03.drew) hk ll (n:=n) hn).mono ?_);rintro _ w4 ⟨rfl,f4⟩;rw[leaf_cut];have k4:=(f13.drew.trans f4).at k1 id;have q5:=wr_d sz23 k4 zl32 lc;have r5:=rd_d agg23 sz23 (qQf (o:=.cells (bl (climb wd e.1 0 (leafD wd e.1 e.2) ((empts wd 257).take n))) 23 (0,0)) k4) lc;simp -implicitDefEqProofs only[go_sem,jF,q5,r5];exact (f03.drew.trans f4).put (b:=w0.heap.size) _ fun h=>by omega
def bsI (w0:World)(vv:Value)(bs:Bs)(n:Nat)(vs:List Value)(w:World):Prop :=
 ∃ (i:Nat) (v:Value),vs=[vv,v,.int .i64 (i:Nat)]∧i≤bs.length∧n=bs.length - i∧NwB w0 w v (bs.take i)∧No w0 w
theorem bytes12 (w0:World){vv:Value}{bs:Bs}(hv:By w0 vv bs)(hl:bs.length≤2 ^ 40):Fn prog 135 #[vv] w0 fun v w'=>NwB w0 w' v bs∧No w0 w':=by
 refine go135 (by simp) ?_;obtain⟨va,vc,rfl,hcap⟩:=hv.slice;simp -implicitDefEqProofs only[go_sem,Tryz.f135];refine loopD [0,3,4] (bsI w0 (.slice va bs.length vc) bs) bs.length ⟨0,_,rfl,by omega,rfl,NwB.nil _ _,Fr.refl _ _⟩ ?_;rintro _ vs w3 g ⟨i,v,rfl,hi,rfl,b3,f3⟩
 by_cases hlt:i<bs.length
 ·have d1:=dTo ((i:Int)<((bs.length:Nat):Int))
  have c1:=iSu (i:=i);have y:=iBd (i:=i) (n:=bs.length);obtain⟨b,o,cap,he,r⟩:=(hv.fr0 f3).rd1 hlt;cases he;have hsn:=take_snoc (l:=bs) (i:=i) hlt;obtain⟨v4,w4,hr4,b4,f4,g4,_⟩:=NwB.grow b3 (bs.getD i 0) (by simp;omega) f3;rw[hsn]at b4;generalize bs.getD i 0=x at *;simp -implicitDefEqProofs only[go_sem,jF,gLa,gLz,y,and_self,iTn,Nat.mul_one,r];refine qQl (v:=.slice (some ⟨w3.heap.size,0,none⟩) 1 1) (w':=w3.alloc (.cells (bl [x]) 5)) rfl ?_;simp -implicitDefEqProofs only[go_sem,jF];refine qQg ⟨v4,w4,hr4,?_⟩;simp -implicitDefEqProofs only[go_sem,jF,c1];exact⟨bs.length - (i+1),by omega,i+1,v4,rfl,by omega,rfl,b4,f4⟩
 ·have d1:=dFo ((i:Int)<((bs.length:Nat):Int))
  have e:i=bs.length:=by omega
  subst e;rw[List.take_length]at b3;simp -implicitDefEqProofs only[go_sem,jF,gLa,gLz,d1];exact⟨b3,f3⟩
def pop:Nat→Nat→Nat
 | 0,_=>0
 | n+1,x=>x % 2+pop n (x / 2)
theorem pop_zero (n:Nat):pop n 0=0:=by
 induction n with
 | zero=>rfl
 | succ n ih=>simp[pop,ih]
theorem pop_le:∀ (n x:Nat),pop n x≤n
 | 0,_=>xP _
 | n+1,x=>by have:=pop_le n (x / 2);simp only[pop];omega
def pops (l:Bs):Nat:=(l.map fun x=>pop 8 x.toNat).sum
theorem pops_snoc (l:Bs)(x:Byte):pops (l++[x])=pops l+pop 8 x.toNat:=by simp[pops]
theorem pops_le (l:Bs):pops l≤8*l.length:=by
 induction l with
 | nil=>simp[pops]
 | cons a l ih =>
  have:=pop_le 8 a.toNat;simp only[pops,List.map_cons,List.sum_cons,zH]at *;omega
def onI (w0:World)(bits:Bs)(n:Nat)(vs:List Value)(w:World):Prop :=
 ∃ (i:Nat),vs=[pt w0.heap.size 0,.int .i64 (pops (bits.take i):Nat),.int .i64 (i:Nat)]∧i≤32∧n=32 - i∧w.heap[w0.heap.size]?=some (.cells (bl bits) 22 (0,0))∧No w0 w
def onJ (w1:World)(b s i full:Nat)(n:Nat)(vs:List Value)(w:World):Prop :=
 ∃ (m x c:Nat),vs=[pt b 0,.int .i64 (c:Nat),.int .i64 (i:Nat),.int .i64 (x:Nat)]∧n=m∧x<2 ^ m∧m≤8∧c+m≤1000∧full=c+pop m x∧w=w1
theorem ones (w0:World){bits:Bs}(hb:bits.length=32):Fn prog 127 #[dg bits] w0 fun v w'=>v=.int .i64 (pops bits:Nat)∧No w0 w':=by
 refine go127 (by simp) ?_;obtain⟨W,hW,f1,k1,s1⟩:=qQs w0 (bl bits) 22;simp -implicitDefEqProofs only[go_sem,Tryz.f127,jM,hW];refine loopD [1,3,4] (onI w0 bits) 32 ⟨0,rfl,by omega,rfl,k1,f1⟩ ?_;rintro _ vs w g ⟨i,rfl,hi,rfl,k,f⟩
 by_cases hlt:i<32
 ·have d1:=dTo ((i:Int)<32)
  have c1:=iSu (i:=i);have y:=iBd (i:=i) (n:=32);have r:rdO prog 5 w w0.heap.size i=some (.int .u8 ((bits.getD i 0).toNat:Int)):=rd1 agg5 k (bl_at (by omega));have c2:IntKind.i64.wrap ((bits.getD i 0).toNat:Int)=((bits.getD i 0).toNat:Int):=i64n (by have:=(bits.getD i 0).isLt;omega);have hx:(bits.getD i 0).toNat<2 ^ 8:=(bits.getD i 0).isLt;have htk:bits.take (i+1)=bits.take i++[bits.getD i 0]:=(take_snoc (by omega)).symm;have hpl:=pops_le (bits.take i);have hps:pops (bits.take (i+1))=pops (bits.take i)+pop 8 (bits.getD i 0).toNat:=by rw[htk,pops_snoc]
  rw[lTk]at hpl;generalize (bits.getD i 0).toNat=x at *;generalize pops (bits.take i)=c at *;simp -implicitDefEqProofs only[go_sem,jF,d1,y,and_self,iTn,Nat.mul_one,r,c2];refine loopD [1,3,4,5] (onJ w w0.heap.size 0 i (pops (bits.take (i+1)))) 8 ⟨8,x,c,rfl,rfl,hx,xP _,by omega,hps,rfl⟩ ?_;rintro m vs w2 g2 ⟨m',x,c,rfl,rfl,hx,hm,hc,hf,rfl⟩
  by_cases h0:x=0
  ·subst h0
   have d2:decide (((0:Nat):Int) > 0)=false:=rfl;rw[pop_zero,jO]at hf;subst hf;simp -implicitDefEqProofs only[go_sem,jF,d2,c1];exact⟨32 - (i+1),by omega,i+1,rfl,by omega,rfl,k,f⟩
  ·have d2:=dTo ((x:Int) > 0)
   have n2:((2:Int)=0)=False:=by simp
   cases m with
   | zero=>simp at hx;omega
   | succ m =>
    have c3:IntKind.i64.wrap ((c:Int)+(x:Int).tmod 2)=((c+x % 2:Nat):Int):=by
     rw[show (x:Int).tmod 2=((x % 2:Nat):Int) from rfl];exact qXc
    have hx62:x<2 ^ 62:=Nat.lt_of_lt_of_le hx (Nat.pow_le_pow_right (by decide) (by omega))
    have c4:IntKind.i64.wrap ((x:Int).tdiv 2)=((x / 2:Nat):Int):=by
     rw[show (x:Int).tdiv 2=((x / 2:Nat):Int) from rfl];exact i64n
    simp -implicitDefEqProofs only[go_sem,jF,d2,n2,c3,c4];rw[Nat.pow_succ]at hx;exact⟨m,by omega,m,x / 2,c+x % 2,rfl,rfl,by omega,by omega,by omega,by rw[hf,pop];omega,rfl⟩
 ·have d1:=dFo ((i:Int)<32)
  obtain rfl:i=32:=by omega
  rw[zF (by omega)];simp -implicitDefEqProofs only[go_sem,jF,d1];exact f
def EnN (w0 w:World)(v:Value)(es:List (Bs × Bs)):Prop:=∃ rows,NwR w0 w 65 33 v rows∧rows.length=es.length∧∀ i (h:i<rows.length) (h':i<es.length),∃ vv,rows[i]=enRow es[i] vv∧es[i].1.length=32∧one vv=true∧By w0 vv es[i].2
theorem EnN.rd {w0 w:World}(h:EnN w0 w v es)(k:No w0 w):EnR w v es:=by
 obtain⟨rows,h1,h2,h3⟩:=h;refine⟨rows,h1.rd,h2,fun i a b=>?_⟩;obtain⟨vv,e,l,o,y⟩:=h3 i a b;exact⟨vv,e,l,o,y.fr0 k⟩
theorem EnN.nil (w0 w:World):EnN w0 w (.slice Option.none 0 0) []:=⟨[],NwR.nil _ _ _ _,rfl,fun i h=>absurd h (by simp)⟩
def nbE (k:Bs)(h:Nat)(es:List (Bs × Bs)):List (Bs × Bs):=es.filter fun e=>decide (common e.1 k=255 - h)
def neI (w0:World)(mv:Value)(k:Bs)(h:Nat)(es:List (Bs × Bs))(n:Nat)(vs:List Value)(w:World):Prop :=
 ∃ (i:Nat) (v:Value),vs=[mv,.int .i64 (h:Nat),pt w0.heap.size 0,v,.int .i64 (i:Nat)]∧i≤es.length∧n=es.length - i∧EnN w0 w v (nbE k h (es.take i))∧w.heap[w0.heap.size]?=some (.cells (bl k) 34 (0,0))∧No w0 w∧∀ b,qQb v=some b→b≠w0.heap.size
theorem neighbours12 (w0:World)(hm:EnR w0 mv es)(hl:es.length≤2 ^ 30)(hk:k.length=32){h:Nat}(hh:h<256) :
  Fn prog 177 #[mv,dg k,.int .i64 (h:Nat)] w0 fun v w'=>EnN w0 w' v (nbE k h es)∧No w0 w':=by
 refine go177 (by simp) ?_;obtain⟨W,hW,f1,k1,s1⟩:=qQs w0 (bl k) 34;simp -implicitDefEqProofs only[go_sem,jF,vJ,Tryz.f177,jM,hW];refine loopD [0,2,4,7,8] (neI w0 mv k h es) es.length ⟨0,_,rfl,by omega,rfl,EnN.nil _ _,k1,f1,fun b hb=>(by cases hb)⟩ ?_;rintro _ vs w g ⟨i,v,rfl,hi,rfl,hv,kk,f,hne⟩;obtain⟨ma,mc,rfl,hmc⟩:=hm.slice
 by_cases hlt:i<es.length
 ·have d1:=dTo ((i:Int)<((es.length:Nat):Int))
  have c1:=iSu (i:=i);have y:=iBd (i:=i) (n:=es.length);obtain⟨b,o,cap,vv,e,_,hkl,hone,hby,hrd⟩:=hm.at hlt;cases e;have htk:es.take (i+1)=es.take i++[es[i]]:=by rw[tSg hlt]
  have hnb:nbE k h (es.take (i+1))=nbE k h (es.take i)++nbE k h [es[i]]:=by rw[htk];exact List.filter_append _ _
  have hlen:(nbE k h (es.take i)).length≤2 ^ 30:=by have:=List.length_filter_le (fun e:Bs × Bs=>decide (common e.1 k=255 - h)) (es.take i);rw[lTk]at this;unfold nbE;omega
  have r1:=(hrd w f).1;have r1d:rdO prog 34 w.drew b (o+i*33)=_:=r1;have rk:=rd_d agg34 sz34 kk hk;have rkd:rdO prog 34 w.drew w0.heap.size 0=_:=rk;generalize es[i]=x at *;simp -implicitDefEqProofs only[go_sem,jF,gLa,gLz,y,and_self,iTn,r1d,rkd];refine qQa pl207 ((common3 w.drew hkl hk).mono ?_);rintro _ w2 ⟨rfl,f2⟩;have fw:No w w2:=(Fr.refl _ _).drew.trans f2;have f02:=f.trans fw;have c2:IntKind.i64.wrap (255 - (h:Int))=((255 - h:Nat):Int):=qXl (a:=255) (by omega) (by omega);obtain⟨rows,hR,hRl,hRr⟩:=hv
  by_cases hc:common x.1 k=255 - h
  ·have d2:(((common x.1 k:Nat):Int) == ((255 - h:Nat):Int))=true:=by rw[hc];simp
   have hn1:nbE k h [x]=[x]:=by simp[nbE,hc]
   rw[hn1]at hnb;have r3:=(hrd w2 f02).2.2;have r3d:rdO prog 65 w2.drew b (o+i*33)=_:=r3;have hsz:(enRow x vv).length=33:=by simp[enRow,hkl]
   have hall:(enRow x vv).all one=true:=by simp only[enRow,List.all_append,List.all_cons,List.all_nil,hone,qXs];rfl
   simp -implicitDefEqProofs only[go_sem,jF,d2,c2,y,and_self,iTn,r3];refine qQl (v:=.slice (some ⟨w2.heap.size,0,.none⟩) 1 1) (w':=w2.alloc (.cells (enRow x vv).toArray 65)) (qKh (K:=33) (by decide) (by decide) (y:=zG 32 (.int .u8 0)++[.slice .none 0 0]) rfl rfl (by rw[List.size_toArray,hsz]) _) ?_;have hR2:=hR.fr0 fw;obtain⟨v3,w3,hr3,b3,g3,h3⟩:=hR2.push app66_66 hsz hall (by decide) (by omega) (by omega) f02.size;have f3:No w0 w3:=f02.trans' g3 fun b hb h=>by have:=(hR2.lt h).1;omega
   simp -implicitDefEqProofs only[go_sem,jF];refine qQg ⟨v3,w3,hr3,?_⟩;simp -implicitDefEqProofs only[go_sem,jF,c1];refine⟨es.length - (i+1),by omega,i+1,v3,rfl,by omega,rfl,⟨_,b3,by rw[lAp,hnb,lAp,hRl];rfl,fun j hj hj'=>?_⟩,g3.at (fw.at kk id) fun h=>hne _ h rfl,f3,fun c hc h=>?_⟩
   ·simp only[hnb]
    by_cases hjl:j<rows.length
    ·obtain⟨vv',e1,e2⟩:=hRr j hjl (by omega)
     refine⟨vv',?_⟩;rw[yM hjl,yM (by omega)];exact⟨e1,e2⟩
    ·rw[lAp]at hj
     have:j=rows.length:=by simp at hj;omega
     subst this;refine⟨vv,?_⟩;rw[yD (xP _),yD (by omega)];simp only[hRl,Nat.sub_self,kZ];exact⟨trivial,hkl,hone,hby⟩
   ·rcases h3 c hc with h' | h'
    ·exact hne c h' h
    ·have:=qQh (fw.at kk id);omega
  ·have d2:(((common x.1 k:Nat):Int) == ((255 - h:Nat):Int))=false:=by rw[bFn];omega
   have hn1:nbE k h [x]=[]:=by simp[nbE,hc]
   rw[hn1,List.append_nil]at hnb;simp -implicitDefEqProofs only[go_sem,jF,d2,c2,c1];exact⟨es.length - (i+1),by omega,i+1,v,rfl,by omega,rfl,by rw[hnb];exact⟨rows,hR.fr0 fw,hRl,hRr⟩,fw.at kk id,f02,hne⟩
 ·have d1:=dFo ((i:Int)<((es.length:Nat):Int))
  obtain rfl:i=es.length:=by omega
  rw[List.take_length]at hv;simp -implicitDefEqProofs only[go_sem,jF,gLa,gLz,d1];exact⟨hv,f⟩
end R
end Go.V
