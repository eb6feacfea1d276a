/- Helpers. -/
import Derived.Shelf.SlSortCmp.NoneTotal
import Derived.Test.YtmenaeggoakppaaGreatDoorG20
import Derived.Test.YtmenaeggoakppaaGreatDoorG00
import Derived.Test.YtmenaeggoakppaaGreatDoorG21
import Derived.Test.YtmenaeggoakppaaGreatDoorG23
set_option linter.all false
set_option maxRecDepth 100000
set_option maxHeartbeats 8000000
open List renaming length_map→zU
open Nat renaming reduceEqDiff→jF
open Go.V.Wit renaming sortW→vF,sortE→vH
namespace Go.V
open Go.Proofs.Tryz Go.V.Tryz
variable {ks:List Bs} {b o:Nat} {w w0:World}
section
open Go.Proofs Sha Go.Sort
abbrev K32:={b:Bs // b.length=32}
instance:Inhabited K32:=⟨⟨List.replicate 32 0,by simp⟩⟩
def encK (x:K32):List Value:=x.1.map u8
def cfK (x y:K32):Int:=kcmp x.1 y.1
theorem ltK (x y:K32):ltOf cfK x y=decide (klt x.1 y.1):=by
 unfold ltOf cfK kcmp
 by_cases h:x.1=y.1
 ·rw[if_pos h,h,decide_eq_false (klt_irrefl _)];rfl
 ·rw[if_neg h]
  by_cases h2:klt x.1 y.1
  ·rw[if_pos h2,decide_eq_true h2];rfl
  ·rw[if_neg h2,decide_eq_false h2];rfl
theorem swoK:SWO (ltOf cfK) where
 irrefl x:=by rw[ltK,decide_eq_false (klt_irrefl _)]
 trans x y z h k:=by
  rw[ltK,decide_eq_true_eq]at *;exact qKf h k
 ntrans x y z h k:=by
  rw[ltK,decide_eq_false_iff_not]at *;intro c
  by_cases e:x.1=y.1
  ·rw[e]at c;exact k c
  ·rcases klt_total x.2 y.2 e with r | r
   ·exact h r
   ·exact k (qKf r c)
theorem cmpG (w0:World){a b:Bs}(ha:a.length=32)(hb:b.length=32):Fn prog 91 #[dg a,dg b] w0 fun v w'=>v=.int .i64 (kcmp a b)∧∃ q os,w'=grow (w0.drewN q) os:=by
 refine go91 (by simp) ?_
 have hW:∃ W,((w0.alloc (.cells (bl a) 34)).alloc (.cells (bl b) 34))=W∧W.heap[w0.heap.size]?=some (.cells (bl a) 34 (0,0))∧W.heap[w0.heap.size+1]?=some (.cells (bl b) 34 (0,0))∧∃ q os,W.drew=grow (w0.drewN q) os:=by
  refine⟨_,rfl,qQq (qQc _ _),?_,1,#[.cells (bl a) 34 (0,0),.cells (bl b) 34 (0,0)],?_⟩
  ·have:=qQc (w0.alloc (.cells (bl a) 34)) (.cells (bl b) 34)
   rw[qQd]at this;exact this
  ·rw[alloc_eq_grow,alloc_eq_grow,grow_grow];rfl
 obtain⟨W,hW,k1,j1,hg⟩:=hW;simp -implicitDefEqProofs only[go_sem,jF,Tryz.f91,Value.cells,hW];have n32:((32:Nat)=0)=False:=by simp
 simp -implicitDefEqProofs only[go_sem,jF,qXe,optB,n32,Nat.sub_zero];have x1:=row_by (w:=W.drew) k1 (m:=32) (cap:=32) (by omega) (by omega);have x2:=row_by (w:=W.drew) j1 (m:=32) (cap:=32) (by omega) (by omega);rw[List.take_of_length_le (by omega)]at x1 x2;refine qQa pl148 ((bcompare W.drew x1 x2).mono ?_);rintro _ w3 ⟨rfl,rfl⟩;simp -implicitDefEqProofs only[go_sem];exact⟨by rw[cmpB_kcmp ha hb],hg⟩
def kArr (ks:List Bs)(h:All32 ks):Array K32:=(ks.attach.map fun x=>(⟨x.1,h x.1 x.2⟩:K32)).toArray
theorem kArr_list (ks:List Bs)(h:All32 ks):(kArr ks h).toList.map (·.1)=ks:=by simp[kArr]
theorem kArr_size (ks:List Bs)(h:All32 ks):(kArr ks h).size=ks.length:=by simp[kArr]
theorem arr_at {d:Array K32}(hd:d.toList.map (·.1)=ks){i:Nat}(hi:i<d.size):d[i]!.1=ks.getD i []:=by
 subst hd;rw[getElem!_pos d i hi,qQi _ (by simpa using hi)];simp
theorem arr_len {d:Array K32}(hd:d.toList.map (·.1)=ks):d.size=ks.length:=by subst hd;simp
theorem flatK_at {d:Array K32}(hd:d.toList.map (·.1)=ks)(hk:All32 ks){j:Nat}(hj:j<ks.length*32):(flatK encK 32 d)[j]?=(flat ks)[j]?:=by
 have hs:=arr_len hd;have h1:j / 32<ks.length:=by omega
 have h2:j / 32*32+j % 32=j:=by omega
 have h3:j % 32<32:=Nat.mod_lt _ (by decide);have e:=flat_at hk h1 h3;rw[h2]at e;rw[e,getElem?_pos (flatK encK 32 d) j (by rw[size_flatK,hs];exact hj)];have h4:=get_flatK encK 32 d j (by rw[hs];exact hj);rw[getElem!_pos _ j (by rw[size_flatK,hs];exact hj)]at h4;rw[h4];have h5:encK d[j / 32]! = ks[j / 32].map u8:=by unfold encK;rw[arr_at hd (by omega),qQi _ h1]
 rw[h5,getElem!_pos _ _ (by rw[zU,hk.at h1];exact h3),List.getElem?_eq_getElem (by rw[zU,hk.at h1];exact h3)]
theorem cellX {c:Array Value}{e:TypeId}{fz:Nat × Nat}(h:w.heap[b]?=some (.cells c e fz)):w.cell? ⟨b,o,none⟩=c[o]?:=by simp[World.cell?,h]
theorem holds_nw {e b o n cap:Nat}(h:NwD w0 w e (.slice (some ⟨b,o,none⟩) n cap) ks){d:Array K32}(hd:d.toList.map (·.1)=ks):HoldsK encK 32 w b o d:=by
 have hn:=h.rd.len;obtain⟨h32,hown,hnew⟩:=h
 rcases hown with ⟨he,_⟩ | ⟨b',o',cap',c,he,hb,hc,hncap,hl,hat⟩
 ·cases he
 ·cases he
  intro j hj;rw[size_flatK,arr_len hd]at hj;have hf:=flatK_at hd h32 hj;have hj2:j<(flatK encK 32 d).size:=by rw[size_flatK,arr_len hd];exact hj
  refine⟨?_,frozen_thaw fun x hx=>?_⟩
  ·rw[cellX hb,hat j (by omega),← hf,getElem?_pos _ j hj2,getElem!_pos _ j hj2];rfl
  ·have hx:w.heap[b]?=some x:=hx
   rw[hb]at hx;cases hx;rfl
theorem sortW_nw {e b o n cap:Nat}(h:NwD w0 w e (.slice (some ⟨b, o, none⟩) n cap) ks){d:Array K32}{ks':List Bs}(hd:d.toList.map (·.1)=ks')(hk:All32 ks')(hl:ks'.length=ks.length)(m:Nat)(os:Array Obj) :
  NwD w0 (sortWorldK encK 32 w b o m d os) e (.slice (some ⟨b,o,none⟩) n cap) ks'∧Fr (fun c=>c=b) w (sortWorldK encK 32 w b o m d os):=by
 have hn:=h.rd.len;obtain⟨h32,hown,hnew⟩:=h
 rcases hown with ⟨he,_⟩ | ⟨b',o',cap',c,he,hb,hc,hncap,hl',hat⟩
 ·cases he
 ·cases he
  have hlt:=qQh hb
  have e1:sortWorldK encK 32 w b o m d os={ put (Go.Sort.ahead w m) b (.cells (putCells id o (flatK encK 32 d) c) e (0,0)) with heap:=(put (Go.Sort.ahead w m) b (.cells (putCells id o (flatK encK 32 d) c) e (0,0))).heap++os }:=by
   unfold sortWorldK grow putRowK putRow
   have:mapBlock (Go.Sort.ahead w m) b (putCells id o (flatK encK 32 d))=put (Go.Sort.ahead w m) b (.cells (putCells id o (flatK encK 32 d) c) e (0,0)):=by
    unfold mapBlock put
    congr 1
    apply Array.ext_getElem?;intro k;rw[Array.getElem?_modify,Array.getElem?_setIfInBounds]
    by_cases hk:b=k
    ·subst hk
     have hb':(Go.Sort.ahead w m).heap[b]?=some (.cells c e (0,0)):=hb;rw[if_pos rfl,if_pos rfl,hb'];have:b<(Go.Sort.ahead w m).heap.size:=hlt;simp[onCells,hlt]
    ·rw[if_neg hk,if_neg hk]
   rw[this]
  rw[e1]
  have fa:Fr (fun c=>c=b) w (Go.Sort.ahead w m):=⟨rfl,rfl,Nat.le_refl _,fun _ _ _=>rfl,fun _ _ h=>h⟩
  have fp:=fa.put (b:=b) (.cells (putCells id o (flatK encK 32 d) c) e (0,0)) fun _=>rfl;refine⟨⟨hk,?_,hnew⟩,fp.growX os⟩;refine .inr ⟨b,o,cap,putCells id o (flatK encK 32 d) c,by rw[hl],?_,by simp[putCells];omega,by omega,qJf hk,fun j hj=>?_⟩
  ·show ((put (Go.Sort.ahead w m) b _).heap++os)[b]?=_
   rw[Array.getElem?_append_left (by simp[put];exact hlt)];exact qQf (w:=Go.Sort.ahead w m) hb
  ·have hj:j<ks'.length*32:=hj
   have hcj:∃ x,c[o+j]?=some x:=⟨_,Array.getElem?_eq_getElem (by omega)⟩
   obtain⟨x,hx⟩:=hcj;have hj2:j<(flatK encK 32 d).size:=by rw[size_flatK,arr_len hd];exact hj
   simp only[putCells,Array.getElem?_mapIdx,hx,Option.map_some];rw[if_pos ⟨by omega,by omega⟩,show o+j - o=j by omega,← flatK_at hd hk hj,getElem?_pos _ j hj2,getElem!_pos _ j hj2];rfl
theorem ksort (w0 w:World){v:Value}(h:NwD w0 w 34 v ks)(hl:ks.length≤2 ^ 40) :
  Fn prog 90 #[v,.func (.func 91) #[] #[]] w fun r w'=>r=.tuple #[]∧∃ ks',ks'.Perm ks∧ks'.Pairwise (fun a b=>¬ klt b a)∧NwD w0 w' 34 v ks'∧Fr (fun b=>qQb v=some b) w w':=by
 obtain⟨a,cap,rfl,hcap⟩:=h.rd.slice
 rcases Nat.eq_zero_or_pos ks.length with h0 | h0
 ·have hz:ks=[]:=List.length_eq_zero_iff.1 h0
  subst hz;refine Calls.mono (AnyF.slices_SortFunc_none sortK a cap _ w) ?_;rintro e w' ⟨rfl,rfl⟩;exact⟨rfl,[],List.Perm.refl _,List.Pairwise.nil,h,Fr.refl _ _⟩
 ·obtain⟨b,o,cap',e,hcap',hb⟩:=h.rd.pos h0
  cases e;have hd:=kArr_list ks h.1;have hs:=kArr_size ks h.1;generalize kArr ks h.1=d at *
  have:=AnyQ.slices_SortFunc sortK 32 (fun w=>r_agg agg34 w) (fun w=>qXp sz34 w) encK (fun x=>by unfold encK;rw[zU,x.2]) (fun x v hv=>by obtain⟨y,_,rfl⟩:=List.mem_map.1 hv;rfl) cfK swoK 91 #[] b o cap d w
   (fun args w=>qKa args pl91 w) (fun m os dk hdk x y=>Calls.mono (cmpG _ x.2 y.2) fun e w' he=>by cases e <;> simp only[]at he;exact⟨by rw[he.1];rfl,he.2⟩) (holds_nw h hd) hb (by omega)
  rw[show (Value.slice (some ⟨b,o,none⟩) d.size cap)=.slice (some ⟨b,o,none⟩) ks.length cap by rw[hs]]at this;refine Calls.mono this ?_;rintro e w' ⟨rfl,d',n,os,hp,hso,rfl⟩;have hd's:d'.size=ks.length:=by rw[hp.1,hs]
  have hper:(d'.toList.map (·.1)).Perm ks:=by
   have h2:=hp.2.2;have e1:d'.extract 0 d.size=d':=by rw[← hp.1];simp
   have e2:d.extract 0 d.size=d:=by simp
   rw[e1,e2]at h2;rw[← hd];exact h2.map _
  have hall:All32 (d'.toList.map (·.1)):=fun x hx=>h.1 x (hper.mem_iff.1 hx);obtain⟨r1,r2⟩:=sortW_nw h (d:=d') rfl hall hper.length_eq n os;refine⟨rfl,_,hper,?_,r1,r2.mono fun c _ hc=>by rw[hc];rfl⟩;rw[List.pairwise_iff_getElem];intro i j hi hj hij;have hi':i<d'.size:=by simpa using hi
  have hj':j<d'.size:=by simpa using hj
  have:=hso i j (Nat.zero_le _) hij (by omega);rw[ltK,decide_eq_false_iff_not,arr_at rfl hi',arr_at rfl hj',qQi _ (by simpa using hj'),qQi _ (by simpa using hi')]at this;exact this
end
section
open Go.Proofs Sha
def SoQ (w0:World)(wd:Int)(ks:List Bs)(r:Value)(w':World):Prop:=No w0 w'∧match vF wd ks with
 | .error e=>r=.tuple #[.slice none 0 0,.int .i64 e]
 | .ok l=>∃ v,r=.tuple #[v,.int .i64 0]∧NwD w0 w' 34 v l
def soI (w1:World)(v:Value)(d:List Bs)(n:Nat)(vs:List Value)(w:World):Prop :=
 ∃ (i:Nat),vs=[v,.int .i64 (i:Nat)]∧1≤i∧(i≤d.length∨i=1)∧n=d.length+1 - i∧(∀ j,j+1<i→d.getD j []≠d.getD (j+1) [])∧No w1 w
theorem sorted (w0:World)(wd:Int){kv:Value}(hk:RdD w0 kv ks):Fn prog 46 #[.int .i64 wd,kv] w0 (SoQ w0 wd ks):=by
 refine go46 (by simp) ?_;obtain⟨ka,kc,rfl,hkc⟩:=hk.slice
 by_cases h1:wd<1
 ·have d1:decide (wd<1)=true:=by simpa using h1
  simp -implicitDefEqProofs only[go_sem,jF,gLa,gLz,gLs,Tryz.f46,d1];refine⟨Fr.refl _ _,?_⟩;unfold vF;rw[if_pos (.inl h1)]
 have d1:decide (wd<1)=false:=by simpa using h1
 by_cases h2:32<wd
 ·have d2:decide (wd > 32)=true:=by simpa using h2
  simp -implicitDefEqProofs only[go_sem,jF,gLa,gLz,gLs,Tryz.f46,d1,d2];refine⟨Fr.refl _ _,?_⟩;unfold vF;rw[if_pos (.inr h2)]
 have d2:=dFo (wd > 32)
 by_cases h3:64<ks.length
 ·have d3:=dTo (((ks.length:Nat):Int) > 64)
  simp -implicitDefEqProofs only[go_sem,jF,gLa,gLz,gLs,Tryz.f46,d1,d2,d3];refine⟨Fr.refl _ _,?_⟩;unfold vF vH;rw[if_neg (by omega),if_pos h3]
 have d3:=dFo (((ks.length:Nat):Int) > 64);simp -implicitDefEqProofs only[go_sem,jF,gLa,gLz,gLs,Tryz.f46,d1,d2,d3];refine qQa pl89 ((kclone w0 hk (by omega)).mono ?_);rintro v w1 ⟨n1,f1⟩;simp -implicitDefEqProofs only[go_sem];refine qQa pl90 ((ksort w0 w1 n1 (by omega)).mono ?_);rintro _ w2 ⟨rfl,d,hp,ho,n2,f2⟩;have f02:No w0 w2:=f1.trans' f2 fun b hb h=>by have:=(n1.lt h).1;omega
 have hdl:d.length=ks.length:=hp.length_eq;simp -implicitDefEqProofs only[go_sem];refine loopD [6,7] (soI w2 v d) d.length ⟨1,rfl,Nat.le_refl _,.inr rfl,by omega,fun j hj=>absurd hj (by omega),Fr.refl _ _⟩ ?_;rintro _ vs w3 g ⟨i,rfl,hi,hi2,rfl,hne,f3⟩;obtain⟨da,dc,rfl,hdc⟩:=n2.rd.slice;have fin:vF wd ks=vH ks:=by unfold vF;rw[if_neg (by omega)]
 by_cases hlt:i<d.length
 ·have d4:=dTo ((i:Int)<((d.length:Nat):Int))
  have r3:=n2.rd.fr0 f3;obtain⟨b,o,cap,he,_,_⟩:=r3.pos (by omega);cases he;have q1:=r3.get (P:=prog) agg34 sz34 hlt;have q2:=r3.get (P:=prog) agg34 sz34 (show i - 1<d.length by omega);have y1:=iBd (i:=i) (n:=d.length);have y2:(0:Int)≤((i - 1:Nat):Int)∧((i - 1:Nat):Int)<((d.length:Nat):Int):=by omega
  have c1:IntKind.i64.wrap ((i:Int) - 1)=((i - 1:Nat):Int):=qXl (b:=1) (by omega) (by omega);have c2:=iSu (i:=i);have eq:=eqKey (n2.1.getD hlt) (n2.1.getD (show i - 1<d.length by omega))
  by_cases he:d.getD i []=d.getD (i - 1) []
  ·have hb:(d.getD i [] == d.getD (i - 1) [])=true:=by rw[beq_iff_eq];exact he
   simp -implicitDefEqProofs only[go_sem,jF,gLa,gLz,y1,y2,and_self,iTn,c1,q1,q2,eq,hb];refine⟨f02.trans f3.drew,?_⟩;rw[fin];unfold vH;rw[if_neg h3,if_neg (Wit.sorted_dup hp (i:=i - 1) (by omega) (by rw[show i - 1+1=i by omega];exact he.symm))]
  ·have hb:(d.getD i [] == d.getD (i - 1) [])=false:=by rw[bFn];exact he
   simp -implicitDefEqProofs only[go_sem,jF,gLa,gLz,y1,y2,and_self,iTn,c1,c2,q1,q2,eq,hb];refine⟨d.length+1 - (i+1),by omega,i+1,rfl,by omega,.inl (by omega),rfl,fun j hj=>?_,f3.drew⟩
   rcases Nat.lt_or_ge (j+1) i with h | h
   ·exact hne j h
   ·obtain rfl:j=i - 1:=by omega
    rw[show i - 1+1=i by omega];exact fun e=>he e.symm
 ·have d4:=dFo ((i:Int)<((d.length:Nat):Int))
  simp -implicitDefEqProofs only[go_sem,jF,gLa,gLz,d4];refine⟨f02.trans f3,?_⟩;obtain⟨hnd,hds⟩:=Wit.sorted_is hk.1 hp ho fun j hj=>hne j (by omega);rw[fin];unfold vH;rw[if_neg h3,if_pos hnd,← hds];exact⟨_,rfl,n2.fr0 f3⟩
end
end Go.V
