/- Helpers. -/
import Derived.Test.YtppmpdjlmgfdkaaGreatDoorB07
import Derived.Test.YtppmpdjlmgfdkaaGreatDoorB06
set_option linter.all false
set_option maxRecDepth 100000
set_option maxHeartbeats 8000000
open Array renaming length_toList->zQ
open BitVec renaming ofNat->zX,toNat_ofNat->zZ
open Go.Builtin renaming nextslicecap->xD,append_->qC
open List renaming append_assoc->zJ,replicate->zK,mem_append_right->zV,mem_append_left->zW,mem_cons_of_mem->zY,length_cons->zU,take_of_length_le->zG,take_append_of_le_length->zF,length_nil->zH,length_map->zB,mem_cons_self->zD,drop_append_of_le_length->zM,take_left'->zN,drop_left'->zP,getElem?_append_left->zR,getElem?_eq_getElem->xE,drop_of_length_le->zT,nil_append->zL,take_add->zC,map_cons->qS,filter_append->zS,flatten_cons->zA,getElem_map->zE,cons_append->zI,append_nil->zO,getElem?_append_right->z4,getElem_append_right->z9,getElem_append_left->jQ,getElem_cons_succ->jX,take_append_drop->jZ,length_singleton->jJ
open Nat renaming le_refl->xC,zero_le->jK,add_sub_cancel->jV,lt_succ_self->jW,zero_add->jY,mul_le_mul_right->xR,le_succ->jU
open Option renaming or_eq_some_iff->jG
namespace Go.V
variable {ts:Array TypeId} {c vs:Array Value} {at':Bool} {im l raw:Bs} {wd:Int} {ds:List (List Byte)} {bs d:List Byte} {b by' fresh h i k m n p:Nat} {fz:Nat × Nat} {F:Nat->Prop} {x:Obj} {e:TypeId} {v:Value} {w w' w0:World}
section
variable {P:Program}
theorem rdO_drew (t:TypeId)(w:World)(b o:Nat):rdO P t w.drew b o=rdO P t w b o:=rfl
attribute [go_sem] rdO_drew List.contains_cons Bool.or_self Bool.or_false Bool.false_or
theorem wr1 {t:TypeId}{b o:Nat}(A:szO P t=some 1)(hv:one v=true)(h:w.heap[b]?=some (.cells c e (0, 0)))(B:o<c.size) :
  wrO P t w b o v=some (put w b (.cells (c.setIfInBounds o v) e (0,0))):=by
 obtain⟨u,E⟩:∃ u,c[o]?=some u:=⟨_,Array.getElem?_eq_getElem B⟩
 rw[wr_cv A hv (u:=u) (by rw[cv_of_row h];exact E),setc_row v h]
theorem rd1 {t:TypeId}{b o:Nat}(A:aggO P t=some false)(h:w.heap[b]?=some (.cells c e fz))(hv:c[o]?=some v) :
  rdO P t w b o=some v:=rd_rc A (by rw[qXe h];exact hv)
theorem wrs {t:TypeId}{b o:Nat}(A:szO P t=some vs.size)(h:w.heap[b]?=some (.cells c e (0, 0)))(B:o+vs.size<=c.size)(E:vs.all one=true) :
  wrO P t w b o (.agg vs)=some (put w b (.cells (qXz vs.toList o c) e (0,0))):=by
 simp only[wrO,stO,h,Value.cells,A,E];rw[if_pos ⟨trivial,B,trivial⟩];rfl
theorem rds {t:TypeId}{b o n:Nat}(A:aggO P t=some true)(B:szO P t=some n)(h:w.heap[b]?=some (.cells c e fz))(E:vs.size=n)(H:0<n)(hv:∀ i, i<n->c[o+i]?=vs[i]?) :
  rdO P t w b o=some (.agg vs):=rd_rcs A B E H fun i hi=>by rw[qXe h];exact hv i hi
theorem qQd {o x:Obj}(h:w.heap[b]?=some x):(put w b o).heap[b]?=some o:=qZh _ (qQh h)
theorem qQi {b A:Nat}{o x:Obj}(h:w.heap[A]?=some x)(B:b≠A):(put w b o).heap[A]?=some x:=by rw[qVt _ B];exact h
theorem Fr.at (h:Fr F w w')(A:w.heap[b]?=some x)(B:¬ F b):w'.heap[b]?=some x:=by rw[h.blk b (qQh A) B];exact A
theorem qQs {o x:Obj}(h:w.heap[b]?=some x):(w.alloc o).heap[b]?=some x:=by rw[qJh _ _ (qQh h)];exact h
abbrev wl (l:List W32):Array Value:=(l.map u32).toArray
abbrev bl (l:List Byte):Array Value:=(l.map u8).toArray
theorem qZu (l:List W32):(wl l).size=l.length:=sm
theorem qXj (l:List Byte):(bl l).size=l.length:=sm
theorem wl_at {l:List W32}(h:i<l.length):(wl l)[i]?=some (u32 (l.getD i 0)):=by
 rw[List.getElem?_toArray,List.getElem?_map,xE h,Option.map_some,qQt _ h]
theorem bl_at {l:List Byte}(h:i<l.length):(bl l)[i]?=some (u8 (l.getD i 0)):=u8_at h
theorem wl_set (l:List W32)(i:Nat)(x:W32):(wl l).setIfInBounds i (u32 x)=wl (l.set i x):=by
 show _=((l.set i x).map u32).toArray;rw[List.map_set];simp
theorem bl_set (l:List Byte)(i:Nat)(x:Byte):(bl l).setIfInBounds i (u8 x)=bl (l.set i x):=set_u8 x
theorem wl_one (l:List W32):(wl l).all one=true:=by rw[<- Array.all_toList];simp[one]
theorem bl_one (l:List Byte):(bl l).all one=true:=u8s_all l
theorem wl_zero (n:Nat):Array.replicate n (Value.int .u32 0)=wl (zK n 0):=by
 apply Array.toList_inj.1;simp
theorem qQk (n:Nat):Array.replicate n (Value.int .u8 0)=bl (zK n 0):=by
 apply Array.toList_inj.1;simp
def padTo {α:Type}(z:α)(n:Nat)(l:List α):List α:=l++zK (n - l.length) z
theorem qZn {α:Type}{z:α}{l:List α}(h:l.length<=n):(padTo z n l).length=n:=by simp[padTo];omega
theorem padTo_nil {α:Type}(z:α)(n:Nat):padTo z n []=zK n z:=by simp[padTo]
theorem padTo_full {α:Type}{z:α}{l:List α}(h:l.length=n):padTo z n l=l:=by simp[padTo,h]
theorem padTo_getD {α:Type}{z:α}{l:List α}(d:α)(h:i<l.length):(padTo z n l).getD i d=l.getD i d:=by
 rw[gDq,gDq,padTo,zR h]
theorem padTo_set {α:Type}{z:α}{l:List α}(x:α)(h:l.length<n):(padTo z n l).set l.length x=padTo z n (l++[x]):=by
 unfold padTo;rw[List.set_append_right _ _ (xC _),Nat.sub_self,lAp,jJ]
 obtain⟨k,A⟩:∃ k,n - l.length=k+1:=⟨n - l.length - 1,om⟩
 rw[A,show n - (l.length+1)=k by omega,List.replicate_succ,List.set_cons_zero,zJ];rfl
theorem qQm {A:Array Oper}{K:Ev->World->Prop}{r:List Oper}{d:Option Nat}{B:Ev}{x:Out}(h:x=.inl (some (v, w')))
  (E:denL P A K r (updO B d v) w'):contL P A K r d B w x:=by
 subst h
 cases d <;> exact E
theorem bd_small (h:(2*(n+m)+768)*by'<=2 ^ 48):∀ cap,n<=cap->cap<n+m->xD (n+m) cap*by'<=2 ^ 48:=fun cap _ A=>by
 have B:=nextcap_le (need:=n+m) (cap:=cap) A;have h2:=xR by' B
 omega
theorem bd_one (h:(n+n / 4+1024)*by'<=2 ^ 48):∀ cap,n<=cap->cap<n+1->xD (n+1) cap*by'<=2 ^ 48:=fun cap A B=>by
 have E:=nextcap1_le A B;have h2:=xR by' E
 omega
theorem app_fresh {e sz by':Nat}{z:Value}(R:AppT P ts e sz by' z){M:List Value}(hv:Nw w0 w e sz v n M)
  {xs:Array Value} (I:xs.size=m*sz) (A:xs.toList.all one=true) (B:0<sz)
  (J:∀ cap,n<=cap->cap<n+m->xD (n+m) cap*by'<=2 ^ 48) (E:n+m<=9223372036854775807) (f:No w0 w) :
  ∃ H w',(qC ts 0 #[v,.slice (some ⟨w.heap.size,0,none⟩) m m]).run P (w.alloc (.cells xs e))=.ok H w'/\Nw w0 w' e sz H (n+m) (M++xs.toList)/\No w0 w'/\Fr (fun b=>qQc v=some b) w w' /\
   ∀ b,qQc H=some b->qQc v=some b∨w.heap.size<=b:=by
 have L:No w (w.alloc (.cells xs e)):=(Fr.refl _ _).alloc _
 have T:Rd (w.alloc (.cells xs e)) sz (.slice (some ⟨w.heap.size,0,none⟩) m m) m xs.toList :=
  ⟨by rw[zQ,I],_,_,rfl,xC _,fun _=>⟨_,_,rfl,fun i hi=>by rw[qXe (qQb _ _),jY,Array.getElem?_toList]⟩⟩
 obtain⟨H,w',U,V,h2,W⟩:=app_nw R (hv.fr0 L) T A B J E (by have:=f.size;have:=L.size;omega);have N:Fr (fun b=>qQc v=some b) w w':=(L.mono fun _ _ h=>h.elim).trans h2;refine⟨H,w',U,V,f.trans' N fun b O h=>?_,N,fun b O=>(W b O).imp id fun h=>by rw[qQf]at h;omega⟩;have:=hv.new b h;omega
def NwB (w0 w:World)(v:Value)(bs:List Byte):Prop:=Nw w0 w 5 1 v bs.length (bs.map u8)
theorem NwB.by (h:NwB w0 w v bs):By w v bs:=Nw.rd h
theorem NwB.nil (w0 w:World):NwB w0 w (.slice none 0 0) []:=Nw.nil w0 w 5 1
theorem NwB.fr (h:NwB w0 w v bs)(k:Fr F w w')(A:∀ b,qQc v=some b->¬ F b):NwB w0 w' v bs:=Nw.fr h k A
theorem NwB.fr0 (h:NwB w0 w v bs)(k:No w w'):NwB w0 w' v bs:=Nw.fr0 h k
theorem NwB.slice (h:NwB w0 w v bs):∃ a cap,v=.slice a bs.length cap:=by
 obtain⟨_,a,cap,e,_⟩:=Nw.rd h;exact⟨a,cap,e⟩
theorem NwB.push {z:Value}(H:AppT P ts 5 1 1 z)(hv:NwB w0 w v bs)(xs:List Byte)
  (E:∀ cap,bs.length<=cap->cap<bs.length+xs.length->xD (bs.length+xs.length) cap*1<=2 ^ 48) (A:bs.length+xs.length<=9223372036854775807) (f:No w0 w) :
  ∃ B w',(qC ts 0 #[v,.slice (some ⟨w.heap.size,0,none⟩) xs.length xs.length]).run P (w.alloc (.cells (bl xs) 5))=.ok B w'/\NwB w0 w' B (bs++xs)/\No w0 w'/\Fr (fun b=>qQc v=some b) w w':=by
 obtain⟨B,w',I,J,h2,L,_⟩:=app_fresh H hv (m:=xs.length) (xs:=bl xs) (by rw[qXj,Nat.mul_one]) (qXs xs) om E A f;refine⟨B,w',I,?_,h2,L⟩;unfold NwB;rw[lAp,List.map_append];exact J
theorem NwB.cat {z:Value}(H:AppT P ts 5 1 1 z)(hv:NwB w0 w v bs){x:Value}{xs:List Byte}(I:By w x xs)
  (E:∀ cap,bs.length<=cap->cap<bs.length+xs.length->xD (bs.length+xs.length) cap*1<=2 ^ 48) (A:bs.length+xs.length<=9223372036854775807) (f:No w0 w) :
  ∃ B w',(qC ts 0 #[v,x]).run P w=.ok B w'/\NwB w0 w' B (bs++xs)/\No w0 w'/\Fr (fun b=>qQc v=some b) w w':=by
 obtain⟨B,w',J,L,h2,_⟩:=app_nw H hv I (qXs xs) om E A f.size;refine⟨B,w',J,?_,f.trans' h2 fun b M h=>?_,h2⟩
 ·unfold NwB
  rw[lAp,List.map_append];exact L
 ·have:=hv.new b h;omega
end
section
variable {P:Program}
def flat (ds:List (List Byte)):List Value:=(ds.map fun d=>d.map u8).flatten
def All32 (ds:List (List Byte)):Prop:=∀ d ∈ ds,d.length=32
theorem All32.nil:All32 []:=fun _ h=>by cases h
theorem All32.cons (h:d.length=32)(k:All32 ds):All32 (d::ds):=fun x A=>by
 rcases List.mem_cons.1 A with rfl | A
 ·exact h
 ·exact k x A
theorem All32.app {a b:List (List Byte)}(h:All32 a)(k:All32 b):All32 (a++b):=fun x A=>by
 rcases List.mem_append.1 A with A | A
 ·exact h x A
 ·exact k x A
theorem All32.one (h:d.length=32):All32 [d]:=All32.cons h All32.nil
theorem All32.tail (h:All32 (d::ds)):All32 ds:=fun x A=>h x (zY _ A)
theorem All32.head (h:All32 (d::ds)):d.length=32:=h d zD
theorem All32.at (h:All32 ds)(hi:i<ds.length):ds[i].length=32:=h _ (List.getElem_mem hi)
theorem All32.set (h:All32 ds)(i:Nat)(A:d.length=32):All32 (ds.set i d):=fun x B=>by
 rcases List.mem_or_eq_of_mem_set B with h' | rfl
 ·exact h x h'
 ·exact A
theorem flat_app (a b:List (List Byte)):flat (a++b)=flat a++flat b:=by simp[flat]
theorem flat_one (d:List Byte):flat [d]=d.map u8:=by simp[flat]
theorem flat_len:∀ {ds:List (List Byte)},All32 ds->(flat ds).length=ds.length*32
 | [],_=>rfl
 | d::ds,h=>by
  have:=flat_len h.tail;simp only[flat,qS,zA,lAp,zB,zU,h.head]at this ⊢;omega
theorem flat_at:∀ {ds:List (List Byte)},All32 ds->∀ {i:Nat} (hi:i<ds.length) {j:Nat},j<32->(flat ds)[i*32+j]?=(ds[i].map u8)[j]?
 | d::ds,h,0,_,j,A=>by
  simp only[flat,qS,zA,Nat.zero_mul,jY,List.getElem_cons_zero];rw[zR (by rw[zB,h.head];exact A)]
 | d::ds,h,i+1,hi,j,A=>by
  have:=flat_at h.tail (show i<ds.length by simpa using hi) A;simp only[flat,qS,zA,jX]at this ⊢;rw[z4 (by rw[zB,h.head];omega),zB,h.head,show (i+1)*32+j - 32=i*32+j by omega];exact this
def RdD (w:World)(v:Value)(ds:List (List Byte)):Prop:=All32 ds/\Rd w 32 v ds.length (flat ds)
section
variable {w w':World} {v:Value} {ds:List (List Byte)}
theorem RdD.fr (h:RdD w v ds)(k:Fr F w w')(A:∀ b,qQc v=some b->b<w.heap.size->¬ F b):RdD w' v ds:=⟨h.1,h.2.fr k A⟩
theorem RdD.fr0 (h:RdD w v ds)(k:Fr (fun _=>False) w w'):RdD w' v ds:=h.fr k fun _ _ _ h=>h
theorem RdD.slice (h:RdD w v ds):∃ a cap,v=.slice a ds.length cap/\ds.length<=cap:=by
 obtain⟨_,_,a,cap,e,h,_⟩:=h;exact⟨a,cap,e,h⟩
theorem RdD.at (h:RdD w v ds):∃ a cap, v=.slice a ds.length cap/\ds.length<=cap/\∀ i (hi:i<ds.length), ∃ b o, a=some ⟨b, o, none⟩/\b<w.heap.size /\
  ∀ t,aggO P t=some true->szO P t=some 32->rdO P t w b (o+i*32)=some (dg ds[i]):=by
 obtain⟨A,M,a,cap,rfl,h2,E⟩:=h;refine⟨a,cap,rfl,h2,fun i hi=>?_⟩;obtain⟨b,o,rfl,H⟩:=E om
 have B:∀ j,j<32->rc w b (o+i*32+j)=(ds[i].map u8)[j]?:=fun j I=>by
  rw [Nat.add_assoc, H (i * 32 + j) (by have : i * 32 + 32 <= ds.length * 32 := by omega
                                        omega),flat_at A hi I]
 refine⟨b,o,rfl,?_,fun t J L=>rd_dg J L (A.at hi) om B⟩;have:=B 0 om;rw[List.getElem?_map,xE (by rw[A.at hi];omega)]at this;exact rc_lt this
end
def NwD (w0 w:World)(e:Nat)(v:Value)(ds:List (List Byte)):Prop:=All32 ds/\Nw w0 w e 32 v ds.length (flat ds)
section
variable {w0 w w':World} {e:Nat} {v:Value} {ds:List (List Byte)}
theorem NwD.rd (h:NwD w0 w e v ds):RdD w v ds:=⟨h.1,h.2.rd⟩
theorem NwD.fr (h:NwD w0 w e v ds)(k:Fr F w w')(A:∀ b,qQc v=some b->¬ F b):NwD w0 w' e v ds:=⟨h.1,h.2.fr k A⟩
theorem NwD.fr0 (h:NwD w0 w e v ds)(k:No w w'):NwD w0 w' e v ds:=⟨h.1,h.2.fr0 k⟩
theorem NwD.lt (h:NwD w0 w e v ds)(A:qQc v=some b):w0.heap.size<=b/\b<w.heap.size:=⟨h.2.new b A,h.2.own.lt A⟩
theorem NwD.push {z:Value}(H:AppT P ts e 32 32 z)(hv:NwD w0 w e v ds)(E:d.length=32)
  (B:(ds.length+ds.length / 4+1024)*32<=2 ^ 48) (f:No w0 w) :
  ∃ A w',(qC ts 0 #[v,.slice (some ⟨w.heap.size,0,none⟩) 1 1]).run P (w.alloc (.cells (bl d) e))=.ok A w'/\NwD w0 w' e A (ds++[d])/\No w0 w'/\Fr (fun b=>qQc v=some b) w w' /\
   ∀ b,qQc A=some b->qQc v=some b∨w.heap.size<=b:=by
 obtain⟨A,w',I,J,h2,L,M⟩:=app_fresh H hv.2 (m:=1) (xs:=bl d) (by rw[qXj,E]) (qXs d) om (bd_one B) om f;refine⟨A,w',I,⟨hv.1.app (All32.one E),?_⟩,h2,L,M⟩;rw[lAp,flat_app,flat_one];exact J
end
theorem fill_dg {z:List Value}(I:z.length=32)(E:d.length=32):Instr.fill (fun i=>some (i*32,32)) (zrow z 1) [(0,dg d)]=some (bl d):=by
 have A:(zrow z 1).size=32:=by simp[zrow,I]
 have B:(dg d).cells.size=32:=by simp[Value.cells,E]
 simp only[Instr.fill,B,A];rw[if_neg x9];have e:(dg d).cells=bl d:=rfl;rw[e]
 congr 1
 have key:∀ (l:List Value) (c:Array Value) (k:Nat),k+l.length=c.size->((l.zipIdx k).foldl (fun (J:Array Value) (p:Value × Nat)=>J.setIfInBounds (0*32+p.2) p.1) c).toList=c.toList.take k++l:=by
  intro l
  induction l with
  | nil =>
   intro c k h;simp only[zH,Nat.add_zero]at h;rw[zG (by rw[zQ];omega)];simp
  | cons v l H =>
   intro c k h;simp only[List.zipIdx_cons,List.foldl_cons,Nat.zero_mul,jY]at H ⊢;simp only[zU]at h;rw[H (c.setIfInBounds k v) (k+1) (by simp;omega)];simp only[Array.toList_setIfInBounds];rw[List.take_set,List.set_eq_take_append_cons_drop];simp only[lTk,zQ];rw[if_pos om,List.take_take,List.drop_take]
   simp
 apply Array.toList_inj.1;rw[<- Array.foldl_toList,Array.toList_zipIdx,key (bl d).toList _ 0 (by rw[zQ,qXj,E,A])]
 simp
end
section
namespace Wit
def Asc (ks:List Bs):Prop:=ks.Pairwise klt
def frm (ks:List Bs):Nat:=if ks.length<2 then 0 else 256 - common (ks.headD []) (ks.getLastD [])
def lefts (ks:List Bs):Nat:=(ks.takeWhile fun k=>!kbit k (256 - frm ks)).length
section
variable {ks:List Bs} (h:Asc ks) (h2:2<=ks.length)
include h h2
end
inductive Tw where
 | leaf (k:Bs) (top:Nat) (near:List Bs) (a:Option Bs)
 | fork (ks:List Bs) (f top:Nat) (near:List Bs) (l r:Tw)
namespace Tw
def keys:Tw->List Bs
 | leaf k _ _ _=>[k]
 | fork ks _ _ _ _ _=>ks
def fr:Tw->Nat
 | leaf _ _ _ _=>0
 | fork _ f _ _ _ _=>f
def top:Tw->Nat
 | leaf _ t _ _=>t
 | fork _ _ t _ _ _=>t
def near:Tw->List Bs
 | leaf _ _ n _=>n
 | fork _ _ _ n _ _=>n
def key (t:Tw):Bs:=t.keys.headD []
def Ok:Tw->Prop
 | leaf k top near a=>k.length=32/\top<=256/\near.length=top/\All32 near/\∀ v,a=some v->v.length<=128
 | fork ks f top near l r=>f=frm ks/\f<=top/\top<=256/\near.length=top - f/\All32 near/\Asc ks/\All32 ks/\2<=ks.length/\l.keys=ks.take (lefts ks)/\r.keys=ks.drop (lefts ks)/\l.top=f - 1/\r.top=f - 1/\l.Ok/\r.Ok
end Tw
def ansP (kind:Nat)(bs:Bs):Option (Option Bs × Bs) :=
 if kind=0 then some (none,bs)
 else if bs.length<2 then none
 else if (bs.getD 0 0).toNat+256*(bs.getD 1 0).toNat > 128 then none
 else if (bs.drop 2).length<(bs.getD 0 0).toNat+256*(bs.getD 1 0).toNat then none
 else some (some ((bs.drop 2).take ((bs.getD 0 0).toNat+256*(bs.getD 1 0).toNat)),(bs.drop 2).drop ((bs.getD 0 0).toNat+256*(bs.getD 1 0).toNat))
def mbit (bits:Bs)(g:Nat):Bool:=(bits.getD (g / 8) 0).getLsbD (g % 8)
def gvP (f top:Nat)(bits:Bs):Nat->Nat->Bs->Option (List (Nat × Bs) × Bs)
 | 0,_,bs=>some ([],bs)
 | n+1,g,bs =>
  if mbit bits g=false then gvP f top bits n (g+1) bs
  else if bs.length<32∨g<f∨top<=g then none
  else (gvP f top bits n (g+1) (bs.drop 32)).map fun p=>((g,bs.take 32)::p.1,p.2)
def fill (f:Nat)(base:List Bs)(A:List (Nat × Bs)):List Bs:=A.foldl (fun l p=>l.set (p.1 - f) p.2) base
def nearP (w:Int)(f top:Nat)(bs:Bs):Option (List Bs × List (Nat × Bs) × Bs) :=
 if bs.length<32 then none
 else (gvP f top (bs.take 32) 256 0 (bs.drop 32)).map fun p=>(fill f (((empts w 257).drop f).take (top - f)) p.1,p.1,p.2)
def parse (w:Int):Nat->List Bs->Nat->Bs->Option (Tw × List (Nat × Bs) × Bs)
 | 0,_,_,_=>none
 | n+1,ks,top,bs =>
  if bs.length<1 then none
  else if (bs.getD 0 0).toNat > 2∨¬ ((bs.getD 0 0).toNat=2 ↔ 1<ks.length) then none
  else if (bs.getD 0 0).toNat=2 then
   (nearP w (frm ks) top (bs.drop 1)).bind fun p =>
   (parse w n (ks.take (lefts ks)) (frm ks - 1) p.2.2).bind fun q =>
   (parse w n (ks.drop (lefts ks)) (frm ks - 1) q.2.2).map fun s=>(.fork ks (frm ks) top p.1 q.1 s.1,p.2.1++(q.2.1++s.2.1),s.2.2)
  else
   (ansP (bs.getD 0 0).toNat (bs.drop 1)).bind fun p =>
   (nearP w 0 top p.2).map fun q=>(.leaf (ks.headD []) top q.1 p.1,q.2.1,q.2.2)
def chk (w:Int):List (Nat × Bs)->Int
 | []=>0
 | p::r=>if p.2≠cutD w p.2 then 120 else if p.2=emptD w p.1 then 130 else chk w r
def form (w:Int)(ks:List Bs)(raw:Bs):Except Int (Option Tw) :=
 if ks=[] then if raw=[] then .ok none else .error 120
 else match parse w ks.length ks 256 raw with
  | none=>.error 120
  | some p=>if p.2.2≠[] then .error 120 else if chk w p.2.1≠0 then .error (chk w p.2.1) else .ok (some p.1)
def ldig (w:Int)(k:Bs):Option Bs->Bs
 | some v=>leafD w k v
 | none=>emptD w 0
abbrev Says:=Bs->Option Bs->Option Bs
def asIs:Says:=fun _ a=>a
def base (w:Int)(A:Says):Tw->Bs
 | .leaf k _ _ a=>ldig w k (A k a)
 | .fork _ _ _ _ l r=>qXd w (climb w l.key l.fr (base w A l) l.near) (climb w r.key r.fr (base w A r) r.near)
def dig (w:Int)(A:Says)(t:Tw):Bs:=climb w t.key t.fr (base w A t) t.near
def Tw.at:Tw->Bs->Option Bs
 | .leaf _ _ _ a,_=>a
 | .fork _ f _ _ l r,k=>if kbit k (256 - f) then r.at k else l.at k
def nbrs (w:Int):Tw->Bs->List Bs
 | .leaf _ _ near _,_=>near
 | .fork _ f _ near l r,k=>(if kbit k (256 - f) then nbrs w r k++[dig w asIs l] else nbrs w l k++[dig w asIs r])++near
end Wit
end
section
namespace Wit
open Tw
def gl (w:Int):Nat->List Bs->List (Nat × Bs)
 | _,[]=>[]
 | h,d::r=>if d=emptD w h then gl w (h+1) r else (h,d)::gl w (h+1) r
end Wit
end
section
namespace Wit
open Tw
theorem cutD_cutD (w:Int)(d:Bs):cutD w (cutD w d)=cutD w d:=by
 refine List.ext_getElem (by rw[qZi,qZi]) fun i A h2=>?_;rw[qZi]at A h2;have B:(cutD w d).getD i 0=(cutD w d)[i]'(by rw[qZi];exact A):=qQt 0 _;simp only[cutD,zE,List.getElem_range]at B ⊢;split
 ·rename_i h;rw[B,if_pos h]
 ·rfl
theorem hcut_tdy (w:Int)(t:Bs):cutD w (hcut w t)=hcut w t:=cutD_cutD w _
theorem climb_tdy (w:Int)(k:Bs):∀ (near:List Bs) (f:Nat) (d:Bs),cutD w d=d->cutD w (climb w k f d near)=climb w k f d near
 | [],_,_,h=>h
 | n::r,f,d,_=>climb_tdy w k r _ _ (by unfold up;split <;> exact hcut_tdy _ _)
def part (w:Int)(t:Tw)(k:Bs):Tw:=.leaf k 256 (nbrs w t k) (t.at k)
end Wit
end
section
namespace Wit
open Tw
structure Tx where
 keys:List Bs
 top:Nat
 fr:Nat
 near:List Bs
 left:Nat
 right:Nat
 ans:Option Bs
def Tw.size:Tw->Nat
 | .leaf _ _ _ _=>1
 | .fork _ _ _ _ l r=>l.size+r.size+1
def flatT (w:Int):Nat->Tw->List Tx
 | _,.leaf k top near a=>[⟨[k],top,0,near,0,0,a⟩]
 | n,.fork ks f top near l r=>flatT w n l++(flatT w (n+l.size) r++[⟨ks,top,f,(empts w 257).take f++near,n+l.size - 1,n+l.size+r.size - 1,none⟩])
def over (f:Nat)(ds near:List Bs):List Bs:=ds.take f++(near++ds.drop (f+near.length))
def Tw.other (t:Tw)(k:Bs):Tw:=match t with | .leaf A top near a=>.leaf A top near a | .fork _ f _ _ l r=>if kbit k (256 - f) then l else r
def Tw.next (t:Tw)(k:Bs):Tw:=match t with | .leaf A top near a=>.leaf A top near a | .fork _ f _ _ l r=>if kbit k (256 - f) then r else l
end Wit
end
section
namespace Aud
abbrev En:=Bs × Bs
inductive PT where
 | nil
 | leaf (p:Nat) (k v:Bs)
 | br (p:Nat) (l r:PT)
 deriving DecidableEq
namespace PT
def page:PT->Nat
 | nil=>0
 | leaf p _ _=>p
 | br p _ _=>p
def ents:PT->List En
 | nil=>[]
 | leaf _ k v=>[(k,v)]
 | br _ l r=>l.ents++r.ents
def lvs:PT->List (Bs × Bs × Nat)
 | nil=>[]
 | leaf p k v=>[(k,v,p)]
 | br _ l r=>l.lvs++r.lvs
def Wf:Nat->PT->Prop
 | _,nil=>True
 | _,leaf p _ _=>2<=p
 | n,br p l r=>2<=p/\n<256/\2<=l.ents.length+r.ents.length/\(∀ e ∈ l.ents,kbit e.1 n=false)/\(∀ e ∈ r.ents,kbit e.1 n=true)/\Wf (n+1) l/\Wf (n+1) r
end PT
inductive Nd where
 | leaf (k v:Bs)
 | br (lp rp lc rc:Nat) (ls rs:Bs)
 deriving DecidableEq
section
variable (dg:Nat->PT->Bs)
def said (h:Nat):PT->Bs
 | .nil=>zK 32 0
 | t=>dg h t
def Stands (pg:Nat->Option Nd):Nat->PT->Prop
 | _,.nil=>True
 | _,.leaf p k v=>pg p=some (.leaf k v)
 | n,.br p l r=>pg p=some (.br l.page r.page l.ents.length r.ents.length (said dg (255 - n) l) (said dg (255 - n) r))/\l.page<p/\r.page<p/\Stands pg (n+1) l/\Stands pg (n+1) r
variable {dg}
theorem PT.page_pos {t:PT}(h:t.Wf n)(A:t≠.nil):2<=t.page:=by
 cases t with
 | nil=>exact absurd rfl A
 | leaf p k v=>exact h
 | br p l r=>exact h.1
theorem PT.page_nil {t:PT}(h:t.Wf n)(B:t.page=0):t=.nil:=by
 by_cases A:t=.nil
 ·exact A
 ·have:=t.page_pos h A;omega
theorem stands_eq {pg:Nat->Option Nd}:∀ {t u:PT} {n:Nat},Stands dg pg n t->Stands dg pg n u->t.Wf n->u.Wf n->t.page=u.page->t=u
 | .nil,u,n,_,_,_,H,A=>(u.page_nil H A.symm).symm
 | .leaf p k v,.nil,n,_,_,E,_,A=>by
  have h:2<=p:=E;have:p=0:=A;omega
 | .leaf p k v,.leaf q L M,n,B,h2,_,_,A=>by
  have A:p=q:=A;subst A;have B:pg p=_:=B;have h2:pg p=_:=h2;rw[B]at h2;cases h2;rfl
 | .leaf p k v,.br q l r,n,B,h2,_,_,A=>by
  have A:p=q:=A;subst A;have B:pg p=_:=B;rw[h2.1]at B;cases B
 | .br p l r,.nil,n,_,_,E,_,A=>by
  have h:2<=p:=E.1;have:p=0:=A;omega
 | .br p l r,.leaf q k v,n,B,h2,_,_,A=>by
  have A:p=q:=A;subst A;have h2:pg p=_:=h2;rw[B.1]at h2;cases h2
 | .br p l r,.br q N O,n,B,h2,E,H,A=>by
  have A:p=q:=A;subst A;have e:=B.1.symm.trans h2.1;simp only[oSi,Nd.br.injEq]at e;obtain⟨I,J,_⟩:=e;rw[stands_eq B.2.2.2.1 h2.2.2.2.1 E.2.2.2.2.2.1 H.2.2.2.2.2.1 I,stands_eq B.2.2.2.2 h2.2.2.2.2 E.2.2.2.2.2.2 H.2.2.2.2.2.2 J]
end
def pageOf (k v:Bs):PT->Option Nat
 | .nil=>none
 | .leaf p A B=>if A=k/\B=v then some p else none
 | .br _ l r=>(pageOf k v l).orElse fun _=>pageOf k v r
def kid (n:Nat)(b:Bool):PT->PT
 | .nil=>.nil
 | .leaf p k v=>if kbit k n=b then .leaf p k v else .nil
 | .br _ l r=>if b then r else l
def isBr:PT->Bool
 | .br _ _ _=>true
 | _=>false
def lay:Nat->Nat->Bool->PT->List En->Nat->PT × Nat
 | _,_,_,_,[],next=>(.nil,next)
 | 0,_,_,o,(k,v)::_,next=>match pageOf k v o with
  | some p=>(.leaf p k v,next)
  | none=>(.leaf next k v,next+1)
 | f+1,n,at',o,e::r,next =>
  if at'=true/\o.ents=e::r then (o,next)
  else if r=[] then match pageOf e.1 e.2 o with
   | some p=>(.leaf p e.1 e.2,next)
   | none=>(.leaf next e.1 e.2,next+1)
  else
   let L:=lay f (n+1) (at' && isBr o) (kid n false o) ((e::r).filter fun x=>!kbit x.1 n) next
   let R:=lay f (n+1) (at' && isBr o) (kid n true o) ((e::r).filter fun x=>kbit x.1 n) L.2
   (.br R.2 L.1 R.1,R.2+1)
def Okk:Nat->Bool->PT->PT->Nat->Nat->Prop
 | _,_,_,.nil,next,next'=>next'=next
 | _,_,o,.leaf p k v,next,next'=>(pageOf k v o=some p/\next'=next)∨(pageOf k v o=none/\p=next/\next'=next+1)
 | n, at', o, .br p l r, next, next'=>(at'=true/\o=.br p l r/\next'=next) ∨
   ∃ B A,Okk (n+1) (at' && isBr o) (kid n false o) l next B/\Okk (n+1) (at' && isBr o) (kid n true o) r B A/\p=A/\next'=A+1/\¬ (at'=true/\∃ q E H,o=.br q E H/\E.page=l.page/\H.page=r.page)
theorem ents_nil {t:PT}(h:t.Wf n)(A:t.ents=[]):t=.nil:=by
 cases t with
 | nil=>rfl
 | leaf p k v=>cases A
 | br p l r =>
  have B:=h.2.2.1;have h2:=congrArg List.length A;simp only[PT.ents,lAp,zH]at h2;omega
theorem ents_one {t:PT}(h:t.Wf n){e:En}(A:t.ents=[e]):∃ p,t=.leaf p e.1 e.2:=by
 cases t with
 | nil=>cases A
 | leaf p k v=>cases A;exact⟨p,rfl⟩
 | br p l r =>
  have B:=h.2.2.1;have h2:=congrArg List.length A;simp only[PT.ents,lAp,zU,zH]at h2;omega
theorem ents_two {t:PT}(h:t.Wf n)(A:2<=t.ents.length):∃ p l r,t=.br p l r:=by
 cases t with
 | nil=>simp[PT.ents]at A
 | leaf p k v=>simp[PT.ents]at A
 | br p l r=>exact⟨p,l,r,rfl⟩
theorem filt_l {l r:PT}(h:(PT.br p l r).Wf n):(l.ents++r.ents).filter (fun x=>!kbit x.1 n)=l.ents:=by
 obtain⟨_,_,_,B,E,_⟩:=h;rw[zS,List.filter_eq_self.2 fun x A=>by rw[B x A];rfl,List.filter_eq_nil_iff.2 fun x A=>by rw[E x A];decide,zO]
theorem filt_r {l r:PT}(h:(PT.br p l r).Wf n):(l.ents++r.ents).filter (fun x=>kbit x.1 n)=r.ents:=by
 obtain⟨_,_,_,B,E,_⟩:=h;rw[zS,List.filter_eq_nil_iff.2 fun x A=>by rw[B x A];decide,List.filter_eq_self.2 fun x A=>by rw[E x A],zL]
theorem lay_one (f n:Nat)(at':Bool){o:PT}(A:o.Wf n)(k v:Bs)(next:Nat):lay f n at' o [(k, v)] next=match pageOf k v o with
  | some p=>(.leaf p k v,next)
  | none=>(.leaf next k v,next+1):=by
 cases f with
 | zero=>rfl
 | succ f =>
  unfold lay
  by_cases h:at'=true/\o.ents=[(k,v)]
  ·rw[if_pos h]
   obtain⟨p,rfl⟩:=ents_one A h.2;simp[pageOf]
  ·rw[if_neg h,if_pos rfl]
theorem lay_same {f n:Nat}{o:PT}(A:o.Wf n)(E:f=256 - n)(next:Nat):lay f n true o o.ents next=(o,next):=by
 cases B:o.ents with
 | nil =>
  rw[ents_nil A B]
  cases f <;> rfl
 | cons e r =>
  cases f with
  | zero =>
   cases r with
   | nil =>
    obtain⟨p,rfl⟩:=ents_one A B;have:=lay_one 0 n true A e.1 e.2 next;rw[show (e.1,e.2)=e from rfl]at this;rw[this];simp[pageOf]
   | cons H r =>
    obtain⟨p,l,I,rfl⟩:=ents_two A (by rw[B];simp);have:=A.2.1;omega
  | succ f =>
   unfold lay;rw[if_pos ⟨rfl,B⟩]
theorem kid_wf {o:PT}{at':Bool}(A:o.Wf n)(b:Bool):(kid n b o).Wf (n+1):=by
 cases o with
 | nil=>exact trivial
 | leaf p k v =>
  show (if kbit k n=b then PT.leaf p k v else PT.nil).Wf (n+1)
  by_cases h:kbit k n=b
  ·rw[if_pos h];exact A
  ·rw[if_neg h];exact trivial
 | br p l r =>
  obtain⟨_,_,_,_,_,B,h2⟩:=A;cases b
  ·exact B
  ·exact h2
theorem okk_lay {dg:Nat->PT->Bs}{pg:Nat->Option Nd}:∀ (t:PT) {n:Nat} {at':Bool} {o:PT} {next next':Nat}, n<=256->t.Wf n->o.Wf n->Stands dg pg n t->(at'=true->Stands dg pg n o) ->
  (Okk n at' o t next next' ↔ lay (256 - n) n at' o t.ents next=(t,next'))
 | .nil,n,at',o,next,next',_,_,_,_,_=>by
  have:lay (256 - n) n at' o (PT.nil).ents next=(.nil,next):=by cases (256 - n) <;> rfl
  rw[this];exact⟨fun h=>by rw[show next'=next from h],fun h=>by cases h;rfl⟩
 | .leaf p k v,n,at',o,next,next',_,_,E,_,_=>by
  have hl:=lay_one (256 - n) n at' E k v next;rw[show (PT.leaf p k v).ents=[(k,v)] from rfl,hl];unfold Okk
  cases hp:pageOf k v o with
  | none =>
   constructor
   ·rintro (⟨h,_⟩ | ⟨_,rfl,rfl⟩)
    ·cases h
    ·rfl
   ·intro h
    cases h;exact .inr ⟨rfl,rfl,rfl⟩
  | some q =>
   constructor
   ·rintro (⟨h,rfl⟩ | ⟨h,_⟩)
    ·cases h;rfl
    ·cases h
   ·intro h
    cases h;exact .inl ⟨rfl,rfl⟩
 | .br p l r,n,at',o,next,next',hn,V,E,a8,W=>by
  have b4:=V.2.1
  obtain⟨f,hf⟩:∃ f,256 - n=f+1:=⟨255 - n,om⟩
  have N:f=256 - (n+1):=om
  have h2:2<=(PT.br p l r).ents.length:=by show 2<=(l.ents++r.ents).length;rw[lAp];exact V.2.2.1
  obtain⟨e,H,O⟩:∃ e H,(PT.br p l r).ents=e::H:=by
   cases h:(PT.br p l r).ents with
   | nil=>rw[h]at h2;simp at h2
   | cons e H=>exact⟨e,H,rfl⟩
  have Y:H≠[]:=fun h=>by rw[O,h]at h2;simp at h2
  have Z:(e::H).filter (fun x=>!kbit x.1 n)=l.ents:=by rw[<- O];exact filt_l V
  have a0:(e::H).filter (fun x=>kbit x.1 n)=r.ents:=by rw[<- O];exact filt_r V
  obtain⟨_,_,_,_,_,a3,a4⟩:=id V;obtain⟨_,_,_,a5,a6⟩:=id a8
  have a7:∀ b,(at' && isBr o)=true->Stands dg pg (n+1) (kid n b o):=fun b h=>by
   rw[Bool.and_eq_true]at h
   cases o with
   | nil=>exact absurd h.2 (by simp[isBr])
   | leaf p k v=>exact absurd h.2 (by simp[isBr])
   | br q l' r' =>
    obtain⟨_,_,_,L,M⟩:=W h.1;cases b
    ·exact L
    ·exact M
  have I:=fun m=>okk_lay (dg:=dg) (pg:=pg) l (n:=n+1) (at':=at' && isBr o) (o:=kid n false o) (next:=next) (next':=m) om a3 (kid_wf (at':=at') E false) a5 (a7 false);have J:=fun m m'=>okk_lay (dg:=dg) (pg:=pg) r (n:=n+1) (at':=at' && isBr o) (o:=kid n true o) (next:=m) (next':=m') om a4 (kid_wf (at':=at') E true) a6 (a7 true);rw[<- N]at I J;rw[hf,O]
  conv=>rhs;unfold lay
  rw[Z,a0];unfold Okk;constructor
  ·rintro (⟨U,rfl,rfl⟩ | ⟨B,m2,L,M,rfl,rfl,R⟩)
   ·rw[if_pos ⟨U,O⟩]
   ·have A:¬ (at'=true/\o.ents=e::H):=fun ⟨U, T⟩=>by
     subst U;obtain⟨q,l',r',rfl⟩:=ents_two E (by rw[T,<- O];exact h2);have e1:l'.ents=l.ents:=by rw[<- Z,<- T];exact (filt_l E).symm
     have e2:r'.ents=r.ents:=by rw[<- a0,<- T];exact (filt_r E).symm
     have L:=(I B).1 L;have M:=(J B p).1 M;obtain⟨_,_,_,_,_,w1,w2⟩:=id E;have s1:=lay_same (f:=f) w1 N next;have s2:=lay_same (f:=f) w2 N B;rw[e1]at s1;rw[e2]at s2;have k1:lay f (n+1) true l' l.ents next=(l,B):=L;have k2:lay f (n+1) true r' r.ents B=(r,p):=M;rw[s1]at k1;rw[s2]at k2;exact R ⟨rfl,q,l',r',rfl,by rw[(Prod.mk.inj k1).1],by rw[(Prod.mk.inj k2).1]⟩
    rw[if_neg A,if_neg Y,(I B).1 L];show (PT.br (lay f (n+1) (at' && isBr o) (kid n true o) r.ents B).2 l (lay f (n+1) (at' && isBr o) (kid n true o) r.ents B).1,(lay f (n+1) (at' && isBr o) (kid n true o) r.ents B).2+1)=_;rw[(J B p).1 M]
  ·intro h
   by_cases A:at'=true/\o.ents=e::H
   ·rw[if_pos A]at h
    cases h;exact .inl ⟨A.1,rfl,rfl⟩
   ·rw[if_neg A,if_neg Y]at h
    simp only[Prod.mk.injEq,PT.br.injEq]at h;obtain⟨⟨hp,a9,b0⟩,b1⟩:=h;refine .inr ⟨_,_,(I _).2 (Prod.ext a9 rfl),(J _ _).2 (Prod.ext b0 rfl),hp.symm,b1.symm,fun ⟨U,q,l',r',b3,p1,p2⟩=>A ⟨U,?_⟩⟩;subst b3;obtain⟨_,_,_,L,M⟩:=W U;obtain⟨_,_,_,_,_,w1,w2⟩:=id E;have e1:=stands_eq L a5 w1 a3 p1;have e2:=stands_eq M a6 w2 a4 p2;rw[<- O,e1,e2];rfl
end Aud
end
namespace Aud
def dgT (wd:Int):Nat->PT->Bs
 | h,.nil=>emptD wd h
 | h,.leaf _ k v=>climb wd k 0 (leafD wd k v) (empts wd h)
 | h,.br _ l r=>qXd wd (dgT wd (h - 1) l) (dgT wd (h - 1) r)
def ndg (wd:Int)(h:Nat):Nd->Bs
 | .leaf k v=>climb wd k 0 (leafD wd k v) (empts wd h)
 | .br A B _ _ E rs=>qXd wd (if A=0 then emptD wd (h - 1) else E) (if B=0 then emptD wd (h - 1) else rs)
def lfOf (k:Bs):PT->Nat
 | .nil=>0
 | .leaf p A _=>if A=k then p else 0
 | .br _ l r=>if lfOf k l=0 then lfOf k r else lfOf k l
def rowOf (at':Bool)(o:PT):Nat:=if at' then o.page else 0
def linked (pg:Nat->Option Nd)(n:Nat)(row:Bs)(page by' count:Nat):Option Nd :=
 match pg page with
 | none=>none
 | some (.leaf k v)=>if page<by'/\count=1/\n<=common k row then some (.leaf k v) else none
 | some (.br A B lc rc E rs)=>if page<by'/\count=lc+rc/\n<256 then some (.br A B lc rc E rs) else none
def likeB (A B:Nat):PT->Bool
 | .br _ l r=>l.page == A && r.page == B
 | _=>false
theorem likeB_iff {H I:Nat}{o:PT}:likeB H I o=true ↔ ∃ q A B,o=.br q A B/\A.page=H/\B.page=I:=by
 cases o with
 | nil=>simp[likeB]
 | leaf p k v=>simp[likeB]
 | br p l r =>
  simp only[likeB,Bool.and_eq_true,beq_iff_eq];constructor
  ·rintro⟨E,h2⟩;exact⟨p,l,r,rfl,E,h2⟩
  ·rintro⟨q,A,B,h,E,h2⟩;cases h;exact⟨E,h2⟩
def under (n:Nat)(b:Bool)(row:Bs):Bs:=if b then row.set (n / 8) (row.getD (n / 8) 0 ||| zX 8 (2 ^ (7 - n % 8))) else row
def thr (wd:Int)(pg:Nat->Option Nd)(fresh:Nat):Nat->Nat->Bool->PT->Bs->Nat->Nat->Nat->Bs->Nat->Except (Nat × Int) (PT × Nat)
 | 0,_,_,_,_,_,by',_,_,_=>.error (by',170)
 | f+1,n,at',o,row,page,by',count,sum,next =>
  match linked pg n row page by' count with
  | none=>.error (by',170)
  | some (.leaf k v) =>
   if page<fresh then
    if lfOf k o=page then (if climb wd k 0 (leafD wd k v) (empts wd (256 - n))=sum then .ok (.leaf page k v,next) else .error (by',171)) else .error (by',172)
   else if page=next/\pageOf k v o=none then (if climb wd k 0 (leafD wd k v) (empts wd (256 - n))=sum then .ok (.leaf page k v,next+1) else .error (by',171)) else .error (page,172)
  | some (.br A B lc rc E rs) =>
   if page<fresh then
    if rowOf at' o=page then (if ndg wd (256 - n) (.br A B lc rc E rs)=sum then .ok (o,next) else .error (by',171)) else .error (by',172)
   else
    match (if A=0 then .ok (.nil,next) else thr wd pg fresh f (n+1) (at' && isBr o) (kid n false o) (under n false row) A page lc E next:Except (Nat × Int) (PT × Nat)) with
    | .error e=>.error e
    | .ok (l,H) =>
     match (if B=0 then .ok (.nil,H) else thr wd pg fresh f (n+1) (at' && isBr o) (kid n true o) (under n true row) B page rc rs H:Except (Nat × Int) (PT × Nat)) with
     | .error e=>.error e
     | .ok (r,I) =>
      if page=I/\¬ (at'=true/\likeB A B o=true) then
       (if ndg wd (256 - n) (.br A B lc rc E rs)=sum then .ok (.br page l r,I+1) else .error (by',171))
      else .error (page,172)
theorem qKb {a b:Bs}(E:n<=256):n<=common a b ↔ ∀ j,j<n->kbit a j=kbit b j:=by
 constructor
 ·intro h j H
  exact qXp om
 ·intro h
  by_cases B:common a b<256
  ·by_cases A:common a b<n
   ·exact absurd (h _ A) (qKs B)
   ·omega
  ·have:=common_le a b;omega
theorem kbit_under {row:Bs}(I:row.length=32)(J:n<256)(B:kbit row n=false)(b:Bool)(j:Nat):kbit (under n b row) j=if j=n then b else kbit row j:=by
 cases b with
 | false =>
  show kbit row j=_
  by_cases h:j=n
  ·rw[if_pos h,h,B]
  ·rw[if_neg h]
 | true =>
  show kbit (row.set (n / 8) (row.getD (n / 8) 0 ||| zX 8 (2 ^ (7 - n % 8)))) j=_;unfold kbit
  by_cases A:j / 8=n / 8
  ·have e:(row.set (n / 8) (row.getD (n / 8) 0 ||| zX 8 (2 ^ (7 - n % 8)))).getD (j / 8) 0=row.getD (n / 8) 0 ||| zX 8 (2 ^ (7 - n % 8)):=by
    rw[A,gDq,List.getElem?_set_self om];rfl
   rw[e,BitVec.getLsbD_or,A]
   have E:(zX 8 (2 ^ (7 - n % 8))).getLsbD (7 - j % 8)=decide (j % 8=n % 8):=by
    have H:n % 8<8:=Nat.mod_lt _ x9;have h2:j % 8<8:=Nat.mod_lt _ x9;generalize n % 8=x at *;generalize j % 8=y at *;have:∀ x,x<8->∀ y,y<8->(zX 8 (2 ^ (7 - x))).getLsbD (7 - y)=decide (y=x):=x9
    exact this x H y h2
   rw[E]
   by_cases h:j=n
   ·rw[if_pos h,h];simp
   ·rw[if_neg h]
    have:j % 8≠n % 8:=fun L=>h om;simp[this]
  ·have e:(row.set (n / 8) (row.getD (n / 8) 0 ||| zX 8 (2 ^ (7 - n % 8)))).getD (j / 8) 0=row.getD (j / 8) 0:=by
    rw[gDq,List.getElem?_set_ne om,<- gDq]
   rw[e,if_neg (fun h=>A (by rw[h]))]
def Row (n:Nat)(row:Bs):Prop:=row.length=32/\∀ j,n<=j->j<256->kbit row j=false
theorem Row.under {row:Bs}(h:Row n row)(A:n<256)(b:Bool):Row (n+1) (Aud.under n b row):=by
 refine⟨?_,fun j B h2=>?_⟩
 ·unfold Aud.under;split
  ·rw[List.length_set];exact h.1
  ·exact h.1
 ·rw[kbit_under h.1 A (h.2 n (xC _) A),if_neg om]
  exact h.2 j om h2
theorem qZt {row k:Bs}(h:Row n row)(A:n<256)(b:Bool):n+1<=common k (Aud.under n b row) ↔ n<=common k row/\kbit k n=b:=by
 rw[qKb om,qKb om];have B:=h.2 n (xC _) A;constructor
 ·intro g
  refine⟨fun j E=>?_,?_⟩
  ·rw[g j om,kbit_under h.1 A B,if_neg om]
  ·rw[g n om,kbit_under h.1 A B,if_pos rfl]
 ·rintro⟨H,I⟩ j E
  rw[kbit_under h.1 A B]
  by_cases e:j=n
  ·rw[if_pos e,e,I]
  ·rw[if_neg e];exact H j om
def NdOk (pg:Nat->Option Nd):Prop:=∀ p nd,pg p=some nd->2<=p/\match nd with
 | .leaf k _=>k.length=32
 | .br A B lc rc E rs=>2<=lc+rc/\(A=0->lc=0/\E=zK 32 0)/\(B=0->rc=0/\rs=zK 32 0)
theorem lf_none {k v:Bs}:∀ {o:PT} {n:Nat},o.Wf n->lfOf k o=0->pageOf k v o=none
 | .nil,_,_,_=>rfl
 | .leaf p E L,n,B,h=>by
  have M:2<=p:=B;unfold lfOf at h;unfold pageOf
  by_cases e:E=k
  ·rw[if_pos e]at h;omega
  ·rw[if_neg fun H=>e H.1]
 | .br p l r,n,B,h=>by
  obtain⟨_,_,_,_,_,I,J⟩:=B;unfold lfOf at h
  have A:lfOf k l=0:=by
   by_cases A:lfOf k l=0
   ·exact A
   ·rw[if_neg A]at h;exact absurd h A
  rw[if_pos A]at h;unfold pageOf;rw[lf_none (v:=v) I A];exact lf_none J h
theorem lf_page {dg:Nat->PT->Bs}{pg:Nat->Option Nd}{k v:Bs}{p:Nat}(B:p≠0)(E:pg p=some (.leaf k v)):∀ {o:PT} {n:Nat},o.Wf n->Stands dg pg n o->lfOf k o=p->pageOf k v o=some p
 | .nil,_,_,_,h=>absurd h.symm B
 | .leaf q I M,n,J,A,h=>by
  unfold lfOf at h
  by_cases e:I=k
  ·rw[if_pos e]at h
   subst h;have A:pg q=some (.leaf I M):=A;rw[A]at E;cases E;unfold pageOf;rw[if_pos ⟨rfl,rfl⟩]
  ·rw[if_neg e]at h;exact absurd h.symm B
 | .br q l r,n,J,A,h=>by
  obtain⟨_,_,_,_,_,L,N⟩:=J;obtain⟨_,_,_,O,R⟩:=A;unfold lfOf at h;unfold pageOf
  by_cases H:lfOf k l=0
  ·rw[if_pos H]at h
   rw[lf_none (v:=v) L H];exact lf_page B E N R h
  ·rw[if_neg H]at h
   rw[lf_page B E L O h];rfl
theorem qVq {pg:Nat->Option Nd}{row:Bs}{page by' count:Nat}{nd:Nd}(h:linked pg n row page by' count=some nd):pg page=some nd/\page<by'/\match nd with
  | .leaf k _=>count=1/\n<=common k row
  | .br _ _ lc rc _ _=>count=lc+rc/\n<256:=by
 unfold linked at h;split at h
 ·cases h
 ·rename_i k v B
  split at h
  ·rename_i A;cases h;exact⟨B,A.1,A.2⟩
  ·cases h
 ·rename_i E H lc rc I rs B
  split at h
  ·rename_i A;cases h;exact⟨B,A.1,A.2⟩
  ·cases h
theorem qKm {dg:Nat->PT->Bs}{pg:Nat->Option Nd}{o:PT}(h:Stands dg pg n o)(b:Bool):Stands dg pg (n+1) (kid n b o):=by
 cases o with
 | nil=>exact trivial
 | leaf p k v =>
  show Stands dg pg (n+1) (if kbit k n=b then PT.leaf p k v else PT.nil)
  by_cases e:kbit k n=b
  ·rw[if_pos e];exact h
  ·rw[if_neg e];exact trivial
 | br p l r =>
  obtain⟨_,_,_,A,h2⟩:=h;cases b
  ·exact A
  ·exact h2
theorem kid_page {dg:Nat->PT->Bs}{pg:Nat->Option Nd}{o:PT}(h:Stands dg pg n o)(A:o.page<fresh)(b:Bool):(kid n b o).page<fresh:=by
 cases o with
 | nil=>exact A
 | leaf p k v =>
  show (if kbit k n=b then PT.leaf p k v else PT.nil).page<fresh
  by_cases e:kbit k n=b
  ·rw[if_pos e];exact A
  ·rw[if_neg e];exact Nat.lt_of_le_of_lt (jK _) A
 | br p l r =>
  obtain⟨_,B,h2,_⟩:=h;have A:p<fresh:=A;cases b
  ·exact Nat.lt_trans B A
  ·exact Nat.lt_trans h2 A
theorem kid_row {o:PT}{row:Bs}(J:o.Wf n)(B:Row n row)(E:n<256)(h:∀ e ∈ o.ents,n<=common e.1 row)(b:Bool):∀ e ∈ (kid n b o).ents,n+1<=common e.1 (under n b row):=by
 cases o with
 | nil=>intro e A;cases A
 | leaf p k v =>
  intro e A;have A:e ∈ (if kbit k n=b then PT.leaf p k v else PT.nil).ents:=A
  by_cases H:kbit k n=b
  ·rw[if_pos H]at A
   exact (qZt B E b).2 ⟨h e A,by rw[List.mem_singleton.1 A];exact H⟩
  ·rw[if_neg H]at A;cases A
 | br p l r =>
  obtain⟨_,_,_,L,I,_⟩:=J;intro e A;cases b
  ·exact (qZt B E false).2 ⟨h e (zW _ A),L e A⟩
  ·exact (qZt B E true).2 ⟨h e (zV _ A),I e A⟩
theorem said_of {t:PT}(A:t≠.nil):said (dgT wd) h t=dgT wd h t:=by
 cases t with
 | nil=>exact absurd rfl A
 | leaf p k v=>rfl
 | br p l r=>rfl
theorem ndg_br {pg:Nat->Option Nd}{l r:PT}(A:l.Wf n)(B:r.Wf m){lc rc:Nat}:ndg wd h (.br l.page r.page lc rc (said (dgT wd) (h - 1) l) (said (dgT wd) (h - 1) r))=dgT wd h (.br p l r):=by
 have key:∀ {t:PT} {n:Nat},t.Wf n->(if t.page=0 then emptD wd (h - 1) else said (dgT wd) (h - 1) t)=dgT wd (h - 1) t:=fun {t n} E=>by
  by_cases e:t.page=0
  ·rw[if_pos e,t.page_nil E e];rfl
  ·rw[if_neg e,said_of fun h=>e (by rw[h];rfl)]
 show qXd wd _ _=qXd wd _ _;rw[key A,key B]
theorem thr_ok {pg:Nat->Option Nd}(hpg:NdOk pg):∀ {f n:Nat} {at':Bool} {o:PT} {row:Bs} {page by' count:Nat} {sum:Bs} {next:Nat} {t:PT} {next':Nat}, n<=256->Row n row->o.Wf n->Stands (dgT wd) pg n o->o.page<fresh->fresh<=next ->
  thr wd pg fresh f n at' o row page by' count sum next=.ok (t,next')->(∀ e ∈ o.ents,n<=common e.1 row) ->
  t.Wf n/\Stands (dgT wd) pg n t/\t.page=page/\t≠.nil/\page<by'/\Okk n at' o t next next'/\t.ents.length=count/\dgT wd (256 - n) t=sum/\(∀ e ∈ t.ents,n<=common e.1 row)/\next<=next':=by
 intro f
 induction f with
 | zero=>intro n at' o row page by' count sum next t next' _ _ _ _ _ _ h;cases h
 | succ f ih =>
  intro n at' o row page by' count sum next t next' hn N R J hf Z h T
  unfold thr at h;split at h
  ·cases h
  ·-- a leaf
   rename_i k v hl;obtain⟨H,hby,U,hrow⟩:=qVq hl;obtain⟨h2,c6⟩:=hpg _ _ H;have A:∀ e ∈ (PT.leaf page k v).ents,n<=common e.1 row:=fun e A=>by rw[List.mem_singleton.1 A];exact hrow
   split at h
   ·split at h
    ·rename_i a0
     split at h
     ·rename_i M
      cases h;exact⟨h2,H,rfl,(fun h=>by cases h),hby,.inl ⟨lf_page om H R J a0,rfl⟩,U.symm,M,A,xC _⟩
     ·cases h
    ·cases h
   ·split at h
    ·rename_i I
     split at h
     ·rename_i M
      cases h;exact⟨h2,H,rfl,(fun h=>by cases h),hby,.inr ⟨I.2,I.1,rfl⟩,U.symm,M,A,jU _⟩
     ·cases h
    ·cases h
  ·-- a branch
   rename_i lp rp lc rc ls rs hl;obtain⟨H,hby,U,B⟩:=qVq hl;obtain⟨h2,b0,c3,c4⟩:=hpg _ _ H;split at h
   ·split at h
    ·rename_i V
     split at h
     ·rename_i M
      cases h
      have ha:at'=true:=by
       cases at' with
       | true=>rfl
       | false=>have:0=page:=V;omega
      subst ha;have E:o.page=page:=V
      cases o with
      | nil=>have:0=page:=E;omega
      | leaf q k v =>
       have E:q=page:=E;subst E;have J:pg q=some (.leaf k v):=J;rw[J]at H;cases H
      | br q l r =>
       have E:q=page:=E;subst E;obtain⟨s0,s1,s2,s3,s4⟩:=id J;rw[s0]at H;cases H;obtain⟨w0,w1,w2,w3,w4,w5,w6⟩:=id R;refine⟨R,J,rfl,(fun h=>by cases h),hby,.inl ⟨rfl,rfl,rfl⟩,?_,?_,T,xC _⟩
       ·show (l.ents++r.ents).length=count
        rw[lAp,U]
       ·rw[<- M,<- ndg_br (wd:=wd) (pg:=pg) (p:=q) (lc:=l.ents.length) (rc:=r.ents.length) (h:=256 - n) w5 w6]
        rw[show 256 - n - 1=255 - n by omega]
     ·cases h
    ·cases h
   ·rename_i c7
    have L:∀ {b:Bool} {O W:Nat} {Y:Bs} {m m':Nat} {u:PT}, fresh<=m->(O=0->W=0/\Y=zK 32 0) ->
      (if O=0 then .ok (.nil,m) else thr wd pg fresh f (n+1) (at' && isBr o) (kid n b o) (under n b row) O page W Y m:Except (Nat × Int) (PT × Nat))=.ok (u,m') ->
      u.Wf (n+1)/\Stands (dgT wd) pg (n+1) u/\u.page=O/\u.page<page/\Okk (n+1) (at' && isBr o) (kid n b o) u m m'/\u.ents.length=W/\said (dgT wd) (255 - n) u=Y/\(∀ e ∈ u.ents,n+1<=common e.1 (under n b row))/\m<=m':=fun {b O W Y m m' u} hm h0 h=>by
     by_cases e:O=0
     ·rw[if_pos e]at h
      cases h;obtain⟨c0,c1⟩:=h0 e;exact⟨trivial,trivial,e.symm,by show 0<page;omega,rfl,c0.symm,c1.symm,(fun e A=>by cases A),xC _⟩
     ·rw[if_neg e]at h
      obtain⟨g1,g2,g3,g4,g5,g6,g7,g8,g9,c5⟩:=ih om (N.under B b) (kid_wf (at':=at') R b) (qKm J b) (kid_page J hf b) hm h (kid_row R N B T b);exact⟨g1,g2,g3,by rw[g3];exact g5,g6,g7,by rw[said_of g4,<- g8];congr 1;omega,g9,c5⟩
    split at h
    ·cases h
    ·rename_i l m1 hL
     split at h
     ·cases h
     ·rename_i r m2 hR
      split at h
      ·rename_i I
       split at h
       ·rename_i M
        cases h;obtain⟨a1,a2,a3,a4,a5,a6,a7,a8,a9⟩:=L Z c3 hL;obtain⟨b1,b2,b3,b4,b5,b6,b7,b8,b9⟩:=L om c4 hR;subst a3;subst b3;subst a6;subst b6;subst a7;subst b7;refine⟨⟨h2,B,b0,fun e A=>((qZt N B false).1 (a8 e A)).2,fun e A=>((qZt N B true).1 (b8 e A)).2,a1,b1⟩,⟨H,a4,b4,a2,b2⟩,rfl,(fun h=>by cases h),hby,.inr ⟨m1,m2,a5,b5,I.1,rfl,fun ⟨ha,q,l',r',e1,e2,e3⟩=>I.2 ⟨ha,likeB_iff.2 ⟨q,l',r',e1,e2,e3⟩⟩⟩,?_,?_,fun e A=>?_,om⟩
        ·show (l.ents++r.ents).length=count
         rw[lAp,U]
        ·rw[<- M,<- ndg_br (wd:=wd) (pg:=pg) (p:=page) (lc:=l.ents.length) (rc:=r.ents.length) (h:=256 - n) a1 b1]
         rw[show 256 - n - 1=255 - n by omega]
        ·rcases List.mem_append.1 A with A | A
         ·exact ((qZt N B false).1 (a8 e A)).1
         ·exact ((qZt N B true).1 (b8 e A)).1
       ·cases h
      ·cases h
theorem page_lf {k v:Bs}{p:Nat}:∀ {o:PT} {n:Nat},o.Wf n->(∀ e ∈ o.ents,∀ A ∈ o.ents,e.1=A.1->e=A)->pageOf k v o=some p->lfOf k o=p
 | .nil,_,_,_,h=>by cases h
 | .leaf q R T,_,_,_,h=>by
  unfold pageOf at h;unfold lfOf
  by_cases e:R=k/\T=v
  ·rw[if_pos e]at h;cases h;rw[if_pos e.1]
  ·rw[if_neg e]at h;cases h
 | .br q l r,n,U,N,h=>by
  obtain⟨_,_,_,wl,V,O,W⟩:=U;unfold pageOf at h;unfold lfOf;have I:∀ e ∈ l.ents,∀ A ∈ l.ents,e.1=A.1->e=A:=fun e E A B=>N e (zW _ E) A (zW _ B);have J:∀ e ∈ r.ents,∀ A ∈ r.ents,e.1=A.1->e=A:=fun e E A B=>N e (zV _ E) A (zV _ B)
  cases H:pageOf k v l with
  | some x =>
   rw[H]at h;cases h;have e:=page_lf O I H;have h2:=pageOf_pos O H;rw[if_neg om];exact e
  | none =>
   rw[H]at h;have h:pageOf k v r=some p:=h;have L:kbit k n=true:=V _ (pageOf_mem h)
   have M:lfOf k l=0:=lf_zero fun e E Y=>by
    have:=wl e E;rw[Y,L]at this;cases this
   rw[if_pos M];exact page_lf W J h
where
 pageOf_mem {k v:Bs} {p:Nat}:∀ {o:PT},pageOf k v o=some p->(k,v) ∈ o.ents
  | .nil,h=>by cases h
  | .leaf q k' v',h=>by
   unfold pageOf at h
   by_cases e:k'=k/\v'=v
   ·rw[<- e.1,<- e.2];exact List.mem_singleton.2 rfl
   ·rw[if_neg e]at h;cases h
  | .br q l r,h=>by
   unfold pageOf at h
   cases hl:pageOf k v l with
   | some x=>exact zW _ (pageOf_mem hl)
   | none=>rw[hl]at h;exact zV _ (pageOf_mem h)
 pageOf_pos {k v:Bs} {p:Nat}:∀ {o:PT} {n:Nat},o.Wf n->pageOf k v o=some p->2<=p
  | .nil,_,_,h=>by cases h
  | .leaf q k' v',_,hw,h=>by
   have hw:2<=q:=hw;unfold pageOf at h
   by_cases e:k'=k/\v'=v
   ·rw[if_pos e]at h;cases h;exact hw
   ·rw[if_neg e]at h;cases h
  | .br q l r,n,hw,h=>by
   obtain⟨_,_,_,_,_,w1,w2⟩:=hw;unfold pageOf at h
   cases hl:pageOf k v l with
   | some x=>rw[hl]at h;cases h;exact pageOf_pos w1 hl
   | none=>rw[hl]at h;exact pageOf_pos w2 h
 lf_zero {k:Bs}:∀ {o:PT},(∀ e ∈ o.ents,e.1≠k)->lfOf k o=0
  | .nil,_=>rfl
  | .leaf q k' v',h=>by
   unfold lfOf;rw[if_neg (h (k',v') (List.mem_singleton.2 rfl))]
  | .br q l r,h=>by
   unfold lfOf;rw[if_pos (lf_zero fun e he=>h e (zW _ he))];exact lf_zero fun e he=>h e (zV _ he)
theorem okk_mono:∀ {t:PT} {n:Nat} {at':Bool} {o:PT} {next next':Nat},Okk n at' o t next next'->next<=next'
 | .nil,_,_,_,_,_,h=>by
  have h:_=_:=h;omega
 | .leaf p k v,_,_,_,_,_,h=>by
  rcases h with ⟨_,h⟩ | ⟨_,_,h⟩ <;> omega
 | .br p l r,_,_,_,_,_,h=>by
  rcases h with ⟨_,_,h⟩ | ⟨B,E,A,h2,_,H,_⟩
  ·omega
  ·have:=okk_mono A;have:=okk_mono h2;omega
theorem pageOf_le {dg:Nat->PT->Bs}{pg:Nat->Option Nd}{k v:Bs}{p:Nat}:∀ {o:PT} {n:Nat},Stands dg pg n o->pageOf k v o=some p->p<=o.page
 | .nil,_,_,h=>by cases h
 | .leaf q B E,_,_,h=>by
  unfold pageOf at h
  by_cases e:B=k/\E=v
  ·rw[if_pos e]at h;cases h;exact xC _
  ·rw[if_neg e]at h;cases h
 | .br q l r,n,H,h=>by
  obtain⟨_,L,h2,I,J⟩:=H;unfold pageOf at h;show p<=q
  cases A:pageOf k v l with
  | some x=>rw[A]at h;cases h;have:=pageOf_le I A;omega
  | none=>rw[A]at h;have:=pageOf_le J h;omega
theorem thr_conv {wd:Int}{pg:Nat->Option Nd}{fresh:Nat}:∀ {t:PT} {f n:Nat} {at':Bool} {o:PT} {row:Bs} {page by' count:Nat} {sum:Bs} {next next':Nat}, n<=256->Row n row->t.Wf n->o.Wf n->Stands (dgT wd) pg n t->Stands (dgT wd) pg n o->(∀ e ∈ o.ents, ∀ M ∈ o.ents, e.1=M.1->e=M)->o.page<fresh->fresh<=next ->
  t≠.nil->t.page=page->page<by'->page<f->t.ents.length=count->dgT wd (256 - n) t=sum->(∀ e ∈ t.ents,n<=common e.1 row)->Okk n at' o t next next'->thr wd pg fresh f n at' o row page by' count sum next=.ok (t,next')
 | .nil,_,_,_,_,_,_,_,_,_,_,_,_,_,_,_,_,_,_,_,_,hne,_,_,_,_,_,_,_=>absurd rfl hne
 | .leaf p k v,f,n,at',o,row,page,by',count,sum,next,next',hn,W,ht,ho,E,A,Y,B,N,_,O,hby,a3,V,I,he,T=>by
  have O:p=page:=O;subst O
  obtain⟨f,rfl⟩:∃ g,f=g+1:=⟨f - 1,om⟩
  have E:pg p=some (.leaf k v):=E
  have hl:linked pg n row p by' count=some (.leaf k v):=by
   unfold linked;rw[E];exact if_pos ⟨hby,V.symm,he (k,v) (List.mem_singleton.2 rfl)⟩
  have I:climb wd k 0 (leafD wd k v) (empts wd (256 - n))=sum:=I;unfold thr;rw[hl];show (if p<fresh then _ else _)=_
  rcases T with ⟨h1,rfl⟩ | ⟨h1,rfl,rfl⟩
  ·have:=pageOf_le A h1
   rw[if_pos om,if_pos (page_lf ho Y h1),if_pos I]
  ·rw[if_neg om,if_pos ⟨rfl,h1⟩,if_pos I]
 | .br p l r,f,n,at',o,row,page,by',count,sum,next,next',hn,W,ht,ho,E,A,Y,B,N,_,O,hby,a3,V,I,he,T=>by
  have O:p=page:=O;subst O
  obtain⟨f,rfl⟩:∃ g,f=g+1:=⟨f - 1,om⟩
  obtain⟨w0,Z,w2,w3,w4,w5,w6⟩:=id ht;obtain⟨s0,s1,s2,s3,s4⟩:=id E;have V:(l.ents++r.ents).length=count:=V;rw[lAp]at V
  have hl:linked pg n row p by' count=some (.br l.page r.page l.ents.length r.ents.length (said (dgT wd) (255 - n) l) (said (dgT wd) (255 - n) r)):=by
   unfold linked;rw[s0];exact if_pos ⟨hby,V.symm,Z⟩
  have I:ndg wd (256 - n) (.br l.page r.page l.ents.length r.ents.length (said (dgT wd) (255 - n) l) (said (dgT wd) (255 - n) r))=sum:=by
   rw[<- I,<- ndg_br (wd:=wd) (pg:=pg) (p:=p) (lc:=l.ents.length) (rc:=r.ents.length) (h:=256 - n) w5 w6];rw[show 256 - n - 1=255 - n by omega]
  unfold thr;rw[hl];show (if p<fresh then _ else _)=_
  rcases T with ⟨rfl,rfl,rfl⟩ | ⟨m1,m2,g1,g2,rfl,rfl,U⟩
  ·have B:p<fresh:=B
   rw[if_pos B,if_pos (show rowOf true (PT.br p l r)=p from rfl),if_pos I]
  ·have k1:=okk_mono g1
   have k2:=okk_mono g2;rw[if_neg om]
   have J:∀ {b:Bool} {u:PT} {m m':Nat}, u.Wf (n+1)->Stands (dgT wd) pg (n+1) u->u.page<p->fresh<=m->(∀ e ∈ u.ents, n+1<=common e.1 (under n b row))->Okk (n+1) (at' && isBr o) (kid n b o) u m m' ->
     (u≠.nil->u.page<p->thr wd pg fresh f (n+1) (at' && isBr o) (kid n b o) (under n b row) u.page p u.ents.length (dgT wd (256 - (n+1)) u) m=.ok (u,m')) ->
     (if u.page=0 then .ok (.nil,m) else thr wd pg fresh f (n+1) (at' && isBr o) (kid n b o) (under n b row) u.page p u.ents.length (said (dgT wd) (255 - n) u) m:Except (Nat × Int) (PT × Nat))=.ok (u,m'):=fun {b u m m'} hw hs H hm hrow T a0=>by
    by_cases e:u.page=0
    ·have Y:=u.page_nil hw e
     subst Y;rw[if_pos e];have T:m'=m:=T;rw[T]
    ·have hne:u≠.nil:=fun h=>e (by rw[h];rfl)
     rw[if_neg e,said_of hne];have:=a0 hne H;rw[show 256 - (n+1)=255 - n by omega]at this;exact this
   have ul:∀ b,∀ e ∈ (kid n b o).ents,∀ M ∈ (kid n b o).ents,e.1=M.1->e=M:=fun b e h M h'=>Y e (kid_sub h) M (kid_sub h');have rl:∀ e ∈ l.ents,n+1<=common e.1 (under n false row):=fun e h=>(qZt W Z false).2 ⟨he e (zW _ h),w3 e h⟩;have rr:∀ e ∈ r.ents,n+1<=common e.1 (under n true row):=fun e h=>(qZt W Z true).2 ⟨he e (zV _ h),w4 e h⟩;have L:=J (b:=false) w5 s3 s1 N rl g1 fun hne H=>thr_conv om (W.under Z false) w5 (kid_wf (at':=at') ho false) s3 (qKm A false) (ul false) (kid_page A B false) N hne rfl H om rfl rfl rl g1;have R:=J (b:=true) w6 s4 s2 om rr g2 fun hne H=>thr_conv om (W.under Z true) w6 (kid_wf (at':=at') ho true) s4 (qKm A true) (ul true) (kid_page A B true) om hne rfl H om rfl rfl rr g2;rw[L]
   show (match (if r.page=0 then .ok (.nil,m1) else thr wd pg fresh f (n+1) (at' && isBr o) (kid n true o) (under n true row) r.page p r.ents.length (said (dgT wd) (255 - n) r) m1:Except (Nat × Int) (PT × Nat)) with
    | .error e=>_
    | .ok (r,m2)=>_)=_
   rw[R];show (if p=p/\_ then _ else _)=_;rw[if_pos ⟨rfl,fun ⟨ha,hb⟩=>U ⟨ha,likeB_iff.1 hb⟩⟩,if_pos I]
where
 kid_sub {n:Nat} {b:Bool} {o:PT} {e:En} (h:e ∈ (kid n b o).ents):e ∈ o.ents:=by
  cases o with
  | nil=>exact h
  | leaf p k v =>
   have h:e ∈ (if kbit k n=b then PT.leaf p k v else PT.nil).ents:=h
   by_cases eb:kbit k n=b
   ·rw[if_pos eb]at h;exact h
   ·rw[if_neg eb]at h;cases h
  | br p l r =>
   cases b
   ·exact zW _ h
   ·exact zV _ h
end Aud
namespace Aud
def Map (n:Nat)(m:List En):Prop:=m.Pairwise (fun a b=>klt a.1 b.1/\n<=common a.1 b.1)/\∀ e ∈ m,e.1.length=32
theorem Map.filter {m:List En}(h:Map n m)(b:Bool):Map (n+1) (m.filter fun x=>kbit x.1 n == b):=by
 refine⟨?_,fun e I=>h.2 e (List.mem_filter.1 I).1⟩;have J:=h.1.filter (fun x=>kbit x.1 n == b);refine List.Pairwise.imp_of_mem (fun {a c} L M A=>⟨A.1,?_⟩) J;have E:=(List.mem_filter.1 L).2;have H:=(List.mem_filter.1 M).2;rw[beq_iff_eq]at E H;have B:=A.1.1
 by_cases e:common a.1 c.1=n
 ·have:=qKs B
  rw[e,E,H]at this;exact absurd rfl this
 ·have:=A.2;omega
theorem Map.lo {m:List En}(h:Map n m):Map (n+1) (m.filter fun x=>!kbit x.1 n):=by
 have:=h.filter false;simpa using this
theorem Map.hi {m:List En}(h:Map n m):Map (n+1) (m.filter fun x=>kbit x.1 n):=by
 have:=h.filter true;simpa using this
theorem filter_split {α:Type}{p:α->Bool}:∀ {l:List α},l.Pairwise (fun a b=>p a=true->p b=true)->(l.filter fun x=>!p x)++l.filter p=l
 | [],_=>rfl
 | a::l,h=>by
  obtain⟨H,h2⟩:=List.pairwise_cons.1 h;have I:=filter_split h2
  by_cases E:p a=true
  ·have A:∀ b ∈ l,p b=true:=fun b J=>H b J E
   have L:(a::l).filter (fun x=>!p x)=[]:=List.filter_eq_nil_iff.2 fun x B=>by
    rcases List.mem_cons.1 B with rfl | B
    ·rw[E];decide
    ·rw[A x B];decide
   have M:(a::l).filter p=a::l:=List.filter_eq_self.2 fun x B=>by
    rcases List.mem_cons.1 B with rfl | B
    ·exact E
    ·exact A x B
   rw[L,M];rfl
  ·have N:p a=false:=by simpa using E
   rw[List.filter_cons,if_pos (by rw[N];rfl),List.filter_cons,if_neg E,zI,I]
theorem Map.split {m:List En}(h:Map n m)(E:n<256):(m.filter fun x=>!kbit x.1 n)++m.filter (fun x=>kbit x.1 n)=m:=by
 refine filter_split (List.Pairwise.imp (fun {a b} A B=>?_) h.1);obtain⟨⟨H,h2,I⟩,J⟩:=A
 by_cases e:common a.1 b.1=n
 ·rw[e]at h2;rw[h2]at B;cases B
 ·rw[<- qXp (show n<common a.1 b.1 by omega)];exact B
theorem lay_ok:∀ {f n:Nat} {at':Bool} {o:PT} {m:List En} {next:Nat} {t:PT} {next':Nat},f=256 - n->n<=256->o.Wf n->Map n m->2<=next->lay f n at' o m next=(t,next')->t.Wf n/\t.ents=m/\next<=next'
 | f,n,at',o,[],next,t,next',_,_,_,_,_,h=>by
  have:lay f n at' o [] next=(.nil,next):=by cases f <;> rfl
  rw[this]at h;cases h;exact⟨trivial,rfl,xC _⟩
 | f,n,at',o,[(k,v)],next,t,next',_,_,A,_,h2,h=>by
  rw[lay_one f n at' A]at h
  cases L:pageOf k v o with
  | none=>rw[L]at h;cases h;exact⟨h2,rfl,jU _⟩
  | some p=>rw[L]at h;cases h;exact⟨page_lf.pageOf_pos A L,rfl,xC _⟩
 | 0,n,at',o,a::b::r,next,t,next',U,V,A,B,_,h=>by
  obtain⟨W,_⟩:=(List.pairwise_cons.1 B.1).1 b (zD ..);have:=W.1;have h2:=((List.pairwise_cons.1 B.1).1 b (zD ..)).2;omega
 | f+1,n,at',o,a::b::r,next,t,next',U,V,A,B,h2,h=>by
  have H:n<256:=om
  unfold lay at h
  by_cases M:at'=true/\o.ents=a::b::r
  ·rw[if_pos M]at h
   cases h;exact⟨A,M.2,xC _⟩
  ·rw[if_neg M,if_neg sm]at h
   obtain⟨l,E,O⟩:∃ l E,lay f (n+1) (at' && isBr o) (kid n false o) ((a::b::r).filter fun x=>!kbit x.1 n) next=(l,E):=⟨_,_,rfl⟩
   obtain⟨N,R,T⟩:∃ N R,lay f (n+1) (at' && isBr o) (kid n true o) ((a::b::r).filter fun x=>kbit x.1 n) E=(N,R):=⟨_,_,rfl⟩
   rw[O]at h;have h:(PT.br (lay f (n+1) (at' && isBr o) (kid n true o) ((a::b::r).filter fun x=>kbit x.1 n) E).2 l (lay f (n+1) (at' && isBr o) (kid n true o) ((a::b::r).filter fun x=>kbit x.1 n) E).1,(lay f (n+1) (at' && isBr o) (kid n true o) ((a::b::r).filter fun x=>kbit x.1 n) E).2+1)=(t,next'):=h;rw[T]at h;cases h;obtain⟨a1,a2,Z⟩:=lay_ok om om (kid_wf (at':=at') A false) B.lo h2 O;obtain⟨Y,b2,b3⟩:=lay_ok om om (kid_wf (at':=at') A true) B.hi om T;have I:=B.split H;refine⟨⟨om,H,?_,fun e J=>?_,fun e J=>?_,a1,Y⟩,?_,om⟩
   ·rw[a2,b2,<- lAp,I];simp
   ·rw[a2]at J
    have:=(List.mem_filter.1 J).2;simpa using this
   ·rw[b2]at J
    exact (List.mem_filter.1 J).2
   ·show l.ents++N.ents=_
    rw[a2,b2,I]
end Aud
section
namespace Aud
section
variable (dg:Nat->PT->Bs)
def ndOf (n:Nat)(l r:PT):Nd:=.br l.page r.page l.ents.length r.ents.length (said dg (255 - n) l) (said dg (255 - n) r)
def news (fresh:Nat):Nat->PT->List Nd
 | _,.nil=>[]
 | _,.leaf p k v=>if fresh<=p then [.leaf k v] else []
 | n,.br p l r=>if fresh<=p then news fresh (n+1) l++news fresh (n+1) r++[ndOf dg n l r] else []
variable {dg}
def At (pg:Nat->Option Nd)(next:Nat)(l:List Nd):Prop:=∀ i (h:i<l.length),pg (next+i)=some l[i]
theorem At.nil (pg:Nat->Option Nd)(next:Nat):At pg next []:=fun i h=>absurd h sm
theorem At_one {pg:Nat->Option Nd}{next:Nat}{x:Nd}:At pg next [x] ↔ pg next=some x :=
 ⟨fun h=>h 0 sm,fun h i hi=>by
  have:i=0:=by simp at hi;omega
  subst this;exact h⟩
theorem At_app {pg:Nat->Option Nd}{next:Nat}{a b:List Nd}:At pg next (a++b) ↔ At pg next a/\At pg (next+a.length) b:=by
 constructor
 ·intro h
  refine⟨fun i hi=>?_,fun i hi=>?_⟩
  ·have:=h i (by rw[lAp];omega)
   rw[jQ hi]at this;exact this
  ·have:=h (a.length+i) (by rw[lAp];omega)
   rw[z9 om]at this;simp only[Nat.add_sub_cancel_left]at this;rw[Nat.add_assoc];exact this
 ·rintro⟨B,h2⟩ i hi
  rw[lAp]at hi
  by_cases A:i<a.length
  ·rw[jQ A];exact B i A
  ·rw[z9 om]
   have:=h2 (i - a.length) om;rw[show next+a.length+(i - a.length)=next+i by omega]at this;exact this
theorem news_old {t:PT}(h:t.page<fresh):news dg fresh n t=[]:=by
 cases t with
 | nil=>rfl
 | leaf p k v =>
  have h:p<fresh:=h;exact if_neg om
 | br p l r =>
  have h:p<fresh:=h;exact if_neg om
theorem qVy {pg:Nat->Option Nd}{k v:Bs}{p:Nat}:∀ {o:PT} {n:Nat},Stands dg pg n o->pageOf k v o=some p->pg p=some (.leaf k v)
 | .nil,_,_,h=>by cases h
 | .leaf q E H,_,A,h=>by
  unfold pageOf at h
  by_cases e:E=k/\H=v
  ·rw[if_pos e]at h
   cases h;have A:pg p=some (.leaf E H):=A;rw[A,e.1,e.2]
  ·rw[if_neg e]at h;cases h
 | .br q l r,n,A,h=>by
  obtain⟨_,_,_,I,J⟩:=A;unfold pageOf at h
  cases B:pageOf k v l with
  | some x=>rw[B]at h;cases h;exact qVy I B
  | none=>rw[B]at h;exact qVy J h
theorem qVr {pg:Nat->Option Nd}{fresh:Nat}(V:0<fresh):∀ {f n:Nat} {at':Bool} {o:PT} {m:List En} {next:Nat} {t:PT} {next':Nat}, f=256 - n->n<=256->o.Wf n->Map n m->Stands dg pg n o->o.page<fresh->fresh<=next->lay f n at' o m next=(t, next') ->
  t.page<next'/\next'=next+(news dg fresh n t).length/\(Stands dg pg n t ↔ At pg next (news dg fresh n t))
 | f,n,at',o,[],next,t,next',_,_,_,_,_,_,B,h=>by
  have:lay f n at' o [] next=(.nil,next):=by cases f <;> rfl
  rw[this]at h;cases h;exact⟨by show 0<next;omega,rfl,⟨fun _=>At.nil _ _,fun _=>trivial⟩⟩
 | f,n,at',o,[(k,v)],next,t,next',_,_,J,_,L,E,B,h=>by
  rw[lay_one f n at' J]at h
  cases M:pageOf k v o with
  | none =>
   rw[M]at h;cases h;have e:news dg fresh n (.leaf next k v)=[.leaf k v]:=if_pos B;rw[e];exact⟨jW _,rfl,At_one.symm⟩
  | some p =>
   rw[M]at h;cases h;have a0:=pageOf_le L M;have e:news dg fresh n (.leaf p k v)=[]:=news_old (show p<fresh by omega);rw[e];exact⟨by show p<next;omega,rfl,⟨fun _=>At.nil _ _,fun _=>qVy L M⟩⟩
 | 0,n,at',o,a::b::r,next,t,next',hf,hn,J,N,_,_,_,h=>by
  have W:=(List.pairwise_cons.1 N.1).1 b (zD ..);have:=W.1.1;have:=W.2;omega
 | f+1,n,at',o,a::b::r,next,t,next',hf,hn,J,N,A,E,B,h=>by
  have a4:n<256:=om
  unfold lay at h
  by_cases L:at'=true/\o.ents=a::b::r
  ·rw[if_pos L]at h
   cases h;rw[news_old E];exact⟨om,rfl,⟨fun _=>At.nil _ _,fun _=>A⟩⟩
  ·rw[if_neg L,if_neg sm]at h
   obtain⟨l,H,Y⟩:∃ l H,lay f (n+1) (at' && isBr o) (kid n false o) ((a::b::r).filter fun x=>!kbit x.1 n) next=(l,H):=⟨_,_,rfl⟩
   obtain⟨I,O,Z⟩:∃ I O,lay f (n+1) (at' && isBr o) (kid n true o) ((a::b::r).filter fun x=>kbit x.1 n) H=(I,O):=⟨_,_,rfl⟩
   rw[Y]at h;have h:(PT.br (lay f (n+1) (at' && isBr o) (kid n true o) ((a::b::r).filter fun x=>kbit x.1 n) H).2 l (lay f (n+1) (at' && isBr o) (kid n true o) ((a::b::r).filter fun x=>kbit x.1 n) H).1,(lay f (n+1) (at' && isBr o) (kid n true o) ((a::b::r).filter fun x=>kbit x.1 n) H).2+1)=(t,next'):=h;rw[Z]at h;cases h;obtain⟨a1,a2,a3⟩:=qVr (pg:=pg) V om om (kid_wf (at':=at') J false) N.lo (qKm A false) (kid_page A E false) B Y;obtain⟨b1,b2,b3⟩:=qVr (pg:=pg) V om om (kid_wf (at':=at') J true) N.hi (qKm A true) (kid_page A E true) om Z;have e:news dg fresh n (.br O l I)=news dg fresh (n+1) l++news dg fresh (n+1) I++[ndOf dg n l I]:=if_pos om;rw[e,At_app,At_app,At_one,<- a3];refine⟨jW _,by rw[lAp,lAp,jJ];omega,?_⟩;rw[<- a2,<- b3,show next+(news dg fresh (n+1) l++news dg fresh (n+1) I).length=O by rw[lAp];omega];exact⟨fun ⟨R,_,_,T,U⟩=>⟨⟨T,U⟩,R⟩,fun ⟨⟨T,U⟩,R⟩=>⟨R,om,b1,T,U⟩⟩
end
end Aud
end
namespace Aud
structure Rc where
 ver:Nat
 first:Nat
 prev:Nat
 skip:Nat
 root:Nat
 count:Nat
 sum:Bs
 deriving DecidableEq
def zrow:Bs:=zK 32 0
theorem row0:Row 0 zrow:=by
 refine⟨by simp[zrow],fun j _ h=>?_⟩;unfold kbit zrow;rw[gDq,List.getElem?_replicate,if_pos om]
 simp
def chAt (A:List Nat)(i:Nat):Nat:=if i=0 then 0 else A.getD (i - 1) 0
def root1 (wd:Int)(A:Nat->Option Nd)(fresh:Nat)(old:PT)(p:Nat)(r:Rc):Except (Nat × Int) PT :=
 match (if r.root=0 then (if r.sum=emptD wd 256 then .ok (.nil,fresh) else .error (p,171)) else thr wd A fresh (r.root+1) 0 true old zrow r.root p r.count r.sum fresh:Except (Nat × Int) (PT × Nat)) with
 | .error e=>.error e
 | .ok (t,next)=>if next=p then .ok t else .error (next,172)
def Ver (wd:Int)(A:Nat->Option Nd)(fresh:Nat)(old:PT)(p:Nat)(r:Rc)(t:PT):Prop :=
 t.Wf 0/\Stands (dgT wd) A 0 t/\t.page=r.root/\t.ents.length=r.count/\dgT wd 256 t=r.sum/\(∀ e ∈ t.ents,e.1.length=32)/\lay 256 0 true old t.ents fresh=(t,p)/\t.page<p
theorem stands_keys {dg:Nat->PT->Bs}{H:Nat->Option Nd}(B:NdOk H):∀ {t:PT} {n:Nat},Stands dg H n t->∀ e ∈ t.ents,e.1.length=32
 | .nil,_,_,e,A=>by cases A
 | .leaf p k v,_,E,e,A=>by
  rw[List.mem_singleton.1 A];have E:H p=some (.leaf k v):=E;exact (B _ _ E).2
 | .br p l r,n,E,e,A=>by
  obtain⟨_,_,_,I,J⟩:=E
  rcases List.mem_append.1 A with A | A
  ·exact stands_keys B I e A
  ·exact stands_keys B J e A
theorem root1_ok {B:Nat->Option Nd}(A:NdOk B){old:PT}{r:Rc}(J:old.Wf 0)(L:Stands (dgT wd) B 0 old)(O:old.page<fresh)(R:r.root=0->r.count=0)(T:0<p){t:PT}(h:root1 wd B fresh old p r=.ok t):Ver wd B fresh old p r t:=by
 unfold root1 at h
 by_cases E:r.root=0
 ·rw[if_pos E]at h
  by_cases hsum:r.sum=emptD wd 256
  ·rw[if_pos hsum]at h
   have h:(if fresh=p then (Except.ok PT.nil:Except (Nat × Int) PT) else .error (fresh,172))=Except.ok t:=h
   by_cases e:fresh=p
   ·rw[if_pos e]at h
    cases h;exact⟨trivial,trivial,E.symm,(R E).symm,hsum.symm,(fun e U=>by cases U),by rw[e];rfl,T⟩
   ·rw[if_neg e]at h;cases h
  ·rw[if_neg hsum]at h;cases h
 ·rw[if_neg E]at h
  split at h
  ·cases h
  ·rename_i t' next H
   split at h
   ·rename_i e
    cases h;subst e;obtain⟨M,I,N,g4,V,W,Y,Z,_,_⟩:=thr_ok A (jK _) row0 J L O (xC _) H fun e _=>jK _;exact⟨M,I,N,Y,Z,stands_keys A I,(okk_lay t (jK _) M J I fun _=>L).1 W,by rw[N];exact V⟩
   ·cases h
theorem root1_conv {E:Nat->Option Nd}{old:PT}{r:Rc}(J:old.Wf 0)(L:Stands (dgT wd) E 0 old)(R:∀ e ∈ old.ents,∀ M ∈ old.ents,e.1=M.1->e=M)(T:old.page<fresh){t:PT}(h:Ver wd E fresh old p r t):root1 wd E fresh old p r=.ok t:=by
 obtain⟨H,N,A,U,O,Y,I,V⟩:=h;unfold root1
 by_cases B:r.root=0
 ·have W:t=.nil:=t.page_nil H (A.trans B)
  subst W;have e:lay 256 0 true old (PT.nil).ents fresh=(.nil,fresh):=rfl;rw[e]at I;cases I;rw[if_pos B,if_pos (show r.sum=emptD wd 256 from O.symm)];exact if_pos rfl
 ·have hne:t≠.nil:=fun h=>B (by rw[<- A,h];rfl)
  rw[if_neg B,thr_conv (jK _) row0 H J N L R T (xC _) hne A (by rw[<- A];exact V) (jW _) U O (fun e _=>jK _) ((okk_lay t (jK _) H J N fun _=>L).2 I)];exact if_pos rfl
end Aud
namespace Aud
def le:Bs->Nat
 | []=>0
 | x::r=>x.toNat+256*le r
def leB:Nat->Nat->Bs
 | 0,_=>[]
 | n+1,v=>zX 8 v::leB n (v / 256)
theorem qXc (n v:Nat):(leB n v).length=n:=by
 induction n generalizing v with
 | zero=>rfl
 | succ n A=>show (leB n _).length+1=_;rw[A]
theorem le_leB {n v:Nat}(h:v<256 ^ n):le (leB n v)=v:=by
 induction n generalizing v with
 | zero=>simp at h;subst h;rfl
 | succ n A =>
  show (zX 8 v).toNat+256*le (leB n (v / 256))=v;rw[A (by rw[Nat.pow_succ]at h;exact Nat.div_lt_of_lt_mul om),zZ];omega
theorem leB_le (b:Bs):leB b.length (le b)=b:=by
 induction b with
 | nil=>rfl
 | cons x b A =>
  show zX 8 (x.toNat+256*le b)::leB b.length ((x.toNat+256*le b) / 256)=_;have B:=x.isLt;rw[show (x.toNat+256*le b) / 256=le b by omega,A]
  congr 1
  refine BitVec.eq_of_toNat_eq ?_;rw[zZ];omega
theorem le_lt (b:Bs):le b<256 ^ b.length:=by
 induction b with
 | nil=>decide
 | cons x b A =>
  have B:=x.isLt;show x.toNat+256*le b<256 ^ (b.length+1);rw[Nat.pow_succ];omega
def zer (b:Bs):Bool:=b.all (· == 0)
theorem zer_iff {b:Bs}:zer b=true ↔ b=zK b.length 0:=by
 unfold zer;rw[List.all_eq_true];constructor
 ·intro h
  exact List.eq_replicate_iff.2 ⟨rfl,fun x A=>by simpa using h x A⟩
 ·intro h x A
  rw[(List.eq_replicate_iff.1 h).2 x A];rfl
def pgB (im:Bs)(p:Nat):Bs:=(im.drop (256*p)).take 256
theorem pgB_len (h:256*p+256<=im.length):(pgB im p).length=256:=by unfold pgB;rw[lTk,lDr];omega
def body (kind p:Nat)(load:Bs):Bs:=padTo 0 252 ([zX 8 kind,zX 8 load.length]++leB 4 p++load)
def pagB (kind p:Nat)(load:Bs):Bs:=body kind p load++sealB (qKg 0 (body kind p load))
def unpP (p:Nat)(raw:Bs):Except Int (Nat × Bs) :=
 if qXw raw=false then .error 52
 else if ¬ (1<=(raw.getD 0 0).toNat/\(raw.getD 0 0).toNat<=3) then .error 50
 else if 246<(raw.getD 1 0).toNat then .error 51
 else if le ((raw.drop 2).take 4)≠p then .error 54
 else if zer ((raw.drop (6+(raw.getD 1 0).toNat)).take (246 - (raw.getD 1 0).toNat))=false then .error 53
 else .ok ((raw.getD 0 0).toNat,(raw.drop 6).take (raw.getD 1 0).toNat)
theorem body_len {kind p:Nat}{load:Bs}(h:load.length<=246):(body kind p load).length=252:=qZn (by simp[qXc];omega)
theorem pagB_len {kind p:Nat}{load:Bs}(h:load.length<=246):(pagB kind p load).length=256:=by unfold pagB;rw[lAp,body_len h];rfl
theorem unp_iff (H:raw.length=256)(hp:p<4096):unpP p raw=.ok (k,l) ↔ (1<=k/\k<=3)/\l.length<=246/\raw=pagB k p l:=by
 constructor
 ·intro h
  unfold unpP at h;split at h
  ·cases h
  rename_i B;split at h
  ·cases h
  rename_i T;split at h
  ·cases h
  rename_i U;split at h
  ·cases h
  rename_i I;split at h
  ·cases h
  rename_i V;simp only[Except.ok.injEq,Prod.mk.injEq]at h;obtain⟨rfl,rfl⟩:=h;have A:((raw.drop 6).take (raw.getD 1 0).toNat).length=(raw.getD 1 0).toNat:=by rw[lTk,lDr];omega
  refine⟨Decidable.of_not_not T,om,?_⟩
  have W:body (raw.getD 0 0).toNat p ((raw.drop 6).take (raw.getD 1 0).toNat)=raw.take 252:=by
   unfold body padTo
   have Y:leB 4 p=(raw.drop 2).take 4:=by
    have Z:((raw.drop 2).take 4).length=4:=by rw[lTk,lDr];omega
    have:=leB_le ((raw.drop 2).take 4);rw[Z,show le ((raw.drop 2).take 4)=p from Decidable.of_not_not I]at this;exact this
   have e2:[zX 8 (raw.getD 0 0).toNat,zX 8 (raw.getD 1 0).toNat]=raw.take 2:=by
    match raw,H with
    | a::b::r,_=>simp
   have N:=zer_iff.1 ((Bool.not_eq_false _).mp V);have J:((raw.drop (6+(raw.getD 1 0).toNat)).take (246 - (raw.getD 1 0).toNat)).length=246 - (raw.getD 1 0).toNat:=by rw[lTk,lDr];omega
   rw[J]at N;rw[A,Y,e2]
   have E:(raw.take 2++(raw.drop 2).take 4++(raw.drop 6).take (raw.getD 1 0).toNat).length=6+(raw.getD 1 0).toNat:=by
    simp only[lAp,A,lTk,lDr];omega
   rw[E,show 252 - (6+(raw.getD 1 0).toNat)=246 - (raw.getD 1 0).toNat by omega,<- N];generalize hq:(raw.getD 1 0).toNat=n at U ⊢;have t1:raw.take 2++(raw.drop 2).take 4=raw.take 6:=(zC (l:=raw) (i:=2) (j:=4)).symm;have t2:raw.take 6++(raw.drop 6).take n=raw.take (6+n):=(zC (l:=raw) (i:=6) (j:=n)).symm;have t3:raw.take (6+n)++(raw.drop (6+n)).take (246 - n)=raw.take (6+n+(246 - n)):=(zC (l:=raw) (i:=6+n) (j:=246 - n)).symm;rw[t1,t2,t3,show 6+n+(246 - n)=252 by omega]
  unfold pagB;rw[W];unfold qXw at B;rw[H]at B;have B:raw.drop 252=sealB (qKg 0 (raw.take 252)):=by simpa using B
  rw[<- B,jZ]
 ·rintro⟨⟨k1,k3⟩,A,rfl⟩
  have a0:=body_len (kind:=k) (p:=p) A;have et:(pagB k p l).take 252=body k p l:=by unfold pagB;rw[zF om,zG om]
  have ed:(pagB k p l).drop 252=sealB (qKg 0 (body k p l)):=by unfold pagB;rw[zM om,zT om,zL]
  have B:qXw (pagB k p l)=true:=by
   unfold qXw;rw[H,decide_eq_true_eq,show 256 - 4=252 from rfl,ed,et]
  have eb:∃ t,pagB k p l=zX 8 k::zX 8 l.length::(leB 4 p++(l++(zK (246 - l.length) 0++t))):=by
   refine⟨sealB (qKg 0 (body k p l)),?_⟩
   conv=>lhs;unfold pagB
   have:body k p l=zX 8 k::zX 8 l.length::(leB 4 p++(l++zK (246 - l.length) 0)):=by
    unfold body padTo;have:([zX 8 k,zX 8 l.length]++leB 4 p++l).length=6+l.length:=by simp only[lAp,qXc,zU,zH]
    rw[this,show 252 - (6+l.length)=246 - l.length by omega]
    simp
   rw[this]
   simp
  obtain⟨t,L⟩:=eb;have d0:(pagB k p l).getD 0 0=zX 8 k:=by rw[L];rfl
  have d1:(pagB k p l).getD 1 0=zX 8 l.length:=by rw[L];rfl
  have n0:(zX 8 k).toNat=k:=by rw[zZ];omega
  have n1:(zX 8 l.length).toNat=l.length:=by rw[zZ];omega
  have O:(pagB k p l).drop 2=leB 4 p++(l++(zK (246 - l.length) 0++t)):=by rw[L];rfl
  have R:(pagB k p l).drop 6=l++(zK (246 - l.length) 0++t):=by
   have:(pagB k p l).drop 6=((pagB k p l).drop 2).drop 4:=by rw[List.drop_drop]
   rw[this,O,zM (by rw[qXc];omega),zT (by rw[qXc];omega),zL]
  have M:(pagB k p l).drop (6+l.length)=zK (246 - l.length) 0++t:=by
   rw[<- List.drop_drop,R,zM (xC _),zT (xC _),zL]
  unfold unpP;rw[d0,d1,n0,n1,B,O,R,M];rw[if_neg x9,if_neg (not_not_intro ⟨k1,k3⟩),if_neg om];rw[zF (by rw[qXc];omega),zG (by rw[qXc];omega),le_leB (show p<256 ^ 4 by omega),if_neg (fun h=>h rfl)];rw[zF (by rw[lRe];omega),zG (by rw[lRe];omega),if_neg (by rw[zer_iff.2 (by rw[lRe])];decide)];rw[zF (xC _),zG (xC _)]
structure Sup where
 width:Nat
 gen:Nat
 mark:Nat
 pages:Nat
 head:Nat
 deriving DecidableEq
def Sup.ok (s:Sup):Prop:=(1<=s.width/\s.width<=32)/\s.gen<=2 ^ 40/\(3<=s.pages/\s.pages<=4096)/\(2<=s.mark/\s.mark<=s.pages)/\(s.head=0∨2<=s.head/\s.head<s.mark)
instance (s:Sup):Decidable s.ok:=by unfold Sup.ok;infer_instance
def supR (raw:Bs):Sup:=⟨(raw.getD 4 0).toNat,le ((raw.drop 8).take 7),le ((raw.drop 16).take 4),le ((raw.drop 24).take 4),le ((raw.drop 20).take 4)⟩
def supF (raw:Bs):Prop:=raw.take 4=[76,68,71,49]/\zer ((raw.drop 5).take 3)=true/\zer ((raw.drop 28).take 32)=true/\raw.getD 15 0=0
instance (raw:Bs):Decidable (supF raw):=by unfold supF;infer_instance
def supP (raw:Bs):Except Int Sup :=
 if qXw (raw.take 64)=false then .error 52
 else if supF raw/\(supR raw).ok then .ok (supR raw) else .error 53
def qJy (a b:Sup):Except Int Sup :=
 if a.gen % 2=0/\b.gen % 2=1/\a.width=b.width/\a.pages=b.pages then
  if a.gen=b.gen+1/\b.mark<=a.mark then .ok a else if b.gen=a.gen+1/\a.mark<=b.mark then .ok b else .error 4
 else .error 4
def blankP (a b:Bs):Bool:=zer (b.take 64) && (zer (a.take 64) || match supP a with | .ok x=>decide (x.gen=0) | .error _=>false)
def qXq (a b:Bs):Except Int Sup :=
 match supP a,supP b with
 | .ok x,.ok y=>qJy x y
 | _,_=>if blankP a b then .error 55 else .error 4
theorem supP_ok {s:Sup}(h:supP raw=.ok s):s.ok:=by
 unfold supP at h;split at h
 ·cases h
 ·split at h
  ·rename_i A;cases h;exact A.2
  ·cases h
theorem newerP_ok {a b s:Sup}(h:qJy a b=.ok s):s=a∨s=b:=by
 unfold qJy at h;split at h
 ·split at h
  ·cases h;exact .inl rfl
  ·split at h
   ·cases h;exact .inr rfl
   ·cases h
 ·cases h
theorem chooseP_ok {a b:Bs}{s:Sup}(h:qXq a b=.ok s):s.ok:=by
 unfold qXq at h;split at h
 ·rename_i x y A B
  rcases newerP_ok h with rfl | rfl
  ·exact supP_ok A
  ·exact supP_ok B
 ·split at h <;> cases h
def chR (page count:Nat)(sum:Bs):Prop:=if page=0 then count=0/\sum=zK 32 0 else 2<=page/\page<4096/\0<count/\count<=4096
instance (page count:Nat) (sum:Bs):Decidable (chR page count sum):=by unfold chR;infer_instance
def brR (A B lc rc:Nat)(E rs:Bs):Prop:=chR A lc E/\chR B rc rs/\A≠B/\2<=lc+rc/\lc+rc<=4096
instance (lp rp lc rc:Nat) (ls rs:Bs):Decidable (brR lp rp lc rc ls rs):=by unfold brR;infer_instance
def nat4 (l:Bs)(i:Nat):Nat:=le ((l.drop i).take 4)
def decN (kind:Nat)(l:Bs):Option Nd :=
 if kind=1 then (if 32<=l.length/\l.length<=160 then some (.leaf (l.take 32) (l.drop 32)) else none)
 else if kind=2/\l.length=80/\brR (nat4 l 0) (nat4 l 4) (nat4 l 8) (nat4 l 12) ((l.drop 16).take 32) ((l.drop 48).take 32) then some (.br (nat4 l 0) (nat4 l 4) (nat4 l 8) (nat4 l 12) ((l.drop 16).take 32) ((l.drop 48).take 32))
 else none
def far (i:Nat):Nat:=i &&& (i - 1)
def isPg (n:Nat):Prop:=2<=n/\n<4096
instance (n:Nat):Decidable (isPg n):=by unfold isPg;infer_instance
def held (root count:Nat):Prop:=(root=0/\count=0)∨(root≠0/\0<count/\count<=4096)
instance (r c:Nat):Decidable (held r c):=by unfold held;infer_instance
def Rc.num (r:Rc):Nat:=if r.first=0 then r.ver else r.ver - r.first+1
def skipOk (i prev skip:Nat):Prop:=if far i=0 then skip=0 else if far i=i - 1 then skip=prev else isPg skip/\skip<prev
instance (i p s:Nat):Decidable (skipOk i p s):=by unfold skipOk;infer_instance
def Rc.right (r:Rc):Prop:=r.first<=2 ^ 30/\max 1 r.first<=r.ver/\r.ver<=2 ^ 30/\held r.root r.count/\(r.root≠0->isPg r.root)/\(if r.num=1 then r.prev=0/\r.skip=0 else isPg r.prev/\skipOk r.num r.prev r.skip)
instance (r:Rc):Decidable r.right:=by unfold Rc.right;infer_instance
def rcR (l:Bs):Rc:=⟨nat4 l 0,nat4 l 4,nat4 l 8,nat4 l 12,nat4 l 16,nat4 l 20,(l.drop 24).take 32⟩
def decR (l:Bs):Option Rc:=if l.length=56/\(rcR l).right then some (rcR l) else none
inductive Pg where
 | nd (n:Nd)
 | rc (r:Rc)
def qZb (p:Nat)(raw:Bs):Except Int Pg :=
 match unpP p raw with
 | .error e=>.error e
 | .ok (k,l) =>
  if k=3 then (match decR l with | some r=>.ok (.rc r) | none=>.error 150)
  else match decN k l with | some n=>.ok (.nd n) | none=>.error 90
def lodN:Nd->Bs
 | .leaf k v=>k++v
 | .br A B lc rc E rs=>leB 4 A++leB 4 B++leB 4 lc++leB 4 rc++E++rs
def Nd.kind:Nd->Nat
 | .leaf _ _=>1
 | .br _ _ _ _ _ _=>2
def Nd.right:Nd->Prop
 | .leaf k v=>k.length=32/\v.length<=128
 | .br B E lc rc A rs=>brR B E lc rc A rs/\A.length=32/\rs.length=32
def lodR (r:Rc):Bs:=leB 4 r.ver++leB 4 r.first++leB 4 r.prev++leB 4 r.skip++leB 4 r.root++leB 4 r.count++r.sum
def Pg.kind:Pg->Nat
 | .nd n=>n.kind
 | .rc _=>3
def Pg.load:Pg->Bs
 | .nd n=>lodN n
 | .rc r=>lodR r
def Pg.bytes (p:Nat)(g:Pg):Bs:=pagB g.kind p g.load
end Aud
namespace Aud
def rowAt:Nat->Bs->PT->Nat × Bs->Option Nat
 | _,_,.nil,_=>none
 | n,row,.leaf p _ _,key=>if key=(n,row) then some p else none
 | n,row,.br p l r,key=>if key=(n,row) then some p else (rowAt (n+1) (under n true row) r key).or (rowAt (n+1) (under n false row) l key)
def lfAt:PT->Bs->Option Nat
 | .nil,_=>none
 | .leaf p A _,k=>if A=k then some p else none
 | .br _ l r,k=>(lfAt r k).or (lfAt l k)
theorem rowAt_in:∀ {t:PT} {n:Nat} {row:Bs} {m:Nat} {r:Bs} {p:Nat},n<=256->t.Wf n->Row n row->rowAt n row t (m,r)=some p->n<=m/\n<=common r row/\Row m r
 | .nil,_,_,_,_,_,_,_,_,h=>by cases h
 | .leaf q k v,n,row,m,r,p,B,_,A,h=>by
  unfold rowAt at h;split at h
  ·rename_i e;cases e;exact⟨xC _,by rw[qKb om];exact fun _ _=>rfl,A⟩
  ·cases h
 | .br q l L,n,row,m,r,p,B,M,A,h=>by
  obtain⟨_,E,_,_,_,H,I⟩:=M;unfold rowAt at h;split at h
  ·rename_i e;cases e;exact⟨xC _,by rw[qKb om];exact fun _ _=>rfl,A⟩
  ·rw[jG]at h
   have J:∀ b (t:PT),t.Wf (n+1)->rowAt (n+1) (under n b row) t (m,r)=some p->(n+1<=m/\n+1<=common r (under n b row)/\Row m r)->n<=m/\n<=common r row/\Row m r:=fun b t _ _ ⟨R,N,O⟩=>⟨om,((qZt A E b).1 N).1,O⟩
   rcases h with h | ⟨_,h⟩
   ·exact J true L I h (rowAt_in om I (A.under E true) h)
   ·exact J false l H h (rowAt_in om H (A.under E false) h)
theorem lfAt_mem:∀ {t:PT} {k:Bs} {p:Nat},lfAt t k=some p->∃ v,(k,v) ∈ t.ents
 | .nil,_,_,h=>by cases h
 | .leaf q A v,k,p,h=>by
  unfold lfAt at h;split at h
  ·rename_i e;subst e;exact⟨v,List.mem_singleton.2 rfl⟩
  ·cases h
 | .br q l r,k,p,h=>by
  unfold lfAt at h;rw[jG]at h
  rcases h with h | ⟨_,h⟩
  ·obtain⟨v,hv⟩:=lfAt_mem h;exact⟨v,zV _ hv⟩
  ·obtain⟨v,hv⟩:=lfAt_mem h;exact⟨v,zW _ hv⟩
theorem lfAt_none {t:PT}{k:Bs}(h:∀ e ∈ t.ents,e.1≠k):lfAt t k=none:=by
 cases A:lfAt t k with
 | none=>rfl
 | some p=>obtain⟨v,hv⟩:=lfAt_mem A;exact absurd rfl (h _ hv)
theorem lfAt_of:∀ {t:PT} {n:Nat} {k:Bs},t.Wf n->lfOf k t=(lfAt t k).getD 0
 | .nil,_,_,_=>rfl
 | .leaf q M v,_,k,_=>by unfold lfOf lfAt;split <;> rfl
 | .br q l r,n,k,E=>by
  obtain⟨_,N,_,H,I,J,L⟩:=E;unfold lfOf lfAt;rw[lfAt_of J,lfAt_of L]
  by_cases B:kbit k n=true
  ·have:lfAt l k=none:=lfAt_none fun e A h=>by have:=H e A;rw[h,B]at this;cases this
   rw[this]
   simp
  ·have:lfAt r k=none:=lfAt_none fun e A h=>B (by have:=I e A;rw[h]at this;exact this)
   rw[this];simp only[Option.getD_none,Option.none_or];split
   ·rename_i h;exact h.symm
   ·rfl
structure Pos (T:PT) (n:Nat) (row:Bs) (at':Bool) (o:PT):Prop where
 rows:∀ m r,n<=m->n<=common r row->rowAt 0 zrow T (m,r)=if at' then rowAt n row o (m,r) else none
 lvs:∀ k,n<=common k row->lfAt T k=lfAt o k
theorem Pos.root (T:PT):Pos T 0 zrow true T:=⟨fun _ _ _ _=>rfl,fun _ _=>rfl⟩
theorem Pos.kid {T:PT}{row:Bs}{o:PT}(h:Pos T n row at' o)(M:o.Wf n)(B:Row n row)(E:n<256)(b:Bool):Pos T (n+1) (under n b row) (at' && isBr o) (Aud.kid n b o):=by
 constructor
 ·intro m r hm R
  obtain⟨c1,c2⟩:=(qZt B E b).1 R;rw[h.rows m r om c1]
  cases at' with
  | false=>rfl
  | true =>
   cases o with
   | nil=>rfl
   | leaf p k v =>
    show (if (m,r)=(n,row) then some p else none)=none;rw[if_neg fun e=>by cases e;omega]
   | br p l I =>
    obtain⟨_,_,_,_,_,N,O⟩:=M;show (if (m,r)=(n,row) then some p else (rowAt (n+1) (under n true row) I (m,r)).or (rowAt (n+1) (under n false row) l (m,r)))=rowAt (n+1) (under n b row) (if b then I else l) (m,r);rw[if_neg fun e=>by cases e;omega]
    have off:∀ A (t:PT),t.Wf (n+1)->A≠b->rowAt (n+1) (under n A row) t (m,r)=none:=fun A t U V=>by
     cases W:rowAt (n+1) (under n A row) t (m,r) with
     | none=>rfl
     | some x =>
      have:=(qZt B E A).1 (rowAt_in om U (B.under E A) W).2.1;exact absurd (this.2.symm.trans c2) V
    cases b with
    | true=>rw[off false l N x9];simp
    | false=>rw[off true I O x9];simp
 ·intro k Y
  obtain⟨c1,c2⟩:=(qZt B E b).1 Y;rw[h.lvs k c1]
  cases o with
  | nil=>rfl
  | leaf p H v =>
   show (if H=k then some p else none)=lfAt (if kbit H n=b then .leaf p H v else .nil) k
   by_cases e:H=k
   ·subst e;rw[if_pos rfl,if_pos c2];unfold lfAt;rw[if_pos rfl]
   ·rw[if_neg e]
    split
    ·unfold lfAt;rw[if_neg e]
    ·rfl
  | br p l r =>
   obtain⟨_,_,_,Z,J,N,O⟩:=M;show (lfAt r k).or (lfAt l k)=lfAt (if b then r else l) k
   cases b with
   | true =>
    rw[show lfAt l k=none from lfAt_none fun e L h=>by have:=Z e L;rw[h,c2]at this;cases this]
    simp
   | false =>
    rw[show lfAt r k=none from lfAt_none fun e L h=>by have:=J e L;rw[h,c2]at this;cases this]
    simp
theorem lfAt_page {dg:Nat->PT->Bs}{pg:Nat->Option Nd}{k:Bs}{q:Nat}:∀ {o:PT} {n:Nat},o.Wf n->Stands dg pg n o->lfAt o k=some q->∃ A,pg q=some (.leaf k A)/\∀ v,pageOf k v o=none ↔ A≠v
 | .nil,_,_,_,h=>by cases h
 | .leaf p Y A,_,_,E,h=>by
  unfold lfAt at h;split at h
  ·rename_i e
   cases h;subst e;exact⟨A,E,fun v=>by unfold pageOf;by_cases e:A=v <;> simp[e]⟩
  ·cases h
 | .br p l r,n,N,E,h=>by
  obtain⟨_,Z,_,J,L,O,R⟩:=N;obtain⟨_,_,_,T,U⟩:=E;unfold lfAt at h;rw[jG]at h
  have M:∀ {t:PT} {v:Bs},(∀ e ∈ t.ents,e.1≠k)->pageOf k v t=none:=fun {t v} V=>by
   cases W:pageOf k v t with
   | none=>rfl
   | some x=>exact absurd rfl (V _ (page_lf.pageOf_mem W))
  rcases h with h | ⟨h0,h⟩
  ·obtain⟨A,a,b⟩:=lfAt_page R U h
   obtain⟨x,H⟩:=lfAt_mem h;have B:=L _ H;refine⟨A,a,fun v=>?_⟩;unfold pageOf;rw[M fun e I h=>by have:=J e I;rw[h]at this;rw[this]at B;cases B];exact b v
  ·obtain⟨A,a,b⟩:=lfAt_page O T h
   obtain⟨x,H⟩:=lfAt_mem h;have B:=J _ H;refine⟨A,a,fun v=>?_⟩;unfold pageOf;rw[M (t:=r) fun e I h=>by have:=L e I;rw[h]at this;rw[this]at B;cases B];rw[<- b v]
   cases pageOf k v l <;> simp
theorem lfAt_nopage {k v:Bs}{o:PT}(h:lfAt o k=none)(A:o.Wf n):pageOf k v o=none:=lf_none A (by rw[lfAt_of A,h];rfl)
end Aud
namespace Aud
theorem thr_fuel {pg:Nat->Option Nd}:∀ {f g n:Nat} {at':Bool} {o:PT} {row:Bs} {page by' count:Nat} {sum:Bs} {next:Nat}, (page<f∨by'<=page)->n<=256->g+n=257 ->
  thr wd pg fresh f n at' o row page by' count sum next=thr wd pg fresh g n at' o row page by' count sum next:=by
 intro f
 induction f with
 | zero =>
  intro g n at' o row page by' count sum next h I J
  cases g with
  | zero=>rfl
  | succ g =>
   have B:linked pg n row page by' count=none:=by
    unfold linked;split
    ·rfl
    ·rw[if_neg fun e=>by omega]
    ·rw[if_neg fun e=>by omega]
   conv=>rhs;unfold thr
   rw[B];rfl
 | succ f L =>
  intro g n at' o row page by' count sum next h I J
  cases g with
  | zero=>omega
  | succ g =>
   unfold thr
   cases B:linked pg n row page by' count with
   | none=>rfl
   | some nd =>
    obtain⟨_,hby,M⟩:=qVq B
    cases nd with
    | leaf k v=>rfl
    | br R T lc rc U rs =>
     have N:n<256:=M.2
     have O:∀ (b:Bool) (A E:Nat) (H:Bs) (m:Nat), (if A=0 then Except.ok (PT.nil, m) else thr wd pg fresh f (n+1) (at' && isBr o) (kid n b o) (under n b row) A page E H m:Except (Nat × Int) (PT × Nat)) =
       (if A=0 then Except.ok (PT.nil,m) else thr wd pg fresh g (n+1) (at' && isBr o) (kid n b o) (under n b row) A page E H m):=fun b A E H m=>by
      split
      ·rfl
      ·exact L om om om
     simp only[O]
def rcAt (pg:Nat->Option Pg)(p:Nat):Rc:=match pg p with
 | some (.rc r)=>r
 | _=>⟨0,0,0,0,0,0,zK 32 0⟩
def pnOf (pg:Nat->Option Pg)(p:Nat):Option Nd:=match pg p with
 | some (.nd n)=>some n
 | _=>none
def chainR (pg:Nat->Option Pg)(ch:List Nat)(i:Nat):Prop :=
 let r:=rcAt pg (chAt ch i)
 let first:=(rcAt pg (chAt ch 1)).first
 r.first=first/\r.ver=(if 0<first then first+i - 1 else i)/\r.prev=chAt ch (i - 1)/\r.skip=chAt ch (far i)
instance (pg:Nat->Option Pg) (ch:List Nat) (i:Nat):Decidable (chainR pg ch i):=by unfold chainR;infer_instance
def verP (wd:Int)(pg:Nat->Option Pg)(ch:List Nat)(i:Nat)(old:PT):Except (Nat × Int) PT :=
 if chainR pg ch i then root1 wd (pnOf pg) (max 1 (chAt ch (i - 1))+1) old (chAt ch i) (rcAt pg (chAt ch i)) else .error (chAt ch i,173)
def versP (wd:Int)(pg:Nat->Option Pg)(ch:List Nat):Nat->Nat->PT->Except (Nat × Int) Unit
 | 0,_,_=>.ok ()
 | n+1,i,old=>match verP wd pg ch i old with
  | .error e=>.error e
  | .ok t=>versP wd pg ch n (i+1) t
def wholeP (wd:Int)(pg:Nat->Option Pg)(ch:List Nat)(mark head:Nat):Except (Nat × Int) Unit :=
 match versP wd pg ch ch.length 1 .nil with
 | .error e=>.error e
 | .ok _ =>
  let A:=max 1 (chAt ch ch.length)
  if A+1<mark then .error (A+1,172) else if 0<ch.length/\head≠A then .error (A,173) else .ok ()
end Aud
namespace Aud
def pgF (im:Bs)(mark:Nat)(p:Nat):Option Pg:=if 2<=p/\p<mark then (match qZb p (pgB im p) with | .ok g=>some g | .error _=>none) else none
def qXv (im:Bs)(p:Nat):Int:=if p<2 then (if zer ((pgB im p).drop 64)=false then 53 else 0) else (match qZb p (pgB im p) with | .ok _=>0 | .error e=>e)
def qXx (im:Bs)(k:Nat):List (Nat × Int):=(List.range k).filterMap fun p=>if qXv im p=0 then none else some (p,qXv im p)
theorem qJo (im:Bs)(k:Nat):qXx im (k+1)=qXx im k++(if qXv im k=0 then [] else [(k,qXv im k)]):=by
 unfold qXx;rw[List.range_succ,List.filterMap_append]
 by_cases h:qXv im k=0
 ·rw[if_pos h];simp[h]
 ·rw[if_neg h];simp[h]
theorem found1_len (im:Bs)(k:Nat):(qXx im k).length<=k:=by
 unfold qXx;exact Nat.le_trans (List.length_filterMap_le _ _) sm
def chF (pg:Nat->Option Pg)(k:Nat):List Nat:=(List.range k).filter fun p=>match pg p with
 | some (.rc _)=>true
 | _=>false
def qJi (im:Bs)(s:Sup):List (Nat × Int) :=
 if qXx im s.mark=[] then (match wholeP s.width (pgF im s.mark) (chF (pgF im s.mark) s.mark) s.mark s.head with | .ok _=>[] | .error e=>[e]) else qXx im s.mark
def lookP (im:Bs):Except Int (Sup × List (Nat × Int)) :=
 if im.length % 256≠0 then .error 42
 else if im.length / 256<3∨4096<im.length / 256 then .error 40
 else match qXq (pgB im 0) (pgB im 1) with
  | .error e=>.error e
  | .ok s=>if s.pages≠im.length / 256 then .error 4 else .ok (s,qJi im s)
theorem pgF_some {g:Pg}(h:pgF im m p=some g):2<=p/\p<m/\qZb p (pgB im p)=.ok g:=by
 unfold pgF at h;split at h
 ·rename_i A
  split at h
  ·rename_i E B;cases h;exact⟨A.1,A.2,B⟩
  ·cases h
 ·cases h
theorem pgF_none (h:¬ (2<=p/\p<m)):pgF im m p=none:=if_neg h
theorem decN_right {n:Nd}(h:decN k l=some n):n.right:=by
 unfold decN at h;split at h
 ·split at h
  ·rename_i A
   cases h;exact⟨by rw[lTk];omega,by rw[lDr];omega⟩
  ·cases h
 ·split at h
  ·rename_i A
   cases h;exact⟨A.2.2,by rw[lTk,lDr];omega,by rw[lTk,lDr];omega⟩
  ·cases h
theorem decR_right {r:Rc}(h:decR l=some r):r.right/\r.sum.length=32:=by
 unfold decR at h;split at h
 ·rename_i A
  cases h;exact⟨A.2,by show ((l.drop 24).take 32).length=32;rw[lTk,lDr];omega⟩
 ·cases h
theorem qWe {g:Pg}(h:qZb p raw=.ok g):match g with | .nd n=>n.right | .rc r=>r.right/\r.sum.length=32:=by
 unfold qZb at h;split at h
 ·cases h
 ·split at h
  ·split at h
   ·rename_i r A;cases h;exact decR_right A
   ·cases h
  ·split at h
   ·rename_i n B;cases h;exact decN_right B
   ·cases h
end Aud
namespace Aud
def PT.pgs:PT->List Nat
 | .nil=>[]
 | .leaf p _ _=>[p]
 | .br p l r=>p::(l.pgs++r.pgs)
theorem pgs_len:∀ {t:PT} {n d:Nat},t.Wf n->n+d=257->1<=d->t.pgs.length<=t.ents.length*d
 | .nil,_,_,_,_,_=>jK _
 | .leaf q k v,_,d,_,_,A=>by show 1<=1*d;omega
 | .br q l r,n,d,B,I,_=>by
  obtain⟨J,A,h2,_,_,E,H⟩:=B
  obtain⟨e,rfl⟩:∃ e,d=e+1:=⟨d - 1,om⟩
  have a:=pgs_len (d:=e) E om om;have b:=pgs_len (d:=e) H om om;show (l.pgs++r.pgs).length+1<=(l.ents++r.ents).length*(e+1);rw[lAp,lAp,Nat.add_mul,Nat.mul_succ,Nat.mul_succ];omega
theorem kid_pgs {b:Bool}{o:PT}(h:p ∈ (kid n b o).pgs):p ∈ o.pgs:=by
 cases o with
 | nil=>exact h
 | leaf q k v =>
  have h:p ∈ (if kbit k n=b then PT.leaf q k v else PT.nil).pgs:=h;split at h
  ·exact h
  ·cases h
 | br q l r =>
  cases b
  ·exact zY _ (zW _ h)
  ·exact zY _ (zV _ h)
theorem qKk {k v:Bs}{p:Nat}:∀ {o:PT},pageOf k v o=some p->p ∈ o.pgs
 | .nil,h=>by cases h
 | .leaf q B E,h=>by
  unfold pageOf at h;split at h
  ·cases h;exact List.mem_singleton.2 rfl
  ·cases h
 | .br q l r,h=>by
  unfold pageOf at h
  cases A:pageOf k v l with
  | some x=>rw[A]at h;cases h;exact zY _ (zW _ (qKk A))
  | none=>rw[A]at h;exact zY _ (zV _ (qKk h))
theorem lay_pgs:∀ {f n:Nat} {at':Bool} {o:PT} {m:List En} {next:Nat} {t:PT} {next':Nat}, lay f n at' o m next=(t, next') ->
  next<=next'/\(∀ p ∈ t.pgs,p ∈ o.pgs∨next<=p/\p<next')/\∀ p,next<=p->p<next'->p ∈ t.pgs:=by
 intro f
 have one:∀ {k v:Bs} {o:PT} {next:Nat} {t:PT} {next':Nat},(match pageOf k v o with | some p=>(PT.leaf p k v,next) | none=>(PT.leaf next k v,next+1))=(t,next')->next<=next'/\(∀ p ∈ t.pgs,p ∈ o.pgs∨next<=p/\p<next')/\∀ p,next<=p->p<next'->p ∈ t.pgs:=fun {k v o next t next'} h=>by
  cases A:pageOf k v o with
  | some q =>
   rw[A]at h;cases h;exact⟨xC _,fun p h=>.inl (by rw[List.mem_singleton.1 h];exact qKk A),fun p E h2=>absurd h2 om⟩
  | none =>
   rw[A]at h;cases h;exact⟨jU _,fun p h=>.inr (by rw[List.mem_singleton.1 h];omega),fun p E h2=>List.mem_singleton.2 om⟩
 induction f with
 | zero =>
  intro n at' o m next t next' h
  cases m with
  | nil=>unfold lay at h;cases h;exact⟨xC _,(fun p h=>by cases h),fun p E h2=>absurd h2 om⟩
  | cons e r=>unfold lay at h;exact one h
 | succ f I =>
  intro n at' o m next t next' h
  cases m with
  | nil=>unfold lay at h;cases h;exact⟨xC _,(fun p h=>by cases h),fun p E h2=>absurd h2 om⟩
  | cons e r =>
   unfold lay at h;split at h
   ·cases h;exact⟨xC _,fun p h=>.inl h,fun p E h2=>absurd h2 om⟩
   ·split at h
    ·exact one h
    ·obtain⟨l,B,J⟩:∃ l B,lay f (n+1) (at' && isBr o) (kid n false o) ((e::r).filter fun x=>!kbit x.1 n) next=(l,B):=⟨_,_,rfl⟩
     obtain⟨L,H,M⟩:∃ L H,lay f (n+1) (at' && isBr o) (kid n true o) ((e::r).filter fun x=>kbit x.1 n) B=(L,H):=⟨_,_,rfl⟩
     rw[J]at h;have h:(PT.br (lay f (n+1) (at' && isBr o) (kid n true o) ((e::r).filter fun x=>kbit x.1 n) B).2 l (lay f (n+1) (at' && isBr o) (kid n true o) ((e::r).filter fun x=>kbit x.1 n) B).1,(lay f (n+1) (at' && isBr o) (kid n true o) ((e::r).filter fun x=>kbit x.1 n) B).2+1)=(t,next'):=h;rw[M]at h;cases h;obtain⟨a1,a2,N⟩:=I J;obtain⟨U,b2,O⟩:=I M;refine⟨om,fun p A=>?_,fun p E h2=>?_⟩
     ·rcases List.mem_cons.1 A with A | A
      ·exact .inr om
      ·rcases List.mem_append.1 A with A | A
       ·rcases a2 p A with h | h
        ·exact .inl (kid_pgs h)
        ·exact .inr om
       ·rcases b2 p A with h | h
        ·exact .inl (kid_pgs h)
        ·exact .inr om
     ·by_cases R:p=H
      ·rw[R];exact zD ..
      ·by_cases T:p<B
       ·exact zY _ (zW _ (N p E T))
       ·exact zY _ (zV _ (O p om om))
def trP (wd:Int)(pg:Nat->Option Pg)(ch:List Nat):Nat->PT
 | 0=>.nil
 | i+1=>match verP wd pg ch (i+1) (trP wd pg ch i) with
  | .ok t=>t
  | .error _=>.nil
theorem trP_ok {pg:Nat->Option Pg}{ch:List Nat}{t:PT}(h:verP wd pg ch (i+1) (trP wd pg ch i)=.ok t):trP wd pg ch (i+1)=t:=by
 show (match verP wd pg ch (i+1) (trP wd pg ch i) with | .ok t=>t | .error _=>.nil)=t;rw[h]
end Aud
section
namespace Aud
structure PgOk (pg:Nat->Option Pg) (mark:Nat):Prop where
 hm:mark<=4096
 hpg:∀ p,mark<=p->pg p=none
 hnd:∀ p n,pg p=some (.nd n)->2<=p/\n.right
 hrc:∀ p r,pg p=some (.rc r)->2<=p/\r.right/\r.sum.length=32
section
variable {wd:Int} {pg:Nat->Option Pg} {mark:Nat}
theorem pnOf_some {n:Nd}(h:pnOf pg p=some n):pg p=some (.nd n):=by
 unfold pnOf at h;split at h
 ·rename_i m e;cases h;exact e
 ·cases h
theorem chF_mem:p ∈ chF pg mark ↔ p<mark/\∃ r,pg p=some (.rc r):=by
 unfold chF;rw[List.mem_filter,List.mem_range];constructor
 ·rintro⟨a,b⟩
  refine⟨a,?_⟩;split at b
  ·rename_i r e;exact⟨r,e⟩
  ·cases b
 ·rintro⟨a,r,e⟩
  exact⟨a,by rw[e]⟩
theorem chAt_get {ch:List Nat}(A:1<=i)(h2:i<=ch.length):∃ h:i - 1<ch.length,chAt ch i=ch[i - 1]:=by
 refine⟨om,?_⟩;unfold chAt;rw[if_neg om,gDq,xE om]
 rfl
theorem PgOk.ch (h:PgOk pg mark)(B:1<=i)(h2:i<=(chF pg mark).length):2<=chAt (chF pg mark) i/\chAt (chF pg mark) i<mark/\pg (chAt (chF pg mark) i)=some (.rc (rcAt pg (chAt (chF pg mark) i))):=by
 obtain⟨E,e⟩:=chAt_get B h2;have A:=List.getElem_mem E;rw[<- e,chF_mem]at A;obtain⟨a,r,b⟩:=A;refine⟨(h.hrc _ _ b).1,a,?_⟩;unfold rcAt;rw[b]
def uses (wd:Int)(pg:Nat->Option Pg)(ch:List Nat)(i p:Nat):Prop:=1<=i/\(p=chAt ch i∨p ∈ (trP wd pg ch i).pgs)
def VsOk (wd:Int)(pg:Nat->Option Pg)(ch:List Nat):Prop:=∀ i,i<ch.length->verP wd pg ch (i+1) (trP wd pg ch i)=.ok (trP wd pg ch (i+1))
section
variable (h:PgOk pg mark) (hv:VsOk wd pg (chF pg mark))
include h hv
end
end
theorem pgOk {s:Sup}(h:s.ok):PgOk (pgF im s.mark) s.mark where
 hm:=by obtain⟨_,_,h3,h4,_⟩:=h;omega
 hpg p hp:=pgF_none fun e=>by omega
 hnd p n hn:=by obtain⟨h2,_,ha⟩:=pgF_some hn;exact⟨h2,qWe ha⟩
 hrc p r hr:=by obtain⟨h2,_,ha⟩:=pgF_some hr;exact⟨h2,qWe ha⟩
structure Cln (im:Bs) (s:Sup):Prop where
 ok:s.ok
 one:∀ p,2<=p->p<s.mark->pgF im s.mark p≠none
 vs:VsOk s.width (pgF im s.mark) (chF (pgF im s.mark) s.mark)
 mkd:(chF (pgF im s.mark) s.mark).length=0/\s.mark=2/\s.head=0∨0<(chF (pgF im s.mark) s.mark).length/\s.mark=chAt (chF (pgF im s.mark) s.mark) (chF (pgF im s.mark) s.mark).length+1/\s.head=chAt (chF (pgF im s.mark) s.mark) (chF (pgF im s.mark) s.mark).length
theorem look_sup {s:Sup}{A:List (Nat × Int)}(h:lookP im=.ok (s,A)):s.ok/\A=qJi im s:=by
 unfold lookP at h;split at h
 ·cases h
 ·split at h
  ·cases h
  ·split at h
   ·cases h
   ·rename_i s' B
    split at h
    ·cases h
    ·cases h;exact⟨chooseP_ok B,rfl⟩
end Aud
end
namespace Aud
theorem qJn {a r:Bs}{i v:Nat}(A:a.length=i)(hv:v<4294967296):nat4 (a++(leB 4 v++r)) i=v:=by
 unfold nat4;rw[zP A,zN (qXc 4 v)];exact le_leB om
theorem sub_at {a b r:Bs}{i j:Nat}(A:a.length=i)(B:b.length=j):((a++(b++r)).drop i).take j=b:=by
 rw[zP A,zN B]
theorem qJu (h:i+4<=l.length):leB 4 (nat4 l i)=(l.drop i).take 4:=by
 have A:((l.drop i).take 4).length=4:=by rw[lTk,lDr];omega
 have:=leB_le ((l.drop i).take 4);rw[A]at this;exact this
theorem qKq (l:Bs)(i j:Nat):l.take i++(l.drop i).take j=l.take (i+j):=(zC (l:=l) (i:=i) (j:=j)).symm
theorem chR_lt {p c:Nat}{s:Bs}(h:chR p c s):p<4096/\c<=4096:=by
 unfold chR at h;split at h
 ·omega
 ·omega
theorem decN_iff {n:Nd}:decN k l=some n ↔ n.right/\k=n.kind/\l=lodN n:=by
 constructor
 ·intro h
  refine⟨decN_right h,?_⟩;unfold decN at h;split at h
  ·rename_i T
   split at h
   ·cases h
    exact⟨T,(jZ 32 l).symm⟩
   ·cases h
  ·split at h
   ·rename_i J
    cases h;refine⟨J.1,?_⟩;show l=leB 4 (nat4 l 0)++leB 4 (nat4 l 4)++leB 4 (nat4 l 8)++leB 4 (nat4 l 12)++(l.drop 16).take 32++(l.drop 48).take 32;have J:=J.2.1;rw[qJu om,qJu om,qJu om,qJu om,List.drop_zero,qKq,qKq,qKq,qKq,qKq];rw[zG om]
   ·cases h
 ·rintro⟨H,rfl,rfl⟩
  cases n with
  | leaf k v =>
   have H:k.length=32/\v.length<=128:=H;unfold decN;rw[if_pos (show Nd.kind (.leaf k v)=1 from rfl),if_pos (by show 32<=(k++v).length/\(k++v).length<=160;rw[lAp];omega)];show some (Nd.leaf ((k++v).take 32) ((k++v).drop 32))=_;rw[zN H.1,zP H.1]
  | br A E lc rc B rs =>
   obtain⟨L,M,h2⟩:brR A E lc rc B rs/\B.length=32/\rs.length=32:=H;have J:=chR_lt L.1;have U:=chR_lt L.2.1
   have e:lodN (.br A E lc rc B rs)=leB 4 A++(leB 4 E++(leB 4 lc++(leB 4 rc++(B++(rs++[]))))):=by
    show leB 4 A++leB 4 E++leB 4 lc++leB 4 rc++B++rs=_;simp only[zJ,zO]
   have V:nat4 (lodN (.br A E lc rc B rs)) 0=A:=by rw[e];exact qJn (a:=[]) rfl om
   have W:nat4 (lodN (.br A E lc rc B rs)) 4=E:=by rw[e];exact qJn (a:=leB 4 A) rfl om
   have Y:nat4 (lodN (.br A E lc rc B rs)) 8=lc:=by rw[e,<- zJ];exact qJn (by rfl) om
   have N:nat4 (lodN (.br A E lc rc B rs)) 12=rc:=by rw[e,<- zJ,<- zJ];exact qJn (by rfl) om
   have O:((lodN (.br A E lc rc B rs)).drop 16).take 32=B:=by rw[e,<- zJ,<- zJ,<- zJ];exact sub_at (by rfl) M
   have R:((lodN (.br A E lc rc B rs)).drop 48).take 32=rs:=by
    rw[e,<- zJ,<- zJ,<- zJ,<- zJ];exact sub_at (by rw[lAp,M];rfl) h2
   have I:(lodN (.br A E lc rc B rs)).length=80:=by
    rw[e];simp only[lAp,qXc,M,h2,zH]
   unfold decN;rw[if_neg (by show ¬ (2=1);decide),V,W,Y,N,O,R,if_pos ⟨rfl,I,L⟩]
theorem decR_iff {r:Rc}:decR l=some r ↔ (r.right/\r.sum.length=32)/\l=lodR r:=by
 constructor
 ·intro h
  refine⟨decR_right h,?_⟩;unfold decR at h;split at h
  ·rename_i N
   cases h;have N:=N.1;show l=leB 4 (nat4 l 0)++leB 4 (nat4 l 4)++leB 4 (nat4 l 8)++leB 4 (nat4 l 12)++leB 4 (nat4 l 16)++leB 4 (nat4 l 20)++(l.drop 24).take 32;rw[qJu om,qJu om,qJu om,qJu om,qJu om,qJu om,List.drop_zero,qKq,qKq,qKq,qKq,qKq,qKq];rw[zG om]
  ·cases h
 ·rintro⟨⟨O,B⟩,rfl⟩
  obtain⟨v,f,p,k,ro,c,s⟩:=r;have E:=O;obtain⟨U,V,W,R,T,H⟩:=O;have B:s.length=32:=B;simp only at U V W R T H
  have bp:p<4096/\k<4096:=by
   split at H
   ·omega
   ·obtain⟨⟨_,a⟩,b⟩:=H
    refine⟨a,?_⟩;unfold skipOk at b;split at b
    ·omega
    ·split at b
     ·omega
     ·exact b.1.2
  have br:ro<4096/\c<=4096:=by
   rcases R with h | h
   ·omega
   ·exact⟨(T h.1).2,h.2.2⟩
  have e:lodR ⟨v,f,p,k,ro,c,s⟩=leB 4 v++(leB 4 f++(leB 4 p++(leB 4 k++(leB 4 ro++(leB 4 c++(s++[])))))):=by
   show leB 4 v++leB 4 f++leB 4 p++leB 4 k++leB 4 ro++leB 4 c++s=_;simp only[zJ,zO]
  have A:(lodR ⟨v,f,p,k,ro,c,s⟩).length=56:=by rw[e];simp only[lAp,qXc,B,zH]
  have Y:nat4 (lodR ⟨v,f,p,k,ro,c,s⟩) 0=v:=by rw[e];exact qJn (a:=[]) rfl om
  have Z:nat4 (lodR ⟨v,f,p,k,ro,c,s⟩) 4=f:=by rw[e];exact qJn (a:=leB 4 v) rfl om
  have n8:nat4 (lodR ⟨v,f,p,k,ro,c,s⟩) 8=p:=by rw[e,<- zJ];exact qJn (by rfl) om
  have I:nat4 (lodR ⟨v,f,p,k,ro,c,s⟩) 12=k:=by rw[e,<- zJ,<- zJ];exact qJn (by rfl) om
  have J:nat4 (lodR ⟨v,f,p,k,ro,c,s⟩) 16=ro:=by rw[e,<- zJ,<- zJ,<- zJ];exact qJn (by rfl) om
  have L:nat4 (lodR ⟨v,f,p,k,ro,c,s⟩) 20=c:=by rw[e,<- zJ,<- zJ,<- zJ,<- zJ];exact qJn (by rfl) om
  have M:((lodR ⟨v,f,p,k,ro,c,s⟩).drop 24).take 32=s:=by rw[e,<- zJ,<- zJ,<- zJ,<- zJ,<- zJ];exact sub_at (by rfl) B
  have hR:rcR (lodR ⟨v,f,p,k,ro,c,s⟩)=⟨v,f,p,k,ro,c,s⟩:=by unfold rcR;rw[Y,Z,n8,I,J,L,M]
  unfold decR;rw[hR,if_pos ⟨A,E⟩]
def Pg.right:Pg->Prop
 | .nd n=>n.right
 | .rc r=>r.right/\r.sum.length=32
theorem lodN_len {n:Nd}(h:n.right):(lodN n).length<=160:=by
 cases n with
 | leaf k v =>
  have h:k.length=32/\v.length<=128:=h;show (k++v).length<=160;rw[lAp];omega
 | br B E lc rc A rs =>
  obtain⟨_,H,h2⟩:brR B E lc rc A rs/\A.length=32/\rs.length=32:=h;show (leB 4 B++leB 4 E++leB 4 lc++leB 4 rc++A++rs).length<=160;simp only[lAp,qXc,H,h2];omega
theorem lodR_len {r:Rc}(h:r.sum.length=32):(lodR r).length=56:=by
 show (leB 4 r.ver++leB 4 r.first++leB 4 r.prev++leB 4 r.skip++leB 4 r.root++leB 4 r.count++r.sum).length=56;simp only[lAp,qXc,h]
theorem alone_iff (E:raw.length=256)(H:p<4096){g:Pg}:qZb p raw=.ok g ↔ g.right/\raw=g.bytes p:=by
 unfold qZb;constructor
 ·intro h
  split at h
  ·cases h
  ·rename_i k l B
   obtain⟨_,_,e⟩:=(unp_iff E H).1 B;split at h
   ·rename_i I
    split at h
    ·rename_i r A
     cases h;obtain⟨a,b⟩:=decR_iff.1 A;exact⟨a,by rw[e,b,I];rfl⟩
    ·cases h
   ·split at h
    ·rename_i n J
     cases h;obtain⟨a,b,c⟩:=decN_iff.1 J;exact⟨a,by rw[e,b,c];rfl⟩
    ·cases h
 ·rintro⟨A,e⟩
  cases g with
  | nd n =>
   have I:1<=n.kind/\n.kind<=2:=by cases n <;> simp[Nd.kind]
   have B:unpP p raw=.ok (n.kind,lodN n):=(unp_iff E H).2 ⟨om,by have:=lodN_len A;omega,e⟩;rw[B];show (if n.kind=3 then _ else _)=_;rw[if_neg om,decN_iff.2 ⟨A,rfl,rfl⟩]
  | rc r =>
   have B:unpP p raw=.ok (3,lodR r):=(unp_iff E H).2 ⟨om,by rw[lodR_len A.2];omega,e⟩;rw[B];show (if 3=3 then _ else _)=_;rw[if_pos rfl,decR_iff.2 ⟨A,rfl⟩]
def qVw (s:Sup):Bs:=padTo 0 60 ([76,68,71,49,zX 8 s.width,0,0,0]++leB 8 s.gen++leB 4 s.mark++leB 4 s.head++leB 4 s.pages)
def supB (s:Sup):Bs:=padTo 0 256 (qVw s++sealB (qKg 0 (qVw s)))
theorem qJk (s:Sup):(qVw s).length=60:=qZn (by simp[qXc])
theorem qJs (s:Sup):(supB s).length=256:=qZn (by rw[lAp,qJk];show 60+4<=256;decide)
theorem leB_take (n m v:Nat):(leB (n+m) v).take n=leB n v:=by
 induction n generalizing v with
 | zero=>simp[leB]
 | succ n A =>
  rw[show n+1+m=(n+m)+1 by omega];show (zX 8 v::leB (n+m) (v / 256)).take (n+1)=zX 8 v::leB n (v / 256);rw[List.take_succ_cons,A]
theorem zer_rep (n:Nat):zer (zK n 0)=true:=zer_iff.2 (by rw[lRe])
theorem supP_supB {s:Sup}(h:s.ok):supP (supB s)=.ok s/\zer ((supB s).drop 64)=true:=by
 obtain⟨V,h2,W,Y,Z⟩:=id h;obtain⟨w,g,m,pgs,A⟩:=s;simp only at V h2 W Y Z;generalize H:sealB (qKg 0 (qVw ⟨w,g,m,pgs,A⟩))=E;have J:E.length=4:=by rw[<- H];rfl
 have eb:qVw ⟨w,g,m,pgs,A⟩=[76,68,71,49,zX 8 w,0,0,0]++(leB 8 g++(leB 4 m++(leB 4 A++(leB 4 pgs++zK 32 0)))):=by
  unfold qVw padTo;rw[show ([76,68,71,49,zX 8 w,0,0,0]++leB 8 g++leB 4 m++leB 4 A++leB 4 pgs:Bs).length=28 from rfl];simp only[zJ]
 have I:(supB ⟨w,g,m,pgs,A⟩)=(qVw ⟨w,g,m,pgs,A⟩++E)++zK 192 0:=by
  unfold supB padTo;rw[H,lAp,qJk,J]
 have B:(qVw ⟨w,g,m,pgs,A⟩++E).length=64:=by rw[lAp,qJk,J]
 have L:(supB ⟨w,g,m,pgs,A⟩).take 64=qVw ⟨w,g,m,pgs,A⟩++E:=by rw[I,zN B]
 have M:(supB ⟨w,g,m,pgs,A⟩).drop 64=zK 192 0:=by rw[I,zP B]
 refine⟨?_,by rw[M];exact zer_rep _⟩
 have hw:qXw ((supB ⟨w,g,m,pgs,A⟩).take 64)=true:=by
  unfold qXw;rw[L,B,decide_eq_true_eq,show 64 - 4=60 from rfl,zP (qJk _),zN (qJk _),H]
 have e:supB ⟨w,g,m,pgs,A⟩=[76,68,71,49,zX 8 w,0,0,0]++(leB 8 g++(leB 4 m++(leB 4 A++(leB 4 pgs++(zK 32 0++(E++zK 192 0)))))):=by
  rw[I,eb];simp only[zJ]
 generalize supB ⟨w,g,m,pgs,A⟩=raw at *;have a4:(raw.getD 4 0).toNat=w:=by rw[e];show (zX 8 w).toNat=w;rw[zZ];omega
 have b8:(raw.drop 8).take 8=leB 8 g:=by rw[e];exact sub_at (by rfl) (qXc 8 g)
 have a8:le ((raw.drop 8).take 7)=g:=by
  have:(raw.drop 8).take 7=((raw.drop 8).take 8).take 7:=by rw[List.take_take];rfl
  rw[this,b8,show leB 8 g=leB (7+1) g from rfl,leB_take];exact le_leB om
 have N:le ((raw.drop 16).take 4)=m:=by
  have:=qJn (a:=[76,68,71,49,zX 8 w,0,0,0]++leB 8 g) (r:=leB 4 A++(leB 4 pgs++(zK 32 0++(E++zK 192 0)))) (i:=16) (v:=m) (by rfl) om;rw[e,<- zJ];exact this
 have O:le ((raw.drop 20).take 4)=A:=by
  have:=qJn (a:=[76,68,71,49,zX 8 w,0,0,0]++leB 8 g++leB 4 m) (r:=leB 4 pgs++(zK 32 0++(E++zK 192 0))) (i:=20) (v:=A) (by rfl) om;rw[e,<- zJ,<- zJ];exact this
 have R:le ((raw.drop 24).take 4)=pgs:=by
  have:=qJn (a:=[76,68,71,49,zX 8 w,0,0,0]++leB 8 g++leB 4 m++leB 4 A) (r:=zK 32 0++(E++zK 192 0)) (i:=24) (v:=pgs) (by rfl) om;rw[e,<- zJ,<- zJ,<- zJ];exact this
 have hR:supR raw=⟨w,g,m,pgs,A⟩:=by unfold supR;rw[a4,a8,N,O,R]
 have T:raw.getD 15 0=0:=by
  rw[e];show zX 8 (g / 256 / 256 / 256 / 256 / 256 / 256 / 256)=0;rw[show g / 256 / 256 / 256 / 256 / 256 / 256 / 256=0 by omega];rfl
 have U:(raw.drop 28).take 32=zK 32 0:=by
  rw[e,<- zJ,<- zJ,<- zJ,<- zJ];exact sub_at (by rfl) sm
 have hF:supF raw:=⟨by rw[e];rfl,by rw[e];rfl,by rw[U];exact zer_rep _,T⟩
 unfold supP;rw[hw,if_neg x9,hR,if_pos ⟨hF,h⟩]
end Aud
section
namespace Aud
def recP (wd:Int)(first:Nat)(ats:List Nat)(u:PT)(c:Nat):Rc :=
 ⟨if 0<first then first+(ats.length+1) - 1 else ats.length+1,first,chAt ats ats.length,chAt ats (far (ats.length+1)),u.page,c,dgT wd 256 u⟩
def imgP (wd:Int)(first:Nat):List Nat->PT->Nat->List (List En)->List Pg
 | _,_,_,[]=>[]
 | ats,old,next,m::ms =>
  (news (dgT wd) next 0 (lay 256 0 true old m next).1).map Pg.nd++Pg.rc (recP wd first ats (lay 256 0 true old m next).1 m.length)::imgP wd first (ats++[(lay 256 0 true old m next).2]) (lay 256 0 true old m next).1 ((lay 256 0 true old m next).2+1) ms
def qXy:Nat->List Pg->Bs
 | _,[]=>[]
 | p,g::r=>g.bytes p++qXy (p+1) r
theorem bytesP_app:∀ (p:Nat) (a b:List Pg),qXy p (a++b)=qXy p a++qXy (p+a.length) b
 | p,[],b=>by simp[qXy]
 | p,g::a,b=>by
  rw[zI,qXy,qXy,bytesP_app (p+1) a b,zJ,zU,show p+1+a.length=p+(a.length+1) by omega]
def PAt (pg:Nat->Option Pg)(next:Nat)(l:List Pg):Prop:=∀ i (h:i<l.length),pg (next+i)=some l[i]
theorem PAt.nil (pg:Nat->Option Pg)(next:Nat):PAt pg next []:=fun i h=>absurd h sm
theorem PAt_cons {pg:Nat->Option Pg}{next:Nat}{g:Pg}{l:List Pg}:PAt pg next (g::l) ↔ pg next=some g/\PAt pg (next+1) l:=by
 constructor
 ·intro h
  refine⟨h 0 sm,fun i hi=>?_⟩;have:=h (i+1) (by simpa using hi)
  rwa [show next+(i+1)=next+1+i by omega,jX]at this
 ·rintro⟨A,h⟩ i hi
  cases i with
  | zero=>exact A
  | succ i =>
   have:=h i (by simpa using hi)
   rwa [show next+1+i=next+(i+1) by omega]at this
theorem PAt_app {pg:Nat->Option Pg}{next:Nat}{a b:List Pg}:PAt pg next (a++b) ↔ PAt pg next a/\PAt pg (next+a.length) b:=by
 induction a generalizing next with
 | nil=>simp[PAt.nil]
 | cons g a A =>
  rw[zI,PAt_cons,PAt_cons,A,and_assoc,zU,show next+1+a.length=next+(a.length+1) by omega]
theorem pnOf_nd {pg:Nat->Option Pg}{n:Nd}:pnOf pg p=some n ↔ pg p=some (.nd n) :=
 ⟨pnOf_some,fun h=>by unfold pnOf;rw[h]⟩
theorem PAt_nd {pg:Nat->Option Pg}{next:Nat}{l:List Nd}:PAt pg next (l.map Pg.nd) ↔ At (pnOf pg) next l:=by
 constructor
 ·intro h i hi
  have:=h i (by simpa using hi);rw[zE]at this;exact pnOf_nd.2 this
 ·intro h i hi
  rw[zE];exact pnOf_nd.1 (h i (by simpa using hi))
theorem PAt_rc {pg:Nat->Option Pg}{r:Rc}(h:pg p=some (.rc r)):rcAt pg p=r:=by unfold rcAt;rw[h]
theorem qVg (pg:Nat->Option Pg)(k:Nat):chF pg (k+1)=chF pg k++(match pg k with | some (.rc _)=>[k] | _=>[]):=by
 unfold chF;rw[List.range_succ,zS]
 congr 1
 cases h:pg k with
 | none=>simp[h]
 | some g=>cases g <;> simp[h]
theorem chF_nds {pg:Nat->Option Pg}{next:Nat}{l:List Nd}(h:PAt pg next (l.map Pg.nd)):chF pg (next+l.length)=chF pg next:=by
 induction l generalizing next with
 | nil=>rfl
 | cons n l A =>
  rw[qS,PAt_cons]at h;have:=A h.2;rw[zU,show next+(l.length+1)=next+1+l.length by omega,this,qVg,h.1]
  simp
theorem chF_pre (pg:Nat->Option Pg)(h:k<=m):∃ r,chF pg m=chF pg k++r:=by
 obtain⟨d,rfl⟩:∃ d,m=k+d:=⟨m - k,om⟩
 clear h
 induction d with
 | zero=>exact⟨[],sm⟩
 | succ d A =>
  obtain⟨r,B⟩:=A;exact⟨_,by rw[show k+(d+1)=k+d+1 by omega,qVg,B,zJ]⟩
theorem chAt_pre {a b:List Nat}(h:i<=a.length):chAt (a++b) i=chAt a i:=by
 unfold chAt
 by_cases A:i=0
 ·rw[if_pos A,if_pos A]
 ·rw[if_neg A,if_neg A,gDq,gDq,zR om]
theorem chAt_last (a:List Nat)(p:Nat):chAt (a++[p]) (a.length+1)=p:=by
 unfold chAt;rw[if_neg om,gDq,jV,z4 (xC _),Nat.sub_self]
 rfl
theorem far_lt (h:1<=i):far i<i:=by
 have:i &&& (i - 1)<=i - 1:=Nat.and_le_right;unfold far;omega
theorem map_uniq {m:List En}(h:Map n m):∀ e ∈ m,∀ A ∈ m,e.1=A.1->e=A:=by
 intro e J A B E;obtain⟨i,hi,rfl⟩:=List.mem_iff_getElem.1 J;obtain⟨j,H,rfl⟩:=List.mem_iff_getElem.1 B;have I:=List.pairwise_iff_getElem.1 h.1
 rcases Nat.lt_trichotomy i j with g | g | g
 ·have:=(I i j hi H g).1
  rw[E]at this;exact absurd this (qZl _)
 ·subst g;rfl
 ·have:=(I j i H hi g).1
  rw[E]at this;exact absurd this (qZl _)
section
variable {wd:Int} {pg:Nat->Option Pg} {mark first:Nat}
theorem img_vers (hpg:PgOk pg mark):∀ (ms:List (List En)) {ats:List Nat} {old:PT} {next:Nat}, chF pg next=ats->old.Wf 0->Stands (dgT wd) (pnOf pg) 0 old->old.page<next->Map 0 old.ents->next=max 1 (chAt ats ats.length)+1->(∀ m ∈ ms, Map 0 m) ->
  first=(rcAt pg (chAt (chF pg mark) 1)).first->PAt pg next (imgP wd first ats old next ms)->next+(imgP wd first ats old next ms).length=mark ->
  versP wd pg (chF pg mark) ms.length (ats.length+1) old=.ok ()/\(chF pg mark).length=ats.length+ms.length/\max 1 (chAt (chF pg mark) (chF pg mark).length)+1=mark
 | [],ats,old,next,B,_,_,_,_,O,_,_,_,A=>by
  have A:next=mark:=A;subst A;refine⟨rfl,by rw[B];rfl,?_⟩;rw[B];exact O.symm
 | m::ms,ats,old,next,B,R,U,V,a6,O,W,Y,H,A=>by
  rw[imgP]at H A
  cases hL:lay 256 0 true old m next with
  | mk t p =>
  rw[hL]at H A;have hM:=W m sm;obtain⟨Z,I,b0⟩:=lay_ok (f:=256) (n:=0) rfl om R hM om hL;obtain⟨a7,hp,a8⟩:=qVr (dg:=dgT wd) (pg:=pnOf pg) (fresh:=next) om (f:=256) (n:=0) rfl om R hM U V (xC _) hL;rw[PAt_app,PAt_cons,zB,<- hp]at H;obtain⟨J,L,a0⟩:=H;have M:=chF_nds J;rw[<- hp,B]at M;have N:chF pg (p+1)=ats++[p]:=by rw[qVg,M,L]
  have a3:=a8.2 (PAt_nd.1 J);have hrc:=PAt_rc L;simp only[lAp,zB,zU]at A;obtain⟨r,hr⟩:=chF_pre pg (k:=p+1) (m:=mark) om;rw[N]at hr;have E:(ats++[p]).length=ats.length+1:=sm
  have c1:∀ i,i<=ats.length->chAt (chF pg mark) i=chAt ats i:=fun i hi=>by
   rw[hr,chAt_pre (by rw[E];omega),chAt_pre hi]
  have c2:chAt (chF pg mark) (ats.length+1)=p:=by rw[hr,chAt_pre (by rw[E];omega),chAt_last]
  have a4:∀ e ∈ t.ents,e.1.length=32:=fun e he=>by rw[I]at he;exact hM.2 e he
  have a5:Ver wd (pnOf pg) next old p (rcAt pg p) t:=by
   rw[hrc];exact⟨Z,a3,rfl,by rw[I];rfl,rfl,a4,by rw[I];exact hL,a7⟩
  have T:=root1_conv R U (map_uniq a6) V a5
  have a9:chainR pg (chF pg mark) (ats.length+1):=by
   unfold chainR;rw[c2,hrc,<- Y,jV,c1 _ (xC _),c1 _ (by have:=far_lt (i:=ats.length+1) om;omega)];exact⟨rfl,rfl,rfl,rfl⟩
  have hv:verP wd pg (chF pg mark) (ats.length+1) old=.ok t:=by
   unfold verP;rw[if_pos a9,c2,jV,c1 _ (xC _),<- O];exact T
  have ih:=img_vers hpg ms (ats:=ats++[p]) (old:=t) (next:=p+1) N Z a3 om (by rw[I];exact hM) (by rw[E,chAt_last];omega) (fun m hm=>W m (zY _ hm)) Y a0 om;rw[E]at ih;refine⟨?_,by rw[ih.2.1,zU];omega,ih.2.2⟩;rw[zU,versP,hv];exact ih.1
end
end Aud
end
end Go.V
