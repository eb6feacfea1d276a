/- Helpers. -/
import Derived.Test.YtppmpdjlmgfdkaaGreatDoorG08
set_option linter.all false
set_option maxRecDepth 100000
set_option maxHeartbeats 8000000
open Array renaming length_toList→zK
open Go.Builtin renaming nextslicecap→xH,append_→qN
open List renaming replicate→zV,length_map→zW,flatten_cons→zY,length_cons→zU,length_nil→zG,getElem?_append_left→zF,map_cons→qP,getElem?_eq_getElem→zQ,filter_append→zH
open Nat renaming zero_add→zB,mul_le_mul_right→xP
namespace Go.V
variable {ts:Array TypeId} {c vs:Array Value} {ds:List (List Byte)} {bs d:List Byte} {b by' i m n o p:Nat} {fz:Nat × Nat} {F:Nat→Prop} {x:Obj} {e:TypeId} {v:Value} {w w' w0:World}
section
variable {P:Program}
theorem rdO_drew (t:TypeId)(w:World)(b o:Nat):rdO P t w.drew b o=rdO P t w b o:=rfl
attribute [go_sem] rdO_drew List.contains_cons Bool.or_self Bool.or_false Bool.false_or
theorem wr1 {t:TypeId}(hs:szO P t=some 1)(hv:one v=true)(h:w.heap[b]?=some (.cells c e (0, 0)))(ho:o<c.size) :
  wrO P t w b o v=some (put w b (.cells (c.setIfInBounds o v) e (0,0))):=by
 obtain⟨u,hu⟩:∃ u,c[o]?=some u:=⟨_,Array.getElem?_eq_getElem ho⟩
 rw[wr_cv hs hv (u:=u) (by rw[cv_of_row h];exact hu),setc_row v h]
theorem rd1 {t:TypeId}(ha:aggO P t=some false)(h:w.heap[b]?=some (.cells c e fz))(hv:c[o]?=some v) :
  rdO P t w b o=some v:=rd_rc ha (by rw[qXe h];exact hv)
theorem wrs {t:TypeId}(hs:szO P t=some vs.size)(h:w.heap[b]?=some (.cells c e (0, 0)))(hc:o+vs.size≤c.size)(ho:vs.all one=true) :
  wrO P t w b o (.agg vs)=some (put w b (.cells (qXl vs.toList o c) e (0,0))):=by
 simp only[wrO,stO,h,Value.cells,hs,ho];rw[if_pos ⟨trivial,hc,trivial⟩];rfl
theorem rds {t:TypeId}(ha:aggO P t=some true)(hs:szO P t=some n)(h:w.heap[b]?=some (.cells c e fz))(hn:vs.size=n)(h0:0<n)(hv:∀ i, i<n→c[o+i]?=vs[i]?) :
  rdO P t w b o=some (.agg vs):=rd_rcs ha hs hn h0 fun i hi=>by rw[qXe h];exact hv i hi
theorem qQd {o x:Obj}(h:w.heap[b]?=some x):(put w b o).heap[b]?=some o:=qXt _ (qQh h)
theorem qQi {b b':Nat}{o x:Obj}(h:w.heap[b']?=some x)(hb:b≠b'):(put w b o).heap[b']?=some x:=by rw[qKt _ hb];exact h
theorem Fr.at (h:Fr F w w')(hb:w.heap[b]?=some x)(hf:¬ F b):w'.heap[b]?=some x:=by rw[h.blk b (qQh hb) hf];exact hb
theorem qQq {o x:Obj}(h:w.heap[b]?=some x):(w.alloc o).heap[b]?=some x:=by rw[qZu _ _ (qQh h)];exact h
abbrev wl (l:List W32):Array Value:=(l.map u32).toArray
abbrev bl (l:List Byte):Array Value:=(l.map u8).toArray
theorem qZh (l:List W32):(wl l).size=l.length:=by simp
theorem qXa (l:List Byte):(bl l).size=l.length:=by simp
theorem wl_at {l:List W32}(h:i<l.length):(wl l)[i]?=some (u32 (l.getD i 0)):=by
 rw[List.getElem?_toArray,List.getElem?_map,zQ h,Option.map_some,qQw _ h]
theorem bl_at {l:List Byte}(h:i<l.length):(bl l)[i]?=some (u8 (l.getD i 0)):=u8_at h
theorem wl_set (l:List W32)(i:Nat)(x:W32):(wl l).setIfInBounds i (u32 x)=wl (l.set i x):=by
 show _=((l.set i x).map u32).toArray;rw[List.map_set];simp
theorem bl_set (l:List Byte)(i:Nat)(x:Byte):(bl l).setIfInBounds i (u8 x)=bl (l.set i x):=set_u8 x
theorem wl_one (l:List W32):(wl l).all one=true:=by rw[← Array.all_toList];simp[one]
theorem bl_one (l:List Byte):(bl l).all one=true:=u8s_all l
theorem wl_zero (n:Nat):Array.replicate n (Value.int .u32 0)=wl (zV n 0):=by
 apply Array.toList_inj.1;simp
theorem qQk (n:Nat):Array.replicate n (Value.int .u8 0)=bl (zV n 0):=by
 apply Array.toList_inj.1;simp
def padTo {α:Type}(z:α)(n:Nat)(l:List α):List α:=l++zV (n - l.length) z
theorem qZb {α:Type}{z:α}{l:List α}(h:l.length≤n):(padTo z n l).length=n:=by simp[padTo];omega
theorem padTo_nil {α:Type}(z:α)(n:Nat):padTo z n []=zV n z:=by simp[padTo]
theorem padTo_full {α:Type}{z:α}{l:List α}(h:l.length=n):padTo z n l=l:=by simp[padTo,h]
theorem padTo_getD {α:Type}{z:α}{l:List α}(d:α)(h:i<l.length):(padTo z n l).getD i d=l.getD i d:=by
 rw[gDq,gDq,padTo,zF h]
theorem padTo_set {α:Type}{z:α}{l:List α}(x:α)(h:l.length<n):(padTo z n l).set l.length x=padTo z n (l++[x]):=by
 unfold padTo;rw[List.set_append_right _ _ (Nat.le_refl _),Nat.sub_self,lAp,List.length_singleton]
 obtain⟨k,hk⟩:∃ k,n - l.length=k+1:=⟨n - l.length - 1,by omega⟩
 rw[hk,show n - (l.length+1)=k by omega,List.replicate_succ,List.set_cons_zero,List.append_assoc];rfl
theorem qQp {ops:Array Oper}{K:Ev→World→Prop}{r:List Oper}{d:Option Nat}{ev:Ev}{x:Out}(h:x=.inl (some (v, w')))
  (hk:denL P ops K r (updO ev d v) w'):contL P ops K r d ev w x:=by
 subst h
 cases d <;> exact hk
theorem bd_small (h:(2*(n+m)+768)*by'≤2 ^ 48):∀ cap,n≤cap→cap<n+m→xH (n+m) cap*by'≤2 ^ 48:=fun cap _ hc=>by
 have h1:=nextcap_le (need:=n+m) (cap:=cap) hc;have h2:=xP by' h1
 omega
theorem bd_one (h:(n+n / 4+1024)*by'≤2 ^ 48):∀ cap,n≤cap→cap<n+1→xH (n+1) cap*by'≤2 ^ 48:=fun cap h0 hc=>by
 have h1:=nextcap1_le h0 hc;have h2:=xP by' h1
 omega
theorem app_fresh {e sz by':Nat}{z:Value}(ht:AppT P ts e sz by' z){cs:List Value}(hv:Nw w0 w e sz v n cs)
  {xs:Array Value} (hxs:xs.size=m*sz) (hone:xs.toList.all one=true) (hsz0:0<sz)
  (hbd:∀ cap,n≤cap→cap<n+m→xH (n+m) cap*by'≤2 ^ 48) (hbd2:n+m≤9223372036854775807) (f:No w0 w) :
  ∃ v' w',(qN ts 0 #[v,.slice (some ⟨w.heap.size,0,none⟩) m m]).run P (w.alloc (.cells xs e))=.ok v' w'∧Nw w0 w' e sz v' (n+m) (cs++xs.toList)∧No w0 w'∧Fr (fun b=>qQg v=some b) w w' ∧
   ∀ b,qQg v'=some b→qQg v=some b∨w.heap.size≤b:=by
 have f1:No w (w.alloc (.cells xs e)):=(Fr.refl _ _).alloc _
 have hx:Rd (w.alloc (.cells xs e)) sz (.slice (some ⟨w.heap.size,0,none⟩) m m) m xs.toList :=
  ⟨by rw[zK,hxs],_,_,rfl,Nat.le_refl _,fun _=>⟨_,_,rfl,fun i hi=>by rw[qXe (qQb _ _),zB,Array.getElem?_toList]⟩⟩
 obtain⟨v',w',hr,h1,h2,h3⟩:=app_nw ht (hv.fr0 f1) hx hone hsz0 hbd hbd2 (by have:=f.size;have:=f1.size;omega);have f2:Fr (fun b=>qQg v=some b) w w':=(f1.mono fun _ _ h=>h.elim).trans h2;refine⟨v',w',hr,h1,f.trans' f2 fun b hb h=>?_,f2,fun b hb=>(h3 b hb).imp id fun h=>by rw[qQc]at h;omega⟩;have:=hv.new b h;omega
def NwB (w0 w:World)(v:Value)(bs:List Byte):Prop:=Nw w0 w 5 1 v bs.length (bs.map u8)
theorem NwB.by (h:NwB w0 w v bs):By w v bs:=Nw.rd h
theorem NwB.nil (w0 w:World):NwB w0 w (.slice none 0 0) []:=Nw.nil w0 w 5 1
theorem NwB.fr (h:NwB w0 w v bs)(k:Fr F w w')(hf:∀ b,qQg v=some b→¬ F b):NwB w0 w' v bs:=Nw.fr h k hf
theorem NwB.fr0 (h:NwB w0 w v bs)(k:No w w'):NwB w0 w' v bs:=Nw.fr0 h k
theorem NwB.slice (h:NwB w0 w v bs):∃ a cap,v=.slice a bs.length cap:=by
 obtain⟨_,a,cap,e,_⟩:=Nw.rd h;exact⟨a,cap,e⟩
theorem NwB.push {z:Value}(ht:AppT P ts 5 1 1 z)(hv:NwB w0 w v bs)(xs:List Byte)
  (hbd:∀ cap,bs.length≤cap→cap<bs.length+xs.length→xH (bs.length+xs.length) cap*1≤2 ^ 48) (hbd2:bs.length+xs.length≤9223372036854775807) (f:No w0 w) :
  ∃ v' w',(qN ts 0 #[v,.slice (some ⟨w.heap.size,0,none⟩) xs.length xs.length]).run P (w.alloc (.cells (bl xs) 5))=.ok v' w'∧NwB w0 w' v' (bs++xs)∧No w0 w'∧Fr (fun b=>qQg v=some b) w w':=by
 obtain⟨v',w',hr,h1,h2,h3,_⟩:=app_fresh ht hv (m:=xs.length) (xs:=bl xs) (by rw[qXa,Nat.mul_one]) (qXy xs) (by omega) hbd hbd2 f;refine⟨v',w',hr,?_,h2,h3⟩;unfold NwB;rw[lAp,List.map_append];exact h1
theorem NwB.cat {z:Value}(ht:AppT P ts 5 1 1 z)(hv:NwB w0 w v bs){x:Value}{xs:List Byte}(hx:By w x xs)
  (hbd:∀ cap,bs.length≤cap→cap<bs.length+xs.length→xH (bs.length+xs.length) cap*1≤2 ^ 48) (hbd2:bs.length+xs.length≤9223372036854775807) (f:No w0 w) :
  ∃ v' w',(qN ts 0 #[v,x]).run P w=.ok v' w'∧NwB w0 w' v' (bs++xs)∧No w0 w'∧Fr (fun b=>qQg v=some b) w w':=by
 obtain⟨v',w',hr,h1,h2,_⟩:=app_nw ht hv hx (qXy xs) (by omega) hbd hbd2 f.size;refine⟨v',w',hr,?_,f.trans' h2 fun b hb h=>?_,h2⟩
 ·unfold NwB
  rw[lAp,List.map_append];exact h1
 ·have:=hv.new b h;omega
end
section
variable {P:Program}
def flat (ds:List (List Byte)):List Value:=(ds.map fun d=>d.map u8).flatten
def All32 (ds:List (List Byte)):Prop:=∀ d ∈ ds,d.length=32
theorem All32.nil:All32 []:=fun _ h=>by cases h
theorem All32.cons (h:d.length=32)(k:All32 ds):All32 (d::ds):=fun x hx=>by
 rcases List.mem_cons.1 hx with rfl | hx
 ·exact h
 ·exact k x hx
theorem All32.app {a b:List (List Byte)}(h:All32 a)(k:All32 b):All32 (a++b):=fun x hx=>by
 rcases List.mem_append.1 hx with hx | hx
 ·exact h x hx
 ·exact k x hx
theorem All32.one (h:d.length=32):All32 [d]:=All32.cons h All32.nil
theorem All32.tail (h:All32 (d::ds)):All32 ds:=fun x hx=>h x (List.mem_cons_of_mem _ hx)
theorem All32.head (h:All32 (d::ds)):d.length=32:=h d List.mem_cons_self
theorem All32.at (h:All32 ds)(hi:i<ds.length):ds[i].length=32:=h _ (List.getElem_mem hi)
theorem All32.set (h:All32 ds)(i:Nat)(hd:d.length=32):All32 (ds.set i d):=fun x hx=>by
 rcases List.mem_or_eq_of_mem_set hx with h' | rfl
 ·exact h x h'
 ·exact hd
theorem flat_app (a b:List (List Byte)):flat (a++b)=flat a++flat b:=by simp[flat]
theorem flat_one (d:List Byte):flat [d]=d.map u8:=by simp[flat]
theorem flat_len:∀ {ds:List (List Byte)},All32 ds→(flat ds).length=ds.length*32
 | [],_=>rfl
 | d::ds,h=>by
  have:=flat_len h.tail;simp only[flat,qP,zY,lAp,zW,zU,h.head]at this ⊢;omega
theorem flat_at:∀ {ds:List (List Byte)},All32 ds→∀ {i:Nat} (hi:i<ds.length) {j:Nat},j<32→(flat ds)[i*32+j]?=(ds[i].map u8)[j]?
 | d::ds,h,0,_,j,hj=>by
  simp only[flat,qP,zY,Nat.zero_mul,zB,List.getElem_cons_zero];rw[zF (by rw[zW,h.head];exact hj)]
 | d::ds,h,i+1,hi,j,hj=>by
  have:=flat_at h.tail (show i<ds.length by simpa using hi) hj;simp only[flat,qP,zY,List.getElem_cons_succ]at this ⊢;rw[List.getElem?_append_right (by rw[zW,h.head];omega),zW,h.head,show (i+1)*32+j - 32=i*32+j by omega];exact this
def RdD (w:World)(v:Value)(ds:List (List Byte)):Prop:=All32 ds∧Rd w 32 v ds.length (flat ds)
section
variable {w w':World} {v:Value} {ds:List (List Byte)}
theorem RdD.fr (h:RdD w v ds)(k:Fr F w w')(hf:∀ b,qQg v=some b→b<w.heap.size→¬ F b):RdD w' v ds:=⟨h.1,h.2.fr k hf⟩
theorem RdD.fr0 (h:RdD w v ds)(k:Fr (fun _=>False) w w'):RdD w' v ds:=h.fr k fun _ _ _ h=>h
theorem RdD.slice (h:RdD w v ds):∃ a cap,v=.slice a ds.length cap∧ds.length≤cap:=by
 obtain⟨_,_,a,cap,e,h,_⟩:=h;exact⟨a,cap,e,h⟩
theorem RdD.at (h:RdD w v ds):∃ a cap, v=.slice a ds.length cap∧ds.length≤cap∧∀ i (hi:i<ds.length), ∃ b o, a=some ⟨b, o, none⟩∧b<w.heap.size ∧
  ∀ t,aggO P t=some true→szO P t=some 32→rdO P t w b (o+i*32)=some (dg ds[i]):=by
 obtain⟨h0,h1,a,cap,rfl,h2,h3⟩:=h;refine⟨a,cap,rfl,h2,fun i hi=>?_⟩;obtain⟨b,o,rfl,h4⟩:=h3 (by omega)
 have hk:∀ j,j<32→rc w b (o+i*32+j)=(ds[i].map u8)[j]?:=fun j hj=>by
  rw [Nat.add_assoc, h4 (i * 32 + j) (by have : i * 32 + 32 ≤ ds.length * 32 := by omega
                                         omega),flat_at h0 hi hj]
 refine⟨b,o,rfl,?_,fun t ha hs=>rd_dg ha hs (h0.at hi) (by omega) hk⟩;have:=hk 0 (by omega);rw[List.getElem?_map,zQ (by rw[h0.at hi];omega)]at this;exact rc_lt this
end
def NwD (w0 w:World)(e:Nat)(v:Value)(ds:List (List Byte)):Prop:=All32 ds∧Nw w0 w e 32 v ds.length (flat ds)
section
variable {w0 w w':World} {e:Nat} {v:Value} {ds:List (List Byte)}
theorem NwD.rd (h:NwD w0 w e v ds):RdD w v ds:=⟨h.1,h.2.rd⟩
theorem NwD.fr (h:NwD w0 w e v ds)(k:Fr F w w')(hf:∀ b,qQg v=some b→¬ F b):NwD w0 w' e v ds:=⟨h.1,h.2.fr k hf⟩
theorem NwD.fr0 (h:NwD w0 w e v ds)(k:No w w'):NwD w0 w' e v ds:=⟨h.1,h.2.fr0 k⟩
theorem NwD.lt (h:NwD w0 w e v ds)(hb:qQg v=some b):w0.heap.size≤b∧b<w.heap.size:=⟨h.2.new b hb,h.2.own.lt hb⟩
theorem NwD.push {z:Value}(ht:AppT P ts e 32 32 z)(hv:NwD w0 w e v ds)(hd:d.length=32)
  (hbd:(ds.length+ds.length / 4+1024)*32≤2 ^ 48) (f:No w0 w) :
  ∃ v' w',(qN ts 0 #[v,.slice (some ⟨w.heap.size,0,none⟩) 1 1]).run P (w.alloc (.cells (bl d) e))=.ok v' w'∧NwD w0 w' e v' (ds++[d])∧No w0 w'∧Fr (fun b=>qQg v=some b) w w' ∧
   ∀ b,qQg v'=some b→qQg v=some b∨w.heap.size≤b:=by
 obtain⟨v',w',hr,h1,h2,h3,h4⟩:=app_fresh ht hv.2 (m:=1) (xs:=bl d) (by rw[qXa,hd]) (qXy d) (by omega) (bd_one hbd) (by omega) f;refine⟨v',w',hr,⟨hv.1.app (All32.one hd),?_⟩,h2,h3,h4⟩;rw[lAp,flat_app,flat_one];exact h1
end
theorem fill_dg {z:List Value}(hz:z.length=32)(hd:d.length=32):Instr.fill (fun i=>some (i*32,32)) (zrow z 1) [(0,dg d)]=some (bl d):=by
 have hzr:(zrow z 1).size=32:=by simp[zrow,hz]
 have hds:(dg d).cells.size=32:=by simp[Value.cells,hd]
 simp only[Instr.fill,hds,hzr];rw[if_neg (by decide)];have e:(dg d).cells=bl d:=rfl;rw[e]
 congr 1
 have key:∀ (l:List Value) (c:Array Value) (k:Nat),k+l.length=c.size→((l.zipIdx k).foldl (fun (cs:Array Value) (p:Value × Nat)=>cs.setIfInBounds (0*32+p.2) p.1) c).toList=c.toList.take k++l:=by
  intro l
  induction l with
  | nil =>
   intro c k h;simp only[zG,Nat.add_zero]at h;rw[List.take_of_length_le (by rw[zK];omega)];simp
  | cons v l ih =>
   intro c k h;simp only[List.zipIdx_cons,List.foldl_cons,Nat.zero_mul,zB]at ih ⊢;simp only[zU]at h;rw[ih (c.setIfInBounds k v) (k+1) (by simp;omega)];simp only[Array.toList_setIfInBounds];rw[List.take_set,List.set_eq_take_append_cons_drop];simp only[lTk,zK];rw[if_pos (by omega),List.take_take,List.drop_take]
   simp
 apply Array.toList_inj.1;rw[← Array.foldl_toList,Array.toList_zipIdx,key (bl d).toList _ 0 (by rw[zK,qXa,hd,hzr])]
 simp
end
section
namespace Wit
def Asc (ks:List Bs):Prop:=ks.Pairwise klt
def frm (ks:List Bs):Nat:=if ks.length<2 then 0 else 256 - common (ks.headD []) (ks.getLastD [])
def lefts (ks:List Bs):Nat:=(ks.takeWhile fun k=>!kbit k (256 - frm ks)).length
section
variable {ks:List Bs} (h:Asc ks) (h2:2≤ks.length)
include h h2
end
inductive Tw where
 | leaf (k:Bs) (top:Nat) (near:List Bs) (a:Option Bs)
 | fork (ks:List Bs) (f top:Nat) (near:List Bs) (l r:Tw)
namespace Tw
def keys:Tw→List Bs
 | leaf k _ _ _=>[k]
 | fork ks _ _ _ _ _=>ks
def fr:Tw→Nat
 | leaf _ _ _ _=>0
 | fork _ f _ _ _ _=>f
def top:Tw→Nat
 | leaf _ t _ _=>t
 | fork _ _ t _ _ _=>t
def near:Tw→List Bs
 | leaf _ _ n _=>n
 | fork _ _ _ n _ _=>n
def key (t:Tw):Bs:=t.keys.headD []
def Ok:Tw→Prop
 | leaf k top near a=>k.length=32∧top≤256∧near.length=top∧All32 near∧∀ v,a=some v→v.length≤128
 | fork ks f top near l r=>f=frm ks∧f≤top∧top≤256∧near.length=top - f∧All32 near∧Asc ks∧All32 ks∧2≤ks.length∧l.keys=ks.take (lefts ks)∧r.keys=ks.drop (lefts ks)∧l.top=f - 1∧r.top=f - 1∧l.Ok∧r.Ok
end Tw
def ansP (kind:Nat)(bs:Bs):Option (Option Bs × Bs) :=
 if kind=0 then some (none,bs)
 else if bs.length<2 then none
 else if (bs.getD 0 0).toNat+256*(bs.getD 1 0).toNat > 128 then none
 else if (bs.drop 2).length<(bs.getD 0 0).toNat+256*(bs.getD 1 0).toNat then none
 else some (some ((bs.drop 2).take ((bs.getD 0 0).toNat+256*(bs.getD 1 0).toNat)),(bs.drop 2).drop ((bs.getD 0 0).toNat+256*(bs.getD 1 0).toNat))
def mbit (bits:Bs)(g:Nat):Bool:=(bits.getD (g / 8) 0).getLsbD (g % 8)
def gvP (f top:Nat)(bits:Bs):Nat→Nat→Bs→Option (List (Nat × Bs) × Bs)
 | 0,_,bs=>some ([],bs)
 | n+1,g,bs =>
  if mbit bits g=false then gvP f top bits n (g+1) bs
  else if bs.length<32∨g<f∨top≤g then none
  else (gvP f top bits n (g+1) (bs.drop 32)).map fun p=>((g,bs.take 32)::p.1,p.2)
def fill (f:Nat)(base:List Bs)(gs:List (Nat × Bs)):List Bs:=gs.foldl (fun l p=>l.set (p.1 - f) p.2) base
def nearP (w:Int)(f top:Nat)(bs:Bs):Option (List Bs × List (Nat × Bs) × Bs) :=
 if bs.length<32 then none
 else (gvP f top (bs.take 32) 256 0 (bs.drop 32)).map fun p=>(fill f (((empts w 257).drop f).take (top - f)) p.1,p.1,p.2)
def parse (w:Int):Nat→List Bs→Nat→Bs→Option (Tw × List (Nat × Bs) × Bs)
 | 0,_,_,_=>none
 | n+1,ks,top,bs =>
  if bs.length<1 then none
  else if (bs.getD 0 0).toNat > 2∨¬ ((bs.getD 0 0).toNat=2 ↔ 1<ks.length) then none
  else if (bs.getD 0 0).toNat=2 then
   (nearP w (frm ks) top (bs.drop 1)).bind fun p =>
   (parse w n (ks.take (lefts ks)) (frm ks - 1) p.2.2).bind fun q =>
   (parse w n (ks.drop (lefts ks)) (frm ks - 1) q.2.2).map fun s=>(.fork ks (frm ks) top p.1 q.1 s.1,p.2.1++(q.2.1++s.2.1),s.2.2)
  else
   (ansP (bs.getD 0 0).toNat (bs.drop 1)).bind fun p =>
   (nearP w 0 top p.2).map fun q=>(.leaf (ks.headD []) top q.1 p.1,q.2.1,q.2.2)
def chk (w:Int):List (Nat × Bs)→Int
 | []=>0
 | p::r=>if p.2≠cutD w p.2 then 120 else if p.2=emptD w p.1 then 130 else chk w r
def form (w:Int)(ks:List Bs)(raw:Bs):Except Int (Option Tw) :=
 if ks=[] then if raw=[] then .ok none else .error 120
 else match parse w ks.length ks 256 raw with
  | none=>.error 120
  | some p=>if p.2.2≠[] then .error 120 else if chk w p.2.1≠0 then .error (chk w p.2.1) else .ok (some p.1)
def ldig (w:Int)(k:Bs):Option Bs→Bs
 | some v=>leafD w k v
 | none=>emptD w 0
abbrev Says:=Bs→Option Bs→Option Bs
def asIs:Says:=fun _ a=>a
def base (w:Int)(says:Says):Tw→Bs
 | .leaf k _ _ a=>ldig w k (says k a)
 | .fork _ _ _ _ l r=>qXk w (climb w l.key l.fr (base w says l) l.near) (climb w r.key r.fr (base w says r) r.near)
def dig (w:Int)(says:Says)(t:Tw):Bs:=climb w t.key t.fr (base w says t) t.near
def Tw.at:Tw→Bs→Option Bs
 | .leaf _ _ _ a,_=>a
 | .fork _ f _ _ l r,k=>if kbit k (256 - f) then r.at k else l.at k
def nbrs (w:Int):Tw→Bs→List Bs
 | .leaf _ _ near _,_=>near
 | .fork _ f _ near l r,k=>(if kbit k (256 - f) then nbrs w r k++[dig w asIs l] else nbrs w l k++[dig w asIs r])++near
end Wit
end
section
namespace Wit
open Tw
def gl (w:Int):Nat→List Bs→List (Nat × Bs)
 | _,[]=>[]
 | h,d::r=>if d=emptD w h then gl w (h+1) r else (h,d)::gl w (h+1) r
end Wit
end
section
namespace Wit
open Tw
theorem cutD_cutD (w:Int)(d:Bs):cutD w (cutD w d)=cutD w d:=by
 refine List.ext_getElem (by rw[qXv,qXv]) fun i h1 h2=>?_;rw[qXv]at h1 h2;have h3:(cutD w d).getD i 0=(cutD w d)[i]'(by rw[qXv];exact h1):=qQw 0 _;simp only[cutD,List.getElem_map,List.getElem_range]at h3 ⊢;split
 ·rename_i h;rw[h3,if_pos h]
 ·rfl
theorem hcut_tdy (w:Int)(t:Bs):cutD w (hcut w t)=hcut w t:=cutD_cutD w _
def part (w:Int)(t:Tw)(k:Bs):Tw:=.leaf k 256 (nbrs w t k) (t.at k)
end Wit
end
section
namespace Wit
open Tw
structure Tx where
 keys:List Bs
 top:Nat
 fr:Nat
 near:List Bs
 left:Nat
 right:Nat
 ans:Option Bs
def Tw.size:Tw→Nat
 | .leaf _ _ _ _=>1
 | .fork _ _ _ _ l r=>l.size+r.size+1
def flatT (w:Int):Nat→Tw→List Tx
 | _,.leaf k top near a=>[⟨[k],top,0,near,0,0,a⟩]
 | n,.fork ks f top near l r=>flatT w n l++(flatT w (n+l.size) r++[⟨ks,top,f,(empts w 257).take f++near,n+l.size - 1,n+l.size+r.size - 1,none⟩])
def over (f:Nat)(ds near:List Bs):List Bs:=ds.take f++(near++ds.drop (f+near.length))
def Tw.other (t:Tw)(k:Bs):Tw:=match t with | .leaf k' top near a=>.leaf k' top near a | .fork _ f _ _ l r=>if kbit k (256 - f) then l else r
def Tw.next (t:Tw)(k:Bs):Tw:=match t with | .leaf k' top near a=>.leaf k' top near a | .fork _ f _ _ l r=>if kbit k (256 - f) then r else l
end Wit
end
section
namespace Aud
abbrev En:=Bs × Bs
inductive PT where
 | nil
 | leaf (p:Nat) (k v:Bs)
 | br (p:Nat) (l r:PT)
 deriving DecidableEq
namespace PT
def page:PT→Nat
 | nil=>0
 | leaf p _ _=>p
 | br p _ _=>p
def ents:PT→List En
 | nil=>[]
 | leaf _ k v=>[(k,v)]
 | br _ l r=>l.ents++r.ents
def lvs:PT→List (Bs × Bs × Nat)
 | nil=>[]
 | leaf p k v=>[(k,v,p)]
 | br _ l r=>l.lvs++r.lvs
def Wf:Nat→PT→Prop
 | _,nil=>True
 | _,leaf p _ _=>2≤p
 | n,br p l r=>2≤p∧n<256∧2≤l.ents.length+r.ents.length∧(∀ e ∈ l.ents,kbit e.1 n=false)∧(∀ e ∈ r.ents,kbit e.1 n=true)∧Wf (n+1) l∧Wf (n+1) r
end PT
inductive Nd where
 | leaf (k v:Bs)
 | br (lp rp lc rc:Nat) (ls rs:Bs)
 deriving DecidableEq
section
variable (dg:Nat→PT→Bs)
def said (h:Nat):PT→Bs
 | .nil=>zV 32 0
 | t=>dg h t
def Stands (pg:Nat→Option Nd):Nat→PT→Prop
 | _,.nil=>True
 | _,.leaf p k v=>pg p=some (.leaf k v)
 | n,.br p l r=>pg p=some (.br l.page r.page l.ents.length r.ents.length (said dg (255 - n) l) (said dg (255 - n) r))∧l.page<p∧r.page<p∧Stands pg (n+1) l∧Stands pg (n+1) r
variable {dg}
theorem PT.page_pos {t:PT}(h:t.Wf n)(hn:t≠.nil):2≤t.page:=by
 cases t with
 | nil=>exact absurd rfl hn
 | leaf p k v=>exact h
 | br p l r=>exact h.1
theorem PT.page_nil {t:PT}(h:t.Wf n)(hp:t.page=0):t=.nil:=by
 by_cases hn:t=.nil
 ·exact hn
 ·have:=t.page_pos h hn;omega
theorem stands_eq {pg:Nat→Option Nd}:∀ {t u:PT} {n:Nat},Stands dg pg n t→Stands dg pg n u→t.Wf n→u.Wf n→t.page=u.page→t=u
 | .nil,u,n,_,_,_,hu,hp=>(u.page_nil hu hp.symm).symm
 | .leaf p k v,.nil,n,_,_,ht,_,hp=>by
  have h:2≤p:=ht;have:p=0:=hp;omega
 | .leaf p k v,.leaf q k' v',n,h1,h2,_,_,hp=>by
  have hp:p=q:=hp;subst hp;have h1:pg p=_:=h1;have h2:pg p=_:=h2;rw[h1]at h2;cases h2;rfl
 | .leaf p k v,.br q l r,n,h1,h2,_,_,hp=>by
  have hp:p=q:=hp;subst hp;have h1:pg p=_:=h1;rw[h2.1]at h1;cases h1
 | .br p l r,.nil,n,_,_,ht,_,hp=>by
  have h:2≤p:=ht.1;have:p=0:=hp;omega
 | .br p l r,.leaf q k v,n,h1,h2,_,_,hp=>by
  have hp:p=q:=hp;subst hp;have h2:pg p=_:=h2;rw[h1.1]at h2;cases h2
 | .br p l r,.br q l' r',n,h1,h2,ht,hu,hp=>by
  have hp:p=q:=hp;subst hp;have e:=h1.1.symm.trans h2.1;simp only[oSi,Nd.br.injEq]at e;obtain⟨e1,e2,_⟩:=e;rw[stands_eq h1.2.2.2.1 h2.2.2.2.1 ht.2.2.2.2.2.1 hu.2.2.2.2.2.1 e1,stands_eq h1.2.2.2.2 h2.2.2.2.2 ht.2.2.2.2.2.2 hu.2.2.2.2.2.2 e2]
end
def pageOf (k v:Bs):PT→Option Nat
 | .nil=>none
 | .leaf p k' v'=>if k'=k∧v'=v then some p else none
 | .br _ l r=>(pageOf k v l).orElse fun _=>pageOf k v r
def kid (n:Nat)(b:Bool):PT→PT
 | .nil=>.nil
 | .leaf p k v=>if kbit k n=b then .leaf p k v else .nil
 | .br _ l r=>if b then r else l
def isBr:PT→Bool
 | .br _ _ _=>true
 | _=>false
def lay:Nat→Nat→Bool→PT→List En→Nat→PT × Nat
 | _,_,_,_,[],next=>(.nil,next)
 | 0,_,_,o,(k,v)::_,next=>match pageOf k v o with
  | some p=>(.leaf p k v,next)
  | none=>(.leaf next k v,next+1)
 | f+1,n,at',o,e::r,next =>
  if at'=true∧o.ents=e::r then (o,next)
  else if r=[] then match pageOf e.1 e.2 o with
   | some p=>(.leaf p e.1 e.2,next)
   | none=>(.leaf next e.1 e.2,next+1)
  else
   let L:=lay f (n+1) (at' && isBr o) (kid n false o) ((e::r).filter fun x=>!kbit x.1 n) next
   let R:=lay f (n+1) (at' && isBr o) (kid n true o) ((e::r).filter fun x=>kbit x.1 n) L.2
   (.br R.2 L.1 R.1,R.2+1)
def Okk:Nat→Bool→PT→PT→Nat→Nat→Prop
 | _,_,_,.nil,next,next'=>next'=next
 | _,_,o,.leaf p k v,next,next'=>(pageOf k v o=some p∧next'=next)∨(pageOf k v o=none∧p=next∧next'=next+1)
 | n, at', o, .br p l r, next, next'=>(at'=true∧o=.br p l r∧next'=next) ∨
   ∃ m1 m2,Okk (n+1) (at' && isBr o) (kid n false o) l next m1∧Okk (n+1) (at' && isBr o) (kid n true o) r m1 m2∧p=m2∧next'=m2+1∧¬ (at'=true∧∃ q l' r',o=.br q l' r'∧l'.page=l.page∧r'.page=r.page)
theorem ents_nil {t:PT}(h:t.Wf n)(he:t.ents=[]):t=.nil:=by
 cases t with
 | nil=>rfl
 | leaf p k v=>cases he
 | br p l r =>
  have h1:=h.2.2.1;have h2:=congrArg List.length he;simp only[PT.ents,lAp,zG]at h2;omega
theorem ents_one {t:PT}(h:t.Wf n){e:En}(he:t.ents=[e]):∃ p,t=.leaf p e.1 e.2:=by
 cases t with
 | nil=>cases he
 | leaf p k v=>cases he;exact⟨p,rfl⟩
 | br p l r =>
  have h1:=h.2.2.1;have h2:=congrArg List.length he;simp only[PT.ents,lAp,zU,zG]at h2;omega
theorem ents_two {t:PT}(h:t.Wf n)(he:2≤t.ents.length):∃ p l r,t=.br p l r:=by
 cases t with
 | nil=>simp[PT.ents]at he
 | leaf p k v=>simp[PT.ents]at he
 | br p l r=>exact⟨p,l,r,rfl⟩
theorem filt_l {l r:PT}(h:(PT.br p l r).Wf n):(l.ents++r.ents).filter (fun x=>!kbit x.1 n)=l.ents:=by
 obtain⟨_,_,_,hl,hr,_⟩:=h;rw[zH,List.filter_eq_self.2 fun x hx=>by rw[hl x hx];rfl,List.filter_eq_nil_iff.2 fun x hx=>by rw[hr x hx];decide,List.append_nil]
theorem filt_r {l r:PT}(h:(PT.br p l r).Wf n):(l.ents++r.ents).filter (fun x=>kbit x.1 n)=r.ents:=by
 obtain⟨_,_,_,hl,hr,_⟩:=h;rw[zH,List.filter_eq_nil_iff.2 fun x hx=>by rw[hl x hx];decide,List.filter_eq_self.2 fun x hx=>by rw[hr x hx],List.nil_append]
theorem lay_one (f n:Nat)(at':Bool){o:PT}(ho:o.Wf n)(k v:Bs)(next:Nat):lay f n at' o [(k, v)] next=match pageOf k v o with
  | some p=>(.leaf p k v,next)
  | none=>(.leaf next k v,next+1):=by
 cases f with
 | zero=>rfl
 | succ f =>
  unfold lay
  by_cases h:at'=true∧o.ents=[(k,v)]
  ·rw[if_pos h]
   obtain⟨p,rfl⟩:=ents_one ho h.2;simp[pageOf]
  ·rw[if_neg h,if_pos rfl]
theorem lay_same {f n:Nat}{o:PT}(ho:o.Wf n)(hf:f=256 - n)(next:Nat):lay f n true o o.ents next=(o,next):=by
 cases he:o.ents with
 | nil =>
  rw[ents_nil ho he]
  cases f <;> rfl
 | cons e r =>
  cases f with
  | zero =>
   cases r with
   | nil =>
    obtain⟨p,rfl⟩:=ents_one ho he;have:=lay_one 0 n true ho e.1 e.2 next;rw[show (e.1,e.2)=e from rfl]at this;rw[this];simp[pageOf]
   | cons e2 r =>
    obtain⟨p,l,r',rfl⟩:=ents_two ho (by rw[he];simp);have:=ho.2.1;omega
  | succ f =>
   unfold lay;rw[if_pos ⟨rfl,he⟩]
theorem kid_wf {o:PT}{at':Bool}(ho:o.Wf n)(b:Bool):(kid n b o).Wf (n+1):=by
 cases o with
 | nil=>exact trivial
 | leaf p k v =>
  show (if kbit k n=b then PT.leaf p k v else PT.nil).Wf (n+1)
  by_cases h:kbit k n=b
  ·rw[if_pos h];exact ho
  ·rw[if_neg h];exact trivial
 | br p l r =>
  obtain⟨_,_,_,_,_,h1,h2⟩:=ho;cases b
  ·exact h1
  ·exact h2
theorem okk_lay {dg:Nat→PT→Bs}{pg:Nat→Option Nd}:∀ (t:PT) {n:Nat} {at':Bool} {o:PT} {next next':Nat}, n≤256→t.Wf n→o.Wf n→Stands dg pg n t→(at'=true→Stands dg pg n o) →
  (Okk n at' o t next next' ↔ lay (256 - n) n at' o t.ents next=(t,next'))
 | .nil,n,at',o,next,next',_,_,_,_,_=>by
  have:lay (256 - n) n at' o (PT.nil).ents next=(.nil,next):=by cases (256 - n) <;> rfl
  rw[this];exact⟨fun h=>by rw[show next'=next from h],fun h=>by cases h;rfl⟩
 | .leaf p k v,n,at',o,next,next',_,_,ho,_,_=>by
  have hl:=lay_one (256 - n) n at' ho k v next;rw[show (PT.leaf p k v).ents=[(k,v)] from rfl,hl];unfold Okk
  cases hp:pageOf k v o with
  | none =>
   constructor
   ·rintro (⟨h,_⟩ | ⟨_,rfl,rfl⟩)
    ·cases h
    ·rfl
   ·intro h
    cases h;exact .inr ⟨rfl,rfl,rfl⟩
  | some q =>
   constructor
   ·rintro (⟨h,rfl⟩ | ⟨h,_⟩)
    ·cases h;rfl
    ·cases h
   ·intro h
    cases h;exact .inl ⟨rfl,rfl⟩
 | .br p l r,n,at',o,next,next',hn,ht,ho,hst,hso=>by
  have hlt:=ht.2.1
  obtain⟨f,hf⟩:∃ f,256 - n=f+1:=⟨255 - n,by omega⟩
  have hf':f=256 - (n+1):=by omega
  have h2:2≤(PT.br p l r).ents.length:=by show 2≤(l.ents++r.ents).length;rw[lAp];exact ht.2.2.1
  obtain⟨e,r0,he⟩:∃ e r0,(PT.br p l r).ents=e::r0:=by
   cases h:(PT.br p l r).ents with
   | nil=>rw[h]at h2;simp at h2
   | cons e r0=>exact⟨e,r0,rfl⟩
  have hr0:r0≠[]:=fun h=>by rw[he,h]at h2;simp at h2
  have hfl:(e::r0).filter (fun x=>!kbit x.1 n)=l.ents:=by rw[← he];exact filt_l ht
  have hfr:(e::r0).filter (fun x=>kbit x.1 n)=r.ents:=by rw[← he];exact filt_r ht
  obtain⟨_,_,_,_,_,hwl,hwr⟩:=id ht;obtain⟨_,_,_,hsl,hsr⟩:=id hst
  have hks:∀ b,(at' && isBr o)=true→Stands dg pg (n+1) (kid n b o):=fun b h=>by
   rw[Bool.and_eq_true]at h
   cases o with
   | nil=>exact absurd h.2 (by simp[isBr])
   | leaf p k v=>exact absurd h.2 (by simp[isBr])
   | br q l' r' =>
    obtain⟨_,_,_,g1,g2⟩:=hso h.1;cases b
    ·exact g1
    ·exact g2
  have ihl:=fun m=>okk_lay (dg:=dg) (pg:=pg) l (n:=n+1) (at':=at' && isBr o) (o:=kid n false o) (next:=next) (next':=m) (by omega) hwl (kid_wf (at':=at') ho false) hsl (hks false);have ihr:=fun m m'=>okk_lay (dg:=dg) (pg:=pg) r (n:=n+1) (at':=at' && isBr o) (o:=kid n true o) (next:=m) (next':=m') (by omega) hwr (kid_wf (at':=at') ho true) hsr (hks true);rw[← hf']at ihl ihr;rw[hf,he]
  conv=>rhs;unfold lay
  rw[hfl,hfr];unfold Okk;constructor
  ·rintro (⟨ha,rfl,rfl⟩ | ⟨m1,m2,g1,g2,rfl,rfl,hlike⟩)
   ·rw[if_pos ⟨ha,he⟩]
   ·have hsame:¬ (at'=true∧o.ents=e::r0):=fun ⟨ha, hoe⟩=>by
     subst ha;obtain⟨q,l',r',rfl⟩:=ents_two ho (by rw[hoe,← he];exact h2);have e1:l'.ents=l.ents:=by rw[← hfl,← hoe];exact (filt_l ho).symm
     have e2:r'.ents=r.ents:=by rw[← hfr,← hoe];exact (filt_r ho).symm
     have g1:=(ihl m1).1 g1;have g2:=(ihr m1 p).1 g2;obtain⟨_,_,_,_,_,w1,w2⟩:=id ho;have s1:=lay_same (f:=f) w1 hf' next;have s2:=lay_same (f:=f) w2 hf' m1;rw[e1]at s1;rw[e2]at s2;have k1:lay f (n+1) true l' l.ents next=(l,m1):=g1;have k2:lay f (n+1) true r' r.ents m1=(r,p):=g2;rw[s1]at k1;rw[s2]at k2;exact hlike ⟨rfl,q,l',r',rfl,by rw[(Prod.mk.inj k1).1],by rw[(Prod.mk.inj k2).1]⟩
    rw[if_neg hsame,if_neg hr0,(ihl m1).1 g1];show (PT.br (lay f (n+1) (at' && isBr o) (kid n true o) r.ents m1).2 l (lay f (n+1) (at' && isBr o) (kid n true o) r.ents m1).1,(lay f (n+1) (at' && isBr o) (kid n true o) r.ents m1).2+1)=_;rw[(ihr m1 p).1 g2]
  ·intro h
   by_cases hsame:at'=true∧o.ents=e::r0
   ·rw[if_pos hsame]at h
    cases h;exact .inl ⟨hsame.1,rfl,rfl⟩
   ·rw[if_neg hsame,if_neg hr0]at h
    simp only[Prod.mk.injEq,PT.br.injEq]at h;obtain⟨⟨hp,hl1,hr1⟩,hn'⟩:=h;refine .inr ⟨_,_,(ihl _).2 (Prod.ext hl1 rfl),(ihr _ _).2 (Prod.ext hr1 rfl),hp.symm,hn'.symm,fun ⟨ha,q,l',r',ho',p1,p2⟩=>hsame ⟨ha,?_⟩⟩;subst ho';obtain⟨_,_,_,g1,g2⟩:=hso ha;obtain⟨_,_,_,_,_,w1,w2⟩:=id ho;have e1:=stands_eq g1 hsl w1 hwl p1;have e2:=stands_eq g2 hsr w2 hwr p2;rw[← he,e1,e2];rfl
end Aud
end
end Go.V
