/- Helpers. -/
import Derived.Test.YtmenaeggoakppaaGreatDoorG09
set_option linter.all false
set_option maxRecDepth 100000
set_option maxHeartbeats 8000000
open Array renaming length_toList→zJ
open BitVec renaming ofNat→zK,toNat_ofNat→zV
open Go.Builtin renaming nextslicecap→xG,append_→qN
open List renaming append_assoc→zW,flatten_cons→zY,length_map→zU,map_cons→qP,replicate→zG,take_of_length_le→zF,length_cons→zH,drop_succ_cons→zB,nil_append→zD,mem_of_mem_take→zM,mem_of_mem_drop→zN,drop_zero→zP,getD_cons_zero→zR,takeWhile_append_dropWhile→zT,range→zQ,getElem?_append_left→zL,getElem?_eq_getElem→xO,drop_of_length_le→zC,set_append_right→zA,dropWhile_cons→zE,set_cons_zero→zI,getLastD_cons→zO
open Nat renaming le_refl→xP,zero_add→z8,sub_self→jQ,lt_or_ge→jX,zero_le→jZ,mul_le_mul_right→xM
open Option renaming bind_some→qV,map_some→qK
namespace Go.V
variable {c vs:Array Value} {bits:Bs} {ds:List (List Byte)} {ks:List Bs} {bs d:List Byte} {b by' i n o:Nat} {fz:Nat × Nat} {F:Nat→Prop} {t:TypeId} {v z:Value} {w w' w0:World}
section
variable {P:Program}
theorem rdO_drew (t:TypeId)(w:World)(b o:Nat):rdO P t w.drew b o=rdO P t w b o:=rfl
attribute [go_sem] rdO_drew List.contains_cons Bool.or_self Bool.or_false Bool.false_or
theorem wr1 {e:TypeId}(hs:szO P t=some 1)(hv:one v=true)(h:w.heap[b]?=some (.cells c e (0, 0)))(ho:o<c.size) :
  wrO P t w b o v=some (put w b (.cells (c.setIfInBounds o v) e (0,0))):=by
 obtain⟨u,hu⟩:∃ u,c[o]?=some u:=⟨_,Array.getElem?_eq_getElem ho⟩
 rw[wr_cv hs hv (u:=u) (by rw[cv_of_row h];exact hu),setc_row v h]
theorem rd1 {e:TypeId}(ha:aggO P t=some false)(h:w.heap[b]?=some (.cells c e fz))(hv:c[o]?=some v) :
  rdO P t w b o=some v:=rd_rc ha (by rw[qXd h];exact hv)
theorem wrs {e:TypeId}(hs:szO P t=some vs.size)(h:w.heap[b]?=some (.cells c e (0, 0)))(hc:o+vs.size≤c.size)(ho:vs.all one=true) :
  wrO P t w b o (.agg vs)=some (put w b (.cells (qXo vs.toList o c) e (0,0))):=by
 simp only[wrO,stO,h,Value.cells,hs,ho];rw[if_pos ⟨trivial,hc,trivial⟩];rfl
theorem rds {e:TypeId}(ha:aggO P t=some true)(hs:szO P t=some n)(h:w.heap[b]?=some (.cells c e fz))(hn:vs.size=n)(h0:0<n)(hv:∀ i, i<n→c[o+i]?=vs[i]?) :
  rdO P t w b o=some (.agg vs):=rd_rcs ha hs hn h0 fun i hi=>by rw[qXd h];exact hv i hi
theorem qQf {o x:Obj}(h:w.heap[b]?=some x):(put w b o).heap[b]?=some o:=qXt _ (qQh h)
theorem qQr {b b':Nat}{o x:Obj}(h:w.heap[b']?=some x)(hb:b≠b'):(put w b o).heap[b']?=some x:=by rw[qKj _ hb];exact h
theorem Fr.at (h:Fr F w w'){x:Obj}(hb:w.heap[b]?=some x)(hf:¬ F b):w'.heap[b]?=some x:=by rw[h.blk b (qQh hb) hf];exact hb
theorem qQq {o x:Obj}(h:w.heap[b]?=some x):(w.alloc o).heap[b]?=some x:=by rw[qXu _ _ (qQh h)];exact h
abbrev wl (l:List W32):Array Value:=(l.map u32).toArray
abbrev bl (l:List Byte):Array Value:=(l.map u8).toArray
theorem qZg (l:List W32):(wl l).size=l.length:=by simp
theorem qXa (l:List Byte):(bl l).size=l.length:=by simp
theorem wl_at {l:List W32}(h:i<l.length):(wl l)[i]?=some (u32 (l.getD i 0)):=by
 rw[List.getElem?_toArray,List.getElem?_map,xO h,qK,qQi _ h]
theorem bl_at {l:List Byte}(h:i<l.length):(bl l)[i]?=some (u8 (l.getD i 0)):=u8_at h
theorem wl_set (l:List W32)(i:Nat)(x:W32):(wl l).setIfInBounds i (u32 x)=wl (l.set i x):=by
 show _=((l.set i x).map u32).toArray;rw[List.map_set];simp
theorem bl_set (l:List Byte)(i:Nat)(x:Byte):(bl l).setIfInBounds i (u8 x)=bl (l.set i x):=set_u8 x
theorem wl_one (l:List W32):(wl l).all one=true:=by rw[← Array.all_toList];simp[one]
theorem bl_one (l:List Byte):(bl l).all one=true:=u8s_all l
theorem wl_zero (n:Nat):Array.replicate n (Value.int .u32 0)=wl (zG n 0):=by
 apply Array.toList_inj.1;simp
theorem qQj (n:Nat):Array.replicate n (Value.int .u8 0)=bl (zG n 0):=by
 apply Array.toList_inj.1;simp
def padTo {α:Type}(z:α)(n:Nat)(l:List α):List α:=l++zG (n - l.length) z
theorem qKe {α:Type}{z:α}{l:List α}(h:l.length≤n):(padTo z n l).length=n:=by simp[padTo];omega
theorem padTo_nil {α:Type}(z:α)(n:Nat):padTo z n []=zG n z:=by simp[padTo]
theorem padTo_full {α:Type}{z:α}{l:List α}(h:l.length=n):padTo z n l=l:=by simp[padTo,h]
theorem padTo_getD {α:Type}{z:α}{l:List α}(d:α)(h:i<l.length):(padTo z n l).getD i d=l.getD i d:=by
 rw[gDq,gDq,padTo,zL h]
theorem padTo_set {α:Type}{z:α}{l:List α}(x:α)(h:l.length<n):(padTo z n l).set l.length x=padTo z n (l++[x]):=by
 unfold padTo;rw[zA _ _ (xP _),jQ,lAp,List.length_singleton]
 obtain⟨k,hk⟩:∃ k,n - l.length=k+1:=⟨n - l.length - 1,by omega⟩
 rw[hk,show n - (l.length+1)=k by omega,List.replicate_succ,zI,zW];rfl
theorem qQl {ops:Array Oper}{K:Ev→World→Prop}{r:List Oper}{d:Option Nat}{ev:Ev}{x:Out}(h:x=.inl (some (v, w')))
  (hk:denL P ops K r (updO ev d v) w'):contL P ops K r d ev w x:=by
 subst h
 cases d <;> exact hk
theorem qJy {n m by':Nat}(h:(2*(n+m)+768)*by'≤2 ^ 48):∀ cap,n≤cap→cap<n+m→xG (n+m) cap*by'≤2 ^ 48:=fun cap _ hc=>by
 have h1:=nextcap_le (need:=n+m) (cap:=cap) hc;have h2:=xM by' h1
 omega
theorem bd_one (h:(n+n / 4+1024)*by'≤2 ^ 48):∀ cap,n≤cap→cap<n+1→xG (n+1) cap*by'≤2 ^ 48:=fun cap h0 hc=>by
 have h1:=nextcap1_le h0 hc;have h2:=xM by' h1
 omega
theorem qZv {ts:Array TypeId}{e sz by':Nat}(ht:AppT P ts e sz by' z){cs:List Value}(hv:Nw w0 w e sz v n cs)
  {m:Nat} {xs:Array Value} (hxs:xs.size=m*sz) (hone:xs.toList.all one=true) (hsz0:0<sz)
  (hbd:∀ cap,n≤cap→cap<n+m→xG (n+m) cap*by'≤2 ^ 48) (hbd2:n+m≤9223372036854775807) (f:No w0 w) :
  ∃ v' w',(qN ts 0 #[v,.slice (some ⟨w.heap.size,0,none⟩) m m]).run P (w.alloc (.cells xs e))=.ok v' w'∧Nw w0 w' e sz v' (n+m) (cs++xs.toList)∧No w0 w'∧Fr (fun b=>qQb v=some b) w w' ∧
   ∀ b,qQb v'=some b→qQb v=some b∨w.heap.size≤b:=by
 have f1:No w (w.alloc (.cells xs e)):=(Fr.refl _ _).alloc _
 have hx:Rd (w.alloc (.cells xs e)) sz (.slice (some ⟨w.heap.size,0,none⟩) m m) m xs.toList :=
  ⟨by rw[zJ,hxs],_,_,rfl,xP _,fun _=>⟨_,_,rfl,fun i hi=>by rw[qXd (qQc _ _),z8,Array.getElem?_toList]⟩⟩
 obtain⟨v',w',hr,h1,h2,h3⟩:=app_nw ht (hv.fr0 f1) hx hone hsz0 hbd hbd2 (by have:=f.size;have:=f1.size;omega);have f2:Fr (fun b=>qQb v=some b) w w':=(f1.mono fun _ _ h=>h.elim).trans h2;refine⟨v',w',hr,h1,f.trans' f2 fun b hb h=>?_,f2,fun b hb=>(h3 b hb).imp id fun h=>by rw[qQd]at h;omega⟩;have:=hv.new b h;omega
def NwB (w0 w:World)(v:Value)(bs:List Byte):Prop:=Nw w0 w 5 1 v bs.length (bs.map u8)
theorem NwB.by (h:NwB w0 w v bs):By w v bs:=Nw.rd h
theorem NwB.nil (w0 w:World):NwB w0 w (.slice none 0 0) []:=Nw.nil w0 w 5 1
theorem NwB.fr (h:NwB w0 w v bs)(k:Fr F w w')(hf:∀ b,qQb v=some b→¬ F b):NwB w0 w' v bs:=Nw.fr h k hf
theorem NwB.fr0 (h:NwB w0 w v bs)(k:No w w'):NwB w0 w' v bs:=Nw.fr0 h k
theorem NwB.slice (h:NwB w0 w v bs):∃ a cap,v=.slice a bs.length cap:=by
 obtain⟨_,a,cap,e,_⟩:=Nw.rd h;exact⟨a,cap,e⟩
theorem NwB.push {ts:Array TypeId}(ht:AppT P ts 5 1 1 z)(hv:NwB w0 w v bs)(xs:List Byte)
  (hbd:∀ cap,bs.length≤cap→cap<bs.length+xs.length→xG (bs.length+xs.length) cap*1≤2 ^ 48) (hbd2:bs.length+xs.length≤9223372036854775807) (f:No w0 w) :
  ∃ v' w',(qN ts 0 #[v,.slice (some ⟨w.heap.size,0,none⟩) xs.length xs.length]).run P (w.alloc (.cells (bl xs) 5))=.ok v' w'∧NwB w0 w' v' (bs++xs)∧No w0 w'∧Fr (fun b=>qQb v=some b) w w':=by
 obtain⟨v',w',hr,h1,h2,h3,_⟩:=qZv ht hv (m:=xs.length) (xs:=bl xs) (by rw[qXa,Nat.mul_one]) (qXs xs) (by omega) hbd hbd2 f;refine⟨v',w',hr,?_,h2,h3⟩;unfold NwB;rw[lAp,List.map_append];exact h1
theorem NwB.cat {ts:Array TypeId}(ht:AppT P ts 5 1 1 z)(hv:NwB w0 w v bs){x:Value}{xs:List Byte}(hx:By w x xs)
  (hbd:∀ cap,bs.length≤cap→cap<bs.length+xs.length→xG (bs.length+xs.length) cap*1≤2 ^ 48) (hbd2:bs.length+xs.length≤9223372036854775807) (f:No w0 w) :
  ∃ v' w',(qN ts 0 #[v,x]).run P w=.ok v' w'∧NwB w0 w' v' (bs++xs)∧No w0 w'∧Fr (fun b=>qQb v=some b) w w':=by
 obtain⟨v',w',hr,h1,h2,_⟩:=app_nw ht hv hx (qXs xs) (by omega) hbd hbd2 f.size;refine⟨v',w',hr,?_,f.trans' h2 fun b hb h=>?_,h2⟩
 ·unfold NwB
  rw[lAp,List.map_append];exact h1
 ·have:=hv.new b h;omega
end
section
variable {P:Program}
def flat (ds:List (List Byte)):List Value:=(ds.map fun d=>d.map u8).flatten
def All32 (ds:List (List Byte)):Prop:=∀ d ∈ ds,d.length=32
theorem All32.nil:All32 []:=fun _ h=>by cases h
theorem All32.cons (h:d.length=32)(k:All32 ds):All32 (d::ds):=fun x hx=>by
 rcases List.mem_cons.1 hx with rfl | hx
 ·exact h
 ·exact k x hx
theorem All32.app {a b:List (List Byte)}(h:All32 a)(k:All32 b):All32 (a++b):=fun x hx=>by
 rcases List.mem_append.1 hx with hx | hx
 ·exact h x hx
 ·exact k x hx
theorem All32.one (h:d.length=32):All32 [d]:=All32.cons h All32.nil
theorem All32.tail (h:All32 (d::ds)):All32 ds:=fun x hx=>h x (List.mem_cons_of_mem _ hx)
theorem All32.head (h:All32 (d::ds)):d.length=32:=h d List.mem_cons_self
theorem All32.at (h:All32 ds)(hi:i<ds.length):ds[i].length=32:=h _ (List.getElem_mem hi)
theorem All32.take (h:All32 ds)(n:Nat):All32 (ds.take n):=fun x hx=>h x (zM hx)
theorem All32.drop (h:All32 ds)(n:Nat):All32 (ds.drop n):=fun x hx=>h x (zN hx)
theorem All32.set (h:All32 ds)(i:Nat)(hd:d.length=32):All32 (ds.set i d):=fun x hx=>by
 rcases List.mem_or_eq_of_mem_set hx with h' | rfl
 ·exact h x h'
 ·exact hd
theorem qJv (a b:List (List Byte)):flat (a++b)=flat a++flat b:=by simp[flat]
theorem flat_one (d:List Byte):flat [d]=d.map u8:=by simp[flat]
theorem qJf:∀ {ds:List (List Byte)},All32 ds→(flat ds).length=ds.length*32
 | [],_=>rfl
 | d::ds,h=>by
  have:=qJf h.tail;simp only[flat,qP,zY,lAp,zU,zH,h.head]at this ⊢;omega
theorem flat_at:∀ {ds:List (List Byte)},All32 ds→∀ {i:Nat} (hi:i<ds.length) {j:Nat},j<32→(flat ds)[i*32+j]?=(ds[i].map u8)[j]?
 | d::ds,h,0,_,j,hj=>by
  simp only[flat,qP,zY,Nat.zero_mul,z8,List.getElem_cons_zero];rw[zL (by rw[zU,h.head];exact hj)]
 | d::ds,h,i+1,hi,j,hj=>by
  have:=flat_at h.tail (show i<ds.length by simpa using hi) hj;simp only[flat,qP,zY,List.getElem_cons_succ]at this ⊢;rw[List.getElem?_append_right (by rw[zU,h.head];omega),zU,h.head,show (i+1)*32+j - 32=i*32+j by omega];exact this
theorem flat_take:∀ {ds:List (List Byte)},All32 ds→∀ n,(flat ds).take (n*32)=flat (ds.take n)
 | [],_,n=>by simp[flat]
 | d::ds,h,0=>by simp[flat]
 | d::ds,h,n+1=>by
  have:=flat_take h.tail n;simp only[flat,qP,zY,List.take_succ_cons]at this ⊢;rw[List.take_append,zU,h.head,zF (by rw[zU,h.head];omega),show (n+1)*32 - 32=n*32 by omega,this]
theorem flat_drop:∀ {ds:List (List Byte)},All32 ds→∀ n,(flat ds).drop (n*32)=flat (ds.drop n)
 | [],_,n=>by simp[flat]
 | d::ds,h,0=>by simp[flat]
 | d::ds,h,n+1=>by
  have:=flat_drop h.tail n;simp only[flat,qP,zY,zB]at this ⊢;rw[List.drop_append,zU,h.head,zC (by rw[zU,h.head];omega),zD,show (n+1)*32 - 32=n*32 by omega,this]
theorem flat_all (ds:List (List Byte)):(flat ds).all one=true:=by
 rw[List.all_eq_true];intro v hv;obtain⟨l,hl,hv⟩:=List.mem_flatten.1 hv;obtain⟨d,_,rfl⟩:=List.mem_map.1 hl;obtain⟨x,_,rfl⟩:=List.mem_map.1 hv
 rfl
def RdD (w:World)(v:Value)(ds:List (List Byte)):Prop:=All32 ds∧Rd w 32 v ds.length (flat ds)
section
variable {w w':World} {v:Value} {ds:List (List Byte)}
theorem RdD.fr (h:RdD w v ds)(k:Fr F w w')(hf:∀ b,qQb v=some b→b<w.heap.size→¬ F b):RdD w' v ds:=⟨h.1,h.2.fr k hf⟩
theorem RdD.fr0 (h:RdD w v ds)(k:Fr (fun _=>False) w w'):RdD w' v ds:=h.fr k fun _ _ _ h=>h
theorem RdD.slice (h:RdD w v ds):∃ a cap,v=.slice a ds.length cap∧ds.length≤cap:=by
 obtain⟨_,_,a,cap,e,h,_⟩:=h;exact⟨a,cap,e,h⟩
theorem RdD.at (h:RdD w v ds):∃ a cap, v=.slice a ds.length cap∧ds.length≤cap∧∀ i (hi:i<ds.length), ∃ b o, a=some ⟨b, o, none⟩∧b<w.heap.size ∧
  ∀ t,aggO P t=some true→szO P t=some 32→rdO P t w b (o+i*32)=some (dg ds[i]):=by
 obtain⟨h0,h1,a,cap,rfl,h2,h3⟩:=h;refine⟨a,cap,rfl,h2,fun i hi=>?_⟩;obtain⟨b,o,rfl,h4⟩:=h3 (by omega)
 have hk:∀ j,j<32→rc w b (o+i*32+j)=(ds[i].map u8)[j]?:=fun j hj=>by
  rw [Nat.add_assoc, h4 (i * 32 + j) (by have : i * 32 + 32 ≤ ds.length * 32 := by omega
                                         omega),flat_at h0 hi hj]
 refine⟨b,o,rfl,?_,fun t ha hs=>rd_dg ha hs (h0.at hi) (by omega) hk⟩;have:=hk 0 (by omega);rw[List.getElem?_map,xO (by rw[h0.at hi];omega)]at this;exact rc_lt this
end
theorem RdD.cut {n cap:Nat}{a:Option Addr}(h:RdD w (.slice a n cap) ds){l m:Nat}(hl:l≤m)(hm:m≤n)(hn:ds.length=n)(a':Option Addr)
  (ha:a'=if cap=l then a else a.map (fun (q:Addr)=>q.add (l*32))):RdD w (.slice a' (m - l) (cap - l)) ((ds.drop l).take (m - l)):=by
 subst hn;have e:((ds.drop l).take (m - l)).length=m - l:=by rw[lTk,lDr];omega
 refine⟨(h.1.drop l).take _,?_⟩;rw[e,← flat_take (h.1.drop l),← flat_drop h.1];exact Rd.cut h.2 hl hm a' ha
def NwD (w0 w:World)(e:Nat)(v:Value)(ds:List (List Byte)):Prop:=All32 ds∧Nw w0 w e 32 v ds.length (flat ds)
section
variable {w0 w w':World} {e:Nat} {v:Value} {ds:List (List Byte)}
theorem NwD.nil (w0 w:World)(e:Nat):NwD w0 w e (.slice none 0 0) []:=⟨All32.nil,Nw.nil _ _ _ _⟩
theorem NwD.rd (h:NwD w0 w e v ds):RdD w v ds:=⟨h.1,h.2.rd⟩
theorem NwD.fr (h:NwD w0 w e v ds)(k:Fr F w w')(hf:∀ b,qQb v=some b→¬ F b):NwD w0 w' e v ds:=⟨h.1,h.2.fr k hf⟩
theorem NwD.fr0 (h:NwD w0 w e v ds)(k:No w w'):NwD w0 w' e v ds:=⟨h.1,h.2.fr0 k⟩
theorem NwD.back {u:World}(h:NwD w0 w e v ds)(hu:u.heap.size≤w0.heap.size):NwD u w e v ds:=⟨h.1,h.2.back hu⟩
theorem NwD.lt (h:NwD w0 w e v ds)(hb:qQb v=some b):w0.heap.size≤b∧b<w.heap.size:=⟨h.2.new b hb,h.2.own.lt hb⟩
theorem NwD.push {ts:Array TypeId}(ht:AppT P ts e 32 32 z)(hv:NwD w0 w e v ds)(hd:d.length=32)
  (hbd:(ds.length+ds.length / 4+1024)*32≤2 ^ 48) (f:No w0 w) :
  ∃ v' w',(qN ts 0 #[v,.slice (some ⟨w.heap.size,0,none⟩) 1 1]).run P (w.alloc (.cells (bl d) e))=.ok v' w'∧NwD w0 w' e v' (ds++[d])∧No w0 w'∧Fr (fun b=>qQb v=some b) w w' ∧
   ∀ b,qQb v'=some b→qQb v=some b∨w.heap.size≤b:=by
 obtain⟨v',w',hr,h1,h2,h3,h4⟩:=qZv ht hv.2 (m:=1) (xs:=bl d) (by rw[qXa,hd]) (qXs d) (by omega) (bd_one hbd) (by omega) f;refine⟨v',w',hr,⟨hv.1.app (All32.one hd),?_⟩,h2,h3,h4⟩;rw[lAp,qJv,flat_one];exact h1
theorem NwD.cat {ts:Array TypeId}(ht:AppT P ts e 32 32 z)(hv:NwD w0 w e v ds){x:Value}{xs:List (List Byte)}(hx:RdD w x xs)
  (hbd:∀ cap,ds.length≤cap→cap<ds.length+xs.length→xG (ds.length+xs.length) cap*32≤2 ^ 48) (hbd2:ds.length+xs.length≤9223372036854775807) (f:No w0 w) :
  ∃ v' w',(qN ts 0 #[v,x]).run P w=.ok v' w'∧NwD w0 w' e v' (ds++xs)∧No w0 w'∧Fr (fun b=>qQb v=some b) w w':=by
 obtain⟨v',w',hr,h1,h2,_⟩:=app_nw ht hv.2 hx.2 (flat_all xs) (by omega) hbd hbd2 f.size;refine⟨v',w',hr,⟨hv.1.app hx.1,?_⟩,f.trans' h2 fun b hb h=>?_,h2⟩
 ·rw[lAp,qJv];exact h1
 ·have:=hv.2.new b h;omega
end
theorem fill_dg {z:List Value}(hz:z.length=32)(hd:d.length=32):Instr.fill (fun i=>some (i*32,32)) (zrow z 1) [(0,dg d)]=some (bl d):=by
 have hzr:(zrow z 1).size=32:=by simp[zrow,hz]
 have hds:(dg d).cells.size=32:=by simp[Value.cells,hd]
 simp only[Instr.fill,hds,hzr];rw[if_neg (by decide)];have e:(dg d).cells=bl d:=rfl;rw[e]
 congr 1
 have key:∀ (l:List Value) (c:Array Value) (k:Nat),k+l.length=c.size→((l.zipIdx k).foldl (fun (cs:Array Value) (p:Value × Nat)=>cs.setIfInBounds (0*32+p.2) p.1) c).toList=c.toList.take k++l:=by
  intro l
  induction l with
  | nil =>
   intro c k h;simp only[List.length_nil,Nat.add_zero]at h;rw[zF (by rw[zJ];omega)];simp
  | cons v l ih =>
   intro c k h;simp only[List.zipIdx_cons,List.foldl_cons,Nat.zero_mul,z8]at ih ⊢;simp only[zH]at h;rw[ih (c.setIfInBounds k v) (k+1) (by simp;omega)];simp only[Array.toList_setIfInBounds];rw[List.take_set,List.set_eq_take_append_cons_drop];simp only[lTk,zJ];rw[if_pos (by omega),List.take_take,List.drop_take]
   simp
 apply Array.toList_inj.1;rw[← Array.foldl_toList,Array.toList_zipIdx,key (bl d).toList _ 0 (by rw[zJ,qXa,hd,hzr])]
 simp
end
section
namespace Wit
def Asc (ks:List Bs):Prop:=ks.Pairwise klt
def Shr (n:Nat)(ks:List Bs):Prop:=∀ a ∈ ks,∀ b ∈ ks,∀ j,j<n→kbit a j=kbit b j
def frm (ks:List Bs):Nat:=if ks.length<2 then 0 else 256 - common (ks.headD []) (ks.getLastD [])
def lefts (ks:List Bs):Nat:=(ks.takeWhile fun k=>!kbit k (256 - frm ks)).length
theorem klt_min {a b c:Bs}(h:klt a b)(k:klt b c):common a c=min (common a b) (common b c):=by
 obtain⟨h1,h2,h3⟩:=h;obtain⟨k1,k2,k3⟩:=k
 rcases Nat.lt_trichotomy (common a b) (common b c) with hh | hh | hh
 ·have e:common a c=common a b:=qZf (fun j hj=>(qQx hj).trans (qQx (by omega))) (fun _=>by rw[h2,← qQx hh,h3];decide) (by omega)
  omega
 ·rw[hh]at h3;rw[h3]at k2;cases k2
 ·have e:common a c=common b c:=qZf (fun j hj=>(qQx (by omega)).trans (qQx hj)) (fun _=>by rw[qQx hh,k2,k3];decide) (by omega)
  omega
theorem klt_bit {a b:Bs}(h:klt a b)(hs:∀ j,j<n→kbit a j=kbit b j)(ha:kbit a n=true)(hn:n<256):kbit b n=true:=by
 obtain⟨h1,h2,h3⟩:=h
 rcases Nat.lt_trichotomy (common a b) n with hh | hh | hh
 ·have:=hs _ hh;rw[h2,h3]at this;cases this
 ·rw[← hh,h2]at ha;cases ha
 ·rw[← qQx hh];exact ha
theorem Asc.take (h:Asc ks)(n:Nat):Asc (ks.take n):=List.Pairwise.sublist (List.take_sublist _ _) h
theorem Asc.drop (h:Asc ks)(n:Nat):Asc (ks.drop n):=List.Pairwise.sublist (List.drop_sublist _ _) h
theorem Shr.mono {n m:Nat}{ks ls:List Bs}(h:Shr n ks)(hs:∀ k ∈ ls,k ∈ ks)(hm:m≤n):Shr m ls:=fun a ha b hb j hj=>h a (hs a ha) b (hs b hb) j (by omega)
theorem headD_mem (h:0<ks.length):ks.headD [] ∈ ks:=by
 cases ks with
 | nil=>simp at h
 | cons a l=>simp
theorem lastD_mem (h:0<ks.length):ks.getLastD [] ∈ ks:=by
 cases ks with
 | nil=>simp at h
 | cons a l =>
  have:(a::l).getLastD []=(a::l).getLast (by simp):=by rw[List.getLast_eq_getLastD,zO]
  rw[this];exact List.getLast_mem _
theorem asc_last (h:Asc ks):∀ k ∈ ks,k=ks.getLastD []∨klt k (ks.getLastD []):=by
 induction ks with
 | nil=>intro k hk;cases hk
 | cons a l ih =>
  intro k hk;obtain⟨h1,h2⟩:=List.pairwise_cons.1 h
  cases l with
  | nil=>simp at hk;subst hk;exact .inl rfl
  | cons b l =>
   have e:(a::b::l).getLastD []=(b::l).getLastD []:=by simp
   rw[e]
   rcases List.mem_cons.1 hk with rfl | hk
   ·exact .inr (h1 _ (lastD_mem (by simp)))
   ·exact ih h2 k hk
theorem asc_head (h:Asc ks):∀ k ∈ ks,k=ks.headD []∨klt (ks.headD []) k:=by
 cases ks with
 | nil=>intro k hk;cases hk
 | cons a l =>
  intro k hk;obtain⟨h1,h2⟩:=List.pairwise_cons.1 h
  rcases List.mem_cons.1 hk with rfl | hk
  ·exact .inl rfl
  ·exact .inr (h1 _ hk)
theorem head_lt_last (h:Asc ks)(h2:2≤ks.length):klt (ks.headD []) (ks.getLastD []):=by
 cases ks with
 | nil=>simp at h2
 | cons a l=>cases l with
  | nil=>simp at h2
  | cons b l =>
   obtain⟨h1,_⟩:=List.pairwise_cons.1 h;exact h1 _ (by rw[zO];exact lastD_mem (by simp))
section
variable {ks:List Bs} (h:Asc ks) (h2:2≤ks.length)
include h h2
theorem frm_eq:frm ks=256 - common (ks.headD []) (ks.getLastD []):=by unfold frm;rw[if_neg (by omega)]
theorem frm_sub:256 - frm ks=common (ks.headD []) (ks.getLastD []):=by
 rw[frm_eq h h2];have:=common_le (ks.headD []) (ks.getLastD []);omega
theorem frm_pos:1≤frm ks:=by rw[frm_eq h h2];have:=(head_lt_last h h2).1;omega
theorem frm_le:frm ks≤256:=by rw[frm_eq h h2];omega
theorem frm_head:kbit (ks.headD []) (256 - frm ks)=false:=by rw[frm_sub h h2];exact (head_lt_last h h2).2.1
theorem frm_last:kbit (ks.getLastD []) (256 - frm ks)=true:=by rw[frm_sub h h2];exact (head_lt_last h h2).2.2
theorem frm_shr:Shr (256 - frm ks) ks:=by
 have key:∀ k ∈ ks,∀ j,j<256 - frm ks→kbit k j=kbit (ks.headD []) j:=by
  intro k hk j hj;rw[frm_sub h h2]at hj
  rcases asc_head h k hk with rfl | h3
  ·rfl
  ·rcases asc_last h k hk with e | h4
   ·rw[e];exact (qQx hj).symm
   ·rw[klt_min h3 h4]at hj
    exact (qQx (show j<common (ks.headD []) k by omega)).symm
 intro a ha b hb j hj;rw[key a ha j hj,key b hb j hj]
theorem drop_bit:∀ k ∈ ks.dropWhile (fun k=>!kbit k (256 - frm ks)),kbit k (256 - frm ks)=true:=by
 have hs:=frm_shr h h2;have hp:=frm_pos h h2;generalize 256 - frm ks=n at *;have hn:n<256∨256≤n:=by omega
 have gen:∀ ls:List Bs,Asc ls→Shr n ls→∀ k ∈ ls.dropWhile (fun k=>!kbit k n),kbit k n=true:=by
  intro ls
  induction ls with
  | nil=>intro _ _ k hk;cases hk
  | cons a l ih =>
   intro h1 h3 k hk;obtain⟨h4,h5⟩:=List.pairwise_cons.1 h1
   by_cases ha:kbit a n=true
   ·rw[zE,if_neg (by simp[ha])]at hk
    rcases List.mem_cons.1 hk with rfl | hk
    ·exact ha
    ·rcases hn with hn | hn
     ·exact klt_bit (h4 _ hk) (fun j hj=>h3 a (by simp) k (by simp[hk]) j hj) ha hn
     ·exfalso
      have:=(h4 _ hk).1;have h6:=qKo this;exact h6 (h3 a (by simp) k (by simp[hk]) _ (by omega))
   ·rw[zE,if_pos (by simpa using ha)]at hk
    exact ih h5 (h3.mono (fun x hx=>by simp[hx]) (xP _)) k hk
 exact gen ks h hs
theorem take_lefts:ks.take (lefts ks)=ks.takeWhile (fun k=>!kbit k (256 - frm ks)):=by
 unfold lefts;have:=zT (p:=fun k=>!kbit k (256 - frm ks)) (l:=ks)
 conv=>lhs;arg 2;rw[← this]
 rw[List.take_left]
theorem drop_lefts:ks.drop (lefts ks)=ks.dropWhile (fun k=>!kbit k (256 - frm ks)):=by
 unfold lefts;have:=zT (p:=fun k=>!kbit k (256 - frm ks)) (l:=ks)
 conv=>lhs;arg 2;rw[← this]
 rw[List.drop_left]
theorem bit_take:∀ k ∈ ks.take (lefts ks),kbit k (256 - frm ks)=false:=by
 rw[take_lefts h h2];intro k hk;have:=List.all_takeWhile (p:=fun k=>!kbit k (256 - frm ks)) (l:=ks);simpa using List.all_eq_true.1 this k hk
theorem bit_drop:∀ k ∈ ks.drop (lefts ks),kbit k (256 - frm ks)=true:=by rw[drop_lefts h h2];exact drop_bit h h2
theorem lefts_lt:lefts ks<ks.length:=by
 rcases jX (lefts ks) ks.length with h3 | h3
 ·exact h3
 ·exfalso
  have h4:=bit_take h h2 (ks.getLastD []) (by rw[zF h3];exact lastD_mem (by omega));rw[frm_last h h2]at h4;cases h4
theorem lefts_pos:1≤lefts ks:=by
 rcases jX 0 (lefts ks) with h3 | h3
 ·exact h3
 ·exfalso
  have h4:=bit_drop h h2 (ks.headD []) (by rw[show lefts ks=0 by omega,zP];exact headD_mem (by omega));rw[frm_head h h2]at h4;cases h4
theorem lefts_at (hi:i<ks.length):kbit ks[i] (256 - frm ks)=decide (lefts ks≤i):=by
 by_cases h3:lefts ks≤i
 ·rw[decide_eq_true h3]
  refine bit_drop h h2 _ (List.mem_iff_getElem.2 ⟨i - lefts ks,by rw[lDr];omega,?_⟩);rw[List.getElem_drop];congr 1;omega
 ·rw[decide_eq_false h3]
  refine bit_take h h2 _ (List.mem_iff_getElem.2 ⟨i,by rw[lTk];omega,?_⟩);rw[List.getElem_take]
theorem shr_take:Shr (257 - frm ks) (ks.take (lefts ks)):=fun a ha b hb j hj=>by
 by_cases h3:j<256 - frm ks
 ·exact frm_shr h h2 a (zM ha) b (zM hb) j h3
 ·have:=frm_le h h2
  obtain rfl:j=256 - frm ks:=by omega
  rw[bit_take h h2 a ha,bit_take h h2 b hb]
theorem shr_drop:Shr (257 - frm ks) (ks.drop (lefts ks)):=fun a ha b hb j hj=>by
 by_cases h3:j<256 - frm ks
 ·exact frm_shr h h2 a (zN ha) b (zN hb) j h3
 ·have:=frm_le h h2
  obtain rfl:j=256 - frm ks:=by omega
  rw[bit_drop h h2 a ha,bit_drop h h2 b hb]
end
theorem frm_one (h:ks.length<2):frm ks=0:=by unfold frm;rw[if_pos h]
theorem frm_bound (h:Asc ks)(hs:Shr n ks)(hn:n≤256):frm ks≤256 - n:=by
 by_cases h2:2≤ks.length
 ·have h3:=frm_head h h2
  have h4:=frm_last h h2;have h5:=frm_le h h2
  rcases jX (256 - frm ks) n with h6 | h6
  ·have:=hs _ (headD_mem (by omega)) _ (lastD_mem (by omega)) _ h6
   rw[h3,h4]at this;cases this
  ·omega
 ·rw[frm_one (by omega)];omega
theorem shr_zero (ks:List Bs):Shr 0 ks:=fun _ _ _ _ j hj=>absurd hj (by omega)
inductive Tw where
 | leaf (k:Bs) (top:Nat) (near:List Bs) (a:Option Bs)
 | fork (ks:List Bs) (f top:Nat) (near:List Bs) (l r:Tw)
namespace Tw
def keys:Tw→List Bs
 | leaf k _ _ _=>[k]
 | fork ks _ _ _ _ _=>ks
def fr:Tw→Nat
 | leaf _ _ _ _=>0
 | fork _ f _ _ _ _=>f
def top:Tw→Nat
 | leaf _ t _ _=>t
 | fork _ _ t _ _ _=>t
def near:Tw→List Bs
 | leaf _ _ n _=>n
 | fork _ _ _ n _ _=>n
def key (t:Tw):Bs:=t.keys.headD []
def Ok:Tw→Prop
 | leaf k top near a=>k.length=32∧top≤256∧near.length=top∧All32 near∧∀ v,a=some v→v.length≤128
 | fork ks f top near l r=>f=frm ks∧f≤top∧top≤256∧near.length=top - f∧All32 near∧Asc ks∧All32 ks∧2≤ks.length∧l.keys=ks.take (lefts ks)∧r.keys=ks.drop (lefts ks)∧l.top=f - 1∧r.top=f - 1∧l.Ok∧r.Ok
theorem Ok.keys_pos:∀ {t:Tw},t.Ok→0<t.keys.length
 | leaf _ _ _ _,_=>by simp[keys]
 | fork _ _ _ _ _ _,h=>by simp only[keys];have:=h.2.2.2.2.2.2.2.1;omega
theorem Ok.all:∀ {t:Tw},t.Ok→All32 t.keys
 | leaf _ _ _ _,h=>All32.one h.1
 | fork _ _ _ _ _ _,h=>h.2.2.2.2.2.2.1
theorem Ok.fr_le:∀ {t:Tw},t.Ok→t.fr≤t.top
 | leaf _ _ _ _,_=>jZ _
 | fork _ _ _ _ _ _,h=>h.2.1
theorem Ok.top_le:∀ {t:Tw},t.Ok→t.top≤256
 | leaf _ _ _ _,h=>h.2.1
 | fork _ _ _ _ _ _,h=>h.2.2.1
theorem Ok.near_len:∀ {t:Tw},t.Ok→t.near.length=t.top - t.fr
 | leaf _ _ _ _,h=>h.2.2.1
 | fork _ _ _ _ _ _,h=>h.2.2.2.1
theorem Ok.near32:∀ {t:Tw},t.Ok→All32 t.near
 | leaf _ _ _ _,h=>h.2.2.2.1
 | fork _ _ _ _ _ _,h=>h.2.2.2.2.1
theorem Ok.key_mem {t:Tw}(h:t.Ok):t.key ∈ t.keys:=headD_mem h.keys_pos
theorem Ok.key_len {t:Tw}(h:t.Ok):t.key.length=32:=h.all _ h.key_mem
theorem Ok.f_pos {f top:Nat}{near:List Bs}{l r:Tw}(h:(fork ks f top near l r).Ok):1≤f:=by
 rw[h.1];exact frm_pos h.2.2.2.2.2.1 h.2.2.2.2.2.2.2.1
end Tw
def ansP (kind:Nat)(bs:Bs):Option (Option Bs × Bs) :=
 if kind=0 then some (none,bs)
 else if bs.length<2 then none
 else if (bs.getD 0 0).toNat+256*(bs.getD 1 0).toNat > 128 then none
 else if (bs.drop 2).length<(bs.getD 0 0).toNat+256*(bs.getD 1 0).toNat then none
 else some (some ((bs.drop 2).take ((bs.getD 0 0).toNat+256*(bs.getD 1 0).toNat)),(bs.drop 2).drop ((bs.getD 0 0).toNat+256*(bs.getD 1 0).toNat))
def mbit (bits:Bs)(g:Nat):Bool:=(bits.getD (g / 8) 0).getLsbD (g % 8)
def gvP (f top:Nat)(bits:Bs):Nat→Nat→Bs→Option (List (Nat × Bs) × Bs)
 | 0,_,bs=>some ([],bs)
 | n+1,g,bs =>
  if mbit bits g=false then gvP f top bits n (g+1) bs
  else if bs.length<32∨g<f∨top≤g then none
  else (gvP f top bits n (g+1) (bs.drop 32)).map fun p=>((g,bs.take 32)::p.1,p.2)
def fill (f:Nat)(base:List Bs)(gs:List (Nat × Bs)):List Bs:=gs.foldl (fun l p=>l.set (p.1 - f) p.2) base
def nearP (w:Int)(f top:Nat)(bs:Bs):Option (List Bs × List (Nat × Bs) × Bs) :=
 if bs.length<32 then none
 else (gvP f top (bs.take 32) 256 0 (bs.drop 32)).map fun p=>(fill f (((empts w 257).drop f).take (top - f)) p.1,p.1,p.2)
def parse (w:Int):Nat→List Bs→Nat→Bs→Option (Tw × List (Nat × Bs) × Bs)
 | 0,_,_,_=>none
 | n+1,ks,top,bs =>
  if bs.length<1 then none
  else if (bs.getD 0 0).toNat > 2∨¬ ((bs.getD 0 0).toNat=2 ↔ 1<ks.length) then none
  else if (bs.getD 0 0).toNat=2 then
   (nearP w (frm ks) top (bs.drop 1)).bind fun p =>
   (parse w n (ks.take (lefts ks)) (frm ks - 1) p.2.2).bind fun q =>
   (parse w n (ks.drop (lefts ks)) (frm ks - 1) q.2.2).map fun s=>(.fork ks (frm ks) top p.1 q.1 s.1,p.2.1++(q.2.1++s.2.1),s.2.2)
  else
   (ansP (bs.getD 0 0).toNat (bs.drop 1)).bind fun p =>
   (nearP w 0 top p.2).map fun q=>(.leaf (ks.headD []) top q.1 p.1,q.2.1,q.2.2)
def chk (w:Int):List (Nat × Bs)→Int
 | []=>0
 | p::r=>if p.2≠cutD w p.2 then 120 else if p.2=emptD w p.1 then 130 else chk w r
def form (w:Int)(ks:List Bs)(raw:Bs):Except Int (Option Tw) :=
 if ks=[] then if raw=[] then .ok none else .error 120
 else match parse w ks.length ks 256 raw with
  | none=>.error 120
  | some p=>if p.2.2≠[] then .error 120 else if chk w p.2.1≠0 then .error (chk w p.2.1) else .ok (some p.1)
def ldig (w:Int)(k:Bs):Option Bs→Bs
 | some v=>leafD w k v
 | none=>emptD w 0
theorem ldig_len (w:Int)(k:Bs)(a:Option Bs):(ldig w k a).length=32:=by
 cases a
 ·exact qQp _ _
 ·exact qZb _ _ _
abbrev Says:=Bs→Option Bs→Option Bs
def asIs:Says:=fun _ a=>a
def base (w:Int)(says:Says):Tw→Bs
 | .leaf k _ _ a=>ldig w k (says k a)
 | .fork _ _ _ _ l r=>qQv w (climb w l.key l.fr (base w says l) l.near) (climb w r.key r.fr (base w says r) r.near)
def dig (w:Int)(says:Says)(t:Tw):Bs:=climb w t.key t.fr (base w says t) t.near
theorem base_len (w:Int)(says:Says):∀ t,(base w says t).length=32
 | .leaf _ _ _ _=>ldig_len _ _ _
 | .fork _ _ _ _ _ _=>qQz _ _ _
theorem dig_len (w:Int)(says:Says)(t:Tw):(dig w says t).length=32:=qJa _ _ _ _ _ (base_len _ _ _)
def ansT:Option Bs→Bs
 | none=>[0]
 | some v=>1::zK 8 v.length::zK 8 (v.length / 256)::v
def layN (w:Int):Nat→Bs→Bs→List Bs→Bs × Bs
 | _,bits,sums,[]=>(bits,sums)
 | h,bits,sums,d::r=>if d=emptD w h then layN w (h+1) bits sums r else layN w (h+1) (bits.set (h / 8) (bits.getD (h / 8) 0 ||| zK 8 (2 ^ (h % 8)))) (sums++d) r
def nearT (w:Int)(f:Nat)(near:List Bs):Bs:=(layN w f (zG 32 0) [] near).1++(layN w f (zG 32 0) [] near).2
def txt (w:Int):Tw→Bs
 | .leaf _ _ near a=>ansT a++nearT w 0 near
 | .fork _ f _ near l r=>2::(nearT w f near++(txt w l++txt w r))
def Tw.at:Tw→Bs→Option Bs
 | .leaf _ _ _ a,_=>a
 | .fork _ f _ _ l r,k=>if kbit k (256 - f) then r.at k else l.at k
def nbrs (w:Int):Tw→Bs→List Bs
 | .leaf _ _ near _,_=>near
 | .fork _ f _ near l r,k=>(if kbit k (256 - f) then nbrs w r k++[dig w asIs l] else nbrs w l k++[dig w asIs r])++near
end Wit
end
section
namespace Wit
open Tw
theorem fill_len (f:Nat):∀ (gs:List (Nat × Bs)) (b:List Bs),(fill f b gs).length=b.length
 | [],_=>rfl
 | p::gs,b=>by
  show (fill f (b.set (p.1 - f) p.2) gs).length=_;rw[fill_len f gs,List.length_set]
theorem fill_all (f:Nat):∀ (gs:List (Nat × Bs)) (b:List Bs),All32 b→(∀ q ∈ gs,q.2.length=32)→All32 (fill f b gs)
 | [],_,h,_=>h
 | p::gs,b,h,k=>fill_all f gs _ (h.set _ (k p (by simp))) fun q hq=>k q (by simp[hq])
theorem gvP_spec {f top:Nat}:∀ {n g:Nat} {bs:Bs} {p:List (Nat × Bs) × Bs},gvP f top bits n g bs=some p→∀ q ∈ p.1,f≤q.1∧q.1<top∧q.2.length=32:=by
 intro n
 induction n with
 | zero=>intro g bs p h;simp only[gvP,oSi]at h;subst h;intro q hq;cases hq
 | succ n ih =>
  intro g bs p h;simp only[gvP]at h;split at h
  ·exact ih h
  ·split at h
   ·cases h
   ·rename_i h1
    obtain⟨q,hq,rfl⟩:=Option.map_eq_some_iff.1 h;intro x hx
    rcases List.mem_cons.1 hx with rfl | hx
    ·refine⟨by omega,by omega,?_⟩
     show (bs.take 32).length=32;rw[lTk];omega
    ·exact ih hq x hx
theorem empts32 (w:Int)(n:Nat):All32 (empts w n):=fun d hd=>by
 obtain⟨i,_,rfl⟩:=List.mem_map.1 hd;exact qQp _ _
theorem nearP_ok {w:Int}{f top:Nat}{bs:Bs}{p:List Bs × List (Nat × Bs) × Bs}(ht:top≤256)(h:nearP w f top bs=some p) :
  p.1.length=top - f∧All32 p.1∧∀ q ∈ p.2.1,f≤q.1∧q.1<top∧q.2.length=32:=by
 unfold nearP at h;split at h
 ·cases h
 ·obtain⟨q,hq,rfl⟩:=Option.map_eq_some_iff.1 h
  have h1:=gvP_spec hq;refine⟨?_,fill_all _ _ _ (((empts32 _ _).drop _).take _) fun x hx=>(h1 x hx).2.2,h1⟩;rw[fill_len,lTk,lDr,qQm];omega
theorem parse_ok {w:Int}:∀ {n:Nat} {ks:List Bs} {top:Nat} {bs:Bs} {p:Tw × List (Nat × Bs) × Bs}, Asc ks→All32 ks→0<ks.length→Shr (256 - top) ks→top≤256→parse w n ks top bs=some p →
  p.1.Ok∧p.1.keys=ks∧p.1.top=top∧∀ q ∈ p.2.1,q.1<256∧q.2.length=32:=by
 intro n
 induction n with
 | zero=>intro ks top bs p _ _ _ _ _ h;cases h
 | succ n ih =>
  intro ks top bs p ha hk h0 hs ht h;simp only[parse]at h;split at h
  ·cases h
  split at h
  ·cases h
  rename_i hc;split at h
  ·rename_i h2
   have hl:2≤ks.length:=by
    by_cases hl:1<ks.length
    ·exact hl
    ·exact absurd (Or.inr fun e=>hl (e.1 h2)) hc
   obtain⟨a,h3,h⟩:=Option.bind_eq_some_iff.1 h;obtain⟨b,h4,h⟩:=Option.bind_eq_some_iff.1 h;obtain⟨c,h5,rfl⟩:=Option.map_eq_some_iff.1 h;have hf:=frm_bound ha hs (by omega);have hp:=frm_pos ha hl;obtain⟨a1,a2,a3⟩:=nearP_ok ht h3;have hlt:=lefts_lt ha hl;have hlp:=lefts_pos ha hl;obtain⟨b1,b2,b3,b4⟩:=ih (ha.take _) (hk.take _) (by rw[lTk];omega) (by rw[show 256 - (frm ks - 1)=257 - frm ks by have:=frm_le ha hl;omega];exact shr_take ha hl) (by omega) h4;obtain⟨c1,c2,c3,c4⟩:=ih (ha.drop _) (hk.drop _) (by rw[lDr];omega) (by rw[show 256 - (frm ks - 1)=257 - frm ks by have:=frm_le ha hl;omega];exact shr_drop ha hl) (by omega) h5;refine⟨⟨rfl,by omega,ht,a1,a2,ha,hk,hl,b2,c2,b3,c3,b1,c1⟩,rfl,rfl,fun q hq=>?_⟩
   rcases List.mem_append.1 hq with hq | hq
   ·have:=a3 q hq;exact⟨by omega,this.2.2⟩
   ·rcases List.mem_append.1 hq with hq | hq
    ·exact b4 q hq
    ·exact c4 q hq
  ·rename_i h2
   have hl:ks.length=1:=by
    by_cases hl:1<ks.length
    ·exact absurd (Or.inr fun e=>h2 (e.2 hl)) hc
    ·omega
   obtain⟨a,h3,h⟩:=Option.bind_eq_some_iff.1 h;obtain⟨b,h4,rfl⟩:=Option.map_eq_some_iff.1 h;obtain⟨b1,b2,b3⟩:=nearP_ok ht h4;obtain⟨k,rfl⟩:=List.length_eq_one_iff.1 hl;refine⟨⟨hk.head,ht,b1,b2,fun v hv=>?_⟩,rfl,rfl,fun q hq=>?_⟩
   ·unfold ansP at h3
    split at h3
    ·simp only[oSi]at h3;subst h3;cases hv
    split at h3
    ·cases h3
    split at h3
    ·cases h3
    split at h3
    ·cases h3
    simp only[oSi]at h3;subst h3;simp only[oSi]at hv;subst hv;rw[lTk];omega
   ·have:=b3 q hq;exact⟨by omega,this.2.2⟩
theorem form_ok {w:Int}{raw:Bs}{t:Tw}(ha:Asc ks)(hk:All32 ks)(h:form w ks raw=.ok (some t)):t.Ok∧t.keys=ks∧t.top=256∧∃ gs,parse w ks.length ks 256 raw=some (t,gs,[])∧chk w gs=0:=by
 unfold form at h;split at h
 ·split at h <;> cases h
 ·rename_i h0
  split at h
  ·cases h
  ·rename_i p hp
   split at h
   ·cases h
   ·split at h
    ·cases h
    ·rename_i h1 h2
     simp only[Except.ok.injEq,oSi]at h;subst h;obtain⟨p1,p2,p3⟩:=p;have hz:p3=[]:=by simpa using h1
     subst hz;obtain⟨a,b,c,_⟩:=parse_ok ha hk (List.length_pos_iff.2 h0) (by rw[jQ];exact shr_zero ks) (xP _) hp;exact⟨a,b,c,p2,hp,by simpa using h2⟩
def gl (w:Int):Nat→List Bs→List (Nat × Bs)
 | _,[]=>[]
 | h,d::r=>if d=emptD w h then gl w (h+1) r else (h,d)::gl w (h+1) r
def gvs (w:Int):Tw→List (Nat × Bs)
 | .leaf _ _ near _=>gl w 0 near
 | .fork _ f _ near l r=>gl w f near++(gvs w l++gvs w r)
theorem mbit_set (hl:bits.length=32){h g:Nat}(hh:h<256):mbit (bits.set (h / 8) (bits.getD (h / 8) 0 ||| zK 8 (2 ^ (h % 8)))) g=(mbit bits g || g == h):=by
 unfold mbit
 by_cases e:g / 8=h / 8
 ·rw[e,gDq,List.getElem?_set_self (by omega),Option.getD_some,BitVec.getLsbD_or]
  congr 1
  have hg:g % 8<8:=Nat.mod_lt _ (by decide);rw[BitVec.getLsbD_ofNat,Nat.testBit_two_pow,decide_eq_true hg,Bool.true_and]
  by_cases e2:h % 8=g % 8
  ·rw[decide_eq_true e2,show g=h by omega];simp
  ·rw[decide_eq_false e2]
   have:g≠h:=fun k=>e2 (by rw[k]);simp[this]
 ·rw[gDq,List.getElem?_set_ne (fun k=>e k.symm),← gDq]
  have:g≠h:=fun k=>e (by rw[k]);simp[this]
theorem gl_lt {w:Int}:∀ {near:List Bs} {h:Nat},∀ q ∈ gl w h near,h≤q.1∧q.1<h+near.length
 | [],_,_,hq=>by cases hq
 | d::r,h,q,hq=>by
  simp only[gl]at hq;rw[zH];split at hq
  ·have:=gl_lt q hq;omega
  ·rcases List.mem_cons.1 hq with rfl | hq
   ·exact⟨xP _,by show h<_;omega⟩
   ·have:=gl_lt q hq;omega
theorem layN_spec (w:Int):∀ (near:List Bs) (h:Nat) (bits sums:Bs), bits.length=32→h+near.length≤256 →
  (layN w h bits sums near).1.length=32∧(layN w h bits sums near).2=sums++((gl w h near).map (·.2)).flatten∧∀ g,mbit (layN w h bits sums near).1 g=(mbit bits g || (gl w h near).any fun q=>g == q.1)
 | [],h,bits,sums,hb,_=>by simp[layN,gl,hb]
 | d::r,h,bits,sums,hb,hh=>by
  rw[zH]at hh;simp only[layN,gl]
  by_cases e:d=emptD w h
  ·rw[if_pos e,if_pos e]
   exact layN_spec w r (h+1) bits sums hb (by omega)
  ·rw[if_neg e,if_neg e]
   obtain⟨h1,h2,h3⟩:=layN_spec w r (h+1) (bits.set (h / 8) (bits.getD (h / 8) 0 ||| zK 8 (2 ^ (h % 8)))) (sums++d) (by rw[List.length_set];exact hb) (by omega);refine⟨h1,?_,fun g=>?_⟩
   ·rw[h2,qP,zY,zW]
   ·rw[h3,mbit_set hb (by omega),List.any_cons,Bool.or_assoc]
theorem gvP_gl {f top:Nat}{bits rest:Bs}:∀ (n g:Nat) (l:List (Nat × Bs)), (∀ q ∈ l, g≤q.1∧q.1<g+n∧f≤q.1∧q.1<top∧q.2.length=32)→l.Pairwise (fun a b=>a.1<b.1)→(∀ x, g≤x→mbit bits x=l.any fun q=>x == q.1) →
  gvP f top bits n g ((l.map (·.2)).flatten++rest)=some (l,rest)
 | 0,g,l,h1,_,_=>by
  cases l with
  | nil=>rfl
  | cons q l=>have:=h1 q (by simp);omega
 | n+1,g,l,h1,h2,h3=>by
  simp only[gvP];rw[h3 g (xP _)]
  cases l with
  | nil =>
   rw[if_pos (by rfl)];exact gvP_gl n (g+1) [] (fun q hq=>by cases hq) List.Pairwise.nil fun x hx=>h3 x (by omega)
  | cons q l =>
   obtain⟨a1,a2,a3,a4,a5⟩:=h1 q (by simp);obtain⟨p1,p2⟩:=List.pairwise_cons.1 h2
   by_cases e:q.1=g
   ·have:((q::l).any fun q=>g == q.1)=true:=by simp[e]
    rw[this,if_neg (by decide),if_neg (by rw[qP,zY,zW,lAp];omega)];rw[qP,zY,zW]
    rw[show (q.2++((l.map (·.2)).flatten++rest)).drop 32=(l.map (·.2)).flatten++rest by rw[List.drop_append,a5,zC (by omega)];simp,
     show (q.2++((l.map (·.2)).flatten++rest)).take 32=q.2 by rw[List.take_append,a5,zF (by omega)];simp]
    rw[gvP_gl n (g+1) l (fun x hx=>by have:=h1 x (by simp[hx]);have:=p1 x hx;omega) p2 fun x hx=>by rw[h3 x (by omega),List.any_cons,show (x == q.1)=false by simp;omega,Bool.false_or]];rw[qK,← e]
   ·have:((q::l).any fun q=>g == q.1)=false:=by
     rw[Bool.eq_false_iff];intro h;obtain⟨x,hx,hg⟩:=List.any_eq_true.1 h;have hg:g=x.1:=by simpa using hg
     rcases List.mem_cons.1 hx with rfl | hx
     ·exact e hg.symm
     ·have:=p1 x hx;omega
    rw[this,if_pos rfl];refine gvP_gl n (g+1) (q::l) (fun x hx=>?_) h2 fun x hx=>h3 x (by omega);have hb:=h1 x hx
    rcases List.mem_cons.1 hx with rfl | hx
    ·omega
    ·have:=p1 x hx;omega
theorem gl_pair (w:Int):∀ (near:List Bs) (h:Nat),(gl w h near).Pairwise fun a b=>a.1<b.1
 | [],_=>List.Pairwise.nil
 | d::r,h=>by
  simp only[gl];split
  ·exact gl_pair w r _
  ·exact List.pairwise_cons.2 ⟨fun q hq=>by have:=gl_lt q hq;show h<q.1;omega,gl_pair w r _⟩
theorem gl_all {w:Int}:∀ {near:List Bs} {h:Nat},All32 near→∀ q ∈ gl w h near,q.2.length=32
 | [],_,_,_,hq=>by cases hq
 | d::r,h,ha,q,hq=>by
  simp only[gl]at hq;split at hq
  ·exact gl_all ha.tail q hq
  ·rcases List.mem_cons.1 hq with rfl | hq
   ·exact ha.head
   ·exact gl_all ha.tail q hq
theorem mbit_zero (g:Nat):mbit (zG 32 0) g=false:=by
 unfold mbit
 by_cases h:g / 8<32
 ·rw[qQi _ (by simpa using h),List.getElem_replicate];simp
 ·rw[gDq,List.getElem?_eq_none (by simp;omega)];simp
theorem fill_gl {w:Int}{f:Nat}:∀ {near:List Bs} {h:Nat} {pre:List Bs},f≤h→pre.length=h - f→fill f (pre++(zQ near.length).map (fun i=>emptD w (h+i))) (gl w h near)=pre++near
 | [],h,pre,_,_=>by simp[gl,fill]
 | d::r,h,pre,hh,hp=>by
  have e:(zQ (d::r).length).map (fun i=>emptD w (h+i))=emptD w h::(zQ r.length).map (fun i=>emptD w (h+1+i)):=by
   rw[zH,List.range_succ_eq_map,qP,List.map_map,Nat.add_zero]
   congr 1
   apply List.map_congr_left;intro i _;show emptD w (h+(i+1))=_
   congr 1;omega
  rw[e];simp only[gl];split
  ·rename_i hd
   rw[hd];have:=fill_gl (w:=w) (f:=f) (near:=r) (h:=h+1) (pre:=pre++[emptD w h]) (by omega) (by rw[lAp];simp;omega);rw[zW,zW]at this;exact this
  ·show fill f ((pre++_).set (h - f) d) _=_
   rw[← hp,zA _ _ (xP _),jQ,zI];have:=fill_gl (w:=w) (f:=f) (near:=r) (h:=h+1) (pre:=pre++[d]) (by omega) (by rw[lAp];simp;omega);rw[zW,zW]at this;exact this
theorem empts_part (w:Int){f top:Nat}(h:f≤top)(ht:top≤257):((empts w 257).drop f).take (top - f)=(zQ (top - f)).map fun i=>emptD w (f+i):=by
 refine List.ext_getElem (by rw[lTk,lDr,qQm,zU,List.length_range];omega) fun i h1 h2=>?_;rw[List.getElem_take,List.getElem_drop];simp[empts]
theorem nearP_nearT {w:Int}{f top:Nat}{near:List Bs}(rest:Bs)(hf:f≤top)(ht:top≤256)(hl:near.length=top - f)(ha:All32 near) :
  nearP w f top (nearT w f near++rest)=some (near,gl w f near,rest):=by
 have hh:f+near.length≤256:=by omega
 obtain⟨h1,h2,h3⟩:=layN_spec w near f (zG 32 0) [] (by simp) hh;unfold nearP nearT;rw[if_neg (by rw[lAp,lAp,h1];omega),zW];rw[List.take_left' h1,List.drop_left' h1,h2,zD];rw[gvP_gl 256 0 (gl w f near) (fun q hq=>?_) (gl_pair w near f) (fun x _=>by rw[h3,mbit_zero,Bool.false_or])]
 ·rw[qK]
  have:=fill_gl (w:=w) (f:=f) (near:=near) (h:=f) (pre:=[]) (xP _) (by simp);rw[zD,zD]at this;rw[empts_part w hf (by omega),← hl,this]
 ·have:=gl_lt q hq
  exact⟨by omega,by omega,by omega,by omega,gl_all ha q hq⟩
theorem b8_mod (h:n≤128):(zK 8 n).toNat+256*(zK 8 (n / 256)).toNat=n:=by
 rw[zV,zV,Nat.div_eq_of_lt (by omega)]
 simp;omega
theorem parse_leaf {w:Int}{top:Nat}{x:Byte}{bs:Bs}(hx:x.toNat≤1)(hk:¬ 1<ks.length) :
  parse w (n+1) ks top (x::bs)=(ansP x.toNat bs).bind fun p=>(nearP w 0 top p.2).map fun q=>(.leaf (ks.headD []) top q.1 p.1,q.2.1,q.2.2):=by
 simp only[parse,zR,zB,zP];have h1:¬ (x::bs).length<1:=by simp
 have h2:¬ (x.toNat > 2∨¬ (x.toNat=2 ↔ 1<ks.length)):=by
  rintro (h | h)
  ·omega
  ·exact h ⟨fun e=>by omega,fun e=>absurd e hk⟩
 have h3:¬ (x.toNat=2):=by omega
 rw[if_neg h1,if_neg h2,if_neg h3]
theorem parse_fork {w:Int}{top:Nat}{bs:Bs}(hk:1<ks.length) :
  parse w (n+1) ks top (2::bs)=(nearP w (frm ks) top bs).bind fun p =>
   (parse w n (ks.take (lefts ks)) (frm ks - 1) p.2.2).bind fun q =>
   (parse w n (ks.drop (lefts ks)) (frm ks - 1) q.2.2).map fun s=>(.fork ks (frm ks) top p.1 q.1 s.1,p.2.1++(q.2.1++s.2.1),s.2.2):=by
 simp only[parse,zR,zB,zP];have h1:¬ ((2:Byte)::bs).length<1:=by simp
 have h2:¬ ((2:Byte).toNat > 2∨¬ ((2:Byte).toNat=2 ↔ 1<ks.length)):=by
  rintro (h | h)
  ·exact absurd h (by decide)
  ·exact h ⟨fun _=>hk,fun _=>rfl⟩
 have h3:(2:Byte).toNat=2:=rfl;rw[if_neg h1,if_neg h2,if_pos h3]
theorem parse_txt {w:Int}:∀ {t:Tw} {n:Nat} (rest:Bs),t.Ok→t.keys.length≤n→parse w n t.keys t.top (txt w t++rest)=some (t,gvs w t,rest)
 | .leaf k top near a,0,_,_,h=>by simp[keys]at h
 | .leaf k top near a,n+1,rest,h,_=>by
  obtain⟨h1,h2,h3,h4,h5⟩:=h
  cases a with
  | none =>
   have e:txt w (.leaf k top near none)++rest=0::(nearT w 0 near++rest):=rfl;rw[e];simp only[keys,Tw.top,gvs];have e2:ansP (0:Byte).toNat (nearT w 0 near++rest)=some (none,nearT w 0 near++rest):=rfl;rw[parse_leaf (by decide) (by simp),e2,qV,nearP_nearT rest (jZ _) h2 (by omega) h4]
   rfl
  | some v =>
   have hv:=h5 v rfl;have e:txt w (.leaf k top near (some v))++rest=1::zK 8 v.length::zK 8 (v.length / 256)::(v++(nearT w 0 near++rest)):=by simp[txt,ansT]
   rw[e];simp only[keys,Tw.top,gvs]
   have e2:ansP (1:Byte).toNat (zK 8 v.length::zK 8 (v.length / 256)::(v++(nearT w 0 near++rest)))=some (some v,nearT w 0 near++rest):=by
    unfold ansP;have hb:=b8_mod hv;simp only[zR,List.getD_cons_succ,zB,zP,hb,List.take_left,List.drop_left];rw[if_neg (by decide),if_neg (by simp),if_neg (by omega),if_neg (by simp)]
   rw[parse_leaf (by decide) (by simp),e2,qV,nearP_nearT rest (jZ _) h2 (by omega) h4]
   rfl
 | .fork ks f top near l r,0,_,h,h0=>by
  have:=h.2.2.2.2.2.2.2.1;simp[keys]at h0;subst h0;simp at this
 | .fork ks f top near l r,n+1,rest,h,hn=>by
  have hn:ks.length≤n+1:=hn;obtain⟨h1,h2,h3,h4,h5,h6,h7,h8,h9,h10,h11,h12,h13,h14⟩:=h;have e:txt w (.fork ks f top near l r)++rest=2::(nearT w f near++(txt w l++(txt w r++rest))):=by simp[txt]
  rw[e];simp only[keys,Tw.top,gvs];have hlt:=lefts_lt h6 h8;have hlp:=lefts_pos h6 h8;rw[parse_fork h8,← h1,nearP_nearT _ h2 h3 h4 h5,qV];have p1:=parse_txt (w:=w) (t:=l) (n:=n) (txt w r++rest) h13 (by rw[h9,lTk];omega);have p2:=parse_txt (w:=w) (t:=r) (n:=n) rest h14 (by rw[h10,lDr];omega);rw[h9,h11]at p1;rw[h10,h12]at p2;simp only[p1,qV,p2,qK]
end Wit
end
end Go.V
