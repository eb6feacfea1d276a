/-
 Helpers: LibV, LibW, Wit.
-/
import Derived.Test.YtmenaeggoakppaaGreatDoorB09
set_option linter.all false
section
namespace Go.V
variable {P:Program}
theorem rdO_drew (t:TypeId) (w:World) (b o:Nat):rdO P t w.drew b o=rdO P t w b o:=rfl
attribute [go_sem] rdO_drew List.contains_cons Bool.or_self Bool.or_false Bool.false_or
/-- one cell written -/
theorem wr1 {t : TypeId} {w : World} {b o : Nat} {c : Array Value} {e : TypeId} {v : Value} (hs : szO P t = some 1) (hv : one v = true) (h : w.heap[b]? = some (.cells c e (0, 0))) (ho : o < c.size) :
    wrO P t w b o v = some (put w b (.cells (c.setIfInBounds o v) e (0,0))) := by
 obtain⟨u,hu⟩:∃ u,c[o]?=some u:=⟨_,Array.getElem?_eq_getElem ho⟩
 rw[wr_cv hs hv (u:=u) (by rw[cv_of_row h];exact hu),setc_row v h]
theorem rd1 {t : TypeId} {w : World} {b o : Nat} {c : Array Value} {e : TypeId} {fz : Nat × Nat} {v : Value} (ha : aggO P t = some false) (h : w.heap[b]? = some (.cells c e fz)) (hv : c[o]? = some v) :
    rdO P t w b o = some v := rd_rc ha (by rw [rc_of_row h]; exact hv)
/-- many cells written -/
theorem wrs {t : TypeId} {w : World} {b o : Nat} {c vs : Array Value} {e : TypeId} (hs : szO P t = some vs.size) (h : w.heap[b]? = some (.cells c e (0, 0))) (hc : o + vs.size ≤ c.size) (ho : vs.all one = true) :
    wrO P t w b o (.agg vs) = some (put w b (.cells (storeL vs.toList o c) e (0,0))) := by
 simp only[wrO,stO,h,Value.cells,hs,ho]
 rw[if_pos ⟨trivial,hc,trivial⟩];rfl
theorem rds {t : TypeId} {w : World} {b o n : Nat} {c vs : Array Value} {e : TypeId} {fz : Nat × Nat} (ha : aggO P t = some true) (hs : szO P t = some n) (h : w.heap[b]? = some (.cells c e fz)) (hn : vs.size = n) (h0 : 0 < n) (hv : ∀ i, i < n → c[o + i]? = vs[i]?) :
    rdO P t w b o = some (.agg vs) := rd_rcs ha hs hn h0 fun i hi => by rw [rc_of_row h]; exact hv i hi
theorem put_at {w:World} {b:Nat} {o x:Obj} (h:w.heap[b]?=some x):(put w b o).heap[b]?=some o:=blk_put_same _ (heap_lt h)
theorem put_off {w:World} {b b':Nat} {o x:Obj} (h:w.heap[b']?=some x) (hb:b≠b'):(put w b o).heap[b']?=some x:=by rw[blk_put_ne _ hb];exact h
theorem Fr.at {F:Nat→Prop} {w w':World} (h:Fr F w w') {b:Nat} {x:Obj} (hb:w.heap[b]?=some x) (hf:¬ F b):w'.heap[b]?=some x:=by rw[h.blk b (heap_lt hb) hf];exact hb
theorem alloc_at {w:World} {b:Nat} {o x:Obj} (h:w.heap[b]?=some x):(w.alloc o).heap[b]?=some x:=by rw[alloc_blk_old _ _ (heap_lt h)];exact h
abbrev wl (l:List W32):Array Value:=(l.map u32).toArray
abbrev bl (l:List Byte):Array Value:=(l.map u8).toArray
theorem wl_size (l:List W32):(wl l).size=l.length:=by simp
theorem bl_size (l:List Byte):(bl l).size=l.length:=by simp
theorem wl_at {l:List W32} {i:Nat} (h:i<l.length):(wl l)[i]?=some (u32 (l.getD i 0)):=by
 rw[List.getElem?_toArray,List.getElem?_map,List.getElem?_eq_getElem h,Option.map_some,getD_lt _ h]
theorem bl_at {l:List Byte} {i:Nat} (h:i<l.length):(bl l)[i]?=some (u8 (l.getD i 0)):=u8_at h
theorem wl_set (l:List W32) (i:Nat) (x:W32):(wl l).setIfInBounds i (u32 x)=wl (l.set i x):=by
 show _=((l.set i x).map u32).toArray
 rw[List.map_set];simp
theorem bl_set (l:List Byte) (i:Nat) (x:Byte):(bl l).setIfInBounds i (u8 x)=bl (l.set i x):=set_u8 x
theorem wl_one (l:List W32):(wl l).all one=true:=by rw[← Array.all_toList];simp[one]
theorem bl_one (l:List Byte):(bl l).all one=true:=u8s_all l
theorem wl_zero (n:Nat):Array.replicate n (Value.int .u32 0)=wl (List.replicate n 0):=by
 apply Array.toList_inj.1;simp
theorem bl_zero (n:Nat):Array.replicate n (Value.int .u8 0)=bl (List.replicate n 0):=by
 apply Array.toList_inj.1;simp
/-- a list with zeros behind it, n in all -/
def padTo {α:Type} (z:α) (n:Nat) (l:List α):List α:=l++List.replicate (n - l.length) z
theorem padTo_len {α:Type} {z:α} {n:Nat} {l:List α} (h:l.length≤n):(padTo z n l).length=n:=by simp[padTo];omega
theorem padTo_nil {α:Type} (z:α) (n:Nat):padTo z n []=List.replicate n z:=by simp[padTo]
theorem padTo_full {α:Type} {z:α} {n:Nat} {l:List α} (h:l.length=n):padTo z n l=l:=by simp[padTo,h]
theorem padTo_getD {α:Type} {z:α} {n:Nat} {l:List α} {i:Nat} (d:α) (h:i<l.length):(padTo z n l).getD i d=l.getD i d:=by
 rw[List.getD_eq_getElem?_getD,List.getD_eq_getElem?_getD,padTo,List.getElem?_append_left h]
theorem padTo_set {α:Type} {z:α} {n:Nat} {l:List α} (x:α) (h:l.length<n):(padTo z n l).set l.length x=padTo z n (l++[x]):=by
 unfold padTo
 rw[List.set_append_right _ _ (Nat.le_refl _),Nat.sub_self,List.length_append,List.length_singleton]
 obtain⟨k,hk⟩:∃ k,n - l.length=k+1:=⟨n - l.length - 1,by omega⟩
 rw[hk,show n - (l.length+1)=k by omega,List.replicate_succ,List.set_cons_zero,List.append_assoc];rfl
/-- at an operation that simp leaves as it is -/
theorem contL_is {ops : Array Oper} {K : Ev → World → Prop} {r : List Oper} {d : Option Nat} {ev : Ev} {w w' : World} {x : Out} {v : Value} (h : x = .inl (some (v, w')))
    (hk : denL P ops K r (updO ev d v) w') : contL P ops K r d ev w x := by
 subst h
 cases d <;> exact hk
theorem bd_small {n m by':Nat} (h:(2*(n+m)+768)*by'≤2 ^ 48):∀ cap,n≤cap→cap<n+m→Builtin.nextslicecap (n+m) cap*by'≤2 ^ 48:=fun cap _ hc=>by
 have h1:=nextcap_le (need:=n+m) (cap:=cap) hc
 have h2:=Nat.mul_le_mul_right by' h1
 omega
theorem bd_one {n by':Nat} (h:(n+n / 4+1024)*by'≤2 ^ 48):∀ cap,n≤cap→cap<n+1→Builtin.nextslicecap (n+1) cap*by'≤2 ^ 48:=fun cap h0 hc=>by
 have h1:=nextcap1_le h0 hc
 have h2:=Nat.mul_le_mul_right by' h1
 omega
theorem app_fresh {w0 w : World} {ts : Array TypeId} {e sz by' : Nat} {z : Value} (ht : AppT P ts e sz by' z) {v : Value} {n : Nat} {cs : List Value} (hv : Nw w0 w e sz v n cs)
    {m : Nat} {xs : Array Value} (hxs : xs.size = m * sz) (hone : xs.toList.all one = true) (hsz0 : 0 < sz)
    (hbd : ∀ cap,n ≤ cap → cap < n + m → Builtin.nextslicecap (n + m) cap * by' ≤ 2 ^ 48) (hbd2 : n + m ≤ 9223372036854775807) (f : No w0 w) :
    ∃ v' w',(Builtin.append_ ts 0 #[v,.slice (some ⟨w.heap.size,0,none⟩) m m]).run P (w.alloc (.cells xs e)) = .ok v' w' ∧ Nw w0 w' e sz v' (n + m) (cs ++ xs.toList) ∧ No w0 w' ∧ Fr (fun b => blockOf v = some b) w w' ∧
      ∀ b,blockOf v' = some b → blockOf v = some b ∨ w.heap.size ≤ b := by
 have f1:No w (w.alloc (.cells xs e)):=(Fr.refl _ _).alloc _
 have hx:Rd (w.alloc (.cells xs e)) sz (.slice (some ⟨w.heap.size,0,none⟩) m m) m xs.toList :=
  ⟨by rw[Array.length_toList,hxs],_,_,rfl,Nat.le_refl _,fun _=>⟨_,_,rfl,fun i hi=>by rw[rc_of_row (alloc_blk_new _ _),Nat.zero_add,Array.getElem?_toList]⟩⟩
 obtain⟨v',w',hr,h1,h2,h3⟩:=app_nw ht (hv.fr0 f1) hx hone hsz0 hbd hbd2 (by have:=f.size;have:=f1.size;omega)
 have f2:Fr (fun b=>blockOf v=some b) w w':=(f1.mono fun _ _ h=>h.elim).trans h2
 refine⟨v',w',hr,h1,f.trans' f2 fun b hb h=>?_,f2,fun b hb=>(h3 b hb).imp id fun h=>by rw[alloc_heap_size] at h;omega⟩
 have:=hv.new b h;omega
/-- bytes in a new slice -/
def NwB (w0 w:World) (v:Value) (bs:List Byte):Prop:=Nw w0 w 5 1 v bs.length (bs.map u8)
theorem NwB.by {w0 w:World} {v:Value} {bs:List Byte} (h:NwB w0 w v bs):By w v bs:=Nw.rd h
theorem NwB.nil (w0 w:World):NwB w0 w (.slice none 0 0) []:=Nw.nil w0 w 5 1
theorem NwB.fr {w0 w w':World} {v:Value} {bs:List Byte} {F:Nat→Prop} (h:NwB w0 w v bs) (k:Fr F w w') (hf:∀ b,blockOf v=some b→¬ F b):NwB w0 w' v bs:=Nw.fr h k hf
theorem NwB.fr0 {w0 w w':World} {v:Value} {bs:List Byte} (h:NwB w0 w v bs) (k:No w w'):NwB w0 w' v bs:=Nw.fr0 h k
theorem NwB.slice {w0 w:World} {v:Value} {bs:List Byte} (h:NwB w0 w v bs):∃ a cap,v=.slice a bs.length cap:=by
 obtain⟨_,a,cap,e,_⟩:=Nw.rd h;exact⟨a,cap,e⟩
theorem NwB.push {w0 w : World} {ts : Array TypeId} {z : Value} (ht : AppT P ts 5 1 1 z) {v : Value} {bs : List Byte} (hv : NwB w0 w v bs) (xs : List Byte)
    (hbd : ∀ cap,bs.length ≤ cap → cap < bs.length + xs.length → Builtin.nextslicecap (bs.length + xs.length) cap * 1 ≤ 2 ^ 48) (hbd2 : bs.length + xs.length ≤ 9223372036854775807) (f : No w0 w) :
    ∃ v' w',(Builtin.append_ ts 0 #[v,.slice (some ⟨w.heap.size,0,none⟩) xs.length xs.length]).run P (w.alloc (.cells (bl xs) 5)) = .ok v' w' ∧ NwB w0 w' v' (bs ++ xs) ∧ No w0 w' ∧ Fr (fun b => blockOf v = some b) w w' := by
 obtain⟨v',w',hr,h1,h2,h3,_⟩:=app_fresh ht hv (m:=xs.length) (xs:=bl xs) (by rw[bl_size,Nat.mul_one]) (u8s_one xs) (by omega) hbd hbd2 f
 refine⟨v',w',hr,?_,h2,h3⟩
 unfold NwB
 rw[List.length_append,List.map_append];exact h1
theorem NwB.cat {w0 w : World} {ts : Array TypeId} {z : Value} (ht : AppT P ts 5 1 1 z) {v : Value} {bs : List Byte} (hv : NwB w0 w v bs) {x : Value} {xs : List Byte} (hx : By w x xs)
    (hbd : ∀ cap,bs.length ≤ cap → cap < bs.length + xs.length → Builtin.nextslicecap (bs.length + xs.length) cap * 1 ≤ 2 ^ 48) (hbd2 : bs.length + xs.length ≤ 9223372036854775807) (f : No w0 w) :
    ∃ v' w',(Builtin.append_ ts 0 #[v,x]).run P w = .ok v' w' ∧ NwB w0 w' v' (bs ++ xs) ∧ No w0 w' ∧ Fr (fun b => blockOf v = some b) w w' := by
 obtain⟨v',w',hr,h1,h2,_⟩:=app_nw ht hv hx (u8s_one xs) (by omega) hbd hbd2 f.size
 refine⟨v',w',hr,?_,f.trans' h2 fun b hb h=>?_,h2⟩
 ·unfold NwB
  rw[List.length_append,List.map_append];exact h1
 ·have:=hv.new b h;omega
end Go.V
end
section
namespace Go.V
variable {P:Program}
def flat (ds:List (List Byte)):List Value:=(ds.map fun d=>d.map u8).flatten
def All32 (ds:List (List Byte)):Prop:=∀ d ∈ ds,d.length=32
theorem All32.nil:All32 []:=fun _ h=>by cases h
theorem All32.cons {d:List Byte} {ds:List (List Byte)} (h:d.length=32) (k:All32 ds):All32 (d::ds):=fun x hx=>by
 rcases List.mem_cons.1 hx with rfl | hx
 ·exact h
 ·exact k x hx
theorem All32.app {a b:List (List Byte)} (h:All32 a) (k:All32 b):All32 (a++b):=fun x hx=>by
 rcases List.mem_append.1 hx with hx | hx
 ·exact h x hx
 ·exact k x hx
theorem All32.one {d:List Byte} (h:d.length=32):All32 [d]:=All32.cons h All32.nil
theorem All32.tail {d:List Byte} {ds:List (List Byte)} (h:All32 (d::ds)):All32 ds:=fun x hx=>h x (List.mem_cons_of_mem _ hx)
theorem All32.head {d:List Byte} {ds:List (List Byte)} (h:All32 (d::ds)):d.length=32:=h d List.mem_cons_self
theorem All32.at {ds:List (List Byte)} (h:All32 ds) {i:Nat} (hi:i<ds.length):ds[i].length=32:=h _ (List.getElem_mem hi)
theorem All32.take {ds:List (List Byte)} (h:All32 ds) (n:Nat):All32 (ds.take n):=fun x hx=>h x (List.mem_of_mem_take hx)
theorem All32.drop {ds:List (List Byte)} (h:All32 ds) (n:Nat):All32 (ds.drop n):=fun x hx=>h x (List.mem_of_mem_drop hx)
theorem All32.set {ds:List (List Byte)} (h:All32 ds) (i:Nat) {d:List Byte} (hd:d.length=32):All32 (ds.set i d):=fun x hx=>by
 rcases List.mem_or_eq_of_mem_set hx with h' | rfl
 ·exact h x h'
 ·exact hd
theorem flat_app (a b:List (List Byte)):flat (a++b)=flat a++flat b:=by simp[flat]
theorem flat_one (d:List Byte):flat [d]=d.map u8:=by simp[flat]
theorem flat_len:∀ {ds:List (List Byte)},All32 ds→(flat ds).length=ds.length*32
 | [],_=>rfl
 | d::ds,h=>by
  have:=flat_len h.tail
  simp only[flat,List.map_cons,List.flatten_cons,List.length_append,List.length_map,List.length_cons,h.head] at this ⊢
  omega
theorem flat_at:∀ {ds:List (List Byte)},All32 ds→∀ {i:Nat} (hi:i<ds.length) {j:Nat},j<32→(flat ds)[i*32+j]?=(ds[i].map u8)[j]?
 | d::ds,h,0,_,j,hj=>by
  simp only[flat,List.map_cons,List.flatten_cons,Nat.zero_mul,Nat.zero_add,List.getElem_cons_zero]
  rw[List.getElem?_append_left (by rw[List.length_map,h.head];exact hj)]
 | d::ds,h,i+1,hi,j,hj=>by
  have:=flat_at h.tail (show i<ds.length by simpa using hi) hj
  simp only[flat,List.map_cons,List.flatten_cons,List.getElem_cons_succ] at this ⊢
  rw[List.getElem?_append_right (by rw[List.length_map,h.head];omega),List.length_map,h.head,show (i+1)*32+j - 32=i*32+j by omega]
  exact this
theorem flat_take:∀ {ds:List (List Byte)},All32 ds→∀ n,(flat ds).take (n*32)=flat (ds.take n)
 | [],_,n=>by simp[flat]
 | d::ds,h,0=>by simp[flat]
 | d::ds,h,n+1=>by
  have:=flat_take h.tail n
  simp only[flat,List.map_cons,List.flatten_cons,List.take_succ_cons] at this ⊢
  rw[List.take_append,List.length_map,h.head,List.take_of_length_le (by rw[List.length_map,h.head];omega),show (n+1)*32 - 32=n*32 by omega,this]
theorem flat_drop:∀ {ds:List (List Byte)},All32 ds→∀ n,(flat ds).drop (n*32)=flat (ds.drop n)
 | [],_,n=>by simp[flat]
 | d::ds,h,0=>by simp[flat]
 | d::ds,h,n+1=>by
  have:=flat_drop h.tail n
  simp only[flat,List.map_cons,List.flatten_cons,List.drop_succ_cons] at this ⊢
  rw[List.drop_append,List.length_map,h.head,List.drop_of_length_le (by rw[List.length_map,h.head];omega),List.nil_append,show (n+1)*32 - 32=n*32 by omega,this]
theorem flat_all (ds:List (List Byte)):(flat ds).all one=true:=by
 rw[List.all_eq_true]
 intro v hv
 obtain⟨l,hl,hv⟩:=List.mem_flatten.1 hv
 obtain⟨d,_,rfl⟩:=List.mem_map.1 hl
 obtain⟨x,_,rfl⟩:=List.mem_map.1 hv
 rfl
/-- a slice of digests, read -/
def RdD (w:World) (v:Value) (ds:List (List Byte)):Prop:=All32 ds∧Rd w 32 v ds.length (flat ds)
section
variable {w w':World} {v:Value} {ds:List (List Byte)}
theorem RdD.fr {F:Nat→Prop} (h:RdD w v ds) (k:Fr F w w') (hf:∀ b,blockOf v=some b→b<w.heap.size→¬ F b):RdD w' v ds:=⟨h.1,h.2.fr k hf⟩
theorem RdD.fr0 (h:RdD w v ds) (k:Fr (fun _=>False) w w'):RdD w' v ds:=h.fr k fun _ _ _ h=>h
theorem RdD.slice (h:RdD w v ds):∃ a cap,v=.slice a ds.length cap∧ds.length≤cap:=by
 obtain⟨_,_,a,cap,e,h,_⟩:=h;exact⟨a,cap,e,h⟩
theorem RdD.at (h : RdD w v ds) : ∃ a cap, v = .slice a ds.length cap ∧ ds.length ≤ cap ∧ ∀ i (hi : i < ds.length), ∃ b o, a = some ⟨b, o, none⟩ ∧ b < w.heap.size ∧
    ∀ t,aggO P t = some true → szO P t = some 32 → rdO P t w b (o + i * 32) = some (dg ds[i]) := by
 obtain⟨h0,h1,a,cap,rfl,h2,h3⟩:=h
 refine⟨a,cap,rfl,h2,fun i hi=>?_⟩
 obtain⟨b,o,rfl,h4⟩:=h3 (by omega)
 have hk:∀ j,j<32→rc w b (o+i*32+j)=(ds[i].map u8)[j]?:=fun j hj=>by
  rw [Nat.add_assoc, h4 (i * 32 + j) (by have : i * 32 + 32 ≤ ds.length * 32 := by omega
                                         omega),flat_at h0 hi hj]
 refine⟨b,o,rfl,?_,fun t ha hs=>rd_dg ha hs (h0.at hi) (by omega) hk⟩
 have:=hk 0 (by omega)
 rw[List.getElem?_map,List.getElem?_eq_getElem (by rw[h0.at hi];omega)] at this
 exact rc_lt this
end
/-- a slice of a slice of digests -/
theorem RdD.cut {w : World} {n cap : Nat} {a : Option Addr} {ds : List (List Byte)} (h : RdD w (.slice a n cap) ds) {l m : Nat} (hl : l ≤ m) (hm : m ≤ n) (hn : ds.length = n) (a' : Option Addr)
    (ha : a' = if cap = l then a else a.map (fun (q : Addr) => q.add (l * 32))) : RdD w (.slice a' (m - l) (cap - l)) ((ds.drop l).take (m - l)) := by
 subst hn
 have e:((ds.drop l).take (m - l)).length=m - l:=by rw[List.length_take,List.length_drop];omega
 refine⟨(h.1.drop l).take _,?_⟩
 rw[e,← flat_take (h.1.drop l),← flat_drop h.1]
 exact Rd.cut h.2 hl hm a' ha
/-- digests in a new slice -/
def NwD (w0 w:World) (e:Nat) (v:Value) (ds:List (List Byte)):Prop:=All32 ds∧Nw w0 w e 32 v ds.length (flat ds)
section
variable {w0 w w':World} {e:Nat} {v:Value} {ds:List (List Byte)}
theorem NwD.nil (w0 w:World) (e:Nat):NwD w0 w e (.slice none 0 0) []:=⟨All32.nil,Nw.nil _ _ _ _⟩
theorem NwD.rd (h:NwD w0 w e v ds):RdD w v ds:=⟨h.1,h.2.rd⟩
theorem NwD.fr {F:Nat→Prop} (h:NwD w0 w e v ds) (k:Fr F w w') (hf:∀ b,blockOf v=some b→¬ F b):NwD w0 w' e v ds:=⟨h.1,h.2.fr k hf⟩
theorem NwD.fr0 (h:NwD w0 w e v ds) (k:No w w'):NwD w0 w' e v ds:=⟨h.1,h.2.fr0 k⟩
theorem NwD.back {u:World} (h:NwD w0 w e v ds) (hu:u.heap.size≤w0.heap.size):NwD u w e v ds:=⟨h.1,h.2.back hu⟩
theorem NwD.lt (h:NwD w0 w e v ds) {b:Nat} (hb:blockOf v=some b):w0.heap.size≤b∧b<w.heap.size:=⟨h.2.new b hb,h.2.own.lt hb⟩
theorem NwD.push {ts : Array TypeId} {z : Value} (ht : AppT P ts e 32 32 z) (hv : NwD w0 w e v ds) {d : List Byte} (hd : d.length = 32)
    (hbd : (ds.length + ds.length / 4 + 1024) * 32 ≤ 2 ^ 48) (f : No w0 w) :
    ∃ v' w',(Builtin.append_ ts 0 #[v,.slice (some ⟨w.heap.size,0,none⟩) 1 1]).run P (w.alloc (.cells (bl d) e)) = .ok v' w' ∧ NwD w0 w' e v' (ds ++ [d]) ∧ No w0 w' ∧ Fr (fun b => blockOf v = some b) w w' ∧
      ∀ b,blockOf v' = some b → blockOf v = some b ∨ w.heap.size ≤ b := by
 obtain⟨v',w',hr,h1,h2,h3,h4⟩:=app_fresh ht hv.2 (m:=1) (xs:=bl d) (by rw[bl_size,hd]) (u8s_one d) (by omega) (bd_one hbd) (by omega) f
 refine⟨v',w',hr,⟨hv.1.app (All32.one hd),?_⟩,h2,h3,h4⟩
 rw[List.length_append,flat_app,flat_one];exact h1
theorem NwD.cat {ts : Array TypeId} {z : Value} (ht : AppT P ts e 32 32 z) (hv : NwD w0 w e v ds) {x : Value} {xs : List (List Byte)} (hx : RdD w x xs)
    (hbd : ∀ cap,ds.length ≤ cap → cap < ds.length + xs.length → Builtin.nextslicecap (ds.length + xs.length) cap * 32 ≤ 2 ^ 48) (hbd2 : ds.length + xs.length ≤ 9223372036854775807) (f : No w0 w) :
    ∃ v' w',(Builtin.append_ ts 0 #[v,x]).run P w = .ok v' w' ∧ NwD w0 w' e v' (ds ++ xs) ∧ No w0 w' ∧ Fr (fun b => blockOf v = some b) w w' := by
 obtain⟨v',w',hr,h1,h2,_⟩:=app_nw ht hv.2 hx.2 (flat_all xs) (by omega) hbd hbd2 f.size
 refine⟨v',w',hr,⟨hv.1.app hx.1,?_⟩,f.trans' h2 fun b hb h=>?_,h2⟩
 ·rw[List.length_append,flat_app];exact h1
 ·have:=hv.2.new b h;omega
end
/-- one digest laid down as a slice -/
theorem fill_dg {z:List Value} (hz:z.length=32) {d:List Byte} (hd:d.length=32):Instr.fill (fun i=>some (i*32,32)) (zrow z 1) [(0,dg d)]=some (bl d):=by
 have hzr:(zrow z 1).size=32:=by simp[zrow,hz]
 have hds:(dg d).cells.size=32:=by simp[Value.cells,hd]
 simp only[Instr.fill,hds,hzr]
 rw[if_neg (by decide)]
 have e:(dg d).cells=bl d:=rfl
 rw[e]
 congr 1
 have key:∀ (l:List Value) (c:Array Value) (k:Nat),k+l.length=c.size→((l.zipIdx k).foldl (fun (cs:Array Value) (p:Value × Nat)=>cs.setIfInBounds (0*32+p.2) p.1) c).toList=c.toList.take k++l:=by
  intro l
  induction l with
  | nil =>
   intro c k h
   simp only[List.length_nil,Nat.add_zero] at h
   rw[List.take_of_length_le (by rw[Array.length_toList];omega)];simp
  | cons v l ih =>
   intro c k h
   simp only[List.zipIdx_cons,List.foldl_cons,Nat.zero_mul,Nat.zero_add] at ih ⊢
   simp only[List.length_cons] at h
   rw[ih (c.setIfInBounds k v) (k+1) (by simp;omega)]
   simp only[Array.toList_setIfInBounds]
   rw[List.take_set,List.set_eq_take_append_cons_drop]
   simp only[List.length_take,Array.length_toList]
   rw[if_pos (by omega),List.take_take,List.drop_take]
   simp
 apply Array.toList_inj.1
 rw[← Array.foldl_toList,Array.toList_zipIdx,key (bl d).toList _ 0 (by rw[Array.length_toList,bl_size,hd,hzr])]
 simp
end Go.V
end
section
namespace Go.V
namespace Wit
def Asc (ks:List Bs):Prop:=ks.Pairwise klt
/-- all share their first n bits -/
def Shr (n:Nat) (ks:List Bs):Prop:=∀ a ∈ ks,∀ b ∈ ks,∀ j,j<n→kbit a j=kbit b j
/-- where the paths of keys begin to be one: 0 of one key, else one above the height of the fork -/
def frm (ks:List Bs):Nat:=if ks.length<2 then 0 else 256 - common (ks.headD []) (ks.getLastD [])
/-- how many go to the left there -/
def lefts (ks:List Bs):Nat:=(ks.takeWhile fun k=>!kbit k (256 - frm ks)).length
theorem klt_min {a b c:Bs} (h:klt a b) (k:klt b c):common a c=min (common a b) (common b c):=by
 obtain⟨h1,h2,h3⟩:=h
 obtain⟨k1,k2,k3⟩:=k
 rcases Nat.lt_trichotomy (common a b) (common b c) with hh | hh | hh
 ·have e:common a c=common a b:=common_is (fun j hj=>(common_same hj).trans (common_same (by omega))) (fun _=>by rw[h2,← common_same hh,h3];decide) (by omega)
  omega
 ·rw[hh] at h3;rw[h3] at k2;cases k2
 ·have e:common a c=common b c:=common_is (fun j hj=>(common_same (by omega)).trans (common_same hj)) (fun _=>by rw[common_same hh,k2,k3];decide) (by omega)
  omega
theorem klt_bit {a b:Bs} {n:Nat} (h:klt a b) (hs:∀ j,j<n→kbit a j=kbit b j) (ha:kbit a n=true) (hn:n<256):kbit b n=true:=by
 obtain⟨h1,h2,h3⟩:=h
 rcases Nat.lt_trichotomy (common a b) n with hh | hh | hh
 ·have:=hs _ hh;rw[h2,h3] at this;cases this
 ·rw[← hh,h2] at ha;cases ha
 ·rw[← common_same hh];exact ha
theorem Asc.take {ks:List Bs} (h:Asc ks) (n:Nat):Asc (ks.take n):=List.Pairwise.sublist (List.take_sublist _ _) h
theorem Asc.drop {ks:List Bs} (h:Asc ks) (n:Nat):Asc (ks.drop n):=List.Pairwise.sublist (List.drop_sublist _ _) h
theorem Shr.mono {n m:Nat} {ks ls:List Bs} (h:Shr n ks) (hs:∀ k ∈ ls,k ∈ ks) (hm:m≤n):Shr m ls:=fun a ha b hb j hj=>h a (hs a ha) b (hs b hb) j (by omega)
theorem headD_mem {ks:List Bs} (h:0<ks.length):ks.headD [] ∈ ks:=by
 cases ks with
 | nil=>simp at h
 | cons a l=>simp
theorem lastD_mem {ks:List Bs} (h:0<ks.length):ks.getLastD [] ∈ ks:=by
 cases ks with
 | nil=>simp at h
 | cons a l =>
  have:(a::l).getLastD []=(a::l).getLast (by simp):=by rw[List.getLast_eq_getLastD,List.getLastD_cons]
  rw[this];exact List.getLast_mem _
theorem asc_last {ks:List Bs} (h:Asc ks):∀ k ∈ ks,k=ks.getLastD []∨klt k (ks.getLastD []):=by
 induction ks with
 | nil=>intro k hk;cases hk
 | cons a l ih =>
  intro k hk
  obtain⟨h1,h2⟩:=List.pairwise_cons.1 h
  cases l with
  | nil=>simp at hk;subst hk;exact .inl rfl
  | cons b l =>
   have e:(a::b::l).getLastD []=(b::l).getLastD []:=by simp
   rw[e]
   rcases List.mem_cons.1 hk with rfl | hk
   ·exact .inr (h1 _ (lastD_mem (by simp)))
   ·exact ih h2 k hk
theorem asc_head {ks:List Bs} (h:Asc ks):∀ k ∈ ks,k=ks.headD []∨klt (ks.headD []) k:=by
 cases ks with
 | nil=>intro k hk;cases hk
 | cons a l =>
  intro k hk
  obtain⟨h1,h2⟩:=List.pairwise_cons.1 h
  rcases List.mem_cons.1 hk with rfl | hk
  ·exact .inl rfl
  ·exact .inr (h1 _ hk)
theorem head_lt_last {ks:List Bs} (h:Asc ks) (h2:2≤ks.length):klt (ks.headD []) (ks.getLastD []):=by
 cases ks with
 | nil=>simp at h2
 | cons a l=>cases l with
  | nil=>simp at h2
  | cons b l =>
   obtain⟨h1,_⟩:=List.pairwise_cons.1 h
   exact h1 _ (by rw[List.getLastD_cons];exact lastD_mem (by simp))
section
variable {ks:List Bs} (h:Asc ks) (h2:2≤ks.length)
include h h2
theorem frm_eq:frm ks=256 - common (ks.headD []) (ks.getLastD []):=by unfold frm;rw[if_neg (by omega)]
theorem frm_sub:256 - frm ks=common (ks.headD []) (ks.getLastD []):=by
 rw[frm_eq h h2];have:=common_le (ks.headD []) (ks.getLastD []);omega
theorem frm_pos:1≤frm ks:=by rw[frm_eq h h2];have:=(head_lt_last h h2).1;omega
theorem frm_le:frm ks≤256:=by rw[frm_eq h h2];omega
theorem frm_head:kbit (ks.headD []) (256 - frm ks)=false:=by rw[frm_sub h h2];exact (head_lt_last h h2).2.1
theorem frm_last:kbit (ks.getLastD []) (256 - frm ks)=true:=by rw[frm_sub h h2];exact (head_lt_last h h2).2.2
theorem frm_shr:Shr (256 - frm ks) ks:=by
 have key:∀ k ∈ ks,∀ j,j<256 - frm ks→kbit k j=kbit (ks.headD []) j:=by
  intro k hk j hj
  rw[frm_sub h h2] at hj
  rcases asc_head h k hk with rfl | h3
  ·rfl
  ·rcases asc_last h k hk with e | h4
   ·rw[e];exact (common_same hj).symm
   ·rw[klt_min h3 h4] at hj
    exact (common_same (show j<common (ks.headD []) k by omega)).symm
 intro a ha b hb j hj
 rw[key a ha j hj,key b hb j hj]
theorem drop_bit:∀ k ∈ ks.dropWhile (fun k=>!kbit k (256 - frm ks)),kbit k (256 - frm ks)=true:=by
 have hs:=frm_shr h h2
 have hp:=frm_pos h h2
 generalize 256 - frm ks=n at *
 have hn:n<256∨256≤n:=by omega
 have gen:∀ ls:List Bs,Asc ls→Shr n ls→∀ k ∈ ls.dropWhile (fun k=>!kbit k n),kbit k n=true:=by
  intro ls
  induction ls with
  | nil=>intro _ _ k hk;cases hk
  | cons a l ih =>
   intro h1 h3 k hk
   obtain⟨h4,h5⟩:=List.pairwise_cons.1 h1
   by_cases ha:kbit a n=true
   ·rw[List.dropWhile_cons,if_neg (by simp[ha])] at hk
    rcases List.mem_cons.1 hk with rfl | hk
    ·exact ha
    ·rcases hn with hn | hn
     ·exact klt_bit (h4 _ hk) (fun j hj=>h3 a (by simp) k (by simp[hk]) j hj) ha hn
     ·exfalso
      have:=(h4 _ hk).1
      have h6:=common_diff this
      exact h6 (h3 a (by simp) k (by simp[hk]) _ (by omega))
   ·rw[List.dropWhile_cons,if_pos (by simpa using ha)] at hk
    exact ih h5 (h3.mono (fun x hx=>by simp[hx]) (Nat.le_refl _)) k hk
 exact gen ks h hs
theorem take_lefts:ks.take (lefts ks)=ks.takeWhile (fun k=>!kbit k (256 - frm ks)):=by
 unfold lefts
 have:=List.takeWhile_append_dropWhile (p:=fun k=>!kbit k (256 - frm ks)) (l:=ks)
 conv=>lhs;arg 2;rw[← this]
 rw[List.take_left]
theorem drop_lefts:ks.drop (lefts ks)=ks.dropWhile (fun k=>!kbit k (256 - frm ks)):=by
 unfold lefts
 have:=List.takeWhile_append_dropWhile (p:=fun k=>!kbit k (256 - frm ks)) (l:=ks)
 conv=>lhs;arg 2;rw[← this]
 rw[List.drop_left]
theorem bit_take:∀ k ∈ ks.take (lefts ks),kbit k (256 - frm ks)=false:=by
 rw[take_lefts h h2];intro k hk
 have:=List.all_takeWhile (p:=fun k=>!kbit k (256 - frm ks)) (l:=ks)
 simpa using List.all_eq_true.1 this k hk
theorem bit_drop:∀ k ∈ ks.drop (lefts ks),kbit k (256 - frm ks)=true:=by rw[drop_lefts h h2];exact drop_bit h h2
theorem lefts_lt:lefts ks<ks.length:=by
 rcases Nat.lt_or_ge (lefts ks) ks.length with h3 | h3
 ·exact h3
 ·exfalso
  have h4:=bit_take h h2 (ks.getLastD []) (by rw[List.take_of_length_le h3];exact lastD_mem (by omega))
  rw[frm_last h h2] at h4;cases h4
theorem lefts_pos:1≤lefts ks:=by
 rcases Nat.lt_or_ge 0 (lefts ks) with h3 | h3
 ·exact h3
 ·exfalso
  have h4:=bit_drop h h2 (ks.headD []) (by rw[show lefts ks=0 by omega,List.drop_zero];exact headD_mem (by omega))
  rw[frm_head h h2] at h4;cases h4
theorem lefts_at {i:Nat} (hi:i<ks.length):kbit ks[i] (256 - frm ks)=decide (lefts ks≤i):=by
 by_cases h3:lefts ks≤i
 ·rw[decide_eq_true h3]
  refine bit_drop h h2 _ (List.mem_iff_getElem.2 ⟨i - lefts ks,by rw[List.length_drop];omega,?_⟩)
  rw[List.getElem_drop];congr 1;omega
 ·rw[decide_eq_false h3]
  refine bit_take h h2 _ (List.mem_iff_getElem.2 ⟨i,by rw[List.length_take];omega,?_⟩)
  rw[List.getElem_take]
theorem shr_take:Shr (257 - frm ks) (ks.take (lefts ks)):=fun a ha b hb j hj=>by
 by_cases h3:j<256 - frm ks
 ·exact frm_shr h h2 a (List.mem_of_mem_take ha) b (List.mem_of_mem_take hb) j h3
 ·have:=frm_le h h2
  obtain rfl:j=256 - frm ks:=by omega
  rw[bit_take h h2 a ha,bit_take h h2 b hb]
theorem shr_drop:Shr (257 - frm ks) (ks.drop (lefts ks)):=fun a ha b hb j hj=>by
 by_cases h3:j<256 - frm ks
 ·exact frm_shr h h2 a (List.mem_of_mem_drop ha) b (List.mem_of_mem_drop hb) j h3
 ·have:=frm_le h h2
  obtain rfl:j=256 - frm ks:=by omega
  rw[bit_drop h h2 a ha,bit_drop h h2 b hb]
end
theorem frm_one {ks:List Bs} (h:ks.length<2):frm ks=0:=by unfold frm;rw[if_pos h]
/-- keys that share n bits part below the height 256 - n -/
theorem frm_bound {ks:List Bs} {n:Nat} (h:Asc ks) (hs:Shr n ks) (hn:n≤256):frm ks≤256 - n:=by
 by_cases h2:2≤ks.length
 ·have h3:=frm_head h h2
  have h4:=frm_last h h2
  have h5:=frm_le h h2
  rcases Nat.lt_or_ge (256 - frm ks) n with h6 | h6
  ·have:=hs _ (headD_mem (by omega)) _ (lastD_mem (by omega)) _ h6
   rw[h3,h4] at this;cases this
  ·omega
 ·rw[frm_one (by omega)];omega
theorem shr_zero (ks:List Bs):Shr 0 ks:=fun _ _ _ _ j hj=>absurd hj (by omega)
inductive Tw where
 | leaf (k:Bs) (top:Nat) (near:List Bs) (a:Option Bs)
 | fork (ks:List Bs) (f top:Nat) (near:List Bs) (l r:Tw)
namespace Tw
def keys:Tw→List Bs
 | leaf k _ _ _=>[k]
 | fork ks _ _ _ _ _=>ks
def fr:Tw→Nat
 | leaf _ _ _ _=>0
 | fork _ f _ _ _ _=>f
def top:Tw→Nat
 | leaf _ t _ _=>t
 | fork _ _ t _ _ _=>t
def near:Tw→List Bs
 | leaf _ _ n _=>n
 | fork _ _ _ n _ _=>n
def key (t:Tw):Bs:=t.keys.headD []
/-- is it a tree of its keys? -/
def Ok:Tw→Prop
 | leaf k top near a=>k.length=32∧top≤256∧near.length=top∧All32 near∧∀ v,a=some v→v.length≤128
 | fork ks f top near l r=>f=frm ks∧f≤top∧top≤256∧near.length=top - f∧All32 near∧Asc ks∧All32 ks∧2≤ks.length∧l.keys=ks.take (lefts ks)∧r.keys=ks.drop (lefts ks)∧l.top=f - 1∧r.top=f - 1∧l.Ok∧r.Ok
theorem Ok.keys_pos:∀ {t:Tw},t.Ok→0<t.keys.length
 | leaf _ _ _ _,_=>by simp[keys]
 | fork _ _ _ _ _ _,h=>by simp only[keys];have:=h.2.2.2.2.2.2.2.1;omega
theorem Ok.all:∀ {t:Tw},t.Ok→All32 t.keys
 | leaf _ _ _ _,h=>All32.one h.1
 | fork _ _ _ _ _ _,h=>h.2.2.2.2.2.2.1
theorem Ok.fr_le:∀ {t:Tw},t.Ok→t.fr≤t.top
 | leaf _ _ _ _,_=>Nat.zero_le _
 | fork _ _ _ _ _ _,h=>h.2.1
theorem Ok.top_le:∀ {t:Tw},t.Ok→t.top≤256
 | leaf _ _ _ _,h=>h.2.1
 | fork _ _ _ _ _ _,h=>h.2.2.1
theorem Ok.near_len:∀ {t:Tw},t.Ok→t.near.length=t.top - t.fr
 | leaf _ _ _ _,h=>h.2.2.1
 | fork _ _ _ _ _ _,h=>h.2.2.2.1
theorem Ok.key_mem {t:Tw} (h:t.Ok):t.key ∈ t.keys:=headD_mem h.keys_pos
theorem Ok.key_len {t:Tw} (h:t.Ok):t.key.length=32:=h.all _ h.key_mem
theorem Ok.f_pos {ks:List Bs} {f top:Nat} {near:List Bs} {l r:Tw} (h:(fork ks f top near l r).Ok):1≤f:=by
 rw[h.1];exact frm_pos h.2.2.2.2.2.1 h.2.2.2.2.2.2.2.1
end Tw
def ansP (kind:Nat) (bs:Bs):Option (Option Bs × Bs) :=
 if kind=0 then some (none,bs)
 else if bs.length<2 then none
 else if (bs.getD 0 0).toNat+256*(bs.getD 1 0).toNat > 128 then none
 else if (bs.drop 2).length<(bs.getD 0 0).toNat+256*(bs.getD 1 0).toNat then none
 else some (some ((bs.drop 2).take ((bs.getD 0 0).toNat+256*(bs.getD 1 0).toNat)),(bs.drop 2).drop ((bs.getD 0 0).toNat+256*(bs.getD 1 0).toNat))
/-- a bit of a bitmap -/
def mbit (bits:Bs) (g:Nat):Bool:=(bits.getD (g / 8) 0).getLsbD (g % 8)
def gvP (f top:Nat) (bits:Bs):Nat→Nat→Bs→Option (List (Nat × Bs) × Bs)
 | 0,_,bs=>some ([],bs)
 | n+1,g,bs =>
  if mbit bits g=false then gvP f top bits n (g+1) bs
  else if bs.length<32∨g<f∨top≤g then none
  else (gvP f top bits n (g+1) (bs.drop 32)).map fun p=>((g,bs.take 32)::p.1,p.2)
def fill (f:Nat) (base:List Bs) (gs:List (Nat × Bs)):List Bs:=gs.foldl (fun l p=>l.set (p.1 - f) p.2) base
def nearP (w:Int) (f top:Nat) (bs:Bs):Option (List Bs × List (Nat × Bs) × Bs) :=
 if bs.length<32 then none
 else (gvP f top (bs.take 32) 256 0 (bs.drop 32)).map fun p=>(fill f (((empts w 257).drop f).take (top - f)) p.1,p.1,p.2)
def parse (w:Int):Nat→List Bs→Nat→Bs→Option (Tw × List (Nat × Bs) × Bs)
 | 0,_,_,_=>none
 | n+1,ks,top,bs =>
  if bs.length<1 then none
  else if (bs.getD 0 0).toNat > 2∨¬ ((bs.getD 0 0).toNat=2 ↔ 1<ks.length) then none
  else if (bs.getD 0 0).toNat=2 then
   (nearP w (frm ks) top (bs.drop 1)).bind fun p =>
   (parse w n (ks.take (lefts ks)) (frm ks - 1) p.2.2).bind fun q =>
   (parse w n (ks.drop (lefts ks)) (frm ks - 1) q.2.2).map fun s=>(.fork ks (frm ks) top p.1 q.1 s.1,p.2.1++(q.2.1++s.2.1),s.2.2)
  else
   (ansP (bs.getD 0 0).toNat (bs.drop 1)).bind fun p =>
   (nearP w 0 top p.2).map fun q=>(.leaf (ks.headD []) top q.1 p.1,q.2.1,q.2.2)
def chk (w:Int):List (Nat × Bs)→Int
 | []=>0
 | p::r=>if p.2≠cutD w p.2 then 120 else if p.2=emptD w p.1 then 130 else chk w r
/-- what bytes say for sorted keys (nothing of no key), or the error -/
def form (w:Int) (ks:List Bs) (raw:Bs):Except Int (Option Tw) :=
 if ks=[] then if raw=[] then .ok none else .error 120
 else match parse w ks.length ks 256 raw with
  | none=>.error 120
  | some p=>if p.2.2≠[] then .error 120 else if chk w p.2.1≠0 then .error (chk w p.2.1) else .ok (some p.1)
def ldig (w:Int) (k:Bs):Option Bs→Bs
 | some v=>leafD w k v
 | none=>emptD w 0
theorem ldig_len (w:Int) (k:Bs) (a:Option Bs):(ldig w k a).length=32:=by
 cases a
 ·exact emptD_len _ _
 ·exact leafD_len _ _ _
abbrev Says:=Bs→Option Bs→Option Bs
def asIs:Says:=fun _ a=>a
def base (w:Int) (says:Says):Tw→Bs
 | .leaf k _ _ a=>ldig w k (says k a)
 | .fork _ _ _ _ l r=>branchD w (climb w l.key l.fr (base w says l) l.near) (climb w r.key r.fr (base w says r) r.near)
def dig (w:Int) (says:Says) (t:Tw):Bs:=climb w t.key t.fr (base w says t) t.near
theorem base_len (w:Int) (says:Says):∀ t,(base w says t).length=32
 | .leaf _ _ _ _=>ldig_len _ _ _
 | .fork _ _ _ _ _ _=>branchD_len _ _ _
theorem dig_len (w:Int) (says:Says) (t:Tw):(dig w says t).length=32:=climb_len _ _ _ _ _ (base_len _ _ _)
def ansT:Option Bs→Bs
 | none=>[0]
 | some v=>1::BitVec.ofNat 8 v.length::BitVec.ofNat 8 (v.length / 256)::v
/-- neighbours laid out: the bitmap and the digests, from a height on -/
def layN (w:Int):Nat→Bs→Bs→List Bs→Bs × Bs
 | _,bits,sums,[]=>(bits,sums)
 | h,bits,sums,d::r=>if d=emptD w h then layN w (h+1) bits sums r else layN w (h+1) (bits.set (h / 8) (bits.getD (h / 8) 0 ||| BitVec.ofNat 8 (2 ^ (h % 8)))) (sums++d) r
def nearT (w:Int) (f:Nat) (near:List Bs):Bs:=(layN w f (List.replicate 32 0) [] near).1++(layN w f (List.replicate 32 0) [] near).2
def txt (w:Int):Tw→Bs
 | .leaf _ _ near a=>ansT a++nearT w 0 near
 | .fork _ f _ near l r=>2::(nearT w f near++(txt w l++txt w r))
def Tw.at:Tw→Bs→Option Bs
 | .leaf _ _ _ a,_=>a
 | .fork _ f _ _ l r,k=>if kbit k (256 - f) then r.at k else l.at k
/-- the neighbours of one of its keys -/
def nbrs (w:Int):Tw→Bs→List Bs
 | .leaf _ _ near _,_=>near
 | .fork _ f _ near l r,k=>(if kbit k (256 - f) then nbrs w r k++[dig w asIs l] else nbrs w l k++[dig w asIs r])++near
end Wit
end Go.V
end
