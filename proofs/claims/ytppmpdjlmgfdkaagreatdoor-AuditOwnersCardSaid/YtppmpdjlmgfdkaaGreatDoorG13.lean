/- Helpers. -/
import Derived.Test.YtppmpdjlmgfdkaaGreatDoorG09
set_option linter.all false
set_option maxRecDepth 100000
set_option maxHeartbeats 8000000
open List renaming length_set→jJ
open Option renaming bind_some→qV,map_some→qK
namespace Go.V
variable {c z:Array Value} {ds:List (List Byte)} {r:List (Nat × Value)} {bs:List Byte} {b cap i n o:Nat} {fz:Nat × Nat} {ps:Nat→Option (Nat × Nat)} {x:Obj} {a:Option Addr} {e t:TypeId} {v:Value} {w w0:World}
section
variable {P:Program}
theorem rdO_row (h:w.heap[b]?=some x)(t:TypeId)(o:Nat):rdO P t w b o=ldO P t (some x) o:=by rw[rdO,h]
theorem wrO_row (h:w.heap[b]?=some x)(t:TypeId)(o:Nat)(v:Value):wrO P t w b o v=(stO P t (some x) o v).map (put w b):=by rw[wrO,h]
theorem ldO_agg (h:aggO P t=some true)(hs:szO P t=some n)(hn:o+n≤c.size):ldO P t (some (.cells c e fz)) o=some (.agg (c.extract o (o+n))):=by
 simp[ldO,h,hs,hn]
theorem one_cells (hv:one v=true):v.cells=#[v]:=by cases v <;> first | rfl | simp[one]at hv
theorem stO_agg {c vs:Array Value}(hs:szO P t=some vs.size)(hv:vs.all one=true)(ho:o+vs.size≤c.size):stO P t (some (.cells c e (0,0))) o (.agg vs)=some (.cells (qXl vs.toList o c) e (0,0)):=by
 have:szO P t=some (Value.agg vs).cells.size∧o+(Value.agg vs).cells.size≤c.size∧(Value.agg vs).cells.all one=true:=⟨hs,ho,hv⟩
 exact if_pos this
theorem RdD.pos (h:RdD w v ds)(h0:0<ds.length):∃ b o cap,v=.slice (some ⟨b,o,none⟩) ds.length cap∧ds.length≤cap∧b<w.heap.size:=by
 obtain⟨a,cap,rfl,hcap,hat⟩:=h.at (P:=default);obtain⟨b,o,rfl,hb,_⟩:=hat 0 h0;exact⟨b,o,cap,rfl,hcap,hb⟩
theorem RdD.get (h:RdD w (.slice (some ⟨b,o,none⟩) n cap) ds)(ha:aggO P t=some true)(hs:szO P t=some 32)(hi:i<ds.length):rdO P t w b (o+i*32)=some (dg (ds.getD i [])):=by
 obtain⟨a,cap',he,hcap,hat⟩:=h.at (P:=P);cases he;obtain⟨b',o',he,hb,r⟩:=hat i hi;cases he;rw[qQw _ hi];exact r t ha hs
theorem RdD.len (h:RdD w (.slice a n cap) ds):n=ds.length:=by
 obtain⟨a',cap',he,_⟩:=h.slice;cases he;rfl
theorem sbO_nat {k m:Nat}(h:k≤m):sbO (.int .i64 (k:Int)) m=some k:=by simp only[sbO];rw[if_pos (by omega),iTn]
def cutV (sz:Nat)(a:Option Addr)(cap l m:Nat):Value:=.slice (if cap=l then a else a.map (fun (q:Addr)=>q.add (l*sz))) (m - l) (cap - l)
section
variable {t e sz:Nat} (ht:slcO P t=some e) (ha:arrO P t=none) (hs:szO P e=some sz) {a:Option Addr} {n cap l m:Nat} (hl:l≤m) (hm:m≤n) (hn:n≤cap)
include ht ha hs hl hm hn
theorem slc_both:qQs P t (.slice a n cap) (some (.int .i64 (l:Int))) (some (.int .i64 (m:Int))) none=some (cutV sz a cap l m):=by
 simp only[qQs,ha,ht,hs,optB,qV,sbO_nat (show m≤cap by omega),sbO_nat hl,qK,cutV]
end
section
variable {t e sz:Nat} (ht:slcO P t=some e) (ha:arrO P t=none) (hs:szO P e=some sz) {a:Option Addr} {n cap l:Nat} (hl:l≤n) (hn:n≤cap)
include ht ha hs hl hn
theorem slc_lo:qQs P t (.slice a n cap) (some (.int .i64 (l:Int))) none none=some (cutV sz a cap l n):=by
 simp only[qQs,ha,ht,hs,optB,qV,sbO_nat hl,qK,cutV]
theorem slc_hi:qQs P t (.slice a n cap) none (some (.int .i64 (l:Int))) none=some (cutV sz a cap 0 l):=by
 simp only[qQs,ha,ht,hs,optB,qV,sbO_nat (show l≤cap by omega),qK,cutV]
end
theorem By.cutV (h:By w (.slice a n cap) bs){l m:Nat}(hl:l≤m)(hm:m≤n)(hn:bs.length=n):By w (V.cutV 1 a cap l m) ((bs.drop l).take (m - l)):=By.cut h hl hm hn _ rfl
theorem cutV_slice (sz:Nat)(a:Option Addr)(cap l m:Nat):∃ a',cutV sz a cap l m=.slice a' (m - l) (cap - l):=⟨_,rfl⟩
theorem By.slice (h:By w v bs):∃ a cap,v=.slice a bs.length cap∧bs.length≤cap:=by
 obtain⟨_,a,cap,e,h,_⟩:=h;exact⟨a,cap,e,h⟩
theorem By.pos (h:By w v bs)(h0:0<bs.length):∃ b o cap,v=.slice (some ⟨b,o,none⟩) bs.length cap∧bs.length≤cap:=by
 obtain⟨a,cap,rfl,hcap,hat⟩:=h.at;obtain⟨b,o,rfl,_⟩:=hat 0 h0;exact⟨b,o,cap,rfl,hcap⟩
theorem By.get (h:By w (.slice (some ⟨b,o,none⟩) n cap) bs)(ha:aggO P t=some false)(hi:i<bs.length):rdO P t w b (o+i)=some (.int .u8 ((bs.getD i 0).toNat:Int)):=by
 obtain⟨a,cap',he,hcap,hat⟩:=h.at;cases he;obtain⟨b',o',he,r⟩:=hat i hi;cases he;rw[rd_rc ha r,qQw _ hi]
theorem By.len (h:By w (.slice a n cap) bs):n=bs.length:=by
 obtain⟨a',cap',he,_⟩:=h.slice;cases he;rfl
theorem NwB.back {w0 w u:World}(h:NwB w0 w v bs)(hu:u.heap.size≤w0.heap.size):NwB u w v bs:=Nw.back h hu
theorem NwB.lt (h:NwB w0 w v bs)(hb:qQg v=some b):w0.heap.size≤b∧b<w.heap.size:=⟨Nw.new h b hb,(Nw.own h).lt hb⟩
theorem NwB.put (h:NwB w0 w v bs)(o:Obj)(hb:∀ c,qQg v=some c→c≠b)(ho:fzO o=false:=by rfl):NwB w0 (V.put w b o) v bs :=
 h.fr ((Fr.refl (fun c=>c=b) w).put o (fun _=>rfl) ho) fun c hc hcb=>hb c hc hcb
theorem NwD.set {e b o n cap:Nat}(h:NwD w0 w e (.slice (some ⟨b, o, none⟩) n cap) ds)(hs:szO P t=some 32)(hi:i<ds.length){d:List Byte}(hd:d.length=32) :
  ∃ w',wrO P t w b (o+i*32) (dg d)=some w'∧NwD w0 w' e (.slice (some ⟨b,o,none⟩) n cap) (ds.set i d)∧Fr (fun c=>c=b) w w':=by
 obtain⟨h32,hown,hnew⟩:=h
 have hn:=NwD.rd ⟨h32,hown,hnew⟩ |>.len
 subst hn
 rcases hown with ⟨he,_⟩ | ⟨b',o',cap',c,he,hb,hc,hncap,hl,hat⟩
 ·cases he
 ·cases he
  have hcs:ds.length*32≤cap*32:=Nat.mul_le_mul_right 32 hncap;have hw:o+i*32+(d.map u8).toArray.size≤c.size:=by rw[dg_size,hd];omega
  refine⟨_,by rw[wrO_row hb,stO_agg (by rw[dg_size,hd];exact hs) (u8s_all d) hw];rfl,⟨h32.set i hd,?_,hnew⟩,(Fr.refl _ _).put (b:=b) _ fun _=>rfl⟩;refine .inr ⟨b,o,cap,qXl (d.map u8) (o+i*32) c,by rw[jJ],qQd hb,by rw[qKx];exact hc,by rw[jJ];exact hncap,by rw[flat_len (h32.set i hd)],fun j hj=>?_⟩;rw[jJ]at hj;rw[qKl,List.length_map,hd];have hj32:j / 32<ds.length:=by omega
  have hlt:j / 32*32+j % 32=j:=by omega
  have key:(flat (ds.set i d))[j]?=((ds.set i d)[j / 32]'(by rw[jJ];exact hj32) |>.map u8)[j % 32]?:=by
   rw[← flat_at (h32.set i hd) (by rw[jJ];exact hj32) (Nat.mod_lt j (by decide)),hlt]
  rw[key,List.getElem_set]
  by_cases h2:i=j / 32
  ·rw[if_pos h2,if_pos ⟨by omega,by omega,by omega⟩]
   congr 1;omega
  ·rw[if_neg h2,if_neg (by omega),hat j hj,← flat_at h32 hj32 (Nat.mod_lt j (by decide)),hlt]
theorem Fr.ext {w w':World}(f:Fr (fun _=>False) w w'):Ext w w':=fun b hb=>f.blk b hb id
theorem qQl (w:World)(a:Array Value)(ta:TypeId):∃ W,w.alloc (.cells a ta)=W∧No w W∧W.heap[w.heap.size]?=some (.cells a ta (0,0))∧W.heap.size=w.heap.size+1 :=
 ⟨_,rfl,(Fr.refl _ _).alloc _,qQb _ _,qQc _ _⟩
theorem qJy (w:World)(a:Array Value)(ta:TypeId)(b:Array Value)(tb:TypeId):∃ W,(w.alloc (.cells a ta)).alloc (.cells b tb)=W∧No w W∧W.heap[w.heap.size]?=some (.cells a ta (0,0))∧W.heap[w.heap.size+1]?=some (.cells b tb (0,0))∧W.heap.size=w.heap.size+2:=by
 obtain⟨W,rfl,f,k,s⟩:=qQl w a ta;refine⟨_,rfl,f.alloc _,qQq k,?_,by rw[qQc,s]⟩;have:=qQb (w.alloc (.cells a ta)) (.cells b tb);rw[s]at this;exact this
theorem allocs3 (w:World)(a:Array Value)(ta:TypeId)(b:Array Value)(tb:TypeId)(c:Array Value)(tc:TypeId):∃ W, ((w.alloc (.cells a ta)).alloc (.cells b tb)).alloc (.cells c tc)=W∧No w W∧W.heap[w.heap.size]?=some (.cells a ta (0, 0))∧W.heap[w.heap.size+1]?=some (.cells b tb (0, 0)) ∧
  W.heap[w.heap.size+1+1]?=some (.cells c tc (0,0))∧W.heap.size=w.heap.size+3:=by
 obtain⟨W,rfl,f,k,k2,s⟩:=qJy w a ta b tb;refine⟨_,rfl,f.alloc _,qQq k,qQq k2,?_,by rw[qQc,s]⟩;have:=qQb ((w.alloc (.cells a ta)).alloc (.cells b tb)) (.cells c tc);rw[s]at this;exact this
theorem qQo {t n:Nat}{cs:Array Value}(ha:aggO P t=some true)(hs:szO P t=some n)(h:w.heap[b]?=some (.cells cs e fz))(hn:cs.size=n:=by rfl):rdO P t w b 0=some (.agg cs):=by
 subst hn;rw[rdO_row h,ldO_agg ha hs (by omega)]
 congr 2
 simp
theorem NwB.catB {ts:Array TypeId}{z:Value}(ht:AppT P ts 5 1 1 z)(hv:NwB w0 w v bs){x:Value}{xs:List Byte}(hx:By w x xs)
  (hn:bs.length+xs.length≤2 ^ 46) (f:No w0 w) :
  ∃ v' w',(Builtin.append_ ts 0 #[v,x]).run P w=.ok v' w'∧NwB w0 w' v' (bs++xs)∧No w0 w'∧Fr (fun b=>qQg v=some b) w w'∧∀ b,qQg v'=some b→qQg v=some b∨w.heap.size≤b:=by
 obtain⟨v',w',hr,h1,h2,h3⟩:=app_nw ht hv hx (qXy xs) (by omega) (bd_small (by omega)) (by omega) f.size;refine⟨v',w',hr,?_,f.trans' h2 fun b hb h=>?_,h2,h3⟩
 ·unfold NwB
  rw[lAp,List.map_append];exact h1
 ·have:=hv.new b h;omega
theorem foldl_zip (l:List Value)(off:Nat):∀ (k:Nat) (c:Array Value),((l.zipIdx k).foldl (fun (cs:Array Value) (p:Value × Nat)=>cs.setIfInBounds (off+p.2) p.1) c)=qXl l (off+k) c:=by
 induction l with
 | nil=>intro k c;rfl
 | cons v l ih =>
  intro k c;simp only[List.zipIdx_cons,List.foldl_cons,qXl];rw[ih,Nat.add_assoc]
theorem fill_cons {i off n:Nat}(hp:ps i=some (off, n))(hv:v.cells.size=n)(ho:off+n≤z.size) :
  Instr.fill ps z ((i,v)::r)=Instr.fill ps (qXl v.cells.toList off z) r:=by
 have e:(v.cells.zipIdx.foldl (fun (cs:Array Value) (p:Value × Nat)=>cs.setIfInBounds (off+p.2) p.1) z)=qXl v.cells.toList off z:=by
  rw[← Array.foldl_toList,Array.toList_zipIdx,foldl_zip];rfl
 simp only[Instr.fill,hp,hv];rw[if_neg (by simp;omega)];exact congrArg (fun x=>Instr.fill ps x r) e
theorem fill_one1 {i off:Nat}(hp:ps i=some (off, 1))(hv:one v=true)(ho:off<z.size) :
  Instr.fill ps z ((i,v)::r)=Instr.fill ps (z.setIfInBounds off v) r:=by
 rw[fill_cons hp (by rw[one_cells hv];rfl) ho,one_cells hv];rfl
theorem qZf:Instr.fill ps z []=some z:=rfl
theorem shift8 {α:Type}(x y:α):(if (8:Int)<0 then x else y)=y:=rfl
theorem no_ext {p:Prop}:(False→p)=True:=by simp
attribute [go_sem] List.map_toArray no_ext Bool.not_true Bool.not_false if_true if_false Bool.false_eq_true shift8 qK Option.map_none qV Option.bind_none iTn Int.toNat_zero Int.toNat_one Nat.mul_one Nat.add_zero Nat.zero_mul Nat.zero_add and_self
end
end Go.V
