/- Helpers. -/
import Derived.Test.YtppmpdjlmgfdkaaGreatDoorB08
set_option linter.all false
set_option maxRecDepth 100000
set_option maxHeartbeats 8000000
open List renaming length_set->jE
open Option renaming bind_some->qV,map_some->qK
namespace Go.V
variable {c z:Array Value} {ds:List (List Byte)} {r:List (Nat × Value)} {bs:List Byte} {b cap i n o:Nat} {fz:Nat × Nat} {ps:Nat->Option (Nat × Nat)} {x:Obj} {a:Option Addr} {e t:TypeId} {v:Value} {w w0:World}
section
variable {P:Program}
theorem rdO_row (h:w.heap[b]?=some x)(t:TypeId)(o:Nat):rdO P t w b o=ldO P t (some x) o:=by rw[rdO,h]
theorem wrO_row (h:w.heap[b]?=some x)(t:TypeId)(o:Nat)(v:Value):wrO P t w b o v=(stO P t (some x) o v).map (put w b):=by rw[wrO,h]
theorem ldO_agg (h:aggO P t=some true)(hs:szO P t=some n)(hn:o+n<=c.size):ldO P t (some (.cells c e fz)) o=some (.agg (c.extract o (o+n))):=by
 simp[ldO,h,hs,hn]
theorem one_cells (A:one v=true):v.cells=#[v]:=by cases v <;> first | rfl | simp[one]at A
theorem stO_agg {c vs:Array Value}(hs:szO P t=some vs.size)(A:vs.all one=true)(B:o+vs.size<=c.size):stO P t (some (.cells c e (0,0))) o (.agg vs)=some (.cells (qXz vs.toList o c) e (0,0)):=by
 have:szO P t=some (Value.agg vs).cells.size/\o+(Value.agg vs).cells.size<=c.size/\(Value.agg vs).cells.all one=true:=⟨hs,B,A⟩
 exact if_pos this
theorem RdD.pos (h:RdD w v ds)(E:0<ds.length):∃ b o cap,v=.slice (some ⟨b,o,none⟩) ds.length cap/\ds.length<=cap/\b<w.heap.size:=by
 obtain⟨a,cap,rfl,A,B⟩:=h.at (P:=default);obtain⟨b,o,rfl,H,_⟩:=B 0 E;exact⟨b,o,cap,rfl,A,H⟩
theorem RdD.get (h:RdD w (.slice (some ⟨b,o,none⟩) n cap) ds)(ha:aggO P t=some true)(hs:szO P t=some 32)(hi:i<ds.length):rdO P t w b (o+i*32)=some (dg (ds.getD i [])):=by
 obtain⟨a,E,A,H,B⟩:=h.at (P:=P);cases A;obtain⟨I,J,A,L,r⟩:=B i hi;cases A;rw[qQt _ hi];exact r t ha hs
theorem RdD.len (h:RdD w (.slice a n cap) ds):n=ds.length:=by
 obtain⟨E,A,B,_⟩:=h.slice;cases B;rfl
theorem sbO_nat {k m:Nat}(h:k<=m):sbO (.int .i64 (k:Int)) m=some k:=by simp only[sbO];rw[if_pos om,iTn]
def cutV (sz:Nat)(a:Option Addr)(cap l m:Nat):Value:=.slice (if cap=l then a else a.map (fun (q:Addr)=>q.add (l*sz))) (m - l) (cap - l)
section
variable {t e sz:Nat} (ht:slcO P t=some e) (ha:arrO P t=none) (hs:szO P e=some sz) {a:Option Addr} {n cap l m:Nat} (hl:l<=m) (hm:m<=n) (hn:n<=cap)
include ht ha hs hl hm hn
theorem slc_both:qQw P t (.slice a n cap) (some (.int .i64 (l:Int))) (some (.int .i64 (m:Int))) none=some (cutV sz a cap l m):=by
 simp only[qQw,ha,ht,hs,optB,qV,sbO_nat (show m<=cap by omega),sbO_nat hl,qK,cutV]
end
section
variable {t e sz:Nat} (ht:slcO P t=some e) (ha:arrO P t=none) (hs:szO P e=some sz) {a:Option Addr} {n cap l:Nat} (hl:l<=n) (hn:n<=cap)
include ht ha hs hl hn
theorem slc_lo:qQw P t (.slice a n cap) (some (.int .i64 (l:Int))) none none=some (cutV sz a cap l n):=by
 simp only[qQw,ha,ht,hs,optB,qV,sbO_nat hl,qK,cutV]
theorem slc_hi:qQw P t (.slice a n cap) none (some (.int .i64 (l:Int))) none=some (cutV sz a cap 0 l):=by
 simp only[qQw,ha,ht,hs,optB,qV,sbO_nat (show l<=cap by omega),qK,cutV]
end
theorem Rd.cutV {w:World}{sz n cap:Nat}{a:Option Addr}{A:List Value}(h:Rd w sz (.slice a n cap) n A){l m:Nat}(hl:l<=m)(hm:m<=n):Rd w sz (cutV sz a cap l m) (m - l) ((A.drop (l*sz)).take ((m - l)*sz)):=Rd.cut h hl hm _ rfl
theorem By.cutV (h:By w (.slice a n cap) bs){l m:Nat}(hl:l<=m)(hm:m<=n)(hn:bs.length=n):By w (V.cutV 1 a cap l m) ((bs.drop l).take (m - l)):=By.cut h hl hm hn _ rfl
theorem cutV_slice (sz:Nat)(a:Option Addr)(cap l m:Nat):∃ A,cutV sz a cap l m=.slice A (m - l) (cap - l):=⟨_,rfl⟩
theorem By.slice (h:By w v bs):∃ a cap,v=.slice a bs.length cap/\bs.length<=cap:=by
 obtain⟨_,a,cap,e,h,_⟩:=h;exact⟨a,cap,e,h⟩
theorem By.pos (h:By w v bs)(E:0<bs.length):∃ b o cap,v=.slice (some ⟨b,o,none⟩) bs.length cap/\bs.length<=cap:=by
 obtain⟨a,cap,rfl,A,B⟩:=h.at;obtain⟨b,o,rfl,_⟩:=B 0 E;exact⟨b,o,cap,rfl,A⟩
theorem By.get (h:By w (.slice (some ⟨b,o,none⟩) n cap) bs)(ha:aggO P t=some false)(hi:i<bs.length):rdO P t w b (o+i)=some (.int .u8 ((bs.getD i 0).toNat:Int)):=by
 obtain⟨a,E,A,H,B⟩:=h.at;cases A;obtain⟨I,J,A,r⟩:=B i hi;cases A;rw[rd_rc ha r,qQt _ hi]
theorem By.len (h:By w (.slice a n cap) bs):n=bs.length:=by
 obtain⟨E,A,B,_⟩:=h.slice;cases B;rfl
theorem NwB.back {w0 w u:World}(h:NwB w0 w v bs)(A:u.heap.size<=w0.heap.size):NwB u w v bs:=Nw.back h A
theorem NwB.lt (h:NwB w0 w v bs)(A:qQc v=some b):w0.heap.size<=b/\b<w.heap.size:=⟨Nw.new h b A,(Nw.own h).lt A⟩
theorem NwB.put (h:NwB w0 w v bs)(o:Obj)(B:∀ c,qQc v=some c->c≠b)(E:fzO o=false:=by rfl):NwB w0 (V.put w b o) v bs :=
 h.fr ((Fr.refl (fun c=>c=b) w).put o (fun _=>rfl) E) fun c H A=>B c H A
theorem NwD.set {e b o n cap:Nat}(h:NwD w0 w e (.slice (some ⟨b, o, none⟩) n cap) ds)(hs:szO P t=some 32)(hi:i<ds.length){d:List Byte}(J:d.length=32) :
  ∃ w',wrO P t w b (o+i*32) (dg d)=some w'/\NwD w0 w' e (.slice (some ⟨b,o,none⟩) n cap) (ds.set i d)/\Fr (fun c=>c=b) w w':=by
 obtain⟨A,H,I⟩:=h
 have hn:=NwD.rd ⟨A,H,I⟩ |>.len
 subst hn
 rcases H with ⟨M,_⟩ | ⟨Z,o',O,c,M,R,V,B,hl,N⟩
 ·cases M
 ·cases M
  have W:ds.length*32<=cap*32:=Nat.mul_le_mul_right 32 B;have Y:o+i*32+(d.map u8).toArray.size<=c.size:=by rw[dg_size,J];omega
  refine⟨_,by rw[wrO_row R,stO_agg (by rw[dg_size,J];exact hs) (u8s_all d) Y];rfl,⟨A.set i J,?_,I⟩,(Fr.refl _ _).put (b:=b) _ fun _=>rfl⟩;refine .inr ⟨b,o,cap,qXz (d.map u8) (o+i*32) c,by rw[jE],qQd R,by rw[qJl];exact V,by rw[jE];exact B,by rw[flat_len (A.set i J)],fun j T=>?_⟩;rw[jE]at T;rw[qVm,List.length_map,J];have E:j / 32<ds.length:=om
  have L:j / 32*32+j % 32=j:=om
  have key:(flat (ds.set i d))[j]?=((ds.set i d)[j / 32]'(by rw[jE];exact E) |>.map u8)[j % 32]?:=by
   rw[<- flat_at (A.set i J) (by rw[jE];exact E) (Nat.mod_lt j x9),L]
  rw[key,List.getElem_set]
  by_cases U:i=j / 32
  ·rw[if_pos U,if_pos ⟨om,om,om⟩]
   congr 1;omega
  ·rw[if_neg U,if_neg om,N j T,<- flat_at A E (Nat.mod_lt j x9),L]
theorem Fr.ext {w w':World}(f:Fr (fun _=>False) w w'):Ext w w':=fun b A=>f.blk b A id
theorem qQl (w:World)(a:Array Value)(A:TypeId):∃ W,w.alloc (.cells a A)=W/\No w W/\W.heap[w.heap.size]?=some (.cells a A (0,0))/\W.heap.size=w.heap.size+1 :=
 ⟨_,rfl,(Fr.refl _ _).alloc _,qQb _ _,qQf _ _⟩
theorem qZz (w:World)(a:Array Value)(A:TypeId)(b:Array Value)(B:TypeId):∃ W,(w.alloc (.cells a A)).alloc (.cells b B)=W/\No w W/\W.heap[w.heap.size]?=some (.cells a A (0,0))/\W.heap[w.heap.size+1]?=some (.cells b B (0,0))/\W.heap.size=w.heap.size+2:=by
 obtain⟨W,rfl,f,k,s⟩:=qQl w a A;refine⟨_,rfl,f.alloc _,qQs k,?_,by rw[qQf,s]⟩;have:=qQb (w.alloc (.cells a A)) (.cells b B);rw[s]at this;exact this
theorem allocs3 (w:World)(a:Array Value)(A:TypeId)(b:Array Value)(B:TypeId)(c:Array Value)(E:TypeId):∃ W, ((w.alloc (.cells a A)).alloc (.cells b B)).alloc (.cells c E)=W/\No w W/\W.heap[w.heap.size]?=some (.cells a A (0, 0))/\W.heap[w.heap.size+1]?=some (.cells b B (0, 0)) /\
  W.heap[w.heap.size+1+1]?=some (.cells c E (0,0))/\W.heap.size=w.heap.size+3:=by
 obtain⟨W,rfl,f,k,H,s⟩:=qZz w a A b B;refine⟨_,rfl,f.alloc _,qQs k,qQs H,?_,by rw[qQf,s]⟩;have:=qQb ((w.alloc (.cells a A)).alloc (.cells b B)) (.cells c E);rw[s]at this;exact this
theorem qQp {t n:Nat}{A:Array Value}(ha:aggO P t=some true)(hs:szO P t=some n)(h:w.heap[b]?=some (.cells A e fz))(hn:A.size=n:=by rfl):rdO P t w b 0=some (.agg A):=by
 subst hn;rw[rdO_row h,ldO_agg ha hs om]
 congr 2
 simp
theorem NwB.catB {ts:Array TypeId}{z:Value}(ht:AppT P ts 5 1 1 z)(B:NwB w0 w v bs){x:Value}{xs:List Byte}(H:By w x xs)
  (hn:bs.length+xs.length<=2 ^ 46) (f:No w0 w) :
  ∃ A w',(Builtin.append_ ts 0 #[v,x]).run P w=.ok A w'/\NwB w0 w' A (bs++xs)/\No w0 w'/\Fr (fun b=>qQc v=some b) w w'/\∀ b,qQc A=some b->qQc v=some b∨w.heap.size<=b:=by
 obtain⟨A,w',I,J,E,L⟩:=app_nw ht B H (qXs xs) om (bd_small om) om f.size;refine⟨A,w',I,?_,f.trans' E fun b M h=>?_,E,L⟩
 ·unfold NwB
  rw[lAp,List.map_append];exact J
 ·have:=B.new b h;omega
theorem foldl_zip (l:List Value)(off:Nat):∀ (k:Nat) (c:Array Value),((l.zipIdx k).foldl (fun (A:Array Value) (p:Value × Nat)=>A.setIfInBounds (off+p.2) p.1) c)=qXz l (off+k) c:=by
 induction l with
 | nil=>intro k c;rfl
 | cons v l B =>
  intro k c;simp only[List.zipIdx_cons,List.foldl_cons,qXz];rw[B,Nat.add_assoc]
theorem fill_cons {i off n:Nat}(A:ps i=some (off, n))(B:v.cells.size=n)(H:off+n<=z.size) :
  Instr.fill ps z ((i,v)::r)=Instr.fill ps (qXz v.cells.toList off z) r:=by
 have e:(v.cells.zipIdx.foldl (fun (E:Array Value) (p:Value × Nat)=>E.setIfInBounds (off+p.2) p.1) z)=qXz v.cells.toList off z:=by
  rw[<- Array.foldl_toList,Array.toList_zipIdx,foldl_zip];rfl
 simp only[Instr.fill,A,B];rw[if_neg (by simp;omega)];exact congrArg (fun x=>Instr.fill ps x r) e
theorem fill_one1 {i off:Nat}(B:ps i=some (off, 1))(A:one v=true)(E:off<z.size) :
  Instr.fill ps z ((i,v)::r)=Instr.fill ps (z.setIfInBounds off v) r:=by
 rw[fill_cons B (by rw[one_cells A];rfl) E,one_cells A];rfl
theorem qXu:Instr.fill ps z []=some z:=rfl
theorem shift8 {α:Type}(x y:α):(if (8:Int)<0 then x else y)=y:=rfl
theorem no_ext {p:Prop}:(False->p)=True:=sm
attribute [go_sem] List.map_toArray no_ext Bool.not_true Bool.not_false if_true if_false Bool.false_eq_true shift8 qK Option.map_none qV Option.bind_none iTn Int.toNat_zero Int.toNat_one Nat.mul_one Nat.add_zero Nat.zero_mul Nat.zero_add and_self
end
end Go.V
