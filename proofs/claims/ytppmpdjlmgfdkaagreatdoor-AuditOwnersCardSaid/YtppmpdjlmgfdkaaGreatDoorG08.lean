/- Helpers. -/
import Derived.Laws.MakeOwn
import Derived.Test.YtppmpdjlmgfdkaaGreatDoorG07
import Derived.Test.YtppmpdjlmgfdkaaGreatDoorG06
set_option linter.all false
set_option maxRecDepth 100000
set_option maxHeartbeats 8000000
open Array renaming replicate→xL,getElem?_replicate→xC,getElem?_range→xS,getElem?_map→xA,ext_getElem?→xE
open BitVec renaming eq_of_getLsbD_eq→xI,getLsbD_xor→xY,getLsbD_and→xO
open Go.Builtin renaming firstCells→xF
open List renaming getElem?_eq_getElem→zQ,range→zX,getElem?_toArray→zZ,getElem?_take→zJ
open Nat renaming mul_le_mul_right→xP,le_refl→xT
open Option renaming map_some→qK,bind_some→qV
namespace Go.V
variable {ts:Array TypeId} {d:List Byte} {cells:List Value} {by' e i m n sz t:Nat} {x z:Value} {w:World}
section
variable {P:Program}
structure Nw (w0 w:World) (e sz:Nat) (v:Value) (n:Nat) (cs:List Value):Prop where
 own:OwnO w e sz v n cs
 new:∀ b,qQg v=some b→w0.heap.size≤b
section
variable {w0 w w':World} {e sz n:Nat} {v:Value} {cs:List Value}
theorem Nw.nil (w0 w:World)(e sz:Nat):Nw w0 w e sz (.slice none 0 0) 0 []:=⟨OwnO.nil _ _ _,fun _ h=>by cases h⟩
theorem Nw.fr {F:Nat→Prop}(h:Nw w0 w e sz v n cs)(k:Fr F w w')(hf:∀ b,qQg v=some b→¬ F b):Nw w0 w' e sz v n cs :=
 ⟨h.own.frame fun b hb=>k.blk b (h.own.lt hb) (hf b hb),h.new⟩
theorem Nw.fr0 (h:Nw w0 w e sz v n cs)(k:No w w'):Nw w0 w' e sz v n cs:=h.fr k fun _ _ h=>h
theorem Nw.rd (h:Nw w0 w e sz v n cs):Rd w sz v n cs:=h.own.rd
theorem Nw.back {u:World}(h:Nw w0 w e sz v n cs)(hu:u.heap.size≤w0.heap.size):Nw u w e sz v n cs:=⟨h.own,fun b hb=>Nat.le_trans hu (h.new b hb)⟩
end
structure AppT (P:Program) (ts:Array TypeId) (e sz by':Nat) (z:Value):Prop where
 ex:∃ t t',ts[0]?=some t∧ts[1]?=some t'∧slcO P t=some e∧intO P t'=none∧(P.underlying t').isSome=true
 hsz:szO P e=some sz
 hby:byO P e=some by'
 hz:zeroO P e=some z
 hzs:z.cells.size=sz
theorem app_nw {w0 w:World}(ht:AppT P ts e sz by' z){v:Value}{cs:List Value}(hv:Nw w0 w e sz v n cs)
  {news:List Value} (hx:Rd w sz x m news) (hone:news.all one=true) (hsz0:0<sz)
  (hbd:∀ cap,n≤cap→cap<n+m→Builtin.nextslicecap (n+m) cap*by'≤2 ^ 48) (hbd2:n+m≤9223372036854775807) (hw:w0.heap.size≤w.heap.size) :
  ∃ v' w',(Builtin.append_ ts 0 #[v,x]).run P w=.ok v' w'∧Nw w0 w' e sz v' (n+m) (cs++news)∧Fr (fun b=>qQg v=some b) w w' ∧
   ∀ b,qQg v'=some b→qQg v=some b∨w.heap.size≤b:=by
 obtain⟨⟨t,t',h0,h1,hs,hi,hu'⟩,hsz,hby,hz,hzs⟩:=ht
 rcases Nat.eq_zero_or_pos m with rfl | hm
 ·obtain⟨hl,xa,xc,rfl,hxc,_⟩:=hx
  have hn0:news=[]:=List.eq_nil_of_length_eq_zero (by omega);subst hn0
  have key:∃ ba cap,v=.slice ba n cap∧n≤cap:=by
   rcases hv.own with ⟨rfl,rfl,_⟩ | ⟨b,o,cap,c,rfl,_,_,h,_⟩
   ·exact⟨none,0,rfl,xT _⟩
   ·exact⟨_,_,rfl,h⟩
  obtain⟨ba,cap,rfl,hcap⟩:=key;refine⟨_,w,run_app_zero (P:=P) h0 h1 hs hi hu' hsz hcap,?_,Fr.refl _ _,fun b hb=>.inl hb⟩;rw[List.append_nil];exact hv
 ·obtain⟨hl,xa,xc,rfl,hxc,hat⟩:=hx
  have hpos:0<m*sz:=Nat.mul_pos hm hsz0;obtain⟨b,o,rfl,hat2⟩:=hat hpos
  have hrow:∃ (c:Array Value) (ex:TypeId) (fx:Nat × Nat),w.heap[b]?=some (.cells c ex fx):=by
   have h:=hat2 0 hpos;rw[zQ (by omega)]at h;obtain⟨c,ex,fx,h1,_⟩:=rc_row h;exact⟨c,ex,fx,h1⟩
  obtain⟨c,ex,fx,hc⟩:=hrow;have hcs:∀ i,i<m*sz→c[o+i]?=news[i]?:=fun i hi=>by rw[← qXe hc];exact hat2 i hi
  have hsize:o+m*sz≤c.size:=by
   have h:=hcs (m*sz - 1) (by omega);rw[zQ (by omega)]at h;have:=(Array.getElem?_eq_some_iff.1 h).1;omega
  obtain⟨v',w',hr,r⟩:=app_o (P:=P) h0 h1 hs hi hu' hsz hby hz hzs hv.own hc hsize (get_extract hl hsize hcs) hone hbd hbd2 hm;obtain⟨b',h1',h2'⟩:=r.blk;refine⟨v',w',hr,⟨r.own,fun b hb=>?_⟩,r.fr,fun b hb=>?_⟩
  ·rw[h1']at hb;cases hb
   rcases h2' with h | h
   ·exact hv.new _ h
   ·omega
  ·rw[h1']at hb;cases hb;exact h2'
theorem run_mk (ht:slcO P t=some e)(hsz:szO P e=some sz)(hby:byO P e=some by')(hz:zeroO P e=some z){l c:Nat}(hlc:l≤c)(hb:by'*c≤2 ^ 48)(h63:c≤9223372036854775807)(kl kc:IntKind)(w:World) :
  (Instr.makeSlice t (.int kl (l:Int)) (.int kc (c:Int))).run P w=.ok (.slice (some ⟨w.heap.size,0,none⟩) l c) (w.alloc (.cells (madeCells z.cells (c*sz)) e)):=by
 unfold szO at hsz;unfold byO at hby;unfold zeroO at hz
 cases hi:P.info? e with
 | none=>simp[hi]at hsz
 | some i =>
  simp only[hi,qK,oSi,qV]at hsz hby hz
  subst hsz hby
  have hb':(i.bytes:Int)*(c:Int)≤281474976710656:=by
   have h:((i.bytes*c:Nat):Int)≤281474976710656:=by omega
   rwa [Int.natCast_mul]at h
  have:=run_make (P:=P) w t e i z (qXu ht) hi hz kl kc (l:Int) (c:Int) (by omega) (by omega) hb' (by omega);simpa using this
theorem madeCells_one (z:Value)(n:Nat):madeCells #[z] n=xL n z:=by
 apply xE;intro i;simp only[madeCells,xA,xS,xC];split
 ·simp only[qK,List.size_toArray,List.length_cons,List.length_nil,Nat.zero_add,Nat.mod_one];rfl
 ·rfl
theorem madeCells_rep (z:Value)(k n:Nat)(hk:0<k):madeCells (xL k z) n=xL n z:=by
 apply xE;intro i;simp only[madeCells,xA,xS,xC];split
 ·simp[Nat.mod_lt _ hk]
 ·rfl
theorem mk_nw (w0 w:World)(e sz l c:Nat)(cells:Array Value)(hw:w0.heap.size≤w.heap.size)(hc:cells.size=c*sz)(hl:l≤c) :
  Nw w0 (w.alloc (.cells cells e)) e sz (.slice (some ⟨w.heap.size,0,none⟩) l c) l (cells.toList.take (l*sz)):=by
 have hls:l*sz≤c*sz:=xP sz hl;refine⟨.inr ⟨w.heap.size,0,c,cells,rfl,qQb _ _,by omega,hl,by rw[lTk,Array.length_toList];omega,fun i hi=>?_⟩,fun b hb=>?_⟩
 ·rw[zJ,if_pos hi,Array.getElem?_toList,Nat.zero_add]
 ·simp only[qQg,oSi]at hb;omega
theorem rd_first {sz m k:Nat}(hx:Rd w sz x m cells)(hk:k≤m):(xF sz k x).run P w=.ok (cells.take (k*sz)).toArray w:=by
 obtain⟨hl,xa,xc,rfl,hxc,hat⟩:=hx;have hks:k*sz≤m*sz:=xP sz hk
 rcases Nat.eq_zero_or_pos (k*sz) with h0 | h0
 ·rw[h0,List.take_zero]
  cases xa with
  | none=>rfl
  | some a=>simp only[xF,h0];rfl
 ·obtain⟨b,o,rfl,hat2⟩:=hat (by omega)
  have hrow:∃ (c:Array Value) (ex:TypeId) (fx:Nat × Nat),w.heap[b]?=some (.cells c ex fx):=by
   have h:=hat2 0 (by omega);rw[zQ (by omega)]at h;obtain⟨c,ex,fx,h1,_⟩:=rc_row h;exact⟨c,ex,fx,h1⟩
  obtain⟨c,ex,fx,hc⟩:=hrow
  have hcs:∀ i,i<k*sz→c[o+i]?=(cells.take (k*sz))[i]?:=fun i hi=>by
   rw[← qXe hc,hat2 i (by omega),zJ,if_pos hi]
  have hsize:o+k*sz≤c.size:=by
   have h:=hcs (k*sz - 1) (by omega);rw[zQ (by rw[lTk];omega)]at h;have:=(Array.getElem?_eq_some_iff.1 h).1;omega
  have:=qJq (P:=P) hc hsize;simp only[xF,this]
  congr 1
  apply Array.toList_inj.1;exact get_extract (by rw[lTk];omega) hsize hcs
theorem rd_len (hx:Rd w sz x m cells):(Builtin.lenOf x).run P w=.ok m w:=by
 obtain⟨hl,xa,xc,rfl,hxc,hat⟩:=hx
 rfl
theorem run_copy (h0:ts[0]?=some t)(hs:slcO P t=some e)(hsz:szO P e=some sz){b o dn dc el:Nat}{c:Array Value}(hrow:w.heap[b]?=some (.cells c el (0, 0)))
  (hx:Rd w sz x m cells) (hone:cells.all one=true) (hfit:o+min m dn*sz≤c.size) :
  (Builtin.copy_ ts 0 #[.slice (some ⟨b,o,none⟩) dn dc,x]).run P w=.ok (.int .i64 (min m dn:Nat)) (put w b (.cells (qXl (cells.take (min m dn*sz)) o c) el (0,0))):=by
 have a0:(#[Value.slice (some ⟨b,o,none⟩) dn dc,x]:Array Value)[0]?=some (.slice (some ⟨b,o,none⟩) dn dc):=rfl;have a1:(#[Value.slice (some ⟨b,o,none⟩) dn dc,x]:Array Value)[1]?=some x:=rfl;have hl:=hx.1;have hms:min m dn*sz≤m*sz:=xP sz (Nat.min_le_left _ _)
 have hst:=qKb (P:=P) (cells.take (min m dn*sz)) w b o 0 c el hrow (by rw[lTk];omega) (by
  rw[List.all_eq_true]at *;intro u hu;exact hone u (List.mem_of_mem_take hu))
 rw[Nat.add_zero]at hst;simp only[Builtin.copy_,h0,a0,a1,Sem.run_bind,r_und (qXu hs),Result.andThen_ok,rd_len hx,qXo hsz,Nat.min_def]at hst ⊢;rw[show (if m≤dn then m else dn)=min m dn from rfl]at hst ⊢;simp only[rd_first hx (Nat.min_le_left m dn),Result.andThen_ok,hst,Sem.run_pure,goInt]
abbrev dg (d:List Byte):Value:=.agg (d.map u8).toArray
theorem qXy (d:List Byte):(d.map u8).all one=true:=by simp[one]
theorem u8s_all (d:List Byte):(d.map u8).toArray.all one=true:=by rw[← Array.all_toList];exact qXy d
theorem dg_size (d:List Byte):(d.map u8).toArray.size=d.length:=by simp
theorem rd_dg {b o:Nat}(ha:aggO P t=some true)(hs:szO P t=some n)(hd:d.length=n)(h0:0<n)(h:∀ i, i<n→rc w b (o+i)=(d.map u8)[i]?) :
  rdO P t w b o=some (dg d):=rd_rcs ha hs (by rw[dg_size,hd]) h0 fun i hi=>by rw[h i hi,zZ]
theorem mapM_is {α β:Type}{f:α→Option β}{g:α→β}:∀ {l:List α},(∀ i ∈ l,f i=some (g i))→l.mapM f=some (l.map g)
 | [],_=>rfl
 | x::l,h=>by rw[List.mapM_cons,h x (by simp),mapM_is (l:=l) fun i hi=>h i (by simp[hi])];rfl
theorem qQw {α:Type}{l:List α}(d:α)(h:i<l.length):l.getD i d=l[i]:=by
 rw[gDq,zQ h];rfl
theorem u8_at (h:i<d.length):(d.map u8).toArray[i]?=some (u8 (d.getD i 0)):=by
 rw[zZ,List.getElem?_map,zQ h,qK,qQw _ h]
theorem part_u8 (ha:aggO P e=some false)(h:i<d.length):partO P e (d.map u8).toArray i=some (u8 (d.getD i 0)):=by
 simp only[partO,ha,u8_at h]
theorem u8_beq (a b:Byte):((a.toNat:Int) == (b.toNat:Int))=(a == b):=by
 by_cases h:a=b
 ·subst h;simp
 ·have:¬ a.toNat=b.toNat:=fun e=>h (BitVec.eq_of_toNat_eq e)
  rw[show (a == b)=false by simpa using h]
  simp;exact_mod_cast this
theorem all_beq {a b:List Byte}(h:a.length=b.length):((zX a.length).map fun i=>a.getD i 0 == b.getD i 0).all id=(a == b):=by
 by_cases he:a=b
 ·subst he;simp
 ·rw[show (a == b)=false by simpa using he,Bool.eq_false_iff]
  intro hh;refine he (List.ext_getElem h fun i h1 h2=>?_);have:=List.all_eq_true.1 hh (a.getD i 0 == b.getD i 0) (List.mem_map.2 ⟨i,List.mem_range.2 h1,rfl⟩);rw[qQw _ h1,qQw _ h2]at this;simpa using this
theorem eqV_dg (ha:arrO P t=some (n, e))(he:intO P e=some .u8)(hs:szO P e=some 1)(hag:aggO P e=some false){a b:List Byte}(la:a.length=n)(lb:b.length=n)(d:Nat) :
  eqV P (d+2) t (dg a) (dg b)=some (a == b):=by
 conv=>lhs;unfold eqV
 rw[qKi ha];simp only[hs,qV];subst la;rw[mapM_is (g:=fun i=>a.getD i 0 == b.getD i 0)]
 ·rw[qK,all_beq lb.symm]
 ·intro i hi
  have hi':=List.mem_range.1 hi;rw[Nat.mul_one,part_u8 hag hi',part_u8 hag (by omega)];show eqV P (d+1) e (u8 _) (u8 _)=_;unfold eqV;rw[qJn he];simp only[if_true,u8_beq]
theorem eqm_dg (ha:arrO P t=some (n, e))(he:intO P e=some .u8)(hs:szO P e=some 1)(hag:aggO P e=some false){a b:List Byte}(la:a.length=n)(lb:b.length=n) :
  eqV P Op.maxDepth t (dg a) (dg b)=some (a == b):=eqV_dg ha he hs hag la lb 9998
theorem ckV_dg (ha:arrO P t=some (n,e))(he:intO P e=some .u8)(hs:szO P e=some 1)(hag:aggO P e=some false){a:List Byte}(la:a.length=n)(d:Nat):ckV P (d+2) t (dg a)=true:=by
 conv=>lhs;unfold ckV
 rw[qKi ha];simp only[hs];refine List.all_eq_true.2 fun i hi=>?_;have hi':=List.mem_range.1 hi;rw[Nat.mul_one,part_u8 hag (by omega)];show ckV P (d+1) e _=true;unfold ckV;rw[qJn he]
theorem set_u8 (x:Byte):((d.map u8).toArray.setIfInBounds i (u8 x))=((d.set i x).map u8).toArray:=by
 rw[List.map_set];simp
end
namespace Sha
def rotr (x:W32)(n:Nat):W32:=(x >>> n) ||| (x <<< (32 - n))
def ktab:List W32:=[1116352408,1899447441,3049323471,3921009573,961987163,1508970993,2453635748,2870763221,3624381080,310598401,607225278,1426881987,1925078388,2162078206,2614888103,3248222580,3835390401,4022224774,264347078,604807628,770255983,1249150122,1555081692,1996064986,2554220882,2821834349,2952996808,3210313671,3336571891,3584528711,113926993,338241895,666307205,773529912,1294757372,1396182291,1695183700,1986661051,2177026350,2456956037,2730485921,2820302411,3259730800,3345764771,3516065817,3600352804,4094571909,275423344,430227734,506948616,659060556,883997877,958139571,1322822218,1537002063,1747873779,1955562222,2024104815,2227730452,2361852424,2428436474,2756734187,3204031479,3329325298]
structure S8 where
 a:W32
 b:W32
 c:W32
 d:W32
 e:W32
 f:W32
 g:W32
 h:W32
def S8.list (s:S8):List W32:=[s.a,s.b,s.c,s.d,s.e,s.f,s.g,s.h]
def init:S8:=⟨1779033703,3144134277,1013904242,2773480762,1359893119,2600822924,528734635,1541459225⟩
def word4 (m:List Byte)(i:Nat):W32 :=
 (m.getD i 0).setWidth 32 <<< 24 ||| (m.getD (i+1) 0).setWidth 32 <<< 16 ||| (m.getD (i+2) 0).setWidth 32 <<< 8 ||| (m.getD (i+3) 0).setWidth 32
def low1 (x:W32):W32:=rotr x 17 ^^^ rotr x 19 ^^^ (x >>> 10)
def low0 (x:W32):W32:=rotr x 7 ^^^ rotr x 18 ^^^ (x >>> 3)
def nextW (l:List W32)(n:Nat):W32:=low1 (l.getD (n - 2) 0)+l.getD (n - 7) 0+low0 (l.getD (n - 15) 0)+l.getD (n - 16) 0
def sch0 (m:List Byte)(k:Nat):List W32:=(zX k).map fun t=>word4 m (4*t)
def sch (m:List Byte):Nat→List W32
 | 0=>sch0 m 16
 | k+1=>sch m k++[nextW (sch m k) (16+k)]
theorem sch_len (m:List Byte):∀ k,(sch m k).length=16+k
 | 0=>by simp[sch,sch0]
 | k+1=>by simp[sch,sch_len m k];omega
def words (m:List Byte):List W32:=sch m 48
theorem qKk (m:List Byte):(words m).length=64:=sch_len m 48
def high1 (x:W32):W32:=rotr x 6 ^^^ rotr x 11 ^^^ rotr x 25
def high0 (x:W32):W32:=rotr x 2 ^^^ rotr x 13 ^^^ rotr x 22
def pick (e f g:W32):W32:=(e &&& f) ^^^ (~~~e &&& g)
def most (a b c:W32):W32:=(a &&& b) ^^^ (a &&& c) ^^^ (b &&& c)
theorem pick_eq (e f g:W32):g ^^^ (e &&& (f ^^^ g))=pick e f g:=by
 apply xI;intro i hi;simp only[pick,xY,xO,BitVec.getLsbD_not,hi,decide_true,Bool.true_and]
 cases e.getLsbD i <;> cases f.getLsbD i <;> cases g.getLsbD i <;> rfl
theorem most_eq (a b c:W32):(a &&& b) ||| (c &&& (a ||| b))=most a b c:=by
 apply xI;intro i hi;simp only[most,xY,xO,BitVec.getLsbD_or]
 cases a.getLsbD i <;> cases b.getLsbD i <;> cases c.getLsbD i <;> rfl
def one (s:S8)(k w:W32):W32:=s.h+high1 s.e+pick s.e s.f s.g+k+w
def rnd (s:S8)(k w:W32):S8:=⟨one s k w+high0 s.a+most s.a s.b s.c,s.a,s.b,s.c,s.d+one s k w,s.e,s.f,s.g⟩
theorem rnd_a (s:S8)(k w:W32):one s k w+(high0 s.a+most s.a s.b s.c)=(rnd s k w).a:=by
 simp only[rnd,BitVec.add_assoc]
def rnds (ws:List W32)(s:S8):Nat→S8
 | 0=>s
 | t+1=>rnd (rnds ws s t) (ktab.getD t 0) (ws.getD t 0)
def plus (s t:S8):S8:=⟨s.a+t.a,s.b+t.b,s.c+t.c,s.d+t.d,s.e+t.e,s.f+t.f,s.g+t.g,s.h+t.h⟩
def comp (s:S8)(m:List Byte):S8:=plus s (rnds (words m) s 64)
def qZt (f:S8→List Byte→S8):Nat→List Byte→S8→S8
 | 0,_,s=>s
 | n+1,l,s=>qZt f n (l.drop 64) (f s (l.take 64))
theorem blocksF_app (f:S8→List Byte→S8):∀ (n:Nat) (l r:List Byte) (s:S8),64*n≤l.length→qZt f n (l++r) s=qZt f n l s
 | 0,_,_,_,_=>rfl
 | n+1,l,r,s,h=>by
  simp only[qZt];rw[List.drop_append_of_le_length (by omega),List.take_append_of_le_length (by omega),blocksF_app f n _ _ _ (by rw[lDr];omega)]
theorem qVe (f:S8→List Byte→S8):∀ (n k:Nat) (l:List Byte) (s:S8),qZt f (n+k) l s=qZt f k (l.drop (64*n)) (qZt f n l s)
 | 0,k,l,s=>by simp[qZt]
 | n+1,k,l,s=>by
  rw[show n+1+k=(n+k)+1 by omega];simp only[qZt];rw[qVe f n k,List.drop_drop,show 64+64*n=64*(n+1) by omega]
theorem blocksF_succ (f:S8→List Byte→S8)(n:Nat)(l:List Byte)(s:S8):qZt f (n+1) l s=f (qZt f n l s) ((l.drop (64*n)).take 64):=by
 rw[qVe f n 1];rfl
def blocks:Nat→List Byte→S8→S8:=qZt comp
def len8 (n:Nat):List Byte:=(zX 8).map fun (i:Nat)=>((BitVec.ofNat 64 (8*n)) >>> (56 - 8*i)).setWidth 8
def fill (n:Nat):Nat:=(119 - n % 64) % 64
def pad (n:Nat):List Byte:=128::List.replicate (fill n) 0++len8 n
theorem pad_len (n:Nat):(pad n).length=fill n+9:=by simp[pad,len8]
theorem pad_mod (n:Nat):(n+(pad n).length) % 64=0:=by rw[pad_len];unfold fill;omega
def out (s:S8):List Byte:=(s.list.map fun (w:W32)=>[(w >>> 24).setWidth 8,(w >>> 16).setWidth 8,(w >>> 8).setWidth 8,w.setWidth 8]).flatten
theorem qZl (s:S8):(out s).length=32:=rfl
def sum (msg:List Byte):List Byte:=out (blocks ((msg.length+(pad msg.length).length) / 64) (msg++pad msg.length) init)
theorem sum_len (m:List Byte):(sum m).length=32:=rfl
end Sha
def cutD (width:Int)(d:List Byte):List Byte:=(zX 32).map fun (i:Nat)=>if ((i:Nat):Int)<width then d.getD i 0 else 0
theorem qXv (width:Int)(d:List Byte):(cutD width d).length=32:=by simp[cutD]
abbrev Bs:=List Byte
def wid (w:Int):Nat:=(max 0 (min w 32)).toNat
theorem wid_le (w:Int):wid w≤32:=by unfold wid;omega
def leafT (k v:Bs):Bs:=0::(k++v)
def qVd (w:Int)(l r:Bs):Bs:=1::(l.take (wid w)++r.take (wid w))
def hcut (w:Int)(t:Bs):Bs:=cutD w (Sha.sum t)
theorem hcut_len (w:Int)(t:Bs):(hcut w t).length=32:=qXv _ _
def leafD (w:Int)(k v:Bs):Bs:=hcut w (leafT k v)
def qXk (w:Int)(l r:Bs):Bs:=hcut w (qVd w l r)
def emptD (w:Int):Nat→Bs
 | 0=>hcut w [2]
 | h+1=>qXk w (emptD w h) (emptD w h)
theorem qZd (w:Int)(k v:Bs):(leafD w k v).length=32:=hcut_len _ _
theorem qXj (w:Int)(l r:Bs):(qXk w l r).length=32:=hcut_len _ _
theorem qQu (w:Int)(h:Nat):(emptD w h).length=32:=by cases h <;> exact hcut_len _ _
def empts (w:Int)(n:Nat):List Bs:=(zX n).map (emptD w)
theorem qXm (w:Int)(n:Nat):(empts w n).length=n:=by simp[empts]
theorem empts_at (w:Int)(n:Nat)(h:i<n):(empts w n)[i]?=some (emptD w i):=by simp[empts,h]
def kbit (k:Bs)(i:Nat):Bool:=(k.getD (i / 8) 0).getLsbD (7 - i % 8)
def up (w:Int)(k:Bs)(h:Nat)(d near:Bs):Bs:=if kbit k (255 - h) then qXk w near d else qXk w d near
theorem up_len (w:Int)(k:Bs)(h:Nat)(d near:Bs):(up w k h d near).length=32:=by unfold up;split <;> exact qXj _ _ _
def climb (w:Int)(k:Bs)(from_:Nat)(d:Bs):List Bs→Bs
 | []=>d
 | n::r=>climb w k (from_+1) (up w k from_ d n) r
theorem qJv (w:Int)(k:Bs):∀ (ns:List Bs) (f:Nat) (d:Bs),d.length=32→(climb w k f d ns).length=32
 | [],_,_,h=>h
 | n::r,f,d,_=>qJv w k r _ _ (up_len _ _ _ _ _)
theorem climb_app (w:Int)(k:Bs):∀ (a b:List Bs) (f:Nat) (d:Bs),climb w k f d (a++b)=climb w k (f+a.length) (climb w k f d a) b
 | [],b,f,d=>by simp[climb]
 | n::a,b,f,d=>by simp only[List.cons_append,climb,climb_app w k a b,List.length_cons];congr 1;omega
def qXr (a b:Bs):Nat→Nat→Nat
 | 0,i=>i
 | n+1,i=>if kbit a i=kbit b i then qXr a b n (i+1) else i
def common (a b:Bs):Nat:=qXr a b 256 0
theorem qZs (a b:Bs):∀ (n i:Nat), i≤qXr a b n i∧qXr a b n i≤i+n∧(∀ j, i≤j→j<qXr a b n i→kbit a j=kbit b j) ∧
  (qXr a b n i<i+n→kbit a (qXr a b n i)≠kbit b (qXr a b n i))
 | 0,i=>⟨xT _,xT _,fun j h1 h2=>by simp only[qXr]at h2;omega,fun h=>by simp only[qXr]at h;omega⟩
 | n+1,i=>by
  simp only[qXr];split
  ·rename_i h
   obtain⟨h1,h2,h3,h4⟩:=qZs a b n (i+1);refine⟨by omega,by omega,fun j hj1 hj2=>?_,fun hh=>h4 (by omega)⟩
   rcases Nat.eq_or_lt_of_le hj1 with rfl | h5
   ·exact h
   ·exact h3 j (by omega) hj2
  ·rename_i h
   exact⟨xT _,by omega,fun j h1 h2=>by omega,fun _=>h⟩
theorem common_le (a b:Bs):common a b≤256:=by have:=(qZs a b 256 0).2.1;unfold common;omega
theorem common_same {a b:Bs}{j:Nat}(h:j<common a b):kbit a j=kbit b j:=(qZs a b 256 0).2.2.1 j (by omega) h
theorem common_diff {a b:Bs}(h:common a b<256):kbit a (common a b)≠kbit b (common a b):=(qZs a b 256 0).2.2.2 (by unfold common at h;omega)
theorem common_is {a b:Bs}(h1:∀ j,j<n→kbit a j=kbit b j)(h2:n<256→kbit a n≠kbit b n)(h3:n≤256):common a b=n:=by
 rcases Nat.lt_trichotomy (common a b) n with h | h | h
 ·exact absurd (h1 _ h) (common_diff (by omega))
 ·exact h
 ·exact absurd (common_same h) (h2 (by have:=common_le a b;omega))
theorem byte_ext {x y:Byte}(h:∀ j,j<8→x.getLsbD (7 - j)=y.getLsbD (7 - j)):x=y:=by
 apply xI;intro i hi;have:=h (7 - i) (by omega)
 rwa [show 7 - (7 - i)=i by omega]at this
theorem key_ext {a b:Bs}(ha:a.length=32)(hb:b.length=32)(h:∀ j,j<256→kbit a j=kbit b j):a=b:=by
 refine List.ext_getElem (by omega) fun i h1 h2=>?_;refine byte_ext fun j hj=>?_;have:=h (8*i+j) (by omega);unfold kbit at this;rw[show (8*i+j) / 8=i by omega,show (8*i+j) % 8=j by omega,qQw _ h1,qQw _ h2]at this;exact this
theorem common_full {a b:Bs}(ha:a.length=32)(hb:b.length=32):common a b=256 ↔ a=b:=by
 constructor
 ·intro h;exact key_ext ha hb fun j hj=>common_same (by omega)
 ·rintro rfl;exact common_is (fun _ _=>rfl) (fun h=>absurd h (by omega)) (xT _)
def klt (a b:Bs):Prop:=common a b<256∧kbit a (common a b)=false∧kbit b (common a b)=true
end Go.V
