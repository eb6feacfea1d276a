/- Helpers. -/
import Derived.Laws.MakeOwn
import Derived.Test.YtppmpdjlmgfdkaaGreatDoorB06
import Derived.Test.YtppmpdjlmgfdkaaGreatDoorB05
set_option linter.all false
set_option maxRecDepth 100000
set_option maxHeartbeats 8000000
open BitVec renaming eq_of_getLsbD_eq->xS,getLsbD_xor->xG,getLsbD_and->xA
open Go.Builtin renaming firstCells->xB
open List renaming getElem?_eq_getElem->xE,range->qI,getElem?_toArray->xI,getElem?_take->xO
open Nat renaming mul_le_mul_right->xR,le_refl->xC
open Option renaming map_some->qK,bind_some->qV
namespace Go.V
variable {ts:Array TypeId} {d:List Byte} {cells:List Value} {by' e i m n sz t:Nat} {x z:Value} {w:World}
section
variable {P:Program}
structure Nw (w0 w:World) (e sz:Nat) (v:Value) (n:Nat) (cs:List Value):Prop where
 own:OwnO w e sz v n cs
 new:∀ b,qQc v=some b->w0.heap.size<=b
section
variable {w0 w w':World} {e sz n:Nat} {v:Value} {cs:List Value}
theorem Nw.nil (w0 w:World)(e sz:Nat):Nw w0 w e sz (.slice none 0 0) 0 []:=⟨OwnO.nil _ _ _,fun _ h=>by cases h⟩
theorem Nw.fr {F:Nat->Prop}(h:Nw w0 w e sz v n cs)(k:Fr F w w')(B:∀ b,qQc v=some b->¬ F b):Nw w0 w' e sz v n cs :=
 ⟨h.own.frame fun b A=>k.blk b (h.own.lt A) (B b A),h.new⟩
theorem Nw.fr0 (h:Nw w0 w e sz v n cs)(k:No w w'):Nw w0 w' e sz v n cs:=h.fr k fun _ _ h=>h
theorem Nw.rd (h:Nw w0 w e sz v n cs):Rd w sz v n cs:=h.own.rd
theorem Nw.back {u:World}(h:Nw w0 w e sz v n cs)(A:u.heap.size<=w0.heap.size):Nw u w e sz v n cs:=⟨h.own,fun b B=>Nat.le_trans A (h.new b B)⟩
end
structure AppT (P:Program) (ts:Array TypeId) (e sz by':Nat) (z:Value):Prop where
 ex:∃ t t',ts[0]?=some t/\ts[1]?=some t'/\slcO P t=some e/\intO P t'=none/\(P.underlying t').isSome=true
 hsz:szO P e=some sz
 hby:byO P e=some by'
 hz:zeroO P e=some z
 hzs:z.cells.size=sz
theorem app_nw {w0 w:World}(ht:AppT P ts e sz by' z){v:Value}{cs:List Value}(V:Nw w0 w e sz v n cs)
  {news:List Value} (hx:Rd w sz x m news) (I:news.all one=true) (J:0<sz)
  (a0:∀ cap,n<=cap->cap<n+m->Builtin.nextslicecap (n+m) cap*by'<=2 ^ 48) (L:n+m<=9223372036854775807) (hw:w0.heap.size<=w.heap.size) :
  ∃ M w',(Builtin.append_ ts 0 #[v,x]).run P w=.ok M w'/\Nw w0 w' e sz M (n+m) (cs++news)/\Fr (fun b=>qQc v=some b) w w' /\
   ∀ b,qQc M=some b->qQc v=some b∨w.heap.size<=b:=by
 obtain⟨⟨t,t',h0,W,hs,hi,N⟩,hsz,hby,hz,hzs⟩:=ht
 rcases Nat.eq_zero_or_pos m with rfl | hm
 ·obtain⟨hl,xa,xc,rfl,a3,_⟩:=hx
  have a4:news=[]:=List.eq_nil_of_length_eq_zero om;subst a4
  have key:∃ ba cap,v=.slice ba n cap/\n<=cap:=by
   rcases V.own with ⟨rfl,rfl,_⟩ | ⟨b,o,cap,c,rfl,_,_,h,_⟩
   ·exact⟨none,0,rfl,xC _⟩
   ·exact⟨_,_,rfl,h⟩
  obtain⟨ba,cap,rfl,O⟩:=key;refine⟨_,w,run_app_zero (P:=P) h0 W hs hi N hsz O,?_,Fr.refl _ _,fun b H=>.inl H⟩;rw[List.append_nil];exact V
 ·obtain⟨hl,xa,xc,rfl,a3,a5⟩:=hx
  have B:0<m*sz:=Nat.mul_pos hm J;obtain⟨b,o,rfl,E⟩:=a5 B
  have hrow:∃ (c:Array Value) (Y:TypeId) (Z:Nat × Nat),w.heap[b]?=some (.cells c Y Z):=by
   have h:=E 0 B;rw[xE om]at h;obtain⟨c,Y,Z,W,_⟩:=rc_row h;exact⟨c,Y,Z,W⟩
  obtain⟨c,Y,Z,hc⟩:=hrow;have R:∀ i,i<m*sz->c[o+i]?=news[i]?:=fun i hi=>by rw[<- qXe hc];exact E i hi
  have A:o+m*sz<=c.size:=by
   have h:=R (m*sz - 1) om;rw[xE om]at h;have:=(Array.getElem?_eq_some_iff.1 h).1;omega
  obtain⟨M,w',hr,r⟩:=app_o (P:=P) h0 W hs hi N hsz hby hz hzs V.own hc A (get_extract hl A R) I a0 L hm;obtain⟨b',T,U⟩:=r.blk;refine⟨M,w',hr,⟨r.own,fun b H=>?_⟩,r.fr,fun b H=>?_⟩
  ·rw[T]at H;cases H
   rcases U with h | h
   ·exact V.new _ h
   ·omega
  ·rw[T]at H;cases H;exact U
theorem run_mk (I:slcO P t=some e)(hsz:szO P e=some sz)(hby:byO P e=some by')(A:zeroO P e=some z){l c:Nat}(J:l<=c)(M:by'*c<=2 ^ 48)(L:c<=9223372036854775807)(E H:IntKind)(w:World) :
  (Instr.makeSlice t (.int E (l:Int)) (.int H (c:Int))).run P w=.ok (.slice (some ⟨w.heap.size,0,none⟩) l c) (w.alloc (.cells (madeCells z.cells (c*sz)) e)):=by
 unfold szO at hsz;unfold byO at hby;unfold zeroO at A
 cases hi:P.info? e with
 | none=>simp[hi]at hsz
 | some i =>
  simp only[hi,qK,oSi,qV]at hsz hby A
  subst hsz hby
  have B:(i.bytes:Int)*(c:Int)<=281474976710656:=by
   have h:((i.bytes*c:Nat):Int)<=281474976710656:=om
   rwa [Int.natCast_mul]at h
  have:=run_make (P:=P) w t e i z (qZe I) hi A E H (l:Int) (c:Int) om om B om;simpa using this
theorem madeCells_rep (z:Value)(k n:Nat)(A:0<k):madeCells (Array.replicate k z) n=Array.replicate n z:=by
 apply Array.ext_getElem?;intro i;simp only[madeCells,Array.getElem?_map,Array.getElem?_range,Array.getElem?_replicate];split
 ·simp[Nat.mod_lt _ A]
 ·rfl
theorem mk_nw (w0 w:World)(e sz l c:Nat)(cells:Array Value)(H:w0.heap.size<=w.heap.size)(I:cells.size=c*sz)(A:l<=c) :
  Nw w0 (w.alloc (.cells cells e)) e sz (.slice (some ⟨w.heap.size,0,none⟩) l c) l (cells.toList.take (l*sz)):=by
 have B:l*sz<=c*sz:=xR sz A;refine⟨.inr ⟨w.heap.size,0,c,cells,rfl,qQb _ _,om,A,by rw[lTk,Array.length_toList];omega,fun i hi=>?_⟩,fun b E=>?_⟩
 ·rw[xO,if_pos hi,Array.getElem?_toList,Nat.zero_add]
 ·simp only[qQc,oSi]at E;omega
theorem rd_first {sz m k:Nat}(M:Rd w sz x m cells)(N:k<=m):(xB sz k x).run P w=.ok (cells.take (k*sz)).toArray w:=by
 obtain⟨U,xa,xc,rfl,O,J⟩:=M;have R:k*sz<=m*sz:=xR sz N
 rcases Nat.eq_zero_or_pos (k*sz) with h0 | h0
 ·rw[h0,List.take_zero]
  cases xa with
  | none=>rfl
  | some a=>simp only[xB,h0];rfl
 ·obtain⟨b,o,rfl,B⟩:=J om
  have hrow:∃ (c:Array Value) (H:TypeId) (I:Nat × Nat),w.heap[b]?=some (.cells c H I):=by
   have h:=B 0 om;rw[xE om]at h;obtain⟨c,H,I,T,_⟩:=rc_row h;exact⟨c,H,I,T⟩
  obtain⟨c,H,I,L⟩:=hrow
  have E:∀ i,i<k*sz->c[o+i]?=(cells.take (k*sz))[i]?:=fun i hi=>by
   rw[<- qXe L,B i om,xO,if_pos hi]
  have A:o+k*sz<=c.size:=by
   have h:=E (k*sz - 1) om;rw[xE (by rw[lTk];omega)]at h;have:=(Array.getElem?_eq_some_iff.1 h).1;omega
  have:=qKn (P:=P) L A;simp only[xB,this]
  congr 1
  apply Array.toList_inj.1;exact get_extract (by rw[lTk];omega) A E
theorem rd_len (A:Rd w sz x m cells):(Builtin.lenOf x).run P w=.ok m w:=by
 obtain⟨H,xa,xc,rfl,B,E⟩:=A
 rfl
theorem run_copy (J:ts[0]?=some t)(L:slcO P t=some e)(hsz:szO P e=some sz){b o dn dc E:Nat}{c:Array Value}(hrow:w.heap[b]?=some (.cells c E (0, 0)))
  (H:Rd w sz x m cells) (B:cells.all one=true) (I:o+min m dn*sz<=c.size) :
  (Builtin.copy_ ts 0 #[.slice (some ⟨b,o,none⟩) dn dc,x]).run P w=.ok (.int .i64 (min m dn:Nat)) (put w b (.cells (qXz (cells.take (min m dn*sz)) o c) E (0,0))):=by
 have M:(#[Value.slice (some ⟨b,o,none⟩) dn dc,x]:Array Value)[0]?=some (.slice (some ⟨b,o,none⟩) dn dc):=rfl;have a1:(#[Value.slice (some ⟨b,o,none⟩) dn dc,x]:Array Value)[1]?=some x:=rfl;have R:=H.1;have N:min m dn*sz<=m*sz:=xR sz (Nat.min_le_left _ _)
 have A:=qKz (P:=P) (cells.take (min m dn*sz)) w b o 0 c E hrow (by rw[lTk];omega) (by
  rw[List.all_eq_true]at *;intro u O;exact B u (List.mem_of_mem_take O))
 rw[Nat.add_zero]at A;simp only[Builtin.copy_,J,M,a1,Sem.run_bind,r_und (qZe L),Result.andThen_ok,rd_len H,qZd hsz,Nat.min_def]at A ⊢;rw[show (if m<=dn then m else dn)=min m dn from rfl]at A ⊢;simp only[rd_first H (Nat.min_le_left m dn),Result.andThen_ok,A,Sem.run_pure,goInt]
abbrev dg (d:List Byte):Value:=.agg (d.map u8).toArray
theorem qXs (d:List Byte):(d.map u8).all one=true:=by simp[one]
theorem u8s_all (d:List Byte):(d.map u8).toArray.all one=true:=by rw[<- Array.all_toList];exact qXs d
theorem dg_size (d:List Byte):(d.map u8).toArray.size=d.length:=sm
theorem rd_dg {b o:Nat}(A:aggO P t=some true)(B:szO P t=some n)(E:d.length=n)(H:0<n)(h:∀ i, i<n->rc w b (o+i)=(d.map u8)[i]?) :
  rdO P t w b o=some (dg d):=rd_rcs A B (by rw[dg_size,E]) H fun i hi=>by rw[h i hi,xI]
theorem mapM_is {α A:Type}{f:α->Option A}{g:α->A}:∀ {l:List α},(∀ i ∈ l,f i=some (g i))->l.mapM f=some (l.map g)
 | [],_=>rfl
 | x::l,h=>by rw[List.mapM_cons,h x sm,mapM_is (l:=l) fun i hi=>h i (by simp[hi])];rfl
theorem qQt {α:Type}{l:List α}(d:α)(h:i<l.length):l.getD i d=l[i]:=by
 rw[gDq,xE h];rfl
theorem u8_at (h:i<d.length):(d.map u8).toArray[i]?=some (u8 (d.getD i 0)):=by
 rw[xI,List.getElem?_map,xE h,qK,qQt _ h]
theorem part_u8 (A:aggO P e=some false)(h:i<d.length):partO P e (d.map u8).toArray i=some (u8 (d.getD i 0)):=by
 simp only[partO,A,u8_at h]
theorem u8_beq (a b:Byte):((a.toNat:Int) == (b.toNat:Int))=(a == b):=by
 by_cases h:a=b
 ·subst h;simp
 ·have:¬ a.toNat=b.toNat:=fun e=>h (BitVec.eq_of_toNat_eq e)
  rw[show (a == b)=false by simpa using h]
  simp;exact_mod_cast this
theorem all_beq {a b:List Byte}(h:a.length=b.length):((qI a.length).map fun i=>a.getD i 0 == b.getD i 0).all id=(a == b):=by
 by_cases A:a=b
 ·subst A;simp
 ·rw[show (a == b)=false by simpa using A,Bool.eq_false_iff]
  intro E;refine A (List.ext_getElem h fun i B H=>?_);have:=List.all_eq_true.1 E (a.getD i 0 == b.getD i 0) (List.mem_map.2 ⟨i,List.mem_range.2 B,rfl⟩);rw[qQt _ B,qQt _ H]at this;simpa using this
theorem eqV_dg (E:arrO P t=some (n, e))(H:intO P e=some .u8)(I:szO P e=some 1)(A:aggO P e=some false){a b:List Byte}(J:a.length=n)(L:b.length=n)(d:Nat) :
  eqV P (d+2) t (dg a) (dg b)=some (a == b):=by
 conv=>lhs;unfold eqV
 rw[qVj E];simp only[I,qV];subst J;rw[mapM_is (g:=fun i=>a.getD i 0 == b.getD i 0)]
 ·rw[qK,all_beq L.symm]
 ·intro i hi
  have B:=List.mem_range.1 hi;rw[Nat.mul_one,part_u8 A B,part_u8 A om];show eqV P (d+1) e (u8 _) (u8 _)=_;unfold eqV;rw[qJe H];simp only[if_true,u8_beq]
theorem eqm_dg (B:arrO P t=some (n, e))(E:intO P e=some .u8)(H:szO P e=some 1)(A:aggO P e=some false){a b:List Byte}(I:a.length=n)(J:b.length=n) :
  eqV P Op.maxDepth t (dg a) (dg b)=some (a == b):=eqV_dg B E H A I J 9998
theorem ckV_dg (B:arrO P t=some (n,e))(E:intO P e=some .u8)(H:szO P e=some 1)(A:aggO P e=some false){a:List Byte}(J:a.length=n)(d:Nat):ckV P (d+2) t (dg a)=true:=by
 conv=>lhs;unfold ckV
 rw[qVj B];simp only[H];refine List.all_eq_true.2 fun i hi=>?_;have I:=List.mem_range.1 hi;rw[Nat.mul_one,part_u8 A om];show ckV P (d+1) e _=true;unfold ckV;rw[qJe E]
theorem set_u8 (x:Byte):((d.map u8).toArray.setIfInBounds i (u8 x))=((d.set i x).map u8).toArray:=by
 rw[List.map_set];simp
end
namespace Sha
def rotr (x:W32)(n:Nat):W32:=(x >>> n) ||| (x <<< (32 - n))
def ktab:List W32:=[1116352408,1899447441,3049323471,3921009573,961987163,1508970993,2453635748,2870763221,3624381080,310598401,607225278,1426881987,1925078388,2162078206,2614888103,3248222580,3835390401,4022224774,264347078,604807628,770255983,1249150122,1555081692,1996064986,2554220882,2821834349,2952996808,3210313671,3336571891,3584528711,113926993,338241895,666307205,773529912,1294757372,1396182291,1695183700,1986661051,2177026350,2456956037,2730485921,2820302411,3259730800,3345764771,3516065817,3600352804,4094571909,275423344,430227734,506948616,659060556,883997877,958139571,1322822218,1537002063,1747873779,1955562222,2024104815,2227730452,2361852424,2428436474,2756734187,3204031479,3329325298]
structure S8 where
 a:W32
 b:W32
 c:W32
 d:W32
 e:W32
 f:W32
 g:W32
 h:W32
def S8.list (s:S8):List W32:=[s.a,s.b,s.c,s.d,s.e,s.f,s.g,s.h]
def init:S8:=⟨1779033703,3144134277,1013904242,2773480762,1359893119,2600822924,528734635,1541459225⟩
def word4 (m:List Byte)(i:Nat):W32 :=
 (m.getD i 0).setWidth 32 <<< 24 ||| (m.getD (i+1) 0).setWidth 32 <<< 16 ||| (m.getD (i+2) 0).setWidth 32 <<< 8 ||| (m.getD (i+3) 0).setWidth 32
def low1 (x:W32):W32:=rotr x 17 ^^^ rotr x 19 ^^^ (x >>> 10)
def low0 (x:W32):W32:=rotr x 7 ^^^ rotr x 18 ^^^ (x >>> 3)
def nextW (l:List W32)(n:Nat):W32:=low1 (l.getD (n - 2) 0)+l.getD (n - 7) 0+low0 (l.getD (n - 15) 0)+l.getD (n - 16) 0
def sch0 (m:List Byte)(k:Nat):List W32:=(qI k).map fun t=>word4 m (4*t)
def sch (m:List Byte):Nat->List W32
 | 0=>sch0 m 16
 | k+1=>sch m k++[nextW (sch m k) (16+k)]
theorem sch_len (m:List Byte):∀ k,(sch m k).length=16+k
 | 0=>by simp[sch,sch0]
 | k+1=>by simp[sch,sch_len m k];omega
def words (m:List Byte):List W32:=sch m 48
theorem qVl (m:List Byte):(words m).length=64:=sch_len m 48
def high1 (x:W32):W32:=rotr x 6 ^^^ rotr x 11 ^^^ rotr x 25
def high0 (x:W32):W32:=rotr x 2 ^^^ rotr x 13 ^^^ rotr x 22
def pick (e f g:W32):W32:=(e &&& f) ^^^ (~~~e &&& g)
def most (a b c:W32):W32:=(a &&& b) ^^^ (a &&& c) ^^^ (b &&& c)
theorem pick_eq (e f g:W32):g ^^^ (e &&& (f ^^^ g))=pick e f g:=by
 apply xS;intro i hi;simp only[pick,xG,xA,BitVec.getLsbD_not,hi,decide_true,Bool.true_and]
 cases e.getLsbD i <;> cases f.getLsbD i <;> cases g.getLsbD i <;> rfl
theorem most_eq (a b c:W32):(a &&& b) ||| (c &&& (a ||| b))=most a b c:=by
 apply xS;intro i hi;simp only[most,xG,xA,BitVec.getLsbD_or]
 cases a.getLsbD i <;> cases b.getLsbD i <;> cases c.getLsbD i <;> rfl
def one (s:S8)(k w:W32):W32:=s.h+high1 s.e+pick s.e s.f s.g+k+w
def rnd (s:S8)(k w:W32):S8:=⟨one s k w+high0 s.a+most s.a s.b s.c,s.a,s.b,s.c,s.d+one s k w,s.e,s.f,s.g⟩
theorem rnd_a (s:S8)(k w:W32):one s k w+(high0 s.a+most s.a s.b s.c)=(rnd s k w).a:=by
 simp only[rnd,BitVec.add_assoc]
def rnds (A:List W32)(s:S8):Nat->S8
 | 0=>s
 | t+1=>rnd (rnds A s t) (ktab.getD t 0) (A.getD t 0)
def plus (s t:S8):S8:=⟨s.a+t.a,s.b+t.b,s.c+t.c,s.d+t.d,s.e+t.e,s.f+t.f,s.g+t.g,s.h+t.h⟩
def comp (s:S8)(m:List Byte):S8:=plus s (rnds (words m) s 64)
def qJg (f:S8->List Byte->S8):Nat->List Byte->S8->S8
 | 0,_,s=>s
 | n+1,l,s=>qJg f n (l.drop 64) (f s (l.take 64))
theorem blocksF_app (f:S8->List Byte->S8):∀ (n:Nat) (l r:List Byte) (s:S8),64*n<=l.length->qJg f n (l++r) s=qJg f n l s
 | 0,_,_,_,_=>rfl
 | n+1,l,r,s,h=>by
  simp only[qJg];rw[List.drop_append_of_le_length om,List.take_append_of_le_length om,blocksF_app f n _ _ _ (by rw[lDr];omega)]
theorem qWc (f:S8->List Byte->S8):∀ (n k:Nat) (l:List Byte) (s:S8),qJg f (n+k) l s=qJg f k (l.drop (64*n)) (qJg f n l s)
 | 0,k,l,s=>by simp[qJg]
 | n+1,k,l,s=>by
  rw[show n+1+k=(n+k)+1 by omega];simp only[qJg];rw[qWc f n k,List.drop_drop,show 64+64*n=64*(n+1) by omega]
theorem blocksF_succ (f:S8->List Byte->S8)(n:Nat)(l:List Byte)(s:S8):qJg f (n+1) l s=f (qJg f n l s) ((l.drop (64*n)).take 64):=by
 rw[qWc f n 1];rfl
def blocks:Nat->List Byte->S8->S8:=qJg comp
def len8 (n:Nat):List Byte:=(qI 8).map fun (i:Nat)=>((BitVec.ofNat 64 (8*n)) >>> (56 - 8*i)).setWidth 8
def fill (n:Nat):Nat:=(119 - n % 64) % 64
def pad (n:Nat):List Byte:=128::List.replicate (fill n) 0++len8 n
theorem pad_len (n:Nat):(pad n).length=fill n+9:=by simp[pad,len8]
theorem pad_mod (n:Nat):(n+(pad n).length) % 64=0:=by rw[pad_len];unfold fill;omega
def out (s:S8):List Byte:=(s.list.map fun (w:W32)=>[(w >>> 24).setWidth 8,(w >>> 16).setWidth 8,(w >>> 8).setWidth 8,w.setWidth 8]).flatten
theorem qZx (s:S8):(out s).length=32:=rfl
def sum (A:List Byte):List Byte:=out (blocks ((A.length+(pad A.length).length) / 64) (A++pad A.length) init)
theorem sum_len (m:List Byte):(sum m).length=32:=rfl
end Sha
def cutD (width:Int)(d:List Byte):List Byte:=(qI 32).map fun (i:Nat)=>if ((i:Nat):Int)<width then d.getD i 0 else 0
theorem qZi (width:Int)(d:List Byte):(cutD width d).length=32:=by simp[cutD]
abbrev Bs:=List Byte
def wid (w:Int):Nat:=(max 0 (min w 32)).toNat
theorem wid_le (w:Int):wid w<=32:=by unfold wid;omega
def leafT (k v:Bs):Bs:=0::(k++v)
def qWb (w:Int)(l r:Bs):Bs:=1::(l.take (wid w)++r.take (wid w))
def hcut (w:Int)(t:Bs):Bs:=cutD w (Sha.sum t)
theorem hcut_len (w:Int)(t:Bs):(hcut w t).length=32:=qZi _ _
def leafD (w:Int)(k v:Bs):Bs:=hcut w (leafT k v)
def qXd (w:Int)(l r:Bs):Bs:=hcut w (qWb w l r)
def emptD (w:Int):Nat->Bs
 | 0=>hcut w [2]
 | h+1=>qXd w (emptD w h) (emptD w h)
theorem qZp (w:Int)(k v:Bs):(leafD w k v).length=32:=hcut_len _ _
theorem qXm (w:Int)(l r:Bs):(qXd w l r).length=32:=hcut_len _ _
theorem qQv (w:Int)(h:Nat):(emptD w h).length=32:=by cases h <;> exact hcut_len _ _
def empts (w:Int)(n:Nat):List Bs:=(qI n).map (emptD w)
theorem qQz (w:Int)(n:Nat):(empts w n).length=n:=by simp[empts]
theorem qVe (w:Int)(n:Nat)(h:i<n):(empts w n)[i]?=some (emptD w i):=by simp[empts,h]
def kbit (k:Bs)(i:Nat):Bool:=(k.getD (i / 8) 0).getLsbD (7 - i % 8)
def up (w:Int)(k:Bs)(h:Nat)(d near:Bs):Bs:=if kbit k (255 - h) then qXd w near d else qXd w d near
theorem up_len (w:Int)(k:Bs)(h:Nat)(d near:Bs):(up w k h d near).length=32:=by unfold up;split <;> exact qXm _ _ _
def climb (w:Int)(k:Bs)(A:Nat)(d:Bs):List Bs->Bs
 | []=>d
 | n::r=>climb w k (A+1) (up w k A d n) r
theorem qKt (w:Int)(k:Bs):∀ (A:List Bs) (f:Nat) (d:Bs),d.length=32->(climb w k f d A).length=32
 | [],_,_,h=>h
 | n::r,f,d,_=>qKt w k r _ _ (up_len _ _ _ _ _)
theorem climb_app (w:Int)(k:Bs):∀ (a b:List Bs) (f:Nat) (d:Bs),climb w k f d (a++b)=climb w k (f+a.length) (climb w k f d a) b
 | [],b,f,d=>by simp[climb]
 | n::a,b,f,d=>by simp only[List.cons_append,climb,climb_app w k a b,List.length_cons];congr 1;omega
def qZf (a b:Bs):Nat->Nat->Nat
 | 0,i=>i
 | n+1,i=>if kbit a i=kbit b i then qZf a b n (i+1) else i
def common (a b:Bs):Nat:=qZf a b 256 0
theorem qJf (a b:Bs):∀ (n i:Nat), i<=qZf a b n i/\qZf a b n i<=i+n/\(∀ j, i<=j->j<qZf a b n i->kbit a j=kbit b j) /\
  (qZf a b n i<i+n->kbit a (qZf a b n i)≠kbit b (qZf a b n i))
 | 0,i=>⟨xC _,xC _,fun j H A=>by simp only[qZf]at A;omega,fun h=>by simp only[qZf]at h;omega⟩
 | n+1,i=>by
  simp only[qZf];split
  ·rename_i h
   obtain⟨H,A,I,J⟩:=qJf a b n (i+1);refine⟨om,om,fun j B E=>?_,fun L=>J om⟩
   rcases Nat.eq_or_lt_of_le B with rfl | h5
   ·exact h
   ·exact I j om E
  ·rename_i h
   exact⟨xC _,om,fun j H A=>by omega,fun _=>h⟩
theorem common_le (a b:Bs):common a b<=256:=by have:=(qJf a b 256 0).2.1;unfold common;omega
theorem qXp {a b:Bs}{j:Nat}(h:j<common a b):kbit a j=kbit b j:=(qJf a b 256 0).2.2.1 j om h
theorem qKs {a b:Bs}(h:common a b<256):kbit a (common a b)≠kbit b (common a b):=(qJf a b 256 0).2.2.2 (by unfold common at h;omega)
theorem qKr {a b:Bs}(A:∀ j,j<n->kbit a j=kbit b j)(B:n<256->kbit a n≠kbit b n)(E:n<=256):common a b=n:=by
 rcases Nat.lt_trichotomy (common a b) n with h | h | h
 ·exact absurd (A _ h) (qKs om)
 ·exact h
 ·exact absurd (qXp h) (B (by have:=common_le a b;omega))
theorem common_symm (a b:Bs):common a b=common b a :=
 (qKr (fun j A=>(qXp A).symm) (fun h=>(qKs h).symm) (common_le a b)).symm
theorem byte_ext {x y:Byte}(h:∀ j,j<8->x.getLsbD (7 - j)=y.getLsbD (7 - j)):x=y:=by
 apply xS;intro i hi;have:=h (7 - i) om
 rwa [show 7 - (7 - i)=i by omega]at this
theorem key_ext {a b:Bs}(E:a.length=32)(H:b.length=32)(h:∀ j,j<256->kbit a j=kbit b j):a=b:=by
 refine List.ext_getElem om fun i A B=>?_;refine byte_ext fun j I=>?_;have:=h (8*i+j) om;unfold kbit at this;rw[show (8*i+j) / 8=i by omega,show (8*i+j) % 8=j by omega,qQt _ A,qQt _ B]at this;exact this
theorem common_full {a b:Bs}(A:a.length=32)(B:b.length=32):common a b=256 ↔ a=b:=by
 constructor
 ·intro h;exact key_ext A B fun j E=>qXp om
 ·rintro rfl;exact qKr (fun _ _=>rfl) (fun h=>absurd h om) (xC _)
def klt (a b:Bs):Prop:=common a b<256/\kbit a (common a b)=false/\kbit b (common a b)=true
theorem qZl (a:Bs):¬ klt a a:=fun h=>by have:=h.2.1.symm.trans h.2.2;cases this
theorem qJz {a b c:Bs}(h:klt a b)(k:klt b c):klt a c:=by
 obtain⟨J,H,A⟩:=h;obtain⟨L,B,I⟩:=k
 rcases Nat.lt_trichotomy (common a b) (common b c) with hh | hh | hh
 ·have e:common a c=common a b:=qKr (fun j E=>(qXp E).trans (qXp om)) (fun _=>by rw[H,<- qXp hh,A];decide) om
  exact⟨om,by rw[e];exact H,by rw[e,<- qXp hh];exact A⟩
 ·rw[hh]at A;rw[A]at B;cases B
 ·have e:common a c=common b c:=qKr (fun j E=>(qXp om).trans (qXp E)) (fun _=>by rw[qXp hh,B,I];decide) om
  exact⟨om,by rw[e,qXp hh];exact B,by rw[e];exact I⟩
theorem klt_total {a b:Bs}(I:a.length=32)(J:b.length=32)(h:a≠b):klt a b∨klt b a:=by
 have H:common a b<256:=by
  have:=common_le a b;have L:common a b≠256:=fun e=>h ((common_full I J).1 e);omega
 have A:=qKs H
 cases B:kbit a (common a b) <;> cases E:kbit b (common a b)
 ·rw[B,E]at A;exact absurd rfl A
 ·exact .inl ⟨H,B,E⟩
 ·refine .inr ⟨?_,?_,?_⟩ <;> rw[common_symm b a]
  ·exact H
  ·exact E
  ·exact B
 ·rw[B,E]at A;exact absurd rfl A
end Go.V
