/- Helpers. -/
import Derived.RowKit3
import Derived.Test.YtppmpdjlmgfdkaaGreatDoorB05
import Derived.Test.YtppmpdjlmgfdkaaGreatDoorB03
set_option linter.all false
set_option maxRecDepth 100000
set_option maxHeartbeats 8000000
open Array renaming getElem?_eq_getElem->qD,getElem?_extract->xJ,getElem?_toList->xK,size_append->xV
open BitVec renaming ofInt_natCast->xW,setWidth_eq->xY,ofNat_toNat->xU,ofInt->qQ,getLsbD_xor->xG,toNat_setWidth->xF
open Bool renaming false_eq_true->qP,not_false->xH
open Go.Builtin renaming firstCells->xB,nextslicecap->xD,append_->qC,growBy->xM,zeroCells->xN,lenOf->xP
open Nat renaming mul_le_mul_right->xR,lt_of_lt_of_le->xT,add_mul->xL,le_refl->xC
open Go.Result renaming andThen_ok->qY
open Go.Sem renaming run_bind->qU,run_pure->qG
namespace Go.V
variable {ts:Array TypeId} {c:Array Value} {l:List Int} {cs:List Value} {b cap m n o sz xc:Nat} {fz:Nat × Nat} {F G:Nat->Prop} {a ba xa:Option Addr} {e:TypeId} {v z:Value} {w w' w1 w2:World}
section
open Go.RowKit
variable {P:Program}
structure Fr (F:Nat->Prop) (w w':World):Prop where
 os:w'.os=w.os
 out:w'.output=w.output
 size:w.heap.size<=w'.heap.size
 blk:∀ b,b<w.heap.size->¬ F b->w'.heap[b]?=w.heap[b]?
 thaw:∀ b,b<w.heap.size->Thawed w b->Thawed w' b
theorem Fr.refl (F:Nat->Prop)(w:World):Fr F w w:=⟨rfl,rfl,xC _,fun _ _ _=>rfl,fun _ _ h=>h⟩
theorem Fr.mono (h:Fr F w w')(E:∀ b,b<w.heap.size->F b->G b):Fr G w w':=⟨h.os,h.out,h.size,fun b B H=>h.blk b B fun A=>H (E b B A),h.thaw⟩
theorem Fr.trans (h:Fr F w w1)(k:Fr F w1 w2):Fr F w w2 :=
 ⟨k.os.trans h.os,k.out.trans h.out,Nat.le_trans h.size k.size,fun b A B=>(k.blk b (xT A h.size) B).trans (h.blk b A B),fun b A E=>k.thaw b (xT A h.size) (h.thaw b A E)⟩
theorem Fr.trans' (h:Fr F w w1)(k:Fr G w1 w2)(E:∀ b,b<w.heap.size->G b->F b):Fr F w w2 :=
 ⟨k.os.trans h.os,k.out.trans h.out,Nat.le_trans h.size k.size,fun b A B=>(k.blk b (xT A h.size) (fun H=>B (E b A H))).trans (h.blk b A B),fun b A I=>k.thaw b (xT A h.size) (h.thaw b A I)⟩
theorem Fr.drew (h:Fr F w w'):Fr F w w'.drew:=⟨h.os,h.out,h.size,h.blk,h.thaw⟩
theorem Fr.put {F:Nat->Prop}{w w':World}(h:Fr F w w'){b:Nat}(o:Obj)(B:b<w.heap.size->F b)(H:fzO o=false:=by first | rfl | exact putE_fz as_ | exact delE_fz as_):Fr F w (put w' b o) :=
 ⟨h.os,h.out,by rw[put_heap_size];exact h.size,fun I A E=>by
  rw[qVt _ (fun e=>E (by subst e;exact B A))];exact h.blk I A E,fun b B J=>thaw_put H (h.thaw b B J)⟩
theorem Fr.alloc (h:Fr F w w')(o:Obj)(B:fzO o=false:=by rfl):Fr F w (w'.alloc o) :=
 ⟨h.os,h.out,by rw[qQf];have:=h.size;omega,fun E A H=>by
  rw[qJh _ _ (xT A h.size)];exact h.blk E A H,fun b I J=>thaw_alloc B (h.thaw b I J)⟩
theorem r_forPush (B:Value->ByteArray->Sem (ForInStep ByteArray))(w:World)(A:∀ n s, (B (.int .u8 n) s).run P w=.ok (.yield (s.push (UInt8.ofNat n.toNat))) w) :
  ∀ (l:List Int) (s:ByteArray),(forIn (m:=Sem) (l.map (Value.int .u8)) s B).run P w=.ok (l.foldl (fun s n=>s.push (UInt8.ofNat n.toNat)) s) w
 | [],s=>by simp
 | n::l,s=>by
  simp only[List.map_cons,List.forIn_cons,qU,A,qY,List.foldl_cons];exact r_forPush B w A l _
theorem push_list:∀ (l:List Int) (s:ByteArray),l.foldl (fun s n=>s.push (UInt8.ofNat n.toNat)) s=⟨s.data++(l.map fun n=>UInt8.ofNat n.toNat).toArray⟩
 | [],s=>by cases s;simp
 | n::l,s=>by
  rw[List.foldl_cons,push_list l]
  congr 1
  apply Array.toList_inj.1;simp[ByteArray.push]
theorem r_bytesToString (h:w.heap[b]?=some (.cells c e fz))(A:o+n<=c.size)
  (B:(c.extract o (o+n)).toList=l.map (Value.int .u8)):(Conv.bytesToString (.slice (some ⟨b,o,none⟩) n cap)).run P w=.ok (.string ⟨(l.map fun n=>UInt8.ofNat n.toNat).toArray⟩) w:=by
 simp only[Conv.bytesToString,qU,qKn h A,qY];rw[<- Array.forIn_toList,B,r_forPush _ w (fun n s=>by simp) l];simp only[qY,qG,push_list]
 congr 3
 apply Array.toList_inj.1
 simp
theorem r_conv_str {s d:TypeId}(A:slcO P s=some e)(B:intO P e=some .u8)(E:strO P d=true){H:TypeId}
  (h:w.heap[b]?=some (.cells c H fz)) (I:o+n<=c.size) (J:(c.extract o (o+n)).toList=l.map (Value.int .u8)) :
  (convert s d (.slice (some ⟨b,o,none⟩) n cap)).run P w=.ok (.string ⟨(l.map fun n=>UInt8.ofNat n.toNat).toArray⟩) w:=by
 simp only[convert,qU,r_und (qZe A),qY,r_und (strO_und E),r_und (qJe B),r_bytesToString h I J]
theorem keptBut_fr (h:Fr F w w')(A:∀ b,b<w.heap.size->¬ F b):w.keptBut w' (fun _=>False):=by
 refine⟨h.os,h.out,fun i hi=>?_⟩;rw[h.blk i hi (A i hi)]
 split <;> simp_all
def Old (w w':World):Prop:=w.keptBut w' (fun _=>False)/\(∀ a:Addr,a.block<w.heap.size->w'.frozen? a=w.frozen? a)/\w.heap.size<=w'.heap.size
theorem old_fr (h:Fr F w w')(A:∀ b,b<w.heap.size->¬ F b):Old w w' :=
 ⟨keptBut_fr h A,fun a B=>by unfold World.frozen?;rw[h.blk _ B (A _ B)],h.size⟩
end
section
variable {P:Program}
def byO (P:Program)(t:TypeId):Option Nat:=(P.info? t).map (·.bytes)
theorem run_app_fit {t J e sz:Nat}{d':TypeDesc}(L:ts[0]?=some t)(M:ts[1]?=some J)(N:slcO P t=some e)(E:P.underlying J=some d')(hne:∀ k, d'≠.int k)
  (hsz:szO P e=some sz) {new:Array Value} (A:n+m<=cap)
  (B:(xB sz m (.slice xa m xc)).run P w=.ok new w) (H:(storeCells ⟨b,o+n*sz,none⟩ new.toList).run P w=.ok () w') :
  (qC ts 0 #[.slice (some ⟨b,o,none⟩) n cap,.slice xa m xc]).run P w=.ok (.slice (some ⟨b,o,none⟩) (n+m) cap) w':=by
 have I:=r_und (qZe N) w;have O:=r_und E w;have R:(#[Value.slice (some ⟨b,o,none⟩) n cap,.slice xa m xc]:Array Value)[0]?=some (.slice (some ⟨b,o,none⟩) n cap):=rfl;have a1:(#[Value.slice (some ⟨b,o,none⟩) n cap,.slice xa m xc]:Array Value)[1]?=some (.slice xa m xc):=rfl
 cases d' <;> first | exact absurd rfl (hne _) | (
  simp only[qC,L,M,R,a1,qU,I,O,qY,qZd hsz,qG,qP,if_false,xP,A,if_true,xH,B,qJr,H])
theorem run_app_grow {t M e sz:Nat}{d':TypeDesc}(N:ts[0]?=some t)(O:ts[1]?=some M)(R:slcO P t=some e)(H:P.underlying M=some d')(hne:∀ k, d'≠.int k)
  (hsz:szO P e=some sz) {i:TypeInfo} (hi:P.info? e=some i) (T:zeroO P e=some z) {old new:Array Value} (A:¬ n+m<=cap)
  (U:((n+m:Nat):Int)<=IntKind.i64.max) (V:xD (n+m) cap*i.bytes<=2 ^ 48)
  (B:∀ u:World,u.heap=w.heap->(xB sz n (.slice ba n cap)).run P u=.ok old u)
  (E:∀ u:World,u.heap=w.heap->(xB sz m (.slice xa m xc)).run P u=.ok new u) :
  ∃ I,n+m<=I/\(qC ts 0 #[.slice ba n cap,.slice xa m xc]).run P w=.ok (.slice (some ⟨w.heap.size,0,none⟩) (n+m) I) (w.drew.alloc (.cells (old++new++xN z.cells (I - (n+m))) e)):=by
 have J:=r_und (qZe R) w;have W:=r_und H w;have L:∀ u:World,(typeInfo e).run P u=.ok i u:=fun u=>by simp[typeInfo,hi]
 have Y:(#[Value.slice ba n cap,.slice xa m xc]:Array Value)[0]?=some (.slice ba n cap):=rfl;have a1:(#[Value.slice ba n cap,.slice xa m xc]:Array Value)[1]?=some (.slice xa m xc):=rfl;have c1:¬ (((n+m:Nat):Int) > IntKind.i64.max/\(False∨i.bytes=0)):=fun h=>by omega
 have c2:¬ (xD (n+m) cap*i.bytes > 2 ^ 48):=om
 refine⟨(Question.appendCap (n+m) cap e).cut (w.tape w.drawn (.appendCap (n+m) cap e)),by simp only[Question.cut];omega,?_⟩;have Z:(Question.appendCap (n+m) cap e).forced=false:=rfl;have ho:=B w.drew rfl;have hn:=E w.drew rfl
 cases d' <;> first | exact absurd rfl (hne _) | (
  simp only[qC,N,O,Y,a1,qU,J,W,qY,qZd hsz,qG,qP,if_false,xP,A,L,c1,c2,run_choose,Z,World.drew_eq,run_askRoom,if_true,xH,ho,hn,r_zero T,newRow]
  rfl)
def qQc:Value->Option Nat
 | .slice (some a) _ _=>some a.block
 | _=>none
theorem growBy_le (need:Nat):∀ (r c:Nat),c<=need->xM need r c<=2*need+768
 | 0,c,h=>by simp[xM];omega
 | r+1,c,h=>by
  simp only[xM];split
  ·omega
  ·by_cases A:c+(c+768) / 4<=need
   ·exact growBy_le need r _ A
   ·have:∀ r, xM need r (c+(c+768) / 4)=c+(c+768) / 4:=by
     intro r
     cases r with
     | zero=>rfl
     | succ r=>simp only[xM];rw[if_pos om]
    rw[this];omega
theorem nextcap_le {need cap:Nat}(h:cap<need):xD need cap<=2*need+768:=by
 unfold xD;split
 ·omega
 ·split
  ·omega
  ·exact growBy_le need 4 cap om
theorem nextcap1_le (h:n<=cap)(A:cap<n+1):xD (n+1) cap<=n+n / 4+1024:=by
 have:cap=n:=om
 subst this;unfold xD;split
 ·omega
 ·split
  ·omega
  ·simp only[xM]
   rw[if_neg om,if_pos om];omega
def OwnO (w:World)(e:TypeId)(sz:Nat)(v:Value)(n:Nat)(cs:List Value):Prop :=
 (v=.slice none 0 0/\n=0/\cs=[]) ∨
 ∃ b o cap c,v=.slice (some ⟨b,o,none⟩) n cap/\w.heap[b]?=some (.cells c e (0,0))/\o+cap*sz<=c.size/\n<=cap/\cs.length=n*sz/\∀ i,i<n*sz->c[o+i]?=cs[i]?
section
variable {w w':World} {e sz n:Nat} {v:Value} {cs:List Value}
theorem OwnO.nil (w:World)(e sz:Nat):OwnO w e sz (.slice none 0 0) 0 []:=.inl ⟨rfl,rfl,rfl⟩
theorem OwnO.frame (h:OwnO w e sz v n cs)(A:∀ b,qQc v=some b->w'.heap[b]?=w.heap[b]?):OwnO w' e sz v n cs:=by
 rcases h with h | ⟨b,o,cap,c,rfl,h,r⟩
 ·exact .inl h
 ·exact .inr ⟨b,o,cap,c,rfl,(A b rfl).trans h,r⟩
theorem OwnO.lt (h:OwnO w e sz v n cs)(A:qQc v=some b):b<w.heap.size:=by
 rcases h with ⟨rfl,_⟩ | ⟨B,o,cap,c,rfl,h,r⟩
 ·cases A
 ·simp only[qQc,oSi]at A;subst A;exact qQh h
theorem OwnO.len (h:OwnO w e sz v n cs):cs.length=n*sz:=by
 rcases h with ⟨_,rfl,rfl⟩ | ⟨A,o,cap,c,_,_,_,_,h,_⟩
 ·simp
 ·exact h
end
theorem get_extract {o k:Nat}{l:List Value}(A:l.length=k)(B:o+k<=c.size)(h:∀ i,i<k->c[o+i]?=l[i]?):(c.extract o (o+k)).toList=l:=by
 apply List.ext_getElem?;intro i;rw[xK,xJ];split
 ·exact h i om
 ·rw[List.getElem?_eq_none om]
structure AppR (w w':World) (e sz:Nat) (v v':Value) (n:Nat) (cs news:List Value):Prop where
 own:OwnO w' e sz v' n cs
 fr:Fr (fun b=>qQc v=some b) w w'
 blk:∃ b,qQc v'=some b/\(qQc v=some b∨w.heap.size<=b)
 cell:∀ b o u,cv w b o=some u->cv w' b o=some u∨∃ x ∈ news,cv w' b o=some x
 row:∀ (b:Nat) (c:Array Value) (t:TypeId),w.heap[b]?=some (Obj.cells c t (0,0))->∃ c':Array Value,w'.heap[b]?=some (Obj.cells c' t (0,0))/\c'.size=c.size
theorem app_o {t t' e sz by':Nat}(h0:ts[0]?=some t)(h1:ts[1]?=some t')(hs:slcO P t=some e)(hi:intO P t'=none)(a6:(P.underlying t').isSome=true)
  (hsz:szO P e=some sz) (hby:byO P e=some by') (hz:zeroO P e=some z) (hzs:z.cells.size=sz)
  (hv:OwnO w e sz v n cs)
  {N I m xc:Nat} {cx:Array Value} {ex:TypeId} {fx:Nat × Nat} {news:List Value} (hx:w.heap[N]?=some (.cells cx ex fx)) (a7:I+m*sz<=cx.size) (E:(cx.extract I (I+m*sz)).toList=news) (V:news.all one=true)
  (a8:∀ cap,n<=cap->cap<n+m->xD (n+m) cap*by'<=2 ^ 48) (b8:n+m<=9223372036854775807) (hm:0<m) :
  ∃ W w',(qC ts 0 #[v,.slice (some ⟨N,I,none⟩) m xc]).run P w=.ok W w'/\AppR w w' e sz v W (n+m) (cs++news) news:=by
 obtain⟨d',O⟩:=Option.isSome_iff_exists.1 a6
 have hne:∀ k,d'≠.int k:=fun k e=>by
  subst e;unfold intO at hi;rw[O]at hi;cases hi
 have J:news.length=m*sz:=by
  rw[<- E];simp;omega
 have Y:∀ u:World,u.heap=w.heap->(xB sz m (.slice (some ⟨N,I,none⟩) m xc)).run P u=.ok news.toArray u:=fun u H=>by
  have:=qKn (P:=P) (w:=u) (b:=N) (o:=I) (n:=m*sz) (by rw[H];exact hx) a7;simp only[xB,this]
  congr 1
  apply Array.toList_inj.1;rw[E]
 have R:∃ i,P.info? e=some i/\i.bytes=by':=by
  unfold byO at hby
  cases hi:P.info? e with
  | none=>simp[hi]at hby
  | some i=>exact⟨i,rfl,by simpa [hi] using hby⟩
 obtain⟨i,a9,b0⟩:=R;have Z:=hv.len
 have grow:∀ cap ba, v=.slice ba n cap->n<=cap->¬ n+m<=cap->(∀ u:World, u.heap=w.heap->(xB sz n (.slice ba n cap)).run P u=.ok cs.toArray u) ->
   ∃ W w',(qC ts 0 #[v,.slice (some ⟨N,I,none⟩) m xc]).run P w=.ok W w'/\AppR w w' e sz v W (n+m) (cs++news) news:=by
  intro cap ba b1 T A a0;subst b1
  have b3:xD (n+m) cap*i.bytes<=2 ^ 48:=by
   rw[b0];exact a8 cap T om
  have a3:IntKind.i64.max=9223372036854775807:=x9
  obtain⟨nc,b4,B⟩:=run_app_grow (P:=P) h0 h1 hs O hne hsz a9 hz (w:=w) (n:=n) (cap:=cap) (m:=m) (xc:=xc) (ba:=ba) (xa:=some ⟨N,I,none⟩) A (by rw[a3];omega) b3 a0 Y;have b5:(xN z.cells (nc - (n+m))).size=(nc - (n+m))*sz:=by rw[<- hzs];simp[xN]
  have U:(cs++news).length=(n+m)*sz:=by rw[lAp,Z,J,xL]
  refine⟨_,_,B,.inr ⟨w.heap.size,0,nc,_,rfl,qQb w.drew _,?_,b4,U,fun i hi=>?_⟩,((Fr.refl _ w).drew).alloc _,⟨w.heap.size,rfl,.inr (xC _)⟩,fun b o u H=>.inl ?_,fun b c t M=>⟨c,(qJh w.drew _ (qQh M)).trans M,rfl⟩⟩
  ·simp only[xV,b5,List.size_toArray,Z,J]
   rw[<- xL,<- xL,Nat.zero_add];exact xR _ om
  ·rw[Nat.zero_add,Array.getElem?_append_left (by simp only[xV,List.size_toArray];rw[<- lAp,U];exact hi)]
   rw[<- xK,Array.toList_append]
  ·rw[cv_blk (qJh w.drew _ (cv_lt H))];exact H
 rcases hv with ⟨rfl,rfl,rfl⟩ | ⟨b,o,cap,c,rfl,h,hc,hn,U,ht⟩
 ·exact grow 0 none rfl (xC _) om fun u _=>rfl
 ·by_cases A:n+m<=cap
  ·have b6:=xR sz A
   rw[xL]at b6;have a4:o+n*sz+news.length<=c.size:=by rw[J];omega
   have b7:=qKz (P:=P) news w b (o+n*sz) 0 c e h (by simpa using a4) V;have B:=run_app_fit (P:=P) h0 h1 hs O hne hsz (w:=w) (b:=b) (o:=o) (n:=n) (cap:=cap) (m:=m) (xc:=xc) (xa:=some ⟨N,I,none⟩) A (Y w rfl) b7;rw[Nat.add_zero]at B;refine⟨_,_,B,.inr ⟨b,o,cap,_,rfl,qZh _ (qQh h),?_,A,?_,fun i hi=>?_⟩,(Fr.refl _ w).put _ (fun _=>rfl),⟨b,rfl,.inl rfl⟩,fun b' o' u H=>?_,fun b' c2 t L=>?_⟩
   ·rw[qJl];exact hc
   ·rw[lAp,U,J,xL]
   ·rw[qVm]
    rw[xL]at hi
    by_cases h2:i<n*sz
    ·rw[if_neg om,List.getElem?_append_left om];exact ht i h2
    ·rw[if_pos om,List.getElem?_append_right om,U]
     congr 1;omega
   ·by_cases M:b'=b
    ·subst M
     rw[cv_of_row h]at H;have e1:cv (put w b' (.cells (qXz news (o+n*sz) c) e (0,0))) b' o'=(qXz news (o+n*sz) c)[o']?:=cv_of_row (qZh _ (qQh h));rw[e1,qVm];split
     ·rename_i hh
      right
      obtain⟨x,hx⟩:∃ x,news[o' - (o+n*sz)]?=some x:=⟨_,List.getElem?_eq_getElem om⟩
      exact⟨x,List.mem_of_getElem? hx,hx⟩
     ·exact .inl H
    ·left
     rw[cv_blk (qVt _ (Ne.symm M))];exact H
   ·by_cases M:b'=b
    ·subst M
     rw[h]at L;simp only[oSi,Obj.cells.injEq]at L;obtain⟨rfl,rfl,_⟩:=L;exact⟨_,qZh _ (qQh h),qJl _ _ _⟩
    ·exact⟨c2,(qVt _ (Ne.symm M)).trans L,rfl⟩
  ·refine grow cap _ rfl hn A fun u H=>?_
   have a5:o+n*sz<=c.size:=by have:=xR sz hn;omega
   have:=qKn (P:=P) (w:=u) (b:=b) (o:=o) (n:=n*sz) (by rw[H];exact h) a5;simp only[xB,this]
   congr 1
   apply Array.toList_inj.1;exact get_extract U a5 ht
theorem run_app_zero {t B e sz:Nat}(I:ts[0]?=some t)(J:ts[1]?=some B)(L:slcO P t=some e)(hi:intO P B=none)(E:(P.underlying B).isSome=true)
  (hsz:szO P e=some sz) (M:n<=cap) :
  (qC ts 0 #[.slice ba n cap,.slice xa 0 xc]).run P w=.ok (.slice ba n cap) w:=by
 obtain⟨d',A⟩:=Option.isSome_iff_exists.1 E
 have hne:∀ k,d'≠.int k:=fun k e=>by
  subst e;unfold intO at hi;rw[A]at hi;cases hi
 have H:=r_und (qZe L) w;have N:=r_und A w;have O:(#[Value.slice ba n cap,.slice xa 0 xc]:Array Value)[0]?=some (.slice ba n cap):=rfl;have a1:(#[Value.slice ba n cap,.slice xa 0 xc]:Array Value)[1]?=some (.slice xa 0 xc):=rfl
 have R:(xB sz 0 (.slice xa 0 xc)).run P w=.ok #[] w:=by
  cases xa with
  | none=>rfl
  | some a=>simp only[xB,Nat.zero_mul];rfl
 cases ba <;> cases d' <;> first | exact absurd rfl (hne _) | (
  simp only[qC,I,J,O,a1,qU,H,N,qY,qZd hsz,qG,qP,if_false,xP,Nat.add_zero,M,if_true,xH,R,storeCells])
end
section
variable {P:Program}
abbrev Byte:=BitVec 8
abbrev W32:=BitVec 32
abbrev pt (b o:Nat):Value:=.pointer (some ⟨b,o,none⟩)
abbrev No (w w':World):Prop:=Fr (fun _=>False) w w'
abbrev u8 (x:Byte):Value:=.int .u8 x.toNat
abbrev u32 (x:W32):Value:=.int .u32 x.toNat
theorem wrap_u8 (n:Int):IntKind.u8.wrap n=n % 256:=by simp[IntKind.wrap,IntKind.bits,IntKind.signed]
theorem wrap_u32 (n:Int):IntKind.u32.wrap n=n % 4294967296:=by simp[IntKind.wrap,IntKind.bits,IntKind.signed]
theorem qKv (n:Int):IntKind.u64.wrap n=n % 18446744073709551616:=by simp[IntKind.wrap,IntKind.bits,IntKind.signed]
theorem w8_toNat (x:BitVec 8):IntKind.u8.wrap (x.toNat:Int)=x.toNat:=by
 rw[wrap_u8];have:=x.isLt;omega
theorem w32_toNat (x:BitVec 32):IntKind.u32.wrap (x.toNat:Int)=x.toNat:=by
 rw[wrap_u32];have:=x.isLt;omega
section
variable (x y:W32) (a:Byte)
theorem and32:andK .u32 (x.toNat:Int) (y.toNat:Int)=((x &&& y).toNat:Int):=by
 have e:andK .u32 (x.toNat:Int) (y.toNat:Int)=IntKind.u32.wrap (((qQ 32 (x.toNat:Int) &&& qQ 32 (y.toNat:Int)).toNat:Nat):Int):=rfl;rw[e,xW,xW,xU,xU,xY,xY];exact w32_toNat _
theorem or32:orK .u32 (x.toNat:Int) (y.toNat:Int)=((x ||| y).toNat:Int):=by
 have e:orK .u32 (x.toNat:Int) (y.toNat:Int)=IntKind.u32.wrap (((qQ 32 (x.toNat:Int) ||| qQ 32 (y.toNat:Int)).toNat:Nat):Int):=rfl;rw[e,xW,xW,xU,xU,xY,xY];exact w32_toNat _
theorem xor32:xorK .u32 (x.toNat:Int) (y.toNat:Int)=((x ^^^ y).toNat:Int):=by
 have e:xorK .u32 (x.toNat:Int) (y.toNat:Int)=IntKind.u32.wrap (((qQ 32 (x.toNat:Int) ^^^ qQ 32 (y.toNat:Int)).toNat:Nat):Int):=rfl;rw[e,xW,xW,xU,xU,xY,xY];exact w32_toNat _
theorem and32n (n:Nat):andK .u32 (x.toNat:Int) (n:Int)=((x &&& BitVec.ofNat 32 n).toNat:Int):=by
 have e:andK .u32 (x.toNat:Int) (n:Int)=IntKind.u32.wrap (((qQ 32 (x.toNat:Int) &&& qQ 32 (n:Int)).toNat:Nat):Int):=rfl;rw[e,xW,xW,xU,xY];exact w32_toNat _
theorem not32:notK .u32 (x.toNat:Int)=((~~~x).toNat:Int):=by
 have e:notK .u32 (x.toNat:Int)=IntKind.u32.wrap (((qQ 32 4294967295 ^^^ qQ 32 (x.toNat:Int)).toNat:Nat):Int):=rfl;have A:qQ 32 4294967295=BitVec.allOnes 32:=x9
 rw[e,A,xW,xU,xY,BitVec.allOnes_xor];exact w32_toNat _
theorem add32:IntKind.u32.wrap ((x.toNat:Int)+(y.toNat:Int))=((x+y).toNat:Int):=by
 rw[wrap_u32,BitVec.toNat_add];omega
theorem fdivn (m k:Nat):((m:Int).fdiv (2 ^ k))=((m / 2 ^ k:Nat):Int):=by
 rw[Int.fdiv_eq_ediv_of_nonneg _ (Int.le_of_lt (Int.pow_pos om))]
 push_cast
 rfl
theorem shr32 (k:Nat)(A:k<=32):shrK .u32 (x.toNat:Int) (k:Int)=((x >>> k).toNat:Int):=by
 have e:shrK .u32 (x.toNat:Int) (k:Int)=(x.toNat:Int).fdiv (2 ^ (min ((k:Nat):Int).toNat 32)):=rfl;rw[e,iTn,Nat.min_eq_left A,BitVec.toNat_ushiftRight,Nat.shiftRight_eq_div_pow,fdivn]
theorem shl32 (k:Nat)(A:k<=32):shlK .u32 (x.toNat:Int) (k:Int)=((x <<< k).toNat:Int):=by
 have B:shlK .u32 (x.toNat:Int) (k:Int)=IntKind.u32.wrap ((x.toNat:Int)*2 ^ (min ((k:Nat):Int).toNat 32)):=rfl;have e:(x.toNat:Int)*2 ^ k=((x.toNat*2 ^ k:Nat):Int):=by rw[Int.natCast_mul,Int.natCast_pow];rfl
 rw[B,iTn,Nat.min_eq_left A,BitVec.toNat_shiftLeft,Nat.shiftLeft_eq,wrap_u32,e];generalize x.toNat*2 ^ k=m;omega
theorem cut32:IntKind.u8.wrap (x.toNat:Int)=((x.setWidth 8).toNat:Int):=by
 rw[wrap_u8,xF];generalize x.toNat=m;omega
theorem ext8:IntKind.u32.wrap (a.toNat:Int)=((a.setWidth 32).toNat:Int):=by
 rw[wrap_u32,xF,Nat.mod_eq_of_lt (by have:=a.isLt;omega)];have:=a.isLt;omega
end
def rc (w:World)(b o:Nat):Option Value:=match w.heap[b]? with | some (.cells c _ _)=>c[o]? | _=>none
theorem rc_row (h:rc w b o=some v):∃ c e fz,w.heap[b]?=some (.cells c e fz)/\c[o]?=some v:=by
 unfold rc at h;split at h
 ·exact⟨_,_,_,as_,h⟩
 ·cases h
theorem qXe (h:w.heap[b]?=some (.cells c e fz)):rc w b o=c[o]?:=by simp[rc,h]
theorem rc_lt (h:rc w b o=some v):b<w.heap.size:=by
 obtain⟨c,e,fz,A,_⟩:=rc_row h;exact qQh A
theorem rc_blk (h:w'.heap[b]?=w.heap[b]?)(o:Nat):rc w' b o=rc w b o:=by simp[rc,h]
theorem rd_rc {t:TypeId}(A:aggO P t=some false)(h:rc w b o=some v):rdO P t w b o=some v:=by
 obtain⟨c,e,fz,B,E⟩:=rc_row h;simp[rdO,ldO,B,A,E]
theorem rd_rcs {t:TypeId}{vs:Array Value}(I:aggO P t=some true)(J:szO P t=some n)(R:vs.size=n)(L:0<n)(h:∀ i, i<n->rc w b (o+i)=vs[i]?) :
  rdO P t w b o=some (.agg vs):=by
 have A:=h 0 L;have M:vs[0]?=some vs[0]:=qD om;rw[M]at A;obtain⟨c,e,fz,B,_⟩:=rc_row A;have E:∀ i,i<n->c[o+i]?=vs[i]?:=fun i hi=>by rw[<- h i hi,qXe B]
 have hsz:o+n<=c.size:=by
  have H:=E (n - 1) om;have N:vs[n - 1]?=some vs[n - 1]:=qD om;rw[N]at H;have:=(Array.getElem?_eq_some_iff.1 H).1;omega
 have O:c.extract o (o+n)=vs:=by
  apply Array.ext_getElem?;intro i;rw[xJ];split
  ·exact E i om
  ·rw[Array.getElem?_eq_none om]
 simp[rdO,ldO,B,I,J,hsz,O]
theorem Fr.rc {F:Nat->Prop}{w w':World}(h:Fr F w w'){b:Nat}(A:b<w.heap.size)(B:¬ F b)(o:Nat):rc w' b o=rc w b o:=rc_blk (h.blk b A B) o
def Rd (w:World)(sz:Nat)(v:Value)(n:Nat)(cs:List Value):Prop :=
 cs.length=n*sz/\∃ a cap,v=.slice a n cap/\n<=cap/\(0<n*sz->∃ b o,a=some ⟨b,o,none⟩/\∀ i,i<n*sz->rc w b (o+i)=cs[i]?)
section
variable {w w':World} {sz n:Nat} {v:Value} {cs:List Value}
theorem Rd.frame (h:Rd w sz v n cs)(B:∀ b,qQc v=some b->b<w.heap.size->w'.heap[b]?=w.heap[b]?):Rd w' sz v n cs:=by
 obtain⟨E,a,cap,rfl,H,I⟩:=h;refine⟨E,a,cap,rfl,H,fun J=>?_⟩;obtain⟨b,o,rfl,A⟩:=I J;refine⟨b,o,rfl,fun i hi=>?_⟩;rw[<- A i hi]
 have L:∃ u,cs[i]?=some u:=⟨_,List.getElem?_eq_getElem om⟩
 obtain⟨u,M⟩:=L;have:=rc_lt ((A i hi).trans M);exact rc_blk (B b rfl this) _
theorem Rd.fr (h:Rd w sz v n cs)(k:Fr F w w')(B:∀ b,qQc v=some b->b<w.heap.size->¬ F b):Rd w' sz v n cs :=
 h.frame fun b E A=>k.blk b A (B b E A)
theorem OwnO.rd (h:OwnO w e sz v n cs):Rd w sz v n cs:=by
 rcases h with ⟨rfl,rfl,rfl⟩ | ⟨b,o,cap,c,rfl,h,H,A,B,E⟩
 ·exact⟨sm,_,_,rfl,xC _,fun h=>by omega⟩
 ·exact⟨B,_,_,rfl,A,fun _=>⟨b,o,rfl,fun i hi=>by rw[qXe h];exact E i hi⟩⟩
end
def By (w:World)(v:Value)(bs:List Byte):Prop:=Rd w 1 v bs.length (bs.map u8)
section
variable {w w':World} {v:Value} {bs:List Byte}
theorem By.fr (h:By w v bs)(k:Fr F w w')(A:∀ b,qQc v=some b->b<w.heap.size->¬ F b):By w' v bs:=Rd.fr h k A
theorem By.fr0 (h:By w v bs)(k:Fr (fun _=>False) w w'):By w' v bs:=Rd.fr h k fun _ _ _ h=>h
theorem By.at (h:By w v bs):∃ a cap,v=.slice a bs.length cap/\bs.length<=cap/\∀ i (hi:i<bs.length),∃ b o,a=some ⟨b,o,none⟩/\rc w b (o+i)=some (u8 bs[i]):=by
 obtain⟨H,a,cap,rfl,A,B⟩:=h;refine⟨a,cap,rfl,A,fun i hi=>?_⟩;obtain⟨b,o,rfl,E⟩:=B om;refine⟨b,o,rfl,?_⟩;rw[E i om];simp[hi]
end
theorem Rd.cut (h:Rd w sz (.slice a n cap) n cs){l m:Nat}(I:l<=m)(J:m<=n)(A:Option Addr)
  (B:A=if cap=l then a else a.map (fun (q:Addr)=>q.add (l*sz))):Rd w sz (.slice A (m - l) (cap - l)) (m - l) ((cs.drop (l*sz)).take ((m - l)*sz)):=by
 obtain⟨V,W,E,L,Y,M⟩:=h;cases L;have N:m*sz<=n*sz:=xR sz J;have O:(m - l)*sz=m*sz - l*sz:=Nat.sub_mul m l sz;have R:l*sz<=m*sz:=xR sz I;refine⟨by rw[lTk,lDr];omega,A,_,rfl,om,fun H=>?_⟩
 have T:l<m:=by
  rcases Nat.lt_or_ge l m with h | h
  ·exact h
  ·rw[show m - l=0 by omega]at H;simp at H
 obtain⟨b,o,rfl,U⟩:=M om;rw[if_neg om,Option.map_some,qJr]at B;refine⟨b,o+l*sz,B,fun i hi=>?_⟩;rw[Nat.add_assoc,U _ om,List.getElem?_take,if_pos hi,List.getElem?_drop]
theorem By.cut {bs:List Byte}(h:By w (.slice a n cap) bs){l m:Nat}(B:l<=m)(E:m<=n)(H:bs.length=n)(A:Option Addr)
  (I:A=if cap=l then a else a.map (fun (q:Addr)=>q.add (l*1))):By w (.slice A (m - l) (cap - l)) ((bs.drop l).take (m - l)):=by
 subst H;have e:((bs.drop l).take (m - l)).length=m - l:=by rw[lTk,lDr];omega
 have:=Rd.cut (sz:=1) h B E A I;unfold By;rw[e,List.map_take,List.map_drop];simpa using this
end
def crcT:List W32:=[0,498536548,997073096,651767980,1994146192,1802195444,1303535960,1342533948,3988292384,4027552580,3604390888,3412177804,2607071920,2262029012,2685067896,3183342108]
def crcStep (r:W32):W32:=crcT.getD (r &&& 15#32).toNat 0 ^^^ (r >>> 4)
def crcByte (r:W32)(x:Byte):W32:=crcStep (crcStep (r ^^^ x.setWidth 32))
def qKf (r:W32)(bs:List Byte):W32:=bs.foldl crcByte r
def qKg (c:W32)(bs:List Byte):W32 := ~~~ qKf (~~~ c) bs
def sealB (s:W32):List Byte:=[s.setWidth 8,(s >>> 8).setWidth 8,(s >>> 16).setWidth 8,(s >>> 24).setWidth 8]
theorem sealB_len (s:W32):(sealB s).length=4:=rfl
def qXw (bs:List Byte):Bool:=decide (bs.drop (bs.length - 4)=sealB (qKg 0 (bs.take (bs.length - 4))))
def crcG:W32:=3988292384
def step1 (r:W32):W32:=(r >>> 1) ^^^ (if r.getLsbD 0 then crcG else 0)
theorem qZa {r:W32}{j:Nat}(A:j<32):(step1 r).getLsbD j=(r.getLsbD (j+1) != (r.getLsbD 0 && crcG.getLsbD j)):=by
 unfold step1;rw[xG,BitVec.getLsbD_ushiftRight,Nat.add_comm 1 j]
 cases r.getLsbD 0 <;> simp
theorem step1_xor (a b:W32):step1 (a ^^^ b)=step1 a ^^^ step1 b:=by
 refine BitVec.eq_of_getLsbD_eq fun j A=>?_;rw[xG,qZa A,qZa A,qZa A,xG,xG]
 cases a.getLsbD (j+1) <;> cases b.getLsbD (j+1) <;> cases a.getLsbD 0 <;> cases b.getLsbD 0 <;> cases crcG.getLsbD j <;> rfl
def bit4 (A B b2 E:Bool):W32:=(if A then crcG >>> 3 else 0) ^^^ (if B then crcG >>> 2 else 0) ^^^ (if b2 then crcG >>> 1 else 0) ^^^ (if E then crcG else 0)
theorem low4 (r:W32):(r &&& 15#32).toNat=(r.getLsbD 0).toNat+2*(r.getLsbD 1).toNat+4*(r.getLsbD 2).toNat+8*(r.getLsbD 3).toNat:=by
 have e:(r &&& 15#32).toNat=r.toNat % 16:=by rw[BitVec.toNat_and];exact Nat.and_two_pow_sub_one_eq_mod _ 4
 have b:∀ i,(r.getLsbD i).toNat=r.toNat / 2 ^ i % 2:=fun i=>by
  show (r.toNat.testBit i).toNat=_;rw[Nat.toNat_testBit]
 rw[e,b,b,b,b];generalize r.toNat=n;omega
theorem tab4 (A B b2 E:Bool):crcT.getD (A.toNat+2*B.toNat+4*b2.toNat+8*E.toNat) 0=bit4 A B b2 E:=by
 cases A <;> cases B <;> cases b2 <;> cases E <;> decide
theorem step4 (r:W32):step1 (step1 (step1 (step1 r)))=crcStep r:=by
 unfold crcStep;rw[low4,tab4];have A:crcG.getLsbD 0=false:=x9
 have B:crcG.getLsbD 1=false:=x9
 have E:crcG.getLsbD 2=false:=x9
 have H:(step1 r).getLsbD 0=r.getLsbD 1:=by rw[qZa om,A];simp
 have I:(step1 (step1 r)).getLsbD 0=r.getLsbD 2:=by rw[qZa om,qZa om,A,B];simp
 have J:(step1 (step1 (step1 r))).getLsbD 0=r.getLsbD 3:=by rw[qZa om,qZa om,qZa om,A,B,E];simp
 have s:∀ x:W32,step1 x=(x >>> 1) ^^^ (if x.getLsbD 0 then crcG else 0):=fun _=>rfl;rw[s (step1 (step1 (step1 r))),J,s (step1 (step1 r)),I,s (step1 r),H,s r];unfold bit4;simp only[BitVec.ushiftRight_xor_distrib,<- BitVec.shiftRight_add,Nat.reduceAdd]
 cases r.getLsbD 0 <;> cases r.getLsbD 1 <;> cases r.getLsbD 2 <;> cases r.getLsbD 3 <;> simp[] <;> ac_rfl
def qQy (r:W32)(b:Bool):W32:=step1 (r ^^^ (if b then 1 else 0))
def bitsOf (x:Byte):List Bool:=(List.range 8).map x.getLsbD
def qZs (bs:List Byte):List Bool:=(bs.map bitsOf).flatten
theorem allBits_len (bs:List Byte):(qZs bs).length=8*bs.length:=by
 induction bs with
 | nil=>rfl
 | cons x bs A =>
  show (bitsOf x++qZs bs).length=_;rw[lAp,A,List.length_cons];show 8+_=_;omega
theorem crcByte_bits (r:W32)(x:Byte):crcByte r x=(bitsOf x).foldl qQy r:=by
 have e:x.setWidth 32=(if x.getLsbD 0 then 1 else 0) ^^^ (if x.getLsbD 1 then 2 else 0) ^^^ (if x.getLsbD 2 then 4 else 0) ^^^ (if x.getLsbD 3 then 8 else 0) ^^^ (if x.getLsbD 4 then 16 else 0) ^^^ (if x.getLsbD 5 then 32 else 0) ^^^ (if x.getLsbD 6 then 64 else 0) ^^^ (if x.getLsbD 7 then (128:W32) else 0):=by
  revert x;decide
 unfold crcByte;rw[<- step4,<- step4,e];show _=qQy (qQy (qQy (qQy (qQy (qQy (qQy (qQy r (x.getLsbD 0)) (x.getLsbD 1)) (x.getLsbD 2)) (x.getLsbD 3)) (x.getLsbD 4)) (x.getLsbD 5)) (x.getLsbD 6)) (x.getLsbD 7);unfold qQy;simp only[step1_xor];have A:∀ b:Bool,step1 (if b then (2:W32) else 0)=if b then 1 else 0:=x9
 have B:∀ b:Bool,step1 (if b then (4:W32) else 0)=if b then 2 else 0:=x9
 have E:∀ b:Bool,step1 (if b then (8:W32) else 0)=if b then 4 else 0:=x9
 have H:∀ b:Bool,step1 (if b then (16:W32) else 0)=if b then 8 else 0:=x9
 have I:∀ b:Bool,step1 (if b then (32:W32) else 0)=if b then 16 else 0:=x9
 have J:∀ b:Bool,step1 (if b then (64:W32) else 0)=if b then 32 else 0:=x9
 have L:∀ b:Bool,step1 (if b then (128:W32) else 0)=if b then 64 else 0:=x9
 simp only[A,B,E,H,I,J,L]
 ac_rfl
theorem crcFeed_bits (r:W32)(bs:List Byte):qKf r bs=(qZs bs).foldl qQy r:=by
 induction bs generalizing r with
 | nil=>rfl
 | cons x bs A =>
  show qKf (crcByte r x) bs=(bitsOf x++qZs bs).foldl qQy r;rw[List.foldl_append,A,crcByte_bits]
end Go.V
