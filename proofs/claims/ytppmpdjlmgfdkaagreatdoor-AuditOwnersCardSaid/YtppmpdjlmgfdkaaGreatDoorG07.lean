/- Helpers. -/
import Derived.RowKit3
import Derived.Test.YtppmpdjlmgfdkaaGreatDoorG06
import Derived.Test.YtppmpdjlmgfdkaaGreatDoorG04
set_option linter.all false
set_option maxRecDepth 100000
set_option maxHeartbeats 8000000
open Array renaming size_append→xQ,getElem?_append_left→xX,getElem?_eq_getElem→qB,getElem?_extract→xZ,getElem?_toList→xJ
open BitVec renaming ofInt_natCast→xK,setWidth_eq→xV,ofNat_toNat→xW,ofInt→qQ,getLsbD_xor→xY,toNat_setWidth→xU
open Bool renaming false_eq_true→qD,not_false→xG
open Go.Builtin renaming firstCells→xF,nextslicecap→xH,append_→qN,growBy→xB,zeroCells→xD,lenOf→xM
open Nat renaming lt_of_lt_of_le→xN,mul_le_mul_right→xP,add_mul→xR,le_refl→xT
open Go.Result renaming andThen_ok→qY
open Go.Sem renaming run_bind→qU,run_pure→qG
namespace Go.V
variable {ts:Array TypeId} {c:Array Value} {l:List Int} {cs:List Value} {b cap m n o sz xc:Nat} {fz:Nat × Nat} {F G:Nat→Prop} {a ba xa:Option Addr} {e:TypeId} {v z:Value} {w w' w1 w2:World}
section
open Go.RowKit
variable {P:Program}
structure Fr (F:Nat→Prop) (w w':World):Prop where
 os:w'.os=w.os
 out:w'.output=w.output
 size:w.heap.size≤w'.heap.size
 blk:∀ b,b<w.heap.size→¬ F b→w'.heap[b]?=w.heap[b]?
 thaw:∀ b,b<w.heap.size→Thawed w b→Thawed w' b
theorem Fr.refl (F:Nat→Prop)(w:World):Fr F w w:=⟨rfl,rfl,xT _,fun _ _ _=>rfl,fun _ _ h=>h⟩
theorem Fr.mono (h:Fr F w w')(hf:∀ b,b<w.heap.size→F b→G b):Fr G w w':=⟨h.os,h.out,h.size,fun b hb hg=>h.blk b hb fun hf'=>hg (hf b hb hf'),h.thaw⟩
theorem Fr.trans (h:Fr F w w1)(k:Fr F w1 w2):Fr F w w2 :=
 ⟨k.os.trans h.os,k.out.trans h.out,Nat.le_trans h.size k.size,fun b hb hf=>(k.blk b (xN hb h.size) hf).trans (h.blk b hb hf),fun b hb ht=>k.thaw b (xN hb h.size) (h.thaw b hb ht)⟩
theorem Fr.trans' (h:Fr F w w1)(k:Fr G w1 w2)(hg:∀ b,b<w.heap.size→G b→F b):Fr F w w2 :=
 ⟨k.os.trans h.os,k.out.trans h.out,Nat.le_trans h.size k.size,fun b hb hf=>(k.blk b (xN hb h.size) (fun h'=>hf (hg b hb h'))).trans (h.blk b hb hf),fun b hb ht=>k.thaw b (xN hb h.size) (h.thaw b hb ht)⟩
theorem Fr.drew (h:Fr F w w'):Fr F w w'.drew:=⟨h.os,h.out,h.size,h.blk,h.thaw⟩
theorem Fr.put {F:Nat→Prop}{w w':World}(h:Fr F w w'){b:Nat}(o:Obj)(hb:b<w.heap.size→F b)(ho:fzO o=false:=by first | rfl | exact putE_fz (by assumption) | exact delE_fz (by assumption)):Fr F w (put w' b o) :=
 ⟨h.os,h.out,by rw[put_heap_size];exact h.size,fun b' hb' hf=>by
  rw[qKt _ (fun e=>hf (by subst e;exact hb hb'))];exact h.blk b' hb' hf,fun b hb ht=>thaw_put ho (h.thaw b hb ht)⟩
theorem Fr.alloc (h:Fr F w w')(o:Obj)(ho:fzO o=false:=by rfl):Fr F w (w'.alloc o) :=
 ⟨h.os,h.out,by rw[qQc];have:=h.size;omega,fun b' hb' hf=>by
  rw[qZu _ _ (xN hb' h.size)];exact h.blk b' hb' hf,fun b hb ht=>thaw_alloc ho (h.thaw b hb ht)⟩
theorem r_forPush (B:Value→ByteArray→Sem (ForInStep ByteArray))(w:World)(hB:∀ n s, (B (.int .u8 n) s).run P w=.ok (.yield (s.push (UInt8.ofNat n.toNat))) w) :
  ∀ (l:List Int) (s:ByteArray),(forIn (m:=Sem) (l.map (Value.int .u8)) s B).run P w=.ok (l.foldl (fun s n=>s.push (UInt8.ofNat n.toNat)) s) w
 | [],s=>by simp
 | n::l,s=>by
  simp only[List.map_cons,List.forIn_cons,qU,hB,qY,List.foldl_cons];exact r_forPush B w hB l _
theorem push_list:∀ (l:List Int) (s:ByteArray),l.foldl (fun s n=>s.push (UInt8.ofNat n.toNat)) s=⟨s.data++(l.map fun n=>UInt8.ofNat n.toNat).toArray⟩
 | [],s=>by cases s;simp
 | n::l,s=>by
  rw[List.foldl_cons,push_list l]
  congr 1
  apply Array.toList_inj.1;simp[ByteArray.push]
theorem r_bytesToString (h:w.heap[b]?=some (.cells c e fz))(hn:o+n≤c.size)
  (hl:(c.extract o (o+n)).toList=l.map (Value.int .u8)):(Conv.bytesToString (.slice (some ⟨b,o,none⟩) n cap)).run P w=.ok (.string ⟨(l.map fun n=>UInt8.ofNat n.toNat).toArray⟩) w:=by
 simp only[Conv.bytesToString,qU,qJq h hn,qY];rw[← Array.forIn_toList,hl,r_forPush _ w (fun n s=>by simp) l];simp only[qY,qG,push_list]
 congr 3
 apply Array.toList_inj.1
 simp
theorem r_conv_str {s d:TypeId}(hs:slcO P s=some e)(he:intO P e=some .u8)(hd:strO P d=true){el:TypeId}
  (h:w.heap[b]?=some (.cells c el fz)) (hn:o+n≤c.size) (hl:(c.extract o (o+n)).toList=l.map (Value.int .u8)) :
  (convert s d (.slice (some ⟨b,o,none⟩) n cap)).run P w=.ok (.string ⟨(l.map fun n=>UInt8.ofNat n.toNat).toArray⟩) w:=by
 simp only[convert,qU,r_und (qXu hs),qY,r_und (strO_und hd),r_und (qJn he),r_bytesToString h hn hl]
theorem frozen_thaw {a:Addr}(h:Thawed w a.block):w.frozen? a=false:=by
 unfold World.frozen?;split
 ·rename_i heq
  have:=h _ heq;simp only[fzO,Bool.not_eq_false',Bool.and_eq_true,beq_iff_eq]at this;obtain⟨h1,h2⟩:=this;subst h1;subst h2
  simp
 ·rfl
theorem keptBut_fr (h:Fr F w w')(hF:∀ b,b<w.heap.size→¬ F b):w.keptBut w' (fun _=>False):=by
 refine⟨h.os,h.out,fun i hi=>?_⟩;rw[h.blk i hi (hF i hi)]
 split <;> simp_all
def Old (w w':World):Prop:=w.keptBut w' (fun _=>False)∧(∀ a:Addr,a.block<w.heap.size→w'.frozen? a=w.frozen? a)∧w.heap.size≤w'.heap.size
theorem old_fr (h:Fr F w w')(hF:∀ b,b<w.heap.size→¬ F b):Old w w' :=
 ⟨keptBut_fr h hF,fun a ha=>by unfold World.frozen?;rw[h.blk _ ha (hF _ ha)],h.size⟩
theorem Fr.growX (h:Fr F w w')(os:Array Obj):Fr F w { w' with heap:=w'.heap++os } :=
 have e:∀ b,b<w.heap.size→(w'.heap++os)[b]?=w'.heap[b]?:=fun b hb=>xX (xN hb h.size)
 ⟨h.os,h.out,by have:=h.size;simp only[xQ];omega,fun b hb hf=>(e b hb).trans (h.blk b hb hf),fun b hb ht o ho=>h.thaw b hb ht o (by rw[← e b hb];exact ho)⟩
end
section
variable {P:Program}
def byO (P:Program)(t:TypeId):Option Nat:=(P.info? t).map (·.bytes)
theorem run_app_fit {t t' e sz:Nat}{d':TypeDesc}(h0:ts[0]?=some t)(h1:ts[1]?=some t')(hs:slcO P t=some e)(hd':P.underlying t'=some d')(hne:∀ k, d'≠.int k)
  (hsz:szO P e=some sz) {new:Array Value} (hfit:n+m≤cap)
  (hnew:(xF sz m (.slice xa m xc)).run P w=.ok new w) (hst:(storeCells ⟨b,o+n*sz,none⟩ new.toList).run P w=.ok () w') :
  (qN ts 0 #[.slice (some ⟨b,o,none⟩) n cap,.slice xa m xc]).run P w=.ok (.slice (some ⟨b,o,none⟩) (n+m) cap) w':=by
 have hsl:=r_und (qXu hs) w;have hd:=r_und hd' w;have a0:(#[Value.slice (some ⟨b,o,none⟩) n cap,.slice xa m xc]:Array Value)[0]?=some (.slice (some ⟨b,o,none⟩) n cap):=rfl;have a1:(#[Value.slice (some ⟨b,o,none⟩) n cap,.slice xa m xc]:Array Value)[1]?=some (.slice xa m xc):=rfl
 cases d' <;> first | exact absurd rfl (hne _) | (
  simp only[qN,h0,h1,a0,a1,qU,hsl,hd,qY,qXo hsz,qG,qD,if_false,xM,hfit,if_true,xG,hnew,qKj,hst])
theorem run_app_grow {t t' e sz:Nat}{d':TypeDesc}(h0:ts[0]?=some t)(h1:ts[1]?=some t')(hs:slcO P t=some e)(hd':P.underlying t'=some d')(hne:∀ k, d'≠.int k)
  (hsz:szO P e=some sz) {i:TypeInfo} (hi:P.info? e=some i) (hz:zeroO P e=some z) {old new:Array Value} (hfit:¬ n+m≤cap)
  (hb1:((n+m:Nat):Int)≤IntKind.i64.max) (hb2:xH (n+m) cap*i.bytes≤2 ^ 48)
  (hold:∀ u:World,u.heap=w.heap→(xF sz n (.slice ba n cap)).run P u=.ok old u)
  (hnew:∀ u:World,u.heap=w.heap→(xF sz m (.slice xa m xc)).run P u=.ok new u) :
  ∃ nc,n+m≤nc∧(qN ts 0 #[.slice ba n cap,.slice xa m xc]).run P w=.ok (.slice (some ⟨w.heap.size,0,none⟩) (n+m) nc) (w.drew.alloc (.cells (old++new++xD z.cells (nc - (n+m))) e)):=by
 have hsl:=r_und (qXu hs) w;have hd:=r_und hd' w;have hti:∀ u:World,(typeInfo e).run P u=.ok i u:=fun u=>by simp[typeInfo,hi]
 have a0:(#[Value.slice ba n cap,.slice xa m xc]:Array Value)[0]?=some (.slice ba n cap):=rfl;have a1:(#[Value.slice ba n cap,.slice xa m xc]:Array Value)[1]?=some (.slice xa m xc):=rfl;have c1:¬ (((n+m:Nat):Int) > IntKind.i64.max∧(False∨i.bytes=0)):=fun h=>by omega
 have c2:¬ (xH (n+m) cap*i.bytes > 2 ^ 48):=by omega
 refine⟨(Question.appendCap (n+m) cap e).cut (w.tape w.drawn (.appendCap (n+m) cap e)),by simp only[Question.cut];omega,?_⟩;have hf:(Question.appendCap (n+m) cap e).forced=false:=rfl;have ho:=hold w.drew rfl;have hn:=hnew w.drew rfl
 cases d' <;> first | exact absurd rfl (hne _) | (
  simp only[qN,h0,h1,a0,a1,qU,hsl,hd,qY,qXo hsz,qG,qD,if_false,xM,hfit,hti,c1,c2,run_choose,hf,World.drew_eq,run_askRoom,if_true,xG,ho,hn,r_zero hz,newRow]
  rfl)
def qQg:Value→Option Nat
 | .slice (some a) _ _=>some a.block
 | _=>none
theorem growBy_le (need:Nat):∀ (r c:Nat),c≤need→xB need r c≤2*need+768
 | 0,c,h=>by simp[xB];omega
 | r+1,c,h=>by
  simp only[xB];split
  ·omega
  ·by_cases h2:c+(c+768) / 4≤need
   ·exact growBy_le need r _ h2
   ·have:∀ r, xB need r (c+(c+768) / 4)=c+(c+768) / 4:=by
     intro r
     cases r with
     | zero=>rfl
     | succ r=>simp only[xB];rw[if_pos (by omega)]
    rw[this];omega
theorem nextcap_le {need cap:Nat}(h:cap<need):xH need cap≤2*need+768:=by
 unfold xH;split
 ·omega
 ·split
  ·omega
  ·exact growBy_le need 4 cap (by omega)
theorem nextcap1_le (h:n≤cap)(h2:cap<n+1):xH (n+1) cap≤n+n / 4+1024:=by
 have:cap=n:=by omega
 subst this;unfold xH;split
 ·omega
 ·split
  ·omega
  ·simp only[xB]
   rw[if_neg (by omega),if_pos (by omega)];omega
def OwnO (w:World)(e:TypeId)(sz:Nat)(v:Value)(n:Nat)(cs:List Value):Prop :=
 (v=.slice none 0 0∧n=0∧cs=[]) ∨
 ∃ b o cap c,v=.slice (some ⟨b,o,none⟩) n cap∧w.heap[b]?=some (.cells c e (0,0))∧o+cap*sz≤c.size∧n≤cap∧cs.length=n*sz∧∀ i,i<n*sz→c[o+i]?=cs[i]?
section
variable {w w':World} {e sz n:Nat} {v:Value} {cs:List Value}
theorem OwnO.nil (w:World)(e sz:Nat):OwnO w e sz (.slice none 0 0) 0 []:=.inl ⟨rfl,rfl,rfl⟩
theorem OwnO.frame (h:OwnO w e sz v n cs)(hf:∀ b,qQg v=some b→w'.heap[b]?=w.heap[b]?):OwnO w' e sz v n cs:=by
 rcases h with h | ⟨b,o,cap,c,rfl,h,r⟩
 ·exact .inl h
 ·exact .inr ⟨b,o,cap,c,rfl,(hf b rfl).trans h,r⟩
theorem OwnO.lt (h:OwnO w e sz v n cs)(hb:qQg v=some b):b<w.heap.size:=by
 rcases h with ⟨rfl,_⟩ | ⟨b',o,cap,c,rfl,h,r⟩
 ·cases hb
 ·simp only[qQg,oSi]at hb;subst hb;exact qQh h
theorem OwnO.len (h:OwnO w e sz v n cs):cs.length=n*sz:=by
 rcases h with ⟨_,rfl,rfl⟩ | ⟨b',o,cap,c,_,_,_,_,h,_⟩
 ·simp
 ·exact h
end
theorem get_extract {o k:Nat}{l:List Value}(hl:l.length=k)(hs:o+k≤c.size)(h:∀ i,i<k→c[o+i]?=l[i]?):(c.extract o (o+k)).toList=l:=by
 apply List.ext_getElem?;intro i;rw[xJ,xZ];split
 ·exact h i (by omega)
 ·rw[List.getElem?_eq_none (by omega)]
structure AppR (w w':World) (e sz:Nat) (v v':Value) (n:Nat) (cs news:List Value):Prop where
 own:OwnO w' e sz v' n cs
 fr:Fr (fun b=>qQg v=some b) w w'
 blk:∃ b,qQg v'=some b∧(qQg v=some b∨w.heap.size≤b)
 cell:∀ b o u,cv w b o=some u→cv w' b o=some u∨∃ x ∈ news,cv w' b o=some x
 row:∀ (b:Nat) (c:Array Value) (t:TypeId),w.heap[b]?=some (Obj.cells c t (0,0))→∃ c':Array Value,w'.heap[b]?=some (Obj.cells c' t (0,0))∧c'.size=c.size
theorem app_o {t t' e sz by':Nat}(h0:ts[0]?=some t)(h1:ts[1]?=some t')(hs:slcO P t=some e)(hi:intO P t'=none)(hu':(P.underlying t').isSome=true)
  (hsz:szO P e=some sz) (hby:byO P e=some by') (hz:zeroO P e=some z) (hzs:z.cells.size=sz)
  (hv:OwnO w e sz v n cs)
  {xb xo m xc:Nat} {cx:Array Value} {ex:TypeId} {fx:Nat × Nat} {news:List Value} (hx:w.heap[xb]?=some (.cells cx ex fx)) (hxl:xo+m*sz≤cx.size) (hnews:(cx.extract xo (xo+m*sz)).toList=news) (hone:news.all one=true)
  (hbd:∀ cap,n≤cap→cap<n+m→xH (n+m) cap*by'≤2 ^ 48) (hbd2:n+m≤9223372036854775807) (hm:0<m) :
  ∃ v' w',(qN ts 0 #[v,.slice (some ⟨xb,xo,none⟩) m xc]).run P w=.ok v' w'∧AppR w w' e sz v v' (n+m) (cs++news) news:=by
 obtain⟨d',hd'⟩:=Option.isSome_iff_exists.1 hu'
 have hne:∀ k,d'≠.int k:=fun k e=>by
  subst e;unfold intO at hi;rw[hd']at hi;cases hi
 have hnl:news.length=m*sz:=by
  rw[← hnews];simp;omega
 have hnw:∀ u:World,u.heap=w.heap→(xF sz m (.slice (some ⟨xb,xo,none⟩) m xc)).run P u=.ok news.toArray u:=fun u hu=>by
  have:=qJq (P:=P) (w:=u) (b:=xb) (o:=xo) (n:=m*sz) (by rw[hu];exact hx) hxl;simp only[xF,this]
  congr 1
  apply Array.toList_inj.1;rw[hnews]
 have hinfo:∃ i,P.info? e=some i∧i.bytes=by':=by
  unfold byO at hby
  cases hi:P.info? e with
  | none=>simp[hi]at hby
  | some i=>exact⟨i,rfl,by simpa [hi] using hby⟩
 obtain⟨i,hi1,hi2⟩:=hinfo;have hvl:=hv.len
 have grow:∀ cap ba, v=.slice ba n cap→n≤cap→¬ n+m≤cap→(∀ u:World, u.heap=w.heap→(xF sz n (.slice ba n cap)).run P u=.ok cs.toArray u) →
   ∃ v' w',(qN ts 0 #[v,.slice (some ⟨xb,xo,none⟩) m xc]).run P w=.ok v' w'∧AppR w w' e sz v v' (n+m) (cs++news) news:=by
  intro cap ba hvv hncap hfit hold;subst hvv
  have hb2:xH (n+m) cap*i.bytes≤2 ^ 48:=by
   rw[hi2];exact hbd cap hncap (by omega)
  have hmax:IntKind.i64.max=9223372036854775807:=by decide
  obtain⟨nc,hnc,hrun⟩:=run_app_grow (P:=P) h0 h1 hs hd' hne hsz hi1 hz (w:=w) (n:=n) (cap:=cap) (m:=m) (xc:=xc) (ba:=ba) (xa:=some ⟨xb,xo,none⟩) hfit (by rw[hmax];omega) hb2 hold hnw;have hrl:(xD z.cells (nc - (n+m))).size=(nc - (n+m))*sz:=by rw[← hzs];simp[xD]
  have hl:(cs++news).length=(n+m)*sz:=by rw[lAp,hvl,hnl,xR]
  refine⟨_,_,hrun,.inr ⟨w.heap.size,0,nc,_,rfl,qQb w.drew _,?_,hnc,hl,fun i hi=>?_⟩,((Fr.refl _ w).drew).alloc _,⟨w.heap.size,rfl,.inr (xT _)⟩,fun b o u hu=>.inl ?_,fun b c t hb=>⟨c,(qZu w.drew _ (qQh hb)).trans hb,rfl⟩⟩
  ·simp only[xQ,hrl,List.size_toArray,hvl,hnl]
   rw[← xR,← xR,Nat.zero_add];exact xP _ (by omega)
  ·rw[Nat.zero_add,xX (by simp only[xQ,List.size_toArray];rw[← lAp,hl];exact hi)]
   rw[← xJ,Array.toList_append]
  ·rw[cv_blk (qZu w.drew _ (cv_lt hu))];exact hu
 rcases hv with ⟨rfl,rfl,rfl⟩ | ⟨b,o,cap,c,rfl,h,hc,hn,hl,ht⟩
 ·exact grow 0 none rfl (xT _) (by omega) fun u _=>rfl
 ·by_cases hfit:n+m≤cap
  ·have hms:=xP sz hfit
   rw[xR]at hms;have hcap:o+n*sz+news.length≤c.size:=by rw[hnl];omega
   have hst:=qKb (P:=P) news w b (o+n*sz) 0 c e h (by simpa using hcap) hone;have hrun:=run_app_fit (P:=P) h0 h1 hs hd' hne hsz (w:=w) (b:=b) (o:=o) (n:=n) (cap:=cap) (m:=m) (xc:=xc) (xa:=some ⟨xb,xo,none⟩) hfit (hnw w rfl) hst;rw[Nat.add_zero]at hrun;refine⟨_,_,hrun,.inr ⟨b,o,cap,_,rfl,qXt _ (qQh h),?_,hfit,?_,fun i hi=>?_⟩,(Fr.refl _ w).put _ (fun _=>rfl),⟨b,rfl,.inl rfl⟩,fun b' o' u hu=>?_,fun b' c2 t hb'=>?_⟩
   ·rw[qKx];exact hc
   ·rw[lAp,hl,hnl,xR]
   ·rw[qKl]
    rw[xR]at hi
    by_cases h2:i<n*sz
    ·rw[if_neg (by omega),List.getElem?_append_left (by omega)];exact ht i h2
    ·rw[if_pos (by omega),List.getElem?_append_right (by omega),hl]
     congr 1;omega
   ·by_cases hb:b'=b
    ·subst hb
     rw[cv_of_row h]at hu;have e1:cv (put w b' (.cells (qXl news (o+n*sz) c) e (0,0))) b' o'=(qXl news (o+n*sz) c)[o']?:=cv_of_row (qXt _ (qQh h));rw[e1,qKl];split
     ·rename_i hh
      right
      obtain⟨x,hx⟩:∃ x,news[o' - (o+n*sz)]?=some x:=⟨_,List.getElem?_eq_getElem (by omega)⟩
      exact⟨x,List.mem_of_getElem? hx,hx⟩
     ·exact .inl hu
    ·left
     rw[cv_blk (qKt _ (Ne.symm hb))];exact hu
   ·by_cases hb:b'=b
    ·subst hb
     rw[h]at hb';simp only[oSi,Obj.cells.injEq]at hb';obtain⟨rfl,rfl,_⟩:=hb';exact⟨_,qXt _ (qQh h),qKx _ _ _⟩
    ·exact⟨c2,(qKt _ (Ne.symm hb)).trans hb',rfl⟩
  ·refine grow cap _ rfl hn hfit fun u hu=>?_
   have hle:o+n*sz≤c.size:=by have:=xP sz hn;omega
   have:=qJq (P:=P) (w:=u) (b:=b) (o:=o) (n:=n*sz) (by rw[hu];exact h) hle;simp only[xF,this]
   congr 1
   apply Array.toList_inj.1;exact get_extract hl hle ht
theorem run_app_zero {t t' e sz:Nat}(h0:ts[0]?=some t)(h1:ts[1]?=some t')(hs:slcO P t=some e)(hi:intO P t'=none)(hu':(P.underlying t').isSome=true)
  (hsz:szO P e=some sz) (hn:n≤cap) :
  (qN ts 0 #[.slice ba n cap,.slice xa 0 xc]).run P w=.ok (.slice ba n cap) w:=by
 obtain⟨d',hd'⟩:=Option.isSome_iff_exists.1 hu'
 have hne:∀ k,d'≠.int k:=fun k e=>by
  subst e;unfold intO at hi;rw[hd']at hi;cases hi
 have hsl:=r_und (qXu hs) w;have hd:=r_und hd' w;have a0:(#[Value.slice ba n cap,.slice xa 0 xc]:Array Value)[0]?=some (.slice ba n cap):=rfl;have a1:(#[Value.slice ba n cap,.slice xa 0 xc]:Array Value)[1]?=some (.slice xa 0 xc):=rfl
 have hf:(xF sz 0 (.slice xa 0 xc)).run P w=.ok #[] w:=by
  cases xa with
  | none=>rfl
  | some a=>simp only[xF,Nat.zero_mul];rfl
 cases ba <;> cases d' <;> first | exact absurd rfl (hne _) | (
  simp only[qN,h0,h1,a0,a1,qU,hsl,hd,qY,qXo hsz,qG,qD,if_false,xM,Nat.add_zero,hn,if_true,xG,hf,storeCells])
end
section
variable {P:Program}
abbrev Byte:=BitVec 8
abbrev W32:=BitVec 32
abbrev pt (b o:Nat):Value:=.pointer (some ⟨b,o,none⟩)
abbrev No (w w':World):Prop:=Fr (fun _=>False) w w'
abbrev u8 (x:Byte):Value:=.int .u8 x.toNat
abbrev u32 (x:W32):Value:=.int .u32 x.toNat
theorem wrap_u8 (n:Int):IntKind.u8.wrap n=n % 256:=by simp[IntKind.wrap,IntKind.bits,IntKind.signed]
theorem wrap_u32 (n:Int):IntKind.u32.wrap n=n % 4294967296:=by simp[IntKind.wrap,IntKind.bits,IntKind.signed]
theorem qJz (n:Int):IntKind.u64.wrap n=n % 18446744073709551616:=by simp[IntKind.wrap,IntKind.bits,IntKind.signed]
theorem w8_toNat (x:BitVec 8):IntKind.u8.wrap (x.toNat:Int)=x.toNat:=by
 rw[wrap_u8];have:=x.isLt;omega
theorem w32_toNat (x:BitVec 32):IntKind.u32.wrap (x.toNat:Int)=x.toNat:=by
 rw[wrap_u32];have:=x.isLt;omega
section
variable (x y:W32) (a:Byte)
theorem and32:andK .u32 (x.toNat:Int) (y.toNat:Int)=((x &&& y).toNat:Int):=by
 have e:andK .u32 (x.toNat:Int) (y.toNat:Int)=IntKind.u32.wrap (((qQ 32 (x.toNat:Int) &&& qQ 32 (y.toNat:Int)).toNat:Nat):Int):=rfl;rw[e,xK,xK,xW,xW,xV,xV];exact w32_toNat _
theorem or32:orK .u32 (x.toNat:Int) (y.toNat:Int)=((x ||| y).toNat:Int):=by
 have e:orK .u32 (x.toNat:Int) (y.toNat:Int)=IntKind.u32.wrap (((qQ 32 (x.toNat:Int) ||| qQ 32 (y.toNat:Int)).toNat:Nat):Int):=rfl;rw[e,xK,xK,xW,xW,xV,xV];exact w32_toNat _
theorem xor32:xorK .u32 (x.toNat:Int) (y.toNat:Int)=((x ^^^ y).toNat:Int):=by
 have e:xorK .u32 (x.toNat:Int) (y.toNat:Int)=IntKind.u32.wrap (((qQ 32 (x.toNat:Int) ^^^ qQ 32 (y.toNat:Int)).toNat:Nat):Int):=rfl;rw[e,xK,xK,xW,xW,xV,xV];exact w32_toNat _
theorem and32n (n:Nat):andK .u32 (x.toNat:Int) (n:Int)=((x &&& BitVec.ofNat 32 n).toNat:Int):=by
 have e:andK .u32 (x.toNat:Int) (n:Int)=IntKind.u32.wrap (((qQ 32 (x.toNat:Int) &&& qQ 32 (n:Int)).toNat:Nat):Int):=rfl;rw[e,xK,xK,xW,xV];exact w32_toNat _
theorem not32:notK .u32 (x.toNat:Int)=((~~~x).toNat:Int):=by
 have e:notK .u32 (x.toNat:Int)=IntKind.u32.wrap (((qQ 32 4294967295 ^^^ qQ 32 (x.toNat:Int)).toNat:Nat):Int):=rfl;have e2:qQ 32 4294967295=BitVec.allOnes 32:=by decide
 rw[e,e2,xK,xW,xV,BitVec.allOnes_xor];exact w32_toNat _
theorem add32:IntKind.u32.wrap ((x.toNat:Int)+(y.toNat:Int))=((x+y).toNat:Int):=by
 rw[wrap_u32,BitVec.toNat_add];omega
theorem fdivn (m k:Nat):((m:Int).fdiv (2 ^ k))=((m / 2 ^ k:Nat):Int):=by
 rw[Int.fdiv_eq_ediv_of_nonneg _ (Int.le_of_lt (Int.pow_pos (by omega)))]
 push_cast
 rfl
theorem shr32 (k:Nat)(hk:k≤32):shrK .u32 (x.toNat:Int) (k:Int)=((x >>> k).toNat:Int):=by
 have e:shrK .u32 (x.toNat:Int) (k:Int)=(x.toNat:Int).fdiv (2 ^ (min ((k:Nat):Int).toNat 32)):=rfl;rw[e,iTn,Nat.min_eq_left hk,BitVec.toNat_ushiftRight,Nat.shiftRight_eq_div_pow,fdivn]
theorem shl32 (k:Nat)(hk:k≤32):shlK .u32 (x.toNat:Int) (k:Int)=((x <<< k).toNat:Int):=by
 have e0:shlK .u32 (x.toNat:Int) (k:Int)=IntKind.u32.wrap ((x.toNat:Int)*2 ^ (min ((k:Nat):Int).toNat 32)):=rfl;have e:(x.toNat:Int)*2 ^ k=((x.toNat*2 ^ k:Nat):Int):=by rw[Int.natCast_mul,Int.natCast_pow];rfl
 rw[e0,iTn,Nat.min_eq_left hk,BitVec.toNat_shiftLeft,Nat.shiftLeft_eq,wrap_u32,e];generalize x.toNat*2 ^ k=m;omega
theorem cut32:IntKind.u8.wrap (x.toNat:Int)=((x.setWidth 8).toNat:Int):=by
 rw[wrap_u8,xU];generalize x.toNat=m;omega
theorem ext8:IntKind.u32.wrap (a.toNat:Int)=((a.setWidth 32).toNat:Int):=by
 rw[wrap_u32,xU,Nat.mod_eq_of_lt (by have:=a.isLt;omega)];have:=a.isLt;omega
end
def rc (w:World)(b o:Nat):Option Value:=match w.heap[b]? with | some (.cells c _ _)=>c[o]? | _=>none
theorem rc_row (h:rc w b o=some v):∃ c e fz,w.heap[b]?=some (.cells c e fz)∧c[o]?=some v:=by
 unfold rc at h;split at h
 ·exact⟨_,_,_,by assumption,h⟩
 ·cases h
theorem qXe (h:w.heap[b]?=some (.cells c e fz)):rc w b o=c[o]?:=by simp[rc,h]
theorem rc_lt (h:rc w b o=some v):b<w.heap.size:=by
 obtain⟨c,e,fz,h1,_⟩:=rc_row h;exact qQh h1
theorem rc_blk (h:w'.heap[b]?=w.heap[b]?)(o:Nat):rc w' b o=rc w b o:=by simp[rc,h]
theorem rd_rc {t:TypeId}(ha:aggO P t=some false)(h:rc w b o=some v):rdO P t w b o=some v:=by
 obtain⟨c,e,fz,h1,h2⟩:=rc_row h;simp[rdO,ldO,h1,ha,h2]
theorem rd_rcs {t:TypeId}{vs:Array Value}(ha:aggO P t=some true)(hs:szO P t=some n)(hn:vs.size=n)(h0:0<n)(h:∀ i, i<n→rc w b (o+i)=vs[i]?) :
  rdO P t w b o=some (.agg vs):=by
 have h1:=h 0 h0;have h2:vs[0]?=some vs[0]:=qB (by omega);rw[h2]at h1;obtain⟨c,e,fz,hc,_⟩:=rc_row h1;have hq:∀ i,i<n→c[o+i]?=vs[i]?:=fun i hi=>by rw[← h i hi,qXe hc]
 have hsz:o+n≤c.size:=by
  have h3:=hq (n - 1) (by omega);have h4:vs[n - 1]?=some vs[n - 1]:=qB (by omega);rw[h4]at h3;have:=(Array.getElem?_eq_some_iff.1 h3).1;omega
 have he:c.extract o (o+n)=vs:=by
  apply Array.ext_getElem?;intro i;rw[xZ];split
  ·exact hq i (by omega)
  ·rw[Array.getElem?_eq_none (by omega)]
 simp[rdO,ldO,hc,ha,hs,hsz,he]
theorem Fr.rc {F:Nat→Prop}{w w':World}(h:Fr F w w'){b:Nat}(hb:b<w.heap.size)(hf:¬ F b)(o:Nat):rc w' b o=rc w b o:=rc_blk (h.blk b hb hf) o
def Rd (w:World)(sz:Nat)(v:Value)(n:Nat)(cs:List Value):Prop :=
 cs.length=n*sz∧∃ a cap,v=.slice a n cap∧n≤cap∧(0<n*sz→∃ b o,a=some ⟨b,o,none⟩∧∀ i,i<n*sz→rc w b (o+i)=cs[i]?)
section
variable {w w':World} {sz n:Nat} {v:Value} {cs:List Value}
theorem Rd.frame (h:Rd w sz v n cs)(hf:∀ b,qQg v=some b→b<w.heap.size→w'.heap[b]?=w.heap[b]?):Rd w' sz v n cs:=by
 obtain⟨h1,a,cap,rfl,h2,h3⟩:=h;refine⟨h1,a,cap,rfl,h2,fun h0=>?_⟩;obtain⟨b,o,rfl,h4⟩:=h3 h0;refine⟨b,o,rfl,fun i hi=>?_⟩;rw[← h4 i hi]
 have hl:∃ u,cs[i]?=some u:=⟨_,List.getElem?_eq_getElem (by omega)⟩
 obtain⟨u,hu⟩:=hl;have:=rc_lt ((h4 i hi).trans hu);exact rc_blk (hf b rfl this) _
theorem Rd.fr (h:Rd w sz v n cs)(k:Fr F w w')(hf:∀ b,qQg v=some b→b<w.heap.size→¬ F b):Rd w' sz v n cs :=
 h.frame fun b hb hl=>k.blk b hl (hf b hb hl)
theorem OwnO.rd (h:OwnO w e sz v n cs):Rd w sz v n cs:=by
 rcases h with ⟨rfl,rfl,rfl⟩ | ⟨b,o,cap,c,rfl,h,hc,hn,hl,ht⟩
 ·exact⟨by simp,_,_,rfl,xT _,fun h=>by omega⟩
 ·exact⟨hl,_,_,rfl,hn,fun _=>⟨b,o,rfl,fun i hi=>by rw[qXe h];exact ht i hi⟩⟩
end
def By (w:World)(v:Value)(bs:List Byte):Prop:=Rd w 1 v bs.length (bs.map u8)
section
variable {w w':World} {v:Value} {bs:List Byte}
theorem By.fr (h:By w v bs)(k:Fr F w w')(hf:∀ b,qQg v=some b→b<w.heap.size→¬ F b):By w' v bs:=Rd.fr h k hf
theorem By.fr0 (h:By w v bs)(k:Fr (fun _=>False) w w'):By w' v bs:=Rd.fr h k fun _ _ _ h=>h
theorem By.at (h:By w v bs):∃ a cap,v=.slice a bs.length cap∧bs.length≤cap∧∀ i (hi:i<bs.length),∃ b o,a=some ⟨b,o,none⟩∧rc w b (o+i)=some (u8 bs[i]):=by
 obtain⟨h1,a,cap,rfl,h2,h3⟩:=h;refine⟨a,cap,rfl,h2,fun i hi=>?_⟩;obtain⟨b,o,rfl,h4⟩:=h3 (by omega);refine⟨b,o,rfl,?_⟩;rw[h4 i (by omega)];simp[hi]
end
theorem Rd.cut (h:Rd w sz (.slice a n cap) n cs){l m:Nat}(hl:l≤m)(hm:m≤n)(a':Option Addr)
  (ha:a'=if cap=l then a else a.map (fun (q:Addr)=>q.add (l*sz))):Rd w sz (.slice a' (m - l) (cap - l)) (m - l) ((cs.drop (l*sz)).take ((m - l)*sz)):=by
 obtain⟨h1,a0,cap0,he,h2,h3⟩:=h;cases he;have hms:m*sz≤n*sz:=xP sz hm;have hls:(m - l)*sz=m*sz - l*sz:=Nat.sub_mul m l sz;have hlm:l*sz≤m*sz:=xP sz hl;refine⟨by rw[lTk,lDr];omega,a',_,rfl,by omega,fun h0=>?_⟩
 have hlt:l<m:=by
  rcases Nat.lt_or_ge l m with h | h
  ·exact h
  ·rw[show m - l=0 by omega]at h0;simp at h0
 obtain⟨b,o,rfl,h4⟩:=h3 (by omega);rw[if_neg (by omega),Option.map_some,qKj]at ha;refine⟨b,o+l*sz,ha,fun i hi=>?_⟩;rw[Nat.add_assoc,h4 _ (by omega),List.getElem?_take,if_pos hi,List.getElem?_drop]
theorem By.cut {bs:List Byte}(h:By w (.slice a n cap) bs){l m:Nat}(hl:l≤m)(hm:m≤n)(hn:bs.length=n)(a':Option Addr)
  (ha:a'=if cap=l then a else a.map (fun (q:Addr)=>q.add (l*1))):By w (.slice a' (m - l) (cap - l)) ((bs.drop l).take (m - l)):=by
 subst hn;have e:((bs.drop l).take (m - l)).length=m - l:=by rw[lTk,lDr];omega
 have:=Rd.cut (sz:=1) h hl hm a' ha;unfold By;rw[e,List.map_take,List.map_drop];simpa using this
end
def crcT:List W32:=[0,498536548,997073096,651767980,1994146192,1802195444,1303535960,1342533948,3988292384,4027552580,3604390888,3412177804,2607071920,2262029012,2685067896,3183342108]
def crcStep (r:W32):W32:=crcT.getD (r &&& 15#32).toNat 0 ^^^ (r >>> 4)
def crcByte (r:W32)(x:Byte):W32:=crcStep (crcStep (r ^^^ x.setWidth 32))
def qJu (r:W32)(bs:List Byte):W32:=bs.foldl crcByte r
def qJt (c:W32)(bs:List Byte):W32:= ~~~ qJu (~~~ c) bs
def sealB (s:W32):List Byte:=[s.setWidth 8,(s >>> 8).setWidth 8,(s >>> 16).setWidth 8,(s >>> 24).setWidth 8]
theorem sealB_len (s:W32):(sealB s).length=4:=rfl
def wholeB (bs:List Byte):Bool:=decide (bs.drop (bs.length - 4)=sealB (qJt 0 (bs.take (bs.length - 4))))
def crcG:W32:=3988292384
def step1 (r:W32):W32:=(r >>> 1) ^^^ (if r.getLsbD 0 then crcG else 0)
theorem qZi {r:W32}{j:Nat}(hj:j<32):(step1 r).getLsbD j=(r.getLsbD (j+1) != (r.getLsbD 0 && crcG.getLsbD j)):=by
 unfold step1;rw[xY,BitVec.getLsbD_ushiftRight,Nat.add_comm 1 j]
 cases r.getLsbD 0 <;> simp
theorem step1_xor (a b:W32):step1 (a ^^^ b)=step1 a ^^^ step1 b:=by
 refine BitVec.eq_of_getLsbD_eq fun j hj=>?_;rw[xY,qZi hj,qZi hj,qZi hj,xY,xY]
 cases a.getLsbD (j+1) <;> cases b.getLsbD (j+1) <;> cases a.getLsbD 0 <;> cases b.getLsbD 0 <;> cases crcG.getLsbD j <;> rfl
def bit4 (b0 b1 b2 b3:Bool):W32:=(if b0 then crcG >>> 3 else 0) ^^^ (if b1 then crcG >>> 2 else 0) ^^^ (if b2 then crcG >>> 1 else 0) ^^^ (if b3 then crcG else 0)
theorem low4 (r:W32):(r &&& 15#32).toNat=(r.getLsbD 0).toNat+2*(r.getLsbD 1).toNat+4*(r.getLsbD 2).toNat+8*(r.getLsbD 3).toNat:=by
 have e:(r &&& 15#32).toNat=r.toNat % 16:=by rw[BitVec.toNat_and];exact Nat.and_two_pow_sub_one_eq_mod _ 4
 have b:∀ i,(r.getLsbD i).toNat=r.toNat / 2 ^ i % 2:=fun i=>by
  show (r.toNat.testBit i).toNat=_;rw[Nat.toNat_testBit]
 rw[e,b,b,b,b];generalize r.toNat=n;omega
theorem tab4 (b0 b1 b2 b3:Bool):crcT.getD (b0.toNat+2*b1.toNat+4*b2.toNat+8*b3.toNat) 0=bit4 b0 b1 b2 b3:=by
 cases b0 <;> cases b1 <;> cases b2 <;> cases b3 <;> decide
theorem step4 (r:W32):step1 (step1 (step1 (step1 r)))=crcStep r:=by
 unfold crcStep;rw[low4,tab4];have g0:crcG.getLsbD 0=false:=by decide
 have g1:crcG.getLsbD 1=false:=by decide
 have g2:crcG.getLsbD 2=false:=by decide
 have e1:(step1 r).getLsbD 0=r.getLsbD 1:=by rw[qZi (by omega),g0];simp
 have e2:(step1 (step1 r)).getLsbD 0=r.getLsbD 2:=by rw[qZi (by omega),qZi (by omega),g0,g1];simp
 have e3:(step1 (step1 (step1 r))).getLsbD 0=r.getLsbD 3:=by rw[qZi (by omega),qZi (by omega),qZi (by omega),g0,g1,g2];simp
 have s:∀ x:W32,step1 x=(x >>> 1) ^^^ (if x.getLsbD 0 then crcG else 0):=fun _=>rfl;rw[s (step1 (step1 (step1 r))),e3,s (step1 (step1 r)),e2,s (step1 r),e1,s r];unfold bit4;simp only[BitVec.ushiftRight_xor_distrib,← BitVec.shiftRight_add,Nat.reduceAdd]
 cases r.getLsbD 0 <;> cases r.getLsbD 1 <;> cases r.getLsbD 2 <;> cases r.getLsbD 3 <;> simp[] <;> ac_rfl
def qZo (r:W32)(b:Bool):W32:=step1 (r ^^^ (if b then 1 else 0))
def bitsOf (x:Byte):List Bool:=(List.range 8).map x.getLsbD
def qZv (bs:List Byte):List Bool:=(bs.map bitsOf).flatten
theorem allBits_len (bs:List Byte):(qZv bs).length=8*bs.length:=by
 induction bs with
 | nil=>rfl
 | cons x bs ih =>
  show (bitsOf x++qZv bs).length=_;rw[lAp,ih,List.length_cons];show 8+_=_;omega
theorem crcByte_bits (r:W32)(x:Byte):crcByte r x=(bitsOf x).foldl qZo r:=by
 have e:x.setWidth 32=(if x.getLsbD 0 then 1 else 0) ^^^ (if x.getLsbD 1 then 2 else 0) ^^^ (if x.getLsbD 2 then 4 else 0) ^^^ (if x.getLsbD 3 then 8 else 0) ^^^ (if x.getLsbD 4 then 16 else 0) ^^^ (if x.getLsbD 5 then 32 else 0) ^^^ (if x.getLsbD 6 then 64 else 0) ^^^ (if x.getLsbD 7 then (128:W32) else 0):=by
  revert x;decide
 unfold crcByte;rw[← step4,← step4,e];show _=qZo (qZo (qZo (qZo (qZo (qZo (qZo (qZo r (x.getLsbD 0)) (x.getLsbD 1)) (x.getLsbD 2)) (x.getLsbD 3)) (x.getLsbD 4)) (x.getLsbD 5)) (x.getLsbD 6)) (x.getLsbD 7);unfold qZo;simp only[step1_xor];have p1:∀ b:Bool,step1 (if b then (2:W32) else 0)=if b then 1 else 0:=by decide
 have p2:∀ b:Bool,step1 (if b then (4:W32) else 0)=if b then 2 else 0:=by decide
 have p3:∀ b:Bool,step1 (if b then (8:W32) else 0)=if b then 4 else 0:=by decide
 have p4:∀ b:Bool,step1 (if b then (16:W32) else 0)=if b then 8 else 0:=by decide
 have p5:∀ b:Bool,step1 (if b then (32:W32) else 0)=if b then 16 else 0:=by decide
 have p6:∀ b:Bool,step1 (if b then (64:W32) else 0)=if b then 32 else 0:=by decide
 have p7:∀ b:Bool,step1 (if b then (128:W32) else 0)=if b then 64 else 0:=by decide
 simp only[p1,p2,p3,p4,p5,p6,p7]
 ac_rfl
theorem crcFeed_bits (r:W32)(bs:List Byte):qJu r bs=(qZv bs).foldl qZo r:=by
 induction bs generalizing r with
 | nil=>rfl
 | cons x bs ih =>
  show qJu (crcByte r x) bs=(bitsOf x++qZv bs).foldl qZo r;rw[List.foldl_append,ih,crcByte_bits]
end Go.V
