/- Helpers. -/
import Derived.Test.YtmenaeggoakppaaGreatDoorG18
import Derived.Test.YtmenaeggoakppaaGreatDoorG11
set_option linter.all false
set_option maxRecDepth 100000
set_option maxHeartbeats 8000000
open Array renaming length_toList→zJ,getElem?_toList→xZ,foldl→yY,size_append→qO
open Go.Builtin renaming append_→qN,zeroCells→xH,nextslicecap→xG,firstCells→xU
open List renaming replicate→zG,getElem?_append_right→jN,getElem?_append_left→zL,flatten_cons→zY,length_set→jY,length_map→zU,mem_or_eq_of_mem_set→yU,getElem?_toArray→zX
open Nat renaming zero_add→z8,add_mul→xN,mul_le_mul_right→xM,le_refl→xP,zero_mul→jA
namespace Go.V
variable {c xs:Array Value} {ev:Ev} {K:Ev→World→Prop} {ds:List (List Byte)} {d:List Byte} {bad:List Nat} {b by' cap f i j k n o t t':Nat} {F:Nat→Prop} {v z:Value} {w w0:World}
section
variable {P:Program} {ops:Array Oper} {X:Nat→Bool}
theorem qJu:(false == true)=false:=rfl
theorem tf_beq:(true == false)=false:=rfl
theorem outK_mono {r:Out}{K K':Value→World→Prop}(hk:∀ v w',K v w'→K' v w')(h:outK P r w K):outK P r w K':=by
 unfold outK at *;split
 ·exact hk _ _ h
 ·exact h.elim
 ·exact⟨h.1,h.2.mono hk⟩
 ·obtain⟨v,w',h1,h2⟩:=h;exact⟨v,w',h1,hk _ _ h2⟩
theorem qJi {K K':Ev→World→Prop}(hk:∀ ev w,K ev w→K' ev w){o:Option Oper}(h:stepD P ops X k K ev w o):stepD P ops X k K' ev w o:=by
 unfold stepD at *;split
 ·exact h.elim
 ·rename_i o
  simp only at h;split
  ·rename_i hw
   rw[if_pos hw]at h;exact outK_mono (fun v w' hv=>⟨hv.1,hk _ _ hv.2⟩) h
  ·rename_i hw
   rw[if_neg hw]at h;exact hk _ _ h
theorem qXm {K K':Ev→World→Prop}(hk:∀ ev w,K ev w→K' ev w):∀ (t:OT) {ev:Ev} {w:World},denOT P ops X K t ev w→denOT P ops X K' t ev w
 | .nil,_,_,h=>hk _ _ h
 | .one _ t,_,_,h=>qJi (fun _ _ h=>qXm hk t h) h
 | .two _ t _ s,_,_,h=>⟨qJi (fun _ _ h=>qXm hk t h) h.1,qJi (fun _ _ h=>qXm hk s h) h.2⟩
 | .tri _ t _ s _ r,_,_,h=>⟨qJi (fun _ _ h=>qXm hk t h) h.1,qJi (fun _ _ h=>qXm hk s h) h.2.1,qJi (fun _ _ h=>qXm hk r h) h.2.2⟩
theorem qXb {y:List Value}(hz:y.length=32)(hc:c.size=32)(hd:d.length=32)(g:Array Value→Value × World) :
  (Sum.inl (if 1*32≤2 ^ 24∧0<32∧c.size=32 then Option.map g (if (decide ¬(List.map u8 d).toArray.size=32 || decide ((List.map u8 d).toArray.size > (zrow y 1).size))=true then none else some (yY (fun cs x=>cs.setIfInBounds x.snd x.fst) (zrow y 1) (List.map u8 d).toArray.zipIdx)) else none):Out)=.inl (some (g (bl d))):=by
 have h:=fill_dg hz hd;have hzr:(zrow y 1).size=32:=by simp[zrow,hz]
 simp only[Instr.fill,Value.cells,dg_size,hd,hzr,jA,z8]at h;rw[if_neg (by decide)]at h;rw[if_pos ⟨by decide,by decide,hc⟩,dg_size,hd,hzr,if_neg (by decide),Option.map_some];simp only[oSi]at h;rw[h]
theorem denL_mono {K K':Ev→World→Prop}(hk:∀ ev w,K ev w→K' ev w):∀ (l:List Oper) {ev:Ev} {w:World},denL P ops K l ev w→denL P ops K' l ev w
 | [],_,_,h=>hk _ _ h
 | o::r,ev,w,h=>by
  simp only[denL]at h ⊢;split
  ·rename_i hw
   rw[if_pos hw]at h;exact outK_mono (fun v w' hv=>denL_mono hk r hv) h
  ·rename_i hw
   rw[if_neg hw]at h;exact denL_mono hk r h
theorem CodeD_mono {c:Code}{Q Q':Post}(h:∀ e ev w,Q e ev w→Q' e ev w)(H:CodeD P n c Q ev w):CodeD P n c Q' ev w :=
 fun a hn hd he=>wp_mono (H a hn hd he) fun _ _ _ hq=>⟨hq.1,hq.2.1,h _ _ _ hq.2.2⟩
theorem den_mono:∀ (c:Code) {Q Q':Post},(∀ e ev w,Q e ev w→Q' e ev w)→∀ {ev:Ev} {w:World},den P n bad c Q ev w→den P n bad c Q' ev w:=by
 intro c
 induction c with
 | skip=>exact fun h ev w H=>h _ _ _ H
 | label l=>exact fun h ev w H=>h _ _ _ H
 | seq x y ihx ihy =>
  intro Q Q' h ev w H;refine ihx (fun e ev w hq=>?_) (show den P n bad x (thenQ (den P n bad y Q) Q) ev w from H)
  cases e with
  | normal=>exact ihy h hq
  | _=>exact h _ _ _ hq
 | cond c x y ihx ihy =>
  intro Q Q' h ev w H;simp only[den]at H ⊢;split
  ·rename_i b hb
   rw[hb]at H;simp only at H;split
   ·rename_i hb'
    rw[if_pos hb']at H;exact ihx h H
   ·rename_i hb'
    rw[if_neg hb']at H;exact ihy h H
  ·rename_i hno
   split at H
   ·rename_i b hb;exact absurd hb (hno b)
   ·exact H
 | block id c ih =>
  intro Q Q' h ev w H;refine ih (fun e ev w hq=>?_) (show den P n bad c (blockQ id Q) ev w from H)
  cases e with
  | exit i =>
   simp only[blockQ]at hq ⊢;split
   ·rename_i hi;rw[if_pos hi]at hq;exact h _ _ _ hq
   ·rename_i hi;rw[if_neg hi]at hq;exact h _ _ _ hq
  | _=>exact h _ _ _ hq
 | exit id=>exact fun h ev w H=>h _ _ _ H
 | ret=>exact fun h ev w H=>h _ _ _ H
 | region id ops d =>
  intro Q Q' h ev w H;simp only[den]at H ⊢;split
  ·rename_i hd
   rw[if_pos hd]at H;split
   ·rename_i hb
    rw[if_pos hb]at H;exact CodeD_mono h H
   ·rename_i hb
    rw[if_neg hb]at H;exact denL_mono (h _) _ H
  ·rename_i hd
   rw[if_neg hd]at H;exact denL_mono (h _) _ H
 | loop c ih=>exact fun h ev w H ho=>CodeD_mono h (H ho)
 | _=>exact fun h ev w H=>CodeD_mono h H
def holdL (K:Ev→World→Prop)(ev:Ev)(w:World)(_:Unit):Prop:=K ev w
theorem holdL_only {u u':Unit}(h:u=u'):holdL K ev w u=holdL K ev w u':=by rw[h]
attribute [congr] holdL_only
theorem hold_go {u:Unit}(h:K ev w):holdL K ev w u:=h
def thenH (K:Ev→World→Prop)(Q:Post):Post:=fun e=>match e with | .normal=>fun ev w=>holdL K ev w () | e=>Q e
theorem thenH_normal (K:Ev→World→Prop)(Q:Post)(ev:Ev)(w:World):thenH K Q .normal ev w=holdL K ev w ():=rfl
theorem thenH_ret (K:Ev→World→Prop)(Q:Post):thenH K Q .ret=Q .ret:=rfl
theorem thenH_exit (K:Ev→World→Prop)(Q:Post)(i:Nat):thenH K Q (.exit i)=Q (.exit i):=rfl
def headC:Nat→Code→Code
 | 0,_=>.skip
 | k+1,.seq x y=>.seq x (headC k y)
 | _,c=>c
def tailC:Nat→Code→Code
 | 0,c=>c
 | k+1,.seq _ y=>tailC k y
 | _,_=>.skip
theorem den_cut:∀ (k:Nat) {c:Code} {Q:Post} {ev:Ev} {w:World},den P n bad (headC k c) (thenH (den P n bad (tailC k c) Q) Q) ev w→den P n bad c Q ev w:=by
 intro k
 induction k with
 | zero=>intro c Q ev w h;exact h
 | succ k ih =>
  intro c Q ev w h
  cases c with
  | seq x y =>
   refine den_mono x (fun e ev w hq=>?_) (show den P n bad x (thenQ (den P n bad (headC k y) (thenH (den P n bad (tailC k y) Q) Q)) (thenH (den P n bad (tailC k y) Q) Q)) ev w from h)
   cases e with
   | normal=>exact ih hq
   | _=>exact hq
  | _ =>
   refine den_mono _ (fun e ev w hq=>?_) h
   cases e with
   | normal=>exact hq
   | _=>exact hq
theorem den_split {x y:Code}{Q:Post}(R:Ev→World→Prop)(h1:den P n bad x (thenQ R Q) ev w)(h2:∀ ev w,R ev w→den P n bad y Q ev w):den P n bad (.seq x y) Q ev w :=
 den_mono x (fun e ev w hq=>by
  cases e with
  | normal=>exact h2 _ _ hq
  | _=>exact hq) h1
theorem headC_seq (k:Nat)(x y:Code):headC (k+1) (.seq x y)=.seq x (headC k y):=rfl
theorem headC_zero (c:Code):headC 0 c=.skip:=rfl
theorem den_only {c c':Code}{Q:Post}(h:c=c'):den P n bad c Q ev w=den P n bad c' Q ev w:=by rw[h]
attribute [congr] den_only
attribute [go_sem] thenH_normal thenH_ret thenH_exit headC_seq headC_zero
theorem qJk {ts:Array TypeId}{e sz by':Nat}(ht:AppT P ts e sz by' z){cs:List Value}(hv:Nw w0 w e sz v n cs)
  {m:Nat} (hxs:xs.size=m*sz) (hone:xs.toList.all one=true) (hsz0:0<sz)
  (hbd:∀ cap,n≤cap→cap<n+m→xG (n+m) cap*by'≤2 ^ 48) (hbd2:n+m≤9223372036854775807) (f:w0.heap.size≤w.heap.size) :
  ∃ v' w',(qN ts 0 #[v,.slice (some ⟨w.heap.size,0,none⟩) m m]).run P (w.alloc (.cells xs e))=.ok v' w'∧Nw w0 w' e sz v' (n+m) (cs++xs.toList)∧Fr (fun b=>qQb v=some b) w w' ∧
   ∀ b,qQb v'=some b→qQb v=some b∨w.heap.size≤b:=by
 have f1:No w (w.alloc (.cells xs e)):=(Fr.refl _ _).alloc _
 have hx:Rd (w.alloc (.cells xs e)) sz (.slice (some ⟨w.heap.size,0,none⟩) m m) m xs.toList :=
  ⟨by rw[zJ,hxs],_,_,rfl,xP _,fun _=>⟨_,_,rfl,fun i hi=>by rw[qXd (qQc _ _),z8,xZ]⟩⟩
 obtain⟨v',w',hr,h1,h2,h3⟩:=app_nw ht (hv.fr0 f1) hx hone hsz0 hbd hbd2 (by have:=f1.size;omega);have f2:Fr (fun b=>qQb v=some b) w w':=(f1.mono fun _ _ h=>h.elim).trans h2;exact⟨v',w',hr,h1,f2,fun b hb=>(h3 b hb).imp id fun h=>by rw[qQd]at h;omega⟩
theorem NwD.pushX {ts:Array TypeId}{e:Nat}(ht:AppT P ts e 32 32 z)(hv:NwD w0 w e v ds)(hd:d.length=32)
  (hbd:(ds.length+ds.length / 4+1024)*32≤2 ^ 48) (f:w0.heap.size≤w.heap.size) :
  ∃ v' w',(qN ts 0 #[v,.slice (some ⟨w.heap.size,0,none⟩) 1 1]).run P (w.alloc (.cells (bl d) e))=.ok v' w'∧NwD w0 w' e v' (ds++[d])∧Fr (fun b=>qQb v=some b) w w' ∧
   ∀ b,qQb v'=some b→qQb v=some b∨w.heap.size≤b:=by
 obtain⟨v',w',hr,h1,h3,h4⟩:=qJk ht hv.2 (m:=1) (xs:=bl d) (by rw[qXa,hd]) (qXs d) (by omega) (bd_one hbd) (by omega) f;refine⟨v',w',hr,⟨hv.1.app (All32.one hd),?_⟩,h3,h4⟩;rw[lAp,qJv,flat_one];exact h1
theorem over_all {ds xs:List (List Byte)}(h:All32 ds)(k:All32 xs):All32 (Wit.over f ds xs):=(h.take _).app (k.app (h.drop _))
theorem dcopy {ts:Array TypeId}{t e:Nat}(h0:ts[0]?=some t)(hs:slcO P t=some e)(hsz:szO P e=some 32){e' b n:Nat}(h:NwD w0 w e' (.slice (some ⟨b, 0, none⟩) n n) ds)
  {x:Value} {xs:List (List Byte)} (hx:RdD w x xs) (hf:f+xs.length≤n) :
  ∃ w',(Builtin.copy_ ts 0 #[cutV 32 (some ⟨b,0,none⟩) n f n,x]).run P w=.ok (.int .i64 (xs.length:Nat)) w'∧NwD w0 w' e' (.slice (some ⟨b,0,none⟩) n n) (Wit.over f ds xs)∧Fr (fun c=>c=b) w w':=by
 have hn:=h.rd.len;obtain⟨h32,hown,hnew⟩:=h;subst hn
 rcases hown with ⟨he,_⟩ | ⟨b',o',cap',c,he,hb,hc,hncap,hl,hat⟩
 ·cases he
 ·cases he
  have ha:∃ o,cutV 32 (some (⟨b,0,none⟩:Addr)) ds.length f ds.length=.slice (some ⟨b,o,none⟩) (ds.length - f) (ds.length - f)∧(o=f*32∨xs.length=0∧o=0):=by
   unfold cutV
   by_cases hh:ds.length=f
   ·rw[if_pos hh];exact⟨0,rfl,.inr ⟨by omega,rfl⟩⟩
   ·rw[if_neg hh]
    refine⟨0+f*32,?_,.inl (by omega)⟩;rw[Option.map_some,qZh]
  obtain⟨o,hcut,ho⟩:=ha;have hmin:min xs.length (ds.length - f)=xs.length:=by omega
  have hfl:=qJf hx.1
  have hfit:o+min xs.length (ds.length - f)*32≤c.size:=by rw[hmin];rcases ho with rfl | ⟨h1,rfl⟩ <;> omega
  have hr:=qKm (P:=P) h0 hs hsz (dn:=ds.length - f) (dc:=ds.length - f) (o:=o) hb hx.2 (flat_all xs) hfit;rw[hmin,List.take_of_length_le (by omega)]at hr;have hol:(Wit.over f ds xs).length=ds.length:=Wit.over_len hf;have ho32:=over_all (f:=f) h32 hx.1;refine⟨_,by rw[hcut];exact hr,⟨ho32,?_,hnew⟩,(Fr.refl _ _).put (b:=b) _ fun _=>rfl⟩;refine .inr ⟨b,0,ds.length,qXo (flat xs) o c,by rw[hol],qQf hb,by rw[qXn];exact hc,by rw[hol];exact xP _,by rw[qJf ho32],fun j hj=>?_⟩;rw[hol]at hj;rw[qZo,hfl];have hfd:(flat (ds.take f)).length=f*32:=by rw[qJf (h32.take _),lTk,Nat.min_eq_left (by omega)]
  unfold Wit.over;rw[qJv,qJv]
  by_cases hj1:j<f*32
  ·rw[if_neg (by rcases ho with rfl | ⟨h1,rfl⟩ <;> omega),zL (by omega),← flat_take h32,List.getElem?_take,if_pos hj1,hat j hj]
  ·rw[jN (by omega),hfd]
   by_cases hj2:j<f*32+xs.length*32
   ·have ho':o=f*32:=by rcases ho with h | ⟨h1,_⟩;exact h;omega
    subst ho';rw[if_pos ⟨by omega,by omega,by omega⟩,zL (by omega)]
    congr 1;omega
   ·rw[if_neg (by rcases ho with rfl | ⟨h1,rfl⟩ <;> omega),jN (by omega),hfl,← flat_drop h32,List.getElem?_drop,hat j hj]
    congr 1;omega
end
section
variable {P:Program}
abbrev Rows:=List (List Value)
def RowsOk (k:Nat)(l:Rows):Prop:=∀ r ∈ l,r.length=k∧r.all one=true
theorem RowsOk.nil (k:Nat):RowsOk k []:=fun _ h=>by cases h
theorem RowsOk.app {a b:Rows}(h:RowsOk k a)(g:RowsOk k b):RowsOk k (a++b):=fun r hr=>(List.mem_append.1 hr).elim (h r) (g r)
theorem RowsOk.one {k:Nat}{r:List Value}(h:r.length=k)(g:r.all one=true):RowsOk k [r]:=fun x hx=>by simp only[List.mem_singleton]at hx;subst hx;exact⟨h,g⟩
theorem RowsOk.tail {r:List Value}{l:Rows}(h:RowsOk k (r::l)):RowsOk k l:=fun x hx=>h x (by simp[hx])
theorem rows_at {k:Nat}:∀ {l:Rows},RowsOk k l→∀ {i:Nat} (hi:i<l.length) {j:Nat},j<k→l.flatten[i*k+j]?=l[i][j]?
 | r::l,h,0,_,j,hj=>by
  have:=(h r (by simp)).1;rw[zY,jA,z8,zL (by omega)];rfl
 | r::l,h,i+1,hi,j,hj=>by
  have:=(h r (by simp)).1;have e:=rows_at h.tail (show i<l.length by simpa using hi) hj;rw[zY,jN (by rw[xN];omega),this,show (i+1)*k+j - k=i*k+j by rw[xN];omega,e];rfl
theorem rows_set {k:Nat}:∀ {l:Rows},RowsOk k l→∀ {i:Nat} (hi:i<l.length) {j:Nat} (v:Value),j<k→(l.set i (l[i].set j v)).flatten=l.flatten.set (i*k+j) v
 | r::l,h,0,_,j,v,hj=>by
  have:=(h r (by simp)).1;simp only[List.set_cons_zero,List.getElem_cons_zero,zY,jA,z8];rw[List.set_append_left _ _ (by omega)]
 | r::l,h,i+1,hi,j,v,hj=>by
  have:=(h r (by simp)).1;have e:=rows_set h.tail (show i<l.length by simpa using hi) v hj;simp only[List.set_cons_succ,List.getElem_cons_succ,zY];rw[e,List.set_append_right _ _ (by rw[this,xN];omega),this]
  congr 2
  rw[xN];omega
theorem qKh {K:Nat}(hK:0<K)(hK2:1*K≤2 ^ 24){y:List Value}(hz:y.length=K)(hc:c.size=K)(hx:xs.size=K)(g:Array Value→Value × World) :
  (Sum.inl (if 1*K≤2 ^ 24∧0<K∧c.size=K then Option.map g (if (decide ¬xs.size=K || decide (xs.size > (zrow y 1).size))=true then none else some (yY (fun cs x=>cs.setIfInBounds x.snd x.fst) (zrow y 1) xs.zipIdx)) else none):Out)=.inl (some (g xs)):=by
 have hzr:(zrow y 1).size=K:=by simp[zrow,hz]
 have e:yY (fun (cs:Array Value) (x:Value × Nat)=>cs.setIfInBounds x.snd x.fst) (zrow y 1) xs.zipIdx=xs:=by
  have h:=foldl_zip xs.toList 0 0 (zrow y 1);simp only[z8]at h;rw[← Array.foldl_toList,Array.toList_zipIdx,h];apply Array.toList_inj.1;rw[qXk _ _ _ (by rw[zJ,hx,hzr];omega),List.take_zero,List.nil_append,z8,List.drop_of_length_le (by rw[zJ,zJ,hx,hzr];exact xP _),List.append_nil]
 rw[if_pos ⟨hK2,hK,hc⟩,hx,hzr,if_neg (by simp),e];rfl
def RdR (w:World)(k:Nat)(v:Value)(rows:Rows):Prop:=RowsOk k rows∧Rd w k v rows.length rows.flatten
def NwR (w0 w:World)(e k:Nat)(v:Value)(rows:Rows):Prop:=RowsOk k rows∧Nw w0 w e k v rows.length rows.flatten
section
variable {w0 w w':World} {e k:Nat} {v:Value} {rows:Rows}
theorem NwR.nil (w0 w:World)(e k:Nat):NwR w0 w e k (.slice none 0 0) []:=⟨RowsOk.nil _,Nw.nil _ _ _ _⟩
theorem NwR.rd (h:NwR w0 w e k v rows):RdR w k v rows:=⟨h.1,h.2.rd⟩
theorem NwR.fr (h:NwR w0 w e k v rows)(f:Fr F w w')(hf:∀ b,qQb v=some b→¬ F b):NwR w0 w' e k v rows:=⟨h.1,h.2.fr f hf⟩
theorem NwR.fr0 (h:NwR w0 w e k v rows)(f:No w w'):NwR w0 w' e k v rows:=⟨h.1,h.2.fr0 f⟩
theorem NwR.back {u:World}(h:NwR w0 w e k v rows)(hu:u.heap.size≤w0.heap.size):NwR u w e k v rows:=⟨h.1,h.2.back hu⟩
theorem NwR.lt (h:NwR w0 w e k v rows)(hb:qQb v=some b):w0.heap.size≤b∧b<w.heap.size:=⟨h.2.new b hb,h.2.own.lt hb⟩
theorem RdR.fr (h:RdR w k v rows)(f:Fr F w w')(hf:∀ b,qQb v=some b→b<w.heap.size→¬ F b):RdR w' k v rows:=⟨h.1,h.2.fr f hf⟩
theorem RdR.fr0 (h:RdR w k v rows)(f:No w w'):RdR w' k v rows:=⟨h.1,h.2.fr f fun _ _ _ h=>h⟩
theorem RdR.slice (h:RdR w k v rows):∃ a cap,v=.slice a rows.length cap∧rows.length≤cap:=by
 obtain⟨_,_,a,cap,e,h,_⟩:=h;exact⟨a,cap,e,h⟩
theorem RdR.pos (h:RdR w k v rows)(hk:0<k)(h0:0<rows.length):∃ b o cap,v=.slice (some ⟨b,o,none⟩) rows.length cap∧rows.length≤cap:=by
 obtain⟨_,_,a,cap,rfl,h,hat⟩:=h;obtain⟨b,o,rfl,_⟩:=hat (Nat.mul_pos h0 hk);exact⟨b,o,cap,rfl,h⟩
theorem RdR.cell (h:RdR w k (.slice (some ⟨b,o,none⟩) n cap) rows)(hi:i<rows.length)(hj:j<k):rc w b (o+i*k+j)=rows[i][j]?:=by
 obtain⟨h1,hl,a,cap',he,hcap,hat⟩:=h;cases he;have hik:(i+1)*k≤rows.length*k:=xM k hi;rw[xN]at hik;obtain⟨b',o',he,hat⟩:=hat (by omega);cases he;rw[Nat.add_assoc,hat _ (by omega),rows_at h1 hi hj]
theorem RdR.get (h:RdR w k (.slice (some ⟨b,o,none⟩) n cap) rows){t:TypeId}(ha:aggO P t=some true)(hs:szO P t=some k)(hk:0<k)(hi:i<rows.length):rdO P t w b (o+i*k)=some (.agg rows[i].toArray):=by
 have hl:=(h.1 _ (List.getElem_mem hi)).1;refine rd_rcs ha hs (by simp[hl]) hk fun j hj=>?_;rw[h.cell hi hj,zX]
theorem RdR.fld (h:RdR w k (.slice (some ⟨b,o,none⟩) n cap) rows){t:TypeId}(ha:aggO P t=some false)(hi:i<rows.length)(hj:j<k){x:Value}(hx:rows[i][j]?=some x):rdO P t w b (o+i*k+j)=some x :=
 rd_rc ha (by rw[h.cell hi hj];exact hx)
theorem RdR.sub (h:RdR w k (.slice (some ⟨b,o,none⟩) n cap) rows){t m:Nat}(ha:aggO P t=some true)(hs:szO P t=some m)(hm:0<m)(hi:i<rows.length)(hj:j+m≤k){xs:List Value}(hl:xs.length=m)(hx:∀ q,q<m→rows[i][j+q]?=xs[q]?):rdO P t w b (o+i*k+j)=some (.agg xs.toArray):=by
 refine rd_rcs ha hs (by simp[hl]) hm fun q hq=>?_;rw[Nat.add_assoc (o+i*k),h.cell hi (by omega),hx q hq,zX]
theorem NwR.push {ts:Array TypeId}(ht:AppT P ts e k by' z)(hv:NwR w0 w e k v rows){xs:List Value}(hxs:xs.length=k)(hone:xs.all one=true)(hk:0<k)
  (hbd:(rows.length+rows.length / 4+1024)*by'≤2 ^ 48) (hbd2:rows.length<2 ^ 60) (f:w0.heap.size≤w.heap.size) :
  ∃ v' w',(qN ts 0 #[v,.slice (some ⟨w.heap.size,0,none⟩) 1 1]).run P (w.alloc (.cells xs.toArray e))=.ok v' w'∧NwR w0 w' e k v' (rows++[xs])∧Fr (fun b=>qQb v=some b) w w' ∧
   ∀ b,qQb v'=some b→qQb v=some b∨w.heap.size≤b:=by
 obtain⟨v',w',hr,h1,h3,h4⟩:=qJk ht hv.2 (m:=1) (xs:=xs.toArray) (by simp[hxs]) (by simpa using hone) hk (bd_one hbd) (by omega) f;refine⟨v',w',hr,⟨hv.1.app (RowsOk.one hxs hone),?_⟩,h3,h4⟩;rw[lAp,List.flatten_append,List.flatten_singleton];exact h1
theorem NwR.setf (h:NwR w0 w e k (.slice (some ⟨b, o, none⟩) n cap) rows){t:TypeId}(hs:szO P t=some 1)(hi:i<rows.length)(hj:j<k){x:Value}(hx:one x=true) :
  ∃ w',wrO P t w b (o+i*k+j) x=some w'∧NwR w0 w' e k (.slice (some ⟨b,o,none⟩) n cap) (rows.set i (rows[i].set j x))∧Fr (fun c=>c=b) w w':=by
 obtain⟨h1,hown,hnew⟩:=h;have hrow:=h1 _ (List.getElem_mem hi);have hik:(i+1)*k≤rows.length*k:=xM k hi;rw[xN]at hik
 rcases hown with ⟨he,_⟩ | ⟨b',o',cap',c,he,hb,hc,hncap,hl,hat⟩
 ·cases he
 ·cases he
  have hcs:rows.length*k≤cap*k:=xM k hncap;refine⟨_,qZp hs hb hx (by omega),⟨fun r hr=>?_,?_,hnew⟩,(Fr.refl _ _).put (b:=b) _ fun _=>rfl⟩
  ·rcases yU hr with hr | rfl
   ·exact h1 r hr
   ·refine⟨by rw[jY];exact hrow.1,?_⟩
    rw[List.all_eq_true];intro y hy
    rcases yU hy with hy | rfl
    ·exact List.all_eq_true.1 hrow.2 y hy
    ·exact hx
  ·rw[rows_set h1 hi x hj,jY]
   refine .inr ⟨b,o,cap,c.setIfInBounds (o+i*k+j) x,rfl,qQf hb,by simpa using hc,hncap,by rw[jY];exact hl,fun q hq=>?_⟩;rw[Array.getElem?_setIfInBounds,List.getElem?_set]
   by_cases hqq:i*k+j=q
   ·subst hqq
    rw[if_pos (by omega),if_pos (by omega),if_pos rfl,if_pos (by omega)]
   ·rw[if_neg (by omega),if_neg hqq,hat q hq]
end
end
section
variable {P:Program}
theorem run_mapp_fit {ts:Array TypeId}{t t' e sz:Nat}(h0:ts[0]?=some t)(h1:ts[1]?=some t')(hs:slcO P t=some e)(hi:intO P t'=some .i64)
  (hsz:szO P e=some sz) {i:TypeInfo} (hin:P.info? e=some i) (hz:zeroO P e=some z) {w w':World} {b o n cap m:Nat} (hfit:n+m≤cap) (hm:m*sz≠0) (hm1:m<2 ^ 62) (hm2:m*i.bytes≤2 ^ 48)
  (hst:(storeCells ⟨b,o+n*sz,none⟩ (xH z.cells m).toList).run P w=.ok () w') :
  (qN ts 0 #[.slice (some ⟨b,o,none⟩) n cap,.int .i64 (m:Int)]).run P w=.ok (.slice (some ⟨b,o,none⟩) (n+m) cap) w':=by
 have hsl:=r_und (qXf hs) w;have hd:=r_und (qJe hi) w;have hti:∀ u:World,(typeInfo e).run P u=.ok i u:=fun u=>by simp[typeInfo,hin]
 have a0:(#[Value.slice (some ⟨b,o,none⟩) n cap,.int .i64 (m:Int)]:Array Value)[0]?=some (.slice (some ⟨b,o,none⟩) n cap):=rfl;have a1:(#[Value.slice (some ⟨b,o,none⟩) n cap,.int .i64 (m:Int)]:Array Value)[1]?=some (.int .i64 (m:Int)):=rfl;have hw:IntKind.i64.wrap (m:Int)=(m:Int):=by simp[IntKind.wrap,IntKind.bits,IntKind.signed];omega
 have c1:¬ ((m:Int)<0):=by omega
 have c2:¬ ((m:Int)*(i.bytes:Nat) > 2 ^ 48):=by
  have:((m*i.bytes:Nat):Int)≤2 ^ 48:=by exact_mod_cast hm2
  rw[Int.natCast_mul]at this;omega
 simp only[qN,h0,h1,a0,a1,Sem.run_bind,hsl,hd,Result.andThen_ok,qXp hsz,Sem.run_pure,if_true,asInt,asIntOf,hw,c1,if_false,hti,c2,iTn,hfit,Bool.not_true,Bool.false_eq_true,hm,r_zero hz,qZh,hst]
theorem run_mapp_grow {ts:Array TypeId}{t t' e sz:Nat}(h0:ts[0]?=some t)(h1:ts[1]?=some t')(hs:slcO P t=some e)(hi:intO P t'=some .i64)
  (hsz:szO P e=some sz) {i:TypeInfo} (hin:P.info? e=some i) (hz:zeroO P e=some z) {n cap m:Nat} {ba:Option Addr} {old:Array Value} (hfit:¬ n+m≤cap) (hm:m*sz≠0) (hm1:n+m<2 ^ 62) (hm2:m*i.bytes≤2 ^ 48)
  (hb2:xG (n+m) cap*i.bytes≤2 ^ 48)
  (hold:∀ u:World,u.heap=w.heap→(xU sz n (.slice ba n cap)).run P u=.ok old u) :
  ∃ nc,n+m≤nc∧(qN ts 0 #[.slice ba n cap,.int .i64 (m:Int)]).run P w=.ok (.slice (some ⟨w.heap.size,0,none⟩) (n+m) nc) (w.drew.alloc (.cells (old++xH z.cells m++xH z.cells (nc - (n+m))) e)):=by
 have hsl:=r_und (qXf hs) w;have hd:=r_und (qJe hi) w;have hti:∀ u:World,(typeInfo e).run P u=.ok i u:=fun u=>by simp[typeInfo,hin]
 have a0:(#[Value.slice ba n cap,.int .i64 (m:Int)]:Array Value)[0]?=some (.slice ba n cap):=rfl;have a1:(#[Value.slice ba n cap,.int .i64 (m:Int)]:Array Value)[1]?=some (.int .i64 (m:Int)):=rfl;have hw:IntKind.i64.wrap (m:Int)=(m:Int):=by simp[IntKind.wrap,IntKind.bits,IntKind.signed];omega
 have c0:¬ ((m:Int)<0):=by omega
 have c3:¬ ((m:Int)*(i.bytes:Nat) > 2 ^ 48):=by
  have:((m*i.bytes:Nat):Int)≤2 ^ 48:=by exact_mod_cast hm2
  rw[Int.natCast_mul]at this;omega
 have c1:¬ (((n+m:Nat):Int) > IntKind.i64.max∧(True∨i.bytes=0)):=fun h=>by
  have hmax:IntKind.i64.max=9223372036854775807:=by decide
  rw[hmax]at h;omega
 have c2:¬ (xG (n+m) cap*i.bytes > 2 ^ 48):=by omega
 refine⟨(Question.appendCap (n+m) cap e).cut (w.tape w.drawn (.appendCap (n+m) cap e)),by simp only[Question.cut];omega,?_⟩;have hf:(Question.appendCap (n+m) cap e).forced=false:=rfl;have ho:=hold w.drew rfl;simp only[qN,h0,h1,a0,a1,Sem.run_bind,hsl,hd,Result.andThen_ok,qXp hsz,Sem.run_pure,if_true,asInt,asIntOf,hw,c0,c3,if_false,hfit,hti,c1,c2,iTn,run_choose,hf,World.drew_eq,run_askRoom,Bool.not_true,Bool.false_eq_true,hm,ho,r_zero hz,newRow]
 rfl
theorem NwB.zeros {ts:Array TypeId}(h0:ts[0]?=some t)(h1:ts[1]?=some t')(hs:slcO P t=some 5)(hi:intO P t'=some .i64)
  (hsz:szO P 5=some 1) (hby:byO P 5=some 1) (hz:zeroO P 5=some (.int .u8 0)) {bs:List Byte} (hv:NwB w0 w v bs) {m:Nat} (hm:0<m) (hm1:bs.length≤2 ^ 40) (hm2:m≤2 ^ 40) (hw:w0.heap.size≤w.heap.size) :
  ∃ v' w',(qN ts 0 #[v,.int .i64 (m:Int)]).run P w=.ok v' w'∧NwB w0 w' v' (bs++zG m 0)∧Fr (fun b=>qQb v=some b) w w'∧∀ b,qQb v'=some b→qQb v=some b∨w.heap.size≤b:=by
 have hinfo:∃ i,P.info? 5=some i∧i.bytes=1:=by
  unfold byO at hby
  cases hi:P.info? 5 with
  | none=>simp[hi]at hby
  | some i=>exact⟨i,rfl,by simpa [hi] using hby⟩
 obtain⟨i,hi1,hi2⟩:=hinfo
 have hzc:∀ k,xH (Value.int .u8 0).cells k=(zG k (u8 0)).toArray:=fun k=>by
  apply Array.ext
  ·simp[xH,Value.cells]
  ·intro j h1 h2
   simp[xH,Value.cells,Nat.mod_one]
 have hvl:=hv.len;have hmz:(zG m (0:Byte)).map u8=zG m (u8 0):=List.map_replicate;have hbl:(bs++zG m (0:Byte)).length=bs.length+m:=by simp
 have grow:∀ cap ba, v=.slice ba bs.length cap→bs.length≤cap→¬ bs.length+m≤cap→(∀ u:World, u.heap=w.heap→(xU 1 bs.length (.slice ba bs.length cap)).run P u=.ok (bl bs) u) →
   ∃ v' w',(qN ts 0 #[v,.int .i64 (m:Int)]).run P w=.ok v' w'∧NwB w0 w' v' (bs++zG m 0)∧Fr (fun b=>qQb v=some b) w w'∧∀ b,qQb v'=some b→qQb v=some b∨w.heap.size≤b:=by
  intro cap ba hvv hncap hfit hold;subst hvv
  have hb2:xG (bs.length+m) cap*i.bytes≤2 ^ 48:=by
   have:=nextcap_le (need:=bs.length+m) (cap:=cap) (by omega);rw[hi2];omega
  obtain⟨nc,hnc,hrun⟩:=run_mapp_grow (P:=P) h0 h1 hs hi hsz hi1 hz (w:=w) (n:=bs.length) (cap:=cap) (m:=m) (ba:=ba) hfit (by omega) (by omega) (by rw[hi2];omega) hb2 hold;refine⟨_,_,hrun,⟨.inr ⟨w.heap.size,0,nc,_,by rw[hbl],qQc w.drew _,?_,by rw[hbl];exact hnc,by rw[zU,Nat.mul_one],fun j hj=>?_⟩,fun b hb=>?_⟩,((Fr.refl _ w).drew).alloc _,fun b hb=>?_⟩
  ·simp only[qO,hzc,List.size_toArray,lRe];omega
  ·rw[hbl]at hj
   rw[z8,Array.getElem?_append_left (by simp only[qO,hzc,List.size_toArray,lRe];omega),hzc];rw[← xZ,Array.toList_append,List.map_append,hmz]
  ·simp only[qQb,oSi]at hb;omega
  ·simp only[qQb,oSi]at hb;right;omega
 rcases hv.own with ⟨rfl,hn0,hc0⟩ | ⟨b,o,cap,c,rfl,h,hc,hn,hl,ht⟩
 ·have hb0:bs=[]:=List.eq_nil_of_length_eq_zero hn0
  subst hb0;exact grow 0 none rfl (xP _) (by simp;omega) fun u _=>rfl
 ·by_cases hfit:bs.length+m≤cap
  ·have hcap:o+bs.length*1+(zG m (u8 0)).length≤c.size:=by rw[lRe];omega
   have hst:=qZq (P:=P) (zG m (u8 0)) w b (o+bs.length*1) 0 c 5 h (by simpa using hcap) (by simp[one]);have hrun:=run_mapp_fit (P:=P) h0 h1 hs hi hsz hi1 hz (w:=w) (b:=b) (o:=o) (n:=bs.length) (cap:=cap) (m:=m) hfit (by omega) (by omega) (by rw[hi2];omega) (by rw[hzc];exact hst);rw[Nat.add_zero]at hrun;refine⟨_,_,hrun,⟨.inr ⟨b,o,cap,_,by rw[hbl],qXt _ (qQh h),?_,by rw[hbl];exact hfit,by rw[zU,Nat.mul_one],fun j hj=>?_⟩,fun b' hb'=>hv.new b' hb'⟩,(Fr.refl _ w).put _ (fun _=>rfl),fun b' hb'=>.inl hb'⟩
   ·rw[qXn];exact hc
   ·rw[hbl]at hj
    rw[qZo,List.map_append,hmz];have hll:(bs.map u8).length=bs.length:=zU _
    by_cases h2:j<bs.length
    ·rw[if_neg (by omega),zL (by omega)];exact ht j (by omega)
    ·rw[if_pos (by rw[lRe];omega),jN (by omega),hll]
     congr 1;omega
  ·refine grow cap _ rfl hn hfit fun u hu=>?_
   have hle:o+bs.length*1≤c.size:=by omega
   have:=qZm (P:=P) (w:=u) (b:=b) (o:=o) (n:=bs.length*1) (by rw[hu];exact h) hle;simp only[xU,this]
   congr 1
   apply Array.toList_inj.1;exact qJn hl hle ht
end
end Go.V
