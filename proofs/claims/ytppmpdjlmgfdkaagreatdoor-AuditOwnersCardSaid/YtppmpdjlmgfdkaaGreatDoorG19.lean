/- Helpers. -/
import Derived.Test.YtppmpdjlmgfdkaaGreatDoorG18
import Derived.Test.YtppmpdjlmgfdkaaGreatDoorG09
set_option linter.all false
set_option maxRecDepth 100000
set_option maxHeartbeats 8000000
open Array renaming length_toList→zK,toList_modify→yZ,getElem?_toList→xJ,toList_push→yJ
open List renaming map_cons→qP,getElem?_toArray→zZ,set_append_right→jD,mem_singleton→yK,getElem?_append_right→jB,getElem?_append_left→zF,mem_cons→yV,mem_cons_of_mem→z7,mem_map_of_mem→yW,mem_cons_self→jX
open Nat renaming zero_add→zB,add_mul→xR
open Option renaming bind_some→qV,map_some→qK
namespace Go.V
variable {ts:Array TypeId} {xs:Array Value} {ev:Ev} {K:Ev→World→Prop} {rest:List (Nat × Value)} {bad:List Nat} {a r vs:List Value} {b by' cap d i j m mb n o:Nat} {ps:Nat→Option (Nat × Nat)} {F:Nat→Prop} {et kt t:TypeId} {v x z:Value} {w w':World}
section
variable {P:Program} {ops:Array Oper} {X:Nat→Bool}
theorem qQt:(false == true)=false:=rfl
theorem qXq:(true == false)=false:=rfl
theorem outK_mono {r:Out}{K K':Value→World→Prop}(hk:∀ v w',K v w'→K' v w')(h:outK P r w K):outK P r w K':=by
 unfold outK at *;split
 ·exact hk _ _ h
 ·exact h.elim
 ·exact⟨h.1,h.2.mono hk⟩
 ·obtain⟨v,w',h1,h2⟩:=h;exact⟨v,w',h1,hk _ _ h2⟩
theorem denL_mono {K K':Ev→World→Prop}(hk:∀ ev w,K ev w→K' ev w):∀ (l:List Oper) {ev:Ev} {w:World},denL P ops K l ev w→denL P ops K' l ev w
 | [],_,_,h=>hk _ _ h
 | o::r,ev,w,h=>by
  simp only[denL]at h ⊢;split
  ·rename_i hw
   rw[if_pos hw]at h;exact outK_mono (fun v w' hv=>denL_mono hk r hv) h
  ·rename_i hw
   rw[if_neg hw]at h;exact denL_mono hk r h
theorem CodeD_mono {c:Code}{Q Q':Post}(h:∀ e ev w,Q e ev w→Q' e ev w)(H:CodeD P n c Q ev w):CodeD P n c Q' ev w :=
 fun a hn hd he=>wp_mono (H a hn hd he) fun _ _ _ hq=>⟨hq.1,hq.2.1,h _ _ _ hq.2.2⟩
theorem qXc:∀ (c:Code) {Q Q':Post},(∀ e ev w,Q e ev w→Q' e ev w)→∀ {ev:Ev} {w:World},den P n bad c Q ev w→den P n bad c Q' ev w:=by
 intro c
 induction c with
 | skip=>exact fun h ev w H=>h _ _ _ H
 | label l=>exact fun h ev w H=>h _ _ _ H
 | seq x y ihx ihy =>
  intro Q Q' h ev w H;refine ihx (fun e ev w hq=>?_) (show den P n bad x (thenQ (den P n bad y Q) Q) ev w from H)
  cases e with
  | normal=>exact ihy h hq
  | _=>exact h _ _ _ hq
 | cond c x y ihx ihy =>
  intro Q Q' h ev w H;simp only[den]at H ⊢;split
  ·rename_i b hb
   rw[hb]at H;simp only at H;split
   ·rename_i hb'
    rw[if_pos hb']at H;exact ihx h H
   ·rename_i hb'
    rw[if_neg hb']at H;exact ihy h H
  ·rename_i hno
   split at H
   ·rename_i b hb;exact absurd hb (hno b)
   ·exact H
 | block id c ih =>
  intro Q Q' h ev w H;refine ih (fun e ev w hq=>?_) (show den P n bad c (blockQ id Q) ev w from H)
  cases e with
  | exit i =>
   simp only[blockQ]at hq ⊢;split
   ·rename_i hi;rw[if_pos hi]at hq;exact h _ _ _ hq
   ·rename_i hi;rw[if_neg hi]at hq;exact h _ _ _ hq
  | _=>exact h _ _ _ hq
 | exit id=>exact fun h ev w H=>h _ _ _ H
 | ret=>exact fun h ev w H=>h _ _ _ H
 | region id ops d =>
  intro Q Q' h ev w H;simp only[den]at H ⊢;split
  ·rename_i hd
   rw[if_pos hd]at H;split
   ·rename_i hb
    rw[if_pos hb]at H;exact CodeD_mono h H
   ·rename_i hb
    rw[if_neg hb]at H;exact denL_mono (h _) _ H
  ·rename_i hd
   rw[if_neg hd]at H;exact denL_mono (h _) _ H
 | loop c ih=>exact fun h ev w H ho=>CodeD_mono h (H ho)
 | _=>exact fun h ev w H=>CodeD_mono h H
def holdL (K:Ev→World→Prop)(ev:Ev)(w:World)(_:Unit):Prop:=K ev w
theorem holdL_only {u u':Unit}(h:u=u'):holdL K ev w u=holdL K ev w u':=by rw[h]
attribute [congr] holdL_only
theorem hold_go {u:Unit}(h:K ev w):holdL K ev w u:=h
def thenH (K:Ev→World→Prop)(Q:Post):Post:=fun e=>match e with | .normal=>fun ev w=>holdL K ev w () | e=>Q e
theorem thenH_normal (K:Ev→World→Prop)(Q:Post)(ev:Ev)(w:World):thenH K Q .normal ev w=holdL K ev w ():=rfl
theorem thenH_ret (K:Ev→World→Prop)(Q:Post):thenH K Q .ret=Q .ret:=rfl
theorem thenH_exit (K:Ev→World→Prop)(Q:Post)(i:Nat):thenH K Q (.exit i)=Q (.exit i):=rfl
def headC:Nat→Code→Code
 | 0,_=>.skip
 | k+1,.seq x y=>.seq x (headC k y)
 | _,c=>c
def tailC:Nat→Code→Code
 | 0,c=>c
 | k+1,.seq _ y=>tailC k y
 | _,_=>.skip
theorem den_cut:∀ (k:Nat) {c:Code} {Q:Post} {ev:Ev} {w:World},den P n bad (headC k c) (thenH (den P n bad (tailC k c) Q) Q) ev w→den P n bad c Q ev w:=by
 intro k
 induction k with
 | zero=>intro c Q ev w h;exact h
 | succ k ih =>
  intro c Q ev w h
  cases c with
  | seq x y =>
   refine qXc x (fun e ev w hq=>?_) (show den P n bad x (thenQ (den P n bad (headC k y) (thenH (den P n bad (tailC k y) Q) Q)) (thenH (den P n bad (tailC k y) Q) Q)) ev w from h)
   cases e with
   | normal=>exact ih hq
   | _=>exact hq
  | _ =>
   refine qXc _ (fun e ev w hq=>?_) h
   cases e with
   | normal=>exact hq
   | _=>exact hq
theorem qXx {x y:Code}{Q:Post}(R:Ev→World→Prop)(h1:den P n bad x (thenQ R Q) ev w)(h2:∀ ev w,R ev w→den P n bad y Q ev w):den P n bad (.seq x y) Q ev w :=
 qXc x (fun e ev w hq=>by
  cases e with
  | normal=>exact h2 _ _ hq
  | _=>exact hq) h1
theorem headC_seq (k:Nat)(x y:Code):headC (k+1) (.seq x y)=.seq x (headC k y):=rfl
theorem headC_zero (c:Code):headC 0 c=.skip:=rfl
theorem den_only {c c':Code}{Q:Post}(h:c=c'):den P n bad c Q ev w=den P n bad c' Q ev w:=by rw[h]
attribute [congr] den_only
attribute [go_sem] thenH_normal thenH_ret thenH_exit headC_seq headC_zero
theorem app_freshX {w0 w:World}{e sz by':Nat}(ht:AppT P ts e sz by' z){cs:List Value}(hv:Nw w0 w e sz v n cs)
  (hxs:xs.size=m*sz) (hone:xs.toList.all one=true) (hsz0:0<sz)
  (hbd:∀ cap,n≤cap→cap<n+m→Builtin.nextslicecap (n+m) cap*by'≤2 ^ 48) (hbd2:n+m≤9223372036854775807) (f:w0.heap.size≤w.heap.size) :
  ∃ v' w',(Builtin.append_ ts 0 #[v,.slice (some ⟨w.heap.size,0,none⟩) m m]).run P (w.alloc (.cells xs e))=.ok v' w'∧Nw w0 w' e sz v' (n+m) (cs++xs.toList)∧Fr (fun b=>qQg v=some b) w w' ∧
   ∀ b,qQg v'=some b→qQg v=some b∨w.heap.size≤b:=by
 have f1:No w (w.alloc (.cells xs e)):=(Fr.refl _ _).alloc _
 have hx:Rd (w.alloc (.cells xs e)) sz (.slice (some ⟨w.heap.size,0,none⟩) m m) m xs.toList :=
  ⟨by rw[zK,hxs],_,_,rfl,Nat.le_refl _,fun _=>⟨_,_,rfl,fun i hi=>by rw[qXe (qQb _ _),zB,xJ]⟩⟩
 obtain⟨v',w',hr,h1,h2,h3⟩:=app_nw ht (hv.fr0 f1) hx hone hsz0 hbd hbd2 (by have:=f1.size;omega);have f2:Fr (fun b=>qQg v=some b) w w':=(f1.mono fun _ _ h=>h.elim).trans h2;exact⟨v',w',hr,h1,f2,fun b hb=>(h3 b hb).imp id fun h=>by rw[qQc]at h;omega⟩
end
section
variable {P:Program}
structure KeyT (P:Program) (kt:TypeId) {κ:Type} [DecidableEq κ] (enc:κ→Value) (ok:κ→Prop):Prop where
 eq:∀ a b,ok a→ok b→eqV P Op.maxDepth kt (enc a) (enc b)=some (decide (a=b))
 ck:∀ a,ok a→ckV P 10000 kt (enc a)=true
 same:∀ a,ok a→Instr.sameBits 10000 (enc a) (enc a)=true
section
variable {κ:Type} [DecidableEq κ]
def findM:List (κ × Value)→κ→Option Value
 | [],_=>none
 | p::r,k=>if p.1=k then some p.2 else findM r k
def insM:List (κ × Value)→κ→Value→List (κ × Value)
 | [],k,v=>[(k,v)]
 | p::r,k,v=>if p.1=k then (k,v)::r else p::insM r k v
theorem qJi (l:List (κ × Value))(k:κ)(v:Value)(k':κ):findM (insM l k v) k'=if k=k' then some v else findM l k':=by
 induction l with
 | nil=>rfl
 | cons p r ih =>
  unfold insM
  by_cases h:p.1=k
  ·rw[if_pos h]
   unfold findM
   by_cases hk:k=k'
   ·rw[if_pos hk,if_pos hk]
   ·rw[if_neg hk,if_neg hk,if_neg (by rw[h];exact hk)]
  ·rw[if_neg h]
   unfold findM
   by_cases hk:p.1=k'
   ·rw[if_pos hk,if_pos hk,if_neg (by rw[← hk];exact fun e=>h e.symm)]
   ·rw[if_neg hk,if_neg hk,ih]
theorem insM_keys (l:List (κ × Value))(k:κ)(v:Value):(insM l k v).map (·.1)=if k ∈ l.map (·.1) then l.map (·.1) else l.map (·.1)++[k]:=by
 induction l with
 | nil=>rfl
 | cons p r ih =>
  unfold insM
  by_cases h:p.1=k
  ·rw[if_pos h,if_pos (by simp[h])];simp[h]
  ·rw[if_neg h,qP,ih,qP]
   by_cases hk:k ∈ r.map (·.1)
   ·rw[if_pos hk,if_pos (z7 _ hk)]
   ·rw[if_neg hk,if_neg (by simp only[yV,not_or];exact⟨fun e=>h e.symm,hk⟩)];rfl
theorem insM_nodup {l:List (κ × Value)}(h:(l.map (·.1)).Nodup)(k:κ)(v:Value):((insM l k v).map (·.1)).Nodup:=by
 rw[insM_keys];split
 ·exact h
 ·rename_i hk
  exact List.nodup_append.2 ⟨h,by simp,fun a ha b hb=>by simp only[yK]at hb;subst hb;exact fun e=>hk (e ▸ ha)⟩
theorem qKr {l:List (κ × Value)}{k:κ}:findM l k=none ↔ k ∉ l.map (·.1):=by
 induction l with
 | nil=>simp[findM]
 | cons p r ih =>
  unfold findM
  by_cases h:p.1=k
  ·rw[if_pos h];simp[h]
  ·rw[if_neg h,ih,qP,yV,not_or]
   exact⟨fun hr=>⟨fun e=>h e.symm,hr⟩,fun hr=>hr.2⟩
theorem insM_new {l:List (κ × Value)}{k:κ}(h:findM l k=none):insM l k v=l++[(k,v)]:=by
 induction l with
 | nil=>rfl
 | cons p r ih =>
  unfold findM at h;unfold insM
  by_cases hk:p.1=k
  ·rw[if_pos hk]at h;cases h
  ·rw[if_neg hk]at h;rw[if_neg hk,ih h];rfl
theorem findM_mem {l:List (κ × Value)}(h:(l.map (·.1)).Nodup){k:κ}:findM l k=some v ↔ (k,v) ∈ l:=by
 induction l with
 | nil=>simp[findM]
 | cons p r ih =>
  rw[qP,List.nodup_cons]at h;unfold findM
  by_cases hk:p.1=k
  ·rw[if_pos hk]
   constructor
   ·intro e;cases e;rw[← hk];exact jX ..
   ·intro e
    rcases List.mem_cons.1 e with e | e
    ·rw[← e]
    ·exact absurd (List.mem_map.2 ⟨(k,v),e,hk.symm⟩) h.1
  ·rw[if_neg hk,ih h.2,yV]
   exact⟨.inr,fun e=>e.resolve_left fun e=>hk (by rw[← e])⟩
variable {kt:TypeId} {enc:κ→Value} {ok:κ→Prop}
def Mp (enc:κ→Value)(ok:κ→Prop)(w:World)(mb:Nat)(l:List (κ × Value)):Prop :=
 ∃ es c,w.heap[mb]?=some (.map es c)∧es.toList.map (fun e=>(e.key,e.val))=l.map (fun p=>(enc p.1,p.2))∧(∀ p ∈ l,ok p.1)∧(l.map (·.1)).Nodup∧(∀ e ∈ es.toList,e.born<c)∧(es.toList.map (·.born)).Nodup
theorem born_modify (g:MapEntry→MapEntry)(hg:∀ e,(g e).born=e.born):∀ (l:List MapEntry) (j:Nat),(l.modify j g).map (·.born)=l.map (·.born)
 | [],j=>by cases j <;> rfl
 | e::r,0=>by simp[hg]
 | e::r,j+1=>by simp[born_modify g hg r j]
theorem KeyT.find (ht:KeyT P kt enc ok){k:κ}(hk:ok k):∀ (es:List MapEntry) (l:List (κ × Value)) (i:Nat), es.map (fun e=>(e.key, e.val))=l.map (fun p=>(enc p.1, p.2))→(∀ p ∈ l, ok p.1) →
  (findM l k=none∧findV P kt (enc k) es i=some none)∨∃ j v,findM l k=some v∧findV P kt (enc k) es i=some (some (i+j,v))∧j<es.length∧(es[j]?.map (·.key))=some (enc k) ∧
   ∀ u,((es.modify j fun e=>{ e with key:=enc k,val:=u }).map fun e=>(e.key,e.val))=(insM l k u).map fun p=>(enc p.1,p.2)
 | [],[],_,_,_=>.inl ⟨rfl,rfl⟩
 | [],_::_,_,h,_=>by cases h
 | _::_,[],_,h,_=>by cases h
 | e::es,p::l,i,h,hl=>by
  simp only[qP,List.cons.injEq,Prod.mk.injEq]at h;obtain⟨⟨h1,h2⟩,h3⟩:=h;have eq:=ht.eq k p.1 hk (hl p (jX ..));unfold findM
  by_cases he:p.1=k
  ·rw[if_pos he]
   have eq:eqV P Op.maxDepth kt (enc k) (enc p.1)=some true:=by rw[eq];simp[he]
   refine .inr ⟨0,p.2,rfl,?_,by simp,?_,fun u=>?_⟩
   ·unfold findV;rw[h1,eq,h2];rfl
   ·simp[h1,he]
   ·unfold insM
    rw[if_pos he];simp[h3]
  ·rw[if_neg he]
   have eq:eqV P Op.maxDepth kt (enc k) (enc p.1)=some false:=by rw[eq,decide_eq_false fun e=>he e.symm]
   have e1:findV P kt (enc k) (e::es) i=findV P kt (enc k) es (i+1):=by
    conv=>lhs;unfold findV
    rw[h1,eq]
   rcases KeyT.find ht hk es l (i+1) h3 fun q hq=>hl q (z7 _ hq) with ⟨a,b⟩ | ⟨j,v,a,b,c,d,f⟩
   ·exact .inl ⟨a,by rw[e1];exact b⟩
   ·refine .inr ⟨j+1,v,a,?_,by simp;omega,?_,fun u=>?_⟩
    ·rw[e1,b];congr 3;omega
    ·simpa using d
    ·have:=f u
     unfold insM;rw[if_neg he];simp only[List.modify_succ_cons,qP,this,h1,h2]
theorem Mp.look (ht:KeyT P kt enc ok){l:List (κ × Value)}(h:Mp enc ok w mb l){k:κ}(hk:ok k)(hm:mapO P t=some (kt, et))(hz:zeroO P et=some z) :
  lookO P t w (.map (some mb)) (enc k)=some ((findM l k).getD z,(findM l k).isSome):=by
 obtain⟨es,c,h1,h2,h3,_⟩:=h;have hc:=ht.ck k hk
 rcases ht.find hk es.toList l 0 h2 h3 with ⟨a,b⟩ | ⟨j,v,a,b,_⟩
 ·simp only[lookO,hm,qV,mapEs,h1,getK,hc,if_true,b,hz,qK,a,Option.getD_none,Option.isSome_none]
 ·simp only[lookO,hm,qV,mapEs,h1,getK,hc,if_true,b,a,Option.getD_some,Option.isSome_some]
theorem look_nil (ht:KeyT P kt enc ok){k:κ}(hk:ok k)(hm:mapO P t=some (kt, et))(hz:zeroO P et=some z) :
  lookO P t w (.map none) (enc k)=some (z,false):=by
 have hc:=ht.ck k hk;simp only[lookO,hm,qV,mapEs,getK,hc,if_true,findV,hz,qK]
theorem Mp.put (ht:KeyT P kt enc ok){l:List (κ × Value)}(h:Mp enc ok w mb l){k:κ}(hk:ok k)(v:Value) :
  ∃ ob,putE P kt w.heap[mb]? (enc k) v=some ob∧fzO ob=false∧∀ w',w'.heap[mb]?=some ob→Mp enc ok w' mb (insM l k v):=by
 obtain⟨es,c,h1,h2,h3,h4,h5,h6⟩:=h;have hc:=ht.ck k hk
 have hok:∀ p ∈ insM l k v,ok p.1:=fun p hp=>by
  have:p.1 ∈ (insM l k v).map (·.1):=yW hp;rw[insM_keys]at this;split at this
  ·obtain⟨q,hq,e⟩:=List.mem_map.1 this;rw[← e];exact h3 q hq
  ·rcases List.mem_append.1 this with h | h
   ·obtain⟨q,hq,e⟩:=List.mem_map.1 h;rw[← e];exact h3 q hq
   ·rw[List.mem_singleton.1 h];exact hk
 rcases ht.find hk es.toList l 0 h2 h3 with ⟨a,b⟩ | ⟨j,u,a,b,hj,hkey,hmod⟩
 ·refine⟨.map (es.push { key:=enc k,val:=v,born:=c }) (c+1),by simp only[putE,h1,getK,hc,if_true,b,qV],rfl,fun w' hw=>⟨_,_,hw,?_,hok,insM_nodup h4 _ _,?_,?_⟩⟩
  ·rw[insM_new a]
   simp[h2]
  ·intro e he
   rw[yJ]at he
   rcases List.mem_append.1 he with he | he
   ·have:=h5 e he;omega
   ·rw[List.mem_singleton.1 he];show c<c+1;omega
  ·rw[yJ,List.map_append]
   refine List.nodup_append.2 ⟨h6,by simp,fun x hx y hy e=>?_⟩;obtain⟨z,hz,rfl⟩:=List.mem_map.1 hx;have:=h5 z hz;simp only[qP,List.map_nil,yK]at hy;omega
 ·have hkey':((es[0+j]?).map (·.key)).getD (enc k)=enc k:=by
   rw[zB,← xJ,hkey];rfl
  have hs:=ht.same k hk;refine⟨.map (es.modify (0+j) fun e=>{ e with key:=enc k,val:=v }) c,?_,rfl,fun w' hw=>⟨_,_,hw,?_,hok,insM_nodup h4 _ _,?_,?_⟩⟩
  ·simp only[putE,h1,getK,hc,if_true,b,qV,hkey',hs]
  ·rw[zB,yZ];exact hmod v
  ·intro e he
   rw[yZ]at he;have hb:=yW (f:=(·.born)) he;rw[born_modify (fun e=>{ e with key:=enc k,val:=v }) (fun _=>rfl)]at hb;obtain⟨z,hz,e'⟩:=List.mem_map.1 hb;have:=h5 z hz;omega
  ·rw[yZ,born_modify (fun e=>{ e with key:=enc k,val:=v }) (fun _=>rfl)];exact h6
omit [DecidableEq κ] in
theorem Mp.fr {l:List (κ × Value)}(h:Mp enc ok w mb l)(f:Fr F w w')(hf:¬ F mb):Mp enc ok w' mb l:=by
 obtain⟨es,c,h1,h2⟩:=h;exact⟨es,c,f.at h1 hf,h2⟩
omit [DecidableEq κ] in
theorem Mp.fr0 {l:List (κ × Value)}(h:Mp enc ok w mb l)(f:No w w'):Mp enc ok w' mb l:=h.fr f id
omit [DecidableEq κ] in
theorem Mp.new (h:w.heap[mb]?=some (.map #[] 0)):Mp enc ok w mb ([]:List (κ × Value)):=⟨_,_,h,rfl,(fun p hp=>by cases hp),List.nodup_nil,(fun e he=>by cases he),List.nodup_nil⟩
omit [DecidableEq κ] in
theorem Mp.lt {l:List (κ × Value)}(h:Mp enc ok w mb l):mb<w.heap.size:=by
 obtain⟨es,c,h1,_⟩:=h;exact qQh h1
end
theorem keyInt (h:intO P kt=some .i64):KeyT P kt (fun n:Nat=>Value.int .i64 n) (fun _=>True) where
 eq a b _ _:=by
  show eqV P (9999+1) kt _ _=_;unfold eqV;rw[qJn h];simp only[if_true]
  congr 1
  by_cases e:a=b
  ·subst e;simp
  ·simp[e,Int.ofNat_inj]
 ck a _:=by
  show ckV P (9999+1) kt _=true;unfold ckV;rw[qJn h]
 same a _:=by unfold Instr.sameBits;simp
theorem sameAgg {a:Array Value}(h:∀ x ∈ a.toList,Instr.sameBits n x x=true):Instr.sameBits (n+1) (.agg a) (.agg a)=true:=by
 unfold Instr.sameBits;simp only[BEq.rfl,Bool.true_and];rw[List.all_eq_true];intro p hp;obtain⟨i,hi,rfl⟩:=List.getElem_of_mem hp;simp only[List.getElem_zip];exact h _ (List.getElem_mem _)
theorem same_int (n:Nat)(k:IntKind)(x:Int):Instr.sameBits n (.int k x) (.int k x)=true:=by unfold Instr.sameBits;simp
theorem beq_dec (a b:List Byte):(a == b)=decide (a=b):=by
 by_cases h:a=b
 ·subst h;simp
 ·rw[decide_eq_false h];simpa using h
theorem keyDg {kt e:TypeId}(ha:arrO P kt=some (32,e))(he:intO P e=some .u8)(hs:szO P e=some 1)(hag:aggO P e=some false):KeyT P kt (fun d:List Byte=>dg d) (fun d=>d.length=32) where
 eq a b h1 h2:=by rw[eqm_dg ha he hs hag h1 h2,beq_dec]
 ck a h1:=ckV_dg ha he hs hag h1 9998
 same a _:=sameAgg fun x hx=>by
  simp only[List.mem_map]at hx;obtain⟨y,_,rfl⟩:=hx;exact same_int _ _ _
end
section
variable {P:Program}
def strucO (P : Program) (t : TypeId) : Option (List (Bool × TypeId × Nat)) := match P.underlying t with | some (.struct fs) => some (fs.toList.map fun f => (f.name == "_", f.type, f.offset)) | _ => none
theorem strucO_und {l : List (Bool × TypeId × Nat)} (h : strucO P t = some l) : ∃ fs : Array Field, P.underlying t = some (.struct fs) ∧ fs.toList.map (fun f => (f.name == "_", f.type, f.offset)) = l := by
 unfold strucO at h;split at h
 ·rename_i fs hu;cases h;exact⟨fs,hu,rfl⟩
 ·cases h
theorem eqV_st {l:List (Bool × TypeId × Nat)}(h:strucO P t=some l)(hst:P.stoodInHeld t=false)(xs ys:Array Value) :
  eqV P (d+1) t (.agg xs) (.agg ys)=(l.mapM fun f=>if f.1=true then none else (partO P f.2.1 xs f.2.2).bind fun u=>(partO P f.2.1 ys f.2.2).bind fun v=>eqV P d f.2.1 u v).map fun bs=>bs.all id:=by
 obtain⟨fs,hu,rfl⟩:=strucO_und h
 conv=>lhs;unfold eqV
 rw[hu];simp only[hst,Bool.false_eq_true,if_false]
 congr 1
 rw[List.mapM_map]
 congr 1
 funext f
 simp only[Function.comp,beq_iff_eq]
theorem ckV_st {l:List (Bool × TypeId × Nat)}(h:strucO P t=some l)(xs:Array Value) :
  ckV P (d+1) t (.agg xs)=l.all fun f=>if f.1=true then true else match partO P f.2.1 xs f.2.2 with | some u=>ckV P d f.2.1 u | none=>false:=by
 obtain⟨fs,hu,rfl⟩:=strucO_und h
 conv=>lhs;unfold ckV
 rw[hu];simp only[List.all_map]
 congr 1
 funext f
 simp only[Function.comp,beq_iff_eq]
 by_cases hn : f.name = "_"
 ·rw[if_pos hn,if_pos hn]
 ·rw[if_neg hn,if_neg hn]
  cases partO P f.type xs f.offset <;> rfl
theorem nateq (a b:Nat):(((a:Nat):Int) == ((b:Nat):Int))=decide (a=b):=by
 by_cases h:a=b
 ·subst h;simp
 ·rw[decide_eq_false h,bFn];exact fun e=>h (Int.ofNat_inj.1 e)
theorem natne (a b:Nat):(((a:Nat):Int) != ((b:Nat):Int))=decide (a≠b):=by
 by_cases h:a=b
 ·subst h;simp
 ·rw[decide_eq_true h,bne_iff_ne];exact fun e=>h (Int.ofNat_inj.1 e)
theorem eqV_i {d t:Nat}(h:intO P t=some .i64)(a b:Nat):eqV P (d+1) t (.int .i64 (a:Nat)) (.int .i64 (b:Nat))=some (decide (a=b)):=by
 unfold eqV;rw[qJn h];simp only[if_true,nateq]
theorem ckV_i {d t:Nat}{k:IntKind}(h:intO P t=some k)(v:Value):ckV P (d+1) t v=true:=by
 unfold ckV;rw[qJn h]
theorem qKd (h:aggO P t=some false):partO P t xs o=xs[o]?:=by simp only[partO,h]
theorem part_agg {t n:Nat}(h:aggO P t=some true)(hs:szO P t=some n):partO P t xs o=some (.agg (xs.extract o (o+n))):=by simp only[partO,h,hs,qK]
end
section
variable {P:Program}
theorem storeL_mid:∀ (vs a m r:List Value),vs.length=m.length→qXl vs a.length (a++m++r).toArray=(a++vs++r).toArray
 | [],a,[],r,_=>rfl
 | [],_,_::_,_,h=>by cases h
 | _::_,_,[],_,h=>by cases h
 | v::vs,a,x::m,r,h=>by
  have e:((a++(x::m)++r).toArray).setIfInBounds a.length v=(a++[v]++m++r).toArray:=by
   apply Array.toList_inj.1;simp[jD]
  show qXl vs (a.length+1) (((a++(x::m)++r).toArray).setIfInBounds a.length v)=_;rw[e];have:=storeL_mid vs (a++[v]) m r (by simpa using h);rw[lAp,List.length_singleton]at this;rw[this]
  simp
section
variable {t:TypeId} {w:World} {b:Nat} {e:TypeId} {fz:Nat × Nat} {a m r:List Value}
theorem qJg (ha:aggO P t=some true)(hs:szO P t=some m.length)(h0:0<m.length)(h:w.heap[b]?=some (.cells (a++m++r).toArray e fz))(ho:a.length=o):rdO P t w b o=some (.agg m.toArray) :=
 rds ha hs h (by simp) h0 fun i hi=>by
  subst ho;rw[zZ,zZ,List.append_assoc,jB (by omega),Nat.add_sub_cancel_left,zF hi]
theorem wr_mid (hs:szO P t=some m.length)(hl:vs.length=m.length)(hv:vs.all one=true)(h:w.heap[b]?=some (.cells (a++m++r).toArray e (0, 0)))(ho:a.length=o) :
  wrO P t w b o (.agg vs.toArray)=some (put w b (.cells (a++vs++r).toArray e (0,0))):=by
 subst ho;have:=wrs (P:=P) (t:=t) (vs:=vs.toArray) (o:=a.length) (by rw[hs];simp[hl]) h (by simp;omega) (by simpa using hv);rw[this];show some (put w b (.cells (qXl vs a.length (a++m++r).toArray) e (0,0)))=_;rw[storeL_mid _ _ _ _ hl]
theorem rd_one (ha:aggO P t=some false)(h:w.heap[b]?=some (.cells (a++v::r).toArray e fz))(ho:a.length=o):rdO P t w b o=some v :=
 rd1 ha h (by subst ho;simp)
theorem wr_one {u v:Value}(hs:szO P t=some 1)(hv:one v=true)(h:w.heap[b]?=some (.cells (a++u::r).toArray e (0,0)))(ho:a.length=o):wrO P t w b o v=some (put w b (.cells (a++v::r).toArray e (0,0))):=by
 subst ho;rw[wr1 hs hv h (by simp)]
 congr 4
 apply Array.toList_inj.1;simp[jD]
end
theorem copy_mid {t e:Nat}(h0:ts[0]?=some t)(hs:slcO P t=some e)(hsz:szO P e=some 1){el:Nat}{d:List Byte}(ho:a.length=o)(hn:d.length=n)
  (hrow:w.heap[b]?=some (.cells (a++d.map u8++r).toArray el (0,0))) {bs:List Byte} (hx:By w x bs) (hb:n≤bs.length) :
  (Builtin.copy_ ts 0 #[.slice (some ⟨b,o,none⟩) n n,x]).run P w=.ok (.int .i64 (n:Nat)) (put w b (.cells (a++(bs.take n).map u8++r).toArray el (0,0))):=by
 subst ho hn;have:=run_copy (P:=P) h0 hs hsz (b:=b) (o:=a.length) (dn:=d.length) (dc:=d.length) hrow hx (qXy bs) (by simp;omega);rw[Nat.min_eq_right hb,Nat.mul_one]at this;rw[this,storeL_mid _ _ _ _ (by rw[lTk,List.length_map,List.length_map];omega),List.map_take]
theorem pt_slice {t n e o:Nat}(ha:arrO P t=some (n,e))(hs:szO P e=some 1)(h0:0<n)(b:Nat):qQs P t (pt b o) none none none=some (.slice (some ⟨b,o,none⟩) n n):=by
 simp only[qQs,ha,optB,qV,hs,qK,Addr.add,Nat.zero_mul,Nat.add_zero,Nat.sub_zero]
 simp
theorem qJf {a m r vs:List Value}(hp:ps i=some (o, n))(ho:a.length=o)(hm:m.length=n)(hv:vs.length=n) :
  Instr.fill ps (a++m++r).toArray ((i,.agg vs.toArray)::rest)=Instr.fill ps (a++vs++r).toArray rest:=by
 subst ho hm;rw[fill_cons hp (by simpa [Value.cells] using hv) (by simp)];show Instr.fill ps (qXl vs a.length _) rest=_;rw[storeL_mid _ _ _ _ hv]
theorem qZw {u v:Value}(hp:ps i=some (o, 1))(ho:a.length=o)(hv:one v=true) :
  Instr.fill ps (a++u::r).toArray ((i,v)::rest)=Instr.fill ps (a++v::r).toArray rest:=by
 subst ho;rw[fill_one1 hp hv (by simp)]
 congr 1
 apply Array.toList_inj.1;simp[jD]
theorem qJw {c:Array Value}{ps:List (Nat × Nat)}(hz:zeroO P t=some z)(hp:qQy P t=some ps)(hc:z.cells=c)(parts:List (Nat × Value)):bldO P t parts=(Instr.fill (ps[·]?) c parts).map .agg:=by
 unfold bldO;rw[hz,qV,hp,hc]
end
section
variable {P:Program}
abbrev Rows:=List (List Value)
def RowsOk (k:Nat)(l:Rows):Prop:=∀ r ∈ l,r.length=k∧r.all one=true
theorem RowsOk.nil (k:Nat):RowsOk k []:=fun _ h=>by cases h
theorem RowsOk.app {k:Nat}{a b:Rows}(h:RowsOk k a)(g:RowsOk k b):RowsOk k (a++b):=fun r hr=>(List.mem_append.1 hr).elim (h r) (g r)
theorem RowsOk.one {k:Nat}{r:List Value}(h:r.length=k)(g:r.all one=true):RowsOk k [r]:=fun x hx=>by simp only[yK]at hx;subst hx;exact⟨h,g⟩
theorem RowsOk.tail {k:Nat}{l:Rows}(h:RowsOk k (r::l)):RowsOk k l:=fun x hx=>h x (by simp[hx])
theorem rows_at {k:Nat}:∀ {l:Rows},RowsOk k l→∀ {i:Nat} (hi:i<l.length) {j:Nat},j<k→l.flatten[i*k+j]?=l[i][j]?
 | r::l,h,0,_,j,hj=>by
  have:=(h r (by simp)).1;rw[List.flatten_cons,Nat.zero_mul,zB,zF (by omega)];rfl
 | r::l,h,i+1,hi,j,hj=>by
  have:=(h r (by simp)).1;have e:=rows_at h.tail (show i<l.length by simpa using hi) hj;rw[List.flatten_cons,jB (by rw[xR];omega),this,show (i+1)*k+j - k=i*k+j by rw[xR];omega,e];rfl
theorem qZk {K:Nat}(hK:0<K)(hK2:1*K≤2 ^ 24){y:List Value}(hz:y.length=K){c:Array Value}(hc:c.size=K)(hx:xs.size=K)(g:Array Value→Value × World) :
  (Sum.inl (if 1*K≤2 ^ 24∧0<K∧c.size=K then Option.map g (if (decide ¬xs.size=K || decide (xs.size > (zrow y 1).size))=true then none else some (Array.foldl (fun cs x=>cs.setIfInBounds x.snd x.fst) (zrow y 1) xs.zipIdx)) else none):Out)=.inl (some (g xs)):=by
 have hzr:(zrow y 1).size=K:=by simp[zrow,hz]
 have e:Array.foldl (fun (cs:Array Value) (x:Value × Nat)=>cs.setIfInBounds x.snd x.fst) (zrow y 1) xs.zipIdx=xs:=by
  have h:=foldl_zip xs.toList 0 0 (zrow y 1);simp only[zB]at h;rw[← Array.foldl_toList,Array.toList_zipIdx,h];apply Array.toList_inj.1;rw[qKy _ _ _ (by rw[zK,hx,hzr];omega),List.take_zero,List.nil_append,zB,List.drop_of_length_le (by rw[zK,zK,hx,hzr];exact Nat.le_refl _),List.append_nil]
 rw[if_pos ⟨hK2,hK,hc⟩,hx,hzr,if_neg (by simp),e];rfl
def RdR (w:World)(k:Nat)(v:Value)(rows:Rows):Prop:=RowsOk k rows∧Rd w k v rows.length rows.flatten
def NwR (w0 w:World)(e k:Nat)(v:Value)(rows:Rows):Prop:=RowsOk k rows∧Nw w0 w e k v rows.length rows.flatten
section
variable {w0 w w':World} {e k:Nat} {v:Value} {rows:Rows}
theorem NwR.nil (w0 w:World)(e k:Nat):NwR w0 w e k (.slice none 0 0) []:=⟨RowsOk.nil _,Nw.nil _ _ _ _⟩
theorem NwR.rd (h:NwR w0 w e k v rows):RdR w k v rows:=⟨h.1,h.2.rd⟩
theorem NwR.fr (h:NwR w0 w e k v rows)(f:Fr F w w')(hf:∀ b,qQg v=some b→¬ F b):NwR w0 w' e k v rows:=⟨h.1,h.2.fr f hf⟩
theorem NwR.fr0 (h:NwR w0 w e k v rows)(f:No w w'):NwR w0 w' e k v rows:=⟨h.1,h.2.fr0 f⟩
theorem NwR.back {u:World}(h:NwR w0 w e k v rows)(hu:u.heap.size≤w0.heap.size):NwR u w e k v rows:=⟨h.1,h.2.back hu⟩
theorem NwR.lt (h:NwR w0 w e k v rows)(hb:qQg v=some b):w0.heap.size≤b∧b<w.heap.size:=⟨h.2.new b hb,h.2.own.lt hb⟩
theorem RdR.fr0 (h:RdR w k v rows)(f:No w w'):RdR w' k v rows:=⟨h.1,h.2.fr f fun _ _ _ h=>h⟩
theorem RdR.slice (h:RdR w k v rows):∃ a cap,v=.slice a rows.length cap∧rows.length≤cap:=by
 obtain⟨_,_,a,cap,e,h,_⟩:=h;exact⟨a,cap,e,h⟩
theorem RdR.pos (h:RdR w k v rows)(hk:0<k)(h0:0<rows.length):∃ b o cap,v=.slice (some ⟨b,o,none⟩) rows.length cap∧rows.length≤cap:=by
 obtain⟨_,_,a,cap,rfl,h,hat⟩:=h;obtain⟨b,o,rfl,_⟩:=hat (Nat.mul_pos h0 hk);exact⟨b,o,cap,rfl,h⟩
theorem RdR.cell (h:RdR w k (.slice (some ⟨b,o,none⟩) n cap) rows)(hi:i<rows.length)(hj:j<k):rc w b (o+i*k+j)=rows[i][j]?:=by
 obtain⟨h1,hl,a,cap',he,hcap,hat⟩:=h;cases he;have hik:(i+1)*k≤rows.length*k:=Nat.mul_le_mul_right k hi;rw[xR]at hik;obtain⟨b',o',he,hat⟩:=hat (by omega);cases he;rw[Nat.add_assoc,hat _ (by omega),rows_at h1 hi hj]
theorem RdR.get (h:RdR w k (.slice (some ⟨b,o,none⟩) n cap) rows)(ha:aggO P t=some true)(hs:szO P t=some k)(hk:0<k)(hi:i<rows.length):rdO P t w b (o+i*k)=some (.agg rows[i].toArray):=by
 have hl:=(h.1 _ (List.getElem_mem hi)).1;refine rd_rcs ha hs (by simp[hl]) hk fun j hj=>?_;rw[h.cell hi hj,zZ]
theorem RdR.fld (h:RdR w k (.slice (some ⟨b,o,none⟩) n cap) rows)(ha:aggO P t=some false)(hi:i<rows.length)(hj:j<k)(hx:rows[i][j]?=some x):rdO P t w b (o+i*k+j)=some x :=
 rd_rc ha (by rw[h.cell hi hj];exact hx)
theorem RdR.sub (h:RdR w k (.slice (some ⟨b,o,none⟩) n cap) rows){t m:Nat}(ha:aggO P t=some true)(hs:szO P t=some m)(hm:0<m)(hi:i<rows.length)(hj:j+m≤k){xs:List Value}(hl:xs.length=m)(hx:∀ q,q<m→rows[i][j+q]?=xs[q]?):rdO P t w b (o+i*k+j)=some (.agg xs.toArray):=by
 refine rd_rcs ha hs (by simp[hl]) hm fun q hq=>?_;rw[Nat.add_assoc (o+i*k),h.cell hi (by omega),hx q hq,zZ]
theorem NwR.push (ht:AppT P ts e k by' z)(hv:NwR w0 w e k v rows){xs:List Value}(hxs:xs.length=k)(hone:xs.all one=true)(hk:0<k)
  (hbd:(rows.length+rows.length / 4+1024)*by'≤2 ^ 48) (hbd2:rows.length<2 ^ 60) (f:w0.heap.size≤w.heap.size) :
  ∃ v' w',(Builtin.append_ ts 0 #[v,.slice (some ⟨w.heap.size,0,none⟩) 1 1]).run P (w.alloc (.cells xs.toArray e))=.ok v' w'∧NwR w0 w' e k v' (rows++[xs])∧Fr (fun b=>qQg v=some b) w w' ∧
   ∀ b,qQg v'=some b→qQg v=some b∨w.heap.size≤b:=by
 obtain⟨v',w',hr,h1,h3,h4⟩:=app_freshX ht hv.2 (m:=1) (xs:=xs.toArray) (by simp[hxs]) (by simpa using hone) hk (bd_one hbd) (by omega) f;refine⟨v',w',hr,⟨hv.1.app (RowsOk.one hxs hone),?_⟩,h3,h4⟩;rw[lAp,List.flatten_append,List.flatten_singleton];exact h1
end
end
end Go.V
