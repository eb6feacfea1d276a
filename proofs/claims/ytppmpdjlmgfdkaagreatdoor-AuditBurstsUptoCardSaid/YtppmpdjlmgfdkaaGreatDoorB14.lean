/- Helpers. -/
import Derived.Test.YtppmpdjlmgfdkaaGreatDoorB11
set_option linter.all false
set_option maxRecDepth 100000
set_option maxHeartbeats 8000000
open Bool renaming and_eq_true->qN
open Go.Region renaming ready->qO,wanted->xQ
namespace Go.V
variable {ev:Ev} {K:Ev->World->Prop} {id k n:Nat} {X:Nat->Bool} {d:Option Nat} {w:World}
section
variable {P:Program} {ops:Array Oper} {X:Nat->Bool}
inductive OT where
 | nil
 | one (k:Nat) (t:OT)
 | two (i:Nat) (t:OT) (j:Nat) (s:OT)
 | tri (i:Nat) (t:OT) (j:Nat) (s:OT) (l:Nat) (r:OT)
namespace OT
def len:OT->Nat->Bool
 | nil,n=>n == 0
 | one _ t,n+1=>t.len n
 | two _ t _ s,n+1=>t.len n && s.len n
 | tri _ t _ s _ r,n+1=>t.len n && s.len n && r.len n
 | _,0=>false
def row:List Nat->OT
 | []=>nil
 | k::r=>one k (row r)
end OT
def stepW (P:Program)(ops:Array Oper)(X:Nat->Bool)(k:Nat)(K:Act->World->Prop)(a:Act)(w:World):Prop :=
 match ops[k]? with
 | none=>False
 | some o=>if xQ o (yielded ops a.tmps) then stKX P (X k) o a w (fun v w'=>K (a.put o.dst v) w') else K (a.put o.dst undef) w
def walkOT (P:Program)(ops:Array Oper)(X:Nat->Bool)(Q:Act->World->Prop):OT->Act->World->Prop
 | .nil,a,w=>Q a w
 | .one k t,a,w=>stepW P ops X k (walkOT P ops X Q t) a w
 | .two i t j s,a,w=>stepW P ops X i (walkOT P ops X Q t) a w/\stepW P ops X j (walkOT P ops X Q s) a w
 | .tri i t j s l r,a,w=>stepW P ops X i (walkOT P ops X Q t) a w/\stepW P ops X j (walkOT P ops X Q s) a w/\stepW P ops X l (walkOT P ops X Q r) a w
def lexOT (P:Program)(ops:Array Oper)(X:Nat->Bool):OT->Array Bool->Bool
 | .nil,listed=>(qO .any ops listed).isEmpty
 | .one k t,listed=>(qO .any ops listed).contains k && Region.free .any ops listed k && aloneBX P ops X k listed && lexOT P ops X t (listed.setIfInBounds k true)
 | .two i t j s,listed=>(qO .any ops listed).contains i && (qO .any ops listed).all (fun k=>k == i || k == j) && lexOT P ops X t (listed.setIfInBounds i true) && lexOT P ops X s (listed.setIfInBounds j true)
 | .tri i t j s l r,listed=>(qO .any ops listed).contains i && (qO .any ops listed).all (fun k=>k == i || (k == j || k == l)) && lexOT P ops X t (listed.setIfInBounds i true) && lexOT P ops X s (listed.setIfInBounds j true) && lexOT P ops X r (listed.setIfInBounds l true)
def lexAllOT (P:Program)(ops:Array Oper)(X:Nat->Bool)(t:OT):Bool:=P.follows .mixedOrders && Region.noSelect ops && t.len ops.size && lexOT P ops X t (Array.replicate ops.size false)
theorem stepW_st {K:Act->World->Prop}{a:Act}(h:stepW P ops X k K a w):stTX P ops X k K a w:=by
 unfold stepW at h;unfold stTX;split
 ·rename_i A;rw[A]at h;exact h.elim
 ·rename_i o A;rw[A]at h;exact h
theorem qVn {K E:Act->World->Prop}{a:Act}(H:∀ a w,K a w->E a w)(h:stepW P ops X k K a w):stepW P ops X k E a w:=by
 unfold stepW at *;split
 ·rename_i A;rw[A]at h;exact h
 ·rename_i o A
  rw[A]at h;simp only at h;split
  ·rename_i B;simp only[B,if_true]at h;exact stK_monoX (fun v w'=>H _ _) h
  ·rename_i B;simp only[B]at h;exact H _ _ h
theorem qKu {Q:Act->World->Prop}(O:Region.noSelect ops=true):∀ (t:OT) (n:Nat) (listed:Array Bool) (a:Act) (w:World), t.len n=true ->
  lexOT P ops X t listed=true->walkOT P ops X Q t a w->anyTX P ops X Q n listed a w
 | .nil,n,_,_,_,A,M,h=>by
  have:n=0:=by simpa [OT.len] using A
  subst this;exact⟨by simpa [lexOT] using M,h⟩
 | .one k t,0,_,_,_,A,_,_=>by simp[OT.len]at A
 | .two _ _ _ _,0,_,_,_,A,_,_=>by simp[OT.len]at A
 | .tri _ _ _ _ _ _,0,_,_,_,A,_,_=>by simp[OT.len]at A
 | .two i t j s,n+1,listed,a,w,A,M,h=>by
  simp only[OT.len,qN]at A;simp only[lexOT,qN]at M;obtain⟨⟨⟨R,J⟩,T⟩,U⟩:=M;refine⟨fun E=>by rw[E]at R;simp at R,fun k L=>?_⟩;have:=List.all_eq_true.1 J k L;simp only[Bool.or_eq_true,beq_iff_eq]at this
  rcases this with rfl | rfl
  ·exact stepW_st (qVn (fun a w=>qKu O t n _ a w A.1 T) h.1)
  ·exact stepW_st (qVn (fun a w=>qKu O s n _ a w A.2 U) h.2)
 | .tri i t j s l r,n+1,listed,a,w,A,M,h=>by
  simp only[OT.len,qN]at A;simp only[lexOT,qN]at M;obtain⟨⟨⟨⟨R,J⟩,T⟩,U⟩,a0⟩:=M;refine⟨fun E=>by rw[E]at R;simp at R,fun k L=>?_⟩;have:=List.all_eq_true.1 J k L;simp only[Bool.or_eq_true,beq_iff_eq]at this
  rcases this with rfl | rfl | rfl
  ·exact stepW_st (qVn (fun a w=>qKu O t n _ a w A.1.1 T) h.1)
  ·exact stepW_st (qVn (fun a w=>qKu O s n _ a w A.1.2 U) h.2.1)
  ·exact stepW_st (qVn (fun a w=>qKu O r n _ a w A.2 a0) h.2.2)
 | .one k t,n+1,listed,a,w,A,M,h=>by
  simp only[OT.len]at A;simp only[walkOT,stepW]at h;split at h
  ·exact h.elim
  rename_i o E;simp only[lexOT,qN]at M;obtain⟨⟨⟨R,hf⟩,a3⟩,a4⟩:=M;have N:k ∈ qO .any ops listed:=by simpa using R
  have B:Free ops k o listed:=Region.free_spec E hf;have H:=Region.noSelect_spec O;have I:∀ a w,walkOT P ops X Q t a w->anyTX P ops X Q n (listed.setIfInBounds k true) a w:=fun a w h=>qKu O t n _ a w A a4 h
  by_cases Y:xQ o (yielded ops a.tmps)=true
  ·simp only[Y,if_true]at h
   rcases aloneB_specX E a3 with L | ⟨L,ha⟩ | ⟨L,ha⟩
   ·unfold stKX at h
    rw[L]at h;obtain⟨v,V,W⟩:=h;exact first0X E H (fun a w K hy Z=>Yields.stTX' E L hy Z) _ _ _ _ B N (.inl ⟨Y,V⟩) (I _ _ W)
   ·unfold stKX at h
    rw[L]at h;obtain⟨v,V,W⟩:=h;exact first1X E L H _ _ _ _ B ha N ⟨Y,V⟩ (I _ _ W)
   ·exact first2X E L H _ _ _ B ha N Y (by
    unfold stKX at h;split at h
    ·rename_i E;omega
    ·rename_i E;omega
    ·exact qJc (fun v w' hv=>⟨hv.1,I _ _ hv.2⟩) h)
  ·simp only[Y]at h
   have a5:xQ o (yielded ops a.tmps)=false:=by simpa using Y
   exact first0X (v:=undef) E H (fun a w K hy Z=>by
    rcases hy with ⟨V,W⟩ | ⟨V,_⟩
    ·unfold stTX
     simp only[E,V,if_true];unfold stKX;split
     ·exact⟨undef,W,Z⟩
     ·exact⟨undef,fun w' _=>W w',Z⟩
     ·simp only[outE,W w];exact⟨fun _=>Ext.refl w,Z⟩
    ·exact unwanted_stTX E V Z) _ _ _ _ B N (.inr ⟨a5,rfl⟩) (I _ _ h)
theorem wp_drawOT {Q:Exit->Act->World->Prop}{a:Act}{t:OT}(A:lexAllOT P ops X t=true)(h:walkOT P ops X (fun a w=>Q .normal a w) t a w.drew):(Code.region id ops true).wp P Q a w:=by
 simp only[lexAllOT,qN]at A;refine wp_region_any A.1.1.1 (any_of_anyTX (X:=X) (fun _ _ h=>h) _ _ _ _ ?_);have:=qKu (P:=P) (X:=X) (Q:=fun a w=>Q .normal a w) A.1.1.2 t ops.size (Array.replicate ops.size false) a w.drew A.1.2 A.2 h;simpa using this
def stepD (P:Program)(ops:Array Oper)(X:Nat->Bool)(k:Nat)(K:Ev->World->Prop)(ev:Ev)(w:World)(o:Option Oper):Prop :=
 match o with
 | none=>False
 | some o=>if wantE ops o ev=true then outK P (dopX P o.op o.type ev w) w (fun v w'=>(X k=true->Ext w w')/\K (updV ev o.dst v) w') else K (updO ev o.dst undef) w
def denOT (P:Program)(ops:Array Oper)(X:Nat->Bool)(K:Ev->World->Prop):OT->Ev->World->Prop
 | .nil,ev,w=>K ev w
 | .one k t,ev,w=>stepD P ops X k (denOT P ops X K t) ev w ops[k]?
 | .two i t j s,ev,w=>stepD P ops X i (denOT P ops X K t) ev w ops[i]?/\stepD P ops X j (denOT P ops X K s) ev w ops[j]?
 | .tri i t j s l r,ev,w=>stepD P ops X i (denOT P ops X K t) ev w ops[i]?/\stepD P ops X j (denOT P ops X K s) ev w ops[j]?/\stepD P ops X l (denOT P ops X K r) ev w ops[l]?
theorem qKj {Q:Act->World->Prop}(A:(ops.toList.all fun o=>dstOk n o.dst)=true)(J:∀ a w, a.tmps.size=n->a.defers=[]->K (evOf a) w->Q a w)
  {a:Act} (E:a.tmps.size=n) (L:a.defers=[]) (h:stepD P ops X k K (evOf a) w ops[k]?):stepW P ops X k Q a w:=by
 unfold stepD at h;unfold stepW;split at h
 ·exact h.elim
 rename_i o M;simp only[wantE_eq]
 have B:dstOk n o.dst=true:=List.all_eq_true.1 A o (by
  obtain⟨N,e⟩:=Array.getElem?_eq_some_iff.1 M
  exact e ▸ Array.getElem_mem_toList N)
 split at h
 ·rename_i H
  simp only[H,if_true];refine stK_monoX (fun v w' O=>?_) (dop_stKX (dop_of_X h));exact J _ w' (by rw[qVa];exact E) (by rw[qJa];exact L) (by rw[qKa v E B];exact O)
 ·rename_i H
  have I:wantE ops o (evOf a)=false:=by simpa using H
  simp only[I,Bool.false_eq_true,if_false];exact J _ w (by rw[qVa];exact E) (by rw[qJa];exact L) (by rw[qKa undef E B];exact h)
theorem qJp {n:Nat}{K:Ev->World->Prop}{Q:Act->World->Prop}(H:∀ a w, a.tmps.size=n->a.defers=[]->K (evOf a) w->Q a w)
  (A:(ops.toList.all fun o=>dstOk n o.dst)=true):∀ (t:OT) (a:Act) (w:World),a.tmps.size=n->a.defers=[]->denOT P ops X K t (evOf a) w->walkOT P ops X Q t a w
 | .nil,a,w,B,E,h=>H a w B E h
 | .one k t,a,w,B,E,h=>qKj A (fun a w B E h=>qJp H A t a w B E h) B E h
 | .two i t j s,a,w,B,E,h=>⟨qKj A (fun a w B E h=>qJp H A t a w B E h) B E h.1,qKj A (fun a w B E h=>qJp H A s a w B E h) B E h.2⟩
 | .tri i t j s l r,a,w,B,E,h=>⟨qKj A (fun a w B E h=>qJp H A t a w B E h) B E h.1,qKj A (fun a w B E h=>qJp H A s a w B E h) B E h.2.1,qKj A (fun a w B E h=>qJp H A r a w B E h) B E h.2.2⟩
theorem qXl {A:List Nat}{ops:Array Oper}{Q:Post}(X:Nat->Bool)(t:OT)(J:A.contains id=true)(L:lexAllOT P ops X t=true)(B:(ops.toList.all fun o=>dstOk n o.dst)=true)
  (h:denOT P ops X (Q .normal) t ev w.drew):den P n A (.region id ops true) Q ev w:=by
 simp only[den,J,if_true];intro a E H I;subst I;refine wp_drawOT L (qJp (n:=n) (K:=Q .normal) (fun a w E B h=>⟨E,B,h⟩) B t a w.drew E H h)
def contOT (P:Program)(X:Nat->Bool)(k:Nat)(K:Ev->World->Prop)(A:Option Nat)(ev:Ev)(w:World)(x:Out):Prop :=
 outK P x w (fun v w'=>(X k=true->Ext w w')/\K (updV ev A v) w')
section
variable (ops:Array Oper) (X:Nat->Bool) (K:Ev->World->Prop) (k:Nat) (t s r:OT) (i j l:Nat) (ev:Ev) (w:World)
theorem denOT_nil:denOT P ops X K .nil ev w=K ev w:=rfl
theorem denOT_one:denOT P ops X K (.one k t) ev w=stepD P ops X k (denOT P ops X K t) ev w ops[k]?:=rfl
theorem denOT_two:denOT P ops X K (.two i t j s) ev w=(denOT P ops X K (.one i t) ev w/\denOT P ops X K (.one j s) ev w):=rfl
theorem denOT_tri:denOT P ops X K (.tri i t j s l r) ev w=(denOT P ops X K (.one i t) ev w/\denOT P ops X K (.one j s) ev w/\denOT P ops X K (.one l r) ev w):=rfl
theorem stepD_cons (dst:Option Nat)(op:Op)(ty:TypeId)(pos:String)(A:Array Edge) :
  stepD P ops X k K ev w (some { dst,op,type:=ty,pos,after:=A,guard:=none })=contOT P X k K dst ev w (dopX P op ty ev w):=by
 simp[stepD,wantE,contOT]
theorem stepD_guard (dst:Option Nat)(op:Op)(ty:TypeId)(pos:String)(A:Array Edge)(g:Nat × Bool) :
  stepD P ops X k K ev w (some { dst,op,type:=ty,pos,after:=A,guard:=some g }) =
   if wantE ops { dst,op,type:=ty,pos,after:=A,guard:=some g } ev=true then contOT P X k K dst ev w (dopX P op ty ev w) else K (updO ev dst undef) w:=rfl
theorem contOT_val (d:Nat)(w':World)(v:Value):contOT P X k K (some d) ev w (.inl (some (v,w')))=((X k=true->Ext w w')/\K (upd ev d v) w'):=rfl
theorem contOT_val' (w':World)(v:Value):contOT P X k K none ev w (.inl (some (v,w')))=((X k=true->Ext w w')/\K ev w'):=rfl
theorem contOT_no (d:Option Nat):contOT P X k K d ev w (.inl none)=False:=rfl
end
theorem qQe {g:FuncId}{args:Array Value}
  (A:qQg P g=true) (h:Fn P g args w fun v w'=>(X k=true->Ext w w')/\K (updO ev d v) w'):contOT P X k K d ev w (.inr (.inl (g,args))):=⟨A,h⟩
theorem qZm {s:Sem Value}
  (h:SemD P s w fun v w'=>(X k=true->Ext w w')/\K (updO ev d v) w'):contOT P X k K d ev w (.inr (.inr s)):=h
theorem contOT_is {w w':World}{x:Out}{v:Value}(h:x=.inl (some (v, w')))
  (A:X k=true->Ext w w') (B:K (updO ev d v) w'):contOT P X k K d ev w x:=by
 subst h
 cases d <;> exact⟨A,B⟩
attribute [go_sem ↓] denOT_nil denOT_one denOT_two denOT_tri stepD_cons stepD_guard
attribute [go_sem] contOT_val contOT_val' contOT_no
theorem contOT_only {x x':Out}(h:x=x'):contOT P X k K d ev w x=contOT P X k K d ev w x':=by rw[h]
theorem stepD_only {ops:Array Oper}{o A:Option Oper}(h:o=A):stepD P ops X k K ev w o=stepD P ops X k K ev w A:=by rw[h]
attribute [congr] contOT_only stepD_only
end
end Go.V
