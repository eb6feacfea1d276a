/- Helpers. -/
import Derived.Test.YtppmpdjlmgfdkaaGreatDoorG13
set_option linter.all false
set_option maxRecDepth 100000
set_option maxHeartbeats 8000000
open Bool renaming and_eq_true→qL
open Go.Region renaming ready→qT,wanted→qE
namespace Go.V
variable {ev:Ev} {K:Ev→World→Prop} {id k n:Nat} {X:Nat→Bool} {d:Option Nat} {w:World}
section
variable {P:Program} {ops:Array Oper} {X:Nat→Bool}
inductive OT where
 | nil
 | one (k:Nat) (t:OT)
 | two (i:Nat) (t:OT) (j:Nat) (s:OT)
 | tri (i:Nat) (t:OT) (j:Nat) (s:OT) (l:Nat) (r:OT)
namespace OT
def len:OT→Nat→Bool
 | nil,n=>n == 0
 | one _ t,n+1=>t.len n
 | two _ t _ s,n+1=>t.len n && s.len n
 | tri _ t _ s _ r,n+1=>t.len n && s.len n && r.len n
 | _,0=>false
def row:List Nat→OT
 | []=>nil
 | k::r=>one k (row r)
end OT
def stepW (P:Program)(ops:Array Oper)(X:Nat→Bool)(k:Nat)(K:Act→World→Prop)(a:Act)(w:World):Prop :=
 match ops[k]? with
 | none=>False
 | some o=>if qE o (yielded ops a.tmps) then stKX P (X k) o a w (fun v w'=>K (a.put o.dst v) w') else K (a.put o.dst undef) w
def walkOT (P:Program)(ops:Array Oper)(X:Nat→Bool)(Q:Act→World→Prop):OT→Act→World→Prop
 | .nil,a,w=>Q a w
 | .one k t,a,w=>stepW P ops X k (walkOT P ops X Q t) a w
 | .two i t j s,a,w=>stepW P ops X i (walkOT P ops X Q t) a w∧stepW P ops X j (walkOT P ops X Q s) a w
 | .tri i t j s l r,a,w=>stepW P ops X i (walkOT P ops X Q t) a w∧stepW P ops X j (walkOT P ops X Q s) a w∧stepW P ops X l (walkOT P ops X Q r) a w
def lexOT (P:Program)(ops:Array Oper)(X:Nat→Bool):OT→Array Bool→Bool
 | .nil,listed=>(qT .any ops listed).isEmpty
 | .one k t,listed=>(qT .any ops listed).contains k && Region.free .any ops listed k && aloneBX P ops X k listed && lexOT P ops X t (listed.setIfInBounds k true)
 | .two i t j s,listed=>(qT .any ops listed).contains i && (qT .any ops listed).all (fun k=>k == i || k == j) && lexOT P ops X t (listed.setIfInBounds i true) && lexOT P ops X s (listed.setIfInBounds j true)
 | .tri i t j s l r,listed=>(qT .any ops listed).contains i && (qT .any ops listed).all (fun k=>k == i || (k == j || k == l)) && lexOT P ops X t (listed.setIfInBounds i true) && lexOT P ops X s (listed.setIfInBounds j true) && lexOT P ops X r (listed.setIfInBounds l true)
def lexAllOT (P:Program)(ops:Array Oper)(X:Nat→Bool)(t:OT):Bool:=P.follows .mixedOrders && Region.noSelect ops && t.len ops.size && lexOT P ops X t (Array.replicate ops.size false)
theorem stepW_st {K:Act→World→Prop}{a:Act}(h:stepW P ops X k K a w):stTX P ops X k K a w:=by
 unfold stepW at h;unfold stTX;split
 ·rename_i ho;rw[ho]at h;exact h.elim
 ·rename_i o ho;rw[ho]at h;exact h
theorem qKm {K K':Act→World→Prop}{a:Act}(hk:∀ a w,K a w→K' a w)(h:stepW P ops X k K a w):stepW P ops X k K' a w:=by
 unfold stepW at *;split
 ·rename_i ho;rw[ho]at h;exact h
 ·rename_i o ho
  rw[ho]at h;simp only at h;split
  ·rename_i hw;simp only[hw,if_true]at h;exact stK_monoX (fun v w'=>hk _ _) h
  ·rename_i hw;simp only[hw]at h;exact hk _ _ h
theorem qJx {Q:Act→World→Prop}(hs:Region.noSelect ops=true):∀ (t:OT) (n:Nat) (listed:Array Bool) (a:Act) (w:World), t.len n=true →
  lexOT P ops X t listed=true→walkOT P ops X Q t a w→anyTX P ops X Q n listed a w
 | .nil,n,_,_,_,hn,hB,h=>by
  have:n=0:=by simpa [OT.len] using hn
  subst this;exact⟨by simpa [lexOT] using hB,h⟩
 | .one k t,0,_,_,_,hn,_,_=>by simp[OT.len]at hn
 | .two _ _ _ _,0,_,_,_,hn,_,_=>by simp[OT.len]at hn
 | .tri _ _ _ _ _ _,0,_,_,_,hn,_,_=>by simp[OT.len]at hn
 | .two i t j s,n+1,listed,a,w,hn,hB,h=>by
  simp only[OT.len,qL]at hn;simp only[lexOT,qL]at hB;obtain⟨⟨⟨hr,hall⟩,hB1⟩,hB2⟩:=hB;refine⟨fun h0=>by rw[h0]at hr;simp at hr,fun k hk=>?_⟩;have:=List.all_eq_true.1 hall k hk;simp only[Bool.or_eq_true,beq_iff_eq]at this
  rcases this with rfl | rfl
  ·exact stepW_st (qKm (fun a w=>qJx hs t n _ a w hn.1 hB1) h.1)
  ·exact stepW_st (qKm (fun a w=>qJx hs s n _ a w hn.2 hB2) h.2)
 | .tri i t j s l r,n+1,listed,a,w,hn,hB,h=>by
  simp only[OT.len,qL]at hn;simp only[lexOT,qL]at hB;obtain⟨⟨⟨⟨hr,hall⟩,hB1⟩,hB2⟩,hB3⟩:=hB;refine⟨fun h0=>by rw[h0]at hr;simp at hr,fun k hk=>?_⟩;have:=List.all_eq_true.1 hall k hk;simp only[Bool.or_eq_true,beq_iff_eq]at this
  rcases this with rfl | rfl | rfl
  ·exact stepW_st (qKm (fun a w=>qJx hs t n _ a w hn.1.1 hB1) h.1)
  ·exact stepW_st (qKm (fun a w=>qJx hs s n _ a w hn.1.2 hB2) h.2.1)
  ·exact stepW_st (qKm (fun a w=>qJx hs r n _ a w hn.2 hB3) h.2.2)
 | .one k t,n+1,listed,a,w,hn,hB,h=>by
  simp only[OT.len]at hn;simp only[walkOT,stepW]at h;split at h
  ·exact h.elim
  rename_i o h0;simp only[lexOT,qL]at hB;obtain⟨⟨⟨hr,hf⟩,hal⟩,hB'⟩:=hB;have hr':k ∈ qT .any ops listed:=by simpa using hr
  have hfree:Free ops k o listed:=Region.free_spec h0 hf;have hsel:=Region.noSelect_spec hs;have hrec:∀ a w,walkOT P ops X Q t a w→anyTX P ops X Q n (listed.setIfInBounds k true) a w:=fun a w h=>qJx hs t n _ a w hn hB' h
  by_cases hw:qE o (yielded ops a.tmps)=true
  ·simp only[hw,if_true]at h
   rcases aloneB_specX h0 hal with hk | ⟨hk,ha⟩ | ⟨hk,ha⟩
   ·unfold stKX at h
    rw[hk]at h;obtain⟨v,h1,h2⟩:=h;exact first0X h0 hsel (fun a w K hy hK=>Yields.stTX' h0 hk hy hK) _ _ _ _ hfree hr' (.inl ⟨hw,h1⟩) (hrec _ _ h2)
   ·unfold stKX at h
    rw[hk]at h;obtain⟨v,h1,h2⟩:=h;exact first1X h0 hk hsel _ _ _ _ hfree ha hr' ⟨hw,h1⟩ (hrec _ _ h2)
   ·exact first2X h0 hk hsel _ _ _ hfree ha hr' hw (by
    unfold stKX at h;split at h
    ·rename_i h0;omega
    ·rename_i h0;omega
    ·exact qZr (fun v w' hv=>⟨hv.1,hrec _ _ hv.2⟩) h)
  ·simp only[hw]at h
   have hw':qE o (yielded ops a.tmps)=false:=by simpa using hw
   exact first0X (v:=undef) h0 hsel (fun a w K hy hK=>by
    rcases hy with ⟨h1,h2⟩ | ⟨h1,_⟩
    ·unfold stTX
     simp only[h0,h1,if_true];unfold stKX;split
     ·exact⟨undef,h2,hK⟩
     ·exact⟨undef,fun w' _=>h2 w',hK⟩
     ·simp only[outE,h2 w];exact⟨fun _=>Ext.refl w,hK⟩
    ·exact unwanted_stTX h0 h1 hK) _ _ _ _ hfree hr' (.inr ⟨hw',rfl⟩) (hrec _ _ h)
theorem wp_drawOT {Q:Exit→Act→World→Prop}{a:Act}{t:OT}(hB:lexAllOT P ops X t=true)(h:walkOT P ops X (fun a w=>Q .normal a w) t a w.drew):(Code.region id ops true).wp P Q a w:=by
 simp only[lexAllOT,qL]at hB;refine wp_region_any hB.1.1.1 (any_of_anyTX (X:=X) (fun _ _ h=>h) _ _ _ _ ?_);have:=qJx (P:=P) (X:=X) (Q:=fun a w=>Q .normal a w) hB.1.1.2 t ops.size (Array.replicate ops.size false) a w.drew hB.1.2 hB.2 h;simpa using this
def stepD (P:Program)(ops:Array Oper)(X:Nat→Bool)(k:Nat)(K:Ev→World→Prop)(ev:Ev)(w:World)(o:Option Oper):Prop :=
 match o with
 | none=>False
 | some o=>if wantE ops o ev=true then outK P (dopX P o.op o.type ev w) w (fun v w'=>(X k=true→Ext w w')∧K (updV ev o.dst v) w') else K (updO ev o.dst undef) w
def denOT (P:Program)(ops:Array Oper)(X:Nat→Bool)(K:Ev→World→Prop):OT→Ev→World→Prop
 | .nil,ev,w=>K ev w
 | .one k t,ev,w=>stepD P ops X k (denOT P ops X K t) ev w ops[k]?
 | .two i t j s,ev,w=>stepD P ops X i (denOT P ops X K t) ev w ops[i]?∧stepD P ops X j (denOT P ops X K s) ev w ops[j]?
 | .tri i t j s l r,ev,w=>stepD P ops X i (denOT P ops X K t) ev w ops[i]?∧stepD P ops X j (denOT P ops X K s) ev w ops[j]?∧stepD P ops X l (denOT P ops X K r) ev w ops[l]?
theorem qJo {Q:Act→World→Prop}(hall:(ops.toList.all fun o=>dstOk n o.dst)=true)(hQ:∀ a w, a.tmps.size=n→a.defers=[]→K (evOf a) w→Q a w)
  {a:Act} (hn:a.tmps.size=n) (hd:a.defers=[]) (h:stepD P ops X k K (evOf a) w ops[k]?):stepW P ops X k Q a w:=by
 unfold stepD at h;unfold stepW;split at h
 ·exact h.elim
 rename_i o ho;simp only[wantE_eq]
 have hl1:dstOk n o.dst=true:=List.all_eq_true.1 hall o (by
  obtain⟨hk,e⟩:=Array.getElem?_eq_some_iff.1 ho
  exact e ▸ Array.getElem_mem_toList hk)
 split at h
 ·rename_i hw
  simp only[hw,if_true];refine stK_monoX (fun v w' hv=>?_) (dop_stKX (dop_of_X h));exact hQ _ w' (by rw[qKc];exact hn) (by rw[qZp];exact hd) (by rw[qJj v hn hl1];exact hv)
 ·rename_i hw
  have hw':wantE ops o (evOf a)=false:=by simpa using hw
  simp only[hw',Bool.false_eq_true,if_false];exact hQ _ w (by rw[qKc];exact hn) (by rw[qZp];exact hd) (by rw[qJj undef hn hl1];exact h)
theorem qJa {n:Nat}{K:Ev→World→Prop}{Q:Act→World→Prop}(hQ:∀ a w, a.tmps.size=n→a.defers=[]→K (evOf a) w→Q a w)
  (hall:(ops.toList.all fun o=>dstOk n o.dst)=true):∀ (t:OT) (a:Act) (w:World),a.tmps.size=n→a.defers=[]→denOT P ops X K t (evOf a) w→walkOT P ops X Q t a w
 | .nil,a,w,hn,hd,h=>hQ a w hn hd h
 | .one k t,a,w,hn,hd,h=>qJo hall (fun a w hn hd h=>qJa hQ hall t a w hn hd h) hn hd h
 | .two i t j s,a,w,hn,hd,h=>⟨qJo hall (fun a w hn hd h=>qJa hQ hall t a w hn hd h) hn hd h.1,qJo hall (fun a w hn hd h=>qJa hQ hall s a w hn hd h) hn hd h.2⟩
 | .tri i t j s l r,a,w,hn,hd,h=>⟨qJo hall (fun a w hn hd h=>qJa hQ hall t a w hn hd h) hn hd h.1,qJo hall (fun a w hn hd h=>qJa hQ hall s a w hn hd h) hn hd h.2.1,qJo hall (fun a w hn hd h=>qJa hQ hall r a w hn hd h) hn hd h.2.2⟩
theorem qXf {bad:List Nat}{ops:Array Oper}{Q:Post}(X:Nat→Bool)(t:OT)(hb:bad.contains id=true)(hB:lexAllOT P ops X t=true)(hd:(ops.toList.all fun o=>dstOk n o.dst)=true)
  (h:denOT P ops X (Q .normal) t ev w.drew):den P n bad (.region id ops true) Q ev w:=by
 simp only[den,hb,if_true];intro a hn hde hev;subst hev;refine wp_drawOT hB (qJa (n:=n) (K:=Q .normal) (fun a w hn hd h=>⟨hn,hd,h⟩) hd t a w.drew hn hde h)
def contOT (P:Program)(X:Nat→Bool)(k:Nat)(K:Ev→World→Prop)(dst:Option Nat)(ev:Ev)(w:World)(x:Out):Prop :=
 outK P x w (fun v w'=>(X k=true→Ext w w')∧K (updV ev dst v) w')
section
variable (ops:Array Oper) (X:Nat→Bool) (K:Ev→World→Prop) (k:Nat) (t s r:OT) (i j l:Nat) (ev:Ev) (w:World)
theorem denOT_nil:denOT P ops X K .nil ev w=K ev w:=rfl
theorem denOT_one:denOT P ops X K (.one k t) ev w=stepD P ops X k (denOT P ops X K t) ev w ops[k]?:=rfl
theorem denOT_two:denOT P ops X K (.two i t j s) ev w=(denOT P ops X K (.one i t) ev w∧denOT P ops X K (.one j s) ev w):=rfl
theorem denOT_tri:denOT P ops X K (.tri i t j s l r) ev w=(denOT P ops X K (.one i t) ev w∧denOT P ops X K (.one j s) ev w∧denOT P ops X K (.one l r) ev w):=rfl
theorem stepD_cons (dst:Option Nat)(op:Op)(ty:TypeId)(pos:String)(af:Array Edge) :
  stepD P ops X k K ev w (some { dst,op,type:=ty,pos,after:=af,guard:=none })=contOT P X k K dst ev w (dopX P op ty ev w):=by
 simp[stepD,wantE,contOT]
theorem stepD_guard (dst:Option Nat)(op:Op)(ty:TypeId)(pos:String)(af:Array Edge)(g:Nat × Bool) :
  stepD P ops X k K ev w (some { dst,op,type:=ty,pos,after:=af,guard:=some g }) =
   if wantE ops { dst,op,type:=ty,pos,after:=af,guard:=some g } ev=true then contOT P X k K dst ev w (dopX P op ty ev w) else K (updO ev dst undef) w:=rfl
theorem contOT_val (d:Nat)(w':World)(v:Value):contOT P X k K (some d) ev w (.inl (some (v,w')))=((X k=true→Ext w w')∧K (upd ev d v) w'):=rfl
theorem contOT_val' (w':World)(v:Value):contOT P X k K none ev w (.inl (some (v,w')))=((X k=true→Ext w w')∧K ev w'):=rfl
theorem contOT_no (d:Option Nat):contOT P X k K d ev w (.inl none)=False:=rfl
end
theorem qQf {g:FuncId}{args:Array Value}
  (hp:qQe P g=true) (h:Fn P g args w fun v w'=>(X k=true→Ext w w')∧K (updO ev d v) w'):contOT P X k K d ev w (.inr (.inl (g,args))):=⟨hp,h⟩
theorem qZq {s:Sem Value}
  (h:SemD P s w fun v w'=>(X k=true→Ext w w')∧K (updO ev d v) w'):contOT P X k K d ev w (.inr (.inr s)):=h
theorem contOT_is {w w':World}{x:Out}{v:Value}(h:x=.inl (some (v, w')))
  (he:X k=true→Ext w w') (hk:K (updO ev d v) w'):contOT P X k K d ev w x:=by
 subst h
 cases d <;> exact⟨he,hk⟩
attribute [go_sem ↓] denOT_nil denOT_one denOT_two denOT_tri stepD_cons stepD_guard
attribute [go_sem] contOT_val contOT_val' contOT_no
theorem contOT_only {x x':Out}(h:x=x'):contOT P X k K d ev w x=contOT P X k K d ev w x':=by rw[h]
theorem stepD_only {ops:Array Oper}{o o':Option Oper}(h:o=o'):stepD P ops X k K ev w o=stepD P ops X k K ev w o':=by rw[h]
attribute [congr] contOT_only stepD_only
end
end Go.V
