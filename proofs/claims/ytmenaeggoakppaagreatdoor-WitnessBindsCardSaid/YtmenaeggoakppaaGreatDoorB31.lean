/-
 Helpers: SortR, RUtil, ClA, VerP, RNear, RTake, RNbr, RFork, RTextA, RTextB, RForm, RSays, RDig, RVer, RPart, KnowA, KnowB.
-/
import Derived.Test.YtmenaeggoakppaaGreatDoorB22
import Derived.Test.YtmenaeggoakppaaGreatDoorB21
import Derived.Test.YtmenaeggoakppaaGreatDoorB29
import Derived.Test.YtmenaeggoakppaaGreatDoorB11
import Derived.Test.YtmenaeggoakppaaGreatDoorB26
import Derived.Test.YtmenaeggoakppaaGreatDoorB25
import Derived.Test.YtmenaeggoakppaaGreatDoorB23
set_option linter.all false
section
namespace Go.V
open Go.Proofs Sha
set_option maxRecDepth 100000
namespace Wit
end Wit
namespace R
end R
end Go.V
end
section
namespace Go.V
open Go.Proofs Sha
set_option maxRecDepth 100000
namespace Wit
theorem layN_app (w:Int):∀ (a c:List Bs) (h:Nat) (b s:Bs),layN w h b s (a++c)=layN w (h+a.length) (layN w h b s a).1 (layN w h b s a).2 c
 | [],c,h,b,s=>rfl
 | d::a,c,h,b,s=>by
  simp only[List.cons_append,layN,List.length_cons]
  split
  ·rw[layN_app w a c,show h+1+a.length=h+(a.length+1) by omega]
  ·rw[layN_app w a c,show h+1+a.length=h+(a.length+1) by omega]
end Wit
theorem add_or8 {x:Byte} {k:Nat} (hk:k<8) (h:x.getLsbD k=false):x.toNat+2 ^ k=(x ||| BitVec.ofNat 8 (2 ^ k)).toNat:=by
 have key:∀ (x:BitVec 8) (k:Fin 8),x.getLsbD k.val=false→x.toNat+2 ^ k.val=(x ||| BitVec.ofNat 8 (2 ^ k.val)).toNat:=by decide +kernel
 exact key x ⟨k,hk⟩ h
theorem RdD.byte {P : Program} {w : World} {b o n cap : Nat} {ds : List Bs} (h : RdD w (.slice (some ⟨b, o, Option.none⟩) n cap) ds) {t : TypeId} (ha : aggO P t = some false) {g : Nat} (hg : g < ds.length) {i : Nat} (hi : i < 32) :
    rdO P t w b (o + g * 32 + i) = some (.int .u8 (((ds.getD g []).getD i 0).toNat : Int)) := by
 obtain⟨h32,hl,a,cap',he,hcap,hat⟩:=h
 cases he
 obtain⟨b',o',he,hat⟩:=hat (by omega)
 cases he
 refine rd_rc ha ?_
 rw[Nat.add_assoc,hat _ (by omega),flat_at h32 hg hi,List.getElem?_map,List.getElem?_eq_getElem (by rw[h32.at hg];exact hi),getD_lt _ hg,getD_lt _ (by rw[h32.at hg];exact hi)];rfl
theorem By.rd1 {w:World} {v:Value} {bs:Bs} (h:By w v bs) {i:Nat} (hi:i<bs.length):∃ b o cap,v=.slice (some ⟨b,o,Option.none⟩) bs.length cap∧rdO Tryz.prog 5 w b (o+i)=some (.int .u8 ((bs.getD i 0).toNat:Int)):=by
 obtain⟨b,o,cap,rfl,_⟩:=h.pos (by omega)
 exact⟨b,o,cap,rfl,h.get Tryz.agg5 hi⟩
namespace R
end R
end Go.V
end
section
namespace Go.V
open Go.Proofs Sha
set_option maxRecDepth 100000
section
variable {P:Program}
/-- cells in the midst of a row -/
theorem rd_mid {t n:Nat} {w:World} {b:Nat} {A B C:List Value} {e:TypeId} {fz:Nat × Nat} (ha:aggO P t=some true) (hs:szO P t=some n) (h:w.heap[b]?=some (.cells (A++(B++C)).toArray e fz)) (hB:B.length=n) (h0:0<n) {o:Nat} (ho:A.length=o):rdO P t w b o=some (.agg B.toArray):=by
 subst ho
 refine rds ha hs h (by simp[hB]) h0 fun i hi=>?_
 rw[List.getElem?_toArray,List.getElem?_toArray,List.getElem?_append_right (by omega),Nat.add_sub_cancel_left,List.getElem?_append_left (by omega)]
theorem rd_one {t:Nat} {w:World} {b:Nat} {A C:List Value} {v:Value} {e:TypeId} {fz:Nat × Nat} (ha:aggO P t=some false) (h:w.heap[b]?=some (.cells (A++v::C).toArray e fz)) {o:Nat} (ho:A.length=o):rdO P t w b o=some v:=by
 subst ho
 exact rd1 ha h (by rw[List.getElem?_toArray,List.getElem?_append_right (Nat.le_refl _),Nat.sub_self];rfl)
theorem wr_mid {t n : Nat} {w : World} {b : Nat} {A B B' C : List Value} {e : TypeId} (hs : szO P t = some n) (h : w.heap[b]? = some (.cells (A ++ (B ++ C)).toArray e (0, 0))) (hB : B.length = n) (hB' : B'.length = n) (ho' : B'.all one = true) {o : Nat} (ho : A.length = o) :
    wrO P t w b o (.agg B'.toArray) = some (put w b (.cells (A ++ (B' ++ C)).toArray e (0,0))) := by
 subst ho
 have:=wrs (P:=P) (t:=t) (w:=w) (b:=b) (o:=A.length) (vs:=B'.toArray) (by simp[hB',hs]) h (by simp[hB,hB']) (by simpa using ho')
 rw[this]
 congr 3
 apply Array.toList_inj.1
 rw[storeL_list _ _ _ (by simp[hB,hB'])]
 simp[hB,hB',List.drop_append,List.take_append]
theorem wr_one {t : Nat} {w : World} {b : Nat} {A C : List Value} {u v : Value} {e : TypeId} (hs : szO P t = some 1) (h : w.heap[b]? = some (.cells (A ++ u :: C).toArray e (0, 0))) (hv : one v = true) {o : Nat} (ho : A.length = o) :
    wrO P t w b o v = some (put w b (.cells (A ++ v :: C).toArray e (0,0))) := by
 subst ho
 rw[wr1 (P:=P) hs hv h (by simp)]
 congr 3
 apply Array.toList_inj.1
 simp[Array.toList_setIfInBounds,List.set_append]
end
/-- a proof's cells -/
def prL (found:Bool) (vv:Value) (bits:Bs) (sv:Value):List Value:=.bool found::vv::(bits.map u8++[sv])
theorem prL_len {found:Bool} {vv:Value} {bits:Bs} {sv:Value} (h:bits.length=32):(prL found vv bits sv).length=35:=by simp[prL,h]
/-- a check's cells -/
def ckL (wd:Int) (k:Bs) (rv:Value) (root:Bs) (p:List Value) (e:Bs) (bv:Value):List Value:=.int .i64 wd::(k.map u8++(rv::(root.map u8++(p++(e.map u8++[bv])))))
/-- a check in memory; its row of empty digests is there or not yet -/
structure Ck (w:World) (cb:Nat) (wd:Int) (k:Bs) (rv:Value) (root:Bs) (p:List Value) (e:Bs) (bv:Value):Prop where
 row:w.heap[cb]?=some (.cells (ckL wd k rv root p e bv).toArray 200 (0,0))
 lk:k.length=32
 lr:root.length=32
 lp:p.length=35
 le:e.length=32
/-- its row of empty digests: not yet there, or there -/
def Bl (w:World) (cb:Nat) (wd:Int) (bv:Value):Prop:=bv=.slice Option.none 0 0∨RdD w bv (empts wd 256)∧∀ b,blockOf bv=some b→b≠cb
theorem Bl.fr0 {w w':World} {cb:Nat} {wd:Int} {bv:Value} (h:Bl w cb wd bv) (f:No w w'):Bl w' cb wd bv:=h.imp id fun h=>⟨h.1.fr0 f,h.2⟩
theorem Bl.frC {w w':World} {cb:Nat} {wd:Int} {bv:Value} (h:Bl w cb wd bv) (f:Fr (fun b=>b=cb) w w'):Bl w' cb wd bv:=h.imp id fun h=>⟨h.1.fr f fun b hb _=>h.2 b hb,h.2⟩
section
variable {w:World} {cb:Nat} {wd:Int} {k:Bs} {rv:Value} {root:Bs} {p:List Value} {e:Bs} {bv:Value}
theorem Ck.fr {F:Nat→Prop} {w':World} (h:Ck w cb wd k rv root p e bv) (f:Fr F w w') (h1:¬ F cb):Ck w' cb wd k rv root p e bv:=⟨f.at h.row h1,h.lk,h.lr,h.lp,h.le⟩
theorem Ck.fr0 {w':World} (h:Ck w cb wd k rv root p e bv) (f:No w w'):Ck w' cb wd k rv root p e bv:=h.fr f id
theorem Ck.lt (h:Ck w cb wd k rv root p e bv):cb<w.heap.size:=heap_lt h.row
theorem Ck.wd0 (h:Ck w cb wd k rv root p e bv):rdO Tryz.prog 3 w cb 0=some (.int .i64 wd):=rd_one (A:=[]) Tryz.agg3 h.row rfl
theorem Ck.key (h:Ck w cb wd k rv root p e bv):rdO Tryz.prog 34 w cb 1=some (dg k) :=
 rd_mid (A:=[.int .i64 wd]) (B:=k.map u8) Tryz.agg34 Tryz.sz34 h.row (by simp[h.lk]) (by decide) rfl
theorem Ck.raw (h:Ck w cb wd k rv root p e bv):rdO Tryz.prog 25 w cb 33=some rv :=
 rd_one (A:=.int .i64 wd::k.map u8) Tryz.agg25 h.row (by simp[h.lk])
theorem Ck.rdRoot (h:Ck w cb wd k rv root p e bv):rdO Tryz.prog 23 w cb 34=some (dg root):=by
 have:=h.row
 refine rd_mid (A:=.int .i64 wd::(k.map u8++[rv])) (B:=root.map u8) (C:=p++(e.map u8++[bv])) Tryz.agg23 Tryz.sz23 (fz:=(0,0)) (e:=200) ?_ (by simp[h.lr]) (by decide) (by simp[h.lk])
 rw[h.row];simp[ckL]
theorem Ck.end (h:Ck w cb wd k rv root p e bv):rdO Tryz.prog 23 w cb 101=some (dg e):=by
 refine rd_mid (A:=.int .i64 wd::(k.map u8++(rv::(root.map u8++p)))) (B:=e.map u8) (C:=[bv]) Tryz.agg23 Tryz.sz23 (fz:=(0,0)) (e:=200) ?_ (by simp[h.le]) (by decide) (by simp[h.lk,h.lr,h.lp])
 rw[h.row];simp[ckL]
theorem Ck.blank (h:Ck w cb wd k rv root p e bv):rdO Tryz.prog 94 w cb 133=some bv:=by
 refine rd_one (A:=.int .i64 wd::(k.map u8++(rv::(root.map u8++(p++e.map u8))))) (C:=[]) Tryz.agg94 (fz:=(0,0)) (e:=200) ?_ (by simp[h.lk,h.lr,h.lp,h.le])
 rw[h.row];simp[ckL]
theorem Ck.putB (h : Ck w cb wd k rv root p e bv) {bv' : Value} (ho : one bv' = true) :
    ∃ w',wrO Tryz.prog 94 w cb 133 bv' = some w' ∧ Ck w' cb wd k rv root p e bv' ∧ Fr (fun b => b = cb) w w' := by
 have hr:w.heap[cb]?=some (.cells ((.int .i64 wd::(k.map u8++(rv::(root.map u8++(p++e.map u8)))))++bv::[]).toArray 200 (0,0)):=by rw[h.row];simp[ckL]
 have f:Fr (fun b=>b=cb) w (put w cb (.cells ((.int .i64 wd::(k.map u8++(rv::(root.map u8++(p++e.map u8)))))++bv'::[]).toArray 200 (0,0))):=(Fr.refl _ _).put (b:=cb) _ fun _=>rfl
 refine⟨_,wr_one Tryz.sz94 hr ho (by simp[h.lk,h.lr,h.lp,h.le]),⟨?_,h.lk,h.lr,h.lp,h.le⟩,f⟩
 rw[put_at hr];simp[ckL]
theorem Ck.putE (h : Ck w cb wd k rv root p e bv) {e' : Bs} (he : e'.length = 32) :
    ∃ w',wrO Tryz.prog 23 w cb 101 (dg e') = some w' ∧ Ck w' cb wd k rv root p e' bv ∧ Fr (fun b => b = cb) w w' := by
 have hr:w.heap[cb]?=some (.cells ((.int .i64 wd::(k.map u8++(rv::(root.map u8++p))))++(e.map u8++[bv])).toArray 200 (0,0)):=by rw[h.row];simp[ckL]
 have f:Fr (fun b=>b=cb) w (put w cb (.cells ((.int .i64 wd::(k.map u8++(rv::(root.map u8++p))))++(e'.map u8++[bv])).toArray 200 (0,0))):=(Fr.refl _ _).put (b:=cb) _ fun _=>rfl
 refine⟨_,wr_mid (B':=e'.map u8) Tryz.sz23 hr (by simp[h.le]) (by simp[he]) (by rw[List.all_eq_true];intro x hx;obtain⟨y,_,rfl⟩:=List.mem_map.1 hx;rfl) (by simp[h.lk,h.lr,h.lp]),⟨?_,h.lk,h.lr,h.lp,he⟩,f⟩
 rw[put_at hr];simp[ckL]
theorem Ck.putP (h : Ck w cb wd k rv root p e bv) {p' : List Value} (hp : p'.length = 35) (ho : p'.all one = true) :
    ∃ w',wrO Tryz.prog 122 w cb 66 (.agg p'.toArray) = some w' ∧ Ck w' cb wd k rv root p' e bv ∧ Fr (fun b => b = cb) w w' := by
 have hr:w.heap[cb]?=some (.cells ((.int .i64 wd::(k.map u8++(rv::root.map u8)))++(p++(e.map u8++[bv]))).toArray 200 (0,0)):=by rw[h.row];simp[ckL]
 have f:Fr (fun b=>b=cb) w (put w cb (.cells ((.int .i64 wd::(k.map u8++(rv::root.map u8)))++(p'++(e.map u8++[bv]))).toArray 200 (0,0))):=(Fr.refl _ _).put (b:=cb) _ fun _=>rfl
 refine⟨_,wr_mid Tryz.sz122 hr h.lp hp ho (by simp[h.lk,h.lr]),⟨?_,h.lk,h.lr,hp,h.le⟩,f⟩
 rw[put_at hr];simp[ckL]
variable {found:Bool} {vv:Value} {bits:Bs} {sv:Value}
theorem Ck.rdFound (h:Ck w cb wd k rv root (prL found vv bits sv) e bv):rdO Tryz.prog 4 w cb 66=some (.bool found):=by
 refine rd_one (A:=.int .i64 wd::(k.map u8++(rv::root.map u8))) (C:=vv::(bits.map u8++[sv])++(e.map u8++[bv])) Tryz.agg4 (fz:=(0,0)) (e:=200) ?_ (by simp[h.lk,h.lr])
 rw[h.row];simp[ckL,prL]
theorem Ck.val (h:Ck w cb wd k rv root (prL found vv bits sv) e bv):rdO Tryz.prog 25 w cb 67=some vv:=by
 refine rd_one (A:=.int .i64 wd::(k.map u8++(rv::(root.map u8++[.bool found])))) (C:=(bits.map u8++[sv])++(e.map u8++[bv])) Tryz.agg25 (fz:=(0,0)) (e:=200) ?_ (by simp[h.lk,h.lr])
 rw[h.row];simp[ckL,prL]
theorem Ck.bit (h:Ck w cb wd k rv root (prL found vv bits sv) e bv) (hb:bits.length=32) {i:Nat} (hi:i<32):rdO Tryz.prog 5 w cb (68+i)=some (u8 (bits.getD i 0)):=by
 refine rd1 Tryz.agg5 h.row ?_
 have hl:(.int .i64 wd::(k.map u8++(rv::(root.map u8++[.bool found,vv]))):List Value).length=68:=by simp[h.lk,h.lr]
 have e1:ckL wd k rv root (prL found vv bits sv) e bv=(.int .i64 wd::(k.map u8++(rv::(root.map u8++[.bool found,vv]))))++(bits.map u8++(sv::(e.map u8++[bv]))):=by simp[ckL,prL]
 rw[List.getElem?_toArray,e1,List.getElem?_append_right (by omega),hl,Nat.add_sub_cancel_left,List.getElem?_append_left (by simp[hb];exact hi),List.getElem?_map,List.getElem?_eq_getElem (by omega),Option.map_some,getD_lt _ (by omega)]
theorem Ck.sums (h:Ck w cb wd k rv root (prL found vv bits sv) e bv) (hb:bits.length=32):rdO Tryz.prog 94 w cb 100=some sv:=by
 refine rd_one (A:=.int .i64 wd::(k.map u8++(rv::(root.map u8++(.bool found::vv::bits.map u8))))) (C:=e.map u8++[bv]) Tryz.agg94 (fz:=(0,0)) (e:=200) ?_ (by simp[h.lk,h.lr,hb])
 rw[h.row];simp[ckL,prL]
end
end Go.V
end
section
namespace Go.V
open Go.Proofs Sha
set_option maxRecDepth 100000
namespace Wit
def underP (w:Int) (root:Bs) (ks:List Bs) (raw:Bs):Except Int (Option Tw) :=
 match form w ks raw with
 | .error e=>.error e
 | .ok none=>.ok none
 | .ok (some t)=>if dig w asIs t=root then .ok (some t) else .error 131
theorem underP_ok {w:Int} {root:Bs} {ks:List Bs} {raw:Bs} {t:Tw} (h:underP w root ks raw=.ok (some t)):form w ks raw=.ok (some t)∧dig w asIs t=root:=by
 unfold underP at h
 split at h
 ·cases h
 ·cases h
 ·rename_i t' hf
  split at h
  ·rename_i hd
   simp only[Except.ok.injEq,Option.some.injEq] at h;subst h
   exact⟨hf,hd⟩
  ·cases h
theorem underP_none {w:Int} {root:Bs} {ks:List Bs} {raw:Bs} (h:underP w root ks raw=.ok none):ks=[]:=by
 unfold underP form at h
 by_cases h0:ks=[]
 ·exact h0
 ·rw[if_neg h0] at h
  exfalso
  revert h
  split
  ·simp
  ·rename_i hh
   split at hh
   ·cases hh
   ·split at hh
    ·cases hh
    ·split at hh <;> cases hh
  ·split <;> simp
def verifyP (w:Int) (root:Bs) (ks:List Bs) (raw:Bs):Except Int (List (Option Bs)) :=
 match sortW w ks with
 | .error e=>.error e
 | .ok l=>match underP w root l raw with
  | .error e=>.error e
  | .ok none=>.ok []
  | .ok (some t)=>.ok (ks.map t.at)
end Wit
theorem form_err {w:Int} {ks:List Bs} {raw:Bs} {e:Int} (h:Wit.form w ks raw=.error e):(e == 0)=false:=by
 have hc:∀ gs:List (Nat × Bs),Wit.chk w gs=0∨Wit.chk w gs=120∨Wit.chk w gs=130:=by
  intro gs
  induction gs with
  | nil=>exact .inl rfl
  | cons p gs ih =>
   simp only[Wit.chk]
   split
   ·exact .inr (.inl rfl)
   ·split
    ·exact .inr (.inr rfl)
    ·exact ih
 unfold Wit.form at h
 split at h
 ·split at h
  ·cases h
  ·cases h;rfl
 ·split at h
  ·cases h;rfl
  ·split at h
   ·cases h;rfl
   ·split at h
    ·rename_i hn
     simp only[Except.error.injEq] at h
     subst h
     rename_i p _ _
     rcases hc p.2.1 with h | h | h
     ·exact absurd h hn
     ·rw[h];rfl
     ·rw[h];rfl
    ·cases h
def acells (ps:List (Bool × Value)):List Value:=(ps.map fun p=>[Value.bool p.1,p.2]).flatten
def AnR (w:World) (p:Bool × Value) (a:Option Bs):Prop:=p.1=a.isSome∧one p.2=true∧By w p.2 (a.getD [])
def AnP (w:World) (ps:List (Bool × Value)) (an:List (Option Bs)):Prop:=ps.length=an.length∧∀ i (h:i<ps.length) (h':i<an.length),AnR w ps[i] an[i]
def AnL (w:World) (v:Value) (an:List (Option Bs)):Prop:=∃ ps,AnP w ps an∧Rd w 2 v ps.length (acells ps)
theorem AnR.fr0 {w w':World} {p:Bool × Value} {a:Option Bs} (h:AnR w p a) (k:No w w'):AnR w' p a:=⟨h.1,h.2.1,h.2.2.fr0 k⟩
theorem AnP.fr0 {w w':World} {ps:List (Bool × Value)} {an:List (Option Bs)} (h:AnP w ps an) (k:No w w'):AnP w' ps an:=⟨h.1,fun i a b=>(h.2 i a b).fr0 k⟩
theorem AnL.fr0 {w w':World} {v:Value} {an:List (Option Bs)} (h:AnL w v an) (k:No w w'):AnL w' v an:=by
 obtain⟨ps,h1,h2⟩:=h;exact⟨ps,h1.fr0 k,Rd.fr h2 k fun _ _ _ h=>h⟩
theorem AnP.snoc {w:World} {ps:List (Bool × Value)} {an:List (Option Bs)} (h:AnP w ps an) {p:Bool × Value} {a:Option Bs} (hp:AnR w p a):AnP w (ps++[p]) (an++[a]):=by
 obtain⟨h1,h2⟩:=h
 refine⟨by simp[h1],fun i hi hi'=>?_⟩
 by_cases hl:i<ps.length
 ·rw[List.getElem_append_left hl,List.getElem_append_left (by omega)];exact h2 i hl (by omega)
 ·have hi2:i=ps.length:=by simp at hi;omega
  subst hi2
  rw[List.getElem_append_right (Nat.le_refl _),List.getElem_append_right (by omega)]
  simpa [h1] using hp
theorem acells_app (a b:List (Bool × Value)):acells (a++b)=acells a++acells b:=by simp[acells]
theorem AnP.nil (w:World):AnP w [] []:=⟨rfl,fun i h=>absurd h (by simp)⟩
def VeQ (w0:World) (x:Except Int (List (Option Bs))) (r:Value) (w':World):Prop:=No w0 w'∧match x with
 | .error e=>r=.tuple #[.slice none 0 0,.int .i64 e]
 | .ok an=>∃ v,r=.tuple #[v,.int .i64 0]∧AnL w' v an
theorem sortW_err {wd:Int} {ks:List Bs} {e:Int} (h:Wit.sortW wd ks=.error e):(e != 0)=true:=by
 unfold Wit.sortW Wit.sortE at h
 split at h
 ·cases h;rfl
 ·split at h
  ·cases h;rfl
  ·split at h
   ·cases h
   ·cases h;rfl
theorem underP_err {wd:Int} {root:Bs} {ks:List Bs} {raw:Bs} {e:Int} (h:Wit.underP wd root ks raw=.error e):(e != 0)=true:=by
 unfold Wit.underP at h
 split at h
 ·rename_i hf
  cases h
  have:=form_err hf
  rw[bne,this];rfl
 ·cases h
 ·split at h
  ·cases h
  ·cases h;rfl
namespace Wit
def partP (w:Int) (ks:List Bs) (raw:Bs) (k:Bs):Except Int Bs :=
 match sortW w ks with
 | .error e=>.error e
 | .ok l=>match form w l raw with
  | .error e=>.error e
  | .ok none=>.error 160
  | .ok (some t)=>if k ∈ l then .ok (txt w (part w t k)) else .error 160
end Wit
def BsQ (w0:World) (x:Except Int Bs) (r:Value) (w':World):Prop:=No w0 w'∧match x with
 | .error e=>r=.tuple #[.slice none 0 0,.int .i64 e]
 | .ok bs=>∃ v,r=.tuple #[v,.int .i64 0]∧NwB w0 w' v bs
end Go.V
end
section
namespace Go.V
open Go.Proofs Sha
set_option maxRecDepth 100000
namespace R
end R
end Go.V
end
section
namespace Go.V
open Go.Proofs Sha
set_option maxRecDepth 100000
namespace R
abbrev wiC (wd:Int) (ev tv gv rv:Value) (p:Nat) (bad:Bool):Array Value:=#[.int .i64 wd,ev,tv,gv,rv,.int .i64 (p:Nat),.bool bad]
def WiAt (w:World) (wb:Nat) (wd:Int) (ev tv gv rv:Value) (p:Nat) (bad:Bool):Prop:=w.heap[wb]?=some (.cells (wiC wd ev tv gv rv p bad) 141 (0,0))
def TkQ (w0:World) (wb k:Nat) (wd:Int) (ev tv gv rv:Value) (p:Nat) (bad:Bool) (raw:Bs) (r:Value) (w':World):Prop:=Fr (fun b=>b=wb) w0 w'∧∃ bs:Bs,By w' r bs∧bs.length=k ∧
 (0<bs.length→∀ b,blockOf r=some b→b≠wb)∧if bad=true∨raw.length<p+k then WiAt w' wb wd ev tv gv rv p true else WiAt w' wb wd ev tv gv rv (p+k) false∧bs=(raw.drop p).take k
end R
end Go.V
end
section
namespace Go.V
open Go.Proofs Sha
set_option maxRecDepth 100000
namespace Wit
end Wit
namespace R
end R
end Go.V
end
section
namespace Go.V
open Go.Proofs Sha
set_option maxRecDepth 100000
namespace R
def lfI (w0:World) (v:Value) (f:Int) (ks:List Bs) (n:Nat) (vs:List Value) (w:World):Prop :=
 ∃ (i:Nat),vs=[v,.int .i64 f,.int .i64 ((min i (Wit.lefts ks):Nat):Int),.int .i64 (i:Nat)]∧i≤ks.length∧n=ks.length - i∧No w0 w
end R
end Go.V
end
section
namespace Go.V
open Go.Proofs Sha
set_option maxRecDepth 100000
namespace R
structure WiM (u w:World) (wb:Nat) (wd:Int) (ev rv tv gv:Value) (p:Nat) (bad:Bool) (txs gvs:Rows):Prop where
 cell:WiAt w wb wd ev tv gv rv p bad
 txr:NwR u w 220 8 tv txs
 gvr:NwR u w 267 34 gv gvs
 wbu:u.heap.size≤wb
 no:No u w
 tne:∀ b,blockOf tv=some b→b≠wb
 gne:∀ b,blockOf gv=some b→b≠wb
 tg:∀ b,blockOf tv=some b→blockOf gv≠some b
end R
end Go.V
end
section
namespace Go.V
open Go.Proofs Sha
set_option maxRecDepth 100000
namespace Wit
end Wit
namespace R
end R
end Go.V
end
section
namespace Go.V
open Go.Proofs Sha
set_option maxRecDepth 100000
theorem cutD_zero {wd:Int} {W:Nat} (hW:wd=W) {d:Bs} (hd:d.length=32):d=cutD wd d ↔ ∀ j,W≤j→j<32→d.getD j 0=0:=by
 constructor
 ·intro h j h1 h2
  have:(cutD wd d).getD j 0=0:=by
   rw[getD_lt _ (by rw[cutD_len];exact h2)]
   simp only[cutD,List.getElem_map,List.getElem_range]
   rw[if_neg (by omega)]
  rw[h];exact this
 ·intro h
  refine List.ext_getElem (by rw[cutD_len,hd]) fun i h1 h2=>?_
  simp only[cutD,List.getElem_map,List.getElem_range]
  split
  ·rw[getD_lt _ h1]
  ·have:=h i (by omega) (by omega)
   rwa [getD_lt _ h1] at this
namespace R
end R
end Go.V
namespace Go.V
open Go.Proofs Sha
namespace R
end R
end Go.V
end
section
namespace Go.V
open Go.Proofs Sha
set_option maxRecDepth 100000
namespace Wit
/-- a change: the key, is it taken away, the value -/
abbrev Ch:=Bs × Bool × Bs
def Ch.ans (c:Ch):Option Bs:=if c.2.1 then none else some c.2.2
end Wit
namespace R
end R
end Go.V
end
section
namespace Go.V
open Go.Proofs Sha
set_option maxRecDepth 100000
namespace R
theorem allocD (w : World) {ty : TypeId} (hz : szO Tryz.prog ty = some 32) {d : Bs} (hd : d.length = 32) : ∃ W, wrO Tryz.prog ty (w.alloc (.cells (bl (List.replicate 32 0)) ty)) w.heap.size 0 (dg d) = some W ∧
    W.heap[w.heap.size]? = some (.cells (bl d) ty (0,0)) ∧ No w W ∧ W.heap.size = w.heap.size + 1 := by
 have k:=alloc_blk_new w (.cells (bl (List.replicate 32 0)) ty)
 refine⟨_,wr_d hz k zl32 hd,put_at k,((Fr.refl _ _).alloc _).put (b:=w.heap.size) _ fun h=>absurd h (Nat.lt_irrefl _),?_⟩
 simp[put,alloc_heap_size]
def clI (w3:World) (zb wb tb db top:Nat) (wd:Int) (t:Wit.Tw) (x full:Bs) (g:Nat) (n:Nat) (vs:List Value) (w:World):Prop :=
 ∃ (h:Nat) (d:Bs),vs=[pt wb 0,.int .i64 (g:Nat),pt zb 0,pt tb 0,pt db 0,.int .i64 (h:Nat)]∧t.fr≤h∧h≤g∧n=g - h∧d.length=32∧full=climb wd t.key h d ((t.near.drop (h - t.fr)).take (g - h))∧w.heap[db]?=some (.cells (bl d) 23 (0,0))∧Fr (fun b=>b=db) w3 w
end R
end Go.V
end
section
namespace Go.V
open Go.Proofs Sha
set_option maxRecDepth 100000
namespace R
end R
end Go.V
end
section
namespace Go.V
open Go.Proofs Sha
set_option maxRecDepth 100000
namespace Wit
end Wit
namespace R
def nbI (wd:Int) (W:World) (wb kb:Nat) (n:Nat) (vs:List Value) (w:World):Prop :=
 ∃ (i:Nat) (v:Value),vs=[pt wb 0,pt kb 0,v,.int .i64 (i:Nat)]∧i≤256∧n=256 - i∧NwD W w 23 v (empts wd i)∧No W w
end R
end Go.V
end
section
namespace Go.V
open Go.Proofs Sha
set_option maxRecDepth 100000
theorem RdR.cutV {w:World} {k n cap:Nat} {a:Option Addr} {rows:Rows} (h:RdR w k (.slice a n cap) rows) {l m:Nat} (hl:l≤m) (hm:m≤n) (hn:rows.length=n):RdR w k (V.cutV k a cap l m) ((rows.drop l).take (m - l)):=by
 subst hn
 refine⟨fun r hr=>h.1 r (List.mem_of_mem_drop (List.mem_of_mem_take hr)),?_⟩
 have e:((rows.drop l).take (m - l)).length=m - l:=by rw[List.length_take,List.length_drop];omega
 have hfl:∀ (l:Rows) (n:Nat),RowsOk k l→(l.flatten).take (n*k)=(l.take n).flatten∧(l.flatten).drop (n*k)=(l.drop n).flatten:=by
  intro l
  induction l with
  | nil=>intro n _;simp
  | cons r l ih =>
   intro n ho
   have hr:=(ho r (by simp)).1
   cases n with
   | zero=>simp
   | succ n =>
    obtain⟨i1,i2⟩:=ih n ho.tail
    have e1:(n+1)*k=r.length+n*k:=by rw[hr,Nat.add_mul];omega
    simp only[List.flatten_cons,List.take_succ_cons,List.drop_succ_cons]
    rw[e1]
    constructor
    ·rw[List.take_append,List.take_of_length_le (by omega),Nat.add_sub_cancel_left,i1]
    ·rw[List.drop_append,List.drop_of_length_le (by omega),Nat.add_sub_cancel_left,i2,List.nil_append]
 have hd:RowsOk k (rows.drop l):=fun r hr=>h.1 r (List.mem_of_mem_drop hr)
 rw[e,← (hfl _ _ hd).1,← (hfl _ _ h.1).2]
 exact Rd.cutV h.2 hl hm
/-- entries of a map in memory -/
def enRow (c:Bs × Bs) (vv:Value):List Value:=c.1.map u8++[vv]
def EnR (w:World) (v:Value) (es:List (Bs × Bs)):Prop:=∃ rows,RdR w 33 v rows∧rows.length=es.length∧∀ i (h:i<rows.length) (h':i<es.length),∃ vv,rows[i]=enRow es[i] vv∧es[i].1.length=32∧one vv=true∧By w vv es[i].2
theorem EnR.fr0 {w w':World} {v:Value} {es:List (Bs × Bs)} (h:EnR w v es) (k:No w w'):EnR w' v es:=by
 obtain⟨rows,h1,h2,h3⟩:=h
 refine⟨rows,h1.fr0 k,h2,fun i a b=>?_⟩
 obtain⟨vv,e,l,o,y⟩:=h3 i a b
 exact⟨vv,e,l,o,y.fr0 k⟩
theorem EnR.slice {w:World} {v:Value} {es:List (Bs × Bs)} (h:EnR w v es):∃ a cap,v=.slice a es.length cap∧es.length≤cap:=by
 obtain⟨rows,h1,h2,_⟩:=h
 rw[← h2];exact h1.slice
theorem EnR.cutV {w:World} {a:Option Addr} {n cap:Nat} {es:List (Bs × Bs)} (h:EnR w (.slice a n cap) es) {l m:Nat} (hl:l≤m) (hm:m≤n) (hn:es.length=n):EnR w (V.cutV 33 a cap l m) ((es.drop l).take (m - l)):=by
 obtain⟨rows,h1,h2,h3⟩:=h
 refine⟨_,h1.cutV hl hm (by omega),by simp[h2],fun i a b=>?_⟩
 simp only[List.getElem_take,List.getElem_drop]
 rw[List.length_take,List.length_drop] at a b
 exact h3 (l+i) (by omega) (by omega)
/-- one entry -/
theorem EnR.at {w : World} {v : Value} {es : List (Bs × Bs)} (h : EnR w v es) {i : Nat} (hi : i < es.length) : ∃ b o cap vv, v = .slice (some ⟨b, o, Option.none⟩) es.length cap ∧ es.length ≤ cap ∧ es[i].1.length = 32 ∧ one vv = true ∧ By w vv es[i].2 ∧
    ∀ w',No w w' → rdO Tryz.prog 34 w' b (o + i * 33) = some (dg es[i].1) ∧ rdO Tryz.prog 25 w' b (o + i * 33 + 32) = some vv ∧ rdO Tryz.prog 65 w' b (o + i * 33) = some (.agg (enRow es[i] vv).toArray) := by
 obtain⟨rows,hR,h2,h3⟩:=h
 have hir:i<rows.length:=by omega
 obtain⟨vv,he,hl,ho,hb⟩:=h3 i hir hi
 obtain⟨b,o,cap,rfl,hc⟩:=hR.pos (by decide) (by omega)
 refine⟨b,o,cap,vv,by rw[h2],by omega,hl,ho,hb,fun w' k=>⟨?_,?_,?_⟩⟩
 ·refine (hR.fr0 k).sub Tryz.agg34 Tryz.sz34 (by decide) hir (j:=0) (by decide) (xs:=es[i].1.map u8) (by simp[hl]) fun q hq=>?_
  rw[he,Nat.zero_add,enRow,List.getElem?_append_left (by simp[hl];omega)]
 ·refine (hR.fr0 k).fld Tryz.agg25 hir (by decide) ?_
  rw[he,enRow,List.getElem?_append_right (by simp[hl])];simp[hl]
 ·rw[← he];exact (hR.fr0 k).get Tryz.agg65 Tryz.sz65 (by decide) hir
namespace R
def cwI (w0:World) (wd:Int) (esv:Value) (k full:Bs) (n:Nat) (m:Nat) (vs:List Value) (w:World):Prop :=
 ∃ (h:Nat) (d:Bs),vs=[esv,.int .i64 wd,pt w0.heap.size 0,pt (w0.heap.size+1) 0,pt (w0.heap.size+2) 0,.int .i64 (n:Nat),.int .i64 (h:Nat)]∧h≤n∧m=n - h∧d.length=32∧full=climb wd k h d (((empts wd 257).drop h).take (n - h)) ∧
  w.heap[w0.heap.size]?=some (.cells (bl k) 34 (0,0))∧w.heap[w0.heap.size+1]?=some (.cells (bl d) 23 (0,0))∧w.heap[w0.heap.size+2]?=some (.cells (bl (List.replicate 32 0)) 23 (0,0))∧No w0 w
set_option maxHeartbeats 1000000 in
theorem climbWith (w0 : World) (ht : Tabs w0) (wd : Int) {esv : Value} (he : RdD w0 esv (empts wd 257)) {k : Bs} (hk : k.length = 32) {d : Bs} (hd : d.length = 32) {n : Nat} (hn : n ≤ 256) :
    Fn Tryz.prog 102 #[esv,.int .i64 wd,dg k,.int .i64 0,dg d,.int .i64 (n : Nat)] w0 fun v w' => v = dg (climb wd k 0 (cutD wd d) ((empts wd 257).take n)) ∧ No w0 w' := by
 refine Tryz.go102 (by simp) ?_
 obtain⟨W,hW,f1,k1,k2,k3,s1⟩:=allocs3 w0 (bl k) 34 (bl d) 23 (bl (List.replicate 32 0)) 23
 simp -implicitDefEqProofs only[go_sem,Nat.reduceEqDiff,Nat.reduceBEq,Nat.reduceAdd,gLa,gLz,gLs,Tryz.f102,Value.cells,bl_zero,hW]
 refine contL_call Tryz.pl164 ((within W 0 0 256 (by decide)).mono ?_)
 rintro _ w2 ⟨rfl,rfl⟩
 simp -implicitDefEqProofs only[go_sem,Nat.reduceEqDiff,Nat.reduceBEq,Nat.reduceAdd,gLa,gLz,gLs]
 refine contL_call Tryz.pl164 ((within w2 n 0 256 (by decide)).mono ?_)
 rintro _ w3 ⟨rfl,rfl⟩
 have m1:max (0:Int) (min 0 256)=((0:Nat):Int):=rfl
 have m2:max (0:Int) (min (n:Int) 256)=(n:Int):=by omega
 have r3:=rd_d Tryz.agg23 Tryz.sz23 k2 hd
 simp -implicitDefEqProofs only[go_sem,Nat.reduceEqDiff,Nat.reduceBEq,Nat.reduceAdd,gLa,gLz,gLs,r3,m1,m2]
 refine contL_call Tryz.pl163 ((dcut w3 wd hd).mono ?_)
 rintro _ w4 ⟨rfl,f4⟩
 have lc:=cutD_len wd d
 have q5:=wr_d Tryz.sz23 (f4.at k2 id) hd lc
 have k5:=put_at (o:=.cells (bl (cutD wd d)) 23 (0,0)) (f4.at k2 id)
 have k51:=put_off (b:=w0.heap.size+1) (o:=.cells (bl (cutD wd d)) 23 (0,0)) (f4.at k1 id) (by omega)
 have k53:=put_off (b:=w0.heap.size+1) (o:=.cells (bl (cutD wd d)) 23 (0,0)) (f4.at k3 id) (by omega)
 have f5:No w0 (put w4 (w0.heap.size+1) (.cells (bl (cutD wd d)) 23 (0,0))):=(f1.trans f4).put (b:=w0.heap.size+1) _ fun h=>by omega
 simp -implicitDefEqProofs only[go_sem,Nat.reduceEqDiff,Nat.reduceBEq,Nat.reduceAdd,gLa,gLz,gLs,q5]
 generalize put w4 (w0.heap.size+1) (.cells (bl (cutD wd d)) 23 (0,0))=w5 at *
 generalize hfull:climb wd k 0 (cutD wd d) ((empts wd 257).take n)=full
 refine loopD [0,1,8,10,12,14,15] (cwI w0 wd esv k full n) n ⟨0,cutD wd d,rfl,by omega,rfl,lc,by rw[List.drop_zero,Nat.sub_zero,hfull],k51,k5,k53,f5⟩ ?_
 clear r3 q5 k5 k51 k53 f5 f4 hfull
 rintro _ vs w6 g ⟨h,x,rfl,hh,rfl,hx,hf,j1,j2,j3,f6⟩
 by_cases hlt:h<n
 ·have d1:decide ((h:Int)<(n:Int))=true:=by simp;omega
  have c1:IntKind.i64.wrap ((h:Int)+1)=((h+1:Nat):Int):=i64add (b:=1) (by omega)
  have c2:IntKind.i64.wrap (255 - (h:Int))=((255 - h:Nat):Int):=i64sub (a:=255) (by omega) (by omega)
  have rk:=rd_d Tryz.agg34 Tryz.sz34 j1 hk
  simp -implicitDefEqProofs only[go_sem,Nat.reduceEqDiff,Nat.reduceBEq,Nat.reduceAdd,gLa,gLz,gLs,d1,rk,c2]
  refine contL_call Tryz.pl165 ((bit w6 hk (i:=255 - h) (by omega)).mono ?_)
  rintro _ w7 ⟨rfl,f7⟩
  have he7:=he.fr0 (f6.trans f7)
  obtain⟨eb,eo,ec,rfl,_,_⟩:=he7.pos (by rw[empts_len];decide)
  have re:=he7.get (P:=Tryz.prog) Tryz.agg23 Tryz.sz23 (i:=h) (by rw[empts_len];omega)
  rw[List.getD_eq_getElem?_getD,empts_at wd 257 (by omega),Option.getD_some] at re
  have red:rdO Tryz.prog 23 w7.drew eb (eo+h*32)=_:=re
  have y1:(0:Int)≤(h:Int)∧(h:Int)<(((empts wd 257).length:Nat):Int):=by rw[empts_len];omega
  have hdh:=emptD_len wd h
  have k71:=f7.at j1 id
  have k72:=f7.at j2 id
  have k73:=f7.at j3 id
  have rd7:=rd_d Tryz.agg23 Tryz.sz23 k72 hx
  have rd7d:rdO Tryz.prog 23 w7.drew (w0.heap.size+1) 0=_:=rd7
  have hst:((empts wd 257).drop h).take (n - h)=emptD wd h::((empts wd 257).drop (h+1)).take (n - (h+1)):=by
   rw[List.drop_eq_getElem_cons (by rw[empts_len];omega),show n - h=(n - (h+1))+1 by omega,List.take_succ_cons]
   congr 1
   have:=empts_at wd 257 (i:=h) (by omega)
   rw[List.getElem?_eq_getElem (by rw[empts_len];omega)] at this
   exact Option.some.inj this
  rw[hst,climb] at hf
  unfold up at hf
  unfold kb
  by_cases hbit:kbit k (255 - h)=true
  ·rw[if_pos hbit] at hf
   rw[if_pos hbit]
   have d0:((1:Int) == 0)=false:=rfl
   simp -implicitDefEqProofs only[go_sem,Nat.reduceEqDiff,Nat.reduceBEq,Nat.reduceAdd,gLa,gLz,gLs,d0,y1,and_self,Int.toNat_natCast,re,red,rd7,rd7d]
   refine contL_call Tryz.pl100 ((branch w7.drew (ht.no (f6.trans f7).drew) wd hdh hx).mono ?_)
   rintro _ w8 ⟨rfl,f8⟩
   have lb:(branchD wd (emptD wd h) x).length=32:=branchD_len _ _ _
   have f78:No w7 w8:=(Fr.refl _ _).drew.trans f8
   have q9:=wr_d Tryz.sz23 (f78.at k72 id) hx lb
   simp -implicitDefEqProofs only[go_sem,Nat.reduceEqDiff,Nat.reduceBEq,Nat.reduceAdd,gLa,gLz,gLs,q9,c1]
   exact⟨n - (h+1),by omega,h+1,_,rfl,by omega,rfl,lb,hf,put_off (f78.at k71 id) (by omega),put_at (f78.at k72 id),put_off (f78.at k73 id) (by omega),((f6.trans f7).trans f78).put (b:=w0.heap.size+1) _ fun h=>by omega⟩
  ·rw[if_neg hbit] at hf
   rw[if_neg hbit]
   have d0:((0:Int) == 0)=true:=rfl
   simp -implicitDefEqProofs only[go_sem,Nat.reduceEqDiff,Nat.reduceBEq,Nat.reduceAdd,gLa,gLz,gLs,d0,y1,and_self,Int.toNat_natCast,re,red,rd7,rd7d]
   refine contL_call Tryz.pl100 ((branch w7.drew (ht.no (f6.trans f7).drew) wd hx hdh).mono ?_)
   rintro _ w8 ⟨rfl,f8⟩
   have lb:(branchD wd x (emptD wd h)).length=32:=branchD_len _ _ _
   have f78:No w7 w8:=(Fr.refl _ _).drew.trans f8
   have q9:=wr_d Tryz.sz23 (f78.at k72 id) hx lb
   simp -implicitDefEqProofs only[go_sem,Nat.reduceEqDiff,Nat.reduceBEq,Nat.reduceAdd,gLa,gLz,gLs,q9,c1]
   exact⟨n - (h+1),by omega,h+1,_,rfl,by omega,rfl,lb,hf,put_off (f78.at k71 id) (by omega),put_at (f78.at k72 id),put_off (f78.at k73 id) (by omega),((f6.trans f7).trans f78).put (b:=w0.heap.size+1) _ fun h=>by omega⟩
 ·have d1:decide ((h:Int)<(n:Int))=false:=by simp;omega
  obtain rfl:h=n:=by omega
  rw[Nat.sub_self,List.take_zero] at hf
  have hf:full=x:=hf
  subst hf
  have rd6:=rd_d Tryz.agg23 Tryz.sz23 j2 hx
  have q7:=wr_d Tryz.sz23 j3 zl32 hx
  have r7:=rd_d Tryz.agg23 Tryz.sz23 (put_at (o:=.cells (bl full) 23 (0,0)) j3) hx
  simp -implicitDefEqProofs only[go_sem,Nat.reduceEqDiff,Nat.reduceBEq,Nat.reduceAdd,gLa,gLz,gLs,d1,rd6,q7,r7]
  exact f6.put (b:=w0.heap.size+2) _ fun h=>by omega
end R
end Go.V
end
section
namespace Go.V
open Go.Proofs Sha
set_option maxRecDepth 100000
namespace R
theorem leaf_cut (wd:Int) (k v:Bs):cutD wd (leafD wd k v)=leafD wd k v:=Wit.hcut_tdy wd _
set_option maxHeartbeats 1000000 in
theorem digest1 (w0 : World) (ht : Tabs w0) (wd : Int) {esv mv : Value} (he : RdD w0 esv (empts wd 257)) {e : Bs × Bs} (hm : EnR w0 mv [e]) (hl : e.2.length ≤ 549755813888) {n : Nat} (hn : n ≤ 256) :
    Fn Tryz.prog 58 #[.int .i64 wd,esv,mv,.int .i64 (n : Nat)] w0 fun v w' => v = dg (climb wd e.1 0 (leafD wd e.1 e.2) ((empts wd 257).take (256 - n))) ∧ No w0 w' := by
 refine Tryz.go58 (by simp) ?_
 obtain⟨W,hW,f1,k1,s1⟩:=allocs1 w0 (bl (List.replicate 32 0)) 23
 obtain⟨b,o,cap,vv,rfl,hc,hk,hone,hby,hrd⟩:=(hm.fr0 f1).at (i:=0) (by simp)
 simp only[List.getElem_cons_zero] at hk hby hrd
 have d1:(((([e]:List (Bs × Bs)).length:Nat):Int) == 0)=false:=rfl
 have d2:(((([e]:List (Bs × Bs)).length:Nat):Int) == 1)=true:=rfl
 have y1:(0:Int)≤0∧(0:Int)<((([e]:List (Bs × Bs)).length:Nat):Int):=by simp
 obtain⟨r1,r2,_⟩:=hrd W (Fr.refl _ _)
 obtain⟨r1d,r2d,_⟩:=hrd W.drew (Fr.refl _ _).drew
 rw[Nat.zero_mul,Nat.add_zero] at r1 r2 r1d r2d
 simp -implicitDefEqProofs only[go_sem,Nat.reduceEqDiff,Nat.reduceBEq,Nat.reduceAdd,gLa,gLz,gLs,Tryz.f58,Value.cells,bl_zero,hW,d1,d2]
 refine den_ot (fun j=>j == 9 || j == 10) (.one 0 (.one 1 (.one 2 (.one 3 (.one 4 (.one 5 (.one 6 (.one 7 (.one 8 (.two 9 (.row [10,11]) 10 (.row [9,11]))))))))))) rfl (by kernel_rfl) (by kernel_rfl) ?_
 have ll:(leafD wd e.1 e.2).length=32:=leafD_len _ _ _
 have lc:(climb wd e.1 0 (leafD wd e.1 e.2) ((empts wd 257).take (256 - n))).length=32:=climb_len _ _ _ _ _ ll
 have c1:IntKind.i64.wrap (256 - (n:Int))=((256 - n:Nat):Int):=i64sub (a:=256) (by omega) (by omega)
 simp -implicitDefEqProofs only[go_sem,Nat.reduceEqDiff,Nat.reduceBEq,Nat.reduceAdd,gLa,gLz,gLs,y1,and_self,Int.toNat_zero,Nat.zero_mul,Nat.add_zero,r1,r2,r1d,r2d,ft_beq,tf_beq,beq_self_eq_true,OT.row,Value.cells,bl_zero]
 constructor
 ·refine contOT_call Tryz.pl101 ((leaf W.drew (ht.no f1.drew) wd hk (val:=e.2) (hby.fr0 (Fr.refl _ _).drew) hl).mono ?_)
  rintro _ w2 ⟨rfl,f2⟩
  refine⟨fun _=>Fr.ext f2,?_⟩
  have f12:No W w2:=(Fr.refl _ _).drew.trans f2
  obtain⟨W3,q3,k3,f3,s3⟩:=allocD w2 (ty:=23) Tryz.sz23 ll
  have f13:=f12.trans f3
  have f03:=f1.trans f13
  obtain⟨r1,r2,_⟩:=hrd W3 f13
  obtain⟨r1d,r2d,_⟩:=hrd W3.drew f13.drew
  rw[Nat.zero_mul,Nat.add_zero] at r1 r2 r1d r2d
  have r3:=rd_d Tryz.agg23 Tryz.sz23 k3 ll
  have r3d:rdO Tryz.prog 23 W3.drew w2.heap.size 0=_:=r3
  simp -implicitDefEqProofs only[go_sem,Nat.reduceEqDiff,Nat.reduceBEq,Nat.reduceAdd,gLa,gLz,gLs,Value.cells,bl_zero,q3,y1,and_self,Int.toNat_zero,Nat.zero_mul,Nat.add_zero,r1,r2,r1d,r2d,r3,r3d,c1,ft_beq,tf_beq,beq_self_eq_true]
  refine contL_call Tryz.pl102 ((climbWith W3.drew (ht.no f03.drew) wd (he.fr0 f03.drew) hk ll (n:=256 - n) (by omega)).mono ?_)
  rintro _ w4 ⟨rfl,f4⟩
  rw[leaf_cut]
  have k4:=(f13.drew.trans f4).at k1 id
  have q5:=wr_d Tryz.sz23 k4 zl32 lc
  have r5:=rd_d Tryz.agg23 Tryz.sz23 (put_at (o:=.cells (bl (climb wd e.1 0 (leafD wd e.1 e.2) ((empts wd 257).take (256 - n)))) 23 (0,0)) k4) lc
  simp -implicitDefEqProofs only[go_sem,Nat.reduceEqDiff,Nat.reduceBEq,Nat.reduceAdd,gLa,gLz,gLs,q5,r5]
  exact (f03.drew.trans f4).put (b:=w0.heap.size) _ fun h=>by omega
 ·obtain⟨W2,hW2,f2,k2,s2⟩:=allocs1 W.drew (bl (List.replicate 32 0)) 23
  simp only[hW2]
  have f12:No W W2:=(Fr.refl _ _).drew.trans f2
  refine contOT_call Tryz.pl101 ((leaf W2 (ht.no (f1.trans f12)) wd hk (val:=e.2) (hby.fr0 f12) hl).mono ?_)
  rintro _ w3' ⟨rfl,f3'⟩
  refine⟨fun _=>Fr.ext f3',?_⟩
  have k2':=f3'.at k2 id
  obtain⟨W3,q3,k3,f13⟩:∃ W3,wrO Tryz.prog 23 w3' W.heap.size 0 (dg (leafD wd e.1 e.2))=some W3∧W3.heap[W.heap.size]?=some (.cells (bl (leafD wd e.1 e.2)) 23 (0,0))∧No W W3 :=
   ⟨_,wr_d Tryz.sz23 k2' zl32 ll,put_at k2',(f12.trans f3').put (b:=W.heap.size) _ fun h=>absurd h (Nat.lt_irrefl _)⟩
  have f03:=f1.trans f13
  obtain⟨r1,r2,_⟩:=hrd W3 f13
  obtain⟨r1d,r2d,_⟩:=hrd W3.drew f13.drew
  rw[Nat.zero_mul,Nat.add_zero] at r1 r2 r1d r2d
  have r3:=rd_d Tryz.agg23 Tryz.sz23 k3 ll
  have r3d:rdO Tryz.prog 23 W3.drew W.heap.size 0=_:=r3
  simp -implicitDefEqProofs only[go_sem,Nat.reduceEqDiff,Nat.reduceBEq,Nat.reduceAdd,gLa,gLz,gLs,q3,y1,and_self,Int.toNat_zero,Nat.zero_mul,Nat.add_zero,r1,r2,r1d,r2d,r3,r3d,c1,ft_beq,tf_beq,beq_self_eq_true]
  refine contL_call Tryz.pl102 ((climbWith W3.drew (ht.no f03.drew) wd (he.fr0 f03.drew) hk ll (n:=256 - n) (by omega)).mono ?_)
  rintro _ w4 ⟨rfl,f4⟩
  rw[leaf_cut]
  have k4:=(f13.drew.trans f4).at k1 id
  have q5:=wr_d Tryz.sz23 k4 zl32 lc
  have r5:=rd_d Tryz.agg23 Tryz.sz23 (put_at (o:=.cells (bl (climb wd e.1 0 (leafD wd e.1 e.2) ((empts wd 257).take (256 - n)))) 23 (0,0)) k4) lc
  simp -implicitDefEqProofs only[go_sem,Nat.reduceEqDiff,Nat.reduceBEq,Nat.reduceAdd,gLa,gLz,gLs,q5,r5]
  exact (f03.drew.trans f4).put (b:=w0.heap.size) _ fun h=>by omega
end R
end Go.V
end
