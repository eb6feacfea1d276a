/- Helpers. -/
import Derived.Test.YtmenaeggoakppaaGreatDoorG11
import Derived.Test.YtmenaeggoakppaaGreatDoorG23
import Derived.Test.YtmenaeggoakppaaGreatDoorG28
import Derived.Test.YtmenaeggoakppaaGreatDoorG20
import Derived.Test.YtmenaeggoakppaaGreatDoorG21
import Derived.Test.YtmenaeggoakppaaGreatDoorG32
import Derived.Test.YtmenaeggoakppaaGreatDoorG31
set_option linter.all false
set_option maxRecDepth 100000
set_option maxHeartbeats 8000000
open List renaming getElem?_toArray→zX,getElem?_append_right→jN,getElem?_append_left→zL
namespace Go.V
open Go.Proofs.Tryz Go.V.Tryz
open Go.Proofs Sha
variable {wd:Int} {A B C:List Value} {b cb n o t:Nat} {fz:Nat × Nat} {bv v:Value} {w w':World}
section
section
variable {P:Program}
theorem rd_mid {e:TypeId}(ha:aggO P t=some true)(hs:szO P t=some n)(h:w.heap[b]?=some (.cells (A++(B++C)).toArray e fz))(hB:B.length=n)(h0:0<n)(ho:A.length=o):rdO P t w b o=some (.agg B.toArray):=by
 subst ho;refine rds ha hs h (by simp[hB]) h0 fun i hi=>?_;rw[zX,zX,jN (by omega),Nat.add_sub_cancel_left,zL (by omega)]
theorem rd_one {e:TypeId}(ha:aggO P t=some false)(h:w.heap[b]?=some (.cells (A++v::C).toArray e fz))(ho:A.length=o):rdO P t w b o=some v:=by
 subst ho;exact rd1 ha h (by rw[zX,jN (Nat.le_refl _),Nat.sub_self];rfl)
theorem wr_mid {A B B' C:List Value}{e:TypeId}(hs:szO P t=some n)(h:w.heap[b]?=some (.cells (A++(B++C)).toArray e (0, 0)))(hB:B.length=n)(hB':B'.length=n)(ho':B'.all one=true)(ho:A.length=o) :
  wrO P t w b o (.agg B'.toArray)=some (put w b (.cells (A++(B'++C)).toArray e (0,0))):=by
 subst ho;have:=wrs (P:=P) (t:=t) (w:=w) (b:=b) (o:=A.length) (vs:=B'.toArray) (by simp[hB',hs]) h (by simp[hB,hB']) (by simpa using ho');rw[this]
 congr 3
 apply Array.toList_inj.1;rw[qXk _ _ _ (by simp[hB,hB'])];simp[hB,hB',List.drop_append]
theorem wr_one {u v:Value}{e:TypeId}(hs:szO P t=some 1)(h:w.heap[b]?=some (.cells (A++u::C).toArray e (0, 0)))(hv:one v=true)(ho:A.length=o) :
  wrO P t w b o v=some (put w b (.cells (A++v::C).toArray e (0,0))):=by
 subst ho;rw[wr1 (P:=P) hs hv h (by simp)]
 congr 3
 apply Array.toList_inj.1;simp[]
end
def prL (found:Bool)(vv:Value)(bits:Bs)(sv:Value):List Value:=.bool found::vv::(bits.map u8++[sv])
theorem qXv {found:Bool}{vv:Value}{bits:Bs}{sv:Value}(h:bits.length=32):(prL found vv bits sv).length=35:=by simp[prL,h]
def ckL (wd:Int)(k:Bs)(rv:Value)(root:Bs)(p:List Value)(e:Bs)(bv:Value):List Value:=.int .i64 wd::(k.map u8++(rv::(root.map u8++(p++(e.map u8++[bv])))))
structure Ck (w:World) (cb:Nat) (wd:Int) (k:Bs) (rv:Value) (root:Bs) (p:List Value) (e:Bs) (bv:Value):Prop where
 row:w.heap[cb]?=some (.cells (ckL wd k rv root p e bv).toArray 200 (0,0))
 lk:k.length=32
 lr:root.length=32
 lp:p.length=35
 le:e.length=32
def Bl (w:World)(cb:Nat)(wd:Int)(bv:Value):Prop:=bv=.slice Option.none 0 0∨RdD w bv (empts wd 256)∧∀ b,qQb bv=some b→b≠cb
theorem Bl.fr0 (h:Bl w cb wd bv)(f:No w w'):Bl w' cb wd bv:=h.imp id fun h=>⟨h.1.fr0 f,h.2⟩
theorem Bl.frC (h:Bl w cb wd bv)(f:Fr (fun b=>b=cb) w w'):Bl w' cb wd bv:=h.imp id fun h=>⟨h.1.fr f fun b hb _=>h.2 b hb,h.2⟩
section
variable {w:World} {cb:Nat} {wd:Int} {k:Bs} {rv:Value} {root:Bs} {p:List Value} {e:Bs} {bv:Value}
theorem Ck.fr {F:Nat→Prop}(h:Ck w cb wd k rv root p e bv)(f:Fr F w w')(h1:¬ F cb):Ck w' cb wd k rv root p e bv:=⟨f.at h.row h1,h.lk,h.lr,h.lp,h.le⟩
theorem Ck.fr0 (h:Ck w cb wd k rv root p e bv)(f:No w w'):Ck w' cb wd k rv root p e bv:=h.fr f id
theorem Ck.lt (h:Ck w cb wd k rv root p e bv):cb<w.heap.size:=qQh h.row
theorem Ck.wd0 (h:Ck w cb wd k rv root p e bv):rdO prog 3 w cb 0=some (.int .i64 wd):=rd_one (A:=[]) agg3 h.row rfl
theorem Ck.key (h:Ck w cb wd k rv root p e bv):rdO prog 34 w cb 1=some (dg k) :=
 rd_mid (A:=[.int .i64 wd]) (B:=k.map u8) agg34 sz34 h.row (by simp[h.lk]) (by decide) rfl
theorem Ck.raw (h:Ck w cb wd k rv root p e bv):rdO prog 25 w cb 33=some rv :=
 rd_one (A:=.int .i64 wd::k.map u8) agg25 h.row (by simp[h.lk])
theorem Ck.rdRoot (h:Ck w cb wd k rv root p e bv):rdO prog 23 w cb 34=some (dg root):=by
 have:=h.row;refine rd_mid (A:=.int .i64 wd::(k.map u8++[rv])) (B:=root.map u8) (C:=p++(e.map u8++[bv])) agg23 sz23 (fz:=(0,0)) (e:=200) ?_ (by simp[h.lr]) (by decide) (by simp[h.lk]);rw[h.row];simp[ckL]
theorem Ck.end (h:Ck w cb wd k rv root p e bv):rdO prog 23 w cb 101=some (dg e):=by
 refine rd_mid (A:=.int .i64 wd::(k.map u8++(rv::(root.map u8++p)))) (B:=e.map u8) (C:=[bv]) agg23 sz23 (fz:=(0,0)) (e:=200) ?_ (by simp[h.le]) (by decide) (by simp[h.lk,h.lr,h.lp]);rw[h.row];simp[ckL]
theorem Ck.blank (h:Ck w cb wd k rv root p e bv):rdO prog 94 w cb 133=some bv:=by
 refine rd_one (A:=.int .i64 wd::(k.map u8++(rv::(root.map u8++(p++e.map u8))))) (C:=[]) agg94 (fz:=(0,0)) (e:=200) ?_ (by simp[h.lk,h.lr,h.lp,h.le]);rw[h.row];simp[ckL]
theorem Ck.putB (h:Ck w cb wd k rv root p e bv){bv':Value}(ho:one bv'=true) :
  ∃ w',wrO prog 94 w cb 133 bv'=some w'∧Ck w' cb wd k rv root p e bv'∧Fr (fun b=>b=cb) w w':=by
 have hr:w.heap[cb]?=some (.cells ((.int .i64 wd::(k.map u8++(rv::(root.map u8++(p++e.map u8)))))++bv::[]).toArray 200 (0,0)):=by rw[h.row];simp[ckL]
 have f:Fr (fun b=>b=cb) w (put w cb (.cells ((.int .i64 wd::(k.map u8++(rv::(root.map u8++(p++e.map u8)))))++bv'::[]).toArray 200 (0,0))):=(Fr.refl _ _).put (b:=cb) _ fun _=>rfl;refine⟨_,wr_one sz94 hr ho (by simp[h.lk,h.lr,h.lp,h.le]),⟨?_,h.lk,h.lr,h.lp,h.le⟩,f⟩;rw[qQf hr];simp[ckL]
theorem Ck.putE (h:Ck w cb wd k rv root p e bv){e':Bs}(he:e'.length=32) :
  ∃ w',wrO prog 23 w cb 101 (dg e')=some w'∧Ck w' cb wd k rv root p e' bv∧Fr (fun b=>b=cb) w w':=by
 have hr:w.heap[cb]?=some (.cells ((.int .i64 wd::(k.map u8++(rv::(root.map u8++p))))++(e.map u8++[bv])).toArray 200 (0,0)):=by rw[h.row];simp[ckL]
 have f:Fr (fun b=>b=cb) w (put w cb (.cells ((.int .i64 wd::(k.map u8++(rv::(root.map u8++p))))++(e'.map u8++[bv])).toArray 200 (0,0))):=(Fr.refl _ _).put (b:=cb) _ fun _=>rfl;refine⟨_,wr_mid (B':=e'.map u8) sz23 hr (by simp[h.le]) (by simp[he]) (by rw[List.all_eq_true];intro x hx;obtain⟨y,_,rfl⟩:=List.mem_map.1 hx;rfl) (by simp[h.lk,h.lr,h.lp]),⟨?_,h.lk,h.lr,h.lp,he⟩,f⟩;rw[qQf hr];simp[ckL]
theorem Ck.putP (h:Ck w cb wd k rv root p e bv){p':List Value}(hp:p'.length=35)(ho:p'.all one=true) :
  ∃ w',wrO prog 122 w cb 66 (.agg p'.toArray)=some w'∧Ck w' cb wd k rv root p' e bv∧Fr (fun b=>b=cb) w w':=by
 have hr:w.heap[cb]?=some (.cells ((.int .i64 wd::(k.map u8++(rv::root.map u8)))++(p++(e.map u8++[bv]))).toArray 200 (0,0)):=by rw[h.row];simp[ckL]
 have f:Fr (fun b=>b=cb) w (put w cb (.cells ((.int .i64 wd::(k.map u8++(rv::root.map u8)))++(p'++(e.map u8++[bv]))).toArray 200 (0,0))):=(Fr.refl _ _).put (b:=cb) _ fun _=>rfl;refine⟨_,wr_mid sz122 hr h.lp hp ho (by simp[h.lk,h.lr]),⟨?_,h.lk,h.lr,hp,h.le⟩,f⟩;rw[qQf hr];simp[ckL]
variable {found:Bool} {vv:Value} {bits:Bs} {sv:Value}
theorem Ck.rdFound (h:Ck w cb wd k rv root (prL found vv bits sv) e bv):rdO prog 4 w cb 66=some (.bool found):=by
 refine rd_one (A:=.int .i64 wd::(k.map u8++(rv::root.map u8))) (C:=vv::(bits.map u8++[sv])++(e.map u8++[bv])) agg4 (fz:=(0,0)) (e:=200) ?_ (by simp[h.lk,h.lr]);rw[h.row];simp[ckL,prL]
theorem Ck.val (h:Ck w cb wd k rv root (prL found vv bits sv) e bv):rdO prog 25 w cb 67=some vv:=by
 refine rd_one (A:=.int .i64 wd::(k.map u8++(rv::(root.map u8++[.bool found])))) (C:=(bits.map u8++[sv])++(e.map u8++[bv])) agg25 (fz:=(0,0)) (e:=200) ?_ (by simp[h.lk,h.lr]);rw[h.row];simp[ckL,prL]
theorem Ck.bit (h:Ck w cb wd k rv root (prL found vv bits sv) e bv)(hb:bits.length=32){i:Nat}(hi:i<32):rdO prog 5 w cb (68+i)=some (u8 (bits.getD i 0)):=by
 refine rd1 agg5 h.row ?_;have hl:(.int .i64 wd::(k.map u8++(rv::(root.map u8++[.bool found,vv]))):List Value).length=68:=by simp[h.lk,h.lr]
 have e1:ckL wd k rv root (prL found vv bits sv) e bv=(.int .i64 wd::(k.map u8++(rv::(root.map u8++[.bool found,vv]))))++(bits.map u8++(sv::(e.map u8++[bv]))):=by simp[ckL,prL]
 rw[zX,e1,jN (by omega),hl,Nat.add_sub_cancel_left,zL (by simp[hb];exact hi),List.getElem?_map,List.getElem?_eq_getElem (by omega),Option.map_some,qQi _ (by omega)]
theorem Ck.sums (h:Ck w cb wd k rv root (prL found vv bits sv) e bv)(hb:bits.length=32):rdO prog 94 w cb 100=some sv:=by
 refine rd_one (A:=.int .i64 wd::(k.map u8++(rv::(root.map u8++(.bool found::vv::bits.map u8))))) (C:=e.map u8++[bv]) agg94 (fz:=(0,0)) (e:=200) ?_ (by simp[h.lk,h.lr,hb]);rw[h.row];simp[ckL,prL]
end
end
def chC (k:Bs)(d:Bool)(v:Value):Array Value:=(k.map u8++[.bool d,v]).toArray
def ChV (w:World)(x:Value)(c:Bat.Ch):Prop:=∃ v,x=.agg (chC c.key c.del v)∧one v=true∧By w v c.val∧(c.del=true→v=.slice Option.none 0 0)
def TkQ (rv:Value)(w0:World)(y:Except Int (Bat.Ch × Bs))(r:Value)(w':World):Prop:=No w0 w'∧∃ k d v u e,r=.tuple #[.agg (chC k d v),u,.int .i64 e]∧k.length=32∧one v=true∧match y with
 | .error e'=>e=e'∧one u=true
 | .ok p=>e=0∧ChV w' (.agg (chC k d v)) p.1∧By w' u p.2∧(∀ b,qQb u=some b→qQb rv=some b)∧∀ b,qQb v=some b→w0.heap.size≤b∧b<w'.heap.size
namespace Wit
def chOf (c:Bat.Ch):Ch:=(c.key,c.del,c.val)
def stepP (wd:Int)(root raw changes:Bs):Except Int Bs :=
 if wd<1∨32<wd then .error 1
 else match Bat.parseP changes with
  | .error e=>.error e
  | .ok cs=>match underP wd root (srt (cs.map Bat.Ch.key)) raw with
   | .error e=>.error e
   | .ok none=>.ok root
   | .ok (some t)=>.ok (dig wd (saysC (cs.map chOf)) t)
end Wit
section
namespace Wit
open Tw
def bes:Tw→Bs→Nat→Option Tw
 | .leaf k' _ near a,k,h=>if common k' k=255 - h then some (.leaf k' h (near.take h) a) else none
 | .fork ks f _ near l r,k,h =>
  if f≤h then (if common (ks.headD []) k=255 - h then some (.fork ks f h (near.take (h - f)) l r) else none)
  else if (if h=f - 1 then !kbit k (256 - f) else kbit k (256 - f))=true then bes r k h else bes l k h
def rn1 (w:Int)(says:Says)(tt:Option Tw)(key:Bs)(h:Nat)(d:Bs):Bs:=match tt.bind (fun t=>bes t key h) with | some p=>dig w says p | none=>d
end Wit
end
end Go.V
