/- Helpers. -/
import Derived.Deep.Slices
import Derived.DataReads
import Derived.SizedLaws
import Derived.OpenShut
import Derived.WideShapes
import Derived.Stop.LaidErr
import Derived.Lib.LaidTab
import Derived.ChangeSame
import Derived.Test.YtppmpdjlmgfdkaaGreatDoorB19
set_option linter.all false
set_option maxRecDepth 100000
set_option maxHeartbeats 8000000
namespace Go.V
open Go.Proofs.Tryz
section
open Go.Proofs Go.ChangeShapes Go.WideShapes Go.Deep
theorem Tryz.cells5:prog.cellsOf 5=1:=x8
theorem qVh {w:World}{a:Addr}{v:Value}(h:w.cell? a=some v):a.spot=none/\rc w a.block a.off=some v:=by
 unfold World.cell? at h;split at h
 ·rename_i c e fr A
  split at h
  ·cases h
  ·rename_i B
   exact⟨by simpa using B,by rw[qXe A];exact h⟩
 ·cases h
theorem wf8 {n:Int}(h:(Lit.int .u8 n).wf=true):∃ x:Byte,Value.int .u8 n=u8 x:=by
 simp[Lit.wf,IntKind.min,IntKind.max,IntKind.signed,IntKind.bits]at h;refine⟨BitVec.ofNat 8 n.toNat,?_⟩;show Value.int .u8 n=Value.int .u8 ((BitVec.ofNat 8 n.toNat).toNat:Int);rw[BitVec.toNat_ofNat,Nat.mod_eq_of_lt om]
 congr 1;omega
theorem list_of {A:List Value}{n:Nat}(E:A.length=n)(h:∀ i,i<n->∃ x:Byte,A[i]?=some (u8 x)):∃ k:Bs,k.length=n/\A=k.map u8:=by
 obtain⟨f,B⟩:=choose_lt (α:=Byte) (p:=fun i x=>A[i]?=some (u8 x)) h;refine⟨(List.range n).map f,sm,List.ext_getElem? fun i=>?_⟩
 by_cases hi:i<n
 ·rw[B i hi];simp[hi]
 ·rw[List.getElem?_eq_none om,List.getElem?_eq_none (by simp;omega)]
section
variable {H:Type} {enc:TypeId × Value->H} {W:World}
end
theorem post_of_old {H:Type}{enc:TypeId × Value->H}{P:Program}{f:Func}{s:ChangeSpec}{B fresh E R:Bool}{W T:World}{args:Array Value}{v:Value}{ds V:List (DataW H)}{A pa pv:List MemPlace}
  (Z:DataW.Whole enc P f.params.toList s.vars B W args.toList ds V A)
  (N:∀ (b:Nat) (U:Nat->Bool) (hd:Bool),DataW.TrodAll enc P T b U hd f.resultTypes.toList (v.resultList f.resultTypes.size) (s.fn H (ds++V)).results [])
  (I:∀ U:Nat->Bool,(∀ p ∈ A,U p.block=true)->DataW.TrodAll enc P T 0 U true f.params.toList args.toList (s.fn H (ds++V)).args pa)
  (J:∀ U:Nat->Bool,(∀ p ∈ A,U p.block=true)->DataW.TrodVars enc P T U s.vars (s.fn H (ds++V)).vars pv)
  (M:A=pa++pv) (hk:W.keptBut T (· ∈ A)) (a0:∀ a:Addr,a.block<W.heap.size->T.frozen? a=W.frozen? a)
  (a3:∀ (j:Nat) (t:TypeId) (r:Value),f.resultTypes[j]?=some t->(v.resultList f.resultTypes.size)[j]?=some r->Value.okWide P T .any 0 t r) :
  s.post enc P f B fresh E R W args v T:=by
 have O:∀ p ∈ A,(fun b=>decide (b<W.heap.size)) p.block=true:=fun p L=>by simpa using Z.lt p L
 have a4:∀ p ∈ A,p.block<W.heap.size:=fun p L=>Z.lt p L;refine⟨ds,V,A,[],pa,pv,Z,N _ _ _,I _ O,J _ O,World.keptBut_mono (fun p L=>⟨L,?_⟩) hk,fun _=>?_⟩
 ·rw[M,List.mem_append]at L
  exact Or.inr L
 ·obtain⟨_,_,_,_,_,hz,hn⟩:=Z
  refine⟨a3,_,_,([]++pa)++pv,⟨[]++pa,pv,trodAll_append (I _ (fun _ _=>rfl)) (N _ _ _),J _ (fun _ _=>rfl),rfl,?_,?_⟩,?_⟩
  ·intro b off L
   have Y:MemPlace.cell b off ∈ A:=by rw[M];simpa using L
   rw[a0 _ (a4 _ Y)];exact hz b off Y
  ·intro ha
   have:=hn ha;rw[M]at this;simpa using this
  ·intro p L _
   rw[M];simpa using L
theorem tab_cells {W:World}{A:String}{B:List Int}{g:Nat}(h:Lib.TabIs prog W A .u32 B)(E:prog.globalNamed A=some g){l:List W32}{n:Nat}(I:∀ i,i<n->i<B.length/\B.getD i 0=((l.getD i 0).toNat:Int)):∀ i,i<n->rc W g i=some (u32 (l.getD i 0)):=fun i hi=>by
 obtain⟨J,L⟩:=I i hi;have:=(qVh (h.cell E i J)).2;simp only at this;rw[this,L]
end
end Go.V
