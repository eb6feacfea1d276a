/- Helpers. -/
import Derived.Deep.Slices
import Derived.DataReads
import Derived.SizedLaws
import Derived.OpenShut
import Derived.WideShapes
import Derived.Stop.LaidErr
import Derived.Lib.LaidTab
import Derived.ChangeSame
import Derived.Test.YtppmpdjlmgfdkaaGreatDoorM20
set_option linter.all false
set_option maxRecDepth 100000
set_option maxHeartbeats 8000000
namespace Go.V
open Go.Proofs.Tryz
section
open Go.Proofs Go.ChangeShapes Go.WideShapes Go.Deep
theorem Tryz.cells5:prog.cellsOf 5=1:=x9
theorem Tryz.bytes5:prog.bytesOf 5=1:=x9
theorem cell_row {w:World}{a:Addr}{v:Value}(h:w.cell? a=some v):a.spot=none/\rc w a.block a.off=some v:=by
 unfold World.cell? at h;split at h
 ·rename_i c e fr A
  split at h
  ·cases h
  ·rename_i B
   exact⟨by simpa using B,by rw[qXl A];exact h⟩
 ·cases h
theorem wf8 {n:Int}(h:(Lit.int .u8 n).wf=true):∃ x:Byte,Value.int .u8 n=u8 x:=by
 simp[Lit.wf,IntKind.min,IntKind.max,IntKind.signed,IntKind.bits]at h;refine⟨BitVec.ofNat 8 n.toNat,?_⟩;show Value.int .u8 n=Value.int .u8 ((BitVec.ofNat 8 n.toNat).toNat:Int);rw[BitVec.toNat_ofNat,Nat.mod_eq_of_lt x8]
 congr 1;omega
section
variable {H:Type} {enc:TypeId × Value->H} {W:World}
theorem open_bytes {v:Value}{d:DataW H}{p:List MemPlace}(ht:DataW.Trod enc prog W 0 (fun _=>true) true 22 v d p)(hv:∃ a len cap, v=.slice a len cap)(hw:∀ x ∈ d.weights prog 22, x<=reachBytes) :
  ∃ raw:Bs,By W v raw/\raw.length<=2 ^ 47:=by
 obtain⟨B,hf⟩:=ht;obtain⟨a,len,cap,rfl⟩:=hv;have N:DataW.trod enc prog W 0 (fun _=>true) true B 22 [.slice a len cap]=some (d,p):=hf
 rcases open_slice1 (qZk Tryz.slc22) Tryz.cells5 N with ⟨E,O⟩ | ⟨R,A,Z,m,k,V,D,Pl,E,_,hl,hm,I,O,J⟩
 ·simp only[List.cons.injEq,and_true]at E
  rw[E];exact⟨[],(NwB.nil W W).by,sm⟩
 ·simp only[List.cons.injEq,and_true]at E
  rw[E];simp only[if_true]at I;subst I;simp only[Prod.mk.injEq]at O;obtain⟨hd,_⟩:=O
  have T:(A+(m - A))*1<=reachBytes:=by
   apply hw;rw[hd];unfold DataW.weights;rw[qZk Tryz.slc22];simp[Tryz.bytes5]
  have hr:reachBytes=140737488351232:=rfl;rw[hr]at T
  obtain⟨f,L⟩:=choose_lt (α:=Byte) (n:=A) (p:=fun i x=>W.cell? (R.add i)=some (u8 x)) fun i hi=>by
   obtain⟨h1,h2⟩:=J i x8;obtain⟨n,hn,_,U⟩:=DataW.trod_int (qKm Tryz.int5) h2;simp only[List.cons.injEq,and_true]at hn;obtain⟨y,hy⟩:=wf8 U;exact⟨y,by rw[h1,hn,hy]⟩
  refine⟨(List.range A).map f,?_,by simp;omega⟩;have M:((List.range A).map f).length=A:=sm
  unfold By;rw[M];refine⟨sm,some R,m,rfl,hl,fun h0=>?_⟩;obtain⟨b,o,sp⟩:=R
  have Y:sp=none:=by
   have:=(cell_row (L 0 x8)).1;simpa [Addr.add] using this
  subst Y;refine⟨b,o,rfl,fun i hi=>?_⟩;have:=(cell_row (L i x8)).2;rw[qVc]at this;rw[this];simp[show i<A by omega]
end
theorem post_of_old {H:Type}{enc:TypeId × Value->H}{P:Program}{f:Func}{s:ChangeSpec}{B fresh D O:Bool}{W R:World}{args:Array Value}{v:Value}{ds U:List (DataW H)}{A pa pv:List MemPlace}
  (Y:DataW.Whole enc P f.params.toList s.vars B W args.toList ds U A)
  (M:∀ (b:Nat) (T:Nat->Bool) (hd:Bool),DataW.TrodAll enc P R b T hd f.resultTypes.toList (v.resultList f.resultTypes.size) (s.fn H (ds++U)).results [])
  (E:∀ T:Nat->Bool,(∀ p ∈ A,T p.block=true)->DataW.TrodAll enc P R 0 T true f.params.toList args.toList (s.fn H (ds++U)).args pa)
  (I:∀ T:Nat->Bool,(∀ p ∈ A,T p.block=true)->DataW.TrodVars enc P R T s.vars (s.fn H (ds++U)).vars pv)
  (L:A=pa++pv) (hk:W.keptBut R (· ∈ A)) (Z:∀ a:Addr,a.block<W.heap.size->R.frozen? a=W.frozen? a)
  (a0:∀ (j:Nat) (t:TypeId) (r:Value),f.resultTypes[j]?=some t->(v.resultList f.resultTypes.size)[j]?=some r->Value.okWide P R .any 0 t r) :
  s.post enc P f B fresh D O W args v R:=by
 have N:∀ p ∈ A,(fun b=>decide (b<W.heap.size)) p.block=true:=fun p J=>by simpa using Y.lt p J
 have a3:∀ p ∈ A,p.block<W.heap.size:=fun p J=>Y.lt p J;refine⟨ds,U,A,[],pa,pv,Y,M _ _ _,E _ N,I _ N,World.keptBut_mono (fun p J=>⟨J,?_⟩) hk,fun _=>?_⟩
 ·rw[L,List.mem_append]at J
  exact Or.inr J
 ·obtain⟨_,_,_,_,_,hz,hn⟩:=Y
  refine⟨a0,_,_,([]++pa)++pv,⟨[]++pa,pv,trodAll_append (E _ (fun _ _=>rfl)) (M _ _ _),I _ (fun _ _=>rfl),rfl,?_,?_⟩,?_⟩
  ·intro b off J
   have V:MemPlace.cell b off ∈ A:=by rw[L];simpa using J
   rw[Z _ (a3 _ V)];exact hz b off V
  ·intro ha
   have:=hn ha;rw[L]at this;simpa using this
  ·intro p J _
   rw[L];simpa using J
theorem tab_cells {W:World}{A:String}{B:List Int}{g:Nat}(h:Lib.TabIs prog W A .u32 B)(D:prog.globalNamed A=some g){l:List W32}{n:Nat}(E:∀ i,i<n->i<B.length/\B.getD i 0=((l.getD i 0).toNat:Int)):∀ i,i<n->rc W g i=some (u32 (l.getD i 0)):=fun i hi=>by
 obtain⟨I,J⟩:=E i hi;have:=(cell_row (h.cell D i I)).2;simp only at this;rw[this,J]
end
end Go.V
