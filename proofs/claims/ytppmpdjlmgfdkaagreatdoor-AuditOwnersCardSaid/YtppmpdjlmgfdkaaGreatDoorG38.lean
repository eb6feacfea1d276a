/- Helpers. -/
import Derived.Deep.Slices
import Derived.DataReads
import Derived.SizedLaws
import Derived.OpenShut
import Derived.WideShapes
import Derived.Stop.LaidErr
import Derived.Lib.LaidTab
import Derived.ChangeSame
import Derived.Test.YtppmpdjlmgfdkaaGreatDoorG31
set_option linter.all false
set_option maxRecDepth 100000
set_option maxHeartbeats 8000000
namespace Go.V
open Go.Proofs.Tryz
section
open Go.Proofs Go.ChangeShapes Go.WideShapes Go.Deep
theorem Tryz.cells5:prog.cellsOf 5=1:=by kernel_rfl
theorem Tryz.bytes5:prog.bytesOf 5=1:=by kernel_rfl
theorem cell_row {w:World}{a:Addr}{v:Value}(h:w.cell? a=some v):a.spot=none∧rc w a.block a.off=some v:=by
 unfold World.cell? at h;split at h
 ·rename_i c e fr hb
  split at h
  ·cases h
  ·rename_i hs
   exact⟨by simpa using hs,by rw[qXe hb];exact h⟩
 ·cases h
theorem wf8 {n:Int}(h:(Lit.int .u8 n).wf=true):∃ x:Byte,Value.int .u8 n=u8 x:=by
 simp[Lit.wf,IntKind.min,IntKind.max,IntKind.signed,IntKind.bits]at h;refine⟨BitVec.ofNat 8 n.toNat,?_⟩;show Value.int .u8 n=Value.int .u8 ((BitVec.ofNat 8 n.toNat).toNat:Int);rw[BitVec.toNat_ofNat,Nat.mod_eq_of_lt (by omega)]
 congr 1;omega
section
variable {H:Type} {enc:TypeId × Value→H} {W:World}
theorem open_bytes {v:Value}{d:DataW H}{p:List MemPlace}(ht:DataW.Trod enc prog W 0 (fun _=>true) true 22 v d p)(hv:∃ a len cap, v=.slice a len cap)(hw:∀ x ∈ d.weights prog 22, x≤reachBytes) :
  ∃ raw:Bs,By W v raw∧raw.length≤2 ^ 47:=by
 obtain⟨fuel,hf⟩:=ht;obtain⟨a,len,cap,rfl⟩:=hv;have hf':DataW.trod enc prog W 0 (fun _=>true) true fuel 22 [.slice a len cap]=some (d,p):=hf
 rcases open_slice1 (qXu Tryz.slc22) Tryz.cells5 hf' with ⟨hc,hx⟩ | ⟨a',len',cap',m,k,V,D,Pl,hc,_,hl,hm,hmm,hx,hall⟩
 ·simp only[List.cons.injEq,and_true]at hc
  rw[hc];exact⟨[],(NwB.nil W W).by,by simp⟩
 ·simp only[List.cons.injEq,and_true]at hc
  rw[hc];simp only[if_true]at hmm;subst hmm;simp only[Prod.mk.injEq]at hx;obtain⟨hd,_⟩:=hx
  have hwt:(len'+(m - len'))*1≤reachBytes:=by
   apply hw;rw[hd];unfold DataW.weights;rw[qXu Tryz.slc22];simp[Tryz.bytes5]
  have hr:reachBytes=140737488351232:=rfl;rw[hr]at hwt
  obtain⟨f,hfx⟩:=choose_lt (α:=Byte) (n:=len') (p:=fun i x=>W.cell? (a'.add i)=some (u8 x)) fun i hi=>by
   obtain⟨h1,h2⟩:=hall i (by omega);obtain⟨n,hn,_,hwf⟩:=DataW.trod_int (qJn Tryz.int5) h2;simp only[List.cons.injEq,and_true]at hn;obtain⟨y,hy⟩:=wf8 hwf;exact⟨y,by rw[h1,hn,hy]⟩
  refine⟨(List.range len').map f,?_,by simp;omega⟩;have hlen:((List.range len').map f).length=len':=by simp
  unfold By;rw[hlen];refine⟨by simp,some a',m,rfl,hl,fun h0=>?_⟩;obtain⟨b,o,sp⟩:=a'
  have hsp:sp=none:=by
   have:=(cell_row (hfx 0 (by omega))).1;simpa [Addr.add] using this
  subst hsp;refine⟨b,o,rfl,fun i hi=>?_⟩;have:=(cell_row (hfx i (by omega))).2;rw[qKj]at this;rw[this];simp[show i<len' by omega]
end
theorem post_of_old {H:Type}{enc:TypeId × Value→H}{P:Program}{f:Func}{s:ChangeSpec}{apart fresh handsOn again:Bool}{W W':World}{args:Array Value}{v:Value}{ds gs:List (DataW H)}{before pa pv:List MemPlace}
  (hW:DataW.Whole enc P f.params.toList s.vars apart W args.toList ds gs before)
  (hres:∀ (b:Nat) (sp:Nat→Bool) (hd:Bool),DataW.TrodAll enc P W' b sp hd f.resultTypes.toList (v.resultList f.resultTypes.size) (s.fn H (ds++gs)).results [])
  (hargs:∀ sp:Nat→Bool,(∀ p ∈ before,sp p.block=true)→DataW.TrodAll enc P W' 0 sp true f.params.toList args.toList (s.fn H (ds++gs)).args pa)
  (hvars:∀ sp:Nat→Bool,(∀ p ∈ before,sp p.block=true)→DataW.TrodVars enc P W' sp s.vars (s.fn H (ds++gs)).vars pv)
  (hps:before=pa++pv) (hk:W.keptBut W' (· ∈ before)) (hfz:∀ a:Addr,a.block<W.heap.size→W'.frozen? a=W.frozen? a)
  (hok:∀ (j:Nat) (t:TypeId) (r:Value),f.resultTypes[j]?=some t→(v.resultList f.resultTypes.size)[j]?=some r→Value.okWide P W' .any 0 t r) :
  s.post enc P f apart fresh handsOn again W args v W':=by
 have hold:∀ p ∈ before,(fun b=>decide (b<W.heap.size)) p.block=true:=fun p hp=>by simpa using hW.lt p hp
 have hlt:∀ p ∈ before,p.block<W.heap.size:=fun p hp=>hW.lt p hp;refine⟨ds,gs,before,[],pa,pv,hW,hres _ _ _,hargs _ hold,hvars _ hold,World.keptBut_mono (fun p hp=>⟨hp,?_⟩) hk,fun _=>?_⟩
 ·rw[hps,List.mem_append]at hp
  exact Or.inr hp
 ·obtain⟨_,_,_,_,_,hz,hn⟩:=hW
  refine⟨hok,_,_,([]++pa)++pv,⟨[]++pa,pv,trodAll_append (hargs _ (fun _ _=>rfl)) (hres _ _ _),hvars _ (fun _ _=>rfl),rfl,?_,?_⟩,?_⟩
  ·intro b off hp
   have hp':MemPlace.cell b off ∈ before:=by rw[hps];simpa using hp
   rw[hfz _ (hlt _ hp')];exact hz b off hp'
  ·intro ha
   have:=hn ha;rw[hps]at this;simpa using this
  ·intro p hp _
   rw[hps];simpa using hp
theorem tab_cells {W:World}{name:String}{zs:List Int}{g:Nat}(h:Lib.TabIs prog W name .u32 zs)(hg:prog.globalNamed name=some g){l:List W32}{n:Nat}(hz:∀ i,i<n→i<zs.length∧zs.getD i 0=((l.getD i 0).toNat:Int)):∀ i,i<n→rc W g i=some (u32 (l.getD i 0)):=fun i hi=>by
 obtain⟨h1,h2⟩:=hz i hi;have:=(cell_row (h.cell hg i h1)).2;simp only at this;rw[this,h2]
end
end Go.V
