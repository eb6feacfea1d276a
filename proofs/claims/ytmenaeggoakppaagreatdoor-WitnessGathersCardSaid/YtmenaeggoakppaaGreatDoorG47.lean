/- Helpers. -/
import Derived.Deep.Slices
import Derived.DataReads
import Derived.SizedLaws
import Derived.OpenShut
import Derived.WideShapes
import Derived.Stop.LaidErr
import Derived.Lib.LaidTab
import Derived.ChangeSame
import Derived.Test.YtmenaeggoakppaaGreatDoorG42
import Derived.Test.YtmenaeggoakppaaGreatDoorG41
set_option linter.all false
set_option maxRecDepth 100000
set_option maxHeartbeats 8000000
open List renaming range→zQ,getElem?_eq_getElem→xO,getElem?_eq_none→jV
namespace Go.V
open Go.Proofs.Tryz
variable {cs:List Value} {n:Nat} {sp:Nat→Bool} {t:TypeId} {v:Value}
section
open Go.Proofs Go.ChangeShapes Go.WideShapes Go.Deep
theorem Tryz.cells5:prog.cellsOf 5=1:=by kernel_rfl
theorem Tryz.cellsK:prog.cellsOf 34=32:=by kernel_rfl
theorem Tryz.bytes5:prog.bytesOf 5=1:=by kernel_rfl
theorem Tryz.bytesK:prog.bytesOf 34=32:=by kernel_rfl
theorem qKq {w:World}{a:Addr}(h:w.cell? a=some v):a.spot=none∧rc w a.block a.off=some v:=by
 unfold World.cell? at h;split at h
 ·rename_i c e fr hb
  split at h
  ·cases h
  ·rename_i hs
   exact⟨by simpa using hs,by rw[qXd hb];exact h⟩
 ·cases h
theorem wf8 {n:Int}(h:(Lit.int .u8 n).wf=true):∃ x:Byte,Value.int .u8 n=u8 x:=by
 simp[Lit.wf,IntKind.min,IntKind.max,IntKind.signed,IntKind.bits]at h;refine⟨BitVec.ofNat 8 n.toNat,?_⟩;show Value.int .u8 n=Value.int .u8 ((BitVec.ofNat 8 n.toNat).toNat:Int);rw[BitVec.toNat_ofNat,Nat.mod_eq_of_lt (by omega)]
 congr 1;omega
theorem list_of (hl:cs.length=n)(h:∀ i,i<n→∃ x:Byte,cs[i]?=some (u8 x)):∃ k:Bs,k.length=n∧cs=k.map u8:=by
 obtain⟨f,hf⟩:=choose_lt (α:=Byte) (p:=fun i x=>cs[i]?=some (u8 x)) h;refine⟨(zQ n).map f,by simp,List.ext_getElem? fun i=>?_⟩
 by_cases hi:i<n
 ·rw[hf i hi];simp[hi]
 ·rw[jV (by omega),jV (by simp;omega)]
section
variable {H:Type} {enc:TypeId × Value→H} {W:World}
theorem open_u8s (ht:prog.underlying t=some (.array 32 5))(hc:prog.cellsOf t=32){base:Nat}{held:Bool}{fuel:Nat}{x:DataW H × List MemPlace}(h:DataW.trod enc prog W base sp held fuel t cs=some x) :
  ∃ k:Bs,k.length=32∧cs=k.map u8:=by
 obtain⟨xs,m,_,_,hl,hlen,hf⟩:=DataW.trod_array ht h;rw[hc]at hl;refine list_of hl fun i hi=>?_;have hfi:=hf i hi;rw[Tryz.cells5,Nat.mul_one,xO (by omega)]at hfi;obtain⟨n,hn,_,hw⟩:=DataW.trod_int (qJe Tryz.int5) hfi;obtain⟨y,hy⟩:=wf8 hw;refine⟨y,?_⟩;rw[← hy];have:=congrArg (·[0]?) hn;simpa [List.getElem?_take,List.getElem?_drop] using this
theorem open_dig (ht:prog.underlying t=some (.array 32 5))(hc:prog.cellsOf t=32){base:Nat}{held:Bool}{d:DataW H}{p:List MemPlace}(h:DataW.Trod enc prog W base sp held t v d p)(hv:∃ cs, v=.agg cs) :
  ∃ k:Bs,k.length=32∧v=dg k:=by
 obtain⟨fuel,hf⟩:=h;obtain⟨cs,rfl⟩:=hv;obtain⟨k,hk,e⟩:=open_u8s ht hc hf;refine⟨k,hk,?_⟩;have:cs=(k.map u8).toArray:=by apply Array.toList_inj.1;simpa [Value.cells] using e
 rw[this]
theorem open_bytes {d:DataW H}{p:List MemPlace}(ht:DataW.Trod enc prog W 0 (fun _=>true) true 25 v d p)(hv:∃ a len cap, v=.slice a len cap)(hw:∀ x ∈ d.weights prog 25, x≤reachBytes) :
  ∃ raw:Bs,By W v raw∧raw.length≤2 ^ 47:=by
 obtain⟨fuel,hf⟩:=ht;obtain⟨a,len,cap,rfl⟩:=hv;have hf':DataW.trod enc prog W 0 (fun _=>true) true fuel 25 [.slice a len cap]=some (d,p):=hf
 rcases open_slice1 (qXf Tryz.slc25) Tryz.cells5 hf' with ⟨hc,hx⟩ | ⟨a',len',cap',m,k,V,D,Pl,hc,_,hl,hm,hmm,hx,hall⟩
 ·simp only[List.cons.injEq,and_true]at hc
  rw[hc];exact⟨[],(NwB.nil W W).by,by simp⟩
 ·simp only[List.cons.injEq,and_true]at hc
  rw[hc];simp only[if_true]at hmm;subst hmm;simp only[Prod.mk.injEq]at hx;obtain⟨hd,_⟩:=hx
  have hwt:(len'+(m - len'))*1≤reachBytes:=by
   apply hw;rw[hd];unfold DataW.weights;rw[qXf Tryz.slc25];simp[Tryz.bytes5]
  have hr:reachBytes=140737488351232:=rfl;rw[hr]at hwt
  obtain⟨f,hfx⟩:=choose_lt (α:=Byte) (n:=len') (p:=fun i x=>W.cell? (a'.add i)=some (u8 x)) fun i hi=>by
   obtain⟨h1,h2⟩:=hall i (by omega);obtain⟨n,hn,_,hwf⟩:=DataW.trod_int (qJe Tryz.int5) h2;simp only[List.cons.injEq,and_true]at hn;obtain⟨y,hy⟩:=wf8 hwf;exact⟨y,by rw[h1,hn,hy]⟩
  refine⟨(zQ len').map f,?_,by simp;omega⟩;have hlen:((zQ len').map f).length=len':=by simp
  unfold By;rw[hlen];refine⟨by simp,some a',m,rfl,hl,fun h0=>?_⟩;obtain⟨b,o,sp⟩:=a'
  have hsp:sp=none:=by
   have:=(qKq (hfx 0 (by omega))).1;simpa [Addr.add] using this
  subst hsp;refine⟨b,o,rfl,fun i hi=>?_⟩;have:=(qKq (hfx i (by omega))).2;rw[qZh]at this;rw[this];simp[show i<len' by omega]
theorem open_keys {d:DataW H}{p:List MemPlace}(ht:DataW.Trod enc prog W 0 (fun _=>true) true 24 v d p)(hv:∃ a len cap, v=.slice a len cap)(hw:∀ x ∈ d.weights prog 24, x≤reachBytes) :
  ∃ ks:List Bs,RdD W v ks∧ks.length≤2 ^ 42:=by
 obtain⟨fuel,hf⟩:=ht;obtain⟨a,len,cap,rfl⟩:=hv;have hf':DataW.trod enc prog W 0 (fun _=>true) true fuel 24 [.slice a len cap]=some (d,p):=hf
 rcases open_slice (qXf Tryz.slc24) hf' with ⟨hc,hx⟩ | ⟨a',len',cap',m,k,D,Pl,hc,_,hl,hm,hmm,hx,hall⟩
 ·simp only[List.cons.injEq,and_true]at hc
  rw[hc];exact⟨[],(NwD.nil W W 34).rd,by simp⟩
 ·simp only[List.cons.injEq,and_true]at hc
  rw[hc];simp only[if_true]at hmm;subst hmm;simp only[Prod.mk.injEq]at hx;obtain⟨hd,_⟩:=hx
  have hwt:(len'+(m - len'))*32≤reachBytes:=by
   apply hw;rw[hd];unfold DataW.weights;rw[qXf Tryz.slc24];simp[Tryz.bytesK]
  have hr:reachBytes=140737488351232:=rfl;rw[hr]at hwt
  obtain⟨f,hfx⟩:=choose_lt (α:=Bs) (n:=len') (p:=fun i x=>x.length=32∧∀ j,j<32→W.cell? ((a'.add (i*32)).add j)=(x.map u8)[j]?) fun i hi=>by
   obtain⟨cs',h1,h2⟩:=hall i (by omega);rw[Tryz.cellsK]at h1;obtain⟨x,hx,rfl⟩:=open_u8s (qJg Tryz.arr34) Tryz.cellsK h2;obtain⟨_,_,hcell⟩:=World.cells?_some h1;exact⟨x,hx,hcell⟩
  have h32:All32 ((zQ len').map f):=fun x hx=>by
   obtain⟨i,hi,rfl⟩:=List.mem_map.1 hx;exact (hfx i (by simpa using hi)).1
  have hlen:((zQ len').map f).length=len':=by simp
  refine⟨(zQ len').map f,⟨h32,?_⟩,by simp;omega⟩;rw[hlen];refine⟨by rw[qJf h32,hlen],some a',m,rfl,hl,fun h0=>?_⟩;obtain⟨b,o,sp⟩:=a'
  have hcell:∀ i,i<len'→∀ j,j<32→∃ y,(((f i).map u8)[j]?=some y)∧W.cell? (((⟨b,o,sp⟩:Addr).add (i*32)).add j)=some y:=fun i hi j hj=>by
   obtain⟨h1,h2⟩:=hfx i hi;have hjl:j<((f i).map u8).length:=by rw[List.length_map,h1];exact hj
   exact⟨_,xO hjl,(h2 j hj).trans (xO hjl)⟩
  have hsp:sp=none:=by
   obtain⟨y,_,h⟩:=hcell 0 (by omega) 0 (by decide);have:=(qKq h).1;simpa [Addr.add] using this
  subst hsp;refine⟨b,o,rfl,fun i hi=>?_⟩;have hi32:i / 32<len':=by omega
  obtain⟨y,hy,h⟩:=hcell (i / 32) hi32 (i % 32) (Nat.mod_lt _ (by decide));have:=(qKq h).2;rw[qZh,qZh]at this;have e:o+i / 32*32+i % 32=o+i:=by omega
  have this:rc W b (o+i / 32*32+i % 32)=some y:=this;rw[e]at this;rw[this,← hy];have hfa:=flat_at h32 (i:=i / 32) (by rw[hlen];exact hi32) (j:=i % 32) (Nat.mod_lt _ (by decide));rw[show i / 32*32+i % 32=i by omega]at hfa;rw[hfa]
  simp
end
theorem post_of_old {H:Type}{enc:TypeId × Value→H}{P:Program}{f:Func}{s:ChangeSpec}{apart fresh handsOn again:Bool}{W W':World}{args:Array Value}{ds gs:List (DataW H)}{before pa pv:List MemPlace}
  (hW:DataW.Whole enc P f.params.toList s.vars apart W args.toList ds gs before)
  (hres:∀ (b:Nat) (sp:Nat→Bool) (hd:Bool),DataW.TrodAll enc P W' b sp hd f.resultTypes.toList (v.resultList f.resultTypes.size) (s.fn H (ds++gs)).results [])
  (hargs:∀ sp:Nat→Bool,(∀ p ∈ before,sp p.block=true)→DataW.TrodAll enc P W' 0 sp true f.params.toList args.toList (s.fn H (ds++gs)).args pa)
  (hvars:∀ sp:Nat→Bool,(∀ p ∈ before,sp p.block=true)→DataW.TrodVars enc P W' sp s.vars (s.fn H (ds++gs)).vars pv)
  (hps:before=pa++pv) (hk:W.keptBut W' (· ∈ before)) (hfz:∀ a:Addr,a.block<W.heap.size→W'.frozen? a=W.frozen? a)
  (hok:∀ (j:Nat) (t:TypeId) (r:Value),f.resultTypes[j]?=some t→(v.resultList f.resultTypes.size)[j]?=some r→Value.okWide P W' .any 0 t r) :
  s.post enc P f apart fresh handsOn again W args v W':=by
 have hold:∀ p ∈ before,(fun b=>decide (b<W.heap.size)) p.block=true:=fun p hp=>by simpa using hW.lt p hp
 have hlt:∀ p ∈ before,p.block<W.heap.size:=fun p hp=>hW.lt p hp;refine⟨ds,gs,before,[],pa,pv,hW,hres _ _ _,hargs _ hold,hvars _ hold,World.keptBut_mono (fun p hp=>⟨hp,?_⟩) hk,fun _=>?_⟩
 ·rw[hps,List.mem_append]at hp
  exact Or.inr hp
 ·obtain⟨_,_,_,_,_,hz,hn⟩:=hW
  refine⟨hok,_,_,([]++pa)++pv,⟨[]++pa,pv,trodAll_append (hargs _ (fun _ _=>rfl)) (hres _ _ _),hvars _ (fun _ _=>rfl),rfl,?_,?_⟩,?_⟩
  ·intro b off hp
   have hp':MemPlace.cell b off ∈ before:=by rw[hps];simpa using hp
   rw[hfz _ (hlt _ hp')];exact hz b off hp'
  ·intro ha
   have:=hn ha;rw[hps]at this;simpa using this
  ·intro p hp _
   rw[hps];simpa using hp
theorem tab_cells {W:World}{name:String}{zs:List Int}{g:Nat}(h:Lib.TabIs prog W name .u32 zs)(hg:prog.globalNamed name=some g){l:List W32}(hz:∀ i,i<n→i<zs.length∧zs.getD i 0=((l.getD i 0).toNat:Int)):∀ i,i<n→rc W g i=some (u32 (l.getD i 0)):=fun i hi=>by
 obtain⟨h1,h2⟩:=hz i hi;have:=(qKq (h.cell hg i h1)).2;simp only at this;rw[this,h2]
end
section
open Go.Proofs Sha Go.ChangeShapes Go.WideShapes Go.Deep
section
variable {H:Type} {enc:TypeId × Value→H} {W:World}
theorem weights_in {P:Program}{e:TypeId}{d:DataW H}{x:Nat}(hx:x ∈ d.weights P e):∀ {l:List (DataW H)},d ∈ l→x ∈ DataW.weightsAll P e l
 | [],h=>by cases h
 | y::l,h=>by
  unfold DataW.weightsAll;rw[List.mem_append]
  rcases List.mem_cons.1 h with rfl | h
  ·exact .inl hx
  ·exact .inr (weights_in hx h)
theorem open_texts {d:DataW H}{p:List MemPlace}(ht:DataW.Trod enc prog W 0 (fun _=>true) true 37 v d p)(hv:∃ a len cap, v=.slice a len cap)(hw:∀ x ∈ d.weights prog 37, x≤reachBytes) :
  ∃ raws:List Bs,TsA W v raws (fun _=>False)∧(∀ t ∈ raws,t.length≤2 ^ 47)∧raws.length≤5900000000000:=by
 obtain⟨fuel,hf⟩:=ht;obtain⟨a,len,cap,rfl⟩:=hv;have hf':DataW.trod enc prog W 0 (fun _=>true) true fuel 37 [.slice a len cap]=some (d,p):=hf;have hc1:prog.cellsOf 25=1:=by kernel_rfl
 have hb1:prog.bytesOf 25=24:=by kernel_rfl
 rcases open_slice1 (qXf Tryz.slc37) hc1 hf' with ⟨hc,hx⟩ | ⟨a',len',cap',m,k,V,D,Pl,hc,_,hl,hm,hmm,hx,hall⟩
 ·simp only[List.cons.injEq,and_true]at hc
  rw[hc];exact⟨[],⟨[],rfl,⟨rfl,_,_,rfl,Nat.le_refl _,fun h=>absurd h (by simp)⟩,fun _ _ _ h=>h,fun i h=>absurd h (by simp)⟩,fun t h=>(by cases h),by simp⟩
 ·simp only[List.cons.injEq,and_true]at hc
  rw[hc];simp only[if_true]at hmm;subst hmm;simp only[Prod.mk.injEq]at hx;obtain⟨hd,_⟩:=hx
  have hdw:d.weights prog 37=(len'+(m - len'))*24::(DataW.weightsAll prog 25 ((zQ len').map D)++DataW.weightsAll prog 25 ((zQ (m - len')).map fun j=>D (len'+j))):=by
   rw[hd]
   conv=>lhs;unfold DataW.weights
   rw[qXf Tryz.slc37];simp[hb1]
  rw[hdw]at hw;have hwt:=hw _ (List.mem_cons_self ..);have hr:reachBytes=140737488351232:=rfl;rw[hr]at hwt
  obtain⟨f,hfx⟩:=choose_lt (α:=Bs) (n:=len') (p:=fun i x=>W.cell? (a'.add i)=some (V i)∧By W (V i) x∧x.length≤2 ^ 47) fun i hi=>by
   obtain⟨h1,h2⟩:=hall i (by omega)
   have hform:∃ a len cap,V i=.slice a len cap:=by
    rcases open_slice1 (qXf Tryz.slc25) Tryz.cells5 h2 with ⟨hc,_⟩ | ⟨a2,l2,c2,_,_,_,_,_,hc,_⟩
    ·simp only[List.cons.injEq,and_true]at hc;exact⟨_,_,_,hc⟩
    ·simp only[List.cons.injEq,and_true]at hc;exact⟨_,_,_,hc⟩
   obtain⟨a2,l2,c2,e2⟩:=hform;rw[e2]at h2;obtain⟨raw,hb,hl⟩:=open_bytes (v:=.slice a2 l2 c2) ⟨k,h2⟩ ⟨_,_,_,rfl⟩ fun x hx=>hw x (List.mem_cons_of_mem _ (List.mem_append_left _ (weights_in hx (List.mem_map.2 ⟨i,by simpa using hi,rfl⟩))));exact⟨raw,h1,by rw[e2];exact hb,hl⟩
  have hlen:((zQ len').map f).length=len':=by simp
  refine⟨(zQ len').map f,⟨(zQ len').map V,by simp,?_,fun _ _ _ h=>h,fun i h1 h2=>⟨?_,fun _ _ _ h=>h⟩⟩,fun t ht=>?_,by rw[hlen];omega⟩
  ·rw[hlen]
   refine⟨by simp,some a',m,rfl,hl,fun h0=>?_⟩;obtain⟨b,o,sp⟩:=a'
   have hsp:sp=none:=by
    have:=(qKq (hfx 0 (by omega)).1).1;simpa [Addr.add] using this
   subst hsp;refine⟨b,o,rfl,fun i hi=>?_⟩;have:=(qKq (hfx i (by omega)).1).2;rw[qZh]at this;rw[this];simp[show i<len' by omega]
  ·simp only[List.getElem_map,List.getElem_range]
   exact (hfx i (by simpa using h1)).2.1
  ·obtain⟨i,hi,rfl⟩:=List.mem_map.1 ht
   exact (hfx i (by simpa using hi)).2.2
end
end
end Go.V
