/- Helpers. -/
import Derived.Test.YtppmpdjlmgfdkaaGreatDoorRows
import Derived.ChangeArms
import Derived.Test.YtppmpdjlmgfdkaaGreatDoorB24
import Derived.Test.YtppmpdjlmgfdkaaGreatDoorB25
set_option linter.all false
set_option maxRecDepth 100000
set_option maxHeartbeats 8000000
open List renaming range->qI,map_append->vL,getElem?_eq_getElem->xE,map_cons->qS,map_nil->qE,sum_append->rX,take_of_length_le->zG,take_append_drop->jZ,getElem_range->yZ
namespace Go.V
open Go.Proofs.Tryz
variable {cs:List Value} {fuel:Nat}
section
open Go.Proofs Sha Go.ChangeShapes Go.WideShapes Go.Deep
namespace A
open Go.Proofs.YtppmpdjlmgfdkaaGreatDoor.Rows (uptoBulk uptoBulkAll)
section
variable {H:Type} {enc:TypeId × Value->H} {W:World}
theorem bulk_one (d:DataW H):1<=uptoBulk d:=by
 cases d with
 | lit l=>cases l <;> simp[uptoBulk]
 | nil=>simp[uptoBulk]
 | ptr d=>simp[uptoBulk]
 | slice B E=>simp[uptoBulk]
 | agg parts=>simp[uptoBulk]
 | iface t d=>simp[uptoBulk]
 | map A=>simp[uptoBulk]
 | held h=>simp[uptoBulk]
theorem bulk_app (l r:List (DataW H)):uptoBulkAll (l++r)=uptoBulkAll l+uptoBulkAll r:=by
 induction l with
 | nil=>simp[uptoBulkAll]
 | cons x l A=>simp only[List.cons_append,uptoBulkAll,A];omega
theorem bulk_len (l:List (DataW H)):l.length<=uptoBulkAll l:=by
 induction l with
 | nil=>simp[uptoBulkAll]
 | cons x r A=>have:=bulk_one x;simp only[uptoBulkAll,List.length_cons];omega
theorem bulk_rng {n:Nat}{D:Nat->DataW H}{c:Nat->Nat}(h:∀ i,i<n->c i<=uptoBulk (D i)):((qI n).map c).sum<=uptoBulkAll ((qI n).map D):=by
 induction n with
 | zero=>exact Nat.zero_le _
 | succ n A =>
  have:=A fun i hi=>h i om;have:=h n om;rw[List.range_succ,vL,vL,bulk_app,rX];simp only[qS,qE,uptoBulkAll,List.sum_cons,List.sum_nil];omega
theorem Tryz.cellsK':prog.cellsOf 76=32:=x8
theorem Tryz.cellsC:prog.cellsOf 134=34:=x8
theorem Tryz.cells4:prog.cellsOf 4=1:=x8
theorem Tryz.cellsB:prog.cellsOf 22=1:=x8
theorem Tryz.cellsL:prog.cellsOf 95=1:=x8
theorem und4:prog.underlying 4=some .bool:=x8
theorem undKey:prog.underlying 76=some (.array 32 5):=x8
theorem strCh:strucO prog 134=some [(false,76,0),(false,4,32),(false,22,33)]:=x8
theorem open_key {base:Nat}{I:Nat->Bool}{held:Bool}{x:DataW H × List MemPlace}(h:DataW.trod enc prog W base I held fuel 76 cs=some x) :
  ∃ k:Bs,k.length=32/\cs=k.map u8/\33<=uptoBulk x.1:=by
 obtain⟨xs,m,_,rfl,E,A,J⟩:=DataW.trod_array undKey h;rw[Tryz.cellsK']at E
 have L:33<=uptoBulk (DataW.agg (xs.map (·.1))):=by
  have:=bulk_len (xs.map (·.1));rw[List.length_map,A]at this;simp only[uptoBulk];omega
 obtain⟨k,M,e⟩:=list_of E fun i hi=>by
  have B:=J i hi;rw[Tryz.cells5,Nat.mul_one,xE om]at B;obtain⟨n,N,_,O⟩:=DataW.trod_int (qJe Tryz.int5) B;obtain⟨y,R⟩:=wf8 O;refine⟨y,?_⟩;rw[<- R];have:=congrArg (·[0]?) N;simpa [List.getElem?_take,List.getElem?_drop] using this
 exact⟨k,M,e,L⟩
theorem open_by {x:DataW H × List MemPlace}(h:DataW.trod enc prog W 0 (fun _=>true) true fuel 22 cs=some x) :
  ∃ vv L,cs=[vv]/\one vv=true/\By W vv L:=by
 rcases open_slice1 (qZe Tryz.slc22) Tryz.cells5 h with ⟨M,Y⟩ | ⟨N,A,T,m,k,V,D,Pl,M,_,Z,hm,B,Y,E⟩
 ·exact⟨_,[],M,rfl,(NwB.nil W W).by⟩
 ·simp only[if_true]at B
  subst B
  obtain⟨f,I⟩:=choose_lt (α:=Byte) (n:=A) (p:=fun i x=>W.cell? (N.add i)=some (u8 x)) fun i hi=>by
   obtain⟨h1,h2⟩:=E i om;obtain⟨n,U,_,O⟩:=DataW.trod_int (qJe Tryz.int5) h2;simp only[List.cons.injEq,and_true]at U;obtain⟨y,hy⟩:=wf8 O;exact⟨y,by rw[h1,U,hy]⟩
  refine⟨_,(qI A).map f,M,rfl,?_⟩;have J:((qI A).map f).length=A:=sm
  unfold By;rw[J];refine⟨sm,some N,m,rfl,Z,fun h0=>?_⟩;obtain⟨b,o,sp⟩:=N
  have R:sp=none:=by
   have:=(qVh (I 0 om)).1;simpa [Addr.add] using this
  subst R;refine⟨b,o,rfl,fun i hi=>?_⟩;have:=(qVh (I i om)).2;rw[qJr]at this;rw[this];simp[show i<A by omega]
theorem open_ch {x:DataW H × List MemPlace}(h:DataW.trod enc prog W 0 (fun _=>true) true fuel 134 cs=some x) :
  ∃ (c:Bat.Ch) (vv:Value),cs=chRow c vv/\one vv=true/\By W vv c.val/\c.key.length=32/\36<=uptoBulk x.1:=by
 obtain⟨R,T,B⟩:=strucO_und strCh;obtain⟨xs,n,_,rfl,E,A,I⟩:=DataW.trod_struct T h;rw[Tryz.cellsC]at E;obtain⟨l⟩:=R
 match l,B with
 | [U,V,Y],B =>
  simp only[qS,qE,List.cons.injEq,Prod.mk.injEq,and_true]at B;obtain⟨⟨_,Z,o0⟩,⟨_,t1,o1⟩,_,t2,o2⟩:=B
  match xs,A with
  | [y0,y1,y2],_ =>
   have L:=I 0 U rfl;have M:=I 1 V rfl;have N:=I 2 Y rfl;rw[Z,o0,Tryz.cellsK']at L;rw[t1,o1,Tryz.cells4]at M;rw[t2,o2,Tryz.cellsB]at N;obtain⟨k,hk,e0,O⟩:=open_key L;obtain⟨dl,e1,_⟩:=DataW.trod_bool und4 M;obtain⟨vv,J,e2,ov,hv⟩:=open_by N;refine⟨⟨k,dl,J⟩,vv,?_,ov,hv,hk,?_⟩
   ·have c1:cs=cs.take 32++((cs.drop 32).take 1++(cs.drop 33).take 1):=by
     conv=>lhs;rw[<- jZ 32 cs]
     congr 1
     conv=>lhs;rw[<- jZ 1 (cs.drop 32),List.drop_drop]
     congr 1
     rw[zG (by rw[lDr];omega)]
    rw[c1,<- List.drop_zero (l:=cs),e0];rw[List.drop_zero,e1,e2]
    rfl
   ·have b1:=bulk_one y1.1
    have b2:=bulk_one y2.1;have O:33<=uptoBulk y0.1:=O;simp only[qS,qE,uptoBulk,uptoBulkAll];omega
theorem open_list {x:DataW H × List MemPlace}(h:DataW.trod enc prog W 0 (fun _=>true) true fuel 95 cs=some x) :
  ∃ U l,cs=[U]/\one U=true/\ChI W U l/\36*l.length+1<=uptoBulk x.1:=by
 rcases open_slice (qZe Tryz.slc95) h with ⟨V,rfl⟩ | ⟨Y,A,a3,m,k,D,Pl,V,_,hl,hm,M,rfl,N⟩
 ·exact⟨_,[],V,rfl,⟨[],(NwR.nil W W 134 34).rd,rfl,fun i h=>absurd h sm⟩,by simp[uptoBulk]⟩
 ·simp only[if_true]at M
  subst M
  haveI:Inhabited (Bat.Ch × Value):=⟨(⟨[],false,[]⟩,undef)⟩
  obtain⟨f,E⟩:=choose_lt (α:=Bat.Ch × Value) (n:=A) (p:=fun i y=>(one y.2=true/\By W y.2 y.1.val/\y.1.key.length=32/\36<=uptoBulk (D i))/\∀ j,j<34->W.cell? ((Y.add (i*34)).add j)=(chRow y.1 y.2)[j]?) fun i hi=>by
   obtain⟨a4,Z,h2⟩:=N i om;rw[Tryz.cellsC]at Z;obtain⟨c,vv,rfl,ov,hv,hk,hb⟩:=open_ch h2;obtain⟨_,_,B⟩:=World.cells?_some Z;exact⟨(c,vv),⟨ov,hv,hk,hb⟩,B⟩
  have rl:∀ i,i<A->(chRow (f i).1 (f i).2).length=34:=fun i hi=>by simp[chRow,(E i hi).1.2.2.1]
  have L:RowsOk 34 ((qI A).map fun i=>chRow (f i).1 (f i).2):=fun r hr=>by
   obtain⟨i,hi,rfl⟩:=List.mem_map.1 hr;have hi:=List.mem_range.1 hi;refine⟨rl i hi,?_⟩;unfold chRow;rw[List.all_append,qXs];have:=(E i hi).1.1;simp[this]
   rfl
  have I:((qI A).map fun i=>chRow (f i).1 (f i).2).length=A:=sm
  have O:((qI A).map fun i=>(f i).1).length=A:=sm
  refine⟨_,(qI A).map fun i=>(f i).1,V,rfl,⟨(qI A).map fun i=>chRow (f i).1 (f i).2,⟨L,?_⟩,by rw[I,O],fun i Z h2=>?_⟩,?_⟩
  ·rw[I]
   refine⟨by rw[rows_len L,I],some Y,m,rfl,hl,fun h0=>?_⟩;obtain⟨b,o,sp⟩:=Y
   have B:∀ i,i<A->∀ j,j<34->∃ y,(chRow (f i).1 (f i).2)[j]?=some y/\W.cell? (((⟨b,o,sp⟩:Addr).add (i*34)).add j)=some y:=fun i hi j hj=>by
    have R:j<(chRow (f i).1 (f i).2).length:=by rw[rl i hi];exact hj
    exact⟨_,xE R,((E i hi).2 j hj).trans (xE R)⟩
   have a0:sp=none:=by
    obtain⟨y,_,h⟩:=B 0 om 0 x9;have:=(qVh h).1;simpa [Addr.add] using this
   subst a0;refine⟨b,o,rfl,fun i hi=>?_⟩;have J:i / 34<A:=om
   obtain⟨y,hy,h⟩:=B (i / 34) J (i % 34) (Nat.mod_lt _ x9);have:=(qVh h).2;rw[qJr,qJr]at this;have this:rc W b (o+i / 34*34+i % 34)=some y:=this;rw[show o+i / 34*34+i % 34=o+i by omega]at this;rw[this,<- hy];have T:=rows_at L (i:=i / 34) (by rw[I];exact J) (j:=i % 34) (Nat.mod_lt _ x9);rw[show i / 34*34+i % 34=i by omega]at T;rw[T]
   simp
  ·have hi:i<A:=om
   obtain⟨⟨ov,hv,hk,_⟩,_⟩:=E i hi
   refine⟨(f i).2,?_,ov,?_,?_⟩ <;> simp only[List.getElem_map,yZ]
   ·exact hv
   ·exact hk
  ·rw[O]
   have:=bulk_rng (n:=A) (D:=D) (c:=fun _=>36) fun i hi=>(E i hi).1.2.2.2
   have e:((qI A).map fun _=>36).sum=36*A:=by
    rw[List.map_const',List.sum_replicate_nat,List.length_range,Nat.mul_comm]
   rw[e]at this;simp only[uptoBulk];omega
theorem open_lists {v:Value}{d:DataW H}{p:List MemPlace}(ht:DataW.Trod enc prog W 0 (fun _=>true) true 33 v d p)(hv:∃ a len cap, v=.slice a len cap) :
  ∃ T,LsI W v T/\T.length+36*totC T T.length<=uptoBulk d:=by
 obtain⟨fuel,hf⟩:=ht;obtain⟨a,len,cap,rfl⟩:=hv;have U:DataW.trod enc prog W 0 (fun _=>true) true fuel 33 [.slice a len cap]=some (d,p):=hf
 rcases open_slice1 (qZe Tryz.slc33) Tryz.cellsL U with ⟨M,Y⟩ | ⟨Z,A,a3,m,k,V,D,Pl,M,_,hl,hm,N,Y,O⟩
 ·simp only[List.cons.injEq,and_true]at M
  rw[M];exact⟨[],⟨[],(NwR.nil W W 95 1).rd,rfl,fun i h=>absurd h sm⟩,Nat.zero_le _⟩
 ·simp only[List.cons.injEq,and_true]at M
  rw[M];simp only[if_true]at N;subst N;simp only[Prod.mk.injEq]at Y;obtain⟨rfl,_⟩:=Y
  obtain⟨f,B⟩:=choose_lt (α:=List Bat.Ch) (n:=A) (p:=fun i x=>W.cell? (Z.add i)=some (V i)/\one (V i)=true/\ChI W (V i) x/\36*x.length+1<=uptoBulk (D i)) fun i hi=>by
   obtain⟨h1,h2⟩:=O i om;obtain⟨lv,l,e,ov,I,hb⟩:=open_list h2;simp only[List.cons.injEq,and_true]at e;rw[e];exact⟨l,by rw[h1,e],ov,I,hb⟩
  have E:((qI A).map fun i=>[V i]).length=A:=sm
  have J:((qI A).map f).length=A:=sm
  have L:RowsOk 1 ((qI A).map fun i=>[V i]):=fun r hr=>by
   obtain⟨i,hi,rfl⟩:=List.mem_map.1 hr;have:=(B i (List.mem_range.1 hi)).2.1;exact⟨rfl,by simp[this]⟩
  refine⟨(qI A).map f,⟨(qI A).map fun i=>[V i],⟨L,?_⟩,by rw[E,J],fun i h1 h2=>?_⟩,?_⟩
  ·rw[E]
   refine⟨by rw[rows_len L,E],some Z,m,rfl,hl,fun h0=>?_⟩;obtain⟨b,o,sp⟩:=Z
   have a0:sp=none:=by
    have:=(qVh (B 0 om).1).1;simpa [Addr.add] using this
   subst a0;refine⟨b,o,rfl,fun i hi=>?_⟩;have:=(qVh (B i om).1).2;rw[qJr]at this;have this:rc W b (o+i)=some (V i):=this;rw[this];have R:=rows_at L (i:=i) (by rw[E];omega) (j:=0) x9;rw[Nat.mul_one,Nat.add_zero]at R;rw[R]
   simp
  ·have hi:i<A:=om
   obtain⟨_,ov,I,_⟩:=B i hi
   refine⟨V i,?_,ov,?_⟩ <;> simp only[List.getElem_map,yZ]
   exact I
  ·have:=bulk_rng (n:=A) (D:=D) (c:=fun i=>36*(f i).length+1) fun i hi=>(B i hi).2.2.2
   have e:∀ n,((qI n).map fun i=>36*(f i).length+1).sum=36*(((qI n).map f).map List.length).sum+n:=by
    intro n
    induction n with
    | zero=>rfl
    | succ n ih =>
     rw[List.range_succ,vL,vL,vL,rX,rX,ih];simp only[qS,qE,List.sum_cons,List.sum_nil];omega
   rw[e]at this;rw[J];unfold totC;rw[zG (by rw[J];omega)];simp only[uptoBulk];omega
theorem bulk_walk {T L:Nat}(h:L+36*T<=1048576):L<=2 ^ 21/\T<=2 ^ 16/\L+129*(T*(T+1))<=2 ^ 37:=by
 have A:T<=29127:=om
 have B:T*(T+1)<=29127*29128:=Nat.mul_le_mul A om;omega
end
end A
end
end Go.V
