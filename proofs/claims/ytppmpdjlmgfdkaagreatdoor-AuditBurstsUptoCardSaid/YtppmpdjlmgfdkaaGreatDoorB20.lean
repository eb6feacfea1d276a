/- Helpers. -/
import Derived.Test.YtppmpdjlmgfdkaaGreatDoorB19
import Derived.Test.YtppmpdjlmgfdkaaGreatDoorB17
import Derived.Test.YtppmpdjlmgfdkaaGreatDoorB18
set_option linter.all false
set_option maxRecDepth 100000
set_option maxHeartbeats 8000000
open Array renaming all_toList->kU
open BitVec renaming ofNat->zX
open Int renaming toNat_zero->kJ
open List renaming replicate->zK,append_assoc->zJ,append_nil->zO,getElem?_toArray->xI,take_of_length_le->zG,getElem?_append_right->z4,length_map->zB,size_toArray->kG,length_filter_le->kF,getElem?_append_left->zR,getElem_mem->jT,take_length->kK,nil_append->zL,take_append_of_le_length->zF,drop_append_of_le_length->zM,take_zero->j5,getElem_append_left->jQ,getElem?_eq_getElem->xE,mem_append_right->zV,getElem?_eq_none->vS,mem_append_left->zW,length->kH
open Nat renaming reduceEqDiff->yJ,zero_add->jY,reduceBEq->yY,reduceAdd->vH,le_refl->xC,zero_mul->yV,add_zero->yF,le_trans->kD,lt_irrefl->yU,sub_zero->yW,div_div_eq_div_mul->yL,mul_one->yK
open Option renaming map->yM,getD_some->kM
open Go.Value renaming cells->yN,agg->vN
namespace Go.V
open Go.Proofs.Tryz Go.V.Tryz
open Go.Proofs Sha
variable {at':Bool} {a bs d k ky ls rs:Bs} {wd:Int} {b c i n ro:Nat} {fz:Nat × Nat} {av esv v vv:Value} {w w0 w1:World}
section
namespace R
open Aud A
theorem quo8 (v d:Nat):(v:Int).tdiv (d:Int)=((v / d:Nat):Int):=rfl
theorem four_eq (v:Nat):[zX 8 v,zX 8 (v / 256),zX 8 (v / 65536),zX 8 (v / 16777216)]=leB 4 v:=by
 show _=[zX 8 v,zX 8 (v / 256),zX 8 (v / 256 / 256),zX 8 (v / 256 / 256 / 256)]
 rw[yL,yL]
theorem fourF (v:Nat)(E:v<2 ^ 62):IntKind.u8.wrap ((v:Int).tmod 256)=((zX 8 v).toNat:Int) /\
  IntKind.i64.wrap ((v:Int).tdiv 256)=((v / 256:Nat):Int)/\IntKind.u8.wrap (((v / 256:Nat):Int).tmod 256)=((zX 8 (v / 256)).toNat:Int) /\
  IntKind.i64.wrap ((v:Int).tdiv 65536)=((v / 65536:Nat):Int)/\IntKind.u8.wrap (((v / 65536:Nat):Int).tmod 256)=((zX 8 (v / 65536)).toNat:Int) /\
  IntKind.i64.wrap ((v:Int).tdiv 16777216)=((v / 16777216:Nat):Int)/\IntKind.u8.wrap (((v / 16777216:Nat):Int).tmod 256)=((zX 8 (v / 16777216)).toNat:Int):=by
 have q:∀ (d:Nat) (e:Int),(d:Int)=e->IntKind.i64.wrap ((v:Int).tdiv e)=((v / d:Nat):Int):=fun d e A=>by
  subst A;have h:=Nat.div_le_self v d;rw[quo8];generalize v / d=x at *;rw[qQq om om]
 have a1:=q 256 256 om;have a2:=q 65536 65536 om;have B:=q 16777216 16777216 om;refine⟨?_,?_,?_,?_,?_,?_,?_⟩
 ·exact u8mod v
 ·exact a1
 ·exact u8mod (v / 256)
 ·exact a2
 ·exact u8mod (v / 65536)
 ·exact B
 ·exact u8mod (v / 16777216)
theorem four9 (w0:World)(v:Nat)(J:v<2 ^ 62):Fn prog 99 #[.int .i64 (v:Nat)] w0 fun r w'=>By w' r (leB 4 v)/\No w0 w'/\∀ b,qQc r=some b->w0.heap.size<=b:=by
 refine go99 sm ?_;have F:=fourF v J;have c1:=F.1;have c2:=F.2.1;have M:=F.2.2.1;have N:=F.2.2.2.1;have O:=F.2.2.2.2.1;have R:=F.2.2.2.2.2.1;have U:=F.2.2.2.2.2.2;clear F;have n1:((256:Int)=0)=False:=sm
 have n2:((65536:Int)=0)=False:=sm
 have V:((16777216:Int)=0)=False:=sm
 simp -implicitDefEqProofs only[go_sem,yJ,yN,jY,Tryz.f99,n1,n2,V,if_false,c1,c2,M,N,O,R,U];rw[<- four_eq v];generalize zX 8 v=A;generalize zX 8 (v / 256)=B;generalize zX 8 (v / 65536)=E;generalize zX 8 (v / 16777216)=H;have W:(w0.alloc (.cells (bl [A,B,E,H]) 5)).heap[w0.heap.size]?=some (.cells (bl [A,B,E,H]) 5 (0,0)):=qQb _ _;have Y:No w0 (w0.alloc (.cells (bl [A,B,E,H]) 5)):=(Fr.refl _ _).alloc _;have I:=row_by (m:=4) (cap:=4) W sm (xC _);rw[zG sm]at I;refine qQm (v:=.slice (some ⟨w0.heap.size,0,none⟩) 4 4) (w':=w0.alloc (.cells (bl [A,B,E,H]) 5)) rfl ?_;simp -implicitDefEqProofs only[go_sem];exact And.intro I ⟨Y,fun b Z=>by cases Z;exact xC _⟩
def j9I (u w0:World)(av A:Value)(xs bs:Bs)(n:Nat)(vs:List Value)(w:World):Prop :=
 ∃ (i:Nat) (v:Value),vs=[v,A,.int .i64 (i:Nat)]/\i<=bs.length/\n=bs.length - i/\NwB u w v (xs++bs.take i)/\No u w/\Fr (fun b=>qQc av=some b) w0 w/\∀ b,qQc v=some b->qQc av=some b∨w0.heap.size<=b
theorem joined9 (u w0:World)(Z:NwB u w0 av a)(hu:No u w0)(N:By w0 vv bs)(hne:0<bs.length->∀ b, qQc vv=some b->qQc av≠some b)(a0:a.length<=2 ^ 40)(hl:bs.length<=2 ^ 40) :
  Fn prog 98 #[av,vv] w0 fun v w'=>NwB u w' v (a++bs)/\No u w'/\Fr (fun b=>qQc av=some b) w0 w'/\∀ b,qQc v=some b->qQc av=some b∨w0.heap.size<=b:=by
 refine go98 sm ?_;obtain⟨va,vc,rfl,O⟩:=N.slice;simp -implicitDefEqProofs only[go_sem,jY,Tryz.f98];refine loopD [0,1,5] (j9I u w0 av (.slice va bs.length vc) a bs) bs.length ⟨0,av,rfl,om,rfl,by rw[j5,zO];exact Z,hu,Fr.refl _ _,fun b h=>.inl h⟩ ?_;rintro _ vs R g ⟨i,v,rfl,hi,rfl,I,U,E,A⟩
 by_cases B:i<bs.length
 ·have V:=dTo ((i:Int)<((bs.length:Nat):Int))
  have c1:=iSu (i:=i);have y:=iBd (i:=i) (n:=bs.length);obtain⟨b,o,cap,he,r⟩:=by_rd (N.fr E fun b H _ h=>hne om b H h) B;cases he;have J:=qXt (l:=bs) (i:=i) B;obtain⟨W,w4,M,Y,f4,g4,h4⟩:=NwB.grow I (bs.getD i 0) (by simp;omega) U;rw[zJ,J]at Y;generalize bs.getD i 0=x at *;simp -implicitDefEqProofs only[go_sem,yJ,yN,jY,y,and_self,iTn,yK,r];refine qQm (v:=.slice (some ⟨R.heap.size,0,none⟩) 1 1) (w':=R.alloc (.cells (bl [x]) 5)) rfl ?_;simp -implicitDefEqProofs only[go_sem,yJ];refine qQj ⟨W,w4,M,?_⟩;simp -implicitDefEqProofs only[go_sem,yJ,c1];refine⟨bs.length - (i+1),om,i+1,W,rfl,om,rfl,Y,f4,E.trans' g4 fun b H e=>(A b e).resolve_right om,fun b H=>?_⟩
  rcases h4 b H with h | h
  ·exact A b h
  ·have:=E.size;exact .inr om
 ·have V:=dFo ((i:Int)<((bs.length:Nat):Int))
  have e:i=bs.length:=om
  subst e;rw[kK]at I;simp -implicitDefEqProofs only[go_sem,yJ,V];exact⟨I,U,E,A⟩
theorem by_blk (h:By w v bs)(B:0<bs.length)(E:qQc v=some b):b<w.heap.size:=by
 obtain⟨_,a,cap,rfl,_,A⟩:=h;obtain⟨I,o,rfl,H⟩:=A om;cases E;have:=H 0 om;rw[List.getElem?_map,xE B]at this;exact rc_lt this
theorem midB {b o i:Nat}{a r:List Value}{e:TypeId}{ds:Bs}(h:w.heap[b]?=some (.cells (a++ds.map u8++r).toArray e fz))(A:a.length=o)(hi:i<ds.length):rdO prog 5 w b (o+i)=some (u8 (ds.getD i 0)):=by
 refine rd1 agg5 h ?_;rw[xI,zJ,z4 om,zR (by rw[zB];omega),A,Nat.add_sub_cancel_left,List.getElem?_map,xE hi,qQt 0 hi];rfl
def abI (u w1:World)(c:List Value)(A d:Bs)(n:Nat)(vs:List Value)(w:World):Prop :=
 ∃ (i:Nat) (v:Value),vs=c++[v,.int .i64 (i:Nat)]/\i<=32/\n=32 - i/\NwB u w v (A++d.take i)/\No u w/\(∀ b,qQc v=some b->w1.heap.size<=b)/\No w1 w
abbrev nPre (k l r lc rc:Nat)(ls rs:Bs):List Value:=[.int .i64 (k:Nat),.int .i64 (l:Nat),.int .i64 (r:Nat),.int .i64 (lc:Nat),.int .i64 (rc:Nat)]++ls.map u8++rs.map u8
theorem load9leaf (w0:World){k val:Bs}(Y:k.length=32)(ov:one vv=true)(Z:By w0 vv val)(hl:val.length<=2 ^ 30):Fn prog 58 #[.agg (ndA (.leaf k val) vv).toArray] w0 fun v w'=>NwB w0 w' v (k++val)/\No w0 w':=by
 refine go58 sm ?_;obtain⟨W,hW,f0,k0,s0⟩:=qQl w0 (ndA (.leaf k val) vv).toArray 78;have r0:=(rdLf Y k0).1;have a0:((1:Int) == 1)=true:=rfl;simp -implicitDefEqProofs only[go_sem,yJ,yN,bSe,jY,Tryz.f58,hW,r0];refine loopD [1,3,4] (abI w0 W [pt w0.heap.size 0] [] k) 32 ⟨0,.slice .none 0 0,rfl,om,rfl,NwB.nil _ _,f0,(fun b h=>by cases h),Fr.refl _ _⟩ ?_;rintro _ vs H g ⟨i,v,rfl,hi,rfl,I,J,A,M⟩;have k3:=M.at k0 id
 by_cases a3:i<32
 ·have N:=dTo ((i:Int)<32)
  have c1:=iSu (i:=i);have y:=iBd (i:=i) (n:=32);have O:=qXt (l:=k) (i:=i) om;have r:=midB (i:=i) (a:=nPre 1 0 0 0 0 z32 z32) (r:=[vv]) (ds:=k) (o:=69) (e:=78) (fz:=(0,0)) k3 (by rfl) om;obtain⟨v4,w4,R,B,U,g4,h4⟩:=NwB.grow I (k.getD i 0) (by simp;omega) J;rw[zJ,O]at B;generalize k.getD i 0=x at *;simp -implicitDefEqProofs only[go_sem,yJ,yN,jY,N,y,and_self,iTn,yK,r];refine qQm (v:=.slice (some ⟨H.heap.size,0,none⟩) 1 1) (w':=H.alloc (.cells (bl [x]) 5)) rfl ?_;simp -implicitDefEqProofs only[go_sem,yJ];refine qQj ⟨v4,w4,R,?_⟩;simp -implicitDefEqProofs only[go_sem,yJ,c1];refine⟨32 - (i+1),om,i+1,v4,rfl,om,rfl,B,U,fun b E=>?_,M.trans' g4 fun b E e=>by have:=A b e;omega⟩
  rcases h4 b E with h | h
  ·exact A b h
  ·have:=M.size;omega
 ·have N:=dFo ((i:Int)<32)
  have e:i=32:=om
  subst e;rw[zL,zG om]at I;have rv:=(rdLf Y k3).2.2.2.2;simp -implicitDefEqProofs only[go_sem,yJ,jY,N,rv];refine qQa pl98 ((joined9 w0 H I J (Z.fr0 J) (fun hp b E V=>?_) om om).mono ?_)
  ·have h1:=A b V
   have:=by_blk Z hp E;omega
  rintro _ w4 ⟨B,U,_⟩;simp -implicitDefEqProofs only[go_sem];exact And.intro B U
end R
end
section
namespace R
open Aud A
theorem four15 (u w0:World)(J:NwB u w0 av a)(M:No u w0)(hl:a.length<=2 ^ 40)(v:Nat)(N:v<2 ^ 62):Fn prog 102 #[av,.int .i64 (v:Nat)] w0 fun r w'=>NwB u w' r (a++leB 4 v)/\No u w':=by
 refine go102 sm ?_;have F:=fourF v N;have c1:=F.1;have c2:=F.2.1;have O:=F.2.2.1;have R:=F.2.2.2.1;have U:=F.2.2.2.2.1;have V:=F.2.2.2.2.2.1;have W:=F.2.2.2.2.2.2;clear F;have n1:((256:Int)=0)=False:=sm
 have n2:((65536:Int)=0)=False:=sm
 have Y:((16777216:Int)=0)=False:=sm
 simp -implicitDefEqProofs only[go_sem,yJ,yN,jY,Tryz.f102,n1,n2,Y,if_false,c1,c2,O,R,U,V,W];rw[<- four_eq v];generalize zX 8 v=B;generalize zX 8 (v / 256)=E;generalize zX 8 (v / 65536)=H;generalize zX 8 (v / 16777216)=I;obtain⟨Z,w4,A,b4,f4,g4⟩:=NwB.push app22_22 J [B,E,H,I] (bd_small (by simp;omega)) (by simp;omega) M;refine qQm (v:=.slice (some ⟨w0.heap.size,0,none⟩) 4 4) (w':=w0.alloc (.cells (bl [B,E,H,I]) 5)) rfl ?_;simp -implicitDefEqProofs only[go_sem,yJ];refine qQj ⟨Z,w4,A,?_⟩;simp -implicitDefEqProofs only[go_sem];exact And.intro b4 f4
abbrev rPre (r:Rc):List Value:=[.int .i64 (r.ver:Nat),.int .i64 (r.first:Nat),.int .i64 (r.prev:Nat),.int .i64 (r.skip:Nat),.int .i64 (r.root:Nat),.int .i64 (r.count:Nat)]
theorem load15 (w0:World){r:Rc}(hs:r.sum.length=32)(E:r.ver<2 ^ 62/\r.first<2 ^ 62/\r.prev<2 ^ 62/\r.skip<2 ^ 62/\r.root<2 ^ 62/\r.count<2 ^ 62):Fn prog 61 #[.agg (rcC r).toArray] w0 fun v w'=>NwB w0 w' v (lodR r)/\No w0 w':=by
 refine go61 sm ?_;obtain⟨W,hW,Z,k0,s0⟩:=qQl w0 (rcC r).toArray 80;have rd:∀ {w:World},No W w->∀ {i:Nat} {x:Value},(rcC r).toArray[i]?=some x->rdO prog 3 w w0.heap.size i=some x:=fun {w} f {i x} h=>rd1 agg3 (f.at k0 id) h;have r0:=rd (Fr.refl _ _) (i:=0) rfl;simp -implicitDefEqProofs only[go_sem,yJ,yN,jY,Tryz.f61,hW,r0];refine qQa pl102 ((four15 W W (NwB.nil _ _) (Fr.refl _ _) sm r.ver E.1).mono ?_);rintro _ w1 ⟨b1,f1⟩;have r1:=rd f1 (i:=1) rfl;simp -implicitDefEqProofs only[go_sem,yJ,jY,r1];refine qQa pl102 ((four15 W w1 b1 f1 (by simp[qXc]) r.first E.2.1).mono ?_);rintro _ w2 ⟨b2,f2⟩;have r2:=rd f2 (i:=2) rfl;simp -implicitDefEqProofs only[go_sem,yJ,jY,r2];refine qQa pl102 ((four15 W w2 b2 f2 (by simp[qXc]) r.prev E.2.2.1).mono ?_);rintro _ w3 ⟨b3,f3⟩;have r3:=rd f3 (i:=3) rfl;simp -implicitDefEqProofs only[go_sem,yJ,jY,r3];refine qQa pl102 ((four15 W w3 b3 f3 (by simp[qXc]) r.skip E.2.2.2.1).mono ?_);rintro _ w4 ⟨b4,f4⟩;have r4:=rd f4 (i:=4) rfl;simp -implicitDefEqProofs only[go_sem,yJ,jY,r4];refine qQa pl102 ((four15 W w4 b4 f4 (by simp[qXc]) r.root E.2.2.2.2.1).mono ?_);rintro _ w5 ⟨b5,f5⟩;have r5:=rd f5 (i:=5) rfl;simp -implicitDefEqProofs only[go_sem,yJ,jY,r5];refine qQa pl102 ((four15 W w5 b5 f5 (by simp[qXc]) r.count E.2.2.2.2.2).mono ?_);rintro v6 w6 ⟨I,J⟩;rw[zL]at I;generalize A:leB 4 r.ver++leB 4 r.first++leB 4 r.prev++leB 4 r.skip++leB 4 r.root++leB 4 r.count=B at *;have M:B.length=24:=by rw[<- A];simp only[lAp,qXc]
 have H:lodR r=B++r.sum:=by rw[<- A];rfl
 simp -implicitDefEqProofs only[go_sem];refine loopD [1,3,4] (abI W W [pt w0.heap.size 0] B r.sum) 32 ⟨0,v6,rfl,om,rfl,by rw[j5,zO];exact I,J,fun b h=>Nw.new I b h,J⟩ ?_;clear I J;rintro _ vs w7 g ⟨i,v,rfl,hi,rfl,N,O,a0,_⟩;have k7:=O.at k0 id
 by_cases a3:i<32
 ·have R:=dTo ((i:Int)<32)
  have c1:=iSu (i:=i);have y:=iBd (i:=i) (n:=32);have U:=qXt (l:=r.sum) (i:=i) om;have rr:=midB (i:=i) (a:=rPre r) (r:=[]) (ds:=r.sum) (o:=6) (e:=80) (fz:=(0,0)) (by rw[k7,zO];rfl) (by rfl) om;obtain⟨v8,w8,V,Y,f8,g8,h8⟩:=NwB.grow N (r.sum.getD i 0) (by simp[M];omega) O;rw[zJ,U]at Y;generalize r.sum.getD i 0=x at *;simp -implicitDefEqProofs only[go_sem,yJ,yN,jY,R,y,and_self,iTn,yK,rr];refine qQm (v:=.slice (some ⟨w7.heap.size,0,none⟩) 1 1) (w':=w7.alloc (.cells (bl [x]) 5)) rfl ?_;simp -implicitDefEqProofs only[go_sem,yJ];refine qQj ⟨v8,w8,V,?_⟩;simp -implicitDefEqProofs only[go_sem,yJ,c1];exact⟨32 - (i+1),om,i+1,v8,rfl,om,rfl,Y,f8,fun b h=>Nw.new Y b h,f8⟩
 ·have R:=dFo ((i:Int)<32)
  have e:i=32:=om
  subst e;rw[zG om,<- H]at N;simp -implicitDefEqProofs only[go_sem,yJ,R];exact And.intro (NwB.back N Z.size) (Z.trans O)
theorem rcPlaces:qXh prog 80=some [(0,1),(1,1),(2,1),(3,1),(4,1),(5,1),(6,32)]:=x8
abbrev rcPs:Nat->Option (Nat × Nat):=fun i=>[(0,1),(1,1),(2,1),(3,1),(4,1),(5,1),(6,32)][i]?
abbrev vi (n:Nat):Value:=.int .i64 (n:Nat)
theorem bldRt {sum:Bs}(h:sum.length=32):bldO prog 80 [(4,vi ro),(5,vi c),(6,dg sum)]=some (.agg (rcC ⟨0,0,0,0,ro,c,sum⟩).toArray):=by
 rw[qKd zero80 rcPlaces (c:=(rcC rc00).toArray) x8];have B:=qJb (ps:=rcPs) (i:=4) (o:=4) (a:=[vi 0,vi 0,vi 0,vi 0]) (r:=vi 0::z32.map u8) (u:=vi 0) (v:=vi ro) (rest:=[(5,vi c),(6,dg sum)]) rfl rfl rfl;have E:=qJb (ps:=rcPs) (i:=5) (o:=5) (a:=[vi 0,vi 0,vi 0,vi 0,vi ro]) (r:=z32.map u8) (u:=vi 0) (v:=vi c) (rest:=[(6,dg sum)]) rfl rfl rfl;have A:=qJv (ps:=rcPs) (i:=6) (o:=6) (n:=32) (a:=[vi 0,vi 0,vi 0,vi 0,vi ro,vi c]) (m:=z32.map u8) (r:=[]) (vs:=sum.map u8) (rest:=[]) rfl rfl sm (by simp[h]);rw[qXu,zO,zO]at A;exact congrArg (yM vN) ((B.trans E).trans A)
theorem bldR5 {v f ro c:Nat}{sum:Bs}(h:sum.length=32):bldO prog 80 [(0,vi v),(1,vi f),(4,vi ro),(5,vi c),(6,dg sum)]=some (.agg (rcC ⟨v,f,0,0,ro,c,sum⟩).toArray):=by
 rw[qKd zero80 rcPlaces (c:=(rcC rc00).toArray) x8];have B:=qJb (ps:=rcPs) (i:=0) (o:=0) (a:=[]) (r:=vi 0::vi 0::vi 0::vi 0::vi 0::z32.map u8) (u:=vi 0) (v:=vi v) (rest:=[(1,vi f),(4,vi ro),(5,vi c),(6,dg sum)]) rfl rfl rfl;have E:=qJb (ps:=rcPs) (i:=1) (o:=1) (a:=[vi v]) (r:=vi 0::vi 0::vi 0::vi 0::z32.map u8) (u:=vi 0) (v:=vi f) (rest:=[(4,vi ro),(5,vi c),(6,dg sum)]) rfl rfl rfl;have H:=qJb (ps:=rcPs) (i:=4) (o:=4) (a:=[vi v,vi f,vi 0,vi 0]) (r:=vi 0::z32.map u8) (u:=vi 0) (v:=vi ro) (rest:=[(5,vi c),(6,dg sum)]) rfl rfl rfl;have I:=qJb (ps:=rcPs) (i:=5) (o:=5) (a:=[vi v,vi f,vi 0,vi 0,vi ro]) (r:=z32.map u8) (u:=vi 0) (v:=vi c) (rest:=[(6,dg sum)]) rfl rfl rfl;have A:=qJv (ps:=rcPs) (i:=6) (o:=6) (n:=32) (a:=[vi v,vi f,vi 0,vi 0,vi ro,vi c]) (m:=z32.map u8) (r:=[]) (vs:=sum.map u8) (rest:=[]) rfl rfl sm (by simp[h]);rw[qXu,zO,zO]at A;exact congrArg (yM vN) ((((B.trans E).trans H).trans I).trans A)
end R
end
section
namespace R
open Aud A
abbrev spC (wd next:Nat)(esv:Value)(oR:Nat)(oM oS nv sv:Value):Array Value:=#[vi wd,vi next,esv,vi oR,oM,oS,nv,sv]
abbrev nil0:Value:=.slice Option.none 0 0
abbrev sbC (bits page:Nat)(k d:Bs):List Value:=[vi bits,vi page]++k.map u8++d.map u8
theorem sbC_len {bits page:Nat}(A:k.length=32)(B:d.length=32):(sbC bits page k d).length=66:=by simp[A,B]
theorem sbC_one (bits page:Nat)(k d:Bs):(sbC bits page k d).all one=true:=by
 rw[List.all_append,List.all_append,qXs,qXs];rfl
theorem sbPlaces:qXh prog 229=some [(0,1),(1,1),(2,32),(34,32)]:=x8
theorem bldSb {bits page:Nat}(A:k.length=32)(E:d.length=32):bldO prog 229 [(0,vi bits),(1,vi page),(2,dg k),(3,dg d)]=some (.agg (sbC bits page k d).toArray):=by
 rw[qKd zero229 sbPlaces (c:=(sbC 0 0 z32 z32).toArray) x8];have H:=qJb (ps:=fun i=>[(0,1),(1,1),(2,32),(34,32)][i]?) (i:=0) (o:=0) (a:=[]) (r:=(sbC 0 0 z32 z32).drop 1) (u:=vi 0) (v:=vi bits) (rest:=[(1,vi page),(2,dg k),(3,dg d)]) rfl rfl rfl;have I:=qJb (ps:=fun i=>[(0,1),(1,1),(2,32),(34,32)][i]?) (i:=1) (o:=1) (a:=[vi bits]) (r:=(sbC 0 0 z32 z32).drop 2) (u:=vi 0) (v:=vi page) (rest:=[(2,dg k),(3,dg d)]) rfl rfl rfl;have J:=qJv (ps:=fun i=>[(0,1),(1,1),(2,32),(34,32)][i]?) (i:=2) (o:=2) (n:=32) (a:=[vi bits,vi page]) (m:=z32.map u8) (r:=z32.map u8) (vs:=k.map u8) (rest:=[(3,dg d)]) rfl rfl sm (by simp[A]);have B:=qJv (ps:=fun i=>[(0,1),(1,1),(2,32),(34,32)][i]?) (i:=3) (o:=34) (n:=32) (a:=[vi bits,vi page]++k.map u8) (m:=z32.map u8) (r:=[]) (vs:=d.map u8) (rest:=[]) rfl (by simp[A]) sm (by simp[E]);rw[qXu,zO,zO]at B;exact congrArg (yM vN) (((H.trans I).trans J).trans B)
end R
end
section
namespace R
open Aud A
def sbR (x:Sb):List Value:=sbC x.bits x.page x.key x.sum
def SbOk (L:List Sb):Prop:=∀ x ∈ L,x.key.length=32/\x.sum.length=32
theorem subs_ok {t:PT}(I:t.Wf n)(B:∀ e ∈ t.ents,e.1.length=32):SbOk (subsL wd n t):=by
 induction t generalizing n with
 | nil=>intro x A;cases A
 | leaf p k v =>
  intro x A;rw[List.mem_singleton.1 A];exact⟨B (k,v) (by simp[PT.ents]),qZv _ _ _⟩
 | br p l r J M =>
  intro x A;obtain⟨_,_,H,_,_,N,O⟩:=I
  rcases List.mem_append.1 A with A | A
  ·rcases List.mem_append.1 A with A | A
   ·exact J N (fun e E=>B e (zW _ E)) x A
   ·exact M O (fun e E=>B e (zV _ E)) x A
  ·rw[List.mem_singleton.1 A]
   refine⟨?_,qZv _ _ _⟩;show (headK (l.ents++r.ents)).length=32;have B:∀ e ∈ l.ents++r.ents,e.1.length=32:=B;have H:2<=(l.ents++r.ents).length:=by rw[lAp];exact H
   cases E:l.ents++r.ents with
   | nil=>rw[E]at H;simp at H
   | cons e R=>rw[E]at B;exact B e sm
theorem sb_rd {L:List Sb}(h:RdR w 66 v (L.map sbR))(N:SbOk L)(hi:i<L.length):∃ b o cap, v=.slice (some ⟨b, o, Option.none⟩) L.length cap/\L.length<=cap /\
  ∀ w',No w w'->rdO prog 3 w' b (o+i*66)=some (vi L[i].bits)/\rdO prog 3 w' b (o+i*66+1)=some (vi L[i].page)/\rdO prog 76 w' b (o+i*66+2)=some (dg L[i].key)/\rdO prog 75 w' b (o+i*66+34)=some (dg L[i].sum)/\rdO prog 229 w' b (o+i*66)=some (.agg (sbR L[i]).toArray):=by
 have A:i<(L.map sbR).length:=by simpa using hi
 have E:(L.map sbR)[i]=sbR L[i]:=List.getElem_map ..;obtain⟨B,H⟩:=N L[i] (jT hi);obtain⟨b,o,cap,rfl,J⟩:=h.pos x9 om;rw[zB]at J;refine⟨b,o,cap,by rw[zB],J,fun w' f=>?_⟩;have I:=h.fr0 f;refine⟨?_,?_,?_,?_,?_⟩
 ·have:=I.fld (P:=prog) (t:=3) agg3 A (j:=0) x9 (x:=vi L[i].bits) (by rw[E];rfl)
  rwa [yF]at this
 ·exact I.fld (P:=prog) (t:=3) agg3 A (j:=1) x9 (by rw[E];rfl)
 ·exact I.sub (P:=prog) agg76 sz76 x9 A (j:=2) x9 (xs:=L[i].key.map u8) (by simp[B]) fun q M=>by
   rw[E,sbR,sbC,zJ,z4 sm,zR (by simp[B,M])]
   simp
 ·exact I.sub (P:=prog) agg75 sz75 x9 A (j:=34) x9 (xs:=L[i].sum.map u8) (by simp[H]) fun q M=>by
   rw[E,sbR,sbC,z4 (by simp[B])]
   congr 1
   simp[B]
 ·rw[<- E];exact I.get (P:=prog) agg229 sz229 x9 A
section
variable {w:World} {sb wd next oR:Nat} {esv oM oS nv sv:Value} {L:List Sb}
def fdI (w0:World)(sb n A B:Nat)(k:Bs)(L:List Sb)(m:Nat)(vs:List Value)(w:World):Prop :=
 ∃ (i:Nat),vs=[pt sb 0,.int .i64 (n:Nat),pt A 0,pt B 0,.int .i64 (i:Nat)]/\i<=L.length/\m=L.length - i/\(L.take i).find? (fun x=>decide (x.bits=n/\n<=common x.key k))=none/\w.heap[A]?=some (.cells (bl k) 76 (0,0))/\w.heap[B]?=some (.cells (bl (zK 32 0)) 75 (0,0))/\No w0 w
theorem find_take {α:Type}{L:List α}{p:α->Bool}(hi:i<L.length)(h:(L.take i).find? p=none):(p L[i]=true->L.find? p=some L[i])/\(p L[i]=false->(L.take (i+1)).find? p=none):=by
 constructor
 ·intro A
  conv=>lhs;rw[<- List.take_append_drop i L]
  rw[List.find?_append,h,Option.none_or,List.drop_eq_getElem_cons hi,List.find?_cons_of_pos A]
 ·intro A
  rw[tSg hi,List.find?_append,h,Option.none_or];simp[A]
theorem found10 (hk:w.heap[sb]?=some (.cells (spC wd next esv oR oM oS nv sv) 187 (0, 0)))(he:RdD w esv (empts wd 257))(hS:RdR w 66 oS (L.map sbR))(hL:SbOk L)(b7:L.length<=2 ^ 40)(M:k.length=32)(hn:n<=256) :
  Fn prog 137 #[pt sb 0,dg k,.int .i64 (n:Nat)] w fun v w'=>v=.tuple #[vi (foundL wd L k n).1,dg (foundL wd L k n).2]/\No w w':=by
 refine go137 sm ?_;obtain⟨W,hW,f1,k1,k2,s1⟩:=qZz w (bl k) 76 (bl (zK 32 0)) 75;obtain⟨oa,oc,rfl,b8⟩:=hS.slice;rw[zB]at *;simp -implicitDefEqProofs only[go_sem,yJ,vH,yN,jY,qQk,Tryz.f137,hW];refine loopD [0,2,4,7,8] (fdI w sb n w.heap.size (w.heap.size+1) k L) L.length ⟨0,rfl,om,rfl,rfl,k1,k2,f1⟩ ?_;rintro _ vs A g ⟨i,rfl,hi,rfl,O,kk,kr,R⟩;have ks:=R.at hk id;have rS:rdO prog 139 A sb 5=some (.slice oa L.length oc):=rd1 agg139 ks rfl;have Z:rdO prog 139 A.drew sb 5=some (.slice oa L.length oc):=rS;have d1:=natlt i L.length
 by_cases B:i<L.length
 ·rw[decide_eq_true B]at d1
  have y1:=iBd (i:=i) (n:=L.length);have c1:=iSu (i:=i);obtain⟨b,o,cap,e1,_,I⟩:=sb_rd hS hL B;cases e1;obtain⟨r1,r2,r3,r4,_⟩:=I A R;obtain⟨a0,b9,a7,c0,_⟩:=I A.drew R.drew;have rk:=rd_d agg76 sz76 kk M;have a8:rdO prog 76 A.drew w.heap.size 0=_:=rk;have U:=find_take B O;obtain⟨a9,a3⟩:=hL L[i] (jT B);have N:=nateq L[i].bits n;generalize c3:L[i]=x at *
  by_cases hb:x.bits=n
  ·rw[decide_eq_true hb]at N
   simp -implicitDefEqProofs only[go_sem,yJ,vH,bSe,jY,yF,rS,Z,y1,and_self,iTn,a0,N,a7,a8];refine qQa pl169 ((common3 A.drew a9 M).mono ?_);rintro _ Y ⟨rfl,f3⟩;have E:No A Y:=(Fr.refl _ _).drew.trans f3;have J:=R.trans E
   have dc:decide (((common x.key k:Nat):Int) ≥ (n:Int))=decide (n<=common x.key k):=by
    by_cases h:n<=common x.key k
    ·rw[decide_eq_true h];exact decide_eq_true om
    ·rw[decide_eq_false h];exact decide_eq_false om
   by_cases hc:n<=common x.key k
   ·rw[decide_eq_true hc]at dc
    have hF:=U.1 (decide_eq_true ⟨hb,hc⟩);have V:foundL wd L k n=(x.page,x.sum):=by unfold foundL;rw[hF]
    have b0:=E.at ks id;have b1:rdO prog 139 Y sb 5=some (.slice (some ⟨b,o,.none⟩) L.length oc):=rd1 agg139 b0 rfl;have a4:rdO prog 139 Y.drew sb 5=some (.slice (some ⟨b,o,.none⟩) L.length oc):=b1;obtain⟨_,q2,_,q4,_⟩:=I Y J;obtain⟨_,b3,_,b4,_⟩:=I Y.drew J.drew;have H:Y.drew.heap[w.heap.size+1]?=_:=E.at kr id;have qw:=wr_d sz75 H zl32 a3;have qr:=rd_d agg75 sz75 (qQd (o:=.cells (bl x.sum) 75 (0,0)) H) a3;rw[V];simp -implicitDefEqProofs only[go_sem,yJ,vH,bSe,jY,dc,a4,y1,and_self,iTn,b3,b4,qw,qr];exact J.drew.put (b:=w.heap.size+1) _ fun h=>by omega
   ·rw[decide_eq_false hc]at dc
    have hF:=U.2 (decide_eq_false fun h=>hc h.2);simp -implicitDefEqProofs only[go_sem,yJ,bSe,dc,c1];exact⟨L.length - (i+1),om,i+1,rfl,om,rfl,hF,E.at kk id,E.at kr id,J⟩
  ·rw[decide_eq_false hb]at N
   have hF:=U.2 (decide_eq_false fun h=>hb h.1);simp -implicitDefEqProofs only[go_sem,yJ,vH,qQx,jY,yF,rS,Z,y1,and_self,iTn,a0,N,c1];exact⟨L.length - (i+1),om,i+1,rfl,om,rfl,hF,kk,kr,R.drew⟩
 ·rw[decide_eq_false B]at d1
  rw[zG om]at O;have V:foundL wd L k n=(0,emptD wd (256 - n)):=by unfold foundL;rw[O]
  have a5:=he.fr0 R;obtain⟨N,eo,ec,rfl,_,_⟩:=a5.pos (by rw[qQz];decide);have re:=a5.get (P:=prog) agg75 sz75 (i:=256 - n) (by rw[qQz];omega);rw[gDq,qVe (wd:Int) 257 om,kM]at re;have b5:rdO prog 75 A.drew N (eo+(256 - n)*32)=_:=re;have rE:rdO prog 71 A sb 2=some (.slice (some ⟨N,eo,.none⟩) (empts wd 257).length ec):=rd1 agg71 ks rfl;have b6:rdO prog 71 A.drew sb 2=some (.slice (some ⟨N,eo,.none⟩) (empts wd 257).length ec):=rE;have c2:IntKind.i64.wrap (256 - (n:Int))=((256 - n:Nat):Int):=qXr (a:=256) om om;have y2:(0:Int)<=((256 - n:Nat):Int)/\((256 - n:Nat):Int)<(((empts wd 257).length:Nat):Int):=by rw[qQz];omega
  have a6:(emptD wd (256 - n)).length=32:=qQv _ _;have H:A.drew.heap[w.heap.size+1]?=_:=kr;have qw:=wr_d sz75 H zl32 a6;have qr:=rd_d agg75 sz75 (qQd (o:=.cells (bl (emptD wd (256 - n))) 75 (0,0)) H) a6;rw[V];simp -implicitDefEqProofs only[go_sem,yJ,vH,jY,d1,rS,b6,c2,y2,and_self,iTn,b5,qw,qr];exact And.intro rfl (R.drew.put (b:=w.heap.size+1) _ fun h=>by omega)
def lfC (a:Option Sb):List Value:=match a with
 | none=>[.int .i64 (-1),.int .i64 0]++z32.map u8++z32.map u8
 | some x=>sbR x
theorem lfC_len {a:Option Sb}(h:∀ x,a=some x->x.key.length=32/\x.sum.length=32):(lfC a).length=66:=by
 cases a with
 | none=>rfl
 | some x=>exact sbC_len (h x rfl).1 (h x rfl).2
theorem lfC_one (a:Option Sb):(lfC a).all one=true:=by
 cases a with
 | none=>rfl
 | some x=>exact sbC_one _ _ _ _
def lfBits (a:Option Sb):Int:=match a with
 | none => -1
 | some x=>(x.bits:Nat)
theorem lfC_bits (a:Option Sb):(lfC a)[0]?=some (.int .i64 (lfBits a)):=by cases a <;> rfl
theorem bldSb0:bldO prog 229 [(0,.int .i64 (-1))]=some (.agg (lfC none).toArray):=by
 rw[qKd zero229 sbPlaces (c:=(sbC 0 0 z32 z32).toArray) x8];have A:=qJb (ps:=fun i=>[(0,1),(1,1),(2,32),(34,32)][i]?) (i:=0) (o:=0) (a:=[]) (r:=(sbC 0 0 z32 z32).drop 1) (u:=vi 0) (v:=.int .i64 (-1)) (rest:=[]) rfl rfl rfl;rw[qXu]at A;exact congrArg (yM vN) A
def lfI (w0:World)(sb A B E:Nat)(k:Bs)(L:List Sb)(m:Nat)(vs:List Value)(w:World):Prop :=
 ∃ (i:Nat),vs=[pt sb 0,pt A 0,pt B 0,pt E 0,.int .i64 (i:Nat)]/\i<=L.length/\m=L.length - i/\w.heap[A]?=some (.cells (bl k) 76 (0,0))/\w.heap[B]?=some (.cells (sbC 0 0 z32 z32).toArray 229 (0,0))/\w.heap[E]?=some (.cells (lfC ((L.take i).foldl (lfS k) none)).toArray 229 (0,0))/\No w0 w
theorem lfS_of {L:List Sb}(J:SbOk L):∀ (B:List Sb) (a:Option Sb),(∀ x ∈ B,x ∈ L)->(∀ x,a=some x->x ∈ L)->∀ x,B.foldl (lfS k) a=some x->x ∈ L:=by
 intro B
 induction B with
 | nil=>intro a _ E x H;exact E x H
 | cons y B I =>
  intro a h E x H;refine I (lfS k a y) (fun z A=>h z (List.mem_cons_of_mem _ A)) (fun z A=>?_) x H;unfold lfS at A;split at A
  ·cases A;exact h _ sm
  ·exact E z A
theorem leafOf10 (hk:w.heap[sb]?=some (.cells (spC wd next esv oR oM oS nv sv) 187 (0, 0)))(hS:RdR w 66 oS (L.map sbR))(hL:SbOk L)(c0:L.length<=2 ^ 40)(a8:∀ x ∈ L, x.bits<=256)(V:k.length=32) :
  Fn prog 140 #[pt sb 0,dg k] w fun v w'=>v=.agg (lfC (L.foldl (lfS k) none)).toArray/\No w w':=by
 refine go140 sm ?_;have sl:∀ x:Sb,x.key.length=32->x.sum.length=32->(sbR x).toArray.size=66:=fun x h1 h2=>by rw[kG];exact sbC_len h1 h2
 have zl:(sbC 0 0 z32 z32).toArray.size=66:=rfl;have zz:(sbC 0 0 z32 z32).toArray=#[.int .i64 0,.int .i64 0]++bl (zK 64 0):=rfl;have hz:=zero229;obtain⟨W,hW,f1,k1,k2,s1⟩:=qZz w (bl k) 76 (sbC 0 0 z32 z32).toArray 229;obtain⟨W2,a0,f2,k3,s2⟩:=qQl W (sbC 0 0 z32 z32).toArray 229;have lz:(lfC none).toArray.size=66:=rfl;have q2:wrO prog 229 W2 W.heap.size 0 (.agg (lfC none).toArray)=some (put W2 W.heap.size (.cells (lfC none).toArray 229 (0,0))):=qQr (by rw[lz];exact sz229) k3 (by rw[zl,lz]) (by rw[<- kU];exact lfC_one none);have k4:=qQd (o:=.cells (lfC none).toArray 229 (0,0)) k3;have f3:No W (put W2 W.heap.size (.cells (lfC none).toArray 229 (0,0))):=f2.put (b:=W.heap.size) _ fun h=>by omega
 have a9:=f3.at k1 id;have b1:=f3.at k2 id;have b3:=f1.trans f3;obtain⟨oa,oc,rfl,c3⟩:=hS.slice;rw[zB]at *;have b0:=bldSb0;rw[zz]at hW a0;simp -implicitDefEqProofs only[go_sem,yJ,yN,jY,qQk,Tryz.f140,hW,b0,a0,q2];generalize put W2 W.heap.size (.cells (lfC none).toArray 229 (0,0))=w3 at *;refine loopD [0,3,4,5,6] (lfI w sb w.heap.size (w.heap.size+1) W.heap.size k L) L.length ⟨0,rfl,om,rfl,a9,b1,k4,b3⟩ ?_;rintro _ vs H g ⟨i,rfl,hi,rfl,kk,kr,ka,Z⟩;have ks:=Z.at hk id;have rS:rdO prog 139 H sb 5=some (.slice oa L.length oc):=rd1 agg139 ks rfl;have a3:=lfS_of (k:=k) hL (L.take i) none (fun x hx=>List.mem_of_mem_take hx) (fun x h=>by cases h)
 have E:i<L.length->(L.take (i+1)).foldl (lfS k) none=lfS k ((L.take i).foldl (lfS k) none) (L.getD i ⟨0,0,[],[]⟩):=fun h=>by
  rw[tSg h,List.foldl_append,qQt _ h];rfl
 have I:i=L.length->L.foldl (lfS k) none=(L.take i).foldl (lfS k) none:=fun h=>by rw[h,kK]
 generalize hA:(L.take i).foldl (lfS k) none=A at *;have a4:∀ x,A=some x->x.key.length=32/\x.sum.length=32:=fun x h=>hL x (a3 x h);have lA:(lfC A).toArray.size=66:=by rw[kG];exact lfC_len a4
 have d1:=natlt i L.length
 by_cases B:i<L.length
 ·rw[decide_eq_true B]at d1
  have y1:=iBd (i:=i) (n:=L.length);have c1:=iSu (i:=i);obtain⟨b,o,cap,e1,_,b4⟩:=sb_rd hS hL B;cases e1;obtain⟨_,_,_,_,r5⟩:=b4 H Z;obtain⟨M,b5⟩:=hL L[i] (jT B);have c4:=a8 L[i] (jT B);have E:=E B;rw[qQt _ B]at E;generalize c5:L[i]=x at *;have lx:=sl x M b5;obtain⟨W5,a5,f5,k5,s5⟩:=qQl H (sbC 0 0 z32 z32).toArray 229;have q5:wrO prog 229 W5 H.heap.size 0 (.agg (sbR x).toArray)=some (put W5 H.heap.size (.cells (sbR x).toArray 229 (0,0))):=qQr (by rw[lx];exact sz229) k5 (by rw[zl,lx]) (by rw[<- kU];exact sbC_one _ _ _ _);have k6:=qQd (o:=.cells (sbR x).toArray 229 (0,0)) k5;have f6:No H (put W5 H.heap.size (.cells (sbR x).toArray 229 (0,0))):=f5.put (b:=H.heap.size) _ fun h=>by omega
  have c6:=qQh kk;have c7:=qQh kr;have c8:=qQh ka;rw[zz]at a5;simp -implicitDefEqProofs only[go_sem,yJ,vH,yN,jY,qQk,rS,y1,and_self,decide_true,iTn,r5,a5,q5];generalize put W5 H.heap.size (.cells (sbR x).toArray 229 (0,0))=w6 at *;refine qXl (fun j=>j == 9) (.row [0,2,1,3,4,5,6,10,7,8,11,9,12,13]) rfl x8 x8 ?_;have J:No H w6.drew:=f6.drew;have k6:w6.drew.heap[H.heap.size]?=_:=k6;generalize w6.drew=w7 at *;have N:=J.at kk id;have Y:=J.at kr id;have O:=J.at ka id;have rb:rdO prog 3 w7 H.heap.size 0=some (.int .i64 (x.bits:Nat)):=rd1 agg3 k6 rfl
  have b6:rdO prog 76 w7 H.heap.size 2=some (dg x.key):=by
   have:=rd_rcs (P:=prog) (w:=w7) (b:=H.heap.size) (o:=2) agg76 sz76 (vs:=(x.key.map u8).toArray) (by simp[M]) x9 (fun j hj=>by
    rw[qXe k6,xI,xI,sbR,sbC,zJ,z4 sm,zR (by simp[M,hj])]
    simp)
   exact this
  have ra:rdO prog 3 w7 W.heap.size 0=some (.int .i64 (lfBits A)):=rd1 agg3 O (by rw[xI];exact lfC_bits A);have rk:=rd_d agg76 sz76 N V
  have R:decide ((x.bits:Int) > lfBits A)=decide (∀ y,A=some y->y.bits<x.bits):=by
   cases A with
   | none=>exact (decide_eq_true (show (-1:Int)<(x.bits:Int) by omega)).trans (decide_eq_true (fun y h=>by cases h)).symm
   | some y =>
    by_cases B:y.bits<x.bits
    ·exact (decide_eq_true (show ((y.bits:Nat):Int)<(x.bits:Int) by omega)).trans (decide_eq_true (fun z h=>by cases h;exact B)).symm
    ·exact (decide_eq_false (show ¬ ((y.bits:Nat):Int)<(x.bits:Int) by omega)).trans (decide_eq_false (fun h=>B (h y rfl))).symm
  by_cases hg:∀ y,A=some y->y.bits<x.bits
  ·rw[decide_eq_true hg]at R
   simp -implicitDefEqProofs only[go_sem,yJ,yY,bSe,jY,OT.row,rb,ra,R,b6,rk];refine qQe pl169 ((common3 w7 M V).mono ?_);rintro _ w8 ⟨rfl,U⟩;refine⟨fun _=>Fr.ext U,?_⟩;have a6:=J.trans U
   have dc:decide (((common x.key k:Nat):Int) ≥ ((x.bits:Nat):Int))=decide (x.bits<=common x.key k):=by
    by_cases h:x.bits<=common x.key k
    ·rw[decide_eq_true h];exact decide_eq_true om
    ·rw[decide_eq_false h];exact decide_eq_false om
   by_cases hc:x.bits<=common x.key k
   ·rw[decide_eq_true hc]at dc
    have hF:lfS k A x=some x:=by unfold lfS;rw[if_pos ⟨hg,hc⟩]
    rw[hF]at E;have b7:=U.at k6 id;have a7:=U.at O id;have l8:=qQp (P:=prog) (t:=229) agg229 sz229 b7 lx;have q8:wrO prog 229 w8 W.heap.size 0 (.agg (sbR x).toArray)=some (put w8 W.heap.size (.cells (sbR x).toArray 229 (0,0))):=qQr (by rw[lx];exact sz229) a7 (by rw[lA,lx]) (by rw[<- kU];exact sbC_one _ _ _ _);have k9:=qQd (o:=.cells (sbR x).toArray 229 (0,0)) a7;have b8:=qQi (b:=W.heap.size) (o:=.cells (sbR x).toArray 229 (0,0)) (U.at N id) om;have b9:=qQi (b:=W.heap.size) (o:=.cells (sbR x).toArray 229 (0,0)) (U.at Y id) om;simp -implicitDefEqProofs only[go_sem,yJ,yY,bSe,dc,l8,q8,c1];exact⟨L.length - (i+1),om,i+1,rfl,om,rfl,b8,b9,by rw[E];exact k9,(Z.trans a6).put (b:=W.heap.size) _ fun h=>by have:=f1.size;omega⟩
   ·rw[decide_eq_false hc]at dc
    have hF:lfS k A x=A:=by unfold lfS;rw[if_neg fun h=>hc h.2]
    rw[hF]at E;simp -implicitDefEqProofs only[go_sem,yJ,yY,bSe,dc,c1];exact⟨L.length - (i+1),om,i+1,rfl,om,rfl,U.at N id,U.at Y id,by rw[E];exact U.at O id,Z.trans a6⟩
  ·rw[decide_eq_false hg]at R
   have hF:lfS k A x=A:=by unfold lfS;rw[if_neg fun h=>hg h.1]
   rw[hF]at E;simp -implicitDefEqProofs only[go_sem,yJ,yY,qQx,jY,OT.row,rb,ra,R,c1];exact⟨L.length - (i+1),om,i+1,rfl,om,rfl,N,Y,by rw[E];exact O,Z.trans J⟩
 ·rw[decide_eq_false B]at d1
  have e:i=L.length:=om
  have I:=I e;have l8:=qQp (P:=prog) (t:=229) agg229 sz229 ka lA;have q8:wrO prog 229 H (w.heap.size+1) 0 (.agg (lfC A).toArray)=some (put H (w.heap.size+1) (.cells (lfC A).toArray 229 (0,0))):=qQr (by rw[lA];exact sz229) kr (by rw[zl,lA]) (by rw[<- kU];exact lfC_one _);have k9:=qQd (o:=.cells (lfC A).toArray 229 (0,0)) kr;have l9:=qQp (P:=prog) (t:=229) agg229 sz229 k9 lA;rw[I];simp -implicitDefEqProofs only[go_sem,yJ,vH,jY,d1,rS,l8,q8,l9];exact Z.put (b:=w.heap.size+1) _ fun h=>by omega
end
end R
end
section
namespace R
open Aud A
def StF (w0 w:World)(b:Nat):Prop:=w0.heap.size<=b/\∃ c t fz,w.heap[b]?=some (.cells c t fz)/\(t=78∨t=229∨t=187)
theorem StF.trans {w0 w w1 A:World}(h:Fr (StF w0 w) w w1)(k:Fr (StF w0 w1) w1 A):Fr (StF w0 w) w A :=
 h.trans' k fun b H g=>Classical.byContradiction fun B=>B (by
  obtain⟨I,c,t,fz,E,J⟩:=g;rw[h.blk b H B]at E
  exact⟨I,c,t,fz,E,J⟩)
theorem StF.of (w0:World)(h:No w w1):Fr (StF w0 w) w w1:=h.mono fun _ _ h=>h.elim
theorem StF.no (f:No w0 w)(h:Fr (StF w0 w) w w1):No w0 w1:=f.trans' h fun b A g=>by have:=g.1;omega
theorem StF.at {w0 w w1:World}(h:Fr (StF w0 w) w w1){b:Nat}{c:Array Value}{t:TypeId}{fz:Nat × Nat}(A:w.heap[b]?=some (.cells c t fz))(E:¬ (t=78∨t=229∨t=187)):w1.heap[b]?=some (.cells c t fz) :=
 h.at A fun g=>by
  obtain⟨_,c',J,H,B,I⟩:=g;rw[A]at B;cases B;exact E I
def NdWide:Nd->Prop
 | .leaf k v=>k.length=32/\v.length<=128
 | .br A B lc rc ls rs=>(A<2 ^ 50/\B<2 ^ 50/\lc<2 ^ 50/\rc<2 ^ 50)/\ls.length=32/\rs.length=32
theorem wide_len {n:Nd}(h:NdWide n)(vv:Value):(ndA n vv).length=102:=by
 cases n with
 | leaf k v=>exact qXf z32l z32l h.1 vv
 | br A B lc rc ls rs=>exact qXf h.2.1 h.2.2 z32l vv
theorem ndA_1 (n:Nd)(h:one vv=true):(ndA n vv).all one=true:=by cases n <;> exact qZy _ _ _ _ _ _ _ _ h
def NdRows (w0:World)(rows:Rows)(ns:List Nd):Prop:=rows.length=ns.length/\∀ i (h:i<rows.length) (A:i<ns.length),∃ vv,rows[i]=ndA ns[i] vv/\one vv=true/\By w0 vv (ndVal ns[i])/\(ns[i].kind=2->vv=nil0)/\NdWide ns[i]
theorem NdRows.push {rows:Rows}{ns:List Nd}(h:NdRows w0 rows ns){n:Nd}(B:one vv=true)(E:By w0 vv (ndVal n))(H:n.kind=2->vv=nil0)(I:NdWide n):NdRows w0 (rows++[ndA n vv]) (ns++[n]):=by
 obtain⟨A,J⟩:=h;refine⟨by simp[A],fun i a b=>?_⟩
 by_cases hi:i<rows.length
 ·obtain⟨x,M,N⟩:=J i hi om
  have e:(ns++[n])[i]=ns[i]'om:=jQ om;rw[e];exact⟨x,by rw[jQ hi];exact M,N⟩
 ·obtain rfl:i=rows.length:=by simp at a;omega
  have e:(ns++[n])[rows.length]'b=n:=by simp[A]
  rw[e];exact⟨vv,sm,B,E,H,I⟩
def SpM (u w0 w:World)(sb wd next:Nat)(esv:Value)(oR:Nat)(oM oS:Value)(ns:List Nd)(ss:List Sb):Prop :=
 ∃ nv sv rows,w.heap[sb]?=some (.cells (spC wd next esv oR oM oS nv sv) 187 (0,0))/\one nv=true/\one sv=true/\NwR w0 w 78 102 nv rows/\NdRows u rows ns/\NwR w0 w 229 66 sv (ss.map sbR)
section
variable {u w0 w w':World} {sb wd next oR:Nat} {esv oM oS:Value} {ns:List Nd} {ss:List Sb}
theorem SpM.fr0 (h:SpM u w0 w sb wd next esv oR oM oS ns ss)(f:No w w'):SpM u w0 w' sb wd next esv oR oM oS ns ss:=by
 obtain⟨nv,sv,rows,A,B,E,H,I,J⟩:=h;exact⟨nv,sv,rows,f.at A id,B,E,H.fr0 f,I,J.fr0 f⟩
theorem staged10 (h:SpM u w0 w sb wd next esv oR oM oS ns ss)(hsb:w0.heap.size<=sb)(a4:No w0 w)(hx:next<2 ^ 60)(b0:ns.length<=2 ^ 38){n:Nd}(hn:NdWide n)(ov:one vv=true)(hv:By u vv (ndVal n))(a5:n.kind=2->vv=nil0) :
  Fn prog 142 #[pt sb 0,.agg (ndA n vv).toArray] w fun v w'=>v=vi next/\Fr (StF w0 w) w w'/\SpM u w0 w' sb wd (next+1) esv oR oM oS (ns++[n]) ss:=by
 refine go142 sm ?_;obtain⟨nv,sv,rows,hk,b1,a6,hN,hR,hS⟩:=h;have nl:=wide_len hn vv;have b3:=hR.1;obtain⟨W,hW,U,k0,s0⟩:=qQl w (ndA n vv).toArray 78;simp -implicitDefEqProofs only[go_sem,yJ,yN,jY,Tryz.f142,hW];refine qXl (fun j=>j == 6) (.row [0,1,2,3,4,5,6,7,8,9,10]) rfl x8 x8 ?_;have U:=U.drew;have k0:W.drew.heap[w.heap.size]?=_:=k0;have s0:W.drew.heap.size=w.heap.size+1:=s0;generalize W.drew=W at *;have ks:=U.at hk id;have r6:rdO prog 88 W sb 6=some nv:=rd1 agg88 ks rfl;have l0:=qQp (P:=prog) (t:=78) agg78 sz78 k0 (by simp[nl]);have M:=hN.fr0 U;have Y:=hS.fr0 U;obtain⟨A,E,a7,b8,g8,m8⟩:=M.push (P:=prog) app88_88 (xs:=ndA n vv) nl (ndA_1 n ov) x9 om om (by have:=a4.size;omega);have o8:one A=true:=by obtain⟨a,c,e,_⟩:=b8.rd.slice;rw[e];rfl
 simp -implicitDefEqProofs only[go_sem,yJ,yY,yN,jY,qQk,OT.row,r6,l0];refine contOT_is (v:=.slice (some ⟨W.heap.size,0,none⟩) 1 1) (w':=W.alloc (.cells (ndA n vv).toArray 78)) (qXb (K:=102) x9 x9 (y:=nd0) (qXf z32l z32l z32l _) (by simp[]) (by simp[nl]) _) (fun _=>((Fr.refl (fun _=>False) _).alloc _).ext) ?_;simp -implicitDefEqProofs only[go_sem,yJ];refine qZm ⟨A,E,a7,?_⟩;refine⟨(fun h=>by cases h),?_⟩;have N:∀ b,qQc nv=some b->∃ c,W.heap[b]?=some (.cells c 78 (0,0)):=fun b H=>qXa M H
 have a8:Fr (StF w0 W) W E:=g8.mono fun b _ e=>⟨M.2.new b e,by obtain⟨c,B⟩:=N b e;exact⟨c,_,_,B,.inl rfl⟩⟩
 have hne:∀ b,qQc nv=some b->b≠sb:=fun b H e=>by
  obtain⟨c,B⟩:=N b H;rw[e,ks]at B;cases B
 have Z:=g8.at ks fun e=>hne sb e rfl
 have a0:NwR w0 E 229 66 sv (ss.map sbR):=Y.fr g8 fun b H e=>by
  obtain⟨c,B⟩:=N b e;obtain⟨c',a3⟩:=qXa Y H;rw[B]at a3;cases a3
 have q8:wrO prog 88 E sb 6 A=some (put E sb (.cells (spC wd next esv oR oM oS A sv) 187 (0,0))):=wr1 sz88 o8 Z (show 6<8 by decide);have k9:=qQd (o:=.cells (spC wd next esv oR oM oS A sv) 187 (0,0)) Z
 have I:∀ b,qQc A=some b->b≠sb:=fun b H e=>by
  obtain⟨c,B⟩:=qXa b8 H;rw[e,Z]at B;cases B
 have J:∀ b,qQc sv=some b->b≠sb:=fun b H e=>by
  obtain⟨c,B⟩:=qXa a0 H;rw[e,Z]at B;cases B
 have sF:∀ {wa:World} {ca:Array Value},wa.heap[sb]?=some (.cells ca 187 (0,0))->StF w0 wa sb:=fun h=>⟨hsb,_,_,_,h,.inr (.inr rfl)⟩
 have O:Fr (fun b=>b=sb) E (put E sb (.cells (spC wd next esv oR oM oS A sv) 187 (0,0))):=(Fr.refl _ _).put (b:=sb) _ fun _=>rfl;have b9:=b8.fr O I;have a9:=a0.fr O J;have F9:Fr (StF w0 w) w (put E sb (.cells (spC wd next esv oR oM oS A sv) 187 (0,0))):=StF.trans (StF.trans (StF.of w0 U) a8) (O.mono fun b _ e=>by rw[e];exact sF Z);simp -implicitDefEqProofs only[go_sem,yJ,yY,jY,q8];generalize put E sb (.cells (spC wd next esv oR oM oS A sv) 187 (0,0))=V at *;have r1:rdO prog 3 V sb 1=some (vi next):=rd1 agg3 k9 rfl;have c1:=iSu (i:=next);have c2:IntKind.i64.wrap (((next+1:Nat):Int) - 1)=((next:Nat):Int):=by rw[qQq om om];omega
 have q1:wrO prog 3 V sb 1 (vi (next+1))=some (put V sb (.cells (spC wd (next+1) esv oR oM oS A sv) 187 (0,0))):=wr1 sz3 rfl k9 (show 1<8 by decide);have ka:=qQd (o:=.cells (spC wd (next+1) esv oR oM oS A sv) 187 (0,0)) k9;have ra:rdO prog 3 (put V sb (.cells (spC wd (next+1) esv oR oM oS A sv) 187 (0,0))) sb 1=some (vi (next+1)):=rd1 agg3 ka rfl;have R:Fr (fun b=>b=sb) V (put V sb (.cells (spC wd (next+1) esv oR oM oS A sv) 187 (0,0))):=(Fr.refl _ _).put (b:=sb) _ fun _=>rfl;simp -implicitDefEqProofs only[go_sem,yJ,jY,r1,c1,q1,ra,c2];exact And.intro (StF.trans F9 (R.mono fun b _ e=>by rw[e];exact sF k9)) ⟨A,sv,_,ka,o8,a6,b9.fr R I,hR.push ov hv a5 hn,a9.fr R J⟩
theorem SpM.pushS (h:SpM u w0 w sb wd next esv oR oM oS ns ss)(hsb:w0.heap.size<=sb)(V:No w0 w)(a4:ss.length<=2 ^ 38){x:Sb}(h1:x.key.length=32)(h2:x.sum.length=32):∃ sv E A, rdO prog 139 w sb 7=some sv /\
  (Builtin.append_ #[139,139] 0 #[sv,.slice (some ⟨w.heap.size,0,none⟩) 1 1]).run prog (w.alloc (.cells (sbR x).toArray 229))=.ok E A /\
  ∃ cs,A.heap[sb]?=some (.cells cs 187 (0,0))/\∃ W,wrO prog 139 A sb 7 E=some (put A sb W)/\Fr (StF w0 w) w (put A sb W)/\SpM u w0 (put A sb W) sb wd next esv oR oM oS ns (ss++[x]):=by
 obtain⟨nv,sv,rows,Y,Z,a5,hN,hR,hS⟩:=h;obtain⟨E,A,a0,b8,g8,m8⟩:=hS.push (P:=prog) app139_139 (xs:=sbR x) (sbC_len h1 h2) (sbC_one _ _ _ _) x9 (by rw[zB];omega) (by rw[zB];omega) V.size;have o8:one E=true:=by obtain⟨a,c,e,_⟩:=b8.rd.slice;rw[e];rfl
 have H:∀ b,qQc sv=some b->∃ c,w.heap[b]?=some (.cells c 229 (0,0)):=fun b I=>qXa hS I
 have a3:Fr (StF w0 w) w A:=g8.mono fun b _ e=>⟨hS.2.new b e,by obtain⟨c,B⟩:=H b e;exact⟨c,_,_,B,.inr (.inl rfl)⟩⟩
 have M:=g8.at Y fun e=>by
  obtain⟨c,B⟩:=H sb e;rw[Y]at B;cases B
 have N:NwR w0 A 78 102 nv rows:=hN.fr g8 fun b I e=>by
  obtain⟨c,B⟩:=H b e;obtain⟨c',O⟩:=qXa hN I;rw[B]at O;cases O
 have q8:wrO prog 139 A sb 7 E=some (put A sb (.cells (spC wd next esv oR oM oS nv E) 187 (0,0))):=wr1 sz139 o8 M (show 7<8 by decide);have k9:=qQd (o:=.cells (spC wd next esv oR oM oS nv E) 187 (0,0)) M
 have R:∀ b,qQc E=some b->b≠sb:=fun b I e=>by
  obtain⟨c,B⟩:=qXa b8 I;rw[e,M]at B;cases B
 have U:∀ b,qQc nv=some b->b≠sb:=fun b I e=>by
  obtain⟨c,B⟩:=qXa N I;rw[e,M]at B;cases B
 have J:Fr (fun b=>b=sb) A (put A sb (.cells (spC wd next esv oR oM oS nv E) 187 (0,0))):=(Fr.refl _ _).put (b:=sb) _ fun _=>rfl;refine⟨sv,E,A,rd1 agg139 Y rfl,a0,_,M,_,q8,StF.trans a3 (J.mono fun b _ e=>by rw[e];exact⟨hsb,_,_,_,M,.inr (.inr rfl)⟩),nv,E,rows,k9,Z,o8,N.fr J U,hR,?_⟩;rw[List.map_append];exact b8.fr J R
def kpI (u w0 w1:World)(sb wd next n A oR:Nat)(esv oM oS:Value)(k:Bs)(L:List Sb)(ns:List Nd)(ss:List Sb)(m:Nat)(vs:List Value)(w:World):Prop :=
 ∃ (i:Nat),vs=[pt sb 0,.int .i64 (n:Nat),pt A 0,.int .i64 (i:Nat)]/\i<=L.length/\m=L.length - i/\w.heap[A]?=some (.cells (bl k) 76 (0,0))/\SpM u w0 w sb wd next esv oR oM oS ns (ss++(L.take i).filter (sbU n k))/\Fr (StF w0 w1) w1 w
theorem keeps10 (h:SpM u w0 w sb wd next esv oR oM oS ns ss)(hsb:w0.heap.size<=sb)(a5:No w0 w){L:List Sb}(hS:RdR w0 66 oS (L.map sbR))(hL:SbOk L)(b4:ss.length+L.length<=2 ^ 38)(N:k.length=32)(hn:n<=256) :
  Fn prog 136 #[pt sb 0,dg k,.int .i64 (n:Nat)] w fun _ w'=>Fr (StF w0 w) w w'/\SpM u w0 w' sb wd next esv oR oM oS ns (ss++L.filter (sbU n k)):=by
 refine go136 sm ?_;obtain⟨W,hW,f1,k1,s1⟩:=qQl w (bl k) 76;obtain⟨oa,oc,rfl,b5⟩:=hS.slice;rw[zB]at *;have zz:(sbC 0 0 z32 z32).toArray=#[.int .i64 0,.int .i64 0]++bl (zK 64 0):=rfl;have zl:(sbC 0 0 z32 z32).toArray.size=66:=rfl;simp -implicitDefEqProofs only[go_sem,yJ,vH,yN,jY,Tryz.f136,hW];refine loopD [0,2,4,6] (kpI u w0 w sb wd next n w.heap.size oR esv oM (.slice oa L.length oc) k L ns ss) L.length ⟨0,rfl,om,rfl,k1,by rw[j5,List.filter_nil,zO];exact h.fr0 f1,StF.of w0 f1⟩ ?_;rintro _ vs B g ⟨i,rfl,hi,rfl,U,O,V⟩;have Y:=StF.no a5 V
 have rS:∀ {w5:World} {a6:List Nd} {a7:List Sb},SpM u w0 w5 sb wd next esv oR oM (.slice oa L.length oc) a6 a7->rdO prog 139 w5 sb 5=some (.slice oa L.length oc):=fun O=>by
  obtain⟨_,_,_,ks,_⟩:=O;exact rd1 agg139 ks rfl
 have Z:=rS O
 have A:i<L.length->(L.take (i+1)).filter (sbU n k)=(L.take i).filter (sbU n k)++(if sbU n k (L.getD i ⟨0,0,[],[]⟩)=true then [L.getD i ⟨0,0,[],[]⟩] else []):=fun h=>by
  rw[tSg h,List.filter_append,qQt _ h]
  by_cases I:sbU n k L[i]=true
  ·rw[if_pos I];simp[I]
  ·rw[if_neg I];simp[I]
 have d1:=natlt i L.length
 by_cases E:i<L.length
 ·rw[decide_eq_true E]at d1
  have y1:=iBd (i:=i) (n:=L.length);have c1:=iSu (i:=i);obtain⟨b,o,cap,e1,_,a8⟩:=sb_rd hS hL E;cases e1;obtain⟨_,_,_,_,r5⟩:=a8 B Y;obtain⟨H,a0⟩:=hL L[i] (jT E);have A:=A E;rw[qQt _ E]at A;have a9:=kF (sbU n k) (L.take i);rw[lTk]at a9;generalize b6:L[i]=x at *;have lx:(sbR x).toArray.size=66:=by rw[kG];exact sbC_len H a0
  obtain⟨W5,a3,f5,k5,s5⟩:=qQl B (sbC 0 0 z32 z32).toArray 229;have q5:wrO prog 229 W5 B.heap.size 0 (.agg (sbR x).toArray)=some (put W5 B.heap.size (.cells (sbR x).toArray 229 (0,0))):=qQr (by rw[lx];exact sz229) k5 (by rw[zl,lx]) (by rw[<- kU];exact sbC_one _ _ _ _);have k6:=qQd (o:=.cells (sbR x).toArray 229 (0,0)) k5;have f6:No B (put W5 B.heap.size (.cells (sbR x).toArray 229 (0,0))):=f5.put (b:=B.heap.size) _ fun h=>by omega
  have b7:=qQh U;rw[zz]at a3;simp -implicitDefEqProofs only[go_sem,yJ,vH,yN,jY,qQk,Z,y1,and_self,decide_true,iTn,r5,a3,q5];generalize put W5 B.heap.size (.cells (sbR x).toArray 229 (0,0))=w6 at *;have rb:rdO prog 3 w6 B.heap.size 0=some (.int .i64 (x.bits:Nat)):=rd1 agg3 k6 rfl
  have b0:rdO prog 76 w6 B.heap.size 2=some (dg x.key):=by
   have:=rd_rcs (P:=prog) (w:=w6) (b:=B.heap.size) (o:=2) agg76 sz76 (vs:=(x.key.map u8).toArray) (by simp[H]) x9 (fun j hj=>by
    rw[qXe k6,xI,xI,sbR,sbC,zJ,z4 sm,zR (by simp[H,hj])]
    simp)
   exact this
  have rk:=rd_d agg76 sz76 (f6.at U id) N
  have J:decide (((x.bits:Nat):Int) ≥ (n:Int))=decide (n<=x.bits):=by
   by_cases h:n<=x.bits
   ·rw[decide_eq_true h];exact decide_eq_true om
   ·rw[decide_eq_false h];exact decide_eq_false om
  by_cases hb:n<=x.bits
  ·rw[decide_eq_true hb]at J
   simp -implicitDefEqProofs only[go_sem,yJ,bSe,jY,rb,J,b0,rk];refine qQa pl169 ((common3 w6 H N).mono ?_);rintro _ w7 ⟨rfl,f7⟩
   have dc:decide (((common x.key k:Nat):Int) ≥ (n:Int))=decide (n<=common x.key k):=by
    by_cases h:n<=common x.key k
    ·rw[decide_eq_true h];exact decide_eq_true om
    ·rw[decide_eq_false h];exact decide_eq_false om
   have M:=f6.trans f7
   by_cases hc:n<=common x.key k
   ·rw[decide_eq_true hc]at dc
    have I:sbU n k x=true:=decide_eq_true ⟨hb,hc⟩;rw[if_pos I]at A;simp -implicitDefEqProofs only[go_sem,yJ,bSe,dc];refine qXl (fun j=>j == 6) (.row [0,1,2,3,4,5,6,7,8,9,10]) rfl x8 x8 ?_;have R:No B w7.drew:=M.drew;have k8:w7.drew.heap[B.heap.size]?=_:=f7.at k6 id;generalize w7.drew=w8 at *;have b1:=O.fr0 R;obtain⟨sv,v9,w9,rsv,b3,cs,b8,ob,q9,F9,M9⟩:=b1.pushS hsb (Y.trans R) (by rw[lAp];omega) H a0;have l8:=qQp (P:=prog) (t:=229) agg229 sz229 k8 lx;simp -implicitDefEqProofs only[go_sem,yJ,yY,yN,jY,qQk,OT.row,rsv,l8];refine contOT_is (v:=.slice (some ⟨w8.heap.size,0,none⟩) 1 1) (w':=w8.alloc (.cells (sbR x).toArray 229)) (qXb (K:=66) x9 x9 (y:=[.int .i64 0,.int .i64 0]++(zK 64 (0:Byte)).map u8) (by rfl) (by rfl) lx _) (fun _=>((Fr.refl (fun _=>False) _).alloc _).ext) ?_;simp -implicitDefEqProofs only[go_sem,yJ];refine qZm ⟨v9,w9,b3,?_⟩;refine⟨(fun h=>by cases h),?_⟩;simp -implicitDefEqProofs only[go_sem,yJ,yY,jY,q9,c1];have a4:Fr (StF w0 B) B (put w9 sb ob):=StF.trans (StF.of w0 R) F9;rw[zJ,<- A]at M9;exact⟨L.length - (i+1),om,i+1,rfl,om,rfl,StF.at a4 U x9,M9,StF.trans V a4⟩
   ·rw[decide_eq_false hc]at dc
    have I:¬ sbU n k x=true:=by unfold sbU;rw[decide_eq_true_eq];exact fun h=>hc h.2
    rw[if_neg I,zO]at A;simp -implicitDefEqProofs only[go_sem,yJ,bSe,dc,c1];exact⟨L.length - (i+1),om,i+1,rfl,om,rfl,M.at U id,by rw[A];exact O.fr0 M,StF.trans V (StF.of w0 M)⟩
  ·rw[decide_eq_false hb]at J
   have I:¬ sbU n k x=true:=by unfold sbU;rw[decide_eq_true_eq];exact fun h=>hb h.1
   rw[if_neg I,zO]at A;simp -implicitDefEqProofs only[go_sem,yJ,qQx,rb,J,c1];exact⟨L.length - (i+1),om,i+1,rfl,om,rfl,f6.at U id,by rw[A];exact O.fr0 f6,StF.trans V (StF.of w0 f6)⟩
 ·rw[decide_eq_false E]at d1
  rw[zG om]at O;simp -implicitDefEqProofs only[go_sem,yJ,vH,jY,d1,Z];exact And.intro V O
end
end R
end
section
namespace R
open Aud A
theorem empts_take (wd:Int){m:Nat}(h:m<=257):(empts wd 257).take m=empts wd m:=by
 apply List.ext_getElem?;intro i
 by_cases hi:i<m
 ·rw[List.getElem?_take_of_lt hi,qVe wd 257 om,qVe wd m hi]
 ·rw[vS (by rw[lTk];omega),vS (by rw[qQz];omega)]
def DgQ (wd:Int)(esv:Value)(n:Nat)(m:List En)(D:Bs):Prop:=∀ (w0:World) (mv:Value), Tabs w0->RdD w0 esv (empts wd 257)->EnR w0 mv m ->
  Fn prog 100 #[.int .i64 wd,esv,mv,.int .i64 (n:Nat)] w0 fun v w'=>v=dg D/\No w0 w'
theorem digNil (Y:n<=256):DgQ wd esv n [] (emptD wd (256 - n)):=by
 intro w0 mv Z J M;refine go100 sm ?_;obtain⟨W,N,E,H,s1⟩:=qQl w0 (bl (zK 32 0)) 75;obtain⟨a,cap,rfl,_⟩:=M.slice;have O:(((([]:List En).length:Nat):Int) == 0)=true:=rfl;have A:=J.fr0 E;obtain⟨eb,eo,ec,rfl,_,_⟩:=A.pos (by rw[qQz];decide);have I:=A.get (P:=prog) agg75 sz75 (i:=256 - n) (by rw[qQz];omega);rw[gDq,qVe wd 257 om,kM]at I;have c2:IntKind.i64.wrap (256 - (n:Int))=((256 - n:Nat):Int):=qXr (a:=256) om om;have R:(0:Int)<=((256 - n:Nat):Int)/\((256 - n:Nat):Int)<(((empts wd 257).length:Nat):Int):=by rw[qQz];omega
 have B:(emptD wd (256 - n)).length=32:=qQv _ _;generalize emptD wd (256 - n)=D at *;have U:=wr_d sz75 H zl32 B;have V:=rd_d agg75 sz75 (qQd (o:=.cells (bl D) 75 (0,0)) H) B;simp -implicitDefEqProofs only[go_sem,yJ,vH,yN,jY,qQk,Tryz.f100,N,O,c2,R,and_self,iTn,I,U,V];exact E.put (b:=w0.heap.size) _ fun h=>by omega
theorem digBr (a4:n<256){B E:List En}(h2:2<=B.length+E.length)(hl:B.length+E.length<=2 ^ 40)(hM:Map n (B++E))(fl:(B++E).filter (fun x=>!kbit x.1 n)=B){Y Z:Bs}(O:Y.length=32)(R:Z.length=32)
  (hL:DgQ wd esv (n+1) B Y) (hR:DgQ wd esv (n+1) E Z):DgQ wd esv n (B++E) (qXd wd Y Z):=by
 intro w0 mv ht he hm;have H:(B++E).length=B.length+E.length:=lAp;refine go100 sm ?_;obtain⟨W,hW,f1,k1,s1⟩:=qQl w0 (bl (zK 32 0)) 75;obtain⟨a,cap,rfl,I⟩:=hm.slice;rw[H]at I
 have U:∀ w,No w0 w->EnR w (.slice a (B.length+E.length) cap) (B++E):=fun w f=>by
  have:=hm.fr0 f
  rwa [H]at this
 have d1:(((B.length+E.length:Nat):Int) == 0)=false:=(nateq (B.length+E.length) 0).trans (decide_eq_false om);have d2:(((B.length+E.length:Nat):Int) == 1)=false:=(nateq (B.length+E.length) 1).trans (decide_eq_false om);have lb:(qXd wd Y Z).length=32:=qXm _ _ _;have a0:=fun {w:World} (h:EnR w (.slice a (B.length+E.length) cap) (B++E))=>split w h hM a4 (by rw[H];omega);rw[fl]at a0;rw[H];generalize hN:B.length+E.length=N at *;simp -implicitDefEqProofs only[go_sem,yJ,vH,yN,jY,qQk,Tryz.f100,hW,d1,d2];refine qQa pl143 ((a0 (U W f1)).mono ?_);rintro _ w2 ⟨rfl,f2⟩;have J:=f1.trans f2;have p1:=slc_hi (P:=prog) slc84 arr84 sz83 (a:=a) (n:=N) (cap:=cap) (l:=B.length) om I;have p2:=slc_lo (P:=prog) slc84 arr84 sz83 (a:=a) (n:=N) (cap:=cap) (l:=B.length) om I
 have h1:∀ w,No w0 w->EnR w (V.cutV 33 a cap 0 B.length) B:=fun w f=>by
  have:=(U w f).cutV (l:=0) (m:=B.length) om om H
  rwa [List.drop_zero,yW,zF (xC _),kK]at this
 have a5:∀ w,No w0 w->EnR w (V.cutV 33 a cap B.length N) E:=fun w f=>by
  have:=(U w f).cutV (l:=B.length) (m:=N) om om H
  rwa [zM (xC _),List.drop_length,zL,zG om]at this
 have c3:=iSu (i:=n);simp -implicitDefEqProofs only[go_sem,yJ,p1,c3];refine qQa pl100 ((hL _ _ (ht.no J) (he.fr0 J) (h1 w2 J)).mono ?_);rintro _ w3 ⟨rfl,f3⟩;obtain⟨W4,q4,k4,f4,s4⟩:=A.allocD w3 (ty:=75) sz75 O;have M:=(J.trans f3).trans f4;simp -implicitDefEqProofs only[go_sem,yJ,yN,qQk,q4,p2,c3];refine qQa pl100 ((hR _ _ (ht.no M) (he.fr0 M) (a5 W4 M)).mono ?_);rintro _ w5 ⟨rfl,f5⟩;obtain⟨W6,q6,k6,f6,s6⟩:=A.allocD w5 (ty:=75) sz75 R;have a3:=(M.trans f5).trans f6;have r4:=rd_d agg75 sz75 (f6.at (f5.at k4 id) id) O;have r6:=rd_d agg75 sz75 k6 R;simp -implicitDefEqProofs only[go_sem,yJ,yN,qQk,q6,r4,r6];refine qQa pl96 ((branch W6 (ht.no a3) wd O R).mono ?_);rintro _ w7 ⟨rfl,f7⟩;have k7:=f7.at (f6.at (f5.at (f4.at (f3.at (f2.at k1 id) id) id) id) id) id;generalize qXd wd Y Z=D at *;have qw:=wr_d sz75 k7 zl32 lb;have qr:=rd_d agg75 sz75 (qQd (o:=.cells (bl D) 75 (0,0)) k7) lb;simp -implicitDefEqProofs only[go_sem,yJ,qw,qr];exact (a3.trans f7).put (b:=w0.heap.size) _ fun h=>by omega
theorem digest10 {wd:Int}{esv:Value}:∀ (t:PT) {n:Nat},t.Wf n->Map n t.ents->(∀ e ∈ t.ents,e.2.length<=549755813888)->n<=256->t.ents.length<=2 ^ 40->DgQ wd esv n t.ents (dgT wd (256 - n) t)
 | .nil,n,B,A,E,H,I=>digNil H
 | .leaf p k v,n,B,A,E,H,I=>by
  intro w0 mv R U V;have:=digest1 w0 R wd U (e:=(k,v)) V (E (k,v) (by simp[PT.ents])) H;rw[empts_take wd om]at this;exact this
 | .br p l r,n,B,A,E,H,I=>by
  have O:=filt_l B;have fr:=filt_r B;obtain⟨_,J,W,_,_,M,N⟩:=B;have A:Map n (l.ents++r.ents):=A;have Y:(l.ents++r.ents).length=l.ents.length+r.ents.length:=lAp;have I:(l.ents++r.ents).length<=2 ^ 40:=I;have Z:=digest10 (wd:=wd) (esv:=esv) l (n:=n+1) M (by rw[<- O];exact A.lo) (fun e h=>E e (zW _ h)) om om;have ir:=digest10 (wd:=wd) (esv:=esv) r (n:=n+1) N (by rw[<- fr];exact A.hi) (fun e h=>E e (zV _ h)) om om
  have e:dgT wd (256 - n) (.br p l r)=qXd wd (dgT wd (256 - (n+1)) l) (dgT wd (256 - (n+1)) r):=by
   show qXd wd (dgT wd (256 - n - 1) l) (dgT wd (256 - n - 1) r)=_;rw[show 256 - (n+1)=256 - n - 1 by omega]
  rw[e];exact digBr J W om A O (qZv _ _ _) (qZv _ _ _) Z ir
theorem rootWith10 (t:PT){mv:Value}(I:Tabs w0)(J:RdD w0 esv (empts wd 257))(M:EnR w0 mv t.ents)(N:t.Wf 0)(O:Map 0 t.ents)(R:∀ e ∈ t.ents, e.2.length<=549755813888)(U:t.ents.length<=2 ^ 40) :
  Fn prog 59 #[.int .i64 wd,esv,mv] w0 fun v w'=>v=dg (dgT wd 256 t)/\No w0 w':=by
 refine go59 sm ?_;obtain⟨W,V,B,H,Y⟩:=qQl w0 (bl (zK 32 0)) 75;simp -implicitDefEqProofs only[go_sem,yJ,vH,yN,jY,qQk,Tryz.f59,V];refine qQa pl100 ((digest10 t (n:=0) N O R om U _ _ (I.no B) (J.fr0 B) (M.fr0 B)).mono ?_);rintro _ Z ⟨rfl,E⟩;rw[yW];have A:(dgT wd 256 t).length=32:=qZv _ _ _;generalize dgT wd 256 t=D at *;have q:=wr_d sz75 (E.at H id) zl32 A;have r:=rd_d agg75 sz75 (qQd (o:=.cells (bl D) 75 (0,0)) (E.at H id)) A;simp -implicitDefEqProofs only[go_sem,yJ,q,r];exact (B.trans E).put (b:=w0.heap.size) _ fun h=>by omega
end R
end
section
namespace R
open Aud A
structure LayX (u w0:World) (sb wd:Nat) (esv:Value) (T:PT) (oM oS:Value) (fresh:Nat):Prop where
 hu:No u w0
 tabs:Tabs w0
 he:RdD w0 esv (empts wd 257)
 hsb:w0.heap.size<=sb
 hT:T.Wf 0
 hTM:Map 0 T.ents
 hTl:T.ents.length<=2 ^ 30
 hTp:∀ p ∈ T.pgs,p<fresh
 hM:EnR w0 oM T.ents
 hS:RdR w0 66 oS ((subsL wd 0 T).map sbR)
 hf:0<fresh
def LayPost (u w0:World)(sb wd:Nat)(esv:Value)(T:PT)(oM oS:Value)(fresh n:Nat)(t:PT)(next':Nat)(w:World)(ns:List Nd)(ss:List Sb)(v:Value)(w':World):Prop :=
 v=.tuple #[vi t.page,dg (dgT wd (256 - n) t)]/\Fr (StF w0 w) w w'/\SpM u w0 w' sb wd next' esv T.page oM oS (ns++news (dgT wd) fresh n t) (ss++subsL wd n t)
def LayC (u w0:World)(sb wd:Nat)(esv:Value)(T:PT)(oM oS:Value)(fresh n:Nat)(E A:List En)(next:Nat)(t:PT)(next':Nat):Prop:=∀ (w:World) (mv B:Value) (ns:List Nd) (ss:List Sb),
 SpM u w0 w sb wd next esv T.page oM oS ns ss->No w0 w->EnR w0 mv E->EnR u B A->ns.length<=next->ss.length+t.pgs.length+T.pgs.length<=2 ^ 38 ->
  Fn prog 97 #[pt sb 0,mv,B,.int .i64 (n:Nat)] w (LayPost u w0 sb wd esv T oM oS fresh n t next' w ns ss)
def LyR (u w0 w:World)(sb wd next:Nat)(esv:Value)(oR:Nat)(oM oS:Value)(n:Nat)(mv E:Value)(k:Bs)(ns:List Nd)(ss:List Sb)(A:Ev)(B:World):Prop :=
 A 0=pt sb 0/\A 1=mv/\A 2=E/\A 3=.int .i64 (n:Nat)/\A 9=pt w.heap.size 0/\A 10=pt (w.heap.size+1) 0/\B.heap[w.heap.size]?=some (.cells (bl (zK 32 0)) 75 (0,0))/\B.heap[w.heap.size+1]?=some (.cells (bl k) 76 (0,0)) /\
  Fr (StF w0 w) w B/\SpM u w0 B sb wd next esv oR oM oS ns ss
def LyD (K:Value->World->Prop)(A:Ev)(w:World):Prop:=den prog Tryz.f97.ntmps [10,19,23,24,31,32] (tailC 4 (qKc Tryz.f97)) (retQ prog Tryz.f97.results.toList K) A w
def LayRest (u w0:World)(sb wd:Nat)(esv:Value)(T:PT)(oM oS:Value)(fresh n:Nat)(I A:List En)(next:Nat)(t:PT)(next':Nat):Prop:=∀ (w:World) (mv B:Value) (ns:List Nd) (ss:List Sb),
 No w0 w->EnR w0 mv I->EnR u B A->ns.length<=next->ss.length+t.pgs.length+T.pgs.length<=2 ^ 38 ->
  ∀ E H,LyR u w0 w sb wd next esv T.page oM oS n mv B (headK A) ns ss E H->LyD (LayPost u w0 sb wd esv T oM oS fresh n t next' w ns ss) E H
section
variable {u w0:World} {sb wd:Nat} {esv:Value} {T:PT} {oM oS:Value} {fresh:Nat}
theorem layNil (hx:LayX u w0 sb wd esv T oM oS fresh)(hn:n<=256){me:List En}{next:Nat}:LayC u w0 sb wd esv T oM oS fresh n me [] next .nil next:=by
 intro w mv tv ns ss U f0 hm ht _ _;refine go97 sm ?_;obtain⟨W,hW,H,k1,s1⟩:=qQl w (bl (zK 32 0)) 75;obtain⟨a,cap,rfl,_⟩:=ht.slice;have d1:(((([]:List En).length:Nat):Int) == 0)=true:=rfl;have I:=f0.trans H;have A:=hx.he.fr0 I;obtain⟨J,M,V,rfl,_,_⟩:=A.pos (by rw[qQz];decide);have Y:=A.get (P:=prog) agg75 sz75 (i:=256 - n) (by rw[qQz];omega);rw[gDq,qVe (wd:Int) 257 om,kM]at Y;have N:rdO prog 75 W.drew J (M+(256 - n)*32)=_:=Y;have O:=U.fr0 H
 have rE:rdO prog 71 W sb 2=some (.slice (some ⟨J,M,.none⟩) (empts wd 257).length V):=by
  obtain⟨_,_,_,ks,_⟩:=O;exact rd1 agg71 ks rfl
 have R:rdO prog 71 W.drew sb 2=some (.slice (some ⟨J,M,.none⟩) (empts wd 257).length V):=rE;have c2:IntKind.i64.wrap (256 - (n:Int))=((256 - n:Nat):Int):=qXr (a:=256) om om;have y2:(0:Int)<=((256 - n:Nat):Int)/\((256 - n:Nat):Int)<(((empts wd 257).length:Nat):Int):=by rw[qQz];omega
 have B:(emptD wd (256 - n)).length=32:=qQv _ _;have ed:dgT wd (256 - n) .nil=emptD wd (256 - n):=rfl;unfold LayPost;rw[ed];generalize emptD wd (256 - n)=D at *;have E:W.drew.heap[w.heap.size]?=_:=k1;have qw:=wr_d sz75 E zl32 B;have qr:=rd_d agg75 sz75 (qQd (o:=.cells (bl D) 75 (0,0)) E) B;have Z:No w (put W.drew w.heap.size (.cells (bl D) 75 (0,0))):=H.drew.put (b:=w.heap.size) _ fun h=>by omega
 simp -implicitDefEqProofs only[go_sem,yJ,yY,vH,yN,jY,qQk,Tryz.f97,hW,d1,R,c2,y2,and_self,iTn,N,qw,qr];refine And.intro rfl (And.intro (StF.of w0 Z) ?_);show SpM u w0 _ sb wd next _ T.page oM oS (ns++[]) (ss++[]);rw[zO,zO];exact U.fr0 Z
theorem layTop (Y:LayX u w0 sb wd esv T oM oS fresh)(hn:n<=256){o:PT}{B:List En}{next next':Nat}{t:PT}(N:0<B.length)(ho:o.Wf n)(a9:∀ p ∈ o.pgs, p<fresh)(hP:PosS wd T n (headK B) at' o)(hl:o.ents.length<=2 ^ 40)
  (a0:o.ents=B->at'=true->t=o/\next'=next) (E:¬ (o.ents=B/\at'=true)->LayRest u w0 sb wd esv T oM oS fresh n o.ents B next t next'):LayC u w0 sb wd esv T oM oS fresh n o.ents B next t next':=by
 intro w mv tv ns ss hM f0 hm ht b9 c0;refine go97 sm ?_;unfold DenF;refine den_cut 4 ?_;have E:=fun hc=>E hc w mv tv ns ss f0 hm ht b9 c0;unfold LyD at E;obtain⟨W,hW,f1,k1,s1⟩:=qQl w (bl (zK 32 0)) 75;obtain⟨tb,to,tc,vv,rfl,_,O,d9,e0,a3⟩:=ht.at N;rw[yV,yF]at a3
 have c3:B[0].1=headK B:=by
  cases B with
  | nil=>simp at N
  | cons e es=>rfl
 rw[c3]at O a3;have b0:=f0.trans f1;have d1:(((B.length:Nat):Int) == 0)=false:=(nateq B.length 0).trans (decide_eq_false om);obtain⟨W2,c4,f2,k2,s2⟩:=qQl W (bl (zK 32 0)) 76;have q2:=wr_d sz76 k2 zl32 O;have k3:=qQd (o:=.cells (bl (headK B)) 76 (0,0)) k2;have f3:No W (put W2 W.heap.size (.cells (bl (headK B)) 76 (0,0))):=f2.put (b:=W.heap.size) _ fun h=>by omega
 have y1:(0:Int)<=0/\(0:Int)<((B.length:Nat):Int):=om
 obtain⟨r1,_,_⟩:=a3 W (Y.hu.trans b0);simp -implicitDefEqProofs only[go_sem,yJ,vH,yN,jY,yF,qQk,Tryz.f97,hW,d1,y1,and_self,kJ,yV,r1,c4,q2];generalize put W2 W.heap.size (.cells (bl (headK B)) 76 (0,0))=W3 at *;generalize headK B=k at *;have a4:=b0.trans f3;refine qQa pl135 ((sameMap W3 (hm.fr0 a4) (ht.fr0 (Y.hu.trans a4)) hl).mono ?_);rintro _ w4 ⟨rfl,f4⟩;have a5:=a4.trans f4;have a6:=f4.at (f3.at k1 id) id;have R:=f4.at k3 id;have b1:=hM.fr0 ((f1.trans f3).trans f4);have b3:No w w4:=(f1.trans f3).trans f4;have hsz:W.heap.size=w.heap.size+1:=s1;rw[hsz]at R
 by_cases hs:o.ents=B
 case neg =>
  rw[decide_eq_false hs];simp -implicitDefEqProofs only[go_sem,hsz];refine qKe ?_;exact E (fun h=>hs h.1) _ _ ⟨rfl,rfl,rfl,rfl,rfl,rfl,a6,R,StF.of w0 b3,b1⟩
 rw[decide_eq_true hs];have rk:=rd_d agg76 sz76 R O;have c5:∀ e ∈ T.ents,e.1.length=32:=Y.hTM.2;have b4:=subs_ok (wd:=wd) Y.hT c5;have d8:(subsL wd 0 T).length=T.pgs.length:=subs_len;simp -implicitDefEqProofs only[go_sem,yJ,hsz,rk];refine qQa pl136 ((keeps10 b1 Y.hsb a5 Y.hS b4 om O hn).mono ?_);rintro _ w5 ⟨F5,J⟩;rw[hP.subs]at J;have b5:=StF.at F5 R x9;have b6:=StF.at F5 a6 x9;have b7:=StF.no a5 F5;have c6:=rd_d agg76 sz76 b5 O;have M:=fun {nv sv:Value} (h:w5.heap[sb]?=some (.cells (spC wd next esv T.page oM oS nv sv) 187 (0,0)))=>found10 h (Y.he.fr0 b7) (Y.hS.fr0 b7) b4 om O hn;rw[hP.found ho]at M;obtain⟨nv,sv,rows,c7,_⟩:=id J;have M:=M c7;have b8:Fr (StF w0 w) w w5:=StF.trans (StF.of w0 b3) F5;have U:(dgT wd (256 - n) o).length=32:=qZv _ _ _;have c8:(emptD wd (256 - n)).length=32:=qQv _ _;simp -implicitDefEqProofs only[go_sem,yJ,c6]
 cases at' with
 | true =>
  rw[if_pos rfl]at M J;refine qQa pl137 (M.mono ?_);rintro _ w6 ⟨rfl,f6⟩;have Z:o≠.nil:=fun h=>by rw[h]at hs;rw[<- hs]at N;simp[PT.ents]at N
  have e1:=PT.page_pos ho Z;have d6:((o.page:Int) != 0)=true:=(natne o.page 0).trans (decide_eq_true om);obtain⟨rfl,rfl⟩:=a0 hs rfl;generalize c9:dgT wd (256 - n) t=D at *;obtain⟨V,q7,k7,f7,s7⟩:=A.allocD w6 (ty:=75) sz75 U;have d0:V.heap[w.heap.size]?=_:=f7.at (f6.at b6 id) id;have H:V.drew.heap[w.heap.size]?=_:=d0;have r7:=rd_d agg75 sz75 k7 U;have d2:rdO prog 75 V.drew w6.heap.size 0=_:=r7;have qw:=wr_d sz75 H zl32 U;have qr:=rd_d agg75 sz75 (qQd (o:=.cells (bl D) 75 (0,0)) H) U;simp -implicitDefEqProofs only[go_sem,yJ,yY,yN,qQk,q7,d6,d2,qw,qr];have I:No w5 V.drew:=(f6.trans f7).drew;have e2:=qQh a6;have fp:No w5 V.drew:=I;have e3:=(StF.no a5 F5).size;refine And.intro (by rw[c9]) (And.intro ?_ ?_)
  ·exact (StF.trans b8 (StF.of w0 I)).put (b:=w.heap.size) _ fun h=>absurd h (yU _)
  ·have d3 : news (dgT wd) fresh n t = [] := news_old (by
     cases t with
     | nil => exact absurd rfl Z
     | leaf q a b => exact a9 q (by simp [PT.pgs])
     | br q a b => exact a9 q (by simp [PT.pgs]))
   rw[d3,zO];have d4:=J.fr0 I;obtain⟨d5,d7,a7,g1,g2,g3,g4,g5,g6⟩:=d4;have a8:Fr (fun b=>b=w.heap.size) V.drew (put V.drew w.heap.size (.cells (bl D) 75 (0,0))):=(Fr.refl _ _).put (b:=w.heap.size) _ fun _=>rfl;refine⟨d5,d7,a7,a8.at g1 (fun e=>?_),g2,g3,g4.fr a8 fun b hb e=>?_,g5,g6.fr a8 fun b hb e=>?_⟩
   ·rw[e,H]at g1;cases g1
   ·obtain⟨c,hc⟩:=qXa g4 hb
    rw[e,H]at hc;cases hc
   ·obtain⟨c,hc⟩:=qXa g6 hb
    rw[e,H]at hc;cases hc
 | false =>
  rw[if_neg x9]at M J;rw[zO]at J;refine qQa pl137 (M.mono ?_);rintro _ w6 ⟨rfl,f6⟩;generalize emptD wd (256 - n)=D at *;have d6:(((0:Nat):Int) != 0)=false:=rfl;obtain⟨V,q7,k7,f7,s7⟩:=A.allocD w6 (ty:=75) sz75 c8;have I:No w5 V:=f6.trans f7;simp -implicitDefEqProofs only[go_sem,yJ,yN,qQk,q7,d6];refine qKe ?_;exact E (fun h=>by cases h.2) _ _ ⟨rfl,rfl,rfl,rfl,rfl,rfl,I.at b6 id,I.at b5 id,StF.trans b8 (StF.of w0 I),J.fr0 I⟩
end
end R
end
section
theorem qWa {P:Program}{A:List Nat}(k:Nat)(R:Ev->World->Prop){c:Code}{Q:Post}{B:Ev}(E:den P n A (headC k c) (thenH R Q) B w)(H:∀ B w,R B w->den P n A (tailC k c) Q B w):den P n A c Q B w :=
 den_cut k (qXg _ (fun e B w h=>by
  cases e with
  | normal=>exact H _ _ h
  | _=>exact h) E)
namespace R
open Aud A
theorem dg_climb (wd:Int)(k v:Bs)(p:Nat){d n:Nat}(H:n<=d)(I:d<=256):climb wd k (256 - d) (cutD wd (dgT wd (256 - d) (.leaf p k v))) (((empts wd 257).drop (256 - d)).take (256 - n - (256 - d)))=dgT wd (256 - n) (.leaf 0 k v):=by
 show climb wd k (256 - d) (cutD wd (climb wd k 0 (leafD wd k v) (empts wd (256 - d)))) _=climb wd k 0 (leafD wd k v) (empts wd (256 - n));rw[Wit.climb_tdy wd k _ _ _ (leaf_cut wd k v)];have A:empts wd (256 - d)=(empts wd 257).take (256 - d):=(empts_take wd om).symm
 have B:empts wd (256 - n)=(empts wd 257).take (256 - d)++((empts wd 257).drop (256 - d)).take (256 - n - (256 - d)):=by
  rw[<- empts_take wd (show 256 - n<=257 by omega),<- List.take_add]
  congr 1
  omega
 have E:((empts wd 257).take (256 - d)).length=256 - d:=by rw[lTk,qQz];omega
 rw[B,climb_app,A,E,jY]
theorem SpM.put' {u w0 w:World}{sb wd next:Nat}{oR:Nat}{oM oS:Value}{ns:List Nd}{ss:List Sb}(h:SpM u w0 w sb wd next esv oR oM oS ns ss){c:Array Value}{ty:TypeId}(E:w.heap[b]?=some (.cells c ty fz))(H:¬ (ty=78∨ty=229∨ty=187))(o:Obj)(O:fzO o=false:=by rfl):SpM u w0 (put w b o) sb wd next esv oR oM oS ns ss:=by
 obtain⟨nv,sv,rows,I,R,U,M,V,N⟩:=h;have A:Fr (fun x=>x=b) w (put w b o):=(Fr.refl _ _).put (b:=b) _ (fun _=>rfl) O;refine⟨nv,sv,rows,A.at I (fun e=>?_),R,U,M.fr A fun x J e=>?_,V,N.fr A fun x J e=>?_⟩
 ·rw[e,E]at I;cases I;exact H (.inr (.inr rfl))
 ·obtain⟨c,B⟩:=qXa M J
  rw[e,E]at B;cases B;exact H (.inl rfl)
 ·obtain⟨c,B⟩:=qXa N J
  rw[e,E]at B;cases B;exact H (.inr (.inl rfl))
section
variable {u w0:World} {sb wd:Nat} {esv:Value} {T:PT} {oM oS:Value} {fresh:Nat}
def L10 (w H:World)(sb n:Nat)(I:Value)(D:Bs)(A:Ev)(E:World):Prop :=
 A 0=pt sb 0/\A 2=I/\A 3=.int .i64 (n:Nat)/\A 9=pt w.heap.size 0/\A 10=pt (w.heap.size+1) 0/\∃ B,A 13=pt B 0/\E.heap[B]?=some (.cells (bl D) 75 (0,0))/\w.heap.size<B/\No H E
def L13 (u w0 w:World)(sb wd next:Nat)(esv:Value)(oR:Nat)(oM oS:Value)(n p:Nat)(k D:Bs)(ns:List Nd)(ss:List Sb)(A:Ev)(B:World):Prop :=
 A 0=pt sb 0/\A 3=.int .i64 (n:Nat)/\A 9=pt w.heap.size 0/\A 10=pt (w.heap.size+1) 0/\A 16=.int .i64 (p:Nat)/\B.heap[w.heap.size]?=some (.cells (bl (zK 32 0)) 75 (0,0))/\B.heap[w.heap.size+1]?=some (.cells (bl k) 76 (0,0)) /\
 ∃ E,A 13=pt E 0/\B.heap[E]?=some (.cells (bl D) 75 (0,0))/\w.heap.size<E/\Fr (StF w0 w) w B/\SpM u w0 B sb wd next esv oR oM oS ns ss
theorem layOne (H:LayX u w0 sb wd esv T oM oS fresh)(hn:n<=256){o:PT}{e:En}{next next':Nat}{t:PT}(k0:∀ p ∈ o.pgs, p<fresh)(hP:PosS wd T n e.1 at' o)(B:e.1.length=32)(k1:e.2.length<=128)(k2:fresh<=next)(n3:next<=2 ^ 38)
  (E:(match pageOf e.1 e.2 o with | some p=>(PT.leaf p e.1 e.2,next) | none=>(PT.leaf next e.1 e.2,next+1))=(t,next')):LayRest u w0 sb wd esv T oM oS fresh n o.ents [e] next t next':=by
 intro w mv tv ns ss f0 hm ht n4 n5 ev w5 ⟨V,e1,e2,e3,e9,A,kr,kk,F5,g1⟩;have kk:w5.heap[w.heap.size+1]?=some (.cells (bl e.1) 76 (0,0)):=kk;have g2:=StF.no f0 F5
 obtain⟨p,a0⟩:∃ p,t=.leaf p e.1 e.2:=by
  cases hp:pageOf e.1 e.2 o with
  | some p=>rw[hp]at E;cases E;exact⟨p,rfl⟩
  | none=>rw[hp]at E;cases E;exact⟨next,rfl⟩
 have k3:dgT wd (256 - n) t=dgT wd (256 - n) (.leaf 0 e.1 e.2):=by rw[a0];rfl
 have I:(dgT wd (256 - n) (.leaf 0 e.1 e.2)).length=32:=qZv _ _ _;have d2:=fun {q d:Nat} (h1:n<=d) (h2:d<=256)=>dg_climb wd e.1 e.2 q h1 h2
 have g3:DgQ wd esv n [e] (dgT wd (256 - n) (.leaf 0 e.1 e.2)):=fun u' n6 hT k4 k5=>by
  have:=digest1 u' hT wd k4 (e:=e) k5 om hn;rw[empts_take wd om]at this;exact this
 obtain⟨tb,to,tc,vv,rfl,_,_,g4,d3,a9⟩:=ht.at (i:=0) sm;rw[yV,yF]at a9;simp only[List.getElem_cons_zero,List.length_cons,List.length_nil,jY]at d3 a9 e2;have d1:(((1:Nat):Int) == 1)=true:=rfl;have y1:(0:Int)<=0/\(0:Int)<((1:Nat):Int):=sm
 have n7:=qQh kr;have n8:=qQh kk;show LyD (fun v w'=>v=.tuple #[vi t.page,dg (dgT wd (256 - n) t)]/\Fr (StF w0 w) w w'/\SpM u w0 w' sb wd next' esv T.page oM oS (ns++news (dgT wd) fresh n t) (ss++subsL wd n t)) ev w5;have d4:subsL wd n t=[⟨n,p,e.1,dgT wd (256 - n) (.leaf 0 e.1 e.2)⟩]:=by rw[a0];rfl
 have d5:t.page=p:=by rw[a0];rfl
 rw[k3,d4,d5];generalize dgT wd (256 - n) (.leaf 0 e.1 e.2)=D at *;unfold LyD;simp only[go_sem,Tryz.f97,qKc,tailC,e2,d1];refine qXg (Q:=fun x ev W=>x=.normal/\L10 w w5 sb n (.slice (some ⟨tb,to,.none⟩) 1 tc) D ev W) _ (fun x ev W=>?_) ?_
 rotate_left
 ·refine qXl (fun j=>j == 11) (.one 0 (.one 1 (.one 2 (.one 4 (.one 5 (.one 6 (.one 8 (.one 9 (.one 3 (.one 7 (.two 10 (.row [11,12]) 11 (.row [10,12])))))))))))) rfl x8 x8 ?_
  have fd:No w5 w5.drew:=(Fr.refl _ _).drew;have s5:w5.drew.heap.size=w5.heap.size:=rfl;generalize w5.drew=W at *;have J:=g2.trans fd;obtain⟨nv,sv,rows,ks,_⟩:=g1.fr0 fd;have d6:rdO prog 3 W sb 0=some (vi wd):=rd1 agg3 ks rfl;have d7:rdO prog 71 W sb 2=some esv:=rd1 agg71 ks rfl;simp only[go_sem,yJ,yY,yN,bSe,jY,qQk,OT.row,V,e2,e3,d6,d7];constructor
  ·refine qQe pl100 ((g3 _ _ (H.tabs.no J) (H.he.fr0 J) (ht.fr0 (H.hu.trans J))).mono ?_);rintro _ R ⟨rfl,f7⟩
   refine⟨(fun h=>by cases h),?_⟩;obtain⟨W8,q8,k8,f8,s8⟩:=allocD R (ty:=75) sz75 I;have e7:Ext R (R.alloc (.cells (bl (zK 32 0)) 75)):=Ext.alloc _ _;have s7:=f7.size;simp only[go_sem,yJ,yY,yN,bSe,qQk,q8,e7,implies_true,true_and]
   refine⟨?_,?_,?_,?_,?_,R.heap.size,?_,k8,om,(fd.trans f7).trans f8⟩ <;> simp only[go_sem,yJ,V,e2,e3,e9,A]
  ·obtain⟨W7,k6,f7,k7,s7⟩:=qQl W (bl (zK 32 0)) 75
   have e7:=f7.ext;simp only[go_sem,k6];refine qQe pl100 ((g3 _ _ (H.tabs.no (J.trans f7)) (H.he.fr0 (J.trans f7)) (ht.fr0 (H.hu.trans (J.trans f7)))).mono ?_);rintro _ U ⟨rfl,f8⟩;refine⟨(fun h=>by cases h),?_⟩;have k8:=f8.at k7 id;have q9:=wr_d sz75 k8 zl32 I;have k9:=qQd (o:=.cells (bl D) 75 (0,0)) k8;simp only[go_sem,yJ,yY,q9]
   refine⟨?_,?_,?_,?_,?_,W.heap.size,?_,k9,om,((fd.trans f7).trans f8).put (b:=W.heap.size) _ fun h=>by omega⟩ <;> simp only[go_sem,yJ,V,e2,e3,e9,A]
 clear V e2 e3 e9 A;rintro⟨rfl,V,e2,e3,e9,A,db,N,kd,a3,a4⟩;rw[thenQ_normal];have c0:=a4.at kr id;have b0:=a4.at kk id;have J:=g2.trans a4;have F6:=StF.trans F5 (StF.of w0 a4);have b1:=g1.fr0 a4;refine qWa 3 (L13 u w0 w sb wd next' esv T.page oM oS n p e.1 D (ns++news (dgT wd) fresh n t) ss) ?_ ?_
 ·obtain⟨nv,sv,rows,l0,_⟩:=id b1
  have l1:∀ x ∈ T.ents,x.1.length=32:=H.hTM.2;have l2:=subs_ok (wd:=wd) H.hT l1;have m8:(subsL wd 0 T).length=T.pgs.length:=subs_len;have rM:rdO prog 84 W sb 4=some oM:=rd1 agg84 l0 rfl;have l3:rdO prog 84 W.drew sb 4=some oM:=rM;have rk:=rd_d agg76 sz76 b0 B;have l4:rdO prog 76 W.drew (w.heap.size+1) 0=_:=rk;have hTl:=H.hTl;simp only[go_sem,yJ,yY,vH,jY,V,A,l3,l4];refine qQa pl138 ((look3 W.drew (H.hM.fr0 J.drew) H.hTM B om).mono ?_);rintro _ R ⟨f7,lv,lb,rfl,n9,l5,c3⟩;have a5:No W R:=(Fr.refl _ _).drew.trans f7;have Y:=J.trans a5;have b3:=a5.at c0 id;have a6:=a5.at b0 id;have a7:=a5.at kd id;have b4:=b1.fr0 a5;have F7:=StF.trans F6 (StF.of w0 a5);obtain⟨_,l6,_⟩:=a9 R (H.hu.trans Y);have b5:=rd_d agg76 sz76 a6 B
  have c4:∀ (U:World), No R U->pageOf e.1 e.2 o=none->∃ (_:p=next) (_:next'=next+1), (∃ bn, bldO prog 78 [(0, .int .i64 1), (7, dg e.1), (8, vv)]=some (.agg bn)/\bn=(ndA (.leaf e.1 e.2) vv).toArray) /\
    Fn prog 142 #[pt sb 0,.agg (ndA (.leaf e.1 e.2) vv).toArray] U fun v w'=>v=vi p/\Fr (StF w0 U) U w'/\SpM u w0 w' sb wd next' esv T.page oM oS (ns++news (dgT wd) fresh n t) ss:=fun U g5 Z=>by
   rw[Z]at E;cases E;cases a0;refine⟨rfl,rfl,⟨_,bldLeaf B g4,rfl⟩,?_⟩;have d8:news (dgT wd) fresh n (.leaf next e.1 e.2)=[.leaf e.1 e.2]:=by unfold news;rw[if_pos k2]
   rw[d8];exact staged10 (b4.fr0 g5) H.hsb (Y.trans g5) om om (n:=.leaf e.1 e.2) ⟨B,k1⟩ g4 d3 (fun h=>by cases h)
  cases lb with
  | false =>
   have Z:pageOf e.1 e.2 o=none:=by
    rw[<- hP.lvs e.2]
    cases hp:pageOf e.1 e.2 T with
    | none=>rfl
    | some q=>exact absurd rfl (c3 rfl _ (qKl hp))
   obtain⟨_,_,⟨bn,hb,d9⟩,_⟩:=c4 R (Fr.refl _ _) Z;subst d9;obtain⟨_,b6,_⟩:=a9 R.drew (H.hu.trans Y.drew);have b7:rdO prog 76 R.drew (w.heap.size+1) 0=_:=b5;simp only[go_sem,yJ,yY,qQx,V,e2,A,y1,and_self,kJ,yV,b7,b6,hb];obtain⟨_,_,_,e4⟩:=c4 R.drew (Fr.refl _ _).drew Z;refine qQa pl142 (e4.mono ?_);rintro _ U ⟨rfl,F8,e5⟩;have O:Fr (StF w0 R) R U:=StF.trans (StF.of w0 (Fr.refl _ _).drew) F8;simp only[go_sem]
   refine qKe ⟨?_,?_,?_,?_,?_,StF.at O b3 x9,StF.at O a6 x9,db,?_,StF.at O a7 x9,a3,StF.trans F7 O,e5⟩ <;> simp only[go_sem,yJ,V,e3,e9,A,N]
  | true =>
   obtain⟨val,d0,g6⟩:=l5 rfl;have e6:=g6.fr0 f7;simp only[go_sem,yJ,bSe,e2,y1,and_self,kJ,yV,l6];refine qQa pl139 ((sameBytes R e6 (d3.fr0 (H.hu.trans Y))).mono ?_);rintro _ U ⟨rfl,rfl⟩
   by_cases c7:val=e.2
   ·rw[decide_eq_true c7]
    subst c7;have b8:=pageOf_map d0
    cases e8:pageOf e.1 e.2 T with
    | none=>rw[e8]at b8;cases b8
    | some q =>
    have g7:pageOf e.1 e.2 o=some q:=by rw[<- hP.lvs e.2];exact e8
    rw[g7]at E;cases E;cases a0;obtain⟨d,_,l7,f1⟩:=leaf_fold (wd:=wd) (t:=T) (n:=0) (a:=none) om H.hT (fun y h=>by cases h) (fun x _=>Nat.zero_le _) e8;have d8:news (dgT wd) fresh n (.leaf p e.1 e.2)=[]:=news_old (k0 p (qKk g7));rw[d8,zO];obtain⟨nv,sv,rows,l8,_⟩:=id b4;have l9:∀ x ∈ subsL wd 0 T,x.bits<=256:=subs_bits H.hT om;have c3:=leafOf10 l8 (H.hS.fr0 Y) l2 om l9 B;rw[f1]at c3;have f2:(dgT wd (256 - d) (.leaf p e.1 e.2)).length=32:=qZv _ _ _;have lx:(lfC (some ⟨d,p,e.1,dgT wd (256 - d) (.leaf p e.1 e.2)⟩)).toArray.size=66:=by rw[kG];exact sbC_len B f2
    have g8:=lfC_one (some ⟨d,p,e.1,dgT wd (256 - d) (.leaf p e.1 e.2)⟩);have c8:lfC (some ⟨d,p,e.1,dgT wd (256 - d) (.leaf p e.1 e.2)⟩)=sbC d p e.1 (dgT wd (256 - d) (.leaf p e.1 e.2)):=rfl;have d2:=fun h=>d2 (q:=p) (d:=d) h l7;generalize dgT wd (256 - d) (.leaf p e.1 e.2)=X at *;simp only[go_sem,yJ,V,A,b5];refine qQa pl140 (c3.mono ?_);rintro _ M ⟨rfl,f9⟩;have zz:(sbC 0 0 z32 z32).toArray=#[.int .i64 0,.int .i64 0]++bl (zK 64 0):=rfl;have zl:(sbC 0 0 z32 z32).toArray.size=66:=rfl;obtain⟨Wa,f3,fa,ka,sa⟩:=qQl M (sbC 0 0 z32 z32).toArray 229;have qa:wrO prog 229 Wa M.heap.size 0 (.agg (lfC (some ⟨d,p,e.1,X⟩)).toArray)=some (put Wa M.heap.size (.cells (lfC (some ⟨d,p,e.1,X⟩)).toArray 229 (0,0))):=qQr (by rw[lx];exact sz229) ka (by rw[zl,lx]) (by rw[<- kU];exact g8);have kb:=qQd (o:=.cells (lfC (some ⟨d,p,e.1,X⟩)).toArray 229 (0,0)) ka;have fb:No M (put Wa M.heap.size (.cells (lfC (some ⟨d,p,e.1,X⟩)).toArray 229 (0,0))):=fa.put (b:=M.heap.size) _ fun h=>by omega
    rw[zz]at f3;generalize put Wa M.heap.size (.cells (lfC (some ⟨d,p,e.1,X⟩)).toArray 229 (0,0))=wb at *;have a8:=f9.trans fb;rw[c8]at kb;have rp:rdO prog 3 wb M.heap.size 1=some (vi p):=rd1 agg3 kb rfl;have rb:rdO prog 3 wb M.heap.size 0=some (vi d):=rd1 agg3 kb rfl
    have c9:decide (((d:Nat):Int) > (n:Int))=decide (n<d):=by
     by_cases h:n<d
     ·rw[decide_eq_true h];exact decide_eq_true om
     ·rw[decide_eq_false h];exact decide_eq_false om
    have g9:=a8.at b3 id;have f4:=a8.at a6 id;have h0:=a8.at a7 id;have Fb:=StF.trans F7 (StF.of w0 a8);have f5:=b4.fr0 a8
    by_cases hnd:n<d
    ·rw[decide_eq_true hnd]at c9
     obtain⟨p0,p1,m0,h3,_⟩:=id f5;have h4:=Y.trans a8;have d6:rdO prog 3 wb sb 0=some (vi wd):=rd1 agg3 h3 rfl;have d7:rdO prog 71 wb sb 2=some esv:=rd1 agg71 h3 rfl;have m1:=rd_d agg76 sz76 f4 B
     have rs:rdO prog 75 wb M.heap.size 34=some (dg X):=by
      have:=rd_rcs (P:=prog) (w:=wb) (b:=M.heap.size) (o:=34) agg75 sz75 (vs:=(X.map u8).toArray) (by simp[f2]) x9 (fun j hj=>by
       rw[qXe kb,xI,xI,sbC,z4 (by simp[B])]
       simp[B])
      exact this
     have h5:rdO prog 3 wb.drew sb 0=some (vi wd):=d6;have h6:rdO prog 71 wb.drew sb 2=some esv:=d7;have h7:rdO prog 76 wb.drew (w.heap.size+1) 0=_:=m1;have m2:rdO prog 75 wb.drew M.heap.size 34=some (dg X):=rs;have m3:rdO prog 3 wb.drew M.heap.size 0=some (vi d):=rb;have c5:IntKind.i64.wrap (256 - ((d:Nat):Int))=((256 - d:Nat):Int):=qXr (a:=256) om om;have c6:IntKind.i64.wrap (256 - ((n:Nat):Int))=((256 - n:Nat):Int):=qXr (a:=256) om om;simp only[go_sem,yJ,yY,yN,jY,qQk,f3,qa,rp,rb,m3,V,e3,A,c9,h5,h6,h7,m2,c5,c6];refine qQa pl141 ((climbWithF wb.drew (H.tabs.no h4.drew) wd (H.he.fr0 h4.drew) B f2 (f:=256 - d) (n:=256 - n) om om).mono ?_);rintro _ wc ⟨rfl,fc⟩;rw[d2 om];have b9:No wb wc:=(Fr.refl _ _).drew.trans fc;have f6:=b9.at h0 id;have qc:=wr_d sz75 f6 I I;rw[put_self f6]at qc;simp only[go_sem,yJ,N,qc]
     refine qKe ⟨?_,?_,?_,?_,?_,b9.at g9 id,b9.at f4 id,db,?_,f6,a3,StF.trans Fb (StF.of w0 b9),f5.fr0 b9⟩ <;> simp only[go_sem,yJ,V,e3,e9,A,N]
    ·rw[decide_eq_false hnd]at c9
     simp only[go_sem,yJ,yN,jY,qQk,f3,qa,rp,rb,e3,c9]
     refine qKe ⟨?_,?_,?_,?_,?_,g9,f4,db,?_,h0,a3,Fb,f5⟩ <;> simp only[go_sem,yJ,V,e3,e9,A,N]
   ·rw[decide_eq_false c7]
    have Z:pageOf e.1 e.2 o=none:=by
     rw[<- hP.lvs e.2]
     cases hp:pageOf e.1 e.2 T with
     | none=>rfl
     | some q=>exact absurd (congrArg Prod.snd (map_uniq H.hTM _ d0 _ (qKl hp) rfl)) c7
    obtain⟨_,_,⟨bn,hb,d9⟩,_⟩:=c4 U (Fr.refl _ _) Z;subst d9;obtain⟨_,b6,_⟩:=a9 U.drew (H.hu.trans Y.drew);have b7:rdO prog 76 U.drew (w.heap.size+1) 0=_:=b5;simp only[go_sem,yJ,yY,V,e2,A,y1,and_self,kJ,yV,b7,b6,hb];obtain⟨_,_,_,e4⟩:=c4 U.drew (Fr.refl _ _).drew Z;refine qQa pl142 (e4.mono ?_);rintro _ M ⟨rfl,F8,e5⟩;have O:Fr (StF w0 U) U M:=StF.trans (StF.of w0 (Fr.refl _ _).drew) F8;simp only[go_sem]
    refine qKe ⟨?_,?_,?_,?_,?_,StF.at O b3 x9,StF.at O a6 x9,db,?_,StF.at O a7 x9,a3,StF.trans F7 O,e5⟩ <;> simp only[go_sem,yJ,V,e3,e9,A,N]
 ·clear V e2 e3 e9 A N c0 b0 kd a4 J F6 b1 a3 db
  rintro ev W ⟨V,e3,e9,A,h8,c0,b0,db,N,kd,a3,F6,b1⟩;simp only[go_sem,tailC];refine qXl (fun j=>j == 10) (.row [0,1,2,3,5,6,4,7,8,9,10,11,12,13,14]) rfl x8 x8 ?_;have fd:No W W.drew:=(Fr.refl _ _).drew;generalize W.drew=R at *;have b3:=fd.at c0 id;have a6:=fd.at b0 id;have a7:=fd.at kd id;have F7:=StF.trans F6 (StF.of w0 fd);have b4:=b1.fr0 fd;have b5:=rd_d agg76 sz76 a6 B;have m4:=rd_d agg75 sz75 a7 I;have bs:=bldSb (bits:=n) (page:=p) B I;have m9:t.pgs.length=1:=by rw[a0];rfl
  obtain⟨sv,v8,U,rsv,m5,cs,p2,ob,q9,F9,M9⟩:=b4.pushS H.hsb (StF.no f0 F7) om (x:=⟨n,p,e.1,D⟩) B I;have lx:(sbC n p e.1 D).toArray.size=66:=by rw[kG];exact sbC_len B I
  simp only[go_sem,yJ,yY,yN,jY,qQk,OT.row,rsv,V,e3,A,N,h8,b5,m4,bs];refine contOT_is (v:=.slice (some ⟨R.heap.size,0,none⟩) 1 1) (w':=R.alloc (.cells (sbC n p e.1 D).toArray 229)) (qXb (K:=66) x9 x9 (y:=[.int .i64 0,.int .i64 0]++(zK 64 (0:Byte)).map u8) (by rfl) (by rfl) lx _) (fun _=>((Fr.refl (fun _=>False) _).alloc _).ext) ?_;simp only[go_sem,yJ];refine qZm ⟨v8,U,m5,?_⟩;refine⟨(fun h=>by cases h),?_⟩;simp only[go_sem,yJ,yY,jY,q9];generalize put U sb ob=M at *;have g0:M.drew.heap[w.heap.size]?=_:=StF.at F9 b3 x9;have h9:=rd_d agg75 sz75 (StF.at F9 a7 x9) I;have n0:rdO prog 75 M.drew db 0=_:=h9;have qw:=wr_d sz75 g0 zl32 I;have qr:=rd_d agg75 sz75 (qQd (o:=.cells (bl D) 75 (0,0)) g0) I;simp only[go_sem,yJ,e9,N,h8,h9,qw,qr];have m6:=M9.fr0 (Fr.refl (fun _=>False) M).drew;have m7:=StF.trans (StF.trans F7 F9) (StF.of w0 (Fr.refl (fun _=>False) M).drew);exact And.intro (m7.put (b:=w.heap.size) _ fun h=>absurd h (yU _)) (m6.put' g0 x9 _)
end
end R
end
section
namespace R
open Aud A
theorem kid_ents {o:PT}(A:o.Wf n):(kid n false o).ents=o.ents.filter (fun x=>!kbit x.1 n)/\(kid n true o).ents=o.ents.filter (fun x=>kbit x.1 n):=by
 cases o with
 | nil=>exact⟨rfl,rfl⟩
 | leaf p k v =>
  show (if kbit k n=false then PT.leaf p k v else PT.nil).ents=_/\(if kbit k n=true then PT.leaf p k v else PT.nil).ents=_
  cases h:kbit k n <;> simp[PT.ents,h]
 | br p l r=>exact⟨(filt_l A).symm,(filt_r A).symm⟩
theorem bldBr5 (l r lc rc:Nat):bldO prog 78 [(0,.int .i64 2),(1,.int .i64 (l:Nat)),(2,.int .i64 (r:Nat)),(3,.int .i64 (lc:Nat)),(4,.int .i64 (rc:Nat))]=some (.agg (ndC 2 l r lc rc z32 z32 z32 nil0).toArray):=by
 rw[qKd zero78 ndPlaces (c:=nd0.toArray) x8];have s:∀ (i:Nat) (a r:List Value) (u v:Value) (rest:List (Nat × Value)),ndPs[i]?=some (i,1)->a.length=i->one v=true->Instr.fill (fun i=>ndPs[i]?) (a++u::r).toArray ((i,v)::rest)=Instr.fill (fun i=>ndPs[i]?) (a++v::r).toArray rest:=fun i a r u v rest B E H=>qJb B E H;have I:=s 0 [] (nd0.drop 1) (.int .i64 0) (.int .i64 2) [(1,.int .i64 (l:Nat)),(2,.int .i64 (r:Nat)),(3,.int .i64 (lc:Nat)),(4,.int .i64 (rc:Nat))] rfl rfl rfl;have J:=s 1 [.int .i64 2] (nd0.drop 2) (.int .i64 0) (.int .i64 (l:Nat)) [(2,.int .i64 (r:Nat)),(3,.int .i64 (lc:Nat)),(4,.int .i64 (rc:Nat))] rfl rfl rfl;have M:=s 2 [.int .i64 2,.int .i64 (l:Nat)] (nd0.drop 3) (.int .i64 0) (.int .i64 (r:Nat)) [(3,.int .i64 (lc:Nat)),(4,.int .i64 (rc:Nat))] rfl rfl rfl;have N:=s 3 [.int .i64 2,.int .i64 (l:Nat),.int .i64 (r:Nat)] (nd0.drop 4) (.int .i64 0) (.int .i64 (lc:Nat)) [(4,.int .i64 (rc:Nat))] rfl rfl rfl;have A:=s 4 [.int .i64 2,.int .i64 (l:Nat),.int .i64 (r:Nat),.int .i64 (lc:Nat)] (nd0.drop 5) (.int .i64 0) (.int .i64 (rc:Nat)) [] rfl rfl rfl;rw[qXu]at A;exact congrArg (yM vN) ((((I.trans J).trans M).trans N).trans A)
theorem ndC_L {k l r lc rc:Nat}:ndC k l r lc rc ls rs ky vv=[Value.int .i64 (k:Nat),.int .i64 (l:Nat),.int .i64 (r:Nat),.int .i64 (lc:Nat),.int .i64 (rc:Nat)]++ls.map u8++(rs.map u8++ky.map u8++[vv]):=by simp only[ndC,zJ]
theorem ndC_R {k l r lc rc:Nat}:ndC k l r lc rc ls rs ky vv=([Value.int .i64 (k:Nat),.int .i64 (l:Nat),.int .i64 (r:Nat),.int .i64 (lc:Nat),.int .i64 (rc:Nat)]++ls.map u8)++rs.map u8++(ky.map u8++[vv]):=by simp only[ndC,zJ]
theorem nd_putL {b k l r lc rc:Nat}(h:w.heap[b]?=some (.cells (ndC k l r lc rc ls rs ky vv).toArray 78 (0,0)))(A:ls.length=32)(B:d.length=32):wrO prog 75 w b 5 (dg d)=some (put w b (.cells (ndC k l r lc rc d rs ky vv).toArray 78 (0,0))):=by
 rw[ndC_L]at h;have:=wr_mid (P:=prog) (t:=75) (vs:=d.map u8) (by rw[zB,A];exact sz75) (by simp[A,B]) (qXs d) h (o:=5) rfl;rw[<- ndC_L]at this;exact this
theorem nd_putR {b k l r lc rc:Nat}(h:w.heap[b]?=some (.cells (ndC k l r lc rc ls rs ky vv).toArray 78 (0,0)))(A:ls.length=32)(B:rs.length=32)(E:d.length=32):wrO prog 75 w b 37 (dg d)=some (put w b (.cells (ndC k l r lc rc ls d ky vv).toArray 78 (0,0))):=by
 rw[ndC_R]at h;have:=wr_mid (P:=prog) (t:=75) (vs:=d.map u8) (by rw[zB,B];exact sz75) (by simp[B,E]) (qXs d) h (o:=37) (by simp[A]);rw[<- ndC_R]at this;exact this
section
variable {u w0:World} {sb wd:Nat} {esv:Value} {T:PT} {oM oS:Value} {fresh:Nat}
def LB1 (u w0 w:World)(sb wd next:Nat)(esv:Value)(oR:Nat)(oM oS:Value)(n p:Nat)(mv H iv I:Value)(k D:Bs)(ns:List Nd)(ss:List Sb)(A:Ev)(B:World):Prop :=
 A 0=pt sb 0/\A 1=mv/\A 2=H/\A 3=.int .i64 (n:Nat)/\A 9=pt w.heap.size 0/\A 10=pt (w.heap.size+1) 0/\A 18=iv/\A 19=I/\A 20=.int .i64 (p:Nat)/\(∃ E,A 21=pt E 0/\B.heap[E]?=some (.cells (bl D) 75 (0,0))) /\
 B.heap[w.heap.size]?=some (.cells (bl (zK 32 0)) 75 (0,0))/\B.heap[w.heap.size+1]?=some (.cells (bl k) 76 (0,0))/\Fr (StF w0 w) w B/\SpM u w0 B sb wd next esv oR oM oS ns ss
def LB2 (u w0 w:World)(sb wd next:Nat)(esv:Value)(oR:Nat)(oM oS:Value)(n p q:Nat)(J M:Value)(k D E:Bs)(ns:List Nd)(ss:List Sb)(A:Ev)(B:World):Prop :=
 A 0=pt sb 0/\A 2=J/\A 3=.int .i64 (n:Nat)/\A 9=pt w.heap.size 0/\A 10=pt (w.heap.size+1) 0/\A 19=M/\A 20=.int .i64 (p:Nat)/\A 22=.int .i64 (q:Nat)/\(∃ H,A 21=pt H 0/\B.heap[H]?=some (.cells (bl D) 75 (0,0)))/\(∃ I,A 23=pt I 0/\B.heap[I]?=some (.cells (bl E) 75 (0,0))) /\
 B.heap[w.heap.size]?=some (.cells (bl (zK 32 0)) 75 (0,0))/\B.heap[w.heap.size+1]?=some (.cells (bl k) 76 (0,0))/\Fr (StF w0 w) w B/\SpM u w0 B sb wd next esv oR oM oS ns ss
theorem layBr (hx:LayX u w0 sb wd esv T oM oS fresh)(d8:n<256){o:PT}{A:List En}{next m1 R:Nat}{l r:PT}(ho:o.Wf n)(h5:Map n o.ents)(m9:o.ents.length<=2 ^ 40)(h2:2<=A.length)(n0:A.length<=2 ^ 40)(hM:Map n A)
  (hL:LayC u w0 sb wd esv T oM oS fresh (n+1) (kid n false o).ents (A.filter fun x=>!kbit x.1 n) next l m1) (hR:LayC u w0 sb wd esv T oM oS fresh (n+1) (kid n true o).ents (A.filter fun x=>kbit x.1 n) m1 r R)
  (s4:m1=next+(news (dgT wd) fresh (n+1) l).length) (s5:R=m1+(news (dgT wd) fresh (n+1) r).length) (s6:fresh<=next) (s7:R<=2 ^ 38) (n3:l.page<2 ^ 50) (n4:r.page<2 ^ 50)
  (h6:l.ents=A.filter fun x=>!kbit x.1 n) (h7:r.ents=A.filter fun x=>kbit x.1 n) (n5:l.Wf (n+1)) (n6:r.Wf (n+1)) :
  LayRest u w0 sb wd esv T oM oS fresh n o.ents A next (.br R l r) (R+1):=by
 intro w mv tv ns ss f0 hm ht h8 n7 U w5 ⟨W,e1,e2,Y,e9,B,kr,kk,F5,h9⟩;have f6:=StF.no f0 F5;have k0:(PT.br R l r).pgs.length=l.pgs.length+r.pgs.length+1:=by show (R::(l.pgs++r.pgs)).length=_;rw[List.length_cons,lAp]
 rw[k0]at n7;obtain⟨ma,mc,rfl,f7⟩:=hm.slice;obtain⟨ta,tc,rfl,g0⟩:=ht.slice;obtain⟨d9,n8⟩:=kid_ents ho;have k1:=h5.split d8;have g3:=hM.split d8;have k2:=congrArg kH k1;have k3:=congrArg kH g3;rw[lAp]at k2 k3
 have a6:(headK A).length=32:=by
  cases A with
  | nil=>simp at h2
  | cons e M=>exact hM.2 e sm
 have s9:=subs_len (wd:=wd) (t:=l) (n:=n+1);have n9:=subs_len (wd:=wd) (t:=r) (n:=n+1);have a4:(dgT wd (256 - (n+1)) l).length=32:=qZv _ _ _;have a5:(dgT wd (256 - (n+1)) r).length=32:=qZv _ _ _;have f1:=said_len (wd:Int) (255 - n) l;have k4:=said_len (wd:Int) (255 - n) r;have k5:l.page=0->said (dgT wd) (255 - n) l=z32:=fun h=>by rw[l.page_nil n5 h];rfl
 have f2:r.page=0->said (dgT wd) (255 - n) r=z32:=fun h=>by rw[r.page_nil n6 h];rfl
 have k6:l.page≠0->said (dgT wd) (255 - n) l=dgT wd (256 - (n+1)) l:=fun h=>by
  rw[said_of (fun e=>h (by rw[e];rfl)),show 256 - (n+1)=255 - n by omega]
 have k7:r.page≠0->said (dgT wd) (255 - n) r=dgT wd (256 - (n+1)) r:=fun h=>by
  rw[said_of (fun e=>h (by rw[e];rfl)),show 256 - (n+1)=255 - n by omega]
 have p0:news (dgT wd) fresh n (.br R l r)=news (dgT wd) fresh (n+1) l++news (dgT wd) fresh (n+1) r++[.br l.page r.page (A.filter fun x=>!kbit x.1 n).length (A.filter fun x=>kbit x.1 n).length (said (dgT wd) (255 - n) l) (said (dgT wd) (255 - n) r)]:=by
  conv=>lhs;unfold news
  rw[if_pos om];unfold ndOf;rw[h6,h7]
 have p5:subsL wd n (.br R l r)=subsL wd (n+1) l++subsL wd (n+1) r++[⟨n,R,headK A,qXd wd (dgT wd (256 - (n+1)) l) (dgT wd (256 - (n+1)) r)⟩]:=by
  show subsL wd (n+1) l++subsL wd (n+1) r++[Sb.mk n R (headK (l.ents++r.ents)) (qXd wd (dgT wd (256 - n - 1) l) (dgT wd (256 - n - 1) r))]=_;rw[h6,h7,g3,show 256 - (n+1)=256 - n - 1 by omega]
 have p6:dgT wd (256 - n) (.br R l r)=qXd wd (dgT wd (256 - (n+1)) l) (dgT wd (256 - (n+1)) r):=by
  show qXd wd (dgT wd (256 - n - 1) l) (dgT wd (256 - n - 1) r)=_;rw[show 256 - (n+1)=256 - n - 1 by omega]
 have g4:∀ (x:World) (M:List En) (a:Option Addr) (c:Nat),EnR x (.slice a M.length c) M->M.length<=c->(M.filter (fun x=>!kbit x.1 n)++M.filter fun x=>kbit x.1 n)=M->EnR x (V.cutV 33 a c 0 (M.filter fun x=>!kbit x.1 n).length) (M.filter fun x=>!kbit x.1 n)/\EnR x (V.cutV 33 a c (M.filter fun x=>!kbit x.1 n).length M.length) (M.filter fun x=>kbit x.1 n):=fun _ M a c h hc hs=>by
  have l0:=congrArg kH hs;rw[lAp]at l0;have g1:=h.cutV (l:=0) (m:=(M.filter fun x=>!kbit x.1 n).length) om om rfl;have g2:=h.cutV (l:=(M.filter fun x=>!kbit x.1 n).length) (m:=M.length) om om rfl
  have e1:((M.drop 0).take ((M.filter fun x=>!kbit x.1 n).length - 0))=M.filter fun x=>!kbit x.1 n:=by
   rw[List.drop_zero,yW]
   conv=>lhs;rw[<- hs]
   rw[zF (by rw[hs];exact xC _)];rw[hs,kK]
  have e2:((M.drop (M.filter fun x=>!kbit x.1 n).length).take (M.length - (M.filter fun x=>!kbit x.1 n).length))=M.filter fun x=>kbit x.1 n:=by
   have:M.drop (M.filter fun x=>!kbit x.1 n).length=M.filter fun x=>kbit x.1 n:=by
    conv=>lhs;arg 2;rw[<- hs]
    rw[zM (xC _),List.drop_length,zL]
   rw[this,zG om]
  rw[e1]at g1;rw[e2]at g2;exact⟨g1,g2⟩
 obtain⟨g5,e4⟩:=g4 w0 o.ents ma mc hm f7 k1;obtain⟨l1,l2⟩:=g4 u A ta tc ht g0 g3;rw[<- d9]at g5;rw[<- n8]at e4;clear g4;have l3:=fun {y:World} (f:No w0 y)=>split y (hm.fr0 f) h5 d8 m9;have p7:=fun {y:World} (f:No w0 y)=>split y (ht.fr0 (hx.hu.trans f)) hM d8 n0;rw[<- d9]at l3;have e5:=fun {y:World} {a b:Value} {c9:List Nd} {d0:List Sb} (h1:SpM u w0 y sb wd next esv T.page oM oS c9 d0) (h2:No w0 y)=>hL y a b c9 d0 h1 h2;have e6:=fun {y:World} {a b:Value} {c9:List Nd} {d0:List Sb} (h1:SpM u w0 y sb wd m1 esv T.page oM oS c9 d0) (h2:No w0 y)=>hR y a b c9 d0 h1 h2;unfold LayPost at e5 e6;show LyD (fun v w'=>v=.tuple #[vi R,dg (dgT wd (256 - n) (.br R l r))]/\Fr (StF w0 w) w w'/\SpM u w0 w' sb wd (R+1) esv T.page oM oS (ns++news (dgT wd) fresh n (.br R l r)) (ss++subsL wd n (.br R l r))) U w5;have i1:(kid n false o).ents.length<=o.ents.length:=by rw[d9];omega
 have j1:(A.filter fun x=>!kbit x.1 n).length<=A.length:=om
 have p8:(A.filter fun x=>kbit x.1 n).length=A.length - (A.filter fun x=>!kbit x.1 n).length:=om
 rw[p0,p5,p6];have a7:(qXd wd (dgT wd (256 - (n+1)) l) (dgT wd (256 - (n+1)) r)).length=32:=qXm _ _ _;have l4:=fun (y:World) (hT:Tabs y)=>branch y hT (wd:Int) a4 a5;generalize qXd wd (dgT wd (256 - (n+1)) l) (dgT wd (256 - (n+1)) r)=D at *;generalize dgT wd (256 - (n+1)) l=DL at *;generalize dgT wd (256 - (n+1)) r=DR at *;generalize said (dgT wd) (255 - n) l=SL at *;generalize said (dgT wd) (255 - n) r=SR at *;generalize news (dgT wd) fresh (n+1) l=NL at *;generalize news (dgT wd) fresh (n+1) r=NR at *;generalize subsL wd (n+1) l=UL at *;generalize subsL wd (n+1) r=UR at *;generalize hI:(kid n false o).ents.length=I at *;rw[<- d9,hI]at e4;generalize hJ:(A.filter fun x=>!kbit x.1 n).length=J at *;generalize headK A=k at *;have d1:(((A.length:Nat):Int) == 1)=false:=(nateq A.length 1).trans (decide_eq_false om);have c3:=iSu (i:=n);have p1:=slc_hi (P:=prog) slc84 arr84 sz83 (a:=ma) (n:=o.ents.length) (cap:=mc) (l:=I) om f7;have p2:=slc_lo (P:=prog) slc84 arr84 sz83 (a:=ma) (n:=o.ents.length) (cap:=mc) (l:=I) om f7;have p3:=slc_hi (P:=prog) slc84 arr84 sz83 (a:=ta) (n:=A.length) (cap:=tc) (l:=J) om g0;have p4:=slc_lo (P:=prog) slc84 arr84 sz83 (a:=ta) (n:=A.length) (cap:=tc) (l:=J) om g0;unfold LyD;simp only[go_sem,yJ,Tryz.f97,qKc,tailC,e1,e2,Y,d1];refine qQa pl143 ((l3 f6).mono ?_);rintro _ wa ⟨rfl,fa⟩;have c6:=f6.trans fa;simp only[go_sem,yJ,e2,Y];refine qQa pl143 ((p7 c6).mono ?_);rintro _ wb ⟨rfl,fb⟩;have d2:=fa.trans fb;have a9:=c6.trans fb;have b0:=d2.at kr id;have b1:=d2.at kk id;have Fb:=StF.trans F5 (StF.of w0 d2);have b3:=h9.fr0 d2;simp only[go_sem];refine qXg (Q:=fun x U w6=>x=.normal/\LB1 u w0 w sb wd m1 esv T.page oM oS n l.page (.slice ma o.ents.length mc) (.slice ta A.length tc) (.int .i64 (I:Nat)) (.int .i64 (J:Nat)) k DL (ns++NL) (ss++UL) U w6) _ (fun x U w6=>?_) ?_
 rotate_left
 ·refine qXl (fun j=>j == 13) (.one 0 (.one 1 (.one 2 (.one 3 (.one 4 (.one 5 (.one 6 (.one 7 (.one 8 (.two 9 (.row [10,11,12,13,14,15]) 13 (.row [9,10,11,12,14,15])))))))))))  rfl x8 x8 ?_
  have fd:No wb wb.drew:=(Fr.refl _ _).drew;generalize wb.drew=wc at *;have d3:=a9.trans fd;have b4:=fd.at b0 id;have b5:=fd.at b1 id;have Fc:=StF.trans Fb (StF.of w0 fd);have d4:=b3.fr0 fd;simp only[go_sem,yJ,yY,yN,bSe,qQk,OT.row,W,e1,e2,Y,p1,p3,c3];constructor
  ·refine qQe pl97 ((e5 d4 d3 g5 l1 h8 om).mono ?_);rintro _ N ⟨rfl,Fd,b6⟩
   refine⟨(fun h=>by cases h),?_⟩;obtain⟨We,qe,ke,O,se⟩:=allocD N (ty:=75) sz75 a4;have ee:Ext N (N.alloc (.cells (bl (zK 32 0)) 75)):=Ext.alloc _ _;simp only[go_sem,yJ,yY,yN,bSe,qQk,qe,ee,implies_true,true_and]
   refine⟨?_,?_,?_,?_,?_,?_,?_,?_,?_,⟨N.heap.size,?_,ke⟩,O.at (StF.at Fd b4 x9) id,O.at (StF.at Fd b5 x9) id,StF.trans (StF.trans Fc Fd) (StF.of w0 O),b6.fr0 O⟩ <;> simp only[go_sem,yJ,W,e1,e2,Y,e9,B]
  ·obtain⟨We,g6,O,ke,se⟩:=qQl wc (bl (zK 32 0)) 75
   have ee:=O.ext;simp only[go_sem,g6];refine qQe pl97 ((e5 (d4.fr0 O) (d3.trans O) g5 l1 h8 om).mono ?_);rintro _ N ⟨rfl,Fd,b6⟩;refine⟨(fun h=>by cases h),?_⟩;have b7:=StF.at Fd ke x9;have qe:=wr_d sz75 b7 zl32 a4;have g7:=qQd (o:=.cells (bl DL) 75 (0,0)) b7;have h1:=qQh b4;have h2:=qQh b5;have p9:=f0.size;have Fe:Fr (StF w0 w) w (put N wc.heap.size (.cells (bl DL) 75 (0,0))):=(StF.trans (StF.trans Fc (StF.of w0 O)) Fd).put (b:=wc.heap.size) _ fun h=>by omega
   simp only[go_sem,yJ,yY,qe]
   refine⟨?_,?_,?_,?_,?_,?_,?_,?_,?_,⟨wc.heap.size,?_,g7⟩,qQi (b:=wc.heap.size) (StF.at Fd (O.at b4 id) x9) om,qQi (b:=wc.heap.size) (StF.at Fd (O.at b5 id) x9) om,Fe,b6.put' b7 x9 _⟩ <;> simp only[go_sem,yJ,W,e1,e2,Y,e9,B]
 clear W e1 e2 Y e9 B b0 b1 Fb b3 d2 a9 fa fb c6 kr kk F5 h9 f6;rintro⟨rfl,W,e1,e2,Y,e9,B,l5,b8,c7,⟨lb,E,d5⟩,b0,b1,Fb,b3⟩;rw[thenQ_normal];have a9:=StF.no f0 Fb;simp only[go_sem];refine qXg (Q:=fun x U H=>x=.normal/\LB2 u w0 w sb wd R esv T.page oM oS n l.page r.page (.slice ta A.length tc) (.int .i64 (J:Nat)) k DL DR (ns++NL++NR) (ss++UL++UR) U H) _ (fun x U H=>?_) ?_
 rotate_left
 ·refine qXl (fun j=>j == 13) (.one 0 (.one 1 (.one 2 (.one 3 (.one 4 (.one 5 (.one 6 (.one 7 (.one 8 (.two 9 (.row [10,11,12,13,14,15]) 13 (.row [9,10,11,12,14,15])))))))))))  rfl x8 x8 ?_
  have fd:No w6 w6.drew:=(Fr.refl _ _).drew;generalize w6.drew=wc at *;have d3:=a9.trans fd;have b4:=fd.at b0 id;have b5:=fd.at b1 id;have g8:=fd.at d5 id;have Fc:=StF.trans Fb (StF.of w0 fd);have d4:=b3.fr0 fd;have f3:(ns++NL).length<=m1:=by rw[lAp];omega
  have f4:(ss++UL).length+r.pgs.length+T.pgs.length<=2 ^ 38:=by rw[lAp];omega
  simp only[go_sem,yJ,yY,yN,bSe,qQk,OT.row,W,e1,e2,Y,l5,b8,p2,p4,c3];constructor
  ·refine qQe pl97 ((e6 d4 d3 e4 l2 f3 f4).mono ?_);rintro _ N ⟨rfl,Fd,b6⟩
   refine⟨(fun h=>by cases h),?_⟩;obtain⟨We,qe,ke,O,se⟩:=allocD N (ty:=75) sz75 a5;have ee:Ext N (N.alloc (.cells (bl (zK 32 0)) 75)):=Ext.alloc _ _;simp only[go_sem,yJ,yY,yN,bSe,qQk,qe,ee,implies_true,true_and]
   refine⟨?_,?_,?_,?_,?_,?_,?_,?_,⟨lb,?_,O.at (StF.at Fd g8 x9) id⟩,⟨N.heap.size,?_,ke⟩,O.at (StF.at Fd b4 x9) id,O.at (StF.at Fd b5 x9) id,StF.trans (StF.trans Fc Fd) (StF.of w0 O),b6.fr0 O⟩ <;> simp only[go_sem,yJ,W,e2,Y,e9,B,b8,c7,E]
  ·obtain⟨We,g6,O,ke,se⟩:=qQl wc (bl (zK 32 0)) 75
   have ee:=O.ext;simp only[go_sem,g6];refine qQe pl97 ((e6 (d4.fr0 O) (d3.trans O) e4 l2 f3 f4).mono ?_);rintro _ N ⟨rfl,Fd,b6⟩;refine⟨(fun h=>by cases h),?_⟩;have b7:=StF.at Fd ke x9;have qe:=wr_d sz75 b7 zl32 a5;have g7:=qQd (o:=.cells (bl DR) 75 (0,0)) b7;have h1:=qQh b4;have h2:=qQh b5;have h3:=qQh g8;have p9:=f0.size;have Fe:Fr (StF w0 w) w (put N wc.heap.size (.cells (bl DR) 75 (0,0))):=(StF.trans (StF.trans Fc (StF.of w0 O)) Fd).put (b:=wc.heap.size) _ fun h=>by omega
   simp only[go_sem,yJ,yY,qe]
   refine⟨?_,?_,?_,?_,?_,?_,?_,?_,⟨lb,?_,qQi (b:=wc.heap.size) (StF.at Fd (O.at g8 id) x9) om⟩,⟨wc.heap.size,?_,g7⟩,qQi (b:=wc.heap.size) (StF.at Fd (O.at b4 id) x9) om,qQi (b:=wc.heap.size) (StF.at Fd (O.at b5 id) x9) om,Fe,b6.put' b7 x9 _⟩ <;> simp only[go_sem,yJ,W,e2,Y,e9,B,b8,c7,E]
 clear W e1 e2 Y e9 B l5 b8 c7 E d5 b0 b1 Fb b3 a9;clear p1 p2 p3 p4 e5 e6 hL hR;rintro⟨rfl,W,e2,Y,e9,B,b8,c7,e7,⟨lb,E,d5⟩,⟨rb,a0,f5⟩,b0,b1,Fb,b3⟩;rw[thenQ_normal];have a9:=StF.no f0 Fb;refine qWa 3 (fun U w8=>U 0=pt sb 0/\U 3=.int .i64 (n:Nat)/\U 9=pt w.heap.size 0/\U 10=pt (w.heap.size+1) 0/\U 21=pt lb 0/\U 23=pt rb 0/\No H w8/\∃ nb,U 24=pt nb 0/\w8.heap[nb]?=some (.cells (ndA (.br l.page r.page J (A.filter fun x=>kbit x.1 n).length SL SR) nil0).toArray 78 (0,0))) ?_ ?_
 ·have bn:=bldBr5 l.page r.page J (A.filter fun x=>kbit x.1 n).length
  have c4:IntKind.i64.wrap (((A.length:Nat):Int) - (J:Int))=(((A.filter fun x=>kbit x.1 n).length:Nat):Int):=by rw[p8];exact qXr om om
  have cl:∀ a b:Bs,a.length=32->b.length=32->(ndC 2 l.page r.page J (A.filter fun x=>kbit x.1 n).length a b z32 nil0).toArray.size=102:=fun a b h1 h2=>by rw[kG];exact qXf h1 h2 z32l _
  have zn:nd0.toArray.size=102:=rfl;obtain⟨W8,q0,f8,k8,s8⟩:=qQl H nd0.toArray 78;have q8:wrO prog 78 W8 H.heap.size 0 (.agg (ndC 2 l.page r.page J (A.filter fun x=>kbit x.1 n).length z32 z32 z32 nil0).toArray)=some (put W8 H.heap.size (.cells (ndC 2 l.page r.page J (A.filter fun x=>kbit x.1 n).length z32 z32 z32 nil0).toArray 78 (0,0))):=qQr (by rw[cl z32 z32 z32l z32l];exact sz78) k8 (by rw[zn,cl z32 z32 z32l z32l]) (by rw[<- kU];exact qZy _ _ _ _ _ _ _ _ rfl);have k9:=qQd (o:=.cells (ndC 2 l.page r.page J (A.filter fun x=>kbit x.1 n).length z32 z32 z32 nil0).toArray 78 (0,0)) k8;have f9:No H (put W8 H.heap.size (.cells (ndC 2 l.page r.page J (A.filter fun x=>kbit x.1 n).length z32 z32 z32 nil0).toArray 78 (0,0))):=f8.put (b:=H.heap.size) _ fun h=>by omega
  have hz:=ndZero;simp only[go_sem,yJ,yN,qQk,e2,b8,c7,e7,c4,bn,hz,q0,q8];generalize put W8 H.heap.size (.cells (ndC 2 l.page r.page J (A.filter fun x=>kbit x.1 n).length z32 z32 z32 nil0).toArray 78 (0,0))=w9 at *;have b9:=natne l.page 0;have a3:=natne r.page 0;have rl:∀ {y:World},No H y->rdO prog 75 y lb 0=some (dg DL):=fun f=>rd_d agg75 sz75 (f.at d5 id) a4;have rr:∀ {y:World},No H y->rdO prog 75 y rb 0=some (dg DR):=fun f=>rd_d agg75 sz75 (f.at f5 id) a5
  have c5:∀ (y:World) (ls:Bs), ls.length=32->No H y->y.heap[H.heap.size]?=some (.cells (ndC 2 l.page r.page J (A.filter fun x=>kbit x.1 n).length ls z32 z32 nil0).toArray 78 (0, 0))->r.page≠0 ->
    wrO prog 75 y H.heap.size 37 (dg DR)=some (put y H.heap.size (.cells (ndC 2 l.page r.page J (A.filter fun x=>kbit x.1 n).length ls SR z32 nil0).toArray 78 (0,0)))/\No H (put y H.heap.size (.cells (ndC 2 l.page r.page J (A.filter fun x=>kbit x.1 n).length ls SR z32 nil0).toArray 78 (0,0))) /\
    (put y H.heap.size (.cells (ndC 2 l.page r.page J (A.filter fun x=>kbit x.1 n).length ls SR z32 nil0).toArray 78 (0,0))).heap[H.heap.size]?=some (.cells (ndC 2 l.page r.page J (A.filter fun x=>kbit x.1 n).length ls SR z32 nil0).toArray 78 (0,0)):=fun y ls q1 f h hne=>by
   rw[k7 hne];exact⟨nd_putR h q1 z32l a5,f.put (b:=H.heap.size) _ fun h=>by omega,qQd h⟩
  by_cases e8:l.page=0
  ·have l6:=k5 e8
   have b9:((l.page:Int) != 0)=false:=by rw[e8];rfl
   by_cases a8:r.page=0
   ·have g9:=f2 a8
    have a3:((r.page:Int) != 0)=false:=by rw[a8];rfl
    simp only[go_sem,b9,a3]
    refine qKe ⟨?_,?_,?_,?_,?_,?_,f9,H.heap.size,?_,by rw[l6,g9];exact k9⟩ <;> simp only[go_sem,yJ,W,Y,e9,B,E,a0]
   ·have a3:((r.page:Int) != 0)=true:=a3.trans (decide_eq_true a8)
    obtain⟨q,fq,kq⟩:=c5 w9 z32 z32l f9 k9 a8;have q2:=rr f9;simp only[go_sem,yJ,jY,a0,b9,a3,q2,q]
    refine qKe ⟨?_,?_,?_,?_,?_,?_,fq,H.heap.size,?_,by rw[l6];exact kq⟩ <;> simp only[go_sem,yJ,W,Y,e9,B,E,a0]
  ·have b9:((l.page:Int) != 0)=true:=b9.trans (decide_eq_true e8)
   have h0:=rl f9;have ql:=nd_putL k9 z32l a4;rw[<- k6 e8]at ql h0;have kl:=qQd (o:=.cells (ndC 2 l.page r.page J (A.filter fun x=>kbit x.1 n).length SL z32 z32 nil0).toArray 78 (0,0)) k9;have fl:No H (put w9 H.heap.size (.cells (ndC 2 l.page r.page J (A.filter fun x=>kbit x.1 n).length SL z32 z32 nil0).toArray 78 (0,0))):=f9.put (b:=H.heap.size) _ fun h=>by omega
   by_cases a8:r.page=0
   ·have g9:=f2 a8
    have a3:((r.page:Int) != 0)=false:=by rw[a8];rfl
    simp only[go_sem,yJ,jY,e7,E,b9,a3,h0,ql]
    refine qKe ⟨?_,?_,?_,?_,?_,?_,fl,H.heap.size,?_,by rw[g9];exact kl⟩ <;> simp only[go_sem,yJ,W,Y,e9,B,E,a0]
   ·have a3:((r.page:Int) != 0)=true:=a3.trans (decide_eq_true a8)
    simp only[go_sem,yJ,jY,e7,E,b9,a3,h0,ql];generalize put w9 H.heap.size (.cells (ndC 2 l.page r.page J (A.filter fun x=>kbit x.1 n).length SL z32 z32 nil0).toArray 78 (0,0))=wa at *;obtain⟨q,fq,kq⟩:=c5 wa SL f1 fl kl a8;have q3:=rr fl;simp only[go_sem,yJ,jY,a0,q3,q]
    refine qKe ⟨?_,?_,?_,?_,?_,?_,fq,H.heap.size,?_,kq⟩ <;> simp only[go_sem,yJ,W,Y,e9,B,E,a0]
 clear W e2 Y e9 B b8 c7 E e7 a0;rintro U w8 ⟨W,Y,e9,B,E,a0,c0,nb,l7,q4⟩;have q5:=c0.at b0 id;have q6:=c0.at b1 id;have q7:=c0.at d5 id;have l8:=c0.at f5 id;have F8:=StF.trans Fb (StF.of w0 c0);have r0:=b3.fr0 c0;have r1:=a9.trans c0
 have d6:NdWide (.br l.page r.page J (A.filter fun x=>kbit x.1 n).length SL SR):=⟨⟨n3,n4,om,om⟩,f1,k4⟩
 have r2:=qQp (P:=prog) (t:=78) agg78 sz78 q4 (by rw[kG];exact wide_len d6 nil0);have t0:(ns++NL++NR).length<=R:=by rw[lAp,lAp];omega
 have l9:=staged10 r0 hx.hsb r1 om om d6 (vv:=nil0) rfl (NwB.nil u u).by (fun _=>rfl)
 rw[zJ (ns++NL) NR,<- zJ,zJ ns NL NR]at l9;rw[<- zJ ns,<- zJ ns,zJ ns NL NR];simp only[go_sem,yJ,tailC,W,l7,r2];refine qQa pl142 (l9.mono ?_);rintro _ w9 ⟨rfl,d7,m0⟩;have m3:=StF.at d7 q5 x9;have m4:=StF.at d7 q6 x9;have r3:=StF.at d7 q7 x9;have m5:=StF.at d7 l8 x9;have F9:=StF.trans F8 d7;have r4:=StF.no f0 F9;have t1:=qQh m3;have t2:=qQh m4;simp only[go_sem];refine qXg (Q:=fun x U wx=>x=.normal/\U 0=pt sb 0/\U 3=.int .i64 (n:Nat)/\U 9=pt w.heap.size 0/\U 10=pt (w.heap.size+1) 0/\U 25=.int .i64 (R:Nat)/\No w9 wx/\∃ db,U 26=pt db 0/\wx.heap[db]?=some (.cells (bl D) 75 (0,0))) _ (fun x U wx=>?_) ?_
 rotate_left
 ·refine qXl (fun j=>j == 7) (.one 0 (.one 1 (.one 2 (.one 3 (.one 4 (.one 5 (.two 6 (.row [7,8]) 7 (.row [6,8])))))))) rfl x8 x8 ?_
  have fd:No w9 w9.drew:=(Fr.refl _ _).drew;generalize w9.drew=wa at *;have c6:=r4.trans fd;obtain⟨nv,sv,rows,ks,_⟩:=m0.fr0 fd;have r5:rdO prog 3 wa sb 0=some (vi wd):=rd1 agg3 ks rfl;have rl:=rd_d agg75 sz75 (fd.at r3 id) a4;have rr:=rd_d agg75 sz75 (fd.at m5 id) a5;simp only[go_sem,yJ,yY,yN,bSe,jY,qQk,OT.row,W,E,a0,r5,rl,rr];constructor
  ·refine qQe pl96 ((l4 wa (hx.tabs.no c6)).mono ?_);rintro _ wb ⟨rfl,fb⟩
   refine⟨(fun h=>by cases h),?_⟩;obtain⟨Wc,qc,kc,fc,sc⟩:=allocD wb (ty:=75) sz75 a7;have ec:Ext wb (wb.alloc (.cells (bl (zK 32 0)) 75)):=Ext.alloc _ _;simp only[go_sem,yJ,yY,yN,bSe,qQk,qc,ec,implies_true,true_and]
   refine⟨?_,?_,?_,?_,(fd.trans fb).trans fc,wb.heap.size,?_,kc⟩ <;> simp only[go_sem,W,Y,e9,B]
  ·obtain⟨Wb,r6,fb,kb,t3⟩:=qQl wa (bl (zK 32 0)) 75
   have eb:=fb.ext;simp only[go_sem,r6];refine qQe pl96 ((l4 Wb (hx.tabs.no (c6.trans fb))).mono ?_);rintro _ wc ⟨rfl,fc⟩;refine⟨(fun h=>by cases h),?_⟩;have kc:=fc.at kb id;have qc:=wr_d sz75 kc zl32 a7;simp only[go_sem,yJ,yY,qc]
   refine⟨?_,?_,?_,?_,((fd.trans fb).trans fc).put (b:=wa.heap.size) _ (fun h=>by have:=fd.size;omega),wa.heap.size,?_,qQd kc⟩ <;> simp only[go_sem,W,Y,e9,B]
 clear W Y e9 B E a0 l7;rintro⟨rfl,W,Y,e9,B,m6,c8,db,m7,kd⟩;rw[thenQ_normal];simp only[go_sem];refine qXl (fun j=>j == 10) (.row [0,1,2,3,5,6,4,7,8,9,10,11,12,13,14]) rfl x8 x8 ?_;have c8:=c8.drew;have kd:wx.drew.heap[db]?=_:=kd;generalize wx.drew=wy at *;have r7:=c8.at m3 id;have r8:=c8.at m4 id;have Fy:=StF.trans F9 (StF.of w0 c8);have r9:=m0.fr0 c8;have rk:=rd_d agg76 sz76 r8 a6;have rd:=rd_d agg75 sz75 kd a7;have bs:=bldSb (bits:=n) (page:=R) a6 a7;obtain⟨sv,v8,wz,rsv,s0,cs,t4,ob,q9,Fz,Mz⟩:=r9.pushS hx.hsb (StF.no f0 Fy) (by rw[lAp,lAp];have:UR.length=r.pgs.length:=n9;omega) (x:=⟨n,R,k,D⟩) a6 a7;have lx:(sbC n R k D).toArray.size=66:=by rw[kG];exact sbC_len a6 a7
 simp only[go_sem,yJ,yY,yN,jY,qQk,OT.row,rsv,W,Y,B,m6,m7,rk,rd,bs];refine contOT_is (v:=.slice (some ⟨wy.heap.size,0,none⟩) 1 1) (w':=wy.alloc (.cells (sbC n R k D).toArray 229)) (qXb (K:=66) x9 x9 (y:=[.int .i64 0,.int .i64 0]++(zK 64 (0:Byte)).map u8) (by rfl) (by rfl) lx _) (fun _=>((Fr.refl (fun _=>False) _).alloc _).ext) ?_;simp only[go_sem,yJ];refine qZm ⟨v8,wz,s0,?_⟩;refine⟨(fun h=>by cases h),?_⟩;simp only[go_sem,yJ,yY,jY,q9];generalize put wz sb ob=wp at *;have h4:wp.drew.heap[w.heap.size]?=_:=StF.at Fz r7 x9;have m8:=rd_d agg75 sz75 (StF.at Fz kd x9) a7;have s3:rdO prog 75 wp.drew db 0=_:=m8;have qw:=wr_d sz75 h4 zl32 a7;have qr:=rd_d agg75 sz75 (qQd (o:=.cells (bl D) 75 (0,0)) h4) a7;simp only[go_sem,yJ,e9,m6,m7,m8,qw,qr];have s1:=Mz.fr0 (Fr.refl (fun _=>False) wp).drew;have s2:=StF.trans (StF.trans Fy Fz) (StF.of w0 (Fr.refl (fun _=>False) wp).drew);refine And.intro (s2.put (b:=w.heap.size) _ fun h=>absurd h (yU _)) ?_;have Z:=s1.put' h4 x9 (.cells (bl D) 75 (0,0));simp only[zJ]at Z ⊢;exact Z
theorem page_lt {t:PT}(A:0<b)(h:∀ p ∈ t.pgs,p<b):t.page<b:=by
 cases t with
 | nil=>exact A
 | leaf q k v=>exact h q (by simp[PT.pgs])
 | br q l r=>exact h q (by simp[PT.pgs])
theorem kid_map {o:PT}(A:o.Wf n)(B:Map n o.ents)(b:Bool):Map (n+1) (kid n b o).ents:=by
 cases b
 ·rw[(kid_ents A).1];exact B.lo
 ·rw[(kid_ents A).2];exact B.hi
theorem kid_len {o:PT}(A:o.Wf n)(b:Bool):(kid n b o).ents.length<=o.ents.length:=by
 cases b
 ·rw[(kid_ents A).1];exact kF _ _
 ·rw[(kid_ents A).2];exact kF _ _
theorem one10 (M:LayX u w0 sb wd esv T oM oS fresh)(N:n<=256){o:PT}{e:En}{next next':Nat}{t:PT}(O:o.Wf n)(E:o.ents.length<=2 ^ 40)(B:∀ p ∈ o.pgs, p<fresh)(H:fresh<=next)(V:next'<=2 ^ 38)(I:e.1.length=32)(J:e.2.length<=128)(R:PosS wd T n e.1 at' o)
  (A:(match pageOf e.1 e.2 o with | some p=>(PT.leaf p e.1 e.2,next) | none=>(PT.leaf next e.1 e.2,next+1))=(t,next')):LayC u w0 sb wd esv T oM oS fresh n o.ents [e] next t next':=by
 have W:next<=next':=by
  cases U:pageOf e.1 e.2 o with
  | some p=>rw[U]at A;cases A;exact xC _
  | none=>rw[U]at A;cases A;exact Nat.le_succ _
 refine layTop M N (at':=at') sm O B R E (fun Y _=>?_) fun _=>layOne M N B R I J H om A;obtain⟨p,rfl⟩:=ents_one O Y;have:pageOf e.1 e.2 (.leaf p e.1 e.2)=some p:=by simp[pageOf]
 rw[this]at A;cases A;exact⟨rfl,rfl⟩
theorem lay10 (H:LayX u w0 sb wd esv T oM oS fresh):∀ (f:Nat) {n:Nat} {at':Bool} {o:PT} {A:List En} {next next':Nat} {t:PT}, n+f=256->o.Wf n->Map n o.ents->o.ents.length<=2 ^ 40->(∀ p ∈ o.pgs, p<fresh) ->
  Map n A->A.length<=2 ^ 40->(∀ e ∈ A,e.2.length<=128)->(∀ e ∈ A,PosS wd T n e.1 at' o)->2<=next->fresh<=next->next'<=2 ^ 38->Aud.lay f n at' o A next=(t,next')->LayC u w0 sb wd esv T oM oS fresh n o.ents A next t next':=by
 intro f
 have O:∀ {f n:Nat} {at':Bool} {o:PT} {A:List En} {next next':Nat} {t:PT},n<=256->o.Wf n->o.ents.length<=2 ^ 40->(∀ p ∈ o.pgs,p<fresh)->Map n A->(∀ e ∈ A,e.2.length<=128)->(∀ e ∈ A,PosS wd T n e.1 at' o)->fresh<=next->next'<=2 ^ 38->A.length<=1->Aud.lay f n at' o A next=(t,next')->LayC u w0 sb wd esv T oM oS fresh n o.ents A next t next':=by
  intro f n at' o A next next' t hn N E J M V W I R h1 B
  match A,M,W,V,h1,B with
  | [],_,_,_,_,B =>
   have:Aud.lay f n at' o [] next=(.nil,next):=by cases f <;> rfl
   rw[this]at B;cases B;exact layNil H hn
  | [e],M,W,V,_,B =>
   have B:Aud.lay f n at' o [(e.1,e.2)] next=(t,next'):=B;rw[lay_one f n at' N e.1 e.2 next]at B;exact one10 H hn N E J I R (M.2 e sm) (V e sm) (W e sm) B
  | _::_::_,_,_,_,h1,_=>simp at h1
 induction f with
 | zero =>
  intro n at' o A next next' t a7 N Y E J M Z V W a4 I R B;refine O om N E J M V W I R ?_ B
  match A,M with
  | [],_=>simp
  | [e],_=>simp
  | e::e'::es,M =>
   have:=(List.pairwise_cons.1 M.1).1 e' sm;have h1:=this.1.1;omega
 | succ f ih =>
  intro n at' o A next next' t a7 N Y E J M Z V W a4 I R B
  by_cases a8:A.length<=1
  ·exact O om N E J M V W I R a8 B
  have h2:2<=A.length:=om
  obtain⟨e,a9,b0⟩:∃ e ∈ A,headK A=e.1:=by
   cases A with
   | nil=>simp at h2
   | cons e es=>exact⟨e,sm,rfl⟩
  have b1 : Aud.lay (f + 1) n at' o A next = if at' = true /\ o.ents = A then (o, next) else
      (.br (Aud.lay f (n + 1) (at' && isBr o) (kid n true o) (A.filter fun x => kbit x.1 n) (Aud.lay f (n + 1) (at' && isBr o) (kid n false o) (A.filter fun x => !kbit x.1 n) next).2).2 (Aud.lay f (n + 1) (at' && isBr o) (kid n false o) (A.filter fun x => !kbit x.1 n) next).1 (Aud.lay f (n + 1) (at' && isBr o) (kid n true o) (A.filter fun x => kbit x.1 n) (Aud.lay f (n + 1) (at' && isBr o) (kid n false o) (A.filter fun x => !kbit x.1 n) next).2).1,
        (Aud.lay f (n + 1) (at' && isBr o) (kid n true o) (A.filter fun x => kbit x.1 n) (Aud.lay f (n + 1) (at' && isBr o) (kid n false o) (A.filter fun x => !kbit x.1 n) next).2).2 + 1) := by
   match A,h2 with
   | [],h2=>simp at h2
   | [_],h2=>simp at h2
   | e::e'::es,_ =>
    conv=>lhs;unfold Aud.lay
    rw[if_neg (show ¬ (e'::es=[]) by simp)]
  rw[b1]at B;refine layTop H om (at':=at') om N J (by rw[b0];exact W e a9) E (fun hs ha=>?_) fun hs=>?_
  ·rw[if_pos ⟨ha,hs⟩]at B
   cases B;exact⟨rfl,rfl⟩
  ·rw[if_neg fun h=>hs ⟨h.2,h.1⟩]at B
   obtain⟨l,m1,hL⟩:∃ l m1,Aud.lay f (n+1) (at' && isBr o) (kid n false o) (A.filter fun x=>!kbit x.1 n) next=(l,m1):=⟨_,_,rfl⟩
   obtain⟨r,m2,hR⟩:∃ r m2,Aud.lay f (n+1) (at' && isBr o) (kid n true o) (A.filter fun x=>kbit x.1 n) m1=(r,m2):=⟨_,_,rfl⟩
   rw[hL]at B;dsimp only at B;rw[hR]at B;cases B;have a5:n<256:=om
   have a0:=fun b=>kid_wf (at':=at') N b;have U:=fun b p (hp:p ∈ (kid n b o).pgs)=>J p (kid_pgs hp);obtain⟨L1,L2,_⟩:=lay_pgs hL;obtain⟨R1,R2,_⟩:=lay_pgs hR;have b3:=lay_len (dgT wd) (fresh:=fresh) (U false) I H.hf hL;have b4:=lay_len (dgT wd) (fresh:=fresh) (U true) om H.hf hR;obtain⟨b5,b6,_⟩:=lay_ok (f:=f) (n:=n+1) om om (a0 false) M.lo a4 hL;obtain⟨b7,b8,_⟩:=lay_ok (f:=f) (n:=n+1) om om (a0 true) M.hi om hR
   have a3:∀ (b:Bool) x,x ∈ A->kbit x.1 n=b->PosS wd T (n+1) x.1 (at' && isBr o) (kid n b o):=fun b x H hb=>by
    have:=(W x H).kid N a5
    rwa [hb]at this
   have iL:=ih (n:=n+1) (at':=at' && isBr o) om (a0 false) (kid_map N Y false) (kD (kid_len N false) E) (U false) M.lo (kD (kF _ _) Z) (fun x H=>V x (List.mem_filter.1 H).1) (fun x H=>a3 false x (List.mem_filter.1 H).1 (by simpa using (List.mem_filter.1 H).2)) a4 I om hL;have iR:=ih (n:=n+1) (at':=at' && isBr o) om (a0 true) (kid_map N Y true) (kD (kid_len N true) E) (U true) M.hi (kD (kF _ _) Z) (fun x H=>V x (List.mem_filter.1 H).1) (fun x H=>a3 true x (List.mem_filter.1 H).1 (List.mem_filter.1 H).2) om om om hR
   have a6:∀ {t:PT} {b:Bool} {a c:Nat},(∀ p ∈ t.pgs,p ∈ (kid n b o).pgs∨a<=p/\p<c)->fresh<=2 ^ 38->c<=2 ^ 38->t.page<2 ^ 50:=fun {t b a c} h h1 h2=>page_lt x9 fun p hp=>by
    rcases h p hp with h | h
    ·have:=U _ _ h;omega
    ·omega
   exact layBr H a5 N Y E h2 Z M iL iR b3 b4 I om (a6 L2 om om) (a6 R2 om om) b6 b8 b5 b7
end
end R
end
section
namespace R
open Aud A
end R
end
section
namespace R
open Aud A
theorem bldTr {a b:Option Addr}{x y x' y':Nat}:bldO prog 141 [(0,vi n),(1,.slice a x y),(2,.slice b x' y')]=some (.agg #[vi n,.slice a x y,.slice b x' y']):=by
 unfold bldO;rw[zero141,places141];rfl
abbrev tr0:Array Value:=#[.int .i64 0,nil0,nil0]
end R
end
end Go.V
