/- Helpers. -/
import Derived.Laws.Strings
import Derived.Test.YtppmpdjlmgfdkaaGreatDoorM13
import Derived.Test.YtppmpdjlmgfdkaaGreatDoorM15
import Derived.Test.YtppmpdjlmgfdkaaGreatDoorM17
set_option linter.all false
set_option maxRecDepth 100000
set_option maxHeartbeats 8000000
open Array renaming replicate->xS
open Bool renaming not_true->y8,not_false->xH,eq_iff_iff->vF,and_true->y9
open List renaming replicate->zG,getElem?_eq_getElem->zZ,drop_eq_getElem_cons->vH,take_of_length_le->zB,drop_of_length_le->zS,getElem?_map->jL,all_cons->vJ,range->qI,getElem?_take->zK,range_succ->vB,map_append->vD,append_nil->z4,all_append->vX,drop_zero->jA,map_take->jI,getElem?_cons_zero->vM,map_nil->qE,take_append_drop->jQ,getElem?_eq_none->vN,mem_of_mem_drop->vP,take_succ_cons->vR,replicate_succ->vT,getElem?_drop->vL
open Nat renaming reduceEqDiff->j7,zero_add->jV,lt_irrefl->yZ,reduceBEq->yX,mul_one->j8,le_refl->xC,add_sub_cancel_left->vC,reduceAdd->vS,add_zero->yK,add_assoc->vA
open Option renaming bind_some->qV,map_some->qK
open Go.Value renaming cells->yU,int->vU
namespace Go.V
open Go.Proofs.Tryz Go.V.Tryz
variable {bs d raw:Bs} {wd:Int} {es:List (Bs × Bs)} {b cap e h i k l m n o p t:Nat} {F:Nat->Prop} {a:Option Addr} {bv esv v:Value} {u w w' w0:World}
section
open Go.Proofs Sha
theorem qVx (h:By w v bs):(convert 22 9 v).run prog w=.ok (.string ⟨(bs.map fun x=>UInt8.ofNat x.toNat).toArray⟩) w:=by
 rcases Nat.eq_zero_or_pos bs.length with h0 | h0
 ·obtain⟨a,cap,rfl,_⟩:=h.slice
  have L:=List.length_eq_zero_iff.1 h0;subst L
  cases a with
  | none=>rfl
  | some U=>rfl
 ·obtain⟨b,o,cap,e,_⟩:=h.pos h0
  subst e;obtain⟨_,a,c,M,V,I⟩:=id h;cases M;obtain⟨b2,W,N,I⟩:=I x8;cases N
  obtain⟨B,H,fz,A,hl⟩:∃ B H fz,w.heap[b]?=some (.cells B H fz)/\∀ i,i<bs.length->B[o+i]?=(bs.map u8)[i]?:=by
   have D:=I 0 x8;have O:(bs.map u8)[0]?=some (bs.map u8)[0]:=zZ (by simp;omega);rw[O]at D
   obtain⟨B,H,fz,A⟩:∃ B H fz,w.heap[b]?=some (.cells B H fz):=by
    unfold rc at D;split at D
    ·rename_i J;exact⟨_,_,_,J⟩
    ·cases D
   exact⟨B,H,fz,A,fun i hi=>by rw[<- I i x8,qXl A]⟩
  have R:o+bs.length<=B.size:=by
   have D:=hl (bs.length - 1) x8;rw[zZ (by simp;omega)]at D;have:=(Array.getElem?_eq_some_iff.1 D).1;omega
  have T:=r_conv_str (P:=prog) (s:=22) (d:=9) (n:=bs.length) (cap:=cap) slc22 int5 str9 (l:=bs.map fun x=>(x.toNat:Int)) A R (by
   apply List.ext_getElem?;intro i;rw[Array.getElem?_toList,Array.getElem?_extract];split
   ·rw[hl i x8]
    simp only[List.map_map,jL]
    rfl
   ·rw[vN (by simp;omega)])
  rw[T,List.map_map]
  rfl
theorem str_eq (a b:Bs):(ByteArray.toList ⟨(a.map fun x=>UInt8.ofNat x.toNat).toArray⟩ == ByteArray.toList ⟨(b.map fun x=>UInt8.ofNat x.toNat).toArray⟩)=decide (a=b):=by
 rw[ByteArray.toList_eq,ByteArray.toList_eq];rw[vF,beq_iff_eq,decide_eq_true_iff];constructor
 ·intro h
  have h:a.map (fun x=>UInt8.ofNat x.toNat)=b.map (fun x=>UInt8.ofNat x.toNat):=h
  refine List.map_inj_right (fun x y e=>?_) |>.1 h
  have:=congrArg UInt8.toNat e;have A:=x.isLt;have B:=y.isLt;simp only[UInt8.toNat_ofNat']at this;apply BitVec.eq_of_toNat_eq;omega
 ·rintro rfl;rfl
theorem bequal (w0:World){av bv:Value}{a b:Bs}(ha:By w0 av a)(A:By w0 bv b):Fn prog 186 #[av,bv] w0 fun v w'=>v=.bool (decide (a=b))/\w'=w0:=by
 refine go186 sm ?_;simp only[go_sem,j7,Tryz.f186];refine qQj ⟨_,_,qVx ha,?_⟩;simp only[go_sem,j7];refine qQj ⟨_,_,qVx A,?_⟩;simp only[go_sem,j7];rw[str_eq];exact⟨rfl,trivial⟩
end
section
open Go.Proofs
namespace A
open Aud
section
variable {t e n:Nat} (ha:arrO prog t=some (n,e)) (hs:szO prog e=some 1) (b:Nat) {l h:Nat} (hl:l<=h) (hh:h<=n)
include ha hs hl hh
theorem slcA (B:l<n):qQv prog t (pt b 0) (some (.int .i64 (l:Nat))) (some (.int .i64 (h:Nat))) none=some (.slice (some ⟨b,l,none⟩) (h - l) (n - l)):=by
 have A:¬ n=l:=x8
 simp only[qQv,ha,optB,sbO_nat hh,sbO_nat hl,qV,hs,qK,A,if_false,Addr.add,j8,jV]
 cases l <;> simp
end
theorem slcAlo (ha:arrO prog t=some (n,e))(hs:szO prog e=some 1)(b:Nat)(A:l<n):qQv prog t (pt b 0) (some (.int .i64 (l:Nat))) none none=some (.slice (some ⟨b,l,none⟩) (n - l) (n - l)):=by
 have B:¬ n=l:=x8
 simp only[qQv,ha,optB,sbO_nat (Nat.le_of_lt A),qV,hs,qK,B,if_false,Addr.add,j8,jV]
 cases l <;> simp
theorem slcAhi (ha:arrO prog t=some (n,e))(hs:szO prog e=some 1)(b:Nat)(A:h<=n)(D:0<n):qQv prog t (pt b 0) none (some (.int .i64 (h:Nat))) none=some (.slice (some ⟨b,0,none⟩) h n):=by
 have B:¬ n=0:=x8
 simp only[qQv,ha,optB,sbO_nat A,qV,hs,qK,B,if_false,Addr.add,Nat.zero_mul,Nat.sub_zero,if_true]
theorem rowBy {e:TypeId}{fz:Nat × Nat}(h:w.heap[b]?=some (.cells (bl d) e fz))(D:o+m<=d.length)(B:m<=cap):By w (.slice (some ⟨b,o,none⟩) m cap) ((d.drop o).take m):=by
 have hl:((d.drop o).take m).length=m:=by rw[lTk,lDr];omega
 refine⟨sm,_,_,by rw[hl],by rw[hl];exact B,fun _=>⟨_,_,rfl,fun j A=>?_⟩⟩;rw[hl,j8]at A;rw[qXl h,bl_at x8,jI,zK,if_pos A,List.map_drop,vL,jL,zZ x8,qQw 0 x8];rfl
theorem beq_dec1 (a b:Byte):(a == b)=decide (a=b):=by
 by_cases h:a=b
 ·subst h;simp
 ·rw[decide_eq_false h];simpa using h
theorem qZn:bldO prog 67 []=some (.agg sup0):=by
 unfold bldO;rw[zero67,places67];rfl
theorem bldSup (a b c d e:Int):bldO prog 67 [(0,.int .i64 a),(1,.int .i64 b),(2,.int .i64 c),(3,.int .i64 d),(4,.int .i64 e)]=some (.agg #[.int .i64 a,.int .i64 b,.int .i64 c,.int .i64 d,.int .i64 e]):=by
 unfold bldO;rw[zero67,places67];rfl
theorem qZj:sup0.all one=true:=by rw[<- Array.all_toList];rfl
theorem cutV_hi (b o cap m:Nat):cutV 1 (some ⟨b,o,none⟩) cap 0 m=.slice (some ⟨b,o,none⟩) m cap:=by
 unfold cutV;simp[Addr.add]
def SuQ (w0:World)(r:Except Int Sup)(v:Value)(w':World):Prop:=No w0 w'/\match r with
 | .error e=>v=.tuple #[.agg sup0,.int .i64 e]
 | .ok s=>v=.tuple #[.agg (supC s),.int .i64 0]
theorem letters_eq:(([76,68,71,49]:Bs).map fun x=>UInt8.ofNat x.toNat).toArray=#[76,68,71,49]:=rfl
theorem unpackSuper (w0:World)(hp:By w0 (.slice (some ⟨b, o, none⟩) 256 cap) raw)(a4:256<=cap) :
  Fn prog 79 #[.slice (some ⟨b,o,none⟩) 256 cap] w0 (SuQ w0 (supP raw)):=by
 have c7:raw.length=256:=hp.len.symm;refine go79 sm ?_;obtain⟨W,hW,f1,k1,s1⟩:=qQl w0 sup0 67;have d1:(((256:Nat):Int) != 256)=false:=rfl;have a5:qQv prog 22 (.slice (some ⟨b,o,none⟩) 256 cap) none (some (.int .i64 64)) none=some (.slice (some ⟨b,o,none⟩) 64 cap):=(slc_hi slc22 arr22 sz5 (l:=64) (n:=256) x8 a4).trans (by rw[cutV_hi])
 have y1:By W (.slice (some ⟨b,o,none⟩) 64 cap) (raw.take 64):=by
  have:=By.slc (hp.fr0 f1) (l:=0) (m:=64) x8 x8;rw[cutV_hi]at this;exact this
 have O:(raw.take 64).length=64:=by rw[lTk];omega
 simp only[go_sem,j7,yU,Tryz.f79,d1,a5,hW];refine qQa pl121 ((wholeW W y1 x8 x8).mono ?_);rintro _ R ⟨rfl,f2⟩;have Y:=f1.trans f2;have k2:=f2.at k1 id
 have a3:∀ (w:World) (vs:Array Value), No w0 w->w.heap[w0.heap.size]?=some (.cells sup0 67 (0, 0))->vs.size=5->vs.all one=true ->
   wrO prog 67 w w0.heap.size 0 (.agg vs)=some (put w w0.heap.size (.cells vs 67 (0,0)))/\rdO prog 67 (put w w0.heap.size (.cells vs 67 (0,0))) w0.heap.size 0=some (.agg vs)/\No w0 (put w w0.heap.size (.cells vs 67 (0,0))):=fun w vs f k h5 ho =>
  ⟨qQo (by rw[h5];exact sz67) k (by rw[h5];rfl) ho,qKs agg67 (by rw[h5];exact sz67) (qQd (o:=.cells vs 67 (0,0)) k),f.put (b:=w0.heap.size) _ fun h=>absurd h (yZ _)⟩
 unfold supP
 cases hw:qKj (raw.take 64) with
 | false =>
  obtain⟨D,H,B⟩:=a3 R sup0 Y k2 rfl qZj;rw[if_pos rfl];simp only[go_sem,j7,xH,qZn,D,H];exact⟨B,rfl⟩
 | true =>
  rw[if_neg j0]
  have a6:rdO prog 209 R b o=some (dg (raw.take 64)):=rd_dg agg209 sz209 O x8 fun i hi=>by
   obtain⟨a,c,e,hc,hr⟩:=hp.at;simp only[Value.slice.injEq]at e;obtain⟨rfl,_,rfl⟩:=e;obtain⟨b',o',e,hr⟩:=hr i x8;cases e;rw[Y.rc (rc_lt hr) id,hr,jI,zK,if_pos hi,jL,zZ x8];rfl
  have b6:(64<=64)=True:=sm
  obtain⟨W2,b7,f3,k3,s3⟩:=qQl R (bl (zG 64 0)) 209;have B:wrO prog 209 W2 R.heap.size 0 (dg (raw.take 64))=some (put W2 R.heap.size (.cells (bl (raw.take 64)) 209 (0,0))):=qQo (by rw[qXn,O];exact sz209) k3 (by rw[qXn,qXn,O];rfl) (bl_one _);have N:=qQd (o:=.cells (bl (raw.take 64)) 209 (0,0)) k3;have I:No w0 (put W2 R.heap.size (.cells (bl (raw.take 64)) 209 (0,0))):=(Y.trans f3).put (b:=R.heap.size) _ fun h=>by have:=Y.size;omega
  have J:=qQh (b:=R.heap.size) (o:=.cells (bl (raw.take 64)) 209 (0,0)) (f3.at k2 id) (by have:=qQi k2;omega);simp only[go_sem,j7,yU,y8,qQk,a5,b6,a6,b7,B];generalize put W2 R.heap.size (.cells (bl (raw.take 64)) 209 (0,0))=A at *;have hsb:w0.heap.size<R.heap.size:=qQi k2;generalize R.heap.size=sb at *;have b8:qQv prog 209 (pt sb 0) none (some (.int .i64 4)) none=some (.slice (some ⟨sb,0,none⟩) 4 64):=slcAhi arr209 sz5 sb (h:=4) x8 x8
  have yy:∀ (w:World),w.heap[sb]?=some (.cells (bl (raw.take 64)) 209 (0,0))->∀ {o m cap:Nat},o+m<=64->m<=cap->By w (.slice (some ⟨sb,o,none⟩) m cap) ((raw.drop o).take m):=fun w k o m cap hm hc=>by
   have:=rowBy k (o:=o) (m:=m) (cap:=cap) (by rw[O];exact hm) hc;rw[List.drop_take,List.take_take,Nat.min_eq_left x8]at this;exact this
  have y4:=yy A N (o:=0) (m:=4) (cap:=64) x8 x8;rw[jA]at y4;simp only[go_sem,b8];refine qQj ⟨_,_,qVx y4,?_⟩;have se:=str_eq (raw.take 4) [76,68,71,49];rw[letters_eq]at se
  have T:∀ w, No w0 w->w.heap[w0.heap.size]?=some (.cells sup0 67 (0, 0))->¬ (supF raw/\(supR raw).ok) ->
    wrO prog 67 w w0.heap.size 0 (.agg sup0)=some (put w w0.heap.size (.cells sup0 67 (0,0)))/\rdO prog 67 (put w w0.heap.size (.cells sup0 67 (0,0))) w0.heap.size 0=some (.agg sup0)/\SuQ w0 (if supF raw/\(supR raw).ok then .ok (supR raw) else .error 53) (.tuple #[.agg sup0,.int .i64 53]) (put w w0.heap.size (.cells sup0 67 (0,0))):=fun w f k hn=>by
   obtain⟨D,H,B⟩:=a3 w sup0 f k rfl qZj;rw[if_neg hn];exact⟨D,H,B,rfl⟩
  by_cases hL:raw.take 4=[76,68,71,49]
  case neg =>
   rw[decide_eq_false hL]at se;obtain⟨D,H,B⟩:=T A I J fun h=>hL h.1.1;simp only[go_sem,j7,qXd,xH,se,qZn,D,H,if_true];exact B
  rw[decide_eq_true hL]at se;have b9:qQv prog 209 (pt sb 0) (some (.int .i64 5)) (some (.int .i64 8)) none=some (.slice (some ⟨sb,5,none⟩) 3 59):=slcA arr209 sz5 sb (l:=5) (h:=8) x8 x8 x8;simp only[go_sem,j7,bSe,y8,se,b9];refine qQa pl122 ((allZero A (yy A N (o:=5) (m:=3) x8 x8) (by rw[lTk];omega)).mono ?_);rintro _ _ ⟨rfl,rfl⟩;rename_i A
  cases a7:zer ((raw.drop 5).take 3) with
  | false =>
   obtain⟨D,H,B⟩:=T A I J fun h=>by have:=h.1.2.1;rw[a7]at this;cases this
   simp only[go_sem,j7,bSe,qXd,xH,qZn,D,H];exact B
  | true =>
  have a8:qQv prog 209 (pt sb 0) (some (.int .i64 28)) (some (.int .i64 60)) none=some (.slice (some ⟨sb,28,none⟩) 32 36):=slcA arr209 sz5 sb (l:=28) (h:=60) x8 x8 x8;simp only[go_sem,j7,bSe,y8,a8];refine qQa pl122 ((allZero A (yy A N (o:=28) (m:=32) x8 x8) (by rw[lTk];omega)).mono ?_);rintro _ _ ⟨rfl,rfl⟩;rename_i A
  cases a9:zer ((raw.drop 28).take 32) with
  | false =>
   obtain⟨D,H,B⟩:=T A I J fun h=>by have:=h.1.2.2.1;rw[a9]at this;cases this
   simp only[go_sem,j7,bSe,qXd,xH,qZn,D,H];exact B
  | true =>
  have b0:qQv prog 209 (pt sb 0) (some (.int .i64 15)) (some (.int .i64 16)) none=some (.slice (some ⟨sb,15,none⟩) 1 49):=slcA arr209 sz5 sb (l:=15) (h:=16) x8 x8 x8;simp only[go_sem,j7,bSe,y8,b0];refine qQa pl122 ((allZero A (yy A N (o:=15) (m:=1) x8 x8) (by rw[lTk];omega)).mono ?_);rintro _ _ ⟨rfl,rfl⟩;rename_i A
  have c0:(raw.drop 15).take 1=[raw.getD 15 0]:=by
   rw[vH x8,qQw 0 x8];rfl
  have c3:zer ((raw.drop 15).take 1)=decide (raw.getD 15 0=0):=by
   rw[c0];unfold zer;simp only[vJ,List.all_nil,y9,beq_dec1]
  rw[c3]
  by_cases Z:raw.getD 15 0=0
  case neg =>
   obtain⟨D,H,B⟩:=T A I J fun h=>Z h.1.2.2.2;rw[decide_eq_false Z];simp only[go_sem,j7,bSe,xH,qZn,D,H];exact B
  rw[decide_eq_true Z]
  have hF:supF raw:=⟨hL,a7,a9,Z⟩
  have r4:rdO prog 5 A sb 4=some (.int .u8 ((raw.getD 4 0).toNat:Int)):=by
   have:=(yy A N (o:=0) (m:=64) (cap:=64) x8 x8)
   rw[jA]at this;have:=this.get agg5 (i:=4) (by rw[O];omega);rw[getD_take x8,jV]at this;exact this
  have e4:=ext8i (raw.getD 4 0);have c4:qQv prog 209 (pt sb 0) (some (.int .i64 8)) none none=some (.slice (some ⟨sb,8,none⟩) 56 56):=slcAlo arr209 sz5 sb (l:=8) x8;have b1:qQv prog 209 (pt sb 0) (some (.int .i64 16)) none none=some (.slice (some ⟨sb,16,none⟩) 48 48):=slcAlo arr209 sz5 sb (l:=16) x8;have b3:qQv prog 209 (pt sb 0) (some (.int .i64 20)) none none=some (.slice (some ⟨sb,20,none⟩) 44 44):=slcAlo arr209 sz5 sb (l:=20) x8;have b4:qQv prog 209 (pt sb 0) (some (.int .i64 24)) none none=some (.slice (some ⟨sb,24,none⟩) 40 40):=slcAlo arr209 sz5 sb (l:=24) x8
  have M:∀ (w:World),w.heap[sb]?=some (.cells (bl (raw.take 64)) 209 (0,0))->∀ {o m n:Nat},o+m<=64->n<=m->n<=7->Fn prog 123 #[.slice (some ⟨sb,o,none⟩) m m,.int .i64 (n:Nat)] w fun v w'=>v=.int .i64 (le ((raw.drop o).take n))/\w'=w:=fun w k o m n h1 h2 h3=>by
   have:=get w (yy w k (o:=o) (m:=m) (cap:=m) h1 (xC _)) (n:=n) (by rw[lTk,lDr];omega) h3;rw[List.take_take,Nat.min_eq_left h2]at this;exact this
  have x4:(0:Int)<=4/\(4:Int)<((64:Nat):Int):=x8
  have bs:bldO prog 67 [(0,.int .i64 ((raw.getD 4 0).toNat:Int)),(1,.int .i64 (le ((raw.drop 8).take 7):Nat)),(2,.int .i64 (le ((raw.drop 16).take 4):Nat)),(3,.int .i64 (le ((raw.drop 20).take 4):Nat)),(4,.int .i64 (le ((raw.drop 24).take 4):Nat))]=some (.agg (supC (supR raw))):=bldSup _ _ _ _ _;clear se y4 y1 a6 B hp;simp only[go_sem,j7,bSe,y8];refine qXg (Q:=fun e ev w=>e=.normal/\∃ tb,ev 2=pt w0.heap.size 0/\ev 5=pt tb 0/\w.heap[tb]?=some (.cells (supC (supR raw)) 67 (0,0))/\No w0 w/\w.heap[w0.heap.size]?=some (.cells sup0 67 (0,0))) _ (fun e ev w=>?_) ?_
  ·rintro⟨rfl,tb,e2,e5,kt,fw,kr⟩
   have rt:=qQm (P:=prog) (t:=67) agg67 sz67 kt;simp only[go_sem,e5,rt];refine qQa pl124 ((valid w (supR raw)).mono ?_);rintro _ w5 ⟨rfl,U⟩
   by_cases a0:(supR raw).ok
   case neg =>
    obtain⟨D,H,B⟩:=T w5 (fw.trans U) (U.at kr id) fun h=>a0 h.2;rw[decide_eq_false a0];simp only[go_sem,j7,xH,e2,qZn,D,H];exact B
   rw[decide_eq_true a0];obtain⟨D,H,B⟩:=a3 w5 (supC (supR raw)) (fw.trans U) (U.at kr id) rfl (qZz _);have c5:=qQm (P:=prog) (t:=67) agg67 sz67 (U.at kt id);rw[if_pos ⟨hF,a0⟩];simp only[go_sem,j7,y8,e2,e5,c5,D,H];exact⟨B,rfl⟩
  have b5:∀ w:World, w.heap[sb]?=some (.cells (bl (raw.take 64)) 209 (0, 0))->w.heap[w0.heap.size]?=some (.cells sup0 67 (0, 0))->No w0 w->∃ W, w.alloc (.cells sup0 67)=W/\Ext w W/\W.heap[sb]?=some (.cells (bl (raw.take 64)) 209 (0, 0)) /\
    wrO prog 67 W w.heap.size 0 (.agg (supC (supR raw)))=some (put W w.heap.size (.cells (supC (supR raw)) 67 (0,0)))/\(put W w.heap.size (.cells (supC (supR raw)) 67 (0,0))).heap[w.heap.size]?=some (.cells (supC (supR raw)) 67 (0,0))/\No w0 (put W w.heap.size (.cells (supC (supR raw)) 67 (0,0)))/\(put W w.heap.size (.cells (supC (supR raw)) 67 (0,0))).heap[w0.heap.size]?=some (.cells sup0 67 (0,0)):=fun w k kr f=>by
   obtain⟨W5,L,U,k5,s5⟩:=qQl w sup0 67;exact⟨W5,L,U.ext,U.at k id,qQo sz67 k5 rfl (qZz _),qQd (o:=.cells (supC (supR raw)) 67 (0,0)) k5,(f.trans U).put (b:=w.heap.size) _ fun h=>by have:=f.size;omega,qQh (b:=w.heap.size) (o:=.cells (supC (supR raw)) 67 (0,0)) (U.at kr id) (by have:=qQi kr;omega)⟩
  have c6:rdO prog 5 A.drew sb 4=some (.int .u8 ((raw.getD 4 0).toNat:Int)):=r4
  replace N:A.drew.heap[sb]?=_:=N
  replace J:A.drew.heap[w0.heap.size]?=_:=J
  replace I:=I.drew
  clear r4;refine qXj (fun j=>j == 4 || (j == 6 || (j == 8 || (j == 10 || j == 12)))) (.one 0 (.one 1 (.one 2 (.one 3 (.one 5 (.one 7 (.one 9 (.two 4 (.two 6 (.two 8 (.two 10 (.row [11,12,13]) 12 (.row [10,11,13])) 12 (.row [8,10,11,13])) 12 (.row [6,8,10,11,13])) 12 (.row [4,6,8,10,11,13]))))))))) rfl x9 x9 ?_;generalize A.drew=A at *;obtain⟨W5,L,x5,V,q5,k6,f6,k7⟩:=b5 A N J I;simp only[go_sem,j7,yX,yU,bSe,jV,OT.row,x4,and_self,if_true,Int.reduceToNat,j8,c6,e4,c4,b1,b3,b4,L,x5,implies_true];refine⟨?_,?_⟩
  ·refine qQc pl123 ((M _ N (o:=8) (m:=56) (n:=7) x8 x8 x8).mono ?_);rintro _ _ ⟨rfl,rfl⟩;refine⟨fun _=>Ext.refl _,?_⟩
   simp only[go_sem,j7,yX,yU,bSe,L,x5,implies_true];refine⟨?_,?_⟩
   ·refine qQc pl123 ((M _ N (o:=16) (m:=48) (n:=4) x8 x8 x8).mono ?_);rintro _ _ ⟨rfl,rfl⟩;refine⟨fun _=>Ext.refl _,?_⟩
    simp only[go_sem,j7,yX,yU,bSe,L,x5,implies_true];refine⟨?_,?_⟩
    ·refine qQc pl123 ((M _ N (o:=20) (m:=44) (n:=4) x8 x8 x8).mono ?_);rintro _ _ ⟨rfl,rfl⟩;refine⟨fun _=>Ext.refl _,?_⟩
     simp only[go_sem,j7,yX,yU,bSe,L,x5,implies_true];refine⟨?_,?_⟩
     ·refine qQc pl123 ((M _ N (o:=24) (m:=40) (n:=4) x8 x8 x8).mono ?_);rintro _ _ ⟨rfl,rfl⟩;refine⟨fun _=>Ext.refl _,?_⟩
      simp only[go_sem,j7,yX,yU,bSe,bs,L,q5,x5,implies_true];exact⟨_,rfl,k6,f6,k7⟩
     ·refine qQc pl123 ((M _ V (o:=24) (m:=40) (n:=4) x8 x8 x8).mono ?_);rintro _ _ ⟨rfl,rfl⟩;refine⟨fun _=>Ext.refl _,?_⟩
      simp only[go_sem,j7,yX,bs,q5];exact⟨_,rfl,k6,f6,k7⟩
    ·refine qQc pl123 ((M _ V (o:=20) (m:=44) (n:=4) x8 x8 x8).mono ?_);rintro _ _ ⟨rfl,rfl⟩;refine⟨fun _=>Ext.refl _,?_⟩
     simp only[go_sem,j7];refine qQc pl123 ((M _ V (o:=24) (m:=40) (n:=4) x8 x8 x8).mono ?_);rintro _ _ ⟨rfl,rfl⟩;refine⟨fun _=>Ext.refl _,?_⟩;simp only[go_sem,j7,yX,bs,q5];exact⟨_,rfl,k6,f6,k7⟩
   ·refine qQc pl123 ((M _ V (o:=16) (m:=48) (n:=4) x8 x8 x8).mono ?_);rintro _ _ ⟨rfl,rfl⟩;refine⟨fun _=>Ext.refl _,?_⟩
    simp only[go_sem,j7];refine qQc pl123 ((M _ V (o:=20) (m:=44) (n:=4) x8 x8 x8).mono ?_);rintro _ _ ⟨rfl,rfl⟩;refine⟨fun _=>Ext.refl _,?_⟩;simp only[go_sem,j7];refine qQc pl123 ((M _ V (o:=24) (m:=40) (n:=4) x8 x8 x8).mono ?_);rintro _ _ ⟨rfl,rfl⟩;refine⟨fun _=>Ext.refl _,?_⟩;simp only[go_sem,j7,yX,bs,q5];exact⟨_,rfl,k6,f6,k7⟩
  ·refine qQc pl123 ((M _ V (o:=8) (m:=56) (n:=7) x8 x8 x8).mono ?_);rintro _ _ ⟨rfl,rfl⟩;refine⟨fun _=>Ext.refl _,?_⟩
   simp only[go_sem,j7];refine qQc pl123 ((M _ V (o:=16) (m:=48) (n:=4) x8 x8 x8).mono ?_);rintro _ _ ⟨rfl,rfl⟩;refine⟨fun _=>Ext.refl _,?_⟩;simp only[go_sem,j7];refine qQc pl123 ((M _ V (o:=20) (m:=44) (n:=4) x8 x8 x8).mono ?_);rintro _ _ ⟨rfl,rfl⟩;refine⟨fun _=>Ext.refl _,?_⟩;simp only[go_sem,j7];refine qQc pl123 ((M _ V (o:=24) (m:=40) (n:=4) x8 x8 x8).mono ?_);rintro _ _ ⟨rfl,rfl⟩;refine⟨fun _=>Ext.refl _,?_⟩;simp only[go_sem,j7,yX,bs,q5];exact⟨_,rfl,k6,f6,k7⟩
end A
end
section
open Go.Proofs
namespace A
open Aud
abbrev rc00:Rc:=⟨0,0,0,0,0,0,z32⟩
theorem rcZero:#[.int .i64 0,.int .i64 0,.int .i64 0,.int .i64 0,.int .i64 0,.int .i64 0]++bl (zG 32 0)=(rcC rc00).toArray:=x9
theorem bldRc0:bldO prog 80 []=some (.agg (rcC rc00).toArray):=by
 rw[qJp zero80 places80 (c:=(rcC rc00).toArray) x9];rfl
theorem cutV_lo (h:l<cap):cutV 1 (some ⟨b,o,none⟩) cap l m=.slice (some ⟨b,o+l,none⟩) (m - l) (cap - l):=by
 unfold cutV;rw[if_neg x8]
 cases l <;> simp[Addr.add]
def ptrs (b:Nat):Array Value:=#[pt b 0,pt b 1,pt b 2,pt b 3,pt b 4,pt b 5]
theorem bldPtrs (b:Nat):bldO prog 308 [(0,pt b 0),(1,pt b 1),(2,pt b 2),(3,pt b 3),(4,pt b 4),(5,pt b 5)]=some (.agg (ptrs b)):=by
 unfold bldO;rw[zero308,places308,arr308];simp only[qV,sz240];have s:∀ (i:Nat) (a r:List Value) (u:Value) (rest:List (Nat × Value)),a.length=i->Instr.fill (fun i=>some (i*1,1)) (a++u::r).toArray ((i,pt b i)::rest)=Instr.fill (fun i=>some (i*1,1)) (a++pt b i::r).toArray rest:=fun i a r u rest ha=>qJb rfl (by rw[ha,j8]) rfl;have n:∀ k,zG (k+1) (Value.pointer none)=.pointer none::zG k (.pointer none):=fun k=>rfl;have B:=s 0 [] (zG 5 (.pointer none)) (.pointer none) [(1,pt b 1),(2,pt b 2),(3,pt b 3),(4,pt b 4),(5,pt b 5)] rfl;have D:=s 1 [pt b 0] (zG 4 (.pointer none)) (.pointer none) [(2,pt b 2),(3,pt b 3),(4,pt b 4),(5,pt b 5)] rfl;have H:=s 2 [pt b 0,pt b 1] (zG 3 (.pointer none)) (.pointer none) [(3,pt b 3),(4,pt b 4),(5,pt b 5)] rfl;have I:=s 3 [pt b 0,pt b 1,pt b 2] (zG 2 (.pointer none)) (.pointer none) [(4,pt b 4),(5,pt b 5)] rfl;have J:=s 4 [pt b 0,pt b 1,pt b 2,pt b 3] (zG 1 (.pointer none)) (.pointer none) [(5,pt b 5)] rfl;have A:=s 5 [pt b 0,pt b 1,pt b 2,pt b 3,pt b 4] [] (.pointer none) [] rfl;rw[qXq]at A;exact congrArg (Option.map Value.agg) (((((B.trans D).trans H).trans I).trans J).trans A)
theorem part_ptrs (b:Nat)(h:i<6):partO prog 240 (ptrs b) i=some (pt b i):=by
 rw[qWb agg240]
 match i,h with
 | 0,_=>rfl
 | 1,_=>rfl
 | 2,_=>rfl
 | 3,_=>rfl
 | 4,_=>rfl
 | 5,_=>rfl
def rcI (l:Bs)(i:Nat):List Value:=(qI i).map (fun j=>vU .i64 (nat4 l (4*j):Nat))++(zG (6 - i) (.int .i64 0)++z32.map u8)
theorem rcI_step (l:Bs)(h:i<6):(qI i).map (fun j=>vU .i64 (nat4 l (4*j):Nat))++vU .i64 (nat4 l (4*i):Nat)::(zG (5 - i) (.int .i64 0)++z32.map u8)=rcI l (i+1):=by
 unfold rcI;rw[vB,vD,List.append_assoc,show 6 - (i+1)=5 - i by omega];rfl
theorem rcI_at (l:Bs)(h:i<6):rcI l i=(qI i).map (fun j=>vU .i64 (nat4 l (4*j):Nat))++vU .i64 0::(zG (5 - i) (.int .i64 0)++z32.map u8):=by
 unfold rcI;rw[show 6 - i=(5 - i)+1 by omega,vT];rfl
def rdI (u:World)(D:Value)(B A:Nat)(l:Bs)(m:Nat)(vs:List Value)(w:World):Prop :=
 ∃ i,i<=6/\m=6 - i/\vs=[D,pt B 0,.int .i64 0,pt A 0,.agg (ptrs A),.int .i64 (i:Nat)]/\w.heap[A]?=some (.cells (rcI l i).toArray 80 (0,0))/\w.heap[B]?=some (.cells (rcC rc00).toArray 80 (0,0))/\No u w
def RecQ (w0:World)(r:Option Rc)(v:Value)(w':World):Prop:=No w0 w'/\match r with
 | none=>v=.tuple #[.agg (rcC rc00).toArray,.int .i64 150]
 | some r=>v=.tuple #[.agg (rcC r).toArray,.int .i64 0]
theorem rdecode (w0:World){p:Value}{l:Bs}(V:By w0 p l)(hl:l.length<=2 ^ 40):Fn prog 232 #[p] w0 (RecQ w0 (decR l)):=by
 obtain⟨a,cap,rfl,I⟩:=V.slice;refine go232 sm ?_;obtain⟨W,hW,f1,k1,s1⟩:=qQl w0 (rcC rc00).toArray 80
 have J:∀ (w:World) (r:Rc), No w0 w->w.heap[w0.heap.size]?=some (.cells (rcC rc00).toArray 80 (0, 0))->r.sum.length=32 ->
   wrO prog 80 w w0.heap.size 0 (.agg (rcC r).toArray)=some (put w w0.heap.size (.cells (rcC r).toArray 80 (0,0)))/\rdO prog 80 (put w w0.heap.size (.cells (rcC r).toArray 80 (0,0))) w0.heap.size 0=some (.agg (rcC r).toArray)/\No w0 (put w w0.heap.size (.cells (rcC r).toArray 80 (0,0))):=fun w r f k h5 =>
  ⟨qQo (by simp[qXc h5];exact sz80) k (by simp[qXc h5,qXc (r:=rc00) sm]) (by simpa using rcC_one r),qKs agg80 (by simp[qXc h5];exact sz80) (qQd (o:=.cells (rcC r).toArray 80 (0,0)) k),f.put (b:=w0.heap.size) _ fun h=>absurd h (yZ _)⟩
 by_cases D:l.length=56
 case neg =>
  have n1:((l.length:Int) != 56)=true:=by rw[show ((l.length:Int) != 56)=decide (l.length≠56) from natne _ 56];exact decide_eq_true D
  obtain⟨M,N,O⟩:=J W rc00 f1 k1 sm;have e:decR l=none:=by unfold decR;rw[if_neg fun h=>D h.1]
  rw[e];simp -implicitDefEqProofs only[go_sem,j7,yU,qQk,Tryz.f232,rcZero,hW,n1,bldRc0,M,N];exact⟨O,rfl⟩
 have n1:((l.length:Int) != 56)=false:=by rw[D];rfl
 obtain⟨b,o,a7,e,_⟩:=V.pos x8;cases e;obtain⟨W2,a0,f2,k2,s2⟩:=qQl W (rcC rc00).toArray 80;have bp:=bldPtrs W.heap.size;simp -implicitDefEqProofs only[go_sem,j7,yU,jV,qQk,Tryz.f232,rcZero,hW,n1,a0,bp];have a8:w0.heap.size<W.heap.size:=qQi k1;generalize a9:W.heap.size=A at *;refine loopD [0,2,3,4,18,19] (rdI w0 (.slice (some ⟨b,o,none⟩) l.length cap) w0.heap.size A l) 6 ⟨0,x8,rfl,rfl,k2,f2.at k1 id,f1.trans f2⟩ ?_;rintro m vs w g ⟨i,hi,rfl,rfl,kt,kr,Y⟩
 by_cases L:i<6
 ·have d1:=dTo ((i:Int)<6)
  have y1:=iBd (i:=i) (n:=6);have pp:=part_ptrs A L;have c1:IntKind.i64.wrap (4*(i:Int))=((4*i:Nat):Int):=qZu (a:=4) x8;have sl:qQv prog 22 (.slice (some ⟨b,o,none⟩) l.length cap) (some (.int .i64 ((4*i:Nat):Int))) none none=some (.slice (some ⟨b,o+4*i,none⟩) (l.length - 4*i) (cap - 4*i)):=(slc_lo slc22 arr22 sz5 (l:=4*i) (n:=l.length) x8 I).trans (by rw[cutV_lo x8]);obtain⟨b',o',e,r⟩:=By.four (V.fr0 Y.drew) (k:=4*i) x8;cases e;have r0:rdO prog 5 w.drew b (o+4*i)=some (.int .u8 ((l.getD (4*i) 0).toNat:Int)):=r 0 x8;have r1:rdO prog 5 w.drew b (o+4*i+1)=some (.int .u8 ((l.getD (4*i+1) 0).toNat:Int)):=by rw[vA];exact r 1 x8
  have r2:rdO prog 5 w.drew b (o+4*i+2)=some (.int .u8 ((l.getD (4*i+2) 0).toNat:Int)):=by rw[vA];exact r 2 x8
  have r3:rdO prog 5 w.drew b (o+4*i+3)=some (.int .u8 ((l.getD (4*i+3) 0).toNat:Int)):=by rw[vA];exact r 3 x8
  have key:_=((nat4 l (4*i):Nat):Int):=(or4 (x:=l.getD (4*i) 0) (y:=l.getD (4*i+1) 0) (z:=l.getD (4*i+2) 0) (u:=l.getD (4*i+3) 0)).trans (congrArg _ (by
   unfold nat4;rw[le4 (by rw[lDr];omega)]
   simp only[gDq,vL,yK]))
  have e0:=ext8i (l.getD (4*i) 0);have e1:=ext8i (l.getD (4*i+1) 0);have e2:=ext8i (l.getD (4*i+2) 0);have e3:=ext8i (l.getD (4*i+3) 0);generalize ((l.getD (4*i) 0).toNat:Int)=x0 at *;generalize ((l.getD (4*i+1) 0).toNat:Int)=x1 at *;generalize ((l.getD (4*i+2) 0).toNat:Int)=x2 at *;generalize ((l.getD (4*i+3) 0).toNat:Int)=x3 at *
  obtain⟨a1,g1⟩:∃ a,shlK .i64 x1 8=a:=⟨_,rfl⟩
  rw[g1]at key
  obtain⟨b1,g2⟩:∃ a,orK .i64 x0 a1=a:=⟨_,rfl⟩
  rw[g2]at key
  obtain⟨a2,g3⟩:∃ a,shlK .i64 x2 16=a:=⟨_,rfl⟩
  rw[g3]at key
  obtain⟨b2,g4⟩:∃ a,orK .i64 b1 a2=a:=⟨_,rfl⟩
  rw[g4]at key
  obtain⟨a3,g5⟩:∃ a,shlK .i64 x3 24=a:=⟨_,rfl⟩
  rw[g5]at key;have t1:¬ ((8:Int)<0):=j0
  have t2:¬ ((16:Int)<0):=j0
  have t3:¬ ((24:Int)<0):=j0
  have i0:(0:Int)<=0/\(0:Int)<((l.length - 4*i:Nat):Int):=x8
  have i1:(0:Int)<=1/\(1:Int)<((l.length - 4*i:Nat):Int):=x8
  have i2:(0:Int)<=2/\(2:Int)<((l.length - 4*i:Nat):Int):=x8
  have i3:(0:Int)<=3/\(3:Int)<((l.length - 4*i:Nat):Int):=x8
  have c2:=iSu (i:=i)
  have B:w.drew.heap[A]?=some (.cells ((qI i).map (fun j=>vU .i64 (nat4 l (4*j):Nat))++vU .i64 0::(zG (5 - i) (.int .i64 0)++z32.map u8)).toArray 80 (0,0)):=by
   rw[<- rcI_at l L];exact kt
  have q:=wr_one (P:=prog) (t:=3) (v:=.int .i64 (nat4 l (4*i):Nat)) sz3 rfl B (o:=i) sm;rw[rcI_step l L]at q;have kn:=qQd (o:=.cells (rcI l (i+1)).toArray 80 (0,0)) B;have a4:=qQh (w:=w.drew) (b:=A) (o:=.cells (rcI l (i+1)).toArray 80 (0,0)) (show w.drew.heap[w0.heap.size]?=_ from kr) x8;have fn:=Y.drew.put (b:=A) (.cells (rcI l (i+1)).toArray 80 (0,0)) fun h=>by omega
  simp -implicitDefEqProofs only[go_sem,j7,d1,y1,and_self,if_true,iTn,j8,pp,c1,sl,i0,i1,i2,i3,Int.reduceToNat,r0,r1,r2,r3,e0,e1,e2,e3,t1,t2,t3,if_false,g1,g2,g3,g4,g5,key,nilOk,q,c2];exact⟨6 - (i+1),x8,i+1,x8,rfl,rfl,kn,a4,fn⟩
 ·have d1:=dFo ((i:Int)<6)
  have e:i=6:=x8
  subst e;have ps:=pt_slice (P:=prog) (o:=6) arr75 sz5 x8 A;have a5:qQv prog 22 (.slice (some ⟨b,o,none⟩) l.length cap) (some (.int .i64 24)) none none=some (cutV 1 (some ⟨b,o,none⟩) cap 24 l.length):=slc_lo slc22 arr22 sz5 (l:=24) (n:=l.length) x8 I;have R:=By.slc (V.fr0 Y.drew) (l:=24) (m:=l.length) x8 (xC _);rw[zB (by rw[lDr];omega)]at R
  have e6:rcI l 6=[.int .i64 (nat4 l 0:Nat),.int .i64 (nat4 l 4:Nat),.int .i64 (nat4 l 8:Nat),.int .i64 (nat4 l 12:Nat),.int .i64 (nat4 l 16:Nat),.int .i64 (nat4 l 20:Nat)]++z32.map u8++[]:=by
   rw[z4];rfl
  have B:w.drew.heap[A]?=some (.cells ([vU .i64 (nat4 l 0:Nat),.int .i64 (nat4 l 4:Nat),.int .i64 (nat4 l 8:Nat),.int .i64 (nat4 l 12:Nat),.int .i64 (nat4 l 16:Nat),.int .i64 (nat4 l 20:Nat)]++z32.map u8++[]).toArray 80 (0,0)):=by
   rw[<- e6];exact kt
  have hc:=copy_mid (P:=prog) (ts:=#[22,22]) (t:=22) rfl slc22 sz5 (b:=A) (o:=6) (d:=z32) rfl (n:=32) sm B R (by rw[lDr];omega)
  have er:[vU .i64 (nat4 l 0:Nat),.int .i64 (nat4 l 4:Nat),.int .i64 (nat4 l 8:Nat),.int .i64 (nat4 l 12:Nat),.int .i64 (nat4 l 16:Nat),.int .i64 (nat4 l 20:Nat)]++((l.drop 24).take 32).map u8++[]=rcC (rcR l):=by
   rw[z4];rfl
  rw[er]at hc;have H:(rcR l).sum.length=32:=by show ((l.drop 24).take 32).length=32;rw[lTk,lDr];omega
  have k3:=qQd (o:=.cells (rcC (rcR l)).toArray 80 (0,0)) B;have T:=qQh (w:=w.drew) (b:=A) (o:=.cells (rcC (rcR l)).toArray 80 (0,0)) (show w.drew.heap[w0.heap.size]?=_ from kr) x8;have f3:=Y.drew.put (b:=A) (.cells (rcC (rcR l)).toArray 80 (0,0)) fun h=>by omega
  simp -implicitDefEqProofs only[go_sem,j7,jV,d1,ps,a5];refine qQj ⟨_,_,hc,?_⟩;generalize put w.drew A (.cells (rcC (rcR l)).toArray 80 (0,0))=w3 at *;have ld:=qQm (P:=prog) (t:=80) agg80 sz80 k3 (by simp[qXc H]);have b4:∀ k,nat4 l k<2 ^ 32:=fun k=>le_small (b:=(l.drop k).take 4) (n:=4) (by rw[lTk];omega);simp -implicitDefEqProofs only[go_sem,j7,ld];refine qQa pl236 ((right w3 (rcR l) H (b4 _) (b4 _)).mono ?_);rintro _ w4 ⟨rfl,U⟩
  by_cases Z:(rcR l).right
  ·obtain⟨M,N,O⟩:=J w4 (rcR l) (f3.trans U) (U.at T id) H
   have a6:=qQm (P:=prog) (t:=80) agg80 sz80 (U.at k3 id) (by simp[qXc H]);have e:decR l=some (rcR l):=if_pos ⟨D,Z⟩;rw[decide_eq_true Z,e];simp -implicitDefEqProofs only[go_sem,j7,y8,a6,M,N];exact⟨O,rfl⟩
  ·obtain⟨M,N,O⟩:=J w4 rc00 (f3.trans U) (U.at T id) sm
   have e:decR l=none:=if_neg fun h=>Z h.2;rw[decide_eq_false Z,e];simp -implicitDefEqProofs only[go_sem,j7,xH,bldRc0,M,N];exact⟨O,rfl⟩
end A
end
section
open Go.Proofs
namespace A
open Aud
theorem cutV_hi' (a:Option Addr)(cap m:Nat):cutV 1 a cap 0 m=.slice a m cap:=by
 unfold cutV
 cases a <;> simp[Addr.add]
theorem trimRight (w:World)(J:By w (.slice a bs.length cap) bs)(hl:bs.length<2 ^ 62) :
  Fn prog 218 #[.slice a bs.length cap,.int .u8 0] w fun v w'=>w'=w/\∃ m,m<=bs.length/\v=.slice a m cap/\zer (bs.drop m)=true:=by
 have L:bs.length<=cap:=by obtain⟨W,c',e,h⟩:=J.slice;cases e;exact h
 refine go218 sm ?_;simp only[go_sem,jV,Tryz.f218];refine loopD [0,1] (fun m vs w'=>m<=bs.length/\zer (bs.drop m)=true/\vs=[.slice a m cap,.int .u8 0]/\w'=w) bs.length ⟨xC _,by rw[zS (xC _)];rfl,rfl,rfl⟩ ?_;rintro m vs R g ⟨T,A,rfl,rfl⟩
 cases m with
 | zero =>
  have B:decide (((0:Nat):Int) > 0)=false:=rfl;simp only[go_sem,j7,qQq,B];exact⟨0,Nat.zero_le _,rfl,A⟩
 | succ m =>
  have B:decide (((m+1:Nat):Int) > 0)=true:=sm
  have c1:IntKind.i64.wrap (((m+1:Nat):Int) - 1)=(m:Int):=by rw[qQr x8 x8];omega
  obtain⟨_,M,e,_,H⟩:=J.at;cases e;obtain⟨b,o,rfl,U⟩:=H m x8;have N:=iBd (i:=m) (n:=m+1);have O:rdO prog 5 R b (o+m)=some (u8 bs[m]):=rd_rc agg5 U;have D:((bs[m].toNat:Int) == 0)=(bs[m] == 0):=u8_beq bs[m] 0;have V:qQv prog 22 (.slice (some ⟨b,o,none⟩) (m+1) cap) none (some (.int .i64 (m:Nat))) none=some (.slice (some ⟨b,o,none⟩) m cap):=(slc_hi slc22 arr22 sz5 (l:=m) (n:=m+1) x8 x8).trans (by rw[cutV_hi'])
  cases I:bs[m] == 0 with
  | true =>
   rw[I]at D;simp only[go_sem,j7,bSe,B,c1,N,and_self,if_true,iTn,j8,O,D,V];refine⟨m,x8,x8,?_,rfl,trivial⟩;rw[vH x8];unfold zer at A ⊢;rw[vJ,I,A];rfl
  | false =>
   rw[I]at D;simp only[go_sem,j7,bSe,B,c1,N,and_self,if_true,iTn,j8,O,D];exact⟨m+1,T,rfl,A⟩
theorem trimLeft (w:World)(M:By w (.slice a bs.length cap) bs)(hl:bs.length<2 ^ 62) :
  Fn prog 217 #[.slice a bs.length cap,.int .u8 0] w fun v w'=>w'=w/\∃ D n c,v=.slice D n c/\decide (0<n)=!zer bs:=by
 have N:bs.length<=cap:=by obtain⟨D,c',e,h⟩:=M.slice;cases e;exact h
 refine go217 sm ?_;simp only[go_sem,jV,Tryz.f217]
 have key:∀ j,j<=bs.length->zer (bs.take j)=true->zer bs=zer (bs.drop j):=fun j V A=>by
  conv=>lhs;rw[<- jQ j bs]
  unfold zer at A ⊢;rw[vX,A];rfl
 refine loopD [0,1] (fun m vs w'=>∃ j D,j+m=bs.length/\zer (bs.take j)=true/\vs=[.slice D m (cap - j),.int .u8 0]/\(∀ b o,a=some ⟨b,o,none⟩->0<m->D=some ⟨b,o+j,none⟩)/\w'=w) bs.length ⟨0,a,x8,rfl,rfl,fun b o h _=>h,rfl⟩ ?_;rintro m vs W g ⟨j,D,V,A,rfl,ha,rfl⟩
 cases m with
 | zero =>
  have O:decide (((0:Nat):Int) > 0)=false:=rfl;have J:(((0:Nat):Int) == 0)=true:=rfl;have B:zer bs=true:=by rw[key j x8 A,zS x8];rfl
  simp only[go_sem,j7,qQq,O,J];exact⟨none,0,0,rfl,by rw[B];rfl⟩
 | succ m =>
  have O:decide (((m+1:Nat):Int) > 0)=true:=sm
  obtain⟨_,R,e,_,L⟩:=M.at;cases e;obtain⟨b,o,rfl,Y⟩:=L j x8;have ha:=ha b o rfl x8;subst ha;have T:(0:Int)<=0/\(0:Int)<((m+1:Nat):Int):=x8
  have U:rdO prog 5 W b (o+j)=some (u8 bs[j]):=rd_rc agg5 Y;have H:((bs[j].toNat:Int) == 0)=(bs[j] == 0):=u8_beq bs[j] 0;have Z:bs.drop j=bs[j]::bs.drop (j+1):=vH x8
  cases I:bs[j] == 0 with
  | true =>
   rw[I]at H
   obtain⟨a2,sl,h2⟩:∃ a2,qQv prog 22 (.slice (some ⟨b,o+j,none⟩) (m+1) (cap - j)) (some (.int .i64 1)) none none=some (.slice a2 m (cap - (j+1)))/\(0<m->a2=some ⟨b,o+(j+1),none⟩):=by
    have:=slc_lo (P:=prog) (t:=22) slc22 arr22 sz5 (a:=some ⟨b,o+j,none⟩) (l:=1) (n:=m+1) (cap:=cap - j) x8 x8;refine⟨_,this.trans (by unfold cutV;rw[show m+1 - 1=m by omega,show cap - j - 1=cap - (j+1) by omega]),fun h=>?_⟩;rw[if_neg x8];simp[Addr.add,vA]
   simp only[go_sem,j7,T,and_self,if_true,U,H,sl];refine⟨m,x8,j+1,a2,x8,?_,rfl,?_,trivial⟩
   ·rw[tSg x8]
    unfold zer at A ⊢;rw[vX,A,vJ,I];rfl
   ·intro b' o' he h
    cases he;exact h2 h
  | false =>
   rw[I]at H;have J:(((m+1:Nat):Int) == 0)=false:=by rw[bFn];omega
   have B:zer bs=false:=by
    rw[key j x8 A,Z];unfold zer;rw[vJ,I];rfl
   simp only[go_sem,j7,T,and_self,if_true,U,H,J];exact⟨_,m+1,_,rfl,by rw[B];simp⟩
theorem trim (w:World){p:Value}(B:By w p bs)(hl:bs.length<2 ^ 62) :
  Fn prog 216 #[p,.string ⟨#[0]⟩] w fun v w'=>No w w'/\∃ a n c,v=.slice a n c/\decide (0<n)=!zer bs:=by
 obtain⟨a,cap,rfl,I⟩:=B.slice;refine go216 sm ?_
 by_cases J:bs.length=0
 ·have D:((bs.length:Int) == 0)=true:=by rw[J];rfl
  simp only[go_sem,j7,jV,Tryz.f216,D];refine⟨Fr.refl _ _,none,0,0,rfl,?_⟩;rw[List.eq_nil_of_length_eq_zero J];rfl
 have D:((bs.length:Int) == 0)=false:=by rw[bFn];omega
 have R:((⟨#[0]⟩:ByteArray).toList == (⟨#[]⟩:ByteArray).toList)=false:=by rw[ByteArray.toList_eq,ByteArray.toList_eq];rfl
 have T:(((⟨#[0]⟩:ByteArray).size:Int) == 1)=true:=rfl;have L:(⟨#[0]⟩:ByteArray)[0]?=some 0:=rfl;have U:decide (((0:UInt8).toNat:Int)<128)=true:=rfl;have M:(0:Int)<=0:=j0
 simp only[go_sem,j7,bSe,jV,Tryz.f216,D,R,T,L,U,M,and_self,if_true];refine qQa pl218 ((trimRight w.drew (a:=a) (cap:=cap) (bs:=bs) B hl).mono ?_);rintro _ _ ⟨rfl,m,V,rfl,N⟩;have A:(bs.take m).length=m:=by rw[lTk];omega
 have H:By w.drew (.slice a (bs.take m).length cap) (bs.take m):=by
  have:=By.slc B (l:=0) (m:=m) x8 V;rw[cutV_hi',jA,Nat.sub_zero]at this;rw[A];exact this
 simp only[go_sem,j7,L,M];have O:=trimLeft w.drew (a:=a) (cap:=cap) (bs:=bs.take m) H x8;rw[A]at O;refine qQa pl217 (O.mono ?_);rintro _ _ ⟨rfl,W,n,c,rfl,Y⟩;simp only[go_sem];refine⟨(Fr.refl _ _).drew,W,n,c,rfl,?_⟩;rw[Y]
 congr 1
 conv=>rhs;rw[<- jQ m bs]
 unfold zer at N ⊢;rw[vX,N,y9]
end A
end
section
open Go.Proofs
namespace A
open Aud
theorem bldSec0:bldO prog 209 []=some (dg (zG 64 0)):=by
 unfold bldO;rw[zero209,places209,arr209];rfl
theorem empty (w0:World)(L:By w0 (.slice (some ⟨b, o, none⟩) 256 cap) raw)(B:256<=cap) :
  Fn prog 81 #[.slice (some ⟨b,o,none⟩) 256 cap] w0 fun v w'=>v=.bool (zer (raw.take 64))/\w'=w0:=by
 have M:raw.length=256:=L.len.symm;have A:(raw.take 64).length=64:=by rw[lTk];omega
 refine go81 sm ?_;have R:(((256:Nat):Int) == 256)=true:=rfl;have D:qQv prog 22 (.slice (some ⟨b,o,none⟩) 256 cap) none (some (.int .i64 64)) none=some (.slice (some ⟨b,o,none⟩) 64 cap):=(slc_hi slc22 arr22 sz5 (l:=64) (n:=256) x8 B).trans (by rw[cutV_hi])
 have H:rdO prog 209 w0 b o=some (dg (raw.take 64)):=rd_dg agg209 sz209 A x8 fun i hi=>by
  obtain⟨a,c,e,U,I⟩:=L.at;simp only[Value.slice.injEq]at e;obtain⟨rfl,_,rfl⟩:=e;obtain⟨V,W,e,I⟩:=I i x8;cases e;rw[I,jI,zK,if_pos hi,jL,zZ x8];rfl
 have J:(64<=64)=True:=sm
 have N:eqV prog Op.maxDepth 209 (dg (raw.take 64)) (dg (zG 64 0))=some (raw.take 64 == zG 64 0):=eqm_dg arr209 int5 sz5 agg5 A sm
 have T:zer (raw.take 64)=(raw.take 64 == zG 64 0):=by
  rw[vF,zer_iff,A,beq_iff_eq]
 have O:=bldSec0;generalize (raw.take 64 == zG 64 0)=q at *;generalize zG 64 (0:Byte)=z at N O;simp only[go_sem,j7,bSe,Tryz.f81,R,D,J,H,O,N,eqg209,if_true,qE];exact⟨congrArg _ T.symm,trivial⟩
theorem undSup:strucO prog 67=some [(false,3,0),(false,3,1),(false,3,2),(false,3,3),(false,3,4)]:=x9
theorem stSup:prog.stoodInHeld 67=false:=x9
theorem eqSup (a b:Sup):eqV prog Op.maxDepth 67 (.agg (supC a)) (.agg (supC b))=some (decide (a=b)):=by
 rw[show Op.maxDepth=9998+1+1 from rfl,eqV_st undSup stSup];simp only[List.mapM_cons,List.mapM_nil,qWb agg3,Bool.false_eq_true,if_false,List.getElem?_toArray,vM,List.getElem?_cons_succ,qV,eqV_i int3,Option.pure_def,Option.bind_eq_bind,qK,vJ,List.all_nil,id,y9]
 congr 1
 rw[vF];obtain⟨a1,a2,J,L,M⟩:=a;obtain⟨N,b2,O,R,T⟩:=b;simp only[Bool.and_eq_true,decide_eq_true_eq,Sup.mk.injEq];exact⟨fun ⟨A,B,D,H,I⟩=>⟨A,B,D,I,H⟩,fun ⟨A,B,D,I,H⟩=>⟨A,B,D,H,I⟩⟩
theorem newer (w0:World)(a b:Sup)(ha:a.ok)(hb:b.ok):Fn prog 80 #[.agg (supC a),.agg (supC b)] w0 (SuQ w0 (qZh a b)):=by
 refine go80 sm ?_;unfold DenF;refine den_cut 2 ?_;obtain⟨W,hW,M,I,J,N,s1⟩:=allocs3 w0 (supC a) 67 (supC b) 67 sup0 67;have ga:=ha.2.1;have gb:=hb.2.1;have Z:rdO prog 3 W w0.heap.size 1=some (.int .i64 (a.gen:Nat)):=rd1 agg3 I rfl;have O:rdO prog 3 W (w0.heap.size+1) 1=some (.int .i64 (b.gen:Nat)):=rd1 agg3 J rfl;have R:((2:Int)=0)=False:=sm
 have m2:∀ n:Nat,((n:Int).tmod 2)=((n % 2:Nat):Int):=fun n=>rfl;have ma:=m2 a.gen;have mb:=m2 b.gen;have T:=natne (a.gen % 2) 0;have nb:=natne (b.gen % 2) 1
 have U:∀ (w:World) (vs:Array Value), No w0 w->w.heap[w0.heap.size+1+1]?=some (.cells sup0 67 (0, 0))->vs.size=5->vs.all one=true ->
   wrO prog 67 w (w0.heap.size+1+1) 0 (.agg vs)=some (put w (w0.heap.size+1+1) (.cells vs 67 (0,0)))/\rdO prog 67 (put w (w0.heap.size+1+1) (.cells vs 67 (0,0))) (w0.heap.size+1+1) 0=some (.agg vs)/\No w0 (put w (w0.heap.size+1+1) (.cells vs 67 (0,0))):=fun w vs f k h5 ho =>
  ⟨qQo (by rw[h5];exact sz67) k (by rw[h5];rfl) ho,qKs agg67 (by rw[h5];exact sz67) (qQd (o:=.cells vs 67 (0,0)) k),f.put (b:=w0.heap.size+1+1) _ fun h=>absurd h x8⟩
 obtain⟨q1,q2,q3⟩:=U W sup0 M N rfl qZj;have b0:=qZn
 by_cases h1:a.gen % 2=0
 case neg =>
  rw[decide_eq_true h1]at T;have e:qZh a b=.error 4:=by unfold qZh;rw[if_neg fun h=>h1 h.1]
  rw[e];have T:(((a.gen % 2:Nat):Int) != 0)=true:=T;simp only[go_sem,j7,yU,qXd,jV,Tryz.f80,hW,Z,ma,T,b0,q1,q2,qE,if_true,R];exact⟨q3,rfl⟩
 have T:(((a.gen % 2:Nat):Int) != 0)=false:=by rw[h1];rfl
 by_cases h2:b.gen % 2=1
 case neg =>
  have nb:(((b.gen % 2:Nat):Int) != 1)=true:=by rw[decide_eq_true h2]at nb;exact nb
  have e:qZh a b=.error 4:=by unfold qZh;rw[if_neg fun h=>h2 h.2.1]
  rw[e];simp only[go_sem,j7,yU,bSe,jV,Tryz.f80,hW,Z,O,ma,mb,T,nb,b0,q1,q2,qE,if_true,R];exact⟨q3,rfl⟩
 have nb:(((b.gen % 2:Nat):Int) != 1)=false:=by rw[h2];rfl
 simp only[go_sem,j7,yU,bSe,jV,Tryz.f80,hW,Z,O,ma,mb,T,nb,R,if_false];refine qZv ?_;refine qZf (fun L w=>L 2=pt w0.heap.size 0/\L 3=pt (w0.heap.size+1) 0/\L 4=pt (w0.heap.size+1+1) 0/\No w0 w/\w.heap[w0.heap.size+1+1]?=some (.cells sup0 67 (0,0))/\∃ x y:Sup,(if a.gen<b.gen then x=b/\y=a else x=a/\y=b)/\w.heap[w0.heap.size]?=some (.cells (supC x) 67 (0,0))/\w.heap[w0.heap.size+1]?=some (.cells (supC y) 67 (0,0))) ?_ ?_
 ·by_cases h3:a.gen<b.gen
  ·have d3:=dTo ((a.gen:Int)<(b.gen:Int))
   have l1:=qQm (P:=prog) (t:=67) agg67 sz67 I;have l2:=qQm (P:=prog) (t:=67) agg67 sz67 J;have w1:wrO prog 67 W w0.heap.size 0 (.agg (supC b))=some (put W w0.heap.size (.cells (supC b) 67 (0,0))):=qQo sz67 I rfl (qZz _);have a0:=qQh (b:=w0.heap.size) (o:=.cells (supC b) 67 (0,0)) J x8;have b3:=qQh (b:=w0.heap.size) (o:=.cells (supC b) 67 (0,0)) N x8;have b4:=qQd (o:=.cells (supC b) 67 (0,0)) I;have f2:=M.put (b:=w0.heap.size) (.cells (supC b) 67 (0,0)) fun h=>absurd h (yZ _);have w2:wrO prog 67 (put W w0.heap.size (.cells (supC b) 67 (0,0))) (w0.heap.size+1) 0 (.agg (supC a))=some (put (put W w0.heap.size (.cells (supC b) 67 (0,0))) (w0.heap.size+1) (.cells (supC a) 67 (0,0))):=qQo sz67 a0 rfl (qZz _);simp only[go_sem,j7,jV,Z,O,d3,l1,l2,w1,w2];exact⟨f2.put (b:=w0.heap.size+1) _ fun h=>by omega,qQh (b:=w0.heap.size+1) (o:=.cells (supC a) 67 (0,0)) b3 x8,b,a,by rw[if_pos h3];exact⟨rfl,rfl⟩,qQh (b:=w0.heap.size+1) (o:=.cells (supC a) 67 (0,0)) b4 x8,qQd (o:=.cells (supC a) 67 (0,0)) a0⟩
  ·have d3:=dFo ((a.gen:Int)<(b.gen:Int))
   simp only[go_sem,j7,jV,Z,O,d3];exact⟨M,N,a,b,by rw[if_neg h3];exact⟨rfl,rfl⟩,I,J⟩
 ·clear q1 q2 q3 Z O hW I J N s1 M
  rintro L w ⟨e2,e3,e4,M,N,x,y,D,I,J⟩
  have hx:x.ok:=by split at D <;> obtain⟨rfl,rfl⟩:=D <;> assumption
  have hy:y.ok:=by split at D <;> obtain⟨rfl,rfl⟩:=D <;> assumption
  have gx:=hx.2.1;have gy:=hy.2.1;have la:=qQm (P:=prog) (t:=67) agg67 sz67 J;obtain⟨W5,b5,f5,k5,s5⟩:=qQl w sup0 67;have q5:wrO prog 67 W5 w.heap.size 0 (.agg (supC y))=some (put W5 w.heap.size (.cells (supC y) 67 (0,0))):=qQo sz67 k5 rfl (qZz _);have k6:=qQd (o:=.cells (supC y) 67 (0,0)) k5;have b7:=qQi I;have b8:=qQi J;have b9:=qQi N;have V:No w (put W5 w.heap.size (.cells (supC y) 67 (0,0))):=f5.put (b:=w.heap.size) _ fun h=>absurd h (yZ _);simp only[go_sem,j7,yU,e3,la,b5,q5];generalize put W5 w.heap.size (.cells (supC y) 67 (0,0))=A at *;generalize c0:w.heap.size=B at *;have O:rdO prog 3 A.drew (w0.heap.size+1) 1=some (.int .i64 (y.gen:Nat)):=rd1 (w:=A.drew) agg3 (V.at J id) rfl
  have rr:∀ (W:World) (o:Obj),W=put A.drew B o∨W=A.drew->rdO prog 3 W w0.heap.size 2=some (.int .i64 (x.mark:Nat))/\rdO prog 3 W w0.heap.size 3=some (.int .i64 (x.head:Nat)):=fun W o h=>by
   have k:W.heap[w0.heap.size]?=some (.cells (supC x) 67 (0,0)):=by
    rcases h with rfl | rfl
    ·exact qQh (w:=A.drew) (V.at I id) x8
    ·exact V.at I id
   exact⟨rd1 agg3 k rfl,rd1 agg3 k rfl⟩
  have c1:IntKind.i64.wrap ((y.gen:Int)+1)=((y.gen+1:Nat):Int):=by rw[qQr x8 x8];rfl
  obtain⟨a3,a4⟩:=rr A.drew (.map #[] 0) (.inr rfl);have w8:wrO prog 3 A.drew B 1 (.int .i64 ((y.gen+1:Nat):Int))=some (put A.drew B (.cells #[.int .i64 (y.width:Nat),.int .i64 ((y.gen+1:Nat):Int),.int .i64 (y.mark:Nat),.int .i64 (y.head:Nat),.int .i64 (y.pages:Nat)] 67 (0,0))):=wr1 (w:=A.drew) sz3 rfl k6 sm;obtain⟨a5,a6⟩:=rr _ (.cells #[.int .i64 (y.width:Nat),.int .i64 ((y.gen+1:Nat):Int),.int .i64 (y.mark:Nat),.int .i64 (y.head:Nat),.int .i64 (y.pages:Nat)] 67 (0,0)) (.inl rfl);have pp:∀ o o':Obj,put (put A.drew B o) B o'=put A.drew B o':=fun o o'=>by simp[put]
  have kk:∀ c:Array Value,(put A.drew B (.cells c 67 (0,0))).heap[B]?=some (.cells c 67 (0,0)):=fun c=>qQd (w:=A.drew) (o:=.cells c 67 (0,0)) k6
  have a7:wrO prog 3 (put A.drew B (.cells #[.int .i64 (y.width:Nat),.int .i64 ((y.gen+1:Nat):Int),.int .i64 (y.mark:Nat),.int .i64 (y.head:Nat),.int .i64 (y.pages:Nat)] 67 (0,0))) B 2 (.int .i64 (x.mark:Nat))=some (put A.drew B (.cells #[.int .i64 (y.width:Nat),.int .i64 ((y.gen+1:Nat):Int),.int .i64 (x.mark:Nat),.int .i64 (y.head:Nat),.int .i64 (y.pages:Nat)] 67 (0,0))):=by
   refine (wr1 (P:=prog) (t:=3) (o:=2) (v:=.int .i64 (x.mark:Nat)) sz3 rfl (kk _) ?_).trans (congrArg some (pp _ _));show 2<5;decide
  obtain⟨b6,a8⟩:=rr _ (.cells #[.int .i64 (y.width:Nat),.int .i64 ((y.gen+1:Nat):Int),.int .i64 (x.mark:Nat),.int .i64 (y.head:Nat),.int .i64 (y.pages:Nat)] 67 (0,0)) (.inl rfl)
  have a9:wrO prog 3 (put A.drew B (.cells #[.int .i64 (y.width:Nat),.int .i64 ((y.gen+1:Nat):Int),.int .i64 (x.mark:Nat),.int .i64 (y.head:Nat),.int .i64 (y.pages:Nat)] 67 (0,0))) B 3 (.int .i64 (x.head:Nat))=some (put A.drew B (.cells (supC ⟨y.width,y.gen+1,x.mark,y.pages,x.head⟩) 67 (0,0))):=by
   refine (wr1 (P:=prog) (t:=3) (o:=3) (v:=.int .i64 (x.head:Nat)) sz3 rfl (kk _) ?_).trans (congrArg some (pp _ _));show 3<5;decide
  refine qXg (Q:=fun e L w=>e=.normal/\L 2=pt w0.heap.size 0/\L 3=pt (w0.heap.size+1) 0/\L 4=pt (w0.heap.size+1+1) 0/\L 6=pt B 0/\w=put A.drew B (.cells (supC ⟨y.width,y.gen+1,x.mark,y.pages,x.head⟩) 67 (0,0))) _ (fun e L w=>?_) ?_
  ·rintro⟨rfl,e2,e3,e4,e6,rfl⟩
   have f7:No w0 (put A.drew B (.cells (supC ⟨y.width,y.gen+1,x.mark,y.pages,x.head⟩) 67 (0,0))):=((M.trans V).drew).put (b:=B) _ fun h=>by have:=M.size;omega
   have kt:=kk (supC ⟨y.width,y.gen+1,x.mark,y.pages,x.head⟩);have k7:=qQh (w:=A.drew) (b:=B) (o:=.cells (supC ⟨y.width,y.gen+1,x.mark,y.pages,x.head⟩) 67 (0,0)) (V.at I id) x8;have k8:=qQh (w:=A.drew) (b:=B) (o:=.cells (supC ⟨y.width,y.gen+1,x.mark,y.pages,x.head⟩) 67 (0,0)) (V.at J id) x8;have k9:=qQh (w:=A.drew) (b:=B) (o:=.cells (supC ⟨y.width,y.gen+1,x.mark,y.pages,x.head⟩) 67 (0,0)) (V.at N id) x8;clear rr a3 a4 a5 a6 b6 a8 w8 a7 a9 pp kk q5 la;generalize put A.drew B (.cells (supC ⟨y.width,y.gen+1,x.mark,y.pages,x.head⟩) 67 (0,0))=w7 at *;have l1:=qQm (P:=prog) (t:=67) agg67 sz67 kt;have l2:=qQm (P:=prog) (t:=67) agg67 sz67 k7;have r2:rdO prog 3 w7 w0.heap.size 2=some (.int .i64 (x.mark:Nat)):=rd1 agg3 k7 rfl;have r3:rdO prog 3 w7 (w0.heap.size+1) 2=some (.int .i64 (y.mark:Nat)):=rd1 agg3 k8 rfl;have es:=eqSup ⟨y.width,y.gen+1,x.mark,y.pages,x.head⟩ x;obtain⟨q1,q2,q3⟩:=U w7 sup0 f7 k9 rfl qZj;obtain⟨q4,q5,q6⟩:=U w7 (supC x) f7 k9 rfl (qZz _)
   have b1:qZh a b=if (⟨y.width,y.gen+1,x.mark,y.pages,x.head⟩:Sup)=x/\¬ x.mark<y.mark then .ok x else .error 4:=by
    unfold qZh
    by_cases hg:a.gen<b.gen
    ·rw[if_pos hg]at D
     obtain⟨rfl,rfl⟩:=D
     by_cases H:y.width=x.width/\y.pages=x.pages
     ·rw[if_pos ⟨h1,h2,H⟩,if_neg x8]
      by_cases Y:x.gen=y.gen+1/\y.mark<=x.mark
      ·rw[if_pos Y,if_pos ⟨by cases x;simp_all,x8⟩]
      ·rw[if_neg Y,if_neg]
       rintro⟨e,hm⟩;refine Y ⟨?_,x8⟩;rw[<- e]
     ·rw[if_neg fun h=>H h.2.2,if_neg]
      rintro⟨e,hm⟩;exact H ⟨by rw[<- e],by rw[<- e]⟩
    ·rw[if_neg hg]at D
     obtain⟨rfl,rfl⟩:=D
     by_cases H:x.width=y.width/\x.pages=y.pages
     ·rw[if_pos ⟨h1,h2,H⟩]
      by_cases Y:x.gen=y.gen+1/\y.mark<=x.mark
      ·rw[if_pos Y,if_pos ⟨by cases x;simp_all,x8⟩]
      ·rw[if_neg Y,if_neg x8,if_neg]
       rintro⟨e,hm⟩;refine Y ⟨?_,x8⟩;rw[<- e]
     ·rw[if_neg fun h=>H h.2.2,if_neg]
      rintro⟨e,hm⟩;exact H ⟨by rw[<- e],by rw[<- e]⟩
   rw[b1]
   by_cases H:(⟨y.width,y.gen+1,x.mark,y.pages,x.head⟩:Sup)=x
   case neg =>
    rw[decide_eq_false H]at es;rw[if_neg fun h=>H h.1];simp only[go_sem,j7,qXd,xH,e2,e4,e6,l1,l2,es,eqg67,b0,q1,q2,if_true];exact⟨q3,rfl⟩
   rw[decide_eq_true H]at es
   by_cases hm:x.mark<y.mark
   ·have d1:=dTo ((x.mark:Int)<(y.mark:Int))
    rw[if_neg fun h=>h.2 hm];simp only[go_sem,j7,bSe,y8,jV,e2,e3,e4,e6,l1,l2,es,eqg67,r2,r3,d1,b0,q1,q2,if_true];exact⟨q3,rfl⟩
   ·have d1:=dFo ((x.mark:Int)<(y.mark:Int))
    rw[if_pos ⟨H,hm⟩];simp only[go_sem,j7,bSe,y8,jV,e2,e3,e4,e6,l1,l2,es,eqg67,r2,r3,d1,q4,q5,if_true];exact⟨q6,rfl⟩
  refine qXj (fun j=>false) (.one 0 (.one 3 (.one 5 (.one 1 (.one 2 (.one 7 (.tri 4 (.two 6 (.row [8,9,10,11,12]) 8 (.one 9 (.two 6 (.row [10,11,12]) 10 (.row [6,11,12])))) 6 (.two 4 (.row [8,9,10,11,12]) 8 (.row [4,9,10,11,12])) 8 (.one 4 (.one 9 (.two 6 (.row [10,11,12]) 10 (.row [6,11,12]))))))))))) rfl x9 x9 ?_;simp only[go_sem,j7,jV,OT.row,e2,e3,e4,O,c1,a3,a4,a5,a6,a8,w8,a7,a9,implies_true,and_self,true_and]
end A
end
section
open Go.Proofs
namespace A
open Aud
def suC:Except Int Sup->Array Value
 | .error _=>sup0
 | .ok s=>supC s
def suE:Except Int Sup->Int
 | .error e=>e
 | .ok _=>0
theorem SuQ.eq {r:Except Int Sup}(h:SuQ w0 r v w'):No w0 w'/\v=.tuple #[.agg (suC r),.int .i64 (suE r)]:=by
 obtain⟨f,h⟩:=h
 cases r with
 | error e=>exact⟨f,h⟩
 | ok s=>exact⟨f,h⟩
theorem SuQ.of {r:Except Int Sup}(f:No w0 w'):SuQ w0 r (.tuple #[.agg (suC r),.int .i64 (suE r)]) w':=by
 cases r with
 | error e=>exact⟨f,rfl⟩
 | ok s=>exact⟨f,rfl⟩
theorem qZr (r:Except Int Sup):(suC r).size=5:=by cases r <;> rfl
theorem suC_one (r:Except Int Sup):(suC r).all one=true:=by
 cases r with
 | error e=>exact qZj
 | ok s=>exact qZz s
def suG:Except Int Sup->Nat
 | .error _=>0
 | .ok s=>s.gen
theorem suC_gen (r:Except Int Sup):(suC r)[1]?=some (.int .i64 (suG r:Nat)):=by cases r <;> rfl
theorem supP_err {e:Int}(h:supP raw=.error e):e≠0:=by
 unfold supP at h;split at h
 ·cases h;decide
 ·split at h
  ·cases h
  ·cases h;decide
theorem choose (w0:World){B:Bs}(hp:By w0 (.slice (some ⟨b, o, none⟩) 256 cap) B)(I:256<=cap){b' o' J:Nat}{L:Bs}(Y:By w0 (.slice (some ⟨b', o', none⟩) 256 J) L)(A:256<=J) :
  Fn prog 41 #[.slice (some ⟨b,o,none⟩) 256 cap,.slice (some ⟨b',o',none⟩) 256 J] w0 (SuQ w0 (qZc B L)):=by
 refine go41 sm ?_;obtain⟨W,hW,f1,k1,s1⟩:=qQl w0 sup0 67;simp only[go_sem,j7,yU,jV,Tryz.f41,hW];refine qQa pl79 ((unpackSuper W (hp.fr0 f1) I).mono ?_);rintro _ V ⟨f2,h2⟩;have a3:=f1.trans f2
 have a4:∀ (w:World) (vs:Array Value), No w0 w->w.heap[w0.heap.size]?=some (.cells sup0 67 (0, 0))->vs.size=5->vs.all one=true ->
   wrO prog 67 w w0.heap.size 0 (.agg vs)=some (put w w0.heap.size (.cells vs 67 (0,0)))/\rdO prog 67 (put w w0.heap.size (.cells vs 67 (0,0))) w0.heap.size 0=some (.agg vs)/\No w0 (put w w0.heap.size (.cells vs 67 (0,0))):=fun w vs f k h5 ho =>
  ⟨qQo (by rw[h5];exact sz67) k (by rw[h5];rfl) ho,qKs agg67 (by rw[h5];exact sz67) (qQd (o:=.cells vs 67 (0,0)) k),f.put (b:=w0.heap.size) _ fun h=>absurd h (yZ _)⟩
 obtain⟨b6,rfl⟩:=SuQ.eq ⟨f2,h2⟩;have k2:=f2.at k1 id;generalize D:supP B=xa at *;obtain⟨W3,b1,f3,k3,s3⟩:=qQl V sup0 67;have M:wrO prog 67 W3 V.heap.size 0 (.agg (suC xa))=some (put W3 V.heap.size (.cells (suC xa) 67 (0,0))):=qQo (by rw[qZr];exact sz67) k3 (by rw[qZr];rfl) (suC_one _);have k4:=qQd (o:=.cells (suC xa) 67 (0,0)) k3;have b3:=qQh (b:=V.heap.size) (o:=.cells (suC xa) 67 (0,0)) (f3.at k2 id) (by have:=qQi k2;omega);have f4:No w0 (put W3 V.heap.size (.cells (suC xa) 67 (0,0))):=(a3.trans f3).put (b:=V.heap.size) _ fun h=>by have:=a3.size;omega
 simp only[go_sem,j7,yU,b1,M];generalize put W3 V.heap.size (.cells (suC xa) 67 (0,0))=w4 at *;generalize b7:V.heap.size=tx at *;refine qQa pl79 ((unpackSuper w4 (Y.fr0 f4) A).mono ?_);rintro _ O h5;obtain⟨f5,rfl⟩:=SuQ.eq h5;clear h5;have a5:=f4.trans f5;generalize R:supP L=H at *;obtain⟨W6,b4,f6,k6,s6⟩:=qQl O sup0 67;have q6:wrO prog 67 W6 O.heap.size 0 (.agg (suC H))=some (put W6 O.heap.size (.cells (suC H) 67 (0,0))):=qQo (by rw[qZr];exact sz67) k6 (by rw[qZr];rfl) (suC_one _);have k7:=qQd (o:=.cells (suC H) 67 (0,0)) k6;have a6:=f5.at k4 id;have a7:=f5.at b3 id;have k8:=qQh (b:=O.heap.size) (o:=.cells (suC H) 67 (0,0)) (f6.at a6 id) (by have:=qQi a6;omega);have k9:=qQh (b:=O.heap.size) (o:=.cells (suC H) 67 (0,0)) (f6.at a7 id) (by have:=qQi a7;omega);have f7:No w0 (put W6 O.heap.size (.cells (suC H) 67 (0,0))):=(a5.trans f6).put (b:=O.heap.size) _ fun h=>by have:=a5.size;omega
 have a8:∀ e,supP B=.error e->((e:Int) == 0)=false:=fun e h=>by rw[bFn];exact supP_err h
 have b5:∀ e,supP L=.error e->((e:Int) == 0)=false:=fun e h=>by rw[bFn];exact supP_err h
 simp only[go_sem,j7,yU,b4,q6];generalize put W6 O.heap.size (.cells (suC H) 67 (0,0))=N at *;generalize b8:O.heap.size=ty at *;have lx:=qQm (P:=prog) (t:=67) agg67 sz67 k8 (qZr _);have ly:=qQm (P:=prog) (t:=67) agg67 sz67 k7 (qZr _);have rg:rdO prog 3 N tx 1=some (.int .i64 (suG xa:Nat)):=rd1 agg3 k8 (suC_gen _);have Z:=qZn;have a9:∀ x y,xa=.ok x->H=.ok y->qZc B L=qZh x y:=fun x y hx hy=>by unfold qZc;rw[D,R,hx,hy]
 have other:(∀ x y,¬ (xa=.ok x/\H=.ok y))->qZc B L=if blankP B L then .error 55 else .error 4:=fun h=>by
  unfold qZc;rw[D,R]
  cases xa <;> cases H <;> first | rfl | exact absurd ⟨rfl,rfl⟩ (h _ _)
 by_cases hB:∃ x y,xa=.ok x/\H=.ok y
 ·obtain⟨x,y,rfl,rfl⟩:=hB
  simp only[go_sem,j7,bSe,suE,lx,ly];refine qQa pl80 ((newer N x y (supP_ok D) (supP_ok R)).mono ?_);rintro _ w8 h8;obtain⟨f8,rfl⟩:=SuQ.eq h8;obtain⟨T,U,M⟩:=a4 w8 (suC (qZh x y)) (f7.trans f8) (f8.at k9 id) (qZr _) (suC_one _);simp only[go_sem,j7,T,U];rw[a9 x y rfl rfl];exact SuQ.of M
 rw[other fun x y h=>hB ⟨x,y,h⟩]
 have e0:∃ z:Bool,((suE xa == 0)=z)/\(z=true->(suE H == 0)=false):=by
  cases xa with
  | error e=>exact⟨false,a8 e D,fun h=>by cases h⟩
  | ok x =>
   cases H with
   | error e=>exact⟨true,rfl,fun _=>b5 e R⟩
   | ok y=>exact absurd ⟨x,y,rfl,rfl⟩ hB
 obtain⟨z,hz,a0⟩:=e0;have tail:∀ (w:World) (ev:Ev),True:=fun _ _=>trivial
 have go:blankP B L=(zer (L.take 64) && (zer (B.take 64) || (z && decide (suG xa=0)))):=by
  unfold blankP;rw[D]
  cases xa with
  | error e =>
   have:z=false:=by rw[<- hz];exact a8 e D
   rw[this];rfl
  | ok x =>
   have:z=true:=by rw[<- hz];rfl
   rw[this];rfl
 rw[go];have g0:=nateq (suG xa) 0;obtain⟨T,U,M⟩:=a4 N sup0 f7 k9 rfl qZj
 cases z with
 | false =>
  simp only[go_sem,qQq,hz];refine qQa pl81 ((empty N (Y.fr0 f7) A).mono ?_);rintro _ _ ⟨rfl,rfl⟩;rename_i N
  cases zer (L.take 64) with
  | false =>
   simp only[go_sem,j7,xH,Z,T,U];exact⟨M,rfl⟩
  | true =>
   simp only[go_sem,j7,qQq,y8,hz];refine qQa pl81 ((empty N (hp.fr0 f7) I).mono ?_);rintro _ _ ⟨rfl,rfl⟩;rename_i N
   cases zer (B.take 64) with
   | false =>
    simp only[go_sem,j7,Z,T,U];exact⟨M,rfl⟩
   | true =>
    simp only[go_sem,j7,Z,T,U];exact⟨M,rfl⟩
 | true =>
  have a0:=a0 rfl;simp only[go_sem,bSe,hz,a0];refine qQa pl81 ((empty N (Y.fr0 f7) A).mono ?_);rintro _ _ ⟨rfl,rfl⟩;rename_i N
  cases zer (L.take 64) with
  | false =>
   simp only[go_sem,j7,xH,Z,T,U];exact⟨M,rfl⟩
  | true =>
   by_cases hg:suG xa=0
   ·have g0:(((suG xa:Nat):Int) == 0)=true:=by rw[hg];rfl
    rw[show (true && (zer (B.take 64) || (true && decide (suG xa=0))))=true by rw[decide_eq_true hg];simp];simp only[go_sem,j7,bSe,y8,jV,hz,rg,g0,Z,T,U];exact⟨M,rfl⟩
   ·have g0:(((suG xa:Nat):Int) == 0)=false:=by rw[decide_eq_false hg]at g0;exact g0
    rw[show (true && (zer (B.take 64) || (true && decide (suG xa=0))))=zer (B.take 64) by rw[decide_eq_false hg];simp];simp only[go_sem,j7,bSe,y8,jV,hz,rg,g0];refine qQa pl81 ((empty N (hp.fr0 f7) I).mono ?_);rintro _ _ ⟨rfl,rfl⟩;rename_i N
    cases zer (B.take 64) with
    | false =>
     simp only[go_sem,j7,Z,T,U];exact⟨M,rfl⟩
    | true =>
     simp only[go_sem,j7,Z,T,U];exact⟨M,rfl⟩
end A
end
section
open Go.Proofs
namespace A
open Aud
abbrev sgC (iv:Value)(s:Sup)(mn mr:Nat)(cv vv fv bv:Value):Array Value:=#[iv,.int .i64 (s.width:Nat),.int .i64 (s.gen:Nat),.int .i64 (s.mark:Nat),.int .i64 (s.head:Nat),.int .i64 (s.pages:Nat),.map (some mn),.map (some mr),cv,vv,fv,bv]
def inR (l:List Nat):Rows:=l.map fun n=>[vU .i64 (n:Nat)]
def fnR (l:List (Nat × Int)):Rows:=l.map fun f=>[vU .i64 (f.1:Nat),vU .i64 f.2]
abbrev encN:Nat->Value:=fun n=>vU .i64 (n:Nat)
theorem keyN:KeyT prog 3 encN (fun _=>True):=keyInt int3
def isRc:Option Pg->Bool
 | some (.rc _)=>true
 | _=>false
def chK (pg:Nat->Option Pg)(k:Nat):List Nat:=(qI k).filter fun p=>isRc (pg p)
def NdsAt (u w:World)(nl:List (Nat × Value))(k:Nat)(pg:Nat->Option Pg):Prop :=
 ∀ p,match (if p<k then pg p else none) with
  | some (.nd n)=>∃ x,findM nl p=some x/\NdM u w n x
  | _=>findM nl p=none
def RcsAt (rl:List (Nat × Value))(k:Nat)(pg:Nat->Option Pg):Prop :=
 ∀ p,match (if p<k then pg p else none) with
  | some (.rc r)=>findM rl p=some (.agg (rcC r).toArray)
  | _=>findM rl p=none
structure SgM (u w:World) (sb:Nat) (iv:Value) (im:Bs) (s:Sup) (mn mr:Nat) (cv vv fv bv:Value) (nl rl:List (Nat × Value)) (pg:Nat->Option Pg) (k:Nat) (fs:List (Nat × Int)):Prop where
 row:w.heap[sb]?=some (.cells (sgC iv s mn mr cv vv fv bv) 73 (0,0))
 img:By w iv im
 nds:Mp encN (fun _=>True) w mn nl
 rcs:Mp encN (fun _=>True) w mr rl
 hne:mn≠mr
 hsb:u.heap.size<=sb
 hmn:u.heap.size<=mn
 hmr:u.heap.size<=mr
 chn:NwR u w 3 1 cv (inR (chK pg k))
 fnd:NwR u w 43 2 fv (fnR fs)
 na:NdsAt u w nl k pg
 ra:RcsAt rl k pg
 ov:one vv=true
 ob:one bv=true
theorem NdM.fr {n:Nd}(h:NdM u w n v)(k:Fr F w w')(D:∀ b c,w.heap[b]?=some (.cells c 5 (0,0))->¬ F b):NdM u w' n v:=by
 obtain⟨vv,e,o,A,H⟩:=h;refine⟨vv,e,o,A.fr k fun b B=>?_,H⟩
 rcases A.own with ⟨rfl,_⟩ | ⟨J,L,cap,c,rfl,I,_⟩
 ·cases B
 ·cases B;exact D _ _ I
theorem NdsAt.fr {nl:List (Nat × Value)}{pg:Nat->Option Pg}(h:NdsAt u w nl k pg)(f:Fr F w w')(A:∀ b c,w.heap[b]?=some (.cells c 5 (0,0))->¬ F b):NdsAt u w' nl k pg:=fun p=>by
 have:=h p;split at this
 ·obtain⟨x,a,b⟩:=this;exact⟨x,a,b.fr f A⟩
 ·exact this
theorem qQz {rows:Rows}(h:NwR u w e k v rows)(A:qQf v=some b):∃ c,w.heap[b]?=some (.cells c e (0,0)):=by
 rcases h.2.own with ⟨rfl,_⟩ | ⟨D,H,cap,c,rfl,B,_⟩
 ·cases A
 ·cases A;exact⟨c,B⟩
theorem inR_ok (l:List Nat):RowsOk 1 (inR l):=fun r A=>by
 obtain⟨n,_,rfl⟩:=List.mem_map.1 A;exact⟨rfl,rfl⟩
theorem qZq (l:List Nat):(inR l).length=l.length:=List.length_map ..
theorem fnR_len (l:List (Nat × Int)):(fnR l).length=l.length:=List.length_map ..
section
variable {u w w':World} {sb:Nat} {iv:Value} {im:Bs} {s:Sup} {mn mr:Nat} {cv vv fv bv:Value} {nl rl:List (Nat × Value)} {pg:Nat->Option Pg} {k:Nat} {fs:List (Nat × Int)}
theorem SgM.fr0 (h:SgM u w sb iv im s mn mr cv vv fv bv nl rl pg k fs)(f:No w w'):SgM u w' sb iv im s mn mr cv vv fv bv nl rl pg k fs :=
 { h with row:=f.at h.row id,img:=h.img.fr0 f,nds:=h.nds.fr0 f,rcs:=h.rcs.fr0 f,chn:=h.chn.fr0 f,fnd:=h.fnd.fr0 f,na:=h.na.fr f fun _ _ _ h=>h }
theorem sight_page (h:SgM u w sb iv im s mn mr cv vv fv bv nl rl pg k fs)(B:iv=.slice (some ⟨b, o, none⟩) im.length cap)(A:im.length<=cap)(hl:im.length<=2 ^ 47)(D:256*p+256<=im.length) :
  Fn prog 42 #[pt sb 0,.int .i64 (p:Nat)] w fun v w'=>w'=w/\v=.slice (some ⟨b,o+256*p,none⟩) 256 (cap - 256*p):=by
 refine go42 sm ?_;subst B;have H:rdO prog 22 w sb 0=some (.slice (some ⟨b,o,none⟩) im.length cap):=rd1 agg22 h.row rfl;have a1:IntKind.i64.wrap ((p:Int)*256)=((256*p:Nat):Int):=by rw[qQr x8 x8];omega
 have a2:=iSu (i:=p);have I:IntKind.i64.wrap (((p+1:Nat):Int)*256)=((256*p+256:Nat):Int):=by rw[qQr x8 x8];omega
 have J:qQv prog 22 (.slice (some ⟨b,o,none⟩) im.length cap) (some (.int .i64 ((256*p:Nat):Int))) (some (.int .i64 ((256*p+256:Nat):Int))) none=some (.slice (some ⟨b,o+256*p,none⟩) 256 (cap - 256*p)) :=
  (qWa slc22 arr22 sz5 (l:=256*p) (m:=256*p+256) (n:=im.length) x8 D A).trans (by rw[cutV_lo x8,vC])
 simp only[go_sem,j7,jV,Tryz.f42,nilOk,H,a1,a2,I,J]
theorem page_by (hi:By w (.slice (some ⟨b,o,none⟩) im.length cap) im)(B:256*p+256<=im.length)(A:im.length<=cap):By w (.slice (some ⟨b,o+256*p,none⟩) 256 (cap - 256*p)) (pgB im p):=by
 have:=By.slc hi (l:=256*p) (m:=256*p+256) x8 B;rw[cutV_lo x8,vC]at this;exact this
theorem qVh (h:SgM u w sb iv im s mn mr cv vv fv bv nl rl pg k fs)(hi:i<2 ^ 40):Fn prog 66 #[pt sb 0,.int .i64 (i:Nat)] w fun v w'=>w'=w/\v=.int .i64 (chAt (chK pg k) i:Nat):=by
 refine go66 sm ?_;obtain⟨a,cap,A,D⟩:=h.chn.rd.slice;rw[qZq]at A D;have M:rdO prog 45 w sb 8=some (.slice a (chK pg k).length cap):=by rw[<- A];exact rd1 agg45 h.row rfl
 by_cases T:i<1
 ·have I:=dTo ((i:Int)<1)
  have e:chAt (chK pg k) i=0:=if_pos x8;simp only[go_sem,j7,qXd,jV,Tryz.f66,I,e]
  trivial
 have I:=dFo ((i:Int)<1)
 by_cases U:(chK pg k).length<i
 ·have J:=dTo ((i:Int) > ((chK pg k).length:Int))
  have e:chAt (chK pg k) i=0:=by unfold chAt;rw[if_neg x8,gDq,vN x8];rfl
  simp only[go_sem,j7,bSe,jV,Tryz.f66,I,nilOk,M,J,e]
  trivial
 have J:=dFo ((i:Int) > ((chK pg k).length:Int));have B:=h.chn.rd;obtain⟨b,o,N,L,_⟩:=B.pos j0 (by rw[qZq];omega);rw[A]at L;simp only[Value.slice.injEq]at L;obtain⟨rfl,_,rfl⟩:=L;rw[A]at B;have H:i - 1<(chK pg k).length:=x8
 have O:rdO prog 3 w b (o+(i - 1))=some (.int .i64 ((chK pg k).getD (i - 1) 0:Nat)):=by
  have:=B.fld (P:=prog) (t:=3) agg3 (i:=i - 1) (by rw[qZq];exact H) (j:=0) j0 (x:=.int .i64 ((chK pg k).getD (i - 1) 0:Nat)) (by
   simp only[inR,List.getElem_map,vM,qQw 0 H])
  rw[j8,yK]at this;exact this
 have c1:IntKind.i64.wrap ((i:Int) - 1)=((i - 1:Nat):Int):=qXv (b:=1) x8 x8;have R:(0:Int)<=((i - 1:Nat):Int)/\((i - 1:Nat):Int)<((chK pg k).length:Int):=x8
 have e:chAt (chK pg k) i=(chK pg k).getD (i - 1) 0:=if_neg x8;simp only[go_sem,j7,bSe,jV,Tryz.f66,I,nilOk,M,J,c1,R,and_self,if_true,iTn,j8,O,e]
theorem bldFn (p:Nat)(e:Int):bldO prog 43 [(0,.int .i64 (p:Nat)),(1,.int .i64 e)]=some (.agg #[.int .i64 (p:Nat),.int .i64 e]):=by
 unfold bldO;rw[zero43,places43];rfl
def FvB (sb:Nat)(fv:Value)(b:Nat):Prop:=b=sb∨qQf fv=some b
theorem sight_find (h:SgM u w sb iv im s mn mr cv vv fv bv nl rl pg k fs)(hu:u.heap.size<=w.heap.size)(hiv:∀ b, qQf iv=some b->b<u.heap.size)(p:Nat)(e:Int)(hl:fs.length<=2 ^ 20) :
  Fn prog 44 #[pt sb 0,.int .i64 (p:Nat),.int .i64 e] w fun v w'=>v=.tuple #[]/\Fr (FvB sb fv) w w'/\∃ O,SgM u w' sb iv im s mn mr cv vv O bv nl rl pg k (fs++[(p,e)]):=by
 refine go44 sm ?_;have Y:=qQi h.row;have r0:rdO prog 23 w sb 10=some fv:=rd1 agg23 h.row rfl;have b0:=bldFn p e;simp only[go_sem,j7,vS,yU,jV,Tryz.f44,nilOk,r0,b0];refine qQn (v:=.slice (some ⟨w.heap.size,0,none⟩) 1 1) (w':=w.alloc (.cells #[.int .i64 (p:Nat),.int .i64 e] 43)) (qQx (K:=2) j0 j0 (y:=[.int .i64 0,.int .i64 0]) rfl rfl rfl _) ?_;obtain⟨I,Z,R,T,g8,m8⟩:=h.fnd.push (P:=prog) app23_23 (xs:=[.int .i64 (p:Nat),.int .i64 e]) rfl rfl j0 (by rw[fnR_len];omega) (by rw[fnR_len];omega) hu;simp only[go_sem,j7];refine qQj ⟨I,Z,R,?_⟩
 have L:∀ b,qQf fv=some b->b≠sb:=fun b A U=>by
  obtain⟨c,M⟩:=qQz h.fnd A;subst U;rw[h.row]at M;cases M
 have k8:=g8.at h.row fun A=>L _ A rfl;have o8:one I=true:=by obtain⟨a,c,e,_⟩:=T.rd.slice;rw[e];rfl
 have q8:=wr1 (P:=prog) (t:=23) (o:=10) (v:=I) sz23 o8 k8 (show 10<12 by decide);simp only[go_sem,j7,jV,nilOk,q8];have J:Fr (FvB sb fv) w (put Z sb (.cells (sgC iv s mn mr cv vv I bv) 73 (0,0))):=(g8.mono (G:=FvB sb fv) fun b _ A=>.inr A).put (b:=sb) _ fun _=>.inl rfl;refine⟨J,I,?_⟩
 have off:∀ b c N,w.heap[b]?=some (.cells c N (0,0))->N≠73->N≠43->¬ FvB sb fv b:=fun b c N A h1 h2 B=>by
  rcases B with rfl | B
  ·rw[h.row]at A;cases A;exact h1 rfl
  ·obtain⟨c',D⟩:=qQz h.fnd B
   rw[A]at D;cases D;exact h2 rfl
 have H:∀ b es c,w.heap[b]?=some (.map es c)->¬ FvB sb fv b:=fun b es c A B=>by
  rcases B with rfl | B
  ·rw[h.row]at A;cases A
  ·obtain⟨c',D⟩:=qQz h.fnd B
   rw[A]at D;cases D
 obtain⟨a0,c1,V,_⟩:=id h.nds;obtain⟨a3,c2,W,_⟩:=id h.rcs;refine⟨qQd (o:=.cells (sgC iv s mn mr cv vv I bv) 73 (0,0)) k8,h.img.fr J fun b A _ B=>?_,h.nds.fr J (H _ _ _ V),h.rcs.fr J (H _ _ _ W),h.hne,h.hsb,h.hmn,h.hmr,h.chn.fr J fun b A=>?_,?_,h.na.fr J fun b c A=>off _ _ _ A j0 j0,h.ra,h.ov,h.ob⟩
 ·have:=hiv b A
  rcases B with rfl | B
  ·have:=h.hsb;omega
  ·have:=(h.fnd.lt B).1;omega
 ·obtain⟨c,M⟩:=qQz h.chn A
  exact off _ _ _ M j0 j0
 ·have e9:fnR (fs++[(p,e)])=fnR fs++[[.int .i64 (p:Nat),.int .i64 e]]:=by unfold fnR;rw[vD];rfl
  rw[e9];refine⟨T.1,Nw.fr T.2 (F:=fun b=>b=sb) ((Fr.refl _ _).put (b:=sb) _ fun _=>rfl) fun b A U=>?_⟩;subst U
  rcases m8 _ A with h' | h'
  ·exact L _ h' rfl
  ·omega
theorem bldZr:bldO prog 173 []=some (.agg #[]):=by
 unfold bldO;rw[zero173,places173];rfl
theorem bldLo:bldO prog 174 []=some (.agg #[]):=by
 unfold bldO;rw[zero174,places174];rfl
abbrev zrV:Value:=.iface 173 (.agg #[])
abbrev loV:Value:=.iface 174 (.agg #[])
theorem bldRu:bldO prog 120 [(0,zrV),(1,loV)]=some (.agg #[zrV,loV]):=by
 unfold bldO;rw[zero120,places120,arr120];simp only[qV,sz119];rfl
theorem rules (w0:World):Fn prog 43 #[] w0 fun v w'=>v=.agg #[zrV,loV]/\No w0 w':=by
 refine go43 sm ?_;obtain⟨W,B,D,A,L⟩:=qQl w0 #[.nilIface,.nilIface] 120;have H:wrO prog 120 W w0.heap.size 0 (.agg #[zrV,loV])=some (put W w0.heap.size (.cells #[zrV,loV] 120 (0,0))):=qQo sz120 A rfl (by rw[<- Array.all_toList];rfl);have I:=qQd (o:=.cells #[zrV,loV] 120 (0,0)) A;have J:=qQm (P:=prog) (t:=120) agg120 sz120 I;simp only[go_sem,j7,yU,Tryz.f43,B,bldZr,bldLo,bldRu,H,J];exact D.put (b:=w0.heap.size) _ fun h=>absurd h (yZ _)
end
end A
end
section
open Go.Proofs
namespace A
open Aud
theorem chK_succ (pg:Nat->Option Pg)(k:Nat):chK pg (k+1)=if isRc (pg k) then chK pg k++[k] else chK pg k:=by
 unfold chK;rw[vB,List.filter_append]
 cases h:isRc (pg k) <;> simp[h]
section
variable {u w w':World} {sb:Nat} {iv:Value} {im:Bs} {s:Sup} {mn mr:Nat} {cv vv fv bv:Value} {nl rl:List (Nat × Value)} {pg:Nat->Option Pg} {k:Nat} {fs:List (Nat × Int)}
theorem NdsAt.skip (h:NdsAt u w nl k pg)(B:∀ n,pg k≠some (.nd n)):NdsAt u w nl (k+1) pg:=fun p=>by
 have:=h p
 by_cases e:p=k
 ·subst e
  rw[if_neg x8]at this;rw[if_pos x8];split
  ·rename_i n D;exact absurd D (B n)
  ·exact this
 ·by_cases A:p<k
  ·rw[if_pos A]at this;rw[if_pos x8];exact this
  ·rw[if_neg A]at this;rw[if_neg x8];exact this
theorem RcsAt.skip (h:RcsAt rl k pg)(B:∀ n,pg k≠some (.rc n)):RcsAt rl (k+1) pg:=fun p=>by
 have:=h p
 by_cases e:p=k
 ·subst e
  rw[if_neg x8]at this;rw[if_pos x8];split
  ·rename_i n D;exact absurd D (B n)
  ·exact this
 ·by_cases A:p<k
  ·rw[if_pos A]at this;rw[if_pos x8];exact this
  ·rw[if_neg A]at this;rw[if_neg x8];exact this
theorem NdsAt.add {n:Nd}{x:Value}(h:NdsAt u w nl k pg)(B:pg k=some (.nd n))(D:NdM u w n x):NdsAt u w (insM nl k x) (k+1) pg:=fun p=>by
 have:=h p;rw[qVw]
 by_cases e:p=k
 ·subst e
  rw[if_pos x8,B,if_pos rfl];exact⟨x,rfl,D⟩
 ·rw[if_neg (show ¬ k=p from fun H=>e H.symm)]
  by_cases A:p<k
  ·rw[if_pos A]at this;rw[if_pos x8];exact this
  ·rw[if_neg A]at this;rw[if_neg x8];exact this
theorem RcsAt.add {r:Rc}(h:RcsAt rl k pg)(B:pg k=some (.rc r)):RcsAt (insM rl k (.agg (rcC r).toArray)) (k+1) pg:=fun p=>by
 have:=h p;rw[qVw]
 by_cases e:p=k
 ·subst e
  rw[if_pos x8,B,if_pos rfl]
 ·rw[if_neg (show ¬ k=p from fun D=>e D.symm)]
  by_cases A:p<k
  ·rw[if_pos A]at this;rw[if_pos x8];exact this
  ·rw[if_neg A]at this;rw[if_neg x8];exact this
theorem SgM.skip (h:SgM u w sb iv im s mn mr cv vv fv bv nl rl pg k fs)(A:pg k=none):SgM u w sb iv im s mn mr cv vv fv bv nl rl pg (k+1) fs :=
 { h with chn:=(by rw[chK_succ,A];exact h.chn),na:=h.na.skip (fun n e=>by rw[A]at e;cases e),ra:=h.ra.skip (fun n e=>by rw[A]at e;cases e) }
theorem zerosWrong (h:SgM u w sb iv im s mn mr cv vv fv bv nl rl pg k fs)(J:iv=.slice (some ⟨b, o, none⟩) im.length cap)(A:im.length<=cap)(hl:im.length<=2 ^ 47)(H:256*p+256<=im.length) :
  Fn prog 215 #[.agg #[],pt sb 0,.int .i64 (p:Nat)] w fun v w'=>v=.int .i64 (if p<2/\zer ((pgB im p).drop 64)=false then 53 else 0)/\No w w':=by
 refine go215 sm ?_;obtain⟨W,L,D,_,Z⟩:=qQl w #[] 173
 by_cases M:p<2
 case neg =>
  have I:=dFo ((p:Int)<2);rw[if_neg fun h=>M h.1];simp only[go_sem,j7,vS,yU,qQq,jV,Tryz.f215,L,I];exact D
 have I:=dTo ((p:Int)<2);simp only[go_sem,j7,vS,yU,bSe,jV,Tryz.f215,L,I];have N:=h.fr0 D;refine qQa pl42 ((sight_page N J A hl H).mono ?_);rintro _ _ ⟨rfl,rfl⟩;rename_i W;have hi:=N.img;rw[J]at hi;have hpb:=page_by hi H A;have O:(pgB im p).length=256:=pgB_len H;have V:qQv prog 22 (.slice (some ⟨b,o+256*p,none⟩) 256 (cap - 256*p)) (some (.int .i64 64)) none none=some (cutV 1 (some ⟨b,o+256*p,none⟩) (cap - 256*p) 64 256):=slc_lo slc22 arr22 sz5 (l:=64) (n:=256) x8 x8;have R:=By.slc hpb (l:=64) (m:=256) x8 x8;rw[zB (by rw[lDr];omega)]at R;simp only[go_sem,j7,bSe,V];refine qQa pl216 ((trim _ R (by rw[lDr];omega)).mono ?_);rintro _ w2 ⟨T,a,n,c,rfl,Y⟩;have B:decide ((n:Int) > 0)=decide (0<n):=decide_eq_decide.2 ⟨fun h=>by omega,fun h=>by omega⟩;rw[Y]at B
 cases U:zer ((pgB im p).drop 64) with
 | true =>
  rw[U]at B;rw[if_neg sm];simp only[go_sem,j7,bSe,y8,B];exact D.trans T
 | false =>
  rw[U]at B;rw[if_pos ⟨M,rfl⟩];simp only[go_sem,j7,bSe,xH,B];exact D.trans T
def errP:Except Int Pg->Int
 | .error e=>e
 | .ok _=>0
def LdB (sb mn mr:Nat)(cv:Value)(b:Nat):Prop:=b=sb∨b=mn∨b=mr∨qQf cv=some b
def LoQ (u w:World)(sb:Nat)(iv:Value)(im:Bs)(s:Sup)(mn mr:Nat)(cv vv fv bv:Value)(pg:Nat->Option Pg)(k:Nat)(fs:List (Nat × Int))(e:Int)(v:Value)(w':World):Prop :=
 v=.int .i64 e/\Fr (LdB sb mn mr cv) w w'/\∃ A B D,SgM u w' sb iv im s mn mr A vv fv bv B D pg (k+1) fs
theorem unpP_err {e:Int}(h:unpP p raw=.error e):e≠0:=by
 unfold unpP at h
 repeat' split at h
 all_goals first | (cases h;decide) | cases h
end
end A
end
section
open Go.Proofs
namespace A
open Aud
theorem decN_len {A:Nat}{B:Bs}{n:Nd}(h:decN A B=some n)(vv:Value):(ndA n vv).length=102:=by
 unfold decN at h;split at h
 ·split at h
  ·rename_i D;cases h;exact qQu z32l z32l (by rw[lTk];omega) _
  ·cases h
 ·split at h
  ·rename_i D
   cases h;exact qQu (by rw[lTk,lDr];omega) (by rw[lTk,lDr];omega) z32l _
  ·cases h
section
variable {u w w':World} {sb:Nat} {iv:Value} {im:Bs} {s:Sup} {mn mr:Nat} {cv vv fv bv:Value} {nl rl:List (Nat × Value)} {pg:Nat->Option Pg} {k:Nat} {fs:List (Nat × Int)}
theorem loadsWrong (h:SgM u w sb iv im s mn mr cv vv fv bv nl rl pg k fs)(hu:No u w)(he:iv=.slice (some ⟨b, o, none⟩) im.length cap)(c7:b<u.heap.size)(a5:im.length<=cap)(hl:im.length<=2 ^ 47)(hp:256*k+256<=im.length)(h2:2<=k)(h4:k<4096)
  (hpg:pg k=(match qXb k (pgB im k) with | .ok g=>some g | .error _=>none)) :
  Fn prog 230 #[.agg #[],pt sb 0,.int .i64 (k:Nat)] w (LoQ u w sb iv im s mn mr cv vv fv bv pg k fs (errP (qXb k (pgB im k)))):=by
 refine go230 sm ?_;obtain⟨W,hW,f1,_,s1⟩:=qQl w #[] 174;have d1:=dFo ((k:Int)<2);simp -implicitDefEqProofs only[go_sem,j7,vS,yU,jV,Tryz.f230,hW,d1];have h':=h.fr0 f1;refine qQa pl42 ((sight_page h' he a5 hl hp).mono ?_);rintro _ _ ⟨rfl,rfl⟩;have hi:=h'.img;rw[he]at hi;have hpb:=page_by hi hp a5;have N:(pgB im k).length=256:=pgB_len hp;simp -implicitDefEqProofs only[go_sem,j7];refine qQa pl231 ((unpack _ hpb x8 h2 h4).mono ?_);rintro v w2 ⟨f2,V⟩;have Z:=f1.trans f2;have g2:=h.fr0 Z;have a0:∀ {w'},No w w'->Fr (LdB sb mn mr cv) w w':=fun f=>f.mono fun _ _ h=>h.elim
 cases L:unpP k (pgB im k) with
 | error e =>
  rw[L]at V;subst V;have ha:qXb k (pgB im k)=.error e:=by unfold qXb;rw[L]
  have hn:(e != 0)=true:=by rw[bne_iff_ne];exact unpP_err L
  rw[ha]at hpg ⊢;simp -implicitDefEqProofs only[go_sem,j7,hn];exact⟨rfl,a0 Z,cv,nl,rl,g2.skip hpg⟩
 | ok kl =>
  obtain⟨kd,ld⟩:=kl;rw[L]at V;obtain⟨x,rfl,hx⟩:=V;have c8:ld.length<=246:=((unp_iff N h4).1 L).2.1;have k3:((kd:Int) == 3)=decide (kd=3):=nateq kd 3;have c6:No u w2:=hu.trans Z
  have a8:By w2 x ld:=hx.by
  by_cases h3:kd=3
  ·rw[decide_eq_true h3]at k3
   simp -implicitDefEqProofs only[go_sem,j7,bNe,k3];refine qQa pl232 ((rdecode w2 a8 x8).mono ?_);rintro v w3 ⟨f3,V⟩;have O:=Z.trans f3;have g3:=h.fr0 O
   have hrc:∀ r':Rc,r'.sum.length=32->∃ W,wrO prog 80 (w3.alloc (.cells (rcC rc00).toArray 80)) w3.heap.size 0 (.agg (rcC r').toArray)=some W/\No w3 W/\W.heap[w3.heap.size]?=some (.cells (rcC r').toArray 80 (0,0)):=fun r' hs=>by
    obtain⟨D,a6,R,k4,s4⟩:=qQl w3 (rcC rc00).toArray 80;rw[a6];refine⟨_,qQo (by simp[qXc hs];exact sz80) k4 (by simp[qXc hs,qXc (r:=rc00) sm]) (by simpa using rcC_one r'),R.put (b:=w3.heap.size) _ fun h=>absurd h (yZ _),qQd (o:=.cells (rcC r').toArray 80 (0,0)) k4⟩
   cases Y:decR ld with
   | none =>
    rw[Y]at V;subst V;have ha:qXb k (pgB im k)=.error 150:=by unfold qXb;rw[L];simp only[h3,if_true,Y]
    rw[ha]at hpg ⊢;obtain⟨D,q4,R,k4⟩:=hrc rc00 sm;simp -implicitDefEqProofs only[go_sem,j7,yU,jV,qQk,rcZero,q4];exact⟨rfl,a0 (O.trans R),cv,nl,rl,(g3.fr0 R).skip hpg⟩
   | some r =>
    rw[Y]at V;subst V;have ha:qXb k (pgB im k)=.ok (.rc r):=by unfold qXb;rw[L];simp only[h3,if_true,Y]
    rw[ha]at hpg ⊢;have hpg:pg k=some (.rc r):=hpg
    have hrs:r.sum.length=32:=by
     unfold decR at Y;split at Y
     ·rename_i M;cases Y;show ((ld.drop 24).take 32).length=32;rw[lTk,lDr];omega
     ·cases Y
    obtain⟨D,q4,R,k4⟩:=hrc r hrs;have B:=g3.fr0 R;have lr:=qQm (P:=prog) (t:=80) (w:=D.drew) agg80 sz80 k4 (by simp[qXc hrs]);have rm:rdO prog 69 D.drew sb 7=some (.map (some mr)):=rd1 (w:=D.drew) agg69 B.row rfl;obtain⟨ob,U,a7,a3⟩:=B.rcs.put keyN (k:=k) trivial (.agg (rcC r).toArray);have U:putE prog 3 D.heap[mr]? (.int .i64 (k:Nat)) (.agg (rcC r).toArray)=some ob:=U;obtain⟨a9,c1,J,_⟩:=id B.nds;obtain⟨c0,c2,H,_⟩:=id B.rcs;have f5:Fr (fun b=>b=mr) D (put D.drew mr ob):=((Fr.refl _ _).drew).put (b:=mr) ob (fun _=>rfl) a7;have k5:=qQh (w:=D.drew) (b:=mr) (o:=ob) (show D.drew.heap[sb]?=_ from B.row) (fun e=>by subst e;rw[B.row]at H;cases H);have r5:rdO prog 45 (put D.drew mr ob) sb 8=some cv:=rd1 agg45 k5 rfl;have I:∀ b c el,D.heap[b]?=some (.cells c el (0,0))->b≠mr:=fun b c el A e=>by subst e;rw[A]at H;cases H
    have n5:NwR u (put D.drew mr ob) 3 1 cv (inR (chK pg k)):=B.chn.fr f5 fun b A=>by obtain⟨c,M⟩:=qQz B.chn A;exact I _ _ _ M
    have c9:u.heap.size<=D.heap.size:=by have:=hu.size;have:=O.size;have:=R.size;omega
    have N:(chK pg k).length<=k:=by unfold chK;exact Nat.le_trans (List.length_filter_le _ _) sm
    obtain⟨v8,w8,b0,b8,g8,m8⟩:=n5.push (P:=prog) app45_45 (xs:=[.int .i64 (k:Nat)]) rfl rfl j0 (by rw[qZq];omega) (by rw[qZq];omega) (by have:=f5.size;omega);simp -implicitDefEqProofs only[go_sem,j7,yU,bSe,jV,qQk,rcZero,q4,nilOk,rm,lr,U,r5];have c3:(put D.drew mr ob).heap.size=D.heap.size:=by simp[put]
    rw[c3]at b0;refine qQn (v:=.slice (some ⟨D.heap.size,0,none⟩) 1 1) (w':=(put D.drew mr ob).alloc (.cells #[.int .i64 (k:Nat)] 3)) (qQx (K:=1) j0 j0 (y:=[.int .i64 0]) rfl rfl rfl _) ?_;simp -implicitDefEqProofs only[go_sem,j7];refine qQj ⟨v8,w8,b0,?_⟩
    have b1:∀ b,qQf cv=some b->b≠sb:=fun b A he=>by
     obtain⟨c,M⟩:=qQz B.chn A;subst he;rw[B.row]at M;cases M
    have k8:=g8.at k5 fun A=>b1 _ A rfl;have o8:one v8=true:=by obtain⟨a,c,e,_⟩:=b8.rd.slice;rw[e];rfl
    have q8:=wr1 (P:=prog) (t:=45) (o:=8) (v:=v8) sz45 o8 k8 (show 8<12 by decide);simp -implicitDefEqProofs only[go_sem,j7,jV,nilOk,q8]
    have a4:Fr (LdB sb mn mr cv) D (put w8 sb (.cells (sgC iv s mn mr v8 vv fv bv) 73 (0,0))) :=
     (((f5.mono (G:=LdB sb mn mr cv) fun b _ A=>.inr (.inr (.inl A))).trans (g8.mono (G:=LdB sb mn mr cv) fun b _ A=>.inr (.inr (.inr A))))).put (b:=sb) _ fun _=>.inl rfl
    have off:∀ b c el,D.heap[b]?=some (.cells c el (0,0))->el≠73->el≠3->¬ LdB sb mn mr cv b:=fun b c el A h1 h2 hf=>by
     rcases hf with rfl | rfl | rfl | hf
     ·rw[B.row]at A;cases A;exact h1 rfl
     ·rw[A]at J;cases J
     ·rw[A]at H;cases H
     ·obtain⟨c',b3⟩:=qQz B.chn hf
      rw[A]at b3;cases b3;exact h2 rfl
    have b4:mr≠sb:=fun e=>by subst e;rw[B.row]at H;cases H
    have b5:mn≠sb:=fun e=>by subst e;rw[B.row]at J;cases J
    have b6:∀ b,qQf cv=some b->b≠mn/\b≠mr:=fun b A=>by
     obtain⟨c,M⟩:=qQz B.chn A;exact⟨(fun e=>by subst e;rw[J]at M;cases M),(fun e=>by subst e;rw[H]at M;cases M)⟩
    refine⟨rfl,(a0 (O.trans R)).trans a4,v8,nl,_,qQd (o:=.cells (sgC iv s mn mr v8 vv fv bv) 73 (0,0)) k8,B.img.fr a4 fun b' A _ hf=>?_,?_,a3 _ ?_,h.hne,h.hsb,h.hmn,h.hmr,?_,B.fnd.fr a4 fun b' A=>?_,(B.na.fr a4 fun b' c A=>off _ _ _ A j0 j0).skip (fun n e=>by rw[hpg]at e;cases e),B.ra.add hpg,h.ov,h.ob⟩
    ·rw[he]at A
     simp only[qQf,oSi]at A;subst A
     rcases hf with rfl | rfl | rfl | hf
     ·have:=h.hsb;omega
     ·have:=h.hmn;omega
     ·have:=h.hmr;omega
     ·have:=(h.chn.lt hf).1;omega
    ·exact⟨a9,c1,qQh (g8.at (qQh (w:=D.drew) J (fun e=>h.hne e.symm)) fun A=>(b6 _ A).1 rfl) (fun e=>b5 e.symm),as_⟩
    ·exact qQh (g8.at (qQd (w:=D.drew) H) fun A=>(b6 _ A).2 rfl) (fun e=>b4 e.symm)
    ·have e9:inR (chK pg (k+1))=inR (chK pg k)++[[.int .i64 (k:Nat)]]:=by
      rw[chK_succ,hpg];unfold inR;rw[if_pos (show isRc (some (.rc r))=true from rfl),vD];rfl
     rw[e9];refine⟨b8.1,Nw.fr b8.2 (F:=fun b=>b=sb) ((Fr.refl _ _).put (b:=sb) _ fun _=>rfl) fun b A he=>?_⟩;subst he
     rcases m8 _ A with h' | h'
     ·exact b1 _ h' rfl
     ·have:=qQi k5;omega
    ·obtain⟨c,M⟩:=qQz B.fnd A
     exact off _ _ _ M j0 j0
  rw[decide_eq_false h3]at k3;simp -implicitDefEqProofs only[go_sem,j7,bNe,k3];refine qQa pl233 ((decode w2 kd a8 x8).mono ?_);rintro v w3 ⟨f3,V⟩;have O:=Z.trans f3;have g3:=h.fr0 O
  have hnd:∀ c:List Value,c.length=102->c.all one=true->∃ W,wrO prog 78 (w3.alloc (.cells nd0.toArray 78)) w3.heap.size 0 (.agg c.toArray)=some W/\No w3 W/\W.heap[w3.heap.size]?=some (.cells c.toArray 78 (0,0)):=fun c M ho=>by
   obtain⟨D,a6,R,k4,s4⟩:=qQl w3 nd0.toArray 78;rw[a6];refine⟨_,qQo (by simp[M];exact sz78) k4 (by simp[M,qQu z32l z32l z32l]) (by simpa using ho),R.put (b:=w3.heap.size) _ fun h=>absurd h (yZ _),qQd (o:=.cells c.toArray 78 (0,0)) k4⟩
  cases Y:decN kd ld with
  | none =>
   rw[Y]at V;subst V;have ha:qXb k (pgB im k)=.error 90:=by unfold qXb;rw[L];simp only[h3,if_false,Y]
   rw[ha]at hpg ⊢;obtain⟨D,q4,R,k4⟩:=hnd nd0 (qQu z32l z32l z32l _) (qXz _ _ _ _ _ _ _ _ rfl);simp -implicitDefEqProofs only[go_sem,j7,yU,jV,qQk,qKk,q4];exact⟨rfl,a0 (O.trans R),cv,nl,rl,(g3.fr0 R).skip hpg⟩
  | some n =>
   rw[Y]at V;obtain⟨x,rfl,T,rfl,b7,c4,c5⟩:=V;have ha:qXb k (pgB im k)=.ok (.nd n):=by unfold qXb;rw[L];simp only[h3,if_false,Y]
   rw[ha]at hpg ⊢;have hpg:pg k=some (.nd n):=hpg;have N:(ndA n T).length=102:=decN_len Y T
   have b9:(ndA n T).all one=true:=by cases n <;> exact qXz _ _ _ _ _ _ _ _ b7
   obtain⟨D,q4,R,k4⟩:=hnd (ndA n T) N b9;have B:=g3.fr0 R;have lr:=qQm (P:=prog) (t:=78) (w:=D.drew) agg78 sz78 k4 (by simp[N]);have rm:rdO prog 68 D.drew sb 6=some (.map (some mn)):=rd1 (w:=D.drew) agg68 B.row rfl;obtain⟨ob,U,a7,a3⟩:=B.nds.put keyN (k:=k) trivial (.agg (ndA n T).toArray);have U:putE prog 3 D.heap[mn]? (.int .i64 (k:Nat)) (.agg (ndA n T).toArray)=some ob:=U;obtain⟨a9,c1,J,_⟩:=id B.nds;obtain⟨c0,c2,H,_⟩:=id B.rcs;have f5:Fr (fun b=>b=mn) D (put D.drew mn ob):=((Fr.refl _ _).drew).put (b:=mn) ob (fun _=>rfl) a7;have I:∀ b c el,D.heap[b]?=some (.cells c el (0,0))->b≠mn:=fun b c el A e=>by subst e;rw[A]at J;cases J
   have nd:NdM u D n (.agg (ndA n T).toArray):=⟨T,rfl,b7,(c4.back (by have:=hu.size;have:=Z.size;omega)).fr0 R,c5⟩
   simp -implicitDefEqProofs only[go_sem,j7,yU,bSe,jV,qQk,qKk,q4,nilOk,rm,lr,U];refine⟨rfl,(a0 (O.trans R)).trans (f5.mono fun b _ A=>.inr (.inl A)),cv,_,rl,f5.at B.row (I _ _ _ B.row),B.img.fr f5 fun b' A _ hf=>?_,a3 _ (qQd (w:=D.drew) J),B.rcs.fr f5 fun e=>h.hne e.symm,h.hne,h.hsb,h.hmn,h.hmr,?_,B.fnd.fr f5 fun b' A=>?_,(B.na.fr f5 fun b' c A=>I _ _ _ A).add hpg (nd.fr f5 fun b' c A=>I _ _ _ A),B.ra.skip (fun n e=>by rw[hpg]at e;cases e),h.ov,h.ob⟩
   ·rw[he]at A
    simp only[qQf,oSi]at A;have:=h.hmn;omega
   ·have e9:chK pg (k+1)=chK pg k:=by rw[chK_succ,hpg];rfl
    rw[e9];exact B.chn.fr f5 fun b A=>by obtain⟨c,M⟩:=qQz B.chn A;exact I _ _ _ M
   ·obtain⟨c,M⟩:=qQz B.fnd A
    exact I _ _ _ M
end
end A
end
section
open Go.Proofs Sha
namespace A
open Aud
def zds:List Bs:=zG 257 z32
theorem zds_all:All32 zds:=fun d h=>by rw[List.eq_of_mem_replicate h];simp
theorem flat_zds:flat zds=zG (257*32) (.int .u8 0):=by
 unfold flat zds;rw[List.map_replicate]
 have:∀ n,(zG n (z32.map u8)).flatten=zG (n*32) (vU .u8 0):=fun n=>by
  induction n with
  | zero=>rfl
  | succ n A =>
   rw[vT,List.flatten_cons,A,Nat.add_mul,Nat.add_comm (n*32),<- List.replicate_append_replicate]
   congr 1
 exact this 257
theorem mk257 (u w:World)(A:u.heap.size<=w.heap.size):∃ w',(Instr.makeSlice 71 (.int .i64 257) (.int .i64 257)).run prog w=.ok (.slice (some ⟨w.heap.size,0,none⟩) 257 257) w'/\NwD u w' 75 (.slice (some ⟨w.heap.size,0,none⟩) 257 257) zds/\No w w'/\w'.heap.size=w.heap.size+1:=by
 have:=run_mk (P:=prog) (t:=71) (by':=32) slc71 sz75 by75 zero75 (l:=257) (c:=257) (xC _) j0 j0 .i64 .i64 w;refine⟨_,this,⟨zds_all,?_⟩,(Fr.refl _ _).alloc _,qQg _ _⟩;have h:=mk_nw u w 75 32 257 257 (madeCells (Value.agg (xS 32 (.int .u8 0))).cells (257*32)) A (by simp[madeCells]) (xC _);rw[flat_zds]
 have e:(madeCells (Value.agg (xS 32 (.int .u8 0))).cells (257*32)).toList.take (257*32)=zG (257*32) (.int .u8 0):=by
  show (madeCells (xS 32 (.int .u8 0)) (257*32)).toList.take (257*32)=_;rw[madeCells_rep _ 32 _ j0,Array.toList_replicate,zB (by rw[lRe];exact xC _)]
 rw[e]at h;exact h
theorem allocD (w:World){ty:TypeId}(A:szO prog ty=some 32)(B:d.length=32):∃ W, wrO prog ty (w.alloc (.cells (bl (zG 32 0)) ty)) w.heap.size 0 (dg d)=some W /\
  W.heap[w.heap.size]?=some (.cells (bl d) ty (0,0))/\No w W/\W.heap.size=w.heap.size+1:=by
 have k:=qQb w (.cells (bl (zG 32 0)) ty);refine⟨_,wr_d A k zl32 B,qQd k,((Fr.refl _ _).alloc _).put (b:=w.heap.size) _ fun h=>absurd h (yZ _),?_⟩;simp[put]
def bdL (wd:Int)(i:Nat):List Bs:=(empts wd 257).take i++zds.drop i
theorem bdL_zero (wd:Int):bdL wd 0=zds:=rfl
theorem bdL_full (wd:Int):bdL wd 257=empts wd 257:=by
 unfold bdL;rw[zB (by rw[qXe];exact xC _),zS (by simp[zds]),z4]
theorem bdL_len (wd:Int)(h:i<=257):(bdL wd i).length=257:=by
 unfold bdL;rw[lAp,lTk,lDr,qXe];simp[zds];omega
theorem bdL_set (wd:Int)(h:i<257):(bdL wd i).set i (emptD wd i)=bdL wd (i+1):=by
 unfold bdL;have A:((empts wd 257).take i).length=i:=by rw[lTk,qXe];omega
 have B:i<zds.length:=by simp[zds];exact h
 rw[List.set_append_right _ _ x8,A,Nat.sub_self,vH B,List.set_cons_zero,tSg (by rw[qXe];exact h)];simp[empts]
def Blank (u w:World)(wd:Int)(bv:Value):Prop:=bv=.slice none 0 0∨NwD u w 75 bv (empts wd 257)
theorem Blank.fr (h:Blank u w wd bv)(f:Fr F w w')(B:∀ b c,w.heap[b]?=some (.cells c 75 (0,0))->u.heap.size<=b->qQf bv=some b->¬ F b):Blank u w' wd bv:=by
 rcases h with h | h
 ·exact .inl h
 ·refine .inr (h.fr f fun b A=>?_)
  rcases h.2.own with ⟨rfl,_⟩ | ⟨D,I,cap,c,rfl,H,_⟩
  ·cases A
  ·have:=(h.lt A).1
   have e:D=b:=by simpa [qQf] using A
   subst e;exact B _ _ H this rfl
theorem Blank.one {u w:World}{wd:Int}{bv:Value}(h:Blank u w wd bv):one bv=true:=by
 rcases h with rfl | h
 ·rfl
 ·obtain⟨a,c,e,_⟩:=h.rd.slice;rw[e];rfl
def baI (u w0:World)(sb A B D:Nat)(wd:Int)(R:Value->Array Value)(H:Value)(n:Nat)(vs:List Value)(w:World):Prop :=
 ∃ (i:Nat),vs=[pt sb 0,H,pt A 0,pt B 0,.int .i64 257,.int .i64 (i:Nat)]/\i<=257/\n=257 - i/\w.heap[sb]?=some (.cells (R (.slice (some ⟨D,0,none⟩) 257 257)) 73 (0,0))/\w.heap[B]?=some (.cells (bl (emptD wd i)) 75 (0,0))/\w.heap[A]?=some (.cells (bl (zG 32 0)) 75 (0,0)) /\
  NwD u w 75 (.slice (some ⟨D,0,none⟩) 257 257) (bdL wd i)/\Fr (fun b=>b=sb) w0 w
theorem bare (u w0:World)(ht:Tabs w0)(hu:u.heap.size<=w0.heap.size){sb:Nat}(hsb:5<=sb){iv:Value}{s:Sup}{mn mr:Nat}{cv vv fv bv:Value}(hrow:w0.heap[sb]?=some (.cells (sgC iv s mn mr cv vv fv bv) 73 (0, 0)))(hB:Blank u w0 s.width bv)(hh:h<257) :
  Fn prog 125 #[pt sb 0,.int .i64 (h:Nat)] w0 fun v w'=>v=dg (emptD s.width h)/\Fr (fun b=>b=sb) w0 w'/\∃ A,w'.heap[sb]?=some (.cells (sgC iv s mn mr cv vv fv A) 73 (0,0))/\NwD u w' 75 A (empts s.width 257)/\(A=bv∨∀ b,qQf A=some b->w0.heap.size<=b):=by
 generalize T:(s.width:Int)=wd at *;refine go125 sm ?_;obtain⟨W,hW,U,k1,s1⟩:=qQl w0 (bl (zG 32 0)) 75;have kS:=U.at hrow id;have V:w0.heap.size≠sb:=by have:=qQi hrow;omega
 have r1:rdO prog 71 W sb 11=some bv:=rd1 agg71 kS rfl;have Y:=qQy wd h;have y1:=iBd (i:=h) (n:=257)
 have Z:∀ (w:World) (A:Value), w.heap[w0.heap.size]?=some (.cells (bl (zG 32 0)) 75 (0, 0))->Fr (fun b=>b=sb) w0 w->w.heap[sb]?=some (.cells (sgC iv s mn mr cv vv fv A) 73 (0, 0))->NwD u w 75 A (empts wd 257)->(∀ b, qQf A=some b->b≠w0.heap.size)->(A=bv∨∀ b, qQf A=some b->w0.heap.size<=b) ->
   ∃ b o cap v,A=.slice (some ⟨b,o,none⟩) 257 cap/\rdO prog 75 w b (o+h*32)=some (dg (emptD wd h))/\wrO prog 75 w w0.heap.size 0 (dg (emptD wd h))=some v/\rdO prog 75 v w0.heap.size 0=some (dg (emptD wd h)) /\
    Fr (fun b=>b=sb) w0 v/\∃ A,v.heap[sb]?=some (.cells (sgC iv s mn mr cv vv fv A) 73 (0,0))/\NwD u v 75 A (empts wd 257)/\(A=bv∨∀ b,qQf A=some b->w0.heap.size<=b):=fun w A k f kR hN hne b3=>by
  have hR:=hN.rd;obtain⟨b,o,cap,O,_,c5⟩:=hR.pos (by rw[qXe];omega);rw[qXe]at O;subst O;have g:=hR.get (P:=prog) agg75 sz75 (i:=h) (by rw[qXe];exact hh);have eg:(empts wd 257).getD h []=emptD wd h:=by rw[gDq,qVn wd 257 hh];rfl
  rw[eg]at g;have fp:Fr (fun b=>b=w0.heap.size) w (put w w0.heap.size (.cells (bl (emptD wd h)) 75 (0,0))):=(Fr.refl _ _).put (b:=w0.heap.size) _ fun _=>rfl
  exact⟨b,o,cap,_,rfl,g,wr_d sz75 k zl32 Y,rd_d agg75 sz75 (qQd (o:=.cells (bl (emptD wd h)) 75 (0,0)) k) Y,
   f.put (b:=w0.heap.size) _ (fun h=>absurd h (yZ _)),_,fp.at kR (fun h=>V h.symm),hN.fr fp (fun c hc h=>hne c hc h),b3⟩
 rcases hB with rfl | hN
 ·obtain⟨M,b4,n2,f2,s2⟩:=mk257 u W (by have:=U.size;omega)
  simp -implicitDefEqProofs only[go_sem,j7,yU,jV,qQk,Tryz.f125,hW,nilOk,r1];refine qQj ⟨_,_,b4,?_⟩;have a0:=f2.at kS id;have q3:=wr1 (P:=prog) (t:=71) (o:=11) (v:=.slice (some ⟨W.heap.size,0,none⟩) 257 257) sz71 rfl a0 (show 11<12 by decide);have a3:=qQd (o:=.cells (sgC iv s mn mr cv vv fv (.slice (some ⟨W.heap.size,0,none⟩) 257 257)) 73 (0,0)) a0;have f3:Fr (fun b=>b=sb) M (put M sb (.cells (sgC iv s mn mr cv vv fv (.slice (some ⟨W.heap.size,0,none⟩) 257 257)) 73 (0,0))):=(Fr.refl _ _).put (b:=sb) _ fun _=>rfl;have c6:=qQi hrow;have n3:=n2.fr f3 fun b B h=>by simp only[qQf,oSi]at B;omega
  have q3:wrO prog 71 M sb 11 (.slice (some ⟨W.heap.size,0,none⟩) 257 257)=some (put M sb (.cells (sgC iv s mn mr cv vv fv (.slice (some ⟨W.heap.size,0,none⟩) 257 257)) 73 (0,0))):=q3;have a4:Fr (fun b=>b=sb) w0 (put M sb (.cells (sgC iv s mn mr cv vv fv (.slice (some ⟨W.heap.size,0,none⟩) 257 257)) 73 (0,0))):=((U.trans f2).mono fun _ _ h=>h.elim).trans f3;have k3:=f3.at (f2.at k1 id) V;have r3:rdO prog 3 (put M sb (.cells (sgC iv s mn mr cv vv fv (.slice (some ⟨W.heap.size,0,none⟩) 257 257)) 73 (0,0))) sb 1=some (.int .i64 wd):=by rw[<- T];exact rd1 agg3 a3 rfl
  simp -implicitDefEqProofs only[go_sem,j7,jV,yK,nilOk,q3,r3];generalize put M sb (.cells (sgC iv s mn mr cv vv fv (.slice (some ⟨W.heap.size,0,none⟩) 257 257)) 73 (0,0))=w3 at *;refine qQa pl159 ((empty0 w3 (ht.fr a4 fun b B h=>by omega) wd).mono ?_);rintro _ D ⟨rfl,f4⟩;obtain⟨w5,q5,k5,f5,s5⟩:=allocD D sz75 (qQy wd 0);have I:=f4.trans f5;have a5:=I.at a3 id;have r5:rdO prog 71 w5 sb 11=some (.slice (some ⟨W.heap.size,0,none⟩) 257 257):=rd1 agg71 a5 rfl;have n5:=n3.fr0 I;have b5:=I.at k3 id;have c7:=f4.size;have z2:W.heap.size<D.heap.size:=by have:=f3.size;omega
  have zr:w0.heap.size<D.heap.size:=x8
  simp -implicitDefEqProofs only[go_sem,j7,yU,jV,qQk,q5,nilOk,r5];rw[<- bdL_zero wd]at n5;refine loopD [0,1,4,5,26,27] (baI u w0 sb w0.heap.size D.heap.size W.heap.size wd (fun bv=>sgC iv s mn mr cv vv fv bv) (.int .i64 (h:Nat))) 257 ⟨0,rfl,x8,rfl,a5,k5,b5,n5,a4.trans (I.mono fun _ _ h=>h.elim)⟩ ?_;rintro _ vs J g ⟨i,rfl,hi,rfl,L,k6,a6,n6,f6⟩
  by_cases a7:i<257
  ·have d1:=dTo ((i:Int)<257)
   have y2:=iBd (i:=i) (n:=257);have c1:=iSu (i:=i);have b6:rdO prog 71 J.drew sb 11=some (.slice (some ⟨W.heap.size,0,none⟩) 257 257):=rd1 (w:=J.drew) agg71 L rfl;have re:=rd_d agg75 sz75 k6 (qQy wd i);have b7:rdO prog 75 J.drew D.heap.size 0=some (dg (emptD wd i)):=re;have b8:=n6.fr0 (Fr.refl (fun _=>False) J).drew;obtain⟨R,q7,n7,f7⟩:=b8.set (P:=prog) sz75 (i:=i) (by rw[bdL_len wd x8];exact a7) (qQy wd i);rw[bdL_set wd a7,jV]at *;have b9:sb≠W.heap.size:=x8
   have a8:=f7.at (show J.drew.heap[sb]?=_ from L) b9;have a9:Fr (fun b=>b=sb) w0 R:=f6.drew.trans' f7 fun b B h=>by omega
   have k7:=f7.at (show J.drew.heap[D.heap.size]?=_ from k6) x8;have c0:=f7.at (show J.drew.heap[w0.heap.size]?=_ from a6) x8;have c3:rdO prog 3 R.drew sb 1=some (.int .i64 wd):=by rw[<- T];exact rd1 (w:=R.drew) agg3 a8 rfl
   have c4:=rd_d agg75 sz75 k7 (qQy wd i);have b0:rdO prog 75 R.drew D.heap.size 0=some (dg (emptD wd i)):=c4;simp -implicitDefEqProofs only[go_sem,j7,jV,yK,d1,nilOk,b6,b7,y2,and_self,iTn,q7,c3,b0];refine qQa pl160 ((branch R.drew ((ht.fr a9 fun b B h=>by omega).no (Fr.refl _ _).drew) wd (qQy wd i) (qQy wd i)).mono ?_);rintro _ w8 ⟨rfl,f8⟩;have H:No R w8:=(Fr.refl _ _).drew.trans f8;have b1:qXk wd (emptD wd i) (emptD wd i)=emptD wd (i+1):=rfl;have k8:=H.at k7 id;have q8:=wr_d sz75 k8 (qQy wd i) (qQy wd (i+1));rw[<- b1]at q8;simp -implicitDefEqProofs only[go_sem,j7,q8,c1];rw[b1];have N:Fr (fun b=>b=D.heap.size) w8 (put w8 D.heap.size (.cells (bl (emptD wd (i+1))) 75 (0,0))):=(Fr.refl _ _).put (b:=D.heap.size) _ fun _=>rfl;refine⟨257 - (i+1),x8,i+1,rfl,x8,rfl,N.at (H.at a8 id) x8,qQd k8,N.at (H.at c0 id) x8,(n7.fr0 H).fr N fun b B h=>by simp only[qQf,oSi]at B;omega,(a9.trans (H.mono fun _ _ h=>h.elim)).put (b:=D.heap.size) _ fun h=>by omega⟩
  ·have d1:=dFo ((i:Int)<257)
   obtain rfl:i=257:=x8
   rw[bdL_full]at n6;have r6:rdO prog 71 J sb 11=some (.slice (some ⟨W.heap.size,0,none⟩) 257 257):=rd1 agg71 L rfl;obtain⟨b,o,cap,v,O,g1,g2,g3,g4,g5⟩:=Z J _ a6 f6 L n6 (fun b B h=>by simp only[qQf,oSi]at B;omega) (.inr fun b B=>by simp only[qQf,oSi]at B;omega);cases O;rw[jV]at g1;simp -implicitDefEqProofs only[go_sem,j7,jV,d1,nilOk,r6,y1,and_self,iTn,g1,g2,g3];exact⟨g4,g5⟩
 ·obtain⟨b, o, cap, v, O, g1, g2, g3, g4, g5⟩:=Z W bv k1 (U.mono fun _ _ h=>h.elim) kS (hN.fr0 U) (fun b B h=>by
   have:=(hN.lt B).2;omega) (.inl rfl)
  subst O;simp -implicitDefEqProofs only[go_sem,j7,yU,jV,qQk,Tryz.f125,hW,nilOk,r1,y1,and_self,iTn,g1,g2,g3];exact⟨g4,g5⟩
end A
end
section
open Go.Proofs Sha
namespace A
open Aud
def SRow (u w:World)(sb:Nat)(iv:Value)(s:Sup)(mn mr:Nat)(cv vv fv:Value)(E:Nat->Prop):Prop:=∃ bv,w.heap[sb]?=some (.cells (sgC iv s mn mr cv vv fv bv) 73 (0,0))/\Blank u w s.width bv/\∀ b,qQf bv=some b->¬ E b
section
variable {u w0 w w':World} {sb:Nat} {iv:Value} {s:Sup} {mn mr:Nat} {cv vv fv:Value} {E:Nat->Prop}
theorem Blank.lt (h:Blank u w wd bv)(A:qQf bv=some b):u.heap.size<=b/\b<w.heap.size:=by
 rcases h with rfl | h
 ·cases A
 ·exact h.lt A
theorem SRow.fr0 (h:SRow u w sb iv s mn mr cv vv fv E)(f:No w w'):SRow u w' sb iv s mn mr cv vv fv E:=by
 obtain⟨bv,A,B,D⟩:=h;exact⟨bv,f.at A id,B.fr f (fun _ _ _ _ _ h=>h),D⟩
theorem SRow.mono {E':Nat->Prop}(h:SRow u w sb iv s mn mr cv vv fv E)(D:∀ b,b<w.heap.size->E' b->E b):SRow u w sb iv s mn mr cv vv fv E':=by
 obtain⟨bv,H,A,I⟩:=h;exact⟨bv,H,A,fun b B J=>I b B (D b (A.lt B).2 J)⟩
theorem SRow.grow (h:SRow u w sb iv s mn mr cv vv fv E)(f:No w w'):SRow u w' sb iv s mn mr cv vv fv (fun b=>E b∨w.heap.size<=b):=by
 obtain⟨bv,D,A,H⟩:=h;exact⟨bv,f.at D id,A.fr f (fun _ _ _ _ _ h=>h),fun b B I=>I.elim (H b B) fun h=>by have:=(A.lt B).2;omega⟩
theorem SRow.put (h:SRow u w sb iv s mn mr cv vv fv E){A:Nat}(o:Obj)(D:A≠sb)(H:E A)(I:fzO o=false:=by rfl):SRow u (V.put w A o) sb iv s mn mr cv vv fv E:=by
 obtain⟨bv,J,L,B⟩:=h;have f:Fr (fun b=>b=A) w (V.put w A o):=(Fr.refl _ _).put (b:=A) o (fun _=>rfl) I;exact⟨bv,f.at J fun e=>D e.symm,L.fr f (fun b c _ _ M e=>by subst e;exact B _ M H),B⟩
theorem bareS (I:Tabs w0)(J:u.heap.size<=w0.heap.size)(hsb:5<=sb)(L:SRow u w0 sb iv s mn mr cv vv fv E)(M:∀ b, E b->b<w0.heap.size)(hh:h<257) :
  Fn prog 125 #[pt sb 0,.int .i64 (h:Nat)] w0 fun v w'=>v=dg (emptD s.width h)/\Fr (fun b=>b=sb) w0 w'/\SRow u w' sb iv s mn mr cv vv fv E:=by
 obtain⟨bv,N,O,R⟩:=L;refine (bare u w0 I J hsb N O hh).mono ?_;rintro v w' ⟨e,f,B,k,n,A⟩;refine⟨e,f,B,k,.inr n,fun b D H=>?_⟩
 rcases A with rfl | A
 ·exact R b D H
 ·have:=A b D;have:=M b H;omega
theorem SRow.rdw (h:SRow u w sb iv s mn mr cv vv fv E):rdO prog 3 w sb 1=some (.int .i64 (s.width:Nat)):=by
 obtain⟨bv,A,_⟩:=h;exact rd1 agg3 A rfl
theorem SRow.lt (h:SRow u w sb iv s mn mr cv vv fv E):sb<w.heap.size:=by
 obtain⟨bv,A,_⟩:=h;exact qQi A
theorem bit0 (k:Bs)(i:Nat):(kb k i == 0)=!kbit k i:=by unfold kb;cases kbit k i <;> rfl
theorem climb_next (wd:Int)(k d:Bs)(i:Nat):V.climb wd k 0 d (empts wd (i+1))=up wd k i (V.climb wd k 0 d (empts wd i)) (emptD wd i):=by
 have:empts wd (i+1)=empts wd i++[emptD wd i]:=by simp[empts,vB]
 rw[this,climb_app,qXe,jV];rfl
def clI (u w0:World)(sb H A B:Nat)(iv:Value)(s:Sup)(mn mr:Nat)(cv vv fv:Value)(E:Nat->Prop)(k:Bs)(I:List Value)(J:Bs)(D:Nat)(n:Nat)(vs:List Value)(w:World):Prop :=
 ∃ (i:Nat),vs=[pt sb 0,pt H 0,pt A 0,.int .i64 (s.width:Nat),pt B 0,.int .i64 (D:Nat),.int .i64 (i:Nat)]/\i<=D/\n=D - i/\w.heap[H]?=some (.cells I.toArray 78 (0,0))/\w.heap[A]?=some (.cells (bl z32) 75 (0,0))/\w.heap[B]?=some (.cells (bl (V.climb s.width k 0 J (empts s.width i))) 75 (0,0)) /\
  SRow u w sb iv s mn mr cv vv fv (fun b=>E b∨b=A∨b=B)/\Fr (fun b=>b=sb) w0 w
theorem climb (ht:Tabs w0)(hu:u.heap.size<=w0.heap.size)(hsb:5<=sb)(hS:SRow u w0 sb iv s mn mr cv vv fv E)(hE:∀ b, E b->b<w0.heap.size){k val:Bs}(R:k.length=32){T:Value}(hv:By w0 T val)(on:one T=true)(hl:val.length<=128)(hh:h<257) :
  Fn prog 187 #[pt sb 0,.agg (ndA (.leaf k val) T).toArray,.int .i64 (h:Nat)] w0 fun v w'=>v=dg (V.climb s.width k 0 (leafD s.width k val) (empts s.width h))/\Fr (fun b=>b=sb) w0 w'/\SRow u w' sb iv s mn mr cv vv fv E:=by
 refine go187 sm ?_;have b9:=hS.lt;generalize N:ndA (.leaf k val) T=Y;have c0:Y.length=102:=by rw[<- N];exact qQu z32l z32l R _
 obtain⟨W,hW,Z,k1,k2,s1⟩:=qJq w0 Y.toArray 78 (bl z32) 75;have a8:=hS.grow Z;have a9:=a8.rdw
 have rk:∀ w:World,w.heap[w0.heap.size]?=some (.cells Y.toArray 78 (0,0))->rdO prog 76 w w0.heap.size 69=some (dg k):=fun w k1=>by
  refine qKb (e:=78) (fz:=(0,0)) (a:=[.int .i64 1,.int .i64 0,.int .i64 0,.int .i64 0,.int .i64 0]++z32.map u8++z32.map u8) (m:=k.map u8) (r:=[T]) agg76 (by simp[R];exact sz76) (by simp[R]) ?_ sm;rw[k1,<- N];rfl
 have rv:rdO prog 22 W w0.heap.size 101=some T:=by
  refine rd_one (e:=78) (fz:=(0,0)) (a:=[.int .i64 1,.int .i64 0,.int .i64 0,.int .i64 0,.int .i64 0]++z32.map u8++z32.map u8++k.map u8) (r:=[]) agg22 ?_ (by simp[R]);rw[k1,<- N];rfl
 have b1:=rk W k1;simp -implicitDefEqProofs only[go_sem,j7,vS,yU,jV,yK,qQk,Tryz.f187,hW,nilOk,a9,b1,rv];refine qQa pl193 ((leaf W (ht.no Z) s.width R (hv.fr0 Z) x8).mono ?_);rintro _ B ⟨rfl,f3⟩;obtain⟨w4,q4,k4,f4,s4⟩:=allocD B sz75 (qZo s.width k val)
 have H:=(f3.trans f4)
 simp -implicitDefEqProofs only[go_sem,j7,yU,qQk,q4];have c3:w0.heap.size+2<=B.heap.size:=by have:=f3.size;omega
 refine loopD [0,4,6,7,8,22,23] (clI u w0 sb w0.heap.size (w0.heap.size+1) B.heap.size iv s mn mr cv vv fv E k Y (leafD s.width k val) h) h ⟨0,rfl,x8,rfl,H.at k1 id,H.at k2 id,k4,?_,(Z.trans H).mono fun _ _ h=>h.elim⟩ ?_
 ·refine (hS.grow (Z.trans H)).mono fun b A he=>?_
  rcases he with he | rfl | rfl
  ·exact .inl he
  ·exact .inr x8
  ·exact .inr x8
 rintro _ vs w g ⟨i,rfl,hi,rfl,kn,kr,kd,a0,fw⟩
 by_cases c4:i<h
 ·have d1:=dTo ((i:Int)<(h:Int))
  have b3:∀ b,(E b∨b=w0.heap.size+1∨b=B.heap.size)->b<w.heap.size:=fun b A=>by
   have:=qQi kr;have:=qQi kd
   rcases A with A | rfl | rfl
   ·have:=hE b A;omega
   ·omega
   ·omega
  simp -implicitDefEqProofs only[go_sem,j7,d1];refine qQa pl125 ((bareS (ht.fr fw fun b A h=>by omega) (by have:=fw.size;omega) hsb a0 b3 (h:=i) x8).mono ?_);rintro _ w5 ⟨rfl,f5,b4⟩;obtain⟨w6,q6,k6,f6,s6⟩:=allocD w5 sz75 (qQy s.width i);have I:Fr (fun b=>b=sb) w w6:=f5.trans (f6.mono fun _ _ h=>h.elim);have a3:=I.at kn x8;have b5:=I.at kr x8;have a4:=I.at kd x8;have b6:=b4.fr0 f6;have b7:=rk w6 a3;have c1:IntKind.i64.wrap (255 - (i:Int))=((255 - i:Nat):Int):=by rw[qQr x8 x8];omega
  simp -implicitDefEqProofs only[go_sem,j7,yU,jV,qQk,q6,b7,c1];refine qQa pl194 ((bbit w6 R (i:=255 - i) x8).mono ?_);rintro _ w7 ⟨rfl,f7⟩;have b0:=bit0 k (255 - i);have O:Fr (fun b=>b=sb) w0 w7:=(fw.trans I).trans (f7.mono fun _ _ h=>h.elim);have M:(V.climb s.width k 0 (leafD s.width k val) (empts s.width i)).length=32:=qKi _ _ _ _ _ (qZo _ _ _);have a5:=rd_d agg75 sz75 (f7.at a4 id) M;have a6:=rd_d agg75 sz75 (f7.at k6 id) (qQy s.width i);have nx:=climb_next s.width k (leafD s.width k val) i;have c2:=iSu (i:=i)
  have a7:∀ (J:World) (D:Bs), No w7 J->D=V.climb s.width k 0 (leafD s.width k val) (empts s.width (i+1))->D.length=32 ->
    wrO prog 75 J B.heap.size 0 (dg D)=some (V.put J B.heap.size (.cells (bl D) 75 (0,0)))/\clI u w0 sb w0.heap.size (w0.heap.size+1) B.heap.size iv s mn mr cv vv fv E k Y (leafD s.width k val) h (h - (i+1)) [pt sb 0,pt w0.heap.size 0,pt (w0.heap.size+1) 0,.int .i64 (s.width:Nat),pt B.heap.size 0,.int .i64 (h:Nat),.int .i64 ((i+1:Nat):Int)] (V.put J B.heap.size (.cells (bl D) 75 (0,0))):=fun J D U hD b8=>by
   subst hD;have L:=f7.trans U;have k8:=L.at a4 id;refine⟨wr_d sz75 k8 M b8,i+1,rfl,x8,rfl,qQh (L.at a3 id) x8,qQh (L.at b5 id) x8,qQd k8,(b6.fr0 L).put _ x8 (.inr (.inr rfl)),(O.trans (U.mono fun _ _ h=>h.elim)).put (b:=B.heap.size) _ fun h=>by omega⟩
  cases A:kbit k (255 - i) with
  | false =>
   rw[A,xH]at b0;simp -implicitDefEqProofs only[go_sem,j7,b0,a5,a6];refine qQa pl160 ((branch w7 (ht.fr O fun b A h=>by omega) s.width M (qQy s.width i)).mono ?_);rintro _ J ⟨rfl,U⟩;obtain⟨q8,I8⟩:=a7 J _ U (by rw[nx];unfold up;rw[A];rfl) (qXp _ _ _);simp -implicitDefEqProofs only[go_sem,j7,q8,c2];exact⟨h - (i+1),x8,I8⟩
  | true =>
   rw[A,y8]at b0;simp -implicitDefEqProofs only[go_sem,j7,b0,a5,a6];refine qQa pl160 ((branch w7 (ht.fr O fun b A h=>by omega) s.width (qQy s.width i) M).mono ?_);rintro _ J ⟨rfl,U⟩;obtain⟨q8,I8⟩:=a7 J _ U (by rw[nx];unfold up;rw[A];rfl) (qXp _ _ _);simp -implicitDefEqProofs only[go_sem,j7,q8,c2];exact⟨h - (i+1),x8,I8⟩
 ·have d1:=dFo ((i:Int)<(h:Int))
  obtain rfl:i=h:=x8
  have M:(V.climb s.width k 0 (leafD s.width k val) (empts s.width i)).length=32:=qKi _ _ _ _ _ (qZo _ _ _);have rd:=rd_d agg75 sz75 kd M;have q:=wr_d sz75 kr zl32 M;have r:=rd_d agg75 sz75 (qQd (o:=.cells (bl (V.climb s.width k 0 (leafD s.width k val) (empts s.width i))) 75 (0,0)) kr) M;simp -implicitDefEqProofs only[go_sem,j7,d1,rd,q,r];exact⟨fw.put (b:=w0.heap.size+1) _ fun h=>by omega,(a0.put _ x8 (.inr (.inl rfl))).mono fun b _ h=>.inl h⟩
end
end A
end
section
open Go.Proofs Sha
theorem RdR.cutV {rows:Rows}(h:RdR w k (.slice a n cap) rows)(hl:l<=m)(H:m<=n)(I:rows.length=n):RdR w k (V.cutV k a cap l m) ((rows.drop l).take (m - l)):=by
 subst I;refine⟨fun r A=>h.1 r (vP (List.mem_of_mem_take A)),?_⟩;have e:((rows.drop l).take (m - l)).length=m - l:=by rw[lTk,lDr];omega
 have B:∀ (l:Rows) (n:Nat),RowsOk k l->(l.flatten).take (n*k)=(l.take n).flatten/\(l.flatten).drop (n*k)=(l.drop n).flatten:=by
  intro l
  induction l with
  | nil=>intro n _;simp
  | cons r l J =>
   intro n D;have A:=(D r sm).1
   cases n with
   | zero=>simp
   | succ n =>
    obtain⟨L,M⟩:=J n D.tail;have N:(n+1)*k=r.length+n*k:=by rw[A,Nat.add_mul];omega
    simp only[List.flatten_cons,vR,List.drop_succ_cons];rw[N];constructor
    ·rw[List.take_append,zB x8,vC,L]
    ·rw[List.drop_append,zS x8,vC,M,List.nil_append]
 have O:RowsOk k (rows.drop l):=fun r A=>h.1 r (vP A);rw[e,<- (B _ _ O).1,<- (B _ _ h.1).2];exact Rd.cutV h.2 hl H
def enRow (c:Bs × Bs)(vv:Value):List Value:=c.1.map u8++[vv]
def EnR (w:World)(v:Value)(es:List (Bs × Bs)):Prop:=∃ rows,RdR w 33 v rows/\rows.length=es.length/\∀ i (h:i<rows.length) (A:i<es.length),∃ vv,rows[i]=enRow es[i] vv/\es[i].1.length=32/\one vv=true/\By w vv es[i].2
theorem EnR.fr0 (h:EnR w v es)(k:No w w'):EnR w' v es:=by
 obtain⟨rows,A,B,D⟩:=h;refine⟨rows,A.fr0 k,B,fun i a b=>?_⟩;obtain⟨vv,e,l,o,y⟩:=D i a b;exact⟨vv,e,l,o,y.fr0 k⟩
theorem EnR.slice (h:EnR w v es):∃ a cap,v=.slice a es.length cap/\es.length<=cap:=by
 obtain⟨rows,A,B,_⟩:=h;rw[<- B];exact A.slice
theorem EnR.cutV (h:EnR w (.slice a n cap) es)(hl:l<=m)(A:m<=n)(I:es.length=n):EnR w (V.cutV 33 a cap l m) ((es.drop l).take (m - l)):=by
 obtain⟨rows,B,D,H⟩:=h;refine⟨_,B.cutV hl A x8,by simp[D],fun i a b=>?_⟩;simp only[List.getElem_take,List.getElem_drop];rw[lTk,lDr]at a b;exact H (l+i) x8 x8
theorem EnR.at (h:EnR w v es)(hi:i<es.length):∃ b o cap vv, v=.slice (some ⟨b, o, Option.none⟩) es.length cap/\es.length<=cap/\es[i].1.length=32/\one vv=true/\By w vv es[i].2 /\
  ∀ w',No w w'->rdO prog 76 w' b (o+i*33)=some (dg es[i].1)/\rdO prog 22 w' b (o+i*33+32)=some vv/\rdO prog 83 w' b (o+i*33)=some (.agg (enRow es[i] vv).toArray):=by
 obtain⟨rows,B,H,I⟩:=h;have A:i<rows.length:=x8
 obtain⟨vv,D,hl,J,L⟩:=I i A hi;obtain⟨b,o,cap,rfl,M⟩:=B.pos j0 x8;refine⟨b,o,cap,vv,by rw[H],x8,hl,J,L,fun w' k=>⟨?_,?_,?_⟩⟩
 ·refine (B.fr0 k).sub agg76 sz76 j0 A (j:=0) j0 (xs:=es[i].1.map u8) (by simp[hl]) fun q N=>?_
  rw[D,jV,enRow,List.getElem?_append_left (by simp[hl];omega)]
 ·refine (B.fr0 k).fld agg22 A j0 ?_
  rw[D,enRow,List.getElem?_append_right (by simp[hl])];simp[hl]
 ·rw[<- D];exact (B.fr0 k).get agg83 sz83 j0 A
namespace R
def cwI (w0:World)(wd:Int)(esv:Value)(k full:Bs)(f n:Nat)(m:Nat)(vs:List Value)(w:World):Prop :=
 ∃ (h:Nat) (d:Bs),vs=[esv,.int .i64 wd,pt w0.heap.size 0,pt (w0.heap.size+1) 0,pt (w0.heap.size+2) 0,.int .i64 (n:Nat),.int .i64 (h:Nat)]/\f<=h/\h<=n/\m=n - h/\d.length=32/\full=climb wd k h d (((empts wd 257).drop h).take (n - h)) /\
  w.heap[w0.heap.size]?=some (.cells (bl k) 76 (0,0))/\w.heap[w0.heap.size+1]?=some (.cells (bl d) 75 (0,0))/\w.heap[w0.heap.size+2]?=some (.cells (bl (zG 32 0)) 75 (0,0))/\No w0 w
theorem climbWithF (w0:World)(ht:Tabs w0)(wd:Int)(he:RdD w0 esv (empts wd 257)){k:Bs}(hk:k.length=32)(hd:d.length=32){f n:Nat}(a4:f<=n)(hn:n<=256) :
  Fn prog 141 #[esv,.int .i64 wd,dg k,.int .i64 (f:Nat),dg d,.int .i64 (n:Nat)] w0 fun v w'=>v=dg (climb wd k f (cutD wd d) (((empts wd 257).drop f).take (n - f)))/\No w0 w':=by
 refine go141 sm ?_;obtain⟨W,hW,f1,k1,k2,k3,s1⟩:=allocs3 w0 (bl k) 76 (bl d) 75 (bl (zG 32 0)) 75;simp -implicitDefEqProofs only[go_sem,j7,vS,Tryz.f141,yU,qQk,hW];refine qQa pl168 ((within W f 0 256 j0).mono ?_);rintro _ w2 ⟨rfl,rfl⟩;simp -implicitDefEqProofs only[go_sem,j7];refine qQa pl168 ((within w2 n 0 256 j0).mono ?_);rintro _ w3 ⟨rfl,rfl⟩;have m1:max (0:Int) (min (f:Int) 256)=(f:Int):=x8
 have m2:max (0:Int) (min (n:Int) 256)=(n:Int):=x8
 have r3:=rd_d agg75 sz75 k2 hd;simp -implicitDefEqProofs only[go_sem,j7,r3,m1,m2];refine qQa pl133 ((dcut w3 wd hd).mono ?_);rintro _ w4 ⟨rfl,N⟩;have lc:=qZm wd d;have q5:=wr_d sz75 (N.at k2 id) hd lc;have k5:=qQd (o:=.cells (bl (cutD wd d)) 75 (0,0)) (N.at k2 id);have T:=qQh (b:=w0.heap.size+1) (o:=.cells (bl (cutD wd d)) 75 (0,0)) (N.at k1 id) x8;have U:=qQh (b:=w0.heap.size+1) (o:=.cells (bl (cutD wd d)) 75 (0,0)) (N.at k3 id) x8;have f5:No w0 (put w4 (w0.heap.size+1) (.cells (bl (cutD wd d)) 75 (0,0))):=(f1.trans N).put (b:=w0.heap.size+1) _ fun h=>by omega
 simp -implicitDefEqProofs only[go_sem,j7,q5];generalize put w4 (w0.heap.size+1) (.cells (bl (cutD wd d)) 75 (0,0))=w5 at *;generalize D:climb wd k f (cutD wd d) (((empts wd 257).drop f).take (n - f))=full;refine loopD [0,1,8,10,12,14,15] (cwI w0 wd esv k full f n) (n - f) ⟨f,cutD wd d,rfl,xC _,a4,rfl,lc,D.symm,T,k5,U,f5⟩ ?_;clear r3 q5 k5 T U f5 N D;rintro _ vs w6 g ⟨h,x,rfl,a8,hh,rfl,J,I,j1,j2,j3,O⟩
 by_cases a9:h<n
 ·have d1:=dTo ((h:Int)<(n:Int))
  have c1:=iSu (i:=h);have c2:IntKind.i64.wrap (255 - (h:Int))=((255 - h:Nat):Int):=qXv (a:=255) x8 x8;have rk:=rd_d agg76 sz76 j1 hk;simp -implicitDefEqProofs only[go_sem,j7,d1,rk,c2];refine qQa pl170 ((bit w6 hk (i:=255 - h) x8).mono ?_);rintro _ R ⟨rfl,L⟩;have V:=he.fr0 (O.trans L);obtain⟨eb,eo,ec,rfl,_,_⟩:=V.pos (by rw[qXe];decide);have re:=V.get (P:=prog) agg75 sz75 (i:=h) (by rw[qXe];omega);rw[gDq,qVn wd 257 x8,Option.getD_some]at re;have Y:rdO prog 75 R.drew eb (eo+h*32)=_:=re;have y1:(0:Int)<=(h:Int)/\(h:Int)<(((empts wd 257).length:Nat):Int):=by rw[qXe];omega
  have Z:=qQy wd h;have a0:=L.at j1 id;have H:=L.at j2 id;have a3:=L.at j3 id;have a5:=rd_d agg75 sz75 H J;have M:rdO prog 75 R.drew (w0.heap.size+1) 0=_:=a5
  have a6:((empts wd 257).drop h).take (n - h)=emptD wd h::((empts wd 257).drop (h+1)).take (n - (h+1)):=by
   rw[vH (by rw[qXe];omega),show n - h=(n - (h+1))+1 by omega,vR]
   congr 1
   have:=qVn wd 257 (i:=h) x8;rw[zZ (by rw[qXe];omega)]at this;exact Option.some.inj this
  rw[a6,climb]at I;unfold up at I;unfold kb
  by_cases B:kbit k (255 - h)=true
  ·rw[if_pos B]at I
   rw[if_pos B];have d0:((1:Int) == 0)=false:=rfl;simp -implicitDefEqProofs only[go_sem,j7,d0,y1,and_self,iTn,Y,M];refine qQa pl96 ((branch R.drew (ht.no (O.trans L).drew) wd Z J).mono ?_);rintro _ w8 ⟨rfl,f8⟩;have lb:(qXk wd (emptD wd h) x).length=32:=qXp _ _ _;have A:No R w8:=(Fr.refl _ _).drew.trans f8;have q9:=wr_d sz75 (A.at H id) J lb;simp -implicitDefEqProofs only[go_sem,j7,q9,c1];exact⟨n - (h+1),x8,h+1,_,rfl,x8,x8,rfl,lb,I,qQh (A.at a0 id) x8,qQd (A.at H id),qQh (A.at a3 id) x8,((O.trans L).trans A).put (b:=w0.heap.size+1) _ fun h=>by omega⟩
  ·rw[if_neg B]at I
   rw[if_neg B];have d0:((0:Int) == 0)=true:=rfl;simp -implicitDefEqProofs only[go_sem,j7,d0,y1,and_self,iTn,Y,M];refine qQa pl96 ((branch R.drew (ht.no (O.trans L).drew) wd J Z).mono ?_);rintro _ w8 ⟨rfl,f8⟩;have lb:(qXk wd x (emptD wd h)).length=32:=qXp _ _ _;have A:No R w8:=(Fr.refl _ _).drew.trans f8;have q9:=wr_d sz75 (A.at H id) J lb;simp -implicitDefEqProofs only[go_sem,j7,q9,c1];exact⟨n - (h+1),x8,h+1,_,rfl,x8,x8,rfl,lb,I,qQh (A.at a0 id) x8,qQd (A.at H id),qQh (A.at a3 id) x8,((O.trans L).trans A).put (b:=w0.heap.size+1) _ fun h=>by omega⟩
 ·have d1:=dFo ((h:Int)<(n:Int))
  obtain rfl:h=n:=x8
  rw[Nat.sub_self,List.take_zero]at I;have I:full=x:=I;subst I;have a7:=rd_d agg75 sz75 j2 J;have q7:=wr_d sz75 j3 zl32 J;have r7:=rd_d agg75 sz75 (qQd (o:=.cells (bl full) 75 (0,0)) j3) J;simp -implicitDefEqProofs only[go_sem,j7,d1,a7,q7,r7];exact O.put (b:=w0.heap.size+2) _ fun h=>by omega
theorem climbWith (w0:World)(A:Tabs w0)(wd:Int)(B:RdD w0 esv (empts wd 257)){k:Bs}(D:k.length=32)(H:d.length=32)(I:n<=256) :
  Fn prog 141 #[esv,.int .i64 wd,dg k,.int .i64 0,dg d,.int .i64 (n:Nat)] w0 fun v w'=>v=dg (climb wd k 0 (cutD wd d) ((empts wd 257).take n))/\No w0 w' :=
 climbWithF w0 A wd B D H (f:=0) (Nat.zero_le _) I
end R
end
end Go.V
