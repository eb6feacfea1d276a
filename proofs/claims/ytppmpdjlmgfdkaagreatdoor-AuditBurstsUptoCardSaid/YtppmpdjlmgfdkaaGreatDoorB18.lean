/- Helpers. -/
import Derived.Laws.Strings
import Derived.Test.YtppmpdjlmgfdkaaGreatDoorB13
import Derived.Test.YtppmpdjlmgfdkaaGreatDoorB15
import Derived.Test.YtppmpdjlmgfdkaaGreatDoorB17
set_option linter.all false
set_option maxRecDepth 100000
set_option maxHeartbeats 8000000
open Array renaming replicate->jA
open Bool renaming not_true->vK,not_false->xH,eq_iff_iff->vP,and_true->vV
open List renaming replicate->zK,getElem?_eq_getElem->xE,drop_eq_getElem_cons->vR,take_of_length_le->zG,drop_of_length_le->zT,getElem?_map->j6,all_cons->vG,range->qI,getElem?_take->xO,range_succ->vT,map_append->vL,append_nil->zO,all_append->vY,drop_zero->j9,map_take->yX,getElem?_cons_zero->vC,map_nil->qE,take_append_drop->jZ,getElem?_eq_none->vS,mem_of_mem_drop->vA,take_succ_cons->vE,replicate_succ->vI,getElem?_drop->vO
open Nat renaming reduceEqDiff->yJ,zero_add->jY,lt_irrefl->yU,reduceBEq->yY,mul_one->yK,le_refl->xC,add_sub_cancel_left->kQ,reduceAdd->vH,add_zero->yF,add_assoc->kX
open Option renaming bind_some->qV,map_some->qK
open Go.Value renaming cells->yN,int->vM
namespace Go.V
open Go.Proofs.Tryz Go.V.Tryz
variable {bs d raw:Bs} {wd:Int} {es:List (Bs × Bs)} {b cap e h i k l m n o p t:Nat} {F:Nat->Prop} {a:Option Addr} {bv esv v:Value} {u w w' w0:World}
section
open Go.Proofs Sha
theorem by_str (h:By w v bs):(convert 22 9 v).run prog w=.ok (.string ⟨(bs.map fun x=>UInt8.ofNat x.toNat).toArray⟩) w:=by
 rcases Nat.eq_zero_or_pos bs.length with h0 | h0
 ·obtain⟨a,cap,rfl,_⟩:=h.slice
  have M:=List.length_eq_zero_iff.1 h0;subst M
  cases a with
  | none=>rfl
  | some V=>rfl
 ·obtain⟨b,o,cap,e,_⟩:=h.pos h0
  subst e;obtain⟨_,a,c,N,W,J⟩:=id h;cases N;obtain⟨b2,Y,O,J⟩:=J om;cases O
  obtain⟨B,I,fz,A,hl⟩:∃ B I fz,w.heap[b]?=some (.cells B I fz)/\∀ i,i<bs.length->B[o+i]?=(bs.map u8)[i]?:=by
   have H:=J 0 om;have R:(bs.map u8)[0]?=some (bs.map u8)[0]:=xE (by simp;omega);rw[R]at H
   obtain⟨B,I,fz,A⟩:∃ B I fz,w.heap[b]?=some (.cells B I fz):=by
    unfold rc at H;split at H
    ·rename_i L;exact⟨_,_,_,L⟩
    ·cases H
   exact⟨B,I,fz,A,fun i hi=>by rw[<- J i om,qXe A]⟩
  have T:o+bs.length<=B.size:=by
   have H:=hl (bs.length - 1) om;rw[xE (by simp;omega)]at H;have:=(Array.getElem?_eq_some_iff.1 H).1;omega
  have U:=r_conv_str (P:=prog) (s:=22) (d:=9) (n:=bs.length) (cap:=cap) slc22 int5 str9 (l:=bs.map fun x=>(x.toNat:Int)) A T (by
   apply List.ext_getElem?;intro i;rw[Array.getElem?_toList,Array.getElem?_extract];split
   ·rw[hl i om]
    simp only[List.map_map,j6]
    rfl
   ·rw[vS (by simp;omega)])
  rw[U,List.map_map]
  rfl
theorem str_eq (a b:Bs):(ByteArray.toList ⟨(a.map fun x=>UInt8.ofNat x.toNat).toArray⟩ == ByteArray.toList ⟨(b.map fun x=>UInt8.ofNat x.toNat).toArray⟩)=decide (a=b):=by
 rw[ByteArray.toList_eq,ByteArray.toList_eq];rw[vP,beq_iff_eq,decide_eq_true_iff];constructor
 ·intro h
  have h:a.map (fun x=>UInt8.ofNat x.toNat)=b.map (fun x=>UInt8.ofNat x.toNat):=h
  refine List.map_inj_right (fun x y e=>?_) |>.1 h
  have:=congrArg UInt8.toNat e;have A:=x.isLt;have B:=y.isLt;simp only[UInt8.toNat_ofNat']at this;apply BitVec.eq_of_toNat_eq;omega
 ·rintro rfl;rfl
theorem bequal (w0:World){av bv:Value}{a b:Bs}(ha:By w0 av a)(A:By w0 bv b):Fn prog 186 #[av,bv] w0 fun v w'=>v=.bool (decide (a=b))/\w'=w0:=by
 refine go186 sm ?_;simp only[go_sem,yJ,Tryz.f186];refine qQj ⟨_,_,by_str ha,?_⟩;simp only[go_sem,yJ];refine qQj ⟨_,_,by_str A,?_⟩;simp only[go_sem,yJ];rw[str_eq];exact⟨rfl,trivial⟩
end
section
open Go.Proofs
namespace A
open Aud
section
variable {t e n:Nat} (ha:arrO prog t=some (n,e)) (hs:szO prog e=some 1) (b:Nat) {l h:Nat} (hl:l<=h) (hh:h<=n)
include ha hs hl hh
theorem slcA (B:l<n):qQw prog t (pt b 0) (some (.int .i64 (l:Nat))) (some (.int .i64 (h:Nat))) none=some (.slice (some ⟨b,l,none⟩) (h - l) (n - l)):=by
 have A:¬ n=l:=om
 simp only[qQw,ha,optB,sbO_nat hh,sbO_nat hl,qV,hs,qK,A,if_false,Addr.add,yK,jY]
 cases l <;> simp
end
theorem slcAlo (ha:arrO prog t=some (n,e))(hs:szO prog e=some 1)(b:Nat)(A:l<n):qQw prog t (pt b 0) (some (.int .i64 (l:Nat))) none none=some (.slice (some ⟨b,l,none⟩) (n - l) (n - l)):=by
 have B:¬ n=l:=om
 simp only[qQw,ha,optB,sbO_nat (Nat.le_of_lt A),qV,hs,qK,B,if_false,Addr.add,yK,jY]
 cases l <;> simp
theorem slcAhi (ha:arrO prog t=some (n,e))(hs:szO prog e=some 1)(b:Nat)(A:h<=n)(H:0<n):qQw prog t (pt b 0) none (some (.int .i64 (h:Nat))) none=some (.slice (some ⟨b,0,none⟩) h n):=by
 have B:¬ n=0:=om
 simp only[qQw,ha,optB,sbO_nat A,qV,hs,qK,B,if_false,Addr.add,Nat.zero_mul,Nat.sub_zero,if_true]
theorem rowBy {e:TypeId}{fz:Nat × Nat}(h:w.heap[b]?=some (.cells (bl d) e fz))(H:o+m<=d.length)(B:m<=cap):By w (.slice (some ⟨b,o,none⟩) m cap) ((d.drop o).take m):=by
 have hl:((d.drop o).take m).length=m:=by rw[lTk,lDr];omega
 refine⟨sm,_,_,by rw[hl],by rw[hl];exact B,fun _=>⟨_,_,rfl,fun j A=>?_⟩⟩;rw[hl,yK]at A;rw[qXe h,bl_at om,yX,xO,if_pos A,List.map_drop,vO,j6,xE om,qQt 0 om];rfl
theorem beq_dec1 (a b:Byte):(a == b)=decide (a=b):=by
 by_cases h:a=b
 ·subst h;simp
 ·rw[decide_eq_false h];simpa using h
theorem bldSup0:bldO prog 67 []=some (.agg sup0):=by
 unfold bldO;rw[zero67,places67];rfl
theorem bldSup (a b c d e:Int):bldO prog 67 [(0,.int .i64 a),(1,.int .i64 b),(2,.int .i64 c),(3,.int .i64 d),(4,.int .i64 e)]=some (.agg #[.int .i64 a,.int .i64 b,.int .i64 c,.int .i64 d,.int .i64 e]):=by
 unfold bldO;rw[zero67,places67];rfl
theorem sup0_one:sup0.all one=true:=by rw[<- Array.all_toList];rfl
theorem cutV_hi (b o cap m:Nat):cutV 1 (some ⟨b,o,none⟩) cap 0 m=.slice (some ⟨b,o,none⟩) m cap:=by
 unfold cutV;simp[Addr.add]
def SuQ (w0:World)(r:Except Int Sup)(v:Value)(w':World):Prop:=No w0 w'/\match r with
 | .error e=>v=.tuple #[.agg sup0,.int .i64 e]
 | .ok s=>v=.tuple #[.agg (supC s),.int .i64 0]
theorem letters_eq:(([76,68,71,49]:Bs).map fun x=>UInt8.ofNat x.toNat).toArray=#[76,68,71,49]:=rfl
theorem unpackSuper (w0:World)(hp:By w0 (.slice (some ⟨b, o, none⟩) 256 cap) raw)(a5:256<=cap) :
  Fn prog 79 #[.slice (some ⟨b,o,none⟩) 256 cap] w0 (SuQ w0 (supP raw)):=by
 have c8:raw.length=256:=hp.len.symm;refine go79 sm ?_;obtain⟨W,hW,f1,k1,s1⟩:=qQl w0 sup0 67;have d1:(((256:Nat):Int) != 256)=false:=rfl;have a6:qQw prog 22 (.slice (some ⟨b,o,none⟩) 256 cap) none (some (.int .i64 64)) none=some (.slice (some ⟨b,o,none⟩) 64 cap):=(slc_hi slc22 arr22 sz5 (l:=64) (n:=256) om a5).trans (by rw[cutV_hi])
 have y1:By W (.slice (some ⟨b,o,none⟩) 64 cap) (raw.take 64):=by
  have:=By.slc (hp.fr0 f1) (l:=0) (m:=64) om om;rw[cutV_hi]at this;exact this
 have R:(raw.take 64).length=64:=by rw[lTk];omega
 simp only[go_sem,yJ,yN,Tryz.f79,d1,a6,hW];refine qQa pl121 ((wholeW W y1 om om).mono ?_);rintro _ T ⟨rfl,f2⟩;have Z:=f1.trans f2;have k2:=f2.at k1 id
 have a4:∀ (w:World) (vs:Array Value), No w0 w->w.heap[w0.heap.size]?=some (.cells sup0 67 (0, 0))->vs.size=5->vs.all one=true ->
   wrO prog 67 w w0.heap.size 0 (.agg vs)=some (put w w0.heap.size (.cells vs 67 (0,0)))/\rdO prog 67 (put w w0.heap.size (.cells vs 67 (0,0))) w0.heap.size 0=some (.agg vs)/\No w0 (put w w0.heap.size (.cells vs 67 (0,0))):=fun w vs f k h5 ho =>
  ⟨qQr (by rw[h5];exact sz67) k (by rw[h5];rfl) ho,rd_all agg67 (by rw[h5];exact sz67) (qQd (o:=.cells vs 67 (0,0)) k),f.put (b:=w0.heap.size) _ fun h=>absurd h (yU _)⟩
 unfold supP
 cases hw:qXw (raw.take 64) with
 | false =>
  obtain⟨H,I,B⟩:=a4 T sup0 Z k2 rfl sup0_one;rw[if_pos rfl];simp only[go_sem,yJ,xH,bldSup0,H,I];exact⟨B,rfl⟩
 | true =>
  rw[if_neg x9]
  have a7:rdO prog 209 T b o=some (dg (raw.take 64)):=rd_dg agg209 sz209 R om fun i hi=>by
   obtain⟨a,c,e,hc,hr⟩:=hp.at;simp only[Value.slice.injEq]at e;obtain⟨rfl,_,rfl⟩:=e;obtain⟨b',o',e,hr⟩:=hr i om;cases e;rw[Z.rc (rc_lt hr) id,hr,yX,xO,if_pos hi,j6,xE om];rfl
  have b7:(64<=64)=True:=sm
  obtain⟨W2,b8,f3,k3,s3⟩:=qQl T (bl (zK 64 0)) 209;have B:wrO prog 209 W2 T.heap.size 0 (dg (raw.take 64))=some (put W2 T.heap.size (.cells (bl (raw.take 64)) 209 (0,0))):=qQr (by rw[qXj,R];exact sz209) k3 (by rw[qXj,qXj,R];rfl) (bl_one _);have O:=qQd (o:=.cells (bl (raw.take 64)) 209 (0,0)) k3;have J:No w0 (put W2 T.heap.size (.cells (bl (raw.take 64)) 209 (0,0))):=(Z.trans f3).put (b:=T.heap.size) _ fun h=>by have:=Z.size;omega
  have L:=qQi (b:=T.heap.size) (o:=.cells (bl (raw.take 64)) 209 (0,0)) (f3.at k2 id) (by have:=qQh k2;omega);simp only[go_sem,yJ,yN,vK,qQk,a6,b7,a7,b8,B];generalize put W2 T.heap.size (.cells (bl (raw.take 64)) 209 (0,0))=A at *;have hsb:w0.heap.size<T.heap.size:=qQh k2;generalize T.heap.size=sb at *;have b9:qQw prog 209 (pt sb 0) none (some (.int .i64 4)) none=some (.slice (some ⟨sb,0,none⟩) 4 64):=slcAhi arr209 sz5 sb (h:=4) om om
  have yy:∀ (w:World),w.heap[sb]?=some (.cells (bl (raw.take 64)) 209 (0,0))->∀ {o m cap:Nat},o+m<=64->m<=cap->By w (.slice (some ⟨sb,o,none⟩) m cap) ((raw.drop o).take m):=fun w k o m cap hm hc=>by
   have:=rowBy k (o:=o) (m:=m) (cap:=cap) (by rw[R];exact hm) hc;rw[List.drop_take,List.take_take,Nat.min_eq_left om]at this;exact this
  have y4:=yy A O (o:=0) (m:=4) (cap:=64) om om;rw[j9]at y4;simp only[go_sem,b9];refine qQj ⟨_,_,by_str y4,?_⟩;have se:=str_eq (raw.take 4) [76,68,71,49];rw[letters_eq]at se
  have U:∀ w, No w0 w->w.heap[w0.heap.size]?=some (.cells sup0 67 (0, 0))->¬ (supF raw/\(supR raw).ok) ->
    wrO prog 67 w w0.heap.size 0 (.agg sup0)=some (put w w0.heap.size (.cells sup0 67 (0,0)))/\rdO prog 67 (put w w0.heap.size (.cells sup0 67 (0,0))) w0.heap.size 0=some (.agg sup0)/\SuQ w0 (if supF raw/\(supR raw).ok then .ok (supR raw) else .error 53) (.tuple #[.agg sup0,.int .i64 53]) (put w w0.heap.size (.cells sup0 67 (0,0))):=fun w f k hn=>by
   obtain⟨H,I,B⟩:=a4 w sup0 f k rfl sup0_one;rw[if_neg hn];exact⟨H,I,B,rfl⟩
  by_cases hL:raw.take 4=[76,68,71,49]
  case neg =>
   rw[decide_eq_false hL]at se;obtain⟨H,I,B⟩:=U A J L fun h=>hL h.1.1;simp only[go_sem,yJ,qZj,xH,se,bldSup0,H,I,if_true];exact B
  rw[decide_eq_true hL]at se;have c0:qQw prog 209 (pt sb 0) (some (.int .i64 5)) (some (.int .i64 8)) none=some (.slice (some ⟨sb,5,none⟩) 3 59):=slcA arr209 sz5 sb (l:=5) (h:=8) om om om;simp only[go_sem,yJ,bSe,vK,se,c0];refine qQa pl122 ((allZero A (yy A O (o:=5) (m:=3) om om) (by rw[lTk];omega)).mono ?_);rintro _ _ ⟨rfl,rfl⟩;rename_i A
  cases a8:zer ((raw.drop 5).take 3) with
  | false =>
   obtain⟨H,I,B⟩:=U A J L fun h=>by have:=h.1.2.1;rw[a8]at this;cases this
   simp only[go_sem,yJ,bSe,qZj,xH,bldSup0,H,I];exact B
  | true =>
  have a9:qQw prog 209 (pt sb 0) (some (.int .i64 28)) (some (.int .i64 60)) none=some (.slice (some ⟨sb,28,none⟩) 32 36):=slcA arr209 sz5 sb (l:=28) (h:=60) om om om;simp only[go_sem,yJ,bSe,vK,a9];refine qQa pl122 ((allZero A (yy A O (o:=28) (m:=32) om om) (by rw[lTk];omega)).mono ?_);rintro _ _ ⟨rfl,rfl⟩;rename_i A
  cases b0:zer ((raw.drop 28).take 32) with
  | false =>
   obtain⟨H,I,B⟩:=U A J L fun h=>by have:=h.1.2.2.1;rw[b0]at this;cases this
   simp only[go_sem,yJ,bSe,qZj,xH,bldSup0,H,I];exact B
  | true =>
  have b1:qQw prog 209 (pt sb 0) (some (.int .i64 15)) (some (.int .i64 16)) none=some (.slice (some ⟨sb,15,none⟩) 1 49):=slcA arr209 sz5 sb (l:=15) (h:=16) om om om;simp only[go_sem,yJ,bSe,vK,b1];refine qQa pl122 ((allZero A (yy A O (o:=15) (m:=1) om om) (by rw[lTk];omega)).mono ?_);rintro _ _ ⟨rfl,rfl⟩;rename_i A
  have c3:(raw.drop 15).take 1=[raw.getD 15 0]:=by
   rw[vR om,qQt 0 om];rfl
  have c4:zer ((raw.drop 15).take 1)=decide (raw.getD 15 0=0):=by
   rw[c3];unfold zer;simp only[vG,List.all_nil,vV,beq_dec1]
  rw[c4]
  by_cases a0:raw.getD 15 0=0
  case neg =>
   obtain⟨H,I,B⟩:=U A J L fun h=>a0 h.1.2.2.2;rw[decide_eq_false a0];simp only[go_sem,yJ,bSe,xH,bldSup0,H,I];exact B
  rw[decide_eq_true a0]
  have hF:supF raw:=⟨hL,a8,b0,a0⟩
  have r4:rdO prog 5 A sb 4=some (.int .u8 ((raw.getD 4 0).toNat:Int)):=by
   have:=(yy A O (o:=0) (m:=64) (cap:=64) om om)
   rw[j9]at this;have:=this.get agg5 (i:=4) (by rw[R];omega);rw[getD_take om,jY]at this;exact this
  have e4:=ext8i (raw.getD 4 0);have c5:qQw prog 209 (pt sb 0) (some (.int .i64 8)) none none=some (.slice (some ⟨sb,8,none⟩) 56 56):=slcAlo arr209 sz5 sb (l:=8) om;have b3:qQw prog 209 (pt sb 0) (some (.int .i64 16)) none none=some (.slice (some ⟨sb,16,none⟩) 48 48):=slcAlo arr209 sz5 sb (l:=16) om;have b4:qQw prog 209 (pt sb 0) (some (.int .i64 20)) none none=some (.slice (some ⟨sb,20,none⟩) 44 44):=slcAlo arr209 sz5 sb (l:=20) om;have b5:qQw prog 209 (pt sb 0) (some (.int .i64 24)) none none=some (.slice (some ⟨sb,24,none⟩) 40 40):=slcAlo arr209 sz5 sb (l:=24) om
  have N:∀ (w:World),w.heap[sb]?=some (.cells (bl (raw.take 64)) 209 (0,0))->∀ {o m n:Nat},o+m<=64->n<=m->n<=7->Fn prog 123 #[.slice (some ⟨sb,o,none⟩) m m,.int .i64 (n:Nat)] w fun v w'=>v=.int .i64 (le ((raw.drop o).take n))/\w'=w:=fun w k o m n h1 h2 h3=>by
   have:=get w (yy w k (o:=o) (m:=m) (cap:=m) h1 (xC _)) (n:=n) (by rw[lTk,lDr];omega) h3;rw[List.take_take,Nat.min_eq_left h2]at this;exact this
  have x4:(0:Int)<=4/\(4:Int)<((64:Nat):Int):=om
  have bs:bldO prog 67 [(0,.int .i64 ((raw.getD 4 0).toNat:Int)),(1,.int .i64 (le ((raw.drop 8).take 7):Nat)),(2,.int .i64 (le ((raw.drop 16).take 4):Nat)),(3,.int .i64 (le ((raw.drop 20).take 4):Nat)),(4,.int .i64 (le ((raw.drop 24).take 4):Nat))]=some (.agg (supC (supR raw))):=bldSup _ _ _ _ _;clear se y4 y1 a7 B hp;simp only[go_sem,yJ,bSe,vK];refine qXg (Q:=fun e ev w=>e=.normal/\∃ tb,ev 2=pt w0.heap.size 0/\ev 5=pt tb 0/\w.heap[tb]?=some (.cells (supC (supR raw)) 67 (0,0))/\No w0 w/\w.heap[w0.heap.size]?=some (.cells sup0 67 (0,0))) _ (fun e ev w=>?_) ?_
  ·rintro⟨rfl,tb,e2,e5,kt,fw,kr⟩
   have rt:=qQp (P:=prog) (t:=67) agg67 sz67 kt;simp only[go_sem,e5,rt];refine qQa pl124 ((valid w (supR raw)).mono ?_);rintro _ w5 ⟨rfl,V⟩
   by_cases a3:(supR raw).ok
   case neg =>
    obtain⟨H,I,B⟩:=U w5 (fw.trans V) (V.at kr id) fun h=>a3 h.2;rw[decide_eq_false a3];simp only[go_sem,yJ,xH,e2,bldSup0,H,I];exact B
   rw[decide_eq_true a3];obtain⟨H,I,B⟩:=a4 w5 (supC (supR raw)) (fw.trans V) (V.at kr id) rfl (qVv _);have c6:=qQp (P:=prog) (t:=67) agg67 sz67 (V.at kt id);rw[if_pos ⟨hF,a3⟩];simp only[go_sem,yJ,vK,e2,e5,c6,H,I];exact⟨B,rfl⟩
  have b6:∀ w:World, w.heap[sb]?=some (.cells (bl (raw.take 64)) 209 (0, 0))->w.heap[w0.heap.size]?=some (.cells sup0 67 (0, 0))->No w0 w->∃ W, w.alloc (.cells sup0 67)=W/\Ext w W/\W.heap[sb]?=some (.cells (bl (raw.take 64)) 209 (0, 0)) /\
    wrO prog 67 W w.heap.size 0 (.agg (supC (supR raw)))=some (put W w.heap.size (.cells (supC (supR raw)) 67 (0,0)))/\(put W w.heap.size (.cells (supC (supR raw)) 67 (0,0))).heap[w.heap.size]?=some (.cells (supC (supR raw)) 67 (0,0))/\No w0 (put W w.heap.size (.cells (supC (supR raw)) 67 (0,0)))/\(put W w.heap.size (.cells (supC (supR raw)) 67 (0,0))).heap[w0.heap.size]?=some (.cells sup0 67 (0,0)):=fun w k kr f=>by
   obtain⟨W5,M,V,k5,s5⟩:=qQl w sup0 67;exact⟨W5,M,V.ext,V.at k id,qQr sz67 k5 rfl (qVv _),qQd (o:=.cells (supC (supR raw)) 67 (0,0)) k5,(f.trans V).put (b:=w.heap.size) _ fun h=>by have:=f.size;omega,qQi (b:=w.heap.size) (o:=.cells (supC (supR raw)) 67 (0,0)) (V.at kr id) (by have:=qQh kr;omega)⟩
  have c7:rdO prog 5 A.drew sb 4=some (.int .u8 ((raw.getD 4 0).toNat:Int)):=r4
  replace O:A.drew.heap[sb]?=_:=O
  replace L:A.drew.heap[w0.heap.size]?=_:=L
  replace J:=J.drew
  clear r4;refine qXl (fun j=>j == 4 || (j == 6 || (j == 8 || (j == 10 || j == 12)))) (.one 0 (.one 1 (.one 2 (.one 3 (.one 5 (.one 7 (.one 9 (.two 4 (.two 6 (.two 8 (.two 10 (.row [11,12,13]) 12 (.row [10,11,13])) 12 (.row [8,10,11,13])) 12 (.row [6,8,10,11,13])) 12 (.row [4,6,8,10,11,13]))))))))) rfl x8 x8 ?_;generalize A.drew=A at *;obtain⟨W5,M,x5,Y,q5,k6,f6,k7⟩:=b6 A O L J;simp only[go_sem,yJ,yY,yN,bSe,jY,OT.row,x4,and_self,if_true,Int.reduceToNat,yK,c7,e4,c5,b3,b4,b5,M,x5,implies_true];refine⟨?_,?_⟩
  ·refine qQe pl123 ((N _ O (o:=8) (m:=56) (n:=7) om om om).mono ?_);rintro _ _ ⟨rfl,rfl⟩;refine⟨fun _=>Ext.refl _,?_⟩
   simp only[go_sem,yJ,yY,yN,bSe,M,x5,implies_true];refine⟨?_,?_⟩
   ·refine qQe pl123 ((N _ O (o:=16) (m:=48) (n:=4) om om om).mono ?_);rintro _ _ ⟨rfl,rfl⟩;refine⟨fun _=>Ext.refl _,?_⟩
    simp only[go_sem,yJ,yY,yN,bSe,M,x5,implies_true];refine⟨?_,?_⟩
    ·refine qQe pl123 ((N _ O (o:=20) (m:=44) (n:=4) om om om).mono ?_);rintro _ _ ⟨rfl,rfl⟩;refine⟨fun _=>Ext.refl _,?_⟩
     simp only[go_sem,yJ,yY,yN,bSe,M,x5,implies_true];refine⟨?_,?_⟩
     ·refine qQe pl123 ((N _ O (o:=24) (m:=40) (n:=4) om om om).mono ?_);rintro _ _ ⟨rfl,rfl⟩;refine⟨fun _=>Ext.refl _,?_⟩
      simp only[go_sem,yJ,yY,yN,bSe,bs,M,q5,x5,implies_true];exact⟨_,rfl,k6,f6,k7⟩
     ·refine qQe pl123 ((N _ Y (o:=24) (m:=40) (n:=4) om om om).mono ?_);rintro _ _ ⟨rfl,rfl⟩;refine⟨fun _=>Ext.refl _,?_⟩
      simp only[go_sem,yJ,yY,bs,q5];exact⟨_,rfl,k6,f6,k7⟩
    ·refine qQe pl123 ((N _ Y (o:=20) (m:=44) (n:=4) om om om).mono ?_);rintro _ _ ⟨rfl,rfl⟩;refine⟨fun _=>Ext.refl _,?_⟩
     simp only[go_sem,yJ];refine qQe pl123 ((N _ Y (o:=24) (m:=40) (n:=4) om om om).mono ?_);rintro _ _ ⟨rfl,rfl⟩;refine⟨fun _=>Ext.refl _,?_⟩;simp only[go_sem,yJ,yY,bs,q5];exact⟨_,rfl,k6,f6,k7⟩
   ·refine qQe pl123 ((N _ Y (o:=16) (m:=48) (n:=4) om om om).mono ?_);rintro _ _ ⟨rfl,rfl⟩;refine⟨fun _=>Ext.refl _,?_⟩
    simp only[go_sem,yJ];refine qQe pl123 ((N _ Y (o:=20) (m:=44) (n:=4) om om om).mono ?_);rintro _ _ ⟨rfl,rfl⟩;refine⟨fun _=>Ext.refl _,?_⟩;simp only[go_sem,yJ];refine qQe pl123 ((N _ Y (o:=24) (m:=40) (n:=4) om om om).mono ?_);rintro _ _ ⟨rfl,rfl⟩;refine⟨fun _=>Ext.refl _,?_⟩;simp only[go_sem,yJ,yY,bs,q5];exact⟨_,rfl,k6,f6,k7⟩
  ·refine qQe pl123 ((N _ Y (o:=8) (m:=56) (n:=7) om om om).mono ?_);rintro _ _ ⟨rfl,rfl⟩;refine⟨fun _=>Ext.refl _,?_⟩
   simp only[go_sem,yJ];refine qQe pl123 ((N _ Y (o:=16) (m:=48) (n:=4) om om om).mono ?_);rintro _ _ ⟨rfl,rfl⟩;refine⟨fun _=>Ext.refl _,?_⟩;simp only[go_sem,yJ];refine qQe pl123 ((N _ Y (o:=20) (m:=44) (n:=4) om om om).mono ?_);rintro _ _ ⟨rfl,rfl⟩;refine⟨fun _=>Ext.refl _,?_⟩;simp only[go_sem,yJ];refine qQe pl123 ((N _ Y (o:=24) (m:=40) (n:=4) om om om).mono ?_);rintro _ _ ⟨rfl,rfl⟩;refine⟨fun _=>Ext.refl _,?_⟩;simp only[go_sem,yJ,yY,bs,q5];exact⟨_,rfl,k6,f6,k7⟩
end A
end
section
open Go.Proofs
namespace A
open Aud
abbrev rc00:Rc:=⟨0,0,0,0,0,0,z32⟩
theorem rcZero:#[.int .i64 0,.int .i64 0,.int .i64 0,.int .i64 0,.int .i64 0,.int .i64 0]++bl (zK 32 0)=(rcC rc00).toArray:=x8
theorem bldRc0:bldO prog 80 []=some (.agg (rcC rc00).toArray):=by
 rw[qKd zero80 places80 (c:=(rcC rc00).toArray) x8];rfl
theorem cutV_lo (h:l<cap):cutV 1 (some ⟨b,o,none⟩) cap l m=.slice (some ⟨b,o+l,none⟩) (m - l) (cap - l):=by
 unfold cutV;rw[if_neg om]
 cases l <;> simp[Addr.add]
def ptrs (b:Nat):Array Value:=#[pt b 0,pt b 1,pt b 2,pt b 3,pt b 4,pt b 5]
theorem bldPtrs (b:Nat):bldO prog 308 [(0,pt b 0),(1,pt b 1),(2,pt b 2),(3,pt b 3),(4,pt b 4),(5,pt b 5)]=some (.agg (ptrs b)):=by
 unfold bldO;rw[zero308,places308,arr308];simp only[qV,sz240];have s:∀ (i:Nat) (a r:List Value) (u:Value) (rest:List (Nat × Value)),a.length=i->Instr.fill (fun i=>some (i*1,1)) (a++u::r).toArray ((i,pt b i)::rest)=Instr.fill (fun i=>some (i*1,1)) (a++pt b i::r).toArray rest:=fun i a r u rest ha=>qJb rfl (by rw[ha,yK]) rfl;have n:∀ k,zK (k+1) (Value.pointer none)=.pointer none::zK k (.pointer none):=fun k=>rfl;have B:=s 0 [] (zK 5 (.pointer none)) (.pointer none) [(1,pt b 1),(2,pt b 2),(3,pt b 3),(4,pt b 4),(5,pt b 5)] rfl;have H:=s 1 [pt b 0] (zK 4 (.pointer none)) (.pointer none) [(2,pt b 2),(3,pt b 3),(4,pt b 4),(5,pt b 5)] rfl;have I:=s 2 [pt b 0,pt b 1] (zK 3 (.pointer none)) (.pointer none) [(3,pt b 3),(4,pt b 4),(5,pt b 5)] rfl;have J:=s 3 [pt b 0,pt b 1,pt b 2] (zK 2 (.pointer none)) (.pointer none) [(4,pt b 4),(5,pt b 5)] rfl;have L:=s 4 [pt b 0,pt b 1,pt b 2,pt b 3] (zK 1 (.pointer none)) (.pointer none) [(5,pt b 5)] rfl;have A:=s 5 [pt b 0,pt b 1,pt b 2,pt b 3,pt b 4] [] (.pointer none) [] rfl;rw[qXu]at A;exact congrArg (Option.map Value.agg) (((((B.trans H).trans I).trans J).trans L).trans A)
theorem part_ptrs (b:Nat)(h:i<6):partO prog 240 (ptrs b) i=some (pt b i):=by
 rw[qKh agg240]
 match i,h with
 | 0,_=>rfl
 | 1,_=>rfl
 | 2,_=>rfl
 | 3,_=>rfl
 | 4,_=>rfl
 | 5,_=>rfl
def rcI (l:Bs)(i:Nat):List Value:=(qI i).map (fun j=>vM .i64 (nat4 l (4*j):Nat))++(zK (6 - i) (.int .i64 0)++z32.map u8)
theorem rcI_step (l:Bs)(h:i<6):(qI i).map (fun j=>vM .i64 (nat4 l (4*j):Nat))++vM .i64 (nat4 l (4*i):Nat)::(zK (5 - i) (.int .i64 0)++z32.map u8)=rcI l (i+1):=by
 unfold rcI;rw[vT,vL,List.append_assoc,show 6 - (i+1)=5 - i by omega];rfl
theorem rcI_at (l:Bs)(h:i<6):rcI l i=(qI i).map (fun j=>vM .i64 (nat4 l (4*j):Nat))++vM .i64 0::(zK (5 - i) (.int .i64 0)++z32.map u8):=by
 unfold rcI;rw[show 6 - i=(5 - i)+1 by omega,vI];rfl
def rdI (u:World)(H:Value)(B A:Nat)(l:Bs)(m:Nat)(vs:List Value)(w:World):Prop :=
 ∃ i,i<=6/\m=6 - i/\vs=[H,pt B 0,.int .i64 0,pt A 0,.agg (ptrs A),.int .i64 (i:Nat)]/\w.heap[A]?=some (.cells (rcI l i).toArray 80 (0,0))/\w.heap[B]?=some (.cells (rcC rc00).toArray 80 (0,0))/\No u w
def RecQ (w0:World)(r:Option Rc)(v:Value)(w':World):Prop:=No w0 w'/\match r with
 | none=>v=.tuple #[.agg (rcC rc00).toArray,.int .i64 150]
 | some r=>v=.tuple #[.agg (rcC r).toArray,.int .i64 0]
theorem rdecode (w0:World){p:Value}{l:Bs}(Y:By w0 p l)(hl:l.length<=2 ^ 40):Fn prog 232 #[p] w0 (RecQ w0 (decR l)):=by
 obtain⟨a,cap,rfl,J⟩:=Y.slice;refine go232 sm ?_;obtain⟨W,hW,f1,k1,s1⟩:=qQl w0 (rcC rc00).toArray 80
 have L:∀ (w:World) (r:Rc), No w0 w->w.heap[w0.heap.size]?=some (.cells (rcC rc00).toArray 80 (0, 0))->r.sum.length=32 ->
   wrO prog 80 w w0.heap.size 0 (.agg (rcC r).toArray)=some (put w w0.heap.size (.cells (rcC r).toArray 80 (0,0)))/\rdO prog 80 (put w w0.heap.size (.cells (rcC r).toArray 80 (0,0))) w0.heap.size 0=some (.agg (rcC r).toArray)/\No w0 (put w w0.heap.size (.cells (rcC r).toArray 80 (0,0))):=fun w r f k h5 =>
  ⟨qQr (by simp[qXn h5];exact sz80) k (by simp[qXn h5,qXn (r:=rc00) sm]) (by simpa using rcC_one r),rd_all agg80 (by simp[qXn h5];exact sz80) (qQd (o:=.cells (rcC r).toArray 80 (0,0)) k),f.put (b:=w0.heap.size) _ fun h=>absurd h (yU _)⟩
 by_cases H:l.length=56
 case neg =>
  have n1:((l.length:Int) != 56)=true:=by rw[show ((l.length:Int) != 56)=decide (l.length≠56) from natne _ 56];exact decide_eq_true H
  obtain⟨N,O,R⟩:=L W rc00 f1 k1 sm;have e:decR l=none:=by unfold decR;rw[if_neg fun h=>H h.1]
  rw[e];simp -implicitDefEqProofs only[go_sem,yJ,yN,qQk,Tryz.f232,rcZero,hW,n1,bldRc0,N,O];exact⟨R,rfl⟩
 have n1:((l.length:Int) != 56)=false:=by rw[H];rfl
 obtain⟨b,o,a7,e,_⟩:=Y.pos om;cases e;obtain⟨W2,a0,f2,k2,s2⟩:=qQl W (rcC rc00).toArray 80;have bp:=bldPtrs W.heap.size;simp -implicitDefEqProofs only[go_sem,yJ,yN,jY,qQk,Tryz.f232,rcZero,hW,n1,a0,bp];have a8:w0.heap.size<W.heap.size:=qQh k1;generalize a9:W.heap.size=A at *;refine loopD [0,2,3,4,18,19] (rdI w0 (.slice (some ⟨b,o,none⟩) l.length cap) w0.heap.size A l) 6 ⟨0,om,rfl,rfl,k2,f2.at k1 id,f1.trans f2⟩ ?_;rintro m vs w g ⟨i,hi,rfl,rfl,kt,kr,Z⟩
 by_cases M:i<6
 ·have d1:=dTo ((i:Int)<6)
  have y1:=iBd (i:=i) (n:=6);have pp:=part_ptrs A M;have c1:IntKind.i64.wrap (4*(i:Int))=((4*i:Nat):Int):=i64mul (a:=4) om;have sl:qQw prog 22 (.slice (some ⟨b,o,none⟩) l.length cap) (some (.int .i64 ((4*i:Nat):Int))) none none=some (.slice (some ⟨b,o+4*i,none⟩) (l.length - 4*i) (cap - 4*i)):=(slc_lo slc22 arr22 sz5 (l:=4*i) (n:=l.length) om J).trans (by rw[cutV_lo om]);obtain⟨b',o',e,r⟩:=By.four (Y.fr0 Z.drew) (k:=4*i) om;cases e;have r0:rdO prog 5 w.drew b (o+4*i)=some (.int .u8 ((l.getD (4*i) 0).toNat:Int)):=r 0 om;have r1:rdO prog 5 w.drew b (o+4*i+1)=some (.int .u8 ((l.getD (4*i+1) 0).toNat:Int)):=by rw[kX];exact r 1 om
  have r2:rdO prog 5 w.drew b (o+4*i+2)=some (.int .u8 ((l.getD (4*i+2) 0).toNat:Int)):=by rw[kX];exact r 2 om
  have r3:rdO prog 5 w.drew b (o+4*i+3)=some (.int .u8 ((l.getD (4*i+3) 0).toNat:Int)):=by rw[kX];exact r 3 om
  have key:_=((nat4 l (4*i):Nat):Int):=(or4 (x:=l.getD (4*i) 0) (y:=l.getD (4*i+1) 0) (z:=l.getD (4*i+2) 0) (u:=l.getD (4*i+3) 0)).trans (congrArg _ (by
   unfold nat4;rw[le4 (by rw[lDr];omega)]
   simp only[gDq,vO,yF]))
  have e0:=ext8i (l.getD (4*i) 0);have e1:=ext8i (l.getD (4*i+1) 0);have e2:=ext8i (l.getD (4*i+2) 0);have e3:=ext8i (l.getD (4*i+3) 0);generalize ((l.getD (4*i) 0).toNat:Int)=x0 at *;generalize ((l.getD (4*i+1) 0).toNat:Int)=x1 at *;generalize ((l.getD (4*i+2) 0).toNat:Int)=x2 at *;generalize ((l.getD (4*i+3) 0).toNat:Int)=x3 at *
  obtain⟨a1,g1⟩:∃ a,shlK .i64 x1 8=a:=⟨_,rfl⟩
  rw[g1]at key
  obtain⟨b1,g2⟩:∃ a,orK .i64 x0 a1=a:=⟨_,rfl⟩
  rw[g2]at key
  obtain⟨a2,g3⟩:∃ a,shlK .i64 x2 16=a:=⟨_,rfl⟩
  rw[g3]at key
  obtain⟨b2,g4⟩:∃ a,orK .i64 b1 a2=a:=⟨_,rfl⟩
  rw[g4]at key
  obtain⟨a3,g5⟩:∃ a,shlK .i64 x3 24=a:=⟨_,rfl⟩
  rw[g5]at key;have t1:¬ ((8:Int)<0):=x9
  have t2:¬ ((16:Int)<0):=x9
  have t3:¬ ((24:Int)<0):=x9
  have i0:(0:Int)<=0/\(0:Int)<((l.length - 4*i:Nat):Int):=om
  have i1:(0:Int)<=1/\(1:Int)<((l.length - 4*i:Nat):Int):=om
  have i2:(0:Int)<=2/\(2:Int)<((l.length - 4*i:Nat):Int):=om
  have i3:(0:Int)<=3/\(3:Int)<((l.length - 4*i:Nat):Int):=om
  have c2:=iSu (i:=i)
  have B:w.drew.heap[A]?=some (.cells ((qI i).map (fun j=>vM .i64 (nat4 l (4*j):Nat))++vM .i64 0::(zK (5 - i) (.int .i64 0)++z32.map u8)).toArray 80 (0,0)):=by
   rw[<- rcI_at l M];exact kt
  have q:=wr_one (P:=prog) (t:=3) (v:=.int .i64 (nat4 l (4*i):Nat)) sz3 rfl B (o:=i) sm;rw[rcI_step l M]at q;have kn:=qQd (o:=.cells (rcI l (i+1)).toArray 80 (0,0)) B;have a4:=qQi (w:=w.drew) (b:=A) (o:=.cells (rcI l (i+1)).toArray 80 (0,0)) (show w.drew.heap[w0.heap.size]?=_ from kr) om;have fn:=Z.drew.put (b:=A) (.cells (rcI l (i+1)).toArray 80 (0,0)) fun h=>by omega
  simp -implicitDefEqProofs only[go_sem,yJ,d1,y1,and_self,if_true,iTn,yK,pp,c1,sl,i0,i1,i2,i3,Int.reduceToNat,r0,r1,r2,r3,e0,e1,e2,e3,t1,t2,t3,if_false,g1,g2,g3,g4,g5,key,nilOk,q,c2];exact⟨6 - (i+1),om,i+1,om,rfl,rfl,kn,a4,fn⟩
 ·have d1:=dFo ((i:Int)<6)
  have e:i=6:=om
  subst e;have ps:=pt_slice (P:=prog) (o:=6) arr75 sz5 om A;have a5:qQw prog 22 (.slice (some ⟨b,o,none⟩) l.length cap) (some (.int .i64 24)) none none=some (cutV 1 (some ⟨b,o,none⟩) cap 24 l.length):=slc_lo slc22 arr22 sz5 (l:=24) (n:=l.length) om J;have T:=By.slc (Y.fr0 Z.drew) (l:=24) (m:=l.length) om (xC _);rw[zG (by rw[lDr];omega)]at T
  have e6:rcI l 6=[.int .i64 (nat4 l 0:Nat),.int .i64 (nat4 l 4:Nat),.int .i64 (nat4 l 8:Nat),.int .i64 (nat4 l 12:Nat),.int .i64 (nat4 l 16:Nat),.int .i64 (nat4 l 20:Nat)]++z32.map u8++[]:=by
   rw[zO];rfl
  have B:w.drew.heap[A]?=some (.cells ([vM .i64 (nat4 l 0:Nat),.int .i64 (nat4 l 4:Nat),.int .i64 (nat4 l 8:Nat),.int .i64 (nat4 l 12:Nat),.int .i64 (nat4 l 16:Nat),.int .i64 (nat4 l 20:Nat)]++z32.map u8++[]).toArray 80 (0,0)):=by
   rw[<- e6];exact kt
  have hc:=copy_mid (P:=prog) (ts:=#[22,22]) (t:=22) rfl slc22 sz5 (b:=A) (o:=6) (d:=z32) rfl (n:=32) sm B T (by rw[lDr];omega)
  have er:[vM .i64 (nat4 l 0:Nat),.int .i64 (nat4 l 4:Nat),.int .i64 (nat4 l 8:Nat),.int .i64 (nat4 l 12:Nat),.int .i64 (nat4 l 16:Nat),.int .i64 (nat4 l 20:Nat)]++((l.drop 24).take 32).map u8++[]=rcC (rcR l):=by
   rw[zO];rfl
  rw[er]at hc;have I:(rcR l).sum.length=32:=by show ((l.drop 24).take 32).length=32;rw[lTk,lDr];omega
  have k3:=qQd (o:=.cells (rcC (rcR l)).toArray 80 (0,0)) B;have U:=qQi (w:=w.drew) (b:=A) (o:=.cells (rcC (rcR l)).toArray 80 (0,0)) (show w.drew.heap[w0.heap.size]?=_ from kr) om;have f3:=Z.drew.put (b:=A) (.cells (rcC (rcR l)).toArray 80 (0,0)) fun h=>by omega
  simp -implicitDefEqProofs only[go_sem,yJ,jY,d1,ps,a5];refine qQj ⟨_,_,hc,?_⟩;generalize put w.drew A (.cells (rcC (rcR l)).toArray 80 (0,0))=w3 at *;have ld:=qQp (P:=prog) (t:=80) agg80 sz80 k3 (by simp[qXn I]);have b4:∀ k,nat4 l k<2 ^ 32:=fun k=>le_small (b:=(l.drop k).take 4) (n:=4) (by rw[lTk];omega);simp -implicitDefEqProofs only[go_sem,yJ,ld];refine qQa pl236 ((right w3 (rcR l) I (b4 _) (b4 _)).mono ?_);rintro _ w4 ⟨rfl,V⟩
  by_cases hR:(rcR l).right
  ·obtain⟨N,O,R⟩:=L w4 (rcR l) (f3.trans V) (V.at U id) I
   have a6:=qQp (P:=prog) (t:=80) agg80 sz80 (V.at k3 id) (by simp[qXn I]);have e:decR l=some (rcR l):=if_pos ⟨H,hR⟩;rw[decide_eq_true hR,e];simp -implicitDefEqProofs only[go_sem,yJ,vK,a6,N,O];exact⟨R,rfl⟩
  ·obtain⟨N,O,R⟩:=L w4 rc00 (f3.trans V) (V.at U id) sm
   have e:decR l=none:=if_neg fun h=>hR h.2;rw[decide_eq_false hR,e];simp -implicitDefEqProofs only[go_sem,yJ,xH,bldRc0,N,O];exact⟨R,rfl⟩
end A
end
section
open Go.Proofs
namespace A
open Aud
theorem cutV_hi' (a:Option Addr)(cap m:Nat):cutV 1 a cap 0 m=.slice a m cap:=by
 unfold cutV
 cases a <;> simp[Addr.add]
theorem trimRight (w:World)(L:By w (.slice a bs.length cap) bs)(hl:bs.length<2 ^ 62) :
  Fn prog 218 #[.slice a bs.length cap,.int .u8 0] w fun v w'=>w'=w/\∃ m,m<=bs.length/\v=.slice a m cap/\zer (bs.drop m)=true:=by
 have M:bs.length<=cap:=by obtain⟨Y,c',e,h⟩:=L.slice;cases e;exact h
 refine go218 sm ?_;simp only[go_sem,jY,Tryz.f218];refine loopD [0,1] (fun m vs w'=>m<=bs.length/\zer (bs.drop m)=true/\vs=[.slice a m cap,.int .u8 0]/\w'=w) bs.length ⟨xC _,by rw[zT (xC _)];rfl,rfl,rfl⟩ ?_;rintro m vs T g ⟨U,A,rfl,rfl⟩
 cases m with
 | zero =>
  have B:decide (((0:Nat):Int) > 0)=false:=rfl;simp only[go_sem,yJ,qQx,B];exact⟨0,Nat.zero_le _,rfl,A⟩
 | succ m =>
  have B:decide (((m+1:Nat):Int) > 0)=true:=sm
  have c1:IntKind.i64.wrap (((m+1:Nat):Int) - 1)=(m:Int):=by rw[qQq om om];omega
  obtain⟨_,N,e,_,I⟩:=L.at;cases e;obtain⟨b,o,rfl,V⟩:=I m om;have O:=iBd (i:=m) (n:=m+1);have R:rdO prog 5 T b (o+m)=some (u8 bs[m]):=rd_rc agg5 V;have H:((bs[m].toNat:Int) == 0)=(bs[m] == 0):=u8_beq bs[m] 0;have W:qQw prog 22 (.slice (some ⟨b,o,none⟩) (m+1) cap) none (some (.int .i64 (m:Nat))) none=some (.slice (some ⟨b,o,none⟩) m cap):=(slc_hi slc22 arr22 sz5 (l:=m) (n:=m+1) om om).trans (by rw[cutV_hi'])
  cases J:bs[m] == 0 with
  | true =>
   rw[J]at H;simp only[go_sem,yJ,bSe,B,c1,O,and_self,if_true,iTn,yK,R,H,W];refine⟨m,om,om,?_,rfl,trivial⟩;rw[vR om];unfold zer at A ⊢;rw[vG,J,A];rfl
  | false =>
   rw[J]at H;simp only[go_sem,yJ,bSe,B,c1,O,and_self,if_true,iTn,yK,R,H];exact⟨m+1,U,rfl,A⟩
theorem trimLeft (w:World)(N:By w (.slice a bs.length cap) bs)(hl:bs.length<2 ^ 62) :
  Fn prog 217 #[.slice a bs.length cap,.int .u8 0] w fun v w'=>w'=w/\∃ H n c,v=.slice H n c/\decide (0<n)=!zer bs:=by
 have O:bs.length<=cap:=by obtain⟨H,c',e,h⟩:=N.slice;cases e;exact h
 refine go217 sm ?_;simp only[go_sem,jY,Tryz.f217]
 have key:∀ j,j<=bs.length->zer (bs.take j)=true->zer bs=zer (bs.drop j):=fun j W A=>by
  conv=>lhs;rw[<- jZ j bs]
  unfold zer at A ⊢;rw[vY,A];rfl
 refine loopD [0,1] (fun m vs w'=>∃ j H,j+m=bs.length/\zer (bs.take j)=true/\vs=[.slice H m (cap - j),.int .u8 0]/\(∀ b o,a=some ⟨b,o,none⟩->0<m->H=some ⟨b,o+j,none⟩)/\w'=w) bs.length ⟨0,a,om,rfl,rfl,fun b o h _=>h,rfl⟩ ?_;rintro m vs Y g ⟨j,H,W,A,rfl,ha,rfl⟩
 cases m with
 | zero =>
  have R:decide (((0:Nat):Int) > 0)=false:=rfl;have L:(((0:Nat):Int) == 0)=true:=rfl;have B:zer bs=true:=by rw[key j om A,zT om];rfl
  simp only[go_sem,yJ,qQx,R,L];exact⟨none,0,0,rfl,by rw[B];rfl⟩
 | succ m =>
  have R:decide (((m+1:Nat):Int) > 0)=true:=sm
  obtain⟨_,T,e,_,M⟩:=N.at;cases e;obtain⟨b,o,rfl,Z⟩:=M j om;have ha:=ha b o rfl om;subst ha;have U:(0:Int)<=0/\(0:Int)<((m+1:Nat):Int):=om
  have V:rdO prog 5 Y b (o+j)=some (u8 bs[j]):=rd_rc agg5 Z;have I:((bs[j].toNat:Int) == 0)=(bs[j] == 0):=u8_beq bs[j] 0;have hd:bs.drop j=bs[j]::bs.drop (j+1):=vR om
  cases J:bs[j] == 0 with
  | true =>
   rw[J]at I
   obtain⟨a2,sl,h2⟩:∃ a2,qQw prog 22 (.slice (some ⟨b,o+j,none⟩) (m+1) (cap - j)) (some (.int .i64 1)) none none=some (.slice a2 m (cap - (j+1)))/\(0<m->a2=some ⟨b,o+(j+1),none⟩):=by
    have:=slc_lo (P:=prog) (t:=22) slc22 arr22 sz5 (a:=some ⟨b,o+j,none⟩) (l:=1) (n:=m+1) (cap:=cap - j) om om;refine⟨_,this.trans (by unfold cutV;rw[show m+1 - 1=m by omega,show cap - j - 1=cap - (j+1) by omega]),fun h=>?_⟩;rw[if_neg om];simp[Addr.add,kX]
   simp only[go_sem,yJ,U,and_self,if_true,V,I,sl];refine⟨m,om,j+1,a2,om,?_,rfl,?_,trivial⟩
   ·rw[tSg om]
    unfold zer at A ⊢;rw[vY,A,vG,J];rfl
   ·intro b' o' he h
    cases he;exact h2 h
  | false =>
   rw[J]at I;have L:(((m+1:Nat):Int) == 0)=false:=by rw[bFn];omega
   have B:zer bs=false:=by
    rw[key j om A,hd];unfold zer;rw[vG,J];rfl
   simp only[go_sem,yJ,U,and_self,if_true,V,I,L];exact⟨_,m+1,_,rfl,by rw[B];simp⟩
theorem trim (w:World){p:Value}(B:By w p bs)(hl:bs.length<2 ^ 62) :
  Fn prog 216 #[p,.string ⟨#[0]⟩] w fun v w'=>No w w'/\∃ a n c,v=.slice a n c/\decide (0<n)=!zer bs:=by
 obtain⟨a,cap,rfl,J⟩:=B.slice;refine go216 sm ?_
 by_cases L:bs.length=0
 ·have H:((bs.length:Int) == 0)=true:=by rw[L];rfl
  simp only[go_sem,yJ,jY,Tryz.f216,H];refine⟨Fr.refl _ _,none,0,0,rfl,?_⟩;rw[List.eq_nil_of_length_eq_zero L];rfl
 have H:((bs.length:Int) == 0)=false:=by rw[bFn];omega
 have T:((⟨#[0]⟩:ByteArray).toList == (⟨#[]⟩:ByteArray).toList)=false:=by rw[ByteArray.toList_eq,ByteArray.toList_eq];rfl
 have U:(((⟨#[0]⟩:ByteArray).size:Int) == 1)=true:=rfl;have M:(⟨#[0]⟩:ByteArray)[0]?=some 0:=rfl;have V:decide (((0:UInt8).toNat:Int)<128)=true:=rfl;have N:(0:Int)<=0:=x9
 simp only[go_sem,yJ,bSe,jY,Tryz.f216,H,T,U,M,V,N,and_self,if_true];refine qQa pl218 ((trimRight w.drew (a:=a) (cap:=cap) (bs:=bs) B hl).mono ?_);rintro _ _ ⟨rfl,m,W,rfl,O⟩;have A:(bs.take m).length=m:=by rw[lTk];omega
 have I:By w.drew (.slice a (bs.take m).length cap) (bs.take m):=by
  have:=By.slc B (l:=0) (m:=m) om W;rw[cutV_hi',j9,Nat.sub_zero]at this;rw[A];exact this
 simp only[go_sem,yJ,M,N];have R:=trimLeft w.drew (a:=a) (cap:=cap) (bs:=bs.take m) I om;rw[A]at R;refine qQa pl217 (R.mono ?_);rintro _ _ ⟨rfl,Y,n,c,rfl,Z⟩;simp only[go_sem];refine⟨(Fr.refl _ _).drew,Y,n,c,rfl,?_⟩;rw[Z]
 congr 1
 conv=>rhs;rw[<- jZ m bs]
 unfold zer at O ⊢;rw[vY,O,vV]
end A
end
section
open Go.Proofs
namespace A
open Aud
theorem bldSec0:bldO prog 209 []=some (dg (zK 64 0)):=by
 unfold bldO;rw[zero209,places209,arr209];rfl
theorem empty (w0:World)(M:By w0 (.slice (some ⟨b, o, none⟩) 256 cap) raw)(B:256<=cap) :
  Fn prog 81 #[.slice (some ⟨b,o,none⟩) 256 cap] w0 fun v w'=>v=.bool (zer (raw.take 64))/\w'=w0:=by
 have N:raw.length=256:=M.len.symm;have A:(raw.take 64).length=64:=by rw[lTk];omega
 refine go81 sm ?_;have T:(((256:Nat):Int) == 256)=true:=rfl;have H:qQw prog 22 (.slice (some ⟨b,o,none⟩) 256 cap) none (some (.int .i64 64)) none=some (.slice (some ⟨b,o,none⟩) 64 cap):=(slc_hi slc22 arr22 sz5 (l:=64) (n:=256) om B).trans (by rw[cutV_hi])
 have I:rdO prog 209 w0 b o=some (dg (raw.take 64)):=rd_dg agg209 sz209 A om fun i hi=>by
  obtain⟨a,c,e,V,J⟩:=M.at;simp only[Value.slice.injEq]at e;obtain⟨rfl,_,rfl⟩:=e;obtain⟨W,Y,e,J⟩:=J i om;cases e;rw[J,yX,xO,if_pos hi,j6,xE om];rfl
 have L:(64<=64)=True:=sm
 have O:eqV prog Op.maxDepth 209 (dg (raw.take 64)) (dg (zK 64 0))=some (raw.take 64 == zK 64 0):=eqm_dg arr209 int5 sz5 agg5 A sm
 have U:zer (raw.take 64)=(raw.take 64 == zK 64 0):=by
  rw[vP,zer_iff,A,beq_iff_eq]
 have R:=bldSec0;generalize (raw.take 64 == zK 64 0)=q at *;generalize zK 64 (0:Byte)=z at O R;simp only[go_sem,yJ,bSe,Tryz.f81,T,H,L,I,R,O,eqg209,if_true,qE];exact⟨congrArg _ U.symm,trivial⟩
theorem undSup:strucO prog 67=some [(false,3,0),(false,3,1),(false,3,2),(false,3,3),(false,3,4)]:=x8
theorem stSup:prog.stoodInHeld 67=false:=x8
theorem eqSup (a b:Sup):eqV prog Op.maxDepth 67 (.agg (supC a)) (.agg (supC b))=some (decide (a=b)):=by
 rw[show Op.maxDepth=9998+1+1 from rfl,eqV_st undSup stSup];simp only[List.mapM_cons,List.mapM_nil,qKh agg3,Bool.false_eq_true,if_false,List.getElem?_toArray,vC,List.getElem?_cons_succ,qV,eqV_i int3,Option.pure_def,Option.bind_eq_bind,qK,vG,List.all_nil,id,vV]
 congr 1
 rw[vP];obtain⟨a1,a2,L,M,N⟩:=a;obtain⟨O,b2,R,T,U⟩:=b;simp only[Bool.and_eq_true,decide_eq_true_eq,Sup.mk.injEq];exact⟨fun ⟨A,B,H,I,J⟩=>⟨A,B,H,J,I⟩,fun ⟨A,B,H,J,I⟩=>⟨A,B,H,I,J⟩⟩
theorem newer (w0:World)(a b:Sup)(ha:a.ok)(hb:b.ok):Fn prog 80 #[.agg (supC a),.agg (supC b)] w0 (SuQ w0 (qJy a b)):=by
 refine go80 sm ?_;unfold DenF;refine den_cut 2 ?_;obtain⟨W,hW,N,J,L,O,s1⟩:=allocs3 w0 (supC a) 67 (supC b) 67 sup0 67;have ga:=ha.2.1;have gb:=hb.2.1;have r0:rdO prog 3 W w0.heap.size 1=some (.int .i64 (a.gen:Nat)):=rd1 agg3 J rfl;have R:rdO prog 3 W (w0.heap.size+1) 1=some (.int .i64 (b.gen:Nat)):=rd1 agg3 L rfl;have T:((2:Int)=0)=False:=sm
 have m2:∀ n:Nat,((n:Int).tmod 2)=((n % 2:Nat):Int):=fun n=>rfl;have ma:=m2 a.gen;have mb:=m2 b.gen;have U:=natne (a.gen % 2) 0;have nb:=natne (b.gen % 2) 1
 have V:∀ (w:World) (vs:Array Value), No w0 w->w.heap[w0.heap.size+1+1]?=some (.cells sup0 67 (0, 0))->vs.size=5->vs.all one=true ->
   wrO prog 67 w (w0.heap.size+1+1) 0 (.agg vs)=some (put w (w0.heap.size+1+1) (.cells vs 67 (0,0)))/\rdO prog 67 (put w (w0.heap.size+1+1) (.cells vs 67 (0,0))) (w0.heap.size+1+1) 0=some (.agg vs)/\No w0 (put w (w0.heap.size+1+1) (.cells vs 67 (0,0))):=fun w vs f k h5 ho =>
  ⟨qQr (by rw[h5];exact sz67) k (by rw[h5];rfl) ho,rd_all agg67 (by rw[h5];exact sz67) (qQd (o:=.cells vs 67 (0,0)) k),f.put (b:=w0.heap.size+1+1) _ fun h=>absurd h om⟩
 obtain⟨q1,q2,q3⟩:=V W sup0 N O rfl sup0_one;have b0:=bldSup0
 by_cases h1:a.gen % 2=0
 case neg =>
  rw[decide_eq_true h1]at U;have e:qJy a b=.error 4:=by unfold qJy;rw[if_neg fun h=>h1 h.1]
  rw[e];have U:(((a.gen % 2:Nat):Int) != 0)=true:=U;simp only[go_sem,yJ,yN,qZj,jY,Tryz.f80,hW,r0,ma,U,b0,q1,q2,qE,if_true,T];exact⟨q3,rfl⟩
 have U:(((a.gen % 2:Nat):Int) != 0)=false:=by rw[h1];rfl
 by_cases h2:b.gen % 2=1
 case neg =>
  have nb:(((b.gen % 2:Nat):Int) != 1)=true:=by rw[decide_eq_true h2]at nb;exact nb
  have e:qJy a b=.error 4:=by unfold qJy;rw[if_neg fun h=>h2 h.2.1]
  rw[e];simp only[go_sem,yJ,yN,bSe,jY,Tryz.f80,hW,r0,R,ma,mb,U,nb,b0,q1,q2,qE,if_true,T];exact⟨q3,rfl⟩
 have nb:(((b.gen % 2:Nat):Int) != 1)=false:=by rw[h2];rfl
 simp only[go_sem,yJ,yN,bSe,jY,Tryz.f80,hW,r0,R,ma,mb,U,nb,T,if_false];refine qKe ?_;refine qZk (fun M w=>M 2=pt w0.heap.size 0/\M 3=pt (w0.heap.size+1) 0/\M 4=pt (w0.heap.size+1+1) 0/\No w0 w/\w.heap[w0.heap.size+1+1]?=some (.cells sup0 67 (0,0))/\∃ x y:Sup,(if a.gen<b.gen then x=b/\y=a else x=a/\y=b)/\w.heap[w0.heap.size]?=some (.cells (supC x) 67 (0,0))/\w.heap[w0.heap.size+1]?=some (.cells (supC y) 67 (0,0))) ?_ ?_
 ·by_cases h3:a.gen<b.gen
  ·have d3:=dTo ((a.gen:Int)<(b.gen:Int))
   have l1:=qQp (P:=prog) (t:=67) agg67 sz67 J;have l2:=qQp (P:=prog) (t:=67) agg67 sz67 L;have w1:wrO prog 67 W w0.heap.size 0 (.agg (supC b))=some (put W w0.heap.size (.cells (supC b) 67 (0,0))):=qQr sz67 J rfl (qVv _);have a0:=qQi (b:=w0.heap.size) (o:=.cells (supC b) 67 (0,0)) L om;have b3:=qQi (b:=w0.heap.size) (o:=.cells (supC b) 67 (0,0)) O om;have b4:=qQd (o:=.cells (supC b) 67 (0,0)) J;have f2:=N.put (b:=w0.heap.size) (.cells (supC b) 67 (0,0)) fun h=>absurd h (yU _);have w2:wrO prog 67 (put W w0.heap.size (.cells (supC b) 67 (0,0))) (w0.heap.size+1) 0 (.agg (supC a))=some (put (put W w0.heap.size (.cells (supC b) 67 (0,0))) (w0.heap.size+1) (.cells (supC a) 67 (0,0))):=qQr sz67 a0 rfl (qVv _);simp only[go_sem,yJ,jY,r0,R,d3,l1,l2,w1,w2];exact⟨f2.put (b:=w0.heap.size+1) _ fun h=>by omega,qQi (b:=w0.heap.size+1) (o:=.cells (supC a) 67 (0,0)) b3 om,b,a,by rw[if_pos h3];exact⟨rfl,rfl⟩,qQi (b:=w0.heap.size+1) (o:=.cells (supC a) 67 (0,0)) b4 om,qQd (o:=.cells (supC a) 67 (0,0)) a0⟩
  ·have d3:=dFo ((a.gen:Int)<(b.gen:Int))
   simp only[go_sem,yJ,jY,r0,R,d3];exact⟨N,O,a,b,by rw[if_neg h3];exact⟨rfl,rfl⟩,J,L⟩
 ·clear q1 q2 q3 r0 R hW J L O s1 N
  rintro M w ⟨e2,e3,e4,N,O,x,y,H,J,L⟩
  have hx:x.ok:=by split at H <;> obtain⟨rfl,rfl⟩:=H <;> assumption
  have hy:y.ok:=by split at H <;> obtain⟨rfl,rfl⟩:=H <;> assumption
  have gx:=hx.2.1;have gy:=hy.2.1;have la:=qQp (P:=prog) (t:=67) agg67 sz67 L;obtain⟨W5,b5,f5,k5,s5⟩:=qQl w sup0 67;have q5:wrO prog 67 W5 w.heap.size 0 (.agg (supC y))=some (put W5 w.heap.size (.cells (supC y) 67 (0,0))):=qQr sz67 k5 rfl (qVv _);have k6:=qQd (o:=.cells (supC y) 67 (0,0)) k5;have b7:=qQh J;have b8:=qQh L;have b9:=qQh O;have Y:No w (put W5 w.heap.size (.cells (supC y) 67 (0,0))):=f5.put (b:=w.heap.size) _ fun h=>absurd h (yU _);simp only[go_sem,yJ,yN,e3,la,b5,q5];generalize put W5 w.heap.size (.cells (supC y) 67 (0,0))=A at *;generalize c0:w.heap.size=B at *;have R:rdO prog 3 A.drew (w0.heap.size+1) 1=some (.int .i64 (y.gen:Nat)):=rd1 (w:=A.drew) agg3 (Y.at L id) rfl
  have rr:∀ (W:World) (o:Obj),W=put A.drew B o∨W=A.drew->rdO prog 3 W w0.heap.size 2=some (.int .i64 (x.mark:Nat))/\rdO prog 3 W w0.heap.size 3=some (.int .i64 (x.head:Nat)):=fun W o h=>by
   have k:W.heap[w0.heap.size]?=some (.cells (supC x) 67 (0,0)):=by
    rcases h with rfl | rfl
    ·exact qQi (w:=A.drew) (Y.at J id) om
    ·exact Y.at J id
   exact⟨rd1 agg3 k rfl,rd1 agg3 k rfl⟩
  have c1:IntKind.i64.wrap ((y.gen:Int)+1)=((y.gen+1:Nat):Int):=by rw[qQq om om];rfl
  obtain⟨a3,a4⟩:=rr A.drew (.map #[] 0) (.inr rfl);have w8:wrO prog 3 A.drew B 1 (.int .i64 ((y.gen+1:Nat):Int))=some (put A.drew B (.cells #[.int .i64 (y.width:Nat),.int .i64 ((y.gen+1:Nat):Int),.int .i64 (y.mark:Nat),.int .i64 (y.head:Nat),.int .i64 (y.pages:Nat)] 67 (0,0))):=wr1 (w:=A.drew) sz3 rfl k6 sm;obtain⟨a5,a6⟩:=rr _ (.cells #[.int .i64 (y.width:Nat),.int .i64 ((y.gen+1:Nat):Int),.int .i64 (y.mark:Nat),.int .i64 (y.head:Nat),.int .i64 (y.pages:Nat)] 67 (0,0)) (.inl rfl);have pp:∀ o o':Obj,put (put A.drew B o) B o'=put A.drew B o':=fun o o'=>by simp[put]
  have kk:∀ c:Array Value,(put A.drew B (.cells c 67 (0,0))).heap[B]?=some (.cells c 67 (0,0)):=fun c=>qQd (w:=A.drew) (o:=.cells c 67 (0,0)) k6
  have a7:wrO prog 3 (put A.drew B (.cells #[.int .i64 (y.width:Nat),.int .i64 ((y.gen+1:Nat):Int),.int .i64 (y.mark:Nat),.int .i64 (y.head:Nat),.int .i64 (y.pages:Nat)] 67 (0,0))) B 2 (.int .i64 (x.mark:Nat))=some (put A.drew B (.cells #[.int .i64 (y.width:Nat),.int .i64 ((y.gen+1:Nat):Int),.int .i64 (x.mark:Nat),.int .i64 (y.head:Nat),.int .i64 (y.pages:Nat)] 67 (0,0))):=by
   refine (wr1 (P:=prog) (t:=3) (o:=2) (v:=.int .i64 (x.mark:Nat)) sz3 rfl (kk _) ?_).trans (congrArg some (pp _ _));show 2<5;decide
  obtain⟨b6,a8⟩:=rr _ (.cells #[.int .i64 (y.width:Nat),.int .i64 ((y.gen+1:Nat):Int),.int .i64 (x.mark:Nat),.int .i64 (y.head:Nat),.int .i64 (y.pages:Nat)] 67 (0,0)) (.inl rfl)
  have a9:wrO prog 3 (put A.drew B (.cells #[.int .i64 (y.width:Nat),.int .i64 ((y.gen+1:Nat):Int),.int .i64 (x.mark:Nat),.int .i64 (y.head:Nat),.int .i64 (y.pages:Nat)] 67 (0,0))) B 3 (.int .i64 (x.head:Nat))=some (put A.drew B (.cells (supC ⟨y.width,y.gen+1,x.mark,y.pages,x.head⟩) 67 (0,0))):=by
   refine (wr1 (P:=prog) (t:=3) (o:=3) (v:=.int .i64 (x.head:Nat)) sz3 rfl (kk _) ?_).trans (congrArg some (pp _ _));show 3<5;decide
  refine qXg (Q:=fun e M w=>e=.normal/\M 2=pt w0.heap.size 0/\M 3=pt (w0.heap.size+1) 0/\M 4=pt (w0.heap.size+1+1) 0/\M 6=pt B 0/\w=put A.drew B (.cells (supC ⟨y.width,y.gen+1,x.mark,y.pages,x.head⟩) 67 (0,0))) _ (fun e M w=>?_) ?_
  ·rintro⟨rfl,e2,e3,e4,e6,rfl⟩
   have f7:No w0 (put A.drew B (.cells (supC ⟨y.width,y.gen+1,x.mark,y.pages,x.head⟩) 67 (0,0))):=((N.trans Y).drew).put (b:=B) _ fun h=>by have:=N.size;omega
   have kt:=kk (supC ⟨y.width,y.gen+1,x.mark,y.pages,x.head⟩);have k7:=qQi (w:=A.drew) (b:=B) (o:=.cells (supC ⟨y.width,y.gen+1,x.mark,y.pages,x.head⟩) 67 (0,0)) (Y.at J id) om;have k8:=qQi (w:=A.drew) (b:=B) (o:=.cells (supC ⟨y.width,y.gen+1,x.mark,y.pages,x.head⟩) 67 (0,0)) (Y.at L id) om;have k9:=qQi (w:=A.drew) (b:=B) (o:=.cells (supC ⟨y.width,y.gen+1,x.mark,y.pages,x.head⟩) 67 (0,0)) (Y.at O id) om;clear rr a3 a4 a5 a6 b6 a8 w8 a7 a9 pp kk q5 la;generalize put A.drew B (.cells (supC ⟨y.width,y.gen+1,x.mark,y.pages,x.head⟩) 67 (0,0))=w7 at *;have l1:=qQp (P:=prog) (t:=67) agg67 sz67 kt;have l2:=qQp (P:=prog) (t:=67) agg67 sz67 k7;have r2:rdO prog 3 w7 w0.heap.size 2=some (.int .i64 (x.mark:Nat)):=rd1 agg3 k7 rfl;have r3:rdO prog 3 w7 (w0.heap.size+1) 2=some (.int .i64 (y.mark:Nat)):=rd1 agg3 k8 rfl;have es:=eqSup ⟨y.width,y.gen+1,x.mark,y.pages,x.head⟩ x;obtain⟨q1,q2,q3⟩:=V w7 sup0 f7 k9 rfl sup0_one;obtain⟨q4,q5,q6⟩:=V w7 (supC x) f7 k9 rfl (qVv _)
   have b1:qJy a b=if (⟨y.width,y.gen+1,x.mark,y.pages,x.head⟩:Sup)=x/\¬ x.mark<y.mark then .ok x else .error 4:=by
    unfold qJy
    by_cases hg:a.gen<b.gen
    ·rw[if_pos hg]at H
     obtain⟨rfl,rfl⟩:=H
     by_cases I:y.width=x.width/\y.pages=x.pages
     ·rw[if_pos ⟨h1,h2,I⟩,if_neg om]
      by_cases Z:x.gen=y.gen+1/\y.mark<=x.mark
      ·rw[if_pos Z,if_pos ⟨by cases x;simp_all,om⟩]
      ·rw[if_neg Z,if_neg]
       rintro⟨e,hm⟩;refine Z ⟨?_,om⟩;rw[<- e]
     ·rw[if_neg fun h=>I h.2.2,if_neg]
      rintro⟨e,hm⟩;exact I ⟨by rw[<- e],by rw[<- e]⟩
    ·rw[if_neg hg]at H
     obtain⟨rfl,rfl⟩:=H
     by_cases I:x.width=y.width/\x.pages=y.pages
     ·rw[if_pos ⟨h1,h2,I⟩]
      by_cases Z:x.gen=y.gen+1/\y.mark<=x.mark
      ·rw[if_pos Z,if_pos ⟨by cases x;simp_all,om⟩]
      ·rw[if_neg Z,if_neg om,if_neg]
       rintro⟨e,hm⟩;refine Z ⟨?_,om⟩;rw[<- e]
     ·rw[if_neg fun h=>I h.2.2,if_neg]
      rintro⟨e,hm⟩;exact I ⟨by rw[<- e],by rw[<- e]⟩
   rw[b1]
   by_cases I:(⟨y.width,y.gen+1,x.mark,y.pages,x.head⟩:Sup)=x
   case neg =>
    rw[decide_eq_false I]at es;rw[if_neg fun h=>I h.1];simp only[go_sem,yJ,qZj,xH,e2,e4,e6,l1,l2,es,eqg67,b0,q1,q2,if_true];exact⟨q3,rfl⟩
   rw[decide_eq_true I]at es
   by_cases hm:x.mark<y.mark
   ·have d1:=dTo ((x.mark:Int)<(y.mark:Int))
    rw[if_neg fun h=>h.2 hm];simp only[go_sem,yJ,bSe,vK,jY,e2,e3,e4,e6,l1,l2,es,eqg67,r2,r3,d1,b0,q1,q2,if_true];exact⟨q3,rfl⟩
   ·have d1:=dFo ((x.mark:Int)<(y.mark:Int))
    rw[if_pos ⟨I,hm⟩];simp only[go_sem,yJ,bSe,vK,jY,e2,e3,e4,e6,l1,l2,es,eqg67,r2,r3,d1,q4,q5,if_true];exact⟨q6,rfl⟩
  refine qXl (fun j=>false) (.one 0 (.one 3 (.one 5 (.one 1 (.one 2 (.one 7 (.tri 4 (.two 6 (.row [8,9,10,11,12]) 8 (.one 9 (.two 6 (.row [10,11,12]) 10 (.row [6,11,12])))) 6 (.two 4 (.row [8,9,10,11,12]) 8 (.row [4,9,10,11,12])) 8 (.one 4 (.one 9 (.two 6 (.row [10,11,12]) 10 (.row [6,11,12]))))))))))) rfl x8 x8 ?_;simp only[go_sem,yJ,jY,OT.row,e2,e3,e4,R,c1,a3,a4,a5,a6,a8,w8,a7,a9,implies_true,and_self,true_and]
end A
end
section
open Go.Proofs
namespace A
open Aud
def suC:Except Int Sup->Array Value
 | .error _=>sup0
 | .ok s=>supC s
def suE:Except Int Sup->Int
 | .error e=>e
 | .ok _=>0
theorem SuQ.eq {r:Except Int Sup}(h:SuQ w0 r v w'):No w0 w'/\v=.tuple #[.agg (suC r),.int .i64 (suE r)]:=by
 obtain⟨f,h⟩:=h
 cases r with
 | error e=>exact⟨f,h⟩
 | ok s=>exact⟨f,h⟩
theorem SuQ.of {r:Except Int Sup}(f:No w0 w'):SuQ w0 r (.tuple #[.agg (suC r),.int .i64 (suE r)]) w':=by
 cases r with
 | error e=>exact⟨f,rfl⟩
 | ok s=>exact⟨f,rfl⟩
theorem qVx (r:Except Int Sup):(suC r).size=5:=by cases r <;> rfl
theorem suC_one (r:Except Int Sup):(suC r).all one=true:=by
 cases r with
 | error e=>exact sup0_one
 | ok s=>exact qVv s
def suG:Except Int Sup->Nat
 | .error _=>0
 | .ok s=>s.gen
theorem suC_gen (r:Except Int Sup):(suC r)[1]?=some (.int .i64 (suG r:Nat)):=by cases r <;> rfl
theorem supP_err {e:Int}(h:supP raw=.error e):e≠0:=by
 unfold supP at h;split at h
 ·cases h;decide
 ·split at h
  ·cases h
  ·cases h;decide
theorem choose (w0:World){B:Bs}(hp:By w0 (.slice (some ⟨b, o, none⟩) 256 cap) B)(J:256<=cap){b' o' L:Nat}{M:Bs}(Z:By w0 (.slice (some ⟨b', o', none⟩) 256 L) M)(A:256<=L) :
  Fn prog 41 #[.slice (some ⟨b,o,none⟩) 256 cap,.slice (some ⟨b',o',none⟩) 256 L] w0 (SuQ w0 (qXq B M)):=by
 refine go41 sm ?_;obtain⟨W,hW,f1,k1,s1⟩:=qQl w0 sup0 67;simp only[go_sem,yJ,yN,jY,Tryz.f41,hW];refine qQa pl79 ((unpackSuper W (hp.fr0 f1) J).mono ?_);rintro _ Y ⟨f2,h2⟩;have a3:=f1.trans f2
 have a4:∀ (w:World) (vs:Array Value), No w0 w->w.heap[w0.heap.size]?=some (.cells sup0 67 (0, 0))->vs.size=5->vs.all one=true ->
   wrO prog 67 w w0.heap.size 0 (.agg vs)=some (put w w0.heap.size (.cells vs 67 (0,0)))/\rdO prog 67 (put w w0.heap.size (.cells vs 67 (0,0))) w0.heap.size 0=some (.agg vs)/\No w0 (put w w0.heap.size (.cells vs 67 (0,0))):=fun w vs f k h5 ho =>
  ⟨qQr (by rw[h5];exact sz67) k (by rw[h5];rfl) ho,rd_all agg67 (by rw[h5];exact sz67) (qQd (o:=.cells vs 67 (0,0)) k),f.put (b:=w0.heap.size) _ fun h=>absurd h (yU _)⟩
 obtain⟨b6,rfl⟩:=SuQ.eq ⟨f2,h2⟩;have k2:=f2.at k1 id;generalize H:supP B=xa at *;obtain⟨W3,b1,f3,k3,s3⟩:=qQl Y sup0 67;have N:wrO prog 67 W3 Y.heap.size 0 (.agg (suC xa))=some (put W3 Y.heap.size (.cells (suC xa) 67 (0,0))):=qQr (by rw[qVx];exact sz67) k3 (by rw[qVx];rfl) (suC_one _);have k4:=qQd (o:=.cells (suC xa) 67 (0,0)) k3;have b3:=qQi (b:=Y.heap.size) (o:=.cells (suC xa) 67 (0,0)) (f3.at k2 id) (by have:=qQh k2;omega);have f4:No w0 (put W3 Y.heap.size (.cells (suC xa) 67 (0,0))):=(a3.trans f3).put (b:=Y.heap.size) _ fun h=>by have:=a3.size;omega
 simp only[go_sem,yJ,yN,b1,N];generalize put W3 Y.heap.size (.cells (suC xa) 67 (0,0))=w4 at *;generalize b7:Y.heap.size=tx at *;refine qQa pl79 ((unpackSuper w4 (Z.fr0 f4) A).mono ?_);rintro _ R h5;obtain⟨f5,rfl⟩:=SuQ.eq h5;clear h5;have a5:=f4.trans f5;generalize T:supP M=I at *;obtain⟨W6,b4,f6,k6,s6⟩:=qQl R sup0 67;have q6:wrO prog 67 W6 R.heap.size 0 (.agg (suC I))=some (put W6 R.heap.size (.cells (suC I) 67 (0,0))):=qQr (by rw[qVx];exact sz67) k6 (by rw[qVx];rfl) (suC_one _);have k7:=qQd (o:=.cells (suC I) 67 (0,0)) k6;have a6:=f5.at k4 id;have a7:=f5.at b3 id;have k8:=qQi (b:=R.heap.size) (o:=.cells (suC I) 67 (0,0)) (f6.at a6 id) (by have:=qQh a6;omega);have k9:=qQi (b:=R.heap.size) (o:=.cells (suC I) 67 (0,0)) (f6.at a7 id) (by have:=qQh a7;omega);have f7:No w0 (put W6 R.heap.size (.cells (suC I) 67 (0,0))):=(a5.trans f6).put (b:=R.heap.size) _ fun h=>by have:=a5.size;omega
 have a8:∀ e,supP B=.error e->((e:Int) == 0)=false:=fun e h=>by rw[bFn];exact supP_err h
 have b5:∀ e,supP M=.error e->((e:Int) == 0)=false:=fun e h=>by rw[bFn];exact supP_err h
 simp only[go_sem,yJ,yN,b4,q6];generalize put W6 R.heap.size (.cells (suC I) 67 (0,0))=O at *;generalize b8:R.heap.size=ty at *;have lx:=qQp (P:=prog) (t:=67) agg67 sz67 k8 (qVx _);have ly:=qQp (P:=prog) (t:=67) agg67 sz67 k7 (qVx _);have rg:rdO prog 3 O tx 1=some (.int .i64 (suG xa:Nat)):=rd1 agg3 k8 (suC_gen _);have b0:=bldSup0;have a9:∀ x y,xa=.ok x->I=.ok y->qXq B M=qJy x y:=fun x y hx hy=>by unfold qXq;rw[H,T,hx,hy]
 have other:(∀ x y,¬ (xa=.ok x/\I=.ok y))->qXq B M=if blankP B M then .error 55 else .error 4:=fun h=>by
  unfold qXq;rw[H,T]
  cases xa <;> cases I <;> first | rfl | exact absurd ⟨rfl,rfl⟩ (h _ _)
 by_cases hB:∃ x y,xa=.ok x/\I=.ok y
 ·obtain⟨x,y,rfl,rfl⟩:=hB
  simp only[go_sem,yJ,bSe,suE,lx,ly];refine qQa pl80 ((newer O x y (supP_ok H) (supP_ok T)).mono ?_);rintro _ w8 h8;obtain⟨f8,rfl⟩:=SuQ.eq h8;obtain⟨U,V,N⟩:=a4 w8 (suC (qJy x y)) (f7.trans f8) (f8.at k9 id) (qVx _) (suC_one _);simp only[go_sem,yJ,U,V];rw[a9 x y rfl rfl];exact SuQ.of N
 rw[other fun x y h=>hB ⟨x,y,h⟩]
 have e0:∃ z:Bool,((suE xa == 0)=z)/\(z=true->(suE I == 0)=false):=by
  cases xa with
  | error e=>exact⟨false,a8 e H,fun h=>by cases h⟩
  | ok x =>
   cases I with
   | error e=>exact⟨true,rfl,fun _=>b5 e T⟩
   | ok y=>exact absurd ⟨x,y,rfl,rfl⟩ hB
 obtain⟨z,hz,a0⟩:=e0;have tail:∀ (w:World) (ev:Ev),True:=fun _ _=>trivial
 have go:blankP B M=(zer (M.take 64) && (zer (B.take 64) || (z && decide (suG xa=0)))):=by
  unfold blankP;rw[H]
  cases xa with
  | error e =>
   have:z=false:=by rw[<- hz];exact a8 e H
   rw[this];rfl
  | ok x =>
   have:z=true:=by rw[<- hz];rfl
   rw[this];rfl
 rw[go];have g0:=nateq (suG xa) 0;obtain⟨U,V,N⟩:=a4 O sup0 f7 k9 rfl sup0_one
 cases z with
 | false =>
  simp only[go_sem,qQx,hz];refine qQa pl81 ((empty O (Z.fr0 f7) A).mono ?_);rintro _ _ ⟨rfl,rfl⟩;rename_i O
  cases zer (M.take 64) with
  | false =>
   simp only[go_sem,yJ,xH,b0,U,V];exact⟨N,rfl⟩
  | true =>
   simp only[go_sem,yJ,qQx,vK,hz];refine qQa pl81 ((empty O (hp.fr0 f7) J).mono ?_);rintro _ _ ⟨rfl,rfl⟩;rename_i O
   cases zer (B.take 64) with
   | false =>
    simp only[go_sem,yJ,b0,U,V];exact⟨N,rfl⟩
   | true =>
    simp only[go_sem,yJ,b0,U,V];exact⟨N,rfl⟩
 | true =>
  have a0:=a0 rfl;simp only[go_sem,bSe,hz,a0];refine qQa pl81 ((empty O (Z.fr0 f7) A).mono ?_);rintro _ _ ⟨rfl,rfl⟩;rename_i O
  cases zer (M.take 64) with
  | false =>
   simp only[go_sem,yJ,xH,b0,U,V];exact⟨N,rfl⟩
  | true =>
   by_cases hg:suG xa=0
   ·have g0:(((suG xa:Nat):Int) == 0)=true:=by rw[hg];rfl
    rw[show (true && (zer (B.take 64) || (true && decide (suG xa=0))))=true by rw[decide_eq_true hg];simp];simp only[go_sem,yJ,bSe,vK,jY,hz,rg,g0,b0,U,V];exact⟨N,rfl⟩
   ·have g0:(((suG xa:Nat):Int) == 0)=false:=by rw[decide_eq_false hg]at g0;exact g0
    rw[show (true && (zer (B.take 64) || (true && decide (suG xa=0))))=zer (B.take 64) by rw[decide_eq_false hg];simp];simp only[go_sem,yJ,bSe,vK,jY,hz,rg,g0];refine qQa pl81 ((empty O (hp.fr0 f7) J).mono ?_);rintro _ _ ⟨rfl,rfl⟩;rename_i O
    cases zer (B.take 64) with
    | false =>
     simp only[go_sem,yJ,b0,U,V];exact⟨N,rfl⟩
    | true =>
     simp only[go_sem,yJ,b0,U,V];exact⟨N,rfl⟩
end A
end
section
open Go.Proofs
namespace A
open Aud
abbrev sgC (iv:Value)(s:Sup)(mn mr:Nat)(cv vv fv bv:Value):Array Value:=#[iv,.int .i64 (s.width:Nat),.int .i64 (s.gen:Nat),.int .i64 (s.mark:Nat),.int .i64 (s.head:Nat),.int .i64 (s.pages:Nat),.map (some mn),.map (some mr),cv,vv,fv,bv]
def inR (l:List Nat):Rows:=l.map fun n=>[vM .i64 (n:Nat)]
def fnR (l:List (Nat × Int)):Rows:=l.map fun f=>[vM .i64 (f.1:Nat),vM .i64 f.2]
abbrev encN:Nat->Value:=fun n=>vM .i64 (n:Nat)
theorem keyN:KeyT prog 3 encN (fun _=>True):=keyInt int3
def isRc:Option Pg->Bool
 | some (.rc _)=>true
 | _=>false
def chK (pg:Nat->Option Pg)(k:Nat):List Nat:=(qI k).filter fun p=>isRc (pg p)
def NdsAt (u w:World)(nl:List (Nat × Value))(k:Nat)(pg:Nat->Option Pg):Prop :=
 ∀ p,match (if p<k then pg p else none) with
  | some (.nd n)=>∃ x,findM nl p=some x/\NdM u w n x
  | _=>findM nl p=none
def RcsAt (rl:List (Nat × Value))(k:Nat)(pg:Nat->Option Pg):Prop :=
 ∀ p,match (if p<k then pg p else none) with
  | some (.rc r)=>findM rl p=some (.agg (rcC r).toArray)
  | _=>findM rl p=none
structure SgM (u w:World) (sb:Nat) (iv:Value) (im:Bs) (s:Sup) (mn mr:Nat) (cv vv fv bv:Value) (nl rl:List (Nat × Value)) (pg:Nat->Option Pg) (k:Nat) (fs:List (Nat × Int)):Prop where
 row:w.heap[sb]?=some (.cells (sgC iv s mn mr cv vv fv bv) 73 (0,0))
 img:By w iv im
 nds:Mp encN (fun _=>True) w mn nl
 rcs:Mp encN (fun _=>True) w mr rl
 hne:mn≠mr
 hsb:u.heap.size<=sb
 hmn:u.heap.size<=mn
 hmr:u.heap.size<=mr
 chn:NwR u w 3 1 cv (inR (chK pg k))
 fnd:NwR u w 43 2 fv (fnR fs)
 na:NdsAt u w nl k pg
 ra:RcsAt rl k pg
 ov:one vv=true
 ob:one bv=true
theorem NdM.fr {n:Nd}(h:NdM u w n v)(k:Fr F w w')(H:∀ b c,w.heap[b]?=some (.cells c 5 (0,0))->¬ F b):NdM u w' n v:=by
 obtain⟨vv,e,o,A,I⟩:=h;refine⟨vv,e,o,A.fr k fun b B=>?_,I⟩
 rcases A.own with ⟨rfl,_⟩ | ⟨L,M,cap,c,rfl,J,_⟩
 ·cases B
 ·cases B;exact H _ _ J
theorem NdsAt.fr {nl:List (Nat × Value)}{pg:Nat->Option Pg}(h:NdsAt u w nl k pg)(f:Fr F w w')(A:∀ b c,w.heap[b]?=some (.cells c 5 (0,0))->¬ F b):NdsAt u w' nl k pg:=fun p=>by
 have:=h p;split at this
 ·obtain⟨x,a,b⟩:=this;exact⟨x,a,b.fr f A⟩
 ·exact this
theorem qXa {rows:Rows}(h:NwR u w e k v rows)(A:qQc v=some b):∃ c,w.heap[b]?=some (.cells c e (0,0)):=by
 rcases h.2.own with ⟨rfl,_⟩ | ⟨H,I,cap,c,rfl,B,_⟩
 ·cases A
 ·cases A;exact⟨c,B⟩
theorem qVk (l:List Nat):(inR l).length=l.length:=List.length_map ..
theorem fnR_len (l:List (Nat × Int)):(fnR l).length=l.length:=List.length_map ..
section
variable {u w w':World} {sb:Nat} {iv:Value} {im:Bs} {s:Sup} {mn mr:Nat} {cv vv fv bv:Value} {nl rl:List (Nat × Value)} {pg:Nat->Option Pg} {k:Nat} {fs:List (Nat × Int)}
theorem SgM.fr0 (h:SgM u w sb iv im s mn mr cv vv fv bv nl rl pg k fs)(f:No w w'):SgM u w' sb iv im s mn mr cv vv fv bv nl rl pg k fs :=
 { h with row:=f.at h.row id,img:=h.img.fr0 f,nds:=h.nds.fr0 f,rcs:=h.rcs.fr0 f,chn:=h.chn.fr0 f,fnd:=h.fnd.fr0 f,na:=h.na.fr f fun _ _ _ h=>h }
theorem sight_page (h:SgM u w sb iv im s mn mr cv vv fv bv nl rl pg k fs)(B:iv=.slice (some ⟨b, o, none⟩) im.length cap)(A:im.length<=cap)(hl:im.length<=2 ^ 47)(H:256*p+256<=im.length) :
  Fn prog 42 #[pt sb 0,.int .i64 (p:Nat)] w fun v w'=>w'=w/\v=.slice (some ⟨b,o+256*p,none⟩) 256 (cap - 256*p):=by
 refine go42 sm ?_;subst B;have I:rdO prog 22 w sb 0=some (.slice (some ⟨b,o,none⟩) im.length cap):=rd1 agg22 h.row rfl;have a1:IntKind.i64.wrap ((p:Int)*256)=((256*p:Nat):Int):=by rw[qQq om om];omega
 have a2:=iSu (i:=p);have J:IntKind.i64.wrap (((p+1:Nat):Int)*256)=((256*p+256:Nat):Int):=by rw[qQq om om];omega
 have L:qQw prog 22 (.slice (some ⟨b,o,none⟩) im.length cap) (some (.int .i64 ((256*p:Nat):Int))) (some (.int .i64 ((256*p+256:Nat):Int))) none=some (.slice (some ⟨b,o+256*p,none⟩) 256 (cap - 256*p)) :=
  (slc_both slc22 arr22 sz5 (l:=256*p) (m:=256*p+256) (n:=im.length) om H A).trans (by rw[cutV_lo om,kQ])
 simp only[go_sem,yJ,jY,Tryz.f42,nilOk,I,a1,a2,J,L]
theorem page_by (hi:By w (.slice (some ⟨b,o,none⟩) im.length cap) im)(B:256*p+256<=im.length)(A:im.length<=cap):By w (.slice (some ⟨b,o+256*p,none⟩) 256 (cap - 256*p)) (pgB im p):=by
 have:=By.slc hi (l:=256*p) (m:=256*p+256) om B;rw[cutV_lo om,kQ]at this;exact this
theorem qKy (h:SgM u w sb iv im s mn mr cv vv fv bv nl rl pg k fs)(hi:i<2 ^ 40):Fn prog 66 #[pt sb 0,.int .i64 (i:Nat)] w fun v w'=>w'=w/\v=.int .i64 (chAt (chK pg k) i:Nat):=by
 refine go66 sm ?_;obtain⟨a,cap,A,H⟩:=h.chn.rd.slice;rw[qVk]at A H;have N:rdO prog 45 w sb 8=some (.slice a (chK pg k).length cap):=by rw[<- A];exact rd1 agg45 h.row rfl
 by_cases U:i<1
 ·have J:=dTo ((i:Int)<1)
  have e:chAt (chK pg k) i=0:=if_pos om;simp only[go_sem,yJ,qZj,jY,Tryz.f66,J,e]
  trivial
 have J:=dFo ((i:Int)<1)
 by_cases V:(chK pg k).length<i
 ·have L:=dTo ((i:Int) > ((chK pg k).length:Int))
  have e:chAt (chK pg k) i=0:=by unfold chAt;rw[if_neg om,gDq,vS om];rfl
  simp only[go_sem,yJ,bSe,jY,Tryz.f66,J,nilOk,N,L,e]
  trivial
 have L:=dFo ((i:Int) > ((chK pg k).length:Int));have B:=h.chn.rd;obtain⟨b,o,O,M,_⟩:=B.pos x9 (by rw[qVk];omega);rw[A]at M;simp only[Value.slice.injEq]at M;obtain⟨rfl,_,rfl⟩:=M;rw[A]at B;have I:i - 1<(chK pg k).length:=om
 have R:rdO prog 3 w b (o+(i - 1))=some (.int .i64 ((chK pg k).getD (i - 1) 0:Nat)):=by
  have:=B.fld (P:=prog) (t:=3) agg3 (i:=i - 1) (by rw[qVk];exact I) (j:=0) x9 (x:=.int .i64 ((chK pg k).getD (i - 1) 0:Nat)) (by
   simp only[inR,List.getElem_map,vC,qQt 0 I])
  rw[yK,yF]at this;exact this
 have c1:IntKind.i64.wrap ((i:Int) - 1)=((i - 1:Nat):Int):=qXr (b:=1) om om;have T:(0:Int)<=((i - 1:Nat):Int)/\((i - 1:Nat):Int)<((chK pg k).length:Int):=om
 have e:chAt (chK pg k) i=(chK pg k).getD (i - 1) 0:=if_neg om;simp only[go_sem,yJ,bSe,jY,Tryz.f66,J,nilOk,N,L,c1,T,and_self,if_true,iTn,yK,R,e]
theorem bldFn (p:Nat)(e:Int):bldO prog 43 [(0,.int .i64 (p:Nat)),(1,.int .i64 e)]=some (.agg #[.int .i64 (p:Nat),.int .i64 e]):=by
 unfold bldO;rw[zero43,places43];rfl
def FvB (sb:Nat)(fv:Value)(b:Nat):Prop:=b=sb∨qQc fv=some b
theorem sight_find (h:SgM u w sb iv im s mn mr cv vv fv bv nl rl pg k fs)(hu:u.heap.size<=w.heap.size)(hiv:∀ b, qQc iv=some b->b<u.heap.size)(p:Nat)(e:Int)(hl:fs.length<=2 ^ 20) :
  Fn prog 44 #[pt sb 0,.int .i64 (p:Nat),.int .i64 e] w fun v w'=>v=.tuple #[]/\Fr (FvB sb fv) w w'/\∃ R,SgM u w' sb iv im s mn mr cv vv R bv nl rl pg k (fs++[(p,e)]):=by
 refine go44 sm ?_;have Z:=qQh h.row;have r0:rdO prog 23 w sb 10=some fv:=rd1 agg23 h.row rfl;have b0:=bldFn p e;simp only[go_sem,yJ,vH,yN,jY,Tryz.f44,nilOk,r0,b0];refine qQm (v:=.slice (some ⟨w.heap.size,0,none⟩) 1 1) (w':=w.alloc (.cells #[.int .i64 (p:Nat),.int .i64 e] 43)) (qXb (K:=2) x9 x9 (y:=[.int .i64 0,.int .i64 0]) rfl rfl rfl _) ?_;obtain⟨J,w8,T,U,g8,m8⟩:=h.fnd.push (P:=prog) app23_23 (xs:=[.int .i64 (p:Nat),.int .i64 e]) rfl rfl x9 (by rw[fnR_len];omega) (by rw[fnR_len];omega) hu;simp only[go_sem,yJ];refine qQj ⟨J,w8,T,?_⟩
 have M:∀ b,qQc fv=some b->b≠sb:=fun b A V=>by
  obtain⟨c,N⟩:=qXa h.fnd A;subst V;rw[h.row]at N;cases N
 have k8:=g8.at h.row fun A=>M _ A rfl;have o8:one J=true:=by obtain⟨a,c,e,_⟩:=U.rd.slice;rw[e];rfl
 have q8:=wr1 (P:=prog) (t:=23) (o:=10) (v:=J) sz23 o8 k8 (show 10<12 by decide);simp only[go_sem,yJ,jY,nilOk,q8];have L:Fr (FvB sb fv) w (put w8 sb (.cells (sgC iv s mn mr cv vv J bv) 73 (0,0))):=(g8.mono (G:=FvB sb fv) fun b _ A=>.inr A).put (b:=sb) _ fun _=>.inl rfl;refine⟨L,J,?_⟩
 have off:∀ b c O,w.heap[b]?=some (.cells c O (0,0))->O≠73->O≠43->¬ FvB sb fv b:=fun b c O A h1 h2 B=>by
  rcases B with rfl | B
  ·rw[h.row]at A;cases A;exact h1 rfl
  ·obtain⟨c',H⟩:=qXa h.fnd B
   rw[A]at H;cases H;exact h2 rfl
 have I:∀ b es c,w.heap[b]?=some (.map es c)->¬ FvB sb fv b:=fun b es c A B=>by
  rcases B with rfl | B
  ·rw[h.row]at A;cases A
  ·obtain⟨c',H⟩:=qXa h.fnd B
   rw[A]at H;cases H
 obtain⟨a0,c1,W,_⟩:=id h.nds;obtain⟨a3,c2,Y,_⟩:=id h.rcs;refine⟨qQd (o:=.cells (sgC iv s mn mr cv vv J bv) 73 (0,0)) k8,h.img.fr L fun b A _ B=>?_,h.nds.fr L (I _ _ _ W),h.rcs.fr L (I _ _ _ Y),h.hne,h.hsb,h.hmn,h.hmr,h.chn.fr L fun b A=>?_,?_,h.na.fr L fun b c A=>off _ _ _ A x9 x9,h.ra,h.ov,h.ob⟩
 ·have:=hiv b A
  rcases B with rfl | B
  ·have:=h.hsb;omega
  ·have:=(h.fnd.lt B).1;omega
 ·obtain⟨c,N⟩:=qXa h.chn A
  exact off _ _ _ N x9 x9
 ·have e9:fnR (fs++[(p,e)])=fnR fs++[[.int .i64 (p:Nat),.int .i64 e]]:=by unfold fnR;rw[vL];rfl
  rw[e9];refine⟨U.1,Nw.fr U.2 (F:=fun b=>b=sb) ((Fr.refl _ _).put (b:=sb) _ fun _=>rfl) fun b A V=>?_⟩;subst V
  rcases m8 _ A with h' | h'
  ·exact M _ h' rfl
  ·omega
theorem bldZr:bldO prog 173 []=some (.agg #[]):=by
 unfold bldO;rw[zero173,places173];rfl
theorem bldLo:bldO prog 174 []=some (.agg #[]):=by
 unfold bldO;rw[zero174,places174];rfl
abbrev zrV:Value:=.iface 173 (.agg #[])
abbrev loV:Value:=.iface 174 (.agg #[])
theorem bldRu:bldO prog 120 [(0,zrV),(1,loV)]=some (.agg #[zrV,loV]):=by
 unfold bldO;rw[zero120,places120,arr120];simp only[qV,sz119];rfl
theorem rules (w0:World):Fn prog 43 #[] w0 fun v w'=>v=.agg #[zrV,loV]/\No w0 w':=by
 refine go43 sm ?_;obtain⟨W,B,H,A,M⟩:=qQl w0 #[.nilIface,.nilIface] 120;have I:wrO prog 120 W w0.heap.size 0 (.agg #[zrV,loV])=some (put W w0.heap.size (.cells #[zrV,loV] 120 (0,0))):=qQr sz120 A rfl (by rw[<- Array.all_toList];rfl);have J:=qQd (o:=.cells #[zrV,loV] 120 (0,0)) A;have L:=qQp (P:=prog) (t:=120) agg120 sz120 J;simp only[go_sem,yJ,yN,Tryz.f43,B,bldZr,bldLo,bldRu,I,L];exact H.put (b:=w0.heap.size) _ fun h=>absurd h (yU _)
end
end A
end
section
open Go.Proofs
namespace A
open Aud
theorem chK_succ (pg:Nat->Option Pg)(k:Nat):chK pg (k+1)=if isRc (pg k) then chK pg k++[k] else chK pg k:=by
 unfold chK;rw[vT,List.filter_append]
 cases h:isRc (pg k) <;> simp[h]
section
variable {u w w':World} {sb:Nat} {iv:Value} {im:Bs} {s:Sup} {mn mr:Nat} {cv vv fv bv:Value} {nl rl:List (Nat × Value)} {pg:Nat->Option Pg} {k:Nat} {fs:List (Nat × Int)}
theorem NdsAt.skip (h:NdsAt u w nl k pg)(B:∀ n,pg k≠some (.nd n)):NdsAt u w nl (k+1) pg:=fun p=>by
 have:=h p
 by_cases e:p=k
 ·subst e
  rw[if_neg om]at this;rw[if_pos om];split
  ·rename_i n H;exact absurd H (B n)
  ·exact this
 ·by_cases A:p<k
  ·rw[if_pos A]at this;rw[if_pos om];exact this
  ·rw[if_neg A]at this;rw[if_neg om];exact this
theorem RcsAt.skip (h:RcsAt rl k pg)(B:∀ n,pg k≠some (.rc n)):RcsAt rl (k+1) pg:=fun p=>by
 have:=h p
 by_cases e:p=k
 ·subst e
  rw[if_neg om]at this;rw[if_pos om];split
  ·rename_i n H;exact absurd H (B n)
  ·exact this
 ·by_cases A:p<k
  ·rw[if_pos A]at this;rw[if_pos om];exact this
  ·rw[if_neg A]at this;rw[if_neg om];exact this
theorem NdsAt.add {n:Nd}{x:Value}(h:NdsAt u w nl k pg)(B:pg k=some (.nd n))(H:NdM u w n x):NdsAt u w (insM nl k x) (k+1) pg:=fun p=>by
 have:=h p;rw[qVs]
 by_cases e:p=k
 ·subst e
  rw[if_pos om,B,if_pos rfl];exact⟨x,rfl,H⟩
 ·rw[if_neg (show ¬ k=p from fun I=>e I.symm)]
  by_cases A:p<k
  ·rw[if_pos A]at this;rw[if_pos om];exact this
  ·rw[if_neg A]at this;rw[if_neg om];exact this
theorem RcsAt.add {r:Rc}(h:RcsAt rl k pg)(B:pg k=some (.rc r)):RcsAt (insM rl k (.agg (rcC r).toArray)) (k+1) pg:=fun p=>by
 have:=h p;rw[qVs]
 by_cases e:p=k
 ·subst e
  rw[if_pos om,B,if_pos rfl]
 ·rw[if_neg (show ¬ k=p from fun H=>e H.symm)]
  by_cases A:p<k
  ·rw[if_pos A]at this;rw[if_pos om];exact this
  ·rw[if_neg A]at this;rw[if_neg om];exact this
theorem SgM.skip (h:SgM u w sb iv im s mn mr cv vv fv bv nl rl pg k fs)(A:pg k=none):SgM u w sb iv im s mn mr cv vv fv bv nl rl pg (k+1) fs :=
 { h with chn:=(by rw[chK_succ,A];exact h.chn),na:=h.na.skip (fun n e=>by rw[A]at e;cases e),ra:=h.ra.skip (fun n e=>by rw[A]at e;cases e) }
theorem zerosWrong (h:SgM u w sb iv im s mn mr cv vv fv bv nl rl pg k fs)(L:iv=.slice (some ⟨b, o, none⟩) im.length cap)(A:im.length<=cap)(hl:im.length<=2 ^ 47)(I:256*p+256<=im.length) :
  Fn prog 215 #[.agg #[],pt sb 0,.int .i64 (p:Nat)] w fun v w'=>v=.int .i64 (if p<2/\zer ((pgB im p).drop 64)=false then 53 else 0)/\No w w':=by
 refine go215 sm ?_;obtain⟨W,M,H,_,s1⟩:=qQl w #[] 173
 by_cases N:p<2
 case neg =>
  have J:=dFo ((p:Int)<2);rw[if_neg fun h=>N h.1];simp only[go_sem,yJ,vH,yN,qQx,jY,Tryz.f215,M,J];exact H
 have J:=dTo ((p:Int)<2);simp only[go_sem,yJ,vH,yN,bSe,jY,Tryz.f215,M,J];have O:=h.fr0 H;refine qQa pl42 ((sight_page O L A hl I).mono ?_);rintro _ _ ⟨rfl,rfl⟩;rename_i W;have hi:=O.img;rw[L]at hi;have hpb:=page_by hi I A;have R:(pgB im p).length=256:=pgB_len I;have Y:qQw prog 22 (.slice (some ⟨b,o+256*p,none⟩) 256 (cap - 256*p)) (some (.int .i64 64)) none none=some (cutV 1 (some ⟨b,o+256*p,none⟩) (cap - 256*p) 64 256):=slc_lo slc22 arr22 sz5 (l:=64) (n:=256) om om;have T:=By.slc hpb (l:=64) (m:=256) om om;rw[zG (by rw[lDr];omega)]at T;simp only[go_sem,yJ,bSe,Y];refine qQa pl216 ((trim _ T (by rw[lDr];omega)).mono ?_);rintro _ w2 ⟨U,a,n,c,rfl,Z⟩;have B:decide ((n:Int) > 0)=decide (0<n):=decide_eq_decide.2 ⟨fun h=>by omega,fun h=>by omega⟩;rw[Z]at B
 cases V:zer ((pgB im p).drop 64) with
 | true =>
  rw[V]at B;rw[if_neg sm];simp only[go_sem,yJ,bSe,vK,B];exact H.trans U
 | false =>
  rw[V]at B;rw[if_pos ⟨N,rfl⟩];simp only[go_sem,yJ,bSe,xH,B];exact H.trans U
def errP:Except Int Pg->Int
 | .error e=>e
 | .ok _=>0
def LdB (sb mn mr:Nat)(cv:Value)(b:Nat):Prop:=b=sb∨b=mn∨b=mr∨qQc cv=some b
def LoQ (u w:World)(sb:Nat)(iv:Value)(im:Bs)(s:Sup)(mn mr:Nat)(cv vv fv bv:Value)(pg:Nat->Option Pg)(k:Nat)(fs:List (Nat × Int))(e:Int)(v:Value)(w':World):Prop :=
 v=.int .i64 e/\Fr (LdB sb mn mr cv) w w'/\∃ A B H,SgM u w' sb iv im s mn mr A vv fv bv B H pg (k+1) fs
theorem unpP_err {e:Int}(h:unpP p raw=.error e):e≠0:=by
 unfold unpP at h
 repeat' split at h
 all_goals first | (cases h;decide) | cases h
end
end A
end
section
open Go.Proofs
namespace A
open Aud
theorem decN_len {A:Nat}{B:Bs}{n:Nd}(h:decN A B=some n)(vv:Value):(ndA n vv).length=102:=by
 unfold decN at h;split at h
 ·split at h
  ·rename_i H;cases h;exact qXf z32l z32l (by rw[lTk];omega) _
  ·cases h
 ·split at h
  ·rename_i H
   cases h;exact qXf (by rw[lTk,lDr];omega) (by rw[lTk,lDr];omega) z32l _
  ·cases h
section
variable {u w w':World} {sb:Nat} {iv:Value} {im:Bs} {s:Sup} {mn mr:Nat} {cv vv fv bv:Value} {nl rl:List (Nat × Value)} {pg:Nat->Option Pg} {k:Nat} {fs:List (Nat × Int)}
theorem loadsWrong (h:SgM u w sb iv im s mn mr cv vv fv bv nl rl pg k fs)(hu:No u w)(he:iv=.slice (some ⟨b, o, none⟩) im.length cap)(c8:b<u.heap.size)(a6:im.length<=cap)(hl:im.length<=2 ^ 47)(hp:256*k+256<=im.length)(h2:2<=k)(h4:k<4096)
  (hpg:pg k=(match qZb k (pgB im k) with | .ok g=>some g | .error _=>none)) :
  Fn prog 230 #[.agg #[],pt sb 0,.int .i64 (k:Nat)] w (LoQ u w sb iv im s mn mr cv vv fv bv pg k fs (errP (qZb k (pgB im k)))):=by
 refine go230 sm ?_;obtain⟨W,hW,f1,_,s1⟩:=qQl w #[] 174;have d1:=dFo ((k:Int)<2);simp -implicitDefEqProofs only[go_sem,yJ,vH,yN,jY,Tryz.f230,hW,d1];have h':=h.fr0 f1;refine qQa pl42 ((sight_page h' he a6 hl hp).mono ?_);rintro _ _ ⟨rfl,rfl⟩;have hi:=h'.img;rw[he]at hi;have hpb:=page_by hi hp a6;have O:(pgB im k).length=256:=pgB_len hp;simp -implicitDefEqProofs only[go_sem,yJ];refine qQa pl231 ((unpack _ hpb om h2 h4).mono ?_);rintro v w2 ⟨f2,Y⟩;have a0:=f1.trans f2;have g2:=h.fr0 a0;have a3:∀ {w'},No w w'->Fr (LdB sb mn mr cv) w w':=fun f=>f.mono fun _ _ h=>h.elim
 cases M:unpP k (pgB im k) with
 | error e =>
  rw[M]at Y;subst Y;have ha:qZb k (pgB im k)=.error e:=by unfold qZb;rw[M]
  have hn:(e != 0)=true:=by rw[bne_iff_ne];exact unpP_err M
  rw[ha]at hpg ⊢;simp -implicitDefEqProofs only[go_sem,yJ,hn];exact⟨rfl,a3 a0,cv,nl,rl,g2.skip hpg⟩
 | ok kl =>
  obtain⟨kd,ld⟩:=kl;rw[M]at Y;obtain⟨x,rfl,hx⟩:=Y;have c9:ld.length<=246:=((unp_iff O h4).1 M).2.1;have k3:((kd:Int) == 3)=decide (kd=3):=nateq kd 3;have c7:No u w2:=hu.trans a0
  have a9:By w2 x ld:=hx.by
  by_cases h3:kd=3
  ·rw[decide_eq_true h3]at k3
   simp -implicitDefEqProofs only[go_sem,yJ,bNe,k3];refine qQa pl232 ((rdecode w2 a9 om).mono ?_);rintro v w3 ⟨f3,Y⟩;have R:=a0.trans f3;have g3:=h.fr0 R
   have hrc:∀ r':Rc,r'.sum.length=32->∃ W,wrO prog 80 (w3.alloc (.cells (rcC rc00).toArray 80)) w3.heap.size 0 (.agg (rcC r').toArray)=some W/\No w3 W/\W.heap[w3.heap.size]?=some (.cells (rcC r').toArray 80 (0,0)):=fun r' hs=>by
    obtain⟨H,a7,T,k4,s4⟩:=qQl w3 (rcC rc00).toArray 80;rw[a7];refine⟨_,qQr (by simp[qXn hs];exact sz80) k4 (by simp[qXn hs,qXn (r:=rc00) sm]) (by simpa using rcC_one r'),T.put (b:=w3.heap.size) _ fun h=>absurd h (yU _),qQd (o:=.cells (rcC r').toArray 80 (0,0)) k4⟩
   cases Z:decR ld with
   | none =>
    rw[Z]at Y;subst Y;have ha:qZb k (pgB im k)=.error 150:=by unfold qZb;rw[M];simp only[h3,if_true,Z]
    rw[ha]at hpg ⊢;obtain⟨H,q4,T,k4⟩:=hrc rc00 sm;simp -implicitDefEqProofs only[go_sem,yJ,yN,jY,qQk,rcZero,q4];exact⟨rfl,a3 (R.trans T),cv,nl,rl,(g3.fr0 T).skip hpg⟩
   | some r =>
    rw[Z]at Y;subst Y;have ha:qZb k (pgB im k)=.ok (.rc r):=by unfold qZb;rw[M];simp only[h3,if_true,Z]
    rw[ha]at hpg ⊢;have hpg:pg k=some (.rc r):=hpg
    have hrs:r.sum.length=32:=by
     unfold decR at Z;split at Z
     ·rename_i N;cases Z;show ((ld.drop 24).take 32).length=32;rw[lTk,lDr];omega
     ·cases Z
    obtain⟨H,q4,T,k4⟩:=hrc r hrs;have B:=g3.fr0 T;have lr:=qQp (P:=prog) (t:=80) (w:=H.drew) agg80 sz80 k4 (by simp[qXn hrs]);have rm:rdO prog 69 H.drew sb 7=some (.map (some mr)):=rd1 (w:=H.drew) agg69 B.row rfl;obtain⟨ob,V,a8,a4⟩:=B.rcs.put keyN (k:=k) trivial (.agg (rcC r).toArray);have V:putE prog 3 H.heap[mr]? (.int .i64 (k:Nat)) (.agg (rcC r).toArray)=some ob:=V;obtain⟨b0,c1,L,_⟩:=id B.nds;obtain⟨c3,c2,I,_⟩:=id B.rcs;have f5:Fr (fun b=>b=mr) H (put H.drew mr ob):=((Fr.refl _ _).drew).put (b:=mr) ob (fun _=>rfl) a8;have k5:=qQi (w:=H.drew) (b:=mr) (o:=ob) (show H.drew.heap[sb]?=_ from B.row) (fun e=>by subst e;rw[B.row]at I;cases I);have r5:rdO prog 45 (put H.drew mr ob) sb 8=some cv:=rd1 agg45 k5 rfl;have J:∀ b c el,H.heap[b]?=some (.cells c el (0,0))->b≠mr:=fun b c el A e=>by subst e;rw[A]at I;cases I
    have n5:NwR u (put H.drew mr ob) 3 1 cv (inR (chK pg k)):=B.chn.fr f5 fun b A=>by obtain⟨c,N⟩:=qXa B.chn A;exact J _ _ _ N
    have d0:u.heap.size<=H.heap.size:=by have:=hu.size;have:=R.size;have:=T.size;omega
    have O:(chK pg k).length<=k:=by unfold chK;exact Nat.le_trans (List.length_filter_le _ _) sm
    obtain⟨v8,w8,b1,b8,g8,m8⟩:=n5.push (P:=prog) app45_45 (xs:=[.int .i64 (k:Nat)]) rfl rfl x9 (by rw[qVk];omega) (by rw[qVk];omega) (by have:=f5.size;omega);simp -implicitDefEqProofs only[go_sem,yJ,yN,bSe,jY,qQk,rcZero,q4,nilOk,rm,lr,V,r5];have c4:(put H.drew mr ob).heap.size=H.heap.size:=by simp[put]
    rw[c4]at b1;refine qQm (v:=.slice (some ⟨H.heap.size,0,none⟩) 1 1) (w':=(put H.drew mr ob).alloc (.cells #[.int .i64 (k:Nat)] 3)) (qXb (K:=1) x9 x9 (y:=[.int .i64 0]) rfl rfl rfl _) ?_;simp -implicitDefEqProofs only[go_sem,yJ];refine qQj ⟨v8,w8,b1,?_⟩
    have b3:∀ b,qQc cv=some b->b≠sb:=fun b A he=>by
     obtain⟨c,N⟩:=qXa B.chn A;subst he;rw[B.row]at N;cases N
    have k8:=g8.at k5 fun A=>b3 _ A rfl;have o8:one v8=true:=by obtain⟨a,c,e,_⟩:=b8.rd.slice;rw[e];rfl
    have q8:=wr1 (P:=prog) (t:=45) (o:=8) (v:=v8) sz45 o8 k8 (show 8<12 by decide);simp -implicitDefEqProofs only[go_sem,yJ,jY,nilOk,q8]
    have a5:Fr (LdB sb mn mr cv) H (put w8 sb (.cells (sgC iv s mn mr v8 vv fv bv) 73 (0,0))) :=
     (((f5.mono (G:=LdB sb mn mr cv) fun b _ A=>.inr (.inr (.inl A))).trans (g8.mono (G:=LdB sb mn mr cv) fun b _ A=>.inr (.inr (.inr A))))).put (b:=sb) _ fun _=>.inl rfl
    have off:∀ b c el,H.heap[b]?=some (.cells c el (0,0))->el≠73->el≠3->¬ LdB sb mn mr cv b:=fun b c el A h1 h2 hf=>by
     rcases hf with rfl | rfl | rfl | hf
     ·rw[B.row]at A;cases A;exact h1 rfl
     ·rw[A]at L;cases L
     ·rw[A]at I;cases I
     ·obtain⟨c',b4⟩:=qXa B.chn hf
      rw[A]at b4;cases b4;exact h2 rfl
    have b5:mr≠sb:=fun e=>by subst e;rw[B.row]at I;cases I
    have b6:mn≠sb:=fun e=>by subst e;rw[B.row]at L;cases L
    have b7:∀ b,qQc cv=some b->b≠mn/\b≠mr:=fun b A=>by
     obtain⟨c,N⟩:=qXa B.chn A;exact⟨(fun e=>by subst e;rw[L]at N;cases N),(fun e=>by subst e;rw[I]at N;cases N)⟩
    refine⟨rfl,(a3 (R.trans T)).trans a5,v8,nl,_,qQd (o:=.cells (sgC iv s mn mr v8 vv fv bv) 73 (0,0)) k8,B.img.fr a5 fun b' A _ hf=>?_,?_,a4 _ ?_,h.hne,h.hsb,h.hmn,h.hmr,?_,B.fnd.fr a5 fun b' A=>?_,(B.na.fr a5 fun b' c A=>off _ _ _ A x9 x9).skip (fun n e=>by rw[hpg]at e;cases e),B.ra.add hpg,h.ov,h.ob⟩
    ·rw[he]at A
     simp only[qQc,oSi]at A;subst A
     rcases hf with rfl | rfl | rfl | hf
     ·have:=h.hsb;omega
     ·have:=h.hmn;omega
     ·have:=h.hmr;omega
     ·have:=(h.chn.lt hf).1;omega
    ·exact⟨b0,c1,qQi (g8.at (qQi (w:=H.drew) L (fun e=>h.hne e.symm)) fun A=>(b7 _ A).1 rfl) (fun e=>b6 e.symm),as_⟩
    ·exact qQi (g8.at (qQd (w:=H.drew) I) fun A=>(b7 _ A).2 rfl) (fun e=>b5 e.symm)
    ·have e9:inR (chK pg (k+1))=inR (chK pg k)++[[.int .i64 (k:Nat)]]:=by
      rw[chK_succ,hpg];unfold inR;rw[if_pos (show isRc (some (.rc r))=true from rfl),vL];rfl
     rw[e9];refine⟨b8.1,Nw.fr b8.2 (F:=fun b=>b=sb) ((Fr.refl _ _).put (b:=sb) _ fun _=>rfl) fun b A he=>?_⟩;subst he
     rcases m8 _ A with h' | h'
     ·exact b3 _ h' rfl
     ·have:=qQh k5;omega
    ·obtain⟨c,N⟩:=qXa B.fnd A
     exact off _ _ _ N x9 x9
  rw[decide_eq_false h3]at k3;simp -implicitDefEqProofs only[go_sem,yJ,bNe,k3];refine qQa pl233 ((decode w2 kd a9 om).mono ?_);rintro v w3 ⟨f3,Y⟩;have R:=a0.trans f3;have g3:=h.fr0 R
  have hnd:∀ c:List Value,c.length=102->c.all one=true->∃ W,wrO prog 78 (w3.alloc (.cells nd0.toArray 78)) w3.heap.size 0 (.agg c.toArray)=some W/\No w3 W/\W.heap[w3.heap.size]?=some (.cells c.toArray 78 (0,0)):=fun c N ho=>by
   obtain⟨H,a7,T,k4,s4⟩:=qQl w3 nd0.toArray 78;rw[a7];refine⟨_,qQr (by simp[N];exact sz78) k4 (by simp[N,qXf z32l z32l z32l]) (by simpa using ho),T.put (b:=w3.heap.size) _ fun h=>absurd h (yU _),qQd (o:=.cells c.toArray 78 (0,0)) k4⟩
  cases Z:decN kd ld with
  | none =>
   rw[Z]at Y;subst Y;have ha:qZb k (pgB im k)=.error 90:=by unfold qZb;rw[M];simp only[h3,if_false,Z]
   rw[ha]at hpg ⊢;obtain⟨H,q4,T,k4⟩:=hnd nd0 (qXf z32l z32l z32l _) (qZy _ _ _ _ _ _ _ _ rfl);simp -implicitDefEqProofs only[go_sem,yJ,yN,jY,qQk,ndZero,q4];exact⟨rfl,a3 (R.trans T),cv,nl,rl,(g3.fr0 T).skip hpg⟩
  | some n =>
   rw[Z]at Y;obtain⟨x,rfl,U,rfl,b9,c5,c6⟩:=Y;have ha:qZb k (pgB im k)=.ok (.nd n):=by unfold qZb;rw[M];simp only[h3,if_false,Z]
   rw[ha]at hpg ⊢;have hpg:pg k=some (.nd n):=hpg;have O:(ndA n U).length=102:=decN_len Z U
   have c0:(ndA n U).all one=true:=by cases n <;> exact qZy _ _ _ _ _ _ _ _ b9
   obtain⟨H,q4,T,k4⟩:=hnd (ndA n U) O c0;have B:=g3.fr0 T;have lr:=qQp (P:=prog) (t:=78) (w:=H.drew) agg78 sz78 k4 (by simp[O]);have rm:rdO prog 68 H.drew sb 6=some (.map (some mn)):=rd1 (w:=H.drew) agg68 B.row rfl;obtain⟨ob,V,a8,a4⟩:=B.nds.put keyN (k:=k) trivial (.agg (ndA n U).toArray);have V:putE prog 3 H.heap[mn]? (.int .i64 (k:Nat)) (.agg (ndA n U).toArray)=some ob:=V;obtain⟨b0,c1,L,_⟩:=id B.nds;obtain⟨c3,c2,I,_⟩:=id B.rcs;have f5:Fr (fun b=>b=mn) H (put H.drew mn ob):=((Fr.refl _ _).drew).put (b:=mn) ob (fun _=>rfl) a8;have J:∀ b c el,H.heap[b]?=some (.cells c el (0,0))->b≠mn:=fun b c el A e=>by subst e;rw[A]at L;cases L
   have nd:NdM u H n (.agg (ndA n U).toArray):=⟨U,rfl,b9,(c5.back (by have:=hu.size;have:=a0.size;omega)).fr0 T,c6⟩
   simp -implicitDefEqProofs only[go_sem,yJ,yN,bSe,jY,qQk,ndZero,q4,nilOk,rm,lr,V];refine⟨rfl,(a3 (R.trans T)).trans (f5.mono fun b _ A=>.inr (.inl A)),cv,_,rl,f5.at B.row (J _ _ _ B.row),B.img.fr f5 fun b' A _ hf=>?_,a4 _ (qQd (w:=H.drew) L),B.rcs.fr f5 fun e=>h.hne e.symm,h.hne,h.hsb,h.hmn,h.hmr,?_,B.fnd.fr f5 fun b' A=>?_,(B.na.fr f5 fun b' c A=>J _ _ _ A).add hpg (nd.fr f5 fun b' c A=>J _ _ _ A),B.ra.skip (fun n e=>by rw[hpg]at e;cases e),h.ov,h.ob⟩
   ·rw[he]at A
    simp only[qQc,oSi]at A;have:=h.hmn;omega
   ·have e9:chK pg (k+1)=chK pg k:=by rw[chK_succ,hpg];rfl
    rw[e9];exact B.chn.fr f5 fun b A=>by obtain⟨c,N⟩:=qXa B.chn A;exact J _ _ _ N
   ·obtain⟨c,N⟩:=qXa B.fnd A
    exact J _ _ _ N
end
end A
end
section
open Go.Proofs Sha
namespace A
open Aud
def zds:List Bs:=zK 257 z32
theorem zds_all:All32 zds:=fun d h=>by rw[List.eq_of_mem_replicate h];simp
theorem flat_zds:flat zds=zK (257*32) (.int .u8 0):=by
 unfold flat zds;rw[List.map_replicate]
 have:∀ n,(zK n (z32.map u8)).flatten=zK (n*32) (vM .u8 0):=fun n=>by
  induction n with
  | zero=>rfl
  | succ n A =>
   rw[vI,List.flatten_cons,A,Nat.add_mul,Nat.add_comm (n*32),<- List.replicate_append_replicate]
   congr 1
 exact this 257
theorem mk257 (u w:World)(A:u.heap.size<=w.heap.size):∃ w',(Instr.makeSlice 71 (.int .i64 257) (.int .i64 257)).run prog w=.ok (.slice (some ⟨w.heap.size,0,none⟩) 257 257) w'/\NwD u w' 75 (.slice (some ⟨w.heap.size,0,none⟩) 257 257) zds/\No w w'/\w'.heap.size=w.heap.size+1:=by
 have:=run_mk (P:=prog) (t:=71) (by':=32) slc71 sz75 by75 zero75 (l:=257) (c:=257) (xC _) x9 x9 .i64 .i64 w;refine⟨_,this,⟨zds_all,?_⟩,(Fr.refl _ _).alloc _,qQf _ _⟩;have h:=mk_nw u w 75 32 257 257 (madeCells (Value.agg (jA 32 (.int .u8 0))).cells (257*32)) A (by simp[madeCells]) (xC _);rw[flat_zds]
 have e:(madeCells (Value.agg (jA 32 (.int .u8 0))).cells (257*32)).toList.take (257*32)=zK (257*32) (.int .u8 0):=by
  show (madeCells (jA 32 (.int .u8 0)) (257*32)).toList.take (257*32)=_;rw[madeCells_rep _ 32 _ x9,Array.toList_replicate,zG (by rw[lRe];exact xC _)]
 rw[e]at h;exact h
theorem allocD (w:World){ty:TypeId}(A:szO prog ty=some 32)(B:d.length=32):∃ W, wrO prog ty (w.alloc (.cells (bl (zK 32 0)) ty)) w.heap.size 0 (dg d)=some W /\
  W.heap[w.heap.size]?=some (.cells (bl d) ty (0,0))/\No w W/\W.heap.size=w.heap.size+1:=by
 have k:=qQb w (.cells (bl (zK 32 0)) ty);refine⟨_,wr_d A k zl32 B,qQd k,((Fr.refl _ _).alloc _).put (b:=w.heap.size) _ fun h=>absurd h (yU _),?_⟩;simp[put]
def bdL (wd:Int)(i:Nat):List Bs:=(empts wd 257).take i++zds.drop i
theorem bdL_zero (wd:Int):bdL wd 0=zds:=rfl
theorem bdL_full (wd:Int):bdL wd 257=empts wd 257:=by
 unfold bdL;rw[zG (by rw[qQz];exact xC _),zT (by simp[zds]),zO]
theorem bdL_len (wd:Int)(h:i<=257):(bdL wd i).length=257:=by
 unfold bdL;rw[lAp,lTk,lDr,qQz];simp[zds];omega
theorem bdL_set (wd:Int)(h:i<257):(bdL wd i).set i (emptD wd i)=bdL wd (i+1):=by
 unfold bdL;have A:((empts wd 257).take i).length=i:=by rw[lTk,qQz];omega
 have B:i<zds.length:=by simp[zds];exact h
 rw[List.set_append_right _ _ om,A,Nat.sub_self,vR B,List.set_cons_zero,tSg (by rw[qQz];exact h)];simp[empts]
def Blank (u w:World)(wd:Int)(bv:Value):Prop:=bv=.slice none 0 0∨NwD u w 75 bv (empts wd 257)
theorem Blank.fr (h:Blank u w wd bv)(f:Fr F w w')(B:∀ b c,w.heap[b]?=some (.cells c 75 (0,0))->u.heap.size<=b->qQc bv=some b->¬ F b):Blank u w' wd bv:=by
 rcases h with h | h
 ·exact .inl h
 ·refine .inr (h.fr f fun b A=>?_)
  rcases h.2.own with ⟨rfl,_⟩ | ⟨H,J,cap,c,rfl,I,_⟩
  ·cases A
  ·have:=(h.lt A).1
   have e:H=b:=by simpa [qQc] using A
   subst e;exact B _ _ I this rfl
theorem Blank.one {u w:World}{wd:Int}{bv:Value}(h:Blank u w wd bv):one bv=true:=by
 rcases h with rfl | h
 ·rfl
 ·obtain⟨a,c,e,_⟩:=h.rd.slice;rw[e];rfl
def baI (u w0:World)(sb A B H:Nat)(wd:Int)(R:Value->Array Value)(I:Value)(n:Nat)(vs:List Value)(w:World):Prop :=
 ∃ (i:Nat),vs=[pt sb 0,I,pt A 0,pt B 0,.int .i64 257,.int .i64 (i:Nat)]/\i<=257/\n=257 - i/\w.heap[sb]?=some (.cells (R (.slice (some ⟨H,0,none⟩) 257 257)) 73 (0,0))/\w.heap[B]?=some (.cells (bl (emptD wd i)) 75 (0,0))/\w.heap[A]?=some (.cells (bl (zK 32 0)) 75 (0,0)) /\
  NwD u w 75 (.slice (some ⟨H,0,none⟩) 257 257) (bdL wd i)/\Fr (fun b=>b=sb) w0 w
theorem bare (u w0:World)(ht:Tabs w0)(hu:u.heap.size<=w0.heap.size){sb:Nat}(hsb:5<=sb){iv:Value}{s:Sup}{mn mr:Nat}{cv vv fv bv:Value}(hrow:w0.heap[sb]?=some (.cells (sgC iv s mn mr cv vv fv bv) 73 (0, 0)))(hB:Blank u w0 s.width bv)(hh:h<257) :
  Fn prog 125 #[pt sb 0,.int .i64 (h:Nat)] w0 fun v w'=>v=dg (emptD s.width h)/\Fr (fun b=>b=sb) w0 w'/\∃ A,w'.heap[sb]?=some (.cells (sgC iv s mn mr cv vv fv A) 73 (0,0))/\NwD u w' 75 A (empts s.width 257)/\(A=bv∨∀ b,qQc A=some b->w0.heap.size<=b):=by
 generalize U:(s.width:Int)=wd at *;refine go125 sm ?_;obtain⟨W,hW,V,k1,s1⟩:=qQl w0 (bl (zK 32 0)) 75;have kS:=V.at hrow id;have Y:w0.heap.size≠sb:=by have:=qQh hrow;omega
 have r1:rdO prog 71 W sb 11=some bv:=rd1 agg71 kS rfl;have Z:=qQv wd h;have y1:=iBd (i:=h) (n:=257)
 have a0:∀ (w:World) (A:Value), w.heap[w0.heap.size]?=some (.cells (bl (zK 32 0)) 75 (0, 0))->Fr (fun b=>b=sb) w0 w->w.heap[sb]?=some (.cells (sgC iv s mn mr cv vv fv A) 73 (0, 0))->NwD u w 75 A (empts wd 257)->(∀ b, qQc A=some b->b≠w0.heap.size)->(A=bv∨∀ b, qQc A=some b->w0.heap.size<=b) ->
   ∃ b o cap v,A=.slice (some ⟨b,o,none⟩) 257 cap/\rdO prog 75 w b (o+h*32)=some (dg (emptD wd h))/\wrO prog 75 w w0.heap.size 0 (dg (emptD wd h))=some v/\rdO prog 75 v w0.heap.size 0=some (dg (emptD wd h)) /\
    Fr (fun b=>b=sb) w0 v/\∃ A,v.heap[sb]?=some (.cells (sgC iv s mn mr cv vv fv A) 73 (0,0))/\NwD u v 75 A (empts wd 257)/\(A=bv∨∀ b,qQc A=some b->w0.heap.size<=b):=fun w A k f kR hN hne b4=>by
  have hR:=hN.rd;obtain⟨b,o,cap,R,_,c6⟩:=hR.pos (by rw[qQz];omega);rw[qQz]at R;subst R;have g:=hR.get (P:=prog) agg75 sz75 (i:=h) (by rw[qQz];exact hh);have eg:(empts wd 257).getD h []=emptD wd h:=by rw[gDq,qVe wd 257 hh];rfl
  rw[eg]at g;have fp:Fr (fun b=>b=w0.heap.size) w (put w w0.heap.size (.cells (bl (emptD wd h)) 75 (0,0))):=(Fr.refl _ _).put (b:=w0.heap.size) _ fun _=>rfl
  exact⟨b,o,cap,_,rfl,g,wr_d sz75 k zl32 Z,rd_d agg75 sz75 (qQd (o:=.cells (bl (emptD wd h)) 75 (0,0)) k) Z,
   f.put (b:=w0.heap.size) _ (fun h=>absurd h (yU _)),_,fp.at kR (fun h=>Y h.symm),hN.fr fp (fun c hc h=>hne c hc h),b4⟩
 rcases hB with rfl | hN
 ·obtain⟨N,b5,n2,f2,s2⟩:=mk257 u W (by have:=V.size;omega)
  simp -implicitDefEqProofs only[go_sem,yJ,yN,jY,qQk,Tryz.f125,hW,nilOk,r1];refine qQj ⟨_,_,b5,?_⟩;have a3:=f2.at kS id;have q3:=wr1 (P:=prog) (t:=71) (o:=11) (v:=.slice (some ⟨W.heap.size,0,none⟩) 257 257) sz71 rfl a3 (show 11<12 by decide);have a4:=qQd (o:=.cells (sgC iv s mn mr cv vv fv (.slice (some ⟨W.heap.size,0,none⟩) 257 257)) 73 (0,0)) a3;have f3:Fr (fun b=>b=sb) N (put N sb (.cells (sgC iv s mn mr cv vv fv (.slice (some ⟨W.heap.size,0,none⟩) 257 257)) 73 (0,0))):=(Fr.refl _ _).put (b:=sb) _ fun _=>rfl;have c7:=qQh hrow;have n3:=n2.fr f3 fun b B h=>by simp only[qQc,oSi]at B;omega
  have q3:wrO prog 71 N sb 11 (.slice (some ⟨W.heap.size,0,none⟩) 257 257)=some (put N sb (.cells (sgC iv s mn mr cv vv fv (.slice (some ⟨W.heap.size,0,none⟩) 257 257)) 73 (0,0))):=q3;have a5:Fr (fun b=>b=sb) w0 (put N sb (.cells (sgC iv s mn mr cv vv fv (.slice (some ⟨W.heap.size,0,none⟩) 257 257)) 73 (0,0))):=((V.trans f2).mono fun _ _ h=>h.elim).trans f3;have k3:=f3.at (f2.at k1 id) Y;have r3:rdO prog 3 (put N sb (.cells (sgC iv s mn mr cv vv fv (.slice (some ⟨W.heap.size,0,none⟩) 257 257)) 73 (0,0))) sb 1=some (.int .i64 wd):=by rw[<- U];exact rd1 agg3 a4 rfl
  simp -implicitDefEqProofs only[go_sem,yJ,jY,yF,nilOk,q3,r3];generalize put N sb (.cells (sgC iv s mn mr cv vv fv (.slice (some ⟨W.heap.size,0,none⟩) 257 257)) 73 (0,0))=w3 at *;refine qQa pl159 ((empty0 w3 (ht.fr a5 fun b B h=>by omega) wd).mono ?_);rintro _ H ⟨rfl,f4⟩;obtain⟨w5,q5,k5,f5,s5⟩:=allocD H sz75 (qQv wd 0);have J:=f4.trans f5;have a6:=J.at a4 id;have r5:rdO prog 71 w5 sb 11=some (.slice (some ⟨W.heap.size,0,none⟩) 257 257):=rd1 agg71 a6 rfl;have n5:=n3.fr0 J;have b6:=J.at k3 id;have c8:=f4.size;have z2:W.heap.size<H.heap.size:=by have:=f3.size;omega
  have zr:w0.heap.size<H.heap.size:=om
  simp -implicitDefEqProofs only[go_sem,yJ,yN,jY,qQk,q5,nilOk,r5];rw[<- bdL_zero wd]at n5;refine loopD [0,1,4,5,26,27] (baI u w0 sb w0.heap.size H.heap.size W.heap.size wd (fun bv=>sgC iv s mn mr cv vv fv bv) (.int .i64 (h:Nat))) 257 ⟨0,rfl,om,rfl,a6,k5,b6,n5,a5.trans (J.mono fun _ _ h=>h.elim)⟩ ?_;rintro _ vs L g ⟨i,rfl,hi,rfl,M,k6,a7,n6,f6⟩
  by_cases a8:i<257
  ·have d1:=dTo ((i:Int)<257)
   have y2:=iBd (i:=i) (n:=257);have c1:=iSu (i:=i);have b7:rdO prog 71 L.drew sb 11=some (.slice (some ⟨W.heap.size,0,none⟩) 257 257):=rd1 (w:=L.drew) agg71 M rfl;have re:=rd_d agg75 sz75 k6 (qQv wd i);have b8:rdO prog 75 L.drew H.heap.size 0=some (dg (emptD wd i)):=re;have b9:=n6.fr0 (Fr.refl (fun _=>False) L).drew;obtain⟨T,q7,n7,f7⟩:=b9.set (P:=prog) sz75 (i:=i) (by rw[bdL_len wd om];exact a8) (qQv wd i);rw[bdL_set wd a8,jY]at *;have c0:sb≠W.heap.size:=om
   have a9:=f7.at (show L.drew.heap[sb]?=_ from M) c0;have b0:Fr (fun b=>b=sb) w0 T:=f6.drew.trans' f7 fun b B h=>by omega
   have k7:=f7.at (show L.drew.heap[H.heap.size]?=_ from k6) om;have c3:=f7.at (show L.drew.heap[w0.heap.size]?=_ from a7) om;have c4:rdO prog 3 T.drew sb 1=some (.int .i64 wd):=by rw[<- U];exact rd1 (w:=T.drew) agg3 a9 rfl
   have c5:=rd_d agg75 sz75 k7 (qQv wd i);have b1:rdO prog 75 T.drew H.heap.size 0=some (dg (emptD wd i)):=c5;simp -implicitDefEqProofs only[go_sem,yJ,jY,yF,d1,nilOk,b7,b8,y2,and_self,iTn,q7,c4,b1];refine qQa pl160 ((branch T.drew ((ht.fr b0 fun b B h=>by omega).no (Fr.refl _ _).drew) wd (qQv wd i) (qQv wd i)).mono ?_);rintro _ w8 ⟨rfl,f8⟩;have I:No T w8:=(Fr.refl _ _).drew.trans f8;have b3:qXd wd (emptD wd i) (emptD wd i)=emptD wd (i+1):=rfl;have k8:=I.at k7 id;have q8:=wr_d sz75 k8 (qQv wd i) (qQv wd (i+1));rw[<- b3]at q8;simp -implicitDefEqProofs only[go_sem,yJ,q8,c1];rw[b3];have O:Fr (fun b=>b=H.heap.size) w8 (put w8 H.heap.size (.cells (bl (emptD wd (i+1))) 75 (0,0))):=(Fr.refl _ _).put (b:=H.heap.size) _ fun _=>rfl;refine⟨257 - (i+1),om,i+1,rfl,om,rfl,O.at (I.at a9 id) om,qQd k8,O.at (I.at c3 id) om,(n7.fr0 I).fr O fun b B h=>by simp only[qQc,oSi]at B;omega,(b0.trans (I.mono fun _ _ h=>h.elim)).put (b:=H.heap.size) _ fun h=>by omega⟩
  ·have d1:=dFo ((i:Int)<257)
   obtain rfl:i=257:=om
   rw[bdL_full]at n6;have r6:rdO prog 71 L sb 11=some (.slice (some ⟨W.heap.size,0,none⟩) 257 257):=rd1 agg71 M rfl;obtain⟨b,o,cap,v,R,g1,g2,g3,g4,g5⟩:=a0 L _ a7 f6 M n6 (fun b B h=>by simp only[qQc,oSi]at B;omega) (.inr fun b B=>by simp only[qQc,oSi]at B;omega);cases R;rw[jY]at g1;simp -implicitDefEqProofs only[go_sem,yJ,jY,d1,nilOk,r6,y1,and_self,iTn,g1,g2,g3];exact⟨g4,g5⟩
 ·obtain⟨b, o, cap, v, R, g1, g2, g3, g4, g5⟩:=a0 W bv k1 (V.mono fun _ _ h=>h.elim) kS (hN.fr0 V) (fun b B h=>by
   have:=(hN.lt B).2;omega) (.inl rfl)
  subst R;simp -implicitDefEqProofs only[go_sem,yJ,yN,jY,qQk,Tryz.f125,hW,nilOk,r1,y1,and_self,iTn,g1,g2,g3];exact⟨g4,g5⟩
end A
end
section
open Go.Proofs Sha
namespace A
open Aud
def SRow (u w:World)(sb:Nat)(iv:Value)(s:Sup)(mn mr:Nat)(cv vv fv:Value)(E:Nat->Prop):Prop:=∃ bv,w.heap[sb]?=some (.cells (sgC iv s mn mr cv vv fv bv) 73 (0,0))/\Blank u w s.width bv/\∀ b,qQc bv=some b->¬ E b
section
variable {u w0 w w':World} {sb:Nat} {iv:Value} {s:Sup} {mn mr:Nat} {cv vv fv:Value} {E:Nat->Prop}
theorem Blank.lt (h:Blank u w wd bv)(A:qQc bv=some b):u.heap.size<=b/\b<w.heap.size:=by
 rcases h with rfl | h
 ·cases A
 ·exact h.lt A
theorem SRow.fr0 (h:SRow u w sb iv s mn mr cv vv fv E)(f:No w w'):SRow u w' sb iv s mn mr cv vv fv E:=by
 obtain⟨bv,A,B,H⟩:=h;exact⟨bv,f.at A id,B.fr f (fun _ _ _ _ _ h=>h),H⟩
theorem SRow.mono {E':Nat->Prop}(h:SRow u w sb iv s mn mr cv vv fv E)(H:∀ b,b<w.heap.size->E' b->E b):SRow u w sb iv s mn mr cv vv fv E':=by
 obtain⟨bv,I,A,J⟩:=h;exact⟨bv,I,A,fun b B L=>J b B (H b (A.lt B).2 L)⟩
theorem SRow.grow (h:SRow u w sb iv s mn mr cv vv fv E)(f:No w w'):SRow u w' sb iv s mn mr cv vv fv (fun b=>E b∨w.heap.size<=b):=by
 obtain⟨bv,H,A,I⟩:=h;exact⟨bv,f.at H id,A.fr f (fun _ _ _ _ _ h=>h),fun b B J=>J.elim (I b B) fun h=>by have:=(A.lt B).2;omega⟩
theorem SRow.put (h:SRow u w sb iv s mn mr cv vv fv E){A:Nat}(o:Obj)(H:A≠sb)(I:E A)(J:fzO o=false:=by rfl):SRow u (V.put w A o) sb iv s mn mr cv vv fv E:=by
 obtain⟨bv,L,M,B⟩:=h;have f:Fr (fun b=>b=A) w (V.put w A o):=(Fr.refl _ _).put (b:=A) o (fun _=>rfl) J;exact⟨bv,f.at L fun e=>H e.symm,M.fr f (fun b c _ _ N e=>by subst e;exact B _ N I),B⟩
theorem bareS (J:Tabs w0)(L:u.heap.size<=w0.heap.size)(hsb:5<=sb)(M:SRow u w0 sb iv s mn mr cv vv fv E)(N:∀ b, E b->b<w0.heap.size)(hh:h<257) :
  Fn prog 125 #[pt sb 0,.int .i64 (h:Nat)] w0 fun v w'=>v=dg (emptD s.width h)/\Fr (fun b=>b=sb) w0 w'/\SRow u w' sb iv s mn mr cv vv fv E:=by
 obtain⟨bv,O,R,T⟩:=M;refine (bare u w0 J L hsb O R hh).mono ?_;rintro v w' ⟨e,f,B,k,n,A⟩;refine⟨e,f,B,k,.inr n,fun b H I=>?_⟩
 rcases A with rfl | A
 ·exact T b H I
 ·have:=A b H;have:=N b I;omega
theorem SRow.rdw (h:SRow u w sb iv s mn mr cv vv fv E):rdO prog 3 w sb 1=some (.int .i64 (s.width:Nat)):=by
 obtain⟨bv,A,_⟩:=h;exact rd1 agg3 A rfl
theorem SRow.lt (h:SRow u w sb iv s mn mr cv vv fv E):sb<w.heap.size:=by
 obtain⟨bv,A,_⟩:=h;exact qQh A
theorem bit0 (k:Bs)(i:Nat):(kb k i == 0)=!kbit k i:=by unfold kb;cases kbit k i <;> rfl
theorem climb_next (wd:Int)(k d:Bs)(i:Nat):V.climb wd k 0 d (empts wd (i+1))=up wd k i (V.climb wd k 0 d (empts wd i)) (emptD wd i):=by
 have:empts wd (i+1)=empts wd i++[emptD wd i]:=by simp[empts,vT]
 rw[this,climb_app,qQz,jY];rfl
def clI (u w0:World)(sb I A B:Nat)(iv:Value)(s:Sup)(mn mr:Nat)(cv vv fv:Value)(E:Nat->Prop)(k:Bs)(J:List Value)(L:Bs)(H:Nat)(n:Nat)(vs:List Value)(w:World):Prop :=
 ∃ (i:Nat),vs=[pt sb 0,pt I 0,pt A 0,.int .i64 (s.width:Nat),pt B 0,.int .i64 (H:Nat),.int .i64 (i:Nat)]/\i<=H/\n=H - i/\w.heap[I]?=some (.cells J.toArray 78 (0,0))/\w.heap[A]?=some (.cells (bl z32) 75 (0,0))/\w.heap[B]?=some (.cells (bl (V.climb s.width k 0 L (empts s.width i))) 75 (0,0)) /\
  SRow u w sb iv s mn mr cv vv fv (fun b=>E b∨b=A∨b=B)/\Fr (fun b=>b=sb) w0 w
theorem climb (ht:Tabs w0)(hu:u.heap.size<=w0.heap.size)(hsb:5<=sb)(hS:SRow u w0 sb iv s mn mr cv vv fv E)(hE:∀ b, E b->b<w0.heap.size){k val:Bs}(R:k.length=32){T:Value}(hv:By w0 T val)(on:one T=true)(hl:val.length<=128)(hh:h<257) :
  Fn prog 187 #[pt sb 0,.agg (ndA (.leaf k val) T).toArray,.int .i64 (h:Nat)] w0 fun v w'=>v=dg (V.climb s.width k 0 (leafD s.width k val) (empts s.width h))/\Fr (fun b=>b=sb) w0 w'/\SRow u w' sb iv s mn mr cv vv fv E:=by
 refine go187 sm ?_;have b9:=hS.lt;generalize N:ndA (.leaf k val) T=Y;have c0:Y.length=102:=by rw[<- N];exact qXf z32l z32l R _
 obtain⟨W,hW,Z,k1,k2,s1⟩:=qZz w0 Y.toArray 78 (bl z32) 75;have a8:=hS.grow Z;have a9:=a8.rdw
 have rk:∀ w:World,w.heap[w0.heap.size]?=some (.cells Y.toArray 78 (0,0))->rdO prog 76 w w0.heap.size 69=some (dg k):=fun w k1=>by
  refine qJw (e:=78) (fz:=(0,0)) (a:=[.int .i64 1,.int .i64 0,.int .i64 0,.int .i64 0,.int .i64 0]++z32.map u8++z32.map u8) (m:=k.map u8) (r:=[T]) agg76 (by simp[R];exact sz76) (by simp[R]) ?_ sm;rw[k1,<- N];rfl
 have rv:rdO prog 22 W w0.heap.size 101=some T:=by
  refine rd_one (e:=78) (fz:=(0,0)) (a:=[.int .i64 1,.int .i64 0,.int .i64 0,.int .i64 0,.int .i64 0]++z32.map u8++z32.map u8++k.map u8) (r:=[]) agg22 ?_ (by simp[R]);rw[k1,<- N];rfl
 have b1:=rk W k1;simp -implicitDefEqProofs only[go_sem,yJ,vH,yN,jY,yF,qQk,Tryz.f187,hW,nilOk,a9,b1,rv];refine qQa pl193 ((leaf W (ht.no Z) s.width R (hv.fr0 Z) om).mono ?_);rintro _ B ⟨rfl,f3⟩;obtain⟨w4,q4,k4,f4,s4⟩:=allocD B sz75 (qZp s.width k val)
 have H:=(f3.trans f4)
 simp -implicitDefEqProofs only[go_sem,yJ,yN,qQk,q4];have c3:w0.heap.size+2<=B.heap.size:=by have:=f3.size;omega
 refine loopD [0,4,6,7,8,22,23] (clI u w0 sb w0.heap.size (w0.heap.size+1) B.heap.size iv s mn mr cv vv fv E k Y (leafD s.width k val) h) h ⟨0,rfl,om,rfl,H.at k1 id,H.at k2 id,k4,?_,(Z.trans H).mono fun _ _ h=>h.elim⟩ ?_
 ·refine (hS.grow (Z.trans H)).mono fun b A he=>?_
  rcases he with he | rfl | rfl
  ·exact .inl he
  ·exact .inr om
  ·exact .inr om
 rintro _ vs w g ⟨i,rfl,hi,rfl,kn,kr,kd,a0,fw⟩
 by_cases c4:i<h
 ·have d1:=dTo ((i:Int)<(h:Int))
  have b3:∀ b,(E b∨b=w0.heap.size+1∨b=B.heap.size)->b<w.heap.size:=fun b A=>by
   have:=qQh kr;have:=qQh kd
   rcases A with A | rfl | rfl
   ·have:=hE b A;omega
   ·omega
   ·omega
  simp -implicitDefEqProofs only[go_sem,yJ,d1];refine qQa pl125 ((bareS (ht.fr fw fun b A h=>by omega) (by have:=fw.size;omega) hsb a0 b3 (h:=i) om).mono ?_);rintro _ w5 ⟨rfl,f5,b4⟩;obtain⟨w6,q6,k6,f6,s6⟩:=allocD w5 sz75 (qQv s.width i);have I:Fr (fun b=>b=sb) w w6:=f5.trans (f6.mono fun _ _ h=>h.elim);have a3:=I.at kn om;have b5:=I.at kr om;have a4:=I.at kd om;have b6:=b4.fr0 f6;have b7:=rk w6 a3;have c1:IntKind.i64.wrap (255 - (i:Int))=((255 - i:Nat):Int):=by rw[qQq om om];omega
  simp -implicitDefEqProofs only[go_sem,yJ,yN,jY,qQk,q6,b7,c1];refine qQa pl194 ((bbit w6 R (i:=255 - i) om).mono ?_);rintro _ w7 ⟨rfl,f7⟩;have b0:=bit0 k (255 - i);have O:Fr (fun b=>b=sb) w0 w7:=(fw.trans I).trans (f7.mono fun _ _ h=>h.elim);have M:(V.climb s.width k 0 (leafD s.width k val) (empts s.width i)).length=32:=qKt _ _ _ _ _ (qZp _ _ _);have a5:=rd_d agg75 sz75 (f7.at a4 id) M;have a6:=rd_d agg75 sz75 (f7.at k6 id) (qQv s.width i);have nx:=climb_next s.width k (leafD s.width k val) i;have c2:=iSu (i:=i)
  have a7:∀ (J:World) (D:Bs), No w7 J->D=V.climb s.width k 0 (leafD s.width k val) (empts s.width (i+1))->D.length=32 ->
    wrO prog 75 J B.heap.size 0 (dg D)=some (V.put J B.heap.size (.cells (bl D) 75 (0,0)))/\clI u w0 sb w0.heap.size (w0.heap.size+1) B.heap.size iv s mn mr cv vv fv E k Y (leafD s.width k val) h (h - (i+1)) [pt sb 0,pt w0.heap.size 0,pt (w0.heap.size+1) 0,.int .i64 (s.width:Nat),pt B.heap.size 0,.int .i64 (h:Nat),.int .i64 ((i+1:Nat):Int)] (V.put J B.heap.size (.cells (bl D) 75 (0,0))):=fun J D U hD b8=>by
   subst hD;have L:=f7.trans U;have k8:=L.at a4 id;refine⟨wr_d sz75 k8 M b8,i+1,rfl,om,rfl,qQi (L.at a3 id) om,qQi (L.at b5 id) om,qQd k8,(b6.fr0 L).put _ om (.inr (.inr rfl)),(O.trans (U.mono fun _ _ h=>h.elim)).put (b:=B.heap.size) _ fun h=>by omega⟩
  cases A:kbit k (255 - i) with
  | false =>
   rw[A,xH]at b0;simp -implicitDefEqProofs only[go_sem,yJ,b0,a5,a6];refine qQa pl160 ((branch w7 (ht.fr O fun b A h=>by omega) s.width M (qQv s.width i)).mono ?_);rintro _ J ⟨rfl,U⟩;obtain⟨q8,I8⟩:=a7 J _ U (by rw[nx];unfold up;rw[A];rfl) (qXm _ _ _);simp -implicitDefEqProofs only[go_sem,yJ,q8,c2];exact⟨h - (i+1),om,I8⟩
  | true =>
   rw[A,vK]at b0;simp -implicitDefEqProofs only[go_sem,yJ,b0,a5,a6];refine qQa pl160 ((branch w7 (ht.fr O fun b A h=>by omega) s.width (qQv s.width i) M).mono ?_);rintro _ J ⟨rfl,U⟩;obtain⟨q8,I8⟩:=a7 J _ U (by rw[nx];unfold up;rw[A];rfl) (qXm _ _ _);simp -implicitDefEqProofs only[go_sem,yJ,q8,c2];exact⟨h - (i+1),om,I8⟩
 ·have d1:=dFo ((i:Int)<(h:Int))
  obtain rfl:i=h:=om
  have M:(V.climb s.width k 0 (leafD s.width k val) (empts s.width i)).length=32:=qKt _ _ _ _ _ (qZp _ _ _);have rd:=rd_d agg75 sz75 kd M;have q:=wr_d sz75 kr zl32 M;have r:=rd_d agg75 sz75 (qQd (o:=.cells (bl (V.climb s.width k 0 (leafD s.width k val) (empts s.width i))) 75 (0,0)) kr) M;simp -implicitDefEqProofs only[go_sem,yJ,d1,rd,q,r];exact⟨fw.put (b:=w0.heap.size+1) _ fun h=>by omega,(a0.put _ om (.inr (.inl rfl))).mono fun b _ h=>.inl h⟩
end
end A
end
section
open Go.Proofs Sha
theorem RdR.cutV {rows:Rows}(h:RdR w k (.slice a n cap) rows)(hl:l<=m)(I:m<=n)(J:rows.length=n):RdR w k (V.cutV k a cap l m) ((rows.drop l).take (m - l)):=by
 subst J;refine⟨fun r A=>h.1 r (vA (List.mem_of_mem_take A)),?_⟩;have e:((rows.drop l).take (m - l)).length=m - l:=by rw[lTk,lDr];omega
 have B:∀ (l:Rows) (n:Nat),RowsOk k l->(l.flatten).take (n*k)=(l.take n).flatten/\(l.flatten).drop (n*k)=(l.drop n).flatten:=by
  intro l
  induction l with
  | nil=>intro n _;simp
  | cons r l L =>
   intro n H;have A:=(H r sm).1
   cases n with
   | zero=>simp
   | succ n =>
    obtain⟨M,N⟩:=L n H.tail;have O:(n+1)*k=r.length+n*k:=by rw[A,Nat.add_mul];omega
    simp only[List.flatten_cons,vE,List.drop_succ_cons];rw[O];constructor
    ·rw[List.take_append,zG om,kQ,M]
    ·rw[List.drop_append,zT om,kQ,N,List.nil_append]
 have R:RowsOk k (rows.drop l):=fun r A=>h.1 r (vA A);rw[e,<- (B _ _ R).1,<- (B _ _ h.1).2];exact Rd.cutV h.2 hl I
def enRow (c:Bs × Bs)(vv:Value):List Value:=c.1.map u8++[vv]
def EnR (w:World)(v:Value)(es:List (Bs × Bs)):Prop:=∃ rows,RdR w 33 v rows/\rows.length=es.length/\∀ i (h:i<rows.length) (A:i<es.length),∃ vv,rows[i]=enRow es[i] vv/\es[i].1.length=32/\one vv=true/\By w vv es[i].2
theorem EnR.fr0 (h:EnR w v es)(k:No w w'):EnR w' v es:=by
 obtain⟨rows,A,B,H⟩:=h;refine⟨rows,A.fr0 k,B,fun i a b=>?_⟩;obtain⟨vv,e,l,o,y⟩:=H i a b;exact⟨vv,e,l,o,y.fr0 k⟩
theorem EnR.slice (h:EnR w v es):∃ a cap,v=.slice a es.length cap/\es.length<=cap:=by
 obtain⟨rows,A,B,_⟩:=h;rw[<- B];exact A.slice
theorem EnR.cutV (h:EnR w (.slice a n cap) es)(hl:l<=m)(A:m<=n)(J:es.length=n):EnR w (V.cutV 33 a cap l m) ((es.drop l).take (m - l)):=by
 obtain⟨rows,B,H,I⟩:=h;refine⟨_,B.cutV hl A om,by simp[H],fun i a b=>?_⟩;simp only[List.getElem_take,List.getElem_drop];rw[lTk,lDr]at a b;exact I (l+i) om om
theorem EnR.at (h:EnR w v es)(hi:i<es.length):∃ b o cap vv, v=.slice (some ⟨b, o, Option.none⟩) es.length cap/\es.length<=cap/\es[i].1.length=32/\one vv=true/\By w vv es[i].2 /\
  ∀ w',No w w'->rdO prog 76 w' b (o+i*33)=some (dg es[i].1)/\rdO prog 22 w' b (o+i*33+32)=some vv/\rdO prog 83 w' b (o+i*33)=some (.agg (enRow es[i] vv).toArray):=by
 obtain⟨rows,B,I,J⟩:=h;have A:i<rows.length:=om
 obtain⟨vv,H,hl,L,M⟩:=J i A hi;obtain⟨b,o,cap,rfl,N⟩:=B.pos x9 om;refine⟨b,o,cap,vv,by rw[I],om,hl,L,M,fun w' k=>⟨?_,?_,?_⟩⟩
 ·refine (B.fr0 k).sub agg76 sz76 x9 A (j:=0) x9 (xs:=es[i].1.map u8) (by simp[hl]) fun q O=>?_
  rw[H,jY,enRow,List.getElem?_append_left (by simp[hl];omega)]
 ·refine (B.fr0 k).fld agg22 A x9 ?_
  rw[H,enRow,List.getElem?_append_right (by simp[hl])];simp[hl]
 ·rw[<- H];exact (B.fr0 k).get agg83 sz83 x9 A
namespace R
def cwI (w0:World)(wd:Int)(esv:Value)(k A:Bs)(f n:Nat)(m:Nat)(vs:List Value)(w:World):Prop :=
 ∃ (h:Nat) (d:Bs),vs=[esv,.int .i64 wd,pt w0.heap.size 0,pt (w0.heap.size+1) 0,pt (w0.heap.size+2) 0,.int .i64 (n:Nat),.int .i64 (h:Nat)]/\f<=h/\h<=n/\m=n - h/\d.length=32/\A=climb wd k h d (((empts wd 257).drop h).take (n - h)) /\
  w.heap[w0.heap.size]?=some (.cells (bl k) 76 (0,0))/\w.heap[w0.heap.size+1]?=some (.cells (bl d) 75 (0,0))/\w.heap[w0.heap.size+2]?=some (.cells (bl (zK 32 0)) 75 (0,0))/\No w0 w
theorem climbWithF (w0:World)(ht:Tabs w0)(wd:Int)(he:RdD w0 esv (empts wd 257)){k:Bs}(hk:k.length=32)(hd:d.length=32){f n:Nat}(a6:f<=n)(hn:n<=256) :
  Fn prog 141 #[esv,.int .i64 wd,dg k,.int .i64 (f:Nat),dg d,.int .i64 (n:Nat)] w0 fun v w'=>v=dg (climb wd k f (cutD wd d) (((empts wd 257).drop f).take (n - f)))/\No w0 w':=by
 refine go141 sm ?_;obtain⟨W,hW,f1,k1,k2,k3,s1⟩:=allocs3 w0 (bl k) 76 (bl d) 75 (bl (zK 32 0)) 75;simp -implicitDefEqProofs only[go_sem,yJ,vH,Tryz.f141,yN,qQk,hW];refine qQa pl168 ((within W f 0 256 x9).mono ?_);rintro _ w2 ⟨rfl,rfl⟩;simp -implicitDefEqProofs only[go_sem,yJ];refine qQa pl168 ((within w2 n 0 256 x9).mono ?_);rintro _ w3 ⟨rfl,rfl⟩;have m1:max (0:Int) (min (f:Int) 256)=(f:Int):=om
 have m2:max (0:Int) (min (n:Int) 256)=(n:Int):=om
 have r3:=rd_d agg75 sz75 k2 hd;simp -implicitDefEqProofs only[go_sem,yJ,r3,m1,m2];refine qQa pl133 ((dcut w3 wd hd).mono ?_);rintro _ w4 ⟨rfl,R⟩;have lc:=qZi wd d;have q5:=wr_d sz75 (R.at k2 id) hd lc;have k5:=qQd (o:=.cells (bl (cutD wd d)) 75 (0,0)) (R.at k2 id);have V:=qQi (b:=w0.heap.size+1) (o:=.cells (bl (cutD wd d)) 75 (0,0)) (R.at k1 id) om;have Y:=qQi (b:=w0.heap.size+1) (o:=.cells (bl (cutD wd d)) 75 (0,0)) (R.at k3 id) om;have f5:No w0 (put w4 (w0.heap.size+1) (.cells (bl (cutD wd d)) 75 (0,0))):=(f1.trans R).put (b:=w0.heap.size+1) _ fun h=>by omega
 simp -implicitDefEqProofs only[go_sem,yJ,q5];generalize put w4 (w0.heap.size+1) (.cells (bl (cutD wd d)) 75 (0,0))=w5 at *;generalize H:climb wd k f (cutD wd d) (((empts wd 257).drop f).take (n - f))=I;refine loopD [0,1,8,10,12,14,15] (cwI w0 wd esv k I f n) (n - f) ⟨f,cutD wd d,rfl,xC _,a6,rfl,lc,H.symm,V,k5,Y,f5⟩ ?_;clear r3 q5 k5 V Y f5 R H;rintro _ vs w6 g ⟨h,x,rfl,b0,hh,rfl,M,L,j1,j2,j3,T⟩
 by_cases b1:h<n
 ·have d1:=dTo ((h:Int)<(n:Int))
  have c1:=iSu (i:=h);have c2:IntKind.i64.wrap (255 - (h:Int))=((255 - h:Nat):Int):=qXr (a:=255) om om;have rk:=rd_d agg76 sz76 j1 hk;simp -implicitDefEqProofs only[go_sem,yJ,d1,rk,c2];refine qQa pl170 ((bit w6 hk (i:=255 - h) om).mono ?_);rintro _ U ⟨rfl,N⟩;have Z:=he.fr0 (T.trans N);obtain⟨eb,eo,ec,rfl,_,_⟩:=Z.pos (by rw[qQz];decide);have re:=Z.get (P:=prog) agg75 sz75 (i:=h) (by rw[qQz];omega);rw[gDq,qVe wd 257 om,Option.getD_some]at re;have a0:rdO prog 75 U.drew eb (eo+h*32)=_:=re;have y1:(0:Int)<=(h:Int)/\(h:Int)<(((empts wd 257).length:Nat):Int):=by rw[qQz];omega
  have a3:=qQv wd h;have a4:=N.at j1 id;have J:=N.at j2 id;have a5:=N.at j3 id;have a7:=rd_d agg75 sz75 J M;have O:rdO prog 75 U.drew (w0.heap.size+1) 0=_:=a7
  have a8:((empts wd 257).drop h).take (n - h)=emptD wd h::((empts wd 257).drop (h+1)).take (n - (h+1)):=by
   rw[vR (by rw[qQz];omega),show n - h=(n - (h+1))+1 by omega,vE]
   congr 1
   have:=qVe wd 257 (i:=h) om;rw[xE (by rw[qQz];omega)]at this;exact Option.some.inj this
  rw[a8,climb]at L;unfold up at L;unfold kb
  by_cases B:kbit k (255 - h)=true
  ·rw[if_pos B]at L
   rw[if_pos B];have d0:((1:Int) == 0)=false:=rfl;simp -implicitDefEqProofs only[go_sem,yJ,d0,y1,and_self,iTn,a0,O];refine qQa pl96 ((branch U.drew (ht.no (T.trans N).drew) wd a3 M).mono ?_);rintro _ w8 ⟨rfl,f8⟩;have lb:(qXd wd (emptD wd h) x).length=32:=qXm _ _ _;have A:No U w8:=(Fr.refl _ _).drew.trans f8;have q9:=wr_d sz75 (A.at J id) M lb;simp -implicitDefEqProofs only[go_sem,yJ,q9,c1];exact⟨n - (h+1),om,h+1,_,rfl,om,om,rfl,lb,L,qQi (A.at a4 id) om,qQd (A.at J id),qQi (A.at a5 id) om,((T.trans N).trans A).put (b:=w0.heap.size+1) _ fun h=>by omega⟩
  ·rw[if_neg B]at L
   rw[if_neg B];have d0:((0:Int) == 0)=true:=rfl;simp -implicitDefEqProofs only[go_sem,yJ,d0,y1,and_self,iTn,a0,O];refine qQa pl96 ((branch U.drew (ht.no (T.trans N).drew) wd M a3).mono ?_);rintro _ w8 ⟨rfl,f8⟩;have lb:(qXd wd x (emptD wd h)).length=32:=qXm _ _ _;have A:No U w8:=(Fr.refl _ _).drew.trans f8;have q9:=wr_d sz75 (A.at J id) M lb;simp -implicitDefEqProofs only[go_sem,yJ,q9,c1];exact⟨n - (h+1),om,h+1,_,rfl,om,om,rfl,lb,L,qQi (A.at a4 id) om,qQd (A.at J id),qQi (A.at a5 id) om,((T.trans N).trans A).put (b:=w0.heap.size+1) _ fun h=>by omega⟩
 ·have d1:=dFo ((h:Int)<(n:Int))
  obtain rfl:h=n:=om
  rw[Nat.sub_self,List.take_zero]at L;have L:I=x:=L;subst L;have a9:=rd_d agg75 sz75 j2 M;have q7:=wr_d sz75 j3 zl32 M;have r7:=rd_d agg75 sz75 (qQd (o:=.cells (bl I) 75 (0,0)) j3) M;simp -implicitDefEqProofs only[go_sem,yJ,d1,a9,q7,r7];exact T.put (b:=w0.heap.size+2) _ fun h=>by omega
theorem climbWith (w0:World)(A:Tabs w0)(wd:Int)(B:RdD w0 esv (empts wd 257)){k:Bs}(H:k.length=32)(I:d.length=32)(J:n<=256) :
  Fn prog 141 #[esv,.int .i64 wd,dg k,.int .i64 0,dg d,.int .i64 (n:Nat)] w0 fun v w'=>v=dg (climb wd k 0 (cutD wd d) ((empts wd 257).take n))/\No w0 w' :=
 climbWithF w0 A wd B H I (f:=0) (Nat.zero_le _) J
end R
end
end Go.V
