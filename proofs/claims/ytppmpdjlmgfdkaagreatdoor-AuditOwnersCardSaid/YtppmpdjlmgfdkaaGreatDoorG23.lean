/- Helpers. -/
import Derived.Laws.Strings
import Derived.Test.YtppmpdjlmgfdkaaGreatDoorG17
import Derived.Test.YtppmpdjlmgfdkaaGreatDoorG19
import Derived.Test.YtppmpdjlmgfdkaaGreatDoorG22
import Derived.Test.YtppmpdjlmgfdkaaGreatDoorG21
set_option linter.all false
set_option maxRecDepth 100000
set_option maxHeartbeats 8000000
open Bool renaming not_false→xG,not_true→yG
open List renaming replicate→zV,getElem?_eq_getElem→zQ,drop_eq_getElem_cons→yS,all_cons→yD,getElem?_map→jR,all_append→yN,range→zX,drop_zero→jN,drop_of_length_le→zC,take_append_drop→yE,getElem?_take→zJ,getElem?_drop→yI
open Nat renaming reduceEqDiff→jY,zero_add→zB,reduceBEq→jG,mul_one→jU,add_assoc→yO,le_refl→xT
open Option renaming bind_some→qV,map_some→qK
open Go.Value renaming cells→jH,int→yL
namespace Go.V
open Go.Proofs.Tryz Go.V.Tryz
variable {bs:Bs} {b cap e i l m n o t:Nat} {a:Option Addr} {p:Value} {w:World}
section
open Go.Proofs Sha
theorem by_str {v:Value}(h:By w v bs):(convert 22 9 v).run prog w=.ok (.string ⟨(bs.map fun x=>UInt8.ofNat x.toNat).toArray⟩) w:=by
 rcases Nat.eq_zero_or_pos bs.length with h0 | h0
 ·obtain⟨a,cap,rfl,_⟩:=h.slice
  have hb:=List.length_eq_zero_iff.1 h0;subst hb
  cases a with
  | none=>rfl
  | some ad=>rfl
 ·obtain⟨b,o,cap,e,_⟩:=h.pos h0
  subst e;obtain⟨_,a,c,e2,hc,hr⟩:=id h;cases e2;obtain⟨b2,o2,e3,hr⟩:=hr (by omega);cases e3
  obtain⟨cs,el,fz,hcs,hl⟩:∃ cs el fz,w.heap[b]?=some (.cells cs el fz)∧∀ i,i<bs.length→cs[o+i]?=(bs.map u8)[i]?:=by
   have h1:=hr 0 (by omega);have h2:(bs.map u8)[0]?=some (bs.map u8)[0]:=zQ (by simp;omega);rw[h2]at h1
   obtain⟨cs,el,fz,hcs⟩:∃ cs el fz,w.heap[b]?=some (.cells cs el fz):=by
    unfold rc at h1;split at h1
    ·rename_i heq;exact⟨_,_,_,heq⟩
    ·cases h1
   exact⟨cs,el,fz,hcs,fun i hi=>by rw[← hr i (by omega),qXe hcs]⟩
  have hn:o+bs.length≤cs.size:=by
   have h1:=hl (bs.length - 1) (by omega);rw[zQ (by simp;omega)]at h1;have:=(Array.getElem?_eq_some_iff.1 h1).1;omega
  have hx:=r_conv_str (P:=prog) (s:=22) (d:=9) (n:=bs.length) (cap:=cap) slc22 int5 str9 (l:=bs.map fun x=>(x.toNat:Int)) hcs hn (by
   apply List.ext_getElem?;intro i;rw[Array.getElem?_toList,Array.getElem?_extract];split
   ·rw[hl i (by omega)]
    simp only[List.map_map,jR]
    rfl
   ·rw[List.getElem?_eq_none (by simp;omega)])
  rw[hx,List.map_map]
  rfl
theorem str_eq (a b:Bs):(ByteArray.toList ⟨(a.map fun x=>UInt8.ofNat x.toNat).toArray⟩ == ByteArray.toList ⟨(b.map fun x=>UInt8.ofNat x.toNat).toArray⟩)=decide (a=b):=by
 rw[ByteArray.toList_eq,ByteArray.toList_eq];rw[Bool.eq_iff_iff,beq_iff_eq,decide_eq_true_iff];constructor
 ·intro h
  have h:a.map (fun x=>UInt8.ofNat x.toNat)=b.map (fun x=>UInt8.ofNat x.toNat):=h
  refine List.map_inj_right (fun x y e=>?_) |>.1 h
  have:=congrArg UInt8.toNat e;have h1:=x.isLt;have h2:=y.isLt;simp only[UInt8.toNat_ofNat']at this;apply BitVec.eq_of_toNat_eq;omega
 ·rintro rfl;rfl
theorem bequal (w0:World){av bv:Value}{a b:Bs}(ha:By w0 av a)(hb:By w0 bv b):Fn prog 186 #[av,bv] w0 fun v w'=>v=.bool (decide (a=b))∧w'=w0:=by
 refine go186 (by simp) ?_;simp -implicitDefEqProofs only[go_sem,jY,Tryz.f186];refine qQj ⟨_,_,by_str ha,?_⟩;simp -implicitDefEqProofs only[go_sem,jY];refine qQj ⟨_,_,by_str hb,?_⟩;simp -implicitDefEqProofs only[go_sem,jY];rw[str_eq];exact⟨rfl,trivial⟩
end
section
open Go.Proofs
namespace A
open Aud
section
variable {t e n:Nat} (ha:arrO prog t=some (n,e)) (hs:szO prog e=some 1) (b:Nat) {l h:Nat} (hl:l≤h) (hh:h≤n)
include ha hs hl hh
theorem slcA (hn:l<n):qQs prog t (pt b 0) (some (.int .i64 (l:Nat))) (some (.int .i64 (h:Nat))) none=some (.slice (some ⟨b,l,none⟩) (h - l) (n - l)):=by
 have e1:¬ n=l:=by omega
 simp only[qQs,ha,optB,sbO_nat hh,sbO_nat hl,qV,hs,qK,e1,if_false,Addr.add,jU,zB]
 cases l <;> simp
end
theorem slcAlo (ha:arrO prog t=some (n,e))(hs:szO prog e=some 1)(b:Nat)(hn:l<n):qQs prog t (pt b 0) (some (.int .i64 (l:Nat))) none none=some (.slice (some ⟨b,l,none⟩) (n - l) (n - l)):=by
 have e1:¬ n=l:=by omega
 simp only[qQs,ha,optB,sbO_nat (Nat.le_of_lt hn),qV,hs,qK,e1,if_false,Addr.add,jU,zB]
 cases l <;> simp
theorem slcAhi (ha:arrO prog t=some (n,e))(hs:szO prog e=some 1)(b:Nat){h:Nat}(hn:h≤n)(h0:0<n):qQs prog t (pt b 0) none (some (.int .i64 (h:Nat))) none=some (.slice (some ⟨b,0,none⟩) h n):=by
 have e1:¬ n=0:=by omega
 simp only[qQs,ha,optB,sbO_nat hn,qV,hs,qK,e1,if_false,Addr.add,Nat.zero_mul,Nat.sub_zero,if_true]
theorem rowBy {d:Bs}{e:TypeId}{fz:Nat × Nat}(h:w.heap[b]?=some (.cells (bl d) e fz))(hm:o+m≤d.length)(hc:m≤cap):By w (.slice (some ⟨b,o,none⟩) m cap) ((d.drop o).take m):=by
 have hl:((d.drop o).take m).length=m:=by rw[lTk,lDr];omega
 refine⟨by simp,_,_,by rw[hl],by rw[hl];exact hc,fun _=>⟨_,_,rfl,fun j hj=>?_⟩⟩;rw[hl,jU]at hj;rw[qXe h,bl_at (by omega),List.map_take,zJ,if_pos hj,List.map_drop,yI,jR,zQ (by omega),qQw 0 (by omega)];rfl
theorem beq_dec1 (a b:Byte):(a == b)=decide (a=b):=by
 by_cases h:a=b
 ·subst h;simp
 ·rw[decide_eq_false h];simpa using h
theorem bldSup0:bldO prog 67 []=some (.agg sup0):=by
 unfold bldO;rw[zero67,places67];rfl
theorem bldSup (a b c d e:Int):bldO prog 67 [(0,.int .i64 a),(1,.int .i64 b),(2,.int .i64 c),(3,.int .i64 d),(4,.int .i64 e)]=some (.agg #[.int .i64 a,.int .i64 b,.int .i64 c,.int .i64 d,.int .i64 e]):=by
 unfold bldO;rw[zero67,places67];rfl
theorem sup0_one:sup0.all one=true:=by rw[← Array.all_toList];rfl
theorem cutV_hi (b o cap m:Nat):cutV 1 (some ⟨b,o,none⟩) cap 0 m=.slice (some ⟨b,o,none⟩) m cap:=by
 unfold cutV;simp[Addr.add]
def SuQ (w0:World)(r:Except Int Sup)(v:Value)(w':World):Prop:=No w0 w'∧match r with
 | .error e=>v=.tuple #[.agg sup0,.int .i64 e]
 | .ok s=>v=.tuple #[.agg (supC s),.int .i64 0]
theorem letters_eq:(([76,68,71,49]:Bs).map fun x=>UInt8.ofNat x.toNat).toArray=#[76,68,71,49]:=rfl
theorem unpackSuper (w0:World){raw:Bs}(hp:By w0 (.slice (some ⟨b, o, none⟩) 256 cap) raw)(hcap:256≤cap) :
  Fn prog 79 #[.slice (some ⟨b,o,none⟩) 256 cap] w0 (SuQ w0 (supP raw)):=by
 have hlen:raw.length=256:=hp.len.symm;refine go79 (by simp) ?_;obtain⟨W,hW,f1,k1,s1⟩:=qQl w0 sup0 67;have d1:(((256:Nat):Int) != 256)=false:=rfl;have s64:qQs prog 22 (.slice (some ⟨b,o,none⟩) 256 cap) none (some (.int .i64 64)) none=some (.slice (some ⟨b,o,none⟩) 64 cap):=(slc_hi slc22 arr22 sz5 (l:=64) (n:=256) (by omega) hcap).trans (by rw[cutV_hi])
 have y1:By W (.slice (some ⟨b,o,none⟩) 64 cap) (raw.take 64):=by
  have:=By.slc (hp.fr0 f1) (l:=0) (m:=64) (by omega) (by omega);rw[cutV_hi]at this;exact this
 have l64:(raw.take 64).length=64:=by rw[lTk];omega
 simp -implicitDefEqProofs only[go_sem,jY,gLa,gLz,jH,Tryz.f79,d1,s64,hW];refine qQa pl121 ((wholeW W y1 (by omega) (by omega)).mono ?_);rintro _ w1 ⟨rfl,f2⟩;have f12:=f1.trans f2;have k2:=f2.at k1 id
 have ret:∀ (w:World) (vs:Array Value), No w0 w→w.heap[w0.heap.size]?=some (.cells sup0 67 (0, 0))→vs.size=5→vs.all one=true →
   wrO prog 67 w w0.heap.size 0 (.agg vs)=some (put w w0.heap.size (.cells vs 67 (0,0)))∧rdO prog 67 (put w w0.heap.size (.cells vs 67 (0,0))) w0.heap.size 0=some (.agg vs)∧No w0 (put w w0.heap.size (.cells vs 67 (0,0))):=fun w vs f k h5 ho =>
  ⟨qQr (by rw[h5];exact sz67) k (by rw[h5];rfl) ho,rd_all agg67 (by rw[h5];exact sz67) (qQd (o:=.cells vs 67 (0,0)) k),f.put (b:=w0.heap.size) _ fun h=>absurd h (Nat.lt_irrefl _)⟩
 unfold supP
 cases hw:wholeB (raw.take 64) with
 | false =>
  obtain⟨q1,q2,q3⟩:=ret w1 sup0 f12 k2 rfl sup0_one;rw[if_pos rfl];simp -implicitDefEqProofs only[go_sem,jY,xG,bldSup0,q1,q2];exact⟨q3,rfl⟩
 | true =>
  rw[if_neg (by decide)]
  have r64:rdO prog 209 w1 b o=some (dg (raw.take 64)):=rd_dg agg209 sz209 l64 (by omega) fun i hi=>by
   obtain⟨a,c,e,hc,hr⟩:=hp.at;simp only[Value.slice.injEq]at e;obtain⟨rfl,_,rfl⟩:=e;obtain⟨b',o',e,hr⟩:=hr i (by omega);cases e;rw[f12.rc (rc_lt hr) id,hr,List.map_take,zJ,if_pos hi,jR,zQ (by omega)];rfl
  have z64:(64≤64)=True:=by simp
  obtain⟨W2,hW2,f3,k3,s3⟩:=qQl w1 (bl (zV 64 0)) 209;have q3:wrO prog 209 W2 w1.heap.size 0 (dg (raw.take 64))=some (put W2 w1.heap.size (.cells (bl (raw.take 64)) 209 (0,0))):=qQr (by rw[qXa,l64];exact sz209) k3 (by rw[qXa,qXa,l64];rfl) (bl_one _);have k4:=qQd (o:=.cells (bl (raw.take 64)) 209 (0,0)) k3;have f13:No w0 (put W2 w1.heap.size (.cells (bl (raw.take 64)) 209 (0,0))):=(f12.trans f3).put (b:=w1.heap.size) _ fun h=>by have:=f12.size;omega
  have k14:=qQi (b:=w1.heap.size) (o:=.cells (bl (raw.take 64)) 209 (0,0)) (f3.at k2 id) (by have:=qQh k2;omega);simp -implicitDefEqProofs only[go_sem,jY,jH,yG,qQk,s64,z64,r64,hW2,q3];generalize put W2 w1.heap.size (.cells (bl (raw.take 64)) 209 (0,0))=w4 at *;have hsb:w0.heap.size<w1.heap.size:=qQh k2;generalize w1.heap.size=sb at *;have sl4:qQs prog 209 (pt sb 0) none (some (.int .i64 4)) none=some (.slice (some ⟨sb,0,none⟩) 4 64):=slcAhi arr209 sz5 sb (h:=4) (by omega) (by omega)
  have yy:∀ (w:World),w.heap[sb]?=some (.cells (bl (raw.take 64)) 209 (0,0))→∀ {o m cap:Nat},o+m≤64→m≤cap→By w (.slice (some ⟨sb,o,none⟩) m cap) ((raw.drop o).take m):=fun w k o m cap hm hc=>by
   have:=rowBy k (o:=o) (m:=m) (cap:=cap) (by rw[l64];exact hm) hc;rw[List.drop_take,List.take_take,Nat.min_eq_left (by omega)]at this;exact this
  have y4:=yy w4 k4 (o:=0) (m:=4) (cap:=64) (by omega) (by omega);rw[jN]at y4;simp -implicitDefEqProofs only[go_sem,sl4];refine qQj ⟨_,_,by_str y4,?_⟩;have se:=str_eq (raw.take 4) [76,68,71,49];rw[letters_eq]at se
  have bad:∀ w, No w0 w→w.heap[w0.heap.size]?=some (.cells sup0 67 (0, 0))→¬ (supF raw∧(supR raw).ok) →
    wrO prog 67 w w0.heap.size 0 (.agg sup0)=some (put w w0.heap.size (.cells sup0 67 (0,0)))∧rdO prog 67 (put w w0.heap.size (.cells sup0 67 (0,0))) w0.heap.size 0=some (.agg sup0)∧SuQ w0 (if supF raw∧(supR raw).ok then .ok (supR raw) else .error 53) (.tuple #[.agg sup0,.int .i64 53]) (put w w0.heap.size (.cells sup0 67 (0,0))):=fun w f k hn=>by
   obtain⟨q1,q2,q3⟩:=ret w sup0 f k rfl sup0_one;rw[if_neg hn];exact⟨q1,q2,q3,rfl⟩
  by_cases hL:raw.take 4=[76,68,71,49]
  case neg =>
   rw[decide_eq_false hL]at se;obtain⟨q1,q2,q3⟩:=bad w4 f13 k14 fun h=>hL h.1.1;simp -implicitDefEqProofs only[go_sem,jY,gLa,gLz,gLs,qXq,xG,se,bldSup0,q1,q2,if_true];exact q3
  rw[decide_eq_true hL]at se;have sl5:qQs prog 209 (pt sb 0) (some (.int .i64 5)) (some (.int .i64 8)) none=some (.slice (some ⟨sb,5,none⟩) 3 59):=slcA arr209 sz5 sb (l:=5) (h:=8) (by omega) (by omega) (by omega);simp -implicitDefEqProofs only[go_sem,jY,gLa,gLz,gLs,bSe,yG,se,sl5];refine qQa pl122 ((allZero w4 (yy w4 k4 (o:=5) (m:=3) (by omega) (by omega)) (by rw[lTk];omega)).mono ?_);rintro _ _ ⟨rfl,rfl⟩;rename_i w4
  cases hz1:zer ((raw.drop 5).take 3) with
  | false =>
   obtain⟨q1,q2,q3⟩:=bad w4 f13 k14 fun h=>by have:=h.1.2.1;rw[hz1]at this;cases this
   simp -implicitDefEqProofs only[go_sem,jY,gLa,gLz,gLs,bSe,qXq,xG,bldSup0,q1,q2];exact q3
  | true =>
  have sl28:qQs prog 209 (pt sb 0) (some (.int .i64 28)) (some (.int .i64 60)) none=some (.slice (some ⟨sb,28,none⟩) 32 36):=slcA arr209 sz5 sb (l:=28) (h:=60) (by omega) (by omega) (by omega);simp -implicitDefEqProofs only[go_sem,jY,gLa,gLz,gLs,bSe,yG,sl28];refine qQa pl122 ((allZero w4 (yy w4 k4 (o:=28) (m:=32) (by omega) (by omega)) (by rw[lTk];omega)).mono ?_);rintro _ _ ⟨rfl,rfl⟩;rename_i w4
  cases hz2:zer ((raw.drop 28).take 32) with
  | false =>
   obtain⟨q1,q2,q3⟩:=bad w4 f13 k14 fun h=>by have:=h.1.2.2.1;rw[hz2]at this;cases this
   simp -implicitDefEqProofs only[go_sem,jY,gLa,gLz,gLs,bSe,qXq,xG,bldSup0,q1,q2];exact q3
  | true =>
  have sl15:qQs prog 209 (pt sb 0) (some (.int .i64 15)) (some (.int .i64 16)) none=some (.slice (some ⟨sb,15,none⟩) 1 49):=slcA arr209 sz5 sb (l:=15) (h:=16) (by omega) (by omega) (by omega);simp -implicitDefEqProofs only[go_sem,jY,gLa,gLz,gLs,bSe,yG,sl15];refine qQa pl122 ((allZero w4 (yy w4 k4 (o:=15) (m:=1) (by omega) (by omega)) (by rw[lTk];omega)).mono ?_);rintro _ _ ⟨rfl,rfl⟩;rename_i w4
  have h15:(raw.drop 15).take 1=[raw.getD 15 0]:=by
   rw[yS (by omega),qQw 0 (by omega)];rfl
  have z15:zer ((raw.drop 15).take 1)=decide (raw.getD 15 0=0):=by
   rw[h15];unfold zer;simp only[yD,List.all_nil,Bool.and_true,beq_dec1]
  rw[z15]
  by_cases hz3:raw.getD 15 0=0
  case neg =>
   obtain⟨q1,q2,q3⟩:=bad w4 f13 k14 fun h=>hz3 h.1.2.2.2;rw[decide_eq_false hz3];simp -implicitDefEqProofs only[go_sem,jY,gLa,gLz,gLs,bSe,xG,bldSup0,q1,q2];exact q3
  rw[decide_eq_true hz3]
  have hF:supF raw:=⟨hL,hz1,hz2,hz3⟩
  have r4:rdO prog 5 w4 sb 4=some (.int .u8 ((raw.getD 4 0).toNat:Int)):=by
   have:=(yy w4 k4 (o:=0) (m:=64) (cap:=64) (by omega) (by omega))
   rw[jN]at this;have:=this.get agg5 (i:=4) (by rw[l64];omega);rw[getD_take (by omega),zB]at this;exact this
  have e4:=ext8i (raw.getD 4 0);have sl8:qQs prog 209 (pt sb 0) (some (.int .i64 8)) none none=some (.slice (some ⟨sb,8,none⟩) 56 56):=slcAlo arr209 sz5 sb (l:=8) (by omega);have sl16:qQs prog 209 (pt sb 0) (some (.int .i64 16)) none none=some (.slice (some ⟨sb,16,none⟩) 48 48):=slcAlo arr209 sz5 sb (l:=16) (by omega);have sl20:qQs prog 209 (pt sb 0) (some (.int .i64 20)) none none=some (.slice (some ⟨sb,20,none⟩) 44 44):=slcAlo arr209 sz5 sb (l:=20) (by omega);have sl24:qQs prog 209 (pt sb 0) (some (.int .i64 24)) none none=some (.slice (some ⟨sb,24,none⟩) 40 40):=slcAlo arr209 sz5 sb (l:=24) (by omega)
  have gg:∀ (w:World),w.heap[sb]?=some (.cells (bl (raw.take 64)) 209 (0,0))→∀ {o m n:Nat},o+m≤64→n≤m→n≤7→Fn prog 123 #[.slice (some ⟨sb,o,none⟩) m m,.int .i64 (n:Nat)] w fun v w'=>v=.int .i64 (le ((raw.drop o).take n))∧w'=w:=fun w k o m n h1 h2 h3=>by
   have:=get w (yy w k (o:=o) (m:=m) (cap:=m) h1 (xT _)) (n:=n) (by rw[lTk,lDr];omega) h3;rw[List.take_take,Nat.min_eq_left h2]at this;exact this
  have x4:(0:Int)≤4∧(4:Int)<((64:Nat):Int):=by omega
  have bs:bldO prog 67 [(0,.int .i64 ((raw.getD 4 0).toNat:Int)),(1,.int .i64 (le ((raw.drop 8).take 7):Nat)),(2,.int .i64 (le ((raw.drop 16).take 4):Nat)),(3,.int .i64 (le ((raw.drop 20).take 4):Nat)),(4,.int .i64 (le ((raw.drop 24).take 4):Nat))]=some (.agg (supC (supR raw))):=bldSup _ _ _ _ _;clear se y4 y1 r64 q3 hp;simp -implicitDefEqProofs only[go_sem,jY,gLa,gLz,gLs,bSe,yG];refine qXc (Q:=fun e ev w=>e=.normal∧∃ tb,ev 2=pt w0.heap.size 0∧ev 5=pt tb 0∧w.heap[tb]?=some (.cells (supC (supR raw)) 67 (0,0))∧No w0 w∧w.heap[w0.heap.size]?=some (.cells sup0 67 (0,0))) _ (fun e ev w=>?_) ?_
  ·rintro⟨rfl,tb,e2,e5,kt,fw,kr⟩
   have rt:=qQo (P:=prog) (t:=67) agg67 sz67 kt;simp -implicitDefEqProofs only[go_sem,e5,rt];refine qQa pl124 ((valid w (supR raw)).mono ?_);rintro _ w5 ⟨rfl,f5⟩
   by_cases hok:(supR raw).ok
   case neg =>
    obtain⟨q1,q2,q3⟩:=bad w5 (fw.trans f5) (f5.at kr id) fun h=>hok h.2;rw[decide_eq_false hok];simp -implicitDefEqProofs only[go_sem,jY,xG,e2,bldSup0,q1,q2];exact q3
   rw[decide_eq_true hok];obtain⟨q1,q2,q3⟩:=ret w5 (supC (supR raw)) (fw.trans f5) (f5.at kr id) rfl (qKu _);have rt2:=qQo (P:=prog) (t:=67) agg67 sz67 (f5.at kt id);rw[if_pos ⟨hF,hok⟩];simp -implicitDefEqProofs only[go_sem,jY,yG,e2,e5,rt2,q1,q2];exact⟨q3,rfl⟩
  have allo:∀ w:World, w.heap[sb]?=some (.cells (bl (raw.take 64)) 209 (0, 0))→w.heap[w0.heap.size]?=some (.cells sup0 67 (0, 0))→No w0 w→∃ W, w.alloc (.cells sup0 67)=W∧Ext w W∧W.heap[sb]?=some (.cells (bl (raw.take 64)) 209 (0, 0)) ∧
    wrO prog 67 W w.heap.size 0 (.agg (supC (supR raw)))=some (put W w.heap.size (.cells (supC (supR raw)) 67 (0,0)))∧(put W w.heap.size (.cells (supC (supR raw)) 67 (0,0))).heap[w.heap.size]?=some (.cells (supC (supR raw)) 67 (0,0))∧No w0 (put W w.heap.size (.cells (supC (supR raw)) 67 (0,0)))∧(put W w.heap.size (.cells (supC (supR raw)) 67 (0,0))).heap[w0.heap.size]?=some (.cells sup0 67 (0,0)):=fun w k kr f=>by
   obtain⟨W5,hW5,f5,k5,s5⟩:=qQl w sup0 67;exact⟨W5,hW5,f5.ext,f5.at k id,qQr sz67 k5 rfl (qKu _),qQd (o:=.cells (supC (supR raw)) 67 (0,0)) k5,(f.trans f5).put (b:=w.heap.size) _ fun h=>by have:=f.size;omega,qQi (b:=w.heap.size) (o:=.cells (supC (supR raw)) 67 (0,0)) (f5.at kr id) (by have:=qQh kr;omega)⟩
  have r4':rdO prog 5 w4.drew sb 4=some (.int .u8 ((raw.getD 4 0).toNat:Int)):=r4
  replace k4:w4.drew.heap[sb]?=_:=k4
  replace k14:w4.drew.heap[w0.heap.size]?=_:=k14
  replace f13:=f13.drew
  clear r4;refine qXf (fun j=>j == 4 || (j == 6 || (j == 8 || (j == 10 || j == 12)))) (.one 0 (.one 1 (.one 2 (.one 3 (.one 5 (.one 7 (.one 9 (.two 4 (.two 6 (.two 8 (.two 10 (.row [11,12,13]) 12 (.row [10,11,13])) 12 (.row [8,10,11,13])) 12 (.row [6,8,10,11,13])) 12 (.row [4,6,8,10,11,13]))))))))) rfl (by kernel_rfl) (by kernel_rfl) ?_;generalize w4.drew=w4 at *;obtain⟨W5,hW5,x5,kS,q5,k6,f6,k7⟩:=allo w4 k4 k14 f13;simp -implicitDefEqProofs only[go_sem,jY,jG,gLa,gLz,gLs,jH,bSe,zB,OT.row,x4,and_self,if_true,Int.reduceToNat,jU,r4',e4,sl8,sl16,sl20,sl24,hW5,x5,implies_true];refine⟨?_,?_⟩
  ·refine qQf pl123 ((gg _ k4 (o:=8) (m:=56) (n:=7) (by omega) (by omega) (by omega)).mono ?_);rintro _ _ ⟨rfl,rfl⟩;refine⟨fun _=>Ext.refl _,?_⟩
   simp -implicitDefEqProofs only[go_sem,jY,jG,gLa,gLz,gLs,jH,bSe,hW5,x5,implies_true];refine⟨?_,?_⟩
   ·refine qQf pl123 ((gg _ k4 (o:=16) (m:=48) (n:=4) (by omega) (by omega) (by omega)).mono ?_);rintro _ _ ⟨rfl,rfl⟩;refine⟨fun _=>Ext.refl _,?_⟩
    simp -implicitDefEqProofs only[go_sem,jY,jG,gLa,gLz,gLs,jH,bSe,hW5,x5,implies_true];refine⟨?_,?_⟩
    ·refine qQf pl123 ((gg _ k4 (o:=20) (m:=44) (n:=4) (by omega) (by omega) (by omega)).mono ?_);rintro _ _ ⟨rfl,rfl⟩;refine⟨fun _=>Ext.refl _,?_⟩
     simp -implicitDefEqProofs only[go_sem,jY,jG,gLa,gLz,gLs,jH,bSe,hW5,x5,implies_true];refine⟨?_,?_⟩
     ·refine qQf pl123 ((gg _ k4 (o:=24) (m:=40) (n:=4) (by omega) (by omega) (by omega)).mono ?_);rintro _ _ ⟨rfl,rfl⟩;refine⟨fun _=>Ext.refl _,?_⟩
      simp -implicitDefEqProofs only[go_sem,jY,jG,gLa,gLz,gLs,jH,bSe,bs,hW5,q5,x5,implies_true];exact⟨_,rfl,k6,f6,k7⟩
     ·refine qQf pl123 ((gg _ kS (o:=24) (m:=40) (n:=4) (by omega) (by omega) (by omega)).mono ?_);rintro _ _ ⟨rfl,rfl⟩;refine⟨fun _=>Ext.refl _,?_⟩
      simp -implicitDefEqProofs only[go_sem,jY,jG,gLa,gLz,gLs,bs,q5];exact⟨_,rfl,k6,f6,k7⟩
    ·refine qQf pl123 ((gg _ kS (o:=20) (m:=44) (n:=4) (by omega) (by omega) (by omega)).mono ?_);rintro _ _ ⟨rfl,rfl⟩;refine⟨fun _=>Ext.refl _,?_⟩
     simp -implicitDefEqProofs only[go_sem,jY,gLa,gLz,gLs];refine qQf pl123 ((gg _ kS (o:=24) (m:=40) (n:=4) (by omega) (by omega) (by omega)).mono ?_);rintro _ _ ⟨rfl,rfl⟩;refine⟨fun _=>Ext.refl _,?_⟩;simp -implicitDefEqProofs only[go_sem,jY,jG,gLa,gLz,gLs,bs,q5];exact⟨_,rfl,k6,f6,k7⟩
   ·refine qQf pl123 ((gg _ kS (o:=16) (m:=48) (n:=4) (by omega) (by omega) (by omega)).mono ?_);rintro _ _ ⟨rfl,rfl⟩;refine⟨fun _=>Ext.refl _,?_⟩
    simp -implicitDefEqProofs only[go_sem,jY,gLa,gLz,gLs];refine qQf pl123 ((gg _ kS (o:=20) (m:=44) (n:=4) (by omega) (by omega) (by omega)).mono ?_);rintro _ _ ⟨rfl,rfl⟩;refine⟨fun _=>Ext.refl _,?_⟩;simp -implicitDefEqProofs only[go_sem,jY,gLa,gLz,gLs];refine qQf pl123 ((gg _ kS (o:=24) (m:=40) (n:=4) (by omega) (by omega) (by omega)).mono ?_);rintro _ _ ⟨rfl,rfl⟩;refine⟨fun _=>Ext.refl _,?_⟩;simp -implicitDefEqProofs only[go_sem,jY,jG,gLa,gLz,gLs,bs,q5];exact⟨_,rfl,k6,f6,k7⟩
  ·refine qQf pl123 ((gg _ kS (o:=8) (m:=56) (n:=7) (by omega) (by omega) (by omega)).mono ?_);rintro _ _ ⟨rfl,rfl⟩;refine⟨fun _=>Ext.refl _,?_⟩
   simp -implicitDefEqProofs only[go_sem,jY,gLa,gLz,gLs];refine qQf pl123 ((gg _ kS (o:=16) (m:=48) (n:=4) (by omega) (by omega) (by omega)).mono ?_);rintro _ _ ⟨rfl,rfl⟩;refine⟨fun _=>Ext.refl _,?_⟩;simp -implicitDefEqProofs only[go_sem,jY,gLa,gLz,gLs];refine qQf pl123 ((gg _ kS (o:=20) (m:=44) (n:=4) (by omega) (by omega) (by omega)).mono ?_);rintro _ _ ⟨rfl,rfl⟩;refine⟨fun _=>Ext.refl _,?_⟩;simp -implicitDefEqProofs only[go_sem,jY,gLa,gLz,gLs];refine qQf pl123 ((gg _ kS (o:=24) (m:=40) (n:=4) (by omega) (by omega) (by omega)).mono ?_);rintro _ _ ⟨rfl,rfl⟩;refine⟨fun _=>Ext.refl _,?_⟩;simp -implicitDefEqProofs only[go_sem,jY,jG,gLa,gLz,gLs,bs,q5];exact⟨_,rfl,k6,f6,k7⟩
end A
end
section
open Go.Proofs
namespace A
open Aud
abbrev rc00:Rc:=⟨0,0,0,0,0,0,z32⟩
theorem rcZero:#[.int .i64 0,.int .i64 0,.int .i64 0,.int .i64 0,.int .i64 0,.int .i64 0]++bl (zV 32 0)=(rcC rc00).toArray:=by kernel_rfl
theorem bldRc0:bldO prog 80 []=some (.agg (rcC rc00).toArray):=by
 rw[qJw zero80 places80 (c:=(rcC rc00).toArray) (by kernel_rfl)];rfl
theorem cutV_lo (h:l<cap):cutV 1 (some ⟨b,o,none⟩) cap l m=.slice (some ⟨b,o+l,none⟩) (m - l) (cap - l):=by
 unfold cutV;rw[if_neg (by omega)]
 cases l <;> simp[Addr.add]
def ptrs (b:Nat):Array Value:=#[pt b 0,pt b 1,pt b 2,pt b 3,pt b 4,pt b 5]
theorem bldPtrs (b:Nat):bldO prog 308 [(0,pt b 0),(1,pt b 1),(2,pt b 2),(3,pt b 3),(4,pt b 4),(5,pt b 5)]=some (.agg (ptrs b)):=by
 unfold bldO;rw[zero308,places308,arr308];simp only[qV,sz240];have s:∀ (i:Nat) (a r:List Value) (u:Value) (rest:List (Nat × Value)),a.length=i→Instr.fill (fun i=>some (i*1,1)) (a++u::r).toArray ((i,pt b i)::rest)=Instr.fill (fun i=>some (i*1,1)) (a++pt b i::r).toArray rest:=fun i a r u rest ha=>qZw rfl (by rw[ha,jU]) rfl;have n:∀ k,zV (k+1) (Value.pointer none)=.pointer none::zV k (.pointer none):=fun k=>rfl;have g0:=s 0 [] (zV 5 (.pointer none)) (.pointer none) [(1,pt b 1),(2,pt b 2),(3,pt b 3),(4,pt b 4),(5,pt b 5)] rfl;have g1:=s 1 [pt b 0] (zV 4 (.pointer none)) (.pointer none) [(2,pt b 2),(3,pt b 3),(4,pt b 4),(5,pt b 5)] rfl;have g2:=s 2 [pt b 0,pt b 1] (zV 3 (.pointer none)) (.pointer none) [(3,pt b 3),(4,pt b 4),(5,pt b 5)] rfl;have g3:=s 3 [pt b 0,pt b 1,pt b 2] (zV 2 (.pointer none)) (.pointer none) [(4,pt b 4),(5,pt b 5)] rfl;have g4:=s 4 [pt b 0,pt b 1,pt b 2,pt b 3] (zV 1 (.pointer none)) (.pointer none) [(5,pt b 5)] rfl;have g5:=s 5 [pt b 0,pt b 1,pt b 2,pt b 3,pt b 4] [] (.pointer none) [] rfl;rw[qZf]at g5;exact congrArg (Option.map Value.agg) (((((g0.trans g1).trans g2).trans g3).trans g4).trans g5)
theorem part_ptrs (b:Nat)(h:i<6):partO prog 240 (ptrs b) i=some (pt b i):=by
 rw[qKd agg240]
 match i,h with
 | 0,_=>rfl
 | 1,_=>rfl
 | 2,_=>rfl
 | 3,_=>rfl
 | 4,_=>rfl
 | 5,_=>rfl
def rcI (l:Bs)(i:Nat):List Value:=(zX i).map (fun j=>yL .i64 (nat4 l (4*j):Nat))++(zV (6 - i) (.int .i64 0)++z32.map u8)
theorem rcI_step (l:Bs)(h:i<6):(zX i).map (fun j=>yL .i64 (nat4 l (4*j):Nat))++yL .i64 (nat4 l (4*i):Nat)::(zV (5 - i) (.int .i64 0)++z32.map u8)=rcI l (i+1):=by
 unfold rcI;rw[List.range_succ,List.map_append,List.append_assoc,show 6 - (i+1)=5 - i by omega];rfl
theorem rcI_at (l:Bs)(h:i<6):rcI l i=(zX i).map (fun j=>yL .i64 (nat4 l (4*j):Nat))++yL .i64 0::(zV (5 - i) (.int .i64 0)++z32.map u8):=by
 unfold rcI;rw[show 6 - i=(5 - i)+1 by omega,List.replicate_succ];rfl
def rdI (u:World)(sv:Value)(rb tb:Nat)(l:Bs)(m:Nat)(vs:List Value)(w:World):Prop :=
 ∃ i,i≤6∧m=6 - i∧vs=[sv,pt rb 0,.int .i64 0,pt tb 0,.agg (ptrs tb),.int .i64 (i:Nat)]∧w.heap[tb]?=some (.cells (rcI l i).toArray 80 (0,0))∧w.heap[rb]?=some (.cells (rcC rc00).toArray 80 (0,0))∧No u w
def RecQ (w0:World)(r:Option Rc)(v:Value)(w':World):Prop:=No w0 w'∧match r with
 | none=>v=.tuple #[.agg (rcC rc00).toArray,.int .i64 150]
 | some r=>v=.tuple #[.agg (rcC r).toArray,.int .i64 0]
theorem rdecode (w0:World){l:Bs}(hp:By w0 p l)(hl:l.length≤2 ^ 40):Fn prog 232 #[p] w0 (RecQ w0 (decR l)):=by
 obtain⟨a,cap,rfl,hcap⟩:=hp.slice;refine go232 (by simp) ?_;obtain⟨W,hW,f1,k1,s1⟩:=qQl w0 (rcC rc00).toArray 80
 have ret:∀ (w:World) (r:Rc), No w0 w→w.heap[w0.heap.size]?=some (.cells (rcC rc00).toArray 80 (0, 0))→r.sum.length=32 →
   wrO prog 80 w w0.heap.size 0 (.agg (rcC r).toArray)=some (put w w0.heap.size (.cells (rcC r).toArray 80 (0,0)))∧rdO prog 80 (put w w0.heap.size (.cells (rcC r).toArray 80 (0,0))) w0.heap.size 0=some (.agg (rcC r).toArray)∧No w0 (put w w0.heap.size (.cells (rcC r).toArray 80 (0,0))):=fun w r f k h5 =>
  ⟨qQr (by simp[qXh h5];exact sz80) k (by simp[qXh h5,qXh (r:=rc00) (by simp)]) (by simpa using qJp r),rd_all agg80 (by simp[qXh h5];exact sz80) (qQd (o:=.cells (rcC r).toArray 80 (0,0)) k),f.put (b:=w0.heap.size) _ fun h=>absurd h (Nat.lt_irrefl _)⟩
 by_cases h56:l.length=56
 case neg =>
  have n1:((l.length:Int) != 56)=true:=by rw[show ((l.length:Int) != 56)=decide (l.length≠56) from natne _ 56];exact decide_eq_true h56
  obtain⟨q1,q2,q3⟩:=ret W rc00 f1 k1 (by simp);have e:decR l=none:=by unfold decR;rw[if_neg fun h=>h56 h.1]
  rw[e];simp -implicitDefEqProofs only[go_sem,jY,gLa,gLz,jH,qQk,Tryz.f232,rcZero,hW,n1,bldRc0,q1,q2];exact⟨q3,rfl⟩
 have n1:((l.length:Int) != 56)=false:=by rw[h56];rfl
 obtain⟨b,o,cap',e,_⟩:=hp.pos (by omega);cases e;obtain⟨W2,hW2,f2,k2,s2⟩:=qQl W (rcC rc00).toArray 80;have bp:=bldPtrs W.heap.size;simp -implicitDefEqProofs only[go_sem,jY,gLa,gLz,jH,zB,qQk,Tryz.f232,rcZero,hW,n1,hW2,bp];have hrt:w0.heap.size<W.heap.size:=qQh k1;generalize htb:W.heap.size=tb at *;refine loopD [0,2,3,4,18,19] (rdI w0 (.slice (some ⟨b,o,none⟩) l.length cap) w0.heap.size tb l) 6 ⟨0,by omega,rfl,rfl,k2,f2.at k1 id,f1.trans f2⟩ ?_;rintro m vs w g ⟨i,hi,rfl,rfl,kt,kr,fw⟩
 by_cases hlt:i<6
 ·have d1:=dTo ((i:Int)<6)
  have y1:=iBd (i:=i) (n:=6);have pp:=part_ptrs tb hlt;have c1:IntKind.i64.wrap (4*(i:Int))=((4*i:Nat):Int):=i64mul (a:=4) (by omega);have sl:qQs prog 22 (.slice (some ⟨b,o,none⟩) l.length cap) (some (.int .i64 ((4*i:Nat):Int))) none none=some (.slice (some ⟨b,o+4*i,none⟩) (l.length - 4*i) (cap - 4*i)):=(slc_lo slc22 arr22 sz5 (l:=4*i) (n:=l.length) (by omega) hcap).trans (by rw[cutV_lo (by omega)]);obtain⟨b',o',e,r⟩:=By.four (hp.fr0 fw.drew) (k:=4*i) (by omega);cases e;have r0:rdO prog 5 w.drew b (o+4*i)=some (.int .u8 ((l.getD (4*i) 0).toNat:Int)):=r 0 (by omega);have r1:rdO prog 5 w.drew b (o+4*i+1)=some (.int .u8 ((l.getD (4*i+1) 0).toNat:Int)):=by rw[yO];exact r 1 (by omega)
  have r2:rdO prog 5 w.drew b (o+4*i+2)=some (.int .u8 ((l.getD (4*i+2) 0).toNat:Int)):=by rw[yO];exact r 2 (by omega)
  have r3:rdO prog 5 w.drew b (o+4*i+3)=some (.int .u8 ((l.getD (4*i+3) 0).toNat:Int)):=by rw[yO];exact r 3 (by omega)
  have key:_=((nat4 l (4*i):Nat):Int):=(or4 (x:=l.getD (4*i) 0) (y:=l.getD (4*i+1) 0) (z:=l.getD (4*i+2) 0) (u:=l.getD (4*i+3) 0)).trans (congrArg _ (by
   unfold nat4;rw[le4 (by rw[lDr];omega)]
   simp only[gDq,yI,Nat.add_zero]))
  have e0:=ext8i (l.getD (4*i) 0);have e1:=ext8i (l.getD (4*i+1) 0);have e2:=ext8i (l.getD (4*i+2) 0);have e3:=ext8i (l.getD (4*i+3) 0);generalize ((l.getD (4*i) 0).toNat:Int)=x0 at *;generalize ((l.getD (4*i+1) 0).toNat:Int)=x1 at *;generalize ((l.getD (4*i+2) 0).toNat:Int)=x2 at *;generalize ((l.getD (4*i+3) 0).toNat:Int)=x3 at *
  obtain⟨a1,g1⟩:∃ a,shlK .i64 x1 8=a:=⟨_,rfl⟩
  rw[g1]at key
  obtain⟨b1,g2⟩:∃ a,orK .i64 x0 a1=a:=⟨_,rfl⟩
  rw[g2]at key
  obtain⟨a2,g3⟩:∃ a,shlK .i64 x2 16=a:=⟨_,rfl⟩
  rw[g3]at key
  obtain⟨b2,g4⟩:∃ a,orK .i64 b1 a2=a:=⟨_,rfl⟩
  rw[g4]at key
  obtain⟨a3,g5⟩:∃ a,shlK .i64 x3 24=a:=⟨_,rfl⟩
  rw[g5]at key;have t1:¬ ((8:Int)<0):=by decide
  have t2:¬ ((16:Int)<0):=by decide
  have t3:¬ ((24:Int)<0):=by decide
  have i0:(0:Int)≤0∧(0:Int)<((l.length - 4*i:Nat):Int):=by omega
  have i1:(0:Int)≤1∧(1:Int)<((l.length - 4*i:Nat):Int):=by omega
  have i2:(0:Int)≤2∧(2:Int)<((l.length - 4*i:Nat):Int):=by omega
  have i3:(0:Int)≤3∧(3:Int)<((l.length - 4*i:Nat):Int):=by omega
  have c2:=iSu (i:=i)
  have kt':w.drew.heap[tb]?=some (.cells ((zX i).map (fun j=>yL .i64 (nat4 l (4*j):Nat))++yL .i64 0::(zV (5 - i) (.int .i64 0)++z32.map u8)).toArray 80 (0,0)):=by
   rw[← rcI_at l hlt];exact kt
  have q:=wr_one (P:=prog) (t:=3) (v:=.int .i64 (nat4 l (4*i):Nat)) sz3 rfl kt' (o:=i) (by simp);rw[rcI_step l hlt]at q;have kn:=qQd (o:=.cells (rcI l (i+1)).toArray 80 (0,0)) kt';have krn:=qQi (w:=w.drew) (b:=tb) (o:=.cells (rcI l (i+1)).toArray 80 (0,0)) (show w.drew.heap[w0.heap.size]?=_ from kr) (by omega);have fn:=fw.drew.put (b:=tb) (.cells (rcI l (i+1)).toArray 80 (0,0)) fun h=>by omega
  simp -implicitDefEqProofs only[go_sem,jY,d1,y1,and_self,if_true,iTn,jU,pp,c1,sl,i0,i1,i2,i3,Int.reduceToNat,r0,r1,r2,r3,e0,e1,e2,e3,t1,t2,t3,if_false,g1,g2,g3,g4,g5,key,nilOk,q,c2];exact⟨6 - (i+1),by omega,i+1,by omega,rfl,rfl,kn,krn,fn⟩
 ·have d1:=dFo ((i:Int)<6)
  have e:i=6:=by omega
  subst e;have ps:=pt_slice (P:=prog) (o:=6) arr75 sz5 (by omega) tb;have s24:qQs prog 22 (.slice (some ⟨b,o,none⟩) l.length cap) (some (.int .i64 24)) none none=some (cutV 1 (some ⟨b,o,none⟩) cap 24 l.length):=slc_lo slc22 arr22 sz5 (l:=24) (n:=l.length) (by omega) hcap;have c24:=By.slc (hp.fr0 fw.drew) (l:=24) (m:=l.length) (by omega) (xT _);rw[List.take_of_length_le (by rw[lDr];omega)]at c24
  have e6:rcI l 6=[.int .i64 (nat4 l 0:Nat),.int .i64 (nat4 l 4:Nat),.int .i64 (nat4 l 8:Nat),.int .i64 (nat4 l 12:Nat),.int .i64 (nat4 l 16:Nat),.int .i64 (nat4 l 20:Nat)]++z32.map u8++[]:=by
   rw[List.append_nil];rfl
  have kt':w.drew.heap[tb]?=some (.cells ([yL .i64 (nat4 l 0:Nat),.int .i64 (nat4 l 4:Nat),.int .i64 (nat4 l 8:Nat),.int .i64 (nat4 l 12:Nat),.int .i64 (nat4 l 16:Nat),.int .i64 (nat4 l 20:Nat)]++z32.map u8++[]).toArray 80 (0,0)):=by
   rw[← e6];exact kt
  have hc:=copy_mid (P:=prog) (ts:=#[22,22]) (t:=22) rfl slc22 sz5 (b:=tb) (o:=6) (d:=z32) rfl (n:=32) (by simp) kt' c24 (by rw[lDr];omega)
  have er:[yL .i64 (nat4 l 0:Nat),.int .i64 (nat4 l 4:Nat),.int .i64 (nat4 l 8:Nat),.int .i64 (nat4 l 12:Nat),.int .i64 (nat4 l 16:Nat),.int .i64 (nat4 l 20:Nat)]++((l.drop 24).take 32).map u8++[]=rcC (rcR l):=by
   rw[List.append_nil];rfl
  rw[er]at hc;have h32:(rcR l).sum.length=32:=by show ((l.drop 24).take 32).length=32;rw[lTk,lDr];omega
  have k3:=qQd (o:=.cells (rcC (rcR l)).toArray 80 (0,0)) kt';have kr3:=qQi (w:=w.drew) (b:=tb) (o:=.cells (rcC (rcR l)).toArray 80 (0,0)) (show w.drew.heap[w0.heap.size]?=_ from kr) (by omega);have f3:=fw.drew.put (b:=tb) (.cells (rcC (rcR l)).toArray 80 (0,0)) fun h=>by omega
  simp -implicitDefEqProofs only[go_sem,jY,zB,d1,ps,s24];refine qQj ⟨_,_,hc,?_⟩;generalize put w.drew tb (.cells (rcC (rcR l)).toArray 80 (0,0))=w3 at *;have ld:=qQo (P:=prog) (t:=80) agg80 sz80 k3 (by simp[qXh h32]);have b4:∀ k,nat4 l k<2 ^ 32:=fun k=>le_small (b:=(l.drop k).take 4) (n:=4) (by rw[lTk];omega);simp -implicitDefEqProofs only[go_sem,jY,ld];refine qQa pl236 ((right w3 (rcR l) h32 (b4 _) (b4 _)).mono ?_);rintro _ w4 ⟨rfl,f4⟩
  by_cases hR:(rcR l).right
  ·obtain⟨q1,q2,q3⟩:=ret w4 (rcR l) (f3.trans f4) (f4.at kr3 id) h32
   have ld4:=qQo (P:=prog) (t:=80) agg80 sz80 (f4.at k3 id) (by simp[qXh h32]);have e:decR l=some (rcR l):=if_pos ⟨h56,hR⟩;rw[decide_eq_true hR,e];simp -implicitDefEqProofs only[go_sem,jY,yG,ld4,q1,q2];exact⟨q3,rfl⟩
  ·obtain⟨q1,q2,q3⟩:=ret w4 rc00 (f3.trans f4) (f4.at kr3 id) (by simp)
   have e:decR l=none:=if_neg fun h=>hR h.2;rw[decide_eq_false hR,e];simp -implicitDefEqProofs only[go_sem,jY,xG,bldRc0,q1,q2];exact⟨q3,rfl⟩
end A
end
section
open Go.Proofs
namespace A
open Aud
theorem cutV_hi' (a:Option Addr)(cap m:Nat):cutV 1 a cap 0 m=.slice a m cap:=by
 unfold cutV
 cases a <;> simp[Addr.add]
theorem trimRight (w:World)(hp:By w (.slice a bs.length cap) bs)(hl:bs.length<2 ^ 62) :
  Fn prog 218 #[.slice a bs.length cap,.int .u8 0] w fun v w'=>w'=w∧∃ m,m≤bs.length∧v=.slice a m cap∧zer (bs.drop m)=true:=by
 have hcap:bs.length≤cap:=by obtain⟨a',c',e,h⟩:=hp.slice;cases e;exact h
 refine go218 (by simp) ?_;simp -implicitDefEqProofs only[go_sem,zB,Tryz.f218];refine loopD [0,1] (fun m vs w'=>m≤bs.length∧zer (bs.drop m)=true∧vs=[.slice a m cap,.int .u8 0]∧w'=w) bs.length ⟨xT _,by rw[zC (xT _)];rfl,rfl,rfl⟩ ?_;rintro m vs w1 g ⟨hm,hz,rfl,rfl⟩
 cases m with
 | zero =>
  have d1:decide (((0:Nat):Int) > 0)=false:=rfl;simp -implicitDefEqProofs only[go_sem,jY,gLa,gLz,gLs,qQt,d1];exact⟨0,Nat.zero_le _,rfl,hz⟩
 | succ m =>
  have d1:decide (((m+1:Nat):Int) > 0)=true:=by simp
  have c1:IntKind.i64.wrap (((m+1:Nat):Int) - 1)=(m:Int):=by rw[qQm (by omega) (by omega)];omega
  obtain⟨_,cap',e,_,hat⟩:=hp.at;cases e;obtain⟨b,o,rfl,hb⟩:=hat m (by omega);have i1:=iBd (i:=m) (n:=m+1);have r1:rdO prog 5 w1 b (o+m)=some (u8 bs[m]):=rd_rc agg5 hb;have e0:((bs[m].toNat:Int) == 0)=(bs[m] == 0):=u8_beq bs[m] 0;have sl:qQs prog 22 (.slice (some ⟨b,o,none⟩) (m+1) cap) none (some (.int .i64 (m:Nat))) none=some (.slice (some ⟨b,o,none⟩) m cap):=(slc_hi slc22 arr22 sz5 (l:=m) (n:=m+1) (by omega) (by omega)).trans (by rw[cutV_hi'])
  cases hx:bs[m] == 0 with
  | true =>
   rw[hx]at e0;simp -implicitDefEqProofs only[go_sem,jY,gLa,gLz,gLs,bSe,d1,c1,i1,and_self,if_true,iTn,jU,r1,e0,sl];refine⟨m,by omega,by omega,?_,rfl,trivial⟩;rw[yS (by omega)];unfold zer at hz ⊢;rw[yD,hx,hz];rfl
  | false =>
   rw[hx]at e0;simp -implicitDefEqProofs only[go_sem,jY,gLa,gLz,gLs,bSe,d1,c1,i1,and_self,if_true,iTn,jU,r1,e0];exact⟨m+1,hm,rfl,hz⟩
theorem trimLeft (w:World)(hp:By w (.slice a bs.length cap) bs)(hl:bs.length<2 ^ 62) :
  Fn prog 217 #[.slice a bs.length cap,.int .u8 0] w fun v w'=>w'=w∧∃ a' n c,v=.slice a' n c∧decide (0<n)=!zer bs:=by
 have hcap:bs.length≤cap:=by obtain⟨a',c',e,h⟩:=hp.slice;cases e;exact h
 refine go217 (by simp) ?_;simp -implicitDefEqProofs only[go_sem,zB,Tryz.f217]
 have key:∀ j,j≤bs.length→zer (bs.take j)=true→zer bs=zer (bs.drop j):=fun j hj hz=>by
  conv=>lhs;rw[← yE j bs]
  unfold zer at hz ⊢;rw[yN,hz];rfl
 refine loopD [0,1] (fun m vs w'=>∃ j a',j+m=bs.length∧zer (bs.take j)=true∧vs=[.slice a' m (cap - j),.int .u8 0]∧(∀ b o,a=some ⟨b,o,none⟩→0<m→a'=some ⟨b,o+j,none⟩)∧w'=w) bs.length ⟨0,a,by omega,rfl,rfl,fun b o h _=>h,rfl⟩ ?_;rintro m vs w1 g ⟨j,a',hj,hz,rfl,ha,rfl⟩
 cases m with
 | zero =>
  have d1:decide (((0:Nat):Int) > 0)=false:=rfl;have d2:(((0:Nat):Int) == 0)=true:=rfl;have hz':zer bs=true:=by rw[key j (by omega) hz,zC (by omega)];rfl
  simp -implicitDefEqProofs only[go_sem,jY,gLa,gLz,gLs,qQt,d1,d2];exact⟨none,0,0,rfl,by rw[hz'];rfl⟩
 | succ m =>
  have d1:decide (((m+1:Nat):Int) > 0)=true:=by simp
  obtain⟨_,cap',e,_,hat⟩:=hp.at;cases e;obtain⟨b,o,rfl,hb⟩:=hat j (by omega);have ha:=ha b o rfl (by omega);subst ha;have i1:(0:Int)≤0∧(0:Int)<((m+1:Nat):Int):=by omega
  have r1:rdO prog 5 w1 b (o+j)=some (u8 bs[j]):=rd_rc agg5 hb;have e0:((bs[j].toNat:Int) == 0)=(bs[j] == 0):=u8_beq bs[j] 0;have hd:bs.drop j=bs[j]::bs.drop (j+1):=yS (by omega)
  cases hx:bs[j] == 0 with
  | true =>
   rw[hx]at e0
   obtain⟨a2,sl,h2⟩:∃ a2,qQs prog 22 (.slice (some ⟨b,o+j,none⟩) (m+1) (cap - j)) (some (.int .i64 1)) none none=some (.slice a2 m (cap - (j+1)))∧(0<m→a2=some ⟨b,o+(j+1),none⟩):=by
    have:=slc_lo (P:=prog) (t:=22) slc22 arr22 sz5 (a:=some ⟨b,o+j,none⟩) (l:=1) (n:=m+1) (cap:=cap - j) (by omega) (by omega);refine⟨_,this.trans (by unfold cutV;rw[show m+1 - 1=m by omega,show cap - j - 1=cap - (j+1) by omega]),fun h=>?_⟩;rw[if_neg (by omega)];simp[Addr.add,yO]
   simp -implicitDefEqProofs only[go_sem,jY,gLa,gLz,gLs,i1,and_self,if_true,r1,e0,sl];refine⟨m,by omega,j+1,a2,by omega,?_,rfl,?_,trivial⟩
   ·rw[tSg (by omega)]
    unfold zer at hz ⊢;rw[yN,hz,yD,hx];rfl
   ·intro b' o' he h
    cases he;exact h2 h
  | false =>
   rw[hx]at e0;have d2:(((m+1:Nat):Int) == 0)=false:=by rw[bFn];omega
   have hz':zer bs=false:=by
    rw[key j (by omega) hz,hd];unfold zer;rw[yD,hx];rfl
   simp -implicitDefEqProofs only[go_sem,jY,gLa,gLz,gLs,i1,and_self,if_true,r1,e0,d2];exact⟨_,m+1,_,rfl,by rw[hz'];simp⟩
theorem trim (w:World)(hp:By w p bs)(hl:bs.length<2 ^ 62) :
  Fn prog 216 #[p,.string ⟨#[0]⟩] w fun v w'=>No w w'∧∃ a n c,v=.slice a n c∧decide (0<n)=!zer bs:=by
 obtain⟨a,cap,rfl,hcap⟩:=hp.slice;refine go216 (by simp) ?_
 by_cases h0:bs.length=0
 ·have d1:((bs.length:Int) == 0)=true:=by rw[h0];rfl
  simp -implicitDefEqProofs only[go_sem,jY,gLa,gLz,zB,Tryz.f216,d1];refine⟨Fr.refl _ _,none,0,0,rfl,?_⟩;rw[List.eq_nil_of_length_eq_zero h0];rfl
 have d1:((bs.length:Int) == 0)=false:=by rw[bFn];omega
 have s1:((⟨#[0]⟩:ByteArray).toList == (⟨#[]⟩:ByteArray).toList)=false:=by rw[ByteArray.toList_eq,ByteArray.toList_eq];rfl
 have s2:(((⟨#[0]⟩:ByteArray).size:Int) == 1)=true:=rfl;have s3:(⟨#[0]⟩:ByteArray)[0]?=some 0:=rfl;have s4:decide (((0:UInt8).toNat:Int)<128)=true:=rfl;have s5:(0:Int)≤0:=by decide
 simp -implicitDefEqProofs only[go_sem,jY,gLa,gLz,gLs,bSe,zB,Tryz.f216,d1,s1,s2,s3,s4,s5,and_self,if_true];refine qQa pl218 ((trimRight w.drew (a:=a) (cap:=cap) (bs:=bs) hp hl).mono ?_);rintro _ _ ⟨rfl,m,hm,rfl,hz⟩;have hm':(bs.take m).length=m:=by rw[lTk];omega
 have hp2:By w.drew (.slice a (bs.take m).length cap) (bs.take m):=by
  have:=By.slc hp (l:=0) (m:=m) (by omega) hm;rw[cutV_hi',jN,Nat.sub_zero]at this;rw[hm'];exact this
 simp -implicitDefEqProofs only[go_sem,jY,s3,s5];have hq:=trimLeft w.drew (a:=a) (cap:=cap) (bs:=bs.take m) hp2 (by omega);rw[hm']at hq;refine qQa pl217 (hq.mono ?_);rintro _ _ ⟨rfl,a',n,c,rfl,hn⟩;simp -implicitDefEqProofs only[go_sem];refine⟨(Fr.refl _ _).drew,a',n,c,rfl,?_⟩;rw[hn]
 congr 1
 conv=>rhs;rw[← yE m bs]
 unfold zer at hz ⊢;rw[yN,hz,Bool.and_true]
end A
end
end Go.V
