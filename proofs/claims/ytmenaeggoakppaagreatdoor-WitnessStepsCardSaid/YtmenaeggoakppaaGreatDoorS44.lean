/-
 Helpers: LawE, LawF, LawG, LawH.
-/
import Derived.Test.YtmenaeggoakppaaGreatDoorS43
set_option linter.all false
section
namespace Go.V
open Go.Proofs Sha
set_option maxRecDepth 100000
def lfI (w0:World) (bv:Value) (q:Nat × Nat × Nat) (t:Bs) (n:Nat) (vs:List Value) (w:World):Prop :=
 ∃ (i:Nat),vs=[bv,tv q (t.length+16),.int .i64 (t.length:Nat),.int .i64 (i:Nat)]∧t.length≤i∧i≤t.length+16∧n=t.length+16 - i∧w=w0
theorem left (w0 : World) {q : Nat × Nat × Nat} {t : Bs} (h : By w0 (tv q (t.length + 16)) (t ++ T16)) {bv : Value} (hb : By w0 bv t) (hl : t.length ≤ 2 ^ 50) :
    Fn Tryz.prog 75 #[bv,tv q (t.length + 16)] w0 fun r w' => r = .bool true ∧ No w0 w' := by
 refine Tryz.go75 (by simp) ?_
 have hpre:=h.pre
 have hcap:t.length+16≤q.2.2:=by
  obtain⟨_,a,cap,he,hc,_⟩:=h
  simp only[tv,Value.slice.injEq] at he
  obtain⟨_,_,rfl⟩:=he
  rw[List.length_append] at hc
  simpa using hc
 obtain⟨b,o,cap⟩:=q
 have e:=cutV_zero (sz:=1) (q:=(b,o,cap)) (m:=t.length) (show 0<cap by simp only at hcap;omega)
 have p1:=slc_hi (P:=Tryz.prog) Tryz.slc25 Tryz.arr25 Tryz.sz5 (a:=some (⟨b,o,Option.none⟩:Addr)) (n:=t.length+16) (cap:=cap) (l:=t.length) (by omega) hcap
 rw[e] at p1
 have c0:IntKind.i64.wrap (((t.length+16:Nat):Int) - 16)=((t.length:Nat):Int):=by
  have:=i64sub (a:=t.length+16) (b:=16) (by omega) (by omega)
  rw[Nat.add_sub_cancel] at this
  exact this
 unfold tv at *
 simp -implicitDefEqProofs only[go_sem,Nat.reduceEqDiff,Nat.reduceBEq,Nat.reduceAdd,gLa,gLz,gLs,Tryz.f75,c0]
 refine loopD [0,1,5,6] (lfI w0 bv (b,o,cap) t) 16 ⟨t.length,rfl,Nat.le_refl _,by omega,by omega,rfl⟩ ?_
 rintro _ vs w g ⟨i,rfl,h1,h2,rfl,rfl⟩
 by_cases hlt:i<t.length+16
 ·have d1:decide ((i:Int)<((t.length+16:Nat):Int))=true:=by simp;omega
  have c1:IntKind.i64.wrap ((i:Int)+1)=((i+1:Nat):Int):=i64add (b:=1) (by omega)
  have y1:(0:Int)≤(i:Int)∧(i:Int)<((t.length+16:Nat):Int):=by omega
  have r:=By.get (P:=Tryz.prog) h Tryz.agg5 (i:=i) (by simp;omega)
  have hx:(t++T16).getD i 0=2:=by
   rw[List.getD_eq_getElem?_getD,List.getElem?_append_right h1,List.getElem?_replicate,if_pos (by omega)];rfl
  rw[hx] at r
  have d2:(((2:Byte).toNat:Int) != 2)=false:=rfl
  unfold tv
  simp -implicitDefEqProofs only[go_sem,Nat.reduceEqDiff,Nat.reduceBEq,Nat.reduceAdd,gLa,gLz,gLs,d1,decide_true,y1,and_self,Int.toNat_natCast,Nat.mul_one,r,d2,c1]
  exact⟨t.length+16 - (i+1),by omega,i+1,rfl,by omega,by omega,rfl,rfl⟩
 ·have d1:decide ((i:Int)<((t.length+16:Nat):Int))=false:=by simp;omega
  unfold tv
  simp -implicitDefEqProofs only[go_sem,Nat.reduceEqDiff,Nat.reduceBEq,Nat.reduceAdd,gLa,gLz,gLs,d1,p1]
  refine contL_call Tryz.pl26 ((same w hb hpre hl).mono ?_)
  rintro _ w2 ⟨rfl,f2⟩
  have d3:decide (t=t)=true:=by simp
  rw[d3]
  simp -implicitDefEqProofs only[go_sem,Nat.reduceEqDiff,Nat.reduceBEq,Nat.reduceAdd,gLa,gLz,gLs]
  exact f2
def klI (w0:World) (kv:Value) (q:Nat × Nat × Nat) (t:List Bs) (n:Nat) (vs:List Value) (w:World):Prop :=
 ∃ (i:Nat),vs=[kv,tv q (t.length+1),.int .i64 (i:Nat)]∧i≤t.length∧n=t.length - i∧No w0 w
set_option maxHeartbeats 1000000 in
theorem keysLeft (w0 : World) {q : Nat × Nat × Nat} {t : List Bs} (h : RdD w0 (tv q (t.length + 1)) (t ++ [K9])) {kv : Value} (hk : RdD w0 kv t) (hl : t.length ≤ 2 ^ 50) :
    Fn Tryz.prog 76 #[kv,tv q (t.length + 1)] w0 fun r w' => r = .bool true ∧ No w0 w' := by
 refine Tryz.go76 (by simp) ?_
 obtain⟨ka,kc,rfl,hkc⟩:=hk.slice
 obtain⟨b,o,cap⟩:=q
 have hl9:(t++[K9]).length=t.length+1:=by simp
 have c0:IntKind.i64.wrap (((t.length+1:Nat):Int) - 1)=((t.length:Nat):Int):=by
  have:=i64sub (a:=t.length+1) (b:=1) (by omega) (by omega)
  rw[Nat.add_sub_cancel] at this
  exact this
 unfold tv at *
 simp -implicitDefEqProofs only[go_sem,Nat.reduceEqDiff,Nat.reduceBEq,Nat.reduceAdd,gLa,gLz,gLs,Tryz.f76]
 refine loopD [0,1,5] (klI w0 (.slice ka t.length kc) (b,o,cap) t) t.length ⟨0,rfl,by omega,rfl,Fr.refl _ _⟩ ?_
 rintro _ vs w g ⟨i,rfl,hi,rfl,f⟩
 have h3:=h.fr0 f
 by_cases hlt:i<t.length
 ·have d1:decide ((i:Int)<((t.length:Nat):Int))=true:=by simp;omega
  have c1:IntKind.i64.wrap ((i:Int)+1)=((i+1:Nat):Int):=i64add (b:=1) (by omega)
  have y1:(0:Int)≤(i:Int)∧(i:Int)<((t.length+1:Nat):Int):=by omega
  have y2:(0:Int)≤(i:Int)∧(i:Int)<((t.length:Nat):Int):=by omega
  have r1:=h3.get (P:=Tryz.prog) Tryz.agg34 Tryz.sz34 (i:=i) (by omega)
  have hx:(t++[K9]).getD i []=t.getD i []:=by rw[List.getD_eq_getElem?_getD,List.getElem?_append_left hlt,List.getD_eq_getElem?_getD]
  rw[hx] at r1
  have hk3:=hk.fr0 f
  obtain⟨b2,o2,cap2,he,_,_⟩:=hk3.pos (by omega)
  cases he
  have r2:=hk3.get (P:=Tryz.prog) Tryz.agg34 Tryz.sz34 hlt
  have hd:=hk.1.getD hlt
  have r1d:rdO Tryz.prog 34 w.drew b (o+i*32)=_:=r1
  have r2d:rdO Tryz.prog 34 w.drew b2 (o2+i*32)=_:=r2
  have eq:=eqKey hd hd
  have d2:(t.getD i [] == t.getD i [])=true:=by simp
  unfold tv
  simp -implicitDefEqProofs only[go_sem,Nat.reduceEqDiff,Nat.reduceBEq,Nat.reduceAdd,gLa,gLz,gLs,c0,d1,decide_true,y1,y2,and_self,Int.toNat_natCast,r1,r2,r1d,r2d,eq,d2,c1]
  exact⟨t.length - (i+1),by omega,i+1,rfl,by omega,rfl,f.drew⟩
 ·have d1:decide ((i:Int)<((t.length:Nat):Int))=false:=by simp;omega
  obtain rfl:i=t.length:=by omega
  have y1:(0:Int)≤((t.length:Nat):Int)∧((t.length:Nat):Int)<((t.length+1:Nat):Int):=by omega
  have r1:=h3.get (P:=Tryz.prog) Tryz.agg34 Tryz.sz34 (i:=t.length) (by omega)
  have hx:(t++[K9]).getD t.length []=K9:=by rw[List.getD_eq_getElem?_getD,List.getElem?_append_right (Nat.le_refl _),Nat.sub_self];rfl
  rw[hx] at r1
  have eq:=eqKey (a:=K9) (b:=K9) rfl rfl
  have d2:(K9 == K9)=true:=by simp
  unfold tv
  simp -implicitDefEqProofs only[go_sem,Nat.reduceEqDiff,Nat.reduceBEq,Nat.reduceAdd,gLa,gLz,gLs,c0,d1,y1,and_self,Int.toNat_natCast,r1,bldK9,eq,d2]
  exact f
/-- one bit turned -/
def oth (bs:Bs) (at':Nat):Bs:=bs.set (min at' (bs.length - 1)) (bs.getD (min at' (bs.length - 1)) 0 ^^^ 1)
theorem oth_len (bs:Bs) (at':Nat):(oth bs at').length=bs.length:=by simp[oth]
theorem other (w0 : World) {bv : Value} {bs : Bs} (hb : By w0 bv bs) (hl : bs.length ≤ 2 ^ 47) (at' : Nat) (ha : at' < 2 ^ 62) :
    Fn Tryz.prog 13 #[bv,.int .i64 (at' : Nat)] w0 fun v w' => NwB w0 w' v (oth bs at') ∧ No w0 w' := by
 refine Tryz.go13 (by simp) ?_
 simp -implicitDefEqProofs only[go_sem,Nat.reduceEqDiff,Nat.reduceBEq,Nat.reduceAdd,gLa,gLz,gLs,Tryz.f13]
 refine contL_call Tryz.pl22 ((copied w0 hb hl).mono ?_)
 rintro v w2 ⟨n2,f2⟩
 obtain⟨va,vc,rfl⟩:=n2.slice
 by_cases h0:bs.length=0
 ·have d1:decide (((bs.length:Nat):Int) > 0)=false:=by rw[h0];rfl
  simp -implicitDefEqProofs only[go_sem,Nat.reduceEqDiff,Nat.reduceBEq,Nat.reduceAdd,gLa,gLz,gLs,d1]
  have:oth bs at'=bs:=by
   have:bs=[]:=List.eq_nil_of_length_eq_zero h0
   subst this;rfl
  rw[this]
  exact⟨n2,f2⟩
 ·have d1:decide (((bs.length:Nat):Int) > 0)=true:=by simp;omega
  obtain⟨b,o,cap,e,_⟩:=n2.by.pos (by omega)
  cases e
  have c0:IntKind.i64.wrap (((bs.length:Nat):Int) - 1)=((bs.length - 1:Nat):Int):=i64sub (b:=1) (by omega) (by omega)
  have hk:min at' (bs.length - 1)<bs.length:=by omega
  obtain⟨w3,q3,n3,f3⟩:=n2.setB hk (bs.getD (min at' (bs.length - 1)) 0 ^^^ 1)
  have r:=n2.by.get (P:=Tryz.prog) Tryz.agg5 hk
  have x8:=xor8 (bs.getD (min at' (bs.length - 1)) 0) 1
  have x8:xorK .u8 ((bs.getD (min at' (bs.length - 1)) 0).toNat:Int) 1=((bs.getD (min at' (bs.length - 1)) 0 ^^^ 1).toNat:Int):=x8
  have y1:(0:Int)≤((min at' (bs.length - 1):Nat):Int)∧((min at' (bs.length - 1):Nat):Int)<((bs.length:Nat):Int):=by omega
  have ml:minL (.int .i64 (at':Nat)) [.int .i64 ((bs.length - 1:Nat):Int)]=some (.int .i64 ((min at' (bs.length - 1):Nat):Int)):=by
   simp only[minL,if_true]
   split <;> · congr 2;omega
  simp -implicitDefEqProofs only[go_sem,Nat.reduceEqDiff,Nat.reduceBEq,Nat.reduceAdd,gLa,gLz,gLs,d1,c0,ml,y1,and_self,Int.toNat_natCast,Nat.mul_one,r,x8,q3]
  exact⟨n3,f2.trans' f3 fun c hc h=>by have:=(n2.lt (b:=c) (by rw[h];rfl)).1;omega⟩
end Go.V
end
section
namespace Go.V
open Go.Proofs Sha
set_option maxRecDepth 100000
/-- texts in memory, apart from the blocks A -/
def TsA (w:World) (v:Value) (ts:List Bs) (A:Nat→Prop):Prop:=∃ vals:List Value,vals.length=ts.length∧Rd w 1 v ts.length vals∧(∀ b,blockOf v=some b→¬ A b)∧∀ i (h:i<vals.length) (h':i<ts.length),By w vals[i] ts[i]∧(ts[i]≠[]→∀ b,blockOf vals[i]=some b→¬ A b)
theorem TsA.fr {F A:Nat→Prop} {w w':World} {v:Value} {ts:List Bs} (h:TsA w v ts A) (k:Fr F w w') (hf:∀ b,F b→A b):TsA w' v ts A:=by
 obtain⟨vals,h1,h2,h3,h4⟩:=h
 exact⟨vals,h1,h2.fr k fun b hb _ hF=>h3 b hb (hf b hF),h3,fun i a b=>⟨(h4 i a b).1.fr' k fun hn c hc hF=>(h4 i a b).2 hn c hc (hf c hF),(h4 i a b).2⟩⟩
theorem TsA.slice {A:Nat→Prop} {w:World} {v:Value} {ts:List Bs} (h:TsA w v ts A):∃ a cap,v=.slice a ts.length cap:=by
 obtain⟨vals,h1,⟨_,a,cap,rfl,_⟩,_⟩:=h
 exact⟨a,cap,rfl⟩
theorem TsA.at {A:Nat→Prop} {w:World} {v:Value} {ts:List Bs} (h:TsA w v ts A) {i:Nat} (hi:i<ts.length):∃ b o cap tv,v=.slice (some ⟨b,o,Option.none⟩) ts.length cap∧By w tv (ts.getD i [])∧(ts.getD i []≠[]→∀ b,blockOf tv=some b→¬ A b)∧∀ w',No w w'→rdO Tryz.prog 25 w' b (o+i)=some tv:=by
 obtain⟨vals,h1,⟨hl,a,cap,rfl,hc,hat⟩,h3,h4⟩:=h
 obtain⟨b,o,rfl,hat2⟩:=hat (by omega)
 have hiv:i<vals.length:=by omega
 refine⟨b,o,cap,vals[i],rfl,by rw[getD_lt _ hi];exact (h4 i hiv hi).1,by rw[getD_lt _ hi];exact (h4 i hiv hi).2,fun w' k=>?_⟩
 have hr:=hat2 i (by omega)
 rw[List.getElem?_eq_getElem hiv] at hr
 refine rd_rc Tryz.agg25 ?_
 rw[k.rc (rc_lt hr) id,hr]
structure Pl (w0 w:World) (pb:Nat) (kq:Nat × Nat × Nat) (iv av:Value) (qs:List (Nat × Nat × Nat)) (ks ts:List Bs):Prop where
 cell:w.heap[pb]?=some (.cells #[tv kq ks.length,tv kq (ks.length+1),iv,av] 59 (0,0))
 new:w0.heap.size≤pb
 key:NwD w0 w 34 (tv kq (ks.length+1)) (ks++[K9])
 len:qs.length=ts.length
 inn:Nw w0 w 25 1 iv ts.length (List.zipWith (fun q (t:Bs)=>tv q t.length) qs ts)
 all:Nw w0 w 25 1 av ts.length (List.zipWith (fun q (t:Bs)=>tv q (t.length+16)) qs ts)
 txt:∀ i (h:i<qs.length) (h':i<ts.length),NwB w0 w (tv qs[i] (ts[i].length+16)) (ts[i]++T16)
 nd:(pb::kq.1::qs.map (·.1)).Nodup
 ia:∀ b,blockOf iv=some b→b ∉ pb::kq.1::qs.map (·.1)
 aa:∀ b,blockOf av=some b→b ∉ pb::kq.1::qs.map (·.1)
 ii:∀ b,blockOf iv=some b→blockOf av≠some b
theorem Pl.fr0 {w0 w w':World} {pb:Nat} {kq:Nat × Nat × Nat} {iv av:Value} {qs:List (Nat × Nat × Nat)} {ks ts:List Bs} (h:Pl w0 w pb kq iv av qs ks ts) (k:No w w'):Pl w0 w' pb kq iv av qs ks ts :=
 ⟨k.at h.cell id,h.new,h.key.fr0 k,h.len,h.inn.fr0 k,h.all.fr0 k,fun i a b=>(h.txt i a b).fr0 k,h.nd,h.ia,h.aa,h.ii⟩
/-- the blocks that are written over -/
def Pl.W (kq:Nat × Nat × Nat) (qs:List (Nat × Nat × Nat)):Nat→Prop:=fun b=>b ∈ kq.1::qs.map (·.1)
theorem Pl.at {w0 w : World} {pb : Nat} {kq : Nat × Nat × Nat} {iv av : Value} {qs : List (Nat × Nat × Nat)} {ks ts : List Bs} (h : Pl w0 w pb kq iv av qs ks ts) {i : Nat} (hi : i < ts.length) :
    ∃ q b1 o1 c1 b2 o2 c2,qs[i]? = some q ∧ iv = .slice (some ⟨b1,o1,Option.none⟩) ts.length c1 ∧ av = .slice (some ⟨b2,o2,Option.none⟩) ts.length c2 ∧ NwB w0 w (tv q ((ts.getD i []).length + 16)) (ts.getD i [] ++ T16) ∧
      (∀ w',No w w' → rdO Tryz.prog 25 w' b1 (o1 + i) = some (tv q (ts.getD i []).length)) ∧ ∀ w',No w w' → rdO Tryz.prog 25 w' b2 (o2 + i) = some (tv q ((ts.getD i []).length + 16)) := by
 have hiq:i<qs.length:=by rw[h.len];exact hi
 obtain⟨hl1,a1,c1,rfl,_,hat1⟩:=h.inn.rd
 obtain⟨hl2,a2,c2,rfl,_,hat2⟩:=h.all.rd
 obtain⟨b1,o1,rfl,hat1'⟩:=hat1 (by omega)
 obtain⟨b2,o2,rfl,hat2'⟩:=hat2 (by omega)
 refine⟨qs[i],b1,o1,c1,b2,o2,c2,List.getElem?_eq_getElem hiq,rfl,rfl,by rw[getD_lt _ hi];exact h.txt i hiq hi,fun w' k=>?_,fun w' k=>?_⟩
 ·have hr:=hat1' i (by omega)
  rw[List.getElem?_zipWith,List.getElem?_eq_getElem hiq,List.getElem?_eq_getElem hi] at hr
  refine rd_rc Tryz.agg25 ?_
  rw[k.rc (rc_lt hr) id,hr,getD_lt _ hi]
 ·have hr:=hat2' i (by omega)
  rw[List.getElem?_zipWith,List.getElem?_eq_getElem hiq,List.getElem?_eq_getElem hi] at hr
  refine rd_rc Tryz.agg25 ?_
  rw[k.rc (rc_lt hr) id,hr,getD_lt _ hi]
def plL (w0 w1:World) (pb:Nat) (kv tsv:Value) (ts:List Bs) (n:Nat) (vs:List Value) (w:World):Prop :=
 ∃ (i:Nat),vs=[pt pb 0,kv,tsv,.int .i64 (i:Nat)]∧i≤ts.length∧n=ts.length - i∧No w1 w
set_option maxHeartbeats 1000000 in
theorem placesLeft (w0 w1 : World) {pb : Nat} {kq : Nat × Nat × Nat} {iv av : Value} {qs : List (Nat × Nat × Nat)} {ks ts : List Bs} (h : Pl w0 w1 pb kq iv av qs ks ts) {kv tsv : Value} {A : Nat → Prop} (hk : RdD w1 kv ks) (hts : TsA w1 tsv ts A) (hl : ks.length ≤ 2 ^ 50) (htl : ∀ t ∈ ts, t.length ≤ 2 ^ 50) (htn : ts.length ≤ 2 ^ 50) :
    Fn Tryz.prog 37 #[pt pb 0,kv,tsv] w1 fun r w' => r = .bool true ∧ No w1 w' := by
 refine Tryz.go37 (by simp) ?_
 obtain⟨ka,kc,rfl,hkc⟩:=hk.slice
 simp -implicitDefEqProofs only[go_sem,Nat.reduceEqDiff,Nat.reduceBEq,Nat.reduceAdd,gLa,gLz,gLs,Tryz.f37]
 refine loopD [0,1,2,7] (plL w0 w1 pb (.slice ka ks.length kc) tsv ts) ts.length ⟨0,rfl,by omega,rfl,Fr.refl _ _⟩ ?_
 rintro _ vs w g ⟨i,rfl,hi,rfl,f⟩
 have h3:=h.fr0 f
 have rc3:=rdO_row (P:=Tryz.prog) h3.cell
 have rc3d:∀ t' o,rdO Tryz.prog t' w.drew pb o=_:=rc3
 by_cases hlt:i<ts.length
 ·obtain⟨tb,to,tc,xv,rfl,hx,_,hxr⟩:=hts.at hlt
  have d1:decide ((i:Int)<((ts.length:Nat):Int))=true:=by simp;omega
  have c1:IntKind.i64.wrap ((i:Int)+1)=((i+1:Nat):Int):=i64add (b:=1) (by omega)
  have y1:(0:Int)≤(i:Int)∧(i:Int)<((ts.length:Nat):Int):=by omega
  obtain⟨q,b1,o1,c1',b2,o2,c2',hq,rfl,rfl,hN,_,hr2⟩:=h3.at hlt
  have r1:=hxr w f
  have r1d:=hxr w.drew f.drew
  have r2:=hr2 w (Fr.refl _ _)
  have r2d:=hr2 w.drew (Fr.refl _ _).drew
  have htl':(ts.getD i []).length≤2 ^ 50:=by rw[getD_lt _ hlt];exact htl _ (List.getElem_mem _)
  simp -implicitDefEqProofs only[go_sem,Nat.reduceEqDiff,Nat.reduceBEq,Nat.reduceAdd,gLa,gLz,gLs,d1,decide_true,y1,and_self,Int.toNat_natCast,Nat.mul_one,r1,r1d,rc3,rc3d,ldO_one,r2,r2d]
  refine contL_call Tryz.pl75 ((left w.drew (hN.by.fr0 (Fr.refl _ _).drew) (hx.fr0 f.drew) htl').mono ?_)
  rintro _ w4 ⟨rfl,f4⟩
  simp -implicitDefEqProofs only[go_sem,Nat.reduceEqDiff,Nat.reduceBEq,Nat.reduceAdd,gLa,gLz,gLs,c1]
  exact⟨ts.length - (i+1),by omega,i+1,rfl,by omega,rfl,f.drew.trans f4⟩
 ·obtain⟨ta,tc,rfl⟩:=hts.slice
  have d1:decide ((i:Int)<((ts.length:Nat):Int))=false:=by simp;omega
  have d2:(((ks.length:Nat):Int) == ((ks.length:Nat):Int))=true:=by simp
  simp -implicitDefEqProofs only[go_sem,Nat.reduceEqDiff,Nat.reduceBEq,Nat.reduceAdd,gLa,gLz,gLs,d1,rc3,ldO_one,tv,d2,ft_beq,tf_beq,beq_self_eq_true]
  refine contL_call Tryz.pl76 ((keysLeft w h3.key.rd (hk.fr0 f) hl).mono ?_)
  rintro _ w4 ⟨rfl,f4⟩
  simp -implicitDefEqProofs only[go_sem,Nat.reduceEqDiff,Nat.reduceBEq,Nat.reduceAdd,gLa,gLz,gLs,ft_beq,tf_beq,beq_self_eq_true]
  exact f.trans f4
end Go.V
end
section
namespace Go.V
open Go.Proofs Sha
set_option maxRecDepth 100000
section
variable {w0 w w':World} {pb:Nat} {kq:Nat × Nat × Nat} {iv av:Value} {qs:List (Nat × Nat × Nat)} {ks ts:List Bs}
theorem Pl.ne1 (h:Pl w0 w pb kq iv av qs ks ts):pb≠kq.1:=fun e=>by
 have:=h.nd
 rw[e] at this
 simp at this
theorem Pl.ne2 (h:Pl w0 w pb kq iv av qs ks ts) {i:Nat} (hi:i<qs.length):pb≠qs[i].1∧kq.1≠qs[i].1:=by
 have hn:=h.nd
 have hm:qs[i].1 ∈ qs.map (·.1):=List.mem_map.2 ⟨qs[i],List.getElem_mem _,rfl⟩
 constructor <;> intro e
 ·rw[e] at hn
  exact (List.nodup_cons.1 hn).1 (List.mem_cons_of_mem _ hm)
 ·rw[e] at hn
  exact (List.nodup_cons.1 (List.nodup_cons.1 hn).2).1 hm
theorem Pl.ne3 (h:Pl w0 w pb kq iv av qs ks ts) {i j:Nat} (hi:i<qs.length) (hj:j<qs.length) (hij:i≠j):qs[i].1≠qs[j].1:=by
 have hn:=(List.nodup_cons.1 (List.nodup_cons.1 h.nd).2).2
 have:=(List.pairwise_iff_getElem.1 hn)
 rcases Nat.lt_or_ge i j with h1 | h1
 ·have:=this i j (by simpa using hi) (by simpa using hj) h1
  simpa using this
 ·have:=this j i (by simpa using hj) (by simpa using hi) (by omega)
  simpa using this.symm
theorem Pl.lt (h:Pl w0 w pb kq iv av qs ks ts) {b:Nat} (hb:b ∈ pb::kq.1::qs.map (·.1)):b<w.heap.size:=by
 rcases List.mem_cons.1 hb with rfl | hb
 ·exact heap_lt h.cell
 ·rcases List.mem_cons.1 hb with rfl | hb
  ·exact (h.key.lt rfl).2
  ·obtain⟨q,hq,rfl⟩:=List.mem_map.1 hb
   obtain⟨i,hi,rfl⟩:=List.getElem_of_mem hq
   exact ((h.txt i hi (by rw[← h.len];exact hi)).lt rfl).2
theorem Pl.wk (h:Pl w0 w pb kq iv av qs ks ts) (k:Fr (fun b=>b=kq.1) w w') {ks':List Bs} (hl:ks'.length=ks.length) (hk:NwD w0 w' 34 (tv kq (ks.length+1)) (ks'++[K9])):Pl w0 w' pb kq iv av qs ks' ts :=
 ⟨by rw[hl];exact k.at h.cell h.ne1,h.new,by rw[hl];exact hk,h.len,h.inn.fr k fun b hb e=>h.ia b hb (by subst e;simp),h.all.fr k fun b hb e=>h.aa b hb (by subst e;simp),
  fun i a b=>(h.txt i a b).fr k fun c hc e=>(h.ne2 a).2 (by simp only[tv,blockOf,Option.some.injEq] at hc;omega),h.nd,h.ia,h.aa,h.ii⟩
theorem Pl.wt (h:Pl w0 w pb kq iv av qs ks ts) {i:Nat} (hi:i<qs.length) (hi':i<ts.length) (k:Fr (fun b=>b=qs[i].1) w w') {t':Bs} (hl:t'.length=ts[i].length) (hk:NwB w0 w' (tv qs[i] (ts[i].length+16)) (t'++T16)):Pl w0 w' pb kq iv av qs ks (ts.set i t'):=by
 have hz:∀ (g:Nat × Nat × Nat→Nat→Value),List.zipWith (fun q (t:Bs)=>g q t.length) qs (ts.set i t')=List.zipWith (fun q (t:Bs)=>g q t.length) qs ts:=fun g=>by
  refine List.ext_getElem (by simp) fun j h1 h2=>?_
  simp only[List.getElem_zipWith,List.getElem_set]
  split
  ·rename_i e;subst e;rw[hl]
  ·rfl
 refine⟨k.at h.cell (h.ne2 hi).1,h.new,h.key.fr k fun b hb e=>(h.ne2 hi).2 (by simp only[tv,blockOf,Option.some.injEq] at hb;omega),by rw[List.length_set];exact h.len,?_,?_,fun j a b=>?_,h.nd,h.ia,h.aa,h.ii⟩
 ·rw[List.length_set,hz fun q n=>tv q n]
  exact h.inn.fr k fun b hb e=>h.ia b hb (by subst e;simp[List.mem_map];right;right;exact⟨_,_,List.getElem_mem hi⟩)
 ·rw[List.length_set,hz fun q n=>tv q (n+16)]
  exact h.all.fr k fun b hb e=>h.aa b hb (by subst e;simp[List.mem_map];right;right;exact⟨_,_,List.getElem_mem hi⟩)
 ·by_cases e:i=j
  ·subst e
   simp only[List.getElem_set_self]
   rw[hl];exact hk
  ·rw[List.length_set] at b
   simp only[List.getElem_set_ne e]
   exact (h.txt j a b).fr k fun c hc e'=>h.ne3 hi a e (by simp only[tv,blockOf,Option.some.injEq] at hc;omega)
end
def ovI (w0 w1:World) (pb:Nat) (kq:Nat × Nat × Nat) (iv av:Value) (qs:List (Nat × Nat × Nat)) (ks ts ts':List Bs) (tsv:Value) (n:Nat) (vs:List Value) (w:World):Prop :=
 ∃ (i:Nat),vs=[pt pb 0,tsv,.int .i64 (i:Nat)]∧i≤ts.length∧n=ts.length - i∧Pl w0 w pb kq iv av qs ks (ts'.take i++ts.drop i)∧Fr (Pl.W kq qs) w1 w
set_option maxHeartbeats 1000000 in
theorem over (w0 w1 : World) {pb : Nat} {kq : Nat × Nat × Nat} {iv av : Value} {qs : List (Nat × Nat × Nat)} {ks ts ks' ts' : List Bs} (h : Pl w0 w1 pb kq iv av qs ks ts) {kv tsv : Value} (hk : RdD w1 kv ks') (hkl : ks'.length = ks.length) (hkb : ks' ≠ [] → ∀ b, blockOf kv = some b → ¬ Pl.W kq qs b) (hts : TsA w1 tsv ts' (Pl.W kq qs)) (htl : ts'.length = ts.length) (htll : ∀ i, (ts'.getD i []).length = (ts.getD i []).length)
    (hl : ks.length ≤ 2 ^ 50) (hl2 : ∀ t ∈ ts,t.length ≤ 2 ^ 50) (htn : ts.length ≤ 2 ^ 50) :
    Fn Tryz.prog 14 #[pt pb 0,kv,tsv] w1 fun r w' => r = .tuple #[] ∧ Pl w0 w' pb kq iv av qs ks' ts' ∧ Fr (Pl.W kq qs) w1 w' := by
 refine Tryz.go14 (by simp) ?_
 have r1:=rdO_row (P:=Tryz.prog) h.cell
 simp -implicitDefEqProofs only[go_sem,Nat.reduceEqDiff,Nat.reduceBEq,Nat.reduceAdd,gLa,gLz,gLs,Tryz.f14,r1,ldO_one]
 refine contL_call Tryz.pl38 ((keysPlaced w0 w1 h.key hk hkl (fun hn b hb e=>hkb hn b hb (by unfold Pl.W;simp[e])) hl).mono ?_)
 rintro _ w2 ⟨rfl,n2,f2⟩
 have h2:=h.wk f2 hkl n2
 have f2':Fr (Pl.W kq qs) w1 w2:=f2.mono fun b _ e=>by unfold Pl.W;simp[e]
 have hts2:=hts.fr f2' fun _ h=>h
 simp -implicitDefEqProofs only[go_sem,Nat.reduceEqDiff,Nat.reduceBEq,Nat.reduceAdd,gLa,gLz,gLs]
 refine loopD [0,2,6] (ovI w0 w1 pb kq iv av qs ks' ts ts' tsv) ts.length ⟨0,rfl,by omega,rfl,by rw[List.take_zero,List.drop_zero,List.nil_append];exact h2,f2'⟩ ?_
 rintro _ vs w g ⟨i,rfl,hi,rfl,h3,f3⟩
 have hts3:=hts.fr f3 fun _ h=>h
 by_cases hlt:i<ts.length
 ·have hlm:(ts'.take i++ts.drop i).length=ts.length:=by rw[List.length_append,List.length_take,List.length_drop];omega
  have hgm:(ts'.take i++ts.drop i).getD i []=ts.getD i []:=by
   rw[List.getD_eq_getElem?_getD,List.getElem?_append_right (by rw[List.length_take];omega),List.length_take,Nat.min_eq_left (by omega),Nat.sub_self,List.getElem?_drop,Nat.add_zero,List.getD_eq_getElem?_getD]
  obtain⟨tb,to,tc,xv,rfl,hx,hxb,hxr⟩:=hts3.at (i:=i) (by omega)
  have d1:decide ((i:Int)<((ts'.length:Nat):Int))=true:=by simp;omega
  have c1:IntKind.i64.wrap ((i:Int)+1)=((i+1:Nat):Int):=i64add (b:=1) (by omega)
  have y1:(0:Int)≤(i:Int)∧(i:Int)<((ts'.length:Nat):Int):=by omega
  have y2:(0:Int)≤(i:Int)∧(i:Int)<(((ts'.take i++ts.drop i).length:Nat):Int):=by omega
  have rc3:=rdO_row (P:=Tryz.prog) h3.cell
  have rc3d:∀ t' o,rdO Tryz.prog t' w.drew pb o=_:=rc3
  obtain⟨q,b1,o1,c1',b2,o2,c2',hq,rfl,rfl,hN,hr1,_⟩:=h3.at (i:=i) (by omega)
  rw[hgm] at hN hr1
  have ra:=hr1 w (Fr.refl _ _)
  have rad:=hr1 w.drew (Fr.refl _ _).drew
  have rx:=hxr w (Fr.refl _ _)
  have rxd:=hxr w.drew (Fr.refl _ _).drew
  obtain⟨hiq,rfl⟩:=List.getElem?_eq_some_iff.1 hq
  have htt:(ts.getD i []).length≤2 ^ 50:=by rw[getD_lt _ hlt];exact hl2 _ (List.getElem_mem _)
  simp -implicitDefEqProofs only[go_sem,Nat.reduceEqDiff,Nat.reduceBEq,Nat.reduceAdd,gLa,gLz,gLs,d1,decide_true,y1,y2,and_self,Int.toNat_natCast,Nat.mul_one,rc3,rc3d,ldO_one,ra,rad,rx,rxd]
  refine contL_call Tryz.pl39 ((place w0 w.drew (hN.fr0 (Fr.refl _ _).drew) (hx.fr0 (Fr.refl _ _).drew) (htll i) (fun hn b hb e=>hxb hn b hb (by unfold Pl.W;rw[e];exact List.mem_cons_of_mem _ (List.mem_map.2 ⟨_,List.getElem_mem hiq,rfl⟩))) htt).mono ?_)
  rintro _ w4 ⟨rfl,n4,f4⟩
  have him:i<(ts'.take i++ts.drop i).length:=by omega
  have hgi:(ts'.take i++ts.drop i)[i]=ts.getD i []:=by rw[← hgm,getD_lt _ him]
  have h5:=(h3.fr0 (Fr.refl _ _).drew).wt hiq him f4 (t':=ts'.getD i []) (by rw[hgi];exact htll i) (by rw[hgi];exact n4)
  have hst:(ts'.take i++ts.drop i).set i (ts'.getD i [])=ts'.take (i+1)++ts.drop (i+1):=by
   rw[List.set_append_right _ _ (by rw[List.length_take];omega),List.length_take,Nat.min_eq_left (by omega),Nat.sub_self,List.drop_eq_getElem_cons hlt,List.set_cons_zero,List.take_succ_eq_append_getElem (show i<ts'.length by omega),getD_lt _ (show i<ts'.length by omega),List.append_assoc]
   rfl
  rw[hst] at h5
  simp -implicitDefEqProofs only[go_sem,Nat.reduceEqDiff,Nat.reduceBEq,Nat.reduceAdd,gLa,gLz,gLs,c1]
  exact⟨ts.length - (i+1),by omega,i+1,rfl,by omega,rfl,h5,f3.drew.trans (f4.mono fun b _ e=>by unfold Pl.W;rw[e];exact List.mem_cons_of_mem _ (List.mem_map.2 ⟨_,List.getElem_mem hiq,rfl⟩))⟩
 ·obtain⟨ta,tc,rfl⟩:=hts.slice
  have d1:decide ((i:Int)<((ts'.length:Nat):Int))=false:=by simp;omega
  obtain rfl:i=ts.length:=by omega
  rw[List.drop_length,List.append_nil,List.take_of_length_le (by omega)] at h3
  simp -implicitDefEqProofs only[go_sem,Nat.reduceEqDiff,Nat.reduceBEq,Nat.reduceAdd,gLa,gLz,gLs,d1]
  exact⟨h3,f3⟩
end Go.V
end
section
namespace Go.V
open Go.Proofs Sha
set_option maxRecDepth 100000
def laI (w0:World) (pb:Nat) (kq:Nat × Nat × Nat) (tsv:Value) (ks ts:List Bs) (n:Nat) (vs:List Value) (w:World):Prop :=
 ∃ (i:Nat) (iv av:Value) (qs:List (Nat × Nat × Nat)),vs=[tsv,pt pb 0,.int .i64 (i:Nat)]∧i≤ts.length∧n=ts.length - i∧Pl w0 w pb kq iv av qs ks (ts.take i)∧No w0 w
set_option maxHeartbeats 2000000 in
theorem lawLaid (w0 : World) {kv tsv : Value} {ks ts : List Bs} (hk : RdD w0 kv ks) (hts : TsA w0 tsv ts fun _ => False) (hl : ks.length ≤ 2 ^ 42) (htl : ∀ t ∈ ts, t.length ≤ 2 ^ 47) (htn : ts.length ≤ 6000000000000) :
    Fn Tryz.prog 10 #[kv,tsv] w0 fun r w' => No w0 w' ∧ ∃ pb kq iv av qs,r = pt pb 0 ∧ Pl w0 w' pb kq iv av qs ks ts := by
 refine Tryz.go10 (by simp) ?_
 obtain⟨ka,kc,rfl,hkc⟩:=hk.slice
 have bld0:bldO Tryz.prog 59 []=some (.agg #[.slice Option.none 0 0,.slice Option.none 0 0,.slice Option.none 0 0,.slice Option.none 0 0]):=rfl
 obtain⟨W,hW,f1,k1,s1⟩:=allocs1 w0 #[.slice Option.none 0 0,.slice Option.none 0 0,.slice Option.none 0 0,.slice Option.none 0 0] 59
 simp -implicitDefEqProofs only[go_sem,Nat.reduceEqDiff,Nat.reduceBEq,Nat.reduceAdd,gLa,gLz,gLs,Tryz.f10,bld0,Value.cells,hW]
 refine contL_call Tryz.pl29 ((keysOf W (hk.fr0 f1) hl).mono ?_)
 rintro _ w2 ⟨f2,kq,rfl,n2⟩
 have k2:=f2.at k1 id
 have f02:=f1.trans f2
 have q3:wrO Tryz.prog 24 w2 w0.heap.size 0 (tv kq ks.length)=some (put w2 w0.heap.size (.cells #[tv kq ks.length,.slice Option.none 0 0,.slice Option.none 0 0,.slice Option.none 0 0] 59 (0,0))):=wr1 Tryz.sz24 rfl k2 (by simp)
 have k3:=put_at (o:=.cells #[tv kq ks.length,.slice Option.none 0 0,.slice Option.none 0 0,.slice Option.none 0 0] 59 (0,0)) k2
 have q4:wrO Tryz.prog 24 (put w2 w0.heap.size (.cells #[tv kq ks.length,.slice Option.none 0 0,.slice Option.none 0 0,.slice Option.none 0 0] 59 (0,0))) w0.heap.size 1 (tv kq (ks.length+1))=some (put (put w2 w0.heap.size (.cells #[tv kq ks.length,.slice Option.none 0 0,.slice Option.none 0 0,.slice Option.none 0 0] 59 (0,0))) w0.heap.size (.cells #[tv kq ks.length,tv kq (ks.length+1),.slice Option.none 0 0,.slice Option.none 0 0] 59 (0,0))):=wr1 Tryz.sz24 rfl k3 (by simp)
 have k4:=put_at (o:=.cells #[tv kq ks.length,tv kq (ks.length+1),.slice Option.none 0 0,.slice Option.none 0 0] 59 (0,0)) k3
 have fp:Fr (fun b=>b=w0.heap.size) w2 (put (put w2 w0.heap.size (.cells #[tv kq ks.length,.slice Option.none 0 0,.slice Option.none 0 0,.slice Option.none 0 0] 59 (0,0))) w0.heap.size (.cells #[tv kq ks.length,tv kq (ks.length+1),.slice Option.none 0 0,.slice Option.none 0 0] 59 (0,0))):=((Fr.refl (fun b=>b=w0.heap.size) w2).put (b:=w0.heap.size) _ fun _=>rfl).put (b:=w0.heap.size) _ fun _=>rfl
 obtain⟨w4,hw4⟩:∃ w4,w4=(put (put w2 w0.heap.size (.cells #[tv kq ks.length,.slice Option.none 0 0,.slice Option.none 0 0,.slice Option.none 0 0] 59 (0,0))) w0.heap.size (.cells #[tv kq ks.length,tv kq (ks.length+1),.slice Option.none 0 0,.slice Option.none 0 0] 59 (0,0))):=⟨_,rfl⟩
 rw[← hw4] at q4 k4 fp
 have f04:No w0 w4:=f02.trans' fp fun b hb h=>by omega
 have hkq:=n2.lt (b:=kq.1) rfl
 have hP:Pl w0 w4 w0.heap.size kq (.slice Option.none 0 0) (.slice Option.none 0 0) [] ks (ts.take 0) :=
  ⟨k4,Nat.le_refl _,(n2.back f1.size).fr fp fun b hb e=>by simp only[tv,blockOf,Option.some.injEq] at hb;omega,rfl,Nw.nil _ _ _ _,Nw.nil _ _ _ _,fun i h=>absurd h (by simp),by simp;omega,fun b hb=>(by cases hb),fun b hb=>(by cases hb),fun b hb=>(by cases hb)⟩
 simp -implicitDefEqProofs only[go_sem,Nat.reduceEqDiff,Nat.reduceBEq,Nat.reduceAdd,gLa,gLz,gLs,q3,q4]
 refine loopD [1,5,6] (laI w0 w0.heap.size kq tsv ks ts) ts.length ⟨0,_,_,[],rfl,by omega,rfl,hP,f04⟩ ?_
 clear hP q3 q4 k3 k4 fp hw4
 rintro _ vs w g ⟨i,iv,av,qs,rfl,hi,rfl,h3,f3⟩
 by_cases hlt:i<ts.length
 ·obtain⟨tb,to,tc,xv,rfl,hx,_,hxr⟩:=hts.at hlt
  have d1:decide ((i:Int)<((ts.length:Nat):Int))=true:=by simp;omega
  have c1:IntKind.i64.wrap ((i:Int)+1)=((i+1:Nat):Int):=i64add (b:=1) (by omega)
  have y1:(0:Int)≤(i:Int)∧(i:Int)<((ts.length:Nat):Int):=by omega
  have rx:=hxr w f3
  have htt:(ts.getD i []).length≤2 ^ 47:=by rw[getD_lt _ hlt];exact htl _ (List.getElem_mem _)
  have hst:ts.take (i+1)=ts.take i++[ts.getD i []]:=by rw[List.take_succ_eq_append_getElem hlt,getD_lt _ hlt]
  have hltk:(ts.take i).length=i:=by rw[List.length_take];omega
  simp -implicitDefEqProofs only[go_sem,Nat.reduceEqDiff,Nat.reduceBEq,Nat.reduceAdd,gLa,gLz,gLs,d1,decide_true,y1,and_self,Int.toNat_natCast,Nat.mul_one,rx]
  refine contL_call Tryz.pl30 ((roomy w (hx.fr0 f3) htt).mono ?_)
  rintro _ w5 ⟨f5,q,rfl,n5⟩
  generalize ts.getD i []=t at *
  have h5:=h3.fr0 f5
  have f05:=f3.trans f5
  have hq:=n5.lt (b:=q.1) rfl
  have rc5:=rdO_row (P:=Tryz.prog) h5.cell
  simp -implicitDefEqProofs only[go_sem,Nat.reduceEqDiff,Nat.reduceBEq,Nat.reduceAdd,gLa,gLz,gLs,rc5,ldO_one]
  refine contL_is (v:=.slice (some ⟨w5.heap.size,0,Option.none⟩) 1 1) (w':=w5.alloc (.cells #[tv q t.length] 25)) rfl ?_
  obtain⟨v6,w6,hr6,b6,f06,f6,g6⟩:=app_fresh (P:=Tryz.prog) Tryz.app37_37 h5.inn (m:=1) (xs:=#[tv q t.length]) rfl rfl (by decide) (bd_one (by omega)) (by omega) f05
  simp -implicitDefEqProofs only[go_sem,Nat.reduceEqDiff,Nat.reduceBEq,Nat.reduceAdd,gLa,gLz,gLs]
  refine contL_sem ⟨v6,w6,hr6,?_⟩
  have hpb:∀ b,blockOf iv=some b→w0.heap.size≠b:=fun b hb e=>h5.ia b hb (by subst e;simp)
  have hone6:one v6=true:=by
   rcases b6.own with ⟨e,_⟩ | ⟨_,_,_,_,e,_⟩ <;> rw[e] <;> rfl
  have k6:w6.heap[w0.heap.size]?=some (.cells #[tv kq ks.length,tv kq (ks.length+1),iv,av] 59 (0,0)):=f6.at h5.cell fun e=>hpb _ e rfl
  have q7:wrO Tryz.prog 37 w6 w0.heap.size 2 v6=some (put w6 w0.heap.size (.cells #[tv kq ks.length,tv kq (ks.length+1),v6,av] 59 (0,0))):=wr1 Tryz.sz37 hone6 k6 (by simp)
  have k7:=put_at (o:=.cells #[tv kq ks.length,tv kq (ks.length+1),v6,av] 59 (0,0)) k6
  have f7:Fr (fun b=>b=w0.heap.size) w6 (put w6 w0.heap.size (.cells #[tv kq ks.length,tv kq (ks.length+1),v6,av] 59 (0,0))):=(Fr.refl (fun b=>b=w0.heap.size) w6).put (b:=w0.heap.size) _ fun _=>rfl
  obtain⟨w7,hw7⟩:∃ w7,w7=put w6 w0.heap.size (.cells #[tv kq ks.length,tv kq (ks.length+1),v6,av] 59 (0,0)):=⟨_,rfl⟩
  rw[← hw7] at q7 k7 f7
  have f07:No w0 w7:=f06.trans' f7 fun b hb e=>by omega
  have hpl:w0.heap.size<w.heap.size:=h3.lt (by simp)
  have hw5:=f5.size
  have hlA:∀ b,b ∈ w0.heap.size::kq.1::qs.map (·.1)→b<w.heap.size:=fun b hb=>h3.lt hb
  have hiv:∀ b,blockOf iv=some b→b<w.heap.size:=fun b hb=>h3.inn.own.lt hb
  have hav:∀ b,blockOf av=some b→b<w.heap.size:=fun b hb=>h3.all.own.lt hb
  have f57:Fr (fun b=>blockOf iv=some b∨b=w0.heap.size) w5 w7:=(f6.mono fun _ _ h=>.inl h).trans' f7 fun b _ e=>.inr e
  have all7:Nw w0 w7 25 1 av (ts.take i).length (List.zipWith (fun q (t:Bs)=>tv q (t.length+16)) qs (ts.take i)):=h5.all.fr f57 fun b hb e=>by
   rcases e with e | e
   ·exact h5.ii b e hb
   ·exact h5.aa b hb (by subst e;simp)
  have rc7:=rdO_row (P:=Tryz.prog) k7
  simp -implicitDefEqProofs only[go_sem,Nat.reduceEqDiff,Nat.reduceBEq,Nat.reduceAdd,gLa,gLz,gLs,q7,rc7,ldO_one]
  refine contL_is (v:=.slice (some ⟨w7.heap.size,0,Option.none⟩) 1 1) (w':=w7.alloc (.cells #[tv q (t.length+16)] 25)) rfl ?_
  obtain⟨v8,w8,hr8,b8,f08,f8,g8⟩:=app_fresh (P:=Tryz.prog) Tryz.app37_37 all7 (m:=1) (xs:=#[tv q (t.length+16)]) rfl rfl (by decide) (bd_one (by omega)) (by omega) f07
  simp -implicitDefEqProofs only[go_sem,Nat.reduceEqDiff,Nat.reduceBEq,Nat.reduceAdd,gLa,gLz,gLs]
  refine contL_sem ⟨v8,w8,hr8,?_⟩
  have hpb8:∀ b,blockOf av=some b→w0.heap.size≠b:=fun b hb e=>h5.aa b hb (by subst e;simp)
  have hone8:one v8=true:=by
   rcases b8.own with ⟨e,_⟩ | ⟨_,_,_,_,e,_⟩ <;> rw[e] <;> rfl
  have k8:w8.heap[w0.heap.size]?=some (.cells #[tv kq ks.length,tv kq (ks.length+1),v6,av] 59 (0,0)):=f8.at k7 fun e=>hpb8 _ e rfl
  have q9:wrO Tryz.prog 37 w8 w0.heap.size 3 v8=some (put w8 w0.heap.size (.cells #[tv kq ks.length,tv kq (ks.length+1),v6,v8] 59 (0,0))):=wr1 Tryz.sz37 hone8 k8 (by simp)
  have k9:=put_at (o:=.cells #[tv kq ks.length,tv kq (ks.length+1),v6,v8] 59 (0,0)) k8
  have f9:Fr (fun b=>b=w0.heap.size) w8 (put w8 w0.heap.size (.cells #[tv kq ks.length,tv kq (ks.length+1),v6,v8] 59 (0,0))):=(Fr.refl (fun b=>b=w0.heap.size) w8).put (b:=w0.heap.size) _ fun _=>rfl
  obtain⟨w9,hw9⟩:∃ w9,w9=put w8 w0.heap.size (.cells #[tv kq ks.length,tv kq (ks.length+1),v6,v8] 59 (0,0)):=⟨_,rfl⟩
  rw[← hw9] at q9 k9 f9
  have f09:No w0 w9:=f08.trans' f9 fun b hb e=>by omega
  have s56:=f6.size
  have s67:=f7.size
  have h6b:∀ b,blockOf v6=some b→blockOf iv=some b∨w5.heap.size≤b:=g6
  have h8b:∀ b,blockOf v8=some b→blockOf av=some b∨w7.heap.size≤b:=g8
  have h6l:∀ b,blockOf v6=some b→b<w7.heap.size:=fun b hb=>by have:=b6.own.lt hb;omega
  have f79:Fr (fun b=>blockOf av=some b∨b=w0.heap.size) w7 w9:=(f8.mono fun _ _ h=>.inl h).trans' f9 fun b _ e=>.inr e
  have f59:Fr (fun b=>blockOf iv=some b∨blockOf av=some b∨b=w0.heap.size) w5 w9:=(f57.mono fun _ _ h=>h.imp id .inr).trans (f79.mono fun _ _ h=>.inr h)
  have f69:Fr (fun b=>b=w0.heap.size∨blockOf av=some b) w6 w9:=(f7.mono fun _ _ h=>.inl h).trans (f79.mono fun _ _ h=>h.elim .inr .inl)
  have hz:∀ (g:Nat × Nat × Nat→Nat→Value),List.zipWith (fun q (t:Bs)=>g q t.length) (qs++[q]) (ts.take (i+1))=List.zipWith (fun q (t:Bs)=>g q t.length) qs (ts.take i)++[g q t.length]:=fun g=>by
   rw[hst,List.zipWith_append (by rw[h3.len])];rfl
  have nmem:∀ b,b ∈ w0.heap.size::kq.1::(qs++[q]).map (·.1)→b ∈ w0.heap.size::kq.1::qs.map (·.1)∨b=q.1:=fun b hb=>by
   simp only[List.map_append,List.map_cons,List.map_nil,List.mem_cons,List.mem_append,List.not_mem_nil,or_false] at hb ⊢
   rcases hb with h | h | h | h
   ·exact .inl (.inl h)
   ·exact .inl (.inr (.inl h))
   ·exact .inl (.inr (.inr h))
   ·exact .inr h
  simp -implicitDefEqProofs only[go_sem,Nat.reduceEqDiff,Nat.reduceBEq,Nat.reduceAdd,gLa,gLz,gLs,q9,c1]
  refine⟨ts.length - (i+1),by omega,i+1,v6,v8,qs++[q],rfl,by omega,rfl,⟨k9,Nat.le_refl _,?_,?_,?_,?_,?_,?_,?_,?_,?_⟩,f09⟩
  ·exact h5.key.fr f59 fun b hb e => by
     have hbk : b = kq.1 := by simp only [tv,blockOf,Option.some.injEq] at hb; exact hb.symm
     rcases e with e | e | e
     · exact h5.ia b e (by subst hbk; simp)
     · exact h5.aa b e (by subst hbk; simp)
     · exact h5.ne1 (e.symm.trans hbk)
  ·rw[hst,List.length_append,List.length_append,h3.len];rfl
  ·rw[hz fun q n=>tv q n,hst,List.length_append]
   exact b6.fr f69 fun b hb e=>by
    rcases h6b b hb with h' | h'
    ·rcases e with e | e
     ·exact hpb b h' e.symm
     ·exact h5.ii b h' e
    ·rcases e with e | e
     ·omega
     ·have:=hav b e;omega
  ·rw[hz fun q n=>tv q (n+16),hst,List.length_append]
   exact b8.fr f9 fun b hb e=>by
    rcases h8b b hb with h' | h'
    ·exact hpb8 b h' e.symm
    ·omega
  ·intro j hj hj'
   by_cases hjl:j<qs.length
   ·have hjt:j<(ts.take i).length:=by rw[← h3.len];exact hjl
    have e1:(qs++[q])[j]=qs[j]:=List.getElem_append_left hjl
    have e2:(ts.take (i+1))[j]=(ts.take i)[j]:=by
     simp only[List.getElem_take]
    rw[e1,e2]
    have hm:qs[j].1 ∈ w0.heap.size::kq.1::qs.map (·.1):=List.mem_cons_of_mem _ (List.mem_cons_of_mem _ (List.mem_map.2 ⟨_,List.getElem_mem hjl,rfl⟩))
    exact (h5.txt j hjl hjt).fr f59 fun b hb e=>by
     have hbk:b=qs[j].1:=by simp only[tv,blockOf,Option.some.injEq] at hb;exact hb.symm
     rcases e with e | e | e
     ·exact h5.ia b e (by rw[hbk];exact hm)
     ·exact h5.aa b e (by rw[hbk];exact hm)
     ·exact (h5.ne2 hjl).1 (e.symm.trans hbk)
   ·have hlq:qs.length=i:=by rw[h3.len,hltk]
    have hji:j=i:=by
     rw[List.length_append] at hj
     simp at hj;omega
    subst hji
    have e1:(qs++[q])[j]=q:=by rw[List.getElem_append_right (by omega)];simp[hlq]
    have e2:(ts.take (j+1))[j]=t:=by
     have:(ts.take (j+1))[j]?=some t:=by rw[hst,List.getElem?_append_right (by omega),hltk,Nat.sub_self];rfl
     exact (List.getElem?_eq_some_iff.1 this).2
    rw[e1,e2]
    exact (n5.back f3.size).fr f59 fun b hb e=>by
     have hbk:b=q.1:=by simp only[tv,blockOf,Option.some.injEq] at hb;exact hb.symm
     rcases e with e | e | e
     ·have:=hiv b e;omega
     ·have:=hav b e;omega
     ·omega
  ·have hn:=h3.nd
   have hqn:q.1 ∉ w0.heap.size::kq.1::qs.map (·.1):=fun hm=>by have:=hlA _ hm;omega
   have hp:(w0.heap.size::kq.1::(qs++[q]).map (·.1))=(w0.heap.size::kq.1::qs.map (·.1))++[q.1]:=by simp
   rw[hp]
   exact List.nodup_append.2 ⟨hn,by simp,fun a ha b hb e=>by simp only[List.mem_singleton] at hb;subst hb;subst e;exact hqn ha⟩
  ·intro b hb hm
   rcases nmem b hm with hm | e
   ·rcases h6b b hb with h' | h'
    ·exact h5.ia b h' hm
    ·have:=hlA b hm;omega
   ·rcases h6b b hb with h' | h'
    ·have:=hiv b h';omega
    ·omega
  ·intro b hb hm
   rcases nmem b hm with hm | e
   ·rcases h8b b hb with h' | h'
    ·exact h5.aa b h' hm
    ·have:=hlA b hm;omega
   ·rcases h8b b hb with h' | h'
    ·have:=hav b h';omega
    ·omega
  ·intro b hb hm
   rcases h8b b hm with h' | h'
   ·rcases h6b b hb with h'' | h''
    ·exact h5.ii b h'' h'
    ·have:=hav b h';omega
   ·have:=h6l b hb;omega
 ·obtain⟨ta,tc,rfl⟩:=hts.slice
  have d1:decide ((i:Int)<((ts.length:Nat):Int))=false:=by simp;omega
  obtain rfl:i=ts.length:=by omega
  rw[List.take_length] at h3
  simp -implicitDefEqProofs only[go_sem,Nat.reduceEqDiff,Nat.reduceBEq,Nat.reduceAdd,gLa,gLz,gLs,d1]
  exact⟨f3,_,_,_,_,_,rfl,h3⟩
end Go.V
end
