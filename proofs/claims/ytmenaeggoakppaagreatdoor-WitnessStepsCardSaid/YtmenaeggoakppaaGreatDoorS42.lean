/-
 Helpers: PartW.
-/
import Derived.Test.YtmenaeggoakppaaGreatDoorS41
set_option linter.all false
section
namespace Go.V
open Go.Proofs Sha
set_option maxRecDepth 100000
def ixI (w0:World) (kv:Value) (ks:List Bs) (k:Bs) (n:Nat) (vs:List Value) (w:World):Prop :=
 ∃ (i:Nat),vs=[kv,pt w0.heap.size 0,.int .i64 (ks.length:Nat),.int .i64 (i:Nat)]∧i≤ks.length∧n=ks.length - i∧k ∉ ks.take i∧No w0 w∧w.heap[w0.heap.size]?=some (.cells (bl k) 34 (0,0))
theorem kindex (w0 : World) {kv : Value} {ks : List Bs} (hk : RdD w0 kv ks) {k : Bs} (hkl : k.length = 32) (hl : ks.length ≤ 2 ^ 40) :
    Fn Tryz.prog 114 #[kv,dg k] w0 fun v w' => No w0 w' ∧ ∃ z : Int,v = .int .i64 z ∧ (0 ≤ z ↔ k ∈ ks) := by
 refine Tryz.go114 (by simp) ?_
 obtain⟨W,hW,f1,k1,s1⟩:=allocs1 w0 (bl k) 34
 obtain⟨ka,kc,rfl,hkc⟩:=hk.slice
 simp -implicitDefEqProofs only[go_sem,Nat.reduceEqDiff,Nat.reduceBEq,Nat.reduceAdd,gLa,gLz,gLs,Tryz.f114,Value.cells,hW]
 refine loopD [0,3,7,8] (ixI w0 (.slice ka ks.length kc) ks k) ks.length ⟨0,rfl,by omega,rfl,by simp,f1,k1⟩ ?_
 rintro _ vs w2 g ⟨i,rfl,hi,rfl,hno,f2,k2⟩
 by_cases hlt:i<ks.length
 ·have d4:decide ((i:Int)<((ks.length:Nat):Int))=true:=by simp;omega
  have hk4:=hk.fr0 f2
  obtain⟨b,o,cap,he,_,_⟩:=hk4.pos (by omega)
  cases he
  have q1:=hk4.get (P:=Tryz.prog) Tryz.agg34 Tryz.sz34 hlt
  have kl:=hk.1.getD hlt
  have y1:(0:Int)≤(i:Int)∧(i:Int)<((ks.length:Nat):Int):=by omega
  have rk:=rd_d Tryz.agg34 Tryz.sz34 k2 hkl
  have q1d:rdO Tryz.prog 34 w2.drew b (o+i*32)=some (dg (ks.getD i [])):=q1
  have rkd:rdO Tryz.prog 34 w2.drew w0.heap.size 0=some (dg k):=rk
  have eq:=eqKey hkl kl
  have c2:IntKind.i64.wrap ((i:Int)+1)=((i+1:Nat):Int):=i64add (b:=1) (by omega)
  have htk:ks.take (i+1)=ks.take i++[ks.getD i []]:=by rw[List.take_succ_eq_append_getElem hlt,getD_lt _ hlt]
  by_cases he:k=ks.getD i []
  ·have hb:(k == ks.getD i [])=true:=by rw[beq_iff_eq];exact he
   simp -implicitDefEqProofs only[go_sem,Nat.reduceEqDiff,Nat.reduceBEq,Nat.reduceAdd,gLa,gLz,gLs,d4,y1,and_self,Int.toNat_natCast,q1,q1d,rk,rkd,eq,hb]
   exact⟨f2.drew,i,rfl,iff_of_true (by omega) (by rw[he,getD_lt _ hlt];exact List.getElem_mem _)⟩
  ·have hb:(k == ks.getD i [])=false:=by rw[beq_eq_false_iff_ne];exact he
   simp -implicitDefEqProofs only[go_sem,Nat.reduceEqDiff,Nat.reduceBEq,Nat.reduceAdd,gLa,gLz,gLs,d4,y1,and_self,Int.toNat_natCast,q1,q1d,rk,rkd,eq,hb,c2]
   exact⟨ks.length - (i+1),by omega,i+1,rfl,by omega,rfl,fun hm=>by rw[htk] at hm;rcases List.mem_append.1 hm with hm | hm;exact hno hm;exact he (by simpa using hm),f2.drew,k2⟩
 ·have d4:decide ((i:Int)<((ks.length:Nat):Int))=false:=by simp;omega
  obtain rfl:i=ks.length:=by omega
  rw[List.take_length] at hno
  simp -implicitDefEqProofs only[go_sem,Nat.reduceEqDiff,Nat.reduceBEq,Nat.reduceAdd,gLa,gLz,gLs,d4]
  exact⟨f2,-1,rfl,iff_of_false (by omega) hno⟩
theorem kcontains (w0 : World) {kv : Value} {ks : List Bs} (hk : RdD w0 kv ks) {k : Bs} (hkl : k.length = 32) (hl : ks.length ≤ 2 ^ 40) :
    Fn Tryz.prog 63 #[kv,dg k] w0 fun v w' => No w0 w' ∧ v = .bool (decide (k ∈ ks)) := by
 refine Tryz.go63 (by simp) ?_
 obtain⟨W,hW,f1,k1,s1⟩:=allocs1 w0 (bl k) 34
 obtain⟨ka,kc,rfl,hkc⟩:=hk.slice
 have rk:=rd_d Tryz.agg34 Tryz.sz34 k1 hkl
 simp -implicitDefEqProofs only[go_sem,Nat.reduceEqDiff,Nat.reduceBEq,Nat.reduceAdd,gLa,gLz,gLs,Tryz.f63,Value.cells,hW,rk]
 refine contL_call Tryz.pl114 ((kindex W (hk.fr0 f1) hkl hl).mono ?_)
 rintro _ w2 ⟨f2,z,rfl,hz⟩
 have d:decide (z ≥ 0)=decide (k ∈ ks):=by
  by_cases h:k ∈ ks
  ·rw[decide_eq_true h,decide_eq_true (hz.2 h)]
  ·rw[decide_eq_false h,decide_eq_false (fun c=>h (hz.1 c))]
 simp -implicitDefEqProofs only[go_sem,Nat.reduceEqDiff,Nat.reduceBEq,Nat.reduceAdd,gLa,gLz,gLs,d]
 exact⟨f1.trans f2,trivial⟩
theorem partW (w0 : World) (ht : Tabs w0) (wd : Int) {kv rawv : Value} {ks : List Bs} {raw : Bs} (hk : RdD w0 kv ks) (hr : By w0 rawv raw) {k : Bs} (hkl : k.length = 32) :
    Fn Tryz.prog 33 #[.int .i64 wd,kv,rawv,dg k] w0 (BsQ w0 (Wit.partP wd ks raw k)) := by
 refine Tryz.go33 (by simp) ?_
 obtain⟨W,hW,f1,k1,s1⟩:=allocs1 w0 (bl k) 34
 simp -implicitDefEqProofs only[go_sem,Nat.reduceEqDiff,Nat.reduceBEq,Nat.reduceAdd,gLa,gLz,gLs,Tryz.f33,Value.cells,hW]
 refine contL_call Tryz.pl46 ((sorted W wd (hk.fr0 f1)).mono ?_)
 rintro r w2 ⟨f2,h2⟩
 have f02:=f1.trans f2
 unfold BsQ Wit.partP
 cases hs:Wit.sortW wd ks with
 | error e =>
  rw[hs] at h2
  subst h2
  have he:=sortW_err hs
  simp -implicitDefEqProofs only[go_sem,Nat.reduceEqDiff,Nat.reduceBEq,Nat.reduceAdd,gLa,gLz,gLs,he]
  exact⟨f02,trivial⟩
 | ok l =>
  rw[hs] at h2
  obtain⟨lv,rfl,n2⟩:=h2
  obtain⟨hse,_,_⟩:=Wit.sortW_ok hs
  obtain⟨asc,l32,hlen,hl64,hperm⟩:=Wit.sortE_ok hk.1 hse
  simp -implicitDefEqProofs only[go_sem,Nat.reduceEqDiff,Nat.reduceBEq,Nat.reduceAdd,gLa,gLz,gLs,bne_self_eq_false]
  refine contL_call Tryz.pl62 ((rread w2 (ht.no f02) wd n2.rd (hr.fr0 f02) asc hl64).mono ?_)
  rintro r w3 ⟨f3,h3⟩
  have f03:=f02.trans f3
  have n3:=n2.fr0 f3
  have r3:=rd_d Tryz.agg34 Tryz.sz34 ((f2.trans f3).at k1 id) hkl
  cases hf:Wit.form wd l raw with
  | error e =>
   rw[hf] at h3
   subst h3
   have he:(e != 0)=true:=by rw[bne,form_err hf];rfl
   simp -implicitDefEqProofs only[go_sem,Nat.reduceEqDiff,Nat.reduceBEq,Nat.reduceAdd,gLa,gLz,gLs,he]
   exact⟨f03,trivial⟩
  | ok o =>
   rw[hf] at h3
   cases o with
   | none =>
    subst h3
    have hl0:l=[]:=Wit.underP_none (w:=wd) (root:=[]) (raw:=raw) (by unfold Wit.underP;rw[hf])
    subst hl0
    simp -implicitDefEqProofs only[go_sem,Nat.reduceEqDiff,Nat.reduceBEq,Nat.reduceAdd,gLa,gLz,gLs,bne_self_eq_false,r3]
    refine contL_call Tryz.pl63 ((kcontains w3 n3.rd hkl (by simp)).mono ?_)
    rintro _ w4 ⟨f4,rfl⟩
    have d:decide (k ∈ ([]:List Bs))=false:=by simp
    simp -implicitDefEqProofs only[go_sem,Nat.reduceEqDiff,Nat.reduceBEq,Nat.reduceAdd,gLa,gLz,gLs,d]
    exact⟨f03.trans f4,trivial⟩
   | some t =>
    obtain⟨tv,rfl,hX⟩:=h3
    obtain⟨u,tb,B,rfl,g1,g2,T3,nd,bd⟩:=hX
    obtain⟨hok,hkeys,htop,_⟩:=Wit.form_ok asc l32 hf
    simp -implicitDefEqProofs only[go_sem,Nat.reduceEqDiff,Nat.reduceBEq,Nat.reduceAdd,gLa,gLz,gLs,bne_self_eq_false,r3]
    refine contL_call Tryz.pl63 ((kcontains w3 n3.rd hkl (by omega)).mono ?_)
    rintro _ w4 ⟨f4,rfl⟩
    by_cases hm:k ∈ l
    ·have d:decide (k ∈ l)=true:=decide_eq_true hm
     have r4:=rd_d Tryz.agg34 Tryz.sz34 (((f2.trans f3).trans f4).at k1 id) hkl
     simp -implicitDefEqProofs only[go_sem,Nat.reduceEqDiff,Nat.reduceBEq,Nat.reduceAdd,gLa,gLz,gLs,d,r4]
     refine contL_call Tryz.pl51 ((single u w4 (ht.no (f03.trans f4)) wd (T3.fr0 f4) hok htop (g2.trans f4) (by rw[hkeys];exact hm)).mono ?_)
     rintro v w5 ⟨n5,f5⟩
     rw[if_pos hm]
     simp -implicitDefEqProofs only[go_sem,Nat.reduceEqDiff,Nat.reduceBEq,Nat.reduceAdd,gLa,gLz,gLs]
     exact⟨(f03.trans f4).trans f5,v,rfl,n5.back (f03.trans f4).size⟩
    ·have d:decide (k ∈ l)=false:=decide_eq_false hm
     rw[if_neg hm]
     simp -implicitDefEqProofs only[go_sem,Nat.reduceEqDiff,Nat.reduceBEq,Nat.reduceAdd,gLa,gLz,gLs,d]
     exact⟨f03.trans f4,trivial⟩
end Go.V
end
