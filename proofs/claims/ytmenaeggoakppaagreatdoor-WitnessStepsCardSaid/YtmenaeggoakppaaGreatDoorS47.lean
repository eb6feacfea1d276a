/-
 Helpers: R3B, R3C.
-/
import Derived.Test.YtmenaeggoakppaaGreatDoorS46
import Derived.Test.YtmenaeggoakppaaGreatDoorS40
set_option linter.all false
section
namespace Go.V
open Go.Proofs Sha
set_option maxRecDepth 100000
namespace R
theorem chC_setk {ks:Bs} {j:Nat} (hj:j<32) (hl:j<ks.length) (d:Bool) (v:Value):(chC (ks.take j++List.replicate (32 - j) 0) d v).setIfInBounds j (u8 (ks.getD j 0))=chC (ks.take (j+1)++List.replicate (32 - (j+1)) 0) d v:=by
 apply Array.toList_inj.1
 have h1:(ks.take j).length=j:=by rw[List.length_take];omega
 have h2:List.replicate (32 - j) (0:Byte)=0::List.replicate (32 - (j+1)) 0:=by rw[show 32 - j=(32 - (j+1))+1 by omega,List.replicate_succ]
 have h3:ks.take (j+1)=ks.take j++[ks.getD j 0]:=by rw[List.take_succ_eq_append_getElem hl,getD_lt _ hl]
 rw[Array.toList_setIfInBounds,h2,h3]
 simp only[chC,List.map_append,List.map_cons,List.append_assoc,List.cons_append,List.map_nil,List.nil_append]
 rw[List.set_append_right _ _ (by rw[List.length_map,h1];exact Nat.le_refl _),List.length_map,h1,Nat.sub_self,List.set_cons_zero]
def OnQ (w0:World) (s:Bs) (y:Except Int (Bat.Ch × Bs)) (r:Value) (w':World):Prop:=No w0 w'∧∃ k d v m e,r=.tuple #[.agg (chC k d v),.int .i64 m,.int .i64 e]∧k.length=32∧one v=true∧match y with
 | .error e'=>e=e'
 | .ok p=>e=0∧p.1.key=k∧p.1.del=d∧NwB w0 w' v p.1.val∧(d=true→v=.slice Option.none 0 0)∧∃ n:Nat,m=(n:Int)∧n≤s.length∧p.2=s.drop n
def okI (w0:World) (sv:Value) (at':Nat) (s:Bs) (n:Nat) (vs:List Value) (w:World):Prop :=
 ∃ (j:Nat),vs=[sv,.int .i64 (at':Nat),pt w0.heap.size 0,pt (w0.heap.size+1) 0,.int .i64 (j:Nat)]∧j≤32∧n=32 - j∧No w0 w∧w.heap[w0.heap.size]?=some (.cells (chC (List.replicate 32 0) false (.slice Option.none 0 0)) 181 (0,0)) ∧
  w.heap[w0.heap.size+1]?=some (.cells (chC ((s.drop (at'+1)).take j++List.replicate (32 - j) 0) false (.slice Option.none 0 0)) 181 (0,0))
set_option maxHeartbeats 2000000 in
theorem one3 (w0:World) {rv:Value} {s:Bs} (hr:By w0 rv s) (hl:s.length≤2 ^ 50) (at':Nat) (hat:at'≤s.length):Fn Tryz.prog 183 #[rv,.int .i64 (at':Nat)] w0 (OnQ w0 s (Bat.takeP (s.drop at'))):=by
 refine Tryz.go183 (by simp) ?_
 obtain⟨xa,xc,rfl,hxc⟩:=hr.slice
 obtain⟨W,hW,f1,k1,k2,s1⟩:=allocs2 w0 (chC (List.replicate 32 0) false (.slice Option.none 0 0)) 181 (chC (List.replicate 32 0) false (.slice Option.none 0 0)) 181
 have z32:(List.replicate 32 (0:Byte)).length=32:=List.length_replicate
 have fin : ∀ (w : World) (k : Bs) (d : Bool) (v : Value), w.heap[w0.heap.size]? = some (.cells (chC (List.replicate 32 0) false (.slice Option.none 0 0)) 181 (0, 0)) → k.length = 32 → one v = true →
     wrO Tryz.prog 181 w w0.heap.size 0 (.agg (chC k d v)) = some (put w w0.heap.size (.cells (chC k d v) 181 (0,0))) ∧ rdO Tryz.prog 181 (put w w0.heap.size (.cells (chC k d v) 181 (0,0))) w0.heap.size 0 = some (.agg (chC k d v)) := fun w k d v h hk hv =>
  ⟨wr_all (by rw[chC_size d v hk];exact Tryz.sz181) h (by rw[chC_size _ _ z32,chC_size _ _ hk]) (chC_one d hv),rd_all Tryz.agg181 (by rw[chC_size d v hk];exact Tryz.sz181) (put_at (o:=.cells (chC k d v) 181 (0,0)) h)⟩
 have rdc:∀ (w:World) (k:Bs) (d:Bool) (v:Value),w.heap[w0.heap.size+1]?=some (.cells (chC k d v) 181 (0,0))→k.length=32→rdO Tryz.prog 181 w (w0.heap.size+1) 0=some (.agg (chC k d v)):=fun w k d v h hk =>
  rd_all Tryz.agg181 (by rw[chC_size d v hk];exact Tryz.sz181) h
 have lst:∀ (w:World) (c:Array Value),No w0 w→No w0 (put w w0.heap.size (.cells c 181 (0,0))):=fun w c h=>h.put (b:=w0.heap.size) _ fun h=>absurd h (Nat.lt_irrefl _)
 have lst1:∀ (w:World) (c:Array Value),No w0 w→No w0 (put w (w0.heap.size+1) (.cells c 181 (0,0))):=fun w c h=>h.put (b:=w0.heap.size+1) _ fun h=>by omega
 obtain⟨qe,le⟩:=fin W _ false (.slice Option.none 0 0) k1 z32 rfl
 have re:=rdc W _ _ _ k2 z32
 have hdl:(s.drop at').length=s.length - at':=List.length_drop
 have gd:∀ i,(s.drop at').getD i 0=s.getD (at'+i) 0:=fun i=>by simp[List.getD_eq_getElem?_getD,List.getElem?_drop]
 have a33:IntKind.i64.wrap ((at':Int)+33)=((at'+33:Nat):Int):=i64add (b:=33) (by omega)
 by_cases h0:s.length≤at'
 ·have d1:decide ((at':Int) ≥ ((s.length:Nat):Int))=true:=decide_eq_true (by omega)
  simp -implicitDefEqProofs only[go_sem,Nat.reduceEqDiff,Nat.reduceBEq,Nat.reduceAdd,gLa,gLz,gLs,Tryz.f183,Value.cells,chC_zero,hW,d1,re,qe,le]
  refine⟨lst _ _ f1,_,_,_,_,_,rfl,z32,rfl,?_⟩
  have:Bat.takeP (s.drop at')=.error 30:=by unfold Bat.takeP;rw[if_pos (.inl (by omega))]
  rw[this]
 have d1:decide ((at':Int) ≥ ((s.length:Nat):Int))=false:=decide_eq_false (by omega)
 obtain⟨b,o,cap,he,hcap⟩:=hr.pos (by omega)
 cases he
 have hr1:=hr.fr0 f1
 have r0:rdO Tryz.prog 5 W b (o+at')=some (.int .u8 ((s.getD at' 0).toNat:Int)):=hr1.get (P:=Tryz.prog) Tryz.agg5 (i:=at') (by omega)
 have y0:(0:Int)≤(at':Int)∧(at':Int)<((s.length:Nat):Int):=by omega
 have g0:(s.drop at').getD 0 0=s.getD at' 0:=by rw[gd,Nat.add_zero]
 by_cases hb:s.getD at' 0≠1∧s.getD at' 0≠2
 ·have n1:(((s.getD at' 0).toNat:Int) != 1)=true:=by rw[bne_iff_ne];intro h;exact hb.1 (by apply BitVec.eq_of_toNat_eq;simpa using (by exact_mod_cast h:(s.getD at' 0).toNat=1))
  have n2:(((s.getD at' 0).toNat:Int) != 2)=true:=by rw[bne_iff_ne];intro h;exact hb.2 (by apply BitVec.eq_of_toNat_eq;simpa using (by exact_mod_cast h:(s.getD at' 0).toNat=2))
  simp -implicitDefEqProofs only[go_sem,Nat.reduceEqDiff,Nat.reduceBEq,Nat.reduceAdd,gLa,gLz,gLs,Tryz.f183,Value.cells,chC_zero,hW,d1,y0,and_self,Int.toNat_natCast,Nat.mul_one,r0,n1,n2,ft_beq,tf_beq,beq_self_eq_true,re,qe,le]
  refine⟨lst _ _ f1,_,_,_,_,_,rfl,z32,rfl,?_⟩
  have:Bat.takeP (s.drop at')=.error 30:=by unfold Bat.takeP;rw[if_pos (.inr (by rw[g0];exact hb))]
  rw[this]
 have hb12:s.getD at' 0=1∨s.getD at' 0=2:=by
  by_cases h1:s.getD at' 0=1
  ·exact .inl h1
  ·by_cases h2:s.getD at' 0=2
   ·exact .inr h2
   ·exact absurd ⟨h1,h2⟩ hb
 obtain⟨dl,hdl',n3,n1,n2⟩:∃ dl:Bool,(dl=true ↔ s.getD at' 0=2)∧(((s.getD at' 0).toNat:Int) == 2)=dl∧(((s.getD at' 0).toNat:Int) != 1)=dl∧(((s.getD at' 0).toNat:Int) != 2)=!dl:=by
  rcases hb12 with h | h <;> rw[h]
  ·exact⟨false,by simp,rfl,rfl,rfl⟩
  ·exact⟨true,by simp,rfl,rfl,rfl⟩
 by_cases h33:s.length<at'+33
 ·have d2:decide (((at'+33:Nat):Int) > ((s.length:Nat):Int))=true:=decide_eq_true (by omega)
  have:Bat.takeP (s.drop at')=.error 30:=by unfold Bat.takeP;rw[if_pos (.inl (by omega))]
  rw[this]
  cases dl with
  | true =>
   simp only[Bool.not_true] at n2
   simp -implicitDefEqProofs only[go_sem,Nat.reduceEqDiff,Nat.reduceBEq,Nat.reduceAdd,gLa,gLz,gLs,Tryz.f183,Value.cells,chC_zero,hW,d1,y0,and_self,Int.toNat_natCast,Nat.mul_one,r0,n1,n2,a33,d2,ft_beq,tf_beq,beq_self_eq_true,re,qe,le]
   exact⟨lst _ _ f1,_,_,_,_,_,rfl,z32,rfl,rfl⟩
  | false =>
   simp only[Bool.not_false] at n2
   simp -implicitDefEqProofs only[go_sem,Nat.reduceEqDiff,Nat.reduceBEq,Nat.reduceAdd,gLa,gLz,gLs,Tryz.f183,Value.cells,chC_zero,hW,d1,y0,and_self,Int.toNat_natCast,Nat.mul_one,r0,n1,n2,a33,d2,ft_beq,tf_beq,beq_self_eq_true,re,qe,le]
   exact⟨lst _ _ f1,_,_,_,_,_,rfl,z32,rfl,rfl⟩
 have d2:decide (((at'+33:Nat):Int) > ((s.length:Nat):Int))=false:=decide_eq_false (by omega)
 cases dl with
 | true =>
  simp only[Bool.not_true] at n2
  simp -implicitDefEqProofs only[go_sem,Nat.reduceEqDiff,Nat.reduceBEq,Nat.reduceAdd,gLa,gLz,gLs,Tryz.f183,Value.cells,chC_zero,hW,d1,y0,and_self,Int.toNat_natCast,Nat.mul_one,r0,n1,n2,a33,d2,ft_beq,tf_beq,beq_self_eq_true]
  refine loopD [0,1,4,7,8] (okI w0 (.slice (some ⟨b,o,Option.none⟩) s.length xc) at' s) 32 ⟨0,rfl,by omega,rfl,f1,k1,k2⟩ ?_
  rintro _ vs w g ⟨j,rfl,hj,rfl,fw,j1,j2⟩
  by_cases hj32:j<32
  ·have d3:decide ((j:Int)<32)=true:=decide_eq_true (by omega)
   have c1:IntKind.i64.wrap ((at':Int)+1)=((at'+1:Nat):Int):=i64add (b:=1) (by omega)
   have c2:IntKind.i64.wrap (((at'+1:Nat):Int)+(j:Int))=((at'+1+j:Nat):Int):=i64add (b:=j) (by omega)
   have c3:IntKind.i64.wrap ((j:Int)+1)=((j+1:Nat):Int):=i64add (b:=1) (by omega)
   have rj:rdO Tryz.prog 5 w b (o+(at'+1+j))=some (.int .u8 ((s.getD (at'+1+j) 0).toNat:Int)):=(hr.fr0 fw).get (P:=Tryz.prog) Tryz.agg5 (by omega)
   have y1:(0:Int)≤((at'+1+j:Nat):Int)∧((at'+1+j:Nat):Int)<((s.length:Nat):Int):=by omega
   have y2:(0:Int)≤(j:Int)∧(j:Int)<((32:Nat):Int):=by omega
   have y3:=y2.2
   have gj:(s.drop (at'+1)).getD j 0=s.getD (at'+1+j) 0:=by simp[List.getD_eq_getElem?_getD,List.getElem?_drop]
   have wj:=wr1 (P:=Tryz.prog) (t:=5) (w:=w) (b:=w0.heap.size+1) (o:=j) (v:=u8 ((s.drop (at'+1)).getD j 0)) Tryz.sz5 rfl j2 (by rw[chC_size _ _ (by simp;omega)];omega)
   rw[chC_setk hj32 (by simp;omega),gj] at wj
   have wj:wrO Tryz.prog 5 w (w0.heap.size+1) j (.int .u8 ((s.getD (at'+1+j) 0).toNat:Int))=_:=wj
   have j3:=put_at (o:=.cells (chC ((s.drop (at'+1)).take (j+1)++List.replicate (32 - (j+1)) 0) false (.slice Option.none 0 0)) 181 (0,0)) j2
   have j4:=put_off (b:=w0.heap.size+1) (o:=.cells (chC ((s.drop (at'+1)).take (j+1)++List.replicate (32 - (j+1)) 0) false (.slice Option.none 0 0)) 181 (0,0)) j1 (by omega)
   simp -implicitDefEqProofs only[go_sem,Nat.reduceEqDiff,Nat.reduceBEq,Nat.reduceAdd,gLa,gLz,gLs,d3,c1,c2,c3,y1,y2,y3,and_self,Int.toNat_natCast,Nat.mul_one,Nat.zero_add,rj,wj]
   exact⟨32 - (j+1),by omega,j+1,rfl,by omega,rfl,lst1 _ _ fw,j4,j3⟩
  have d3:decide ((j:Int)<32)=false:=decide_eq_false (by omega)
  obtain rfl:j=32:=by omega
  rw[Nat.sub_self,List.replicate_zero,List.append_nil] at j2
  have hkey:((s.drop at').drop 1).take 32=(s.drop (at'+1)).take 32:=by rw[List.drop_drop]
  have htk:Bat.takeP (s.drop at')=.ok (⟨(s.drop (at'+1)).take 32,true,[]⟩,s.drop (at'+33)):=by
   unfold Bat.takeP
   rw[if_neg (by rw[not_or,g0];exact⟨by omega,hb⟩),if_pos (by rw[g0];exact hdl'.1 rfl),hkey,List.drop_drop]
  have kl:((s.drop (at'+1)).take 32).length=32:=by simp;omega
  rw[htk]
  generalize (s.drop (at'+1)).take 32=key at *
  have r5:rdO Tryz.prog 5 w b (o+at')=some (.int .u8 ((s.getD at' 0).toNat:Int)):=(hr.fr0 fw).get (P:=Tryz.prog) Tryz.agg5 (i:=at') (by omega)
  have w6:=wr1 (P:=Tryz.prog) (t:=4) (w:=w) (b:=w0.heap.size+1) (o:=32) (v:=.bool true) Tryz.sz4 rfl j2 (by rw[chC_size _ _ kl];omega)
  rw[chC_flag kl] at w6
  have k6:=put_at (o:=.cells (chC key true (.slice Option.none 0 0)) 181 (0,0)) j2
  have k16:=put_off (b:=w0.heap.size+1) (o:=.cells (chC key true (.slice Option.none 0 0)) 181 (0,0)) j1 (by omega)
  have f6:=lst1 w (chC key true (.slice Option.none 0 0)) fw
  generalize put w (w0.heap.size+1) (.cells (chC key true (.slice Option.none 0 0)) 181 (0,0))=W6 at *
  have rc6:=rdc W6 _ _ _ k6 kl
  obtain⟨q6,l6⟩:=fin W6 key true (.slice Option.none 0 0) k16 kl rfl
  simp -implicitDefEqProofs only[go_sem,Nat.reduceEqDiff,Nat.reduceBEq,Nat.reduceAdd,gLa,gLz,gLs,d3,y0,and_self,Int.toNat_natCast,Nat.mul_one,r5,n3,w6,rc6,a33,q6,l6]
  exact⟨lst _ _ f6,_,_,_,_,_,rfl,kl,rfl,rfl,rfl,rfl,NwB.nil _ _,fun _=>rfl,at'+33,rfl,by omega,rfl⟩
 | false =>
  simp only[Bool.not_false] at n2
  simp -implicitDefEqProofs only[go_sem,Nat.reduceEqDiff,Nat.reduceBEq,Nat.reduceAdd,gLa,gLz,gLs,Tryz.f183,Value.cells,chC_zero,hW,d1,y0,and_self,Int.toNat_natCast,Nat.mul_one,r0,n1,n2,a33,d2,ft_beq,tf_beq,beq_self_eq_true]
  refine loopD [0,1,4,7,8] (okI w0 (.slice (some ⟨b,o,Option.none⟩) s.length xc) at' s) 32 ⟨0,rfl,by omega,rfl,f1,k1,k2⟩ ?_
  rintro _ vs w g ⟨j,rfl,hj,rfl,fw,j1,j2⟩
  by_cases hj32:j<32
  ·have d3:decide ((j:Int)<32)=true:=decide_eq_true (by omega)
   have c1:IntKind.i64.wrap ((at':Int)+1)=((at'+1:Nat):Int):=i64add (b:=1) (by omega)
   have c2:IntKind.i64.wrap (((at'+1:Nat):Int)+(j:Int))=((at'+1+j:Nat):Int):=i64add (b:=j) (by omega)
   have c3:IntKind.i64.wrap ((j:Int)+1)=((j+1:Nat):Int):=i64add (b:=1) (by omega)
   have rj:rdO Tryz.prog 5 w b (o+(at'+1+j))=some (.int .u8 ((s.getD (at'+1+j) 0).toNat:Int)):=(hr.fr0 fw).get (P:=Tryz.prog) Tryz.agg5 (by omega)
   have y1:(0:Int)≤((at'+1+j:Nat):Int)∧((at'+1+j:Nat):Int)<((s.length:Nat):Int):=by omega
   have y2:(0:Int)≤(j:Int)∧(j:Int)<((32:Nat):Int):=by omega
   have y3:=y2.2
   have gj:(s.drop (at'+1)).getD j 0=s.getD (at'+1+j) 0:=by simp[List.getD_eq_getElem?_getD,List.getElem?_drop]
   have wj:=wr1 (P:=Tryz.prog) (t:=5) (w:=w) (b:=w0.heap.size+1) (o:=j) (v:=u8 ((s.drop (at'+1)).getD j 0)) Tryz.sz5 rfl j2 (by rw[chC_size _ _ (by simp;omega)];omega)
   rw[chC_setk hj32 (by simp;omega),gj] at wj
   have wj:wrO Tryz.prog 5 w (w0.heap.size+1) j (.int .u8 ((s.getD (at'+1+j) 0).toNat:Int))=_:=wj
   have j3:=put_at (o:=.cells (chC ((s.drop (at'+1)).take (j+1)++List.replicate (32 - (j+1)) 0) false (.slice Option.none 0 0)) 181 (0,0)) j2
   have j4:=put_off (b:=w0.heap.size+1) (o:=.cells (chC ((s.drop (at'+1)).take (j+1)++List.replicate (32 - (j+1)) 0) false (.slice Option.none 0 0)) 181 (0,0)) j1 (by omega)
   simp -implicitDefEqProofs only[go_sem,Nat.reduceEqDiff,Nat.reduceBEq,Nat.reduceAdd,gLa,gLz,gLs,d3,c1,c2,c3,y1,y2,y3,and_self,Int.toNat_natCast,Nat.mul_one,Nat.zero_add,rj,wj]
   exact⟨32 - (j+1),by omega,j+1,rfl,by omega,rfl,lst1 _ _ fw,j4,j3⟩
  have d3:decide ((j:Int)<32)=false:=decide_eq_false (by omega)
  obtain rfl:j=32:=by omega
  rw[Nat.sub_self,List.replicate_zero,List.append_nil] at j2
  have hkey:((s.drop at').drop 1).take 32=(s.drop (at'+1)).take 32:=by rw[List.drop_drop]
  have kl:((s.drop (at'+1)).take 32).length=32:=by simp;omega
  have hs2:¬ s.getD at' 0=2:=fun h=>by have:=hdl'.2 h;cases this
  have htk : Bat.takeP (s.drop at') = if s.length < at' + 35 then .error 30
      else if 128 < (s.getD (at' + 33) 0).toNat + 256 * (s.getD (at' + 34) 0).toNat then .error 32
      else if s.length < at' + 35 + ((s.getD (at' + 33) 0).toNat + 256 * (s.getD (at' + 34) 0).toNat) then .error 30
      else .ok (⟨(s.drop (at' + 1)).take 32,false,(s.drop (at' + 35)).take ((s.getD (at' + 33) 0).toNat + 256 * (s.getD (at' + 34) 0).toNat)⟩,s.drop (at' + 35 + ((s.getD (at' + 33) 0).toNat + 256 * (s.getD (at' + 34) 0).toNat))) := by
   unfold Bat.takeP
   rw[if_neg (by rw[not_or,g0];exact⟨by omega,hb⟩),if_neg (by rw[g0];exact hs2),hkey,gd,gd,hdl]
   simp only[List.drop_drop]
   by_cases e1:s.length<at'+35
   ·rw[if_pos e1,if_pos (by omega)]
   rw[if_neg e1,if_neg (by omega)]
   split
   ·rfl
   ·by_cases e2:s.length<at'+35+((s.getD (at'+33) 0).toNat+256*(s.getD (at'+34) 0).toNat)
    ·rw[if_pos e2,if_pos (by omega)]
    ·rw[if_neg e2,if_neg (by omega),Nat.add_assoc at' 35]
  rw[htk]
  have r5:rdO Tryz.prog 5 w b (o+at')=some (.int .u8 ((s.getD at' 0).toNat:Int)):=(hr.fr0 fw).get (P:=Tryz.prog) Tryz.agg5 (i:=at') (by omega)
  have c35:IntKind.i64.wrap (((at'+33:Nat):Int)+2)=((at'+35:Nat):Int):=i64add (b:=2) (by omega)
  have rc4:=rdc w _ _ _ j2 kl
  generalize (s.drop (at'+1)).take 32=key at *
  obtain⟨q4,l4⟩:=fin w key false (.slice Option.none 0 0) j1 kl rfl
  obtain⟨q4d,l4d⟩:=fin w.drew key false (.slice Option.none 0 0) j1 kl rfl
  by_cases h35:s.length<at'+35
  ·have d5:decide (((at'+35:Nat):Int) > ((s.length:Nat):Int))=true:=decide_eq_true (by omega)
   simp -implicitDefEqProofs only[go_sem,Nat.reduceEqDiff,Nat.reduceBEq,Nat.reduceAdd,gLa,gLz,gLs,d3,y0,and_self,Int.toNat_natCast,Nat.mul_one,r5,n3,a33,c35,d5,rc4,q4,l4]
   refine⟨lst _ _ fw,_,_,_,_,_,rfl,kl,rfl,?_⟩
   rw[if_pos h35]
  have d5:decide (((at'+35:Nat):Int) > ((s.length:Nat):Int))=false:=decide_eq_false (by omega)
  have c34:IntKind.i64.wrap (((at'+33:Nat):Int)+1)=((at'+34:Nat):Int):=i64add (b:=1) (by omega)
  have r6:rdO Tryz.prog 5 w b (o+(at'+33))=some (.int .u8 ((s.getD (at'+33) 0).toNat:Int)):=(hr.fr0 fw).get (P:=Tryz.prog) Tryz.agg5 (i:=at'+33) (by omega)
  have r7:rdO Tryz.prog 5 w b (o+(at'+34))=some (.int .u8 ((s.getD (at'+34) 0).toNat:Int)):=(hr.fr0 fw).get (P:=Tryz.prog) Tryz.agg5 (i:=at'+34) (by omega)
  have y6:(0:Int)≤((at'+33:Nat):Int)∧((at'+33:Nat):Int)<((s.length:Nat):Int):=by omega
  have y7:(0:Int)≤((at'+34:Nat):Int)∧((at'+34:Nat):Int)<((s.length:Nat):Int):=by omega
  have b6:=(s.getD (at'+33) 0).isLt
  have b7:=(s.getD (at'+34) 0).isLt
  have e6:IntKind.i64.wrap ((s.getD (at'+33) 0).toNat:Int)=(((s.getD (at'+33) 0).toNat:Nat):Int):=i64n (by omega)
  have e7:IntKind.i64.wrap ((s.getD (at'+34) 0).toNat:Int)=(((s.getD (at'+34) 0).toNat:Nat):Int):=i64n (by omega)
  have m7:IntKind.i64.wrap (256*((s.getD (at'+34) 0).toNat:Int))=((256*(s.getD (at'+34) 0).toNat:Nat):Int):=by rw[show (256*((s.getD (at'+34) 0).toNat:Int))=((256*(s.getD (at'+34) 0).toNat:Nat):Int) by push_cast;rfl];exact i64n (by omega)
  have s7:IntKind.i64.wrap (((s.getD (at'+33) 0).toNat:Int)+((256*(s.getD (at'+34) 0).toNat:Nat):Int))=(((s.getD (at'+33) 0).toNat+256*(s.getD (at'+34) 0).toNat:Nat):Int):=i64add (by omega)
  rw[if_neg h35]
  generalize (s.getD (at'+33) 0).toNat+256*(s.getD (at'+34) 0).toNat=n at *
  by_cases h128:128<n
  ·have d6:decide (((n:Nat):Int) > 128)=true:=decide_eq_true (by omega)
   simp -implicitDefEqProofs only[go_sem,Nat.reduceEqDiff,Nat.reduceBEq,Nat.reduceAdd,gLa,gLz,gLs,d3,y0,y6,y7,and_self,Int.toNat_natCast,Nat.mul_one,r5,n3,a33,c35,d5,c34,r6,r7,e6,e7,m7,s7,d6,rc4,q4d,l4d]
   refine⟨lst _ _ fw.drew,_,_,_,_,_,rfl,kl,rfl,?_⟩
   rw[if_pos h128]
  have d6:decide (((n:Nat):Int) > 128)=false:=decide_eq_false (by omega)
  have c36:IntKind.i64.wrap (((at'+35:Nat):Int)+((n:Nat):Int))=((at'+35+n:Nat):Int):=i64add (by omega)
  rw[if_neg h128]
  by_cases hsh:s.length<at'+35+n
  ·have d7:decide (((at'+35+n:Nat):Int) > ((s.length:Nat):Int))=true:=decide_eq_true (by omega)
   simp -implicitDefEqProofs only[go_sem,Nat.reduceEqDiff,Nat.reduceBEq,Nat.reduceAdd,gLa,gLz,gLs,d3,y0,y6,y7,and_self,Int.toNat_natCast,Nat.mul_one,r5,n3,a33,c35,d5,c34,r6,r7,e6,e7,m7,s7,d6,c36,d7,rc4,q4d,l4d]
   refine⟨lst _ _ fw.drew,_,_,_,_,_,rfl,kl,rfl,?_⟩
   rw[if_pos hsh]
  have d7:decide (((at'+35+n:Nat):Int) > ((s.length:Nat):Int))=false:=decide_eq_false (by omega)
  rw[if_neg hsh]
  have p8:=slc_both (P:=Tryz.prog) Tryz.slc25 Tryz.arr25 Tryz.sz5 (a:=some (⟨b,o,Option.none⟩:Addr)) (n:=s.length) (cap:=xc) (l:=at'+35) (m:=at'+35+n) (by omega) (by omega) hxc
  have h4:By w.drew (cutV 1 (some ⟨b,o,Option.none⟩) xc (at'+35) (at'+35+n)) ((s.drop (at'+35)).take n):=by
   have:=(hr.fr0 fw.drew).cutV (l:=at'+35) (m:=at'+35+n) (by omega) (by omega) rfl
   rwa [Nat.add_sub_cancel_left] at this
  simp -implicitDefEqProofs only[go_sem,Nat.reduceEqDiff,Nat.reduceBEq,Nat.reduceAdd,gLa,gLz,gLs,d3,y0,y6,y7,and_self,Int.toNat_natCast,Nat.mul_one,r5,n3,a33,c35,d5,c34,r6,r7,e6,e7,m7,s7,d6,c36,d7,p8]
  refine contL_call Tryz.pl211 ((bytes3 w.drew h4 (by simp;omega)).mono ?_)
  rintro v5 w5 ⟨b5,f5⟩
  have f05:No w0 w5:=fw.drew.trans f5
  have k5:=f5.at (show w.drew.heap[w0.heap.size+1]?=_ from j2) id
  have k15:=f5.at (show w.drew.heap[w0.heap.size]?=_ from j1) id
  have o5:one v5=true:=by obtain⟨a,c,rfl⟩:=b5.slice;rfl
  have lt5:∀ c,blockOf v5=some c→w0.heap.size+1<c:=fun c hc=>by
   have:=(b5.lt hc).1
   have h1:w0.heap.size+1<w.heap.size:=heap_lt j2
   have h2:w.heap.size≤c:=this
   omega
  have w6:=wr1 (P:=Tryz.prog) (t:=25) (w:=w5) (b:=w0.heap.size+1) (o:=33) (v:=v5) Tryz.sz25 o5 k5 (by rw[chC_size _ _ kl];omega)
  rw[chC_val kl] at w6
  have k6:=put_at (o:=.cells (chC key false v5) 181 (0,0)) k5
  have k16:=put_off (b:=w0.heap.size+1) (o:=.cells (chC key false v5) 181 (0,0)) k15 (by omega)
  have f6:=lst1 w5 (chC key false v5) f05
  have b6:=b5.put (b:=w0.heap.size+1) (.cells (chC key false v5) 181 (0,0)) fun c hc=>by have:=lt5 c hc;omega
  generalize put w5 (w0.heap.size+1) (.cells (chC key false v5) 181 (0,0))=W6 at *
  have rc6:=rdc W6 _ _ _ k6 kl
  obtain⟨q6,l6⟩:=fin W6 key false v5 k16 kl o5
  simp -implicitDefEqProofs only[go_sem,Nat.reduceEqDiff,Nat.reduceBEq,Nat.reduceAdd,gLa,gLz,gLs,w6,rc6,c36,q6,l6]
  refine⟨lst _ _ f6,_,_,_,_,_,rfl,kl,o5,rfl,rfl,rfl,?_,(fun h=>absurd h (by simp)),at'+35+n,rfl,by omega,rfl⟩
  exact (b6.put (b:=w0.heap.size) (.cells (chC key false v5) 181 (0,0)) fun c hc=>by have:=lt5 c hc;omega).back (show w0.heap.size≤w.heap.size from fw.size)
end R
end Go.V
end
section
namespace Go.V
open Go.Proofs Sha
set_option maxRecDepth 100000
namespace R
def psI (w0:World) (sv:Value) (s s0:Bs) (n:Nat) (m:Nat) (vs:List Value) (w:World):Prop :=
 ∃ (i at':Nat) (cv:Value) (l:List Bat.Ch) (rows:Rows),vs=[sv,.int .i64 (n:Nat),cv,.int .i64 (at':Nat),.int .i64 (i:Nat)]∧i≤n∧m=n - i∧at'≤s.length∧Bat.takesP i s0=.ok (l,s.drop at') ∧
  NwR w0 w 181 34 cv rows∧rows.length=l.length∧(∀ i (h:i<rows.length) (h':i<l.length),∃ vv,rows[i]=V.chRow l[i] vv∧one vv=true∧By w vv l[i].val∧(∀ b,blockOf vv=some b→b<w.heap.size∧blockOf cv≠some b)∧(l[i].del=true→vv=.slice Option.none 0 0)∧l[i].key.length=32)∧No w0 w
set_option maxHeartbeats 2000000 in
theorem parse3 (w0:World) {rv:Value} {s:Bs} (hr:By w0 rv s) (hl:s.length≤2 ^ 50):Fn Tryz.prog 138 #[rv] w0 (PsQ w0 (Bat.parseP s)):=by
 refine Tryz.go138 (by simp) ?_
 obtain⟨xa,xc,rfl,hxc⟩:=hr.slice
 by_cases h2:s.length<2
 ·have d0:decide (((s.length:Nat):Int)<2)=true:=decide_eq_true (by omega)
  simp -implicitDefEqProofs only[go_sem,Nat.reduceEqDiff,Nat.reduceBEq,Nat.reduceAdd,gLa,gLz,gLs,Tryz.f138,d0]
  have:Bat.parseP s=.error 30:=by unfold Bat.parseP;rw[if_pos h2]
  rw[this]
  exact⟨Fr.refl _ _,_,_,_,rfl,rfl⟩
 have d0:decide (((s.length:Nat):Int)<2)=false:=decide_eq_false (by omega)
 obtain⟨b,o,cap,he,hcap⟩:=hr.pos (by omega)
 cases he
 have r0:rdO Tryz.prog 5 w0 b o=some (.int .u8 ((s.getD 0 0).toNat:Int)):=by have:=hr.get (P:=Tryz.prog) Tryz.agg5 (i:=0) (by omega);rw[Nat.add_zero] at this;exact this
 have r1:rdO Tryz.prog 5 w0 b (o+1)=some (.int .u8 ((s.getD 1 0).toNat:Int)):=hr.get (P:=Tryz.prog) Tryz.agg5 (i:=1) (by omega)
 have r0d:rdO Tryz.prog 5 w0.drew b o=some (.int .u8 ((s.getD 0 0).toNat:Int)):=r0
 have r1d:rdO Tryz.prog 5 w0.drew b (o+1)=some (.int .u8 ((s.getD 1 0).toNat:Int)):=r1
 have y0:(0:Int)≤0∧(0:Int)<((s.length:Nat):Int):=by omega
 have y1:(0:Int)≤1∧(1:Int)<((s.length:Nat):Int):=by omega
 have b6:=(s.getD 0 0).isLt
 have b7:=(s.getD 1 0).isLt
 have c0:IntKind.i64.wrap ((s.getD 0 0).toNat:Int)=(((s.getD 0 0).toNat:Nat):Int):=i64n (by omega)
 have c1:IntKind.i64.wrap ((s.getD 1 0).toNat:Int)=(((s.getD 1 0).toNat:Nat):Int):=i64n (by omega)
 have m7:IntKind.i64.wrap (256*((s.getD 1 0).toNat:Int))=((256*(s.getD 1 0).toNat:Nat):Int):=by rw[show (256*((s.getD 1 0).toNat:Int))=((256*(s.getD 1 0).toNat:Nat):Int) by push_cast;rfl];exact i64n (by omega)
 have s7:IntKind.i64.wrap (((s.getD 0 0).toNat:Int)+((256*(s.getD 1 0).toNat:Nat):Int))=(((s.getD 0 0).toNat+256*(s.getD 1 0).toNat:Nat):Int):=i64add (by omega)
 have hpp : Bat.parseP s = if 64 < (s.getD 0 0).toNat + 256 * (s.getD 1 0).toNat then .error 31
     else match Bat.takesP ((s.getD 0 0).toNat + 256 * (s.getD 1 0).toNat) (s.drop 2) with
       | .error e => .error e
       | .ok (l,r) => if r ≠ [] then .error 30 else if (l.map Bat.Ch.key).Nodup then .ok l else .error 33 := by unfold Bat.parseP; rw [if_neg h2]; rfl
 rw[hpp]
 generalize (s.getD 0 0).toNat+256*(s.getD 1 0).toNat=n at *
 by_cases h64:64<n
 ·have dn:decide (((n:Nat):Int) > 64)=true:=decide_eq_true (by omega)
  simp -implicitDefEqProofs only[go_sem,Nat.reduceEqDiff,Nat.reduceBEq,Nat.reduceAdd,gLa,gLz,gLs,Tryz.f138,d0,y0,y1,and_self,Int.toNat_zero,Int.toNat_one,Nat.mul_one,Nat.zero_mul,Nat.add_zero,r0,r1,r0d,r1d,c0,c1,m7,s7,dn]
  rw[if_pos h64]
  exact⟨(Fr.refl _ _).drew,_,_,_,rfl,rfl⟩
 have dn:decide (((n:Nat):Int) > 64)=false:=decide_eq_false (by omega)
 rw[if_neg h64]
 obtain ⟨Y, hY⟩ : ∃ Y : Except Int (List Bat.Ch), Y = match Bat.takesP n (s.drop 2) with
       | .error e => .error e
       | .ok (l,r) => if r ≠ [] then .error 30 else if (l.map Bat.Ch.key).Nodup then .ok l else .error 33 := ⟨_,rfl⟩
 rw[← hY]
 simp -implicitDefEqProofs only[go_sem,Nat.reduceEqDiff,Nat.reduceBEq,Nat.reduceAdd,gLa,gLz,gLs,Tryz.f138,d0,y0,y1,and_self,Int.toNat_zero,Int.toNat_one,Nat.mul_one,Nat.zero_mul,Nat.add_zero,r0,r1,r0d,r1d,c0,c1,m7,s7,dn]
 refine loopD [0,5,6,7,8] (psI w0 (.slice (some ⟨b,o,Option.none⟩) s.length xc) s (s.drop 2) n) n ⟨0,2,.slice Option.none 0 0,[],[],rfl,by omega,rfl,by omega,rfl,NwR.nil _ _ _ _,rfl,(fun i h=>absurd h (by simp)),(Fr.refl _ _).drew⟩ ?_
 rintro _ vs w g ⟨i,at',cv,l,rows,rfl,hi,rfl,hat,htk,hN,hrows,hch,fw⟩
 by_cases hlt:i<n
 ·have d1:decide ((i:Int)<((n:Nat):Int))=true:=by simp;omega
  simp -implicitDefEqProofs only[go_sem,Nat.reduceEqDiff,Nat.reduceBEq,Nat.reduceAdd,gLa,gLz,gLs,d1]
  refine contL_call Tryz.pl183 ((one3 w (hr.fr0 fw) hl at' hat).mono ?_)
  rintro _ w2 ⟨f2,k,d,v,m,e,rfl,hk,ho,hm⟩
  have f02:=fw.trans f2
  have hsn:=Bat.takesP_snoc htk
  cases ht:Bat.takeP (s.drop at') with
  | error e' =>
   rw[ht] at hm hsn
   obtain rfl:e=e':=hm
   have hne:e≠0:=Wit.takeP_err ht
   have he0:(e != 0)=true:=by rw[bne_iff_ne];exact hne
   have hYe:Y=.error e:=by rw[hY,Bat.takesP_err hsn n (by omega)]
   obtain⟨W3,hW3,f3,k3,s3⟩:=allocs1 w2 (chC (List.replicate 32 0) false (.slice Option.none 0 0)) 181
   have q3:wrO Tryz.prog 181 W3 w2.heap.size 0 (.agg (chC k d v))=some (put W3 w2.heap.size (.cells (chC k d v) 181 (0,0))):=wr_all (by rw[chC_size d v hk];exact Tryz.sz181) k3 (by rw[chC_size _ _ List.length_replicate,chC_size _ _ hk]) (chC_one d ho)
   simp -implicitDefEqProofs only[go_sem,Nat.reduceEqDiff,Nat.reduceBEq,Nat.reduceAdd,gLa,gLz,gLs,Value.cells,chC_zero,hW3,q3,he0]
   rw[hYe]
   exact⟨(f02.trans f3).put (b:=w2.heap.size) _ fun h=>by have:=f02.size;omega,_,_,_,rfl,rfl⟩
  | ok p =>
   rw[ht] at hm hsn
   obtain⟨rfl,hck,hcd,nv,dv,m',rfl,hm',hp2⟩:=hm
   obtain⟨c,r2⟩:=p
   simp only at hck hcd nv hp2 hsn
   subst hck hcd hp2
   obtain⟨W3,hW3,f3,k3,s3⟩:=allocs1 w2 (chC (List.replicate 32 0) false (.slice Option.none 0 0)) 181
   have q3:wrO Tryz.prog 181 W3 w2.heap.size 0 (.agg (chC c.key c.del v))=some (put W3 w2.heap.size (.cells (chC c.key c.del v) 181 (0,0))):=wr_all (by rw[chC_size _ v hk];exact Tryz.sz181) k3 (by rw[chC_size _ _ List.length_replicate,chC_size _ _ hk]) (chC_one _ ho)
   have k4:=put_at (o:=.cells (chC c.key c.del v) 181 (0,0)) k3
   have f24:No w2 (put W3 w2.heap.size (.cells (chC c.key c.del v) 181 (0,0))):=f3.put (b:=w2.heap.size) _ fun h=>absurd h (Nat.lt_irrefl _)
   have f4:No w0 (put W3 w2.heap.size (.cells (chC c.key c.del v) 181 (0,0))):=f02.trans f24
   obtain⟨w4,hw4⟩:∃ w4,w4=put W3 w2.heap.size (.cells (chC c.key c.del v) 181 (0,0)):=⟨_,rfl⟩
   rw[← hw4] at q3 k4 f24 f4
   have r4:rdO Tryz.prog 181 w4 w2.heap.size 0=some (.agg (chC c.key c.del v)):=rd_all Tryz.agg181 (by rw[chC_size _ v hk];exact Tryz.sz181) k4
   simp -implicitDefEqProofs only[go_sem,Nat.reduceEqDiff,Nat.reduceBEq,Nat.reduceAdd,gLa,gLz,gLs,Value.cells,chC_zero,hW3,q3,bne_self_eq_false,r4]
   refine contL_is (v:=.slice (some ⟨w4.heap.size,0,Option.none⟩) 1 1) (w':=w4.alloc (.cells (chC c.key c.del v) 181)) (fill_oneN (K:=34) (by decide) (by decide) (by simp[chC]) (by simp[chC]) (chC_size _ _ hk) _) ?_
   have hN4:=(hN.fr0 f2).fr0 f24
   obtain⟨v8,w8,hr8,b8,g8,m8⟩:=hN4.push (P:=Tryz.prog) Tryz.app151_151 (xs:=V.chRow c v) (by simp[V.chRow,hk]) (by have:=chC_one (k:=c.key) c.del ho;rw[← Array.all_toList] at this;simpa [chC,V.chRow] using this) (by decide) (by have:=(Bat.takesP_ok htk).1;omega) (by have:=(Bat.takesP_ok htk).1;omega) f4.size
   have hr8:(Builtin.append_ #[151,151] 0 #[cv,.slice (some ⟨w4.heap.size,0,Option.none⟩) 1 1]).run Tryz.prog (w4.alloc (.cells (chC c.key c.del v) 181))=.ok v8 w8:=hr8
   have f8:No w0 w8:=f4.trans' g8 fun b' hb' h=>by have:=(hN.lt h).1;omega
   have c1:IntKind.i64.wrap ((i:Int)+1)=((i+1:Nat):Int):=i64add (b:=1) (by omega)
   simp -implicitDefEqProofs only[go_sem,Nat.reduceEqDiff,Nat.reduceBEq,Nat.reduceAdd,gLa,gLz,gLs]
   refine contL_sem ⟨v8,w8,hr8,?_⟩
   simp -implicitDefEqProofs only[go_sem,Nat.reduceEqDiff,Nat.reduceBEq,Nat.reduceAdd,gLa,gLz,gLs,c1]
   have s24:=f24.size
   have s2:=f2.size
   have s8:=g8.size
   refine⟨n - (i+1),by omega,i+1,m',v8,l++[c],rows++[V.chRow c v],rfl,by omega,rfl,hm',hsn,b8,by simp[hrows],?_,f8⟩
   ·have hcv:∀ b',blockOf cv=some b'→b'<w.heap.size:=fun b' h=>(hN.lt h).2
    intro q hq hq'
    by_cases hql:q<rows.length
    ·obtain⟨vv,a1,a2,a3,a4,a5,a6⟩:=hch q hql (by omega)
     have el:(l++[c])[q]=l[q]'(by omega):=List.getElem_append_left (by omega)
     rw[el]
     refine⟨vv,by rw[List.getElem_append_left hql];exact a1,a2,?_,fun b' h=>⟨by have:=(a4 b' h).1;omega,fun h'=>?_⟩,a5,a6⟩
     ·exact ((a3.fr0 f2).fr0 f24).fr g8 fun b' h _ h'=>(a4 b' h).2 h'
     ·rcases m8 b' h' with h'' | h''
      ·exact (a4 b' h).2 h''
      ·have:=(a4 b' h).1;omega
    ·obtain rfl:q=rows.length:=by simp at hq;omega
     have el:(l++[c])[rows.length]'hq'=c:=by simp[hrows]
     rw[el]
     refine⟨v,by simp,ho,?_,fun b' h=>⟨by have:=(nv.lt h).2;omega,fun h'=>?_⟩,dv,hk⟩
     ·exact (nv.by.fr0 f24).fr g8 fun b' h _ h'=>by have:=(nv.lt h).1;have:=hcv b' h';omega
     ·rcases m8 b' h' with h'' | h''
      ·have:=(nv.lt h).1;have:=hcv b' h'';omega
      ·have:=(nv.lt h).2;omega
 ·have d1:decide ((i:Int)<((n:Nat):Int))=false:=by simp;omega
  obtain rfl:i=n:=by omega
  rw[htk] at hY
  by_cases hr0:at'=s.length
  ·have d2:(((at':Nat):Int) != ((s.length:Nat):Int))=false:=by rw[hr0];simp
   have hd0:s.drop at'=[]:=List.drop_of_length_le (by omega)
   replace hY:Y=if (l.map Bat.Ch.key).Nodup then .ok l else .error 33:=by rw[hY];exact if_neg (by simp[hd0])
   have hC:ChN w0 w cv l:=⟨rows,hN,hrows,fun i a b=>by
    obtain⟨vv,e1,e2,e3,_,e5,e6⟩:=hch i a b
    exact⟨vv,e1,e2,e3,e5,e6⟩⟩
   simp -implicitDefEqProofs only[go_sem,Nat.reduceEqDiff,Nat.reduceBEq,Nat.reduceAdd,gLa,gLz,gLs,d1,d2]
   refine contL_call Tryz.pl184 ((twice w hC.rd (by have:=(Bat.takesP_ok htk).1;omega)).mono ?_)
   rintro _ w2 ⟨f2,z,rfl,hz⟩
   by_cases hz0:0≤z
   ·have d3:decide (z ≥ 0)=true:=decide_eq_true hz0
    rw[if_neg (hz.1 hz0)] at hY
    simp -implicitDefEqProofs only[go_sem,Nat.reduceEqDiff,Nat.reduceBEq,Nat.reduceAdd,gLa,gLz,gLs,d3]
    rw[hY]
    exact⟨fw.trans f2,_,_,_,rfl,rfl⟩
   ·have d3:decide (z ≥ 0)=false:=decide_eq_false hz0
    rw[if_pos (by by_cases h:(l.map Bat.Ch.key).Nodup;exact h;exact absurd (hz.2 h) hz0)] at hY
    simp -implicitDefEqProofs only[go_sem,Nat.reduceEqDiff,Nat.reduceBEq,Nat.reduceAdd,gLa,gLz,gLs,d3]
    rw[hY]
    exact⟨fw.trans f2,_,_,_,rfl,rfl,hC.fr0 f2⟩
  ·have d2:(((at':Nat):Int) != ((s.length:Nat):Int))=true:=by rw[bne_iff_ne];omega
   have hd0:s.drop at'≠[]:=fun h=>by have:=congrArg List.length h;simp at this;omega
   replace hY:Y=.error 30:=by rw[hY];exact if_pos hd0
   simp -implicitDefEqProofs only[go_sem,Nat.reduceEqDiff,Nat.reduceBEq,Nat.reduceAdd,gLa,gLz,gLs,d1,d2]
   rw[hY]
   exact⟨fw,_,_,_,rfl,rfl⟩
end R
end Go.V
end
