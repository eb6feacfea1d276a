/-
 Helpers: BatW, StepP.
-/
import Derived.Test.YtmenaeggoakppaaGreatDoorS22
import Derived.Test.YtmenaeggoakppaaGreatDoorS24
import Derived.Test.YtmenaeggoakppaaGreatDoorS32
import Derived.Test.YtmenaeggoakppaaGreatDoorS35
import Derived.Test.YtmenaeggoakppaaGreatDoorS34
set_option linter.all false
section
namespace Go.V
open Go.Proofs Sha
set_option maxRecDepth 100000
/-- a change's cells -/
def chC (k:Bs) (d:Bool) (v:Value):Array Value:=(k.map u8++[.bool d,v]).toArray
theorem chC_size {k:Bs} (d:Bool) (v:Value) (hk:k.length=32):(chC k d v).size=34:=by simp[chC,hk]
theorem chC_one {k:Bs} (d:Bool) {v:Value} (hv:one v=true):(chC k d v).all one=true:=by
 rw[← Array.all_toList]
 simp only[chC,List.all_append,List.all_cons,List.all_nil,hv,Bool.and_true]
 rw[List.all_eq_true.2 (by intro x hx;obtain⟨y,_,rfl⟩:=List.mem_map.1 hx;rfl)];rfl
theorem chC_zero:(Array.replicate 32 (Value.int .u8 0)++#[Value.bool false,Value.slice Option.none 0 0])=chC (List.replicate 32 0) false (.slice Option.none 0 0):=rfl
theorem chC_flag {k:Bs} {d e:Bool} {v:Value} (hk:k.length=32):(chC k d v).setIfInBounds 32 (.bool e)=chC k e v:=by
 apply Array.toList_inj.1
 simp[chC,Array.toList_setIfInBounds,List.set_append,hk]
theorem chC_val {k:Bs} {d:Bool} {v u:Value} (hk:k.length=32):(chC k d v).setIfInBounds 33 u=chC k d u:=by
 apply Array.toList_inj.1
 simp[chC,Array.toList_setIfInBounds,List.set_append,hk]
theorem chC_key {k k':Bs} {d:Bool} {v:Value} (hk:k.length=32) (hk':k'.length=32):storeL (k'.map u8) 0 (chC k d v)=chC k' d v:=by
 apply Array.toList_inj.1
 rw[storeL_list _ _ _ (by simp[chC,hk,hk'])]
 simp[chC,hk,hk']
theorem sliceK (b o:Nat):sliceP Tryz.prog 34 (.pointer (some ⟨b,o,Option.none⟩)) Option.none Option.none Option.none=some (.slice (some ⟨b,o,Option.none⟩) 32 32):=by
 simp only[sliceP,Tryz.arr34,optB,Option.bind_some,Tryz.sz5,Option.map_some,Nat.zero_mul,Nat.sub_zero]
 rfl
/-- a change's value -/
def ChV (w:World) (x:Value) (c:Bat.Ch):Prop:=∃ v,x=.agg (chC c.key c.del v)∧one v=true∧By w v c.val∧(c.del=true→v=.slice Option.none 0 0)
def TkQ (rv:Value) (w0:World) (y:Except Int (Bat.Ch × Bs)) (r:Value) (w':World):Prop:=No w0 w'∧∃ k d v u e,r=.tuple #[.agg (chC k d v),u,.int .i64 e]∧k.length=32∧one v=true∧match y with
 | .error e'=>e=e'∧one u=true
 | .ok p=>e=0∧ChV w' (.agg (chC k d v)) p.1∧By w' u p.2∧(∀ b,blockOf u=some b→blockOf rv=some b)∧∀ b,blockOf v=some b→w0.heap.size≤b∧b<w'.heap.size
theorem take (w0:World) {rv:Value} {s:Bs} (hr:By w0 rv s) (hl:s.length≤2 ^ 50):Fn Tryz.prog 167 #[rv] w0 (TkQ rv w0 (Bat.takeP s)):=by
 refine Tryz.go167 (by simp) ?_
 obtain⟨xa,xc,rfl,hxc⟩:=hr.slice
 obtain⟨W,hW,f1,k1,k2,s1⟩:=allocs2 w0 (chC (List.replicate 32 0) false (.slice Option.none 0 0)) 181 (chC (List.replicate 32 0) false (.slice Option.none 0 0)) 181
 have z32:(List.replicate 32 (0:Byte)).length=32:=List.length_replicate
 have fin : ∀ (w : World) (k : Bs) (d : Bool) (v : Value), w.heap[w0.heap.size]? = some (.cells (chC (List.replicate 32 0) false (.slice Option.none 0 0)) 181 (0, 0)) → k.length = 32 → one v = true →
     wrO Tryz.prog 181 w w0.heap.size 0 (.agg (chC k d v)) = some (put w w0.heap.size (.cells (chC k d v) 181 (0,0))) ∧ rdO Tryz.prog 181 (put w w0.heap.size (.cells (chC k d v) 181 (0,0))) w0.heap.size 0 = some (.agg (chC k d v)) := fun w k d v h hk hv =>
  ⟨wr_all (by rw[chC_size d v hk];exact Tryz.sz181) h (by rw[chC_size _ _ z32,chC_size _ _ hk]) (chC_one d hv),rd_all Tryz.agg181 (by rw[chC_size d v hk];exact Tryz.sz181) (put_at (o:=.cells (chC k d v) 181 (0,0)) h)⟩
 have rdc:∀ (w:World) (k:Bs) (d:Bool) (v:Value),w.heap[w0.heap.size+1]?=some (.cells (chC k d v) 181 (0,0))→k.length=32→rdO Tryz.prog 181 w (w0.heap.size+1) 0=some (.agg (chC k d v)):=fun w k d v h hk =>
  rd_all Tryz.agg181 (by rw[chC_size d v hk];exact Tryz.sz181) h
 have lst:∀ (w:World) (c:Array Value),No w0 w→No w0 (put w w0.heap.size (.cells c 181 (0,0))):=fun w c h=>h.put (b:=w0.heap.size) _ fun h=>absurd h (Nat.lt_irrefl _)
 have lst1:∀ (w:World) (c:Array Value),No w0 w→No w0 (put w (w0.heap.size+1) (.cells c 181 (0,0))):=fun w c h=>h.put (b:=w0.heap.size+1) _ fun h=>by omega
 obtain⟨qe,le⟩:=fin W _ false (.slice Option.none 0 0) k1 z32 rfl
 have re:=rdc W _ _ _ k2 z32
 have xone:one (.slice xa s.length xc)=true:=rfl
 by_cases h33:s.length<33
 ·have d1:decide (((s.length:Nat):Int)<33)=true:=decide_eq_true (by omega)
  simp -implicitDefEqProofs only[go_sem,Nat.reduceEqDiff,Nat.reduceBEq,Nat.reduceAdd,gLa,gLz,gLs,Tryz.f167,Value.cells,chC_zero,hW,d1,re,qe,le]
  refine⟨lst _ _ f1,_,_,_,_,_,rfl,z32,rfl,?_⟩
  have:Bat.takeP s=.error 30:=by unfold Bat.takeP;rw[if_pos (.inl h33)]
  rw[this];exact⟨rfl,rfl⟩
 have d1:decide (((s.length:Nat):Int)<33)=false:=decide_eq_false (by omega)
 obtain⟨b,o,cap,he,hcap⟩:=hr.pos (by omega)
 cases he
 have hr1:=hr.fr0 f1
 have r0:rdO Tryz.prog 5 W b o=some (.int .u8 ((s.getD 0 0).toNat:Int)):=by have:=hr1.get (P:=Tryz.prog) Tryz.agg5 (i:=0) (by omega);rw[Nat.add_zero] at this;rw[this,getD_lt _ (by omega)]
 have y0:(0:Int)≤0∧(0:Int)<((s.length:Nat):Int):=by omega
 by_cases hb:s.getD 0 0≠1∧s.getD 0 0≠2
 ·have n1:(((s.getD 0 0).toNat:Int) != 1)=true:=by rw[bne_iff_ne];intro h;exact hb.1 (by apply BitVec.eq_of_toNat_eq;simpa using (by exact_mod_cast h:(s.getD 0 0).toNat=1))
  have n2:(((s.getD 0 0).toNat:Int) != 2)=true:=by rw[bne_iff_ne];intro h;exact hb.2 (by apply BitVec.eq_of_toNat_eq;simpa using (by exact_mod_cast h:(s.getD 0 0).toNat=2))
  simp -implicitDefEqProofs only[go_sem,Nat.reduceEqDiff,Nat.reduceBEq,Nat.reduceAdd,gLa,gLz,gLs,Tryz.f167,Value.cells,chC_zero,hW,d1,y0,and_self,Int.toNat_zero,Nat.mul_one,Nat.zero_mul,Nat.add_zero,r0,n1,n2,ft_beq,tf_beq,beq_self_eq_true,re,qe,le]
  refine⟨lst _ _ f1,_,_,_,_,_,rfl,z32,rfl,?_⟩
  have:Bat.takeP s=.error 30:=by unfold Bat.takeP;rw[if_pos (.inr hb)]
  rw[this];exact⟨rfl,rfl⟩
 have hb12:s.getD 0 0=1∨s.getD 0 0=2:=by
  by_cases h1:s.getD 0 0=1
  ·exact .inl h1
  ·by_cases h2:s.getD 0 0=2
   ·exact .inr h2
   ·exact absurd ⟨h1,h2⟩ hb
 obtain⟨dl,hdl,n3,n1,n2⟩:∃ dl:Bool,(dl=true ↔ s.getD 0 0=2)∧(((s.getD 0 0).toNat:Int) == 2)=dl∧(((s.getD 0 0).toNat:Int) != 1)=dl∧(((s.getD 0 0).toNat:Int) != 2)=!dl:=by
  rcases hb12 with h | h <;> rw[h]
  ·exact⟨false,by simp,rfl,rfl,rfl⟩
  ·exact⟨true,by simp,rfl,rfl,rfl⟩
 have w3:=wr1 (P:=Tryz.prog) (t:=4) (w:=W) (b:=w0.heap.size+1) (o:=32) (v:=.bool dl) Tryz.sz4 rfl k2 (by rw[chC_size _ _ z32];omega)
 rw[chC_flag z32] at w3
 have k3:=put_at (o:=.cells (chC (List.replicate 32 0) dl (.slice Option.none 0 0)) 181 (0,0)) k2
 have f3:=lst1 W (chC (List.replicate 32 0) dl (.slice Option.none 0 0)) f1
 have k13:=put_off (b:=w0.heap.size+1) (o:=.cells (chC (List.replicate 32 0) dl (.slice Option.none 0 0)) 181 (0,0)) k1 (by omega)
 have p5:=slc_lo (P:=Tryz.prog) Tryz.slc25 Tryz.arr25 Tryz.sz5 (a:=some (⟨b,o,Option.none⟩:Addr)) (n:=s.length) (cap:=xc) (l:=1) (by omega) hxc
 have p5:sliceP Tryz.prog 25 (.slice (some ⟨b,o,Option.none⟩) s.length xc) (some (.int .i64 1)) Option.none Option.none=some (cutV 1 (some ⟨b,o,Option.none⟩) xc 1 s.length):=p5
 have p6:=slc_lo (P:=Tryz.prog) Tryz.slc25 Tryz.arr25 Tryz.sz5 (a:=some (⟨b,o,Option.none⟩:Addr)) (n:=s.length) (cap:=xc) (l:=33) (by omega) hxc
 have p6:sliceP Tryz.prog 25 (.slice (some ⟨b,o,Option.none⟩) s.length xc) (some (.int .i64 33)) Option.none Option.none=some (cutV 1 (some ⟨b,o,Option.none⟩) xc 33 s.length):=p6
 generalize hW3:put W (w0.heap.size+1) (.cells (chC (List.replicate 32 0) dl (.slice Option.none 0 0)) 181 (0,0))=W3 at *
 have hy:By W3.drew (cutV 1 (some ⟨b,o,Option.none⟩) xc 1 s.length) ((s.drop 1).take (s.length - 1)):=(hr.fr0 f3.drew).cutV (by omega) (Nat.le_refl _) rfl
 obtain⟨key,hkey⟩:∃ key,key=(s.drop 1).take 32:=⟨_,rfl⟩
 have kl:key.length=32:=by rw[hkey,List.length_take,List.length_drop];omega
 have hrun:=run_copy (P:=Tryz.prog) (ts:=#[25,25]) (t:=25) rfl Tryz.slc25 Tryz.sz5 (w:=W3.drew) (b:=w0.heap.size+1) (o:=0) (dn:=32) (dc:=32) k3 hy (u8s_one _) (by rw[chC_size _ _ z32];omega)
 have hm:min ((s.drop 1).take (s.length - 1)).length 32=32:=by rw[List.length_take,List.length_drop];omega
 rw[hm,Nat.mul_one,← List.map_take,List.take_take,show min 32 (s.length - 1)=32 by omega,← hkey,chC_key z32 kl] at hrun
 have k4:=put_at (o:=.cells (chC key dl (.slice Option.none 0 0)) 181 (0,0)) (show W3.drew.heap[w0.heap.size+1]?=_ from k3)
 have k14:=put_off (b:=w0.heap.size+1) (o:=.cells (chC key dl (.slice Option.none 0 0)) 181 (0,0)) (show W3.drew.heap[w0.heap.size]?=_ from k13) (by omega)
 have f4:=lst1 W3.drew (chC key dl (.slice Option.none 0 0)) f3.drew
 generalize put W3.drew (w0.heap.size+1) (.cells (chC key dl (.slice Option.none 0 0)) 181 (0,0))=W4 at *
 have r4:=rd1 (P:=Tryz.prog) (t:=4) (o:=32) (v:=.bool dl) Tryz.agg4 k4 (by simp[chC,kl])
 have rc4:=rdc W4 _ _ _ k4 kl
 have h2:By W4 (cutV 1 (some ⟨b,o,Option.none⟩) xc 33 s.length) ((s.drop 33).take (s.length - 33)):=(hr.fr0 f4).cutV (by omega) (Nat.le_refl _) rfl
 rw[List.take_of_length_le (by rw[List.length_drop];omega)] at h2
 have l2:(s.drop 33).length=s.length - 33:=List.length_drop
 obtain⟨xa2,xc2,e2⟩:∃ xa2 xc2,cutV 1 (some (⟨b,o,Option.none⟩:Addr)) xc 33 s.length=.slice xa2 (s.length - 33) xc2:=⟨_,_,rfl⟩
 rw[e2] at h2 p6
 have hcut:∀ w:World,No w0 w→By w (.slice xa2 (s.length - 33) xc2) (s.drop 33):=fun w f=>by
  have:=(hr.fr0 f).cutV (l:=33) (m:=s.length) (by omega) (Nat.le_refl _) rfl
  rw[List.take_of_length_le (by rw[List.length_drop];omega),e2] at this
  exact this
 cases dl with
 | true =>
  have hs2:s.getD 0 0=2:=hdl.1 rfl
  simp only[Bool.not_true] at n2
  obtain⟨q4,l4⟩:=fin W4 key true (.slice Option.none 0 0) k14 kl rfl
  simp -implicitDefEqProofs only[go_sem,Nat.reduceEqDiff,Nat.reduceBEq,Nat.reduceAdd,gLa,gLz,gLs,Tryz.f167,Value.cells,chC_zero,hW,d1,y0,and_self,Int.toNat_zero,Nat.mul_one,Nat.zero_mul,Nat.add_zero,r0,n1,n2,n3,ft_beq,tf_beq,beq_self_eq_true,w3,p5,sliceK]
  refine contL_sem ⟨_,_,hrun,?_⟩
  simp -implicitDefEqProofs only[go_sem,Nat.reduceEqDiff,Nat.reduceBEq,Nat.reduceAdd,gLa,gLz,gLs,p6,r4,rc4,q4,l4]
  refine⟨lst _ _ f4,_,_,_,_,_,rfl,kl,rfl,?_⟩
  have:Bat.takeP s=.ok (⟨key,true,[]⟩,s.drop 33):=by unfold Bat.takeP;rw[if_neg (by rw[not_or];exact⟨h33,hb⟩),if_pos hs2,hkey]
  rw[this]
  exact⟨rfl,⟨_,rfl,rfl,(NwB.nil w0 _).by,fun _=>rfl⟩,hcut _ (lst _ _ f4),fun c hc=>by rw[← e2] at hc;exact cutV_blk (n:=s.length) hc,fun c hc=>by cases hc⟩
 | false =>
  have hs2:¬ s.getD 0 0=2:=fun h=>by have:=hdl.2 h;cases this
  simp only[Bool.not_false] at n2
  obtain⟨q4,l4⟩:=fin W4 key false (.slice Option.none 0 0) k14 kl rfl
  have hn:¬ (s.length<33∨(s.getD 0 0≠1∧s.getD 0 0≠2)):=by rw[not_or];exact⟨h33,hb⟩
  by_cases h35:s.length<35
  ·have d5:decide (((s.length - 33:Nat):Int)<2)=true:=decide_eq_true (by omega)
   simp -implicitDefEqProofs only[go_sem,Nat.reduceEqDiff,Nat.reduceBEq,Nat.reduceAdd,gLa,gLz,gLs,Tryz.f167,Value.cells,chC_zero,hW,d1,y0,and_self,Int.toNat_zero,Nat.mul_one,Nat.zero_mul,Nat.add_zero,r0,n1,n2,n3,ft_beq,tf_beq,beq_self_eq_true,w3,p5,sliceK]
   refine contL_sem ⟨_,_,hrun,?_⟩
   simp -implicitDefEqProofs only[go_sem,Nat.reduceEqDiff,Nat.reduceBEq,Nat.reduceAdd,gLa,gLz,gLs,p6,r4,rc4,q4,l4,d5]
   refine⟨lst _ _ f4,_,_,_,_,_,rfl,kl,rfl,?_⟩
   have:Bat.takeP s=.error 30:=by unfold Bat.takeP;rw[if_neg hn,if_neg hs2,if_pos h35]
   rw[this];exact⟨rfl,rfl⟩
  have d5:decide (((s.length - 33:Nat):Int)<2)=false:=decide_eq_false (by omega)
  obtain⟨b2,o2,cap2,he2,hcap2⟩:=h2.pos (by rw[l2];omega)
  rw[l2] at he2 hcap2
  cases he2
  have gd:∀ i,(s.drop 33).getD i 0=s.getD (33+i) 0:=fun i=>by simp[List.getD_eq_getElem?_getD,List.getElem?_drop]
  obtain⟨q4d,l4d⟩:=fin W4.drew key false (.slice Option.none 0 0) k14 kl rfl
  have r20:rdO Tryz.prog 5 W4 b2 o2=some (.int .u8 ((s.getD 33 0).toNat:Int)):=by
   have:=h2.get (P:=Tryz.prog) Tryz.agg5 (i:=0) (by omega)
   rw[Nat.add_zero] at this
   rw[this,gd]
  have r21:rdO Tryz.prog 5 W4 b2 (o2+1)=some (.int .u8 ((s.getD 34 0).toNat:Int)):=by
   have:=h2.get (P:=Tryz.prog) Tryz.agg5 (i:=1) (by omega)
   rw[this,gd]
  have y20:(0:Int)≤0∧(0:Int)<((s.length - 33:Nat):Int):=by omega
  have y21:(0:Int)≤1∧(1:Int)<((s.length - 33:Nat):Int):=by omega
  have c0:IntKind.i64.wrap ((s.getD 33 0).toNat:Int)=(((s.getD 33 0).toNat:Nat):Int):=i64n (by have:=(s.getD 33 0).isLt;omega)
  have c1:IntKind.i64.wrap ((s.getD 34 0).toNat:Int)=(((s.getD 34 0).toNat:Nat):Int):=i64n (by have:=(s.getD 34 0).isLt;omega)
  have lh:=lohi (s.getD 33 0) (s.getD 34 0)
  have htp : Bat.takeP s = if 128 < (s.getD 33 0).toNat + 256 * (s.getD 34 0).toNat then .error 32
      else if s.length < 35 + ((s.getD 33 0).toNat + 256 * (s.getD 34 0).toNat) then .error 30
      else .ok (⟨(s.drop 1).take 32,false,(s.drop 35).take ((s.getD 33 0).toNat + 256 * (s.getD 34 0).toNat)⟩,s.drop (35 + ((s.getD 33 0).toNat + 256 * (s.getD 34 0).toNat))) := by
   unfold Bat.takeP;rw[if_neg hn,if_neg hs2,if_neg h35]
  rw[htp,← hkey]
  generalize (s.getD 33 0).toNat+256*(s.getD 34 0).toNat=n at *
  have p7:=slc_lo (P:=Tryz.prog) Tryz.slc25 Tryz.arr25 Tryz.sz5 (a:=some (⟨b2,o2,Option.none⟩:Addr)) (n:=s.length - 33) (cap:=xc2) (l:=2) (by omega) hcap2
  have p7:sliceP Tryz.prog 25 (.slice (some ⟨b2,o2,Option.none⟩) (s.length - 33) xc2) (some (.int .i64 2)) Option.none Option.none=some (cutV 1 (some ⟨b2,o2,Option.none⟩) xc2 2 (s.length - 33)):=p7
  obtain⟨xa3,xc3,e3⟩:∃ xa3 xc3,cutV 1 (some (⟨b2,o2,Option.none⟩:Addr)) xc2 2 (s.length - 33)=.slice xa3 (s.length - 35) xc3:=by
   obtain⟨a',h⟩:=cutV_slice 1 (some (⟨b2,o2,Option.none⟩:Addr)) xc2 2 (s.length - 33)
   exact⟨a',_,by rw[h,show s.length - 33 - 2=s.length - 35 by omega]⟩
  have hcut3:∀ w:World,No w0 w→By w (.slice xa3 (s.length - 35) xc3) (s.drop 35):=fun w f=>by
   have:=(hcut w f).cutV (l:=2) (m:=s.length - 33) (by omega) (Nat.le_refl _) l2
   rw[List.take_of_length_le (by simp;omega),e3,List.drop_drop] at this
   exact this
  rw[e3] at p7
  by_cases h128:128<n
  ·have d6:decide (((n:Nat):Int) > 128)=true:=decide_eq_true (by omega)
   simp -implicitDefEqProofs only[go_sem,Nat.reduceEqDiff,Nat.reduceBEq,Nat.reduceAdd,gLa,gLz,gLs,Tryz.f167,Value.cells,chC_zero,hW,d1,y0,and_self,Int.toNat_zero,Nat.mul_one,Nat.zero_mul,Nat.add_zero,r0,n1,n2,n3,ft_beq,tf_beq,beq_self_eq_true,w3,p5,sliceK]
   refine contL_sem ⟨_,_,hrun,?_⟩
   simp -implicitDefEqProofs only[go_sem,Nat.reduceEqDiff,Nat.reduceBEq,Nat.reduceAdd,gLa,gLz,gLs,p6,r4,d5,y20,y21,and_self,Int.toNat_zero,Int.toNat_one,Nat.mul_one,Nat.zero_mul,Nat.add_zero,r20,r21,c0,c1,lh,d6,rc4,q4d,l4d]
   refine⟨lst _ _ f4.drew,_,_,_,_,_,rfl,kl,rfl,?_⟩
   rw[if_pos h128];exact⟨rfl,rfl⟩
  have d6:decide (((n:Nat):Int) > 128)=false:=decide_eq_false (by omega)
  by_cases hsh:s.length<35+n
  ·have d7:decide (((s.length - 35:Nat):Int)<((n:Nat):Int))=true:=decide_eq_true (by omega)
   simp -implicitDefEqProofs only[go_sem,Nat.reduceEqDiff,Nat.reduceBEq,Nat.reduceAdd,gLa,gLz,gLs,Tryz.f167,Value.cells,chC_zero,hW,d1,y0,and_self,Int.toNat_zero,Nat.mul_one,Nat.zero_mul,Nat.add_zero,r0,n1,n2,n3,ft_beq,tf_beq,beq_self_eq_true,w3,p5,sliceK]
   refine contL_sem ⟨_,_,hrun,?_⟩
   simp -implicitDefEqProofs only[go_sem,Nat.reduceEqDiff,Nat.reduceBEq,Nat.reduceAdd,gLa,gLz,gLs,p6,r4,d5,y20,y21,and_self,Int.toNat_zero,Int.toNat_one,Nat.mul_one,Nat.zero_mul,Nat.add_zero,r20,r21,c0,c1,lh,d6,p7,d7,rc4,q4d,l4d]
   refine⟨lst _ _ f4.drew,_,_,_,_,_,rfl,kl,rfl,?_⟩
   rw[if_neg h128,if_pos hsh];exact⟨rfl,rfl⟩
  have d7:decide (((s.length - 35:Nat):Int)<((n:Nat):Int))=false:=decide_eq_false (by omega)
  have h3:=hcut3 W4.drew f4.drew
  have l3:(s.drop 35).length=s.length - 35:=List.length_drop
  obtain⟨_,_,e4,hcap3⟩:=h3.slice
  rw[l3] at e4 hcap3
  cases e4
  have p8:=slc_hi (P:=Tryz.prog) Tryz.slc25 Tryz.arr25 Tryz.sz5 (a:=xa3) (n:=s.length - 35) (cap:=xc3) (l:=n) (by omega) hcap3
  have p9:=slc_lo (P:=Tryz.prog) Tryz.slc25 Tryz.arr25 Tryz.sz5 (a:=xa3) (n:=s.length - 35) (cap:=xc3) (l:=n) (by omega) hcap3
  have p8:sliceP Tryz.prog 25 (.slice xa3 (s.length - 35) xc3) Option.none (some (.int .i64 ((n:Nat):Int))) Option.none=some (cutV 1 xa3 xc3 0 n):=p8
  have p9:sliceP Tryz.prog 25 (.slice xa3 (s.length - 35) xc3) (some (.int .i64 ((n:Nat):Int))) Option.none Option.none=some (cutV 1 xa3 xc3 n (s.length - 35)):=p9
  have h4:=(hcut3 W4.drew f4.drew).cutV (l:=0) (m:=n) (by omega) (by omega) l3
  rw[List.drop_zero,Nat.sub_zero] at h4
  obtain⟨v5,w5,hr5,b5,f5,g5,m5⟩:=NwB.catB (P:=Tryz.prog) Tryz.app25_25 (NwB.nil w0 W4.drew) h4 (by simp;omega) f4.drew
  rw[List.nil_append] at b5
  have k5:=g5.at (show W4.drew.heap[w0.heap.size+1]?=_ from k4) (by simp[blockOf])
  have k15:=g5.at (show W4.drew.heap[w0.heap.size]?=_ from k14) (by simp[blockOf])
  have o5:one v5=true:=by obtain⟨a,c,rfl⟩:=b5.slice;rfl
  have w6:=wr1 (P:=Tryz.prog) (t:=25) (w:=w5) (b:=w0.heap.size+1) (o:=33) (v:=v5) Tryz.sz25 o5 k5 (by rw[chC_size _ _ kl];omega)
  rw[chC_val kl] at w6
  have k6:=put_at (o:=.cells (chC key false v5) 181 (0,0)) k5
  have k16:=put_off (b:=w0.heap.size+1) (o:=.cells (chC key false v5) 181 (0,0)) k15 (by omega)
  have f6:=lst1 w5 (chC key false v5) f5
  have b6:NwB w0 (put w5 (w0.heap.size+1) (.cells (chC key false v5) 181 (0,0))) v5 ((s.drop 35).take n):=by
   exact b5.put _ fun c hc=>by
    rcases m5 c hc with h | h
    ·cases h
    ·have:w0.heap.size+1<W4.heap.size:=heap_lt k4
     have h:W4.heap.size≤c:=h
     omega
  have m6:∀ c,blockOf v5=some c→c≠w0.heap.size:=fun c hc=>by
   rcases m5 c hc with h | h
   ·cases h
   ·have:w0.heap.size+1<W4.heap.size:=heap_lt k4
    have h:W4.heap.size≤c:=h
    omega
  generalize put w5 (w0.heap.size+1) (.cells (chC key false v5) 181 (0,0))=W6 at *
  have rc6:=rdc W6 _ _ _ k6 kl
  obtain⟨q6,l6⟩:=fin W6.drew key false v5 k16 kl o5
  simp -implicitDefEqProofs only[go_sem,Nat.reduceEqDiff,Nat.reduceBEq,Nat.reduceAdd,gLa,gLz,gLs,Tryz.f167,Value.cells,chC_zero,hW,d1,y0,and_self,Int.toNat_zero,Nat.mul_one,Nat.zero_mul,Nat.add_zero,r0,n1,n2,n3,ft_beq,tf_beq,beq_self_eq_true,w3,p5,sliceK]
  refine contL_sem ⟨_,_,hrun,?_⟩
  simp -implicitDefEqProofs only[go_sem,Nat.reduceEqDiff,Nat.reduceBEq,Nat.reduceAdd,gLa,gLz,gLs,p6,r4,d5,y20,y21,and_self,Int.toNat_zero,Int.toNat_one,Nat.mul_one,Nat.zero_mul,Nat.add_zero,r20,r21,c0,c1,lh,d6,p7,d7,p8]
  refine contL_sem ⟨v5,w5,hr5,?_⟩
  simp -implicitDefEqProofs only[go_sem,Nat.reduceEqDiff,Nat.reduceBEq,Nat.reduceAdd,gLa,gLz,gLs,w6,rc6,p9,q6,l6]
  refine⟨lst _ _ f6.drew,_,_,_,_,_,rfl,kl,o5,?_⟩
  rw[if_neg h128,if_neg hsh]
  have h9:=(hcut3 _ (lst W6.drew (chC key false v5) f6.drew)).cutV (l:=n) (m:=s.length - 35) (by omega) (Nat.le_refl _) l3
  rw[List.take_of_length_le (by simp;omega),List.drop_drop] at h9
  exact⟨rfl,⟨_,rfl,o5,((b6.fr0 (Fr.refl _ _).drew).put _ m6).by,fun h=>by cases h⟩,h9,fun c hc=>by
   have h1:blockOf (.slice xa3 (s.length - 35) xc3)=some c:=cutV_blk hc
   rw[← e3] at h1
   have h2:blockOf (.slice (some ⟨b2,o2,Option.none⟩) (s.length - 33) xc2)=some c:=cutV_blk h1
   rw[← e2] at h2
   exact cutV_blk (n:=s.length) h2,fun c hc=>((b6.fr0 (Fr.refl _ _).drew).put _ m6).lt hc⟩
end Go.V
end
section
namespace Go.V
open Go.Proofs Sha
namespace Wit
def chOf (c:Bat.Ch):Ch:=(c.key,c.del,c.val)
theorem findC_iff {k:Bs} {c:Ch}:∀ {l:List Ch},(l.map (·.1)).Nodup→(findC l k=some c ↔ c ∈ l∧c.1=k)
 | [],_=>by simp[findC]
 | d::l,h=>by
  have hd:d.1 ∉ l.map (·.1):=(List.nodup_cons.1 h).1
  have ih:=findC_iff (k:=k) (c:=c) (List.nodup_cons.1 h).2
  unfold findC
  by_cases e:d.1=k
  ·rw[if_pos e]
   constructor
   ·intro h;cases h;exact⟨List.mem_cons_self ..,e⟩
   ·rintro⟨hm,hk⟩
    rcases List.mem_cons.1 hm with rfl | hm
    ·rfl
    ·exact absurd (List.mem_map.2 ⟨c,hm,hk.trans e.symm⟩) hd
  ·rw[if_neg e,ih]
   constructor
   ·rintro⟨hm,hk⟩;exact⟨List.mem_cons_of_mem _ hm,hk⟩
   ·rintro⟨hm,hk⟩
    rcases List.mem_cons.1 hm with rfl | hm
    ·exact absurd hk e
    ·exact⟨hm,hk⟩
theorem findC_perm {a b:List Ch} (hp:a.Perm b) (hn:(a.map (·.1)).Nodup) (k:Bs):findC a k=findC b k:=by
 have hn':(b.map (·.1)).Nodup:=(hp.map _).nodup_iff.1 hn
 apply Option.ext
 intro c
 rw[findC_iff hn,findC_iff hn',hp.mem_iff]
theorem saysC_perm {a b:List Ch} (hp:a.Perm b) (hn:(a.map (·.1)).Nodup):saysC a=saysC b:=by
 funext k x
 unfold saysC
 rw[findC_perm hp hn]
theorem chOf_keys (cs:List Bat.Ch):(cs.map chOf).map (·.1)=cs.map Bat.Ch.key:=by simp[chOf,Function.comp_def]
def stepP (wd:Int) (root raw changes:Bs):Except Int Bs :=
 if wd<1∨32<wd then .error 1
 else match Bat.parseP changes with
  | .error e=>.error e
  | .ok cs=>match underP wd root (srt (cs.map Bat.Ch.key)) raw with
   | .error e=>.error e
   | .ok none=>.ok root
   | .ok (some t)=>.ok (dig wd (saysC (cs.map chOf)) t)
theorem takeP_err {s:Bs} {e:Int} (h:Bat.takeP s=.error e):e≠0:=by
 rintro rfl
 unfold Bat.takeP at h
 repeat' split at h
 all_goals cases h
theorem takesP_err0:∀ {n:Nat} {s:Bs} {e:Int},Bat.takesP n s=.error e→e≠0
 | 0,s,e,h=>by cases h
 | n+1,s,e,h=>by
  unfold Bat.takesP at h
  split at h
  ·rename_i h1;cases h;exact takeP_err h1
  ·split at h
   ·rename_i h2;cases h;exact takesP_err0 h2
   ·cases h
theorem parseP_err {s:Bs} {e:Int} (h:Bat.parseP s=.error e):e≠0:=by
 unfold Bat.parseP at h
 split at h
 ·cases h;decide
 split at h
 ·cases h;decide
 split at h
 ·rename_i h1;cases h;exact takesP_err0 h1
 ·split at h
  ·cases h;decide
  ·split at h
   ·cases h
   ·cases h;decide
theorem ok_keys {cs:List Bat.Ch} (h:∀ c ∈ cs,c.Ok):All32 (cs.map Bat.Ch.key):=fun d hd=>by
 obtain⟨c,hc,rfl⟩:=List.mem_map.1 hd
 exact (h c hc).1
end Wit
end Go.V
end
