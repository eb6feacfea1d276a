/-
 Helpers: DecY, DecZ.
-/
import Derived.Test.YtmenaeggoakppaaGreatDoorB36
set_option linter.all false
section
namespace Go.V
open Go.Proofs Sha
set_option maxRecDepth 100000
def cntN (x:Nat):Nat:=((List.range 8).filter fun j=>x.testBit j).length
def popS:ByteArray:=⟨((([0,1,1,2,1,2,2,3,1,2,2,3,2,3,3,4,1,2,2,3,2,3,3,4,2,3,3,4,3,4,4,5,1,2,2,3,2,3,3,4,2,3,3,4,3,4,4,5,2,3,3,4,3,4,4,5,3,4,4,5,4,5,5,6]:List UInt8).append [1,2,2,3,2,3,3,4,2,3,3,4,3,4,4,5,2,3,3,4,3,4,4,5,3,4,4,5,4,5,5,6,2,3,3,4,3,4,4,5,3,4,4,5,4,5,5,6,3,4,4,5,4,5,5,6,4,5,5,6,5,6,6,7]).append (([1,2,2,3,2,3,3,4,2,3,3,4,3,4,4,5,2,3,3,4,3,4,4,5,3,4,4,5,4,5,5,6,2,3,3,4,3,4,4,5,3,4,4,5,4,5,5,6,3,4,4,5,4,5,5,6,4,5,5,6,5,6,6,7]:List UInt8).append [2,3,3,4,3,4,4,5,3,4,4,5,4,5,5,6,3,4,4,5,4,5,5,6,4,5,5,6,5,6,6,7,3,4,4,5,4,5,5,6,4,5,5,6,5,6,6,7,4,5,5,6,5,6,6,7,5,6,6,7,6,7,7,8])).toArray⟩
theorem popS_at:∀ n:Fin 256,popS[n.val]?=some (UInt8.ofNat (cntN n.val)):=by decide +kernel
theorem cntN_le (x:Nat):cntN x≤8:=by
 unfold cntN
 have:=List.length_filter_le (fun j=>x.testBit j) (List.range 8)
 rwa [List.length_range] at this
namespace Wit
theorem poss_len (bits:Bs):∀ (m g:Nat),(poss bits m g).length=((List.range m).filter fun j=>mbit bits (g+j)).length
 | 0,_=>rfl
 | m+1,g=>by
  rw[poss_snoc,List.length_append,poss_len bits m g,List.range_succ,List.filter_append,List.length_append]
  cases h:mbit bits (g+m) <;> simp[h]
theorem poss_byte (bits:Bs) (i:Nat):(poss bits (8*(i+1)) 0).length=(poss bits (8*i) 0).length+cntN (bits.getD i 0).toNat:=by
 rw[show 8*(i+1)=8*i+8 by omega,poss_add,List.length_append,Nat.zero_add,poss_len bits 8]
 unfold cntN
 congr 2
 apply List.filter_congr
 intro j hj
 have hj:=List.mem_range.1 hj
 unfold mbit
 rw[show (8*i+j) / 8=i by omega,show (8*i+j) % 8=j by omega]
 rfl
theorem chunk_snoc:∀ (i:Nat) (s:Bs),chunk (i+1) s=chunk i s++[(s.drop (32*i)).take 32]
 | 0,s=>rfl
 | i+1,s=>by
  rw[show chunk (i+1+1) s=s.take 32::chunk (i+1) (s.drop 32) from rfl,chunk_snoc i,show chunk (i+1) s=s.take 32::chunk i (s.drop 32) from rfl,List.drop_drop,show 32+32*i=32*(i+1) by omega]
  rfl
theorem poss_le (bits:Bs) (n g:Nat):(poss bits n g).length≤n:=by
 rw[poss_len]
 have:=List.length_filter_le (fun j=>mbit bits (g+j)) (List.range n)
 rwa [List.length_range] at this
end Wit
namespace C
theorem ones8 (w0:World) (x:Byte):Fn Tryz.prog 175 #[u8 x] w0 fun v w'=>v=.int .i64 (cntN x.toNat:Nat)∧w'=w0:=by
 refine Tryz.go175 (by simp) ?_
 simp -implicitDefEqProofs only[go_sem,Nat.reduceEqDiff,Tryz.f175]
 have h8:=cntN_le x.toNat
 refine contL_is (v:=.int .u8 (cntN x.toNat:Nat)) (w':=w0) ?_ ?_
 ·show val0 (if 0≤(x.toNat:Int) then Option.map _ (popS[(x.toNat:Int).toNat]?) else none) w0=_
  rw[if_pos (by omega),Int.toNat_natCast,popS_at ⟨x.toNat,x.isLt⟩]
  simp only[Option.map_some,val0,UInt8.toNat_ofNat']
  rw[Nat.mod_eq_of_lt (by omega)]
 ·have c:IntKind.i64.wrap ((cntN x.toNat:Nat):Int)=((cntN x.toNat:Nat):Int):=i64n (by omega)
  simp -implicitDefEqProofs only[go_sem,Nat.reduceEqDiff,c,and_self]
def onI (w0:World) (bits:Bs) (n:Nat) (vs:List Value) (w:World):Prop :=
 ∃ (i:Nat),vs=[.int .i64 ((Wit.poss bits (8*i) 0).length:Nat),dg bits,.int .i64 (i:Nat)]∧i≤32∧n=32 - i∧No w0 w
theorem ones (w0:World) {bits:Bs} (hl:bits.length=32):Fn Tryz.prog 118 #[dg bits] w0 fun v w'=>v=.int .i64 ((Wit.poss bits 256 0).length:Nat)∧No w0 w':=by
 refine Tryz.go118 (by simp) ?_
 obtain⟨W,hW,f1,k1,s1⟩:=allocs1 w0 (bl bits) 22
 have r1:=rd_d Tryz.agg22 Tryz.sz22 k1 hl
 simp -implicitDefEqProofs only[go_sem,Nat.reduceEqDiff,Nat.reduceBEq,Nat.reduceAdd,gLa,gLz,gLs,Tryz.f118,Value.cells,hW,r1]
 refine loopD [3,6,7] (onI w0 bits) 32 ⟨0,rfl,by omega,rfl,f1⟩ ?_
 rintro _ vs w g ⟨i,rfl,hi,rfl,fw⟩
 by_cases hlt:i<32
 ·have d1:decide ((i:Int)<32)=true:=decide_eq_true (by omega)
  have y1:(0:Int)≤(i:Int)∧(i:Int)<((32:Nat):Int):=by omega
  have y2:=y1.2
  have hp:partO Tryz.prog 5 ((bits.map u8).toArray) i=some (u8 (bits.getD i 0)):=by
   have:=part_u8 (P:=Tryz.prog) Tryz.agg5 (d:=bits) (i:=i) (by omega)
   rw[this,getD_lt _ (by omega)]
  have c1:IntKind.i64.wrap ((i:Int)+1)=((i+1:Nat):Int):=i64add (b:=1) (by omega)
  have hb:=Wit.poss_byte bits i
  have hle:=Wit.poss_le bits (8*i) 0
  have h8:=cntN_le (bits.getD i 0).toNat
  have c2:IntKind.i64.wrap (((Wit.poss bits (8*i) 0).length:Int)+(cntN (bits.getD i 0).toNat:Int))=((Wit.poss bits (8*(i+1)) 0).length:Int):=by rw[hb];exact i64add (by omega)
  simp -implicitDefEqProofs only[go_sem,Nat.reduceEqDiff,Nat.reduceBEq,Nat.reduceAdd,gLa,gLz,gLs,d1,y1,y2,and_self,Int.toNat_natCast,Nat.mul_one,hp]
  refine contL_call Tryz.pl175 ((ones8 w (bits.getD i 0)).mono ?_)
  rintro _ _ ⟨rfl,rfl⟩
  simp -implicitDefEqProofs only[go_sem,Nat.reduceEqDiff,Nat.reduceBEq,Nat.reduceAdd,gLa,gLz,gLs,c1,c2]
  exact⟨32 - (i+1),by omega,i+1,rfl,by omega,rfl,fw⟩
 ·have d1:decide ((i:Int)<32)=false:=decide_eq_false (by omega)
  obtain rfl:i=32:=by omega
  simp -implicitDefEqProofs only[go_sem,Nat.reduceEqDiff,Nat.reduceBEq,Nat.reduceAdd,gLa,gLz,gLs,d1]
  exact fw
end C
end Go.V
end
section
namespace Go.V
open Go.Proofs Sha
set_option maxRecDepth 100000
abbrev pZ:Array Value:=(#[.bool false,.slice Option.none 0 0]:Array Value)++Array.replicate 32 (.int .u8 0)++#[.slice Option.none 0 0]
theorem prL_zero:pZ=(prL false (.slice Option.none 0 0) (List.replicate 32 0) (.slice Option.none 0 0)).toArray:=by
 apply Array.toList_inj.1
 simp[prL]
theorem prL_one {f:Bool} {vv:Value} {bits:Bs} {sv:Value} (hv:one vv=true) (hs:one sv=true):(prL f vv bits sv).all one=true:=by
 simp only[prL,List.all_cons,List.all_append,List.all_nil,hv,hs,Bool.and_true,Bool.true_and]
 rw[Bool.and_eq_true]
 exact⟨rfl,List.all_eq_true.2 fun x hx=>by obtain⟨y,_,rfl⟩:=List.mem_map.1 hx;rfl⟩
/-- what both decoders answer -/
def DcQ (w0:World) (y:Option (Option Bs × Bs × List Bs)) (r:Value) (w':World):Prop:=No w0 w'∧match y with
 | none=>r=.tuple #[.agg (prL false (.slice Option.none 0 0) (List.replicate 32 0) (.slice Option.none 0 0)).toArray,.int .i64 120]
 | some (a,bits,sums)=>∃ vv sv,r=.tuple #[.agg (prL a.isSome vv bits sv).toArray,.int .i64 0]∧By w' vv (a.getD [])∧RdD w' sv sums∧one vv=true∧one sv=true∧(∀ b,blockOf vv=some b→w0.heap.size≤b∧b<w'.heap.size)∧∀ b,blockOf sv=some b→w0.heap.size≤b∧b<w'.heap.size
namespace C
def dcK (w0 wL:World) (rest:Bs) (cnt:Nat) (a:Option Bs) (vv:Value) (bits:Bs) (i:Nat) (x2 x4 x5 x37 x38:Value) (w:World):Prop :=
 ∃ sv,x2=pt w0.heap.size 0∧x4=pt (w0.heap.size+1) 0∧x5=pt (w0.heap.size+1+1) 0∧x37=.int .i64 (cnt:Nat)∧x38=.int .i64 (i:Nat)∧w.heap[w0.heap.size+1]?=some (.cells (prL a.isSome vv bits sv).toArray 122 (0,0))∧one sv=true ∧
  NwD wL w 23 sv (Wit.chunk (i+1) rest)∧PRd w0 w (w0.heap.size+1+1) (rest.drop (32*(i+1))) false∧Fr (fun b=>b=w0.heap.size+1∨b=w0.heap.size+1+1) wL w
def dcI (w0 wL:World) (rest:Bs) (cnt:Nat) (a:Option Bs) (vv:Value) (bits:Bs) (n:Nat) (vs:List Value) (w:World):Prop :=
 ∃ (i:Nat) (sv:Value),vs=[pt w0.heap.size 0,pt (w0.heap.size+1) 0,pt (w0.heap.size+1+1) 0,.int .i64 (cnt:Nat),.int .i64 (i:Nat)]∧i≤cnt∧n=cnt - i∧w.heap[w0.heap.size+1]?=some (.cells (prL a.isSome vv bits sv).toArray 122 (0,0))∧one sv=true ∧
  NwD wL w 23 sv (Wit.chunk i rest)∧PRd w0 w (w0.heap.size+1+1) (rest.drop (32*i)) false∧Fr (fun b=>b=w0.heap.size+1∨b=w0.heap.size+1+1) wL w
set_option maxHeartbeats 4000000 in
theorem decode (w0:World) {rv:Value} {s:Bs} (hr:By w0 rv s) (hl:s.length≤2 ^ 50):Fn Tryz.prog 66 #[rv] w0 (DcQ w0 (Wit.decP s)):=by
 refine Tryz.go66 (by simp) ?_
 obtain⟨xa,xc,rfl,hxc⟩:=hr.slice
 have bl1:bldO Tryz.prog 203 [(0,.slice xa s.length xc)]=some (.agg #[.slice xa s.length xc,.bool false]):=rfl
 have bl0:bldO Tryz.prog 122 []=some (.agg pZ):=by kernel_rfl
 obtain⟨W,hW,f1,k1,k2,k3,s1⟩:=allocs3 w0 pZ 122 pZ 122 #[.slice xa s.length xc,.bool false] 203
 have zsz:pZ.size=35:=by simp[pZ]
 have pz:=prL_zero
 have fin : ∀ (w : World) (p : List Value), w.heap[w0.heap.size]? = some (.cells pZ 122 (0, 0)) → p.length = 35 → p.all one = true →
     wrO Tryz.prog 122 w w0.heap.size 0 (.agg p.toArray) = some (put w w0.heap.size (.cells p.toArray 122 (0,0))) ∧ rdO Tryz.prog 122 (put w w0.heap.size (.cells p.toArray 122 (0,0))) w0.heap.size 0 = some (.agg p.toArray) := fun w p h hp ho =>
  ⟨wr_all (by simp[hp,Tryz.sz122]) h (by simp[zsz,hp]) (by simpa using ho),rd_all Tryz.agg122 (by simp[hp,Tryz.sz122]) (put_at (o:=.cells p.toArray 122 (0,0)) h)⟩
 have finz:∀ w:World,w.heap[w0.heap.size]?=some (.cells pZ 122 (0,0))→wrO Tryz.prog 122 w w0.heap.size 0 (.agg pZ)=some (put w w0.heap.size (.cells pZ 122 (0,0)))∧rdO Tryz.prog 122 (put w w0.heap.size (.cells pZ 122 (0,0))) w0.heap.size 0=some (.agg pZ):=fun w h=>by
  have:=fin w (prL false (.slice Option.none 0 0) (List.replicate 32 0) (.slice Option.none 0 0)) h (prL_len (by simp)) (prL_one rfl rfl)
  rw[← pz] at this
  exact this
 have lst:∀ (w:World) (c:Array Value),No w0 w→No w0 (put w w0.heap.size (.cells c 122 (0,0))):=fun w c h=>h.put (b:=w0.heap.size) _ fun h=>absurd h (Nat.lt_irrefl _)
 have hR:PRd w0 W (w0.heap.size+1+1) s false:=⟨_,k3,hr,by omega⟩
 have k2':=k2
 rw[pz] at k2'
 simp -implicitDefEqProofs only[go_sem,Nat.reduceEqDiff,Nat.reduceBEq,Nat.reduceAdd,gLa,gLz,gLs,Tryz.f66,Value.cells,bl1,hW]
 refine contL_call Tryz.pl116 ((panswer w0 W f1 hR k2' (by omega) (by omega) hl).mono ?_)
 rintro r w2 ⟨f2,hm⟩
 have f02:No w0 w2:=f1.trans' f2 fun b hb h=>by omega
 have k12:=f2.at k1 (by omega)
 unfold DcQ
 have hdec : Wit.decP s = match Wit.ansW s with
     | none => none
     | some p => if p.2.length < 32 then none else if p.2.length - 32 ≠ 32 * (Wit.poss (p.2.take 32) 256 0).length then none else some (p.1,p.2.take 32,Wit.chunk (Wit.poss (p.2.take 32) 256 0).length (p.2.drop 32)) := by
  unfold Wit.decP Wit.ansW
  by_cases e1:s.length<1
  ·rw[if_pos e1,if_pos e1]
  rw[if_neg e1,if_neg e1]
  by_cases e2:1<(s.getD 0 0).toNat
  ·rw[if_pos e2,if_pos e2]
  rw[if_neg e2,if_neg e2]
  cases Wit.ansP (s.getD 0 0).toNat (s.drop 1) <;> rfl
 obtain⟨Y,hY⟩:∃ Y,Y=Wit.decP s:=⟨_,rfl⟩
 rw[← hY]
 rw[hdec] at hY
 cases ha:Wit.ansW s with
 | none =>
  rw[ha] at hm hY
  obtain rfl:r=.bool false:=hm
  obtain⟨q3,l3⟩:=finz w2 k12
  simp -implicitDefEqProofs only[go_sem,Nat.reduceEqDiff,Nat.reduceBEq,Nat.reduceAdd,gLa,gLz,gLs,Bool.not_false,bl0,q3,l3]
  rw[hY]
  refine⟨lst _ _ f02,?_⟩
  rw[pz]
 | some p =>
  obtain⟨a,s2⟩:=p
  have hal:=Wit.ansW_len ha
  rw[ha] at hm hY
  dsimp only at hY
  obtain⟨rfl,hR2,vv,kp,hv,hvo,hvb⟩:=hm
  have hs2:s2.length≤2 ^ 50:=Nat.le_trans (Wit.ansW_rest ha) hl
  have psl:∀ (w:World),sliceP Tryz.prog 22 (.pointer (some ⟨w0.heap.size+1,2,Option.none⟩)) Option.none Option.none Option.none=some (.slice (some ⟨w0.heap.size+1,2,Option.none⟩) 32 32):=fun w=>by
   simp only[sliceP,Tryz.arr22,optB,Option.bind_some,Tryz.sz5,Option.map_some,Nat.zero_mul,Nat.sub_zero]
   rfl
  simp -implicitDefEqProofs only[go_sem,Nat.reduceEqDiff,Nat.reduceBEq,Nat.reduceAdd,gLa,gLz,gLs,Bool.not_true,psl w2]
  refine contL_call Tryz.pl117 ((ptake w0 w2.drew (hR2.fr (Fr.refl (fun _=>False) w2).drew id) 32).mono ?_)
  rintro v3 w3 ⟨f3,hm3⟩
  have f23:Fr (fun b=>b=w0.heap.size+1∨b=w0.heap.size+1+1) w2 w3:=((Fr.refl _ w2).drew).trans (f3.mono fun _ _ h=>.inr h)
  have f03:No w0 w3:=f02.trans' f23 fun b hb h=>by omega
  have kp3:=f3.at (show w2.drew.heap[w0.heap.size+1]?=_ from kp) (by omega)
  have k13:=f3.at (show w2.drew.heap[w0.heap.size]?=_ from k12) (by omega)
  have sW:W.heap.size=w0.heap.size+3:=s1
  have s12:=f2.size
  have s23:=f23.size
  have psz:∀ b:Bs,b.length=32→(prL a.isSome vv b (.slice Option.none 0 0)).toArray.size=35:=fun b hb=>by simp[prL_len hb]
  -- the bitmap copied, its bits counted
  have cnt:∀ (w:World) (bits:Bs),bits.length=32→w.heap[w0.heap.size+1]?=some (.cells (prL a.isSome vv bits (.slice Option.none 0 0)).toArray 122 (0,0))→rdO Tryz.prog 22 w (w0.heap.size+1) 2=some (dg bits):=fun w bits hb h =>
   rd_mid (A:=[.bool a.isSome,vv]) (B:=bits.map u8) (C:=[.slice Option.none 0 0]) Tryz.agg22 Tryz.sz22 h (by simp[hb]) (by decide) rfl
  by_cases h32:s2.length<32
  ·rw[if_pos h32] at hm3 hY
   obtain⟨rfl,hR3⟩:=hm3
   have hrun:=run_copy (P:=Tryz.prog) (ts:=#[25,25]) (t:=25) rfl Tryz.slc25 Tryz.sz5 (w:=w3) (b:=w0.heap.size+1) (o:=2) (dn:=32) (dc:=32) kp3 (NwB.nil w3 w3).by (u8s_one _) (by rw[psz _ (by simp)];simp)
   have est:storeL (((([]:Bs).map u8)).take (min ([]:Bs).length 32*1)) 2 (prL a.isSome vv (List.replicate 32 0) (.slice Option.none 0 0)).toArray=(prL a.isSome vv (List.replicate 32 0) (.slice Option.none 0 0)).toArray:=rfl
   rw[est] at hrun
   have k4:=put_at (o:=.cells (prL a.isSome vv (List.replicate 32 0) (.slice Option.none 0 0)).toArray 122 (0,0)) kp3
   have f4:Fr (fun b=>b=w0.heap.size+1) w3 (put w3 (w0.heap.size+1) (.cells (prL a.isSome vv (List.replicate 32 0) (.slice Option.none 0 0)).toArray 122 (0,0))):=(Fr.refl _ _).put (b:=w0.heap.size+1) _ fun _=>rfl
   generalize put w3 (w0.heap.size+1) (.cells (prL a.isSome vv (List.replicate 32 0) (.slice Option.none 0 0)).toArray 122 (0,0))=w4 at *
   simp -implicitDefEqProofs only[go_sem,Nat.reduceEqDiff,Nat.reduceBEq,Nat.reduceAdd,gLa,gLz,gLs]
   refine contL_sem ⟨_,w4,hrun,?_⟩
   have r4:=cnt w4 _ (by simp) k4
   simp -implicitDefEqProofs only[go_sem,Nat.reduceEqDiff,Nat.reduceBEq,Nat.reduceAdd,gLa,gLz,gLs,r4]
   refine contL_call Tryz.pl118 ((ones w4 (bits:=List.replicate 32 0) (by simp)).mono ?_)
   rintro _ w5 ⟨rfl,f5⟩
   have hR5:=(hR3.fr f4 (by omega)).fr f5 id
   obtain⟨rv5,kr5,_,_⟩:=hR5
   have r5:rdO Tryz.prog 4 w5 (w0.heap.size+1+1) 1=some (.bool true):=rd1 (P:=Tryz.prog) (o:=1) Tryz.agg4 kr5 rfl
   have f05:No w0 w5:=(f03.trans' f4 fun b hb h=>by omega).trans f5
   obtain⟨q6,l6⟩:=finz w5 (f5.at (f4.at k13 (by omega)) id)
   simp -implicitDefEqProofs only[go_sem,Nat.reduceEqDiff,Nat.reduceBEq,Nat.reduceAdd,gLa,gLz,gLs,r5,ft_beq,tf_beq,beq_self_eq_true,bl0,q6,l6]
   rw[hY]
   refine⟨lst _ _ f05,?_⟩
   rw[pz]
  ·rw[if_neg h32] at hm3 hY
   obtain⟨hb3,_,hs3,hR3⟩:=hm3
   obtain⟨b3,o3,rfl⟩:=hs3 (by omega)
   obtain⟨bits,hbits⟩:∃ bits,bits=s2.take 32:=⟨_,rfl⟩
   have hbl:bits.length=32:=by rw[hbits,List.length_take];omega
   rw[← hbits] at hb3 hY
   have hb3':By w3 (.slice (some ⟨b3,o3,Option.none⟩) 32 32) bits:=hb3.fr0 f03
   have hrun:=run_copy (P:=Tryz.prog) (ts:=#[25,25]) (t:=25) rfl Tryz.slc25 Tryz.sz5 (w:=w3) (b:=w0.heap.size+1) (o:=2) (dn:=32) (dc:=32) kp3 hb3' (u8s_one _) (by rw[psz _ (by simp),hbl];decide)
   have est:storeL ((bits.map u8).take (min bits.length 32*1)) 2 (prL a.isSome vv (List.replicate 32 0) (.slice Option.none 0 0)).toArray=(prL a.isSome vv bits (.slice Option.none 0 0)).toArray:=by
    rw[hbl,List.take_of_length_le (by simp[hbl])]
    apply Array.toList_inj.1
    rw[storeL_list _ _ _ (by simp[prL,hbl])]
    simp[prL,hbl]
   rw[est] at hrun
   have k4:=put_at (o:=.cells (prL a.isSome vv bits (.slice Option.none 0 0)).toArray 122 (0,0)) kp3
   have f4:Fr (fun b=>b=w0.heap.size+1) w3 (put w3 (w0.heap.size+1) (.cells (prL a.isSome vv bits (.slice Option.none 0 0)).toArray 122 (0,0))):=(Fr.refl _ _).put (b:=w0.heap.size+1) _ fun _=>rfl
   generalize put w3 (w0.heap.size+1) (.cells (prL a.isSome vv bits (.slice Option.none 0 0)).toArray 122 (0,0))=w4 at *
   simp -implicitDefEqProofs only[go_sem,Nat.reduceEqDiff,Nat.reduceBEq,Nat.reduceAdd,gLa,gLz,gLs]
   refine contL_sem ⟨_,w4,hrun,?_⟩
   have r4:=cnt w4 _ hbl k4
   simp -implicitDefEqProofs only[go_sem,Nat.reduceEqDiff,Nat.reduceBEq,Nat.reduceAdd,gLa,gLz,gLs,r4]
   refine contL_call Tryz.pl118 ((ones w4 hbl).mono ?_)
   rintro _ w5 ⟨rfl,f5⟩
   have hcl:=Wit.poss_le bits 256 0
   have hR5:=(hR3.fr f4 (by omega)).fr f5 id
   have k5:=f5.at k4 id
   have k15:=f5.at (f4.at k13 (by omega)) id
   have f05:No w0 w5:=(f03.trans' f4 fun b hb h=>by omega).trans f5
   have f25:Fr (fun b=>b=w0.heap.size+1∨b=w0.heap.size+1+1) w2 w5:=(f23.trans (f4.mono fun _ _ h=>.inl h)).trans (f5.mono fun _ _ h=>h.elim)
   have hv5:By w5 vv (a.getD []):=hv.fr f25 fun b hb _ h=>by have:=(hvb b hb).1;omega
   have s25:=f25.size
   obtain⟨rv5,kr5,hb5,_⟩:=id hR5
   obtain⟨ra,rc,rfl,_⟩:=hb5.slice
   have r5:rdO Tryz.prog 4 w5 (w0.heap.size+1+1) 1=some (.bool false):=rd1 (P:=Tryz.prog) (o:=1) Tryz.agg4 kr5 rfl
   have r6:rdO Tryz.prog 25 w5 (w0.heap.size+1+1) 0=some (.slice ra (s2.drop 32).length rc):=rd1 (P:=Tryz.prog) (o:=0) Tryz.agg25 kr5 rfl
   have c6:IntKind.i64.wrap (((Wit.poss bits 256 0).length:Int)*32)=(((Wit.poss bits 256 0).length*32:Nat):Int):=by rw[show (((Wit.poss bits 256 0).length:Int)*32)=(((Wit.poss bits 256 0).length*32:Nat):Int) by push_cast;rfl];exact i64n (by omega)
   have hrl:(s2.drop 32).length=s2.length - 32:=List.length_drop
   by_cases hne:s2.length - 32≠32*(Wit.poss bits 256 0).length
   ·rw[if_pos hne] at hY
    have d6:(((s2.drop 32).length:Int) != (((Wit.poss bits 256 0).length*32:Nat):Int))=true:=by rw[bne_iff_ne];omega
    obtain⟨q6,l6⟩:=finz w5 k15
    simp -implicitDefEqProofs only[go_sem,Nat.reduceEqDiff,Nat.reduceBEq,Nat.reduceAdd,gLa,gLz,gLs,r5,r6,c6,d6,ft_beq,tf_beq,beq_self_eq_true,bl0,q6,l6]
    rw[hY]
    refine⟨lst _ _ f05,?_⟩
    rw[pz]
   ·rw[if_neg hne] at hY
    have d6:(((s2.drop 32).length:Int) != (((Wit.poss bits 256 0).length*32:Nat):Int))=false:=by rw[bne_eq_false_iff_eq];omega
    generalize hcn:(Wit.poss bits 256 0).length=cn at *
    simp -implicitDefEqProofs only[go_sem,Nat.reduceEqDiff,Nat.reduceBEq,Nat.reduceAdd,gLa,gLz,gLs,r5,r6,c6,d6,ft_beq,tf_beq,beq_self_eq_true]
    refine loopD [2,4,5,37,38] (dcI w0 w5 (s2.drop 32) cn a vv bits) cn ⟨0,.slice Option.none 0 0,rfl,by omega,rfl,k5,rfl,NwD.nil _ _ _,hR5,Fr.refl _ _⟩ ?_
    rintro _ vs w g ⟨i,sv,rfl,hi,rfl,kw,hso,hN,hRw,fw⟩
    have f0w:No w0 w:=f05.trans' fw fun b hb h=>by omega
    by_cases hlt:i<cn
    ·have d1:decide ((i:Int)<(cn:Int))=true:=decide_eq_true (by omega)
     have c1:IntKind.i64.wrap ((i:Int)+1)=((i+1:Nat):Int):=i64add (b:=1) (by omega)
     have r7:rdO Tryz.prog 94 w (w0.heap.size+1) 34=some sv:=rd_one (A:=.bool a.isSome::vv::bits.map u8) (C:=[]) Tryz.agg94 kw (by simp[hbl])
     have hrest:32*(i+1)≤(s2.drop 32).length:=by omega
     have hdl:((s2.drop 32).drop (32*i)).length ≥ 32:=by rw[List.length_drop];omega
     have hch:=Wit.chunk_snoc i (s2.drop 32)
     obtain⟨d,hd⟩:∃ d,d=((s2.drop 32).drop (32*i)).take 32:=⟨_,rfl⟩
     have hd32:d.length=32:=by rw[hd,List.length_take];omega
     rw[← hd] at hch
     have rowE:∀ sv:Value,(prL a.isSome vv bits sv).toArray=(.bool a.isSome::vv::bits.map u8++sv::[]).toArray:=fun sv=>by simp[prL]
     have hszw:=fw.size
     have hsz5:w0.heap.size+1+1<w5.heap.size:=heap_lt kr5
     have fd:No w w.drew:=(Fr.refl _ _).drew
     have tk : ∀ v6 w6, TkQ w0 w.drew (w0.heap.size + 1 + 1) ((s2.drop 32).drop (32 * i)) false 32 v6 w6 → ∃ b o, v6 = .slice (some ⟨b, o, Option.none⟩) 32 32 ∧ rdO Tryz.prog 23 w6 b o = some (dg d) ∧ rdO Tryz.prog 94 w6 (w0.heap.size + 1) 34 = some sv ∧
         PRd w0 w6 (w0.heap.size + 1 + 1) ((s2.drop 32).drop (32 * (i + 1))) false ∧ Fr (fun b => b = w0.heap.size + 1 + 1) w w6 ∧ No w0 w6 ∧ NwD w5 w6 23 sv (Wit.chunk i (s2.drop 32)) ∧ w6.heap[w0.heap.size + 1]? = some (.cells (prL a.isSome vv bits sv).toArray 122 (0,0)) := fun v6 w6 h => by
      obtain⟨g6,hm6⟩:=h
      rw[if_neg (by omega)] at hm6
      obtain⟨hb6,_,hs6,hR6⟩:=hm6
      obtain⟨b,o,rfl⟩:=hs6 (by omega)
      have fw6:Fr (fun b=>b=w0.heap.size+1+1) w w6:=(Fr.refl _ w).drew.trans g6
      have f06:No w0 w6:=f0w.trans' fw6 fun b hb h=>by omega
      rw[← hd] at hb6
      have k6:=fw6.at kw (by omega)
      refine⟨b,o,rfl,(hb6.fr0 f06).dg Tryz.agg23 Tryz.sz23 hd32,rd_one (A:=.bool a.isSome::vv::bits.map u8) (C:=[]) Tryz.agg94 (by rw[k6,rowE]) (by simp[hbl]),?_,fw6,f06,hN.fr fw6 fun b hb h=>by have:=(hN.lt hb).1;omega,k6⟩
      rw[List.drop_drop,show 32*i+32=32*(i+1) by omega] at hR6
      exact hR6
     have push : ∀ w6, NwD w5 w6 23 sv (Wit.chunk i (s2.drop 32)) → Fr (fun b => b = w0.heap.size + 1 + 1) w w6 → PRd w0 w6 (w0.heap.size + 1 + 1) ((s2.drop 32).drop (32 * (i + 1))) false → w6.heap[w0.heap.size + 1]? = some (.cells (prL a.isSome vv bits sv).toArray 122 (0, 0)) →
         ∃ v7 w7 w8,(Builtin.append_ #[94,94] 0 #[sv,.slice (some ⟨w6.heap.size,0,Option.none⟩) 1 1]).run Tryz.prog (w6.alloc (.cells (bl d) 23)) = .ok v7 w7 ∧ wrO Tryz.prog 94 w7 (w0.heap.size + 1) 34 v7 = some w8 ∧
           dcK w0 w5 (s2.drop 32) cn a vv bits i (pt w0.heap.size 0) (pt (w0.heap.size + 1) 0) (pt (w0.heap.size + 1 + 1) 0) (.int .i64 (cn : Nat)) (.int .i64 (i : Nat)) w8 := fun w6 hN6 fw6 hR6 k6 => by
      have cl:(Wit.chunk i (s2.drop 32)).length=i:=Wit.chunk_len _ _
      have h56:Fr (fun b=>b=w0.heap.size+1∨b=w0.heap.size+1+1) w5 w6:=fw.trans (fw6.mono fun _ _ h=>.inr h)
      obtain⟨v7,w7,hr7,hown7,g7,m7⟩:=app_freshX (P:=Tryz.prog) Tryz.app94_94 hN6.2 (m:=1) (xs:=bl d) (by rw[bl_size,hd32]) (u8s_one d) (by omega) (bd_one (by rw[cl];omega)) (by rw[cl];omega) h56.size
      have n7:NwD w5 w7 23 v7 (Wit.chunk (i+1) (s2.drop 32)):=by
       rw[hch]
       refine⟨hN6.1.app (All32.one hd32),?_⟩
       rw[List.length_append,flat_app,flat_one];exact hown7
      have o7:one v7=true:=by obtain⟨a,c,rfl,_⟩:=n7.rd.slice;rfl
      have k7:=g7.at k6 fun h=>by have:=(hN6.lt h).1;omega
      rw[rowE] at k7
      have q8:=wr_one (P:=Tryz.prog) (A:=.bool a.isSome::vv::bits.map u8) (C:=[]) (v:=v7) Tryz.sz94 k7 o7 (o:=34) (by simp[hbl])
      have f8:Fr (fun b=>b=w0.heap.size+1) w7 (put w7 (w0.heap.size+1) (.cells (.bool a.isSome::vv::bits.map u8++v7::[]).toArray 122 (0,0))):=(Fr.refl _ _).put (b:=w0.heap.size+1) _ fun _=>rfl
      refine⟨v7,w7,_,hr7,q8,v7,rfl,rfl,rfl,rfl,rfl,by rw[put_at k7,rowE],o7,n7.fr f8 fun b hb h=>by have:=(n7.lt hb).1;omega,(hR6.fr g7 fun h=>by have:=(hN6.lt h).1;omega).fr f8 (by omega),?_⟩
      refine (h56.trans' g7 fun b hb h=>?_).trans (f8.mono fun _ _ h=>.inl h)
      have:=(hN6.lt h).1
      omega
     simp -implicitDefEqProofs only[go_sem,Nat.reduceEqDiff,Nat.reduceBEq,Nat.reduceAdd,gLa,gLz,gLs,d1]
     refine den_ot (fun j=>j == 6) (.one 0 (.one 2 (.two 1 (.row [3,4,5,6,7,8,9]) 3 (.row [1,4,5,6,7,8,9])))) rfl (by kernel_rfl) (by kernel_rfl) ?_
     refine denOT_mono (K:=fun ev w=>dcK w0 w5 (s2.drop 32) cn a vv bits i (ev 2) (ev 4) (ev 5) (ev 37) (ev 38) w) ?rest _ ?main
     case main =>
      have r7d:rdO Tryz.prog 94 w.drew (w0.heap.size+1) 34=some sv:=r7
      have le32:(32≤(32:Nat))=True:=by simp
      simp only[OT.row]
      simp -implicitDefEqProofs only[go_sem,Nat.reduceEqDiff,Nat.reduceBEq,Nat.reduceAdd,gLa,gLz,gLs,r7,r7d]
      refine⟨?_,?_⟩
      ·refine contOT_call Tryz.pl117 ((ptake w0 w.drew (hRw.fr fd id) 32).mono ?_)
       intro v6 w6 h6
       obtain⟨b,o,rfl,rd6,rs6,hR6,fw6,f06,hN6,k6⟩:=tk v6 w6 h6
       refine⟨fun h=>(by cases h),?_⟩
       simp -implicitDefEqProofs only[go_sem,Nat.reduceEqDiff,Nat.reduceBEq,Nat.reduceAdd,gLa,gLz,gLs,le32,rd6]
       refine contOT_is (v:=.slice (some ⟨w6.heap.size,0,Option.none⟩) 1 1) (w':=w6.alloc (.cells (bl d) 23)) (fill_one2 (y:=List.map u8 (List.replicate 32 0)) (by simp) (c:=bl (List.replicate 32 0)) (by simp) (d:=d) hd32 _) (fun _=>Ext.alloc _ _) ?_
       obtain⟨v7,w7,w8,hr7,q8,hK⟩:=push w6 hN6 fw6 hR6 k6
       simp -implicitDefEqProofs only[go_sem,Nat.reduceEqDiff,Nat.reduceBEq,Nat.reduceAdd,gLa,gLz,gLs]
       refine contOT_sem ⟨v7,w7,hr7,fun h=>(by cases h),?_⟩
       simp -implicitDefEqProofs only[go_sem,Nat.reduceEqDiff,Nat.reduceBEq,Nat.reduceAdd,gLa,gLz,gLs,q8]
       exact hK
      ·refine contOT_call Tryz.pl117 ((ptake w0 w.drew (hRw.fr fd id) 32).mono ?_)
       intro v6 w6 h6
       obtain⟨b,o,rfl,rd6,rs6,hR6,fw6,f06,hN6,k6⟩:=tk v6 w6 h6
       refine⟨fun h=>(by cases h),?_⟩
       simp -implicitDefEqProofs only[go_sem,Nat.reduceEqDiff,Nat.reduceBEq,Nat.reduceAdd,gLa,gLz,gLs,le32,rd6,rs6]
       refine contOT_is (v:=.slice (some ⟨w6.heap.size,0,Option.none⟩) 1 1) (w':=w6.alloc (.cells (bl d) 23)) (fill_one2 (y:=List.map u8 (List.replicate 32 0)) (by simp) (c:=bl (List.replicate 32 0)) (by simp) (d:=d) hd32 _) (fun _=>Ext.alloc _ _) ?_
       obtain⟨v7,w7,w8,hr7,q8,hK⟩:=push w6 hN6 fw6 hR6 k6
       simp -implicitDefEqProofs only[go_sem,Nat.reduceEqDiff,Nat.reduceBEq,Nat.reduceAdd,gLa,gLz,gLs]
       refine contOT_sem ⟨v7,w7,hr7,fun h=>(by cases h),?_⟩
       simp -implicitDefEqProofs only[go_sem,Nat.reduceEqDiff,Nat.reduceBEq,Nat.reduceAdd,gLa,gLz,gLs,q8]
       exact hK
     case rest =>
      rintro ev w9 ⟨sv9,e2,e4,e5,e37,e38,k9,o9,n9,R9,f9⟩
      simp -implicitDefEqProofs only[go_sem,Nat.reduceEqDiff,Nat.reduceBEq,Nat.reduceAdd,gLa,gLz,gLs,e2,e4,e5,e37,e38,c1]
      exact⟨cn - (i+1),by omega,i+1,sv9,rfl,by omega,rfl,k9,o9,n9,R9,f9⟩
    ·have d1:decide ((i:Int)<(cn:Int))=false:=decide_eq_false (by omega)
     obtain rfl:i=cn:=by omega
     have r7:rdO Tryz.prog 122 w (w0.heap.size+1) 0=some (.agg (prL a.isSome vv bits sv).toArray):=rd_all Tryz.agg122 (by simp[prL_len hbl,Tryz.sz122]) kw
     obtain⟨q7,l7⟩:=fin w (prL a.isSome vv bits sv) (fw.at k15 (by omega)) (prL_len hbl) (prL_one hvo hso)
     simp -implicitDefEqProofs only[go_sem,Nat.reduceEqDiff,Nat.reduceBEq,Nat.reduceAdd,gLa,gLz,gLs,d1,r7,q7,l7]
     rw[hY]
     have f8:Fr (fun b=>b=w0.heap.size) w (put w w0.heap.size (.cells (prL a.isSome vv bits sv).toArray 122 (0,0))):=(Fr.refl _ _).put (b:=w0.heap.size) _ fun _=>rfl
     have s5w:=fw.size
     have s8:=f8.size
     refine⟨lst _ _ f0w,vv,sv,rfl,(hv5.fr fw fun b hb _ h=>by have:=(hvb b hb).1;omega).fr f8 fun b hb _ h=>by have:=(hvb b hb).1;omega,(hN.fr f8 fun b hb h=>by have:=(hN.lt hb).1;have:=heap_lt k15;omega).rd,hvo,hso,fun b hb=>⟨by have:=(hvb b hb).1;omega,by have:=(hvb b hb).2;omega⟩,fun b hb=>⟨by have:=(hN.lt hb).1;have:=f05.size;omega,by have:=(hN.lt hb).2;omega⟩⟩
end C
end Go.V
end
