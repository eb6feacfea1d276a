/- Helpers. -/
import Derived.Test.YtmenaeggoakppaaGreatDoorG36
import Derived.Test.YtmenaeggoakppaaGreatDoorG31
set_option linter.all false
set_option maxRecDepth 100000
set_option maxHeartbeats 8000000
open List renaming replicate→zG
open Nat renaming reduceEqDiff→jF,reduceBEq→jB,zero_add→z8
open Option renaming bind_some→qV,map_some→qK
open Go.V.Wit renaming poss→kA,chunk→kE,decP→kI,gsOf→kO
namespace Go.V
open Go.Proofs.Tryz Go.V.Tryz
open Go.Proofs Sha
variable {bits k:Bs} {wd:Int} {cb h:Nat} {a:Option Bs} {bv rv sv vv:Value}
abbrev pZ:Array Value:=(#[.bool false,.slice Option.none 0 0]:Array Value)++Array.replicate 32 (.int .u8 0)++#[.slice Option.none 0 0]
theorem prL_zero:pZ=(prL false (.slice Option.none 0 0) (zG 32 0) (.slice Option.none 0 0)).toArray:=by
 apply Array.toList_inj.1;simp[prL]
theorem qJz {f:Bool}(hv:one vv=true)(hs:one sv=true):(prL f vv bits sv).all one=true:=by
 simp only[prL,List.all_cons,List.all_append,List.all_nil,hv,hs,Bool.and_true,Bool.true_and];rw[Bool.and_eq_true];exact⟨rfl,List.all_eq_true.2 fun x hx=>by obtain⟨y,_,rfl⟩:=List.mem_map.1 hx;rfl⟩
def DcQ (w0:World)(y:Option (Option Bs × Bs × List Bs))(r:Value)(w':World):Prop:=No w0 w'∧match y with
 | none=>r=.tuple #[.agg (prL false (.slice .none 0 0) (zG 32 0) (.slice .none 0 0)).toArray,.int .i64 120]
 | some (a,bits,sums)=>∃ vv sv,r=.tuple #[.agg (prL a.isSome vv bits sv).toArray,.int .i64 0]∧By w' vv (a.getD [])∧RdD w' sv sums∧one vv=true∧one sv=true∧(∀ b,qQb vv=some b→w0.heap.size≤b∧b<w'.heap.size)∧∀ b,qQb sv=some b→w0.heap.size≤b∧b<w'.heap.size
namespace C
def dcK (w0 wL:World)(rest:Bs)(cnt:Nat)(a:Option Bs)(vv:Value)(bits:Bs)(i:Nat)(x2 x4 x5 x37 x38:Value)(w:World):Prop :=
 ∃ sv,x2=pt w0.heap.size 0∧x4=pt (w0.heap.size+1) 0∧x5=pt (w0.heap.size+1+1) 0∧x37=.int .i64 (cnt:Nat)∧x38=.int .i64 (i:Nat)∧w.heap[w0.heap.size+1]?=some (.cells (prL a.isSome vv bits sv).toArray 122 (0,0))∧one sv=true ∧
  NwD wL w 23 sv (kE (i+1) rest)∧PRd w0 w (w0.heap.size+1+1) (rest.drop (32*(i+1))) false∧Fr (fun b=>b=w0.heap.size+1∨b=w0.heap.size+1+1) wL w
def dcI (w0 wL:World)(rest:Bs)(cnt:Nat)(a:Option Bs)(vv:Value)(bits:Bs)(n:Nat)(vs:List Value)(w:World):Prop :=
 ∃ (i:Nat) (sv:Value),vs=[pt w0.heap.size 0,pt (w0.heap.size+1) 0,pt (w0.heap.size+1+1) 0,.int .i64 (cnt:Nat),.int .i64 (i:Nat)]∧i≤cnt∧n=cnt - i∧w.heap[w0.heap.size+1]?=some (.cells (prL a.isSome vv bits sv).toArray 122 (0,0))∧one sv=true ∧
  NwD wL w 23 sv (kE i rest)∧PRd w0 w (w0.heap.size+1+1) (rest.drop (32*i)) false∧Fr (fun b=>b=w0.heap.size+1∨b=w0.heap.size+1+1) wL w
theorem decode (w0:World){s:Bs}(hr:By w0 rv s)(hl:s.length≤2 ^ 50):Fn prog 66 #[rv] w0 (DcQ w0 (kI s)):=by
 refine go66 (by simp) ?_;obtain⟨xa,xc,rfl,hxc⟩:=hr.slice;have bl1:bldO prog 203 [(0,.slice xa s.length xc)]=some (.agg #[.slice xa s.length xc,.bool false]):=rfl;have bl0:bldO prog 122 []=some (.agg pZ):=by kernel_rfl
 obtain⟨W,hW,f1,k1,k2,k3,s1⟩:=qZw w0 pZ 122 pZ 122 #[.slice xa s.length xc,.bool false] 203;have zsz:pZ.size=35:=by simp[pZ]
 have pz:=prL_zero
 have fin:∀ (w:World) (p:List Value), w.heap[w0.heap.size]?=some (.cells pZ 122 (0, 0))→p.length=35→p.all one=true →
   wrO prog 122 w w0.heap.size 0 (.agg p.toArray)=some (put w w0.heap.size (.cells p.toArray 122 (0,0)))∧rdO prog 122 (put w w0.heap.size (.cells p.toArray 122 (0,0))) w0.heap.size 0=some (.agg p.toArray):=fun w p h hp ho =>
  ⟨qQw (by simp[hp,sz122]) h (by simp[hp]) (by simpa using ho),qXz agg122 (by simp[hp,sz122]) (qQf (o:=.cells p.toArray 122 (0,0)) h)⟩
 have finz:∀ w:World,w.heap[w0.heap.size]?=some (.cells pZ 122 (0,0))→wrO prog 122 w w0.heap.size 0 (.agg pZ)=some (put w w0.heap.size (.cells pZ 122 (0,0)))∧rdO prog 122 (put w w0.heap.size (.cells pZ 122 (0,0))) w0.heap.size 0=some (.agg pZ):=fun w h=>by
  have:=fin w (prL false (.slice .none 0 0) (zG 32 0) (.slice .none 0 0)) h (qXv (by simp)) (qJz rfl rfl);rw[← pz]at this;exact this
 have lst:∀ (w:World) (c:Array Value),No w0 w→No w0 (put w w0.heap.size (.cells c 122 (0,0))):=fun w c h=>h.put (b:=w0.heap.size) _ fun h=>absurd h (Nat.lt_irrefl _)
 have hR:PRd w0 W (w0.heap.size+1+1) s false:=⟨_,k3,hr,by omega⟩
 have k2':=k2;rw[pz]at k2';simp -implicitDefEqProofs only[go_sem,jF,Tryz.f66,Value.cells,bl1,hW];refine qQa pl116 ((panswer w0 W f1 hR k2' (by omega) (by omega) hl).mono ?_);rintro r w2 ⟨f2,hm⟩;have f02:No w0 w2:=f1.trans' f2 fun b hb h=>by omega
 have k12:=f2.at k1 (by omega);unfold DcQ
 have hdec : kI s = match Wit.ansW s with
     | none => none
     | some p => if p.2.length < 32 then none else if p.2.length - 32 ≠ 32 * (kA (p.2.take 32) 256 0).length then none else some (p.1,p.2.take 32,kE (kA (p.2.take 32) 256 0).length (p.2.drop 32)) := by
  unfold kI Wit.ansW
  by_cases e1:s.length<1
  ·rw[if_pos e1,if_pos e1]
  rw[if_neg e1,if_neg e1]
  by_cases e2:1<(s.getD 0 0).toNat
  ·rw[if_pos e2,if_pos e2]
  rw[if_neg e2,if_neg e2]
  cases Wit.ansP (s.getD 0 0).toNat (s.drop 1) <;> rfl
 obtain⟨Y,hY⟩:∃ Y,Y=kI s:=⟨_,rfl⟩
 rw[← hY];rw[hdec]at hY
 cases ha:Wit.ansW s with
 | none =>
  rw[ha]at hm hY;obtain rfl:r=.bool false:=hm;obtain⟨q3,l3⟩:=finz w2 k12;simp -implicitDefEqProofs only[go_sem,jF,Bool.not_false,bl0,q3,l3];rw[hY];refine⟨lst _ _ f02,?_⟩;rw[pz]
 | some p =>
  obtain⟨a,s2⟩:=p;have hal:=Wit.ansW_len ha;rw[ha]at hm hY;dsimp only at hY;obtain⟨rfl,hR2,vv,kp,hv,hvo,hvb⟩:=hm;have hs2:s2.length≤2 ^ 50:=Nat.le_trans (Wit.ansW_rest ha) hl
  have psl:∀ (w:World),qXe prog 22 (.pointer (some ⟨w0.heap.size+1,2,.none⟩)) .none .none .none=some (.slice (some ⟨w0.heap.size+1,2,.none⟩) 32 32):=fun w=>by
   simp only[qXe,arr22,optB,qV,sz5,qK,Nat.zero_mul,Nat.sub_zero]
   rfl
  simp -implicitDefEqProofs only[go_sem,jF,jB,Bool.not_true,psl w2];refine qQa pl117 ((ptake w0 w2.drew (hR2.fr (Fr.refl (fun _=>False) w2).drew id) 32).mono ?_);rintro v3 w3 ⟨f3,hm3⟩;have f23:Fr (fun b=>b=w0.heap.size+1∨b=w0.heap.size+1+1) w2 w3:=((Fr.refl _ w2).drew).trans (f3.mono fun _ _ h=>.inr h);have f03:No w0 w3:=f02.trans' f23 fun b hb h=>by omega
  have kp3:=f3.at (show w2.drew.heap[w0.heap.size+1]?=_ from kp) (by omega);have k13:=f3.at (show w2.drew.heap[w0.heap.size]?=_ from k12) (by omega);have sW:W.heap.size=w0.heap.size+3:=s1;have s12:=f2.size;have s23:=f23.size;have psz:∀ b:Bs,b.length=32→(prL a.isSome vv b (.slice .none 0 0)).toArray.size=35:=fun b hb=>by simp[qXv hb]
  have cnt:∀ (w:World) (bits:Bs),bits.length=32→w.heap[w0.heap.size+1]?=some (.cells (prL a.isSome vv bits (.slice .none 0 0)).toArray 122 (0,0))→rdO prog 22 w (w0.heap.size+1) 2=some (dg bits):=fun w bits hb h =>
   rd_mid (A:=[.bool a.isSome,vv]) (B:=bits.map u8) (C:=[.slice .none 0 0]) agg22 sz22 h (by simp[hb]) (by decide) rfl
  by_cases h32:s2.length<32
  ·rw[if_pos h32]at hm3 hY
   obtain⟨rfl,hR3⟩:=hm3
   have hrun:=qKm (P:=prog) (ts:=#[25,25]) (t:=25) rfl slc25 sz5 (w:=w3) (b:=w0.heap.size+1) (o:=2) (dn:=32) (dc:=32) kp3 (NwB.nil w3 w3).by (qXs _) (by rw[psz _ (by simp)];simp)
   have est:qXo (((([]:Bs).map u8)).take (min ([]:Bs).length 32*1)) 2 (prL a.isSome vv (zG 32 0) (.slice .none 0 0)).toArray=(prL a.isSome vv (zG 32 0) (.slice .none 0 0)).toArray:=rfl;rw[est]at hrun;have k4:=qQf (o:=.cells (prL a.isSome vv (zG 32 0) (.slice .none 0 0)).toArray 122 (0,0)) kp3;have f4:Fr (fun b=>b=w0.heap.size+1) w3 (put w3 (w0.heap.size+1) (.cells (prL a.isSome vv (zG 32 0) (.slice .none 0 0)).toArray 122 (0,0))):=(Fr.refl _ _).put (b:=w0.heap.size+1) _ fun _=>rfl;generalize put w3 (w0.heap.size+1) (.cells (prL a.isSome vv (zG 32 0) (.slice .none 0 0)).toArray 122 (0,0))=w4 at *;simp -implicitDefEqProofs only[go_sem,jF];refine qQg ⟨_,w4,hrun,?_⟩;have r4:=cnt w4 _ (by simp) k4;simp -implicitDefEqProofs only[go_sem,jF,r4];refine qQa pl118 ((ones w4 (bits:=zG 32 0) (by simp)).mono ?_);rintro _ w5 ⟨rfl,f5⟩;have hR5:=(hR3.fr f4 (by omega)).fr f5 id;obtain⟨rv5,kr5,_,_⟩:=hR5;have r5:rdO prog 4 w5 (w0.heap.size+1+1) 1=some (.bool true):=rd1 (P:=prog) (o:=1) agg4 kr5 rfl;have f05:No w0 w5:=(f03.trans' f4 fun b hb h=>by omega).trans f5;obtain⟨q6,l6⟩:=finz w5 (f5.at (f4.at k13 (by omega)) id);simp -implicitDefEqProofs only[go_sem,jF,gLa,gLz,gLs,r5,tf_beq,bl0,q6,l6];rw[hY];refine⟨lst _ _ f05,?_⟩;rw[pz]
  ·rw[if_neg h32]at hm3 hY
   obtain⟨hb3,_,hs3,hR3⟩:=hm3;obtain⟨b3,o3,rfl⟩:=hs3 (by omega)
   obtain⟨bits,hbits⟩:∃ bits,bits=s2.take 32:=⟨_,rfl⟩
   have hbl:bits.length=32:=by rw[hbits,lTk];omega
   rw[← hbits]at hb3 hY;have hb3':By w3 (.slice (some ⟨b3,o3,.none⟩) 32 32) bits:=hb3.fr0 f03;have hrun:=qKm (P:=prog) (ts:=#[25,25]) (t:=25) rfl slc25 sz5 (w:=w3) (b:=w0.heap.size+1) (o:=2) (dn:=32) (dc:=32) kp3 hb3' (qXs _) (by rw[psz _ (by simp),hbl];decide)
   have est:qXo ((bits.map u8).take (min bits.length 32*1)) 2 (prL a.isSome vv (zG 32 0) (.slice .none 0 0)).toArray=(prL a.isSome vv bits (.slice .none 0 0)).toArray:=by
    rw[hbl,List.take_of_length_le (by simp[hbl])];apply Array.toList_inj.1;rw[qXk _ _ _ (by simp[prL,hbl])];simp[prL,hbl]
   rw[est]at hrun;have k4:=qQf (o:=.cells (prL a.isSome vv bits (.slice .none 0 0)).toArray 122 (0,0)) kp3;have f4:Fr (fun b=>b=w0.heap.size+1) w3 (put w3 (w0.heap.size+1) (.cells (prL a.isSome vv bits (.slice .none 0 0)).toArray 122 (0,0))):=(Fr.refl _ _).put (b:=w0.heap.size+1) _ fun _=>rfl;generalize put w3 (w0.heap.size+1) (.cells (prL a.isSome vv bits (.slice .none 0 0)).toArray 122 (0,0))=w4 at *;simp -implicitDefEqProofs only[go_sem,jF];refine qQg ⟨_,w4,hrun,?_⟩;have r4:=cnt w4 _ hbl k4;simp -implicitDefEqProofs only[go_sem,jF,r4];refine qQa pl118 ((ones w4 hbl).mono ?_);rintro _ w5 ⟨rfl,f5⟩;have hcl:=Wit.poss_le bits 256 0;have hR5:=(hR3.fr f4 (by omega)).fr f5 id;have k5:=f5.at k4 id;have k15:=f5.at (f4.at k13 (by omega)) id;have f05:No w0 w5:=(f03.trans' f4 fun b hb h=>by omega).trans f5;have f25:Fr (fun b=>b=w0.heap.size+1∨b=w0.heap.size+1+1) w2 w5:=(f23.trans (f4.mono fun _ _ h=>.inl h)).trans (f5.mono fun _ _ h=>h.elim);have hv5:By w5 vv (a.getD []):=hv.fr f25 fun b hb _ h=>by have:=(hvb b hb).1;omega
   have s25:=f25.size;obtain⟨rv5,kr5,hb5,_⟩:=id hR5;obtain⟨ra,rc,rfl,_⟩:=hb5.slice;have r5:rdO prog 4 w5 (w0.heap.size+1+1) 1=some (.bool false):=rd1 (P:=prog) (o:=1) agg4 kr5 rfl;have r6:rdO prog 25 w5 (w0.heap.size+1+1) 0=some (.slice ra (s2.drop 32).length rc):=rd1 (P:=prog) (o:=0) agg25 kr5 rfl;have c6:IntKind.i64.wrap (((kA bits 256 0).length:Int)*32)=(((kA bits 256 0).length*32:Nat):Int):=by rw[show (((kA bits 256 0).length:Int)*32)=(((kA bits 256 0).length*32:Nat):Int) by push_cast;rfl];exact i64n
   have hrl:(s2.drop 32).length=s2.length - 32:=lDr
   by_cases hne:s2.length - 32≠32*(kA bits 256 0).length
   ·rw[if_pos hne]at hY
    have d6:(((s2.drop 32).length:Int) != (((kA bits 256 0).length*32:Nat):Int))=true:=by rw[bne_iff_ne];omega
    obtain⟨q6,l6⟩:=finz w5 k15;simp -implicitDefEqProofs only[go_sem,jF,gLa,gLz,gLs,r5,r6,c6,d6,bSe,bl0,q6,l6];rw[hY];refine⟨lst _ _ f05,?_⟩;rw[pz]
   ·rw[if_neg hne]at hY
    have d6:(((s2.drop 32).length:Int) != (((kA bits 256 0).length*32:Nat):Int))=false:=by rw[bne_eq_false_iff_eq];omega
    generalize hcn:(kA bits 256 0).length=cn at *;simp -implicitDefEqProofs only[go_sem,jF,gLa,gLz,gLs,r5,r6,c6,d6,bSe];refine loopD [2,4,5,37,38] (dcI w0 w5 (s2.drop 32) cn a vv bits) cn ⟨0,.slice .none 0 0,rfl,by omega,rfl,k5,rfl,NwD.nil _ _ _,hR5,Fr.refl _ _⟩ ?_;rintro _ vs w g ⟨i,sv,rfl,hi,rfl,kw,hso,hN,hRw,fw⟩;have f0w:No w0 w:=f05.trans' fw fun b hb h=>by omega
    by_cases hlt:i<cn
    ·have d1:=dTo ((i:Int)<(cn:Int))
     have c1:=iSu (i:=i);have r7:rdO prog 94 w (w0.heap.size+1) 34=some sv:=rd_one (A:=.bool a.isSome::vv::bits.map u8) (C:=[]) agg94 kw (by simp[hbl]);have hrest:32*(i+1)≤(s2.drop 32).length:=by omega
     have hdl:((s2.drop 32).drop (32*i)).length ≥ 32:=by rw[lDr];omega
     have hch:=Wit.chunk_snoc i (s2.drop 32)
     obtain⟨d,hd⟩:∃ d,d=((s2.drop 32).drop (32*i)).take 32:=⟨_,rfl⟩
     have hd32:d.length=32:=by rw[hd,lTk];omega
     rw[← hd]at hch;have rowE:∀ sv:Value,(prL a.isSome vv bits sv).toArray=(.bool a.isSome::vv::bits.map u8++sv::[]).toArray:=fun sv=>by simp[prL]
     have hszw:=fw.size;have hsz5:w0.heap.size+1+1<w5.heap.size:=qQh kr5;have fd:No w w.drew:=(Fr.refl _ _).drew
     have tk:∀ v6 w6, TkQ w0 w.drew (w0.heap.size+1+1) ((s2.drop 32).drop (32*i)) false 32 v6 w6→∃ b o, v6=.slice (some ⟨b, o, .none⟩) 32 32∧rdO prog 23 w6 b o=some (dg d)∧rdO prog 94 w6 (w0.heap.size+1) 34=some sv ∧
       PRd w0 w6 (w0.heap.size+1+1) ((s2.drop 32).drop (32*(i+1))) false∧Fr (fun b=>b=w0.heap.size+1+1) w w6∧No w0 w6∧NwD w5 w6 23 sv (kE i (s2.drop 32))∧w6.heap[w0.heap.size+1]?=some (.cells (prL a.isSome vv bits sv).toArray 122 (0,0)):=fun v6 w6 h=>by
      obtain⟨g6,hm6⟩:=h;rw[if_neg (by omega)]at hm6;obtain⟨hb6,_,hs6,hR6⟩:=hm6;obtain⟨b,o,rfl⟩:=hs6 (by omega);have fw6:Fr (fun b=>b=w0.heap.size+1+1) w w6:=(Fr.refl _ w).drew.trans g6;have f06:No w0 w6:=f0w.trans' fw6 fun b hb h=>by omega
      rw[← hd]at hb6;have k6:=fw6.at kw (by omega);refine⟨b,o,rfl,(hb6.fr0 f06).dg agg23 sz23 hd32,rd_one (A:=.bool a.isSome::vv::bits.map u8) (C:=[]) agg94 (by rw[k6,rowE]) (by simp[hbl]),?_,fw6,f06,hN.fr fw6 fun b hb h=>by have:=(hN.lt hb).1;omega,k6⟩;rw[List.drop_drop,show 32*i+32=32*(i+1) by omega]at hR6;exact hR6
     have push:∀ w6, NwD w5 w6 23 sv (kE i (s2.drop 32))→Fr (fun b=>b=w0.heap.size+1+1) w w6→PRd w0 w6 (w0.heap.size+1+1) ((s2.drop 32).drop (32*(i+1))) false→w6.heap[w0.heap.size+1]?=some (.cells (prL a.isSome vv bits sv).toArray 122 (0, 0)) →
       ∃ v7 w7 w8,(Builtin.append_ #[94,94] 0 #[sv,.slice (some ⟨w6.heap.size,0,.none⟩) 1 1]).run prog (w6.alloc (.cells (bl d) 23))=.ok v7 w7∧wrO prog 94 w7 (w0.heap.size+1) 34 v7=some w8 ∧
        dcK w0 w5 (s2.drop 32) cn a vv bits i (pt w0.heap.size 0) (pt (w0.heap.size+1) 0) (pt (w0.heap.size+1+1) 0) (.int .i64 (cn:Nat)) (.int .i64 (i:Nat)) w8:=fun w6 hN6 fw6 hR6 k6=>by
      have cl:(kE i (s2.drop 32)).length=i:=Wit.chunk_len _ _;have h56:Fr (fun b=>b=w0.heap.size+1∨b=w0.heap.size+1+1) w5 w6:=fw.trans (fw6.mono fun _ _ h=>.inr h);obtain⟨v7,w7,hr7,hown7,g7,m7⟩:=qJk (P:=prog) app94_94 hN6.2 (m:=1) (xs:=bl d) (by rw[qXa,hd32]) (qXs d) (by omega) (bd_one (by rw[cl];omega)) (by rw[cl];omega) h56.size
      have n7:NwD w5 w7 23 v7 (kE (i+1) (s2.drop 32)):=by
       rw[hch];refine⟨hN6.1.app (All32.one hd32),?_⟩;rw[lAp,qJv,flat_one];exact hown7
      have o7:one v7=true:=by obtain⟨a,c,rfl,_⟩:=n7.rd.slice;rfl
      have k7:=g7.at k6 fun h=>by have:=(hN6.lt h).1;omega
      rw[rowE]at k7;have q8:=wr_one (P:=prog) (A:=.bool a.isSome::vv::bits.map u8) (C:=[]) (v:=v7) sz94 k7 o7 (o:=34) (by simp[hbl]);have f8:Fr (fun b=>b=w0.heap.size+1) w7 (put w7 (w0.heap.size+1) (.cells (.bool a.isSome::vv::bits.map u8++v7::[]).toArray 122 (0,0))):=(Fr.refl _ _).put (b:=w0.heap.size+1) _ fun _=>rfl;refine⟨v7,w7,_,hr7,q8,v7,rfl,rfl,rfl,rfl,rfl,by rw[qQf k7,rowE],o7,n7.fr f8 fun b hb h=>by have:=(n7.lt hb).1;omega,(hR6.fr g7 fun h=>by have:=(hN6.lt h).1;omega).fr f8 (by omega),?_⟩;refine (h56.trans' g7 fun b hb h=>?_).trans (f8.mono fun _ _ h=>.inl h);have:=(hN6.lt h).1;omega
     simp -implicitDefEqProofs only[go_sem,jF,d1];refine qJo (fun j=>j == 6) (.one 0 (.one 2 (.two 1 (.row [3,4,5,6,7,8,9]) 3 (.row [1,4,5,6,7,8,9])))) rfl (by kernel_rfl) (by kernel_rfl) ?_;refine qXm (K:=fun ev w=>dcK w0 w5 (s2.drop 32) cn a vv bits i (ev 2) (ev 4) (ev 5) (ev 37) (ev 38) w) ?rest _ ?main
     case main =>
      have r7d:rdO prog 94 w.drew (w0.heap.size+1) 34=some sv:=r7;have le32:(32≤(32:Nat))=True:=by simp
      simp only[OT.row];simp -implicitDefEqProofs only[go_sem,jF,jB,gLa,gLz,gLs,r7d];refine⟨?_,?_⟩
      ·refine qQn pl117 ((ptake w0 w.drew (hRw.fr fd id) 32).mono ?_)
       intro v6 w6 h6;obtain⟨b,o,rfl,rd6,rs6,hR6,fw6,f06,hN6,k6⟩:=tk v6 w6 h6;refine⟨fun h=>(by cases h),?_⟩;simp -implicitDefEqProofs only[go_sem,jB,gLa,gLz,gLs,le32,rd6];refine qZe (v:=.slice (some ⟨w6.heap.size,0,.none⟩) 1 1) (w':=w6.alloc (.cells (bl d) 23)) (qXb (y:=List.map u8 (zG 32 0)) (by simp) (c:=bl (zG 32 0)) (by simp) (d:=d) hd32 _) (fun _=>Ext.alloc _ _) ?_;obtain⟨v7,w7,w8,hr7,q8,hK⟩:=push w6 hN6 fw6 hR6 k6;simp -implicitDefEqProofs only[go_sem,jF,gLa,gLz,gLs];refine qXx ⟨v7,w7,hr7,fun h=>(by cases h),?_⟩;simp -implicitDefEqProofs only[go_sem,jF,jB,gLa,gLz,gLs,q8];exact hK
      ·refine qQn pl117 ((ptake w0 w.drew (hRw.fr fd id) 32).mono ?_)
       intro v6 w6 h6;obtain⟨b,o,rfl,rd6,rs6,hR6,fw6,f06,hN6,k6⟩:=tk v6 w6 h6;refine⟨fun h=>(by cases h),?_⟩;simp -implicitDefEqProofs only[go_sem,jF,jB,gLa,gLz,gLs,le32,rd6,rs6];refine qZe (v:=.slice (some ⟨w6.heap.size,0,.none⟩) 1 1) (w':=w6.alloc (.cells (bl d) 23)) (qXb (y:=List.map u8 (zG 32 0)) (by simp) (c:=bl (zG 32 0)) (by simp) (d:=d) hd32 _) (fun _=>Ext.alloc _ _) ?_;obtain⟨v7,w7,w8,hr7,q8,hK⟩:=push w6 hN6 fw6 hR6 k6;simp -implicitDefEqProofs only[go_sem,jF,gLa,gLz,gLs];refine qXx ⟨v7,w7,hr7,fun h=>(by cases h),?_⟩;simp -implicitDefEqProofs only[go_sem,jF,jB,gLa,gLz,gLs,q8];exact hK
     case rest =>
      rintro ev w9 ⟨sv9,e2,e4,e5,e37,e38,k9,o9,n9,R9,f9⟩;simp -implicitDefEqProofs only[go_sem,jF,e2,e4,e5,e37,e38,c1];exact⟨cn - (i+1),by omega,i+1,sv9,rfl,by omega,rfl,k9,o9,n9,R9,f9⟩
    ·have d1:=dFo ((i:Int)<(cn:Int))
     obtain rfl:i=cn:=by omega
     have r7:rdO prog 122 w (w0.heap.size+1) 0=some (.agg (prL a.isSome vv bits sv).toArray):=qXz agg122 (by simp[qXv hbl,sz122]) kw;obtain⟨q7,l7⟩:=fin w (prL a.isSome vv bits sv) (fw.at k15 (by omega)) (qXv hbl) (qJz hvo hso);simp -implicitDefEqProofs only[go_sem,jF,d1,r7,q7,l7];rw[hY];have f8:Fr (fun b=>b=w0.heap.size) w (put w w0.heap.size (.cells (prL a.isSome vv bits sv).toArray 122 (0,0))):=(Fr.refl _ _).put (b:=w0.heap.size) _ fun _=>rfl;have s5w:=fw.size;have s8:=f8.size;refine⟨lst _ _ f0w,vv,sv,rfl,(hv5.fr fw fun b hb _ h=>by have:=(hvb b hb).1;omega).fr f8 fun b hb _ h=>by have:=(hvb b hb).1;omega,(hN.fr f8 fun b hb h=>by have:=(hN.lt hb).1;have:=qQh k15;omega).rd,hvo,hso,fun b hb=>⟨by have:=(hvb b hb).1;omega,by have:=(hvb b hb).2;omega⟩,fun b hb=>⟨by have:=(hN.lt hb).1;have:=f05.size;omega,by have:=(hN.lt hb).2;omega⟩⟩
end C
section
namespace Wit
theorem gs_at {sums:List Bs}(hs:sums.length=(poss bits 256 0).length)(hh:h<256)(hb:mbit bits h=true) :
  (poss bits h 0).length<sums.length∧(poss bits (h+1) 0).length=(poss bits h 0).length+1∧(gsOf bits sums).drop (poss bits h 0).length=(h,sums.getD (poss bits h 0).length [])::(gsOf bits sums).drop (poss bits (h+1) 0).length:=by
 have h1:poss bits (h+1) 0=poss bits h 0++[h]:=by rw[poss_snoc,z8,if_neg (by rw[hb];decide)]
 have h2:(poss bits (h+1) 0).length=(poss bits h 0).length+1:=by rw[h1];simp
 have h3:poss bits 256 0=poss bits (h+1) 0++poss bits (255 - h) (h+1):=by rw[show 256=(h+1)+(255 - h) by omega,poss_add,z8]
 have h4:(poss bits h 0).length<(poss bits 256 0).length:=by rw[h3,lAp,h2];omega
 refine⟨by omega,h2,?_⟩;have hz:(gsOf bits sums).length=sums.length:=by unfold gsOf;rw[List.length_zip,hs,Nat.min_self]
 rw[List.drop_eq_getElem_cons (by omega),h2]
 congr 1
 have hg:(poss bits 256 0)[(poss bits h 0).length]'h4=h:=by
  have:(poss bits 256 0)[(poss bits h 0).length]?=some h:=by
   rw[h3,List.getElem?_append_left (by omega),h1,List.getElem?_append_right (Nat.le_refl _),Nat.sub_self];rfl
  rw[List.getElem?_eq_getElem h4]at this;exact Option.some.inj this
 unfold gsOf;rw[List.getElem_zip,hg,qQi _ (by omega)]
theorem gs_skip (hb:mbit bits h=false):(poss bits (h+1) 0).length=(poss bits h 0).length:=by rw[poss_snoc,z8,if_pos hb,List.append_nil]
end Wit
structure CkP (w:World) (cb:Nat) (wd:Int) (k root:Bs) (a:Option Bs) (bits:Bs) (sums:List Bs) (rv vv sv bv:Value) (e:Bs):Prop where
 ck:Ck w cb wd k rv root (prL a.isSome vv bits sv) e bv
 hb:bits.length=32
 vl:By w vv (a.getD [])
 sm:RdD w sv sums
 bl:Bl w cb wd bv
 vn:∀ b,qQb vv=some b→cb<b
 sn:∀ b,qQb sv=some b→cb<b
 le:∀ v,a=some v→v.length≤128
 sl:sums.length=(kA bits 256 0).length
 tb:5≤cb
 vlt:∀ b,qQb vv=some b→b<w.heap.size
 slt:∀ b,qQb sv=some b→b<w.heap.size
section
variable {w w':World} {cb:Nat} {wd:Int} {k root:Bs} {a:Option Bs} {bits:Bs} {sums:List Bs} {rv vv sv bv:Value} {e:Bs}
theorem CkP.fr0 (h:CkP w cb wd k root a bits sums rv vv sv bv e)(f:No w w'):CkP w' cb wd k root a bits sums rv vv sv bv e :=
 ⟨h.ck.fr0 f,h.hb,h.vl.fr0 f,h.sm.fr0 f,h.bl.fr0 f,h.vn,h.sn,h.le,h.sl,h.tb,fun b hb=>by have:=h.vlt b hb;have:=f.size;omega,fun b hb=>by have:=h.slt b hb;have:=f.size;omega⟩
theorem CkP.frC (h:CkP w cb wd k root a bits sums rv vv sv bv e)(f:Fr (fun b=>b=cb) w w'){e':Bs}{bv':Value}(hC:Ck w' cb wd k rv root (prL a.isSome vv bits sv) e' bv')(hB:Bl w' cb wd bv'):CkP w' cb wd k root a bits sums rv vv sv bv' e' :=
 ⟨hC,h.hb,h.vl.fr f fun b hb _ e=>by have:=h.vn b hb;omega,h.sm.fr f fun b hb _ e=>by have:=h.sn b hb;omega,hB,h.vn,h.sn,h.le,h.sl,h.tb,fun b hb=>by have:=h.vlt b hb;have:=f.size;omega,fun b hb=>by have:=h.slt b hb;have:=f.size;omega⟩
theorem CkP.bits68 (h:CkP w cb wd k root a bits sums rv vv sv bv e):∀ i,i<32→rdO prog 5 w cb (66+2+i)=some (u8 (bits.getD i 0)):=fun i hi=>h.ck.bit h.hb hi
theorem CkP.frF {F:Nat→Prop}(h:CkP w cb wd k root a bits sums rv vv sv bv e)(f:Fr F w w')(h1:¬ F cb)(h2:∀ b,F b→qQb vv≠some b)(h3:∀ b,F b→qQb sv≠some b)(h4:∀ b,F b→qQb bv≠some b):CkP w' cb wd k root a bits sums rv vv sv bv e :=
 ⟨h.ck.fr f h1,h.hb,h.vl.fr f fun b hb _ hF=>h2 b hF hb,h.sm.fr f fun b hb _ hF=>h3 b hF hb,h.bl.imp id fun h'=>⟨h'.1.fr f fun b hb _ hF=>h4 b hF hb,h'.2⟩,h.vn,h.sn,h.le,h.sl,h.tb,fun b hb=>by have:=h.vlt b hb;have:=f.size;omega,fun b hb=>by have:=h.slt b hb;have:=f.size;omega⟩
end
namespace C
def RdQ (w0:World)(cb:Nat)(wd:Int)(k root:Bs)(rv:Value)(e:Bs)(bv:Value)(y:Option (Option Bs × Bs × List Bs))(r:Value)(w':World):Prop:=Fr (fun b=>b=cb) w0 w'∧match y with
 | none=>r=.int .i64 120
 | some (a,bits,sums)=>r=.int .i64 0∧∃ vv sv,CkP w' cb wd k root a bits sums rv vv sv bv e
theorem cread (w0:World){root:Bs}{p:List Value}{e:Bs}{raw:Bs}(hC:Ck w0 cb wd k rv root p e bv)(hB:Bl w0 cb wd bv)(hcb:5≤cb)(hr:By w0 rv raw)(hl:raw.length≤2 ^ 50) :
  Fn prog 151 #[pt cb 0] w0 (RdQ w0 cb wd k root rv e bv (kI raw)):=by
 refine go151 (by simp) ?_;have r1:=hC.raw;simp -implicitDefEqProofs only[go_sem,jF,Tryz.f151,r1];refine qQa pl66 ((decode w0 hr hl).mono ?_);rintro r w2 ⟨f2,hm⟩;unfold RdQ;have hlt:=hC.lt
 cases hd:kI raw with
 | none =>
  rw[hd]at hm;subst hm;obtain⟨w3,q3,hC3,f3⟩:=(hC.fr0 f2).putP (p':=prL false (.slice .none 0 0) (zG 32 0) (.slice .none 0 0)) (qXv (by simp)) (qJz rfl rfl);simp -implicitDefEqProofs only[go_sem,jF,gLa,gLz,gLs,q3];exact⟨(f2.mono fun _ _ h=>h.elim).trans f3,trivial⟩
 | some y =>
  obtain⟨a,bits,sums⟩:=y;rw[hd]at hm;obtain⟨vv,sv,rfl,hv,hs,hvo,hso,hvb,hsb⟩:=hm;obtain⟨h1,h2,h3,h4⟩:=Wit.decP_ok hd;obtain⟨w3,q3,hC3,f3⟩:=(hC.fr0 f2).putP (p':=prL a.isSome vv bits sv) (qXv h1) (qJz hvo hso);simp -implicitDefEqProofs only[go_sem,jF,gLa,gLz,gLs,q3];have hvn:∀ b,qQb vv=some b→cb<b:=fun b hb=>by have:=(hvb b hb).1;omega
  have hsn:∀ b,qQb sv=some b→cb<b:=fun b hb=>by have:=(hsb b hb).1;omega
  exact⟨(f2.mono fun _ _ h=>h.elim).trans f3,vv,sv,hC3,h1,hv.fr f3 fun b hb _ e=>by have:=hvn b hb;omega,hs.fr f3 fun b hb _ e=>by have:=hsn b hb;omega,(hB.fr0 f2).frC f3,hvn,hsn,h4,h2,hcb,fun b hb=>by have:=(hvb b hb).2;have:=f3.size;omega,fun b hb=>by have:=(hsb b hb).2;have:=f3.size;omega⟩
theorem bareP (w0:World)(ht:Tabs w0){k root:Bs}{sums:List Bs}{e:Bs}(hP:CkP w0 cb wd k root a bits sums rv vv sv bv e)(hh:h<256) :
  Fn prog 201 #[pt cb 0,.int .i64 (h:Nat)] w0 fun v w'=>v=dg (emptD wd h)∧Fr (fun b=>b=cb) w0 w'∧∃ bv',CkP w' cb wd k root a bits sums rv vv sv bv' e∧RdD w' bv' (empts wd 256)∧((bv=.slice .none 0 0∧∀ b,qQb bv'=some b→w0.heap.size≤b)∨bv'=bv) :=
 (bare w0 ht hP.ck hP.bl hP.tb hh).mono fun v w' ⟨h1,h2,bv',h3,h4,h5,h6⟩=>⟨h1,h2,bv',hP.frC h2 h3 (.inr ⟨h4,h5⟩),h4,h6⟩
def tyI (w0:World)(cb:Nat)(wd:Int)(k root:Bs)(a:Option Bs)(bits:Bs)(sums:List Bs)(rv vv sv:Value)(e:Bs)(bv0:Value)(n:Nat)(vs:List Value)(w:World):Prop :=
 ∃ (h:Nat) (bv:Value),vs=[pt cb 0,.int .i64 ((kA bits h 0).length:Nat),.int .i64 (h:Nat)]∧h≤256∧n=256 - h∧CkP w cb wd k root a bits sums rv vv sv bv e∧Fr (fun b=>b=cb) w0 w∧Wit.chk wd (kO bits sums)=Wit.chk wd ((kO bits sums).drop (kA bits h 0).length)∧(bv0=.slice .none 0 0∨bv=bv0)
def tyJ (w3:World)(cb db W:Nat)(at' h:Nat)(d:Bs)(sl:Value)(n:Nat)(vs:List Value)(w:World):Prop :=
 ∃ (j:Nat),vs=[pt cb 0,.int .i64 (at':Nat),.int .i64 (h:Nat),pt db 0,.int .i64 (h:Nat),sl,.int .i64 ((32 - W:Nat):Int),.int .i64 (j:Nat)]∧j≤32 - W∧n=32 - W - j∧(∀ q,W≤q→q<W+j→d.getD q 0=0)∧w=w3
def tyK (w0:World)(cb:Nat)(wd:Int)(k root:Bs)(a:Option Bs)(bits:Bs)(sums:List Bs)(rv vv sv:Value)(e:Bs)(bv:Value)(h at1:Nat)(q:Bool)(x0 x3 x8 x44:Value)(w':World):Prop :=
 ∃ bv',x0=pt cb 0∧x3=.int .i64 (at1:Nat)∧x8=.int .i64 (h:Nat)∧x44=.bool q∧CkP w' cb wd k root a bits sums rv vv sv bv' e∧Fr (fun b=>b=cb) w0 w'∧(bv=.slice .none 0 0∨bv'=bv)
theorem tidy (w0:World)(ht:Tabs w0){k root:Bs}{sums:List Bs}{e:Bs}(hP:CkP w0 cb wd k root a bits sums rv vv sv bv e){W:Nat}(hW:wd=W)(hW2:W≤32) :
  Fn prog 152 #[pt cb 0] w0 fun v w'=>v=.int .i64 (Wit.chk wd (kO bits sums))∧Fr (fun b=>b=cb) w0 w'∧∃ bv',CkP w' cb wd k root a bits sums rv vv sv bv' e∧(bv=.slice .none 0 0∨bv'=bv):=by
 refine go152 (by simp) ?_;simp -implicitDefEqProofs only[go_sem,Tryz.f152];refine loopD [0,3,8] (tyI w0 cb wd k root a bits sums rv vv sv e bv) 256 ⟨0,bv,rfl,by omega,rfl,hP,Fr.refl _ _,rfl,.inr rfl⟩ ?_;rintro _ vs w g ⟨h,bv1,rfl,hh,rfl,hP1,fw,hck,hor⟩;have hcl:=hP1.ck.lt;have hle:=Wit.poss_le bits h 0
 by_cases hlt:h<256
 ·have d1:=dTo ((h:Int)<256)
  have c1:=iSu (i:=h);simp -implicitDefEqProofs only[go_sem,jF,d1];refine qQa pl200 ((bitOf w hP1.bits68 hlt).mono ?_);rintro _ _ ⟨rfl,rfl⟩;rename_i w
  cases hm:Wit.mbit bits h with
  | false =>
   simp -implicitDefEqProofs only[go_sem,jF,Bool.not_false,c1];rw[← Wit.gs_skip hm]at *;exact⟨256 - (h+1),by omega,h+1,bv1,rfl,by omega,rfl,hP1,fw,hck,hor⟩
  | true =>
   obtain⟨hal,hsuc,hdr⟩:=Wit.gs_at hP1.sl hlt hm;rw[hdr,Wit.chk]at hck;rw[hsuc]at hck hdr;have hd32:(sums.getD (kA bits h 0).length []).length=32:=hP1.sm.1.getD hal;obtain⟨b,o,cap,he,_,hsb⟩:=hP1.sm.pos (by omega);have rs:=hP1.ck.sums hP1.hb;rw[he]at rs;have hsm:=hP1.sm;rw[he]at hsm;have rd:=hsm.get (P:=prog) agg23 sz23 hal;have y1:(0:Int)≤((kA bits h 0).length:Int)∧((kA bits h 0).length:Int)<((sums.length:Nat):Int):=by omega
   have c2:IntKind.i64.wrap (((kA bits h 0).length:Int)+1)=(((kA bits h 0).length+1:Nat):Int):=qXc (b:=1);generalize hdd:sums.getD (kA bits h 0).length []=d at *;obtain⟨w3,q3,k3,f3,s3⟩:=R.allocD w sz23 hd32;have hP3:=hP1.fr0 f3;have r3:=hP3.ck.wd0;rw[hW]at r3
   obtain⟨o5,psl,ho5⟩:∃ o5,qXe prog 23 (.pointer (some ⟨w.heap.size,0,.none⟩)) (some (.int .i64 (W:Int))) .none .none=some (.slice (some ⟨w.heap.size,o5,.none⟩) (32 - W) (32 - W))∧(W<32→o5=W):=by
    by_cases e:32=W
    ·refine⟨0,?_,fun h=>by omega⟩
     simp only[qXe,arr23,optB,qV,sbO_nat hW2,sz5,qK];rw[if_pos e]
    ·refine⟨W,?_,fun _=>rfl⟩
     simp only[qXe,arr23,optB,qV,sbO_nat hW2,sz5,qK];rw[if_neg e];simp[Addr.add];omega
   simp -implicitDefEqProofs only[go_sem,jF,Nat.reduceAdd,gLa,gLz,Bool.not_true,rs,y1,and_self,iTn,rd,Value.cells,qQj,q3,c2,r3,psl];refine loopD [0,3,4,5,8,31,32,33] (tyJ w3 cb w.heap.size W ((kA bits h 0).length+1) h d (.slice (some ⟨w.heap.size,o5,.none⟩) (32 - W) (32 - W))) (32 - W) ⟨0,rfl,by omega,rfl,fun q h1 h2=>by omega,rfl⟩ ?_;rintro _ vs _ g ⟨j,rfl,hj,rfl,hz,rfl⟩;rename_i w3;have hcut:=cutD_zero hW hd32
   by_cases hjl:j<32 - W
   ·have d2:=dTo ((j:Int)<((32 - W:Nat):Int))
    have y2:=iBd (i:=j) (n:=32 - W);have c3:=iSu (i:=j);have ho:o5=W:=ho5 (by omega);subst ho;have rb:rdO prog 5 w3 w.heap.size (o5+j)=some (.int .u8 ((d.getD (o5+j) 0).toNat:Int)):=rd1 agg5 k3 (bl_at (by omega))
    by_cases hb0:d.getD (o5+j) 0=0
    ·have d3:((((d.getD (o5+j) 0).toNat:Nat):Int) != 0)=false:=by rw[hb0];rfl
     simp -implicitDefEqProofs only[go_sem,jF,y2,and_self,iTn,Nat.mul_one,rb,d3,c3];refine⟨32 - o5 - (j+1),by omega,j+1,rfl,by omega,rfl,fun q h1 h2=>?_,rfl⟩
     by_cases e:q=o5+j
     ·subst e;exact hb0
     ·exact hz q h1 (by omega)
    ·have d3:((((d.getD (o5+j) 0).toNat:Nat):Int) != 0)=true:=by
      rw[bne_iff_ne];intro h;apply hb0;apply BitVec.eq_of_toNat_eq;simpa using (by exact_mod_cast h:(d.getD (o5+j) 0).toNat=0)
     simp -implicitDefEqProofs only[go_sem,jF,y2,and_self,iTn,Nat.mul_one,rb,d3];rw[hck,if_pos fun e=>hb0 (hcut.1 e (o5+j) (by omega) (by omega))];exact⟨rfl,fw.trans (f3.mono fun _ _ h=>h.elim),bv1,hP3,hor⟩
   ·have d2:=dFo ((j:Int)<((32 - W:Nat):Int))
    have hcd:d=cutD wd d:=hcut.2 fun q h1 h2=>hz q h1 (by omega);rw[if_neg (fun e=>e hcd)]at hck;have f03:Fr (fun b=>b=cb) w0 w3:=fw.trans (f3.mono fun _ _ h=>h.elim);have hcb3:cb<w.heap.size:=hcl;have r5:=rd_d agg23 sz23 k3 hd32;have r5d:rdO prog 23 w3.drew w.heap.size 0=some (dg d):=r5;have fd3:No w3 w3.drew:=(Fr.refl _ _).drew;simp -implicitDefEqProofs only[go_sem,jF,d2];refine qJo (fun _=>false) (.one 1 (.one 2 (.two 0 (.row [3,4]) 3 (.row [0,4])))) rfl (by kernel_rfl) (by kernel_rfl) ?_;refine qXm (K:=fun ev w'=>tyK w0 cb wd k root a bits sums rv vv sv e bv h ((kA bits h 0).length+1) (d == emptD wd h) (ev 0) (ev 3) (ev 8) (ev 44) w') ?rest _ ?main
    case main =>
     have eq:=eqDig hd32 (qQp wd h);simp only[OT.row];simp -implicitDefEqProofs only[go_sem,jF,gLa,gLz,gLs,r5d];refine⟨?_,?_⟩
     ·refine qQn pl201 ((bareP w3.drew ((ht.fr f03 fun b hb h=>by have:=hP.tb;omega).no fd3) (hP3.fr0 fd3) hlt).mono ?_)
      rintro _ w4 ⟨rfl,f4,bv2,hP4,_,hor2⟩;refine⟨fun h=>(by cases h),?_⟩;simp -implicitDefEqProofs only[go_sem,jF,gLa,gLz,gLs,eq];refine⟨bv2,rfl,rfl,rfl,rfl,hP4,f03.trans ((fd3.mono fun _ _ h=>h.elim).trans f4),?_⟩
      rcases hor with h | h
      ·exact .inl h
      ·rcases hor2 with g | g
       ·exact .inl (h.symm.trans g.1)
       ·exact .inr (g.trans h)
     ·refine qQn pl201 ((bareP w3.drew ((ht.fr f03 fun b hb h=>by have:=hP.tb;omega).no fd3) (hP3.fr0 fd3) hlt).mono ?_)
      rintro _ w4 ⟨rfl,f4,bv2,hP4,_,hor2⟩;refine⟨fun h=>(by cases h),?_⟩;have k4:=f4.at (show w3.drew.heap[w.heap.size]?=_ from k3) (by omega);have r6:=rd_d agg23 sz23 k4 hd32;simp -implicitDefEqProofs only[go_sem,jF,gLa,gLz,gLs,r6,eq];refine⟨bv2,rfl,rfl,rfl,rfl,hP4,f03.trans ((fd3.mono fun _ _ h=>h.elim).trans f4),?_⟩
      rcases hor with h | h
      ·exact .inl h
      ·rcases hor2 with g | g
       ·exact .inl (h.symm.trans g.1)
       ·exact .inr (g.trans h)
    case rest =>
     rintro ev w5 ⟨bv2,e0,e3,e8,e44,hP5,f5,hor2⟩
     by_cases hde:d=emptD wd h
     ·have hb:(d == emptD wd h)=true:=by rw[beq_iff_eq];exact hde
      rw[hb]at e44;simp -implicitDefEqProofs only[go_sem,e44];rw[hck,if_pos hde];exact⟨rfl,f5,bv2,hP5,hor2⟩
     ·have hb:(d == emptD wd h)=false:=by rw[bFn];exact hde
      rw[hb]at e44;rw[if_neg hde]at hck;simp -implicitDefEqProofs only[go_sem,jF,e0,e3,e8,e44,c1];rw[← hsuc];exact⟨256 - (h+1),by omega,h+1,bv2,rfl,by omega,rfl,hP5,f5,by rw[hsuc];exact hck,hor2⟩
 ·have d1:=dFo ((h:Int)<256)
  obtain rfl:h=256:=by omega
  rw[List.drop_of_length_le (by unfold kO;rw[List.length_zip];omega)]at hck;simp -implicitDefEqProofs only[go_sem,jF,d1];rw[hck];exact⟨rfl,fw,bv1,hP1,hor⟩
end C
end
end Go.V
