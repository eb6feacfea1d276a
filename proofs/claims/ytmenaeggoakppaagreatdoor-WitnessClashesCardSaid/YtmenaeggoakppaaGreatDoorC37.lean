/- Helpers. -/
import Derived.Test.YtmenaeggoakppaaGreatDoorC36
import Derived.Test.YtmenaeggoakppaaGreatDoorC33
set_option linter.all false
set_option maxRecDepth 100000
set_option maxHeartbeats 8000000
open Bool renaming not_false→xY,not_true→rY
open Int renaming toNat_zero→vE
open List renaming replicate→zG,size_toArray→vI,drop_drop→vC,take_of_length_le→zF,replicate_zero→rU
open Nat renaming reduceEqDiff→jR,reduceBEq→jL,mul_one→jT,sub_self→z8
open Go.V.Wit renaming poss→rW,decP→rG,chunk→rH,ansP→y6
namespace Go.V
open Go.Proofs.Tryz Go.V.Tryz
open Go.Proofs Sha
abbrev pZ:Array Value:=(#[.bool false,.slice Option.none 0 0]:Array Value)++Array.replicate 32 (.int .u8 0)++#[.slice Option.none 0 0]
theorem prL_zero:pZ=(prL false (.slice Option.none 0 0) (zG 32 0) (.slice Option.none 0 0)).toArray:=by
 apply Array.toList_inj.1;simp[prL]
theorem prL_one {f:Bool}{vv:Value}{bits:Bs}{sv:Value}(hv:one vv=true)(hs:one sv=true):(prL f vv bits sv).all one=true:=by
 simp only[prL,List.all_cons,List.all_append,List.all_nil,hv,hs,Bool.and_true,Bool.true_and];rw[Bool.and_eq_true];exact⟨rfl,List.all_eq_true.2 fun x hx=>by obtain⟨y,_,rfl⟩:=List.mem_map.1 hx;rfl⟩
def DcQ (w0:World)(y:Option (Option Bs × Bs × List Bs))(r:Value)(w':World):Prop:=No w0 w'∧match y with
 | none=>r=.tuple #[.agg (prL false (.slice .none 0 0) (zG 32 0) (.slice .none 0 0)).toArray,.int .i64 120]
 | some (a,bits,sums)=>∃ vv sv,r=.tuple #[.agg (prL a.isSome vv bits sv).toArray,.int .i64 0]∧By w' vv (a.getD [])∧RdD w' sv sums∧one vv=true∧one sv=true∧(∀ b,qQb vv=some b→w0.heap.size≤b∧b<w'.heap.size)∧∀ b,qQb sv=some b→w0.heap.size≤b∧b<w'.heap.size
namespace C
def dcK (w0 wL:World)(rest:Bs)(cnt:Nat)(a:Option Bs)(vv:Value)(bits:Bs)(i:Nat)(x2 x4 x5 x37 x38:Value)(w:World):Prop :=
 ∃ sv,x2=pt w0.heap.size 0∧x4=pt (w0.heap.size+1) 0∧x5=pt (w0.heap.size+1+1) 0∧x37=.int .i64 (cnt:Nat)∧x38=.int .i64 (i:Nat)∧w.heap[w0.heap.size+1]?=some (.cells (prL a.isSome vv bits sv).toArray 122 (0,0))∧one sv=true ∧
  NwD wL w 23 sv (rH (i+1) rest)∧PRd w0 w (w0.heap.size+1+1) (rest.drop (32*(i+1))) false∧Fr (fun b=>b=w0.heap.size+1∨b=w0.heap.size+1+1) wL w
def dcI (w0 wL:World)(rest:Bs)(cnt:Nat)(a:Option Bs)(vv:Value)(bits:Bs)(n:Nat)(vs:List Value)(w:World):Prop :=
 ∃ (i:Nat) (sv:Value),vs=[pt w0.heap.size 0,pt (w0.heap.size+1) 0,pt (w0.heap.size+1+1) 0,.int .i64 (cnt:Nat),.int .i64 (i:Nat)]∧i≤cnt∧n=cnt - i∧w.heap[w0.heap.size+1]?=some (.cells (prL a.isSome vv bits sv).toArray 122 (0,0))∧one sv=true ∧
  NwD wL w 23 sv (rH i rest)∧PRd w0 w (w0.heap.size+1+1) (rest.drop (32*i)) false∧Fr (fun b=>b=w0.heap.size+1∨b=w0.heap.size+1+1) wL w
theorem decode (w0:World){rv:Value}{s:Bs}(hr:By w0 rv s)(hl:s.length≤2 ^ 50):Fn prog 66 #[rv] w0 (DcQ w0 (rG s)):=by
 refine go66 (by simp) ?_;obtain⟨xa,xc,rfl,hxc⟩:=hr.slice;have bl1:bldO prog 203 [(0,.slice xa s.length xc)]=some (.agg #[.slice xa s.length xc,.bool false]):=rfl;have bl0:bldO prog 122 []=some (.agg pZ):=by kernel_rfl
 obtain⟨W,hW,f1,k1,k2,k3,s1⟩:=qJd w0 pZ 122 pZ 122 #[.slice xa s.length xc,.bool false] 203;have zsz:pZ.size=35:=by simp[pZ]
 have pz:=prL_zero
 have fin:∀ (w:World) (p:List Value), w.heap[w0.heap.size]?=some (.cells pZ 122 (0, 0))→p.length=35→p.all one=true →
   wrO prog 122 w w0.heap.size 0 (.agg p.toArray)=some (put w w0.heap.size (.cells p.toArray 122 (0,0)))∧rdO prog 122 (put w w0.heap.size (.cells p.toArray 122 (0,0))) w0.heap.size 0=some (.agg p.toArray):=fun w p h hp ho =>
  ⟨qQw (by simp[hp,sz122]) h (by simp[hp]) (by simpa using ho),qXv agg122 (by simp[hp,sz122]) (qQf (o:=.cells p.toArray 122 (0,0)) h)⟩
 have finz:∀ w:World,w.heap[w0.heap.size]?=some (.cells pZ 122 (0,0))→wrO prog 122 w w0.heap.size 0 (.agg pZ)=some (put w w0.heap.size (.cells pZ 122 (0,0)))∧rdO prog 122 (put w w0.heap.size (.cells pZ 122 (0,0))) w0.heap.size 0=some (.agg pZ):=fun w h=>by
  have:=fin w (prL false (.slice .none 0 0) (zG 32 0) (.slice .none 0 0)) h (qZc (by simp)) (prL_one rfl rfl);rw[← pz]at this;exact this
 have lst:∀ (w:World) (c:Array Value),No w0 w→No w0 (put w w0.heap.size (.cells c 122 (0,0))):=fun w c h=>h.put (b:=w0.heap.size) _ fun h=>absurd h (Nat.lt_irrefl _)
 have hR:PRd w0 W (w0.heap.size+1+1) s false:=⟨_,k3,hr,by omega⟩
 have k2':=k2;rw[pz]at k2';simp -implicitDefEqProofs only[go_sem,jR,Tryz.f66,Value.cells,bl1,hW];refine qQa pl116 ((panswer w0 W f1 hR k2' (by omega) (by omega) hl).mono ?_);rintro r w2 ⟨f2,hm⟩;have f02:No w0 w2:=f1.trans' f2 fun b hb h=>by omega
 have k12:=f2.at k1 (by omega);unfold DcQ
 have hdec : rG s = match Wit.ansW s with
     | none => none
     | some p => if p.2.length < 32 then none else if p.2.length - 32 ≠ 32 * (rW (p.2.take 32) 256 0).length then none else some (p.1,p.2.take 32,rH (rW (p.2.take 32) 256 0).length (p.2.drop 32)) := by
  unfold rG Wit.ansW
  by_cases e1:s.length<1
  ·rw[if_pos e1,if_pos e1]
  rw[if_neg e1,if_neg e1]
  by_cases e2:1<(s.getD 0 0).toNat
  ·rw[if_pos e2,if_pos e2]
  rw[if_neg e2,if_neg e2]
  cases y6 (s.getD 0 0).toNat (s.drop 1) <;> rfl
 obtain⟨Y,hY⟩:∃ Y,Y=rG s:=⟨_,rfl⟩
 rw[← hY];rw[hdec]at hY
 cases ha:Wit.ansW s with
 | none =>
  rw[ha]at hm hY;obtain rfl:r=.bool false:=hm;obtain⟨q3,l3⟩:=finz w2 k12;simp -implicitDefEqProofs only[go_sem,jR,xY,bl0,q3,l3];rw[hY];refine⟨lst _ _ f02,?_⟩;rw[pz]
 | some p =>
  obtain⟨a,s2⟩:=p;have hal:=Wit.ansW_len ha;rw[ha]at hm hY;dsimp only at hY;obtain⟨rfl,hR2,vv,kp,hv,hvo,hvb⟩:=hm;have hs2:s2.length≤2 ^ 50:=Nat.le_trans (Wit.ansW_rest ha) hl
  have psl:∀ (w:World),qXf prog 22 (.pointer (some ⟨w0.heap.size+1,2,.none⟩)) .none .none .none=some (.slice (some ⟨w0.heap.size+1,2,.none⟩) 32 32):=fun w=>by
   simp only[qXf,arr22,optB,Option.bind_some,sz5,Option.map_some,Nat.zero_mul,Nat.sub_zero]
   rfl
  simp -implicitDefEqProofs only[go_sem,jR,jL,rY,psl w2];refine qQa pl117 ((ptake w0 w2.drew (hR2.fr (Fr.refl (fun _=>False) w2).drew id) 32).mono ?_);rintro v3 w3 ⟨f3,hm3⟩;have f23:Fr (fun b=>b=w0.heap.size+1∨b=w0.heap.size+1+1) w2 w3:=((Fr.refl _ w2).drew).trans (f3.mono fun _ _ h=>.inr h);have f03:No w0 w3:=f02.trans' f23 fun b hb h=>by omega
  have kp3:=f3.at (show w2.drew.heap[w0.heap.size+1]?=_ from kp) (by omega);have k13:=f3.at (show w2.drew.heap[w0.heap.size]?=_ from k12) (by omega);have sW:W.heap.size=w0.heap.size+3:=s1;have s12:=f2.size;have s23:=f23.size;have psz:∀ b:Bs,b.length=32→(prL a.isSome vv b (.slice .none 0 0)).toArray.size=35:=fun b hb=>by simp[qZc hb]
  have cnt:∀ (w:World) (bits:Bs),bits.length=32→w.heap[w0.heap.size+1]?=some (.cells (prL a.isSome vv bits (.slice .none 0 0)).toArray 122 (0,0))→rdO prog 22 w (w0.heap.size+1) 2=some (dg bits):=fun w bits hb h =>
   rd_mid (A:=[.bool a.isSome,vv]) (B:=bits.map u8) (C:=[.slice .none 0 0]) agg22 sz22 h (by simp[hb]) (by decide) rfl
  by_cases h32:s2.length<32
  ·rw[if_pos h32]at hm3 hY
   obtain⟨rfl,hR3⟩:=hm3
   have hrun:=qKn (P:=prog) (ts:=#[25,25]) (t:=25) rfl slc25 sz5 (w:=w3) (b:=w0.heap.size+1) (o:=2) (dn:=32) (dc:=32) kp3 (NwB.nil w3 w3).by (qXr _) (by rw[psz _ (by simp)];simp)
   have est:qXn (((([]:Bs).map u8)).take (min ([]:Bs).length 32*1)) 2 (prL a.isSome vv (zG 32 0) (.slice .none 0 0)).toArray=(prL a.isSome vv (zG 32 0) (.slice .none 0 0)).toArray:=rfl;rw[est]at hrun;have k4:=qQf (o:=.cells (prL a.isSome vv (zG 32 0) (.slice .none 0 0)).toArray 122 (0,0)) kp3;have f4:Fr (fun b=>b=w0.heap.size+1) w3 (put w3 (w0.heap.size+1) (.cells (prL a.isSome vv (zG 32 0) (.slice .none 0 0)).toArray 122 (0,0))):=(Fr.refl _ _).put (b:=w0.heap.size+1) _ fun _=>rfl;generalize put w3 (w0.heap.size+1) (.cells (prL a.isSome vv (zG 32 0) (.slice .none 0 0)).toArray 122 (0,0))=w4 at *;simp -implicitDefEqProofs only[go_sem,jR];refine qQh ⟨_,w4,hrun,?_⟩;have r4:=cnt w4 _ (by simp) k4;simp -implicitDefEqProofs only[go_sem,jR,r4];refine qQa pl118 ((ones w4 (bits:=zG 32 0) (by simp)).mono ?_);rintro _ w5 ⟨rfl,f5⟩;have hR5:=(hR3.fr f4 (by omega)).fr f5 id;obtain⟨rv5,kr5,_,_⟩:=hR5;have r5:rdO prog 4 w5 (w0.heap.size+1+1) 1=some (.bool true):=rd1 (P:=prog) (o:=1) agg4 kr5 rfl;have f05:No w0 w5:=(f03.trans' f4 fun b hb h=>by omega).trans f5;obtain⟨q6,l6⟩:=finz w5 (f5.at (f4.at k13 (by omega)) id);simp -implicitDefEqProofs only[go_sem,jR,gLa,gLz,gLs,r5,qJe,bl0,q6,l6];rw[hY];refine⟨lst _ _ f05,?_⟩;rw[pz]
  ·rw[if_neg h32]at hm3 hY
   obtain⟨hb3,_,hs3,hR3⟩:=hm3;obtain⟨b3,o3,rfl⟩:=hs3 (by omega)
   obtain⟨bits,hbits⟩:∃ bits,bits=s2.take 32:=⟨_,rfl⟩
   have hbl:bits.length=32:=by rw[hbits,lTk];omega
   rw[← hbits]at hb3 hY;have hb3':By w3 (.slice (some ⟨b3,o3,.none⟩) 32 32) bits:=hb3.fr0 f03;have hrun:=qKn (P:=prog) (ts:=#[25,25]) (t:=25) rfl slc25 sz5 (w:=w3) (b:=w0.heap.size+1) (o:=2) (dn:=32) (dc:=32) kp3 hb3' (qXr _) (by rw[psz _ (by simp),hbl];decide)
   have est:qXn ((bits.map u8).take (min bits.length 32*1)) 2 (prL a.isSome vv (zG 32 0) (.slice .none 0 0)).toArray=(prL a.isSome vv bits (.slice .none 0 0)).toArray:=by
    rw[hbl,zF (by simp[hbl])];apply Array.toList_inj.1;rw[qXq _ _ _ (by simp[prL,hbl])];simp[prL,hbl]
   rw[est]at hrun;have k4:=qQf (o:=.cells (prL a.isSome vv bits (.slice .none 0 0)).toArray 122 (0,0)) kp3;have f4:Fr (fun b=>b=w0.heap.size+1) w3 (put w3 (w0.heap.size+1) (.cells (prL a.isSome vv bits (.slice .none 0 0)).toArray 122 (0,0))):=(Fr.refl _ _).put (b:=w0.heap.size+1) _ fun _=>rfl;generalize put w3 (w0.heap.size+1) (.cells (prL a.isSome vv bits (.slice .none 0 0)).toArray 122 (0,0))=w4 at *;simp -implicitDefEqProofs only[go_sem,jR];refine qQh ⟨_,w4,hrun,?_⟩;have r4:=cnt w4 _ hbl k4;simp -implicitDefEqProofs only[go_sem,jR,r4];refine qQa pl118 ((ones w4 hbl).mono ?_);rintro _ w5 ⟨rfl,f5⟩;have hcl:=Wit.poss_le bits 256 0;have hR5:=(hR3.fr f4 (by omega)).fr f5 id;have k5:=f5.at k4 id;have k15:=f5.at (f4.at k13 (by omega)) id;have f05:No w0 w5:=(f03.trans' f4 fun b hb h=>by omega).trans f5;have f25:Fr (fun b=>b=w0.heap.size+1∨b=w0.heap.size+1+1) w2 w5:=(f23.trans (f4.mono fun _ _ h=>.inl h)).trans (f5.mono fun _ _ h=>h.elim);have hv5:By w5 vv (a.getD []):=hv.fr f25 fun b hb _ h=>by have:=(hvb b hb).1;omega
   have s25:=f25.size;obtain⟨rv5,kr5,hb5,_⟩:=id hR5;obtain⟨ra,rc,rfl,_⟩:=hb5.slice;have r5:rdO prog 4 w5 (w0.heap.size+1+1) 1=some (.bool false):=rd1 (P:=prog) (o:=1) agg4 kr5 rfl;have r6:rdO prog 25 w5 (w0.heap.size+1+1) 0=some (.slice ra (s2.drop 32).length rc):=rd1 (P:=prog) (o:=0) agg25 kr5 rfl;have c6:IntKind.i64.wrap (((rW bits 256 0).length:Int)*32)=(((rW bits 256 0).length*32:Nat):Int):=by rw[show (((rW bits 256 0).length:Int)*32)=(((rW bits 256 0).length*32:Nat):Int) by push_cast;rfl];exact i64n
   have hrl:(s2.drop 32).length=s2.length - 32:=lDr
   by_cases hne:s2.length - 32≠32*(rW bits 256 0).length
   ·rw[if_pos hne]at hY
    have d6:(((s2.drop 32).length:Int) != (((rW bits 256 0).length*32:Nat):Int))=true:=by rw[bne_iff_ne];omega
    obtain⟨q6,l6⟩:=finz w5 k15;simp -implicitDefEqProofs only[go_sem,jR,gLa,gLz,gLs,r5,r6,c6,d6,bSe,bl0,q6,l6];rw[hY];refine⟨lst _ _ f05,?_⟩;rw[pz]
   ·rw[if_neg hne]at hY
    have d6:(((s2.drop 32).length:Int) != (((rW bits 256 0).length*32:Nat):Int))=false:=by rw[bne_eq_false_iff_eq];omega
    generalize hcn:(rW bits 256 0).length=cn at *;simp -implicitDefEqProofs only[go_sem,jR,gLa,gLz,gLs,r5,r6,c6,d6,bSe];refine loopD [2,4,5,37,38] (dcI w0 w5 (s2.drop 32) cn a vv bits) cn ⟨0,.slice .none 0 0,rfl,by omega,rfl,k5,rfl,NwD.nil _ _ _,hR5,Fr.refl _ _⟩ ?_;rintro _ vs w g ⟨i,sv,rfl,hi,rfl,kw,hso,hN,hRw,fw⟩;have f0w:No w0 w:=f05.trans' fw fun b hb h=>by omega
    by_cases hlt:i<cn
    ·have d1:=dTo ((i:Int)<(cn:Int))
     have c1:=iSu (i:=i);have r7:rdO prog 94 w (w0.heap.size+1) 34=some sv:=rd_one (A:=.bool a.isSome::vv::bits.map u8) (C:=[]) agg94 kw (by simp[hbl]);have hrest:32*(i+1)≤(s2.drop 32).length:=by omega
     have hdl:((s2.drop 32).drop (32*i)).length ≥ 32:=by rw[lDr];omega
     have hch:=Wit.chunk_snoc i (s2.drop 32)
     obtain⟨d,hd⟩:∃ d,d=((s2.drop 32).drop (32*i)).take 32:=⟨_,rfl⟩
     have hd32:d.length=32:=by rw[hd,lTk];omega
     rw[← hd]at hch;have rowE:∀ sv:Value,(prL a.isSome vv bits sv).toArray=(.bool a.isSome::vv::bits.map u8++sv::[]).toArray:=fun sv=>by simp[prL]
     have hszw:=fw.size;have hsz5:w0.heap.size+1+1<w5.heap.size:=qQi kr5;have fd:No w w.drew:=(Fr.refl _ _).drew
     have tk:∀ v6 w6, TkQ w0 w.drew (w0.heap.size+1+1) ((s2.drop 32).drop (32*i)) false 32 v6 w6→∃ b o, v6=.slice (some ⟨b, o, .none⟩) 32 32∧rdO prog 23 w6 b o=some (dg d)∧rdO prog 94 w6 (w0.heap.size+1) 34=some sv ∧
       PRd w0 w6 (w0.heap.size+1+1) ((s2.drop 32).drop (32*(i+1))) false∧Fr (fun b=>b=w0.heap.size+1+1) w w6∧No w0 w6∧NwD w5 w6 23 sv (rH i (s2.drop 32))∧w6.heap[w0.heap.size+1]?=some (.cells (prL a.isSome vv bits sv).toArray 122 (0,0)):=fun v6 w6 h=>by
      obtain⟨g6,hm6⟩:=h;rw[if_neg (by omega)]at hm6;obtain⟨hb6,_,hs6,hR6⟩:=hm6;obtain⟨b,o,rfl⟩:=hs6 (by omega);have fw6:Fr (fun b=>b=w0.heap.size+1+1) w w6:=(Fr.refl _ w).drew.trans g6;have f06:No w0 w6:=f0w.trans' fw6 fun b hb h=>by omega
      rw[← hd]at hb6;have k6:=fw6.at kw (by omega);refine⟨b,o,rfl,(hb6.fr0 f06).dg agg23 sz23 hd32,rd_one (A:=.bool a.isSome::vv::bits.map u8) (C:=[]) agg94 (by rw[k6,rowE]) (by simp[hbl]),?_,fw6,f06,hN.fr fw6 fun b hb h=>by have:=(hN.lt hb).1;omega,k6⟩;rw[vC,show 32*i+32=32*(i+1) by omega]at hR6;exact hR6
     have push:∀ w6, NwD w5 w6 23 sv (rH i (s2.drop 32))→Fr (fun b=>b=w0.heap.size+1+1) w w6→PRd w0 w6 (w0.heap.size+1+1) ((s2.drop 32).drop (32*(i+1))) false→w6.heap[w0.heap.size+1]?=some (.cells (prL a.isSome vv bits sv).toArray 122 (0, 0)) →
       ∃ v7 w7 w8,(Builtin.append_ #[94,94] 0 #[sv,.slice (some ⟨w6.heap.size,0,.none⟩) 1 1]).run prog (w6.alloc (.cells (bl d) 23))=.ok v7 w7∧wrO prog 94 w7 (w0.heap.size+1) 34 v7=some w8 ∧
        dcK w0 w5 (s2.drop 32) cn a vv bits i (pt w0.heap.size 0) (pt (w0.heap.size+1) 0) (pt (w0.heap.size+1+1) 0) (.int .i64 (cn:Nat)) (.int .i64 (i:Nat)) w8:=fun w6 hN6 fw6 hR6 k6=>by
      have cl:(rH i (s2.drop 32)).length=i:=Wit.chunk_len _ _;have h56:Fr (fun b=>b=w0.heap.size+1∨b=w0.heap.size+1+1) w5 w6:=fw.trans (fw6.mono fun _ _ h=>.inr h);obtain⟨v7,w7,hr7,hown7,g7,m7⟩:=qKk (P:=prog) app94_94 hN6.2 (m:=1) (xs:=bl d) (by rw[qXa,hd32]) (qXr d) (by omega) (bd_one (by rw[cl];omega)) (by rw[cl];omega) h56.size
      have n7:NwD w5 w7 23 v7 (rH (i+1) (s2.drop 32)):=by
       rw[hch];refine⟨hN6.1.app (All32.one hd32),?_⟩;rw[lAp,qJt,flat_one];exact hown7
      have o7:one v7=true:=by obtain⟨a,c,rfl,_⟩:=n7.rd.slice;rfl
      have k7:=g7.at k6 fun h=>by have:=(hN6.lt h).1;omega
      rw[rowE]at k7;have q8:=wr_one (P:=prog) (A:=.bool a.isSome::vv::bits.map u8) (C:=[]) (v:=v7) sz94 k7 o7 (o:=34) (by simp[hbl]);have f8:Fr (fun b=>b=w0.heap.size+1) w7 (put w7 (w0.heap.size+1) (.cells (.bool a.isSome::vv::bits.map u8++v7::[]).toArray 122 (0,0))):=(Fr.refl _ _).put (b:=w0.heap.size+1) _ fun _=>rfl;refine⟨v7,w7,_,hr7,q8,v7,rfl,rfl,rfl,rfl,rfl,by rw[qQf k7,rowE],o7,n7.fr f8 fun b hb h=>by have:=(n7.lt hb).1;omega,(hR6.fr g7 fun h=>by have:=(hN6.lt h).1;omega).fr f8 (by omega),?_⟩;refine (h56.trans' g7 fun b hb h=>?_).trans (f8.mono fun _ _ h=>.inl h);have:=(hN6.lt h).1;omega
     simp -implicitDefEqProofs only[go_sem,jR,d1];refine qJa (fun j=>j == 6) (.one 0 (.one 2 (.two 1 (.row [3,4,5,6,7,8,9]) 3 (.row [1,4,5,6,7,8,9])))) rfl (by kernel_rfl) (by kernel_rfl) ?_;refine qXh (K:=fun ev w=>dcK w0 w5 (s2.drop 32) cn a vv bits i (ev 2) (ev 4) (ev 5) (ev 37) (ev 38) w) ?rest _ ?main
     case main =>
      have r7d:rdO prog 94 w.drew (w0.heap.size+1) 34=some sv:=r7;have le32:(32≤(32:Nat))=True:=by simp
      simp only[OT.row];simp -implicitDefEqProofs only[go_sem,jR,jL,gLa,gLz,gLs,r7d];refine⟨?_,?_⟩
      ·refine qQg pl117 ((ptake w0 w.drew (hRw.fr fd id) 32).mono ?_)
       intro v6 w6 h6;obtain⟨b,o,rfl,rd6,rs6,hR6,fw6,f06,hN6,k6⟩:=tk v6 w6 h6;refine⟨fun h=>(by cases h),?_⟩;simp -implicitDefEqProofs only[go_sem,jL,gLa,gLz,gLs,le32,rd6];refine qZe (v:=.slice (some ⟨w6.heap.size,0,.none⟩) 1 1) (w':=w6.alloc (.cells (bl d) 23)) (qXk (y:=List.map u8 (zG 32 0)) (by simp) (c:=bl (zG 32 0)) (by simp) (d:=d) hd32 _) (fun _=>Ext.alloc _ _) ?_;obtain⟨v7,w7,w8,hr7,q8,hK⟩:=push w6 hN6 fw6 hR6 k6;simp -implicitDefEqProofs only[go_sem,jR,gLa,gLz,gLs];refine qXt ⟨v7,w7,hr7,fun h=>(by cases h),?_⟩;simp -implicitDefEqProofs only[go_sem,jR,jL,gLa,gLz,gLs,q8];exact hK
      ·refine qQg pl117 ((ptake w0 w.drew (hRw.fr fd id) 32).mono ?_)
       intro v6 w6 h6;obtain⟨b,o,rfl,rd6,rs6,hR6,fw6,f06,hN6,k6⟩:=tk v6 w6 h6;refine⟨fun h=>(by cases h),?_⟩;simp -implicitDefEqProofs only[go_sem,jR,jL,gLa,gLz,gLs,le32,rd6,rs6];refine qZe (v:=.slice (some ⟨w6.heap.size,0,.none⟩) 1 1) (w':=w6.alloc (.cells (bl d) 23)) (qXk (y:=List.map u8 (zG 32 0)) (by simp) (c:=bl (zG 32 0)) (by simp) (d:=d) hd32 _) (fun _=>Ext.alloc _ _) ?_;obtain⟨v7,w7,w8,hr7,q8,hK⟩:=push w6 hN6 fw6 hR6 k6;simp -implicitDefEqProofs only[go_sem,jR,gLa,gLz,gLs];refine qXt ⟨v7,w7,hr7,fun h=>(by cases h),?_⟩;simp -implicitDefEqProofs only[go_sem,jR,jL,gLa,gLz,gLs,q8];exact hK
     case rest =>
      rintro ev w9 ⟨sv9,e2,e4,e5,e37,e38,k9,o9,n9,R9,f9⟩;simp -implicitDefEqProofs only[go_sem,jR,e2,e4,e5,e37,e38,c1];exact⟨cn - (i+1),by omega,i+1,sv9,rfl,by omega,rfl,k9,o9,n9,R9,f9⟩
    ·have d1:=dFo ((i:Int)<(cn:Int))
     obtain rfl:i=cn:=by omega
     have r7:rdO prog 122 w (w0.heap.size+1) 0=some (.agg (prL a.isSome vv bits sv).toArray):=qXv agg122 (by simp[qZc hbl,sz122]) kw;obtain⟨q7,l7⟩:=fin w (prL a.isSome vv bits sv) (fw.at k15 (by omega)) (qZc hbl) (prL_one hvo hso);simp -implicitDefEqProofs only[go_sem,jR,d1,r7,q7,l7];rw[hY];have f8:Fr (fun b=>b=w0.heap.size) w (put w w0.heap.size (.cells (prL a.isSome vv bits sv).toArray 122 (0,0))):=(Fr.refl _ _).put (b:=w0.heap.size) _ fun _=>rfl;have s5w:=fw.size;have s8:=f8.size;refine⟨lst _ _ f0w,vv,sv,rfl,(hv5.fr fw fun b hb _ h=>by have:=(hvb b hb).1;omega).fr f8 fun b hb _ h=>by have:=(hvb b hb).1;omega,(hN.fr f8 fun b hb h=>by have:=(hN.lt hb).1;have:=qQi k15;omega).rd,hvo,hso,fun b hb=>⟨by have:=(hvb b hb).1;omega,by have:=(hvb b hb).2;omega⟩,fun b hb=>⟨by have:=(hN.lt hb).1;have:=f05.size;omega,by have:=(hN.lt hb).2;omega⟩⟩
end C
section
namespace Wit
def decT (a:Option Bs)(s:Bs):Option (Option Bs × Bs × List Bs) :=
 if s.length<32 then none else if s.length - 32≠32*(poss (s.take 32) 256 0).length then none else some (a,s.take 32,chunk (poss (s.take 32) 256 0).length (s.drop 32))
theorem decP_decT (s:Bs):decP s=if s.length<1 then none else if 1<(s.getD 0 0).toNat then none else (ansP (s.getD 0 0).toNat (s.drop 1)).bind fun p=>decT p.1 p.2:=rfl
end Wit
namespace R
theorem pop_cnt (x:Byte):pop 8 x.toNat=cntN x.toNat:=by
 have:∀ n:Fin 256,pop 8 n.val=cntN n.val:=by decide +kernel
 exact this ⟨x.toNat,x.isLt⟩
theorem pops_poss {bits:Bs}(hb:bits.length=32):pops bits=(rW bits 256 0).length:=by
 have key:∀ n,n≤32→pops (bits.take n)=(rW bits (8*n) 0).length:=by
  intro n
  induction n with
  | zero=>intro _;rfl
  | succ n ih =>
   intro hn;rw[tSg (by omega),pops_snoc,ih (by omega),Wit.poss_byte,pop_cnt,qQl _ (by omega)]
 have:=key 32 (Nat.le_refl _)
 rwa [zF (by omega)]at this
section
variable {w:World} {b:Nat} {f:Bool} {vv sv:Value} {bits:Bs}
theorem prBit (h:w.heap[b]?=some (.cells (prL f vv bits sv).toArray 122 (0,0)))(hb:bits.length=32){i:Nat}(hi:i<32)(x:Byte):wrO prog 5 w b (2+i) (u8 x)=some (put w b (.cells (prL f vv (bits.set i x) sv).toArray 122 (0,0))):=by
 rw[wr1 (P:=prog) sz5 rfl h (by rw[vI,qZc hb];omega)];have:=prC_set (f:=f) (vv:=vv) (sv:=sv) (bits:=bits) i x;rw[if_pos (by omega)]at this;exact congrArg (fun c=>some (put w b (.cells c 122 (0,0)))) this
theorem prSum (h:w.heap[b]?=some (.cells (prL f vv bits sv).toArray 122 (0,0)))(hb:bits.length=32){sv':Value}(ho:one sv'=true):wrO prog 94 w b 34 sv'=some (put w b (.cells (prL f vv bits sv').toArray 122 (0,0))):=by
 rw[wr1 (P:=prog) sz94 ho h (by rw[vI,qZc hb];omega)];exact congrArg (fun c=>some (put w b (.cells c 122 (0,0)))) (prC_sums hb)
theorem prFlag (h:w.heap[b]?=some (.cells (prL f vv bits sv).toArray 122 (0,0)))(hb:bits.length=32){f':Bool}:wrO prog 4 w b 0 (.bool f')=some (put w b (.cells (prL f' vv bits sv).toArray 122 (0,0))):=by
 rw[wr1 (P:=prog) sz4 rfl h (by rw[vI,qZc hb];omega)];exact congrArg (fun c=>some (put w b (.cells c 122 (0,0)))) prC_flag
theorem prVal (h:w.heap[b]?=some (.cells (prL f vv bits sv).toArray 122 (0,0)))(hb:bits.length=32){vv':Value}(ho:one vv'=true):wrO prog 25 w b 1 vv'=some (put w b (.cells (prL f vv' bits sv).toArray 122 (0,0))):=by
 rw[wr1 (P:=prog) sz25 ho h (by rw[vI,qZc hb];omega)];exact congrArg (fun c=>some (put w b (.cells c 122 (0,0)))) prC_val
theorem prRdSum (h:w.heap[b]?=some (.cells (prL f vv bits sv).toArray 122 (0,0)))(hb:bits.length=32):rdO prog 94 w b 34=some sv :=
 rd_one (A:=.bool f::vv::bits.map u8) (C:=[]) (v:=sv) agg94 (fz:=(0,0)) (e:=122) (by rw[h];simp[prL]) (by simp[hb])
theorem prRdBits (h:w.heap[b]?=some (.cells (prL f vv bits sv).toArray 122 (0,0)))(hb:bits.length=32):rdO prog 22 w b 2=some (dg bits) :=
 rd_mid (A:=[.bool f,vv]) (B:=bits.map u8) (C:=[sv]) agg22 sz22 h (by simp[hb]) (by decide) rfl
theorem prRd (h:w.heap[b]?=some (.cells (prL f vv bits sv).toArray 122 (0,0)))(hb:bits.length=32):rdO prog 122 w b 0=some (.agg (prL f vv bits sv).toArray) :=
 qXv agg122 (by rw[vI,qZc hb];exact sz122) h
end
theorem take_set {l:Bs}{n i:Nat}(h:n≤l.length)(hi:i<n){x:Byte}(hx:x=l.getD i 0):(l.take i++zG (n - i) (0:Byte)).set i x=l.take (i+1)++zG (n - (i+1)) 0:=by
 have h1:(l.take i).length=i:=by rw[lTk];omega
 rw[List.set_append_right _ _ (by omega),h1,z8,show n - i=(n - (i+1))+1 by omega,List.replicate_succ,List.set_cons_zero,tSg (by omega),hx,qQl _ (by omega),List.append_assoc]
 rfl
theorem bl_set (d:Bs)(i:Nat)(x:Byte):(bl d).setIfInBounds i (.int .u8 (x.toNat:Int))=bl (d.set i x):=by
 apply Array.toList_inj.1;simp[bl,u8,List.map_set]
def dcA (w0:World)(rv:Value)(s:Bs)(x0 x2 x4 x5:Value)(w:World):Prop:=∃ (a:Option Bs) (vv:Value) (at':Nat),x0=rv∧x2=pt w0.heap.size 0∧x4=pt (w0.heap.size+1) 0∧x5=.int .i64 (at':Nat)∧at'≤s.length∧rG s=Wit.decT a (s.drop at') ∧
 w.heap[w0.heap.size]?=some (.cells pZ 122 (0,0))∧w.heap[w0.heap.size+1]?=some (.cells (prL a.isSome vv (zG 32 0) (.slice .none 0 0)).toArray 122 (0,0))∧one vv=true∧NwB w0 w vv (a.getD [])∧(∀ b,qQb vv=some b→w0.heap.size+2≤b)∧No w0 w
def dcB (w0 w1:World)(rv:Value)(s:Bs)(a:Option Bs)(vv:Value)(at':Nat)(n:Nat)(vs:List Value)(w:World):Prop :=
 ∃ (i:Nat) (bits:Bs),vs=[rv,pt w0.heap.size 0,pt (w0.heap.size+1) 0,.int .i64 (at':Nat),.int .i64 (i:Nat)]∧i≤32∧n=32 - i∧bits=(s.drop at').take i++zG (32 - i) 0∧w.heap[w0.heap.size+1]?=some (.cells (prL a.isSome vv bits (.slice .none 0 0)).toArray 122 (0,0))∧Fr (fun b=>b=w0.heap.size+1) w1 w
def dcC (w0 w1:World)(rv:Value)(s:Bs)(a:Option Bs)(vv:Value)(bits:Bs)(at':Nat)(n:Nat)(vs:List Value)(w:World):Prop :=
 ∃ (j:Nat) (sv:Value),vs=[rv,pt w0.heap.size 0,pt (w0.heap.size+1) 0,.int .i64 ((at'+32*j:Nat):Int)]∧at'+32*j≤s.length∧n=s.length - (at'+32*j)∧w.heap[w0.heap.size+1]?=some (.cells (prL a.isSome vv bits sv).toArray 122 (0,0))∧one sv=true∧NwD w1 w 23 sv (rH j (s.drop at'))∧Fr (fun b=>b=w0.heap.size+1) w1 w
def dcD (w0 w2:World)(rv:Value)(s:Bs)(db:Nat)(p:Nat)(n:Nat)(vs:List Value)(w:World):Prop :=
 ∃ (i:Nat) (d:Bs),vs=[rv,pt w0.heap.size 0,pt (w0.heap.size+1) 0,.int .i64 (p:Nat),pt db 0,.int .i64 (i:Nat)]∧i≤32∧n=32 - i∧d=(s.drop p).take i++zG (32 - i) 0∧w.heap[db]?=some (.cells (bl d) 23 (0,0))∧Fr (fun b=>b=db) w2 w
theorem decode12 (w0:World){rv:Value}{s:Bs}(hr:By w0 rv s)(hl:s.length≤2 ^ 40):Fn prog 82 #[rv] w0 (DcQ w0 (rG s)):=by
 refine go82 (by simp) ?_;unfold DenF;refine den_cut 3 ?_;obtain⟨xa,xc,rfl,hxc⟩:=hr.slice;have bl0:bldO prog 122 []=some (.agg pZ):=by kernel_rfl
 obtain⟨W,hW,f1,k1,k2,s1⟩:=qXe w0 pZ 122 pZ 122;have zsz:pZ.size=35:=by simp[pZ]
 have pz:=prL_zero;have k2':=k2;rw[pz]at k2'
 have fin:∀ (w:World) (p:List Value), w.heap[w0.heap.size]?=some (.cells pZ 122 (0, 0))→p.length=35→p.all one=true →
   wrO prog 122 w w0.heap.size 0 (.agg p.toArray)=some (put w w0.heap.size (.cells p.toArray 122 (0,0)))∧rdO prog 122 (put w w0.heap.size (.cells p.toArray 122 (0,0))) w0.heap.size 0=some (.agg p.toArray):=fun w p h hp ho =>
  ⟨qQw (by simp[hp,sz122]) h (by simp[hp]) (by simpa using ho),qXv agg122 (by simp[hp,sz122]) (qQf (o:=.cells p.toArray 122 (0,0)) h)⟩
 have finz:∀ w:World,w.heap[w0.heap.size]?=some (.cells pZ 122 (0,0))→wrO prog 122 w w0.heap.size 0 (.agg pZ)=some (put w w0.heap.size (.cells pZ 122 (0,0)))∧rdO prog 122 (put w w0.heap.size (.cells pZ 122 (0,0))) w0.heap.size 0=some (.agg pZ):=fun w h=>by
  have:=fin w (prL false (.slice .none 0 0) (zG 32 0) (.slice .none 0 0)) h (qZc (by simp)) (prL_one rfl rfl);rw[← pz]at this;exact this
 have lst:∀ (w:World) (c:Array Value),No w0 w→No w0 (put w w0.heap.size (.cells c 122 (0,0))):=fun w c h=>h.put (b:=w0.heap.size) _ fun h=>absurd h (Nat.lt_irrefl _)
 have bad:∀ w:World,No w0 w→rG s=none→DcQ w0 (rG s) (.tuple #[.agg pZ,.int .i64 120]) (put w w0.heap.size (.cells pZ 122 (0,0))):=fun w f h=>by
  unfold DcQ;rw[h,← pz];exact⟨lst _ _ f,rfl⟩
 simp -implicitDefEqProofs only[go_sem,Tryz.f82,Value.cells,hW];refine hold_go ?_;refine den_split (fun ev' w=>dcA w0 (.slice xa s.length xc) s (ev' 0) (ev' 2) (ev' 4) (ev' 5) w) ?_ ?_
 ·-- the answer
  have k1W:No w0 W:=f1
  rcases Nat.eq_zero_or_pos s.length with h0 | h0
  ·have hs:s=[]:=List.length_eq_zero_iff.1 h0
   have hd:rG s=none:=by rw[hs];rfl
   obtain⟨q3,l3⟩:=finz W k1;have hb:=bad W f1 hd;have d1:=dFo (((s.length:Nat):Int) ≥ 3);have d2:(((s.length:Nat):Int) == 0)=true:=by rw[h0];rfl
   simp -implicitDefEqProofs only[go_sem,jR,gLa,gLz,gLs,d1,d2,qJg,qJe,bl0,q3,l3];exact hb
  obtain⟨b,o,cap,he,_⟩:=hr.pos h0;cases he;have r0:=(hr.fr0 f1).get (P:=prog) agg5 (i:=0) h0;rw[Nat.add_zero]at r0;have y0:(0:Int)≤0∧(0:Int)<((s.length:Nat):Int):=by omega
  have d2:(((s.length:Nat):Int) == 0)=false:=by rw[bFn];omega
  have hxl:=(s.getD 0 0).isLt
  have hnot:¬ (3≤s.length∧(s.getD 0 0).toNat=1)→(s.getD 0 0).toNat≠0→rG s=none:=fun h h'=>by
   rw[Wit.decP_decT,if_neg (by omega)]
   by_cases h1:1<(s.getD 0 0).toNat
   ·rw[if_pos h1]
   ·rw[if_neg h1]
    have:y6 (s.getD 0 0).toNat (s.drop 1)=none:=by
     unfold y6;rw[if_neg h',if_pos (by rw[lDr];omega)]
    rw[this];rfl
  by_cases h3:3≤s.length∧(s.getD 0 0).toNat=1
  ·obtain⟨h3l,h31⟩:=h3
   have d1:=dTo (((s.length:Nat):Int) ≥ 3);have d3:(((s.getD 0 0).toNat:Int) == 1)=true:=by rw[h31];rfl
   have r1:=(hr.fr0 f1).get (P:=prog) agg5 (i:=1) (by omega);have r2:=(hr.fr0 f1).get (P:=prog) agg5 (i:=2) (by omega);have r1d:rdO prog 5 W.drew b (o+1)=_:=r1;have r2d:rdO prog 5 W.drew b (o+2)=_:=r2;have y1:(0:Int)≤1∧(1:Int)<((s.length:Nat):Int):=by omega
   have y2:(0:Int)≤2∧(2:Int)<((s.length:Nat):Int):=by omega
   have t1:(1:Int).toNat=1:=rfl;have t2:(2:Int).toNat=2:=rfl;have hb1:=(s.getD 1 0).isLt;have hb2:=(s.getD 2 0).isLt
   obtain⟨n,hn⟩:∃ n,n=(s.getD 1 0).toNat+256*(s.getD 2 0).toNat:=⟨_,rfl⟩
   have c1:IntKind.i64.wrap ((s.getD 1 0).toNat:Int)=((s.getD 1 0).toNat:Int):=i64n;have c2:IntKind.i64.wrap ((s.getD 2 0).toNat:Int)=((s.getD 2 0).toNat:Int):=i64n;have c3:IntKind.i64.wrap (256*((s.getD 2 0).toNat:Int))=((256*(s.getD 2 0).toNat:Nat):Int):=by rw[show 256*((s.getD 2 0).toNat:Int)=((256*(s.getD 2 0).toNat:Nat):Int) by omega];exact i64n
   have c4:IntKind.i64.wrap (((s.getD 1 0).toNat:Int)+((256*(s.getD 2 0).toNat:Nat):Int))=(n:Int):=by rw[hn];exact qXb
   have c5:IntKind.i64.wrap (3+(n:Int))=((3+n:Nat):Int):=qXb (a:=3);have g1:(s.drop 1).getD 0 0=s.getD 1 0:=by simp[gDq]
   have g2:(s.drop 1).getD 1 0=s.getD 2 0:=by simp[gDq]
   have hans:y6 (s.getD 0 0).toNat (s.drop 1)=if n > 128 then none else if s.length<3+n then none else some (some ((s.drop 3).take n),s.drop (3+n)):=by
    unfold y6;rw[h31,if_neg (by decide),if_neg (by rw[lDr];omega),g1,g2,← hn,vC,lDr,vC]
    by_cases hh:n > 128
    ·rw[if_pos hh,if_pos hh]
    ·rw[if_neg hh,if_neg hh]
     by_cases hh2:s.length<3+n
     ·rw[if_pos (by omega),if_pos hh2]
     ·rw[if_neg (by omega),if_neg hh2]
   have hdec:rG s=(if n > 128 then none else if s.length<3+n then none else some (some ((s.drop 3).take n),s.drop (3+n)):Option (Option Bs × Bs)).bind fun p=>Wit.decT p.1 p.2:=by
    rw[Wit.decP_decT,if_neg (by omega),if_neg (by omega),hans]
   by_cases hn1:n > 128
   ·rw[if_pos hn1]at hdec
    obtain⟨q3,l3⟩:=finz W.drew k1;have hbd:=bad W.drew f1.drew hdec;have d4:=dTo ((n:Int) > 128);simp -implicitDefEqProofs only[go_sem,jR,jL,gLa,gLz,gLs,d1,y0,y1,y2,t1,t2,and_self,vE,jT,r0,r1d,r2d,d3,c1,c2,c3,c4,d4,qJe,bSe,bl0,q3,l3];exact hbd
   have d4:=dFo ((n:Int) > 128)
   by_cases hn2:s.length<3+n
   ·rw[if_neg hn1,if_pos hn2]at hdec
    obtain⟨q3,l3⟩:=finz W.drew k1;have hbd:=bad W.drew f1.drew hdec;have d5:=dTo (((3+n:Nat):Int) > ((s.length:Nat):Int));simp -implicitDefEqProofs only[go_sem,jR,jL,gLa,gLz,gLs,d1,y0,y1,y2,t1,t2,and_self,vE,jT,r0,r1d,r2d,d3,c1,c2,c3,c4,c5,d4,d5,bSe,bl0,q3,l3];exact hbd
   rw[if_neg hn1,if_neg hn2]at hdec;have d5:=dFo (((3+n:Nat):Int) > ((s.length:Nat):Int));have k2d:W.drew.heap[w0.heap.size+1]?=_:=k2';have q4:=prFlag (f':=true) k2d (by simp);have f4:Fr (fun b=>b=w0.heap.size+1) W.drew (put W.drew (w0.heap.size+1) (.cells (prL true (.slice .none 0 0) (zG 32 0) (.slice .none 0 0)).toArray 122 (0,0))):=(Fr.refl _ _).put (b:=w0.heap.size+1) _ fun _=>rfl;have k4:=qQf (o:=.cells (prL true (.slice .none 0 0) (zG 32 0) (.slice .none 0 0)).toArray 122 (0,0)) k2d;have sl:qXf prog 25 (.slice (some ⟨b,o,.none⟩) s.length xc) (some (.int .i64 3)) (some (.int .i64 ((3+n:Nat):Int))) .none=some (cutV 1 (some ⟨b,o,.none⟩) xc 3 (3+n)):=slc_both (P:=prog) slc25 arr25 sz5 (l:=3) (m:=3+n) (by omega) (by omega) hxc;simp -implicitDefEqProofs only[go_sem,jR,jL,gLa,gLz,gLs,d1,y0,y1,y2,t1,t2,and_self,vE,jT,r0,r1d,r2d,d3,c1,c2,c3,c4,c5,d4,d5,bSe,q4];generalize put W.drew (w0.heap.size+1) (.cells (prL true (.slice .none 0 0) (zG 32 0) (.slice .none 0 0)).toArray 122 (0,0))=w4 at *;have f04:No w0 w4:=f1.drew.trans' f4 fun b hb h=>by omega
   have hsub:By w4 (cutV 1 (some ⟨b,o,.none⟩) xc 3 (3+n)) ((s.drop 3).take n):=by
    have:=By.cutV (hr.fr0 f04) (show 3≤3+n by omega) (show 3+n≤s.length by omega) rfl
    rwa [show 3+n - 3=n by omega]at this
   simp -implicitDefEqProofs only[go_sem,sl];refine qQa pl135 ((bytes12 w4 hsub (by rw[lTk];omega)).mono ?_);rintro vv w5 ⟨n5,f5⟩;have k5:=f5.at k4 id;have k15:=f5.at (f4.at (show W.drew.heap[w0.heap.size]?=_ from k1) (by omega)) id;have ov:=n5.by.one
   have q6:=prVal k5 (by simp) ov;simp -implicitDefEqProofs only[go_sem,jR,q6,c5];have f6:Fr (fun b=>b=w0.heap.size+1) w5 (put w5 (w0.heap.size+1) (.cells (prL true vv (zG 32 0) (.slice .none 0 0)).toArray 122 (0,0))):=(Fr.refl _ _).put (b:=w0.heap.size+1) _ fun _=>rfl;have s4:=f4.size;have s5:W.drew.heap.size=w0.heap.size+2:=s1;refine⟨some ((s.drop 3).take n),vv,3+n,rfl,rfl,rfl,rfl,by omega,hdec,f6.at k15 (by omega),qQf k5,ov,?_,fun b hb=>?_,(f04.trans f5).trans' f6 fun b hb h=>by omega⟩
   ·exact (n5.fr f6 fun b hb h=>by have:=(n5.lt hb).1;omega).back (by omega)
   ·have:=(n5.lt hb).1;omega
  ·have d3:3≤s.length→(((s.getD 0 0).toNat:Int) == 1)=false:=fun h=>by rw[bFn];omega
   by_cases hz:(s.getD 0 0).toNat=0
   ·have d6:(((s.getD 0 0).toNat:Int) == 0)=true:=by rw[hz];rfl
    have hdec:rG s=Wit.decT none (s.drop 1):=by
     rw[Wit.decP_decT,if_neg (by omega),if_neg (by omega)];unfold y6;rw[if_pos hz]
     rfl
    have hfin:dcA w0 (.slice (some ⟨b,o,.none⟩) s.length xc) s (.slice (some ⟨b,o,.none⟩) s.length xc) (pt w0.heap.size 0) (pt (w0.heap.size+1) 0) (.int .i64 1) W:=⟨none,.slice .none 0 0,1,rfl,rfl,rfl,rfl,by omega,hdec,k1,k2',rfl,NwB.nil _ _,fun b hb=>(by cases hb),f1⟩
    by_cases h3l:3≤s.length
    ·have d1:=dTo (((s.length:Nat):Int) ≥ 3)
     have d3:=d3 h3l;simp -implicitDefEqProofs only[go_sem,jR,gLa,gLz,gLs,d1,d2,d3,d6,bne,y0,and_self,vE,r0,bSe,rY];exact hfin
    ·have d1:=dFo (((s.length:Nat):Int) ≥ 3)
     simp -implicitDefEqProofs only[go_sem,jR,gLa,gLz,gLs,d1,d2,d6,bne,y0,and_self,vE,r0,qJg,bSe,rY];exact hfin
   ·have d6:(((s.getD 0 0).toNat:Int) == 0)=false:=by rw[bFn];omega
    obtain⟨q3,l3⟩:=finz W k1;have hbd:=bad W f1 (hnot h3 hz)
    by_cases h3l:3≤s.length
    ·have d1:=dTo (((s.length:Nat):Int) ≥ 3)
     have d3:=d3 h3l;simp -implicitDefEqProofs only[go_sem,jR,gLa,gLz,gLs,d1,d2,d3,d6,bne,y0,and_self,vE,r0,bSe,xY,bl0,q3,l3];exact hbd
    ·have d1:=dFo (((s.length:Nat):Int) ≥ 3)
     simp -implicitDefEqProofs only[go_sem,jR,gLa,gLz,gLs,d1,d2,d6,bne,y0,and_self,vE,r0,qJg,bSe,xY,bl0,q3,l3];exact hbd
 ·rintro ev w1 ⟨a,vv,at',e0,e2,e4,e5,hat,hdec,k1',k2'',hvo,hvn,hvb,fw⟩
  obtain⟨bits0,hbits0⟩:∃ bits,bits=zG 32 (0:Byte):=⟨_,rfl⟩
  have fhl:=Nat.le_trans hl (show 2 ^ 40≤2 ^ 40 by omega)
  by_cases h32:s.length<at'+32
  ·have hd:rG s=none:=by rw[hdec];unfold Wit.decT;rw[if_pos (by rw[lDr];omega)]
   obtain⟨q3,l3⟩:=finz w1 k1';have hbd:=bad w1 fw hd;have c1:IntKind.i64.wrap ((at':Int)+32)=((at'+32:Nat):Int):=qXb (b:=32);have d1:=dTo (((at'+32:Nat):Int) > ((s.length:Nat):Int));simp -implicitDefEqProofs only[go_sem,jR,gLa,gLz,e0,e2,e5,c1,d1,bl0,q3,l3];exact hbd
  have c1:IntKind.i64.wrap ((at':Int)+32)=((at'+32:Nat):Int):=qXb (b:=32);have d1:=dFo (((at'+32:Nat):Int) > ((s.length:Nat):Int));obtain⟨b,o,cap,he,_⟩:=hr.pos (by omega);cases he;simp -implicitDefEqProofs only[go_sem,jR,gLa,gLz,e0,e5,c1,d1];refine loopD [0,2,4,5,7] (dcB w0 w1 (.slice (some ⟨b,o,.none⟩) s.length xc) s a vv at') 32 ⟨0,_,by show [ev 0,ev 2,ev 4,ev 5,_]=_;rw[e0,e2,e4,e5];rfl,by omega,rfl,by simp,k2'',Fr.refl _ _⟩ ?_;rintro _ vs w2 g2 ⟨i,bits,rfl,hi,rfl,hbits,kp2,f2⟩;have f02:No w0 w2:=fw.trans' f2 fun b hb h=>by omega
  have hbl:bits.length=32:=by rw[hbits,lAp,lTk,lRe,lDr];omega
  by_cases hlt:i<32
  ·have d2:=dTo ((i:Int)<32)
   have c2:IntKind.i64.wrap ((at':Int)+(i:Int))=((at'+i:Nat):Int):=qXb;have c3:=iSu (i:=i);have y1:(0:Int)≤((at'+i:Nat):Int)∧((at'+i:Nat):Int)<((s.length:Nat):Int):=by omega
   have y2:=iBd (i:=i) (n:=32);have y3:=y2.2;have r1:=(hr.fr0 f02).get (P:=prog) agg5 (i:=at'+i) (by omega);have q2:=prBit kp2 hbl hlt (s.getD (at'+i) 0);have q2:wrO prog 5 w2 (w0.heap.size+1) (2+i) (.int .u8 ((s.getD (at'+i) 0).toNat:Int))=_:=q2;simp -implicitDefEqProofs only[go_sem,jR,d2,c2,c3,y1,y2,and_self,if_true,iTn,jT,r1,q2];exact⟨32 - (i+1),by omega,i+1,_,rfl,by omega,rfl,by rw[hbits];exact take_set (by rw[lDr];omega) hlt (by simp[gDq]),qQf kp2,f2.put (b:=w0.heap.size+1) _ fun _=>rfl⟩
  obtain rfl:i=32:=by omega
  rw[z8,rU,List.append_nil]at hbits;have d2:decide (((32:Nat):Int)<32)=false:=rfl;have hdl:(s.drop at').length=s.length - at':=lDr;have hk2:No w0 w2:=f02;simp -implicitDefEqProofs only[go_sem,jR,d2,c1];refine loopD [0,2,4,5] (dcC w0 w2 (.slice (some ⟨b,o,.none⟩) s.length xc) s a vv bits (at'+32)) (s.length - (at'+32)) ⟨0,_,rfl,by omega,rfl,kp2,rfl,NwD.nil _ _ _,Fr.refl _ _⟩ ?_;rintro _ vs w3 g3 ⟨j,sv,rfl,hj,rfl,kp3,osv,nsv,f3⟩;have f03:No w0 w3:=f02.trans' f3 fun b hb h=>by omega
  have hjl:(rH j (s.drop (at'+32))).length=j:=Wit.chunk_len _ _
  obtain⟨p,hp⟩:∃ p,p=at'+32+32*j:=⟨_,rfl⟩
  have hc1:IntKind.i64.wrap ((p:Int)+32)=((p+32:Nat):Int):=qXb (b:=32);rw[← hp]at hj ⊢
  by_cases hlt:p+32≤s.length
  ·have d3:=dTo (((p+32:Nat):Int)≤((s.length:Nat):Int))
   obtain⟨w4,h4,f4,k4,s4⟩:=qQm w3 (bl (zG 32 0)) 23;simp -implicitDefEqProofs only[go_sem,jR,gLa,gLz,hc1,d3,Value.cells,qQj,h4];refine loopD [0,2,4,5,8,9] (dcD w0 w4 (.slice (some ⟨b,o,.none⟩) s.length xc) s w3.heap.size p) 32 ⟨0,_,rfl,by omega,rfl,by simp,k4,Fr.refl _ _⟩ ?_;rintro _ vs w5 g5 ⟨i,d,rfl,hi,rfl,hd,kd,f5⟩;have f45:No w3 w5:=f4.trans' f5 fun b hb h=>by omega
   have f05:=f03.trans f45;have hdl:d.length=32:=by rw[hd,lAp,lTk,lRe,lDr];omega
   by_cases hi2:i<32
   ·have d2:=dTo ((i:Int)<32)
    have c2:IntKind.i64.wrap ((p:Int)+(i:Int))=((p+i:Nat):Int):=qXb;have c3:=iSu (i:=i);have y1:(0:Int)≤((p+i:Nat):Int)∧((p+i:Nat):Int)<((s.length:Nat):Int):=by omega
    have y2:=iBd (i:=i) (n:=32);have y3:=y2.2;have r1:=(hr.fr0 f05).get (P:=prog) agg5 (i:=p+i) (by omega)
    have q2:wrO prog 5 w5 w3.heap.size i (.int .u8 ((s.getD (p+i) 0).toNat:Int))=some (put w5 w3.heap.size (.cells (bl (d.set i (s.getD (p+i) 0))) 23 (0,0))):=by
     rw[wr1 (P:=prog) sz5 rfl kd (by rw[qXa,hdl];exact hi2)]
     congr 3
     exact bl_set d i _
    simp -implicitDefEqProofs only[go_sem,jR,d2,c2,c3,y1,y2,and_self,if_true,iTn,jT,Nat.zero_add,r1,q2];exact⟨32 - (i+1),by omega,i+1,_,rfl,by omega,rfl,by rw[hd];exact take_set (by rw[lDr];omega) hi2 (by simp[gDq]),qQf kd,f5.put (b:=w3.heap.size) _ fun _=>rfl⟩
   obtain rfl:i=32:=by omega
   rw[z8,rU,List.append_nil]at hd;have d2:decide (((32:Nat):Int)<32)=false:=rfl;have kp5:=f45.at kp3 id;have rs:=prRdSum kp5 hbl;have rdd:=rd_d agg23 sz23 kd hdl;simp -implicitDefEqProofs only[go_sem,jR,d2,rs,rdd];refine qQo (v:=.slice (some ⟨w5.heap.size,0,.none⟩) 1 1) (w':=w5.alloc (.cells (bl d) 23)) (qXk (y:=List.map u8 (zG 32 0)) (by simp) (c:=bl (zG 32 0)) (by simp) (d:=d) hdl _) ?_;have z3:=f3.size;have z45:=f45.size;obtain⟨v6,w6,hr6,n6,g6,m6⟩:=(nsv.fr0 f45).pushX app94_94 hdl (by rw[hjl];omega) (by omega);simp -implicitDefEqProofs only[go_sem,jR];refine qQh ⟨v6,w6,hr6,?_⟩
   have hsv:∀ b,qQb sv=some b→b≠w0.heap.size+1:=fun b hb h=>by
    have:=(nsv.lt hb).1;have:=qQi kp2;omega
   have kp6:=g6.at kp5 fun h=>hsv _ h rfl;have o6:one v6=true:=by obtain⟨x,c,e,_⟩:=n6.rd.slice;rw[e];rfl
   have q7:=prSum kp6 hbl o6;have hc2:IntKind.i64.wrap ((p:Int)+32)=((p+32:Nat):Int):=hc1
   have hsn:rH (j+1) (s.drop (at'+32))=rH j (s.drop (at'+32))++[d]:=by
    rw[Wit.chunk_snoc,hd,vC,hp]
   rw[← hsn]at n6;simp -implicitDefEqProofs only[go_sem,jR,q7,hc2];have f6:Fr (fun b=>b=w0.heap.size+1) w6 (put w6 (w0.heap.size+1) (.cells (prL a.isSome vv bits v6).toArray 122 (0,0))):=(Fr.refl _ _).put (b:=w0.heap.size+1) _ fun _=>rfl;refine⟨s.length - (p+32),by omega,j+1,v6,?_,by omega,by omega,qQf kp6,o6,n6.fr f6 (fun b hb h=>?_),?_⟩
   ·rw[show at'+32+32*(j+1)=p+32 by omega]
   ·rcases m6 b hb with h' | h'
    ·exact hsv b h' h
    ·have:=qQi kp5;omega
   ·refine ((f3.trans (f45.mono fun _ _ h=>h.elim)).trans' g6 fun b hb h=>?_).trans f6
    have:=(nsv.lt h).1;omega
  have d3:=dFo (((p+32:Nat):Int)≤((s.length:Nat):Int));simp -implicitDefEqProofs only[go_sem,jR,gLa,gLz,hc1,d3];have kb3:=prRdBits kp3 hbl;have ks3:=prRdSum kp3 hbl;have kb3d:rdO prog 22 w3.drew (w0.heap.size+1) 2=_:=kb3;have ks3d:rdO prog 94 w3.drew (w0.heap.size+1) 34=_:=ks3
  have hT:rG s=if s.length - at' - 32≠32*(rW bits 256 0).length then none else some (a,bits,rH (rW bits 256 0).length (s.drop (at'+32))):=by
   rw[hdec];unfold Wit.decT;rw[if_neg (by omega),hdl,← hbits,vC]
  have k13:=f3.at (f2.at k1' (by omega)) (by omega);have z3:=f3.size;have z2:=f2.size;obtain⟨q3,l3⟩:=finz w3.drew k13;refine qXd (fun j=>j == 10) [0,1,2,3,4,5,6,7,8,9,10,11,12] rfl (by kernel_rfl) (by kernel_rfl) ?_
  by_cases hps:p=s.length
  ·have d4:(((p:Nat):Int) == ((s.length:Nat):Int))=true:=by rw[hps];exact bSe _
   obtain⟨na,nc,hne⟩:∃ na nc,sv=.slice na j nc:=by
    obtain⟨x,c,e,_⟩:=nsv.rd.slice;rw[hjl]at e;exact⟨x,c,e⟩
   subst hne;simp -implicitDefEqProofs only[go_sem,jR,jL,gLa,gLz,gLs,d4,bne,rY,kb3d,ks3d,bSe];refine qQp pl127 ((R.ones w3.drew hbl).mono ?_);rintro _ w4 ⟨rfl,f4⟩;refine⟨fun _=>Fr.ext f4,?_⟩;rw[pops_poss hbl];have f34:No w3 w4:=(Fr.refl _ _).drew.trans f4;have k14:=f34.at k13 id;have f04:=f03.trans f34
   by_cases hcn:j=(rW bits 256 0).length
   ·have d5:(((j:Nat):Int) == (((rW bits 256 0).length:Nat):Int))=true:=by rw[hcn];exact bSe _
    rw[if_neg (by omega),← hcn]at hT;have k4:=f34.at kp3 id;have r4:=prRd k4 hbl;obtain⟨q5,l5⟩:=fin w4 (prL a.isSome vv bits (.slice na j nc)) k14 (qZc hbl) (prL_one hvo rfl);simp -implicitDefEqProofs only[go_sem,jR,jL,gLa,gLz,gLs,d5,bne,rY,bSe,r4,q5,l5];rw[hT];have f5:No w0 (put w4 w0.heap.size (.cells (prL a.isSome vv bits (.slice na j nc)).toArray 122 (0,0))):=lst _ _ f04;have g5:Fr (fun b=>b=w0.heap.size) w4 (put w4 w0.heap.size (.cells (prL a.isSome vv bits (.slice na j nc)).toArray 122 (0,0))):=(Fr.refl _ _).put (b:=w0.heap.size) _ fun _=>rfl;have f14:Fr (fun b=>b=w0.heap.size+1) w1 w4:=f2.trans (f3.trans (f34.mono fun _ _ h=>h.elim));have nv5:=(hvn.fr f14 (fun b hb h=>by have:=hvb b hb;omega)).fr g5 fun b hb h=>by have:=hvb b hb;omega
    have ns5:=((nsv.fr0 f34)).fr g5 fun b hb h=>by have:=(nsv.lt hb).1;have:=qQi kp2;omega
    refine⟨f5,vv,.slice na j nc,rfl,nv5.by,ns5.rd,hvo,rfl,fun b hb=>?_,fun b hb=>?_⟩
    ·exact nv5.lt hb
    ·have:=ns5.lt hb;have:=f02.size;omega
   ·have d5:(((j:Nat):Int) == (((rW bits 256 0).length:Nat):Int))=false:=by rw[bFn];omega
    rw[if_pos (by omega)]at hT;obtain⟨q5,l5⟩:=finz w4 k14;have hbd:=bad w4 f04 hT;simp -implicitDefEqProofs only[go_sem,jR,jL,gLa,gLz,gLs,d5,bne,xY,bSe,bl0,q5,l5];exact hbd
  ·have d4:(((p:Nat):Int) == ((s.length:Nat):Int))=false:=by rw[bFn];omega
   rw[if_pos (by omega)]at hT;have hbd:=bad w3.drew f03.drew hT;simp -implicitDefEqProofs only[go_sem,jR,jL,gLa,gLz,gLs,d4,bne,xY,qJe,bl0,q3,l3];exact hbd
end R
end
end Go.V
