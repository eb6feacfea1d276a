/- Helpers. -/
import Derived.Test.YtmenaeggoakppaaGreatDoorG20
import Derived.Test.YtmenaeggoakppaaGreatDoorG11
import Derived.Test.YtmenaeggoakppaaGreatDoorG13
set_option linter.all false
set_option maxRecDepth 100000
set_option maxHeartbeats 8000000
open BitVec renaming ofInt_natCast→xJ,toNat_ofNat→zV,ofInt→qQ
open List renaming getElem_append_right→yD,getElem_append_left→yM
open Nat renaming reduceEqDiff→jF,le_refl→xP,lt_irrefl→jD,mod_eq_of_lt→yK,reduceBEq→jB
open Option renaming map_some→qK,isNone→yN
open Go.V.Wit renaming gvP→yP,nearP→yR,lefts→yT,frm→yL,mbit→yC,ansP→yS
namespace Go.V
open Go.Proofs.Tryz Go.V.Tryz
open Go.Proofs Sha
variable {bs:Bs} {wd:Int} {gs:List (Nat × Bs)} {ps:List (Nat × Nat × Nat)} {ds:List Bs} {p:List Bs × List (Nat × Bs) × Bs} {rb tb:Nat} {F:Nat→Prop} {bv gv nv v:Value} {u w w':World}
def spI (w0:World)(v:Value)(ks:List Bs)(n:Nat)(vs:List Value)(w:World):Prop :=
 ∃ (i:Nat),vs=[v,.int .i64 0,.int .i64 (i:Nat),.int .i64 ((256 - yL ks:Nat):Int)]∧i≤yT ks∧n=yT ks - i∧No w0 w
theorem split (w0:World){ks:List Bs}(hk:RdD w0 v ks)(ha:Wit.Asc ks)(h0:0<ks.length)(hl:ks.length≤2 ^ 40) :
  Fn prog 119 #[v] w0 fun r w'=>r=.tuple #[.int .i64 (yL ks:Nat),.int .i64 ((if ks.length<2 then 0 else yT ks:Nat):Int)]∧No w0 w':=by
 refine go119 (by simp) ?_;obtain⟨b,o,cap,rfl,hcap,hb⟩:=hk.pos h0
 by_cases h1:ks.length=1
 ·have d1:(((ks.length:Nat):Int) == 1)=true:=by rw[h1];rfl
  rw[Wit.frm_one (by omega),if_pos (by omega)];simp -implicitDefEqProofs only[go_sem,jF,Tryz.f119,d1];exact⟨rfl,Fr.refl _ _⟩
 ·have h2:2≤ks.length:=by omega
  have d1:(((ks.length:Nat):Int) == 1)=false:=by rw[bFn];omega
  have r0:=hk.get agg34 sz34 h0;have r1:=hk.get agg34 sz34 (show ks.length - 1<ks.length by omega);rw[Nat.zero_mul,Nat.add_zero]at r0;have k0:=hk.1.getD h0;have k1:=hk.1.getD (show ks.length - 1<ks.length by omega);have hc:=Wit.frm_sub ha h2;rw[qKg,last_getD]at hc;rw[if_neg (by omega)];have c1:IntKind.i64.wrap (((ks.length:Nat):Int) - 1)=((ks.length - 1:Nat):Int):=qXl (b:=1) (by omega) (by omega);have y0:(0:Int)≤0∧(0:Int)<((ks.length:Nat):Int):=by omega
  have y1:(0:Int)≤((ks.length - 1:Nat):Int)∧((ks.length - 1:Nat):Int)<((ks.length:Nat):Int):=by omega
  have hcm:∀ w,Fn prog 160 #[dg (ks.getD 0 []),dg (ks.getD (ks.length - 1) [])] w fun v w'=>v=.int .i64 ((256 - yL ks:Nat):Int)∧No w w':=fun w=>by rw[hc];exact commonP w k0 k1
  generalize ks.getD 0 []=A at *;generalize ks.getD (ks.length - 1) []=B at *;simp -implicitDefEqProofs only[go_sem,jF,Tryz.f119,d1,c1,y0,y1,and_self,iTn,r0,r1,Int.toNat_zero,Nat.zero_mul];refine qQa pl160 ((hcm _).mono ?_);rintro _ w1 ⟨rfl,f1⟩;simp -implicitDefEqProofs only[go_sem];have f1:No w0 w1:=(Fr.refl _ _).drew.trans f1;refine loopD [0,2,3,4] (spI w0 (.slice (some ⟨b,o,none⟩) ks.length cap) ks) (yT ks) ⟨0,rfl,by omega,rfl,f1⟩ ?_;rintro _ vs w2 g ⟨i,rfl,hi,rfl,f2⟩;have hlt:=Wit.lefts_lt ha h2;have hp:=Wit.frm_pos ha h2;have hi2:i<ks.length:=by omega
  have r2:=(hk.fr0 f2).get agg34 sz34 hi2;have y2:=iBd (i:=i) (n:=ks.length);have k2:=hk.1.getD hi2;have hbit:kbit (ks.getD i []) (256 - yL ks)=decide (yT ks≤i):=by rw[qQi _ hi2];exact Wit.lefts_at ha h2 hi2
  simp -implicitDefEqProofs only[go_sem,jF,y2,and_self,iTn,r2];refine qQa pl92 ((bbit w2 k2 (show 256 - yL ks<256 by omega)).mono ?_);rintro _ w3 ⟨rfl,f3⟩;unfold kb;rw[hbit]
  have c2:IntKind.i64.wrap (256 - ((256 - yL ks:Nat):Int))=((yL ks:Nat):Int):=by
   have:=qXl (a:=256) (b:=256 - yL ks) (by omega) (by omega);rw[show 256 - (256 - yL ks)=yL ks by have:=Wit.frm_le ha h2;omega]at this;exact this
  by_cases h3:yT ks≤i
  ·have e:i=yT ks:=by omega
   subst e;rw[decide_eq_true h3];simp -implicitDefEqProofs only[go_sem,jF,if_true,c2];exact f2.trans f3
  ·rw[decide_eq_false h3]
   have c1:=iSu (i:=i);simp -implicitDefEqProofs only[go_sem,jF,Bool.false_eq_true,if_false,c1];exact⟨yT ks - (i+1),by omega,i+1,rfl,by omega,rfl,f2.trans f3⟩
def Rdr (u w:World)(rb:Nat)(raw:Bs)(bv gv:Value):Prop:=u.heap.size≤rb∧No u w∧∃ v,w.heap[rb]?=some (.cells #[v,bv,gv] 191 (0,0))∧By u v raw
theorem rtake (u w0:World){raw:Bs}(h:Rdr u w0 rb raw bv gv)(k:Nat) :
  Fn prog 171 #[pt rb 0,.int .i64 (k:Nat)] w0 fun r w'=>Fr (fun b=>b=rb) w0 w' ∧
   if raw.length<k then r=.tuple #[.slice none 0 0,.bool false]∧Rdr u w' rb raw bv gv
   else ∃ v,r=.tuple #[v,.bool true]∧By u v (raw.take k)∧Rdr u w' rb (raw.drop k) bv gv:=by
 refine go171 (by simp) ?_;obtain⟨h0,f0,v,h1,h2⟩:=h;obtain⟨a,cap,rfl,hcap⟩:=h2.slice;have r:=qQo (P:=prog) h1
 by_cases hlt:raw.length<k
 ·have d1:=dTo (((raw.length:Nat):Int)<(k:Int))
  simp -implicitDefEqProofs only[go_sem,jF,Tryz.f171,r,qQk,gLa,gLz,d1];rw[if_pos hlt];exact⟨Fr.refl _ _,h0,f0,_,h1,h2⟩
 ·have d1:=dFo (((raw.length:Nat):Int)<(k:Int))
  have s1:=slc_hi (P:=prog) slc25 arr25 sz5 (a:=a) (show k≤raw.length by omega) hcap;have s2:=slc_lo (P:=prog) slc25 arr25 sz5 (a:=a) (show k≤raw.length by omega) hcap
  have q:wrO prog 25 w0 rb 0 (cutV 1 a cap k raw.length)=some (put w0 rb (.cells #[cutV 1 a cap k raw.length,bv,gv] 191 (0,0))):=by
   rw[qZl h1,qKl sz25 rfl (by simp)];rfl
  simp -implicitDefEqProofs only[go_sem,jF,Tryz.f171,r,qQk,gLa,gLz,d1,s1,s2,q];rw[if_neg hlt];have b1:=By.cutV h2 (Nat.zero_le k) (by omega) rfl;have b2:=By.cutV h2 (show k≤raw.length by omega) (xP _) rfl;rw[List.drop_zero,Nat.sub_zero]at b1;rw[List.take_of_length_le (by rw[lDr];omega)]at b2;exact⟨(Fr.refl _ _).put (b:=rb) _ fun _=>rfl,_,rfl,b1,h0,f0.put (b:=rb) _ fun h=>by omega,_,qQf h1,b2⟩
theorem By.none {w:World}{n cap:Nat}{bs:Bs}(h:By w (.slice none n cap) bs):bs=[]:=by
 rcases Nat.eq_zero_or_pos bs.length with h0 | h0
 ·exact List.length_eq_zero_iff.1 h0
 ·obtain⟨b,o,c,e,_⟩:=h.pos h0;cases e
theorem RdD.none {w:World}{n cap:Nat}{ds:List Bs}(h:RdD w (.slice none n cap) ds):ds=[]:=by
 rcases Nat.eq_zero_or_pos ds.length with h0 | h0
 ·exact List.length_eq_zero_iff.1 h0
 ·obtain⟨b,o,c,e,_⟩:=h.pos h0;cases e
theorem NwB.mk0 (w0 w:World)(h:w0.heap.size≤w.heap.size):NwB w0 (w.alloc (.cells #[] 5)) (.slice (some ⟨w.heap.size,0,none⟩) 0 0) []:=mk_nw w0 w 5 1 0 0 #[] h rfl (xP _)
theorem NwD.mk0 (w0 w:World)(e:Nat)(h:w0.heap.size≤w.heap.size):NwD w0 (w.alloc (.cells #[] e)) e (.slice (some ⟨w.heap.size,0,none⟩) 0 0) []:=⟨All32.nil,mk_nw w0 w e 32 0 0 #[] h rfl (xP _)⟩
theorem bclone (w0:World)(h:By w0 v bs)(hl:bs.length≤2 ^ 46):Fn prog 115 #[v] w0 fun r w'=>NwB w0 w' r bs∧No w0 w':=by
 refine go115 (by simp) ?_;obtain⟨a,cap,rfl,hcap⟩:=h.slice;simp -implicitDefEqProofs only[go_sem,jF,Tryz.f115]
 cases a with
 | none =>
  have:=h.none;subst this;simp -implicitDefEqProofs only[go_sem,yN,qK];exact⟨NwB.nil _ _,Fr.refl _ _⟩
 | some ad =>
  simp -implicitDefEqProofs only[go_sem,qK];refine qQl (v:=.slice (some ⟨w0.heap.size,0,none⟩) 0 0) (w':=w0.alloc (.cells #[] 5)) rfl ?_;have f1:No w0 (w0.alloc (.cells #[] 5)):=(Fr.refl _ _).alloc _;obtain⟨v',w',hr,h1,h2,_⟩:=NwB.cat app25_25 (NwB.mk0 w0 w0 (xP _)) (h.fr0 f1) (qJy (by simp;omega)) (by simp;omega) f1;simp -implicitDefEqProofs only[go_sem,jF];refine qQg ⟨v',w',hr,?_⟩;simp -implicitDefEqProofs only[go_sem];exact⟨h1,h2⟩
theorem dclone (w0:World)(h:RdD w0 v ds)(hl:ds.length≤2 ^ 40):Fn prog 120 #[v] w0 fun r w'=>NwD w0 w' 23 r ds∧No w0 w':=by
 refine go120 (by simp) ?_;obtain⟨a,cap,rfl,hcap⟩:=h.slice;simp -implicitDefEqProofs only[go_sem,jF,Tryz.f120]
 cases a with
 | none =>
  have:=h.none;subst this;simp -implicitDefEqProofs only[go_sem,yN,qK];exact⟨NwD.nil _ _ _,Fr.refl _ _⟩
 | some ad =>
  simp -implicitDefEqProofs only[go_sem,qK];refine qQl (v:=.slice (some ⟨w0.heap.size,0,none⟩) 0 0) (w':=w0.alloc (.cells #[] 23)) rfl ?_;have f1:No w0 (w0.alloc (.cells #[] 23)):=(Fr.refl _ _).alloc _;obtain⟨v',w',hr,h1,h2,_⟩:=NwD.cat app94_94 (NwD.mk0 w0 w0 23 (xP _)) (h.fr0 f1) (qJy (by simp;omega)) (by simp;omega) f1;simp -implicitDefEqProofs only[go_sem,jF];refine qQg ⟨v',w',hr,?_⟩;simp -implicitDefEqProofs only[go_sem];exact⟨h1,h2⟩
theorem kclone (w0:World)(h:RdD w0 v ds)(hl:ds.length≤2 ^ 40):Fn prog 89 #[v] w0 fun r w'=>NwD w0 w' 34 r ds∧No w0 w':=by
 refine go89 (by simp) ?_;obtain⟨a,cap,rfl,hcap⟩:=h.slice;simp -implicitDefEqProofs only[go_sem,jF,Tryz.f89]
 cases a with
 | none =>
  have:=h.none;subst this;simp -implicitDefEqProofs only[go_sem,yN,qK];exact⟨NwD.nil _ _ _,Fr.refl _ _⟩
 | some ad =>
  simp -implicitDefEqProofs only[go_sem,qK];refine qQl (v:=.slice (some ⟨w0.heap.size,0,none⟩) 0 0) (w':=w0.alloc (.cells #[] 34)) rfl ?_;have f1:No w0 (w0.alloc (.cells #[] 34)):=(Fr.refl _ _).alloc _;obtain⟨v',w',hr,h1,h2,_⟩:=NwD.cat app24_24 (NwD.mk0 w0 w0 34 (xP _)) (h.fr0 f1) (qJy (by simp;omega)) (by simp;omega) f1;simp -implicitDefEqProofs only[go_sem,jF];refine qQg ⟨v',w',hr,?_⟩;simp -implicitDefEqProofs only[go_sem];exact⟨h1,h2⟩
def AnsV (w0 w:World)(x:Value)(a:Option Bs):Prop:=∃ v,x=.agg #[.bool a.isSome,v]∧NwB w0 w v (a.getD [])
theorem Rdr.fr {raw:Bs}(h:Rdr u w rb raw bv gv)(k:Fr F w w')(hf:∀ b,b≤rb→¬ F b):Rdr u w' rb raw bv gv:=by
 obtain⟨h0,f0,v,h1,h2⟩:=h;exact⟨h0,f0.trans' k fun b hb h=>hf b (by omega) h,v,k.at h1 (hf _ (xP _)),h2⟩
theorem lohi (x y:Byte):orK .i64 (x.toNat:Int) (shlK .i64 (y.toNat:Int) 8)=((x.toNat+256*y.toNat:Nat):Int):=by
 have hx:=x.isLt;have hy:=y.isLt
 have e1:shlK .i64 (y.toNat:Int) 8=((y.toNat*2 ^ 8:Nat):Int):=by
  show IntKind.i64.wrap ((y.toNat:Int)*2 ^ 8)=_;have:(y.toNat:Int)*2 ^ 8=((y.toNat*2 ^ 8:Nat):Int):=by rw[Int.natCast_mul];rfl
  rw[this];exact i64n
 have e:orK .i64 (x.toNat:Int) ((y.toNat*2 ^ 8:Nat):Int)=IntKind.i64.wrap (((qQ 64 (x.toNat:Int) ||| qQ 64 ((y.toNat*2 ^ 8:Nat):Int)).toNat:Nat):Int):=rfl;rw[e1,e,xJ,xJ,BitVec.toNat_or,zV,zV,yK (by omega),yK (by omega)]
 have h2:x.toNat ||| y.toNat*2 ^ 8=x.toNat+256*y.toNat:=by
  rw[Nat.or_comm,Nat.mul_comm,← Nat.two_pow_add_eq_or_of_lt (by omega)];omega
 rw[h2];exact i64n
theorem bldAns {x y:Value}(hx:one x=true)(hy:one y=true):bldO prog 69 [(0,x),(1,y)]=some (.agg #[x,y]):=by
 simp only[bldO,zero69,places69,Option.bind_some];rw[qXj (off:=0) rfl hx (by decide),qXj (off:=1) rfl hy (by simp[Value.cells])];rfl
theorem bldAns0:bldO prog 69 []=some (.agg #[.bool false,.slice none 0 0]):=rfl
def AnswQ (u w0:World)(rb:Nat)(raw:Bs)(bv gv:Value)(kind:Byte)(r:Value)(w':World):Prop:=Fr (fun b=>b=rb) w0 w' ∧
   match yS kind.toNat raw with
   | none=>∃ f v,one v=true∧r=.tuple #[.agg #[.bool f,v],.bool false]
   | some p=>∃ x,r=.tuple #[x,.bool true]∧AnsV w0 w' x p.1∧Rdr u w' rb p.2 bv gv
theorem ransw (u w0:World){raw:Bs}(h:Rdr u w0 rb raw bv gv)(kind:Byte) :
  Fn prog 172 #[pt rb 0,u8 kind] w0 (AnswQ u w0 rb raw bv gv kind):=by
 refine go172 (by simp) ?_;have f1:No w0 (w0.alloc (.cells #[.bool false,.slice none 0 0] 69)):=(Fr.refl _ _).alloc _;have k1:(w0.alloc (.cells #[.bool false,.slice none 0 0] 69)).heap[w0.heap.size]?=some (.cells #[.bool false,.slice none 0 0] 69 (0,0)):=qQc _ _;have h1:Rdr u (w0.alloc (.cells #[.bool false,.slice none 0 0] 69)) rb raw bv gv:=h.fr (F:=fun _=>False) ((Fr.refl _ _).alloc _) fun _ _ h=>h;have hrb:rb<w0.heap.size:=by obtain⟨_,_,v,h,_⟩:=h;exact qQh h
 simp -implicitDefEqProofs only[go_sem,jF,Tryz.f172,Value.cells];generalize w0.alloc (.cells #[.bool false,.slice none 0 0] 69)=W at *
 have q0:∀ w1:World,w1.heap[w0.heap.size]?=some (.cells #[.bool false,.slice none 0 0] 69 (0,0))→∀ x y:Value,one x=true→one y=true→wrO prog 69 w1 w0.heap.size 0 (.agg #[x,y])=some (put w1 w0.heap.size (.cells #[x,y] 69 (0,0))):=fun w1 h1 x y hx hy=>by
  rw[qZl h1,stO_agg sz69 (by simp[hx,hy]) (by simp)];rfl
 have l0:∀ w1:World,∀ x y:Value,w1.heap[w0.heap.size]?=some (.cells #[x,y] 69 (0,0))→rdO prog 69 w1 w0.heap.size 0=some (.agg #[x,y]):=fun w1 x y h1=>by
  rw[qQo h1,qJb agg69 sz69 (by simp)];rfl
 by_cases hk:kind.toNat=0
 ·have d1:(((kind.toNat:Nat):Int) == 0)=true:=by rw[hk];rfl
  have q:=q0 W k1 (.bool false) (.slice none 0 0) rfl rfl;have l:=l0 _ (.bool false) (.slice none 0 0) (qQf (o:=.cells #[.bool false,.slice none 0 0] 69 (0,0)) k1);simp -implicitDefEqProofs only[go_sem,jF,d1,bldAns0,q,l];unfold AnswQ yS;rw[if_pos hk];refine⟨(f1.mono fun _ _ h=>h.elim).put (b:=w0.heap.size) _ fun h=>absurd h (jD _),_,rfl,⟨.slice none 0 0,rfl,NwB.nil _ _⟩,?_⟩;exact h1.fr (F:=fun b=>b=w0.heap.size) ((Fr.refl _ _).put (b:=w0.heap.size) _ fun _=>rfl) fun b hb h=>by omega
 ·have d1:(((kind.toNat:Nat):Int) == 0)=false:=by rw[bFn];omega
  simp -implicitDefEqProofs only[go_sem,d1];refine qQa pl171 ((rtake u W h1 2).mono ?_);rintro r w1 ⟨f2,h2⟩;have f2':=(f1.mono fun _ _ h=>h.elim).trans' f2 fun b _ h=>h;have k2:=f2.at k1 (fun e=>by omega)
  by_cases hl:raw.length<2
  ·rw[if_pos hl]at h2
   obtain⟨rfl,h2⟩:=h2;have q:=q0 w1 k2 (.bool false) (.slice none 0 0) rfl rfl;have l:=l0 _ (.bool false) (.slice none 0 0) (qQf (o:=.cells #[.bool false,.slice none 0 0] 69 (0,0)) k2);simp -implicitDefEqProofs only[go_sem,jF,gLa,gLz,gLs,bldAns0,q,l];unfold AnswQ yS;rw[if_neg hk,if_pos hl];exact⟨f2'.put (b:=w0.heap.size) _ fun h=>absurd h (jD _),_,_,rfl,rfl⟩
  ·rw[if_neg hl]at h2
   obtain⟨v,rfl,b2,h2⟩:=h2;have hb2:(raw.take 2).length=2:=by rw[lTk];omega
   obtain⟨b,o,cap,rfl,hcap⟩:=b2.pos (by rw[hb2];omega);have f2u:No u w1:=h2.2.1;have b2':=b2.fr0 f2u;have r0:=b2'.get (P:=prog) agg5 (i:=0) (by rw[hb2];omega);have r1:=b2'.get (P:=prog) agg5 (i:=1) (by rw[hb2];omega);have g0:(raw.take 2).getD 0 0=raw.getD 0 0:=by simp[gDq]
   have g1:(raw.take 2).getD 1 0=raw.getD 1 0:=by simp[gDq]
   rw[g0,Nat.add_zero]at r0;rw[g1]at r1;unfold AnswQ yS;rw[if_neg hk,if_neg hl];have hn:=lohi (raw.getD 0 0) (raw.getD 1 0);have hx:=(raw.getD 0 0).isLt;have hy:=(raw.getD 1 0).isLt;have c0:IntKind.i64.wrap ((raw.getD 0 0).toNat:Int)=((raw.getD 0 0).toNat:Int):=i64n;have c1:IntKind.i64.wrap ((raw.getD 1 0).toNat:Int)=((raw.getD 1 0).toNat:Int):=i64n;generalize raw.getD 0 0=x at *;generalize raw.getD 1 0=y at *;have y0:(0:Int)≤0∧(0:Int)<(((raw.take 2).length:Nat):Int):=by omega
   have y1:(0:Int)≤1∧(1:Int)<(((raw.take 2).length:Nat):Int):=by omega
   simp -implicitDefEqProofs only[go_sem,jF,gLa,gLz,gLs,y0,y1,r0,r1,c0,c1,hn];generalize hN:x.toNat+256*y.toNat=N at *
   by_cases hN1:N > 128
   ·have d2:=dTo ((N:Int) > 128)
    have q:=q0 w1 k2 (.bool false) (.slice none 0 0) rfl rfl;have q:wrO prog 69 w1.drew w0.heap.size 0 (.agg #[.bool false,.slice none 0 0])=some (put w1.drew w0.heap.size (.cells #[.bool false,.slice none 0 0] 69 (0,0))):=q0 w1.drew k2 (.bool false) (.slice none 0 0) rfl rfl;have l:=l0 _ (.bool false) (.slice none 0 0) (qQf (w:=w1.drew) (o:=.cells #[.bool false,.slice none 0 0] 69 (0,0)) k2);simp -implicitDefEqProofs only[go_sem,jF,d2,bldAns0,q,l];rw[if_pos hN1];exact⟨f2'.drew.put (b:=w0.heap.size) _ fun h=>absurd h (jD _),_,_,rfl,rfl⟩
   ·have d2:=dFo ((N:Int) > 128)
    rw[if_neg hN1];simp -implicitDefEqProofs only[go_sem,d2];have h2d:Rdr u w1.drew rb (raw.drop 2) bv gv:=h2.fr (F:=fun _=>False) (Fr.refl _ _).drew fun _ _ h=>h;refine qQa pl171 ((rtake u w1.drew h2d N).mono ?_);rintro r w3 ⟨f3,h3⟩;have f3':=f2'.drew.trans f3;have k3:w3.heap[w0.heap.size]?=some (.cells #[.bool false,.slice none 0 0] 69 (0,0)):=f3.at k2 (fun e=>by omega)
    by_cases hl3:(raw.drop 2).length<N
    ·rw[if_pos hl3]at h3 ⊢
     obtain⟨rfl,h3⟩:=h3;simp -implicitDefEqProofs only[go_sem,jF,gLa,gLz,gLs];refine qQa pl115 ((bclone w3 (bs:=[]) ⟨rfl,_,_,rfl,xP _,fun h=>absurd h (by simp)⟩ (by simp)).mono ?_);rintro _ w4 ⟨b4,f4⟩;obtain⟨a4,c4,rfl⟩:=b4.slice;have q:=q0 w4 (f4.at k3 id) (.bool true) (.slice a4 ([]:Bs).length c4) rfl rfl;have l:=l0 _ (.bool true) (.slice a4 ([]:Bs).length c4) (qQf (w:=w4) (o:=.cells #[.bool true,.slice a4 ([]:Bs).length c4] 69 (0,0)) (f4.at k3 id));have bl:=bldAns (x:=.bool true) (y:=.slice a4 ([]:Bs).length c4) rfl rfl;simp -implicitDefEqProofs only[go_sem,jF,bl,q,l];exact⟨(f3'.trans' f4 fun _ _ h=>h.elim).put (b:=w0.heap.size) _ fun h=>absurd h (jD _),_,_,rfl,rfl⟩
    ·rw[if_neg hl3]at h3 ⊢
     obtain⟨v,rfl,b3,h3⟩:=h3;simp -implicitDefEqProofs only[go_sem,jF,gLa,gLz,gLs];refine qQa pl115 ((bclone w3 (b3.fr0 h3.2.1) (by rw[lTk];omega)).mono ?_);rintro _ w4 ⟨b4,f4⟩;obtain⟨a4,c4,rfl⟩:=b4.slice;have hc4:=f4.at k3 id;generalize ((raw.drop 2).take N).length=m at *;have q:=q0 w4 hc4 (.bool true) (.slice a4 m c4) rfl rfl;have l:=l0 _ (.bool true) (.slice a4 m c4) (qQf (w:=w4) (o:=.cells #[.bool true,.slice a4 m c4] 69 (0,0)) hc4);have bl:=bldAns (x:=.bool true) (y:=.slice a4 m c4) rfl rfl;simp -implicitDefEqProofs only[go_sem,jF,bl,q,l];have hs3:w0.heap.size<w3.heap.size:=qQh k3;refine⟨(f3'.trans' f4 fun _ _ h=>h.elim).put (b:=w0.heap.size) _ fun h=>absurd h (jD _),_,rfl,⟨_,rfl,?_⟩,?_⟩
     ·exact (b4.back (by omega)).put (b:=w0.heap.size) _ fun c hc=>by have:=b4.lt hc;omega
     ·exact (h3.fr (F:=fun _=>False) f4 fun _ _ h=>h).fr (F:=fun b=>b=w0.heap.size) ((Fr.refl _ _).put (b:=w0.heap.size) _ fun _=>rfl) fun b hb h=>by omega
section
theorem and8_1 (a:Nat)(ha:a<256):andK .u8 (a:Int) 1=((a % 2:Nat):Int):=by
 have e:andK .u8 (a:Int) 1=IntKind.u8.wrap (((qQ 8 (a:Int) &&& qQ 8 ((1:Nat):Int)).toNat:Nat):Int):=rfl;rw[e,xJ,xJ,BitVec.toNat_and,zV,zV,yK (by omega),yK (by decide),Nat.and_one_is_mod,wrap_u8];omega
theorem mbit_and (bits:Bs)(g:Nat):(andK .u8 (shrK .u8 ((bits.getD (g / 8) 0).toNat:Int) ((g % 8:Nat):Int)) 1 == 0)=!Wit.mbit bits g:=by
 have hx:=(bits.getD (g / 8) 0).isLt
 have hb:yC bits g=decide ((bits.getD (g / 8) 0).toNat / 2 ^ (g % 8) % 2=1):=by
  show Nat.testBit _ _=_;rw[Nat.testBit_eq_decide_div_mod_eq]
 rw[hb];generalize (bits.getD (g / 8) 0).toNat=x at *;have hq:x / 2 ^ (g % 8)≤x:=Nat.div_le_self _ _;rw[shr8i x _ (by omega),and8_1 _ (by omega)];have h2:x / 2 ^ (g % 8) % 2<2:=Nat.mod_lt _ (by decide);generalize x / 2 ^ (g % 8) % 2=y at *
 obtain rfl | rfl:y=0∨y=1:=by omega
 ·rfl
 ·rfl
section
variable {f top:Nat} {bits rest:Bs} {g:Nat} (hg:g<256)
include hg
theorem gvP_skip (h:yC bits g=false):yP f top bits (256 - g) g rest=yP f top bits (256 - (g+1)) (g+1) rest:=by
 rw[show 256 - g=(256 - (g+1))+1 by omega];simp only[yP];rw[if_pos h]
theorem gvP_no (h:yC bits g=true)(hc:rest.length<32∨g<f∨top≤g):yP f top bits (256 - g) g rest=none:=by
 rw[show 256 - g=(256 - (g+1))+1 by omega];simp only[yP];rw[if_neg (by simp[h]),if_pos hc]
theorem gvP_one (h:yC bits g=true)(hc:¬ (rest.length<32∨g<f∨top≤g)):yP f top bits (256 - g) g rest=(yP f top bits (256 - (g+1)) (g+1) (rest.drop 32)).map fun p=>((g,rest.take 32)::p.1,p.2):=by
 rw[show 256 - g=(256 - (g+1))+1 by omega];simp only[yP];rw[if_neg (by simp[h]),if_neg hc]
end
def gcells (ps:List (Nat × Nat × Nat)):List Value:=(ps.map fun p=>[.int .i64 ((p.1:Nat):Int),pt p.2.1 p.2.2]).flatten
theorem gcells_app (a b:List (Nat × Nat × Nat)):gcells (a++b)=gcells a++gcells b:=by simp[gcells]
def GvAt (u w:World)(v:Value)(ps:List (Nat × Nat × Nat)):Prop:=Nw u w 196 2 v ps.length (gcells ps)
def gps (f nb no:Nat)(gs:List (Nat × Bs)):List (Nat × Nat × Nat):=gs.map fun g=>(g.1,nb,no+(g.1 - f)*32)
structure NbI (u w0:World) (wd:Int) (rb tb nb no f top:Nat) (kv nv fb fv lp rp bv:Value) (ps:List (Nat × Nat × Nat)) (bits raw:Bs) (gb:Nat→Prop) (g:Nat) (w:World) (acc:List (Nat × Bs)) (rest:Bs) (gv:Value):Prop where
 go:yP f top bits 256 0 raw=(yP f top bits (256 - g) g rest).map fun p=>(acc++p.1,p.2)
 rdr:Rdr u w rb rest bv gv
 gva:GvAt u w gv (ps++gps f nb no acc)
 gvn:∀ b,qQb gv=some b→gb b∨w0.heap.size≤b
 gvo:∀ b,qQb gv=some b→b≠rb∧b≠tb∧qQb nv≠some b
 twi:w.heap[tb]?=some (.cells #[kv,.int .i64 (f:Nat),.int .i64 (top:Nat),nv,fb,fv,lp,rp] 96 (0,0))
 nea:NwD w0 w 23 nv (Wit.fill f (((empts wd 257).drop f).take (top - f)) acc)
 lt:∀ q ∈ acc,q.1<g∧f≤q.1∧q.1<top
 few:acc.length≤g
 fr:Fr (fun b=>b=rb∨b=tb∨gb b) w0 w
def nbI (u w0:World)(wd:Int)(rb tb nb no f top:Nat)(kv nv fb fv lp rp bv:Value)(ps:List (Nat × Nat × Nat))(bits raw:Bs)(gb:Nat→Prop)(bitv:Value)(n:Nat)(vs:List Value)(w:World):Prop :=
 ∃ (g:Nat) (x y z:Value) (acc:List (Nat × Bs)) (rest:Bs) (gv:Value),vs=[pt rb 0,pt tb 0,bitv,x,y,z,.int .i64 (g:Nat)]∧g≤256∧n=256 - g∧NbI u w0 wd rb tb nb no f top kv nv fb fv lp rp bv ps bits raw gb g w acc rest gv
def NbQ (u w0:World)(wd:Int)(rb tb f top:Nat)(kv fb fv lp rp bv:Value)(ps:List (Nat × Nat × Nat))(raw:Bs)(gb:Nat→Prop)(r:Value)(w':World):Prop:=Fr (fun b=>b=rb∨b=tb∨gb b) w0 w' ∧
 match yR wd f top raw with
 | none=>r=.bool false
 | some p=>r=.bool true∧∃ nv nb no gv, Rdr u w' rb p.2.2 bv gv∧GvAt u w' gv (ps++gps f nb no p.2.1)∧(∀ b, qQb gv=some b→gb b∨w0.heap.size≤b)∧(∀ b, qQb gv=some b→b≠rb∧b≠tb∧qQb nv≠some b) ∧
   w'.heap[tb]?=some (.cells #[kv,.int .i64 (f:Nat),.int .i64 (top:Nat),nv,fb,fv,lp,rp] 96 (0,0)) ∧
   NwD w0 w' 23 nv p.1∧(0<top - f→∃ cap,nv=.slice (some ⟨nb,no,none⟩) (top - f) cap)
theorem rnbrs (u w0:World)(wd:Int){rb tb f top:Nat}{kv fb fv lp rp bv gv nv:Value}{raw:Bs}(h:Rdr u w0 rb raw bv gv)(hb:RdD u bv (empts wd 257))(hg:GvAt u w0 gv ps)(hps:ps.length≤2 ^ 20)
  (hgn:∀ b,qQb gv=some b→b≠rb∧b≠tb) (htb:tb≠rb) (htu:u.heap.size≤tb)
  (ht:w0.heap[tb]?=some (.cells #[kv,.int .i64 (f:Nat),.int .i64 (top:Nat),nv,fb,fv,lp,rp] 96 (0,0))) (hf:f≤top) (hT:top≤256) :
  Fn prog 173 #[pt rb 0,pt tb 0] w0 (NbQ u w0 wd rb tb f top kv fb fv lp rp bv ps raw (fun b=>qQb gv=some b)):=by
 refine go173 (by simp) ?_;simp -implicitDefEqProofs only[go_sem,jF,Tryz.f173];refine qQa pl171 ((rtake u w0 h 32).mono ?_);rintro r w1 ⟨f1,h1⟩;have f1':Fr (fun b=>b=rb∨b=tb∨qQb gv=some b) w0 w1:=f1.mono fun _ _ h=>.inl h
 by_cases hl:raw.length<32
 ·rw[if_pos hl]at h1
  obtain⟨rfl,h1⟩:=h1;simp -implicitDefEqProofs only[go_sem,jF,gLa,gLz,gLs];unfold NbQ yR;rw[if_pos hl];exact⟨f1',rfl⟩
 ·rw[if_neg hl]at h1
  obtain⟨bitv,rfl,b1,h1⟩:=h1;have t1:=f1.at ht htb;have r1:=qQo (P:=prog) t1;obtain⟨h10,f10,rv,h11,h12⟩:=id h1;have r2:=qQo (P:=prog) h11;obtain⟨ba,bcap,rfl,hbcap⟩:=hb.slice;rw[qQm]at *;have s1:=slc_both (P:=prog) slc94 arr94 sz23 (a:=ba) (n:=257) (cap:=bcap) hf (show top≤257 by omega) hbcap;simp -implicitDefEqProofs only[go_sem,jF,jB,r1,r2,qQk,gLa,gLz,gLs,s1];have hc:=RdD.cutV (hb.fr0 f10.drew) hf (show top≤257 by omega) (qQm _ _);have hlen:(((empts wd 257).drop f).take (top - f)).length=top - f:=by rw[lTk,lDr,qQm];omega
  refine qQa pl120 ((dclone _ hc (by rw[hlen];omega)).mono ?_);rintro nv2 w2 ⟨b2,f2⟩;have t2:w2.heap[tb]?=_:=f2.at t1 id;obtain⟨na,ncap,hv,hncap⟩:=b2.rd.slice;rw[hlen]at hv hncap;subst hv
  have q:wrO prog 94 w2 tb 3 (.slice na (top - f) ncap)=some (put w2 tb (.cells #[kv,.int .i64 (f:Nat),.int .i64 (top:Nat),.slice na (top - f) ncap,fb,fv,lp,rp] 96 (0,0))):=by
   rw[qZl t2,qKl sz94 rfl (by simp)];rfl
  simp -implicitDefEqProofs only[go_sem,jF,q];have hs1:w0.heap.size≤w1.heap.size:=f1.size;have htl:=qQh ht;have hrl:=qQh h11;have hr0:rb<w0.heap.size:=by obtain⟨_,_,v,h,_⟩:=h;exact qQh h
  have nwb:∀ b,qQb (.slice na (top - f) ncap)=some b→w1.heap.size≤b:=fun b hb=>b2.2.new b hb
  obtain⟨nb,no,hnv⟩:∃ nb no,0<top - f→na=some ⟨nb,no,none⟩:=by
   by_cases h0:0<top - f
   ·obtain⟨nb,no,c,e,_⟩:=b2.rd.pos (by rw[hlen];exact h0)
    rw[hlen]at e;cases e;exact⟨nb,no,fun _=>rfl⟩
   ·exact⟨0,0,fun h=>absurd h h0⟩
  have f3:Fr (fun b=>b=rb∨b=tb∨qQb gv=some b) w0 (put w2 tb (.cells #[kv,.int .i64 (f:Nat),.int .i64 (top:Nat),.slice na (top - f) ncap,fb,fv,lp,rp] 96 (0,0))) :=
   ((f1'.drew.trans' f2 fun _ _ h=>h.elim).put (b:=tb) _ fun _=>.inr (.inl rfl))
  have t3:=qQf (o:=.cells #[kv,.int .i64 (f:Nat),.int .i64 (top:Nat),.slice na (top - f) ncap,fb,fv,lp,rp] 96 (0,0)) t2;have fp:Fr (fun b=>b=tb) w2 (put w2 tb (.cells #[kv,.int .i64 (f:Nat),.int .i64 (top:Nat),.slice na (top - f) ncap,fb,fv,lp,rp] 96 (0,0))):=(Fr.refl _ _).put (b:=tb) _ fun _=>rfl
  have r3:Rdr u (put w2 tb (.cells #[kv,.int .i64 (f:Nat),.int .i64 (top:Nat),.slice na (top - f) ncap,fb,fv,lp,rp] 96 (0,0))) rb (raw.drop 32) (.slice ba 257 bcap) gv :=
   ⟨h10,(f10.drew.trans f2).put (b:=tb) _ fun h=>by omega,rv,qQr (f2.at (w:=w1.drew) h11 id) htb,h12⟩
  have g3:GvAt u (put w2 tb (.cells #[kv,.int .i64 (f:Nat),.int .i64 (top:Nat),.slice na (top - f) ncap,fb,fv,lp,rp] 96 (0,0))) gv ps :=
   Nw.fr (Nw.fr0 (Nw.fr hg f1.drew fun b hb e=>(hgn b hb).1 e) f2) fp fun b hb e=>(hgn b hb).2 e
  have n3:NwD w0 (put w2 tb (.cells #[kv,.int .i64 (f:Nat),.int .i64 (top:Nat),.slice na (top - f) ncap,fb,fv,lp,rp] 96 (0,0))) 23 (.slice na (top - f) ncap) (((empts wd 257).drop f).take (top - f)) :=
   (b2.fr fp fun b hb e=>by have:=nwb b hb;omega).back hs1
  generalize put w2 tb (.cells #[kv,.int .i64 (f:Nat),.int .i64 (top:Nat),.slice na (top - f) ncap,fb,fv,lp,rp] 96 (0,0))=w3 at *;have hgl:∀ b,qQb gv=some b→b<w0.heap.size:=fun b hb=>hg.own.lt hb
  have start:NbI u w0 wd rb tb nb no f top kv (.slice na (top - f) ncap) fb fv lp rp (.slice ba 257 bcap) ps (raw.take 32) (raw.drop 32) (fun b=>qQb gv=some b) 0 w3 [] (raw.drop 32) gv:=by
   refine⟨?_,r3,by simpa [gps] using g3,fun b hb=>.inl hb,fun b hb=>⟨(hgn b hb).1,(hgn b hb).2,fun h=>by have:=nwb b h;have:=hgl b hb;omega⟩,t3,n3,fun q hq=>(by cases hq),xP _,f3⟩
   simp
  refine loopD [0,1,5,7,8,9,34] (nbI u w0 wd rb tb nb no f top kv (.slice na (top - f) ncap) fb fv lp rp (.slice ba 257 bcap) ps (raw.take 32) (raw.drop 32) (fun b=>qQb gv=some b) bitv) 256 ⟨0,_,_,_,[],_,_,rfl,by omega,rfl,start⟩ ?_;rintro _ vs w4 gg ⟨g,x,y,z,acc,rest,gv4,rfl,hgl4,rfl,I⟩
  by_cases hlt:g<256
  ·have d1:=dTo ((g:Int)<256)
   have hbl:(raw.take 32).length=32:=by rw[lTk];omega
   obtain⟨bb,bo,bc,he,_⟩:=b1.pos (by rw[hbl];omega);rw[hbl]at he;subst he;have rb1:=(b1.fr0 I.rdr.2.1).get (P:=prog) agg5 (i:=g / 8) (by rw[hbl];omega);have a0:IntKind.i64.wrap ((g:Int).tdiv 8)=((g / 8:Nat):Int):=by rw[show (g:Int).tdiv 8=((g / 8:Nat):Int) from rfl];exact i64n
   have a1:(g:Int).tmod 8=((g % 8:Nat):Int):=rfl;have y0:(0:Int)≤((g / 8:Nat):Int)∧((g / 8:Nat):Int)<((32:Nat):Int):=by omega
   have n0:((8:Int)=0)=False:=by simp
   have n1:¬ (((g % 8:Nat):Int)<0):=by omega
   have hand:=mbit_and (raw.take 32) g;have c1:=iSu (i:=g)
   have hQ:yP f top (raw.take 32) (256 - g) g rest=none→∀ w',Fr (fun b=>b=rb∨b=tb∨qQb gv=some b) w0 w'→NbQ u w0 wd rb tb f top kv fb fv lp rp (.slice ba 257 bcap) ps raw (fun b=>qQb gv=some b) (.bool false) w':=fun hn w' hfr=>by
    unfold NbQ yR;rw[if_neg hl,I.go,hn];exact⟨hfr,rfl⟩
   have hgo:=I.go;have I':=I;have hgv:yC (raw.take 32) g=false→yP f top (raw.take 32) (256 - g) g rest=yP f top (raw.take 32) (256 - (g+1)) (g+1) rest:=gvP_skip hlt;have hno:yC (raw.take 32) g=true→(rest.length<32∨g<f∨top≤g)→yP f top (raw.take 32) (256 - g) g rest=none:=gvP_no hlt;have hon:yC (raw.take 32) g=true→¬ (rest.length<32∨g<f∨top≤g)→_:=gvP_one (f:=f) (top:=top) (rest:=rest) hlt;generalize (raw.take 32).getD (g / 8) 0=bx at *
   cases hm:yC (raw.take 32) g with
   | false =>
    rw[hm]at hand;simp -implicitDefEqProofs only[go_sem,jF,d1,a0,a1,y0,n0,n1,rb1,hand,c1];refine⟨256 - (g+1),by omega,g+1,_,_,_,acc,rest,gv4,rfl,by omega,rfl,?_⟩;exact { I with go:=by rw[hgo,hgv hm],lt:=fun q hq=>by have:=I.lt q hq;omega,few:=by have:=I.few;omega }
   | true =>
    rw[hm]at hand;simp -implicitDefEqProofs only[go_sem,jF,d1,a0,a1,y0,n0,n1,rb1,hand];refine qQa pl171 ((rtake u w4 I.rdr 32).mono ?_);rintro r w5 ⟨f5,h5⟩;have fr5:=I.fr.trans' f5 fun b _ h=>.inl h
    by_cases hl5:rest.length<32
    ·rw[if_pos hl5]at h5
     obtain⟨rfl,h5⟩:=h5;simp -implicitDefEqProofs only[go_sem,jF,gLa,gLz,gLs];exact hQ (hno hm (.inl hl5)) _ fr5
    ·rw[if_neg hl5]at h5
     obtain⟨dv,rfl,b5,h5⟩:=h5;have t5:=f5.at I.twi htb;have r5:=qQo (P:=prog) t5
     by_cases hgf:g<f
     ·have d2:=dTo ((g:Int)<(f:Int))
      simp -implicitDefEqProofs only[go_sem,jF,gLa,gLz,gLs,r5,qQk,d2,bSe];exact hQ (hno hm (.inr (.inl hgf))) _ fr5
     ·have d2:=dFo ((g:Int)<(f:Int))
      by_cases hgt:top≤g
      ·have d3:=dTo ((g:Int) ≥ (top:Int))
       simp -implicitDefEqProofs only[go_sem,jF,gLa,gLz,gLs,r5,qQk,d2,d3,bSe];exact hQ (hno hm (.inr (.inr hgt))) _ fr5
      ·have d3:=dFo ((g:Int) ≥ (top:Int))
       simp -implicitDefEqProofs only[go_sem,jF,gLa,gLz,gLs,r5,qQk,d2,d3,bSe];obtain⟨rfl⟩:na=some ⟨nb,no,none⟩:=hnv (by omega);have hd:(rest.take 32).length=32:=by rw[lTk];omega
       obtain⟨db,dO,dc,he,_⟩:=b5.pos (by rw[hd];omega);rw[hd]at he;subst he;have rd5:=(b5.fr0 h5.2.1).dg (P:=prog) agg23 sz23 hd;have hnbl:w1.heap.size≤nb:=nwb nb rfl;have c2:IntKind.i64.wrap ((g:Int) - (f:Int))=((g - f:Nat):Int):=qXl (by omega) (by omega);have y2:(0:Int)≤((g - f:Nat):Int)∧((g - f:Nat):Int)<((top - f:Nat):Int):=by omega
       have y3:32≤32:=xP _;have nvb:∀ b,qQb (.slice (some ⟨nb,no,none⟩) (top - f) ncap)=some b→b=nb:=fun b hb=>by simpa [qQb] using hb.symm
       have nea5:NwD w0 w5.drew 23 (.slice (some ⟨nb,no,none⟩) (top - f) ncap) (Wit.fill f (((empts wd 257).drop f).take (top - f)) acc):=(I.nea.fr f5 fun b hb e=>by have:=nvb b hb;omega).fr0 (Fr.refl _ _).drew;obtain⟨w6,q6,n6,f6⟩:=nea5.set (P:=prog) sz23 (i:=g - f) (by rw[Wit.fill_len,hlen];omega) hd;have hd1:=Wit.fill_len f acc (((empts wd 257).drop f).take (top - f));refine qXh (fun _=>false) [0,1,2,3,4,5,6,7,8,9,10,11,12,13,14] rfl (by kernel_rfl) (by kernel_rfl) ?_;generalize rest.take 32=D at *;simp -implicitDefEqProofs only[go_sem,jF,gLa,gLz,gLs,r5,qQk,c2,y2,y3,rd5,q6];have t6:w6.heap[tb]?=_:=f6.at (w:=w5.drew) t5 (fun e=>by omega);have r6:=qQo (P:=prog) t6;have hrl6:rb<w0.heap.size:=hr0
       have h6:Rdr u w6 rb (rest.drop 32) (.slice ba 257 bcap) gv4:=by
        obtain⟨e0,e1,e2,e3,e4⟩:=h5;exact⟨e0,e1.drew.trans' f6 fun b hb h=>by omega,e2,f6.at (w:=w5.drew) e3 (fun e=>by omega),e4⟩
       obtain⟨rv6,h61,h62⟩:=h6.2.2;have r7:=qQo (P:=prog) h61;have bl:bldO prog 196 [(0,.int .i64 (g:Nat)),(1,pt nb (no+(g - f)*32))]=some (.agg #[.int .i64 (g:Nat),pt nb (no+(g - f)*32)]):=rfl;have g6:GvAt u w6.drew gv4 (ps++gps f nb no acc):=Nw.fr0 (Nw.fr (Nw.fr I.gva f5 fun b hb e=>(I.gvo b hb).1 e) ((Fr.refl _ _).drew.trans f6) fun b hb e=>(I.gvo b hb).2.2 (by rw[e];rfl)) (Fr.refl _ _).drew;have nou:No u w6.drew:=h6.2.1.drew;obtain⟨v7,w7,hr7,g7,nou7,f7,hb7⟩:=qZv app189_189 g6 (m:=1) (xs:=#[.int .i64 (g:Nat),pt nb (no+(g - f)*32)]) rfl rfl (by decide) (bd_one (by have:=I.few;simp[gps];omega)) (by have:=I.few;simp[gps];omega) nou;refine qXh (fun j=>j == 18) [0,1,2,3,4,5,6,7,8,9,10,11,12,13,14,15,16,17,18,19,20,21,22] rfl (by kernel_rfl) (by kernel_rfl) ?_;simp -implicitDefEqProofs only[go_sem,jF,jB,gLa,gLz,gLs,r6,r7,qQk,c2,y2,bl];refine qKi (v:=.slice (some ⟨w6.drew.heap.size,0,none⟩) 1 1) (w':=w6.drew.alloc (.cells #[.int .i64 (g:Nat),pt nb (no+(g - f)*32)] 196)) rfl (fun _=>Ext.alloc _ _) ?_;simp -implicitDefEqProofs only[go_sem,jF,gLa,gLz,gLs];refine qJj ⟨v7,w7,hr7,fun h=>(by cases h),?_⟩;have hb7':∀ b,qQb v7=some b→qQb gv4=some b∨w6.heap.size≤b:=hb7
       have g7':GvAt u w7 v7 (ps++gps f nb no (acc++[(g,D)])):=by
        unfold GvAt;rw[show gps f nb no (acc++[(g,D)])=gps f nb no acc++[(g,nb,no+(g - f)*32)] by simp[gps],← List.append_assoc,gcells_app,lAp,List.length_singleton];exact g7
       obtain⟨_,a7,c7,rfl,_⟩:=g7.rd;generalize (ps++gps f nb no acc).length+1=N7 at *;have h71:w7.heap[rb]?=_:=f7.at (w:=w6.drew) h61 (fun e=>(I.gvo rb e).1 rfl)
       have q7:wrO prog 189 w7 rb 2 (.slice a7 N7 c7)=some (put w7 rb (.cells #[rv6,.slice ba 257 bcap,.slice a7 N7 c7] 191 (0,0))):=by
        rw[qZl h71,qKl sz189 rfl (by simp)];rfl
       simp -implicitDefEqProofs only[go_sem,jF,jB,gLa,gLz,gLs,q7,c1];have hnb6:nb<w6.heap.size:=n6.2.own.lt rfl;have htb6:tb<w6.heap.size:=qQh t6;have hrb6:rb<w6.heap.size:=qQh h61
       have gvo7:∀ b,qQb (.slice a7 N7 c7)=some b→b≠rb∧b≠tb∧b≠nb:=fun b hb=>by
        rcases hb7' b hb with h | h
        ·have:=I.gvo b h
         exact⟨this.1,this.2.1,fun e=>this.2.2 (by rw[e];rfl)⟩
        ·omega
       have fp7:Fr (fun b=>b=rb) w7 (put w7 rb (.cells #[rv6,.slice ba 257 bcap,.slice a7 N7 c7] 191 (0,0))):=(Fr.refl _ _).put (b:=rb) _ fun _=>rfl
       have fr7:Fr (fun b=>b=rb∨b=tb∨qQb gv=some b) w0 w7:=((fr5.drew.trans' f6 fun b hb h=>by omega).drew).trans' f7 fun b hb h=>by
        rcases I.gvn b h with h | h
        ·exact .inr (.inr h)
        ·omega
       refine⟨256 - (g+1),by omega,g+1,_,_,_,acc++[(g,D)],rest.drop 32,.slice a7 N7 c7,rfl,by omega,rfl,?_⟩
       refine⟨?_,⟨h6.1,nou7.put (b:=rb) _ fun h=>by omega,rv6,qQf h71,h62⟩,Nw.fr g7' fp7 fun b hb e=>(gvo7 b hb).1 e,fun b hb=>?_,fun b hb=>⟨(gvo7 b hb).1,(gvo7 b hb).2.1,fun e=>(gvo7 b hb).2.2 (nvb b e)⟩,
        fp7.at (f7.at (w:=w6.drew) t6 fun e=>(I.gvo tb e).2.1 rfl) htb,?_,fun q hq=>?_,by have:=I.few;simp;omega,fr7.put (b:=rb) _ fun _=>.inl rfl⟩
       ·rw[hgo,hon hm (by omega),Option.map_map]
        congr 1;funext p;simp
       ·rcases hb7' b hb with h | h
        ·exact I.gvn b h
        ·right;have:=fr5.size;have:=f6.size;simp only[World.drew]at *;omega
       ·have n7:=((n6.fr0 (Fr.refl _ _).drew).fr f7 fun b hb e=>(I.gvo b e).2.2 hb).fr fp7 fun b hb e=>by have:=nvb b hb;omega
        have e:Wit.fill f (((empts wd 257).drop f).take (top - f)) (acc++[(g,D)])=(Wit.fill f (((empts wd 257).drop f).take (top - f)) acc).set (g - f) D:=by simp[Wit.fill]
        rw[e];exact n7
       ·rcases List.mem_append.1 hq with hq | hq
        ·have:=I.lt q hq;omega
        ·simp only[List.mem_singleton]at hq;subst hq;exact⟨by show g<g+1;omega,by show f≤g;omega,by show g<top;omega⟩
  ·have d1:=dFo ((g:Int)<256)
   have e:g=256:=by omega
   subst e;simp -implicitDefEqProofs only[go_sem,jF,d1];unfold NbQ yR;rw[if_neg hl,I.go];refine⟨I.fr,rfl,_,nb,no,gv4,I.rdr,?_,I.gvn,I.gvo,I.twi,?_,fun h0=>⟨ncap,by rw[hnv h0]⟩⟩
   ·simpa [yP] using I.gva
   ·simpa [yP] using I.nea
end
abbrev twC (kv:Value)(f top:Nat)(nv fb vv lp rp:Value):Array Value:=#[kv,.int .i64 (f:Nat),.int .i64 (top:Nat),nv,fb,vv,lp,rp]
def wE:World:={ heap:=#[],tape:=fun _ _=>0,drawn:=0,os:=default,output:=#[] }
abbrev OneV:={v:Value // one v=true}
def TwM (u w:World):Nat→Wit.Tw→List Nat→Prop
 | tb, .leaf k top near a, B=>∃ kv nv vv Bn Bv, B=tb::(Bn++Bv)∧w.heap[tb]?=some (.cells (twC kv 0 top nv (.bool a.isSome) vv (.pointer none) (.pointer none)) 96 (0, 0))∧RdD u kv [k] ∧
   NwD wE w 23 nv near∧(∀ b,qQb nv=some b→b ∈ Bn)∧By w vv (a.getD [])∧(∀ b,qQb vv=some b→b ∈ Bv)
 | tb, .fork ks f top near l r, B=>∃ kv nv, ∃ (fb vv:OneV), ∃ lb rb Bn Bl Br, B=tb::(Bn++(Bl++Br))∧w.heap[tb]?=some (.cells (twC kv f top nv fb vv (pt lb 0) (pt rb 0)) 96 (0, 0))∧RdD u kv ks ∧
   NwD wE w 23 nv near∧(∀ b,qQb nv=some b→b ∈ Bn)∧TwM u w lb l Bl∧TwM u w rb r Br
theorem TwM.fr {u w w':World}{F:Nat→Prop}(k:Fr F w w'):∀ {t:Wit.Tw} {tb:Nat} {B:List Nat},TwM u w tb t B→(∀ b ∈ B,¬ F b)→TwM u w' tb t B
 | .leaf _ _ _ _,tb,B,h,hf=>by
  obtain⟨kv,nv,vv,Bn,Bv,rfl,h1,h2,h3,h4,h5,h6⟩:=h;exact⟨kv,nv,vv,Bn,Bv,rfl,k.at h1 (hf _ (by simp)),h2,h3.fr k fun b hb=>hf _ (by simp[h4 b hb]),h4,h5.fr k fun b hb _=>hf _ (by simp[h6 b hb]),h6⟩
 | .fork _ _ _ _ l r,tb,B,h,hf=>by
  obtain⟨kv,nv,fb,vv,lb,rb,Bn,Bl,Br,rfl,h1,h2,h3,h4,h5,h6⟩:=h;exact⟨kv,nv,fb,vv,lb,rb,Bn,Bl,Br,rfl,k.at h1 (hf _ (by simp)),h2,h3.fr k fun b hb=>hf _ (by simp[h4 b hb]),h4,TwM.fr k h5 fun b hb=>hf _ (by simp[hb]),TwM.fr k h6 fun b hb=>hf _ (by simp[hb])⟩
theorem TwM.fr0 (k:No w w'){t:Wit.Tw}{B:List Nat}(h:TwM u w tb t B):TwM u w' tb t B:=h.fr k fun _ _ h=>h
def GvOk (w:World)(ps:List (Nat × Nat × Nat))(gs:List (Nat × Bs)):Prop:=ps.length=gs.length∧∀ i (h:i<ps.length) (h':i<gs.length),ps[i].1=gs[i].1∧rdO prog 23 w ps[i].2.1 ps[i].2.2=some (dg gs[i].2)
theorem GvOk.app {ps qs:List (Nat × Nat × Nat)}{gs hs:List (Nat × Bs)}(h:GvOk w ps gs)(k:GvOk w qs hs):GvOk w (ps++qs) (gs++hs):=by
 obtain⟨h1,h2⟩:=h;obtain⟨k1,k2⟩:=k;refine⟨by rw[lAp,lAp,h1,k1],fun i hi hi'=>?_⟩
 by_cases hl:i<ps.length
 ·rw[yM hl,yM (by omega)];exact h2 i hl (by omega)
 ·rw[yD (by omega),yD (by omega)]
  have:=k2 (i - ps.length) (by rw[lAp]at hi;omega) (by rw[lAp]at hi';omega);have e:i - gs.length=i - ps.length:=by omega
  simp only[e];exact this
theorem rdO_fr {P:Program}{t:TypeId}{b o:Nat}(h:rdO P t w b o=some v)(k:Fr F w w')(hf:¬ F b):rdO P t w' b o=some v:=by
 have hb:b<w.heap.size:=by
  rcases Nat.lt_or_ge b w.heap.size with hb | hb
  ·exact hb
  ·rw[rdO,Array.getElem?_eq_none hb]at h;cases h
 rw[rdO,k.blk b hb hf];exact h
theorem GvOk.fr (h:GvOk w ps gs)(k:Fr F w w')(hf:∀ p ∈ ps,¬ F p.2.1):GvOk w' ps gs :=
 ⟨h.1,fun i hi hi'=>⟨(h.2 i hi hi').1,rdO_fr (h.2 i hi hi').2 k (hf _ (List.getElem_mem hi))⟩⟩
theorem fill_get {f:Nat}:∀ {gs:List (Nat × Bs)} {b:List Bs},gs.Pairwise (fun x y=>x.1<y.1)→(∀ q ∈ gs,f≤q.1∧q.1 - f<b.length)→∀ q ∈ gs,(Wit.fill f b gs).getD (q.1 - f) []=q.2
 | [],_,_,_,q,hq=>by cases hq
 | p::gs,b,hp,hb,q,hq=>by
  obtain⟨h1,h2⟩:=List.pairwise_cons.1 hp;have hbp:=hb p (by simp)
  rcases List.mem_cons.1 hq with rfl | hq
  ·have keep:∀ {gs:List (Nat × Bs)} {b:List Bs}, (∀ x ∈ gs, f≤x.1∧q.1<x.1)→q.1 ≥ f→(Wit.fill f b gs).getD (q.1 - f) []=b.getD (q.1 - f) []:=by
    intro gs
    induction gs with
    | nil=>intro b _ _;rfl
    | cons x gs ih =>
     intro b hx hq;show (Wit.fill f (b.set (x.1 - f) x.2) gs).getD _ _=_;have:=hx x (by simp);rw[ih (fun y hy=>hx y (by simp[hy])) hq,gDq,List.getElem?_set_ne (by omega),← gDq]
   show (Wit.fill f (b.set (q.1 - f) q.2) gs).getD _ _=_;rw[keep (fun x hx=>⟨(hb x (by simp[hx])).1,h1 x hx⟩) hbp.1,gDq,List.getElem?_set_self hbp.2];rfl
  ·exact fill_get (gs:=gs) (b:=b.set (p.1 - f) p.2) h2 (fun x hx=>by rw[List.length_set];exact hb x (by simp[hx])) q hq
theorem gvP_pair {f top:Nat}{bits:Bs}:∀ {n g:Nat} {bs:Bs} {p:List (Nat × Bs) × Bs},yP f top bits n g bs=some p→p.1.Pairwise (fun x y=>x.1<y.1)∧(∀ q ∈ p.1,g≤q.1)∧p.1.length≤n:=by
 intro n
 induction n with
 | zero=>intro g bs p h;simp only[yP,oSi]at h;subst h;simp
 | succ n ih =>
  intro g bs p h;simp only[yP]at h;split at h
  ·obtain⟨h1,h2,h3⟩:=ih h
   exact⟨h1,fun q hq=>by have:=h2 q hq;omega,by omega⟩
  ·split at h
   ·cases h
   ·obtain⟨q,hq,rfl⟩:=Option.map_eq_some_iff.1 h
    obtain⟨h1,h2,h3⟩:=ih hq;refine⟨List.pairwise_cons.2 ⟨fun x hx=>by have:=h2 x hx;show g<x.1;omega,h1⟩,fun x hx=>?_,by simp;omega⟩
    rcases List.mem_cons.1 hx with rfl | hx
    ·exact xP _
    ·have:=h2 x hx;omega
theorem nearP_gs {f top:Nat}(hf:f≤top)(ht:top≤256)(h:yR wd f top bs=some p) :
  p.2.1.length≤256∧∀ q ∈ p.2.1,f≤q.1∧q.1<top∧q.2.length=32∧p.1.getD (q.1 - f) []=q.2:=by
 have hok:=Wit.nearP_ok ht h;unfold yR at h;split at h
 ·cases h
 ·obtain⟨q,hq,rfl⟩:=Option.map_eq_some_iff.1 h
  obtain⟨h1,h2,h3⟩:=gvP_pair hq;refine⟨h3,fun x hx=>?_⟩;obtain⟨a,b,c⟩:=hok.2.2 x hx;refine⟨a,b,c,fill_get h1 (fun y hy=>?_) x hx⟩;have:=hok.2.2 y hy;rw[lTk,lDr,qQm];omega
theorem gps_ok {w0 w:World}{f top nb no:Nat}(hf:f≤top)(ht:top≤256)(h:yR wd f top bs=some p)(hn:NwD w0 w 23 nv p.1)(hv:0<top - f→∃ cap, nv=.slice (some ⟨nb, no, none⟩) (top - f) cap) :
  GvOk w (gps f nb no p.2.1) p.2.1∧∀ q ∈ gps f nb no p.2.1,qQb nv=some q.2.1:=by
 obtain⟨_,hg⟩:=nearP_gs hf ht h;have hok:=Wit.nearP_ok ht h;refine⟨⟨by simp[gps],fun i hi hi'=>?_⟩,fun q hq=>?_⟩
 ·have:=hg _ (List.getElem_mem hi')
  obtain⟨cap,rfl⟩:=hv (by omega);simp only[gps,List.getElem_map];refine⟨trivial,?_⟩;rw[← this.2.2.2];exact hn.rd.get agg23 sz23 (by rw[hok.1];omega)
 ·obtain⟨x,hx,rfl⟩:=List.mem_map.1 hq
  have:=hg x hx;obtain⟨cap,rfl⟩:=hv (by omega)
  rfl
theorem parse_len:∀ {n:Nat} {ks:List Bs} {top:Nat} {bs:Bs} {p:Wit.Tw × List (Nat × Bs) × Bs},Wit.Asc ks→0<ks.length→Wit.parse wd n ks top bs=some p→p.2.1.length+256≤512*ks.length:=by
 have hnl:∀ {f top:Nat} {bs:Bs} {p:List Bs × List (Nat × Bs) × Bs},yR wd f top bs=some p→p.2.1.length≤256:=by
  intro f top bs p h;unfold yR at h;split at h
  ·cases h
  ·obtain⟨q,hq,rfl⟩:=Option.map_eq_some_iff.1 h
   exact (gvP_pair hq).2.2
 intro n
 induction n with
 | zero=>intro ks top bs p _ _ h;cases h
 | succ n ih =>
  intro ks top bs p ha h0 h;simp only[Wit.parse]at h;split at h
  ·cases h
  split at h
  ·cases h
  rename_i hc;split at h
  ·rename_i h2
   have hl:2≤ks.length:=by
    by_cases hl:1<ks.length
    ·exact hl
    ·exact absurd (Or.inr fun e=>hl (e.1 h2)) hc
   obtain⟨a,h3,h⟩:=Option.bind_eq_some_iff.1 h;obtain⟨b,h4,h⟩:=Option.bind_eq_some_iff.1 h;obtain⟨c,h5,rfl⟩:=Option.map_eq_some_iff.1 h;have hlt:=Wit.lefts_lt ha hl;have hlp:=Wit.lefts_pos ha hl;have e1:=hnl h3;have e2:=ih (ha.take _) (by rw[lTk];omega) h4;have e3:=ih (ha.drop _) (by rw[lDr];omega) h5;rw[lTk]at e2;rw[lDr]at e3;simp only[lAp];omega
  ·obtain⟨a,h3,h⟩:=Option.bind_eq_some_iff.1 h
   obtain⟨b,h4,rfl⟩:=Option.map_eq_some_iff.1 h;have:=hnl h4;show b.2.1.length+256≤_;omega
end Go.V
