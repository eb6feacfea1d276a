/- Helpers. -/
import Derived.Test.YtppmpdjlmgfdkaaGreatDoorG11
import Derived.Test.YtppmpdjlmgfdkaaGreatDoorG16
import Derived.Test.YtppmpdjlmgfdkaaGreatDoorG26
import Derived.Test.YtppmpdjlmgfdkaaGreatDoorG21
import Derived.Test.YtppmpdjlmgfdkaaGreatDoorG17
import Derived.Test.YtppmpdjlmgfdkaaGreatDoorG22
set_option linter.all false
set_option maxRecDepth 100000
set_option maxHeartbeats 8000000
open BitVec renaming ofNat→zD,toNat_ofNat→zM,getLsbD_of_ge→vX,ofInt_natCast→xK,getLsbD_xor→xY,getLsbD_one→vZ,toNat_and→yU
open Bool renaming true_and→vJ,false_and→vK,bne_false→vV
open List renaming getElem?_eq_none→vW,getElem?_eq_getElem→zQ,getElem?_map→jR,append_assoc→zO,take_of_length_le→zT,map_append→vY,take_length→vU,getElem?_range→vG,append_nil→j6,range→zX,ext_getElem?→vF,range_succ→vH,length_set→jJ,length_map→zW,take_zero→jP,getElem?_append_right→jB,getElem?_append_left→zF
open Nat renaming reduceEqDiff→jY,zero_add→zB,mul_one→jU,le_refl→xT,zero_le→zE,div_div_eq_div_mul→vB
open Go.Value renaming cells→jH
namespace Go.V
open Go.Proofs.Tryz Go.V.Tryz
open Go.Proofs Sha
variable {a bs:Bs} {b i n o:Nat} {F G:Nat→Bool} {av bv v vv:Value} {w:World}
section
theorem NwB.setB {w0 w:World}{b o n cap:Nat}(h:NwB w0 w (.slice (some ⟨b, o, none⟩) n cap) bs)(hi:i<bs.length)(x:Byte) :
  ∃ w',wrO prog 5 w b (o+i) (u8 x)=some w'∧NwB w0 w' (.slice (some ⟨b,o,none⟩) n cap) (bs.set i x)∧Fr (fun c=>c=b) w w':=by
 obtain⟨hown,hnew⟩:=h;have hn:=By.len (Nw.rd ⟨hown,hnew⟩:By w _ bs);subst hn
 rcases hown with ⟨he,_⟩ | ⟨b',o',cap',c,he,hb,hc,hncap,hl,hat⟩
 ·cases he
 ·cases he
  refine⟨_,wr1 sz5 rfl hb (by omega),⟨.inr ⟨b,o,cap,c.setIfInBounds (o+i) (u8 x),by rw[jJ],qQd hb,by rw[Array.size_setIfInBounds];exact hc,by rw[jJ];exact hncap,by simp,fun j hj=>?_⟩,hnew⟩,(Fr.refl _ _).put (b:=b) _ fun _=>rfl⟩;rw[jJ]at hj;rw[Array.getElem?_setIfInBounds,List.map_set,List.getElem?_set,zW]
  by_cases h2:i=j
  ·subst h2
   rw[if_pos rfl,if_pos rfl,if_pos (by omega),if_pos hi]
  ·rw[if_neg (by omega),if_neg h2,hat j hj]
namespace R
open Aud
theorem by_rd (h:By w v bs)(hi:i<bs.length):∃ b o cap,v=.slice (some ⟨b,o,Option.none⟩) bs.length cap∧rdO prog 5 w b (o+i)=some (u8 (bs.getD i 0)):=by
 obtain⟨b,o,cap,rfl,_⟩:=h.pos (by omega);exact⟨b,o,cap,rfl,h.get agg5 hi⟩
theorem u8mod (v:Nat):IntKind.u8.wrap ((v:Int).tmod 256)=((zD 8 v).toNat:Int):=by
 have e:(v:Int).tmod 256=((v % 256:Nat):Int):=rfl;rw[e,zM,wrap_u8];omega
def l5I (w0:World)(v n:Nat)(m:Nat)(vs:List Value)(w:World):Prop :=
 ∃ (i:Nat) (x:Nat) (lv:Value),vs=[.int .i64 (x:Nat),.int .i64 (n:Nat),lv,.int .i64 (i:Nat)]∧i≤n∧m=n - i∧(∃ l:Bs,NwB w0 w lv l∧l.length=i∧l++leB (n - i) x=leB n v)∧No w0 w∧x<2 ^ 62
theorem laid5 (w0:World)(v n:Nat)(hv:v<2 ^ 62)(hn:n≤8):Fn prog 63 #[.int .i64 (v:Nat),.int .i64 (n:Nat)] w0 fun r w'=>NwB w0 w' r (leB n v)∧No w0 w':=by
 refine go63 (by simp) ?_;simp -implicitDefEqProofs only[go_sem,zB,Tryz.f63];refine loopD [0,1,5,6] (l5I w0 v n) n ⟨0,v,.slice .none 0 0,rfl,zE _,rfl,⟨[],NwB.nil _ _,rfl,rfl⟩,Fr.refl _ _,hv⟩ ?_;rintro _ vs w3 g ⟨i,x,lv,rfl,hi,rfl,⟨l,b3,hl,hle⟩,f3,hx⟩
 by_cases hlt:i<n
 ·have d1:=dTo ((i:Int)<(n:Int))
  have c1:=iSu (i:=i)
  have c2:IntKind.i64.wrap ((x:Int).tdiv 256)=((x / 256:Nat):Int):=by
   have e:(x:Int).tdiv 256=((x / 256:Nat):Int):=rfl;rw[e,qQm (by omega) (by omega)]
  have n0:((256:Int)=0)=False:=by simp
  have c3:=u8mod x;obtain⟨v4,w4,hr4,b4,f4,g4,_⟩:=NwB.grow b3 (zD 8 x) (by omega) f3;simp -implicitDefEqProofs only[go_sem,jY,jH,zB,d1,n0,if_false,c3];refine qQp (v:=.slice (some ⟨w3.heap.size,0,none⟩) 1 1) (w':=w3.alloc (.cells (bl [zD 8 x]) 5)) rfl ?_;simp -implicitDefEqProofs only[go_sem,jY];refine qQj ⟨v4,w4,hr4,?_⟩;simp -implicitDefEqProofs only[go_sem,jY,n0,if_false,c1,c2];refine⟨n - (i+1),by omega,i+1,x / 256,v4,rfl,by omega,rfl,⟨_,b4,by rw[lAp,hl];rfl,?_⟩,f4,by omega⟩;rw[← hle,show n - i=n - (i+1)+1 by omega,zO]
  rfl
 ·have d1:=dFo ((i:Int)<(n:Int))
  simp -implicitDefEqProofs only[go_sem,jY,d1];have:n - i=0:=by omega
  rw[this,show leB 0 x=[] from rfl,j6]at hle;rw[← hle];exact⟨b3,f3⟩
def j5I (w0:World)(c:List Value)(xs bs:Bs)(n:Nat)(vs:List Value)(w:World):Prop :=
 ∃ (i:Nat) (v:Value),vs=c++[v,.int .i64 (i:Nat)]∧i≤bs.length∧n=bs.length - i∧NwB w0 w v (xs++bs.take i)∧No w0 w
theorem joined5 (w0:World)(ha:By w0 av a)(hv:By w0 vv bs)(hla:a.length≤2 ^ 40)(hl:bs.length≤2 ^ 40):Fn prog 62 #[av,vv] w0 fun v w'=>NwB w0 w' v (a++bs)∧No w0 w':=by
 refine go62 (by simp) ?_;obtain⟨va,vc,rfl,hcap⟩:=hv.slice;obtain⟨aa,ac,rfl,hcapa⟩:=ha.slice;simp -implicitDefEqProofs only[go_sem,zB,Tryz.f62];refine loopD [0,1,5,6] (j5I w0 [.slice aa a.length ac,.slice va bs.length vc] [] a) a.length ⟨0,.slice .none 0 0,rfl,by omega,rfl,NwB.nil _ _,Fr.refl _ _⟩ ?_;rintro _ vs w3 g ⟨i,v,rfl,hi,rfl,b3,f3⟩
 by_cases hlt:i<a.length
 ·have d1:=dTo ((i:Int)<((a.length:Nat):Int))
  have c1:=iSu (i:=i);have y:=iBd (i:=i) (n:=a.length);obtain⟨b,o,cap,he,r⟩:=by_rd (ha.fr0 f3) hlt;cases he;have hsn:=qXw (l:=a) (i:=i) hlt;obtain⟨v4,w4,hr4,b4,f4,g4,_⟩:=NwB.grow b3 (a.getD i 0) (by simp;omega) f3;rw[zO,hsn]at b4;generalize a.getD i 0=x at *;simp -implicitDefEqProofs only[go_sem,jY,gLa,gLz,jH,zB,y,and_self,iTn,jU,r];refine qQp (v:=.slice (some ⟨w3.heap.size,0,none⟩) 1 1) (w':=w3.alloc (.cells (bl [x]) 5)) rfl ?_;simp -implicitDefEqProofs only[go_sem,jY];refine qQj ⟨v4,w4,hr4,?_⟩;simp -implicitDefEqProofs only[go_sem,jY,c1];exact⟨a.length - (i+1),by omega,i+1,v4,rfl,by omega,rfl,b4,f4⟩
 ·have d1:=dFo ((i:Int)<((a.length:Nat):Int))
  have e:i=a.length:=by omega
  subst e;rw[vU,List.nil_append]at b3;simp -implicitDefEqProofs only[go_sem,jY,gLa,gLz,d1];refine loopD [1,5,7] (j5I w0 [.slice va bs.length vc] a bs) bs.length ⟨0,v,rfl,by omega,rfl,by rw[jP,j6];exact b3,f3⟩ ?_;clear b3 f3;rintro _ vs w3 g ⟨i,v,rfl,hi,rfl,b3,f3⟩
  by_cases hlt:i<bs.length
  ·have d1:=dTo ((i:Int)<((bs.length:Nat):Int))
   have c1:=iSu (i:=i);have y:=iBd (i:=i) (n:=bs.length);obtain⟨b,o,cap,he,r⟩:=by_rd (hv.fr0 f3) hlt;cases he;have hsn:=qXw (l:=bs) (i:=i) hlt;obtain⟨v4,w4,hr4,b4,f4,g4,_⟩:=NwB.grow b3 (bs.getD i 0) (by simp;omega) f3;rw[zO,hsn]at b4;generalize bs.getD i 0=x at *;simp -implicitDefEqProofs only[go_sem,jY,gLa,gLz,jH,zB,y,and_self,iTn,jU,r];refine qQp (v:=.slice (some ⟨w3.heap.size,0,none⟩) 1 1) (w':=w3.alloc (.cells (bl [x]) 5)) rfl ?_;simp -implicitDefEqProofs only[go_sem,jY];refine qQj ⟨v4,w4,hr4,?_⟩;simp -implicitDefEqProofs only[go_sem,jY,c1];exact⟨bs.length - (i+1),by omega,i+1,v4,rfl,by omega,rfl,b4,f4⟩
  ·have d1:=dFo ((i:Int)<((bs.length:Nat):Int))
   have e:i=bs.length:=by omega
   subst e;rw[vU]at b3;simp -implicitDefEqProofs only[go_sem,jY,gLa,gLz,d1];exact⟨b3,f3⟩
def f5I (w0:World)(av:Value)(n:Nat)(a:Bs)(m:Nat)(vs:List Value)(w:World):Prop :=
 ∃ (i:Nat) (v:Value),vs=[av,.int .i64 (n:Nat),v,.int .i64 (i:Nat)]∧i≤n∧m=n - i∧NwB w0 w v ((zX i).map fun j=>a.getD j 0)∧No w0 w
theorem padTo_map:(zX n).map (fun j=>a.getD j 0)=(padTo 0 n a).take n:=by
 apply vF;intro i;unfold padTo;rw[jR,List.getElem?_take]
 by_cases h:i<n
 ·rw[if_pos h,vG h]
  show some (a.getD i 0)=_;rw[gDq]
  by_cases h2:i<a.length
  ·rw[zF h2,zQ h2];rfl
  ·rw[vW (by omega),jB (by omega),List.getElem?_replicate,if_pos (by omega)];rfl
 ·rw[if_neg h,vW (by simp;omega)];rfl
theorem filled5 (w0:World)(ha:By w0 av a)(hn:n≤2 ^ 40)(hl:a.length≤n):Fn prog 64 #[av,.int .i64 (n:Nat)] w0 fun v w'=>NwB w0 w' v (padTo 0 n a)∧No w0 w':=by
 refine go64 (by simp) ?_;obtain⟨aa,ac,rfl,hcapa⟩:=ha.slice;simp -implicitDefEqProofs only[go_sem,zB,Tryz.f64];refine loopD [0,1,5,6] (f5I w0 (.slice aa a.length ac) n a) n ⟨0,.slice .none 0 0,rfl,by omega,rfl,NwB.nil _ _,Fr.refl _ _⟩ ?_;rintro _ vs w3 g ⟨i,v,rfl,hi,rfl,b3,f3⟩
 by_cases hlt:i<n
 ·have d1:=dTo ((i:Int)<(n:Int))
  have c1:=iSu (i:=i);have hsn:((zX i).map fun j=>a.getD j 0)++[a.getD i 0]=(zX (i+1)).map fun j=>a.getD j 0:=by rw[vH,vY];rfl
  obtain⟨v4,w4,hr4,b4,f4,g4,_⟩:=NwB.grow b3 (a.getD i 0) (by simp;omega) f3;rw[hsn]at b4
  by_cases hla:i<a.length
  ·have d2:=dTo ((i:Int)<((a.length:Nat):Int))
   have y:=iBd (i:=i) (n:=a.length);obtain⟨b,o,cap,he,r⟩:=by_rd (ha.fr0 f3) hla;cases he;generalize a.getD i 0=x at *;simp -implicitDefEqProofs only[go_sem,jY,gLa,gLz,jH,zB,d1,y,and_self,iTn,jU,r];refine qQp (v:=.slice (some ⟨w3.heap.size,0,none⟩) 1 1) (w':=w3.alloc (.cells (bl [x]) 5)) rfl ?_;simp -implicitDefEqProofs only[go_sem,jY];refine qQj ⟨v4,w4,hr4,?_⟩;simp -implicitDefEqProofs only[go_sem,jY,c1];exact⟨n - (i+1),by omega,i+1,v4,rfl,by omega,rfl,b4,f4⟩
  ·have d2:=dFo ((i:Int)<((a.length:Nat):Int))
   have e0:a.getD i 0=0:=by rw[gDq,vW (by omega)];rfl
   rw[e0]at hr4;simp -implicitDefEqProofs only[go_sem,jY,gLa,gLz,jH,zB,d1,d2];refine qQp (v:=.slice (some ⟨w3.heap.size,0,none⟩) 1 1) (w':=w3.alloc (.cells (bl [0]) 5)) rfl ?_;simp -implicitDefEqProofs only[go_sem,jY];refine qQj ⟨v4,w4,hr4,?_⟩;simp -implicitDefEqProofs only[go_sem,jY,c1];exact⟨n - (i+1),by omega,i+1,v4,rfl,by omega,rfl,b4,f4⟩
 ·have d1:=dFo ((i:Int)<(n:Int))
  have e:i=n:=by omega
  subst e;rw[padTo_map,zT (by rw[qZb hl];exact xT _)]at b3;simp -implicitDefEqProofs only[go_sem,jY,d1];exact⟨b3,f3⟩
end R
end
section
namespace R
open Aud
abbrev b2 (b:Bool):Byte:=if b then 1 else 0
def divL:List Bool:=[true,false,false,false,false,false,true,false,false,true,true,false,false,false,false,false,true,false,false,false,true,true,true,false,true,true,false,true,true,false,true,true,true]
theorem divL_bit (t:Nat)(ht:t<32):divL.getD (t+1) false=crcG.getLsbD t:=by
 have:∀ t:Fin 32,divL.getD (t.val+1) false=crcG.getLsbD t.val:=by decide
 exact this ⟨t,ht⟩
def regP (start:W32)(ms:List Bool)(i:Nat):W32:=(ms.take i).foldl qZo start
theorem regP_succ (start:W32)(ms:List Bool)(h:i<ms.length):regP start ms (i+1)=step1 (regP start ms i ^^^ (if ms.getD i false then 1 else 0)):=by
 unfold regP;rw[List.take_succ,List.foldl_append,gDq,zQ h]
 rfl
def lsF (n:Nat)(F:Nat→Bool):Bs:=(zX n).map fun t=>b2 (F t)
theorem qZc (n:Nat)(F:Nat→Bool):(lsF n F).length=n:=by simp[lsF]
theorem lsF_at {t:Nat}(h:t<n):(lsF n F).getD t 0=b2 (F t):=by
 unfold lsF;rw[gDq,jR,vG h];rfl
theorem lsF_set {x:Byte}(hi:i<n)(hx:x=b2 (G i))(h:∀ t,t<n→t≠i→G t=F t):(lsF n F).set i x=lsF n G:=by
 apply vF;intro t;unfold lsF;rw[List.getElem?_set,jR,jR,zW,List.length_range]
 by_cases e:i=t
 ·subst e;rw[if_pos rfl,if_pos hi,vG hi,hx];rfl
 ·rw[if_neg e]
  by_cases ht:t<n
  ·rw[vG ht];show some (b2 (F t))=some (b2 (G t));rw[h t ht fun e'=>e e'.symm]
  ·rw[vW (by simp;omega)];rfl
theorem lsF_ext (h:∀ t,t<n→F t=G t):lsF n F=lsF n G:=by
 unfold lsF;exact List.map_congr_left fun t ht=>by rw[h t (List.mem_range.1 ht)]
theorem bit8 (x:Byte)(j:Nat)(hj:j<8):andK .u8 (shrK .u8 (x.toNat:Int) (j:Int)) 1=((b2 (x.getLsbD j)).toNat:Int):=by
 rw[shr8i _ _ (by omega)];have hx:=x.isLt;have hd:x.toNat / 2 ^ j<256:=Nat.lt_of_le_of_lt (Nat.div_le_self _ _) hx;have e:andK .u8 ((x.toNat / 2 ^ j:Nat):Int) 1=IntKind.u8.wrap (((BitVec.ofInt 8 ((x.toNat / 2 ^ j:Nat):Int) &&& BitVec.ofInt 8 ((1:Nat):Int)).toNat:Nat):Int):=rfl;rw[e,xK,xK,yU,zM,zM,Nat.mod_eq_of_lt (by omega),Nat.mod_eq_of_lt (by decide),Nat.and_one_is_mod,wrap_u8]
 have hb:x.getLsbD j=decide (x.toNat / 2 ^ j % 2=1):=by
  show x.toNat.testBit j=_;rw[Nat.testBit_eq_decide_div_mod_eq]
 rw[hb]
 by_cases h:x.toNat / 2 ^ j % 2=1
 ·rw[decide_eq_true h,h];rfl
 ·rw[decide_eq_false h]
  have:x.toNat / 2 ^ j % 2=0:=by omega
  rw[this];rfl
theorem u64id (j:Nat)(h:j<2 ^ 62):IntKind.u64.wrap (j:Int)=(j:Int):=by
 rw[qJz];omega
def bsI (w0:World)(bv:Value)(bs:Bs)(n:Nat)(vs:List Value)(w:World):Prop :=
 ∃ (i:Nat) (v:Value),vs=[bv,v,.int .i64 (i:Nat)]∧i≤bs.length∧n=bs.length - i∧NwB w0 w v ((qZv (bs.take i)).map b2)∧No w0 w
def bsJ (w0:World)(bv:Value)(bs:Bs)(i:Nat)(n:Nat)(vs:List Value)(w:World):Prop :=
 ∃ (j:Nat) (v:Value),vs=[bv,v,.int .i64 (i:Nat),.int .i64 (j:Nat)]∧j≤8∧n=8 - j∧NwB w0 w v ((qZv (bs.take i)++(zX j).map (bs.getD i 0).getLsbD).map b2)∧No w0 w
theorem bits2 (w0:World)(hv:By w0 bv bs)(hl:bs.length≤2 ^ 30):Fn prog 173 #[bv] w0 fun v w'=>NwB w0 w' v ((qZv bs).map b2)∧No w0 w':=by
 refine go173 (by simp) ?_;obtain⟨va,vc,rfl,hcap⟩:=hv.slice;simp -implicitDefEqProofs only[go_sem,Tryz.f173];refine loopD [0,3,4] (bsI w0 (.slice va bs.length vc) bs) bs.length ⟨0,.slice .none 0 0,rfl,by omega,rfl,NwB.nil _ _,Fr.refl _ _⟩ ?_;rintro _ vs w3 g ⟨i,v,rfl,hi,rfl,b3,f3⟩
 by_cases hlt:i<bs.length
 ·have d1:=dTo ((i:Int)<((bs.length:Nat):Int))
  have c1:=iSu (i:=i);simp -implicitDefEqProofs only[go_sem,jY,gLa,gLz,d1];refine loopD [0,3,4,5] (bsJ w0 (.slice va bs.length vc) bs i) 8 ⟨0,v,rfl,by omega,rfl,by rw[List.range_zero,List.map_nil,j6];exact b3,f3⟩ ?_;clear b3 f3;rintro _ vs w3 g ⟨j,v,rfl,hj,rfl,b3,f3⟩
  by_cases hjl:j<8
  ·have d2:=dTo ((j:Int)<8)
   have c2:=iSu (i:=j);have c3:=u64id j (by omega);have y:=iBd (i:=i) (n:=bs.length);obtain⟨b,o,cap,he,r⟩:=by_rd (hv.fr0 f3) hlt;cases he;have hbl:(qZv (bs.take i)).length=8*i:=by rw[allBits_len,lTk];omega
   obtain⟨v4,w4,hr4,b4,f4,g4,_⟩:=NwB.grow b3 (b2 ((bs.getD i 0).getLsbD j)) (by simp[hbl];omega) f3
   have e4:(qZv (bs.take i)++(zX j).map (bs.getD i 0).getLsbD).map b2++[b2 ((bs.getD i 0).getLsbD j)]=(qZv (bs.take i)++(zX (j+1)).map (bs.getD i 0).getLsbD).map b2:=by
    rw[vH,vY,vY,vY,vY,zO];rfl
   rw[e4]at b4;have c4:=bit8 (bs.getD i 0) j hjl;generalize (bs.getD i 0).getLsbD j=xb at hr4 c4;generalize bs.getD i 0=x at r c4;have nj:((j:Int)<0)=False:=by simp
   simp -implicitDefEqProofs only[go_sem,jY,jH,zB,d2,y,and_self,iTn,jU,r,c3,nj,if_false,c4];refine qQp (v:=.slice (some ⟨w3.heap.size,0,none⟩) 1 1) (w':=w3.alloc (.cells (bl [b2 xb]) 5)) rfl ?_;simp -implicitDefEqProofs only[go_sem,jY];refine qQj ⟨v4,w4,hr4,?_⟩;simp -implicitDefEqProofs only[go_sem,jY,c2];exact⟨8 - (j+1),by omega,j+1,v4,rfl,by omega,rfl,b4,f4⟩
  ·have d2:=dFo ((j:Int)<8)
   have hj8:j=8:=by omega
   subst hj8;simp -implicitDefEqProofs only[go_sem,jY,d2,c1];refine⟨bs.length - (i+1),by omega,i+1,v,rfl,by omega,rfl,?_,f3⟩
   have e5:qZv (bs.take (i+1))=qZv (bs.take i)++(zX 8).map (bs.getD i 0).getLsbD:=by
    rw[← qXw hlt];unfold qZv;rw[vY,List.flatten_append];show _++(bitsOf (bs.getD i 0)++[])=_;rw[j6];rfl
   rw[e5];exact b3
 ·have d1:=dFo ((i:Int)<((bs.length:Nat):Int))
  have e:i=bs.length:=by omega
  subst e;rw[vU]at b3;simp -implicitDefEqProofs only[go_sem,jY,gLa,gLz,d1];exact⟨b3,f3⟩
def DivT (w:World):Prop:=∀ i,i<33→rc w 1 i=some (u8 (b2 (divL.getD i false)))
theorem DivT.no {w w':World}(h:DivT w)(k:No w w'):DivT w':=fun i hi=>by rw[k.rc (rc_lt (h i hi)) id];exact h i hi
def dv1 (w0:World)(start:W32)(k:Nat)(F:Nat→Bool)(n:Nat)(vs:List Value)(w:World):Prop :=
 ∃ (i:Nat) (v:Value),vs=[u32 start,v,.int .i64 (k:Nat),.int .i64 (i:Nat)]∧i≤32∧n=32 - i∧NwB w0 w v (lsF (k+i) F)∧No w0 w
def dv2 (w0:World)(start:W32)(k:Nat)(F:Nat→Bool)(n:Nat)(vs:List Value)(w:World):Prop :=
 ∃ (i:Nat) (v:Value),vs=[u32 start,v,.int .i64 (k:Nat),.int .i64 (i:Nat)]∧i≤32∧n=32 - i∧NwB w0 w v (lsF (k+32) fun t=>F t != (decide (t<i) && start.getLsbD t))∧No w0 w
def dv3 (w0:World)(start:W32)(ms:List Bool)(n:Nat)(vs:List Value)(w:World):Prop :=
 ∃ (i:Nat) (v:Value) (F:Nat→Bool),vs=[v,.int .i64 (ms.length:Nat),.int .i64 (i:Nat)]∧i≤ms.length∧n=ms.length - i∧NwB w0 w v (lsF (ms.length+32) F)∧No w0 w∧∀ t,i≤t→t<ms.length+32→F t=(ms.getD t false != (regP start ms i).getLsbD (t - i))
def dv4 (w0:World)(k i:Nat)(F:Nat→Bool)(n:Nat)(vs:List Value)(w:World):Prop :=
 ∃ (j:Nat) (v:Value),vs=[v,.int .i64 (k:Nat),.int .i64 (i:Nat),.int .i64 (j:Nat)]∧j≤33∧n=33 - j∧NwB w0 w v (lsF (k+32) fun t=>F t != (decide (i≤t∧t<i+j) && divL.getD (t - i) false))∧No w0 w
def dv5 (w0:World)(v:Value)(k:Nat)(R:W32)(N q o cap:Nat)(F:Nat→Bool)(n:Nat)(vs:List Value)(w:World):Prop :=
 ∃ (i:Nat) (x:W32),vs=[v,.int .i64 (k:Nat),u32 x,.int .i64 (i:Nat)]∧i≤32∧n=32 - i∧(∀ t,x.getLsbD t=(decide (t<i) && R.getLsbD t))∧No w0 w∧NwB w0 w v (lsF N F)
theorem b2_xor (a b:Bool):b2 a ^^^ b2 b=b2 (a != b):=by cases a <;> cases b <;> rfl
theorem ext8b (b:Bool):IntKind.u32.wrap ((b2 b).toNat:Int)=((if b then (1:W32) else 0).toNat:Int):=by cases b <;> rfl
theorem and32_1 (x:W32):andK .u32 (x.toNat:Int) 1=((x &&& 1#32).toNat:Int):=and32n x 1
theorem low1 (x:W32):(x &&& 1#32).setWidth 8=b2 (x.getLsbD 0):=by
 refine BitVec.eq_of_toNat_eq ?_;rw[BitVec.toNat_setWidth,yU,show (1#32).toNat=1 from rfl,Nat.and_one_is_mod]
 have hb:x.getLsbD 0=decide (x.toNat % 2=1):=by
  show x.toNat.testBit 0=_;rw[Nat.testBit_zero]
 rw[hb]
 by_cases h:x.toNat % 2=1
 ·rw[decide_eq_true h,h];rfl
 ·rw[decide_eq_false h]
  have:x.toNat % 2=0:=by omega
  rw[this];rfl
theorem div_next {start:W32}{ms:List Bool}(hi:i<ms.length)(hF:∀ t, i≤t→t<ms.length+32→F t=(ms.getD t false != (regP start ms i).getLsbD (t - i))):∀ t, i+1≤t→t<ms.length+32 →
  (F t != (F i && (decide (i≤t∧t<i+33) && divL.getD (t - i) false)))=(ms.getD t false != (regP start ms (i+1)).getLsbD (t - (i+1))):=by
 intro t h1 h2;rw[hF t (by omega) h2,hF i (xT _) (by omega),Nat.sub_self,regP_succ start ms hi];generalize regP start ms i=R
 obtain⟨s,rfl⟩:∃ s,t=i+1+s:=⟨t - (i+1),by omega⟩
 rw[show i+1+s - i=s+1 by omega,show i+1+s - (i+1)=s by omega];generalize ms.getD i false=m;generalize ms.getD (i+1+s) false=m'
 have b0:(R ^^^ (if m then (1:W32) else 0)).getLsbD 0=(m != R.getLsbD 0):=by
  rw[xY]
  cases m <;> cases R.getLsbD 0 <;> rfl
 by_cases hs:s<32
 ·have b1:(R ^^^ (if m then (1:W32) else 0)).getLsbD (s+1)=R.getLsbD (s+1):=by
   rw[xY]
   have:(if m then (1:W32) else 0).getLsbD (s+1)=false:=by
    cases m
    ·simp
    ·show (1#32).getLsbD (s+1)=false
     rw[vZ];simp
   rw[this,Bool.xor_false]
  rw[qZi hs,b0,b1,decide_eq_true (by omega),vJ,divL_bit s hs];generalize R.getLsbD (s+1)=x;generalize R.getLsbD 0=y;generalize crcG.getLsbD s=z
  cases m <;> cases m' <;> cases x <;> cases y <;> cases z <;> rfl
 ·rw[vX _ (s+1) (by omega),vX _ s (by omega),decide_eq_false (by omega),vK,Bool.and_false,vV,vV]
theorem divide (w0:World)(ht:DivT w0)(start:W32)(hv:By w0 bv bs)(hl:bs.length≤2 ^ 30):Fn prog 145 #[u32 start,bv] w0 fun v w'=>v=u32 (qJu start bs)∧No w0 w':=by
 refine go145 (by simp) ?_;simp -implicitDefEqProofs only[go_sem,jY,zB,Tryz.f145];refine qQa pl173 ((bits2 w0 hv hl).mono ?_);rintro lv w1 ⟨b1,f1⟩;have hml:=allBits_len bs;rw[crcFeed_bits];generalize qZv bs=ms at *
 have e1:ms.map b2=lsF ms.length fun t=>ms.getD t false:=by
  apply vF;intro t;unfold lsF;rw[jR,jR]
  by_cases h:t<ms.length
  ·rw[vG h,zQ h]
   show _=some (b2 (ms.getD t false));rw[gDq,zQ h];rfl
  ·rw[vW (by omega),vW (by simp;omega)];rfl
 rw[e1]at b1;obtain⟨la,lc,rfl⟩:=b1.slice;rw[qZc]at b1 ⊢;simp -implicitDefEqProofs only[go_sem,gLa,gLz];refine loopD [0,5,6,7] (dv1 w0 start ms.length fun t=>ms.getD t false) 32 ⟨0,_,rfl,by omega,rfl,b1,f1⟩ ?_;clear b1 f1;rintro _ vs w3 g ⟨i,v,rfl,hi,rfl,b3,f3⟩
 by_cases hlt:i<32
 ·have d1:=dTo ((i:Int)<32)
  have c1:=iSu (i:=i);obtain⟨v4,w4,hr4,b4,f4,g4,_⟩:=NwB.grow b3 0 (by rw[qZc];omega) f3
  have e2:(lsF (ms.length+i) fun t=>ms.getD t false)++[0]=lsF (ms.length+(i+1)) fun t=>ms.getD t false:=by
   unfold lsF;rw[← Nat.add_assoc,vH,vY]
   show _++[0]=_++[b2 (ms.getD (ms.length+i) false)]
   rw[gDq,vW (by omega)];rfl
  rw[e2]at b4;simp -implicitDefEqProofs only[go_sem,jY,jH,zB,d1];refine qQp (v:=.slice (some ⟨w3.heap.size,0,none⟩) 1 1) (w':=w3.alloc (.cells (bl [0]) 5)) rfl ?_;simp -implicitDefEqProofs only[go_sem,jY];refine qQj ⟨v4,w4,hr4,?_⟩;simp -implicitDefEqProofs only[go_sem,jY,c1];exact⟨32 - (i+1),by omega,i+1,v4,rfl,by omega,rfl,b4,f4⟩
 ·have d1:=dFo ((i:Int)<32)
  have e:i=32:=by omega
  subst e;simp -implicitDefEqProofs only[go_sem,jY,d1];refine loopD [0,5,6,8] (dv2 w0 start ms.length fun t=>ms.getD t false) 32 ⟨0,v,rfl,by omega,rfl,by rw[lsF_ext (G:=fun t=>ms.getD t false) fun t _=>by simp];exact b3,f3⟩ ?_;clear b3 f3;rintro _ vs w3 g ⟨i,v,rfl,hi,rfl,b3,f3⟩;obtain⟨q,o,cap,rfl,hcap⟩:=b3.by.pos (by rw[qZc];omega)
  have hrd:=b3.by
  rw[qZc]at hcap
  by_cases hlt:i<32
  ·have d1:=dTo ((i:Int)<32)
   have c1:=iSu (i:=i);have c3:=u64id i (by omega);have y:=iBd (i:=i) (n:=ms.length+32);have r:=hrd.get (P:=prog) agg5 (i:=i) (by rw[qZc];omega);rw[lsF_at (by omega)]at r;obtain⟨w4,q4,b4,f4⟩:=b3.setB (i:=i) (by rw[qZc];omega) (b2 ((ms.getD i false != (decide (i<i) && start.getLsbD i)) != start.getLsbD i));rw[lsF_set (G:=fun t=>ms.getD t false != (decide (t<i+1) && start.getLsbD t)) (by omega) (by simp) (fun t _ hne=>by simp only[show (t<i+1)=(t<i) from propext (by omega)])]at b4;have nj:((i:Int)<0)=False:=by simp
   have s1:=shr32 start i (by omega);have s2:=and32_1 (start >>> i);have s3:IntKind.u8.wrap ((start >>> i &&& 1#32).toNat:Int)=((b2 (start.getLsbD i)).toNat:Int):=by rw[cut32,low1,BitVec.getLsbD_ushiftRight,Nat.add_zero]
   have s4:=xor8 (b2 (ms.getD i false != (decide (i<i) && start.getLsbD i))) (b2 (start.getLsbD i));rw[b2_xor]at s4;rw[qZc]at hrd b3 b4 ⊢;simp -implicitDefEqProofs only[go_sem,jY,d1,y,and_self,iTn,jU,r,c3,nj,if_false,s1,s2,s3,s4,q4,c1];exact⟨32 - (i+1),by omega,i+1,_,rfl,by omega,rfl,b4,f3.trans' f4 fun b hb e=>by have hq:w0.heap.size≤q:=Nw.new b3 q rfl;subst e;omega⟩
  ·have d1:=dFo ((i:Int)<32)
   have e:i=32:=by omega
   subst e;simp -implicitDefEqProofs only[go_sem,jY,d1];refine loopD [5,6,9] (dv3 w0 start ms) ms.length ⟨0,_,_,rfl,zE _,rfl,b3,f3,fun t _ ht=>?_⟩ ?_
   ·show (ms.getD t false != (decide (t<32) && start.getLsbD t))=(ms.getD t false != start.getLsbD (t - 0))
    rw[Nat.sub_zero]
    by_cases h:t<32
    ·rw[decide_eq_true h,vJ]
    ·rw[decide_eq_false h,vK,vX _ _ (by omega)]
   clear b3 f3 hrd;rintro _ vs w3 g ⟨i,v,F,rfl,hi,rfl,b3,f3,hF⟩;obtain⟨q,o,cap,rfl,hcap⟩:=b3.by.pos (by rw[qZc];omega)
   have hrd:=b3.by
   rw[qZc]at hcap
   by_cases hlt:i<ms.length
   ·have d1:=dTo ((i:Int)<(ms.length:Int))
    have c1:=iSu (i:=i);have y:=iBd (i:=i) (n:=ms.length+32);have r:=hrd.get (P:=prog) agg5 (i:=i) (by rw[qZc];omega);rw[lsF_at (by omega)]at r
    have ce:(((b2 (F i)).toNat:Int) == 1)=F i:=by cases F i <;> rfl
    have hnx:=div_next hlt hF;rw[qZc]at hrd b3 ⊢;simp -implicitDefEqProofs only[go_sem,jY,d1,y,and_self,iTn,jU,r,ce]
    cases hFi:F i with
    | false =>
     simp -implicitDefEqProofs only[go_sem,c1];refine⟨ms.length - (i+1),by omega,i+1,_,F,rfl,by omega,rfl,b3,f3,fun t h1 h2=>?_⟩;have:=hnx t h1 h2;rw[hFi,vK,vV]at this;exact this
    | true =>
     simp -implicitDefEqProofs only[go_sem];refine loopD [5,6,9,10] (dv4 w0 ms.length i F) 33 ⟨0,_,rfl,zE _,rfl,by rw[lsF_ext (G:=F) fun t _=>by rw[decide_eq_false (by omega)];simp];exact b3,f3⟩ ?_;clear b3 f3 hrd r;rintro _ vs w3 g ⟨j,v,rfl,hj,rfl,b3,f3⟩;obtain⟨q,o,cap,rfl,hcap⟩:=b3.by.pos (by rw[qZc];omega)
     by_cases hjl:j<33
     ·have d2:=dTo ((j:Int)<33)
      have c2:=iSu (i:=j);have c4:IntKind.i64.wrap ((i:Int)+(j:Int))=((i+j:Nat):Int):=qXi;have y4:(0:Int)≤((i+j:Nat):Int)∧((i+j:Nat):Int)<((ms.length+32:Nat):Int):=by omega
      have y5:=iBd (i:=j) (n:=33);have r:=b3.by.get (P:=prog) agg5 (i:=i+j) (by rw[qZc];omega)
      rw[lsF_at (by omega),decide_eq_false (by omega),vK,vV]at r;have rg:rdO prog 5 w3 1 j=some (u8 (b2 (divL.getD j false))):=rd_rc agg5 (ht.no f3 j hjl);have b3d:=b3.fr0 (Fr.refl _ _).drew;obtain⟨w4,q4,b4,f4⟩:=b3d.setB (i:=i+j) (by rw[qZc];omega) (b2 (F (i+j) != divL.getD j false));rw[lsF_set (G:=fun t=>F t != (decide (i≤t∧t<i+(j+1)) && divL.getD (t - i) false)) (by omega) (by rw[decide_eq_true (by omega),vJ,show i+j - i=j by omega]) (fun t _ hne=>by simp only[show (i≤t∧t<i+(j+1))=(i≤t∧t<i+j) from propext (by omega)])]at b4;have s4:=xor8 (b2 (F (i+j))) (b2 (divL.getD j false));rw[b2_xor]at s4;have hq:w0.heap.size≤q:=Nw.new b3 q rfl;have fd:=f3.drew;rw[qZc]at b3 b4 ⊢;simp -implicitDefEqProofs only[go_sem,jY,zB,d2,c4,y4,y5,and_self,iTn,jU,r,rg,s4,q4,c2];exact⟨33 - (j+1),by omega,j+1,_,rfl,by omega,rfl,b4,fd.trans' f4 fun b hb e=>by subst e;omega⟩
     ·have d2:=dFo ((j:Int)<33)
      have e:j=33:=by omega
      subst e;simp -implicitDefEqProofs only[go_sem,jY,d2,c1];refine⟨ms.length - (i+1),by omega,i+1,_,_,rfl,by omega,rfl,b3,f3,fun t h1 h2=>?_⟩;have:=hnx t h1 h2;rw[hFi,vJ]at this;exact this
   ·have d1:=dFo ((i:Int)<(ms.length:Int))
    have e:i=ms.length:=by omega
    subst e;have hR:regP start ms ms.length=ms.foldl qZo start:=by unfold regP;rw[vU]
    rw[hR]at hF;generalize ms.foldl qZo start=R at *;rw[qZc]at b3 hrd ⊢;simp -implicitDefEqProofs only[go_sem,jY,d1];refine loopD [5,6,11,12] (dv5 w0 (.slice (some ⟨q,o,.none⟩) (ms.length+32) cap) ms.length R (ms.length+32) q o cap F) 32 ⟨0,0,rfl,zE _,rfl,fun t=>by simp,f3,b3⟩ ?_;clear b3 f3 hrd;rintro _ vs w3 g ⟨i,x,rfl,hi,rfl,hx,f3,b3⟩
    by_cases hil:i<32
    ·have d2:=dTo ((i:Int)<32)
     have c2:=iSu (i:=i);have c4:IntKind.i64.wrap ((ms.length:Int)+(i:Int))=((ms.length+i:Nat):Int):=qXi;have y4:(0:Int)≤((ms.length+i:Nat):Int)∧((ms.length+i:Nat):Int)<((ms.length+32:Nat):Int):=by omega
     have r:=(NwB.by b3).get (P:=prog) agg5 (i:=ms.length+i) (by rw[qZc];omega)
     have hFR:F (ms.length+i)=R.getLsbD i:=by
      rw[hF _ (by omega) (by omega),show ms.length+i - ms.length=i by omega,gDq,vW (by omega)]
      cases R.getLsbD i <;> rfl
     rw[lsF_at (by omega),hFR]at r;have c3:=u64id i (by omega);have nj:((i:Int)<0)=False:=by simp
     have s1:=ext8b (R.getLsbD i);have s2:=shl32 (if R.getLsbD i then (1:W32) else 0) i (by omega);have s3:=or32 x ((if R.getLsbD i then (1:W32) else 0) <<< i);simp -implicitDefEqProofs only[go_sem,jY,d2,c4,y4,and_self,iTn,jU,r,s1,c3,nj,if_false,s2,s3,c2];refine⟨32 - (i+1),by omega,i+1,_,rfl,by omega,rfl,fun t=>?_,f3,b3⟩;rw[BitVec.getLsbD_or,hx,BitVec.getLsbD_shiftLeft]
     have g:∀ (b:Bool) (k:Nat),(if b then (1:W32) else 0).getLsbD k=(b && decide (k=0)):=fun b k=>by
      cases b
      ·simp
      ·show (1#32).getLsbD k=_
       rw[vZ];simp
     rw[g]
     by_cases h1:t<i
     ·rw[decide_eq_true h1,decide_eq_true (show t<i+1 by omega)];simp
     ·rw[decide_eq_false h1]
      by_cases h2:t=i
      ·subst h2
       rw[decide_eq_true (show t<32 from hil),decide_eq_true (show t<t+1 by omega),Nat.sub_self];simp
      ·rw[decide_eq_false (show ¬ t<i+1 by omega),decide_eq_false (show ¬ t - i=0 by omega)];simp
    ·have d2:=dFo ((i:Int)<32)
     have e:i=32:=by omega
     subst e;simp -implicitDefEqProofs only[go_sem,jY,d2];refine⟨?_,f3⟩;have hxR:x=R:=BitVec.eq_of_getLsbD_eq fun j hj=>by rw[hx,decide_eq_true hj,vJ]
     rw[hxR]
theorem sum2 (w0:World)(ht:DivT w0)(hv:By w0 bv bs)(hl:bs.length≤2 ^ 30):Fn prog 103 #[bv] w0 fun v w'=>v=u32 (qJt 0 bs)∧No w0 w':=by
 refine go103 (by simp) ?_;simp -implicitDefEqProofs only[go_sem,jY,Tryz.f103];refine qQa pl145 ((divide w0 ht (~~~0) hv hl).mono ?_);rintro _ w1 ⟨rfl,f1⟩;have n1:=not32 (qJu (~~~0) bs);simp -implicitDefEqProofs only[go_sem,n1];exact And.intro rfl f1
def slI (w0:World)(s:W32)(bv:Value)(bs:Bs)(n:Nat)(vs:List Value)(w:World):Prop :=
 ∃ (i:Nat) (v:Value),vs=[bv,u32 s,v,.int .i64 (i:Nat)]∧i≤bs.length∧n=bs.length - i∧NwB w0 w v (bs.take i)∧No w0 w
def slJ (w0:World)(s:W32)(bs:Bs)(n:Nat)(vs:List Value)(w:World):Prop :=
 ∃ (i:Nat) (v:Value),vs=[u32 s,v,.int .i64 (i:Nat)]∧i≤4∧n=4 - i∧NwB w0 w v (bs++(sealB s).take i)∧No w0 w
theorem seal_at (s:W32)(h:i<4):(s >>> (8*i)).setWidth 8=(sealB s).getD i 0:=by
 rcases (by omega:i=0∨i=1∨i=2∨i=3) with rfl | rfl | rfl | rfl
 ·show (s >>> 0).setWidth 8=s.setWidth 8
  simp
 all_goals rfl
theorem seal2 (w0:World)(ht:DivT w0)(hv:By w0 bv bs)(hl:bs.length≤2 ^ 30):Fn prog 65 #[bv] w0 fun v w'=>NwB w0 w' v (bs++sealB (qJt 0 bs))∧No w0 w':=by
 refine go65 (by simp) ?_;obtain⟨va,vc,rfl,hcap⟩:=hv.slice;simp -implicitDefEqProofs only[go_sem,jY,Tryz.f65];refine qQa pl103 ((sum2 w0 ht hv hl).mono ?_);rintro _ w1 ⟨rfl,f1⟩;generalize qJt 0 bs=s;simp -implicitDefEqProofs only[go_sem];refine loopD [0,3,4,5] (slI w0 s (.slice va bs.length vc) bs) bs.length ⟨0,.slice .none 0 0,rfl,by omega,rfl,NwB.nil _ _,f1⟩ ?_;rintro _ vs w3 g ⟨i,v,rfl,hi,rfl,b3,f3⟩
 by_cases hlt:i<bs.length
 ·have d1:=dTo ((i:Int)<((bs.length:Nat):Int))
  have c1:=iSu (i:=i);have y:=iBd (i:=i) (n:=bs.length);obtain⟨b,o,cap,he,r⟩:=by_rd (hv.fr0 f3) hlt;cases he;have hsn:=qXw (l:=bs) (i:=i) hlt;obtain⟨v4,w4,hr4,b4,f4,g4,_⟩:=NwB.grow b3 (bs.getD i 0) (by simp;omega) f3;rw[hsn]at b4;generalize bs.getD i 0=x at *;simp -implicitDefEqProofs only[go_sem,jY,gLa,gLz,jH,zB,y,and_self,iTn,jU,r];refine qQp (v:=.slice (some ⟨w3.heap.size,0,none⟩) 1 1) (w':=w3.alloc (.cells (bl [x]) 5)) rfl ?_;simp -implicitDefEqProofs only[go_sem,jY];refine qQj ⟨v4,w4,hr4,?_⟩;simp -implicitDefEqProofs only[go_sem,jY,c1];exact⟨bs.length - (i+1),by omega,i+1,v4,rfl,by omega,rfl,b4,f4⟩
 ·have d1:=dFo ((i:Int)<((bs.length:Nat):Int))
  have e:i=bs.length:=by omega
  subst e;rw[vU]at b3;simp -implicitDefEqProofs only[go_sem,jY,gLa,gLz,d1];refine loopD [3,4,6] (slJ w0 s bs) 4 ⟨0,v,rfl,by omega,rfl,by rw[jP,j6];exact b3,f3⟩ ?_;clear b3 f3;rintro _ vs w3 g ⟨i,v,rfl,hi,rfl,b3,f3⟩
  by_cases hil:i<4
  ·have d2:=dTo ((i:Int)<4)
   have c1:=iSu (i:=i);have c2:IntKind.i64.wrap (8*(i:Int))=((8*i:Nat):Int):=by rw[qQm (by omega) (by omega)];omega
   have c3:=u64id (8*i) (by omega);have nj:(((8*i:Nat):Int)<0)=False:=by simp;omega
   have s1:=shr32 s (8*i) (by omega);have s2:=cut32 (s >>> (8*i));have hsn:=qXw (l:=sealB s) (i:=i) (by rw[sealB_len];exact hil);obtain⟨v4,w4,hr4,b4,f4,g4,_⟩:=NwB.grow b3 ((sealB s).getD i 0) (by simp[sealB_len];omega) f3;rw[zO,hsn]at b4;rw[← seal_at s hil]at hr4;simp -implicitDefEqProofs only[go_sem,jY,jH,zB,d2,c2,c3,nj,if_false,s1,s2];refine qQp (v:=.slice (some ⟨w3.heap.size,0,none⟩) 1 1) (w':=w3.alloc (.cells (bl [(s >>> (8*i)).setWidth 8]) 5)) rfl ?_;simp -implicitDefEqProofs only[go_sem,jY];refine qQj ⟨v4,w4,hr4,?_⟩;simp -implicitDefEqProofs only[go_sem,jY,c1];exact⟨4 - (i+1),by omega,i+1,v4,rfl,by omega,rfl,b4,f4⟩
  ·have d2:=dFo ((i:Int)<4)
   have e:i=4:=by omega
   subst e;rw[zT (by rw[sealB_len];exact xT _)]at b3;simp -implicitDefEqProofs only[go_sem,jY,d2];exact⟨b3,f3⟩
end R
end
section
namespace R
open Aud
theorem u8nat (v:Nat):IntKind.u8.wrap (v:Int)=((zD 8 v).toNat:Int):=by
 rw[zM,wrap_u8];omega
theorem page5 (w0:World)(ht:DivT w0)(kind p:Nat){load:Bs}(hv:By w0 bv load)(hl:load.length≤246)(hp:p<2 ^ 62):Fn prog 57 #[.int .i64 (kind:Nat),.int .i64 (p:Nat),bv] w0 fun v w'=>NwB w0 w' v (pagB kind p load)∧No w0 w':=by
 refine go57 (by simp) ?_;obtain⟨va,vc,rfl,hcap⟩:=hv.slice;have c1:=u8nat kind;have c2:=u8nat load.length;simp -implicitDefEqProofs only[go_sem,jY,Nat.reduceAdd,gLa,gLz,jH,zB,Tryz.f57,c1,c2];refine qQp (v:=.slice (some ⟨w0.heap.size,0,none⟩) 2 2) (w':=w0.alloc (.cells (bl [zD 8 kind,zD 8 load.length]) 5)) rfl ?_;have k1:(w0.alloc (.cells (bl [zD 8 kind,zD 8 load.length]) 5)).heap[w0.heap.size]?=some (.cells (bl [zD 8 kind,zD 8 load.length]) 5 (0,0)):=qQb _ _;have f1:No w0 (w0.alloc (.cells (bl [zD 8 kind,zD 8 load.length]) 5)):=(Fr.refl _ _).alloc _;generalize w0.alloc (.cells (bl [zD 8 kind,zD 8 load.length]) 5)=w1 at *;have h1:=row_by (m:=2) (cap:=2) k1 (by simp) (xT _);rw[zT (by simp)]at h1;simp -implicitDefEqProofs only[go_sem,jY];refine qQa pl63 ((laid5 w1 p 4 hp (by omega)).mono ?_);rintro _ w2 ⟨b2,f2⟩;simp -implicitDefEqProofs only[go_sem,jY];refine qQa pl62 ((joined5 w2 (h1.fr0 f2) b2.by (by simp) (by rw[qQx];omega)).mono ?_);rintro _ w3 ⟨b3,f3⟩;have f13:=(f1.trans f2).trans f3;simp -implicitDefEqProofs only[go_sem,jY];refine qQa pl62 ((joined5 w3 b3.by (hv.fr0 f13) (by simp[qQx]) (by omega)).mono ?_);rintro _ w4 ⟨b4,f4⟩;simp -implicitDefEqProofs only[go_sem];refine qQa pl64 ((filled5 w4 (n:=252) b4.by (by omega) (by simp[qQx];omega)).mono ?_);rintro _ w5 ⟨b5,f5⟩;simp -implicitDefEqProofs only[go_sem];have f05:=(f13.trans f4).trans f5;refine qQa pl65 ((seal2 w5 (ht.no f05) b5.by (by rw[qZb (by simp[qQx];omega)];omega)).mono ?_);rintro _ w6 ⟨b6,f6⟩;simp -implicitDefEqProofs only[go_sem];exact And.intro (NwB.back b6 f05.size) (f05.trans f6)
theorem super5 (w0:World)(ht:DivT w0)(s:Sup)(hs:s.gen<2 ^ 62∧s.mark<2 ^ 62∧s.head<2 ^ 62∧s.pages<2 ^ 62):Fn prog 31 #[.agg #[.int .i64 (s.width:Nat),.int .i64 (s.gen:Nat),.int .i64 (s.mark:Nat),.int .i64 (s.head:Nat),.int .i64 (s.pages:Nat)]] w0 fun v w'=>NwB w0 w' v (supB s)∧No w0 w':=by
 refine go31 (by simp) ?_;obtain⟨W,hW,f0,k0,s0⟩:=qQl w0 #[.int .i64 (s.width:Nat),.int .i64 (s.gen:Nat),.int .i64 (s.mark:Nat),.int .i64 (s.head:Nat),.int .i64 (s.pages:Nat)] 67;have c1:=u8nat s.width;have r0:rdO prog 3 W w0.heap.size 0=some (.int .i64 (s.width:Nat)):=rd1 agg3 k0 rfl;simp -implicitDefEqProofs only[go_sem,jY,jH,zB,Tryz.f31,hW,r0,c1];refine qQp (v:=.slice (some ⟨W.heap.size,0,none⟩) 8 8) (w':=W.alloc (.cells (bl [76,68,71,49,zD 8 s.width,0,0,0]) 5)) rfl ?_;have k1:(W.alloc (.cells (bl [76,68,71,49,zD 8 s.width,0,0,0]) 5)).heap[W.heap.size]?=some (.cells (bl [76,68,71,49,zD 8 s.width,0,0,0]) 5 (0,0)):=qQb _ _;have f1:No W (W.alloc (.cells (bl [76,68,71,49,zD 8 s.width,0,0,0]) 5)):=(Fr.refl _ _).alloc _;generalize W.alloc (.cells (bl [76,68,71,49,zD 8 s.width,0,0,0]) 5)=w1 at *;have h1:=row_by (m:=8) (cap:=8) k1 (by simp) (xT _);rw[zT (by simp)]at h1;have k01:=f1.at k0 id;have r1:rdO prog 3 w1 w0.heap.size 1=some (.int .i64 (s.gen:Nat)):=rd1 agg3 k01 rfl;simp -implicitDefEqProofs only[go_sem,jY,zB,r1];refine qQa pl63 ((laid5 w1 s.gen 8 hs.1 (by omega)).mono ?_);rintro _ w2 ⟨b2,f2⟩;simp -implicitDefEqProofs only[go_sem,jY];refine qQa pl62 ((joined5 w2 (h1.fr0 f2) b2.by (by simp) (by rw[qQx];omega)).mono ?_);rintro _ w3 ⟨b3,f3⟩;have f13:=f2.trans f3;have k03:=f13.at k01 id;have r2:rdO prog 3 w3 w0.heap.size 2=some (.int .i64 (s.mark:Nat)):=rd1 agg3 k03 rfl;simp -implicitDefEqProofs only[go_sem,jY,zB,r2];refine qQa pl63 ((laid5 w3 s.mark 4 hs.2.1 (by omega)).mono ?_);rintro _ w4 ⟨b4,f4⟩;simp -implicitDefEqProofs only[go_sem,jY];refine qQa pl62 ((joined5 w4 (b3.by.fr0 f4) b4.by (by simp[qQx]) (by rw[qQx];omega)).mono ?_);rintro _ w5 ⟨b5,f5⟩;have f15:=(f13.trans f4).trans f5
 have k05:=f15.at k01 id;have r3:rdO prog 3 w5 w0.heap.size 3=some (.int .i64 (s.head:Nat)):=rd1 agg3 k05 rfl;simp -implicitDefEqProofs only[go_sem,jY,zB,r3];refine qQa pl63 ((laid5 w5 s.head 4 hs.2.2.1 (by omega)).mono ?_);rintro _ w6 ⟨b6,f6⟩;simp -implicitDefEqProofs only[go_sem,jY];refine qQa pl62 ((joined5 w6 (b5.by.fr0 f6) b6.by (by simp[qQx]) (by rw[qQx];omega)).mono ?_);rintro _ w7 ⟨b7,f7⟩;have f17:=(f15.trans f6).trans f7;have k07:=f17.at k01 id;have r4:rdO prog 3 w7 w0.heap.size 4=some (.int .i64 (s.pages:Nat)):=rd1 agg3 k07 rfl;simp -implicitDefEqProofs only[go_sem,jY,zB,r4];refine qQa pl63 ((laid5 w7 s.pages 4 hs.2.2.2 (by omega)).mono ?_);rintro _ w8 ⟨b8,f8⟩;simp -implicitDefEqProofs only[go_sem,jY];refine qQa pl62 ((joined5 w8 (b7.by.fr0 f8) b8.by (by simp[qQx]) (by rw[qQx];omega)).mono ?_);rintro _ w9 ⟨b9,f9⟩;simp -implicitDefEqProofs only[go_sem];refine qQa pl64 ((filled5 w9 (n:=60) b9.by (by omega) (by simp[qQx])).mono ?_);rintro _ wa ⟨ba,fa⟩;simp -implicitDefEqProofs only[go_sem];have f0a:=(((f0.trans f1).trans f17).trans f8).trans (f9.trans fa);have hbl:(padTo (0:Byte) 60 ([76,68,71,49,zD 8 s.width,0,0,0]++leB 8 s.gen++leB 4 s.mark++leB 4 s.head++leB 4 s.pages)).length=60:=qZx s;refine qQa pl65 ((seal2 wa (ht.no f0a) ba.by (by rw[hbl];omega)).mono ?_);rintro _ wb ⟨bb,fb⟩;simp -implicitDefEqProofs only[go_sem];refine qQa pl64 ((filled5 wb (n:=256) bb.by (by omega) (by rw[lAp,hbl,sealB_len];omega)).mono ?_);rintro _ wc ⟨bc,fc⟩;simp -implicitDefEqProofs only[go_sem];exact And.intro (NwB.back bc (f0a.trans fb).size) ((f0a.trans fb).trans fc)
end R
end
section
namespace R
open Aud A
theorem quo8 (v d:Nat):(v:Int).tdiv (d:Int)=((v / d:Nat):Int):=rfl
theorem four_eq (v:Nat):[zD 8 v,zD 8 (v / 256),zD 8 (v / 65536),zD 8 (v / 16777216)]=leB 4 v:=by
 show _=[zD 8 v,zD 8 (v / 256),zD 8 (v / 256 / 256),zD 8 (v / 256 / 256 / 256)]
 rw[vB,vB]
theorem fourF (v:Nat)(hv:v<2 ^ 62):IntKind.u8.wrap ((v:Int).tmod 256)=((zD 8 v).toNat:Int) ∧
  IntKind.i64.wrap ((v:Int).tdiv 256)=((v / 256:Nat):Int)∧IntKind.u8.wrap (((v / 256:Nat):Int).tmod 256)=((zD 8 (v / 256)).toNat:Int) ∧
  IntKind.i64.wrap ((v:Int).tdiv 65536)=((v / 65536:Nat):Int)∧IntKind.u8.wrap (((v / 65536:Nat):Int).tmod 256)=((zD 8 (v / 65536)).toNat:Int) ∧
  IntKind.i64.wrap ((v:Int).tdiv 16777216)=((v / 16777216:Nat):Int)∧IntKind.u8.wrap (((v / 16777216:Nat):Int).tmod 256)=((zD 8 (v / 16777216)).toNat:Int):=by
 have q:∀ (d:Nat) (e:Int),(d:Int)=e→IntKind.i64.wrap ((v:Int).tdiv e)=((v / d:Nat):Int):=fun d e he=>by
  subst he;have h:=Nat.div_le_self v d;rw[quo8];generalize v / d=x at *;rw[qQm (by omega) (by omega)]
 have a1:=q 256 256 (by omega);have a2:=q 65536 65536 (by omega);have a3:=q 16777216 16777216 (by omega);refine⟨?_,?_,?_,?_,?_,?_,?_⟩
 ·exact u8mod v
 ·exact a1
 ·exact u8mod (v / 256)
 ·exact a2
 ·exact u8mod (v / 65536)
 ·exact a3
 ·exact u8mod (v / 16777216)
def j9I (u w0:World)(av bv:Value)(xs bs:Bs)(n:Nat)(vs:List Value)(w:World):Prop :=
 ∃ (i:Nat) (v:Value),vs=[v,bv,.int .i64 (i:Nat)]∧i≤bs.length∧n=bs.length - i∧NwB u w v (xs++bs.take i)∧No u w∧Fr (fun b=>qQg av=some b) w0 w∧∀ b,qQg v=some b→qQg av=some b∨w0.heap.size≤b
theorem joined9 (u w0:World)(ha:NwB u w0 av a)(hu:No u w0)(hv:By w0 vv bs)(hne:0<bs.length→∀ b, qQg vv=some b→qQg av≠some b)(hla:a.length≤2 ^ 40)(hl:bs.length≤2 ^ 40) :
  Fn prog 98 #[av,vv] w0 fun v w'=>NwB u w' v (a++bs)∧No u w'∧Fr (fun b=>qQg av=some b) w0 w'∧∀ b,qQg v=some b→qQg av=some b∨w0.heap.size≤b:=by
 refine go98 (by simp) ?_;obtain⟨va,vc,rfl,hcap⟩:=hv.slice;simp -implicitDefEqProofs only[go_sem,zB,Tryz.f98];refine loopD [0,1,5] (j9I u w0 av (.slice va bs.length vc) a bs) bs.length ⟨0,av,rfl,by omega,rfl,by rw[jP,j6];exact ha,hu,Fr.refl _ _,fun b h=>.inl h⟩ ?_;rintro _ vs w3 g ⟨i,v,rfl,hi,rfl,b3,f3,fa,hb3⟩
 by_cases hlt:i<bs.length
 ·have d1:=dTo ((i:Int)<((bs.length:Nat):Int))
  have c1:=iSu (i:=i);have y:=iBd (i:=i) (n:=bs.length);obtain⟨b,o,cap,he,r⟩:=by_rd (hv.fr fa fun b hb _ h=>hne (by omega) b hb h) hlt;cases he;have hsn:=qXw (l:=bs) (i:=i) hlt;obtain⟨v4,w4,hr4,b4,f4,g4,h4⟩:=NwB.grow b3 (bs.getD i 0) (by simp;omega) f3;rw[zO,hsn]at b4;generalize bs.getD i 0=x at *;simp -implicitDefEqProofs only[go_sem,jY,gLa,gLz,jH,zB,y,and_self,iTn,jU,r];refine qQp (v:=.slice (some ⟨w3.heap.size,0,none⟩) 1 1) (w':=w3.alloc (.cells (bl [x]) 5)) rfl ?_;simp -implicitDefEqProofs only[go_sem,jY];refine qQj ⟨v4,w4,hr4,?_⟩;simp -implicitDefEqProofs only[go_sem,jY,c1];refine⟨bs.length - (i+1),by omega,i+1,v4,rfl,by omega,rfl,b4,f4,fa.trans' g4 fun b hb e=>(hb3 b e).resolve_right (by omega),fun b hb=>?_⟩
  rcases h4 b hb with h | h
  ·exact hb3 b h
  ·have:=fa.size;exact .inr (by omega)
 ·have d1:=dFo ((i:Int)<((bs.length:Nat):Int))
  have e:i=bs.length:=by omega
  subst e;rw[vU]at b3;simp -implicitDefEqProofs only[go_sem,jY,gLa,gLz,d1];exact⟨b3,f3,fa,hb3⟩
theorem by_blk (h:By w v bs)(h0:0<bs.length)(hb:qQg v=some b):b<w.heap.size:=by
 obtain⟨_,a,cap,rfl,_,hat⟩:=h;obtain⟨b',o,rfl,hc⟩:=hat (by omega);cases hb;have:=hc 0 (by omega);rw[jR,zQ h0]at this;exact rc_lt this
theorem midB {a r:List Value}{e:TypeId}{fz:Nat × Nat}{ds:Bs}(h:w.heap[b]?=some (.cells (a++ds.map u8++r).toArray e fz))(ha:a.length=o)(hi:i<ds.length):rdO prog 5 w b (o+i)=some (u8 (ds.getD i 0)):=by
 refine rd1 agg5 h ?_;rw[List.getElem?_toArray,zO,jB (by omega),zF (by rw[zW];omega),ha,Nat.add_sub_cancel_left,jR,zQ hi,qQw 0 hi];rfl
def abI (u w1:World)(c:List Value)(pre d:Bs)(n:Nat)(vs:List Value)(w:World):Prop :=
 ∃ (i:Nat) (v:Value),vs=c++[v,.int .i64 (i:Nat)]∧i≤32∧n=32 - i∧NwB u w v (pre++d.take i)∧No u w∧(∀ b,qQg v=some b→w1.heap.size≤b)∧No w1 w
abbrev nPre (k l r lc rc:Nat)(ls rs:Bs):List Value:=[.int .i64 (k:Nat),.int .i64 (l:Nat),.int .i64 (r:Nat),.int .i64 (lc:Nat),.int .i64 (rc:Nat)]++ls.map u8++rs.map u8
theorem load9leaf (w0:World){k val:Bs}(hk:k.length=32)(ov:one vv=true)(hv:By w0 vv val)(hl:val.length≤2 ^ 30):Fn prog 58 #[.agg (ndA (.leaf k val) vv).toArray] w0 fun v w'=>NwB w0 w' v (k++val)∧No w0 w':=by
 refine go58 (by simp) ?_;obtain⟨W,hW,f0,k0,s0⟩:=qQl w0 (ndA (.leaf k val) vv).toArray 78;have r0:=(rdLf hk k0).1;have c11:((1:Int) == 1)=true:=rfl;simp -implicitDefEqProofs only[go_sem,jY,jH,bSe,zB,Tryz.f58,hW,r0];refine loopD [1,3,4] (abI w0 W [pt w0.heap.size 0] [] k) 32 ⟨0,.slice .none 0 0,rfl,by omega,rfl,NwB.nil _ _,f0,(fun b h=>by cases h),Fr.refl _ _⟩ ?_;rintro _ vs w3 g ⟨i,v,rfl,hi,rfl,b3,f3,hb3,fW⟩;have k3:=fW.at k0 id
 by_cases hlt:i<32
 ·have d1:=dTo ((i:Int)<32)
  have c1:=iSu (i:=i);have y:=iBd (i:=i) (n:=32);have hsn:=qXw (l:=k) (i:=i) (by omega);have r:=midB (i:=i) (a:=nPre 1 0 0 0 0 z32 z32) (r:=[vv]) (ds:=k) (o:=69) (e:=78) (fz:=(0,0)) k3 (by rfl) (by omega);obtain⟨v4,w4,hr4,b4,f4,g4,h4⟩:=NwB.grow b3 (k.getD i 0) (by simp;omega) f3;rw[zO,hsn]at b4;generalize k.getD i 0=x at *;simp -implicitDefEqProofs only[go_sem,jY,jH,zB,d1,y,and_self,iTn,jU,r];refine qQp (v:=.slice (some ⟨w3.heap.size,0,none⟩) 1 1) (w':=w3.alloc (.cells (bl [x]) 5)) rfl ?_;simp -implicitDefEqProofs only[go_sem,jY];refine qQj ⟨v4,w4,hr4,?_⟩;simp -implicitDefEqProofs only[go_sem,jY,c1];refine⟨32 - (i+1),by omega,i+1,v4,rfl,by omega,rfl,b4,f4,fun b hb=>?_,fW.trans' g4 fun b hb e=>by have:=hb3 b e;omega⟩
  rcases h4 b hb with h | h
  ·exact hb3 b h
  ·have:=fW.size;omega
 ·have d1:=dFo ((i:Int)<32)
  have e:i=32:=by omega
  subst e;rw[List.nil_append,zT (by omega)]at b3;have rv:=(rdLf hk k3).2.2.2.2;simp -implicitDefEqProofs only[go_sem,jY,zB,d1,rv];refine qQa pl98 ((joined9 w0 w3 b3 f3 (hv.fr0 f3) (fun hp b hb hb'=>?_) (by omega) (by omega)).mono ?_)
  ·have h1:=hb3 b hb'
   have:=by_blk hv hp hb;omega
  rintro _ w4 ⟨b4,f4,_⟩;simp -implicitDefEqProofs only[go_sem];exact And.intro b4 f4
end R
end
end Go.V
