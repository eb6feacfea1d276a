/- Helpers. -/
import Derived.Test.YtppmpdjlmgfdkaaGreatDoorG12
import Derived.Test.YtppmpdjlmgfdkaaGreatDoorG07
import Derived.Test.YtppmpdjlmgfdkaaGreatDoorG19
import Derived.Test.YtppmpdjlmgfdkaaGreatDoorG05
import Derived.Test.YtppmpdjlmgfdkaaGreatDoorG06
import Derived.Test.YtppmpdjlmgfdkaaGreatDoorG10
import Derived.Test.YtppmpdjlmgfdkaaGreatDoorG17
import Derived.Test.YtppmpdjlmgfdkaaGreatDoorG16
set_option linter.all false
set_option maxRecDepth 100000
set_option maxHeartbeats 8000000
open Array renaming replicate→xL
open BitVec renaming ofInt_natCast→xK,toNat_ofNat→zM,ofInt→qQ,toNat_and→yU
open Bool renaming not_true→yG,not_false→xG,and_true→yF,false_eq_true→qD
open List renaming getElem_cons_zero→yH,all_cons→yD,getElem_cons_succ→yM,all_append→yN,all_nil→yP
open Nat renaming reduceEqDiff→jY,zero_add→zB,mod_eq_of_lt→yQ,mul_one→jU,add_zero→jA,mul_comm→yR,two_pow_add_eq_or_of_lt→yT
open Go.Value renaming cells→jH
namespace Go.V
open Go.Proofs.Tryz Go.V.Tryz
variable {b s:Bs} {bs:List Byte} {cap i k n:Nat} {p vv:Value} {w:World}
section
open Go.Proofs
def crcA:Array Value:=(crcT.map u32).toArray
theorem bldCrc:bldO prog 268 [(0,.int .u32 0),(1,.int .u32 498536548),(2,.int .u32 997073096),(3,.int .u32 651767980),(4,.int .u32 1994146192),(5,.int .u32 1802195444),(6,.int .u32 1303535960),(7,.int .u32 1342533948),(8,.int .u32 3988292384),(9,.int .u32 4027552580),(10,.int .u32 3604390888),(11,.int .u32 3412177804),(12,.int .u32 2607071920),(13,.int .u32 2262029012),(14,.int .u32 2685067896),(15,.int .u32 3183342108)]=some (.agg crcA):=by
 unfold bldO;rw[zero268,places268,arr268];simp only[Option.bind_some,sz34];rfl
theorem crcA_get (h:i<16):crcA[i]?=some (u32 (crcT.getD i 0)):=by
 have:crcT.length=16:=rfl;simp[crcA,h,this]
theorem and15 (r:W32):(r &&& 15#32).toNat<16:=by
 rw[yU];exact Nat.lt_of_le_of_lt Nat.and_le_right (by decide)
def feedI (w0:World)(r:W32)(a:Option Addr)(cap:Nat)(bs:List Byte)(m:Nat)(vs:List Value)(w:World):Prop :=
 ∃ (i:Nat) (y:Value),vs=[u32 (qJu r (bs.take i)),pt w0.heap.size 0,y,.slice a bs.length cap,.int .i64 bs.length,.int .i64 i]∧i≤bs.length∧m=bs.length - i∧w.heap[w0.heap.size]?=some (.cells crcA 268 (0,0))∧No w0 w
theorem feed (w:World)(r:W32)(hp:By w p bs)(hl:bs.length<2 ^ 62) :
  Fn prog 189 #[u32 r,p] w fun v w'=>v=u32 (qJu r bs)∧No w w':=by
 obtain⟨a,cap,rfl,hcap,hat⟩:=hp.at;refine go189 (by simp) ?_
 have q0:wrO prog 268 (w.alloc (.cells (xL 16 (.int .u32 0)) 268)) w.heap.size 0 (.agg crcA)=some (put (w.alloc (.cells (xL 16 (.int .u32 0)) 268)) w.heap.size (.cells crcA 268 (0,0))) :=
  qQr (by rw[sz268];rfl) (qQb _ _) rfl (by rw[← Array.all_toList];rfl)
 generalize hW:put (w.alloc (.cells (xL 16 (.int .u32 0)) 268)) w.heap.size (.cells crcA 268 (0,0))=W at q0
 have hb:W.heap[w.heap.size]?=some (.cells crcA 268 (0,0)):=by
  rw[← hW];exact qXt _ (by rw[qQc];omega)
 have fr:No w W:=by rw[← hW];exact ((Fr.refl _ _).alloc _).put (b:=w.heap.size) _ fun h=>absurd h (Nat.lt_irrefl _)
 simp -implicitDefEqProofs only[go_sem,jY,Tryz.f189,bldCrc,jH,q0];refine loopD [0,5,7,9,10,11] (feedI w r a cap bs) bs.length ⟨0,undef,by simp[upd,qJu],by omega,by omega,hb,fr⟩ ?_;rintro m vs w1 g ⟨i,y,rfl,hi,rfl,hA,fr⟩
 by_cases hlt:i<bs.length
 ·have d1:=dTo ((i:Int)<(bs.length:Int))
  obtain⟨b,o,rfl,hb1⟩:=hat i hlt;have c2:IntKind.i64.wrap ((i:Int)+1)=((i+1:Nat):Int):=by rw[qQm (by omega) (by omega)];rfl
  have i1:(0:Int)≤(i:Int)∧(i:Int)<(bs.length:Int):=by omega
  rw[← fr.rc (rc_lt hb1) id]at hb1;have r1:rdO prog 5 w1 b (o+i)=some (u8 bs[i]):=rd_rc agg5 hb1;generalize hx:qJu r (bs.take i)=x;have e15:∀ z:W32,andK .u32 (z.toNat:Int) 15=((z &&& 15#32).toNat:Int):=fun z=>and32n z 15;have t1:∀ z:W32,(0:Int)≤((z &&& 15#32).toNat:Int)∧((z &&& 15#32).toNat:Int)<((16:Nat):Int):=fun z=>by have:=and15 z;omega
  have r2:∀ z:W32,rdO prog 34 w1 w.heap.size (z &&& 15#32).toNat=some (u32 (crcT.getD (z &&& 15#32).toNat 0)):=fun z =>
   rd_rc agg34 (by rw[qXe hA];exact crcA_get (and15 z))
  have s4:∀ z:W32,shrK .u32 (z.toNat:Int) 4=((z >>> 4).toNat:Int):=fun z=>shr32 z 4 (by omega);simp -implicitDefEqProofs only[go_sem,jY,i1,and_self,iTn,jU,r1,ext8,xor32,e15,t1,r2,s4,Int.reduceLT,c2];refine⟨bs.length - (i+1),by omega,i+1,u8 bs[i],?_,by omega,rfl,hA,fr⟩
  have e:qJu r (bs.take (i+1))=crcByte x bs[i]:=by
   rw[← hx,qJu,tSg hlt,List.foldl_append];rfl
  rw[e];rfl
 ·have d1:=dFo ((i:Int)<(bs.length:Int))
  have e:i=bs.length:=by omega
  subst e;simp -implicitDefEqProofs only[go_sem,jY,d1];exact⟨by rw[List.take_length],fr⟩
theorem update (w:World)(c:W32)(hp:By w p bs)(hl:bs.length<2 ^ 62) :
  Fn prog 179 #[u32 c,p] w fun v w'=>v=u32 (qJt c bs)∧No w w':=by
 refine go179 (by simp) ?_;simp -implicitDefEqProofs only[go_sem,jY,Tryz.f179,not32];refine qQa pl189 ((feed w (~~~ c) hp hl).mono ?_);rintro _ w' ⟨rfl,fr⟩;simp -implicitDefEqProofs only[go_sem,not32];exact⟨rfl,fr⟩
theorem sum (w:World)(hp:By w p bs)(hl:bs.length<2 ^ 62) :
  Fn prog 158 #[p] w fun v w'=>v=u32 (qJt 0 bs)∧No w w':=by
 refine go158 (by simp) ?_;simp -implicitDefEqProofs only[go_sem,jY,Tryz.f158];refine qQa pl179 ((update w 0 hp hl).mono ?_);rintro _ w' ⟨rfl,fr⟩;simp -implicitDefEqProofs only[go_sem];exact fr
theorem whole (w:World)(hp:By w p bs)(hl:bs.length<2 ^ 62)(h4:4≤bs.length) :
  Fn prog 121 #[p] w fun v w'=>v=.bool (let n:=bs.length - 4;let c:=qJt 0 (bs.take n);
   bs.getD n 0 == c.setWidth 8 && bs.getD (n+1) 0 == (c >>> 8).setWidth 8 && bs.getD (n+2) 0 == (c >>> 16).setWidth 8 && bs.getD (n+3) 0 == (c >>> 24).setWidth 8)∧No w w':=by
 obtain⟨a,cap,rfl,hcap,hat⟩:=hp.at;refine go121 (by simp) ?_;have c1:IntKind.i64.wrap ((bs.length:Int) - 4)=((bs.length - 4:Nat):Int):=by rw[qQm (by omega) (by omega)];omega
 have d1:decide (((bs.length - 4:Nat):Int)<0)=false:=by simp
 have sb:sbO (.int .i64 ((bs.length - 4:Nat):Int)) cap=some (bs.length - 4):=by
  simp only[sbO];rw[if_pos (by omega),iTn]
 simp -implicitDefEqProofs only[go_sem,jY,Tryz.f121,c1,d1,qQs,optB,sb,Nat.sub_zero];refine qQa pl158 ((sum w (By.cut hp (Nat.zero_le _) (show bs.length - 4≤bs.length by omega) rfl _ rfl) (by rw[lTk];omega)).mono ?_);rintro _ w1 ⟨rfl,fr⟩;simp only[List.drop_zero,Nat.sub_zero];generalize qJt 0 (bs.take (bs.length - 4))=c
 have at':∀ j,j<4→∃ b o,a=some ⟨b,o,none⟩∧rdO prog 5 w1 b (o+(bs.length - 4+j))=some (u8 (bs.getD (bs.length - 4+j) 0)):=fun j hj=>by
  obtain⟨b,o,rfl,h⟩:=hat (bs.length - 4+j) (by omega);rw[qQw 0 (show bs.length - 4+j<bs.length by omega)];exact⟨b,o,rfl,rd_rc agg5 (by rw[fr.rc (rc_lt h) id];exact h)⟩
 obtain⟨b,o,rfl,r0⟩:=at' 0 (by omega);obtain⟨b1,o1,e1,r1⟩:=at' 1 (by omega);cases e1;obtain⟨b2,o2,e2,r2⟩:=at' 2 (by omega);cases e2;obtain⟨b3,o3,e3,r3⟩:=at' 3 (by omega);cases e3;have k1:IntKind.i64.wrap (((bs.length - 4:Nat):Int)+1)=((bs.length - 4+1:Nat):Int):=by rw[qQm (by omega) (by omega)];omega
 have k2:IntKind.i64.wrap (((bs.length - 4:Nat):Int)+2)=((bs.length - 4+2:Nat):Int):=by rw[qQm (by omega) (by omega)];omega
 have k3:IntKind.i64.wrap (((bs.length - 4:Nat):Int)+3)=((bs.length - 4+3:Nat):Int):=by rw[qQm (by omega) (by omega)];omega
 have i0:(0:Int)≤((bs.length - 4:Nat):Int)∧((bs.length - 4:Nat):Int)<(bs.length:Int):=by omega
 have i1:(0:Int)≤((bs.length - 4+1:Nat):Int)∧((bs.length - 4+1:Nat):Int)<(bs.length:Int):=by omega
 have i2:(0:Int)≤((bs.length - 4+2:Nat):Int)∧((bs.length - 4+2:Nat):Int)<(bs.length:Int):=by omega
 have i3:(0:Int)≤((bs.length - 4+3:Nat):Int)∧((bs.length - 4+3:Nat):Int)<(bs.length:Int):=by omega
 rw[jA]at r0;have s8:shrK .u32 (c.toNat:Int) 8=((c >>> 8).toNat:Int):=shr32 c 8 (by omega);have s16:shrK .u32 (c.toNat:Int) 16=((c >>> 16).toNat:Int):=shr32 c 16 (by omega);have s24:shrK .u32 (c.toNat:Int) 24=((c >>> 24).toNat:Int):=shr32 c 24 (by omega);have h0:=u8_beq (bs.getD (bs.length - 4) 0) (c.setWidth 8);have h1:=u8_beq (bs.getD (bs.length - 4+1) 0) ((c >>> 8).setWidth 8);have h2:=u8_beq (bs.getD (bs.length - 4+2) 0) ((c >>> 16).setWidth 8);have h3:=u8_beq (bs.getD (bs.length - 4+3) 0) ((c >>> 24).setWidth 8);generalize bs.getD (bs.length - 4) 0=y0 at *;generalize bs.getD (bs.length - 4+1) 0=y1 at *;generalize bs.getD (bs.length - 4+2) 0=y2 at *;generalize bs.getD (bs.length - 4+3) 0=y3 at *;generalize (y0 == c.setWidth 8)=z0 at *;generalize (y1 == (c >>> 8).setWidth 8)=z1 at *;generalize (y2 == (c >>> 16).setWidth 8)=z2 at *;generalize (y3 == (c >>> 24).setWidth 8)=z3 at *
 cases z0 <;> cases z1 <;> cases z2 <;>
 simp -implicitDefEqProofs only[go_sem,jY,i0,i1,i2,i3,and_self,iTn,jU,r0,r1,r2,r3,cut32,k1,k2,k3,s8,s16,s24,h0,h1,h2,h3,Int.reduceLT,qQt,gLa,gLz,gLs,bSe,Bool.true_and,Bool.false_and] <;>
 exact fr
theorem wholeW (w:World)(hp:By w p bs)(hl:bs.length<2 ^ 62)(h4:4≤bs.length):Fn prog 121 #[p] w fun v w'=>v=.bool (wholeB bs)∧No w w':=by
 refine (whole w hp hl h4).mono ?_;rintro v w' ⟨rfl,f⟩;refine⟨congrArg _ ?_,f⟩;unfold wholeB sealB
 have e:bs.drop (bs.length - 4)=[bs.getD (bs.length - 4) 0,bs.getD (bs.length - 4+1) 0,bs.getD (bs.length - 4+2) 0,bs.getD (bs.length - 4+3) 0]:=by
  refine List.ext_getElem (by simp;omega) fun i h1 h2=>?_;rw[List.getElem_drop];have hi:i<4:=h2
  match i,hi with
  | 0,_=>simp only[yH];rw[qQw 0 (by omega)];rfl
  | 1,_=>simp only[yM,yH];rw[qQw 0 (by omega)]
  | 2,_=>simp only[yM,yH];rw[qQw 0 (by omega)]
  | 3,_=>simp only[yM,yH];rw[qQw 0 (by omega)]
 simp only[e];generalize qJt 0 (bs.take (bs.length - 4))=c;generalize bs.getD (bs.length - 4) 0=a;generalize bs.getD (bs.length - 4+1) 0=b;generalize bs.getD (bs.length - 4+2) 0=d;generalize bs.getD (bs.length - 4+3) 0=f;rw[Bool.eq_iff_iff];simp[and_assoc]
end
section
open Go.Proofs
theorem or64 {a b k:Nat}(ha:a<2 ^ k)(hb:b*2 ^ k+a<2 ^ 63):orK .i64 ((b*2 ^ k:Nat):Int) (a:Int)=((b*2 ^ k+a:Nat):Int):=by
 have e:orK .i64 ((b*2 ^ k:Nat):Int) (a:Int)=IntKind.i64.wrap (((qQ 64 ((b*2 ^ k:Nat):Int) ||| qQ 64 (a:Int)).toNat:Nat):Int):=rfl;have h1:b*2 ^ k<2 ^ 64:=by omega
 have h2:a<2 ^ 64:=by omega
 rw[e,BitVec.toNat_or,xK,xK,zM,zM,yQ h1,yQ h2,yR,← yT ha,qQm (by omega) (by rw[yR];omega)]
theorem or64' {a b k:Nat}(ha:a<2 ^ k)(hb:a+b*2 ^ k<2 ^ 63):orK .i64 (a:Int) ((b*2 ^ k:Nat):Int)=((a+b*2 ^ k:Nat):Int):=by
 have e:orK .i64 (a:Int) ((b*2 ^ k:Nat):Int)=IntKind.i64.wrap (((qQ 64 (a:Int) ||| qQ 64 ((b*2 ^ k:Nat):Int)).toNat:Nat):Int):=rfl;have h1:b*2 ^ k<2 ^ 64:=by omega
 have h2:a<2 ^ 64:=by omega
 rw[e,BitVec.toNat_or,xK,xK,zM,zM,yQ h1,yQ h2,Nat.or_comm,yR b,← yT ha,qQm (by omega) (by rw[yR];omega),Nat.add_comm]
theorem shl64i (a k:Nat)(hk:k≤64)(h:a*2 ^ k<2 ^ 63):shlK .i64 (a:Int) (k:Int)=((a*2 ^ k:Nat):Int):=by
 unfold shlK;rw[iTn,show min k IntKind.i64.bits=k from Nat.min_eq_left hk];rw[show ((a:Int)*2 ^ k)=((a*2 ^ k:Nat):Int) by rw[Int.natCast_mul,Int.natCast_pow];rfl];exact qQm (by omega) (by omega)
theorem ext8i (x:Byte):IntKind.i64.wrap (x.toNat:Int)=(x.toNat:Int):=qQm (by omega) (by have:=x.isLt;omega)
namespace A
open Aud
theorem le_drop {j:Nat}(h:j<b.length):le (b.drop j)=(b.getD j 0).toNat+256*le (b.drop (j+1)):=by
 rw[List.drop_eq_getElem_cons h,qQw 0 h];rfl
theorem le_small (h:b.length≤n):le b<256 ^ n:=Nat.lt_of_lt_of_le (le_lt b) (Nat.pow_le_pow_right (by omega) h)
def getI (a:Option Addr)(cap n:Nat)(bs:Bs)(m:Nat)(vs:List Value)(u w w':World):Prop :=
 m≤n∧vs=[.slice a bs.length cap,.int .i64 (le ((bs.take n).drop m)),.int .i64 ((m:Int) - 1)]∧w'=w
theorem get (w:World){bs:Bs}(hp:By w p bs)(hn:n≤bs.length)(h7:n≤7) :
  Fn prog 123 #[p,.int .i64 (n:Nat)] w fun v w'=>v=.int .i64 (le (bs.take n))∧w'=w:=by
 obtain⟨a,cap,rfl,hcap,hat⟩:=hp.at;refine go123 (by simp) ?_;have c0:IntKind.i64.wrap ((n:Int) - 1)=(n:Int) - 1:=qQm (by omega) (by omega);simp -implicitDefEqProofs only[go_sem,jY,Tryz.f123,c0];have hl:(bs.take n).length=n:=by rw[lTk];omega
 refine loopD [0,5,6] (fun m vs w'=>getI a cap n bs m vs w w w') n ⟨Nat.le_refl _,by rw[List.drop_of_length_le (by omega)];rfl,rfl⟩ ?_;rintro m vs w1 g ⟨hm,rfl,rfl⟩
 cases m with
 | zero =>
  have d1:decide (((0:Nat):Int) - 1 ≥ 0)=false:=rfl;simp -implicitDefEqProofs only[go_sem,jY,d1,List.drop_zero]
 | succ m =>
  have d1:decide (((m+1:Nat):Int) - 1 ≥ 0)=true:=by simp
  obtain⟨b,o,rfl,hb1⟩:=hat m (by omega);have e1:((m+1:Nat):Int) - 1=(m:Int):=by omega
  have i1:(0:Int)≤(m:Int)∧(m:Int)<(bs.length:Int):=by omega
  have r1:rdO prog 5 w1 b (o+m)=some (u8 bs[m]):=rd_rc agg5 hb1;have hlt:le ((bs.take n).drop (m+1))<256 ^ 6:=le_small (by rw[lDr,hl];omega);have hx:=bs[m].isLt;have s1:shlK .i64 (le ((bs.take n).drop (m+1)):Int) 8=((le ((bs.take n).drop (m+1))*2 ^ 8:Nat):Int):=shl64i _ 8 (by omega) (by omega);have s2:orK .i64 ((le ((bs.take n).drop (m+1))*2 ^ 8:Nat):Int) (bs[m].toNat:Int)=((le ((bs.take n).drop (m+1))*2 ^ 8+bs[m].toNat:Nat):Int):=or64 (k:=8) hx (by omega);have c2:IntKind.i64.wrap ((m:Int) - 1)=(m:Int) - 1:=qQm (by omega) (by omega);have e8:=ext8i bs[m];simp -implicitDefEqProofs only[go_sem,jY,e1,i1,and_self,iTn,jU,r1,e8,s1,s2,c2,Int.reduceLT];refine⟨m,by omega,by omega,?_,rfl⟩
  have:le ((bs.take n).drop m)=le ((bs.take n).drop (m+1))*2 ^ 8+bs[m].toNat:=by
   rw[le_drop (by omega),qQw 0 (by omega),List.getElem_take];omega
  rw[this]
theorem allZero (w:World){bs:Bs}(hp:By w p bs)(hl:bs.length<2 ^ 62) :
  Fn prog 122 #[p] w fun v w'=>v=.bool (zer bs)∧w'=w:=by
 obtain⟨a,cap,rfl,hcap,hat⟩:=hp.at;refine go122 (by simp) ?_;simp -implicitDefEqProofs only[go_sem,jY,Tryz.f122];refine loopD [5,6,7] (fun m vs w'=>∃ i,i≤bs.length∧m=bs.length - i∧zer (bs.take i)=true∧vs=[.slice a bs.length cap,.int .i64 (bs.length:Nat),.int .i64 (i:Nat)]∧w'=w) bs.length ⟨0,by omega,by omega,rfl,rfl,rfl⟩ ?_;rintro m vs w1 g ⟨i,hi,rfl,hz,rfl,rfl⟩
 by_cases hlt:i<bs.length
 ·have d1:=dTo ((i:Int)<(bs.length:Int))
  obtain⟨b,o,rfl,hb1⟩:=hat i hlt;have i1:(0:Int)≤(i:Int)∧(i:Int)<(bs.length:Int):=by omega
  have r1:rdO prog 5 w1 b (o+i)=some (u8 bs[i]):=rd_rc agg5 hb1;have c2:IntKind.i64.wrap ((i:Int)+1)=((i+1:Nat):Int):=by rw[qQm (by omega) (by omega)];rfl
  have e:((bs[i].toNat:Int) != 0)=!(bs[i] == 0):=by
   rw[bne,show ((bs[i].toNat:Int) == 0)=(bs[i] == 0) from u8_beq bs[i] 0]
  by_cases hx:bs[i]=0
  ·have e':(bs[i] == 0)=true:=by rw[hx];rfl
   rw[e',yG]at e;simp -implicitDefEqProofs only[go_sem,jY,i1,and_self,iTn,jU,r1,e,c2];refine⟨bs.length - (i+1),by omega,i+1,by omega,rfl,?_,rfl,trivial⟩;rw[tSg hlt];unfold zer at hz ⊢;rw[yN,hz,yD,e'];rfl
  ·have e':(bs[i] == 0)=false:=by simpa using hx
   rw[e',xG]at e;simp -implicitDefEqProofs only[go_sem,jY,i1,and_self,iTn,jU,r1,e,decide_true]
   have:zer bs=false:=by
    rw[Bool.eq_false_iff];intro h;unfold zer at h;have:=List.all_eq_true.1 h bs[i] (List.getElem_mem hlt);rw[e']at this;cases this
   rw[this];exact⟨rfl,trivial⟩
 ·have d1:=dFo ((i:Int)<(bs.length:Int))
  have e:i=bs.length:=by omega
  subst e;rw[List.take_length]at hz;simp -implicitDefEqProofs only[go_sem,jY,d1,hz]
theorem place (w:World)(p:Nat):Fn prog 234 #[.int .i64 (p:Nat)] w fun v w'=>v=.bool (decide (2≤p∧p<4096))∧w'=w:=by
 refine go234 (by simp) ?_
 by_cases h1:2≤p
 ·have d1:=dTo ((p:Int) ≥ 2)
  have e:decide (2≤p∧p<4096)=decide ((p:Int)<4096):=decide_eq_decide.2 ⟨fun h=>by omega,fun h=>by omega⟩;simp -implicitDefEqProofs only[go_sem,jY,Tryz.f234,d1,e,gLa,gLz,gLs,bSe]
 ·have d1:=dFo ((p:Int) ≥ 2)
  have e:=dFo (2≤p∧p<4096);simp -implicitDefEqProofs only[go_sem,jY,Tryz.f234,d1,e,gLa,gLz,gLs,qQt]
theorem kindOf (w:World)(k:Nat):Fn prog 235 #[.int .i64 (k:Nat)] w fun v w'=>v=.bool (decide (1≤k∧k≤3))∧w'=w:=by
 refine go235 (by simp) ?_
 have q:∀ n:Nat,((k:Int) == (n:Int))=decide (k=n):=fun n=>by
  by_cases h:k=n
  ·subst h;simp
  ·rw[decide_eq_false h];simpa using fun e=>h (Int.ofNat_inj.1 e)
 have q1:((k:Int) == 1)=decide (k=1):=q 1;have q2:((k:Int) == 2)=decide (k=2):=q 2;have q3:((k:Int) == 3)=decide (k=3):=q 3
 by_cases h1:k=1
 ·subst h1
  simp -implicitDefEqProofs only[go_sem,jY,Tryz.f235]
  trivial
 by_cases h2:k=2
 ·subst h2
  simp -implicitDefEqProofs only[go_sem,jY,Tryz.f235]
  trivial
 by_cases h3:k=3
 ·subst h3
  simp -implicitDefEqProofs only[go_sem,jY,Tryz.f235]
  trivial
 have e:=dFo (1≤k∧k≤3);have d1:decide (k=1)=false:=decide_eq_false h1;have d2:decide (k=2)=false:=decide_eq_false h2;have d3:decide (k=3)=false:=decide_eq_false h3;simp -implicitDefEqProofs only[go_sem,jY,Tryz.f235,q1,q2,q3,d1,d2,d3,e]
end A
end
section
open Go.Proofs
namespace A
open Aud
theorem getD_take (h:i<n):(b.take n).getD i 0=b.getD i 0:=by
 rw[gDq,List.getElem?_take,if_pos h,gDq]
theorem By.slc {a:Option Addr}{bs:Bs}(h:By w (.slice a n cap) bs){l m:Nat}(hl:l≤m)(hm:m≤n):By w (V.cutV 1 a cap l m) ((bs.drop l).take (m - l)):=h.cutV hl hm (by have:=h.len;omega)
def UnQ (w0:World)(r:Except Int (Nat × Bs))(v:Value)(w':World):Prop:=No w0 w'∧match r with
 | .error e=>v=.tuple #[.int .i64 0,.slice none 0 0,.int .i64 e]
 | .ok (k,l)=>∃ x,v=.tuple #[.int .i64 (k:Nat),x,.int .i64 0]∧NwB w0 w' x l
theorem unpack (w0:World){b o cap:Nat}{raw:Bs}(hp:By w0 (.slice (some ⟨b, o, none⟩) 256 cap) raw)(hcap:256≤cap){p:Nat}(h2:2≤p)(h4:p<4096) :
  Fn prog 231 #[.int .i64 (p:Nat),.slice (some ⟨b,o,none⟩) 256 cap] w0 (UnQ w0 (unpP p raw)):=by
 have hlen:raw.length=256:=hp.len.symm;refine go231 (by simp) ?_;simp -implicitDefEqProofs only[go_sem,jY,Tryz.f231];refine qQa pl234 ((place w0 p).mono ?_);rintro _ _ ⟨rfl,rfl⟩;rename_i w0;rw[decide_eq_true (show 2≤p∧p<4096 from ⟨h2,h4⟩)];have d1:(((256:Nat):Int) != 256)=false:=rfl;simp -implicitDefEqProofs only[go_sem,jY,yG,d1];refine qQa pl121 ((wholeW w0 hp (by omega) (by omega)).mono ?_);rintro _ w1 ⟨rfl,f1⟩;unfold unpP
 cases hw:wholeB raw with
 | false =>
  simp -implicitDefEqProofs only[go_sem,jY,xG,if_true];exact⟨f1,rfl⟩
 | true =>
  rw[if_neg (show ¬ (true=false) by decide)];have r0:rdO prog 5 w1 b o=some (.int .u8 ((raw.getD 0 0).toNat:Int)):=(hp.fr0 f1).get agg5 (i:=0) (by omega);have r1:rdO prog 5 w1 b (o+1)=some (.int .u8 ((raw.getD 1 0).toNat:Int)):=(hp.fr0 f1).get agg5 (i:=1) (by omega);have e0:=ext8i (raw.getD 0 0);have e1:=ext8i (raw.getD 1 0);have hn0:=(raw.getD 0 0).isLt;have hn1:=(raw.getD 1 0).isLt;generalize hk:(raw.getD 0 0).toNat=k at *;generalize hn:(raw.getD 1 0).toNat=n at *;have i0:(0:Int)≤0∧(0:Int)<((256:Nat):Int):=by omega
  have i1:(0:Int)≤1∧(1:Int)<((256:Nat):Int):=by omega
  simp -implicitDefEqProofs only[go_sem,jY,yG,i0,i1,and_self,if_true,Int.toNat_zero,Int.toNat_one,jU,Nat.zero_mul,r0,r1,e0,e1,qD,if_false]
  replace f1:=f1.drew
  clear r0 r1;generalize w1.drew=w1 at *;refine qQa pl235 ((kindOf w1 k).mono ?_);rintro _ _ ⟨rfl,rfl⟩;rename_i w1
  by_cases hkk:1≤k∧k≤3
  case neg =>
   rw[decide_eq_false hkk];simp -implicitDefEqProofs only[go_sem,jY,xG];rw[if_pos hkk];exact⟨f1,rfl⟩
  rw[decide_eq_true hkk,if_neg (not_not_intro hkk)]
  by_cases h246:246<n
  ·have d2:=dTo ((n:Int) > 246)
   simp -implicitDefEqProofs only[go_sem,jY,yG,d2];rw[if_pos h246];exact⟨f1,rfl⟩
  have d2:=dFo ((n:Int) > 246);rw[if_neg h246];have s2:qQs prog 22 (.slice (some ⟨b,o,none⟩) 256 cap) (some (.int .i64 2)) none none=some (cutV 1 (some ⟨b,o,none⟩) cap 2 256):=slc_lo slc22 arr22 sz5 (l:=2) (n:=256) (by omega) hcap;simp -implicitDefEqProofs only[go_sem,jY,yG,d2,s2];have y2:By w1 (cutV 1 (some ⟨b,o,none⟩) cap 2 256) ((raw.drop 2).take 254):=By.slc (hp.fr0 f1) (by omega) (by omega);refine qQa pl123 ((get w1 y2 (n:=4) (by rw[lTk,lDr];omega) (by omega)).mono ?_);rintro _ _ ⟨rfl,rfl⟩;rename_i w1;rw[List.take_take,show min 4 254=4 from rfl];have q1:=natne (le ((raw.drop 2).take 4)) p;generalize hg:le ((raw.drop 2).take 4)=g at *
  by_cases hgp:g=p
  case neg =>
   rw[decide_eq_true hgp]at q1;simp -implicitDefEqProofs only[go_sem,jY,q1];rw[if_pos hgp];exact⟨f1,rfl⟩
  rw[decide_eq_false (not_not_intro hgp)]at q1;rw[if_neg (not_not_intro hgp)];have c1:IntKind.i64.wrap (6+(n:Int))=((6+n:Nat):Int):=by rw[qQm (by omega) (by omega)];omega
  have s3:qQs prog 22 (.slice (some ⟨b,o,none⟩) 256 cap) (some (.int .i64 ((6+n:Nat):Int))) (some (.int .i64 252)) none=some (cutV 1 (some ⟨b,o,none⟩) cap (6+n) 252):=slc_both slc22 arr22 sz5 (l:=6+n) (m:=252) (n:=256) (by omega) (by omega) hcap;simp -implicitDefEqProofs only[go_sem,jY,q1,c1,s3];have y3:By w1 (cutV 1 (some ⟨b,o,none⟩) cap (6+n) 252) ((raw.drop (6+n)).take (252 - (6+n))):=By.slc (hp.fr0 f1) (by omega) (by omega);refine qQa pl122 ((allZero w1 y3 (by rw[lTk];omega)).mono ?_);rintro _ _ ⟨rfl,rfl⟩;rename_i w1;rw[show 252 - (6+n)=246 - n by omega]
  cases hz:zer ((raw.drop (6+n)).take (246 - n)) with
  | false =>
   simp -implicitDefEqProofs only[go_sem,jY,xG];exact⟨f1,rfl⟩
  | true =>
   have s4:qQs prog 22 (.slice (some ⟨b,o,none⟩) 256 cap) (some (.int .i64 6)) (some (.int .i64 ((6+n:Nat):Int))) none=some (cutV 1 (some ⟨b,o,none⟩) cap 6 (6+n)):=slc_both slc22 arr22 sz5 (l:=6) (m:=6+n) (n:=256) (by omega) (by omega) hcap;have y4:By w1 (cutV 1 (some ⟨b,o,none⟩) cap 6 (6+n)) ((raw.drop 6).take (6+n - 6)):=By.slc (hp.fr0 f1) (by omega) (by omega);rw[show 6+n - 6=n by omega]at y4;obtain⟨v5,w5,hr5,b5,f5,g5,m5⟩:=NwB.catB (P:=prog) app22_22 (NwB.nil w0 w1) y4 (by simp;omega) f1;rw[List.nil_append]at b5;simp -implicitDefEqProofs only[go_sem,jY,yG,c1,s4];refine qQj ⟨v5,w5,hr5,?_⟩;simp -implicitDefEqProofs only[go_sem,jY];exact⟨f5,_,rfl,b5⟩
end A
end
section
open Go.Proofs
namespace A
open Aud
theorem le4 (h:4≤b.length):le (b.take 4)=(b.getD 0 0).toNat+256*(b.getD 1 0).toNat+65536*(b.getD 2 0).toNat+16777216*(b.getD 3 0).toNat:=by
 match b,h with
 | x::y::z::u::r,_ =>
  show x.toNat+256*(y.toNat+256*(z.toNat+256*(u.toNat+256*0)))=_;simp only[gDq,List.getElem?_cons_zero,List.getElem?_cons_succ,Option.getD_some];omega
theorem or4 {x y z u:Byte}:orK .i64 (orK .i64 (orK .i64 (x.toNat:Int) (shlK .i64 (y.toNat:Int) 8)) (shlK .i64 (z.toNat:Int) 16)) (shlK .i64 (u.toNat:Int) 24)=((x.toNat+256*y.toNat+65536*z.toNat+16777216*u.toNat:Nat):Int):=by
 have hx:=x.isLt;have hy:=y.isLt;have hz:=z.isLt;have hu:=u.isLt;have s1:shlK .i64 (y.toNat:Int) 8=((y.toNat*2 ^ 8:Nat):Int):=shl64i _ 8 (by omega) (by omega);have s2:shlK .i64 (z.toNat:Int) 16=((z.toNat*2 ^ 16:Nat):Int):=shl64i _ 16 (by omega) (by omega);have s3:shlK .i64 (u.toNat:Int) 24=((u.toNat*2 ^ 24:Nat):Int):=shl64i _ 24 (by omega) (by omega);rw[s1,or64' (k:=8) (by omega) (by omega),s2,or64' (k:=16) (by omega) (by omega),s3,or64' (k:=24) (by omega) (by omega)];have:x.toNat+y.toNat*2 ^ 8+z.toNat*2 ^ 16+u.toNat*2 ^ 24=x.toNat+256*y.toNat+65536*z.toNat+16777216*u.toNat:=by omega
 rw[this]
theorem By.four {a:Option Addr}{bs:Bs}(h:By w (.slice a n cap) bs)(hk:k+4≤bs.length):∃ b o,a=some ⟨b,o,none⟩∧∀ j,j<4→rdO prog 5 w b (o+(k+j))=some (.int .u8 ((bs.getD (k+j) 0).toNat:Int)):=by
 obtain⟨b,o,cap',e,_⟩:=h.pos (by omega);have hn:=h.len;subst hn;cases e;exact⟨b,o,rfl,fun j hj=>h.get agg5 (by omega)⟩
theorem four (w:World){bs:Bs}(hp:By w p bs)(h4:4≤bs.length)(hl:bs.length<2 ^ 62) :
  Fn prog 242 #[p] w fun v w'=>v=.int .i64 (le (bs.take 4))∧No w w':=by
 obtain⟨a,cap,rfl,hcap⟩:=hp.slice;obtain⟨b,o,rfl,r⟩:=By.four hp (k:=0) (by omega);refine go242 (by simp) ?_;have r0:=r 0 (by omega);have r1:=r 1 (by omega);have r2:=r 2 (by omega);have r3:=r 3 (by omega);simp only[zB,jA]at r0 r1 r2 r3;have i0:(0:Int)≤0∧(0:Int)<(bs.length:Int):=by omega
 have i1:(0:Int)≤1∧(1:Int)<(bs.length:Int):=by omega
 have i2:(0:Int)≤2∧(2:Int)<(bs.length:Int):=by omega
 have i3:(0:Int)≤3∧(3:Int)<(bs.length:Int):=by omega
 have key:_=((le (bs.take 4):Nat):Int):=(or4 (x:=bs.getD 0 0) (y:=bs.getD 1 0) (z:=bs.getD 2 0) (u:=bs.getD 3 0)).trans (congrArg _ (le4 h4).symm);generalize ((le (bs.take 4):Nat):Int)=N at *;have e0:=ext8i (bs.getD 0 0);have e1:=ext8i (bs.getD 1 0);have e2:=ext8i (bs.getD 2 0);have e3:=ext8i (bs.getD 3 0);generalize ((bs.getD 0 0).toNat:Int)=x0 at *;generalize ((bs.getD 1 0).toNat:Int)=x1 at *;generalize ((bs.getD 2 0).toNat:Int)=x2 at *;generalize ((bs.getD 3 0).toNat:Int)=x3 at *
 obtain⟨a1,g1⟩:∃ a,shlK .i64 x1 8=a:=⟨_,rfl⟩
 rw[g1]at key
 obtain⟨b1,g2⟩:∃ a,orK .i64 x0 a1=a:=⟨_,rfl⟩
 rw[g2]at key
 obtain⟨a2,g3⟩:∃ a,shlK .i64 x2 16=a:=⟨_,rfl⟩
 rw[g3]at key
 obtain⟨b2,g4⟩:∃ a,orK .i64 b1 a2=a:=⟨_,rfl⟩
 rw[g4]at key
 obtain⟨a3,g5⟩:∃ a,shlK .i64 x3 24=a:=⟨_,rfl⟩
 rw[g5]at key;have s1:¬ ((8:Int)<0):=by decide
 have s2:¬ ((16:Int)<0):=by decide
 have s3:¬ ((24:Int)<0):=by decide
 simp -implicitDefEqProofs only[go_sem,jY,Tryz.f242,i0,i1,i2,i3,and_self,if_true,Int.reduceToNat,jU,r0,r1,r2,r3,e0,e1,e2,e3,s1,s2,s3,if_false,g1,g2,g3,g4,g5,key];exact (Fr.refl _ _).drew
abbrev z32:Bs:=List.replicate 32 0
def lfC (k:Bs)(vv:Value):List Value:=k.map u8++[vv]
def cdC (p c:Nat)(s:Bs):List Value:=[.int .i64 (p:Nat),.int .i64 (c:Nat)]++s.map u8
theorem lfC_len {k:Bs}(h:k.length=32)(vv:Value):(lfC k vv).length=33:=by simp[lfC,h]
theorem qXn (h:s.length=32)(p c:Nat):(cdC p c s).length=34:=by simp[cdC,h]
theorem lfC_one (k:Bs)(h:one vv=true):(lfC k vv).all one=true:=by simp only[lfC,yN,qXy,yD,h,yP,Bool.and_self]
theorem cdC_one (p c:Nat)(s:Bs):(cdC p c s).all one=true:=by simp only[cdC,yN,qXy,yD,yP,yF];rfl
theorem leafStands (w0:World){k val:Bs}(hk:k.length=32)(hv:By w0 vv val):Fn prog 246 #[.agg (lfC k vv).toArray] w0 fun v w'=>v=.bool (decide (val.length≤128))∧No w0 w':=by
 obtain⟨a,cap,rfl,hcap⟩:=hv.slice;refine go246 (by simp) ?_;obtain⟨W,hW,f1,k1,s1⟩:=qQl w0 (lfC k (.slice a val.length cap)).toArray 315;have r1:rdO prog 22 W w0.heap.size 32=some (.slice a val.length cap):=rd_one (r:=[]) (a:=k.map u8) agg22 k1 (by simp[hk]);have d1:decide ((val.length:Int)≤128)=decide (val.length≤128):=decide_eq_decide.2 ⟨fun h=>by omega,fun h=>by omega⟩;simp -implicitDefEqProofs only[go_sem,jY,gLa,gLz,jH,zB,Tryz.f246,hW,r1,d1];exact f1
theorem strCd:strucO prog 318=some [(false,3,0),(false,3,1),(false,75,2)]:=by kernel_rfl
theorem stCd:prog.stoodInHeld 318=false:=by kernel_rfl
theorem bldCd0:bldO prog 318 []=some (.agg (cdC 0 0 z32).toArray):=by
 rw[qJw zero318 places318 (c:=(cdC 0 0 z32).toArray) (by kernel_rfl)];rfl
theorem eqCd {p c p' c':Nat}{s s':Bs}(h:s.length=32)(h':s'.length=32):eqV prog Op.maxDepth 318 (.agg (cdC p c s).toArray) (.agg (cdC p' c' s').toArray)=some (decide (p=p'∧c=c'∧s=s')):=by
 rw[show Op.maxDepth=9997+1+1+1 from rfl,eqV_st strCd stCd]
 have x:∀ {p c:Nat} {s:Bs},s.length=32→(cdC p c s).toArray.extract 2 (2+32)=(s.map u8).toArray:=fun {p c s} h=>by
  apply Array.toList_inj.1;simp[cdC];exact List.take_of_length_le (by simp[h])
 have g:∀ {p c:Nat} {s:Bs},(cdC p c s).toArray[0]?=some (.int .i64 (p:Nat))∧(cdC p c s).toArray[1]?=some (.int .i64 (c:Nat)):=fun {p c s}=>⟨rfl,rfl⟩
 simp only[List.mapM_cons,List.mapM_nil,qKd agg3,part_agg agg75 sz75,qD,if_false,x h,x h',g.1,g.2,Option.bind_some,eqV_i int3,eqV_dg arr75 int5 sz5 agg5 h h',Option.pure_def,Option.bind_eq_bind,Option.map_some,yD,yP,id,yF]
 congr 1
 rw[Bool.eq_iff_iff]
 simp
theorem childStands (w0:World)(p c:Nat)(h:s.length=32):Fn prog 247 #[.agg (cdC p c s).toArray] w0 fun v w'=>v=.bool (decide (chR p c s))∧No w0 w':=by
 refine go247 (by simp) ?_;obtain⟨W,hW,f1,k1,s1⟩:=qQl w0 (cdC p c s).toArray 318;have r0:rdO prog 3 W w0.heap.size 0=some (.int .i64 (p:Nat)):=rd1 agg3 k1 rfl;have r1:rdO prog 3 W w0.heap.size 1=some (.int .i64 (c:Nat)):=rd1 agg3 k1 rfl;have l1:=qQo (P:=prog) (t:=318) agg318 sz318 k1 (by simp[qXn h]);have n0:=nateq p 0;have e0:=eqCd (p:=p) (c:=c) (p':=0) (c':=0) h (show z32.length=32 by simp)
 by_cases h0:p=0
 ·have n0:((p:Int) == 0)=true:=by rw[h0];rfl
  have e:decide (chR p c s)=decide (p=0∧c=0∧s=z32):=decide_eq_decide.2 (by unfold chR;rw[if_pos h0];exact⟨fun h=>⟨h0,h⟩,fun h=>h.2⟩);simp -implicitDefEqProofs only[go_sem,jY,jH,zB,Tryz.f247,hW,r0,n0,l1,bldCd0,e0,eqg318,e];exact f1
 have n0:((p:Int) == 0)=false:=by rw[bFn];omega
 have e:decide (chR p c s)=decide (2≤p∧p<4096∧0<c∧c≤4096):=decide_eq_decide.2 (by unfold chR;rw[if_neg h0]);rw[e]
 by_cases h1:2≤p
 case neg =>
  have d1:=dFo (2≤(p:Int));have e:decide (2≤p∧p<4096∧0<c∧c≤4096)=false:=decide_eq_false fun h=>h1 h.1;simp -implicitDefEqProofs only[go_sem,jY,gLa,gLz,gLs,jH,qQt,zB,Tryz.f247,hW,r0,n0,d1,e];exact f1
 have d1:=dTo (2≤(p:Int))
 by_cases h2:p<4096
 case neg =>
  have d2:=dFo ((p:Int)<4096);have e:decide (2≤p∧p<4096∧0<c∧c≤4096)=false:=decide_eq_false fun h=>h2 h.2.1;simp -implicitDefEqProofs only[go_sem,jY,gLa,gLz,gLs,jH,bSe,qQt,zB,Tryz.f247,hW,r0,n0,d1,d2,e];exact f1
 have d2:=dTo ((p:Int)<4096)
 by_cases h3:0<c
 case neg =>
  have d3:=dFo (0<(c:Int));have e:decide (2≤p∧p<4096∧0<c∧c≤4096)=false:=decide_eq_false fun h=>h3 h.2.2.1;simp -implicitDefEqProofs only[go_sem,jY,gLa,gLz,gLs,jH,bSe,qQt,zB,Tryz.f247,hW,r0,r1,n0,d1,d2,d3,e];exact f1
 have d3:=dTo (0<(c:Int));have d4:decide ((c:Int)≤4096)=decide (c≤4096):=decide_eq_decide.2 ⟨fun h=>by omega,fun h=>by omega⟩;have e:decide (2≤p∧p<4096∧0<c∧c≤4096)=decide (c≤4096):=decide_eq_decide.2 ⟨fun h=>h.2.2.2,fun h=>⟨h1,h2,h3,h⟩⟩;simp -implicitDefEqProofs only[go_sem,jY,gLa,gLz,gLs,jH,bSe,zB,Tryz.f247,hW,r0,r1,n0,d1,d2,d3,d4,e];exact f1
theorem brStands (w0:World)(lp lc rp rc:Nat){ls rs:Bs}(hl:ls.length=32)(hr:rs.length=32)(h1:lc<2 ^ 32)(h2:rc<2 ^ 32):Fn prog 249 #[.agg (cdC lp lc ls++cdC rp rc rs).toArray] w0 fun v w'=>v=.bool (decide (brR lp rp lc rc ls rs))∧No w0 w':=by
 refine go249 (by simp) ?_;obtain⟨W,hW,f1,k1,s1⟩:=qQl w0 (cdC lp lc ls++cdC rp rc rs).toArray 320;have r0:rdO prog 3 W w0.heap.size 0=some (.int .i64 (lp:Nat)):=rd1 agg3 k1 rfl;have r1:rdO prog 3 W w0.heap.size 1=some (.int .i64 (lc:Nat)):=rd1 agg3 k1 rfl;have e34:(cdC lp lc ls++cdC rp rc rs)=cdC lp lc ls++.int .i64 (rp:Nat)::.int .i64 (rc:Nat)::rs.map u8:=rfl;have e35:(cdC lp lc ls++cdC rp rc rs)=(cdC lp lc ls++[.int .i64 (rp:Nat)])++.int .i64 (rc:Nat)::rs.map u8:=by rw[e34];simp
 have r34:∀ W',W'.heap[w0.heap.size]?=some (.cells (cdC lp lc ls++cdC rp rc rs).toArray 320 (0,0))→rdO prog 3 W' w0.heap.size 34=some (.int .i64 (rp:Nat))∧rdO prog 3 W' w0.heap.size 0=some (.int .i64 (lp:Nat)):=fun W' k1=>⟨rd_one agg3 (by rw[e34]at k1;exact k1) (qXn hl _ _),rd1 agg3 k1 rfl⟩
 have r35:rdO prog 3 W w0.heap.size 35=some (.int .i64 (rc:Nat)):=rd_one agg3 (by rw[e35]at k1;exact k1) (by simp[qXn hl])
 have ll:∀ W',W'.heap[w0.heap.size]?=some (.cells (cdC lp lc ls++cdC rp rc rs).toArray 320 (0,0))→rdO prog 318 W' w0.heap.size 0=some (.agg (cdC lp lc ls).toArray)∧rdO prog 318 W' w0.heap.size 34=some (.agg (cdC rp rc rs).toArray):=fun W' k1 =>
  ⟨qJg (a:=[]) (m:=cdC lp lc ls) (r:=cdC rp rc rs) agg318 (by rw[qXn hl];exact sz318) (by rw[qXn hl];omega) k1 rfl,qJg (a:=cdC lp lc ls) (m:=cdC rp rc rs) (r:=[]) agg318 (by rw[qXn hr];exact sz318) (by rw[qXn hr];omega) (by rw[List.append_nil];exact k1) (qXn hl _ _)⟩
 have c1:IntKind.i64.wrap ((lc:Int)+(rc:Int))=((lc+rc:Nat):Int):=qXi;obtain⟨la,_⟩:=ll W k1;simp -implicitDefEqProofs only[go_sem,jY,Nat.reduceAdd,jH,zB,Tryz.f249,hW,r1,r35,c1,la];refine qQa pl247 ((childStands W lp lc hl).mono ?_);rintro _ w2 ⟨rfl,f2⟩
 by_cases hA:chR lp lc ls
 case neg =>
  have e:decide (brR lp rp lc rc ls rs)=false:=decide_eq_false fun h=>hA h.1;rw[decide_eq_false hA];simp -implicitDefEqProofs only[go_sem,jY,gLa,gLz,gLs,qQt,e];exact f1.trans f2
 rw[decide_eq_true hA];obtain⟨_,lb⟩:=ll w2 (f2.at k1 id);simp -implicitDefEqProofs only[go_sem,jY,gLa,gLz,gLs,bSe,zB,lb];refine qQa pl247 ((childStands w2 rp rc hr).mono ?_);rintro _ w3 ⟨rfl,f3⟩
 by_cases hB:chR rp rc rs
 case neg =>
  have e:decide (brR lp rp lc rc ls rs)=false:=decide_eq_false fun h=>hB h.2.1;rw[decide_eq_false hB];simp -implicitDefEqProofs only[go_sem,jY,gLa,gLz,gLs,qQt,e];exact (f1.trans f2).trans f3
 rw[decide_eq_true hB];obtain⟨q34,q0⟩:=r34 w3 (f3.at (f2.at k1 id) id);have n1:=natne lp rp
 by_cases hC:lp=rp
 ·rw[decide_eq_false (not_not_intro hC)]at n1
  have e:decide (brR lp rp lc rc ls rs)=false:=decide_eq_false fun h=>h.2.2.1 hC;simp -implicitDefEqProofs only[go_sem,jY,gLa,gLz,gLs,bSe,qQt,zB,jA,q34,q0,n1,e];exact (f1.trans f2).trans f3
 rw[decide_eq_true hC]at n1
 by_cases hD:2≤lc+rc
 case neg =>
  have d1:=dFo (2≤((lc+rc:Nat):Int));have e:decide (brR lp rp lc rc ls rs)=false:=decide_eq_false fun h=>hD h.2.2.2.1;simp -implicitDefEqProofs only[go_sem,jY,gLa,gLz,gLs,bSe,qQt,zB,jA,q34,q0,n1,d1,e];exact (f1.trans f2).trans f3
 have d1:=dTo (2≤((lc+rc:Nat):Int));have d2:decide (((lc+rc:Nat):Int)≤4096)=decide (lc+rc≤4096):=decide_eq_decide.2 ⟨fun h=>by omega,fun h=>by omega⟩;have e:decide (brR lp rp lc rc ls rs)=decide (lc+rc≤4096):=decide_eq_decide.2 ⟨fun h=>h.2.2.2.2,fun h=>⟨hA,hB,hC,hD,h⟩⟩;simp -implicitDefEqProofs only[go_sem,jY,gLa,gLz,gLs,bSe,zB,jA,q34,q0,n1,d1,d2,e];exact (f1.trans f2).trans f3
end A
end
section
open Go.Proofs
namespace A
open Aud
def rcC (r:Rc):List Value:=[.int .i64 (r.ver:Nat),.int .i64 (r.first:Nat),.int .i64 (r.prev:Nat),.int .i64 (r.skip:Nat),.int .i64 (r.root:Nat),.int .i64 (r.count:Nat)]++r.sum.map u8
theorem qXh {r:Rc}(h:r.sum.length=32):(rcC r).length=38:=by simp[rcC,h]
theorem qJp (r:Rc):(rcC r).all one=true:=by simp only[rcC,yN,qXy,yD,yP,yF];rfl
theorem isPage (w:World)(p:Nat):Fn prog 240 #[.int .i64 (p:Nat)] w fun v w'=>v=.bool (decide (isPg p))∧w'=w:=by
 refine go240 (by simp) ?_
 by_cases h1:2≤p
 ·have d1:=dTo (2≤(p:Int))
  have e:decide (isPg p)=decide ((p:Int)<4096):=decide_eq_decide.2 ⟨fun h=>by have:=h.2;omega,fun h=>⟨h1,by omega⟩⟩;simp -implicitDefEqProofs only[go_sem,jY,gLa,gLz,gLs,bSe,Tryz.f240,d1,e]
 ·have d1:=dFo (2≤(p:Int))
  have e:decide (isPg p)=false:=decide_eq_false fun h=>h1 h.1;simp -implicitDefEqProofs only[go_sem,jY,gLa,gLz,gLs,qQt,Tryz.f240,d1,e]
theorem held (w:World)(r c:Nat):Fn prog 239 #[.int .i64 (r:Nat),.int .i64 (c:Nat)] w fun v w'=>v=.bool (decide (held r c))∧w'=w:=by
 refine go239 (by simp) ?_
 by_cases h0:r=0
 ·have e0:((r:Int) == 0)=true:=by rw[h0];rfl
  have n0:((r:Int) != 0)=false:=by rw[h0];rfl
  have e:decide (Aud.held r c)=((c:Int) == 0):=by
   rw[show ((c:Int) == 0)=decide (c=0) from nateq c 0];exact decide_eq_decide.2 ⟨fun h=>h.elim (fun h=>h.2) fun h=>absurd h0 h.1,fun h=>.inl ⟨h0,h⟩⟩
  cases hc:((c:Int) == 0) with
  | true=>simp -implicitDefEqProofs only[go_sem,jY,gLa,gLz,gLs,bSe,qXq,zB,Tryz.f239,e0,hc,e,undef]
  | false=>simp -implicitDefEqProofs only[go_sem,jY,gLa,gLz,gLs,bSe,qQt,zB,Tryz.f239,e0,n0,hc,e,undef]
 ·have e0:((r:Int) == 0)=false:=by rw[bFn];omega
  have n0:((r:Int) != 0)=true:=by rw[bne,e0];rfl
  by_cases h1:0<c
  ·have d1:=dTo (0<(c:Int))
   have e:decide (Aud.held r c)=decide ((c:Int)≤4096):=decide_eq_decide.2 ⟨fun h=>h.elim (fun h=>absurd h.1 h0) fun h=>by omega,fun h=>.inr ⟨h0,h1,by omega⟩⟩;simp -implicitDefEqProofs only[go_sem,jY,gLa,gLz,gLs,bSe,qQt,zB,Tryz.f239,e0,n0,d1,e]
  ·have d1:=dFo (0<(c:Int))
   have e:decide (Aud.held r c)=false:=decide_eq_false fun h=>h.elim (fun h=>absurd h.1 h0) fun h=>h1 h.2.1;simp -implicitDefEqProofs only[go_sem,jY,gLa,gLz,gLs,bSe,qQt,zB,Tryz.f239,e0,n0,d1,e]
theorem number (w:World)(r:Rc)(h1:r.first≤r.ver)(h2:r.ver≤2 ^ 40):Fn prog 241 #[.agg (rcC r).toArray] w fun v w'=>v=.int .i64 (r.num:Nat)∧No w w':=by
 refine go241 (by simp) ?_;obtain⟨W,hW,f1,k1,s1⟩:=qQl w (rcC r).toArray 80;have r0:rdO prog 3 W w.heap.size 0=some (.int .i64 (r.ver:Nat)):=rd1 agg3 k1 rfl;have r1:rdO prog 3 W w.heap.size 1=some (.int .i64 (r.first:Nat)):=rd1 agg3 k1 rfl
 by_cases h0:r.first=0
 ·have e0:((r.first:Int) == 0)=true:=by rw[h0];rfl
  have e:r.num=r.ver:=if_pos h0;simp -implicitDefEqProofs only[go_sem,jY,jH,zB,Tryz.f241,hW,r0,r1,e0,e];exact f1
 ·have e0:((r.first:Int) == 0)=false:=by rw[bFn];omega
  have e:r.num=r.ver - r.first+1:=if_neg h0;have c1:IntKind.i64.wrap ((r.ver:Int) - (r.first:Int))=((r.ver - r.first:Nat):Int):=qZj h1 (by omega);have c2:IntKind.i64.wrap (((r.ver - r.first:Nat):Int)+1)=((r.ver - r.first+1:Nat):Int):=qXi (b:=1);simp -implicitDefEqProofs only[go_sem,jY,jH,zB,Tryz.f241,hW,r0,r1,e0,c1,c2,e];exact f1
theorem and64 (a b:Nat)(ha:a<2 ^ 62)(hb:b<2 ^ 62):andK .i64 (a:Int) (b:Int)=((a &&& b:Nat):Int):=by
 have e:andK .i64 (a:Int) (b:Int)=IntKind.i64.wrap (((qQ 64 (a:Int) &&& qQ 64 (b:Int)).toNat:Nat):Int):=rfl;have h1:a<2 ^ 64:=by omega
 have h2:b<2 ^ 64:=by omega
 have h3:a &&& b≤a:=Nat.and_le_left;rw[e,yU,xK,xK,zM,zM,yQ h1,yQ h2,qQm (by omega) (by omega)]
theorem right (w0:World)(r:Rc)(hs:r.sum.length=32)(hv:r.ver<2 ^ 32)(hf:r.first<2 ^ 32):Fn prog 236 #[.agg (rcC r).toArray] w0 fun v w'=>v=.bool (decide r.right)∧No w0 w':=by
 refine go236 (by simp) ?_;unfold DenF;refine den_cut 2 ?_;obtain⟨W,hW,f1,k1,s1⟩:=qQl w0 (rcC r).toArray 80
 have rr:∀ w:World, w.heap[w0.heap.size]?=some (.cells (rcC r).toArray 80 (0, 0)) →
   rdO prog 3 w w0.heap.size 0=some (.int .i64 (r.ver:Nat))∧rdO prog 3 w w0.heap.size 1=some (.int .i64 (r.first:Nat))∧rdO prog 3 w w0.heap.size 2=some (.int .i64 (r.prev:Nat))∧rdO prog 3 w w0.heap.size 3=some (.int .i64 (r.skip:Nat))∧rdO prog 3 w w0.heap.size 4=some (.int .i64 (r.root:Nat))∧rdO prog 3 w w0.heap.size 5=some (.int .i64 (r.count:Nat)):=fun w k =>
  ⟨rd1 agg3 k rfl,rd1 agg3 k rfl,rd1 agg3 k rfl,rd1 agg3 k rfl,rd1 agg3 k rfl,rd1 agg3 k rfl⟩
 obtain⟨a0,a1,a2,a3,a4,a5⟩:=rr W k1;have g0:=dFo ((r.first:Int)<0);have bad:∀ {p:Prop},(r.right→p)→¬ p→decide r.right=false:=fun h hp=>decide_eq_false fun h'=>hp (h h')
 by_cases h1:r.first≤1073741824
 case neg =>
  have d1:=dTo ((r.first:Int) > 1073741824);have e:=bad (fun h=>h.1) h1;simp -implicitDefEqProofs only[go_sem,jY,gLa,gLz,gLs,jH,bSe,qXq,zB,Tryz.f236,hW,a1,g0,d1,e];exact f1
 have d1:=dFo ((r.first:Int) > 1073741824)
 have em:(if (r.first:Int) > 1 then (r.first:Int) else 1)=((max 1 r.first:Nat):Int):=by
  split
  ·rw[Nat.max_eq_right (by omega)]
  ·rw[Nat.max_eq_left (by omega)];rfl
 by_cases h2:max 1 r.first≤r.ver
 case neg =>
  have d2:=dTo ((r.ver:Int)<((max 1 r.first:Nat):Int));have e:=bad (fun h=>h.2.1) h2;simp -implicitDefEqProofs only[go_sem,jY,gLa,gLz,gLs,jH,bSe,qXq,zB,Tryz.f236,hW,a0,a1,g0,d1,biP,maxL,em,d2,e];exact f1
 have d2:=dFo ((r.ver:Int)<((max 1 r.first:Nat):Int))
 by_cases h3:r.ver≤1073741824
 case neg =>
  have d3:=dTo ((r.ver:Int) > 1073741824);have e:=bad (fun h=>h.2.2.1) h3;simp -implicitDefEqProofs only[go_sem,jY,gLa,gLz,gLs,jH,bSe,zB,Tryz.f236,hW,a0,a1,g0,d1,biP,maxL,em,d2,d3,e];exact f1
 have d3:=dFo ((r.ver:Int) > 1073741824);simp -implicitDefEqProofs only[go_sem,jY,gLa,gLz,gLs,jH,bSe,zB,Tryz.f236,hW,a0,a1,g0,d1,biP,maxL,em,d2,d3];refine hold_go ?_;refine qXx (fun ev w=>ev 1=pt w0.heap.size 0∧No w0 w∧w.heap[w0.heap.size]?=some (.cells (rcC r).toArray 80 (0,0))∧Aud.held r.root r.count∧(r.root≠0→isPg r.root)) ?_ ?_
 ·simp -implicitDefEqProofs only[go_sem,jY,zB,a4,a5]
  refine qQa pl239 ((held W r.root r.count).mono ?_);rintro _ _ ⟨rfl,rfl⟩;rename_i W
  by_cases h4:Aud.held r.root r.count
  case neg =>
   have e:=bad (fun h=>h.2.2.2.1) h4;rw[decide_eq_false h4];simp -implicitDefEqProofs only[go_sem,jY,gLa,gLz,gLs,qXq,xG,zB,e];exact f1
  rw[decide_eq_true h4]
  by_cases h0:r.root=0
  ·have n4:((r.root:Int) != 0)=false:=by rw[h0];rfl
   simp -implicitDefEqProofs only[go_sem,jY,gLa,gLz,gLs,bSe,qQt,yG,zB,a4,n4];exact⟨f1,k1,h4,fun h=>absurd h0 h⟩
  ·have n4:((r.root:Int) != 0)=true:=by rw[show ((r.root:Int) != 0)=decide (r.root≠0) from natne r.root 0];exact decide_eq_true h0
   simp -implicitDefEqProofs only[go_sem,jY,gLa,gLz,gLs,bSe,yG,zB,a4,n4];refine qQa pl240 ((isPage W r.root).mono ?_);rintro _ _ ⟨rfl,rfl⟩;rename_i W
   by_cases h5:isPg r.root
   ·rw[decide_eq_true h5]
    simp -implicitDefEqProofs only[go_sem,jY,gLa,gLz,gLs,bSe,yG];exact⟨f1,k1,h4,fun _=>h5⟩
   ·have e:=bad (fun h=>h.2.2.2.2.1 h0) h5
    rw[decide_eq_false h5];simp -implicitDefEqProofs only[go_sem,jY,gLa,gLz,gLs,bSe,xG,e];exact f1
 ·clear a0 a1 a2 a3 a4 a5 k1 f1 hW
  rintro ev w ⟨e1,f1,k1,h4,h5⟩;obtain⟨a0,a1,a2,a3,a4,a5⟩:=rr w k1;have ld:=qQo (P:=prog) (t:=80) agg80 sz80 k1 (by simp[qXh hs]);simp -implicitDefEqProofs only[go_sem,e1,ld];refine qQa pl241 ((number w r (by omega) (by omega)).mono ?_);rintro _ w2 ⟨rfl,f2⟩;have f02:=f1.trans f2;have k2:=f2.at k1 id;obtain⟨a0,a1,a2,a3,a4,a5⟩:=rr w2 k2
  have hnl:r.num≤r.ver:=by unfold Rc.num;split <;> omega
  have hn1:1≤r.num:=by unfold Rc.num;split <;> omega
  have all:∀ p:Prop,[Decidable p]→(p ↔ (if r.num=1 then r.prev=0∧r.skip=0 else isPg r.prev∧skipOk r.num r.prev r.skip))→decide r.right=decide p:=fun p _ hp=>decide_eq_decide.2 ⟨fun h=>hp.2 h.2.2.2.2.2,fun h=>⟨h1,h2,h3,h4,h5,hp.1 h⟩⟩
  by_cases hN:r.num=1
  ·have i1:((r.num:Int) == 1)=true:=by rw[hN];rfl
   have n2:((r.prev:Int) == 0)=decide (r.prev=0):=nateq r.prev 0;have n3:((r.skip:Int) == 0)=decide (r.skip=0):=nateq r.skip 0
   by_cases hp:r.prev=0
   ·have e:=all (r.skip=0) (by rw[if_pos hN];exact⟨fun h=>⟨hp,h⟩,fun h=>h.2⟩)
    rw[decide_eq_true hp]at n2;simp -implicitDefEqProofs only[go_sem,jY,gLa,gLz,gLs,bSe,zB,e1,i1,a2,a3,n2,n3,e];exact f02
   ·have e:=all False (by rw[if_pos hN];exact⟨fun h=>h.elim,fun h=>hp h.1⟩)
    rw[decide_eq_false hp]at n2;have e:decide r.right=false:=e.trans (decide_eq_false id);simp -implicitDefEqProofs only[go_sem,jY,gLa,gLz,gLs,qQt,zB,e1,i1,a2,n2,e];exact f02
  have i1:((r.num:Int) == 1)=false:=by rw[bFn];omega
  simp -implicitDefEqProofs only[go_sem,jY,zB,e1,i1,a2];refine qQa pl240 ((isPage w2 r.prev).mono ?_);rintro _ _ ⟨rfl,rfl⟩;rename_i w2
  by_cases hP:isPg r.prev
  case neg =>
   have e:=all False (by rw[if_neg hN];exact⟨fun h=>h.elim,fun h=>hP h.1⟩);have e:decide r.right=false:=e.trans (decide_eq_false id);rw[decide_eq_false hP];simp -implicitDefEqProofs only[go_sem,xG,e];exact f02
  rw[decide_eq_true hP];have c1:IntKind.i64.wrap ((r.num:Int) - 1)=((r.num - 1:Nat):Int):=qZj (b:=1) hn1 (by omega)
  obtain⟨y,hy⟩:∃ y,andK .i64 (r.num:Int) ((r.num - 1:Nat):Int)=y:=⟨_,rfl⟩
  have hy':y=((far r.num:Nat):Int):=hy.symm.trans (and64 _ _ (by omega) (by omega));have q0:(y == 0)=decide (far r.num=0):=by rw[hy'];exact nateq _ 0
  have q1:(y == ((r.num - 1:Nat):Int))=decide (far r.num=r.num - 1):=by rw[hy'];exact nateq _ _
  by_cases hf0:far r.num=0
  ·rw[decide_eq_true hf0]at q0
   have n3:((r.skip:Int) == 0)=decide (r.skip=0):=nateq r.skip 0;have e:=all (r.skip=0) (by rw[if_neg hN];unfold skipOk;rw[if_pos hf0];exact⟨fun h=>⟨hP,h⟩,fun h=>h.2⟩);simp -implicitDefEqProofs only[go_sem,jY,yG,zB,e1,c1,hy,q0,a3,n3,e];exact f02
  rw[decide_eq_false hf0]at q0
  by_cases hf1:far r.num=r.num - 1
  ·rw[decide_eq_true hf1]at q1
   have n3:((r.skip:Int) == (r.prev:Int))=decide (r.skip=r.prev):=nateq r.skip r.prev;have e:=all (r.skip=r.prev) (by rw[if_neg hN];unfold skipOk;rw[if_neg hf0,if_pos hf1];exact⟨fun h=>⟨hP,h⟩,fun h=>h.2⟩);simp -implicitDefEqProofs only[go_sem,jY,yG,zB,e1,c1,hy,q0,q1,a2,a3,n3,e];exact f02
  rw[decide_eq_false hf1]at q1;simp -implicitDefEqProofs only[go_sem,jY,yG,zB,e1,c1,hy,q0,q1,a3];refine qQa pl240 ((isPage w2 r.skip).mono ?_);rintro _ _ ⟨rfl,rfl⟩;rename_i w2
  by_cases hS:isPg r.skip
  ·have d9:decide ((r.skip:Int)<(r.prev:Int))=decide (r.skip<r.prev):=decide_eq_decide.2 ⟨fun h=>by omega,fun h=>by omega⟩
   have e:=all (r.skip<r.prev) (by rw[if_neg hN];unfold skipOk;rw[if_neg hf0,if_neg hf1];exact⟨fun h=>⟨hP,hS,h⟩,fun h=>h.2.2⟩);rw[decide_eq_true hS];simp -implicitDefEqProofs only[go_sem,jY,gLa,gLz,gLs,bSe,zB,e1,a2,a3,d9,e];exact f02
  ·have e:=all False (by rw[if_neg hN];unfold skipOk;rw[if_neg hf0,if_neg hf1];exact⟨fun h=>h.elim,fun h=>hS h.2.1⟩)
   have e:decide r.right=false:=e.trans (decide_eq_false id);rw[decide_eq_false hS];simp -implicitDefEqProofs only[go_sem,jY,gLa,gLz,gLs,qQt,e];exact f02
end A
end
end Go.V
