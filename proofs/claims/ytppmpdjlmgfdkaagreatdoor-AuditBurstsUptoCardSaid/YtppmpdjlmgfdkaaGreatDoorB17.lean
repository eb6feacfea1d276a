/- Helpers. -/
import Derived.Test.YtppmpdjlmgfdkaaGreatDoorB10
import Derived.Test.YtppmpdjlmgfdkaaGreatDoorB06
import Derived.Test.YtppmpdjlmgfdkaaGreatDoorB15
import Derived.Test.YtppmpdjlmgfdkaaGreatDoorB04
import Derived.Test.YtppmpdjlmgfdkaaGreatDoorB05
import Derived.Test.YtppmpdjlmgfdkaaGreatDoorB08
import Derived.Test.YtppmpdjlmgfdkaaGreatDoorB13
import Derived.Test.YtppmpdjlmgfdkaaGreatDoorB12
set_option linter.all false
set_option maxRecDepth 100000
set_option maxHeartbeats 8000000
open Array renaming replicate->jA
open BitVec renaming ofInt_natCast->xW,toNat_ofNat->zZ,ofInt->qQ,toNat_and->vJ
open Bool renaming not_true->vK,not_false->xH,and_true->vV,and_self->vW,false_eq_true->qP
open List renaming replicate->zK,all_append->vY,append_nil->zO,getElem_cons_zero->vU,all_cons->vG,nil_append->zL,take_of_length_le->zG,getElem_cons_succ->jX,all_nil->vF
open Nat renaming reduceEqDiff->yJ,zero_add->jY,reduceBEq->yY,mod_eq_of_lt->yE,lt_irrefl->yU,mul_one->yK,add_zero->yF,reduceAdd->vH,mul_comm->vB,le_refl->xC,two_pow_add_eq_or_of_lt->vD
open Option renaming map->yM,bind_some->qV
open Go.Value renaming cells->yN,int->vM,agg->vN
namespace Go.V
open Go.Proofs.Tryz Go.V.Tryz
variable {b k ls rs s val:Bs} {bs:List Byte} {cap i n:Nat} {p vv:Value} {w:World}
section
open Go.Proofs
def crcA:Array Value:=(crcT.map u32).toArray
theorem bldCrc:bldO prog 268 [(0,.int .u32 0),(1,.int .u32 498536548),(2,.int .u32 997073096),(3,.int .u32 651767980),(4,.int .u32 1994146192),(5,.int .u32 1802195444),(6,.int .u32 1303535960),(7,.int .u32 1342533948),(8,.int .u32 3988292384),(9,.int .u32 4027552580),(10,.int .u32 3604390888),(11,.int .u32 3412177804),(12,.int .u32 2607071920),(13,.int .u32 2262029012),(14,.int .u32 2685067896),(15,.int .u32 3183342108)]=some (.agg crcA):=by
 unfold bldO;rw[zero268,places268,arr268];simp only[qV,sz34];rfl
theorem crcA_get (h:i<16):crcA[i]?=some (u32 (crcT.getD i 0)):=by
 have:crcT.length=16:=rfl;simp[crcA,h,this]
theorem and15 (r:W32):(r &&& 15#32).toNat<16:=by
 rw[vJ];exact Nat.lt_of_le_of_lt Nat.and_le_right x9
def feedI (A:World)(r:W32)(a:Option Addr)(cap:Nat)(bs:List Byte)(m:Nat)(vs:List Value)(w:World):Prop :=
 ∃ (i:Nat) (y:Value),vs=[u32 (qKf r (bs.take i)),pt A.heap.size 0,y,.slice a bs.length cap,.int .i64 bs.length,.int .i64 i]/\i<=bs.length/\m=bs.length - i/\w.heap[A.heap.size]?=some (.cells crcA 268 (0,0))/\No A w
theorem feed (w:World)(r:W32)(R:By w p bs)(hl:bs.length<2 ^ 62) :
  Fn prog 189 #[u32 r,p] w fun v w'=>v=u32 (qKf r bs)/\No w w':=by
 obtain⟨a,cap,rfl,I,E⟩:=R.at;refine go189 sm ?_
 have J:wrO prog 268 (w.alloc (.cells (jA 16 (.int .u32 0)) 268)) w.heap.size 0 (.agg crcA)=some (put (w.alloc (.cells (jA 16 (.int .u32 0)) 268)) w.heap.size (.cells crcA 268 (0,0))) :=
  qQr (by rw[sz268];rfl) (qQb _ _) rfl (by rw[<- Array.all_toList];rfl)
 generalize L:put (w.alloc (.cells (jA 16 (.int .u32 0)) 268)) w.heap.size (.cells crcA 268 (0,0))=W at J
 have T:W.heap[w.heap.size]?=some (.cells crcA 268 (0,0)):=by
  rw[<- L];exact qZh _ (by rw[qQf];omega)
 have fr:No w W:=by rw[<- L];exact ((Fr.refl _ _).alloc _).put (b:=w.heap.size) _ fun h=>absurd h (yU _)
 simp -implicitDefEqProofs only[go_sem,yJ,Tryz.f189,bldCrc,yN,J];refine loopD [0,5,7,9,10,11] (feedI w r a cap bs) bs.length ⟨0,undef,by simp[upd,qKf],om,om,T,fr⟩ ?_;rintro m vs M g ⟨i,y,rfl,hi,rfl,N,fr⟩
 by_cases B:i<bs.length
 ·have O:=dTo ((i:Int)<(bs.length:Int))
  obtain⟨b,o,rfl,A⟩:=E i B;have c2:IntKind.i64.wrap ((i:Int)+1)=((i+1:Nat):Int):=by rw[qQq om om];rfl
  have U:(0:Int)<=(i:Int)/\(i:Int)<(bs.length:Int):=om
  rw[<- fr.rc (rc_lt A) id]at A;have V:rdO prog 5 M b (o+i)=some (u8 bs[i]):=rd_rc agg5 A;generalize Y:qKf r (bs.take i)=x;have H:∀ z:W32,andK .u32 (z.toNat:Int) 15=((z &&& 15#32).toNat:Int):=fun z=>and32n z 15;have Z:∀ z:W32,(0:Int)<=((z &&& 15#32).toNat:Int)/\((z &&& 15#32).toNat:Int)<((16:Nat):Int):=fun z=>by have:=and15 z;omega
  have r2:∀ z:W32,rdO prog 34 M w.heap.size (z &&& 15#32).toNat=some (u32 (crcT.getD (z &&& 15#32).toNat 0)):=fun z =>
   rd_rc agg34 (by rw[qXe N];exact crcA_get (and15 z))
  have s4:∀ z:W32,shrK .u32 (z.toNat:Int) 4=((z >>> 4).toNat:Int):=fun z=>shr32 z 4 om;simp -implicitDefEqProofs only[go_sem,yJ,U,and_self,iTn,yK,V,ext8,xor32,H,Z,r2,s4,Int.reduceLT,c2];refine⟨bs.length - (i+1),om,i+1,u8 bs[i],?_,om,rfl,N,fr⟩
  have e:qKf r (bs.take (i+1))=crcByte x bs[i]:=by
   rw[<- Y,qKf,tSg B,List.foldl_append];rfl
  rw[e];rfl
 ·have O:=dFo ((i:Int)<(bs.length:Int))
  have e:i=bs.length:=om
  subst e;simp -implicitDefEqProofs only[go_sem,yJ,O];exact⟨by rw[List.take_length],fr⟩
theorem update (w:World)(c:W32)(A:By w p bs)(B:bs.length<2 ^ 62) :
  Fn prog 179 #[u32 c,p] w fun v w'=>v=u32 (qKg c bs)/\No w w':=by
 refine go179 sm ?_;simp -implicitDefEqProofs only[go_sem,yJ,Tryz.f179,not32];refine qQa pl189 ((feed w (~~~ c) A B).mono ?_);rintro _ w' ⟨rfl,fr⟩;simp -implicitDefEqProofs only[go_sem,not32];exact⟨rfl,fr⟩
theorem sum (w:World)(A:By w p bs)(B:bs.length<2 ^ 62) :
  Fn prog 158 #[p] w fun v w'=>v=u32 (qKg 0 bs)/\No w w':=by
 refine go158 sm ?_;simp -implicitDefEqProofs only[go_sem,yJ,Tryz.f158];refine qQa pl179 ((update w 0 A B).mono ?_);rintro _ w' ⟨rfl,fr⟩;simp -implicitDefEqProofs only[go_sem];exact fr
theorem whole (w:World)(H:By w p bs)(hl:bs.length<2 ^ 62)(h4:4<=bs.length) :
  Fn prog 121 #[p] w fun v w'=>v=.bool (let n:=bs.length - 4;let c:=qKg 0 (bs.take n);
   bs.getD n 0 == c.setWidth 8 && bs.getD (n+1) 0 == (c >>> 8).setWidth 8 && bs.getD (n+2) 0 == (c >>> 16).setWidth 8 && bs.getD (n+3) 0 == (c >>> 24).setWidth 8)/\No w w':=by
 obtain⟨a,cap,rfl,I,A⟩:=H.at;refine go121 sm ?_;have c1:IntKind.i64.wrap ((bs.length:Int) - 4)=((bs.length - 4:Nat):Int):=by rw[qQq om om];omega
 have L:decide (((bs.length - 4:Nat):Int)<0)=false:=sm
 have sb:sbO (.int .i64 ((bs.length - 4:Nat):Int)) cap=some (bs.length - 4):=by
  simp only[sbO];rw[if_pos om,iTn]
 simp -implicitDefEqProofs only[go_sem,yJ,Tryz.f121,c1,L,qQw,optB,sb,Nat.sub_zero];refine qQa pl158 ((sum w (By.cut H (Nat.zero_le _) (show bs.length - 4<=bs.length by omega) rfl _ rfl) (by rw[lTk];omega)).mono ?_);rintro _ M ⟨rfl,fr⟩;simp only[List.drop_zero,Nat.sub_zero];generalize qKg 0 (bs.take (bs.length - 4))=c
 have at':∀ j,j<4->∃ b o,a=some ⟨b,o,none⟩/\rdO prog 5 M b (o+(bs.length - 4+j))=some (u8 (bs.getD (bs.length - 4+j) 0)):=fun j hj=>by
  obtain⟨b,o,rfl,h⟩:=A (bs.length - 4+j) om;rw[qQt 0 (show bs.length - 4+j<bs.length by omega)];exact⟨b,o,rfl,rd_rc agg5 (by rw[fr.rc (rc_lt h) id];exact h)⟩
 obtain⟨b,o,rfl,J⟩:=at' 0 om;obtain⟨b1,o1,N,O⟩:=at' 1 om;cases N;obtain⟨b2,o2,R,T⟩:=at' 2 om;cases R;obtain⟨b3,o3,U,V⟩:=at' 3 om;cases U;have W:IntKind.i64.wrap (((bs.length - 4:Nat):Int)+1)=((bs.length - 4+1:Nat):Int):=by rw[qQq om om];omega
 have Y:IntKind.i64.wrap (((bs.length - 4:Nat):Int)+2)=((bs.length - 4+2:Nat):Int):=by rw[qQq om om];omega
 have Z:IntKind.i64.wrap (((bs.length - 4:Nat):Int)+3)=((bs.length - 4+3:Nat):Int):=by rw[qQq om om];omega
 have i0:(0:Int)<=((bs.length - 4:Nat):Int)/\((bs.length - 4:Nat):Int)<(bs.length:Int):=om
 have i1:(0:Int)<=((bs.length - 4+1:Nat):Int)/\((bs.length - 4+1:Nat):Int)<(bs.length:Int):=om
 have i2:(0:Int)<=((bs.length - 4+2:Nat):Int)/\((bs.length - 4+2:Nat):Int)<(bs.length:Int):=om
 have i3:(0:Int)<=((bs.length - 4+3:Nat):Int)/\((bs.length - 4+3:Nat):Int)<(bs.length:Int):=om
 rw[yF]at J;have s8:shrK .u32 (c.toNat:Int) 8=((c >>> 8).toNat:Int):=shr32 c 8 om;have B:shrK .u32 (c.toNat:Int) 16=((c >>> 16).toNat:Int):=shr32 c 16 om;have E:shrK .u32 (c.toNat:Int) 24=((c >>> 24).toNat:Int):=shr32 c 24 om;have h0:=u8_beq (bs.getD (bs.length - 4) 0) (c.setWidth 8);have h1:=u8_beq (bs.getD (bs.length - 4+1) 0) ((c >>> 8).setWidth 8);have h2:=u8_beq (bs.getD (bs.length - 4+2) 0) ((c >>> 16).setWidth 8);have h3:=u8_beq (bs.getD (bs.length - 4+3) 0) ((c >>> 24).setWidth 8);generalize bs.getD (bs.length - 4) 0=y0 at *;generalize bs.getD (bs.length - 4+1) 0=y1 at *;generalize bs.getD (bs.length - 4+2) 0=y2 at *;generalize bs.getD (bs.length - 4+3) 0=y3 at *;generalize (y0 == c.setWidth 8)=z0 at *;generalize (y1 == (c >>> 8).setWidth 8)=z1 at *;generalize (y2 == (c >>> 16).setWidth 8)=z2 at *;generalize (y3 == (c >>> 24).setWidth 8)=z3 at *
 cases z0 <;> cases z1 <;> cases z2 <;>
 simp -implicitDefEqProofs only[go_sem,yJ,i0,i1,i2,i3,and_self,iTn,yK,J,O,T,V,cut32,W,Y,Z,s8,B,E,h0,h1,h2,h3,Int.reduceLT,qQx,bSe,Bool.true_and,Bool.false_and] <;>
 exact fr
theorem wholeW (w:World)(A:By w p bs)(B:bs.length<2 ^ 62)(E:4<=bs.length):Fn prog 121 #[p] w fun v w'=>v=.bool (qXw bs)/\No w w':=by
 refine (whole w A B E).mono ?_;rintro v w' ⟨rfl,f⟩;refine⟨congrArg _ ?_,f⟩;unfold qXw sealB
 have e:bs.drop (bs.length - 4)=[bs.getD (bs.length - 4) 0,bs.getD (bs.length - 4+1) 0,bs.getD (bs.length - 4+2) 0,bs.getD (bs.length - 4+3) 0]:=by
  refine List.ext_getElem (by simp;omega) fun i I H=>?_;rw[List.getElem_drop];have hi:i<4:=H
  match i,hi with
  | 0,_=>simp only[vU];rw[qQt 0 om];rfl
  | 1,_=>simp only[jX,vU];rw[qQt 0 om]
  | 2,_=>simp only[jX,vU];rw[qQt 0 om]
  | 3,_=>simp only[jX,vU];rw[qQt 0 om]
 simp only[e];generalize qKg 0 (bs.take (bs.length - 4))=c;generalize bs.getD (bs.length - 4) 0=a;generalize bs.getD (bs.length - 4+1) 0=b;generalize bs.getD (bs.length - 4+2) 0=d;generalize bs.getD (bs.length - 4+3) 0=f;rw[Bool.eq_iff_iff];simp[and_assoc]
end
section
open Go.Proofs
theorem or64 {a b k:Nat}(A:a<2 ^ k)(H:b*2 ^ k+a<2 ^ 63):orK .i64 ((b*2 ^ k:Nat):Int) (a:Int)=((b*2 ^ k+a:Nat):Int):=by
 have e:orK .i64 ((b*2 ^ k:Nat):Int) (a:Int)=IntKind.i64.wrap (((qQ 64 ((b*2 ^ k:Nat):Int) ||| qQ 64 (a:Int)).toNat:Nat):Int):=rfl;have B:b*2 ^ k<2 ^ 64:=om
 have E:a<2 ^ 64:=om
 rw[e,BitVec.toNat_or,xW,xW,zZ,zZ,yE B,yE E,vB,<- vD A,qQq om (by rw[vB];omega)]
theorem or64' {a b k:Nat}(A:a<2 ^ k)(H:a+b*2 ^ k<2 ^ 63):orK .i64 (a:Int) ((b*2 ^ k:Nat):Int)=((a+b*2 ^ k:Nat):Int):=by
 have e:orK .i64 (a:Int) ((b*2 ^ k:Nat):Int)=IntKind.i64.wrap (((qQ 64 (a:Int) ||| qQ 64 ((b*2 ^ k:Nat):Int)).toNat:Nat):Int):=rfl;have B:b*2 ^ k<2 ^ 64:=om
 have E:a<2 ^ 64:=om
 rw[e,BitVec.toNat_or,xW,xW,zZ,zZ,yE B,yE E,Nat.or_comm,vB b,<- vD A,qQq om (by rw[vB];omega),Nat.add_comm]
theorem shl64i (a k:Nat)(A:k<=64)(h:a*2 ^ k<2 ^ 63):shlK .i64 (a:Int) (k:Int)=((a*2 ^ k:Nat):Int):=by
 unfold shlK;rw[iTn,show min k IntKind.i64.bits=k from Nat.min_eq_left A];rw[show ((a:Int)*2 ^ k)=((a*2 ^ k:Nat):Int) by rw[Int.natCast_mul,Int.natCast_pow];rfl];exact qQq om om
theorem ext8i (x:Byte):IntKind.i64.wrap (x.toNat:Int)=(x.toNat:Int):=qQq om (by have:=x.isLt;omega)
namespace A
open Aud
theorem le_drop {j:Nat}(h:j<b.length):le (b.drop j)=(b.getD j 0).toNat+256*le (b.drop (j+1)):=by
 rw[List.drop_eq_getElem_cons h,qQt 0 h];rfl
theorem le_small (h:b.length<=n):le b<256 ^ n:=Nat.lt_of_lt_of_le (le_lt b) (Nat.pow_le_pow_right om h)
def getI (a:Option Addr)(cap n:Nat)(bs:Bs)(m:Nat)(vs:List Value)(u w w':World):Prop :=
 m<=n/\vs=[.slice a bs.length cap,.int .i64 (le ((bs.take n).drop m)),.int .i64 ((m:Int) - 1)]/\w'=w
theorem get (w:World){bs:Bs}(I:By w p bs)(Z:n<=bs.length)(h7:n<=7) :
  Fn prog 123 #[p,.int .i64 (n:Nat)] w fun v w'=>v=.int .i64 (le (bs.take n))/\w'=w:=by
 obtain⟨a,cap,rfl,E,A⟩:=I.at;refine go123 sm ?_;have J:IntKind.i64.wrap ((n:Int) - 1)=(n:Int) - 1:=qQq om om;simp only[go_sem,yJ,Tryz.f123,J];have L:(bs.take n).length=n:=by rw[lTk];omega
 refine loopD [0,5,6] (fun m vs w'=>getI a cap n bs m vs w w w') n ⟨xC _,by rw[List.drop_of_length_le om];rfl,rfl⟩ ?_;rintro m vs M g ⟨hm,rfl,rfl⟩
 cases m with
 | zero =>
  have H:decide (((0:Nat):Int) - 1 ≥ 0)=false:=rfl;simp only[go_sem,yJ,H,List.drop_zero]
 | succ m =>
  have H:decide (((m+1:Nat):Int) - 1 ≥ 0)=true:=sm
  obtain⟨b,o,rfl,B⟩:=A m om;have N:((m+1:Nat):Int) - 1=(m:Int):=om
  have O:(0:Int)<=(m:Int)/\(m:Int)<(bs.length:Int):=om
  have R:rdO prog 5 M b (o+m)=some (u8 bs[m]):=rd_rc agg5 B;have T:le ((bs.take n).drop (m+1))<256 ^ 6:=le_small (by rw[lDr,L];omega);have U:=bs[m].isLt;have V:shlK .i64 (le ((bs.take n).drop (m+1)):Int) 8=((le ((bs.take n).drop (m+1))*2 ^ 8:Nat):Int):=shl64i _ 8 om om;have W:orK .i64 ((le ((bs.take n).drop (m+1))*2 ^ 8:Nat):Int) (bs[m].toNat:Int)=((le ((bs.take n).drop (m+1))*2 ^ 8+bs[m].toNat:Nat):Int):=or64 (k:=8) U om;have c2:IntKind.i64.wrap ((m:Int) - 1)=(m:Int) - 1:=qQq om om;have Y:=ext8i bs[m];simp only[go_sem,yJ,N,O,and_self,iTn,yK,R,Y,V,W,c2,Int.reduceLT];refine⟨m,om,om,?_,rfl⟩
  have:le ((bs.take n).drop m)=le ((bs.take n).drop (m+1))*2 ^ 8+bs[m].toNat:=by
   rw[le_drop om,qQt 0 om,List.getElem_take];omega
  rw[this]
theorem allZero (w:World){bs:Bs}(R:By w p bs)(U:bs.length<2 ^ 62) :
  Fn prog 122 #[p] w fun v w'=>v=.bool (zer bs)/\w'=w:=by
 obtain⟨a,cap,rfl,J,H⟩:=R.at;refine go122 sm ?_;simp only[go_sem,yJ,Tryz.f122];refine loopD [5,6,7] (fun m vs w'=>∃ i,i<=bs.length/\m=bs.length - i/\zer (bs.take i)=true/\vs=[.slice a bs.length cap,.int .i64 (bs.length:Nat),.int .i64 (i:Nat)]/\w'=w) bs.length ⟨0,om,om,rfl,rfl,rfl⟩ ?_;rintro m vs T g ⟨i,hi,rfl,E,rfl,rfl⟩
 by_cases A:i<bs.length
 ·have L:=dTo ((i:Int)<(bs.length:Int))
  obtain⟨b,o,rfl,I⟩:=H i A;have M:(0:Int)<=(i:Int)/\(i:Int)<(bs.length:Int):=om
  have N:rdO prog 5 T b (o+i)=some (u8 bs[i]):=rd_rc agg5 I;have c2:IntKind.i64.wrap ((i:Int)+1)=((i+1:Nat):Int):=by rw[qQq om om];rfl
  have e:((bs[i].toNat:Int) != 0)=!(bs[i] == 0):=by
   rw[bne,show ((bs[i].toNat:Int) == 0)=(bs[i] == 0) from u8_beq bs[i] 0]
  by_cases O:bs[i]=0
  ·have B:(bs[i] == 0)=true:=by rw[O];rfl
   rw[B,vK]at e;simp only[go_sem,yJ,M,and_self,iTn,yK,N,e,c2];refine⟨bs.length - (i+1),om,i+1,om,rfl,?_,rfl,trivial⟩;rw[tSg A];unfold zer at E ⊢;rw[vY,E,vG,B];rfl
  ·have B:(bs[i] == 0)=false:=by simpa using O
   rw[B,xH]at e;simp only[go_sem,yJ,M,and_self,iTn,yK,N,e,decide_true]
   have:zer bs=false:=by
    rw[Bool.eq_false_iff];intro h;unfold zer at h;have:=List.all_eq_true.1 h bs[i] (List.getElem_mem A);rw[B]at this;cases this
   rw[this];exact⟨rfl,trivial⟩
 ·have L:=dFo ((i:Int)<(bs.length:Int))
  have e:i=bs.length:=om
  subst e;rw[List.take_length]at E;simp only[go_sem,yJ,L,E]
theorem place (w:World)(p:Nat):Fn prog 234 #[.int .i64 (p:Nat)] w fun v w'=>v=.bool (decide (2<=p/\p<4096))/\w'=w:=by
 refine go234 sm ?_
 by_cases B:2<=p
 ·have A:=dTo ((p:Int) ≥ 2)
  have e:decide (2<=p/\p<4096)=decide ((p:Int)<4096):=decide_eq_decide.2 ⟨fun h=>by omega,fun h=>by omega⟩;simp only[go_sem,yJ,Tryz.f234,A,e,bSe]
 ·have A:=dFo ((p:Int) ≥ 2)
  have e:=dFo (2<=p/\p<4096);simp only[go_sem,yJ,Tryz.f234,A,e,qQx]
theorem kindOf (w:World)(k:Nat):Fn prog 235 #[.int .i64 (k:Nat)] w fun v w'=>v=.bool (decide (1<=k/\k<=3))/\w'=w:=by
 refine go235 sm ?_
 have q:∀ n:Nat,((k:Int) == (n:Int))=decide (k=n):=fun n=>by
  by_cases h:k=n
  ·subst h;simp
  ·rw[decide_eq_false h];simpa using fun e=>h (Int.ofNat_inj.1 e)
 have H:((k:Int) == 1)=decide (k=1):=q 1;have I:((k:Int) == 2)=decide (k=2):=q 2;have J:((k:Int) == 3)=decide (k=3):=q 3
 by_cases A:k=1
 ·subst A
  simp only[go_sem,yJ,Tryz.f235]
  trivial
 by_cases B:k=2
 ·subst B
  simp only[go_sem,yJ,Tryz.f235]
  trivial
 by_cases E:k=3
 ·subst E
  simp only[go_sem,yJ,Tryz.f235]
  trivial
 have e:=dFo (1<=k/\k<=3);have L:decide (k=1)=false:=decide_eq_false A;have M:decide (k=2)=false:=decide_eq_false B;have N:decide (k=3)=false:=decide_eq_false E;simp only[go_sem,yJ,Tryz.f235,H,I,J,L,M,N,e]
end A
end
section
open Go.Proofs
namespace A
open Aud
theorem getD_take (h:i<n):(b.take n).getD i 0=b.getD i 0:=by
 rw[gDq,List.getElem?_take,if_pos h,gDq]
theorem By.slc {a:Option Addr}{bs:Bs}(h:By w (.slice a n cap) bs){l m:Nat}(A:l<=m)(B:m<=n):By w (V.cutV 1 a cap l m) ((bs.drop l).take (m - l)):=h.cutV A B (by have:=h.len;omega)
def UnQ (A:World)(r:Except Int (Nat × Bs))(v:Value)(w':World):Prop:=No A w'/\match r with
 | .error e=>v=.tuple #[.int .i64 0,.slice none 0 0,.int .i64 e]
 | .ok (k,l)=>∃ x,v=.tuple #[.int .i64 (k:Nat),x,.int .i64 0]/\NwB A w' x l
theorem unpack (M:World){b o cap:Nat}{A:Bs}(N:By M (.slice (some ⟨b, o, none⟩) 256 cap) A)(H:256<=cap){p:Nat}(h2:2<=p)(h4:p<4096) :
  Fn prog 231 #[.int .i64 (p:Nat),.slice (some ⟨b,o,none⟩) 256 cap] M (UnQ M (unpP p A)):=by
 have U:A.length=256:=N.len.symm;refine go231 sm ?_;simp -implicitDefEqProofs only[go_sem,yJ,Tryz.f231];refine qQa pl234 ((place M p).mono ?_);rintro _ _ ⟨rfl,rfl⟩;rename_i M;rw[decide_eq_true (show 2<=p/\p<4096 from ⟨h2,h4⟩)];have d1:(((256:Nat):Int) != 256)=false:=rfl;simp -implicitDefEqProofs only[go_sem,yJ,vK,d1];refine qQa pl121 ((wholeW M N om om).mono ?_);rintro _ B ⟨rfl,E⟩;unfold unpP
 cases hw:qXw A with
 | false =>
  simp -implicitDefEqProofs only[go_sem,yJ,xH,if_true];exact⟨E,rfl⟩
 | true =>
  rw[if_neg (show ¬ (true=false) by decide)];have V:rdO prog 5 B b o=some (.int .u8 ((A.getD 0 0).toNat:Int)):=(N.fr0 E).get agg5 (i:=0) om;have W:rdO prog 5 B b (o+1)=some (.int .u8 ((A.getD 1 0).toNat:Int)):=(N.fr0 E).get agg5 (i:=1) om;have e0:=ext8i (A.getD 0 0);have e1:=ext8i (A.getD 1 0);have a0:=(A.getD 0 0).isLt;have a3:=(A.getD 1 0).isLt;generalize hk:(A.getD 0 0).toNat=k at *;generalize hn:(A.getD 1 0).toNat=n at *;have i0:(0:Int)<=0/\(0:Int)<((256:Nat):Int):=om
  have i1:(0:Int)<=1/\(1:Int)<((256:Nat):Int):=om
  simp -implicitDefEqProofs only[go_sem,yJ,vK,i0,i1,and_self,if_true,Int.toNat_zero,Int.toNat_one,yK,Nat.zero_mul,V,W,e0,e1,qP,if_false]
  replace E:=E.drew
  clear V W;generalize B.drew=B at *;refine qQa pl235 ((kindOf B k).mono ?_);rintro _ _ ⟨rfl,rfl⟩;rename_i B
  by_cases I:1<=k/\k<=3
  case neg =>
   rw[decide_eq_false I];simp -implicitDefEqProofs only[go_sem,yJ,xH];rw[if_pos I];exact⟨E,rfl⟩
  rw[decide_eq_true I,if_neg (not_not_intro I)]
  by_cases L:246<n
  ·have R:=dTo ((n:Int) > 246)
   simp -implicitDefEqProofs only[go_sem,yJ,vK,R];rw[if_pos L];exact⟨E,rfl⟩
  have R:=dFo ((n:Int) > 246);rw[if_neg L];have s2:qQw prog 22 (.slice (some ⟨b,o,none⟩) 256 cap) (some (.int .i64 2)) none none=some (cutV 1 (some ⟨b,o,none⟩) cap 2 256):=slc_lo slc22 arr22 sz5 (l:=2) (n:=256) om H;simp -implicitDefEqProofs only[go_sem,yJ,vK,R,s2];have y2:By B (cutV 1 (some ⟨b,o,none⟩) cap 2 256) ((A.drop 2).take 254):=By.slc (N.fr0 E) om om;refine qQa pl123 ((get B y2 (n:=4) (by rw[lTk,lDr];omega) om).mono ?_);rintro _ _ ⟨rfl,rfl⟩;rename_i B;rw[List.take_take,show min 4 254=4 from rfl];have O:=natne (le ((A.drop 2).take 4)) p;generalize hg:le ((A.drop 2).take 4)=g at *
  by_cases J:g=p
  case neg =>
   rw[decide_eq_true J]at O;simp -implicitDefEqProofs only[go_sem,yJ,O];rw[if_pos J];exact⟨E,rfl⟩
  rw[decide_eq_false (not_not_intro J)]at O;rw[if_neg (not_not_intro J)];have c1:IntKind.i64.wrap (6+(n:Int))=((6+n:Nat):Int):=by rw[qQq om om];omega
  have s3:qQw prog 22 (.slice (some ⟨b,o,none⟩) 256 cap) (some (.int .i64 ((6+n:Nat):Int))) (some (.int .i64 252)) none=some (cutV 1 (some ⟨b,o,none⟩) cap (6+n) 252):=slc_both slc22 arr22 sz5 (l:=6+n) (m:=252) (n:=256) om om H;simp -implicitDefEqProofs only[go_sem,yJ,O,c1,s3];have y3:By B (cutV 1 (some ⟨b,o,none⟩) cap (6+n) 252) ((A.drop (6+n)).take (252 - (6+n))):=By.slc (N.fr0 E) om om;refine qQa pl122 ((allZero B y3 (by rw[lTk];omega)).mono ?_);rintro _ _ ⟨rfl,rfl⟩;rename_i B;rw[show 252 - (6+n)=246 - n by omega]
  cases hz:zer ((A.drop (6+n)).take (246 - n)) with
  | false =>
   simp -implicitDefEqProofs only[go_sem,yJ,xH];exact⟨E,rfl⟩
  | true =>
   have s4:qQw prog 22 (.slice (some ⟨b,o,none⟩) 256 cap) (some (.int .i64 6)) (some (.int .i64 ((6+n:Nat):Int))) none=some (cutV 1 (some ⟨b,o,none⟩) cap 6 (6+n)):=slc_both slc22 arr22 sz5 (l:=6) (m:=6+n) (n:=256) om om H;have Y:By B (cutV 1 (some ⟨b,o,none⟩) cap 6 (6+n)) ((A.drop 6).take (6+n - 6)):=By.slc (N.fr0 E) om om;rw[show 6+n - 6=n by omega]at Y;obtain⟨v5,w5,T,Z,f5,g5,m5⟩:=NwB.catB (P:=prog) app22_22 (NwB.nil M B) Y (by simp;omega) E;rw[zL]at Z;simp -implicitDefEqProofs only[go_sem,yJ,vK,c1,s4];refine qQj ⟨v5,w5,T,?_⟩;simp -implicitDefEqProofs only[go_sem,yJ];exact⟨f5,_,rfl,Z⟩
end A
end
section
open Go.Proofs
namespace A
open Aud
theorem le4 (h:4<=b.length):le (b.take 4)=(b.getD 0 0).toNat+256*(b.getD 1 0).toNat+65536*(b.getD 2 0).toNat+16777216*(b.getD 3 0).toNat:=by
 match b,h with
 | x::y::z::u::r,_ =>
  show x.toNat+256*(y.toNat+256*(z.toNat+256*(u.toNat+256*0)))=_;simp only[gDq,List.getElem?_cons_zero,List.getElem?_cons_succ,Option.getD_some];omega
theorem or4 {x y z u:Byte}:orK .i64 (orK .i64 (orK .i64 (x.toNat:Int) (shlK .i64 (y.toNat:Int) 8)) (shlK .i64 (z.toNat:Int) 16)) (shlK .i64 (u.toNat:Int) 24)=((x.toNat+256*y.toNat+65536*z.toNat+16777216*u.toNat:Nat):Int):=by
 have H:=x.isLt;have I:=y.isLt;have J:=z.isLt;have L:=u.isLt;have A:shlK .i64 (y.toNat:Int) 8=((y.toNat*2 ^ 8:Nat):Int):=shl64i _ 8 om om;have B:shlK .i64 (z.toNat:Int) 16=((z.toNat*2 ^ 16:Nat):Int):=shl64i _ 16 om om;have E:shlK .i64 (u.toNat:Int) 24=((u.toNat*2 ^ 24:Nat):Int):=shl64i _ 24 om om;rw[A,or64' (k:=8) om om,B,or64' (k:=16) om om,E,or64' (k:=24) om om];have:x.toNat+y.toNat*2 ^ 8+z.toNat*2 ^ 16+u.toNat*2 ^ 24=x.toNat+256*y.toNat+65536*z.toNat+16777216*u.toNat:=om
 rw[this]
theorem By.four {a:Option Addr}{bs:Bs}(h:By w (.slice a n cap) bs){k:Nat}(E:k+4<=bs.length):∃ b o,a=some ⟨b,o,none⟩/\∀ j,j<4->rdO prog 5 w b (o+(k+j))=some (.int .u8 ((bs.getD (k+j) 0).toNat:Int)):=by
 obtain⟨b,o,A,e,_⟩:=h.pos om;have B:=h.len;subst B;cases e;exact⟨b,o,rfl,fun j H=>h.get agg5 om⟩
theorem four (w:World){bs:Bs}(A:By w p bs)(U:4<=bs.length)(hl:bs.length<2 ^ 62) :
  Fn prog 242 #[p] w fun v w'=>v=.int .i64 (le (bs.take 4))/\No w w':=by
 obtain⟨a,cap,rfl,B⟩:=A.slice;obtain⟨b,o,rfl,r⟩:=By.four A (k:=0) om;refine go242 sm ?_;have E:=r 0 om;have H:=r 1 om;have I:=r 2 om;have J:=r 3 om;simp only[jY,yF]at E H I J;have V:(0:Int)<=0/\(0:Int)<(bs.length:Int):=om
 have W:(0:Int)<=1/\(1:Int)<(bs.length:Int):=om
 have Y:(0:Int)<=2/\(2:Int)<(bs.length:Int):=om
 have Z:(0:Int)<=3/\(3:Int)<(bs.length:Int):=om
 have key:_=((le (bs.take 4):Nat):Int):=(or4 (x:=bs.getD 0 0) (y:=bs.getD 1 0) (z:=bs.getD 2 0) (u:=bs.getD 3 0)).trans (congrArg _ (le4 U).symm);generalize ((le (bs.take 4):Nat):Int)=N at *;have e0:=ext8i (bs.getD 0 0);have e1:=ext8i (bs.getD 1 0);have e2:=ext8i (bs.getD 2 0);have e3:=ext8i (bs.getD 3 0);generalize ((bs.getD 0 0).toNat:Int)=x0 at *;generalize ((bs.getD 1 0).toNat:Int)=x1 at *;generalize ((bs.getD 2 0).toNat:Int)=x2 at *;generalize ((bs.getD 3 0).toNat:Int)=x3 at *
 obtain⟨a1,L⟩:∃ a,shlK .i64 x1 8=a:=⟨_,rfl⟩
 rw[L]at key
 obtain⟨b1,M⟩:∃ a,orK .i64 x0 a1=a:=⟨_,rfl⟩
 rw[M]at key
 obtain⟨a2,O⟩:∃ a,shlK .i64 x2 16=a:=⟨_,rfl⟩
 rw[O]at key
 obtain⟨b2,R⟩:∃ a,orK .i64 b1 a2=a:=⟨_,rfl⟩
 rw[R]at key
 obtain⟨a3,T⟩:∃ a,shlK .i64 x3 24=a:=⟨_,rfl⟩
 rw[T]at key;have s1:¬ ((8:Int)<0):=x9
 have s2:¬ ((16:Int)<0):=x9
 have s3:¬ ((24:Int)<0):=x9
 simp -implicitDefEqProofs only[go_sem,yJ,Tryz.f242,V,W,Y,Z,and_self,if_true,Int.reduceToNat,yK,E,H,I,J,e0,e1,e2,e3,s1,s2,s3,if_false,L,M,O,R,T,key];exact (Fr.refl _ _).drew
abbrev z32:Bs:=zK 32 0
def lfC (k:Bs)(vv:Value):List Value:=k.map u8++[vv]
def cdC (p c:Nat)(s:Bs):List Value:=[.int .i64 (p:Nat),.int .i64 (c:Nat)]++s.map u8
theorem lfC_len (h:k.length=32)(vv:Value):(lfC k vv).length=33:=by simp[lfC,h]
theorem qZc (h:s.length=32)(p c:Nat):(cdC p c s).length=34:=by simp[cdC,h]
theorem lfC_one (k:Bs)(h:one vv=true):(lfC k vv).all one=true:=by simp only[lfC,vY,qXs,vG,h,vF,vW]
theorem cdC_one (p c:Nat)(s:Bs):(cdC p c s).all one=true:=by simp only[cdC,vY,qXs,vG,vF,vV];rfl
theorem leafStands (A:World)(E:k.length=32)(H:By A vv val):Fn prog 246 #[.agg (lfC k vv).toArray] A fun v w'=>v=.bool (decide (val.length<=128))/\No A w':=by
 obtain⟨a,cap,rfl,B⟩:=H.slice;refine go246 sm ?_;obtain⟨W,I,J,L,O⟩:=qQl A (lfC k (.slice a val.length cap)).toArray 315;have M:rdO prog 22 W A.heap.size 32=some (.slice a val.length cap):=rd_one (r:=[]) (a:=k.map u8) agg22 L (by simp[E]);have N:decide ((val.length:Int)<=128)=decide (val.length<=128):=decide_eq_decide.2 ⟨fun h=>by omega,fun h=>by omega⟩;simp -implicitDefEqProofs only[go_sem,yJ,yN,jY,Tryz.f246,I,M,N];exact J
theorem strCd:strucO prog 318=some [(false,3,0),(false,3,1),(false,75,2)]:=x8
theorem stCd:prog.stoodInHeld 318=false:=x8
theorem bldCd0:bldO prog 318 []=some (.agg (cdC 0 0 z32).toArray):=by
 rw[qKd zero318 places318 (c:=(cdC 0 0 z32).toArray) x8];rfl
theorem eqCd {p c p' c':Nat}{s s':Bs}(h:s.length=32)(A:s'.length=32):eqV prog Op.maxDepth 318 (.agg (cdC p c s).toArray) (.agg (cdC p' c' s').toArray)=some (decide (p=p'/\c=c'/\s=s')):=by
 rw[show Op.maxDepth=9997+1+1+1 from rfl,eqV_st strCd stCd]
 have x:∀ {p c:Nat} {s:Bs},s.length=32->(cdC p c s).toArray.extract 2 (2+32)=(s.map u8).toArray:=fun {p c s} h=>by
  apply Array.toList_inj.1;simp[cdC];exact zG (by simp[h])
 have g:∀ {p c:Nat} {s:Bs},(cdC p c s).toArray[0]?=some (.int .i64 (p:Nat))/\(cdC p c s).toArray[1]?=some (.int .i64 (c:Nat)):=fun {p c s}=>⟨rfl,rfl⟩
 simp only[List.mapM_cons,List.mapM_nil,qKh agg3,part_agg agg75 sz75,qP,if_false,x h,x A,g.1,g.2,qV,eqV_i int3,eqV_dg arr75 int5 sz5 agg5 h A,Option.pure_def,Option.bind_eq_bind,Option.map_some,vG,vF,id,vV]
 congr 1
 rw[Bool.eq_iff_iff]
 simp
theorem childStands (B:World)(p c:Nat)(h:s.length=32):Fn prog 247 #[.agg (cdC p c s).toArray] B fun v w'=>v=.bool (decide (chR p c s))/\No B w':=by
 refine go247 sm ?_;obtain⟨W,E,H,N,s1⟩:=qQl B (cdC p c s).toArray 318;have I:rdO prog 3 W B.heap.size 0=some (.int .i64 (p:Nat)):=rd1 agg3 N rfl;have R:rdO prog 3 W B.heap.size 1=some (.int .i64 (c:Nat)):=rd1 agg3 N rfl;have Y:=qQp (P:=prog) (t:=318) agg318 sz318 N (by simp[qZc h]);have A:=nateq p 0;have Z:=eqCd (p:=p) (c:=c) (p':=0) (c':=0) h (show z32.length=32 by simp)
 by_cases L:p=0
 ·have A:((p:Int) == 0)=true:=by rw[L];rfl
  have e:decide (chR p c s)=decide (p=0/\c=0/\s=z32):=decide_eq_decide.2 (by unfold chR;rw[if_pos L];exact⟨fun h=>⟨L,h⟩,fun h=>h.2⟩);simp -implicitDefEqProofs only[go_sem,yJ,yN,jY,Tryz.f247,E,I,A,Y,bldCd0,Z,eqg318,e];exact H
 have A:((p:Int) == 0)=false:=by rw[bFn];omega
 have e:decide (chR p c s)=decide (2<=p/\p<4096/\0<c/\c<=4096):=decide_eq_decide.2 (by unfold chR;rw[if_neg L]);rw[e]
 by_cases T:2<=p
 case neg =>
  have J:=dFo (2<=(p:Int));have e:decide (2<=p/\p<4096/\0<c/\c<=4096)=false:=decide_eq_false fun h=>T h.1;simp -implicitDefEqProofs only[go_sem,yJ,yN,qQx,jY,Tryz.f247,E,I,A,J,e];exact H
 have J:=dTo (2<=(p:Int))
 by_cases U:p<4096
 case neg =>
  have M:=dFo ((p:Int)<4096);have e:decide (2<=p/\p<4096/\0<c/\c<=4096)=false:=decide_eq_false fun h=>U h.2.1;simp -implicitDefEqProofs only[go_sem,yJ,yN,bSe,qQx,jY,Tryz.f247,E,I,A,J,M,e];exact H
 have M:=dTo ((p:Int)<4096)
 by_cases V:0<c
 case neg =>
  have O:=dFo (0<(c:Int));have e:decide (2<=p/\p<4096/\0<c/\c<=4096)=false:=decide_eq_false fun h=>V h.2.2.1;simp -implicitDefEqProofs only[go_sem,yJ,yN,bSe,qQx,jY,Tryz.f247,E,I,R,A,J,M,O,e];exact H
 have O:=dTo (0<(c:Int));have d4:decide ((c:Int)<=4096)=decide (c<=4096):=decide_eq_decide.2 ⟨fun h=>by omega,fun h=>by omega⟩;have e:decide (2<=p/\p<4096/\0<c/\c<=4096)=decide (c<=4096):=decide_eq_decide.2 ⟨fun h=>h.2.2.2,fun h=>⟨T,U,V,h⟩⟩;simp -implicitDefEqProofs only[go_sem,yJ,yN,bSe,jY,Tryz.f247,E,I,R,A,J,M,O,d4,e];exact H
theorem brStands (H:World)(A lc B rc:Nat)(M:ls.length=32)(V:rs.length=32)(h1:lc<2 ^ 32)(h2:rc<2 ^ 32):Fn prog 249 #[.agg (cdC A lc ls++cdC B rc rs).toArray] H fun v w'=>v=.bool (decide (brR A B lc rc ls rs))/\No H w':=by
 refine go249 sm ?_;obtain⟨W,hW,N,E,s1⟩:=qQl H (cdC A lc ls++cdC B rc rs).toArray 320;have r0:rdO prog 3 W H.heap.size 0=some (.int .i64 (A:Nat)):=rd1 agg3 E rfl;have r1:rdO prog 3 W H.heap.size 1=some (.int .i64 (lc:Nat)):=rd1 agg3 E rfl;have O:(cdC A lc ls++cdC B rc rs)=cdC A lc ls++.int .i64 (B:Nat)::.int .i64 (rc:Nat)::rs.map u8:=rfl;have Y:(cdC A lc ls++cdC B rc rs)=(cdC A lc ls++[.int .i64 (B:Nat)])++.int .i64 (rc:Nat)::rs.map u8:=by rw[O];simp
 have Z:∀ I,I.heap[H.heap.size]?=some (.cells (cdC A lc ls++cdC B rc rs).toArray 320 (0,0))->rdO prog 3 I H.heap.size 34=some (.int .i64 (B:Nat))/\rdO prog 3 I H.heap.size 0=some (.int .i64 (A:Nat)):=fun I E=>⟨rd_one agg3 (by rw[O]at E;exact E) (qZc M _ _),rd1 agg3 E rfl⟩
 have a0:rdO prog 3 W H.heap.size 35=some (.int .i64 (rc:Nat)):=rd_one agg3 (by rw[Y]at E;exact E) (by simp[qZc M])
 have ll:∀ I,I.heap[H.heap.size]?=some (.cells (cdC A lc ls++cdC B rc rs).toArray 320 (0,0))->rdO prog 318 I H.heap.size 0=some (.agg (cdC A lc ls).toArray)/\rdO prog 318 I H.heap.size 34=some (.agg (cdC B rc rs).toArray):=fun I E =>
  ⟨qJw (a:=[]) (m:=cdC A lc ls) (r:=cdC B rc rs) agg318 (by rw[qZc M];exact sz318) (by rw[qZc M];omega) E rfl,qJw (a:=cdC A lc ls) (m:=cdC B rc rs) (r:=[]) agg318 (by rw[qZc V];exact sz318) (by rw[qZc V];omega) (by rw[zO];exact E) (qZc M _ _)⟩
 have c1:IntKind.i64.wrap ((lc:Int)+(rc:Int))=((lc+rc:Nat):Int):=qXi;obtain⟨la,_⟩:=ll W E;simp -implicitDefEqProofs only[go_sem,yJ,vH,yN,jY,Tryz.f249,hW,r1,a0,c1,la];refine qQa pl247 ((childStands W A lc M).mono ?_);rintro _ w2 ⟨rfl,J⟩
 by_cases T:chR A lc ls
 case neg =>
  have e:decide (brR A B lc rc ls rs)=false:=decide_eq_false fun h=>T h.1;rw[decide_eq_false T];simp -implicitDefEqProofs only[go_sem,yJ,qQx,e];exact N.trans J
 rw[decide_eq_true T];obtain⟨_,lb⟩:=ll w2 (J.at E id);simp -implicitDefEqProofs only[go_sem,yJ,bSe,jY,lb];refine qQa pl247 ((childStands w2 B rc V).mono ?_);rintro _ w3 ⟨rfl,R⟩
 by_cases U:chR B rc rs
 case neg =>
  have e:decide (brR A B lc rc ls rs)=false:=decide_eq_false fun h=>U h.2.1;rw[decide_eq_false U];simp -implicitDefEqProofs only[go_sem,yJ,qQx,e];exact (N.trans J).trans R
 rw[decide_eq_true U];obtain⟨L,q0⟩:=Z w3 (R.at (J.at E id) id);have n1:=natne A B
 by_cases hC:A=B
 ·rw[decide_eq_false (not_not_intro hC)]at n1
  have e:decide (brR A B lc rc ls rs)=false:=decide_eq_false fun h=>h.2.2.1 hC;simp -implicitDefEqProofs only[go_sem,yJ,bSe,qQx,jY,yF,L,q0,n1,e];exact (N.trans J).trans R
 rw[decide_eq_true hC]at n1
 by_cases hD:2<=lc+rc
 case neg =>
  have d1:=dFo (2<=((lc+rc:Nat):Int));have e:decide (brR A B lc rc ls rs)=false:=decide_eq_false fun h=>hD h.2.2.2.1;simp -implicitDefEqProofs only[go_sem,yJ,bSe,qQx,jY,yF,L,q0,n1,d1,e];exact (N.trans J).trans R
 have d1:=dTo (2<=((lc+rc:Nat):Int));have d2:decide (((lc+rc:Nat):Int)<=4096)=decide (lc+rc<=4096):=decide_eq_decide.2 ⟨fun h=>by omega,fun h=>by omega⟩;have e:decide (brR A B lc rc ls rs)=decide (lc+rc<=4096):=decide_eq_decide.2 ⟨fun h=>h.2.2.2.2,fun h=>⟨T,U,hC,hD,h⟩⟩;simp -implicitDefEqProofs only[go_sem,yJ,bSe,jY,yF,L,q0,n1,d1,d2,e];exact (N.trans J).trans R
end A
end
section
open Go.Proofs
namespace A
open Aud
def rcC (r:Rc):List Value:=[.int .i64 (r.ver:Nat),.int .i64 (r.first:Nat),.int .i64 (r.prev:Nat),.int .i64 (r.skip:Nat),.int .i64 (r.root:Nat),.int .i64 (r.count:Nat)]++r.sum.map u8
theorem qXn {r:Rc}(h:r.sum.length=32):(rcC r).length=38:=by simp[rcC,h]
theorem rcC_one (r:Rc):(rcC r).all one=true:=by simp only[rcC,vY,qXs,vG,vF,vV];rfl
theorem isPage (w:World)(p:Nat):Fn prog 240 #[.int .i64 (p:Nat)] w fun v w'=>v=.bool (decide (isPg p))/\w'=w:=by
 refine go240 sm ?_
 by_cases B:2<=p
 ·have A:=dTo (2<=(p:Int))
  have e:decide (isPg p)=decide ((p:Int)<4096):=decide_eq_decide.2 ⟨fun h=>by have:=h.2;omega,fun h=>⟨B,om⟩⟩;simp -implicitDefEqProofs only[go_sem,yJ,bSe,Tryz.f240,A,e]
 ·have A:=dFo (2<=(p:Int))
  have e:decide (isPg p)=false:=decide_eq_false fun h=>B h.1;simp -implicitDefEqProofs only[go_sem,yJ,qQx,Tryz.f240,A,e]
theorem held (w:World)(r c:Nat):Fn prog 239 #[.int .i64 (r:Nat),.int .i64 (c:Nat)] w fun v w'=>v=.bool (decide (held r c))/\w'=w:=by
 refine go239 sm ?_
 by_cases A:r=0
 ·have B:((r:Int) == 0)=true:=by rw[A];rfl
  have E:((r:Int) != 0)=false:=by rw[A];rfl
  have e:decide (Aud.held r c)=((c:Int) == 0):=by
   rw[show ((c:Int) == 0)=decide (c=0) from nateq c 0];exact decide_eq_decide.2 ⟨fun h=>h.elim (fun h=>h.2) fun h=>absurd A h.1,fun h=>.inl ⟨A,h⟩⟩
  cases I:((c:Int) == 0) with
  | true=>simp -implicitDefEqProofs only[go_sem,yJ,bSe,qZj,jY,Tryz.f239,B,I,e,undef]
  | false=>simp -implicitDefEqProofs only[go_sem,yJ,bSe,qQx,jY,Tryz.f239,B,E,I,e,undef]
 ·have B:((r:Int) == 0)=false:=by rw[bFn];omega
  have E:((r:Int) != 0)=true:=by rw[bne,B];rfl
  by_cases J:0<c
  ·have H:=dTo (0<(c:Int))
   have e:decide (Aud.held r c)=decide ((c:Int)<=4096):=decide_eq_decide.2 ⟨fun h=>h.elim (fun h=>absurd h.1 A) fun h=>by omega,fun h=>.inr ⟨A,J,om⟩⟩;simp -implicitDefEqProofs only[go_sem,yJ,bSe,qQx,jY,Tryz.f239,B,E,H,e]
  ·have H:=dFo (0<(c:Int))
   have e:decide (Aud.held r c)=false:=decide_eq_false fun h=>h.elim (fun h=>absurd h.1 A) fun h=>J h.2.1;simp -implicitDefEqProofs only[go_sem,yJ,bSe,qQx,jY,Tryz.f239,B,E,H,e]
theorem number (w:World)(r:Rc)(M:r.first<=r.ver)(N:r.ver<=2 ^ 40):Fn prog 241 #[.agg (rcC r).toArray] w fun v w'=>v=.int .i64 (r.num:Nat)/\No w w':=by
 refine go241 sm ?_;obtain⟨W,E,H,I,O⟩:=qQl w (rcC r).toArray 80;have J:rdO prog 3 W w.heap.size 0=some (.int .i64 (r.ver:Nat)):=rd1 agg3 I rfl;have L:rdO prog 3 W w.heap.size 1=some (.int .i64 (r.first:Nat)):=rd1 agg3 I rfl
 by_cases A:r.first=0
 ·have B:((r.first:Int) == 0)=true:=by rw[A];rfl
  have e:r.num=r.ver:=if_pos A;simp -implicitDefEqProofs only[go_sem,yJ,yN,jY,Tryz.f241,E,J,L,B,e];exact H
 ·have B:((r.first:Int) == 0)=false:=by rw[bFn];omega
  have e:r.num=r.ver - r.first+1:=if_neg A;have c1:IntKind.i64.wrap ((r.ver:Int) - (r.first:Int))=((r.ver - r.first:Nat):Int):=qXr M om;have c2:IntKind.i64.wrap (((r.ver - r.first:Nat):Int)+1)=((r.ver - r.first+1:Nat):Int):=qXi (b:=1);simp -implicitDefEqProofs only[go_sem,yJ,yN,jY,Tryz.f241,E,J,L,B,c1,c2,e];exact H
theorem and64 (a b:Nat)(E:a<2 ^ 62)(H:b<2 ^ 62):andK .i64 (a:Int) (b:Int)=((a &&& b:Nat):Int):=by
 have e:andK .i64 (a:Int) (b:Int)=IntKind.i64.wrap (((qQ 64 (a:Int) &&& qQ 64 (b:Int)).toNat:Nat):Int):=rfl;have A:a<2 ^ 64:=om
 have B:b<2 ^ 64:=om
 have I:a &&& b<=a:=Nat.and_le_left;rw[e,vJ,xW,xW,zZ,zZ,yE A,yE B,qQq om om]
theorem right (B:World)(r:Rc)(hs:r.sum.length=32)(hv:r.ver<2 ^ 32)(hf:r.first<2 ^ 32):Fn prog 236 #[.agg (rcC r).toArray] B fun v w'=>v=.bool (decide r.right)/\No B w':=by
 refine go236 sm ?_;unfold DenF;refine den_cut 2 ?_;obtain⟨W,hW,J,M,s1⟩:=qQl B (rcC r).toArray 80
 have rr:∀ w:World, w.heap[B.heap.size]?=some (.cells (rcC r).toArray 80 (0, 0)) ->
   rdO prog 3 w B.heap.size 0=some (.int .i64 (r.ver:Nat))/\rdO prog 3 w B.heap.size 1=some (.int .i64 (r.first:Nat))/\rdO prog 3 w B.heap.size 2=some (.int .i64 (r.prev:Nat))/\rdO prog 3 w B.heap.size 3=some (.int .i64 (r.skip:Nat))/\rdO prog 3 w B.heap.size 4=some (.int .i64 (r.root:Nat))/\rdO prog 3 w B.heap.size 5=some (.int .i64 (r.count:Nat)):=fun w k =>
  ⟨rd1 agg3 k rfl,rd1 agg3 k rfl,rd1 agg3 k rfl,rd1 agg3 k rfl,rd1 agg3 k rfl,rd1 agg3 k rfl⟩
 obtain⟨U,a1,a2,N,V,a5⟩:=rr W M;have g0:=dFo ((r.first:Int)<0);have H:∀ {p:Prop},(r.right->p)->¬ p->decide r.right=false:=fun h L=>decide_eq_false fun h'=>L (h h')
 by_cases h1:r.first<=1073741824
 case neg =>
  have d1:=dTo ((r.first:Int) > 1073741824);have e:=H (fun h=>h.1) h1;simp -implicitDefEqProofs only[go_sem,yJ,yN,bSe,qZj,jY,Tryz.f236,hW,a1,g0,d1,e];exact J
 have d1:=dFo ((r.first:Int) > 1073741824)
 have em:(if (r.first:Int) > 1 then (r.first:Int) else 1)=((max 1 r.first:Nat):Int):=by
  split
  ·rw[Nat.max_eq_right om]
  ·rw[Nat.max_eq_left om];rfl
 by_cases h2:max 1 r.first<=r.ver
 case neg =>
  have d2:=dTo ((r.ver:Int)<((max 1 r.first:Nat):Int));have e:=H (fun h=>h.2.1) h2;simp -implicitDefEqProofs only[go_sem,yJ,yN,bSe,qZj,jY,Tryz.f236,hW,U,a1,g0,d1,biP,maxL,em,d2,e];exact J
 have d2:=dFo ((r.ver:Int)<((max 1 r.first:Nat):Int))
 by_cases h3:r.ver<=1073741824
 case neg =>
  have d3:=dTo ((r.ver:Int) > 1073741824);have e:=H (fun h=>h.2.2.1) h3;simp -implicitDefEqProofs only[go_sem,yJ,yN,bSe,jY,Tryz.f236,hW,U,a1,g0,d1,biP,maxL,em,d2,d3,e];exact J
 have d3:=dFo ((r.ver:Int) > 1073741824);simp -implicitDefEqProofs only[go_sem,yJ,yN,bSe,jY,Tryz.f236,hW,U,a1,g0,d1,biP,maxL,em,d2,d3];refine qKe ?_;refine qZk (fun ev w=>ev 1=pt B.heap.size 0/\No B w/\w.heap[B.heap.size]?=some (.cells (rcC r).toArray 80 (0,0))/\Aud.held r.root r.count/\(r.root≠0->isPg r.root)) ?_ ?_
 ·simp -implicitDefEqProofs only[go_sem,yJ,jY,V,a5]
  refine qQa pl239 ((held W r.root r.count).mono ?_);rintro _ _ ⟨rfl,rfl⟩;rename_i W
  by_cases T:Aud.held r.root r.count
  case neg =>
   have e:=H (fun h=>h.2.2.2.1) T;rw[decide_eq_false T];simp -implicitDefEqProofs only[go_sem,yJ,qZj,xH,jY,e];exact J
  rw[decide_eq_true T]
  by_cases h0:r.root=0
  ·have n4:((r.root:Int) != 0)=false:=by rw[h0];rfl
   simp -implicitDefEqProofs only[go_sem,yJ,bSe,qQx,vK,jY,V,n4];exact⟨J,M,T,fun h=>absurd h0 h⟩
  ·have n4:((r.root:Int) != 0)=true:=by rw[show ((r.root:Int) != 0)=decide (r.root≠0) from natne r.root 0];exact decide_eq_true h0
   simp -implicitDefEqProofs only[go_sem,yJ,bSe,vK,jY,V,n4];refine qQa pl240 ((isPage W r.root).mono ?_);rintro _ _ ⟨rfl,rfl⟩;rename_i W
   by_cases Y:isPg r.root
   ·rw[decide_eq_true Y]
    simp -implicitDefEqProofs only[go_sem,yJ,bSe,vK];exact⟨J,M,T,fun _=>Y⟩
   ·have e:=H (fun h=>h.2.2.2.2.1 h0) Y
    rw[decide_eq_false Y];simp -implicitDefEqProofs only[go_sem,yJ,bSe,xH,e];exact J
 ·clear U a1 a2 N V a5 M J hW
  rintro ev w ⟨O,J,M,T,Y⟩;obtain⟨U,a1,a2,N,V,a5⟩:=rr w M;have ld:=qQp (P:=prog) (t:=80) agg80 sz80 M (by simp[qXn hs]);simp -implicitDefEqProofs only[go_sem,O,ld];refine qQa pl241 ((number w r om om).mono ?_);rintro _ w2 ⟨rfl,f2⟩;have A:=J.trans f2;have k2:=f2.at M id;obtain⟨U,a1,a2,N,V,a5⟩:=rr w2 k2
  have a8:r.num<=r.ver:=by unfold Rc.num;split <;> omega
  have a7:1<=r.num:=by unfold Rc.num;split <;> omega
  have all:∀ p:Prop,[Decidable p]->(p ↔ (if r.num=1 then r.prev=0/\r.skip=0 else isPg r.prev/\skipOk r.num r.prev r.skip))->decide r.right=decide p:=fun p _ L=>decide_eq_decide.2 ⟨fun h=>L.2 h.2.2.2.2.2,fun h=>⟨h1,h2,h3,T,Y,L.1 h⟩⟩
  by_cases R:r.num=1
  ·have i1:((r.num:Int) == 1)=true:=by rw[R];rfl
   have n2:((r.prev:Int) == 0)=decide (r.prev=0):=nateq r.prev 0;have n3:((r.skip:Int) == 0)=decide (r.skip=0):=nateq r.skip 0
   by_cases L:r.prev=0
   ·have e:=all (r.skip=0) (by rw[if_pos R];exact⟨fun h=>⟨L,h⟩,fun h=>h.2⟩)
    rw[decide_eq_true L]at n2;simp -implicitDefEqProofs only[go_sem,yJ,bSe,jY,O,i1,a2,N,n2,n3,e];exact A
   ·have e:=all False (by rw[if_pos R];exact⟨fun h=>h.elim,fun h=>L h.1⟩)
    rw[decide_eq_false L]at n2;have e:decide r.right=false:=e.trans (decide_eq_false id);simp -implicitDefEqProofs only[go_sem,yJ,qQx,jY,O,i1,a2,n2,e];exact A
  have i1:((r.num:Int) == 1)=false:=by rw[bFn];omega
  simp -implicitDefEqProofs only[go_sem,yJ,jY,O,i1,a2];refine qQa pl240 ((isPage w2 r.prev).mono ?_);rintro _ _ ⟨rfl,rfl⟩;rename_i w2
  by_cases Z:isPg r.prev
  case neg =>
   have e:=all False (by rw[if_neg R];exact⟨fun h=>h.elim,fun h=>Z h.1⟩);have e:decide r.right=false:=e.trans (decide_eq_false id);rw[decide_eq_false Z];simp -implicitDefEqProofs only[go_sem,xH,e];exact A
  rw[decide_eq_true Z];have c1:IntKind.i64.wrap ((r.num:Int) - 1)=((r.num - 1:Nat):Int):=qXr (b:=1) a7 om
  obtain⟨y,hy⟩:∃ y,andK .i64 (r.num:Int) ((r.num - 1:Nat):Int)=y:=⟨_,rfl⟩
  have a6:y=((far r.num:Nat):Int):=hy.symm.trans (and64 _ _ om om);have q0:(y == 0)=decide (far r.num=0):=by rw[a6];exact nateq _ 0
  have q1:(y == ((r.num - 1:Nat):Int))=decide (far r.num=r.num - 1):=by rw[a6];exact nateq _ _
  by_cases E:far r.num=0
  ·rw[decide_eq_true E]at q0
   have n3:((r.skip:Int) == 0)=decide (r.skip=0):=nateq r.skip 0;have e:=all (r.skip=0) (by rw[if_neg R];unfold skipOk;rw[if_pos E];exact⟨fun h=>⟨Z,h⟩,fun h=>h.2⟩);simp -implicitDefEqProofs only[go_sem,yJ,vK,jY,O,c1,hy,q0,N,n3,e];exact A
  rw[decide_eq_false E]at q0
  by_cases I:far r.num=r.num - 1
  ·rw[decide_eq_true I]at q1
   have n3:((r.skip:Int) == (r.prev:Int))=decide (r.skip=r.prev):=nateq r.skip r.prev;have e:=all (r.skip=r.prev) (by rw[if_neg R];unfold skipOk;rw[if_neg E,if_pos I];exact⟨fun h=>⟨Z,h⟩,fun h=>h.2⟩);simp -implicitDefEqProofs only[go_sem,yJ,vK,jY,O,c1,hy,q0,q1,a2,N,n3,e];exact A
  rw[decide_eq_false I]at q1;simp -implicitDefEqProofs only[go_sem,yJ,vK,jY,O,c1,hy,q0,q1,N];refine qQa pl240 ((isPage w2 r.skip).mono ?_);rintro _ _ ⟨rfl,rfl⟩;rename_i w2
  by_cases hS:isPg r.skip
  ·have d9:decide ((r.skip:Int)<(r.prev:Int))=decide (r.skip<r.prev):=decide_eq_decide.2 ⟨fun h=>by omega,fun h=>by omega⟩
   have e:=all (r.skip<r.prev) (by rw[if_neg R];unfold skipOk;rw[if_neg E,if_neg I];exact⟨fun h=>⟨Z,hS,h⟩,fun h=>h.2.2⟩);rw[decide_eq_true hS];simp -implicitDefEqProofs only[go_sem,yJ,bSe,jY,O,a2,N,d9,e];exact A
  ·have e:=all False (by rw[if_neg R];unfold skipOk;rw[if_neg E,if_neg I];exact⟨fun h=>h.elim,fun h=>hS h.2.1⟩)
   have e:decide r.right=false:=e.trans (decide_eq_false id);rw[decide_eq_false hS];simp -implicitDefEqProofs only[go_sem,yJ,qQx,e];exact A
end A
end
section
open Go.Proofs
namespace A
open Aud
abbrev supC (s:Sup):Array Value:=#[.int .i64 (s.width:Nat),.int .i64 (s.gen:Nat),.int .i64 (s.mark:Nat),.int .i64 (s.head:Nat),.int .i64 (s.pages:Nat)]
abbrev sup0:Array Value:=#[.int .i64 0,.int .i64 0,.int .i64 0,.int .i64 0,.int .i64 0]
theorem qVv (s:Sup):(supC s).all one=true:=by rw[<- Array.all_toList];rfl
theorem valid (w:World)(s:Sup):Fn prog 124 #[.agg (supC s)] w fun v w'=>v=.bool (decide s.ok)/\No w w':=by
 refine go124 sm ?_;obtain⟨W,B,E,Y,s1⟩:=qQl w (supC s) 67;have H:rdO prog 3 W w.heap.size 0=some (.int .i64 (s.width:Nat)):=rd1 agg3 Y rfl;have N:rdO prog 3 W w.heap.size 1=some (.int .i64 (s.gen:Nat)):=rd1 agg3 Y rfl;have I:rdO prog 3 W w.heap.size 2=some (.int .i64 (s.mark:Nat)):=rd1 agg3 Y rfl;have J:rdO prog 3 W w.heap.size 3=some (.int .i64 (s.head:Nat)):=rd1 agg3 Y rfl;have T:rdO prog 3 W w.heap.size 4=some (.int .i64 (s.pages:Nat)):=rd1 agg3 Y rfl;have O:=dTo ((s.gen:Int) ≥ 0)
 by_cases h1:1<=s.width
 case neg =>
  have A:=dFo ((s.width:Int) ≥ 1);have e:decide s.ok=false:=decide_eq_false fun h=>h1 h.1.1;simp -implicitDefEqProofs only[go_sem,yJ,qQx,jY,Tryz.f124,yN,B,H,I,J,A,e];exact E
 have A:=dTo ((s.width:Int) ≥ 1)
 by_cases h2:s.width<=32
 case neg =>
  have L:=dFo ((s.width:Int)<=32);have e:decide s.ok=false:=decide_eq_false fun h=>h2 h.1.2;simp -implicitDefEqProofs only[go_sem,yJ,bSe,qQx,jY,Tryz.f124,yN,B,H,I,J,A,L,e];exact E
 have L:=dTo ((s.width:Int)<=32)
 by_cases h3:s.gen<=1099511627776
 case neg =>
  have M:=dFo ((s.gen:Int)<=1099511627776);have e:decide s.ok=false:=decide_eq_false fun h=>h3 h.2.1;simp -implicitDefEqProofs only[go_sem,yJ,bSe,qQx,jY,Tryz.f124,yN,B,H,N,I,J,O,A,L,M,e];exact E
 have M:=dTo ((s.gen:Int)<=1099511627776)
 by_cases h4:3<=s.pages
 case neg =>
  have R:=dFo ((s.pages:Int) ≥ 3);have e:decide s.ok=false:=decide_eq_false fun h=>h4 h.2.2.1.1;simp -implicitDefEqProofs only[go_sem,yJ,bSe,qQx,jY,Tryz.f124,yN,B,H,N,I,J,T,O,A,L,M,R,e];exact E
 have R:=dTo ((s.pages:Int) ≥ 3)
 by_cases h5:s.pages<=4096
 case neg =>
  have U:=dFo ((s.pages:Int)<=4096);have e:decide s.ok=false:=decide_eq_false fun h=>h5 h.2.2.1.2;simp -implicitDefEqProofs only[go_sem,yJ,bSe,qQx,jY,Tryz.f124,yN,B,H,N,I,J,T,O,A,L,M,R,U,e];exact E
 have U:=dTo ((s.pages:Int)<=4096)
 by_cases h6:2<=s.mark
 case neg =>
  have V:=dFo ((s.mark:Int) ≥ 2);have e:decide s.ok=false:=decide_eq_false fun h=>h6 h.2.2.2.1.1;simp -implicitDefEqProofs only[go_sem,yJ,bSe,qQx,jY,Tryz.f124,yN,B,H,N,I,J,T,O,A,L,M,R,U,V,e];exact E
 have V:=dTo ((s.mark:Int) ≥ 2)
 by_cases h7:s.mark<=s.pages
 case neg =>
  have Z:=dFo ((s.mark:Int)<=(s.pages:Int));have e:decide s.ok=false:=decide_eq_false fun h=>h7 h.2.2.2.1.2;simp -implicitDefEqProofs only[go_sem,yJ,bSe,qQx,jY,Tryz.f124,yN,B,H,N,I,J,T,O,A,L,M,R,U,V,Z,e];exact E
 have Z:=dTo ((s.mark:Int)<=(s.pages:Int))
 by_cases h8:s.head=0
 case pos =>
  have d8:((s.head:Int) == 0)=true:=by rw[h8];rfl
  have e:decide s.ok=true:=decide_eq_true ⟨⟨h1,h2⟩,h3,⟨h4,h5⟩,⟨h6,h7⟩,.inl h8⟩;simp -implicitDefEqProofs only[go_sem,yJ,bSe,qZj,jY,Tryz.f124,yN,B,H,N,I,J,T,O,A,L,M,R,U,V,Z,d8,e];exact E
 have d8:((s.head:Int) == 0)=false:=by rw[bFn];omega
 by_cases h9:2<=s.head
 case neg =>
  have d9:=dFo ((s.head:Int) ≥ 2);have e:decide s.ok=false:=decide_eq_false fun h=>h.2.2.2.2.elim h8 fun h=>h9 h.1;simp -implicitDefEqProofs only[go_sem,yJ,bSe,qQx,jY,Tryz.f124,yN,B,H,N,I,J,T,O,A,L,M,R,U,V,Z,d8,d9,e];exact E
 have d9:=dTo ((s.head:Int) ≥ 2);have a0:decide ((s.head:Int)<(s.mark:Int))=decide (s.head<s.mark):=decide_eq_decide.2 ⟨fun h=>by omega,fun h=>by omega⟩;have e:decide s.ok=decide (s.head<s.mark):=decide_eq_decide.2 ⟨fun h=>h.2.2.2.2.elim (fun h=>absurd h h8) fun h=>h.2,fun h=>⟨⟨h1,h2⟩,h3,⟨h4,h5⟩,⟨h6,h7⟩,.inr ⟨h9,h⟩⟩⟩;simp -implicitDefEqProofs only[go_sem,yJ,bSe,jY,Tryz.f124,yN,B,H,N,I,J,T,O,A,L,M,R,U,V,Z,d8,d9,a0,e];exact E
end A
end
section
open Go.Proofs
namespace A
open Aud
def lfV (k:Bs)(vv:Value):Value:=.iface 315 (.agg (lfC k vv).toArray)
def brV (A lc:Nat)(ls:Bs)(B rc:Nat)(rs:Bs):Value:=.iface 320 (.agg (cdC A lc ls++cdC B rc rs).toArray)
def RdN (w:World)(kind:Nat)(l:Bs)(v:Value):Prop :=
 if kind=1/\32<=l.length then ∃ vv,v=lfV (l.take 32) vv/\one vv=true/\By w vv (l.drop 32)
 else if kind=2/\l.length=80 then v=brV (nat4 l 0) (nat4 l 8) ((l.drop 16).take 32) (nat4 l 4) (nat4 l 12) ((l.drop 48).take 32)
 else v=.nilIface
theorem bldLf (vv:Value)(A:one vv=true):bldO prog 315 [(1,vv)]=some (.agg (lfC z32 vv).toArray):=by
 rw[qKd zero315 places315 (c:=(lfC z32 (.slice none 0 0)).toArray) x8];have:=qJb (ps:=fun i=>[(0,32),(32,1)][i]?) (i:=1) (o:=32) (a:=z32.map u8) (r:=[]) (u:=.slice none 0 0) (v:=vv) (rest:=[]) rfl sm A;rw[qXu]at this;exact congrArg (yM vN) this
theorem bldCd (p c:Nat):bldO prog 318 [(0,.int .i64 (p:Nat)),(1,.int .i64 (c:Nat))]=some (.agg (cdC p c z32).toArray):=by
 rw[qKd zero318 places318 (c:=(cdC 0 0 z32).toArray) x8];rfl
theorem bldBr (p c p' c':Nat):bldO prog 320 [(0,.agg (cdC p c z32).toArray),(1,.agg (cdC p' c' z32).toArray)]=some (.agg (cdC p c z32++cdC p' c' z32).toArray):=by
 rw[qKd zero320 places320 (c:=(cdC 0 0 z32++cdC 0 0 z32).toArray) x8];have z:z32.length=32:=sm
 have A:=qJv (ps:=fun i=>[(0,34),(34,34)][i]?) (i:=0) (o:=0) (n:=34) (a:=[]) (m:=cdC 0 0 z32) (r:=cdC 0 0 z32) (vs:=cdC p c z32) (rest:=[(1,.agg (cdC p' c' z32).toArray)]) rfl rfl (qZc z _ _) (qZc z _ _);have B:=qJv (ps:=fun i=>[(0,34),(34,34)][i]?) (i:=1) (o:=34) (n:=34) (a:=cdC p c z32) (m:=cdC 0 0 z32) (r:=[]) (vs:=cdC p' c' z32) (rest:=[]) rfl (qZc z _ _) (qZc z _ _) (qZc z _ _);rw[zL,zL]at A;rw[zO,zO,qXu]at B;exact congrArg (yM vN) (A.trans B)
theorem read (A:World)(kind:Nat){l:Bs}(V:By A p l)(hl:l.length<=2 ^ 40):Fn prog 237 #[.int .i64 (kind:Nat),p] A fun v w'=>No A w'/\RdN w' kind l v:=by
 obtain⟨a,cap,rfl,T⟩:=V.slice;refine go237 sm ?_;have n1:=nateq kind 1;have n2:=nateq kind 2;have f7:((kind:Int) == 1)=decide (kind=1):=n1;have f8:((kind:Int) == 2)=decide (kind=2):=n2;clear n1 n2
 by_cases hA:kind=1/\32<=l.length
 ·obtain⟨rfl,N⟩:=hA
  obtain⟨b,o,a7,e,_⟩:=V.pos om;cases e;have d1:=dTo ((l.length:Int) ≥ 32);have U:(((1:Nat):Int) == 1)=true:=rfl;have s1:qQw prog 22 (.slice (some ⟨b,o,none⟩) l.length cap) (some (.int .i64 32)) none none=some (cutV 1 (some ⟨b,o,none⟩) cap 32 l.length):=slc_lo slc22 arr22 sz5 (l:=32) (n:=l.length) N T;obtain⟨a',hcut⟩:=cutV_slice 1 (some ⟨b,o,none⟩) cap 32 l.length
  have f9:By A (cutV 1 (some ⟨b,o,none⟩) cap 32 l.length) (l.drop 32):=by
   have:=By.slc V (l:=32) (m:=l.length) N (xC _)
   rwa [zG (by rw[lDr];omega)]at this
  have ov:one (cutV 1 (some ⟨b,o,none⟩) cap 32 l.length)=true:=by rw[hcut];rfl
  generalize cutV 1 (some ⟨b,o,none⟩) cap 32 l.length=vv at *;obtain⟨W,hW,f1,k1,s2⟩:=qQl A (lfC z32 (.slice none 0 0)).toArray 315;have Y:bl (zK 32 0)++#[.slice none 0 0]=(lfC z32 (.slice none 0 0)).toArray:=x8
  have z:z32.length=32:=sm
  have J:wrO prog 315 W A.heap.size 0 (.agg (lfC z32 vv).toArray)=some (put W A.heap.size (.cells (lfC z32 vv).toArray 315 (0,0))):=qQr (by simp[lfC_len z];exact sz315) k1 (by simp[lfC_len z]) (by simpa using lfC_one z32 ov);have k2:=qQd (o:=.cells (lfC z32 vv).toArray 315 (0,0)) k1;have f2:=f1.put (b:=A.heap.size) (.cells (lfC z32 vv).toArray 315 (0,0)) fun h=>absurd h (yU _);have b0:=bldLf vv ov;have ps:=pt_slice (P:=prog) (o:=0) arr76 sz5 om A.heap.size;simp only[go_sem,yJ,yN,bSe,jY,qQk,Tryz.f237,U,d1,s1,b0,Y,hW,J,ps];generalize put W A.heap.size (.cells (lfC z32 vv).toArray 315 (0,0))=w2 at *;have hc:=copy_mid (P:=prog) (ts:=#[22,22]) (t:=22) rfl slc22 sz5 (b:=A.heap.size) (o:=0) (a:=[]) (r:=[vv]) (d:=z32) rfl (n:=32) sm k2 (V.fr0 f2) N;refine qQj ⟨_,_,hc,?_⟩;rw[zL]at *;have k3:=qQd (o:=.cells ((l.take 32).map u8++[vv]).toArray 315 (0,0)) k2;have h3:(l.take 32).length=32:=by rw[lTk];omega
  have ld:=qQp (P:=prog) (t:=315) agg315 sz315 k3 (by simp;omega);have f3:=f2.put (b:=A.heap.size) (.cells ((l.take 32).map u8++[vv]).toArray 315 (0,0)) fun h=>absurd h (yU _);simp only[go_sem,yJ,ld];refine⟨f3,?_⟩;unfold RdN;rw[if_pos ⟨rfl,N⟩];exact⟨vv,rfl,ov,f9.fr0 f3⟩
 by_cases hB:kind=2/\l.length=80
 case neg =>
  have E:RdN A kind l .nilIface:=by unfold RdN;rw[if_neg hA,if_neg hB]
  by_cases h1:kind=1
  ·have d1:decide ((l.length:Int) ≥ 32)=false:=decide_eq_false fun h=>hA ⟨h1,om⟩
   have U:((kind:Int) == 1)=true:=by rw[h1];rfl
   have Z:((kind:Int) == 2)=false:=by rw[h1];rfl
   simp only[go_sem,yJ,bSe,qQx,jY,Tryz.f237,U,d1,Z];exact⟨Fr.refl _ _,E⟩
  ·have U:((kind:Int) == 1)=false:=by rw[f7,decide_eq_false h1]
   by_cases h2:kind=2
   ·have Z:((kind:Int) == 2)=true:=by rw[h2];rfl
    have d2:((l.length:Int) == 80)=false:=by rw[bFn];exact fun h=>hB ⟨h2,om⟩
    simp only[go_sem,yJ,bSe,qQx,jY,Tryz.f237,U,Z,d2];exact⟨Fr.refl _ _,E⟩
   ·have Z:((kind:Int) == 2)=false:=by rw[f8,decide_eq_false h2]
    simp only[go_sem,yJ,qQx,jY,Tryz.f237,U,Z];exact⟨Fr.refl _ _,E⟩
 obtain⟨rfl,a8⟩:=hB;obtain⟨b,o,a7,e,_⟩:=V.pos om;cases e;have U:(((2:Nat):Int) == 1)=false:=rfl;have Z:(((2:Nat):Int) == 2)=true:=rfl;have d2:((l.length:Int) == 80)=true:=by rw[a8];rfl
 have sl:∀ {k:Nat},k<=80->qQw prog 22 (.slice (some ⟨b,o,none⟩) l.length cap) (some (.int .i64 (k:Nat))) none none=some (cutV 1 (some ⟨b,o,none⟩) cap k l.length):=fun {k} hk=>slc_lo slc22 arr22 sz5 (l:=k) (n:=l.length) om T
 have cut:∀ {k:Nat},k<=80->By A (cutV 1 (some ⟨b,o,none⟩) cap k l.length) (l.drop k):=fun {k} hk=>by
  have:=By.slc V (l:=k) (m:=l.length) om (xC _)
  rwa [zG (by rw[lDr];omega)]at this
 have s4:=sl (k:=4) om;have s8:=sl (k:=8) om;have a0:=sl (k:=12) om;have c4:=cut (k:=4) om;have c8:=cut (k:=8) om;have L:=cut (k:=12) om;have s4:qQw prog 22 (.slice (some ⟨b,o,none⟩) l.length cap) (some (.int .i64 4)) none none=_:=s4;have s8:qQw prog 22 (.slice (some ⟨b,o,none⟩) l.length cap) (some (.int .i64 8)) none none=_:=s8;have a0:qQw prog 22 (.slice (some ⟨b,o,none⟩) l.length cap) (some (.int .i64 12)) none none=_:=a0;have I:∀ (w:World) {v:Value} {k:Nat},By A v (l.drop k)->k+4<=80->No A w->Fn prog 242 #[v] w fun v w'=>v=.int .i64 (nat4 l k)/\No w w':=fun w v k h hk f=>four w (h.fr0 f) (by rw[lDr];omega) (by rw[lDr];omega);have p0:By A (.slice (some ⟨b,o,none⟩) l.length cap) (l.drop 0):=V;have Y:#[.int .i64 0,.int .i64 0]++bl (zK 32 0)++#[.int .i64 0,.int .i64 0]++bl (zK 32 0)=(cdC 0 0 z32++cdC 0 0 z32).toArray:=x8
 have z:z32.length=32:=sm
 have l1:((l.drop 16).take 32).length=32:=by rw[lTk,lDr];omega
 have l2:((l.drop 48).take 32).length=32:=by rw[lTk,lDr];omega
 simp only[go_sem,yJ,bSe,qQx,jY,Tryz.f237,U,Z,d2];refine qXg (Q:=fun e ev w=>e=.normal/\∃ B,ev 1=.slice (some ⟨b,o,none⟩) l.length cap/\ev 6=pt B 0/\w.heap[B]?=some (.cells (cdC (nat4 l 0) (nat4 l 8) z32++cdC (nat4 l 4) (nat4 l 12) z32).toArray 320 (0,0))/\A.heap.size<=B/\No A w) _ (fun e ev w=>?_) ?_
 ·rintro⟨rfl,B,e1,e6,kt,n9,fw⟩
  have g1:=pt_slice (P:=prog) (o:=2) arr75 sz5 om B;have g4:=pt_slice (P:=prog) (o:=36) arr75 sz5 om B;have g5:qQw prog 22 (.slice (some ⟨b,o,none⟩) l.length cap) (some (.int .i64 16)) none none=_:=sl (k:=16) om;have g6:qQw prog 22 (.slice (some ⟨b,o,none⟩) l.length cap) (some (.int .i64 48)) none none=_:=sl (k:=48) om;have kd:w.drew.heap[B]?=some (.cells ([vM .i64 (nat4 l 0:Nat),vM .i64 (nat4 l 8:Nat)]++z32.map u8++cdC (nat4 l 4) (nat4 l 12) z32).toArray 320 (0,0)):=kt;have f2:∀ c:Array Value,No A (put w.drew B (.cells c 320 (0,0))):=fun c=>fw.drew.put (b:=B) _ fun h=>by omega
  have g7:=copy_mid (P:=prog) (ts:=#[22,22]) (t:=22) rfl slc22 sz5 (b:=B) (o:=2) (a:=[vM .i64 (nat4 l 0:Nat),vM .i64 (nat4 l 8:Nat)]) (d:=z32) rfl (n:=32) sm kd ((cut (k:=16) om).fr0 fw.drew) (by rw[lDr];omega);have k2:=qQd (o:=.cells ([vM .i64 (nat4 l 0:Nat),vM .i64 (nat4 l 8:Nat)]++((l.drop 16).take 32).map u8++cdC (nat4 l 4) (nat4 l 12) z32).toArray 320 (0,0)) kd;have g2:=f2 ([vM .i64 (nat4 l 0:Nat),vM .i64 (nat4 l 8:Nat)]++((l.drop 16).take 32).map u8++cdC (nat4 l 4) (nat4 l 12) z32).toArray;simp only[go_sem,yJ,yY,jY,e1,e6,g1,g5];refine qQj ⟨_,_,g7,?_⟩;generalize put w.drew B (.cells ([vM .i64 (nat4 l 0:Nat),vM .i64 (nat4 l 8:Nat)]++((l.drop 16).take 32).map u8++cdC (nat4 l 4) (nat4 l 12) z32).toArray 320 (0,0))=w2 at *
  have a9:w2.drew.heap[B]?=some (.cells ((cdC (nat4 l 0) (nat4 l 8) ((l.drop 16).take 32)++[vM .i64 (nat4 l 4:Nat),vM .i64 (nat4 l 12:Nat)])++z32.map u8++[]).toArray 320 (0,0)):=by
   show w2.heap[B]?=_;rw[k2];simp[cdC]
  have b1:=copy_mid (P:=prog) (ts:=#[22,22]) (t:=22) rfl slc22 sz5 (b:=B) (o:=36) (a:=cdC (nat4 l 0) (nat4 l 8) ((l.drop 16).take 32)++[vM .i64 (nat4 l 4:Nat),vM .i64 (nat4 l 12:Nat)]) (d:=z32) (by simp[cdC];omega) (n:=32) sm a9 ((cut (k:=48) om).fr0 g2.drew) (by rw[lDr];omega);have e3:(cdC (nat4 l 0) (nat4 l 8) ((l.drop 16).take 32)++[vM .i64 (nat4 l 4:Nat),vM .i64 (nat4 l 12:Nat)])++((l.drop 48).take 32).map u8++[]=cdC (nat4 l 0) (nat4 l 8) ((l.drop 16).take 32)++cdC (nat4 l 4) (nat4 l 12) ((l.drop 48).take 32):=by simp[cdC]
  rw[e3]at b1;have k3:=qQd (o:=.cells (cdC (nat4 l 0) (nat4 l 8) ((l.drop 16).take 32)++cdC (nat4 l 4) (nat4 l 12) ((l.drop 48).take 32)).toArray 320 (0,0)) a9;have g3:=g2.drew.put (b:=B) (.cells (cdC (nat4 l 0) (nat4 l 8) ((l.drop 16).take 32)++cdC (nat4 l 4) (nat4 l 12) ((l.drop 48).take 32)).toArray 320 (0,0)) fun h=>by omega
  simp only[go_sem,yJ,yY,vH,jY,e1,e6,g4,g6];refine qQj ⟨_,_,b1,?_⟩;have ld:=qQp (P:=prog) (t:=320) agg320 sz320 k3 (by simp[qZc l1,qZc l2]);simp only[go_sem,yJ,e6,ld];refine⟨g3,?_⟩;unfold RdN;rw[if_neg om,if_pos ⟨rfl,a8⟩]
  rfl
 have H:∀ w:World,No A w->∃ W,w.alloc (.cells (cdC 0 0 z32++cdC 0 0 z32).toArray 320)=W/\Ext w W/\No A W/\W.heap[w.heap.size]?=some (.cells (cdC 0 0 z32++cdC 0 0 z32).toArray 320 (0,0))/\A.heap.size<=w.heap.size:=fun w f=>by
  obtain⟨W5,g8,f5,k5,s5⟩:=qQl w (cdC 0 0 z32++cdC 0 0 z32).toArray 320;exact⟨W5,g8,f5.ext,f.trans f5,k5,f.size⟩
 have E:∀ (w:World) (B:Nat), No A w->w.heap[B]?=some (.cells (cdC 0 0 z32++cdC 0 0 z32).toArray 320 (0, 0))->A.heap.size<=B ->
   wrO prog 320 w B 0 (.agg (cdC (nat4 l 0) (nat4 l 8) z32++cdC (nat4 l 4) (nat4 l 12) z32).toArray)=some (put w B (.cells (cdC (nat4 l 0) (nat4 l 8) z32++cdC (nat4 l 4) (nat4 l 12) z32).toArray 320 (0,0))) /\
   (put w B (.cells (cdC (nat4 l 0) (nat4 l 8) z32++cdC (nat4 l 4) (nat4 l 12) z32).toArray 320 (0,0))).heap[B]?=some (.cells (cdC (nat4 l 0) (nat4 l 8) z32++cdC (nat4 l 4) (nat4 l 12) z32).toArray 320 (0,0))/\No A (put w B (.cells (cdC (nat4 l 0) (nat4 l 8) z32++cdC (nat4 l 4) (nat4 l 12) z32).toArray 320 (0,0))):=fun w B f k h =>
  ⟨qQr (by simp[qZc z];exact sz320) k (by simp[qZc z]) (by simp only[List.size_toArray,List.all_toArray',vY,cdC_one,vW]),qQd (o:=.cells (cdC (nat4 l 0) (nat4 l 8) z32++cdC (nat4 l 4) (nat4 l 12) z32).toArray 320 (0,0)) k,f.put (b:=B) _ fun h'=>by omega⟩
 have a3:=bldCd (nat4 l 0) (nat4 l 8);have M:=bldCd (nat4 l 4) (nat4 l 12);have bb:=bldBr (nat4 l 0) (nat4 l 8) (nat4 l 4) (nat4 l 12);refine qXl (fun j=>j == 14) (.one 0 (.one 2 (.one 3 (.one 6 (.one 7 (.one 9 (.one 10 (.two 1 (.two 4 (.one 5 (.two 8 (.two 11 (.row [12,13,14,15]) 14 (.row [11,12,13,15])) 14 (.row [8,11,12,13,15]))) 14 (.row [4,5,8,11,12,13,15])) 14 (.row [1,4,5,8,11,12,13,15]))))))))) rfl x8 x8 ?_;have g0:No A A.drew:=(Fr.refl _ _).drew;generalize A.drew=w1 at *;obtain⟨V0,g9,x0,y0,v0,u0⟩:=H w1 g0;simp only[go_sem,yJ,yY,yN,bSe,qQk,OT.row,s4,s8,a0,Y,g9,x0];refine⟨?_,?_⟩
 ·refine qQe pl242 ((I w1 (k:=0) p0 om g0).mono ?_);rintro _ b3 ⟨rfl,h0⟩;refine⟨fun h=>absurd h x9,?_⟩
  have a4:=(g0).trans h0;obtain⟨h4,b4,h5,b5,h6,b6⟩:=H b3 a4;simp only[go_sem,yJ,yN,bSe,qQk,Y,b4,h5,implies_true];refine⟨?_,?_⟩
  ·refine qQe pl242 ((I b3 (k:=8) c8 om a4).mono ?_);rintro _ b7 ⟨rfl,h7⟩;refine⟨fun h=>absurd h x9,?_⟩
   have a5:=(a4).trans h7;obtain⟨h8,b8,h9,b9,k0,c0⟩:=H b7 a5;simp only[go_sem,yJ,yY,yN,bSe,qQk,a3,Y,b8,h9,implies_true];refine⟨?_,?_⟩
   ·refine qQe pl242 ((I b7 (k:=4) c4 om a5).mono ?_);rintro _ c3 ⟨rfl,k4⟩;refine⟨fun h=>absurd h x9,?_⟩
    have a6:=(a5).trans k4;obtain⟨k6,c5,k7,c6,k8,c7⟩:=H c3 a6;simp only[go_sem,yJ,yN,bSe,qQk,Y,c5,k7,implies_true];refine⟨?_,?_⟩
    ·refine qQe pl242 ((I c3 (k:=12) L om a6).mono ?_);rintro _ k9 ⟨rfl,l0⟩;refine⟨fun h=>absurd h x9,?_⟩
     have l3:=(a6).trans l0;obtain⟨p1,c9,l4,l5,l6,d0⟩:=H k9 l3;obtain⟨J,O,R⟩:=E _ _ l5 l6 d0;simp only[go_sem,yJ,yY,yN,bSe,qQk,M,bb,Y,c9,l4,implies_true,J];exact⟨_,rfl,O,d0,R⟩
    ·refine qQe pl242 ((I k6 (k:=12) L om c6).mono ?_);rintro _ p2 ⟨rfl,d3⟩;refine⟨fun h=>absurd h x9,?_⟩
     have l7:=(c6).trans d3;have l8:=d3.at k8 id;obtain⟨J,O,R⟩:=E _ _ l7 l8 c7;simp only[go_sem,yJ,yY,M,bb,J];exact⟨_,rfl,O,c7,R⟩
   ·refine qQe pl242 ((I h8 (k:=4) c4 om b9).mono ?_);rintro _ l9 ⟨rfl,d4⟩;refine⟨fun h=>absurd h x9,?_⟩
    have d5:=(b9).trans d4;have m0:=d4.at k0 id;simp only[go_sem,yJ];refine qQe pl242 ((I l9 (k:=12) L om d5).mono ?_);rintro _ p3 ⟨rfl,d6⟩;refine⟨fun h=>absurd h x9,?_⟩;have m1:=(d5).trans d6;have m2:=d6.at m0 id;obtain⟨J,O,R⟩:=E _ _ m1 m2 c0;simp only[go_sem,yJ,yY,M,bb,J];exact⟨_,rfl,O,c0,R⟩
  ·refine qQe pl242 ((I h4 (k:=8) c8 om b5).mono ?_);rintro _ m3 ⟨rfl,d7⟩;refine⟨fun h=>absurd h x9,?_⟩
   have d8:=(b5).trans d7;have m4:=d7.at h6 id;simp only[go_sem,yJ,yY,a3];refine qQe pl242 ((I m3 (k:=4) c4 om d8).mono ?_);rintro _ m5 ⟨rfl,d9⟩;refine⟨fun h=>absurd h x9,?_⟩;have e0:=(d8).trans d9;have m6:=d9.at m4 id;simp only[go_sem,yJ];refine qQe pl242 ((I m5 (k:=12) L om e0).mono ?_);rintro _ p4 ⟨rfl,e2⟩;refine⟨fun h=>absurd h x9,?_⟩;have m7:=(e0).trans e2;have m8:=e2.at m6 id;obtain⟨J,O,R⟩:=E _ _ m7 m8 b6;simp only[go_sem,yJ,yY,M,bb,J];exact⟨_,rfl,O,b6,R⟩
 ·refine qQe pl242 ((I V0 (k:=0) p0 om y0).mono ?_);rintro _ m9 ⟨rfl,e4⟩;refine⟨fun h=>absurd h x9,?_⟩
  have e5:=(y0).trans e4;have n0:=e4.at v0 id;simp only[go_sem,yJ];refine qQe pl242 ((I m9 (k:=8) c8 om e5).mono ?_);rintro _ n3 ⟨rfl,e7⟩;refine⟨fun h=>absurd h x9,?_⟩;have e8:=(e5).trans e7;have n4:=e7.at n0 id;simp only[go_sem,yJ,yY,a3];refine qQe pl242 ((I n3 (k:=4) c4 om e8).mono ?_);rintro _ n5 ⟨rfl,e9⟩;refine⟨fun h=>absurd h x9,?_⟩;have f0:=(e8).trans e9;have n6:=e9.at n4 id;simp only[go_sem,yJ];refine qQe pl242 ((I n5 (k:=12) L om f0).mono ?_);rintro _ p5 ⟨rfl,f6⟩;refine⟨fun h=>absurd h x9,?_⟩;have n7:=(f0).trans f6;have n8:=f6.at n6 id;obtain⟨J,O,R⟩:=E _ _ n7 n8 u0;simp only[go_sem,yJ,yY,M,bb,J];exact⟨_,rfl,O,u0,R⟩
end A
end
section
open Go.Proofs
namespace A
open Aud
def ndC (kind l r lc rc:Nat)(ls rs k:Bs)(vv:Value):List Value :=
 [.int .i64 (kind:Nat),.int .i64 (l:Nat),.int .i64 (r:Nat),.int .i64 (lc:Nat),.int .i64 (rc:Nat)]++ls.map u8++rs.map u8++k.map u8++[vv]
def ndA:Nd->Value->List Value
 | .leaf k _,vv=>ndC 1 0 0 0 0 z32 z32 k vv
 | .br A B lc rc ls rs,vv=>ndC 2 A B lc rc ls rs z32 vv
def ndVal:Nd->Bs
 | .leaf _ v=>v
 | .br _ _ _ _ _ _=>[]
abbrev nd0:List Value:=ndC 0 0 0 0 0 z32 z32 z32 (.slice none 0 0)
theorem qXf {kind l r lc rc:Nat}(A:ls.length=32)(B:rs.length=32)(E:k.length=32)(vv:Value):(ndC kind l r lc rc ls rs k vv).length=102:=by simp[ndC,A,B,E]
theorem qZy (kind l r lc rc:Nat)(ls rs k:Bs)(h:one vv=true):(ndC kind l r lc rc ls rs k vv).all one=true:=by
 simp only[ndC,vY,qXs,vG,h,vF,vV];rfl
theorem z32l:z32.length=32:=sm
theorem ndZero:#[.int .i64 0,.int .i64 0,.int .i64 0,.int .i64 0,.int .i64 0]++bl (zK 96 0)++#[.slice none 0 0]=nd0.toArray:=x8
theorem bldNd0:bldO prog 78 []=some (.agg nd0.toArray):=by
 rw[qKd zero78 places78 (c:=nd0.toArray) x8];rfl
def ndPs:List (Nat × Nat):=[(0,1),(1,1),(2,1),(3,1),(4,1),(5,32),(37,32),(69,32),(101,1)]
theorem ndPlaces:qXh prog 78=some ndPs:=x8
theorem bldLeaf (A:k.length=32)(E:one vv=true):bldO prog 78 [(0,.int .i64 1),(7,dg k),(8,vv)]=some (.agg (ndC 1 0 0 0 0 z32 z32 k vv).toArray):=by
 rw[qKd zero78 ndPlaces (c:=nd0.toArray) x8];have H:=qJb (ps:=fun i=>ndPs[i]?) (i:=0) (o:=0) (a:=[]) (r:=(ndC 0 0 0 0 0 z32 z32 z32 (.slice none 0 0)).drop 1) (u:=.int .i64 0) (v:=.int .i64 1) (rest:=[(7,dg k),(8,vv)]) rfl rfl rfl;have I:=qJv (ps:=fun i=>ndPs[i]?) (i:=7) (o:=69) (n:=32) (a:=[.int .i64 1,.int .i64 0,.int .i64 0,.int .i64 0,.int .i64 0]++z32.map u8++z32.map u8) (m:=z32.map u8) (r:=[.slice none 0 0]) (vs:=k.map u8) (rest:=[(8,vv)]) rfl sm sm (by simp[A]);have B:=qJb (ps:=fun i=>ndPs[i]?) (i:=8) (o:=101) (a:=[.int .i64 1,.int .i64 0,.int .i64 0,.int .i64 0,.int .i64 0]++z32.map u8++z32.map u8++k.map u8) (r:=[]) (u:=.slice none 0 0) (v:=vv) (rest:=[]) rfl (by simp[A]) E;rw[qXu]at B;exact congrArg (yM vN) ((H.trans I).trans B)
theorem bldBranch (B:ls.length=32)(E:rs.length=32)(l r lc rc:Nat):bldO prog 78 [(0,.int .i64 2),(1,.int .i64 (l:Nat)),(2,.int .i64 (r:Nat)),(3,.int .i64 (lc:Nat)),(4,.int .i64 (rc:Nat)),(5,dg ls),(6,dg rs)]=some (.agg (ndC 2 l r lc rc ls rs z32 (.slice none 0 0)).toArray):=by
 rw[qKd zero78 ndPlaces (c:=nd0.toArray) x8];have V:nd0.drop 5=z32.map u8++z32.map u8++z32.map u8++[.slice none 0 0]:=rfl;have s:∀ (i:Nat) (a r:List Value) (u v:Value) (rest:List (Nat × Value)),ndPs[i]?=some (i,1)->a.length=i->one v=true->Instr.fill (fun i=>ndPs[i]?) (a++u::r).toArray ((i,v)::rest)=Instr.fill (fun i=>ndPs[i]?) (a++v::r).toArray rest:=fun i a r u v rest H I J=>qJb H I J;have L:=s 0 [] (nd0.drop 1) (.int .i64 0) (.int .i64 2) [(1,.int .i64 (l:Nat)),(2,.int .i64 (r:Nat)),(3,.int .i64 (lc:Nat)),(4,.int .i64 (rc:Nat)),(5,dg ls),(6,dg rs)] rfl rfl rfl;have M:=s 1 [.int .i64 2] (nd0.drop 2) (.int .i64 0) (.int .i64 (l:Nat)) [(2,.int .i64 (r:Nat)),(3,.int .i64 (lc:Nat)),(4,.int .i64 (rc:Nat)),(5,dg ls),(6,dg rs)] rfl rfl rfl;have N:=s 2 [.int .i64 2,.int .i64 (l:Nat)] (nd0.drop 3) (.int .i64 0) (.int .i64 (r:Nat)) [(3,.int .i64 (lc:Nat)),(4,.int .i64 (rc:Nat)),(5,dg ls),(6,dg rs)] rfl rfl rfl;have O:=s 3 [.int .i64 2,.int .i64 (l:Nat),.int .i64 (r:Nat)] (nd0.drop 4) (.int .i64 0) (.int .i64 (lc:Nat)) [(4,.int .i64 (rc:Nat)),(5,dg ls),(6,dg rs)] rfl rfl rfl;have R:=s 4 [.int .i64 2,.int .i64 (l:Nat),.int .i64 (r:Nat),.int .i64 (lc:Nat)] (nd0.drop 5) (.int .i64 0) (.int .i64 (rc:Nat)) [(5,dg ls),(6,dg rs)] rfl rfl rfl;have T:=qJv (ps:=fun i=>ndPs[i]?) (i:=5) (o:=5) (n:=32) (a:=[.int .i64 2,.int .i64 (l:Nat),.int .i64 (r:Nat),.int .i64 (lc:Nat),.int .i64 (rc:Nat)]) (m:=z32.map u8) (r:=z32.map u8++z32.map u8++[.slice none 0 0]) (vs:=ls.map u8) (rest:=[(6,dg rs)]) rfl rfl sm (by simp[B]);have A:=qJv (ps:=fun i=>ndPs[i]?) (i:=6) (o:=37) (n:=32) (a:=[.int .i64 2,.int .i64 (l:Nat),.int .i64 (r:Nat),.int .i64 (lc:Nat),.int .i64 (rc:Nat)]++ls.map u8) (m:=z32.map u8) (r:=z32.map u8++[.slice none 0 0]) (vs:=rs.map u8) (rest:=[]) rfl (by simp[B]) sm (by simp[E])
 rw[qXu]at A;have e:([vM .i64 2,.int .i64 (l:Nat),.int .i64 (r:Nat),.int .i64 (lc:Nat),.int .i64 (rc:Nat)]++ls.map u8)++z32.map u8++(z32.map u8++[.slice none 0 0])=[vM .i64 2,.int .i64 (l:Nat),.int .i64 (r:Nat),.int .i64 (lc:Nat),.int .i64 (rc:Nat)]++ls.map u8++(z32.map u8++z32.map u8++[.slice none 0 0]):=by simp only[List.append_assoc]
 rw[e]at A;have U:([vM .i64 2,.int .i64 (l:Nat),.int .i64 (r:Nat),.int .i64 (lc:Nat),.int .i64 (rc:Nat)]++ls.map u8)++rs.map u8++(z32.map u8++[.slice none 0 0])=ndC 2 l r lc rc ls rs z32 (.slice none 0 0):=by simp only[ndC,List.append_assoc];rfl
 rw[U]at A;exact congrArg (yM vN) ((((((L.trans M).trans N).trans O).trans R).trans T).trans A)
def NdM (A w:World)(n:Nd)(v:Value):Prop:=∃ vv,v=.agg (ndA n vv).toArray/\one vv=true/\NwB A w vv (ndVal n)/\(n.kind=2->vv=.slice none 0 0)
theorem nodeOfLeaf (A:World)(B:k.length=32)(ov:one vv=true)(hv:By A vv val)(hl:val.length<=2 ^ 40):Fn prog 238 #[lfV k vv] A fun v w'=>No A w'/\NdM A w' (.leaf k val) v:=by
 refine go238 sm ?_;obtain⟨W,hW,f1,Y,s1⟩:=qQl A nd0.toArray 78;obtain⟨J,L,Z,k2,s2⟩:=qQl W (lfC z32 (.slice none 0 0)).toArray 315;have zz:bl (zK 32 0)++#[.slice none 0 0]=(lfC z32 (.slice none 0 0)).toArray:=x8
 have q1:wrO prog 315 J W.heap.size 0 (.agg (lfC k vv).toArray)=some (put J W.heap.size (.cells (lfC k vv).toArray 315 (0,0))):=qQr (by simp[lfC_len B];exact sz315) k2 (by simp[lfC_len B,lfC_len z32l]) (by simpa using lfC_one k ov);have M:=qQd (o:=.cells (lfC k vv).toArray 315 (0,0)) k2;have N:=qQi (b:=W.heap.size) (o:=.cells (lfC k vv).toArray 315 (0,0)) (Z.at Y id) om;have f3:=(f1.trans Z).put (b:=W.heap.size) (.cells (lfC k vv).toArray 315 (0,0)) fun h=>by omega
 have O:lfV k vv=.iface 315 (.agg (lfC k vv).toArray):=rfl;simp only[go_sem,yJ,yN,qQk,Tryz.f238,ndZero,hW,O,if_true,zz,L,q1];generalize put J W.heap.size (.cells (lfC k vv).toArray 315 (0,0))=E at *;have rk:rdO prog 76 E.drew W.heap.size 0=some (dg k):=qJw (a:=[]) (m:=k.map u8) (r:=[vv]) (w:=E.drew) agg76 (by simp[B];exact sz76) (by simp[B]) M rfl;have rv:rdO prog 22 E.drew W.heap.size 32=some vv:=rd_one (a:=k.map u8) (r:=[]) (w:=E.drew) agg22 M (by simp[B]);obtain⟨H,I,R,T,f5,g5,m5⟩:=NwB.catB (P:=prog) app22_22 (NwB.nil A E.drew) (hv.fr0 f3.drew) (by simp;omega) f3.drew;rw[zL]at T;have U:one H=true:=by obtain⟨a,c,rfl⟩:=T.slice;rfl
 refine qXl (fun j=>j == 4) (.row [0,2,1,3,4,5,6]) rfl x8 x8 ?_;simp only[go_sem,yJ,yY,jY,OT.row,rk,rv];refine qZm ⟨H,I,R,?_⟩;refine⟨fun _=>(g5.mono (G:=fun _=>False) fun b _ h=>by cases h).ext,?_⟩;have k5:I.heap[A.heap.size]?=_:=g5.at (show E.drew.heap[A.heap.size]?=_ from N) (by simp[qQc]);have V:=bldLeaf B U;have q6:wrO prog 78 I A.heap.size 0 (.agg (ndC 1 0 0 0 0 z32 z32 k H).toArray)=some (put I A.heap.size (.cells (ndC 1 0 0 0 0 z32 z32 k H).toArray 78 (0,0))):=qQr (by simp[qXf z32l z32l B];exact sz78) k5 (by simp[qXf z32l z32l B,qXf z32l z32l z32l]) (by simpa using qZy 1 0 0 0 0 z32 z32 k U);have k6:=qQd (o:=.cells (ndC 1 0 0 0 0 z32 z32 k H).toArray 78 (0,0)) k5;have ld:=qQp (P:=prog) (t:=78) agg78 sz78 k6 (by simp[qXf z32l z32l B]);simp only[go_sem,yJ,yY,V,q6,ld,implies_true];have h0:A.heap.size<W.heap.size:=qQh Y;have a0:W.heap.size<E.heap.size:=qQh M;refine⟨f5.put (b:=A.heap.size) _ fun h=>absurd h (yU _),H,rfl,U,T.put _ fun c hc=>?_,fun h=>by cases h⟩
 rcases m5 c hc with h | h
 ·cases h
 ·have h:E.heap.size<=c:=h
  omega
end A
end
section
open Go.Proofs
namespace A
open Aud
def NoR (B:World)(A:Nat)(E H:List Value)(I J L:Value)(w:World):Prop :=
 ∃ a b,I=pt A 0/\J=pt a 0/\L=pt b 0/\w.heap[a]?=some (.cells E.toArray 318 (0,0))/\w.heap[b]?=some (.cells H.toArray 318 (0,0))/\w.heap[A]?=some (.cells nd0.toArray 78 (0,0))/\No B w
theorem nodeOfBranch (H:World)(J lc L rc:Nat)(U:ls.length=32)(V:rs.length=32):Fn prog 238 #[brV J lc ls L rc rs] H fun v w'=>No H w'/\NdM H w' (.br J L lc rc ls rs) v:=by
 refine go238 sm ?_;obtain⟨W,hW,f1,k1,s1⟩:=qQl H nd0.toArray 78;obtain⟨W2,a0,f2,k2,s2⟩:=qQl W (cdC 0 0 z32++cdC 0 0 z32).toArray 320;have zz:#[.int .i64 0,.int .i64 0]++bl (zK 32 0)++#[.int .i64 0,.int .i64 0]++bl (zK 32 0)=(cdC 0 0 z32++cdC 0 0 z32).toArray:=x8
 have zc:#[.int .i64 0,.int .i64 0]++bl (zK 32 0)=(cdC 0 0 z32).toArray:=x8
 generalize N:cdC J lc ls=B;generalize O:cdC L rc rs=E;have I:B.length=34:=by rw[<- N];exact qZc U _ _
 have M:E.length=34:=by rw[<- O];exact qZc V _ _
 have Y:B.all one=true:=by rw[<- N];exact cdC_one _ _ _
 have Z:E.all one=true:=by rw[<- O];exact cdC_one _ _ _
 have q1:wrO prog 320 W2 W.heap.size 0 (.agg (B++E).toArray)=some (put W2 W.heap.size (.cells (B++E).toArray 320 (0,0))):=qQr (by simp[I,M];exact sz320) k2 (by simp[I,M,qZc z32l]) (by simp only[List.size_toArray,List.all_toArray',vY,Y,Z,vW]);have k3:=qQd (o:=.cells (B++E).toArray 320 (0,0)) k2;have R:=qQi (b:=W.heap.size) (o:=.cells (B++E).toArray 320 (0,0)) (f2.at k1 id) om;have f3:=(f1.trans f2).put (b:=W.heap.size) (.cells (B++E).toArray 320 (0,0)) fun h=>by omega
 have a3:brV J lc ls L rc rs=.iface 320 (.agg (B++E).toArray):=by unfold brV;rw[N,O]
 simp only[go_sem,yJ,yN,qQk,Tryz.f238,ndZero,hW,a3,if_true,zz,a0,q1];generalize put W2 W.heap.size (.cells (B++E).toArray 320 (0,0))=A at *;generalize a6:W.heap.size=tb at *;have a7:H.heap.size≠tb:=by have:=qQh k1;omega
 refine qXg (Q:=fun e ev w=>e=.normal/\NoR H H.heap.size B E (ev 2) (ev 5) (ev 6) w) _ (fun e ev w=>?_) ?_
 ·rintro⟨rfl,a,b,e2,e5,e6,ka,kb,kr,fw⟩
  subst N O;have r1:rdO prog 3 w a 0=some (.int .i64 (J:Nat)):=rd1 agg3 ka rfl;have r2:rdO prog 3 w b 0=some (.int .i64 (L:Nat)):=rd1 agg3 kb rfl;have r3:rdO prog 3 w a 1=some (.int .i64 (lc:Nat)):=rd1 agg3 ka rfl;have r4:rdO prog 3 w b 1=some (.int .i64 (rc:Nat)):=rd1 agg3 kb rfl;have r5:rdO prog 75 w a 2=some (dg ls):=qJw (a:=[.int .i64 (J:Nat),.int .i64 (lc:Nat)]) (m:=ls.map u8) (r:=[]) agg75 (by simp[U];exact sz75) (by simp[U]) (by rw[zO];exact ka) rfl;have r6:rdO prog 75 w b 2=some (dg rs):=qJw (a:=[.int .i64 (L:Nat),.int .i64 (rc:Nat)]) (m:=rs.map u8) (r:=[]) agg75 (by simp[V];exact sz75) (by simp[V]) (by rw[zO];exact kb) rfl;have bb:=bldBranch U V J L lc rc;have q6:wrO prog 78 w H.heap.size 0 (.agg (ndC 2 J L lc rc ls rs z32 (.slice none 0 0)).toArray)=some (put w H.heap.size (.cells (ndC 2 J L lc rc ls rs z32 (.slice none 0 0)).toArray 78 (0,0))):=qQr (by simp[qXf U V z32l];exact sz78) kr (by simp[qXf U V z32l,qXf z32l z32l z32l]) (by simpa using qZy 2 J L lc rc ls rs z32 (vv:=.slice none 0 0) rfl);have k6:=qQd (o:=.cells (ndC 2 J L lc rc ls rs z32 (.slice none 0 0)).toArray 78 (0,0)) kr;have ld:=qQp (P:=prog) (t:=78) agg78 sz78 k6 (by simp[qXf U V z32l]);simp only[go_sem,yJ,jY,e2,e5,e6,r1,r2,r3,r4,r5,r6,bb,q6,ld];exact⟨fw.put (b:=H.heap.size) _ fun h=>absurd h (yU _),.slice none 0 0,rfl,rfl,NwB.nil _ _,fun _=>rfl⟩
 refine qXl (fun j=>j == 4 || j == 5) (.one 0 (.one 2 (.one 1 (.tri 3 (.two 4 (.row [5,6,7]) 5 (.row [4,6,7])) 4 (.two 3 (.row [5,6,7]) 5 (.two 3 (.row [6,7]) 6 (.row [3,7]))) 5 (.two 3 (.row [4,6,7]) 4 (.two 3 (.row [6,7]) 6 (.row [3,7]))))))) rfl x8 x8 ?_
 replace f3:=f3.drew
 have k3:A.drew.heap[tb]?=_:=k3;have R:A.drew.heap[H.heap.size]?=_:=R;generalize A.drew=A at *;obtain⟨A1,a4,g1,a1,t1⟩:=qQl A (cdC 0 0 z32).toArray 318;obtain⟨T,a5,g2,a2,t2⟩:=qQl A1 (cdC 0 0 z32).toArray 318;have hn:A1.heap.size=A.heap.size+1:=t1;rw[hn]at a2;have b1:=g2.at a1 id
 have rd:∀ W:World,W.heap[tb]?=some (.cells (B++E).toArray 320 (0,0))->rdO prog 318 W tb 0=some (.agg B.toArray)/\rdO prog 318 W tb 34=some (.agg E.toArray):=fun W k =>
  ⟨qJw (a:=[]) (m:=B) (r:=E) agg318 (by rw[I];exact sz318) om k rfl,qJw (a:=B) (m:=E) (r:=[]) agg318 (by rw[M];exact sz318) om (by rw[zO];exact k) I⟩
 have wr:∀ (W:World) (n:Nat) (c:List Value),W.heap[n]?=some (.cells (cdC 0 0 z32).toArray 318 (0,0))->c.length=34->c.all one=true->wrO prog 318 W n 0 (.agg c.toArray)=some (put W n (.cells c.toArray 318 (0,0))):=fun W n c k h o =>
  qQr (by simp[h];exact sz318) k (by simp[h,qZc z32l]) (by simpa using o)
 have h3:=qQh k3;have h0:=qQh R;obtain⟨x1,y1⟩:=rd A k3;obtain⟨x2,y2⟩:=rd A1 (g1.at k3 id);obtain⟨x3,y3⟩:=rd T (g2.at (g1.at k3 id) id);have kA:=g2.at (g1.at k3 id) id;have kR:=g2.at (g1.at R id) id;have fA:=(f3.trans g1).trans g2;obtain⟨_,y4⟩:=rd (put T A.heap.size (.cells B.toArray 318 (0,0))) (qQi kA om);obtain⟨_,y5⟩:=rd (put T (A.heap.size+1) (.cells B.toArray 318 (0,0))) (qQi kA om);have u1:=wr T A.heap.size B b1 I Y;have u2:=wr T (A.heap.size+1) B a2 I Y;have u3:=wr (put T A.heap.size (.cells B.toArray 318 (0,0))) (A.heap.size+1) E (qQi a2 om) M Z;have u4:=wr (put T (A.heap.size+1) (.cells B.toArray 318 (0,0))) A.heap.size E (qQi b1 om) M Z
 have l1:NoR H H.heap.size B E (pt H.heap.size 0) (pt A.heap.size 0) (pt (A.heap.size+1) 0) (put (put T A.heap.size (.cells B.toArray 318 (0,0))) (A.heap.size+1) (.cells E.toArray 318 (0,0))) :=
  ⟨_,_,rfl,rfl,rfl,qQi (qQd b1) om,qQd (qQi (o:=.cells B.toArray 318 (0,0)) a2 (show A.heap.size≠A.heap.size+1 by omega)),qQi (qQi kR om) om,(fA.put (b:=A.heap.size) _ fun h=>by omega).put (b:=A.heap.size+1) _ fun h=>by omega⟩
 have l2:NoR H H.heap.size B E (pt H.heap.size 0) (pt (A.heap.size+1) 0) (pt A.heap.size 0) (put (put T (A.heap.size+1) (.cells B.toArray 318 (0,0))) A.heap.size (.cells E.toArray 318 (0,0))) :=
  ⟨_,_,rfl,rfl,rfl,qQi (qQd a2) om,qQd (qQi (o:=.cells B.toArray 318 (0,0)) b1 (show A.heap.size+1≠A.heap.size by omega)),qQi (qQi kR om) om,(fA.put (b:=A.heap.size+1) _ fun h=>by omega).put (b:=A.heap.size) _ fun h=>by omega⟩
 have e1:=g1.ext;have e2:=g2.ext;simp only[go_sem,yJ,yY,yN,bSe,jY,qQk,OT.row,zc,a4,a5,hn,e1,e2,x1,y1,y2,y3,y4,y5,u1,u2,u3,u4,l1,l2,implies_true,and_self,true_and]
theorem isC_c (v:Value):isC (.const v)=true:=rfl
def DeQ (A:World)(r:Option Nd)(v:Value)(w':World):Prop:=No A w'/\match r with
 | none=>v=.tuple #[.agg nd0.toArray,.int .i64 90]
 | some n=>∃ x,v=.tuple #[x,.int .i64 0]/\NdM A w' n x
theorem methLf : methO prog 315 "ledger/node.stands" = some 246 := by kernel_rfl
theorem methBr : methO prog 320 "ledger/node.stands" = some 249 := by kernel_rfl
theorem decode (B:World)(kind:Nat){l:Bs}(hp:By B p l)(hl:l.length<=2 ^ 40):Fn prog 233 #[.int .i64 (kind:Nat),p] B (DeQ B (decN kind l)):=by
 refine go233 sm ?_;obtain⟨W,hW,f1,k1,s1⟩:=qQl B nd0.toArray 78
 have E:∀ (w:World) (c:List Value), No B w->w.heap[B.heap.size]?=some (.cells nd0.toArray 78 (0, 0))->c.length=102->c.all one=true ->
   wrO prog 78 w B.heap.size 0 (.agg c.toArray)=some (put w B.heap.size (.cells c.toArray 78 (0,0)))/\rdO prog 78 (put w B.heap.size (.cells c.toArray 78 (0,0))) B.heap.size 0=some (.agg c.toArray)/\No B (put w B.heap.size (.cells c.toArray 78 (0,0))):=fun w c f k h5 ho =>
  ⟨qQr (by simp[h5];exact sz78) k (by simp[h5,qXf z32l z32l z32l]) (by simpa using ho),rd_all agg78 (by simp[h5];exact sz78) (qQd (o:=.cells c.toArray 78 (0,0)) k),f.put (b:=B.heap.size) _ fun h=>absurd h (yU _)⟩
 simp only[go_sem,yJ,yN,jY,qQk,Tryz.f233,ndZero,hW];refine qQa pl237 ((read W kind (hp.fr0 f1) hl).mono ?_);rintro v w2 ⟨f2,M⟩;have N:=f1.trans f2;have k2:=f2.at k1 id;unfold RdN at M;unfold decN
 by_cases hA:kind=1/\32<=l.length
 ·rw[if_pos hA]at M
  obtain⟨vv,rfl,ov,hv⟩:=M;obtain⟨rfl,a0⟩:=hA;have hk:(l.take 32).length=32:=by rw[lTk];omega
  rw[if_pos rfl];have H:lfV (l.take 32) vv=.iface 315 (.agg (lfC (l.take 32) vv).toArray):=rfl;simp only[go_sem,yJ,bSe,H,methLf];refine qQa pl246 ((leafStands w2 hk hv).mono ?_);rintro _ U ⟨rfl,T⟩;rw[<- H];have A:=N.trans T;have O:=T.at k2 id;have lv:(l.drop 32).length=l.length - 32:=lDr
  by_cases R:(l.drop 32).length<=128
  case neg =>
   obtain⟨I,J,L⟩:=E U nd0 A O (qXf z32l z32l z32l _) (qZy _ _ _ _ _ _ _ _ rfl);rw[decide_eq_false R,if_neg om];simp only[go_sem,yJ,bSe,xH,bldNd0,I,J];exact⟨L,rfl⟩
  rw[decide_eq_true R,if_pos ⟨a0,om⟩];simp only[go_sem,yJ,bSe,vK];refine qQa pl238 ((nodeOfLeaf U hk ov (hv.fr0 T) om).mono ?_);rintro _ w4 ⟨V,Y,rfl,Z,n5,e5⟩;obtain⟨I,J,L⟩:=E w4 (ndA (.leaf (l.take 32) (l.drop 32)) Y) (A.trans V) (V.at O id) (qXf z32l z32l hk _) (qZy _ _ _ _ _ _ _ _ Z);have h3:=qQh O;simp only[go_sem,yJ,I,J];exact⟨L,_,rfl,Y,rfl,Z,(n5.put _ fun c hc=>by have:=(NwB.lt n5 hc).1;omega).back A.size,e5⟩
 rw[if_neg hA]at M
 by_cases hB:kind=2/\l.length=80
 case neg =>
  rw[if_neg hB]at M;subst M;obtain⟨I,J,L⟩:=E w2 nd0 N k2 (qXf z32l z32l z32l _) (qZy _ _ _ _ _ _ _ _ rfl)
  have e:(if kind=1 then (if 32<=l.length/\l.length<=160 then some (Nd.leaf (l.take 32) (l.drop 32)) else none)
   else if kind=2/\l.length=80/\brR (nat4 l 0) (nat4 l 4) (nat4 l 8) (nat4 l 12) ((l.drop 16).take 32) ((l.drop 48).take 32) then some (Nd.br (nat4 l 0) (nat4 l 4) (nat4 l 8) (nat4 l 12) ((l.drop 16).take 32) ((l.drop 48).take 32))
   else none)=none:=by
   by_cases h1:kind=1
   ·rw[if_pos h1,if_neg fun h=>hA ⟨h1,h.1⟩]
   ·rw[if_neg h1,if_neg fun h=>hB ⟨h.1,h.2.1⟩]
  rw[e];simp only[go_sem,yJ,qZj,isC_c,Bool.or_true,if_true,bldNd0,I,J];exact⟨L,rfl⟩
 rw[if_pos hB]at M;subst M;obtain⟨rfl,a3⟩:=hB;have l1:((l.drop 16).take 32).length=32:=by rw[lTk,lDr];omega
 have l2:((l.drop 48).take 32).length=32:=by rw[lTk,lDr];omega
 have b4:∀ k,nat4 l k<2 ^ 32:=fun k=>by
  have:=le_small (b:=(l.drop k).take 4) (n:=4) (by rw[lTk];omega);exact this
 have H:brV (nat4 l 0) (nat4 l 8) ((l.drop 16).take 32) (nat4 l 4) (nat4 l 12) ((l.drop 48).take 32)=.iface 320 (.agg (cdC (nat4 l 0) (nat4 l 8) ((l.drop 16).take 32)++cdC (nat4 l 4) (nat4 l 12) ((l.drop 48).take 32)).toArray):=rfl;rw[if_neg x9];simp only[go_sem,yJ,bSe,H,methBr];refine qQa pl249 ((brStands w2 _ _ _ _ l1 l2 (b4 _) (b4 _)).mono ?_);rintro _ U ⟨rfl,T⟩;rw[<- H];have A:=N.trans T;have O:=T.at k2 id
 by_cases R:brR (nat4 l 0) (nat4 l 4) (nat4 l 8) (nat4 l 12) ((l.drop 16).take 32) ((l.drop 48).take 32)
 case neg =>
  obtain⟨I,J,L⟩:=E U nd0 A O (qXf z32l z32l z32l _) (qZy _ _ _ _ _ _ _ _ rfl);rw[decide_eq_false R,if_neg fun h=>R h.2];simp only[go_sem,yJ,bSe,xH,bldNd0,I,J];exact⟨L,rfl⟩
 rw[decide_eq_true R,if_pos ⟨a3,R⟩];simp only[go_sem,yJ,bSe,vK];refine qQa pl238 ((nodeOfBranch U _ _ _ _ l1 l2).mono ?_);rintro _ w4 ⟨V,Y,rfl,Z,n5,e5⟩;obtain⟨I,J,L⟩:=E w4 (ndA (.br (nat4 l 0) (nat4 l 4) (nat4 l 8) (nat4 l 12) ((l.drop 16).take 32) ((l.drop 48).take 32)) Y) (A.trans V) (V.at O id) (qXf l1 l2 z32l _) (qZy _ _ _ _ _ _ _ _ Z);have h3:=qQh O;simp only[go_sem,yJ,I,J];exact⟨L,_,rfl,Y,rfl,Z,(n5.put _ fun c hc=>by have:=(NwB.lt n5 hc).1;omega).back A.size,e5⟩
end A
end
section
open Go.Proofs Sha
def em0I (A:World)(B:Nat)(E:World)(n:Nat)(vs:List Value)(w:World):Prop:=vs=[pt A.heap.size 0,pt B 0,.int .i64 0,.int .i64 0]/\w=E
theorem empty0 (A:World)(T:Tabs A)(width:Int):Fn prog 159 #[.int .i64 width,.int .i64 0] A fun v w'=>v=dg (emptD width 0)/\No A w':=by
 refine go159 sm ?_;have I:No A (A.alloc (.cells (bl (zK 32 0)) 75)):=(Fr.refl _ _).alloc _;have U:(A.alloc (.cells (bl (zK 32 0)) 75)).heap[A.heap.size]?=some (.cells (bl (zK 32 0)) 75 (0,0)):=qQb _ _;have V:(A.alloc (.cells (bl (zK 32 0)) 75)).heap.size=A.heap.size+1:=qQf _ _;simp only[go_sem,Tryz.f159,yN,qQk];generalize A.alloc (.cells (bl (zK 32 0)) 75)=W at *;refine qQm (v:=.slice (some ⟨W.heap.size,0,none⟩) 1 1) (w':=W.alloc (.cells (bl [2]) 5)) (by rw[<- V];rfl) ?_;have J:=I.alloc (.cells (bl [2]) 5);have Y:NwB A (W.alloc (.cells (bl [2]) 5)) (.slice (some ⟨W.heap.size,0,none⟩) 1 1) [2]:=mk_nw A W 5 1 1 1 (bl [2]) I.size rfl (xC _);have Z:=qQs (o:=.cells (bl [2]) 5) U;generalize W.alloc (.cells (bl [2]) 5)=w2 at *;simp only[go_sem];refine qQa pl181 ((dsum w2 (T.no J) Y.by sm).mono ?_);rintro _ w3 ⟨rfl,L⟩;simp only[go_sem,yJ];refine qQa pl180 ((dcut w3 width (sum_len [2])).mono ?_);rintro _ B ⟨rfl,M⟩;have he:cutD width (Sha.sum [2])=emptD width 0:=rfl;rw[he];have E:=qQv width 0;have N:=M.at (L.at Z id) id;have H:=(J.trans L).trans M;have q:=wr_d sz75 (qQb B (.cells (bl (zK 32 0)) 75)) zl32 E;have r:=rd_d agg75 sz75 (qQd (o:=.cells (bl (emptD width 0)) 75 (0,0)) (qQb B (.cells (bl (zK 32 0)) 75))) E;have O:(put (B.alloc (.cells (bl (zK 32 0)) 75)) B.heap.size (.cells (bl (emptD width 0)) 75 (0,0))).heap[A.heap.size]?=some (.cells (bl (zK 32 0)) 75 (0,0)):=qQi (qQs N) (by have:=qQh N;omega);have f5:No A (put (B.alloc (.cells (bl (zK 32 0)) 75)) B.heap.size (.cells (bl (emptD width 0)) 75 (0,0))):=(H.alloc _).put (b:=B.heap.size) _ fun h=>by have:=H.size;omega
 simp only[go_sem,yJ,yN,qQk,q];have R:=r;generalize put (B.alloc (.cells (bl (zK 32 0)) 75)) B.heap.size (.cells (bl (emptD width 0)) 75 (0,0))=w5 at *;refine qQa pl182 ((within w5 0 0 256).mono ?_);rintro _ _ ⟨rfl,rfl⟩;rename_i w6;have e0:max (0:Int) (min 0 256)=0:=x9
 have d0:decide ((0:Int)<0)=false:=x9
 have r5:=R;simp only[go_sem,e0];refine loopD [4,5,11,12] (em0I A B.heap.size w6) 0 ⟨rfl,rfl⟩ ?_;rintro _ vs w7 g ⟨rfl,rfl⟩;have q7:=wr_d sz75 O zl32 E;have r7:=rd_d agg75 sz75 (qQd (o:=.cells (bl (emptD width 0)) 75 (0,0)) O) E;simp only[go_sem,yJ,d0,R,q7,r7];exact f5.put (b:=A.heap.size) _ fun h=>absurd h (yU _)
end
section
open Go.Proofs Sha
namespace A
def qJj (n lo hi:Int):Int:=if n.tmod (hi - lo+1)<0 then lo+(n.tmod (hi - lo+1)+hi - lo+1) else lo+n.tmod (hi - lo+1)
theorem within_rng {n lo hi:Int}(h:lo<=hi):lo<=qJj n lo hi/\qJj n lo hi<=hi:=by
 have A:0<hi - lo+1:=om
 have B:=Int.tmod_lt_of_pos n A;have E : -(hi - lo+1)<n.tmod (hi - lo+1):=Int.lt_tmod_of_pos n A;unfold qJj
 split <;> omega
theorem within (w:World){n lo hi:Int}(T:0<=lo)(U:lo<=hi)(V:hi<=2 ^ 40) :
  Fn prog 13 #[.int .i64 n,.int .i64 lo,.int .i64 hi] w fun v w'=>v=.int .i64 (qJj n lo hi)/\No w w':=by
 refine go13 sm ?_;have E:0<hi - lo+1:=om
 have W:=Int.tmod_lt_of_pos n E;have Y : -(hi - lo+1)<n.tmod (hi - lo+1):=Int.lt_tmod_of_pos n E;have H:IntKind.i64.wrap (hi - lo)=hi - lo:=qQq om om;have I:IntKind.i64.wrap (hi - lo+1)=hi - lo+1:=qQq om om;have Z:((hi - lo+1 == 0)=false):=beq_eq_false_iff_ne.2 om;have J:qJj n lo hi=if n.tmod (hi - lo+1)<0 then lo+(n.tmod (hi - lo+1)+hi - lo+1) else lo+n.tmod (hi - lo+1):=rfl;generalize L:n.tmod (hi - lo+1)=r at *;have e3:IntKind.i64.wrap r=r:=qQq om om;have M:¬ hi - lo+1=0:=om
 by_cases A:r<0
 ·have d:decide (r<0)=true:=decide_eq_true A
  have N:IntKind.i64.wrap (r+hi)=r+hi:=qQq om om;have O:IntKind.i64.wrap (r+hi - lo)=r+hi - lo:=qQq om om;have R:IntKind.i64.wrap (r+hi - lo+1)=r+hi - lo+1:=qQq om om;have B:IntKind.i64.wrap (lo+(r+hi - lo+1))=lo+(r+hi - lo+1):=qQq om om;simp -implicitDefEqProofs only[go_sem,yJ,vH,jY,Tryz.f13,H,I,M,L,d,N,O,R,B];rw[J,if_pos A];exact⟨rfl,Fr.refl _ _⟩
 ·have d:decide (r<0)=false:=decide_eq_false A
  have B:IntKind.i64.wrap (lo+r)=lo+r:=qQq om om;simp -implicitDefEqProofs only[go_sem,yJ,vH,jY,Tryz.f13,H,I,M,L,d,B];rw[J,if_neg A];exact⟨rfl,Fr.refl _ _⟩
end A
end
end Go.V
