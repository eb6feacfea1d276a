/- Helpers. -/
import Derived.Test.YtppmpdjlmgfdkaaGreatDoorM10
import Derived.Test.YtppmpdjlmgfdkaaGreatDoorM06
import Derived.Test.YtppmpdjlmgfdkaaGreatDoorM15
import Derived.Test.YtppmpdjlmgfdkaaGreatDoorM04
import Derived.Test.YtppmpdjlmgfdkaaGreatDoorM05
import Derived.Test.YtppmpdjlmgfdkaaGreatDoorM08
import Derived.Test.YtppmpdjlmgfdkaaGreatDoorM13
import Derived.Test.YtppmpdjlmgfdkaaGreatDoorM12
set_option linter.all false
set_option maxRecDepth 100000
set_option maxHeartbeats 8000000
open Array renaming replicate->xS
open BitVec renaming ofInt_natCast->xW,toNat_ofNat->zY,ofInt->qQ,toNat_and->y7
open Bool renaming not_true->y8,not_false->xH,and_true->y9,and_self->vQ,false_eq_true->qP
open List renaming replicate->zG,all_append->vX,append_nil->z4,getElem_cons_zero->vZ,all_cons->vJ,nil_append->zA,take_of_length_le->zB,getElem_cons_succ->vK,all_nil->vV
open Nat renaming reduceEqDiff->j7,zero_add->jV,reduceBEq->yX,mod_eq_of_lt->yP,lt_irrefl->yZ,mul_one->j8,add_zero->yK,mul_comm->vW,le_refl->xC,two_pow_add_eq_or_of_lt->vY
open Option renaming map->yY,bind_some->qV
open Go.Value renaming cells->yU,int->vU,agg->vG
namespace Go.V
open Go.Proofs.Tryz Go.V.Tryz
variable {b k ls rs s val:Bs} {bs:List Byte} {cap i n:Nat} {p vv:Value} {w:World}
section
open Go.Proofs
def crcA:Array Value:=(crcT.map u32).toArray
theorem bldCrc:bldO prog 268 [(0,.int .u32 0),(1,.int .u32 498536548),(2,.int .u32 997073096),(3,.int .u32 651767980),(4,.int .u32 1994146192),(5,.int .u32 1802195444),(6,.int .u32 1303535960),(7,.int .u32 1342533948),(8,.int .u32 3988292384),(9,.int .u32 4027552580),(10,.int .u32 3604390888),(11,.int .u32 3412177804),(12,.int .u32 2607071920),(13,.int .u32 2262029012),(14,.int .u32 2685067896),(15,.int .u32 3183342108)]=some (.agg crcA):=by
 unfold bldO;rw[zero268,places268,arr268];simp only[qV,sz34];rfl
theorem crcA_get (h:i<16):crcA[i]?=some (u32 (crcT.getD i 0)):=by
 have:crcT.length=16:=rfl;simp[crcA,h,this]
theorem and15 (r:W32):(r &&& 15#32).toNat<16:=by
 rw[y7];exact Nat.lt_of_le_of_lt Nat.and_le_right j0
def feedI (A:World)(r:W32)(a:Option Addr)(cap:Nat)(bs:List Byte)(m:Nat)(vs:List Value)(w:World):Prop :=
 ∃ (i:Nat) (y:Value),vs=[u32 (qKz r (bs.take i)),pt A.heap.size 0,y,.slice a bs.length cap,.int .i64 bs.length,.int .i64 i]/\i<=bs.length/\m=bs.length - i/\w.heap[A.heap.size]?=some (.cells crcA 268 (0,0))/\No A w
theorem feed (w:World)(r:W32)(O:By w p bs)(hl:bs.length<2 ^ 62) :
  Fn prog 189 #[u32 r,p] w fun v w'=>v=u32 (qKz r bs)/\No w w':=by
 obtain⟨a,cap,rfl,H,D⟩:=O.at;refine go189 sm ?_
 have I:wrO prog 268 (w.alloc (.cells (xS 16 (.int .u32 0)) 268)) w.heap.size 0 (.agg crcA)=some (put (w.alloc (.cells (xS 16 (.int .u32 0)) 268)) w.heap.size (.cells crcA 268 (0,0))) :=
  qQo (by rw[sz268];rfl) (qQb _ _) rfl (by rw[<- Array.all_toList];rfl)
 generalize J:put (w.alloc (.cells (xS 16 (.int .u32 0)) 268)) w.heap.size (.cells crcA 268 (0,0))=W at I
 have R:W.heap[w.heap.size]?=some (.cells crcA 268 (0,0)):=by
  rw[<- J];exact qZi _ (by rw[qQg];omega)
 have fr:No w W:=by rw[<- J];exact ((Fr.refl _ _).alloc _).put (b:=w.heap.size) _ fun h=>absurd h (yZ _)
 simp -implicitDefEqProofs only[go_sem,j7,Tryz.f189,bldCrc,yU,I];refine loopD [0,5,7,9,10,11] (feedI w r a cap bs) bs.length ⟨0,undef,by simp[upd,qKz],x8,x8,R,fr⟩ ?_;rintro m vs L g ⟨i,y,rfl,hi,rfl,M,fr⟩
 by_cases B:i<bs.length
 ·have N:=dTo ((i:Int)<(bs.length:Int))
  obtain⟨b,o,rfl,A⟩:=D i B;have c2:IntKind.i64.wrap ((i:Int)+1)=((i+1:Nat):Int):=by rw[qQr x8 x8];rfl
  have T:(0:Int)<=(i:Int)/\(i:Int)<(bs.length:Int):=x8
  rw[<- fr.rc (rc_lt A) id]at A;have U:rdO prog 5 L b (o+i)=some (u8 bs[i]):=rd_rc agg5 A;generalize V:qKz r (bs.take i)=x;have E:∀ z:W32,andK .u32 (z.toNat:Int) 15=((z &&& 15#32).toNat:Int):=fun z=>and32n z 15;have Y:∀ z:W32,(0:Int)<=((z &&& 15#32).toNat:Int)/\((z &&& 15#32).toNat:Int)<((16:Nat):Int):=fun z=>by have:=and15 z;omega
  have Z:∀ z:W32,rdO prog 34 L w.heap.size (z &&& 15#32).toNat=some (u32 (crcT.getD (z &&& 15#32).toNat 0)):=fun z =>
   rd_rc agg34 (by rw[qXl M];exact crcA_get (and15 z))
  have s4:∀ z:W32,shrK .u32 (z.toNat:Int) 4=((z >>> 4).toNat:Int):=fun z=>shr32 z 4 x8;simp -implicitDefEqProofs only[go_sem,j7,T,and_self,iTn,j8,U,ext8,xor32,E,Y,Z,s4,Int.reduceLT,c2];refine⟨bs.length - (i+1),x8,i+1,u8 bs[i],?_,x8,rfl,M,fr⟩
  have e:qKz r (bs.take (i+1))=crcByte x bs[i]:=by
   rw[<- V,qKz,tSg B,List.foldl_append];rfl
  rw[e];rfl
 ·have N:=dFo ((i:Int)<(bs.length:Int))
  have e:i=bs.length:=x8
  subst e;simp -implicitDefEqProofs only[go_sem,j7,N];exact⟨by rw[List.take_length],fr⟩
theorem update (w:World)(c:W32)(A:By w p bs)(B:bs.length<2 ^ 62) :
  Fn prog 179 #[u32 c,p] w fun v w'=>v=u32 (qKf c bs)/\No w w':=by
 refine go179 sm ?_;simp -implicitDefEqProofs only[go_sem,j7,Tryz.f179,not32];refine qQa pl189 ((feed w (~~~ c) A B).mono ?_);rintro _ w' ⟨rfl,fr⟩;simp -implicitDefEqProofs only[go_sem,not32];exact⟨rfl,fr⟩
theorem sum (w:World)(A:By w p bs)(B:bs.length<2 ^ 62) :
  Fn prog 158 #[p] w fun v w'=>v=u32 (qKf 0 bs)/\No w w':=by
 refine go158 sm ?_;simp -implicitDefEqProofs only[go_sem,j7,Tryz.f158];refine qQa pl179 ((update w 0 A B).mono ?_);rintro _ w' ⟨rfl,fr⟩;simp -implicitDefEqProofs only[go_sem];exact fr
theorem whole (w:World)(E:By w p bs)(hl:bs.length<2 ^ 62)(h4:4<=bs.length) :
  Fn prog 121 #[p] w fun v w'=>v=.bool (let n:=bs.length - 4;let c:=qKf 0 (bs.take n);
   bs.getD n 0 == c.setWidth 8 && bs.getD (n+1) 0 == (c >>> 8).setWidth 8 && bs.getD (n+2) 0 == (c >>> 16).setWidth 8 && bs.getD (n+3) 0 == (c >>> 24).setWidth 8)/\No w w':=by
 obtain⟨a,cap,rfl,H,A⟩:=E.at;refine go121 sm ?_;have c1:IntKind.i64.wrap ((bs.length:Int) - 4)=((bs.length - 4:Nat):Int):=by rw[qQr x8 x8];omega
 have J:decide (((bs.length - 4:Nat):Int)<0)=false:=sm
 have sb:sbO (.int .i64 ((bs.length - 4:Nat):Int)) cap=some (bs.length - 4):=by
  simp only[sbO];rw[if_pos x8,iTn]
 simp -implicitDefEqProofs only[go_sem,j7,Tryz.f121,c1,J,qQv,optB,sb,Nat.sub_zero];refine qQa pl158 ((sum w (By.cut E (Nat.zero_le _) (show bs.length - 4<=bs.length by omega) rfl _ rfl) (by rw[lTk];omega)).mono ?_);rintro _ L ⟨rfl,fr⟩;simp only[List.drop_zero,Nat.sub_zero];generalize qKf 0 (bs.take (bs.length - 4))=c
 have at':∀ j,j<4->∃ b o,a=some ⟨b,o,none⟩/\rdO prog 5 L b (o+(bs.length - 4+j))=some (u8 (bs.getD (bs.length - 4+j) 0)):=fun j hj=>by
  obtain⟨b,o,rfl,h⟩:=A (bs.length - 4+j) x8;rw[qQw 0 (show bs.length - 4+j<bs.length by omega)];exact⟨b,o,rfl,rd_rc agg5 (by rw[fr.rc (rc_lt h) id];exact h)⟩
 obtain⟨b,o,rfl,I⟩:=at' 0 x8;obtain⟨b1,o1,M,N⟩:=at' 1 x8;cases M;obtain⟨b2,o2,O,R⟩:=at' 2 x8;cases O;obtain⟨b3,o3,T,U⟩:=at' 3 x8;cases T;have V:IntKind.i64.wrap (((bs.length - 4:Nat):Int)+1)=((bs.length - 4+1:Nat):Int):=by rw[qQr x8 x8];omega
 have W:IntKind.i64.wrap (((bs.length - 4:Nat):Int)+2)=((bs.length - 4+2:Nat):Int):=by rw[qQr x8 x8];omega
 have Y:IntKind.i64.wrap (((bs.length - 4:Nat):Int)+3)=((bs.length - 4+3:Nat):Int):=by rw[qQr x8 x8];omega
 have Z:(0:Int)<=((bs.length - 4:Nat):Int)/\((bs.length - 4:Nat):Int)<(bs.length:Int):=x8
 have i1:(0:Int)<=((bs.length - 4+1:Nat):Int)/\((bs.length - 4+1:Nat):Int)<(bs.length:Int):=x8
 have i2:(0:Int)<=((bs.length - 4+2:Nat):Int)/\((bs.length - 4+2:Nat):Int)<(bs.length:Int):=x8
 have i3:(0:Int)<=((bs.length - 4+3:Nat):Int)/\((bs.length - 4+3:Nat):Int)<(bs.length:Int):=x8
 rw[yK]at I;have s8:shrK .u32 (c.toNat:Int) 8=((c >>> 8).toNat:Int):=shr32 c 8 x8;have B:shrK .u32 (c.toNat:Int) 16=((c >>> 16).toNat:Int):=shr32 c 16 x8;have D:shrK .u32 (c.toNat:Int) 24=((c >>> 24).toNat:Int):=shr32 c 24 x8;have h0:=u8_beq (bs.getD (bs.length - 4) 0) (c.setWidth 8);have h1:=u8_beq (bs.getD (bs.length - 4+1) 0) ((c >>> 8).setWidth 8);have h2:=u8_beq (bs.getD (bs.length - 4+2) 0) ((c >>> 16).setWidth 8);have h3:=u8_beq (bs.getD (bs.length - 4+3) 0) ((c >>> 24).setWidth 8);generalize bs.getD (bs.length - 4) 0=y0 at *;generalize bs.getD (bs.length - 4+1) 0=y1 at *;generalize bs.getD (bs.length - 4+2) 0=y2 at *;generalize bs.getD (bs.length - 4+3) 0=y3 at *;generalize (y0 == c.setWidth 8)=z0 at *;generalize (y1 == (c >>> 8).setWidth 8)=z1 at *;generalize (y2 == (c >>> 16).setWidth 8)=z2 at *;generalize (y3 == (c >>> 24).setWidth 8)=z3 at *
 cases z0 <;> cases z1 <;> cases z2 <;>
 simp -implicitDefEqProofs only[go_sem,j7,Z,i1,i2,i3,and_self,iTn,j8,I,N,R,U,cut32,V,W,Y,s8,B,D,h0,h1,h2,h3,Int.reduceLT,qQq,bSe,Bool.true_and,Bool.false_and] <;>
 exact fr
theorem wholeW (w:World)(A:By w p bs)(B:bs.length<2 ^ 62)(D:4<=bs.length):Fn prog 121 #[p] w fun v w'=>v=.bool (qKj bs)/\No w w':=by
 refine (whole w A B D).mono ?_;rintro v w' ⟨rfl,f⟩;refine⟨congrArg _ ?_,f⟩;unfold qKj sealB
 have e:bs.drop (bs.length - 4)=[bs.getD (bs.length - 4) 0,bs.getD (bs.length - 4+1) 0,bs.getD (bs.length - 4+2) 0,bs.getD (bs.length - 4+3) 0]:=by
  refine List.ext_getElem (by simp;omega) fun i H E=>?_;rw[List.getElem_drop];have hi:i<4:=E
  match i,hi with
  | 0,_=>simp only[vZ];rw[qQw 0 x8];rfl
  | 1,_=>simp only[vK,vZ];rw[qQw 0 x8]
  | 2,_=>simp only[vK,vZ];rw[qQw 0 x8]
  | 3,_=>simp only[vK,vZ];rw[qQw 0 x8]
 simp only[e];generalize qKf 0 (bs.take (bs.length - 4))=c;generalize bs.getD (bs.length - 4) 0=a;generalize bs.getD (bs.length - 4+1) 0=b;generalize bs.getD (bs.length - 4+2) 0=d;generalize bs.getD (bs.length - 4+3) 0=f;rw[Bool.eq_iff_iff];simp[and_assoc]
end
section
open Go.Proofs
theorem or64 {a b k:Nat}(A:a<2 ^ k)(E:b*2 ^ k+a<2 ^ 63):orK .i64 ((b*2 ^ k:Nat):Int) (a:Int)=((b*2 ^ k+a:Nat):Int):=by
 have e:orK .i64 ((b*2 ^ k:Nat):Int) (a:Int)=IntKind.i64.wrap (((qQ 64 ((b*2 ^ k:Nat):Int) ||| qQ 64 (a:Int)).toNat:Nat):Int):=rfl;have B:b*2 ^ k<2 ^ 64:=x8
 have D:a<2 ^ 64:=x8
 rw[e,BitVec.toNat_or,xW,xW,zY,zY,yP B,yP D,vW,<- vY A,qQr x8 (by rw[vW];omega)]
theorem or64' {a b k:Nat}(A:a<2 ^ k)(E:a+b*2 ^ k<2 ^ 63):orK .i64 (a:Int) ((b*2 ^ k:Nat):Int)=((a+b*2 ^ k:Nat):Int):=by
 have e:orK .i64 (a:Int) ((b*2 ^ k:Nat):Int)=IntKind.i64.wrap (((qQ 64 (a:Int) ||| qQ 64 ((b*2 ^ k:Nat):Int)).toNat:Nat):Int):=rfl;have B:b*2 ^ k<2 ^ 64:=x8
 have D:a<2 ^ 64:=x8
 rw[e,BitVec.toNat_or,xW,xW,zY,zY,yP B,yP D,Nat.or_comm,vW b,<- vY A,qQr x8 (by rw[vW];omega),Nat.add_comm]
theorem shl64i (a k:Nat)(A:k<=64)(h:a*2 ^ k<2 ^ 63):shlK .i64 (a:Int) (k:Int)=((a*2 ^ k:Nat):Int):=by
 unfold shlK;rw[iTn,show min k IntKind.i64.bits=k from Nat.min_eq_left A];rw[show ((a:Int)*2 ^ k)=((a*2 ^ k:Nat):Int) by rw[Int.natCast_mul,Int.natCast_pow];rfl];exact qQr x8 x8
theorem ext8i (x:Byte):IntKind.i64.wrap (x.toNat:Int)=(x.toNat:Int):=qQr x8 (by have:=x.isLt;omega)
namespace A
open Aud
theorem le_drop {j:Nat}(h:j<b.length):le (b.drop j)=(b.getD j 0).toNat+256*le (b.drop (j+1)):=by
 rw[List.drop_eq_getElem_cons h,qQw 0 h];rfl
theorem le_small (h:b.length<=n):le b<256 ^ n:=Nat.lt_of_lt_of_le (le_lt b) (Nat.pow_le_pow_right x8 h)
def getI (a:Option Addr)(cap n:Nat)(bs:Bs)(m:Nat)(vs:List Value)(u w w':World):Prop :=
 m<=n/\vs=[.slice a bs.length cap,.int .i64 (le ((bs.take n).drop m)),.int .i64 ((m:Int) - 1)]/\w'=w
theorem get (w:World){bs:Bs}(H:By w p bs)(Y:n<=bs.length)(Z:n<=7) :
  Fn prog 123 #[p,.int .i64 (n:Nat)] w fun v w'=>v=.int .i64 (le (bs.take n))/\w'=w:=by
 obtain⟨a,cap,rfl,D,A⟩:=H.at;refine go123 sm ?_;have I:IntKind.i64.wrap ((n:Int) - 1)=(n:Int) - 1:=qQr x8 x8;simp only[go_sem,j7,Tryz.f123,I];have J:(bs.take n).length=n:=by rw[lTk];omega
 refine loopD [0,5,6] (fun m vs w'=>getI a cap n bs m vs w w w') n ⟨xC _,by rw[List.drop_of_length_le x8];rfl,rfl⟩ ?_;rintro m vs L g ⟨hm,rfl,rfl⟩
 cases m with
 | zero =>
  have E:decide (((0:Nat):Int) - 1 ≥ 0)=false:=rfl;simp only[go_sem,j7,E,List.drop_zero]
 | succ m =>
  have E:decide (((m+1:Nat):Int) - 1 ≥ 0)=true:=sm
  obtain⟨b,o,rfl,B⟩:=A m x8;have M:((m+1:Nat):Int) - 1=(m:Int):=x8
  have N:(0:Int)<=(m:Int)/\(m:Int)<(bs.length:Int):=x8
  have O:rdO prog 5 L b (o+m)=some (u8 bs[m]):=rd_rc agg5 B;have R:le ((bs.take n).drop (m+1))<256 ^ 6:=le_small (by rw[lDr,J];omega);have T:=bs[m].isLt;have U:shlK .i64 (le ((bs.take n).drop (m+1)):Int) 8=((le ((bs.take n).drop (m+1))*2 ^ 8:Nat):Int):=shl64i _ 8 x8 x8;have V:orK .i64 ((le ((bs.take n).drop (m+1))*2 ^ 8:Nat):Int) (bs[m].toNat:Int)=((le ((bs.take n).drop (m+1))*2 ^ 8+bs[m].toNat:Nat):Int):=or64 (k:=8) T x8;have c2:IntKind.i64.wrap ((m:Int) - 1)=(m:Int) - 1:=qQr x8 x8;have W:=ext8i bs[m];simp only[go_sem,j7,M,N,and_self,iTn,j8,O,W,U,V,c2,Int.reduceLT];refine⟨m,x8,x8,?_,rfl⟩
  have:le ((bs.take n).drop m)=le ((bs.take n).drop (m+1))*2 ^ 8+bs[m].toNat:=by
   rw[le_drop x8,qQw 0 x8,List.getElem_take];omega
  rw[this]
theorem allZero (w:World){bs:Bs}(O:By w p bs)(T:bs.length<2 ^ 62) :
  Fn prog 122 #[p] w fun v w'=>v=.bool (zer bs)/\w'=w:=by
 obtain⟨a,cap,rfl,I,E⟩:=O.at;refine go122 sm ?_;simp only[go_sem,j7,Tryz.f122];refine loopD [5,6,7] (fun m vs w'=>∃ i,i<=bs.length/\m=bs.length - i/\zer (bs.take i)=true/\vs=[.slice a bs.length cap,.int .i64 (bs.length:Nat),.int .i64 (i:Nat)]/\w'=w) bs.length ⟨0,x8,x8,rfl,rfl,rfl⟩ ?_;rintro m vs R g ⟨i,hi,rfl,D,rfl,rfl⟩
 by_cases A:i<bs.length
 ·have J:=dTo ((i:Int)<(bs.length:Int))
  obtain⟨b,o,rfl,H⟩:=E i A;have L:(0:Int)<=(i:Int)/\(i:Int)<(bs.length:Int):=x8
  have M:rdO prog 5 R b (o+i)=some (u8 bs[i]):=rd_rc agg5 H;have c2:IntKind.i64.wrap ((i:Int)+1)=((i+1:Nat):Int):=by rw[qQr x8 x8];rfl
  have e:((bs[i].toNat:Int) != 0)=!(bs[i] == 0):=by
   rw[bne,show ((bs[i].toNat:Int) == 0)=(bs[i] == 0) from u8_beq bs[i] 0]
  by_cases N:bs[i]=0
  ·have B:(bs[i] == 0)=true:=by rw[N];rfl
   rw[B,y8]at e;simp only[go_sem,j7,L,and_self,iTn,j8,M,e,c2];refine⟨bs.length - (i+1),x8,i+1,x8,rfl,?_,rfl,trivial⟩;rw[tSg A];unfold zer at D ⊢;rw[vX,D,vJ,B];rfl
  ·have B:(bs[i] == 0)=false:=by simpa using N
   rw[B,xH]at e;simp only[go_sem,j7,L,and_self,iTn,j8,M,e,decide_true]
   have:zer bs=false:=by
    rw[Bool.eq_false_iff];intro h;unfold zer at h;have:=List.all_eq_true.1 h bs[i] (List.getElem_mem A);rw[B]at this;cases this
   rw[this];exact⟨rfl,trivial⟩
 ·have J:=dFo ((i:Int)<(bs.length:Int))
  have e:i=bs.length:=x8
  subst e;rw[List.take_length]at D;simp only[go_sem,j7,J,D]
theorem place (w:World)(p:Nat):Fn prog 234 #[.int .i64 (p:Nat)] w fun v w'=>v=.bool (decide (2<=p/\p<4096))/\w'=w:=by
 refine go234 sm ?_
 by_cases B:2<=p
 ·have A:=dTo ((p:Int) ≥ 2)
  have e:decide (2<=p/\p<4096)=decide ((p:Int)<4096):=decide_eq_decide.2 ⟨fun h=>by omega,fun h=>by omega⟩;simp only[go_sem,j7,Tryz.f234,A,e,bSe]
 ·have A:=dFo ((p:Int) ≥ 2)
  have e:=dFo (2<=p/\p<4096);simp only[go_sem,j7,Tryz.f234,A,e,qQq]
theorem kindOf (w:World)(k:Nat):Fn prog 235 #[.int .i64 (k:Nat)] w fun v w'=>v=.bool (decide (1<=k/\k<=3))/\w'=w:=by
 refine go235 sm ?_
 have q:∀ n:Nat,((k:Int) == (n:Int))=decide (k=n):=fun n=>by
  by_cases h:k=n
  ·subst h;simp
  ·rw[decide_eq_false h];simpa using fun e=>h (Int.ofNat_inj.1 e)
 have E:((k:Int) == 1)=decide (k=1):=q 1;have H:((k:Int) == 2)=decide (k=2):=q 2;have I:((k:Int) == 3)=decide (k=3):=q 3
 by_cases A:k=1
 ·subst A
  simp only[go_sem,j7,Tryz.f235]
  trivial
 by_cases B:k=2
 ·subst B
  simp only[go_sem,j7,Tryz.f235]
  trivial
 by_cases D:k=3
 ·subst D
  simp only[go_sem,j7,Tryz.f235]
  trivial
 have e:=dFo (1<=k/\k<=3);have J:decide (k=1)=false:=decide_eq_false A;have L:decide (k=2)=false:=decide_eq_false B;have M:decide (k=3)=false:=decide_eq_false D;simp only[go_sem,j7,Tryz.f235,E,H,I,J,L,M,e]
end A
end
section
open Go.Proofs
namespace A
open Aud
theorem getD_take (h:i<n):(b.take n).getD i 0=b.getD i 0:=by
 rw[gDq,List.getElem?_take,if_pos h,gDq]
theorem By.slc {a:Option Addr}{bs:Bs}(h:By w (.slice a n cap) bs){l m:Nat}(A:l<=m)(B:m<=n):By w (V.cutV 1 a cap l m) ((bs.drop l).take (m - l)):=h.cutV A B (by have:=h.len;omega)
def UnQ (A:World)(r:Except Int (Nat × Bs))(v:Value)(w':World):Prop:=No A w'/\match r with
 | .error e=>v=.tuple #[.int .i64 0,.slice none 0 0,.int .i64 e]
 | .ok (k,l)=>∃ x,v=.tuple #[.int .i64 (k:Nat),x,.int .i64 0]/\NwB A w' x l
theorem unpack (J:World){b o cap:Nat}{raw:Bs}(L:By J (.slice (some ⟨b, o, none⟩) 256 cap) raw)(D:256<=cap){p:Nat}(Y:2<=p)(Z:p<4096) :
  Fn prog 231 #[.int .i64 (p:Nat),.slice (some ⟨b,o,none⟩) 256 cap] J (UnQ J (unpP p raw)):=by
 have R:raw.length=256:=L.len.symm;refine go231 sm ?_;simp -implicitDefEqProofs only[go_sem,j7,Tryz.f231];refine qQa pl234 ((place J p).mono ?_);rintro _ _ ⟨rfl,rfl⟩;rename_i J;rw[decide_eq_true (show 2<=p/\p<4096 from ⟨Y,Z⟩)];have d1:(((256:Nat):Int) != 256)=false:=rfl;simp -implicitDefEqProofs only[go_sem,j7,y8,d1];refine qQa pl121 ((wholeW J L x8 x8).mono ?_);rintro _ A ⟨rfl,B⟩;unfold unpP
 cases hw:qKj raw with
 | false =>
  simp -implicitDefEqProofs only[go_sem,j7,xH,if_true];exact⟨B,rfl⟩
 | true =>
  rw[if_neg (show ¬ (true=false) by decide)];have T:rdO prog 5 A b o=some (.int .u8 ((raw.getD 0 0).toNat:Int)):=(L.fr0 B).get agg5 (i:=0) x8;have U:rdO prog 5 A b (o+1)=some (.int .u8 ((raw.getD 1 0).toNat:Int)):=(L.fr0 B).get agg5 (i:=1) x8;have e0:=ext8i (raw.getD 0 0);have e1:=ext8i (raw.getD 1 0);have a0:=(raw.getD 0 0).isLt;have a3:=(raw.getD 1 0).isLt;generalize hk:(raw.getD 0 0).toNat=k at *;generalize hn:(raw.getD 1 0).toNat=n at *;have i0:(0:Int)<=0/\(0:Int)<((256:Nat):Int):=x8
  have i1:(0:Int)<=1/\(1:Int)<((256:Nat):Int):=x8
  simp -implicitDefEqProofs only[go_sem,j7,y8,i0,i1,and_self,if_true,Int.toNat_zero,Int.toNat_one,j8,Nat.zero_mul,T,U,e0,e1,qP,if_false]
  replace B:=B.drew
  clear T U;generalize A.drew=A at *;refine qQa pl235 ((kindOf A k).mono ?_);rintro _ _ ⟨rfl,rfl⟩;rename_i A
  by_cases E:1<=k/\k<=3
  case neg =>
   rw[decide_eq_false E];simp -implicitDefEqProofs only[go_sem,j7,xH];rw[if_pos E];exact⟨B,rfl⟩
  rw[decide_eq_true E,if_neg (not_not_intro E)]
  by_cases I:246<n
  ·have N:=dTo ((n:Int) > 246)
   simp -implicitDefEqProofs only[go_sem,j7,y8,N];rw[if_pos I];exact⟨B,rfl⟩
  have N:=dFo ((n:Int) > 246);rw[if_neg I];have s2:qQv prog 22 (.slice (some ⟨b,o,none⟩) 256 cap) (some (.int .i64 2)) none none=some (cutV 1 (some ⟨b,o,none⟩) cap 2 256):=slc_lo slc22 arr22 sz5 (l:=2) (n:=256) x8 D;simp -implicitDefEqProofs only[go_sem,j7,y8,N,s2];have y2:By A (cutV 1 (some ⟨b,o,none⟩) cap 2 256) ((raw.drop 2).take 254):=By.slc (L.fr0 B) x8 x8;refine qQa pl123 ((get A y2 (n:=4) (by rw[lTk,lDr];omega) x8).mono ?_);rintro _ _ ⟨rfl,rfl⟩;rename_i A;rw[List.take_take,show min 4 254=4 from rfl];have M:=natne (le ((raw.drop 2).take 4)) p;generalize hg:le ((raw.drop 2).take 4)=g at *
  by_cases H:g=p
  case neg =>
   rw[decide_eq_true H]at M;simp -implicitDefEqProofs only[go_sem,j7,M];rw[if_pos H];exact⟨B,rfl⟩
  rw[decide_eq_false (not_not_intro H)]at M;rw[if_neg (not_not_intro H)];have c1:IntKind.i64.wrap (6+(n:Int))=((6+n:Nat):Int):=by rw[qQr x8 x8];omega
  have s3:qQv prog 22 (.slice (some ⟨b,o,none⟩) 256 cap) (some (.int .i64 ((6+n:Nat):Int))) (some (.int .i64 252)) none=some (cutV 1 (some ⟨b,o,none⟩) cap (6+n) 252):=qWa slc22 arr22 sz5 (l:=6+n) (m:=252) (n:=256) x8 x8 D;simp -implicitDefEqProofs only[go_sem,j7,M,c1,s3];have y3:By A (cutV 1 (some ⟨b,o,none⟩) cap (6+n) 252) ((raw.drop (6+n)).take (252 - (6+n))):=By.slc (L.fr0 B) x8 x8;refine qQa pl122 ((allZero A y3 (by rw[lTk];omega)).mono ?_);rintro _ _ ⟨rfl,rfl⟩;rename_i A;rw[show 252 - (6+n)=246 - n by omega]
  cases hz:zer ((raw.drop (6+n)).take (246 - n)) with
  | false =>
   simp -implicitDefEqProofs only[go_sem,j7,xH];exact⟨B,rfl⟩
  | true =>
   have s4:qQv prog 22 (.slice (some ⟨b,o,none⟩) 256 cap) (some (.int .i64 6)) (some (.int .i64 ((6+n:Nat):Int))) none=some (cutV 1 (some ⟨b,o,none⟩) cap 6 (6+n)):=qWa slc22 arr22 sz5 (l:=6) (m:=6+n) (n:=256) x8 x8 D;have V:By A (cutV 1 (some ⟨b,o,none⟩) cap 6 (6+n)) ((raw.drop 6).take (6+n - 6)):=By.slc (L.fr0 B) x8 x8;rw[show 6+n - 6=n by omega]at V;obtain⟨v5,w5,O,W,f5,g5,m5⟩:=NwB.catB (P:=prog) app22_22 (NwB.nil J A) V (by simp;omega) B;rw[zA]at W;simp -implicitDefEqProofs only[go_sem,j7,y8,c1,s4];refine qQj ⟨v5,w5,O,?_⟩;simp -implicitDefEqProofs only[go_sem,j7];exact⟨f5,_,rfl,W⟩
end A
end
section
open Go.Proofs
namespace A
open Aud
theorem le4 (h:4<=b.length):le (b.take 4)=(b.getD 0 0).toNat+256*(b.getD 1 0).toNat+65536*(b.getD 2 0).toNat+16777216*(b.getD 3 0).toNat:=by
 match b,h with
 | x::y::z::u::r,_ =>
  show x.toNat+256*(y.toNat+256*(z.toNat+256*(u.toNat+256*0)))=_;simp only[gDq,List.getElem?_cons_zero,List.getElem?_cons_succ,Option.getD_some];omega
theorem or4 {x y z u:Byte}:orK .i64 (orK .i64 (orK .i64 (x.toNat:Int) (shlK .i64 (y.toNat:Int) 8)) (shlK .i64 (z.toNat:Int) 16)) (shlK .i64 (u.toNat:Int) 24)=((x.toNat+256*y.toNat+65536*z.toNat+16777216*u.toNat:Nat):Int):=by
 have E:=x.isLt;have H:=y.isLt;have I:=z.isLt;have J:=u.isLt;have A:shlK .i64 (y.toNat:Int) 8=((y.toNat*2 ^ 8:Nat):Int):=shl64i _ 8 x8 x8;have B:shlK .i64 (z.toNat:Int) 16=((z.toNat*2 ^ 16:Nat):Int):=shl64i _ 16 x8 x8;have D:shlK .i64 (u.toNat:Int) 24=((u.toNat*2 ^ 24:Nat):Int):=shl64i _ 24 x8 x8;rw[A,or64' (k:=8) x8 x8,B,or64' (k:=16) x8 x8,D,or64' (k:=24) x8 x8];have:x.toNat+y.toNat*2 ^ 8+z.toNat*2 ^ 16+u.toNat*2 ^ 24=x.toNat+256*y.toNat+65536*z.toNat+16777216*u.toNat:=x8
 rw[this]
theorem By.four {a:Option Addr}{bs:Bs}(h:By w (.slice a n cap) bs){k:Nat}(D:k+4<=bs.length):∃ b o,a=some ⟨b,o,none⟩/\∀ j,j<4->rdO prog 5 w b (o+(k+j))=some (.int .u8 ((bs.getD (k+j) 0).toNat:Int)):=by
 obtain⟨b,o,A,e,_⟩:=h.pos x8;have B:=h.len;subst B;cases e;exact⟨b,o,rfl,fun j E=>h.get agg5 x8⟩
theorem four (w:World){bs:Bs}(A:By w p bs)(T:4<=bs.length)(hl:bs.length<2 ^ 62) :
  Fn prog 242 #[p] w fun v w'=>v=.int .i64 (le (bs.take 4))/\No w w':=by
 obtain⟨a,cap,rfl,B⟩:=A.slice;obtain⟨b,o,rfl,r⟩:=By.four A (k:=0) x8;refine go242 sm ?_;have D:=r 0 x8;have E:=r 1 x8;have H:=r 2 x8;have I:=r 3 x8;simp only[jV,yK]at D E H I;have U:(0:Int)<=0/\(0:Int)<(bs.length:Int):=x8
 have V:(0:Int)<=1/\(1:Int)<(bs.length:Int):=x8
 have W:(0:Int)<=2/\(2:Int)<(bs.length:Int):=x8
 have Y:(0:Int)<=3/\(3:Int)<(bs.length:Int):=x8
 have key:_=((le (bs.take 4):Nat):Int):=(or4 (x:=bs.getD 0 0) (y:=bs.getD 1 0) (z:=bs.getD 2 0) (u:=bs.getD 3 0)).trans (congrArg _ (le4 T).symm);generalize ((le (bs.take 4):Nat):Int)=N at *;have Z:=ext8i (bs.getD 0 0);have e1:=ext8i (bs.getD 1 0);have e2:=ext8i (bs.getD 2 0);have e3:=ext8i (bs.getD 3 0);generalize ((bs.getD 0 0).toNat:Int)=x0 at *;generalize ((bs.getD 1 0).toNat:Int)=x1 at *;generalize ((bs.getD 2 0).toNat:Int)=x2 at *;generalize ((bs.getD 3 0).toNat:Int)=x3 at *
 obtain⟨a1,J⟩:∃ a,shlK .i64 x1 8=a:=⟨_,rfl⟩
 rw[J]at key
 obtain⟨b1,L⟩:∃ a,orK .i64 x0 a1=a:=⟨_,rfl⟩
 rw[L]at key
 obtain⟨a2,M⟩:∃ a,shlK .i64 x2 16=a:=⟨_,rfl⟩
 rw[M]at key
 obtain⟨b2,O⟩:∃ a,orK .i64 b1 a2=a:=⟨_,rfl⟩
 rw[O]at key
 obtain⟨a3,R⟩:∃ a,shlK .i64 x3 24=a:=⟨_,rfl⟩
 rw[R]at key;have s1:¬ ((8:Int)<0):=j0
 have s2:¬ ((16:Int)<0):=j0
 have s3:¬ ((24:Int)<0):=j0
 simp -implicitDefEqProofs only[go_sem,j7,Tryz.f242,U,V,W,Y,and_self,if_true,Int.reduceToNat,j8,D,E,H,I,Z,e1,e2,e3,s1,s2,s3,if_false,J,L,M,O,R,key];exact (Fr.refl _ _).drew
abbrev z32:Bs:=zG 32 0
def lfC (k:Bs)(vv:Value):List Value:=k.map u8++[vv]
def cdC (p c:Nat)(s:Bs):List Value:=[.int .i64 (p:Nat),.int .i64 (c:Nat)]++s.map u8
theorem lfC_len (h:k.length=32)(vv:Value):(lfC k vv).length=33:=by simp[lfC,h]
theorem qZd (h:s.length=32)(p c:Nat):(cdC p c s).length=34:=by simp[cdC,h]
theorem lfC_one (k:Bs)(h:one vv=true):(lfC k vv).all one=true:=by simp only[lfC,vX,qXy,vJ,h,vV,vQ]
theorem cdC_one (p c:Nat)(s:Bs):(cdC p c s).all one=true:=by simp only[cdC,vX,qXy,vJ,vV,y9];rfl
theorem leafStands (A:World)(D:k.length=32)(E:By A vv val):Fn prog 246 #[.agg (lfC k vv).toArray] A fun v w'=>v=.bool (decide (val.length<=128))/\No A w':=by
 obtain⟨a,cap,rfl,B⟩:=E.slice;refine go246 sm ?_;obtain⟨W,H,I,J,N⟩:=qQl A (lfC k (.slice a val.length cap)).toArray 315;have L:rdO prog 22 W A.heap.size 32=some (.slice a val.length cap):=rd_one (r:=[]) (a:=k.map u8) agg22 J (by simp[D]);have M:decide ((val.length:Int)<=128)=decide (val.length<=128):=decide_eq_decide.2 ⟨fun h=>by omega,fun h=>by omega⟩;simp -implicitDefEqProofs only[go_sem,j7,yU,jV,Tryz.f246,H,L,M];exact I
theorem strCd:strucO prog 318=some [(false,3,0),(false,3,1),(false,75,2)]:=x9
theorem stCd:prog.stoodInHeld 318=false:=x9
theorem bldCd0:bldO prog 318 []=some (.agg (cdC 0 0 z32).toArray):=by
 rw[qJp zero318 places318 (c:=(cdC 0 0 z32).toArray) x9];rfl
theorem eqCd {p c p' c':Nat}{s s':Bs}(h:s.length=32)(A:s'.length=32):eqV prog Op.maxDepth 318 (.agg (cdC p c s).toArray) (.agg (cdC p' c' s').toArray)=some (decide (p=p'/\c=c'/\s=s')):=by
 rw[show Op.maxDepth=9997+1+1+1 from rfl,eqV_st strCd stCd]
 have x:∀ {p c:Nat} {s:Bs},s.length=32->(cdC p c s).toArray.extract 2 (2+32)=(s.map u8).toArray:=fun {p c s} h=>by
  apply Array.toList_inj.1;simp[cdC];exact zB (by simp[h])
 have g:∀ {p c:Nat} {s:Bs},(cdC p c s).toArray[0]?=some (.int .i64 (p:Nat))/\(cdC p c s).toArray[1]?=some (.int .i64 (c:Nat)):=fun {p c s}=>⟨rfl,rfl⟩
 simp only[List.mapM_cons,List.mapM_nil,qWb agg3,part_agg agg75 sz75,qP,if_false,x h,x A,g.1,g.2,qV,eqV_i int3,eqV_dg arr75 int5 sz5 agg5 h A,Option.pure_def,Option.bind_eq_bind,Option.map_some,vJ,vV,id,y9]
 congr 1
 rw[Bool.eq_iff_iff]
 simp
theorem childStands (B:World)(p c:Nat)(h:s.length=32):Fn prog 247 #[.agg (cdC p c s).toArray] B fun v w'=>v=.bool (decide (chR p c s))/\No B w':=by
 refine go247 sm ?_;obtain⟨W,D,E,M,s1⟩:=qQl B (cdC p c s).toArray 318;have H:rdO prog 3 W B.heap.size 0=some (.int .i64 (p:Nat)):=rd1 agg3 M rfl;have O:rdO prog 3 W B.heap.size 1=some (.int .i64 (c:Nat)):=rd1 agg3 M rfl;have V:=qQm (P:=prog) (t:=318) agg318 sz318 M (by simp[qZd h]);have A:=nateq p 0;have Y:=eqCd (p:=p) (c:=c) (p':=0) (c':=0) h (show z32.length=32 by simp)
 by_cases J:p=0
 ·have A:((p:Int) == 0)=true:=by rw[J];rfl
  have e:decide (chR p c s)=decide (p=0/\c=0/\s=z32):=decide_eq_decide.2 (by unfold chR;rw[if_pos J];exact⟨fun h=>⟨J,h⟩,fun h=>h.2⟩);simp -implicitDefEqProofs only[go_sem,j7,yU,jV,Tryz.f247,D,H,A,V,bldCd0,Y,eqg318,e];exact E
 have A:((p:Int) == 0)=false:=by rw[bFn];omega
 have e:decide (chR p c s)=decide (2<=p/\p<4096/\0<c/\c<=4096):=decide_eq_decide.2 (by unfold chR;rw[if_neg J]);rw[e]
 by_cases R:2<=p
 case neg =>
  have I:=dFo (2<=(p:Int));have e:decide (2<=p/\p<4096/\0<c/\c<=4096)=false:=decide_eq_false fun h=>R h.1;simp -implicitDefEqProofs only[go_sem,j7,yU,qQq,jV,Tryz.f247,D,H,A,I,e];exact E
 have I:=dTo (2<=(p:Int))
 by_cases T:p<4096
 case neg =>
  have L:=dFo ((p:Int)<4096);have e:decide (2<=p/\p<4096/\0<c/\c<=4096)=false:=decide_eq_false fun h=>T h.2.1;simp -implicitDefEqProofs only[go_sem,j7,yU,bSe,qQq,jV,Tryz.f247,D,H,A,I,L,e];exact E
 have L:=dTo ((p:Int)<4096)
 by_cases U:0<c
 case neg =>
  have N:=dFo (0<(c:Int));have e:decide (2<=p/\p<4096/\0<c/\c<=4096)=false:=decide_eq_false fun h=>U h.2.2.1;simp -implicitDefEqProofs only[go_sem,j7,yU,bSe,qQq,jV,Tryz.f247,D,H,O,A,I,L,N,e];exact E
 have N:=dTo (0<(c:Int));have Z:decide ((c:Int)<=4096)=decide (c<=4096):=decide_eq_decide.2 ⟨fun h=>by omega,fun h=>by omega⟩;have e:decide (2<=p/\p<4096/\0<c/\c<=4096)=decide (c<=4096):=decide_eq_decide.2 ⟨fun h=>h.2.2.2,fun h=>⟨R,T,U,h⟩⟩;simp -implicitDefEqProofs only[go_sem,j7,yU,bSe,jV,Tryz.f247,D,H,O,A,I,L,N,Z,e];exact E
theorem brStands (E:World)(A lc B rc:Nat)(L:ls.length=32)(U:rs.length=32)(h1:lc<2 ^ 32)(h2:rc<2 ^ 32):Fn prog 249 #[.agg (cdC A lc ls++cdC B rc rs).toArray] E fun v w'=>v=.bool (decide (brR A B lc rc ls rs))/\No E w':=by
 refine go249 sm ?_;obtain⟨W,hW,M,D,s1⟩:=qQl E (cdC A lc ls++cdC B rc rs).toArray 320;have r0:rdO prog 3 W E.heap.size 0=some (.int .i64 (A:Nat)):=rd1 agg3 D rfl;have r1:rdO prog 3 W E.heap.size 1=some (.int .i64 (lc:Nat)):=rd1 agg3 D rfl;have N:(cdC A lc ls++cdC B rc rs)=cdC A lc ls++.int .i64 (B:Nat)::.int .i64 (rc:Nat)::rs.map u8:=rfl;have V:(cdC A lc ls++cdC B rc rs)=(cdC A lc ls++[.int .i64 (B:Nat)])++.int .i64 (rc:Nat)::rs.map u8:=by rw[N];simp
 have Y:∀ H,H.heap[E.heap.size]?=some (.cells (cdC A lc ls++cdC B rc rs).toArray 320 (0,0))->rdO prog 3 H E.heap.size 34=some (.int .i64 (B:Nat))/\rdO prog 3 H E.heap.size 0=some (.int .i64 (A:Nat)):=fun H D=>⟨rd_one agg3 (by rw[N]at D;exact D) (qZd L _ _),rd1 agg3 D rfl⟩
 have Z:rdO prog 3 W E.heap.size 35=some (.int .i64 (rc:Nat)):=rd_one agg3 (by rw[V]at D;exact D) (by simp[qZd L])
 have ll:∀ H,H.heap[E.heap.size]?=some (.cells (cdC A lc ls++cdC B rc rs).toArray 320 (0,0))->rdO prog 318 H E.heap.size 0=some (.agg (cdC A lc ls).toArray)/\rdO prog 318 H E.heap.size 34=some (.agg (cdC B rc rs).toArray):=fun H D =>
  ⟨qKb (a:=[]) (m:=cdC A lc ls) (r:=cdC B rc rs) agg318 (by rw[qZd L];exact sz318) (by rw[qZd L];omega) D rfl,qKb (a:=cdC A lc ls) (m:=cdC B rc rs) (r:=[]) agg318 (by rw[qZd U];exact sz318) (by rw[qZd U];omega) (by rw[z4];exact D) (qZd L _ _)⟩
 have c1:IntKind.i64.wrap ((lc:Int)+(rc:Int))=((lc+rc:Nat):Int):=qXa;obtain⟨la,_⟩:=ll W D;simp -implicitDefEqProofs only[go_sem,j7,Nat.reduceAdd,yU,jV,Tryz.f249,hW,r1,Z,c1,la];refine qQa pl247 ((childStands W A lc L).mono ?_);rintro _ w2 ⟨rfl,I⟩
 by_cases R:chR A lc ls
 case neg =>
  have e:decide (brR A B lc rc ls rs)=false:=decide_eq_false fun h=>R h.1;rw[decide_eq_false R];simp -implicitDefEqProofs only[go_sem,j7,qQq,e];exact M.trans I
 rw[decide_eq_true R];obtain⟨_,lb⟩:=ll w2 (I.at D id);simp -implicitDefEqProofs only[go_sem,j7,bSe,jV,lb];refine qQa pl247 ((childStands w2 B rc U).mono ?_);rintro _ w3 ⟨rfl,O⟩
 by_cases T:chR B rc rs
 case neg =>
  have e:decide (brR A B lc rc ls rs)=false:=decide_eq_false fun h=>T h.2.1;rw[decide_eq_false T];simp -implicitDefEqProofs only[go_sem,j7,qQq,e];exact (M.trans I).trans O
 rw[decide_eq_true T];obtain⟨J,q0⟩:=Y w3 (O.at (I.at D id) id);have n1:=natne A B
 by_cases hC:A=B
 ·rw[decide_eq_false (not_not_intro hC)]at n1
  have e:decide (brR A B lc rc ls rs)=false:=decide_eq_false fun h=>h.2.2.1 hC;simp -implicitDefEqProofs only[go_sem,j7,bSe,qQq,jV,yK,J,q0,n1,e];exact (M.trans I).trans O
 rw[decide_eq_true hC]at n1
 by_cases hD:2<=lc+rc
 case neg =>
  have d1:=dFo (2<=((lc+rc:Nat):Int));have e:decide (brR A B lc rc ls rs)=false:=decide_eq_false fun h=>hD h.2.2.2.1;simp -implicitDefEqProofs only[go_sem,j7,bSe,qQq,jV,yK,J,q0,n1,d1,e];exact (M.trans I).trans O
 have d1:=dTo (2<=((lc+rc:Nat):Int));have d2:decide (((lc+rc:Nat):Int)<=4096)=decide (lc+rc<=4096):=decide_eq_decide.2 ⟨fun h=>by omega,fun h=>by omega⟩;have e:decide (brR A B lc rc ls rs)=decide (lc+rc<=4096):=decide_eq_decide.2 ⟨fun h=>h.2.2.2.2,fun h=>⟨R,T,hC,hD,h⟩⟩;simp -implicitDefEqProofs only[go_sem,j7,bSe,jV,yK,J,q0,n1,d1,d2,e];exact (M.trans I).trans O
end A
end
section
open Go.Proofs
namespace A
open Aud
def rcC (r:Rc):List Value:=[.int .i64 (r.ver:Nat),.int .i64 (r.first:Nat),.int .i64 (r.prev:Nat),.int .i64 (r.skip:Nat),.int .i64 (r.root:Nat),.int .i64 (r.count:Nat)]++r.sum.map u8
theorem qXc {r:Rc}(h:r.sum.length=32):(rcC r).length=38:=by simp[rcC,h]
theorem rcC_one (r:Rc):(rcC r).all one=true:=by simp only[rcC,vX,qXy,vJ,vV,y9];rfl
theorem isPage (w:World)(p:Nat):Fn prog 240 #[.int .i64 (p:Nat)] w fun v w'=>v=.bool (decide (isPg p))/\w'=w:=by
 refine go240 sm ?_
 by_cases B:2<=p
 ·have A:=dTo (2<=(p:Int))
  have e:decide (isPg p)=decide ((p:Int)<4096):=decide_eq_decide.2 ⟨fun h=>by have:=h.2;omega,fun h=>⟨B,x8⟩⟩;simp -implicitDefEqProofs only[go_sem,j7,bSe,Tryz.f240,A,e]
 ·have A:=dFo (2<=(p:Int))
  have e:decide (isPg p)=false:=decide_eq_false fun h=>B h.1;simp -implicitDefEqProofs only[go_sem,j7,qQq,Tryz.f240,A,e]
theorem held (w:World)(r c:Nat):Fn prog 239 #[.int .i64 (r:Nat),.int .i64 (c:Nat)] w fun v w'=>v=.bool (decide (held r c))/\w'=w:=by
 refine go239 sm ?_
 by_cases A:r=0
 ·have B:((r:Int) == 0)=true:=by rw[A];rfl
  have D:((r:Int) != 0)=false:=by rw[A];rfl
  have e:decide (Aud.held r c)=((c:Int) == 0):=by
   rw[show ((c:Int) == 0)=decide (c=0) from nateq c 0];exact decide_eq_decide.2 ⟨fun h=>h.elim (fun h=>h.2) fun h=>absurd A h.1,fun h=>.inl ⟨A,h⟩⟩
  cases H:((c:Int) == 0) with
  | true=>simp -implicitDefEqProofs only[go_sem,j7,bSe,qXd,jV,Tryz.f239,B,H,e,undef]
  | false=>simp -implicitDefEqProofs only[go_sem,j7,bSe,qQq,jV,Tryz.f239,B,D,H,e,undef]
 ·have B:((r:Int) == 0)=false:=by rw[bFn];omega
  have D:((r:Int) != 0)=true:=by rw[bne,B];rfl
  by_cases I:0<c
  ·have E:=dTo (0<(c:Int))
   have e:decide (Aud.held r c)=decide ((c:Int)<=4096):=decide_eq_decide.2 ⟨fun h=>h.elim (fun h=>absurd h.1 A) fun h=>by omega,fun h=>.inr ⟨A,I,x8⟩⟩;simp -implicitDefEqProofs only[go_sem,j7,bSe,qQq,jV,Tryz.f239,B,D,E,e]
  ·have E:=dFo (0<(c:Int))
   have e:decide (Aud.held r c)=false:=decide_eq_false fun h=>h.elim (fun h=>absurd h.1 A) fun h=>I h.2.1;simp -implicitDefEqProofs only[go_sem,j7,bSe,qQq,jV,Tryz.f239,B,D,E,e]
theorem number (w:World)(r:Rc)(L:r.first<=r.ver)(M:r.ver<=2 ^ 40):Fn prog 241 #[.agg (rcC r).toArray] w fun v w'=>v=.int .i64 (r.num:Nat)/\No w w':=by
 refine go241 sm ?_;obtain⟨W,D,E,H,N⟩:=qQl w (rcC r).toArray 80;have I:rdO prog 3 W w.heap.size 0=some (.int .i64 (r.ver:Nat)):=rd1 agg3 H rfl;have J:rdO prog 3 W w.heap.size 1=some (.int .i64 (r.first:Nat)):=rd1 agg3 H rfl
 by_cases A:r.first=0
 ·have B:((r.first:Int) == 0)=true:=by rw[A];rfl
  have e:r.num=r.ver:=if_pos A;simp -implicitDefEqProofs only[go_sem,j7,yU,jV,Tryz.f241,D,I,J,B,e];exact E
 ·have B:((r.first:Int) == 0)=false:=by rw[bFn];omega
  have e:r.num=r.ver - r.first+1:=if_neg A;have c1:IntKind.i64.wrap ((r.ver:Int) - (r.first:Int))=((r.ver - r.first:Nat):Int):=qXv L x8;have c2:IntKind.i64.wrap (((r.ver - r.first:Nat):Int)+1)=((r.ver - r.first+1:Nat):Int):=qXa (b:=1);simp -implicitDefEqProofs only[go_sem,j7,yU,jV,Tryz.f241,D,I,J,B,c1,c2,e];exact E
theorem and64 (a b:Nat)(D:a<2 ^ 62)(E:b<2 ^ 62):andK .i64 (a:Int) (b:Int)=((a &&& b:Nat):Int):=by
 have e:andK .i64 (a:Int) (b:Int)=IntKind.i64.wrap (((qQ 64 (a:Int) &&& qQ 64 (b:Int)).toNat:Nat):Int):=rfl;have A:a<2 ^ 64:=x8
 have B:b<2 ^ 64:=x8
 have H:a &&& b<=a:=Nat.and_le_left;rw[e,y7,xW,xW,zY,zY,yP A,yP B,qQr x8 x8]
theorem right (B:World)(r:Rc)(hs:r.sum.length=32)(hv:r.ver<2 ^ 32)(hf:r.first<2 ^ 32):Fn prog 236 #[.agg (rcC r).toArray] B fun v w'=>v=.bool (decide r.right)/\No B w':=by
 refine go236 sm ?_;unfold DenF;refine den_cut 2 ?_;obtain⟨W,Z,I,L,s1⟩:=qQl B (rcC r).toArray 80
 have rr:∀ w:World, w.heap[B.heap.size]?=some (.cells (rcC r).toArray 80 (0, 0)) ->
   rdO prog 3 w B.heap.size 0=some (.int .i64 (r.ver:Nat))/\rdO prog 3 w B.heap.size 1=some (.int .i64 (r.first:Nat))/\rdO prog 3 w B.heap.size 2=some (.int .i64 (r.prev:Nat))/\rdO prog 3 w B.heap.size 3=some (.int .i64 (r.skip:Nat))/\rdO prog 3 w B.heap.size 4=some (.int .i64 (r.root:Nat))/\rdO prog 3 w B.heap.size 5=some (.int .i64 (r.count:Nat)):=fun w k =>
  ⟨rd1 agg3 k rfl,rd1 agg3 k rfl,rd1 agg3 k rfl,rd1 agg3 k rfl,rd1 agg3 k rfl,rd1 agg3 k rfl⟩
 obtain⟨T,a1,a2,M,U,a5⟩:=rr W L;have g0:=dFo ((r.first:Int)<0);have E:∀ {p:Prop},(r.right->p)->¬ p->decide r.right=false:=fun h J=>decide_eq_false fun h'=>J (h h')
 by_cases h1:r.first<=1073741824
 case neg =>
  have d1:=dTo ((r.first:Int) > 1073741824);have e:=E (fun h=>h.1) h1;simp -implicitDefEqProofs only[go_sem,j7,yU,bSe,qXd,jV,Tryz.f236,Z,a1,g0,d1,e];exact I
 have d1:=dFo ((r.first:Int) > 1073741824)
 have em:(if (r.first:Int) > 1 then (r.first:Int) else 1)=((max 1 r.first:Nat):Int):=by
  split
  ·rw[Nat.max_eq_right x8]
  ·rw[Nat.max_eq_left x8];rfl
 by_cases h2:max 1 r.first<=r.ver
 case neg =>
  have d2:=dTo ((r.ver:Int)<((max 1 r.first:Nat):Int));have e:=E (fun h=>h.2.1) h2;simp -implicitDefEqProofs only[go_sem,j7,yU,bSe,qXd,jV,Tryz.f236,Z,T,a1,g0,d1,biP,maxL,em,d2,e];exact I
 have d2:=dFo ((r.ver:Int)<((max 1 r.first:Nat):Int))
 by_cases h3:r.ver<=1073741824
 case neg =>
  have d3:=dTo ((r.ver:Int) > 1073741824);have e:=E (fun h=>h.2.2.1) h3;simp -implicitDefEqProofs only[go_sem,j7,yU,bSe,jV,Tryz.f236,Z,T,a1,g0,d1,biP,maxL,em,d2,d3,e];exact I
 have d3:=dFo ((r.ver:Int) > 1073741824);simp -implicitDefEqProofs only[go_sem,j7,yU,bSe,jV,Tryz.f236,Z,T,a1,g0,d1,biP,maxL,em,d2,d3];refine qZv ?_;refine qZf (fun ev w=>ev 1=pt B.heap.size 0/\No B w/\w.heap[B.heap.size]?=some (.cells (rcC r).toArray 80 (0,0))/\Aud.held r.root r.count/\(r.root≠0->isPg r.root)) ?_ ?_
 ·simp -implicitDefEqProofs only[go_sem,j7,jV,U,a5]
  refine qQa pl239 ((held W r.root r.count).mono ?_);rintro _ _ ⟨rfl,rfl⟩;rename_i W
  by_cases R:Aud.held r.root r.count
  case neg =>
   have e:=E (fun h=>h.2.2.2.1) R;rw[decide_eq_false R];simp -implicitDefEqProofs only[go_sem,j7,qXd,xH,jV,e];exact I
  rw[decide_eq_true R]
  by_cases h0:r.root=0
  ·have n4:((r.root:Int) != 0)=false:=by rw[h0];rfl
   simp -implicitDefEqProofs only[go_sem,j7,bSe,qQq,y8,jV,U,n4];exact⟨I,L,R,fun h=>absurd h0 h⟩
  ·have n4:((r.root:Int) != 0)=true:=by rw[show ((r.root:Int) != 0)=decide (r.root≠0) from natne r.root 0];exact decide_eq_true h0
   simp -implicitDefEqProofs only[go_sem,j7,bSe,y8,jV,U,n4];refine qQa pl240 ((isPage W r.root).mono ?_);rintro _ _ ⟨rfl,rfl⟩;rename_i W
   by_cases V:isPg r.root
   ·rw[decide_eq_true V]
    simp -implicitDefEqProofs only[go_sem,j7,bSe,y8];exact⟨I,L,R,fun _=>V⟩
   ·have e:=E (fun h=>h.2.2.2.2.1 h0) V
    rw[decide_eq_false V];simp -implicitDefEqProofs only[go_sem,j7,bSe,xH,e];exact I
 ·clear T a1 a2 M U a5 L I Z
  rintro ev w ⟨N,I,L,R,V⟩;obtain⟨T,a1,a2,M,U,a5⟩:=rr w L;have ld:=qQm (P:=prog) (t:=80) agg80 sz80 L (by simp[qXc hs]);simp -implicitDefEqProofs only[go_sem,N,ld];refine qQa pl241 ((number w r x8 x8).mono ?_);rintro _ w2 ⟨rfl,f2⟩;have A:=I.trans f2;have k2:=f2.at L id;obtain⟨T,a1,a2,M,U,a5⟩:=rr w2 k2
  have a8:r.num<=r.ver:=by unfold Rc.num;split <;> omega
  have a7:1<=r.num:=by unfold Rc.num;split <;> omega
  have all:∀ p:Prop,[Decidable p]->(p ↔ (if r.num=1 then r.prev=0/\r.skip=0 else isPg r.prev/\qXt r.num r.prev r.skip))->decide r.right=decide p:=fun p _ J=>decide_eq_decide.2 ⟨fun h=>J.2 h.2.2.2.2.2,fun h=>⟨h1,h2,h3,R,V,J.1 h⟩⟩
  by_cases O:r.num=1
  ·have i1:((r.num:Int) == 1)=true:=by rw[O];rfl
   have n2:((r.prev:Int) == 0)=decide (r.prev=0):=nateq r.prev 0;have n3:((r.skip:Int) == 0)=decide (r.skip=0):=nateq r.skip 0
   by_cases J:r.prev=0
   ·have e:=all (r.skip=0) (by rw[if_pos O];exact⟨fun h=>⟨J,h⟩,fun h=>h.2⟩)
    rw[decide_eq_true J]at n2;simp -implicitDefEqProofs only[go_sem,j7,bSe,jV,N,i1,a2,M,n2,n3,e];exact A
   ·have e:=all False (by rw[if_pos O];exact⟨fun h=>h.elim,fun h=>J h.1⟩)
    rw[decide_eq_false J]at n2;have e:decide r.right=false:=e.trans (decide_eq_false id);simp -implicitDefEqProofs only[go_sem,j7,qQq,jV,N,i1,a2,n2,e];exact A
  have i1:((r.num:Int) == 1)=false:=by rw[bFn];omega
  simp -implicitDefEqProofs only[go_sem,j7,jV,N,i1,a2];refine qQa pl240 ((isPage w2 r.prev).mono ?_);rintro _ _ ⟨rfl,rfl⟩;rename_i w2
  by_cases Y:isPg r.prev
  case neg =>
   have e:=all False (by rw[if_neg O];exact⟨fun h=>h.elim,fun h=>Y h.1⟩);have e:decide r.right=false:=e.trans (decide_eq_false id);rw[decide_eq_false Y];simp -implicitDefEqProofs only[go_sem,xH,e];exact A
  rw[decide_eq_true Y];have c1:IntKind.i64.wrap ((r.num:Int) - 1)=((r.num - 1:Nat):Int):=qXv (b:=1) a7 x8
  obtain⟨y,hy⟩:∃ y,andK .i64 (r.num:Int) ((r.num - 1:Nat):Int)=y:=⟨_,rfl⟩
  have a6:y=((far r.num:Nat):Int):=hy.symm.trans (and64 _ _ x8 x8);have q0:(y == 0)=decide (far r.num=0):=by rw[a6];exact nateq _ 0
  have q1:(y == ((r.num - 1:Nat):Int))=decide (far r.num=r.num - 1):=by rw[a6];exact nateq _ _
  by_cases D:far r.num=0
  ·rw[decide_eq_true D]at q0
   have n3:((r.skip:Int) == 0)=decide (r.skip=0):=nateq r.skip 0;have e:=all (r.skip=0) (by rw[if_neg O];unfold qXt;rw[if_pos D];exact⟨fun h=>⟨Y,h⟩,fun h=>h.2⟩);simp -implicitDefEqProofs only[go_sem,j7,y8,jV,N,c1,hy,q0,M,n3,e];exact A
  rw[decide_eq_false D]at q0
  by_cases H:far r.num=r.num - 1
  ·rw[decide_eq_true H]at q1
   have n3:((r.skip:Int) == (r.prev:Int))=decide (r.skip=r.prev):=nateq r.skip r.prev;have e:=all (r.skip=r.prev) (by rw[if_neg O];unfold qXt;rw[if_neg D,if_pos H];exact⟨fun h=>⟨Y,h⟩,fun h=>h.2⟩);simp -implicitDefEqProofs only[go_sem,j7,y8,jV,N,c1,hy,q0,q1,a2,M,n3,e];exact A
  rw[decide_eq_false H]at q1;simp -implicitDefEqProofs only[go_sem,j7,y8,jV,N,c1,hy,q0,q1,M];refine qQa pl240 ((isPage w2 r.skip).mono ?_);rintro _ _ ⟨rfl,rfl⟩;rename_i w2
  by_cases hS:isPg r.skip
  ·have d9:decide ((r.skip:Int)<(r.prev:Int))=decide (r.skip<r.prev):=decide_eq_decide.2 ⟨fun h=>by omega,fun h=>by omega⟩
   have e:=all (r.skip<r.prev) (by rw[if_neg O];unfold qXt;rw[if_neg D,if_neg H];exact⟨fun h=>⟨Y,hS,h⟩,fun h=>h.2.2⟩);rw[decide_eq_true hS];simp -implicitDefEqProofs only[go_sem,j7,bSe,jV,N,a2,M,d9,e];exact A
  ·have e:=all False (by rw[if_neg O];unfold qXt;rw[if_neg D,if_neg H];exact⟨fun h=>h.elim,fun h=>hS h.2.1⟩)
   have e:decide r.right=false:=e.trans (decide_eq_false id);rw[decide_eq_false hS];simp -implicitDefEqProofs only[go_sem,j7,qQq,e];exact A
end A
end
section
open Go.Proofs
namespace A
open Aud
abbrev supC (s:Sup):Array Value:=#[.int .i64 (s.width:Nat),.int .i64 (s.gen:Nat),.int .i64 (s.mark:Nat),.int .i64 (s.head:Nat),.int .i64 (s.pages:Nat)]
abbrev sup0:Array Value:=#[.int .i64 0,.int .i64 0,.int .i64 0,.int .i64 0,.int .i64 0]
theorem qZz (s:Sup):(supC s).all one=true:=by rw[<- Array.all_toList];rfl
theorem valid (w:World)(s:Sup):Fn prog 124 #[.agg (supC s)] w fun v w'=>v=.bool (decide s.ok)/\No w w':=by
 refine go124 sm ?_;obtain⟨W,B,D,V,s1⟩:=qQl w (supC s) 67;have E:rdO prog 3 W w.heap.size 0=some (.int .i64 (s.width:Nat)):=rd1 agg3 V rfl;have M:rdO prog 3 W w.heap.size 1=some (.int .i64 (s.gen:Nat)):=rd1 agg3 V rfl;have H:rdO prog 3 W w.heap.size 2=some (.int .i64 (s.mark:Nat)):=rd1 agg3 V rfl;have I:rdO prog 3 W w.heap.size 3=some (.int .i64 (s.head:Nat)):=rd1 agg3 V rfl;have R:rdO prog 3 W w.heap.size 4=some (.int .i64 (s.pages:Nat)):=rd1 agg3 V rfl;have N:=dTo ((s.gen:Int) ≥ 0)
 by_cases h1:1<=s.width
 case neg =>
  have A:=dFo ((s.width:Int) ≥ 1);have e:decide s.ok=false:=decide_eq_false fun h=>h1 h.1.1;simp -implicitDefEqProofs only[go_sem,j7,qQq,jV,Tryz.f124,yU,B,E,H,I,A,e];exact D
 have A:=dTo ((s.width:Int) ≥ 1)
 by_cases h2:s.width<=32
 case neg =>
  have J:=dFo ((s.width:Int)<=32);have e:decide s.ok=false:=decide_eq_false fun h=>h2 h.1.2;simp -implicitDefEqProofs only[go_sem,j7,bSe,qQq,jV,Tryz.f124,yU,B,E,H,I,A,J,e];exact D
 have J:=dTo ((s.width:Int)<=32)
 by_cases h3:s.gen<=1099511627776
 case neg =>
  have L:=dFo ((s.gen:Int)<=1099511627776);have e:decide s.ok=false:=decide_eq_false fun h=>h3 h.2.1;simp -implicitDefEqProofs only[go_sem,j7,bSe,qQq,jV,Tryz.f124,yU,B,E,M,H,I,N,A,J,L,e];exact D
 have L:=dTo ((s.gen:Int)<=1099511627776)
 by_cases h4:3<=s.pages
 case neg =>
  have O:=dFo ((s.pages:Int) ≥ 3);have e:decide s.ok=false:=decide_eq_false fun h=>h4 h.2.2.1.1;simp -implicitDefEqProofs only[go_sem,j7,bSe,qQq,jV,Tryz.f124,yU,B,E,M,H,I,R,N,A,J,L,O,e];exact D
 have O:=dTo ((s.pages:Int) ≥ 3)
 by_cases h5:s.pages<=4096
 case neg =>
  have T:=dFo ((s.pages:Int)<=4096);have e:decide s.ok=false:=decide_eq_false fun h=>h5 h.2.2.1.2;simp -implicitDefEqProofs only[go_sem,j7,bSe,qQq,jV,Tryz.f124,yU,B,E,M,H,I,R,N,A,J,L,O,T,e];exact D
 have T:=dTo ((s.pages:Int)<=4096)
 by_cases h6:2<=s.mark
 case neg =>
  have U:=dFo ((s.mark:Int) ≥ 2);have e:decide s.ok=false:=decide_eq_false fun h=>h6 h.2.2.2.1.1;simp -implicitDefEqProofs only[go_sem,j7,bSe,qQq,jV,Tryz.f124,yU,B,E,M,H,I,R,N,A,J,L,O,T,U,e];exact D
 have U:=dTo ((s.mark:Int) ≥ 2)
 by_cases h7:s.mark<=s.pages
 case neg =>
  have Y:=dFo ((s.mark:Int)<=(s.pages:Int));have e:decide s.ok=false:=decide_eq_false fun h=>h7 h.2.2.2.1.2;simp -implicitDefEqProofs only[go_sem,j7,bSe,qQq,jV,Tryz.f124,yU,B,E,M,H,I,R,N,A,J,L,O,T,U,Y,e];exact D
 have Y:=dTo ((s.mark:Int)<=(s.pages:Int))
 by_cases Z:s.head=0
 case pos =>
  have d8:((s.head:Int) == 0)=true:=by rw[Z];rfl
  have e:decide s.ok=true:=decide_eq_true ⟨⟨h1,h2⟩,h3,⟨h4,h5⟩,⟨h6,h7⟩,.inl Z⟩;simp -implicitDefEqProofs only[go_sem,j7,bSe,qXd,jV,Tryz.f124,yU,B,E,M,H,I,R,N,A,J,L,O,T,U,Y,d8,e];exact D
 have d8:((s.head:Int) == 0)=false:=by rw[bFn];omega
 by_cases h9:2<=s.head
 case neg =>
  have d9:=dFo ((s.head:Int) ≥ 2);have e:decide s.ok=false:=decide_eq_false fun h=>h.2.2.2.2.elim Z fun h=>h9 h.1;simp -implicitDefEqProofs only[go_sem,j7,bSe,qQq,jV,Tryz.f124,yU,B,E,M,H,I,R,N,A,J,L,O,T,U,Y,d8,d9,e];exact D
 have d9:=dTo ((s.head:Int) ≥ 2);have a0:decide ((s.head:Int)<(s.mark:Int))=decide (s.head<s.mark):=decide_eq_decide.2 ⟨fun h=>by omega,fun h=>by omega⟩;have e:decide s.ok=decide (s.head<s.mark):=decide_eq_decide.2 ⟨fun h=>h.2.2.2.2.elim (fun h=>absurd h Z) fun h=>h.2,fun h=>⟨⟨h1,h2⟩,h3,⟨h4,h5⟩,⟨h6,h7⟩,.inr ⟨h9,h⟩⟩⟩;simp -implicitDefEqProofs only[go_sem,j7,bSe,jV,Tryz.f124,yU,B,E,M,H,I,R,N,A,J,L,O,T,U,Y,d8,d9,a0,e];exact D
end A
end
section
open Go.Proofs
namespace A
open Aud
def lfV (k:Bs)(vv:Value):Value:=.iface 315 (.agg (lfC k vv).toArray)
def brV (A lc:Nat)(ls:Bs)(B rc:Nat)(rs:Bs):Value:=.iface 320 (.agg (cdC A lc ls++cdC B rc rs).toArray)
def RdN (w:World)(kind:Nat)(l:Bs)(v:Value):Prop :=
 if kind=1/\32<=l.length then ∃ vv,v=lfV (l.take 32) vv/\one vv=true/\By w vv (l.drop 32)
 else if kind=2/\l.length=80 then v=brV (nat4 l 0) (nat4 l 8) ((l.drop 16).take 32) (nat4 l 4) (nat4 l 12) ((l.drop 48).take 32)
 else v=.nilIface
theorem bldLf (vv:Value)(A:one vv=true):bldO prog 315 [(1,vv)]=some (.agg (lfC z32 vv).toArray):=by
 rw[qJp zero315 places315 (c:=(lfC z32 (.slice none 0 0)).toArray) x9];have:=qJb (ps:=fun i=>[(0,32),(32,1)][i]?) (i:=1) (o:=32) (a:=z32.map u8) (r:=[]) (u:=.slice none 0 0) (v:=vv) (rest:=[]) rfl sm A;rw[qXq]at this;exact congrArg (yY vG) this
theorem bldCd (p c:Nat):bldO prog 318 [(0,.int .i64 (p:Nat)),(1,.int .i64 (c:Nat))]=some (.agg (cdC p c z32).toArray):=by
 rw[qJp zero318 places318 (c:=(cdC 0 0 z32).toArray) x9];rfl
theorem bldBr (p c p' c':Nat):bldO prog 320 [(0,.agg (cdC p c z32).toArray),(1,.agg (cdC p' c' z32).toArray)]=some (.agg (cdC p c z32++cdC p' c' z32).toArray):=by
 rw[qJp zero320 places320 (c:=(cdC 0 0 z32++cdC 0 0 z32).toArray) x9];have z:z32.length=32:=sm
 have A:=qKa (ps:=fun i=>[(0,34),(34,34)][i]?) (i:=0) (o:=0) (n:=34) (a:=[]) (m:=cdC 0 0 z32) (r:=cdC 0 0 z32) (vs:=cdC p c z32) (rest:=[(1,.agg (cdC p' c' z32).toArray)]) rfl rfl (qZd z _ _) (qZd z _ _);have B:=qKa (ps:=fun i=>[(0,34),(34,34)][i]?) (i:=1) (o:=34) (n:=34) (a:=cdC p c z32) (m:=cdC 0 0 z32) (r:=[]) (vs:=cdC p' c' z32) (rest:=[]) rfl (qZd z _ _) (qZd z _ _) (qZd z _ _);rw[zA,zA]at A;rw[z4,z4,qXq]at B;exact congrArg (yY vG) (A.trans B)
theorem read (A:World)(kind:Nat){l:Bs}(U:By A p l)(hl:l.length<=2 ^ 40):Fn prog 237 #[.int .i64 (kind:Nat),p] A fun v w'=>No A w'/\RdN w' kind l v:=by
 obtain⟨a,cap,rfl,R⟩:=U.slice;refine go237 sm ?_;have n1:=nateq kind 1;have n2:=nateq kind 2;have f6:((kind:Int) == 1)=decide (kind=1):=n1;have f7:((kind:Int) == 2)=decide (kind=2):=n2;clear n1 n2
 by_cases hA:kind=1/\32<=l.length
 ·obtain⟨rfl,M⟩:=hA
  obtain⟨b,o,a6,e,_⟩:=U.pos x8;cases e;have d1:=dTo ((l.length:Int) ≥ 32);have T:(((1:Nat):Int) == 1)=true:=rfl;have s1:qQv prog 22 (.slice (some ⟨b,o,none⟩) l.length cap) (some (.int .i64 32)) none none=some (cutV 1 (some ⟨b,o,none⟩) cap 32 l.length):=slc_lo slc22 arr22 sz5 (l:=32) (n:=l.length) M R;obtain⟨a',hcut⟩:=cutV_slice 1 (some ⟨b,o,none⟩) cap 32 l.length
  have f8:By A (cutV 1 (some ⟨b,o,none⟩) cap 32 l.length) (l.drop 32):=by
   have:=By.slc U (l:=32) (m:=l.length) M (xC _)
   rwa [zB (by rw[lDr];omega)]at this
  have ov:one (cutV 1 (some ⟨b,o,none⟩) cap 32 l.length)=true:=by rw[hcut];rfl
  generalize cutV 1 (some ⟨b,o,none⟩) cap 32 l.length=vv at *;obtain⟨W,hW,f1,k1,s2⟩:=qQl A (lfC z32 (.slice none 0 0)).toArray 315;have V:bl (zG 32 0)++#[.slice none 0 0]=(lfC z32 (.slice none 0 0)).toArray:=x9
  have z:z32.length=32:=sm
  have I:wrO prog 315 W A.heap.size 0 (.agg (lfC z32 vv).toArray)=some (put W A.heap.size (.cells (lfC z32 vv).toArray 315 (0,0))):=qQo (by simp[lfC_len z];exact sz315) k1 (by simp[lfC_len z]) (by simpa using lfC_one z32 ov);have k2:=qQd (o:=.cells (lfC z32 vv).toArray 315 (0,0)) k1;have f2:=f1.put (b:=A.heap.size) (.cells (lfC z32 vv).toArray 315 (0,0)) fun h=>absurd h (yZ _);have b0:=bldLf vv ov;have ps:=pt_slice (P:=prog) (o:=0) arr76 sz5 x8 A.heap.size;simp only[go_sem,j7,yU,bSe,jV,qQk,Tryz.f237,T,d1,s1,b0,V,hW,I,ps];generalize put W A.heap.size (.cells (lfC z32 vv).toArray 315 (0,0))=w2 at *;have hc:=copy_mid (P:=prog) (ts:=#[22,22]) (t:=22) rfl slc22 sz5 (b:=A.heap.size) (o:=0) (a:=[]) (r:=[vv]) (d:=z32) rfl (n:=32) sm k2 (U.fr0 f2) M;refine qQj ⟨_,_,hc,?_⟩;rw[zA]at *;have k3:=qQd (o:=.cells ((l.take 32).map u8++[vv]).toArray 315 (0,0)) k2;have h3:(l.take 32).length=32:=by rw[lTk];omega
  have ld:=qQm (P:=prog) (t:=315) agg315 sz315 k3 (by simp;omega);have f3:=f2.put (b:=A.heap.size) (.cells ((l.take 32).map u8++[vv]).toArray 315 (0,0)) fun h=>absurd h (yZ _);simp only[go_sem,j7,ld];refine⟨f3,?_⟩;unfold RdN;rw[if_pos ⟨rfl,M⟩];exact⟨vv,rfl,ov,f8.fr0 f3⟩
 by_cases hB:kind=2/\l.length=80
 case neg =>
  have D:RdN A kind l .nilIface:=by unfold RdN;rw[if_neg hA,if_neg hB]
  by_cases h1:kind=1
  ·have d1:decide ((l.length:Int) ≥ 32)=false:=decide_eq_false fun h=>hA ⟨h1,x8⟩
   have T:((kind:Int) == 1)=true:=by rw[h1];rfl
   have Y:((kind:Int) == 2)=false:=by rw[h1];rfl
   simp only[go_sem,j7,bSe,qQq,jV,Tryz.f237,T,d1,Y];exact⟨Fr.refl _ _,D⟩
  ·have T:((kind:Int) == 1)=false:=by rw[f6,decide_eq_false h1]
   by_cases h2:kind=2
   ·have Y:((kind:Int) == 2)=true:=by rw[h2];rfl
    have d2:((l.length:Int) == 80)=false:=by rw[bFn];exact fun h=>hB ⟨h2,x8⟩
    simp only[go_sem,j7,bSe,qQq,jV,Tryz.f237,T,Y,d2];exact⟨Fr.refl _ _,D⟩
   ·have Y:((kind:Int) == 2)=false:=by rw[f7,decide_eq_false h2]
    simp only[go_sem,j7,qQq,jV,Tryz.f237,T,Y];exact⟨Fr.refl _ _,D⟩
 obtain⟨rfl,a7⟩:=hB;obtain⟨b,o,a6,e,_⟩:=U.pos x8;cases e;have T:(((2:Nat):Int) == 1)=false:=rfl;have Y:(((2:Nat):Int) == 2)=true:=rfl;have d2:((l.length:Int) == 80)=true:=by rw[a7];rfl
 have sl:∀ {k:Nat},k<=80->qQv prog 22 (.slice (some ⟨b,o,none⟩) l.length cap) (some (.int .i64 (k:Nat))) none none=some (cutV 1 (some ⟨b,o,none⟩) cap k l.length):=fun {k} hk=>slc_lo slc22 arr22 sz5 (l:=k) (n:=l.length) x8 R
 have cut:∀ {k:Nat},k<=80->By A (cutV 1 (some ⟨b,o,none⟩) cap k l.length) (l.drop k):=fun {k} hk=>by
  have:=By.slc U (l:=k) (m:=l.length) x8 (xC _)
  rwa [zB (by rw[lDr];omega)]at this
 have s4:=sl (k:=4) x8;have s8:=sl (k:=8) x8;have Z:=sl (k:=12) x8;have c4:=cut (k:=4) x8;have c8:=cut (k:=8) x8;have J:=cut (k:=12) x8;have s4:qQv prog 22 (.slice (some ⟨b,o,none⟩) l.length cap) (some (.int .i64 4)) none none=_:=s4;have s8:qQv prog 22 (.slice (some ⟨b,o,none⟩) l.length cap) (some (.int .i64 8)) none none=_:=s8;have Z:qQv prog 22 (.slice (some ⟨b,o,none⟩) l.length cap) (some (.int .i64 12)) none none=_:=Z;have H:∀ (w:World) {v:Value} {k:Nat},By A v (l.drop k)->k+4<=80->No A w->Fn prog 242 #[v] w fun v w'=>v=.int .i64 (nat4 l k)/\No w w':=fun w v k h hk f=>four w (h.fr0 f) (by rw[lDr];omega) (by rw[lDr];omega);have p0:By A (.slice (some ⟨b,o,none⟩) l.length cap) (l.drop 0):=U;have V:#[.int .i64 0,.int .i64 0]++bl (zG 32 0)++#[.int .i64 0,.int .i64 0]++bl (zG 32 0)=(cdC 0 0 z32++cdC 0 0 z32).toArray:=x9
 have z:z32.length=32:=sm
 have l1:((l.drop 16).take 32).length=32:=by rw[lTk,lDr];omega
 have l2:((l.drop 48).take 32).length=32:=by rw[lTk,lDr];omega
 simp only[go_sem,j7,bSe,qQq,jV,Tryz.f237,T,Y,d2];refine qXg (Q:=fun e ev w=>e=.normal/\∃ B,ev 1=.slice (some ⟨b,o,none⟩) l.length cap/\ev 6=pt B 0/\w.heap[B]?=some (.cells (cdC (nat4 l 0) (nat4 l 8) z32++cdC (nat4 l 4) (nat4 l 12) z32).toArray 320 (0,0))/\A.heap.size<=B/\No A w) _ (fun e ev w=>?_) ?_
 ·rintro⟨rfl,B,e1,e6,kt,n8,fw⟩
  have f9:=pt_slice (P:=prog) (o:=2) arr75 sz5 x8 B;have g1:=pt_slice (P:=prog) (o:=36) arr75 sz5 x8 B;have g4:qQv prog 22 (.slice (some ⟨b,o,none⟩) l.length cap) (some (.int .i64 16)) none none=_:=sl (k:=16) x8;have g5:qQv prog 22 (.slice (some ⟨b,o,none⟩) l.length cap) (some (.int .i64 48)) none none=_:=sl (k:=48) x8;have kd:w.drew.heap[B]?=some (.cells ([vU .i64 (nat4 l 0:Nat),vU .i64 (nat4 l 8:Nat)]++z32.map u8++cdC (nat4 l 4) (nat4 l 12) z32).toArray 320 (0,0)):=kt;have f2:∀ c:Array Value,No A (put w.drew B (.cells c 320 (0,0))):=fun c=>fw.drew.put (b:=B) _ fun h=>by omega
  have g6:=copy_mid (P:=prog) (ts:=#[22,22]) (t:=22) rfl slc22 sz5 (b:=B) (o:=2) (a:=[vU .i64 (nat4 l 0:Nat),vU .i64 (nat4 l 8:Nat)]) (d:=z32) rfl (n:=32) sm kd ((cut (k:=16) x8).fr0 fw.drew) (by rw[lDr];omega);have k2:=qQd (o:=.cells ([vU .i64 (nat4 l 0:Nat),vU .i64 (nat4 l 8:Nat)]++((l.drop 16).take 32).map u8++cdC (nat4 l 4) (nat4 l 12) z32).toArray 320 (0,0)) kd;have g2:=f2 ([vU .i64 (nat4 l 0:Nat),vU .i64 (nat4 l 8:Nat)]++((l.drop 16).take 32).map u8++cdC (nat4 l 4) (nat4 l 12) z32).toArray;simp only[go_sem,j7,yX,jV,e1,e6,f9,g4];refine qQj ⟨_,_,g6,?_⟩;generalize put w.drew B (.cells ([vU .i64 (nat4 l 0:Nat),vU .i64 (nat4 l 8:Nat)]++((l.drop 16).take 32).map u8++cdC (nat4 l 4) (nat4 l 12) z32).toArray 320 (0,0))=w2 at *
  have a8:w2.drew.heap[B]?=some (.cells ((cdC (nat4 l 0) (nat4 l 8) ((l.drop 16).take 32)++[vU .i64 (nat4 l 4:Nat),vU .i64 (nat4 l 12:Nat)])++z32.map u8++[]).toArray 320 (0,0)):=by
   show w2.heap[B]?=_;rw[k2];simp[cdC]
  have a9:=copy_mid (P:=prog) (ts:=#[22,22]) (t:=22) rfl slc22 sz5 (b:=B) (o:=36) (a:=cdC (nat4 l 0) (nat4 l 8) ((l.drop 16).take 32)++[vU .i64 (nat4 l 4:Nat),vU .i64 (nat4 l 12:Nat)]) (d:=z32) (by simp[cdC];omega) (n:=32) sm a8 ((cut (k:=48) x8).fr0 g2.drew) (by rw[lDr];omega);have e3:(cdC (nat4 l 0) (nat4 l 8) ((l.drop 16).take 32)++[vU .i64 (nat4 l 4:Nat),vU .i64 (nat4 l 12:Nat)])++((l.drop 48).take 32).map u8++[]=cdC (nat4 l 0) (nat4 l 8) ((l.drop 16).take 32)++cdC (nat4 l 4) (nat4 l 12) ((l.drop 48).take 32):=by simp[cdC]
  rw[e3]at a9;have k3:=qQd (o:=.cells (cdC (nat4 l 0) (nat4 l 8) ((l.drop 16).take 32)++cdC (nat4 l 4) (nat4 l 12) ((l.drop 48).take 32)).toArray 320 (0,0)) a8;have g3:=g2.drew.put (b:=B) (.cells (cdC (nat4 l 0) (nat4 l 8) ((l.drop 16).take 32)++cdC (nat4 l 4) (nat4 l 12) ((l.drop 48).take 32)).toArray 320 (0,0)) fun h=>by omega
  simp only[go_sem,j7,yX,Nat.reduceAdd,jV,e1,e6,g1,g5];refine qQj ⟨_,_,a9,?_⟩;have ld:=qQm (P:=prog) (t:=320) agg320 sz320 k3 (by simp[qZd l1,qZd l2]);simp only[go_sem,j7,e6,ld];refine⟨g3,?_⟩;unfold RdN;rw[if_neg x8,if_pos ⟨rfl,a7⟩]
  rfl
 have E:∀ w:World,No A w->∃ W,w.alloc (.cells (cdC 0 0 z32++cdC 0 0 z32).toArray 320)=W/\Ext w W/\No A W/\W.heap[w.heap.size]?=some (.cells (cdC 0 0 z32++cdC 0 0 z32).toArray 320 (0,0))/\A.heap.size<=w.heap.size:=fun w f=>by
  obtain⟨W5,g7,f5,k5,s5⟩:=qQl w (cdC 0 0 z32++cdC 0 0 z32).toArray 320;exact⟨W5,g7,f5.ext,f.trans f5,k5,f.size⟩
 have D:∀ (w:World) (B:Nat), No A w->w.heap[B]?=some (.cells (cdC 0 0 z32++cdC 0 0 z32).toArray 320 (0, 0))->A.heap.size<=B ->
   wrO prog 320 w B 0 (.agg (cdC (nat4 l 0) (nat4 l 8) z32++cdC (nat4 l 4) (nat4 l 12) z32).toArray)=some (put w B (.cells (cdC (nat4 l 0) (nat4 l 8) z32++cdC (nat4 l 4) (nat4 l 12) z32).toArray 320 (0,0))) /\
   (put w B (.cells (cdC (nat4 l 0) (nat4 l 8) z32++cdC (nat4 l 4) (nat4 l 12) z32).toArray 320 (0,0))).heap[B]?=some (.cells (cdC (nat4 l 0) (nat4 l 8) z32++cdC (nat4 l 4) (nat4 l 12) z32).toArray 320 (0,0))/\No A (put w B (.cells (cdC (nat4 l 0) (nat4 l 8) z32++cdC (nat4 l 4) (nat4 l 12) z32).toArray 320 (0,0))):=fun w B f k h =>
  ⟨qQo (by simp[qZd z];exact sz320) k (by simp[qZd z]) (by simp only[List.size_toArray,List.all_toArray',vX,cdC_one,vQ]),qQd (o:=.cells (cdC (nat4 l 0) (nat4 l 8) z32++cdC (nat4 l 4) (nat4 l 12) z32).toArray 320 (0,0)) k,f.put (b:=B) _ fun h'=>by omega⟩
 have a0:=bldCd (nat4 l 0) (nat4 l 8);have L:=bldCd (nat4 l 4) (nat4 l 12);have bb:=bldBr (nat4 l 0) (nat4 l 8) (nat4 l 4) (nat4 l 12);refine qXj (fun j=>j == 14) (.one 0 (.one 2 (.one 3 (.one 6 (.one 7 (.one 9 (.one 10 (.two 1 (.two 4 (.one 5 (.two 8 (.two 11 (.row [12,13,14,15]) 14 (.row [11,12,13,15])) 14 (.row [8,11,12,13,15]))) 14 (.row [4,5,8,11,12,13,15])) 14 (.row [1,4,5,8,11,12,13,15]))))))))) rfl x9 x9 ?_;have g0:No A A.drew:=(Fr.refl _ _).drew;generalize A.drew=w1 at *;obtain⟨V0,g8,x0,y0,v0,u0⟩:=E w1 g0;simp only[go_sem,j7,yX,yU,bSe,qQk,OT.row,s4,s8,Z,V,g8,x0];refine⟨?_,?_⟩
 ·refine qQc pl242 ((H w1 (k:=0) p0 x8 g0).mono ?_);rintro _ b1 ⟨rfl,g9⟩;refine⟨fun h=>absurd h j0,?_⟩
  have a3:=(g0).trans g9;obtain⟨h0,b3,h4,b4,h5,b5⟩:=E b1 a3;simp only[go_sem,j7,yU,bSe,qQk,V,b3,h4,implies_true];refine⟨?_,?_⟩
  ·refine qQc pl242 ((H b1 (k:=8) c8 x8 a3).mono ?_);rintro _ b6 ⟨rfl,h6⟩;refine⟨fun h=>absurd h j0,?_⟩
   have a4:=(a3).trans h6;obtain⟨h7,b7,h8,b8,h9,b9⟩:=E b6 a4;simp only[go_sem,j7,yX,yU,bSe,qQk,a0,V,b7,h8,implies_true];refine⟨?_,?_⟩
   ·refine qQc pl242 ((H b6 (k:=4) c4 x8 a4).mono ?_);rintro _ c0 ⟨rfl,k0⟩;refine⟨fun h=>absurd h j0,?_⟩
    have a5:=(a4).trans k0;obtain⟨k4,c3,k6,c5,k7,c6⟩:=E c0 a5;simp only[go_sem,j7,yU,bSe,qQk,V,c3,k6,implies_true];refine⟨?_,?_⟩
    ·refine qQc pl242 ((H c0 (k:=12) J x8 a5).mono ?_);rintro _ k8 ⟨rfl,k9⟩;refine⟨fun h=>absurd h j0,?_⟩
     have l0:=(a5).trans k9;obtain⟨n9,c7,l3,l4,l5,c9⟩:=E k8 l0;obtain⟨I,N,O⟩:=D _ _ l4 l5 c9;simp only[go_sem,j7,yX,yU,bSe,qQk,L,bb,V,c7,l3,implies_true,I];exact⟨_,rfl,N,c9,O⟩
    ·refine qQc pl242 ((H k4 (k:=12) J x8 c5).mono ?_);rintro _ p1 ⟨rfl,d0⟩;refine⟨fun h=>absurd h j0,?_⟩
     have l6:=(c5).trans d0;have l7:=d0.at k7 id;obtain⟨I,N,O⟩:=D _ _ l6 l7 c6;simp only[go_sem,j7,yX,L,bb,I];exact⟨_,rfl,N,c6,O⟩
   ·refine qQc pl242 ((H h7 (k:=4) c4 x8 b8).mono ?_);rintro _ l8 ⟨rfl,d3⟩;refine⟨fun h=>absurd h j0,?_⟩
    have d4:=(b8).trans d3;have l9:=d3.at h9 id;simp only[go_sem,j7];refine qQc pl242 ((H l8 (k:=12) J x8 d4).mono ?_);rintro _ p2 ⟨rfl,d5⟩;refine⟨fun h=>absurd h j0,?_⟩;have m0:=(d4).trans d5;have m1:=d5.at l9 id;obtain⟨I,N,O⟩:=D _ _ m0 m1 b9;simp only[go_sem,j7,yX,L,bb,I];exact⟨_,rfl,N,b9,O⟩
  ·refine qQc pl242 ((H h0 (k:=8) c8 x8 b4).mono ?_);rintro _ m2 ⟨rfl,d6⟩;refine⟨fun h=>absurd h j0,?_⟩
   have d7:=(b4).trans d6;have m3:=d6.at h5 id;simp only[go_sem,j7,yX,a0];refine qQc pl242 ((H m2 (k:=4) c4 x8 d7).mono ?_);rintro _ m4 ⟨rfl,d8⟩;refine⟨fun h=>absurd h j0,?_⟩;have d9:=(d7).trans d8;have m5:=d8.at m3 id;simp only[go_sem,j7];refine qQc pl242 ((H m4 (k:=12) J x8 d9).mono ?_);rintro _ p3 ⟨rfl,e0⟩;refine⟨fun h=>absurd h j0,?_⟩;have m6:=(d9).trans e0;have m7:=e0.at m5 id;obtain⟨I,N,O⟩:=D _ _ m6 m7 b5;simp only[go_sem,j7,yX,L,bb,I];exact⟨_,rfl,N,b5,O⟩
 ·refine qQc pl242 ((H V0 (k:=0) p0 x8 y0).mono ?_);rintro _ m8 ⟨rfl,e2⟩;refine⟨fun h=>absurd h j0,?_⟩
  have e4:=(y0).trans e2;have m9:=e2.at v0 id;simp only[go_sem,j7];refine qQc pl242 ((H m8 (k:=8) c8 x8 e4).mono ?_);rintro _ n0 ⟨rfl,e5⟩;refine⟨fun h=>absurd h j0,?_⟩;have e7:=(e4).trans e5;have n3:=e5.at m9 id;simp only[go_sem,j7,yX,a0];refine qQc pl242 ((H n0 (k:=4) c4 x8 e7).mono ?_);rintro _ n4 ⟨rfl,e8⟩;refine⟨fun h=>absurd h j0,?_⟩;have e9:=(e7).trans e8;have n5:=e8.at n3 id;simp only[go_sem,j7];refine qQc pl242 ((H n4 (k:=12) J x8 e9).mono ?_);rintro _ p4 ⟨rfl,f0⟩;refine⟨fun h=>absurd h j0,?_⟩;have n6:=(e9).trans f0;have n7:=f0.at n5 id;obtain⟨I,N,O⟩:=D _ _ n6 n7 u0;simp only[go_sem,j7,yX,L,bb,I];exact⟨_,rfl,N,u0,O⟩
end A
end
section
open Go.Proofs
namespace A
open Aud
def ndC (kind l r lc rc:Nat)(ls rs k:Bs)(vv:Value):List Value :=
 [.int .i64 (kind:Nat),.int .i64 (l:Nat),.int .i64 (r:Nat),.int .i64 (lc:Nat),.int .i64 (rc:Nat)]++ls.map u8++rs.map u8++k.map u8++[vv]
def ndA:Nd->Value->List Value
 | .leaf k _,vv=>ndC 1 0 0 0 0 z32 z32 k vv
 | .br A B lc rc ls rs,vv=>ndC 2 A B lc rc ls rs z32 vv
def ndVal:Nd->Bs
 | .leaf _ v=>v
 | .br _ _ _ _ _ _=>[]
abbrev nd0:List Value:=ndC 0 0 0 0 0 z32 z32 z32 (.slice none 0 0)
theorem qQu {kind l r lc rc:Nat}(A:ls.length=32)(B:rs.length=32)(D:k.length=32)(vv:Value):(ndC kind l r lc rc ls rs k vv).length=102:=by simp[ndC,A,B,D]
theorem qXz (kind l r lc rc:Nat)(ls rs k:Bs)(h:one vv=true):(ndC kind l r lc rc ls rs k vv).all one=true:=by
 simp only[ndC,vX,qXy,vJ,h,vV,y9];rfl
theorem z32l:z32.length=32:=sm
theorem qKk:#[.int .i64 0,.int .i64 0,.int .i64 0,.int .i64 0,.int .i64 0]++bl (zG 96 0)++#[.slice none 0 0]=nd0.toArray:=x9
theorem bldNd0:bldO prog 78 []=some (.agg nd0.toArray):=by
 rw[qJp zero78 places78 (c:=nd0.toArray) x9];rfl
def ndPs:List (Nat × Nat):=[(0,1),(1,1),(2,1),(3,1),(4,1),(5,32),(37,32),(69,32),(101,1)]
theorem ndPlaces:qXh prog 78=some ndPs:=x9
theorem bldLeaf (A:k.length=32)(D:one vv=true):bldO prog 78 [(0,.int .i64 1),(7,dg k),(8,vv)]=some (.agg (ndC 1 0 0 0 0 z32 z32 k vv).toArray):=by
 rw[qJp zero78 ndPlaces (c:=nd0.toArray) x9];have E:=qJb (ps:=fun i=>ndPs[i]?) (i:=0) (o:=0) (a:=[]) (r:=(ndC 0 0 0 0 0 z32 z32 z32 (.slice none 0 0)).drop 1) (u:=.int .i64 0) (v:=.int .i64 1) (rest:=[(7,dg k),(8,vv)]) rfl rfl rfl;have H:=qKa (ps:=fun i=>ndPs[i]?) (i:=7) (o:=69) (n:=32) (a:=[.int .i64 1,.int .i64 0,.int .i64 0,.int .i64 0,.int .i64 0]++z32.map u8++z32.map u8) (m:=z32.map u8) (r:=[.slice none 0 0]) (vs:=k.map u8) (rest:=[(8,vv)]) rfl sm sm (by simp[A]);have B:=qJb (ps:=fun i=>ndPs[i]?) (i:=8) (o:=101) (a:=[.int .i64 1,.int .i64 0,.int .i64 0,.int .i64 0,.int .i64 0]++z32.map u8++z32.map u8++k.map u8) (r:=[]) (u:=.slice none 0 0) (v:=vv) (rest:=[]) rfl (by simp[A]) D;rw[qXq]at B;exact congrArg (yY vG) ((E.trans H).trans B)
theorem bldBranch (B:ls.length=32)(D:rs.length=32)(l r lc rc:Nat):bldO prog 78 [(0,.int .i64 2),(1,.int .i64 (l:Nat)),(2,.int .i64 (r:Nat)),(3,.int .i64 (lc:Nat)),(4,.int .i64 (rc:Nat)),(5,dg ls),(6,dg rs)]=some (.agg (ndC 2 l r lc rc ls rs z32 (.slice none 0 0)).toArray):=by
 rw[qJp zero78 ndPlaces (c:=nd0.toArray) x9];have U:nd0.drop 5=z32.map u8++z32.map u8++z32.map u8++[.slice none 0 0]:=rfl;have s:∀ (i:Nat) (a r:List Value) (u v:Value) (rest:List (Nat × Value)),ndPs[i]?=some (i,1)->a.length=i->one v=true->Instr.fill (fun i=>ndPs[i]?) (a++u::r).toArray ((i,v)::rest)=Instr.fill (fun i=>ndPs[i]?) (a++v::r).toArray rest:=fun i a r u v rest E H I=>qJb E H I;have J:=s 0 [] (nd0.drop 1) (.int .i64 0) (.int .i64 2) [(1,.int .i64 (l:Nat)),(2,.int .i64 (r:Nat)),(3,.int .i64 (lc:Nat)),(4,.int .i64 (rc:Nat)),(5,dg ls),(6,dg rs)] rfl rfl rfl;have L:=s 1 [.int .i64 2] (nd0.drop 2) (.int .i64 0) (.int .i64 (l:Nat)) [(2,.int .i64 (r:Nat)),(3,.int .i64 (lc:Nat)),(4,.int .i64 (rc:Nat)),(5,dg ls),(6,dg rs)] rfl rfl rfl;have M:=s 2 [.int .i64 2,.int .i64 (l:Nat)] (nd0.drop 3) (.int .i64 0) (.int .i64 (r:Nat)) [(3,.int .i64 (lc:Nat)),(4,.int .i64 (rc:Nat)),(5,dg ls),(6,dg rs)] rfl rfl rfl;have N:=s 3 [.int .i64 2,.int .i64 (l:Nat),.int .i64 (r:Nat)] (nd0.drop 4) (.int .i64 0) (.int .i64 (lc:Nat)) [(4,.int .i64 (rc:Nat)),(5,dg ls),(6,dg rs)] rfl rfl rfl;have O:=s 4 [.int .i64 2,.int .i64 (l:Nat),.int .i64 (r:Nat),.int .i64 (lc:Nat)] (nd0.drop 5) (.int .i64 0) (.int .i64 (rc:Nat)) [(5,dg ls),(6,dg rs)] rfl rfl rfl;have R:=qKa (ps:=fun i=>ndPs[i]?) (i:=5) (o:=5) (n:=32) (a:=[.int .i64 2,.int .i64 (l:Nat),.int .i64 (r:Nat),.int .i64 (lc:Nat),.int .i64 (rc:Nat)]) (m:=z32.map u8) (r:=z32.map u8++z32.map u8++[.slice none 0 0]) (vs:=ls.map u8) (rest:=[(6,dg rs)]) rfl rfl sm (by simp[B]);have A:=qKa (ps:=fun i=>ndPs[i]?) (i:=6) (o:=37) (n:=32) (a:=[.int .i64 2,.int .i64 (l:Nat),.int .i64 (r:Nat),.int .i64 (lc:Nat),.int .i64 (rc:Nat)]++ls.map u8) (m:=z32.map u8) (r:=z32.map u8++[.slice none 0 0]) (vs:=rs.map u8) (rest:=[]) rfl (by simp[B]) sm (by simp[D])
 rw[qXq]at A;have e:([vU .i64 2,.int .i64 (l:Nat),.int .i64 (r:Nat),.int .i64 (lc:Nat),.int .i64 (rc:Nat)]++ls.map u8)++z32.map u8++(z32.map u8++[.slice none 0 0])=[vU .i64 2,.int .i64 (l:Nat),.int .i64 (r:Nat),.int .i64 (lc:Nat),.int .i64 (rc:Nat)]++ls.map u8++(z32.map u8++z32.map u8++[.slice none 0 0]):=by simp only[List.append_assoc]
 rw[e]at A;have T:([vU .i64 2,.int .i64 (l:Nat),.int .i64 (r:Nat),.int .i64 (lc:Nat),.int .i64 (rc:Nat)]++ls.map u8)++rs.map u8++(z32.map u8++[.slice none 0 0])=ndC 2 l r lc rc ls rs z32 (.slice none 0 0):=by simp only[ndC,List.append_assoc];rfl
 rw[T]at A;exact congrArg (yY vG) ((((((J.trans L).trans M).trans N).trans O).trans R).trans A)
def NdM (A w:World)(n:Nd)(v:Value):Prop:=∃ vv,v=.agg (ndA n vv).toArray/\one vv=true/\NwB A w vv (ndVal n)/\(n.kind=2->vv=.slice none 0 0)
theorem nodeOfLeaf (A:World)(B:k.length=32)(ov:one vv=true)(hv:By A vv val)(hl:val.length<=2 ^ 40):Fn prog 238 #[lfV k vv] A fun v w'=>No A w'/\NdM A w' (.leaf k val) v:=by
 refine go238 sm ?_;obtain⟨W,hW,f1,V,s1⟩:=qQl A nd0.toArray 78;obtain⟨I,J,Y,Z,s2⟩:=qQl W (lfC z32 (.slice none 0 0)).toArray 315;have zz:bl (zG 32 0)++#[.slice none 0 0]=(lfC z32 (.slice none 0 0)).toArray:=x9
 have q1:wrO prog 315 I W.heap.size 0 (.agg (lfC k vv).toArray)=some (put I W.heap.size (.cells (lfC k vv).toArray 315 (0,0))):=qQo (by simp[lfC_len B];exact sz315) Z (by simp[lfC_len B,lfC_len z32l]) (by simpa using lfC_one k ov);have L:=qQd (o:=.cells (lfC k vv).toArray 315 (0,0)) Z;have M:=qQh (b:=W.heap.size) (o:=.cells (lfC k vv).toArray 315 (0,0)) (Y.at V id) x8;have f3:=(f1.trans Y).put (b:=W.heap.size) (.cells (lfC k vv).toArray 315 (0,0)) fun h=>by omega
 have N:lfV k vv=.iface 315 (.agg (lfC k vv).toArray):=rfl;simp only[go_sem,j7,yU,qQk,Tryz.f238,qKk,hW,N,if_true,zz,J,q1];generalize put I W.heap.size (.cells (lfC k vv).toArray 315 (0,0))=D at *;have rk:rdO prog 76 D.drew W.heap.size 0=some (dg k):=qKb (a:=[]) (m:=k.map u8) (r:=[vv]) (w:=D.drew) agg76 (by simp[B];exact sz76) (by simp[B]) L rfl;have rv:rdO prog 22 D.drew W.heap.size 32=some vv:=rd_one (a:=k.map u8) (r:=[]) (w:=D.drew) agg22 L (by simp[B]);obtain⟨E,H,O,R,f5,g5,m5⟩:=NwB.catB (P:=prog) app22_22 (NwB.nil A D.drew) (hv.fr0 f3.drew) (by simp;omega) f3.drew;rw[zA]at R;have T:one E=true:=by obtain⟨a,c,rfl⟩:=R.slice;rfl
 refine qXj (fun j=>j == 4) (.row [0,2,1,3,4,5,6]) rfl x9 x9 ?_;simp only[go_sem,j7,yX,jV,OT.row,rk,rv];refine qXf ⟨E,H,O,?_⟩;refine⟨fun _=>(g5.mono (G:=fun _=>False) fun b _ h=>by cases h).ext,?_⟩;have k5:H.heap[A.heap.size]?=_:=g5.at (show D.drew.heap[A.heap.size]?=_ from M) (by simp[qQf]);have U:=bldLeaf B T;have q6:wrO prog 78 H A.heap.size 0 (.agg (ndC 1 0 0 0 0 z32 z32 k E).toArray)=some (put H A.heap.size (.cells (ndC 1 0 0 0 0 z32 z32 k E).toArray 78 (0,0))):=qQo (by simp[qQu z32l z32l B];exact sz78) k5 (by simp[qQu z32l z32l B,qQu z32l z32l z32l]) (by simpa using qXz 1 0 0 0 0 z32 z32 k T);have k6:=qQd (o:=.cells (ndC 1 0 0 0 0 z32 z32 k E).toArray 78 (0,0)) k5;have ld:=qQm (P:=prog) (t:=78) agg78 sz78 k6 (by simp[qQu z32l z32l B]);simp only[go_sem,j7,yX,U,q6,ld,implies_true];have h0:A.heap.size<W.heap.size:=qQi V;have a0:W.heap.size<D.heap.size:=qQi L;refine⟨f5.put (b:=A.heap.size) _ fun h=>absurd h (yZ _),E,rfl,T,R.put _ fun c hc=>?_,fun h=>by cases h⟩
 rcases m5 c hc with h | h
 ·cases h
 ·have h:D.heap.size<=c:=h
  omega
end A
end
section
open Go.Proofs
namespace A
open Aud
def NoR (B:World)(A:Nat)(D E:List Value)(H I J:Value)(w:World):Prop :=
 ∃ a b,H=pt A 0/\I=pt a 0/\J=pt b 0/\w.heap[a]?=some (.cells D.toArray 318 (0,0))/\w.heap[b]?=some (.cells E.toArray 318 (0,0))/\w.heap[A]?=some (.cells nd0.toArray 78 (0,0))/\No B w
theorem nodeOfBranch (E:World)(I lc J rc:Nat)(T:ls.length=32)(U:rs.length=32):Fn prog 238 #[brV I lc ls J rc rs] E fun v w'=>No E w'/\NdM E w' (.br I J lc rc ls rs) v:=by
 refine go238 sm ?_;obtain⟨W,hW,f1,k1,s1⟩:=qQl E nd0.toArray 78;obtain⟨W2,a0,f2,k2,s2⟩:=qQl W (cdC 0 0 z32++cdC 0 0 z32).toArray 320;have zz:#[.int .i64 0,.int .i64 0]++bl (zG 32 0)++#[.int .i64 0,.int .i64 0]++bl (zG 32 0)=(cdC 0 0 z32++cdC 0 0 z32).toArray:=x9
 have zc:#[.int .i64 0,.int .i64 0]++bl (zG 32 0)=(cdC 0 0 z32).toArray:=x9
 generalize M:cdC I lc ls=B;generalize N:cdC J rc rs=D;have H:B.length=34:=by rw[<- M];exact qZd T _ _
 have L:D.length=34:=by rw[<- N];exact qZd U _ _
 have V:B.all one=true:=by rw[<- M];exact cdC_one _ _ _
 have Y:D.all one=true:=by rw[<- N];exact cdC_one _ _ _
 have q1:wrO prog 320 W2 W.heap.size 0 (.agg (B++D).toArray)=some (put W2 W.heap.size (.cells (B++D).toArray 320 (0,0))):=qQo (by simp[H,L];exact sz320) k2 (by simp[H,L,qZd z32l]) (by simp only[List.size_toArray,List.all_toArray',vX,V,Y,vQ]);have Z:=qQd (o:=.cells (B++D).toArray 320 (0,0)) k2;have O:=qQh (b:=W.heap.size) (o:=.cells (B++D).toArray 320 (0,0)) (f2.at k1 id) x8;have f3:=(f1.trans f2).put (b:=W.heap.size) (.cells (B++D).toArray 320 (0,0)) fun h=>by omega
 have a3:brV I lc ls J rc rs=.iface 320 (.agg (B++D).toArray):=by unfold brV;rw[M,N]
 simp only[go_sem,j7,yU,qQk,Tryz.f238,qKk,hW,a3,if_true,zz,a0,q1];generalize put W2 W.heap.size (.cells (B++D).toArray 320 (0,0))=A at *;generalize a6:W.heap.size=tb at *;have a7:E.heap.size≠tb:=by have:=qQi k1;omega
 refine qXg (Q:=fun e ev w=>e=.normal/\NoR E E.heap.size B D (ev 2) (ev 5) (ev 6) w) _ (fun e ev w=>?_) ?_
 ·rintro⟨rfl,a,b,e2,e5,e6,ka,kb,kr,fw⟩
  subst M N;have r1:rdO prog 3 w a 0=some (.int .i64 (I:Nat)):=rd1 agg3 ka rfl;have r2:rdO prog 3 w b 0=some (.int .i64 (J:Nat)):=rd1 agg3 kb rfl;have r3:rdO prog 3 w a 1=some (.int .i64 (lc:Nat)):=rd1 agg3 ka rfl;have r4:rdO prog 3 w b 1=some (.int .i64 (rc:Nat)):=rd1 agg3 kb rfl;have r5:rdO prog 75 w a 2=some (dg ls):=qKb (a:=[.int .i64 (I:Nat),.int .i64 (lc:Nat)]) (m:=ls.map u8) (r:=[]) agg75 (by simp[T];exact sz75) (by simp[T]) (by rw[z4];exact ka) rfl;have r6:rdO prog 75 w b 2=some (dg rs):=qKb (a:=[.int .i64 (J:Nat),.int .i64 (rc:Nat)]) (m:=rs.map u8) (r:=[]) agg75 (by simp[U];exact sz75) (by simp[U]) (by rw[z4];exact kb) rfl;have bb:=bldBranch T U I J lc rc;have q6:wrO prog 78 w E.heap.size 0 (.agg (ndC 2 I J lc rc ls rs z32 (.slice none 0 0)).toArray)=some (put w E.heap.size (.cells (ndC 2 I J lc rc ls rs z32 (.slice none 0 0)).toArray 78 (0,0))):=qQo (by simp[qQu T U z32l];exact sz78) kr (by simp[qQu T U z32l,qQu z32l z32l z32l]) (by simpa using qXz 2 I J lc rc ls rs z32 (vv:=.slice none 0 0) rfl);have k6:=qQd (o:=.cells (ndC 2 I J lc rc ls rs z32 (.slice none 0 0)).toArray 78 (0,0)) kr;have ld:=qQm (P:=prog) (t:=78) agg78 sz78 k6 (by simp[qQu T U z32l]);simp only[go_sem,j7,jV,e2,e5,e6,r1,r2,r3,r4,r5,r6,bb,q6,ld];exact⟨fw.put (b:=E.heap.size) _ fun h=>absurd h (yZ _),.slice none 0 0,rfl,rfl,NwB.nil _ _,fun _=>rfl⟩
 refine qXj (fun j=>j == 4 || j == 5) (.one 0 (.one 2 (.one 1 (.tri 3 (.two 4 (.row [5,6,7]) 5 (.row [4,6,7])) 4 (.two 3 (.row [5,6,7]) 5 (.two 3 (.row [6,7]) 6 (.row [3,7]))) 5 (.two 3 (.row [4,6,7]) 4 (.two 3 (.row [6,7]) 6 (.row [3,7]))))))) rfl x9 x9 ?_
 replace f3:=f3.drew
 have Z:A.drew.heap[tb]?=_:=Z;have O:A.drew.heap[E.heap.size]?=_:=O;generalize A.drew=A at *;obtain⟨A1,a4,g1,a1,t1⟩:=qQl A (cdC 0 0 z32).toArray 318;obtain⟨R,a5,g2,a2,t2⟩:=qQl A1 (cdC 0 0 z32).toArray 318;have hn:A1.heap.size=A.heap.size+1:=t1;rw[hn]at a2;have b1:=g2.at a1 id
 have rd:∀ W:World,W.heap[tb]?=some (.cells (B++D).toArray 320 (0,0))->rdO prog 318 W tb 0=some (.agg B.toArray)/\rdO prog 318 W tb 34=some (.agg D.toArray):=fun W k =>
  ⟨qKb (a:=[]) (m:=B) (r:=D) agg318 (by rw[H];exact sz318) x8 k rfl,qKb (a:=B) (m:=D) (r:=[]) agg318 (by rw[L];exact sz318) x8 (by rw[z4];exact k) H⟩
 have wr:∀ (W:World) (n:Nat) (c:List Value),W.heap[n]?=some (.cells (cdC 0 0 z32).toArray 318 (0,0))->c.length=34->c.all one=true->wrO prog 318 W n 0 (.agg c.toArray)=some (put W n (.cells c.toArray 318 (0,0))):=fun W n c k h o =>
  qQo (by simp[h];exact sz318) k (by simp[h,qZd z32l]) (by simpa using o)
 have h3:=qQi Z;have h0:=qQi O;obtain⟨x1,y1⟩:=rd A Z;obtain⟨x2,y2⟩:=rd A1 (g1.at Z id);obtain⟨x3,y3⟩:=rd R (g2.at (g1.at Z id) id);have kA:=g2.at (g1.at Z id) id;have kR:=g2.at (g1.at O id) id;have fA:=(f3.trans g1).trans g2;obtain⟨_,y4⟩:=rd (put R A.heap.size (.cells B.toArray 318 (0,0))) (qQh kA x8);obtain⟨_,y5⟩:=rd (put R (A.heap.size+1) (.cells B.toArray 318 (0,0))) (qQh kA x8);have u1:=wr R A.heap.size B b1 H V;have u2:=wr R (A.heap.size+1) B a2 H V;have u3:=wr (put R A.heap.size (.cells B.toArray 318 (0,0))) (A.heap.size+1) D (qQh a2 x8) L Y;have u4:=wr (put R (A.heap.size+1) (.cells B.toArray 318 (0,0))) A.heap.size D (qQh b1 x8) L Y
 have l1:NoR E E.heap.size B D (pt E.heap.size 0) (pt A.heap.size 0) (pt (A.heap.size+1) 0) (put (put R A.heap.size (.cells B.toArray 318 (0,0))) (A.heap.size+1) (.cells D.toArray 318 (0,0))) :=
  ⟨_,_,rfl,rfl,rfl,qQh (qQd b1) x8,qQd (qQh (o:=.cells B.toArray 318 (0,0)) a2 (show A.heap.size≠A.heap.size+1 by omega)),qQh (qQh kR x8) x8,(fA.put (b:=A.heap.size) _ fun h=>by omega).put (b:=A.heap.size+1) _ fun h=>by omega⟩
 have l2:NoR E E.heap.size B D (pt E.heap.size 0) (pt (A.heap.size+1) 0) (pt A.heap.size 0) (put (put R (A.heap.size+1) (.cells B.toArray 318 (0,0))) A.heap.size (.cells D.toArray 318 (0,0))) :=
  ⟨_,_,rfl,rfl,rfl,qQh (qQd a2) x8,qQd (qQh (o:=.cells B.toArray 318 (0,0)) b1 (show A.heap.size+1≠A.heap.size by omega)),qQh (qQh kR x8) x8,(fA.put (b:=A.heap.size+1) _ fun h=>by omega).put (b:=A.heap.size) _ fun h=>by omega⟩
 have e1:=g1.ext;have e2:=g2.ext;simp only[go_sem,j7,yX,yU,bSe,jV,qQk,OT.row,zc,a4,a5,hn,e1,e2,x1,y1,y2,y3,y4,y5,u1,u2,u3,u4,l1,l2,implies_true,and_self,true_and]
theorem isC_c (v:Value):isC (.const v)=true:=rfl
def DeQ (A:World)(r:Option Nd)(v:Value)(w':World):Prop:=No A w'/\match r with
 | none=>v=.tuple #[.agg nd0.toArray,.int .i64 90]
 | some n=>∃ x,v=.tuple #[x,.int .i64 0]/\NdM A w' n x
theorem methLf : methO prog 315 "ledger/node.stands" = some 246 := by kernel_rfl
theorem methBr : methO prog 320 "ledger/node.stands" = some 249 := by kernel_rfl
theorem decode (B:World)(kind:Nat){l:Bs}(hp:By B p l)(hl:l.length<=2 ^ 40):Fn prog 233 #[.int .i64 (kind:Nat),p] B (DeQ B (decN kind l)):=by
 refine go233 sm ?_;obtain⟨W,hW,f1,k1,s1⟩:=qQl B nd0.toArray 78
 have D:∀ (w:World) (c:List Value), No B w->w.heap[B.heap.size]?=some (.cells nd0.toArray 78 (0, 0))->c.length=102->c.all one=true ->
   wrO prog 78 w B.heap.size 0 (.agg c.toArray)=some (put w B.heap.size (.cells c.toArray 78 (0,0)))/\rdO prog 78 (put w B.heap.size (.cells c.toArray 78 (0,0))) B.heap.size 0=some (.agg c.toArray)/\No B (put w B.heap.size (.cells c.toArray 78 (0,0))):=fun w c f k h5 ho =>
  ⟨qQo (by simp[h5];exact sz78) k (by simp[h5,qQu z32l z32l z32l]) (by simpa using ho),qKs agg78 (by simp[h5];exact sz78) (qQd (o:=.cells c.toArray 78 (0,0)) k),f.put (b:=B.heap.size) _ fun h=>absurd h (yZ _)⟩
 simp only[go_sem,j7,yU,jV,qQk,Tryz.f233,qKk,hW];refine qQa pl237 ((read W kind (hp.fr0 f1) hl).mono ?_);rintro v w2 ⟨f2,L⟩;have M:=f1.trans f2;have k2:=f2.at k1 id;unfold RdN at L;unfold decN
 by_cases hA:kind=1/\32<=l.length
 ·rw[if_pos hA]at L
  obtain⟨vv,rfl,ov,hv⟩:=L;obtain⟨rfl,a0⟩:=hA;have hk:(l.take 32).length=32:=by rw[lTk];omega
  rw[if_pos rfl];have E:lfV (l.take 32) vv=.iface 315 (.agg (lfC (l.take 32) vv).toArray):=rfl;simp only[go_sem,j7,bSe,E,methLf];refine qQa pl246 ((leafStands w2 hk hv).mono ?_);rintro _ T ⟨rfl,R⟩;rw[<- E];have A:=M.trans R;have N:=R.at k2 id;have lv:(l.drop 32).length=l.length - 32:=lDr
  by_cases O:(l.drop 32).length<=128
  case neg =>
   obtain⟨H,I,J⟩:=D T nd0 A N (qQu z32l z32l z32l _) (qXz _ _ _ _ _ _ _ _ rfl);rw[decide_eq_false O,if_neg x8];simp only[go_sem,j7,bSe,xH,bldNd0,H,I];exact⟨J,rfl⟩
  rw[decide_eq_true O,if_pos ⟨a0,x8⟩];simp only[go_sem,j7,bSe,y8];refine qQa pl238 ((nodeOfLeaf T hk ov (hv.fr0 R) x8).mono ?_);rintro _ w4 ⟨U,V,rfl,Y,Z,e5⟩;obtain⟨H,I,J⟩:=D w4 (ndA (.leaf (l.take 32) (l.drop 32)) V) (A.trans U) (U.at N id) (qQu z32l z32l hk _) (qXz _ _ _ _ _ _ _ _ Y);have h3:=qQi N;simp only[go_sem,j7,H,I];exact⟨J,_,rfl,V,rfl,Y,(Z.put _ fun c hc=>by have:=(NwB.lt Z hc).1;omega).back A.size,e5⟩
 rw[if_neg hA]at L
 by_cases hB:kind=2/\l.length=80
 case neg =>
  rw[if_neg hB]at L;subst L;obtain⟨H,I,J⟩:=D w2 nd0 M k2 (qQu z32l z32l z32l _) (qXz _ _ _ _ _ _ _ _ rfl)
  have e:(if kind=1 then (if 32<=l.length/\l.length<=160 then some (Nd.leaf (l.take 32) (l.drop 32)) else none)
   else if kind=2/\l.length=80/\brR (nat4 l 0) (nat4 l 4) (nat4 l 8) (nat4 l 12) ((l.drop 16).take 32) ((l.drop 48).take 32) then some (Nd.br (nat4 l 0) (nat4 l 4) (nat4 l 8) (nat4 l 12) ((l.drop 16).take 32) ((l.drop 48).take 32))
   else none)=none:=by
   by_cases h1:kind=1
   ·rw[if_pos h1,if_neg fun h=>hA ⟨h1,h.1⟩]
   ·rw[if_neg h1,if_neg fun h=>hB ⟨h.1,h.2.1⟩]
  rw[e];simp only[go_sem,j7,qXd,isC_c,Bool.or_true,if_true,bldNd0,H,I];exact⟨J,rfl⟩
 rw[if_pos hB]at L;subst L;obtain⟨rfl,a3⟩:=hB;have l1:((l.drop 16).take 32).length=32:=by rw[lTk,lDr];omega
 have l2:((l.drop 48).take 32).length=32:=by rw[lTk,lDr];omega
 have b4:∀ k,nat4 l k<2 ^ 32:=fun k=>by
  have:=le_small (b:=(l.drop k).take 4) (n:=4) (by rw[lTk];omega);exact this
 have E:brV (nat4 l 0) (nat4 l 8) ((l.drop 16).take 32) (nat4 l 4) (nat4 l 12) ((l.drop 48).take 32)=.iface 320 (.agg (cdC (nat4 l 0) (nat4 l 8) ((l.drop 16).take 32)++cdC (nat4 l 4) (nat4 l 12) ((l.drop 48).take 32)).toArray):=rfl;rw[if_neg j0];simp only[go_sem,j7,bSe,E,methBr];refine qQa pl249 ((brStands w2 _ _ _ _ l1 l2 (b4 _) (b4 _)).mono ?_);rintro _ T ⟨rfl,R⟩;rw[<- E];have A:=M.trans R;have N:=R.at k2 id
 by_cases O:brR (nat4 l 0) (nat4 l 4) (nat4 l 8) (nat4 l 12) ((l.drop 16).take 32) ((l.drop 48).take 32)
 case neg =>
  obtain⟨H,I,J⟩:=D T nd0 A N (qQu z32l z32l z32l _) (qXz _ _ _ _ _ _ _ _ rfl);rw[decide_eq_false O,if_neg fun h=>O h.2];simp only[go_sem,j7,bSe,xH,bldNd0,H,I];exact⟨J,rfl⟩
 rw[decide_eq_true O,if_pos ⟨a3,O⟩];simp only[go_sem,j7,bSe,y8];refine qQa pl238 ((nodeOfBranch T _ _ _ _ l1 l2).mono ?_);rintro _ w4 ⟨U,V,rfl,Y,Z,e5⟩;obtain⟨H,I,J⟩:=D w4 (ndA (.br (nat4 l 0) (nat4 l 4) (nat4 l 8) (nat4 l 12) ((l.drop 16).take 32) ((l.drop 48).take 32)) V) (A.trans U) (U.at N id) (qQu l1 l2 z32l _) (qXz _ _ _ _ _ _ _ _ Y);have h3:=qQi N;simp only[go_sem,j7,H,I];exact⟨J,_,rfl,V,rfl,Y,(Z.put _ fun c hc=>by have:=(NwB.lt Z hc).1;omega).back A.size,e5⟩
end A
end
section
open Go.Proofs Sha
def em0I (A:World)(B:Nat)(D:World)(n:Nat)(vs:List Value)(w:World):Prop:=vs=[pt A.heap.size 0,pt B 0,.int .i64 0,.int .i64 0]/\w=D
theorem empty0 (A:World)(R:Tabs A)(width:Int):Fn prog 159 #[.int .i64 width,.int .i64 0] A fun v w'=>v=dg (emptD width 0)/\No A w':=by
 refine go159 sm ?_;have H:No A (A.alloc (.cells (bl (zG 32 0)) 75)):=(Fr.refl _ _).alloc _;have T:(A.alloc (.cells (bl (zG 32 0)) 75)).heap[A.heap.size]?=some (.cells (bl (zG 32 0)) 75 (0,0)):=qQb _ _;have U:(A.alloc (.cells (bl (zG 32 0)) 75)).heap.size=A.heap.size+1:=qQg _ _;simp only[go_sem,Tryz.f159,yU,qQk];generalize A.alloc (.cells (bl (zG 32 0)) 75)=W at *;refine qQn (v:=.slice (some ⟨W.heap.size,0,none⟩) 1 1) (w':=W.alloc (.cells (bl [2]) 5)) (by rw[<- U];rfl) ?_;have I:=H.alloc (.cells (bl [2]) 5);have V:NwB A (W.alloc (.cells (bl [2]) 5)) (.slice (some ⟨W.heap.size,0,none⟩) 1 1) [2]:=mk_nw A W 5 1 1 1 (bl [2]) H.size rfl (xC _);have Y:=qQs (o:=.cells (bl [2]) 5) T;generalize W.alloc (.cells (bl [2]) 5)=Z at *;simp only[go_sem];refine qQa pl181 ((dsum Z (R.no I) V.by sm).mono ?_);rintro _ w3 ⟨rfl,J⟩;simp only[go_sem,j7];refine qQa pl180 ((dcut w3 width (sum_len [2])).mono ?_);rintro _ B ⟨rfl,L⟩;have he:cutD width (Sha.sum [2])=emptD width 0:=rfl;rw[he];have D:=qQy width 0;have M:=L.at (J.at Y id) id;have E:=(I.trans J).trans L;have q:=wr_d sz75 (qQb B (.cells (bl (zG 32 0)) 75)) zl32 D;have r:=rd_d agg75 sz75 (qQd (o:=.cells (bl (emptD width 0)) 75 (0,0)) (qQb B (.cells (bl (zG 32 0)) 75))) D;have N:(put (B.alloc (.cells (bl (zG 32 0)) 75)) B.heap.size (.cells (bl (emptD width 0)) 75 (0,0))).heap[A.heap.size]?=some (.cells (bl (zG 32 0)) 75 (0,0)):=qQh (qQs M) (by have:=qQi M;omega);have f5:No A (put (B.alloc (.cells (bl (zG 32 0)) 75)) B.heap.size (.cells (bl (emptD width 0)) 75 (0,0))):=(E.alloc _).put (b:=B.heap.size) _ fun h=>by have:=E.size;omega
 simp only[go_sem,j7,yU,qQk,q];have O:=r;generalize put (B.alloc (.cells (bl (zG 32 0)) 75)) B.heap.size (.cells (bl (emptD width 0)) 75 (0,0))=w5 at *;refine qQa pl182 ((within w5 0 0 256).mono ?_);rintro _ _ ⟨rfl,rfl⟩;rename_i w6;have e0:max (0:Int) (min 0 256)=0:=j0
 have d0:decide ((0:Int)<0)=false:=j0
 have r5:=O;simp only[go_sem,e0];refine loopD [4,5,11,12] (em0I A B.heap.size w6) 0 ⟨rfl,rfl⟩ ?_;rintro _ vs w7 g ⟨rfl,rfl⟩;have q7:=wr_d sz75 N zl32 D;have r7:=rd_d agg75 sz75 (qQd (o:=.cells (bl (emptD width 0)) 75 (0,0)) N) D;simp only[go_sem,j7,d0,O,q7,r7];exact f5.put (b:=A.heap.size) _ fun h=>absurd h (yZ _)
end
end Go.V
