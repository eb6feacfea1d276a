/- Helpers. -/
import Derived.Test.YtppmpdjlmgfdkaaGreatDoorB19
import Derived.Test.YtppmpdjlmgfdkaaGreatDoorB22
import Derived.Test.YtppmpdjlmgfdkaaGreatDoorB09
import Derived.Test.YtppmpdjlmgfdkaaGreatDoorB21
set_option linter.all false
set_option maxRecDepth 100000
set_option maxHeartbeats 8000000
open Bool renaming not_false->xH,not_true->vK
open List renaming mem_cons_of_mem->zY,length_cons->zU,mem_cons_self->zD,drop_of_length_le->zT,append_assoc->zJ,replicate->zK,getElem?_append_left->zR,drop_eq_getElem_cons->vR,length_map->zB,nil_append->zL,getElem?_append_right->z4,mem_of_mem_take->kT,mem_of_mem_drop->vA,map_congr_left->kC
open Nat renaming reduceEqDiff->yJ,zero_add->jY,add_zero->yF,le_refl->xC,zero_le->jK
open Option renaming none->kY
open Go.Value renaming cells->yN
namespace Go.V
open Go.Proofs.Tryz Go.V.Tryz
open Go.Proofs Sha
variable {c:Bat.Ch} {cs l:List Bat.Ch} {a:Option Addr} {sv v vv:Value} {w:World}
def ChI (w:World)(v:Value)(cs:List Bat.Ch):Prop:=∃ rows,RdR w 34 v rows/\rows.length=cs.length/\∀ i (h:i<rows.length) (A:i<cs.length),∃ vv,rows[i]=chRow cs[i] vv/\one vv=true/\By w vv cs[i].val/\cs[i].key.length=32
theorem ChI.fr0 {w w':World}(h:ChI w v cs)(f:No w w'):ChI w' v cs:=by
 obtain⟨rows,A,B,E⟩:=h;refine⟨rows,A.fr0 f,B,fun i a b=>?_⟩;obtain⟨vv,H,I,J,L⟩:=E i a b;exact⟨vv,H,I,J.fr0 f,L⟩
theorem ChI.slice (h:ChI w v cs):∃ a cap,v=.slice a cs.length cap/\cs.length<=cap:=by
 obtain⟨rows,A,B,_⟩:=h;have:=A.slice;rw[B]at this;exact this
theorem ChR.inp (h:ChR w v cs):ChI w v cs:=by
 obtain⟨rows,A,B,E⟩:=h;refine⟨rows,A,B,fun i a b=>?_⟩;obtain⟨vv,H,I,J,_,L⟩:=E i a b;exact⟨vv,H,I,J.1,L⟩
theorem ChI.key (h:ChI w v cs):∀ c ∈ cs,c.key.length=32:=fun c A=>by
 obtain⟨rows,E,H,B⟩:=h;obtain⟨i,hi,rfl⟩:=List.mem_iff_getElem.1 A;obtain⟨_,_,_,_,e⟩:=B i om hi;exact e
theorem ChI.cutV {n cap:Nat}(h:ChI w (.slice a n cap) cs){l m:Nat}(A:l<=m)(B:m<=n)(J:cs.length=n):ChI w (V.cutV 34 a cap l m) ((cs.drop l).take (m - l)):=by
 obtain⟨rows,E,H,I⟩:=h;refine⟨_,E.cutV A B om,by simp[H],fun i a b=>?_⟩;simp only[List.getElem_take,List.getElem_drop];rw[lTk,lDr]at a b;exact I (l+i) om om
def plP (c:Bat.Ch):Bat.Ch:=⟨c.key,c.del,if c.del then [] else c.val⟩
theorem plP_key (c:Bat.Ch):(plP c).key=c.key:=rfl
theorem plP_ok (A:c.key.length=32)(B:c.del=false->c.val.length<=128):(plP c).Ok:=by
 refine⟨A,?_,fun h=>?_⟩
 ·show (if c.del then [] else c.val:Bs).length<=128
  cases E:c.del with
  | true=>exact jK _
  | false=>exact B E
 ·have h:c.del=true:=h
  show (if c.del then [] else c.val:Bs)=[]
  rw[h];rfl
theorem ChI.at {w:World}{v:Value}{cs:List Bat.Ch}(h:ChI w v cs){i:Nat}(hi:i<cs.length):∃ b o cap vv, v=.slice (some ⟨b, o, kY⟩) cs.length cap/\one vv=true/\By w vv cs[i].val/\cs[i].key.length=32 /\
  ∀ w',No w w'->rdO prog 134 w' b (o+i*34)=some (.agg (chC cs[i].key cs[i].del vv))/\rdO prog 76 w' b (o+i*34)=some (dg cs[i].key)/\rdO prog 4 w' b (o+i*34+32)=some (.bool cs[i].del)/\rdO prog 22 w' b (o+i*34+33)=some vv:=by
 obtain⟨rows,B,H,I⟩:=h;obtain⟨b,o,cap,rfl,N⟩:=B.pos x9 om;obtain⟨vv,E,J,L,A⟩:=I i om hi;refine⟨b,o,cap,vv,by rw[H],J,L,A,fun w' f=>⟨?_,?_,?_,?_⟩⟩
 ·have:=(B.fr0 f).get (P:=prog) (t:=134) agg134 sz134 x9 (i:=i) om
  rw[this,E];rfl
 ·have:=(B.fr0 f).sub (P:=prog) (t:=76) (m:=32) agg76 sz76 x9 (i:=i) om (j:=0) x9 (xs:=cs[i].key.map u8) (by simp[A]) (fun q M=>by
   rw[E,V.chRow,jY,zR (by simp[A];exact M)])
  rw[yF]at this;exact this
 ·exact (B.fr0 f).fld agg4 om (j:=32) x9 (by rw[E,V.chRow,z4 (by simp[A])];simp[A])
 ·exact (B.fr0 f).fld agg22 om (j:=33) x9 (by rw[E,V.chRow,z4 (by simp[A])];simp[A])
namespace R
theorem plain3i (A:World)(I:c.key.length=32)(Y:c.del=false->c.val.length<=128)(ho:one vv=true)(Z:By A vv c.val):Fn prog 93 #[.agg (chC c.key c.del vv)] A fun r w'=>No A w'/\∃ v,r=.agg (chC c.key c.del v)/\one v=true/\By5 w' v (if c.del then [] else c.val)/\(c.del=true->v=.slice kY 0 0):=by
 refine go93 sm ?_;generalize c.del=B at *;have z32:(zK 32 (0:Byte)).length=32:=lRe;obtain⟨W,hW,f1,k1,k2,s1⟩:=qZz A (chC c.key B vv) 134 (chC (zK 32 0) false (.slice .none 0 0)) 134;obtain⟨T,L,f3,k3,s3⟩:=qQl W (chC (zK 32 0) false (.slice .none 0 0)) 134;have E:∀ d v,(chC c.key d v).size=34:=fun d v=>qZw d v I
 have rk:rdO prog 76 W A.heap.size 0=some (dg c.key):=by
  have:=rd_rcs (P:=prog) (w:=W) (b:=A.heap.size) (o:=0) agg76 sz76 (vs:=(c.key.map u8).toArray) (by simp[I]) x9 (fun j hj=>by
   rw[qXe k1,jY]
   simp[chC,zR,I,hj])
  exact this
 have rb:rdO prog 4 W A.heap.size 32=some (.bool B):=rd1 (P:=prog) agg4 k1 (by simp[chC,I]);have q3:wrO prog 134 T W.heap.size 0 (.agg (chC c.key B (.slice .none 0 0)))=some (put T W.heap.size (.cells (chC c.key B (.slice .none 0 0)) 134 (0,0))):=qQr (by rw[E];exact sz134) k3 (by rw[qZw _ _ z32,E]) (chC_one _ rfl);have k4:=qQd (o:=.cells (chC c.key B (.slice .none 0 0)) 134 (0,0)) k3;have f4:No W (put T W.heap.size (.cells (chC c.key B (.slice .none 0 0)) 134 (0,0))):=f3.put (b:=W.heap.size) _ fun h=>absurd h (Nat.lt_irrefl _);have J:=f1.trans f4;have M:=f4.at k1 id;have N:=f4.at k2 id;have a4:A.heap.size+1<W.heap.size:=om
 generalize a5:put T W.heap.size (.cells (chC c.key B (.slice .none 0 0)) 134 (0,0))=U at *;have O:rdO prog 4 U A.heap.size 32=some (.bool B):=rd1 (P:=prog) agg4 M (by simp[chC,I]);have a0:rdO prog 22 U A.heap.size 33=some vv:=rd1 (P:=prog) agg22 M (by simp[chC,I])
 have R:∀ (w:World) (v:Value), w.heap[A.heap.size+1]?=some (.cells (chC (zK 32 0) false (.slice .none 0 0)) 134 (0, 0))->w.heap[W.heap.size]?=some (.cells (chC c.key B v) 134 (0, 0))->one v=true ->
   rdO prog 134 w W.heap.size 0=some (.agg (chC c.key B v))/\wrO prog 134 w (A.heap.size+1) 0 (.agg (chC c.key B v))=some (put w (A.heap.size+1) (.cells (chC c.key B v) 134 (0,0))) /\
   rdO prog 134 (put w (A.heap.size+1) (.cells (chC c.key B v) 134 (0,0))) (A.heap.size+1) 0=some (.agg (chC c.key B v)):=fun w v h h' Z =>
  ⟨rd_all agg134 (by rw[E];exact sz134) h',qQr (by rw[E];exact sz134) h (by rw[qZw _ _ z32,E]) (chC_one _ Z),rd_all agg134 (by rw[E];exact sz134) (qQd (o:=.cells (chC c.key B v) 134 (0,0)) h)⟩
 have bl:=bldC B I
 cases B with
 | true =>
  obtain⟨r5,q5,r6⟩:=R U _ N k4 rfl;simp -implicitDefEqProofs only[go_sem,yJ,Tryz.f93,yN,chC_zero,hW,L,rk,rb,bl,q3,O,jY,vK,r5,q5,r6];exact⟨J.put (b:=A.heap.size+1) _ fun h=>by omega,_,rfl,rfl,(NwB.nil A _).by5,fun _=>rfl⟩
 | false =>
  simp -implicitDefEqProofs only[go_sem,yJ,Tryz.f93,yN,chC_zero,hW,L,rk,rb,bl,q3,O,jY,xH,a0];refine qQa pl131 ((bytes3 U (Z.fr0 J) (by have:=Y rfl;omega)).mono ?_);rintro H w5 ⟨n5,f5⟩;have o5:one H=true:=by obtain⟨a,cap,rfl⟩:=n5.slice;rfl
  have k5:=f5.at k4 id;have q6:=wr1 (P:=prog) (t:=22) (w:=w5) (b:=W.heap.size) (o:=33) (v:=H) sz22 o5 k5 (by rw[E];omega);rw[chC_val I]at q6;have k6:=qQd (o:=.cells (chC c.key false H) 134 (0,0)) k5;have V:∀ b,qQc H=some b->W.heap.size<b:=fun b V=>by have:=(n5.lt V).1;have:=qQh k4;omega
  have n6:=n5.put (b:=W.heap.size) (.cells (chC c.key false H) 134 (0,0)) fun b h=>by have:=V b h;omega
  have f6:No A (put w5 W.heap.size (.cells (chC c.key false H) 134 (0,0))):=(J.trans f5).put (b:=W.heap.size) _ fun h=>by omega
  have a3:=qQi (b:=W.heap.size) (o:=.cells (chC c.key false H) 134 (0,0)) (f5.at N id) om;generalize put w5 W.heap.size (.cells (chC c.key false H) 134 (0,0))=w6 at *;obtain⟨r7,q7,r8⟩:=R w6 H a3 k6 o5;simp -implicitDefEqProofs only[go_sem,yJ,q6,r7,q7,r8,jY];exact⟨f6.put (b:=A.heap.size+1) _ fun h=>by omega,_,rfl,o5,(n6.put (b:=A.heap.size+1) (.cells (chC c.key false H) 134 (0,0)) fun b h=>by have:=V b h;omega).by5,trivial⟩
def soJ (A:World)(sv:Value)(cs:List Bat.Ch)(n:Nat)(vs:List Value)(w:World):Prop :=
 ∃ (i:Nat) (mv:Value),vs=[sv,mv,.int .i64 (i:Nat)]/\i<=cs.length/\n=cs.length - i/\ChX A w mv ((cs.take i).map plP)/\(i=0->mv=.slice .none 0 0)/\No A w
theorem sorted3i:∀ (N:Nat) (B:World) {sv:Value} {cs:List Bat.Ch},cs.length<=N->ChI B sv cs->(∀ c ∈ cs,c.del=false->c.val.length<=128)->cs.length<=2 ^ 20->Fn prog 53 #[sv] B fun v w'=>No B w'/\∃ l,ChR w' v l/\l.Perm (cs.map plP)/\Bat.Srt l:=by
 intro N
 induction N with
 | zero =>
  intro B sv cs hN h H hl;obtain rfl:cs=[]:=List.length_eq_zero_iff.1 om;refine go53 sm ?_;obtain⟨a,cap,rfl,E⟩:=h.slice;have d0:decide (((([]:List Bat.Ch).length:Nat):Int)<2)=true:=rfl;simp -implicitDefEqProofs only[go_sem,yJ,Tryz.f53,d0];refine loopD [0,3,4] (soJ B (.slice a ([]:List Bat.Ch).length cap) []) 0 ⟨0,_,rfl,om,rfl,ChX.nil _ _,fun _=>rfl,Fr.refl _ _⟩ ?_;rintro _ vs w g ⟨i,mv,rfl,hi,rfl,hX,h0,Z⟩;obtain rfl:i=0:=by simpa using hi
  have d1:decide (((0:Nat):Int)<((([]:List Bat.Ch).length:Nat):Int))=false:=rfl;simp -implicitDefEqProofs only[go_sem,yJ,d1];exact⟨Z,_,hX.new.rd,List.Perm.refl _,List.Pairwise.nil⟩
 | succ N ih =>
  intro B sv cs hN h H hl;refine go53 sm ?_;obtain⟨a,cap,rfl,E⟩:=h.slice
  by_cases h2:cs.length<2
  ·have d0:=dTo (((cs.length:Nat):Int)<2)
   simp -implicitDefEqProofs only[go_sem,yJ,Tryz.f53,d0];refine loopD [0,3,4] (soJ B (.slice a cs.length cap) cs) cs.length ⟨0,_,rfl,om,rfl,by rw[List.take_zero];exact ChX.nil _ _,fun _=>rfl,Fr.refl _ _⟩ ?_;rintro _ vs w g ⟨i,mv,rfl,hi,rfl,hX,h0,Z⟩
   by_cases L:i<cs.length
   ·obtain rfl:i=0:=om
    obtain rfl:=h0 rfl;have d1:=dTo (((0:Nat):Int)<((cs.length:Nat):Int));have y1:(0:Int)<=((0:Nat):Int)/\((0:Nat):Int)<((cs.length:Nat):Int):=om
    have c1:IntKind.i64.wrap (((0:Nat):Int)+1)=((0+1:Nat):Int):=qXi (b:=1);obtain⟨b1,o1,b8,v1,e1,a4,a5,A,a6⟩:=h.at L;cases e1;obtain⟨ra,_,_,_⟩:=a6 w Z;rw[Nat.zero_mul,yF]at ra;have M:cs.take (0+1)=cs.take 0++[cs[0]]:=tSg L;have a0:=H cs[0] (List.getElem_mem L);generalize cs[0]=c at *;simp -implicitDefEqProofs only[go_sem,yJ,y1,and_self,iTn,ra,decide_true];refine qQa pl93 ((plain3i w A a0 a4 (a5.fr0 Z)).mono ?_);rintro _ J ⟨f2,O,rfl,a3,a7,a8⟩;have a9:=Z.trans f2;obtain⟨W3,b0,f3,k3,s3⟩:=qQl J (chC (zK 32 0) false (.slice .none 0 0)) 134;have q3:wrO prog 134 W3 J.heap.size 0 (.agg (chC c.key c.del O))=some (put W3 J.heap.size (.cells (chC c.key c.del O) 134 (0,0))):=qQr (by rw[qZw _ _ A];exact sz134) k3 (by rw[qZw _ _ lRe,qZw _ _ A]) (chC_one _ a3);have k4:=qQd (o:=.cells (chC c.key c.del O) 134 (0,0)) k3;have I:No J (put W3 J.heap.size (.cells (chC c.key c.del O) 134 (0,0))):=f3.put (b:=J.heap.size) _ fun h=>absurd h (Nat.lt_irrefl _)
    obtain⟨R,b3⟩:∃ R,R=put W3 J.heap.size (.cells (chC c.key c.del O) 134 (0,0)):=⟨_,rfl⟩
    rw[<- b3]at q3 k4 I;have r4:rdO prog 134 R J.heap.size 0=some (.agg (chC c.key c.del O)):=rd_all agg134 (by rw[qZw _ _ A];exact sz134) k4;have T:=a9.trans I;simp -implicitDefEqProofs only[go_sem,yJ,yN,chC_zero,b0,q3,r4];refine qQm (v:=.slice (some ⟨R.heap.size,0,.none⟩) 1 1) (w':=R.alloc (.cells (chC c.key c.del O) 134)) (qXb (K:=34) x9 x9 (by simp[chC]) (by simp[chC]) (qZw _ _ A) _) ?_;obtain⟨v8,w8,b4,X8,f8⟩:=((hX.fr0 f2).fr0 I).push T (c:=plP c) A a3 (a7.fr0 I) (fun _ b _ h=>by cases h) a8 sm;have X8:ChX B w8 v8 (((cs.take 0).map plP)++[plP c]):=X8;have M:(cs.take (0+1)).map plP=(cs.take 0).map plP++[plP c]:=by rw[M,List.map_append];rfl
    rw[<- M]at X8;simp -implicitDefEqProofs only[go_sem,yJ];refine qQj ⟨v8,w8,b4,?_⟩;simp -implicitDefEqProofs only[go_sem,yJ,c1];exact⟨cs.length - (0+1),om,0+1,v8,rfl,om,rfl,X8,fun h=>by omega,f8⟩
   ·have d1:=dFo ((i:Int)<((cs.length:Nat):Int))
    obtain rfl:i=cs.length:=om
    rw[List.take_length]at hX;simp -implicitDefEqProofs only[go_sem,yJ,d1];refine⟨Z,_,hX.new.rd,List.Perm.refl _,?_⟩
    match cs,h2 with
    | [],_=>exact List.Pairwise.nil
    | [c],_=>exact List.pairwise_singleton _ _
  ·have d0:=dFo (((cs.length:Nat):Int)<2)
   have n2:((2:Int)=0)=False:=sm
   have a2:IntKind.i64.wrap (((cs.length:Nat):Int).tdiv 2)=((cs.length / 2:Nat):Int):=by rw[show ((cs.length:Nat):Int).tdiv 2=((cs.length / 2:Nat):Int) from rfl];exact i64n
   obtain⟨m,hm⟩:∃ m,m=cs.length / 2:=⟨_,rfl⟩
   rw[<- hm]at a2;have p1:=slc_hi (P:=prog) slc95 arr95 sz134 (a:=a) (n:=cs.length) (cap:=cap) (l:=m) om E;have p2:=slc_lo (P:=prog) slc95 arr95 sz134 (a:=a) (n:=cs.length) (cap:=cap) (l:=m) om E
   have h1:∀ w,No B w->ChI w (V.cutV 34 a cap 0 m) (cs.take m):=fun w f=>by
    have:=(h.fr0 f).cutV (l:=0) (m:=m) om om rfl
    rwa [List.drop_zero,Nat.sub_zero]at this
   have b5:∀ w,No B w->ChI w (V.cutV 34 a cap m cs.length) (cs.drop m):=fun w f=>by
    have:=(h.fr0 f).cutV (l:=m) (m:=cs.length) om om rfl
    rwa [List.take_of_length_le (by rw[lDr];omega)]at this
   simp -implicitDefEqProofs only[go_sem,yJ,Tryz.f53,d0,n2,a2,p1];refine qQa pl53 ((ih B (by rw[lTk];omega) (h1 B (Fr.refl _ _)) (fun c U=>H c (kT U)) (by rw[lTk];omega)).mono ?_);rintro v3 w3 ⟨f3,l3,h3,W,b6⟩;simp -implicitDefEqProofs only[go_sem,yJ,p2];refine qQa pl53 ((ih w3 (by rw[lDr];omega) (b5 w3 f3) (fun c U=>H c (vA U)) (by rw[lDr];omega)).mono ?_);rintro v4 R ⟨f4,l4,h4,Y,b7⟩;have T:=f3.trans f4;have e3:=W.length_eq;have e4:=Y.length_eq;rw[zB,lTk]at e3;rw[zB,lDr]at e4;simp -implicitDefEqProofs only[go_sem,yJ];refine qQa pl94 ((merged R (h3.fr0 f4) h4 om om).mono ?_);rintro v5 w5 ⟨f5,X5⟩;simp -implicitDefEqProofs only[go_sem];refine⟨T.trans f5,_,X5.new.rd,?_,?_⟩
   ·refine (Bat.mergeP_perm l3 l4).trans ((W.append Y).trans ?_)
    rw[<- List.map_append,List.take_append_drop]
   ·have hk:=h.key
    refine Bat.mergeP_srt l3 l4 (fun c U=>?_) (fun c U=>?_) b6 b7
    ·obtain⟨d,hd,rfl⟩:=List.mem_map.1 (W.mem_iff.1 U)
     exact hk d (kT hd)
    ·obtain⟨d,hd,rfl⟩:=List.mem_map.1 (Y.mem_iff.1 U)
     exact hk d (vA hd)
def wrK (A:World)(sv:Value)(cs:List Bat.Ch)(n:Nat)(vs:List Value)(w:World):Prop :=
 ∃ (i:Nat),vs=[sv,.int .i64 (i:Nat)]/\i<=cs.length/\n=cs.length - i/\No A w/\∀ q (h:q<cs.length),q<i->cs[q].del=false->cs[q].val.length<=128
def ChOkI (cs:List Bat.Ch):Prop:=cs.length<=4096/\(∀ c ∈ cs,c.del=false->c.val.length<=128)/\(cs.map Bat.Ch.key).Nodup
theorem wrong3i (w0:World)(h:ChI w0 sv cs):Fn prog 52 #[sv,.int .i64 4096] w0 fun v w'=>No w0 w'/\∃ e:Int,v=.int .i64 e/\(e=0 ↔ ChOkI cs):=by
 refine go52 sm ?_;obtain⟨a,cap,rfl,b3⟩:=h.slice
 by_cases h4:4096<cs.length
 ·have d0:=dTo (((cs.length:Nat):Int) > 4096)
  simp -implicitDefEqProofs only[go_sem,yJ,Tryz.f52,d0];exact⟨Fr.refl _ _,31,rfl,fun h=>absurd h x9,fun h=>absurd h.1 om⟩
 have d0:=dFo (((cs.length:Nat):Int) > 4096);simp -implicitDefEqProofs only[go_sem,yJ,Tryz.f52,d0];refine loopD [0,5] (wrK w0 (.slice a cs.length cap) cs) cs.length ⟨0,rfl,om,rfl,Fr.refl _ _,fun q _ h=>by omega⟩ ?_;rintro _ vs w g ⟨i,rfl,hi,rfl,N,O⟩
 by_cases R:i<cs.length
 ·have d1:=dTo ((i:Int)<((cs.length:Nat):Int))
  have y1:=iBd (i:=i) (n:=cs.length);have c1:=iSu (i:=i);obtain⟨b1,o1,a5,v1,e1,b4,a6,T,E⟩:=h.at R;cases e1;obtain⟨_,_,U,rv⟩:=E w N;obtain⟨va,vc,rfl,b5⟩:=a6.slice
  cases A:cs[i].del with
  | true =>
   rw[A]at U;simp -implicitDefEqProofs only[go_sem,yJ,y1,and_self,iTn,U,vK,qQx,c1]
   exact⟨cs.length - (i+1),om,i+1,rfl,om,rfl,N,fun q B a7 J=>by
    by_cases e:q=i
    ·subst e;rw[A]at J;cases J
    ·exact O q B om J⟩
  | false =>
   rw[A]at U
   by_cases hv:cs[i].val.length<=128
   ·have d2:=dFo (((cs[i].val.length:Nat):Int) > 128)
    simp -implicitDefEqProofs only[go_sem,yJ,y1,and_self,iTn,U,xH,bSe,rv,d2,c1]
    exact⟨cs.length - (i+1),om,i+1,rfl,om,rfl,N,fun q B a7 J=>by
     by_cases e:q=i
     ·subst e;exact hv
     ·exact O q B om J⟩
   ·have d2:=dTo (((cs[i].val.length:Nat):Int) > 128)
    simp -implicitDefEqProofs only[go_sem,yJ,y1,and_self,iTn,U,xH,bSe,rv,d2];exact⟨N,32,rfl,fun h=>absurd h x9,fun h=>absurd (h.2.1 _ (List.getElem_mem R) A) hv⟩
 ·have d1:=dFo ((i:Int)<((cs.length:Nat):Int))
  have V:∀ c ∈ cs,c.del=false->c.val.length<=128:=fun c hc=>by
   obtain⟨q,B,rfl⟩:=List.mem_iff_getElem.1 hc;exact O q B om
  simp -implicitDefEqProofs only[go_sem,yJ,d1];refine qQa pl53 ((sorted3i cs.length w (xC _) (h.fr0 N) V om).mono ?_);rintro lv w2 ⟨f2,l,hL,hp,hs⟩;have W:=N.trans f2;have Y:=hp.length_eq;have Y:l.length=cs.length:=by rw[Y,zB]
  have a8:(cs.map plP).map Bat.Ch.key=cs.map Bat.Ch.key:=by rw[List.map_map];exact kC fun c _=>plP_key c
  have L:=(hp.map Bat.Ch.key).nodup_iff;rw[a8]at L;have a9:=h.key
  have Z:∀ c ∈ l,c.key.length=32:=fun c hc=>by
   obtain⟨d,J,rfl⟩:=List.mem_map.1 (hp.mem_iff.1 hc);rw[plP_key];exact a9 d J
  obtain⟨la,lc,rfl,b6⟩:=hL.slice;simp -implicitDefEqProofs only[go_sem];refine loopD [6,7] (wrJ w2 (.slice la l.length lc) l) l.length ⟨1,rfl,xC _,.inr rfl,om,Fr.refl _ _,fun q h1 h2=>absurd h2 om⟩ ?_;rintro _ vs w3 g ⟨j,rfl,hj,b7,rfl,M,I⟩
  by_cases H:j<l.length
  ·have d3:=dTo ((j:Int)<((l.length:Nat):Int))
   have y2:=iBd (i:=j) (n:=l.length);have y3:(0:Int)<=((j - 1:Nat):Int)/\((j - 1:Nat):Int)<((l.length:Nat):Int):=om
   have c2:IntKind.i64.wrap ((j:Int) - 1)=((j - 1:Nat):Int):=qXr (b:=1) om om;have c3:=iSu (i:=j);obtain⟨b1,o1,a5,v1,e1,_,_,_,T,E⟩:=hL.at H;cases e1;obtain⟨b2,o2,b8,v2,e2,_,_,_,b0,a0⟩:=hL.at (show j - 1<l.length by omega);cases e2;obtain⟨_,r1,_,_⟩:=E w3 M;obtain⟨_,r2,_,_⟩:=a0 w3 M;obtain⟨_,a3,_,_⟩:=E w3.drew M.drew;obtain⟨_,a4,_,_⟩:=a0 w3.drew M.drew;have eq:=eqKey T b0;have g1:(l.map Bat.Ch.key).getD j []=l[j].key:=by rw[qQt _ (by simpa using H),List.getElem_map]
   have g2:(l.map Bat.Ch.key).getD (j - 1) []=l[j - 1].key:=by rw[qQt _ (by simp;omega),List.getElem_map]
   by_cases he:l[j].key=l[j - 1].key
   ·have hb:(l[j].key == l[j - 1].key)=true:=beq_iff_eq.2 he
    simp -implicitDefEqProofs only[go_sem,yJ,y2,y3,and_self,iTn,yF,c2,a3,a4,eq,hb];exact⟨(W.trans M).drew,33,rfl,fun h=>absurd h x9,fun h=>absurd (show (l.map Bat.Ch.key)[j]'(by simpa using H)=(l.map Bat.Ch.key)[j - 1]'(by simp;omega) by simpa using he) (nodup_ne (L.2 h.2.2) (by simpa using H) (by simp;omega) om)⟩
   ·have hb:(l[j].key == l[j - 1].key)=false:=beq_eq_false_iff_ne.2 he
    simp -implicitDefEqProofs only[go_sem,yJ,y2,y3,and_self,iTn,yF,c2,c3,a3,a4,eq,hb];refine⟨l.length+1 - (j+1),om,j+1,rfl,om,.inl om,rfl,M.drew,fun q h1 h2=>?_⟩
    by_cases O:q<j
    ·exact I q h1 O
    ·obtain rfl:q=j:=om
     rw[g1,g2];exact he
  ·have d3:=dFo ((j:Int)<((l.length:Nat):Int))
   simp -implicitDefEqProofs only[go_sem,yJ,d3];exact⟨W.trans M,0,rfl,fun _=>⟨om,V,L.1 (klt_nodup (srt_adj Z hs fun q h1 h2=>I q h1 om))⟩,fun _=>rfl⟩
theorem normal3i (A:World)(h:ChI A sv cs):Fn prog 28 #[sv] A fun r w'=>No A w'/\∃ v e,r=.tuple #[v,.int .i64 e]/\(e=0 ↔ ChOkI cs)/\(e=0->∃ l,ChR w' v l/\l.Perm (cs.map plP)/\Bat.Srt l):=by
 refine go28 sm ?_;simp -implicitDefEqProofs only[go_sem,yJ,Tryz.f28];refine qQa pl52 ((wrong3i A h).mono ?_);rintro _ J ⟨B,e,rfl,E⟩
 by_cases H:e=0
 ·subst H
  have I:=E.1 rfl;simp -implicitDefEqProofs only[go_sem,yJ,bNe];refine qQa pl53 ((sorted3i cs.length J (xC _) (h.fr0 B) I.2.1 (by have:=I.1;omega)).mono ?_);rintro v T ⟨L,l,M,N,O⟩;simp -implicitDefEqProofs only[go_sem,yJ];exact⟨B.trans L,v,0,rfl,E,fun _=>⟨l,M,N,O⟩⟩
 ·have R:(e != 0)=true:=bne_iff_ne.2 H
  simp -implicitDefEqProofs only[go_sem,yJ,R];exact⟨B,_,e,rfl,E,fun h=>absurd h H⟩
end R
section
open Aud
def putP (c:Bat.Ch):List En:=if c.del then [] else [(c.key,c.val)]
def applyP:List En->List Bat.Ch->List En
 | m,[]=>m
 | [],c::l=>putP c++applyP [] l
 | e::m,c::l=>if klt e.1 c.key then e::applyP m (c::l) else if e.1=c.key then putP c++applyP m l else putP c++applyP (e::m) l
termination_by m l=>m.length+l.length
theorem qVu (m:List En):applyP m []=m:=by cases m <;> rw[applyP]
theorem applyP_lt {e:En}{m:List En}(h:klt e.1 c.key):applyP (e::m) (c::l)=e::applyP m (c::l):=by rw[applyP,if_pos h]
theorem applyP_eq {e:En}{m:List En}(h:e.1=c.key):applyP (e::m) (c::l)=putP c++applyP m l:=by rw[applyP,if_neg (fun g=>qZl c.key (by rw[h]at g;exact g)),if_pos h]
theorem applyP_gt {e:En}{m:List En}(h:¬ klt e.1 c.key)(A:e.1≠c.key):applyP (e::m) (c::l)=putP c++applyP (e::m) l:=by rw[applyP,if_neg h,if_neg A]
theorem qWd (c:Bat.Ch)(l:List Bat.Ch):applyP [] (c::l)=putP c++applyP [] l:=by rw[applyP]
theorem put_mem {e:En}(h:e ∈ putP c):c.del=false/\e=(c.key,c.val):=by
 unfold putP at h
 cases A:c.del with
 | true=>rw[A]at h;cases h
 | false=>rw[A]at h;exact⟨rfl,List.mem_singleton.1 h⟩
theorem applyP_mem:∀ {m:List En} {l:List Bat.Ch} {e:En},e ∈ applyP m l->e ∈ m∨∃ c ∈ l,c.del=false/\e=(c.key,c.val):=by
 intro m l
 induction m,l using applyP.induct with
 | case1 m=>intro e h;rw[qVu]at h;exact .inl h
 | case2 c l B =>
  intro e h;rw[qWd]at h
  rcases List.mem_append.1 h with h | h
  ·exact .inr ⟨c,zD,put_mem h⟩
  ·rcases B h with h | ⟨d,E,h⟩
   ·cases h
   ·exact .inr ⟨d,zY _ E,h⟩
 | case3 x m c l A B =>
  intro e h;rw[applyP_lt A]at h
  rcases List.mem_cons.1 h with rfl | h
  ·exact .inl zD
  ·rcases B h with h | h
   ·exact .inl (zY _ h)
   ·exact .inr h
 | case4 x m c l A H B =>
  intro e h;rw[applyP_eq H]at h
  rcases List.mem_append.1 h with h | h
  ·exact .inr ⟨c,zD,put_mem h⟩
  ·rcases B h with h | ⟨d,E,h⟩
   ·exact .inl (zY _ h)
   ·exact .inr ⟨d,zY _ E,h⟩
 | case5 x m c l A hne B =>
  intro e h;rw[applyP_gt A hne]at h
  rcases List.mem_append.1 h with h | h
  ·exact .inr ⟨c,zD,put_mem h⟩
  ·rcases B h with h | ⟨d,E,h⟩
   ·exact .inl h
   ·exact .inr ⟨d,zY _ E,h⟩
theorem applyP_len:∀ (m:List En) (l:List Bat.Ch),(applyP m l).length<=m.length+l.length:=by
 have E:∀ c,(putP c).length<=1:=fun c=>by unfold putP;cases c.del <;> simp
 intro m l
 induction m,l using applyP.induct with
 | case1 m=>rw[qVu];exact xC _
 | case2 c l B=>rw[qWd,lAp,zU];have:=E c;omega
 | case3 x m c l A B=>rw[applyP_lt A,zU,zU];omega
 | case4 x m c l A H B=>rw[applyP_eq H,lAp,zU,zU];have:=E c;omega
 | case5 x m c l A hne B=>rw[applyP_gt A hne,lAp,zU];have:=E c;rw[zU]at B ⊢;omega
theorem applyP_srt:∀ {m:List En} {l:List Bat.Ch},(∀ e ∈ m,e.1.length=32)->(∀ c ∈ l,c.key.length=32)->(m.Pairwise fun a b=>klt a.1 b.1)->(l.Pairwise fun a b=>klt a.key b.key)->(applyP m l).Pairwise fun a b=>klt a.1 b.1:=by
 intro m l
 have put:∀ {c:Bat.Ch} {r:List En},(r.Pairwise fun a b=>klt a.1 b.1)->(∀ e ∈ r,klt c.key e.1)->(putP c++r).Pairwise fun a b=>klt a.1 b.1:=fun {c r} B E=>by
  unfold putP
  cases c.del with
  | true=>exact B
  | false=>exact List.pairwise_cons.2 ⟨E,B⟩
 have all:∀ {m:List En} {l:List Bat.Ch} {k:Bs},(∀ e ∈ m,klt k e.1)->(∀ c ∈ l,klt k c.key)->∀ e ∈ applyP m l,klt k e.1:=fun {m l k} B E e H=>by
  rcases applyP_mem H with h | ⟨c,L,_,rfl⟩
  ·exact B e h
  ·exact E c L
 induction m,l using applyP.induct with
 | case1 m=>intro _ _ h _;rw[qVu];exact h
 | case2 c l M =>
  intro B E I J;obtain⟨a,b⟩:=List.pairwise_cons.1 J;rw[qWd];exact put (M B (fun c L=>E c (zY _ L)) I b) (all (fun e h=>by cases h) a)
 | case3 x m c l A M =>
  intro B E I J;obtain⟨a,b⟩:=List.pairwise_cons.1 I;rw[applyP_lt A];refine List.pairwise_cons.2 ⟨all a fun d O=>?_,M (fun e H=>B e (zY _ H)) E b J⟩
  rcases List.mem_cons.1 O with rfl | O
  ·exact A
  ·exact qJz A ((List.pairwise_cons.1 J).1 d O)
 | case4 x m c l A N M =>
  intro B E I J;obtain⟨a,b⟩:=List.pairwise_cons.1 I;obtain⟨R,T⟩:=List.pairwise_cons.1 J;rw[applyP_eq N];exact put (M (fun e H=>B e (zY _ H)) (fun c L=>E c (zY _ L)) b T) (all (fun e H=>by rw[<- N];exact a e H) R)
 | case5 x m c l A hne M =>
  intro B E I J;obtain⟨a,b⟩:=List.pairwise_cons.1 I;obtain⟨R,T⟩:=List.pairwise_cons.1 J;have U:klt c.key x.1:=(klt_total (B x zD) (E c zD) hne).resolve_left A;rw[applyP_gt A hne];refine put (M B (fun c L=>E c (zY _ L)) I T) (all (fun e H=>?_) R)
  rcases List.mem_cons.1 H with rfl | H
  ·exact U
  ·exact qJz U (a e H)
theorem applyP_ok {m:List En}(B:MapOk m)(E:∀ c ∈ l,c.Ok)(I:l.Pairwise fun a b=>klt a.key b.key):MapOk (applyP m l):=by
 refine⟨⟨?_,fun e H=>?_⟩,fun e H=>?_⟩
 ·exact (applyP_srt B.1.2 (fun c A=>(E c A).1) (B.1.1.imp fun h=>h.1) I).imp fun h=>⟨h,jK _⟩
 ·rcases applyP_mem H with h | ⟨c,A,_,rfl⟩
  ·exact B.1.2 e h
  ·exact (E c A).1
 ·rcases applyP_mem H with h | ⟨c,A,_,rfl⟩
  ·exact B.2 e h
  ·exact (E c A).2.1
theorem kcmp_ge (a b:Bs):kcmp a b ≥ 0 ↔ ¬ klt a b:=by
 unfold kcmp
 by_cases e:a=b
 ·subst e;rw[if_pos rfl];exact iff_of_true x9 (qZl _)
 ·rw[if_neg e]
  by_cases h:klt a b
  ·rw[if_pos h];exact iff_of_false x9 (fun g=>g h)
  ·rw[if_neg h];exact iff_of_true x9 h
theorem srt_lt (E:∀ c ∈ l,c.key.length=32)(H:Bat.Srt l)(I:l.Perm cs)(A:(cs.map Bat.Ch.key).Nodup):l.Pairwise fun a b=>klt a.key b.key:=by
 refine R.srt_adj E H fun q L J e=>?_;have A:=(I.map Bat.Ch.key).nodup_iff.2 A;have B:q<(l.map Bat.Ch.key).length:=by simpa using J
 rw[qQt _ B,qQt _ om]at e;exact nodup_ne A B om om e
namespace R
open Aud A
theorem EnO.at {c w:World}{A:List En}(h:EnO c w v A){i:Nat}(hi:i<A.length):∃ b o cap vv, v=.slice (some ⟨b, o, kY⟩) A.length cap/\A[i].1.length=32/\V.one vv=true/\By5 w vv A[i].2 /\
  ∀ w',No w w'->rdO prog 76 w' b (o+i*33)=some (dg A[i].1)/\rdO prog 83 w' b (o+i*33)=some (.agg (A[i].1.map u8++[vv]).toArray):=by
 obtain⟨rows,J,L,M⟩:=h;have E:=J.rd;have B:i<rows.length:=om
 obtain⟨vv,I,H,N,O⟩:=M i B hi;obtain⟨b,o,cap,rfl,R⟩:=E.pos x9 om;refine⟨b,o,cap,vv,by rw[L],H,N,O,fun w' k=>⟨?_,?_⟩⟩
 ·refine (E.fr0 k).sub agg76 sz76 x9 B (j:=0) x9 (xs:=A[i].1.map u8) (by simp[H]) fun q T=>?_
  rw[I,jY,enRow,zR (by simp[H];omega)]
 ·have:=(E.fr0 k).get agg83 sz83 x9 B
  rw[this,I];rfl
theorem EnO.slice {c w:World}{A:List En}(h:EnO c w v A):∃ a cap,v=.slice a A.length cap/\A.length<=cap:=by
 obtain⟨rows,B,E,_⟩:=h;have:=B.rd.slice;rw[E]at this;exact this
def apA (b:World)(mv B:Value)(m:List En)(l:List Bat.Ch)(n:Nat)(vs:List Value)(w:World):Prop :=
 ∃ (i j:Nat) (out:Value) (A:List En),vs=[mv,B,out,.int .i64 (i:Nat),.int .i64 (j:Nat)]/\i<=m.length/\j<=l.length/\n=l.length - j/\EnO b w out A/\No b w/\A++applyP (m.drop i) (l.drop j)=applyP m l/\A.length<=i+j
def apB (b E:World)(mv B:Value)(m:List En)(l:List Bat.Ch)(j:Nat)(n:Nat)(vs:List Value)(w:World):Prop :=
 ∃ (i:Nat) (out:Value) (A:List En),vs=[mv,B,out,.int .i64 (i:Nat),.int .i64 (j:Nat)]/\i<=m.length/\n=m.length - i/\EnO b w out A/\No b w/\A++applyP (m.drop i) (l.drop j)=applyP m l/\A.length<=i+j
def apC (b:World)(mv:Value)(m r:List En)(n:Nat)(vs:List Value)(w:World):Prop :=
 ∃ (i:Nat) (out:Value) (A:List En),vs=[mv,out,.int .i64 (i:Nat)]/\i<=m.length/\n=m.length - i/\EnO b w out A/\No b w/\A++m.drop i=r/\A.length+(m.length - i)<=2 ^ 30
theorem apply3g (w0 u:World)(hu:u.heap.size<=w0.heap.size){mv sv:Value}{m:List En}(hm:EnO u w0 mv m)(h:ChR w0 sv cs)(b9:∀ c ∈ cs, c.Ok)(hn:(cs.map Bat.Ch.key).Nodup)(hl:cs.length<=2 ^ 20)(e4:m.length<=2 ^ 29)(hM:MapOk m) :
  Fn prog 29 #[mv,sv] w0 fun v w'=>No w0 w'/\∃ m',EnO u w' v m'/\MapOk m'/\m'.length<=m.length+cs.length/\(cs=[]->m'=m):=by
 refine go29 sm ?_;obtain⟨ma,mc,rfl,e5⟩:=hm.slice
 have c9:cs.map plP=cs:=by
  refine (kC fun c hc=>?_).trans (List.map_id' _);obtain⟨_,_,hd⟩:=b9 c hc;unfold plP
  cases c0:c.del with
  | true=>rw[if_pos rfl,<- hd c0,<- c0]
  | false=>rw[if_neg x9,<- c0]
 simp -implicitDefEqProofs only[go_sem,yJ,jY,Tryz.f29];refine qQa pl53 ((sorted3i cs.length w0 (xC _) h.inp (fun c hc _=>(b9 c hc).2.1) hl).mono ?_);rintro lv w1 ⟨f1,l,hL,hp,hs⟩;rw[c9]at hp;obtain⟨la,lc,rfl,e6⟩:=hL.slice;have c3:=hp.length_eq;have b6:∀ c ∈ l,c.Ok:=fun c hc=>b9 c (hp.mem_iff.1 hc);have d0:=srt_lt (fun c hc=>(b6 c hc).1) hs hp hn;have c5:=hm.fr0 f1;simp -implicitDefEqProofs only[go_sem];refine loopD [0,5,6,7,8] (apA w1 (.slice ma m.length mc) (.slice la l.length lc) m l) l.length ⟨0,0,nil0,[],rfl,jK _,jK _,rfl,⟨[],NwR.nil _ _ _ _,rfl,fun i h=>absurd h sm⟩,Fr.refl _ _,rfl,xC _⟩ ?_;rintro _ vs w2 g ⟨i,j,out,J,rfl,hi,hj,rfl,hE,f2,A,N⟩;have d1:=natlt j l.length
 by_cases a5:j<l.length
 case neg =>
  rw[decide_eq_false a5]at d1;rw[show l.drop j=[] from zT om,qVu]at A;simp -implicitDefEqProofs only[go_sem,yJ,d1];refine loopD [0,6,7] (apC w1 (.slice ma m.length mc) m (applyP m l)) (m.length - i) ⟨i,out,J,rfl,hi,rfl,hE,f2,A,om⟩ ?_;rintro _ vs L g2 ⟨i,out,J,rfl,hi,rfl,hE,O,A,N⟩;have d2:=natlt i m.length
  by_cases a6:i<m.length
  ·rw[decide_eq_true a6]at d2
   obtain⟨b,o,cap,vv,e1,hk,ho,hv,hr⟩:=c5.at a6;cases e1;obtain⟨_,re⟩:=hr L O;have ym:=iBd (i:=i) (n:=m.length);have c1:=iSu (i:=i);have Y:m.drop i=m[i]::m.drop (i+1):=vR a6;generalize m[i]=e at *;have M:(e.1.map u8++[vv]).toArray.size=33:=by simp[hk]
   simp -implicitDefEqProofs only[go_sem,yJ,yN,jY,qQk,ym,and_self,iTn,re];refine qQm (v:=.slice (some ⟨L.heap.size,0,none⟩) 1 1) (w':=L.alloc (.cells (e.1.map u8++[vv]).toArray 83)) (qXb (K:=33) x9 x9 (y:=(z32.map u8++[nil0])) rfl rfl M _) ?_;obtain⟨R,w5,q5,E5,f5⟩:=hE.push O hk ho (hv.fr0 O) om;simp -implicitDefEqProofs only[go_sem,yJ];refine qQj ⟨R,w5,q5,?_⟩;simp -implicitDefEqProofs only[go_sem,yJ,c1];refine⟨m.length - (i+1),om,i+1,R,J++[e],rfl,om,rfl,E5,f5,by rw[zJ,<- A,Y];rfl,by rw[lAp];show J.length+1+_<=_;omega⟩
  ·rw[decide_eq_false a6]at d2
   rw[zT om,List.append_nil]at A;subst A;simp -implicitDefEqProofs only[go_sem,yJ,d2];refine⟨f1.trans O,applyP m l,hE.back (by have:=f1.size;omega),applyP_ok hM b6 d0,by rw[<- c3];exact applyP_len m l,fun e=>?_⟩;subst e;rw[List.length_nil,List.length_eq_zero_iff]at c3;rw[c3,qVu]
 rw[decide_eq_true a5]at d1;obtain⟨b1,o1,e7,v1,e1,ov,hv,hd,hk,hr⟩:=hL.at a5;cases e1;have a7:l.drop j=l[j]::l.drop (j+1):=vR a5;generalize l[j]=c at *;have yj:=iBd (i:=j) (n:=l.length);have c2:=iSu (i:=j);simp -implicitDefEqProofs only[go_sem,yJ,d1];refine loopD [0,5,6,7,8] (apB w1 w2 (.slice ma m.length mc) (.slice (some ⟨b1,o1,.none⟩) l.length lc) m l j) (m.length - i) ⟨i,out,J,rfl,hi,rfl,hE,f2,A,N⟩ ?_;clear A N hE hi;rintro _ vs L g2 ⟨i,out,J,rfl,hi,rfl,hE,O,A,N⟩;have d2:=natlt i m.length;obtain⟨_,rk,rb,rv⟩:=hr L O;obtain⟨_,d3,a8,e8⟩:=hr L.drew O.drew;obtain⟨_,c6,d9,c7⟩:=hr L.drew.drew O.drew.drew;have hb:=bldE (vv:=v1) hk ov;have d5:∀ (i':Nat) (w':World),i'<=m.length->No L w'->J++(putP c++applyP (m.drop i') (l.drop (j+1)))=applyP m l->J.length<=i'+j->True:=fun _ _ _ _ _ _=>trivial;clear d5
 by_cases Z:i<m.length
 ·rw[decide_eq_true Z]at d2
  obtain⟨b,o,cap,vv,e1,a9,ho,d6,a0⟩:=c5.at Z;cases e1;obtain⟨rm,re⟩:=a0 L O;obtain⟨d7,e9⟩:=a0 L.drew O.drew;obtain⟨e0,_⟩:=a0 L.drew.drew O.drew.drew;have ym:=iBd (i:=i) (n:=m.length);have c1:=iSu (i:=i);have Y:m.drop i=m[i]::m.drop (i+1):=vR Z;generalize m[i]=e at *;simp -implicitDefEqProofs only[go_sem,yJ,yF,ym,yj,and_self,iTn,d7,d3];refine qQa pl54 ((cmp L.drew a9 hk).mono ?_);rintro _ T ⟨rfl,f4⟩;have E:=O.drew.trans f4;have c4:=hE.fr0 ((Fr.refl (fun _=>False) L).drew.trans f4)
  by_cases U:klt e.1 c.key
  ·have d4:decide (kcmp e.1 c.key ≥ 0)=false:=decide_eq_false fun h=>(kcmp_ge _ _).1 h U
   obtain⟨_,d8⟩:=a0 T E;have M:(e.1.map u8++[vv]).toArray.size=33:=by simp[a9]
   simp -implicitDefEqProofs only[go_sem,yJ,yN,jY,qQk,d4,ym,and_self,iTn,d8];refine qQm (v:=.slice (some ⟨T.heap.size,0,none⟩) 1 1) (w':=T.alloc (.cells (e.1.map u8++[vv]).toArray 83)) (qXb (K:=33) x9 x9 (y:=(z32.map u8++[nil0])) rfl rfl M _) ?_;obtain⟨R,w5,q5,E5,f5⟩:=c4.push E a9 ho (d6.fr0 E) om;simp -implicitDefEqProofs only[go_sem,yJ];refine qQj ⟨R,w5,q5,?_⟩;simp -implicitDefEqProofs only[go_sem,yJ,c1];refine⟨m.length - (i+1),om,i+1,R,J++[e],rfl,om,rfl,E5,f5,?_,by rw[lAp];show J.length+1<=_;omega⟩;rw[<- A,Y,a7,applyP_lt U,zJ];rfl
  ·have d4:decide (kcmp e.1 c.key ≥ 0)=true:=decide_eq_true ((kcmp_ge _ _).2 U)
   obtain⟨f0,_⟩:=a0 T E;obtain⟨V,_⟩:=a0 T.drew E.drew;obtain⟨_,f6,a3,f7⟩:=hr T E;obtain⟨_,W,I,e2⟩:=hr T.drew E.drew;obtain⟨_,b7,e3,b8⟩:=hr T.drew.drew E.drew.drew;have M:(c.key.map u8++[v1]).toArray.size=33:=by simp[hk]
   have b0:=eqKey a9 hk;have fe:=E.drew.drew;have b3:=c4.fr0 ((Fr.refl (fun _=>False) T).drew.drew);have b4:=c4.fr0 ((Fr.refl (fun _=>False) T).drew)
   by_cases b5:e.1=c.key
   ·have a4:(e.1 == c.key)=true:=beq_iff_eq.2 b5
    rw[Y,a7,applyP_eq b5]at A
    cases B:c.del with
    | true =>
     rw[B]at a3 I;have H:putP c=[]:=by unfold putP;rw[B];rfl
     rw[H,zL]at A;simp -implicitDefEqProofs only[go_sem,yJ,bSe,vK,yF,decide_true,d4,ym,yj,and_self,iTn,V,W,b0,a4,c1,I,vK,c2];exact⟨l.length - (j+1),om,i+1,j+1,out,J,rfl,om,om,rfl,b4,E.drew,A,om⟩
    | false =>
     rw[B]at a3 I;have H:putP c=[(c.key,c.val)]:=by unfold putP;rw[B];rfl
     rw[H]at A;simp -implicitDefEqProofs only[go_sem,yJ,bSe,yF,decide_true,d4,ym,yj,and_self,iTn,V,W,b0,a4,c1];simp -implicitDefEqProofs only[go_sem,yJ,yN,xH,jY,yF,qQk,a3,xH,yj,and_self,iTn,b7,b8,hb];refine qQm (v:=.slice (some ⟨T.drew.drew.heap.size,0,none⟩) 1 1) (w':=T.drew.drew.alloc (.cells (c.key.map u8++[v1]).toArray 83)) (qXb (K:=33) x9 x9 (y:=(z32.map u8++[nil0])) rfl rfl M _) ?_;obtain⟨R,w5,q5,E5,f5⟩:=b3.push fe hk ov (hv.fr0 fe) om;simp -implicitDefEqProofs only[go_sem,yJ];refine qQj ⟨R,w5,q5,?_⟩;simp -implicitDefEqProofs only[go_sem,yJ,c2];exact⟨l.length - (j+1),om,i+1,j+1,R,J++[(c.key,c.val)],rfl,om,om,rfl,E5,f5,by rw[<- A,zJ],by rw[lAp];show J.length+1<=_;omega⟩
   ·have a4:(e.1 == c.key)=false:=beq_eq_false_iff_ne.2 b5
    rw[Y,a7,applyP_gt U b5,<- Y]at A
    cases B:c.del with
    | true =>
     rw[B]at a3 I;have H:putP c=[]:=by unfold putP;rw[B];rfl
     rw[H,zL]at A;simp -implicitDefEqProofs only[go_sem,yJ,bSe,vK,yF,decide_true,d4,ym,yj,and_self,iTn,V,W,b0,a4,I,vK,c2];exact⟨l.length - (j+1),om,i,j+1,out,J,rfl,om,om,rfl,b4,E.drew,A,om⟩
    | false =>
     rw[B]at a3 I;have H:putP c=[(c.key,c.val)]:=by unfold putP;rw[B];rfl
     rw[H]at A;simp -implicitDefEqProofs only[go_sem,yJ,bSe,yF,decide_true,d4,ym,yj,and_self,iTn,V,W,b0,a4];simp -implicitDefEqProofs only[go_sem,yJ,yN,xH,jY,yF,qQk,a3,xH,yj,and_self,iTn,b7,b8,hb];refine qQm (v:=.slice (some ⟨T.drew.drew.heap.size,0,none⟩) 1 1) (w':=T.drew.drew.alloc (.cells (c.key.map u8++[v1]).toArray 83)) (qXb (K:=33) x9 x9 (y:=(z32.map u8++[nil0])) rfl rfl M _) ?_;obtain⟨R,w5,q5,E5,f5⟩:=b3.push fe hk ov (hv.fr0 fe) om;simp -implicitDefEqProofs only[go_sem,yJ];refine qQj ⟨R,w5,q5,?_⟩;simp -implicitDefEqProofs only[go_sem,yJ,c2];exact⟨l.length - (j+1),om,i,j+1,R,J++[(c.key,c.val)],rfl,om,om,rfl,E5,f5,by rw[<- A,zJ],by rw[lAp];show J.length+1<=_;omega⟩
 ·rw[decide_eq_false Z]at d2
  have M:(c.key.map u8++[v1]).toArray.size=33:=by simp[hk]
  rw[zT (Nat.le_of_not_lt Z),a7,qWd]at A;have c8:m.drop i=[]:=zT (Nat.le_of_not_lt Z);have b3:=hE.fr0 ((Fr.refl (fun _=>False) L).drew.drew);have b4:=hE.fr0 ((Fr.refl (fun _=>False) L).drew);have fe:=O.drew.drew
  cases B:c.del with
  | true =>
   rw[B]at rb a8;have H:putP c=[]:=by unfold putP;rw[B];rfl
   rw[H,zL]at A;simp -implicitDefEqProofs only[go_sem,yJ,qQx,vK,d2,yj,and_self,iTn,a8,vK,c2];exact⟨l.length - (j+1),om,i,j+1,out,J,rfl,om,om,rfl,b4,O.drew,by rw[c8];exact A,om⟩
  | false =>
   rw[B]at rb a8;have H:putP c=[(c.key,c.val)]:=by unfold putP;rw[B];rfl
   rw[H]at A;simp -implicitDefEqProofs only[go_sem,yJ,yN,qQx,xH,jY,yF,qQk,d2,yj,and_self,iTn,a8,xH,c6,c7,hb];refine qQm (v:=.slice (some ⟨L.drew.drew.heap.size,0,none⟩) 1 1) (w':=L.drew.drew.alloc (.cells (c.key.map u8++[v1]).toArray 83)) (qXb (K:=33) x9 x9 (y:=(z32.map u8++[nil0])) rfl rfl M _) ?_;obtain⟨R,w5,q5,E5,f5⟩:=b3.push fe hk ov (hv.fr0 fe) om;simp -implicitDefEqProofs only[go_sem,yJ];refine qQj ⟨R,w5,q5,?_⟩;simp -implicitDefEqProofs only[go_sem,yJ,c2];exact⟨l.length - (j+1),om,i,j+1,R,J++[(c.key,c.val)],rfl,om,om,rfl,E5,f5,by rw[c8,<- A,zJ],by rw[lAp];show J.length+1<=_;omega⟩
end R
end
section
namespace R
open Aud A
end R
end
section
namespace R
open Aud A
end R
end
section
namespace R
open Aud A
theorem kz_len:kz.length=32:=x9
theorem enPlaces:qXh prog 83=some [(0,32),(32,1)]:=x8
theorem bldEn {n c:Nat}:bldO prog 83 [(1,.slice a n c)]=some (.agg (enRow (kz,[7]) (.slice a n c)).toArray):=by
 rw[qKd zero83 enPlaces (c:=(enRow (kz,[7]) nil0).toArray) x8];have A:=qJb (ps:=fun i=>[(0,32),(32,1)][i]?) (i:=1) (o:=32) (a:=kz.map u8) (r:=[]) (u:=nil0) (v:=.slice a n c) (rest:=[]) rfl (by rw[zB];exact kz_len) rfl;rw[qXu]at A;exact congrArg (Option.map Value.agg) A
theorem enR_one {b:Nat}{e:Bs × Bs}(A:e.1.length=32)(B:one vv=true)(E:By w vv e.2){H:TypeId}{fz:Nat × Nat}(h:w.heap[b]?=some (.cells (enRow e vv).toArray H fz)):EnR w (.slice (some ⟨b,0,kY⟩) 1 1) [e]:=by
 refine⟨[enRow e vv],⟨?_,?_⟩,rfl,fun i a I=>?_⟩
 ·refine RowsOk.one (by simp[enRow,A]) ?_
  unfold enRow;rw[List.all_append,qXs];simp[B]
 ·refine⟨by simp[enRow,A],_,_,rfl,xC _,fun _=>⟨_,_,rfl,fun j J=>?_⟩⟩
  rw[qXe h,jY,List.getElem?_toArray]
  simp
 ·have:i=0:=by simp at a;omega
  subst this;exact⟨vv,rfl,A,B,E⟩
end R
end
end Go.V
