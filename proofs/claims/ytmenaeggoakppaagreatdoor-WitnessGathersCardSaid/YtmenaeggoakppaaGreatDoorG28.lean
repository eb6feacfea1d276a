/- Helpers. -/
import Derived.Test.YtmenaeggoakppaaGreatDoorG20
import Derived.Test.YtmenaeggoakppaaGreatDoorG19
import Derived.Test.YtmenaeggoakppaaGreatDoorG26
import Derived.Test.YtmenaeggoakppaaGreatDoorG21
set_option linter.all false
set_option maxRecDepth 100000
set_option maxHeartbeats 8000000
open Array renaming replicate→xR,size_setIfInBounds→vB
open BitVec renaming ofNat→zK
open List renaming replicate→zG,take_of_length_le→zF,take_zero→jR,length_singleton→jK,append_assoc→zW,take_length→vX,append_nil→j9,mem_singleton→vD
open Nat renaming reduceEqDiff→jF,le_refl→xP,mul_one→jH,sub_self→jQ,add_zero→jO
open Go.Value renaming int→vM,cells→jM
namespace Go.V
open Go.Proofs.Tryz Go.V.Tryz
open Go.Proofs Sha
variable {bad:Bool} {bs:Bs} {wd:Int} {ds:List Bs} {f g i k n p wb:Nat} {v vv:Value} {w:World}
namespace Wit
theorem ins_take {k:Bs}{l:List Bs}{j:Nat}(hj:j<l.length) :
  (j<pos k l→(ins k l).take j++[l.getD j []]=(ins k l).take (j+1))∧(pos k l≤j→(ins k l).take (j+1)++[l.getD j []]=(ins k l).take (j+2)):=by
 have hl:=ins_len k l;have h:=ins_at (k:=k) hj;constructor
 ·intro hp
  rw[if_neg (by omega)]at h;rw[← h,qQi _ (by omega),tSg (by omega)]
 ·intro hp
  rw[if_pos hp]at h;rw[← h,qQi _ (by omega),tSg (i:=j+1) (by omega)]
theorem ins_take_pos (k:Bs)(l:List Bs):(ins k l).take (pos k l)++[k]=(ins k l).take (pos k l+1):=by
 have hl:=ins_len k l;have hp:=pos_le k l;have h:=ins_pos k l;rw[qQi _ (by omega)]at h;rw[tSg (by omega),h]
end Wit
namespace R
def srI (w0:World)(kv:Value)(ks:List Bs)(n:Nat)(vs:List Value)(w:World):Prop :=
 ∃ (i:Nat) (lv:Value),vs=[kv,lv,.int .i64 (i:Nat)]∧i≤ks.length∧n=ks.length - i∧(ks.take i).Nodup∧NwD w0 w 34 lv (Wit.srt (ks.take i))∧No w0 w
def srJ (w1:World)(kv lv:Value)(i:Nat)(k:Bs)(l:List Bs)(n:Nat)(vs:List Value)(w:World):Prop :=
 ∃ (m:Nat),vs=[kv,lv,.int .i64 (i:Nat),.int .i64 ((max m (Wit.pos k l):Nat):Int),.int .i64 ((m:Int) - 1)]∧m≤l.length∧n=m∧(∀ j,m≤j→j<l.length→l.getD j []≠k)∧No w1 w
def srK (w1:World)(kv lv:Value)(i:Nat)(k:Bs)(l:List Bs)(n:Nat)(vs:List Value)(w:World):Prop :=
 ∃ (j:Nat) (mv:Value),vs=[kv,lv,.int .i64 (i:Nat),.int .i64 ((Wit.pos k l:Nat):Int),mv,.int .i64 (j:Nat)]∧j≤l.length∧n=l.length - j∧NwD w1 w 34 mv ((Wit.ins k l).take (j+if Wit.pos k l<j then 1 else 0))∧No w1 w
theorem sorted (w0:World){kv:Value}{ks:List Bs}(hk:RdD w0 kv ks):Fn prog 72 #[kv] w0 fun r w'=>No w0 w'∧match Wit.sortE ks with
  | .error e=>r=.tuple #[.slice none 0 0,.int .i64 e]
  | .ok l=>∃ v,r=.tuple #[v,.int .i64 0]∧NwD w0 w' 34 v l:=by
 refine go72 (by simp) ?_;obtain⟨ka,kc,rfl,hkc⟩:=hk.slice;unfold Wit.sortE
 by_cases h3:64<ks.length
 ·have d3:=dTo (((ks.length:Nat):Int) > 64)
  simp -implicitDefEqProofs only[go_sem,jF,gLa,gLz,Tryz.f72,d3];rw[if_pos h3];exact⟨Fr.refl _ _,rfl⟩
 have d3:=dFo (((ks.length:Nat):Int) > 64);rw[if_neg h3];simp -implicitDefEqProofs only[go_sem,jF,gLa,gLz,Tryz.f72,d3];refine loopD [0,4,5] (srI w0 (.slice ka ks.length kc) ks) ks.length ⟨0,_,rfl,by omega,rfl,by simp,NwD.nil _ _ _,Fr.refl _ _⟩ ?_;rintro _ vs w1 g ⟨i,lv,rfl,hi,rfl,hnd,hl1,f1⟩
 by_cases hlt:i<ks.length
 ·have d4:=dTo ((i:Int)<((ks.length:Nat):Int))
  obtain⟨la,lc,rfl,hlc⟩:=hl1.rd.slice;have hperm:=Wit.srt_perm (ks.take i);have hasc:=Wit.srt_asc (hk.1.take i) hnd;have hll:(Wit.srt (ks.take i)).length=i:=by rw[Wit.srt_len,lTk];omega
  have hsn:=Wit.srt_snoc (ks.take i) (ks.getD i []);have htk:ks.take (i+1)=ks.take i++[ks.getD i []]:=by rw[tSg hlt,qQi _ hlt]
  have hkl:=hk.1.getD hlt
  have hk1:∀ w,No w1 w→∃ b o,ka=some ⟨b,o,none⟩∧rdO prog 34 w b (o+i*32)=some (dg (ks.getD i [])):=fun w f=>by
   obtain⟨b,o,cap,he,_,_⟩:=hk.pos (by omega);cases he;exact⟨b,o,rfl,(hk.fr0 (f1.trans f)).get agg34 sz34 hlt⟩
  have hin:ks.getD i [] ∈ ks:=by rw[qQi _ hlt];exact List.getElem_mem _
  rw[htk.symm]at hsn
  have hdup:ks.getD i [] ∈ ks.take i→¬ ks.Nodup:=fun hm hn=>by
   have:=List.nodup_append.1 (htk ▸ hn.sublist (List.take_sublist (i+1) ks));exact this.2.2 _ hm _ (by simp) rfl
  have hnd':ks.getD i [] ∉ ks.take i→(ks.take (i+1)).Nodup:=fun hm=>by
   rw[htk,List.nodup_append];exact⟨hnd,by simp,fun a ha b hb e=>by simp only[vD]at hb;subst hb;subst e;exact hm ha⟩
  generalize Wit.srt (ks.take i)=l at *;generalize ks.getD i []=k at *;have c0:IntKind.i64.wrap (((l.length:Nat):Int) - 1)=((l.length:Nat):Int) - 1:=qZi (by omega) (by omega);have y1:=iBd (i:=i) (n:=ks.length);have hpl:=Wit.pos_le k l;simp -implicitDefEqProofs only[go_sem,jF,gLa,gLz,d4,c0];refine loopD [0,4,5,6,7] (srJ w1 (.slice ka ks.length kc) (.slice la l.length lc) i k l) l.length ⟨l.length,by simp only[List.map_cons,List.map_nil];rw[Nat.max_eq_left hpl];rfl,xP _,rfl,fun j h1 h2=>absurd h2 (by omega),Fr.refl _ _⟩ ?_;rintro mm vs w2 g ⟨m,rfl,hm,hmm,hne,f2⟩
  rcases Nat.eq_zero_or_pos m with rfl | hm0
  ·have d5:decide (((0:Nat):Int) - 1 ≥ 0)=false:=by simp
   have hmax:max 0 (Wit.pos k l)=Wit.pos k l:=by omega
   have hkn:k ∉ l:=fun h=>by
    obtain⟨j,hj,e⟩:=List.mem_iff_getElem.1 h;exact hne j (by omega) hj (by rw[qQi _ hj];exact e)
   simp -implicitDefEqProofs only[go_sem,jF,d5,hmax];have hl2:=hl1.fr0 f2;refine loopD [0,4,5,6,9,10] (srK w2 (.slice ka ks.length kc) (.slice la l.length lc) i k l) l.length ⟨0,_,rfl,by omega,rfl,by rw[if_neg (by omega)];exact NwD.nil _ _ _,Fr.refl _ _⟩ ?_;rintro _ vs w3 g ⟨j,mv,rfl,hj,rfl,n3,f3⟩;have f03:=f1.trans (f2.trans f3);obtain⟨b,o,rfl,q3⟩:=hk1 w3 (f2.trans f3);have fill1:∀ {d:Bs},d.length=32→∀ g,_:=fun {d} hd g=>qXb (y:=List.map u8 (zG 32 0)) (by simp) (c:=bl (zG 32 0)) (by simp) (d:=d) hd g;have hlk:(Wit.ins k l).length=l.length+1:=Wit.ins_len k l
   by_cases hjl:j<l.length
   ·have d6:=dTo ((j:Int)<((l.length:Nat):Int))
    have hkj:=hl1.1.getD hjl;obtain⟨lb,lo,lcap,he,_,_⟩:=(hl2.fr0 f3).rd.pos (by omega);cases he;have y2:=iBd (i:=j) (n:=l.length);have ql:=fun w (f:No w2 w)=>(hl2.fr0 f).rd.get (P:=prog) agg34 sz34 hjl;have hit:=Wit.ins_take (k:=k) hjl;have c2:=iSu (i:=j);have hA:((Wit.ins k l).take (j+if Wit.pos k l<j then 1 else 0)).length≤200:=by rw[lTk];omega
    by_cases hp:j=Wit.pos k l
    ·have d7:((j:Int) == ((Wit.pos k l:Nat):Int))=true:=by rw[hp];simp
     rw[if_neg (by omega),jO]at n3 hA;simp -implicitDefEqProofs only[go_sem,jF,gLa,gLz,d6,d7,y1,and_self,iTn,q3,jM,qQj];refine qQl (v:=.slice (some ⟨w3.heap.size,0,none⟩) 1 1) (w':=w3.alloc (.cells (bl k) 34)) (fill1 hkl _) ?_;obtain⟨v4,w4,hr4,n4,f4,g4,_⟩:=n3.push (P:=prog) app24_24 hkl (by omega) f3;simp -implicitDefEqProofs only[go_sem,jF];refine qQg ⟨v4,w4,hr4,?_⟩;have q4:=ql w4 f4;simp -implicitDefEqProofs only[go_sem,jF,y2,and_self,iTn,q4,jM,qQj];refine qQl (v:=.slice (some ⟨w4.heap.size,0,none⟩) 1 1) (w':=w4.alloc (.cells (bl (l.getD j [])) 34)) (fill1 hkj _) ?_;obtain⟨v5,w5,hr5,n5,f5,g5,_⟩:=n4.push (P:=prog) app24_24 hkj (by rw[lAp,jK];omega) f4;simp -implicitDefEqProofs only[go_sem,jF];refine qQg ⟨v5,w5,hr5,?_⟩;simp -implicitDefEqProofs only[go_sem,jF,c2];refine⟨l.length - (j+1),by omega,j+1,v5,rfl,by omega,rfl,?_,f5⟩;rw[if_pos (by omega),← hit.2 (by omega),hp,← Wit.ins_take_pos,← hp];exact n5
    ·have d7:((j:Int) == ((Wit.pos k l:Nat):Int))=false:=by rw[bFn];omega
     have q4:=ql w3 f3;simp -implicitDefEqProofs only[go_sem,jF,gLa,gLz,d7,y2,and_self,iTn,q4,jM,qQj];refine qQl (v:=.slice (some ⟨w3.heap.size,0,none⟩) 1 1) (w':=w3.alloc (.cells (bl (l.getD j [])) 34)) (fill1 hkj _) ?_;obtain⟨v5,w5,hr5,n5,f5,g5,_⟩:=n3.push (P:=prog) app24_24 hkj (by omega) f3;simp -implicitDefEqProofs only[go_sem,jF];refine qQg ⟨v5,w5,hr5,?_⟩;simp -implicitDefEqProofs only[go_sem,jF,c2];refine⟨l.length - (j+1),by omega,j+1,v5,rfl,by omega,rfl,?_,f5⟩
     by_cases hp2:Wit.pos k l<j
     ·rw[if_pos hp2]at n5
      rw[if_pos (by omega),← hit.2 (by omega)];exact n5
     ·rw[if_neg hp2]at n5
      rw[if_neg (by omega),jO,← hit.1 (by omega)];exact n5
   ·have d6:=dFo ((j:Int)<((l.length:Nat):Int))
    obtain rfl:j=l.length:=by omega
    have c2:=iSu (i:=i);have hnx:=hnd' fun h=>hkn (hperm.mem_iff.2 h)
    by_cases hp:Wit.pos k l=l.length
    ·have d7:(((Wit.pos k l:Nat):Int) == ((l.length:Nat):Int))=true:=by rw[hp];simp
     rw[if_neg (by omega),jO]at n3;simp -implicitDefEqProofs only[go_sem,jF,gLa,gLz,d6,d7,y1,and_self,iTn,q3,jM,qQj];refine qQl (v:=.slice (some ⟨w3.heap.size,0,none⟩) 1 1) (w':=w3.alloc (.cells (bl k) 34)) (fill1 hkl _) ?_;obtain⟨v4,w4,hr4,n4,f4,g4,_⟩:=n3.push (P:=prog) app24_24 hkl (by rw[lTk];omega) f3;simp -implicitDefEqProofs only[go_sem,jF];refine qQg ⟨v4,w4,hr4,?_⟩;simp -implicitDefEqProofs only[go_sem,jF,c2];refine⟨ks.length - (i+1),by omega,i+1,v4,rfl,by omega,rfl,hnx,?_,f1.trans (f2.trans f4)⟩;rw[← hp,Wit.ins_take_pos,hp,zF (by omega),← hsn]at n4;exact n4.back (f1.trans f2).size
    ·have d7:(((Wit.pos k l:Nat):Int) == ((l.length:Nat):Int))=false:=by rw[bFn];omega
     simp -implicitDefEqProofs only[go_sem,jF,gLa,gLz,d6,d7,c2];refine⟨ks.length - (i+1),by omega,i+1,mv,rfl,by omega,rfl,hnx,?_,f03⟩;rw[if_pos (by omega),zF (by omega),← hsn]at n3;exact n3.back (f1.trans f2).size
  ·have d5:=dTo ((m:Int) - 1 ≥ 0)
   have e1:(m:Int) - 1=((m - 1:Nat):Int):=by omega
   have hm1:m - 1<l.length:=by omega
   obtain⟨b,o,rfl,q3⟩:=hk1 w2 f2;have hl2:=hl1.fr0 f2;obtain⟨lb,lo,lcap,he,_,_⟩:=hl2.rd.pos (by omega);cases he;have q4:=hl2.rd.get (P:=prog) agg34 sz34 hm1;have hkj:=hl1.1.getD hm1;have y2:(0:Int)≤((m - 1:Nat):Int)∧((m - 1:Nat):Int)<((l.length:Nat):Int):=by omega
   have hpa:=Wit.pos_at (k:=k) hasc hm1;have hnq:∀ x,l.getD (m - 1) []=x→x ∈ l:=fun x h=>by rw[← h,qQi _ hm1];exact List.getElem_mem _
   have hne2:l.getD (m - 1) []≠k→∀ j,m - 1≤j→j<l.length→l.getD j []≠k:=fun h j h1 h2=>by
    rcases Nat.lt_or_ge j m with h3 | h3
    ·obtain rfl:j=m - 1:=by omega
     exact h
    ·exact hne j h3 h2
   rw[e1]at d5 ⊢;have q3d:rdO prog 34 w2.drew b (o+i*32)=some (dg k):=q3;have q4d:rdO prog 34 w2.drew lb (lo+(m - 1)*32)=some (dg (l.getD (m - 1) [])):=q4;generalize l.getD (m - 1) []=x at *;have c3:IntKind.i64.wrap (((m - 1:Nat):Int) - 1)=((m - 1:Nat):Int) - 1:=qZi (by omega) (by omega);simp -implicitDefEqProofs only[go_sem,jF,y1,y2,and_self,iTn,q3d,q4d];refine qQa pl128 ((cmp w2.drew hkl hkj).mono ?_);rintro _ w3 ⟨rfl,f3⟩;have f23:No w2 w3:=(Fr.refl _ _).drew.trans f3;unfold kcmp
   by_cases he:k=x
   ·have e0:((0:Int) == 0)=true:=rfl
    rw[if_pos he];simp -implicitDefEqProofs only[go_sem,jF,e0];refine⟨f1.trans (f2.trans f23),?_⟩;rw[if_neg (hdup (hperm.mem_iff.1 (by rw[he];exact hnq x rfl)))]
   ·rw[if_neg he]
    by_cases hlt2:klt k x
    ·have e0:((-1:Int) == 0)=false:=rfl
     have e2:decide ((-1:Int)<0)=true:=rfl;rw[if_pos hlt2];simp -implicitDefEqProofs only[go_sem,jF,e0,e2,c3];have hpm:=hpa.1 hlt2;exact⟨m - 1,by omega,m - 1,by rw[Nat.max_eq_left hpm],by omega,rfl,hne2 fun h=>he h.symm,f2.trans f23⟩
    ·have e0:((1:Int) == 0)=false:=rfl
     have e2:decide ((1:Int)<0)=false:=rfl;rw[if_neg hlt2];simp -implicitDefEqProofs only[go_sem,jF,e0,e2,c3];have hpm:¬ Wit.pos k l≤m - 1:=fun h=>hlt2 (hpa.2 h);exact⟨m - 1,by omega,m - 1,by rw[Nat.max_eq_right (show m≤Wit.pos k l by omega),Nat.max_eq_right (by omega)],by omega,rfl,hne2 fun h=>he h.symm,f2.trans f23⟩
 ·have d4:=dFo ((i:Int)<((ks.length:Nat):Int))
  obtain rfl:i=ks.length:=by omega
  rw[vX]at hnd hl1;rw[if_pos hnd];simp -implicitDefEqProofs only[go_sem,jF,gLa,gLz,d4];exact⟨f1,lv,rfl,hl1⟩
end R
namespace Wit
theorem layN_app (w:Int):∀ (a c:List Bs) (h:Nat) (b s:Bs),layN w h b s (a++c)=layN w (h+a.length) (layN w h b s a).1 (layN w h b s a).2 c
 | [],c,h,b,s=>rfl
 | d::a,c,h,b,s=>by
  simp only[List.cons_append,layN,List.length_cons];split
  ·rw[layN_app w a c,show h+1+a.length=h+(a.length+1) by omega]
  ·rw[layN_app w a c,show h+1+a.length=h+(a.length+1) by omega]
theorem layN_free (w:Int)(near:List Bs)(hg:f+near.length≤g)(h:f+near.length≤256):mbit (layN w f (zG 32 0) [] near).1 g=false:=by
 rw[(layN_spec w near f (zG 32 0) [] (by simp) h).2.2,mbit_zero,Bool.false_or,Bool.eq_false_iff];intro c;obtain⟨q,hq,e⟩:=List.any_eq_true.1 c;have:=gl_lt q hq;have e:g=q.1:=by simpa using e
 omega
end Wit
theorem NwB.growX {w0 w:World}(hv:NwB w0 w v bs)(x:Byte)(hl:bs.length≤70000000000000)(f:w0.heap.size≤w.heap.size) :
  ∃ v' w',(Builtin.append_ #[25,25] 0 #[v,.slice (some ⟨w.heap.size,0,.none⟩) 1 1]).run prog (w.alloc (.cells (bl [x]) 5))=.ok v' w'∧NwB w0 w' v' (bs++[x])∧Fr (fun b=>qQb v=some b) w w' ∧
   ∀ b,qQb v'=some b→qQb v=some b∨w.heap.size≤b:=by
 obtain⟨v',w',hr,h1,h3,h4⟩:=qJk app25_25 hv (m:=1) (xs:=bl [x]) (by simp) rfl (by omega) (bd47 (by omega)) (by omega) f;refine⟨v',w',hr,?_,h3,h4⟩;unfold NwB;rw[lAp,List.map_append];exact h1
theorem add_or8 {x:Byte}(hk:k<8)(h:x.getLsbD k=false):x.toNat+2 ^ k=(x ||| zK 8 (2 ^ k)).toNat:=by
 have key:∀ (x:BitVec 8) (k:Fin 8),x.getLsbD k.val=false→x.toNat+2 ^ k.val=(x ||| zK 8 (2 ^ k.val)).toNat:=by decide +kernel
 exact key x ⟨k,hk⟩ h
theorem RdD.byte {P:Program}{b o n cap:Nat}(h:RdD w (.slice (some ⟨b, o, Option.none⟩) n cap) ds){t:TypeId}(ha:aggO P t=some false)(hg:g<ds.length)(hi:i<32) :
  rdO P t w b (o+g*32+i)=some (.int .u8 (((ds.getD g []).getD i 0).toNat:Int)):=by
 obtain⟨h32,hl,a,cap',he,hcap,hat⟩:=h;cases he;obtain⟨b',o',he,hat⟩:=hat (by omega);cases he;refine rd_rc ha ?_;rw[Nat.add_assoc,hat _ (by omega),flat_at h32 hg hi,List.getElem?_map,List.getElem?_eq_getElem (by rw[h32.at hg];exact hi),qQi _ hg,qQi _ (by rw[h32.at hg];exact hi)];rfl
theorem By.rd1 (h:By w v bs)(hi:i<bs.length):∃ b o cap,v=.slice (some ⟨b,o,Option.none⟩) bs.length cap∧rdO prog 5 w b (o+i)=some (.int .u8 ((bs.getD i 0).toNat:Int)):=by
 obtain⟨b,o,cap,rfl,_⟩:=h.pos (by omega);exact⟨b,o,cap,rfl,h.get agg5 hi⟩
namespace R
def cpI (w0:World)(vv:Value)(bs:Bs)(n:Nat)(vs:List Value)(w:World):Prop :=
 ∃ (i:Nat) (v:Value),vs=[vv,v,.int .i64 (i:Nat)]∧i≤bs.length∧n=bs.length - i∧NwB w0 w v (bs.take i)∧No w0 w
theorem copied (w0:World)(hv:By w0 vv bs)(hl:bs.length≤2 ^ 40):Fn prog 129 #[vv] w0 fun v w'=>NwB w0 w' v bs∧No w0 w':=by
 refine go129 (by simp) ?_;obtain⟨va,vc,rfl,hcap⟩:=hv.slice;simp -implicitDefEqProofs only[go_sem,Tryz.f129];refine loopD [0,3,4] (cpI w0 (.slice va bs.length vc) bs) bs.length ⟨0,_,rfl,by omega,rfl,NwB.nil _ _,Fr.refl _ _⟩ ?_;rintro _ vs w3 g ⟨i,v,rfl,hi,rfl,b3,f3⟩
 by_cases hlt:i<bs.length
 ·have d1:=dTo ((i:Int)<((bs.length:Nat):Int))
  have c1:=iSu (i:=i);have y:=iBd (i:=i) (n:=bs.length);obtain⟨b,o,cap,he,r⟩:=(hv.fr0 f3).rd1 hlt;cases he;have hsn:=take_snoc (l:=bs) (i:=i) hlt;obtain⟨v4,w4,hr4,b4,f4,g4,_⟩:=NwB.grow b3 (bs.getD i 0) (by simp;omega) f3;rw[hsn]at b4;generalize bs.getD i 0=x at *;simp -implicitDefEqProofs only[go_sem,jF,gLa,gLz,y,and_self,iTn,jH,r];refine qQl (v:=.slice (some ⟨w3.heap.size,0,none⟩) 1 1) (w':=w3.alloc (.cells (bl [x]) 5)) rfl ?_;simp -implicitDefEqProofs only[go_sem,jF];refine qQg ⟨v4,w4,hr4,?_⟩;simp -implicitDefEqProofs only[go_sem,jF,c1];exact⟨bs.length - (i+1),by omega,i+1,v4,rfl,by omega,rfl,b4,f4⟩
 ·have d1:=dFo ((i:Int)<((bs.length:Nat):Int))
  have e:i=bs.length:=by omega
  subst e;rw[vX]at b3;simp -implicitDefEqProofs only[go_sem,jF,gLa,gLz,d1];exact⟨b3,f3⟩
def jnI (w0:World)(vv:Value)(xs bs:Bs)(n:Nat)(vs:List Value)(w:World):Prop :=
 ∃ (i:Nat) (v:Value),vs=[vv,v,.int .i64 (i:Nat)]∧i≤bs.length∧n=bs.length - i∧NwB w0 w v (xs++bs.take i)∧No w0 w
theorem joined (w0:World){av vv:Value}{a bs:Bs}(ha:By w0 av a)(hv:By w0 vv bs)(hla:a.length≤2 ^ 40)(hl:bs.length≤2 ^ 40):Fn prog 131 #[av,vv] w0 fun v w'=>NwB w0 w' v (a++bs)∧No w0 w':=by
 refine go131 (by simp) ?_;obtain⟨va,vc,rfl,hcap⟩:=hv.slice;simp -implicitDefEqProofs only[go_sem,jF,Tryz.f131];refine qQa pl129 ((copied w0 ha hla).mono ?_);rintro v0 w1 ⟨b1,f1⟩;simp -implicitDefEqProofs only[go_sem];refine loopD [1,5,6] (jnI w0 (.slice va bs.length vc) a bs) bs.length ⟨0,v0,rfl,by omega,rfl,by rw[jR,j9];exact b1,f1⟩ ?_;rintro _ vs w3 g ⟨i,v,rfl,hi,rfl,b3,f3⟩
 by_cases hlt:i<bs.length
 ·have d1:=dTo ((i:Int)<((bs.length:Nat):Int))
  have c1:=iSu (i:=i);have y:=iBd (i:=i) (n:=bs.length);obtain⟨b,o,cap,he,r⟩:=(hv.fr0 f3).rd1 hlt;cases he;have hsn:=take_snoc (l:=bs) (i:=i) hlt;obtain⟨v4,w4,hr4,b4,f4,g4,_⟩:=NwB.grow b3 (bs.getD i 0) (by simp;omega) f3;rw[zW,hsn]at b4;generalize bs.getD i 0=x at *;simp -implicitDefEqProofs only[go_sem,jF,gLa,gLz,y,and_self,iTn,jH,r];refine qQl (v:=.slice (some ⟨w3.heap.size,0,none⟩) 1 1) (w':=w3.alloc (.cells (bl [x]) 5)) rfl ?_;simp -implicitDefEqProofs only[go_sem,jF];refine qQg ⟨v4,w4,hr4,?_⟩;simp -implicitDefEqProofs only[go_sem,jF,c1];exact⟨bs.length - (i+1),by omega,i+1,v4,rfl,by omega,rfl,b4,f4⟩
 ·have d1:=dFo ((i:Int)<((bs.length:Nat):Int))
  have e:i=bs.length:=by omega
  subst e;rw[vX]at b3;simp -implicitDefEqProofs only[go_sem,jF,gLa,gLz,d1];exact⟨b3,f3⟩
theorem answer (w0:World){a:Option Bs}(hv:By w0 vv (a.getD []))(hl:(a.getD []).length≤256):Fn prog 132 #[.bool a.isSome,vv] w0 fun v w'=>NwB w0 w' v (Wit.ansT a)∧No w0 w':=by
 refine go132 (by simp) ?_;obtain⟨va,vc,rfl,hcap⟩:=hv.slice
 cases a with
 | none =>
  simp -implicitDefEqProofs only[go_sem,jF,Tryz.f132,Option.isSome];refine qQl (v:=.slice (some ⟨w0.heap.size,0,none⟩) 1 1) (w':=w0.alloc (.cells (bl [0]) 5)) rfl ?_;simp -implicitDefEqProofs only[go_sem];exact⟨mk_nw w0 w0 5 1 1 1 (bl [0]) (xP _) rfl (xP _),(Fr.refl _ _).alloc _⟩
 | some val =>
  simp only[Option.isSome,Option.getD_some]at hv hl ⊢;have a0:IntKind.i64.wrap (((val.length:Nat):Int).tdiv 256)=((val.length / 256:Nat):Int):=by rw[show ((val.length:Nat):Int).tdiv 256=((val.length / 256:Nat):Int) from rfl];exact i64n
  have a1:((val.length:Nat):Int).tmod 256=((val.length % 256:Nat):Int):=rfl;have n0:((256:Int)=0)=False:=by simp
  have c1:=u8_of (val.length % 256);have c2:=u8_of (val.length / 256);simp -implicitDefEqProofs only[go_sem,jF,gLa,gLz,Tryz.f132,a0,a1,n0,c1,c2];refine qQl (v:=.slice (some ⟨w0.heap.size,0,.none⟩) 3 3) (w':=w0.alloc (.cells (bl [1,zK 8 (val.length % 256),zK 8 (val.length / 256)]) 5)) rfl ?_;have f1:No w0 (w0.alloc (.cells (bl [1,zK 8 (val.length % 256),zK 8 (val.length / 256)]) 5)):=(Fr.refl _ _).alloc _;have b1:NwB w0 (w0.alloc (.cells (bl [1,zK 8 (val.length % 256),zK 8 (val.length / 256)]) 5)) (.slice (some ⟨w0.heap.size,0,.none⟩) 3 3) [1,zK 8 (val.length % 256),zK 8 (val.length / 256)]:=mk_nw w0 w0 5 1 3 3 (bl _) (xP _) rfl (xP _);generalize w0.alloc (.cells (bl [1,zK 8 (val.length % 256),zK 8 (val.length / 256)]) 5)=w1 at *;simp -implicitDefEqProofs only[go_sem,jF];refine qQa pl131 ((joined w1 b1.by (hv.fr0 f1) (by simp) (by omega)).mono ?_);rintro v2 w2 ⟨b2,f2⟩;simp -implicitDefEqProofs only[go_sem];have e:zK 8 (val.length % 256)=zK 8 val.length:=by apply BitVec.eq_of_toNat_eq;simp
  rw[e]at b2;exact⟨b2.back f1.size,f1.trans f2⟩
end R
namespace R
def lay (wd:Int)(f:Nat)(ds:List Bs)(g:Nat):Bs × Bs:=Wit.layN wd f (zG 32 0) [] ((ds.drop f).take (g - f))
theorem lay_len (wd:Int)(hg:g≤ds.length)(hf:f≤g)(h:g≤256):(lay wd f ds g).1.length=32∧Wit.mbit (lay wd f ds g).1 g=false:=by
 have hl:((ds.drop f).take (g - f)).length=g - f:=by rw[lTk,lDr];omega
 exact⟨(Wit.layN_spec wd _ f (zG 32 0) [] (by simp) (by omega)).1,Wit.layN_free wd _ (by omega) (by omega)⟩
theorem lay_succ (wd:Int)(hg:g<ds.length)(hf:f≤g):lay wd f ds (g+1)=if ds.getD g []=emptD wd g then lay wd f ds g else ((lay wd f ds g).1.set (g / 8) ((lay wd f ds g).1.getD (g / 8) 0 ||| zK 8 (2 ^ (g % 8))),(lay wd f ds g).2++ds.getD g []):=by
 have hl:((ds.drop f).take (g - f)).length=g - f:=by rw[lTk,lDr];omega
 have e:(ds.drop f).take (g+1 - f)=(ds.drop f).take (g - f)++[ds.getD g []]:=by
  rw[show g+1 - f=(g - f)+1 by omega,tSg (by rw[lDr];omega),List.getElem_drop,qQi _ hg];simp only[show f+(g - f)=g by omega]
 unfold lay;rw[e,Wit.layN_app,hl,show f+(g - f)=g by omega];simp only[Wit.layN]
theorem lay_sums (wd:Int)(h32:All32 ds)(hf:f≤g):∀ (n:Nat),g=f+n→g≤ds.length→(lay wd f ds g).2.length≤32*n:=by
 intro n
 induction n generalizing g with
 | zero=>intro h _;subst h;unfold lay;rw[jQ,jR];exact xP _
 | succ n ih =>
  intro h hg;subst h;have:=ih (g:=f+n) (by omega) rfl (by omega);rw[← Nat.add_assoc,lay_succ wd (by omega) (by omega)];split
  ·omega
  ·rw[lAp,h32.getD (by omega)];omega
theorem u64n (h:n<2 ^ 62):IntKind.u64.wrap (n:Int)=n:=by simp[IntKind.wrap,IntKind.bits,IntKind.signed];omega
def nrI (wd:Int)(w1:World)(bb:Nat)(esv dsv:Value)(ds:List Bs)(f t:Nat)(n:Nat)(vs:List Value)(w:World):Prop :=
 ∃ (g:Nat) (lv:Value),vs=[esv,dsv,.int .i64 (t:Nat),.slice (some ⟨bb,0,none⟩) 32 32,lv,.int .i64 (g:Nat)]∧f≤g∧g≤t∧n=t - g∧w.heap[bb]?=some (.cells (bl (lay wd f ds g).1) 5 (0,0)) ∧
  NwB w1 w lv (lay wd f ds g).2∧Fr (fun b=>b=bb) w1 w
def nrJ (w1:World)(bb:Nat)(esv dsv:Value)(f t g:Nat)(bits sums d:Bs)(n:Nat)(vs:List Value)(w:World):Prop :=
 ∃ (i:Nat) (lv:Value),vs=[esv,dsv,.int .i64 (t:Nat),.slice (some ⟨bb,0,none⟩) 32 32,lv,.int .i64 (g:Nat),.int .i64 (i:Nat)]∧i≤32∧n=32 - i∧w.heap[bb]?=some (.cells (bl bits) 5 (0,0)) ∧
  NwB w1 w lv (sums++d.take i)∧Fr (fun b=>b=bb) w1 w
theorem nearR (w0:World)(wd:Int){esv dsv:Value}(he:RdD w0 esv (empts wd 257))(hd:RdD w0 dsv ds){f t:Nat}(hft:f≤t)(ht:t≤ds.length)(ht2:t≤256) :
  Fn prog 133 #[esv,dsv,.int .i64 (f:Nat),.int .i64 (t:Nat)] w0 fun v w'=>NwB w0 w' v (Wit.nearT wd f ((ds.drop f).take (t - f)))∧No w0 w':=by
 refine go133 (by simp) ?_;obtain⟨ea,ec,rfl,hec⟩:=he.slice;obtain⟨da,dc,rfl,hdc⟩:=hd.slice;have hmk:=run_mk (P:=prog) (t:=25) (by':=1) slc25 sz5 by5 zero5 (l:=32) (c:=32) (xP _) (by decide) (by decide) .i64 .i64 w0;have hmc:madeCells (vM .u8 0).cells (32*1)=bl (zG 32 0):=by rw[← qQj];exact madeCells_one _ _
 rw[hmc]at hmk;obtain⟨w1,hW,f1,k1,s1⟩:=qQs w0 (bl (zG 32 0)) 5;rw[hW]at hmk;simp -implicitDefEqProofs only[go_sem,Nat.reduceAdd,Tryz.f133];refine qQg ⟨_,w1,hmk,?_⟩;simp -implicitDefEqProofs only[go_sem,jF];have e0:lay wd f ds f=(zG 32 0,[]):=by unfold lay;rw[jQ,jR];rfl
 refine loopD [0,1,3,9,10,11] (nrI wd w1 w0.heap.size (.slice ea (empts wd 257).length ec) (.slice da ds.length dc) ds f t) (t - f) ⟨f,_,rfl,xP _,hft,rfl,by rw[e0];exact k1,by rw[e0];exact NwB.nil _ _,Fr.refl _ _⟩ ?_;rintro _ vs w2 g' ⟨g,lv,rfl,hg1,hg2,rfl,k2,b2,f2⟩;have f02:No w0 w2:=f1.trans' f2 fun b hb e=>by omega
 have hbb:∀ b,qQb lv=some b→b≠w0.heap.size:=fun b hb e=>by have:=(b2.lt hb).1;omega
 by_cases hlt:g<t
 ·have d1:=dTo ((g:Int)<(t:Int))
  have hgd:g<ds.length:=by omega
  obtain⟨q1,q2⟩:=lay_len wd (ds:=ds) (f:=f) (g:=g) (by omega) hg1 (by omega);have hsc:=lay_succ wd hgd hg1;have hsl:=lay_sums wd (ds:=ds) (f:=f) (g:=g) hd.1 hg1 (g - f) (by omega) (by omega);have hdl:=hd.1.getD hgd;obtain⟨db,dof,dcap,hde,_,_⟩:=(hd.fr0 f02).pos (by omega);cases hde;have hel:(empts wd 257).length=257:=qQm _ _;obtain⟨eb,eof,ecap,hee,_,_⟩:=(he.fr0 f02).pos (by omega);cases hee;have r1:=fun w (k:No w0 w)=>(hd.fr0 k).get (P:=prog) agg23 sz23 hgd;have r2:=fun w (k:No w0 w)=>(he.fr0 k).get (P:=prog) agg23 sz23 (i:=g) (by omega);have hem:(empts wd 257).getD g []=emptD wd g:=by rw[gDq,qXw wd 257 (by omega)];rfl
  rw[hem]at r2;have rb:=fun w (k:No w0 w) (i:Nat) (hi:i<32)=>(hd.fr0 k).byte (P:=prog) agg5 hgd hi;have y1:=iBd (i:=g) (n:=ds.length);have y2:=iBd (i:=g) (n:=(empts wd 257).length);have eq:=eqDig hdl (qQp wd g);have r1d:=r1 _ f02.drew;have r2d:=r2 _ f02.drew;have r11:=r1 _ f02;have r21:=r2 _ f02;have c1:=iSu (i:=g)
  by_cases hde:ds.getD g []=emptD wd g
  ·have hb:(ds.getD g [] == emptD wd g)=true:=by rw[beq_iff_eq];exact hde
   simp -implicitDefEqProofs only[go_sem,jF,d1,y1,y2,and_self,iTn,r1d,r2d,eq,hb,c1];rw[if_pos hde]at hsc;exact⟨t - (g+1),by omega,g+1,lv,rfl,by omega,by omega,rfl,by rw[hsc];exact k2,by rw[hsc];exact b2.fr0 (Fr.refl _ _).drew,f2.drew⟩
  ·have hb:(ds.getD g [] == emptD wd g)=false:=by rw[bFn];exact hde
   rw[if_neg hde]at hsc;have a0:IntKind.i64.wrap ((g:Int).tdiv 8)=((g / 8:Nat):Int):=by rw[show (g:Int).tdiv 8=((g / 8:Nat):Int) from rfl];exact i64n
   have a1:(g:Int).tmod 8=((g % 8:Nat):Int):=rfl;have n8:((8:Int)=0)=False:=by simp
   have y3:(0:Int)≤((g / 8:Nat):Int)∧((g / 8:Nat):Int)<((32:Nat):Int):=by omega
   have rq:rdO prog 5 w2.drew w0.heap.size (g / 8)=some (.int .u8 (((lay wd f ds g).1.getD (g / 8) 0).toNat:Int)):=rd1 agg5 k2 (bl_at (by omega));have c3:IntKind.u64.wrap ((g % 8:Nat):Int)=((g % 8:Nat):Int):=u64n (by omega);have c4:(((g % 8:Nat):Int)<0)=False:=eq_false (by omega);have c5:=shl8_1 (g % 8) (by omega);have hor:=add_or8 (x:=(lay wd f ds g).1.getD (g / 8) 0) (k:=g % 8) (by omega) q2;have h2:(2:Nat) ^ (g % 8)<2 ^ 8:=Nat.pow_lt_pow_right (by omega) (by omega)
   have c6:IntKind.u8.wrap ((((lay wd f ds g).1.getD (g / 8) 0).toNat:Int)+((zK 8 (2 ^ (g % 8))).toNat:Int))=((((lay wd f ds g).1.getD (g / 8) 0 ||| zK 8 (2 ^ (g % 8))).toNat:Nat):Int):=by
    rw[← hor,BitVec.toNat_ofNat,Nat.mod_eq_of_lt h2,← Int.natCast_add,hor];exact w8_toNat _
   have q3:wrO prog 5 w2.drew w0.heap.size (g / 8) (u8 ((lay wd f ds g).1.getD (g / 8) 0 ||| zK 8 (2 ^ (g % 8))))=some (put w2.drew w0.heap.size (.cells (bl (lay wd f ds (g+1)).1) 5 (0,0))):=by
    rw[qZp sz5 (show w2.drew.heap[w0.heap.size]?=_ from k2) rfl (by rw[qXa];omega),set_u8,hsc]
   have k3:(put w2.drew w0.heap.size (.cells (bl (lay wd f ds (g+1)).1) 5 (0,0))).heap[w0.heap.size]?=some (.cells (bl (lay wd f ds (g+1)).1) 5 (0,0)):=qQf (w:=w2.drew) k2;have fp:Fr (fun b=>b=w0.heap.size) w2 (put w2.drew w0.heap.size (.cells (bl (lay wd f ds (g+1)).1) 5 (0,0))):=((Fr.refl _ _).drew).put (b:=w0.heap.size) _ fun _=>rfl;have b3:=b2.fr fp fun b hb e=>hbb b hb e;have hs2:(lay wd f ds (g+1)).2=(lay wd f ds g).2++ds.getD g []:=by rw[hsc]
   simp -implicitDefEqProofs only[go_sem,jF,d1,y1,y2,and_self,iTn,r1d,r2d,eq,hb,n8,a0,a1,y3,rq,c3,c4,c5,c6,q3];generalize put w2.drew w0.heap.size (.cells (bl (lay wd f ds (g+1)).1) 5 (0,0))=w3 at *;have f3:=f2.trans fp;refine loopD [0,1,3,9,10,11,12] (nrJ w1 w0.heap.size (.slice (some ⟨eb,eof,none⟩) (empts wd 257).length ec) (.slice (some ⟨db,dof,none⟩) ds.length dc) f t g (lay wd f ds (g+1)).1 (lay wd f ds g).2 (ds.getD g [])) 32 ⟨0,lv,rfl,by omega,rfl,k3,by rw[jR,j9];exact b3,f3⟩ ?_;rintro _ vs w4 g'' ⟨i,lv4,rfl,hi,rfl,k4,b4,f4⟩;have hbb4:∀ b,qQb lv4=some b→b≠w0.heap.size:=fun b hb e=>by have:=(b4.lt hb).1;omega
   have f04:No w0 w4:=f1.trans' f4 fun b hb e=>by omega
   by_cases hi2:i<32
   ·have d2:=dTo ((i:Int)<32)
    have c2:=iSu (i:=i);have y4:=iBd (i:=i) (n:=32);have rb4:=rb w4 f04 i hi2;have hsn:=take_snoc (l:=ds.getD g []) (i:=i) (by omega);obtain⟨v5,w5,hr5,b5,f5,g5⟩:=NwB.growX b4 ((ds.getD g []).getD i 0) (by rw[lAp,lTk];omega) f4.size;rw[zW,hsn]at b5;generalize (ds.getD g []).getD i 0=x at *;simp -implicitDefEqProofs only[go_sem,jF,d2,y1,y4,and_self,iTn,jH,rb4];refine qQl (v:=.slice (some ⟨w4.heap.size,0,.none⟩) 1 1) (w':=w4.alloc (.cells (bl [x]) 5)) rfl ?_;simp -implicitDefEqProofs only[go_sem,jF];refine qQg ⟨v5,w5,hr5,?_⟩;simp -implicitDefEqProofs only[go_sem,jF,c2];exact⟨32 - (i+1),by omega,i+1,v5,rfl,by omega,rfl,f5.at k4 fun h=>hbb4 _ h rfl,b5,f4.trans' f5 fun b hb h=>by have:=(b4.lt h).1;omega⟩
   ·have d2:=dFo ((i:Int)<32)
    obtain rfl:i=32:=by omega
    rw[zF (by omega),← hs2]at b4;simp -implicitDefEqProofs only[go_sem,jF,d2,c1];exact⟨t - (g+1),by omega,g+1,lv4,rfl,by omega,by omega,rfl,k4,b4,f4⟩
 ·have d1:=dFo ((g:Int)<(t:Int))
  obtain rfl:g=t:=by omega
  obtain⟨q1,q2⟩:=lay_len wd (ds:=ds) (f:=f) (g:=g) ht hg1 (by omega);have hsl:=lay_sums wd (ds:=ds) (f:=f) (g:=g) hd.1 hg1 (g - f) (by omega) ht;simp -implicitDefEqProofs only[go_sem,jF,d1]
  have bb:By w2 (.slice (some ⟨w0.heap.size,0,.none⟩) 32 32) (lay wd f ds g).1:=by
   have:=row_by (m:=32) (cap:=32) k2 (by omega) (xP _)
   rwa [zF (by omega)]at this
  refine qQa pl131 ((joined w2 bb b2.by (by omega) (by omega)).mono ?_);rintro v3 w3 ⟨b3,f3⟩;simp -implicitDefEqProofs only[go_sem];exact⟨b3.back f02.size,f02.trans f3⟩
end R
namespace R
abbrev wiC (wd:Int)(ev tv gv rv:Value)(p:Nat)(bad:Bool):Array Value:=#[.int .i64 wd,ev,tv,gv,rv,.int .i64 (p:Nat),.bool bad]
def WiAt (w:World)(wb:Nat)(wd:Int)(ev tv gv rv:Value)(p:Nat)(bad:Bool):Prop:=w.heap[wb]?=some (.cells (wiC wd ev tv gv rv p bad) 141 (0,0))
theorem WiAt.row {ev tv gv rv:Value}(h:WiAt w wb wd ev tv gv rv p bad):∀ t o,rdO prog t w wb o=ldO prog t (some (.cells (wiC wd ev tv gv rv p bad) 141 (0,0))) o:=fun t o=>qQo h t o
theorem WiAt.setBad {ev tv gv rv:Value}(h:WiAt w wb wd ev tv gv rv p bad):∃ w',wrO prog 4 w wb 6 (.bool true)=some w'∧WiAt w' wb wd ev tv gv rv p true∧Fr (fun b=>b=wb) w w' :=
 ⟨_,by rw[qZp sz4 h rfl (by simp)];rfl,qQf h,(Fr.refl _ _).put (b:=wb) _ fun _=>rfl⟩
theorem WiAt.setAt {ev tv gv rv:Value}(h:WiAt w wb wd ev tv gv rv p bad)(q:Nat):∃ w',wrO prog 3 w wb 5 (.int .i64 (q:Nat))=some w'∧WiAt w' wb wd ev tv gv rv q bad∧Fr (fun b=>b=wb) w w' :=
 ⟨_,by rw[qZp sz3 h rfl (by simp)];rfl,qQf h,(Fr.refl _ _).put (b:=wb) _ fun _=>rfl⟩
def TkQ (w0:World)(wb k:Nat)(wd:Int)(ev tv gv rv:Value)(p:Nat)(bad:Bool)(raw:Bs)(r:Value)(w':World):Prop:=Fr (fun b=>b=wb) w0 w'∧∃ bs:Bs,By w' r bs∧bs.length=k ∧
 (0<bs.length→∀ b,qQb r=some b→b≠wb)∧if bad=true∨raw.length<p+k then WiAt w' wb wd ev tv gv rv p true else WiAt w' wb wd ev tv gv rv (p+k) false∧bs=(raw.drop p).take k
theorem taken (u w0:World){ev tv gv rv:Value}{raw:Bs}(h:WiAt w0 wb wd ev tv gv rv p bad)(hr:By u rv raw)(no:No u w0)(hu:u.heap.size≤wb)(hrb:0<raw.length→∀ b, qQb rv=some b→b≠wb)(hp:p≤raw.length)(hl:raw.length≤2 ^ 50)(hk:k≤2 ^ 20) :
  Fn prog 208 #[pt wb 0,.int .i64 (k:Nat)] w0 (TkQ w0 wb k wd ev tv gv rv p bad raw):=by
 refine go208 (by simp) ?_;obtain⟨ra,rc,rfl,hrc⟩:=hr.slice;have r1:=h.row;have r1d:∀ t o,rdO prog t w0.drew wb o=ldO prog t (some (.cells (wiC wd ev tv gv (.slice ra raw.length rc) p bad) 141 (0,0))) o:=r1;have c1:IntKind.i64.wrap ((p:Int)+(k:Int))=((p+k:Nat):Int):=qXc;have hwb:wb<w0.heap.size:=qQh h
 have hmk:∀ w:World,∃ w',(Instr.makeSlice 25 (.int .i64 (k:Nat)) (.int .i64 (k:Nat))).run prog w=.ok (.slice (some ⟨w.heap.size,0,.none⟩) k k) w'∧By w' (.slice (some ⟨w.heap.size,0,.none⟩) k k) (zG k 0)∧No w w':=fun w=>by
  have:=run_mk (P:=prog) (t:=25) (by':=1) slc25 sz5 by5 zero5 (l:=k) (c:=k) (xP _) (by omega) (by omega) .i64 .i64 w;have hmc:madeCells (vM .u8 0).cells (k*1)=bl (zG k 0):=by rw[← qQj,jH];exact madeCells_one _ _
  rw[hmc]at this;refine⟨_,this,?_,(Fr.refl _ _).alloc _⟩
  have:=row_by (m:=k) (cap:=k) (qQc w (.cells (bl (zG k 0)) 5)) (by simp) (xP _)
  rwa [zF (by simp)]at this
 have fin:∀ w1,Fr (fun b=>b=wb) w0 w1→WiAt w1 wb wd ev tv gv (.slice ra raw.length rc) p true→(bad=true∨raw.length<p+k)→∃ w',(Instr.makeSlice 25 (.int .i64 (k:Nat)) (.int .i64 (k:Nat))).run prog w1=.ok (.slice (some ⟨w1.heap.size,0,.none⟩) k k) w'∧TkQ w0 wb k wd ev tv gv (.slice ra raw.length rc) p bad raw (.slice (some ⟨w1.heap.size,0,.none⟩) k k) w':=fun w1 f1 h1 hb=>by
  obtain⟨w',hr',hb',f'⟩:=hmk w1;refine⟨w',hr',f1.trans' f' fun _ _ h=>h.elim,_,hb',by simp,fun _ b hb2 e=>?_,?_⟩
  ·simp only[qQb,oSi]at hb2
   have:=qQh h1;omega
  ·rw[if_pos hb];exact f'.at h1 id
 cases bad with
 | true =>
  obtain⟨w1,q1,h1,f1⟩:=(show WiAt w0.drew wb wd ev tv gv (.slice ra raw.length rc) p true from h).setBad;obtain⟨w2,q2,h2⟩:=fin w1 (((Fr.refl _ _).drew).trans f1) h1 (.inl rfl);simp -implicitDefEqProofs only[go_sem,jF,gLa,gLz,gLs,Tryz.f208,r1d,qQk,tf_beq,q1];refine qQg ⟨_,w2,q2,?_⟩;simp -implicitDefEqProofs only[go_sem];exact h2
 | false =>
  by_cases hlt:raw.length<p+k
  ·have d1:=dTo (((p+k:Nat):Int) > ((raw.length:Nat):Int))
   obtain⟨w1,q1,h1,f1⟩:=(show WiAt w0.drew wb wd ev tv gv (.slice ra raw.length rc) p false from h).setBad;obtain⟨w2,q2,h2⟩:=fin w1 (((Fr.refl _ _).drew).trans f1) h1 (.inr hlt);simp -implicitDefEqProofs only[go_sem,jF,gLa,gLz,gLs,Tryz.f208,r1d,qQk,bSe,c1,d1,q1];refine qQg ⟨_,w2,q2,?_⟩;simp -implicitDefEqProofs only[go_sem];exact h2
  ·have d1:=dFo (((p+k:Nat):Int) > ((raw.length:Nat):Int))
   obtain⟨w1,q1,h1,f1⟩:=(show WiAt w0.drew wb wd ev tv gv (.slice ra raw.length rc) p false from h).setAt (p+k);have r2:=h1.row;have r2d:∀ t o,rdO prog t w1.drew wb o=ldO prog t (some (.cells (wiC wd ev tv gv (.slice ra raw.length rc) (p+k) false) 141 (0,0))) o:=r2
   have c2:IntKind.i64.wrap (((p+k:Nat):Int) - (k:Int))=((p:Nat):Int):=by
    have:=qXl (a:=p+k) (b:=k) (by omega) (by omega)
    rwa [Nat.add_sub_cancel]at this
   have sl:=slc_both (P:=prog) slc25 arr25 sz5 (a:=ra) (l:=p) (m:=p+k) (n:=raw.length) (cap:=rc) (by omega) (by omega) hrc;simp -implicitDefEqProofs only[go_sem,jF,gLa,gLz,gLs,Tryz.f208,r1d,qQk,bSe,c1,d1,q1,r2d,c2,sl];have f2:Fr (fun b=>b=wb) w0 w1.drew:=((Fr.refl _ _).drew.trans f1).drew;have nou:No u w1.drew:=no.trans' f2 fun b hb e=>by omega
   have hb:=By.cutV hr (l:=p) (m:=p+k) (by omega) (by omega) rfl;rw[Nat.add_sub_cancel_left]at hb;refine⟨f2,_,hb.fr0 nou,by rw[lTk,lDr];omega,fun h0 b hb2=>hrb (by rw[lTk,lDr]at h0;omega) b (cutV_blk hb2),?_⟩;rw[if_neg (by rintro (h | h);exact absurd h (by decide);omega)];exact⟨h1,rfl⟩
end R
namespace Wit
def gvA (f top:Nat)(bs:Bs):Option (List (Nat × Bs) × Bs):=if bs.length<32 then none else gvP f top (bs.take 32) 256 0 (bs.drop 32)
theorem nearP_gvA (w:Int)(f top:Nat)(bs:Bs):nearP w f top bs=(gvA f top bs).map fun p=>(fill f (((empts w 257).drop f).take (top - f)) p.1,p.1,p.2):=by
 unfold nearP gvA
 split <;> rfl
end Wit
namespace R
def gvRow (tn:Int)(q:Nat × Bs):List Value:=.int .i64 tn::.int .i64 (q.1:Nat)::q.2.map u8
theorem gvRow_ok (tn:Int){q:Nat × Bs}(h:q.2.length=32):(gvRow tn q).length=34∧(gvRow tn q).all one=true:=by
 refine⟨by simp[gvRow,h],?_⟩;simp only[gvRow,List.all_cons,Bool.and_eq_true];exact⟨rfl,rfl,qXs _⟩
theorem bldGv {d:Bs}(hd:d.length=32):bldO prog 267 [(1,.int .i64 (g:Nat)),(2,dg d)]=some (.agg (gvRow 0 (g,d)).toArray):=by
 simp only[bldO,zero267,places267,Option.bind_some];rw[qXj (off:=1) rfl rfl (by simp[jM]),qZd (off:=2) (n:=32) rfl (by simp[jM,hd]) (by rw[vB];show 34≤(#[vM .i64 0,vM .i64 0]++xR 32 (vM .u8 0)).size;simp),fill_nil',Option.map_some]
 congr 2
 apply Array.toList_inj.1;have e:(dg d).cells.toList=d.map u8:=rfl;rw[e,qXk _ _ _ (by rw[vB];show _≤(#[vM .i64 0,vM .i64 0]++xR 32 (vM .u8 0)).size;simp[hd])];show ((#[vM .i64 0,vM .i64 0]++xR 32 (vM .u8 0)).setIfInBounds 1 (.int .i64 (g:Nat))).toList.take 2++d.map u8++((#[vM .i64 0,vM .i64 0]++xR 32 (vM .u8 0)).setIfInBounds 1 (.int .i64 (g:Nat))).toList.drop (2+(d.map u8).length)=_;simp[gvRow,hd]
def NrX (res:Option (List (Nat × Bs) × Bs))(gl:List (Nat × Bs))(rest:Bs)(bd:Bool):Prop:=match res with
 | none=>bd=true
 | some x=>bd=false∧x=(gl,rest)
def NrQ (w0:World)(wb:Nat)(wd:Int)(ev tv gv rv:Value)(f top p:Nat)(bad:Bool)(raw:Bs)(r:Value)(w':World):Prop:=Fr (fun b=>b=wb) w0 w'∧∃ (gl:List (Nat × Bs)) (q:Nat) (bad':Bool),
 WiAt w' wb wd ev tv gv rv q bad'∧q≤raw.length∧NwR w0 w' 267 34 r (gl.map (gvRow 0))∧(∀ x ∈ gl,x.2.length=32)∧gl.length≤256 ∧
 NrX (if bad=true then none else Wit.gvA f top (raw.drop p)) gl (raw.drop q) bad'
def nqI (w1:World)(wb:Nat)(wd:Int)(ev tv gv rv bv:Value)(f top:Nat)(raw bits:Bs)(res:Option (List (Nat × Bs) × Bs))(n:Nat)(vs:List Value)(w:World):Prop :=
 ∃ (g:Nat) (lv:Value) (gl:List (Nat × Bs)) (q:Nat) (bad:Bool),vs=[pt wb 0,.int .i64 (f:Nat),.int .i64 (top:Nat),bv,lv,.int .i64 (g:Nat)]∧g≤256∧n=256 - g∧WiAt w wb wd ev tv gv rv q bad∧q≤raw.length ∧
  NwR w1 w 267 34 lv (gl.map (gvRow 0))∧(∀ x ∈ gl,x.2.length=32)∧gl.length≤g∧Fr (fun b=>b=wb) w1 w ∧
  (bad=true→res=none)∧(bad=false→res=(Wit.gvP f top bits (256 - g) g (raw.drop q)).map fun x=>(gl++x.1,x.2))
def nqJ (w1:World)(wb db:Nat)(bv lv nv:Value)(f top g:Nat)(bs:Bs)(n:Nat)(vs:List Value)(w:World):Prop :=
 ∃ (i:Nat),vs=[pt wb 0,.int .i64 (f:Nat),.int .i64 (top:Nat),bv,lv,.int .i64 (g:Nat),nv,pt db 0,.int .i64 (i:Nat)]∧i≤32∧n=32 - i∧w.heap[db]?=some (.cells (bl (bs.take i++zG (32 - i) 0)) 23 (0,0))∧Fr (fun b=>b=db) w1 w
theorem nearW (u w0:World){ev tv gv rv:Value}{f top p:Nat}{raw:Bs}(h:WiAt w0 wb wd ev tv gv rv p bad)(hr:By u rv raw)(no:No u w0)(hu:u.heap.size≤wb)(hrb:0<raw.length→∀ b, qQb rv=some b→b≠wb)(hp:p≤raw.length)(hl:raw.length≤2 ^ 50)
  (hf:f≤256) (ht:top≤256):Fn prog 209 #[pt wb 0,.int .i64 (f:Nat),.int .i64 (top:Nat)] w0 (NrQ w0 wb wd ev tv gv rv f top p bad raw):=by
 refine go209 (by simp) ?_;simp -implicitDefEqProofs only[go_sem,jF,Nat.reduceAdd,Tryz.f209];refine qQa pl208 ((taken u w0 h hr no hu hrb hp hl (k:=32) (by decide)).mono ?_);rintro bv w1 ⟨f1,bits,hbits,hbl,hbw,h1⟩;have hbw:=hbw (by omega);simp -implicitDefEqProofs only[go_sem];have hwb:wb<w0.heap.size:=qQh h;obtain⟨bb,bo,bc,rfl,hbc⟩:=hbits.pos (by omega);rw[hbl]at hbits hbc ⊢
 have start:∃ q bad',WiAt w1 wb wd ev tv gv rv q bad'∧q≤raw.length∧(bad'=true→(if bad=true then none else Wit.gvA f top (raw.drop p))=none)∧(bad'=false→(if bad=true then none else Wit.gvA f top (raw.drop p))=(Wit.gvP f top bits 256 0 (raw.drop q)).map fun x=>([]++x.1,x.2)):=by
  by_cases hb:bad=true∨raw.length<p+32
  ·rw[if_pos hb]at h1
   refine⟨p,true,h1,hp,fun _=>?_,fun h=>(by cases h)⟩
   rcases hb with rfl | hb
   ·rfl
   ·split
    ·rfl
    ·unfold Wit.gvA;rw[if_pos (by rw[lDr];omega)]
  ·rw[if_neg hb]at h1
   obtain⟨h1,hbs⟩:=h1;have hbf:¬ bad=true:=fun h=>hb (.inl h);refine⟨p+32,false,h1,by omega,fun h=>(by cases h),fun _=>?_⟩;rw[if_neg hbf];unfold Wit.gvA;rw[if_neg (by rw[lDr];omega),hbs,List.drop_drop]
   cases Wit.gvP f top ((raw.drop p).take 32) 256 0 (raw.drop (p+32)) <;> rfl
 obtain⟨q1,bad1,h1,hq1,hs1,hs2⟩:=start;unfold NrQ;generalize (if bad=true then none else Wit.gvA f top (raw.drop p))=res at *;refine loopD [0,1,2,7,8,9] (nqI w1 wb wd ev tv gv rv (.slice (some ⟨bb,bo,.none⟩) 32 bc) f top raw bits res) 256 ⟨0,_,[],q1,bad1,rfl,by omega,rfl,h1,hq1,NwR.nil _ _ _ _,fun x hx=>(by cases hx),xP _,Fr.refl _ _,hs1,hs2⟩ ?_;rintro _ vs w2 g' ⟨g,lv,gl,q,bad2,rfl,hg,rfl,h2,hq,n2,hgl,hgn,f2,i1,i2⟩;have r2:=h2.row;have hlw:∀ b,qQb lv=some b→b≠wb:=fun b hb e=>by have:=(n2.lt hb).1;have:=f1.size;omega
 have f02:=f1.trans f2
 have fin:∀ bd:Bool,(bd=true→res=none)→(bd=false→res=some (gl,raw.drop q))→NrX res gl (raw.drop q) bd:=fun bd a b=>by
  cases bd
  ·rw[b rfl];exact⟨rfl,rfl⟩
  ·rw[a rfl];rfl
 by_cases hlt:g<256
 ·have d1:=dTo ((g:Int)<256)
  cases bad2 with
  | true =>
   simp -implicitDefEqProofs only[go_sem,jF,gLa,gLz,gLs,d1,r2,qQk,bSe];refine⟨f02,gl,q,true,h2,hq,n2.back f1.size,hgl,by omega,fin true i1 fun h=>(by cases h)⟩
  | false =>
   have rb1:=(By.fr hbits f2 fun b hb _ e=>hbw b hb e).get (P:=prog) agg5 (i:=g / 8) (by omega);have a0:IntKind.i64.wrap ((g:Int).tdiv 8)=((g / 8:Nat):Int):=by rw[show (g:Int).tdiv 8=((g / 8:Nat):Int) from rfl];exact i64n
   have a1:(g:Int).tmod 8=((g % 8:Nat):Int):=rfl;have y0:(0:Int)≤((g / 8:Nat):Int)∧((g / 8:Nat):Int)<((32:Nat):Int):=by omega
   have n0:((8:Int)=0)=False:=by simp
   have c3:IntKind.u64.wrap ((g % 8:Nat):Int)=((g % 8:Nat):Int):=u64n (by omega);have c4:(((g % 8:Nat):Int)<0)=False:=eq_false (by omega);have hand:=mbit_and bits g;have c1:=iSu (i:=g);have hgv:=fun h=>gvP_skip (f:=f) (top:=top) (bits:=bits) (rest:=raw.drop q) hlt h;have hno:=fun h=>gvP_no (f:=f) (top:=top) (bits:=bits) (rest:=raw.drop q) hlt h;have hon:=fun h=>gvP_one (f:=f) (top:=top) (bits:=bits) (rest:=raw.drop q) hlt h;generalize bits.getD (g / 8) 0=bx at *
   cases hm:Wit.mbit bits g with
   | false =>
    have e:(andK .u8 (shrK .u8 (bx.toNat:Int) ((g % 8:Nat):Int)) 1 == 0)=true:=by rw[hand,hm];rfl
    simp -implicitDefEqProofs only[go_sem,jF,gLa,gLz,gLs,d1,r2,qQk,bSe,y0,rb1,a0,a1,n0,c3,c4,e,c1];exact⟨256 - (g+1),by omega,g+1,lv,gl,q,false,rfl,by omega,rfl,h2,hq,n2,hgl,by omega,f2,fun h=>(by cases h),fun _=>by rw[i2 rfl,hgv hm]⟩
   | true =>
    have e:(andK .u8 (shrK .u8 (bx.toNat:Int) ((g % 8:Nat):Int)) 1 == 0)=false:=by rw[hand,hm];rfl
    by_cases hrg:g<f∨top≤g
    ·obtain⟨w3,q3,h3,f3⟩:=h2.setBad
     have hres:res=none:=by rw[i2 rfl,hno hm (.inr hrg)];rfl
     have fin2:Fr (fun b=>b=wb) w0 w3∧∃ (gl:List (Nat × Bs)) (q:Nat) (bad':Bool),WiAt w3 wb wd ev tv gv rv q bad'∧q≤raw.length∧NwR w0 w3 267 34 (.slice .none 0 0) (gl.map (gvRow 0))∧(∀ x ∈ gl,x.2.length=32)∧gl.length≤256∧NrX res gl (raw.drop q) bad' :=
      ⟨f02.trans f3,[],q,true,h3,hq,NwR.nil _ _ _ _,fun x hx=>(by cases hx),by simp,by rw[hres];rfl⟩
     by_cases hgf:g<f
     ·have d2:=dTo ((g:Int)<(f:Int))
      simp -implicitDefEqProofs only[go_sem,jF,gLa,gLz,gLs,d1,r2,qQk,tf_beq,bSe,y0,rb1,a0,a1,n0,c3,c4,e,d2,q3];exact fin2
     ·have d2:=dFo ((g:Int)<(f:Int))
      have d3:=dTo ((g:Int) ≥ (top:Int));simp -implicitDefEqProofs only[go_sem,jF,gLa,gLz,gLs,d1,r2,qQk,bSe,y0,rb1,a0,a1,n0,c3,c4,e,d2,d3,q3];exact fin2
    ·have d2:=dFo ((g:Int)<(f:Int))
     have d3:=dFo ((g:Int) ≥ (top:Int));have nou:No u w2:=no.trans' f02 fun b hb e=>by omega
     simp -implicitDefEqProofs only[go_sem,jF,gLa,gLz,gLs,d1,r2,qQk,bSe,y0,rb1,a0,a1,n0,c3,c4,e,d2,d3];refine qQa pl208 ((taken u w2 h2 hr nou hu hrb hq hl (k:=32) (by decide)).mono ?_);rintro b3v w3 ⟨f3,bs,hbs,hbsl,hbsw,h3⟩;obtain⟨W4,hW4,f4,k4,s4⟩:=qQs w3 (bl (zG 32 0)) 23;obtain⟨b3,o3,c3',rfl,hbc3⟩:=hbs.pos (by omega);rw[hbsl]at hbs hbc3 ⊢;simp -implicitDefEqProofs only[go_sem,qQj,hW4];refine loopD [0,1,2,7,8,9,10,11,12] (nqJ W4 wb w3.heap.size (.slice (some ⟨bb,bo,.none⟩) 32 bc) lv (.slice (some ⟨b3,o3,.none⟩) 32 c3') f top g bs) 32 ⟨0,rfl,by omega,rfl,by rw[jR];exact k4,Fr.refl _ _⟩ ?_;rintro _ vs w5 g5 ⟨i,rfl,hi,rfl,k5,f5⟩
     by_cases hi2:i<32
     ·have d4:=dTo ((i:Int)<32)
      have c2:=iSu (i:=i);have y4:=iBd (i:=i) (n:=32);have rb5:=(By.fr hbs ((f4.mono fun _ _ h=>h.elim).trans f5:Fr (fun b=>b=w3.heap.size) w3 w5) fun b hb hlt e=>by omega).get (P:=prog) agg5 (i:=i) (by omega)
      have hset:(bs.take i++zG (32 - i) 0).set i (bs.getD i 0)=bs.take (i+1)++zG (32 - (i+1)) 0:=by
       rw[← take_snoc (l:=bs) (i:=i) (by omega),List.set_append_right _ _ (by rw[lTk];omega),lTk,Nat.min_eq_left (by omega),jQ,show 32 - i=(32 - (i+1))+1 by omega,List.replicate_succ,List.set_cons_zero,zW];rfl
      have q5:wrO prog 5 w5 w3.heap.size i (u8 (bs.getD i 0))=some (put w5 w3.heap.size (.cells (bl (bs.take (i+1)++zG (32 - (i+1)) 0)) 23 (0,0))):=by
       rw[qZp sz5 k5 rfl (by rw[qXa];simp;omega),set_u8,hset]
      simp -implicitDefEqProofs only[go_sem,jF,d4,y4,and_self,iTn,jH,rb5,q5,c2];exact⟨32 - (i+1),by omega,i+1,rfl,by omega,rfl,qQf k5,f5.put (b:=w3.heap.size) _ fun _=>rfl⟩
     ·have d4:=dFo ((i:Int)<32)
      obtain rfl:i=32:=by omega
      rw[zF (by omega),jQ,List.replicate_zero,j9]at k5;have r5:=rd_d agg23 sz23 k5 hbsl;have bl5:=bldGv (g:=g) hbsl;simp -implicitDefEqProofs only[go_sem,jF,d4,r5,bl5];obtain⟨gr1,gr2⟩:=gvRow_ok 0 (q:=(g,bs)) hbsl;refine qQl (v:=.slice (some ⟨w5.heap.size,0,.none⟩) 1 1) (w':=w5.alloc (.cells (gvRow 0 (g,bs)).toArray 267)) (qKh (by decide) (by decide) (by simp) (by simp) (by simpa using gr1) _) ?_;have f25:Fr (fun b=>b=wb) w2 w5:=(f3.trans' f4 fun _ _ h=>h.elim).trans' f5 fun b hb e=>by have:=f3.size;omega
      have n5:=n2.fr f25 fun b hb e=>hlw b hb e;obtain⟨v6,w6,hr6,n6,f6,_⟩:=n5.push (P:=prog) app139_139 gr1 gr2 (by decide) (by rw[List.length_map];omega) (by rw[List.length_map];omega) ((f2.trans f25).size);simp -implicitDefEqProofs only[go_sem,jF];refine qQg ⟨v6,w6,hr6,?_⟩;simp -implicitDefEqProofs only[go_sem,jF,c1];have f26:Fr (fun b=>b=wb) w1 w6:=(f2.trans f25).trans' f6 fun b hb h=>by have:=(n5.lt h).1;omega
      have h35:∀ bd q',WiAt w3 wb wd ev tv gv rv q' bd→WiAt w6 wb wd ev tv gv rv q' bd:=fun bd q' h=>by
       have hw3:wb<w3.heap.size:=qQh h;exact f6.at (f5.at (f4.at h id) (by omega)) fun e=>by have:=(n5.lt e).1;have:=f1.size;omega
      have n6:NwR w1 w6 267 34 v6 ((gl++[(g,bs)]).map (gvRow 0)):=by rw[List.map_append];exact n6
      have hal:∀ x ∈ gl++[(g,bs)],x.2.length=32:=fun x hx=>by
       rcases List.mem_append.1 hx with hx | hx
       ·exact hgl x hx
       ·simp only[vD]at hx;subst hx;exact hbsl
      by_cases hsh:raw.length<q+32
      ·rw[if_pos (.inr hsh)]at h3
       have hres:res=none:=by rw[i2 rfl,hno hm (.inl (by rw[lDr];omega))];rfl
       exact⟨256 - (g+1),by omega,g+1,v6,gl++[(g,bs)],q,true,rfl,by omega,rfl,h35 _ _ h3,hq,n6,hal,by rw[lAp,jK];omega,f26,fun _=>hres,fun h=>(by cases h)⟩
      ·rw[if_neg (by rintro (h | h);exact absurd h (by decide);exact hsh h)]at h3
       obtain⟨h3,hbe⟩:=h3;refine⟨256 - (g+1),by omega,g+1,v6,gl++[(g,bs)],q+32,false,rfl,by omega,rfl,h35 _ _ h3,by omega,n6,hal,by rw[lAp,jK];omega,f26,fun h=>(by cases h),fun _=>?_⟩;rw[i2 rfl,hon hm (by rw[lDr];omega),← hbe,List.drop_drop,Option.map_map]
       congr 1
       funext x
       simp
 ·have d1:=dFo ((g:Int)<256)
  obtain rfl:g=256:=by omega
  simp -implicitDefEqProofs only[go_sem,jF,gLa,gLz,gLs,d1,qJu];refine⟨f02,gl,q,bad2,h2,hq,n2.back f1.size,hgl,hgn,fin bad2 i1 fun hb=>?_⟩;rw[i2 hb];simp[Wit.gvP]
end R
end Go.V
