/- Helpers. -/
import Derived.Test.YtmenaeggoakppaaGreatDoorG33
import Derived.Test.YtmenaeggoakppaaGreatDoorG25
import Derived.Test.YtmenaeggoakppaaGreatDoorG35
set_option linter.all false
set_option maxRecDepth 100000
set_option maxHeartbeats 8000000
open Array renaming all_toList→y8
open List renaming getElem?_eq_getElem→xO,append_assoc→zW,replicate→zG,getElem?_append_left→zL,length_set→jY,getElem?_append_right→jN,drop_eq_getElem_cons→vS,take_of_length_le→zF,set_append_right→zA,getElem?_zipWith→rY,set_cons_zero→zI
open Nat renaming reduceEqDiff→jF,mul_one→jH,add_sub_cancel→rU,reduceAdd→vJ,sub_self→jQ,le_refl→xP
open Go.Value renaming cells→jM
namespace Go.V
open Go.Proofs.Tryz Go.V.Tryz
open Go.Proofs Sha
variable {bs t:Bs} {qs:List (Nat × Nat × Nat)} {ks:List Bs} {n pb:Nat} {kq:Nat × Nat × Nat} {A F:Nat→Prop} {av bv iv kv rv v vv xv:Value} {w w' w0:World}
theorem rep00 (w0:World)(a:Option Addr)(c:Nat):Fn prog 168 #[.slice a 0 c] w0 fun v w'=>v=.int .i64 (-1)∧No w0 w':=by
 refine go168 (by simp) ?_;have d1:decide ((0:Int)<((0:Nat):Int))=false:=rfl;simp -implicitDefEqProofs only[go_sem,Tryz.f168];refine den_scope (by kernel_rfl) ?_;simp -implicitDefEqProofs only[go_sem,jF,gLa,gLz];refine loopD [3,7,8] (fun n vs w=>n=0∧vs=[.int .i64 (-1),.int .i64 ((0:Nat):Int),.int .i64 0]∧w=w0) 0 ⟨rfl,rfl,rfl⟩ ?_;rintro _ vs w g ⟨rfl,rfl,rfl⟩;simp -implicitDefEqProofs only[go_sem,jF,d1];exact Fr.refl _ _
theorem parse00 (w0:World)(hr:By w0 rv [0,0]):Fn prog 104 #[rv] w0 fun v w'=>No w0 w'∧∃ a c,v=.tuple #[.slice a 0 c,.int .i64 0,.int .i64 0]:=by
 refine go104 (by simp) ?_;obtain⟨b,o,cap,rfl,hcap⟩:=hr.pos (by decide);have r0:rdO prog 5 w0 b o=some (.int .u8 ((0:Byte).toNat:Int)):=hr.get (P:=prog) agg5 (i:=0) (by decide);have r1:rdO prog 5 w0 b (o+1)=some (.int .u8 ((0:Byte).toNat:Int)):=hr.get (P:=prog) agg5 (i:=1) (by decide);have d0:decide (((([0,0]:Bs).length:Nat):Int)<2)=false:=rfl;have y0:(0:Int)≤0∧(0:Int)<((([0,0]:Bs).length:Nat):Int):=by decide
 have y1:(0:Int)≤1∧(1:Int)<((([0,0]:Bs).length:Nat):Int):=by decide
 have w8:IntKind.i64.wrap ((0:Byte).toNat:Int)=0:=rfl;have sh:shlK .i64 0 8=0:=rfl;have oo:orK .i64 0 0=0:=rfl;have dn:decide ((0:Int) > 64)=false:=rfl;have hcap:2≤cap:=hcap;have p1:=slc_lo (P:=prog) slc25 arr25 sz5 (a:=some (⟨b,o,.none⟩:Addr)) (n:=([0,0]:Bs).length) (cap:=cap) (l:=2) (by decide) hcap;have p1:qXe prog 25 (.slice (some ⟨b,o,.none⟩) ([0,0]:Bs).length cap) (some (.int .i64 2)) .none .none=some (cutV 1 (some ⟨b,o,.none⟩) cap 2 2):=p1;have mk:=run_mk (P:=prog) (t:=151) (by':=64) slc151 sz181 by181 zero181 (l:=0) (c:=0) (xP _) (by decide) (by decide) .i64 .i64 w0.drew;simp -implicitDefEqProofs only[go_sem,jF,gLa,gLz,Tryz.f104,d0,y0,y1,and_self,Int.toNat_zero,Int.toNat_one,jH,Nat.zero_mul,r0,r1,w8,sh,oo,dn,p1];refine qQg ⟨_,_,mk,?_⟩;obtain⟨W,hW,f1,_,_⟩:=qQs w0.drew (madeCells (Array.replicate 32 (Value.int .u8 0)++#[Value.bool false,Value.slice .none 0 0]) (0*34)) 181;have hW:w0.drew.alloc (.cells (madeCells (Value.agg (Array.replicate 32 (Value.int .u8 0)++#[Value.bool false,Value.slice .none 0 0])).cells (0*34)) 181)=W:=hW;rw[hW];have f01:No w0 W:=(Fr.refl _ _).drew.trans f1
 obtain⟨ca,cc,hcut⟩:∃ ca cc,cutV 1 (some (⟨b,o,.none⟩:Addr)) cap 2 2=.slice ca 0 cc:=⟨_,_,rfl⟩
 rw[hcut];generalize w0.drew.heap.size=nb;simp -implicitDefEqProofs only[go_sem,jF];refine loopD [5,6,7,32,33] (fun n vs w=>n=0∧vs=[.int .i64 0,.slice ca 0 cc,.slice (some ⟨nb,0,.none⟩) 0 0,.int .i64 0,.int .i64 0]∧w=W) 0 ⟨rfl,rfl,rfl⟩ ?_;rintro _ vs w g ⟨rfl,rfl,rfl⟩;have d1:decide ((0:Int)<0)=false:=rfl;have d2:decide (((0:Nat):Int) > 0)=false:=rfl;simp -implicitDefEqProofs only[go_sem,jF,gLa,gLz,d1,d2];refine qQa pl168 ((rep00 w _ _).mono ?_);rintro _ w2 ⟨rfl,f2⟩;have d3:decide ((-1:Int) ≥ 0)=false:=rfl;simp -implicitDefEqProofs only[go_sem,jF,d3];exact⟨f01.trans f2,_,_,rfl⟩
theorem parsed00 (w0:World)(hr:By w0 rv [0,0]):Fn prog 59 #[rv] w0 fun v w'=>No w0 w'∧∃ m,v=.tuple #[.agg #[.slice Option.none 0 0,.map m],.int .i64 0]:=by
 refine go59 (by simp) ?_;obtain⟨W,hW,f1,k1,s1⟩:=qQs w0 #[.slice .none 0 0,.map .none] 111;simp -implicitDefEqProofs only[go_sem,jF,Tryz.f59,jM,hW];refine qQa pl104 ((parse00 W (hr.fr0 f1)).mono ?_);rintro _ w2 ⟨f2,a,c,rfl⟩;have f02:=f1.trans f2;have bld:bldO prog 111 [(1,.map (some w2.heap.size))]=some (.agg #[.slice .none 0 0,.map (some w2.heap.size)]):=rfl;have f3:No w2 (w2.alloc (.map #[] 0)):=(Fr.refl _ _).alloc _
 obtain⟨W3,hW3⟩:∃ W3,w2.alloc (.map #[] 0)=W3:=⟨_,rfl⟩
 rw[hW3]at f3;obtain⟨W4,hW4,f4,k4,s4⟩:=qQs W3 #[.slice .none 0 0,.map .none] 111;have q5:wrO prog 111 W4 W3.heap.size 0 (.agg #[.slice .none 0 0,.map (some w2.heap.size)])=some (put W4 W3.heap.size (.cells #[.slice .none 0 0,.map (some w2.heap.size)] 111 (0,0))):=qQw (vs:=#[.slice .none 0 0,.map (some w2.heap.size)]) sz111 k4 rfl (by rw[← y8];rfl);have k5:=qQf (o:=.cells #[.slice .none 0 0,.map (some w2.heap.size)] 111 (0,0)) k4;have f5:No W3 (put W4 W3.heap.size (.cells #[.slice .none 0 0,.map (some w2.heap.size)] 111 (0,0))):=f4.put (b:=W3.heap.size) _ fun h=>absurd h (Nat.lt_irrefl _)
 obtain⟨w5,hw5⟩:∃ w5,w5=put W4 W3.heap.size (.cells #[.slice .none 0 0,.map (some w2.heap.size)] 111 (0,0)):=⟨_,rfl⟩
 rw[← hw5]at q5 k5 f5;simp -implicitDefEqProofs only[go_sem,jF,gLa,gLz,gLs,bNe,bld,hW3,hW4,jM,q5];refine loopD [2,7,23,24] (fun n vs w=>n=0∧vs=[pt w0.heap.size 0,pt W3.heap.size 0,.int .i64 ((0:Nat):Int),.int .i64 0]∧w=w5) 0 ⟨rfl,rfl,rfl⟩ ?_;rintro _ vs w g ⟨rfl,rfl,rfl⟩;have d1:decide ((0:Int)<((0:Nat):Int))=false:=rfl;have r5:rdO prog 24 w W3.heap.size 0=some (.slice .none 0 0):=rd1 agg24 k5 rfl;have f05:=(f02.trans f3).trans f5;simp -implicitDefEqProofs only[go_sem,jF,d1,r5];refine qQa pl90 ((ksort w w (NwD.nil _ _ _) (by simp)).mono ?_);rintro _ w6 ⟨rfl,_,_,_,_,f6⟩;have f6:No w w6:=f6.mono fun b _ h=>by cases h
 have k6:=f6.at k5 id;have r6:rdO prog 111 w6 W3.heap.size 0=some (.agg #[.slice .none 0 0,.map (some w2.heap.size)]):=qXz agg111 sz111 k6;have k16:=(((f2.trans f3).trans f5).trans f6).at k1 id;have q7:wrO prog 111 w6 w0.heap.size 0 (.agg #[.slice .none 0 0,.map (some w2.heap.size)])=some (put w6 w0.heap.size (.cells #[.slice .none 0 0,.map (some w2.heap.size)] 111 (0,0))):=qQw (vs:=#[.slice .none 0 0,.map (some w2.heap.size)]) sz111 k16 rfl (by rw[← y8];rfl);have r7:rdO prog 111 _ w0.heap.size 0=some (.agg #[.slice .none 0 0,.map (some w2.heap.size)]):=qXz agg111 sz111 (qQf (o:=.cells #[.slice .none 0 0,.map (some w2.heap.size)] 111 (0,0)) k16);simp -implicitDefEqProofs only[go_sem,jF,r6,q7,r7];exact⟨(f05.trans f6).put (b:=w0.heap.size) _ fun h=>by omega,_,rfl⟩
theorem step00 (w0:World)(ht:Tabs w0){root:Bs}(hroot:root.length=32)(hr:By w0 rv [0, 0]) :
  Fn prog 32 #[.int .i64 4,dg root,.slice .none 0 0,rv] w0 fun v w'=>v=.tuple #[dg root,.int .i64 0]∧No w0 w':=by
 refine go32 (by simp) ?_;obtain⟨W,hW,f1,k1,k2,s1⟩:=qZa w0 (bl root) 23 (bl (zG 32 0)) 23;simp -implicitDefEqProofs only[go_sem,jF,vJ,Tryz.f32,jM,qQj,hW];refine qQa pl46 ((sorted W 4 (kv:=.slice .none 0 0) (ks:=[]) (NwD.nil W W 34).rd).mono ?_);rintro r w2 ⟨f2,h2⟩;have hsn:Wit.sortW 4 []=.ok []:=rfl;rw[hsn]at h2;obtain⟨lv,rfl,_⟩:=h2;have f02:=f1.trans f2;simp -implicitDefEqProofs only[go_sem,jF,gLa,gLz,gLs,bNe];refine qQa pl59 ((parsed00 w2 (hr.fr0 f02)).mono ?_);rintro _ w3 ⟨f3,m,rfl⟩;have f03:=f02.trans f3;obtain⟨W4,hW4,f4,k4,s4⟩:=qQs w3 #[.slice .none 0 0,.map .none] 111;have q5:wrO prog 111 W4 w3.heap.size 0 (.agg #[.slice .none 0 0,.map m])=some (put W4 w3.heap.size (.cells #[.slice .none 0 0,.map m] 111 (0,0))):=qQw (vs:=#[.slice .none 0 0,.map m]) sz111 k4 rfl (by rw[← y8];rfl);have k5:=qQf (o:=.cells #[.slice .none 0 0,.map m] 111 (0,0)) k4;have f5:No w3 (put W4 w3.heap.size (.cells #[.slice .none 0 0,.map m] 111 (0,0))):=f4.put (b:=w3.heap.size) _ fun h=>absurd h (Nat.lt_irrefl _)
 obtain⟨w5,hw5⟩:∃ w5,w5=put W4 w3.heap.size (.cells #[.slice .none 0 0,.map m] 111 (0,0)):=⟨_,rfl⟩
 rw[← hw5]at q5 k5 f5;have f05:=f03.trans f5;have r5:rdO prog 24 w5 w3.heap.size 0=some (.slice .none 0 0):=rd1 agg24 k5 rfl;have k15:=((f2.trans f3).trans f5).at k1 id;have rr:=rd_d agg23 sz23 k15 hroot;simp -implicitDefEqProofs only[go_sem,jF,gLa,gLz,gLs,hW4,jM,q5,r5,rr,bNe];refine qQa pl47 ((under w5 (ht.no f05) 4 hroot (ks:=[]) (raw:=[]) (NwD.nil w5 w5 34).rd (NwB.nil w5 w5).by List.Pairwise.nil (by simp)).mono ?_);rintro r w6 ⟨f6,h6⟩;have hu:Wit.underP 4 root [] []=.ok none:=rfl;rw[hu]at h6;subst h6;have f06:=f05.trans f6;have k16:=f6.at k15 id;have k26:=(((f2.trans f3).trans f5).trans f6).at k2 id;have rr:=rd_d agg23 sz23 k16 hroot;have q7:=wr_d sz23 k26 zl32 hroot;have r7:=rd_d agg23 sz23 (qQf (o:=.cells (bl root) 23 (0,0)) k26) hroot;simp -implicitDefEqProofs only[go_sem,jF,gLa,gLz,gLs,bNe,rr,q7,r7];exact f06.put (b:=w0.heap.size+1) _ fun h=>by omega
theorem gather00 (w0:World)(ht:Tabs w0){root:Bs}(hroot:root.length=32) :
  Fn prog 34 #[.int .i64 4,dg root,.slice .none 0 0,.slice .none 0 0] w0 fun v w'=>v=.tuple #[.slice .none 0 0,.int .i64 0]∧No w0 w':=by
 refine go34 (by simp) ?_;obtain⟨W,hW,f1,k1,s1⟩:=qQs w0 (bl root) 23;simp -implicitDefEqProofs only[go_sem,jF,vJ,Tryz.f34,jM,hW];refine qQa pl46 ((sorted W 4 (kv:=.slice .none 0 0) (ks:=[]) (NwD.nil W W 34).rd).mono ?_);rintro r w2 ⟨f2,h2⟩;have hsn:Wit.sortW 4 []=.ok []:=rfl;rw[hsn]at h2;obtain⟨lv,rfl,n2⟩:=h2;have f02:=f1.trans f2;obtain⟨la,lc,rfl,_⟩:=n2.rd.slice;have d0:(((0:Nat):Int) != ((0:Nat):Int))=false:=rfl
 obtain⟨W3,hW3⟩:∃ W3,w2.alloc (.map #[] 0)=W3:=⟨_,rfl⟩
 have f3:No w2 W3:=by rw[← hW3];exact (Fr.refl _ _).alloc _
 have f03:=f02.trans f3;simp -implicitDefEqProofs only[go_sem,jF,gLa,gLz,gLs,bNe,hW3];refine qQa pl64 ((V.empties W3 (ht.no f03) 4).mono ?_);rintro ev w4 ⟨_,f4⟩;have f04:=f03.trans f4;simp -implicitDefEqProofs only[go_sem,jF,gLa,gLz];refine loopD [10,41,42] (fun n vs w=>n=0∧vs=[.slice la ([]:List Bs).length lc,.int .i64 ((0:Nat):Int),.int .i64 0]∧w=w4) 0 ⟨rfl,rfl,rfl⟩ ?_;rintro _ vs w g ⟨rfl,rfl,rfl⟩;have d1:decide ((0:Int)<((0:Nat):Int))=false:=rfl;have d2:(((([]:List Bs).length:Nat):Int) == 0)=true:=rfl;simp -implicitDefEqProofs only[go_sem,jF,gLa,gLz,d1,d2];exact f04
def smI (w0:World)(av bv:Value)(a b:Bs)(n:Nat)(vs:List Value)(w:World):Prop :=
 ∃ (i:Nat),vs=[av,bv,.int .i64 (i:Nat)]∧i≤a.length∧n=a.length - i∧(∀ j,j<i→a.getD j 0=b.getD j 0)∧No w0 w
theorem same (w0:World){a b:Bs}(ha:By w0 av a)(hb:By w0 bv b)(hl:a.length≤2 ^ 50):Fn prog 26 #[av,bv] w0 fun v w'=>v=.bool (decide (a=b))∧No w0 w':=by
 refine go26 (by simp) ?_;obtain⟨aa,ac,rfl,hac⟩:=ha.slice;obtain⟨ba,bc,rfl,hbc⟩:=hb.slice
 by_cases hlen:a.length=b.length
 ·have d1:(((a.length:Nat):Int) != ((b.length:Nat):Int))=false:=by rw[hlen];simp
  simp -implicitDefEqProofs only[go_sem,jF,gLa,gLz,Tryz.f26,d1];refine loopD [0,1,5] (smI w0 (.slice aa a.length ac) (.slice ba b.length bc) a b) a.length ⟨0,rfl,by omega,rfl,fun j h=>absurd h (by omega),Fr.refl _ _⟩ ?_;rintro _ vs w g ⟨i,rfl,hi,rfl,hs,f⟩
  by_cases hlt:i<a.length
  ·have d2:=dTo ((i:Int)<((a.length:Nat):Int))
   have y1:=iBd (i:=i) (n:=a.length);have y2:=iBd (i:=i) (n:=b.length);have c1:=iSu (i:=i);obtain⟨b1,o1,cap1,he,r1⟩:=(ha.fr0 f).rd1 hlt;cases he;obtain⟨b2,o2,cap2,he,r2⟩:=(hb.fr0 f).rd1 (i:=i) (by omega);cases he;have r1d:rdO prog 5 w.drew b1 (o1+i)=_:=r1;have r2d:rdO prog 5 w.drew b2 (o2+i)=_:=r2
   by_cases he:a.getD i 0=b.getD i 0
   ·have d3:(((a.getD i 0).toNat:Int) != ((b.getD i 0).toNat:Int))=false:=by rw[he];simp
    simp -implicitDefEqProofs only[go_sem,jF,gLa,gLz,decide_true,y1,y2,and_self,iTn,jH,r1d,r2d,d3,c1];refine⟨a.length - (i+1),by omega,i+1,rfl,by omega,rfl,fun j hj=>?_,f.drew⟩
    rcases Nat.lt_or_ge j i with h | h
    ·exact hs j h
    ·obtain rfl:j=i:=by omega
     exact he
   ·have d3:(((a.getD i 0).toNat:Int) != ((b.getD i 0).toNat:Int))=true:=by
     rw[bne_iff_ne];intro h;exact he (BitVec.eq_of_toNat_eq (by omega))
    simp -implicitDefEqProofs only[go_sem,jF,gLa,gLz,decide_true,y1,y2,and_self,iTn,jH,r1d,r2d,d3];rw[decide_eq_false (fun h=>he (by rw[h]))];exact⟨rfl,f.drew⟩
  ·have d2:=dFo ((i:Int)<((a.length:Nat):Int))
   obtain rfl:i=a.length:=by omega
   have heq:a=b:=List.ext_getElem hlen fun j h1 h2=>by have:=hs j h1;rwa [qQi _ h1,qQi _ h2]at this
   simp -implicitDefEqProofs only[go_sem,jF,gLa,gLz,d2];rw[decide_eq_true heq];exact⟨rfl,f⟩
 ·have d1:(((a.length:Nat):Int) != ((b.length:Nat):Int))=true:=by rw[bne_iff_ne];omega
  simp -implicitDefEqProofs only[go_sem,jF,gLa,gLz,Tryz.f26,d1];rw[decide_eq_false (fun h=>hlen (by rw[h]))];exact⟨rfl,Fr.refl _ _⟩
theorem acells_at:∀ (ps:List (Bool × Value)) (i:Nat) (h:i<ps.length),(acells ps)[i*2]?=some (.bool ps[i].1)∧(acells ps)[i*2+1]?=some ps[i].2
 | p::ps,0,_=>⟨rfl,rfl⟩
 | p::ps,i+1,h=>by
  have:=acells_at ps i (by simpa using h);have e:acells (p::ps)=.bool p.1::p.2::acells ps:=rfl;rw[e,Nat.add_mul];simpa using this
theorem AnL.at {w:World}{v:Value}{an:List (Option Bs)}(h:AnL w v an){i:Nat}(hi:i<an.length):∃ b o cap vv, v=.slice (some ⟨b, o, Option.none⟩) an.length cap∧By w vv ((an.getD i none).getD []) ∧
  ∀ w',No w w'→rdO prog 4 w' b (o+i*2)=some (.bool (an.getD i none).isSome)∧rdO prog 25 w' b (o+i*2+1)=some vv:=by
 obtain⟨ps,hp,hl,a,cap,rfl,hc,hat⟩:=h;have hil:i<ps.length:=by rw[hp.1];exact hi
 obtain⟨b,o,rfl,hat2⟩:=hat (by omega);obtain⟨h1,h2,h3⟩:=hp.2 i hil hi;have hgd:an.getD i none=an[i]:=qQi _ hi;rw[hgd];refine⟨b,o,cap,ps[i].2,by rw[hp.1],h3,fun w' k=>?_⟩;obtain⟨c1,c2⟩:=acells_at ps i hil
 have hb:b<w.heap.size:=by
  have:=hat2 (i*2) (by omega);rw[c1]at this;exact rc_lt this
 constructor
 ·refine rd_rc agg4 ?_
  rw[k.rc hb id,hat2 _ (by omega),c1,h1]
 ·refine rd_rc agg25 ?_
  rw[k.rc hb id,Nat.add_assoc,hat2 _ (by omega),c2]
theorem nextcap16_le {n m cap:Nat}(h:n≤cap)(h2:cap<n+m)(hm:m≤64):Builtin.nextslicecap (n+m) cap≤n+n / 4+1024:=by
 unfold Builtin.nextslicecap;split
 ·omega
 ·split
  ·omega
  ·simp only[Builtin.growBy]
   rw[if_neg (by omega),if_pos (by omega)];omega
theorem NwB.growY (hv:NwB w0 w v bs)(x:Byte)(hl:bs.length≤2 ^ 47)(f:No w0 w) :
  ∃ v' w',(Builtin.append_ #[25,25] 0 #[v,.slice (some ⟨w.heap.size,0,none⟩) 1 1]).run prog (w.alloc (.cells (bl [x]) 5))=.ok v' w'∧NwB w0 w' v' (bs++[x])∧No w0 w'∧Fr (fun b=>qQb v=some b) w w' ∧
   ∀ b,qQb v'=some b→qQb v=some b∨w.heap.size≤b:=by
 obtain⟨v',w',hr,h1,h2,h3,h4⟩:=qZv app25_25 hv (m:=1) (xs:=bl [x]) (by simp) rfl (by omega) (bd_one (by omega)) (by omega) f;refine⟨v',w',hr,?_,h2,h3,h4⟩;unfold NwB;rw[lAp,List.map_append];exact h1
def shI (w0:World)(vv:Value)(bs:Bs)(n:Nat)(vs:List Value)(w:World):Prop :=
 ∃ (i:Nat) (v:Value),vs=[vv,.int .i64 (bs.length:Nat),v,.int .i64 (i:Nat)]∧i≤bs.length∧n=bs.length - i∧NwB w0 w v (bs.take i)∧No w0 w
theorem short (w0:World)(hv:By w0 vv bs)(hl:bs.length≤2 ^ 47):Fn prog 45 #[vv,.int .i64 (bs.length:Nat)] w0 fun v w'=>NwB w0 w' v bs∧No w0 w':=by
 refine go45 (by simp) ?_;obtain⟨va,vc,rfl,hcap⟩:=hv.slice;simp -implicitDefEqProofs only[go_sem,Tryz.f45];refine loopD [0,1,5,6] (shI w0 (.slice va bs.length vc) bs) bs.length ⟨0,_,rfl,by omega,rfl,NwB.nil _ _,Fr.refl _ _⟩ ?_;rintro _ vs w3 g ⟨i,v,rfl,hi,rfl,b3,f3⟩
 by_cases hlt:i<bs.length
 ·have d1:=dTo ((i:Int)<((bs.length:Nat):Int))
  have c1:=iSu (i:=i);have y:=iBd (i:=i) (n:=bs.length);obtain⟨b,o,cap,he,r⟩:=(hv.fr0 f3).rd1 hlt;cases he;have hsn:=R.take_snoc (l:=bs) (i:=i) hlt;obtain⟨v4,w4,hr4,b4,f4,g4,_⟩:=NwB.growY b3 (bs.getD i 0) (by rw[lTk];omega) f3;rw[hsn]at b4;generalize bs.getD i 0=x at *;simp -implicitDefEqProofs only[go_sem,jF,gLa,gLz,gLs,decide_true,bSe,y,and_self,iTn,jH,r];refine qQl (v:=.slice (some ⟨w3.heap.size,0,none⟩) 1 1) (w':=w3.alloc (.cells (bl [x]) 5)) rfl ?_;simp -implicitDefEqProofs only[go_sem,jF];refine qQg ⟨v4,w4,hr4,?_⟩;simp -implicitDefEqProofs only[go_sem,jF,c1];exact⟨bs.length - (i+1),by omega,i+1,v4,rfl,by omega,rfl,b4,f4⟩
 ·have d1:=dFo ((i:Int)<((bs.length:Nat):Int))
  have e:i=bs.length:=by omega
  subst e;rw[List.take_length]at b3;simp -implicitDefEqProofs only[go_sem,jF,gLa,gLz,gLs,d1,qJu];exact⟨b3,f3⟩
theorem copied (w0:World)(hv:By w0 vv bs)(hl:bs.length≤2 ^ 47):Fn prog 22 #[vv] w0 fun v w'=>NwB w0 w' v bs∧No w0 w':=by
 refine go22 (by simp) ?_;obtain⟨va,vc,rfl,hcap⟩:=hv.slice;simp -implicitDefEqProofs only[go_sem,jF,gLa,gLz,Tryz.f22];refine qQa pl45 ((short w0 hv hl).mono ?_);rintro v w2 ⟨n2,f2⟩;simp -implicitDefEqProofs only[go_sem];exact⟨n2,f2⟩
def tv (q:Nat × Nat × Nat)(n:Nat):Value:=.slice (some ⟨q.1,q.2.1,Option.none⟩) n q.2.2
abbrev T16:Bs:=zG 16 2
theorem cutV_zero {sz:Nat}{q:Nat × Nat × Nat}{m:Nat}(hc:0<q.2.2):cutV sz (some ⟨q.1,q.2.1,Option.none⟩) q.2.2 0 m=tv q m:=by
 unfold cutV tv;rw[if_neg (by omega),Option.map_some,Nat.zero_mul,qZh,Nat.add_zero,Nat.sub_zero,Nat.sub_zero]
theorem roomy (w0:World)(hv:By w0 vv bs)(hl:bs.length≤2 ^ 47):Fn prog 30 #[vv] w0 fun r w'=>No w0 w'∧∃ q,r=.tuple #[tv q bs.length,tv q (bs.length+16)]∧NwB w0 w' (tv q (bs.length+16)) (bs++T16):=by
 refine go30 (by simp) ?_;simp -implicitDefEqProofs only[go_sem,jF,Tryz.f30];refine qQa pl22 ((copied w0 hv hl).mono ?_);intro v w2 hn;have n2:=hn.1;have f2:=hn.2;clear hn;simp -implicitDefEqProofs only[go_sem];refine qQl (v:=.slice (some ⟨w2.heap.size,0,.none⟩) 16 16) (w':=w2.alloc (.cells (bl T16) 5)) (by kernel_rfl) ?_
 obtain⟨v3,w3,hr3,b3,f3,_⟩:=NwB.push (P:=prog) app25_25 n2 T16 (fun cap h1 h2=>by
  have:(T16).length=16:=rfl;rw[this]at h2 ⊢;have:=nextcap16_le h1 h2 (by decide)
  omega) (by have:(T16).length=16:=rfl;omega) f2
 have hl3:(bs++T16).length=bs.length+16:=by simp
 obtain⟨b,o,cap,rfl,hq⟩:=b3.by.pos (by omega)
 rw[hl3]at hq b3 hr3;simp -implicitDefEqProofs only[go_sem,jF];refine qQg ⟨_,w3,hr3,?_⟩
 have c1:IntKind.i64.wrap (((bs.length+16:Nat):Int) - 16)=((bs.length:Nat):Int):=by
  have:=qXl (a:=bs.length+16) (b:=16) (by omega) (by omega);rw[rU]at this;exact this
 have p1:=slc_hi (P:=prog) slc25 arr25 sz5 (a:=some (⟨b,o,.none⟩:Addr)) (n:=bs.length+16) (cap:=cap) (l:=bs.length) (by omega) hq;have e:=cutV_zero (sz:=1) (q:=(b,o,cap)) (m:=bs.length) (show 0<cap by omega);rw[e]at p1;simp -implicitDefEqProofs only[go_sem,jF,gLa,gLz,c1,p1];exact⟨f3,(b,o,cap),rfl,b3⟩
def K9:Bs:=[9,9,9]++zG 29 0
theorem bldK9:bldO prog 34 [(0,.int .u8 9),(1,.int .u8 9),(2,.int .u8 9)]=some (dg K9):=by kernel_rfl
def koI (w0:World)(kv:Value)(ks:List Bs)(n:Nat)(vs:List Value)(w:World):Prop :=
 ∃ (i:Nat) (v:Value),vs=[kv,v,.int .i64 (i:Nat)]∧i≤ks.length∧n=ks.length - i∧NwD w0 w 34 v (ks.take i)∧No w0 w
theorem keysOf (w0:World)(hk:RdD w0 kv ks)(hl:ks.length≤2 ^ 42):Fn prog 29 #[kv] w0 fun r w'=>No w0 w'∧∃ q,r=.tuple #[tv q ks.length,tv q (ks.length+1)]∧NwD w0 w' 34 (tv q (ks.length+1)) (ks++[K9]):=by
 refine go29 (by simp) ?_;obtain⟨ka,kc,rfl,hkc⟩:=hk.slice;simp -implicitDefEqProofs only[go_sem,Tryz.f29];refine loopD [0,4,5] (koI w0 (.slice ka ks.length kc) ks) ks.length ⟨0,_,rfl,by omega,rfl,NwD.nil _ _ _,Fr.refl _ _⟩ ?_;rintro _ vs w3 g ⟨i,v,rfl,hi,rfl,b3,f3⟩
 by_cases hlt:i<ks.length
 ·have d1:=dTo ((i:Int)<((ks.length:Nat):Int))
  have c1:=iSu (i:=i);have y:=iBd (i:=i) (n:=ks.length);have hk3:=hk.fr0 f3;obtain⟨b,o,cap,he,_,_⟩:=hk3.pos (by omega);cases he;have r:=hk3.get (P:=prog) agg34 sz34 hlt;have hd:=hk.1.getD hlt;have hst:ks.take (i+1)=ks.take i++[ks.getD i []]:=by rw[tSg hlt,qQi _ hlt]
  generalize ks.getD i []=d at *;simp -implicitDefEqProofs only[go_sem,jF,gLa,gLz,y,and_self,iTn,r];refine qQl (v:=.slice (some ⟨w3.heap.size,0,.none⟩) 1 1) (w':=w3.alloc (.cells (bl d) 34)) (qXb (y:=List.map u8 (zG 32 0)) (by simp) (c:=bl (zG 32 0)) (by simp) (d:=d) hd _) ?_;obtain⟨v4,w4,hr4,b4,f4,g4,h4⟩:=b3.push app24_24 hd (by rw[lTk];omega) f3;rw[← hst]at b4;simp -implicitDefEqProofs only[go_sem,jF];refine qQg ⟨v4,w4,hr4,?_⟩;simp -implicitDefEqProofs only[go_sem,jF,c1];exact⟨ks.length - (i+1),by omega,i+1,v4,rfl,by omega,rfl,b4,f4⟩
 ·have d1:=dFo ((i:Int)<((ks.length:Nat):Int))
  obtain rfl:i=ks.length:=by omega
  rw[List.take_length]at b3;have hd:K9.length=32:=rfl;simp -implicitDefEqProofs only[go_sem,jF,gLa,gLz,d1,bldK9];refine qQl (v:=.slice (some ⟨w3.heap.size,0,.none⟩) 1 1) (w':=w3.alloc (.cells (bl K9) 34)) (qXb (y:=List.map u8 (zG 32 0)) (by simp) (c:=bl (zG 32 0)) (by simp) (d:=K9) hd _) ?_;obtain⟨v4,w4,hr4,b4,f4,g4,h4⟩:=b3.push app24_24 hd (by omega) f3;have hl4:(ks++[K9]).length=ks.length+1:=by simp
  obtain⟨b,o,cap,rfl,hq,_⟩:=b4.rd.pos (by omega);rw[hl4]at hq b4 hr4
  have c1:IntKind.i64.wrap (((ks.length+1:Nat):Int) - 1)=((ks.length:Nat):Int):=by
   have:=qXl (a:=ks.length+1) (b:=1) (by omega) (by omega);rw[rU]at this;exact this
  have p1:=slc_hi (P:=prog) slc24 arr24 sz34 (a:=some (⟨b,o,.none⟩:Addr)) (n:=ks.length+1) (cap:=cap) (l:=ks.length) (by omega) hq;have e:=cutV_zero (sz:=32) (q:=(b,o,cap)) (m:=ks.length) (show 0<cap by omega);rw[e]at p1;simp -implicitDefEqProofs only[go_sem,jF];refine qQg ⟨_,w4,hr4,?_⟩;simp -implicitDefEqProofs only[go_sem,jF,gLa,gLz,c1,p1];exact⟨f4,(b,o,cap),rfl,b4⟩
theorem NwB.setB {b o n cap:Nat}(h:NwB w0 w (.slice (some ⟨b, o, none⟩) n cap) bs){i:Nat}(hi:i<bs.length)(x:Byte) :
  ∃ w',wrO prog 5 w b (o+i) (u8 x)=some w'∧NwB w0 w' (.slice (some ⟨b,o,none⟩) n cap) (bs.set i x)∧Fr (fun c=>c=b) w w':=by
 obtain⟨hown,hnew⟩:=h;have hn:=By.len (Nw.rd ⟨hown,hnew⟩:By w _ bs);subst hn
 rcases hown with ⟨he,_⟩ | ⟨b',o',cap',c,he,hb,hc,hncap,hl,hat⟩
 ·cases he
 ·cases he
  refine⟨_,wr1 sz5 rfl hb (by omega),⟨.inr ⟨b,o,cap,c.setIfInBounds (o+i) (u8 x),by rw[jY],qQf hb,by rw[Array.size_setIfInBounds];exact hc,by rw[jY];exact hncap,by simp,fun j hj=>?_⟩,hnew⟩,(Fr.refl _ _).put (b:=b) _ fun _=>rfl⟩;rw[jY]at hj;rw[Array.getElem?_setIfInBounds,List.map_set,List.getElem?_set,List.length_map]
  by_cases h2:i=j
  ·subst h2
   rw[if_pos rfl,if_pos rfl,if_pos (by omega),if_pos hi]
  ·rw[if_neg (by omega),if_neg h2,hat j hj]
theorem RdD.fr' {ds:List Bs}(h:RdD w v ds)(k:Fr F w w')(hf:ds≠[]→∀ b,qQb v=some b→¬ F b):RdD w' v ds:=by
 by_cases he:ds=[]
 ·subst he
  obtain⟨h0,h1,a,cap,rfl,h2,_⟩:=h;exact⟨h0,h1,a,cap,rfl,h2,fun h=>by simp at h⟩
 ·exact h.fr k fun b hb _=>hf he b hb
def plI (u w0:World)(q:Nat × Nat × Nat)(xv:Value)(xs t:Bs)(n:Nat)(vs:List Value)(w:World):Prop :=
 ∃ (i:Nat),vs=[tv q t.length,xv,.int .i64 (i:Nat)]∧i≤t.length∧n=t.length - i∧NwB u w (tv q (t.length+16)) (xs.take i++t.drop i++T16)∧Fr (fun b=>b=q.1) w0 w
theorem place (u w0:World){q:Nat × Nat × Nat}(h:NwB u w0 (tv q (t.length+16)) (t++T16)){xs:Bs}(hx:By w0 xv xs)(hxl:xs.length=t.length)(hne:xs≠[]→∀ b, qQb xv=some b→b≠q.1)(hl:t.length≤2 ^ 50) :
  Fn prog 39 #[tv q t.length,xv] w0 fun r w'=>r=.tuple #[]∧NwB u w' (tv q (t.length+16)) (xs++T16)∧Fr (fun b=>b=q.1) w0 w':=by
 refine go39 (by simp) ?_;obtain⟨xa,xc,rfl,hcap⟩:=hx.slice;simp -implicitDefEqProofs only[go_sem,Tryz.f39];refine loopD [0,1,4] (plI u w0 q (.slice xa xs.length xc) xs t) t.length ⟨0,rfl,by omega,rfl,by rw[List.take_zero,List.nil_append,List.drop_zero];exact h,Fr.refl _ _⟩ ?_;rintro _ vs w g ⟨i,rfl,hi,rfl,h3,f3⟩
 by_cases hlt:i<t.length
 ·have d1:=dTo ((i:Int)<((t.length:Nat):Int))
  have d2:=dTo ((i:Int)<((xs.length:Nat):Int));have c1:=iSu (i:=i);have y1:=iBd (i:=i) (n:=t.length);have y2:=iBd (i:=i) (n:=xs.length);obtain⟨b,o,cap,he,r⟩:=(hx.fr' f3 hne).rd1 (i:=i) (by omega);cases he;obtain⟨w4,q4,h4,f4⟩:=h3.setB (i:=i) (by simp;omega) (xs.getD i 0)
  have hst:(xs.take i++t.drop i++T16).set i (xs.getD i 0)=xs.take (i+1)++t.drop (i+1)++T16:=by
   rw[zW,zA _ _ (by rw[lTk];omega),lTk,Nat.min_eq_left (by omega),jQ,vS hlt,List.cons_append,zI,← R.take_snoc (l:=xs) (i:=i) (by omega),zW,zW]
   rfl
  rw[hst]at h4;unfold tv at *;simp -implicitDefEqProofs only[go_sem,jF,gLa,gLz,gLs,decide_true,bSe,y1,y2,and_self,iTn,jH,r,q4,c1];exact⟨t.length - (i+1),by omega,i+1,rfl,by omega,rfl,h4,f3.trans f4⟩
 ·have d1:=dFo ((i:Int)<((t.length:Nat):Int))
  obtain rfl:i=t.length:=by omega
  rw[List.drop_length,List.append_nil,zF (by omega)]at h3;unfold tv at *;simp -implicitDefEqProofs only[go_sem,jF,gLa,gLz,gLs,d1,qJu];exact⟨h3,f3⟩
def kpI (u w0:World)(q:Nat × Nat × Nat)(xv:Value)(xs t:List Bs)(n:Nat)(vs:List Value)(w:World):Prop :=
 ∃ (i:Nat),vs=[tv q t.length,xv,.int .i64 (i:Nat)]∧i≤t.length∧n=t.length - i∧NwD u w 34 (tv q (t.length+1)) (xs.take i++t.drop i++[K9])∧Fr (fun b=>b=q.1) w0 w
theorem keysPlaced (u w0:World){q:Nat × Nat × Nat}{t:List Bs}(h:NwD u w0 34 (tv q (t.length+1)) (t++[K9])){xs:List Bs}(hx:RdD w0 xv xs)(hxl:xs.length=t.length)(hne:xs≠[]→∀ b, qQb xv=some b→b≠q.1)(hl:t.length≤2 ^ 50) :
  Fn prog 38 #[tv q t.length,xv] w0 fun r w'=>r=.tuple #[]∧NwD u w' 34 (tv q (t.length+1)) (xs++[K9])∧Fr (fun b=>b=q.1) w0 w':=by
 refine go38 (by simp) ?_;obtain⟨xa,xc,rfl,hcap⟩:=hx.slice;simp -implicitDefEqProofs only[go_sem,Tryz.f38];refine loopD [0,1,4] (kpI u w0 q (.slice xa xs.length xc) xs t) t.length ⟨0,rfl,by omega,rfl,by rw[List.take_zero,List.nil_append,List.drop_zero];exact h,Fr.refl _ _⟩ ?_;rintro _ vs w g ⟨i,rfl,hi,rfl,h3,f3⟩
 by_cases hlt:i<t.length
 ·have d1:=dTo ((i:Int)<((t.length:Nat):Int))
  have d2:=dTo ((i:Int)<((xs.length:Nat):Int));have c1:=iSu (i:=i);have y1:=iBd (i:=i) (n:=t.length);have y2:=iBd (i:=i) (n:=xs.length);have hx3:=hx.fr' f3 hne;obtain⟨b,o,cap,he,_,_⟩:=hx3.pos (by omega);cases he;have r:=hx3.get (P:=prog) agg34 sz34 (i:=i) (by omega);have hd:(xs.getD i []).length=32:=hx.1.getD (by omega);obtain⟨w4,q4,h4,f4⟩:=NwD.set (b:=q.1) (o:=q.2.1) h3 (P:=prog) sz34 (i:=i) (by simp;omega) hd
  have hst:(xs.take i++t.drop i++[K9]).set i (xs.getD i [])=xs.take (i+1)++t.drop (i+1)++[K9]:=by
   rw[zW,zA _ _ (by rw[lTk];omega),lTk,Nat.min_eq_left (by omega),jQ,vS hlt,List.cons_append,zI,tSg (show i<xs.length by omega),qQi _ (show i<xs.length by omega),zW,zW]
   rfl
  rw[hst]at h4;unfold tv at *;simp -implicitDefEqProofs only[go_sem,jF,gLa,gLz,gLs,decide_true,bSe,y1,y2,and_self,iTn,r,q4,c1];exact⟨t.length - (i+1),by omega,i+1,rfl,by omega,rfl,h4,f3.trans f4⟩
 ·have d1:=dFo ((i:Int)<((t.length:Nat):Int))
  obtain rfl:i=t.length:=by omega
  rw[List.drop_length,List.append_nil,zF (by omega)]at h3;unfold tv at *;simp -implicitDefEqProofs only[go_sem,jF,gLa,gLz,gLs,d1,qJu];exact⟨h3,f3⟩
theorem By.pre {q:Nat × Nat × Nat}{t r:Bs}(h:By w (tv q n) (t++r)):By w (tv q t.length) t:=by
 obtain⟨hl,a,cap,he,hc,hat⟩:=h;unfold tv at he;cases he;rw[lAp]at hc hat;refine⟨by simp,_,_,rfl,by omega,fun h0=>?_⟩;obtain⟨b,o,e,hat⟩:=hat (by omega);refine⟨b,o,e,fun i hi=>?_⟩;rw[hat i (by omega),List.map_append,zL (by rw[List.length_map];omega)]
theorem RdD.pre {q:Nat × Nat × Nat}{t r:List Bs}(h:RdD w (tv q n) (t++r)):RdD w (tv q t.length) t:=by
 obtain⟨h32,hl,a,cap,he,hc,hat⟩:=h;unfold tv at he;cases he;rw[lAp]at hc hat;have h32t:All32 t:=fun d hd=>h32 d (List.mem_append_left _ hd);refine⟨h32t,by rw[qJf h32t],_,_,rfl,by omega,fun h0=>?_⟩;obtain⟨b,o,e,hat⟩:=hat (by omega);refine⟨b,o,e,fun i hi=>?_⟩;rw[hat i (by omega),qJv,zL (by rw[qJf h32t];omega)]
def lfI (w0:World)(bv:Value)(q:Nat × Nat × Nat)(t:Bs)(n:Nat)(vs:List Value)(w:World):Prop :=
 ∃ (i:Nat),vs=[bv,tv q (t.length+16),.int .i64 (t.length:Nat),.int .i64 (i:Nat)]∧t.length≤i∧i≤t.length+16∧n=t.length+16 - i∧w=w0
theorem left (w0:World){q:Nat × Nat × Nat}(h:By w0 (tv q (t.length+16)) (t++T16))(hb:By w0 bv t)(hl:t.length≤2 ^ 50) :
  Fn prog 75 #[bv,tv q (t.length+16)] w0 fun r w'=>r=.bool true∧No w0 w':=by
 refine go75 (by simp) ?_;have hpre:=h.pre
 have hcap:t.length+16≤q.2.2:=by
  obtain⟨_,a,cap,he,hc,_⟩:=h;simp only[tv,Value.slice.injEq]at he;obtain⟨_,_,rfl⟩:=he;rw[lAp]at hc;simpa using hc
 obtain⟨b,o,cap⟩:=q;have e:=cutV_zero (sz:=1) (q:=(b,o,cap)) (m:=t.length) (show 0<cap by simp only at hcap;omega);have p1:=slc_hi (P:=prog) slc25 arr25 sz5 (a:=some (⟨b,o,.none⟩:Addr)) (n:=t.length+16) (cap:=cap) (l:=t.length) (by omega) hcap;rw[e]at p1
 have c0:IntKind.i64.wrap (((t.length+16:Nat):Int) - 16)=((t.length:Nat):Int):=by
  have:=qXl (a:=t.length+16) (b:=16) (by omega) (by omega);rw[rU]at this;exact this
 unfold tv at *;simp -implicitDefEqProofs only[go_sem,jF,gLa,gLz,Tryz.f75,c0];refine loopD [0,1,5,6] (lfI w0 bv (b,o,cap) t) 16 ⟨t.length,rfl,xP _,by omega,by omega,rfl⟩ ?_;rintro _ vs w g ⟨i,rfl,h1,h2,rfl,rfl⟩
 by_cases hlt:i<t.length+16
 ·have d1:=dTo ((i:Int)<((t.length+16:Nat):Int))
  have c1:=iSu (i:=i);have y1:=iBd (i:=i) (n:=t.length+16);have r:=By.get (P:=prog) h agg5 (i:=i) (by simp;omega)
  have hx:(t++T16).getD i 0=2:=by
   rw[gDq,jN h1,List.getElem?_replicate,if_pos (by omega)];rfl
  rw[hx]at r;have d2:(((2:Byte).toNat:Int) != 2)=false:=rfl;unfold tv;simp -implicitDefEqProofs only[go_sem,jF,gLa,gLz,decide_true,y1,and_self,iTn,jH,r,d2,c1];exact⟨t.length+16 - (i+1),by omega,i+1,rfl,by omega,by omega,rfl,rfl⟩
 ·have d1:=dFo ((i:Int)<((t.length+16:Nat):Int))
  unfold tv;simp -implicitDefEqProofs only[go_sem,jF,gLa,gLz,d1,p1];refine qQa pl26 ((same w hb hpre hl).mono ?_);rintro _ w2 ⟨rfl,f2⟩;have d3:decide (t=t)=true:=by simp
  rw[d3];simp -implicitDefEqProofs only[go_sem];exact f2
def klI (w0:World)(kv:Value)(q:Nat × Nat × Nat)(t:List Bs)(n:Nat)(vs:List Value)(w:World):Prop :=
 ∃ (i:Nat),vs=[kv,tv q (t.length+1),.int .i64 (i:Nat)]∧i≤t.length∧n=t.length - i∧No w0 w
theorem keysLeft (w0:World){q:Nat × Nat × Nat}{t:List Bs}(h:RdD w0 (tv q (t.length+1)) (t++[K9]))(hk:RdD w0 kv t)(hl:t.length≤2 ^ 50) :
  Fn prog 76 #[kv,tv q (t.length+1)] w0 fun r w'=>r=.bool true∧No w0 w':=by
 refine go76 (by simp) ?_;obtain⟨ka,kc,rfl,hkc⟩:=hk.slice;obtain⟨b,o,cap⟩:=q;have hl9:(t++[K9]).length=t.length+1:=by simp
 have c0:IntKind.i64.wrap (((t.length+1:Nat):Int) - 1)=((t.length:Nat):Int):=by
  have:=qXl (a:=t.length+1) (b:=1) (by omega) (by omega);rw[rU]at this;exact this
 unfold tv at *;simp -implicitDefEqProofs only[go_sem,Tryz.f76];refine loopD [0,1,5] (klI w0 (.slice ka t.length kc) (b,o,cap) t) t.length ⟨0,rfl,by omega,rfl,Fr.refl _ _⟩ ?_;rintro _ vs w g ⟨i,rfl,hi,rfl,f⟩;have h3:=h.fr0 f
 by_cases hlt:i<t.length
 ·have d1:=dTo ((i:Int)<((t.length:Nat):Int))
  have c1:=iSu (i:=i);have y1:=iBd (i:=i) (n:=t.length+1);have y2:=iBd (i:=i) (n:=t.length);have r1:=h3.get (P:=prog) agg34 sz34 (i:=i) (by omega);have hx:(t++[K9]).getD i []=t.getD i []:=by rw[gDq,zL hlt,gDq]
  rw[hx]at r1;have hk3:=hk.fr0 f;obtain⟨b2,o2,cap2,he,_,_⟩:=hk3.pos (by omega);cases he;have r2:=hk3.get (P:=prog) agg34 sz34 hlt;have hd:=hk.1.getD hlt;have r1d:rdO prog 34 w.drew b (o+i*32)=_:=r1;have r2d:rdO prog 34 w.drew b2 (o2+i*32)=_:=r2;have eq:=eqKey hd hd;have d2:(t.getD i [] == t.getD i [])=true:=by simp
  unfold tv;simp -implicitDefEqProofs only[go_sem,jF,gLa,gLz,c0,decide_true,y1,y2,and_self,iTn,r1d,r2d,eq,d2,c1];exact⟨t.length - (i+1),by omega,i+1,rfl,by omega,rfl,f.drew⟩
 ·have d1:=dFo ((i:Int)<((t.length:Nat):Int))
  obtain rfl:i=t.length:=by omega
  have y1:(0:Int)≤((t.length:Nat):Int)∧((t.length:Nat):Int)<((t.length+1:Nat):Int):=by omega
  have r1:=h3.get (P:=prog) agg34 sz34 (i:=t.length) (by omega);have hx:(t++[K9]).getD t.length []=K9:=by rw[gDq,jN (xP _),jQ];rfl
  rw[hx]at r1;have eq:=eqKey (a:=K9) (b:=K9) rfl rfl;have d2:(K9 == K9)=true:=by simp
  unfold tv;simp -implicitDefEqProofs only[go_sem,jF,gLa,gLz,c0,d1,y1,and_self,iTn,r1,bldK9,eq,d2];exact f
def oth (bs:Bs)(at':Nat):Bs:=bs.set (min at' (bs.length - 1)) (bs.getD (min at' (bs.length - 1)) 0 ^^^ 1)
theorem oth_len (bs:Bs)(at':Nat):(oth bs at').length=bs.length:=by simp[oth]
theorem other (w0:World)(hb:By w0 bv bs)(hl:bs.length≤2 ^ 47)(at':Nat)(ha:at'<2 ^ 62) :
  Fn prog 13 #[bv,.int .i64 (at':Nat)] w0 fun v w'=>NwB w0 w' v (oth bs at')∧No w0 w':=by
 refine go13 (by simp) ?_;simp -implicitDefEqProofs only[go_sem,jF,Tryz.f13];refine qQa pl22 ((copied w0 hb hl).mono ?_);rintro v w2 ⟨n2,f2⟩;obtain⟨va,vc,rfl⟩:=n2.slice
 by_cases h0:bs.length=0
 ·have d1:decide (((bs.length:Nat):Int) > 0)=false:=by rw[h0];rfl
  simp -implicitDefEqProofs only[go_sem,jF,gLa,gLz,d1]
  have:oth bs at'=bs:=by
   have:bs=[]:=List.eq_nil_of_length_eq_zero h0;subst this;rfl
  rw[this];exact⟨n2,f2⟩
 ·have d1:=dTo (((bs.length:Nat):Int) > 0)
  obtain⟨b,o,cap,e,_⟩:=n2.by.pos (by omega)
  cases e;have c0:IntKind.i64.wrap (((bs.length:Nat):Int) - 1)=((bs.length - 1:Nat):Int):=qXl (b:=1) (by omega) (by omega);have hk:min at' (bs.length - 1)<bs.length:=by omega
  obtain⟨w3,q3,n3,f3⟩:=n2.setB hk (bs.getD (min at' (bs.length - 1)) 0 ^^^ 1);have r:=n2.by.get (P:=prog) agg5 hk
  have x8:=xor8 (bs.getD (min at' (bs.length - 1)) 0) 1;have x8:xorK .u8 ((bs.getD (min at' (bs.length - 1)) 0).toNat:Int) 1=((bs.getD (min at' (bs.length - 1)) 0 ^^^ 1).toNat:Int):=x8;have y1:(0:Int)≤((min at' (bs.length - 1):Nat):Int)∧((min at' (bs.length - 1):Nat):Int)<((bs.length:Nat):Int):=by omega
  have ml:minL (.int .i64 (at':Nat)) [.int .i64 ((bs.length - 1:Nat):Int)]=some (.int .i64 ((min at' (bs.length - 1):Nat):Int)):=by
   simp only[minL]
   split <;> · congr 2;omega
  simp -implicitDefEqProofs only[go_sem,jF,gLa,gLz,d1,c0,ml,y1,and_self,iTn,jH,r,x8,q3];exact⟨n3,f2.trans' f3 fun c hc h=>by have:=(n2.lt (b:=c) (by rw[h];rfl)).1;omega⟩
def TsA (w:World)(v:Value)(ts:List Bs)(A:Nat→Prop):Prop:=∃ vals:List Value,vals.length=ts.length∧Rd w 1 v ts.length vals∧(0<ts.length→∀ b,qQb v=some b→¬ A b)∧∀ i (h:i<vals.length) (h':i<ts.length),By w vals[i] ts[i]∧(ts[i]≠[]→∀ b,qQb vals[i]=some b→¬ A b)
theorem TsA.fr {ts:List Bs}(h:TsA w v ts A)(k:Fr F w w')(hf:∀ b,F b→A b):TsA w' v ts A:=by
 obtain⟨vals,h1,h2,h3,h4⟩:=h;refine⟨vals,h1,?_,h3,?_⟩
 ·by_cases h0:0<ts.length
  ·exact h2.fr k fun b hb _ hF=>h3 h0 b hb (hf b hF)
  ·obtain⟨hl,a,cap,e,hc,hat⟩:=h2
   exact⟨hl,a,cap,e,hc,fun h=>absurd h (by omega)⟩
 exact fun i a b=>⟨(h4 i a b).1.fr' k fun hn c hc hF=>(h4 i a b).2 hn c hc (hf c hF),(h4 i a b).2⟩
theorem TsA.fr0 {ts:List Bs}(h:TsA w v ts A)(k:No w w'):TsA w' v ts A:=h.fr k fun _ h=>h.elim
theorem TsA.slice {ts:List Bs}(h:TsA w v ts A):∃ a cap,v=.slice a ts.length cap:=by
 obtain⟨vals,h1,⟨_,a,cap,rfl,_⟩,_⟩:=h;exact⟨a,cap,rfl⟩
theorem TsA.at {A:Nat→Prop}{w:World}{v:Value}{ts:List Bs}(h:TsA w v ts A){i:Nat}(hi:i<ts.length):∃ b o cap tv,v=.slice (some ⟨b,o,Option.none⟩) ts.length cap∧By w tv (ts.getD i [])∧(ts.getD i []≠[]→∀ b,qQb tv=some b→¬ A b)∧∀ w',No w w'→rdO prog 25 w' b (o+i)=some tv:=by
 obtain⟨vals,h1,⟨hl,a,cap,rfl,hc,hat⟩,h3,h4⟩:=h;obtain⟨b,o,rfl,hat2⟩:=hat (by omega);have hiv:i<vals.length:=by omega
 refine⟨b,o,cap,vals[i],rfl,by rw[qQi _ hi];exact (h4 i hiv hi).1,by rw[qQi _ hi];exact (h4 i hiv hi).2,fun w' k=>?_⟩;have hr:=hat2 i (by omega);rw[xO hiv]at hr;refine rd_rc agg25 ?_;rw[k.rc (rc_lt hr) id,hr]
structure Pl (w0 w:World) (pb:Nat) (kq:Nat × Nat × Nat) (iv av:Value) (qs:List (Nat × Nat × Nat)) (ks ts:List Bs):Prop where
 cell:w.heap[pb]?=some (.cells #[tv kq ks.length,tv kq (ks.length+1),iv,av] 59 (0,0))
 new:w0.heap.size≤pb
 key:NwD w0 w 34 (tv kq (ks.length+1)) (ks++[K9])
 len:qs.length=ts.length
 inn:Nw w0 w 25 1 iv ts.length (List.zipWith (fun q (t:Bs)=>tv q t.length) qs ts)
 all:Nw w0 w 25 1 av ts.length (List.zipWith (fun q (t:Bs)=>tv q (t.length+16)) qs ts)
 txt:∀ i (h:i<qs.length) (h':i<ts.length),NwB w0 w (tv qs[i] (ts[i].length+16)) (ts[i]++T16)
 nd:(pb::kq.1::qs.map (·.1)).Nodup
 ia:∀ b,qQb iv=some b→b ∉ pb::kq.1::qs.map (·.1)
 aa:∀ b,qQb av=some b→b ∉ pb::kq.1::qs.map (·.1)
 ii:∀ b,qQb iv=some b→qQb av≠some b
theorem Pl.fr0 {ks ts:List Bs}(h:Pl w0 w pb kq iv av qs ks ts)(k:No w w'):Pl w0 w' pb kq iv av qs ks ts :=
 ⟨k.at h.cell id,h.new,h.key.fr0 k,h.len,h.inn.fr0 k,h.all.fr0 k,fun i a b=>(h.txt i a b).fr0 k,h.nd,h.ia,h.aa,h.ii⟩
def Pl.W (kq:Nat × Nat × Nat)(qs:List (Nat × Nat × Nat)):Nat→Prop:=fun b=>b ∈ kq.1::qs.map (·.1)
theorem Pl.keys {ks ts:List Bs}(h:Pl w0 w pb kq iv av qs ks ts):RdD w (tv kq ks.length) ks:=h.key.rd.pre
theorem Pl.at {w0 w:World}{pb:Nat}{kq:Nat × Nat × Nat}{iv av:Value}{qs:List (Nat × Nat × Nat)}{ks ts:List Bs}(h:Pl w0 w pb kq iv av qs ks ts){i:Nat}(hi:i<ts.length) :
  ∃ q b1 o1 c1 b2 o2 c2,qs[i]?=some q∧iv=.slice (some ⟨b1,o1,.none⟩) ts.length c1∧av=.slice (some ⟨b2,o2,.none⟩) ts.length c2∧NwB w0 w (tv q ((ts.getD i []).length+16)) (ts.getD i []++T16) ∧
   (∀ w',No w w'→rdO prog 25 w' b1 (o1+i)=some (tv q (ts.getD i []).length))∧∀ w',No w w'→rdO prog 25 w' b2 (o2+i)=some (tv q ((ts.getD i []).length+16)):=by
 have hiq:i<qs.length:=by rw[h.len];exact hi
 obtain⟨hl1,a1,c1,rfl,_,hat1⟩:=h.inn.rd;obtain⟨hl2,a2,c2,rfl,_,hat2⟩:=h.all.rd;obtain⟨b1,o1,rfl,hat1'⟩:=hat1 (by omega);obtain⟨b2,o2,rfl,hat2'⟩:=hat2 (by omega);refine⟨qs[i],b1,o1,c1,b2,o2,c2,xO hiq,rfl,rfl,by rw[qQi _ hi];exact h.txt i hiq hi,fun w' k=>?_,fun w' k=>?_⟩
 ·have hr:=hat1' i (by omega)
  rw[rY,xO hiq,xO hi]at hr;refine rd_rc agg25 ?_;rw[k.rc (rc_lt hr) id,hr,qQi _ hi]
 ·have hr:=hat2' i (by omega)
  rw[rY,xO hiq,xO hi]at hr;refine rd_rc agg25 ?_;rw[k.rc (rc_lt hr) id,hr,qQi _ hi]
def plL (w0 w1:World)(pb:Nat)(kv tsv:Value)(ts:List Bs)(n:Nat)(vs:List Value)(w:World):Prop :=
 ∃ (i:Nat),vs=[pt pb 0,kv,tsv,.int .i64 (i:Nat)]∧i≤ts.length∧n=ts.length - i∧No w1 w
theorem placesLeft (w0 w1:World){ks ts:List Bs}(h:Pl w0 w1 pb kq iv av qs ks ts){kv tsv:Value}(hk:RdD w1 kv ks)(hts:TsA w1 tsv ts A)(hl:ks.length≤2 ^ 50)(htl:∀ t ∈ ts, t.length≤2 ^ 50)(htn:ts.length≤2 ^ 50) :
  Fn prog 37 #[pt pb 0,kv,tsv] w1 fun r w'=>r=.bool true∧No w1 w':=by
 refine go37 (by simp) ?_;obtain⟨ka,kc,rfl,hkc⟩:=hk.slice;simp -implicitDefEqProofs only[go_sem,vJ,Tryz.f37];refine loopD [0,1,2,7] (plL w0 w1 pb (.slice ka ks.length kc) tsv ts) ts.length ⟨0,rfl,by omega,rfl,Fr.refl _ _⟩ ?_;rintro _ vs w g ⟨i,rfl,hi,rfl,f⟩;have h3:=h.fr0 f;have rc3:=qQo (P:=prog) h3.cell;have rc3d:∀ t' o,rdO prog t' w.drew pb o=_:=rc3
 by_cases hlt:i<ts.length
 ·obtain⟨tb,to,tc,xv,rfl,hx,_,hxr⟩:=hts.at hlt
  have d1:=dTo ((i:Int)<((ts.length:Nat):Int));have c1:=iSu (i:=i);have y1:=iBd (i:=i) (n:=ts.length);obtain⟨q,b1,o1,c1',b2,o2,c2',hq,rfl,rfl,hN,_,hr2⟩:=h3.at hlt;have r1:=hxr w f;have r1d:=hxr w.drew f.drew;have r2:=hr2 w (Fr.refl _ _);have r2d:=hr2 w.drew (Fr.refl _ _).drew;have htl':(ts.getD i []).length≤2 ^ 50:=by rw[qQi _ hlt];exact htl _ (List.getElem_mem _)
  simp -implicitDefEqProofs only[go_sem,jF,gLa,gLz,gLs,decide_true,y1,and_self,iTn,jH,r1d,rc3d,qQk,r2d];refine qQa pl75 ((left w.drew (hN.by.fr0 (Fr.refl _ _).drew) (hx.fr0 f.drew) htl').mono ?_);rintro _ w4 ⟨rfl,f4⟩;simp -implicitDefEqProofs only[go_sem,jF,c1];exact⟨ts.length - (i+1),by omega,i+1,rfl,by omega,rfl,f.drew.trans f4⟩
 ·obtain⟨ta,tc,rfl⟩:=hts.slice
  have d1:=dFo ((i:Int)<((ts.length:Nat):Int));have d2:(((ks.length:Nat):Int) == ((ks.length:Nat):Int))=true:=by simp
  simp -implicitDefEqProofs only[go_sem,jF,gLa,gLz,gLs,d1,rc3,qQk,tv,d2,bSe];refine qQa pl76 ((keysLeft w h3.key.rd (hk.fr0 f) hl).mono ?_);rintro _ w4 ⟨rfl,f4⟩;simp -implicitDefEqProofs only[go_sem,jF];exact f.trans f4
end Go.V
