/- Helpers. -/
import Derived.Test.YtppmpdjlmgfdkaaGreatDoorG23
import Derived.Test.YtppmpdjlmgfdkaaGreatDoorG22
import Derived.Test.YtppmpdjlmgfdkaaGreatDoorG19
set_option linter.all false
set_option maxRecDepth 100000
set_option maxHeartbeats 8000000
open Bool renaming not_true→yG,not_false→xG
open List renaming replicate→zV,getElem?_cons_zero→y6,map_nil→qR
open Nat renaming reduceEqDiff→jY,zero_add→zB,lt_irrefl→jF,reduceAdd→y7,add_sub_cancel_left→y8
open Go.Value renaming cells→jH,int→yL
namespace Go.V
open Go.Proofs.Tryz Go.V.Tryz
variable {raw:Bs} {e:Int} {b cap k o p:Nat} {F:Nat→Prop} {v:Value} {u w w' w0:World}
section
open Go.Proofs
namespace A
open Aud
theorem bldSec0:bldO prog 209 []=some (dg (zV 64 0)):=by
 unfold bldO;rw[zero209,places209,arr209];rfl
theorem empty (w0:World)(hp:By w0 (.slice (some ⟨b, o, none⟩) 256 cap) raw)(hcap:256≤cap) :
  Fn prog 81 #[.slice (some ⟨b,o,none⟩) 256 cap] w0 fun v w'=>v=.bool (zer (raw.take 64))∧w'=w0:=by
 have hlen:raw.length=256:=hp.len.symm;have l64:(raw.take 64).length=64:=by rw[lTk];omega
 refine go81 (by simp) ?_;have d1:(((256:Nat):Int) == 256)=true:=rfl;have s64:qQs prog 22 (.slice (some ⟨b,o,none⟩) 256 cap) none (some (.int .i64 64)) none=some (.slice (some ⟨b,o,none⟩) 64 cap):=(slc_hi slc22 arr22 sz5 (l:=64) (n:=256) (by omega) hcap).trans (by rw[cutV_hi])
 have r64:rdO prog 209 w0 b o=some (dg (raw.take 64)):=rd_dg agg209 sz209 l64 (by omega) fun i hi=>by
  obtain⟨a,c,e,hc,hr⟩:=hp.at;simp only[Value.slice.injEq]at e;obtain⟨rfl,_,rfl⟩:=e;obtain⟨b',o',e,hr⟩:=hr i (by omega);cases e;rw[hr,List.map_take,List.getElem?_take,if_pos hi,List.getElem?_map,List.getElem?_eq_getElem (by omega)];rfl
 have z64:(64≤64)=True:=by simp
 have e0:eqV prog Op.maxDepth 209 (dg (raw.take 64)) (dg (zV 64 0))=some (raw.take 64 == zV 64 0):=eqm_dg arr209 int5 sz5 agg5 l64 (by simp)
 have ez:zer (raw.take 64)=(raw.take 64 == zV 64 0):=by
  rw[Bool.eq_iff_iff,zer_iff,l64,beq_iff_eq]
 have b0:=bldSec0;generalize (raw.take 64 == zV 64 0)=q at *;generalize zV 64 (0:Byte)=z at e0 b0;simp -implicitDefEqProofs only[go_sem,jY,gLa,gLz,gLs,bSe,Tryz.f81,d1,s64,z64,r64,b0,e0,eqg209,if_true,qR];exact⟨congrArg _ ez.symm,trivial⟩
theorem undSup:strucO prog 67=some [(false,3,0),(false,3,1),(false,3,2),(false,3,3),(false,3,4)]:=by kernel_rfl
theorem stSup:prog.stoodInHeld 67=false:=by kernel_rfl
theorem eqSup (a b:Sup):eqV prog Op.maxDepth 67 (.agg (supC a)) (.agg (supC b))=some (decide (a=b)):=by
 rw[show Op.maxDepth=9998+1+1 from rfl,eqV_st undSup stSup];simp only[List.mapM_cons,List.mapM_nil,qKd agg3,Bool.false_eq_true,if_false,List.getElem?_toArray,y6,List.getElem?_cons_succ,Option.bind_some,eqV_i int3,Option.pure_def,Option.bind_eq_bind,Option.map_some,List.all_cons,List.all_nil,id,Bool.and_true]
 congr 1
 rw[Bool.eq_iff_iff];obtain⟨a1,a2,a3,a4,a5⟩:=a;obtain⟨b1,b2,b3,b4,b5⟩:=b;simp only[Bool.and_eq_true,decide_eq_true_eq,Sup.mk.injEq];exact⟨fun ⟨h1,h2,h3,h4,h5⟩=>⟨h1,h2,h3,h5,h4⟩,fun ⟨h1,h2,h3,h5,h4⟩=>⟨h1,h2,h3,h4,h5⟩⟩
theorem newer (w0:World)(a b:Sup)(ha:a.ok)(hb:b.ok):Fn prog 80 #[.agg (supC a),.agg (supC b)] w0 (SuQ w0 (qKo a b)):=by
 refine go80 (by simp) ?_;unfold DenF;refine den_cut 2 ?_;obtain⟨W,hW,f1,k1,k2,k3,s1⟩:=allocs3 w0 (supC a) 67 (supC b) 67 sup0 67;have ga:=ha.2.1;have gb:=hb.2.1;have r0:rdO prog 3 W w0.heap.size 1=some (.int .i64 (a.gen:Nat)):=rd1 agg3 k1 rfl;have r1:rdO prog 3 W (w0.heap.size+1) 1=some (.int .i64 (b.gen:Nat)):=rd1 agg3 k2 rfl;have i20:((2:Int)=0)=False:=by simp
 have m2:∀ n:Nat,((n:Int).tmod 2)=((n % 2:Nat):Int):=fun n=>rfl;have ma:=m2 a.gen;have mb:=m2 b.gen;have na:=natne (a.gen % 2) 0;have nb:=natne (b.gen % 2) 1
 have ret:∀ (w:World) (vs:Array Value), No w0 w→w.heap[w0.heap.size+1+1]?=some (.cells sup0 67 (0, 0))→vs.size=5→vs.all one=true →
   wrO prog 67 w (w0.heap.size+1+1) 0 (.agg vs)=some (put w (w0.heap.size+1+1) (.cells vs 67 (0,0)))∧rdO prog 67 (put w (w0.heap.size+1+1) (.cells vs 67 (0,0))) (w0.heap.size+1+1) 0=some (.agg vs)∧No w0 (put w (w0.heap.size+1+1) (.cells vs 67 (0,0))):=fun w vs f k h5 ho =>
  ⟨qQr (by rw[h5];exact sz67) k (by rw[h5];rfl) ho,rd_all agg67 (by rw[h5];exact sz67) (qQd (o:=.cells vs 67 (0,0)) k),f.put (b:=w0.heap.size+1+1) _ fun h=>absurd h (by omega)⟩
 obtain⟨q1,q2,q3⟩:=ret W sup0 f1 k3 rfl sup0_one;have b0:=bldSup0
 by_cases h1:a.gen % 2=0
 case neg =>
  rw[decide_eq_true h1]at na;have e:qKo a b=.error 4:=by unfold qKo;rw[if_neg fun h=>h1 h.1]
  rw[e];have na:(((a.gen % 2:Nat):Int) != 0)=true:=na;simp -implicitDefEqProofs only[go_sem,jY,gLa,gLz,gLs,jH,qXq,zB,Tryz.f80,hW,r0,ma,na,b0,q1,q2,qR,if_true,i20];exact⟨q3,rfl⟩
 have na:(((a.gen % 2:Nat):Int) != 0)=false:=by rw[h1];rfl
 by_cases h2:b.gen % 2=1
 case neg =>
  have nb:(((b.gen % 2:Nat):Int) != 1)=true:=by rw[decide_eq_true h2]at nb;exact nb
  have e:qKo a b=.error 4:=by unfold qKo;rw[if_neg fun h=>h2 h.2.1]
  rw[e];simp -implicitDefEqProofs only[go_sem,jY,gLa,gLz,gLs,jH,bSe,zB,Tryz.f80,hW,r0,r1,ma,mb,na,nb,b0,q1,q2,qR,if_true,i20];exact⟨q3,rfl⟩
 have nb:(((b.gen % 2:Nat):Int) != 1)=false:=by rw[h2];rfl
 simp -implicitDefEqProofs only[go_sem,jY,gLa,gLz,gLs,jH,bSe,zB,Tryz.f80,hW,r0,r1,ma,mb,na,nb,i20,if_false];refine hold_go ?_;refine qXx (fun ev w=>ev 2=pt w0.heap.size 0∧ev 3=pt (w0.heap.size+1) 0∧ev 4=pt (w0.heap.size+1+1) 0∧No w0 w∧w.heap[w0.heap.size+1+1]?=some (.cells sup0 67 (0,0))∧∃ x y:Sup,(if a.gen<b.gen then x=b∧y=a else x=a∧y=b)∧w.heap[w0.heap.size]?=some (.cells (supC x) 67 (0,0))∧w.heap[w0.heap.size+1]?=some (.cells (supC y) 67 (0,0))) ?_ ?_
 ·by_cases h3:a.gen<b.gen
  ·have d3:=dTo ((a.gen:Int)<(b.gen:Int))
   have l1:=qQo (P:=prog) (t:=67) agg67 sz67 k1;have l2:=qQo (P:=prog) (t:=67) agg67 sz67 k2;have w1:wrO prog 67 W w0.heap.size 0 (.agg (supC b))=some (put W w0.heap.size (.cells (supC b) 67 (0,0))):=qQr sz67 k1 rfl (qKu _);have k21:=qQi (b:=w0.heap.size) (o:=.cells (supC b) 67 (0,0)) k2 (by omega);have k31:=qQi (b:=w0.heap.size) (o:=.cells (supC b) 67 (0,0)) k3 (by omega);have k11:=qQd (o:=.cells (supC b) 67 (0,0)) k1;have f2:=f1.put (b:=w0.heap.size) (.cells (supC b) 67 (0,0)) fun h=>absurd h (jF _);have w2:wrO prog 67 (put W w0.heap.size (.cells (supC b) 67 (0,0))) (w0.heap.size+1) 0 (.agg (supC a))=some (put (put W w0.heap.size (.cells (supC b) 67 (0,0))) (w0.heap.size+1) (.cells (supC a) 67 (0,0))):=qQr sz67 k21 rfl (qKu _);simp -implicitDefEqProofs only[go_sem,jY,zB,r0,r1,d3,l1,l2,w1,w2];exact⟨f2.put (b:=w0.heap.size+1) _ fun h=>by omega,qQi (b:=w0.heap.size+1) (o:=.cells (supC a) 67 (0,0)) k31 (by omega),b,a,by rw[if_pos h3];exact⟨rfl,rfl⟩,qQi (b:=w0.heap.size+1) (o:=.cells (supC a) 67 (0,0)) k11 (by omega),qQd (o:=.cells (supC a) 67 (0,0)) k21⟩
  ·have d3:=dFo ((a.gen:Int)<(b.gen:Int))
   simp -implicitDefEqProofs only[go_sem,jY,zB,r0,r1,d3];exact⟨f1,k3,a,b,by rw[if_neg h3];exact⟨rfl,rfl⟩,k1,k2⟩
 ·clear q1 q2 q3 r0 r1 hW k1 k2 k3 s1 f1
  rintro ev w ⟨e2,e3,e4,f1,k3,x,y,hxy,k1,k2⟩
  have hx:x.ok:=by split at hxy <;> obtain⟨rfl,rfl⟩:=hxy <;> assumption
  have hy:y.ok:=by split at hxy <;> obtain⟨rfl,rfl⟩:=hxy <;> assumption
  have gx:=hx.2.1;have gy:=hy.2.1;have la:=qQo (P:=prog) (t:=67) agg67 sz67 k2;obtain⟨W5,hW5,f5,k5,s5⟩:=qQl w sup0 67;have q5:wrO prog 67 W5 w.heap.size 0 (.agg (supC y))=some (put W5 w.heap.size (.cells (supC y) 67 (0,0))):=qQr sz67 k5 rfl (qKu _);have k6:=qQd (o:=.cells (supC y) 67 (0,0)) k5;have h1s:=qQh k1;have h2s:=qQh k2;have h3s:=qQh k3;have f6:No w (put W5 w.heap.size (.cells (supC y) 67 (0,0))):=f5.put (b:=w.heap.size) _ fun h=>absurd h (jF _);simp -implicitDefEqProofs only[go_sem,jY,jH,e3,la,hW5,q5];generalize put W5 w.heap.size (.cells (supC y) 67 (0,0))=W6 at *;generalize htb:w.heap.size=tb at *;have r1:rdO prog 3 W6.drew (w0.heap.size+1) 1=some (.int .i64 (y.gen:Nat)):=rd1 (w:=W6.drew) agg3 (f6.at k2 id) rfl
  have rr:∀ (W:World) (o:Obj),W=put W6.drew tb o∨W=W6.drew→rdO prog 3 W w0.heap.size 2=some (.int .i64 (x.mark:Nat))∧rdO prog 3 W w0.heap.size 3=some (.int .i64 (x.head:Nat)):=fun W o h=>by
   have k:W.heap[w0.heap.size]?=some (.cells (supC x) 67 (0,0)):=by
    rcases h with rfl | rfl
    ·exact qQi (w:=W6.drew) (f6.at k1 id) (by omega)
    ·exact f6.at k1 id
   exact⟨rd1 agg3 k rfl,rd1 agg3 k rfl⟩
  have c1:IntKind.i64.wrap ((y.gen:Int)+1)=((y.gen+1:Nat):Int):=by rw[qQm (by omega) (by omega)];rfl
  obtain⟨ra2,ra3⟩:=rr W6.drew (.map #[] 0) (.inr rfl);have w8:wrO prog 3 W6.drew tb 1 (.int .i64 ((y.gen+1:Nat):Int))=some (put W6.drew tb (.cells #[.int .i64 (y.width:Nat),.int .i64 ((y.gen+1:Nat):Int),.int .i64 (y.mark:Nat),.int .i64 (y.head:Nat),.int .i64 (y.pages:Nat)] 67 (0,0))):=wr1 (w:=W6.drew) sz3 rfl k6 (by simp);obtain⟨rb2,rb3⟩:=rr _ (.cells #[.int .i64 (y.width:Nat),.int .i64 ((y.gen+1:Nat):Int),.int .i64 (y.mark:Nat),.int .i64 (y.head:Nat),.int .i64 (y.pages:Nat)] 67 (0,0)) (.inl rfl);have pp:∀ o o':Obj,put (put W6.drew tb o) tb o'=put W6.drew tb o':=fun o o'=>by simp[put]
  have kk:∀ c:Array Value,(put W6.drew tb (.cells c 67 (0,0))).heap[tb]?=some (.cells c 67 (0,0)):=fun c=>qQd (w:=W6.drew) (o:=.cells c 67 (0,0)) k6
  have w10:wrO prog 3 (put W6.drew tb (.cells #[.int .i64 (y.width:Nat),.int .i64 ((y.gen+1:Nat):Int),.int .i64 (y.mark:Nat),.int .i64 (y.head:Nat),.int .i64 (y.pages:Nat)] 67 (0,0))) tb 2 (.int .i64 (x.mark:Nat))=some (put W6.drew tb (.cells #[.int .i64 (y.width:Nat),.int .i64 ((y.gen+1:Nat):Int),.int .i64 (x.mark:Nat),.int .i64 (y.head:Nat),.int .i64 (y.pages:Nat)] 67 (0,0))):=by
   refine (wr1 (P:=prog) (t:=3) (o:=2) (v:=.int .i64 (x.mark:Nat)) sz3 rfl (kk _) ?_).trans (congrArg some (pp _ _));show 2<5;decide
  obtain⟨rc2,rc3⟩:=rr _ (.cells #[.int .i64 (y.width:Nat),.int .i64 ((y.gen+1:Nat):Int),.int .i64 (x.mark:Nat),.int .i64 (y.head:Nat),.int .i64 (y.pages:Nat)] 67 (0,0)) (.inl rfl)
  have w12:wrO prog 3 (put W6.drew tb (.cells #[.int .i64 (y.width:Nat),.int .i64 ((y.gen+1:Nat):Int),.int .i64 (x.mark:Nat),.int .i64 (y.head:Nat),.int .i64 (y.pages:Nat)] 67 (0,0))) tb 3 (.int .i64 (x.head:Nat))=some (put W6.drew tb (.cells (supC ⟨y.width,y.gen+1,x.mark,y.pages,x.head⟩) 67 (0,0))):=by
   refine (wr1 (P:=prog) (t:=3) (o:=3) (v:=.int .i64 (x.head:Nat)) sz3 rfl (kk _) ?_).trans (congrArg some (pp _ _));show 3<5;decide
  refine qXc (Q:=fun e ev w=>e=.normal∧ev 2=pt w0.heap.size 0∧ev 3=pt (w0.heap.size+1) 0∧ev 4=pt (w0.heap.size+1+1) 0∧ev 6=pt tb 0∧w=put W6.drew tb (.cells (supC ⟨y.width,y.gen+1,x.mark,y.pages,x.head⟩) 67 (0,0))) _ (fun e ev w=>?_) ?_
  ·rintro⟨rfl,e2,e3,e4,e6,rfl⟩
   have f7:No w0 (put W6.drew tb (.cells (supC ⟨y.width,y.gen+1,x.mark,y.pages,x.head⟩) 67 (0,0))):=((f1.trans f6).drew).put (b:=tb) _ fun h=>by have:=f1.size;omega
   have kt:=kk (supC ⟨y.width,y.gen+1,x.mark,y.pages,x.head⟩);have k7:=qQi (w:=W6.drew) (b:=tb) (o:=.cells (supC ⟨y.width,y.gen+1,x.mark,y.pages,x.head⟩) 67 (0,0)) (f6.at k1 id) (by omega);have k8:=qQi (w:=W6.drew) (b:=tb) (o:=.cells (supC ⟨y.width,y.gen+1,x.mark,y.pages,x.head⟩) 67 (0,0)) (f6.at k2 id) (by omega);have k9:=qQi (w:=W6.drew) (b:=tb) (o:=.cells (supC ⟨y.width,y.gen+1,x.mark,y.pages,x.head⟩) 67 (0,0)) (f6.at k3 id) (by omega);clear rr ra2 ra3 rb2 rb3 rc2 rc3 w8 w10 w12 pp kk q5 la;generalize put W6.drew tb (.cells (supC ⟨y.width,y.gen+1,x.mark,y.pages,x.head⟩) 67 (0,0))=w7 at *;have l1:=qQo (P:=prog) (t:=67) agg67 sz67 kt;have l2:=qQo (P:=prog) (t:=67) agg67 sz67 k7;have r2:rdO prog 3 w7 w0.heap.size 2=some (.int .i64 (x.mark:Nat)):=rd1 agg3 k7 rfl;have r3:rdO prog 3 w7 (w0.heap.size+1) 2=some (.int .i64 (y.mark:Nat)):=rd1 agg3 k8 rfl;have es:=eqSup ⟨y.width,y.gen+1,x.mark,y.pages,x.head⟩ x;obtain⟨q1,q2,q3⟩:=ret w7 sup0 f7 k9 rfl sup0_one;obtain⟨q4,q5,q6⟩:=ret w7 (supC x) f7 k9 rfl (qKu _)
   have hnew:qKo a b=if (⟨y.width,y.gen+1,x.mark,y.pages,x.head⟩:Sup)=x∧¬ x.mark<y.mark then .ok x else .error 4:=by
    unfold qKo
    by_cases hg:a.gen<b.gen
    ·rw[if_pos hg]at hxy
     obtain⟨rfl,rfl⟩:=hxy
     by_cases hq:y.width=x.width∧y.pages=x.pages
     ·rw[if_pos ⟨h1,h2,hq⟩,if_neg (by omega)]
      by_cases hc:x.gen=y.gen+1∧y.mark≤x.mark
      ·rw[if_pos hc,if_pos ⟨by cases x;simp_all,by omega⟩]
      ·rw[if_neg hc,if_neg]
       rintro⟨e,hm⟩;refine hc ⟨?_,by omega⟩;rw[← e]
     ·rw[if_neg fun h=>hq h.2.2,if_neg]
      rintro⟨e,hm⟩;exact hq ⟨by rw[← e],by rw[← e]⟩
    ·rw[if_neg hg]at hxy
     obtain⟨rfl,rfl⟩:=hxy
     by_cases hq:x.width=y.width∧x.pages=y.pages
     ·rw[if_pos ⟨h1,h2,hq⟩]
      by_cases hc:x.gen=y.gen+1∧y.mark≤x.mark
      ·rw[if_pos hc,if_pos ⟨by cases x;simp_all,by omega⟩]
      ·rw[if_neg hc,if_neg (by omega),if_neg]
       rintro⟨e,hm⟩;refine hc ⟨?_,by omega⟩;rw[← e]
     ·rw[if_neg fun h=>hq h.2.2,if_neg]
      rintro⟨e,hm⟩;exact hq ⟨by rw[← e],by rw[← e]⟩
   rw[hnew]
   by_cases hq:(⟨y.width,y.gen+1,x.mark,y.pages,x.head⟩:Sup)=x
   case neg =>
    rw[decide_eq_false hq]at es;rw[if_neg fun h=>hq h.1];simp -implicitDefEqProofs only[go_sem,jY,gLa,gLz,gLs,qXq,xG,e2,e4,e6,l1,l2,es,eqg67,b0,q1,q2,if_true];exact⟨q3,rfl⟩
   rw[decide_eq_true hq]at es
   by_cases hm:x.mark<y.mark
   ·have d1:=dTo ((x.mark:Int)<(y.mark:Int))
    rw[if_neg fun h=>h.2 hm];simp -implicitDefEqProofs only[go_sem,jY,gLa,gLz,gLs,bSe,yG,zB,e2,e3,e4,e6,l1,l2,es,eqg67,r2,r3,d1,b0,q1,q2,if_true];exact⟨q3,rfl⟩
   ·have d1:=dFo ((x.mark:Int)<(y.mark:Int))
    rw[if_pos ⟨hq,hm⟩];simp -implicitDefEqProofs only[go_sem,jY,gLa,gLz,gLs,bSe,yG,zB,e2,e3,e4,e6,l1,l2,es,eqg67,r2,r3,d1,q4,q5,if_true];exact⟨q6,rfl⟩
  refine qXf (fun j=>false) (.one 0 (.one 3 (.one 5 (.one 1 (.one 2 (.one 7 (.tri 4 (.two 6 (.row [8,9,10,11,12]) 8 (.one 9 (.two 6 (.row [10,11,12]) 10 (.row [6,11,12])))) 6 (.two 4 (.row [8,9,10,11,12]) 8 (.row [4,9,10,11,12])) 8 (.one 4 (.one 9 (.two 6 (.row [10,11,12]) 10 (.row [6,11,12]))))))))))) rfl (by kernel_rfl) (by kernel_rfl) ?_;simp -implicitDefEqProofs only[go_sem,jY,gLa,gLz,gLs,zB,OT.row,e2,e3,e4,r1,c1,ra2,ra3,rb2,rb3,rc3,w8,w10,w12,implies_true,and_self,true_and]
end A
end
section
open Go.Proofs
namespace A
open Aud
def suC:Except Int Sup→Array Value
 | .error _=>sup0
 | .ok s=>supC s
def suE:Except Int Sup→Int
 | .error e=>e
 | .ok _=>0
theorem SuQ.eq {r:Except Int Sup}(h:SuQ w0 r v w'):No w0 w'∧v=.tuple #[.agg (suC r),.int .i64 (suE r)]:=by
 obtain⟨f,h⟩:=h
 cases r with
 | error e=>exact⟨f,h⟩
 | ok s=>exact⟨f,h⟩
theorem SuQ.of {r:Except Int Sup}(f:No w0 w'):SuQ w0 r (.tuple #[.agg (suC r),.int .i64 (suE r)]) w':=by
 cases r with
 | error e=>exact⟨f,rfl⟩
 | ok s=>exact⟨f,rfl⟩
theorem qKw (r:Except Int Sup):(suC r).size=5:=by cases r <;> rfl
theorem suC_one (r:Except Int Sup):(suC r).all one=true:=by
 cases r with
 | error e=>exact sup0_one
 | ok s=>exact qKu s
def suG:Except Int Sup→Nat
 | .error _=>0
 | .ok s=>s.gen
theorem suC_gen (r:Except Int Sup):(suC r)[1]?=some (.int .i64 (suG r:Nat)):=by cases r <;> rfl
theorem supP_err (h:supP raw=.error e):e≠0:=by
 unfold supP at h;split at h
 ·cases h;decide
 ·split at h
  ·cases h
  ·cases h;decide
theorem choose (w0:World){ra:Bs}(hp:By w0 (.slice (some ⟨b, o, none⟩) 256 cap) ra)(hcap:256≤cap){b' o' cap':Nat}{rb:Bs}(hp':By w0 (.slice (some ⟨b', o', none⟩) 256 cap') rb)(hcap':256≤cap') :
  Fn prog 41 #[.slice (some ⟨b,o,none⟩) 256 cap,.slice (some ⟨b',o',none⟩) 256 cap'] w0 (SuQ w0 (qJb ra rb)):=by
 refine go41 (by simp) ?_;obtain⟨W,hW,f1,k1,s1⟩:=qQl w0 sup0 67;simp -implicitDefEqProofs only[go_sem,jY,jH,zB,Tryz.f41,hW];refine qQa pl79 ((unpackSuper W (hp.fr0 f1) hcap).mono ?_);rintro _ w2 ⟨f2,h2⟩;have f02:=f1.trans f2
 have ret:∀ (w:World) (vs:Array Value), No w0 w→w.heap[w0.heap.size]?=some (.cells sup0 67 (0, 0))→vs.size=5→vs.all one=true →
   wrO prog 67 w w0.heap.size 0 (.agg vs)=some (put w w0.heap.size (.cells vs 67 (0,0)))∧rdO prog 67 (put w w0.heap.size (.cells vs 67 (0,0))) w0.heap.size 0=some (.agg vs)∧No w0 (put w w0.heap.size (.cells vs 67 (0,0))):=fun w vs f k h5 ho =>
  ⟨qQr (by rw[h5];exact sz67) k (by rw[h5];rfl) ho,rd_all agg67 (by rw[h5];exact sz67) (qQd (o:=.cells vs 67 (0,0)) k),f.put (b:=w0.heap.size) _ fun h=>absurd h (jF _)⟩
 obtain⟨f2',rfl⟩:=SuQ.eq ⟨f2,h2⟩;have k2:=f2.at k1 id;generalize hra:supP ra=xa at *;obtain⟨W3,hW3,f3,k3,s3⟩:=qQl w2 sup0 67;have q3:wrO prog 67 W3 w2.heap.size 0 (.agg (suC xa))=some (put W3 w2.heap.size (.cells (suC xa) 67 (0,0))):=qQr (by rw[qKw];exact sz67) k3 (by rw[qKw];rfl) (suC_one _);have k4:=qQd (o:=.cells (suC xa) 67 (0,0)) k3;have k14:=qQi (b:=w2.heap.size) (o:=.cells (suC xa) 67 (0,0)) (f3.at k2 id) (by have:=qQh k2;omega);have f4:No w0 (put W3 w2.heap.size (.cells (suC xa) 67 (0,0))):=(f02.trans f3).put (b:=w2.heap.size) _ fun h=>by have:=f02.size;omega
 simp -implicitDefEqProofs only[go_sem,jY,gLa,gLz,gLs,jH,hW3,q3];generalize put W3 w2.heap.size (.cells (suC xa) 67 (0,0))=w4 at *;generalize htx:w2.heap.size=tx at *;refine qQa pl79 ((unpackSuper w4 (hp'.fr0 f4) hcap').mono ?_);rintro _ w5 h5;obtain⟨f5,rfl⟩:=SuQ.eq h5;clear h5;have f05:=f4.trans f5;generalize hrb:supP rb=xb at *;obtain⟨W6,hW6,f6,k6,s6⟩:=qQl w5 sup0 67;have q6:wrO prog 67 W6 w5.heap.size 0 (.agg (suC xb))=some (put W6 w5.heap.size (.cells (suC xb) 67 (0,0))):=qQr (by rw[qKw];exact sz67) k6 (by rw[qKw];rfl) (suC_one _);have k7:=qQd (o:=.cells (suC xb) 67 (0,0)) k6;have k5x:=f5.at k4 id;have k5r:=f5.at k14 id;have k8:=qQi (b:=w5.heap.size) (o:=.cells (suC xb) 67 (0,0)) (f6.at k5x id) (by have:=qQh k5x;omega);have k9:=qQi (b:=w5.heap.size) (o:=.cells (suC xb) 67 (0,0)) (f6.at k5r id) (by have:=qQh k5r;omega);have f7:No w0 (put W6 w5.heap.size (.cells (suC xb) 67 (0,0))):=(f05.trans f6).put (b:=w5.heap.size) _ fun h=>by have:=f05.size;omega
 have hca:∀ e,supP ra=.error e→((e:Int) == 0)=false:=fun e h=>by rw[bFn];exact supP_err h
 have hcb:∀ e,supP rb=.error e→((e:Int) == 0)=false:=fun e h=>by rw[bFn];exact supP_err h
 simp -implicitDefEqProofs only[go_sem,jY,gLa,gLz,gLs,jH,hW6,q6];generalize put W6 w5.heap.size (.cells (suC xb) 67 (0,0))=w7 at *;generalize hty:w5.heap.size=ty at *;have lx:=qQo (P:=prog) (t:=67) agg67 sz67 k8 (qKw _);have ly:=qQo (P:=prog) (t:=67) agg67 sz67 k7 (qKw _);have rg:rdO prog 3 w7 tx 1=some (.int .i64 (suG xa:Nat)):=rd1 agg3 k8 (suC_gen _);have b0:=bldSup0;have both:∀ x y,xa=.ok x→xb=.ok y→qJb ra rb=qKo x y:=fun x y hx hy=>by unfold qJb;rw[hra,hrb,hx,hy]
 have other:(∀ x y,¬ (xa=.ok x∧xb=.ok y))→qJb ra rb=if blankP ra rb then .error 55 else .error 4:=fun h=>by
  unfold qJb;rw[hra,hrb]
  cases xa <;> cases xb <;> first | rfl | exact absurd ⟨rfl,rfl⟩ (h _ _)
 by_cases hB:∃ x y,xa=.ok x∧xb=.ok y
 ·obtain⟨x,y,rfl,rfl⟩:=hB
  simp -implicitDefEqProofs only[go_sem,jY,bSe,suE,lx,ly];refine qQa pl80 ((newer w7 x y (supP_ok hra) (supP_ok hrb)).mono ?_);rintro _ w8 h8;obtain⟨f8,rfl⟩:=SuQ.eq h8;obtain⟨q1,q2,q3⟩:=ret w8 (suC (qKo x y)) (f7.trans f8) (f8.at k9 id) (qKw _) (suC_one _);simp -implicitDefEqProofs only[go_sem,jY,gLa,gLz,gLs,q1,q2];rw[both x y rfl rfl];exact SuQ.of q3
 rw[other fun x y h=>hB ⟨x,y,h⟩]
 have e0:∃ z:Bool,((suE xa == 0)=z)∧(z=true→(suE xb == 0)=false):=by
  cases xa with
  | error e=>exact⟨false,hca e hra,fun h=>by cases h⟩
  | ok x =>
   cases xb with
   | error e=>exact⟨true,rfl,fun _=>hcb e hrb⟩
   | ok y=>exact absurd ⟨x,y,rfl,rfl⟩ hB
 obtain⟨z,hz,hz2⟩:=e0;have tail:∀ (w:World) (ev:Ev),True:=fun _ _=>trivial
 have go:blankP ra rb=(zer (rb.take 64) && (zer (ra.take 64) || (z && decide (suG xa=0)))):=by
  unfold blankP;rw[hra]
  cases xa with
  | error e =>
   have:z=false:=by rw[← hz];exact hca e hra
   rw[this];rfl
  | ok x =>
   have:z=true:=by rw[← hz];rfl
   rw[this];rfl
 rw[go];have g0:=nateq (suG xa) 0;obtain⟨q1,q2,q3⟩:=ret w7 sup0 f7 k9 rfl sup0_one
 cases z with
 | false =>
  simp -implicitDefEqProofs only[go_sem,qQt,hz];refine qQa pl81 ((empty w7 (hp'.fr0 f7) hcap').mono ?_);rintro _ _ ⟨rfl,rfl⟩;rename_i w7
  cases zer (rb.take 64) with
  | false =>
   simp -implicitDefEqProofs only[go_sem,jY,xG,b0,q1,q2];exact⟨q3,rfl⟩
  | true =>
   simp -implicitDefEqProofs only[go_sem,jY,gLa,gLz,gLs,qQt,yG,hz];refine qQa pl81 ((empty w7 (hp.fr0 f7) hcap).mono ?_);rintro _ _ ⟨rfl,rfl⟩;rename_i w7
   cases zer (ra.take 64) with
   | false =>
    simp -implicitDefEqProofs only[go_sem,jY,b0,q1,q2];exact⟨q3,rfl⟩
   | true =>
    simp -implicitDefEqProofs only[go_sem,jY,b0,q1,q2];exact⟨q3,rfl⟩
 | true =>
  have hz2:=hz2 rfl;simp -implicitDefEqProofs only[go_sem,bSe,hz,hz2];refine qQa pl81 ((empty w7 (hp'.fr0 f7) hcap').mono ?_);rintro _ _ ⟨rfl,rfl⟩;rename_i w7
  cases zer (rb.take 64) with
  | false =>
   simp -implicitDefEqProofs only[go_sem,jY,xG,b0,q1,q2];exact⟨q3,rfl⟩
  | true =>
   by_cases hg:suG xa=0
   ·have g0:(((suG xa:Nat):Int) == 0)=true:=by rw[hg];rfl
    rw[show (true && (zer (ra.take 64) || (true && decide (suG xa=0))))=true by rw[decide_eq_true hg];simp];simp -implicitDefEqProofs only[go_sem,jY,gLa,gLz,gLs,bSe,yG,zB,hz,rg,g0,b0,q1,q2];exact⟨q3,rfl⟩
   ·have g0:(((suG xa:Nat):Int) == 0)=false:=by rw[decide_eq_false hg]at g0;exact g0
    rw[show (true && (zer (ra.take 64) || (true && decide (suG xa=0))))=zer (ra.take 64) by rw[decide_eq_false hg];simp];simp -implicitDefEqProofs only[go_sem,jY,gLa,gLz,gLs,bSe,yG,zB,hz,rg,g0];refine qQa pl81 ((empty w7 (hp.fr0 f7) hcap).mono ?_);rintro _ _ ⟨rfl,rfl⟩;rename_i w7
    cases zer (ra.take 64) with
    | false =>
     simp -implicitDefEqProofs only[go_sem,jY,b0,q1,q2];exact⟨q3,rfl⟩
    | true =>
     simp -implicitDefEqProofs only[go_sem,jY,b0,q1,q2];exact⟨q3,rfl⟩
end A
end
section
open Go.Proofs
namespace A
open Aud
abbrev sgC (iv:Value)(s:Sup)(mn mr:Nat)(cv vv fv bv:Value):Array Value:=#[iv,.int .i64 (s.width:Nat),.int .i64 (s.gen:Nat),.int .i64 (s.mark:Nat),.int .i64 (s.head:Nat),.int .i64 (s.pages:Nat),.map (some mn),.map (some mr),cv,vv,fv,bv]
def inR (l:List Nat):Rows:=l.map fun n=>[yL .i64 (n:Nat)]
def fnR (l:List (Nat × Int)):Rows:=l.map fun f=>[yL .i64 (f.1:Nat),yL .i64 f.2]
abbrev encN:Nat→Value:=fun n=>yL .i64 (n:Nat)
theorem keyN:KeyT prog 3 encN (fun _=>True):=keyInt int3
def isRc:Option Pg→Bool
 | some (.rc _)=>true
 | _=>false
def chK (pg:Nat→Option Pg)(k:Nat):List Nat:=(List.range k).filter fun p=>isRc (pg p)
def NdsAt (u w:World)(nl:List (Nat × Value))(k:Nat)(pg:Nat→Option Pg):Prop :=
 ∀ p,match (if p<k then pg p else none) with
  | some (.nd n)=>∃ x,findM nl p=some x∧NdM u w n x
  | _=>findM nl p=none
def RcsAt (rl:List (Nat × Value))(k:Nat)(pg:Nat→Option Pg):Prop :=
 ∀ p,match (if p<k then pg p else none) with
  | some (.rc r)=>findM rl p=some (.agg (rcC r).toArray)
  | _=>findM rl p=none
structure SgM (u w:World) (sb:Nat) (iv:Value) (im:Bs) (s:Sup) (mn mr:Nat) (cv vv fv bv:Value) (nl rl:List (Nat × Value)) (pg:Nat→Option Pg) (k:Nat) (fs:List (Nat × Int)):Prop where
 row:w.heap[sb]?=some (.cells (sgC iv s mn mr cv vv fv bv) 73 (0,0))
 img:By w iv im
 nds:Mp encN (fun _=>True) w mn nl
 rcs:Mp encN (fun _=>True) w mr rl
 hne:mn≠mr
 hsb:u.heap.size≤sb
 hmn:u.heap.size≤mn
 hmr:u.heap.size≤mr
 chn:NwR u w 3 1 cv (inR (chK pg k))
 fnd:NwR u w 43 2 fv (fnR fs)
 na:NdsAt u w nl k pg
 ra:RcsAt rl k pg
 ov:one vv=true
 ob:one bv=true
theorem NdM.fr {n:Nd}(h:NdM u w n v)(k:Fr F w w')(hf:∀ b c,w.heap[b]?=some (.cells c 5 (0,0))→¬ F b):NdM u w' n v:=by
 obtain⟨vv,e,o,nb,e2⟩:=h;refine⟨vv,e,o,nb.fr k fun b hb=>?_,e2⟩
 rcases nb.own with ⟨rfl,_⟩ | ⟨b',o',cap,c,rfl,hc,_⟩
 ·cases hb
 ·cases hb;exact hf _ _ hc
theorem NdsAt.fr {nl:List (Nat × Value)}{pg:Nat→Option Pg}(h:NdsAt u w nl k pg)(f:Fr F w w')(hf:∀ b c,w.heap[b]?=some (.cells c 5 (0,0))→¬ F b):NdsAt u w' nl k pg:=fun p=>by
 have:=h p;split at this
 ·obtain⟨x,a,b⟩:=this;exact⟨x,a,b.fr f hf⟩
 ·exact this
theorem qXg {e k:Nat}{rows:Rows}(h:NwR u w e k v rows)(hb:qQg v=some b):∃ c,w.heap[b]?=some (.cells c e (0,0)):=by
 rcases h.2.own with ⟨rfl,_⟩ | ⟨b',o',cap,c,rfl,hc,_⟩
 ·cases hb
 ·cases hb;exact⟨c,hc⟩
theorem inR_ok (l:List Nat):RowsOk 1 (inR l):=fun r hr=>by
 obtain⟨n,_,rfl⟩:=List.mem_map.1 hr;exact⟨rfl,rfl⟩
theorem qQv (l:List Nat):(inR l).length=l.length:=List.length_map ..
theorem fnR_len (l:List (Nat × Int)):(fnR l).length=l.length:=List.length_map ..
section
variable {u w w':World} {sb:Nat} {iv:Value} {im:Bs} {s:Sup} {mn mr:Nat} {cv vv fv bv:Value} {nl rl:List (Nat × Value)} {pg:Nat→Option Pg} {k:Nat} {fs:List (Nat × Int)}
theorem SgM.fr0 (h:SgM u w sb iv im s mn mr cv vv fv bv nl rl pg k fs)(f:No w w'):SgM u w' sb iv im s mn mr cv vv fv bv nl rl pg k fs :=
 { h with row:=f.at h.row id,img:=h.img.fr0 f,nds:=h.nds.fr0 f,rcs:=h.rcs.fr0 f,chn:=h.chn.fr0 f,fnd:=h.fnd.fr0 f,na:=h.na.fr f fun _ _ _ h=>h }
theorem sight_page (h:SgM u w sb iv im s mn mr cv vv fv bv nl rl pg k fs)(he:iv=.slice (some ⟨b, o, none⟩) im.length cap)(hcap:im.length≤cap)(hl:im.length≤2 ^ 47)(hp:256*p+256≤im.length) :
  Fn prog 42 #[pt sb 0,.int .i64 (p:Nat)] w fun v w'=>w'=w∧v=.slice (some ⟨b,o+256*p,none⟩) 256 (cap - 256*p):=by
 refine go42 (by simp) ?_;subst he;have r0:rdO prog 22 w sb 0=some (.slice (some ⟨b,o,none⟩) im.length cap):=rd1 agg22 h.row rfl;have a1:IntKind.i64.wrap ((p:Int)*256)=((256*p:Nat):Int):=by rw[qQm (by omega) (by omega)];omega
 have a2:=iSu (i:=p);have a3:IntKind.i64.wrap (((p+1:Nat):Int)*256)=((256*p+256:Nat):Int):=by rw[qQm (by omega) (by omega)];omega
 have sl:qQs prog 22 (.slice (some ⟨b,o,none⟩) im.length cap) (some (.int .i64 ((256*p:Nat):Int))) (some (.int .i64 ((256*p+256:Nat):Int))) none=some (.slice (some ⟨b,o+256*p,none⟩) 256 (cap - 256*p)) :=
  (slc_both slc22 arr22 sz5 (l:=256*p) (m:=256*p+256) (n:=im.length) (by omega) hp hcap).trans (by rw[cutV_lo (by omega),y8])
 simp -implicitDefEqProofs only[go_sem,jY,zB,Tryz.f42,nilOk,r0,a1,a2,a3,sl]
theorem page_by (hi:By w (.slice (some ⟨b,o,none⟩) im.length cap) im)(hp:256*p+256≤im.length)(hcap:im.length≤cap):By w (.slice (some ⟨b,o+256*p,none⟩) 256 (cap - 256*p)) (pgB im p):=by
 have:=By.slc hi (l:=256*p) (m:=256*p+256) (by omega) hp;rw[cutV_lo (by omega),y8]at this;exact this
theorem qJk (h:SgM u w sb iv im s mn mr cv vv fv bv nl rl pg k fs){i:Nat}(hi:i<2 ^ 40):Fn prog 66 #[pt sb 0,.int .i64 (i:Nat)] w fun v w'=>w'=w∧v=.int .i64 (chAt (chK pg k) i:Nat):=by
 refine go66 (by simp) ?_;obtain⟨a,cap,hcv,hcap⟩:=h.chn.rd.slice;rw[qQv]at hcv hcap;have r0:rdO prog 45 w sb 8=some (.slice a (chK pg k).length cap):=by rw[← hcv];exact rd1 agg45 h.row rfl
 by_cases h1:i<1
 ·have d1:=dTo ((i:Int)<1)
  have e:chAt (chK pg k) i=0:=if_pos (by omega);simp -implicitDefEqProofs only[go_sem,jY,gLa,gLz,gLs,qXq,zB,Tryz.f66,d1,e]
  trivial
 have d1:=dFo ((i:Int)<1)
 by_cases h2:(chK pg k).length<i
 ·have d2:=dTo ((i:Int) > ((chK pg k).length:Int))
  have e:chAt (chK pg k) i=0:=by unfold chAt;rw[if_neg (by omega),gDq,List.getElem?_eq_none (by omega)];rfl
  simp -implicitDefEqProofs only[go_sem,jY,gLa,gLz,gLs,bSe,zB,Tryz.f66,d1,nilOk,r0,d2,e]
  trivial
 have d2:=dFo ((i:Int) > ((chK pg k).length:Int));have hrd:=h.chn.rd;obtain⟨b,o,cap',he,_⟩:=hrd.pos (by decide) (by rw[qQv];omega);rw[hcv]at he;simp only[Value.slice.injEq]at he;obtain⟨rfl,_,rfl⟩:=he;rw[hcv]at hrd;have hlt:i - 1<(chK pg k).length:=by omega
 have r1:rdO prog 3 w b (o+(i - 1))=some (.int .i64 ((chK pg k).getD (i - 1) 0:Nat)):=by
  have:=hrd.fld (P:=prog) (t:=3) agg3 (i:=i - 1) (by rw[qQv];exact hlt) (j:=0) (by decide) (x:=.int .i64 ((chK pg k).getD (i - 1) 0:Nat)) (by
   simp only[inR,List.getElem_map,y6,qQw 0 hlt])
  rw[Nat.mul_one,Nat.add_zero]at this;exact this
 have c1:IntKind.i64.wrap ((i:Int) - 1)=((i - 1:Nat):Int):=qZj (b:=1) (by omega) (by omega);have y1:(0:Int)≤((i - 1:Nat):Int)∧((i - 1:Nat):Int)<((chK pg k).length:Int):=by omega
 have e:chAt (chK pg k) i=(chK pg k).getD (i - 1) 0:=if_neg (by omega);simp -implicitDefEqProofs only[go_sem,jY,gLa,gLz,gLs,bSe,zB,Tryz.f66,d1,nilOk,r0,d2,c1,y1,and_self,if_true,iTn,Nat.mul_one,r1,e]
theorem bldFn (p:Nat)(e:Int):bldO prog 43 [(0,.int .i64 (p:Nat)),(1,.int .i64 e)]=some (.agg #[.int .i64 (p:Nat),.int .i64 e]):=by
 unfold bldO;rw[zero43,places43];rfl
def FvB (sb:Nat)(fv:Value)(b:Nat):Prop:=b=sb∨qQg fv=some b
theorem sight_find (h:SgM u w sb iv im s mn mr cv vv fv bv nl rl pg k fs)(hu:u.heap.size≤w.heap.size)(hiv:∀ b, qQg iv=some b→b<u.heap.size)(p:Nat)(e:Int)(hl:fs.length≤2 ^ 20) :
  Fn prog 44 #[pt sb 0,.int .i64 (p:Nat),.int .i64 e] w fun v w'=>v=.tuple #[]∧Fr (FvB sb fv) w w'∧∃ fv',SgM u w' sb iv im s mn mr cv vv fv' bv nl rl pg k (fs++[(p,e)]):=by
 refine go44 (by simp) ?_;have hsbl:=qQh h.row;have r0:rdO prog 23 w sb 10=some fv:=rd1 agg23 h.row rfl;have b0:=bldFn p e;simp -implicitDefEqProofs only[go_sem,jY,y7,jH,zB,Tryz.f44,nilOk,r0,b0];refine qQp (v:=.slice (some ⟨w.heap.size,0,none⟩) 1 1) (w':=w.alloc (.cells #[.int .i64 (p:Nat),.int .i64 e] 43)) (qZk (K:=2) (by decide) (by decide) (y:=[.int .i64 0,.int .i64 0]) rfl rfl rfl _) ?_;obtain⟨v8,w8,hr8,b8,g8,m8⟩:=h.fnd.push (P:=prog) app23_23 (xs:=[.int .i64 (p:Nat),.int .i64 e]) rfl rfl (by decide) (by rw[fnR_len];omega) (by rw[fnR_len];omega) hu;simp -implicitDefEqProofs only[go_sem,jY];refine qQj ⟨v8,w8,hr8,?_⟩
 have hfb:∀ b,qQg fv=some b→b≠sb:=fun b hb he=>by
  obtain⟨c,hc⟩:=qXg h.fnd hb;subst he;rw[h.row]at hc;cases hc
 have k8:=g8.at h.row fun hb=>hfb _ hb rfl;have o8:one v8=true:=by obtain⟨a,c,e,_⟩:=b8.rd.slice;rw[e];rfl
 have q8:=wr1 (P:=prog) (t:=23) (o:=10) (v:=v8) sz23 o8 k8 (show 10<12 by decide);simp -implicitDefEqProofs only[go_sem,jY,zB,nilOk,q8];have f8:Fr (FvB sb fv) w (put w8 sb (.cells (sgC iv s mn mr cv vv v8 bv) 73 (0,0))):=(g8.mono (G:=FvB sb fv) fun b _ hb=>.inr hb).put (b:=sb) _ fun _=>.inl rfl;refine⟨f8,v8,?_⟩
 have off:∀ b c el,w.heap[b]?=some (.cells c el (0,0))→el≠73→el≠43→¬ FvB sb fv b:=fun b c el hb h1 h2 hf=>by
  rcases hf with rfl | hf
  ·rw[h.row]at hb;cases hb;exact h1 rfl
  ·obtain⟨c',hc'⟩:=qXg h.fnd hf
   rw[hb]at hc';cases hc';exact h2 rfl
 have offm:∀ b es c,w.heap[b]?=some (.map es c)→¬ FvB sb fv b:=fun b es c hb hf=>by
  rcases hf with rfl | hf
  ·rw[h.row]at hb;cases hb
  ·obtain⟨c',hc'⟩:=qXg h.fnd hf
   rw[hb]at hc';cases hc'
 obtain⟨es1,c1,hm1,_⟩:=id h.nds;obtain⟨es2,c2,hm2,_⟩:=id h.rcs;refine⟨qQd (o:=.cells (sgC iv s mn mr cv vv v8 bv) 73 (0,0)) k8,h.img.fr f8 fun b hb _ hf=>?_,h.nds.fr f8 (offm _ _ _ hm1),h.rcs.fr f8 (offm _ _ _ hm2),h.hne,h.hsb,h.hmn,h.hmr,h.chn.fr f8 fun b hb=>?_,?_,h.na.fr f8 fun b c hb=>off _ _ _ hb (by decide) (by decide),h.ra,h.ov,h.ob⟩
 ·have:=hiv b hb
  rcases hf with rfl | hf
  ·have:=h.hsb;omega
  ·have:=(h.fnd.lt hf).1;omega
 ·obtain⟨c,hc⟩:=qXg h.chn hb
  exact off _ _ _ hc (by decide) (by decide)
 ·have e9:fnR (fs++[(p,e)])=fnR fs++[[.int .i64 (p:Nat),.int .i64 e]]:=by unfold fnR;rw[List.map_append];rfl
  rw[e9];refine⟨b8.1,Nw.fr b8.2 (F:=fun b=>b=sb) ((Fr.refl _ _).put (b:=sb) _ fun _=>rfl) fun b hb he=>?_⟩;subst he
  rcases m8 _ hb with h' | h'
  ·exact hfb _ h' rfl
  ·omega
theorem bldZr:bldO prog 173 []=some (.agg #[]):=by
 unfold bldO;rw[zero173,places173];rfl
theorem bldLo:bldO prog 174 []=some (.agg #[]):=by
 unfold bldO;rw[zero174,places174];rfl
abbrev zrV:Value:=.iface 173 (.agg #[])
abbrev loV:Value:=.iface 174 (.agg #[])
theorem bldRu:bldO prog 120 [(0,zrV),(1,loV)]=some (.agg #[zrV,loV]):=by
 unfold bldO;rw[zero120,places120,arr120];simp only[Option.bind_some,sz119];rfl
theorem rules (w0:World):Fn prog 43 #[] w0 fun v w'=>v=.agg #[zrV,loV]∧No w0 w':=by
 refine go43 (by simp) ?_;obtain⟨W,hW,f1,k1,s1⟩:=qQl w0 #[.nilIface,.nilIface] 120;have q1:wrO prog 120 W w0.heap.size 0 (.agg #[zrV,loV])=some (put W w0.heap.size (.cells #[zrV,loV] 120 (0,0))):=qQr sz120 k1 rfl (by rw[← Array.all_toList];rfl);have k2:=qQd (o:=.cells #[zrV,loV] 120 (0,0)) k1;have ld:=qQo (P:=prog) (t:=120) agg120 sz120 k2;simp -implicitDefEqProofs only[go_sem,jY,jH,Tryz.f43,hW,bldZr,bldLo,bldRu,q1,ld];exact f1.put (b:=w0.heap.size) _ fun h=>absurd h (jF _)
end
end A
end
section
open Go.Proofs
namespace A
open Aud
theorem chK_succ (pg:Nat→Option Pg)(k:Nat):chK pg (k+1)=if isRc (pg k) then chK pg k++[k] else chK pg k:=by
 unfold chK;rw[List.range_succ,List.filter_append]
 cases h:isRc (pg k) <;> simp[h]
section
variable {u w w':World} {sb:Nat} {iv:Value} {im:Bs} {s:Sup} {mn mr:Nat} {cv vv fv bv:Value} {nl rl:List (Nat × Value)} {pg:Nat→Option Pg} {k:Nat} {fs:List (Nat × Int)}
theorem NdsAt.skip (h:NdsAt u w nl k pg)(hk:∀ n,pg k≠some (.nd n)):NdsAt u w nl (k+1) pg:=fun p=>by
 have:=h p
 by_cases e:p=k
 ·subst e
  rw[if_neg (by omega)]at this;rw[if_pos (by omega)];split
  ·rename_i n hn;exact absurd hn (hk n)
  ·exact this
 ·by_cases hlt:p<k
  ·rw[if_pos hlt]at this;rw[if_pos (by omega)];exact this
  ·rw[if_neg hlt]at this;rw[if_neg (by omega)];exact this
theorem RcsAt.skip (h:RcsAt rl k pg)(hk:∀ n,pg k≠some (.rc n)):RcsAt rl (k+1) pg:=fun p=>by
 have:=h p
 by_cases e:p=k
 ·subst e
  rw[if_neg (by omega)]at this;rw[if_pos (by omega)];split
  ·rename_i n hn;exact absurd hn (hk n)
  ·exact this
 ·by_cases hlt:p<k
  ·rw[if_pos hlt]at this;rw[if_pos (by omega)];exact this
  ·rw[if_neg hlt]at this;rw[if_neg (by omega)];exact this
theorem NdsAt.add {n:Nd}{x:Value}(h:NdsAt u w nl k pg)(hk:pg k=some (.nd n))(hx:NdM u w n x):NdsAt u w (insM nl k x) (k+1) pg:=fun p=>by
 have:=h p;rw[qJi]
 by_cases e:p=k
 ·subst e
  rw[if_pos (by omega),hk,if_pos rfl];exact⟨x,rfl,hx⟩
 ·rw[if_neg (show ¬ k=p from fun e'=>e e'.symm)]
  by_cases hlt:p<k
  ·rw[if_pos hlt]at this;rw[if_pos (by omega)];exact this
  ·rw[if_neg hlt]at this;rw[if_neg (by omega)];exact this
theorem RcsAt.add {r:Rc}(h:RcsAt rl k pg)(hk:pg k=some (.rc r)):RcsAt (insM rl k (.agg (rcC r).toArray)) (k+1) pg:=fun p=>by
 have:=h p;rw[qJi]
 by_cases e:p=k
 ·subst e
  rw[if_pos (by omega),hk,if_pos rfl]
 ·rw[if_neg (show ¬ k=p from fun e'=>e e'.symm)]
  by_cases hlt:p<k
  ·rw[if_pos hlt]at this;rw[if_pos (by omega)];exact this
  ·rw[if_neg hlt]at this;rw[if_neg (by omega)];exact this
theorem SgM.skip (h:SgM u w sb iv im s mn mr cv vv fv bv nl rl pg k fs)(hk:pg k=none):SgM u w sb iv im s mn mr cv vv fv bv nl rl pg (k+1) fs :=
 { h with chn:=(by rw[chK_succ,hk];exact h.chn),na:=h.na.skip (fun n e=>by rw[hk]at e;cases e),ra:=h.ra.skip (fun n e=>by rw[hk]at e;cases e) }
theorem zerosWrong (h:SgM u w sb iv im s mn mr cv vv fv bv nl rl pg k fs)(he:iv=.slice (some ⟨b, o, none⟩) im.length cap)(hcap:im.length≤cap)(hl:im.length≤2 ^ 47)(hp:256*p+256≤im.length) :
  Fn prog 215 #[.agg #[],pt sb 0,.int .i64 (p:Nat)] w fun v w'=>v=.int .i64 (if p<2∧zer ((pgB im p).drop 64)=false then 53 else 0)∧No w w':=by
 refine go215 (by simp) ?_;obtain⟨W,hW,f1,_,s1⟩:=qQl w #[] 173
 by_cases h2:p<2
 case neg =>
  have d1:=dFo ((p:Int)<2);rw[if_neg fun h=>h2 h.1];simp -implicitDefEqProofs only[go_sem,jY,y7,gLa,gLz,gLs,jH,qQt,zB,Tryz.f215,hW,d1];exact f1
 have d1:=dTo ((p:Int)<2);simp -implicitDefEqProofs only[go_sem,jY,y7,gLa,gLz,gLs,jH,bSe,zB,Tryz.f215,hW,d1];have h':=h.fr0 f1;refine qQa pl42 ((sight_page h' he hcap hl hp).mono ?_);rintro _ _ ⟨rfl,rfl⟩;rename_i W;have hi:=h'.img;rw[he]at hi;have hpb:=page_by hi hp hcap;have hlen:(pgB im p).length=256:=pgB_len hp;have sl:qQs prog 22 (.slice (some ⟨b,o+256*p,none⟩) 256 (cap - 256*p)) (some (.int .i64 64)) none none=some (cutV 1 (some ⟨b,o+256*p,none⟩) (cap - 256*p) 64 256):=slc_lo slc22 arr22 sz5 (l:=64) (n:=256) (by omega) (by omega);have hc:=By.slc hpb (l:=64) (m:=256) (by omega) (by omega);rw[List.take_of_length_le (by rw[lDr];omega)]at hc;simp -implicitDefEqProofs only[go_sem,jY,gLa,gLz,gLs,bSe,sl];refine qQa pl216 ((trim _ hc (by rw[lDr];omega)).mono ?_);rintro _ w2 ⟨f2,a,n,c,rfl,hn⟩;have d2:decide ((n:Int) > 0)=decide (0<n):=decide_eq_decide.2 ⟨fun h=>by omega,fun h=>by omega⟩;rw[hn]at d2
 cases hz:zer ((pgB im p).drop 64) with
 | true =>
  rw[hz]at d2;rw[if_neg (by simp)];simp -implicitDefEqProofs only[go_sem,jY,gLa,gLz,gLs,bSe,yG,d2];exact f1.trans f2
 | false =>
  rw[hz]at d2;rw[if_pos ⟨h2,rfl⟩];simp -implicitDefEqProofs only[go_sem,jY,gLa,gLz,gLs,bSe,xG,d2];exact f1.trans f2
def errP:Except Int Pg→Int
 | .error e=>e
 | .ok _=>0
def LdB (sb mn mr:Nat)(cv:Value)(b:Nat):Prop:=b=sb∨b=mn∨b=mr∨qQg cv=some b
def LoQ (u w:World)(sb:Nat)(iv:Value)(im:Bs)(s:Sup)(mn mr:Nat)(cv vv fv bv:Value)(pg:Nat→Option Pg)(k:Nat)(fs:List (Nat × Int))(e:Int)(v:Value)(w':World):Prop :=
 v=.int .i64 e∧Fr (LdB sb mn mr cv) w w'∧∃ cv' nl' rl',SgM u w' sb iv im s mn mr cv' vv fv bv nl' rl' pg (k+1) fs
theorem unpP_err (h:unpP p raw=.error e):e≠0:=by
 unfold unpP at h
 repeat' split at h
 all_goals first | (cases h;decide) | cases h
end
end A
end
end Go.V
