/- Helpers. -/
import Derived.Test.YtmenaeggoakppaaGreatDoorG41
import Derived.Test.YtmenaeggoakppaaGreatDoorG39
import Derived.Test.YtmenaeggoakppaaGreatDoorG32
set_option linter.all false
set_option maxRecDepth 100000
set_option maxHeartbeats 8000000
open List renaming replicate→zG,getElem_mem→vA,mem_cons_of_mem→rG,zipWith→rH,length_set→jY,getElem?_append_right→jN,mem_cons→rB,getElem?_toArray→zX,mem_of_mem_take→zM,mem_of_mem_drop→zN,getElem_of_mem→rM,mem_singleton→vD
open Nat renaming reduceEqDiff→jF,le_refl→xP,sub_self→jQ
open Go.Value renaming cells→jM
namespace Go.V
open Go.Proofs.Tryz Go.V.Tryz
open Go.Proofs Sha
variable {k k1 k2 x2:Bs} {wd:Int} {qs:List (Nat × Nat × Nat)} {ks' l:List Bs} {b i pb:Nat} {kq:Nat × Nat × Nat} {av iv kv r tsv:Value} {w' w0:World}
section
section
variable {w0 w w':World} {pb:Nat} {kq:Nat × Nat × Nat} {iv av:Value} {qs:List (Nat × Nat × Nat)} {ks ts:List Bs}
theorem Pl.ne1 (h:Pl w0 w pb kq iv av qs ks ts):pb≠kq.1:=fun e=>by
 have:=h.nd;rw[e]at this;simp at this
theorem Pl.ne2 (h:Pl w0 w pb kq iv av qs ks ts)(hi:i<qs.length):pb≠qs[i].1∧kq.1≠qs[i].1:=by
 have hn:=h.nd;have hm:qs[i].1 ∈ qs.map (·.1):=List.mem_map.2 ⟨qs[i],vA _,rfl⟩
 constructor <;> intro e
 ·rw[e]at hn
  exact (List.nodup_cons.1 hn).1 (rG _ hm)
 ·rw[e]at hn
  exact (List.nodup_cons.1 (List.nodup_cons.1 hn).2).1 hm
theorem Pl.ne3 (h:Pl w0 w pb kq iv av qs ks ts){i j:Nat}(hi:i<qs.length)(hj:j<qs.length)(hij:i≠j):qs[i].1≠qs[j].1:=by
 have hn:=(List.nodup_cons.1 (List.nodup_cons.1 h.nd).2).2
 have:=(List.pairwise_iff_getElem.1 hn)
 rcases Nat.lt_or_ge i j with h1 | h1
 ·have:=this i j (by simpa using hi) (by simpa using hj) h1
  simpa using this
 ·have:=this j i (by simpa using hj) (by simpa using hi) (by omega)
  simpa using this.symm
theorem Pl.lt (h:Pl w0 w pb kq iv av qs ks ts)(hb:b ∈ pb::kq.1::qs.map (·.1)):b<w.heap.size:=by
 rcases List.mem_cons.1 hb with rfl | hb
 ·exact qQh h.cell
 ·rcases List.mem_cons.1 hb with rfl | hb
  ·exact (h.key.lt rfl).2
  ·obtain⟨q,hq,rfl⟩:=List.mem_map.1 hb
   obtain⟨i,hi,rfl⟩:=rM hq;exact ((h.txt i hi (by rw[← h.len];exact hi)).lt rfl).2
theorem Pl.wk (h:Pl w0 w pb kq iv av qs ks ts)(k:Fr (fun b=>b=kq.1) w w')(hl:ks'.length=ks.length)(hk:NwD w0 w' 34 (tv kq (ks.length+1)) (ks'++[K9])):Pl w0 w' pb kq iv av qs ks' ts :=
 ⟨by rw[hl];exact k.at h.cell h.ne1,h.new,by rw[hl];exact hk,h.len,h.inn.fr k fun b hb e=>h.ia b hb (by subst e;simp),h.all.fr k fun b hb e=>h.aa b hb (by subst e;simp),
  fun i a b=>(h.txt i a b).fr k fun c hc e=>(h.ne2 a).2 (by simp only[tv,qQb,oSi]at hc;omega),h.nd,h.ia,h.aa,h.ii⟩
theorem Pl.wt (h:Pl w0 w pb kq iv av qs ks ts)(hi:i<qs.length)(hi':i<ts.length)(k:Fr (fun b=>b=qs[i].1) w w'){t':Bs}(hl:t'.length=ts[i].length)(hk:NwB w0 w' (tv qs[i] (ts[i].length+16)) (t'++T16)):Pl w0 w' pb kq iv av qs ks (ts.set i t'):=by
 have hz:∀ (g:Nat × Nat × Nat→Nat→Value),rH (fun q (t:Bs)=>g q t.length) qs (ts.set i t')=rH (fun q (t:Bs)=>g q t.length) qs ts:=fun g=>by
  refine List.ext_getElem (by simp) fun j h1 h2=>?_;simp only[List.getElem_zipWith,List.getElem_set];split
  ·rename_i e;subst e;rw[hl]
  ·rfl
 refine⟨k.at h.cell (h.ne2 hi).1,h.new,h.key.fr k fun b hb e=>(h.ne2 hi).2 (by simp only[tv,qQb,oSi]at hb;omega),by rw[jY];exact h.len,?_,?_,fun j a b=>?_,h.nd,h.ia,h.aa,h.ii⟩
 ·rw[jY,hz fun q n=>tv q n]
  exact h.inn.fr k fun b hb e=>h.ia b hb (by subst e;simp[List.mem_map];right;right;exact⟨_,_,vA hi⟩)
 ·rw[jY,hz fun q n=>tv q (n+16)]
  exact h.all.fr k fun b hb e=>h.aa b hb (by subst e;simp[List.mem_map];right;right;exact⟨_,_,vA hi⟩)
 ·by_cases e:i=j
  ·subst e
   simp only[List.getElem_set_self];rw[hl];exact hk
  ·rw[jY]at b
   simp only[List.getElem_set_ne e];exact (h.txt j a b).fr k fun c hc e'=>h.ne3 hi a e (by simp only[tv,qQb,oSi]at hc;omega)
end
def ovI (w0 w1:World)(pb:Nat)(kq:Nat × Nat × Nat)(iv av:Value)(qs:List (Nat × Nat × Nat))(ks ts ts':List Bs)(tsv:Value)(n:Nat)(vs:List Value)(w:World):Prop :=
 ∃ (i:Nat),vs=[pt pb 0,tsv,.int .i64 (i:Nat)]∧i≤ts.length∧n=ts.length - i∧Pl w0 w pb kq iv av qs ks (ts'.take i++ts.drop i)∧Fr (Pl.W kq qs) w1 w
theorem over (w0 w1:World){ks ts ks' ts':List Bs}(h:Pl w0 w1 pb kq iv av qs ks ts)(hk:RdD w1 kv ks')(hkl:ks'.length=ks.length)(hkb:ks'≠[]→∀ b, qQb kv=some b→¬ Pl.W kq qs b)(hts:TsA w1 tsv ts' (Pl.W kq qs))(htl:ts'.length=ts.length)(htll:∀ i, (ts'.getD i []).length=(ts.getD i []).length)
  (hl:ks.length≤2 ^ 50) (hl2:∀ t ∈ ts,t.length≤2 ^ 50) (htn:ts.length≤2 ^ 50) :
  Fn prog 14 #[pt pb 0,kv,tsv] w1 fun r w'=>r=.tuple #[]∧Pl w0 w' pb kq iv av qs ks' ts'∧Fr (Pl.W kq qs) w1 w':=by
 refine go14 (by simp) ?_;have r1:=qQo (P:=prog) h.cell;simp -implicitDefEqProofs only[go_sem,jF,Nat.reduceAdd,gLa,gLz,Tryz.f14,r1,qQk];refine qQa pl38 ((keysPlaced w0 w1 h.key hk hkl (fun hn b hb e=>hkb hn b hb (by unfold Pl.W;simp[e])) hl).mono ?_);rintro _ w2 ⟨rfl,n2,f2⟩;have h2:=h.wk f2 hkl n2;have f2':Fr (Pl.W kq qs) w1 w2:=f2.mono fun b _ e=>by unfold Pl.W;simp[e]
 have hts2:=hts.fr f2' fun _ h=>h;simp -implicitDefEqProofs only[go_sem];refine loopD [0,2,6] (ovI w0 w1 pb kq iv av qs ks' ts ts' tsv) ts.length ⟨0,rfl,by omega,rfl,by rw[List.take_zero,List.drop_zero,List.nil_append];exact h2,f2'⟩ ?_;rintro _ vs w g ⟨i,rfl,hi,rfl,h3,f3⟩;have hts3:=hts.fr f3 fun _ h=>h
 by_cases hlt:i<ts.length
 ·have hlm:(ts'.take i++ts.drop i).length=ts.length:=by rw[lAp,lTk,lDr];omega
  have hgm:(ts'.take i++ts.drop i).getD i []=ts.getD i []:=by
   rw[gDq,jN (by rw[lTk];omega),lTk,Nat.min_eq_left (by omega),jQ,List.getElem?_drop,Nat.add_zero,gDq]
  obtain⟨tb,to,tc,xv,rfl,hx,hxb,hxr⟩:=hts3.at (i:=i) (by omega);have d1:=dTo ((i:Int)<((ts'.length:Nat):Int));have c1:=iSu (i:=i);have y1:=iBd (i:=i) (n:=ts'.length);have y2:=iBd (i:=i) (n:=(ts'.take i++ts.drop i).length);have rc3:=qQo (P:=prog) h3.cell;have rc3d:∀ t' o,rdO prog t' w.drew pb o=_:=rc3;obtain⟨q,b1,o1,c1',b2,o2,c2',hq,rfl,rfl,hN,hr1,_⟩:=h3.at (i:=i) (by omega);rw[hgm]at hN hr1;have ra:=hr1 w (Fr.refl _ _);have rad:=hr1 w.drew (Fr.refl _ _).drew;have rx:=hxr w (Fr.refl _ _);have rxd:=hxr w.drew (Fr.refl _ _).drew;obtain⟨hiq,rfl⟩:=List.getElem?_eq_some_iff.1 hq;have htt:(ts.getD i []).length≤2 ^ 50:=by rw[qQi _ hlt];exact hl2 _ (vA _)
  simp -implicitDefEqProofs only[go_sem,jF,gLa,gLz,gLs,decide_true,y1,y2,and_self,iTn,Nat.mul_one,rc3d,qQk,rad,rxd];refine qQa pl39 ((place w0 w.drew (hN.fr0 (Fr.refl _ _).drew) (hx.fr0 (Fr.refl _ _).drew) (htll i) (fun hn b hb e=>hxb hn b hb (by unfold Pl.W;rw[e];exact rG _ (List.mem_map.2 ⟨_,vA hiq,rfl⟩))) htt).mono ?_);rintro _ w4 ⟨rfl,n4,f4⟩;have him:i<(ts'.take i++ts.drop i).length:=by omega
  have hgi:(ts'.take i++ts.drop i)[i]=ts.getD i []:=by rw[← hgm,qQi _ him]
  have h5:=(h3.fr0 (Fr.refl _ _).drew).wt hiq him f4 (t':=ts'.getD i []) (by rw[hgi];exact htll i) (by rw[hgi];exact n4)
  have hst:(ts'.take i++ts.drop i).set i (ts'.getD i [])=ts'.take (i+1)++ts.drop (i+1):=by
   rw[List.set_append_right _ _ (by rw[lTk];omega),lTk,Nat.min_eq_left (by omega),jQ,List.drop_eq_getElem_cons hlt,List.set_cons_zero,tSg (show i<ts'.length by omega),qQi _ (show i<ts'.length by omega),List.append_assoc]
   rfl
  rw[hst]at h5;simp -implicitDefEqProofs only[go_sem,jF,c1];exact⟨ts.length - (i+1),by omega,i+1,rfl,by omega,rfl,h5,f3.drew.trans (f4.mono fun b _ e=>by unfold Pl.W;rw[e];exact rG _ (List.mem_map.2 ⟨_,vA hiq,rfl⟩))⟩
 ·obtain⟨ta,tc,rfl⟩:=hts.slice
  have d1:=dFo ((i:Int)<((ts'.length:Nat):Int));obtain rfl:i=ts.length:=by omega
  rw[List.drop_length,List.append_nil,List.take_of_length_le (by omega)]at h3;simp -implicitDefEqProofs only[go_sem,jF,gLa,gLz,d1];exact⟨h3,f3⟩
end
def laI (w0:World)(pb:Nat)(kq:Nat × Nat × Nat)(tsv:Value)(ks ts:List Bs)(n:Nat)(vs:List Value)(w:World):Prop :=
 ∃ (i:Nat) (iv av:Value) (qs:List (Nat × Nat × Nat)),vs=[tsv,pt pb 0,.int .i64 (i:Nat)]∧i≤ts.length∧n=ts.length - i∧Pl w0 w pb kq iv av qs ks (ts.take i)∧No w0 w
theorem lawLaid (w0:World){ks ts:List Bs}(hk:RdD w0 kv ks)(hts:TsA w0 tsv ts fun _=>False)(hl:ks.length≤2 ^ 42)(htl:∀ t ∈ ts, t.length≤2 ^ 47)(htn:ts.length≤6000000000000) :
  Fn prog 10 #[kv,tsv] w0 fun r w'=>No w0 w'∧∃ pb kq iv av qs,r=pt pb 0∧Pl w0 w' pb kq iv av qs ks ts:=by
 refine go10 (by simp) ?_;obtain⟨ka,kc,rfl,hkc⟩:=hk.slice;have bld0:bldO prog 59 []=some (.agg #[.slice .none 0 0,.slice .none 0 0,.slice .none 0 0,.slice .none 0 0]):=rfl;obtain⟨W,hW,f1,k1,s1⟩:=qQs w0 #[.slice .none 0 0,.slice .none 0 0,.slice .none 0 0,.slice .none 0 0] 59;simp -implicitDefEqProofs only[go_sem,jF,Tryz.f10,bld0,jM,hW];refine qQa pl29 ((keysOf W (hk.fr0 f1) hl).mono ?_);rintro _ w2 ⟨f2,kq,rfl,n2⟩;have k2:=f2.at k1 id;have f02:=f1.trans f2;have q3:wrO prog 24 w2 w0.heap.size 0 (tv kq ks.length)=some (put w2 w0.heap.size (.cells #[tv kq ks.length,.slice .none 0 0,.slice .none 0 0,.slice .none 0 0] 59 (0,0))):=wr1 sz24 rfl k2 (by simp);have k3:=qQf (o:=.cells #[tv kq ks.length,.slice .none 0 0,.slice .none 0 0,.slice .none 0 0] 59 (0,0)) k2;have q4:wrO prog 24 (put w2 w0.heap.size (.cells #[tv kq ks.length,.slice .none 0 0,.slice .none 0 0,.slice .none 0 0] 59 (0,0))) w0.heap.size 1 (tv kq (ks.length+1))=some (put (put w2 w0.heap.size (.cells #[tv kq ks.length,.slice .none 0 0,.slice .none 0 0,.slice .none 0 0] 59 (0,0))) w0.heap.size (.cells #[tv kq ks.length,tv kq (ks.length+1),.slice .none 0 0,.slice .none 0 0] 59 (0,0))):=wr1 sz24 rfl k3 (by simp);have k4:=qQf (o:=.cells #[tv kq ks.length,tv kq (ks.length+1),.slice .none 0 0,.slice .none 0 0] 59 (0,0)) k3;have fp:Fr (fun b=>b=w0.heap.size) w2 (put (put w2 w0.heap.size (.cells #[tv kq ks.length,.slice .none 0 0,.slice .none 0 0,.slice .none 0 0] 59 (0,0))) w0.heap.size (.cells #[tv kq ks.length,tv kq (ks.length+1),.slice .none 0 0,.slice .none 0 0] 59 (0,0))):=((Fr.refl (fun b=>b=w0.heap.size) w2).put (b:=w0.heap.size) _ fun _=>rfl).put (b:=w0.heap.size) _ fun _=>rfl
 obtain⟨w4,hw4⟩:∃ w4,w4=(put (put w2 w0.heap.size (.cells #[tv kq ks.length,.slice .none 0 0,.slice .none 0 0,.slice .none 0 0] 59 (0,0))) w0.heap.size (.cells #[tv kq ks.length,tv kq (ks.length+1),.slice .none 0 0,.slice .none 0 0] 59 (0,0))):=⟨_,rfl⟩
 rw[← hw4]at q4 k4 fp;have f04:No w0 w4:=f02.trans' fp fun b hb h=>by omega
 have hkq:=n2.lt (b:=kq.1) rfl
 have hP:Pl w0 w4 w0.heap.size kq (.slice .none 0 0) (.slice .none 0 0) [] ks (ts.take 0) :=
  ⟨k4,xP _,(n2.back f1.size).fr fp fun b hb e=>by simp only[tv,qQb,oSi]at hb;omega,rfl,Nw.nil _ _ _ _,Nw.nil _ _ _ _,fun i h=>absurd h (by simp),by simp;omega,fun b hb=>(by cases hb),fun b hb=>(by cases hb),fun b hb=>(by cases hb)⟩
 simp -implicitDefEqProofs only[go_sem,jF,gLa,gLz,gLs,q3,q4];refine loopD [1,5,6] (laI w0 w0.heap.size kq tsv ks ts) ts.length ⟨0,_,_,[],rfl,by omega,rfl,hP,f04⟩ ?_;clear hP q3 q4 k3 k4 fp hw4;rintro _ vs w g ⟨i,iv,av,qs,rfl,hi,rfl,h3,f3⟩
 by_cases hlt:i<ts.length
 ·obtain⟨tb,to,tc,xv,rfl,hx,_,hxr⟩:=hts.at hlt
  have d1:=dTo ((i:Int)<((ts.length:Nat):Int));have c1:=iSu (i:=i);have y1:=iBd (i:=i) (n:=ts.length);have rx:=hxr w f3;have htt:(ts.getD i []).length≤2 ^ 47:=by rw[qQi _ hlt];exact htl _ (vA _)
  have hst:ts.take (i+1)=ts.take i++[ts.getD i []]:=by rw[tSg hlt,qQi _ hlt]
  have hltk:(ts.take i).length=i:=by rw[lTk];omega
  simp -implicitDefEqProofs only[go_sem,jF,gLa,gLz,decide_true,y1,and_self,iTn,Nat.mul_one,rx];refine qQa pl30 ((roomy w (hx.fr0 f3) htt).mono ?_);rintro _ w5 ⟨f5,q,rfl,n5⟩;generalize ts.getD i []=t at *;have h5:=h3.fr0 f5;have f05:=f3.trans f5;have hq:=n5.lt (b:=q.1) rfl;have rc5:=qQo (P:=prog) h5.cell;simp -implicitDefEqProofs only[go_sem,jF,gLa,gLz,gLs,rc5,qQk];refine qQl (v:=.slice (some ⟨w5.heap.size,0,.none⟩) 1 1) (w':=w5.alloc (.cells #[tv q t.length] 25)) rfl ?_;obtain⟨v6,w6,hr6,b6,f06,f6,g6⟩:=qZv (P:=prog) app37_37 h5.inn (m:=1) (xs:=#[tv q t.length]) rfl rfl (by decide) (bd_one (by omega)) (by omega) f05;simp -implicitDefEqProofs only[go_sem,jF];refine qQg ⟨v6,w6,hr6,?_⟩;have hpb:∀ b,qQb iv=some b→w0.heap.size≠b:=fun b hb e=>h5.ia b hb (by subst e;simp)
  have hone6:one v6=true:=by
   rcases b6.own with ⟨e,_⟩ | ⟨_,_,_,_,e,_⟩ <;> rw[e] <;> rfl
  have k6:w6.heap[w0.heap.size]?=some (.cells #[tv kq ks.length,tv kq (ks.length+1),iv,av] 59 (0,0)):=f6.at h5.cell fun e=>hpb _ e rfl;have q7:wrO prog 37 w6 w0.heap.size 2 v6=some (put w6 w0.heap.size (.cells #[tv kq ks.length,tv kq (ks.length+1),v6,av] 59 (0,0))):=wr1 sz37 hone6 k6 (by simp);have k7:=qQf (o:=.cells #[tv kq ks.length,tv kq (ks.length+1),v6,av] 59 (0,0)) k6;have f7:Fr (fun b=>b=w0.heap.size) w6 (put w6 w0.heap.size (.cells #[tv kq ks.length,tv kq (ks.length+1),v6,av] 59 (0,0))):=(Fr.refl (fun b=>b=w0.heap.size) w6).put (b:=w0.heap.size) _ fun _=>rfl
  obtain⟨w7,hw7⟩:∃ w7,w7=put w6 w0.heap.size (.cells #[tv kq ks.length,tv kq (ks.length+1),v6,av] 59 (0,0)):=⟨_,rfl⟩
  rw[← hw7]at q7 k7 f7;have f07:No w0 w7:=f06.trans' f7 fun b hb e=>by omega
  have hpl:w0.heap.size<w.heap.size:=h3.lt (by simp);have hw5:=f5.size;have hlA:∀ b,b ∈ w0.heap.size::kq.1::qs.map (·.1)→b<w.heap.size:=fun b hb=>h3.lt hb;have hiv:∀ b,qQb iv=some b→b<w.heap.size:=fun b hb=>h3.inn.own.lt hb;have hav:∀ b,qQb av=some b→b<w.heap.size:=fun b hb=>h3.all.own.lt hb;have f57:Fr (fun b=>qQb iv=some b∨b=w0.heap.size) w5 w7:=(f6.mono fun _ _ h=>.inl h).trans' f7 fun b _ e=>.inr e
  have all7:Nw w0 w7 25 1 av (ts.take i).length (rH (fun q (t:Bs)=>tv q (t.length+16)) qs (ts.take i)):=h5.all.fr f57 fun b hb e=>by
   rcases e with e | e
   ·exact h5.ii b e hb
   ·exact h5.aa b hb (by subst e;simp)
  have rc7:=qQo (P:=prog) k7;simp -implicitDefEqProofs only[go_sem,jF,gLa,gLz,gLs,q7,rc7,qQk];refine qQl (v:=.slice (some ⟨w7.heap.size,0,.none⟩) 1 1) (w':=w7.alloc (.cells #[tv q (t.length+16)] 25)) rfl ?_;obtain⟨v8,w8,hr8,b8,f08,f8,g8⟩:=qZv (P:=prog) app37_37 all7 (m:=1) (xs:=#[tv q (t.length+16)]) rfl rfl (by decide) (bd_one (by omega)) (by omega) f07;simp -implicitDefEqProofs only[go_sem,jF];refine qQg ⟨v8,w8,hr8,?_⟩;have hpb8:∀ b,qQb av=some b→w0.heap.size≠b:=fun b hb e=>h5.aa b hb (by subst e;simp)
  have hone8:one v8=true:=by
   rcases b8.own with ⟨e,_⟩ | ⟨_,_,_,_,e,_⟩ <;> rw[e] <;> rfl
  have k8:w8.heap[w0.heap.size]?=some (.cells #[tv kq ks.length,tv kq (ks.length+1),v6,av] 59 (0,0)):=f8.at k7 fun e=>hpb8 _ e rfl;have q9:wrO prog 37 w8 w0.heap.size 3 v8=some (put w8 w0.heap.size (.cells #[tv kq ks.length,tv kq (ks.length+1),v6,v8] 59 (0,0))):=wr1 sz37 hone8 k8 (by simp);have k9:=qQf (o:=.cells #[tv kq ks.length,tv kq (ks.length+1),v6,v8] 59 (0,0)) k8;have f9:Fr (fun b=>b=w0.heap.size) w8 (put w8 w0.heap.size (.cells #[tv kq ks.length,tv kq (ks.length+1),v6,v8] 59 (0,0))):=(Fr.refl (fun b=>b=w0.heap.size) w8).put (b:=w0.heap.size) _ fun _=>rfl
  obtain⟨w9,hw9⟩:∃ w9,w9=put w8 w0.heap.size (.cells #[tv kq ks.length,tv kq (ks.length+1),v6,v8] 59 (0,0)):=⟨_,rfl⟩
  rw[← hw9]at q9 k9 f9;have f09:No w0 w9:=f08.trans' f9 fun b hb e=>by omega
  have s56:=f6.size;have s67:=f7.size;have h6b:∀ b,qQb v6=some b→qQb iv=some b∨w5.heap.size≤b:=g6;have h8b:∀ b,qQb v8=some b→qQb av=some b∨w7.heap.size≤b:=g8;have h6l:∀ b,qQb v6=some b→b<w7.heap.size:=fun b hb=>by have:=b6.own.lt hb;omega
  have f79:Fr (fun b=>qQb av=some b∨b=w0.heap.size) w7 w9:=(f8.mono fun _ _ h=>.inl h).trans' f9 fun b _ e=>.inr e;have f59:Fr (fun b=>qQb iv=some b∨qQb av=some b∨b=w0.heap.size) w5 w9:=(f57.mono fun _ _ h=>h.imp id .inr).trans (f79.mono fun _ _ h=>.inr h);have f69:Fr (fun b=>b=w0.heap.size∨qQb av=some b) w6 w9:=(f7.mono fun _ _ h=>.inl h).trans (f79.mono fun _ _ h=>h.elim .inr .inl)
  have hz:∀ (g:Nat × Nat × Nat→Nat→Value),rH (fun q (t:Bs)=>g q t.length) (qs++[q]) (ts.take (i+1))=rH (fun q (t:Bs)=>g q t.length) qs (ts.take i)++[g q t.length]:=fun g=>by
   rw[hst,List.zipWith_append (by rw[h3.len])];rfl
  have nmem:∀ b,b ∈ w0.heap.size::kq.1::(qs++[q]).map (·.1)→b ∈ w0.heap.size::kq.1::qs.map (·.1)∨b=q.1:=fun b hb=>by
   simp only[List.map_append,List.map_cons,List.map_nil,rB,List.mem_append,List.not_mem_nil,or_false]at hb ⊢
   rcases hb with h | h | h | h
   ·exact .inl (.inl h)
   ·exact .inl (.inr (.inl h))
   ·exact .inl (.inr (.inr h))
   ·exact .inr h
  simp -implicitDefEqProofs only[go_sem,jF,q9,c1];refine⟨ts.length - (i+1),by omega,i+1,v6,v8,qs++[q],rfl,by omega,rfl,⟨k9,xP _,?_,?_,?_,?_,?_,?_,?_,?_,?_⟩,f09⟩
  ·exact h5.key.fr f59 fun b hb e=>by
    have hbk:b=kq.1:=by simp only[tv,qQb,oSi]at hb;exact hb.symm
    rcases e with e | e | e
    ·exact h5.ia b e (by subst hbk;simp)
    ·exact h5.aa b e (by subst hbk;simp)
    ·exact h5.ne1 (e.symm.trans hbk)
  ·rw[hst,lAp,lAp,h3.len];rfl
  ·rw[hz fun q n=>tv q n,hst,lAp]
   exact b6.fr f69 fun b hb e=>by
    rcases h6b b hb with h' | h'
    ·rcases e with e | e
     ·exact hpb b h' e.symm
     ·exact h5.ii b h' e
    ·rcases e with e | e
     ·omega
     ·have:=hav b e;omega
  ·rw[hz fun q n=>tv q (n+16),hst,lAp]
   exact b8.fr f9 fun b hb e=>by
    rcases h8b b hb with h' | h'
    ·exact hpb8 b h' e.symm
    ·omega
  ·intro j hj hj'
   by_cases hjl:j<qs.length
   ·have hjt:j<(ts.take i).length:=by rw[← h3.len];exact hjl
    have e1:(qs++[q])[j]=qs[j]:=List.getElem_append_left hjl
    have e2:(ts.take (i+1))[j]=(ts.take i)[j]:=by
     simp only[List.getElem_take]
    rw[e1,e2];have hm:qs[j].1 ∈ w0.heap.size::kq.1::qs.map (·.1):=rG _ (rG _ (List.mem_map.2 ⟨_,vA hjl,rfl⟩))
    exact (h5.txt j hjl hjt).fr f59 fun b hb e=>by
     have hbk:b=qs[j].1:=by simp only[tv,qQb,oSi]at hb;exact hb.symm
     rcases e with e | e | e
     ·exact h5.ia b e (by rw[hbk];exact hm)
     ·exact h5.aa b e (by rw[hbk];exact hm)
     ·exact (h5.ne2 hjl).1 (e.symm.trans hbk)
   ·have hlq:qs.length=i:=by rw[h3.len,hltk]
    have hji:j=i:=by
     rw[lAp]at hj;simp at hj;omega
    subst hji;have e1:(qs++[q])[j]=q:=by rw[List.getElem_append_right (by omega)];simp[hlq]
    have e2:(ts.take (j+1))[j]=t:=by
     have:(ts.take (j+1))[j]?=some t:=by rw[hst,jN (by omega),hltk,jQ];rfl
     exact (List.getElem?_eq_some_iff.1 this).2
    rw[e1,e2]
    exact (n5.back f3.size).fr f59 fun b hb e=>by
     have hbk:b=q.1:=by simp only[tv,qQb,oSi]at hb;exact hb.symm
     rcases e with e | e | e
     ·have:=hiv b e;omega
     ·have:=hav b e;omega
     ·omega
  ·have hn:=h3.nd
   have hqn:q.1 ∉ w0.heap.size::kq.1::qs.map (·.1):=fun hm=>by have:=hlA _ hm;omega
   have hp:(w0.heap.size::kq.1::(qs++[q]).map (·.1))=(w0.heap.size::kq.1::qs.map (·.1))++[q.1]:=by simp
   rw[hp];exact List.nodup_append.2 ⟨hn,by simp,fun a ha b hb e=>by simp only[vD]at hb;subst hb;subst e;exact hqn ha⟩
  ·intro b hb hm
   rcases nmem b hm with hm | e
   ·rcases h6b b hb with h' | h'
    ·exact h5.ia b h' hm
    ·have:=hlA b hm;omega
   ·rcases h6b b hb with h' | h'
    ·have:=hiv b h';omega
    ·omega
  ·intro b hb hm
   rcases nmem b hm with hm | e
   ·rcases h8b b hb with h' | h'
    ·exact h5.aa b h' hm
    ·have:=hlA b hm;omega
   ·rcases h8b b hb with h' | h'
    ·have:=hav b h';omega
    ·omega
  ·intro b hb hm
   rcases h8b b hm with h' | h'
   ·rcases h6b b hb with h'' | h''
    ·exact h5.ii b h'' h'
    ·have:=hav b h';omega
   ·have:=h6l b hb;omega
 ·obtain⟨ta,tc,rfl⟩:=hts.slice
  have d1:=dFo ((i:Int)<((ts.length:Nat):Int));obtain rfl:i=ts.length:=by omega
  rw[List.take_length]at h3;simp -implicitDefEqProofs only[go_sem,jF,gLa,gLz,d1];exact⟨f3,_,_,_,_,_,rfl,h3⟩
section
open Wit (K0 K1 kRaw)
theorem bldK0:bldO prog 34 []=some (dg K0):=by kernel_rfl
theorem bldK1:bldO prog 34 [(0,.int .u8 128)]=some (dg K1):=by kernel_rfl
theorem bldE {vv:Value}(hk:k.length=32)(h:one vv=true):bldO prog 65 [(0,dg k),(1,vv)]=some (.agg (k.map u8++[vv]).toArray):=by
 simp only[bldO,zero65,places65,Option.bind_some];have hz:(Value.agg (Array.replicate 32 (.int .u8 0)++#[Value.slice .none 0 0])).cells.size=33:=rfl;have e:(dg k).cells.toList=k.map u8:=rfl;rw[qZd (off:=0) (n:=32) rfl (by simp[jM,hk]) (by rw[hz];decide),qXj (off:=32) rfl h (by rw[qXn,hz];decide),fill_nil',Option.map_some]
 congr 2
 apply Array.toList_inj.1;rw[Array.toList_setIfInBounds,e,qXk _ _ _ (by rw[hz,List.length_map,hk];decide)];simp[jM,hk]
theorem VeQ.okd {x:Except Int (List (Option Bs))}{an:List (Option Bs)}(h:VeQ w0 x r w')(hx:x=.ok an):No w0 w'∧∃ v,r=.tuple #[v,.int .i64 0]∧AnL w' v an:=by subst hx;exact h
theorem BsQ.okd {x:Except Int Bs}{bs:Bs}(h:BsQ w0 x r w')(hx:x=.ok bs):No w0 w'∧∃ v,r=.tuple #[v,.int .i64 0]∧NwB w0 w' v bs:=by subst hx;exact h
theorem enr2 (w:World){v1 v2:Value}{x1 x2:Bs}(h1:k1.length=32)(h2:k2.length=32)(o1:one v1=true)(o2:one v2=true)(y1:By w v1 x1)(y2:By w v2 x2) :
  EnR (w.alloc (.cells ((k1.map u8++[v1])++(k2.map u8++[v2])).toArray 65)) (.slice (some ⟨w.heap.size,0,.none⟩) 2 2) [(k1,x1),(k2,x2)]:=by
 have f:No w (w.alloc (.cells ((k1.map u8++[v1])++(k2.map u8++[v2])).toArray 65)):=(Fr.refl _ _).alloc _;refine⟨[enRow (k1,x1) v1,enRow (k2,x2) v2],⟨fun r hr=>?_,?_⟩,rfl,fun i h h'=>?_⟩
 ·simp only[rB,List.not_mem_nil,or_false]at hr
  rcases hr with rfl | rfl
  ·exact⟨by simp[enRow,h1],by simp only[enRow,List.all_append,qXs,List.all_cons,List.all_nil,o1];rfl⟩
  ·exact⟨by simp[enRow,h2],by simp only[enRow,List.all_append,qXs,List.all_cons,List.all_nil,o2];rfl⟩
 ·refine⟨by simp[enRow,h1,h2],_,_,rfl,xP _,fun _=>⟨_,_,rfl,fun i hi=>?_⟩⟩
  rw[qXd (qQc _ _),Nat.zero_add,zX];simp[enRow]
 ·rcases i with _ | _ | i
  ·exact⟨v1,rfl,h1,o1,y1.fr0 f⟩
  ·exact⟨v2,rfl,h2,o2,y2.fr0 f⟩
  ·exfalso;simp only[List.length_cons,List.length_nil]at h;omega
theorem keys2 (w:World)(h1:k1.length=32)(h2:k2.length=32) :
  RdD (w.alloc (.cells (k1.map u8++k2.map u8).toArray 34)) (.slice (some ⟨w.heap.size,0,.none⟩) 2 2) [k1,k2]:=by
 refine⟨All32.cons h1 (All32.one h2),by simp[flat,h1,h2],_,_,rfl,xP _,fun _=>⟨_,_,rfl,fun i hi=>?_⟩⟩;rw[qXd (qQc _ _),Nat.zero_add,zX];simp[flat]
theorem bytes2 (w0:World)(ht:Tabs w0){mv:Value}(hm:EnR w0 mv [(K0, [120]), (K1, [121])])(hx2:R.Lone 4 (K1, [121]) 255 x2) :
  Fn prog 35 #[.int .i64 4,mv,dg K0] w0 fun v w'=>NwB w0 w' v (Wit.ansT (some [120])++(R.setP 4 (zG 32 0) 255 x2).1++(R.setP 4 (zG 32 0) 255 x2).2.flatten)∧No w0 w':=by
 refine go35 (by simp) ?_;have l0:K0.length=32:=rfl;obtain⟨W,hW,f1,k1,s1⟩:=qQs w0 (bl K0) 34;have r1:=rd_d agg34 sz34 k1 l0;simp -implicitDefEqProofs only[go_sem,jF,Nat.reduceAdd,Tryz.f35,jM,hW,r1];refine qQa pl70 ((R.prove2 W (ht.no f1) 4 (hm.fr0 f1) Wit.kcom l0 (by decide) (by decide) hx2).mono ?_);rintro _ w2 ⟨f2,vv,sv,rfl,hvo,hso,n2,d2⟩
 have hbl:(R.setP 4 (zG 32 0) 255 x2).1.length=32:=by unfold R.setP;split <;> simp
 have hpop:(R.setP 4 (zG 32 0) 255 x2).2.length=R.pops (R.setP 4 (zG 32 0) 255 x2).1:=by
  unfold R.setP;split
  ·decide +kernel
  ·show 1=R.pops ((zG 32 (0:Byte)).set (255 / 8) ((zG 32 (0:Byte)).getD (255 / 8) 0 ||| BitVec.ofNat 8 (2 ^ (255 % 8))))
   decide +kernel
 generalize (R.setP 4 (zG 32 0) 255 x2).1=bits at *;generalize (R.setP 4 (zG 32 0) 255 x2).2=sums at *;have hsz:(R.prC true vv bits sv).toArray.size=35:=by rw[List.size_toArray];exact R.prC_len hbl
 have k0:=qQc w2 (.cells R.prZ 122);have q3:wrO prog 122 (w2.alloc (.cells R.prZ 122)) w2.heap.size 0 (.agg (R.prC true vv bits sv).toArray)=some (put (w2.alloc (.cells R.prZ 122)) w2.heap.size (.cells (R.prC true vv bits sv).toArray 122 (0,0))):=qQw (by rw[hsz];exact sz122) k0 (by rw[hsz];simp[R.prZ]) (R.prC_one hvo hso);have k3:=qQf (o:=.cells (R.prC true vv bits sv).toArray 122 (0,0)) k0;have f3:No w2 (put (w2.alloc (.cells R.prZ 122)) w2.heap.size (.cells (R.prC true vv bits sv).toArray 122 (0,0))):=((Fr.refl _ _).alloc _).put (b:=w2.heap.size) _ fun h=>absurd h (Nat.lt_irrefl _)
 obtain⟨w3,hw3⟩:∃ w3,w3=put (w2.alloc (.cells R.prZ 122)) w2.heap.size (.cells (R.prC true vv bits sv).toArray 122 (0,0)):=⟨_,rfl⟩
 rw[← hw3]at q3 k3 f3;have r3:rdO prog 122 w3 w2.heap.size 0=some (.agg (R.prC true vv bits sv).toArray):=qXz agg122 (by rw[hsz];exact sz122) k3;simp -implicitDefEqProofs only[go_sem,jF,jM,q3,r3];refine qQa pl71 ((R.encode12 w3 (n2.by.fr0 f3) (by decide) hbl (d2.rd.fr0 f3) hpop hvo hso).mono ?_);rintro _ w4 ⟨f4,v,rfl,n4⟩;simp -implicitDefEqProofs only[go_sem,jF,gLa,gLz,gLs];exact⟨n4.back ((f1.trans f2).trans f3).size,((f1.trans f2).trans f3).trans f4⟩
theorem known (w0:World)(ht:Tabs w0):Fn prog 11 #[] w0 fun v w'=>v=.bool true∧No w0 w':=by
 refine go11 (by simp) ?_;have l0:K0.length=32:=rfl;have l1:K1.length=32:=rfl;obtain⟨W1,q1,k1,f1,s1⟩:=R.allocD w0 (ty:=34) sz34 l0;obtain⟨W2,q2,k2,f2,s2⟩:=R.allocD W1 (ty:=34) sz34 l1;have k12:=f2.at k1 id;have r1:=rd_d agg34 sz34 k12 l0;have f02:=f1.trans f2;simp -implicitDefEqProofs only[go_sem,jF,Tryz.f11,jM,qQj,bldK0,q1,bldK1,q2,r1];refine qQl (v:=.slice (some ⟨W2.heap.size,0,.none⟩) 1 1) (w':=W2.alloc (.cells (bl [120]) 5)) rfl ?_;obtain⟨W3,hc3,f3,y3,s3⟩:=text_new (P:=prog) slc25 int5 W2 [120];simp -implicitDefEqProofs only[go_sem];refine qQg ⟨_,W3,hc3,?_⟩;have r2:=rd_d agg34 sz34 ((f3).at k2 id) l1;have bE1:=bldE (vv:=.slice (some ⟨W2.heap.size,0,.none⟩) ([120]:Bs).length ([120]:Bs).length) l0 rfl;simp -implicitDefEqProofs only[go_sem,jF,bE1,r2];refine qQl (v:=.slice (some ⟨W3.heap.size,0,.none⟩) 1 1) (w':=W3.alloc (.cells (bl [121]) 5)) rfl ?_;obtain⟨W4,hc4,f4,y4,s4⟩:=text_new (P:=prog) slc25 int5 W3 [121];simp -implicitDefEqProofs only[go_sem];refine qQg ⟨_,W4,hc4,?_⟩;have bE2:=bldE (vv:=.slice (some ⟨W3.heap.size,0,.none⟩) ([121]:Bs).length ([121]:Bs).length) l1 rfl;have sE:=sl2_agg (P:=prog) slc66 sz65 zero65 rfl (by decide) (by decide) W4 (r1:=K0.map u8++[Value.slice (some ⟨W2.heap.size,0,.none⟩) ([120]:Bs).length ([120]:Bs).length]) (r2:=K1.map u8++[Value.slice (some ⟨W3.heap.size,0,.none⟩) ([121]:Bs).length ([121]:Bs).length]) rfl rfl;simp -implicitDefEqProofs only[go_sem,jF,bE2,sE];have hm5:=enr2 W4 l0 l1 (v1:=.slice (some ⟨W2.heap.size,0,.none⟩) ([120]:Bs).length ([120]:Bs).length) (v2:=.slice (some ⟨W3.heap.size,0,.none⟩) ([121]:Bs).length ([121]:Bs).length) rfl rfl (y3.fr0 f4) y4;have f5:No W4 (W4.alloc (.cells ((K0.map u8++[Value.slice (some ⟨W2.heap.size,0,.none⟩) ([120]:Bs).length ([120]:Bs).length])++(K1.map u8++[Value.slice (some ⟨W3.heap.size,0,.none⟩) ([121]:Bs).length ([121]:Bs).length])).toArray 65)):=(Fr.refl _ _).alloc _
 obtain⟨W5,hW5⟩:∃ W5,W5=(W4.alloc (.cells ((K0.map u8++[Value.slice (some ⟨W2.heap.size,0,.none⟩) ([120]:Bs).length ([120]:Bs).length])++(K1.map u8++[Value.slice (some ⟨W3.heap.size,0,.none⟩) ([121]:Bs).length ([121]:Bs).length])).toArray 65)):=⟨_,rfl⟩
 rw[← hW5]at hm5 f5 ⊢;have f05:=((f02.trans f3).trans f4).trans f5;have k15:=((f3.trans f4).trans f5).at k12 id;have k25:=((f3.trans f4).trans f5).at k2 id;generalize (Value.slice (some ⟨W4.heap.size,0,.none⟩) 2 2)=mv at *;clear bE1 bE2 sE hc3 hc4 y3 y4 r1 r2 q1 q2;obtain⟨x1,hx1⟩:=Wit.kLone0
 obtain⟨x2,hx2⟩:∃ x2,R.Lone 4 (K1,[121]) 255 x2:=⟨_,rfl⟩
 have kb0:kbit K0 0=false:=by decide +kernel
 have kb1:kbit K1 0=true:=by decide +kernel
 refine qQa pl31 ((R.root2 W5 (ht.no f05) 4 hm5 kb0 kb1 (by decide) (by decide) hx1 hx2).mono ?_);rintro _ w6 ⟨rfl,f6⟩;have hver:=Wit.kVerify hx1 hx2;have hpart:=Wit.kPart hx2;have lr:(qQv 4 x1 x2).length=32:=qQz _ _ _;generalize qQv 4 x1 x2=root at *;obtain⟨W7,q7,k7,f7,s7⟩:=R.allocD w6 (ty:=23) sz23 lr;have f57:=f6.trans f7;simp -implicitDefEqProofs only[go_sem,jF,jM,qQj,q7];refine qQl (v:=.slice (some ⟨W7.heap.size,0,.none⟩) 1 1) (w':=W7.alloc (.cells (bl [2]) 5)) rfl ?_;have b8:NwB W7 (W7.alloc (.cells (bl [2]) 5)) (.slice (some ⟨W7.heap.size,0,.none⟩) 1 1) [2]:=mk_nw W7 W7 5 1 1 1 (bl [2]) (xP _) rfl (xP _);have f8:No W7 (W7.alloc (.cells (bl [2]) 5)):=(Fr.refl _ _).alloc _;generalize W7.alloc (.cells (bl [2]) 5)=w8 at *;generalize (Value.slice (some ⟨W7.heap.size,0,.none⟩) 1 1)=rv8 at *
 have zero:∀ (w:World) (v:Value) (bs:Bs),NwB W7 w v bs→bs.length≤1000→No W7 w→∃ v' w',(Builtin.append_ #[25,3] 0 #[v,.int .i64 32]).run prog w=.ok v' w'∧NwB W7 w' v' (bs++zG 32 0)∧No W7 w':=fun w v bs h hl f=>by
  obtain⟨v',w',hr,h1,h2,_⟩:=NwB.zeros (P:=prog) (ts:=#[25,3]) rfl rfl slc25 int3 sz5 by5 zero5 h (m:=32) (by decide) (by omega) (by decide) f.size;exact⟨v',w',hr,h1,f.trans' h2 fun b hb hh=>by have:=(h.lt hh).1;omega⟩
 have four:∀ (w:World) (v:Value) (bs:Bs) (x:Byte),NwB W7 w v bs→bs.length≤1000→No W7 w→∃ v' w',(Builtin.append_ #[25,25] 0 #[v,.slice (some ⟨w.heap.size,0,.none⟩) 4 4]).run prog (w.alloc (.cells (bl [1,1,0,x]) 5))=.ok v' w'∧NwB W7 w' v' (bs++[1,1,0,x])∧No W7 w':=fun w v bs x h hl f=>by
  obtain⟨v',w',hr,h1,h2,_⟩:=NwB.push (P:=prog) app25_25 h [1,1,0,x] (qJy (by show (2*(bs.length+4)+768)*1≤2 ^ 48;omega)) (by show bs.length+4≤_;omega) f;exact⟨v',w',hr,h1,h2⟩
 obtain⟨v9,w9,hr9,b9,f9⟩:=zero _ _ _ b8 (by decide) f8;simp -implicitDefEqProofs only[go_sem];refine qQg ⟨v9,w9,hr9,?_⟩;obtain⟨v10,w10,hr10,b10,f10⟩:=four _ _ _ 120 b9 (by decide) f9;simp -implicitDefEqProofs only[go_sem];refine qQl (v:=.slice (some ⟨w9.heap.size,0,.none⟩) 4 4) (w':=w9.alloc (.cells (bl [1,1,0,120]) 5)) rfl ?_;simp -implicitDefEqProofs only[go_sem,jF];refine qQg ⟨v10,w10,hr10,?_⟩;obtain⟨v11,w11,hr11,b11,f11⟩:=zero _ _ _ b10 (by decide) f10;simp -implicitDefEqProofs only[go_sem];refine qQg ⟨v11,w11,hr11,?_⟩;obtain⟨v12,w12,hr12,b12,f12⟩:=four _ _ _ 121 b11 (by decide) f11;simp -implicitDefEqProofs only[go_sem];refine qQl (v:=.slice (some ⟨w11.heap.size,0,.none⟩) 4 4) (w':=w11.alloc (.cells (bl [1,1,0,121]) 5)) rfl ?_;simp -implicitDefEqProofs only[go_sem,jF];refine qQg ⟨v12,w12,hr12,?_⟩;obtain⟨v13,w13,hr13,b13,f13⟩:=zero _ _ _ b12 (by decide) f12;have b13:NwB W7 w13 v13 kRaw:=b13;have f513:=f57.trans f13;have f013:=f05.trans f513;have r13a:=rd_d agg23 sz23 (f13.at k7 id) lr;have r13b:=rd_d agg34 sz34 (f513.at k15 id) l0;have r13c:=rd_d agg34 sz34 (f513.at k25 id) l1;have sK:=sl2_agg (P:=prog) slc24 sz34 zero34 rfl (by decide) (by decide) w13 (r1:=K1.map u8) (r2:=K0.map u8) rfl rfl;simp -implicitDefEqProofs only[go_sem];refine qQg ⟨v13,w13,hr13,?_⟩;simp -implicitDefEqProofs only[go_sem,jF,r13a,r13b,r13c,sK];have hk14:=keys2 w13 l1 l0;have f14:No w13 (w13.alloc (.cells (K1.map u8++K0.map u8).toArray 34)):=(Fr.refl _ _).alloc _
 obtain⟨w14,hw14⟩:∃ w14,w14=w13.alloc (.cells (K1.map u8++K0.map u8).toArray 34):=⟨_,rfl⟩
 rw[← hw14]at hk14 f14 ⊢;have f014:=f013.trans f14;refine qQa pl23 ((V.verify w14 (ht.no f014) 4 lr hk14 (b13.by.fr0 f14)).mono ?_);intro r w15 h15;obtain⟨f15,v15,rfl,a15⟩:=h15.okd hver;have f015:=f014.trans f15;obtain⟨ab,ao,ac,y0,rfl,hy0,hr0⟩:=a15.at (i:=0) (by decide);obtain⟨ab',ao',ac',y1,e,hy1,hr1⟩:=a15.at (i:=1) (by decide);cases e;have z0:(0:Int)≤0∧(0:Int)<((([some [121],some [120]]:List (Option Bs)).length:Nat):Int):=by decide
 have z1:(0:Int)≤1∧(1:Int)<((([some [121],some [120]]:List (Option Bs)).length:Nat):Int):=by decide
 have dl:(((([some [121],some [120]]:List (Option Bs)).length:Nat):Int) != 2)=false:=rfl;obtain⟨p0,p0'⟩:=hr0 w15 (Fr.refl _ _);have p0:rdO prog 4 w15 ab ao=some (.bool true):=p0;have p0':rdO prog 25 w15 ab (ao+1)=some y0:=p0';obtain⟨W16,hc16,f16,t16,s16⟩:=text_new (P:=prog) slc25 int5 w15 [121];simp -implicitDefEqProofs only[go_sem,jF,gLa,gLz,gLs,bNe,dl,z0,and_self,Int.toNat_zero,Nat.zero_mul,Nat.add_zero,p0,p0',bSe];refine qQl (v:=.slice (some ⟨w15.heap.size,0,.none⟩) 1 1) (w':=w15.alloc (.cells (bl [121]) 5)) rfl ?_;simp -implicitDefEqProofs only[go_sem,jF,gLa,gLz,gLs];refine qQg ⟨_,W16,hc16,?_⟩;simp -implicitDefEqProofs only[go_sem,jF,gLa,gLz,gLs,bSe];refine qQa pl26 ((same W16 (hy0.fr0 f16) t16 (by decide)).mono ?_);rintro _ w17 ⟨rfl,f17⟩;have e1:(!decide ((([some [121],some [120]]:List (Option Bs)).getD 0 none).getD []=([121]:Bs)))=false:=by decide
 have f1517:=f16.trans f17;obtain⟨p1,p1'⟩:=hr1 w17 f1517;have p1':rdO prog 25 w17 ab (ao+1*2+1)=some y1:=p1';obtain⟨W18,hc18,f18,t18,s18⟩:=text_new (P:=prog) slc25 int5 w17 [120];simp -implicitDefEqProofs only[go_sem,jF,gLa,gLz,gLs,e1,z1,and_self,Int.toNat_one,p1',bSe];refine qQl (v:=.slice (some ⟨w17.heap.size,0,.none⟩) 1 1) (w':=w17.alloc (.cells (bl [120]) 5)) rfl ?_;simp -implicitDefEqProofs only[go_sem,jF,gLa,gLz,gLs];refine qQg ⟨_,W18,hc18,?_⟩;simp -implicitDefEqProofs only[go_sem,jF,gLa,gLz,gLs,bSe];refine qQa pl26 ((same W18 (hy1.fr0 (f1517.trans f18)) t18 (by decide)).mono ?_);rintro _ w19 ⟨rfl,f19⟩;have e2:(!decide ((([some [121],some [120]]:List (Option Bs)).getD 1 none).getD []=([120]:Bs)))=false:=by decide
 have f1519:=(f1517.trans f18).trans f19;have f019:=f015.trans f1519;have fk:=(f14.trans f15).trans f1519;have r19:=rd_d agg23 sz23 (fk.at (f13.at k7 id) id) lr;have s00:sl2 prog 25 w19 (.int .u8 0) (.int .u8 0)=some (.slice (some ⟨w19.heap.size,0,.none⟩) 2 2,w19.alloc (.cells (bl [0,0]) 5)):=rfl;have b20:NwB w19 (w19.alloc (.cells (bl [0,0]) 5)) (.slice (some ⟨w19.heap.size,0,.none⟩) 2 2) [0,0]:=mk_nw w19 w19 5 1 2 2 (bl [0,0]) (xP _) rfl (xP _);have f20:No w19 (w19.alloc (.cells (bl [0,0]) 5)):=(Fr.refl _ _).alloc _
 obtain⟨w20,hw20⟩:∃ w20,w20=w19.alloc (.cells (bl [0,0]) 5):=⟨_,rfl⟩
 rw[← hw20]at s00 b20 f20;simp -implicitDefEqProofs only[go_sem,jF,gLa,gLz,gLs,e2,r19,s00,bSe];refine qQa pl32 ((step00 w20 (ht.no (f019.trans f20)) lr b20.by).mono ?_);rintro _ w21 ⟨rfl,f21⟩;obtain⟨W22,q22,k22,f22,s22⟩:=R.allocD w21 (ty:=23) sz23 lr;have fk22:=((fk.trans f20).trans f21).trans f22;have f022:=((f019.trans f20).trans f21).trans f22;have r22a:=rd_d agg34 sz34 (fk22.at (f513.at k15 id) id) l0;have r22b:=rd_d agg34 sz34 (fk22.at (f513.at k25 id) id) l1;have sK:=sl2_agg (P:=prog) slc24 sz34 zero34 rfl (by decide) (by decide) W22 (r1:=K0.map u8) (r2:=K1.map u8) rfl rfl;have hk23:=keys2 W22 l0 l1;have f23:No W22 (W22.alloc (.cells (K0.map u8++K1.map u8).toArray 34)):=(Fr.refl _ _).alloc _
 obtain⟨w23,hw23⟩:∃ w23,w23=W22.alloc (.cells (K0.map u8++K1.map u8).toArray 34):=⟨_,rfl⟩
 rw[← hw23]at sK hk23 f23;have r23:rdO prog 34 w23 w0.heap.size 0=some (dg K0):=rd_d agg34 sz34 (f23.at (fk22.at (f513.at k15 id) id) id) l0;simp -implicitDefEqProofs only[go_sem,jF,gLa,gLz,gLs,jM,qQj,q22,r22a,r22b,sK,r23];refine qQa pl33 ((partW w23 (ht.no (f022.trans f23)) 4 hk23 (b13.by.fr0 (fk22.trans f23)) l0).mono ?_);intro r w24 h24;obtain⟨f24,v24,rfl,n24⟩:=h24.okd hpart;have fk24:=(fk22.trans f23).trans f24;have f024:=(f022.trans f23).trans f24;have r24:=rd_d agg23 sz23 (fk24.at (f13.at k7 id) id) lr;simp -implicitDefEqProofs only[go_sem,jF,gLa,gLz,gLs,r24];refine qQa pl34 ((gather00 w24 (ht.no f024) lr).mono ?_);rintro _ w25 ⟨rfl,f25⟩;have fk25:=fk24.trans f25;have f025:=f024.trans f25;have r25:=rd_d agg23 sz23 (fk25.at (f13.at k7 id) id) lr;have r25b:=rd_d agg23 sz23 (((f23.trans f24).trans f25).at k22 id) lr;have r25c:=rd_d agg34 sz34 (fk25.at (f513.at k15 id) id) l0;have eq:=eqDig lr lr;have hb:(root == root)=true:=by simp
 simp -implicitDefEqProofs only[go_sem,jF,gLa,gLz,gLs,r25,r25b,r25c,eq,hb,bSe];refine qQa pl35 ((bytes2 w25 (ht.no f025) (hm5.fr0 (f513.trans fk25)) hx2).mono ?_);rintro v26 w26 ⟨n26,f26⟩
 have hl26:(Wit.ansT (some [120])++(R.setP 4 (zG 32 0) 255 x2).1++(R.setP 4 (zG 32 0) 255 x2).2.flatten).length≤2 ^ 50:=by
  have h1:(R.setP 4 (zG 32 0) 255 x2).1.length=32:=by unfold R.setP;split <;> simp
  have h2:(R.setP 4 (zG 32 0) 255 x2).2.flatten.length≤32:=by
   unfold R.setP;split
   ·simp
   ·have:=hx2.len;simp[this]
  rw[lAp,lAp,h1];have:(Wit.ansT (some [120])).length=4:=by simp[Wit.ansT]
  omega
 generalize (Wit.ansT (some [120])++(R.setP 4 (zG 32 0) 255 x2).1++(R.setP 4 (zG 32 0) 255 x2).2.flatten)=out at *;simp -implicitDefEqProofs only[go_sem,jF,gLa,gLz,gLs,bSe];refine qQa pl26 ((same w26 (n24.by.fr0 (f25.trans f26)) n26.by hl26).mono ?_);rintro _ w27 ⟨rfl,f27⟩;have e3:decide (out=out)=true:=by simp
 have e4:(((0:Nat):Int) == 0)=true:=rfl;simp -implicitDefEqProofs only[go_sem,jF,gLa,gLz,gLs,e4,decide_true,bSe];exact (f025.trans f26).trans f27
end
def errOf {α:Type}:Except Int α→Int
 | .error e=>e
 | .ok _=>0
def listOf {α:Type}:Except Int (List α)→List α
 | .error _=>[]
 | .ok l=>l
theorem Pl.ge {w0 w:World}{ks ts:List Bs}(h:Pl w0 w pb kq iv av qs ks ts)(hb:Pl.W kq qs b):w0.heap.size≤b∧b<w.heap.size:=by
 unfold Pl.W at hb
 rcases List.mem_cons.1 hb with rfl | hb
 ·exact h.key.lt rfl
 ·obtain⟨q,hq,rfl⟩:=List.mem_map.1 hb
  obtain⟨i,hi,rfl⟩:=rM hq;exact (h.txt i hi (by rw[← h.len];exact hi)).lt rfl
theorem BsQ.both {x:Except Int Bs}(h:BsQ w0 x r w'):No w0 w'∧∃ v e,r=.tuple #[v,.int .i64 e]∧e=errOf x∧By w' v (listOf x):=by
 obtain⟨f,h⟩:=h
 cases x with
 | error e=>exact⟨f,_,e,h,rfl,(NwB.nil w0 w').by⟩
 | ok bs =>
  obtain⟨v,hr,ha⟩:=h;exact⟨f,v,0,hr,rfl,ha.by⟩
theorem NwT.ts {w0 w:World}{v:Value}{vals:List Value}{ts:List Bs}(h:NwT w0 w v vals ts):TsA w v ts fun _=>False :=
 ⟨vals,h.2.1,h.1.rd,fun _ _ _ h=>h,fun i a b=>⟨(h.2.2 i a b).1.by,fun _ _ _ h=>h⟩⟩
namespace C
end C
section
namespace C
section
variable {wd:Int} {k:Bs} {a b:Option Bs} {b1 b2:Bs} {s1 s2:List Bs}
end
end C
end
section
namespace Wit
open Tw
abbrev Sg:=Option Bs × List Bs
def sgP (wd:Int)(root k raw:Bs):Except Int Sg:=match C.heldP wd root k raw with
 | .error e=>.error e
 | .ok (a,bits,sums)=>.ok (a,nearL wd bits sums)
def SgOk (wd:Int)(k:Bs)(s:Sg):Prop:=(Tw.leaf k 256 s.2 s.1).Ok∧Tdy wd (.leaf k 256 s.2 s.1)
theorem held_form {root k raw:Bs}{a:Option Bs}{bits:Bs}{sums:List Bs}(h:C.heldP wd root k raw=.ok (a,bits,sums)):form wd [k] raw=.ok (some (.leaf k 256 (nearL wd bits sums) a))∧decP raw=some (a,bits,sums):=by
 unfold C.heldP at h;rw[form_dec];split at h
 ·cases h
 cases hd:decP raw with
 | none=>rw[hd]at h;cases h
 | some y =>
  obtain⟨a',b',s'⟩:=y;rw[hd]at h;dsimp only at h ⊢
  by_cases hc:chk wd (gsOf b' s')≠0
  ·rw[if_pos hc]at h;cases h
  ·rw[if_neg hc]at h ⊢
   split at h
   ·cases h;exact⟨rfl,rfl⟩
   ·cases h
theorem sgP_ok {root k raw:Bs}{s:Sg}(hk:k.length=32)(h:sgP wd root k raw=.ok s):SgOk wd k s:=by
 unfold sgP at h;split at h
 ·cases h
 ·rename_i a bits sums hh
  cases h;have hf:=(held_form hh).1;have ha:Asc [k]:=List.pairwise_singleton _ _;exact⟨(form_ok ha (All32.one hk) hf).1,form_tdy ha (All32.one hk) hf⟩
theorem sgP_err {root k raw:Bs}{e:Int}(h:sgP wd root k raw=.error e):e≠0:=by
 unfold sgP at h;split at h
 ·rename_i hh;cases h;exact C.heldP_err hh
 ·cases h
def sgsP (wd:Int)(root:Bs):List Bs→List Bs→List (Bs × Sg)→Except Int (List (Bs × Sg))
 | k::ks,r::rs,acc=>match sgP wd root k r with
  | .error e=>.error e
  | .ok s=>sgsP wd root ks rs (acc++[(k,s)])
 | _,_,acc=>.ok acc
theorem sgsP_ok {wd:Int}{root:Bs}:∀ {ks rs:List Bs} {acc l:List (Bs × Sg)},ks.length=rs.length→All32 ks→sgsP wd root ks rs acc=.ok l→(∀ p ∈ acc,SgOk wd p.1 p.2)→l.map (·.1)=acc.map (·.1)++ks∧∀ p ∈ l,SgOk wd p.1 p.2
 | [],[],acc,l,_,_,h,ha=>by simp only[sgsP,Except.ok.injEq]at h;subst h;exact⟨by simp,ha⟩
 | [],_::_,_,_,h,_,_,_=>by cases h
 | _::_,[],_,_,h,_,_,_=>by cases h
 | k::ks,r::rs,acc,l,hl,hk,h,ha=>by
  unfold sgsP at h;split at h
  ·cases h
  ·rename_i s hs
   obtain⟨h1,h2⟩:=sgsP_ok (by simpa using hl) hk.tail h fun p hp=>by
    rcases List.mem_append.1 hp with hp | hp
    ·exact ha p hp
    ·simp only[vD]at hp;subst hp;exact sgP_ok hk.head hs
   exact⟨by rw[h1];simp,h2⟩
def findS:List (Bs × Sg)→Bs→Sg
 | [],_=>(none,[])
 | p::r,k=>if p.1=k then p.2 else findS r k
theorem findS_mem {l:List (Bs × Sg)}(h:k ∈ l.map (·.1)):(k,findS l k) ∈ l:=by
 induction l with
 | nil=>cases h
 | cons p r ih =>
  unfold findS
  by_cases e:p.1=k
  ·rw[if_pos e];obtain⟨a,b⟩:=p;cases e;exact List.mem_cons_self ..
  ·rw[if_neg e]
   simp only[List.map_cons,rB]at h
   rcases h with h | h
   ·exact absurd h.symm e
   ·exact rG _ (ih h)
def grow (m:Bs→Sg):Nat→List Bs→Nat→Tw
 | 0,ks,top=>.leaf (ks.headD []) top [] none
 | n+1,ks,top =>
  if ks.length<2 then .leaf (ks.headD []) top (((m (ks.headD [])).2.drop (frm ks)).take (top - frm ks)) (m (ks.headD [])).1
  else .fork ks (frm ks) top (((m (ks.headD [])).2.drop (frm ks)).take (top - frm ks)) (grow m n (ks.take (lefts ks)) (frm ks - 1)) (grow m n (ks.drop (lefts ks)) (frm ks - 1))
theorem grow_ok {m:Bs→Sg}:∀ {n:Nat} {ks:List Bs} {top:Nat}, Asc ks→All32 ks→0<ks.length→ks.length≤n→Shr (256 - top) ks→top≤256→(∀ k ∈ ks, SgOk wd k (m k)) →
  (grow m n ks top).Ok∧(grow m n ks top).keys=ks∧(grow m n ks top).top=top∧Tdy wd (grow m n ks top):=by
 intro n
 induction n with
 | zero=>intro ks top _ _ h0 hn;omega
 | succ n ih =>
  intro ks top ha hk h0 hn hs ht hm;obtain⟨⟨_,_,g3,g4,g5⟩,g6⟩:=hm _ (headD_mem h0);have g3:(m (ks.headD [])).2.length=256:=g3;have g6:∀ d ∈ (m (ks.headD [])).2,cutD wd d=d:=g6;have hf:=frm_bound ha hs (by omega);have nl:(((m (ks.headD [])).2.drop (frm ks)).take (top - frm ks)).length=top - frm ks:=by rw[lTk,lDr,g3];omega
  have na:All32 (((m (ks.headD [])).2.drop (frm ks)).take (top - frm ks)):=(g4.drop _).take _;have nt:∀ d ∈ ((m (ks.headD [])).2.drop (frm ks)).take (top - frm ks),cutD wd d=d:=fun d hd=>g6 d (zN (zM hd));simp only[grow]
  by_cases h1:ks.length<2
  ·rw[if_pos h1]
   obtain⟨k,rfl⟩:=List.length_eq_one_iff.1 (show ks.length=1 by omega);have e0:frm [k]=0:=frm_one h1;refine⟨⟨hk.head,ht,by rw[nl,e0];rfl,na,g5⟩,rfl,rfl,nt⟩
  ·rw[if_neg h1]
   have h2:2≤ks.length:=by omega
   have hp:=frm_pos ha h2;have hlt:=lefts_lt ha h2;have hlp:=lefts_pos ha h2;have e257:256 - (frm ks - 1)=257 - frm ks:=by have:=frm_le ha h2;omega
   obtain⟨b1,b2,b3,b4⟩:=ih (ks:=ks.take (lefts ks)) (top:=frm ks - 1) (ha.take _) (hk.take _) (by rw[lTk];omega) (by rw[lTk];omega) (by rw[e257];exact shr_take ha h2) (by omega) fun k hk'=>hm k (zM hk');obtain⟨c1,c2,c3,c4⟩:=ih (ks:=ks.drop (lefts ks)) (top:=frm ks - 1) (ha.drop _) (hk.drop _) (by rw[lDr];omega) (by rw[lDr];omega) (by rw[e257];exact shr_drop ha h2) (by omega) fun k hk'=>hm k (zN hk');exact⟨⟨rfl,by omega,ht,nl,na,ha,hk,h2,b2,c2,b3,c3,b1,c1⟩,rfl,rfl,nt,b4,c4⟩
def gatherP (wd:Int)(root:Bs)(ks raws:List Bs):Except Int Bs :=
 match sortW wd ks with
 | .error e=>.error e
 | .ok l=>if ks.length≠raws.length then .error 1 else match sgsP wd root ks raws [] with
  | .error e=>.error e
  | .ok s=>if l=[] then .ok [] else if dig wd asIs (grow (findS s) l.length l 256)=root then .ok (txt wd (grow (findS s) l.length l 256)) else .error 131
theorem grow_under {root:Bs}{m:Bs→Sg}(ha:Asc l)(hk:All32 l)(h0:0<l.length)(hm:∀ k ∈ l, SgOk wd k (m k)) :
  underP wd root l (txt wd (grow m l.length l 256))=if dig wd asIs (grow m l.length l 256)=root then .ok (some (grow m l.length l 256)) else .error 131:=by
 obtain⟨h1,h2,h3,h4⟩:=grow_ok (n:=l.length) ha hk h0 (xP _) (by rw[jQ];exact shr_zero l) (xP _) hm;have hf:=form_txt h1 h4 h3;rw[h2]at hf;unfold underP;rw[hf]
theorem sgs_all {root:Bs}{ks raws l:List Bs}{s:List (Bs × Sg)}(hk:All32 ks)(hl:ks.length=raws.length)(hs:sgsP wd root ks raws []=.ok s)(hp:l.Perm ks):∀ k ∈ l,SgOk wd k (findS s k):=fun k hk'=>by
 obtain⟨h1,h2⟩:=sgsP_ok hl hk hs fun p hp=>by cases hp
 rw[List.map_nil,List.nil_append]at h1;exact h2 _ (findS_mem (by rw[h1];exact hp.mem_iff.1 hk'))
end Wit
end
end Go.V
