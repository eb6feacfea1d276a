/-
 Helpers: ParW, SayW, RBat, RStep, StepW.
-/
import Derived.Test.YtmenaeggoakppaaGreatDoorS46
import Derived.Test.YtmenaeggoakppaaGreatDoorS19
import Derived.Test.YtmenaeggoakppaaGreatDoorS48
import Derived.Test.YtmenaeggoakppaaGreatDoorS27
import Derived.Test.YtmenaeggoakppaaGreatDoorS35
import Derived.Test.YtmenaeggoakppaaGreatDoorS41
set_option linter.all false
section
namespace Go.V
open Go.Proofs Sha
set_option maxRecDepth 100000
theorem srt_of {ks d:List Bs} (hk:All32 ks) (hn:ks.Nodup) (hp:d.Perm ks) (ho:d.Pairwise fun a b=>¬ klt b a):d=Wit.srt ks:=by
 refine (Wit.sorted_is hk hp ho fun i hi e=>?_).2
 have hnl:=hp.nodup_iff.2 hn
 have h1:i<d.length:=by omega
 rw[getD_lt _ h1,getD_lt _ hi] at e
 exact nodup_ne hnl h1 hi (by omega) e
/-- the entries of a map of changes -/
def Ents (w:World):List (Bs × Value)→List Bat.Ch→Prop
 | [],[]=>True
 | p::l,c::cs=>(p.1=c.key∧c.key.length=32∧∃ vv,p.2=.agg (chC c.key c.del vv)∧one vv=true∧By w vv c.val)∧Ents w l cs
 | _,_=>False
theorem Ents.fr0 {w w':World} (f:No w w'):∀ {l:List (Bs × Value)} {cs:List Bat.Ch},Ents w l cs→Ents w' l cs
 | [],[],_=>trivial
 | p::l,c::cs,⟨⟨h1,h2,vv,h3,h4,h5⟩,h⟩=>⟨⟨h1,h2,vv,h3,h4,h5.fr0 f⟩,h.fr0 f⟩
 | [],_::_,h=>h.elim
 | _::_,[],h=>h.elim
theorem Ents.frB {F:Nat→Prop} {w w':World} (f:Fr F w w') (hF:∀ vv bs,By w vv bs→bs≠[]→∀ b,blockOf vv=some b→¬ F b):∀ {l:List (Bs × Value)} {cs:List Bat.Ch},Ents w l cs→Ents w' l cs
 | [],[],_=>trivial
 | p::l,c::cs,⟨⟨h1,h2,vv,h3,h4,h5⟩,h⟩=>⟨⟨h1,h2,vv,h3,h4,h5.fr' f fun hn b hb=>hF vv _ h5 hn b hb⟩,h.frB f hF⟩
 | [],_::_,h=>h.elim
 | _::_,[],h=>h.elim
theorem By.ne_cells {w:World} {v:Value} {bs:Bs} (h:By w v bs) {b:Nat} {c:Array Value} {e:TypeId} {fz:Nat × Nat} (hb:w.heap[b]?=some (.cells c e fz)) (hc:∀ (i:Nat) (x:Byte),c[i]?≠some (u8 x)) (hn:bs≠[]) {b':Nat} (h':blockOf v=some b'):b'≠b:=by
 rintro rfl
 have hp:=List.length_pos_iff.2 hn
 obtain⟨a,cap,rfl,_,hat⟩:=h.at
 obtain⟨b1,o1,rfl,hr⟩:=hat 0 hp
 simp only[blockOf,Option.some.injEq] at h'
 subst h'
 rw[rc_of_row hb] at hr
 exact hc _ _ hr
theorem Ents.snoc {w:World} {c:Bat.Ch} {vv:Value} (hk:c.key.length=32) (ho:one vv=true) (hv:By w vv c.val):∀ {l:List (Bs × Value)} {cs:List Bat.Ch},Ents w l cs→Ents w (l++[(c.key,.agg (chC c.key c.del vv))]) (cs++[c])
 | [],[],_=>⟨⟨rfl,hk,vv,rfl,ho,hv⟩,trivial⟩
 | p::l,d::cs,⟨h1,h⟩=>⟨h1,h.snoc hk ho hv⟩
 | [],_::_,h=>h.elim
 | _::_,[],h=>h.elim
theorem Ents.keys {w:World}:∀ {l:List (Bs × Value)} {cs:List Bat.Ch},Ents w l cs→l.map (·.1)=cs.map Bat.Ch.key
 | [],[],_=>rfl
 | p::l,c::cs,⟨h1,h⟩=>by rw[List.map_cons,List.map_cons,h1.1,h.keys]
 | [],_::_,h=>h.elim
 | _::_,[],h=>h.elim
theorem Ents.find {w : World} (k : Bs) : ∀ {l : List (Bs × Value)} {cs : List Bat.Ch}, Ents w l cs → match Wit.findC (cs.map Wit.chOf) k with
    | none => findA l k = none
    | some c => ∃ vv,findA l k = some (.agg (chC c.1 c.2.1 vv)) ∧ c.1.length = 32 ∧ one vv = true ∧ By w vv c.2.2
 | [],[],_=>rfl
 | p::l,c::cs,⟨⟨h1,h2,vv,h3,h4,h5⟩,h⟩=>by
  have ih:=Ents.find k h
  simp only[List.map_cons,Wit.findC,findA]
  by_cases e:c.key=k
  ·rw[if_pos (show (Wit.chOf c).1=k from e),if_pos (h1.trans e)]
   exact⟨vv,by rw[h3];rfl,h2,h4,h5⟩
  ·rw[if_neg (show ¬ (Wit.chOf c).1=k from e),if_neg fun g=>e (h1.symm.trans g)]
   exact ih
 | [],_::_,h=>h.elim
 | _::_,[],h=>h.elim
/-- a map of changes in memory -/
def TurnM (w:World) (mb:Nat) (cs:List Bat.Ch):Prop:=∃ l,MpA w mb l∧Ents w l cs
theorem TurnM.fr0 {w w':World} {mb:Nat} {cs:List Bat.Ch} (h:TurnM w mb cs) (f:No w w'):TurnM w' mb cs:=by
 obtain⟨l,h1,h2⟩:=h;exact⟨l,h1.fr0 f,h2.fr0 f⟩
def PaQ (w0:World) (y:Except Int (List Bat.Ch)) (r:Value) (w':World):Prop:=No w0 w'∧match y with
 | .error e=>r=.tuple #[.agg #[.slice Option.none 0 0,.map Option.none],.int .i64 e]
 | .ok cs=>∃ kv mb,r=.tuple #[.agg #[kv,.map (some mb)],.int .i64 0]∧one kv=true∧RdD w' kv (Wit.srt (cs.map Bat.Ch.key))∧TurnM w' mb cs
def paI (w2:World) (db tb mb:Nat) (sv:Value) (cs:List Bat.Ch) (n:Nat) (vs:List Value) (w:World):Prop :=
 ∃ (i:Nat) (kv:Value) (l:List (Bs × Value)),vs=[pt db 0,pt tb 0,sv,.int .i64 (cs.length:Nat),.int .i64 (i:Nat)]∧i≤cs.length∧n=cs.length - i∧w.heap[tb]?=some (.cells #[kv,.map (some mb)] 111 (0,0)) ∧
  NwD w2 w 34 kv ((cs.map Bat.Ch.key).take i)∧(∀ b,blockOf kv=some b→b≠tb∧b≠mb)∧MpA w mb l∧Ents w2 l (cs.take i)∧No w2 w
set_option maxHeartbeats 2000000 in
theorem parsed (w0:World) {rv:Value} {s:Bs} (hr:By w0 rv s) (hl:s.length≤2 ^ 50):Fn Tryz.prog 59 #[rv] w0 (PaQ w0 (Bat.parseP s)):=by
 refine Tryz.go59 (by simp) ?_
 obtain⟨W,hW,f1,k1,s1⟩:=allocs1 w0 #[.slice Option.none 0 0,.map Option.none] 111
 simp -implicitDefEqProofs only[go_sem,Nat.reduceEqDiff,Nat.reduceBEq,Nat.reduceAdd,gLa,gLz,gLs,Tryz.f59,Value.cells,hW]
 refine contL_call Tryz.pl104 ((parse W (hr.fr0 f1) hl).mono ?_)
 rintro _ w2 ⟨f2,cv,i,e,rfl,hm⟩
 have f02:=f1.trans f2
 have k12:=f2.at k1 id
 have fin : ∀ (w : World) (a b : Value), w.heap[w0.heap.size]? = some (.cells #[.slice Option.none 0 0, .map Option.none] 111 (0, 0)) → one a = true → one b = true →
     wrO Tryz.prog 111 w w0.heap.size 0 (.agg #[a,b]) = some (put w w0.heap.size (.cells #[a,b] 111 (0,0))) ∧ rdO Tryz.prog 111 (put w w0.heap.size (.cells #[a,b] 111 (0,0))) w0.heap.size 0 = some (.agg #[a,b]) := fun w a b h ha hb =>
  ⟨wr_all (vs:=#[a,b]) Tryz.sz111 h rfl (by rw[← Array.all_toList];simp only[List.all_cons,List.all_nil,ha,hb];rfl),rd_all Tryz.agg111 Tryz.sz111 (put_at (o:=.cells #[a,b] 111 (0,0)) h)⟩
 have lst:∀ (w:World) (c:Array Value),No w0 w→No w0 (put w w0.heap.size (.cells c 111 (0,0))):=fun w c h=>h.put (b:=w0.heap.size) _ fun h=>absurd h (Nat.lt_irrefl _)
 unfold PaQ
 cases hp:Bat.parseP s with
 | error e' =>
  rw[hp] at hm
  obtain rfl:e=e':=hm
  have he0:(e != 0)=true:=by rw[bne_iff_ne];exact Wit.parseP_err hp
  obtain⟨q2,l2⟩:=fin w2 _ _ k12 (show one (.slice Option.none 0 0)=true from rfl) (show one (.map Option.none)=true from rfl)
  have bl0:bldO Tryz.prog 111 []=some (.agg #[.slice Option.none 0 0,.map Option.none]):=rfl
  simp -implicitDefEqProofs only[go_sem,Nat.reduceEqDiff,Nat.reduceBEq,Nat.reduceAdd,gLa,gLz,gLs,he0,bl0,q2,l2]
  exact⟨lst _ _ f02,trivial⟩
 | ok cs =>
  rw[hp] at hm
  obtain⟨rfl,hC⟩:=hm
  obtain⟨h64,hok,hnd⟩:=Bat.parseP_ok hp
  have h32:=Wit.ok_keys hok
  have hR:=hC.rd
  clear hC
  obtain⟨ca,cc,rfl,hcc⟩:=hR.slice
  have bld:bldO Tryz.prog 111 [(1,.map (some w2.heap.size))]=some (.agg #[.slice Option.none 0 0,.map (some w2.heap.size)]):=rfl
  have f3:No w2 (w2.alloc (.map #[] 0)):=(Fr.refl _ _).alloc _
  have m3:(w2.alloc (.map #[] 0)).heap[w2.heap.size]?=some (.map #[] 0):=alloc_blk_new _ _
  have s3:(w2.alloc (.map #[] 0)).heap.size=w2.heap.size+1:=alloc_heap_size _ _
  obtain⟨W3,hW3⟩:∃ W3,w2.alloc (.map #[] 0)=W3:=⟨_,rfl⟩
  rw[hW3] at f3 m3 s3
  obtain⟨W4,hW4,f4,k4,s4⟩:=allocs1 W3 #[.slice Option.none 0 0,.map Option.none] 111
  have q5:wrO Tryz.prog 111 W4 W3.heap.size 0 (.agg #[.slice Option.none 0 0,.map (some w2.heap.size)])=some (put W4 W3.heap.size (.cells #[.slice Option.none 0 0,.map (some w2.heap.size)] 111 (0,0))):=wr_all (vs:=#[.slice Option.none 0 0,.map (some w2.heap.size)]) Tryz.sz111 k4 rfl (by rw[← Array.all_toList];rfl)
  have k5:=put_at (o:=.cells #[.slice Option.none 0 0,.map (some w2.heap.size)] 111 (0,0)) k4
  have f5:No W3 (put W4 W3.heap.size (.cells #[.slice Option.none 0 0,.map (some w2.heap.size)] 111 (0,0))):=f4.put (b:=W3.heap.size) _ fun h=>absurd h (Nat.lt_irrefl _)
  obtain⟨w5,hw5⟩:∃ w5,w5=put W4 W3.heap.size (.cells #[.slice Option.none 0 0,.map (some w2.heap.size)] 111 (0,0)):=⟨_,rfl⟩
  rw[← hw5] at q5 k5 f5
  have f25:=f3.trans f5
  have s5:W3.heap.size<w5.heap.size:=heap_lt k5
  have m5:=f5.at m3 id
  have hdb:w0.heap.size<w2.heap.size:=heap_lt k12
  simp -implicitDefEqProofs only[go_sem,Nat.reduceEqDiff,Nat.reduceBEq,Nat.reduceAdd,gLa,gLz,gLs,bne_self_eq_false,bld,hW3,hW4,Value.cells,q5]
  generalize htb:W3.heap.size=tb at *
  generalize hmb:w2.heap.size=mb at *
  refine loopD [2,7,22,23,24] (paI w2 w0.heap.size tb mb (.slice ca cs.length cc) cs) cs.length ⟨0,_,[],rfl,by omega,rfl,k5,NwD.nil _ _ _,(fun b h=>by cases h),MpA.new m5,trivial,f25⟩ ?_
  rintro _ vs w g ⟨j,kv,l,rfl,hj,rfl,kt,hN,hNb,hM,hE,f2w⟩
  have hko:one kv=true:=by obtain⟨a,c,rfl,_⟩:=hN.rd.slice;rfl
  by_cases hlt:j<cs.length
  ·have d1:decide ((j:Int)<((cs.length:Nat):Int))=true:=decide_eq_true (by omega)
   have y1:(0:Int)≤(j:Int)∧(j:Int)<((cs.length:Nat):Int):=by omega
   have c1:IntKind.i64.wrap ((j:Int)+1)=((j+1:Nat):Int):=i64add (b:=1) (by omega)
   obtain⟨b1,o1,c1',v1,e1,ho1,hv1,hd1,hk1,hr1⟩:=hR.at hlt
   cases e1
   obtain⟨ra,_,_,_⟩:=hr1 w f2w
   have hst:(cs.map Bat.Ch.key).take (j+1)=(cs.map Bat.Ch.key).take j++[cs[j].key]:=by rw[List.take_succ_eq_append_getElem (by simpa using hlt)];simp
   have hst2:cs.take (j+1)=cs.take j++[cs[j]]:=List.take_succ_eq_append_getElem hlt
   have hnf:findA l cs[j].key=none:=findA_none (by
    rw[hE.keys]
    intro hmem
    have h1:=hnd
    rw[← List.take_append_drop j (cs.map Bat.Ch.key),List.nodup_append] at h1
    have hin:cs[j].key ∈ List.drop j (cs.map Bat.Ch.key):=by rw[← List.map_drop,List.drop_eq_getElem_cons hlt,List.map_cons];exact List.mem_cons_self ..
    exact h1.2.2 _ (by rw[← List.map_take];exact hmem) _ hin rfl)
   generalize cs[j]=c at *
   obtain⟨W6,hW6,f6,k6,s6⟩:=allocs1 w (chC (List.replicate 32 0) false (.slice Option.none 0 0)) 181
   have q6:wrO Tryz.prog 181 W6 w.heap.size 0 (.agg (chC c.key c.del v1))=some (put W6 w.heap.size (.cells (chC c.key c.del v1) 181 (0,0))):=wr_all (by rw[chC_size _ _ hk1];exact Tryz.sz181) k6 (by rw[chC_size _ _ List.length_replicate,chC_size _ _ hk1]) (chC_one _ ho1)
   have k7:=put_at (o:=.cells (chC c.key c.del v1) 181 (0,0)) k6
   have f7:No w (put W6 w.heap.size (.cells (chC c.key c.del v1) 181 (0,0))):=f6.put (b:=w.heap.size) _ fun h=>absurd h (Nat.lt_irrefl _)
   obtain⟨w7,hw7⟩:∃ w7,w7=put W6 w.heap.size (.cells (chC c.key c.del v1) 181 (0,0)):=⟨_,rfl⟩
   rw[← hw7] at q6 k7 f7
   have kt7:=f7.at kt id
   have r7:rdO Tryz.prog 24 w7 tb 0=some kv:=rd1 Tryz.agg24 kt7 rfl
   have rkc:∀ w':World,w'.heap[w.heap.size]?=some (.cells (chC c.key c.del v1) 181 (0,0))→rdO Tryz.prog 34 w' w.heap.size 0=some (dg c.key):=fun w' k=>by
    have:=rd_rcs (P:=Tryz.prog) (w:=w') (b:=w.heap.size) (o:=0) Tryz.agg34 Tryz.sz34 (vs:=(c.key.map u8).toArray) (by simp[hk1]) (by decide) (fun j hj=>by
     rw[rc_of_row k,Nat.zero_add]
     simp[chC,List.getElem?_append_left,hk1,hj])
    exact this
   have rk7:=rkc w7 k7
   simp -implicitDefEqProofs only[go_sem,Nat.reduceEqDiff,Nat.reduceBEq,Nat.reduceAdd,gLa,gLz,gLs,d1,y1,and_self,Int.toNat_natCast,ra,Value.cells,chC_zero,hW6,q6,r7,rk7]
   refine contL_is (v:=.slice (some ⟨w7.heap.size,0,Option.none⟩) 1 1) (w':=w7.alloc (.cells (bl c.key) 34)) (fill_one2 (y:=List.map u8 (List.replicate 32 0)) (by simp) (c:=bl (List.replicate 32 0)) (by simp) (d:=c.key) hk1 _) ?_
   obtain⟨v8,w8,hr8,b8,g8,g8',m8⟩:=(hN.fr0 f7).push Tryz.app24_24 hk1 (by rw[List.length_take,List.length_map];omega) (f2w.trans f7)
   rw[← hst] at b8
   have htw:tb<w.heap.size:=heap_lt kt
   have hmw:mb<w.heap.size:=hM.lt
   have hkw:∀ b,blockOf kv=some b→b<w.heap.size:=fun b h=>(hN.lt h).2
   have s7:w.heap.size≤w7.heap.size:=f7.size
   have s78:w7.heap.size≤w8.heap.size:=g8'.size
   have o8:one v8=true:=by obtain⟨a,c,rfl,_⟩:=b8.rd.slice;rfl
   have hb8:∀ b,blockOf v8=some b→b≠tb∧b≠mb:=fun b h=>by
    rcases m8 b h with h' | h'
    ·exact hNb b h'
    ·omega
   simp -implicitDefEqProofs only[go_sem,Nat.reduceEqDiff,Nat.reduceBEq,Nat.reduceAdd,gLa,gLz,gLs]
   refine contL_sem ⟨v8,w8,hr8,?_⟩
   have kt8:=g8'.at kt7 fun h=>(hNb _ h).1 rfl
   have k78:=g8'.at k7 fun h=>by have:=hkw _ h;omega
   have q9:=wr1 (P:=Tryz.prog) (t:=24) (w:=w8) (b:=tb) (o:=0) (v:=v8) Tryz.sz24 o8 kt8 (by simp)
   have q9:wrO Tryz.prog 24 w8 tb 0 v8=some (put w8 tb (.cells #[v8,.map (some mb)] 111 (0,0))):=q9
   have kt9:=put_at (o:=.cells #[v8,.map (some mb)] 111 (0,0)) kt8
   have k79:=put_off (b:=tb) (o:=.cells #[v8,.map (some mb)] 111 (0,0)) k78 (by omega)
   have f89:Fr (fun b=>b=tb) w8 (put w8 tb (.cells #[v8,.map (some mb)] 111 (0,0))):=(Fr.refl _ _).put (b:=tb) _ fun _=>rfl
   have f29:No w2 (put w8 tb (.cells #[v8,.map (some mb)] 111 (0,0))):=g8.put (b:=tb) _ fun h=>by omega
   have M8:MpA w8 mb l:=(hM.fr0 f7).fr g8' fun h=>(hNb _ h).2 rfl
   obtain⟨w9,hw9⟩:∃ w9,w9=put w8 tb (.cells #[v8,.map (some mb)] 111 (0,0)):=⟨_,rfl⟩
   rw[← hw9] at q9 kt9 k79 f89 f29
   have M9:MpA w9 mb l:=M8.fr f89 fun h=>by omega
   have b9:=b8.fr f89 fun b h=>(hb8 b h).1
   have r9:rdO Tryz.prog 109 w9 tb 1=some (.map (some mb)):=rd1 Tryz.agg109 kt9 rfl
   have rk9:=rkc w9 k79
   have rc9:rdO Tryz.prog 181 w9 w.heap.size 0=some (.agg (chC c.key c.del v1)):=rd_all Tryz.agg181 (by rw[chC_size _ _ hk1];exact Tryz.sz181) k79
   obtain⟨ob,hob,hfz,hput⟩:=M9.put hk1 hnf (.agg (chC c.key c.del v1))
   simp -implicitDefEqProofs only[go_sem,Nat.reduceEqDiff,Nat.reduceBEq,Nat.reduceAdd,gLa,gLz,gLs,q9,r9,rk9,rc9,Tryz.map109,hob,c1,Nat.zero_add,Nat.add_zero]
   have ob9:∃ o,w9.heap[mb]?=some o:=by obtain⟨es,q,h,_⟩:=M9;exact⟨_,h⟩
   obtain⟨o9,ho9⟩:=ob9
   have f9X:Fr (fun b=>b=mb) w9 (put w9 mb ob):=(Fr.refl _ _).put (b:=mb) _ (fun _=>rfl) hfz
   refine⟨cs.length - (j+1),by omega,j+1,v8,l++[(c.key,.agg (chC c.key c.del v1))],rfl,by omega,rfl,put_off (b:=mb) kt9 (by omega),b9.fr f9X fun b h=>(hb8 b h).2,hb8,hput _ (put_at ho9),?_,f29.put (b:=mb) _ (fun h=>by omega) hfz⟩
   rw[hst2]
   exact hE.snoc hk1 ho1 hv1
  ·have d1:decide ((j:Int)<((cs.length:Nat):Int))=false:=decide_eq_false (by omega)
   obtain rfl:j=cs.length:=by omega
   rw[show cs.length=(cs.map Bat.Ch.key).length by simp,List.take_length] at hN
   rw[List.take_length] at hE
   have r5:rdO Tryz.prog 24 w tb 0=some kv:=rd1 Tryz.agg24 kt rfl
   simp -implicitDefEqProofs only[go_sem,Nat.reduceEqDiff,Nat.reduceBEq,Nat.reduceAdd,gLa,gLz,gLs,d1,r5]
   refine contL_call Tryz.pl90 ((ksort w2 w hN (by simp;omega)).mono ?_)
   rintro _ w6 ⟨rfl,d,hpm,ho,n6,f6⟩
   have hd:=srt_of h32 hnd hpm ho
   subst hd
   have f26:No w2 w6:=f2w.trans' f6 fun b hb h=>by have:=(hN.lt h).1;omega
   have kt6:=f6.at kt fun h=>(hNb _ h).1 rfl
   have M6:=hM.fr f6 fun h=>(hNb _ h).2 rfl
   have r6:rdO Tryz.prog 111 w6 tb 0=some (.agg #[kv,.map (some mb)]):=rd_all Tryz.agg111 Tryz.sz111 kt6
   obtain⟨q7,l7⟩:=fin w6 kv (.map (some mb)) (f26.at k12 id) hko rfl
   simp -implicitDefEqProofs only[go_sem,Nat.reduceEqDiff,Nat.reduceBEq,Nat.reduceAdd,gLa,gLz,gLs,r6,q7,l7]
   have f7:Fr (fun b=>b=w0.heap.size) w6 (put w6 w0.heap.size (.cells #[kv,.map (some mb)] 111 (0,0))):=(Fr.refl _ _).put (b:=w0.heap.size) _ fun _=>rfl
   have f27:Fr (fun b=>b=w0.heap.size) w2 (put w6 w0.heap.size (.cells #[kv,.map (some mb)] 111 (0,0))):=(f26.mono fun _ _ h=>h.elim).trans f7
   exact⟨lst _ _ (f02.trans f26),kv,mb,rfl,hko,(n6.fr f7 fun b h=>by have:=(n6.lt h).1;omega).rd,l,M6.fr f7 (by omega),hE.frB f27 fun vv bs hv hn b h h'=>hv.ne_cells k12 (fun i x=>by
    match i with
    | 0=>simp
    | 1=>simp
    | i+2=>simp) hn h h'⟩
end Go.V
end
section
namespace Go.V
open Go.Proofs Sha
set_option maxRecDepth 100000
set_option maxHeartbeats 2000000 in
theorem saysF (wb:World) {kv:Value} {mb:Nat} {cs:List Bat.Ch} (ho:one kv=true) (hM:TurnM wb mb cs) (hok:∀ c ∈ cs,c.Ok):SaysF wb 61 #[.agg #[kv,.map (some mb)]] #[] (Wit.saysC (cs.map Wit.chOf)):=by
 refine⟨Tryz.pl61,fun w0 w k x a hw0 hw hk hx hal=>?_⟩
 show Fn Tryz.prog 61 #[.agg #[kv,.map (some mb)],dg k,x] w _
 refine Tryz.go61 (by simp) ?_
 obtain⟨vv,rfl,hv1,hvb⟩:=id hx
 have hb:=hw0.trans hw
 obtain⟨W,hW,f1,k1,k2,k3,k4,s1⟩:=allocs4 w #[kv,.map (some mb)] 111 (bl k) 34 #[.bool a.isSome,vv] 69 #[.bool false,.slice Option.none 0 0] 69
 obtain⟨l,hMp0,hE0⟩:=hM
 have hMp:=hMp0.fr0 (hb.trans f1)
 have hE:=hE0.fr0 hw0
 have r1:rdO Tryz.prog 109 W w.heap.size 1=some (.map (some mb)):=rd1 Tryz.agg109 k1 rfl
 have r2:=rd_d Tryz.agg34 Tryz.sz34 k2 hk
 have lk:=hMp.look hk Tryz.map109 Tryz.zero181
 have hfind:=hE.find k
 have z32:(List.replicate 32 (0:Byte)).length=32:=List.length_replicate
 obtain⟨W5,hW5,f5,k5,s5⟩:=allocs1 W (chC (List.replicate 32 0) false (.slice Option.none 0 0)) 181
 have fin : ∀ (w' : World) (b : Bool) (v : Value), w'.heap[w.heap.size + 1 + 1 + 1]? = some (.cells #[.bool false, .slice Option.none 0 0] 69 (0, 0)) → one v = true →
     wrO Tryz.prog 69 w' (w.heap.size + 1 + 1 + 1) 0 (.agg #[.bool b,v]) = some (put w' (w.heap.size + 1 + 1 + 1) (.cells #[.bool b,v] 69 (0,0))) ∧ rdO Tryz.prog 69 (put w' (w.heap.size + 1 + 1 + 1) (.cells #[.bool b,v] 69 (0,0))) (w.heap.size + 1 + 1 + 1) 0 = some (.agg #[.bool b,v]) := fun w' b v h hv =>
  ⟨wr_all (vs:=#[.bool b,v]) Tryz.sz69 h rfl (by rw[← Array.all_toList];simp only[List.all_cons,List.all_nil,hv];rfl),rd_all Tryz.agg69 Tryz.sz69 (put_at (o:=.cells #[.bool b,v] 69 (0,0)) h)⟩
 have lst:∀ (w':World) (c:Array Value),No w w'→No w (put w' (w.heap.size+1+1+1) (.cells c 69 (0,0))):=fun w' c h=>h.put (b:=w.heap.size+1+1+1) _ fun h=>by omega
 have bl0:bldO Tryz.prog 69 []=some (.agg #[.bool false,.slice Option.none 0 0]):=rfl
 have says:Wit.saysC (cs.map Wit.chOf) k a=match Wit.findC (cs.map Wit.chOf) k with | none=>a | some c=>c.ans:=rfl
 rw[says]
 cases hf:Wit.findC (cs.map Wit.chOf) k with
 | none =>
  rw[hf] at hfind
  have hfind:findA l k=none:=hfind
  rw[hfind] at lk
  simp only[Option.getD_none,Option.isSome_none] at lk
  have q5:wrO Tryz.prog 181 W5 W.heap.size 0 (.agg (chC (List.replicate 32 0) false (.slice Option.none 0 0)))=some (put W5 W.heap.size (.cells (chC (List.replicate 32 0) false (.slice Option.none 0 0)) 181 (0,0))):=wr_all (by rw[chC_size _ _ z32];exact Tryz.sz181) k5 (by rw[chC_size _ _ z32]) (chC_one _ rfl)
  have f6:No W (put W5 W.heap.size (.cells (chC (List.replicate 32 0) false (.slice Option.none 0 0)) 181 (0,0))):=f5.put (b:=W.heap.size) _ fun h=>absurd h (Nat.lt_irrefl _)
  obtain⟨w6,hw6⟩:∃ w6,w6=put W5 W.heap.size (.cells (chC (List.replicate 32 0) false (.slice Option.none 0 0)) 181 (0,0)):=⟨_,rfl⟩
  rw[← hw6] at q5 f6
  have r6:=ld_whole (P:=Tryz.prog) (t:=69) Tryz.agg69 Tryz.sz69 (f6.at k3 id)
  obtain⟨q7,l7⟩:=fin w6 a.isSome vv (f6.at k4 id) hv1
  simp -implicitDefEqProofs only[go_sem,Nat.reduceEqDiff,Nat.reduceBEq,Nat.reduceAdd,gLa,gLz,gLs,Tryz.f61,Value.cells,hW,r1,r2,lk,chC_zero,hW5,q5,Bool.not_false,r6,q7,l7,Nat.zero_add,Nat.add_zero]
  exact⟨⟨vv,rfl,hv1,hvb⟩,lst _ _ (f1.trans f6),hal⟩
 | some c =>
  rw[hf] at hfind
  obtain⟨v,hfa,hck,hov,hby⟩:=hfind
  rw[hfa] at lk
  simp only[Option.getD_some,Option.isSome_some] at lk
  obtain⟨c',hc',rfl⟩:=List.mem_map.1 (R.findC_mem hf)
  have hcok:=hok c' hc'
  have hck:c'.key.length=32:=hck
  have hby:By w0 v c'.val:=hby
  have lk:lookO Tryz.prog 109 W (.map (some mb)) (dg k)=some (.agg (chC c'.key c'.del v),true):=lk
  have hans:(Wit.chOf c').ans=if c'.del then none else some c'.val:=rfl
  have q5:wrO Tryz.prog 181 W5 W.heap.size 0 (.agg (chC c'.key c'.del v))=some (put W5 W.heap.size (.cells (chC c'.key c'.del v) 181 (0,0))):=wr_all (by rw[chC_size _ _ hck];exact Tryz.sz181) k5 (by rw[chC_size _ _ z32,chC_size _ _ hck]) (chC_one _ hov)
  have k6:=put_at (o:=.cells (chC c'.key c'.del v) 181 (0,0)) k5
  have f6:No W (put W5 W.heap.size (.cells (chC c'.key c'.del v) 181 (0,0))):=f5.put (b:=W.heap.size) _ fun h=>absurd h (Nat.lt_irrefl _)
  obtain⟨w6,hw6⟩:∃ w6,w6=put W5 W.heap.size (.cells (chC c'.key c'.del v) 181 (0,0)):=⟨_,rfl⟩
  rw[← hw6] at q5 f6 k6
  have r6:rdO Tryz.prog 4 w6 W.heap.size 32=some (.bool c'.del):=rd1 (P:=Tryz.prog) Tryz.agg4 k6 (by simp[chC,hck])
  have r7:rdO Tryz.prog 25 w6 W.heap.size 33=some v:=rd1 (P:=Tryz.prog) Tryz.agg25 k6 (by simp[chC,hck])
  cases hdel:c'.del with
  | true =>
   rw[hdel] at r6
   obtain⟨q7,l7⟩:=fin w6 false (.slice Option.none 0 0) (f6.at k4 id) rfl
   simp -implicitDefEqProofs only[go_sem,Nat.reduceEqDiff,Nat.reduceBEq,Nat.reduceAdd,gLa,gLz,gLs,Tryz.f61,Value.cells,hW,r1,r2,lk,chC_zero,hW5,q5,Bool.not_true,r6,bl0,q7,l7,Nat.zero_add,Nat.add_zero]
   have ha:(Wit.chOf c').ans=none:=by rw[hans,if_pos hdel]
   simp only[ha]
   exact⟨⟨_,rfl,rfl,(NwB.nil w0 w0).by⟩,lst _ _ (f1.trans f6),fun v h=>by cases h⟩
  | false =>
   rw[hdel] at r6
   have bl1:bldO Tryz.prog 69 [(0,.bool true),(1,v)]=some (.agg #[.bool true,v]):=bldAns rfl hov
   obtain⟨q7,l7⟩:=fin w6 true v (f6.at k4 id) hov
   simp -implicitDefEqProofs only[go_sem,Nat.reduceEqDiff,Nat.reduceBEq,Nat.reduceAdd,gLa,gLz,gLs,Tryz.f61,Value.cells,hW,r1,r2,lk,chC_zero,hW5,q5,Bool.not_true,r6,r7,bl1,q7,l7,Nat.zero_add,Nat.add_zero]
   have ha:(Wit.chOf c').ans=some c'.val:=by rw[hans,if_neg (by rw[hdel];decide)]
   simp only[ha]
   exact⟨⟨v,rfl,hov,hby⟩,lst _ _ (f1.trans f6),fun v h=>by cases h;exact hcok.2.1⟩
end Go.V
end
section
namespace Go.V
open Go.Proofs Sha
set_option maxRecDepth 100000
namespace R
def BtQ (w0:World) (y:Except Int (List Bat.Ch)) (r:Value) (w':World):Prop:=No w0 w'∧match y with
 | .error e=>r=.tuple #[.slice Option.none 0 0,.slice Option.none 0 0,.int .i64 e]
 | .ok cs=>∃ v kv l,r=.tuple #[v,kv,.int .i64 0]∧ChR w' v l∧l.Perm cs∧RdD w' kv (Wit.srt (cs.map Bat.Ch.key))
def bhI (w0:World) (v:Value) (l:List Bat.Ch) (n:Nat) (vs:List Value) (w:World):Prop :=
 ∃ (i:Nat) (kv:Value),vs=[v,kv,.int .i64 (i:Nat)]∧i≤l.length∧n=l.length - i∧NwD w0 w 34 kv ((l.map Bat.Ch.key).take i)∧No w0 w
set_option maxHeartbeats 1000000 in
theorem batch (w0:World) {rv:Value} {s:Bs} (hr:By w0 rv s) (hl:s.length≤2 ^ 50):Fn Tryz.prog 84 #[rv] w0 (BtQ w0 (Bat.parseP s)):=by
 refine Tryz.go84 (by simp) ?_
 simp -implicitDefEqProofs only[go_sem,Nat.reduceEqDiff,Nat.reduceBEq,Nat.reduceAdd,gLa,gLz,gLs,Tryz.f84]
 refine contL_call Tryz.pl138 ((parse3 w0 hr hl).mono ?_)
 rintro _ w2 ⟨f2,v,i,e,rfl,hm⟩
 unfold BtQ
 cases hp:Bat.parseP s with
 | error e' =>
  rw[hp] at hm
  obtain rfl:e=e':=hm
  have he0:(e != 0)=true:=by rw[bne_iff_ne];exact Wit.parseP_err hp
  simp -implicitDefEqProofs only[go_sem,Nat.reduceEqDiff,Nat.reduceBEq,Nat.reduceAdd,gLa,gLz,gLs,he0]
  exact⟨f2,trivial⟩
 | ok cs =>
  rw[hp] at hm
  obtain⟨rfl,hC⟩:=hm
  obtain⟨h64,hok,hnd⟩:=Bat.parseP_ok hp
  simp -implicitDefEqProofs only[go_sem,Nat.reduceEqDiff,Nat.reduceBEq,Nat.reduceAdd,gLa,gLz,gLs,bne_self_eq_false]
  refine contL_call Tryz.pl139 ((normal3 w2 hC.rd hok hnd h64).mono ?_)
  rintro _ w3 ⟨f3,lv,l,rfl,hL,hpm,hs⟩
  have f03:=f2.trans f3
  have hk:=Bat.srt_keys hpm (fun c hc=>(hok c hc).1) hnd hs
  have hll:=hpm.length_eq
  obtain⟨la,lc,rfl,hlc⟩:=hL.slice
  simp -implicitDefEqProofs only[go_sem,Nat.reduceEqDiff,Nat.reduceBEq,Nat.reduceAdd,gLa,gLz,gLs]
  refine loopD [5,8,9] (bhI w3 (.slice la l.length lc) l) l.length ⟨0,_,rfl,by omega,rfl,NwD.nil _ _ _,Fr.refl _ _⟩ ?_
  rintro _ vs w4 g ⟨j,kv,rfl,hj,rfl,b4,f4⟩
  by_cases hlt:j<l.length
  ·have d1:decide ((j:Int)<((l.length:Nat):Int))=true:=decide_eq_true (by omega)
   have y1:(0:Int)≤(j:Int)∧(j:Int)<((l.length:Nat):Int):=by omega
   have c1:IntKind.i64.wrap ((j:Int)+1)=((j+1:Nat):Int):=i64add (b:=1) (by omega)
   obtain⟨b1,o1,c1',v1,e1,_,_,_,hk1,hr1⟩:=hL.at hlt
   cases e1
   obtain⟨_,r1,_,_⟩:=hr1 w4 f4
   have hst:(l.map Bat.Ch.key).take (j+1)=(l.map Bat.Ch.key).take j++[l[j].key]:=by rw[List.take_succ_eq_append_getElem (by simpa using hlt)];simp
   generalize l[j].key=d at *
   simp -implicitDefEqProofs only[go_sem,Nat.reduceEqDiff,Nat.reduceBEq,Nat.reduceAdd,gLa,gLz,gLs,d1,y1,and_self,Int.toNat_natCast,Nat.add_zero,r1]
   refine contL_is (v:=.slice (some ⟨w4.heap.size,0,Option.none⟩) 1 1) (w':=w4.alloc (.cells (bl d) 34)) (fill_one2 (y:=List.map u8 (List.replicate 32 0)) (by simp) (c:=bl (List.replicate 32 0)) (by simp) (d:=d) hk1 _) ?_
   obtain⟨v5,w5,hr5,b5,f5,g5,h5⟩:=b4.push Tryz.app24_24 hk1 (by rw[List.length_take,List.length_map];omega) f4
   rw[← hst] at b5
   simp -implicitDefEqProofs only[go_sem,Nat.reduceEqDiff,Nat.reduceBEq,Nat.reduceAdd,gLa,gLz,gLs]
   refine contL_sem ⟨v5,w5,hr5,?_⟩
   simp -implicitDefEqProofs only[go_sem,Nat.reduceEqDiff,Nat.reduceBEq,Nat.reduceAdd,gLa,gLz,gLs,c1]
   exact⟨l.length - (j+1),by omega,j+1,v5,rfl,by omega,rfl,b5,f5⟩
  ·have d1:decide ((j:Int)<((l.length:Nat):Int))=false:=decide_eq_false (by omega)
   obtain rfl:j=l.length:=by omega
   rw[show l.length=(l.map Bat.Ch.key).length by simp,List.take_length,hk] at b4
   simp -implicitDefEqProofs only[go_sem,Nat.reduceEqDiff,Nat.reduceBEq,Nat.reduceAdd,gLa,gLz,gLs,d1]
   exact⟨f03.trans f4,_,_,l,rfl,hL.fr0 f4,hpm,b4.rd⟩
end R
end Go.V
end
section
namespace Go.V
open Go.Proofs Sha
set_option maxRecDepth 100000
def DgQ (w0:World) (x:Except Int Bs) (r:Value) (w':World):Prop:=No w0 w'∧match x with
 | .error e=>r=.tuple #[dg (List.replicate 32 0),.int .i64 e]
 | .ok d=>r=.tuple #[dg d,.int .i64 0]∧d.length=32
theorem bldD0:bldO Tryz.prog 23 []=some (dg (List.replicate 32 0)):=by kernel_rfl
namespace Wit
theorem underP_err {wd:Int} {root:Bs} {ks:List Bs} {raw:Bs} {e:Int} (h:underP wd root ks raw=.error e):e≠0:=by
 unfold underP at h
 split at h
 ·rename_i e' hf
  simp only[Except.error.injEq] at h;subst h
  have:=form_err hf
  rwa [beq_eq_false_iff_ne] at this
 ·cases h
 ·split at h
  ·cases h
  ·simp only[Except.error.injEq] at h;subst h;decide
theorem dig_len' (wd:Int) (says:Says) (t:Tw):(dig wd says t).length=32:=dig_len wd says t
end Wit
theorem ChR.csR {w:World} {v:Value} {l:List Bat.Ch} (h:ChR w v l):R.CsR w v (l.map Wit.chOf):=by
 obtain⟨rows,h1,h2,h3⟩:=h
 refine⟨rows,h1,by simp[h2],fun i a b=>?_⟩
 have hi:i<l.length:=by simpa using b
 obtain⟨vv,e1,e2,e3,_,e5⟩:=h3 i a hi
 simp only[List.getElem_map]
 exact⟨vv,e1,e5,e2,e3⟩
namespace R
set_option maxHeartbeats 2000000 in
theorem step (w0 : World) (ht : Tabs w0) (wd : Int) {root : Bs} (hroot : root.length = 32) {rv cv : Value} {raw cs : Bs} (hr : By w0 rv raw) (hc : By w0 cv cs) (hrl : raw.length ≤ 2 ^ 50) (hcl : cs.length ≤ 2 ^ 50) :
    Fn Tryz.prog 42 #[.int .i64 wd,dg root,rv,cv] w0 (DgQ w0 (Wit.stepP wd root raw cs)) := by
 refine Tryz.go42 (by simp) ?_
 obtain⟨W,hW,f1,k1,k2,s1⟩:=allocs2 w0 (bl root) 23 (bl (List.replicate 32 0)) 23
 have fin : ∀ (w : World) (d : Bs), w.heap[w0.heap.size + 1]? = some (.cells (bl (List.replicate 32 0)) 23 (0, 0)) → d.length = 32 →
     wrO Tryz.prog 23 w (w0.heap.size + 1) 0 (dg d) = some (put w (w0.heap.size + 1) (.cells (bl d) 23 (0,0))) ∧ rdO Tryz.prog 23 (put w (w0.heap.size + 1) (.cells (bl d) 23 (0,0))) (w0.heap.size + 1) 0 = some (dg d) := fun w d h hd =>
  ⟨wr_d Tryz.sz23 h zl32 hd,rd_d Tryz.agg23 Tryz.sz23 (put_at (o:=.cells (bl d) 23 (0,0)) h) hd⟩
 have lst:∀ (w:World) (d:Bs),No w0 w→No w0 (put w (w0.heap.size+1) (.cells (bl d) 23 (0,0))):=fun w d h=>h.put (b:=w0.heap.size+1) _ fun h=>by omega
 obtain⟨qW,lW⟩:=fin W _ k2 zl32
 unfold DgQ Wit.stepP
 by_cases h1:wd<1
 ·have d1:decide (wd<1)=true:=decide_eq_true h1
  simp -implicitDefEqProofs only[go_sem,Nat.reduceEqDiff,Nat.reduceBEq,Nat.reduceAdd,gLa,gLz,gLs,Tryz.f42,Value.cells,bl_zero,hW,d1,ft_beq,tf_beq,beq_self_eq_true,bldD0,qW,lW]
  rw[if_pos (.inl h1)]
  exact⟨lst _ _ f1,rfl⟩
 have d1:decide (wd<1)=false:=decide_eq_false h1
 by_cases h2:32<wd
 ·have d2:decide (wd > 32)=true:=decide_eq_true h2
  simp -implicitDefEqProofs only[go_sem,Nat.reduceEqDiff,Nat.reduceBEq,Nat.reduceAdd,gLa,gLz,gLs,Tryz.f42,Value.cells,bl_zero,hW,d1,d2,ft_beq,tf_beq,beq_self_eq_true,bldD0,qW,lW]
  rw[if_pos (.inr h2)]
  exact⟨lst _ _ f1,rfl⟩
 have d2:decide (wd > 32)=false:=decide_eq_false h2
 rw[if_neg (by omega)]
 simp -implicitDefEqProofs only[go_sem,Nat.reduceEqDiff,Nat.reduceBEq,Nat.reduceAdd,gLa,gLz,gLs,Tryz.f42,Value.cells,bl_zero,hW,d1,d2,ft_beq,tf_beq,beq_self_eq_true]
 refine contL_call Tryz.pl84 ((batch W (hc.fr0 f1) hcl).mono ?_)
 rintro r w2 ⟨f2,hm⟩
 have f02:=f1.trans f2
 have k12:=f2.at k1 id
 have k22:=f2.at k2 id
 cases hp:Bat.parseP cs with
 | error e =>
  rw[hp] at hm
  subst hm
  have he0:(e != 0)=true:=by rw[bne_iff_ne];exact Wit.parseP_err hp
  obtain⟨q2,l2⟩:=fin w2 _ k22 zl32
  simp -implicitDefEqProofs only[go_sem,Nat.reduceEqDiff,Nat.reduceBEq,Nat.reduceAdd,gLa,gLz,gLs,he0,bldD0,q2,l2]
  exact⟨lst _ _ f02,trivial⟩
 | ok cs' =>
  rw[hp] at hm
  obtain⟨v,kv,l,rfl,hL,hpm,hK⟩:=hm
  obtain⟨h64,hok,hnd⟩:=Bat.parseP_ok hp
  have h32:=Wit.ok_keys hok
  have hasc:=Wit.srt_asc h32 hnd
  have hsl:(Wit.srt (cs'.map Bat.Ch.key)).length≤64:=by rw[Wit.srt_len];simpa using h64
  obtain⟨ks,hks⟩:∃ ks,ks=Wit.srt (cs'.map Bat.Ch.key):=⟨_,rfl⟩
  rw[← hks] at hasc hsl hK
  simp only[← hks]
  have r2:=rd_d Tryz.agg23 Tryz.sz23 k12 hroot
  obtain⟨W',hW'⟩:∃ n:Nat,wd=n:=⟨wd.toNat,by omega⟩
  simp -implicitDefEqProofs only[go_sem,Nat.reduceEqDiff,Nat.reduceBEq,Nat.reduceAdd,gLa,gLz,gLs,bne_self_eq_false,r2]
  refine contL_call Tryz.pl73 ((holds w2 (ht.no f02) hW' (by omega) hroot hK (hr.fr0 f02) hasc hsl hrl).mono ?_)
  rintro r w3 ⟨f3,h3⟩
  have f03:=f02.trans f3
  have k13:=f3.at k12 id
  have k23:=f3.at k22 id
  cases hu:Wit.underP wd root ks raw with
  | error e =>
   rw[hu] at h3
   subst h3
   have he0:(e != 0)=true:=by rw[bne_iff_ne];exact Wit.underP_err hu
   obtain⟨q3,l3⟩:=fin w3 _ k23 zl32
   simp -implicitDefEqProofs only[go_sem,Nat.reduceEqDiff,Nat.reduceBEq,Nat.reduceAdd,gLa,gLz,gLs,he0,bldD0,q3,l3]
   exact⟨lst _ _ f03,trivial⟩
  | ok o =>
   rw[hu] at h3
   obtain⟨ka,kc,rfl,hkc⟩:=hK.slice
   cases o with
   | none =>
    obtain⟨wb,rfl,_⟩:=h3
    have hk0:ks=[]:=Wit.underP_none hu
    have d3:(((ks.length:Nat):Int) == 0)=true:=by subst hk0;rfl
    have r3:=rd_d Tryz.agg23 Tryz.sz23 k13 hroot
    obtain⟨q3,l3⟩:=fin w3 _ k23 hroot
    simp -implicitDefEqProofs only[go_sem,Nat.reduceEqDiff,Nat.reduceBEq,Nat.reduceAdd,gLa,gLz,gLs,bne_self_eq_false,d3,r3,q3,l3]
    exact⟨lst _ _ f03,hroot⟩
   | some t =>
    obtain⟨wb,rfl,hX⟩:=h3
    obtain⟨hf,_⟩:=Wit.underP_ok hu
    obtain⟨hok',hkeys,_,_⟩:=Wit.form_ok hasc hK.1 hf
    have hpos:=hok'.keys_pos
    rw[hkeys] at hpos
    have d3:(((ks.length:Nat):Int) == 0)=false:=by rw[beq_eq_false_iff_ne];omega
    obtain⟨u,hu',hY⟩:=hX.y
    have hsz:t.size≤2 ^ 40:=by have:=Wit.size_keys hok';rw[hkeys] at this;omega
    have hll:=hpm.length_eq
    have hCs:ChL (l.map Wit.chOf):=⟨by rw[List.length_map];omega,fun c hc=>by
     obtain⟨x,hx,rfl⟩:=List.mem_map.1 hc
     have:=(hok x (hpm.mem_iff.1 hx)).2.1
     show x.val.length≤_
     omega⟩
    simp -implicitDefEqProofs only[go_sem,Nat.reduceEqDiff,Nat.reduceBEq,Nat.reduceAdd,gLa,gLz,gLs,bne_self_eq_false,d3]
    refine contL_call Tryz.pl85 ((R.root u w3 (ht.no f03) hY hok' hsz (hL.fr0 f3).csR hCs).mono ?_)
    rintro _ w4 ⟨rfl,f4⟩
    have hsays:Wit.saysC (l.map Wit.chOf)=Wit.saysC (cs'.map Wit.chOf):=Wit.saysC_perm (hpm.map _) (by rw[Wit.chOf_keys];exact (hpm.map _).nodup_iff.2 hnd)
    rw[hsays]
    have hdl:=Wit.dig_len' wd (Wit.saysC (cs'.map Wit.chOf)) t
    have f04:=f03.trans f4
    generalize Wit.dig wd (Wit.saysC (cs'.map Wit.chOf)) t=d at *
    obtain⟨q4,l4⟩:=fin w4 _ (f4.at k23 id) hdl
    simp -implicitDefEqProofs only[go_sem,Nat.reduceEqDiff,Nat.reduceBEq,Nat.reduceAdd,gLa,gLz,gLs,q4,l4]
    exact⟨lst _ _ f04,hdl⟩
end R
end Go.V
end
section
namespace Go.V
open Go.Proofs Sha
set_option maxRecDepth 100000
set_option maxHeartbeats 2000000 in
theorem wstep (w0 : World) (ht : Tabs w0) (wd : Int) {root : Bs} (hroot : root.length = 32) {rv cv : Value} {raw cs : Bs} (hr : By w0 rv raw) (hc : By w0 cv cs) (hcl : cs.length ≤ 2 ^ 50) :
    Fn Tryz.prog 32 #[.int .i64 wd,dg root,rv,cv] w0 (DgQ w0 (Wit.stepP wd root raw cs)) := by
 refine Tryz.go32 (by simp) ?_
 obtain⟨W,hW,f1,k1,k2,s1⟩:=allocs2 w0 (bl root) 23 (bl (List.replicate 32 0)) 23
 have fin : ∀ (w : World) (d : Bs), w.heap[w0.heap.size + 1]? = some (.cells (bl (List.replicate 32 0)) 23 (0, 0)) → d.length = 32 →
     wrO Tryz.prog 23 w (w0.heap.size + 1) 0 (dg d) = some (put w (w0.heap.size + 1) (.cells (bl d) 23 (0,0))) ∧ rdO Tryz.prog 23 (put w (w0.heap.size + 1) (.cells (bl d) 23 (0,0))) (w0.heap.size + 1) 0 = some (dg d) := fun w d h hd =>
  ⟨wr_d Tryz.sz23 h zl32 hd,rd_d Tryz.agg23 Tryz.sz23 (put_at (o:=.cells (bl d) 23 (0,0)) h) hd⟩
 have lst:∀ (w:World) (d:Bs),No w0 w→No w0 (put w (w0.heap.size+1) (.cells (bl d) 23 (0,0))):=fun w d h=>h.put (b:=w0.heap.size+1) _ fun h=>by omega
 simp -implicitDefEqProofs only[go_sem,Nat.reduceEqDiff,Nat.reduceBEq,Nat.reduceAdd,gLa,gLz,gLs,Tryz.f32,Value.cells,bl_zero,hW]
 refine contL_call Tryz.pl46 ((sorted W wd (kv:=.slice Option.none 0 0) (ks:=[]) (NwD.nil W W 34).rd).mono ?_)
 rintro r w2 ⟨f2,h2⟩
 have f02:=f1.trans f2
 have k22:=f2.at k2 id
 unfold DgQ Wit.stepP
 by_cases hwd:wd<1∨32<wd
 ·have hsn:Wit.sortW wd []=.error 1:=by unfold Wit.sortW;rw[if_pos hwd]
  rw[hsn] at h2
  subst h2
  have he:((1:Int) != 0)=true:=rfl
  obtain⟨q3,l3⟩:=fin w2 _ k22 zl32
  simp -implicitDefEqProofs only[go_sem,Nat.reduceEqDiff,Nat.reduceBEq,Nat.reduceAdd,gLa,gLz,gLs,he,bldD0,q3,l3]
  rw[if_pos hwd]
  exact⟨lst _ _ f02,rfl⟩
 have hsn:Wit.sortW wd []=.ok []:=by unfold Wit.sortW;rw[if_neg hwd];rfl
 rw[hsn] at h2
 obtain⟨lv,rfl,_⟩:=h2
 rw[if_neg hwd]
 simp -implicitDefEqProofs only[go_sem,Nat.reduceEqDiff,Nat.reduceBEq,Nat.reduceAdd,gLa,gLz,gLs,bne_self_eq_false]
 refine contL_call Tryz.pl59 ((parsed w2 (hc.fr0 f02) hcl).mono ?_)
 rintro r w3 ⟨f3,hm⟩
 have f03:=f02.trans f3
 have k23:=f3.at k22 id
 obtain⟨W4,hW4,f4,k4,s4⟩:=allocs1 w3 #[.slice Option.none 0 0,.map Option.none] 111
 have st:∀ a b:Value,one a=true→one b=true→∃ w5,wrO Tryz.prog 111 W4 w3.heap.size 0 (.agg #[a,b])=some w5∧w5.heap[w3.heap.size]?=some (.cells #[a,b] 111 (0,0))∧No w3 w5:=fun a b ha hb =>
  ⟨put W4 w3.heap.size (.cells #[a,b] 111 (0,0)),wr_all (vs:=#[a,b]) Tryz.sz111 k4 rfl (by rw[← Array.all_toList];simp only[List.all_cons,List.all_nil,ha,hb];rfl),put_at (o:=.cells #[a,b] 111 (0,0)) k4,f4.put (b:=w3.heap.size) _ fun h=>absurd h (Nat.lt_irrefl _)⟩
 cases hp:Bat.parseP cs with
 | error e =>
  rw[hp] at hm
  subst hm
  have he0:(e != 0)=true:=by rw[bne_iff_ne];exact Wit.parseP_err hp
  obtain⟨w5,q5,k5,f5⟩:=st (.slice Option.none 0 0) (.map Option.none) rfl rfl
  have f05:=f03.trans f5
  obtain⟨q6,l6⟩:=fin w5 _ (f5.at k23 id) zl32
  simp -implicitDefEqProofs only[go_sem,Nat.reduceEqDiff,Nat.reduceBEq,Nat.reduceAdd,gLa,gLz,gLs,hW4,Value.cells,q5,he0,bldD0,q6,l6]
  exact⟨lst _ _ f05,trivial⟩
 | ok cs' =>
  rw[hp] at hm
  obtain⟨kv,mb,rfl,hko,hK,hM⟩:=hm
  obtain⟨h64,hok,hnd⟩:=Bat.parseP_ok hp
  have h32:=Wit.ok_keys hok
  have hasc:=Wit.srt_asc h32 hnd
  have hsl:(Wit.srt (cs'.map Bat.Ch.key)).length≤64:=by rw[Wit.srt_len];simpa using h64
  obtain⟨w5,q5,k5,f5⟩:=st kv (.map (some mb)) hko rfl
  have f05:=f03.trans f5
  have k15:=((f2.trans f3).trans f5).at k1 id
  have k25:=f5.at k23 id
  have r5:rdO Tryz.prog 24 w5 w3.heap.size 0=some kv:=rd1 Tryz.agg24 k5 rfl
  have rr:=rd_d Tryz.agg23 Tryz.sz23 k15 hroot
  obtain⟨ks,hks⟩:∃ ks,ks=Wit.srt (cs'.map Bat.Ch.key):=⟨_,rfl⟩
  rw[← hks] at hasc hsl hK
  simp only[← hks]
  simp -implicitDefEqProofs only[go_sem,Nat.reduceEqDiff,Nat.reduceBEq,Nat.reduceAdd,gLa,gLz,gLs,hW4,Value.cells,q5,r5,rr,bne_self_eq_false]
  refine contL_call Tryz.pl47 ((under w5 (ht.no f05) wd hroot (hK.fr0 f5) (hr.fr0 f05) hasc hsl).mono ?_)
  rintro r w6 ⟨f6,h6⟩
  have f06:=f05.trans f6
  have k16:=f6.at k15 id
  have k26:=f6.at k25 id
  cases hu:Wit.underP wd root ks raw with
  | error e =>
   rw[hu] at h6
   subst h6
   have he0:(e != 0)=true:=by rw[bne_iff_ne];exact Wit.underP_err hu
   obtain⟨q7,l7⟩:=fin w6 _ k26 zl32
   simp -implicitDefEqProofs only[go_sem,Nat.reduceEqDiff,Nat.reduceBEq,Nat.reduceAdd,gLa,gLz,gLs,he0,bldD0,q7,l7]
   exact⟨lst _ _ f06,trivial⟩
  | ok o =>
   rw[hu] at h6
   cases o with
   | none =>
    subst h6
    have r7:=rd_d Tryz.agg23 Tryz.sz23 k16 hroot
    obtain⟨q7,l7⟩:=fin w6 _ k26 hroot
    simp -implicitDefEqProofs only[go_sem,Nat.reduceEqDiff,Nat.reduceBEq,Nat.reduceAdd,gLa,gLz,gLs,bne_self_eq_false,beq_self_eq_true,r7,q7,l7]
    exact⟨lst _ _ f06,hroot⟩
   | some t =>
    obtain⟨v,rfl,hX⟩:=h6
    obtain⟨u,tb,B,rfl,g1,g2,T2,nd,bd⟩:=id hX
    obtain⟨hf,_⟩:=Wit.underP_ok hu
    obtain⟨hok',_⟩:=Wit.form_ok hasc hK.1 hf
    have rt:rdO Tryz.prog 111 w6 w3.heap.size 0=some (.agg #[kv,.map (some mb)]):=rd_all Tryz.agg111 Tryz.sz111 (f6.at k5 id)
    have hS:SaysF w6 61 #[.agg #[kv,.map (some mb)]] #[] (Wit.saysC (cs'.map Wit.chOf)):=saysF w6 hko (hM.fr0 (f5.trans f6)) hok
    simp -implicitDefEqProofs only[go_sem,Nat.reduceEqDiff,Nat.reduceBEq,Nat.reduceAdd,gLa,gLz,gLs,bne_self_eq_false,rt]
    refine contL_call Tryz.pl60 ((hashed u w6 (ht.no f06) wd hS T2 hok' g2).mono ?_)
    rintro _ w7 ⟨rfl,f7⟩
    have hdl:=Wit.dig_len' wd (Wit.saysC (cs'.map Wit.chOf)) t
    generalize Wit.dig wd (Wit.saysC (cs'.map Wit.chOf)) t=d at *
    obtain⟨q8,l8⟩:=fin w7 _ (f7.at k26 id) hdl
    simp -implicitDefEqProofs only[go_sem,Nat.reduceEqDiff,Nat.reduceBEq,Nat.reduceAdd,gLa,gLz,gLs,q8,l8]
    exact⟨lst _ _ (f06.trans f7),hdl⟩
end Go.V
end
