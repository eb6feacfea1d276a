/-
 Helpers: ShaRef, ShaProg.
-/
import Derived.Test.YtmenaeggoakppaaGreatDoorB14
set_option linter.all false
section
namespace Go.V
open Go.Proofs Sha
set_option maxRecDepth 100000
theorem fill_min (n:Nat):∀ j,j≤fill n→((n+1+j) % 64=56 ↔ j=fill n):=fun j hj=>by unfold fill at *;omega
theorem bd47 {n m:Nat} (h:n+m≤70368744177664):∀ cap,n≤cap→cap<n+m→Builtin.nextslicecap (n+m) cap*1≤2 ^ 48:=bd_small (by omega)
def fI1 (w0:World) (msg:List Byte) (mv:Value) (n:Nat) (vs:List Value) (w:World):Prop :=
 ∃ j v,vs=[mv,v]∧j≤fill msg.length∧n=fill msg.length - j∧NwB w0 w v (msg++128::List.replicate j 0)∧No w0 w
def fI2 (w0:World) (msg:List Byte) (n:Nat) (vs:List Value) (w:World):Prop :=
 ∃ i v,vs=[v,.int .u64 ((BitVec.ofNat 64 (8*msg.length)).toNat:Nat),.int .i64 (i:Nat)]∧i≤8∧n=8 - i∧NwB w0 w v (msg++128::List.replicate (fill msg.length) 0++(len8 msg.length).take i)∧No w0 w
theorem shr64 (x:BitVec 64) (k:Nat) (hk:k≤64):shrK .u64 (x.toNat:Int) (k:Int)=((x >>> k).toNat:Int):=by
 have e:shrK .u64 (x.toNat:Int) (k:Int)=(x.toNat:Int).fdiv (2 ^ (min ((k:Nat):Int).toNat 64)):=rfl
 rw[e,Int.toNat_natCast,Nat.min_eq_left hk,BitVec.toNat_ushiftRight,Nat.shiftRight_eq_div_pow,fdivn]
theorem cut64 (x:BitVec 64):IntKind.u8.wrap (x.toNat:Int)=((x.setWidth 8).toNat:Int):=by
 rw[wrap_u8,BitVec.toNat_setWidth];generalize x.toNat=m;omega
theorem len8_len (n:Nat):(len8 n).length=8:=by simp[len8]
theorem len8_at (n:Nat) {i:Nat} (h:i<8):(len8 n)[i]?=some (((BitVec.ofNat 64 (8*n)) >>> (56 - 8*i)).setWidth 8):=by simp[len8,h]
theorem take_succ_at {α:Type} {l:List α} {i:Nat} {x:α} (h:l[i]?=some x):l.take i++[x]=l.take (i+1):=by
 rw[List.take_add_one,h];rfl
set_option maxHeartbeats 1000000 in
theorem filled_ref (w0 : World) {mv : Value} {msg : List Byte} (hm : By w0 mv msg) (hl : msg.length ≤ 1099511627776) :
    Fn Tryz.prog 52 #[mv] w0 fun v w' => NwB w0 w' v (msg ++ pad msg.length) ∧ No w0 w' := by
 refine Tryz.go52 (by simp) ?_
 simp -implicitDefEqProofs only[go_sem,Nat.reduceEqDiff,Tryz.f52]
 obtain⟨v1,w1,hr1,b1,f1,_⟩:=(NwB.nil w0 w0).cat Tryz.app25_25 hm (bd47 (by simp;omega)) (by simp;omega) (Fr.refl _ _)
 refine contL_sem ⟨v1,w1,hr1,?_⟩
 simp -implicitDefEqProofs only[go_sem,Nat.reduceEqDiff]
 refine contL_is (v:=.slice (some ⟨w1.heap.size,0,none⟩) 1 1) (w':=w1.alloc (.cells (bl [128]) 5)) rfl ?_
 simp -implicitDefEqProofs only[go_sem,Nat.reduceEqDiff]
 obtain⟨v2,w2,hr2,b2,f2,_⟩:=b1.push Tryz.app25_25 [128] (bd47 (by simp;omega)) (by simp;omega) f1
 refine contL_sem ⟨v2,w2,hr2,?_⟩
 simp -implicitDefEqProofs only[go_sem,Nat.reduceEqDiff]
 refine loopD [0,3] (fI1 w0 msg mv) (fill msg.length) ⟨0,v2,by simp[upd,ev0],by omega,rfl,b2,f2⟩ ?_
 rintro _ vs w3 g ⟨j,v,rfl,hj,rfl,b3,f3⟩
 have hfl:fill msg.length<64:=by unfold fill;omega
 have hlen:(msg++128::List.replicate j 0).length=msg.length+1+j:=by simp;omega
 obtain⟨a,cap,rfl⟩:=b3.slice
 have e1:(((msg++128::List.replicate j 0).length:Nat):Int).tmod 64=(((msg.length+1+j) % 64:Nat):Int):=by rw[hlen];rfl
 by_cases hlt:j<fill msg.length
 ·have d1 : ((((msg.length + 1 + j) % 64 : Nat) : Int) != 56) = true := by
    have := (fill_min msg.length j hj).1
    simp only [bne_iff_ne,ne_eq]
    intro h
    have h' : (msg.length + 1 + j) % 64 = 56 := by exact_mod_cast h
    have := this h'
    omega
  have n0:((64:Int)=0)=False:=by simp
  obtain⟨v4,w4,hr4,b4,f4,_⟩:=b3.push Tryz.app25_25 [0] (bd47 (by rw[hlen];simp;omega)) (by rw[hlen];simp;omega) f3
  simp -implicitDefEqProofs only[go_sem,Nat.reduceEqDiff,n0,e1,d1]
  refine contL_is (v:=.slice (some ⟨w3.heap.size,0,none⟩) 1 1) (w':=w3.alloc (.cells (bl [0]) 5)) rfl ?_
  simp -implicitDefEqProofs only[go_sem,Nat.reduceEqDiff]
  refine contL_sem ⟨v4,w4,hr4,?_⟩
  simp -implicitDefEqProofs only[go_sem,Nat.reduceEqDiff]
  refine⟨fill msg.length - (j+1),by omega,j+1,v4,rfl,by omega,rfl,?_,f4⟩
  rw[List.append_assoc,List.cons_append,← List.replicate_succ'] at b4
  exact b4
 ·have ej:j=fill msg.length:=by omega
  have d1:((((msg.length+1+j) % 64:Nat):Int) != 56)=false:=by
   have:=(fill_min msg.length j hj).2 ej
   rw[this];rfl
  have n0:((64:Int)=0)=False:=by simp
  obtain⟨_,ma,mc,hmv,_⟩:=hm
  have a1:IntKind.u64.wrap ((msg.length:Nat):Int)=((msg.length:Nat):Int):=by rw[wrap_u64];omega
  have a2:IntKind.u64.wrap (((msg.length:Nat):Int)*8)=((BitVec.ofNat 64 (8*msg.length)).toNat:Int):=by
   rw[wrap_u64,BitVec.toNat_ofNat];omega
  subst hmv
  simp -implicitDefEqProofs only[go_sem,Nat.reduceEqDiff,n0,e1,d1,a1,a2]
  refine loopD [3,4,5] (fI2 w0 msg) 8 ⟨0,_,rfl,by omega,rfl,by rw[List.take_zero,List.append_nil,← ej];exact b3,f3⟩ ?_
  rintro _ vs w5 g5 ⟨i,v5,rfl,hi,rfl,b5,f5⟩
  by_cases hlt:i<8
  ·have d1:decide ((i:Int)<8)=true:=by simp;omega
   have c1:IntKind.i64.wrap (8*(i:Int))=((8*i:Nat):Int):=i64mul (a:=8) (b:=i) (by omega)
   have c2:IntKind.i64.wrap (56 - ((8*i:Nat):Int))=((56 - 8*i:Nat):Int):=i64sub (a:=56) (b:=8*i) (by omega) (by omega)
   have c3:IntKind.u64.wrap ((56 - 8*i:Nat):Int)=((56 - 8*i:Nat):Int):=by rw[wrap_u64];omega
   have c4:IntKind.i64.wrap ((i:Int)+1)=((i+1:Nat):Int):=i64add (b:=1) (by omega)
   have n1:¬ (((56 - 8*i:Nat):Int)<0):=by omega
   have hx:=len8_at msg.length hlt
   have hlen5:(msg++128::List.replicate (fill msg.length) 0++(len8 msg.length).take i).length≤msg.length+200:=by
    simp[len8_len];omega
   obtain⟨v6,w6,hr6,b6,f6,_⟩:=b5.push Tryz.app25_25 [((BitVec.ofNat 64 (8*msg.length)) >>> (56 - 8*i)).setWidth 8] (bd47 (by simp only[List.length_singleton];omega)) (by simp only[List.length_singleton];omega) f5
   simp -implicitDefEqProofs only[go_sem,Nat.reduceEqDiff,d1,c1,c2,c3,n1,shr64 _ _ (show 56 - 8*i≤64 by omega),cut64]
   refine contL_is (v:=.slice (some ⟨w5.heap.size,0,none⟩) 1 1) (w':=w5.alloc (.cells (bl [((BitVec.ofNat 64 (8*msg.length)) >>> (56 - 8*i)).setWidth 8]) 5)) rfl ?_
   simp -implicitDefEqProofs only[go_sem,Nat.reduceEqDiff]
   refine contL_sem ⟨v6,w6,hr6,?_⟩
   simp -implicitDefEqProofs only[go_sem,Nat.reduceEqDiff,c4]
   refine⟨8 - (i+1),by omega,i+1,v6,rfl,by omega,rfl,?_,f6⟩
   rw[List.append_assoc,take_succ_at hx] at b6
   exact b6
  ·have d1:decide ((i:Int)<8)=false:=by simp;omega
   have e:i=8:=by omega
   subst e
   simp -implicitDefEqProofs only[go_sem,Nat.reduceEqDiff,d1]
   refine⟨?_,f5⟩
   rw[List.take_of_length_le (by rw[len8_len];omega),List.append_assoc] at b5
   exact b5
def outAt (s:S8) (i:Nat):Byte:=((s.list.getD (i / 4) 0) >>> (24 - 8*(i % 4))).setWidth 8
theorem out_at (s:S8):∀ i,i<32→(out s)[i]?=some (outAt s i):=fun i hi=>by
 match i,hi with
 | 0,_ | 1,_ | 2,_ | 3,_ | 4,_ | 5,_ | 6,_ | 7,_ | 8,_ | 9,_ | 10,_ | 11,_ | 12,_ | 13,_ | 14,_ | 15,_ | 16,_ | 17,_ | 18,_ | 19,_ | 20,_ | 21,_ | 22,_ | 23,_ | 24,_ | 25,_ | 26,_ | 27,_ | 28,_ | 29,_ | 30,_ | 31,_=>rfl
 | n+32,h=>exact absurd h (by omega)
theorem out_take (s:S8) {i:Nat} (h:i<32):(padTo 0 32 ((out s).take i)).set i (outAt s i)=padTo 0 32 ((out s).take (i+1)):=by
 have hl:((out s).take i).length=i:=by rw[List.length_take,out_len];omega
 have:=padTo_set (z:=(0:Byte)) (n:=32) (l:=(out s).take i) (outAt s i) (by omega)
 rw[hl] at this
 rw[this,take_succ_at (out_at s i h)]
def sI1 (w0:World) (msg:List Byte) (lv:Value) (len:Nat) (b0 b1:Nat) (n:Nat) (vs:List Value) (w:World):Prop :=
 ∃ i,vs=[pt b0 0,lv,pt b1 0,.int .i64 (64*i:Nat)]∧i≤len∧n=len - i∧w.heap[b0]?=some (.cells (bl (List.replicate 32 0)) 23 (0,0)) ∧
  w.heap[b1]?=some (.cells (wl (blocks i msg init).list) 100 (0,0))∧b0<b1∧w0.heap.size≤b0∧NwB w0 w lv msg∧(∀ b,blockOf lv=some b→b≠b0∧b≠b1)∧No w0 w
def sI2 (w0:World) (s:S8) (b0 b1 b2:Nat) (n:Nat) (vs:List Value) (w:World):Prop :=
 ∃ i,vs=[pt b0 0,pt b1 0,pt b2 0,.int .i64 (i:Nat)]∧i≤32∧n=32 - i∧w.heap[b0]?=some (.cells (bl (List.replicate 32 0)) 23 (0,0)) ∧
  w.heap[b1]?=some (.cells (wl s.list) 100 (0,0))∧w.heap[b2]?=some (.cells (bl (padTo 0 32 ((out s).take i))) 23 (0,0))∧b0≠b2∧b1≠b2∧w0.heap.size≤b0∧w0.heap.size≤b2∧No w0 w
theorem Tabs.init1 {w:World} (h:Tabs w):rdO Tryz.prog 100 w 0 0=some (.agg (wl init.list)) :=
 rd_rcs Tryz.agg100 Tryz.sz100 rfl (by omega) fun i hi=>by rw[Nat.zero_add,h.i1 i hi,wl_at hi]
theorem Tabs.init2 {w:World} (h:Tabs w):rdO Tryz.prog 100 w 2 0=some (.agg (wl init.list)) :=
 rd_rcs Tryz.agg100 Tryz.sz100 rfl (by omega) fun i hi=>by rw[Nat.zero_add,h.i2 i hi,wl_at hi]
theorem blocks_succ (n:Nat) (l:List Byte) (s:S8):blocks (n+1) l s=comp (blocks n l s) ((l.drop (64*n)).take 64):=blocksF_succ comp n l s
theorem sum_blocks (msg:List Byte) {L:Nat} (h:msg.length+(pad msg.length).length=64*L):Sha.sum msg=out (blocks L (msg++pad msg.length) init):=by
 unfold Sha.sum;rw[h,Nat.mul_div_cancel_left _ (by omega)]
theorem comp_is {s:S8} {m:List Byte} {T R:S8} (hT:rnds (words m) s 64=T) (hR:plus s T=R):comp s m=R:=by unfold comp;rw[hT,hR]
set_option maxHeartbeats 2000000 in
theorem sum_ref (w0 : World) (ht : Tabs w0) {mv : Value} {msg : List Byte} (hm : By w0 mv msg) (hl : msg.length ≤ 1099511627776) :
    Fn Tryz.prog 27 #[mv] w0 fun v w' => v = dg (Sha.sum msg) ∧ No w0 w' := by
 obtain⟨L,hL⟩:∃ L,msg.length+(pad msg.length).length=64*L:=⟨_,(Nat.mul_div_cancel' (Nat.dvd_of_mod_eq_zero (pad_mod msg.length))).symm⟩
 rw[sum_blocks msg hL]
 have hPl:(msg++pad msg.length).length=64*L:=by rw[List.length_append,hL]
 have hLb:64*L≤1099511627776+200:=by
  rw[← hL,pad_len];unfold fill;omega
 refine Tryz.go27 (by simp) ?_
 simp -implicitDefEqProofs only[go_sem,Nat.reduceEqDiff,Tryz.f27,Value.cells,bl_zero]
 have f1:No w0 (w0.alloc (.cells (bl (List.replicate 32 0)) 23)):=(Fr.refl _ _).alloc _
 have h1:(w0.alloc (.cells (bl (List.replicate 32 0)) 23)).heap[w0.heap.size]?=some (.cells (bl (List.replicate 32 0)) 23 (0,0)):=alloc_blk_new _ _
 have z1:(w0.alloc (.cells (bl (List.replicate 32 0)) 23)).heap.size=w0.heap.size+1:=alloc_heap_size _ _
 generalize w0.alloc (.cells (bl (List.replicate 32 0)) 23)=W1 at *
 refine contL_call Tryz.pl52 ((filled_ref W1 (hm.fr0 f1) hl).mono ?_);rintro lv W2 ⟨b2,f2⟩
 generalize msg++pad msg.length=P at *
 have f02:=f1.trans f2
 have h2:=f2.at h1 id
 have t2:Tabs W2:=ht.no f02
 have q0:=wr_all (P:=Tryz.prog) (t:=100) (w:=W2.alloc (.cells (wl (List.replicate 8 0)) 100)) (vs:=wl init.list) Tryz.sz100 (alloc_blk_new _ _) rfl (wl_one _)
 simp -implicitDefEqProofs only[go_sem,Nat.reduceEqDiff,Value.cells,zero8,t2.init1,q0]
 have hlv:∀ b,blockOf lv=some b→b≠w0.heap.size∧b≠W2.heap.size:=fun b hb=>by
  have h3:=b2.new b hb
  have h4:=b2.own.lt hb
  omega
 have e1:(put (W2.alloc (.cells (wl (List.replicate 8 0)) 100)) W2.heap.size (.cells (wl init.list) 100 (0,0))).heap[w0.heap.size]?=some (.cells (bl (List.replicate 32 0)) 23 (0,0)) :=
  put_off (alloc_at h2) (by have:=heap_lt h2;omega)
 have e2:(put (W2.alloc (.cells (wl (List.replicate 8 0)) 100)) W2.heap.size (.cells (wl init.list) 100 (0,0))).heap[W2.heap.size]?=some (.cells (wl init.list) 100 (0,0)) :=
  put_at (alloc_blk_new _ _)
 have e3:NwB w0 (put (W2.alloc (.cells (wl (List.replicate 8 0)) 100)) W2.heap.size (.cells (wl init.list) 100 (0,0))) lv P:=by
  have b3:NwB w0 W2 lv P:=Nw.back b2 (by omega)
  exact b3.fr0 (((Fr.refl _ _).alloc _).put (b:=W2.heap.size) _ fun h=>absurd h (Nat.lt_irrefl _))
 have f3:No w0 (put (W2.alloc (.cells (wl (List.replicate 8 0)) 100)) W2.heap.size (.cells (wl init.list) 100 (0,0))) :=
  (f02.alloc _).put (b:=W2.heap.size) _ fun h=>by have:=f02.size;omega
 refine loopD [2,3,4,5] (sI1 w0 P lv L w0.heap.size W2.heap.size) L ⟨0,rfl,by omega,rfl,e1,e2,by have:=heap_lt h2;omega,Nat.le_refl _,e3,hlv,f3⟩ ?_
 rintro _ vs w4 g ⟨i,rfl,hi,rfl,k0,k1,hb01,hb0,bw,hne,f4⟩
 clear e1 e2 e3 f3 q0 h2 b2 t2
 obtain⟨a,cap,rfl,hcap,hat⟩:=NwB.by bw |>.at
 rw[hPl] at hcap
 by_cases hlt:i<L
 ·have d1:decide (((64*i:Nat):Int)<((P.length:Nat):Int))=true:=by simp;omega
  obtain⟨b,o,rfl,_⟩:=hat 0 (by omega)
  have hrd:∀ j,j<64→rc w4 b (o+(64*i+j))=some (u8 (((P.drop (64*i)).take 64).getD j 0)):=fun j hj=>by
   obtain⟨b',o',e,h'⟩:=hat (64*i+j) (by omega)
   cases e
   rw[h',getD_lt 0 (by rw[List.length_take,List.length_drop];omega)]
   simp
  have c1:IntKind.i64.wrap (((64*i:Nat):Int)+64)=((64*(i+1):Nat):Int):=by rw[wrap64_id (by omega) (by omega)];omega
  have hbs:=blocks_succ i P init
  generalize (P.drop (64*i)).take 64=m at hrd hbs
  simp -implicitDefEqProofs only[go_sem,Nat.reduceEqDiff,d1]
  refine contL_call Tryz.pl53 ((words_ref w4 (n:=P.length) (cap:=cap) (at_:=64*i) (m:=m) (by omega) (by omega) hrd).mono ?_);rintro _ w5 ⟨rfl,f5⟩
  have hwl:(words m).length=64:=words_len m
  generalize hws:words m=ws at hwl
  have q1:=wr_all (P:=Tryz.prog) (t:=101) (w:=w5.alloc (.cells (wl (List.replicate 64 0)) 101)) (vs:=wl ws) (by rw[wl_size,hwl];exact Tryz.sz101) (alloc_blk_new _ _) (by rw[wl_size,wl_size,hwl];simp) (wl_one _)
  have k1':(put (w5.alloc (.cells (wl (List.replicate 64 0)) 101)) w5.heap.size (.cells (wl ws) 101 (0,0))).heap[W2.heap.size]?=some (.cells (wl (blocks i P init).list) 100 (0,0)) :=
   put_off (alloc_at (f5.at k1 id)) (by have:=heap_lt (f5.at k1 id);omega)
  have k0':(put (w5.alloc (.cells (wl (List.replicate 64 0)) 101)) w5.heap.size (.cells (wl ws) 101 (0,0))).heap[w0.heap.size]?=some (.cells (bl (List.replicate 32 0)) 23 (0,0)) :=
   put_off (alloc_at (f5.at k0 id)) (by have:=heap_lt (f5.at k0 id);omega)
  have f6:No w4 (put (w5.alloc (.cells (wl (List.replicate 64 0)) 101)) w5.heap.size (.cells (wl ws) 101 (0,0))):=(f5.alloc _).put (b:=w5.heap.size) _ fun h=>by have:=f5.size;omega
  obtain⟨S,hS⟩:∃ S,S=blocks i P init:=⟨_,rfl⟩
  rw[← hS] at k1' hbs
  have r1:=rds (P:=Tryz.prog) (t:=100) (o:=0) (vs:=wl S.list) Tryz.agg100 Tryz.sz100 k1' rfl (by omega) fun i hi=>by rw[Nat.zero_add]
  have r2:=rds (P:=Tryz.prog) (t:=101) (o:=0) (vs:=wl ws) Tryz.agg101 Tryz.sz101 (put_at (o:=.cells (wl ws) 101 (0,0)) (alloc_blk_new w5 (.cells (wl (List.replicate 64 0)) 101))) (by rw[wl_size,hwl]) (by omega) fun i hi=>by rw[Nat.zero_add]
  simp -implicitDefEqProofs only[go_sem,Nat.reduceEqDiff,Value.cells,wl_zero,q1,r1,r2]
  generalize put (w5.alloc (.cells (wl (List.replicate 64 0)) 101)) w5.heap.size (.cells (wl ws) 101 (0,0))=w6 at *
  obtain⟨T,hT⟩:∃ T,rnds ws S 64=T:=⟨_,rfl⟩
  obtain⟨R,hR⟩:∃ R,plus S T=R:=⟨_,rfl⟩
  have hc:blocks (i+1) P init=R:=by rw[hbs];exact comp_is (by rw[hws];exact hT) hR
  refine contL_call Tryz.pl54 ((behind_ref w6 (ht.no (f4.trans f6)) S ws hwl hT hR).mono ?_);rintro _ w7 ⟨rfl,f7⟩
  have q2:=wr_all (P:=Tryz.prog) (t:=100) (vs:=wl R.list) Tryz.sz100 (f7.at k1' id) rfl (wl_one _)
  simp -implicitDefEqProofs only[go_sem,Nat.reduceEqDiff,q2,c1]
  refine⟨L - (i+1),by omega,i+1,rfl,by omega,rfl,put_off (f7.at k0' id) (by omega),by rw[hc];exact put_at (f7.at k1' id),hb01,hb0,?_,hne,?_⟩
  ·exact (bw.fr0 (f6.trans f7)).fr (((Fr.refl (fun b=>b=W2.heap.size) w7)).put _ fun _=>rfl) fun b hb=>(hne b hb).2
  ·exact ((f4.trans f6).trans f7).put (b:=W2.heap.size) _ fun h=>by omega
 ·have d1:decide (((64*i:Nat):Int)<((P.length:Nat):Int))=false:=by simp;omega
  have e:i=L:=by omega
  subst e
  simp -implicitDefEqProofs only[go_sem,Nat.reduceEqDiff,d1,Value.cells,bl_zero]
  obtain⟨S,hS⟩:∃ S,S=blocks i P init:=⟨_,rfl⟩
  rw[← hS] at k1 ⊢
  have f5:No w0 (w4.alloc (.cells (bl (List.replicate 32 0)) 23)):=f4.alloc _
  refine loopD [2,4,7,8] (sI2 w0 S w0.heap.size W2.heap.size w4.heap.size) 32 ⟨0,rfl,by omega,rfl,alloc_at k0,alloc_at k1,by rw[List.take_zero,padTo_nil];exact alloc_blk_new _ _,by have:=heap_lt k0;omega,by have:=heap_lt k1;omega,hb0,by have:=f4.size;omega,f5⟩ ?_
  rintro _ vs w6 g2 ⟨j,rfl,hj,rfl,l0,l1,l2,n02,n12,hb0',hb2',f6⟩
  by_cases hlt:j<32
  ·have d1:decide ((j:Int)<32)=true:=by simp;omega
   have a1:IntKind.i64.wrap ((j:Int).tdiv 4)=((j / 4:Nat):Int):=by
    rw[show (j:Int).tdiv 4=((j / 4:Nat):Int) from rfl];exact i64n (by omega)
   have a2:(j:Int).tmod 4=((j % 4:Nat):Int):=rfl
   have a3:IntKind.i64.wrap (8*((j % 4:Nat):Int))=((8*(j % 4):Nat):Int):=i64mul (a:=8) (b:=j % 4) (by omega)
   have a4:IntKind.i64.wrap (24 - ((8*(j % 4):Nat):Int))=((24 - 8*(j % 4):Nat):Int):=i64sub (a:=24) (b:=8*(j % 4)) (by omega) (by omega)
   have a5:IntKind.u64.wrap ((24 - 8*(j % 4):Nat):Int)=((24 - 8*(j % 4):Nat):Int):=by rw[wrap_u64];omega
   have a6:IntKind.i64.wrap ((j:Int)+1)=((j+1:Nat):Int):=i64add (b:=1) (by omega)
   have n1:¬ (((24 - 8*(j % 4):Nat):Int)<0):=by omega
   have n0:((4:Int)=0)=False:=by simp
   have x1:(0:Int)≤((j / 4:Nat):Int)∧((j / 4:Nat):Int)<((8:Nat):Int):=by omega
   have x2:(0:Int)≤(j:Int)∧(j:Int)<((32:Nat):Int):=by omega
   have r1:rdO Tryz.prog 99 w6 W2.heap.size (j / 4)=some (u32 (S.list.getD (j / 4) 0)):=rd1 Tryz.agg99 l1 (wl_at (show j / 4<8 by omega))
   have q:=wr1 (P:=Tryz.prog) (t:=5) (v:=u8 (outAt S j)) (o:=j) Tryz.sz5 rfl l2 (by rw[bl_size,padTo_len (by rw[List.length_take,out_len];omega)];exact hlt)
   rw[bl_set,out_take S hlt] at q
   unfold outAt at q
   generalize S.list.getD (j / 4) 0=t1 at r1 q
   simp -implicitDefEqProofs only[go_sem,Nat.reduceEqDiff,d1,n0,n1,x1,x2,and_self,Int.toNat_natCast,Nat.mul_one,r1,shr32 _ _ (show 24 - 8*(j % 4)≤32 by omega),cut32,q,a1,a2,a3,a4,a5,a6]
   exact⟨32 - (j+1),by omega,j+1,rfl,by omega,rfl,put_off l0 n02.symm,put_off l1 n12.symm,put_at l2,n02,n12,hb0',hb2',f6.put (b:=w4.heap.size) _ fun h=>by omega⟩
  ·have d1:decide ((j:Int)<32)=false:=by simp;omega
   have e:j=32:=by omega
   subst e
   rw[List.take_of_length_le (by rw[out_len];omega),padTo_full (out_len S)] at l2
   have r:=rds (P:=Tryz.prog) (t:=23) (o:=0) (vs:=bl (out S)) Tryz.agg23 Tryz.sz23 l2 (by rw[bl_size,out_len]) (by omega) fun i hi=>by rw[Nat.zero_add]
   have q:=wr_all (P:=Tryz.prog) (t:=23) (vs:=bl (out S)) (by rw[bl_size,out_len];exact Tryz.sz23) l0 (by rw[bl_size,bl_size,out_len];simp) (bl_one _)
   have r2:=rds (P:=Tryz.prog) (t:=23) (o:=0) (vs:=bl (out S)) Tryz.agg23 Tryz.sz23 (put_at (o:=.cells (bl (out S)) 23 (0,0)) l0) (by rw[bl_size,out_len]) (by omega) fun i hi=>by rw[Nat.zero_add]
   simp -implicitDefEqProofs only[go_sem,Nat.reduceEqDiff,d1,r,q,r2]
   exact f6.put (b:=w0.heap.size) _ fun h=>absurd h (Nat.lt_irrefl _)
end Go.V
end
section
namespace Go.V
open Go.Proofs Sha
set_option maxRecDepth 100000
/-- a hasher's cells -/
def hC (L:List W32) (r:List Byte) (n t:Nat):Array Value:=(L.map u32++(r.map u8++[Value.int .i64 (n:Nat),Value.int .u64 (t:Nat)])).toArray
section
variable {L:List W32} {r:List Byte} {n t:Nat}
theorem hC_size:(hC L r n t).size=L.length+r.length+2:=by simp[hC];omega
theorem hC_w {i:Nat} (h:i<L.length):(hC L r n t)[i]?=some (u32 (L.getD i 0)):=by
 rw[hC,List.getElem?_toArray,List.getElem?_append_left (by simpa using h),List.getElem?_map,List.getElem?_eq_getElem h,Option.map_some,getD_lt _ h]
theorem hC_b (hL:L.length=8) {j:Nat} (h:j<r.length):(hC L r n t)[8+j]?=some (u8 (r.getD j 0)):=by
 rw[hC,List.getElem?_toArray,List.getElem?_append_right (by simp;omega),List.length_map,hL,Nat.add_sub_cancel_left,List.getElem?_append_left (by simpa using h),List.getElem?_map,List.getElem?_eq_getElem h,Option.map_some,getD_lt _ h]
theorem hC_n (hL:L.length=8) (hr:r.length=64):(hC L r n t)[72]?=some (.int .i64 (n:Nat)):=by
 rw[hC,List.getElem?_toArray,List.getElem?_append_right (by simp;omega),List.length_map,hL,List.getElem?_append_right (by simp;omega),List.length_map,hr];rfl
theorem hC_t (hL:L.length=8) (hr:r.length=64):(hC L r n t)[73]?=some (.int .u64 (t:Nat)):=by
 rw[hC,List.getElem?_toArray,List.getElem?_append_right (by simp;omega),List.length_map,hL,List.getElem?_append_right (by simp;omega),List.length_map,hr];rfl
theorem hC_setw (i:Nat) (x:W32) (h:i<L.length):(hC L r n t).setIfInBounds i (u32 x)=hC (L.set i x) r n t:=by
 unfold hC
 rw[List.setIfInBounds_toArray,List.set_append_left _ _ (by simpa using h),List.map_set]
theorem hC_setn (hL:L.length=8) (hr:r.length=64) (k:Nat):(hC L r n t).setIfInBounds 72 (.int .i64 (k:Nat))=hC L r k t:=by
 unfold hC
 rw[List.setIfInBounds_toArray,List.set_append_right _ _ (by simp;omega),List.length_map,hL,List.set_append_right _ _ (by simp;omega),List.length_map,hr];rfl
theorem hC_sett (hL:L.length=8) (hr:r.length=64) (k:Nat):(hC L r n t).setIfInBounds 73 (.int .u64 (k:Nat))=hC L r n k:=by
 unfold hC
 rw[List.setIfInBounds_toArray,List.set_append_right _ _ (by simp;omega),List.length_map,hL,List.set_append_right _ _ (by simp;omega),List.length_map,hr];rfl
theorem hC_store (hL:L.length=8) (bs:List Byte) (k:Nat) (h:k+bs.length≤r.length):storeL (bs.map u8) (8+k) (hC L r n t)=hC L (r.take k++bs++r.drop (k+bs.length)) n t:=by
 apply Array.toList_inj.1
 rw[storeL_list _ _ _ (by rw[hC_size,List.length_map];omega),List.length_map]
 unfold hC
 simp only[List.map_append,List.map_take,List.map_drop]
 rw[List.take_append,List.drop_append]
 simp only[List.length_map,hL]
 rw[List.take_of_length_le (by simp;omega),show 8+k - 8=k by omega,show 8+k+bs.length - 8=k+bs.length by omega,List.drop_of_length_le (l:=List.map u32 L) (by simp;omega)]
 rw[List.take_append_of_le_length (by simp;omega),List.drop_append_of_le_length (by simp;omega)]
 simp only[List.nil_append,List.append_assoc]
end
def pI1 (w0:World) (m:List Byte) (hb:Nat) (c:Array Value) (pv:Value) (n:Nat) (vs:List Value) (w:World):Prop :=
 ∃ i,vs=[pt hb 0,pv,pt w0.heap.size 0,.int .i64 (i:Nat)]∧i≤16∧n=16 - i∧w.heap[hb]?=some (.cells c 289 (0,0)) ∧
  w.heap[w0.heap.size]?=some (.cells (wl (wA m i)) 101 (0,0))∧No w0 w
def pI2 (w0:World) (m:List Byte) (hb:Nat) (c:Array Value) (n:Nat) (vs:List Value) (w:World):Prop :=
 ∃ i,vs=[pt hb 0,pt w0.heap.size 0,.int .i64 (16+i:Nat)]∧i≤48∧n=48 - i∧w.heap[hb]?=some (.cells c 289 (0,0)) ∧
  w.heap[w0.heap.size]?=some (.cells (wl (wB m i)) 101 (0,0))∧No w0 w
def pI3 (w0:World) (ws:List W32) (s:S8) (hb:Nat) (c:Array Value) (n:Nat) (vs:List Value) (w:World):Prop :=
 ∃ (i:Nat) (V:S8),V=rnds ws s i∧vs=[pt hb 0,pt w0.heap.size 0,u32 V.a,u32 V.b,u32 V.c,u32 V.d,u32 V.e,u32 V.f,u32 V.g,u32 V.h,.int .i64 (i:Nat)]∧i≤64∧n=64 - i∧w.heap[hb]?=some (.cells c 289 (0,0)) ∧
  w.heap[w0.heap.size]?=some (.cells (wl ws) 101 (0,0))∧No w0 w
def pI4 (w0:World) (s T:S8) (hb:Nat) (r:List Byte) (k t:Nat) (n:Nat) (vs:List Value) (w:World):Prop :=
 ∃ i,vs=[pt hb 0,.agg (wl T.list),.int .i64 (i:Nat)]∧i≤8∧n=8 - i∧w.heap[hb]?=some (.cells (hC (mixL s.list T.list i) r k t) 289 (0,0))∧Fr (fun b=>b=hb) w0 w
set_option maxHeartbeats 8000000 in
theorem step (w0 : World) (ht : Tabs w0) {hb : Nat} {s : S8} {r : List Byte} {k t : Nat} (hh : w0.heap[hb]? = some (.cells (hC s.list r k t) 289 (0, 0)))
    {b o ln cap : Nat} {m : List Byte} (hln : 64 ≤ ln) (hm : ∀ j,j < 64 → rc w0 b (o + j) = some (u8 (m.getD j 0))) {ws : List W32} {T R : S8} (hws : words m = ws) (hT : rnds ws s 64 = T) (hR : plus s T = R) :
    Fn Tryz.prog 220 #[pt hb 0,.slice (some ⟨b,o,none⟩) ln cap] w0 fun v w' => v = .tuple #[] ∧ w'.heap[hb]? = some (.cells (hC R.list r k t) 289 (0,0)) ∧ Fr (fun b => b = hb) w0 w' := by
 have hwl:ws.length=64:=by rw[← hws];exact words_len m
 have hbl:=heap_lt hh
 refine Tryz.go220 (by simp) ?_
 generalize hp:Value.slice (some ⟨b,o,none⟩) ln cap=p
 simp -implicitDefEqProofs only[go_sem,Nat.reduceEqDiff,Tryz.f220,Value.cells,wl_zero]
 have f1:No w0 (w0.alloc (.cells (wl (List.replicate 64 0)) 101)):=(Fr.refl _ _).alloc _
 refine loopD [0,1,4,24] (pI1 w0 m hb (hC s.list r k t) p) 16 ⟨0,rfl,by omega,rfl,alloc_at hh,by rw[wA_zero];exact alloc_blk_new _ _,f1⟩ ?_
 rintro _ vs w1 g ⟨i,rfl,hi,rfl,k0,k1,f1⟩
 by_cases hlt:i<16
 ·have d1:decide ((i:Int)<16)=true:=by simp;omega
  subst hp
  have rr:∀ j,j<4→rdO Tryz.prog 5 w1 b (o+(4*i+j))=some (u8 (m.getD (4*i+j) 0)):=fun j hj=>by
   have:=hm (4*i+j) (by omega)
   exact rd_rc Tryz.agg5 (by rw[f1.rc (rc_lt this) id];exact this)
  have r0:=rr 0 (by omega);have r1:=rr 1 (by omega);have r2:=rr 2 (by omega);have r3:=rr 3 (by omega)
  rw[Nat.add_zero] at r0
  have a0:IntKind.i64.wrap (4*(i:Int))=((4*i:Nat):Int):=i64mul (a:=4) (b:=i) (by omega)
  have b1:IntKind.i64.wrap (((4*i:Nat):Int)+1)=((4*i+1:Nat):Int):=i64add (b:=1) (by omega)
  have b2:IntKind.i64.wrap (((4*i:Nat):Int)+2)=((4*i+2:Nat):Int):=i64add (b:=2) (by omega)
  have b3:IntKind.i64.wrap (((4*i:Nat):Int)+3)=((4*i+3:Nat):Int):=i64add (b:=3) (by omega)
  have c1:IntKind.i64.wrap ((i:Int)+1)=((i+1:Nat):Int):=i64add (b:=1) (by omega)
  have x0:(0:Int)≤((4*i:Nat):Int)∧((4*i:Nat):Int)<(ln:Int):=by omega
  have x1:(0:Int)≤((4*i+1:Nat):Int)∧((4*i+1:Nat):Int)<(ln:Int):=by omega
  have x2:(0:Int)≤((4*i+2:Nat):Int)∧((4*i+2:Nat):Int)<(ln:Int):=by omega
  have x3:(0:Int)≤((4*i+3:Nat):Int)∧((4*i+3:Nat):Int)<(ln:Int):=by omega
  have x4:(0:Int)≤(i:Int)∧(i:Int)<((64:Nat):Int):=by omega
  have s24:∀ z:W32,shlK .u32 (z.toNat:Int) 24=((z <<< 24).toNat:Int):=fun z=>shl32 z 24 (by omega)
  have s16:∀ z:W32,shlK .u32 (z.toNat:Int) 16=((z <<< 16).toNat:Int):=fun z=>shl32 z 16 (by omega)
  have s8:∀ z:W32,shlK .u32 (z.toNat:Int) 8=((z <<< 8).toNat:Int):=fun z=>shl32 z 8 (by omega)
  have q:=wr1 (P:=Tryz.prog) (t:=99) (w:=w1.drew) (v:=u32 (word4 m (4*i))) (o:=i) Tryz.sz99 rfl k1 (by rw[wl_size,wA_len m (by omega)];omega)
  rw[wl_set,wA_set m (by omega)] at q
  simp only[word4] at q
  simp -implicitDefEqProofs only[go_sem,Nat.reduceEqDiff,Nat.reduceBEq,d1,a0,b1,b2,b3,x0,x1,x2,x3,x4,and_self,Int.toNat_natCast,Nat.mul_one,r0,r1,r2,r3,ext8,s24,s16,s8,or32,Int.reduceLT,c1,q]
  exact⟨16 - (i+1),by omega,i+1,rfl,by omega,rfl,put_off k0 (by omega),put_at k1,f1.drew.put (b:=w0.heap.size) _ fun h=>absurd h (Nat.lt_irrefl _)⟩
 clear hm hp
 have d1:decide ((i:Int)<16)=false:=by simp;omega
 have e:i=16:=by omega
 subst e
 rw[wB_zero] at k1
 simp -implicitDefEqProofs only[go_sem,Nat.reduceEqDiff,d1]
 refine loopD [0,4,6] (pI2 w0 m hb (hC s.list r k t)) 48 ⟨0,rfl,by omega,rfl,k0,k1,f1⟩ ?_
 rintro _ vs w2 g2 ⟨i,rfl,hi,rfl,l0,l1,f2⟩
 by_cases hlt:i<48
 ·have d1:decide (((16+i:Nat):Int)<64)=true:=by simp;omega
  have sb:∀ c:Nat,c≤16→IntKind.i64.wrap (((16+i:Nat):Int) - (c:Int))=((16+i - c:Nat):Int):=fun c hc=>i64sub (by omega) (by omega)
  have s2:IntKind.i64.wrap (((16+i:Nat):Int) - 2)=((16+i - 2:Nat):Int):=sb 2 (by omega)
  have s7:IntKind.i64.wrap (((16+i:Nat):Int) - 7)=((16+i - 7:Nat):Int):=sb 7 (by omega)
  have s15:IntKind.i64.wrap (((16+i:Nat):Int) - 15)=((16+i - 15:Nat):Int):=sb 15 (by omega)
  have s16:IntKind.i64.wrap (((16+i:Nat):Int) - 16)=((16+i - 16:Nat):Int):=sb 16 (by omega)
  have x:∀ c:Nat,c≤16→(0:Int)≤((16+i - c:Nat):Int)∧((16+i - c:Nat):Int)<((64:Nat):Int):=fun c hc=>by omega
  have x2:=x 2 (by omega);have x7:=x 7 (by omega);have x15:=x 15 (by omega);have x16:=x 16 (by omega)
  have x0:(0:Int)≤((16+i:Nat):Int)∧((16+i:Nat):Int)<((64:Nat):Int):=by omega
  have rr:∀ c:Nat,0<c→c≤16→rdO Tryz.prog 99 w2 w0.heap.size (16+i - c)=some (u32 ((sch m i).getD (16+i - c) 0)):=fun c h0 hc =>
   rd1 Tryz.agg99 l1 (wB_at m (by omega) (by omega))
  have r2:=rr 2 (by omega) (by omega);have r7:=rr 7 (by omega) (by omega);have r15:=rr 15 (by omega) (by omega);have r16:=rr 16 (by omega) (by omega)
  have c1:IntKind.i64.wrap (((16+i:Nat):Int)+1)=((16+(i+1):Nat):Int):=i64add (b:=1) (by omega)
  have h10:∀ z:W32,shrK .u32 (z.toNat:Int) 10=((z >>> 10).toNat:Int):=fun z=>shr32 z 10 (by omega)
  have h3:∀ z:W32,shrK .u32 (z.toNat:Int) 3=((z >>> 3).toNat:Int):=fun z=>shr32 z 3 (by omega)
  have q:=wr1 (P:=Tryz.prog) (t:=99) (w:=w2.drew.drew) (v:=u32 (nextW (sch m i) (16+i))) (o:=16+i) Tryz.sz99 rfl l1 (by rw[wl_size,wB_len m hi];omega)
  rw[wl_set,wB_set m hlt] at q
  simp only[nextW,low1,low0] at q
  generalize (sch m i).getD (16+i - 2) 0=v2 at r2 q
  generalize (sch m i).getD (16+i - 7) 0=v7 at r7 q
  generalize (sch m i).getD (16+i - 15) 0=v15 at r15 q
  generalize (sch m i).getD (16+i - 16) 0=v16 at r16 q
  simp -implicitDefEqProofs only[go_sem,Nat.reduceEqDiff,Nat.reduceBEq,d1,s2,x2,s15,x15,and_self,Int.toNat_natCast,Nat.mul_one,r2,r15]
  refine contL_call Tryz.pl222 ((rotl _ v2 17 (by omega) (by omega)).mono ?_);rintro _ _ ⟨rfl,rfl⟩
  simp -implicitDefEqProofs only[go_sem,Nat.reduceEqDiff]
  refine contL_call Tryz.pl222 ((rotl _ v2 19 (by omega) (by omega)).mono ?_);rintro _ _ ⟨rfl,rfl⟩
  simp -implicitDefEqProofs only[go_sem,Nat.reduceEqDiff,xor32,h10,Int.reduceLT]
  refine contL_call Tryz.pl222 ((rotl _ v15 7 (by omega) (by omega)).mono ?_);rintro _ _ ⟨rfl,rfl⟩
  simp -implicitDefEqProofs only[go_sem,Nat.reduceEqDiff]
  refine contL_call Tryz.pl222 ((rotl _ v15 18 (by omega) (by omega)).mono ?_);rintro _ _ ⟨rfl,rfl⟩
  simp -implicitDefEqProofs only[go_sem,Nat.reduceEqDiff,Nat.reduceBEq,xor32,h3,Int.reduceLT,s7,s16,x7,x16,x0,and_self,Int.toNat_natCast,Nat.mul_one,r7,r16,add32,q,c1]
  exact⟨48 - (i+1),by omega,i+1,rfl,by omega,rfl,put_off l0 (by omega),put_at l1,f2.drew.drew.put (b:=w0.heap.size) _ fun h=>absurd h (Nat.lt_irrefl _)⟩
 have d1:decide (((16+i:Nat):Int)<64)=false:=by simp;omega
 have e:i=48:=by omega
 subst e
 rw[wB_full,hws] at l1
 have x0:(0:Int)≤0∧(0:Int)<((8:Nat):Int):=by decide
 have x1:(0:Int)≤1∧(1:Int)<((8:Nat):Int):=by decide
 have x2:(0:Int)≤2∧(2:Int)<((8:Nat):Int):=by decide
 have x3:(0:Int)≤3∧(3:Int)<((8:Nat):Int):=by decide
 have x4:(0:Int)≤4∧(4:Int)<((8:Nat):Int):=by decide
 have x5:(0:Int)≤5∧(5:Int)<((8:Nat):Int):=by decide
 have x6:(0:Int)≤6∧(6:Int)<((8:Nat):Int):=by decide
 have x7:(0:Int)≤7∧(7:Int)<((8:Nat):Int):=by decide
 have st:∀ j,j<8→rdO Tryz.prog 99 w2 hb j=some (u32 (s.list.getD j 0)):=fun j hj=>rd1 Tryz.agg99 l0 (hC_w hj)
 have r0:rdO Tryz.prog 99 w2 hb 0=some (u32 s.a):=st 0 (by omega)
 have r1:rdO Tryz.prog 99 w2 hb 1=some (u32 s.b):=st 1 (by omega)
 have r2:rdO Tryz.prog 99 w2 hb 2=some (u32 s.c):=st 2 (by omega)
 have r3:rdO Tryz.prog 99 w2 hb 3=some (u32 s.d):=st 3 (by omega)
 have r4:rdO Tryz.prog 99 w2 hb 4=some (u32 s.e):=st 4 (by omega)
 have r5:rdO Tryz.prog 99 w2 hb 5=some (u32 s.f):=st 5 (by omega)
 have r6:rdO Tryz.prog 99 w2 hb 6=some (u32 s.g):=st 6 (by omega)
 have r7:rdO Tryz.prog 99 w2 hb 7=some (u32 s.h):=st 7 (by omega)
 simp -implicitDefEqProofs only[go_sem,Nat.reduceEqDiff,Nat.reduceBEq,d1,x0,x1,x2,x3,x4,x5,x6,x7,and_self,Int.reduceToNat,Nat.mul_one,Nat.zero_mul,r0,r1,r2,r3,r4,r5,r6,r7]
 refine loopD [0,4,11,12,13,14,15,16,17,18,146] (pI3 w0 ws s hb (hC s.list r k t)) 64 ⟨0,s,rfl,rfl,by omega,rfl,l0,l1,f2.drew⟩ ?_
 rintro _ vs w3 g3 ⟨i,V,hV,rfl,hi,rfl,k0,k1,f3⟩
 clear r0 r1 r2 r3 r4 r5 r6 r7 st
 by_cases hlt:i<64
 ·have d1:decide ((i:Int)<64)=true:=by simp;omega
  have y:(0:Int)≤(i:Int)∧(i:Int)<((64:Nat):Int):=by omega
  have rk:rdO Tryz.prog 99 w3 4 i=some (u32 (ktab.getD i 0)):=by
   have:=ht.k2 i hlt
   exact rd_rc Tryz.agg99 (by rw[f3.rc (rc_lt this) id];exact this)
  have rw_:rdO Tryz.prog 99 w3 w0.heap.size i=some (u32 (ws.getD i 0)):=rd1 Tryz.agg99 k1 (wl_at (by omega))
  have hr:rnds ws s (i+1)=rnd V (ktab.getD i 0) (ws.getD i 0):=by rw[hV];rfl
  have c1:IntKind.i64.wrap ((i:Int)+1)=((i+1:Nat):Int):=i64add (b:=1) (by omega)
  clear hV
  generalize ktab.getD i 0=kk at rk hr
  generalize ws.getD i 0=wk at rw_ hr
  simp -implicitDefEqProofs only[go_sem,Nat.reduceEqDiff,Nat.reduceBEq,d1]
  refine den_ext (fun j=>j == 2 || j == 4 || j == 7) [18,19,20,22,23,24,0,1,2,3,4,5,6,7,8,9,10,11,12,13,14,15,16,17,21,25,26] rfl (by kernel_rfl) (by kernel_rfl) ?_
  simp -implicitDefEqProofs only[go_sem,Nat.reduceEqDiff,gLa,gLz,gLs,y,and_self,Int.toNat_natCast,Nat.mul_one,rk,rw_]
  refine contLX_call Tryz.pl222 ((rotl _ V.e 6 (by omega) (by omega)).mono ?_);rintro _ _ ⟨rfl,rfl⟩
  refine⟨fun _=>Ext.refl _,?_⟩
  simp -implicitDefEqProofs only[go_sem,Nat.reduceEqDiff,gLa,gLz,gLs]
  refine contLX_call Tryz.pl222 ((rotl _ V.e 11 (by omega) (by omega)).mono ?_);rintro _ _ ⟨rfl,rfl⟩
  refine⟨fun _=>Ext.refl _,?_⟩
  simp -implicitDefEqProofs only[go_sem,Nat.reduceEqDiff,gLa,gLz,gLs,xor32]
  refine contLX_call Tryz.pl222 ((rotl _ V.e 25 (by omega) (by omega)).mono ?_);rintro _ _ ⟨rfl,rfl⟩
  refine⟨fun _=>Ext.refl _,?_⟩
  simp -implicitDefEqProofs only[go_sem,Nat.reduceEqDiff,gLa,gLz,gLs,xor32,and32,add32]
  refine contL_call Tryz.pl222 ((rotl _ V.a 2 (by omega) (by omega)).mono ?_);rintro _ _ ⟨rfl,rfl⟩
  simp -implicitDefEqProofs only[go_sem,Nat.reduceEqDiff]
  refine contL_call Tryz.pl222 ((rotl _ V.a 13 (by omega) (by omega)).mono ?_);rintro _ _ ⟨rfl,rfl⟩
  simp -implicitDefEqProofs only[go_sem,Nat.reduceEqDiff,xor32]
  refine contL_call Tryz.pl222 ((rotl _ V.a 22 (by omega) (by omega)).mono ?_);rintro _ _ ⟨rfl,rfl⟩
  simp -implicitDefEqProofs only[go_sem,Nat.reduceEqDiff,xor32,and32,or32,add32,c1]
  refine⟨64 - (i+1),by omega,i+1,rnd V kk wk,hr.symm,?_,by omega,rfl,k0,k1,f3.drew⟩
  have e1:V.h+(rotr V.e 6 ^^^ rotr V.e 11 ^^^ rotr V.e 25)+(V.g ^^^ (V.e &&& (V.f ^^^ V.g)))+kk+wk=Sha.one V kk wk:=by rw[pick_eq];rfl
  have e2:(rotr V.a 2 ^^^ rotr V.a 13 ^^^ rotr V.a 22)+(V.a &&& V.b ||| V.c &&& (V.a ||| V.b))=high0 V.a+most V.a V.b V.c:=by rw[most_eq];rfl
  rw[e1,e2,rnd_a]
  rfl
 have d1:decide ((i:Int)<64)=false:=by simp;omega
 have e:i=64:=by omega
 subst e
 rw[hT] at hV
 subst hV
 rw[← mixL_zero s V] at k0
 simp -implicitDefEqProofs only[go_sem,Nat.reduceEqDiff,d1,bld8]
 refine loopD [0,214,215] (pI4 w0 s V hb r k t) 8 ⟨0,rfl,by omega,rfl,k0,f3.mono fun _ _ h=>h.elim⟩ ?_
 rintro _ vs w4 g4 ⟨i,rfl,hi,rfl,l0,f4⟩
 by_cases hlt:i<8
 ·have d1:decide ((i:Int)<8)=true:=by simp;omega
  have y:(0:Int)≤(i:Int)∧(i:Int)<((8:Nat):Int):=by omega
  have c1:IntKind.i64.wrap ((i:Int)+1)=((i+1:Nat):Int):=i64add (b:=1) (by omega)
  have r1:rdO Tryz.prog 99 w4 hb i=some (u32 (s.list.getD i 0)):=by
   rw[← mixL_getD s.list V.list hlt];exact rd1 Tryz.agg99 l0 (hC_w (by rw[mixL_len];exact hlt))
  have p1:partO Tryz.prog 99 (wl V.list) i=some (u32 (V.list.getD i 0)):=by
   simp only[partO,Tryz.agg99];exact wl_at hlt
  have q:=wr1 (P:=Tryz.prog) (t:=99) (w:=w4.drew) (v:=u32 (s.list.getD i 0+V.list.getD i 0)) (o:=i) Tryz.sz99 rfl l0 (by rw[hC_size,mixL_len];omega)
  rw[hC_setw _ _ (by rw[mixL_len];exact hlt),mixL_set _ _ hlt] at q
  generalize s.list.getD i 0=t1 at r1 q
  generalize V.list.getD i 0=s1 at p1 q
  simp -implicitDefEqProofs only[go_sem,Nat.reduceEqDiff,Nat.reduceBEq,d1,y,and_self,Int.toNat_natCast,Nat.mul_one,r1,p1,add32,q,c1]
  exact⟨8 - (i+1),by omega,i+1,rfl,by omega,rfl,put_at l0,f4.drew.put (b:=hb) _ fun _=>rfl⟩
 have d1:decide ((i:Int)<8)=false:=by simp;omega
 have e:i=8:=by omega
 subst e
 rw[mixL_all,hR] at l0
 simp -implicitDefEqProofs only[go_sem,Nat.reduceEqDiff,d1]
 exact⟨l0,f4⟩
end Go.V
end
