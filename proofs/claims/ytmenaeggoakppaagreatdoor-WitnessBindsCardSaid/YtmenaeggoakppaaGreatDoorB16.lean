/-
 Helpers: ShaWrite, ShaSum.
-/
import Derived.Test.YtmenaeggoakppaaGreatDoorB15
set_option linter.all false
section
namespace Go.V
open Go.Proofs Sha
set_option maxRecDepth 100000
theorem cut_blk {a:Option Addr} {n cap l n' cap' b:Nat} (h:blockOf (.slice (if cap=l then a else a.map (fun (q:Addr)=>q.add (l*1))) n' cap')=some b):blockOf (.slice a n cap)=some b:=by
 split at h
 ·cases a with
  | none=>cases h
  | some q=>exact h
 ·cases a with
  | none=>cases h
  | some q =>
   simp only[Option.map_some,blockOf,Option.some.injEq] at h ⊢
   rw[← h];unfold Addr.add;split <;> rfl
theorem By.fr' {F:Nat→Prop} {w w':World} {v:Value} {bs:List Byte} (h:By w v bs) (k:Fr F w w') (hf:bs≠[]→∀ b,blockOf v=some b→¬ F b):By w' v bs:=by
 by_cases he:bs=[]
 ·subst he
  obtain⟨h1,a,cap,rfl,h2,_⟩:=h
  exact⟨h1,a,cap,rfl,h2,fun h=>by simp at h⟩
 ·exact h.fr k fun b hb _=>hf he b hb
def wrI (w0:World) (bs:List Byte) (s:S8) (hb:Nat) (r:List Byte) (k t:Nat) (n:Nat) (vs:List Value) (w:World):Prop :=
 ∃ i pv,vs=[pt hb 0,pv]∧64*i≤bs.length∧n=bs.length / 64 - i∧By w pv (bs.drop (64*i))∧(bs.drop (64*i)≠[]→∀ b,blockOf pv=some b→b≠hb) ∧
  w.heap[hb]?=some (.cells (hC (blocks i bs s).list r k t) 289 (0,0))∧Fr (fun b=>b=hb) w0 w
/-- what a Write leaves -/
structure Wrote (w0 w':World) (hb:Nat) (s:S8) (all:List Byte) (t:Nat):Prop where
 ex:∃ r',r'.length=64∧r'.take (all.length % 64)=all.drop (64*(all.length / 64))∧w'.heap[hb]?=some (.cells (hC (blocks (all.length / 64) all s).list r' (all.length % 64) t) 289 (0,0))
 fr:Fr (fun b=>b=hb) w0 w'
theorem S8_len (s:S8):s.list.length=8:=rfl
theorem wr_e5 (r b:List Byte):(r.take 0++b.drop (64*(b.length / 64))++r.drop (b.drop (64*(b.length / 64))).length).take (b.length % 64)=b.drop (64*(b.length / 64)):=by
 have h:(b.drop (64*(b.length / 64))).length=b.length % 64:=by rw[List.length_drop];omega
 generalize b.drop (64*(b.length / 64))=x at *
 rw[List.take_zero,List.nil_append,← h,List.take_left]
theorem wr_e6 (r b:List Byte) (hr:r.length=64):(r++b).drop (64*(b.length / 64+1))=b.drop (64*(b.length / 64)):=by
 rw[List.drop_append,List.drop_of_length_le (by omega),List.nil_append]
 congr 1;omega
set_option maxHeartbeats 4000000 in
theorem write (w0 : World) (ht : Tabs w0) {hb : Nat} {s : S8} {r : List Byte} {n t : Nat} (h5 : 5 ≤ hb) (hh : w0.heap[hb]? = some (.cells (hC s.list r n t) 289 (0, 0))) (hr : r.length = 64) (hn : n < 64)
    {pv : Value} {bs : List Byte} (hp : By w0 pv bs) (hne : bs ≠ [] → ∀ b,blockOf pv = some b → b ≠ hb) (hl : bs.length ≤ 2199023255552) (htb : t + bs.length < 2 ^ 61) :
    Fn Tryz.prog 204 #[pt hb 0,pv] w0 fun v w' => v = .tuple #[] ∧ Wrote w0 w' hb s (r.take n ++ bs) (t + bs.length) := by
 have hL:=S8_len s
 refine Tryz.go204 (by simp) ?_
 obtain⟨a,cap,rfl,hcap,_⟩:=hp.at
 have r73:rdO Tryz.prog 168 w0 hb 73=some (.int .u64 (t:Nat)):=rd1 Tryz.agg168 hh (hC_t hL hr)
 have a1:IntKind.u64.wrap ((bs.length:Nat):Int)=((bs.length:Nat):Int):=by rw[wrap_u64];omega
 have a2:IntKind.u64.wrap (((t:Nat):Int)+((bs.length:Nat):Int))=((t+bs.length:Nat):Int):=by rw[wrap_u64];omega
 have q73:=wr1 (P:=Tryz.prog) (t:=168) (v:=.int .u64 ((t+bs.length:Nat):Int)) (o:=73) Tryz.sz168 rfl hh (by rw[hC_size,hL,hr];omega)
 rw[hC_sett hL hr] at q73
 have h1:=put_at (o:=.cells (hC s.list r n (t+bs.length)) 289 (0,0)) hh
 have f1:Fr (fun b=>b=hb) w0 (put w0 hb (.cells (hC s.list r n (t+bs.length)) 289 (0,0))):=(Fr.refl _ _).put (b:=hb) _ fun _=>rfl
 have hp1:=hp.fr' f1 hne
 generalize t+bs.length=t' at *
 clear htb
 have n640:((64:Nat)=0)=False:=by simp
 by_cases hn0:n=0
 ·subst hn0
  have d1:decide (((0:Nat):Int) > 0)=false:=rfl
  have r72:rdO Tryz.prog 3 (put w0 hb (.cells (hC s.list r 0 t') 289 (0,0))) hb 72=some (.int .i64 ((0:Nat):Int)):=rd1 Tryz.agg3 h1 (hC_n hL hr)
  simp -implicitDefEqProofs only[go_sem,Nat.reduceEqDiff,Nat.reduceAdd,Tryz.f204,r73,a1,a2,q73,r72,d1]
  refine loopD [0,1] (wrI w0 bs s hb r 0 t') (bs.length / 64) ⟨0,_,rfl,by omega,rfl,by rw[Nat.mul_zero,List.drop_zero];exact hp1,by rw[Nat.mul_zero,List.drop_zero];exact hne,h1,f1⟩ ?_
  rintro _ vs w2 g ⟨i,pv,rfl,hi,rfl,hp2,hne2,h2,f2⟩
  obtain⟨a2,cap2,rfl,hcap2,hat2⟩:=hp2.at
  by_cases hlt:64*i+64≤bs.length
  ·have hdl:(bs.drop (64*i)).length=bs.length - 64*i:=List.length_drop
   have d1:decide ((((bs.drop (64*i)).length:Nat):Int) ≥ 64)=true:=by rw[hdl];simp;omega
   obtain⟨b,o,rfl,_⟩:=hat2 0 (by omega)
   have hc0:¬ cap2=0:=by omega
   have sb1:sbO (.int .i64 64) cap2=some 64:=by simp only[sbO];rw[if_pos (by omega)];rfl
   have sb2:sbO (.int .i64 64) (bs.drop (64*i)).length=some 64:=by simp only[sbO];rw[if_pos (by omega)];rfl
   have hm:∀ j,j<64→rc w2 b (o+j)=some (u8 (((bs.drop (64*i)).take 64).getD j 0)):=fun j hj=>by
    obtain⟨b',o',e,h'⟩:=hat2 j (by omega)
    cases e
    rw[h',getD_lt 0 (by rw[List.length_take,List.length_drop];omega)]
    simp
   have hbs:=blocks_succ i bs s
   obtain⟨Q1,hQ1⟩:∃ Q1,Q1=blocks i bs s:=⟨_,rfl⟩
   rw[← hQ1] at h2 hbs
   have hcut:=By.cut (l:=64) (m:=(bs.drop (64*i)).length) hp2 (by omega) (Nat.le_refl _) rfl _ rfl
   have hcb:=fun b' (h:blockOf (.slice (if cap2=64 then some ⟨b,o,none⟩ else Option.map (fun (q:Addr)=>q.add (64*1)) (some ⟨b,o,none⟩)) ((bs.drop (64*i)).length - 64) (cap2 - 64))=some b')=>hne2 (fun e=>by rw[e] at hdl;simp at hdl;omega) b' (cut_blk h)
   have hdd:((bs.drop (64*i)).drop 64).take ((bs.drop (64*i)).length - 64)=bs.drop (64*(i+1)):=by
    rw[List.drop_drop,show 64*i+64=64*(i+1) by omega]
    exact List.take_of_length_le (by simp only[List.length_drop];omega)
   rw[hdd] at hcut
   generalize hM:(bs.drop (64*i)).take 64=M at hm hbs
   obtain⟨ws,hws⟩:∃ ws,words M=ws:=⟨_,rfl⟩
   obtain⟨T,hT⟩:∃ T,rnds ws Q1 64=T:=⟨_,rfl⟩
   obtain⟨R,hR⟩:∃ R,plus Q1 T=R:=⟨_,rfl⟩
   have hc:blocks (i+1) bs s=R:=by rw[hbs];exact comp_is (by rw[hws];exact hT) hR
   simp -implicitDefEqProofs only[go_sem,Nat.reduceEqDiff,d1,sliceP,optB,sb1,hc0,Nat.zero_mul,add_off,Nat.sub_zero]
   refine contL_call Tryz.pl220 ((step w2 (ht.fr f2 fun b h e=>by omega) h2 (Nat.le_refl 64) hm hws hT hR).mono ?_);rintro _ w3 ⟨rfl,h3,f3⟩
   simp -implicitDefEqProofs only[go_sem,Nat.reduceEqDiff,sliceP,optB,sb2]
   refine⟨bs.length / 64 - (i+1),by omega,i+1,_,rfl,by omega,rfl,?_,fun _=>hcb,by rw[hc];exact h3,f2.trans f3⟩
   refine By.fr ?_ f3 fun b' h _=>hcb b' h
   have e1:bs.drop (64*(i+1))=bs.drop (64*(i+1)):=rfl
   exact hcut
  ·have hdl:(bs.drop (64*i)).length=bs.length - 64*i:=List.length_drop
   have d1:decide ((((bs.drop (64*i)).length:Nat):Int) ≥ 64)=false:=by rw[hdl];simp;omega
   have ei:i=bs.length / 64:=by omega
   have em:bs.length - 64*i=bs.length % 64:=by omega
   have hrun:=run_copy (P:=Tryz.prog) (ts:=#[25,25]) (t:=25) rfl Tryz.slc25 Tryz.sz5 (w:=w2) (b:=hb) (o:=8) (dn:=64) (dc:=64) h2 hp2 (u8s_one _) (by rw[hC_size,S8_len];omega)
   have hmin:min (bs.drop (64*i)).length 64=bs.length % 64:=by omega
   rw[hmin,Nat.mul_one,List.take_of_length_le (by rw[List.length_map];omega),show (8:Nat)=8+0 from rfl,hC_store (S8_len _) _ 0 (by omega),Nat.add_zero] at hrun
   have q72:=fun (L:List W32) (r':List Byte) (hL:L.length=8) (hr':r'.length=64)=>wr1 (P:=Tryz.prog) (t:=3) (w:=put w2 hb (.cells (hC L r' 0 t') 289 (0,0))) (v:=.int .i64 ((bs.length % 64:Nat):Int)) (o:=72) Tryz.sz3 rfl (put_at h2) (by rw[hC_size,hL,hr'];omega)
   have hr'':(r.take 0++bs.drop (64*i)++r.drop (bs.drop (64*i)).length).length=64:=by simp only[List.length_append,List.length_take,List.length_drop];omega
   have q:=q72 _ _ (S8_len (blocks i bs s)) hr''
   rw[hC_setn (S8_len _) hr'',put_put] at q
   simp -implicitDefEqProofs only[go_sem,Nat.reduceEqDiff,Nat.reduceAdd,d1,sliceP,n640,Nat.zero_mul,add_off,Nat.sub_zero,optB]
   refine contL_sem ⟨_,_,hrun,?_⟩
   simp -implicitDefEqProofs only[go_sem,Nat.reduceEqDiff,Nat.reduceAdd,q]
   subst ei
   rw[show List.take 0 r++bs=bs by simp]
   refine⟨⟨_,hr'',?_,put_at h2⟩,f2.put (b:=hb) _ fun _=>rfl⟩
   rw[List.take_zero,List.nil_append,List.take_append_of_le_length (by omega),List.take_of_length_le (by omega)]
 ·have d1:decide (((n:Nat):Int) > 0)=true:=by simp;omega
  have r72:rdO Tryz.prog 3 (put w0 hb (.cells (hC s.list r n t') 289 (0,0))) hb 72=some (.int .i64 ((n:Nat):Int)):=rd1 Tryz.agg3 h1 (hC_n hL hr)
  have sb1:sbO (.int .i64 ((n:Nat):Int)) 64=some n:=by simp only[sbO];rw[if_pos (by omega),Int.toNat_natCast]
  have hnn:((64:Nat)=n)=False:=by simp;omega
  have hrun:=run_copy (P:=Tryz.prog) (ts:=#[25,25]) (t:=25) rfl Tryz.slc25 Tryz.sz5 (w:=(put w0 hb (.cells (hC s.list r n t') 289 (0,0))).drew) (b:=hb) (o:=8+n) (dn:=64 - n) (dc:=64 - n) h1 hp1 (u8s_one _) (by rw[hC_size,hL];omega)
  obtain⟨cnt,hcnt⟩:∃ cnt,cnt=min bs.length (64 - n):=⟨_,rfl⟩
  rw[← hcnt,Nat.mul_one,← List.map_take,hC_store hL _ n (by rw[List.length_take];omega)] at hrun
  have hl1:(bs.take cnt).length=cnt:=by rw[List.length_take];omega
  rw[hl1] at hrun
  have hr1:(r.take n++bs.take cnt++r.drop (n+cnt)).length=64:=by simp only[List.length_append,List.length_take,List.length_drop];omega
  have hrt:(r.take n++bs.take cnt++r.drop (n+cnt)).take (n+cnt)=r.take n++bs.take cnt:=by
   have:(r.take n++bs.take cnt).length=n+cnt:=by simp only[List.length_append,List.length_take];omega
   rw[← this,List.take_left]
  generalize r.take n++bs.take cnt++r.drop (n+cnt)=r1 at hrun hr1 hrt
  have a3:IntKind.i64.wrap (((n:Nat):Int)+((cnt:Nat):Int))=((n+cnt:Nat):Int):=i64add (by omega)
  have h2:(put (put w0 hb (.cells (hC s.list r n t') 289 (0,0))).drew hb (.cells (hC s.list r1 n t') 289 (0,0))).heap[hb]?=some (.cells (hC s.list r1 n t') 289 (0,0)):=put_at h1
  have r72b:=rd1 (P:=Tryz.prog) (t:=3) (o:=72) Tryz.agg3 h2 (hC_n hL hr1)
  have q72:=wr1 (P:=Tryz.prog) (t:=3) (v:=.int .i64 ((n+cnt:Nat):Int)) (o:=72) Tryz.sz3 rfl h2 (by rw[hC_size,hL,hr1];omega)
  rw[hC_setn hL hr1,put_put] at q72
  have h3:(put (put w0 hb (.cells (hC s.list r n t') 289 (0,0))).drew hb (.cells (hC s.list r1 (n+cnt) t') 289 (0,0))).heap[hb]?=some (.cells (hC s.list r1 (n+cnt) t') 289 (0,0)):=put_at h1
  have f3:Fr (fun b=>b=hb) w0 (put (put w0 hb (.cells (hC s.list r n t') 289 (0,0))).drew hb (.cells (hC s.list r1 (n+cnt) t') 289 (0,0))):=f1.drew.put (b:=hb) _ fun _=>rfl
  have r72c:=rd1 (P:=Tryz.prog) (t:=3) (o:=72) Tryz.agg3 h3 (hC_n hL hr1)
  have sb2:sbO (.int .i64 ((cnt:Nat):Int)) bs.length=some cnt:=by simp only[sbO];rw[if_pos (by omega),Int.toNat_natCast]
  simp -implicitDefEqProofs only[go_sem,Nat.reduceEqDiff,Nat.reduceAdd,Tryz.f204,r73,a1,a2,q73,r72,d1,sliceP,optB,sb1,hnn,Nat.mul_one]
  refine contL_sem ⟨_,_,hrun,?_⟩
  have hcut:=By.cut (l:=cnt) (m:=bs.length) (hp.fr' f3 hne) (by omega) (Nat.le_refl _) rfl _ rfl
  have hcb:=fun (hx:bs.drop cnt≠[]) b' (h:blockOf (.slice (if cap=cnt then a else Option.map (fun (q:Addr)=>q.add (cnt*1)) a) (bs.length - cnt) (cap - cnt))=some b')=>hne (fun e=>hx (by rw[e,List.drop_nil])) b' (cut_blk h)
  have hdd:(bs.drop cnt).take (bs.length - cnt)=bs.drop cnt:=List.take_of_length_le (by simp only[List.length_drop];omega)
  rw[hdd] at hcut
  by_cases hlt:n+cnt<64
  ·have d2:decide (((n+cnt:Nat):Int)<64)=true:=by simp;omega
   have hc:cnt=bs.length:=by omega
   simp -implicitDefEqProofs only[go_sem,Nat.reduceEqDiff,Nat.reduceAdd,r72b,a3,q72,sliceP,optB,sb2,r72c,d2]
   have hal:(r.take n++bs).length=n+bs.length:=by simp only[List.length_append,List.length_take];omega
   have e1:(n+bs.length) / 64=0:=by omega
   have e2:(n+bs.length) % 64=n+bs.length:=by omega
   refine⟨⟨r1,hr1,?_,?_⟩,f3⟩
   ·rw[hal,e1,e2,← hc,hrt,Nat.mul_zero,List.drop_zero,hc,List.take_length]
   ·rw[hal,e1,e2,← hc];exact h3
  have d2:decide (((n+cnt:Nat):Int)<64)=false:=by simp;omega
  have hc:cnt=64 - n:=by omega
  have hnc:n+cnt=64:=by omega
  have hm:∀ j,j<64→rc (put (put w0 hb (.cells (hC s.list r n t') 289 (0,0))).drew hb (.cells (hC s.list r1 (n+cnt) t') 289 (0,0))) hb (8+j)=some (u8 (r1.getD j 0)):=fun j hj=>by
   rw[rc_of_row h3,hC_b hL (by omega)]
  obtain⟨ws,hws⟩:∃ ws,words r1=ws:=⟨_,rfl⟩
  obtain⟨T,hT⟩:∃ T,rnds ws s 64=T:=⟨_,rfl⟩
  obtain⟨R0,hR⟩:∃ R0,plus s T=R0:=⟨_,rfl⟩
  have hcomp:comp s r1=R0:=comp_is (by rw[hws];exact hT) hR
  simp -implicitDefEqProofs only[go_sem,Nat.reduceEqDiff,Nat.reduceAdd,r72b,a3,q72,sliceP,optB,sb2,r72c,d2,n640,Nat.zero_mul,Nat.sub_zero]
  refine contL_call Tryz.pl220 ((step _ (ht.fr f3 fun b h e=>by omega) h3 (Nat.le_refl 64) hm hws hT hR).mono ?_);rintro _ w4 ⟨rfl,h4,f4⟩
  have q72d:=wr1 (P:=Tryz.prog) (t:=3) (v:=.int .i64 ((0:Nat):Int)) (o:=72) Tryz.sz3 rfl h4 (by rw[hC_size,S8_len,hr1];omega)
  rw[hC_setn (S8_len R0) hr1] at q72d
  have h5':=put_at (o:=.cells (hC R0.list r1 0 t') 289 (0,0)) h4
  have f5:Fr (fun b=>b=hb) w0 (put w4 hb (.cells (hC R0.list r1 0 t') 289 (0,0))):=(f3.trans f4).put (b:=hb) _ fun _=>rfl
  have hcut5:=By.fr' hcut (f4.put (b:=hb) (.cells (hC R0.list r1 0 t') 289 (0,0)) fun _=>rfl) hcb
  simp -implicitDefEqProofs only[go_sem,Nat.reduceEqDiff,Nat.reduceAdd,Int.natCast_zero]
  have q72e:wrO Tryz.prog 3 w4 hb 72 (.int .i64 0)=some (put w4 hb (.cells (hC R0.list r1 0 t') 289 (0,0))):=q72d
  simp -implicitDefEqProofs only[go_sem,Nat.reduceEqDiff,Nat.reduceAdd,q72e]
  have hbsl:(bs.drop cnt).length=bs.length - cnt:=List.length_drop
  have hall:r.take n++bs=r1++bs.drop cnt:=by
   have e1:r1.take (n+cnt)=r1:=List.take_of_length_le (by omega)
   rw[← e1,hrt,List.append_assoc,List.take_append_drop]
  have hbl:∀ K,blocks (K+1) (r1++bs.drop cnt) s=blocks K (bs.drop cnt) R0:=fun K=>by
   rw[show K+1=1+K by omega]
   show blocksF comp (1+K) _ _=_
   rw[blocksF_add comp 1 K]
   show blocks K _ (comp s _)=_
   rw[Nat.mul_one,← hr1,List.drop_left,List.take_left,hcomp]
  have hall2:(r1++bs.drop cnt).length=64+(bs.drop cnt).length:=by rw[List.length_append,hr1]
  rw[hall]
  generalize bs.drop cnt=bs1 at *
  have hl1':bs1.length≤2199023255552:=by omega
  refine loopD [0,1] (wrI w0 bs1 R0 hb r1 0 t') (bs1.length / 64) ⟨0,_,rfl,by omega,rfl,by rw[Nat.mul_zero,List.drop_zero];exact hcut5,by rw[Nat.mul_zero,List.drop_zero];exact hcb,h5',f5⟩ ?_
  rintro _ vs w2 g ⟨i,pv,rfl,hi,rfl,hp2,hne2,h2,f2⟩
  obtain⟨a2,cap2,rfl,hcap2,hat2⟩:=hp2.at
  by_cases hlt:64*i+64≤bs1.length
  ·have hdl:(bs1.drop (64*i)).length=bs1.length - 64*i:=List.length_drop
   have d1:decide ((((bs1.drop (64*i)).length:Nat):Int) ≥ 64)=true:=by rw[hdl];simp;omega
   obtain⟨b,o,rfl,_⟩:=hat2 0 (by omega)
   have hc0:¬ cap2=0:=by omega
   have sb1:sbO (.int .i64 64) cap2=some 64:=by simp only[sbO];rw[if_pos (by omega)];rfl
   have sb2:sbO (.int .i64 64) (bs1.drop (64*i)).length=some 64:=by simp only[sbO];rw[if_pos (by omega)];rfl
   have hm:∀ j,j<64→rc w2 b (o+j)=some (u8 (((bs1.drop (64*i)).take 64).getD j 0)):=fun j hj=>by
    obtain⟨b',o',e,h'⟩:=hat2 j (by omega)
    cases e
    rw[h',getD_lt 0 (by rw[List.length_take,List.length_drop];omega)]
    simp
   have hbs:=blocks_succ i bs1 R0
   obtain⟨Q1,hQ1⟩:∃ Q1,Q1=blocks i bs1 R0:=⟨_,rfl⟩
   rw[← hQ1] at h2 hbs
   have hcut:=By.cut (l:=64) (m:=(bs1.drop (64*i)).length) hp2 (by omega) (Nat.le_refl _) rfl _ rfl
   have hcb:=fun b' (h:blockOf (.slice (if cap2=64 then some ⟨b,o,none⟩ else Option.map (fun (q:Addr)=>q.add (64*1)) (some ⟨b,o,none⟩)) ((bs1.drop (64*i)).length - 64) (cap2 - 64))=some b')=>hne2 (fun e=>by rw[e] at hdl;simp at hdl;omega) b' (cut_blk h)
   have hdd:((bs1.drop (64*i)).drop 64).take ((bs1.drop (64*i)).length - 64)=bs1.drop (64*(i+1)):=by
    rw[List.drop_drop,show 64*i+64=64*(i+1) by omega]
    exact List.take_of_length_le (by simp only[List.length_drop];omega)
   rw[hdd] at hcut
   generalize hM:(bs1.drop (64*i)).take 64=M at hm hbs
   obtain⟨ws,hws⟩:∃ ws,words M=ws:=⟨_,rfl⟩
   obtain⟨T,hT⟩:∃ T,rnds ws Q1 64=T:=⟨_,rfl⟩
   obtain⟨R,hR⟩:∃ R,plus Q1 T=R:=⟨_,rfl⟩
   have hc:blocks (i+1) bs1 R0=R:=by rw[hbs];exact comp_is (by rw[hws];exact hT) hR
   simp -implicitDefEqProofs only[go_sem,Nat.reduceEqDiff,d1,sliceP,optB,sb1,hc0,Nat.zero_mul,add_off,Nat.sub_zero]
   refine contL_call Tryz.pl220 ((step w2 (ht.fr f2 fun b h e=>by omega) h2 (Nat.le_refl 64) hm hws hT hR).mono ?_);rintro _ w3 ⟨rfl,h3,f3⟩
   simp -implicitDefEqProofs only[go_sem,Nat.reduceEqDiff,sliceP,optB,sb2]
   refine⟨bs1.length / 64 - (i+1),by omega,i+1,_,rfl,by omega,rfl,?_,fun _=>hcb,by rw[hc];exact h3,f2.trans f3⟩
   refine By.fr ?_ f3 fun b' h _=>hcb b' h
   have e1:bs1.drop (64*(i+1))=bs1.drop (64*(i+1)):=rfl
   exact hcut
  ·have hdl:(bs1.drop (64*i)).length=bs1.length - 64*i:=List.length_drop
   have d1:decide ((((bs1.drop (64*i)).length:Nat):Int) ≥ 64)=false:=by rw[hdl];simp;omega
   have ei:i=bs1.length / 64:=by omega
   have em:bs1.length - 64*i=bs1.length % 64:=by omega
   have hrun:=run_copy (P:=Tryz.prog) (ts:=#[25,25]) (t:=25) rfl Tryz.slc25 Tryz.sz5 (w:=w2) (b:=hb) (o:=8) (dn:=64) (dc:=64) h2 hp2 (u8s_one _) (by rw[hC_size,S8_len];omega)
   have hmin:min (bs1.drop (64*i)).length 64=bs1.length % 64:=by omega
   rw[hmin,Nat.mul_one,List.take_of_length_le (by rw[List.length_map];omega),show (8:Nat)=8+0 from rfl,hC_store (S8_len _) _ 0 (by omega),Nat.add_zero] at hrun
   have q72:=fun (L:List W32) (r':List Byte) (hL:L.length=8) (hr':r'.length=64)=>wr1 (P:=Tryz.prog) (t:=3) (w:=put w2 hb (.cells (hC L r' 0 t') 289 (0,0))) (v:=.int .i64 ((bs1.length % 64:Nat):Int)) (o:=72) Tryz.sz3 rfl (put_at h2) (by rw[hC_size,hL,hr'];omega)
   have hr'':(r1.take 0++bs1.drop (64*i)++r1.drop (bs1.drop (64*i)).length).length=64:=by simp only[List.length_append,List.length_take,List.length_drop];omega
   have q:=q72 _ _ (S8_len (blocks i bs1 R0)) hr''
   rw[hC_setn (S8_len _) hr'',put_put] at q
   simp -implicitDefEqProofs only[go_sem,Nat.reduceEqDiff,Nat.reduceAdd,d1,sliceP,n640,Nat.zero_mul,add_off,Nat.sub_zero,optB]
   refine contL_sem ⟨_,_,hrun,?_⟩
   simp -implicitDefEqProofs only[go_sem,Nat.reduceEqDiff,Nat.reduceAdd,q]
   subst ei
   have e3:(64+bs1.length) / 64=bs1.length / 64+1:=by omega
   have e4:(64+bs1.length) % 64=bs1.length % 64:=by omega
   refine⟨⟨_,hr'',?_,?_⟩,f2.put (b:=hb) _ fun _=>rfl⟩
   ·rw[hall2,e3,e4]
    exact (wr_e5 r1 bs1).trans (wr_e6 r1 bs1 hr1).symm
   ·rw[hall2,e3,e4,hbl];exact put_at h2
end Go.V
end
section
namespace Go.V
open Go.Proofs Sha
set_option maxRecDepth 100000
/-- a hasher that has taken a text -/
def Took (w:World) (hb:Nat) (all:List Byte):Prop :=
 ∃ r,r.length=64∧r.take (all.length % 64)=all.drop (64*(all.length / 64))∧w.heap[hb]?=some (.cells (hC (blocks (all.length / 64) all init).list r (all.length % 64) all.length) 289 (0,0))
theorem out_idx (s:S8) (i j:Nat) (hi:i<8) (hj:j<4):outAt s (4*i+j)=((s.list.getD i 0) >>> (24 - 8*j)).setWidth 8:=by
 unfold outAt
 rw[show (4*i+j) / 4=i by omega,show (4*i+j) % 4=j by omega]
def mI1 (w0:World) (W:World) (N b1 b2:Nat) (L:Nat) (n:Nat) (vs:List Value) (w:World):Prop :=
 ∃ i,vs=[pt w0.heap.size 0,pt b1 0,.int .u64 ((BitVec.ofNat 64 (8*L)).toNat:Nat),pt b2 0,.int .i64 (N+1:Nat),.int .i64 (i:Nat)]∧i≤8∧n=8 - i ∧
  w.heap[b2]?=some (.cells (bl (padTo 0 128 (128::List.replicate N 0++(len8 L).take i))) 301 (0,0))∧Fr (fun b=>b=b2) W w
def mI2 (w0:World) (W:World) (S:S8) (b3:Nat) (n:Nat) (vs:List Value) (w:World):Prop :=
 ∃ i,vs=[pt w0.heap.size 0,pt b3 0,.agg (wl S.list),.int .i64 (i:Nat)]∧i≤8∧n=8 - i∧w.heap[b3]?=some (.cells (bl (padTo 0 32 ((out S).take (4*i)))) 23 (0,0))∧Fr (fun b=>b=b3) W w
theorem hC_whole {t : TypeId} {w : World} {b : Nat} {L : List W32} {r : List Byte} {n k : Nat} {e : TypeId} {fz : Nat × Nat} (ha : aggO Tryz.prog t = some true) (hs : szO Tryz.prog t = some 74) (hL : L.length = 8) (hr : r.length = 64) (h : w.heap[b]? = some (.cells (hC L r n k) e fz)) :
    rdO Tryz.prog t w b 0 = some (.agg (hC L r n k)) :=
 rds ha hs h (by rw[hC_size,hL,hr]) (by omega) fun i _=>by rw[Nat.zero_add]
theorem hC_one {L:List W32} {r:List Byte} {n k:Nat}:(hC L r n k).all one=true:=by rw[← Array.all_toList];simp[hC,one]
theorem pad_take (N L i:Nat) (hN:N<64) (hi:i≤8):(128::List.replicate N 0++(len8 L).take i).length=N+1+i:=by
 simp[len8_len];omega
theorem zeroH:(#[.int .u32 0,.int .u32 0,.int .u32 0,.int .u32 0,.int .u32 0,.int .u32 0,.int .u32 0,.int .u32 0]++bl (List.replicate 64 0)++#[.int .i64 0,.int .u64 0]:Array Value)=hC (List.replicate 8 0) (List.replicate 64 0) 0 0:=by
 apply Array.toList_inj.1;rfl
theorem len8_zero (N L:Nat) (h:N<64):padTo (0:Byte) 128 [128]=padTo 0 128 (128::List.replicate N 0++(len8 L).take 0):=by
 have e:∀ k:Nat,k≤127→∀ j,j≤k→List.replicate k (0:Byte)=List.replicate j 0++List.replicate (k - j) 0:=fun k hk j hj=>by
  rw[List.replicate_append_replicate];congr 1;omega
 simp only[padTo,List.take_zero,List.append_nil,List.length_cons,List.length_replicate,List.length_nil,List.cons_append,List.nil_append]
 rw[e (128 - (0+1)) (by omega) N (by omega),show 128 - (0+1) - N=128 - (N+1) by omega]
set_option maxHeartbeats 4000000 in
theorem hsum (w0 : World) (ht : Tabs w0) {hb : Nat} {all : List Byte} (hl : all.length ≤ 1099511627776) (hh : Took w0 hb all) :
    Fn Tryz.prog 205 #[pt hb 0] w0 fun v w' => v = dg (Sha.sum all) ∧ No w0 w' := by
 obtain⟨r,hr,hrt,hh⟩:=hh
 have hbl:=heap_lt hh
 refine Tryz.go205 (by simp) ?_
 obtain⟨S0,hS0⟩:∃ S0,S0=blocks (all.length / 64) all init:=⟨_,rfl⟩
 rw[← hS0] at hh
 have hL:=S8_len S0
 have f1:No w0 (w0.alloc (.cells (bl (List.replicate 32 0)) 23)):=(Fr.refl _ _).alloc _
 have h1:=f1.at hh id
 have k1:(w0.alloc (.cells (bl (List.replicate 32 0)) 23)).heap[w0.heap.size]?=some (.cells (bl (List.replicate 32 0)) 23 (0,0)):=alloc_blk_new _ _
 have r1:=hC_whole Tryz.agg289 Tryz.sz289 hL hr h1
 have z1:(w0.alloc (.cells (bl (List.replicate 32 0)) 23)).heap.size=w0.heap.size+1:=alloc_heap_size _ _
 simp -implicitDefEqProofs only[go_sem,Nat.reduceEqDiff,Tryz.f205,Value.cells,bl_zero]
 generalize w0.alloc (.cells (bl (List.replicate 32 0)) 23)=W1 at *
 obtain⟨K,hK⟩:∃ K,K=all.length / 64:=⟨_,rfl⟩
 obtain⟨nn,hnn⟩:∃ nn,nn=all.length % 64:=⟨_,rfl⟩
 obtain⟨L,hLl⟩:∃ L,L=all.length:=⟨_,rfl⟩
 rw[← hnn,← hLl] at r1 h1
 have q1:=wr_all (P:=Tryz.prog) (t:=289) (w:=W1.alloc (.cells (hC (List.replicate 8 0) (List.replicate 64 0) 0 0) 289)) (b:=w0.heap.size+1) (vs:=hC S0.list r nn L) (by rw[hC_size,hL,hr];exact Tryz.sz289)
  (by rw[← z1];exact alloc_blk_new _ _) (by rw[hC_size,hC_size,hL,hr];simp) hC_one
 have h2:(put (W1.alloc (.cells (hC (List.replicate 8 0) (List.replicate 64 0) 0 0) 289)) (w0.heap.size+1) (.cells (hC S0.list r nn L) 289 (0,0))).heap[w0.heap.size+1]?=some (.cells (hC S0.list r nn L) 289 (0,0)):=by
  rw[← z1];exact put_at (alloc_blk_new _ _)
 have k2:(put (W1.alloc (.cells (hC (List.replicate 8 0) (List.replicate 64 0) 0 0) 289)) (w0.heap.size+1) (.cells (hC S0.list r nn L) 289 (0,0))).heap[w0.heap.size]?=some (.cells (bl (List.replicate 32 0)) 23 (0,0)) :=
  put_off (alloc_at k1) (by omega)
 have f2:No w0 (put (W1.alloc (.cells (hC (List.replicate 8 0) (List.replicate 64 0) 0 0) 289)) (w0.heap.size+1) (.cells (hC S0.list r nn L) 289 (0,0))):=(f1.alloc _).put (b:=w0.heap.size+1) _ fun h=>by omega
 have z2:(put (W1.alloc (.cells (hC (List.replicate 8 0) (List.replicate 64 0) 0 0) 289)) (w0.heap.size+1) (.cells (hC S0.list r nn L) 289 (0,0))).heap.size=w0.heap.size+1+1:=by
  rw[put_heap_size,alloc_heap_size,z1]
 simp -implicitDefEqProofs only[go_sem,Nat.reduceEqDiff,Value.cells,bl_zero,r1,z1,zeroH,q1]
 generalize put (W1.alloc (.cells (hC (List.replicate 8 0) (List.replicate 64 0) 0 0) 289)) (w0.heap.size+1) (.cells (hC S0.list r nn L) 289 (0,0))=W2 at *
 have r73:rdO Tryz.prog 168 W2 (w0.heap.size+1) 73=some (.int .u64 (L:Nat)):=rd1 Tryz.agg168 h2 (hC_t hL hr)
 have a1:IntKind.u64.wrap (((L:Nat):Int)*8)=((BitVec.ofNat 64 (8*L)).toNat:Int):=by
  rw[wrap_u64,BitVec.toNat_ofNat];omega
 have f3:No W2 (W2.alloc (.cells (bl (List.replicate 128 0)) 301)):=(Fr.refl _ _).alloc _
 have h3:=f3.at h2 id
 have k3:=f3.at k2 id
 have q2:=wr1 (P:=Tryz.prog) (t:=5) (w:=W2.alloc (.cells (bl (List.replicate 128 0)) 301)) (b:=w0.heap.size+1+1) (v:=u8 128) (o:=0) Tryz.sz5 rfl (by rw[← z2];exact alloc_blk_new _ _) (by rw[bl_size];simp)
 rw[bl_set,show (List.replicate 128 (0:Byte)).set 0 128=padTo 0 128 [128] from rfl] at q2
 have x0:(0:Int)≤0∧(0:Int)<((128:Nat):Int):=by decide
 simp -implicitDefEqProofs only[go_sem,Nat.reduceEqDiff,Nat.reduceAdd,Value.cells,bl_zero,r73,a1,z2,x0,and_self,Int.reduceToNat,Nat.zero_mul]
 replace q2:wrO Tryz.prog 5 (W2.alloc (.cells (bl (List.replicate 128 0)) 301)) (w0.heap.size+1+1) 0 (.int .u8 128)=some (put (W2.alloc (.cells (bl (List.replicate 128 0)) 301)) (w0.heap.size+1+1) (.cells (bl (padTo 0 128 [128])) 301 (0,0))):=q2
 simp -implicitDefEqProofs only[go_sem,Nat.reduceEqDiff,q2]
 have hN:fill L<64:=by unfold fill;omega
 have hfN:fill L=(119 - nn) % 64:=by unfold fill;rw[hnn,← hLl]
 rw[len8_zero (fill L) L hN] at q2 ⊢
 have h4:=put_at (o:=.cells (bl (padTo 0 128 (128::List.replicate (fill L) 0++(len8 L).take 0))) 301 (0,0)) (show (W2.alloc (.cells (bl (List.replicate 128 0)) 301)).heap[w0.heap.size+1+1]?=_ by rw[← z2];exact alloc_blk_new _ _)
 have g4:Fr (fun b=>b=w0.heap.size+1+1) (W2.alloc (.cells (bl (List.replicate 128 0)) 301)) (put (W2.alloc (.cells (bl (List.replicate 128 0)) 301)) (w0.heap.size+1+1) (.cells (bl (padTo 0 128 (128::List.replicate (fill L) 0++(len8 L).take 0))) 301 (0,0))) :=
  (Fr.refl _ _).put _ fun _=>rfl
 generalize hW4:W2.alloc (.cells (bl (List.replicate 128 0)) 301)=W3 at *
 generalize put W3 (w0.heap.size+1+1) (.cells (bl (padTo 0 128 (128::List.replicate (fill L) 0++(len8 L).take 0))) 301 (0,0))=W4 at *
 have r72:rdO Tryz.prog 3 W4 (w0.heap.size+1) 72=some (.int .i64 (nn:Nat)):=rd1 Tryz.agg3 (g4.at h3 (by omega)) (hC_n hL hr)
 have n0:((64:Int)=0)=False:=by simp
 have a2:((nn:Nat):Int).tmod 64=(nn:Nat):=by
  rw[show ((nn:Nat):Int).tmod 64=((nn % 64:Nat):Int) from rfl];omega
 have a3:IntKind.i64.wrap (119 - ((nn:Nat):Int))=((119 - nn:Nat):Int):=i64sub (a:=119) (b:=nn) (by omega) (by omega)
 have a4:((119 - nn:Nat):Int).tmod 64=((fill L:Nat):Int):=by
  rw[show ((119 - nn:Nat):Int).tmod 64=(((119 - nn) % 64:Nat):Int) from rfl,hfN]
 have a5:IntKind.i64.wrap (((fill L:Nat):Int)+1)=((fill L+1:Nat):Int):=i64add (b:=1) (by omega)
 simp -implicitDefEqProofs only[go_sem,Nat.reduceEqDiff,Nat.reduceAdd,r72,n0,a2,a3,a4,a5]
 refine loopD [2,3,4,5,6,24] (mI1 w0 W3 (fill L) (w0.heap.size+1) (w0.heap.size+1+1) L) 8 ⟨0,rfl,by omega,rfl,h4,g4⟩ ?_
 rintro _ vs w5 g ⟨i,rfl,hi,rfl,h5,g5⟩
 by_cases hlt:i<8
 ·have d1:decide ((i:Int)<8)=true:=by simp;omega
  have c0:IntKind.i64.wrap (((fill L+1:Nat):Int)+((i:Nat):Int))=((fill L+1+i:Nat):Int):=i64add (by omega)
  have c1:IntKind.i64.wrap (8*(i:Int))=((8*i:Nat):Int):=i64mul (a:=8) (b:=i) (by omega)
  have c2:IntKind.i64.wrap (56 - ((8*i:Nat):Int))=((56 - 8*i:Nat):Int):=i64sub (a:=56) (b:=8*i) (by omega) (by omega)
  have c4:IntKind.i64.wrap ((i:Int)+1)=((i+1:Nat):Int):=i64add (b:=1) (by omega)
  have n1:¬ (((56 - 8*i:Nat):Int)<0):=by omega
  have y:(0:Int)≤((fill L+1+i:Nat):Int)∧((fill L+1+i:Nat):Int)<((128:Nat):Int):=by omega
  have hpl:=pad_take (fill L) L i hN hi
  have q:=wr1 (P:=Tryz.prog) (t:=5) (v:=u8 (((BitVec.ofNat 64 (8*L)) >>> (56 - 8*i)).setWidth 8)) (o:=fill L+1+i) Tryz.sz5 rfl h5 (by rw[bl_size,padTo_len (by omega)];omega)
  have e1:=padTo_set (z:=(0:Byte)) (n:=128) (l:=128::List.replicate (fill L) 0++(len8 L).take i) (((BitVec.ofNat 64 (8*L)) >>> (56 - 8*i)).setWidth 8) (by omega)
  rw[hpl,List.append_assoc,take_succ_at (len8_at L hlt)] at e1
  rw[bl_set,e1] at q
  simp -implicitDefEqProofs only[go_sem,Nat.reduceEqDiff,d1,c0,c1,c2,n1,shr64 _ _ (show 56 - 8*i≤64 by omega),cut64,y,and_self,Int.toNat_natCast,Nat.mul_one,q,c4]
  exact⟨8 - (i+1),by omega,i+1,rfl,by omega,rfl,put_at h5,g5.put _ fun _=>rfl⟩
 have d1:decide ((i:Int)<8)=false:=by simp;omega
 have e:i=8:=by omega
 subst e
 have hpd:128::List.replicate (fill L) 0++(len8 L).take 8=pad L:=by rw[List.take_of_length_le (by rw[len8_len];omega)];rfl
 rw[hpd] at h5
 have hpl:(pad L).length=fill L+9:=pad_len L
 have c5:IntKind.i64.wrap (((fill L+1:Nat):Int)+8)=((fill L+9:Nat):Int):=i64add (b:=8) (by omega)
 have sb:sbO (.int .i64 ((fill L+9:Nat):Int)) 128=some (fill L+9):=by simp only[sbO];rw[if_pos (by omega),Int.toNat_natCast]
 have n128:((128:Nat)=0)=False:=by simp
 have f5:No w0 w5:=(f2.trans f3).trans' g5 fun b hb h=>by omega
 have hby:By w5 (.slice (some ⟨w0.heap.size+1+1,0,none⟩) (fill L+9) 128) (pad L):=by
  refine⟨by simp,_,_,by rw[hpl],by omega,fun _=>⟨_,_,rfl,fun j hj=>?_⟩⟩
  rw[Nat.mul_one] at hj
  rw[rc_of_row h5,Nat.zero_add,bl_at (by rw[padTo_len (by omega)];omega),padTo_getD 0 hj,List.getElem?_map,List.getElem?_eq_getElem hj,getD_lt 0 hj];rfl
 have ht5:Tabs w5:=ht.no f5
 have h5size:=ht.size
 simp -implicitDefEqProofs only[go_sem,Nat.reduceEqDiff,d1,c5,sliceP,optB,sb,n128,Nat.zero_mul,Nat.sub_zero]
 refine contL_call Tryz.pl204 ((write w5 ht5 (by omega) (g5.at h3 (by omega)) hr (by omega) hby (fun _ b hb=>by simp only[blockOf,Option.some.injEq] at hb;omega) (by omega) (by omega)).mono ?_);rintro _ w6 ⟨rfl,hw⟩
 obtain⟨⟨r',hr',_,h6⟩,g6⟩:=hw
 have hkey:(r.take nn++pad L).length=nn+(fill L+9):=by rw[List.length_append,List.length_take,hpl];omega
 have hfin:out (blocks ((r.take nn++pad L).length / 64) (r.take nn++pad L) S0)=Sha.sum all:=by
  have hmod:=pad_mod L
  have hLe:L=64*K+nn:=by omega
  obtain⟨q,hq⟩:∃ q,L+(pad L).length=64*q:=⟨_,(Nat.mul_div_cancel' (Nat.dvd_of_mod_eq_zero hmod)).symm⟩
  have hq2:(r.take nn++pad L).length / 64=q - K:=by rw[hkey];omega
  rw[hq2,sum_blocks all (by rw[← hLl];exact hq),← hLl,show blocks q (all++pad L) init=blocks (K+(q - K)) (all++pad L) init by congr 1;omega]
  show _=out (blocksF comp (K+(q - K)) (all++pad L) init)
  rw[blocksF_add comp K (q - K),blocksF_app comp K _ _ _ (by omega),List.drop_append_of_le_length (by omega),hnn,hrt,hS0,hK]
  rfl
 generalize blocks ((r.take nn++pad L).length / 64) (r.take nn++pad L) S0=S at h6 hfin
 rw[← hfin]
 have r6:rdO Tryz.prog 100 w6 (w0.heap.size+1) 0=some (.agg (wl S.list)):=by
  refine rds Tryz.agg100 Tryz.sz100 h6 rfl (by omega) fun i hi=>?_
  rw[Nat.zero_add,hC_w hi,wl_at hi]
 have f6:No w0 w6:=f5.trans' g6 fun b hb h=>by omega
 have k6:w6.heap[w0.heap.size]?=some (.cells (bl (List.replicate 32 0)) 23 (0,0)):=g6.at (g5.at k3 (by omega)) (by omega)
 have f7:No w6 (w6.alloc (.cells (bl (List.replicate 32 0)) 23)):=(Fr.refl _ _).alloc _
 have h7:(w6.alloc (.cells (bl (List.replicate 32 0)) 23)).heap[w6.heap.size]?=some (.cells (bl (padTo 0 32 ((out S).take (4*0)))) 23 (0,0)):=by
  rw[Nat.mul_zero,List.take_zero,padTo_nil];exact alloc_blk_new _ _
 have k7:=f7.at k6 id
 have r7:rdO Tryz.prog 100 (w6.alloc (.cells (bl (List.replicate 32 0)) 23)) (w0.heap.size+1) 0=some (.agg (wl S.list)):=by
  refine rds Tryz.agg100 Tryz.sz100 (f7.at h6 id) rfl (by omega) fun i hi=>?_
  rw[Nat.zero_add,hC_w hi,wl_at hi]
 have z6:w0.heap.size<w6.heap.size:=heap_lt k6
 simp -implicitDefEqProofs only[go_sem,Nat.reduceEqDiff,Value.cells,bl_zero,r7]
 refine loopD [2,8,43,44] (mI2 w0 (w6.alloc (.cells (bl (List.replicate 32 0)) 23)) S w6.heap.size) 8 ⟨0,rfl,by omega,rfl,h7,Fr.refl _ _⟩ ?_
 rintro _ vs w8 g2 ⟨i,rfl,hi,rfl,l8,g8⟩
 by_cases hlt:i<8
 ·have d1:decide ((i:Int)<8)=true:=by simp;omega
  have y:(0:Int)≤(i:Int)∧(i:Int)<((8:Nat):Int):=by omega
  have c0:IntKind.i64.wrap (4*(i:Int))=((4*i:Nat):Int):=i64mul (a:=4) (b:=i) (by omega)
  have c1:IntKind.i64.wrap (((4*i:Nat):Int)+1)=((4*i+1:Nat):Int):=i64add (b:=1) (by omega)
  have c2:IntKind.i64.wrap (((4*i:Nat):Int)+2)=((4*i+2:Nat):Int):=i64add (b:=2) (by omega)
  have c3:IntKind.i64.wrap (((4*i:Nat):Int)+3)=((4*i+3:Nat):Int):=i64add (b:=3) (by omega)
  have c4:IntKind.i64.wrap ((i:Int)+1)=((i+1:Nat):Int):=i64add (b:=1) (by omega)
  have y0:(0:Int)≤((4*i:Nat):Int)∧((4*i:Nat):Int)<((32:Nat):Int):=by omega
  have y1:(0:Int)≤((4*i+1:Nat):Int)∧((4*i+1:Nat):Int)<((32:Nat):Int):=by omega
  have y2:(0:Int)≤((4*i+2:Nat):Int)∧((4*i+2:Nat):Int)<((32:Nat):Int):=by omega
  have y3:(0:Int)≤((4*i+3:Nat):Int)∧((4*i+3:Nat):Int)<((32:Nat):Int):=by omega
  have s24:∀ z:W32,shrK .u32 (z.toNat:Int) 24=((z >>> 24).toNat:Int):=fun z=>shr32 z 24 (by omega)
  have s16:∀ z:W32,shrK .u32 (z.toNat:Int) 16=((z >>> 16).toNat:Int):=fun z=>shr32 z 16 (by omega)
  have s8:∀ z:W32,shrK .u32 (z.toNat:Int) 8=((z >>> 8).toNat:Int):=fun z=>shr32 z 8 (by omega)
  have p1:partO Tryz.prog 99 (wl S.list) i=some (u32 (S.list.getD i 0)):=by
   simp only[partO,Tryz.agg99];exact wl_at hlt
  have ol:∀ k,k≤32→((out S).take k).length=k:=fun k hk=>by rw[List.length_take,out_len];omega
  have qq:∀ (w:World) (j:Nat),j<32→w.heap[w6.heap.size]?=some (.cells (bl (padTo 0 32 ((out S).take j))) 23 (0,0))→wrO Tryz.prog 5 w w6.heap.size j (u8 (outAt S j))=some (put w w6.heap.size (.cells (bl (padTo 0 32 ((out S).take (j+1)))) 23 (0,0))):=fun w j hj hw=>by
   have:=wr1 (P:=Tryz.prog) (t:=5) (v:=u8 (outAt S j)) (o:=j) Tryz.sz5 rfl hw (by rw[bl_size,padTo_len (by rw[ol j (by omega)];omega)];exact hj)
   rw[bl_set,out_take S hj] at this;exact this
  have q0:=qq w8 (4*i) (by omega) l8
  have q1':=qq _ (4*i+1) (by omega) (put_at (o:=.cells (bl (padTo 0 32 ((out S).take (4*i+1)))) 23 (0,0)) l8)
  rw[put_put] at q1'
  have q2':=qq _ (4*i+2) (by omega) (put_at (o:=.cells (bl (padTo 0 32 ((out S).take (4*i+1+1)))) 23 (0,0)) l8)
  rw[put_put] at q2'
  have q3':=qq _ (4*i+3) (by omega) (put_at (o:=.cells (bl (padTo 0 32 ((out S).take (4*i+2+1)))) 23 (0,0)) l8)
  rw[put_put] at q3'
  have o0:=out_idx S i 0 hlt (by omega)
  have o1:=out_idx S i 1 hlt (by omega)
  have o2:=out_idx S i 2 hlt (by omega)
  have o3:=out_idx S i 3 hlt (by omega)
  rw[Nat.add_zero] at o0
  simp only[Nat.mul_zero,Nat.mul_one,Nat.sub_zero,Nat.reduceMul,Nat.reduceSub,BitVec.ushiftRight_zero] at o0 o1 o2 o3
  rw[o0] at q0;rw[o1] at q1';rw[o2] at q2';rw[o3] at q3'
  generalize S.list.getD i 0=t1 at p1 q0 q1' q2' q3'
  simp -implicitDefEqProofs only[go_sem,Nat.reduceEqDiff,d1,y,y0,y1,y2,y3,and_self,Int.toNat_natCast,Nat.mul_one,p1,c0,c1,c2,c3,s24,s16,s8,cut32,Int.reduceLT,q0,q1',q2',q3',c4]
  refine⟨8 - (i+1),by omega,i+1,rfl,by omega,rfl,?_,g8.put _ fun _=>rfl⟩
  rw[show 4*(i+1)=4*i+3+1 by omega];exact put_at l8
 have d1:decide ((i:Int)<8)=false:=by simp;omega
 have e:i=8:=by omega
 subst e
 rw[List.take_of_length_le (by rw[out_len];omega),padTo_full (out_len S)] at l8
 have k8:=g8.at k7 (by omega)
 have r:=rds (P:=Tryz.prog) (t:=23) (o:=0) (vs:=bl (out S)) Tryz.agg23 Tryz.sz23 l8 (by rw[bl_size,out_len]) (by omega) fun i hi=>by rw[Nat.zero_add]
 have q:=wr_all (P:=Tryz.prog) (t:=23) (vs:=bl (out S)) (by rw[bl_size,out_len];exact Tryz.sz23) k8 (by rw[bl_size,bl_size,out_len];simp) (bl_one _)
 have r2:=rds (P:=Tryz.prog) (t:=23) (o:=0) (vs:=bl (out S)) Tryz.agg23 Tryz.sz23 (put_at (o:=.cells (bl (out S)) 23 (0,0)) k8) (by rw[bl_size,out_len]) (by omega) fun i hi=>by rw[Nat.zero_add]
 simp -implicitDefEqProofs only[go_sem,Nat.reduceEqDiff,d1,r,q,r2]
 exact ((f6.trans f7).trans' g8 fun b hb h=>by omega).put (b:=w0.heap.size) _ fun h=>absurd h (Nat.lt_irrefl _)
end Go.V
end
