/-
 Helpers: BatS, R3A.
-/
import Derived.Test.YtmenaeggoakppaaGreatDoorS45
set_option linter.all false
section
namespace Go.V
open Go.Proofs Sha
set_option maxRecDepth 100000
/-- changes of the call's own -/
def ChN (w0 w:World) (v:Value) (cs:List Bat.Ch):Prop:=∃ rows,NwR w0 w 181 34 v rows∧rows.length=cs.length∧∀ i (h:i<rows.length) (h':i<cs.length),∃ vv,rows[i]=chRow cs[i] vv∧one vv=true∧By w vv cs[i].val∧(cs[i].del=true→vv=.slice Option.none 0 0)∧cs[i].key.length=32
theorem ChN.rd {w0 w:World} {v:Value} {cs:List Bat.Ch} (h:ChN w0 w v cs):ChR w v cs:=by
 obtain⟨rows,h1,h2,h3⟩:=h
 exact⟨rows,h1.rd,h2,h3⟩
theorem ChN.fr0 {w0 w w':World} {v:Value} {cs:List Bat.Ch} (h:ChN w0 w v cs) (f:No w w'):ChN w0 w' v cs:=by
 obtain⟨rows,h1,h2,h3⟩:=h
 refine⟨rows,h1.fr0 f,h2,fun i a b=>?_⟩
 obtain⟨vv,e1,e2,e3,e4,e5⟩:=h3 i a b
 exact⟨vv,e1,e2,e3.fr0 f,e4,e5⟩
def PsQ (w0:World) (y:Except Int (List Bat.Ch)) (r:Value) (w':World):Prop:=No w0 w'∧∃ v i e,r=.tuple #[v,.int .i64 i,.int .i64 e]∧match y with
 | .error e'=>e=e'
 | .ok cs=>e=0∧ChN w0 w' v cs
/-- the values of the changes stand apart from the list that holds them: nothing of them is written when it grows -/
def psI (w0:World) (s0:Bs) (n:Nat) (m:Nat) (vs:List Value) (w:World):Prop :=
 ∃ (i:Nat) (rv cv:Value) (l:List Bat.Ch) (r:Bs) (rows:Rows),vs=[.int .i64 (n:Nat),rv,cv,.int .i64 (n:Nat),.int .i64 (i:Nat)]∧i≤n∧m=n - i∧Bat.takesP i s0=.ok (l,r)∧By w rv r∧(∀ b,blockOf rv=some b→b<w0.heap.size)∧r.length≤2 ^ 50 ∧
  NwR w0 w 181 34 cv rows∧rows.length=l.length∧(∀ i (h:i<rows.length) (h':i<l.length),∃ vv,rows[i]=chRow l[i] vv∧one vv=true∧By w vv l[i].val∧(∀ b,blockOf vv=some b→b<w.heap.size∧blockOf cv≠some b)∧(l[i].del=true→vv=.slice Option.none 0 0)∧l[i].key.length=32)∧No w0 w
theorem By.blkB {w:World} {b o n cap:Nat} {bs:Bs} (h:By w (.slice (some ⟨b,o,Option.none⟩) n cap) bs) (h0:0<bs.length):b<w.heap.size:=by
 have h1:=h.len
 have:=h.get (P:=Tryz.prog) Tryz.agg5 (i:=0) h0
 obtain⟨hl,a,cap,e,hc,hat⟩:=h
 obtain⟨b',o',rfl,hat2⟩:=hat (by omega)
 cases e
 have h2:=hat2 0 (by omega)
 rw[List.getElem?_eq_getElem (by rw[List.length_map];omega)] at h2
 exact rc_lt h2
set_option maxHeartbeats 2000000 in
theorem parse (w0:World) {rv:Value} {s:Bs} (hr:By w0 rv s) (hl:s.length≤2 ^ 50):Fn Tryz.prog 104 #[rv] w0 (PsQ w0 (Bat.parseP s)):=by
 refine Tryz.go104 (by simp) ?_
 obtain⟨xa,xc,rfl,hxc⟩:=hr.slice
 by_cases h2:s.length<2
 ·have d0:decide (((s.length:Nat):Int)<2)=true:=decide_eq_true (by omega)
  simp -implicitDefEqProofs only[go_sem,Nat.reduceEqDiff,Nat.reduceBEq,Nat.reduceAdd,gLa,gLz,gLs,Tryz.f104,d0]
  have:Bat.parseP s=.error 30:=by unfold Bat.parseP;rw[if_pos h2]
  rw[this]
  exact⟨Fr.refl _ _,_,_,_,rfl,rfl⟩
 have d0:decide (((s.length:Nat):Int)<2)=false:=decide_eq_false (by omega)
 obtain⟨b,o,cap,he,hcap⟩:=hr.pos (by omega)
 cases he
 have r0:rdO Tryz.prog 5 w0 b o=some (.int .u8 ((s.getD 0 0).toNat:Int)):=by have:=hr.get (P:=Tryz.prog) Tryz.agg5 (i:=0) (by omega);rw[Nat.add_zero] at this;exact this
 have r1:rdO Tryz.prog 5 w0 b (o+1)=some (.int .u8 ((s.getD 1 0).toNat:Int)):=hr.get (P:=Tryz.prog) Tryz.agg5 (i:=1) (by omega)
 have y0:(0:Int)≤0∧(0:Int)<((s.length:Nat):Int):=by omega
 have y1:(0:Int)≤1∧(1:Int)<((s.length:Nat):Int):=by omega
 have c0:IntKind.i64.wrap ((s.getD 0 0).toNat:Int)=(((s.getD 0 0).toNat:Nat):Int):=i64n (by have:=(s.getD 0 0).isLt;omega)
 have c1:IntKind.i64.wrap ((s.getD 1 0).toNat:Int)=(((s.getD 1 0).toNat:Nat):Int):=i64n (by have:=(s.getD 1 0).isLt;omega)
 have lh:=lohi (s.getD 0 0) (s.getD 1 0)
 have hpp : Bat.parseP s = if 64 < (s.getD 0 0).toNat + 256 * (s.getD 1 0).toNat then .error 31
     else match Bat.takesP ((s.getD 0 0).toNat + 256 * (s.getD 1 0).toNat) (s.drop 2) with
       | .error e => .error e
       | .ok (l,r) => if r ≠ [] then .error 30 else if (l.map Bat.Ch.key).Nodup then .ok l else .error 33 := by unfold Bat.parseP; rw [if_neg h2]; rfl
 rw[hpp]
 generalize (s.getD 0 0).toNat+256*(s.getD 1 0).toNat=n at *
 by_cases h64:64<n
 ·have dn:decide (((n:Nat):Int) > 64)=true:=decide_eq_true (by omega)
  simp -implicitDefEqProofs only[go_sem,Nat.reduceEqDiff,Nat.reduceBEq,Nat.reduceAdd,gLa,gLz,gLs,Tryz.f104,d0,y0,y1,and_self,Int.toNat_zero,Int.toNat_one,Nat.mul_one,Nat.zero_mul,Nat.add_zero,r0,r1,c0,c1,lh,dn]
  rw[if_pos h64]
  exact⟨(Fr.refl _ _).drew,_,_,_,rfl,rfl⟩
 have dn:decide (((n:Nat):Int) > 64)=false:=decide_eq_false (by omega)
 rw[if_neg h64]
 obtain ⟨Y, hY⟩ : ∃ Y : Except Int (List Bat.Ch), Y = match Bat.takesP n (s.drop 2) with
       | .error e => .error e
       | .ok (l,r) => if r ≠ [] then .error 30 else if (l.map Bat.Ch.key).Nodup then .ok l else .error 33 := ⟨_,rfl⟩
 rw[← hY]
 have p1:=slc_lo (P:=Tryz.prog) Tryz.slc25 Tryz.arr25 Tryz.sz5 (a:=some (⟨b,o,Option.none⟩:Addr)) (n:=s.length) (cap:=xc) (l:=2) (by omega) hcap
 have p1:sliceP Tryz.prog 25 (.slice (some ⟨b,o,Option.none⟩) s.length xc) (some (.int .i64 2)) Option.none Option.none=some (cutV 1 (some ⟨b,o,Option.none⟩) xc 2 s.length):=p1
 have mk:=run_mk (P:=Tryz.prog) (t:=151) (by':=64) Tryz.slc151 Tryz.sz181 Tryz.by181 Tryz.zero181 (l:=0) (c:=n) (by omega) (by omega) (by omega) .i64 .i64 w0.drew
 simp -implicitDefEqProofs only[go_sem,Nat.reduceEqDiff,Nat.reduceBEq,Nat.reduceAdd,gLa,gLz,gLs,Tryz.f104,d0,y0,y1,and_self,Int.toNat_zero,Int.toNat_one,Nat.mul_one,Nat.zero_mul,Nat.add_zero,r0,r1,c0,c1,lh,dn,p1]
 refine contL_sem ⟨_,_,mk,?_⟩
 obtain⟨W,hW,f1,k1,s1⟩:=allocs1 w0.drew (madeCells (Value.agg (Array.replicate 32 (.int .u8 0)++#[.bool false,.slice Option.none 0 0])).cells (n*34)) 181
 have f1:No w0 W:=(Fr.refl _ _).drew.trans f1
 have N0:NwR w0 W 181 34 (.slice (some ⟨w0.drew.heap.size,0,Option.none⟩) 0 n) []:=⟨RowsOk.nil _,by
  have:=mk_nw w0 w0.drew 181 34 0 n (madeCells (Value.agg (Array.replicate 32 (.int .u8 0)++#[.bool false,.slice Option.none 0 0])).cells (n*34)) (Nat.le_refl _) (by simp[madeCells]) (by omega)
  rw[hW] at this
  simpa using this⟩
 rw[hW]
 have hcut:By W (cutV 1 (some ⟨b,o,Option.none⟩) xc 2 s.length) (s.drop 2):=by
  have:=(hr.fr0 f1).cutV (l:=2) (m:=s.length) (by omega) (Nat.le_refl _) rfl
  rw[List.take_of_length_le (by simp)] at this
  exact this
 have hbk:∀ c,blockOf (cutV 1 (some (⟨b,o,Option.none⟩:Addr)) xc 2 s.length)=some c→c<w0.heap.size:=fun c hc=>by
  have h:=cutV_blk (n:=s.length) hc
  simp only[blockOf,Option.some.injEq] at h
  subst h
  exact hr.blkB (by omega)
 generalize cutV 1 (some (⟨b,o,Option.none⟩:Addr)) xc 2 s.length=rv0 at *
 generalize (Value.slice (some ⟨w0.drew.heap.size,0,Option.none⟩) 0 n)=cv0 at *
 simp -implicitDefEqProofs only[go_sem,Nat.reduceEqDiff,Nat.reduceBEq,Nat.reduceAdd,gLa,gLz,gLs]
 refine loopD [5,6,7,32,33] (psI w0 (s.drop 2) n) n ⟨0,rv0,cv0,[],s.drop 2,[],rfl,by omega,rfl,rfl,hcut,hbk,by simp;omega,N0,rfl,(fun i h=>absurd h (by simp)),f1⟩ ?_
 rintro _ vs w g ⟨i,rv,cv,l,r,rows,rfl,hi,rfl,htk,hby,hbl,hrl,hN,hrows,hch,fw⟩
 by_cases hlt:i<n
 ·have d1:decide ((i:Int)<((n:Nat):Int))=true:=by simp;omega
  simp -implicitDefEqProofs only[go_sem,Nat.reduceEqDiff,Nat.reduceBEq,Nat.reduceAdd,gLa,gLz,gLs,d1]
  refine contL_call Tryz.pl167 ((take w hby hrl).mono ?_)
  rintro _ w2 ⟨f2,k,d,v,u,e,rfl,hk,ho,hm⟩
  have f02:=fw.trans f2
  have hsn:=Bat.takesP_snoc htk
  cases ht:Bat.takeP r with
  | error e' =>
   rw[ht] at hm hsn
   obtain⟨rfl,_⟩:=hm
   have hne:e≠0:=fun h=>by
    subst h
    unfold Bat.takeP at ht
    repeat' split at ht
    all_goals cases ht
   have he0:(e != 0)=true:=by rw[bne_iff_ne];exact hne
   have hYe:Y=.error e:=by rw[hY,Bat.takesP_err hsn n (by omega)]
   obtain⟨W3,hW3,f3,k3,s3⟩:=allocs1 w2 (chC (List.replicate 32 0) false (.slice Option.none 0 0)) 181
   have q3:wrO Tryz.prog 181 W3 w2.heap.size 0 (.agg (chC k d v))=some (put W3 w2.heap.size (.cells (chC k d v) 181 (0,0))):=wr_all (by rw[chC_size d v hk];exact Tryz.sz181) k3 (by rw[chC_size _ _ List.length_replicate,chC_size _ _ hk]) (chC_one d ho)
   simp -implicitDefEqProofs only[go_sem,Nat.reduceEqDiff,Nat.reduceBEq,Nat.reduceAdd,gLa,gLz,gLs,Value.cells,chC_zero,hW3,q3,he0]
   rw[hYe]
   exact⟨(f02.trans f3).put (b:=w2.heap.size) _ fun h=>by have:=f02.size;omega,_,_,_,rfl,rfl⟩
  | ok p =>
   rw[ht] at hm hsn
   obtain⟨rfl,⟨v',ev,ov,byv,dv⟩,hby2,hu,hvb⟩:=hm
   obtain⟨c,r2⟩:=p
   simp only at ev byv dv hby2 hsn
   obtain⟨W3,hW3,f3,k3,s3⟩:=allocs1 w2 (chC (List.replicate 32 0) false (.slice Option.none 0 0)) 181
   have q3:wrO Tryz.prog 181 W3 w2.heap.size 0 (.agg (chC k d v))=some (put W3 w2.heap.size (.cells (chC k d v) 181 (0,0))):=wr_all (by rw[chC_size d v hk];exact Tryz.sz181) k3 (by rw[chC_size _ _ List.length_replicate,chC_size _ _ hk]) (chC_one d ho)
   have k4:=put_at (o:=.cells (chC k d v) 181 (0,0)) k3
   have f24:No w2 (put W3 w2.heap.size (.cells (chC k d v) 181 (0,0))):=f3.put (b:=w2.heap.size) _ fun h=>absurd h (Nat.lt_irrefl _)
   have f4:No w0 (put W3 w2.heap.size (.cells (chC k d v) 181 (0,0))):=f02.trans f24
   obtain⟨w4,hw4⟩:∃ w4,w4=put W3 w2.heap.size (.cells (chC k d v) 181 (0,0)):=⟨_,rfl⟩
   rw[← hw4] at q3 k4 f24 f4
   have r4:rdO Tryz.prog 181 w4 w2.heap.size 0=some (.agg (chC k d v)):=rd_all Tryz.agg181 (by rw[chC_size d v hk];exact Tryz.sz181) k4
   simp -implicitDefEqProofs only[go_sem,Nat.reduceEqDiff,Nat.reduceBEq,Nat.reduceAdd,gLa,gLz,gLs,Value.cells,chC_zero,hW3,q3,bne_self_eq_false,r4]
   have hck:c.key=k∧c.del=d∧v'=v:=by
    have e1:(chC k d v).toList=(chC c.key c.del v').toList:=by
     have:(Value.agg (chC k d v))=.agg (chC c.key c.del v'):=ev
     simp only[Value.agg.injEq] at this
     rw[this]
    have hcl:c.key.length=32:=(Bat.takeP_ok ht).1.1
    simp only[chC] at e1
    have e2:=List.append_inj e1 (by simp[hk,hcl])
    obtain⟨e3,e4⟩:=e2
    refine⟨(map_u8_inj e3).symm,?_,?_⟩
    ·have:=List.cons.inj e4;have:=this.1;simpa using this.symm
    ·have:=(List.cons.inj e4).2;simpa using (List.cons.inj this).1.symm
   obtain⟨rfl,rfl,rfl⟩:=hck
   refine contL_is (v:=.slice (some ⟨w4.heap.size,0,Option.none⟩) 1 1) (w':=w4.alloc (.cells (chC c.key c.del v') 181)) (fill_oneN (K:=34) (by decide) (by decide) (by simp[chC]) (by simp[chC]) (chC_size _ _ hk) _) ?_
   have hN4:=(hN.fr0 f2).fr0 f24
   obtain⟨v8,w8,hr8,b8,g8,m8⟩:=hN4.push (P:=Tryz.prog) Tryz.app151_151 (xs:=chRow c v') (by simp[chRow,hk]) (by have:=chC_one (k:=c.key) c.del ho;rw[← Array.all_toList] at this;simpa [chC,chRow] using this) (by decide) (by have:=(Bat.takesP_ok htk).1;omega) (by have:=(Bat.takesP_ok htk).1;omega) f4.size
   have hr8:(Builtin.append_ #[151,151] 0 #[cv,.slice (some ⟨w4.heap.size,0,Option.none⟩) 1 1]).run Tryz.prog (w4.alloc (.cells (chC c.key c.del v') 181))=.ok v8 w8:=hr8
   have f8:No w0 w8:=f4.trans' g8 fun b' hb' h=>by have:=(hN.lt h).1;omega
   have c1:IntKind.i64.wrap ((i:Int)+1)=((i+1:Nat):Int):=i64add (b:=1) (by omega)
   simp -implicitDefEqProofs only[go_sem,Nat.reduceEqDiff,Nat.reduceBEq,Nat.reduceAdd,gLa,gLz,gLs]
   refine contL_sem ⟨v8,w8,hr8,?_⟩
   simp -implicitDefEqProofs only[go_sem,Nat.reduceEqDiff,Nat.reduceBEq,Nat.reduceAdd,gLa,gLz,gLs,c1]
   have hub:∀ b',blockOf u=some b'→b'<w0.heap.size:=fun b' h=>hbl b' (hu b' h)
   have s24:=f24.size
   have s2:=f2.size
   have s8:=g8.size
   refine⟨n - (i+1),by omega,i+1,u,v8,l++[c],r2,rows++[chRow c v'],rfl,by omega,rfl,hsn,?_,hub,?_,b8,by simp[hrows],?_,f8⟩
   ·exact (hby2.fr0 f24).fr g8 fun b' h _ h'=>by have:=(hN.lt h').1;have:=hub b' h;omega
   ·obtain⟨_,q,hq,_,_⟩:=Bat.takeP_ok ht
    rw[hq,List.length_drop];omega
   ·have hcv:∀ b',blockOf cv=some b'→b'<w.heap.size:=fun b' h=>(hN.lt h).2
    intro q hq hq'
    by_cases hql:q<rows.length
    ·obtain⟨vv,a1,a2,a3,a4,a5,a6⟩:=hch q hql (by omega)
     have el:(l++[c])[q]=l[q]'(by omega):=List.getElem_append_left (by omega)
     rw[el]
     refine⟨vv,by rw[List.getElem_append_left hql];exact a1,a2,?_,fun b' h=>⟨by have:=(a4 b' h).1;omega,fun h'=>?_⟩,a5,a6⟩
     ·exact ((a3.fr0 f2).fr0 f24).fr g8 fun b' h _ h'=>(a4 b' h).2 h'
     ·rcases m8 b' h' with h'' | h''
      ·exact (a4 b' h).2 h''
      ·have:=(a4 b' h).1;omega
    ·obtain rfl:q=rows.length:=by simp at hq;omega
     have el:(l++[c])[rows.length]'hq'=c:=by simp[hrows]
     rw[el]
     refine⟨v',by simp,ov,?_,fun b' h=>⟨by have:=(hvb b' h).2;omega,fun h'=>?_⟩,dv,hk⟩
     ·exact (byv.fr0 f24).fr g8 fun b' h _ h'=>by have:=(hvb b' h).1;have:=hcv b' h';omega
     ·rcases m8 b' h' with h'' | h''
      ·have:=(hvb b' h).1;have:=hcv b' h'';omega
      ·have:=(hvb b' h).2;omega
 ·have d1:decide ((i:Int)<((n:Nat):Int))=false:=by simp;omega
  obtain rfl:i=n:=by omega
  rw[htk] at hY
  obtain⟨ra,rc,rfl,_⟩:=hby.slice
  by_cases hr0:r=[]
  ·have d2:decide (((r.length:Nat):Int) > 0)=false:=by subst hr0;rfl
   replace hY:Y=if (l.map Bat.Ch.key).Nodup then .ok l else .error 33:=by rw[hY];exact if_neg (by simp[hr0])
   have hC:ChN w0 w cv l:=⟨rows,hN,hrows,fun i a b=>by
    obtain⟨vv,e1,e2,e3,_,e5,e6⟩:=hch i a b
    exact⟨vv,e1,e2,e3,e5,e6⟩⟩
   simp -implicitDefEqProofs only[go_sem,Nat.reduceEqDiff,Nat.reduceBEq,Nat.reduceAdd,gLa,gLz,gLs,d1,d2]
   refine contL_call Tryz.pl168 ((repeated w hC.rd (by have:=(Bat.takesP_ok htk).1;omega)).mono ?_)
   rintro _ w2 ⟨f2,z,rfl,hz⟩
   by_cases hz0:0≤z
   ·have d3:decide (z ≥ 0)=true:=decide_eq_true hz0
    rw[if_neg (hz.1 hz0)] at hY
    simp -implicitDefEqProofs only[go_sem,Nat.reduceEqDiff,Nat.reduceBEq,Nat.reduceAdd,gLa,gLz,gLs,d3]
    rw[hY]
    exact⟨fw.trans f2,_,_,_,rfl,rfl⟩
   ·have d3:decide (z ≥ 0)=false:=decide_eq_false hz0
    rw[if_pos (by by_cases h:(l.map Bat.Ch.key).Nodup;exact h;exact absurd (hz.2 h) hz0)] at hY
    simp -implicitDefEqProofs only[go_sem,Nat.reduceEqDiff,Nat.reduceBEq,Nat.reduceAdd,gLa,gLz,gLs,d3]
    rw[hY]
    exact⟨fw.trans f2,_,_,_,rfl,rfl,hC.fr0 f2⟩
  ·have d2:decide (((r.length:Nat):Int) > 0)=true:=by have:=List.length_pos_iff.2 hr0;simp;exact this
   replace hY:Y=.error 30:=by rw[hY];exact if_pos hr0
   simp -implicitDefEqProofs only[go_sem,Nat.reduceEqDiff,Nat.reduceBEq,Nat.reduceAdd,gLa,gLz,gLs,d1,d2]
   rw[hY]
   exact⟨fw,_,_,_,rfl,rfl⟩
end Go.V
end
section
namespace Go.V
open Go.Proofs Sha
set_option maxRecDepth 100000
namespace R
theorem bytes3 (w0:World) {vv:Value} {bs:Bs} (hv:By w0 vv bs) (hl:bs.length≤2 ^ 40):Fn Tryz.prog 211 #[vv] w0 fun v w'=>NwB w0 w' v bs∧No w0 w':=by
 refine Tryz.go211 (by simp) ?_
 obtain⟨va,vc,rfl,hcap⟩:=hv.slice
 simp -implicitDefEqProofs only[go_sem,Nat.reduceEqDiff,Nat.reduceBEq,Nat.reduceAdd,gLa,gLz,gLs,Tryz.f211]
 refine loopD [0,3,4] (cpI w0 (.slice va bs.length vc) bs) bs.length ⟨0,_,rfl,by omega,rfl,NwB.nil _ _,Fr.refl _ _⟩ ?_
 rintro _ vs w3 g ⟨i,v,rfl,hi,rfl,b3,f3⟩
 by_cases hlt:i<bs.length
 ·have d1:decide ((i:Int)<((bs.length:Nat):Int))=true:=by simp;omega
  have c1:IntKind.i64.wrap ((i:Int)+1)=((i+1:Nat):Int):=i64add (b:=1) (by omega)
  have y:(0:Int)≤(i:Int)∧(i:Int)<((bs.length:Nat):Int):=by omega
  obtain⟨b,o,cap,he,r⟩:=(hv.fr0 f3).rd1 hlt
  cases he
  have hsn:=take_snoc (l:=bs) (i:=i) hlt
  obtain⟨v4,w4,hr4,b4,f4,g4,_⟩:=NwB.grow b3 (bs.getD i 0) (by simp;omega) f3
  rw[hsn] at b4
  generalize bs.getD i 0=x at *
  simp -implicitDefEqProofs only[go_sem,Nat.reduceEqDiff,Nat.reduceBEq,Nat.reduceAdd,gLa,gLz,gLs,d1,y,and_self,Int.toNat_natCast,Nat.mul_one,r]
  refine contL_is (v:=.slice (some ⟨w3.heap.size,0,none⟩) 1 1) (w':=w3.alloc (.cells (bl [x]) 5)) rfl ?_
  simp -implicitDefEqProofs only[go_sem,Nat.reduceEqDiff,Nat.reduceBEq,Nat.reduceAdd,gLa,gLz,gLs]
  refine contL_sem ⟨v4,w4,hr4,?_⟩
  simp -implicitDefEqProofs only[go_sem,Nat.reduceEqDiff,Nat.reduceBEq,Nat.reduceAdd,gLa,gLz,gLs,c1]
  exact⟨bs.length - (i+1),by omega,i+1,v4,rfl,by omega,rfl,b4,f4⟩
 ·have d1:decide ((i:Int)<((bs.length:Nat):Int))=false:=by simp;omega
  have e:i=bs.length:=by omega
  subst e
  rw[List.take_length] at b3
  simp -implicitDefEqProofs only[go_sem,Nat.reduceEqDiff,Nat.reduceBEq,Nat.reduceAdd,gLa,gLz,gLs,d1]
  exact⟨b3,f3⟩
def twJ (w0:World) (sv:Value) (ks:List Bs) (i:Nat) (n:Nat) (vs:List Value) (w:World):Prop :=
 ∃ (j:Nat),vs=[sv,.int .i64 (i:Nat),.int .i64 (j:Nat)]∧j≤i∧n=i - j∧(∀ q,q<j→ks[i]!≠ks[q]!)∧No w0 w
def twI (w0:World) (sv:Value) (ks:List Bs) (n:Nat) (vs:List Value) (w:World):Prop :=
 ∃ (i:Nat),vs=[sv,.int .i64 (i:Nat)]∧i≤ks.length∧n=ks.length - i∧(∀ p,p<i→∀ q,q<p→ks[p]!≠ks[q]!)∧No w0 w
set_option maxHeartbeats 1000000 in
theorem twice (w0:World) {sv:Value} {cs:List Bat.Ch} (h:ChR w0 sv cs) (hl:cs.length≤2 ^ 40):Fn Tryz.prog 184 #[sv] w0 fun v w'=>No w0 w'∧∃ z:Int,v=.int .i64 z∧(0≤z ↔ ¬ (cs.map Bat.Ch.key).Nodup):=by
 refine Tryz.go184 (by simp) ?_
 obtain⟨a,cap,rfl,hcap⟩:=h.slice
 have hkl:cs.length=(cs.map Bat.Ch.key).length:=by simp
 have hk:=h.key
 rw[hkl] at hk ⊢
 rw[hkl] at hl
 generalize cs.map Bat.Ch.key=ks at *
 simp -implicitDefEqProofs only[go_sem,Nat.reduceEqDiff,Nat.reduceBEq,Nat.reduceAdd,gLa,gLz,gLs,Tryz.f184]
 refine loopD [0,3] (twI w0 (.slice a ks.length cap) ks) ks.length ⟨0,rfl,by omega,rfl,fun p hp=>by omega,Fr.refl _ _⟩ ?_
 rintro _ vs w2 g ⟨i,rfl,hi,rfl,hno,f2⟩
 by_cases hlt:i<ks.length
 ·have d1:decide ((i:Int)<((ks.length:Nat):Int))=true:=by simp;omega
  simp -implicitDefEqProofs only[go_sem,Nat.reduceEqDiff,Nat.reduceBEq,Nat.reduceAdd,gLa,gLz,gLs,d1]
  refine loopD [0,3,4] (twJ w0 (.slice a ks.length cap) ks i) i ⟨0,rfl,by omega,rfl,fun q hq=>by omega,f2⟩ ?_
  rintro _ vs w3 g ⟨j,rfl,hj,rfl,hnj,f3⟩
  obtain⟨b,o,cap',e,hrd⟩:=hk (by omega)
  cases e
  by_cases hji:j<i
  ·have d2:decide ((j:Int)<(i:Int))=true:=by simp;omega
   obtain⟨q1,l1⟩:=hrd w3 f3 i hlt
   obtain⟨q2,l2⟩:=hrd w3 f3 j (by omega)
   obtain⟨q1d,_⟩:=hrd w3.drew f3.drew i hlt
   obtain⟨q2d,_⟩:=hrd w3.drew f3.drew j (by omega)
   have y1:(0:Int)≤(i:Int)∧(i:Int)<((ks.length:Nat):Int):=by omega
   have y2:(0:Int)≤(j:Int)∧(j:Int)<((ks.length:Nat):Int):=by omega
   have eq:=eqKey l1 l2
   have c2:IntKind.i64.wrap ((j:Int)+1)=((j+1:Nat):Int):=i64add (b:=1) (by omega)
   by_cases he:ks[i]! =ks[j]!
   ·have hb:(ks[i]! == ks[j]!)=true:=by rw[beq_iff_eq];exact he
    simp -implicitDefEqProofs only[go_sem,Nat.reduceEqDiff,Nat.reduceBEq,Nat.reduceAdd,gLa,gLz,gLs,d2,y1,y2,and_self,Int.toNat_natCast,q1,q2,q1d,q2d,eq,hb,Nat.add_zero]
    exact⟨f3.drew,(i:Int),rfl,iff_of_true (by omega) (fun hn=>nodup_at.1 hn i hlt j hji he)⟩
   ·have hb:(ks[i]! == ks[j]!)=false:=by rw[beq_eq_false_iff_ne];exact he
    simp -implicitDefEqProofs only[go_sem,Nat.reduceEqDiff,Nat.reduceBEq,Nat.reduceAdd,gLa,gLz,gLs,d2,y1,y2,and_self,Int.toNat_natCast,q1,q2,q1d,q2d,eq,hb,c2,Nat.add_zero]
    exact⟨i - (j+1),by omega,j+1,rfl,by omega,rfl,fun q hq=>by
     by_cases hqj:q=j
     ·subst hqj;exact he
     ·exact hnj q (by omega),f3.drew⟩
  ·have d2:decide ((j:Int)<(i:Int))=false:=by simp;omega
   obtain rfl:j=i:=by omega
   have c1:IntKind.i64.wrap ((j:Int)+1)=((j+1:Nat):Int):=i64add (b:=1) (by omega)
   simp -implicitDefEqProofs only[go_sem,Nat.reduceEqDiff,Nat.reduceBEq,Nat.reduceAdd,gLa,gLz,gLs,d2,c1]
   exact⟨ks.length - (j+1),by omega,j+1,rfl,by omega,rfl,fun p hp=>by
    by_cases hpj:p=j
    ·subst hpj;exact hnj
    ·exact hno p (by omega),f3⟩
 ·have d1:decide ((i:Int)<((ks.length:Nat):Int))=false:=by simp;omega
  obtain rfl:i=ks.length:=by omega
  simp -implicitDefEqProofs only[go_sem,Nat.reduceEqDiff,Nat.reduceBEq,Nat.reduceAdd,gLa,gLz,gLs,d1]
  exact⟨f2,-1,rfl,iff_of_false (by omega) (fun h=>h (nodup_at.2 hno))⟩
end R
end Go.V
end
