/- Helpers. -/
import Derived.Test.YtmenaeggoakppaaGreatDoorG45
set_option linter.all false
set_option maxRecDepth 100000
set_option maxHeartbeats 8000000
open List renaming length_set→jY
open Nat renaming reduceEqDiff→jF,zero_add→z8
namespace Go.V
open Go.Proofs.Tryz Go.V.Tryz
open Go.Proofs Sha
theorem app_nil {P:Program}{ts:Array TypeId}{e sz by':Nat}{z:Value}(ht:AppT P ts e sz by' z){w:World}{x:Value}{m:Nat}{news:List Value}(hx:Rd w sz x m news)(hm:0<m)(hb:m*by'≤2 ^ 48)(hb2:m≤9223372036854775807) :
  ∃ nc c w',m≤nc∧(Builtin.append_ ts 0 #[.slice none 0 0,x]).run P w=.ok (.slice (some ⟨w.heap.size,0,none⟩) m nc) w'∧w'.heap[w.heap.size]?=some (.cells c e (0,0))∧m*sz≤c.size∧(∀ i,i<m*sz→c[i]?=news[i]?)∧No w w':=by
 obtain⟨⟨t,t',h0,h1',hs,hi,hu'⟩,hsz,hby,hz,hzs⟩:=ht;obtain⟨d',hd'⟩:=Option.isSome_iff_exists.1 hu'
 have hne:∀ k,d'≠.int k:=fun k e=>by
  subst e;unfold intO at hi;rw[hd']at hi;cases hi
 have hinfo:∃ i,P.info? e=some i∧i.bytes=by':=by
  unfold byO at hby
  cases hi:P.info? e with
  | none=>simp[hi]at hby
  | some i=>exact⟨i,rfl,by simpa [hi] using hby⟩
 obtain⟨i,hi1,hi2⟩:=hinfo;have hnl:=hx.1;have hx':=hx;obtain⟨_,xa,xc,rfl,hxc,_⟩:=hx'
 have hnw:∀ u:World,u.heap=w.heap→(Builtin.firstCells sz m (.slice xa m xc)).run P u=.ok news.toArray u:=fun u hu=>by
  have hxu:Rd u sz (.slice xa m xc) m news:=by
   obtain⟨h1,a,cap,e,h2,h3⟩:=hx;refine⟨h1,a,cap,e,h2,fun h0=>?_⟩;obtain⟨b,o,e2,h4⟩:=h3 h0;exact⟨b,o,e2,fun i hi=>by have:=h4 i hi;unfold rc at this ⊢;rw[hu];exact this⟩
  have:=rd_first (P:=P) hxu (Nat.le_refl m);rw[List.take_of_length_le (by omega)]at this;exact this
 have hmax:IntKind.i64.max=9223372036854775807:=by decide
 have hnc:Builtin.nextslicecap (0+m) 0=m:=by unfold Builtin.nextslicecap;rw[if_pos (by omega),z8]
 obtain⟨nc,hnc',hrun⟩:=run_app_grow (P:=P) h0 h1' hs hd' hne hsz hi1 hz (w:=w) (n:=0) (cap:=0) (m:=m) (xc:=xc) (ba:=none) (xa:=xa) (old:=#[]) (new:=news.toArray) (by omega) (by rw[hmax];omega) (by rw[hnc,hi2];exact hb) (fun u _=>rfl) hnw;rw[z8]at hrun hnc';refine⟨nc,_,_,hnc',hrun,qQc w.drew _,?_,fun i hi=>?_,((Fr.refl _ w).drew).alloc _⟩
 ·simp only[Array.size_append,List.size_toArray,hnl];omega
 ·rw[Array.getElem?_append_left (by simp only[Array.size_append,List.size_toArray,hnl];simp;omega)]
  simp
theorem TsA.old {w:World}{v:Value}{ts:List Bs}(h:TsA w v ts fun _=>False){A:Nat→Prop}(hA:∀ b,A b→w.heap.size≤b):TsA w v ts A:=by
 obtain⟨vals,h1,h2,_,h4⟩:=h;refine⟨vals,h1,h2,fun h0 b hb hAb=>?_,fun i a b=>⟨(h4 i a b).1,fun hn c hc hAc=>?_⟩⟩
 ·obtain⟨hl,a,cap,rfl,hcap,hat⟩:=h2
  obtain⟨b',o,rfl,hat2⟩:=hat (by omega);simp only[qQb,oSi]at hb;subst hb;have hr:=hat2 0 (by omega);rw[List.getElem?_eq_getElem (by omega)]at hr;have:=rc_lt hr;have:=hA _ hAb;omega
 ·have:=(h4 i a b).1.blk0 hn hc
  have:=hA _ hAc;omega
theorem TsA.mono {w:World}{v:Value}{ts:List Bs}{A A':Nat→Prop}(h:TsA w v ts A)(hA:∀ b,A' b→A b):TsA w v ts A':=by
 obtain⟨vals,h1,h2,h3,h4⟩:=h;exact⟨vals,h1,h2,fun h0 b hb h=>h3 h0 b hb (hA b h),fun i a b=>⟨(h4 i a b).1,fun hn c hc h=>(h4 i a b).2 hn c hc (hA c h)⟩⟩
theorem set_len (raws:List Bs){o:Bs}(ho:o.length=(raws.getD 0 []).length):∀ i,((raws.set 0 o).getD i []).length=(raws.getD i []).length:=fun i=>by
 cases raws with
 | nil=>rfl
 | cons a r =>
  cases i with
  | zero=>exact ho
  | succ i=>rfl
theorem set_set (raws:List Bs)(o:Bs):(raws.set 0 o).length=raws.length:=jY
theorem lawGathers (w:World)(ht:Tabs w)(wd:Int){root:Bs}(hroot:root.length=32){kv tsv:Value}{ks raws:List Bs}(hk:RdD w kv ks)(hts:TsA w tsv raws fun _=>False)(hl:ks.length≤2 ^ 42)(htl:∀ t ∈ raws, t.length≤2 ^ 47)(htn:raws.length≤5900000000000) :
  Fn prog 5 #[.int .i64 wd,dg root,kv,tsv] w fun r w'=>r=.bool true∧No w w':=by
 refine go5 (by simp) ?_;obtain⟨W,hW,f1,k1,s1⟩:=qQs w (bl root) 23;obtain⟨xa,xc,rfl⟩:=hts.slice;have hz5:=ht.size;simp -implicitDefEqProofs only[go_sem,jF,Nat.reduceAdd,Tryz.f5,Value.cells,hW];refine qQa pl10 ((lawLaid W (hk.fr0 f1) (hts.fr0 f1) hl htl (by omega)).mono ?_);rintro _ w3 ⟨f3,pb,kq,iv,av,qs,rfl,P3⟩;have f03:=f1.trans f3;have hivn:∀ b,qQb iv=some b→W.heap.size≤b:=fun b hb=>P3.inn.new b hb;have hWge:∀ b,Pl.W kq qs b→W.heap.size≤b∧b<w3.heap.size:=fun b hb=>P3.ge hb;have hkb:0<ks.length→∀ b,qQb kv=some b→qQb iv≠some b:=fun h0 b hb h=>by have:=hk.blk2 h0 hb;have:=hivn b h;omega
 have hkW:ks≠[]→∀ b,qQb kv=some b→¬ Pl.W kq qs b:=fun hn b hb h=>by have:=hk.blk2 (List.length_pos_iff.2 hn) hb;have:=(hWge b h).1;omega
 have rrW:∀ {F:Nat→Prop} w',Fr F W w'→(∀ b,F b→W.heap.size≤b)→rdO prog 23 w' w.heap.size 0=some (dg root):=fun w' f hF=>rd_d agg23 sz23 (f.at k1 fun h=>by have:=hF _ h;omega) hroot;simp -implicitDefEqProofs only[go_sem];refine qQa pl11 ((known w3 (ht.no f03)).mono ?_);rintro _ w4 ⟨rfl,f4⟩;have f04:=f03.trans f4;have r4:=rrW w4 (f3.trans f4) fun _ h=>h.elim;have z4:=(f3.trans f4).size;simp -implicitDefEqProofs only[go_sem,jF,gLa,gLz,gLs,r4,bSe];refine qQa pl17 ((gathered W w4 (ht.no f04) z4 wd hroot (P3.fr0 f4) (by omega) (hk.fr0 f04) hkb ((hts.old fun b h=>by have:=hivn b h;omega).fr f04 fun _ h=>h.elim) hl htl (by omega)).mono ?_);rintro _ w5 ⟨rfl,P5,g5⟩;have f05:No w w5:=f04.trans' g5 fun b hb h=>by have:=hivn b h;omega
 have gW5:Fr (fun b=>W.heap.size≤b) W w5:=((f3.trans f4).mono fun _ _ h=>h.elim).trans (g5.mono fun b _ h=>hivn b h)
 by_cases h0:raws.length=0
 ·have d1:(((raws.length:Nat):Int) == 0)=true:=by rw[h0];rfl
  simp -implicitDefEqProofs only[go_sem,jF,gLa,gLz,gLs,bSe,d1];exact f05
 have d1:(((raws.length:Nat):Int) == 0)=false:=by rw[bFn];omega
 have hp0:0<raws.length:=by omega
 obtain⟨vals,hv1,hv20,_,hv40⟩:=id hts;have hv2:=hv20.fr f05 fun _ _ _ h=>h;have hv4:=fun i a b=>(hv40 i a b).1.fr0 f05;obtain⟨nc,c,w6,hnc,hr6,k6,hc6,hcs6,f6⟩:=app_nil (P:=prog) app37_37 hv2 hp0 (by omega) (by omega);simp -implicitDefEqProofs only[go_sem,jF,gLa,gLz,gLs,bSe,d1];refine qQg ⟨_,w6,hr6,?_⟩;have f06:=f05.trans f6;obtain⟨tb,to,tc',xv,e1,hx,_,hxr⟩:=hts.at hp0;cases e1;obtain⟨ya,yc,rfl,_⟩:=hx.slice;have rx:=hxr w6 f06;have rxd:=hxr w6.drew f06.drew;rw[Nat.add_zero]at rx rxd;have y1:(0:Int)≤0∧(0:Int)<((raws.length:Nat):Int):=by omega
 have htt:(raws.getD 0 []).length≤2 ^ 47:=by rw[qQi _ hp0];exact htl _ (List.getElem_mem _)
 simp -implicitDefEqProofs only[go_sem,jF,gLa,gLz,y1,and_self,if_true,Int.toNat_zero,Nat.zero_mul,rxd];have hxl:(raws.getD 0 []).length<2 ^ 62:=by omega
 refine qQa pl13 ((other w6.drew (hx.fr0 f06.drew) htt (raws.getD 0 []).length hxl).mono ?_);rintro v7 w7 ⟨n7,f7⟩;have ho:=oth_len (raws.getD 0 []) (raws.getD 0 []).length;generalize oth (raws.getD 0 []) (raws.getD 0 []).length=o at *;have f67:No w6 w7:=(Fr.refl _ _).drew.trans f7;have f57:=f6.trans f67;have k7:=f67.at k6 id;have z56:=f6.size;have z6:=qQh k6;have o7:one v7=true:=by obtain⟨a,c,rfl⟩:=n7.slice;rfl
 have q8:wrO prog 25 w7 w5.heap.size 0 v7=some (put w7 w5.heap.size (.cells (c.setIfInBounds 0 v7) 25 (0,0))):=wr1 (P:=prog) sz25 o7 k7 (by omega);have k8:=qQf (o:=.cells (c.setIfInBounds 0 v7) 25 (0,0)) k7;have f58:No w5 (put w7 w5.heap.size (.cells (c.setIfInBounds 0 v7) 25 (0,0))):=f57.put (b:=w5.heap.size) _ fun h=>absurd h (Nat.lt_irrefl _);have f78:Fr (fun b=>b=w5.heap.size) w7 (put w7 w5.heap.size (.cells (c.setIfInBounds 0 v7) 25 (0,0))):=(Fr.refl _ _).put (b:=w5.heap.size) _ fun _=>rfl
 obtain⟨w8,hw8⟩:∃ w8,w8=put w7 w5.heap.size (.cells (c.setIfInBounds 0 v7) 25 (0,0)):=⟨_,rfl⟩
 rw[← hw8]at q8 k8 f58 f78;have f08:=f05.trans f58;have z35:w3.heap.size≤w5.heap.size:=by have:=f4.size;have:=g5.size;omega
 have n8:By w8 v7 o:=n7.by.fr f78 fun b hb _ h=>by have:=(n7.lt hb).1;have:w6.drew.heap.size=w6.heap.size:=rfl;omega
 have hts8:TsA w8 (.slice (some ⟨w5.heap.size,0,.none⟩) raws.length nc) (raws.set 0 o) fun b=>W.heap.size≤b∧b<w5.heap.size:=by
  refine⟨vals.set 0 v7,by rw[jY,jY];exact hv1,?_,fun _ b hb h=>?_,fun i a b=>?_⟩
  ·rw[jY]
   refine⟨by rw[jY,hv1,Nat.mul_one],_,_,rfl,hnc,fun _=>⟨_,_,rfl,fun i hi=>?_⟩⟩;rw[qXd k8,z8]
   by_cases hi0:i=0
   ·subst hi0
    rw[Array.getElem?_setIfInBounds_self_of_lt (by omega),List.getElem?_set_self (by omega)]
   ·rw[Array.getElem?_setIfInBounds_ne (by omega),List.getElem?_set_ne (by omega),hcs6 i (by omega)]
  ·simp only[qQb,oSi]at hb;omega
  ·rw[jY]at a b
   by_cases hi0:i=0
   ·subst hi0
    simp only[List.getElem_set_self];exact⟨n8,fun _ b hb h=>by have:=(n7.lt hb).1;have:w6.drew.heap.size=w6.heap.size:=rfl;omega⟩
   ·simp only[List.getElem_set_ne (fun h:0=i=>hi0 h.symm)]
    have hB:=hv4 i a b;refine⟨(hB.fr0 f57).fr' f78 fun hn b hb h=>by have:=hB.blk0 hn hb;omega,fun hn b' hb h=>?_⟩;have:=(hv40 i a b).1.blk0 hn hb;omega
 have P8:=P5.fr0 f58;have hz8:=f58.size;simp -implicitDefEqProofs only[go_sem,jF,y1,and_self,if_true,Int.toNat_zero,Nat.zero_mul,q8];refine qQa pl14 ((over W w8 P8 (hk.fr0 f08) rfl hkW (hts8.mono fun b h=>by have:=hWge b h;exact⟨this.1,by omega⟩) (set_set raws o) (set_len raws ho) (by omega) (fun t ht'=>by have:=htl t ht';omega) (by omega)).mono ?_);rintro _ w9 ⟨rfl,P9,g9⟩;have f09:No w w9:=f08.trans' g9 fun b hb h=>by have:=(hWge b h).1;omega
 have g89:Fr (fun b=>W.heap.size≤b∧b<w5.heap.size) w8 w9:=g9.mono fun b _ h=>by have:=hWge b h;exact⟨this.1,by omega⟩
 have hts9:=hts8.fr g89 fun _ h=>h;have hivl:∀ b,qQb iv=some b→b<w5.heap.size:=fun b hb=>P5.inn.own.lt hb;have gW9:Fr (fun b=>W.heap.size≤b) W w9:=(gW5.trans (f58.mono fun _ _ h=>h.elim)).trans (g89.mono fun b _ h=>h.1);have r9:=rrW w9 gW9 fun _ h=>h;have z9:=gW9.size
 have htl9:∀ t ∈ raws.set 0 o,t.length≤2 ^ 47:=fun t ht'=>by
  rcases List.mem_or_eq_of_mem_set ht' with h | h
  ·exact htl t h
  ·rw[h];omega
 simp -implicitDefEqProofs only[go_sem,jF,r9];refine qQa pl17 ((gathered W w9 (ht.no f09) z9 wd hroot P9 (by omega) (hk.fr0 f09) hkb (hts9.mono fun b h=>⟨hivn b h,hivl b h⟩) hl htl9 (by rw[set_set];omega)).mono ?_);rintro _ wa ⟨rfl,Pa,ga⟩;have f0a:No w wa:=f09.trans' ga fun b hb h=>by have:=hivn b h;omega
 have gWa:Fr (fun b=>W.heap.size≤b) W wa:=gW9.trans (ga.mono fun b _ h=>hivn b h);simp -implicitDefEqProofs only[go_sem,jF];refine qQa pl14 ((over W wa Pa (hk.fr0 f0a) rfl hkW ((hts.old fun b h=>by have:=(hWge b h).1;omega).fr f0a fun _ h=>h.elim) (set_set raws o).symm (fun i=>(set_len raws ho i).symm) (by omega) (fun t ht'=>by have:=htl9 t ht';omega) (by rw[set_set];omega)).mono ?_);rintro _ wb ⟨rfl,Pb,gb⟩;have f0b:No w wb:=f0a.trans' gb fun b hb h=>by have:=(hWge b h).1;omega
 have gWb:Fr (fun b=>W.heap.size≤b) W wb:=gWa.trans (gb.mono fun b _ h=>(hWge b h).1);have rb:=rrW wb gWb fun _ h=>h;simp -implicitDefEqProofs only[go_sem,jF,rb];refine qQa pl17 ((gathered W wb (ht.no f0b) gWb.size wd hroot Pb (by omega) (hk.fr0 f0b) hkb ((hts.old fun b h=>by have:=hivn b h;omega).fr f0b fun _ h=>h.elim) hl htl (by omega)).mono ?_);rintro _ wc ⟨rfl,Pc,gc⟩;simp -implicitDefEqProofs only[go_sem];exact f0b.trans' gc fun b hb h=>by have:=hivn b h;omega
end Go.V
