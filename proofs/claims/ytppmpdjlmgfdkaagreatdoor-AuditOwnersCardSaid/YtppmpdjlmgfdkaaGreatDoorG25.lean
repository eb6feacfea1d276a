/- Helpers. -/
import Derived.Test.YtppmpdjlmgfdkaaGreatDoorG24
import Derived.Test.YtppmpdjlmgfdkaaGreatDoorG22
set_option linter.all false
set_option maxRecDepth 100000
set_option maxHeartbeats 8000000
open Array renaming replicate→xL
open List renaming replicate→zV,take_of_length_le→zT
open Nat renaming reduceEqDiff→jY,zero_add→zB,reduceAdd→y7,lt_irrefl→jF,add_zero→jA,le_refl→xT
open Go.Value renaming cells→jH
namespace Go.V
open Go.Proofs.Tryz Go.V.Tryz
variable {k val:Bs} {wd:Int} {b h i:Nat} {bv nv:Value}
section
open Go.Proofs
namespace A
open Aud
theorem decN_len {kd:Nat}{ld:Bs}{n:Nd}(h:decN kd ld=some n)(vv:Value):(ndA n vv).length=102:=by
 unfold decN at h;split at h
 ·split at h
  ·rename_i hc;cases h;exact qQz z32l z32l (by rw[lTk];omega) _
  ·cases h
 ·split at h
  ·rename_i hc
   cases h;exact qQz (by rw[lTk,lDr];omega) (by rw[lTk,lDr];omega) z32l _
  ·cases h
section
variable {u w w':World} {sb:Nat} {iv:Value} {im:Bs} {s:Sup} {mn mr:Nat} {cv vv fv bv:Value} {nl rl:List (Nat × Value)} {pg:Nat→Option Pg} {k:Nat} {fs:List (Nat × Int)}
theorem loadsWrong (h:SgM u w sb iv im s mn mr cv vv fv bv nl rl pg k fs)(hu:No u w){b o cap:Nat}(he:iv=.slice (some ⟨b, o, none⟩) im.length cap)(hbu:b<u.heap.size)(hcap:im.length≤cap)(hl:im.length≤2 ^ 47)(hp:256*k+256≤im.length)(h2:2≤k)(h4:k<4096)
  (hpg:pg k=(match qXp k (pgB im k) with | .ok g=>some g | .error _=>none)) :
  Fn prog 230 #[.agg #[],pt sb 0,.int .i64 (k:Nat)] w (LoQ u w sb iv im s mn mr cv vv fv bv pg k fs (errP (qXp k (pgB im k)))):=by
 refine go230 (by simp) ?_;obtain⟨W,hW,f1,_,s1⟩:=qQl w #[] 174;have d1:=dFo ((k:Int)<2);simp -implicitDefEqProofs only[go_sem,jY,y7,jH,zB,Tryz.f230,hW,d1];have h':=h.fr0 f1;refine qQa pl42 ((sight_page h' he hcap hl hp).mono ?_);rintro _ _ ⟨rfl,rfl⟩;have hi:=h'.img;rw[he]at hi;have hpb:=page_by hi hp hcap;have hlen:(pgB im k).length=256:=pgB_len hp;simp -implicitDefEqProofs only[go_sem,jY];refine qQa pl231 ((unpack _ hpb (by omega) h2 h4).mono ?_);rintro v w2 ⟨f2,hv⟩;have f02:=f1.trans f2;have g2:=h.fr0 f02;have nof:∀ {w'},No w w'→Fr (LdB sb mn mr cv) w w':=fun f=>f.mono fun _ _ h=>h.elim
 cases hun:unpP k (pgB im k) with
 | error e =>
  rw[hun]at hv;subst hv;have ha:qXp k (pgB im k)=.error e:=by unfold qXp;rw[hun]
  have hn:(e != 0)=true:=by rw[bne_iff_ne];exact unpP_err hun
  rw[ha]at hpg ⊢;simp -implicitDefEqProofs only[go_sem,jY,gLa,gLz,gLs,hn];exact⟨rfl,nof f02,cv,nl,rl,g2.skip hpg⟩
 | ok kl =>
  obtain⟨kd,ld⟩:=kl;rw[hun]at hv;obtain⟨x,rfl,hx⟩:=hv;have hll:ld.length≤246:=((unp_iff hlen h4).1 hun).2.1;have k3:((kd:Int) == 3)=decide (kd=3):=nateq kd 3;have nouw:No u w2:=hu.trans f02
  have hxb:By w2 x ld:=hx.by
  by_cases h3:kd=3
  ·rw[decide_eq_true h3]at k3
   simp -implicitDefEqProofs only[go_sem,jY,gLa,gLz,gLs,bNe,k3];refine qQa pl232 ((rdecode w2 hxb (by omega)).mono ?_);rintro v w3 ⟨f3,hv⟩;have f03:=f02.trans f3;have g3:=h.fr0 f03
   have hrc:∀ r':Rc,r'.sum.length=32→∃ W,wrO prog 80 (w3.alloc (.cells (rcC rc00).toArray 80)) w3.heap.size 0 (.agg (rcC r').toArray)=some W∧No w3 W∧W.heap[w3.heap.size]?=some (.cells (rcC r').toArray 80 (0,0)):=fun r' hs=>by
    obtain⟨W4,hW4,f4,k4,s4⟩:=qQl w3 (rcC rc00).toArray 80;rw[hW4];refine⟨_,qQr (by simp[qXh hs];exact sz80) k4 (by simp[qXh hs,qXh (r:=rc00) (by simp)]) (by simpa using qJp r'),f4.put (b:=w3.heap.size) _ fun h=>absurd h (jF _),qQd (o:=.cells (rcC r').toArray 80 (0,0)) k4⟩
   cases hd:decR ld with
   | none =>
    rw[hd]at hv;subst hv;have ha:qXp k (pgB im k)=.error 150:=by unfold qXp;rw[hun];simp only[h3,if_true,hd]
    rw[ha]at hpg ⊢;obtain⟨W4,q4,f4,k4⟩:=hrc rc00 (by simp);simp -implicitDefEqProofs only[go_sem,jY,gLa,gLz,gLs,jH,zB,qQk,rcZero,q4];exact⟨rfl,nof (f03.trans f4),cv,nl,rl,(g3.fr0 f4).skip hpg⟩
   | some r =>
    rw[hd]at hv;subst hv;have ha:qXp k (pgB im k)=.ok (.rc r):=by unfold qXp;rw[hun];simp only[h3,if_true,hd]
    rw[ha]at hpg ⊢;have hpg:pg k=some (.rc r):=hpg
    have hrs:r.sum.length=32:=by
     unfold decR at hd;split at hd
     ·rename_i hc;cases hd;show ((ld.drop 24).take 32).length=32;rw[lTk,lDr];omega
     ·cases hd
    obtain⟨W4,q4,f4,k4⟩:=hrc r hrs;have g4:=g3.fr0 f4;have lr:=qQo (P:=prog) (t:=80) (w:=W4.drew) agg80 sz80 k4 (by simp[qXh hrs]);have rm:rdO prog 69 W4.drew sb 7=some (.map (some mr)):=rd1 (w:=W4.drew) agg69 g4.row rfl;obtain⟨ob,hpo,hof,hput⟩:=g4.rcs.put keyN (k:=k) trivial (.agg (rcC r).toArray);have hpo:putE prog 3 W4.heap[mr]? (.int .i64 (k:Nat)) (.agg (rcC r).toArray)=some ob:=hpo;obtain⟨es1,c1,hm1,_⟩:=id g4.nds;obtain⟨es2,c2,hm2,_⟩:=id g4.rcs;have f5:Fr (fun b=>b=mr) W4 (put W4.drew mr ob):=((Fr.refl _ _).drew).put (b:=mr) ob (fun _=>rfl) hof;have k5:=qQi (w:=W4.drew) (b:=mr) (o:=ob) (show W4.drew.heap[sb]?=_ from g4.row) (fun e=>by subst e;rw[g4.row]at hm2;cases hm2);have r5:rdO prog 45 (put W4.drew mr ob) sb 8=some cv:=rd1 agg45 k5 rfl;have offm:∀ b c el,W4.heap[b]?=some (.cells c el (0,0))→b≠mr:=fun b c el hb e=>by subst e;rw[hb]at hm2;cases hm2
    have n5:NwR u (put W4.drew mr ob) 3 1 cv (inR (chK pg k)):=g4.chn.fr f5 fun b hb=>by obtain⟨c,hc⟩:=qXg g4.chn hb;exact offm _ _ _ hc
    have hus:u.heap.size≤W4.heap.size:=by have:=hu.size;have:=f03.size;have:=f4.size;omega
    have hlen:(chK pg k).length≤k:=by unfold chK;exact Nat.le_trans (List.length_filter_le _ _) (by simp)
    obtain⟨v8,w8,hr8,b8,g8,m8⟩:=n5.push (P:=prog) app45_45 (xs:=[.int .i64 (k:Nat)]) rfl rfl (by decide) (by rw[qQv];omega) (by rw[qQv];omega) (by have:=f5.size;omega);simp -implicitDefEqProofs only[go_sem,jY,gLa,gLz,gLs,jH,bSe,zB,qQk,rcZero,q4,nilOk,rm,lr,hpo,r5];have hpz:(put W4.drew mr ob).heap.size=W4.heap.size:=by simp[put]
    rw[hpz]at hr8;refine qQp (v:=.slice (some ⟨W4.heap.size,0,none⟩) 1 1) (w':=(put W4.drew mr ob).alloc (.cells #[.int .i64 (k:Nat)] 3)) (qZk (K:=1) (by decide) (by decide) (y:=[.int .i64 0]) rfl rfl rfl _) ?_;simp -implicitDefEqProofs only[go_sem,jY];refine qQj ⟨v8,w8,hr8,?_⟩
    have hcb:∀ b,qQg cv=some b→b≠sb:=fun b hb he=>by
     obtain⟨c,hc⟩:=qXg g4.chn hb;subst he;rw[g4.row]at hc;cases hc
    have k8:=g8.at k5 fun hb=>hcb _ hb rfl;have o8:one v8=true:=by obtain⟨a,c,e,_⟩:=b8.rd.slice;rw[e];rfl
    have q8:=wr1 (P:=prog) (t:=45) (o:=8) (v:=v8) sz45 o8 k8 (show 8<12 by decide);simp -implicitDefEqProofs only[go_sem,jY,zB,nilOk,q8]
    have f48:Fr (LdB sb mn mr cv) W4 (put w8 sb (.cells (sgC iv s mn mr v8 vv fv bv) 73 (0,0))) :=
     (((f5.mono (G:=LdB sb mn mr cv) fun b _ hb=>.inr (.inr (.inl hb))).trans (g8.mono (G:=LdB sb mn mr cv) fun b _ hb=>.inr (.inr (.inr hb))))).put (b:=sb) _ fun _=>.inl rfl
    have off:∀ b c el,W4.heap[b]?=some (.cells c el (0,0))→el≠73→el≠3→¬ LdB sb mn mr cv b:=fun b c el hb h1 h2 hf=>by
     rcases hf with rfl | rfl | rfl | hf
     ·rw[g4.row]at hb;cases hb;exact h1 rfl
     ·rw[hb]at hm1;cases hm1
     ·rw[hb]at hm2;cases hm2
     ·obtain⟨c',hc'⟩:=qXg g4.chn hf
      rw[hb]at hc';cases hc';exact h2 rfl
    have hsb1:mr≠sb:=fun e=>by subst e;rw[g4.row]at hm2;cases hm2
    have hsb2:mn≠sb:=fun e=>by subst e;rw[g4.row]at hm1;cases hm1
    have hcm:∀ b,qQg cv=some b→b≠mn∧b≠mr:=fun b hb=>by
     obtain⟨c,hc⟩:=qXg g4.chn hb;exact⟨(fun e=>by subst e;rw[hm1]at hc;cases hc),(fun e=>by subst e;rw[hm2]at hc;cases hc)⟩
    refine⟨rfl,(nof (f03.trans f4)).trans f48,v8,nl,_,qQd (o:=.cells (sgC iv s mn mr v8 vv fv bv) 73 (0,0)) k8,g4.img.fr f48 fun b' hb _ hf=>?_,?_,hput _ ?_,h.hne,h.hsb,h.hmn,h.hmr,?_,g4.fnd.fr f48 fun b' hb=>?_,(g4.na.fr f48 fun b' c hb=>off _ _ _ hb (by decide) (by decide)).skip (fun n e=>by rw[hpg]at e;cases e),g4.ra.add hpg,h.ov,h.ob⟩
    ·rw[he]at hb
     simp only[qQg,oSi]at hb;subst hb
     rcases hf with rfl | rfl | rfl | hf
     ·have:=h.hsb;omega
     ·have:=h.hmn;omega
     ·have:=h.hmr;omega
     ·have:=(h.chn.lt hf).1;omega
    ·exact⟨es1,c1,qQi (g8.at (qQi (w:=W4.drew) hm1 (fun e=>h.hne e.symm)) fun hb=>(hcm _ hb).1 rfl) (fun e=>hsb2 e.symm),by assumption⟩
    ·exact qQi (g8.at (qQd (w:=W4.drew) hm2) fun hb=>(hcm _ hb).2 rfl) (fun e=>hsb1 e.symm)
    ·have e9:inR (chK pg (k+1))=inR (chK pg k)++[[.int .i64 (k:Nat)]]:=by
      rw[chK_succ,hpg];unfold inR;rw[if_pos (show isRc (some (.rc r))=true from rfl),List.map_append];rfl
     rw[e9];refine⟨b8.1,Nw.fr b8.2 (F:=fun b=>b=sb) ((Fr.refl _ _).put (b:=sb) _ fun _=>rfl) fun b hb he=>?_⟩;subst he
     rcases m8 _ hb with h' | h'
     ·exact hcb _ h' rfl
     ·have:=qQh k5;omega
    ·obtain⟨c,hc⟩:=qXg g4.fnd hb
     exact off _ _ _ hc (by decide) (by decide)
  rw[decide_eq_false h3]at k3;simp -implicitDefEqProofs only[go_sem,jY,gLa,gLz,gLs,bNe,k3];refine qQa pl233 ((decode w2 kd hxb (by omega)).mono ?_);rintro v w3 ⟨f3,hv⟩;have f03:=f02.trans f3;have g3:=h.fr0 f03
  have hnd:∀ c:List Value,c.length=102→c.all one=true→∃ W,wrO prog 78 (w3.alloc (.cells nd0.toArray 78)) w3.heap.size 0 (.agg c.toArray)=some W∧No w3 W∧W.heap[w3.heap.size]?=some (.cells c.toArray 78 (0,0)):=fun c hc ho=>by
   obtain⟨W4,hW4,f4,k4,s4⟩:=qQl w3 nd0.toArray 78;rw[hW4];refine⟨_,qQr (by simp[hc];exact sz78) k4 (by simp[hc,qQz z32l z32l z32l]) (by simpa using ho),f4.put (b:=w3.heap.size) _ fun h=>absurd h (jF _),qQd (o:=.cells c.toArray 78 (0,0)) k4⟩
  cases hd:decN kd ld with
  | none =>
   rw[hd]at hv;subst hv;have ha:qXp k (pgB im k)=.error 90:=by unfold qXp;rw[hun];simp only[h3,if_false,hd]
   rw[ha]at hpg ⊢;obtain⟨W4,q4,f4,k4⟩:=hnd nd0 (qQz z32l z32l z32l _) (qZy _ _ _ _ _ _ _ _ rfl);simp -implicitDefEqProofs only[go_sem,jY,gLa,gLz,gLs,jH,zB,qQk,ndZero,q4];exact⟨rfl,nof (f03.trans f4),cv,nl,rl,(g3.fr0 f4).skip hpg⟩
  | some n =>
   rw[hd]at hv;obtain⟨x,rfl,vv',rfl,ov',nb',e2'⟩:=hv;have ha:qXp k (pgB im k)=.ok (.nd n):=by unfold qXp;rw[hun];simp only[h3,if_false,hd]
   rw[ha]at hpg ⊢;have hpg:pg k=some (.nd n):=hpg;have hlen:(ndA n vv').length=102:=decN_len hd vv'
   have hone:(ndA n vv').all one=true:=by cases n <;> exact qZy _ _ _ _ _ _ _ _ ov'
   obtain⟨W4,q4,f4,k4⟩:=hnd (ndA n vv') hlen hone;have g4:=g3.fr0 f4;have lr:=qQo (P:=prog) (t:=78) (w:=W4.drew) agg78 sz78 k4 (by simp[hlen]);have rm:rdO prog 68 W4.drew sb 6=some (.map (some mn)):=rd1 (w:=W4.drew) agg68 g4.row rfl;obtain⟨ob,hpo,hof,hput⟩:=g4.nds.put keyN (k:=k) trivial (.agg (ndA n vv').toArray);have hpo:putE prog 3 W4.heap[mn]? (.int .i64 (k:Nat)) (.agg (ndA n vv').toArray)=some ob:=hpo;obtain⟨es1,c1,hm1,_⟩:=id g4.nds;obtain⟨es2,c2,hm2,_⟩:=id g4.rcs;have f5:Fr (fun b=>b=mn) W4 (put W4.drew mn ob):=((Fr.refl _ _).drew).put (b:=mn) ob (fun _=>rfl) hof;have offm:∀ b c el,W4.heap[b]?=some (.cells c el (0,0))→b≠mn:=fun b c el hb e=>by subst e;rw[hb]at hm1;cases hm1
   have nd:NdM u W4 n (.agg (ndA n vv').toArray):=⟨vv',rfl,ov',(nb'.back (by have:=hu.size;have:=f02.size;omega)).fr0 f4,e2'⟩
   simp -implicitDefEqProofs only[go_sem,jY,gLa,gLz,gLs,jH,bSe,zB,qQk,ndZero,q4,nilOk,rm,lr,hpo];refine⟨rfl,(nof (f03.trans f4)).trans (f5.mono fun b _ hb=>.inr (.inl hb)),cv,_,rl,f5.at g4.row (offm _ _ _ g4.row),g4.img.fr f5 fun b' hb _ hf=>?_,hput _ (qQd (w:=W4.drew) hm1),g4.rcs.fr f5 fun e=>h.hne e.symm,h.hne,h.hsb,h.hmn,h.hmr,?_,g4.fnd.fr f5 fun b' hb=>?_,(g4.na.fr f5 fun b' c hb=>offm _ _ _ hb).add hpg (nd.fr f5 fun b' c hb=>offm _ _ _ hb),g4.ra.skip (fun n e=>by rw[hpg]at e;cases e),h.ov,h.ob⟩
   ·rw[he]at hb
    simp only[qQg,oSi]at hb;have:=h.hmn;omega
   ·have e9:chK pg (k+1)=chK pg k:=by rw[chK_succ,hpg];rfl
    rw[e9];exact g4.chn.fr f5 fun b hb=>by obtain⟨c,hc⟩:=qXg g4.chn hb;exact offm _ _ _ hc
   ·obtain⟨c,hc⟩:=qXg g4.fnd hb
    exact offm _ _ _ hc
end
end A
end
section
open Go.Proofs Sha
namespace A
open Aud
def zds:List Bs:=zV 257 z32
theorem zds_all:All32 zds:=fun d h=>by rw[List.eq_of_mem_replicate h];simp
theorem flat_zds:flat zds=zV (257*32) (.int .u8 0):=by
 unfold flat zds;rw[List.map_replicate]
 have:∀ n,(zV n (z32.map u8)).flatten=zV (n*32) (Value.int .u8 0):=fun n=>by
  induction n with
  | zero=>rfl
  | succ n ih =>
   rw[List.replicate_succ,List.flatten_cons,ih,Nat.add_mul,Nat.add_comm (n*32),← List.replicate_append_replicate]
   congr 1
 exact this 257
theorem mk257 (u w:World)(hu:u.heap.size≤w.heap.size):∃ w',(Instr.makeSlice 71 (.int .i64 257) (.int .i64 257)).run prog w=.ok (.slice (some ⟨w.heap.size,0,none⟩) 257 257) w'∧NwD u w' 75 (.slice (some ⟨w.heap.size,0,none⟩) 257 257) zds∧No w w'∧w'.heap.size=w.heap.size+1:=by
 have:=run_mk (P:=prog) (t:=71) (by':=32) slc71 sz75 by75 zero75 (l:=257) (c:=257) (xT _) (by decide) (by decide) .i64 .i64 w;refine⟨_,this,⟨zds_all,?_⟩,(Fr.refl _ _).alloc _,qQc _ _⟩;have h:=mk_nw u w 75 32 257 257 (madeCells (Value.agg (xL 32 (.int .u8 0))).cells (257*32)) hu (by simp[madeCells]) (xT _);rw[flat_zds]
 have e:(madeCells (Value.agg (xL 32 (.int .u8 0))).cells (257*32)).toList.take (257*32)=zV (257*32) (.int .u8 0):=by
  show (madeCells (xL 32 (.int .u8 0)) (257*32)).toList.take (257*32)=_;rw[madeCells_rep _ 32 _ (by decide),Array.toList_replicate,zT (by rw[lRe];exact xT _)]
 rw[e]at h;exact h
theorem allocD (w:World){ty:TypeId}(hz:szO prog ty=some 32){d:Bs}(hd:d.length=32):∃ W, wrO prog ty (w.alloc (.cells (bl (zV 32 0)) ty)) w.heap.size 0 (dg d)=some W ∧
  W.heap[w.heap.size]?=some (.cells (bl d) ty (0,0))∧No w W∧W.heap.size=w.heap.size+1:=by
 have k:=qQb w (.cells (bl (zV 32 0)) ty);refine⟨_,wr_d hz k zl32 hd,qQd k,((Fr.refl _ _).alloc _).put (b:=w.heap.size) _ fun h=>absurd h (jF _),?_⟩;simp[put]
def bdL (wd:Int)(i:Nat):List Bs:=(empts wd 257).take i++zds.drop i
theorem bdL_zero (wd:Int):bdL wd 0=zds:=rfl
theorem bdL_full (wd:Int):bdL wd 257=empts wd 257:=by
 unfold bdL;rw[zT (by rw[qXm];exact xT _),List.drop_of_length_le (by simp[zds]),List.append_nil]
theorem bdL_len (wd:Int)(h:i≤257):(bdL wd i).length=257:=by
 unfold bdL;rw[lAp,lTk,lDr,qXm];simp[zds];omega
theorem bdL_set (wd:Int)(h:i<257):(bdL wd i).set i (emptD wd i)=bdL wd (i+1):=by
 unfold bdL;have h1:((empts wd 257).take i).length=i:=by rw[lTk,qXm];omega
 have hz:i<zds.length:=by simp[zds];exact h
 rw[List.set_append_right _ _ (by omega),h1,Nat.sub_self,List.drop_eq_getElem_cons hz,List.set_cons_zero,tSg (by rw[qXm];exact h)];simp[empts]
def Blank (u w:World)(wd:Int)(bv:Value):Prop:=bv=.slice none 0 0∨NwD u w 75 bv (empts wd 257)
theorem Blank.fr {u w w':World}{F:Nat→Prop}(h:Blank u w wd bv)(f:Fr F w w')(hf:∀ b c,w.heap[b]?=some (.cells c 75 (0,0))→u.heap.size≤b→qQg bv=some b→¬ F b):Blank u w' wd bv:=by
 rcases h with h | h
 ·exact .inl h
 ·refine .inr (h.fr f fun b hb=>?_)
  rcases h.2.own with ⟨rfl,_⟩ | ⟨b',o',cap,c,rfl,hc,_⟩
  ·cases hb
  ·have:=(h.lt hb).1
   have e:b'=b:=by simpa [qQg] using hb
   subst e;exact hf _ _ hc this rfl
theorem Blank.one {u w:World}{wd:Int}{bv:Value}(h:Blank u w wd bv):one bv=true:=by
 rcases h with rfl | h
 ·rfl
 ·obtain⟨a,c,e,_⟩:=h.rd.slice;rw[e];rfl
def baI (u w0:World)(sb rb db nb:Nat)(wd:Int)(R:Value→Array Value)(hv:Value)(n:Nat)(vs:List Value)(w:World):Prop :=
 ∃ (i:Nat),vs=[pt sb 0,hv,pt rb 0,pt db 0,.int .i64 257,.int .i64 (i:Nat)]∧i≤257∧n=257 - i∧w.heap[sb]?=some (.cells (R (.slice (some ⟨nb,0,none⟩) 257 257)) 73 (0,0))∧w.heap[db]?=some (.cells (bl (emptD wd i)) 75 (0,0))∧w.heap[rb]?=some (.cells (bl (zV 32 0)) 75 (0,0)) ∧
  NwD u w 75 (.slice (some ⟨nb,0,none⟩) 257 257) (bdL wd i)∧Fr (fun b=>b=sb) w0 w
theorem bare (u w0:World)(ht:Tabs w0)(hu:u.heap.size≤w0.heap.size){sb:Nat}(hsb:5≤sb){iv:Value}{s:Sup}{mn mr:Nat}{cv vv fv bv:Value}(hrow:w0.heap[sb]?=some (.cells (sgC iv s mn mr cv vv fv bv) 73 (0, 0)))(hB:Blank u w0 s.width bv)(hh:h<257) :
  Fn prog 125 #[pt sb 0,.int .i64 (h:Nat)] w0 fun v w'=>v=dg (emptD s.width h)∧Fr (fun b=>b=sb) w0 w'∧∃ bv',w'.heap[sb]?=some (.cells (sgC iv s mn mr cv vv fv bv') 73 (0,0))∧NwD u w' 75 bv' (empts s.width 257)∧(bv'=bv∨∀ b,qQg bv'=some b→w0.heap.size≤b):=by
 generalize hwd:(s.width:Int)=wd at *;refine go125 (by simp) ?_;obtain⟨W,hW,f1,k1,s1⟩:=qQl w0 (bl (zV 32 0)) 75;have kS:=f1.at hrow id;have rlt:w0.heap.size≠sb:=by have:=qQh hrow;omega
 have r1:rdO prog 71 W sb 11=some bv:=rd1 agg71 kS rfl;have hdl:=qQu wd h;have y1:=iBd (i:=h) (n:=257)
 have fin:∀ (w:World) (bv':Value), w.heap[w0.heap.size]?=some (.cells (bl (zV 32 0)) 75 (0, 0))→Fr (fun b=>b=sb) w0 w→w.heap[sb]?=some (.cells (sgC iv s mn mr cv vv fv bv') 73 (0, 0))→NwD u w 75 bv' (empts wd 257)→(∀ b, qQg bv'=some b→b≠w0.heap.size)→(bv'=bv∨∀ b, qQg bv'=some b→w0.heap.size≤b) →
   ∃ b o cap v,bv'=.slice (some ⟨b,o,none⟩) 257 cap∧rdO prog 75 w b (o+h*32)=some (dg (emptD wd h))∧wrO prog 75 w w0.heap.size 0 (dg (emptD wd h))=some v∧rdO prog 75 v w0.heap.size 0=some (dg (emptD wd h)) ∧
    Fr (fun b=>b=sb) w0 v∧∃ bv',v.heap[sb]?=some (.cells (sgC iv s mn mr cv vv fv bv') 73 (0,0))∧NwD u v 75 bv' (empts wd 257)∧(bv'=bv∨∀ b,qQg bv'=some b→w0.heap.size≤b):=fun w bv' k f kR hN hne hor=>by
  have hR:=hN.rd;obtain⟨b,o,cap,he,_,hbl⟩:=hR.pos (by rw[qXm];omega);rw[qXm]at he;subst he;have g:=hR.get (P:=prog) agg75 sz75 (i:=h) (by rw[qXm];exact hh);have eg:(empts wd 257).getD h []=emptD wd h:=by rw[gDq,empts_at wd 257 hh];rfl
  rw[eg]at g;have fp:Fr (fun b=>b=w0.heap.size) w (put w w0.heap.size (.cells (bl (emptD wd h)) 75 (0,0))):=(Fr.refl _ _).put (b:=w0.heap.size) _ fun _=>rfl
  exact⟨b,o,cap,_,rfl,g,wr_d sz75 k zl32 hdl,rd_d agg75 sz75 (qQd (o:=.cells (bl (emptD wd h)) 75 (0,0)) k) hdl,
   f.put (b:=w0.heap.size) _ (fun h=>absurd h (jF _)),_,fp.at kR (fun h=>rlt h.symm),hN.fr fp (fun c hc h=>hne c hc h),hor⟩
 rcases hB with rfl | hN
 ·obtain⟨w2,hr2,n2,f2,s2⟩:=mk257 u W (by have:=f1.size;omega)
  simp -implicitDefEqProofs only[go_sem,jY,jH,zB,qQk,Tryz.f125,hW,nilOk,r1];refine qQj ⟨_,_,hr2,?_⟩;have kS2:=f2.at kS id;have q3:=wr1 (P:=prog) (t:=71) (o:=11) (v:=.slice (some ⟨W.heap.size,0,none⟩) 257 257) sz71 rfl kS2 (show 11<12 by decide);have kS3:=qQd (o:=.cells (sgC iv s mn mr cv vv fv (.slice (some ⟨W.heap.size,0,none⟩) 257 257)) 73 (0,0)) kS2;have f3:Fr (fun b=>b=sb) w2 (put w2 sb (.cells (sgC iv s mn mr cv vv fv (.slice (some ⟨W.heap.size,0,none⟩) 257 257)) 73 (0,0))):=(Fr.refl _ _).put (b:=sb) _ fun _=>rfl;have hsl:=qQh hrow;have n3:=n2.fr f3 fun b hb h=>by simp only[qQg,oSi]at hb;omega
  have q3:wrO prog 71 w2 sb 11 (.slice (some ⟨W.heap.size,0,none⟩) 257 257)=some (put w2 sb (.cells (sgC iv s mn mr cv vv fv (.slice (some ⟨W.heap.size,0,none⟩) 257 257)) 73 (0,0))):=q3;have f03:Fr (fun b=>b=sb) w0 (put w2 sb (.cells (sgC iv s mn mr cv vv fv (.slice (some ⟨W.heap.size,0,none⟩) 257 257)) 73 (0,0))):=((f1.trans f2).mono fun _ _ h=>h.elim).trans f3;have k3:=f3.at (f2.at k1 id) rlt;have r3:rdO prog 3 (put w2 sb (.cells (sgC iv s mn mr cv vv fv (.slice (some ⟨W.heap.size,0,none⟩) 257 257)) 73 (0,0))) sb 1=some (.int .i64 wd):=by rw[← hwd];exact rd1 agg3 kS3 rfl
  simp -implicitDefEqProofs only[go_sem,jY,zB,jA,nilOk,q3,r3];generalize put w2 sb (.cells (sgC iv s mn mr cv vv fv (.slice (some ⟨W.heap.size,0,none⟩) 257 257)) 73 (0,0))=w3 at *;refine qQa pl159 ((empty0 w3 (ht.fr f03 fun b hb h=>by omega) wd).mono ?_);rintro _ w4 ⟨rfl,f4⟩;obtain⟨w5,q5,k5,f5,s5⟩:=allocD w4 sz75 (qQu wd 0);have f35:=f4.trans f5;have kS5:=f35.at kS3 id;have r5:rdO prog 71 w5 sb 11=some (.slice (some ⟨W.heap.size,0,none⟩) 257 257):=rd1 agg71 kS5 rfl;have n5:=n3.fr0 f35;have k15:=f35.at k3 id;have s34:=f4.size;have z2:W.heap.size<w4.heap.size:=by have:=f3.size;omega
  have zr:w0.heap.size<w4.heap.size:=by omega
  simp -implicitDefEqProofs only[go_sem,jY,gLa,gLz,jH,zB,qQk,q5,nilOk,r5];rw[← bdL_zero wd]at n5;refine loopD [0,1,4,5,26,27] (baI u w0 sb w0.heap.size w4.heap.size W.heap.size wd (fun bv=>sgC iv s mn mr cv vv fv bv) (.int .i64 (h:Nat))) 257 ⟨0,rfl,by omega,rfl,kS5,k5,k15,n5,f03.trans (f35.mono fun _ _ h=>h.elim)⟩ ?_;rintro _ vs w6 g ⟨i,rfl,hi,rfl,kS6,k6,k16,n6,f6⟩
  by_cases hlt:i<257
  ·have d1:=dTo ((i:Int)<257)
   have y2:=iBd (i:=i) (n:=257);have c1:=iSu (i:=i);have r6d:rdO prog 71 w6.drew sb 11=some (.slice (some ⟨W.heap.size,0,none⟩) 257 257):=rd1 (w:=w6.drew) agg71 kS6 rfl;have re:=rd_d agg75 sz75 k6 (qQu wd i);have red:rdO prog 75 w6.drew w4.heap.size 0=some (dg (emptD wd i)):=re;have n6d:=n6.fr0 (Fr.refl (fun _=>False) w6).drew;obtain⟨w7,q7,n7,f7⟩:=n6d.set (P:=prog) sz75 (i:=i) (by rw[bdL_len wd (by omega)];exact hlt) (qQu wd i);rw[bdL_set wd hlt,zB]at *;have ne1:sb≠W.heap.size:=by omega
   have kS7:=f7.at (show w6.drew.heap[sb]?=_ from kS6) ne1;have f07:Fr (fun b=>b=sb) w0 w7:=f6.drew.trans' f7 fun b hb h=>by omega
   have k7:=f7.at (show w6.drew.heap[w4.heap.size]?=_ from k6) (by omega);have k17:=f7.at (show w6.drew.heap[w0.heap.size]?=_ from k16) (by omega);have r7d:rdO prog 3 w7.drew sb 1=some (.int .i64 wd):=by rw[← hwd];exact rd1 (w:=w7.drew) agg3 kS7 rfl
   have re7:=rd_d agg75 sz75 k7 (qQu wd i);have re7d:rdO prog 75 w7.drew w4.heap.size 0=some (dg (emptD wd i)):=re7;simp -implicitDefEqProofs only[go_sem,jY,zB,jA,d1,nilOk,r6d,red,y2,and_self,iTn,q7,r7d,re7d];refine qQa pl160 ((branch w7.drew ((ht.fr f07 fun b hb h=>by omega).no (Fr.refl _ _).drew) wd (qQu wd i) (qQu wd i)).mono ?_);rintro _ w8 ⟨rfl,f8⟩;have f78:No w7 w8:=(Fr.refl _ _).drew.trans f8;have hes:qXk wd (emptD wd i) (emptD wd i)=emptD wd (i+1):=rfl;have k8:=f78.at k7 id;have q8:=wr_d sz75 k8 (qQu wd i) (qQu wd (i+1));rw[← hes]at q8;simp -implicitDefEqProofs only[go_sem,jY,q8,c1];rw[hes];have f89:Fr (fun b=>b=w4.heap.size) w8 (put w8 w4.heap.size (.cells (bl (emptD wd (i+1))) 75 (0,0))):=(Fr.refl _ _).put (b:=w4.heap.size) _ fun _=>rfl;refine⟨257 - (i+1),by omega,i+1,rfl,by omega,rfl,f89.at (f78.at kS7 id) (by omega),qQd k8,f89.at (f78.at k17 id) (by omega),(n7.fr0 f78).fr f89 fun b hb h=>by simp only[qQg,oSi]at hb;omega,(f07.trans (f78.mono fun _ _ h=>h.elim)).put (b:=w4.heap.size) _ fun h=>by omega⟩
  ·have d1:=dFo ((i:Int)<257)
   obtain rfl:i=257:=by omega
   rw[bdL_full]at n6;have r6:rdO prog 71 w6 sb 11=some (.slice (some ⟨W.heap.size,0,none⟩) 257 257):=rd1 agg71 kS6 rfl;obtain⟨b,o,cap,v,he,g1,g2,g3,g4,g5⟩:=fin w6 _ k16 f6 kS6 n6 (fun b hb h=>by simp only[qQg,oSi]at hb;omega) (.inr fun b hb=>by simp only[qQg,oSi]at hb;omega);cases he;rw[zB]at g1;simp -implicitDefEqProofs only[go_sem,jY,zB,d1,nilOk,r6,y1,and_self,iTn,g1,g2,g3];exact⟨g4,g5⟩
 ·obtain⟨b, o, cap, v, he, g1, g2, g3, g4, g5⟩:=fin W bv k1 (f1.mono fun _ _ h=>h.elim) kS (hN.fr0 f1) (fun b hb h=>by
   have:=(hN.lt hb).2;omega) (.inl rfl)
  subst he;simp -implicitDefEqProofs only[go_sem,jY,jH,zB,qQk,Tryz.f125,hW,nilOk,r1,y1,and_self,iTn,g1,g2,g3];exact⟨g4,g5⟩
end A
end
section
open Go.Proofs Sha
namespace A
open Aud
def SRow (u w:World)(sb:Nat)(iv:Value)(s:Sup)(mn mr:Nat)(cv vv fv:Value)(E:Nat→Prop):Prop:=∃ bv,w.heap[sb]?=some (.cells (sgC iv s mn mr cv vv fv bv) 73 (0,0))∧Blank u w s.width bv∧∀ b,qQg bv=some b→¬ E b
section
variable {u w0 w w':World} {sb:Nat} {iv:Value} {s:Sup} {mn mr:Nat} {cv vv fv:Value} {E:Nat→Prop}
theorem Blank.lt (h:Blank u w wd bv)(hb:qQg bv=some b):u.heap.size≤b∧b<w.heap.size:=by
 rcases h with rfl | h
 ·cases hb
 ·exact h.lt hb
theorem SRow.fr0 (h:SRow u w sb iv s mn mr cv vv fv E)(f:No w w'):SRow u w' sb iv s mn mr cv vv fv E:=by
 obtain⟨bv,h1,h2,h3⟩:=h;exact⟨bv,f.at h1 id,h2.fr f (fun _ _ _ _ _ h=>h),h3⟩
theorem SRow.mono {E':Nat→Prop}(h:SRow u w sb iv s mn mr cv vv fv E)(hE:∀ b,b<w.heap.size→E' b→E b):SRow u w sb iv s mn mr cv vv fv E':=by
 obtain⟨bv,h1,h2,h3⟩:=h;exact⟨bv,h1,h2,fun b hb he=>h3 b hb (hE b (h2.lt hb).2 he)⟩
theorem SRow.grow (h:SRow u w sb iv s mn mr cv vv fv E)(f:No w w'):SRow u w' sb iv s mn mr cv vv fv (fun b=>E b∨w.heap.size≤b):=by
 obtain⟨bv,h1,h2,h3⟩:=h;exact⟨bv,f.at h1 id,h2.fr f (fun _ _ _ _ _ h=>h),fun b hb he=>he.elim (h3 b hb) fun h=>by have:=(h2.lt hb).2;omega⟩
theorem SRow.put (h:SRow u w sb iv s mn mr cv vv fv E){db:Nat}(o:Obj)(hd:db≠sb)(hE:E db)(ho:fzO o=false:=by rfl):SRow u (V.put w db o) sb iv s mn mr cv vv fv E:=by
 obtain⟨bv,h1,h2,h3⟩:=h;have f:Fr (fun b=>b=db) w (V.put w db o):=(Fr.refl _ _).put (b:=db) o (fun _=>rfl) ho;exact⟨bv,f.at h1 fun e=>hd e.symm,h2.fr f (fun b c _ _ hb e=>by subst e;exact h3 _ hb hE),h3⟩
theorem bareS (ht:Tabs w0)(hu:u.heap.size≤w0.heap.size)(hsb:5≤sb)(hS:SRow u w0 sb iv s mn mr cv vv fv E)(hE:∀ b, E b→b<w0.heap.size)(hh:h<257) :
  Fn prog 125 #[pt sb 0,.int .i64 (h:Nat)] w0 fun v w'=>v=dg (emptD s.width h)∧Fr (fun b=>b=sb) w0 w'∧SRow u w' sb iv s mn mr cv vv fv E:=by
 obtain⟨bv,h1,h2,h3⟩:=hS;refine (bare u w0 ht hu hsb h1 h2 hh).mono ?_;rintro v w' ⟨e,f,bv',k,n,hor⟩;refine⟨e,f,bv',k,.inr n,fun b hb he=>?_⟩
 rcases hor with rfl | hor
 ·exact h3 b hb he
 ·have:=hor b hb;have:=hE b he;omega
theorem SRow.rdw (h:SRow u w sb iv s mn mr cv vv fv E):rdO prog 3 w sb 1=some (.int .i64 (s.width:Nat)):=by
 obtain⟨bv,h1,_⟩:=h;exact rd1 agg3 h1 rfl
theorem SRow.lt (h:SRow u w sb iv s mn mr cv vv fv E):sb<w.heap.size:=by
 obtain⟨bv,h1,_⟩:=h;exact qQh h1
theorem bit0 (k:Bs)(i:Nat):(kb k i == 0)=!kbit k i:=by unfold kb;cases kbit k i <;> rfl
theorem climb_next (wd:Int)(k d:Bs)(i:Nat):V.climb wd k 0 d (empts wd (i+1))=up wd k i (V.climb wd k 0 d (empts wd i)) (emptD wd i):=by
 have:empts wd (i+1)=empts wd i++[emptD wd i]:=by simp[empts,List.range_succ]
 rw[this,climb_app,qXm,zB];rfl
def clI (u w0:World)(sb nb rb db:Nat)(iv:Value)(s:Sup)(mn mr:Nat)(cv vv fv:Value)(E:Nat→Prop)(k:Bs)(nc:List Value)(d0:Bs)(ht:Nat)(n:Nat)(vs:List Value)(w:World):Prop :=
 ∃ (i:Nat),vs=[pt sb 0,pt nb 0,pt rb 0,.int .i64 (s.width:Nat),pt db 0,.int .i64 (ht:Nat),.int .i64 (i:Nat)]∧i≤ht∧n=ht - i∧w.heap[nb]?=some (.cells nc.toArray 78 (0,0))∧w.heap[rb]?=some (.cells (bl z32) 75 (0,0))∧w.heap[db]?=some (.cells (bl (V.climb s.width k 0 d0 (empts s.width i))) 75 (0,0)) ∧
  SRow u w sb iv s mn mr cv vv fv (fun b=>E b∨b=rb∨b=db)∧Fr (fun b=>b=sb) w0 w
theorem climb (ht:Tabs w0)(hu:u.heap.size≤w0.heap.size)(hsb:5≤sb)(hS:SRow u w0 sb iv s mn mr cv vv fv E)(hE:∀ b, E b→b<w0.heap.size)(hk:k.length=32)(hv:By w0 nv val)(on:one nv=true)(hl:val.length≤128)(hh:h<257) :
  Fn prog 187 #[pt sb 0,.agg (ndA (.leaf k val) nv).toArray,.int .i64 (h:Nat)] w0 fun v w'=>v=dg (V.climb s.width k 0 (leafD s.width k val) (empts s.width h))∧Fr (fun b=>b=sb) w0 w'∧SRow u w' sb iv s mn mr cv vv fv E:=by
 refine go187 (by simp) ?_;have hsl:=hS.lt;generalize hnc:ndA (.leaf k val) nv=nc;have hnl:nc.length=102:=by rw[← hnc];exact qQz z32l z32l hk _
 obtain⟨W,hW,f1,k1,k2,s1⟩:=qJy w0 nc.toArray 78 (bl z32) 75;have hS1:=hS.grow f1;have rw1:=hS1.rdw
 have rk:∀ w:World,w.heap[w0.heap.size]?=some (.cells nc.toArray 78 (0,0))→rdO prog 76 w w0.heap.size 69=some (dg k):=fun w k1=>by
  refine qJg (e:=78) (fz:=(0,0)) (a:=[.int .i64 1,.int .i64 0,.int .i64 0,.int .i64 0,.int .i64 0]++z32.map u8++z32.map u8) (m:=k.map u8) (r:=[nv]) agg76 (by simp[hk];exact sz76) (by simp[hk]) ?_ (by simp);rw[k1,← hnc];rfl
 have rv:rdO prog 22 W w0.heap.size 101=some nv:=by
  refine rd_one (e:=78) (fz:=(0,0)) (a:=[.int .i64 1,.int .i64 0,.int .i64 0,.int .i64 0,.int .i64 0]++z32.map u8++z32.map u8++k.map u8) (r:=[]) agg22 ?_ (by simp[hk]);rw[k1,← hnc];rfl
 have rk1:=rk W k1;simp -implicitDefEqProofs only[go_sem,jY,y7,jH,zB,jA,qQk,Tryz.f187,hW,nilOk,rw1,rk1,rv];refine qQa pl193 ((leaf W (ht.no f1) s.width hk (hv.fr0 f1) (by omega)).mono ?_);rintro _ w3 ⟨rfl,f3⟩;obtain⟨w4,q4,k4,f4,s4⟩:=allocD w3 sz75 (qZd s.width k val)
 have f14:=(f3.trans f4)
 simp -implicitDefEqProofs only[go_sem,jY,jH,qQk,q4];have hz3:w0.heap.size+2≤w3.heap.size:=by have:=f3.size;omega
 refine loopD [0,4,6,7,8,22,23] (clI u w0 sb w0.heap.size (w0.heap.size+1) w3.heap.size iv s mn mr cv vv fv E k nc (leafD s.width k val) h) h ⟨0,rfl,by omega,rfl,f14.at k1 id,f14.at k2 id,k4,?_,(f1.trans f14).mono fun _ _ h=>h.elim⟩ ?_
 ·refine (hS.grow (f1.trans f14)).mono fun b hb he=>?_
  rcases he with he | rfl | rfl
  ·exact .inl he
  ·exact .inr (by omega)
  ·exact .inr (by omega)
 rintro _ vs w g ⟨i,rfl,hi,rfl,kn,kr,kd,hSw,fw⟩
 by_cases hlt:i<h
 ·have d1:=dTo ((i:Int)<(h:Int))
  have hEw:∀ b,(E b∨b=w0.heap.size+1∨b=w3.heap.size)→b<w.heap.size:=fun b hb=>by
   have:=qQh kr;have:=qQh kd
   rcases hb with hb | rfl | rfl
   ·have:=hE b hb;omega
   ·omega
   ·omega
  simp -implicitDefEqProofs only[go_sem,jY,d1];refine qQa pl125 ((bareS (ht.fr fw fun b hb h=>by omega) (by have:=fw.size;omega) hsb hSw hEw (h:=i) (by omega)).mono ?_);rintro _ w5 ⟨rfl,f5,hS5⟩;obtain⟨w6,q6,k6,f6,s6⟩:=allocD w5 sz75 (qQu s.width i);have f56:Fr (fun b=>b=sb) w w6:=f5.trans (f6.mono fun _ _ h=>h.elim);have kn6:=f56.at kn (by omega);have kr6:=f56.at kr (by omega);have kd6:=f56.at kd (by omega);have hS6:=hS5.fr0 f6;have rk6:=rk w6 kn6;have c1:IntKind.i64.wrap (255 - (i:Int))=((255 - i:Nat):Int):=by rw[qQm (by omega) (by omega)];omega
  simp -implicitDefEqProofs only[go_sem,jY,jH,zB,qQk,q6,rk6,c1];refine qQa pl194 ((bbit w6 hk (i:=255 - i) (by omega)).mono ?_);rintro _ w7 ⟨rfl,f7⟩;have b0:=bit0 k (255 - i);have fw7:Fr (fun b=>b=sb) w0 w7:=(fw.trans f56).trans (f7.mono fun _ _ h=>h.elim);have cl:(V.climb s.width k 0 (leafD s.width k val) (empts s.width i)).length=32:=qJv _ _ _ _ _ (qZd _ _ _);have rd7:=rd_d agg75 sz75 (f7.at kd6 id) cl;have rn7:=rd_d agg75 sz75 (f7.at k6 id) (qQu s.width i);have nx:=climb_next s.width k (leafD s.width k val) i;have c2:=iSu (i:=i)
  have fin:∀ (w8:World) (D:Bs), No w7 w8→D=V.climb s.width k 0 (leafD s.width k val) (empts s.width (i+1))→D.length=32 →
    wrO prog 75 w8 w3.heap.size 0 (dg D)=some (V.put w8 w3.heap.size (.cells (bl D) 75 (0,0)))∧clI u w0 sb w0.heap.size (w0.heap.size+1) w3.heap.size iv s mn mr cv vv fv E k nc (leafD s.width k val) h (h - (i+1)) [pt sb 0,pt w0.heap.size 0,pt (w0.heap.size+1) 0,.int .i64 (s.width:Nat),pt w3.heap.size 0,.int .i64 (h:Nat),.int .i64 ((i+1:Nat):Int)] (V.put w8 w3.heap.size (.cells (bl D) 75 (0,0))):=fun w8 D f8 hD hDl=>by
   subst hD;have f78:=f7.trans f8;have k8:=f78.at kd6 id;refine⟨wr_d sz75 k8 cl hDl,i+1,rfl,by omega,rfl,qQi (f78.at kn6 id) (by omega),qQi (f78.at kr6 id) (by omega),qQd k8,(hS6.fr0 f78).put _ (by omega) (.inr (.inr rfl)),(fw7.trans (f8.mono fun _ _ h=>h.elim)).put (b:=w3.heap.size) _ fun h=>by omega⟩
  cases hb:kbit k (255 - i) with
  | false =>
   rw[hb,Bool.not_false]at b0;simp -implicitDefEqProofs only[go_sem,jY,b0,rd7,rn7];refine qQa pl160 ((branch w7 (ht.fr fw7 fun b hb h=>by omega) s.width cl (qQu s.width i)).mono ?_);rintro _ w8 ⟨rfl,f8⟩;obtain⟨q8,I8⟩:=fin w8 _ f8 (by rw[nx];unfold up;rw[hb];rfl) (qXj _ _ _);simp -implicitDefEqProofs only[go_sem,jY,q8,c2];exact⟨h - (i+1),by omega,I8⟩
  | true =>
   rw[hb,Bool.not_true]at b0;simp -implicitDefEqProofs only[go_sem,jY,b0,rd7,rn7];refine qQa pl160 ((branch w7 (ht.fr fw7 fun b hb h=>by omega) s.width (qQu s.width i) cl).mono ?_);rintro _ w8 ⟨rfl,f8⟩;obtain⟨q8,I8⟩:=fin w8 _ f8 (by rw[nx];unfold up;rw[hb];rfl) (qXj _ _ _);simp -implicitDefEqProofs only[go_sem,jY,q8,c2];exact⟨h - (i+1),by omega,I8⟩
 ·have d1:=dFo ((i:Int)<(h:Int))
  obtain rfl:i=h:=by omega
  have cl:(V.climb s.width k 0 (leafD s.width k val) (empts s.width i)).length=32:=qJv _ _ _ _ _ (qZd _ _ _);have rd:=rd_d agg75 sz75 kd cl;have q:=wr_d sz75 kr zl32 cl;have r:=rd_d agg75 sz75 (qQd (o:=.cells (bl (V.climb s.width k 0 (leafD s.width k val) (empts s.width i))) 75 (0,0)) kr) cl;simp -implicitDefEqProofs only[go_sem,jY,d1,rd,q,r];exact⟨fw.put (b:=w0.heap.size+1) _ fun h=>by omega,(hSw.put _ (by omega) (.inr (.inl rfl))).mono fun b _ h=>.inl h⟩
end
end A
end
section
open Go.Proofs Sha
namespace A
open Aud
section
variable {u w0 w w':World} {sb:Nat} {iv:Value} {s:Sup} {mn mr:Nat} {cv vv fv:Value} {E:Nat→Prop}
def DgR (u w0:World)(sb nb rb:Nat)(iv:Value)(s:Sup)(mn mr:Nat)(cv vv fv:Value)(E:Nat→Prop)(nc:List Value)(h:Nat)(L R:Bs)(x0 x2 x4 x6 x7 x8:Value)(w:World):Prop :=
 ∃ a b,x0=pt sb 0∧x2=.int .i64 (h:Nat)∧x4=pt nb 0∧x6=pt rb 0∧x7=pt a 0∧x8=pt b 0∧a≠b∧w0.heap.size+2≤a∧w0.heap.size+2≤b ∧
  w.heap[a]?=some (.cells (bl L) 75 (0,0))∧w.heap[b]?=some (.cells (bl R) 75 (0,0))∧w.heap[rb]?=some (.cells (bl z32) 75 (0,0))∧w.heap[nb]?=some (.cells nc.toArray 78 (0,0)) ∧
  SRow u w sb iv s mn mr cv vv fv (fun c=>E c∨w0.heap.size≤c∧(c=rb∨c=a∨c=b))∧Fr (fun c=>c=sb) w0 w
theorem digestBr (ht:Tabs w0)(hu:u.heap.size≤w0.heap.size)(hsb:5≤sb)(hS:SRow u w0 sb iv s mn mr cv vv fv E)(hE:∀ b, E b→b<w0.heap.size){lp rp lc rc:Nat}{ls rs:Bs}(hls:ls.length=32)(hrs:rs.length=32)(h1:1≤h)(hh:h<257) :
  Fn prog 164 #[pt sb 0,.agg (ndA (.br lp rp lc rc ls rs) nv).toArray,.int .i64 (h:Nat)] w0 fun v w'=>v=dg (qXk s.width (if lp=0 then emptD s.width (h - 1) else ls) (if rp=0 then emptD s.width (h - 1) else rs))∧Fr (fun b=>b=sb) w0 w'∧SRow u w' sb iv s mn mr cv vv fv E:=by
 refine go164 (by simp) ?_;have hsl:=hS.lt;generalize hnc:ndA (.br lp rp lc rc ls rs) nv=nc;obtain⟨W,hW,f1,k1,k2,s1⟩:=qJy w0 nc.toArray 78 (bl z32) 75;have hS1:=hS.grow f1
 have kk:∀ w:World, w.heap[w0.heap.size]?=some (.cells nc.toArray 78 (0, 0))→rdO prog 3 w w0.heap.size 0=some (.int .i64 2)∧rdO prog 3 w w0.heap.size 1=some (.int .i64 (lp:Nat))∧rdO prog 3 w w0.heap.size 2=some (.int .i64 (rp:Nat)) ∧
   rdO prog 75 w w0.heap.size 5=some (dg ls)∧rdO prog 75 w w0.heap.size 37=some (dg rs):=fun w k1=>by
  rw[← hnc]at k1;refine⟨rd1 agg3 k1 rfl,rd1 agg3 k1 rfl,rd1 agg3 k1 rfl,?_,?_⟩
  ·refine qJg (e:=78) (fz:=(0,0)) (a:=[.int .i64 2,.int .i64 (lp:Nat),.int .i64 (rp:Nat),.int .i64 (lc:Nat),.int .i64 (rc:Nat)]) (m:=ls.map u8) (r:=rs.map u8++z32.map u8++[nv]) agg75 (by simp[hls];exact sz75) (by simp[hls]) ?_ (by simp)
   rw[k1];simp only[ndA,ndC,List.append_assoc];rfl
  ·refine qJg (e:=78) (fz:=(0,0)) (a:=[.int .i64 2,.int .i64 (lp:Nat),.int .i64 (rp:Nat),.int .i64 (lc:Nat),.int .i64 (rc:Nat)]++ls.map u8) (m:=rs.map u8) (r:=z32.map u8++[nv]) agg75 (by simp[hrs];exact sz75) (by simp[hrs]) ?_ (by simp[hls])
   rw[k1];simp only[ndA,ndC,List.append_assoc];rfl
 obtain⟨r0,_,_,_,_⟩:=kk W k1;have d0:((2:Int) == 1)=false:=rfl;simp -implicitDefEqProofs only[go_sem,jY,y7,jH,zB,qQk,Tryz.f164,hW,r0,d0];have c1:IntKind.i64.wrap ((h:Int) - 1)=((h - 1:Nat):Int):=qZj (b:=1) h1 (by omega);have stp:∀ (w w5:World) (a b:Nat) (L R D:Bs),No w w5∨Fr (fun c=>c=sb) w w5→True:=fun _ _ _ _ _ _ _ _=>trivial;refine qXc (Q:=fun e ev w=>e=.normal∧DgR u w0 sb w0.heap.size (w0.heap.size+1) iv s mn mr cv vv fv E nc h ls rs (ev 0) (ev 2) (ev 4) (ev 6) (ev 7) (ev 8) w) _ (fun e ev w=>?_) ?_
 ·rintro⟨rfl,hD⟩
  rw[thenQ_normal];refine qXx (fun ev w=>DgR u w0 sb w0.heap.size (w0.heap.size+1) iv s mn mr cv vv fv E nc h (if lp=0 then emptD s.width (h - 1) else ls) rs (ev 0) (ev 2) (ev 4) (ev 6) (ev 7) (ev 8) w) ?_ ?_
  ·obtain⟨a,b,e0,e2,e4,e6,e7,e8,hab,ha,hb,ka,kb,kr,kn,hSw,fw⟩:=hD
   obtain⟨r0,r1,r2,r3,r4⟩:=kk w kn;have n0:((lp:Int) == 0)=decide (lp=0):=nateq lp 0
   by_cases hz:lp=0
   case neg =>
    rw[decide_eq_false hz]at n0;rw[if_neg hz];simp -implicitDefEqProofs only[go_sem,jY,zB,e4,r1,n0];exact⟨a,b,(by first | rfl | assumption),(by first | rfl | assumption),(by first | rfl | assumption),(by first | rfl | assumption),(by first | rfl | assumption),(by first | rfl | assumption),hab,ha,hb,ka,kb,kr,kn,hSw,fw⟩
   rw[decide_eq_true hz]at n0;rw[if_pos hz];simp -implicitDefEqProofs only[go_sem,jY,zB,e0,e2,e4,r1,n0,c1];have h3:=qQh ka;have h4:=qQh kb;have h5:=qQh kr;refine qQa pl125 ((bareS (ht.fr fw fun b hb h=>by omega) (by have:=fw.size;omega) hsb hSw (fun c hc=>by rcases hc with hc | ⟨_,rfl | rfl | rfl⟩ <;> first | omega | (have:=hE c hc;omega)) (h:=h - 1) (by omega)).mono ?_);rintro _ w5 ⟨rfl,f5,hS5⟩;have ka5:=f5.at ka (by omega);have q:=wr_d sz75 ka5 hls (qQu s.width (h - 1));simp -implicitDefEqProofs only[go_sem,jY,e7,q];exact⟨a,b,(by first | rfl | assumption),(by first | rfl | assumption),(by first | rfl | assumption),(by first | rfl | assumption),(by first | rfl | assumption),(by first | rfl | assumption),hab,ha,hb,qQd ka5,qQi (f5.at kb (by omega)) (by omega),qQi (f5.at kr (by omega)) (by omega),qQi (f5.at kn (by omega)) (by omega),hS5.put _ (by omega) (.inr ⟨by omega,.inr (.inl rfl)⟩),(fw.trans f5).put (b:=a) _ fun h=>by omega⟩
  generalize hL:(if lp=0 then emptD s.width (h - 1) else ls)=L;have hLl:L.length=32:=by rw[← hL];split;exact qQu _ _;exact hls
  clear hD;intro ev w hD;refine qXx (fun ev w=>DgR u w0 sb w0.heap.size (w0.heap.size+1) iv s mn mr cv vv fv E nc h L (if rp=0 then emptD s.width (h - 1) else rs) (ev 0) (ev 2) (ev 4) (ev 6) (ev 7) (ev 8) w) ?_ ?_
  ·obtain⟨a,b,e0,e2,e4,e6,e7,e8,hab,ha,hb,ka,kb,kr,kn,hSw,fw⟩:=hD
   obtain⟨r0,r1,r2,r3,r4⟩:=kk w kn;have n0:((rp:Int) == 0)=decide (rp=0):=nateq rp 0
   by_cases hz:rp=0
   case neg =>
    rw[decide_eq_false hz]at n0;rw[if_neg hz];simp -implicitDefEqProofs only[go_sem,jY,zB,e4,r2,n0];exact⟨a,b,(by first | rfl | assumption),(by first | rfl | assumption),(by first | rfl | assumption),(by first | rfl | assumption),(by first | rfl | assumption),(by first | rfl | assumption),hab,ha,hb,ka,kb,kr,kn,hSw,fw⟩
   rw[decide_eq_true hz]at n0;rw[if_pos hz];simp -implicitDefEqProofs only[go_sem,jY,zB,e0,e2,e4,r2,n0,c1];have h3:=qQh ka;have h4:=qQh kb;have h5:=qQh kr;refine qQa pl125 ((bareS (ht.fr fw fun b hb h=>by omega) (by have:=fw.size;omega) hsb hSw (fun c hc=>by rcases hc with hc | ⟨_,rfl | rfl | rfl⟩ <;> first | omega | (have:=hE c hc;omega)) (h:=h - 1) (by omega)).mono ?_);rintro _ w5 ⟨rfl,f5,hS5⟩;have kb5:=f5.at kb (by omega);have q:=wr_d sz75 kb5 hrs (qQu s.width (h - 1));simp -implicitDefEqProofs only[go_sem,jY,e8,q];exact⟨a,b,(by first | rfl | assumption),(by first | rfl | assumption),(by first | rfl | assumption),(by first | rfl | assumption),(by first | rfl | assumption),(by first | rfl | assumption),hab,ha,hb,qQi (f5.at ka (by omega)) (by omega),qQd kb5,qQi (f5.at kr (by omega)) (by omega),qQi (f5.at kn (by omega)) (by omega),hS5.put _ (by omega) (.inr ⟨by omega,.inr (.inr rfl)⟩),(fw.trans f5).put (b:=b) _ fun h=>by omega⟩
  generalize hR:(if rp=0 then emptD s.width (h - 1) else rs)=R;have hRl:R.length=32:=by rw[← hR];split;exact qQu _ _;exact hrs
  clear hD;rintro ev w ⟨a,b,e0,e2,e4,e6,e7,e8,hab,ha,hb,ka,kb,kr,kn,hSw,fw⟩;have rw1:rdO prog 3 w.drew sb 1=some (.int .i64 (s.width:Nat)):=hSw.rdw;have ra:=rd_d (w:=w.drew) agg75 sz75 ka hLl;have rb:=rd_d (w:=w.drew) agg75 sz75 kb hRl;simp -implicitDefEqProofs only[go_sem,jY,Nat.reduceBEq,zB,jA,e0,e7,e8,nilOk,rw1,ra,rb];refine qQa pl160 ((branch w.drew ((ht.fr fw fun b hb h=>by omega).no (Fr.refl _ _).drew) s.width hLl hRl).mono ?_);rintro _ w5 ⟨rfl,f5⟩;have f5':No w w5:=(Fr.refl _ _).drew.trans f5;have kr5:=f5'.at kr id;have bl32:=qXj (s.width:Int) L R;have q:=wr_d sz75 kr5 zl32 bl32;have r:=rd_d agg75 sz75 (qQd (o:=.cells (bl (qXk s.width L R)) 75 (0,0)) kr5) bl32;simp -implicitDefEqProofs only[go_sem,jY,e6,q,r];exact⟨(fw.trans (f5'.mono fun _ _ h=>h.elim)).put (b:=w0.heap.size+1) _ fun h=>by omega,((hSw.fr0 f5').put _ (by omega) (.inr ⟨by omega,.inl rfl⟩)).mono fun b _ h=>.inl h⟩
 refine qXf (fun j=>j == 4 || j == 5) (.one 0 (.one 2 (.one 1 (.tri 3 (.two 4 (.row [5,6,7]) 5 (.row [4,6,7])) 4 (.two 3 (.row [5,6,7]) 5 (.two 3 (.row [6,7]) 6 (.row [3,7]))) 5 (.two 3 (.row [4,6,7]) 4 (.two 3 (.row [6,7]) 6 (.row [3,7]))))))) rfl (by kernel_rfl) (by kernel_rfl) ?_;have k3:W.drew.heap[w0.heap.size]?=some (.cells nc.toArray 78 (0,0)):=k1;have k4:W.drew.heap[w0.heap.size+1]?=some (.cells (bl z32) 75 (0,0)):=k2;have f3:=f1.drew;have s3:W.drew.heap.size=w0.heap.size+2:=s1;generalize W.drew=w3 at *;obtain⟨A1,hA1,g1,a1,t1⟩:=qQl w3 (bl z32) 75;obtain⟨A2,hA2,g2,a2,t2⟩:=qQl A1 (bl z32) 75;have hn:A1.heap.size=w3.heap.size+1:=t1;rw[hn]at a2;have b1:=g2.at a1 id;obtain⟨_,_,_,x1,y1⟩:=kk w3 k3;obtain⟨_,_,_,x2,y2⟩:=kk A1 (g1.at k3 id);have kA:=g2.at (g1.at k3 id) id;obtain⟨_,_,_,x3,y3⟩:=kk A2 kA;have kR:=g2.at (g1.at k4 id) id;have fA:=(f3.trans g1).trans g2;obtain⟨_,_,_,_,y4⟩:=kk (put A2 w3.heap.size (.cells (bl ls) 75 (0,0))) (qQi kA (by omega));obtain⟨_,_,_,_,y5⟩:=kk (put A2 (w3.heap.size+1) (.cells (bl ls) 75 (0,0))) (qQi kA (by omega));have u1:=wr_d (d':=ls) sz75 b1 z32l hls;have u2:=wr_d (d':=ls) sz75 a2 z32l hls;have u3:=wr_d (d':=rs) sz75 (qQi (b:=w3.heap.size) (o:=.cells (bl ls) 75 (0,0)) a2 (by omega)) z32l hrs;have u4:=wr_d (d':=rs) sz75 (qQi (b:=w3.heap.size+1) (o:=.cells (bl ls) 75 (0,0)) b1 (by omega)) z32l hrs;have hSA:=hS.grow fA;have hA2s:A2.heap.size=w3.heap.size+2:=by omega
 have l1:DgR u w0 sb w0.heap.size (w0.heap.size+1) iv s mn mr cv vv fv E nc h ls rs (pt sb 0) (.int .i64 (h:Nat)) (pt w0.heap.size 0) (pt (w0.heap.size+1) 0) (pt w3.heap.size 0) (pt (w3.heap.size+1) 0) (put (put A2 w3.heap.size (.cells (bl ls) 75 (0,0))) (w3.heap.size+1) (.cells (bl rs) 75 (0,0))) :=
  ⟨_,_,rfl,rfl,rfl,rfl,rfl,rfl,by omega,by omega,by omega,qQi (qQd b1) (by omega),qQd (qQi (o:=.cells (bl ls) 75 (0,0)) a2 (show w3.heap.size≠w3.heap.size+1 by omega)),qQi (qQi kR (by omega)) (by omega),qQi (qQi kA (by omega)) (by omega),((hSA.put _ (by omega) (.inr (by omega))).put _ (by omega) (.inr (by omega))).mono fun b _ hb=>hb.imp id fun hb=>hb.1,(fA.mono fun _ _ h=>h.elim).put (b:=w3.heap.size) _ (fun h=>by omega) |>.put (b:=w3.heap.size+1) _ fun h=>by omega⟩
 have l2:DgR u w0 sb w0.heap.size (w0.heap.size+1) iv s mn mr cv vv fv E nc h ls rs (pt sb 0) (.int .i64 (h:Nat)) (pt w0.heap.size 0) (pt (w0.heap.size+1) 0) (pt (w3.heap.size+1) 0) (pt w3.heap.size 0) (put (put A2 (w3.heap.size+1) (.cells (bl ls) 75 (0,0))) w3.heap.size (.cells (bl rs) 75 (0,0))) :=
  ⟨_,_,rfl,rfl,rfl,rfl,rfl,rfl,by omega,by omega,by omega,qQi (qQd a2) (by omega),qQd (qQi (o:=.cells (bl ls) 75 (0,0)) b1 (show w3.heap.size+1≠w3.heap.size by omega)),qQi (qQi kR (by omega)) (by omega),qQi (qQi kA (by omega)) (by omega),((hSA.put _ (by omega) (.inr (by omega))).put _ (by omega) (.inr (by omega))).mono fun b _ hb=>hb.imp id fun hb=>hb.1,(fA.mono fun _ _ h=>h.elim).put (b:=w3.heap.size+1) _ (fun h=>by omega) |>.put (b:=w3.heap.size) _ fun h=>by omega⟩
 have e1:=g1.ext;have e2:=g2.ext;clear kk;simp -implicitDefEqProofs only[go_sem,jY,Nat.reduceBEq,gLa,gLz,gLs,jH,bSe,zB,qQk,OT.row,hA1,hA2,hn,e1,e2,x1,y1,y2,y3,y4,y5,u1,u2,u3,u4,l1,l2,implies_true,and_self,true_and]
theorem digestLf (ht:Tabs w0)(hu:u.heap.size≤w0.heap.size)(hsb:5≤sb)(hS:SRow u w0 sb iv s mn mr cv vv fv E)(hE:∀ b, E b→b<w0.heap.size)(hk:k.length=32)(hv:By w0 nv val)(on:one nv=true)(hl:val.length≤128)(hh:h<257) :
  Fn prog 164 #[pt sb 0,.agg (ndA (.leaf k val) nv).toArray,.int .i64 (h:Nat)] w0 fun v w'=>v=dg (V.climb s.width k 0 (leafD s.width k val) (empts s.width h))∧Fr (fun b=>b=sb) w0 w'∧SRow u w' sb iv s mn mr cv vv fv E:=by
 refine go164 (by simp) ?_;have hsl:=hS.lt;have hnl:(ndA (.leaf k val) nv).length=102:=qQz z32l z32l hk _;obtain⟨W,hW,f1,k1,k2,s1⟩:=qJy w0 (ndA (.leaf k val) nv).toArray 78 (bl z32) 75;have r0:rdO prog 3 W w0.heap.size 0=some (.int .i64 1):=rd1 agg3 k1 rfl;have d0:((1:Int) == 1)=true:=rfl;have ld:=qQo (P:=prog) (t:=78) agg78 sz78 k1 (by simp[hnl]);simp -implicitDefEqProofs only[go_sem,jY,y7,jH,bSe,zB,qQk,Tryz.f164,hW,r0,ld];have hS1:=hS.grow f1;refine qQa pl187 ((climb (ht.no f1) (by have:=f1.size;omega) hsb (hS1.mono (E':=fun b=>E b∨b=w0.heap.size+1) fun b _ hb=>hb.imp id fun h=>by omega) (fun b hb=>by rcases hb with hb | rfl;exact (by have:=hE b hb;omega);omega) hk (hv.fr0 f1) on hl hh).mono ?_);rintro _ w3 ⟨rfl,f3,hS3⟩;have cl:(V.climb s.width k 0 (leafD s.width k val) (empts s.width h)).length=32:=qJv _ _ _ _ _ (qZd _ _ _);have k3:=f3.at k2 (by omega);have q:=wr_d sz75 k3 zl32 cl;have r:=rd_d agg75 sz75 (qQd (o:=.cells (bl (V.climb s.width k 0 (leafD s.width k val) (empts s.width h))) 75 (0,0)) k3) cl;simp -implicitDefEqProofs only[go_sem,jY,q,r];exact⟨((f1.mono fun _ _ h=>h.elim).trans f3).put (b:=w0.heap.size+1) _ fun h=>by omega,(hS3.put _ (by omega) (.inr rfl)).mono fun b _ h=>.inl h⟩
end
end A
end
end Go.V
