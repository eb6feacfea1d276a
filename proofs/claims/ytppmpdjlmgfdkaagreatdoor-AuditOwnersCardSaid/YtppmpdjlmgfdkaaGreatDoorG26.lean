/- Helpers. -/
import Derived.Test.YtppmpdjlmgfdkaaGreatDoorG25
import Derived.Test.YtppmpdjlmgfdkaaGreatDoorG10
import Derived.Test.YtppmpdjlmgfdkaaGreatDoorG17
set_option linter.all false
set_option maxRecDepth 100000
set_option maxHeartbeats 8000000
open BitVec renaming ofNat→zD,ofInt_natCast→xK,setWidth_eq→xV,ofNat_toNat→xW
open Bool renaming and_true→yF,false_eq_true→qD
open List renaming all_cons→yD,getElem?_toArray→zZ
open Nat renaming reduceEqDiff→jY,zero_add→zB,reduceBEq→jG,reduceAdd→y7
open Go.Value renaming cells→jH
namespace Go.V
open Go.Proofs.Tryz Go.V.Tryz
open Go.Proofs Sha
variable {k:Bs} {b n p:Nat} {F:Nat→Prop} {o:Option Nat} {vv:Value} {w:World}
section
namespace A
open Aud
def rwC (n:Nat)(r:Bs):List Value:=.int .i64 (n:Nat)::r.map u8
theorem rwC_one (n:Nat)(r:Bs):(rwC n r).all one=true:=by simp only[rwC,yD,qXy,yF];rfl
theorem shl8 (b k:Nat)(hb:b<2)(hk:k<8):shlK .u8 (b:Int) (k:Int)=((if b=1 then zD 8 (2 ^ k) else (0:Byte)).toNat:Int):=by
 match k,hk,b,hb with
 | 0,_,0,_=>rfl
 | 0,_,1,_=>rfl
 | 1,_,0,_=>rfl
 | 1,_,1,_=>rfl
 | 2,_,0,_=>rfl
 | 2,_,1,_=>rfl
 | 3,_,0,_=>rfl
 | 3,_,1,_=>rfl
 | 4,_,0,_=>rfl
 | 4,_,1,_=>rfl
 | 5,_,0,_=>rfl
 | 5,_,1,_=>rfl
 | 6,_,0,_=>rfl
 | 6,_,1,_=>rfl
 | 7,_,0,_=>rfl
 | 7,_,1,_=>rfl
theorem or8 (x y:Byte):orK .u8 (x.toNat:Int) (y.toNat:Int)=((x ||| y).toNat:Int):=by
 have e:orK .u8 (x.toNat:Int) (y.toNat:Int)=IntKind.u8.wrap (((BitVec.ofInt 8 (x.toNat:Int) ||| BitVec.ofInt 8 (y.toNat:Int)).toNat:Nat):Int):=rfl;rw[e,xK,xK,xW,xW,xV,xV];exact w8_toNat _
theorem under_eq (n:Nat)(b:Nat)(hb:b<2){row:Bs}(h:n / 8<row.length):row.set (n / 8) (row.getD (n / 8) 0 ||| (if b=1 then zD 8 (2 ^ (7 - n % 8)) else (0:Byte)))=Aud.under n (b == 1) row:=by
 unfold Aud.under
 by_cases hb1:b=1
 ·subst hb1;rfl
 ·rw[if_neg hb1,show row.getD (n / 8) 0 ||| (0:Byte)=row.getD (n / 8) 0 from BitVec.or_zero,qQw 0 h,List.set_getElem_self]
  have:(b == 1)=false:=by simpa using hb1
  rw[this];rfl
theorem rowUnder (w0:World)(n:Nat)(hn:n<256){row:Bs}(hr:row.length=32)(b:Nat)(hb:b<2) :
  Fn prog 185 #[.agg (rwC n row).toArray,.int .i64 (b:Nat)] w0 fun v w'=>v=.agg (rwC (n+1) (Aud.under n (b == 1) row)).toArray∧No w0 w':=by
 refine go185 (by simp) ?_;obtain⟨W,hW,f1,k1,k2,s1⟩:=qJy w0 (rwC n row).toArray 158 (rwC 0 z32).toArray 158;have zz:#[.int .i64 0]++bl (List.replicate 32 0)=(rwC 0 z32).toArray:=by kernel_rfl
 have hq:n / 8<32:=by omega
 have k1d:W.drew.heap[w0.heap.size]?=some (.cells (rwC n row).toArray 158 (0,0)):=k1;have r0:rdO prog 3 W.drew w0.heap.size 0=some (.int .i64 (n:Nat)):=rd1 (w:=W.drew) agg3 k1d rfl
 have r1:rdO prog 5 W.drew w0.heap.size (1+n / 8)=some (.int .u8 ((row.getD (n / 8) 0).toNat:Int)):=by
  refine rd1 (w:=W.drew) agg5 k1d ?_;rw[zZ,rwC,Nat.add_comm 1,List.getElem?_cons_succ,List.getElem?_map,List.getElem?_eq_getElem (by omega),qQw 0 (by omega)];rfl
 have c1:IntKind.i64.wrap ((n:Int).tdiv 8)=((n / 8:Nat):Int):=by
  have:(n:Int).tdiv 8=((n / 8:Nat):Int):=rfl;rw[this,qQm (by omega) (by omega)]
 have c2:(n:Int).tmod 8=((n % 8:Nat):Int):=rfl;have c3:IntKind.i64.wrap (7 - ((n % 8:Nat):Int))=((7 - n % 8:Nat):Int):=by rw[qQm (by omega) (by omega)];omega
 have i80:((8:Int)=0)=False:=by simp
 have y1:(0:Int)≤((n / 8:Nat):Int)∧((n / 8:Nat):Int)<((32:Nat):Int):=by omega
 have w8:IntKind.u8.wrap (b:Int)=(b:Int):=by rw[wrap_u8];omega
 have n0:¬ (((7 - n % 8:Nat):Int)<0):=by omega
 obtain⟨x,hx⟩:∃ x,shlK .u8 (b:Int) ((7 - n % 8:Nat):Int)=x:=⟨_,rfl⟩
 have hx':=hx.symm.trans (shl8 b (7 - n % 8) hb (by omega))
 obtain⟨y,hy⟩:∃ y,orK .u8 ((row.getD (n / 8) 0).toNat:Int) x=y:=⟨_,rfl⟩
 have hy':y=(((row.getD (n / 8) 0) ||| (if b=1 then zD 8 (2 ^ (7 - n % 8)) else (0:Byte))).toNat:Int):=by rw[← hy,hx',or8]
 have q1:=wr1 (P:=prog) (t:=5) (w:=W.drew) (o:=1+n / 8) (v:=.int .u8 y) sz5 rfl k1d (by simp[rwC,hr];omega)
 have eS:(rwC n row).toArray.setIfInBounds (1+n / 8) (.int .u8 y)=(rwC n (Aud.under n (b == 1) row)).toArray:=by
  rw[← under_eq n b hb (by omega),hy'];apply Array.toList_inj.1;rw[Array.toList_setIfInBounds];show (rwC n row).set (1+n / 8) _=_;rw[rwC,Nat.add_comm 1,List.set_cons_succ,rwC,List.map_set]
 rw[eS]at q1;have hul:(Aud.under n (b == 1) row).length=32:=by unfold Aud.under;split;rw[List.length_set];exact hr;exact hr
 have k3:=qQd (o:=.cells (rwC n (Aud.under n (b == 1) row)).toArray 158 (0,0)) k1d;have k23:=qQi (w:=W.drew) (b:=w0.heap.size) (o:=.cells (rwC n (Aud.under n (b == 1) row)).toArray 158 (0,0)) (show W.drew.heap[w0.heap.size+1]?=_ from k2) (by omega);have f3:=f1.drew.put (b:=w0.heap.size) (.cells (rwC n (Aud.under n (b == 1) row)).toArray 158 (0,0)) fun h=>absurd h (Nat.lt_irrefl _);generalize hR:Aud.under n (b == 1) row=R at *;have c4:=iSu (i:=n);have r4:rdO prog 3 (put W.drew w0.heap.size (.cells (rwC n R).toArray 158 (0,0))) w0.heap.size 0=some (.int .i64 (n:Nat)):=rd1 agg3 k3 rfl
 have q2:wrO prog 3 (put W.drew w0.heap.size (.cells (rwC n R).toArray 158 (0,0))) w0.heap.size 0 (.int .i64 ((n+1:Nat):Int))=some (put (put W.drew w0.heap.size (.cells (rwC n R).toArray 158 (0,0))) w0.heap.size (.cells (rwC (n+1) R).toArray 158 (0,0))) :=
  wr_one (a:=[]) (r:=R.map u8) sz3 rfl k3 rfl
 have k5:=qQd (o:=.cells (rwC (n+1) R).toArray 158 (0,0)) k3;have k25:=qQi (b:=w0.heap.size) (o:=.cells (rwC (n+1) R).toArray 158 (0,0)) k23 (by omega);have f5:=f3.put (b:=w0.heap.size) (.cells (rwC (n+1) R).toArray 158 (0,0)) fun h=>absurd h (Nat.lt_irrefl _);have l5:=qQo (P:=prog) (t:=158) agg158 sz158 k5 (by simp[rwC,hul]);have q6:=qQr (P:=prog) (t:=158) (vs:=(rwC (n+1) R).toArray) (by simp[rwC,hul];exact sz158) k25 (by simp[rwC,hul]) (by simpa using rwC_one (n+1) R);have k6:=qQd (o:=.cells (rwC (n+1) R).toArray 158 (0,0)) k25;have l6:=qQo (P:=prog) (t:=158) agg158 sz158 k6 (by simp[rwC,hul]);simp -implicitDefEqProofs only[go_sem,jY,jH,zB,qQk,Tryz.f185,zz,hW,r0,c1,c2,c3,i80,if_false,y1,and_self,if_true,iTn,Nat.mul_one,r1,w8,n0,hx,hy,q1,r4,c4,q2,l5,q6,l6];exact f5.put (b:=w0.heap.size+1) _ fun h=>by omega
end A
end
section
namespace A
open Aud
abbrev RK:=Nat × Bs
abbrev encR:RK→Value:=fun k=>.agg (rwC k.1 k.2).toArray
abbrev okR:RK→Prop:=fun k=>k.2.length=32
abbrev encK:Bs→Value:=fun d=>dg d
abbrev okK:Bs→Prop:=fun d=>d.length=32
theorem strRw:strucO prog 158=some [(false,3,0),(false,76,1)]:=by kernel_rfl
theorem stRw:prog.stoodInHeld 158=false:=by kernel_rfl
theorem rwC_ext {r:Bs}(h:r.length=32):(rwC n r).toArray.extract 1 (1+32)=(r.map u8).toArray:=by
 apply Array.toList_inj.1;simp[rwC];exact List.take_of_length_le (by simp[h])
theorem keyR:KeyT prog 158 encR okR where
 eq a b ha hb:=by
  show eqV prog Op.maxDepth 158 (.agg (rwC a.1 a.2).toArray) (.agg (rwC b.1 b.2).toArray)=_;rw[show Op.maxDepth=9997+1+1+1 from rfl,eqV_st strRw stRw];have g:∀ {n:Nat} {r:Bs},(rwC n r).toArray[0]?=some (.int .i64 (n:Nat)):=fun {n r}=>rfl;simp only[List.mapM_cons,List.mapM_nil,qKd agg3,part_agg agg76 sz76,qD,if_false,rwC_ext ha,rwC_ext hb,g,Option.bind_some,eqV_i int3,eqV_dg arr76 int5 sz5 agg5 ha hb,Option.pure_def,Option.bind_eq_bind,Option.map_some,yD,List.all_nil,id,yF]
  congr 1
  obtain⟨a1,a2⟩:=a;obtain⟨b1,b2⟩:=b;rw[Bool.eq_iff_iff]
  simp
 ck a ha:=by
  show ckV prog (9997+1+1+1) 158 (.agg (rwC a.1 a.2).toArray)=true;rw[ckV_st strRw];have g:(rwC a.1 a.2).toArray[0]?=some (.int .i64 (a.1:Nat)):=rfl;simp only[yD,List.all_nil,qD,if_false,qKd agg3,part_agg agg76 sz76,rwC_ext ha,g,ckV_i int3,yF,Bool.true_and];exact ckV_dg arr76 int5 sz5 agg5 ha _
 same a _:=sameAgg fun x hx=>by
  simp only[rwC,List.mem_cons,List.mem_map]at hx
  rcases hx with rfl | ⟨y,_,rfl⟩
  ·exact same_int _ _ _
  ·exact same_int _ _ _
theorem keyK:KeyT prog 76 encK okK:=keyDg arr76 int5 sz5 agg5
def MpO {κ:Type}(enc:κ→Value)(ok:κ→Prop)(w:World)(o:Option Nat)(l:List (κ × Value)):Prop:=match o with
 | none=>l=[]
 | some b=>Mp enc ok w b l
theorem MpO.fr {κ:Type}{enc:κ→Value}{ok:κ→Prop}{w w':World}{l:List (κ × Value)}(h:MpO enc ok w o l)(f:Fr F w w')(hf:∀ b,o=some b→¬ F b):MpO enc ok w' o l:=by
 cases o with
 | none=>exact h
 | some b=>exact Mp.fr h f (hf b rfl)
theorem MpO.look {κ:Type}[DecidableEq κ]{enc:κ→Value}{ok:κ→Prop}{kt:TypeId}(ht:KeyT prog kt enc ok){l:List (κ × Value)}(h:MpO enc ok w o l){k:κ}(hk:ok k){t et:TypeId}(hm:mapO prog t=some (kt, et)){z:Value}(hz:zeroO prog et=some z) :
  lookO prog t w (.map o) (enc k)=some ((findM l k).getD z,(findM l k).isSome):=by
 cases o with
 | none=>rw[show l=[] from h,look_nil ht hk hm hz];rfl
 | some b=>exact Mp.look ht h hk hm hz
structure Cx where
 u:World
 sb:Nat
 iv:Value
 im:Bs
 s:Sup
 mn:Nat
 mr:Nat
 cv:Value
 vv:Value
 nl:List (Nat × Value)
 rl:List (Nat × Value)
 pg:Nat→Option Pg
 pb:Nat
 ob:Nat
 nb:Nat
 oR:Option Nat
 oL:Option Nat
 ro:List (RK × Value)
 lo:List (Bs × Value)
 nR:Nat
 nL:Nat
 fresh:Nat
 fs:List (Nat × Int)
structure Cx.Ok (c:Cx):Prop where
 tabs:Tabs c.u
 hRL:c.nR≠c.nL
 hRn:c.nR≠c.mn∧c.nR≠c.mr
 hLn:c.nL≠c.mn∧c.nL≠c.mr
 hoR:∀ b,c.oR=some b→b≠c.nR∧b≠c.nL
 hoL:∀ b,c.oL=some b→b≠c.nR∧b≠c.nL
 hpb:c.u.heap.size≤c.pb
 hsb:c.u.heap.size≤c.sb
 hnR:c.u.heap.size≤c.nR
 hnL:c.u.heap.size≤c.nL
 hiv:∀ b,qQg c.iv=some b→b<c.u.heap.size
 hm:c.s.mark≤4096
 hpg:∀ p,c.s.mark≤p→c.pg p=none
 hnd:∀ p n,c.pg p=some (.nd n)→2≤p∧n.right
 hf:c.fresh≤4096
 hfs:c.fs.length≤2 ^ 20
def SgX (c:Cx)(w:World)(fs:List (Nat × Int)):Prop:=∃ fv bv,SgM c.u w c.sb c.iv c.im c.s c.mn c.mr c.cv c.vv fv bv c.nl c.rl c.pg c.s.mark fs∧Blank c.u w c.s.width bv
abbrev paC (c:Cx)(next:Nat):Array Value:=#[pt c.sb 0,pt c.ob 0,pt c.nb 0,.int .i64 (c.fresh:Nat),.int .i64 (next:Nat)]
structure PassM (c:Cx) (w:World) (next:Nat) (rows:List (RK × Value)) (lvs:List (Bs × Value)):Prop where
 sg:SgX c w c.fs
 pass:w.heap[c.pb]?=some (.cells (paC c next) 213 (0,0))
 old:w.heap[c.ob]?=some (.cells #[.map c.oR,.map c.oL] 155 (0,0))
 now:w.heap[c.nb]?=some (.cells #[.map (some c.nR),.map (some c.nL)] 155 (0,0))
 oldR:MpO encR okR w c.oR c.ro
 oldL:MpO encK okK w c.oL c.lo
 nowR:Mp encR okR w c.nR rows
 nowL:Mp encK okK w c.nL lvs
 no:No c.u w
def PaB (c:Cx)(b:Nat):Prop:=b=c.sb∨b=c.pb∨b=c.nR∨b=c.nL
section
variable {u w w':World} {sb:Nat} {iv:Value} {im:Bs} {s:Sup} {mn mr:Nat} {cv vv fv bv:Value} {nl rl:List (Nat × Value)} {pg:Nat→Option Pg} {k:Nat} {fs:List (Nat × Int)}
theorem SgM.fr (h:SgM u w sb iv im s mn mr cv vv fv bv nl rl pg k fs)(f:Fr F w w')(hu:∀ b, F b→u.heap.size≤b)(hiv:∀ b, qQg iv=some b→b<u.heap.size)(hm:¬ F mn∧¬ F mr)
  (hc:∀ b c el,w.heap[b]?=some (.cells c el (0,0))→F b→el≠3∧el≠5∧el≠43) {vv' bv':Value} (hr:w'.heap[sb]?=some (.cells (sgC iv s mn mr cv vv' fv bv') 73 (0,0))) (ov:one vv'=true) (ob:one bv'=true):SgM u w' sb iv im s mn mr cv vv' fv bv' nl rl pg k fs :=
 ⟨hr,h.img.fr f (fun b hb _ hf=>by have:=hiv b hb;have:=hu b hf;omega),h.nds.fr f hm.1,h.rcs.fr f hm.2,h.hne,h.hsb,h.hmn,h.hmr,
  h.chn.fr f (fun b hb hf=>by obtain⟨c,hc'⟩:=qXg h.chn hb;exact (hc _ _ _ hc' hf).1 rfl),h.fnd.fr f (fun b hb hf=>by obtain⟨c,hc'⟩:=qXg h.fnd hb;exact (hc _ _ _ hc' hf).2.2 rfl),h.na.fr f (fun b c hb hf=>(hc _ _ _ hb hf).2.1 rfl),h.ra,ov,ob⟩
end
section
variable {c:Cx} {w w':World} {next:Nat} {rows:List (RK × Value)} {lvs:List (Bs × Value)}
theorem PassM.fr0 (h:PassM c w next rows lvs)(f:No w w'):PassM c w' next rows lvs:=by
 obtain⟨fv,bv,hs,hb⟩:=h.sg;exact⟨⟨fv,bv,hs.fr0 f,hb.fr f fun _ _ _ _ _ h=>h⟩,f.at h.pass id,f.at h.old id,f.at h.now id,h.oldR.fr f fun _ _ h=>h,h.oldL.fr f fun _ _ h=>h,h.nowR.fr0 f,h.nowL.fr0 f,h.no.trans f⟩
theorem PassM.srow (h:PassM c w next rows lvs):∃ fv bv,SgM c.u w c.sb c.iv c.im c.s c.mn c.mr c.cv c.vv fv bv c.nl c.rl c.pg c.s.mark c.fs∧Blank c.u w c.s.width bv∧SRow c.u w c.sb c.iv c.s c.mn c.mr c.cv c.vv fv (fun _=>False):=by
 obtain⟨fv,bv,hs,hb⟩:=h.sg;exact⟨fv,bv,hs,hb,bv,hs.row,hb,fun _ _ h=>h⟩
theorem PassM.dig (h:PassM c w next rows lvs)(hk:c.Ok){fv bv:Value}(hs:SgM c.u w c.sb c.iv c.im c.s c.mn c.mr c.cv c.vv fv bv c.nl c.rl c.pg c.s.mark c.fs)(f:Fr (fun b=>b=c.sb) w w')(hr:SRow c.u w' c.sb c.iv c.s c.mn c.mr c.cv c.vv fv (fun _=>False)):PassM c w' next rows lvs:=by
 obtain⟨bv',r',b',_⟩:=hr;have cs:∀ {b c' el},w.heap[b]?=some (.cells c' el (0,0))→el≠73→b≠c.sb:=fun {b c' el} hb he e=>by subst e;rw[hs.row]at hb;cases hb;exact he rfl
 have ms:∀ {κ:Type} {enc:κ→Value} {ok:κ→Prop} {b:Nat} {l:List (κ × Value)},Mp enc ok w b l→b≠c.sb:=fun {κ enc ok b l} hm e=>by
  obtain⟨es,cc,h1,_⟩:=hm;subst e;rw[hs.row]at h1;cases h1
 refine⟨⟨fv,bv',hs.fr f (fun b e=>by subst e;exact hk.hsb) hk.hiv ⟨ms hs.nds,ms hs.rcs⟩ (fun b c' el hb e=>?_) r' hs.ov b'.one,b'⟩,f.at h.pass (cs h.pass (by decide)),f.at h.old (cs h.old (by decide)),f.at h.now (cs h.now (by decide)),h.oldR.fr f fun b e=>?_,h.oldL.fr f fun b e=>?_,h.nowR.fr f (ms h.nowR),h.nowL.fr f (ms h.nowL),h.no.trans' f fun b hb e=>by subst e;have:=hk.hsb;omega⟩
 ·subst e;rw[hs.row]at hb;cases hb;exact⟨by decide,by decide,by decide⟩
 ·have:=h.oldR;rw[e]at this;exact ms this
 ·have:=h.oldL;rw[e]at this;exact ms this
theorem PassM.step (h:PassM c w next rows lvs)(hk:c.Ok)(n':Nat)(f:Fr (fun b=>b=c.pb) w w')(hp:w'.heap[c.pb]?=some (.cells (paC c n') 213 (0,0))):PassM c w' n' rows lvs:=by
 obtain⟨fv,bv,hs,hb⟩:=h.sg;have cs:∀ {b c' el},w.heap[b]?=some (.cells c' el (0,0))→el≠213→b≠c.pb:=fun {b c' el} hb he e=>by subst e;rw[h.pass]at hb;cases hb;exact he rfl
 have ms:∀ {κ:Type} {enc:κ→Value} {ok:κ→Prop} {b:Nat} {l:List (κ × Value)},Mp enc ok w b l→b≠c.pb:=fun {κ enc ok b l} hm e=>by
  obtain⟨es,cc,h1,_⟩:=hm;subst e;rw[h.pass]at h1;cases h1
 refine⟨⟨fv,bv,hs.fr f (fun b e=>by subst e;exact hk.hpb) hk.hiv ⟨ms hs.nds,ms hs.rcs⟩ (fun b c' el hb e=>?_) (f.at hs.row (cs hs.row (by decide))) hs.ov hs.ob,hb.fr f fun b c' hb _ _ e=>cs hb (by decide) e⟩,hp,f.at h.old (cs h.old (by decide)),f.at h.now (cs h.now (by decide)),h.oldR.fr f fun b e=>?_,h.oldL.fr f fun b e=>?_,h.nowR.fr f (ms h.nowR),h.nowL.fr f (ms h.nowL),h.no.trans' f fun b hb e=>by subst e;have:=hk.hpb;omega⟩
 ·subst e;rw[h.pass]at hb;cases hb;exact⟨by decide,by decide,by decide⟩
 ·have:=h.oldR;rw[e]at this;exact ms this
 ·have:=h.oldL;rw[e]at this;exact ms this
theorem PassM.putR (h:PassM c w next rows lvs)(hk:c.Ok){r:Bs}(hr:r.length=32)(p:Nat):∃ ob,putE prog 158 w.heap[c.nR]? (.agg (rwC n r).toArray) (.int .i64 (p:Nat))=some ob∧PassM c (put w c.nR ob) next (insM rows (n,r) (.int .i64 (p:Nat))) lvs∧Fr (fun b=>b=c.nR) w (put w c.nR ob):=by
 obtain⟨fv,bv,hs,hb⟩:=h.sg;obtain⟨ob,h1,h2,h3⟩:=h.nowR.put keyR (k:=(n,r)) hr (.int .i64 (p:Nat));have f:Fr (fun b=>b=c.nR) w (put w c.nR ob):=(Fr.refl _ _).put (b:=c.nR) ob (fun _=>rfl) h2;obtain⟨es,cc,hm,_⟩:=id h.nowR;have cs:∀ {b c' el},w.heap[b]?=some (.cells c' el (0,0))→b≠c.nR:=fun {b c' el} hb e=>by subst e;rw[hm]at hb;cases hb
 refine⟨ob,h1,⟨⟨fv,bv,hs.fr f (fun b e=>by subst e;exact hk.hnR) hk.hiv ⟨fun e=>hk.hRn.1 e.symm,fun e=>hk.hRn.2 e.symm⟩ (fun b c' el hb e=>absurd e (cs hb)) (f.at hs.row (cs hs.row)) hs.ov hs.ob,hb.fr f fun b c' hb _ _ e=>cs hb e⟩,f.at h.pass (cs h.pass),f.at h.old (cs h.old),f.at h.now (cs h.now),h.oldR.fr f fun b e=>(hk.hoR b e).1,h.oldL.fr f fun b e=>(hk.hoL b e).1,h3 _ (qQd hm),h.nowL.fr f fun e=>hk.hRL e.symm,h.no.trans' f fun b hb e=>by subst e;have:=hk.hnR;omega⟩,f⟩
theorem PassM.putL (h:PassM c w next rows lvs)(hk:c.Ok)(hr:k.length=32)(p:Nat):∃ ob,putE prog 76 w.heap[c.nL]? (dg k) (.int .i64 (p:Nat))=some ob∧PassM c (put w c.nL ob) next rows (insM lvs k (.int .i64 (p:Nat)))∧Fr (fun b=>b=c.nL) w (put w c.nL ob):=by
 obtain⟨fv,bv,hs,hb⟩:=h.sg;obtain⟨ob,h1,h2,h3⟩:=h.nowL.put keyK (k:=k) hr (.int .i64 (p:Nat));have f:Fr (fun b=>b=c.nL) w (put w c.nL ob):=(Fr.refl _ _).put (b:=c.nL) ob (fun _=>rfl) h2;obtain⟨es,cc,hm,_⟩:=id h.nowL;have cs:∀ {b c' el},w.heap[b]?=some (.cells c' el (0,0))→b≠c.nL:=fun {b c' el} hb e=>by subst e;rw[hm]at hb;cases hb
 refine⟨ob,h1,⟨⟨fv,bv,hs.fr f (fun b e=>by subst e;exact hk.hnL) hk.hiv ⟨fun e=>hk.hLn.1 e.symm,fun e=>hk.hLn.2 e.symm⟩ (fun b c' el hb e=>absurd e (cs hb)) (f.at hs.row (cs hs.row)) hs.ov hs.ob,hb.fr f fun b c' hb _ _ e=>cs hb e⟩,f.at h.pass (cs h.pass),f.at h.old (cs h.old),f.at h.now (cs h.now),h.oldR.fr f fun b e=>(hk.hoR b e).2,h.oldL.fr f fun b e=>(hk.hoL b e).2,h.nowR.fr f hk.hRL,h3 _ (qQd hm),h.no.trans' f fun b hb e=>by subst e;have:=hk.hnL;omega⟩,f⟩
end
end A
end
section
namespace A
open Aud
theorem zNode:zeroO prog 78=some (.agg nd0.toArray):=by kernel_rfl
def stC (page by' count:Nat)(sum:Bs):List Value:=[.int .i64 (page:Nat),.int .i64 (by':Nat),.int .i64 (count:Nat)]++sum.map u8
def ndsP (pg:Nat→Option Pg)(p:Nat):Option Nd:=match pg p with
 | some (.nd n)=>some n
 | _=>none
theorem qJd {pg:Nat→Option Pg}{n:Nd}:ndsP pg p=some n ↔ pg p=some (.nd n):=by
 unfold ndsP;split
 ·rename_i m h;rw[h];exact⟨(fun e=>by cases e;rfl),(fun e=>by cases e;rfl)⟩
 ·rename_i h;exact⟨(fun e=>by cases e),fun e=>absurd e (h n)⟩
section
variable {c:Cx} {w w':World} {next:Nat} {rows:List (RK × Value)} {lvs:List (Bs × Value)}
theorem PassM.ndS (h:PassM c w next rows lvs)(hk:c.Ok){n:Nd}(hp:ndsP c.pg p=some n):∃ vv,lookO prog 68 w (.map (some c.mn)) (.int .i64 (p:Nat))=some (.agg (ndA n vv).toArray,true)∧one vv=true∧NwB c.u w vv (ndVal n)∧n.right∧2≤p∧(n.kind=2→vv=.slice none 0 0):=by
 obtain⟨fv,bv,hs,_⟩:=h.sg;have hp:=qJd.1 hp;have hn:=hs.na p
 have hlt:p<c.s.mark:=by
  by_cases hl:p<c.s.mark
  ·exact hl
  ·rw[hk.hpg p (by omega)]at hp;cases hp
 rw[if_pos hlt,hp]at hn;obtain⟨x,a,vv,e,ov,nb,e2⟩:=hn;have lk:=hs.nds.look keyN (k:=p) trivial map68 zNode;rw[a,e]at lk;exact⟨vv,lk,ov,nb,(hk.hnd p n hp).2,(hk.hnd p n hp).1,e2⟩
theorem PassM.ndN (h:PassM c w next rows lvs)(hk:c.Ok)(hp:ndsP c.pg p=none):lookO prog 68 w (.map (some c.mn)) (.int .i64 (p:Nat))=some (.agg nd0.toArray,false):=by
 obtain⟨fv,bv,hs,_⟩:=h.sg;have hn:=hs.na p;have lk:=hs.nds.look keyN (k:=p) trivial map68 zNode
 have:findM c.nl p=none:=by
  split at hn
  ·rename_i n e
   split at e
   ·rw[qJd.2 e]at hp;cases hp
   ·cases e
  ·exact hn
 rw[this]at lk;exact lk
theorem PassM.rds (h:PassM c w next rows lvs):rdO prog 63 w c.pb 0=some (pt c.sb 0)∧rdO prog 68 w c.sb 6=some (.map (some c.mn))∧rdO prog 156 w c.pb 2=some (pt c.nb 0)∧rdO prog 156 w c.pb 1=some (pt c.ob 0) ∧
  rdO prog 152 w c.nb 0=some (.map (some c.nR))∧rdO prog 153 w c.nb 1=some (.map (some c.nL))∧rdO prog 152 w c.ob 0=some (.map c.oR)∧rdO prog 153 w c.ob 1=some (.map c.oL)∧rdO prog 3 w c.pb 3=some (.int .i64 (c.fresh:Nat))∧rdO prog 3 w c.pb 4=some (.int .i64 (next:Nat)):=by
 obtain⟨fv,bv,hs,_⟩:=h.sg;exact⟨rd1 agg63 h.pass rfl,rd1 agg68 hs.row rfl,rd1 agg156 h.pass rfl,rd1 agg156 h.pass rfl,rd1 agg152 h.now rfl,rd1 agg153 h.now rfl,rd1 agg152 h.old rfl,rd1 agg153 h.old rfl,rd1 agg3 h.pass rfl,rd1 agg3 h.pass rfl⟩
end
theorem rdLf {k v:Bs}(hk:k.length=32)(h:w.heap[b]?=some (.cells (ndA (.leaf k v) vv).toArray 78 (0,0))):rdO prog 3 w b 0=some (.int .i64 1)∧rdO prog 3 w b 1=some (.int .i64 0)∧rdO prog 3 w b 2=some (.int .i64 0)∧rdO prog 76 w b 69=some (dg k)∧rdO prog 22 w b 101=some vv:=by
 refine⟨rd1 agg3 h rfl,rd1 agg3 h rfl,rd1 agg3 h rfl,?_,rd1 agg22 h ?_⟩
 ·refine qJg (e:=78) (fz:=(0,0)) (a:=[.int .i64 1,.int .i64 0,.int .i64 0,.int .i64 0,.int .i64 0]++z32.map u8++z32.map u8) (m:=k.map u8) (r:=[vv]) agg76 (by simp[hk];exact sz76) (by simp[hk]) ?_ (by simp)
  rw[h];rfl
 ·rw[zZ]
  show ([.int .i64 1,.int .i64 0,.int .i64 0,.int .i64 0,.int .i64 0]++z32.map u8++z32.map u8++k.map u8++[vv])[101]?=_;rw[List.getElem?_append_right (by simp[hk])];simp[hk]
theorem rdBr {b lp rp lc rc:Nat}{ls rs:Bs}(hls:ls.length=32)(hrs:rs.length=32)(h:w.heap[b]?=some (.cells (ndA (.br lp rp lc rc ls rs) vv).toArray 78 (0, 0))):rdO prog 3 w b 0=some (.int .i64 2)∧rdO prog 3 w b 1=some (.int .i64 (lp:Nat))∧rdO prog 3 w b 2=some (.int .i64 (rp:Nat))∧rdO prog 3 w b 3=some (.int .i64 (lc:Nat))∧rdO prog 3 w b 4=some (.int .i64 (rc:Nat)) ∧
  rdO prog 75 w b 5=some (dg ls)∧rdO prog 75 w b 37=some (dg rs):=by
 refine⟨rd1 agg3 h rfl,rd1 agg3 h rfl,rd1 agg3 h rfl,rd1 agg3 h rfl,rd1 agg3 h rfl,?_,?_⟩
 ·refine qJg (e:=78) (fz:=(0,0)) (a:=[.int .i64 2,.int .i64 (lp:Nat),.int .i64 (rp:Nat),.int .i64 (lc:Nat),.int .i64 (rc:Nat)]) (m:=ls.map u8) (r:=rs.map u8++z32.map u8++[vv]) agg75 (by simp[hls];exact sz75) (by simp[hls]) ?_ (by simp)
  rw[h];simp only[ndA,ndC,List.append_assoc];rfl
 ·refine qJg (e:=78) (fz:=(0,0)) (a:=[.int .i64 2,.int .i64 (lp:Nat),.int .i64 (rp:Nat),.int .i64 (lc:Nat),.int .i64 (rc:Nat)]++ls.map u8) (m:=rs.map u8) (r:=z32.map u8++[vv]) agg75 (by simp[hrs];exact sz75) (by simp[hrs]) ?_ (by simp[hls])
  rw[h];simp only[ndA,ndC,List.append_assoc];rfl
theorem rdRw {row:Bs}(hr:row.length=32)(h:w.heap[b]?=some (.cells (rwC n row).toArray 158 (0,0))):rdO prog 3 w b 0=some (.int .i64 (n:Nat))∧rdO prog 76 w b 1=some (dg row)∧rdO prog 158 w b 0=some (.agg (rwC n row).toArray) :=
 ⟨rd1 agg3 h rfl,qJg (e:=158) (fz:=(0,0)) (a:=[.int .i64 (n:Nat)]) (m:=row.map u8) (r:=[]) agg76 (by simp[hr];exact sz76) (by simp[hr]) (by rw[h,rwC,List.append_nil];rfl) rfl,qQo (P:=prog) agg158 sz158 h (by simp[rwC,hr])⟩
theorem qZm {n:Nd}(h:n.right)(vv:Value):(ndA n vv).length=102:=by
 cases n with
 | leaf k v=>exact qQz z32l z32l h.1 _
 | br lp rp lc rc ls rs=>exact qQz h.2.1 h.2.2 z32l _
theorem ndA_one {n:Nd}(h:one vv=true):(ndA n vv).all one=true:=by
 cases n with
 | leaf k v=>exact qZy _ _ _ _ _ _ _ _ h
 | br lp rp lc rc ls rs=>exact qZy _ _ _ _ _ _ _ _ h
theorem natlt (a b:Nat):decide (((a:Nat):Int)<((b:Nat):Int))=decide (a<b):=by simp
theorem natle (a b:Nat):decide (((a:Nat):Int)≤((b:Nat):Int))=decide (a≤b):=by simp
section
variable {c:Cx} {w w':World} {next:Nat} {rows:List (RK × Value)} {lvs:List (Bs × Value)}
theorem links (h:PassM c w next rows lvs)(hk:c.Ok){row:Bs}(hr:row.length=32)(page by' count:Nat)(sum:Bs) :
  Fn prog 161 #[pt c.pb 0,.agg (stC page by' count sum).toArray,.agg (rwC n row).toArray] w fun v w'=>v=.bool (Aud.linked (ndsP c.pg) n row page by' count).isSome∧No w w':=by
 refine go161 (by simp) ?_;generalize hR:(Aud.linked (ndsP c.pg) n row page by' count).isSome=R;obtain⟨W,hW,f1,k1,k2,s1⟩:=qJy w (stC page by' count sum).toArray 217 (rwC n row).toArray 158;simp -implicitDefEqProofs only[go_sem,jY,y7,jH,zB,Tryz.f161,hW];refine qXf (fun j=>j == 13) (.row [0,1,2,7,3,4,5,6,8,9,10,11,12,13,14,15]) rfl (by kernel_rfl) (by kernel_rfl) ?_;have f1:=f1.drew;have k1:W.drew.heap[w.heap.size]?=_:=k1;have k2:W.drew.heap[w.heap.size+1]?=_:=k2;have s1:W.drew.heap.size=w.heap.size+2:=s1;generalize W.drew=W1 at *;have hP:=h.fr0 f1;have b0:rdO prog 3 W1 w.heap.size 0=some (.int .i64 (page:Nat)):=rd1 agg3 k1 rfl;obtain⟨W2,hW2,f2,k3,s2⟩:=qQl W1 nd0.toArray 78;rw[s1]at k3;have e2:=f2.ext;obtain⟨p0,p1,_⟩:=hP.rds;have zz:#[.int .i64 0,.int .i64 0,.int .i64 0,.int .i64 0,.int .i64 0]++bl (List.replicate 96 0)++#[.slice none 0 0]=nd0.toArray:=ndZero
 cases hp:ndsP c.pg page with
 | none =>
  have lk:=hP.ndN hk hp;have q3:wrO prog 78 W2 (w.heap.size+2) 0 (.agg nd0.toArray)=some (put W2 (w.heap.size+2) (.cells nd0.toArray 78 (0,0))):=qQr (by exact sz78) k3 rfl (by simpa using qZy 0 0 0 0 0 z32 z32 z32 rfl);simp -implicitDefEqProofs only[go_sem,jY,jG,gLa,gLz,gLs,jH,bSe,qXq,Bool.not_false,zB,qQk,OT.row,p0,p1,b0,lk,zz,hW2,s1,q3,e2,implies_true];refine⟨?_,(f1.trans f2).put (b:=w.heap.size+2) _ fun h=>by omega⟩;rw[← hR];unfold Aud.linked;rw[hp];rfl
 | some nd =>
  obtain⟨vv,lk,ov,nb,hnr,_,_⟩:=hP.ndS hk hp;have q3:wrO prog 78 W2 (w.heap.size+2) 0 (.agg (ndA nd vv).toArray)=some (put W2 (w.heap.size+2) (.cells (ndA nd vv).toArray 78 (0,0))):=qQr (by simp[qZm hnr];exact sz78) k3 (by simp[qZm hnr,qQz z32l z32l z32l]) (by simpa using ndA_one ov);have f3:=(f1.trans f2).put (b:=w.heap.size+2) (.cells (ndA nd vv).toArray 78 (0,0)) fun h=>by omega
  have g1:=qQi (b:=w.heap.size+2) (o:=.cells (ndA nd vv).toArray 78 (0,0)) (f2.at k1 id) (by omega);have g2:=qQi (b:=w.heap.size+2) (o:=.cells (ndA nd vv).toArray 78 (0,0)) (f2.at k2 id) (by omega);have g3:=qQd (o:=.cells (ndA nd vv).toArray 78 (0,0)) k3;simp -implicitDefEqProofs only[go_sem,jY,jG,gLa,gLz,gLs,jH,bSe,Bool.not_true,zB,qQk,OT.row,p0,p1,b0,lk,zz,hW2,s1,q3,e2,implies_true];generalize put W2 (w.heap.size+2) (.cells (ndA nd vv).toArray 78 (0,0))=W3 at *;have c0:rdO prog 3 W3 w.heap.size 0=some (.int .i64 (page:Nat)):=rd1 agg3 g1 rfl;have c1:rdO prog 3 W3 w.heap.size 1=some (.int .i64 (by':Nat)):=rd1 agg3 g1 rfl;have c2:rdO prog 3 W3 w.heap.size 2=some (.int .i64 (count:Nat)):=rd1 agg3 g1 rfl;have gl:=natle by' page
  cases nd with
  | leaf k v =>
   obtain⟨d0,d1,d2,d3,d4⟩:=rdLf hnr.1 g3;obtain⟨t0,t1,t2⟩:=rdRw hr g2
   have hR:R=decide (page<by'∧count=1∧n≤common k row):=by
    rw[← hR];unfold Aud.linked;rw[hp];show (if page<by'∧count=1∧n≤common k row then some (Nd.leaf k v) else none).isSome=_;split
    ·rename_i h;exact (decide_eq_true h).symm
    ·rename_i h;exact (decide_eq_false h).symm
   by_cases hb:by'≤page
   ·rw[decide_eq_true hb]at gl
    simp -implicitDefEqProofs only[go_sem,jY,gLa,gLz,gLs,bSe,zB,c0,c1,gl];exact⟨by rw[hR,decide_eq_false (by omega)],f3⟩
   ·rw[decide_eq_false hb]at gl
    have gc:((count:Int) == 1)=decide (count=1):=nateq count 1;simp -implicitDefEqProofs only[go_sem,jY,gLa,gLz,gLs,bSe,zB,c0,c1,gl,d0];refine qXf (fun j=>j == 8) (.row [0,1,2,3,4,6,9,5,7,10,8,11,12,13]) rfl (by kernel_rfl) (by kernel_rfl) ?_;have f3:=f3.drew;have c2:rdO prog 3 W3.drew w.heap.size 2=some (.int .i64 (count:Nat)):=c2;have d3:rdO prog 76 W3.drew (w.heap.size+2) 69=some (dg k):=d3;have t0:rdO prog 3 W3.drew (w.heap.size+1) 0=some (.int .i64 (n:Nat)):=t0;have t1:rdO prog 76 W3.drew (w.heap.size+1) 1=some (dg row):=t1;generalize W3.drew=W4 at *
    by_cases hc:count=1
    ·rw[decide_eq_true hc]at gc
     simp -implicitDefEqProofs only[go_sem,jY,jG,gLa,gLz,gLs,bSe,zB,OT.row,c2,gc,d3,t0,t1];refine qQf pl184 ((commonP W4 hnr.1 hr).mono ?_);rintro _ w5 ⟨rfl,f5⟩;refine⟨fun _=>f5.ext,?_⟩;have gd:=natle n (common k row);simp -implicitDefEqProofs only[go_sem,jY,jG,gLa,gLz,gLs,bSe,gd];exact⟨by rw[hR];congr 1;exact Bool.eq_iff_iff.2 ⟨fun h=>decide_eq_true ⟨by omega,hc,of_decide_eq_true h⟩,fun h=>decide_eq_true (of_decide_eq_true h).2.2⟩,f3.trans f5⟩
    ·rw[decide_eq_false hc]at gc
     simp -implicitDefEqProofs only[go_sem,jY,jG,gLa,gLz,gLs,qQt,zB,OT.row,c2,gc];exact⟨by rw[hR,decide_eq_false fun h=>hc h.2.1],f3⟩
  | br lp rp lc rc ls rs =>
   obtain⟨d0,d1,d2,d3,d4,_⟩:=rdBr hnr.2.1 hnr.2.2 g3;obtain⟨t0,t1,t2⟩:=rdRw hr g2
   have hR:R=decide (page<by'∧count=lc+rc∧n<256):=by
    rw[← hR];unfold Aud.linked;rw[hp];show (if page<by'∧count=lc+rc∧n<256 then some (Nd.br lp rp lc rc ls rs) else none).isSome=_;split
    ·rename_i h;exact (decide_eq_true h).symm
    ·rename_i h;exact (decide_eq_false h).symm
   have hcc:=hnr.1.2.2.2.2
   by_cases hb:by'≤page
   ·rw[decide_eq_true hb]at gl
    simp -implicitDefEqProofs only[go_sem,jY,gLa,gLz,gLs,bSe,zB,c0,c1,gl];exact⟨by rw[hR,decide_eq_false (by omega)],f3⟩
   ·rw[decide_eq_false hb]at gl
    have ga:IntKind.i64.wrap ((lc:Int)+(rc:Int))=((lc+rc:Nat):Int):=qXi (b:=rc);have gc:=nateq count (lc+rc);have gd:decide ((n:Int)<256)=decide (n<256):=natlt n 256;have d21:((2:Int) == 1)=false:=rfl
    by_cases hc:count=lc+rc
    ·rw[decide_eq_true hc]at gc
     simp -implicitDefEqProofs only[go_sem,jY,gLa,gLz,gLs,bSe,zB,c0,c1,c2,gl,d0,d21,d3,d4,ga,gc,t0,gd];exact⟨by rw[hR];congr 1;exact Bool.eq_iff_iff.2 ⟨fun h=>decide_eq_true ⟨by omega,hc,of_decide_eq_true h⟩,fun h=>decide_eq_true (of_decide_eq_true h).2.2⟩,f3⟩
    ·rw[decide_eq_false hc]at gc
     simp -implicitDefEqProofs only[go_sem,jY,gLa,gLz,gLs,bSe,qQt,zB,c0,c1,c2,gl,d0,d21,d3,d4,ga,gc];exact⟨by rw[hR,decide_eq_false fun h=>hc h.2.1],f3⟩
end
end A
end
section
namespace A
open Aud
abbrev enP (o:Option Nat):Option Value:=o.map fun p=>.int .i64 (p:Nat)
def RowsIn (n:Nat)(row:Bs)(t:PT)(rows rows':List (RK × Value)):Prop:=∀ key,findM rows' key=(enP (Aud.rowAt n row t key)).or (findM rows key)
def LvsIn (t:PT)(lvs lvs':List (Bs × Value)):Prop:=∀ k,findM lvs' k=(enP (lfAt t k)).or (findM lvs k)
theorem RowsIn.nil (n:Nat)(row:Bs)(rows:List (RK × Value)):RowsIn n row .nil rows rows:=fun _=>rfl
theorem LvsIn.nil (lvs:List (Bs × Value)):LvsIn .nil lvs lvs:=fun _=>rfl
theorem RowsIn.leaf (n:Nat)(row:Bs)(p:Nat)(k v:Bs)(rows:List (RK × Value)):RowsIn n row (.leaf p k v) rows (insM rows (n,row) (.int .i64 (p:Nat))):=fun key=>by
 rw[qJi];unfold Aud.rowAt
 by_cases h:key=(n,row)
 ·rw[if_pos h,if_pos h.symm];rfl
 ·rw[if_neg h,if_neg fun e=>h e.symm];rfl
theorem LvsIn.leaf (p:Nat)(k v:Bs)(lvs:List (Bs × Value)):LvsIn (.leaf p k v) lvs (insM lvs k (.int .i64 (p:Nat))):=fun key=>by
 rw[qJi];unfold lfAt
 by_cases h:k=key
 ·rw[if_pos h,if_pos h];rfl
 ·rw[if_neg h,if_neg h];rfl
theorem LvsIn.br {l r:PT}{l0 l1 l2:List (Bs × Value)}(h1:LvsIn l l0 l1)(h2:LvsIn r l1 l2):LvsIn (.br p l r) l0 l2:=fun k=>by
 rw[h2 k,h1 k];show _=(enP ((lfAt r k).or (lfAt l k))).or _
 cases lfAt r k <;> cases lfAt l k <;> rfl
theorem row_off {row:Bs}(b:Bool){t:PT}(hn:n<256)(hr:Row n row)(hw:t.Wf (n+1)):Aud.rowAt (n+1) (under n b row) t (n,row)=none:=by
 cases h:Aud.rowAt (n+1) (under n b row) t (n,row) with
 | none=>rfl
 | some p=>have:=(rowAt_in (by omega) hw (hr.under hn b) h).1;omega
theorem RowsIn.br {row:Bs}{l r:PT}{r0 r1 r2:List (RK × Value)}(hn:n<256)(hr:Row n row)(w1:l.Wf (n+1))(w2:r.Wf (n+1))(h1:RowsIn (n+1) (under n false row) l (insM r0 (n,row) (.int .i64 (p:Nat))) r1)(h2:RowsIn (n+1) (under n true row) r r1 r2):RowsIn n row (.br p l r) r0 r2:=fun key=>by
 rw[h2 key,h1 key,qJi];show _=(enP (if key=(n,row) then some p else (Aud.rowAt (n+1) (under n true row) r key).or (Aud.rowAt (n+1) (under n false row) l key))).or _
 by_cases h:key=(n,row)
 ·subst h;rw[if_pos rfl,if_pos rfl,row_off true hn hr w2,row_off false hn hr w1];rfl
 ·rw[if_neg h,if_neg fun e=>h e.symm]
  cases Aud.rowAt (n+1) (under n true row) r key <;> cases Aud.rowAt (n+1) (under n false row) l key <;> rfl
theorem RowsIn.brL {row:Bs}{l r:PT}{r0 r1 r2:List (RK × Value)}(hn:n<256)(hr:Row n row)(w1:l.Wf (n+1))(w2:r.Wf (n+1))(h1:RowsIn (n+1) (under n false row) l r0 r1)(h2:RowsIn (n+1) (under n true row) r r1 r2):RowsIn n row (.br p l r) r0 (insM r2 (n,row) (.int .i64 (p:Nat))):=fun key=>by
 rw[qJi,h2 key,h1 key];show _=(enP (if key=(n,row) then some p else (Aud.rowAt (n+1) (under n true row) r key).or (Aud.rowAt (n+1) (under n false row) l key))).or _
 by_cases h:key=(n,row)
 ·subst h;rw[if_pos rfl,if_pos rfl];rfl
 ·rw[if_neg h,if_neg fun e=>h e.symm]
  cases Aud.rowAt (n+1) (under n true row) r key <;> cases Aud.rowAt (n+1) (under n false row) l key <;> rfl
section
variable {c:Cx} {w w':World} {next:Nat} {rows:List (RK × Value)} {lvs:List (Bs × Value)}
theorem PassM.lt (h:PassM c w next rows lvs)(hb:PaB c b):b<w.heap.size:=by
 obtain⟨fv,bv,hs,_⟩:=h.sg;obtain⟨_,_,m1,_⟩:=h.nowR;obtain⟨_,_,m2,_⟩:=h.nowL
 rcases hb with rfl | rfl | rfl | rfl
 ·exact qQh hs.row
 ·exact qQh h.pass
 ·exact qQh m1
 ·exact qQh m2
theorem keep {dgf:Nat→PT→Bs}(hk:c.Ok):∀ {t:PT} {n:Nat} {row:Bs} {w:World} {rows:List (RK × Value)} {lvs:List (Bs × Value)}, PassM c w next rows lvs→Stands dgf (ndsP c.pg) n t→t.Wf n→t≠.nil→n≤256→Row n row →
  Fn prog 162 #[pt c.pb 0,.int .i64 (t.page:Nat),.agg (rwC n row).toArray] w fun v w'=>v=.tuple #[]∧Fr (PaB c) w w'∧∃ rows' lvs',PassM c w' next rows' lvs'∧RowsIn n row t rows rows'∧LvsIn t lvs lvs'
 | .nil,_,_,_,_,_,_,_,_,hn,_,_=>absurd rfl hn
 | .leaf p k v,n,row,w,rows,lvs,h,hst,hw,_,hn6,hr=>by
  refine go162 (by simp) ?_;obtain⟨W,hW,f1,k1,s1⟩:=qQl w (rwC n row).toArray 158;have hP:=h.fr0 f1;obtain⟨p0,p1,_⟩:=hP.rds;obtain⟨vv,lk,ov,nb,hnr,_,_⟩:=hP.ndS hk (p:=p) (n:=.leaf k v) hst;obtain⟨W2,hW2,f2,k2,s2⟩:=qQl W nd0.toArray 78;have q3:wrO prog 78 W2 W.heap.size 0 (.agg (ndA (.leaf k v) vv).toArray)=some (put W2 W.heap.size (.cells (ndA (.leaf k v) vv).toArray 78 (0,0))):=qQr (by simp[qZm hnr];exact sz78) k2 (by simp[qZm hnr,qQz z32l z32l z32l]) (by simpa using ndA_one ov);have f3:=f2.put (b:=W.heap.size) (.cells (ndA (.leaf k v) vv).toArray 78 (0,0)) fun h=>by omega
  have g1:=qQi (b:=W.heap.size) (o:=.cells (ndA (.leaf k v) vv).toArray 78 (0,0)) (f2.at k1 id) (by omega);have g2:=qQd (o:=.cells (ndA (.leaf k v) vv).toArray 78 (0,0)) k2;have hpg:Value.int IntKind.i64 ((PT.leaf p k v).page:Nat)=.int .i64 (p:Nat):=rfl;rw[hpg];simp -implicitDefEqProofs only[go_sem,jY,jG,y7,jH,zB,qQk,Tryz.f162,hW,p0,p1,lk,ndZero,hW2,q3];have h3:=hP.fr0 f3;generalize put W2 W.heap.size (.cells (ndA (.leaf k v) vv).toArray 78 (0,0))=W3 at *;obtain⟨_,_,p2,_,p4,_⟩:=h3.rds;obtain⟨_,_,t2⟩:=rdRw hr.1 g1;have h3:=h3.fr0 (Fr.refl _ _).drew;have f3:=(f1.trans f3).drew;have g1:W3.drew.heap[w.heap.size]?=_:=g1;have g2:W3.drew.heap[W.heap.size]?=_:=g2;have s3:W.heap.size<W3.drew.heap.size:=qQh g2;obtain⟨ob,hpo,h4,f4⟩:=h3.putR hk (n:=n) (r:=row) hr.1 p;have hpo:putE prog 158 W3.heap[c.nR]? (.agg (rwC n row).toArray) (.int .i64 (p:Nat))=some ob:=hpo;simp -implicitDefEqProofs only[go_sem,jY,zB,p2,p4,t2,map152,hpo];have lR:=h.lt (b:=c.nR) (.inr (.inr (.inl rfl)));have g2:=f4.at g2 fun e=>by omega
  have f4:=f4.mono (G:=PaB c) fun _ _ e=>.inr (.inr (.inl e));generalize put W3.drew c.nR ob=W5 at *;obtain⟨d0,_,_,d3,_⟩:=rdLf hnr.1 g2;obtain⟨_,_,p2,_,_,p5,_⟩:=h4.rds;have h4:=h4.fr0 (Fr.refl _ _).drew;obtain⟨ob2,hpo2,h5,f5⟩:=h4.putL hk (k:=k) hnr.1 p;have hpo2:putE prog 76 W5.heap[c.nL]? (dg k) (.int .i64 (p:Nat))=some ob2:=hpo2;have c1:((1:Int) == 1)=true:=rfl;simp -implicitDefEqProofs only[go_sem,jY,jG,bSe,zB,d0,p2,p5,d3,map153,hpo2];exact⟨((f3.mono fun _ _ h=>h.elim).trans f4).drew.trans (f5.mono fun _ _ e=>.inr (.inr (.inr e))),_,_,h5,RowsIn.leaf n row p k v rows,LvsIn.leaf p k v lvs⟩
 | .br p l r,n,row,w,rows,lvs,h,hst,hw,_,hn6,hr=>by
  refine go162 (by simp) ?_;obtain⟨hs0,_,_,hs1,hs2⟩:=hst;obtain⟨_,hn,_,_,_,w1,w2⟩:=hw;obtain⟨W,hW,f1,k1,s1⟩:=qQl w (rwC n row).toArray 158;have hP:=h.fr0 f1;obtain⟨p0,p1,_⟩:=hP.rds;obtain⟨vv,lk,ov,nb,hnr,_,_⟩:=hP.ndS hk hs0;generalize hlc:l.ents.length=lc at *;generalize hrc:r.ents.length=rc at *;generalize hls:said dgf (255 - n) l=ls at *;generalize hrs:said dgf (255 - n) r=rs at *;obtain⟨W2,hW2,f2,k2,s2⟩:=qQl W nd0.toArray 78;have q3:wrO prog 78 W2 W.heap.size 0 (.agg (ndA (.br l.page r.page lc rc ls rs) vv).toArray)=some (put W2 W.heap.size (.cells (ndA (.br l.page r.page lc rc ls rs) vv).toArray 78 (0,0))):=qQr (by simp[qZm hnr];exact sz78) k2 (by simp[qZm hnr,qQz z32l z32l z32l]) (by simpa using ndA_one ov);have f3:=f2.put (b:=W.heap.size) (.cells (ndA (.br l.page r.page lc rc ls rs) vv).toArray 78 (0,0)) fun h=>by omega
  have g1:=qQi (b:=W.heap.size) (o:=.cells (ndA (.br l.page r.page lc rc ls rs) vv).toArray 78 (0,0)) (f2.at k1 id) (by omega);have g2:=qQd (o:=.cells (ndA (.br l.page r.page lc rc ls rs) vv).toArray 78 (0,0)) k2;have hpg:Value.int IntKind.i64 ((PT.br p l r).page:Nat)=.int .i64 (p:Nat):=rfl;rw[hpg];simp -implicitDefEqProofs only[go_sem,jY,jG,y7,jH,zB,qQk,Tryz.f162,hW,p0,p1,lk,ndZero,hW2,q3];have h3:=hP.fr0 f3;generalize put W2 W.heap.size (.cells (ndA (.br l.page r.page lc rc ls rs) vv).toArray 78 (0,0))=W3 at *;obtain⟨_,_,p2,_,p4,_⟩:=h3.rds;obtain⟨_,_,t2⟩:=rdRw hr.1 g1;have h3:=h3.fr0 (Fr.refl _ _).drew;have f3:=(f1.trans f3).drew;have g1:W3.drew.heap[w.heap.size]?=_:=g1;have g2:W3.drew.heap[W.heap.size]?=_:=g2;have s3:W.heap.size<W3.drew.heap.size:=qQh g2;obtain⟨ob,hpo,h4,f4⟩:=h3.putR hk (n:=n) (r:=row) hr.1 p;have hpo:putE prog 158 W3.heap[c.nR]? (.agg (rwC n row).toArray) (.int .i64 (p:Nat))=some ob:=hpo;simp -implicitDefEqProofs only[go_sem,jY,zB,p2,p4,t2,map152,hpo];have lR:=h.lt (b:=c.nR) (.inr (.inr (.inl rfl)));have g2:=f4.at g2 fun e=>by omega
  have g1:=f4.at g1 fun e=>by omega
  have f4:=f4.mono (G:=PaB c) fun _ _ e=>.inr (.inr (.inl e));generalize put W3.drew c.nR ob=W5 at *;obtain⟨d0,d1,d2,_⟩:=rdBr hnr.2.1 hnr.2.2 g2;have c21:((2:Int) == 1)=false:=rfl;have fw:Fr (PaB c) w W5:=(f3.mono fun _ _ h=>h.elim).trans f4;have hww:w.heap.size<W.heap.size:=qQh k1;have lP:∀ {b:Nat},PaB c b→b<w.heap.size:=h.lt;have nl:((l.page:Int) != 0)=decide (l.page≠0):=natne l.page 0;have nr:((r.page:Int) != 0)=decide (r.page≠0):=natne r.page 0;have hur:∀ b,(Aud.under n b row).length=32:=fun b=>(hr.under hn b).1
  have K:∀ {w' rows' lvs'},Fr (PaB c) w w'→PassM c w' next rows' lvs'→RowsIn n row (.br p l r) rows rows'→LvsIn (.br p l r) lvs lvs'→Fr (PaB c) w w'∧∃ rows' lvs',PassM c w' next rows' lvs'∧RowsIn n row (.br p l r) rows rows'∧LvsIn (.br p l r) lvs lvs':=fun a b c d=>⟨a,_,_,b,c,d⟩
  by_cases zl:l.page=0
  ·obtain rfl:l=.nil:=l.page_nil w1 zl
   rw[decide_eq_false fun e=>e rfl]at nl
   by_cases zr:r.page=0
   ·obtain rfl:r=.nil:=r.page_nil w2 zr
    rw[decide_eq_false fun e=>e rfl]at nr;simp -implicitDefEqProofs only[go_sem,jY,zB,d0,c21,d1,nl,d2];exact K fw h4 (RowsIn.br hn hr w1 w2 (.nil _ _ _) (.nil _ _ _)) (LvsIn.br (.nil _) (.nil _))
   ·rw[decide_eq_true zr]at nr
    simp -implicitDefEqProofs only[go_sem,jY,zB,d0,c21,d1,nl,d2,nr];refine qXf (fun j=>j == 4) (.row [0,1,2,3,4,5]) rfl (by kernel_rfl) (by kernel_rfl) ?_;have h4':=h4.fr0 (Fr.refl _ _).drew;have fw':=fw.drew;have g1':W5.drew.heap[w.heap.size]?=_:=g1;have g2':W5.drew.heap[W.heap.size]?=_:=g2;generalize W5.drew=W6 at *;obtain⟨_,d1',d2',_⟩:=rdBr hnr.2.1 hnr.2.2 g2';obtain⟨_,_,t2'⟩:=rdRw hr.1 g1';simp -implicitDefEqProofs only[go_sem,jY,jG,gLa,gLz,gLs,zB,OT.row,d2',t2'];refine qQf pl185 ((rowUnder W6 n hn hr.1 1 (by decide)).mono ?_);rintro _ w7 ⟨rfl,f7⟩;refine⟨fun _=>f7.ext,?_⟩;have e7:Aud.under n (1 == 1) row=Aud.under n true row:=rfl;rw[e7];simp -implicitDefEqProofs only[go_sem,jY,gLa,gLz,gLs];refine qQf pl162 ((keep hk (t:=r) (n:=n+1) (h4'.fr0 f7) hs2 w2 (fun e=>zr (by rw[e];rfl)) (by omega) (hr.under hn true)).mono ?_);rintro _ w8 ⟨rfl,f8,rows8,lvs8,h8,rr8,ll8⟩;refine⟨(fun h=>by cases h),?_⟩;have fw':=fw'.trans (f7.mono fun _ _ h=>h.elim);simp -implicitDefEqProofs only[go_sem];exact K (fw'.trans f8) h8 (RowsIn.br hn hr w1 w2 (.nil _ _ _) rr8) (LvsIn.br (.nil _) ll8)
  ·rw[decide_eq_true zl]at nl
   simp -implicitDefEqProofs only[go_sem,jY,zB,d0,c21,d1,nl];refine qXf (fun j=>j == 4) (.row [0,1,2,3,4,5]) rfl (by kernel_rfl) (by kernel_rfl) ?_;have h4':=h4.fr0 (Fr.refl _ _).drew;have fw':=fw.drew;have g1':W5.drew.heap[w.heap.size]?=_:=g1;have g2':W5.drew.heap[W.heap.size]?=_:=g2;generalize W5.drew=W6 at *;obtain⟨_,d1',d2',_⟩:=rdBr hnr.2.1 hnr.2.2 g2';obtain⟨_,_,t2'⟩:=rdRw hr.1 g1';simp -implicitDefEqProofs only[go_sem,jY,jG,gLa,gLz,gLs,zB,OT.row,d1',t2'];refine qQf pl185 ((rowUnder W6 n hn hr.1 0 (by decide)).mono ?_);rintro _ w6 ⟨rfl,f6⟩;refine⟨fun _=>f6.ext,?_⟩;have e7:Aud.under n (0 == 1) row=Aud.under n false row:=rfl;rw[e7];simp -implicitDefEqProofs only[go_sem,jY,gLa,gLz,gLs];refine qQf pl162 ((keep hk (t:=l) (n:=n+1) (h4'.fr0 f6) hs1 w1 (fun e=>zl (by rw[e];rfl)) (by omega) (hr.under hn false)).mono ?_);rintro _ w7 ⟨rfl,f7,rows7,lvs7,h7,rr7,ll7⟩;refine⟨(fun h=>by cases h),?_⟩;have fw':=fw'.trans (f6.mono fun _ _ h=>h.elim);simp -implicitDefEqProofs only[go_sem,jY,zB];have g1:=f7.at (f6.at g1' id) fun e=>by have:=lP e;omega
   have g2:=f7.at (f6.at g2' id) fun e=>by have:=lP e;omega
   have fw:=fw'.trans f7;have h4:=h7;obtain⟨_,_,d2,_⟩:=rdBr hnr.2.1 hnr.2.2 g2;clear h7 f7 fw' g1' g2' d1' d2' t2' h4' f6
   by_cases zr:r.page=0
   ·obtain rfl:r=.nil:=r.page_nil w2 zr
    rw[decide_eq_false fun e=>e rfl]at nr;simp -implicitDefEqProofs only[go_sem,d2,nr];exact K fw h4 (RowsIn.br hn hr w1 w2 rr7 (.nil _ _ _)) (LvsIn.br ll7 (.nil _))
   ·rw[decide_eq_true zr]at nr
    simp -implicitDefEqProofs only[go_sem,d2,nr];refine qXf (fun j=>j == 4) (.row [0,1,2,3,4,5]) rfl (by kernel_rfl) (by kernel_rfl) ?_;have h4':=h4.fr0 (Fr.refl _ _).drew;have fw':=fw.drew;have g1':w7.drew.heap[w.heap.size]?=_:=g1;have g2':w7.drew.heap[W.heap.size]?=_:=g2;generalize w7.drew=W8 at *;obtain⟨_,d1',d2',_⟩:=rdBr hnr.2.1 hnr.2.2 g2';obtain⟨_,_,t2'⟩:=rdRw hr.1 g1';simp -implicitDefEqProofs only[go_sem,jY,jG,gLa,gLz,gLs,zB,OT.row,d2',t2'];refine qQf pl185 ((rowUnder W8 n hn hr.1 1 (by decide)).mono ?_);rintro _ w9 ⟨rfl,f7⟩;refine⟨fun _=>f7.ext,?_⟩;have e7:Aud.under n (1 == 1) row=Aud.under n true row:=rfl;rw[e7];simp -implicitDefEqProofs only[go_sem,jY,gLa,gLz,gLs];refine qQf pl162 ((keep hk (t:=r) (n:=n+1) (h4'.fr0 f7) hs2 w2 (fun e=>zr (by rw[e];rfl)) (by omega) (hr.under hn true)).mono ?_);rintro _ w8 ⟨rfl,f8,rows8,lvs8,h8,rr8,ll8⟩;refine⟨(fun h=>by cases h),?_⟩;have fw':=fw'.trans (f7.mono fun _ _ h=>h.elim);simp -implicitDefEqProofs only[go_sem];exact K (fw'.trans f8) h8 (RowsIn.br hn hr w1 w2 rr7 rr8) (LvsIn.br ll7 ll8)
end
end A
end
end Go.V
