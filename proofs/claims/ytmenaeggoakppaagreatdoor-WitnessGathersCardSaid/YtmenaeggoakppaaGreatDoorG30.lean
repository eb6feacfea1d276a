/- Helpers. -/
import Derived.Test.YtmenaeggoakppaaGreatDoorG29
set_option linter.all false
set_option maxRecDepth 100000
set_option maxHeartbeats 8000000
open List renaming length_map→zU,append_assoc→zW,getElem?_take→zZ,getElem_map→j7,append_nil→j9,drop_drop→vP
open Nat renaming reduceEqDiff→jF,reduceBEq→jB,add_zero→jO
open Option renaming bind_some→qV,map_some→qK
open Go.V.Wit renaming frm→yL,parse→yE,lefts→yT,ansP→yS,flatT_len→vR,frm_pos→vT
namespace Go.V
open Go.Proofs.Tryz Go.V.Tryz
open Go.Proofs Sha
namespace Wit
theorem fill_fold {f:Nat}:∀ (gl:List (Nat × Bs)) (pre b:List Bs),pre.length=f→(∀ q ∈ gl,f≤q.1∧q.1<f+b.length)→gl.foldl (fun l q=>l.set q.1 q.2) (pre++b)=pre++fill f b gl
 | [],_,_,_,_=>rfl
 | q::gl,pre,b,hp,h=>by
  have hq:=h q (by simp);rw[List.foldl_cons,List.set_append_right _ _ (by omega),hp];have:=fill_fold gl pre (b.set (q.1 - f) q.2) hp fun x hx=>by rw[List.length_set];exact h x (by simp[hx])
  rw[this];rfl
def ansX (kind:Nat)(bs:Bs):Option (Option Bs × Bs):=if kind=2 then some (none,bs) else ansP kind bs
def subT2 (wd:Int)(n:Nat)(ks:List Bs)(bs:Bs):Option (Option (Tw × Tw) × List (Nat × Bs) × Bs) :=
 if 1<ks.length then (parse wd n (ks.take (lefts ks)) (frm ks - 1) bs).bind fun q=>(parse wd n (ks.drop (lefts ks)) (frm ks - 1) q.2.2).map fun s=>(some (q.1,s.1),q.2.1++s.2.1,s.2.2)
 else some (none,[],bs)
def subX (wd:Int)(m:Nat):Option (Tw × Tw)→List Tx
 | none=>[]
 | some (l,r)=>flatT wd m l++flatT wd (m+l.size) r
def subL (m:Nat):Option (Tw × Tw)→Nat
 | none=>0
 | some (l,_)=>m+l.size - 1
def subR (m:Nat):Option (Tw × Tw)→Nat
 | none=>0
 | some (l,r)=>m+l.size+r.size - 1
def mkT (ks:List Bs)(top:Nat)(near:List Bs)(a:Option Bs):Option (Tw × Tw)→Tw
 | none=>.leaf (ks.headD []) top near a
 | some (l,r)=>.fork ks (frm ks) top near l r
theorem subX_len (wd:Int)(m:Nat)(s:Option (Tw × Tw))(ks:List Bs)(top:Nat)(near:List Bs)(a:Option Bs):(subX wd m s).length+1=(mkT ks top near a s).size:=by
 rcases s with _ | ⟨l,r⟩
 ·rfl
 ·simp[subX,mkT,Tw.size,flatT_len]
theorem flat_mkT (wd:Int)(m:Nat){s:Option (Tw × Tw)}{ks:List Bs}(top:Nat)(near:List Bs){a:Option Bs}(h:(s=none∧ks.length=1)∨(s≠none∧a=none)) :
  flatT wd m (mkT ks top near a s)=subX wd m s++[⟨ks,top,frm ks,(empts wd 257).take (frm ks)++near,subL m s,subR m s,a⟩]:=by
 rcases s with _ | ⟨l,r⟩
 ·rcases h with ⟨_,h⟩ | ⟨h,_⟩
  ·obtain⟨k,rfl⟩:=List.length_eq_one_iff.1 h
   rw[frm_one (by simp)]
   rfl
  ·exact absurd rfl h
 ·rcases h with ⟨h,_⟩ | ⟨_,h⟩
  ·cases h
  ·subst h
   simp[flatT,mkT,subX,subL,subR]
theorem parse_sub {wd:Int}{n:Nat}{ks:List Bs}{top:Nat}{x:Byte}{rest:Bs}(hc:¬ (x.toNat > 2∨¬ (x.toNat=2 ↔ 1<ks.length))) :
  parse wd (n+1) ks top (x::rest)=(ansX x.toNat rest).bind fun pa=>(nearP wd (frm ks) top pa.2).bind fun pn=>(subT2 wd n ks pn.2.2).map fun s=>(mkT ks top pn.1 pa.1 s.1,pn.2.1++s.2.1,s.2.2):=by
 by_cases h2:1<ks.length
 ·have hx:x=2:=BitVec.eq_of_toNat_eq (by show x.toNat=2;omega)
  subst hx;rw[parse_fork h2];have e:ansX (2:Byte).toNat rest=some (none,rest):=rfl;rw[e,qV]
  congr 1
  funext pn
  unfold subT2;rw[if_pos h2]
  cases parse wd n (ks.take (lefts ks)) (frm ks - 1) pn.2.2 with
  | none=>rfl
  | some q =>
   simp only[qV]
   cases parse wd n (ks.drop (lefts ks)) (frm ks - 1) q.2.2 <;> rfl
 ·rw[parse_leaf (by omega) h2]
  have e:ansX x.toNat rest=ansP x.toNat rest:=by unfold ansX;rw[if_neg (by omega)]
  rw[e]
  congr 1
  funext pa
  have e2:frm ks=0:=frm_one (by omega);rw[e2]
  cases nearP wd 0 top pa.2 with
  | none=>rfl
  | some pn =>
   simp only[qV,qK];unfold subT2;rw[if_neg h2,qK,j9];rfl
theorem fold_set_len:∀ (gl:List (Nat × Bs)) (l:List Bs),(gl.foldl (fun l q=>l.set q.1 q.2) l).length=l.length
 | [],_=>rfl
 | q::gl,l=>by rw[List.foldl_cons,fold_set_len gl,List.length_set]
theorem size_keys:∀ {t:Tw},t.Ok→t.size+1=2*t.keys.length
 | .leaf _ _ _ _,_=>rfl
 | .fork ks f top near l r,h=>by
  obtain⟨h1,h2,h3,h4,h5,h6,h7,h8,h9,h10,h11,h12,h13,h14⟩:=h;have a:=size_keys h13;have b:=size_keys h14;have hlt:=lefts_lt h6 h8;have hlp:=lefts_pos h6 h8;rw[h9,lTk]at a;rw[h10,lDr]at b;show l.size+r.size+1+1=2*ks.length;omega
end Wit
namespace R
def TbA (u w0:World)(wb tb:Nat)(wd:Int)(ev tv gv rv kv:Value)(top:Nat)(fi:Int)(raw:Bs)(res:Option (Option Bs × Bs))(x0 x1 x2 x7 x8:Value)(w:World):Prop :=
 x0=pt wb 0∧x1=kv∧x2=.int .i64 (top:Nat)∧x7=pt tb 0∧x8=.int .i64 fi∧Fr (fun b=>b=wb) w0 w∧∃ (q:Nat) (bad:Bool) (a:Option Bs) (vv:Value),WiAt w wb wd ev tv gv rv q bad∧q≤raw.length ∧
  w.heap[tb]?=some (.cells (txC kv top 0 (.slice .none 0 0) 0 0 a.isSome vv) 220 (0,0))∧NwB w0 w vv (a.getD [])∧(∀ b,qQb vv=some b→b≠tb) ∧
  match res with
  | none=>bad=true
  | some y=>bad=false∧y=(a,raw.drop q)
def tlI (u w0 w6:World)(wb tb:Nat)(wd:Int)(ev rv kv tv gv ov:Value)(top:Nat)(fi:Int)(cs:Array Value)(q:Nat)(bad:Bool)(txs gvs:Rows)(E:Nat→Prop)(xs:List Wit.Tx)(gl:List (Nat × Bs))(n:Nat)(vs:List Value)(w:World):Prop :=
 ∃ (i:Nat) (gv':Value),vs=[pt wb 0,kv,.int .i64 (top:Nat),pt tb 0,.int .i64 fi,ov,.int .i64 (gvs.length:Nat),.int .i64 (i:Nat)]∧i≤gl.length∧n=gl.length - i∧WiM u w wb wd ev rv tv gv' q bad txs (gvs++(gl.take i).map (gvRow 0)) ∧
  w.heap[tb]?=some (.cells cs 220 (0,0))∧TxL u w (fun b=>Mut wb tv gv' b∨E b) txs xs∧Fr (Mut wb tv gv) w6 w∧(∀ b,qQb gv'=some b→qQb gv=some b∨w6.heap.size≤b)
def tl2 (w9:World)(wb tb:Nat)(wd:Int)(kv ov vv:Value)(top fr gn:Nat)(L R:Int)(f:Bool)(n:Nat)(vs:List Value)(w:World):Prop :=
 ∃ (g:Nat) (nv:Value),vs=[pt wb 0,.int .i64 (top:Nat),pt tb 0,ov,.int .i64 (gn:Nat),.int .i64 (g:Nat)]∧g≤top∧n=top - g∧NwD w9 w 23 nv ((empts wd 257).take g)∧w.heap[tb]?=some (.cells (txC kv top fr nv L R f vv) 220 (0,0))∧Fr (fun b=>b=tb) w9 w
def tl4 (u w9:World)(wb tb:Nat)(wd:Int)(ev rv tv gv kv ov vv nv:Value)(top fr gn:Nat)(L R:Int)(f:Bool)(q:Nat)(txs:Rows)(gs:List (Nat × Bs))(gl:List (Nat × Bs))(near:List Bs)(n:Nat)(vs:List Value)(w:World):Prop :=
 ∃ (i:Nat) (gvs:Rows),vs=[pt wb 0,pt tb 0,ov,.int .i64 (gn:Nat),.int .i64 (i:Nat)]∧i≤gl.length∧n=gl.length - i∧NwD w9 w 23 nv ((gl.take i).foldl (fun l q=>l.set q.1 q.2) near)∧w.heap[tb]?=some (.cells (txC kv top fr nv L R f vv) 220 (0,0)) ∧
  WiM u w wb wd ev rv tv gv q false txs gvs∧GvL gvs gs∧Fr (fun b=>b=tb∨qQb gv=some b) w9 w
def TbB (u w0 w6:World)(wb tb:Nat)(wd:Int)(ev tv gv rv kv ov nv vv:Value)(top fr:Nat)(fi:Int)(f:Bool)(raw:Bs)(gn:Nat)(E:Nat→Prop)(xs:List Wit.Tx)(gs:List (Nat × Bs))(res:Option (Option (Wit.Tw × Wit.Tw) × List (Nat × Bs) × Bs))(x0 x1 x2 x7 x8 x12 x13:Value)(w:World):Prop :=
 x0=pt wb 0∧x1=kv∧x2=.int .i64 (top:Nat)∧x7=pt tb 0∧x8=.int .i64 fi∧x12=ov∧x13=.int .i64 (gn:Nat)∧Fr (fun b=>Mut wb tv gv b∨b=tb) w6 w ∧
 match res with
 | none=>∃ tv' gv' q,WiAt w wb wd ev tv' gv' rv q true∧q≤raw.length
 | some s=>∃ tv' gv' q txs' gvs', WiM u w wb wd ev rv tv' gv' q false txs' gvs'∧q≤raw.length∧raw.drop q=s.2.2∧TxL u w (fun b=>Mut wb tv' gv' b∨E b) txs' (xs++Wit.subX wd xs.length s.1)∧GvL gvs' (gs++s.2.1) ∧
   w.heap[tb]?=some (.cells (txC kv top fr nv ((Wit.subL xs.length s.1:Nat):Int) ((Wit.subR xs.length s.1:Nat):Int) f vv) 220 (0,0)) ∧
   (∀ b,qQb tv'=some b→qQb tv=some b∨w6.heap.size≤b)∧(∀ b,qQb gv'=some b→qQb gv=some b∨w6.heap.size≤b)
theorem text (u:World)(wd:Int):∀ (n:Nat) (w0:World) {wb top:Nat} {ks:List Bs} {ev rv kv tv gv:Value} {raw:Bs} {p:Nat} {txs gvs:Rows} {E:Nat→Prop} {xs:List Wit.Tx} {gs:List (Nat × Bs)}, ks.length≤n→(∀ b, E b→b<w0.heap.size)→WiM u w0 wb wd ev rv tv gv p false txs gvs →
  By u rv raw→(0<raw.length→∀ b,qQb rv=some b→b≠wb)→p≤raw.length→raw.length≤2 ^ 50→RdD u ev (empts wd 257)→RdD u kv ks→TxL u w0 (fun b=>Mut wb tv gv b∨E b) txs xs→GvL gvs gs→gvs.length+512*ks.length≤2 ^ 20→txs.length+2*ks.length≤2 ^ 20 →
  Wit.Asc ks→0<ks.length→Wit.Shr (256 - top) ks→top≤256 →
  Fn prog 180 #[pt wb 0,kv,.int .i64 (top:Nat)] w0 (XtQ u w0 wb wd ev rv raw n ks top tv gv p E xs gs):=by
 intro n
 induction n with
 | zero=>intro w0 wb top ks ev rv kv tv gv raw p txs gvs E xs gs h _ _ _ _ _ _ _ _ _ _ _ _ _ h0;omega
 | succ n ih =>
  intro w0 wb top ks ev rv kv tv gv raw p txs gvs E xs gs hn hE hw hr hrb hp hrl he hk htx hgv hgn htn ha h0 hs ht;refine go180 (by simp) ?_;unfold DenF;refine den_cut 5 ?_;obtain⟨ka,kc,rfl,hkc⟩:=hk.slice;have bldt:=bldTx (kv:=.slice ka ks.length kc) top rfl;obtain⟨W,q1,t1,f1,s1⟩:=allocTx w0 (kv:=.slice ka ks.length kc) top rfl;have hwb:wb<w0.heap.size:=qQh hw.cell;simp -implicitDefEqProofs only[go_sem,jF,Nat.reduceAdd,Tryz.f180,bldt,Value.cells,q1];refine qQa pl136 ((fork W ((hk.fr0 hw.no).fr0 f1) ha h0 (by omega)).mono ?_);rintro _ w2 ⟨rfl,f2⟩;have f02:=f1.trans f2;simp -implicitDefEqProofs only[go_sem,jF];refine qQa pl208 ((taken u w2 (f02.at hw.cell id) hr (hw.no.trans f02) hw.wbu hrb hp hrl (k:=1) (by decide)).mono ?_);rintro bv w3 ⟨f3,bs,hbs,hbl,hbw,h3⟩;obtain⟨bb,bo,bc,rfl,hbc⟩:=hbs.pos (by omega);have rb:=hbs.get (P:=prog) agg5 (i:=0) (by omega);rw[jO]at rb;have y0:(0:Int)≤0∧(0:Int)<((bs.length:Nat):Int):=by omega
  have c1:IntKind.i64.wrap ((bs.getD 0 0).toNat:Int)=((bs.getD 0 0).toNat:Int):=i64n (by have:=(bs.getD 0 0).isLt;omega);have f03:Fr (fun b=>b=wb) w0 w3:=(f02.mono fun _ _ h=>h.elim).trans f3
  have fno:yE wd (n+1) ks top (raw.drop p)=none→∀ w' (z:Int),Fr (Mut wb tv gv) w0 w'→(∃ tv' gv' q,WiAt w' wb wd ev tv' gv' rv q true∧q≤raw.length)→XtQ u w0 wb wd ev rv raw (n+1) ks top tv gv p E xs gs (.int .i64 z) w':=fun h w' z hf hc=>by
   unfold XtQ;rw[h];exact⟨hf,⟨z,rfl⟩,hc⟩
  have toM:∀ w',Fr (fun b=>b=wb) w0 w'→Fr (Mut wb tv gv) w0 w':=fun w' h=>h.mono fun _ _ h=>.inl h
  by_cases hsh:raw.length<p+1
  ·rw[if_pos (.inr hsh)]at h3
   have r3:=h3.row;obtain⟨w4,q4,h4,f4⟩:=h3.setBad;simp -implicitDefEqProofs only[go_sem,jF,gLa,gLz,gLs,y0,rb,c1,r3,qQk,tf_beq,q4];exact fno (by simp only[yE];rw[if_pos (by rw[lDr];omega)]) _ _ (toM _ (f03.trans f4)) ⟨_,_,_,h4,hp⟩
  ·rw[if_neg (by rintro (h | h);exact absurd h (by decide);exact hsh h)]at h3
   obtain⟨h3,hbe⟩:=h3
   obtain⟨x,hx⟩:∃ x,raw.drop p=x::raw.drop (p+1):=⟨_,List.drop_eq_getElem_cons (by omega)⟩
   have hb0:bs.getD 0 0=x:=by rw[hbe,hx];rfl
   rw[hb0]at rb c1;clear hbe hb0;have hpar:yE wd (n+1) ks top (raw.drop p)=yE wd (n+1) ks top (x::raw.drop (p+1)):=by rw[hx]
   have r3:=h3.row;have hfr0:=Wit.frm_bound ha hs (by omega)
   have hfs:decide (((yL ks:Nat):Int) - 1<0)=decide (¬ 1<ks.length):=by
    rw[decide_eq_decide]
    by_cases h2:1<ks.length
    ·have:=vT ha h2;omega
    ·rw[Wit.frm_one (by omega)];exact iff_of_true (by omega) h2
   by_cases hc:x.toNat > 2∨¬ (x.toNat=2 ↔ 1<ks.length)
   ·obtain⟨w4,q4,h4,f4⟩:=h3.setBad
    have hnone:yE wd (n+1) ks top (raw.drop p)=none:=by rw[hpar];simp only[yE,List.getD_cons_zero];rw[if_neg (by simp),if_pos hc]
    have hfin:=fno hnone w4 0 (toM _ (f03.trans f4)) ⟨_,_,_,h4,by omega⟩
    by_cases hAB:(!(decide (((yL ks:Nat):Int) - 1<0) == decide ((x.toNat:Int)<2)))=true
    ·simp -implicitDefEqProofs only[go_sem,jF,gLa,gLz,gLs,y0,rb,c1,r3,qQk,tf_beq,bSe,hAB,q4]
     exact hfin
    ·have hAB:(!(decide (((yL ks:Nat):Int) - 1<0) == decide ((x.toNat:Int)<2)))=false:=by simpa using hAB
     have hgt:decide ((x.toNat:Int) > 2)=true:=by
      rw[hfs]at hAB;simp only[Bool.not_eq_false',beq_iff_eq,decide_eq_decide]at hAB
      simp;omega
     simp -implicitDefEqProofs only[go_sem,jF,gLa,gLz,gLs,y0,rb,c1,r3,qQk,bSe,hAB,hgt,q4];exact hfin
   ·have hAB:(!(decide (((yL ks:Nat):Int) - 1<0) == decide ((x.toNat:Int)<2)))=false:=by
     rw[hfs];simp only[Bool.not_eq_false',beq_iff_eq,decide_eq_decide];omega
    have hgt:=dFo ((x.toNat:Int) > 2);simp -implicitDefEqProofs only[go_sem,jF,gLa,gLz,gLs,y0,rb,c1,r3,qQk,bSe,hAB,hgt];refine hold_go ?_;have htl:w0.heap.size<w3.heap.size:=by have:=f2.size;have:=f3.size;omega
    have t3:w3.heap[w0.heap.size]?=_:=f3.at (f2.at t1 id) (by omega);refine den_split (fun ev' w=>TbA u w0 wb w0.heap.size wd ev tv gv rv (.slice ka ks.length kc) top ((yL ks:Nat) - 1:Int) raw (Wit.ansX x.toNat (raw.drop (p+1))) (ev' 0) (ev' 1) (ev' 2) (ev' 7) (ev' 8) w) ?_ ?_
    ·by_cases hk1:x.toNat=1
     ·have d1:((x.toNat:Int) == 1)=true:=by rw[hk1];rfl
      have hax:Wit.ansX x.toNat (raw.drop (p+1))=yS 1 (raw.drop (p+1)):=by unfold Wit.ansX;rw[hk1];rfl
      rw[hax];simp -implicitDefEqProofs only[go_sem,jF,d1];have nou3:No u w3:=hw.no.trans' f03 fun b hb e=>by have:=hw.wbu;omega
      refine qQa pl208 ((taken u w3 h3 hr nou3 hw.wbu hrb (by omega) hrl (k:=2) (by decide)).mono ?_);rintro nv w4 ⟨f4,ns,hns,hnl,hnw,h4⟩;obtain⟨nb,no,nc,rfl,hnc⟩:=hns.pos (by omega);have rn0:=hns.get (P:=prog) agg5 (i:=0) (by omega);have rn1:=hns.get (P:=prog) agg5 (i:=1) (by omega);rw[jO]at rn0;have y20:(0:Int)≤0∧(0:Int)<((ns.length:Nat):Int):=by omega
      have y21:(0:Int)≤1∧(1:Int)<((ns.length:Nat):Int):=by omega
      have hlt0:=(ns.getD 0 0).isLt;have hlt1:=(ns.getD 1 0).isLt;have c20:IntKind.i64.wrap ((ns.getD 0 0).toNat:Int)=((ns.getD 0 0).toNat:Int):=i64n;have c21:IntKind.i64.wrap ((ns.getD 1 0).toNat:Int)=((ns.getD 1 0).toNat:Int):=i64n;have c22:IntKind.i64.wrap (256*((ns.getD 1 0).toNat:Int))=((256*(ns.getD 1 0).toNat:Nat):Int):=i64mul (a:=256) (by omega);have c23:IntKind.i64.wrap (((ns.getD 0 0).toNat:Int)+((256*(ns.getD 1 0).toNat:Nat):Int))=(((ns.getD 0 0).toNat+256*(ns.getD 1 0).toNat:Nat):Int):=qXc;have rn0d:rdO prog 5 w4.drew nb no=some (.int .u8 ((ns.getD 0 0).toNat:Int)):=rn0;have rn1d:rdO prog 5 w4.drew nb (no+1)=some (.int .u8 ((ns.getD 1 0).toNat:Int)):=rn1
      have hat4:∃ q4 bad4,WiAt w4 wb wd ev tv gv rv q4 bad4∧q4≤raw.length∧((bad4=true∧raw.length<p+3)∨(bad4=false∧q4=p+3∧p+3≤raw.length∧ns=(raw.drop (p+1)).take 2)):=by
       by_cases hsh2:raw.length<p+1+2
       ·rw[if_pos (.inr hsh2)]at h4
        exact⟨_,_,h4,by omega,.inl ⟨rfl,by omega⟩⟩
       ·rw[if_neg (by rintro (h | h);exact absurd h (by decide);exact hsh2 h)]at h4
        exact⟨_,_,h4.1,by omega,.inr ⟨rfl,rfl,by omega,h4.2⟩⟩
      obtain⟨q4,bad4,h4,hq4,hc4⟩:=hat4
      have hansN:(bad4=true∨(ns.getD 0 0).toNat+256*(ns.getD 1 0).toNat > 128∨raw.length<q4+((ns.getD 0 0).toNat+256*(ns.getD 1 0).toNat))→yS 1 (raw.drop (p+1))=none:=by
       rintro h;unfold yS;rw[if_neg (by decide)];split
       ·rfl
       ·rename_i hl2
        rw[lDr]at hl2
        rcases hc4 with ⟨hb4,hl4⟩ | ⟨hb4,hq4,hl4,hns4⟩
        ·omega
        ·have e0:(raw.drop (p+1)).getD 0 0=ns.getD 0 0:=by rw[hns4,gDq,gDq,zZ,if_pos (by decide)]
         have e1:(raw.drop (p+1)).getD 1 0=ns.getD 1 0:=by rw[hns4,gDq,gDq,zZ,if_pos (by decide)]
         rw[e0,e1];rw[vP,lDr]
         rcases h with h | h | h
         ·rw[hb4]at h;cases h
         ·rw[if_pos h]
         ·split
          ·rfl
          ·rw[if_pos (by omega)]
      have hansS:bad4=false→¬ (ns.getD 0 0).toNat+256*(ns.getD 1 0).toNat > 128→¬ raw.length<q4+((ns.getD 0 0).toNat+256*(ns.getD 1 0).toNat)→yS 1 (raw.drop (p+1))=some (some ((raw.drop q4).take ((ns.getD 0 0).toNat+256*(ns.getD 1 0).toNat)),raw.drop (q4+((ns.getD 0 0).toNat+256*(ns.getD 1 0).toNat))):=by
       intro hb h1 h2
       rcases hc4 with ⟨hb4,hl4⟩ | ⟨hb4,hq4,hl4,hns4⟩
       ·rw[hb]at hb4;cases hb4
       ·have e0:(raw.drop (p+1)).getD 0 0=ns.getD 0 0:=by rw[hns4,gDq,gDq,zZ,if_pos (by decide)]
        have e1:(raw.drop (p+1)).getD 1 0=ns.getD 1 0:=by rw[hns4,gDq,gDq,zZ,if_pos (by decide)]
        unfold yS;rw[if_neg (by decide),if_neg (by rw[lDr];omega),e0,e1,if_neg h1,vP,lDr,if_neg (by omega),vP,hq4]
      generalize (ns.getD 0 0).toNat+256*(ns.getD 1 0).toNat=N at *;have f04:Fr (fun b=>b=wb) w0 w4:=f03.trans f4
      by_cases hN:N > 128
      ·have d2:=dTo ((N:Int) > 128)
       obtain⟨w5,q5,h5,f5⟩:=(show WiAt w4.drew wb wd ev tv gv rv q4 bad4 from h4).setBad;simp -implicitDefEqProofs only[go_sem,jF,jB,y20,y21,rn0d,rn1d,c20,c21,c22,c23,d2,q5,Int.toNat_zero,Int.toNat_one,Nat.zero_mul,Nat.one_mul];refine fno ?_ _ _ (toM _ ((f04.drew).trans f5)) ⟨_,_,_,h5,hq4⟩;rw[hpar,Wit.parse_leaf (by omega) (by omega),hk1,hansN (.inr (.inl hN))];rfl
      ·have d2:=dFo ((N:Int) > 128)
       have t4:w4.heap[w0.heap.size]?=_:=f4.at t3 (by omega)
       have q5:wrO prog 4 w4.drew w0.heap.size 6 (.bool true)=some (put w4.drew w0.heap.size (.cells (txC (.slice ka ks.length kc) top 0 (.slice .none 0 0) 0 0 true (.slice .none 0 0)) 220 (0,0))):=by
        rw[qZp sz4 (show w4.drew.heap[w0.heap.size]?=_ from t4) rfl (by simp)];rfl
       have t5:=qQf (w:=w4.drew) (o:=.cells (txC (.slice ka ks.length kc) top 0 (.slice .none 0 0) 0 0 true (.slice .none 0 0)) 220 (0,0)) t4;have f45:Fr (fun b=>b=w0.heap.size) w4 (put w4.drew w0.heap.size (.cells (txC (.slice ka ks.length kc) top 0 (.slice .none 0 0) 0 0 true (.slice .none 0 0)) 220 (0,0))):=((Fr.refl _ _).drew).put (b:=w0.heap.size) _ fun _=>rfl;simp -implicitDefEqProofs only[go_sem,jF,jB,y20,y21,rn0d,rn1d,c20,c21,c22,c23,d2,q5,Int.toNat_zero,Int.toNat_one,Nat.zero_mul,Nat.one_mul];generalize put w4.drew w0.heap.size (.cells (txC (.slice ka ks.length kc) top 0 (.slice .none 0 0) 0 0 true (.slice .none 0 0)) 220 (0,0))=w5 at *;have f05:Fr (fun b=>b=wb) w0 w5:=f04.trans' f45 fun b hb e=>by omega
       have nou5:No u w5:=hw.no.trans' f05 fun b hb e=>by have:=hw.wbu;omega
       have h5:=f45.at h4 (by omega);refine qQa pl208 ((taken u w5 h5 hr nou5 hw.wbu hrb hq4 hrl (k:=N) (by omega)).mono ?_);rintro v6 w6 ⟨f6,vs,hvs,hvl,hvw,h6⟩;simp -implicitDefEqProofs only[go_sem];refine qQa pl129 ((copied w6 hvs (by omega)).mono ?_);rintro v7 w7 ⟨n7,f7⟩;have t7:w7.heap[w0.heap.size]?=_:=f7.at (f6.at t5 (by omega)) id;have hone:one v7=true:=n7.by.one
       have q8:wrO prog 25 w7 w0.heap.size 7 v7=some (put w7 w0.heap.size (.cells (txC (.slice ka ks.length kc) top 0 (.slice .none 0 0) 0 0 true v7) 220 (0,0))):=by
        rw[qZp sz25 t7 hone (by simp)];rfl
       have t8:=qQf (o:=.cells (txC (.slice ka ks.length kc) top 0 (.slice .none 0 0) 0 0 true v7) 220 (0,0)) t7;have f78:Fr (fun b=>b=w0.heap.size) w7 (put w7 w0.heap.size (.cells (txC (.slice ka ks.length kc) top 0 (.slice .none 0 0) 0 0 true v7) 220 (0,0))):=(Fr.refl _ _).put (b:=w0.heap.size) _ fun _=>rfl;simp -implicitDefEqProofs only[go_sem,jF,q8];have hs67:w0.heap.size<w6.heap.size:=by have:=f4.size;have:=f45.size;have:=f6.size;omega
       have f07:Fr (fun b=>b=wb) w0 w7:=(f05.trans f6).trans' f7 fun _ _ h=>h.elim;have n8:NwB w0 (put w7 w0.heap.size (.cells (txC (.slice ka ks.length kc) top 0 (.slice .none 0 0) 0 0 true v7) 220 (0,0))) v7 vs:=(n7.back (by omega)).fr f78 fun b hb e=>by have:=(n7.lt hb).1;omega
       have hat8:∀ q' bd,WiAt w6 wb wd ev tv gv rv q' bd→WiAt (put w7 w0.heap.size (.cells (txC (.slice ka ks.length kc) top 0 (.slice .none 0 0) 0 0 true v7) 220 (0,0))) wb wd ev tv gv rv q' bd:=fun q' bd h=>f78.at (f7.at h id) (by omega);have f08:Fr (fun b=>b=wb) w0 (put w7 w0.heap.size (.cells (txC (.slice ka ks.length kc) top 0 (.slice .none 0 0) 0 0 true v7) 220 (0,0))):=f07.trans' f78 fun b hb e=>by omega
       by_cases hsh6:bad4=true∨raw.length<q4+N
       ·rw[if_pos hsh6]at h6
        refine⟨rfl,rfl,rfl,rfl,rfl,f08,q4,true,some vs,v7,hat8 _ _ h6,hq4,t8,n8,fun b hb e=>by have:=(n7.lt hb).1;omega,?_⟩;rw[hansN (by rcases hsh6 with h | h;exact .inl h;exact .inr (.inr h))]
       ·rw[if_neg hsh6]at h6
        refine⟨rfl,rfl,rfl,rfl,rfl,f08,q4+N,false,some vs,v7,hat8 _ _ h6.1,by omega,t8,n8,fun b hb e=>by have:=(n7.lt hb).1;omega,?_⟩;rw[hansS (by cases bad4;rfl;exact absurd (.inl rfl) hsh6) hN (fun h=>hsh6 (.inr h)),h6.2];exact⟨rfl,rfl⟩
     ·have d1:((x.toNat:Int) == 1)=false:=by rw[bFn];omega
      have hax:Wit.ansX x.toNat (raw.drop (p+1))=some (none,raw.drop (p+1)):=by
       unfold Wit.ansX;split
       ·rfl
       ·unfold yS;rw[if_pos (by omega)]
      rw[hax];simp -implicitDefEqProofs only[go_sem,jF,d1];exact⟨rfl,rfl,rfl,rfl,rfl,f03,p+1,false,none,_,h3,by omega,t3,NwB.nil _ _,fun b hb=>(by cases hb),rfl,rfl⟩
    ·rintro ev4 w4 ⟨x0,x1,x2,x7,x8,f4,q4,bad4,a,vv,h4,hq4,t4,n4,hvt,hans⟩
     refine den_cut 4 ?_;have hb0:∀ b,qQb tv=some b→b<w0.heap.size:=fun b hb=>(hw.txr.lt hb).2;have hg0:∀ b,qQb gv=some b→b<w0.heap.size:=fun b hb=>(hw.gvr.lt hb).2;have hus:u.heap.size≤w0.heap.size:=hw.no.size;have cf:IntKind.i64.wrap (((yL ks:Nat):Int) - 1+1)=((yL ks:Nat):Int):=by rw[qZi (by omega) (by omega)];omega
     have q5:wrO prog 3 w4 w0.heap.size 2 (.int .i64 ((yL ks:Nat):Int))=some (put w4 w0.heap.size (.cells (txC (.slice ka ks.length kc) top (yL ks) (.slice .none 0 0) 0 0 a.isSome vv) 220 (0,0))):=by
      rw[qZp sz3 t4 rfl (by simp)];rfl
     have t5:=qQf (o:=.cells (txC (.slice ka ks.length kc) top (yL ks) (.slice .none 0 0) 0 0 a.isSome vv) 220 (0,0)) t4;have f45:Fr (fun b=>b=w0.heap.size) w4 (put w4 w0.heap.size (.cells (txC (.slice ka ks.length kc) top (yL ks) (.slice .none 0 0) 0 0 a.isSome vv) 220 (0,0))):=(Fr.refl _ _).put (b:=w0.heap.size) _ fun _=>rfl;have r5:=qQo (P:=prog) t5;simp -implicitDefEqProofs only[go_sem,jF,gLa,gLz,gLs,x0,x2,x7,x8,cf,q5,r5,qQk];generalize put w4 w0.heap.size (.cells (txC (.slice ka ks.length kc) top (yL ks) (.slice .none 0 0) 0 0 a.isSome vv) 220 (0,0))=w5 at *;have f05:Fr (fun b=>b=wb) w0 w5:=f4.trans' f45 fun b hb e=>by omega
     have h5:WiAt w5 wb wd ev tv gv rv q4 bad4:=f45.at h4 (by omega);have nou5:No u w5:=hw.no.trans' f05 fun b hb e=>by have:=hw.wbu;omega
     refine qQa pl209 ((nearW u w5 h5 hr nou5 hw.wbu hrb hq4 hrl (f:=yL ks) (top:=top) (by omega) ht).mono ?_);rintro ov w6 ⟨f6,gl,q6,bad6,h6,hq6,n6,hgl,hgl256,hX⟩;have r6:=h6.row;have f06:Fr (fun b=>b=wb) w0 w6:=f05.trans f6;have t6:w6.heap[w0.heap.size]?=_:=f6.at t5 (by omega);obtain⟨ga,gc,rfl,hgc⟩:=hw.gvr.rd.slice;have hs56:=f6.size;have hs05:=f45.size;have hs0:=f05.size;have htw6:w0.heap.size<w6.heap.size:=qQh t6;have n6v:NwB w0 w6 vv (a.getD []):=(n4.fr f45 fun b hb e=>hvt b hb e).fr f6 fun b hb e=>by have:=(n4.lt hb).1;omega
     have hwM:WiM u w6 wb wd ev rv tv (.slice ga gvs.length gc) q6 bad6 txs gvs:=⟨h6,hw.txr.fr f06 fun b hb e=>hw.tne b hb e,hw.gvr.fr f06 fun b hb e=>hw.gne b hb e,hw.wbu,hw.no.trans' f06 fun b hb e=>by have:=hw.wbu;omega,hw.tne,hw.gne,hw.tg⟩
     have htx:=htx.mono (M':=fun b=>Mut wb tv (.slice ga gvs.length gc) b∨(E b∨b=w0.heap.size)) fun b hb h=>by
      rcases h with h | h | h
      ·exact .inl h
      ·exact .inr h
      ·omega
     have htx6:=htx.fr f06 fun b hb e=>.inl (.inl e);obtain⟨oa,oc,rfl,hoc⟩:=n6.rd.slice;rw[zU]at hoc n6 ⊢;simp -implicitDefEqProofs only[go_sem,jF,gLa,gLz,gLs,x0,r6,qQk]
     refine loopD [0,1,2,7,8,12,13,14] (tlI u w0 w6 wb w0.heap.size wd ev rv (.slice ka ks.length kc) tv (.slice ga gvs.length gc) (.slice oa gl.length oc) top ((yL ks:Nat) - 1:Int) (txC (.slice ka ks.length kc) top (yL ks) (.slice .none 0 0) 0 0 a.isSome vv) q6 bad6 txs gvs (fun b=>E b∨b=w0.heap.size) xs gl) gl.length
      ⟨0,.slice ga gvs.length gc,by simp -implicitDefEqProofs only[go_sem,jF,List.map_cons,List.map_nil,x0,x1,x2,x7,x8];try rfl,by omega,rfl,by simpa using hwM,t6,htx6,Fr.refl _ _,fun b hb=>.inl hb⟩ ?_
     rintro _ vs w7 g7 ⟨i,gv7,rfl,hi,rfl,hw7,t7,htx7,f67,hg7⟩
     have hgb7:∀ b,qQb gv7=some b→b≠w0.heap.size:=fun b hb e=>by
      rcases hg7 b hb with h | h
      ·have:=hg0 b h;omega
      ·omega
     by_cases hil:i<gl.length
     ·have d1:=dTo ((i:Int)<((gl.length:Nat):Int))
      have c1:=iSu (i:=i);have r7:=hw7.cell.row;have r7d:∀ t o,rdO prog t w7.drew wb o=ldO prog t (some (.cells (wiC wd ev tv gv7 rv q6 bad6) 141 (0,0))) o:=r7
      have nov:RdR w7 34 (.slice oa gl.length oc) (gl.map (gvRow 0)):=by
       have:=n6.rd.fr f67 fun b hb hlt h=>by
        have h2:=(n6.lt hb).1
        rcases h with h | h | h
        ·omega
        ·have:=hb0 b h;omega
        ·have:=hg0 b h;omega
       exact this
      obtain⟨ob,oo,oc',e,_⟩:=nov.pos (by decide) (by rw[zU];omega);rw[zU]at e;cases e;have rg:=nov.get (P:=prog) (t:=267) agg267 sz267 (by decide) (i:=i) (by rw[zU];exact hil);rw[j7]at rg;have rgd:rdO prog 267 w7.drew ob (oo+i*34)=some (.agg (gvRow 0 gl[i]).toArray):=rg;have y1:=iBd (i:=i) (n:=gl.length);obtain⟨gr1,gr2⟩:=gvRow_ok 0 (hgl _ (List.getElem_mem hil));have hgn7:(gvs++(gl.take i).map (gvRow 0)).length≤gvs.length+256:=by rw[lAp,zU,lTk];omega
      obtain⟨v8,w8,hr8,n8,f8,hb8⟩:=(hw7.gvr.fr0 (Fr.refl _ _).drew).push (P:=prog) app139_139 gr1 gr2 (by decide) (by omega) (by omega) (by have:=hw7.no.size;exact this);have hone:one gv7=true:=by obtain⟨_,_,e,_⟩:=hw7.gvr.rd.slice;rw[e];rfl
      have hone8:one v8=true:=by obtain⟨_,_,e,_⟩:=n8.rd.slice;rw[e];rfl
      have f78:Fr (fun b=>qQb gv7=some b) w7 w8:=((Fr.refl _ _).drew).trans f8;have h8:WiAt w8 wb wd ev tv gv7 rv q6 bad6:=f78.at hw7.cell fun e=>hw7.gne _ e rfl
      have q9:wrO prog 139 w8 wb 3 v8=some (put w8 wb (.cells (wiC wd ev tv v8 rv q6 bad6) 141 (0,0))):=by
       rw[qZp sz139 h8 hone8 (by simp)];rfl
      have h9:WiAt (put w8 wb (.cells (wiC wd ev tv v8 rv q6 bad6) 141 (0,0))) wb wd ev tv v8 rv q6 bad6:=qQf h8;have f89:Fr (fun b=>b=wb) w8 (put w8 wb (.cells (wiC wd ev tv v8 rv q6 bad6) 141 (0,0))):=(Fr.refl _ _).put (b:=wb) _ fun _=>rfl;simp -implicitDefEqProofs only[go_sem,jF,gLa,gLz,d1];refine qXh (fun j=>j == 9) [0,1,2,3,4,5,6,7,8,9,10,11,12,13] rfl (by kernel_rfl) (by kernel_rfl) ?_;simp -implicitDefEqProofs only[go_sem,jF,jB,gLa,gLz,gLs,r7d,qQk,y1,and_self,iTn,rgd];refine qKi (v:=.slice (some ⟨w7.heap.size,0,.none⟩) 1 1) (w':=w7.drew.alloc (.cells (gvRow 0 gl[i]).toArray 267)) (qKh (by decide) (by decide) (by simp) (by simp) (by simpa using gr1) _) (fun _=>Ext.alloc _ _) ?_;simp -implicitDefEqProofs only[go_sem,jF,gLa,gLz,gLs];refine qJj ⟨v8,w8,hr8,fun h=>(by cases h),?_⟩;simp -implicitDefEqProofs only[go_sem,jF,jB,gLa,gLz,gLs,q9,c1];generalize put w8 wb (.cells (wiC wd ev tv v8 rv q6 bad6) 141 (0,0))=w9 at *;have f79:Fr (Mut wb tv gv7) w7 w9:=(f78.mono fun b hb h=>.inr (.inr h)).trans' f89 fun b hb e=>.inl e;have hb8':∀ b,qQb v8=some b→qQb gv7=some b∨w7.heap.size≤b:=hb8;have hwl7:wb<w7.heap.size:=qQh hw7.cell;have htl7:=qQh t7
      have hb8n:∀ b,qQb v8=some b→b≠wb∧b≠w0.heap.size∧qQb tv≠some b:=fun b hb=>by
       rcases hb8' b hb with h | h
       ·exact⟨hw7.gne b h,hgb7 b h,fun e=>hw7.tg b e h⟩
       ·exact⟨by omega,by omega,fun e=>by have:=hb0 b e;omega⟩
      have htk:gvs++(gl.take (i+1)).map (gvRow 0)=(gvs++(gl.take i).map (gvRow 0))++[gvRow 0 gl[i]]:=by rw[tSg hil,List.map_append,← zW];rfl
      have f69:Fr (Mut wb tv (.slice ga gvs.length gc)) w6 w9:=f67.trans' f79 fun b hb h=>by
       rcases h with h | h | h
       ·exact .inl h
       ·exact .inr (.inl h)
       ·rcases hg7 b h with h | h
        ·exact .inr (.inr h)
        ·omega
      refine⟨gl.length - (i+1),by omega,i+1,v8,rfl,by omega,rfl,⟨h9,?_,?_,hw7.wbu,?_,hw7.tne,fun b hb=>(hb8n b hb).1,fun b hb h=>(hb8n b h).2.2 hb⟩,?_,?_,f69,fun b hb=>?_⟩
      ·exact (hw7.txr.fr f78 fun b hb h=>hw7.tg b hb h).fr f89 fun b hb e=>hw7.tne b hb e
      ·rw[htk];exact n8.fr f89 fun b hb e=>(hb8n b hb).1 e
      ·exact hw7.no.trans' f79 fun b hb h=>by
        rcases h with h | h | h
        ·have:=hw7.wbu;omega
        ·have:=(hw7.txr.lt h).1;omega
        ·have:=(hw7.gvr.lt h).1;omega
      ·exact f79.at t7 fun h=>by
        rcases h with h | h | h
        ·omega
        ·have:=hb0 _ h;omega
        ·exact hgb7 _ h rfl
      ·exact ((htx7.mono (M':=fun b=>(Mut wb tv gv7 b∨Mut wb tv v8 b)∨(E b∨b=w0.heap.size)) fun b hb h=>by
        rcases h with (h | h | h | h) | h
        ·exact .inl h
        ·exact .inl (.inl h)
        ·exact .inl (.inr (.inl h))
        ·rcases hb8' b h with h | h
         ·exact .inl (.inr (.inr h))
         ·omega
        ·exact .inr h).fr f79 fun b _ h=>.inl (.inl h)).mono fun b _ h=>h.imp .inr id
      ·rcases hb8' b hb with h | h
       ·exact hg7 b h
       ·have:=f67.size;exact .inr (by omega)
     ·have d1:=dFo ((i:Int)<((gl.length:Nat):Int))
      obtain rfl:i=gl.length:=by omega
      rw[List.take_length]at hw7;simp -implicitDefEqProofs only[go_sem,jF,gLa,gLz,d1];refine hold_go ?_
      have hfs7:decide (((yL ks:Nat):Int) - 1 ≥ 0)=decide (1<ks.length):=by
       rw[decide_eq_decide]
       by_cases h2:1<ks.length
       ·have:=vT ha h2;exact iff_of_true (by omega) h2
       ·rw[Wit.frm_one (by omega)];exact iff_of_false (by omega) h2
      refine den_split (fun ev' w=>TbB u w0 w6 wb w0.heap.size wd ev tv (.slice ga gvs.length gc) rv (.slice ka ks.length kc) (.slice oa gl.length oc) (.slice .none 0 0) vv top (yL ks) ((yL ks:Nat) - 1:Int) a.isSome raw gvs.length (fun b=>E b∨b=w0.heap.size) xs (gs++gl) (if bad6=true then none else Wit.subT2 wd n ks (raw.drop q6)) (ev' 0) (ev' 1) (ev' 2) (ev' 7) (ev' 8) (ev' 12) (ev' 13) w) ?_ ?_
      ·have r7:=hw7.cell.row
       have f67':Fr (fun b=>Mut wb tv (.slice ga gvs.length gc) b∨b=w0.heap.size) w6 w7:=f67.mono fun _ _ h=>.inl h
       cases bad6 with
       | true =>
        have hh:TbB u w0 w6 wb w0.heap.size wd ev tv (.slice ga gvs.length gc) rv (.slice ka ks.length kc) (.slice oa gl.length oc) (.slice .none 0 0) vv top (yL ks) ((yL ks:Nat) - 1:Int) a.isSome raw gvs.length (fun b=>E b∨b=w0.heap.size) xs (gs++gl) none (pt wb 0) (.slice ka ks.length kc) (.int .i64 (top:Nat)) (pt w0.heap.size 0) (.int .i64 ((yL ks:Nat) - 1:Int)) (.slice oa gl.length oc) (.int .i64 (gvs.length:Nat)) w7:=⟨rfl,rfl,rfl,rfl,rfl,rfl,rfl,f67',_,_,_,hw7.cell,hq6⟩
        by_cases h2:1<ks.length
        ·have d2:decide (1<ks.length)=true:=decide_eq_true h2
         simp -implicitDefEqProofs only[go_sem,jF,gLa,gLz,gLs,hfs7,d2,r7,qQk,bSe];exact hh
        ·have d2:decide (1<ks.length)=false:=decide_eq_false h2
         simp -implicitDefEqProofs only[go_sem,jF,gLa,gLz,gLs,hfs7,d2,qJu];exact hh
       | false =>
        by_cases h2:1<ks.length
        ·have d2:decide (1<ks.length)=true:=decide_eq_true h2
         have hfp:=vT ha h2;have hfl:=Wit.frm_le ha h2;have hlt:=Wit.lefts_lt ha h2;have hlp:=Wit.lefts_pos ha h2;have e8:((yL ks:Nat):Int) - 1=((yL ks - 1:Nat):Int):=by omega
         have hsub:Wit.subT2 wd n ks (raw.drop q6)=(yE wd n (ks.take (yT ks)) (yL ks - 1) (raw.drop q6)).bind fun q=>(yE wd n (ks.drop (yT ks)) (yL ks - 1) q.2.2).map fun s=>(some (q.1,s.1),q.2.1++s.2.1,s.2.2):=by unfold Wit.subT2;rw[if_pos h2]
         simp -implicitDefEqProofs only[go_sem,jF,gLa,gLz,gLs,hfs7,d2,r7,qQk,bSe];rw[hsub];refine qQa pl137 ((left w7 (hk.fr0 hw7.no) ha h2 (by omega)).mono ?_);rintro _ w8 ⟨rfl,f8⟩;have hw8:=hw7.fr0 f8;have t8:=f8.at t7 id;have s1:=slc_hi (P:=prog) slc24 arr24 sz34 (a:=ka) (show yT ks≤ks.length by omega) hkc;have s2:=slc_lo (P:=prog) slc24 arr24 sz34 (a:=ka) (show yT ks≤ks.length by omega) hkc;have k1:=RdD.cutV hk (Nat.zero_le (yT ks)) (by omega) rfl;have k2:=RdD.cutV hk (show yT ks≤ks.length by omega) (Nat.le_refl _) rfl;rw[List.drop_zero,Nat.sub_zero]at k1;rw[List.take_of_length_le (by rw[lDr];omega)]at k2;have hl1:(ks.take (yT ks)).length=yT ks:=by rw[lTk];omega
         have hl2:(ks.drop (yT ks)).length=ks.length - yT ks:=by rw[lDr]
         have e256:256 - (yL ks - 1)=257 - yL ks:=by omega
         have hg8:(gvs++gl.map (gvRow 0)).length=gvs.length+gl.length:=by rw[lAp,zU]
         have hgl7:GvL (gvs++gl.map (gvRow 0)) (gs++gl):=hgv.app (GvL.own hgl);have tx8:=htx7.fr f8 fun b _ h=>h.elim;have f68:Fr (fun b=>Mut wb tv (.slice ga gvs.length gc) b∨b=w0.heap.size) w6 w8:=f67'.trans' f8 fun _ _ h=>h.elim;have hs68:w6.heap.size≤w8.heap.size:=f68.size
         have M7:∀ b,b<w6.heap.size→Mut wb tv gv7 b→Mut wb tv (.slice ga gvs.length gc) b:=fun b hb h=>by
          rcases h with h | h | h
          ·exact .inl h
          ·exact .inr (.inl h)
          ·rcases hg7 b h with h | h
           ·exact .inr (.inr h)
           ·omega
         have tbM7:¬ Mut wb tv gv7 w0.heap.size:=fun h=>by
          rcases h with h | h | h
          ·omega
          ·have:=hb0 _ h;omega
          ·exact hgb7 _ h rfl
         simp -implicitDefEqProofs only[go_sem,jF,e8,s1];refine qQa pl180 ((ih w8 (E:=fun b=>E b∨b=w0.heap.size) (by omega) (fun b h=>h.elim (fun h=>by have:=hE b h;omega) fun e=>by omega) hw8 hr hrb hq6 hrl he k1 tx8 hgl7 (by rw[hg8,hl1];omega) (by rw[hl1];omega) (ha.take _) (by omega) (by rw[e256];exact Wit.shr_take ha h2) (by omega)).mono ?_);rintro r9 w9 ⟨f9,h9⟩;have t9:=f9.at t8 tbM7;have f69:Fr (fun b=>Mut wb tv (.slice ga gvs.length gc) b∨b=w0.heap.size) w6 w9:=f68.trans' f9 fun b hb h=>.inl (M7 b hb h);have hs69:w8.heap.size≤w9.heap.size:=f9.size
         have stL:∀ z:Int,wrO prog 3 w9 w0.heap.size 4 (.int .i64 z)=some (put w9 w0.heap.size (.cells (txC (.slice ka ks.length kc) top (yL ks) (.slice .none 0 0) z 0 a.isSome vv) 220 (0,0))):=fun z=>by
          rw[qZp sz3 t9 rfl (by simp)];rfl
         cases hL:yE wd n (ks.take (yT ks)) (yL ks - 1) (raw.drop q6) with
         | none =>
          rw[hL]at h9;obtain⟨⟨z,rfl⟩,tv9,gv9,q9,h9,hq9⟩:=h9;have t10:=qQf (o:=.cells (txC (.slice ka ks.length kc) top (yL ks) (.slice .none 0 0) z 0 a.isSome vv) 220 (0,0)) t9;have f9a:Fr (fun b=>b=w0.heap.size) w9 (put w9 w0.heap.size (.cells (txC (.slice ka ks.length kc) top (yL ks) (.slice .none 0 0) z 0 a.isSome vv) 220 (0,0))):=(Fr.refl _ _).put (b:=w0.heap.size) _ fun _=>rfl;have h10:WiAt (put w9 w0.heap.size (.cells (txC (.slice ka ks.length kc) top (yL ks) (.slice .none 0 0) z 0 a.isSome vv) 220 (0,0))) wb wd ev tv9 gv9 rv q9 true:=f9a.at h9 (by omega);have q10:=stL z;simp -implicitDefEqProofs only[go_sem,jF,q10,s2];generalize put w9 w0.heap.size (.cells (txC (.slice ka ks.length kc) top (yL ks) (.slice .none 0 0) z 0 a.isSome vv) 220 (0,0))=w10 at *;have f6a:Fr (fun b=>Mut wb tv (.slice ga gvs.length gc) b∨b=w0.heap.size) w6 w10:=f69.trans' f9a fun b _ h=>.inr h
          have nou10:No u w10:=hwM.no.trans' f6a fun b hb h=>by
           rcases h with (h | h | h) | h
           ·have:=hw.wbu;omega
           ·have:=(hw.txr.lt h).1;omega
           ·have:=(hw.gvr.lt h).1;omega
           ·omega
          refine qQa pl180 ((textBad u w10 h10 hr nou10 hw.wbu hrb hq9 hrl (k2.fr0 nou10) (ha.drop _) (by omega) (by omega)).mono ?_);rintro _ w11 ⟨f11,⟨z2,rfl⟩,h11⟩;have t11:w11.heap[w0.heap.size]?=_:=f11.at t10 (by omega)
          have q12:wrO prog 3 w11 w0.heap.size 5 (.int .i64 z2)=some (put w11 w0.heap.size (.cells (txC (.slice ka ks.length kc) top (yL ks) (.slice .none 0 0) z z2 a.isSome vv) 220 (0,0))):=by
           rw[qZp sz3 t11 rfl (by simp)];rfl
          have f1b:Fr (fun b=>b=w0.heap.size) w11 (put w11 w0.heap.size (.cells (txC (.slice ka ks.length kc) top (yL ks) (.slice .none 0 0) z z2 a.isSome vv) 220 (0,0))):=(Fr.refl _ _).put (b:=w0.heap.size) _ fun _=>rfl;simp -implicitDefEqProofs only[go_sem,jF,q12];exact⟨rfl,rfl,rfl,rfl,rfl,rfl,rfl,(f6a.trans' f11 fun b _ h=>.inl (.inl h)).trans' f1b fun b _ h=>.inr h,tv9,gv9,q9,f1b.at h11 (by omega),hq9⟩
         | some pL =>
          rw[hL]at h9;obtain⟨tv9,gv9,q9,txs9,gvs9,rfl,hw9,hq9,hrest9,tx9,gv9L,hb9t,hb9g⟩:=h9
          have tbM9:¬ Mut wb tv9 gv9 w0.heap.size:=fun h=>by
           rcases h with h | h | h
           ·omega
           ·rcases hb9t _ h with h | h
            ·have:=hb0 _ h;omega
            ·omega
           ·rcases hb9g _ h with h | h
            ·exact hgb7 _ h rfl
            ·omega
          have q10:=stL ((xs.length+pL.1.size - 1:Nat):Int);have t10:=qQf (o:=.cells (txC (.slice ka ks.length kc) top (yL ks) (.slice .none 0 0) ((xs.length+pL.1.size - 1:Nat):Int) 0 a.isSome vv) 220 (0,0)) t9;have f9a:Fr (fun b=>b=w0.heap.size) w9 (put w9 w0.heap.size (.cells (txC (.slice ka ks.length kc) top (yL ks) (.slice .none 0 0) ((xs.length+pL.1.size - 1:Nat):Int) 0 a.isSome vv) 220 (0,0))):=(Fr.refl _ _).put (b:=w0.heap.size) _ fun _=>rfl;have hw10:=hw9.fr f9a fun b _ e=>by rw[e];exact⟨tbM9,by omega⟩
          have tx10:=tx9.fr f9a fun b _ h=>.inr (.inr h);simp -implicitDefEqProofs only[go_sem,jF,q10,s2];generalize put w9 w0.heap.size (.cells (txC (.slice ka ks.length kc) top (yL ks) (.slice .none 0 0) ((xs.length+pL.1.size - 1:Nat):Int) 0 a.isSome vv) 220 (0,0))=w10 at *;have f6a:Fr (fun b=>Mut wb tv (.slice ga gvs.length gc) b∨b=w0.heap.size) w6 w10:=f69.trans' f9a fun b _ h=>.inr h;obtain⟨okL,keysL,_,_⟩:=Wit.parse_ok (ha.take _) (hk.1.take _) (by omega) (by rw[e256];exact Wit.shr_take ha h2) (by omega) hL;have szL:=Wit.size_keys okL;rw[keysL,hl1]at szL;have lenL:=parse_len (ha.take _) (by omega) hL;rw[hl1]at lenL;have hgsl:gvs.length=gs.length:=hgv.1;have htxl:txs.length=xs.length:=htx.1;have htx9l:txs9.length=(xs++Wit.flatT wd xs.length pL.1).length:=tx9.1;have hgv9l:gvs9.length=(gs++gl++pL.2.1).length:=gv9L.1;simp only[lAp,vR]at htx9l hgv9l;have hs9a:=f9a.size;refine qQa pl180 ((ih w10 (E:=fun b=>E b∨b=w0.heap.size) (by omega) (fun b h=>h.elim (fun h=>by have:=hE b h;omega) fun e=>by omega) hw10 hr hrb hq9 hrl he k2 tx10 gv9L (by rw[hgv9l,hl2];omega) (by rw[htx9l,hl2];omega) (ha.drop _) (by omega) (by rw[e256];exact Wit.shr_drop ha h2) (by omega)).mono ?_);rintro r11 w11 ⟨f11,h11⟩;have t11:=f11.at t10 tbM9
          have f6b:Fr (fun b=>Mut wb tv (.slice ga gvs.length gc) b∨b=w0.heap.size) w6 w11:=f6a.trans' f11 fun b hb h=>by
           rcases h with h | h | h
           ·exact .inl (.inl h)
           ·rcases hb9t _ h with h | h
            ·exact .inl (.inr (.inl h))
            ·omega
           ·rcases hb9g _ h with h | h
            ·exact .inl (M7 b hb (.inr (.inr h)))
            ·omega
          have hsab:w10.heap.size≤w11.heap.size:=f11.size
          have stR:∀ z:Int,wrO prog 3 w11 w0.heap.size 5 (.int .i64 z)=some (put w11 w0.heap.size (.cells (txC (.slice ka ks.length kc) top (yL ks) (.slice .none 0 0) ((xs.length+pL.1.size - 1:Nat):Int) z a.isSome vv) 220 (0,0))):=fun z=>by
           rw[qZp sz3 t11 rfl (by simp)];rfl
          have f1b:∀ z:Int,Fr (fun b=>b=w0.heap.size) w11 (put w11 w0.heap.size (.cells (txC (.slice ka ks.length kc) top (yL ks) (.slice .none 0 0) ((xs.length+pL.1.size - 1:Nat):Int) z a.isSome vv) 220 (0,0))):=fun z=>(Fr.refl _ _).put (b:=w0.heap.size) _ fun _=>rfl;rw[hrest9]at h11
          cases hR:yE wd n (ks.drop (yT ks)) (yL ks - 1) pL.2.2 with
          | none =>
           rw[hR]at h11;obtain⟨⟨z2,rfl⟩,tv11,gv11,q11,h11,hq11⟩:=h11;have q12:=stR z2;simp -implicitDefEqProofs only[go_sem,jF,q12];exact⟨rfl,rfl,rfl,rfl,rfl,rfl,rfl,f6b.trans' (f1b z2) fun b _ h=>.inr h,tv11,gv11,q11,(f1b z2).at h11 (by omega),hq11⟩
          | some pR =>
           rw[hR]at h11;obtain⟨tv11,gv11,q11,txs11,gvs11,rfl,hw11,hq11,hrest11,tx11,gv11L,hb11t,hb11g⟩:=h11
           have tbM11:¬ Mut wb tv11 gv11 w0.heap.size:=fun h=>by
            rcases h with h | h | h
            ·omega
            ·rcases hb11t _ h with h | h
             ·exact tbM9 (.inr (.inl h))
             ·omega
            ·rcases hb11g _ h with h | h
             ·exact tbM9 (.inr (.inr h))
             ·omega
           rw[lAp,vR]at tx11;have q12:=stR (((xs++Wit.flatT wd xs.length pL.1).length+pR.1.size - 1:Nat):Int);have elen:(xs++Wit.flatT wd xs.length pL.1).length=xs.length+pL.1.size:=by rw[lAp,vR]
           rw[elen]at q12;simp -implicitDefEqProofs only[go_sem,jF,elen,q12];have tx12:=tx11.fr (f1b ((xs.length+pL.1.size+pR.1.size - 1:Nat):Int)) fun b _ h=>.inr (.inr h);refine⟨rfl,rfl,rfl,rfl,rfl,rfl,rfl,f6b.trans' (f1b _) fun b _ h=>.inr h,tv11,gv11,q11,txs11,gvs11,hw11.fr (f1b _) fun b _ e=>by rw[e];exact⟨tbM11,by omega⟩,hq11,hrest11,?_,?_,qQf t11,fun b hb=>?_,fun b hb=>?_⟩
           ·rw[zW]at tx12;exact tx12
           ·rw[zW]at gv11L;exact gv11L
           ·rcases hb11t b hb with h | h
            ·rcases hb9t b h with h | h
             ·exact .inl h
             ·exact .inr (by omega)
            ·exact .inr (by omega)
           ·rcases hb11g b hb with h | h
            ·rcases hb9g b h with h | h
             ·exact hg7 b h
             ·exact .inr (by omega)
            ·exact .inr (by omega)
        ·have d2:decide (1<ks.length)=false:=decide_eq_false h2
         have hsub:Wit.subT2 wd n ks (raw.drop q6)=some (none,[],raw.drop q6):=by unfold Wit.subT2;rw[if_neg h2]
         simp -implicitDefEqProofs only[go_sem,jF,gLa,gLz,gLs,hfs7,d2,qJu];rw[hsub];refine⟨rfl,rfl,rfl,rfl,rfl,rfl,rfl,f67',tv,gv7,q6,txs,_,hw7,hq6,rfl,?_,?_,t7,fun b hb=>.inl hb,hg7⟩
         ·show TxL u w7 (fun b=>Mut wb tv gv7 b∨(E b∨b=w0.heap.size)) txs (xs++[])
          rw[j9];exact htx7
         ·show GvL _ ((gs++gl)++[])
          rw[j9];exact hgv.app (GvL.own hgl)
      ·rintro ev9 w9 ⟨x0,x1,x2,x7,x8,x12,x13,f69,hres⟩
       have hpar2:yE wd (n+1) ks top (raw.drop p)=(Wit.ansX x.toNat (raw.drop (p+1))).bind fun pa=>(Wit.nearP wd (yL ks) top pa.2).bind fun pn=>(Wit.subT2 wd n ks pn.2.2).map fun s=>(Wit.mkT ks top pn.1 pa.1 s.1,pn.2.1++s.2.1,s.2.2):=by rw[hpar,Wit.parse_sub hc]
       have f09:Fr (fun b=>b=wb) w0 w6:=f06
       have f09:Fr (Mut wb tv (.slice ga gvs.length gc)) w0 w9:=(f06.mono fun b _ h=>.inl h).trans' f69 fun b hb h=>by
        rcases h with h | h
        ·exact h
        ·omega
       have bad:∀ tv' gv' q',yE wd (n+1) ks top (raw.drop p)=none→WiAt w9 wb wd ev tv' gv' rv q' true→q'≤raw.length→XtQ u w0 wb wd ev rv raw (n+1) ks top tv (.slice ga gvs.length gc) p E xs gs (.int .i64 0) w9:=fun tv' gv' q' hn h9 hq9=>fno hn _ _ f09 ⟨tv',gv',q',h9,hq9⟩
       cases bad6 with
       | true =>
        rw[if_pos rfl]at hres;obtain⟨tv',gv',q',h9,hq9⟩:=hres;have r9:=h9.row;simp -implicitDefEqProofs only[go_sem,gLa,gLz,gLs,x0,r9,qQk];refine bad tv' gv' q' ?_ h9 hq9;rw[hpar2]
        cases ha':Wit.ansX x.toNat (raw.drop (p+1)) with
        | none=>rfl
        | some y =>
         rw[ha']at hans;obtain⟨hb4,rfl⟩:=hans;rw[hb4]at hX;rw[qV,Wit.nearP_gvA]
         cases hg':Wit.gvA (yL ks) top (raw.drop q4) with
         | none=>rfl
         | some z =>
          rw[if_neg (by decide),hg']at hX;have:=hX.1;cases this
       | false =>
        have hgv':bad4=false∧Wit.gvA (yL ks) top (raw.drop q4)=some (gl,raw.drop q6):=by
         cases bad4 with
         | true=>rw[if_pos rfl]at hX;cases hX
         | false =>
          rw[if_neg (by decide)]at hX
          cases hg':Wit.gvA (yL ks) top (raw.drop q4) with
          | none=>rw[hg']at hX;cases hX
          | some z=>rw[hg']at hX;exact⟨rfl,by rw[hX.2]⟩
        obtain⟨rfl,hgv'⟩:=hgv'
        have hans':Wit.ansX x.toNat (raw.drop (p+1))=some (a,raw.drop q4):=by
         cases ha':Wit.ansX x.toNat (raw.drop (p+1)) with
         | none=>rw[ha']at hans;cases hans
         | some y=>rw[ha']at hans;rw[hans.2]
        have hnear:Wit.nearP wd (yL ks) top (raw.drop q4)=some (Wit.fill (yL ks) (((empts wd 257).drop (yL ks)).take (top - yL ks)) gl,gl,raw.drop q6):=by rw[Wit.nearP_gvA,hgv'];rfl
        rw[hans',qV,hnear,qV]at hpar2;simp only at hpar2;rw[if_neg (by decide)]at hres
        cases hsub:Wit.subT2 wd n ks (raw.drop q6) with
        | none =>
         rw[hsub]at hres hpar2;obtain⟨tv',gv',q',h9,hq9⟩:=hres;have r9:=h9.row;simp -implicitDefEqProofs only[go_sem,gLa,gLz,gLs,x0,r9,qQk];exact bad tv' gv' q' hpar2 h9 hq9
        | some s =>
         rw[hsub,qK]at hpar2;rw[hsub]at hres;obtain⟨tv',gv',q',txs',gvs',hw9,hq9,hrest9,tx9,gv9,t9,hbt,hbg⟩:=hres;have r9:=hw9.cell.row;have hgh:=(nearP_gs (by omega) ht hnear).2;simp -implicitDefEqProofs only[go_sem,gLa,gLz,gLs,x0,r9,qQk]
         obtain⟨L,hL⟩:∃ L:Int,((Wit.subL xs.length s.1:Nat):Int)=L:=⟨_,rfl⟩
         obtain⟨R,hR⟩:∃ R:Int,((Wit.subR xs.length s.1:Nat):Int)=R:=⟨_,rfl⟩
         rw[hL,hR]at t9;refine loopD [0,2,7,12,13,16] (tl2 w9 wb w0.heap.size wd (.slice ka ks.length kc) (.slice oa gl.length oc) vv top (yL ks) gvs.length L R a.isSome) top ⟨0,_,by simp -implicitDefEqProofs only[go_sem,jF,List.map_cons,List.map_nil,x0,x2,x7,x12,x13];rfl,by omega,rfl,by rw[List.take_zero];exact NwD.nil _ _ _,t9,Fr.refl _ _⟩ ?_;rintro _ vs w10 g10 ⟨g,nv,rfl,hg,rfl,n10,t10,f10⟩;have htl9:w0.heap.size<w9.heap.size:=qQh t9;have hwl9:wb<w9.heap.size:=qQh hw9.cell
         have htv9:∀ b,qQb tv'=some b→b<w9.heap.size∧b≠w0.heap.size:=fun b hb=>⟨(hw9.txr.lt hb).2,fun e=>by
          rcases hbt b hb with h | h
          ·have:=hb0 b h;omega
          ·omega⟩
         have hgv9:∀ b,qQb gv'=some b→b<w9.heap.size∧b≠w0.heap.size:=fun b hb=>⟨(hw9.gvr.lt hb).2,fun e=>by
          rcases hbg b hb with h | h
          ·have:=hg0 b h;omega
          ·omega⟩
         have tbM:¬ Mut wb tv' gv' w0.heap.size:=fun h=>by
          rcases h with h | h | h
          ·omega
          ·exact (htv9 _ h).2 rfl
          ·exact (hgv9 _ h).2 rfl
         have hel:(empts wd 257).length=257:=qQm _ _;obtain⟨eb,eo,ec,rfl,_,_⟩:=he.pos (by omega)
         by_cases hgt2:g<top
         ·have d1:=dTo ((g:Int)<(top:Int))
          have c1:=iSu (i:=g);have hwa:WiAt w10 wb wd (.slice (some ⟨eb,eo,.none⟩) (empts wd 257).length ec) tv' gv' rv q' false:=f10.at hw9.cell (by omega);have r10:=hwa.row;have r10d:∀ t o,rdO prog t w10.drew wb o=ldO prog t (some (.cells (wiC wd (.slice (some ⟨eb,eo,.none⟩) (empts wd 257).length ec) tv' gv' rv q' false) 141 (0,0))) o:=r10;have rt10:=qQo (P:=prog) t10;have rt10d:∀ t o,rdO prog t w10.drew w0.heap.size o=ldO prog t (some (.cells (txC (.slice ka ks.length kc) top (yL ks) nv L R a.isSome vv) 220 (0,0))) o:=rt10;have no10:No u w10.drew:=(hw9.no.trans' f10 fun b hb e=>by omega).drew;have re:=(he.fr0 no10).get (P:=prog) agg23 sz23 (i:=g) (by omega);have hem:(empts wd 257).getD g []=emptD wd g:=by rw[gDq,qXw wd 257 (by omega)];rfl
          have hsn:(empts wd 257).take (g+1)=(empts wd 257).take g++[emptD wd g]:=by rw[tSg (by omega),← hem,qQi _ (by omega)]
          rw[hem]at re;have hdl:=qQp wd g;generalize emptD wd g=D at *;have y1:=iBd (i:=g) (n:=(empts wd 257).length);have re':rdO prog 23 w10 eb (eo+g*32)=some (dg D):=re;obtain⟨v11,w11,hr11,n11,f11,hb11⟩:=(n10.fr0 (Fr.refl _ _).drew).pushX (P:=prog) app94_94 hdl (by rw[lTk];omega) (show w9.heap.size≤w10.drew.heap.size from f10.size);have hone11:one v11=true:=by obtain⟨_,_,e,_⟩:=n11.rd.slice;rw[e];rfl
          have f1011:Fr (fun b=>qQb nv=some b) w10 w11:=((Fr.refl _ _).drew).trans f11;have t11:w11.heap[w0.heap.size]?=_:=f1011.at t10 fun e=>by have:=(n10.lt e).1;omega
          have q11:wrO prog 94 w11 w0.heap.size 3 v11=some (put w11 w0.heap.size (.cells (txC (.slice ka ks.length kc) top (yL ks) v11 L R a.isSome vv) 220 (0,0))):=by
           rw[qZp sz94 t11 hone11 (by simp)];rfl
          have fp11:Fr (fun b=>b=w0.heap.size) w11 (put w11 w0.heap.size (.cells (txC (.slice ka ks.length kc) top (yL ks) v11 L R a.isSome vv) 220 (0,0))):=(Fr.refl _ _).put (b:=w0.heap.size) _ fun _=>rfl;simp -implicitDefEqProofs only[go_sem,jF,d1];refine qXh (fun j=>j == 9) [0,1,2,3,4,5,6,7,8,9,10,11,12] rfl (by kernel_rfl) (by kernel_rfl) ?_;simp -implicitDefEqProofs only[go_sem,jF,jB,gLa,gLz,gLs,r10d,rt10d,qQk,y1,and_self,iTn,re,Value.cells,qQj];refine qKi (v:=.slice (some ⟨w10.heap.size,0,.none⟩) 1 1) (w':=w10.drew.alloc (.cells (bl D) 23)) (qXb (y:=List.map u8 (List.replicate 32 0)) (by simp) (c:=bl (List.replicate 32 0)) (by simp) (d:=D) hdl _) (fun _=>Ext.alloc _ _) ?_;simp -implicitDefEqProofs only[go_sem,jF,gLa,gLz,gLs];refine qJj ⟨v11,w11,hr11,fun h=>(by cases h),?_⟩;simp -implicitDefEqProofs only[go_sem,jF,jB,gLa,gLz,gLs,q11,c1];have f911:Fr (fun b=>b=w0.heap.size) w9 w11:=f10.trans' f1011 fun b hb h=>by have:=(n10.lt h).1;omega
          refine⟨top - (g+1),by omega,g+1,v11,rfl,by omega,rfl,?_,qQf t11,f911.trans fp11⟩;rw[hsn]
          exact n11.fr fp11 fun b hb e=>by
           have:=(n11.lt hb).1;omega
         ·have d1:=dFo ((g:Int)<(top:Int))
          obtain rfl:g=top:=by omega
          simp -implicitDefEqProofs only[go_sem,jF,d1];have no10:No u w10:=hw9.no.trans' f10 fun b hb e=>by omega
          have hw10:=hw9.fr f10 fun b _ e=>by rw[e];exact⟨tbM,by omega⟩
          refine loopD [0,7,12,13,17] (tl4 u w9 wb w0.heap.size wd (.slice (some ⟨eb,eo,.none⟩) (empts wd 257).length ec) rv tv' gv' (.slice ka ks.length kc) (.slice oa gl.length oc) vv nv g (yL ks) gvs.length L R a.isSome q' txs' (gs++gl++s.2.1) gl ((empts wd 257).take g)) gl.length
           ⟨0,gvs',rfl,by omega,rfl,n10,t10,hw10,gv9,f10.mono fun b _ h=>.inl h⟩ ?_
          rintro _ vs w11 g11 ⟨i,gvs11,rfl,hi,rfl,n11,t11,hw11,gv11,f11⟩;have htw5:w0.heap.size<w5.heap.size:=qQh t5
          have f6b:Fr (fun b=>Mut wb tv (.slice ga gvs.length gc) b∨b=w0.heap.size) w6 w11:=f69.trans' f11 fun b hb h=>by
           rcases h with h | h
           ·exact .inr h
           ·rcases hbg b h with h | h
            ·exact .inl (.inr (.inr h))
            ·omega
          have r11:=hw11.cell.row;have rt11:=qQo (P:=prog) t11;have hll:=Wit.fold_set_len (gl.take i) ((empts wd 257).take g);rw[lTk,hel,Nat.min_eq_left (by omega)]at hll;obtain⟨ta,tc,rfl,htc⟩:=hw11.txr.rd.slice;obtain⟨gva,gvc,rfl,hgvc⟩:=hw11.gvr.rd.slice;have hgl11:gvs11.length=gs.length+gl.length+s.2.1.length:=by rw[gv11.1,lAp,lAp]
          have hgsl:gvs.length=gs.length:=hgv.1
          by_cases hil:i<gl.length
          ·have d1:=dTo ((i:Int)<((gl.length:Nat):Int))
           have c1:=iSu (i:=i);have c2:IntKind.i64.wrap (((gvs.length:Nat):Int)+(i:Int))=((gvs.length+i:Nat):Int):=qXc
           have nov:RdR w11 34 (.slice oa gl.length oc) (gl.map (gvRow 0)):=n6.rd.fr f6b fun b hb hlt h=>by
            have h2:=(n6.lt hb).1
            rcases h with (h | h | h) | h
            ·omega
            ·have:=hb0 b h;omega
            ·have:=hg0 b h;omega
            ·omega
           obtain⟨ob,oo,oc',e,_⟩:=nov.pos (by decide) (by rw[zU];omega);rw[zU]at e;cases e;obtain⟨gh1,gh2,gh3,_⟩:=hgh _ (List.getElem_mem hil)
           have hsucc:(gl.take (i+1)).foldl (fun l q=>l.set q.1 q.2) ((empts wd 257).take g)=((gl.take i).foldl (fun l q=>l.set q.1 q.2) ((empts wd 257).take g)).set gl[i].1 gl[i].2:=by
            rw[tSg hil,List.foldl_append];rfl
           have rg1:=nov.fld (P:=prog) (t:=3) agg3 (i:=i) (by rw[zU];exact hil) (j:=1) (by decide) (x:=.int .i64 (gl[i].1:Nat)) (by rw[j7];rfl);have rg2:=nov.sub (P:=prog) (t:=23) (m:=32) agg23 sz23 (by decide) (i:=i) (by rw[zU];exact hil) (j:=2) (by decide) (xs:=gl[i].2.map u8) (by rw[zU,gh3]) (fun q hq=>by rw[j7,Nat.add_comm];rfl);generalize gl[i].1=hh at *;generalize gl[i].2=D at *;generalize (gl.take i).foldl (fun l q=>l.set q.1 q.2) ((empts wd 257).take g)=ls at *;obtain⟨nb,no,nc,rfl,hnc,_⟩:=n11.rd.pos (by omega);rw[hll]at n11 hnc rt11 t11 ⊢;have rg1d:rdO prog 3 w11.drew ob (oo+i*34+1)=some (.int .i64 (hh:Nat)):=rg1;have rg2d:rdO prog 23 w11.drew ob (oo+i*34+2)=some (dg D):=rg2;have rt11d:∀ t o,rdO prog t w11.drew w0.heap.size o=ldO prog t (some (.cells (txC (.slice ka ks.length kc) g (yL ks) (.slice (some ⟨nb,no,.none⟩) g nc) L R a.isSome vv) 220 (0,0))) o:=rt11;have y1:=iBd (i:=i) (n:=gl.length);have y2:(0:Int)≤(hh:Int)∧(hh:Int)<(g:Int):=by omega
           obtain⟨w12,q12,n12,f12⟩:=(n11.fr0 (Fr.refl _ _).drew).set (P:=prog) (t:=23) sz23 (i:=hh) (d:=D) (by omega) gh3;have hnb:w9.heap.size≤nb:=(n11.lt (b:=nb) rfl).1;have f1112:Fr (fun b=>b=nb) w11 w12:=((Fr.refl _ _).drew).trans f12
           have hw12:=hw11.fr f1112 fun b _ e=>by
            rw[e];refine⟨fun h=>?_,by have:=hw9.no.size;omega⟩
            rcases h with h | h | h
            ·omega
            ·have:=(htv9 _ h).1;omega
            ·have:=(hgv9 _ h).1;omega
           have t12:w12.heap[w0.heap.size]?=_:=f1112.at t11 (by omega);have r12:=hw12.cell.row;have r12d:∀ t o,rdO prog t w12.drew wb o=ldO prog t (some (.cells (wiC wd (.slice (some ⟨eb,eo,.none⟩) (empts wd 257).length ec) (.slice ta txs'.length tc) (.slice gva gvs11.length gvc) rv q' false) 141 (0,0))) o:=r12;obtain⟨gb,go,gc2,e,_⟩:=hw12.gvr.rd.pos (by decide) (by omega);cases e;have y3:(0:Int)≤((gvs.length+i:Nat):Int)∧((gvs.length+i:Nat):Int)<((gvs11.length:Nat):Int):=by omega
           obtain⟨w13,q13,n13,f13⟩:=(hw12.gvr.fr0 (Fr.refl _ _).drew).setf (P:=prog) (t:=3) sz3 (i:=gvs.length+i) (by omega) (j:=0) (by decide) (x:=.int .i64 (txs'.length:Nat)) rfl;rw[jO]at q13;simp -implicitDefEqProofs only[go_sem,jF,jB,gLa,gLz,gLs,decide_true,rt11d,qQk,y1,y2,rg1d,rg2d,and_self,iTn,q12,r12d,c2,y3,q13,c1];have f1213:Fr (fun b=>b=gb) w12 w13:=((Fr.refl _ _).drew).trans f13;have hgbm:qQb (.slice (some ⟨gb,go,.none⟩) gvs11.length gvc)=some gb:=rfl;have hgb9:=hgv9 gb hgbm;have hgw:=hw12.gne gb hgbm;refine⟨gl.length - (i+1),by omega,i+1,_,rfl,by omega,rfl,?_,f1213.at t12 (fun e=>hgb9.2 e.symm),⟨f1213.at hw12.cell fun e=>hgw e.symm,hw12.txr.fr f1213 fun b hb e=>hw12.tg b hb (by rw[e];rfl),n13,hw12.wbu,hw12.no.trans' f1213 fun b hb e=>by have:=(hw12.gvr.lt hgbm).1;omega,hw12.tne,fun b hb=>hw12.gne b hb,fun b hb=>hw12.tg b hb⟩,gv11.set (i:=gvs.length+i) (by omega) ((txs'.length:Nat):Int),?_⟩
           ·rw[hsucc]
            have:=n12.fr f1213 fun b hb e=>by
             simp only[qQb,oSi]at hb;omega
            exact this
           ·exact (f11.trans' f1112 fun b hb e=>by omega).trans' f1213 fun b hb e=>.inr (by rw[e];rfl)
          ·have d1:=dFo ((i:Int)<((gl.length:Nat):Int))
           obtain rfl:i=gl.length:=by omega
           rw[List.take_length]at n11;simp -implicitDefEqProofs only[go_sem,jF,gLa,gLz,d1];have r11d:∀ t o,rdO prog t w11.drew wb o=ldO prog t (some (.cells (wiC wd (.slice (some ⟨eb,eo,.none⟩) (empts wd 257).length ec) (.slice ta txs'.length tc) (.slice gva gvs11.length gvc) rv q' false) 141 (0,0))) o:=r11;have rtx:rdO prog 220 w11 w0.heap.size 0=some (.agg (txC (.slice ka ks.length kc) g (yL ks) nv L R a.isSome vv)):=qZk agg220 sz220 t11;have rtxd:rdO prog 220 w11.drew w0.heap.size 0=some (.agg (txC (.slice ka ks.length kc) g (yL ks) nv L R a.isSome vv)):=rtx;have hnone:one nv=true:=by obtain⟨_,_,e,_⟩:=n11.rd.slice;rw[e];rfl
           have hvone:one vv=true:=n6v.by.one
           obtain⟨okT,keysT,_,_⟩:=Wit.parse_ok ha hk.1 h0 hs ht hpar2;have szT:=Wit.size_keys okT;simp only at szT keysT;rw[keysT]at szT;have sxl:=Wit.subX_len wd xs.length s.1 ks g (Wit.fill (yL ks) (((empts wd 257).drop (yL ks)).take (g - yL ks)) gl) a;have htx9l:txs'.length=xs.length+(Wit.subX wd xs.length s.1).length:=by rw[tx9.1,lAp]
           have htxl:txs.length=xs.length:=htx.1;obtain⟨v12,w12,hr12,n12,f12,hb12⟩:=(hw11.txr.fr0 (Fr.refl _ _).drew).push (P:=prog) app138_138 (xs:=(txC (.slice ka ks.length kc) g (yL ks) nv L R a.isSome vv).toList) rfl (by simp only[List.all_cons,List.all_nil,hnone,hvone];rfl) (by decide) (by omega) (by omega) (by have:=hw11.no.size;exact this);obtain⟨a12,c12,e12,_⟩:=n12.rd.slice;rw[lAp,List.length_singleton]at e12;subst e12;have hone12:one (.slice a12 (txs'.length+1) c12)=true:=rfl;have f1112:Fr (fun b=>qQb (.slice ta txs'.length tc)=some b) w11 w12:=((Fr.refl _ _).drew).trans f12;have h12:WiAt w12 wb wd (.slice (some ⟨eb,eo,.none⟩) (empts wd 257).length ec) (.slice ta txs'.length tc) (.slice gva gvs11.length gvc) rv q' false:=f1112.at hw11.cell fun e=>hw11.tne _ e rfl
           have q13:wrO prog 138 w12 wb 2 (.slice a12 (txs'.length+1) c12)=some (put w12 wb (.cells (wiC wd (.slice (some ⟨eb,eo,.none⟩) (empts wd 257).length ec) (.slice a12 (txs'.length+1) c12) (.slice gva gvs11.length gvc) rv q' false) 141 (0,0))):=by
            rw[qZp sz138 h12 hone12 (by simp)];rfl
           have h13:WiAt (put w12 wb (.cells (wiC wd (.slice (some ⟨eb,eo,.none⟩) (empts wd 257).length ec) (.slice a12 (txs'.length+1) c12) (.slice gva gvs11.length gvc) rv q' false) 141 (0,0))) wb wd (.slice (some ⟨eb,eo,.none⟩) (empts wd 257).length ec) (.slice a12 (txs'.length+1) c12) (.slice gva gvs11.length gvc) rv q' false:=qQf h12;have f1213:Fr (fun b=>b=wb) w12 (put w12 wb (.cells (wiC wd (.slice (some ⟨eb,eo,.none⟩) (empts wd 257).length ec) (.slice a12 (txs'.length+1) c12) (.slice gva gvs11.length gvc) rv q' false) 141 (0,0))):=(Fr.refl _ _).put (b:=wb) _ fun _=>rfl;have r13:=h13.row;refine qXh (fun j=>j == 6) [0,1,2,3,4,5,6,7,8,9,10] rfl (by kernel_rfl) (by kernel_rfl) ?_;simp -implicitDefEqProofs only[go_sem,jF,jB,gLa,gLz,gLs,r11d,qQk,rtxd];refine qKi (v:=.slice (some ⟨w11.heap.size,0,.none⟩) 1 1) (w':=w11.drew.alloc (.cells (txC (.slice ka ks.length kc) g (yL ks) nv L R a.isSome vv) 220)) (qKh (K:=8) (by decide) (by decide) (by simp) (by simp) (xs:=txC (.slice ka ks.length kc) g (yL ks) nv L R a.isSome vv) rfl _) (fun _=>Ext.alloc _ _) ?_;simp -implicitDefEqProofs only[go_sem,jF,gLa,gLz,gLs];refine qJj ⟨_,w12,hr12,fun h=>(by cases h),?_⟩
           have c13:IntKind.i64.wrap (((txs'.length+1:Nat):Int) - 1)=((txs'.length:Nat):Int):=by
            have:=qXl (a:=txs'.length+1) (b:=1) (by omega) (by omega)
            rwa [Nat.add_sub_cancel]at this
           simp -implicitDefEqProofs only[go_sem,jF,jB,gLa,gLz,gLs,q13,r13,qQk,c13];generalize put w12 wb (.cells (wiC wd (.slice (some ⟨eb,eo,.none⟩) (empts wd 257).length ec) (.slice a12 (txs'.length+1) c12) (.slice gva gvs11.length gvc) rv q' false) 141 (0,0))=w13 at *;have hb12':∀ b,qQb (.slice a12 (txs'.length+1) c12)=some b→qQb (.slice ta txs'.length tc)=some b∨w11.heap.size≤b:=hb12;have hs911:=f11.size;have hs1112:=f1112.size;have f913:Fr (fun b=>Mut wb (.slice ta txs'.length tc) (.slice gva gvs11.length gvc) b∨b=w0.heap.size) w9 w13:=(((f11.mono fun b _ h=>h.elim .inr fun h=>.inl (.inr (.inr h)):Fr (fun b=>Mut wb (.slice ta txs'.length tc) (.slice gva gvs11.length gvc) b∨b=w0.heap.size) w9 w11)).trans' f1112 fun b _ h=>.inl (.inr (.inl h))).trans' f1213 fun b _ h=>.inl (.inl h)
           have hfin:Fr (Mut wb tv (.slice ga gvs.length gc)) w0 w13:=f09.trans' f913 fun b hb h=>by
            rcases h with (h | h | h) | h
            ·exact .inl h
            ·rcases hbt b h with h | h
             ·exact .inr (.inl h)
             ·omega
            ·rcases hbg b h with h | h
             ·exact .inr (.inr h)
             ·omega
            ·omega
           have hwl11:wb<w11.heap.size:=qQh hw11.cell
           have hv12:∀ b,qQb (.slice a12 (txs'.length+1) c12)=some b→b≠wb∧qQb (.slice gva gvs11.length gvc)≠some b:=fun b hb=>by
            rcases hb12' b hb with h | h
            ·exact⟨hw11.tne b h,hw11.tg b h⟩
            ·exact⟨by omega,fun e=>by have:=(hw11.gvr.lt e).2;omega⟩
           have hnf:NwD u w13 23 nv ((empts wd 257).take (yL ks)++Wit.fill (yL ks) (((empts wd 257).drop (yL ks)).take (g - yL ks)) gl):=by
            have e1:(empts wd 257).take g=(empts wd 257).take (yL ks)++((empts wd 257).drop (yL ks)).take (g - yL ks):=by
             rw[← List.take_add,show yL ks+(g - yL ks)=g by omega]
            rw[e1,Wit.fill_fold (f:=yL ks) gl _ _ (by rw[lTk];omega) fun q hq=>by
             have:=hgh q hq
             rw[lTk,lDr];omega]at n11
            refine ((n11.fr f1112 fun b hb e=>?_).fr f1213 fun b hb e=>?_).back hw9.no.size
            ·have:=(n11.lt hb).1
             have:=(htv9 b e).1;omega
            ·have:=(n11.lt hb).1;omega
           have hvf:NwB u w13 vv (a.getD []):=by
            refine ((n6v.fr f69 fun b hb h=>?_).fr f913 fun b hb h=>?_).back hus
            ·have:=(n6v.lt hb).1
             rcases h with (h | h | h) | h
             ·omega
             ·have:=hb0 b h;omega
             ·have:=hg0 b h;omega
             ·exact hvt b hb h
            ·have h1:=(n6v.lt hb).1
             have h2:=(n6v.lt hb).2
             rcases h with (h | h | h) | h
             ·omega
             ·rcases hbt b h with h | h
              ·have:=hb0 b h;omega
              ·omega
             ·rcases hbg b h with h | h
              ·have:=hg0 b h;omega
              ·omega
             ·exact hvt b hb h
           have hsn:(s.1=none∧ks.length=1)∨(s.1≠none∧a=none):=by
            by_cases h2:1<ks.length
            ·right
             have hx2:x.toNat=2:=by omega
             constructor
             ·unfold Wit.subT2 at hsub
              rw[if_pos h2]at hsub;obtain⟨z,_,hsub⟩:=Option.bind_eq_some_iff.1 hsub;obtain⟨z2,_,rfl⟩:=Option.map_eq_some_iff.1 hsub
              simp
             ·unfold Wit.ansX at hans'
              rw[if_pos hx2]at hans';simp only[oSi,Prod.mk.injEq]at hans';exact hans'.1.symm
            ·left
             unfold Wit.subT2 at hsub;rw[if_neg h2]at hsub;simp only[oSi]at hsub;exact⟨by rw[← hsub],by omega⟩
           unfold XtQ;rw[hpar2];refine⟨hfin,_,_,q',txs'++[(txC (.slice ka ks.length kc) g (yL ks) nv L R a.isSome vv).toList],gvs11,?_,⟨h13,n12.fr f1213 fun b hb e=>(hv12 b hb).1 e,(hw11.gvr.fr f1112 fun b hb e=>hw11.tg b e hb).fr f1213 fun b hb e=>hw11.gne b hb e,hw11.wbu,(hw11.no.trans' f1112 fun b hb e=>by have:=(hw11.txr.lt e).1;omega).trans' f1213 fun b hb e=>by have:=hw11.wbu;omega,fun b hb=>(hv12 b hb).1,hw11.gne,fun b hb=>(hv12 b hb).2⟩,hq9,hrest9,?_,?_,fun b hb=>?_,fun b hb=>?_⟩
           ·congr 2
            show txs'.length=xs.length+(Wit.mkT ks g _ a s.1).size - 1;omega
           ·show TxL u w13 _ _ (xs++Wit.flatT wd xs.length (Wit.mkT ks g _ a s.1))
            rw[Wit.flat_mkT wd xs.length g _ hsn,← zW]
            have tx13:=((tx9.mono (M':=fun b=>(Mut wb (.slice ta txs'.length tc) (.slice gva gvs11.length gvc) b∨b=w0.heap.size)∨(Mut wb (.slice a12 (txs'.length+1) c12) (.slice gva gvs11.length gvc) b∨E b)) fun b hb h=>by
             rcases h with (h | h) | ((h | h | h) | h)
             ·exact .inl h
             ·exact .inr (.inr h)
             ·exact .inl (.inl h)
             ·rcases hb12' b h with h | h
              ·exact .inl (.inr (.inl h))
              ·omega
             ·exact .inl (.inr (.inr h))
             ·exact .inr (.inl h)).fr f913 fun b _ h=>.inl h).mono (M':=fun b=>Mut wb (.slice a12 (txs'.length+1) c12) (.slice gva gvs11.length gvc) b∨E b) fun b _ h=>.inr h
            refine tx13.snoc ⟨.slice ka ks.length kc,nv,vv,?_,hk,hnf,hvf,fun b hb h=>?_,fun b hb h=>?_⟩
            ·rw[← hL,← hR]
            ·have h1:=(n11.lt hb)
             rcases h with (h | h | h) | h
             ·omega
             ·rcases hb12' b h with h | h
              ·have:=(htv9 b h).1;omega
              ·omega
             ·have:=(hgv9 b h).1;omega
             ·have:=hE b h;omega
            ·have h1:=(n6v.lt hb)
             rcases h with (h | h | h) | h
             ·omega
             ·rcases hb12' b h with h | h
              ·rcases hbt b h with h | h
               ·have:=hb0 b h;omega
               ·omega
              ·have:=f69.size;omega
             ·rcases hbg b h with h | h
              ·have:=hg0 b h;omega
              ·omega
             ·have:=hE b h;omega
           ·rw[zW]at gv11;exact gv11
           ·rcases hb12' b hb with h | h
            ·rcases hbt b h with h | h
             ·exact .inl h
             ·exact .inr (by omega)
            ·exact .inr (by have:=f69.size;omega)
           ·rcases hbg b hb with h | h
            ·exact .inl h
            ·exact .inr (by omega)
end R
end Go.V
