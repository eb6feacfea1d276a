/-
  Helpers: RPart, KnowA.
-/
import Derived.Test.YtmenaeggoakppaaGreatDoorP34
import Derived.Test.YtmenaeggoakppaaGreatDoorP20
set_option linter.all false
section
namespace Go.V
open Go.Proofs Sha
set_option maxRecDepth 100000
namespace Wit
theorem over_nil (f : Nat) (ds : List Bs) (h : f ≤ ds.length) : over f ds [] = ds := by unfold over; simp
theorem over_step {f : Nat} {ds near : List Bs} {j : Nat} (hj : j < near.length) (h : f + near.length ≤ ds.length) : (over f ds (near.take j)).set (f + j) (near.getD j []) = over f ds (near.take (j + 1)) := by
  unfold over
  have e1 : (ds.take f).length = f := by rw [List.length_take]; omega
  have e2 : (near.take j).length = j := by rw [List.length_take]; omega
  have e3 : (near.take (j + 1)).length = j + 1 := by rw [List.length_take]; omega
  rw [List.set_append_right _ _ (by omega),e1,Nat.add_sub_cancel_left,List.set_append_right _ _ (by omega),e2,Nat.sub_self,e3,List.drop_eq_getElem_cons (i := f + j) (by omega),List.set_cons_zero,getD_lt _ hj,Nat.add_assoc]
  rw [List.take_succ_eq_append_getElem hj,List.append_assoc]; rfl
theorem layN_le (w : Int) : ∀ (near : List Bs) (h : Nat) (b s : Bs),All32 near → (layN w h b s near).1.length = b.length ∧ (layN w h b s near).2.length ≤ s.length + 32 * near.length
  | [],_,_,_,_ => ⟨rfl,by simp [layN]⟩
  | d :: r,h,b,s,ha => by
    have hd := ha.head
    simp only [layN]
    split
    · have := layN_le w r (h + 1) b s ha.tail
      exact ⟨this.1,by rw [List.length_cons]; omega⟩
    · have := layN_le w r (h + 1) (b.set (h / 8) (b.getD (h / 8) 0 ||| BitVec.ofNat 8 (2 ^ (h % 8)))) (s ++ d) ha.tail
      rw [List.length_set,List.length_append] at this
      exact ⟨this.1,by rw [List.length_cons]; omega⟩
theorem nearT_le (w : Int) (f : Nat) {near : List Bs} (ha : All32 near) : (nearT w f near).length ≤ 32 + 32 * near.length := by
  have := layN_le w near f (List.replicate 32 0) [] ha
  unfold nearT
  rw [List.length_append,this.1]
  simp only [List.length_replicate,List.length_nil] at this ⊢
  omega
end Wit
namespace R
theorem textX {wd : Int} {xs : List Wit.Tx} {i : Nat} {s : Wit.Tw} (hok : s.Ok) (hx : Wit.TxAt wd xs i s) : ∃ x,xs[i]? = some x ∧ x.top = s.top ∧ x.fr = s.fr ∧ x.keys = s.keys ∧ ∀ h,s.fr ≤ h → h < s.top → x.near.getD h [] = s.near.getD (h - s.fr) [] ∧ h < x.near.length := by
  cases s with
  | leaf k top near a => exact ⟨_,hx,rfl,rfl,rfl,fun h h1 h2 => ⟨by simp only [Wit.Tw.near,Wit.Tw.fr,Nat.sub_zero],by have := hok.2.2.1; simp only [Wit.Tw.top] at h2; simp only; omega⟩⟩
  | fork ks f top near l r =>
    obtain ⟨_,_,h,_⟩ := hx
    have hft := hok.2.1
    have htt := hok.2.2.1
    have hl : ((empts wd 257).take f).length = f := by rw [List.length_take,empts_len]; omega
    refine ⟨_,h,rfl,rfl,rfl,fun h h1 h2 => ?_⟩
    simp only [Wit.Tw.near,Wit.Tw.fr,Wit.Tw.top] at *
    refine ⟨?_,by rw [List.length_append,hl,hok.2.2.2.1]; omega⟩
    rw [List.getD_eq_getElem?_getD,List.getD_eq_getElem?_getD,List.getElem?_append_right (by omega),hl]
theorem WtY.texts {u w : World} {wb : Nat} {wd : Int} {xs : List Wit.Tx} (h : WtY u w wb wd xs) (h0 : 0 < xs.length) : ∃ ev tb to tc gv rv q, WiAt w wb wd ev (.slice (some ⟨tb, to, Option.none⟩) xs.length tc) gv rv q false ∧ RdD w ev (empts wd 257) ∧ ∀ i x, xs[i]? = some x → ∃ kv nv vv,
    (∀ w',No w w' → rdO Tryz.prog 220 w' tb (to + i * 8) = some (.agg (txC kv x.top x.fr nv (x.left : Nat) (x.right : Nat) x.ans.isSome vv))) ∧ (∀ w' j (t : Nat),No w w' → aggO Tryz.prog t = some false → j < 8 → rdO Tryz.prog t w' tb (to + i * 8 + j) = (txC kv x.top x.fr nv (x.left : Nat) (x.right : Nat) x.ans.isSome vv)[j]?) ∧
    RdD w kv x.keys ∧ RdD w nv x.near ∧ By w vv (x.ans.getD []) ∧ (txC kv x.top x.fr nv (x.left : Nat) (x.right : Nat) x.ans.isSome vv).all one = true := by
  obtain ⟨x0,hx0⟩ : ∃ x,xs[0]? = some x := ⟨xs[0],List.getElem?_eq_getElem h0⟩
  obtain ⟨ev,tb,to,tc,gv,rv,q,_,_,_,hc,he,_⟩ := h.text hx0
  refine ⟨ev,tb,to,tc,gv,rv,q,hc,he,fun i x hx => ?_⟩
  obtain ⟨ev',tb',to',tc',gv',rv',q',kv,nv,vv,hc',he',r⟩ := h.text hx
  have e := hc.symm.trans hc'
  simp only [wiC,Option.some.injEq,Obj.cells.injEq,Array.mk.injEq,List.cons.injEq,Value.slice.injEq,Addr.mk.injEq] at e
  obtain ⟨⟨_,_,⟨⟨rfl,rfl,_⟩,_,_⟩,_⟩,_⟩ := e
  exact ⟨kv,nv,vv,r⟩
theorem sub_keys {t : Wit.Tw} (h : t.Ok) : ∀ s ∈ Wit.subT t,s.keys.length ≤ t.keys.length := by
  induction t with
  | leaf k top near a =>
    intro s hs
    have : s = .leaf k top near a := by simpa [Wit.subT] using hs
    subst this; exact Nat.le_refl _
  | fork ks f top near l r ihl ihr =>
    obtain ⟨h1,h2,h3,h4,h5,h6,h7,h8,h9,h10,h11,h12,h13,h14⟩ := h
    intro s hs
    simp only [Wit.subT,List.mem_append,List.mem_singleton] at hs
    show s.keys.length ≤ ks.length
    rcases hs with hs | hs | rfl
    · have := ihl h13 s hs; rw [h9,List.length_take] at this; omega
    · have := ihr h14 s hs; rw [h10,List.length_drop] at this; omega
    · exact Nat.le_refl _
def hsI (w0 : World) (kv : Value) (ks : List Bs) (k : Bs) (n : Nat) (vs : List Value) (w : World) : Prop :=
  ∃ (i : Nat),vs = [kv,pt w0.heap.size 0,.int .i64 (i : Nat)] ∧ i ≤ ks.length ∧ n = ks.length - i ∧ k ∉ ks.take i ∧ No w0 w ∧ w.heap[w0.heap.size]? = some (.cells (bl k) 34 (0,0))
theorem has (w0 : World) {kv : Value} {ks : List Bs} (hk : RdD w0 kv ks) {k : Bs} (hkl : k.length = 32) (hl : ks.length ≤ 2 ^ 40) :
    Fn Tryz.prog 78 #[kv,dg k] w0 fun v w' => v = .bool (decide (k ∈ ks)) ∧ No w0 w' := by
  refine Tryz.go78 (by simp) ?_
  obtain ⟨W,hW,f1,k1,s1⟩ := allocs1 w0 (bl k) 34
  obtain ⟨ka,kc,rfl,hkc⟩ := hk.slice
  simp -implicitDefEqProofs only [go_sem,Nat.reduceEqDiff,Nat.reduceBEq,Nat.reduceAdd,gLa,gLz,gLs,Tryz.f78,Value.cells,hW]
  refine loopD [0,3,5] (hsI w0 (.slice ka ks.length kc) ks k) ks.length ⟨0,rfl,by omega,rfl,by simp,f1,k1⟩ ?_
  rintro _ vs w2 g ⟨i,rfl,hi,rfl,hno,f2,k2⟩
  by_cases hlt : i < ks.length
  · have d4 : decide ((i : Int) < ((ks.length : Nat) : Int)) = true := by simp; omega
    have hk4 := hk.fr0 f2
    obtain ⟨b,o,cap,he,_,_⟩ := hk4.pos (by omega)
    cases he
    have q1 := hk4.get (P := Tryz.prog) Tryz.agg34 Tryz.sz34 hlt
    have kl := hk.1.getD hlt
    have y1 : (0 : Int) ≤ (i : Int) ∧ (i : Int) < ((ks.length : Nat) : Int) := by omega
    have rk := rd_d Tryz.agg34 Tryz.sz34 k2 hkl
    have q1d : rdO Tryz.prog 34 w2.drew b (o + i * 32) = some (dg (ks.getD i [])) := q1
    have rkd : rdO Tryz.prog 34 w2.drew w0.heap.size 0 = some (dg k) := rk
    have eq := eqKey kl hkl
    have c2 : IntKind.i64.wrap ((i : Int) + 1) = ((i + 1 : Nat) : Int) := i64add (b := 1) (by omega)
    have htk : ks.take (i + 1) = ks.take i ++ [ks.getD i []] := by rw [List.take_succ_eq_append_getElem hlt,getD_lt _ hlt]
    by_cases he : ks.getD i [] = k
    · have hb : (ks.getD i [] == k) = true := by rw [beq_iff_eq]; exact he
      simp -implicitDefEqProofs only [go_sem,Nat.reduceEqDiff,Nat.reduceBEq,Nat.reduceAdd,gLa,gLz,gLs,d4,y1,and_self,Int.toNat_natCast,q1,q1d,rk,rkd,eq,hb]
      have hm : k ∈ ks := by rw [← he,getD_lt _ hlt]; exact List.getElem_mem _
      rw [decide_eq_true hm]
      exact ⟨rfl,f2.drew⟩
    · have hb : (ks.getD i [] == k) = false := by rw [beq_eq_false_iff_ne]; exact he
      simp -implicitDefEqProofs only [go_sem,Nat.reduceEqDiff,Nat.reduceBEq,Nat.reduceAdd,gLa,gLz,gLs,d4,y1,and_self,Int.toNat_natCast,q1,q1d,rk,rkd,eq,hb,c2]
      exact ⟨ks.length - (i + 1),by omega,i + 1,rfl,by omega,rfl,fun hm => by rw [htk] at hm; rcases List.mem_append.1 hm with hm | hm; exact hno hm; exact he (by simp only [List.mem_singleton] at hm; exact hm.symm),f2.drew,k2⟩
  · have d4 : decide ((i : Int) < ((ks.length : Nat) : Int)) = false := by simp; omega
    obtain rfl : i = ks.length := by omega
    rw [List.take_length] at hno
    simp -implicitDefEqProofs only [go_sem,Nat.reduceEqDiff,Nat.reduceBEq,Nat.reduceAdd,gLa,gLz,gLs,d4]
    rw [decide_eq_false hno]
    exact ⟨rfl,f2⟩
theorem singleR (w0 : World) (wd : Int) {esv dsv vv : Value} {a : Option Bs} {ds : List Bs} (he : RdD w0 esv (empts wd 257)) (hd : RdD w0 dsv ds) (hl : ds.length = 256) (hv : By w0 vv (a.getD [])) (hvl : (a.getD []).length ≤ 256) (hone : one vv = true) :
    Fn Tryz.prog 79 #[esv,.agg #[.bool a.isSome,vv],dsv] w0 fun v w' => NwB w0 w' v (Wit.ansT a ++ Wit.nearT wd 0 ds) ∧ No w0 w' := by
  refine Tryz.go79 (by simp) ?_
  obtain ⟨W,hW,f1,k1,s1⟩ := allocs1 w0 #[.bool a.isSome,vv] 69
  have r1 := rdO_row (P := Tryz.prog) k1
  simp -implicitDefEqProofs only [go_sem,Nat.reduceEqDiff,Nat.reduceBEq,Nat.reduceAdd,gLa,gLz,gLs,Tryz.f79,Value.cells,hW,r1,ldO_one]
  refine contL_call Tryz.pl132 ((answer W (hv.fr0 f1) hvl).mono ?_)
  rintro v2 w2 ⟨n2,f2⟩
  have f02 := f1.trans f2
  simp -implicitDefEqProofs only [go_sem,Nat.reduceEqDiff,Nat.reduceBEq,Nat.reduceAdd,gLa,gLz,gLs]
  refine contL_call Tryz.pl133 ((nearR w2 wd (he.fr0 f02) (hd.fr0 f02) (f := 0) (t := 256) (by decide) (by omega) (by decide)).mono ?_)
  rintro v3 w3 ⟨n3,f3⟩
  rw [List.drop_zero,show 256 - 0 = ds.length by omega,List.take_length] at n3
  simp -implicitDefEqProofs only [go_sem,Nat.reduceEqDiff,Nat.reduceBEq,Nat.reduceAdd,gLa,gLz,gLs]
  have l2 : (Wit.ansT a).length ≤ 300 := by
    cases a with
    | none => simp [Wit.ansT]
    | some v => simp only [Option.getD_some] at hvl; simp [Wit.ansT]; omega
  have l3 : (Wit.nearT wd 0 ds).length ≤ 2 ^ 40 := by
    have := Wit.nearT_le wd 0 hd.1
    omega
  refine contL_call Tryz.pl131 ((joined w3 (n2.fr0 f3).by n3.by (by omega) l3).mono ?_)
  rintro v4 w4 ⟨n4,f4⟩
  simp -implicitDefEqProofs only [go_sem,Nat.reduceEqDiff,Nat.reduceBEq,Nat.reduceAdd,gLa,gLz,gLs]
  exact ⟨n4.back (f02.trans f3).size,(f02.trans f3).trans f4⟩
def nbI (wd : Int) (W : World) (wb kb : Nat) (n : Nat) (vs : List Value) (w : World) : Prop :=
  ∃ (i : Nat) (v : Value),vs = [pt wb 0,pt kb 0,v,.int .i64 (i : Nat)] ∧ i ≤ 256 ∧ n = 256 - i ∧ NwD W w 23 v (empts wd i) ∧ No W w
def nbJ (wd : Int) (W : World) (wb kb : Nat) (k : Bs) (ss : List Wit.Tw) (full : List Bs) (n : Nat) (vs : List Value) (w : World) : Prop :=
  ∃ (i : Nat) (v : Value) (ds : List Bs),vs = [pt wb 0,pt kb 0,v,.int .i64 (i : Nat)] ∧ i ≤ ss.length ∧ n = ss.length - i ∧ NwD W w 23 v ds ∧ ds.length = 256 ∧ (ss.drop i).foldl (Wit.nbS wd k) ds = full ∧ No W w
def nbK (W w3 : World) (wb kb tb i f : Nat) (v : Value) (ds near : List Bs) (n : Nat) (vs : List Value) (w : World) : Prop :=
  ∃ (j : Nat),vs = [pt wb 0,pt kb 0,v,.int .i64 (i : Nat),pt tb 0,.int .i64 ((f + j : Nat) : Int)] ∧ j ≤ near.length ∧ n = near.length - j ∧ NwD W w 23 v (Wit.over f ds (near.take j)) ∧ Fr (fun b => blockOf v = some b) w3 w
set_option maxHeartbeats 4000000 in
theorem neighbours (u w0 : World) (ht : Tabs w0) {wb : Nat} {wd : Int} {t : Wit.Tw} (hY : WtY u w0 wb wd (Wit.flatT wd 0 t)) (hok : t.Ok) (htop : t.top = 256) (hs : t.size ≤ 2 ^ 40) {k : Bs} (hk : k ∈ t.keys) :
    Fn Tryz.prog 80 #[pt wb 0,dg k] w0 fun v w' => NwD w0 w' 23 v (Wit.nbrs wd t k) ∧ No w0 w' := by
  refine Tryz.go80 (by simp) ?_
  have hkl := hok.all k hk
  obtain ⟨W,hW,f1,k1,s1⟩ := allocs1 w0 (bl k) 34
  simp -implicitDefEqProofs only [go_sem,Nat.reduceEqDiff,Nat.reduceBEq,Nat.reduceAdd,gLa,gLz,gLs,Tryz.f80,Value.cells,hW]
  have hlen := Wit.flatT_len wd t 0
  have hsl := Wit.subT_len t
  have hY1 := hY.fr0 f1
  have hx0 : (Wit.flatT wd 0 t)[t.size - 1]? ≠ none := by
    have := t.size_pos
    rw [ne_eq,List.getElem?_eq_none_iff]; omega
  obtain ⟨x0,hx0⟩ := Option.ne_none_iff_exists'.1 hx0
  refine loopD [0,3,5,6] (nbI wd W wb w0.heap.size) 256 ⟨0,_,rfl,by omega,rfl,NwD.nil _ _ _,Fr.refl _ _⟩ ?_
  rintro _ vs w2 g ⟨i,v,rfl,hi,rfl,b2,f2⟩
  by_cases hlt : i < 256
  · have d1 : decide ((i : Int) < 256) = true := by simp; omega
    have c1 : IntKind.i64.wrap ((i : Int) + 1) = ((i + 1 : Nat) : Int) := i64add (b := 1) (by omega)
    obtain ⟨ev,tb,to,tc,gv,rv,q,kv,nv,vv,hc,he,_⟩ := (hY1.fr0 f2).text hx0
    have r2 := hc.row
    obtain ⟨eb,eo,ec,rfl,_,_⟩ := he.pos (by rw [empts_len]; decide)
    have re := he.get (P := Tryz.prog) Tryz.agg23 Tryz.sz23 (i := i) (by rw [empts_len]; omega)
    rw [List.getD_eq_getElem?_getD,empts_at wd 257 (by omega),Option.getD_some] at re
    have y1 : (0 : Int) ≤ (i : Int) ∧ (i : Int) < (((empts wd 257).length : Nat) : Int) := by rw [empts_len]; omega
    have hdi := emptD_len wd i
    simp -implicitDefEqProofs only [go_sem,Nat.reduceEqDiff,Nat.reduceBEq,Nat.reduceAdd,gLa,gLz,gLs,d1,r2,ldO_one,y1,and_self,Int.toNat_natCast,re]
    refine contL_is (v := .slice (some ⟨w2.heap.size,0,Option.none⟩) 1 1) (w' := w2.alloc (.cells (bl (emptD wd i)) 23)) (fill_one2 (y := List.map u8 (List.replicate 32 0)) (by simp) (c := bl (List.replicate 32 0)) (by simp) (d := emptD wd i) hdi _) ?_
    obtain ⟨v3,w3,hr3,b3,f3,g3,h3⟩ := b2.push Tryz.app94_94 hdi (by rw [empts_len]; omega) f2
    rw [← empts_succ] at b3
    simp -implicitDefEqProofs only [go_sem,Nat.reduceEqDiff,Nat.reduceBEq,Nat.reduceAdd,gLa,gLz,gLs]
    refine contL_sem ⟨v3,w3,hr3,?_⟩
    simp -implicitDefEqProofs only [go_sem,Nat.reduceEqDiff,Nat.reduceBEq,Nat.reduceAdd,gLa,gLz,gLs,c1]
    exact ⟨256 - (i + 1),by omega,i + 1,v3,rfl,by omega,rfl,b3,f3⟩
  have d1 : decide ((i : Int) < 256) = false := by simp; omega
  obtain rfl : i = 256 := by omega
  simp -implicitDefEqProofs only [go_sem,Nat.reduceEqDiff,Nat.reduceBEq,Nat.reduceAdd,gLa,gLz,gLs,d1]
  have hfin := Wit.nbS_at wd (k := k) (empts wd 256) hok hk (by rw [htop,empts_len]; exact Nat.le_refl _)
  rw [htop,List.drop_of_length_le (by rw [empts_len]; exact Nat.le_refl _),List.append_nil] at hfin
  generalize hfull : Wit.nbrs wd t k = full at *
  refine loopD [0,3,5,7] (nbJ wd W wb w0.heap.size k (Wit.subT t) full) (Wit.subT t).length ⟨0,v,_,rfl,by omega,rfl,b2,empts_len _ _,hfin,f2⟩ ?_
  clear hfin d1 b2 f2
  rintro _ vs w2 g ⟨i,v,ds,rfl,hi,rfl,b2,hdl,hfo,f2⟩
  have f02 := f1.trans f2
  have hY2 := hY.fr0 f02
  by_cases hlt : i < (Wit.subT t).length
  · have hdrop : (Wit.subT t).drop i = (Wit.subT t)[i] :: (Wit.subT t).drop (i + 1) := List.drop_eq_getElem_cons hlt
    rw [hdrop,List.foldl_cons] at hfo
    have hx := Wit.sub_at wd t [] i hlt
    rw [List.nil_append,List.length_nil,Nat.zero_add] at hx
    have sok := Wit.sub_ok hok _ (List.getElem_mem hlt)
    have d1 : decide ((i : Int) < (((Wit.flatT wd 0 t).length : Nat) : Int)) = true := by simp; omega
    have c1 : IntKind.i64.wrap ((i : Int) + 1) = ((i + 1 : Nat) : Int) := i64add (b := 1) (by omega)
    have y1 : (0 : Int) ≤ (i : Int) ∧ (i : Int) < (((Wit.flatT wd 0 t).length : Nat) : Int) := by omega
    have hsm : (Wit.subT t)[i] ∈ Wit.subT t := List.getElem_mem hlt
    generalize (Wit.subT t)[i] = s at *
    obtain ⟨x,hx',e1,e2,e3,e4⟩ : ∃ x,(Wit.flatT wd 0 t)[i]? = some x ∧ x.top = s.top ∧ x.fr = s.fr ∧ x.keys = s.keys ∧ ∀ h,s.fr ≤ h → h < s.top → x.near.getD h [] = s.near.getD (h - s.fr) [] ∧ h < x.near.length := textX sok hx
    obtain ⟨ev,tb,to,tc,gv,rv,q,hc,he,htx⟩ := hY.texts (by omega)
    obtain ⟨kv,nv,vv,hrt,hrf,hkv,hnv,hvv,hall⟩ := htx i x hx'
    rw [e1,e2] at hrt hall
    rw [e3] at hkv
    have rt := hrt w2 f02
    have rw2 := (hc.no f02).row
    obtain ⟨W3,q3,k3,f3,s3⟩ := allocT w2 (row := txC kv s.top s.fr nv (x.left : Nat) (x.right : Nat) x.ans.isSome vv) rfl hall
    have r3 := rdO_row (P := Tryz.prog) k3
    have f03 := f02.trans f3
    have rk3 := rd_d Tryz.agg34 Tryz.sz34 ((f2.trans f3).at k1 id) hkl
    have hkc : s.keys.length ≤ 2 ^ 40 := by have := sub_keys hok s hsm; have := Wit.size_keys hok; omega
    simp -implicitDefEqProofs only [go_sem,Nat.reduceEqDiff,Nat.reduceBEq,Nat.reduceAdd,gLa,gLz,gLs,rw2,ldO_one,d1,y1,and_self,Int.toNat_natCast,rt,q3,Value.cells,r3,rk3]
    refine contL_call Tryz.pl78 ((has W3 (hkv.fr0 f03) hkl hkc).mono ?_)
    rintro _ w4 ⟨rfl,f4⟩
    have f24 := f3.trans f4
    have b4 := b2.fr0 f24
    by_cases hin : k ∈ s.keys
    · have d2 : (!decide (k ∈ s.keys)) = false := by rw [decide_eq_true hin]; rfl
      have r4 := rdO_row (P := Tryz.prog) (f4.at k3 id)
      have hst := sok.top_le
      have hsf := sok.fr_le
      have hnl := sok.near_len
      simp -implicitDefEqProofs only [go_sem,Nat.reduceEqDiff,Nat.reduceBEq,Nat.reduceAdd,gLa,gLz,gLs,d2,r4,ldO_one]
      have hov : Wit.over s.fr ds (s.near.take 0) = ds := by rw [List.take_zero]; exact Wit.over_nil _ _ (by omega)
      refine loopD [0,3,5,7,8,10] (nbK W w4 wb w0.heap.size w2.heap.size i s.fr v ds s.near) s.near.length ⟨0,rfl,by omega,rfl,by rw [hov]; exact b4,Fr.refl _ _⟩ ?_
      rintro _ vs w5 g ⟨j,rfl,hj,rfl,b5,f5⟩
      have hvb : ∀ b,blockOf v = some b → W.heap.size ≤ b ∧ b < w2.heap.size := fun b hb => b2.lt hb
      have f25 : No W w5 := (f2.trans f24).trans' f5 fun b hb h => by have := (hvb b h).1; omega
      have f05 := f1.trans f25
      have k5 := f5.at (f4.at k3 id) fun h => by have := (hvb _ h).2; omega
      have r5 := rdO_row (P := Tryz.prog) k5
      have hol : (Wit.over s.fr ds (s.near.take j)).length = 256 := by rw [Wit.over_len (by rw [List.length_take]; omega)]; exact hdl
      by_cases hjl : j < s.near.length
      · have d3 : decide ((s.fr + j : Nat) < ((s.top : Nat) : Int)) = true := by simp; omega
        have c2 : IntKind.i64.wrap (((s.fr + j : Nat) : Int) + 1) = ((s.fr + (j + 1) : Nat) : Int) := i64add (b := 1) (by omega)
        obtain ⟨e41,e42⟩ := e4 (s.fr + j) (by omega) (by omega)
        have hnv5 := hnv.fr0 f05
        obtain ⟨nb,no,ncap,rfl,_,_⟩ := hnv5.pos (by omega)
        have rn := hnv5.get (P := Tryz.prog) Tryz.agg23 Tryz.sz23 (i := s.fr + j) e42
        rw [e41,Nat.add_sub_cancel_left] at rn
        have hnn : (s.near.getD j []).length = 32 := sok.near32.getD hjl
        have y2 : (0 : Int) ≤ ((s.fr + j : Nat) : Int) ∧ ((s.fr + j : Nat) : Int) < ((x.near.length : Nat) : Int) := by omega
        have hstep := Wit.over_step (f := s.fr) (ds := ds) hjl (by omega)
        obtain ⟨vb,vo,vcap,rfl,_,_⟩ := b5.rd.pos (by omega)
        obtain ⟨w6,q6,b6,f6⟩ := b5.set Tryz.sz23 (i := s.fr + j) (by omega) hnn
        rw [hstep] at b6
        have y3 : (0 : Int) ≤ ((s.fr + j : Nat) : Int) ∧ ((s.fr + j : Nat) : Int) < (((Wit.over s.fr ds (s.near.take j)).length : Nat) : Int) := by omega
        simp -implicitDefEqProofs only [go_sem,Nat.reduceEqDiff,Nat.reduceBEq,Nat.reduceAdd,gLa,gLz,gLs,r5,ldO_one,d3,y2,y3,and_self,Int.toNat_natCast,rn,q6,c2]
        exact ⟨s.near.length - (j + 1),by omega,j + 1,rfl,by omega,rfl,b6,f5.trans (f6.mono fun b _ h => by subst h; rfl)⟩
      · have d3 : decide ((s.fr + j : Nat) < ((s.top : Nat) : Int)) = false := by simp; omega
        obtain rfl : j = s.near.length := by omega
        rw [List.take_length] at b5
        have hol' : (Wit.over s.fr ds s.near).length = 256 := by rw [List.take_length] at hol; exact hol
        cases s with
        | leaf k' top near a =>
          have hx : (Wit.flatT wd 0 t)[i]? = _ := hx
          rw [hx] at hx'
          simp only [Option.some.injEq] at hx'
          subst hx'
          have d4 : decide (((0 : Nat) : Int) > 0) = false := rfl
          have hnb : Wit.nbS wd k ds (.leaf k' top near a) = Wit.over 0 ds near := if_pos hin
          rw [hnb] at hfo
          have r5 : ∀ (t' : TypeId) (o : Nat),rdO Tryz.prog t' w5 w2.heap.size o = ldO Tryz.prog t' (some (Obj.cells (txC kv top 0 nv (0 : Nat) (0 : Nat) a.isSome vv) 220 (0,0))) o := r5
          have d3 : decide ((((Wit.Tw.leaf k' top near a).fr + (Wit.Tw.leaf k' top near a).near.length : Nat) : Int) < ((top : Nat) : Int)) = false := d3
          simp -implicitDefEqProofs only [go_sem,Nat.reduceEqDiff,Nat.reduceBEq,Nat.reduceAdd,gLa,gLz,gLs,r5,ldO_one,d3,d4,c1]
          exact ⟨(Wit.subT t).length - (i + 1),by omega,i + 1,v,_,rfl,by omega,rfl,b5,hol',hfo,f25⟩
        | fork ks f top near l r =>
          obtain ⟨li,ri,hx,hxl,hxr⟩ := hx
          rw [hx] at hx'
          simp only [Option.some.injEq] at hx'
          subst hx'
          have hfp := sok.f_pos
          obtain ⟨_,_,_,_,_,_,_,_,h9,_,_,_,okl,okr⟩ := id sok
          have d4 : decide (((f : Nat) : Int) > 0) = true := by simp; omega
          have hnb : Wit.nbS wd k ds (.fork ks f top near l r) = (Wit.over f ds near).set (f - 1) (Wit.dig wd Wit.asIs (if k ∈ l.keys then r else l)) := if_pos hin
          rw [hnb] at hfo
          have r5 : ∀ (t' : TypeId) (o : Nat),rdO Tryz.prog t' w5 w2.heap.size o = ldO Tryz.prog t' (some (Obj.cells (txC kv top f nv (li : Nat) (ri : Nat) false vv) 220 (0,0))) o := r5
          have r5d : ∀ (t' : TypeId) (o : Nat),rdO Tryz.prog t' w5.drew w2.heap.size o = _ := r5
          have d3 : decide ((((Wit.Tw.fork ks f top near l r).fr + (Wit.Tw.fork ks f top near l r).near.length : Nat) : Int) < ((top : Nat) : Int)) = false := d3
          have hol' : (Wit.over f ds near).length = 256 := hol'
          have b5 : NwD W w5 23 v (Wit.over f ds near) := b5
          obtain ⟨vb,vo,vcap,rfl,_,_⟩ := b5.rd.pos (by omega)
          obtain ⟨xl,hxl',el1,el2,el3,_⟩ := textX okl hxl
          obtain ⟨kvl,nvl,vvl,_,hrfl,hkvl,_⟩ := htx li xl hxl'
          have hli := (List.getElem?_eq_some_iff.1 hxl').1
          have y4 : (0 : Int) ≤ (li : Int) ∧ (li : Int) < (((Wit.flatT wd 0 t).length : Nat) : Int) := by omega
          have rw5 := (hc.no f05).row
          have rw5d : ∀ t' o,rdO Tryz.prog t' w5.drew wb o = _ := rw5
          have rkl := hrfl w5 0 24 f05 Tryz.agg24 (by decide)
          have rkl : rdO Tryz.prog 24 w5 tb (to + li * 8) = some kvl := rkl
          have rkld : rdO Tryz.prog 24 w5.drew tb (to + li * 8) = some kvl := rkl
          have rk5 := rd_d Tryz.agg34 Tryz.sz34 (f25.at k1 id) hkl
          have rk5d : rdO Tryz.prog 34 w5.drew w0.heap.size 0 = some (dg k) := rk5
          simp -implicitDefEqProofs only [go_sem,Nat.reduceEqDiff,Nat.reduceBEq,Nat.reduceAdd,gLa,gLz,gLs,r5,ldO_one,d3,d4,rw5,rw5d,r5d,y4,and_self,Int.toNat_natCast,rkl,rkld,rk5,rk5d,Nat.add_zero]
          rw [el3] at hkvl
          have hkc2 : l.keys.length ≤ 2 ^ 40 := by rw [h9,List.length_take]; have : ks.length ≤ 2 ^ 40 := hkc; omega
          refine contL_call Tryz.pl78 ((has w5.drew ((hkvl.fr0 f05).fr0 (Fr.refl _ _).drew) hkl hkc2).mono ?_)
          rintro _ w7 ⟨rfl,f7⟩
          have f57 : No w5 w7 := (Fr.refl _ _).drew.trans f7
          have f07 := f05.trans f57
          have k7 := f57.at k5 id
          have r7 : ∀ (t' : TypeId) (o : Nat),rdO Tryz.prog t' w7 w2.heap.size o = ldO Tryz.prog t' (some (Obj.cells (txC kv top f nv (li : Nat) (ri : Nat) false vv) 220 (0,0))) o := rdO_row (P := Tryz.prog) k7
          have c3 : IntKind.i64.wrap (((f : Nat) : Int) - 1) = ((f - 1 : Nat) : Int) := i64sub (b := 1) (by omega) (by omega)
          by_cases hml : k ∈ l.keys
          · rw [if_pos hml] at hfo
            rw [decide_eq_true hml]
            simp -implicitDefEqProofs only [go_sem,Nat.reduceEqDiff,Nat.reduceBEq,Nat.reduceAdd,gLa,gLz,gLs,r7,ldO_one]
            refine den_ext (fun j => j == 6) [0,1,2,3,4,5,6,7,8] rfl (by kernel_rfl) (by kernel_rfl) ?_
            have r7d : ∀ t o,rdO Tryz.prog t w7.drew w2.heap.size o = _ := r7
            simp -implicitDefEqProofs only [go_sem,Nat.reduceEqDiff,Nat.reduceBEq,Nat.reduceAdd,gLa,gLz,gLs,r7,r7d,ldO_one,c3,ft_beq,tf_beq,beq_self_eq_true]
            refine contLX_call Tryz.pl134 ((digest u (cv := .slice Option.none 0 0) (cs := []) (by omega) ⟨by simp,fun c h => by cases h⟩ (ht.no f07.drew) (hY.fr0 f07.drew) okr hxr (CsR.nil _)).mono ?_)
            rintro _ w8 ⟨rfl,f8⟩
            rw [Wit.saysC_nil]
            refine ⟨fun _ => Fr.ext f8,?_⟩
            have hdd : (Wit.dig wd Wit.asIs r).length = 32 := Wit.dig_len _ _ _
            obtain ⟨w9,q9,b9,f9⟩ := ((b5.fr0 f57.drew).fr0 f8).set Tryz.sz23 (i := f - 1) (by omega) hdd
            have y5 : (0 : Int) ≤ ((f - 1 : Nat) : Int) ∧ ((f - 1 : Nat) : Int) < (((Wit.over f ds near).length : Nat) : Int) := by omega
            simp -implicitDefEqProofs only [go_sem,Nat.reduceEqDiff,Nat.reduceBEq,Nat.reduceAdd,gLa,gLz,gLs,y5,and_self,Int.toNat_natCast,q9,ft_beq,tf_beq,beq_self_eq_true,c1]
            refine ⟨(Wit.subT t).length - (i + 1),by omega,i + 1,_,_,rfl,by omega,rfl,b9,by rw [List.length_set]; exact hol',hfo,(((f25.trans f57.drew).trans f8).trans' f9 fun b hb h => by have := (hvb b (by rw [h]; rfl)).1; omega)⟩
          · rw [if_neg hml] at hfo
            rw [decide_eq_false hml]
            simp -implicitDefEqProofs only [go_sem,Nat.reduceEqDiff,Nat.reduceBEq,Nat.reduceAdd,gLa,gLz,gLs,r7,ldO_one]
            refine den_ext (fun j => j == 6) [0,1,2,3,4,5,6,7,8] rfl (by kernel_rfl) (by kernel_rfl) ?_
            have r7d : ∀ t o,rdO Tryz.prog t w7.drew w2.heap.size o = _ := r7
            simp -implicitDefEqProofs only [go_sem,Nat.reduceEqDiff,Nat.reduceBEq,Nat.reduceAdd,gLa,gLz,gLs,r7,r7d,ldO_one,c3,ft_beq,tf_beq,beq_self_eq_true]
            refine contLX_call Tryz.pl134 ((digest u (cv := .slice Option.none 0 0) (cs := []) (by omega) ⟨by simp,fun c h => by cases h⟩ (ht.no f07.drew) (hY.fr0 f07.drew) okl hxl (CsR.nil _)).mono ?_)
            rintro _ w8 ⟨rfl,f8⟩
            rw [Wit.saysC_nil]
            refine ⟨fun _ => Fr.ext f8,?_⟩
            have hdd : (Wit.dig wd Wit.asIs l).length = 32 := Wit.dig_len _ _ _
            obtain ⟨w9,q9,b9,f9⟩ := ((b5.fr0 f57.drew).fr0 f8).set Tryz.sz23 (i := f - 1) (by omega) hdd
            have y5 : (0 : Int) ≤ ((f - 1 : Nat) : Int) ∧ ((f - 1 : Nat) : Int) < (((Wit.over f ds near).length : Nat) : Int) := by omega
            simp -implicitDefEqProofs only [go_sem,Nat.reduceEqDiff,Nat.reduceBEq,Nat.reduceAdd,gLa,gLz,gLs,y5,and_self,Int.toNat_natCast,q9,ft_beq,tf_beq,beq_self_eq_true,c1]
            refine ⟨(Wit.subT t).length - (i + 1),by omega,i + 1,_,_,rfl,by omega,rfl,b9,by rw [List.length_set]; exact hol',hfo,(((f25.trans f57.drew).trans f8).trans' f9 fun b hb h => by have := (hvb b (by rw [h]; rfl)).1; omega)⟩
    · have d2 : (!decide (k ∈ s.keys)) = true := by rw [decide_eq_false hin]; rfl
      have hnb : Wit.nbS wd k ds s = ds := by cases s <;> exact if_neg hin
      rw [hnb] at hfo
      simp -implicitDefEqProofs only [go_sem,Nat.reduceEqDiff,Nat.reduceBEq,Nat.reduceAdd,gLa,gLz,gLs,d2,c1]
      exact ⟨(Wit.subT t).length - (i + 1),by omega,i + 1,v,ds,rfl,by omega,rfl,b4,hdl,hfo,f2.trans f24⟩
  · obtain rfl : i = (Wit.subT t).length := by omega
    rw [List.drop_length] at hfo
    have hfo : ds = full := hfo
    subst hfo
    obtain ⟨ev,rv,tv,gv,q,txs,gvs,h2,h3,h4⟩ := id hY2
    obtain ⟨ta,tc,rfl,_⟩ := h3.txr.rd.slice
    have r1 := h3.cell.row
    have htl : txs.length = (Wit.flatT wd 0 t).length := h4.1
    have d1 : decide ((((Wit.subT t).length : Nat) : Int) < ((txs.length : Nat) : Int)) = false := by rw [htl,hlen,hsl]; simp
    simp -implicitDefEqProofs only [go_sem,Nat.reduceEqDiff,Nat.reduceBEq,Nat.reduceAdd,gLa,gLz,gLs,r1,ldO_one,d1]
    exact ⟨b2.back f1.size,f02⟩
set_option maxHeartbeats 1000000 in
theorem partR (w0 : World) (ht : Tabs w0) (wd : Int) {kv rawv : Value} {ks : List Bs} {raw : Bs} (hk : RdD w0 kv ks) (hr : By w0 rawv raw) (hrl : raw.length ≤ 2 ^ 50) {k : Bs} (hkl : k.length = 32) :
    Fn Tryz.prog 40 #[.int .i64 wd,kv,rawv,dg k] w0 (BsQ w0 (Wit.partP wd ks raw k)) := by
  refine Tryz.go40 (by simp) ?_
  obtain ⟨W,hW,f1,k1,s1⟩ := allocs1 w0 (bl k) 34
  by_cases hw : wd < 1 ∨ 32 < wd
  · have hvp : Wit.partP wd ks raw k = .error 1 := by unfold Wit.partP Wit.sortW; rw [if_pos hw]
    rw [hvp]
    by_cases h1 : wd < 1
    · have d1 : decide (wd < 1) = true := decide_eq_true h1
      simp -implicitDefEqProofs only [go_sem,Nat.reduceEqDiff,Nat.reduceBEq,Nat.reduceAdd,gLa,gLz,gLs,Tryz.f40,Value.cells,hW,d1,ft_beq,tf_beq,beq_self_eq_true]
      exact ⟨f1,rfl⟩
    · have d1 : decide (wd < 1) = false := decide_eq_false h1
      have d2 : decide (wd > 32) = true := decide_eq_true (by omega)
      simp -implicitDefEqProofs only [go_sem,Nat.reduceEqDiff,Nat.reduceBEq,Nat.reduceAdd,gLa,gLz,gLs,Tryz.f40,Value.cells,hW,d1,d2,ft_beq,tf_beq,beq_self_eq_true]
      exact ⟨f1,rfl⟩
  have hsw : Wit.sortW wd ks = Wit.sortE ks := if_neg hw
  have d1 : decide (wd < 1) = false := decide_eq_false (by omega)
  have d2 : decide (wd > 32) = false := decide_eq_false (by omega)
  obtain ⟨Wn,hWn⟩ : ∃ n : Nat,wd = n := ⟨wd.toNat,by omega⟩
  simp -implicitDefEqProofs only [go_sem,Nat.reduceEqDiff,Nat.reduceBEq,Nat.reduceAdd,gLa,gLz,gLs,Tryz.f40,Value.cells,hW,d1,d2,ft_beq,tf_beq,beq_self_eq_true]
  refine contL_call Tryz.pl72 ((sorted W (hk.fr0 f1)).mono ?_)
  rintro r w2 ⟨f2,h2⟩
  have f02 := f1.trans f2
  cases hs : Wit.sortE ks with
  | error e =>
    rw [hs] at h2
    subst h2
    have he : (e != 0) = true := by
      unfold Wit.sortE at hs
      split at hs
      · cases hs; rfl
      · split at hs
        · cases hs
        · cases hs; rfl
    have hvp : Wit.partP wd ks raw k = .error e := by unfold Wit.partP; rw [hsw,hs]
    rw [hvp]
    simp -implicitDefEqProofs only [go_sem,Nat.reduceEqDiff,Nat.reduceBEq,Nat.reduceAdd,gLa,gLz,gLs,he]
    exact ⟨f02,rfl⟩
  | ok l =>
    rw [hs] at h2
    obtain ⟨lv,rfl,n2⟩ := h2
    obtain ⟨asc,l32,hlen,hl64,hperm⟩ := Wit.sortE_ok hk.1 hs
    have hvp : Wit.partP wd ks raw k = match Wit.form wd l raw with
        | .error e => .error e
        | .ok none => .error 160
        | .ok (some t) => if k ∈ l then .ok (Wit.txt wd (Wit.part wd t k)) else .error 160 := by unfold Wit.partP; rw [hsw,hs]; rfl
    simp -implicitDefEqProofs only [go_sem,Nat.reduceEqDiff,Nat.reduceBEq,Nat.reduceAdd,gLa,gLz,gLs,bne_self_eq_false]
    refine contL_call Tryz.pl77 ((formR w2 (ht.no f02) hWn (by omega) n2.rd (hr.fr0 f02) asc hl64 hrl).mono ?_)
    rintro r w3 ⟨f3,h3⟩
    have f03 := f02.trans f3
    have n3 := n2.fr0 f3
    have r3 := rd_d Tryz.agg34 Tryz.sz34 ((f2.trans f3).at k1 id) hkl
    cases hf : Wit.form wd l raw with
    | error e =>
      rw [hf] at h3 hvp
      subst h3
      have he : (e != 0) = true := by rw [bne,form_err hf]; rfl
      rw [hvp]
      simp -implicitDefEqProofs only [go_sem,Nat.reduceEqDiff,Nat.reduceBEq,Nat.reduceAdd,gLa,gLz,gLs,he]
      exact ⟨f03,rfl⟩
    | ok o =>
      rw [hf] at h3 hvp
      cases o with
      | none =>
        obtain ⟨wb,rfl,_⟩ := h3
        have hl0 : l = [] := Wit.underP_none (w := wd) (root := []) (raw := raw) (by unfold Wit.underP; rw [hf])
        subst hl0
        simp -implicitDefEqProofs only [go_sem,Nat.reduceEqDiff,Nat.reduceBEq,Nat.reduceAdd,gLa,gLz,gLs,bne_self_eq_false,r3]
        refine contL_call Tryz.pl78 ((has w3 n3.rd hkl (by simp)).mono ?_)
        rintro _ w4 ⟨rfl,f4⟩
        have d : (!decide (k ∈ ([] : List Bs))) = true := by simp
        rw [hvp]
        simp -implicitDefEqProofs only [go_sem,Nat.reduceEqDiff,Nat.reduceBEq,Nat.reduceAdd,gLa,gLz,gLs,d]
        exact ⟨f03.trans f4,rfl⟩
      | some t =>
        obtain ⟨wb,rfl,hX⟩ := h3
        obtain ⟨u,_,hY⟩ := hX.y
        obtain ⟨hok,hkeys,htop,_⟩ := Wit.form_ok asc l32 hf
        have hsz : t.size ≤ 2 ^ 40 := by have := Wit.size_keys hok; rw [hkeys] at this; omega
        simp -implicitDefEqProofs only [go_sem,Nat.reduceEqDiff,Nat.reduceBEq,Nat.reduceAdd,gLa,gLz,gLs,bne_self_eq_false,r3]
        refine contL_call Tryz.pl78 ((has w3 n3.rd hkl (by omega)).mono ?_)
        rintro _ w4 ⟨rfl,f4⟩
        have f04 := f03.trans f4
        by_cases hm : k ∈ l
        · have d : (!decide (k ∈ l)) = false := by rw [decide_eq_true hm]; rfl
          have hvp : Wit.partP wd ks raw k = .ok (Wit.txt wd (Wit.part wd t k)) := hvp.trans (if_pos hm)
          rw [hvp]
          have hkm : k ∈ t.keys := by rw [hkeys]; exact hm
          have hlen := Wit.flatT_len wd t 0
          have hsp := t.size_pos
          obtain ⟨ev,tb,to,tc,gv,rv,q,hc,he,_⟩ := (hY.fr0 f4).texts (by omega)
          simp -implicitDefEqProofs only [go_sem,Nat.reduceEqDiff,Nat.reduceBEq,Nat.reduceAdd,gLa,gLz,gLs,d]
          refine den_ext (fun j => j == 6 || j == 9 || j == 10) [0,1,2,3,4,5,7,8,6,9,10,11,12] rfl (by kernel_rfl) (by kernel_rfl) ?_
          have rw4 := hc.row
          have rw4d : ∀ t' o,rdO Tryz.prog t' w4.drew wb o = _ := rw4
          have r4 := rd_d Tryz.agg34 Tryz.sz34 (((f2.trans f3).trans f4).at k1 id) hkl
          have r4d : rdO Tryz.prog 34 w4.drew w0.heap.size 0 = some (dg k) := r4
          simp -implicitDefEqProofs only [go_sem,Nat.reduceEqDiff,Nat.reduceBEq,Nat.reduceAdd,gLa,gLz,gLs,rw4,rw4d,ldO_one,r4,r4d,ft_beq,tf_beq,beq_self_eq_true]
          refine contLX_call Tryz.pl74 ((wof u w4.drew ((hY.fr0 f4).fr0 (Fr.refl _ _).drew) hok hsz hkm).mono ?_)
          rintro _ w5 ⟨f5,vv,rfl,hone,n5⟩
          refine ⟨fun _ => Fr.ext f5,?_⟩
          have f45 : No w4 w5 := (Fr.refl _ _).drew.trans f5
          simp -implicitDefEqProofs only [go_sem,Nat.reduceEqDiff,Nat.reduceBEq,Nat.reduceAdd,gLa,gLz,gLs,ft_beq,tf_beq,beq_self_eq_true]
          refine contLX_call Tryz.pl80 ((neighbours u w5 (ht.no (f04.trans f45)) ((hY.fr0 f4).fr0 f45) hok htop hsz hkm).mono ?_)
          rintro nv w6 ⟨n6,f6⟩
          refine ⟨fun _ => Fr.ext f6,?_⟩
          have hal := Wit.at_len k hok
          simp -implicitDefEqProofs only [go_sem,Nat.reduceEqDiff,Nat.reduceBEq,Nat.reduceAdd,gLa,gLz,gLs,ft_beq,tf_beq,beq_self_eq_true]
          refine contLX_call Tryz.pl79 ((singleR w6 wd ((he.fr0 f45).fr0 f6) n6.rd (by rw [Wit.nbrs_len wd k hok,htop]) (n5.by.fr0 f6) (by
            cases hta : t.at k with
            | none => simp
            | some v => have := hal v hta; simp only [Option.getD_some]; omega) hone).mono ?_)
          rintro v w7 ⟨n7,f7⟩
          refine ⟨fun _ => Fr.ext f7,?_⟩
          have f47 := (f45.trans f6).trans f7
          simp -implicitDefEqProofs only [go_sem,Nat.reduceEqDiff,Nat.reduceBEq,Nat.reduceAdd,gLa,gLz,gLs,ft_beq,tf_beq,beq_self_eq_true]
          exact ⟨f04.trans f47,v,rfl,n7.back (f04.trans (f45.trans f6)).size⟩
        · have d : (!decide (k ∈ l)) = true := by rw [decide_eq_false hm]; rfl
          have hvp : Wit.partP wd ks raw k = .error 160 := hvp.trans (if_neg hm)
          rw [hvp]
          simp -implicitDefEqProofs only [go_sem,Nat.reduceEqDiff,Nat.reduceBEq,Nat.reduceAdd,gLa,gLz,gLs,d]
          exact ⟨f04,rfl⟩
end R
end Go.V
end
section
namespace Go.V
open Go.Proofs Sha
set_option maxRecDepth 100000
theorem RdR.cutV {w : World} {k n cap : Nat} {a : Option Addr} {rows : Rows} (h : RdR w k (.slice a n cap) rows) {l m : Nat} (hl : l ≤ m) (hm : m ≤ n) (hn : rows.length = n) : RdR w k (V.cutV k a cap l m) ((rows.drop l).take (m - l)) := by
  subst hn
  refine ⟨fun r hr => h.1 r (List.mem_of_mem_drop (List.mem_of_mem_take hr)),?_⟩
  have e : ((rows.drop l).take (m - l)).length = m - l := by rw [List.length_take,List.length_drop]; omega
  have hfl : ∀ (l : Rows) (n : Nat),RowsOk k l → (l.flatten).take (n * k) = (l.take n).flatten ∧ (l.flatten).drop (n * k) = (l.drop n).flatten := by
    intro l
    induction l with
    | nil => intro n _; simp
    | cons r l ih =>
      intro n ho
      have hr := (ho r (by simp)).1
      cases n with
      | zero => simp
      | succ n =>
        obtain ⟨i1,i2⟩ := ih n ho.tail
        have e1 : (n + 1) * k = r.length + n * k := by rw [hr,Nat.add_mul]; omega
        simp only [List.flatten_cons,List.take_succ_cons,List.drop_succ_cons]
        rw [e1]
        constructor
        · rw [List.take_append,List.take_of_length_le (by omega),Nat.add_sub_cancel_left,i1]
        · rw [List.drop_append,List.drop_of_length_le (by omega),Nat.add_sub_cancel_left,i2,List.nil_append]
  have hd : RowsOk k (rows.drop l) := fun r hr => h.1 r (List.mem_of_mem_drop hr)
  rw [e,← (hfl _ _ hd).1,← (hfl _ _ h.1).2]
  exact Rd.cutV h.2 hl hm
/-- entries of a map in memory -/
def enRow (c : Bs × Bs) (vv : Value) : List Value := c.1.map u8 ++ [vv]
def EnR (w : World) (v : Value) (es : List (Bs × Bs)) : Prop := ∃ rows,RdR w 33 v rows ∧ rows.length = es.length ∧ ∀ i (h : i < rows.length) (h' : i < es.length),∃ vv,rows[i] = enRow es[i] vv ∧ es[i].1.length = 32 ∧ one vv = true ∧ By w vv es[i].2
theorem EnR.fr0 {w w' : World} {v : Value} {es : List (Bs × Bs)} (h : EnR w v es) (k : No w w') : EnR w' v es := by
  obtain ⟨rows,h1,h2,h3⟩ := h
  refine ⟨rows,h1.fr0 k,h2,fun i a b => ?_⟩
  obtain ⟨vv,e,l,o,y⟩ := h3 i a b
  exact ⟨vv,e,l,o,y.fr0 k⟩
theorem EnR.slice {w : World} {v : Value} {es : List (Bs × Bs)} (h : EnR w v es) : ∃ a cap,v = .slice a es.length cap ∧ es.length ≤ cap := by
  obtain ⟨rows,h1,h2,_⟩ := h
  rw [← h2]; exact h1.slice
theorem EnR.cutV {w : World} {a : Option Addr} {n cap : Nat} {es : List (Bs × Bs)} (h : EnR w (.slice a n cap) es) {l m : Nat} (hl : l ≤ m) (hm : m ≤ n) (hn : es.length = n) : EnR w (V.cutV 33 a cap l m) ((es.drop l).take (m - l)) := by
  obtain ⟨rows,h1,h2,h3⟩ := h
  refine ⟨_,h1.cutV hl hm (by omega),by simp [h2],fun i a b => ?_⟩
  simp only [List.getElem_take,List.getElem_drop]
  rw [List.length_take,List.length_drop] at a b
  exact h3 (l + i) (by omega) (by omega)
/-- one entry -/
theorem EnR.at {w : World} {v : Value} {es : List (Bs × Bs)} (h : EnR w v es) {i : Nat} (hi : i < es.length) : ∃ b o cap vv, v = .slice (some ⟨b, o, Option.none⟩) es.length cap ∧ es.length ≤ cap ∧ es[i].1.length = 32 ∧ one vv = true ∧ By w vv es[i].2 ∧
    ∀ w',No w w' → rdO Tryz.prog 34 w' b (o + i * 33) = some (dg es[i].1) ∧ rdO Tryz.prog 25 w' b (o + i * 33 + 32) = some vv ∧ rdO Tryz.prog 65 w' b (o + i * 33) = some (.agg (enRow es[i] vv).toArray) := by
  obtain ⟨rows,hR,h2,h3⟩ := h
  have hir : i < rows.length := by omega
  obtain ⟨vv,he,hl,ho,hb⟩ := h3 i hir hi
  obtain ⟨b,o,cap,rfl,hc⟩ := hR.pos (by decide) (by omega)
  refine ⟨b,o,cap,vv,by rw [h2],by omega,hl,ho,hb,fun w' k => ⟨?_,?_,?_⟩⟩
  · refine (hR.fr0 k).sub Tryz.agg34 Tryz.sz34 (by decide) hir (j := 0) (by decide) (xs := es[i].1.map u8) (by simp [hl]) fun q hq => ?_
    rw [he,Nat.zero_add,enRow,List.getElem?_append_left (by simp [hl]; omega)]
  · refine (hR.fr0 k).fld Tryz.agg25 hir (by decide) ?_
    rw [he,enRow,List.getElem?_append_right (by simp [hl])]; simp [hl]
  · rw [← he]; exact (hR.fr0 k).get Tryz.agg65 Tryz.sz65 (by decide) hir
namespace R
def cwI (w0 : World) (wd : Int) (esv : Value) (k full : Bs) (n : Nat) (m : Nat) (vs : List Value) (w : World) : Prop :=
  ∃ (h : Nat) (d : Bs),vs = [esv,.int .i64 wd,pt w0.heap.size 0,pt (w0.heap.size + 1) 0,pt (w0.heap.size + 2) 0,.int .i64 (n : Nat),.int .i64 (h : Nat)] ∧ h ≤ n ∧ m = n - h ∧ d.length = 32 ∧ full = climb wd k h d (((empts wd 257).drop h).take (n - h)) ∧
    w.heap[w0.heap.size]? = some (.cells (bl k) 34 (0,0)) ∧ w.heap[w0.heap.size + 1]? = some (.cells (bl d) 23 (0,0)) ∧ w.heap[w0.heap.size + 2]? = some (.cells (bl (List.replicate 32 0)) 23 (0,0)) ∧ No w0 w
set_option maxHeartbeats 1000000 in
theorem climbWith (w0 : World) (ht : Tabs w0) (wd : Int) {esv : Value} (he : RdD w0 esv (empts wd 257)) {k : Bs} (hk : k.length = 32) {d : Bs} (hd : d.length = 32) {n : Nat} (hn : n ≤ 256) :
    Fn Tryz.prog 102 #[esv,.int .i64 wd,dg k,.int .i64 0,dg d,.int .i64 (n : Nat)] w0 fun v w' => v = dg (climb wd k 0 (cutD wd d) ((empts wd 257).take n)) ∧ No w0 w' := by
  refine Tryz.go102 (by simp) ?_
  obtain ⟨W,hW,f1,k1,k2,k3,s1⟩ := allocs3 w0 (bl k) 34 (bl d) 23 (bl (List.replicate 32 0)) 23
  simp -implicitDefEqProofs only [go_sem,Nat.reduceEqDiff,Nat.reduceBEq,Nat.reduceAdd,gLa,gLz,gLs,Tryz.f102,Value.cells,bl_zero,hW]
  refine contL_call Tryz.pl164 ((within W 0 0 256 (by decide)).mono ?_)
  rintro _ w2 ⟨rfl,rfl⟩
  simp -implicitDefEqProofs only [go_sem,Nat.reduceEqDiff,Nat.reduceBEq,Nat.reduceAdd,gLa,gLz,gLs]
  refine contL_call Tryz.pl164 ((within w2 n 0 256 (by decide)).mono ?_)
  rintro _ w3 ⟨rfl,rfl⟩
  have m1 : max (0 : Int) (min 0 256) = ((0 : Nat) : Int) := rfl
  have m2 : max (0 : Int) (min (n : Int) 256) = (n : Int) := by omega
  have r3 := rd_d Tryz.agg23 Tryz.sz23 k2 hd
  simp -implicitDefEqProofs only [go_sem,Nat.reduceEqDiff,Nat.reduceBEq,Nat.reduceAdd,gLa,gLz,gLs,r3,m1,m2]
  refine contL_call Tryz.pl163 ((dcut w3 wd hd).mono ?_)
  rintro _ w4 ⟨rfl,f4⟩
  have lc := cutD_len wd d
  have q5 := wr_d Tryz.sz23 (f4.at k2 id) hd lc
  have k5 := put_at (o := .cells (bl (cutD wd d)) 23 (0,0)) (f4.at k2 id)
  have k51 := put_off (b := w0.heap.size + 1) (o := .cells (bl (cutD wd d)) 23 (0,0)) (f4.at k1 id) (by omega)
  have k53 := put_off (b := w0.heap.size + 1) (o := .cells (bl (cutD wd d)) 23 (0,0)) (f4.at k3 id) (by omega)
  have f5 : No w0 (put w4 (w0.heap.size + 1) (.cells (bl (cutD wd d)) 23 (0,0))) := (f1.trans f4).put (b := w0.heap.size + 1) _ fun h => by omega
  simp -implicitDefEqProofs only [go_sem,Nat.reduceEqDiff,Nat.reduceBEq,Nat.reduceAdd,gLa,gLz,gLs,q5]
  generalize put w4 (w0.heap.size + 1) (.cells (bl (cutD wd d)) 23 (0,0)) = w5 at *
  generalize hfull : climb wd k 0 (cutD wd d) ((empts wd 257).take n) = full
  refine loopD [0,1,8,10,12,14,15] (cwI w0 wd esv k full n) n ⟨0,cutD wd d,rfl,by omega,rfl,lc,by rw [List.drop_zero,Nat.sub_zero,hfull],k51,k5,k53,f5⟩ ?_
  clear r3 q5 k5 k51 k53 f5 f4 hfull
  rintro _ vs w6 g ⟨h,x,rfl,hh,rfl,hx,hf,j1,j2,j3,f6⟩
  by_cases hlt : h < n
  · have d1 : decide ((h : Int) < (n : Int)) = true := by simp; omega
    have c1 : IntKind.i64.wrap ((h : Int) + 1) = ((h + 1 : Nat) : Int) := i64add (b := 1) (by omega)
    have c2 : IntKind.i64.wrap (255 - (h : Int)) = ((255 - h : Nat) : Int) := i64sub (a := 255) (by omega) (by omega)
    have rk := rd_d Tryz.agg34 Tryz.sz34 j1 hk
    simp -implicitDefEqProofs only [go_sem,Nat.reduceEqDiff,Nat.reduceBEq,Nat.reduceAdd,gLa,gLz,gLs,d1,rk,c2]
    refine contL_call Tryz.pl165 ((bit w6 hk (i := 255 - h) (by omega)).mono ?_)
    rintro _ w7 ⟨rfl,f7⟩
    have he7 := he.fr0 (f6.trans f7)
    obtain ⟨eb,eo,ec,rfl,_,_⟩ := he7.pos (by rw [empts_len]; decide)
    have re := he7.get (P := Tryz.prog) Tryz.agg23 Tryz.sz23 (i := h) (by rw [empts_len]; omega)
    rw [List.getD_eq_getElem?_getD,empts_at wd 257 (by omega),Option.getD_some] at re
    have red : rdO Tryz.prog 23 w7.drew eb (eo + h * 32) = _ := re
    have y1 : (0 : Int) ≤ (h : Int) ∧ (h : Int) < (((empts wd 257).length : Nat) : Int) := by rw [empts_len]; omega
    have hdh := emptD_len wd h
    have k71 := f7.at j1 id
    have k72 := f7.at j2 id
    have k73 := f7.at j3 id
    have rd7 := rd_d Tryz.agg23 Tryz.sz23 k72 hx
    have rd7d : rdO Tryz.prog 23 w7.drew (w0.heap.size + 1) 0 = _ := rd7
    have hst : ((empts wd 257).drop h).take (n - h) = emptD wd h :: ((empts wd 257).drop (h + 1)).take (n - (h + 1)) := by
      rw [List.drop_eq_getElem_cons (by rw [empts_len]; omega),show n - h = (n - (h + 1)) + 1 by omega,List.take_succ_cons]
      congr 1
      have := empts_at wd 257 (i := h) (by omega)
      rw [List.getElem?_eq_getElem (by rw [empts_len]; omega)] at this
      exact Option.some.inj this
    rw [hst,climb] at hf
    unfold up at hf
    unfold kb
    by_cases hbit : kbit k (255 - h) = true
    · rw [if_pos hbit] at hf
      rw [if_pos hbit]
      have d0 : ((1 : Int) == 0) = false := rfl
      simp -implicitDefEqProofs only [go_sem,Nat.reduceEqDiff,Nat.reduceBEq,Nat.reduceAdd,gLa,gLz,gLs,d0,y1,and_self,Int.toNat_natCast,re,red,rd7,rd7d]
      refine contL_call Tryz.pl100 ((branch w7.drew (ht.no (f6.trans f7).drew) wd hdh hx).mono ?_)
      rintro _ w8 ⟨rfl,f8⟩
      have lb : (branchD wd (emptD wd h) x).length = 32 := branchD_len _ _ _
      have f78 : No w7 w8 := (Fr.refl _ _).drew.trans f8
      have q9 := wr_d Tryz.sz23 (f78.at k72 id) hx lb
      simp -implicitDefEqProofs only [go_sem,Nat.reduceEqDiff,Nat.reduceBEq,Nat.reduceAdd,gLa,gLz,gLs,q9,c1]
      exact ⟨n - (h + 1),by omega,h + 1,_,rfl,by omega,rfl,lb,hf,put_off (f78.at k71 id) (by omega),put_at (f78.at k72 id),put_off (f78.at k73 id) (by omega),((f6.trans f7).trans f78).put (b := w0.heap.size + 1) _ fun h => by omega⟩
    · rw [if_neg hbit] at hf
      rw [if_neg hbit]
      have d0 : ((0 : Int) == 0) = true := rfl
      simp -implicitDefEqProofs only [go_sem,Nat.reduceEqDiff,Nat.reduceBEq,Nat.reduceAdd,gLa,gLz,gLs,d0,y1,and_self,Int.toNat_natCast,re,red,rd7,rd7d]
      refine contL_call Tryz.pl100 ((branch w7.drew (ht.no (f6.trans f7).drew) wd hx hdh).mono ?_)
      rintro _ w8 ⟨rfl,f8⟩
      have lb : (branchD wd x (emptD wd h)).length = 32 := branchD_len _ _ _
      have f78 : No w7 w8 := (Fr.refl _ _).drew.trans f8
      have q9 := wr_d Tryz.sz23 (f78.at k72 id) hx lb
      simp -implicitDefEqProofs only [go_sem,Nat.reduceEqDiff,Nat.reduceBEq,Nat.reduceAdd,gLa,gLz,gLs,q9,c1]
      exact ⟨n - (h + 1),by omega,h + 1,_,rfl,by omega,rfl,lb,hf,put_off (f78.at k71 id) (by omega),put_at (f78.at k72 id),put_off (f78.at k73 id) (by omega),((f6.trans f7).trans f78).put (b := w0.heap.size + 1) _ fun h => by omega⟩
  · have d1 : decide ((h : Int) < (n : Int)) = false := by simp; omega
    obtain rfl : h = n := by omega
    rw [Nat.sub_self,List.take_zero] at hf
    have hf : full = x := hf
    subst hf
    have rd6 := rd_d Tryz.agg23 Tryz.sz23 j2 hx
    have q7 := wr_d Tryz.sz23 j3 zl32 hx
    have r7 := rd_d Tryz.agg23 Tryz.sz23 (put_at (o := .cells (bl full) 23 (0,0)) j3) hx
    simp -implicitDefEqProofs only [go_sem,Nat.reduceEqDiff,Nat.reduceBEq,Nat.reduceAdd,gLa,gLz,gLs,d1,rd6,q7,r7]
    exact f6.put (b := w0.heap.size + 2) _ fun h => by omega
end R
end Go.V
end
