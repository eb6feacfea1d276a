/- Helpers. -/
import Derived.Scope
import Derived.Lib.SlBytesConst
import Derived.Test.YtmenaeggoakppaaGreatDoorG19
set_option linter.all false
set_option maxRecDepth 100000
set_option maxHeartbeats 8000000
namespace Go.V
section
variable {P:Program}
def noGo (Q:Post):Post:=fun e=>match e with | .goto _=>fun _ _=>False | e=>Q e
theorem noGo_normal (Q:Post):noGo Q .normal=Q .normal:=rfl
theorem noGo_ret (Q:Post):noGo Q .ret=Q .ret:=rfl
theorem noGo_exit (Q:Post)(i:Nat):noGo Q (.exit i)=Q (.exit i):=rfl
theorem den_scope {n:Nat}{bad:List Nat}{c:Code}{Q:Post}{ev:Ev}{w:World}(hok:codeOk P n bad c=true)(h:den P n bad c (noGo Q) ev w):den P n bad (.scope c) Q ev w:=by
 intro a hn hd he;subst he;refine wp_scope_straight (wp_mono (den_sound P n bad c _ a w hok hn hd h) fun e a' w' hq=>?_);obtain⟨h1,h2,h3⟩:=hq
 cases e with
 | goto l=>exact h3
 | _=>exact⟨h1,h2,h3⟩
theorem den_label (n:Nat)(bad:List Nat)(l:Nat)(Q:Post)(ev:Ev)(w:World):den P n bad (.label l) Q ev w=Q .normal ev w:=rfl
theorem Fr.allocX {F:Nat→Prop}{w w':World}(h:Fr F w w')(o:Obj):Fr F w (w'.alloc o) :=
 ⟨h.os,h.out,by rw[qQd];have:=h.size;omega,fun b' hb' hf=>by
  rw[qXu _ _ (Nat.lt_of_lt_of_le hb' h.size)];exact h.blk b' hb' hf,fun b hb ht o' ho'=>h.thaw b hb ht o' (by rw[← ho',qXu _ _ (Nat.lt_of_lt_of_le hb h.size)])⟩
theorem text_new {t:TypeId}(ht:slcO P t=some 5)(he:intO P 5=some .u8)(w:World)(bs:List Byte):∃ W, (convert t t (.slice (some ⟨w.heap.size, 0, Option.none⟩) bs.length bs.length)).run P (w.alloc (.cells (bl bs) 5))=.ok (.slice (some ⟨w.heap.size, 0, Option.none⟩) bs.length bs.length) W ∧
  No w W∧By W (.slice (some ⟨w.heap.size,0,.none⟩) bs.length bs.length) bs∧W.heap.size=w.heap.size+1:=by
 refine⟨_,Lib.run_convert_bytes_const (P:=P) w t 5 (bl bs) bs.length bs.length (qXf ht) (qJe he),(Fr.refl _ _).allocX _,?_,by rw[qQd]⟩;refine⟨by simp,_,_,rfl,Nat.le_refl _,fun _=>⟨_,_,rfl,fun i hi=>?_⟩⟩;rw[qXd (qQc _ _),Nat.zero_add,List.getElem?_toArray]
def sl2 (P:Program)(t:TypeId)(w:World)(a b:Value):Option (Value × World):=stepE P (fun i=>if i=0 then a else b) w (.buildSlice t 2 #[(0,.tmp 0),(1,.tmp 1)])
theorem stepE_sl2 (P:Program)(t:TypeId)(w:World)(ev:Ev)(x y:Operand):stepE P ev w (.buildSlice t 2 #[(0,x),(1,y)])=sl2 P t w (evO ev x) (evO ev y):=rfl
theorem sl2_agg {t e s:Nat}{z:Value}(ht:slcO P t=some e)(hs:szO P e=some s)(hz:zeroO P e=some z)(hzs:z.cells.size=s)(h0:0<s)(hb:2*s≤2 ^ 24)(w:World){r1 r2:List Value}(h1:r1.length=s)(h2:r2.length=s) :
  sl2 P t w (.agg r1.toArray) (.agg r2.toArray)=some (.slice (some ⟨w.heap.size,0,.none⟩) 2 2,w.alloc (.cells (r1++r2).toArray e)):=by
 have hzr:(zrow z.cells.toList 2).size=2*s:=by simp[zrow,hzs];omega
 have e1:(Value.agg r1.toArray).cells.toList=r1:=rfl;have e2:(Value.agg r2.toArray).cells.toList=r2:=rfl
 have hf:Instr.fill (fun i=>some (i*s,s)) (zrow z.cells.toList 2) [(0,.agg r1.toArray),(1,.agg r2.toArray)]=some (r1++r2).toArray:=by
  rw[qZd (off:=0*s) (n:=s) rfl (by simp[Value.cells,h1]) (by rw[hzr];omega),qZd (off:=1*s) (n:=s) rfl (by simp[Value.cells,h2]) (by rw[qXn,hzr];omega),fill_nil',e1,e2]
  congr 1
  apply Array.toList_inj.1;have l1:(qXo r1 (0*s) (zrow z.cells.toList 2)).size=2*s:=by rw[qXn,hzr]
  have l2:(zrow z.cells.toList 2).toList.length=2*s:=by rw[Array.length_toList,hzr]
  rw[qXk _ _ _ (by rw[l1,h2];omega),qXk _ _ _ (by rw[hzr,h1];omega),Nat.zero_mul,List.take_zero,List.nil_append,Nat.one_mul,List.take_append,List.take_of_length_le (by omega),h1,Nat.sub_self,List.take_zero,List.append_nil,
   List.drop_of_length_le (by rw[lAp,lDr,l2,h1,h2];omega),List.append_nil]
 unfold sl2 stepE;simp only[ht,hs,hz,Option.bind_some];rw[if_pos ⟨hb,h0,hzs⟩];show Option.map _ (Instr.fill (fun i=>some (i*s,s)) (zrow z.cells.toList 2) [(0,.agg r1.toArray),(1,.agg r2.toArray)])=_;rw[hf];rfl
attribute [go_sem ↓] stepE_sl2
attribute [go_sem] noGo_normal noGo_ret noGo_exit
attribute [go_sem ↓] den_label
end
end Go.V
