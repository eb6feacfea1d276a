/-
  Helpers: KnowP.
-/
import Derived.Test.YtmenaeggoakppaaGreatDoorP34
import Derived.Test.YtmenaeggoakppaaGreatDoorP37
set_option linter.all false
section
namespace Go.V
open Sha
set_option maxRecDepth 100000
namespace Wit
open Tw
def K0 : Bs := List.replicate 32 0
def K1 : Bs := 128 :: List.replicate 31 0
def kL : Tw := .leaf K0 255 ((empts 4 257).take 255) (some [120])
def kR : Tw := .leaf K1 255 ((empts 4 257).take 255) (some [121])
def kT : Tw := .fork [K0,K1] 256 256 [] kL kR
theorem take_all {n : Nat} : All32 ((empts 4 257).take n) := R.empts_all 4 257 |>.take n
theorem klt01 : klt K0 K1 := by decide +kernel
theorem kcom : common K1 K0 = 0 := by decide +kernel
theorem kfrm : frm [K0,K1] = 256 := by decide +kernel
theorem klefts : lefts [K0,K1] = 1 := by decide +kernel
theorem klen (n : Nat) (h : n ≤ 257) : ((empts 4 257).take n).length = n := by rw [List.length_take,empts_len]; omega
theorem kL_ok : kL.Ok := ⟨by decide,by decide,klen 255 (by decide),take_all,fun v h => by cases h; decide⟩
theorem kR_ok : kR.Ok := ⟨by decide,by decide,klen 255 (by decide),take_all,fun v h => by cases h; decide⟩
theorem kT_ok : kT.Ok := by
  refine ⟨kfrm.symm,Nat.le_refl _,Nat.le_refl _,rfl,All32.nil,?_,?_,Nat.le_refl _,?_,?_,rfl,rfl,kL_ok,kR_ok⟩
  · exact List.pairwise_cons.2 ⟨fun b hb => by simp only [List.mem_singleton] at hb; subst hb; exact klt01,List.pairwise_singleton _ _⟩
  · exact All32.cons (by decide) (All32.one (by decide))
  · rw [klefts]; rfl
  · rw [klefts]; rfl
theorem empts_tdy (n : Nat) : ∀ d ∈ (empts 4 257).take n,cutD 4 d = d := fun d hd => by
  obtain ⟨i,_,rfl⟩ := List.mem_map.1 (List.mem_of_mem_take hd)
  exact emptD_tdy _ _
theorem kT_tdy : Tdy 4 kT := ⟨fun d hd => (by cases hd),empts_tdy 255,empts_tdy 255⟩
theorem lay_empts (w : Int) : ∀ (n h : Nat) (b s : Bs),h + n ≤ 257 → layN w h b s (((empts w 257).drop h).take n) = (b,s)
  | 0,h,b,s,_ => by rw [List.take_zero]; rfl
  | n + 1,h,b,s,hn => by
    rw [List.drop_eq_getElem_cons (by rw [empts_len]; omega),List.take_succ_cons,layN]
    have e : (empts w 257)[h]'(by rw [empts_len]; omega) = emptD w h := by
      have := empts_at w 257 (i := h) (by omega)
      rw [List.getElem?_eq_getElem (by rw [empts_len]; omega)] at this
      exact Option.some.inj this
    rw [if_pos e]
    exact lay_empts w n (h + 1) b s (by omega)
def kRaw : Bs := [2] ++ List.replicate 32 0 ++ [1,1,0,120] ++ List.replicate 32 0 ++ [1,1,0,121] ++ List.replicate 32 0
theorem kNear : nearT 4 0 ((empts 4 257).take 255) = List.replicate 32 0 := by
  have := lay_empts 4 255 0 (List.replicate 32 0) [] (by decide)
  rw [List.drop_zero] at this
  unfold nearT
  rw [this,List.append_nil]
theorem kTxt : txt 4 kT = kRaw := by
  have h : ∀ k v,txt 4 (.leaf k 255 ((empts 4 257).take 255) (some [v])) = [1,1,0,v] ++ List.replicate 32 0 := fun k v => by
    show ansT (some [v]) ++ nearT 4 0 ((empts 4 257).take 255) = _
    rw [kNear]; simp [ansT]
  have e : txt 4 kT = 2 :: (nearT 4 256 [] ++ (txt 4 kL ++ txt 4 kR)) := rfl
  rw [e,kL,kR,h,h]; rfl
theorem kForm : form 4 [K0,K1] kRaw = .ok (some kT) := by
  have := form_txt kT_ok kT_tdy rfl
  rw [kTxt] at this
  exact this
theorem kLone0 : ∃ x1,R.Lone 4 (K0,[120]) 255 x1 := ⟨_,rfl⟩
theorem sortW_mk {w : Int} {ks l : List Bs} (h1 : 1 ≤ w ∧ w ≤ 32) (h2 : ks.length ≤ 64) (h3 : ks.Nodup) (h4 : srt ks = l) : sortW w ks = .ok l := by
  unfold sortW sortE
  rw [if_neg (by omega),if_neg (by omega),if_pos h3,h4]
theorem underP_mk {w : Int} {root : Bs} {ks : List Bs} {raw : Bs} {t : Tw} (h1 : form w ks raw = .ok (some t)) (h2 : dig w asIs t = root) : underP w root ks raw = .ok (some t) := by
  unfold underP; rw [h1]; simp only [if_pos h2]
theorem verifyP_mk {w : Int} {root : Bs} {ks l : List Bs} {raw : Bs} {t : Tw} (h1 : sortW w ks = .ok l) (h2 : underP w root l raw = .ok (some t)) : verifyP w root ks raw = .ok (ks.map t.at) := by
  unfold verifyP; rw [h1]; simp only [h2]
theorem partP_mk {w : Int} {ks l : List Bs} {raw k : Bs} {t : Tw} (h1 : sortW w ks = .ok l) (h2 : form w l raw = .ok (some t)) (h3 : k ∈ l) : partP w ks raw k = .ok (txt w (part w t k)) := by
  unfold partP; rw [h1]; simp only [h2,if_pos h3]
theorem kSort1 : sortW 4 [K1,K0] = .ok [K0,K1] := sortW_mk (by decide) (by decide) (by decide +kernel) (by decide +kernel)
theorem kSort0 : sortW 4 [K0,K1] = .ok [K0,K1] := sortW_mk (by decide) (by decide) (by decide +kernel) (by decide +kernel)
theorem fork_at {ks : List Bs} {f top : Nat} {near : List Bs} {l r : Tw} {k : Bs} : (Tw.fork ks f top near l r).at k = if kbit k (256 - f) then r.at k else l.at k := rfl
theorem leaf_at {k' : Bs} {top : Nat} {near : List Bs} {a : Option Bs} {k : Bs} : (Tw.leaf k' top near a).at k = a := rfl
theorem fork_nbrs {w : Int} {ks : List Bs} {f top : Nat} {near : List Bs} {l r : Tw} {k : Bs} : nbrs w (Tw.fork ks f top near l r) k = (if kbit k (256 - f) then nbrs w r k ++ [dig w asIs l] else nbrs w l k ++ [dig w asIs r]) ++ near := rfl
theorem leaf_nbrs {w : Int} {k' : Bs} {top : Nat} {near : List Bs} {a : Option Bs} {k : Bs} : nbrs w (Tw.leaf k' top near a) k = near := rfl
theorem leaf_dig {w : Int} {k' : Bs} {top : Nat} {near : List Bs} {a : Bs} : dig w asIs (Tw.leaf k' top near (some a)) = climb w k' 0 (leafD w k' a) near := rfl
theorem fork_dig {w : Int} {ks : List Bs} {f top : Nat} {l r : Tw} : dig w asIs (Tw.fork ks f top [] l r) = branchD w (dig w asIs l) (dig w asIs r) := rfl
theorem kbit0 : kbit K0 (256 - 256) = false := by decide +kernel
theorem kbit1 : kbit K1 (256 - 256) = true := by decide +kernel
theorem at0 : kT.at K0 = some [120] := by unfold kT kL; rw [fork_at,kbit0,if_neg (by decide),leaf_at]
theorem at1 : kT.at K1 = some [121] := by unfold kT kR; rw [fork_at,kbit1,if_pos rfl,leaf_at]
theorem kDig {x1 x2 : Bs} (h1 : R.Lone 4 (K0,[120]) 255 x1) (h2 : R.Lone 4 (K1,[121]) 255 x2) : dig 4 asIs kT = branchD 4 x1 x2 := by
  unfold kT kL kR
  rw [fork_dig,leaf_dig,leaf_dig]
  unfold R.Lone at h1 h2
  rw [h1,h2]
theorem kVerify {x1 x2 : Bs} (h1 : R.Lone 4 (K0,[120]) 255 x1) (h2 : R.Lone 4 (K1,[121]) 255 x2) : verifyP 4 (branchD 4 x1 x2) [K1,K0] kRaw = .ok [some [121],some [120]] := by
  rw [verifyP_mk kSort1 (underP_mk kForm (kDig h1 h2)),List.map_cons,List.map_cons,List.map_nil,at0,at1]
theorem kPart {x2 : Bs} (h2 : R.Lone 4 (K1,[121]) 255 x2) : partP 4 [K0,K1] kRaw K0 = .ok (ansT (some [120]) ++ (R.setP 4 (List.replicate 32 0) 255 x2).1 ++ (R.setP 4 (List.replicate 32 0) 255 x2).2.flatten) := by
  rw [partP_mk kSort0 kForm (by simp)]
  have n0 : nbrs 4 kT K0 = (empts 4 257).take 255 ++ [x2] := by
    unfold R.Lone at h2
    unfold kT kL kR
    rw [fork_nbrs,kbit0,if_neg (by decide),leaf_nbrs,leaf_dig,List.append_nil,h2]
  have e : txt 4 (part 4 kT K0) = ansT (kT.at K0) ++ nearT 4 0 (nbrs 4 kT K0) := rfl
  rw [e,at0,n0,List.append_assoc]
  refine congrArg Except.ok (congrArg (ansT (some [120]) ++ ·) ?_)
  have hl := lay_empts 4 255 0 (List.replicate 32 0) [] (by decide)
  rw [List.drop_zero] at hl
  unfold nearT
  rw [layN_app,klen 255 (by decide),hl]
  unfold R.setP
  simp only [layN,Nat.zero_add]
  by_cases hx : x2 = emptD 4 255
  · rw [if_pos hx,if_pos hx]; rfl
  · rw [if_neg hx,if_neg hx]; simp
end Wit
end Go.V
end
