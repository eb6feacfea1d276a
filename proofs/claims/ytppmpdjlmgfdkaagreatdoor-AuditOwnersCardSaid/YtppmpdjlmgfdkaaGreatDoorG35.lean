/- Helpers. -/
import Derived.Shelf.Sort.Plain
import Derived.Shelf.Slices.In.SortNone
import Derived.Shelf.Slices.SearchI
import Derived.Test.YtppmpdjlmgfdkaaGreatDoorG24
set_option linter.all false
set_option maxRecDepth 100000
set_option maxHeartbeats 8000000
open Int renaming toNat→vR
open List renaming getElem?_eq_getElem→zQ
open Nat renaming mul_one→jU,le_refl→xT
open Go.Value renaming int→yL
section
namespace Go.Proofs
open Go.Shelf
def Tryz.sortI_ren:Go.Shelf.Ren:=⟨fun | 189=>35 | 125=>68 | 257=>67 | 128=>112 | 129=>113 | 294=>104 | 295=>105 | 296=>106 | 297=>107 | 298=>108 | 299=>109 | 216=>69 | 300=>110 | 301=>111 | 328=>146 | 329=>147 | 330=>148 | 331=>149 | 332=>150 | 215=>114 | 343=>174 | n=>n,fun | 28=>45 | 3=>3 | 46=>39 | 0=>0 | 51=>34 | 53=>201 | 4=>4 | 183=>194 | 182=>193 | 131=>108 | 5=>5 | 9=>9 | 218=>236 | 222=>240 | 228=>257 | 229=>166 | n=>n,fun | n=>n⟩
theorem Tryz.sortI:Go.Proofs.Lays.n189 prog Tryz.sortI_ren:={
 mixed:=by kernel_rfl
 f125:=Tryz.func68.trans (congrArg some (by kernel_rfl))
 f128:=Tryz.func112.trans (congrArg some (by kernel_rfl))
 f129:=Tryz.func113.trans (congrArg some (by kernel_rfl))
 f189:=Tryz.func35.trans (congrArg some (by kernel_rfl))
 f215:=Tryz.func114.trans (congrArg some (by kernel_rfl))
 f216:=Tryz.func69.trans (congrArg some (by kernel_rfl))
 f257:=Tryz.func67.trans (congrArg some (by kernel_rfl))
 f294:=Tryz.func104.trans (congrArg some (by kernel_rfl))
 f295:=Tryz.func105.trans (congrArg some (by kernel_rfl))
 f296:=Tryz.func106.trans (congrArg some (by kernel_rfl))
 f297:=Tryz.func107.trans (congrArg some (by kernel_rfl))
 f298:=Tryz.func108.trans (congrArg some (by kernel_rfl))
 f299:=Tryz.func109.trans (congrArg some (by kernel_rfl))
 f300:=Tryz.func110.trans (congrArg some (by kernel_rfl))
 f301:=Tryz.func111.trans (congrArg some (by kernel_rfl))
 f328:=Tryz.func146.trans (congrArg some (by kernel_rfl))
 f329:=Tryz.func147.trans (congrArg some (by kernel_rfl))
 f330:=Tryz.func148.trans (congrArg some (by kernel_rfl))
 f331:=Tryz.func149.trans (congrArg some (by kernel_rfl))
 f332:=Tryz.func150.trans (congrArg some (by kernel_rfl))
 f343:=Tryz.func174.trans (congrArg some (by kernel_rfl))
 t0:=Tryz.underlying0
 a0:=Tryz.isAgg0
 z0:=Tryz.sizeOf0
 v0:=Tryz.zeroValue0
 t3:=Tryz.underlying3
 a3:=Tryz.isAgg3
 z3:=Tryz.sizeOf3
 v3:=Tryz.zeroValue3
 t4:=Tryz.underlying4
 a4:=Tryz.isAgg4
 z4:=Tryz.sizeOf4
 v4:=Tryz.zeroValue4
 t5:=Tryz.underlying5
 a5:=Tryz.isAgg5
 z5:=Tryz.sizeOf5
 v5:=Tryz.zeroValue5
 t9:=Tryz.underlying9
 a9:=Tryz.isAgg9
 z9:=Tryz.sizeOf9
 v9:=Tryz.zeroValue9
 t28:=Tryz.underlying45
 a28:=Tryz.isAgg45
 z28:=Tryz.sizeOf45
 v28:=Tryz.zeroValue45
 t46:=Tryz.underlying39
 a46:=Tryz.isAgg39
 z46:=Tryz.sizeOf39
 v46:=Tryz.zeroValue39
 t51:=Tryz.underlying34
 a51:=Tryz.isAgg34
 z51:=Tryz.sizeOf34
 v51:=Tryz.zeroValue34
 t53:=Tryz.underlying201
 a53:=Tryz.isAgg201
 z53:=Tryz.sizeOf201
 v53:=Tryz.zeroValue201
 t131:=Tryz.underlying108
 a131:=Tryz.isAgg108
 z131:=Tryz.sizeOf108
 v131:=Tryz.zeroValue108
 t182:=Tryz.underlying193
 a182:=Tryz.isAgg193
 z182:=Tryz.sizeOf193
 v182:=Tryz.zeroValue193
 t183:=Tryz.underlying194
 a183:=Tryz.isAgg194
 z183:=Tryz.sizeOf194
 v183:=Tryz.zeroValue194
 t218:=Tryz.underlying236
 a218:=Tryz.isAgg236
 z218:=Tryz.sizeOf236
 v218:=Tryz.zeroValue236
 t222:=Tryz.underlying240
 a222:=Tryz.isAgg240
 z222:=Tryz.sizeOf240
 v222:=Tryz.zeroValue240
 t228:=Tryz.underlying257
 a228:=Tryz.isAgg257
 z228:=Tryz.sizeOf257
 v228:=Tryz.zeroValue257
 t229:=Tryz.underlying166
 a229:=Tryz.isAgg166
 z229:=Tryz.sizeOf166
 v229:=Tryz.zeroValue166 }
def Tryz.findI_ren:Go.Shelf.Ren:=⟨fun | 25=>36 | 31=>69 | 32=>70 | 37=>114 | n=>n,fun | 22=>45 | 3=>3 | 4=>4 | 40=>39 | 0=>0 | n=>n,fun | n=>n⟩
theorem Tryz.findI:Go.Proofs.Lays2.n25 prog Tryz.findI_ren:={
 mixed:=by kernel_rfl
 f25:=Tryz.func36.trans (congrArg some (by kernel_rfl))
 f31:=Tryz.func69.trans (congrArg some (by kernel_rfl))
 f32:=Tryz.func70.trans (congrArg some (by kernel_rfl))
 f37:=Tryz.func114.trans (congrArg some (by kernel_rfl))
 t0:=Tryz.underlying0
 a0:=Tryz.isAgg0
 z0:=Tryz.sizeOf0
 v0:=Tryz.zeroValue0
 t3:=Tryz.underlying3
 a3:=Tryz.isAgg3
 z3:=Tryz.sizeOf3
 v3:=Tryz.zeroValue3
 t4:=Tryz.underlying4
 a4:=Tryz.isAgg4
 z4:=Tryz.sizeOf4
 v4:=Tryz.zeroValue4
 t22:=Tryz.underlying45
 a22:=Tryz.isAgg45
 z22:=Tryz.sizeOf45
 v22:=Tryz.zeroValue45
 t40:=Tryz.underlying39
 a40:=Tryz.isAgg39
 z40:=Tryz.sizeOf39
 v40:=Tryz.zeroValue39 }
end Go.Proofs
namespace Go.V
open Go.Proofs.Tryz
open Go.Proofs Go.Sort
variable {l:List Nat} {b cap n o:Nat} {v:Value} {w w0:World}
namespace A
theorem inR_flat (l:List Nat):(inR l).flatten=l.map fun n=>yL .i64 (n:Nat):=by
 induction l with
 | nil=>rfl
 | cons a l ih=>show [yL .i64 (a:Nat)]++(inR l).flatten=_;rw[ih];rfl
theorem cellN {c:Array Value}{e:TypeId}{fz:Nat × Nat}(h:w.heap[b]?=some (.cells c e fz)):w.cell? ⟨b,o,none⟩=c[o]?:=by simp[World.cell?,h]
def zsI (l:List Nat):List Int:=l.map Int.ofNat
theorem zsI_len (l:List Nat):(zsI l).length=l.length:=List.length_map ..
theorem holdsI (h:NwR w0 w 3 1 (.slice (some ⟨b,o,none⟩) n cap) (inR l)):Holds (yL .i64) w b o (zsI l).toArray:=by
 obtain⟨_,hown,hnew⟩:=h
 rcases hown with ⟨he,_⟩ | ⟨b',o',cap',c,he,hb,hc,hncap,hl,hat⟩
 ·cases he
 ·cases he
  rw[qQv]at hncap hl hat;intro j hj;have hj:j<l.length:=by simpa [zsI] using hj
  refine⟨?_,frozen_thaw fun x hx=>?_⟩
  ·rw[cellN hb,hat j (by omega),inR_flat,List.getElem?_map,zQ hj,getElem!_pos _ j (by simpa [zsI] using hj)]
   simp[zsI]
  ·have hx:w.heap[b]?=some x:=hx
   rw[hb]at hx;cases hx;rfl
theorem sortI_nw (h:NwR w0 w 3 1 (.slice (some ⟨b, o, none⟩) n cap) (inR l)){l':List Nat}(hl':l'.length=l.length)(m:Nat)(os:Array Obj) :
  NwR w0 (grow (putRow (yL .i64) (Sort.ahead w m) b o (zsI l').toArray) os) 3 1 (.slice (some ⟨b,o,none⟩) n cap) (inR l')∧Fr (fun c=>c=b) w (grow (putRow (yL .i64) (Sort.ahead w m) b o (zsI l').toArray) os):=by
 obtain⟨_,hown,hnew⟩:=h
 rcases hown with ⟨he,_⟩ | ⟨b',o',cap',c,he,hb,hc,hncap,hl,hat⟩
 ·cases he
 ·cases he
  have hlt:=qQh hb
  have e1:grow (putRow (yL .i64) (Sort.ahead w m) b o (zsI l').toArray) os={ put (Go.Sort.ahead w m) b (.cells (putCells (yL .i64) o (zsI l').toArray c) 3 (0,0)) with heap:=(put (Go.Sort.ahead w m) b (.cells (putCells (yL .i64) o (zsI l').toArray c) 3 (0,0))).heap++os }:=by
   unfold grow putRow
   have:mapBlock (Go.Sort.ahead w m) b (putCells (yL .i64) o (zsI l').toArray)=put (Go.Sort.ahead w m) b (.cells (putCells (yL .i64) o (zsI l').toArray c) 3 (0,0)):=by
    unfold mapBlock put
    congr 1
    apply Array.ext_getElem?;intro k;rw[Array.getElem?_modify,Array.getElem?_setIfInBounds]
    by_cases hk:b=k
    ·subst hk
     have hb':(Go.Sort.ahead w m).heap[b]?=some (.cells c 3 (0,0)):=hb;rw[if_pos rfl,if_pos rfl,hb'];have:b<(Go.Sort.ahead w m).heap.size:=hlt;simp[onCells,hlt]
    ·rw[if_neg hk,if_neg hk]
   rw[this]
  rw[e1]
  have fa:Fr (fun c=>c=b) w (Go.Sort.ahead w m):=⟨rfl,rfl,xT _,fun _ _ _=>rfl,fun _ _ h=>h⟩
  have fp:=fa.put (b:=b) (.cells (putCells (yL .i64) o (zsI l').toArray c) 3 (0,0)) fun _=>rfl;rw[qQv]at hncap hl hat;refine⟨⟨inR_ok _,?_,hnew⟩,fp.growX os⟩;refine .inr ⟨b,o,cap,putCells (yL .i64) o (zsI l').toArray c,by rw[qQv,qQv,hl'],?_,by simp[putCells];omega,by rw[qQv];omega,by rw[inR_flat,qQv,List.length_map,jU],fun j hj=>?_⟩
  ·show ((put (Go.Sort.ahead w m) b _).heap++os)[b]?=_
   rw[Array.getElem?_append_left (by simp[put];exact hlt)];exact qQd (w:=Go.Sort.ahead w m) hb
  ·rw[qQv,jU]at hj
   obtain⟨x,hx⟩:∃ x,c[o+j]?=some x:=⟨_,Array.getElem?_eq_getElem (by omega)⟩
   have hj2:j<(zsI l').toArray.size:=by simpa [zsI] using hj
   simp only[putCells,Array.getElem?_mapIdx,hx,Option.map_some];rw[if_pos ⟨by omega,by omega⟩,show o+j - o=j by omega,getElem!_pos _ j hj2,inR_flat,List.getElem?_map,zQ hj];simp[zsI]
theorem sortI (w0 w:World)(h:NwR w0 w 3 1 v (inR l))(hl:l.length≤2 ^ 40) :
  Fn prog 35 #[v] w fun r w'=>r=.tuple #[]∧∃ l',l'.Perm l∧l'.Pairwise (·≤·)∧NwR w0 w' 3 1 v (inR l')∧Fr (fun b=>qQg v=some b) w w':=by
 obtain⟨a,cap,hv,hcap⟩:=h.rd.slice;rw[qQv]at hv hcap;subst hv
 rcases Nat.eq_zero_or_pos l.length with h0 | h0
 ·rw[h0]at h ⊢
  refine Calls.mono (Any.slices_Sort_int_none Tryz.sortI a cap w) ?_;rintro e w' ⟨rfl,rfl⟩;exact⟨rfl,l,List.Perm.refl _,by rw[List.length_eq_zero_iff.1 h0];exact List.Pairwise.nil,h,Fr.refl _ _⟩
 ·obtain⟨b,o,cap',e,hcap'⟩:=h.rd.pos (by decide) (by rw[qQv];exact h0)
  rw[qQv]at e;cases e;have hlt:b<w.heap.size:=(h.lt rfl).2;have:=Any.slices_Sort_int Tryz.sortI b o cap (zsI l) w (holdsI h) hlt (by rw[zsI_len];omega);rw[zsI_len]at this;refine Calls.mono this ?_;rintro e w' ⟨rfl,n,os,rfl⟩;have hp:=List.mergeSort_perm (zsI l) fun x y=>decide (x≤y);have hs:=List.pairwise_mergeSort (le:=fun x y:Int=>decide (x≤y)) (fun a b c h1 h2=>by simp at *;omega) (fun a b=>by simp;omega) (zsI l);generalize (zsI l).mergeSort (fun x y=>decide (x≤y))=z at *
  have hz:zsI (z.map vR)=z:=by
   unfold zsI;rw[List.map_map];refine (List.map_congr_left fun x hx=>?_).trans (List.map_id z);have:=hp.mem_iff.1 hx;obtain⟨y,_,rfl⟩:=List.mem_map.1 this
   rfl
  have hperm:(z.map vR).Perm l:=by
   have:=hp.map vR
   rwa [zsI,List.map_map,show vR ∘ Int.ofNat=id from rfl,List.map_id]at this
  obtain⟨r1,r2⟩:=sortI_nw h (l':=z.map vR) hperm.length_eq n os;rw[hz]at r1 r2;refine⟨rfl,z.map vR,hperm,?_,r1,r2.mono fun c _ hc=>by rw[hc];rfl⟩;rw[List.pairwise_map];exact hs.imp fun {x y} hxy=>Int.toNat_le_toNat (by simpa using hxy)
theorem findI (w:World)(h:RdR w 1 v (inR l))(h0:0<l.length)(hl:l.length≤2 ^ 40)(hs:l.Pairwise (·≤·))(x:Nat) :
  Fn prog 36 #[v,.int .i64 (x:Nat)] w fun r w'=>(∃ ok,r=.tuple #[.int .i64 (l.countP fun y=>decide (y<x):Nat),.bool ok])∧No w w':=by
 obtain⟨b,o,cap,rfl,hcap⟩:=h.pos (by decide) (by rw[qQv];exact h0)
 have hc:∀ j,j<(zsI l).length→w.cell? ⟨b,o+j,none⟩=some (.int .i64 ((zsI l).getD j 0)):=fun j hj=>by
  rw[zsI_len]at hj;have:=h.cell (i:=j) (by rw[qQv];exact hj) (j:=0) (by decide);rw[jU,Nat.add_zero]at this;have e2:(inR l)[j]'(by rw[qQv];exact hj)=[yL .i64 (l[j]:Nat)]:=by simp[inR]
  rw[e2]at this;obtain⟨c,e,fz,h1,h2⟩:=rc_row this;rw[cellN h1,h2];simp[zsI,gDq,zQ hj]
 have hz:(zsI l).Pairwise (·≤·):=by
  unfold zsI;rw[List.pairwise_map];exact hs.imp fun {a b} hab=>Int.ofNat_le.2 hab
 have:=Any.slices_BinarySearch_int Tryz.findI b o (zsI l).length cap (zsI l) x w (xT _) (by rw[zsI_len];omega) hc (by rw[List.take_length];exact hz);rw[List.take_length,zsI_len]at this;rw[qQv];refine Calls.mono this ?_;rintro e w' ⟨rfl,q,rfl⟩
 have hcn:List.countP (fun x_1=>decide (x_1<(x:Int))) (zsI l)=l.countP fun y=>decide (y<x):=by
  unfold zsI;rw[List.countP_map];refine List.countP_congr fun y _=>?_
  simp
 show (∃ ok,_=_)∧_;rw[hcn];exact⟨⟨_,rfl⟩,⟨rfl,rfl,xT _,fun _ _ _=>rfl,fun _ _ h=>h⟩⟩
end A
end Go.V
end
