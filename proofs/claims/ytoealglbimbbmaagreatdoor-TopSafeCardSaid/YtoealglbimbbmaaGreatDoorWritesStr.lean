import Derived.Test.YtoealglbimbbmaaGreatDoorWrites
import Derived.Test.YtoealglbimbbmaaGreatDoorStripe
import Derived.Test.YtoealglbimbbmaaGreatDoorSort
import Derived.Test.YtoealglbimbbmaaGreatDoorArr
namespace Go.Proofs.YtoealglbimbbmaaGreatDoor.S
open Go Go.Proofs
set_option linter.unusedVariables false
set_option linter.unusedSimpArgs false
def fq (cs:List av)(n wide:Int):List Int:=(cs.map fun c=>eD c.place n wide).filter fun i=>decide (0≤i)
theorem D0 {cs:List av}{n wide:Int}{k:Nat}(hk:k<cs.length):fq (cs.take (k+1)) n wide=if 0≤eD cs[k].place n wide then fq (cs.take k) n wide++[eD cs[k].place n wide] else fq (cs.take k) n wide:=by
 unfold fq
 rw [List.take_add_one,List.getElem?_eq_getElem hk,List.map_append,List.filter_append]
 split
 ·rename_i h;simp [h]
 ·rename_i h;simp [h]
theorem IP {cs:List av}{n wide:Int}:(fq cs n wide).length≤cs.length:=by
 unfold fq
 exact Nat.le_trans (List.length_filter_le _ _) (by simp)
section
variable {w0:bo}{L M:List bd}{K:KV}{F:World→Prop}{C:bd→List bd}{b:Nat}{cs:List av}
theorem Bz {v:Value}{n wide:Int}[r:Rd w0 L v bk 2 cs](hl:cs.length≤100000)(hK:∀u,bf u [u]→G w0 (sl bx u (Lib.compact ((fq cs n wide).mergeSort fun x y=>decide (x≤y)))::L) (K u)):G w0 L (CP Tryz.prog Xf [v,i64 n,i64 wide] K):=by
 refine Bn ?_
 unfold rU
 refine gr ?_
 refine G.nilsl bx ?_
 refine G.loop2 (σ:=Value×Nat) (fun z=>z.1) (fun z=>i64 z.2) (fun z=>sl bx z.1 (fq (cs.take z.2) n wide)::L) (fun z=>z.2≤cs.length∧bf z.1 [z.1]) (fun z=>cs.length-z.2) (.slice none 0 0,0) rfl rfl rfl ⟨by simp,bm⟩ ?_
 rintro⟨u,k⟩ ⟨hk,hu⟩ J hJ
 simp only at hk hu hJ ⊢
 have hle:=IP (cs:=cs.take k) (n:=n) (wide:=wide)
 have hle2:(cs.take k).length≤cs.length:=by rw [List.length_take];omega
 refine gr ?_
 refine G.cond (fun h=>?_) (fun h=>?_)
 ·have hk2:k<cs.length:=by simpa using h
  have e:=cw hk2
  have t:=D0 (n:=n) (wide:=wide) hk2
  refine gr ?_
  refine G.new fun p=>?_
  refine gr ?_
  refine BW ?_
  refine gr ?_
  refine G.join1 (fun y:Value=>y) (fun y=>sl bx y (fq (cs.take (k+1)) n wide)::L) (fun y=>bf y [y]) ?_ (fun J2 hJ2=>?_)
  ·intro y hy
   refine gr ?_
   rw [dx (by omega)]
   exact hJ (y,k+1) ⟨hk2,hy⟩ (by simp;omega)
  ·refine G.cond (fun h2=>?_) (fun h2=>?_)
   ·rw [if_pos (by simpa using h2)] at t
    refine G.append1 (E:=bx) rfl rfl (by decide) (by omega) (by simp only [maxLen];omega) fun y hy=>?_
    have h:=hJ2 y hy
    rw [t] at h
    exact h.sub
   ·rw [if_neg (by simpa using h2)] at t
    have h:=hJ2 u hu
    rw [t] at h
    exact h.sub
 ·have ht:cs.take k=cs:=List.take_of_length_le (by simpa using h)
  rw [ht] at hle ⊢
  refine ue (zs:=fq cs n wide) (by omega) ?_
  refine gr ?_
  refine rE (zs:=(fq cs n wide).mergeSort fun x y=>decide (x≤y)) (by rw [List.length_mergeSort];omega) fun y hy=>?_
  exact hK y hy
end
end Go.Proofs.YtoealglbimbbmaaGreatDoor.S
namespace Go.Proofs.YtoealglbimbbmaaGreatDoor.S
open Go Go.Proofs
set_option linter.unusedVariables false
set_option linter.unusedSimpArgs false
def fB (f:Nat→Bool)(m:Nat):List Int:=((List.range m).filter f).map fun(j:Nat)=>(j:Int)
theorem xP {f:Nat→Bool}{m:Nat}:(fB f m).Pairwise (·<·):=by
 unfold fB
 rw [List.pairwise_map]
 exact(List.Pairwise.filter _ List.pairwise_lt_range).imp (fun h=>by omega)
theorem yF {f:Nat→Bool}{m:Nat}{x:Int}:x∈fB f m↔∃j,j<m∧f j=true∧(j:Int)=x:=by
 simp [fB,and_assoc]
theorem KG {a n wide:Int}(h:0≤eD a n wide):∃s:Nat,eD a n wide=(s:Int)∧s<16:=by
 have hb:=eI (n:=n) (show (1:Int)≤16 by omega)
 have h2:eD a n wide<16:=by
  unfold eD at h ⊢
  split
  ·omega
  ·have:=Int.tmod_lt_of_pos (IntKind.wrap .i64 (a.tdiv (held wide 1 16))) (show 0<held n 1 16 by omega)
   omega
 exact⟨(eD a n wide).toNat,by omega,by omega⟩
def dp (cs:List av)(n wide:Int)(j:Nat):Bool:=(fq cs n wide).contains (j:Int)
theorem Ev {cs:List av}{n wide:Int}:Lib.compact ((fq cs n wide).mergeSort fun x y=>decide (x≤y))=fB (dp cs n wide) 16:=by
 refine H9 xP fun x=>?_
 rw [yF]
 constructor
 ·rintro⟨j,_,h,rfl⟩
  simpa [dp] using h
 ·intro h
  have h2:=h
  simp only [fq,List.mem_filter,List.mem_map,decide_eq_true_eq] at h2
  obtain⟨⟨c,_,rfl⟩,h0⟩:=h2
  obtain⟨s,e,hs⟩:=KG h0
  rw [e] at h ⊢
  exact⟨s,hs,by simpa [dp] using h,rfl⟩
section
variable {w0:bo}{L M:List bd}{K:KV}{F:World→Prop}{C:bd→List bd}{b:Nat}{cs:List av}
set_option maxHeartbeats 1000000 in
end
end Go.Proofs.YtoealglbimbbmaaGreatDoor.S
