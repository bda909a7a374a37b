import Derived.Test.YtoealglbimbbmaaGreatDoorWrites
import Derived.Test.YtoealglbimbbmaaGreatDoorStripe
import Derived.Test.YtoealglbimbbmaaGreatDoorSort
import Derived.Test.YtoealglbimbbmaaGreatDoorArr
namespace Go.Proofs.YtoealglbimbbmaaGreatDoor.S
open Go Go.Proofs
set_option linter.unusedVariables false
set_option linter.unusedSimpArgs false
def fC (cs:List au)(n wide:Int):List Int:=(cs.map fun c=>fc c.place n wide).filter fun i=>decide (0≤i)
theorem Fa {cs:List au}{n wide:Int}{k:Nat}(hk:k<cs.length):fC (cs.take (k+1)) n wide=if 0≤fc cs[k].place n wide then fC (cs.take k) n wide++[fc cs[k].place n wide] else fC (cs.take k) n wide:=by
 unfold fC
 rw [List.take_add_one,List.getElem?_eq_getElem hk,List.map_append,List.filter_append]
 split
 ·rename_i h;simp [h]
 ·rename_i h;simp [h]
theorem Io {cs:List au}{n wide:Int}:(fC cs n wide).length≤cs.length:=by
 unfold fC
 exact Nat.le_trans (List.length_filter_le _ _) (by simp)
section
variable {w0:bh}{L M:List ay}{K:KV}{F:World→Prop}{C:ay→List ay}{b:Nat}{cs:List au}
theorem CR {v:Value}{n wide:Int}[r:Rd w0 L v bf 2 cs](hl:cs.length≤100000)(hK:∀u,ar u [u]→G w0 (sl bg u (Lib.compact ((fC cs n wide).mergeSort fun x y=>decide (x≤y)))::L) (K u)):G w0 L (CP Tryz.prog Xj [v,i64 n,i64 wide] K):=by
 refine CO ?_
 unfold sJ
 refine gr ?_
 refine G.nilsl bg ?_
 refine G.loop2 (σ:=Value×Nat) (fun z=>z.1) (fun z=>i64 z.2) (fun z=>sl bg z.1 (fC (cs.take z.2) n wide)::L) (fun z=>z.2≤cs.length∧ar z.1 [z.1]) (fun z=>cs.length-z.2) (.slice none 0 0,0) rfl rfl rfl ⟨by simp,be⟩ ?_
 rintro⟨u,k⟩ ⟨hk,hu⟩ J hJ
 simp only at hk hu hJ ⊢
 have hle:=Io (cs:=cs.take k) (n:=n) (wide:=wide)
 have hle2:(cs.take k).length≤cs.length:=by rw [List.length_take];omega
 refine gr ?_
 refine G.cond (fun h=>?_) (fun h=>?_)
 ·have hk2:k<cs.length:=by simpa using h
  have e:=ct hk2
  have t:=Fa (n:=n) (wide:=wide) hk2
  refine gr ?_
  refine G.new fun p=>?_
  refine gr ?_
  refine C1 ?_
  refine gr ?_
  refine G.join1 (fun y:Value=>y) (fun y=>sl bg y (fC (cs.take (k+1)) n wide)::L) (fun y=>ar y [y]) ?_ (fun J2 hJ2=>?_)
  ·intro y hy
   refine gr ?_
   rw [di (by omega)]
   exact hJ (y,k+1) ⟨hk2,hy⟩ (by simp;omega)
  ·refine G.cond (fun h2=>?_) (fun h2=>?_)
   ·rw [if_pos (by simpa using h2)] at t
    refine G.append1 (E:=bg) rfl rfl (by decide) (by omega) (by simp only [maxLen];omega) fun y hy=>?_
    have h:=hJ2 y hy
    rw [t] at h
    exact h.sub
   ·rw [if_neg (by simpa using h2)] at t
    have h:=hJ2 u hu
    rw [t] at h
    exact h.sub
 ·have ht:cs.take k=cs:=List.take_of_length_le (by simpa using h)
  rw [ht] at hle ⊢
  refine vA (zs:=fC cs n wide) (by omega) ?_
  refine gr ?_
  refine rT (zs:=(fC cs n wide).mergeSort fun x y=>decide (x≤y)) (by rw [List.length_mergeSort];omega) fun y hy=>?_
  exact hK y hy
end
end Go.Proofs.YtoealglbimbbmaaGreatDoor.S
namespace Go.Proofs.YtoealglbimbbmaaGreatDoor.S
open Go Go.Proofs
set_option linter.unusedVariables false
set_option linter.unusedSimpArgs false
def fM (f:Nat→Bool)(m:Nat):List Int:=((List.range m).filter f).map fun(j:Nat)=>(j:Int)
theorem yM {f:Nat→Bool}{m:Nat}:(fM f m).Pairwise (·<·):=by
 unfold fM
 rw [List.pairwise_map]
 exact(List.Pairwise.filter _ List.pairwise_lt_range).imp (fun h=>by omega)
theorem zJ {f:Nat→Bool}{m:Nat}{x:Int}:x∈fM f m↔∃j,j<m∧f j=true∧(j:Int)=x:=by
 simp [fM,and_assoc]
theorem KI {a n wide:Int}(h:0≤fc a n wide):∃s:Nat,fc a n wide=(s:Int)∧s<16:=by
 have hb:=ft (n:=n) (show (1:Int)≤16 by omega)
 have h2:fc a n wide<16:=by
  unfold fc at h ⊢
  split
  ·omega
  ·have:=Int.tmod_lt_of_pos (IntKind.wrap .i64 (a.tdiv (held wide 1 16))) (show 0<held n 1 16 by omega)
   omega
 exact⟨(fc a n wide).toNat,by omega,by omega⟩
def de (cs:List au)(n wide:Int)(j:Nat):Bool:=(fC cs n wide).contains (j:Int)
theorem E7 {cs:List au}{n wide:Int}:Lib.compact ((fC cs n wide).mergeSort fun x y=>decide (x≤y))=fM (de cs n wide) 16:=by
 refine I5 yM fun x=>?_
 rw [zJ]
 constructor
 ·rintro⟨j,_,h,rfl⟩
  simpa [de] using h
 ·intro h
  have h2:=h
  simp only [fC,List.mem_filter,List.mem_map,decide_eq_true_eq] at h2
  obtain⟨⟨c,_,rfl⟩,h0⟩:=h2
  obtain⟨s,e,hs⟩:=KI h0
  rw [e] at h ⊢
  exact⟨s,hs,by simpa [de] using h,rfl⟩
section
variable {w0:bh}{L M:List ay}{K:KV}{F:World→Prop}{C:ay→List ay}{b:Nat}{cs:List au}
set_option maxHeartbeats 1000000 in
end
end Go.Proofs.YtoealglbimbbmaaGreatDoor.S
