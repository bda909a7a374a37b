import Derived.Test.YtoealglbimbbmaaGreatDoorWrites
import Derived.Test.YtoealglbimbbmaaGreatDoorStripe
import Derived.Test.YtoealglbimbbmaaGreatDoorSort
import Derived.Test.YtoealglbimbbmaaGreatDoorArr
namespace Go.Proofs.YtoealglbimbbmaaGreatDoor.S
open Go Go.Proofs
set_option linter.unusedVariables false
set_option linter.unusedSimpArgs false
def fg (cs:List aw)(n wide:Int):List Int:=(cs.map fun c=>es c.place n wide).filter fun i=>decide (0≤i)
theorem Fm {cs:List aw}{n wide:Int}{k:Nat}(hk:k<cs.length):fg (cs.take (k+1)) n wide=if 0≤es cs[k].place n wide then fg (cs.take k) n wide++[es cs[k].place n wide] else fg (cs.take k) n wide:=by
 unfold fg
 rw [List.take_add_one,List.getElem?_eq_getElem hk,List.map_append,List.filter_append]
 split
 ·rename_i h;simp [h]
 ·rename_i h;simp [h]
theorem JJ {cs:List aw}{n wide:Int}:(fg cs n wide).length≤cs.length:=by
 unfold fg
 exact Nat.le_trans (List.length_filter_le _ _) (by simp)
section
variable {w0:bg}{L M:List ax}{K:KV}{F:World→Prop}{C:ax→List ax}{b:Nat}{cs:List aw}
theorem DJ {v:Value}{n wide:Int}[r:Rd w0 L v bd 2 cs](hl:cs.length≤100000)(hK:∀u,av u [u]→G w0 (sl cd u (Lib.compact ((fg cs n wide).mergeSort fun x y=>decide (x≤y)))::L) (K u)):G w0 L (CP Tryz.prog ZR [v,i64 n,i64 wide] K):=by
 refine C9 ?_
 unfold tf
 refine gr ?_
 refine G.nilsl cd ?_
 refine G.loop2 (σ:=Value×Nat) (fun z=>z.1) (fun z=>i64 z.2) (fun z=>sl cd z.1 (fg (cs.take z.2) n wide)::L) (fun z=>z.2≤cs.length∧av z.1 [z.1]) (fun z=>cs.length-z.2) (.slice none 0 0,0) rfl rfl rfl ⟨by simp,bf⟩ ?_
 rintro⟨u,k⟩ ⟨hk,hu⟩ J hJ
 simp only at hk hu hJ ⊢
 have hle:=JJ (cs:=cs.take k) (n:=n) (wide:=wide)
 have hle2:(cs.take k).length≤cs.length:=by rw [List.length_take];omega
 refine gr ?_
 refine G.cond (fun h=>?_) (fun h=>?_)
 ·have hk2:k<cs.length:=by simpa using h
  have e:=cW hk2
  have t:=Fm (n:=n) (wide:=wide) hk2
  refine gr ?_
  refine G.new fun p=>?_
  refine gr ?_
  refine Es ?_
  refine gr ?_
  refine G.join1 (fun y:Value=>y) (fun y=>sl cd y (fg (cs.take (k+1)) n wide)::L) (fun y=>av y [y]) ?_ (fun J2 hJ2=>?_)
  ·intro y hy
   refine gr ?_
   rw [dt (by omega)]
   exact hJ (y,k+1) ⟨hk2,hy⟩ (by simp;omega)
  ·refine G.cond (fun h2=>?_) (fun h2=>?_)
   ·rw [if_pos (by simpa using h2)] at t
    refine G.append1 (E:=cd) rfl rfl (by decide) (by omega) (by simp only [maxLen];omega) fun y hy=>?_
    have h:=hJ2 y hy
    rw [t] at h
    exact h.sub
   ·rw [if_neg (by simpa using h2)] at t
    have h:=hJ2 u hu
    rw [t] at h
    exact h.sub
 ·have ht:cs.take k=cs:=List.take_of_length_le (by simpa using h)
  rw [ht] at hle ⊢
  refine vG (zs:=fg cs n wide) (by omega) ?_
  refine gr ?_
  refine rV (zs:=(fg cs n wide).mergeSort fun x y=>decide (x≤y)) (by rw [List.length_mergeSort];omega) fun y hy=>?_
  exact hK y hy
end
end Go.Proofs.YtoealglbimbbmaaGreatDoor.S
namespace Go.Proofs.YtoealglbimbbmaaGreatDoor.S
open Go Go.Proofs
set_option linter.unusedVariables false
set_option linter.unusedSimpArgs false
def fm (f:Nat→Bool)(m:Nat):List Int:=((List.range m).filter f).map fun(j:Nat)=>(j:Int)
theorem zk {f:Nat→Bool}{m:Nat}:(fm f m).Pairwise (·<·):=by
 unfold fm
 rw [List.pairwise_map]
 exact(List.Pairwise.filter _ List.pairwise_lt_range).imp (fun h=>by omega)
theorem zQ {f:Nat→Bool}{m:Nat}{x:Int}:x∈fm f m↔∃j,j<m∧f j=true∧(j:Int)=x:=by
 simp [fm,and_assoc]
theorem MN {a n wide:Int}(h:0≤es a n wide):∃s:Nat,es a n wide=(s:Int)∧s<16:=by
 have hb:=eQ (n:=n) (show (1:Int)≤16 by omega)
 have h2:es a n wide<16:=by
  unfold es at h ⊢
  split
  ·omega
  ·have:=Int.tmod_lt_of_pos (IntKind.wrap .i64 (a.tdiv (held wide 1 16))) (show 0<held n 1 16 by omega)
   omega
 exact⟨(es a n wide).toNat,by omega,by omega⟩
def dr (cs:List aw)(n wide:Int)(j:Nat):Bool:=(fg cs n wide).contains (j:Int)
theorem F9 {cs:List aw}{n wide:Int}:Lib.compact ((fg cs n wide).mergeSort fun x y=>decide (x≤y))=fm (dr cs n wide) 16:=by
 refine J5 zk fun x=>?_
 rw [zQ]
 constructor
 ·rintro⟨j,_,h,rfl⟩
  simpa [dr] using h
 ·intro h
  have h2:=h
  simp only [fg,List.mem_filter,List.mem_map,decide_eq_true_eq] at h2
  obtain⟨⟨c,_,rfl⟩,h0⟩:=h2
  obtain⟨s,e,hs⟩:=MN h0
  rw [e] at h ⊢
  exact⟨s,hs,by simpa [dr] using h,rfl⟩
section
variable {w0:bg}{L M:List ax}{K:KV}{F:World→Prop}{C:ax→List ax}{b:Nat}{cs:List aw}
set_option maxHeartbeats 1000000 in
end
end Go.Proofs.YtoealglbimbbmaaGreatDoor.S
