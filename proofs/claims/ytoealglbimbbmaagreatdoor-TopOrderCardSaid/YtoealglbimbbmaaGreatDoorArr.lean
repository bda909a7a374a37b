import Derived.Test.YtoealglbimbbmaaGreatDoorData
import Derived.Lib.SlicesCompact
namespace Go.Proofs.YtoealglbimbbmaaGreatDoor.S
open Go Go.Proofs
set_option linter.unusedVariables false
def U8 (n:Nat)(g:Nat→Value):List Value:=(List.range n).map g
def U7 {α:Type}(g:Nat→α)(k:Nat)(v:α):Nat→α:=fun j=>if j=k then v else g j
section
variable {w0:bh}{L:List ay}{K:KV}
end
theorem Ha:∀{a b:List Int},a.Pairwise (·<·)→b.Pairwise (·<·)→(∀x,x∈a↔x∈b)→a=b
 | [],[],_,_,_=>rfl
 | [],y::b,_,_,h=>absurd ((h y).2 (by simp)) (by simp)
 | x::a,[],_,_,h=>absurd ((h x).1 (by simp)) (by simp)
 | x::a,y::b,ha,hb,h=>by
  have ha1:=List.pairwise_cons.1 ha
  have hb1:=List.pairwise_cons.1 hb
  have e:x=y:=by
   rcases List.mem_cons.1 ((h x).1 (by simp)) with e | hx
   ·exact e
   ·rcases List.mem_cons.1 ((h y).2 (by simp)) with e | hy
    ·exact e.symm
    ·have:=hb1.1 x hx;have:=ha1.1 y hy;omega
  subst e
  rw [Ha ha1.2 hb1.2 fun z=>?_]
  constructor
  ·intro hz
   rcases List.mem_cons.1 ((h z).1 (List.mem_cons_of_mem _ hz)) with e | h1
   ·subst e;have:=ha1.1 z hz;omega
   ·exact h1
  ·intro hz
   rcases List.mem_cons.1 ((h z).2 (List.mem_cons_of_mem _ hz)) with e | h1
   ·subst e;have:=hb1.1 z hz;omega
   ·exact h1
theorem JD {zs:List Int}{x:Int}:x∈Lib.compact zs↔x∈zs:=by
 unfold Lib.compact Lib.compactUpTo
 simp only [List.mem_map,List.mem_filter,List.mem_range]
 constructor
 ·rintro⟨i,⟨hi,_⟩,rfl⟩
  simp [getElem!_pos,hi]
 ·intro hx
  have h0:∃n,n<zs.length∧zs.toArray[n]! = x:=by
   obtain⟨n,hn,e⟩:=List.getElem_of_mem hx
   exact⟨n,hn,by simp [getElem!_pos,hn,e]⟩
  obtain⟨n,⟨hn,e⟩,hmin⟩:=least h0
  refine⟨n,⟨hn,?_⟩,e⟩
  unfold Lib.keeps
  rw [decide_eq_true_eq]
  by_cases hz:n=0
  ·exact .inl hz
  ·refine .inr fun h=>hmin (n-1) (by omega) ⟨by omega,?_⟩
   rw [←h,e]
theorem EH {zs:List Int}(h:zs.Pairwise (·≤·)):(Lib.compact zs).Pairwise (·<·):=by
 unfold Lib.compact Lib.compactUpTo
 rw [List.pairwise_map]
 refine List.Pairwise.imp_of_mem ?_ (List.Pairwise.filter _ (List.pairwise_lt_range (n:=zs.length)))
 intro i j hi hj hij
 have hj2:=List.mem_filter.1 hj
 have hjn:j<zs.length:=List.mem_range.1 hj2.1
 have hk:=hj2.2
 unfold Lib.keeps at hk
 rw [decide_eq_true_eq] at hk
 have le:∀a b,a≤b→b<zs.length→zs.toArray[a]!≤zs.toArray[b]!:=fun a b hab hb=>by
  have ha:a<zs.length:=by omega
  simp only [List.getElem!_toArray,getElem!_pos,hb,ha]
  rcases Nat.lt_or_ge a b with h1 | h1
  ·exact List.pairwise_iff_getElem.1 h a b ha hb h1
  ·have:a=b:=by omega
   subst this;exact Int.le_refl _
 have h1:=le i (j-1) (by omega) (by omega)
 have h2:=le (j-1) j (by omega) hjn
 rcases hk with hk | hk
 ·omega
 ·omega
theorem JZ (zs:List Int):(zs.mergeSort fun x y=>decide (x≤y)).Pairwise (·≤·):=by
 have:=List.pairwise_mergeSort (le:=fun x y:Int=>decide (x≤y)) (fun a b c h1 h2=>by simp at *;omega) (fun a b=>by simp;omega) zs
 exact this.imp (fun h=>by simpa using h)
theorem I5 {zs ys:List Int}(h:ys.Pairwise (·<·))(hm:∀x,x∈ys↔x∈zs):Lib.compact (zs.mergeSort fun x y=>decide (x≤y))=ys :=
 Ha (EH (JZ zs)) h fun x=>by rw [JD,List.mem_mergeSort,hm]
end Go.Proofs.YtoealglbimbbmaaGreatDoor.S
