import Derived.Test.YtoealglbimbbmaaGreatDoorFrame
namespace Go.Proofs.YtoealglbimbbmaaGreatDoor.S
open Go Go.ChangeShapes Go.WideShapes Go.ChangeAt Go.RowKit
set_option linter.unusedVariables false
def M7 (sz:Nat)(Gd:List Value→Prop)(w:World)(v:Value)(n:Nat):Prop :=
 ∃oa cap,v=.slice oa n cap∧(oa=none→n=0∧cap=0)∧∀i,i<n→∃e o cs,oa=some ⟨e,o,none⟩∧mem w e=some cs∧o+(i+1)*sz≤cs.length∧Gd ((cs.drop (o+i*sz)).take sz)
inductive NK where
 | p (k:CK)
 | s (ks:List CK)
def SH (w:World):List NK→List Value→Prop
 | [],[]=>True
 | .p .b::r,.bool _::vs=>SH w r vs
 | .p (.i k)::r,.int k' n::vs=>k'=k∧(Lit.int k n).wf=true∧SH w r vs
 | .s ks::r,v::vs=>(∃n,M7 ks.length (good ks) w v n)∧SH w r vs
 | _,_=>False
def Pa (g:TypeId→Option (List NK))(c:TypeId→Nat):List Field→Nat→Option (List NK)
 | [],_=>some []
 | f::fs,o=>match g f.type with
  | some ks=>if f.offset=o∧ks.length=c f.type then (match Pa g c fs (o+ks.length) with | some l=>some (ks++l) | none=>none) else none
  | none=>none
def UV (P:Program):Nat→TypeId→Option (List NK)
 | 0,_=>none
 | n+1,t=>match P.underlying t with
  | some .bool=>some [.p .b]
  | some (.int k)=>some [.p (.i k)]
  | some (.slice e)=>match kinds P n e with
   | some ks=>if P.cellsOf e=ks.length∧0<ks.length then some [.s ks] else none
   | none=>none
  | some (.struct fs)=>match Pa (UV P n) P.cellsOf fs.toList 0 with
   | some ks=>if ks.length=P.cellsOf t then some ks else none
   | none=>none
  | _=>none
section
variable {H:Type}{enc:TypeId×Value→H}{P:Program}{w:World}{base:Nat}{spare:Nat→Bool}{held:Bool}
theorem rR {t e:TypeId}{sz fuel:Nat}{Gd:List Value→Prop}{cs:List Value}{x:DataW H×List MemPlace}(ht:P.underlying t=some (.slice e))(hc:P.cellsOf e=sz)(h0:0<sz)
  (hgood:∀(n:Nat) (cs':List Value) (y:DataW H×List MemPlace),DataW.trod enc P w base spare held n e cs'=some y→Gd cs') (hf:DataW.trod enc P w base spare held fuel t cs=some x) :
  ∃v n,cs=[v]∧M7 sz Gd w v n∧(n=0∨∃el sp,x.1=.slice el sp∧el.length=n):=by
 rcases Deep.open_slice ht hf with ⟨he,_⟩ | ⟨a,len,cap,m,n,D,Pl,hcs,hb,hl,hm,hmm,hx,hi⟩
 ·exact⟨_,0,he,⟨none,0,rfl,fun _=>⟨rfl,rfl⟩,fun i hi=>by omega⟩,.inl rfl⟩
 ·have hlm:len≤m:=by rw [hmm];split <;> omega
  refine⟨_,len,hcs,⟨some a,cap,rfl,by simp,fun i hil=>?_⟩,.inr ⟨_,_,by rw [hx],by simp⟩⟩
  obtain⟨cs',h1,h2⟩:=hi i (by omega)
  have hg:=hgood n cs' _ h2
  obtain⟨_,h3,h4⟩:=World.cells?_some h1
  rw [hc] at h3 h4
  obtain⟨b,o,sp⟩:=a
  have hsp:sp=none:=by
   obtain⟨c0,g1,g2⟩:=hi 0 (by omega)
   obtain⟨_,g3,g4⟩:=World.cells?_some g1
   have g5:=g4 0 (by omega)
   rw [List.getElem?_eq_getElem (by omega)] at g5
   have e0:((⟨b,o,sp⟩:Addr).add (0*P.cellsOf e)).add 0=⟨b,o,sp⟩:=by simp [Addr.add]
   rw [e0] at g5
   exact cell_spot g5
  subst hsp
  simp only [nF] at h4
  have hsome:=h4 0 h0
  rw [List.getElem?_eq_getElem (by omega),KS] at hsome
  obtain⟨ds,hm2,_⟩:=Option.bind_eq_some_iff.1 hsome
  have h6:∀j,j<sz→ds[o+i*sz+j]? = cs'[j]?:=fun j hj=>by rw [←h4 j hj,KS,hm2];rfl
  have h7:o+i*sz+(sz-1)<ds.length:=by
   have:=h6 (sz-1) (by omega)
   rw [List.getElem?_eq_getElem (l:=cs') (by omega)] at this
   exact(List.getElem?_eq_some_iff.1 this).1
  have h8:(ds.drop (o+i*sz)).take sz=cs':=by
   apply List.ext_getElem?
   intro j
   rw [List.getElem?_take]
   split
   ·rename_i hj
    rw [List.getElem?_drop,h6 j hj]
   ·rw [List.getElem?_eq_none (by omega)]
  exact⟨b,o,ds,rfl,hm2,by rw [Nat.add_mul];omega,by rw [h8];exact hg⟩
end
end Go.Proofs.YtoealglbimbbmaaGreatDoor.S
