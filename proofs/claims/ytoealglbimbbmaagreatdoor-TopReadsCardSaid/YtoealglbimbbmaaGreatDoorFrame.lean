import Derived.Test.YtoealglbimbbmaaGreatDoorSEq
import Derived.WideKeyArgs
import Derived.WalkKit
import Derived.ProofKit
import Derived.OpenShut
import Derived.Deep.Slices
import Derived.Lib.LaidU8
namespace Go.Proofs.YtoealglbimbbmaaGreatDoor.S
open Go Go.ChangeShapes Go.WideShapes Go.ChangeAt Go.RowKit
set_option linter.unusedVariables false
section
variable {H:Type}{enc:TypeId×Value→H}{P:Program}
theorem IM (hl:laidOutB P=true){W W':World}{sp:Nat→Bool}(hb:Below W.heap.size W W'):∀{ts:List TypeId}{vs:List Value}{ds:List (DataW H)}{ps:List MemPlace},
  ts.all (fun t=>P.readableRec t && decide (t<P.types.size))=true→DataW.TrodAll enc P W 0 (fun _=>true) true ts vs ds ps→(∀x∈ps,x.block<W.heap.size)→(∀p∈ps,sp p.block=true) →
  DataW.TrodAll enc P W' 0 sp true ts vs ds ps
 | [],[],[],_,_,h,_,_=>h
 | t::_,_::_,_::_,_,hT,⟨p,q,h1,h2,e⟩,hlt,hs=>by
  simp only [List.all_cons,Bool.and_eq_true,decide_eq_true_eq] at hT
  subst e
  exact⟨p,q,WideElems.Trod_stays hl hT.1.1 hT.1.2 h1 (fun x hx=>hb.same (hlt x (List.mem_append_left _ hx))) (fun x hx=>hs x (List.mem_append_left _ hx)),
   IM hl hb hT.2 h2 (fun x hx=>hlt x (List.mem_append_right _ hx)) (fun x hx=>hs x (List.mem_append_right _ hx)),rfl⟩
def good:List CK→List Value→Prop
 | [],[]=>True
 | .b::ks,.bool _::vs=>good ks vs
 | .i k::ks,.int k' n::vs=>k'=k∧(Lit.int k n).wf=true∧good ks vs
 | _,_=>False
theorem xM:∀{ks ks':List CK}{a b:List Value},good ks a→good ks' b→good (ks++ks') (a++b)
 | [],_,[],_,_,h=>h
 | [],_,_::_,_,h,_=>h.elim
 | .b::ks,_,v::a,_,h,h'=>by cases v <;> simp [good] at h ⊢ <;> exact xM h h'
 | .i k::ks,_,v::a,_,h,h'=>by cases v <;> simp [good] at h ⊢ <;> exact⟨h.1,h.2.1,xM h.2.2 h'⟩
 | .b::ks,_,[],_,h,_=>h.elim
 | .i k::ks,_,[],_,h,_=>h.elim
def G0 (g:TypeId→Option (List CK))(c:TypeId→Nat):List Field→Nat→Option (List CK)
 | [],_=>some []
 | f::fs,o=>match g f.type with
  | some ks=>if f.offset=o∧ks.length=c f.type then (match G0 g c fs (o+ks.length) with | some l=>some (ks++l) | none=>none) else none
  | none=>none
def kinds (P:Program):Nat→TypeId→Option (List CK)
 | 0,_=>none
 | n+1,t=>match P.underlying t with
  | some .bool=>some [.b]
  | some (.int k)=>some [.i k]
  | some (.struct fs)=>match G0 (kinds P n) P.cellsOf fs.toList 0 with
   | some ks=>if ks.length=P.cellsOf t then some ks else none
   | none=>none
  | _=>none
variable {w:World}{base:Nat}{spare:Nat→Bool}{held:Bool}
theorem Eg {g:TypeId→Option (List CK)}{cs:List Value}
  (hg:∀(t:TypeId) ks m cs' (y:DataW H×List MemPlace),g t=some ks→DataW.trod enc P w base spare held m t cs'=some y→good ks cs'):∀(l:List Field) (o:Nat) (ks:List CK),G0 g P.cellsOf l o=some ks →
  (∀f∈l,∃m y,DataW.trod enc P w base spare held m f.type ((cs.drop f.offset).take (P.cellsOf f.type))=some y)→o+ks.length=cs.length→good ks (cs.drop o)
 | [],o,ks,h,_,hl=>by
  simp only [G0,Option.some.injEq] at h
  subst h
  rw [List.drop_eq_nil_of_le (by simp at hl;omega)]
  trivial
 | f::l,o,ks,h,hf,hl=>by
  simp only [G0] at h
  split at h <;> try contradiction
  rename_i k1 e1
  split at h <;> try contradiction
  rename_i e2
  split at h <;> try contradiction
  rename_i k2 e3
  simp only [Option.some.injEq] at h
  subst h
  obtain⟨m,y,hy⟩:=hf f (by simp)
  have h1:=hg _ _ _ _ _ e1 hy
  rw [e2.1,←e2.2] at h1
  have h2:=Eg hg l _ _ e3 (fun f' hf'=>hf f' (by simp [hf'])) (by simp at hl;omega)
  have:=xM h1 h2
  rwa [←List.drop_drop,List.take_append_drop] at this
theorem ul:∀(n:Nat)(t:TypeId)(ks:List CK)(m:Nat)(cs:List Value)(y:DataW H×List MemPlace),kinds P n t=some ks→DataW.trod enc P w base spare held m t cs=some y→good ks cs
 | 0,t,ks,m,cs,y,h,_=>by simp [kinds] at h
 | n+1,t,ks,m,cs,y,h,hy=>by
  simp only [kinds] at h
  split at h
  ·rename_i e
   obtain⟨b,rfl,_⟩:=DataW.trod_bool e hy
   cases h;trivial
  ·rename_i k e
   obtain⟨b,rfl,_,hw⟩:=DataW.trod_int e hy
   cases h;exact⟨rfl,hw,trivial⟩
  ·rename_i fs e
   split at h <;> try contradiction
   rename_i k1 e1
   split at h <;> try contradiction
   rename_i e2
   cases h
   obtain⟨xs,m',_,_,hl,hlen,hf⟩:=DataW.trod_struct e hy
   have:=Eg (cs:=cs) (ul n) fs.toList 0 ks e1 (fun f hfm=>by
    obtain⟨i,hi,rfl⟩:=List.getElem_of_mem hfm
    have hi':i<fs.size:=by simpa using hi
    have h3:=hf i fs[i] (by simp [hi'])
    rw [List.getElem?_eq_getElem (by omega)] at h3
    exact⟨m',_,by simpa using h3⟩) (by omega)
   simpa using this
  ·contradiction
def Gt (ks:List CK)(w:World)(v:Value)(n B:Nat):Prop :=
 ∃oa cap,v=.slice oa n cap∧(oa=none→n=0∧cap=0)∧∀i,i<n→∃e o cs,oa=some ⟨e,o,none⟩∧e<B∧mem w e=some cs∧o+(i+1)*ks.length≤cs.length∧good ks ((cs.drop (o+i*ks.length)).take ks.length)
theorem Gt.step {ks:List CK}{fp:List Nat}{w w':World}{v:Value}{n B:Nat}(h:Gt ks w v n B)(s:iR fp w w')(hn:∀e∈fp,B≤e):Gt ks w' v n B:=by
 obtain⟨oa,cap,h1,h2,h3⟩:=h
 refine⟨oa,cap,h1,h2,fun i hi=>?_⟩
 obtain⟨e,o,cs,g1,g2,g3,g4,g5⟩:=h3 i hi
 exact⟨e,o,cs,g1,g2,s.mem_some g3 (fun hm=>by have:=hn e hm;omega),g4,g5⟩
theorem Gt.nil (ks:List CK)(w:World)(B:Nat):Gt ks w (.slice none 0 0) 0 B:=⟨none,0,rfl,fun _=>⟨rfl,rfl⟩,fun i hi=>by omega⟩
theorem GX {l:List Value}(h:good [] l):l=[]:=by cases l <;> simp [good] at h ⊢
theorem lI {k:IntKind}{ks:List CK}{l:List Value}(h:good (.i k::ks) l):∃n l',l=.int k n::l'∧(Lit.int k n).wf=true∧good ks l':=by
 cases l with
 | nil=>exact h.elim
 | cons v l=>cases v <;> first | exact⟨_,_,by rw [h.1],h.2⟩ | exact h.elim
end
end Go.Proofs.YtoealglbimbbmaaGreatDoor.S
