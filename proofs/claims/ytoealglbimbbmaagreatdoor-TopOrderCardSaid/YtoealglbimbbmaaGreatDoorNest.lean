import Derived.Test.YtoealglbimbbmaaGreatDoorSEq
import Derived.WideKeyArgs
import Derived.WalkKit
import Derived.ProofKit
import Derived.OpenShut
import Derived.Deep.Slices
import Derived.Lib.LaidU8
namespace Go.Proofs.YtoealglbimbbmaaGreatDoor.S
open Go Go.ChangeShapes Go.WideShapes Go.ChangeAt Go.RowKit
set_option linter.unusedVariables false
section
variable {H:Type}{enc:TypeId×Value→H}{P:Program}
theorem Hw (hl:laidOutB P=true){W W':World}{sp:Nat→Bool}(hb:Below W.heap.size W W'):∀{ts:List TypeId}{vs:List Value}{ds:List (DataW H)}{ps:List MemPlace},
  ts.all (fun t=>P.readableRec t && decide (t<P.types.size))=true→DataW.TrodAll enc P W 0 (fun _=>true) true ts vs ds ps→(∀x∈ps,x.block<W.heap.size)→(∀p∈ps,sp p.block=true) →
  DataW.TrodAll enc P W' 0 sp true ts vs ds ps
 | [],[],[],_,_,h,_,_=>h
 | t::_,_::_,_::_,_,hT,⟨p,q,h1,h2,e⟩,hlt,hs=>by
  simp only [List.all_cons,Bool.and_eq_true,decide_eq_true_eq] at hT
  subst e
  exact⟨p,q,WideElems.Trod_stays hl hT.1.1 hT.1.2 h1 (fun x hx=>hb.same (hlt x (List.mem_append_left _ hx))) (fun x hx=>hs x (List.mem_append_left _ hx)),
   Hw hl hb hT.2 h2 (fun x hx=>hlt x (List.mem_append_right _ hx)) (fun x hx=>hs x (List.mem_append_right _ hx)),rfl⟩
def good:List CK→List Value→Prop
 | [],[]=>True
 | .b::ks,.bool _::vs=>good ks vs
 | .i k::ks,.int k' n::vs=>k'=k∧(Lit.int k n).wf=true∧good ks vs
 | _,_=>False
theorem vG:∀{ks ks':List CK}{a b:List Value},good ks a→good ks' b→good (ks++ks') (a++b)
 | [],_,[],_,_,h=>h
 | [],_,_::_,_,h,_=>h.elim
 | .b::ks,_,v::a,_,h,h'=>by cases v <;> simp [good] at h ⊢ <;> exact vG h h'
 | .i k::ks,_,v::a,_,h,h'=>by cases v <;> simp [good] at h ⊢ <;> exact⟨h.1,h.2.1,vG h.2.2 h'⟩
 | .b::ks,_,[],_,h,_=>h.elim
 | .i k::ks,_,[],_,h,_=>h.elim
def E6 (g:TypeId→Option (List CK))(c:TypeId→Nat):List Field→Nat→Option (List CK)
 | [],_=>some []
 | f::fs,o=>match g f.type with
  | some ks=>if f.offset=o∧ks.length=c f.type then (match E6 g c fs (o+ks.length) with | some l=>some (ks++l) | none=>none) else none
  | none=>none
def kinds (P:Program):Nat→TypeId→Option (List CK)
 | 0,_=>none
 | n+1,t=>match P.underlying t with
  | some .bool=>some [.b]
  | some (.int k)=>some [.i k]
  | some (.struct fs)=>match E6 (kinds P n) P.cellsOf fs.toList 0 with
   | some ks=>if ks.length=P.cellsOf t then some ks else none
   | none=>none
  | _=>none
variable {w:World}{base:Nat}{spare:Nat→Bool}{held:Bool}
theorem Dq {g:TypeId→Option (List CK)}{cs:List Value}
  (hg:∀(t:TypeId) ks m cs' (y:DataW H×List MemPlace),g t=some ks→DataW.trod enc P w base spare held m t cs'=some y→good ks cs'):∀(l:List Field) (o:Nat) (ks:List CK),E6 g P.cellsOf l o=some ks →
  (∀f∈l,∃m y,DataW.trod enc P w base spare held m f.type ((cs.drop f.offset).take (P.cellsOf f.type))=some y)→o+ks.length=cs.length→good ks (cs.drop o)
 | [],o,ks,h,_,hl=>by
  simp only [E6,Option.some.injEq] at h
  subst h
  rw [List.drop_eq_nil_of_le (by simp at hl;omega)]
  trivial
 | f::l,o,ks,h,hf,hl=>by
  simp only [E6] at h
  split at h <;> try contradiction
  rename_i k1 e1
  split at h <;> try contradiction
  rename_i e2
  split at h <;> try contradiction
  rename_i k2 e3
  simp only [Option.some.injEq] at h
  subst h
  obtain⟨m,y,hy⟩:=hf f (by simp)
  have h1:=hg _ _ _ _ _ e1 hy
  rw [e2.1,←e2.2] at h1
  have h2:=Dq hg l _ _ e3 (fun f' hf'=>hf f' (by simp [hf'])) (by simp at hl;omega)
  have:=vG h1 h2
  rwa [←List.drop_drop,List.take_append_drop] at this
theorem ua:∀(n:Nat)(t:TypeId)(ks:List CK)(m:Nat)(cs:List Value)(y:DataW H×List MemPlace),kinds P n t=some ks→DataW.trod enc P w base spare held m t cs=some y→good ks cs
 | 0,t,ks,m,cs,y,h,_=>by simp [kinds] at h
 | n+1,t,ks,m,cs,y,h,hy=>by
  simp only [kinds] at h
  split at h
  ·rename_i e
   obtain⟨b,rfl,_⟩:=DataW.trod_bool e hy
   cases h;trivial
  ·rename_i k e
   obtain⟨b,rfl,_,hw⟩:=DataW.trod_int e hy
   cases h;exact⟨rfl,hw,trivial⟩
  ·rename_i fs e
   split at h <;> try contradiction
   rename_i k1 e1
   split at h <;> try contradiction
   rename_i e2
   cases h
   obtain⟨xs,m',_,_,hl,hlen,hf⟩:=DataW.trod_struct e hy
   have:=Dq (cs:=cs) (ua n) fs.toList 0 ks e1 (fun f hfm=>by
    obtain⟨i,hi,rfl⟩:=List.getElem_of_mem hfm
    have hi':i<fs.size:=by simpa using hi
    have h3:=hf i fs[i] (by simp [hi'])
    rw [List.getElem?_eq_getElem (by omega)] at h3
    exact⟨m',_,by simpa using h3⟩) (by omega)
   simpa using this
  ·contradiction
def Ep (ks:List CK)(w:World)(v:Value)(n B:Nat):Prop :=
 ∃oa cap,v=.slice oa n cap∧(oa=none→n=0∧cap=0)∧∀i,i<n→∃e o cs,oa=some ⟨e,o,none⟩∧e<B∧mem w e=some cs∧o+(i+1)*ks.length≤cs.length∧good ks ((cs.drop (o+i*ks.length)).take ks.length)
theorem Ep.step {ks:List CK}{fp:List Nat}{w w':World}{v:Value}{n B:Nat}(h:Ep ks w v n B)(s:jc fp w w')(hn:∀e∈fp,B≤e):Ep ks w' v n B:=by
 obtain⟨oa,cap,h1,h2,h3⟩:=h
 refine⟨oa,cap,h1,h2,fun i hi=>?_⟩
 obtain⟨e,o,cs,g1,g2,g3,g4,g5⟩:=h3 i hi
 exact⟨e,o,cs,g1,g2,s.mem_some g3 (fun hm=>by have:=hn e hm;omega),g4,g5⟩
theorem Ep.nil (ks:List CK)(w:World)(B:Nat):Ep ks w (.slice none 0 0) 0 B:=⟨none,0,rfl,fun _=>⟨rfl,rfl⟩,fun i hi=>by omega⟩
theorem EY {l:List Value}(h:good [] l):l=[]:=by cases l <;> simp [good] at h ⊢
theorem kW {k:IntKind}{ks:List CK}{l:List Value}(h:good (.i k::ks) l):∃n l',l=.int k n::l'∧(Lit.int k n).wf=true∧good ks l':=by
 cases l with
 | nil=>exact h.elim
 | cons v l=>cases v <;> first | exact⟨_,_,by rw [h.1],h.2⟩ | exact h.elim
end
end Go.Proofs.YtoealglbimbbmaaGreatDoor.S
namespace Go.Proofs.YtoealglbimbbmaaGreatDoor.S
open Go Go.ChangeShapes Go.WideShapes Go.ChangeAt Go.RowKit
set_option linter.unusedVariables false
def Kq (sz:Nat)(Gd:List Value→Prop)(w:World)(v:Value)(n:Nat):Prop :=
 ∃oa cap,v=.slice oa n cap∧(oa=none→n=0∧cap=0)∧∀i,i<n→∃e o cs,oa=some ⟨e,o,none⟩∧mem w e=some cs∧o+(i+1)*sz≤cs.length∧Gd ((cs.drop (o+i*sz)).take sz)
inductive NK where
 | p (k:CK)
 | s (ks:List CK)
def PU (w:World):List NK→List Value→Prop
 | [],[]=>True
 | .p .b::r,.bool _::vs=>PU w r vs
 | .p (.i k)::r,.int k' n::vs=>k'=k∧(Lit.int k n).wf=true∧PU w r vs
 | .s ks::r,v::vs=>(∃n,Kq ks.length (good ks) w v n)∧PU w r vs
 | _,_=>False
def M6 (g:TypeId→Option (List NK))(c:TypeId→Nat):List Field→Nat→Option (List NK)
 | [],_=>some []
 | f::fs,o=>match g f.type with
  | some ks=>if f.offset=o∧ks.length=c f.type then (match M6 g c fs (o+ks.length) with | some l=>some (ks++l) | none=>none) else none
  | none=>none
def TG (P:Program):Nat→TypeId→Option (List NK)
 | 0,_=>none
 | n+1,t=>match P.underlying t with
  | some .bool=>some [.p .b]
  | some (.int k)=>some [.p (.i k)]
  | some (.slice e)=>match kinds P n e with
   | some ks=>if P.cellsOf e=ks.length∧0<ks.length then some [.s ks] else none
   | none=>none
  | some (.struct fs)=>match M6 (TG P n) P.cellsOf fs.toList 0 with
   | some ks=>if ks.length=P.cellsOf t then some ks else none
   | none=>none
  | _=>none
section
variable {H:Type}{enc:TypeId×Value→H}{P:Program}{w:World}{base:Nat}{spare:Nat→Bool}{held:Bool}
theorem nQ {t e:TypeId}{sz fuel:Nat}{Gd:List Value→Prop}{cs:List Value}{x:DataW H×List MemPlace}(ht:P.underlying t=some (.slice e))(hc:P.cellsOf e=sz)(h0:0<sz)
  (hgood:∀(n:Nat) (cs':List Value) (y:DataW H×List MemPlace),DataW.trod enc P w base spare held n e cs'=some y→Gd cs') (hf:DataW.trod enc P w base spare held fuel t cs=some x) :
  ∃v n,cs=[v]∧Kq sz Gd w v n∧(n=0∨∃el sp,x.1=.slice el sp∧el.length=n):=by
 rcases Deep.open_slice ht hf with ⟨he,_⟩ | ⟨a,len,cap,m,n,D,Pl,hcs,hb,hl,hm,hmm,hx,hi⟩
 ·exact⟨_,0,he,⟨none,0,rfl,fun _=>⟨rfl,rfl⟩,fun i hi=>by omega⟩,.inl rfl⟩
 ·have hlm:len≤m:=by rw [hmm];split <;> omega
  refine⟨_,len,hcs,⟨some a,cap,rfl,by simp,fun i hil=>?_⟩,.inr ⟨_,_,by rw [hx],by simp⟩⟩
  obtain⟨cs',h1,h2⟩:=hi i (by omega)
  have hg:=hgood n cs' _ h2
  obtain⟨_,h3,h4⟩:=World.cells?_some h1
  rw [hc] at h3 h4
  obtain⟨b,o,sp⟩:=a
  have hsp:sp=none:=by
   obtain⟨c0,g1,g2⟩:=hi 0 (by omega)
   obtain⟨_,g3,g4⟩:=World.cells?_some g1
   have g5:=g4 0 (by omega)
   rw [List.getElem?_eq_getElem (by omega)] at g5
   have e0:((⟨b,o,sp⟩:Addr).add (0*P.cellsOf e)).add 0=⟨b,o,sp⟩:=by simp [Addr.add]
   rw [e0] at g5
   exact cell_spot g5
  subst hsp
  simp only [pf] at h4
  have hsome:=h4 0 h0
  rw [List.getElem?_eq_getElem (by omega),Jn] at hsome
  obtain⟨ds,hm2,_⟩:=Option.bind_eq_some_iff.1 hsome
  have h6:∀j,j<sz→ds[o+i*sz+j]? = cs'[j]?:=fun j hj=>by rw [←h4 j hj,Jn,hm2];rfl
  have h7:o+i*sz+(sz-1)<ds.length:=by
   have:=h6 (sz-1) (by omega)
   rw [List.getElem?_eq_getElem (l:=cs') (by omega)] at this
   exact(List.getElem?_eq_some_iff.1 this).1
  have h8:(ds.drop (o+i*sz)).take sz=cs':=by
   apply List.ext_getElem?
   intro j
   rw [List.getElem?_take]
   split
   ·rename_i hj
    rw [List.getElem?_drop,h6 j hj]
   ·rw [List.getElem?_eq_none (by omega)]
  exact⟨b,o,ds,rfl,hm2,by rw [Nat.add_mul];omega,by rw [h8];exact hg⟩
end
end Go.Proofs.YtoealglbimbbmaaGreatDoor.S
