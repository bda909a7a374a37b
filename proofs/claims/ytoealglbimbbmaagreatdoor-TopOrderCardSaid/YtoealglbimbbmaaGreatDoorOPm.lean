import Derived.Test.YtoealglbimbbmaaGreatDoorOPl
namespace Go.Proofs.YtoealglbimbbmaaGreatDoor.S
open Go Go.Proofs
set_option linter.unusedVariables false
set_option linter.unusedSimpArgs false
structure Hx where
 hd:List (Nat×Int)
 up:Option Int
 wr:Bool
 cells:List au
 put:Nat
structure Gs where
 lk:Nat→cw
 w:Hp
 T:Int
 L:tW
 X:Nat→Hx
def cq (X:Nat→Hx)(i:Nat)(x:Hx):Nat→Hx:=fun j=>if j=i then x else X j
def Bi (f:Nat→cw)(s:Nat)(l:cw):Nat→cw:=fun j=>if j=s then l else f j
structure fJ (str:Int→Nat)(h0:Hp)(n:Nat)(G:Gs):Prop where
 t0:0≤G.T
 v:∀s,0≤(G.lk s).version∧(G.lk s).version≤G.T
 own:∀i,i<n→∀s V,(s,V)∈(G.X i).hd→G.lk s=⟨V,true,i⟩
 by_:∀s,(G.lk s).held=true→∃i,i<n∧∃V,(s,V)∈(G.X i).hd
 free:∀s,(G.lk s).held=false→(G.lk s).owner=0
 nod:∀i,i<n→((G.X i).hd.map (·.1)).Nodup
 upT:∀i,i<n→∀now,(G.X i).up=some now→0≤now∧now+1≤G.T∧∀s V,(s,V)∈(G.X i).hd→V≤now
 upN:∀i j a,i<n→j<n→(G.X i).up=some a→(G.X j).up=some a→i=j
 wrU:∀i,i<n→(G.X i).wr=true→∃now,(G.X i).up=some now∧(now+1,(G.X i).cells)∈G.L
 upL:∀i,i<n→(G.X i).wr=false→∀now,(G.X i).up=some now→∀x∈G.L,x.1≠now+1
 log:G.L.Pairwise FV
 logT:∀x∈G.L,0<x.1∧x.1≤G.T
 logv:∀x∈G.L,∀y∈x.2,x.1≤(G.lk (str y.place)).version∨∃i,i<n∧(G.X i).wr=true∧(G.X i).up=some (x.1-1)∧∃V,(str y.place,V)∈(G.X i).hd
 heap:∀c,(∀i,i<n→(G.X i).wr=true→∀V,(str c,V) ∉ (G.X i).hd)→∀t,(G.lk (str c)).version≤t→Gc h0 G.L t c=G.w c
 wrk:∀i,i<n→(G.X i).wr=true→∀now,(G.X i).up=some now→∀c V,(str c,V)∈(G.X i).hd→((∀y∈(G.X i).cells,y.place≠c)→∀t,V≤t→Gc h0 G.L t c=G.w c)∧((∃y∈(G.X i).cells,y.place=c)→∀t,now+1≤t→Gc h0 G.L t c=IG h0 (G.X i).cells c)
 sto:∀i,i<n→(G.X i).wr=true→∀y∈(G.X i).cells.take (G.X i).put,(∃V,(str y.place,V)∈(G.X i).hd)→G.w y.place=y.word
 nd:∀i,i<n→(G.X i).wr=true→((G.X i).cells.map (·.place)).Nodup
 cov:∀i,i<n→(G.X i).wr=true→∀y∈(G.X i).cells,(∃V,(str y.place,V)∈(G.X i).hd)∨(G.X i).put=(G.X i).cells.length
structure iC (str:Int→Nat)(h0:Hp)(n:Nat)(G:Gs)(i:Nat)(τ:Int)(ks:List au)(s:Nat)(v:Int):Prop where
 v0:v≤τ
 ver:(G.lk s).version=v∨τ<(G.lk s).version
 up:∀k,k<n→k≠i→∀now,(G.X k).up=some now→(∃V,(s,V)∈(G.X k).hd)→τ<now+1
 at_:∀r∈ks,str r.place=s→Gc h0 G.L τ r.place=r.word
structure Lt (str:Int→Nat)(n:Nat)(G G':Gs)(me:Nat):Prop where
 T:G.T≤G'.T
 ver:∀s,(G'.lk s).version=(G.lk s).version∨∃now,(G.X me).up=some now∧(∃V,(s,V)∈(G.X me).hd)∧(G'.lk s).version=now+1
 up:∀k,k<n→∀now,(G'.X k).up=some now→∀s V,(s,V)∈(G'.X k).hd→((G.X k).up=some now∧(s,V)∈(G.X k).hd)∨G.T≤now
 L:G'.L=G.L∨∃now cs,(G.X me).up=some now∧G'.L=vE (now+1) cs G.L∧(∀z∈cs,∃V,(str z.place,V)∈(G.X me).hd)∧∀x∈G.L,now+1<x.1→∀y∈x.2,∀z∈cs,y.place≠z.place
section
variable {str:Int→Nat}{h0:Hp}{n:Nat}{G G':Gs}{me i:Nat}{τ:Int}{ks:List au}{s:Nat}{v:Int}
theorem fN {X:Nat→Hx}{x:Hx}:cq X me x me=x:=if_pos rfl
theorem fi {X:Nat→Hx}{x:Hx}{j:Nat}(h:j≠me):cq X me x j=X j:=if_neg h
theorem Ph (hi:fJ str h0 n G)(ht:Lt str n G G' me){c:Int}(h:∀now,(G.X me).up=some now→(∃V,(str c,V)∈(G.X me).hd)→τ<now+1):Gc h0 G'.L τ c=Gc h0 G.L τ c:=by
 rcases ht.L with e | ⟨now,cs,e1,e2,e3,e4⟩
 ·rw [e]
 ·rw [e2,IV hi.log e4]
  split
  ·rename_i g
   by_cases hc:∃z∈cs,z.place=c
   ·obtain⟨z,hz,rfl⟩:=hc
    have:=h now e1 (e3 z hz)
    omega
   ·exact nS fun z hz e=>hc ⟨z,hz,e⟩
  ·rfl
theorem iC.tr (hi:fJ str h0 n G)(hm:me<n)(ht:Lt str n G G' me)(hme:i≠me)(hT:τ≤G.T)(h:iC str h0 n G i τ ks s v):iC str h0 n G' i τ ks s v:=by
 obtain⟨h1,h2,h3,h4⟩:=h
 refine⟨h1,?_,fun k hk hki now hu hh=>?_,fun r hr hs=>?_⟩
 ·rcases ht.ver s with e | ⟨now,e1,e2,e3⟩
  ·rw [e];exact h2
  ·have:=h3 me hm (fun g=>hme g.symm) now e1 e2
   right;omega
 ·obtain⟨V,hV⟩:=hh
  rcases ht.up k hk now hu s V hV with ⟨g1,g2⟩ | g
  ·exact h3 k hk hki now g1 ⟨V,g2⟩
  ·omega
 ·rw [Ph hi ht (fun now e1 e2=>h3 me hm (fun g=>hme g.symm) now e1 (by rw [←hs];exact e2))]
  exact h4 r hr hs
theorem iC.now {st:Int}(hi:fJ str h0 n G)(h:iC str h0 n G i st ks s v)(hv:(G.lk s).version=v)(hf:(G.lk s).held=false∨((G.lk s).owner=i∧(G.X i).wr=false))(h1:v≤τ)(h2:τ≤G.T):iC str h0 n G i τ ks s v:=by
 have hno:∀k,k<n→∀V,(s,V)∈(G.X k).hd→(G.lk s).held=true∧k=i∧(G.X i).wr=false:=fun k hk V g=>by
  have e:=hi.own k hk s V g
  rcases hf with f | ⟨f1,f2⟩
  ·rw [e] at f;cases f
  ·rw [e] at f1
   exact⟨by rw [e],by have:(k:Int)=i:=f1;omega,f2⟩
 refine⟨h1,.inl hv,fun k hk hki now hu hh=>?_,fun r hr hs=>?_⟩
 ·obtain⟨V,g⟩:=hh
  exact absurd (hno k hk V g).2.1 hki
 ·have hw:∀k,k<n→(G.X k).wr=true→∀V,(str r.place,V) ∉ (G.X k).hd:=fun k hk hwr V g=>by
   rw [hs] at g
   obtain⟨_,rfl,g2⟩:=hno k hk V g
   rw [g2] at hwr;cases hwr
  have e:=hi.heap r.place hw
  rw [hs,hv] at e
  rw [e τ h1,←e st h.v0]
  exact h.at_ r hr hs
theorem xM {f:Nat→cw}{l:cw}:Bi f s l s=l:=if_pos rfl
theorem ub {f:Nat→cw}{l:cw}{j:Nat}(h:j≠s):Bi f s l j=f j:=if_neg h
theorem fJ.one (hi:fJ str h0 n G){j:Nat}{V V':Int}(h1:i<n)(h2:j<n)(g1:(s,V)∈(G.X i).hd)(g2:(s,V')∈(G.X j).hd):i=j∧V=V':=by
 have e1:=hi.own i h1 s V g1
 have e2:=hi.own j h2 s V' g2
 rw [e1] at e2
 simp only [cw.mk.injEq,true_and] at e2
 exact⟨by omega,e2.1⟩
def uB (G:Gs)(me s:Nat)(V:Int):Gs:={ G with lk:=Bi G.lk s ⟨V,true,me⟩,X:=cq G.X me { G.X me with hd:=(G.X me).hd++[(s,V)] } }
theorem Ky {V:Int}(hs:G.lk s=⟨V,false,0⟩)(s':Nat):((uB G me s V).lk s').version=(G.lk s').version:=by
 show (Bi G.lk s ⟨V,true,me⟩ s').version=_
 by_cases c:s'=s
 ·subst c;rw [xM,hs]
 ·rw [ub c]
theorem Pk {V:Int}(hi:fJ str h0 n G)(hm:me<n)(hs:G.lk s=⟨V,false,0⟩)(hu:(G.X me).up=none)(hw:(G.X me).wr=false):fJ str h0 n (uB G me s V)∧Lt str n G (uB G me s V) me:=by
 have hv:=fun s'=>Ky (me:=me) hs s'
 have hno:∀i,i<n→∀V',(s,V') ∉ (G.X i).hd:=fun i h V' g=>by rw [hi.own i h s V' g] at hs;cases hs
 have hX:∀i,((uB G me s V).X i).up=(G.X i).up∧((uB G me s V).X i).wr=(G.X i).wr∧((uB G me s V).X i).cells=(G.X i).cells∧((uB G me s V).X i).put=(G.X i).put:=fun i=>by
  show (cq G.X me _ i).up=_∧(cq G.X me _ i).wr=_∧(cq G.X me _ i).cells=_∧(cq G.X me _ i).put=_
  by_cases c:i=me
  ·subst c;rw [fN];exact⟨rfl,rfl,rfl,rfl⟩
  ·rw [fi c];exact⟨rfl,rfl,rfl,rfl⟩
 have hH:∀i,i≠me→((uB G me s V).X i).hd=(G.X i).hd:=fun i c=>by show (cq G.X me _ i).hd=_;rw [fi c]
 have hM:((uB G me s V).X me).hd=(G.X me).hd++[(s,V)]:=by show (cq G.X me _ me).hd=_;rw [fN]
 have hwr:∀i,(G.X i).wr=true→((uB G me s V).X i).hd=(G.X i).hd:=fun i g=>hH i (fun c=>by subst c;rw [hw] at g;cases g)
 refine⟨⟨hi.t0,fun s'=>by rw [hv];exact hi.v s',fun i h s' V' g=>?_,fun s' g=>?_,fun s' g=>?_,fun i h=>?_,fun i h now g=>?_,fun i j a h1 h2 g1 g2=>hi.upN i j a h1 h2 (by rw [←(hX i).1];exact g1) (by rw [←(hX j).1];exact g2),fun i h g=>?_,fun i h g now g2=>hi.upL i h (by rw [←(hX i).2.1];exact g) now (by rw [←(hX i).1];exact g2),hi.log,hi.logT,fun x hx y hy=>?_,fun c g t ht=>?_,fun i h g now g2 c V' g3=>?_,fun i h g y hy=>?_,fun i h g=>?_,fun i h g y hy=>?_⟩,⟨Int.le_refl _,fun s'=>.inl (hv s'),fun k hk now g s' V' g2=>?_,.inl rfl⟩⟩
 ·show Bi G.lk s ⟨V,true,me⟩ s'=_
  by_cases c:i=me
  ·subst c
   rw [hM] at g
   rcases List.mem_append.1 g with g1 | g1
   ·have:s'≠s:=fun e=>hno i h V' (e ▸ g1)
    rw [ub this];exact hi.own i h s' V' g1
   ·rw [List.mem_singleton] at g1;cases g1;exact xM
  ·rw [hH i c] at g
   have:s'≠s:=fun e=>by subst e;exact hno i h V' g
   rw [ub this];exact hi.own i h s' V' g
 ·by_cases c:s'=s
  ·subst c;exact⟨me,hm,V,by rw [hM];simp⟩
  ·have g:(Bi G.lk s ⟨V,true,me⟩ s').held=true:=g
   rw [ub c] at g
   obtain⟨i,h,V',g2⟩:=hi.by_ s' g
   refine⟨i,h,V',?_⟩
   by_cases c2:i=me
   ·subst c2;rw [hM];exact List.mem_append_left _ g2
   ·rw [hH i c2];exact g2
 ·have g:(Bi G.lk s ⟨V,true,me⟩ s').held=false:=g
  show (Bi G.lk s ⟨V,true,me⟩ s').owner=0
  by_cases c:s'=s
  ·subst c;rw [xM] at g;cases g
  ·rw [ub c] at g ⊢;exact hi.free s' g
 ·by_cases c:i=me
  ·subst c
   rw [hM,List.map_append]
   refine List.nodup_append.2 ⟨hi.nod i h,by simp,fun a ha b hb=>?_⟩
   simp only [List.map_cons,List.map_nil,List.mem_singleton] at hb
   subst hb
   rintro rfl
   obtain⟨⟨s2,V2⟩,g1,g2⟩:=List.mem_map.1 ha
   simp only at g2
   subst g2
   exact hno i h V2 g1
  ·rw [hH i c];exact hi.nod i h
 ·rw [(hX i).1] at g
  have c:i≠me:=fun c=>by subst c;rw [hu] at g;cases g
  rw [hH i c];exact hi.upT i h now g
 ·rw [(hX i).2.1] at g
  rw [(hX i).1,(hX i).2.2.1];exact hi.wrU i h g
 ·rw [hv]
  rcases hi.logv x hx y hy with g | ⟨i,h,g1,g2,V',g3⟩
  ·exact .inl g
  ·exact .inr ⟨i,h,by rw [(hX i).2.1];exact g1,by rw [(hX i).1];exact g2,V',by rw [hwr i g1];exact g3⟩
 ·rw [hv] at ht
  exact hi.heap c (fun i h g2 V' g3=>g i h (by rw [(hX i).2.1];exact g2) V' (by rw [hwr i g2];exact g3)) t ht
 ·rw [(hX i).2.1] at g
  rw [(hX i).1] at g2
  rw [hwr i g] at g3
  rw [(hX i).2.2.1]
  exact hi.wrk i h g now g2 c V' g3
 ·rw [(hX i).2.1] at g
  rw [(hX i).2.2.1,(hX i).2.2.2] at hy
  rw [hwr i g]
  exact hi.sto i h g y hy
 ·rw [(hX i).2.1] at g
  rw [(hX i).2.2.1]
  exact hi.nd i h g
 ·rw [(hX i).2.1] at g
  rw [(hX i).2.2.1] at hy
  rw [hwr i g,(hX i).2.2.1,(hX i).2.2.2]
  exact hi.cov i h g y hy
 ·rw [(hX k).1] at g
  have c:k≠me:=fun c=>by subst c;rw [hu] at g;cases g
  rw [hH k c] at g2
  exact .inl ⟨g,g2⟩
def lX (G:Gs)(me:Nat):Gs:={ G with T:=G.T+1,X:=cq G.X me { G.X me with up:=some G.T } }
theorem NG (hi:fJ str h0 n G)(hm:me<n)(hw:(G.X me).wr=false):fJ str h0 n (lX G me)∧Lt str n G (lX G me) me:=by
 have hX:∀i,((lX G me).X i).hd=(G.X i).hd∧((lX G me).X i).wr=(G.X i).wr∧((lX G me).X i).cells=(G.X i).cells∧((lX G me).X i).put=(G.X i).put:=fun i=>by
  show (cq G.X me _ i).hd=_∧(cq G.X me _ i).wr=_∧(cq G.X me _ i).cells=_∧(cq G.X me _ i).put=_
  by_cases c:i=me
  ·subst c;rw [fN];exact⟨rfl,rfl,rfl,rfl⟩
  ·rw [fi c];exact⟨rfl,rfl,rfl,rfl⟩
 have hO:∀i,i≠me→((lX G me).X i).up=(G.X i).up:=fun i c=>by show (cq G.X me _ i).up=_;rw [fi c]
 have hM:((lX G me).X me).up=some G.T:=by show (cq G.X me _ me).up=_;rw [fN]
 have hT:(lX G me).T=G.T+1:=rfl
 have hwr:∀i,(G.X i).wr=true→((lX G me).X i).up=(G.X i).up:=fun i g=>hO i (fun c=>by subst c;rw [hw] at g;cases g)
 have t0:=hi.t0
 have hlow:∀j,j<n→∀a,(G.X j).up=some a→a≠G.T:=fun j h a g=>by have:=(hi.upT j h a g).2.1;omega
 refine⟨⟨by rw [hT];omega,fun s'=>by have:=hi.v s';rw [hT];exact⟨this.1,by show (G.lk s').version≤_;omega⟩,fun i h s' V' g=>hi.own i h s' V' (by rw [←(hX i).1];exact g),fun s' g=>?_,hi.free,fun i h=>by rw [(hX i).1];exact hi.nod i h,fun i h now g=>?_,fun i j a h1 h2 g1 g2=>?_,fun i h g=>?_,fun i h g now g2 x hx=>?_,hi.log,fun x hx=>by have:=hi.logT x hx;rw [hT];omega,fun x hx y hy=>?_,fun c g t ht=>?_,fun i h g now g2 c V' g3=>?_,fun i h g y hy=>?_,fun i h g=>?_,fun i h g y hy=>?_⟩,⟨by rw [hT];omega,fun s'=>.inl rfl,fun k hk now g s' V' g2=>?_,.inl rfl⟩⟩
 ·obtain⟨i,h,V',g2⟩:=hi.by_ s' g
  exact⟨i,h,V',by rw [(hX i).1];exact g2⟩
 ·rw [(hX i).1,hT]
  by_cases c:i=me
  ·subst c
   rw [hM] at g
   cases g
   refine⟨t0,Int.le_refl _,fun s' V' g=>?_⟩
   have e:=hi.own i h s' V' g
   have:=(hi.v s').2
   rw [e] at this
   exact this
  ·rw [hO i c] at g
   have:=hi.upT i h now g
   exact⟨this.1,by omega,this.2.2⟩
 ·by_cases c1:i=me
  ·by_cases c2:j=me
   ·omega
   ·subst c1
    rw [hM] at g1
    rw [hO j c2] at g2
    cases g1
    exact absurd rfl (hlow j h2 _ g2)
  ·by_cases c2:j=me
   ·subst c2
    rw [hM] at g2
    rw [hO i c1] at g1
    cases g2
    exact absurd rfl (hlow i h1 _ g1)
   ·rw [hO i c1] at g1
    rw [hO j c2] at g2
    exact hi.upN i j a h1 h2 g1 g2
 ·rw [(hX i).2.1] at g
  rw [hwr i g,(hX i).2.2.1];exact hi.wrU i h g
 ·rw [(hX i).2.1] at g
  by_cases c:i=me
  ·subst c
   rw [hM] at g2
   cases g2
   have:=(hi.logT x hx).2
   omega
  ·rw [hO i c] at g2
   exact hi.upL i h g now g2 x hx
 ·rcases hi.logv x hx y hy with g | ⟨i,h,g1,g2,V',g3⟩
  ·exact .inl g
  ·exact .inr ⟨i,h,by rw [(hX i).2.1];exact g1,by rw [hwr i g1];exact g2,V',by rw [(hX i).1];exact g3⟩
 ·exact hi.heap c (fun i h g2 V' g3=>g i h (by rw [(hX i).2.1];exact g2) V' (by rw [(hX i).1];exact g3)) t ht
 ·rw [(hX i).2.1] at g
  rw [hwr i g] at g2
  rw [(hX i).1] at g3
  rw [(hX i).2.2.1]
  exact hi.wrk i h g now g2 c V' g3
 ·rw [(hX i).2.1] at g
  rw [(hX i).2.2.1,(hX i).2.2.2] at hy
  rw [(hX i).1]
  exact hi.sto i h g y hy
 ·rw [(hX i).2.1] at g
  rw [(hX i).2.2.1]
  exact hi.nd i h g
 ·rw [(hX i).2.1] at g
  rw [(hX i).2.2.1] at hy
  rw [(hX i).1,(hX i).2.2.1,(hX i).2.2.2]
  exact hi.cov i h g y hy
 ·rw [(hX k).1] at g2
  by_cases c:k=me
  ·subst c;rw [hM] at g;cases g;exact .inr (Int.le_refl _)
  ·rw [hO k c] at g;exact .inl ⟨g,g2⟩
def gI (G:Gs)(me:Nat)(now:Int)(cs:List au):Gs:={ G with L:=vE (now+1) cs G.L,X:=cq G.X me { G.X me with wr:=true,cells:=cs,put:=0 } }
theorem FO {now:Int}{cs:List au}(hi:fJ str h0 n G)(hm:me<n)(hw:(G.X me).wr=false)(hu:(G.X me).up=some now)(hn:(cs.map (·.place)).Nodup)(hc:∀z∈cs,∃V,(str z.place,V)∈(G.X me).hd) :
  fJ str h0 n (gI G me now cs)∧Lt str n G (gI G me now cs) me:=by
 have hX:∀i,((gI G me now cs).X i).hd=(G.X i).hd∧((gI G me now cs).X i).up=(G.X i).up:=fun i=>by
  show (cq G.X me _ i).hd=_∧(cq G.X me _ i).up=_
  by_cases c:i=me
  ·subst c;rw [fN];exact⟨rfl,rfl⟩
  ·rw [fi c];exact⟨rfl,rfl⟩
 have hO:∀i,i≠me→((gI G me now cs).X i).wr=(G.X i).wr∧((gI G me now cs).X i).cells=(G.X i).cells∧((gI G me now cs).X i).put=(G.X i).put:=fun i c=>by
  show (cq G.X me _ i).wr=_∧(cq G.X me _ i).cells=_∧(cq G.X me _ i).put=_
  rw [fi c];exact⟨rfl,rfl,rfl⟩
 have hM:((gI G me now cs).X me).wr=true∧((gI G me now cs).X me).cells=cs∧((gI G me now cs).X me).put=0:=by
  show (cq G.X me _ me).wr=_∧(cq G.X me _ me).cells=_∧(cq G.X me _ me).put=_
  rw [fN];exact⟨rfl,rfl,rfl⟩
 have hL:(gI G me now cs).L=vE (now+1) cs G.L:=rfl
 have upm:=hi.upT me hm now hu
 have hdis:∀x∈G.L,now+1<x.1→∀y∈x.2,∀z∈cs,y.place≠z.place:=fun x hx hlt y hy z hz e=>by
  obtain⟨V,g⟩:=hc z hz
  rw [←e] at g
  rcases hi.logv x hx y hy with g2 | ⟨i,h,g1,g2,V',g3⟩
  ·have e2:=hi.own me hm _ V g
   have:=upm.2.2 _ V g
   rw [e2] at g2
   simp only at g2
   omega
  ·obtain⟨rfl,_⟩:=hi.one h hm g3 g
   rw [hw] at g1;cases g1
 have hat:∀t c,Gc h0 (gI G me now cs).L t c=if now+1≤t then IG (Gc h0 G.L t) cs c else Gc h0 G.L t c:=fun t c=>by rw [hL];exact IV hi.log hdis
 have hout:∀t c,(∀y∈cs,y.place≠c)→Gc h0 (gI G me now cs).L t c=Gc h0 G.L t c:=fun t c h=>by
  rw [hat]
  split
  ·exact nS h
  ·rfl
 have hoth:∀c,(∀V,(str c,V) ∉ (G.X me).hd)→∀t,Gc h0 (gI G me now cs).L t c=Gc h0 G.L t c:=fun c h t=>hout t c fun y hy e=>by
  obtain⟨V,g⟩:=hc y hy
  rw [e] at g
  exact h V g
 refine⟨⟨hi.t0,hi.v,fun i h s' V' g=>hi.own i h s' V' (by rw [←(hX i).1];exact g),fun s' g=>?_,hi.free,fun i h=>by rw [(hX i).1];exact hi.nod i h,fun i h a g=>?_,fun i j a h1 h2 g1 g2=>hi.upN i j a h1 h2 (by rw [←(hX i).2];exact g1) (by rw [←(hX j).2];exact g2),fun i h g=>?_,fun i h g a g2 x hx=>?_,?_,fun x hx=>?_,fun x hx y hy=>?_,fun c g t ht=>?_,fun i h g a g2 c V' g3=>?_,fun i h g y hy=>?_,fun i h g=>?_,fun i h g y hy=>?_⟩,⟨Int.le_refl _,fun s'=>.inl rfl,fun k hk a g s' V' g2=>.inl ⟨by rw [←(hX k).2];exact g,by rw [←(hX k).1];exact g2⟩,.inr ⟨now,cs,hu,rfl,hc,hdis⟩⟩⟩
 ·obtain⟨i,h,V',g2⟩:=hi.by_ s' g
  exact⟨i,h,V',by rw [(hX i).1];exact g2⟩
 ·rw [(hX i).2] at g
  rw [(hX i).1];exact hi.upT i h a g
 ·by_cases c:i=me
  ·subst c
   exact⟨now,by rw [(hX i).2];exact hu,by rw [hM.2.1,hL];exact oG.2 (.inl rfl)⟩
  ·rw [(hO i c).1] at g
   obtain⟨a,g1,g2⟩:=hi.wrU i h g
   exact⟨a,by rw [(hX i).2];exact g1,by rw [(hO i c).2.1,hL];exact oG.2 (.inr g2)⟩
 ·have c:i≠me:=fun c=>by subst c;rw [hM.1] at g;cases g
  rw [(hO i c).1] at g
  rw [(hX i).2] at g2
  rcases oG.1 hx with rfl | hx
  ·intro e
   have:a=now:=by simp only at e;omega
   subst this
   exact c (hi.upN i me a h hm g2 hu)
  ·exact hi.upL i h g a g2 x hx
 ·exact C9 hi.log fun x hx=>hi.upL me hm hw now hu x hx
 ·rcases oG.1 hx with rfl | hx
  ·have:=upm.1
   have:=upm.2.1
   exact⟨by show 0<now+1;omega,this⟩
  ·exact hi.logT x hx
 ·rcases oG.1 hx with rfl | hx
  ·right
   obtain⟨V,g⟩:=hc y hy
   exact⟨me,hm,hM.1,by rw [(hX me).2,hu];congr 1;show now=now+1-1;omega,V,by rw [(hX me).1];exact g⟩
  ·rcases hi.logv x hx y hy with g | ⟨i,h,g1,g2,V',g3⟩
   ·exact .inl g
   ·have c:i≠me:=fun c=>by subst c;rw [hw] at g1;cases g1
    exact .inr ⟨i,h,by rw [(hO i c).1];exact g1,by rw [(hX i).2];exact g2,V',by rw [(hX i).1];exact g3⟩
 ·have hnm:∀V,(str c,V) ∉ (G.X me).hd:=fun V g2=>g me hm hM.1 V (by rw [(hX me).1];exact g2)
  rw [hoth c hnm]
  refine hi.heap c (fun i h g2 V' g3=>?_) t ht
  have c2:i≠me:=fun c=>by subst c;rw [hw] at g2;cases g2
  exact g i h (by rw [(hO i c2).1];exact g2) V' (by rw [(hX i).1];exact g3)
 ·rw [(hX i).2] at g2
  rw [(hX i).1] at g3
  by_cases c2:i=me
  ·subst c2
   rw [hu] at g2
   cases g2
   rw [hM.2.1]
   have hnw:∀k,k<n→(G.X k).wr=true→∀V,(str c,V) ∉ (G.X k).hd:=fun k hk g4 V g5=>by
    obtain⟨rfl,_⟩:=hi.one hk h g5 g3
    rw [hw] at g4;cases g4
   refine⟨fun g4 t ht=>?_,fun g4 t ht=>?_⟩
   ·rw [hout t c g4]
    exact hi.heap c hnw t (by rw [hi.own i h _ V' g3];exact ht)
   ·rw [hat,if_pos ht];exact L3 g4
  ·have hnm:∀V,(str c,V) ∉ (G.X me).hd:=fun V g4=>c2 (hi.one h hm g3 g4).1
   rw [(hO i c2).1] at g
   rw [(hO i c2).2.1]
   have:=hi.wrk i h g a g2 c V' g3
   exact⟨fun g4 t ht=>by rw [hoth c hnm];exact this.1 g4 t ht,fun g4 t ht=>by rw [hoth c hnm];exact this.2 g4 t ht⟩
 ·by_cases c2:i=me
  ·subst c2;rw [hM.2.2] at hy;cases hy
  ·rw [(hO i c2).1] at g
   rw [(hO i c2).2.1,(hO i c2).2.2] at hy
   rw [(hX i).1]
   exact hi.sto i h g y hy
 ·by_cases c2:i=me
  ·subst c2;rw [hM.2.1];exact hn
  ·rw [(hO i c2).1] at g
   rw [(hO i c2).2.1];exact hi.nd i h g
 ·by_cases c2:i=me
  ·subst c2
   rw [hM.2.1] at hy
   obtain⟨V,g2⟩:=hc y hy
   exact .inl ⟨V,by rw [(hX i).1];exact g2⟩
  ·rw [(hO i c2).1] at g
   rw [(hO i c2).2.1] at hy
   rw [(hX i).1,(hO i c2).2.1,(hO i c2).2.2]
   exact hi.cov i h g y hy
def nh (G:Gs)(me:Nat)(y:au):Gs:={ G with w:=tP G.w y.place y.word,X:=cq G.X me { G.X me with put:=(G.X me).put+1 } }
theorem Ow {y:au}(hi:fJ str h0 n G)(hm:me<n)(hw:(G.X me).wr=true)(hy:(G.X me).cells[(G.X me).put]? = some y):fJ str h0 n (nh G me y)∧Lt str n G (nh G me y) me:=by
 have hX:∀i,((nh G me y).X i).hd=(G.X i).hd∧((nh G me y).X i).up=(G.X i).up∧((nh G me y).X i).wr=(G.X i).wr∧((nh G me y).X i).cells=(G.X i).cells:=fun i=>by
  show (cq G.X me _ i).hd=_∧(cq G.X me _ i).up=_∧(cq G.X me _ i).wr=_∧(cq G.X me _ i).cells=_
  by_cases c:i=me
  ·subst c;rw [fN];exact⟨rfl,rfl,rfl,rfl⟩
  ·rw [fi c];exact⟨rfl,rfl,rfl,rfl⟩
 have hO:∀i,i≠me→((nh G me y).X i).put=(G.X i).put:=fun i c=>by show (cq G.X me _ i).put=_;rw [fi c]
 have hM:((nh G me y).X me).put=(G.X me).put+1:=by show (cq G.X me _ me).put=_;rw [fN]
 have hlt:=(List.getElem?_eq_some_iff.1 hy).1
 have hmem:=List.mem_of_getElem? hy
 have hold:∃V,(str y.place,V)∈(G.X me).hd:=by
  rcases hi.cov me hm hw y hmem with g | g
  ·exact g
  ·omega
 obtain⟨V0,hV0⟩:=hold
 have hwc:∀c,c≠y.place→(nh G me y).w c=G.w c:=fun c h=>by show tP G.w y.place y.word c=_;unfold tP;rw [if_neg h]
 refine⟨⟨hi.t0,hi.v,fun i h s' V' g=>hi.own i h s' V' (by rw [←(hX i).1];exact g),fun s' g=>?_,hi.free,fun i h=>by rw [(hX i).1];exact hi.nod i h,fun i h a g=>?_,fun i j a h1 h2 g1 g2=>hi.upN i j a h1 h2 (by rw [←(hX i).2.1];exact g1) (by rw [←(hX j).2.1];exact g2),fun i h g=>?_,fun i h g a g2=>hi.upL i h (by rw [←(hX i).2.2.1];exact g) a (by rw [←(hX i).2.1];exact g2),hi.log,hi.logT,fun x hx z hz=>?_,fun c g t ht=>?_,fun i h g a g2 c V' g3=>?_,fun i h g z hz hh=>?_,fun i h g=>?_,fun i h g z hz=>?_⟩,⟨Int.le_refl _,fun s'=>.inl rfl,fun k hk a g s' V' g2=>.inl ⟨by rw [←(hX k).2.1];exact g,by rw [←(hX k).1];exact g2⟩,.inl rfl⟩⟩
 ·obtain⟨i,h,V',g2⟩:=hi.by_ s' g
  exact⟨i,h,V',by rw [(hX i).1];exact g2⟩
 ·rw [(hX i).2.1] at g
  rw [(hX i).1];exact hi.upT i h a g
 ·rw [(hX i).2.2.1] at g
  rw [(hX i).2.1,(hX i).2.2.2];exact hi.wrU i h g
 ·rcases hi.logv x hx z hz with g | ⟨i,h,g1,g2,V',g3⟩
  ·exact .inl g
  ·exact .inr ⟨i,h,by rw [(hX i).2.2.1];exact g1,by rw [(hX i).2.1];exact g2,V',by rw [(hX i).1];exact g3⟩
 ·have hcy:c≠y.place:=fun e=>by
   subst e
   exact g me hm (by rw [(hX me).2.2.1];exact hw) V0 (by rw [(hX me).1];exact hV0)
  rw [hwc c hcy]
  exact hi.heap c (fun i h g2 V' g3=>g i h (by rw [(hX i).2.2.1];exact g2) V' (by rw [(hX i).1];exact g3)) t ht
 ·rw [(hX i).2.2.1] at g
  rw [(hX i).2.1] at g2
  rw [(hX i).1] at g3
  rw [(hX i).2.2.2]
  have h1:=hi.wrk i h g a g2 c V' g3
  refine⟨fun g4 t ht=>?_,h1.2⟩
  have hcy:c≠y.place:=fun e=>by
   subst e
   obtain⟨rfl,_⟩:=hi.one h hm g3 hV0
   exact g4 y hmem rfl
  rw [hwc c hcy]
  exact h1.1 g4 t ht
 ·rw [(hX i).2.2.1] at g
  rw [(hX i).2.2.2] at hz
  rw [(hX i).1] at hh
  by_cases c:i=me
  ·subst c
   rw [hM,List.take_succ_eq_append_getElem hlt] at hz
   have hye:(G.X i).cells[(G.X i).put]=y:=by rw [List.getElem?_eq_getElem hlt] at hy;exact Option.some.inj hy
   rw [hye] at hz
   rcases List.mem_append.1 hz with hz | hz
   ·have hne:z.place≠y.place:=fun e=>by
     have hnd:=hi.nd i h g
     have h5:(G.X i).cells=(G.X i).cells.take (G.X i).put++y::(G.X i).cells.drop ((G.X i).put+1):=by
      rw [←hye,←List.drop_eq_getElem_cons hlt,List.take_append_drop]
     rw [h5,List.map_append,List.map_cons] at hnd
     exact(List.nodup_append.1 hnd).2.2 z.place (List.mem_map_of_mem hz) y.place List.mem_cons_self e
    rw [hwc _ hne]
    exact hi.sto i h g z hz hh
   ·rw [List.mem_singleton] at hz
    subst hz
    show tP G.w z.place z.word z.place=_
    unfold tP;rw [if_pos rfl]
  ·rw [hO i c] at hz
   have hne:z.place≠y.place:=fun e=>by
    obtain⟨V',g4⟩:=hh
    rw [e] at g4
    exact c (hi.one h hm g4 hV0).1
   rw [hwc _ hne]
   exact hi.sto i h g z hz hh
 ·rw [(hX i).2.2.1] at g
  rw [(hX i).2.2.2]
  exact hi.nd i h g
 ·rw [(hX i).2.2.1] at g
  rw [(hX i).2.2.2] at hz
  rw [(hX i).1,(hX i).2.2.2]
  rcases hi.cov i h g z hz with g2 | g2
  ·exact .inl g2
  ·by_cases c:i=me
   ·subst c;omega
   ·rw [hO i c];exact .inr g2
theorem Ry {cs:List au}:∀{h:Hp}{y:au},(cs.map (·.place)).Nodup→y∈cs→IG h cs y.place=y.word:=by
 induction cs with
 | nil=>intro h y _ hy;cases hy
 | cons x l ih =>
  intro h y hn hy
  rw [List.map_cons,List.nodup_cons] at hn
  show IG (tP h x.place x.word) l y.place=_
  rcases List.mem_cons.1 hy with rfl | hy
  ·rw [nS fun z hz e=>hn.1 (by rw [←e];exact List.mem_map_of_mem hz)]
   unfold tP;rw [if_pos rfl]
  ·exact ih hn.2 hy
def i3 (G:Gs)(me s:Nat)(v:Int)(rest:List (Nat×Int)):Gs:={ G with lk:=Bi G.lk s ⟨v,false,0⟩,X:=cq G.X me { G.X me with hd:=rest } }
theorem PR {V v:Int}{rest:List (Nat×Int)}(hi:fJ str h0 n G)(hm:me<n)(hh:(G.X me).hd=(s,V)::rest)(hv:((G.X me).wr=false∧v=V)∨((G.X me).wr=true∧(G.X me).put=(G.X me).cells.length∧∃now,(G.X me).up=some now∧v=now+1)) :
  fJ str h0 n (i3 G me s v rest)∧Lt str n G (i3 G me s v rest) me:=by
 have hsV:(s,V)∈(G.X me).hd:=by rw [hh];exact List.mem_cons_self
 have eV:=hi.own me hm s V hsV
 have hvV:=hi.v s
 rw [eV] at hvV
 simp only at hvV
 have hle:V≤v∧v≤G.T:=by
  rcases hv with ⟨_,e⟩ | ⟨_,_,now,e1,e2⟩
  ·omega
  ·have:=hi.upT me hm now e1
   have:=this.2.2 s V hsV
   omega
 have hlk:∀s',s'≠s→(i3 G me s v rest).lk s'=G.lk s':=fun s' c=>ub c
 have hls:(i3 G me s v rest).lk s=⟨v,false,0⟩:=xM
 have hver:∀s',(G.lk s').version≤((i3 G me s v rest).lk s').version:=fun s'=>by
  by_cases c:s'=s
  ·subst c;rw [hls,eV];exact hle.1
  ·rw [hlk s' c];exact Int.le_refl _
 have hX:∀i,((i3 G me s v rest).X i).up=(G.X i).up∧((i3 G me s v rest).X i).wr=(G.X i).wr∧((i3 G me s v rest).X i).cells=(G.X i).cells∧((i3 G me s v rest).X i).put=(G.X i).put:=fun i=>by
  show (cq G.X me _ i).up=_∧(cq G.X me _ i).wr=_∧(cq G.X me _ i).cells=_∧(cq G.X me _ i).put=_
  by_cases c:i=me
  ·subst c;rw [fN];exact⟨rfl,rfl,rfl,rfl⟩
  ·rw [fi c];exact⟨rfl,rfl,rfl,rfl⟩
 have hO:∀i,i≠me→((i3 G me s v rest).X i).hd=(G.X i).hd:=fun i c=>by show (cq G.X me _ i).hd=_;rw [fi c]
 have hM:((i3 G me s v rest).X me).hd=rest:=by show (cq G.X me _ me).hd=_;rw [fN]
 have hsub:∀i s' V',(s',V')∈((i3 G me s v rest).X i).hd→(s',V')∈(G.X i).hd:=fun i s' V' g=>by
  by_cases c:i=me
  ·subst c;rw [hM] at g;rw [hh];exact List.mem_cons_of_mem _ g
  ·rw [hO i c] at g;exact g
 have hnos:∀i,i<n→∀V',(s,V') ∉ ((i3 G me s v rest).X i).hd:=fun i h V' g=>by
  obtain⟨rfl,rfl⟩:=hi.one h hm (hsub i s V' g) hsV
  rw [hM] at g
  have:=hi.nod i h
  rw [hh,List.map_cons,List.nodup_cons] at this
  exact this.1 (List.mem_map_of_mem (f:=(·.1)) g)
 have hback:∀i s' V',s'≠s→(s',V')∈(G.X i).hd→(s',V')∈((i3 G me s v rest).X i).hd:=fun i s' V' c g=>by
  by_cases c2:i=me
  ·subst c2
   rw [hM]
   rw [hh] at g
   rcases List.mem_cons.1 g with g | g
   ·cases g;exact absurd rfl c
   ·exact g
  ·rw [hO i c2];exact g
 refine⟨⟨hi.t0,fun s'=>?_,fun i h s' V' g=>?_,fun s' g=>?_,fun s' g=>?_,fun i h=>?_,fun i h a g=>?_,fun i j a h1 h2 g1 g2=>hi.upN i j a h1 h2 (by rw [←(hX i).1];exact g1) (by rw [←(hX j).1];exact g2),fun i h g=>?_,fun i h g a g2=>hi.upL i h (by rw [←(hX i).2.1];exact g) a (by rw [←(hX i).1];exact g2),hi.log,hi.logT,fun x hx y hy=>?_,fun c g t ht=>?_,fun i h g a g2 c V' g3=>?_,fun i h g y hy hh2=>?_,fun i h g=>?_,fun i h g y hy=>?_⟩,⟨Int.le_refl _,fun s'=>?_,fun k hk a g s' V' g2=>.inl ⟨by rw [←(hX k).1];exact g,hsub k s' V' g2⟩,.inl rfl⟩⟩
 ·by_cases c:s'=s
  ·subst c;rw [hls];exact⟨by show 0≤v;omega,hle.2⟩
  ·rw [hlk s' c];exact hi.v s'
 ·have c:s'≠s:=fun c=>by subst c;exact hnos i h V' g
  rw [hlk s' c];exact hi.own i h s' V' (hsub i s' V' g)
 ·have c:s'≠s:=fun c=>by subst c;rw [hls] at g;cases g
  rw [hlk s' c] at g
  obtain⟨i,h,V',g2⟩:=hi.by_ s' g
  exact⟨i,h,V',hback i s' V' c g2⟩
 ·by_cases c:s'=s
  ·subst c;rw [hls]
  ·rw [hlk s' c] at g ⊢;exact hi.free s' g
 ·by_cases c:i=me
  ·subst c
   have:=hi.nod i h
   rw [hh,List.map_cons,List.nodup_cons] at this
   rw [hM];exact this.2
  ·rw [hO i c];exact hi.nod i h
 ·rw [(hX i).1] at g
  have:=hi.upT i h a g
  exact⟨this.1,this.2.1,fun s' V' g2=>this.2.2 s' V' (hsub i s' V' g2)⟩
 ·rw [(hX i).2.1] at g
  rw [(hX i).1,(hX i).2.2.1];exact hi.wrU i h g
 ·rcases hi.logv x hx y hy with g | ⟨i,h,g1,g2,V',g3⟩
  ·exact .inl (Int.le_trans g (hver _))
  ·by_cases c:str y.place=s
   ·left
    rw [c] at g3
    obtain⟨rfl,rfl⟩:=hi.one h hm g3 hsV
    rcases hv with ⟨e,_⟩ | ⟨_,_,now,e1,e2⟩
    ·rw [e] at g1;cases g1
    ·rw [g2] at e1
     cases e1
     rw [c,hls]
     show x.1≤v
     omega
   ·exact .inr ⟨i,h,by rw [(hX i).2.1];exact g1,by rw [(hX i).1];exact g2,V',hback i _ V' c g3⟩
 ·by_cases c2:str c=s
  ·rw [c2,hls] at ht
   have ht:v≤t:=ht
   rcases hv with ⟨e,e2⟩ | ⟨e,e3,now,e1,e2⟩
   ·refine hi.heap c (fun i h g2 V' g3=>?_) t (by rw [c2,eV];show V≤t;omega)
    rw [c2] at g3
    obtain⟨rfl,rfl⟩:=hi.one h hm g3 hsV
    rw [e] at g2;cases g2
   ·have h1:=hi.wrk me hm e now e1 c V (by rw [c2];exact hsV)
    by_cases hc:∃y∈(G.X me).cells,y.place=c
    ·rw [show (i3 G me s v rest).L=G.L from rfl,h1.2 hc t (by omega)]
     obtain⟨y,hy,rfl⟩:=hc
     rw [Ry (hi.nd me hm e) hy]
     exact(hi.sto me hm e y (by rw [e3,List.take_length];exact hy) ⟨V,by rw [c2];exact hsV⟩).symm
    ·exact h1.1 (fun y hy e=>hc ⟨y,hy,e⟩) t (by omega)
  ·rw [hlk _ c2] at ht
   exact hi.heap c (fun i h g2 V' g3=>g i h (by rw [(hX i).2.1];exact g2) V' (hback i _ V' c2 g3)) t ht
 ·rw [(hX i).2.1] at g
  rw [(hX i).1] at g2
  rw [(hX i).2.2.1]
  exact hi.wrk i h g a g2 c V' (hsub i _ V' g3)
 ·rw [(hX i).2.1] at g
  rw [(hX i).2.2.1,(hX i).2.2.2] at hy
  obtain⟨V',g3⟩:=hh2
  exact hi.sto i h g y hy ⟨V',hsub i _ V' g3⟩
 ·rw [(hX i).2.1] at g
  rw [(hX i).2.2.1]
  exact hi.nd i h g
 ·rw [(hX i).2.1] at g
  rw [(hX i).2.2.1] at hy
  rw [(hX i).2.2.1,(hX i).2.2.2]
  rcases hi.cov i h g y hy with ⟨V',g2⟩ | g2
  ·by_cases c:str y.place=s
   ·right
    rw [c] at g2
    obtain⟨rfl,rfl⟩:=hi.one h hm g2 hsV
    rcases hv with ⟨e,_⟩ | ⟨_,e,_⟩
    ·rw [e] at g;cases g
    ·exact e
   ·exact .inl ⟨V',hback i _ V' c g2⟩
  ·exact .inr g2
 ·by_cases c:s'=s
  ·subst c
   rw [hls]
   rcases hv with ⟨e,e2⟩ | ⟨e,e3,now,e1,e2⟩
   ·left;rw [eV];exact e2
   ·exact .inr ⟨now,e1,⟨V,hsV⟩,e2⟩
  ·rw [hlk s' c];exact .inl rfl
def rV (G:Gs)(me:Nat):Gs:={ G with X:=cq G.X me ⟨[],none,false,[],0⟩ }
theorem NW (hi:fJ str h0 n G)(hm:me<n)(hh:(G.X me).hd=[]):fJ str h0 n (rV G me)∧Lt str n G (rV G me) me:=by
 have hO:∀i,i≠me→(rV G me).X i=G.X i:=fun i c=>fi c
 have hM:(rV G me).X me=⟨[],none,false,[],0⟩:=fN
 have hH:∀i,((rV G me).X i).hd=(G.X i).hd:=fun i=>by
  by_cases c:i=me
  ·subst c;rw [hM,hh]
  ·rw [hO i c]
 have hU:∀i a,((rV G me).X i).up=some a→i≠me∧(G.X i).up=some a:=fun i a g=>by
  by_cases c:i=me
  ·subst c;rw [hM] at g;cases g
  ·rw [hO i c] at g;exact⟨c,g⟩
 have hW:∀i,((rV G me).X i).wr=true→i≠me∧(G.X i).wr=true:=fun i g=>by
  by_cases c:i=me
  ·subst c;rw [hM] at g;cases g
  ·rw [hO i c] at g;exact⟨c,g⟩
 refine⟨⟨hi.t0,hi.v,fun i h s' V' g=>hi.own i h s' V' (by rw [←hH i];exact g),fun s' g=>?_,hi.free,fun i h=>by rw [hH i];exact hi.nod i h,fun i h a g=>by rw [hH i];exact hi.upT i h a (hU i a g).2,fun i j a h1 h2 g1 g2=>hi.upN i j a h1 h2 (hU i a g1).2 (hU j a g2).2,fun i h g=>?_,fun i h g a g2=>?_,hi.log,hi.logT,fun x hx y hy=>?_,fun c g t ht=>?_,fun i h g a g2 c V' g3=>?_,fun i h g y hy hh2=>?_,fun i h g=>?_,fun i h g y hy=>?_⟩,⟨Int.le_refl _,fun s'=>.inl rfl,fun k hk a g s' V' g2=>.inl ⟨(hU k a g).2,by rw [←hH k];exact g2⟩,.inl rfl⟩⟩
 ·obtain⟨i,h,V',g2⟩:=hi.by_ s' g
  exact⟨i,h,V',by rw [hH i];exact g2⟩
 ·obtain⟨c,g2⟩:=hW i g
  rw [hO i c];exact hi.wrU i h g2
 ·obtain⟨c,g3⟩:=hU i a g2
  rw [hO i c] at g;exact hi.upL i h g a g3
 ·rcases hi.logv x hx y hy with g | ⟨i,h,g1,g2,V',g3⟩
  ·exact .inl g
  ·have c:i≠me:=fun c=>by subst c;rw [hh] at g3;cases g3
   exact .inr ⟨i,h,by rw [hO i c];exact g1,by rw [hO i c];exact g2,V',by rw [hO i c];exact g3⟩
 ·refine hi.heap c (fun i h g2 V' g3=>?_) t ht
  have c2:i≠me:=fun c=>by subst c;rw [hh] at g3;cases g3
  exact g i h (by rw [hO i c2];exact g2) V' (by rw [hO i c2];exact g3)
 ·obtain⟨c2,g4⟩:=hW i g
  rw [hO i c2] at g2 g3 ⊢
  exact hi.wrk i h g4 a g2 c V' g3
 ·obtain⟨c2,g4⟩:=hW i g
  rw [hO i c2] at hy hh2
  exact hi.sto i h g4 y hy hh2
 ·obtain⟨c2,g4⟩:=hW i g
  rw [hO i c2];exact hi.nd i h g4
 ·obtain⟨c2,g4⟩:=hW i g
  rw [hO i c2] at hy ⊢
  exact hi.cov i h g4 y hy
end
structure Q0 (str:Int→Nat)(n:Nat)(G G':Gs)(me:Nat):Prop where
 hw:∀k,k<n→(G.X k).wr=true→∀s V,(s,V)∈(G.X k).hd→((G'.X k).wr=true∧(s,V)∈(G'.X k).hd)∨V<(G'.lk s).version
 w:∀c,G'.w c=G.w c∨((G'.X me).wr=true∧∃V,(str c,V)∈(G'.X me).hd)
section
variable {str:Int→Nat}{h0:Hp}{n:Nat}{G G':Gs}{me i:Nat}{τ:Int}{ks:List au}{s:Nat}{v:Int}
theorem Q3 {V:Int}(hw:(G.X me).wr=false):Q0 str n G (uB G me s V) me :=
 ⟨fun k _ g s' V' g2=>.inl (by
  have c:k≠me:=fun c=>by subst c;rw [hw] at g;cases g
  show (cq G.X me _ k).wr=true∧_∈(cq G.X me _ k).hd
  rw [fi c];exact⟨g,g2⟩),fun _=>.inl rfl⟩
theorem PC:Q0 str n G (lX G me) me :=
 ⟨fun k _ g s' V' g2=>.inl (by
  show (cq G.X me _ k).wr=true∧_∈(cq G.X me _ k).hd
  by_cases c:k=me
  ·subst c;rw [fN];exact⟨g,g2⟩
  ·rw [fi c];exact⟨g,g2⟩),fun _=>.inl rfl⟩
theorem NU {now:Int}{cs:List au}:Q0 str n G (gI G me now cs) me :=
 ⟨fun k _ g s' V' g2=>.inl (by
  show (cq G.X me _ k).wr=true∧_∈(cq G.X me _ k).hd
  by_cases c:k=me
  ·subst c;rw [fN];exact⟨rfl,g2⟩
  ·rw [fi c];exact⟨g,g2⟩),fun _=>.inl rfl⟩
theorem PX {y:au}(hw:(G.X me).wr=true)(hy:∃V,(str y.place,V)∈(G.X me).hd):Q0 str n G (nh G me y) me :=
 ⟨fun k _ g s' V' g2=>.inl (by
  show (cq G.X me _ k).wr=true∧_∈(cq G.X me _ k).hd
  by_cases c:k=me
  ·subst c;rw [fN];exact⟨g,g2⟩
  ·rw [fi c];exact⟨g,g2⟩),fun c=>by
  show tP G.w y.place y.word c=_∨(cq G.X me _ me).wr=true∧∃V,_∈(cq G.X me _ me).hd
  unfold tP
  split
  ·rename_i e
   subst e
   right;rw [fN];exact⟨hw,hy⟩
  ·exact .inl rfl⟩
theorem RA {V v:Int}{rest:List (Nat×Int)}(hh:(G.X me).hd=(s,V)::rest)(hv:(G.X me).wr=true→V<v):Q0 str n G (i3 G me s v rest) me :=
 ⟨fun k _ g s' V' g2=>by
  show ((cq G.X me _ k).wr=true∧_∈(cq G.X me _ k).hd)∨V'<(Bi G.lk s ⟨v,false,0⟩ s').version
  by_cases c:k=me
  ·subst c
   rw [fN]
   rw [hh] at g2
   rcases List.mem_cons.1 g2 with e | g2
   ·cases e;right;rw [xM];exact hv g
   ·exact .inl ⟨g,g2⟩
  ·rw [fi c];exact .inl ⟨g,g2⟩,fun _=>.inl rfl⟩
theorem Qw (hh:(G.X me).hd=[]):Q0 str n G (rV G me) me :=
 ⟨fun k _ g s' V' g2=>.inl (by
  have c:k≠me:=fun c=>by subst c;rw [hh] at g2;cases g2
  show (cq G.X me _ k).wr=true∧_∈(cq G.X me _ k).hd
  rw [fi c];exact⟨g,g2⟩),fun _=>.inl rfl⟩
theorem Lt.mono (hi:fJ str h0 n G)(hm:me<n)(ht:Lt str n G G' me)(s:Nat):(G.lk s).version≤(G'.lk s).version:=by
 rcases ht.ver s with e | ⟨now,e1,⟨V,e2⟩,e3⟩
 ·omega
 ·have h1:=(hi.upT me hm now e1).2.2 s V e2
  rw [hi.own me hm s V e2,e3]
  show V≤now+1
  omega
structure rL (str:Int→Nat)(n:Nat)(G:Gs)(c v x:Int):Prop where
 le:v≤(G.lk (str c)).version
 w:(G.lk (str c)).version=v→(∀k,k<n→(G.X k).wr=true→∀V,(str c,V) ∉ (G.X k).hd)→G.w c=x
theorem rL.tr {c x:Int}(hi:fJ str h0 n G)(hm:me<n)(ht:Lt str n G G' me)(hw:Q0 str n G G' me)(h:rL str n G c v x):rL str n G' c v x:=by
 have hmn:=ht.mono hi hm (str c)
 refine⟨Int.le_trans h.le hmn,fun e hno=>?_⟩
 have h1:=h.le
 have e0:(G.lk (str c)).version=v:=by omega
 have hno0:∀k,k<n→(G.X k).wr=true→∀V,(str c,V) ∉ (G.X k).hd:=fun k hk g V g2=>by
  rcases hw.hw k hk g _ V g2 with ⟨g3,g4⟩ | g3
  ·exact hno k hk g3 V g4
  ·have:=hi.own k hk _ V g2
   rw [this] at e0
   simp only at e0
   omega
 rcases hw.w c with g | ⟨g1,V,g2⟩
 ·rw [g];exact h.w e0 hno0
 ·exact absurd g2 (hno me hm g1 V)
theorem rL.mk' {c:Int}(h:v≤(G.lk (str c)).version):rL str n G c v (G.w c):=⟨h,fun _ _=>rfl⟩
theorem rL.at_ {c x:Int}(hi:fJ str h0 n G)(h:rL str n G c v x)(hl:G.lk (str c)=⟨v,false,0⟩)(hv:v≤τ):Gc h0 G.L τ c=x:=by
 have hno:∀k,k<n→(G.X k).wr=true→∀V,(str c,V) ∉ (G.X k).hd:=fun k hk _ V g=>by
  rw [hi.own k hk _ V g] at hl;cases hl
 rw [hi.heap c hno τ (by rw [hl];exact hv)]
 exact h.w (by rw [hl]) hno
structure qR (str:Int→Nat)(h0:Hp)(n:Nat)(G:Gs)(i:Nat)(τ:Int)(rd:List (Nat×Int))(ks:List au):Prop where
 good:∀p∈rd,iC str h0 n G i τ ks p.1 p.2
 in_:∀r∈ks,∃v,(str r.place,v)∈rd
theorem qR.nil:qR str h0 n G i τ [] []:=⟨fun p h=>(by cases h),fun r h=>(by cases h)⟩
theorem qR.tr {rd:List (Nat×Int)}(hi:fJ str h0 n G)(hm:me<n)(ht:Lt str n G G' me)(hme:i≠me)(hT:τ≤G.T)(h:qR str h0 n G i τ rd ks):qR str h0 n G' i τ rd ks :=
 ⟨fun p hp=>(h.good p hp).tr hi hm ht hme hT,h.in_⟩
theorem qR.reads {rd:List (Nat×Int)}(h:qR str h0 n G i τ rd ks):∀r∈ks,Gc h0 G.L τ r.place=r.word:=fun r hr=>by
 obtain⟨v,hv⟩:=h.in_ r hr
 exact(h.good _ hv).at_ r hr rfl
theorem qR.add {rd:List (Nat×Int)}{c x:Int}(hi:fJ str h0 n G)(h:qR str h0 n G i τ rd ks)(hk:rL str n G c v x)(hl:G.lk (str c)=⟨v,false,0⟩)(hv:v≤τ)(hT:τ≤G.T){rd':List (Nat×Int)}(hrd:∀p,p∈rd'↔p∈rd∨p=(str c,v)) :
  qR str h0 n G i τ rd' (ks++[⟨c,x⟩]):=by
 have hno:∀k,k<n→∀V,(str c,V) ∉ (G.X k).hd:=fun k hk V g=>by rw [hi.own k hk _ V g] at hl;cases hl
 have hx:=hk.at_ (τ:=τ) hi hl hv
 refine⟨fun p hp=>?_,fun r hr=>?_⟩
 ·rcases(hrd p).1 hp with hp | rfl
  ·have hg:=h.good p hp
   refine⟨hg.v0,hg.ver,hg.up,fun r hr hs=>?_⟩
   rcases List.mem_append.1 hr with hr | hr
   ·exact hg.at_ r hr hs
   ·rw [List.mem_singleton.1 hr];exact hx
  ·refine⟨hv,.inl (by rw [hl]),fun k hk _ now _ hh=>?_,fun r hr hs=>?_⟩
   ·obtain⟨V,g⟩:=hh
    exact absurd g (hno k hk V)
   ·rcases List.mem_append.1 hr with hr | hr
    ·exact h.reads r hr
    ·rw [List.mem_singleton.1 hr];exact hx
 ·rcases List.mem_append.1 hr with hr | hr
  ·obtain⟨v',g⟩:=h.in_ r hr
   exact⟨v',(hrd _).2 (.inl g)⟩
  ·rw [List.mem_singleton.1 hr]
   exact⟨v,(hrd _).2 (.inr rfl)⟩
theorem qR.same {rd:List (Nat×Int)}{τ':Int}(h:qR str h0 n G i τ rd ks)(e:τ'=τ):qR str h0 n G i τ' rd ks:=e ▸ h
theorem iC.own (hv:(G'.lk s).version=(G.lk s).version)(hX:∀k,k≠i→G'.X k=G.X k)(hL:G'.L=G.L)(h:iC str h0 n G i τ ks s v):iC str h0 n G' i τ ks s v :=
 ⟨h.v0,by rw [hv];exact h.ver,fun k hk hki now hu hh=>by rw [hX k hki] at hu hh;exact h.up k hk hki now hu hh,fun r hr hs=>by rw [hL];exact h.at_ r hr hs⟩
theorem qR.own {rd:List (Nat×Int)}(hv:∀s,(G'.lk s).version=(G.lk s).version)(hX:∀k,k≠i→G'.X k=G.X k)(hL:G'.L=G.L)(h:qR str h0 n G i τ rd ks):qR str h0 n G' i τ rd ks :=
 ⟨fun p hp=>(h.good p hp).own (hv _) hX hL,h.in_⟩
theorem iC.commit {now:Int}{cs:List au}(hi:fJ str h0 n G)(hm:i<n)(hw:(G.X i).wr=false)(hu:(G.X i).up=some now)(hc:∀z∈cs,∃V,(str z.place,V)∈(G.X i).hd)(hn:(cs.map (·.place)).Nodup)(h:iC str h0 n G i now ks s v):iC str h0 n (gI G i now cs) i now ks s v:=by
 obtain⟨_,ht⟩:=FO hi hm hw hu hn hc
 refine⟨h.v0,h.ver,fun k hk hki a g hh=>?_,fun r hr hs=>?_⟩
 ·have e:(gI G i now cs).X k=G.X k:=fi hki
  rw [e] at g hh
  exact h.up k hk hki a g hh
 ·rw [Ph hi ht fun a e1 _=>by rw [hu] at e1;cases e1;omega]
  exact h.at_ r hr hs
theorem iC.free {V w now:Int}{rest:List (Nat×Int)}(hi:fJ str h0 n G)(hm:i<n)(hh:(G.X i).hd=(s,V)::rest){s':Nat}(hv:w=V∨(w=now+1∧(G.X i).up=some now∧τ≤now))(h:iC str h0 n G i τ ks s' v):iC str h0 n (i3 G i s w rest) i τ ks s' v:=by
 have eV:=hi.own i hm s V (by rw [hh];exact List.mem_cons_self)
 refine⟨h.v0,?_,fun k hk hki a g hh=>?_,h.at_⟩
 ·show (Bi G.lk s ⟨w,false,0⟩ s').version=v∨τ<(Bi G.lk s ⟨w,false,0⟩ s').version
  by_cases c:s'=s
  ·subst c
   rw [xM]
   have:=h.ver
   rw [eV] at this
   rcases hv with e | ⟨e,_,e2⟩
   ·rw [e];exact this
   ·right;show τ<w;omega
  ·rw [ub c];exact h.ver
 ·have e:(i3 G i s w rest).X k=G.X k:=fi hki
  rw [e] at g hh
  exact h.up k hk hki a g hh
theorem iC.past (hd:(G.X i).hd=[])(hi:n≤me)(h:iC str h0 n G i τ ks s v):iC str h0 n G me τ ks s v :=
 ⟨h.v0,h.ver,fun k hk _ now hu hh=>by
  by_cases c:k=i
  ·subst c;obtain⟨V,g⟩:=hh;rw [hd] at g;cases g
  ·exact h.up k hk c now hu hh,h.at_⟩
end
abbrev sF:Hx:=⟨[],none,false,[],0⟩
def Ez (x:eJ):List (Nat×Int):=((x.stripes.zip x.was).map fun p=>(p.1.toNat,p.2.version)).drop (if x.state=6∨x.state=7 then x.pos else 0)
def gT (x:eJ):Hx:=if x.pat.fin=0 then ⟨Ez x,if x.state=4∨x.state=5∨x.state=6 then some x.now else none,decide (x.state=5∨x.state=6),if x.state=5∨x.state=6 then x.cells else [],if x.state=5 then x.pos else if x.state=6 then x.cells.length else 0⟩ else sF
def dz (m:gn)(L:tW)(X:Nat→Hx):Gs:=⟨fun s=>m.l.getD s ah,fun c=>m.w.getD c.toNat 0,m.n,L,X⟩
inductive z8 (str:Int→Nat) (h0:Hp) (n me:Nat):Gs→Gs→Prop
 | refl {G:Gs}:z8 str h0 n me G G
 | step {G G1 G2:Gs}:z8 str h0 n me G G1→fJ str h0 n G1→Lt str n G1 G2 me→Q0 str n G1 G2 me→fJ str h0 n G2→z8 str h0 n me G G2
section
variable {str:Int→Nat}{h0:Hp}{n me i:Nat}{G G':Gs}{τ:Int}{ks:List au}{s:Nat}{v:Int}{m:gn}{L:tW}{X:Nat→Hx}{x:eJ}
theorem z8.inv (h:z8 str h0 n me G G')(hi:fJ str h0 n G):fJ str h0 n G':=by cases h;exact hi;assumption
theorem z8.T (h:z8 str h0 n me G G'):G.T≤G'.T:=by
 induction h with
 | refl=>exact Int.le_refl _
 | step _ _ ht _ _ ih=>have:=ht.T;omega
theorem z8.good (h:z8 str h0 n me G G')(hm:me<n)(hme:i≠me)(hT:τ≤G.T)(hg:iC str h0 n G i τ ks s v):iC str h0 n G' i τ ks s v:=by
 induction h with
 | refl=>exact hg
 | step hp hi ht _ _ ih=>exact ih.tr hi hm ht hme (Int.le_trans hT hp.T)
theorem z8.know {c y:Int}(h:z8 str h0 n me G G')(hm:me<n)(hg:rL str n G c v y):rL str n G' c v y:=by
 induction h with
 | refl=>exact hg
 | step hp hi ht hw _ ih=>exact ih.tr hi hm ht hw
theorem z8.ver (h:z8 str h0 n me G G')(hm:me<n):(G.lk s).version≤(G'.lk s).version:=by
 induction h with
 | refl=>exact Int.le_refl _
 | step hp hi ht hw _ ih=>exact Int.le_trans ih (ht.mono hi hm s)
def Bq (G:Gs)(me:Nat):Gs:={ G with X:=cq G.X me { G.X me with up:=none } }
theorem Pu (hi:fJ str h0 n G)(hm:me<n)(hw:(G.X me).wr=false):fJ str h0 n (Bq G me)∧Lt str n G (Bq G me) me:=by
 have hO:∀i,i≠me→(Bq G me).X i=G.X i:=fun i c=>fi c
 have hM:(Bq G me).X me={ G.X me with up:=none }:=fN
 have hH:∀i,((Bq G me).X i).hd=(G.X i).hd:=fun i=>by
  by_cases c:i=me
  ·subst c;rw [hM]
  ·rw [hO i c]
 have hU:∀i a,((Bq G me).X i).up=some a→i≠me∧(G.X i).up=some a:=fun i a g=>by
  by_cases c:i=me
  ·subst c;rw [hM] at g;cases g
  ·rw [hO i c] at g;exact⟨c,g⟩
 have hW:∀i,((Bq G me).X i).wr=true→i≠me∧(G.X i).wr=true:=fun i g=>by
  by_cases c:i=me
  ·subst c;rw [hM] at g;rw [hw] at g;cases g
  ·rw [hO i c] at g;exact⟨c,g⟩
 refine⟨⟨hi.t0,hi.v,fun i h s' V' g=>hi.own i h s' V' (by rw [←hH i];exact g),fun s' g=>?_,hi.free,fun i h=>by rw [hH i];exact hi.nod i h,fun i h a g=>by rw [hH i];exact hi.upT i h a (hU i a g).2,fun i j a h1 h2 g1 g2=>hi.upN i j a h1 h2 (hU i a g1).2 (hU j a g2).2,fun i h g=>?_,fun i h g a g2 x hx=>?_,hi.log,hi.logT,fun x hx y hy=>?_,fun c g t ht=>?_,fun i h g a g2 c V' g3=>?_,fun i h g y hy hh2=>?_,fun i h g=>?_,fun i h g y hy=>?_⟩,⟨Int.le_refl _,fun _=>.inl rfl,fun k hk a g s' V' g2=>.inl ⟨(hU k a g).2,by rw [←hH k];exact g2⟩,.inl rfl⟩⟩
 ·obtain⟨i,h,V',g2⟩:=hi.by_ s' g
  exact⟨i,h,V',by rw [hH i];exact g2⟩
 ·obtain⟨c,g2⟩:=hW i g
  rw [hO i c];exact hi.wrU i h g2
 ·obtain⟨c,g3⟩:=hU i a g2
  rw [hO i c] at g;exact hi.upL i h g a g3 x hx
 ·rcases hi.logv x hx y hy with g | ⟨i,h,g1,g2,V',g3⟩
  ·exact .inl g
  ·have c:i≠me:=fun c=>by subst c;rw [hw] at g1;cases g1
   exact .inr ⟨i,h,by rw [hO i c];exact g1,by rw [hO i c];exact g2,V',by rw [hO i c];exact g3⟩
 ·refine hi.heap c (fun i h g2 V' g3=>?_) t ht
  have c2:i≠me:=fun c=>by subst c;rw [hw] at g2;cases g2
  exact g i h (by rw [hO i c2];exact g2) V' (by rw [hO i c2];exact g3)
 ·obtain⟨c2,g4⟩:=hW i g
  rw [hO i c2] at g2 g3 ⊢
  exact hi.wrk i h g4 a g2 c V' g3
 ·obtain⟨c2,g4⟩:=hW i g
  rw [hO i c2] at hy hh2
  exact hi.sto i h g4 y hy hh2
 ·obtain⟨c2,g4⟩:=hW i g
  rw [hO i c2];exact hi.nd i h g4
 ·obtain⟨c2,g4⟩:=hW i g
  rw [hO i c2] at hy ⊢
  exact hi.cov i h g4 y hy
theorem RQ (hw:(G.X me).wr=false):Q0 str n G (Bq G me) me :=
 ⟨fun k _ g s' V' g2=>.inl (by
  have c:k≠me:=fun c=>by subst c;rw [hw] at g;cases g
  show (cq G.X me _ k).wr=true∧_∈(cq G.X me _ k).hd
  rw [fi c];exact⟨g,g2⟩),fun _=>.inl rfl⟩
theorem Gs.ext' {A B:Gs}(h1:∀s,A.lk s=B.lk s)(h2:∀c,A.w c=B.w c)(h3:A.T=B.T)(h4:A.L=B.L)(h5:∀k,A.X k=B.X k):A=B:=by
 cases A;cases B
 simp only [Gs.mk.injEq]
 exact⟨funext h1,funext h2,h3,h4,funext h5⟩
theorem wK {l:List cw}{k:Nat}{y:cw}(h:k<l.length)(s:Nat):(l.set k y).getD s ah=Bi (fun s=>l.getD s ah) k y s:=by
 unfold Bi
 by_cases c:s=k
 ·subst c;rw [if_pos rfl];simp [h]
 ·rw [if_neg c,List.getD_eq_getElem?_getD,List.getElem?_set_ne (fun e=>c e.symm),←List.getD_eq_getElem?_getD]
theorem L0 {l:List Int}{c y:Int}(h1:1≤c)(h:c<l.length)(d:Int):(l.set c.toNat y).getD d.toNat 0=tP (fun c=>l.getD c.toNat 0) c y d:=by
 unfold tP
 by_cases e:d=c
 ·subst e;rw [if_pos rfl];have:d.toNat<l.length:=by omega
  simp [this]
 ·rw [if_neg e,List.getD_eq_getElem?_getD,List.getElem?_set_ne (by omega),←List.getD_eq_getElem?_getD]
theorem Kz {a b:Hx}(k:Nat):cq (cq X me a) me b k=cq X me b k:=by unfold cq;split <;> rfl
theorem HO {a:Hx}(h:X me=a)(k:Nat):cq X me a k=X k:=by
 unfold cq;split
 ·rename_i e;rw [e,h]
 ·rfl
end
end Go.Proofs.YtoealglbimbbmaaGreatDoor.S
