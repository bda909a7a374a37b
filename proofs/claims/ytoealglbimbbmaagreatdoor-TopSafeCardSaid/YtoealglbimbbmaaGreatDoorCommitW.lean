import Derived.Test.YtoealglbimbbmaaGreatDoorExtend
import Derived.Test.YtoealglbimbbmaaGreatDoorWritesStr
namespace Go.Proofs.YtoealglbimbbmaaGreatDoor.S
open Go Go.Proofs
set_option linter.unusedVariables false
set_option linter.unusedSimpArgs false
structure dP where
 pat:nU
 me:Int
 stamp:Int
 seen:List fG
 cells:List av
 stripes:List Int
 was:List cX
 state:Int
 pos:Nat
 lock:cX
 now:Int
 writing:Bool
 fin:Int
 by_:Int
 err:Int
def tq:List Int→Int→Option Nat
 | [],_=>none
 | s::l,a=>if s=a then some 0 else (tq l a).map (·+1)
theorem xd {a:Int}:∀{l:List Int}{k:Nat},tq l a=some k→l[k]? = some a
 | [],k,h=>by cases h
 | s::l,k,h=>by
  unfold tq at h
  split at h
  ·rename_i e;cases h;simp [e]
  ·cases hi:tq l a with
   | none=>rw [hi] at h;cases h
   | some j=>rw [hi] at h;cases h;simpa using xd hi
theorem Be {a:Int}:∀{l:List Int},tq l a=none↔a ∉ l
 | []=>by simp [tq]
 | s::l=>by
  unfold tq
  split
  ·rename_i e;simp [e]
  ·rename_i e
   have:=Be (a:=a) (l:=l)
   simp only [Option.map_eq_none_iff,this,List.mem_cons,not_or]
   exact⟨fun h=>⟨fun g=>e g.symm,h⟩,fun h=>h.2⟩
theorem Sh {a:Int}{l:List Int}{k:Nat}(h:tq l a=some k):k<l.length:=(List.getElem?_eq_some_iff.1 (xd h)).1
theorem KA {a:Int}{l:List Int}{k:Nat}(hr:l.Pairwise (·<·))(h:l[k]? = some a):tq l a=some k:=by
 cases hi:tq l a with
 | none=>exact absurd (List.mem_of_getElem? h) (Be.1 hi)
 | some j =>
  have e:=xd hi
  obtain⟨h1,e1⟩:=List.getElem?_eq_some_iff.1 h
  obtain⟨h2,e2⟩:=List.getElem?_eq_some_iff.1 e
  rcases Nat.lt_trichotomy j k with g | g | g
  ·have:=List.pairwise_iff_getElem.1 hr j k h2 h1 g;omega
  ·rw [g]
  ·have:=List.pairwise_iff_getElem.1 hr k j h1 h2 g;omega
def iE (x:dP):dP:={ x with state:=if x.was.length=x.stripes.length then 2 else 0 }
def im (x:dP):dP:=if x.pos=x.was.length then { x with pat:=x.pat.stop x.fin x.err x.by_ } else x
def fZ (x:dP)(e er b:Int):dP:=im { x with fin:=e,err:=er,by_:=b,pos:=0,state:=7 }
def ji (x:dP)(l:cX):dP:=if (x.pat.waits l.owner).2=true then { x with pat:=(x.pat.waits l.owner).1 } else fZ { x with pat:=(x.pat.waits l.owner).1 } 5 0 l.owner
def je (x:dP):dP:=if x.pos=x.stripes.length then { x with pat:=x.pat.stop 2 0 (-1) } else x
def jB (x:dP):dP:=if x.pos=x.cells.length then je { x with pos:=0,state:=6 } else x
def oe (x:dP):dP:=jB { x with writing:=true,pos:=0,state:=5 }
def Sb (x:dP)(s:Int):Option Int:=(tq x.stripes s).map fun i=>(x.was.getD i ae).version
def kH:Nat→dP→dP
 | 0,x=>oe x
 | n+1,x=>match Sb x (x.seen.getD x.pos ⟨0,0⟩).stripe with
  | none=>x
  | some v=>if v=(x.seen.getD x.pos ⟨0,0⟩).version then kH n { x with pos:=x.pos+1 } else fZ x 5 0 (-1)
def n8 (x:dP):dP:=kH (x.seen.length-x.pos) { x with state:=4 }
def lf (x:dP)(l:cX):dP :=
 if l.held=true then ji x l else if l.version=(x.seen.getD x.pos ⟨0,0⟩).version then n8 { x with pos:=x.pos+1 } else fZ x 5 0 (-1)
def py (x:dP)(a:eW):dP :=
 if x.state=0 then (if a.lock.held=true then ji x a.lock else { x with lock:=a.lock,state:=1 })
 else if a.done=true then iE { x with was:=x.was++[x.lock] } else { x with state:=0 }
def lX (x:dP)(a:eW):dP :=
 if x.state=2 then (if 4611686018427387903≤a.word then fZ x 4 7 (-1) else { x with now:=a.word,state:=3 })
 else if a.done=false then { x with state:=2 } else if x.now=x.stamp then oe x else n8 x
def cZ (x:dP)(a:eW):dP :=
 if (x.pat.stopped a.err).fin=0 then
  (if x.state=0∨x.state=1 then py x a
   else if x.state=2∨x.state=3 then lX x a
   else if x.state=4 then lf x a.lock
   else if x.state=5 then jB { x with pos:=x.pos+1 }
   else if x.state=6 then je { x with pos:=x.pos+1 }
   else im { x with pos:=x.pos+1 })
 else { x with pat:=x.pat.stopped a.err }
def nq (me sp stamp:Int)(seen:List fG)(cells:List av)(stripes:List Int):dP :=
 iE ⟨mV me sp,me,stamp,seen,cells,stripes,[],0,0,ae,0,false,0,0,0⟩
def bj (x:dP):pD×Bool :=
 if x.pat.fin=0 then
  ((if x.state=0 then ⟨3,x.stripes.getD x.was.length 0,0,0,ae,ae⟩
   else if x.state=1 then ⟨4,x.stripes.getD x.was.length 0,0,0,x.lock,⟨x.lock.version,true,x.me⟩⟩
   else if x.state=2 then ⟨6,0,0,0,ae,ae⟩
   else if x.state=3 then ⟨7,0,x.now,IntKind.wrap .u64 (x.now+1),ae,ae⟩
   else if x.state=4 then ⟨3,(x.seen.getD x.pos ⟨0,0⟩).stripe,0,0,ae,ae⟩
   else if x.state=5 then ⟨2,(x.cells.getD x.pos ⟨0,0⟩).place,0,(x.cells.getD x.pos ⟨0,0⟩).word,ae,ae⟩
   else if x.state=6 then ⟨5,x.stripes.getD x.pos 0,0,0,ae,⟨IntKind.wrap .u64 (x.now+1),false,0⟩⟩
   else ⟨5,x.stripes.getD x.pos 0,0,0,ae,x.was.getD x.pos ae⟩),true)
 else (oQ,false)
structure gJ (x:dP):Prop where
 rising:x.stripes.Pairwise (·<·)
 few:x.stripes.length≤16
 was:x.was.length≤x.stripes.length
 seen:x.seen.length≤1000000
 cells:x.cells.length≤1000000
structure iA (x:dP):Prop where
 len:gJ x
 st:0≤x.state∧x.state≤7
 pos:x.pos≤1000000
 here:x.pat.fin=0 →
  ((x.state=0∨x.state=1)→x.was.length<x.stripes.length∧x.pos=0)∧((x.state=2∨x.state=3)→x.was.length=x.stripes.length∧x.pos=0) ∧
  (x.state=4→x.was.length=x.stripes.length∧x.pos<x.seen.length)∧(x.state=5→x.was.length=x.stripes.length∧x.pos<x.cells.length) ∧
  (x.state=6→x.was.length=x.stripes.length∧x.pos<x.stripes.length)∧(x.state=7→x.pos<x.was.length∧x.fin≠0)
theorem gJ.eqs {x y:dP}(h:gJ x)(h1:y.stripes=x.stripes)(h2:y.was=x.was)(h3:y.seen=x.seen)(h4:y.cells=x.cells):gJ y :=
 ⟨by rw [h1];exact h.rising,by rw [h1];exact h.few,by rw [h1,h2];exact h.was,by rw [h3];exact h.seen,by rw [h4];exact h.cells⟩
theorem Cc {x:dP}(h:gJ x)(hs:x.state=7)(hp:x.pos≤x.was.length)(hf:x.fin≠0):iA (im x):=by
 have h1:=h.was
 have h2:=h.few
 unfold im
 split
 ·exact⟨h.eqs rfl rfl rfl rfl,by simp [hs],by simp only;omega,fun g=>absurd g hf⟩
 ·exact⟨h,by omega,by omega,fun _=>⟨by omega,by omega,by omega,by omega,by omega,by omega⟩⟩
theorem m6 {x:dP}(h:gJ x){e er b:Int}(he:e≠0):iA (fZ x e er b):=Cc (h.eqs rfl rfl rfl rfl) rfl (Nat.zero_le _) he
theorem EA {x:dP}(h:iA x)(hf:x.pat.fin=0)(l:cX):iA (ji x l):=by
 have hw:(x.pat.waits l.owner).1.fin=x.pat.fin:=by unfold nU.waits;split <;> rfl
 unfold ji
 split
 ·exact⟨h.len.eqs rfl rfl rfl rfl,h.st,h.pos,fun _=>h.here hf⟩
 ·exact m6 (x:={ x with pat:=(x.pat.waits l.owner).1 }) (e:=5) (h.len.eqs rfl rfl rfl rfl) (by decide)
theorem Do {x:dP}(h:gJ x)(hs:x.state=6)(hp:x.pos≤x.stripes.length)(hw:x.was.length=x.stripes.length):iA (je x):=by
 have h2:=h.few
 unfold je
 split
 ·exact⟨h.eqs rfl rfl rfl rfl,by simp [hs],by simp only;omega,fun g=>by simp [nU.stop] at g⟩
 ·exact⟨h,by omega,by omega,fun _=>⟨by omega,by omega,by omega,by omega,by omega,by omega⟩⟩
theorem CE {x:dP}(h:gJ x)(hs:x.state=5)(hp:x.pos≤x.cells.length)(hw:x.was.length=x.stripes.length):iA (jB x):=by
 have h2:=h.cells
 unfold jB
 split
 ·exact Do (h.eqs rfl rfl rfl rfl) rfl (Nat.zero_le _) hw
 ·exact⟨h,by omega,by omega,fun _=>⟨by omega,by omega,by omega,by omega,by omega,by omega⟩⟩
theorem Co {x:dP}(h:gJ x)(hw:x.was.length=x.stripes.length):iA (oe x):=CE (h.eqs rfl rfl rfl rfl) rfl (Nat.zero_le _) hw
theorem w6:∀{n:Nat}{x:dP},gJ x→x.state=4→x.was.length=x.stripes.length→x.seen.length=x.pos+n→iA (kH n x)
 | 0,x,h,hs,hw,hn=>Co h hw
 | n+1,x,h,hs,hw,hn=>by
  have h2:=h.seen
  unfold kH
  split
  ·exact⟨h,by omega,by omega,fun _=>⟨by omega,by omega,by omega,by omega,by omega,by omega⟩⟩
  ·split
   ·exact w6 (h.eqs rfl rfl rfl rfl) hs hw (by simp only;omega)
   ·exact m6 (e:=5) h (by decide)
theorem B5 {x:dP}(h:gJ x)(hw:x.was.length=x.stripes.length)(hp:x.pos≤x.seen.length):iA (n8 x):=w6 (h.eqs rfl rfl rfl rfl) rfl hw (by simp only;omega)
theorem Dw {x:dP}(h:gJ x)(hp:x.pos=0):iA (iE x):=by
 have h1:=h.was
 unfold iE
 refine⟨h.eqs rfl rfl rfl rfl,by simp only;split <;> omega,by simp only;omega,fun _=>?_⟩
 simp only
 split <;> exact⟨by omega,by omega,by omega,by omega,by omega,by omega⟩
theorem iP {x:dP}(h:iA x)(a:eW):iA (cZ x a):=by
 have hp:=h.pos
 unfold cZ
 split
 ·rename_i hs
  have hpe:x.pat.stopped a.err=x.pat:=by
   unfold nU.stopped at hs ⊢;split
   ·rename_i h;rw [if_pos h] at hs;simp [nU.stop] at hs
   ·rfl
  rw [hpe] at hs
  obtain⟨g01,g23,g4,g5,g6,g7⟩:=h.here hs
  split
  ·rename_i c
   have g:=g01 c
   unfold py
   split
   ·split
    ·exact EA h hs _
    ·exact⟨h.len.eqs rfl rfl rfl rfl,by simp,by simp only;omega,fun _=>⟨by simp only;omega,by simp only;omega,by simp only;omega,by simp only;omega,by simp only;omega,by simp only;omega⟩⟩
   ·split
    ·exact Dw ⟨h.len.rising,h.len.few,by simp;omega,h.len.seen,h.len.cells⟩ g.2
    ·exact⟨h.len.eqs rfl rfl rfl rfl,by simp,by simp only;omega,fun _=>⟨by simp only;omega,by simp only;omega,by simp only;omega,by simp only;omega,by simp only;omega,by simp only;omega⟩⟩
  split
  ·rename_i c
   have g:=g23 c
   unfold lX
   split
   ·split
    ·exact m6 (e:=4) h.len (by decide)
    ·exact⟨h.len.eqs rfl rfl rfl rfl,by simp,by simp only;omega,fun _=>⟨by simp only;omega,by simp only;omega,by simp only;omega,by simp only;omega,by simp only;omega,by simp only;omega⟩⟩
   ·split
    ·exact⟨h.len.eqs rfl rfl rfl rfl,by simp,by simp only;omega,fun _=>⟨by simp only;omega,by simp only;omega,by simp only;omega,by simp only;omega,by simp only;omega,by simp only;omega⟩⟩
    ·split
     ·exact Co h.len g.1
     ·exact B5 h.len g.1 (by omega)
  split
  ·rename_i c
   have g:=g4 c
   unfold lf
   split
   ·exact EA h hs _
   ·split
    ·exact B5 (h.len.eqs rfl rfl rfl rfl) g.1 (by simp only;omega)
    ·exact m6 (e:=5) h.len (by decide)
  split
  ·rename_i c
   have g:=g5 c
   exact CE (h.len.eqs rfl rfl rfl rfl) c (by simp only;omega) g.1
  split
  ·rename_i c
   have g:=g6 c
   exact Do (h.len.eqs rfl rfl rfl rfl) c (by simp only;omega) g.1
  ·have c:x.state=7:=by have:=h.st;omega
   have g:=g7 c
   exact Cc (h.len.eqs rfl rfl rfl rfl) c (by simp only;omega) g.2
 ·rename_i hs
  exact⟨h.len.eqs rfl rfl rfl rfl,h.st,h.pos,fun g=>absurd g hs⟩
end Go.Proofs.YtoealglbimbbmaaGreatDoor.S
namespace Go.Proofs.YtoealglbimbbmaaGreatDoor.S
open Go Go.Proofs
set_option linter.unusedVariables false
set_option linter.unusedSimpArgs false
abbrev dP.rest (x:dP)(v1 v2 v3 v4:Value):List Value:=[i64 x.me,u64 x.stamp,v1,v2,v3,v4,i64 x.state,i64 x.pos,u64 x.lock.version,.bool x.lock.held,i64 x.lock.owner,u64 x.now,.bool x.writing,i64 x.fin,i64 x.by_,i64 x.err]
abbrev K8 (v1 v2 v3 v4:Value):Prop:=bf v1 [v1]∧bf v2 [v2]∧bf v3 [v3]∧bf v4 [v4]
def ip (b:Nat)(x:dP):bd:=od fun v1=>od fun v2=>od fun v3=>od fun v4=>bt (gX (K8 v1 v2 v3 v4)) (bt (bt (bt (bt (own b (x.pat.cells (x.rest v1 v2 v3 v4))) (sl fX v1 x.seen)) (sl bk v2 x.cells)) (sl bx v3 x.stripes)) (sl lw v4 x.was))
section
variable {w0:bo}{L M:List bd}{K:KV}{F:World→Prop}{C:bd→List bd}{b:Nat}{x:dP}
theorem ck:G w0 (ob ip b x::M) F=∀v1 v2 v3 v4,K8 v1 v2 v3 v4→G w0 (own b (x.pat.cells (x.rest v1 v2 v3 v4))::sl fX v1 x.seen::sl bk v2 x.cells::sl bx v3 x.stripes::sl lw v4 x.was::M) F:=by
 rw [em,ip]
 simp only [qm,ez,fI]
theorem dm {v1 v2 v3 v4:Value}(b:Nat)(x:dP) [dM [own b (x.pat.cells (x.rest v1 v2 v3 v4)),sl fX v1 x.seen,sl bk v2 x.cells,sl bx v3 x.stripes,sl lw v4 x.was] L M]
  (h:K8 v1 v2 v3 v4) (H:G w0 (ob ip b x::M) F):G w0 L F :=
 G.pickAll (As:=[own b (x.pat.cells (x.rest v1 v2 v3 v4)),sl fX v1 x.seen,sl bk v2 x.cells,sl bx v3 x.stripes,sl lw v4 x.was]) (by rw [ck] at H;exact H v1 v2 v3 v4 h)
theorem Lo {t:Bool}{A B:World→Prop}(h:t=true):G w0 L (ai (.bool t) A B)=G w0 L A:=by rw [h,Hb]
theorem LM {t:Bool}{A B:World→Prop}(h:t=false):G w0 L (ai (.bool t) A B)=G w0 L B:=by rw [h,HV]
theorem L6 {t:Bool}{A B:World→Prop}(h:t=true):G w0 L (ai (.bool (!t)) A B)=G w0 L B:=by rw [h];exact congrArg _ HV
theorem R8 {t:Bool}{A B:World→Prop}(h:t=false):G w0 L (ai (.bool (!t)) A B)=G w0 L A:=by rw [h];exact congrArg _ Hb
theorem mF [i:au L ip b x C](hK:G w0 (C (ob ip b (im x))) (K (.tuple #[]))):G w0 L (CP Tryz.prog Xb [ptr b 0] K):=by
 refine i.use (fun M hK=>?_) hK
 refine uC ?_
 unfold mS
 rw [ck]
 rintro v1 v2 v3 v4 ⟨h1,h2,h3,h4⟩
 refine G.drew ?_
 refine gz ?_
 refine G.joini0 ?_
 unfold im at hK
 refine G.cond (fun h=>?_) (fun h=>?_)
 ·rw [if_pos (by simp at h;omega),ck] at hK
  refine G.drew ?_
  refine gz ?_
  refine cW (p:=x.pat) (rest:=x.rest v1 v2 v3 v4) ?_
  refine gz ?_
  exact(hK v1 v2 v3 v4 ⟨h1,h2,h3,h4⟩).sub
 ·rw [if_neg (by simp at h;omega),ck] at hK
  exact(hK v1 v2 v3 v4 ⟨h1,h2,h3,h4⟩).sub
theorem gP {e er by_:Int}[i:au L ip b x C](hK:G w0 (C (ob ip b (fZ x e er by_))) (K (.tuple #[]))):G w0 L (CP Tryz.prog VW [ptr b 0,i64 e,i64 er,i64 by_] K):=by
 refine i.use (fun M hK=>?_) hK
 refine ww ?_
 unfold nF
 rw [ck]
 rintro v1 v2 v3 v4 ⟨h1,h2,h3,h4⟩
 refine gz ?_
 refine dm b { x with fin:=e,err:=er,by_:=by_,pos:=0,state:=7 } ⟨h1,h2,h3,h4⟩ ?_
 refine mF (x:={ x with fin:=e,err:=er,by_:=by_,pos:=0,state:=7 }) ?_
 exact hK
theorem oI {l:cX}[i:au L ip b x C](hK:G w0 (C (ob ip b (ji x l))) (K (.tuple #[]))):G w0 L (CP Tryz.prog Xc [ptr b 0,.agg (cX.cells l).toArray] K):=by
 refine i.use (fun M hK=>?_) hK
 refine wy ?_
 unfold oG
 refine G.box fun q=>?_
 rw [fC,ck]
 rintro v1 v2 v3 v4 ⟨h1,h2,h3,h4⟩
 refine G.drew ?_
 refine gz ?_
 refine gK (p:=x.pat) (x:=l) (rest:=x.rest v1 v2 v3 v4) ?_
 refine gz ?_
 refine G.joini0 ?_
 unfold ji at hK
 cases hw:(x.pat.waits l.owner).2
 ·rw [if_neg (by rw [hw];decide)] at hK
  refine gz ?_
  refine dm b { x with pat:=(x.pat.waits l.owner).1 } ⟨h1,h2,h3,h4⟩ ?_
  refine gP (x:={ x with pat:=(x.pat.waits l.owner).1 }) ?_
  exact hK.sub
 ·rw [if_pos hw,ck] at hK
  refine gz ?_
  exact(hK v1 v2 v3 v4 ⟨h1,h2,h3,h4⟩).sub
theorem nP [i:au L ip b x C](hK:G w0 (C (ob ip b (je x))) (K (.tuple #[]))):G w0 L (CP Tryz.prog Xa [ptr b 0] K):=by
 refine i.use (fun M hK=>?_) hK
 refine vQ ?_
 unfold oo
 rw [ck]
 rintro v1 v2 v3 v4 ⟨h1,h2,h3,h4⟩
 refine G.drew ?_
 refine gz ?_
 refine G.joini0 ?_
 unfold je at hK
 refine G.cond (fun h=>?_) (fun h=>?_)
 ·rw [if_pos (by simp at h;omega),ck] at hK
  refine gz ?_
  refine cW (p:=x.pat) (rest:=x.rest v1 v2 v3 v4) ?_
  exact(hK v1 v2 v3 v4 ⟨h1,h2,h3,h4⟩).sub
 ·rw [if_neg (by simp at h;omega),ck] at hK
  exact(hK v1 v2 v3 v4 ⟨h1,h2,h3,h4⟩).sub
theorem mr [i:au L ip b x C](hK:G w0 (C (ob ip b (jB x))) (K (.tuple #[]))):G w0 L (CP Tryz.prog W9 [ptr b 0] K):=by
 refine i.use (fun M hK=>?_) hK
 refine ud ?_
 unfold mK
 rw [ck]
 rintro v1 v2 v3 v4 ⟨h1,h2,h3,h4⟩
 refine G.drew ?_
 refine gz ?_
 refine G.joini0 ?_
 unfold jB at hK
 refine G.cond (fun h=>?_) (fun h=>?_)
 ·rw [if_pos (by simp at h;omega)] at hK
  refine gz ?_
  refine dm b { x with pos:=0,state:=6 } ⟨h1,h2,h3,h4⟩ ?_
  exact nP (x:={ x with pos:=0,state:=6 }) hK
 ·rw [if_neg (by simp at h;omega),ck] at hK
  exact(hK v1 v2 v3 v4 ⟨h1,h2,h3,h4⟩).sub
theorem mP [i:au L ip b x C](hK:G w0 (C (ob ip b (oe x))) (K (.tuple #[]))):G w0 L (CP Tryz.prog W8 [ptr b 0] K):=by
 refine i.use (fun M hK=>?_) hK
 refine uD ?_
 unfold mG
 rw [ck]
 rintro v1 v2 v3 v4 ⟨h1,h2,h3,h4⟩
 refine gz ?_
 refine dm b { x with writing:=true,pos:=0,state:=5 } ⟨h1,h2,h3,h4⟩ ?_
 exact mr (x:={ x with writing:=true,pos:=0,state:=5 }) hK
theorem nR [i:au L ip b x C](hK:G w0 (C (ob ip b (iE x))) (K (.tuple #[]))):G w0 L (CP Tryz.prog WO [ptr b 0] K):=by
 refine i.use (fun M hK=>?_) hK
 refine vZ ?_
 unfold oq
 rw [ck]
 rintro v1 v2 v3 v4 ⟨h1,h2,h3,h4⟩
 refine gz ?_
 refine G.drew ?_
 refine gz ?_
 refine G.joini0 ?_
 unfold iE at hK
 refine G.cond (fun h=>?_) (fun h=>?_)
 ·rw [if_pos (by simp at h;omega),ck] at hK
  refine gz ?_
  exact(hK v1 v2 v3 v4 ⟨h1,h2,h3,h4⟩).sub
 ·rw [if_neg (by simp at h;omega),ck] at hK
  exact(hK v1 v2 v3 v4 ⟨h1,h2,h3,h4⟩).sub
theorem Em {m n:Int}(hK:G w0 L (K (.bool (decide (m<n))))):G w0 L (CP Tryz.prog Zc [i64 m,i64 n] K):=by
 refine DC ?_
 unfold wD
 refine gu ?_
 refine CH ?_
 unfold tJ
 refine gr ?_
 exact hK
def kL:List Int→Int→Nat
 | [],_=>0
 | s::l,a=>if s<a then kL l a+1 else 0
theorem HC {a:Int}:∀{l:List Int},kL l a≤l.length
 | []=>by simp [kL]
 | s::l=>by unfold kL;have:=HC (a:=a) (l:=l);simp only [List.length_cons];split <;> omega
theorem IH {a:Int}:∀{l:List Int},(∀j (h:j<l.length),j<kL l a→l[j]<a)∧(∀h:kL l a<l.length,a≤l[kL l a])
 | []=>⟨fun j h=>by simp at h,fun h=>by simp at h⟩
 | s::l=>by
  have ih:=IH (a:=a) (l:=l)
  constructor
  ·intro j h hj
   unfold kL at hj
   split at hj
   ·rename_i hs
    cases j with
    | zero=>simpa using hs
    | succ j=>simpa using ih.1 j (by simpa using h) (by omega)
   ·omega
  ·intro h
   unfold kL at h
   by_cases hs:s<a
   ·have e:kL (s::l) a=kL l a+1:=by simp [kL,hs]
    simp only [e]
    rw [if_pos hs] at h
    simpa using ih.2 (by simpa using h)
   ·have e:kL (s::l) a=0:=by simp [kL,hs]
    simp only [e]
    simpa using (by omega:a≤s)
theorem Nq {a:Int}{l:List Int}{i:Nat}(hi:i≤l.length)(h1:∀j (h:j<l.length),j<i→l[j]<a)(h2:∀h:i<l.length,a≤l[i]):kL l a=i:=by
 have ⟨g1,g2⟩:=IH (a:=a) (l:=l)
 have g0:=HC (a:=a) (l:=l)
 rcases Nat.lt_trichotomy (kL l a) i with h | h | h
 ·have:=h1 _ (by omega) h;have:=g2 (by omega);omega
 ·exact h
 ·have:=g1 i (by omega) h;have:=h2 (by omega);omega
theorem JC {a:Int}{l:List Int}(hr:l.Pairwise (·<·)):(∀h:kL l a<l.length,l[kL l a]=a→tq l a=some (kL l a))∧((kL l a<l.length→l[kL l a]?≠some a)→tq l a=none):=by
 have ⟨g1,g2⟩:=IH (a:=a) (l:=l)
 refine⟨fun h e=>KA hr (by rw [List.getElem?_eq_getElem h,e]),fun h=>?_⟩
 rw [Be]
 intro hm
 obtain⟨j,hj,e⟩:=List.getElem_of_mem hm
 have hle:kL l a≤j:=by
  rcases Nat.lt_or_ge j (kL l a) with g | g
  ·have:=g1 j hj g;omega
  ·exact g
 have hlt:kL l a<l.length:=by omega
 have h3:=h hlt
 rw [List.getElem?_eq_getElem hlt] at h3
 have h4:=g2 hlt
 rcases Nat.lt_or_ge (kL l a) j with g | g
 ·have:=List.pairwise_iff_getElem.1 hr _ j hlt hj g;omega
 ·have:kL l a=j:=by omega
  exact h3 (by simp only [this,e])
theorem Vk (i j:Nat)(h:i≤j)(hj:j≤1000000):IntKind.wrap .i64 ((IntKind.wrap .u64 (IntKind.wrap .i64 ((i:Int)+j))).fdiv (2 ^ min (1:Int).toNat IntKind.u64.bits))=(((i+j) / 2:Nat):Int):=by
 rw [gh (n:=(i:Int)+j) (by omega) (by omega),CI (by omega) (by omega)]
 have:(2:Int) ^ min (1:Int).toNat IntKind.u64.bits=2:=by decide
 rw [this,Int.fdiv_eq_ediv_of_nonneg _ (by decide),gh (by omega) (by omega)]
 omega
theorem qJ {v:Value}{l:List Int}{a:Int}[r:Rd w0 L v bx 1 l](hr:l.Pairwise (·<·))(hl:l.length≤1000000)
  (hK:G w0 L (K (.tuple #[i64 (kL l a),.bool (tq l a).isSome]))):G w0 L (CP Tryz.prog Zz [v,i64 a] K):=by
 refine n9 ?_
 unfold iz
 refine gu ?_
 refine gr ?_
 refine G.loop2 (σ:=Nat×Nat) (fun z=>i64 z.1) (fun z=>i64 z.2) (fun _=>L) (fun z=>z.1≤z.2∧z.2≤l.length∧(∀j (h:j<l.length),j<z.1→l[j]<a)∧(∀j (h:j<l.length),z.2≤j→a≤l[j])) (fun z=>z.2-z.1) (0,l.length) rfl rfl rfl ⟨by simp,by simp,fun j h hj=>by simp at hj,fun j h hj=>by simp only at hj;omega⟩ ?_
 rintro⟨i,j⟩ ⟨hij,hjl,p1,p2⟩ J hJ
 simp only at hij hjl p1 p2 hJ ⊢
 refine gr ?_
 refine G.cond (fun h=>?_) (fun h=>?_)
 ·have hlt:i<j:=by simpa using h
  have hm:(i+j) / 2<l.length:=by omega
  have e:=cw hm
  rw [Vk i j hij (by omega)]
  refine gr ?_
  refine Em ?_
  refine G.joini2 ?_
  refine G.cond (fun h2=>?_) (fun h2=>?_)
  ·have h3:l[(i+j) / 2]<a:=by simpa using h2
   refine gr ?_
   rw [dx (by omega)]
   exact hJ ((i+j) / 2+1,j) ⟨by simp only;omega,hjl,fun k hk hk2=>by
    rcases Nat.lt_or_ge k ((i+j) / 2) with g | g
    ·have:=List.pairwise_iff_getElem.1 hr k _ hk hm g;omega
    ·have:k=(i+j) / 2:=by simp only at hk2;omega
     subst this;exact h3,p2⟩ (by simp only;omega)
  ·have h3:¬l[(i+j) / 2]<a:=by simpa using h2
   exact hJ (i,(i+j) / 2) ⟨by simp only;omega,by simp only;omega,p1,fun k hk hk2=>by
    rcases Nat.lt_or_ge ((i+j) / 2) k with g | g
    ·have:=List.pairwise_iff_getElem.1 hr _ k hm hk g;omega
    ·have:k=(i+j) / 2:=by simp only at hk2;omega
     subst this;omega⟩ (by simp only;omega)
 ·have hij2:i=j:=by simp at h;omega
  subst hij2
  have hlo:kL l a=i:=Nq hjl p1 (fun h=>p2 i h (Nat.le_refl _))
  have ⟨q1,q2⟩:=JC (a:=a) hr
  rw [hlo] at hK q2
  by_cases hi:i<l.length
  ·have e:=cw hi
   have hi3:(i:Int)<(l.length:Int):=by omega
   by_cases he:l[i]=a
   ·have:tq l a=some i:=by
     have:=q1 (by rw [hlo];exact hi) (by simp only [hlo];exact he)
     rwa [hlo] at this
    rw [this] at hK
    refine eC (an hi3 he) ?_
    exact hK
   ·have:tq l a=none:=q2 (fun h=>by rw [List.getElem?_eq_getElem h];simpa using he)
    rw [this] at hK
    have ha2:¬(i:Int)<(i:Int):=by omega
    refine eC (an hi3 he) ?_
    refine yw ?_
    unfold qd
    refine gr ?_
    exact hK
  ·have:tq l a=none:=q2 (fun h=>absurd h hi)
   rw [this] at hK
   have hi3:¬(i:Int)<(l.length:Int):=by omega
   refine eC hi3 ?_
   exact hK
theorem ki [i:au L ip b x C](hK:G w0 L (K (i64 x.pat.fin))):G w0 L (CP Tryz.prog VO [ptr b 0] K):=by
 refine i.ro (fun M hK=>?_) hK
 rw [ck] at *
 rintro v1 v2 v3 v4 hv
 refine o8 ?_
 unfold jU
 refine gz ?_
 refine dE (p:=x.pat) (rest:=x.rest v1 v2 v3 v4) ?_
 exact hK v1 v2 v3 v4 hv
theorem xr [i:au L ip b x C](hK:G w0 L (K (i64 x.pat.err))):G w0 L (CP Tryz.prog YI [ptr b 0] K):=by
 refine i.ro (fun M hK=>?_) hK
 rw [ck] at *
 rintro v1 v2 v3 v4 hv
 refine xw ?_
 unfold pg
 refine gz ?_
 refine sH (p:=x.pat) (rest:=x.rest v1 v2 v3 v4) ?_
 exact hK v1 v2 v3 v4 hv
theorem yG [i:au L ip b x C](hK:G w0 L (K (i64 x.pat.by_))):G w0 L (CP Tryz.prog Zt [ptr b 0] K):=by
 refine i.ro (fun M hK=>?_) hK
 rw [ck] at *
 rintro v1 v2 v3 v4 hv
 refine yN ?_
 unfold p8
 refine gz ?_
 refine iF (p:=x.pat) (rest:=x.rest v1 v2 v3 v4) ?_
 exact hK v1 v2 v3 v4 hv
theorem uj [i:au L ip b x C](hK:G w0 L (K (u64 (if x.writing=true then IntKind.wrap .u64 (x.now+1) else 0)))):G w0 L (CP Tryz.prog WL [ptr b 0] K):=by
 refine i.ro (fun M hK=>?_) hK
 rw [ck] at *
 rintro v1 v2 v3 v4 hv
 refine ug ?_
 unfold mL
 cases hw:x.writing
 ·refine eC hw ?_
  have h:=hK v1 v2 v3 v4 hv
  simp only [hw] at h
  exact h
 ·refine eC hw ?_
  have h:=hK v1 v2 v3 v4 hv
  simp only [hw] at h
  exact h
theorem sf [i:au L ip b x C](hK:G w0 L (K (.bool (x.writing && decide (x.pat.fin=0))))):G w0 L (CP Tryz.prog Yu [ptr b 0] K):=by
 refine i.ro (fun M hK=>?_) hK
 rw [ck] at *
 rintro v1 v2 v3 v4 hv
 refine sF ?_
 unfold lj
 have h:=hK v1 v2 v3 v4 hv
 cases hw:x.writing
 ·simp only [hw] at h
  refine eC hw ?_
  exact h
 ·simp only [hw,Bool.true_and] at h
  refine eC hw ?_
  refine o8 ?_
  unfold jU
  refine gr ?_
  refine dE (p:=x.pat) (rest:=x.rest v1 v2 v3 v4) ?_
  refine gr ?_
  exact h
theorem mC (hl:gJ x)(hw:x.was.length=x.stripes.length)(hp:x.pos≤x.seen.length)[i:au L ip b x C](hK:G w0 (C (ob ip b (n8 x))) (K (.tuple #[]))):G w0 L (CP Tryz.prog Xd [ptr b 0] K):=by
 refine i.use (fun M hK=>?_) hK
 refine uo ?_
 unfold mQ
 have hfew:=hl.few
 have hseen:=hl.seen
 rw [ck]
 rintro v1 v2 v3 v4 ⟨h1,h2,h3,h4⟩
 refine gz ?_
 refine dm b { x with state:=4 } ⟨h1,h2,h3,h4⟩ ?_
 refine G.loop0 (σ:=Nat) (fun k=>ob ip b { x with state:=4,pos:=k }::M) (fun k=>x.pos≤k∧k≤x.seen.length∧n8 x=kH (x.seen.length-k) { x with state:=4,pos:=k }) (fun k=>x.seen.length-k) x.pos rfl ⟨Nat.le_refl _,hp,rfl⟩ ?_
 rintro k ⟨hk1,hk2,hpr⟩ J hJ
 rw [hpr] at hK
 rw [ck]
 rintro v1 v2 v3 v4 ⟨h1,h2,h3,h4⟩
 refine G.drew ?_
 refine gz ?_
 refine G.cond (fun h=>?_) (fun h=>?_)
 ·have hk3:k<x.seen.length:=by simpa using h
  have e:=cw hk3
  have hg:x.seen.getD k ⟨0,0⟩=x.seen[k]:=by simp [hk3]
  rw [show x.seen.length-k=(x.seen.length-(k+1))+1 by omega] at hK hpr
  unfold kH at hK hpr
  simp only [hg,Sb] at hK hpr
  refine G.drew ?_
  refine gz ?_
  refine qJ (l:=x.stripes) hl.rising (by omega) ?_
  refine gz ?_
  cases hi:tq x.stripes x.seen[k].stripe with
  | none =>
   rw [hi] at hK
   simp only [Option.map_none] at hK
   try simp (maxSteps:=2000000) only [↓RG,RB,BEq.rfl,Int.reduceEq,Int.reduceLT,Int.reduceLE,Nat.reduceEqDiff,Option.isSome_none]
   rw [ck] at hK
   exact(hK v1 v2 v3 v4 ⟨h1,h2,h3,h4⟩).sub
  | some j =>
   have hj:=Sh hi
   have hlo:kL x.stripes x.seen[k].stripe=j:=by
    have ⟨g1,g2⟩:=JC (a:=x.seen[k].stripe) hl.rising
    have g3:=HC (a:=x.seen[k].stripe) (l:=x.stripes)
    by_cases hc:kL x.stripes x.seen[k].stripe<x.stripes.length
    ·by_cases he:x.stripes[kL x.stripes x.seen[k].stripe]=x.seen[k].stripe
     ·have:=g1 hc he;rw [hi] at this;cases this;rfl
     ·have:=g2 (fun h=>by rw [List.getElem?_eq_getElem h];simpa using he);rw [hi] at this;cases this
    ·have:=g2 (fun h=>absurd h hc);rw [hi] at this;cases this
   have hj2:j<x.was.length:=by omega
   have e2:=cw hj2
   have hgw:x.was.getD j ae=x.was[j]:=by simp [hj2]
   rw [hi] at hK hpr
   simp only [Option.map_some,hgw] at hK hpr
   rw [hlo]
   try simp (maxSteps:=2000000) only [↓RG,RB,BEq.rfl,Int.reduceEq,Int.reduceLT,Int.reduceLE,Nat.reduceEqDiff,Option.isSome_some]
   refine G.drew ?_
   refine gz ?_
   by_cases hv:x.was[j].version=x.seen[k].version
   ·rw [if_pos hv] at hpr
    refine Vz hv ?_
    rw [dx (by omega)]
    refine dm b { x with state:=4,pos:=k+1 } ⟨h1,h2,h3,h4⟩ ?_
    exact hJ (k+1) ⟨by omega,by omega,hpr⟩ (by omega)
   ·rw [if_neg hv] at hK
    refine Vz hv ?_
    refine dm b { x with state:=4,pos:=k } ⟨h1,h2,h3,h4⟩ ?_
    refine gP (x:={ x with state:=4,pos:=k }) ?_
    exact hK
 ·have hk3:k=x.seen.length:=by simp at h;omega
  subst hk3
  rw [Nat.sub_self] at hK
  unfold kH at hK
  refine dm b { x with state:=4,pos:=x.seen.length } ⟨h1,h2,h3,h4⟩ ?_
  refine mP (x:={ x with state:=4,pos:=x.seen.length }) ?_
  exact hK
theorem ow {a:eW}(hl:gJ x)[i:au L ip b x C](hK:G w0 (C (ob ip b (py x a))) (K (.tuple #[]))):G w0 L (CP Tryz.prog Zw [ptr b 0,.agg (eW.cells a).toArray] K):=by
 refine i.use (fun M hK=>?_) hK
 refine vq ?_
 unfold oD
 have hfew:=hl.few
 have hwas:=hl.was
 refine gu ?_
 refine G.box fun q=>?_
 rw [fC,ck]
 rintro v1 v2 v3 v4 ⟨h1,h2,h3,h4⟩
 refine gr ?_
 unfold py at hK
 by_cases hs:x.state=0
 ·rw [if_pos hs] at hK
  cases hh:a.lock.held
  ·rw [if_neg (by rw [hh];decide),ck] at hK
   repeat' (first | (with_reducible refine G.joini0 ?_) | (with_reducible refine G.joini1 ?_) | (with_reducible refine G.drew ?_) | (simp (maxSteps:=2000000) only [↓RG,RP,RB,BEq.rfl,Int.reduceEq,Int.reduceLT,Int.reduceLE,Nat.reduceEqDiff,eq_true hs,LM hh]))
   exact(hK v1 v2 v3 v4 ⟨h1,h2,h3,h4⟩).sub
  ·rw [if_pos hh] at hK
   repeat' (first | (with_reducible refine G.joini0 ?_) | (with_reducible refine G.joini1 ?_) | (with_reducible refine G.drew ?_) | (simp (maxSteps:=2000000) only [↓RG,RP,RB,BEq.rfl,Int.reduceEq,Int.reduceLT,Int.reduceLE,Nat.reduceEqDiff,eq_true hs,Lo hh]))
   refine dm b x ⟨h1,h2,h3,h4⟩ ?_
   refine oI (x:=x) (l:=a.lock) ?_
   exact hK.sub
 ·rw [if_neg hs] at hK
  cases hd:a.done
  ·rw [if_neg (by rw [hd];decide),ck] at hK
   repeat' (first | (with_reducible refine G.joini0 ?_) | (with_reducible refine G.joini1 ?_) | (with_reducible refine G.drew ?_) | (simp (maxSteps:=2000000) only [↓RG,RP,RB,BEq.rfl,Int.reduceEq,Int.reduceLT,Int.reduceLE,Nat.reduceEqDiff,hs,LM hd]))
   exact(hK v1 v2 v3 v4 ⟨h1,h2,h3,h4⟩).sub
  ·rw [if_pos hd] at hK
   repeat' (first | (with_reducible refine G.joini0 ?_) | (with_reducible refine G.joini1 ?_) | (with_reducible refine G.drew ?_) | (simp (maxSteps:=2000000) only [↓RG,RP,RB,BEq.rfl,Int.reduceEq,Int.reduceLT,Int.reduceLE,Nat.reduceEqDiff,hs,Lo hd]))
   refine G.build lw [x.lock] rfl (by simp) rfl fun v6 h6=>?_
   refine gg ?_
   refine G.append (xs:=x.was) (ys:=[x.lock]) (by simp;omega) (by simp [maxLen];omega) fun v5 h5=>?_
   refine gg ?_
   refine dm b { x with was:=x.was++[x.lock] } ⟨h1,h2,h3,h5⟩ ?_
   refine nR (x:={ x with was:=x.was++[x.lock] }) ?_
   exact hK.sub
theorem mt {a:eW}(hl:gJ x)(hg:x.state=3→x.was.length=x.stripes.length∧x.pos=0)[i:au L ip b x C](hs:x.state=2∨x.state=3)(hK:G w0 (C (ob ip b (lX x a))) (K (.tuple #[]))):G w0 L (CP Tryz.prog Zx [ptr b 0,.agg (eW.cells a).toArray] K):=by
 refine i.use (fun M hK=>?_) hK
 refine uB ?_
 unfold mu
 refine gu ?_
 refine G.box fun q=>?_
 rw [fC,ck]
 rintro v1 v2 v3 v4 ⟨h1,h2,h3,h4⟩
 refine gr ?_
 unfold lX at hK
 by_cases hs2:x.state=2
 ·rw [if_pos hs2] at hK
  by_cases hc:4611686018427387903≤a.word
  ·rw [if_pos hc] at hK
   refine gf (an (eq_true hs2) hc) ?_
   refine dm b x ⟨h1,h2,h3,h4⟩ ?_
   refine gP (x:=x) ?_
   exact hK.sub
  ·rw [if_neg hc,ck] at hK
   repeat' (first | (with_reducible refine G.joini0 ?_) | (with_reducible refine G.joini1 ?_) | (with_reducible refine G.drew ?_) | (simp (maxSteps:=2000000) only [↓RG,RP,RB,BEq.rfl,Int.reduceEq,Int.reduceLT,Int.reduceLE,Nat.reduceEqDiff,eq_true hs2,hc]))
   exact(hK v1 v2 v3 v4 ⟨h1,h2,h3,h4⟩).sub
 ·rw [if_neg hs2] at hK
  have hs3:x.state=3:=by omega
  have g:=hg hs3
  cases hd:a.done
  ·rw [if_pos hd,ck] at hK
   repeat' (first | (with_reducible refine G.joini0 ?_) | (with_reducible refine G.joini1 ?_) | (with_reducible refine G.drew ?_) | (simp (maxSteps:=2000000) only [↓RG,RP,RB,BEq.rfl,Int.reduceEq,Int.reduceLT,Int.reduceLE,Nat.reduceEqDiff,hs2,R8 hd]))
   exact(hK v1 v2 v3 v4 ⟨h1,h2,h3,h4⟩).sub
  ·rw [if_neg (by rw [hd];decide)] at hK
   by_cases hn:x.now=x.stamp
   ·rw [if_pos hn] at hK
    repeat' (first | (with_reducible refine G.joini0 ?_) | (with_reducible refine G.joini1 ?_) | (with_reducible refine G.drew ?_) | (simp (maxSteps:=2000000) only [↓RG,RP,RB,BEq.rfl,Int.reduceEq,Int.reduceLT,Int.reduceLE,Nat.reduceEqDiff,hs2,L6 hd,eq_true hn]))
    refine dm b x ⟨h1,h2,h3,h4⟩ ?_
    refine mP (x:=x) ?_
    exact hK.sub
   ·rw [if_neg hn] at hK
    repeat' (first | (with_reducible refine G.joini0 ?_) | (with_reducible refine G.joini1 ?_) | (with_reducible refine G.drew ?_) | (simp (maxSteps:=2000000) only [↓RG,RP,RB,BEq.rfl,Int.reduceEq,Int.reduceLT,Int.reduceLE,Nat.reduceEqDiff,hs2,L6 hd,hn]))
    refine dm b x ⟨h1,h2,h3,h4⟩ ?_
    refine mC (x:=x) hl g.1 (by omega) ?_
    exact hK.sub
theorem tb {l:cX}(hl:gJ x)(hw:x.was.length=x.stripes.length)(hp:x.pos<x.seen.length)[i:au L ip b x C](hK:G w0 (C (ob ip b (lf x l))) (K (.tuple #[]))):G w0 L (CP Tryz.prog Zy [ptr b 0,.agg (cX.cells l).toArray] K):=by
 refine i.use (fun M hK=>?_) hK
 refine tC ?_
 unfold lC
 have hseen:=hl.seen
 refine G.box fun q=>?_
 rw [fC,ck]
 rintro v1 v2 v3 v4 ⟨h1,h2,h3,h4⟩
 have e:=cw hp
 have hg:x.seen.getD x.pos ⟨0,0⟩=x.seen[x.pos]:=by simp [hp]
 unfold lf at hK
 rw [hg] at hK
 cases hh:l.held
 ·rw [if_neg (by rw [hh];decide)] at hK
  repeat' (first | (with_reducible refine G.joini0 ?_) | (with_reducible refine G.joini1 ?_) | (with_reducible refine G.drew ?_) | (simp (maxSteps:=2000000) only [↓RG,RP,RB,BEq.rfl,Int.reduceEq,Int.reduceLT,Int.reduceLE,Nat.reduceEqDiff,LM hh]))
  by_cases hv:l.version=x.seen[x.pos].version
  ·rw [if_pos hv] at hK
   refine gf (eq_true hv) ?_
   rw [dx (by omega)]
   refine dm b { x with pos:=x.pos+1 } ⟨h1,h2,h3,h4⟩ ?_
   refine mC (x:={ x with pos:=x.pos+1 }) (hl.eqs rfl rfl rfl rfl) hw hp ?_
   exact hK.sub
  ·rw [if_neg hv] at hK
   refine gf hv ?_
   refine dm b x ⟨h1,h2,h3,h4⟩ ?_
   refine gP (x:=x) ?_
   exact hK.sub
 ·rw [if_pos hh] at hK
  repeat' (first | (with_reducible refine G.joini0 ?_) | (with_reducible refine G.joini1 ?_) | (with_reducible refine G.drew ?_) | (simp (maxSteps:=2000000) only [↓RG,RP,RB,BEq.rfl,Int.reduceEq,Int.reduceLT,Int.reduceLE,Nat.reduceEqDiff,Lo hh]))
  refine dm b x ⟨h1,h2,h3,h4⟩ ?_
  refine oI (x:=x) (l:=l) ?_
  exact hK.sub
theorem vO {a:eW}(ho:iA x)[i:au L ip b x C](hK:G w0 (C (ob ip b (cZ x a))) (K (.tuple #[]))):G w0 L (CP Tryz.prog Zv [ptr b 0,.agg (eW.cells a).toArray] K):=by
 refine i.use (fun M hK=>?_) hK
 refine uU ?_
 unfold n7
 have hpos:=ho.pos
 have hst:=ho.st
 refine G.box fun q=>?_
 rw [fC,ck]
 rintro v1 v2 v3 v4 ⟨h1,h2,h3,h4⟩
 refine G.drew ?_
 refine gz ?_
 refine fU (p:=x.pat) (a:=a) (rest:=x.rest v1 v2 v3 v4) ?_
 unfold cZ at hK
 by_cases hs:(x.pat.stopped a.err).fin=0
 ·have hp:x.pat.stopped a.err=x.pat:=by
   unfold nU.stopped at hs ⊢;split
   ·rename_i h;rw [if_pos h] at hs;simp [nU.stop] at hs
   ·rfl
  rw [if_pos hs] at hK
  rw [hp] at hs
  rw [hp]
  obtain⟨g01,g23,g4,g5,g6,g7⟩:=ho.here hs
  by_cases c0:x.state=0
  ·rw [if_pos (.inl c0)] at hK
   repeat' (first | (with_reducible refine G.joini0 ?_) | (with_reducible refine G.joini1 ?_) | (with_reducible refine G.drew ?_) | (simp (maxSteps:=2000000) only [↓RG,RP,RB,BEq.rfl,Int.reduceEq,Int.reduceLT,Int.reduceLE,Nat.reduceEqDiff,eq_true hs,eq_true c0]))
   refine dm b x ⟨h1,h2,h3,h4⟩ ?_
   refine ow (x:=x) (a:=a) ho.len ?_
   exact hK.sub
  by_cases c1:x.state=1
  ·rw [if_pos (.inr c1)] at hK
   repeat' (first | (with_reducible refine G.joini0 ?_) | (with_reducible refine G.joini1 ?_) | (with_reducible refine G.drew ?_) | (simp (maxSteps:=2000000) only [↓RG,RP,RB,BEq.rfl,Int.reduceEq,Int.reduceLT,Int.reduceLE,Nat.reduceEqDiff,eq_true hs,eq_true c1,c0]))
   refine dm b x ⟨h1,h2,h3,h4⟩ ?_
   refine ow (x:=x) (a:=a) ho.len ?_
   exact hK.sub
  rw [if_neg (by omega)] at hK
  by_cases c2:x.state=2
  ·rw [if_pos (.inl c2)] at hK
   repeat' (first | (with_reducible refine G.joini0 ?_) | (with_reducible refine G.joini1 ?_) | (with_reducible refine G.drew ?_) | (simp (maxSteps:=2000000) only [↓RG,RP,RB,BEq.rfl,Int.reduceEq,Int.reduceLT,Int.reduceLE,Nat.reduceEqDiff,eq_true hs,eq_true c2,c0,c1]))
   refine dm b x ⟨h1,h2,h3,h4⟩ ?_
   refine mt (x:=x) (a:=a) ho.len (fun h=>g23 (.inr h)) (.inl c2) ?_
   exact hK.sub
  by_cases c3:x.state=3
  ·rw [if_pos (.inr c3)] at hK
   repeat' (first | (with_reducible refine G.joini0 ?_) | (with_reducible refine G.joini1 ?_) | (with_reducible refine G.drew ?_) | (simp (maxSteps:=2000000) only [↓RG,RP,RB,BEq.rfl,Int.reduceEq,Int.reduceLT,Int.reduceLE,Nat.reduceEqDiff,eq_true hs,eq_true c3,c0,c1,c2]))
   refine dm b x ⟨h1,h2,h3,h4⟩ ?_
   refine mt (x:=x) (a:=a) ho.len (fun h=>g23 (.inr h)) (.inr c3) ?_
   exact hK.sub
  rw [if_neg (by omega)] at hK
  by_cases c4:x.state=4
  ·rw [if_pos c4] at hK
   repeat' (first | (with_reducible refine G.joini0 ?_) | (with_reducible refine G.joini1 ?_) | (with_reducible refine G.drew ?_) | (simp (maxSteps:=2000000) only [↓RG,RP,RB,BEq.rfl,Int.reduceEq,Int.reduceLT,Int.reduceLE,Nat.reduceEqDiff,eq_true hs,eq_true c4,c0,c1,c2,c3]))
   refine dm b x ⟨h1,h2,h3,h4⟩ ?_
   refine tb (x:=x) (l:=a.lock) ho.len (g4 c4).1 (g4 c4).2 ?_
   exact hK.sub
  rw [if_neg c4] at hK
  by_cases c5:x.state=5
  ·rw [if_pos c5] at hK
   repeat' (first | (with_reducible refine G.joini0 ?_) | (with_reducible refine G.joini1 ?_) | (with_reducible refine G.drew ?_) | (simp (maxSteps:=2000000) only [↓RG,RP,RB,BEq.rfl,Int.reduceEq,Int.reduceLT,Int.reduceLE,Nat.reduceEqDiff,eq_true hs,eq_true c5,c0,c1,c2,c3,c4]))
   rw [dx (by omega)]
   refine dm b { x with pos:=x.pos+1 } ⟨h1,h2,h3,h4⟩ ?_
   refine mr (x:={ x with pos:=x.pos+1 }) ?_
   exact hK.sub
  rw [if_neg c5] at hK
  by_cases c6:x.state=6
  ·rw [if_pos c6] at hK
   repeat' (first | (with_reducible refine G.joini0 ?_) | (with_reducible refine G.joini1 ?_) | (with_reducible refine G.drew ?_) | (simp (maxSteps:=2000000) only [↓RG,RP,RB,BEq.rfl,Int.reduceEq,Int.reduceLT,Int.reduceLE,Nat.reduceEqDiff,eq_true hs,eq_true c6,c0,c1,c2,c3,c4,c5]))
   rw [dx (by omega)]
   refine dm b { x with pos:=x.pos+1 } ⟨h1,h2,h3,h4⟩ ?_
   refine nP (x:={ x with pos:=x.pos+1 }) ?_
   exact hK.sub
  rw [if_neg c6] at hK
  have c7:x.state=7:=by omega
  repeat' (first | (with_reducible refine G.joini0 ?_) | (with_reducible refine G.joini1 ?_) | (with_reducible refine G.drew ?_) | (simp (maxSteps:=2000000) only [↓RG,RP,RB,BEq.rfl,Int.reduceEq,Int.reduceLT,Int.reduceLE,Nat.reduceEqDiff,eq_true hs,eq_true c7,c0,c1,c2,c3,c4,c5,c6]))
  rw [dx (by omega)]
  refine dm b { x with pos:=x.pos+1 } ⟨h1,h2,h3,h4⟩ ?_
  refine mF (x:={ x with pos:=x.pos+1 }) ?_
  exact hK.sub
 ·rw [if_neg hs,ck] at hK
  refine gf hs ?_
  exact(hK v1 v2 v3 v4 ⟨h1,h2,h3,h4⟩).sub
theorem vN (ho:iA x)[i:au L ip b x C](hK:G w0 L (K (.tuple #[.agg (pD.cells (bj x).1).toArray,.bool (bj x).2]))):G w0 L (CP Tryz.prog Zu [ptr b 0] K):=by
 refine i.ro (fun M hK=>?_) hK
 rw [ck] at *
 rintro v1 v2 v3 v4 hv
 have hK:=hK v1 v2 v3 v4 hv
 have hst:=ho.st
 have hwas:=ho.len.was
 refine wz ?_
 unfold ov
 refine G.new fun q=>?_
 refine gz ?_
 refine dE (p:=x.pat) (rest:=x.rest v1 v2 v3 v4) ?_
 unfold bj at hK
 by_cases hf:x.pat.fin=0
 ·rw [if_pos hf] at hK
  obtain⟨g01,g23,g4,g5,g6,g7⟩:=ho.here hf
  by_cases c0:x.state=0
  ·rw [if_pos c0] at hK
   have hp:=(g01 (.inl c0)).1
   have e:=cw hp
   have hg:x.stripes.getD x.was.length 0=x.stripes[x.was.length]:=by simp [hp]
   rw [hg] at hK
   repeat' (first | (with_reducible refine G.joini0 ?_) | (with_reducible refine G.joini1 ?_) | (with_reducible refine G.drew ?_) | (simp (maxSteps:=2000000) only [↓RG,RP,RB,BEq.rfl,Int.reduceEq,Int.reduceLT,Int.reduceLE,Nat.reduceEqDiff,eq_true hf,eq_true c0]))
   exact hK.sub
  rw [if_neg c0] at hK
  by_cases c1:x.state=1
  ·rw [if_pos c1] at hK
   have hp:=(g01 (.inr c1)).1
   have e:=cw hp
   have hg:x.stripes.getD x.was.length 0=x.stripes[x.was.length]:=by simp [hp]
   rw [hg] at hK
   repeat' (first | (with_reducible refine G.joini0 ?_) | (with_reducible refine G.joini1 ?_) | (with_reducible refine G.drew ?_) | (simp (maxSteps:=2000000) only [↓RG,RP,RB,BEq.rfl,Int.reduceEq,Int.reduceLT,Int.reduceLE,Nat.reduceEqDiff,eq_true hf,eq_true c1,c0]))
   refine G.new fun q2=>?_
   repeat' (first | (with_reducible refine G.joini0 ?_) | (with_reducible refine G.joini1 ?_) | (with_reducible refine G.drew ?_) | (simp (maxSteps:=2000000) only [↓RG,RP,RB,BEq.rfl,Int.reduceEq,Int.reduceLT,Int.reduceLE,Nat.reduceEqDiff]))
   exact hK.sub
  rw [if_neg c1] at hK
  by_cases c2:x.state=2
  ·rw [if_pos c2] at hK
   refine gf (an (eq_true hf) (an (eq_true c2) (an c0 c1))) ?_
   exact hK.sub
  rw [if_neg c2] at hK
  by_cases c3:x.state=3
  ·rw [if_pos c3] at hK
   repeat' (first | (with_reducible refine G.joini0 ?_) | (with_reducible refine G.joini1 ?_) | (with_reducible refine G.drew ?_) | (simp (maxSteps:=2000000) only [↓RG,RP,RB,BEq.rfl,Int.reduceEq,Int.reduceLT,Int.reduceLE,Nat.reduceEqDiff,eq_true hf,eq_true c3,c0,c1,c2]))
   exact hK.sub
  rw [if_neg c3] at hK
  by_cases c4:x.state=4
  ·rw [if_pos c4] at hK
   have hp:=(g4 c4).2
   have e:=cw hp
   have hg:x.seen.getD x.pos ⟨0,0⟩=x.seen[x.pos]:=by simp [hp]
   rw [hg] at hK
   repeat' (first | (with_reducible refine G.joini0 ?_) | (with_reducible refine G.joini1 ?_) | (with_reducible refine G.drew ?_) | (simp (maxSteps:=2000000) only [↓RG,RP,RB,BEq.rfl,Int.reduceEq,Int.reduceLT,Int.reduceLE,Nat.reduceEqDiff,eq_true hf,eq_true c4,c0,c1,c2,c3]))
   exact hK.sub
  rw [if_neg c4] at hK
  by_cases c5:x.state=5
  ·rw [if_pos c5] at hK
   have hp:=(g5 c5).2
   have e:=cw hp
   have hg:x.cells.getD x.pos ⟨0,0⟩=x.cells[x.pos]:=by simp [hp]
   rw [hg] at hK
   repeat' (first | (with_reducible refine G.joini0 ?_) | (with_reducible refine G.joini1 ?_) | (with_reducible refine G.drew ?_) | (simp (maxSteps:=2000000) only [↓RG,RP,RB,BEq.rfl,Int.reduceEq,Int.reduceLT,Int.reduceLE,Nat.reduceEqDiff,eq_true hf,eq_true c5,c0,c1,c2,c3,c4]))
   exact hK.sub
  rw [if_neg c5] at hK
  by_cases c6:x.state=6
  ·rw [if_pos c6] at hK
   have hp:=(g6 c6).2
   have e:=cw hp
   have hg:x.stripes.getD x.pos 0=x.stripes[x.pos]:=by simp [hp]
   rw [hg] at hK
   repeat' (first | (with_reducible refine G.joini0 ?_) | (with_reducible refine G.joini1 ?_) | (with_reducible refine G.drew ?_) | (simp (maxSteps:=2000000) only [↓RG,RP,RB,BEq.rfl,Int.reduceEq,Int.reduceLT,Int.reduceLE,Nat.reduceEqDiff,eq_true hf,eq_true c6,c0,c1,c2,c3,c4,c5]))
   exact hK.sub
  rw [if_neg c6] at hK
  have c7:x.state=7:=by omega
  have hp:=(g7 c7).1
  have kj:x.pos<x.stripes.length:=by omega
  have e:=cw hp
  have e2:=cw kj
  have hg:x.stripes.getD x.pos 0=x.stripes[x.pos]:=by simp [kj]
  have hg2:x.was.getD x.pos ae=x.was[x.pos]:=by simp [hp]
  rw [hg,hg2] at hK
  repeat' (first | (with_reducible refine G.joini0 ?_) | (with_reducible refine G.joini1 ?_) | (with_reducible refine G.drew ?_) | (simp (maxSteps:=2000000) only [↓RG,RP,RB,BEq.rfl,Int.reduceEq,Int.reduceLT,Int.reduceLE,Nat.reduceEqDiff,eq_true hf,eq_true c7,c0,c1,c2,c3,c4,c5,c6]))
  exact hK.sub
 ·rw [if_neg hf] at hK
  refine gf hf ?_
  exact hK.sub
theorem H0 {me sp stamp n wide:Int}{u v:Value}{seen:List fG}{cells:List av}[r1:Rd w0 L u fX 2 seen][r2:Rd w0 L v bk 2 cells](h1:seen.length≤100000)(h2:cells.length≤100000)
  (hK:∀b,G w0 (ob ip b (nq me sp stamp seen cells (fB (dp cells n wide) 16))::L) (K (ptr b 0))):G w0 L (CP Tryz.prog Yq [i64 me,i64 sp,u64 stamp,u,v,i64 n,i64 wide] K):=by
 refine Hj ?_
 unfold AM
 refine qy ?_
 refine fm (xs:=seen) (by omega) fun v1 hv1=>?_
 refine dT (xs:=cells) (by omega) fun v2 hv2=>?_
 refine Bz (cs:=cells) (by omega) fun v3 hv3=>?_
 rw [Ev]
 refine gz ?_
 refine G.box fun b=>?_
 have h:=nR (L:=ob ip b ⟨mV me sp,me,stamp,seen,cells,fB (dp cells n wide) 16,[],0,0,ae,0,false,0,0,0⟩::L) (C:=fun A=>A::L) (K:=fun _=>K (ptr b 0)) (b:=b) (x:=⟨mV me sp,me,stamp,seen,cells,fB (dp cells n wide) 16,[],0,0,ae,0,false,0,0,0⟩) (hK b)
 rw [ck] at h
 have h:=h v1 v2 v3 (.slice none 0 0) ⟨hv1,hv2,hv3,bm⟩
 refine G.nilsl lw ?_
 refine G.pickAll (As:=[own b [i64 (mV me sp).me,i64 (mV me sp).spins,i64 (mV me sp).fin,i64 (mV me sp).by_,i64 (mV me sp).err,i64 me,u64 stamp,v1,v2,v3,.slice none 0 0,i64 0,i64 0,u64 0,.bool false,i64 0,u64 0,.bool false,i64 0,i64 0,i64 0],sl fX v1 seen,sl bk v2 cells,sl bx v3 (fB (dp cells n wide) 16),sl lw (.slice none 0 0) []]) ?_
 exact h
theorem N7 {me sp stamp n wide:Int}{seen:List fG}{cells:List av}(h1:seen.length≤100000)(h2:cells.length≤100000):iA (nq me sp stamp seen cells (fB (dp cells n wide) 16)):=by
 have hml:(fB (dp cells n wide) 16).length≤16:=by
  unfold fB
  rw [List.length_map]
  exact Nat.le_trans (List.length_filter_le _ _) (by simp)
 exact Dw ⟨xP,hml,Nat.zero_le _,by simp only;omega,by simp only;omega⟩ rfl
end
end Go.Proofs.YtoealglbimbbmaaGreatDoor.S
