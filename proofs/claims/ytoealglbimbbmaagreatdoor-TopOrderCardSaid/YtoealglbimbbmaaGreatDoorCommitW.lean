import Derived.Test.YtoealglbimbbmaaGreatDoorExtend
import Derived.Test.YtoealglbimbbmaaGreatDoorWritesStr
namespace Go.Proofs.YtoealglbimbbmaaGreatDoor.S
open Go Go.Proofs
set_option linter.unusedVariables false
set_option linter.unusedSimpArgs false
structure eJ where
 pat:oU
 me:Int
 stamp:Int
 seen:List fQ
 cells:List au
 stripes:List Int
 was:List cw
 state:Int
 pos:Nat
 lock:cw
 now:Int
 writing:Bool
 fin:Int
 by_:Int
 err:Int
def uc:List Int→Int→Option Nat
 | [],_=>none
 | s::l,a=>if s=a then some 0 else (uc l a).map (·+1)
theorem xJ {a:Int}:∀{l:List Int}{k:Nat},uc l a=some k→l[k]? = some a
 | [],k,h=>by cases h
 | s::l,k,h=>by
  unfold uc at h
  split at h
  ·rename_i e;cases h;simp [e]
  ·cases hi:uc l a with
   | none=>rw [hi] at h;cases h
   | some j=>rw [hi] at h;cases h;simpa using xJ hi
theorem Cz {a:Int}:∀{l:List Int},uc l a=none↔a ∉ l
 | []=>by simp [uc]
 | s::l=>by
  unfold uc
  split
  ·rename_i e;simp [e]
  ·rename_i e
   have:=Cz (a:=a) (l:=l)
   simp only [Option.map_eq_none_iff,this,List.mem_cons,not_or]
   exact⟨fun h=>⟨fun g=>e g.symm,h⟩,fun h=>h.2⟩
theorem R9 {a:Int}{l:List Int}{k:Nat}(h:uc l a=some k):k<l.length:=(List.getElem?_eq_some_iff.1 (xJ h)).1
theorem Kh {a:Int}{l:List Int}{k:Nat}(hr:l.Pairwise (·<·))(h:l[k]? = some a):uc l a=some k:=by
 cases hi:uc l a with
 | none=>exact absurd (List.mem_of_getElem? h) (Cz.1 hi)
 | some j =>
  have e:=xJ hi
  obtain⟨h1,e1⟩:=List.getElem?_eq_some_iff.1 h
  obtain⟨h2,e2⟩:=List.getElem?_eq_some_iff.1 e
  rcases Nat.lt_trichotomy j k with g | g | g
  ·have:=List.pairwise_iff_getElem.1 hr j k h2 h1 g;omega
  ·rw [g]
  ·have:=List.pairwise_iff_getElem.1 hr k j h1 h2 g;omega
def iN (x:eJ):eJ:={ x with state:=if x.was.length=x.stripes.length then 2 else 0 }
def iu (x:eJ):eJ:=if x.pos=x.was.length then { x with pat:=x.pat.stop x.fin x.err x.by_ } else x
def gw (x:eJ)(e er b:Int):eJ:=iu { x with fin:=e,err:=er,by_:=b,pos:=0,state:=7 }
def jn (x:eJ)(l:cw):eJ:=if (x.pat.waits l.owner).2=true then { x with pat:=(x.pat.waits l.owner).1 } else gw { x with pat:=(x.pat.waits l.owner).1 } 5 0 l.owner
def jm (x:eJ):eJ:=if x.pos=x.stripes.length then { x with pat:=x.pat.stop 2 0 (-1) } else x
def jw (x:eJ):eJ:=if x.pos=x.cells.length then jm { x with pos:=0,state:=6 } else x
def o5 (x:eJ):eJ:=jw { x with writing:=true,pos:=0,state:=5 }
def R0 (x:eJ)(s:Int):Option Int:=(uc x.stripes s).map fun i=>(x.was.getD i ah).version
def kP:Nat→eJ→eJ
 | 0,x=>o5 x
 | n+1,x=>match R0 x (x.seen.getD x.pos ⟨0,0⟩).stripe with
  | none=>x
  | some v=>if v=(x.seen.getD x.pos ⟨0,0⟩).version then kP n { x with pos:=x.pos+1 } else gw x 5 0 (-1)
def oc (x:eJ):eJ:=kP (x.seen.length-x.pos) { x with state:=4 }
def ll (x:eJ)(l:cw):eJ :=
 if l.held=true then jn x l else if l.version=(x.seen.getD x.pos ⟨0,0⟩).version then oc { x with pos:=x.pos+1 } else gw x 5 0 (-1)
def pZ (x:eJ)(a:fH):eJ :=
 if x.state=0 then (if a.lock.held=true then jn x a.lock else { x with lock:=a.lock,state:=1 })
 else if a.done=true then iN { x with was:=x.was++[x.lock] } else { x with state:=0 }
def ml (x:eJ)(a:fH):eJ :=
 if x.state=2 then (if 4611686018427387903≤a.word then gw x 4 7 (-1) else { x with now:=a.word,state:=3 })
 else if a.done=false then { x with state:=2 } else if x.now=x.stamp then o5 x else oc x
def cy (x:eJ)(a:fH):eJ :=
 if (x.pat.stopped a.err).fin=0 then
  (if x.state=0∨x.state=1 then pZ x a
   else if x.state=2∨x.state=3 then ml x a
   else if x.state=4 then ll x a.lock
   else if x.state=5 then jw { x with pos:=x.pos+1 }
   else if x.state=6 then jm { x with pos:=x.pos+1 }
   else iu { x with pos:=x.pos+1 })
 else { x with pat:=x.pat.stopped a.err }
def nB (me sp stamp:Int)(seen:List fQ)(cells:List au)(stripes:List Int):eJ :=
 iN ⟨ns me sp,me,stamp,seen,cells,stripes,[],0,0,ah,0,false,0,0,0⟩
def bi (x:eJ):rv×Bool :=
 if x.pat.fin=0 then
  ((if x.state=0 then ⟨3,x.stripes.getD x.was.length 0,0,0,ah,ah⟩
   else if x.state=1 then ⟨4,x.stripes.getD x.was.length 0,0,0,x.lock,⟨x.lock.version,true,x.me⟩⟩
   else if x.state=2 then ⟨6,0,0,0,ah,ah⟩
   else if x.state=3 then ⟨7,0,x.now,IntKind.wrap .u64 (x.now+1),ah,ah⟩
   else if x.state=4 then ⟨3,(x.seen.getD x.pos ⟨0,0⟩).stripe,0,0,ah,ah⟩
   else if x.state=5 then ⟨2,(x.cells.getD x.pos ⟨0,0⟩).place,0,(x.cells.getD x.pos ⟨0,0⟩).word,ah,ah⟩
   else if x.state=6 then ⟨5,x.stripes.getD x.pos 0,0,0,ah,⟨IntKind.wrap .u64 (x.now+1),false,0⟩⟩
   else ⟨5,x.stripes.getD x.pos 0,0,0,ah,x.was.getD x.pos ah⟩),true)
 else (Ab,false)
structure gR (x:eJ):Prop where
 rising:x.stripes.Pairwise (·<·)
 few:x.stripes.length≤16
 was:x.was.length≤x.stripes.length
 seen:x.seen.length≤1000000
 cells:x.cells.length≤1000000
structure iK (x:eJ):Prop where
 len:gR x
 st:0≤x.state∧x.state≤7
 pos:x.pos≤1000000
 here:x.pat.fin=0 →
  ((x.state=0∨x.state=1)→x.was.length<x.stripes.length∧x.pos=0)∧((x.state=2∨x.state=3)→x.was.length=x.stripes.length∧x.pos=0) ∧
  (x.state=4→x.was.length=x.stripes.length∧x.pos<x.seen.length)∧(x.state=5→x.was.length=x.stripes.length∧x.pos<x.cells.length) ∧
  (x.state=6→x.was.length=x.stripes.length∧x.pos<x.stripes.length)∧(x.state=7→x.pos<x.was.length∧x.fin≠0)
theorem gR.eqs {x y:eJ}(h:gR x)(h1:y.stripes=x.stripes)(h2:y.was=x.was)(h3:y.seen=x.seen)(h4:y.cells=x.cells):gR y :=
 ⟨by rw [h1];exact h.rising,by rw [h1];exact h.few,by rw [h1,h2];exact h.was,by rw [h3];exact h.seen,by rw [h4];exact h.cells⟩
theorem Dt {x:eJ}(h:gR x)(hs:x.state=7)(hp:x.pos≤x.was.length)(hf:x.fin≠0):iK (iu x):=by
 have h1:=h.was
 have h2:=h.few
 unfold iu
 split
 ·exact⟨h.eqs rfl rfl rfl rfl,by simp [hs],by simp only;omega,fun g=>absurd g hf⟩
 ·exact⟨h,by omega,by omega,fun _=>⟨by omega,by omega,by omega,by omega,by omega,by omega⟩⟩
theorem ng {x:eJ}(h:gR x){e er b:Int}(he:e≠0):iK (gw x e er b):=Dt (h.eqs rfl rfl rfl rfl) rfl (Nat.zero_le _) he
theorem FZ {x:eJ}(h:iK x)(hf:x.pat.fin=0)(l:cw):iK (jn x l):=by
 have hw:(x.pat.waits l.owner).1.fin=x.pat.fin:=by unfold oU.waits;split <;> rfl
 unfold jn
 split
 ·exact⟨h.len.eqs rfl rfl rfl rfl,h.st,h.pos,fun _=>h.here hf⟩
 ·exact ng (x:={ x with pat:=(x.pat.waits l.owner).1 }) (e:=5) (h.len.eqs rfl rfl rfl rfl) (by decide)
theorem FA {x:eJ}(h:gR x)(hs:x.state=6)(hp:x.pos≤x.stripes.length)(hw:x.was.length=x.stripes.length):iK (jm x):=by
 have h2:=h.few
 unfold jm
 split
 ·exact⟨h.eqs rfl rfl rfl rfl,by simp [hs],by simp only;omega,fun g=>by simp [oU.stop] at g⟩
 ·exact⟨h,by omega,by omega,fun _=>⟨by omega,by omega,by omega,by omega,by omega,by omega⟩⟩
theorem Du {x:eJ}(h:gR x)(hs:x.state=5)(hp:x.pos≤x.cells.length)(hw:x.was.length=x.stripes.length):iK (jw x):=by
 have h2:=h.cells
 unfold jw
 split
 ·exact FA (h.eqs rfl rfl rfl rfl) rfl (Nat.zero_le _) hw
 ·exact⟨h,by omega,by omega,fun _=>⟨by omega,by omega,by omega,by omega,by omega,by omega⟩⟩
theorem CX {x:eJ}(h:gR x)(hw:x.was.length=x.stripes.length):iK (o5 x):=Du (h.eqs rfl rfl rfl rfl) rfl (Nat.zero_le _) hw
theorem xQ:∀{n:Nat}{x:eJ},gR x→x.state=4→x.was.length=x.stripes.length→x.seen.length=x.pos+n→iK (kP n x)
 | 0,x,h,hs,hw,hn=>CX h hw
 | n+1,x,h,hs,hw,hn=>by
  have h2:=h.seen
  unfold kP
  split
  ·exact⟨h,by omega,by omega,fun _=>⟨by omega,by omega,by omega,by omega,by omega,by omega⟩⟩
  ·split
   ·exact xQ (h.eqs rfl rfl rfl rfl) hs hw (by simp only;omega)
   ·exact ng (e:=5) h (by decide)
theorem C7 {x:eJ}(h:gR x)(hw:x.was.length=x.stripes.length)(hp:x.pos≤x.seen.length):iK (oc x):=xQ (h.eqs rfl rfl rfl rfl) rfl hw (by simp only;omega)
theorem Fg {x:eJ}(h:gR x)(hp:x.pos=0):iK (iN x):=by
 have h1:=h.was
 unfold iN
 refine⟨h.eqs rfl rfl rfl rfl,by simp only;split <;> omega,by simp only;omega,fun _=>?_⟩
 simp only
 split <;> exact⟨by omega,by omega,by omega,by omega,by omega,by omega⟩
theorem iY {x:eJ}(h:iK x)(a:fH):iK (cy x a):=by
 have hp:=h.pos
 unfold cy
 split
 ·rename_i hs
  have hpe:x.pat.stopped a.err=x.pat:=by
   unfold oU.stopped at hs ⊢;split
   ·rename_i h;rw [if_pos h] at hs;simp [oU.stop] at hs
   ·rfl
  rw [hpe] at hs
  obtain⟨g01,g23,g4,g5,g6,g7⟩:=h.here hs
  split
  ·rename_i c
   have g:=g01 c
   unfold pZ
   split
   ·split
    ·exact FZ h hs _
    ·exact⟨h.len.eqs rfl rfl rfl rfl,by simp,by simp only;omega,fun _=>⟨by simp only;omega,by simp only;omega,by simp only;omega,by simp only;omega,by simp only;omega,by simp only;omega⟩⟩
   ·split
    ·exact Fg ⟨h.len.rising,h.len.few,by simp;omega,h.len.seen,h.len.cells⟩ g.2
    ·exact⟨h.len.eqs rfl rfl rfl rfl,by simp,by simp only;omega,fun _=>⟨by simp only;omega,by simp only;omega,by simp only;omega,by simp only;omega,by simp only;omega,by simp only;omega⟩⟩
  split
  ·rename_i c
   have g:=g23 c
   unfold ml
   split
   ·split
    ·exact ng (e:=4) h.len (by decide)
    ·exact⟨h.len.eqs rfl rfl rfl rfl,by simp,by simp only;omega,fun _=>⟨by simp only;omega,by simp only;omega,by simp only;omega,by simp only;omega,by simp only;omega,by simp only;omega⟩⟩
   ·split
    ·exact⟨h.len.eqs rfl rfl rfl rfl,by simp,by simp only;omega,fun _=>⟨by simp only;omega,by simp only;omega,by simp only;omega,by simp only;omega,by simp only;omega,by simp only;omega⟩⟩
    ·split
     ·exact CX h.len g.1
     ·exact C7 h.len g.1 (by omega)
  split
  ·rename_i c
   have g:=g4 c
   unfold ll
   split
   ·exact FZ h hs _
   ·split
    ·exact C7 (h.len.eqs rfl rfl rfl rfl) g.1 (by simp only;omega)
    ·exact ng (e:=5) h.len (by decide)
  split
  ·rename_i c
   have g:=g5 c
   exact Du (h.len.eqs rfl rfl rfl rfl) c (by simp only;omega) g.1
  split
  ·rename_i c
   have g:=g6 c
   exact FA (h.len.eqs rfl rfl rfl rfl) c (by simp only;omega) g.1
  ·have c:x.state=7:=by have:=h.st;omega
   have g:=g7 c
   exact Dt (h.len.eqs rfl rfl rfl rfl) c (by simp only;omega) g.2
 ·rename_i hs
  exact⟨h.len.eqs rfl rfl rfl rfl,h.st,h.pos,fun g=>absurd g hs⟩
end Go.Proofs.YtoealglbimbbmaaGreatDoor.S
namespace Go.Proofs.YtoealglbimbbmaaGreatDoor.S
open Go Go.Proofs
set_option linter.unusedVariables false
set_option linter.unusedSimpArgs false
abbrev eJ.rest (x:eJ)(v1 v2 v3 v4:Value):List Value:=[i64 x.me,u64 x.stamp,v1,v2,v3,v4,i64 x.state,i64 x.pos,u64 x.lock.version,.bool x.lock.held,i64 x.lock.owner,u64 x.now,.bool x.writing,i64 x.fin,i64 x.by_,i64 x.err]
abbrev LX (v1 v2 v3 v4:Value):Prop:=ar v1 [v1]∧ar v2 [v2]∧ar v3 [v3]∧ar v4 [v4]
def iH (b:Nat)(x:eJ):ay:=mW fun v1=>mW fun v2=>mW fun v3=>mW fun v4=>bk (ie (LX v1 v2 v3 v4)) (bk (bk (bk (bk (own b (x.pat.cells (x.rest v1 v2 v3 v4))) (sl gq v1 x.seen)) (sl bf v2 x.cells)) (sl bg v3 x.stripes)) (sl lJ v4 x.was))
section
variable {w0:bh}{L M:List ay}{K:KV}{F:World→Prop}{C:ay→List ay}{b:Nat}{x:eJ}
theorem cd:G w0 (ob iH b x::M) F=∀v1 v2 v3 v4,LX v1 v2 v3 v4→G w0 (own b (x.pat.cells (x.rest v1 v2 v3 v4))::sl gq v1 x.seen::sl bf v2 x.cells::sl bg v3 x.stripes::sl lJ v4 x.was::M) F:=by
 rw [eZ,iH]
 simp only [qv,fa,fU]
theorem db {v1 v2 v3 v4:Value}(b:Nat)(x:eJ) [ez [own b (x.pat.cells (x.rest v1 v2 v3 v4)),sl gq v1 x.seen,sl bf v2 x.cells,sl bg v3 x.stripes,sl lJ v4 x.was] L M]
  (h:LX v1 v2 v3 v4) (H:G w0 (ob iH b x::M) F):G w0 L F :=
 G.pickAll (As:=[own b (x.pat.cells (x.rest v1 v2 v3 v4)),sl gq v1 x.seen,sl bf v2 x.cells,sl bg v3 x.stripes,sl lJ v4 x.was]) (by rw [cd] at H;exact H v1 v2 v3 v4 h)
theorem LH {t:Bool}{A B:World→Prop}(h:t=true):G w0 L (ae (.bool t) A B)=G w0 L A:=by rw [h,Iv]
theorem Mf {t:Bool}{A B:World→Prop}(h:t=false):G w0 L (ae (.bool t) A B)=G w0 L B:=by rw [h,Ja]
theorem Ni {t:Bool}{A B:World→Prop}(h:t=true):G w0 L (ae (.bool (!t)) A B)=G w0 L B:=by rw [h];exact congrArg _ Ja
theorem R8 {t:Bool}{A B:World→Prop}(h:t=false):G w0 L (ae (.bool (!t)) A B)=G w0 L A:=by rw [h];exact congrArg _ Iv
theorem mK [i:aq L iH b x C](hK:G w0 (C (ob iH b (iu x))) (K (.tuple #[]))):G w0 L (CP Tryz.prog WP [ptr b 0] K):=by
 refine i.use (fun M hK=>?_) hK
 refine uO ?_
 unfold mT
 rw [cd]
 rintro v1 v2 v3 v4 ⟨h1,h2,h3,h4⟩
 refine G.drew ?_
 refine gz ?_
 refine G.joini0 ?_
 unfold iu at hK
 refine G.cond (fun h=>?_) (fun h=>?_)
 ·rw [if_pos (by simp at h;omega),cd] at hK
  refine G.drew ?_
  refine gz ?_
  refine cv (p:=x.pat) (rest:=x.rest v1 v2 v3 v4) ?_
  refine gz ?_
  exact(hK v1 v2 v3 v4 ⟨h1,h2,h3,h4⟩).sub
 ·rw [if_neg (by simp at h;omega),cd] at hK
  exact(hK v1 v2 v3 v4 ⟨h1,h2,h3,h4⟩).sub
theorem gZ {e er by_:Int}[i:aq L iH b x C](hK:G w0 (C (ob iH b (gw x e er by_))) (K (.tuple #[]))):G w0 L (CP Tryz.prog Vw [ptr b 0,i64 e,i64 er,i64 by_] K):=by
 refine i.use (fun M hK=>?_) hK
 refine vW ?_
 unfold ow
 rw [cd]
 rintro v1 v2 v3 v4 ⟨h1,h2,h3,h4⟩
 refine gz ?_
 refine db b { x with fin:=e,err:=er,by_:=by_,pos:=0,state:=7 } ⟨h1,h2,h3,h4⟩ ?_
 refine mK (x:={ x with fin:=e,err:=er,by_:=by_,pos:=0,state:=7 }) ?_
 exact hK
theorem oI {l:cw}[i:aq L iH b x C](hK:G w0 (C (ob iH b (jn x l))) (K (.tuple #[]))):G w0 L (CP Tryz.prog WQ [ptr b 0,.agg (cw.cells l).toArray] K):=by
 refine i.use (fun M hK=>?_) hK
 refine xf ?_
 unfold oz
 refine G.box fun q=>?_
 rw [fA,cd]
 rintro v1 v2 v3 v4 ⟨h1,h2,h3,h4⟩
 refine G.drew ?_
 refine gz ?_
 refine gM (p:=x.pat) (x:=l) (rest:=x.rest v1 v2 v3 v4) ?_
 refine gz ?_
 refine G.joini0 ?_
 unfold jn at hK
 cases hw:(x.pat.waits l.owner).2
 ·rw [if_neg (by rw [hw];decide)] at hK
  refine gz ?_
  refine db b { x with pat:=(x.pat.waits l.owner).1 } ⟨h1,h2,h3,h4⟩ ?_
  refine gZ (x:={ x with pat:=(x.pat.waits l.owner).1 }) ?_
  exact hK.sub
 ·rw [if_pos hw,cd] at hK
  refine gz ?_
  exact(hK v1 v2 v3 v4 ⟨h1,h2,h3,h4⟩).sub
theorem oJ [i:aq L iH b x C](hK:G w0 (C (ob iH b (jm x))) (K (.tuple #[]))):G w0 L (CP Tryz.prog WO [ptr b 0] K):=by
 refine i.use (fun M hK=>?_) hK
 refine wL ?_
 unfold oZ
 rw [cd]
 rintro v1 v2 v3 v4 ⟨h1,h2,h3,h4⟩
 refine G.drew ?_
 refine gz ?_
 refine G.joini0 ?_
 unfold jm at hK
 refine G.cond (fun h=>?_) (fun h=>?_)
 ·rw [if_pos (by simp at h;omega),cd] at hK
  refine gz ?_
  refine cv (p:=x.pat) (rest:=x.rest v1 v2 v3 v4) ?_
  exact(hK v1 v2 v3 v4 ⟨h1,h2,h3,h4⟩).sub
 ·rw [if_neg (by simp at h;omega),cd] at hK
  exact(hK v1 v2 v3 v4 ⟨h1,h2,h3,h4⟩).sub
theorem mD [i:aq L iH b x C](hK:G w0 (C (ob iH b (jw x))) (K (.tuple #[]))):G w0 L (CP Tryz.prog WN [ptr b 0] K):=by
 refine i.use (fun M hK=>?_) hK
 refine vi ?_
 unfold mF
 rw [cd]
 rintro v1 v2 v3 v4 ⟨h1,h2,h3,h4⟩
 refine G.drew ?_
 refine gz ?_
 refine G.joini0 ?_
 unfold jw at hK
 refine G.cond (fun h=>?_) (fun h=>?_)
 ·rw [if_pos (by simp at h;omega)] at hK
  refine gz ?_
  refine db b { x with pos:=0,state:=6 } ⟨h1,h2,h3,h4⟩ ?_
  exact oJ (x:={ x with pos:=0,state:=6 }) hK
 ·rw [if_neg (by simp at h;omega),cd] at hK
  exact(hK v1 v2 v3 v4 ⟨h1,h2,h3,h4⟩).sub
theorem mC [i:aq L iH b x C](hK:G w0 (C (ob iH b (o5 x))) (K (.tuple #[]))):G w0 L (CP Tryz.prog WM [ptr b 0] K):=by
 refine i.use (fun M hK=>?_) hK
 refine vC ?_
 unfold mV
 rw [cd]
 rintro v1 v2 v3 v4 ⟨h1,h2,h3,h4⟩
 refine gz ?_
 refine db b { x with writing:=true,pos:=0,state:=5 } ⟨h1,h2,h3,h4⟩ ?_
 exact mD (x:={ x with writing:=true,pos:=0,state:=5 }) hK
theorem oQ [i:aq L iH b x C](hK:G w0 (C (ob iH b (iN x))) (K (.tuple #[]))):G w0 L (CP Tryz.prog Wv [ptr b 0] K):=by
 refine i.use (fun M hK=>?_) hK
 refine wQ ?_
 unfold ot
 rw [cd]
 rintro v1 v2 v3 v4 ⟨h1,h2,h3,h4⟩
 refine gz ?_
 refine G.drew ?_
 refine gz ?_
 refine G.joini0 ?_
 unfold iN at hK
 refine G.cond (fun h=>?_) (fun h=>?_)
 ·rw [if_pos (by simp at h;omega),cd] at hK
  refine gz ?_
  exact(hK v1 v2 v3 v4 ⟨h1,h2,h3,h4⟩).sub
 ·rw [if_neg (by simp at h;omega),cd] at hK
  exact(hK v1 v2 v3 v4 ⟨h1,h2,h3,h4⟩).sub
theorem Fk {m n:Int}(hK:G w0 L (K (.bool (decide (m<n))))):G w0 L (CP Tryz.prog YM [i64 m,i64 n] K):=by
 refine D6 ?_
 unfold vV
 refine gu ?_
 refine DL ?_
 unfold ux
 refine gr ?_
 exact hK
def kT:List Int→Int→Nat
 | [],_=>0
 | s::l,a=>if s<a then kT l a+1 else 0
theorem Iw {a:Int}:∀{l:List Int},kT l a≤l.length
 | []=>by simp [kT]
 | s::l=>by unfold kT;have:=Iw (a:=a) (l:=l);simp only [List.length_cons];split <;> omega
theorem Ie {a:Int}:∀{l:List Int},(∀j (h:j<l.length),j<kT l a→l[j]<a)∧(∀h:kT l a<l.length,a≤l[kT l a])
 | []=>⟨fun j h=>by simp at h,fun h=>by simp at h⟩
 | s::l=>by
  have ih:=Ie (a:=a) (l:=l)
  constructor
  ·intro j h hj
   unfold kT at hj
   split at hj
   ·rename_i hs
    cases j with
    | zero=>simpa using hs
    | succ j=>simpa using ih.1 j (by simpa using h) (by omega)
   ·omega
  ·intro h
   unfold kT at h
   by_cases hs:s<a
   ·have e:kT (s::l) a=kT l a+1:=by simp [kT,hs]
    simp only [e]
    rw [if_pos hs] at h
    simpa using ih.2 (by simpa using h)
   ·have e:kT (s::l) a=0:=by simp [kT,hs]
    simp only [e]
    simpa using (by omega:a≤s)
theorem Ot {a:Int}{l:List Int}{i:Nat}(hi:i≤l.length)(h1:∀j (h:j<l.length),j<i→l[j]<a)(h2:∀h:i<l.length,a≤l[i]):kT l a=i:=by
 have ⟨g1,g2⟩:=Ie (a:=a) (l:=l)
 have g0:=Iw (a:=a) (l:=l)
 rcases Nat.lt_trichotomy (kT l a) i with h | h | h
 ·have:=h1 _ (by omega) h;have:=g2 (by omega);omega
 ·exact h
 ·have:=g1 i (by omega) h;have:=h2 (by omega);omega
theorem KC {a:Int}{l:List Int}(hr:l.Pairwise (·<·)):(∀h:kT l a<l.length,l[kT l a]=a→uc l a=some (kT l a))∧((kT l a<l.length→l[kT l a]?≠some a)→uc l a=none):=by
 have ⟨g1,g2⟩:=Ie (a:=a) (l:=l)
 refine⟨fun h e=>Kh hr (by rw [List.getElem?_eq_getElem h,e]),fun h=>?_⟩
 rw [Cz]
 intro hm
 obtain⟨j,hj,e⟩:=List.getElem_of_mem hm
 have hle:kT l a≤j:=by
  rcases Nat.lt_or_ge j (kT l a) with g | g
  ·have:=g1 j hj g;omega
  ·exact g
 have hlt:kT l a<l.length:=by omega
 have h3:=h hlt
 rw [List.getElem?_eq_getElem hlt] at h3
 have h4:=g2 hlt
 rcases Nat.lt_or_ge (kT l a) j with g | g
 ·have:=List.pairwise_iff_getElem.1 hr _ j hlt hj g;omega
 ·have:kT l a=j:=by omega
  exact h3 (by simp only [this,e])
theorem UM (i j:Nat)(h:i≤j)(hj:j≤1000000):IntKind.wrap .i64 ((IntKind.wrap .u64 (IntKind.wrap .i64 ((i:Int)+j))).fdiv (2 ^ min (1:Int).toNat IntKind.u64.bits))=(((i+j) / 2:Nat):Int):=by
 rw [iy (n:=(i:Int)+j) (by omega) (by omega),PM (by omega) (by omega)]
 have:(2:Int) ^ min (1:Int).toNat IntKind.u64.bits=2:=by decide
 rw [this,Int.fdiv_eq_ediv_of_nonneg _ (by decide),iy (by omega) (by omega)]
 omega
theorem rh {v:Value}{l:List Int}{a:Int}[r:Rd w0 L v bg 1 l](hr:l.Pairwise (·<·))(hl:l.length≤1000000)
  (hK:G w0 L (K (.tuple #[i64 (kT l a),.bool (uc l a).isSome]))):G w0 L (CP Tryz.prog Zc [v,i64 a] K):=by
 refine oH ?_
 unfold iI
 refine gu ?_
 refine gr ?_
 refine G.loop2 (σ:=Nat×Nat) (fun z=>i64 z.1) (fun z=>i64 z.2) (fun _=>L) (fun z=>z.1≤z.2∧z.2≤l.length∧(∀j (h:j<l.length),j<z.1→l[j]<a)∧(∀j (h:j<l.length),z.2≤j→a≤l[j])) (fun z=>z.2-z.1) (0,l.length) rfl rfl rfl ⟨by simp,by simp,fun j h hj=>by simp at hj,fun j h hj=>by simp only at hj;omega⟩ ?_
 rintro⟨i,j⟩ ⟨hij,hjl,p1,p2⟩ J hJ
 simp only at hij hjl p1 p2 hJ ⊢
 refine gr ?_
 refine G.cond (fun h=>?_) (fun h=>?_)
 ·have hlt:i<j:=by simpa using h
  have hm:(i+j) / 2<l.length:=by omega
  have e:=ct hm
  rw [UM i j hij (by omega)]
  refine gr ?_
  refine Fk ?_
  refine G.joini2 ?_
  refine G.cond (fun h2=>?_) (fun h2=>?_)
  ·have h3:l[(i+j) / 2]<a:=by simpa using h2
   refine gr ?_
   rw [di (by omega)]
   exact hJ ((i+j) / 2+1,j) ⟨by simp only;omega,hjl,fun k hk hk2=>by
    rcases Nat.lt_or_ge k ((i+j) / 2) with g | g
    ·have:=List.pairwise_iff_getElem.1 hr k _ hk hm g;omega
    ·have:k=(i+j) / 2:=by simp only at hk2;omega
     subst this;exact h3,p2⟩ (by simp only;omega)
  ·have h3:¬l[(i+j) / 2]<a:=by simpa using h2
   exact hJ (i,(i+j) / 2) ⟨by simp only;omega,by simp only;omega,p1,fun k hk hk2=>by
    rcases Nat.lt_or_ge ((i+j) / 2) k with g | g
    ·have:=List.pairwise_iff_getElem.1 hr _ k hm hk g;omega
    ·have:k=(i+j) / 2:=by simp only at hk2;omega
     subst this;omega⟩ (by simp only;omega)
 ·have hij2:i=j:=by simp at h;omega
  subst hij2
  have hlo:kT l a=i:=Ot hjl p1 (fun h=>p2 i h (Nat.le_refl _))
  have ⟨q1,q2⟩:=KC (a:=a) hr
  rw [hlo] at hK q2
  by_cases hi:i<l.length
  ·have e:=ct hi
   have hi3:(i:Int)<(l.length:Int):=by omega
   by_cases he:l[i]=a
   ·have:uc l a=some i:=by
     have:=q1 (by rw [hlo];exact hi) (by simp only [hlo];exact he)
     rwa [hlo] at this
    rw [this] at hK
    refine eY (an hi3 he) ?_
    exact hK
   ·have:uc l a=none:=q2 (fun h=>by rw [List.getElem?_eq_getElem h];simpa using he)
    rw [this] at hK
    have ha2:¬(i:Int)<(i:Int):=by omega
    refine eY (an hi3 he) ?_
    refine zK ?_
    unfold q7
    refine gr ?_
    exact hK
  ·have:uc l a=none:=q2 (fun h=>absurd h hi)
   rw [this] at hK
   have hi3:¬(i:Int)<(l.length:Int):=by omega
   refine eY hi3 ?_
   exact hK
theorem km [i:aq L iH b x C](hK:G w0 L (K (i64 x.pat.fin))):G w0 L (CP Tryz.prog Vm [ptr b 0] K):=by
 refine i.ro (fun M hK=>?_) hK
 rw [cd] at *
 rintro v1 v2 v3 v4 hv
 refine pL ?_
 unfold kw
 refine gz ?_
 refine dw (p:=x.pat) (rest:=x.rest v1 v2 v3 v4) ?_
 exact hK v1 v2 v3 v4 hv
theorem yC [i:aq L iH b x C](hK:G w0 L (K (i64 x.pat.err))):G w0 L (CP Tryz.prog Yn [ptr b 0] K):=by
 refine i.ro (fun M hK=>?_) hK
 rw [cd] at *
 rintro v1 v2 v3 v4 hv
 refine yw ?_
 unfold pt
 refine gz ?_
 refine te (p:=x.pat) (rest:=x.rest v1 v2 v3 v4) ?_
 exact hK v1 v2 v3 v4 hv
theorem zR [i:aq L iH b x C](hK:G w0 L (K (i64 x.pat.by_))):G w0 L (CP Tryz.prog Y6 [ptr b 0] K):=by
 refine i.ro (fun M hK=>?_) hK
 rw [cd] at *
 rintro v1 v2 v3 v4 hv
 refine zN ?_
 unfold qD
 refine gz ?_
 refine iU (p:=x.pat) (rest:=x.rest v1 v2 v3 v4) ?_
 exact hK v1 v2 v3 v4 hv
theorem uM [i:aq L iH b x C](hK:G w0 L (K (u64 (if x.writing=true then IntKind.wrap .u64 (x.now+1) else 0)))):G w0 L (CP Tryz.prog Ws [ptr b 0] K):=by
 refine i.ro (fun M hK=>?_) hK
 rw [cd] at *
 rintro v1 v2 v3 v4 hv
 refine uL ?_
 unfold m3
 cases hw:x.writing
 ·refine eY hw ?_
  have h:=hK v1 v2 v3 v4 hv
  simp only [hw] at h
  exact h
 ·refine eY hw ?_
  have h:=hK v1 v2 v3 v4 hv
  simp only [hw] at h
  exact h
theorem sE [i:aq L iH b x C](hK:G w0 L (K (.bool (x.writing && decide (x.pat.fin=0))))):G w0 L (CP Tryz.prog Yb [ptr b 0] K):=by
 refine i.ro (fun M hK=>?_) hK
 rw [cd] at *
 rintro v1 v2 v3 v4 hv
 refine tg ?_
 unfold li
 have h:=hK v1 v2 v3 v4 hv
 cases hw:x.writing
 ·simp only [hw] at h
  refine eY hw ?_
  exact h
 ·simp only [hw,Bool.true_and] at h
  refine eY hw ?_
  refine pL ?_
  unfold kw
  refine gr ?_
  refine dw (p:=x.pat) (rest:=x.rest v1 v2 v3 v4) ?_
  refine gr ?_
  exact h
theorem mz (hl:gR x)(hw:x.was.length=x.stripes.length)(hp:x.pos≤x.seen.length)[i:aq L iH b x C](hK:G w0 (C (ob iH b (oc x))) (K (.tuple #[]))):G w0 L (CP Tryz.prog WR [ptr b 0] K):=by
 refine i.use (fun M hK=>?_) hK
 refine uJ ?_
 unfold mA
 have hfew:=hl.few
 have hseen:=hl.seen
 rw [cd]
 rintro v1 v2 v3 v4 ⟨h1,h2,h3,h4⟩
 refine gz ?_
 refine db b { x with state:=4 } ⟨h1,h2,h3,h4⟩ ?_
 refine G.loop0 (σ:=Nat) (fun k=>ob iH b { x with state:=4,pos:=k }::M) (fun k=>x.pos≤k∧k≤x.seen.length∧oc x=kP (x.seen.length-k) { x with state:=4,pos:=k }) (fun k=>x.seen.length-k) x.pos rfl ⟨Nat.le_refl _,hp,rfl⟩ ?_
 rintro k ⟨hk1,hk2,hpr⟩ J hJ
 rw [hpr] at hK
 rw [cd]
 rintro v1 v2 v3 v4 ⟨h1,h2,h3,h4⟩
 refine G.drew ?_
 refine gz ?_
 refine G.cond (fun h=>?_) (fun h=>?_)
 ·have hk3:k<x.seen.length:=by simpa using h
  have e:=ct hk3
  have hg:x.seen.getD k ⟨0,0⟩=x.seen[k]:=by simp [hk3]
  rw [show x.seen.length-k=(x.seen.length-(k+1))+1 by omega] at hK hpr
  unfold kP at hK hpr
  simp only [hg,R0] at hK hpr
  refine G.drew ?_
  refine gz ?_
  refine rh (l:=x.stripes) hl.rising (by omega) ?_
  refine gz ?_
  cases hi:uc x.stripes x.seen[k].stripe with
  | none =>
   rw [hi] at hK
   simp only [Option.map_none] at hK
   try simp (maxSteps:=2000000) only [↓RG,RB,BEq.rfl,Int.reduceEq,Int.reduceLT,Int.reduceLE,Nat.reduceEqDiff,Option.isSome_none]
   rw [cd] at hK
   exact(hK v1 v2 v3 v4 ⟨h1,h2,h3,h4⟩).sub
  | some j =>
   have hj:=R9 hi
   have hlo:kT x.stripes x.seen[k].stripe=j:=by
    have ⟨g1,g2⟩:=KC (a:=x.seen[k].stripe) hl.rising
    have g3:=Iw (a:=x.seen[k].stripe) (l:=x.stripes)
    by_cases hc:kT x.stripes x.seen[k].stripe<x.stripes.length
    ·by_cases he:x.stripes[kT x.stripes x.seen[k].stripe]=x.seen[k].stripe
     ·have:=g1 hc he;rw [hi] at this;cases this;rfl
     ·have:=g2 (fun h=>by rw [List.getElem?_eq_getElem h];simpa using he);rw [hi] at this;cases this
    ·have:=g2 (fun h=>absurd h hc);rw [hi] at this;cases this
   have hj2:j<x.was.length:=by omega
   have e2:=ct hj2
   have hgw:x.was.getD j ah=x.was[j]:=by simp [hj2]
   rw [hi] at hK hpr
   simp only [Option.map_some,hgw] at hK hpr
   rw [hlo]
   try simp (maxSteps:=2000000) only [↓RG,RB,BEq.rfl,Int.reduceEq,Int.reduceLT,Int.reduceLE,Nat.reduceEqDiff,Option.isSome_some]
   refine G.drew ?_
   refine gz ?_
   by_cases hv:x.was[j].version=x.seen[k].version
   ·rw [if_pos hv] at hpr
    refine U0 hv ?_
    rw [di (by omega)]
    refine db b { x with state:=4,pos:=k+1 } ⟨h1,h2,h3,h4⟩ ?_
    exact hJ (k+1) ⟨by omega,by omega,hpr⟩ (by omega)
   ·rw [if_neg hv] at hK
    refine U0 hv ?_
    refine db b { x with state:=4,pos:=k } ⟨h1,h2,h3,h4⟩ ?_
    refine gZ (x:={ x with state:=4,pos:=k }) ?_
    exact hK
 ·have hk3:k=x.seen.length:=by simp at h;omega
  subst hk3
  rw [Nat.sub_self] at hK
  unfold kP at hK
  refine db b { x with state:=4,pos:=x.seen.length } ⟨h1,h2,h3,h4⟩ ?_
  refine mC (x:={ x with state:=4,pos:=x.seen.length }) ?_
  exact hK
theorem pd {a:fH}(hl:gR x)[i:aq L iH b x C](hK:G w0 (C (ob iH b (pZ x a))) (K (.tuple #[]))):G w0 L (CP Tryz.prog Y9 [ptr b 0,.agg (fH.cells a).toArray] K):=by
 refine i.use (fun M hK=>?_) hK
 refine xu ?_
 unfold o7
 have hfew:=hl.few
 have hwas:=hl.was
 refine gu ?_
 refine G.box fun q=>?_
 rw [fA,cd]
 rintro v1 v2 v3 v4 ⟨h1,h2,h3,h4⟩
 refine gr ?_
 unfold pZ at hK
 by_cases hs:x.state=0
 ·rw [if_pos hs] at hK
  cases hh:a.lock.held
  ·rw [if_neg (by rw [hh];decide),cd] at hK
   repeat' (first | (with_reducible refine G.joini0 ?_) | (with_reducible refine G.joini1 ?_) | (with_reducible refine G.drew ?_) | (simp (maxSteps:=2000000) only [↓RG,RP,RB,BEq.rfl,Int.reduceEq,Int.reduceLT,Int.reduceLE,Nat.reduceEqDiff,eq_true hs,Mf hh]))
   exact(hK v1 v2 v3 v4 ⟨h1,h2,h3,h4⟩).sub
  ·rw [if_pos hh] at hK
   repeat' (first | (with_reducible refine G.joini0 ?_) | (with_reducible refine G.joini1 ?_) | (with_reducible refine G.drew ?_) | (simp (maxSteps:=2000000) only [↓RG,RP,RB,BEq.rfl,Int.reduceEq,Int.reduceLT,Int.reduceLE,Nat.reduceEqDiff,eq_true hs,LH hh]))
   refine db b x ⟨h1,h2,h3,h4⟩ ?_
   refine oI (x:=x) (l:=a.lock) ?_
   exact hK.sub
 ·rw [if_neg hs] at hK
  cases hd:a.done
  ·rw [if_neg (by rw [hd];decide),cd] at hK
   repeat' (first | (with_reducible refine G.joini0 ?_) | (with_reducible refine G.joini1 ?_) | (with_reducible refine G.drew ?_) | (simp (maxSteps:=2000000) only [↓RG,RP,RB,BEq.rfl,Int.reduceEq,Int.reduceLT,Int.reduceLE,Nat.reduceEqDiff,hs,Mf hd]))
   exact(hK v1 v2 v3 v4 ⟨h1,h2,h3,h4⟩).sub
  ·rw [if_pos hd] at hK
   repeat' (first | (with_reducible refine G.joini0 ?_) | (with_reducible refine G.joini1 ?_) | (with_reducible refine G.drew ?_) | (simp (maxSteps:=2000000) only [↓RG,RP,RB,BEq.rfl,Int.reduceEq,Int.reduceLT,Int.reduceLE,Nat.reduceEqDiff,hs,LH hd]))
   refine G.build lJ [x.lock] rfl (by simp) rfl fun v6 h6=>?_
   refine gg ?_
   refine G.append (xs:=x.was) (ys:=[x.lock]) (by simp;omega) (by simp [maxLen];omega) fun v5 h5=>?_
   refine gg ?_
   refine db b { x with was:=x.was++[x.lock] } ⟨h1,h2,h3,h5⟩ ?_
   refine oQ (x:={ x with was:=x.was++[x.lock] }) ?_
   exact hK.sub
theorem mE {a:fH}(hl:gR x)(hg:x.state=3→x.was.length=x.stripes.length∧x.pos=0)[i:aq L iH b x C](hs:x.state=2∨x.state=3)(hK:G w0 (C (ob iH b (ml x a))) (K (.tuple #[]))):G w0 L (CP Tryz.prog Za [ptr b 0,.agg (fH.cells a).toArray] K):=by
 refine i.use (fun M hK=>?_) hK
 refine vD ?_
 unfold mP
 refine gu ?_
 refine G.box fun q=>?_
 rw [fA,cd]
 rintro v1 v2 v3 v4 ⟨h1,h2,h3,h4⟩
 refine gr ?_
 unfold ml at hK
 by_cases hs2:x.state=2
 ·rw [if_pos hs2] at hK
  by_cases hc:4611686018427387903≤a.word
  ·rw [if_pos hc] at hK
   refine gf (an (eq_true hs2) hc) ?_
   refine db b x ⟨h1,h2,h3,h4⟩ ?_
   refine gZ (x:=x) ?_
   exact hK.sub
  ·rw [if_neg hc,cd] at hK
   repeat' (first | (with_reducible refine G.joini0 ?_) | (with_reducible refine G.joini1 ?_) | (with_reducible refine G.drew ?_) | (simp (maxSteps:=2000000) only [↓RG,RP,RB,BEq.rfl,Int.reduceEq,Int.reduceLT,Int.reduceLE,Nat.reduceEqDiff,eq_true hs2,hc]))
   exact(hK v1 v2 v3 v4 ⟨h1,h2,h3,h4⟩).sub
 ·rw [if_neg hs2] at hK
  have hs3:x.state=3:=by omega
  have g:=hg hs3
  cases hd:a.done
  ·rw [if_pos hd,cd] at hK
   repeat' (first | (with_reducible refine G.joini0 ?_) | (with_reducible refine G.joini1 ?_) | (with_reducible refine G.drew ?_) | (simp (maxSteps:=2000000) only [↓RG,RP,RB,BEq.rfl,Int.reduceEq,Int.reduceLT,Int.reduceLE,Nat.reduceEqDiff,hs2,R8 hd]))
   exact(hK v1 v2 v3 v4 ⟨h1,h2,h3,h4⟩).sub
  ·rw [if_neg (by rw [hd];decide)] at hK
   by_cases hn:x.now=x.stamp
   ·rw [if_pos hn] at hK
    repeat' (first | (with_reducible refine G.joini0 ?_) | (with_reducible refine G.joini1 ?_) | (with_reducible refine G.drew ?_) | (simp (maxSteps:=2000000) only [↓RG,RP,RB,BEq.rfl,Int.reduceEq,Int.reduceLT,Int.reduceLE,Nat.reduceEqDiff,hs2,Ni hd,eq_true hn]))
    refine db b x ⟨h1,h2,h3,h4⟩ ?_
    refine mC (x:=x) ?_
    exact hK.sub
   ·rw [if_neg hn] at hK
    repeat' (first | (with_reducible refine G.joini0 ?_) | (with_reducible refine G.joini1 ?_) | (with_reducible refine G.drew ?_) | (simp (maxSteps:=2000000) only [↓RG,RP,RB,BEq.rfl,Int.reduceEq,Int.reduceLT,Int.reduceLE,Nat.reduceEqDiff,hs2,Ni hd,hn]))
    refine db b x ⟨h1,h2,h3,h4⟩ ?_
    refine mz (x:=x) hl g.1 (by omega) ?_
    exact hK.sub
theorem t4 {l:cw}(hl:gR x)(hw:x.was.length=x.stripes.length)(hp:x.pos<x.seen.length)[i:aq L iH b x C](hK:G w0 (C (ob iH b (ll x l))) (K (.tuple #[]))):G w0 L (CP Tryz.prog Zb [ptr b 0,.agg (cw.cells l).toArray] K):=by
 refine i.use (fun M hK=>?_) hK
 refine tS ?_
 unfold mb
 have hseen:=hl.seen
 refine G.box fun q=>?_
 rw [fA,cd]
 rintro v1 v2 v3 v4 ⟨h1,h2,h3,h4⟩
 have e:=ct hp
 have hg:x.seen.getD x.pos ⟨0,0⟩=x.seen[x.pos]:=by simp [hp]
 unfold ll at hK
 rw [hg] at hK
 cases hh:l.held
 ·rw [if_neg (by rw [hh];decide)] at hK
  repeat' (first | (with_reducible refine G.joini0 ?_) | (with_reducible refine G.joini1 ?_) | (with_reducible refine G.drew ?_) | (simp (maxSteps:=2000000) only [↓RG,RP,RB,BEq.rfl,Int.reduceEq,Int.reduceLT,Int.reduceLE,Nat.reduceEqDiff,Mf hh]))
  by_cases hv:l.version=x.seen[x.pos].version
  ·rw [if_pos hv] at hK
   refine gf (eq_true hv) ?_
   rw [di (by omega)]
   refine db b { x with pos:=x.pos+1 } ⟨h1,h2,h3,h4⟩ ?_
   refine mz (x:={ x with pos:=x.pos+1 }) (hl.eqs rfl rfl rfl rfl) hw hp ?_
   exact hK.sub
  ·rw [if_neg hv] at hK
   refine gf hv ?_
   refine db b x ⟨h1,h2,h3,h4⟩ ?_
   refine gZ (x:=x) ?_
   exact hK.sub
 ·rw [if_pos hh] at hK
  repeat' (first | (with_reducible refine G.joini0 ?_) | (with_reducible refine G.joini1 ?_) | (with_reducible refine G.drew ?_) | (simp (maxSteps:=2000000) only [↓RG,RP,RB,BEq.rfl,Int.reduceEq,Int.reduceLT,Int.reduceLE,Nat.reduceEqDiff,LH hh]))
  refine db b x ⟨h1,h2,h3,h4⟩ ?_
  refine oI (x:=x) (l:=l) ?_
  exact hK.sub
theorem v7 {a:fH}(ho:iK x)[i:aq L iH b x C](hK:G w0 (C (ob iH b (cy x a))) (K (.tuple #[]))):G w0 L (CP Tryz.prog Y8 [ptr b 0,.agg (fH.cells a).toArray] K):=by
 refine i.use (fun M hK=>?_) hK
 refine wx ?_
 unfold n8
 have hpos:=ho.pos
 have hst:=ho.st
 refine G.box fun q=>?_
 rw [fA,cd]
 rintro v1 v2 v3 v4 ⟨h1,h2,h3,h4⟩
 refine G.drew ?_
 refine gz ?_
 refine gk (p:=x.pat) (a:=a) (rest:=x.rest v1 v2 v3 v4) ?_
 unfold cy at hK
 by_cases hs:(x.pat.stopped a.err).fin=0
 ·have hp:x.pat.stopped a.err=x.pat:=by
   unfold oU.stopped at hs ⊢;split
   ·rename_i h;rw [if_pos h] at hs;simp [oU.stop] at hs
   ·rfl
  rw [if_pos hs] at hK
  rw [hp] at hs
  rw [hp]
  obtain⟨g01,g23,g4,g5,g6,g7⟩:=ho.here hs
  by_cases c0:x.state=0
  ·rw [if_pos (.inl c0)] at hK
   repeat' (first | (with_reducible refine G.joini0 ?_) | (with_reducible refine G.joini1 ?_) | (with_reducible refine G.drew ?_) | (simp (maxSteps:=2000000) only [↓RG,RP,RB,BEq.rfl,Int.reduceEq,Int.reduceLT,Int.reduceLE,Nat.reduceEqDiff,eq_true hs,eq_true c0]))
   refine db b x ⟨h1,h2,h3,h4⟩ ?_
   refine pd (x:=x) (a:=a) ho.len ?_
   exact hK.sub
  by_cases c1:x.state=1
  ·rw [if_pos (.inr c1)] at hK
   repeat' (first | (with_reducible refine G.joini0 ?_) | (with_reducible refine G.joini1 ?_) | (with_reducible refine G.drew ?_) | (simp (maxSteps:=2000000) only [↓RG,RP,RB,BEq.rfl,Int.reduceEq,Int.reduceLT,Int.reduceLE,Nat.reduceEqDiff,eq_true hs,eq_true c1,c0]))
   refine db b x ⟨h1,h2,h3,h4⟩ ?_
   refine pd (x:=x) (a:=a) ho.len ?_
   exact hK.sub
  rw [if_neg (by omega)] at hK
  by_cases c2:x.state=2
  ·rw [if_pos (.inl c2)] at hK
   repeat' (first | (with_reducible refine G.joini0 ?_) | (with_reducible refine G.joini1 ?_) | (with_reducible refine G.drew ?_) | (simp (maxSteps:=2000000) only [↓RG,RP,RB,BEq.rfl,Int.reduceEq,Int.reduceLT,Int.reduceLE,Nat.reduceEqDiff,eq_true hs,eq_true c2,c0,c1]))
   refine db b x ⟨h1,h2,h3,h4⟩ ?_
   refine mE (x:=x) (a:=a) ho.len (fun h=>g23 (.inr h)) (.inl c2) ?_
   exact hK.sub
  by_cases c3:x.state=3
  ·rw [if_pos (.inr c3)] at hK
   repeat' (first | (with_reducible refine G.joini0 ?_) | (with_reducible refine G.joini1 ?_) | (with_reducible refine G.drew ?_) | (simp (maxSteps:=2000000) only [↓RG,RP,RB,BEq.rfl,Int.reduceEq,Int.reduceLT,Int.reduceLE,Nat.reduceEqDiff,eq_true hs,eq_true c3,c0,c1,c2]))
   refine db b x ⟨h1,h2,h3,h4⟩ ?_
   refine mE (x:=x) (a:=a) ho.len (fun h=>g23 (.inr h)) (.inr c3) ?_
   exact hK.sub
  rw [if_neg (by omega)] at hK
  by_cases c4:x.state=4
  ·rw [if_pos c4] at hK
   repeat' (first | (with_reducible refine G.joini0 ?_) | (with_reducible refine G.joini1 ?_) | (with_reducible refine G.drew ?_) | (simp (maxSteps:=2000000) only [↓RG,RP,RB,BEq.rfl,Int.reduceEq,Int.reduceLT,Int.reduceLE,Nat.reduceEqDiff,eq_true hs,eq_true c4,c0,c1,c2,c3]))
   refine db b x ⟨h1,h2,h3,h4⟩ ?_
   refine t4 (x:=x) (l:=a.lock) ho.len (g4 c4).1 (g4 c4).2 ?_
   exact hK.sub
  rw [if_neg c4] at hK
  by_cases c5:x.state=5
  ·rw [if_pos c5] at hK
   repeat' (first | (with_reducible refine G.joini0 ?_) | (with_reducible refine G.joini1 ?_) | (with_reducible refine G.drew ?_) | (simp (maxSteps:=2000000) only [↓RG,RP,RB,BEq.rfl,Int.reduceEq,Int.reduceLT,Int.reduceLE,Nat.reduceEqDiff,eq_true hs,eq_true c5,c0,c1,c2,c3,c4]))
   rw [di (by omega)]
   refine db b { x with pos:=x.pos+1 } ⟨h1,h2,h3,h4⟩ ?_
   refine mD (x:={ x with pos:=x.pos+1 }) ?_
   exact hK.sub
  rw [if_neg c5] at hK
  by_cases c6:x.state=6
  ·rw [if_pos c6] at hK
   repeat' (first | (with_reducible refine G.joini0 ?_) | (with_reducible refine G.joini1 ?_) | (with_reducible refine G.drew ?_) | (simp (maxSteps:=2000000) only [↓RG,RP,RB,BEq.rfl,Int.reduceEq,Int.reduceLT,Int.reduceLE,Nat.reduceEqDiff,eq_true hs,eq_true c6,c0,c1,c2,c3,c4,c5]))
   rw [di (by omega)]
   refine db b { x with pos:=x.pos+1 } ⟨h1,h2,h3,h4⟩ ?_
   refine oJ (x:={ x with pos:=x.pos+1 }) ?_
   exact hK.sub
  rw [if_neg c6] at hK
  have c7:x.state=7:=by omega
  repeat' (first | (with_reducible refine G.joini0 ?_) | (with_reducible refine G.joini1 ?_) | (with_reducible refine G.drew ?_) | (simp (maxSteps:=2000000) only [↓RG,RP,RB,BEq.rfl,Int.reduceEq,Int.reduceLT,Int.reduceLE,Nat.reduceEqDiff,eq_true hs,eq_true c7,c0,c1,c2,c3,c4,c5,c6]))
  rw [di (by omega)]
  refine db b { x with pos:=x.pos+1 } ⟨h1,h2,h3,h4⟩ ?_
  refine mK (x:={ x with pos:=x.pos+1 }) ?_
  exact hK.sub
 ·rw [if_neg hs,cd] at hK
  refine gf hs ?_
  exact(hK v1 v2 v3 v4 ⟨h1,h2,h3,h4⟩).sub
theorem xp (ho:iK x)[i:aq L iH b x C](hK:G w0 L (K (.tuple #[.agg (rv.cells (bi x).1).toArray,.bool (bi x).2]))):G w0 L (CP Tryz.prog Y7 [ptr b 0] K):=by
 refine i.ro (fun M hK=>?_) hK
 rw [cd] at *
 rintro v1 v2 v3 v4 hv
 have hK:=hK v1 v2 v3 v4 hv
 have hst:=ho.st
 have hwas:=ho.len.was
 refine xj ?_
 unfold ox
 refine G.new fun q=>?_
 refine gz ?_
 refine dw (p:=x.pat) (rest:=x.rest v1 v2 v3 v4) ?_
 unfold bi at hK
 by_cases hf:x.pat.fin=0
 ·rw [if_pos hf] at hK
  obtain⟨g01,g23,g4,g5,g6,g7⟩:=ho.here hf
  by_cases c0:x.state=0
  ·rw [if_pos c0] at hK
   have hp:=(g01 (.inl c0)).1
   have e:=ct hp
   have hg:x.stripes.getD x.was.length 0=x.stripes[x.was.length]:=by simp [hp]
   rw [hg] at hK
   repeat' (first | (with_reducible refine G.joini0 ?_) | (with_reducible refine G.joini1 ?_) | (with_reducible refine G.drew ?_) | (simp (maxSteps:=2000000) only [↓RG,RP,RB,BEq.rfl,Int.reduceEq,Int.reduceLT,Int.reduceLE,Nat.reduceEqDiff,eq_true hf,eq_true c0]))
   exact hK.sub
  rw [if_neg c0] at hK
  by_cases c1:x.state=1
  ·rw [if_pos c1] at hK
   have hp:=(g01 (.inr c1)).1
   have e:=ct hp
   have hg:x.stripes.getD x.was.length 0=x.stripes[x.was.length]:=by simp [hp]
   rw [hg] at hK
   repeat' (first | (with_reducible refine G.joini0 ?_) | (with_reducible refine G.joini1 ?_) | (with_reducible refine G.drew ?_) | (simp (maxSteps:=2000000) only [↓RG,RP,RB,BEq.rfl,Int.reduceEq,Int.reduceLT,Int.reduceLE,Nat.reduceEqDiff,eq_true hf,eq_true c1,c0]))
   refine G.new fun q2=>?_
   repeat' (first | (with_reducible refine G.joini0 ?_) | (with_reducible refine G.joini1 ?_) | (with_reducible refine G.drew ?_) | (simp (maxSteps:=2000000) only [↓RG,RP,RB,BEq.rfl,Int.reduceEq,Int.reduceLT,Int.reduceLE,Nat.reduceEqDiff]))
   exact hK.sub
  rw [if_neg c1] at hK
  by_cases c2:x.state=2
  ·rw [if_pos c2] at hK
   refine gf (an (eq_true hf) (an (eq_true c2) (an c0 c1))) ?_
   exact hK.sub
  rw [if_neg c2] at hK
  by_cases c3:x.state=3
  ·rw [if_pos c3] at hK
   repeat' (first | (with_reducible refine G.joini0 ?_) | (with_reducible refine G.joini1 ?_) | (with_reducible refine G.drew ?_) | (simp (maxSteps:=2000000) only [↓RG,RP,RB,BEq.rfl,Int.reduceEq,Int.reduceLT,Int.reduceLE,Nat.reduceEqDiff,eq_true hf,eq_true c3,c0,c1,c2]))
   exact hK.sub
  rw [if_neg c3] at hK
  by_cases c4:x.state=4
  ·rw [if_pos c4] at hK
   have hp:=(g4 c4).2
   have e:=ct hp
   have hg:x.seen.getD x.pos ⟨0,0⟩=x.seen[x.pos]:=by simp [hp]
   rw [hg] at hK
   repeat' (first | (with_reducible refine G.joini0 ?_) | (with_reducible refine G.joini1 ?_) | (with_reducible refine G.drew ?_) | (simp (maxSteps:=2000000) only [↓RG,RP,RB,BEq.rfl,Int.reduceEq,Int.reduceLT,Int.reduceLE,Nat.reduceEqDiff,eq_true hf,eq_true c4,c0,c1,c2,c3]))
   exact hK.sub
  rw [if_neg c4] at hK
  by_cases c5:x.state=5
  ·rw [if_pos c5] at hK
   have hp:=(g5 c5).2
   have e:=ct hp
   have hg:x.cells.getD x.pos ⟨0,0⟩=x.cells[x.pos]:=by simp [hp]
   rw [hg] at hK
   repeat' (first | (with_reducible refine G.joini0 ?_) | (with_reducible refine G.joini1 ?_) | (with_reducible refine G.drew ?_) | (simp (maxSteps:=2000000) only [↓RG,RP,RB,BEq.rfl,Int.reduceEq,Int.reduceLT,Int.reduceLE,Nat.reduceEqDiff,eq_true hf,eq_true c5,c0,c1,c2,c3,c4]))
   exact hK.sub
  rw [if_neg c5] at hK
  by_cases c6:x.state=6
  ·rw [if_pos c6] at hK
   have hp:=(g6 c6).2
   have e:=ct hp
   have hg:x.stripes.getD x.pos 0=x.stripes[x.pos]:=by simp [hp]
   rw [hg] at hK
   repeat' (first | (with_reducible refine G.joini0 ?_) | (with_reducible refine G.joini1 ?_) | (with_reducible refine G.drew ?_) | (simp (maxSteps:=2000000) only [↓RG,RP,RB,BEq.rfl,Int.reduceEq,Int.reduceLT,Int.reduceLE,Nat.reduceEqDiff,eq_true hf,eq_true c6,c0,c1,c2,c3,c4,c5]))
   exact hK.sub
  rw [if_neg c6] at hK
  have c7:x.state=7:=by omega
  have hp:=(g7 c7).1
  have hp2:x.pos<x.stripes.length:=by omega
  have e:=ct hp
  have e2:=ct hp2
  have hg:x.stripes.getD x.pos 0=x.stripes[x.pos]:=by simp [hp2]
  have hg2:x.was.getD x.pos ah=x.was[x.pos]:=by simp [hp]
  rw [hg,hg2] at hK
  repeat' (first | (with_reducible refine G.joini0 ?_) | (with_reducible refine G.joini1 ?_) | (with_reducible refine G.drew ?_) | (simp (maxSteps:=2000000) only [↓RG,RP,RB,BEq.rfl,Int.reduceEq,Int.reduceLT,Int.reduceLE,Nat.reduceEqDiff,eq_true hf,eq_true c7,c0,c1,c2,c3,c4,c5,c6]))
  exact hK.sub
 ·rw [if_neg hf] at hK
  refine gf hf ?_
  exact hK.sub
theorem IK {me sp stamp n wide:Int}{u v:Value}{seen:List fQ}{cells:List au}[r1:Rd w0 L u gq 2 seen][r2:Rd w0 L v bf 2 cells](h1:seen.length≤100000)(h2:cells.length≤100000)
  (hK:∀b,G w0 (ob iH b (nB me sp stamp seen cells (fM (de cells n wide) 16))::L) (K (ptr b 0))):G w0 L (CP Tryz.prog X7 [i64 me,i64 sp,u64 stamp,u,v,i64 n,i64 wide] K):=by
 refine Js ?_
 unfold A9
 refine qn ?_
 refine fB (xs:=seen) (by omega) fun v1 hv1=>?_
 refine eQ (xs:=cells) (by omega) fun v2 hv2=>?_
 refine CR (cs:=cells) (by omega) fun v3 hv3=>?_
 rw [E7]
 refine gz ?_
 refine G.box fun b=>?_
 have h:=oQ (L:=ob iH b ⟨ns me sp,me,stamp,seen,cells,fM (de cells n wide) 16,[],0,0,ah,0,false,0,0,0⟩::L) (C:=fun A=>A::L) (K:=fun _=>K (ptr b 0)) (b:=b) (x:=⟨ns me sp,me,stamp,seen,cells,fM (de cells n wide) 16,[],0,0,ah,0,false,0,0,0⟩) (hK b)
 rw [cd] at h
 have h:=h v1 v2 v3 (.slice none 0 0) ⟨hv1,hv2,hv3,be⟩
 refine G.nilsl lJ ?_
 refine G.pickAll (As:=[own b [i64 (ns me sp).me,i64 (ns me sp).spins,i64 (ns me sp).fin,i64 (ns me sp).by_,i64 (ns me sp).err,i64 me,u64 stamp,v1,v2,v3,.slice none 0 0,i64 0,i64 0,u64 0,.bool false,i64 0,u64 0,.bool false,i64 0,i64 0,i64 0],sl gq v1 seen,sl bf v2 cells,sl bg v3 (fM (de cells n wide) 16),sl lJ (.slice none 0 0) []]) ?_
 exact h
theorem Ox {me sp stamp n wide:Int}{seen:List fQ}{cells:List au}(h1:seen.length≤100000)(h2:cells.length≤100000):iK (nB me sp stamp seen cells (fM (de cells n wide) 16)):=by
 have hml:(fM (de cells n wide) 16).length≤16:=by
  unfold fM
  rw [List.length_map]
  exact Nat.le_trans (List.length_filter_le _ _) (by simp)
 exact Fg ⟨yM,hml,Nat.zero_le _,by simp only;omega,by simp only;omega⟩ rfl
end
end Go.Proofs.YtoealglbimbbmaaGreatDoor.S
