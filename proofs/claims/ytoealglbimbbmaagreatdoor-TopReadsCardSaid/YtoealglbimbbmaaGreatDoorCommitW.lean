import Derived.Test.YtoealglbimbbmaaGreatDoorExtend
import Derived.Test.YtoealglbimbbmaaGreatDoorWritesStr
namespace Go.Proofs.YtoealglbimbbmaaGreatDoor.S
open Go Go.Proofs
set_option linter.unusedVariables false
set_option linter.unusedSimpArgs false
structure dR where
 pat:nD
 me:Int
 stamp:Int
 seen:List fu
 cells:List aw
 stripes:List Int
 was:List df
 state:Int
 pos:Nat
 lock:df
 now:Int
 writing:Bool
 fin:Int
 by_:Int
 err:Int
def tJ:List Int→Int→Option Nat
 | [],_=>none
 | s::l,a=>if s=a then some 0 else (tJ l a).map (·+1)
theorem ym {a:Int}:∀{l:List Int}{k:Nat},tJ l a=some k→l[k]? = some a
 | [],k,h=>by cases h
 | s::l,k,h=>by
  unfold tJ at h
  split at h
  ·rename_i e;cases h;simp [e]
  ·cases hi:tJ l a with
   | none=>rw [hi] at h;cases h
   | some j=>rw [hi] at h;cases h;simpa using ym hi
theorem DC {a:Int}:∀{l:List Int},tJ l a=none↔a ∉ l
 | []=>by simp [tJ]
 | s::l=>by
  unfold tJ
  split
  ·rename_i e;simp [e]
  ·rename_i e
   have:=DC (a:=a) (l:=l)
   simp only [Option.map_eq_none_iff,this,List.mem_cons,not_or]
   exact⟨fun h=>⟨fun g=>e g.symm,h⟩,fun h=>h.2⟩
theorem T2 {a:Int}{l:List Int}{k:Nat}(h:tJ l a=some k):k<l.length:=(List.getElem?_eq_some_iff.1 (ym h)).1
theorem M0 {a:Int}{l:List Int}{k:Nat}(hr:l.Pairwise (·<·))(h:l[k]? = some a):tJ l a=some k:=by
 cases hi:tJ l a with
 | none=>exact absurd (List.mem_of_getElem? h) (DC.1 hi)
 | some j =>
  have e:=ym hi
  obtain⟨h1,e1⟩:=List.getElem?_eq_some_iff.1 h
  obtain⟨h2,e2⟩:=List.getElem?_eq_some_iff.1 e
  rcases Nat.lt_trichotomy j k with g | g | g
  ·have:=List.pairwise_iff_getElem.1 hr j k h2 h1 g;omega
  ·rw [g]
  ·have:=List.pairwise_iff_getElem.1 hr k j h1 h2 g;omega
def ie (x:dR):dR:={ x with state:=if x.was.length=x.stripes.length then 2 else 0 }
def gP (x:dR):dR:=if x.pos=x.was.length then { x with pat:=x.pat.stop x.fin x.err x.by_ } else x
def fN (x:dR)(e er b:Int):dR:=gP { x with fin:=e,err:=er,by_:=b,pos:=0,state:=7 }
def i5 (x:dR)(l:df):dR:=if (x.pat.waits l.owner).2=true then { x with pat:=(x.pat.waits l.owner).1 } else fN { x with pat:=(x.pat.waits l.owner).1 } 5 0 l.owner
def i8 (x:dR):dR:=if x.pos=x.stripes.length then { x with pat:=x.pat.stop 2 0 (-1) } else x
def jj (x:dR):dR:=if x.pos=x.cells.length then i8 { x with pos:=0,state:=6 } else x
def nH (x:dR):dR:=jj { x with writing:=true,pos:=0,state:=5 }
def TU (x:dR)(s:Int):Option Int:=(tJ x.stripes s).map fun i=>(x.was.getD i ai).version
def kp:Nat→dR→dR
 | 0,x=>nH x
 | n+1,x=>match TU x (x.seen.getD x.pos ⟨0,0⟩).stripe with
  | none=>x
  | some v=>if v=(x.seen.getD x.pos ⟨0,0⟩).version then kp n { x with pos:=x.pos+1 } else fN x 5 0 (-1)
def nG (x:dR):dR:=kp (x.seen.length-x.pos) { x with state:=4 }
def kJ (x:dR)(l:df):dR :=
 if l.held=true then i5 x l else if l.version=(x.seen.getD x.pos ⟨0,0⟩).version then nG { x with pos:=x.pos+1 } else fN x 5 0 (-1)
def pK (x:dR)(a:fi):dR :=
 if x.state=0 then (if a.lock.held=true then i5 x a.lock else { x with lock:=a.lock,state:=1 })
 else if a.done=true then ie { x with was:=x.was++[x.lock] } else { x with state:=0 }
def lr (x:dR)(a:fi):dR :=
 if x.state=2 then (if 4611686018427387903≤a.word then fN x 4 7 (-1) else { x with now:=a.word,state:=3 })
 else if a.done=false then { x with state:=2 } else if x.now=x.stamp then nH x else nG x
def dj (x:dR)(a:fi):dR :=
 if (x.pat.stopped a.err).fin=0 then
  (if x.state=0∨x.state=1 then pK x a
   else if x.state=2∨x.state=3 then lr x a
   else if x.state=4 then kJ x a.lock
   else if x.state=5 then jj { x with pos:=x.pos+1 }
   else if x.state=6 then i8 { x with pos:=x.pos+1 }
   else gP { x with pos:=x.pos+1 })
 else { x with pat:=x.pat.stopped a.err }
def mW (me sp stamp:Int)(seen:List fu)(cells:List aw)(stripes:List Int):dR :=
 ie ⟨mE me sp,me,stamp,seen,cells,stripes,[],0,0,ai,0,false,0,0,0⟩
def bt (x:dR):rv×Bool :=
 if x.pat.fin=0 then
  ((if x.state=0 then ⟨3,x.stripes.getD x.was.length 0,0,0,ai,ai⟩
   else if x.state=1 then ⟨4,x.stripes.getD x.was.length 0,0,0,x.lock,⟨x.lock.version,true,x.me⟩⟩
   else if x.state=2 then ⟨6,0,0,0,ai,ai⟩
   else if x.state=3 then ⟨7,0,x.now,IntKind.wrap .u64 (x.now+1),ai,ai⟩
   else if x.state=4 then ⟨3,(x.seen.getD x.pos ⟨0,0⟩).stripe,0,0,ai,ai⟩
   else if x.state=5 then ⟨2,(x.cells.getD x.pos ⟨0,0⟩).place,0,(x.cells.getD x.pos ⟨0,0⟩).word,ai,ai⟩
   else if x.state=6 then ⟨5,x.stripes.getD x.pos 0,0,0,ai,⟨IntKind.wrap .u64 (x.now+1),false,0⟩⟩
   else ⟨5,x.stripes.getD x.pos 0,0,0,ai,x.was.getD x.pos ai⟩),true)
 else (AV,false)
structure gw (x:dR):Prop where
 rising:x.stripes.Pairwise (·<·)
 few:x.stripes.length≤16
 was:x.was.length≤x.stripes.length
 seen:x.seen.length≤1000000
 cells:x.cells.length≤1000000
structure ic (x:dR):Prop where
 len:gw x
 st:0≤x.state∧x.state≤7
 pos:x.pos≤1000000
 here:x.pat.fin=0 →
  ((x.state=0∨x.state=1)→x.was.length<x.stripes.length∧x.pos=0)∧((x.state=2∨x.state=3)→x.was.length=x.stripes.length∧x.pos=0) ∧
  (x.state=4→x.was.length=x.stripes.length∧x.pos<x.seen.length)∧(x.state=5→x.was.length=x.stripes.length∧x.pos<x.cells.length) ∧
  (x.state=6→x.was.length=x.stripes.length∧x.pos<x.stripes.length)∧(x.state=7→x.pos<x.was.length∧x.fin≠0)
theorem gw.eqs {x y:dR}(h:gw x)(h1:y.stripes=x.stripes)(h2:y.was=x.was)(h3:y.seen=x.seen)(h4:y.cells=x.cells):gw y :=
 ⟨by rw [h1];exact h.rising,by rw [h1];exact h.few,by rw [h1,h2];exact h.was,by rw [h3];exact h.seen,by rw [h4];exact h.cells⟩
theorem DW {x:dR}(h:gw x)(hs:x.state=7)(hp:x.pos≤x.was.length)(hf:x.fin≠0):ic (gP x):=by
 have h1:=h.was
 have h2:=h.few
 unfold gP
 split
 ·exact⟨h.eqs rfl rfl rfl rfl,by simp [hs],by simp only;omega,fun g=>absurd g hf⟩
 ·exact⟨h,by omega,by omega,fun _=>⟨by omega,by omega,by omega,by omega,by omega,by omega⟩⟩
theorem mL {x:dR}(h:gw x){e er b:Int}(he:e≠0):ic (fN x e er b):=DW (h.eqs rfl rfl rfl rfl) rfl (Nat.zero_le _) he
theorem Hi {x:dR}(h:ic x)(hf:x.pat.fin=0)(l:df):ic (i5 x l):=by
 have hw:(x.pat.waits l.owner).1.fin=x.pat.fin:=by unfold nD.waits;split <;> rfl
 unfold i5
 split
 ·exact⟨h.len.eqs rfl rfl rfl rfl,h.st,h.pos,fun _=>h.here hf⟩
 ·exact mL (x:={ x with pat:=(x.pat.waits l.owner).1 }) (e:=5) (h.len.eqs rfl rfl rfl rfl) (by decide)
theorem Hj {x:dR}(h:gw x)(hs:x.state=6)(hp:x.pos≤x.stripes.length)(hw:x.was.length=x.stripes.length):ic (i8 x):=by
 have h2:=h.few
 unfold i8
 split
 ·exact⟨h.eqs rfl rfl rfl rfl,by simp [hs],by simp only;omega,fun g=>by simp [nD.stop] at g⟩
 ·exact⟨h,by omega,by omega,fun _=>⟨by omega,by omega,by omega,by omega,by omega,by omega⟩⟩
theorem Ek {x:dR}(h:gw x)(hs:x.state=5)(hp:x.pos≤x.cells.length)(hw:x.was.length=x.stripes.length):ic (jj x):=by
 have h2:=h.cells
 unfold jj
 split
 ·exact Hj (h.eqs rfl rfl rfl rfl) rfl (Nat.zero_le _) hw
 ·exact⟨h,by omega,by omega,fun _=>⟨by omega,by omega,by omega,by omega,by omega,by omega⟩⟩
theorem D9 {x:dR}(h:gw x)(hw:x.was.length=x.stripes.length):ic (nH x):=Ek (h.eqs rfl rfl rfl rfl) rfl (Nat.zero_le _) hw
theorem ye:∀{n:Nat}{x:dR},gw x→x.state=4→x.was.length=x.stripes.length→x.seen.length=x.pos+n→ic (kp n x)
 | 0,x,h,hs,hw,hn=>D9 h hw
 | n+1,x,h,hs,hw,hn=>by
  have h2:=h.seen
  unfold kp
  split
  ·exact⟨h,by omega,by omega,fun _=>⟨by omega,by omega,by omega,by omega,by omega,by omega⟩⟩
  ·split
   ·exact ye (h.eqs rfl rfl rfl rfl) hs hw (by simp only;omega)
   ·exact mL (e:=5) h (by decide)
theorem DV {x:dR}(h:gw x)(hw:x.was.length=x.stripes.length)(hp:x.pos≤x.seen.length):ic (nG x):=ye (h.eqs rfl rfl rfl rfl) rfl hw (by simp only;omega)
theorem Fv {x:dR}(h:gw x)(hp:x.pos=0):ic (ie x):=by
 have h1:=h.was
 unfold ie
 refine⟨h.eqs rfl rfl rfl rfl,by simp only;split <;> omega,by simp only;omega,fun _=>?_⟩
 simp only
 split <;> exact⟨by omega,by omega,by omega,by omega,by omega,by omega⟩
theorem ii {x:dR}(h:ic x)(a:fi):ic (dj x a):=by
 have hp:=h.pos
 unfold dj
 split
 ·rename_i hs
  have hpe:x.pat.stopped a.err=x.pat:=by
   unfold nD.stopped at hs ⊢;split
   ·rename_i h;rw [if_pos h] at hs;simp [nD.stop] at hs
   ·rfl
  rw [hpe] at hs
  obtain⟨g01,g23,g4,g5,g6,g7⟩:=h.here hs
  split
  ·rename_i c
   have g:=g01 c
   unfold pK
   split
   ·split
    ·exact Hi h hs _
    ·exact⟨h.len.eqs rfl rfl rfl rfl,by simp,by simp only;omega,fun _=>⟨by simp only;omega,by simp only;omega,by simp only;omega,by simp only;omega,by simp only;omega,by simp only;omega⟩⟩
   ·split
    ·exact Fv ⟨h.len.rising,h.len.few,by simp;omega,h.len.seen,h.len.cells⟩ g.2
    ·exact⟨h.len.eqs rfl rfl rfl rfl,by simp,by simp only;omega,fun _=>⟨by simp only;omega,by simp only;omega,by simp only;omega,by simp only;omega,by simp only;omega,by simp only;omega⟩⟩
  split
  ·rename_i c
   have g:=g23 c
   unfold lr
   split
   ·split
    ·exact mL (e:=4) h.len (by decide)
    ·exact⟨h.len.eqs rfl rfl rfl rfl,by simp,by simp only;omega,fun _=>⟨by simp only;omega,by simp only;omega,by simp only;omega,by simp only;omega,by simp only;omega,by simp only;omega⟩⟩
   ·split
    ·exact⟨h.len.eqs rfl rfl rfl rfl,by simp,by simp only;omega,fun _=>⟨by simp only;omega,by simp only;omega,by simp only;omega,by simp only;omega,by simp only;omega,by simp only;omega⟩⟩
    ·split
     ·exact D9 h.len g.1
     ·exact DV h.len g.1 (by omega)
  split
  ·rename_i c
   have g:=g4 c
   unfold kJ
   split
   ·exact Hi h hs _
   ·split
    ·exact DV (h.len.eqs rfl rfl rfl rfl) g.1 (by simp only;omega)
    ·exact mL (e:=5) h.len (by decide)
  split
  ·rename_i c
   have g:=g5 c
   exact Ek (h.len.eqs rfl rfl rfl rfl) c (by simp only;omega) g.1
  split
  ·rename_i c
   have g:=g6 c
   exact Hj (h.len.eqs rfl rfl rfl rfl) c (by simp only;omega) g.1
  ·have c:x.state=7:=by have:=h.st;omega
   have g:=g7 c
   exact DW (h.len.eqs rfl rfl rfl rfl) c (by simp only;omega) g.2
 ·rename_i hs
  exact⟨h.len.eqs rfl rfl rfl rfl,h.st,h.pos,fun g=>absurd g hs⟩
end Go.Proofs.YtoealglbimbbmaaGreatDoor.S
namespace Go.Proofs.YtoealglbimbbmaaGreatDoor.S
open Go Go.Proofs
set_option linter.unusedVariables false
set_option linter.unusedSimpArgs false
abbrev dR.rest (x:dR)(v1 v2 v3 v4:Value):List Value:=[i64 x.me,u64 x.stamp,v1,v2,v3,v4,i64 x.state,i64 x.pos,u64 x.lock.version,.bool x.lock.held,i64 x.lock.owner,u64 x.now,.bool x.writing,i64 x.fin,i64 x.by_,i64 x.err]
abbrev NI (v1 v2 v3 v4:Value):Prop:=av v1 [v1]∧av v2 [v2]∧av v3 [v3]∧av v4 [v4]
def gX (b:Nat)(x:dR):ax:=jX fun v1=>jX fun v2=>jX fun v3=>jX fun v4=>bu (fS (NI v1 v2 v3 v4)) (bu (bu (bu (bu (own b (x.pat.cells (x.rest v1 v2 v3 v4))) (sl fM v1 x.seen)) (sl bd v2 x.cells)) (sl cd v3 x.stripes)) (sl lw v4 x.was))
section
variable {w0:bg}{L M:List ax}{K:KV}{F:World→Prop}{C:ax→List ax}{b:Nat}{x:dR}
theorem cu:G w0 (ob gX b x::M) F=∀v1 v2 v3 v4,NI v1 v2 v3 v4→G w0 (own b (x.pat.cells (x.rest v1 v2 v3 v4))::sl fM v1 x.seen::sl bd v2 x.cells::sl cd v3 x.stripes::sl lw v4 x.was::M) F:=by
 rw [dO,gX]
 simp only [lT,dP,eS]
theorem dn {v1 v2 v3 v4:Value}(b:Nat)(x:dR) [cx [own b (x.pat.cells (x.rest v1 v2 v3 v4)),sl fM v1 x.seen,sl bd v2 x.cells,sl cd v3 x.stripes,sl lw v4 x.was] L M]
  (h:NI v1 v2 v3 v4) (H:G w0 (ob gX b x::M) F):G w0 L F :=
 G.pickAll (As:=[own b (x.pat.cells (x.rest v1 v2 v3 v4)),sl fM v1 x.seen,sl bd v2 x.cells,sl cd v3 x.stripes,sl lw v4 x.was]) (by rw [cu] at H;exact H v1 v2 v3 v4 h)
theorem NJ {t:Bool}{A B:World→Prop}(h:t=true):G w0 L (ae (.bool t) A B)=G w0 L A:=by rw [h,KU]
theorem Oc {t:Bool}{A B:World→Prop}(h:t=false):G w0 L (ae (.bool t) A B)=G w0 L B:=by rw [h,K0]
theorem Pm {t:Bool}{A B:World→Prop}(h:t=true):G w0 L (ae (.bool (!t)) A B)=G w0 L B:=by rw [h];exact congrArg _ K0
theorem T4 {t:Bool}{A B:World→Prop}(h:t=false):G w0 L (ae (.bool (!t)) A B)=G w0 L A:=by rw [h];exact congrArg _ KU
theorem mq [i:al L gX b x C](hK:G w0 (C (ob gX b (gP x))) (K (.tuple #[]))):G w0 L (CP Tryz.prog ZB [ptr b 0] K):=by
 refine i.use (fun M hK=>?_) hK
 refine vP ?_
 unfold lX
 rw [cu]
 rintro v1 v2 v3 v4 ⟨h1,h2,h3,h4⟩
 refine G.drew ?_
 refine gz ?_
 refine G.joini0 ?_
 unfold gP at hK
 refine G.cond (fun h=>?_) (fun h=>?_)
 ·rw [if_pos (by simp at h;omega),cu] at hK
  refine G.drew ?_
  refine gz ?_
  refine dc (p:=x.pat) (rest:=x.rest v1 v2 v3 v4) ?_
  refine gz ?_
  exact(hK v1 v2 v3 v4 ⟨h1,h2,h3,h4⟩).sub
 ·rw [if_neg (by simp at h;omega),cu] at hK
  exact(hK v1 v2 v3 v4 ⟨h1,h2,h3,h4⟩).sub
theorem gB {e er by_:Int}[i:al L gX b x C](hK:G w0 (C (ob gX b (fN x e er by_))) (K (.tuple #[]))):G w0 L (CP Tryz.prog XS [ptr b 0,i64 e,i64 er,i64 by_] K):=by
 refine i.use (fun M hK=>?_) hK
 refine vX ?_
 unfold oo
 rw [cu]
 rintro v1 v2 v3 v4 ⟨h1,h2,h3,h4⟩
 refine gz ?_
 refine dn b { x with fin:=e,err:=er,by_:=by_,pos:=0,state:=7 } ⟨h1,h2,h3,h4⟩ ?_
 refine mq (x:={ x with fin:=e,err:=er,by_:=by_,pos:=0,state:=7 }) ?_
 exact hK
theorem oF {l:df}[i:al L gX b x C](hK:G w0 (C (ob gX b (i5 x l))) (K (.tuple #[]))):G w0 L (CP Tryz.prog ZC [ptr b 0,.agg (df.cells l).toArray] K):=by
 refine i.use (fun M hK=>?_) hK
 refine xA ?_
 unfold n7
 refine G.box fun q=>?_
 rw [eN,cu]
 rintro v1 v2 v3 v4 ⟨h1,h2,h3,h4⟩
 refine G.drew ?_
 refine gz ?_
 refine gl (p:=x.pat) (x:=l) (rest:=x.rest v1 v2 v3 v4) ?_
 refine gz ?_
 refine G.joini0 ?_
 unfold i5 at hK
 cases hw:(x.pat.waits l.owner).2
 ·rw [if_neg (by rw [hw];decide)] at hK
  refine gz ?_
  refine dn b { x with pat:=(x.pat.waits l.owner).1 } ⟨h1,h2,h3,h4⟩ ?_
  refine gB (x:={ x with pat:=(x.pat.waits l.owner).1 }) ?_
  exact hK.sub
 ·rw [if_pos hw,cu] at hK
  refine gz ?_
  exact(hK v1 v2 v3 v4 ⟨h1,h2,h3,h4⟩).sub
theorem ns [i:al L gX b x C](hK:G w0 (C (ob gX b (i8 x))) (K (.tuple #[]))):G w0 L (CP Tryz.prog ZA [ptr b 0] K):=by
 refine i.use (fun M hK=>?_) hK
 refine xk ?_
 unfold nX
 rw [cu]
 rintro v1 v2 v3 v4 ⟨h1,h2,h3,h4⟩
 refine G.drew ?_
 refine gz ?_
 refine G.joini0 ?_
 unfold i8 at hK
 refine G.cond (fun h=>?_) (fun h=>?_)
 ·rw [if_pos (by simp at h;omega),cu] at hK
  refine gz ?_
  refine dc (p:=x.pat) (rest:=x.rest v1 v2 v3 v4) ?_
  exact(hK v1 v2 v3 v4 ⟨h1,h2,h3,h4⟩).sub
 ·rw [if_neg (by simp at h;omega),cu] at hK
  exact(hK v1 v2 v3 v4 ⟨h1,h2,h3,h4⟩).sub
theorem l9 [i:al L gX b x C](hK:G w0 (C (ob gX b (jj x))) (K (.tuple #[]))):G w0 L (CP Tryz.prog Zz [ptr b 0] K):=by
 refine i.use (fun M hK=>?_) hK
 refine vz ?_
 unfold lY
 rw [cu]
 rintro v1 v2 v3 v4 ⟨h1,h2,h3,h4⟩
 refine G.drew ?_
 refine gz ?_
 refine G.joini0 ?_
 unfold jj at hK
 refine G.cond (fun h=>?_) (fun h=>?_)
 ·rw [if_pos (by simp at h;omega)] at hK
  refine gz ?_
  refine dn b { x with pos:=0,state:=6 } ⟨h1,h2,h3,h4⟩ ?_
  exact ns (x:={ x with pos:=0,state:=6 }) hK
 ·rw [if_neg (by simp at h;omega),cu] at hK
  exact(hK v1 v2 v3 v4 ⟨h1,h2,h3,h4⟩).sub
theorem mr [i:al L gX b x C](hK:G w0 (C (ob gX b (nH x))) (K (.tuple #[]))):G w0 L (CP Tryz.prog Zy [ptr b 0] K):=by
 refine i.use (fun M hK=>?_) hK
 refine vi ?_
 unfold l8
 rw [cu]
 rintro v1 v2 v3 v4 ⟨h1,h2,h3,h4⟩
 refine gz ?_
 refine dn b { x with writing:=true,pos:=0,state:=5 } ⟨h1,h2,h3,h4⟩ ?_
 exact l9 (x:={ x with writing:=true,pos:=0,state:=5 }) hK
theorem oG [i:al L gX b x C](hK:G w0 (C (ob gX b (ie x))) (K (.tuple #[]))):G w0 L (CP Tryz.prog Zb [ptr b 0] K):=by
 refine i.use (fun M hK=>?_) hK
 refine xq ?_
 unfold ox
 rw [cu]
 rintro v1 v2 v3 v4 ⟨h1,h2,h3,h4⟩
 refine gz ?_
 refine G.drew ?_
 refine gz ?_
 refine G.joini0 ?_
 unfold ie at hK
 refine G.cond (fun h=>?_) (fun h=>?_)
 ·rw [if_pos (by simp at h;omega),cu] at hK
  refine gz ?_
  exact(hK v1 v2 v3 v4 ⟨h1,h2,h3,h4⟩).sub
 ·rw [if_neg (by simp at h;omega),cu] at hK
  exact(hK v1 v2 v3 v4 ⟨h1,h2,h3,h4⟩).sub
theorem FP {m n:Int}(hK:G w0 L (K (.bool (decide (m<n))))):G w0 L (CP Tryz.prog abY [i64 m,i64 n] K):=by
 refine F3 ?_
 unfold wu
 refine gu ?_
 refine EP ?_
 unfold uI
 refine gr ?_
 exact hK
def ko:List Int→Int→Nat
 | [],_=>0
 | s::l,a=>if s<a then ko l a+1 else 0
theorem Ld {a:Int}:∀{l:List Int},ko l a≤l.length
 | []=>by simp [ko]
 | s::l=>by unfold ko;have:=Ld (a:=a) (l:=l);simp only [List.length_cons];split <;> omega
theorem Li {a:Int}:∀{l:List Int},(∀j (h:j<l.length),j<ko l a→l[j]<a)∧(∀h:ko l a<l.length,a≤l[ko l a])
 | []=>⟨fun j h=>by simp at h,fun h=>by simp at h⟩
 | s::l=>by
  have ih:=Li (a:=a) (l:=l)
  constructor
  ·intro j h hj
   unfold ko at hj
   split at hj
   ·rename_i hs
    cases j with
    | zero=>simpa using hs
    | succ j=>simpa using ih.1 j (by simpa using h) (by omega)
   ·omega
  ·intro h
   unfold ko at h
   by_cases hs:s<a
   ·have e:ko (s::l) a=ko l a+1:=by simp [ko,hs]
    simp only [e]
    rw [if_pos hs] at h
    simpa using ih.2 (by simpa using h)
   ·have e:ko (s::l) a=0:=by simp [ko,hs]
    simp only [e]
    simpa using (by omega:a≤s)
theorem PT {a:Int}{l:List Int}{i:Nat}(hi:i≤l.length)(h1:∀j (h:j<l.length),j<i→l[j]<a)(h2:∀h:i<l.length,a≤l[i]):ko l a=i:=by
 have ⟨g1,g2⟩:=Li (a:=a) (l:=l)
 have g0:=Ld (a:=a) (l:=l)
 rcases Nat.lt_trichotomy (ko l a) i with h | h | h
 ·have:=h1 _ (by omega) h;have:=g2 (by omega);omega
 ·exact h
 ·have:=g1 i (by omega) h;have:=h2 (by omega);omega
theorem Mn {a:Int}{l:List Int}(hr:l.Pairwise (·<·)):(∀h:ko l a<l.length,l[ko l a]=a→tJ l a=some (ko l a))∧((ko l a<l.length→l[ko l a]?≠some a)→tJ l a=none):=by
 have ⟨g1,g2⟩:=Li (a:=a) (l:=l)
 refine⟨fun h e=>M0 hr (by rw [List.getElem?_eq_getElem h,e]),fun h=>?_⟩
 rw [DC]
 intro hm
 obtain⟨j,hj,e⟩:=List.getElem_of_mem hm
 have hle:ko l a≤j:=by
  rcases Nat.lt_or_ge j (ko l a) with g | g
  ·have:=g1 j hj g;omega
  ·exact g
 have hlt:ko l a<l.length:=by omega
 have h3:=h hlt
 rw [List.getElem?_eq_getElem hlt] at h3
 have h4:=g2 hlt
 rcases Nat.lt_or_ge (ko l a) j with g | g
 ·have:=List.pairwise_iff_getElem.1 hr _ j hlt hj g;omega
 ·have:ko l a=j:=by omega
  exact h3 (by simp only [this,e])
theorem WO (i j:Nat)(h:i≤j)(hj:j≤1000000):IntKind.wrap .i64 ((IntKind.wrap .u64 (IntKind.wrap .i64 ((i:Int)+j))).fdiv (2 ^ min (1:Int).toNat IntKind.u64.bits))=(((i+j) / 2:Nat):Int):=by
 rw [ik (n:=(i:Int)+j) (by omega) (by omega),RH (by omega) (by omega)]
 have:(2:Int) ^ min (1:Int).toNat IntKind.u64.bits=2:=by decide
 rw [this,Int.fdiv_eq_ediv_of_nonneg _ (by decide),ik (by omega) (by omega)]
 omega
theorem qW {v:Value}{l:List Int}{a:Int}[r:Rd w0 L v cd 1 l](hr:l.Pairwise (·<·))(hl:l.length≤1000000)
  (hK:G w0 L (K (.tuple #[i64 (ko l a),.bool (tJ l a).isSome]))):G w0 L (CP Tryz.prog ace [v,i64 a] K):=by
 refine nU ?_
 unfold hC
 refine gu ?_
 refine gr ?_
 refine G.loop2 (σ:=Nat×Nat) (fun z=>i64 z.1) (fun z=>i64 z.2) (fun _=>L) (fun z=>z.1≤z.2∧z.2≤l.length∧(∀j (h:j<l.length),j<z.1→l[j]<a)∧(∀j (h:j<l.length),z.2≤j→a≤l[j])) (fun z=>z.2-z.1) (0,l.length) rfl rfl rfl ⟨by simp,by simp,fun j h hj=>by simp at hj,fun j h hj=>by simp only at hj;omega⟩ ?_
 rintro⟨i,j⟩ ⟨hij,hjl,p1,p2⟩ J hJ
 simp only at hij hjl p1 p2 hJ ⊢
 refine gr ?_
 refine G.cond (fun h=>?_) (fun h=>?_)
 ·have hlt:i<j:=by simpa using h
  have hm:(i+j) / 2<l.length:=by omega
  have e:=cW hm
  rw [WO i j hij (by omega)]
  refine gr ?_
  refine FP ?_
  refine G.joini2 ?_
  refine G.cond (fun h2=>?_) (fun h2=>?_)
  ·have h3:l[(i+j) / 2]<a:=by simpa using h2
   refine gr ?_
   rw [dt (by omega)]
   exact hJ ((i+j) / 2+1,j) ⟨by simp only;omega,hjl,fun k hk hk2=>by
    rcases Nat.lt_or_ge k ((i+j) / 2) with g | g
    ·have:=List.pairwise_iff_getElem.1 hr k _ hk hm g;omega
    ·have:k=(i+j) / 2:=by simp only at hk2;omega
     subst this;exact h3,p2⟩ (by simp only;omega)
  ·have h3:¬l[(i+j) / 2]<a:=by simpa using h2
   exact hJ (i,(i+j) / 2) ⟨by simp only;omega,by simp only;omega,p1,fun k hk hk2=>by
    rcases Nat.lt_or_ge ((i+j) / 2) k with g | g
    ·have:=List.pairwise_iff_getElem.1 hr _ k hm hk g;omega
    ·have:k=(i+j) / 2:=by simp only at hk2;omega
     subst this;omega⟩ (by simp only;omega)
 ·have hij2:i=j:=by simp at h;omega
  subst hij2
  have hlo:ko l a=i:=PT hjl p1 (fun h=>p2 i h (Nat.le_refl _))
  have ⟨q1,q2⟩:=Mn (a:=a) hr
  rw [hlo] at hK q2
  by_cases hi:i<l.length
  ·have e:=cW hi
   have hi3:(i:Int)<(l.length:Int):=by omega
   by_cases he:l[i]=a
   ·have:tJ l a=some i:=by
     have:=q1 (by rw [hlo];exact hi) (by simp only [hlo];exact he)
     rwa [hlo] at this
    rw [this] at hK
    refine dN (an hi3 he) ?_
    exact hK
   ·have:tJ l a=none:=q2 (fun h=>by rw [List.getElem?_eq_getElem h];simpa using he)
    rw [this] at hK
    have ha2:¬(i:Int)<(i:Int):=by omega
    refine dN (an hi3 he) ?_
    refine Ao ?_
    unfold ql
    refine gr ?_
    exact hK
  ·have:tJ l a=none:=q2 (fun h=>absurd h hi)
   rw [this] at hK
   have hi3:¬(i:Int)<(l.length:Int):=by omega
   refine dN hi3 ?_
   exact hK
theorem jK [i:al L gX b x C](hK:G w0 L (K (i64 x.pat.fin))):G w0 L (CP Tryz.prog XG [ptr b 0] K):=by
 refine i.ro (fun M hK=>?_) hK
 rw [cu] at *
 rintro v1 v2 v3 v4 hv
 refine oP ?_
 unfold jH
 refine gz ?_
 refine dF (p:=x.pat) (rest:=x.rest v1 v2 v3 v4) ?_
 exact hK v1 v2 v3 v4 hv
theorem yD [i:al L gX b x C](hK:G w0 L (K (i64 x.pat.err))):G w0 L (CP Tryz.prog abx [ptr b 0] K):=by
 refine i.ro (fun M hK=>?_) hK
 rw [cu] at *
 rintro v1 v2 v3 v4 hv
 refine yw ?_
 unfold oQ
 refine gz ?_
 refine sV (p:=x.pat) (rest:=x.rest v1 v2 v3 v4) ?_
 exact hK v1 v2 v3 v4 hv
theorem zT [i:al L gX b x C](hK:G w0 L (K (i64 x.pat.by_))):G w0 L (CP Tryz.prog aaw [ptr b 0] K):=by
 refine i.ro (fun M hK=>?_) hK
 rw [cu] at *
 rintro v1 v2 v3 v4 hv
 refine Ad ?_
 unfold p7
 refine gz ?_
 refine io (p:=x.pat) (rest:=x.rest v1 v2 v3 v4) ?_
 exact hK v1 v2 v3 v4 hv
theorem vd [i:al L gX b x C](hK:G w0 L (K (u64 (if x.writing=true then IntKind.wrap .u64 (x.now+1) else 0)))):G w0 L (CP Tryz.prog YU [ptr b 0] K):=by
 refine i.ro (fun M hK=>?_) hK
 rw [cu] at *
 rintro v1 v2 v3 v4 hv
 refine vE ?_
 unfold mv
 cases hw:x.writing
 ·refine dN hw ?_
  have h:=hK v1 v2 v3 v4 hv
  simp only [hw] at h
  exact h
 ·refine dN hw ?_
  have h:=hK v1 v2 v3 v4 hv
  simp only [hw] at h
  exact h
theorem sJ [i:al L gX b x C](hK:G w0 L (K (.bool (x.writing && decide (x.pat.fin=0))))):G w0 L (CP Tryz.prog abm [ptr b 0] K):=by
 refine i.ro (fun M hK=>?_) hK
 rw [cu] at *
 rintro v1 v2 v3 v4 hv
 refine sM ?_
 unfold kB
 have h:=hK v1 v2 v3 v4 hv
 cases hw:x.writing
 ·simp only [hw] at h
  refine dN hw ?_
  exact h
 ·simp only [hw,Bool.true_and] at h
  refine dN hw ?_
  refine oP ?_
  unfold jH
  refine gr ?_
  refine dF (p:=x.pat) (rest:=x.rest v1 v2 v3 v4) ?_
  refine gr ?_
  exact h
theorem mn (hl:gw x)(hw:x.was.length=x.stripes.length)(hp:x.pos≤x.seen.length)[i:al L gX b x C](hK:G w0 (C (ob gX b (nG x))) (K (.tuple #[]))):G w0 L (CP Tryz.prog ZD [ptr b 0] K):=by
 refine i.use (fun M hK=>?_) hK
 refine uX ?_
 unfold mm
 have hfew:=hl.few
 have hseen:=hl.seen
 rw [cu]
 rintro v1 v2 v3 v4 ⟨h1,h2,h3,h4⟩
 refine gz ?_
 refine dn b { x with state:=4 } ⟨h1,h2,h3,h4⟩ ?_
 refine G.loop0 (σ:=Nat) (fun k=>ob gX b { x with state:=4,pos:=k }::M) (fun k=>x.pos≤k∧k≤x.seen.length∧nG x=kp (x.seen.length-k) { x with state:=4,pos:=k }) (fun k=>x.seen.length-k) x.pos rfl ⟨Nat.le_refl _,hp,rfl⟩ ?_
 rintro k ⟨hk1,hk2,hpr⟩ J hJ
 rw [hpr] at hK
 rw [cu]
 rintro v1 v2 v3 v4 ⟨h1,h2,h3,h4⟩
 refine G.drew ?_
 refine gz ?_
 refine G.cond (fun h=>?_) (fun h=>?_)
 ·have hk3:k<x.seen.length:=by simpa using h
  have e:=cW hk3
  have hg:x.seen.getD k ⟨0,0⟩=x.seen[k]:=by simp [hk3]
  rw [show x.seen.length-k=(x.seen.length-(k+1))+1 by omega] at hK hpr
  unfold kp at hK hpr
  simp only [hg,TU] at hK hpr
  refine G.drew ?_
  refine gz ?_
  refine qW (l:=x.stripes) hl.rising (by omega) ?_
  refine gz ?_
  cases hi:tJ x.stripes x.seen[k].stripe with
  | none =>
   rw [hi] at hK
   simp only [Option.map_none] at hK
   try simp (maxSteps:=2000000) only [↓RG,RB,BEq.rfl,Int.reduceEq,Int.reduceLT,Int.reduceLE,Nat.reduceEqDiff,Option.isSome_none]
   rw [cu] at hK
   exact(hK v1 v2 v3 v4 ⟨h1,h2,h3,h4⟩).sub
  | some j =>
   have hj:=T2 hi
   have hlo:ko x.stripes x.seen[k].stripe=j:=by
    have ⟨g1,g2⟩:=Mn (a:=x.seen[k].stripe) hl.rising
    have g3:=Ld (a:=x.seen[k].stripe) (l:=x.stripes)
    by_cases hc:ko x.stripes x.seen[k].stripe<x.stripes.length
    ·by_cases he:x.stripes[ko x.stripes x.seen[k].stripe]=x.seen[k].stripe
     ·have:=g1 hc he;rw [hi] at this;cases this;rfl
     ·have:=g2 (fun h=>by rw [List.getElem?_eq_getElem h];simpa using he);rw [hi] at this;cases this
    ·have:=g2 (fun h=>absurd h hc);rw [hi] at this;cases this
   have hj2:j<x.was.length:=by omega
   have e2:=cW hj2
   have hgw:x.was.getD j ai=x.was[j]:=by simp [hj2]
   rw [hi] at hK hpr
   simp only [Option.map_some,hgw] at hK hpr
   rw [hlo]
   try simp (maxSteps:=2000000) only [↓RG,RB,BEq.rfl,Int.reduceEq,Int.reduceLT,Int.reduceLE,Nat.reduceEqDiff,Option.isSome_some]
   refine G.drew ?_
   refine gz ?_
   by_cases hv:x.was[j].version=x.seen[k].version
   ·rw [if_pos hv] at hpr
    refine UZ hv ?_
    rw [dt (by omega)]
    refine dn b { x with state:=4,pos:=k+1 } ⟨h1,h2,h3,h4⟩ ?_
    exact hJ (k+1) ⟨by omega,by omega,hpr⟩ (by omega)
   ·rw [if_neg hv] at hK
    refine UZ hv ?_
    refine dn b { x with state:=4,pos:=k } ⟨h1,h2,h3,h4⟩ ?_
    refine gB (x:={ x with state:=4,pos:=k }) ?_
    exact hK
 ·have hk3:k=x.seen.length:=by simp at h;omega
  subst hk3
  rw [Nat.sub_self] at hK
  unfold kp at hK
  refine dn b { x with state:=4,pos:=x.seen.length } ⟨h1,h2,h3,h4⟩ ?_
  refine mr (x:={ x with state:=4,pos:=x.seen.length }) ?_
  exact hK
theorem om {a:fi}(hl:gw x)[i:al L gX b x C](hK:G w0 (C (ob gX b (pK x a))) (K (.tuple #[]))):G w0 L (CP Tryz.prog aca [ptr b 0,.agg (fi.cells a).toArray] K):=by
 refine i.use (fun M hK=>?_) hK
 refine wQ ?_
 unfold nY
 have hfew:=hl.few
 have hwas:=hl.was
 refine gu ?_
 refine G.box fun q=>?_
 rw [eN,cu]
 rintro v1 v2 v3 v4 ⟨h1,h2,h3,h4⟩
 refine gr ?_
 unfold pK at hK
 by_cases hs:x.state=0
 ·rw [if_pos hs] at hK
  cases hh:a.lock.held
  ·rw [if_neg (by rw [hh];decide),cu] at hK
   repeat' (first | (with_reducible refine G.joini0 ?_) | (with_reducible refine G.joini1 ?_) | (with_reducible refine G.drew ?_) | (simp (maxSteps:=2000000) only [↓RG,RP,RB,BEq.rfl,Int.reduceEq,Int.reduceLT,Int.reduceLE,Nat.reduceEqDiff,eq_true hs,Oc hh]))
   exact(hK v1 v2 v3 v4 ⟨h1,h2,h3,h4⟩).sub
  ·rw [if_pos hh] at hK
   repeat' (first | (with_reducible refine G.joini0 ?_) | (with_reducible refine G.joini1 ?_) | (with_reducible refine G.drew ?_) | (simp (maxSteps:=2000000) only [↓RG,RP,RB,BEq.rfl,Int.reduceEq,Int.reduceLT,Int.reduceLE,Nat.reduceEqDiff,eq_true hs,NJ hh]))
   refine dn b x ⟨h1,h2,h3,h4⟩ ?_
   refine oF (x:=x) (l:=a.lock) ?_
   exact hK.sub
 ·rw [if_neg hs] at hK
  cases hd:a.done
  ·rw [if_neg (by rw [hd];decide),cu] at hK
   repeat' (first | (with_reducible refine G.joini0 ?_) | (with_reducible refine G.joini1 ?_) | (with_reducible refine G.drew ?_) | (simp (maxSteps:=2000000) only [↓RG,RP,RB,BEq.rfl,Int.reduceEq,Int.reduceLT,Int.reduceLE,Nat.reduceEqDiff,hs,Oc hd]))
   exact(hK v1 v2 v3 v4 ⟨h1,h2,h3,h4⟩).sub
  ·rw [if_pos hd] at hK
   repeat' (first | (with_reducible refine G.joini0 ?_) | (with_reducible refine G.joini1 ?_) | (with_reducible refine G.drew ?_) | (simp (maxSteps:=2000000) only [↓RG,RP,RB,BEq.rfl,Int.reduceEq,Int.reduceLT,Int.reduceLE,Nat.reduceEqDiff,hs,NJ hd]))
   refine G.build lw [x.lock] rfl (by simp) rfl fun v6 h6=>?_
   refine gg ?_
   refine G.append (xs:=x.was) (ys:=[x.lock]) (by simp;omega) (by simp [maxLen];omega) fun v5 h5=>?_
   refine gg ?_
   refine dn b { x with was:=x.was++[x.lock] } ⟨h1,h2,h3,h5⟩ ?_
   refine oG (x:={ x with was:=x.was++[x.lock] }) ?_
   exact hK.sub
theorem lZ {a:fi}(hl:gw x)(hg:x.state=3→x.was.length=x.stripes.length∧x.pos=0)[i:al L gX b x C](hs:x.state=2∨x.state=3)(hK:G w0 (C (ob gX b (lr x a))) (K (.tuple #[]))):G w0 L (CP Tryz.prog acb [ptr b 0,.agg (fi.cells a).toArray] K):=by
 refine i.use (fun M hK=>?_) hK
 refine uU ?_
 unfold l7
 refine gu ?_
 refine G.box fun q=>?_
 rw [eN,cu]
 rintro v1 v2 v3 v4 ⟨h1,h2,h3,h4⟩
 refine gr ?_
 unfold lr at hK
 by_cases hs2:x.state=2
 ·rw [if_pos hs2] at hK
  by_cases hc:4611686018427387903≤a.word
  ·rw [if_pos hc] at hK
   refine gf (an (eq_true hs2) hc) ?_
   refine dn b x ⟨h1,h2,h3,h4⟩ ?_
   refine gB (x:=x) ?_
   exact hK.sub
  ·rw [if_neg hc,cu] at hK
   repeat' (first | (with_reducible refine G.joini0 ?_) | (with_reducible refine G.joini1 ?_) | (with_reducible refine G.drew ?_) | (simp (maxSteps:=2000000) only [↓RG,RP,RB,BEq.rfl,Int.reduceEq,Int.reduceLT,Int.reduceLE,Nat.reduceEqDiff,eq_true hs2,hc]))
   exact(hK v1 v2 v3 v4 ⟨h1,h2,h3,h4⟩).sub
 ·rw [if_neg hs2] at hK
  have hs3:x.state=3:=by omega
  have g:=hg hs3
  cases hd:a.done
  ·rw [if_pos hd,cu] at hK
   repeat' (first | (with_reducible refine G.joini0 ?_) | (with_reducible refine G.joini1 ?_) | (with_reducible refine G.drew ?_) | (simp (maxSteps:=2000000) only [↓RG,RP,RB,BEq.rfl,Int.reduceEq,Int.reduceLT,Int.reduceLE,Nat.reduceEqDiff,hs2,T4 hd]))
   exact(hK v1 v2 v3 v4 ⟨h1,h2,h3,h4⟩).sub
  ·rw [if_neg (by rw [hd];decide)] at hK
   by_cases hn:x.now=x.stamp
   ·rw [if_pos hn] at hK
    repeat' (first | (with_reducible refine G.joini0 ?_) | (with_reducible refine G.joini1 ?_) | (with_reducible refine G.drew ?_) | (simp (maxSteps:=2000000) only [↓RG,RP,RB,BEq.rfl,Int.reduceEq,Int.reduceLT,Int.reduceLE,Nat.reduceEqDiff,hs2,Pm hd,eq_true hn]))
    refine dn b x ⟨h1,h2,h3,h4⟩ ?_
    refine mr (x:=x) ?_
    exact hK.sub
   ·rw [if_neg hn] at hK
    repeat' (first | (with_reducible refine G.joini0 ?_) | (with_reducible refine G.joini1 ?_) | (with_reducible refine G.drew ?_) | (simp (maxSteps:=2000000) only [↓RG,RP,RB,BEq.rfl,Int.reduceEq,Int.reduceLT,Int.reduceLE,Nat.reduceEqDiff,hs2,Pm hd,hn]))
    refine dn b x ⟨h1,h2,h3,h4⟩ ?_
    refine mn (x:=x) hl g.1 (by omega) ?_
    exact hK.sub
theorem tK {l:df}(hl:gw x)(hw:x.was.length=x.stripes.length)(hp:x.pos<x.seen.length)[i:al L gX b x C](hK:G w0 (C (ob gX b (kJ x l))) (K (.tuple #[]))):G w0 L (CP Tryz.prog acd [ptr b 0,.agg (df.cells l).toArray] K):=by
 refine i.use (fun M hK=>?_) hK
 refine ue ?_
 unfold lf
 have hseen:=hl.seen
 refine G.box fun q=>?_
 rw [eN,cu]
 rintro v1 v2 v3 v4 ⟨h1,h2,h3,h4⟩
 have e:=cW hp
 have hg:x.seen.getD x.pos ⟨0,0⟩=x.seen[x.pos]:=by simp [hp]
 unfold kJ at hK
 rw [hg] at hK
 cases hh:l.held
 ·rw [if_neg (by rw [hh];decide)] at hK
  repeat' (first | (with_reducible refine G.joini0 ?_) | (with_reducible refine G.joini1 ?_) | (with_reducible refine G.drew ?_) | (simp (maxSteps:=2000000) only [↓RG,RP,RB,BEq.rfl,Int.reduceEq,Int.reduceLT,Int.reduceLE,Nat.reduceEqDiff,Oc hh]))
  by_cases hv:l.version=x.seen[x.pos].version
  ·rw [if_pos hv] at hK
   refine gf (eq_true hv) ?_
   rw [dt (by omega)]
   refine dn b { x with pos:=x.pos+1 } ⟨h1,h2,h3,h4⟩ ?_
   refine mn (x:={ x with pos:=x.pos+1 }) (hl.eqs rfl rfl rfl rfl) hw hp ?_
   exact hK.sub
  ·rw [if_neg hv] at hK
   refine gf hv ?_
   refine dn b x ⟨h1,h2,h3,h4⟩ ?_
   refine gB (x:=x) ?_
   exact hK.sub
 ·rw [if_pos hh] at hK
  repeat' (first | (with_reducible refine G.joini0 ?_) | (with_reducible refine G.joini1 ?_) | (with_reducible refine G.drew ?_) | (simp (maxSteps:=2000000) only [↓RG,RP,RB,BEq.rfl,Int.reduceEq,Int.reduceLT,Int.reduceLE,Nat.reduceEqDiff,NJ hh]))
  refine dn b x ⟨h1,h2,h3,h4⟩ ?_
  refine oF (x:=x) (l:=l) ?_
  exact hK.sub
theorem xn {a:fi}(ho:ic x)[i:al L gX b x C](hK:G w0 (C (ob gX b (dj x a))) (K (.tuple #[]))):G w0 L (CP Tryz.prog aav [ptr b 0,.agg (fi.cells a).toArray] K):=by
 refine i.use (fun M hK=>?_) hK
 refine wo ?_
 unfold og
 have hpos:=ho.pos
 have hst:=ho.st
 refine G.box fun q=>?_
 rw [eN,cu]
 rintro v1 v2 v3 v4 ⟨h1,h2,h3,h4⟩
 refine G.drew ?_
 refine gz ?_
 refine fI (p:=x.pat) (a:=a) (rest:=x.rest v1 v2 v3 v4) ?_
 unfold dj at hK
 by_cases hs:(x.pat.stopped a.err).fin=0
 ·have hp:x.pat.stopped a.err=x.pat:=by
   unfold nD.stopped at hs ⊢;split
   ·rename_i h;rw [if_pos h] at hs;simp [nD.stop] at hs
   ·rfl
  rw [if_pos hs] at hK
  rw [hp] at hs
  rw [hp]
  obtain⟨g01,g23,g4,g5,g6,g7⟩:=ho.here hs
  by_cases c0:x.state=0
  ·rw [if_pos (.inl c0)] at hK
   repeat' (first | (with_reducible refine G.joini0 ?_) | (with_reducible refine G.joini1 ?_) | (with_reducible refine G.drew ?_) | (simp (maxSteps:=2000000) only [↓RG,RP,RB,BEq.rfl,Int.reduceEq,Int.reduceLT,Int.reduceLE,Nat.reduceEqDiff,eq_true hs,eq_true c0]))
   refine dn b x ⟨h1,h2,h3,h4⟩ ?_
   refine om (x:=x) (a:=a) ho.len ?_
   exact hK.sub
  by_cases c1:x.state=1
  ·rw [if_pos (.inr c1)] at hK
   repeat' (first | (with_reducible refine G.joini0 ?_) | (with_reducible refine G.joini1 ?_) | (with_reducible refine G.drew ?_) | (simp (maxSteps:=2000000) only [↓RG,RP,RB,BEq.rfl,Int.reduceEq,Int.reduceLT,Int.reduceLE,Nat.reduceEqDiff,eq_true hs,eq_true c1,c0]))
   refine dn b x ⟨h1,h2,h3,h4⟩ ?_
   refine om (x:=x) (a:=a) ho.len ?_
   exact hK.sub
  rw [if_neg (by omega)] at hK
  by_cases c2:x.state=2
  ·rw [if_pos (.inl c2)] at hK
   repeat' (first | (with_reducible refine G.joini0 ?_) | (with_reducible refine G.joini1 ?_) | (with_reducible refine G.drew ?_) | (simp (maxSteps:=2000000) only [↓RG,RP,RB,BEq.rfl,Int.reduceEq,Int.reduceLT,Int.reduceLE,Nat.reduceEqDiff,eq_true hs,eq_true c2,c0,c1]))
   refine dn b x ⟨h1,h2,h3,h4⟩ ?_
   refine lZ (x:=x) (a:=a) ho.len (fun h=>g23 (.inr h)) (.inl c2) ?_
   exact hK.sub
  by_cases c3:x.state=3
  ·rw [if_pos (.inr c3)] at hK
   repeat' (first | (with_reducible refine G.joini0 ?_) | (with_reducible refine G.joini1 ?_) | (with_reducible refine G.drew ?_) | (simp (maxSteps:=2000000) only [↓RG,RP,RB,BEq.rfl,Int.reduceEq,Int.reduceLT,Int.reduceLE,Nat.reduceEqDiff,eq_true hs,eq_true c3,c0,c1,c2]))
   refine dn b x ⟨h1,h2,h3,h4⟩ ?_
   refine lZ (x:=x) (a:=a) ho.len (fun h=>g23 (.inr h)) (.inr c3) ?_
   exact hK.sub
  rw [if_neg (by omega)] at hK
  by_cases c4:x.state=4
  ·rw [if_pos c4] at hK
   repeat' (first | (with_reducible refine G.joini0 ?_) | (with_reducible refine G.joini1 ?_) | (with_reducible refine G.drew ?_) | (simp (maxSteps:=2000000) only [↓RG,RP,RB,BEq.rfl,Int.reduceEq,Int.reduceLT,Int.reduceLE,Nat.reduceEqDiff,eq_true hs,eq_true c4,c0,c1,c2,c3]))
   refine dn b x ⟨h1,h2,h3,h4⟩ ?_
   refine tK (x:=x) (l:=a.lock) ho.len (g4 c4).1 (g4 c4).2 ?_
   exact hK.sub
  rw [if_neg c4] at hK
  by_cases c5:x.state=5
  ·rw [if_pos c5] at hK
   repeat' (first | (with_reducible refine G.joini0 ?_) | (with_reducible refine G.joini1 ?_) | (with_reducible refine G.drew ?_) | (simp (maxSteps:=2000000) only [↓RG,RP,RB,BEq.rfl,Int.reduceEq,Int.reduceLT,Int.reduceLE,Nat.reduceEqDiff,eq_true hs,eq_true c5,c0,c1,c2,c3,c4]))
   rw [dt (by omega)]
   refine dn b { x with pos:=x.pos+1 } ⟨h1,h2,h3,h4⟩ ?_
   refine l9 (x:={ x with pos:=x.pos+1 }) ?_
   exact hK.sub
  rw [if_neg c5] at hK
  by_cases c6:x.state=6
  ·rw [if_pos c6] at hK
   repeat' (first | (with_reducible refine G.joini0 ?_) | (with_reducible refine G.joini1 ?_) | (with_reducible refine G.drew ?_) | (simp (maxSteps:=2000000) only [↓RG,RP,RB,BEq.rfl,Int.reduceEq,Int.reduceLT,Int.reduceLE,Nat.reduceEqDiff,eq_true hs,eq_true c6,c0,c1,c2,c3,c4,c5]))
   rw [dt (by omega)]
   refine dn b { x with pos:=x.pos+1 } ⟨h1,h2,h3,h4⟩ ?_
   refine ns (x:={ x with pos:=x.pos+1 }) ?_
   exact hK.sub
  rw [if_neg c6] at hK
  have c7:x.state=7:=by omega
  repeat' (first | (with_reducible refine G.joini0 ?_) | (with_reducible refine G.joini1 ?_) | (with_reducible refine G.drew ?_) | (simp (maxSteps:=2000000) only [↓RG,RP,RB,BEq.rfl,Int.reduceEq,Int.reduceLT,Int.reduceLE,Nat.reduceEqDiff,eq_true hs,eq_true c7,c0,c1,c2,c3,c4,c5,c6]))
  rw [dt (by omega)]
  refine dn b { x with pos:=x.pos+1 } ⟨h1,h2,h3,h4⟩ ?_
  refine mq (x:={ x with pos:=x.pos+1 }) ?_
  exact hK.sub
 ·rw [if_neg hs,cu] at hK
  refine gf hs ?_
  exact(hK v1 v2 v3 v4 ⟨h1,h2,h3,h4⟩).sub
theorem xl (ho:ic x)[i:al L gX b x C](hK:G w0 L (K (.tuple #[.agg (rv.cells (bt x).1).toArray,.bool (bt x).2]))):G w0 L (CP Tryz.prog aau [ptr b 0] K):=by
 refine i.ro (fun M hK=>?_) hK
 rw [cu] at *
 rintro v1 v2 v3 v4 hv
 have hK:=hK v1 v2 v3 v4 hv
 have hst:=ho.st
 have hwas:=ho.len.was
 refine we ?_
 unfold nV
 refine G.new fun q=>?_
 refine gz ?_
 refine dF (p:=x.pat) (rest:=x.rest v1 v2 v3 v4) ?_
 unfold bt at hK
 by_cases hf:x.pat.fin=0
 ·rw [if_pos hf] at hK
  obtain⟨g01,g23,g4,g5,g6,g7⟩:=ho.here hf
  by_cases c0:x.state=0
  ·rw [if_pos c0] at hK
   have hp:=(g01 (.inl c0)).1
   have e:=cW hp
   have hg:x.stripes.getD x.was.length 0=x.stripes[x.was.length]:=by simp [hp]
   rw [hg] at hK
   repeat' (first | (with_reducible refine G.joini0 ?_) | (with_reducible refine G.joini1 ?_) | (with_reducible refine G.drew ?_) | (simp (maxSteps:=2000000) only [↓RG,RP,RB,BEq.rfl,Int.reduceEq,Int.reduceLT,Int.reduceLE,Nat.reduceEqDiff,eq_true hf,eq_true c0]))
   exact hK.sub
  rw [if_neg c0] at hK
  by_cases c1:x.state=1
  ·rw [if_pos c1] at hK
   have hp:=(g01 (.inr c1)).1
   have e:=cW hp
   have hg:x.stripes.getD x.was.length 0=x.stripes[x.was.length]:=by simp [hp]
   rw [hg] at hK
   repeat' (first | (with_reducible refine G.joini0 ?_) | (with_reducible refine G.joini1 ?_) | (with_reducible refine G.drew ?_) | (simp (maxSteps:=2000000) only [↓RG,RP,RB,BEq.rfl,Int.reduceEq,Int.reduceLT,Int.reduceLE,Nat.reduceEqDiff,eq_true hf,eq_true c1,c0]))
   refine G.new fun q2=>?_
   repeat' (first | (with_reducible refine G.joini0 ?_) | (with_reducible refine G.joini1 ?_) | (with_reducible refine G.drew ?_) | (simp (maxSteps:=2000000) only [↓RG,RP,RB,BEq.rfl,Int.reduceEq,Int.reduceLT,Int.reduceLE,Nat.reduceEqDiff]))
   exact hK.sub
  rw [if_neg c1] at hK
  by_cases c2:x.state=2
  ·rw [if_pos c2] at hK
   refine gf (an (eq_true hf) (an (eq_true c2) (an c0 c1))) ?_
   exact hK.sub
  rw [if_neg c2] at hK
  by_cases c3:x.state=3
  ·rw [if_pos c3] at hK
   repeat' (first | (with_reducible refine G.joini0 ?_) | (with_reducible refine G.joini1 ?_) | (with_reducible refine G.drew ?_) | (simp (maxSteps:=2000000) only [↓RG,RP,RB,BEq.rfl,Int.reduceEq,Int.reduceLT,Int.reduceLE,Nat.reduceEqDiff,eq_true hf,eq_true c3,c0,c1,c2]))
   exact hK.sub
  rw [if_neg c3] at hK
  by_cases c4:x.state=4
  ·rw [if_pos c4] at hK
   have hp:=(g4 c4).2
   have e:=cW hp
   have hg:x.seen.getD x.pos ⟨0,0⟩=x.seen[x.pos]:=by simp [hp]
   rw [hg] at hK
   repeat' (first | (with_reducible refine G.joini0 ?_) | (with_reducible refine G.joini1 ?_) | (with_reducible refine G.drew ?_) | (simp (maxSteps:=2000000) only [↓RG,RP,RB,BEq.rfl,Int.reduceEq,Int.reduceLT,Int.reduceLE,Nat.reduceEqDiff,eq_true hf,eq_true c4,c0,c1,c2,c3]))
   exact hK.sub
  rw [if_neg c4] at hK
  by_cases c5:x.state=5
  ·rw [if_pos c5] at hK
   have hp:=(g5 c5).2
   have e:=cW hp
   have hg:x.cells.getD x.pos ⟨0,0⟩=x.cells[x.pos]:=by simp [hp]
   rw [hg] at hK
   repeat' (first | (with_reducible refine G.joini0 ?_) | (with_reducible refine G.joini1 ?_) | (with_reducible refine G.drew ?_) | (simp (maxSteps:=2000000) only [↓RG,RP,RB,BEq.rfl,Int.reduceEq,Int.reduceLT,Int.reduceLE,Nat.reduceEqDiff,eq_true hf,eq_true c5,c0,c1,c2,c3,c4]))
   exact hK.sub
  rw [if_neg c5] at hK
  by_cases c6:x.state=6
  ·rw [if_pos c6] at hK
   have hp:=(g6 c6).2
   have e:=cW hp
   have hg:x.stripes.getD x.pos 0=x.stripes[x.pos]:=by simp [hp]
   rw [hg] at hK
   repeat' (first | (with_reducible refine G.joini0 ?_) | (with_reducible refine G.joini1 ?_) | (with_reducible refine G.drew ?_) | (simp (maxSteps:=2000000) only [↓RG,RP,RB,BEq.rfl,Int.reduceEq,Int.reduceLT,Int.reduceLE,Nat.reduceEqDiff,eq_true hf,eq_true c6,c0,c1,c2,c3,c4,c5]))
   exact hK.sub
  rw [if_neg c6] at hK
  have c7:x.state=7:=by omega
  have hp:=(g7 c7).1
  have hp2:x.pos<x.stripes.length:=by omega
  have e:=cW hp
  have e2:=cW hp2
  have hg:x.stripes.getD x.pos 0=x.stripes[x.pos]:=by simp [hp2]
  have hg2:x.was.getD x.pos ai=x.was[x.pos]:=by simp [hp]
  rw [hg,hg2] at hK
  repeat' (first | (with_reducible refine G.joini0 ?_) | (with_reducible refine G.joini1 ?_) | (with_reducible refine G.drew ?_) | (simp (maxSteps:=2000000) only [↓RG,RP,RB,BEq.rfl,Int.reduceEq,Int.reduceLT,Int.reduceLE,Nat.reduceEqDiff,eq_true hf,eq_true c7,c0,c1,c2,c3,c4,c5,c6]))
  exact hK.sub
 ·rw [if_neg hf] at hK
  refine gf hf ?_
  exact hK.sub
theorem JQ {me sp stamp n wide:Int}{u v:Value}{seen:List fu}{cells:List aw}[r1:Rd w0 L u fM 2 seen][r2:Rd w0 L v bd 2 cells](h1:seen.length≤100000)(h2:cells.length≤100000)
  (hK:∀b,G w0 (ob gX b (mW me sp stamp seen cells (fm (dr cells n wide) 16))::L) (K (ptr b 0))):G w0 L (CP Tryz.prog abk [i64 me,i64 sp,u64 stamp,u,v,i64 n,i64 wide] K):=by
 refine JI ?_
 unfold BK
 refine qg ?_
 refine fa (xs:=seen) (by omega) fun v1 hv1=>?_
 refine dV (xs:=cells) (by omega) fun v2 hv2=>?_
 refine DJ (cs:=cells) (by omega) fun v3 hv3=>?_
 rw [F9]
 refine gz ?_
 refine G.box fun b=>?_
 have h:=oG (L:=ob gX b ⟨mE me sp,me,stamp,seen,cells,fm (dr cells n wide) 16,[],0,0,ai,0,false,0,0,0⟩::L) (C:=fun A=>A::L) (K:=fun _=>K (ptr b 0)) (b:=b) (x:=⟨mE me sp,me,stamp,seen,cells,fm (dr cells n wide) 16,[],0,0,ai,0,false,0,0,0⟩) (hK b)
 rw [cu] at h
 have h:=h v1 v2 v3 (.slice none 0 0) ⟨hv1,hv2,hv3,bf⟩
 refine G.nilsl lw ?_
 refine G.pickAll (As:=[own b [i64 (mE me sp).me,i64 (mE me sp).spins,i64 (mE me sp).fin,i64 (mE me sp).by_,i64 (mE me sp).err,i64 me,u64 stamp,v1,v2,v3,.slice none 0 0,i64 0,i64 0,u64 0,.bool false,i64 0,u64 0,.bool false,i64 0,i64 0,i64 0],sl fM v1 seen,sl bd v2 cells,sl cd v3 (fm (dr cells n wide) 16),sl lw (.slice none 0 0) []]) ?_
 exact h
theorem QU {me sp stamp n wide:Int}{seen:List fu}{cells:List aw}(h1:seen.length≤100000)(h2:cells.length≤100000):ic (mW me sp stamp seen cells (fm (dr cells n wide) 16)):=by
 have hml:(fm (dr cells n wide) 16).length≤16:=by
  unfold fm
  rw [List.length_map]
  exact Nat.le_trans (List.length_filter_le _ _) (by simp)
 exact Fv ⟨zk,hml,Nat.zero_le _,by simp only;omega,by simp only;omega⟩ rfl
end
end Go.Proofs.YtoealglbimbbmaaGreatDoor.S
