import Derived.Test.YtoealglbimbbmaaGreatDoorExtend
import Derived.Test.YtoealglbimbbmaaGreatDoorWritesStr
namespace Go.Proofs.YtoealglbimbbmaaGreatDoor.S
open Go Go.Proofs
set_option linter.unusedVariables false
set_option linter.unusedSimpArgs false
structure eK where
 pat:n8
 me:Int
 stamp:Int
 seen:List fS
 cells:List au
 stripes:List Int
 was:List cw
 state:Int
 pos:Nat
 lock:cw
 now:Int
 writing:Bool
 fin:Int
 by_:Int
 err:Int
def tQ:List Int→Int→Option Nat
 | [],_=>none
 | s::l,a=>if s=a then some 0 else (tQ l a).map (·+1)
theorem xY {a:Int}:∀{l:List Int}{k:Nat},tQ l a=some k→l[k]? = some a
 | [],k,h=>by cases h
 | s::l,k,h=>by
  unfold tQ at h
  split at h
  ·rename_i e;cases h;simp [e]
  ·cases hi:tQ l a with
   | none=>rw [hi] at h;cases h
   | some j=>rw [hi] at h;cases h;simpa using xY hi
theorem Cv {a:Int}:∀{l:List Int},tQ l a=none↔a ∉ l
 | []=>by simp [tQ]
 | s::l=>by
  unfold tQ
  split
  ·rename_i e;simp [e]
  ·rename_i e
   have:=Cv (a:=a) (l:=l)
   simp only [Option.map_eq_none_iff,this,List.mem_cons,not_or]
   exact⟨fun h=>⟨fun g=>e g.symm,h⟩,fun h=>h.2⟩
theorem RQ {a:Int}{l:List Int}{k:Nat}(h:tQ l a=some k):k<l.length:=(List.getElem?_eq_some_iff.1 (xY h)).1
theorem Ku {a:Int}{l:List Int}{k:Nat}(hr:l.Pairwise (·<·))(h:l[k]? = some a):tQ l a=some k:=by
 cases hi:tQ l a with
 | none=>exact absurd (List.mem_of_getElem? h) (Cv.1 hi)
 | some j =>
  have e:=xY hi
  obtain⟨h1,e1⟩:=List.getElem?_eq_some_iff.1 h
  obtain⟨h2,e2⟩:=List.getElem?_eq_some_iff.1 e
  rcases Nat.lt_trichotomy j k with g | g | g
  ·have:=List.pairwise_iff_getElem.1 hr j k h2 h1 g;omega
  ·rw [g]
  ·have:=List.pairwise_iff_getElem.1 hr k j h1 h2 g;omega
def iV (x:eK):eK:={ x with state:=if x.was.length=x.stripes.length then 2 else 0 }
def iy (x:eK):eK:=if x.pos=x.was.length then { x with pat:=x.pat.stop x.fin x.err x.by_ } else x
def gw (x:eK)(e er b:Int):eK:=iy { x with fin:=e,err:=er,by_:=b,pos:=0,state:=7 }
def jl (x:eK)(l:cw):eK:=if (x.pat.waits l.owner).2=true then { x with pat:=(x.pat.waits l.owner).1 } else gw { x with pat:=(x.pat.waits l.owner).1 } 5 0 l.owner
def jj (x:eK):eK:=if x.pos=x.stripes.length then { x with pat:=x.pat.stop 2 0 (-1) } else x
def jA (x:eK):eK:=if x.pos=x.cells.length then jj { x with pos:=0,state:=6 } else x
def pb (x:eK):eK:=jA { x with writing:=true,pos:=0,state:=5 }
def RW (x:eK)(s:Int):Option Int:=(tQ x.stripes s).map fun i=>(x.was.getD i ah).version
def kR:Nat→eK→eK
 | 0,x=>pb x
 | n+1,x=>match RW x (x.seen.getD x.pos ⟨0,0⟩).stripe with
  | none=>x
  | some v=>if v=(x.seen.getD x.pos ⟨0,0⟩).version then kR n { x with pos:=x.pos+1 } else gw x 5 0 (-1)
def oZ (x:eK):eK:=kR (x.seen.length-x.pos) { x with state:=4 }
def lw (x:eK)(l:cw):eK :=
 if l.held=true then jl x l else if l.version=(x.seen.getD x.pos ⟨0,0⟩).version then oZ { x with pos:=x.pos+1 } else gw x 5 0 (-1)
def p8 (x:eK)(a:fG):eK :=
 if x.state=0 then (if a.lock.held=true then jl x a.lock else { x with lock:=a.lock,state:=1 })
 else if a.done=true then iV { x with was:=x.was++[x.lock] } else { x with state:=0 }
def lY (x:eK)(a:fG):eK :=
 if x.state=2 then (if 4611686018427387903≤a.word then gw x 4 7 (-1) else { x with now:=a.word,state:=3 })
 else if a.done=false then { x with state:=2 } else if x.now=x.stamp then pb x else oZ x
def cy (x:eK)(a:fG):eK :=
 if (x.pat.stopped a.err).fin=0 then
  (if x.state=0∨x.state=1 then p8 x a
   else if x.state=2∨x.state=3 then lY x a
   else if x.state=4 then lw x a.lock
   else if x.state=5 then jA { x with pos:=x.pos+1 }
   else if x.state=6 then jj { x with pos:=x.pos+1 }
   else iy { x with pos:=x.pos+1 })
 else { x with pat:=x.pat.stopped a.err }
def nv (me sp stamp:Int)(seen:List fS)(cells:List au)(stripes:List Int):eK :=
 iV ⟨nI me sp,me,stamp,seen,cells,stripes,[],0,0,ah,0,false,0,0,0⟩
def bi (x:eK):rq×Bool :=
 if x.pat.fin=0 then
  ((if x.state=0 then ⟨3,x.stripes.getD x.was.length 0,0,0,ah,ah⟩
   else if x.state=1 then ⟨4,x.stripes.getD x.was.length 0,0,0,x.lock,⟨x.lock.version,true,x.me⟩⟩
   else if x.state=2 then ⟨6,0,0,0,ah,ah⟩
   else if x.state=3 then ⟨7,0,x.now,IntKind.wrap .u64 (x.now+1),ah,ah⟩
   else if x.state=4 then ⟨3,(x.seen.getD x.pos ⟨0,0⟩).stripe,0,0,ah,ah⟩
   else if x.state=5 then ⟨2,(x.cells.getD x.pos ⟨0,0⟩).place,0,(x.cells.getD x.pos ⟨0,0⟩).word,ah,ah⟩
   else if x.state=6 then ⟨5,x.stripes.getD x.pos 0,0,0,ah,⟨IntKind.wrap .u64 (x.now+1),false,0⟩⟩
   else ⟨5,x.stripes.getD x.pos 0,0,0,ah,x.was.getD x.pos ah⟩),true)
 else (zx,false)
structure gM (x:eK):Prop where
 rising:x.stripes.Pairwise (·<·)
 few:x.stripes.length≤16
 was:x.was.length≤x.stripes.length
 seen:x.seen.length≤1000000
 cells:x.cells.length≤1000000
structure iI (x:eK):Prop where
 len:gM x
 st:0≤x.state∧x.state≤7
 pos:x.pos≤1000000
 here:x.pat.fin=0 →
  ((x.state=0∨x.state=1)→x.was.length<x.stripes.length∧x.pos=0)∧((x.state=2∨x.state=3)→x.was.length=x.stripes.length∧x.pos=0) ∧
  (x.state=4→x.was.length=x.stripes.length∧x.pos<x.seen.length)∧(x.state=5→x.was.length=x.stripes.length∧x.pos<x.cells.length) ∧
  (x.state=6→x.was.length=x.stripes.length∧x.pos<x.stripes.length)∧(x.state=7→x.pos<x.was.length∧x.fin≠0)
theorem gM.eqs {x y:eK}(h:gM x)(h1:y.stripes=x.stripes)(h2:y.was=x.was)(h3:y.seen=x.seen)(h4:y.cells=x.cells):gM y :=
 ⟨by rw [h1];exact h.rising,by rw [h1];exact h.few,by rw [h1,h2];exact h.was,by rw [h3];exact h.seen,by rw [h4];exact h.cells⟩
theorem Dd {x:eK}(h:gM x)(hs:x.state=7)(hp:x.pos≤x.was.length)(hf:x.fin≠0):iI (iy x):=by
 have h1:=h.was
 have h2:=h.few
 unfold iy
 split
 ·exact⟨h.eqs rfl rfl rfl rfl,by simp [hs],by simp only;omega,fun g=>absurd g hf⟩
 ·exact⟨h,by omega,by omega,fun _=>⟨by omega,by omega,by omega,by omega,by omega,by omega⟩⟩
theorem nD {x:eK}(h:gM x){e er b:Int}(he:e≠0):iI (gw x e er b):=Dd (h.eqs rfl rfl rfl rfl) rfl (Nat.zero_le _) he
theorem Fs {x:eK}(h:iI x)(hf:x.pat.fin=0)(l:cw):iI (jl x l):=by
 have hw:(x.pat.waits l.owner).1.fin=x.pat.fin:=by unfold n8.waits;split <;> rfl
 unfold jl
 split
 ·exact⟨h.len.eqs rfl rfl rfl rfl,h.st,h.pos,fun _=>h.here hf⟩
 ·exact nD (x:={ x with pat:=(x.pat.waits l.owner).1 }) (e:=5) (h.len.eqs rfl rfl rfl rfl) (by decide)
theorem Eo {x:eK}(h:gM x)(hs:x.state=6)(hp:x.pos≤x.stripes.length)(hw:x.was.length=x.stripes.length):iI (jj x):=by
 have h2:=h.few
 unfold jj
 split
 ·exact⟨h.eqs rfl rfl rfl rfl,by simp [hs],by simp only;omega,fun g=>by simp [n8.stop] at g⟩
 ·exact⟨h,by omega,by omega,fun _=>⟨by omega,by omega,by omega,by omega,by omega,by omega⟩⟩
theorem CZ {x:eK}(h:gM x)(hs:x.state=5)(hp:x.pos≤x.cells.length)(hw:x.was.length=x.stripes.length):iI (jA x):=by
 have h2:=h.cells
 unfold jA
 split
 ·exact Eo (h.eqs rfl rfl rfl rfl) rfl (Nat.zero_le _) hw
 ·exact⟨h,by omega,by omega,fun _=>⟨by omega,by omega,by omega,by omega,by omega,by omega⟩⟩
theorem CY {x:eK}(h:gM x)(hw:x.was.length=x.stripes.length):iI (pb x):=CZ (h.eqs rfl rfl rfl rfl) rfl (Nat.zero_le _) hw
theorem xO:∀{n:Nat}{x:eK},gM x→x.state=4→x.was.length=x.stripes.length→x.seen.length=x.pos+n→iI (kR n x)
 | 0,x,h,hs,hw,hn=>CY h hw
 | n+1,x,h,hs,hw,hn=>by
  have h2:=h.seen
  unfold kR
  split
  ·exact⟨h,by omega,by omega,fun _=>⟨by omega,by omega,by omega,by omega,by omega,by omega⟩⟩
  ·split
   ·exact xO (h.eqs rfl rfl rfl rfl) hs hw (by simp only;omega)
   ·exact nD (e:=5) h (by decide)
theorem Dm {x:eK}(h:gM x)(hw:x.was.length=x.stripes.length)(hp:x.pos≤x.seen.length):iI (oZ x):=xO (h.eqs rfl rfl rfl rfl) rfl hw (by simp only;omega)
theorem EH {x:eK}(h:gM x)(hp:x.pos=0):iI (iV x):=by
 have h1:=h.was
 unfold iV
 refine⟨h.eqs rfl rfl rfl rfl,by simp only;split <;> omega,by simp only;omega,fun _=>?_⟩
 simp only
 split <;> exact⟨by omega,by omega,by omega,by omega,by omega,by omega⟩
theorem iX {x:eK}(h:iI x)(a:fG):iI (cy x a):=by
 have hp:=h.pos
 unfold cy
 split
 ·rename_i hs
  have hpe:x.pat.stopped a.err=x.pat:=by
   unfold n8.stopped at hs ⊢;split
   ·rename_i h;rw [if_pos h] at hs;simp [n8.stop] at hs
   ·rfl
  rw [hpe] at hs
  obtain⟨g01,g23,g4,g5,g6,g7⟩:=h.here hs
  split
  ·rename_i c
   have g:=g01 c
   unfold p8
   split
   ·split
    ·exact Fs h hs _
    ·exact⟨h.len.eqs rfl rfl rfl rfl,by simp,by simp only;omega,fun _=>⟨by simp only;omega,by simp only;omega,by simp only;omega,by simp only;omega,by simp only;omega,by simp only;omega⟩⟩
   ·split
    ·exact EH ⟨h.len.rising,h.len.few,by simp;omega,h.len.seen,h.len.cells⟩ g.2
    ·exact⟨h.len.eqs rfl rfl rfl rfl,by simp,by simp only;omega,fun _=>⟨by simp only;omega,by simp only;omega,by simp only;omega,by simp only;omega,by simp only;omega,by simp only;omega⟩⟩
  split
  ·rename_i c
   have g:=g23 c
   unfold lY
   split
   ·split
    ·exact nD (e:=4) h.len (by decide)
    ·exact⟨h.len.eqs rfl rfl rfl rfl,by simp,by simp only;omega,fun _=>⟨by simp only;omega,by simp only;omega,by simp only;omega,by simp only;omega,by simp only;omega,by simp only;omega⟩⟩
   ·split
    ·exact⟨h.len.eqs rfl rfl rfl rfl,by simp,by simp only;omega,fun _=>⟨by simp only;omega,by simp only;omega,by simp only;omega,by simp only;omega,by simp only;omega,by simp only;omega⟩⟩
    ·split
     ·exact CY h.len g.1
     ·exact Dm h.len g.1 (by omega)
  split
  ·rename_i c
   have g:=g4 c
   unfold lw
   split
   ·exact Fs h hs _
   ·split
    ·exact Dm (h.len.eqs rfl rfl rfl rfl) g.1 (by simp only;omega)
    ·exact nD (e:=5) h.len (by decide)
  split
  ·rename_i c
   have g:=g5 c
   exact CZ (h.len.eqs rfl rfl rfl rfl) c (by simp only;omega) g.1
  split
  ·rename_i c
   have g:=g6 c
   exact Eo (h.len.eqs rfl rfl rfl rfl) c (by simp only;omega) g.1
  ·have c:x.state=7:=by have:=h.st;omega
   have g:=g7 c
   exact Dd (h.len.eqs rfl rfl rfl rfl) c (by simp only;omega) g.2
 ·rename_i hs
  exact⟨h.len.eqs rfl rfl rfl rfl,h.st,h.pos,fun g=>absurd g hs⟩
end Go.Proofs.YtoealglbimbbmaaGreatDoor.S
namespace Go.Proofs.YtoealglbimbbmaaGreatDoor.S
open Go Go.Proofs
set_option linter.unusedVariables false
set_option linter.unusedSimpArgs false
abbrev eK.rest (x:eK)(v1 v2 v3 v4:Value):List Value:=[i64 x.me,u64 x.stamp,v1,v2,v3,v4,i64 x.state,i64 x.pos,u64 x.lock.version,.bool x.lock.held,i64 x.lock.owner,u64 x.now,.bool x.writing,i64 x.fin,i64 x.by_,i64 x.err]
abbrev Mf (v1 v2 v3 v4:Value):Prop:=ar v1 [v1]∧ar v2 [v2]∧ar v3 [v3]∧ar v4 [v4]
def iF (b:Nat)(x:eK):ay:=m3 fun v1=>m3 fun v2=>m3 fun v3=>m3 fun v4=>bk (ic (Mf v1 v2 v3 v4)) (bk (bk (bk (bk (own b (x.pat.cells (x.rest v1 v2 v3 v4))) (sl gm v1 x.seen)) (sl bf v2 x.cells)) (sl bg v3 x.stripes)) (sl lN v4 x.was))
section
variable {w0:bh}{L M:List ay}{K:KV}{F:World→Prop}{C:ay→List ay}{b:Nat}{x:eK}
theorem bz:G w0 (ob iF b x::M) F=∀v1 v2 v3 v4,Mf v1 v2 v3 v4→G w0 (own b (x.pat.cells (x.rest v1 v2 v3 v4))::sl gm v1 x.seen::sl bf v2 x.cells::sl bg v3 x.stripes::sl lN v4 x.was::M) F:=by
 rw [eZ,iF]
 simp only [qr,fb,fU]
theorem db {v1 v2 v3 v4:Value}(b:Nat)(x:eK) [ez [own b (x.pat.cells (x.rest v1 v2 v3 v4)),sl gm v1 x.seen,sl bf v2 x.cells,sl bg v3 x.stripes,sl lN v4 x.was] L M]
  (h:Mf v1 v2 v3 v4) (H:G w0 (ob iF b x::M) F):G w0 L F :=
 G.pickAll (As:=[own b (x.pat.cells (x.rest v1 v2 v3 v4)),sl gm v1 x.seen,sl bf v2 x.cells,sl bg v3 x.stripes,sl lN v4 x.was]) (by rw [bz] at H;exact H v1 v2 v3 v4 h)
theorem LF {t:Bool}{A B:World→Prop}(h:t=true):G w0 L (ae (.bool t) A B)=G w0 L A:=by rw [h,IV]
theorem La {t:Bool}{A B:World→Prop}(h:t=false):G w0 L (ae (.bool t) A B)=G w0 L B:=by rw [h,Iq]
theorem Mr {t:Bool}{A B:World→Prop}(h:t=true):G w0 L (ae (.bool (!t)) A B)=G w0 L B:=by rw [h];exact congrArg _ Iq
theorem R2 {t:Bool}{A B:World→Prop}(h:t=false):G w0 L (ae (.bool (!t)) A B)=G w0 L A:=by rw [h];exact congrArg _ IV
theorem m7 [i:aq L iF b x C](hK:G w0 (C (ob iF b (iy x))) (K (.tuple #[]))):G w0 L (CP Tryz.prog Fn.commit_Commit_leave [ptr b 0] K):=by
 refine i.use (fun M hK=>?_) hK
 refine uT ?_
 unfold mD
 rw [bz]
 rintro v1 v2 v3 v4 ⟨h1,h2,h3,h4⟩
 refine G.drew ?_
 try simp (maxSteps:=2000000) only [↓RG,RB,BEq.rfl,Int.reduceEq,Int.reduceLT,Int.reduceLE,Nat.reduceEqDiff]
 refine G.joini0 ?_
 unfold iy at hK
 refine G.cond (fun h=>?_) (fun h=>?_)
 ·rw [if_pos (by simp at h;omega),bz] at hK
  refine G.drew ?_
  try simp (maxSteps:=2000000) only [↓RG,RB,BEq.rfl,Int.reduceEq,Int.reduceLT,Int.reduceLE,Nat.reduceEqDiff]
  refine cv (p:=x.pat) (rest:=x.rest v1 v2 v3 v4) ?_
  try simp (maxSteps:=2000000) only [↓RG,RB,BEq.rfl,Int.reduceEq,Int.reduceLT,Int.reduceLE,Nat.reduceEqDiff]
  exact(hK v1 v2 v3 v4 ⟨h1,h2,h3,h4⟩).sub
 ·rw [if_neg (by simp at h;omega),bz] at hK
  exact(hK v1 v2 v3 v4 ⟨h1,h2,h3,h4⟩).sub
theorem gZ {e er by_:Int}[i:aq L iF b x C](hK:G w0 (C (ob iF b (gw x e er by_))) (K (.tuple #[]))):G w0 L (CP Tryz.prog Fn.commit_Commit_stop [ptr b 0,i64 e,i64 er,i64 by_] K):=by
 refine i.use (fun M hK=>?_) hK
 refine wL ?_
 unfold oo
 rw [bz]
 rintro v1 v2 v3 v4 ⟨h1,h2,h3,h4⟩
 try simp (maxSteps:=2000000) only [↓RG,RB,BEq.rfl,Int.reduceEq,Int.reduceLT,Int.reduceLE,Nat.reduceEqDiff]
 refine db b { x with fin:=e,err:=er,by_:=by_,pos:=0,state:=7 } ⟨h1,h2,h3,h4⟩ ?_
 refine m7 (x:={ x with fin:=e,err:=er,by_:=by_,pos:=0,state:=7 }) ?_
 exact hK
theorem nY {l:cw}[i:aq L iF b x C](hK:G w0 (C (ob iF b (jl x l))) (K (.tuple #[]))):G w0 L (CP Tryz.prog Fn.commit_Commit_held [ptr b 0,.agg (cw.cells l).toArray] K):=by
 refine i.use (fun M hK=>?_) hK
 refine wC ?_
 unfold oO
 refine G.box fun q=>?_
 rw [fA,bz]
 rintro v1 v2 v3 v4 ⟨h1,h2,h3,h4⟩
 refine G.drew ?_
 try simp (maxSteps:=2000000) only [↓RG,RB,BEq.rfl,Int.reduceEq,Int.reduceLT,Int.reduceLE,Nat.reduceEqDiff]
 refine gQ (p:=x.pat) (x:=l) (rest:=x.rest v1 v2 v3 v4) ?_
 try simp (maxSteps:=2000000) only [↓RG,RB,BEq.rfl,Int.reduceEq,Int.reduceLT,Int.reduceLE,Nat.reduceEqDiff]
 refine G.joini0 ?_
 unfold jl at hK
 cases hw:(x.pat.waits l.owner).2
 ·rw [if_neg (by rw [hw];decide)] at hK
  try simp (maxSteps:=2000000) only [↓RG,RB,BEq.rfl,Int.reduceEq,Int.reduceLT,Int.reduceLE,Nat.reduceEqDiff]
  refine db b { x with pat:=(x.pat.waits l.owner).1 } ⟨h1,h2,h3,h4⟩ ?_
  refine gZ (x:={ x with pat:=(x.pat.waits l.owner).1 }) ?_
  exact hK.sub
 ·rw [if_pos hw,bz] at hK
  try simp (maxSteps:=2000000) only [↓RG,RB,BEq.rfl,Int.reduceEq,Int.reduceLT,Int.reduceLE,Nat.reduceEqDiff]
  exact(hK v1 v2 v3 v4 ⟨h1,h2,h3,h4⟩).sub
theorem oG [i:aq L iF b x C](hK:G w0 (C (ob iF b (jj x))) (K (.tuple #[]))):G w0 L (CP Tryz.prog Fn.commit_Commit_give [ptr b 0] K):=by
 refine i.use (fun M hK=>?_) hK
 refine wK ?_
 unfold oF
 rw [bz]
 rintro v1 v2 v3 v4 ⟨h1,h2,h3,h4⟩
 refine G.drew ?_
 try simp (maxSteps:=2000000) only [↓RG,RB,BEq.rfl,Int.reduceEq,Int.reduceLT,Int.reduceLE,Nat.reduceEqDiff]
 refine G.joini0 ?_
 unfold jj at hK
 refine G.cond (fun h=>?_) (fun h=>?_)
 ·rw [if_pos (by simp at h;omega),bz] at hK
  try simp (maxSteps:=2000000) only [↓RG,RB,BEq.rfl,Int.reduceEq,Int.reduceLT,Int.reduceLE,Nat.reduceEqDiff]
  refine cv (p:=x.pat) (rest:=x.rest v1 v2 v3 v4) ?_
  exact(hK v1 v2 v3 v4 ⟨h1,h2,h3,h4⟩).sub
 ·rw [if_neg (by simp at h;omega),bz] at hK
  exact(hK v1 v2 v3 v4 ⟨h1,h2,h3,h4⟩).sub
theorem m6 [i:aq L iF b x C](hK:G w0 (C (ob iF b (jA x))) (K (.tuple #[]))):G w0 L (CP Tryz.prog Fn.commit_Commit_write [ptr b 0] K):=by
 refine i.use (fun M hK=>?_) hK
 refine uI ?_
 unfold mz
 rw [bz]
 rintro v1 v2 v3 v4 ⟨h1,h2,h3,h4⟩
 refine G.drew ?_
 try simp (maxSteps:=2000000) only [↓RG,RB,BEq.rfl,Int.reduceEq,Int.reduceLT,Int.reduceLE,Nat.reduceEqDiff]
 refine G.joini0 ?_
 unfold jA at hK
 refine G.cond (fun h=>?_) (fun h=>?_)
 ·rw [if_pos (by simp at h;omega)] at hK
  try simp (maxSteps:=2000000) only [↓RG,RB,BEq.rfl,Int.reduceEq,Int.reduceLT,Int.reduceLE,Nat.reduceEqDiff]
  refine db b { x with pos:=0,state:=6 } ⟨h1,h2,h3,h4⟩ ?_
  exact oG (x:={ x with pos:=0,state:=6 }) hK
 ·rw [if_neg (by simp at h;omega),bz] at hK
  exact(hK v1 v2 v3 v4 ⟨h1,h2,h3,h4⟩).sub
theorem mT [i:aq L iF b x C](hK:G w0 (C (ob iF b (pb x))) (K (.tuple #[]))):G w0 L (CP Tryz.prog Fn.commit_Commit_begin [ptr b 0] K):=by
 refine i.use (fun M hK=>?_) hK
 refine uY ?_
 unfold mY
 rw [bz]
 rintro v1 v2 v3 v4 ⟨h1,h2,h3,h4⟩
 try simp (maxSteps:=2000000) only [↓RG,RB,BEq.rfl,Int.reduceEq,Int.reduceLT,Int.reduceLE,Nat.reduceEqDiff]
 refine db b { x with writing:=true,pos:=0,state:=5 } ⟨h1,h2,h3,h4⟩ ?_
 exact m6 (x:={ x with writing:=true,pos:=0,state:=5 }) hK
theorem nZ [i:aq L iF b x C](hK:G w0 (C (ob iF b (iV x))) (K (.tuple #[]))):G w0 L (CP Tryz.prog Fn.commit_Commit_more [ptr b 0] K):=by
 refine i.use (fun M hK=>?_) hK
 refine xo ?_
 unfold o9
 rw [bz]
 rintro v1 v2 v3 v4 ⟨h1,h2,h3,h4⟩
 try simp (maxSteps:=2000000) only [↓RG,RB,BEq.rfl,Int.reduceEq,Int.reduceLT,Int.reduceLE,Nat.reduceEqDiff]
 refine G.drew ?_
 try simp (maxSteps:=2000000) only [↓RG,RB,BEq.rfl,Int.reduceEq,Int.reduceLT,Int.reduceLE,Nat.reduceEqDiff]
 refine G.joini0 ?_
 unfold iV at hK
 refine G.cond (fun h=>?_) (fun h=>?_)
 ·rw [if_pos (by simp at h;omega),bz] at hK
  try simp (maxSteps:=2000000) only [↓RG,RB,BEq.rfl,Int.reduceEq,Int.reduceLT,Int.reduceLE,Nat.reduceEqDiff]
  exact(hK v1 v2 v3 v4 ⟨h1,h2,h3,h4⟩).sub
 ·rw [if_neg (by simp at h;omega),bz] at hK
  exact(hK v1 v2 v3 v4 ⟨h1,h2,h3,h4⟩).sub
theorem FK {m n:Int}(hK:G w0 L (K (.bool (decide (m<n))))):G w0 L (CP Tryz.prog Fn.cmp_Less_int [i64 m,i64 n] K):=by
 refine FP ?_
 unfold xf
 refine gu ?_
 refine DL ?_
 unfold uD
 refine gr ?_
 exact hK
def kT:List Int→Int→Nat
 | [],_=>0
 | s::l,a=>if s<a then kT l a+1 else 0
theorem IF {a:Int}:∀{l:List Int},kT l a≤l.length
 | []=>by simp [kT]
 | s::l=>by unfold kT;have:=IF (a:=a) (l:=l);simp only [List.length_cons];split <;> omega
theorem Is {a:Int}:∀{l:List Int},(∀j (h:j<l.length),j<kT l a→l[j]<a)∧(∀h:kT l a<l.length,a≤l[kT l a])
 | []=>⟨fun j h=>by simp at h,fun h=>by simp at h⟩
 | s::l=>by
  have ih:=Is (a:=a) (l:=l)
  constructor
  ·intro j h hj
   unfold kT at hj
   split at hj
   ·rename_i hs
    cases j with
    | zero=>simpa using hs
    | succ j=>simpa using ih.1 j (by simpa using h) (by omega)
   ·omega
  ·intro h
   unfold kT at h
   by_cases hs:s<a
   ·have e:kT (s::l) a=kT l a+1:=by simp [kT,hs]
    simp only [e]
    rw [if_pos hs] at h
    simpa using ih.2 (by simpa using h)
   ·have e:kT (s::l) a=0:=by simp [kT,hs]
    simp only [e]
    simpa using (by omega:a≤s)
theorem N0 {a:Int}{l:List Int}{i:Nat}(hi:i≤l.length)(h1:∀j (h:j<l.length),j<i→l[j]<a)(h2:∀h:i<l.length,a≤l[i]):kT l a=i:=by
 have ⟨g1,g2⟩:=Is (a:=a) (l:=l)
 have g0:=IF (a:=a) (l:=l)
 rcases Nat.lt_trichotomy (kT l a) i with h | h | h
 ·have:=h1 _ (by omega) h;have:=g2 (by omega);omega
 ·exact h
 ·have:=g1 i (by omega) h;have:=h2 (by omega);omega
theorem JR {a:Int}{l:List Int}(hr:l.Pairwise (·<·)):(∀h:kT l a<l.length,l[kT l a]=a→tQ l a=some (kT l a))∧((kT l a<l.length→l[kT l a]?≠some a)→tQ l a=none):=by
 have ⟨g1,g2⟩:=Is (a:=a) (l:=l)
 refine⟨fun h e=>Ku hr (by rw [List.getElem?_eq_getElem h,e]),fun h=>?_⟩
 rw [Cv]
 intro hm
 obtain⟨j,hj,e⟩:=List.getElem_of_mem hm
 have hle:kT l a≤j:=by
  rcases Nat.lt_or_ge j (kT l a) with g | g
  ·have:=g1 j hj g;omega
  ·exact g
 have hlt:kT l a<l.length:=by omega
 have h3:=h hlt
 rw [List.getElem?_eq_getElem hlt] at h3
 have h4:=g2 hlt
 rcases Nat.lt_or_ge (kT l a) j with g | g
 ·have:=List.pairwise_iff_getElem.1 hr _ j hlt hj g;omega
 ·have:kT l a=j:=by omega
  exact h3 (by simp only [this,e])
theorem UD (i j:Nat)(h:i≤j)(hj:j≤1000000):IntKind.wrap .i64 ((IntKind.wrap .u64 (IntKind.wrap .i64 ((i:Int)+j))).fdiv (2 ^ min (1:Int).toNat IntKind.u64.bits))=(((i+j) / 2:Nat):Int):=by
 rw [iA (n:=(i:Int)+j) (by omega) (by omega),Qt (by omega) (by omega)]
 have:(2:Int) ^ min (1:Int).toNat IntKind.u64.bits=2:=by decide
 rw [this,Int.fdiv_eq_ediv_of_nonneg _ (by decide),iA (by omega) (by omega)]
 omega
theorem q7 {v:Value}{l:List Int}{a:Int}[r:Rd w0 L v bg 1 l](hr:l.Pairwise (·<·))(hl:l.length≤1000000)
  (hK:G w0 L (K (.tuple #[i64 (kT l a),.bool (tQ l a).isSome]))):G w0 L (CP Tryz.prog Fn.slices_BinarySearch_int_int [v,i64 a] K):=by
 refine ox ?_
 unfold iH
 refine gu ?_
 refine gr ?_
 refine G.loop2 (σ:=Nat×Nat) (fun z=>i64 z.1) (fun z=>i64 z.2) (fun _=>L) (fun z=>z.1≤z.2∧z.2≤l.length∧(∀j (h:j<l.length),j<z.1→l[j]<a)∧(∀j (h:j<l.length),z.2≤j→a≤l[j])) (fun z=>z.2-z.1) (0,l.length) rfl rfl rfl ⟨by simp,by simp,fun j h hj=>by simp at hj,fun j h hj=>by simp only at hj;omega⟩ ?_
 rintro⟨i,j⟩ ⟨hij,hjl,p1,p2⟩ J hJ
 simp only at hij hjl p1 p2 hJ ⊢
 refine gr ?_
 refine G.cond (fun h=>?_) (fun h=>?_)
 ·have hlt:i<j:=by simpa using h
  have hm:(i+j) / 2<l.length:=by omega
  have e:=ct hm
  rw [UD i j hij (by omega)]
  refine gr ?_
  refine FK ?_
  refine G.joini2 ?_
  refine G.cond (fun h2=>?_) (fun h2=>?_)
  ·have h3:l[(i+j) / 2]<a:=by simpa using h2
   refine gr ?_
   rw [di (by omega)]
   exact hJ ((i+j) / 2+1,j) ⟨by simp only;omega,hjl,fun k hk hk2=>by
    rcases Nat.lt_or_ge k ((i+j) / 2) with g | g
    ·have:=List.pairwise_iff_getElem.1 hr k _ hk hm g;omega
    ·have:k=(i+j) / 2:=by simp only at hk2;omega
     subst this;exact h3,p2⟩ (by simp only;omega)
  ·have h3:¬l[(i+j) / 2]<a:=by simpa using h2
   exact hJ (i,(i+j) / 2) ⟨by simp only;omega,by simp only;omega,p1,fun k hk hk2=>by
    rcases Nat.lt_or_ge ((i+j) / 2) k with g | g
    ·have:=List.pairwise_iff_getElem.1 hr _ k hm hk g;omega
    ·have:k=(i+j) / 2:=by simp only at hk2;omega
     subst this;omega⟩ (by simp only;omega)
 ·have hij2:i=j:=by simp at h;omega
  subst hij2
  have hlo:kT l a=i:=N0 hjl p1 (fun h=>p2 i h (Nat.le_refl _))
  have ⟨q1,q2⟩:=JR (a:=a) hr
  rw [hlo] at hK q2
  by_cases hi:i<l.length
  ·have e:=ct hi
   have hi3:(i:Int)<(l.length:Int):=by omega
   by_cases he:l[i]=a
   ·have:tQ l a=some i:=by
     have:=q1 (by rw [hlo];exact hi) (by simp only [hlo];exact he)
     rwa [hlo] at this
    rw [this] at hK
    refine eY (an hi3 he) ?_
    exact hK
   ·have:tQ l a=none:=q2 (fun h=>by rw [List.getElem?_eq_getElem h];simpa using he)
    rw [this] at hK
    have ha2:¬(i:Int)<(i:Int):=by omega
    refine eY (an hi3 he) ?_
    refine Ae ?_
    unfold qB
    refine gr ?_
    exact hK
  ·have:tQ l a=none:=q2 (fun h=>absurd h hi)
   rw [this] at hK
   have hi3:¬(i:Int)<(l.length:Int):=by omega
   refine eY hi3 ?_
   exact hK
theorem kn [i:aq L iF b x C](hK:G w0 L (K (i64 x.pat.fin))):G w0 L (CP Tryz.prog Fn.commit_Commit_End [ptr b 0] K):=by
 refine i.ro (fun M hK=>?_) hK
 rw [bz] at *
 rintro v1 v2 v3 v4 hv
 refine pD ?_
 unfold kv
 try simp (maxSteps:=2000000) only [↓RG,RB,BEq.rfl,Int.reduceEq,Int.reduceLT,Int.reduceLE,Nat.reduceEqDiff]
 refine dv (p:=x.pat) (rest:=x.rest v1 v2 v3 v4) ?_
 exact hK v1 v2 v3 v4 hv
theorem yz [i:aq L iF b x C](hK:G w0 L (K (i64 x.pat.err))):G w0 L (CP Tryz.prog Fn.commit_Commit_Err [ptr b 0] K):=by
 refine i.ro (fun M hK=>?_) hK
 rw [bz] at *
 rintro v1 v2 v3 v4 hv
 refine yx ?_
 unfold pH
 try simp (maxSteps:=2000000) only [↓RG,RB,BEq.rfl,Int.reduceEq,Int.reduceLT,Int.reduceLE,Nat.reduceEqDiff]
 refine sq (p:=x.pat) (rest:=x.rest v1 v2 v3 v4) ?_
 exact hK v1 v2 v3 v4 hv
theorem zQ [i:aq L iF b x C](hK:G w0 L (K (i64 x.pat.by_))):G w0 L (CP Tryz.prog Fn.commit_Commit_By [ptr b 0] K):=by
 refine i.ro (fun M hK=>?_) hK
 rw [bz] at *
 rintro v1 v2 v3 v4 hv
 refine Ab ?_
 unfold qf
 try simp (maxSteps:=2000000) only [↓RG,RB,BEq.rfl,Int.reduceEq,Int.reduceLT,Int.reduceLE,Nat.reduceEqDiff]
 refine iR (p:=x.pat) (rest:=x.rest v1 v2 v3 v4) ?_
 exact hK v1 v2 v3 v4 hv
theorem u9 [i:aq L iF b x C](hK:G w0 L (K (u64 (if x.writing=true then IntKind.wrap .u64 (x.now+1) else 0)))):G w0 L (CP Tryz.prog Fn.commit_Commit_Stamp [ptr b 0] K):=by
 refine i.ro (fun M hK=>?_) hK
 rw [bz] at *
 rintro v1 v2 v3 v4 hv
 refine uR ?_
 unfold mK
 cases hw:x.writing
 ·refine eY hw ?_
  have h:=hK v1 v2 v3 v4 hv
  simp only [hw] at h
  exact h
 ·refine eY hw ?_
  have h:=hK v1 v2 v3 v4 hv
  simp only [hw] at h
  exact h
theorem sn [i:aq L iF b x C](hK:G w0 L (K (.bool (x.writing && decide (x.pat.fin=0))))):G w0 L (CP Tryz.prog Fn.commit_Commit_Writing [ptr b 0] K):=by
 refine i.ro (fun M hK=>?_) hK
 rw [bz] at *
 rintro v1 v2 v3 v4 hv
 refine sE ?_
 unfold lm
 have h:=hK v1 v2 v3 v4 hv
 cases hw:x.writing
 ·simp only [hw] at h
  refine eY hw ?_
  exact h
 ·simp only [hw,Bool.true_and] at h
  refine eY hw ?_
  refine pD ?_
  unfold kv
  refine gr ?_
  refine dv (p:=x.pat) (rest:=x.rest v1 v2 v3 v4) ?_
  refine gr ?_
  exact h
theorem my (hl:gM x)(hw:x.was.length=x.stripes.length)(hp:x.pos≤x.seen.length)[i:aq L iF b x C](hK:G w0 (C (ob iF b (oZ x))) (K (.tuple #[]))):G w0 L (CP Tryz.prog Fn.commit_Commit_prove [ptr b 0] K):=by
 refine i.use (fun M hK=>?_) hK
 refine vz ?_
 unfold mV
 have hfew:=hl.few
 have hseen:=hl.seen
 rw [bz]
 rintro v1 v2 v3 v4 ⟨h1,h2,h3,h4⟩
 try simp (maxSteps:=2000000) only [↓RG,RB,BEq.rfl,Int.reduceEq,Int.reduceLT,Int.reduceLE,Nat.reduceEqDiff]
 refine db b { x with state:=4 } ⟨h1,h2,h3,h4⟩ ?_
 refine G.loop0 (σ:=Nat) (fun k=>ob iF b { x with state:=4,pos:=k }::M) (fun k=>x.pos≤k∧k≤x.seen.length∧oZ x=kR (x.seen.length-k) { x with state:=4,pos:=k }) (fun k=>x.seen.length-k) x.pos rfl ⟨Nat.le_refl _,hp,rfl⟩ ?_
 rintro k ⟨hk1,hk2,hpr⟩ J hJ
 rw [hpr] at hK
 rw [bz]
 rintro v1 v2 v3 v4 ⟨h1,h2,h3,h4⟩
 refine G.drew ?_
 try simp (maxSteps:=2000000) only [↓RG,RB,BEq.rfl,Int.reduceEq,Int.reduceLT,Int.reduceLE,Nat.reduceEqDiff]
 refine G.cond (fun h=>?_) (fun h=>?_)
 ·have hk3:k<x.seen.length:=by simpa using h
  have e:=ct hk3
  have hg:x.seen.getD k ⟨0,0⟩=x.seen[k]:=by simp [hk3]
  rw [show x.seen.length-k=(x.seen.length-(k+1))+1 by omega] at hK hpr
  unfold kR at hK hpr
  simp only [hg,RW] at hK hpr
  refine G.drew ?_
  try simp (maxSteps:=2000000) only [↓RG,RB,BEq.rfl,Int.reduceEq,Int.reduceLT,Int.reduceLE,Nat.reduceEqDiff]
  refine q7 (l:=x.stripes) hl.rising (by omega) ?_
  try simp (maxSteps:=2000000) only [↓RG,RB,BEq.rfl,Int.reduceEq,Int.reduceLT,Int.reduceLE,Nat.reduceEqDiff]
  cases hi:tQ x.stripes x.seen[k].stripe with
  | none =>
   rw [hi] at hK
   simp only [Option.map_none] at hK
   try simp (maxSteps:=2000000) only [↓RG,RB,BEq.rfl,Int.reduceEq,Int.reduceLT,Int.reduceLE,Nat.reduceEqDiff,Option.isSome_none]
   rw [bz] at hK
   exact(hK v1 v2 v3 v4 ⟨h1,h2,h3,h4⟩).sub
  | some j =>
   have hj:=RQ hi
   have hlo:kT x.stripes x.seen[k].stripe=j:=by
    have ⟨g1,g2⟩:=JR (a:=x.seen[k].stripe) hl.rising
    have g3:=IF (a:=x.seen[k].stripe) (l:=x.stripes)
    by_cases hc:kT x.stripes x.seen[k].stripe<x.stripes.length
    ·by_cases he:x.stripes[kT x.stripes x.seen[k].stripe]=x.seen[k].stripe
     ·have:=g1 hc he;rw [hi] at this;cases this;rfl
     ·have:=g2 (fun h=>by rw [List.getElem?_eq_getElem h];simpa using he);rw [hi] at this;cases this
    ·have:=g2 (fun h=>absurd h hc);rw [hi] at this;cases this
   have hj2:j<x.was.length:=by omega
   have e2:=ct hj2
   have hgw:x.was.getD j ah=x.was[j]:=by simp [hj2]
   rw [hi] at hK hpr
   simp only [Option.map_some,hgw] at hK hpr
   rw [hlo]
   try simp (maxSteps:=2000000) only [↓RG,RB,BEq.rfl,Int.reduceEq,Int.reduceLT,Int.reduceLE,Nat.reduceEqDiff,Option.isSome_some]
   refine G.drew ?_
   try simp (maxSteps:=2000000) only [↓RG,RB,BEq.rfl,Int.reduceEq,Int.reduceLT,Int.reduceLE,Nat.reduceEqDiff]
   by_cases hv:x.was[j].version=x.seen[k].version
   ·rw [if_pos hv] at hpr
    try simp (maxSteps:=2000000) only [↓RG,RB,BEq.rfl,Int.reduceEq,Int.reduceLT,Int.reduceLE,Nat.reduceEqDiff,hv]
    rw [di (by omega)]
    refine db b { x with state:=4,pos:=k+1 } ⟨h1,h2,h3,h4⟩ ?_
    exact hJ (k+1) ⟨by omega,by omega,hpr⟩ (by omega)
   ·rw [if_neg hv] at hK
    try simp (maxSteps:=2000000) only [↓RG,RB,BEq.rfl,Int.reduceEq,Int.reduceLT,Int.reduceLE,Nat.reduceEqDiff,hv]
    refine db b { x with state:=4,pos:=k } ⟨h1,h2,h3,h4⟩ ?_
    refine gZ (x:={ x with state:=4,pos:=k }) ?_
    exact hK
 ·have hk3:k=x.seen.length:=by simp at h;omega
  subst hk3
  rw [Nat.sub_self] at hK
  unfold kR at hK
  refine db b { x with state:=4,pos:=x.seen.length } ⟨h1,h2,h3,h4⟩ ?_
  refine mT (x:={ x with state:=4,pos:=x.seen.length }) ?_
  exact hK
theorem ot {a:fG}(hl:gM x)[i:aq L iF b x C](hK:G w0 (C (ob iF b (p8 x a))) (K (.tuple #[]))):G w0 L (CP Tryz.prog Fn.commit_Commit_take [ptr b 0,.agg (fG.cells a).toArray] K):=by
 refine i.use (fun M hK=>?_) hK
 refine vU ?_
 unfold oJ
 have hfew:=hl.few
 have hwas:=hl.was
 refine gu ?_
 refine G.box fun q=>?_
 rw [fA,bz]
 rintro v1 v2 v3 v4 ⟨h1,h2,h3,h4⟩
 refine gr ?_
 unfold p8 at hK
 by_cases hs:x.state=0
 ·rw [if_pos hs] at hK
  cases hh:a.lock.held
  ·rw [if_neg (by rw [hh];decide),bz] at hK
   repeat' (first | (with_reducible refine G.joini0 ?_) | (with_reducible refine G.joini1 ?_) | (with_reducible refine G.drew ?_) | (simp (maxSteps:=2000000) only [↓RG,RP,RB,BEq.rfl,Int.reduceEq,Int.reduceLT,Int.reduceLE,Nat.reduceEqDiff,eq_true hs,La hh]))
   exact(hK v1 v2 v3 v4 ⟨h1,h2,h3,h4⟩).sub
  ·rw [if_pos hh] at hK
   repeat' (first | (with_reducible refine G.joini0 ?_) | (with_reducible refine G.joini1 ?_) | (with_reducible refine G.drew ?_) | (simp (maxSteps:=2000000) only [↓RG,RP,RB,BEq.rfl,Int.reduceEq,Int.reduceLT,Int.reduceLE,Nat.reduceEqDiff,eq_true hs,LF hh]))
   refine db b x ⟨h1,h2,h3,h4⟩ ?_
   refine nY (x:=x) (l:=a.lock) ?_
   exact hK.sub
 ·rw [if_neg hs] at hK
  cases hd:a.done
  ·rw [if_neg (by rw [hd];decide),bz] at hK
   repeat' (first | (with_reducible refine G.joini0 ?_) | (with_reducible refine G.joini1 ?_) | (with_reducible refine G.drew ?_) | (simp (maxSteps:=2000000) only [↓RG,RP,RB,BEq.rfl,Int.reduceEq,Int.reduceLT,Int.reduceLE,Nat.reduceEqDiff,hs,La hd]))
   exact(hK v1 v2 v3 v4 ⟨h1,h2,h3,h4⟩).sub
  ·rw [if_pos hd] at hK
   repeat' (first | (with_reducible refine G.joini0 ?_) | (with_reducible refine G.joini1 ?_) | (with_reducible refine G.drew ?_) | (simp (maxSteps:=2000000) only [↓RG,RP,RB,BEq.rfl,Int.reduceEq,Int.reduceLT,Int.reduceLE,Nat.reduceEqDiff,hs,LF hd]))
   refine G.build lN [x.lock] rfl (by simp) rfl fun v6 h6=>?_
   refine gg ?_
   refine G.append (xs:=x.was) (ys:=[x.lock]) (by simp;omega) (by simp [maxLen];omega) fun v5 h5=>?_
   refine gg ?_
   refine db b { x with was:=x.was++[x.lock] } ⟨h1,h2,h3,h5⟩ ?_
   refine nZ (x:={ x with was:=x.was++[x.lock] }) ?_
   exact hK.sub
theorem m5 {a:fG}(hl:gM x)(hg:x.state=3→x.was.length=x.stripes.length∧x.pos=0)[i:aq L iF b x C](hs:x.state=2∨x.state=3)(hK:G w0 (C (ob iF b (lY x a))) (K (.tuple #[]))):G w0 L (CP Tryz.prog Fn.commit_Commit_raise [ptr b 0,.agg (fG.cells a).toArray] K):=by
 refine i.use (fun M hK=>?_) hK
 refine uW ?_
 unfold mJ
 refine gu ?_
 refine G.box fun q=>?_
 rw [fA,bz]
 rintro v1 v2 v3 v4 ⟨h1,h2,h3,h4⟩
 refine gr ?_
 unfold lY at hK
 by_cases hs2:x.state=2
 ·rw [if_pos hs2] at hK
  by_cases hc:4611686018427387903≤a.word
  ·rw [if_pos hc] at hK
   refine gf (an (eq_true hs2) hc) ?_
   refine db b x ⟨h1,h2,h3,h4⟩ ?_
   refine gZ (x:=x) ?_
   exact hK.sub
  ·rw [if_neg hc,bz] at hK
   repeat' (first | (with_reducible refine G.joini0 ?_) | (with_reducible refine G.joini1 ?_) | (with_reducible refine G.drew ?_) | (simp (maxSteps:=2000000) only [↓RG,RP,RB,BEq.rfl,Int.reduceEq,Int.reduceLT,Int.reduceLE,Nat.reduceEqDiff,eq_true hs2,hc]))
   exact(hK v1 v2 v3 v4 ⟨h1,h2,h3,h4⟩).sub
 ·rw [if_neg hs2] at hK
  have hs3:x.state=3:=by omega
  have g:=hg hs3
  cases hd:a.done
  ·rw [if_pos hd,bz] at hK
   repeat' (first | (with_reducible refine G.joini0 ?_) | (with_reducible refine G.joini1 ?_) | (with_reducible refine G.drew ?_) | (simp (maxSteps:=2000000) only [↓RG,RP,RB,BEq.rfl,Int.reduceEq,Int.reduceLT,Int.reduceLE,Nat.reduceEqDiff,hs2,R2 hd]))
   exact(hK v1 v2 v3 v4 ⟨h1,h2,h3,h4⟩).sub
  ·rw [if_neg (by rw [hd];decide)] at hK
   by_cases hn:x.now=x.stamp
   ·rw [if_pos hn] at hK
    repeat' (first | (with_reducible refine G.joini0 ?_) | (with_reducible refine G.joini1 ?_) | (with_reducible refine G.drew ?_) | (simp (maxSteps:=2000000) only [↓RG,RP,RB,BEq.rfl,Int.reduceEq,Int.reduceLT,Int.reduceLE,Nat.reduceEqDiff,hs2,Mr hd,eq_true hn]))
    refine db b x ⟨h1,h2,h3,h4⟩ ?_
    refine mT (x:=x) ?_
    exact hK.sub
   ·rw [if_neg hn] at hK
    repeat' (first | (with_reducible refine G.joini0 ?_) | (with_reducible refine G.joini1 ?_) | (with_reducible refine G.drew ?_) | (simp (maxSteps:=2000000) only [↓RG,RP,RB,BEq.rfl,Int.reduceEq,Int.reduceLT,Int.reduceLE,Nat.reduceEqDiff,hs2,Mr hd,hn]))
    refine db b x ⟨h1,h2,h3,h4⟩ ?_
    refine my (x:=x) hl g.1 (by omega) ?_
    exact hK.sub
theorem t4 {l:cw}(hl:gM x)(hw:x.was.length=x.stripes.length)(hp:x.pos<x.seen.length)[i:aq L iF b x C](hK:G w0 (C (ob iF b (lw x l))) (K (.tuple #[]))):G w0 L (CP Tryz.prog Fn.commit_Commit_proved [ptr b 0,.agg (cw.cells l).toArray] K):=by
 refine i.use (fun M hK=>?_) hK
 refine tE ?_
 unfold l7
 have hseen:=hl.seen
 refine G.box fun q=>?_
 rw [fA,bz]
 rintro v1 v2 v3 v4 ⟨h1,h2,h3,h4⟩
 have e:=ct hp
 have hg:x.seen.getD x.pos ⟨0,0⟩=x.seen[x.pos]:=by simp [hp]
 unfold lw at hK
 rw [hg] at hK
 cases hh:l.held
 ·rw [if_neg (by rw [hh];decide)] at hK
  repeat' (first | (with_reducible refine G.joini0 ?_) | (with_reducible refine G.joini1 ?_) | (with_reducible refine G.drew ?_) | (simp (maxSteps:=2000000) only [↓RG,RP,RB,BEq.rfl,Int.reduceEq,Int.reduceLT,Int.reduceLE,Nat.reduceEqDiff,La hh]))
  by_cases hv:l.version=x.seen[x.pos].version
  ·rw [if_pos hv] at hK
   refine gf (eq_true hv) ?_
   rw [di (by omega)]
   refine db b { x with pos:=x.pos+1 } ⟨h1,h2,h3,h4⟩ ?_
   refine my (x:={ x with pos:=x.pos+1 }) (hl.eqs rfl rfl rfl rfl) hw hp ?_
   exact hK.sub
  ·rw [if_neg hv] at hK
   refine gf hv ?_
   refine db b x ⟨h1,h2,h3,h4⟩ ?_
   refine gZ (x:=x) ?_
   exact hK.sub
 ·rw [if_pos hh] at hK
  repeat' (first | (with_reducible refine G.joini0 ?_) | (with_reducible refine G.joini1 ?_) | (with_reducible refine G.drew ?_) | (simp (maxSteps:=2000000) only [↓RG,RP,RB,BEq.rfl,Int.reduceEq,Int.reduceLT,Int.reduceLE,Nat.reduceEqDiff,LF hh]))
  refine db b x ⟨h1,h2,h3,h4⟩ ?_
  refine nY (x:=x) (l:=l) ?_
  exact hK.sub
theorem vG {a:fG}(ho:iI x)[i:aq L iF b x C](hK:G w0 (C (ob iF b (cy x a))) (K (.tuple #[]))):G w0 L (CP Tryz.prog Fn.commit_Commit_Tell [ptr b 0,.agg (fG.cells a).toArray] K):=by
 refine i.use (fun M hK=>?_) hK
 refine xr ?_
 unfold ol
 have hpos:=ho.pos
 have hst:=ho.st
 refine G.box fun q=>?_
 rw [fA,bz]
 rintro v1 v2 v3 v4 ⟨h1,h2,h3,h4⟩
 refine G.drew ?_
 try simp (maxSteps:=2000000) only [↓RG,RB,BEq.rfl,Int.reduceEq,Int.reduceLT,Int.reduceLE,Nat.reduceEqDiff]
 refine gl (p:=x.pat) (a:=a) (rest:=x.rest v1 v2 v3 v4) ?_
 unfold cy at hK
 by_cases hs:(x.pat.stopped a.err).fin=0
 ·have hp:x.pat.stopped a.err=x.pat:=by
   unfold n8.stopped at hs ⊢;split
   ·rename_i h;rw [if_pos h] at hs;simp [n8.stop] at hs
   ·rfl
  rw [if_pos hs] at hK
  rw [hp] at hs
  rw [hp]
  obtain⟨g01,g23,g4,g5,g6,g7⟩:=ho.here hs
  by_cases c0:x.state=0
  ·rw [if_pos (.inl c0)] at hK
   repeat' (first | (with_reducible refine G.joini0 ?_) | (with_reducible refine G.joini1 ?_) | (with_reducible refine G.drew ?_) | (simp (maxSteps:=2000000) only [↓RG,RP,RB,BEq.rfl,Int.reduceEq,Int.reduceLT,Int.reduceLE,Nat.reduceEqDiff,eq_true hs,eq_true c0]))
   refine db b x ⟨h1,h2,h3,h4⟩ ?_
   refine ot (x:=x) (a:=a) ho.len ?_
   exact hK.sub
  by_cases c1:x.state=1
  ·rw [if_pos (.inr c1)] at hK
   repeat' (first | (with_reducible refine G.joini0 ?_) | (with_reducible refine G.joini1 ?_) | (with_reducible refine G.drew ?_) | (simp (maxSteps:=2000000) only [↓RG,RP,RB,BEq.rfl,Int.reduceEq,Int.reduceLT,Int.reduceLE,Nat.reduceEqDiff,eq_true hs,eq_true c1,c0]))
   refine db b x ⟨h1,h2,h3,h4⟩ ?_
   refine ot (x:=x) (a:=a) ho.len ?_
   exact hK.sub
  rw [if_neg (by omega)] at hK
  by_cases c2:x.state=2
  ·rw [if_pos (.inl c2)] at hK
   repeat' (first | (with_reducible refine G.joini0 ?_) | (with_reducible refine G.joini1 ?_) | (with_reducible refine G.drew ?_) | (simp (maxSteps:=2000000) only [↓RG,RP,RB,BEq.rfl,Int.reduceEq,Int.reduceLT,Int.reduceLE,Nat.reduceEqDiff,eq_true hs,eq_true c2,c0,c1]))
   refine db b x ⟨h1,h2,h3,h4⟩ ?_
   refine m5 (x:=x) (a:=a) ho.len (fun h=>g23 (.inr h)) (.inl c2) ?_
   exact hK.sub
  by_cases c3:x.state=3
  ·rw [if_pos (.inr c3)] at hK
   repeat' (first | (with_reducible refine G.joini0 ?_) | (with_reducible refine G.joini1 ?_) | (with_reducible refine G.drew ?_) | (simp (maxSteps:=2000000) only [↓RG,RP,RB,BEq.rfl,Int.reduceEq,Int.reduceLT,Int.reduceLE,Nat.reduceEqDiff,eq_true hs,eq_true c3,c0,c1,c2]))
   refine db b x ⟨h1,h2,h3,h4⟩ ?_
   refine m5 (x:=x) (a:=a) ho.len (fun h=>g23 (.inr h)) (.inr c3) ?_
   exact hK.sub
  rw [if_neg (by omega)] at hK
  by_cases c4:x.state=4
  ·rw [if_pos c4] at hK
   repeat' (first | (with_reducible refine G.joini0 ?_) | (with_reducible refine G.joini1 ?_) | (with_reducible refine G.drew ?_) | (simp (maxSteps:=2000000) only [↓RG,RP,RB,BEq.rfl,Int.reduceEq,Int.reduceLT,Int.reduceLE,Nat.reduceEqDiff,eq_true hs,eq_true c4,c0,c1,c2,c3]))
   refine db b x ⟨h1,h2,h3,h4⟩ ?_
   refine t4 (x:=x) (l:=a.lock) ho.len (g4 c4).1 (g4 c4).2 ?_
   exact hK.sub
  rw [if_neg c4] at hK
  by_cases c5:x.state=5
  ·rw [if_pos c5] at hK
   repeat' (first | (with_reducible refine G.joini0 ?_) | (with_reducible refine G.joini1 ?_) | (with_reducible refine G.drew ?_) | (simp (maxSteps:=2000000) only [↓RG,RP,RB,BEq.rfl,Int.reduceEq,Int.reduceLT,Int.reduceLE,Nat.reduceEqDiff,eq_true hs,eq_true c5,c0,c1,c2,c3,c4]))
   rw [di (by omega)]
   refine db b { x with pos:=x.pos+1 } ⟨h1,h2,h3,h4⟩ ?_
   refine m6 (x:={ x with pos:=x.pos+1 }) ?_
   exact hK.sub
  rw [if_neg c5] at hK
  by_cases c6:x.state=6
  ·rw [if_pos c6] at hK
   repeat' (first | (with_reducible refine G.joini0 ?_) | (with_reducible refine G.joini1 ?_) | (with_reducible refine G.drew ?_) | (simp (maxSteps:=2000000) only [↓RG,RP,RB,BEq.rfl,Int.reduceEq,Int.reduceLT,Int.reduceLE,Nat.reduceEqDiff,eq_true hs,eq_true c6,c0,c1,c2,c3,c4,c5]))
   rw [di (by omega)]
   refine db b { x with pos:=x.pos+1 } ⟨h1,h2,h3,h4⟩ ?_
   refine oG (x:={ x with pos:=x.pos+1 }) ?_
   exact hK.sub
  rw [if_neg c6] at hK
  have c7:x.state=7:=by omega
  repeat' (first | (with_reducible refine G.joini0 ?_) | (with_reducible refine G.joini1 ?_) | (with_reducible refine G.drew ?_) | (simp (maxSteps:=2000000) only [↓RG,RP,RB,BEq.rfl,Int.reduceEq,Int.reduceLT,Int.reduceLE,Nat.reduceEqDiff,eq_true hs,eq_true c7,c0,c1,c2,c3,c4,c5,c6]))
  rw [di (by omega)]
  refine db b { x with pos:=x.pos+1 } ⟨h1,h2,h3,h4⟩ ?_
  refine m7 (x:={ x with pos:=x.pos+1 }) ?_
  exact hK.sub
 ·rw [if_neg hs,bz] at hK
  refine gf hs ?_
  exact(hK v1 v2 v3 v4 ⟨h1,h2,h3,h4⟩).sub
theorem wY (ho:iI x)[i:aq L iF b x C](hK:G w0 L (K (.tuple #[.agg (rq.cells (bi x).1).toArray,.bool (bi x).2]))):G w0 L (CP Tryz.prog Fn.commit_Commit_Next [ptr b 0] K):=by
 refine i.ro (fun M hK=>?_) hK
 rw [bz] at *
 rintro v1 v2 v3 v4 hv
 have hK:=hK v1 v2 v3 v4 hv
 have hst:=ho.st
 have hwas:=ho.len.was
 refine wy ?_
 unfold pe
 refine G.new fun q=>?_
 try simp (maxSteps:=2000000) only [↓RG,RB,BEq.rfl,Int.reduceEq,Int.reduceLT,Int.reduceLE,Nat.reduceEqDiff]
 refine dv (p:=x.pat) (rest:=x.rest v1 v2 v3 v4) ?_
 unfold bi at hK
 by_cases hf:x.pat.fin=0
 ·rw [if_pos hf] at hK
  obtain⟨g01,g23,g4,g5,g6,g7⟩:=ho.here hf
  by_cases c0:x.state=0
  ·rw [if_pos c0] at hK
   have hp:=(g01 (.inl c0)).1
   have e:=ct hp
   have hg:x.stripes.getD x.was.length 0=x.stripes[x.was.length]:=by simp [hp]
   rw [hg] at hK
   repeat' (first | (with_reducible refine G.joini0 ?_) | (with_reducible refine G.joini1 ?_) | (with_reducible refine G.drew ?_) | (simp (maxSteps:=2000000) only [↓RG,RP,RB,BEq.rfl,Int.reduceEq,Int.reduceLT,Int.reduceLE,Nat.reduceEqDiff,eq_true hf,eq_true c0]))
   exact hK.sub
  rw [if_neg c0] at hK
  by_cases c1:x.state=1
  ·rw [if_pos c1] at hK
   have hp:=(g01 (.inr c1)).1
   have e:=ct hp
   have hg:x.stripes.getD x.was.length 0=x.stripes[x.was.length]:=by simp [hp]
   rw [hg] at hK
   repeat' (first | (with_reducible refine G.joini0 ?_) | (with_reducible refine G.joini1 ?_) | (with_reducible refine G.drew ?_) | (simp (maxSteps:=2000000) only [↓RG,RP,RB,BEq.rfl,Int.reduceEq,Int.reduceLT,Int.reduceLE,Nat.reduceEqDiff,eq_true hf,eq_true c1,c0]))
   refine G.new fun q2=>?_
   repeat' (first | (with_reducible refine G.joini0 ?_) | (with_reducible refine G.joini1 ?_) | (with_reducible refine G.drew ?_) | (simp (maxSteps:=2000000) only [↓RG,RP,RB,BEq.rfl,Int.reduceEq,Int.reduceLT,Int.reduceLE,Nat.reduceEqDiff]))
   exact hK.sub
  rw [if_neg c1] at hK
  by_cases c2:x.state=2
  ·rw [if_pos c2] at hK
   refine gf (an (eq_true hf) (an (eq_true c2) (an c0 c1))) ?_
   exact hK.sub
  rw [if_neg c2] at hK
  by_cases c3:x.state=3
  ·rw [if_pos c3] at hK
   repeat' (first | (with_reducible refine G.joini0 ?_) | (with_reducible refine G.joini1 ?_) | (with_reducible refine G.drew ?_) | (simp (maxSteps:=2000000) only [↓RG,RP,RB,BEq.rfl,Int.reduceEq,Int.reduceLT,Int.reduceLE,Nat.reduceEqDiff,eq_true hf,eq_true c3,c0,c1,c2]))
   exact hK.sub
  rw [if_neg c3] at hK
  by_cases c4:x.state=4
  ·rw [if_pos c4] at hK
   have hp:=(g4 c4).2
   have e:=ct hp
   have hg:x.seen.getD x.pos ⟨0,0⟩=x.seen[x.pos]:=by simp [hp]
   rw [hg] at hK
   repeat' (first | (with_reducible refine G.joini0 ?_) | (with_reducible refine G.joini1 ?_) | (with_reducible refine G.drew ?_) | (simp (maxSteps:=2000000) only [↓RG,RP,RB,BEq.rfl,Int.reduceEq,Int.reduceLT,Int.reduceLE,Nat.reduceEqDiff,eq_true hf,eq_true c4,c0,c1,c2,c3]))
   exact hK.sub
  rw [if_neg c4] at hK
  by_cases c5:x.state=5
  ·rw [if_pos c5] at hK
   have hp:=(g5 c5).2
   have e:=ct hp
   have hg:x.cells.getD x.pos ⟨0,0⟩=x.cells[x.pos]:=by simp [hp]
   rw [hg] at hK
   repeat' (first | (with_reducible refine G.joini0 ?_) | (with_reducible refine G.joini1 ?_) | (with_reducible refine G.drew ?_) | (simp (maxSteps:=2000000) only [↓RG,RP,RB,BEq.rfl,Int.reduceEq,Int.reduceLT,Int.reduceLE,Nat.reduceEqDiff,eq_true hf,eq_true c5,c0,c1,c2,c3,c4]))
   exact hK.sub
  rw [if_neg c5] at hK
  by_cases c6:x.state=6
  ·rw [if_pos c6] at hK
   have hp:=(g6 c6).2
   have e:=ct hp
   have hg:x.stripes.getD x.pos 0=x.stripes[x.pos]:=by simp [hp]
   rw [hg] at hK
   repeat' (first | (with_reducible refine G.joini0 ?_) | (with_reducible refine G.joini1 ?_) | (with_reducible refine G.drew ?_) | (simp (maxSteps:=2000000) only [↓RG,RP,RB,BEq.rfl,Int.reduceEq,Int.reduceLT,Int.reduceLE,Nat.reduceEqDiff,eq_true hf,eq_true c6,c0,c1,c2,c3,c4,c5]))
   exact hK.sub
  rw [if_neg c6] at hK
  have c7:x.state=7:=by omega
  have hp:=(g7 c7).1
  have hp2:x.pos<x.stripes.length:=by omega
  have e:=ct hp
  have e2:=ct hp2
  have hg:x.stripes.getD x.pos 0=x.stripes[x.pos]:=by simp [hp2]
  have hg2:x.was.getD x.pos ah=x.was[x.pos]:=by simp [hp]
  rw [hg,hg2] at hK
  repeat' (first | (with_reducible refine G.joini0 ?_) | (with_reducible refine G.joini1 ?_) | (with_reducible refine G.drew ?_) | (simp (maxSteps:=2000000) only [↓RG,RP,RB,BEq.rfl,Int.reduceEq,Int.reduceLT,Int.reduceLE,Nat.reduceEqDiff,eq_true hf,eq_true c7,c0,c1,c2,c3,c4,c5,c6]))
  exact hK.sub
 ·rw [if_neg hf] at hK
  refine gf hf ?_
  exact hK.sub
theorem IB {me sp stamp n wide:Int}{u v:Value}{seen:List fS}{cells:List au}[r1:Rd w0 L u gm 2 seen][r2:Rd w0 L v bf 2 cells](h1:seen.length≤100000)(h2:cells.length≤100000)
  (hK:∀b,G w0 (ob iF b (nv me sp stamp seen cells (fK (de cells n wide) 16))::L) (K (ptr b 0))):G w0 L (CP Tryz.prog Fn.commit_New [i64 me,i64 sp,u64 stamp,u,v,i64 n,i64 wide] K):=by
 refine Jd ?_
 unfold AC
 refine qJ ?_
 refine fy (xs:=seen) (by omega) fun v1 hv1=>?_
 refine eP (xs:=cells) (by omega) fun v2 hv2=>?_
 refine B8 (cs:=cells) (by omega) fun v3 hv3=>?_
 rw [ET]
 try simp (maxSteps:=2000000) only [↓RG,RB,BEq.rfl,Int.reduceEq,Int.reduceLT,Int.reduceLE,Nat.reduceEqDiff]
 refine G.box fun b=>?_
 have h:=nZ (L:=ob iF b ⟨nI me sp,me,stamp,seen,cells,fK (de cells n wide) 16,[],0,0,ah,0,false,0,0,0⟩::L) (C:=fun A=>A::L) (K:=fun _=>K (ptr b 0)) (b:=b) (x:=⟨nI me sp,me,stamp,seen,cells,fK (de cells n wide) 16,[],0,0,ah,0,false,0,0,0⟩) (hK b)
 rw [bz] at h
 have h:=h v1 v2 v3 (.slice none 0 0) ⟨hv1,hv2,hv3,be⟩
 refine G.nilsl lN ?_
 refine G.pickAll (As:=[own b [i64 (nI me sp).me,i64 (nI me sp).spins,i64 (nI me sp).fin,i64 (nI me sp).by_,i64 (nI me sp).err,i64 me,u64 stamp,v1,v2,v3,.slice none 0 0,i64 0,i64 0,u64 0,.bool false,i64 0,u64 0,.bool false,i64 0,i64 0,i64 0],sl gm v1 seen,sl bf v2 cells,sl bg v3 (fK (de cells n wide) 16),sl lN (.slice none 0 0) []]) ?_
 exact h
theorem NS {me sp stamp n wide:Int}{seen:List fS}{cells:List au}(h1:seen.length≤100000)(h2:cells.length≤100000):iI (nv me sp stamp seen cells (fK (de cells n wide) 16)):=by
 have hml:(fK (de cells n wide) 16).length≤16:=by
  unfold fK
  rw [List.length_map]
  exact Nat.le_trans (List.length_filter_le _ _) (by simp)
 exact EH ⟨yV,hml,Nat.zero_le _,by simp only;omega,by simp only;omega⟩ rfl
end
end Go.Proofs.YtoealglbimbbmaaGreatDoor.S
