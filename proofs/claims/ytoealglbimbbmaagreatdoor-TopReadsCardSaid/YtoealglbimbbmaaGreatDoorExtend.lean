import Derived.Test.YtoealglbimbbmaaGreatDoorReads
namespace Go.Proofs.YtoealglbimbbmaaGreatDoor.S
open Go Go.Proofs
set_option linter.unusedVariables false
set_option linter.unusedSimpArgs false
structure nD where
 me:Int
 spins:Int
 fin:Int
 by_:Int
 err:Int
abbrev nD.cells (p:nD)(rest:List Value):List Value:=i64 p.me::i64 p.spins::i64 p.fin::i64 p.by_::i64 p.err::rest
def mE (me spins:Int):nD:=⟨me,held spins 0 4,0,-1,0⟩
def nD.stop (p:nD)(e er b:Int):nD:={ p with fin:=e,err:=er,by_:=b }
def nD.waits (p:nD)(owner:Int):nD×Bool:=if owner > p.me then (p,true) else ({ p with spins:=IntKind.wrap .i64 (p.spins-1) },decide (IntKind.wrap .i64 (p.spins-1) ≥ 0))
def nD.stopped (p:nD)(err:Int):nD:=if p.fin=0∧err≠0 then p.stop 4 err (-1) else p
section
variable {w0:bg}{L M:List ax}{K:KV}{F:World→Prop}{C:ax→List ax}{b:Nat}{p:nD}{rest:List Value}
theorem qg {me sp:Int}(hK:G w0 L (K (.agg ((mE me sp).cells []).toArray))):G w0 L (CP Tryz.prog Ya [i64 me,i64 sp] K):=by
 refine G7 ?_
 unfold w6
 refine G.new fun q=>?_
 refine gr ?_
 have e:(if (if (4:Int)<sp then 4 else sp) > 0 then if (4:Int)<sp then 4 else sp else 0)=held sp 0 4:=by unfold held;split <;> split <;> split <;> (try split) <;> omega
 rw [e]
 exact hK.sub
theorem dF [i:al L gI b (p.cells rest) C](hK:G w0 L (K (i64 p.fin))):G w0 L (CP Tryz.prog Xr [ptr b 0] K):=by
 refine i.ro (fun M hK=>?_) hK
 refine sK ?_
 unfold kP
 refine gr ?_
 exact hK
theorem io [i:al L gI b (p.cells rest) C](hK:G w0 L (K (i64 p.by_))):G w0 L (CP Tryz.prog Yl [ptr b 0] K):=by
 refine i.ro (fun M hK=>?_) hK
 refine ug ?_
 unfold lO
 refine gr ?_
 exact hK
theorem sV [i:al L gI b (p.cells rest) C](hK:G w0 L (K (i64 p.err))):G w0 L (CP Tryz.prog abL [ptr b 0] K):=by
 refine i.ro (fun M hK=>?_) hK
 refine sS ?_
 unfold kD
 refine gr ?_
 exact hK
theorem dc {e er by_:Int}[i:al L gI b (p.cells rest) C](hK:G w0 (C (own b ((p.stop e er by_).cells rest))) (K (.tuple #[]))):G w0 L (CP Tryz.prog Xi [ptr b 0,i64 e,i64 er,i64 by_] K):=by
 refine i.use (fun M hK=>?_) hK
 refine rS ?_
 unfold jV
 refine gr ?_
 exact hK
theorem gl {x:df}[i:al L gI b (p.cells rest) C](hK:G w0 (C (own b ((p.waits x.owner).1.cells rest))) (K (.bool (p.waits x.owner).2))):G w0 L (CP Tryz.prog Yn [ptr b 0,.agg #[u64 x.version,.bool x.held,i64 x.owner]] K):=by
 refine i.use (fun M hK=>?_) hK
 refine q7 ?_
 unfold jC
 refine G.box fun q=>?_
 refine G.drew ?_
 refine gr ?_
 refine G.cond (fun h=>?_) (fun h=>?_)
 ·have:p.waits x.owner=(p,true):=by unfold nD.waits;simp at h;simp [h]
  rw [this] at hK
  exact hK.sub
 ·have:p.waits x.owner=({ p with spins:=IntKind.wrap .i64 (p.spins-1) },decide (IntKind.wrap .i64 (p.spins-1) ≥ 0)):=by unfold nD.waits;simp at h;rw [if_neg (by omega)]
  rw [this] at hK
  refine gr ?_
  exact hK.sub
theorem fI {a:fi}[i:al L gI b (p.cells rest) C](hK:G w0 (C (own b ((p.stopped a.err).cells rest))) (K (.bool (!decide ((p.stopped a.err).fin=0))))):G w0 L (CP Tryz.prog Ym [ptr b 0,.agg (fi.cells a).toArray] K):=by
 refine i.use (fun M hK=>?_) hK
 refine px ?_
 unfold i4
 refine gu ?_
 refine G.box fun q=>?_
 refine gr ?_
 refine G.all (decide (a.err≠0)) (fun _ K hK=>by refine gr ?_;simpa using hK) ?_
 refine G.joini0 ?_
 refine G.cond (fun h=>?_) (fun h=>?_)
 ·have:p.stopped a.err=p.stop 4 a.err (-1):=by unfold nD.stopped;simp at h;simp [h]
  rw [this] at hK
  refine gr ?_
  refine dc (p:=p) (rest:=rest) ?_
  refine gr ?_
  exact hK.sub
 ·have:p.stopped a.err=p:=by unfold nD.stopped;simp at h;rw [if_neg (fun g=>g.2 (h g.1))]
  rw [this] at hK
  refine gr ?_
  exact hK.sub
end
end Go.Proofs.YtoealglbimbbmaaGreatDoor.S
namespace Go.Proofs.YtoealglbimbbmaaGreatDoor.S
open Go Go.Proofs
set_option linter.unusedVariables false
set_option linter.unusedSimpArgs false
structure ft where
 pat:nD
 place:Int
 stripe:Int
 stamp:Int
 state:Int
 lock:df
 word:Int
def AV:rv:=⟨0,0,0,0,ai,ai⟩
def LR (me place stripe sp stamp:Int):ft:=⟨mE me sp,place,stripe,stamp,0,ai,0⟩
def fU (f:ft):rv×Bool :=
 if f.pat.fin=0 then (if f.state=1 then (⟨1,f.place,0,0,ai,ai⟩,true) else (⟨3,f.stripe,0,0,ai,ai⟩,true)) else (AV,false)
def kq (f:ft)(l:df):ft :=
 if l.held=true then (if (f.pat.waits l.owner).2=true then { f with state:=0,pat:=(f.pat.waits l.owner).1 } else { f with state:=0,pat:=(f.pat.waits l.owner).1.stop 5 0 l.owner })
 else if l.version > f.stamp then { f with state:=0,pat:=f.pat.stop 6 0 (-1) }
 else { f with state:=1,lock:=l }
def ee (f:ft)(a:fi):ft :=
 if (f.pat.stopped a.err).fin=0 then
  (if f.state=1 then { f with word:=a.word,state:=2 }
   else if f.state=2∧a.lock=f.lock then { f with pat:=f.pat.stop 2 0 (-1) }
   else kq f a.lock)
 else { f with pat:=f.pat.stopped a.err }
abbrev ft.rest (f:ft):List Value:=[i64 f.place,i64 f.stripe,u64 f.stamp,i64 f.state,u64 f.lock.version,.bool f.lock.held,i64 f.lock.owner,u64 f.word]
def jh (b:Nat)(f:ft):ax:=own b (f.pat.cells f.rest)
section
variable {w0:bg}{L M:List ax}{K:KV}{F:World→Prop}{C:ax→List ax}{b:Nat}{f:ft}
theorem fj:ob jh b f=own b (f.pat.cells f.rest):=by rw [dO,jh]
theorem L6 {me pl st sp sm:Int}(hK:∀b,G w0 (ob jh b (LR me pl st sp sm)::L) (K (ptr b 0))):G w0 L (CP Tryz.prog abu [i64 me,i64 pl,i64 st,i64 sp,u64 sm] K):=by
 refine MW ?_
 unfold DM
 refine qg ?_
 refine gr ?_
 refine G.box fun b=>?_
 refine gr ?_
 have h:=hK b
 rw [fj] at h
 exact h
theorem i6 [i:al L jh b f C](hK:G w0 L (K (i64 f.pat.fin))):G w0 L (CP Tryz.prog XF [ptr b 0] K):=by
 refine i.ro (fun M hK=>?_) hK
 rw [fj] at *
 refine BR ?_
 unfold rm
 refine gr ?_
 refine dF (p:=f.pat) (rest:=f.rest) ?_
 exact hK
theorem Du [i:al L jh b f C](hK:G w0 L (K (i64 f.pat.by_))):G w0 L (CP Tryz.prog aaq [ptr b 0] K):=by
 refine i.ro (fun M hK=>?_) hK
 rw [fj] at *
 refine Do ?_
 unfold sQ
 refine gr ?_
 refine io (p:=f.pat) (rest:=f.rest) ?_
 exact hK
theorem An [i:al L jh b f C](hK:G w0 L (K (.tuple #[.agg (rv.cells (fU f).1).toArray,.bool (fU f).2]))):G w0 L (CP Tryz.prog aao [ptr b 0] K):=by
 refine i.ro (fun M hK=>?_) hK
 rw [fj] at *
 refine AX ?_
 unfold qP
 refine G.new fun q=>?_
 refine gr ?_
 refine dF (p:=f.pat) (rest:=f.rest) ?_
 refine gr ?_
 unfold fU at hK
 by_cases h:f.pat.fin=0
 ·rw [if_pos h] at hK
  refine dN h ?_
  by_cases h2:f.state=1
  ·rw [if_pos h2] at hK
   refine dN h2 ?_
   exact hK.sub
  ·rw [if_neg h2] at hK
   refine dN h2 ?_
   exact hK.sub
 ·rw [if_neg h] at hK
  refine dN h ?_
  exact hK.sub
theorem yL {x:df}[i:al L jh b f C](hK:G w0 (C (ob jh b (kq f x))) (K (.tuple #[]))):G w0 L (CP Tryz.prog ab9 [ptr b 0,.agg #[u64 x.version,.bool x.held,i64 x.owner]] K):=by
 refine i.use (fun M hK=>?_) hK
 rw [fj] at *
 refine yP ?_
 unfold pf
 refine gu ?_
 refine G.box fun q=>?_
 refine gr ?_
 refine G.joini0 ?_
 unfold kq at hK
 obtain⟨v,h,o⟩:=x
 cases h
 ·rw [if_neg (by simp)] at hK
  refine gr ?_
  refine G.drew ?_
  refine gr ?_
  refine G.joini0 ?_
  refine G.cond (fun h=>?_) (fun h=>?_)
  ·rw [if_pos (by simpa using h)] at hK
   refine gr ?_
   refine dc (p:=f.pat) (rest:=[i64 f.place,i64 f.stripe,u64 f.stamp,i64 0,u64 f.lock.version,.bool f.lock.held,i64 f.lock.owner,u64 f.word]) ?_
   refine gr ?_
   exact hK.sub
  ·rw [if_neg (by simpa using h)] at hK
   refine gr ?_
   exact hK.sub
 ·rw [if_pos rfl] at hK
  refine gr ?_
  refine G.drew ?_
  refine gr ?_
  refine gl (p:=f.pat) (x:=⟨v,true,o⟩) (rest:=[i64 f.place,i64 f.stripe,u64 f.stamp,i64 0,u64 f.lock.version,.bool f.lock.held,i64 f.lock.owner,u64 f.word]) ?_
  refine gr ?_
  refine G.joini0 ?_
  cases hw:(f.pat.waits o).2
  ·rw [if_neg (by rw [hw];decide)] at hK
   refine dN hw ?_
   refine G.drew ?_
   refine gr ?_
   refine dc (p:=(f.pat.waits o).1) (rest:=[i64 f.place,i64 f.stripe,u64 f.stamp,i64 0,u64 f.lock.version,.bool f.lock.held,i64 f.lock.owner,u64 f.word]) ?_
   refine gr ?_
   exact hK.sub
  ·rw [if_pos hw] at hK
   refine dN hw ?_
   exact hK.sub
theorem z3 {a:fi}[i:al L jh b f C](hK:G w0 (C (ob jh b (ee f a))) (K (.tuple #[]))):G w0 L (CP Tryz.prog aap [ptr b 0,.agg (fi.cells a).toArray] K):=by
 refine i.use (fun M hK=>?_) hK
 rw [fj] at *
 refine AH ?_
 unfold qt
 refine gu ?_
 refine G.box fun q=>?_
 refine gr ?_
 refine G.drew ?_
 refine gr ?_
 refine fI (p:=f.pat) (a:=a) ?_
 unfold ee at hK
 by_cases hs:(f.pat.stopped a.err).fin=0
 ·have hp:f.pat.stopped a.err=f.pat:=by
   unfold nD.stopped at hs ⊢;split
   ·rename_i h;rw [if_pos h] at hs;simp [nD.stop] at hs
   ·rfl
  rw [if_pos hs] at hK
  rw [hp] at hs
  rw [hp]
  refine dN hs ?_
  refine G.joini0 ?_
  by_cases h1:f.state=1
  ·rw [if_pos h1] at hK
   refine dN h1 ?_
   refine G.joini0 ?_
   refine gr ?_
   exact hK.sub
  ·rw [if_neg h1] at hK
   refine dN h1 ?_
   refine G.joini0 ?_
   refine G.drew ?_
   refine gr ?_
   refine G.all (decide (a.lock=f.lock)) (fun _ K hK=>by simp only [↓RG,RP,RB,BEq.rfl,Int.reduceEq,Int.reduceLT,Int.reduceLE,Nat.reduceEqDiff,df.eqb a.lock f.lock];exact hK) ?_
   refine G.joini0 ?_
   refine G.cond (fun h=>?_) (fun h=>?_)
   ·rw [if_pos (by simpa using h)] at hK
    refine gr ?_
    refine dc (p:=f.pat) (rest:=f.rest) ?_
    refine gr ?_
    exact hK.sub
   ·rw [if_neg (by simpa using h),←fj] at hK
    rw [eN,←fj]
    refine gr ?_
    refine yL (f:=f) (x:=a.lock) ?_
    refine gr ?_
    exact hK.sub
 ·rw [if_neg hs] at hK
  refine dN hs ?_
  refine G.joini0 ?_
  refine gr ?_
  exact hK.sub
theorem Aa [i:al L jh b f C](hK:G w0 L (K (u64 (if f.pat.fin=2 then f.word else 0)))):G w0 L (CP Tryz.prog abK [ptr b 0] K):=by
 refine i.ro (fun M hK=>?_) hK
 refine AP ?_
 unfold qL
 refine i6 (f:=f) ?_
 by_cases h:f.pat.fin=2
 ·rw [if_pos h,fj] at hK
  refine dN h ?_
  rw [fj]
  refine gr ?_
  exact hK.sub
 ·rw [if_neg h] at hK
  refine dN h ?_
  exact hK.sub
theorem Ae [i:al L jh b f C](hK:G w0 L (K (if f.pat.fin=2 then .agg #[i64 f.stripe,u64 f.lock.version] else .agg #[i64 0,u64 0]))):G w0 L (CP Tryz.prog abJ [ptr b 0] K):=by
 refine i.ro (fun M hK=>?_) hK
 refine AA ?_
 unfold qR
 refine G.new fun q=>?_
 refine i6 (f:=f) ?_
 by_cases h:f.pat.fin=2
 ·rw [if_pos h,fj] at hK
  refine dN h ?_
  refine G.drew ?_
  rw [fj]
  refine gr ?_
  exact hK.sub
 ·rw [if_neg h] at hK
  refine dN h ?_
  exact hK.sub
end
end Go.Proofs.YtoealglbimbbmaaGreatDoor.S
namespace Go.Proofs.YtoealglbimbbmaaGreatDoor.S
open Go Go.Proofs
set_option linter.unusedVariables false
set_option linter.unusedSimpArgs false
structure uS where
 pat:nD
 seen:List fu
 loaded:Bool
 pos:Nat
 stamp:Int
def Rs (me sp:Int)(seen:List fu):uS:=⟨mE me sp,seen,false,0,0⟩
def LN (x:uS):Prop:=x.pat.fin=0→x.loaded=true→x.pos<x.seen.length
def lE (x:uS):rv×Bool :=
 if x.pat.fin=0 then (if x.loaded=true then (⟨3,(x.seen.getD x.pos ⟨0,0⟩).stripe,0,0,ai,ai⟩,true) else (⟨6,0,0,0,ai,ai⟩,true)) else (AV,false)
def rz (x:uS):uS:=if x.pos=x.seen.length then { x with pat:=x.pat.stop 2 0 (-1) } else x
def lM (x:uS)(a:fi):uS :=
 if (x.pat.stopped a.err).fin=0 then
  (if x.loaded=false then rz { x with loaded:=true,stamp:=a.word }
   else if a.lock.held=true then (if (x.pat.waits a.lock.owner).2=true then { x with pat:=(x.pat.waits a.lock.owner).1 } else { x with pat:=(x.pat.waits a.lock.owner).1.stop 5 0 a.lock.owner })
   else if a.lock.version=(x.seen.getD x.pos ⟨0,0⟩).version then rz { x with pos:=x.pos+1 }
   else { x with pat:=x.pat.stop 5 0 (-1) })
 else { x with pat:=x.pat.stopped a.err }
def AO (b:Nat)(x:uS):ax:=jX fun v=>bu (fS (av v [v])) (bu (own b (x.pat.cells [v,.bool x.loaded,i64 x.pos,u64 x.stamp])) (sl fM v x.seen))
section
variable {w0:bg}{L M:List ax}{K:KV}{F:World→Prop}{C:ax→List ax}{b:Nat}{x:uS}
theorem fV:G w0 (ob AO b x::M) F=∀v,av v [v]→G w0 (own b (x.pat.cells [v,.bool x.loaded,i64 x.pos,u64 x.stamp])::sl fM v x.seen::M) F:=by
 rw [dO,AO]
 simp only [lT,dP,eS]
theorem pm [i:al L AO b x C](hK:G w0 L (K (i64 x.pat.fin))):G w0 L (CP Tryz.prog YN [ptr b 0] K):=by
 refine i.ro (fun M hK=>?_) hK
 rw [fV] at *
 intro v hv
 refine yF ?_
 unfold oW
 refine gr ?_
 refine dF (p:=x.pat) (rest:=[v,.bool x.loaded,i64 x.pos,u64 x.stamp]) ?_
 exact hK v hv
theorem Az [i:al L AO b x C](hK:G w0 L (K (i64 x.pat.by_))):G w0 L (CP Tryz.prog aat [ptr b 0] K):=by
 refine i.ro (fun M hK=>?_) hK
 rw [fV] at *
 intro v hv
 refine AJ ?_
 unfold pY
 refine gr ?_
 refine io (p:=x.pat) (rest:=[v,.bool x.loaded,i64 x.pos,u64 x.stamp]) ?_
 exact hK v hv
theorem mA [i:al L AO b x C](hK:G w0 L (K (u64 (if x.pat.fin=2 then x.stamp else 0)))):G w0 L (CP Tryz.prog Zc [ptr b 0] K):=by
 refine i.ro (fun M hK=>?_) hK
 refine uV ?_
 unfold my
 refine pm (x:=x) ?_
 by_cases h:x.pat.fin=2
 ·rw [if_pos h,fV] at hK
  refine dN h ?_
  rw [fV]
  intro v hv
  refine gr ?_
  exact(hK v hv).sub
 ·rw [if_neg h] at hK
  refine dN h ?_
  exact hK.sub
theorem xD (ho:LN x)[i:al L AO b x C](hK:G w0 L (K (.tuple #[.agg (rv.cells (lE x).1).toArray,.bool (lE x).2]))):G w0 L (CP Tryz.prog aar [ptr b 0] K):=by
 refine i.ro (fun M hK=>?_) hK
 rw [fV] at *
 intro v hv
 have hK:=hK v hv
 refine wC ?_
 unfold n9
 refine gu ?_
 refine G.new fun q=>?_
 refine gr ?_
 refine dF (p:=x.pat) (rest:=[v,.bool x.loaded,i64 x.pos,u64 x.stamp]) ?_
 refine gr ?_
 unfold lE at hK
 by_cases h:x.pat.fin=0
 ·rw [if_pos h] at hK
  refine dN h ?_
  by_cases h2:x.loaded=true
  ·rw [if_pos h2] at hK
   have hp:=ho h h2
   have e:=cW hp
   have hg:x.seen.getD x.pos ⟨0,0⟩=x.seen[x.pos]:=by simp [hp]
   rw [hg] at hK
   simp only [h2] at hK
   refine dN h2 ?_
   refine G.drew ?_
   refine gr ?_
   exact hK.sub
  ·have h3:x.loaded=false:=by simpa using h2
   rw [if_neg h2] at hK
   simp only [h3] at hK
   refine dN h3 ?_
   exact hK.sub
 ·rw [if_neg h] at hK
  refine dN h ?_
  exact hK.sub
theorem JS {me sp:Int}{u:Value}{xs:List fu}{sz:Nat}[r:Rd w0 L u fM sz xs](hl:xs.length≤1000000)(hK:∀b,G w0 (ob AO b (Rs me sp xs)::L) (K (ptr b 0))):G w0 L (CP Tryz.prog abv [i64 me,i64 sp,u] K):=by
 refine Kj ?_
 unfold BJ
 refine qg ?_
 refine fa (xs:=xs) hl fun v hv=>?_
 refine gr ?_
 refine G.box fun b=>?_
 refine gr ?_
 have h:=hK b
 rw [fV] at h
 exact h v hv
theorem Lo {v:Value}{q:Nat}{y:List Value}(hv:av v [v])(hK:G w0 (ob AO b (rz x)::M) (K (.tuple #[])))(hf:x.seen.length<4611686018427387904) :
  G w0 (own q y::own b (x.pat.cells [v,.bool x.loaded,i64 x.pos,u64 x.stamp])::sl fM v x.seen::M) (fun w =>
   aa (ptr b 7) (fun x12 w=>aa (ptr b 5) (fun x15 w=>ct x15 (fun x16 w=>ab .eql x12 x16 (fun x17 w =>
    ar (fun w=>K (.tuple #[]) w) (fun j2 w=>ae x17 (fun w=>CP Tryz.prog Xi [ptr b 0,.int .i64 2,.int .i64 0,.int .i64 (-1)] (fun x20 w=>j2 w) w) (fun w=>j2 w) w) w) w) w) w) w):=by
 refine gr ?_
 refine G.joini0 ?_
 unfold rz at hK
 refine G.cond (fun h=>?_) (fun h=>?_)
 ·rw [if_pos (by simp at h;omega),fV] at hK
  refine dc (p:=x.pat) (rest:=[v,.bool x.loaded,i64 x.pos,u64 x.stamp]) ?_
  refine gr ?_
  exact(hK v hv).sub
 ·rw [if_neg (by simp at h;omega),fV] at hK
  exact(hK v hv).sub
theorem xS {a:fi}(ho:LN x)(hf:x.seen.length≤1000000)[i:al L AO b x C](hK:G w0 (C (ob AO b (lM x a))) (K (.tuple #[]))):G w0 L (CP Tryz.prog aas [ptr b 0,.agg (fi.cells a).toArray] K):=by
 refine i.use (fun M hK=>?_) hK
 refine xN ?_
 unfold nM
 refine gu ?_
 refine G.box fun q=>?_
 rw [eN,fV]
 intro v hv
 refine G.drew ?_
 refine gr ?_
 refine fI (p:=x.pat) (a:=a) (rest:=[v,.bool x.loaded,i64 x.pos,u64 x.stamp]) ?_
 unfold lM at hK
 by_cases hs:(x.pat.stopped a.err).fin=0
 ·have hp:x.pat.stopped a.err=x.pat:=by
   unfold nD.stopped at hs ⊢;split
   ·rename_i h;rw [if_pos h] at hs;simp [nD.stop] at hs
   ·rfl
  rw [if_pos hs] at hK
  rw [hp] at hs
  rw [hp]
  refine dN hs ?_
  cases hl:x.loaded
  ·rw [if_pos hl] at hK
   refine dN hl ?_
   refine G.joini0 ?_
   refine G.drew ?_
   refine gr ?_
   refine G.drew ?_
   rw [GC]
   exact Lo (x:={ x with loaded:=true,stamp:=a.word }) hv hK (by simp only;omega)
  ·rw [if_neg (by rw [hl];decide)] at hK
   have hp2:=ho hs hl
   have e:=cW hp2
   have hg:x.seen.getD x.pos ⟨0,0⟩=x.seen[x.pos]:=by simp [hp2]
   refine dN hl ?_
   refine G.joini0 ?_
   try simp (maxSteps:=2000000) only [↓RG,RP,RB,BEq.rfl,Int.reduceEq,Int.reduceLT,Int.reduceLE,Nat.reduceEqDiff,Nat.reduceAdd]
   cases hh:a.lock.held
   ·rw [if_neg (by rw [hh];decide),hg] at hK
    refine dN hh ?_
    refine G.drew ?_
    refine gr ?_
    by_cases hv2:a.lock.version=x.seen[x.pos].version
    ·rw [if_pos hv2] at hK
     refine dN hv2 ?_
     rw [dt (by omega)]
     refine G.drew ?_
     rw [GC]
     have hK':G w0 (ob AO b (rz { x with loaded:=true,pos:=x.pos+1 })::M) (K (.tuple #[])):=by
      have:({ x with loaded:=true,pos:=x.pos+1 }:uS)={ x with pos:=x.pos+1 }:=by rw [←hl]
      rw [this];exact hK
     exact Lo (x:={ x with loaded:=true,pos:=x.pos+1 }) hv hK' (by simp only;omega)
    ·rw [if_neg hv2,fV] at hK
     refine dN hv2 ?_
     refine dc (p:=x.pat) (rest:=[v,.bool true,i64 x.pos,u64 x.stamp]) ?_
     have hK:=hK v hv
     simp only [hl] at hK
     refine gr ?_
     exact hK.sub
   ·rw [if_pos hh] at hK
    refine dN hh ?_
    refine G.drew ?_
    refine dN hh ?_
    refine gl (p:=x.pat) (x:=⟨a.lock.version,true,a.lock.owner⟩) (rest:=[v,.bool true,i64 x.pos,u64 x.stamp]) ?_
    refine gr ?_
    refine G.joini0 ?_
    cases hw:(x.pat.waits a.lock.owner).2
    ·rw [if_neg (by rw [hw];decide),fV] at hK
     have hK:=hK v hv
     simp only [hl] at hK
     refine dN hw ?_
     refine G.drew ?_
     try simp (maxSteps:=2000000) only [↓RG,RP,RB,BEq.rfl,Int.reduceEq,Int.reduceLT,Int.reduceLE,Nat.reduceEqDiff,Nat.reduceAdd]
     refine dc (p:=(x.pat.waits a.lock.owner).1) (rest:=[v,.bool true,i64 x.pos,u64 x.stamp]) ?_
     refine gr ?_
     exact hK.sub
    ·rw [if_pos hw,fV] at hK
     have hK:=hK v hv
     simp only [hl] at hK
     refine dN hw ?_
     exact hK.sub
 ·rw [if_neg hs,fV] at hK
  refine dN hs ?_
  exact(hK v hv).sub
end
end Go.Proofs.YtoealglbimbbmaaGreatDoor.S
