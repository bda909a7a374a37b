import Derived.Test.YtoealglbimbbmaaGreatDoorReads
namespace Go.Proofs.YtoealglbimbbmaaGreatDoor.S
open Go Go.Proofs
set_option linter.unusedVariables false
set_option linter.unusedSimpArgs false
structure oU where
 me:Int
 spins:Int
 fin:Int
 by_:Int
 err:Int
abbrev oU.cells (p:oU)(rest:List Value):List Value:=i64 p.me::i64 p.spins::i64 p.fin::i64 p.by_::i64 p.err::rest
def ns (me spins:Int):oU:=⟨me,held spins 0 4,0,-1,0⟩
def oU.stop (p:oU)(e er b:Int):oU:={ p with fin:=e,err:=er,by_:=b }
def oU.waits (p:oU)(owner:Int):oU×Bool:=if owner > p.me then (p,true) else ({ p with spins:=IntKind.wrap .i64 (p.spins-1) },decide (IntKind.wrap .i64 (p.spins-1) ≥ 0))
def oU.stopped (p:oU)(err:Int):oU:=if p.fin=0∧err≠0 then p.stop 4 err (-1) else p
section
variable {w0:bh}{L M:List ay}{K:KV}{F:World→Prop}{C:ay→List ay}{b:Nat}{p:oU}{rest:List Value}
theorem qn {me sp:Int}(hK:G w0 L (K (.agg ((ns me sp).cells []).toArray))):G w0 L (CP Tryz.prog VL [i64 me,i64 sp] K):=by
 refine FI ?_
 unfold vR
 refine G.new fun q=>?_
 refine gr ?_
 have e:(if (if (4:Int)<sp then 4 else sp) > 0 then if (4:Int)<sp then 4 else sp else 0)=held sp 0 4:=by unfold held;split <;> split <;> split <;> (try split) <;> omega
 rw [e]
 exact hK.sub
theorem dw [i:aq L og b (p.cells rest) C](hK:G w0 L (K (i64 p.fin))):G w0 L (CP Tryz.prog Nm [ptr b 0] K):=by
 refine i.ro (fun M hK=>?_) hK
 refine td ?_
 unfold lf
 refine gr ?_
 exact hK
theorem iU [i:aq L og b (p.cells rest) C](hK:G w0 L (K (i64 p.by_))):G w0 L (CP Tryz.prog VS [ptr b 0] K):=by
 refine i.ro (fun M hK=>?_) hK
 refine uj ?_
 unfold l9
 refine gr ?_
 exact hK
theorem te [i:aq L og b (p.cells rest) C](hK:G w0 L (K (i64 p.err))):G w0 L (CP Tryz.prog YB [ptr b 0] K):=by
 refine i.ro (fun M hK=>?_) hK
 refine sx ?_
 unfold lg
 refine gr ?_
 exact hK
theorem cv {e er by_:Int}[i:aq L og b (p.cells rest) C](hK:G w0 (C (own b ((p.stop e er by_).cells rest))) (K (.tuple #[]))):G w0 L (CP Tryz.prog go [ptr b 0,i64 e,i64 er,i64 by_] K):=by
 refine i.use (fun M hK=>?_) hK
 refine r8 ?_
 unfold ky
 refine gr ?_
 exact hK
theorem gM {x:cw}[i:aq L og b (p.cells rest) C](hK:G w0 (C (own b ((p.waits x.owner).1.cells rest))) (K (.bool (p.waits x.owner).2))):G w0 L (CP Tryz.prog VU [ptr b 0,.agg #[u64 x.version,.bool x.held,i64 x.owner]] K):=by
 refine i.use (fun M hK=>?_) hK
 refine rf ?_
 unfold jU
 refine G.box fun q=>?_
 refine G.drew ?_
 refine gr ?_
 refine G.cond (fun h=>?_) (fun h=>?_)
 ·have:p.waits x.owner=(p,true):=by unfold oU.waits;simp at h;simp [h]
  rw [this] at hK
  exact hK.sub
 ·have:p.waits x.owner=({ p with spins:=IntKind.wrap .i64 (p.spins-1) },decide (IntKind.wrap .i64 (p.spins-1) ≥ 0)):=by unfold oU.waits;simp at h;rw [if_neg (by omega)]
  rw [this] at hK
  refine gr ?_
  exact hK.sub
theorem gk {a:fH}[i:aq L og b (p.cells rest) C](hK:G w0 (C (own b ((p.stopped a.err).cells rest))) (K (.bool (!decide ((p.stopped a.err).fin=0))))):G w0 L (CP Tryz.prog VT [ptr b 0,.agg (fH.cells a).toArray] K):=by
 refine i.use (fun M hK=>?_) hK
 refine pV ?_
 unfold jl
 refine gu ?_
 refine G.box fun q=>?_
 refine gr ?_
 refine G.all (decide (a.err≠0)) (fun _ K hK=>by refine gr ?_;simpa using hK) ?_
 refine G.joini0 ?_
 refine G.cond (fun h=>?_) (fun h=>?_)
 ·have:p.stopped a.err=p.stop 4 a.err (-1):=by unfold oU.stopped;simp at h;simp [h]
  rw [this] at hK
  refine gr ?_
  refine cv (p:=p) (rest:=rest) ?_
  refine gr ?_
  exact hK.sub
 ·have:p.stopped a.err=p:=by unfold oU.stopped;simp at h;rw [if_neg (fun g=>g.2 (h g.1))]
  rw [this] at hK
  refine gr ?_
  exact hK.sub
end
end Go.Proofs.YtoealglbimbbmaaGreatDoor.S
namespace Go.Proofs.YtoealglbimbbmaaGreatDoor.S
open Go Go.Proofs
set_option linter.unusedVariables false
set_option linter.unusedSimpArgs false
structure fT where
 pat:oU
 place:Int
 stripe:Int
 stamp:Int
 state:Int
 lock:cw
 word:Int
def Ab:rv:=⟨0,0,0,0,ah,ah⟩
def Ku (me place stripe sp stamp:Int):fT:=⟨ns me sp,place,stripe,stamp,0,ah,0⟩
def gE (f:fT):rv×Bool :=
 if f.pat.fin=0 then (if f.state=1 then (⟨1,f.place,0,0,ah,ah⟩,true) else (⟨3,f.stripe,0,0,ah,ah⟩,true)) else (Ab,false)
def kS (f:fT)(l:cw):fT :=
 if l.held=true then (if (f.pat.waits l.owner).2=true then { f with state:=0,pat:=(f.pat.waits l.owner).1 } else { f with state:=0,pat:=(f.pat.waits l.owner).1.stop 5 0 l.owner })
 else if l.version > f.stamp then { f with state:=0,pat:=f.pat.stop 6 0 (-1) }
 else { f with state:=1,lock:=l }
def gS (f:fT)(a:fH):fT :=
 if (f.pat.stopped a.err).fin=0 then
  (if f.state=1 then { f with word:=a.word,state:=2 }
   else if f.state=2∧a.lock=f.lock then { f with pat:=f.pat.stop 2 0 (-1) }
   else kS f a.lock)
 else { f with pat:=f.pat.stopped a.err }
abbrev fT.rest (f:fT):List Value:=[i64 f.place,i64 f.stripe,u64 f.stamp,i64 f.state,u64 f.lock.version,.bool f.lock.held,i64 f.lock.owner,u64 f.word]
def jI (b:Nat)(f:fT):ay:=own b (f.pat.cells f.rest)
section
variable {w0:bh}{L M:List ay}{K:KV}{F:World→Prop}{C:ay→List ay}{b:Nat}{f:fT}
theorem fF:ob jI b f=own b (f.pat.cells f.rest):=by rw [eZ,jI]
theorem JS {me pl st sp sm:Int}(hK:∀b,G w0 (ob jI b (Ku me pl st sp sm)::L) (K (ptr b 0))):G w0 L (CP Tryz.prog Yj [i64 me,i64 pl,i64 st,i64 sp,u64 sm] K):=by
 refine Jv ?_
 unfold C2
 refine qn ?_
 refine gr ?_
 refine G.box fun b=>?_
 refine gr ?_
 have h:=hK b
 rw [fF] at h
 exact h
theorem ji [i:aq L jI b f C](hK:G w0 L (K (i64 f.pat.fin))):G w0 L (CP Tryz.prog Vt [ptr b 0] K):=by
 refine i.ro (fun M hK=>?_) hK
 rw [fF] at *
 refine AZ ?_
 unfold rE
 refine gr ?_
 refine dw (p:=f.pat) (rest:=f.rest) ?_
 exact hK
theorem B6 [i:aq L jI b f C](hK:G w0 L (K (i64 f.pat.by_))):G w0 L (CP Tryz.prog YZ [ptr b 0] K):=by
 refine i.ro (fun M hK=>?_) hK
 rw [fF] at *
 refine CD ?_
 unfold sU
 refine gr ?_
 refine iU (p:=f.pat) (rest:=f.rest) ?_
 exact hK
theorem zS [i:aq L jI b f C](hK:G w0 L (K (.tuple #[.agg (rv.cells (gE f).1).toArray,.bool (gE f).2]))):G w0 L (CP Tryz.prog Y0 [ptr b 0] K):=by
 refine i.ro (fun M hK=>?_) hK
 rw [fF] at *
 refine Am ?_
 unfold qM
 refine G.new fun q=>?_
 refine gr ?_
 refine dw (p:=f.pat) (rest:=f.rest) ?_
 refine gr ?_
 unfold gE at hK
 by_cases h:f.pat.fin=0
 ·rw [if_pos h] at hK
  refine eY h ?_
  by_cases h2:f.state=1
  ·rw [if_pos h2] at hK
   refine eY h2 ?_
   exact hK.sub
  ·rw [if_neg h2] at hK
   refine eY h2 ?_
   exact hK.sub
 ·rw [if_neg h] at hK
  refine eY h ?_
  exact hK.sub
theorem yr {x:cw}[i:aq L jI b f C](hK:G w0 (C (ob jI b (kS f x))) (K (.tuple #[]))):G w0 L (CP Tryz.prog Y2 [ptr b 0,.agg #[u64 x.version,.bool x.held,i64 x.owner]] K):=by
 refine i.use (fun M hK=>?_) hK
 rw [fF] at *
 refine yq ?_
 unfold pA
 refine gu ?_
 refine G.box fun q=>?_
 refine gr ?_
 refine G.joini0 ?_
 unfold kS at hK
 obtain⟨v,h,o⟩:=x
 cases h
 ·rw [if_neg (by simp)] at hK
  refine gr ?_
  refine G.drew ?_
  refine gr ?_
  refine G.joini0 ?_
  refine G.cond (fun h=>?_) (fun h=>?_)
  ·rw [if_pos (by simpa using h)] at hK
   refine gr ?_
   refine cv (p:=f.pat) (rest:=[i64 f.place,i64 f.stripe,u64 f.stamp,i64 0,u64 f.lock.version,.bool f.lock.held,i64 f.lock.owner,u64 f.word]) ?_
   refine gr ?_
   exact hK.sub
  ·rw [if_neg (by simpa using h)] at hK
   refine gr ?_
   exact hK.sub
 ·rw [if_pos rfl] at hK
  refine gr ?_
  refine G.drew ?_
  refine gr ?_
  refine gM (p:=f.pat) (x:=⟨v,true,o⟩) (rest:=[i64 f.place,i64 f.stripe,u64 f.stamp,i64 0,u64 f.lock.version,.bool f.lock.held,i64 f.lock.owner,u64 f.word]) ?_
  refine gr ?_
  refine G.joini0 ?_
  cases hw:(f.pat.waits o).2
  ·rw [if_neg (by rw [hw];decide)] at hK
   refine eY hw ?_
   refine G.drew ?_
   refine gr ?_
   refine cv (p:=(f.pat.waits o).1) (rest:=[i64 f.place,i64 f.stripe,u64 f.stamp,i64 0,u64 f.lock.version,.bool f.lock.held,i64 f.lock.owner,u64 f.word]) ?_
   refine gr ?_
   exact hK.sub
  ·rw [if_pos hw] at hK
   refine eY hw ?_
   exact hK.sub
theorem zV {a:fH}[i:aq L jI b f C](hK:G w0 (C (ob jI b (gS f a))) (K (.tuple #[]))):G w0 L (CP Tryz.prog Y1 [ptr b 0,.agg (fH.cells a).toArray] K):=by
 refine i.use (fun M hK=>?_) hK
 rw [fF] at *
 refine Ac ?_
 unfold qJ
 refine gu ?_
 refine G.box fun q=>?_
 refine gr ?_
 refine G.drew ?_
 refine gr ?_
 refine gk (p:=f.pat) (a:=a) ?_
 unfold gS at hK
 by_cases hs:(f.pat.stopped a.err).fin=0
 ·have hp:f.pat.stopped a.err=f.pat:=by
   unfold oU.stopped at hs ⊢;split
   ·rename_i h;rw [if_pos h] at hs;simp [oU.stop] at hs
   ·rfl
  rw [if_pos hs] at hK
  rw [hp] at hs
  rw [hp]
  refine eY hs ?_
  refine G.joini0 ?_
  by_cases h1:f.state=1
  ·rw [if_pos h1] at hK
   refine eY h1 ?_
   refine G.joini0 ?_
   refine gr ?_
   exact hK.sub
  ·rw [if_neg h1] at hK
   refine eY h1 ?_
   refine G.joini0 ?_
   refine G.drew ?_
   refine gr ?_
   refine G.all (decide (a.lock=f.lock)) (fun _ K hK=>by simp only [↓RG,RP,RB,BEq.rfl,Int.reduceEq,Int.reduceLT,Int.reduceLE,Nat.reduceEqDiff,cw.eqb a.lock f.lock];exact hK) ?_
   refine G.joini0 ?_
   refine G.cond (fun h=>?_) (fun h=>?_)
   ·rw [if_pos (by simpa using h)] at hK
    refine gr ?_
    refine cv (p:=f.pat) (rest:=f.rest) ?_
    refine gr ?_
    exact hK.sub
   ·rw [if_neg (by simpa using h),←fF] at hK
    rw [fA,←fF]
    refine gr ?_
    refine yr (f:=f) (x:=a.lock) ?_
    refine gr ?_
    exact hK.sub
 ·rw [if_neg hs] at hK
  refine eY hs ?_
  refine G.joini0 ?_
  refine gr ?_
  exact hK.sub
theorem zZ [i:aq L jI b f C](hK:G w0 L (K (u64 (if f.pat.fin=2 then f.word else 0)))):G w0 L (CP Tryz.prog YA [ptr b 0] K):=by
 refine i.ro (fun M hK=>?_) hK
 refine Ae ?_
 unfold qZ
 refine ji (f:=f) ?_
 by_cases h:f.pat.fin=2
 ·rw [if_pos h,fF] at hK
  refine eY h ?_
  rw [fF]
  refine gr ?_
  exact hK.sub
 ·rw [if_neg h] at hK
  refine eY h ?_
  exact hK.sub
theorem zH [i:aq L jI b f C](hK:G w0 L (K (if f.pat.fin=2 then .agg #[i64 f.stripe,u64 f.lock.version] else .agg #[i64 0,u64 0]))):G w0 L (CP Tryz.prog Yy [ptr b 0] K):=by
 refine i.ro (fun M hK=>?_) hK
 refine zQ ?_
 unfold qf
 refine G.new fun q=>?_
 refine ji (f:=f) ?_
 by_cases h:f.pat.fin=2
 ·rw [if_pos h,fF] at hK
  refine eY h ?_
  refine G.drew ?_
  rw [fF]
  refine gr ?_
  exact hK.sub
 ·rw [if_neg h] at hK
  refine eY h ?_
  exact hK.sub
end
end Go.Proofs.YtoealglbimbbmaaGreatDoor.S
namespace Go.Proofs.YtoealglbimbbmaaGreatDoor.S
open Go Go.Proofs
set_option linter.unusedVariables false
set_option linter.unusedSimpArgs false
structure u9 where
 pat:oU
 seen:List fQ
 loaded:Bool
 pos:Nat
 stamp:Int
def Pz (me sp:Int)(seen:List fQ):u9:=⟨ns me sp,seen,false,0,0⟩
def J0 (x:u9):Prop:=x.pat.fin=0→x.loaded=true→x.pos<x.seen.length
def l7 (x:u9):rv×Bool :=
 if x.pat.fin=0 then (if x.loaded=true then (⟨3,(x.seen.getD x.pos ⟨0,0⟩).stripe,0,0,ah,ah⟩,true) else (⟨6,0,0,0,ah,ah⟩,true)) else (Ab,false)
def rz (x:u9):u9:=if x.pos=x.seen.length then { x with pat:=x.pat.stop 2 0 (-1) } else x
def nR (x:u9)(a:fH):u9 :=
 if (x.pat.stopped a.err).fin=0 then
  (if x.loaded=false then rz { x with loaded:=true,stamp:=a.word }
   else if a.lock.held=true then (if (x.pat.waits a.lock.owner).2=true then { x with pat:=(x.pat.waits a.lock.owner).1 } else { x with pat:=(x.pat.waits a.lock.owner).1.stop 5 0 a.lock.owner })
   else if a.lock.version=(x.seen.getD x.pos ⟨0,0⟩).version then rz { x with pos:=x.pos+1 }
   else { x with pat:=x.pat.stop 5 0 (-1) })
 else { x with pat:=x.pat.stopped a.err }
def Ah (b:Nat)(x:u9):ay:=mW fun v=>bk (ie (ar v [v])) (bk (own b (x.pat.cells [v,.bool x.loaded,i64 x.pos,u64 x.stamp])) (sl gq v x.seen))
section
variable {w0:bh}{L M:List ay}{K:KV}{F:World→Prop}{C:ay→List ay}{b:Nat}{x:u9}
theorem gC:G w0 (ob Ah b x::M) F=∀v,ar v [v]→G w0 (own b (x.pat.cells [v,.bool x.loaded,i64 x.pos,u64 x.stamp])::sl gq v x.seen::M) F:=by
 rw [eZ,Ah]
 simp only [qv,fa,fU]
theorem pJ [i:aq L Ah b x C](hK:G w0 L (K (i64 x.pat.fin))):G w0 L (CP Tryz.prog WB [ptr b 0] K):=by
 refine i.ro (fun M hK=>?_) hK
 rw [gC] at *
 intro v hv
 refine ye ?_
 unfold pD
 refine gr ?_
 refine dw (p:=x.pat) (rest:=[v,.bool x.loaded,i64 x.pos,u64 x.stamp]) ?_
 exact hK v hv
theorem Aa [i:aq L Ah b x C](hK:G w0 L (K (i64 x.pat.by_))):G w0 L (CP Tryz.prog Y3 [ptr b 0] K):=by
 refine i.ro (fun M hK=>?_) hK
 rw [gC] at *
 intro v hv
 refine z4 ?_
 unfold qE
 refine gr ?_
 refine iU (p:=x.pat) (rest:=[v,.bool x.loaded,i64 x.pos,u64 x.stamp]) ?_
 exact hK v hv
theorem m6 [i:aq L Ah b x C](hK:G w0 L (K (u64 (if x.pat.fin=2 then x.stamp else 0)))):G w0 L (CP Tryz.prog Ww [ptr b 0] K):=by
 refine i.ro (fun M hK=>?_) hK
 refine vq ?_
 unfold mU
 refine pJ (x:=x) ?_
 by_cases h:x.pat.fin=2
 ·rw [if_pos h,gC] at hK
  refine eY h ?_
  rw [gC]
  intro v hv
  refine gr ?_
  exact(hK v hv).sub
 ·rw [if_neg h] at hK
  refine eY h ?_
  exact hK.sub
theorem xx (ho:J0 x)[i:aq L Ah b x C](hK:G w0 L (K (.tuple #[.agg (rv.cells (l7 x).1).toArray,.bool (l7 x).2]))):G w0 L (CP Tryz.prog Y4 [ptr b 0] K):=by
 refine i.ro (fun M hK=>?_) hK
 rw [gC] at *
 intro v hv
 have hK:=hK v hv
 refine w3 ?_
 unfold oX
 refine gu ?_
 refine G.new fun q=>?_
 refine gr ?_
 refine dw (p:=x.pat) (rest:=[v,.bool x.loaded,i64 x.pos,u64 x.stamp]) ?_
 refine gr ?_
 unfold l7 at hK
 by_cases h:x.pat.fin=0
 ·rw [if_pos h] at hK
  refine eY h ?_
  by_cases h2:x.loaded=true
  ·rw [if_pos h2] at hK
   have hp:=ho h h2
   have e:=ct hp
   have hg:x.seen.getD x.pos ⟨0,0⟩=x.seen[x.pos]:=by simp [hp]
   rw [hg] at hK
   simp only [h2] at hK
   refine eY h2 ?_
   refine G.drew ?_
   refine gr ?_
   exact hK.sub
  ·have h3:x.loaded=false:=by simpa using h2
   rw [if_neg h2] at hK
   simp only [h3] at hK
   refine eY h3 ?_
   exact hK.sub
 ·rw [if_neg h] at hK
  refine eY h ?_
  exact hK.sub
theorem IA {me sp:Int}{u:Value}{xs:List fQ}{sz:Nat}[r:Rd w0 L u gq sz xs](hl:xs.length≤1000000)(hK:∀b,G w0 (ob Ah b (Pz me sp xs)::L) (K (ptr b 0))):G w0 L (CP Tryz.prog Yk [i64 me,i64 sp,u] K):=by
 refine Il ?_
 unfold AW
 refine qn ?_
 refine fB (xs:=xs) hl fun v hv=>?_
 refine gr ?_
 refine G.box fun b=>?_
 refine gr ?_
 have h:=hK b
 rw [gC] at h
 exact h v hv
theorem JK {v:Value}{q:Nat}{y:List Value}(hv:ar v [v])(hK:G w0 (ob Ah b (rz x)::M) (K (.tuple #[])))(hf:x.seen.length<4611686018427387904) :
  G w0 (own q y::own b (x.pat.cells [v,.bool x.loaded,i64 x.pos,u64 x.stamp])::sl gq v x.seen::M) (fun w =>
   ab (ptr b 7) (fun x12 w=>ab (ptr b 5) (fun x15 w=>bp x15 (fun x16 w=>aa .eql x12 x16 (fun x17 w =>
    ax (fun w=>K (.tuple #[]) w) (fun j2 w=>ae x17 (fun w=>CP Tryz.prog go [ptr b 0,.int .i64 2,.int .i64 0,.int .i64 (-1)] (fun x20 w=>j2 w) w) (fun w=>j2 w) w) w) w) w) w) w):=by
 refine gr ?_
 refine G.joini0 ?_
 unfold rz at hK
 refine G.cond (fun h=>?_) (fun h=>?_)
 ·rw [if_pos (by simp at h;omega),gC] at hK
  refine cv (p:=x.pat) (rest:=[v,.bool x.loaded,i64 x.pos,u64 x.stamp]) ?_
  refine gr ?_
  exact(hK v hv).sub
 ·rw [if_neg (by simp at h;omega),gC] at hK
  exact(hK v hv).sub
theorem w5 {a:fH}(ho:J0 x)(hf:x.seen.length≤1000000)[i:aq L Ah b x C](hK:G w0 (C (ob Ah b (nR x a))) (K (.tuple #[]))):G w0 L (CP Tryz.prog Y5 [ptr b 0,.agg (fH.cells a).toArray] K):=by
 refine i.use (fun M hK=>?_) hK
 refine xz ?_
 unfold oA
 refine gu ?_
 refine G.box fun q=>?_
 rw [fA,gC]
 intro v hv
 refine G.drew ?_
 refine gr ?_
 refine gk (p:=x.pat) (a:=a) (rest:=[v,.bool x.loaded,i64 x.pos,u64 x.stamp]) ?_
 unfold nR at hK
 by_cases hs:(x.pat.stopped a.err).fin=0
 ·have hp:x.pat.stopped a.err=x.pat:=by
   unfold oU.stopped at hs ⊢;split
   ·rename_i h;rw [if_pos h] at hs;simp [oU.stop] at hs
   ·rfl
  rw [if_pos hs] at hK
  rw [hp] at hs
  rw [hp]
  refine eY hs ?_
  cases hl:x.loaded
  ·rw [if_pos hl] at hK
   refine eY hl ?_
   refine G.joini0 ?_
   refine G.drew ?_
   refine gr ?_
   refine G.drew ?_
   rw [D5]
   exact JK (x:={ x with loaded:=true,stamp:=a.word }) hv hK (by simp only;omega)
  ·rw [if_neg (by rw [hl];decide)] at hK
   have hp2:=ho hs hl
   have e:=ct hp2
   have hg:x.seen.getD x.pos ⟨0,0⟩=x.seen[x.pos]:=by simp [hp2]
   refine eY hl ?_
   refine G.joini0 ?_
   try simp (maxSteps:=2000000) only [↓RG,RP,RB,BEq.rfl,Int.reduceEq,Int.reduceLT,Int.reduceLE,Nat.reduceEqDiff,Nat.reduceAdd]
   cases hh:a.lock.held
   ·rw [if_neg (by rw [hh];decide),hg] at hK
    refine eY hh ?_
    refine G.drew ?_
    refine gr ?_
    by_cases hv2:a.lock.version=x.seen[x.pos].version
    ·rw [if_pos hv2] at hK
     refine eY hv2 ?_
     rw [di (by omega)]
     refine G.drew ?_
     rw [D5]
     have hK':G w0 (ob Ah b (rz { x with loaded:=true,pos:=x.pos+1 })::M) (K (.tuple #[])):=by
      have:({ x with loaded:=true,pos:=x.pos+1 }:u9)={ x with pos:=x.pos+1 }:=by rw [←hl]
      rw [this];exact hK
     exact JK (x:={ x with loaded:=true,pos:=x.pos+1 }) hv hK' (by simp only;omega)
    ·rw [if_neg hv2,gC] at hK
     refine eY hv2 ?_
     refine cv (p:=x.pat) (rest:=[v,.bool true,i64 x.pos,u64 x.stamp]) ?_
     have hK:=hK v hv
     simp only [hl] at hK
     refine gr ?_
     exact hK.sub
   ·rw [if_pos hh] at hK
    refine eY hh ?_
    refine G.drew ?_
    refine eY hh ?_
    refine gM (p:=x.pat) (x:=⟨a.lock.version,true,a.lock.owner⟩) (rest:=[v,.bool true,i64 x.pos,u64 x.stamp]) ?_
    refine gr ?_
    refine G.joini0 ?_
    cases hw:(x.pat.waits a.lock.owner).2
    ·rw [if_neg (by rw [hw];decide),gC] at hK
     have hK:=hK v hv
     simp only [hl] at hK
     refine eY hw ?_
     refine G.drew ?_
     try simp (maxSteps:=2000000) only [↓RG,RP,RB,BEq.rfl,Int.reduceEq,Int.reduceLT,Int.reduceLE,Nat.reduceEqDiff,Nat.reduceAdd]
     refine cv (p:=(x.pat.waits a.lock.owner).1) (rest:=[v,.bool true,i64 x.pos,u64 x.stamp]) ?_
     refine gr ?_
     exact hK.sub
    ·rw [if_pos hw,gC] at hK
     have hK:=hK v hv
     simp only [hl] at hK
     refine eY hw ?_
     exact hK.sub
 ·rw [if_neg hs,gC] at hK
  refine eY hs ?_
  exact(hK v hv).sub
end
end Go.Proofs.YtoealglbimbbmaaGreatDoor.S
