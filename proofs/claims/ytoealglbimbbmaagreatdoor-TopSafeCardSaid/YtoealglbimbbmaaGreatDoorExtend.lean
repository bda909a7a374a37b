import Derived.Test.YtoealglbimbbmaaGreatDoorReads
namespace Go.Proofs.YtoealglbimbbmaaGreatDoor.S
open Go Go.Proofs
set_option linter.unusedVariables false
set_option linter.unusedSimpArgs false
structure nU where
 me:Int
 spins:Int
 fin:Int
 by_:Int
 err:Int
abbrev nU.cells (p:nU)(rest:List Value):List Value:=i64 p.me::i64 p.spins::i64 p.fin::i64 p.by_::i64 p.err::rest
def mV (me spins:Int):nU:=⟨me,held spins 0 4,0,-1,0⟩
def nU.stop (p:nU)(e er b:Int):nU:={ p with fin:=e,err:=er,by_:=b }
def nU.waits (p:nU)(owner:Int):nU×Bool:=if owner > p.me then (p,true) else ({ p with spins:=IntKind.wrap .i64 (p.spins-1) },decide (IntKind.wrap .i64 (p.spins-1) ≥ 0))
def nU.stopped (p:nU)(err:Int):nU:=if p.fin=0∧err≠0 then p.stop 4 err (-1) else p
section
variable {w0:bo}{L M:List bd}{K:KV}{F:World→Prop}{C:bd→List bd}{b:Nat}{p:nU}{rest:List Value}
theorem qy {me sp:Int}(hK:G w0 L (K (.agg ((mV me sp).cells []).toArray))):G w0 L (CP Tryz.prog Wb [i64 me,i64 sp] K):=by
 refine Ee ?_
 unfold wo
 refine G.new fun q=>?_
 refine gr ?_
 have e:(if (if (4:Int)<sp then 4 else sp) > 0 then if (4:Int)<sp then 4 else sp else 0)=held sp 0 4:=by unfold held;split <;> split <;> split <;> (try split) <;> omega
 rw [e]
 exact hK.sub
theorem dE [i:au L oU b (p.cells rest) C](hK:G w0 L (K (i64 p.fin))):G w0 L (CP Tryz.prog LE [ptr b 0] K):=by
 refine i.ro (fun M hK=>?_) hK
 refine sj ?_
 unfold kW
 refine gr ?_
 exact hK
theorem iF [i:au L oU b (p.cells rest) C](hK:G w0 L (K (i64 p.by_))):G w0 L (CP Tryz.prog Wh [ptr b 0] K):=by
 refine i.ro (fun M hK=>?_) hK
 refine sW ?_
 unfold lH
 refine gr ?_
 exact hK
theorem sH [i:au L oU b (p.cells rest) C](hK:G w0 L (K (i64 p.err))):G w0 L (CP Tryz.prog YX [ptr b 0] K):=by
 refine i.ro (fun M hK=>?_) hK
 refine sy ?_
 unfold kN
 refine gr ?_
 exact hK
theorem cW {e er by_:Int}[i:au L oU b (p.cells rest) C](hK:G w0 (C (own b ((p.stop e er by_).cells rest))) (K (.tuple #[]))):G w0 L (CP Tryz.prog ge [ptr b 0,i64 e,i64 er,i64 by_] K):=by
 refine i.use (fun M hK=>?_) hK
 refine rF ?_
 unfold ky
 refine gr ?_
 exact hK
theorem gK {x:cX}[i:au L oU b (p.cells rest) C](hK:G w0 (C (own b ((p.waits x.owner).1.cells rest))) (K (.bool (p.waits x.owner).2))):G w0 L (CP Tryz.prog Wj [ptr b 0,.agg #[u64 x.version,.bool x.held,i64 x.owner]] K):=by
 refine i.use (fun M hK=>?_) hK
 refine qN ?_
 unfold jM
 refine G.box fun q=>?_
 refine G.drew ?_
 refine gr ?_
 refine G.cond (fun h=>?_) (fun h=>?_)
 ·have:p.waits x.owner=(p,true):=by unfold nU.waits;simp at h;simp [h]
  rw [this] at hK
  exact hK.sub
 ·have:p.waits x.owner=({ p with spins:=IntKind.wrap .i64 (p.spins-1) },decide (IntKind.wrap .i64 (p.spins-1) ≥ 0)):=by unfold nU.waits;simp at h;rw [if_neg (by omega)]
  rw [this] at hK
  refine gr ?_
  exact hK.sub
theorem fU {a:eW}[i:au L oU b (p.cells rest) C](hK:G w0 (C (own b ((p.stopped a.err).cells rest))) (K (.bool (!decide ((p.stopped a.err).fin=0))))):G w0 L (CP Tryz.prog Wi [ptr b 0,.agg (eW.cells a).toArray] K):=by
 refine i.use (fun M hK=>?_) hK
 refine px ?_
 unfold jf
 refine gu ?_
 refine G.box fun q=>?_
 refine gr ?_
 refine G.all (decide (a.err≠0)) (fun _ K hK=>by refine gr ?_;simpa using hK) ?_
 refine G.joini0 ?_
 refine G.cond (fun h=>?_) (fun h=>?_)
 ·have:p.stopped a.err=p.stop 4 a.err (-1):=by unfold nU.stopped;simp at h;simp [h]
  rw [this] at hK
  refine gr ?_
  refine cW (p:=p) (rest:=rest) ?_
  refine gr ?_
  exact hK.sub
 ·have:p.stopped a.err=p:=by unfold nU.stopped;simp at h;rw [if_neg (fun g=>g.2 (h g.1))]
  rw [this] at hK
  refine gr ?_
  exact hK.sub
end
end Go.Proofs.YtoealglbimbbmaaGreatDoor.S
namespace Go.Proofs.YtoealglbimbbmaaGreatDoor.S
open Go Go.Proofs
set_option linter.unusedVariables false
set_option linter.unusedSimpArgs false
structure fj where
 pat:nU
 place:Int
 stripe:Int
 stamp:Int
 state:Int
 lock:cX
 word:Int
def oQ:pD:=⟨0,0,0,0,ae,ae⟩
def JZ (me place stripe sp stamp:Int):fj:=⟨mV me sp,place,stripe,stamp,0,ae,0⟩
def eB (f:fj):pD×Bool :=
 if f.pat.fin=0 then (if f.state=1 then (⟨1,f.place,0,0,ae,ae⟩,true) else (⟨3,f.stripe,0,0,ae,ae⟩,true)) else (oQ,false)
def kJ (f:fj)(l:cX):fj :=
 if l.held=true then (if (f.pat.waits l.owner).2=true then { f with state:=0,pat:=(f.pat.waits l.owner).1 } else { f with state:=0,pat:=(f.pat.waits l.owner).1.stop 5 0 l.owner })
 else if l.version > f.stamp then { f with state:=0,pat:=f.pat.stop 6 0 (-1) }
 else { f with state:=1,lock:=l }
def df (f:fj)(a:eW):fj :=
 if (f.pat.stopped a.err).fin=0 then
  (if f.state=1 then { f with word:=a.word,state:=2 }
   else if f.state=2∧a.lock=f.lock then { f with pat:=f.pat.stop 2 0 (-1) }
   else kJ f a.lock)
 else { f with pat:=f.pat.stopped a.err }
abbrev fj.rest (f:fj):List Value:=[i64 f.place,i64 f.stripe,u64 f.stamp,i64 f.state,u64 f.lock.version,.bool f.lock.held,i64 f.lock.owner,u64 f.word]
def jm (b:Nat)(f:fj):bd:=own b (f.pat.cells f.rest)
section
variable {w0:bo}{L M:List bd}{K:KV}{F:World→Prop}{C:bd→List bd}{b:Nat}{f:fj}
theorem fv:ob jm b f=own b (f.pat.cells f.rest):=by rw [em,jm]
theorem I5 {me pl st sp sm:Int}(hK:∀b,G w0 (ob jm b (JZ me pl st sp sm)::L) (K (ptr b 0))):G w0 L (CP Tryz.prog YE [i64 me,i64 pl,i64 st,i64 sp,u64 sm] K):=by
 refine Ka ?_
 unfold CA
 refine qy ?_
 refine gr ?_
 refine G.box fun b=>?_
 refine gr ?_
 have h:=hK b
 rw [fv] at h
 exact h
theorem jh [i:au L jm b f C](hK:G w0 L (K (i64 f.pat.fin))):G w0 L (CP Tryz.prog VT [ptr b 0] K):=by
 refine i.ro (fun M hK=>?_) hK
 rw [fv] at *
 refine zR ?_
 unfold rb
 refine gr ?_
 refine dE (p:=f.pat) (rest:=f.rest) ?_
 exact hK
theorem BF [i:au L jm b f C](hK:G w0 L (K (i64 f.pat.by_))):G w0 L (CP Tryz.prog Zm [ptr b 0] K):=by
 refine i.ro (fun M hK=>?_) hK
 rw [fv] at *
 refine BS ?_
 unfold so
 refine gr ?_
 refine iF (p:=f.pat) (rest:=f.rest) ?_
 exact hK
theorem yB [i:au L jm b f C](hK:G w0 L (K (.tuple #[.agg (pD.cells (eB f).1).toArray,.bool (eB f).2]))):G w0 L (CP Tryz.prog Zn [ptr b 0] K):=by
 refine i.ro (fun M hK=>?_) hK
 rw [fv] at *
 refine yO ?_
 unfold qz
 refine G.new fun q=>?_
 refine gr ?_
 refine dE (p:=f.pat) (rest:=f.rest) ?_
 refine gr ?_
 unfold eB at hK
 by_cases h:f.pat.fin=0
 ·rw [if_pos h] at hK
  refine eC h ?_
  by_cases h2:f.state=1
  ·rw [if_pos h2] at hK
   refine eC h2 ?_
   exact hK.sub
  ·rw [if_neg h2] at hK
   refine eC h2 ?_
   exact hK.sub
 ·rw [if_neg h] at hK
  refine eC h ?_
  exact hK.sub
theorem xk {x:cX}[i:au L jm b f C](hK:G w0 (C (ob jm b (kJ f x))) (K (.tuple #[]))):G w0 L (CP Tryz.prog Zp [ptr b 0,.agg #[u64 x.version,.bool x.held,i64 x.owner]] K):=by
 refine i.use (fun M hK=>?_) hK
 rw [fv] at *
 refine xz ?_
 unfold oV
 refine gu ?_
 refine G.box fun q=>?_
 refine gr ?_
 refine G.joini0 ?_
 unfold kJ at hK
 obtain⟨v,h,o⟩:=x
 cases h
 ·rw [if_neg (by simp)] at hK
  refine gr ?_
  refine G.drew ?_
  refine gr ?_
  refine G.joini0 ?_
  refine G.cond (fun h=>?_) (fun h=>?_)
  ·rw [if_pos (by simpa using h)] at hK
   refine gr ?_
   refine cW (p:=f.pat) (rest:=[i64 f.place,i64 f.stripe,u64 f.stamp,i64 0,u64 f.lock.version,.bool f.lock.held,i64 f.lock.owner,u64 f.word]) ?_
   refine gr ?_
   exact hK.sub
  ·rw [if_neg (by simpa using h)] at hK
   refine gr ?_
   exact hK.sub
 ·rw [if_pos rfl] at hK
  refine gr ?_
  refine G.drew ?_
  refine gr ?_
  refine gK (p:=f.pat) (x:=⟨v,true,o⟩) (rest:=[i64 f.place,i64 f.stripe,u64 f.stamp,i64 0,u64 f.lock.version,.bool f.lock.held,i64 f.lock.owner,u64 f.word]) ?_
  refine gr ?_
  refine G.joini0 ?_
  cases hw:(f.pat.waits o).2
  ·rw [if_neg (by rw [hw];decide)] at hK
   refine eC hw ?_
   refine G.drew ?_
   refine gr ?_
   refine cW (p:=(f.pat.waits o).1) (rest:=[i64 f.place,i64 f.stripe,u64 f.stamp,i64 0,u64 f.lock.version,.bool f.lock.held,i64 f.lock.owner,u64 f.word]) ?_
   refine gr ?_
   exact hK.sub
  ·rw [if_pos hw] at hK
   refine eC hw ?_
   exact hK.sub
theorem yy {a:eW}[i:au L jm b f C](hK:G w0 (C (ob jm b (df f a))) (K (.tuple #[]))):G w0 L (CP Tryz.prog Zo [ptr b 0,.agg (eW.cells a).toArray] K):=by
 refine i.use (fun M hK=>?_) hK
 rw [fv] at *
 refine yH ?_
 unfold qC
 refine gu ?_
 refine G.box fun q=>?_
 refine gr ?_
 refine G.drew ?_
 refine gr ?_
 refine fU (p:=f.pat) (a:=a) ?_
 unfold df at hK
 by_cases hs:(f.pat.stopped a.err).fin=0
 ·have hp:f.pat.stopped a.err=f.pat:=by
   unfold nU.stopped at hs ⊢;split
   ·rename_i h;rw [if_pos h] at hs;simp [nU.stop] at hs
   ·rfl
  rw [if_pos hs] at hK
  rw [hp] at hs
  rw [hp]
  refine eC hs ?_
  refine G.joini0 ?_
  by_cases h1:f.state=1
  ·rw [if_pos h1] at hK
   refine eC h1 ?_
   refine G.joini0 ?_
   refine gr ?_
   exact hK.sub
  ·rw [if_neg h1] at hK
   refine eC h1 ?_
   refine G.joini0 ?_
   refine G.drew ?_
   refine gr ?_
   refine G.all (decide (a.lock=f.lock)) (fun _ K hK=>by simp only [↓RG,RP,RB,BEq.rfl,Int.reduceEq,Int.reduceLT,Int.reduceLE,Nat.reduceEqDiff,cX.eqb a.lock f.lock];exact hK) ?_
   refine G.joini0 ?_
   refine G.cond (fun h=>?_) (fun h=>?_)
   ·rw [if_pos (by simpa using h)] at hK
    refine gr ?_
    refine cW (p:=f.pat) (rest:=f.rest) ?_
    refine gr ?_
    exact hK.sub
   ·rw [if_neg (by simpa using h),←fv] at hK
    rw [fC,←fv]
    refine gr ?_
    refine xk (f:=f) (x:=a.lock) ?_
    refine gr ?_
    exact hK.sub
 ·rw [if_neg hs] at hK
  refine eC hs ?_
  refine G.joini0 ?_
  refine gr ?_
  exact hK.sub
theorem zg [i:au L jm b f C](hK:G w0 L (K (u64 (if f.pat.fin=2 then f.word else 0)))):G w0 L (CP Tryz.prog YW [ptr b 0] K):=by
 refine i.ro (fun M hK=>?_) hK
 refine zc ?_
 unfold qe
 refine jh (f:=f) ?_
 by_cases h:f.pat.fin=2
 ·rw [if_pos h,fv] at hK
  refine eC h ?_
  rw [fv]
  refine gr ?_
  exact hK.sub
 ·rw [if_neg h] at hK
  refine eC h ?_
  exact hK.sub
theorem zi [i:au L jm b f C](hK:G w0 L (K (if f.pat.fin=2 then .agg #[i64 f.stripe,u64 f.lock.version] else .agg #[i64 0,u64 0]))):G w0 L (CP Tryz.prog YU [ptr b 0] K):=by
 refine i.ro (fun M hK=>?_) hK
 refine zd ?_
 unfold qE
 refine G.new fun q=>?_
 refine jh (f:=f) ?_
 by_cases h:f.pat.fin=2
 ·rw [if_pos h,fv] at hK
  refine eC h ?_
  refine G.drew ?_
  rw [fv]
  refine gr ?_
  exact hK.sub
 ·rw [if_neg h] at hK
  refine eC h ?_
  exact hK.sub
end
end Go.Proofs.YtoealglbimbbmaaGreatDoor.S
namespace Go.Proofs.YtoealglbimbbmaaGreatDoor.S
open Go Go.Proofs
set_option linter.unusedVariables false
set_option linter.unusedSimpArgs false
structure ux where
 pat:nU
 seen:List fG
 loaded:Bool
 pos:Nat
 stamp:Int
def Pi (me sp:Int)(seen:List fG):ux:=⟨mV me sp,seen,false,0,0⟩
def Km (x:ux):Prop:=x.pat.fin=0→x.loaded=true→x.pos<x.seen.length
def ia (x:ux):pD×Bool :=
 if x.pat.fin=0 then (if x.loaded=true then (⟨3,(x.seen.getD x.pos ⟨0,0⟩).stripe,0,0,ae,ae⟩,true) else (⟨6,0,0,0,ae,ae⟩,true)) else (oQ,false)
def ra (x:ux):ux:=if x.pos=x.seen.length then { x with pat:=x.pat.stop 2 0 (-1) } else x
def dS (x:ux)(a:eW):ux :=
 if (x.pat.stopped a.err).fin=0 then
  (if x.loaded=false then ra { x with loaded:=true,stamp:=a.word }
   else if a.lock.held=true then (if (x.pat.waits a.lock.owner).2=true then { x with pat:=(x.pat.waits a.lock.owner).1 } else { x with pat:=(x.pat.waits a.lock.owner).1.stop 5 0 a.lock.owner })
   else if a.lock.version=(x.seen.getD x.pos ⟨0,0⟩).version then ra { x with pos:=x.pos+1 }
   else { x with pat:=x.pat.stop 5 0 (-1) })
 else { x with pat:=x.pat.stopped a.err }
def yU (b:Nat)(x:ux):bd:=od fun v=>bt (gX (bf v [v])) (bt (own b (x.pat.cells [v,.bool x.loaded,i64 x.pos,u64 x.stamp])) (sl fX v x.seen))
section
variable {w0:bo}{L M:List bd}{K:KV}{F:World→Prop}{C:bd→List bd}{b:Nat}{x:ux}
theorem gd:G w0 (ob yU b x::M) F=∀v,bf v [v]→G w0 (own b (x.pat.cells [v,.bool x.loaded,i64 x.pos,u64 x.stamp])::sl fX v x.seen::M) F:=by
 rw [em,yU]
 simp only [qm,ez,fI]
theorem o0 [i:au L yU b x C](hK:G w0 L (K (i64 x.pat.fin))):G w0 L (CP Tryz.prog WV [ptr b 0] K):=by
 refine i.ro (fun M hK=>?_) hK
 rw [gd] at *
 intro v hv
 refine xp ?_
 unfold pe
 refine gr ?_
 refine dE (p:=x.pat) (rest:=[v,.bool x.loaded,i64 x.pos,u64 x.stamp]) ?_
 exact hK v hv
theorem yZ [i:au L yU b x C](hK:G w0 L (K (i64 x.pat.by_))):G w0 L (CP Tryz.prog Zq [ptr b 0] K):=by
 refine i.ro (fun M hK=>?_) hK
 rw [gd] at *
 intro v hv
 refine yC ?_
 unfold qn
 refine gr ?_
 refine iF (p:=x.pat) (rest:=[v,.bool x.loaded,i64 x.pos,u64 x.stamp]) ?_
 exact hK v hv
theorem mB [i:au L yU b x C](hK:G w0 L (K (u64 (if x.pat.fin=2 then x.stamp else 0)))):G w0 L (CP Tryz.prog WP [ptr b 0] K):=by
 refine i.ro (fun M hK=>?_) hK
 refine ua ?_
 unfold mH
 refine o0 (x:=x) ?_
 by_cases h:x.pat.fin=2
 ·rw [if_pos h,gd] at hK
  refine eC h ?_
  rw [gd]
  intro v hv
  refine gr ?_
  exact(hK v hv).sub
 ·rw [if_neg h] at hK
  refine eC h ?_
  exact hK.sub
theorem wi (ho:Km x)[i:au L yU b x C](hK:G w0 L (K (.tuple #[.agg (pD.cells (ia x).1).toArray,.bool (ia x).2]))):G w0 L (CP Tryz.prog Zr [ptr b 0] K):=by
 refine i.ro (fun M hK=>?_) hK
 rw [gd] at *
 intro v hv
 have hK:=hK v hv
 refine vA ?_
 unfold ox
 refine gu ?_
 refine G.new fun q=>?_
 refine gr ?_
 refine dE (p:=x.pat) (rest:=[v,.bool x.loaded,i64 x.pos,u64 x.stamp]) ?_
 refine gr ?_
 unfold ia at hK
 by_cases h:x.pat.fin=0
 ·rw [if_pos h] at hK
  refine eC h ?_
  by_cases h2:x.loaded=true
  ·rw [if_pos h2] at hK
   have hp:=ho h h2
   have e:=cw hp
   have hg:x.seen.getD x.pos ⟨0,0⟩=x.seen[x.pos]:=by simp [hp]
   rw [hg] at hK
   simp only [h2] at hK
   refine eC h2 ?_
   refine G.drew ?_
   refine gr ?_
   exact hK.sub
  ·have h3:x.loaded=false:=by simpa using h2
   rw [if_neg h2] at hK
   simp only [h3] at hK
   refine eC h3 ?_
   exact hK.sub
 ·rw [if_neg h] at hK
  refine eC h ?_
  exact hK.sub
theorem It {me sp:Int}{u:Value}{xs:List fG}{sz:Nat}[r:Rd w0 L u fX sz xs](hl:xs.length≤1000000)(hK:∀b,G w0 (ob yU b (Pi me sp xs)::L) (K (ptr b 0))):G w0 L (CP Tryz.prog YF [i64 me,i64 sp,u] K):=by
 refine IK ?_
 unfold AL
 refine qy ?_
 refine fm (xs:=xs) hl fun v hv=>?_
 refine gr ?_
 refine G.box fun b=>?_
 refine gr ?_
 have h:=hK b
 rw [gd] at h
 exact h v hv
theorem KE {v:Value}{q:Nat}{y:List Value}(hv:bf v [v])(hK:G w0 (ob yU b (ra x)::M) (K (.tuple #[])))(hf:x.seen.length<4611686018427387904) :
  G w0 (own q y::own b (x.pat.cells [v,.bool x.loaded,i64 x.pos,u64 x.stamp])::sl fX v x.seen::M) (fun w =>
   aa (ptr b 7) (fun x12 w=>aa (ptr b 5) (fun x15 w=>cv x15 (fun x16 w=>ab .eql x12 x16 (fun x17 w =>
    ba (fun w=>K (.tuple #[]) w) (fun j2 w=>ai x17 (fun w=>CP Tryz.prog ge [ptr b 0,.int .i64 2,.int .i64 0,.int .i64 (-1)] (fun x20 w=>j2 w) w) (fun w=>j2 w) w) w) w) w) w) w):=by
 refine gr ?_
 refine G.joini0 ?_
 unfold ra at hK
 refine G.cond (fun h=>?_) (fun h=>?_)
 ·rw [if_pos (by simp at h;omega),gd] at hK
  refine cW (p:=x.pat) (rest:=[v,.bool x.loaded,i64 x.pos,u64 x.stamp]) ?_
  refine gr ?_
  exact(hK v hv).sub
 ·rw [if_neg (by simp at h;omega),gd] at hK
  exact(hK v hv).sub
theorem wC {a:eW}(ho:Km x)(hf:x.seen.length≤1000000)[i:au L yU b x C](hK:G w0 (C (ob yU b (dS x a))) (K (.tuple #[]))):G w0 L (CP Tryz.prog Zs [ptr b 0,.agg (eW.cells a).toArray] K):=by
 refine i.use (fun M hK=>?_) hK
 refine v8 ?_
 unfold og
 refine gu ?_
 refine G.box fun q=>?_
 rw [fC,gd]
 intro v hv
 refine G.drew ?_
 refine gr ?_
 refine fU (p:=x.pat) (a:=a) (rest:=[v,.bool x.loaded,i64 x.pos,u64 x.stamp]) ?_
 unfold dS at hK
 by_cases hs:(x.pat.stopped a.err).fin=0
 ·have hp:x.pat.stopped a.err=x.pat:=by
   unfold nU.stopped at hs ⊢;split
   ·rename_i h;rw [if_pos h] at hs;simp [nU.stop] at hs
   ·rfl
  rw [if_pos hs] at hK
  rw [hp] at hs
  rw [hp]
  refine eC hs ?_
  cases hl:x.loaded
  ·rw [if_pos hl] at hK
   refine eC hl ?_
   refine G.joini0 ?_
   refine G.drew ?_
   refine gr ?_
   refine G.drew ?_
   rw [E1]
   exact KE (x:={ x with loaded:=true,stamp:=a.word }) hv hK (by simp only;omega)
  ·rw [if_neg (by rw [hl];decide)] at hK
   have kj:=ho hs hl
   have e:=cw kj
   have hg:x.seen.getD x.pos ⟨0,0⟩=x.seen[x.pos]:=by simp [kj]
   refine eC hl ?_
   refine G.joini0 ?_
   try simp (maxSteps:=2000000) only [↓RG,RP,RB,BEq.rfl,Int.reduceEq,Int.reduceLT,Int.reduceLE,Nat.reduceEqDiff,Nat.reduceAdd]
   cases hh:a.lock.held
   ·rw [if_neg (by rw [hh];decide),hg] at hK
    refine eC hh ?_
    refine G.drew ?_
    refine gr ?_
    by_cases hv2:a.lock.version=x.seen[x.pos].version
    ·rw [if_pos hv2] at hK
     refine eC hv2 ?_
     rw [dx (by omega)]
     refine G.drew ?_
     rw [E1]
     have hK':G w0 (ob yU b (ra { x with loaded:=true,pos:=x.pos+1 })::M) (K (.tuple #[])):=by
      have:({ x with loaded:=true,pos:=x.pos+1 }:ux)={ x with pos:=x.pos+1 }:=by rw [←hl]
      rw [this];exact hK
     exact KE (x:={ x with loaded:=true,pos:=x.pos+1 }) hv hK' (by simp only;omega)
    ·rw [if_neg hv2,gd] at hK
     refine eC hv2 ?_
     refine cW (p:=x.pat) (rest:=[v,.bool true,i64 x.pos,u64 x.stamp]) ?_
     have hK:=hK v hv
     simp only [hl] at hK
     refine gr ?_
     exact hK.sub
   ·rw [if_pos hh] at hK
    refine eC hh ?_
    refine G.drew ?_
    refine eC hh ?_
    refine gK (p:=x.pat) (x:=⟨a.lock.version,true,a.lock.owner⟩) (rest:=[v,.bool true,i64 x.pos,u64 x.stamp]) ?_
    refine gr ?_
    refine G.joini0 ?_
    cases hw:(x.pat.waits a.lock.owner).2
    ·rw [if_neg (by rw [hw];decide),gd] at hK
     have hK:=hK v hv
     simp only [hl] at hK
     refine eC hw ?_
     refine G.drew ?_
     try simp (maxSteps:=2000000) only [↓RG,RP,RB,BEq.rfl,Int.reduceEq,Int.reduceLT,Int.reduceLE,Nat.reduceEqDiff,Nat.reduceAdd]
     refine cW (p:=(x.pat.waits a.lock.owner).1) (rest:=[v,.bool true,i64 x.pos,u64 x.stamp]) ?_
     refine gr ?_
     exact hK.sub
    ·rw [if_pos hw,gd] at hK
     have hK:=hK v hv
     simp only [hl] at hK
     refine eC hw ?_
     exact hK.sub
 ·rw [if_neg hs,gd] at hK
  refine eC hs ?_
  exact(hK v hv).sub
end
end Go.Proofs.YtoealglbimbbmaaGreatDoor.S
