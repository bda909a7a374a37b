import Derived.Test.YtoealglbimbbmaaGreatDoorReads
namespace Go.Proofs.YtoealglbimbbmaaGreatDoor.S
open Go Go.Proofs
set_option linter.unusedVariables false
set_option linter.unusedSimpArgs false
structure n8 where
 me:Int
 spins:Int
 fin:Int
 by_:Int
 err:Int
abbrev n8.cells (p:n8)(rest:List Value):List Value:=i64 p.me::i64 p.spins::i64 p.fin::i64 p.by_::i64 p.err::rest
def nI (me spins:Int):n8:=⟨me,held spins 0 4,0,-1,0⟩
def n8.stop (p:n8)(e er b:Int):n8:={ p with fin:=e,err:=er,by_:=b }
def n8.waits (p:n8)(owner:Int):n8×Bool:=if owner > p.me then (p,true) else ({ p with spins:=IntKind.wrap .i64 (p.spins-1) },decide (IntKind.wrap .i64 (p.spins-1) ≥ 0))
def n8.stopped (p:n8)(err:Int):n8:=if p.fin=0∧err≠0 then p.stop 4 err (-1) else p
section
variable {w0:bh}{L M:List ay}{K:KV}{F:World→Prop}{C:ay→List ay}{b:Nat}{p:n8}{rest:List Value}
theorem qJ {me sp:Int}(hK:G w0 L (K (.agg ((nI me sp).cells []).toArray))):G w0 L (CP Tryz.prog Fn.patience_New [i64 me,i64 sp] K):=by
 refine Ec ?_
 unfold v7
 refine G.new fun q=>?_
 refine gr ?_
 have e:(if (if (4:Int)<sp then 4 else sp) > 0 then if (4:Int)<sp then 4 else sp else 0)=held sp 0 4:=by unfold held;split <;> split <;> split <;> (try split) <;> omega
 rw [e]
 exact hK.sub
theorem dv [i:aq L oM b (p.cells rest) C](hK:G w0 L (K (i64 p.fin))):G w0 L (CP Tryz.prog Fn.patience_Patience_End [ptr b 0] K):=by
 refine i.ro (fun M hK=>?_) hK
 refine sW ?_
 unfold kV
 refine gr ?_
 exact hK
theorem iR [i:aq L oM b (p.cells rest) C](hK:G w0 L (K (i64 p.by_))):G w0 L (CP Tryz.prog Fn.patience_Patience_By [ptr b 0] K):=by
 refine i.ro (fun M hK=>?_) hK
 refine tA ?_
 unfold mf
 refine gr ?_
 exact hK
theorem sq [i:aq L oM b (p.cells rest) C](hK:G w0 L (K (i64 p.err))):G w0 L (CP Tryz.prog Fn.patience_Patience_Err [ptr b 0] K):=by
 refine i.ro (fun M hK=>?_) hK
 refine sx ?_
 unfold lf
 refine gr ?_
 exact hK
theorem cv {e er by_:Int}[i:aq L oM b (p.cells rest) C](hK:G w0 (C (own b ((p.stop e er by_).cells rest))) (K (.tuple #[]))):G w0 L (CP Tryz.prog Fn.patience_Patience_Stop [ptr b 0,i64 e,i64 er,i64 by_] K):=by
 refine i.use (fun M hK=>?_) hK
 refine r8 ?_
 unfold kx
 refine gr ?_
 exact hK
theorem gQ {x:cw}[i:aq L oM b (p.cells rest) C](hK:G w0 (C (own b ((p.waits x.owner).1.cells rest))) (K (.bool (p.waits x.owner).2))):G w0 L (CP Tryz.prog Fn.patience_Patience_Waits [ptr b 0,.agg #[u64 x.version,.bool x.held,i64 x.owner]] K):=by
 refine i.use (fun M hK=>?_) hK
 refine rb ?_
 unfold jU
 refine G.box fun q=>?_
 refine G.drew ?_
 refine gr ?_
 refine G.cond (fun h=>?_) (fun h=>?_)
 ·have:p.waits x.owner=(p,true):=by unfold n8.waits;simp at h;simp [h]
  rw [this] at hK
  exact hK.sub
 ·have:p.waits x.owner=({ p with spins:=IntKind.wrap .i64 (p.spins-1) },decide (IntKind.wrap .i64 (p.spins-1) ≥ 0)):=by unfold n8.waits;simp at h;rw [if_neg (by omega)]
  rw [this] at hK
  refine gr ?_
  exact hK.sub
theorem gl {a:fG}[i:aq L oM b (p.cells rest) C](hK:G w0 (C (own b ((p.stopped a.err).cells rest))) (K (.bool (!decide ((p.stopped a.err).fin=0))))):G w0 L (CP Tryz.prog Fn.patience_Patience_Stopped [ptr b 0,.agg (fG.cells a).toArray] K):=by
 refine i.use (fun M hK=>?_) hK
 refine p7 ?_
 unfold jk
 refine gu ?_
 refine G.box fun q=>?_
 refine gr ?_
 refine G.all (decide (a.err≠0)) (fun _ K hK=>by refine gr ?_;simpa using hK) ?_
 refine G.joini0 ?_
 refine G.cond (fun h=>?_) (fun h=>?_)
 ·have:p.stopped a.err=p.stop 4 a.err (-1):=by unfold n8.stopped;simp at h;simp [h]
  rw [this] at hK
  refine gr ?_
  refine cv (p:=p) (rest:=rest) ?_
  refine gr ?_
  exact hK.sub
 ·have:p.stopped a.err=p:=by unfold n8.stopped;simp at h;rw [if_neg (fun g=>g.2 (h g.1))]
  rw [this] at hK
  refine gr ?_
  exact hK.sub
end
end Go.Proofs.YtoealglbimbbmaaGreatDoor.S
namespace Go.Proofs.YtoealglbimbbmaaGreatDoor.S
open Go Go.Proofs
set_option linter.unusedVariables false
set_option linter.unusedSimpArgs false
structure fQ where
 pat:n8
 place:Int
 stripe:Int
 stamp:Int
 state:Int
 lock:cw
 word:Int
def zx:rq:=⟨0,0,0,0,ah,ah⟩
def JX (me place stripe sp stamp:Int):fQ:=⟨nI me sp,place,stripe,stamp,0,ah,0⟩
def gB (f:fQ):rq×Bool :=
 if f.pat.fin=0 then (if f.state=1 then (⟨1,f.place,0,0,ah,ah⟩,true) else (⟨3,f.stripe,0,0,ah,ah⟩,true)) else (zx,false)
def kM (f:fQ)(l:cw):fQ :=
 if l.held=true then (if (f.pat.waits l.owner).2=true then { f with state:=0,pat:=(f.pat.waits l.owner).1 } else { f with state:=0,pat:=(f.pat.waits l.owner).1.stop 5 0 l.owner })
 else if l.version > f.stamp then { f with state:=0,pat:=f.pat.stop 6 0 (-1) }
 else { f with state:=1,lock:=l }
def gR (f:fQ)(a:fG):fQ :=
 if (f.pat.stopped a.err).fin=0 then
  (if f.state=1 then { f with word:=a.word,state:=2 }
   else if f.state=2∧a.lock=f.lock then { f with pat:=f.pat.stop 2 0 (-1) }
   else kM f a.lock)
 else { f with pat:=f.pat.stopped a.err }
abbrev fQ.rest (f:fQ):List Value:=[i64 f.place,i64 f.stripe,u64 f.stamp,i64 f.state,u64 f.lock.version,.bool f.lock.held,i64 f.lock.owner,u64 f.word]
def jB (b:Nat)(f:fQ):ay:=own b (f.pat.cells f.rest)
section
variable {w0:bh}{L M:List ay}{K:KV}{F:World→Prop}{C:ay→List ay}{b:Nat}{f:fQ}
theorem fF:ob jB b f=own b (f.pat.cells f.rest):=by rw [eZ,jB]
theorem Ks {me pl st sp sm:Int}(hK:∀b,G w0 (ob jB b (JX me pl st sp sm)::L) (K (ptr b 0))):G w0 L (CP Tryz.prog Fn.fetch_New [i64 me,i64 pl,i64 st,i64 sp,u64 sm] K):=by
 refine Km ?_
 unfold CR
 refine qJ ?_
 refine gr ?_
 refine G.box fun b=>?_
 refine gr ?_
 have h:=hK b
 rw [fF] at h
 exact h
theorem jh [i:aq L jB b f C](hK:G w0 L (K (i64 f.pat.fin))):G w0 L (CP Tryz.prog Fn.fetch_Fetch_End [ptr b 0] K):=by
 refine i.ro (fun M hK=>?_) hK
 rw [fF] at *
 refine Bv ?_
 unfold rL
 refine gr ?_
 refine dv (p:=f.pat) (rest:=f.rest) ?_
 exact hK
theorem Cf [i:aq L jB b f C](hK:G w0 L (K (i64 f.pat.by_))):G w0 L (CP Tryz.prog Fn.fetch_Fetch_By [ptr b 0] K):=by
 refine i.ro (fun M hK=>?_) hK
 rw [fF] at *
 refine CJ ?_
 unfold sQ
 refine gr ?_
 refine iR (p:=f.pat) (rest:=f.rest) ?_
 exact hK
theorem zG [i:aq L jB b f C](hK:G w0 L (K (.tuple #[.agg (rq.cells (gB f).1).toArray,.bool (gB f).2]))):G w0 L (CP Tryz.prog Fn.fetch_Fetch_Next [ptr b 0] K):=by
 refine i.ro (fun M hK=>?_) hK
 rw [fF] at *
 refine Ah ?_
 unfold qy
 refine G.new fun q=>?_
 refine gr ?_
 refine dv (p:=f.pat) (rest:=f.rest) ?_
 refine gr ?_
 unfold gB at hK
 by_cases h:f.pat.fin=0
 ·rw [if_pos h] at hK
  refine eY h ?_
  by_cases h2:f.state=1
  ·rw [if_pos h2] at hK
   refine eY h2 ?_
   exact hK.sub
  ·rw [if_neg h2] at hK
   refine eY h2 ?_
   exact hK.sub
 ·rw [if_neg h] at hK
  refine eY h ?_
  exact hK.sub
theorem yA {x:cw}[i:aq L jB b f C](hK:G w0 (C (ob jB b (kM f x))) (K (.tuple #[]))):G w0 L (CP Tryz.prog Fn.fetch_Fetch_found [ptr b 0,.agg #[u64 x.version,.bool x.held,i64 x.owner]] K):=by
 refine i.use (fun M hK=>?_) hK
 rw [fF] at *
 refine yd ?_
 unfold pE
 refine gu ?_
 refine G.box fun q=>?_
 refine gr ?_
 refine G.joini0 ?_
 unfold kM at hK
 obtain⟨v,h,o⟩:=x
 cases h
 ·rw [if_neg (by simp)] at hK
  refine gr ?_
  refine G.drew ?_
  refine gr ?_
  refine G.joini0 ?_
  refine G.cond (fun h=>?_) (fun h=>?_)
  ·rw [if_pos (by simpa using h)] at hK
   refine gr ?_
   refine cv (p:=f.pat) (rest:=[i64 f.place,i64 f.stripe,u64 f.stamp,i64 0,u64 f.lock.version,.bool f.lock.held,i64 f.lock.owner,u64 f.word]) ?_
   refine gr ?_
   exact hK.sub
  ·rw [if_neg (by simpa using h)] at hK
   refine gr ?_
   exact hK.sub
 ·rw [if_pos rfl] at hK
  refine gr ?_
  refine G.drew ?_
  refine gr ?_
  refine gQ (p:=f.pat) (x:=⟨v,true,o⟩) (rest:=[i64 f.place,i64 f.stripe,u64 f.stamp,i64 0,u64 f.lock.version,.bool f.lock.held,i64 f.lock.owner,u64 f.word]) ?_
  refine gr ?_
  refine G.joini0 ?_
  cases hw:(f.pat.waits o).2
  ·rw [if_neg (by rw [hw];decide)] at hK
   refine eY hw ?_
   refine G.drew ?_
   refine gr ?_
   refine cv (p:=(f.pat.waits o).1) (rest:=[i64 f.place,i64 f.stripe,u64 f.stamp,i64 0,u64 f.lock.version,.bool f.lock.held,i64 f.lock.owner,u64 f.word]) ?_
   refine gr ?_
   exact hK.sub
  ·rw [if_pos hw] at hK
   refine eY hw ?_
   exact hK.sub
theorem z9 {a:fG}[i:aq L jB b f C](hK:G w0 (C (ob jB b (gR f a))) (K (.tuple #[]))):G w0 L (CP Tryz.prog Fn.fetch_Fetch_Tell [ptr b 0,.agg (fG.cells a).toArray] K):=by
 refine i.use (fun M hK=>?_) hK
 rw [fF] at *
 refine zP ?_
 unfold qZ
 refine gu ?_
 refine G.box fun q=>?_
 refine gr ?_
 refine G.drew ?_
 refine gr ?_
 refine gl (p:=f.pat) (a:=a) ?_
 unfold gR at hK
 by_cases hs:(f.pat.stopped a.err).fin=0
 ·have hp:f.pat.stopped a.err=f.pat:=by
   unfold n8.stopped at hs ⊢;split
   ·rename_i h;rw [if_pos h] at hs;simp [n8.stop] at hs
   ·rfl
  rw [if_pos hs] at hK
  rw [hp] at hs
  rw [hp]
  refine eY hs ?_
  refine G.joini0 ?_
  by_cases h1:f.state=1
  ·rw [if_pos h1] at hK
   refine eY h1 ?_
   refine G.joini0 ?_
   refine gr ?_
   exact hK.sub
  ·rw [if_neg h1] at hK
   refine eY h1 ?_
   refine G.joini0 ?_
   refine G.drew ?_
   refine gr ?_
   refine G.all (decide (a.lock=f.lock)) (fun _ K hK=>by simp only [↓RG,RP,RB,BEq.rfl,Int.reduceEq,Int.reduceLT,Int.reduceLE,Nat.reduceEqDiff,cw.eqb a.lock f.lock];exact hK) ?_
   refine G.joini0 ?_
   refine G.cond (fun h=>?_) (fun h=>?_)
   ·rw [if_pos (by simpa using h)] at hK
    refine gr ?_
    refine cv (p:=f.pat) (rest:=f.rest) ?_
    refine gr ?_
    exact hK.sub
   ·rw [if_neg (by simpa using h),←fF] at hK
    rw [fA,←fF]
    refine gr ?_
    refine yA (f:=f) (x:=a.lock) ?_
    refine gr ?_
    exact hK.sub
 ·rw [if_neg hs] at hK
  refine eY hs ?_
  refine G.joini0 ?_
  refine gr ?_
  exact hK.sub
theorem zL [i:aq L jB b f C](hK:G w0 L (K (u64 (if f.pat.fin=2 then f.word else 0)))):G w0 L (CP Tryz.prog Fn.fetch_Fetch_Word [ptr b 0] K):=by
 refine i.ro (fun M hK=>?_) hK
 refine Af ?_
 unfold qh
 refine jh (f:=f) ?_
 by_cases h:f.pat.fin=2
 ·rw [if_pos h,fF] at hK
  refine eY h ?_
  rw [fF]
  refine gr ?_
  exact hK.sub
 ·rw [if_neg h] at hK
  refine eY h ?_
  exact hK.sub
theorem zH [i:aq L jB b f C](hK:G w0 L (K (if f.pat.fin=2 then .agg #[i64 f.stripe,u64 f.lock.version] else .agg #[i64 0,u64 0]))):G w0 L (CP Tryz.prog Fn.fetch_Fetch_Seen [ptr b 0] K):=by
 refine i.ro (fun M hK=>?_) hK
 refine zy ?_
 unfold qD
 refine G.new fun q=>?_
 refine jh (f:=f) ?_
 by_cases h:f.pat.fin=2
 ·rw [if_pos h,fF] at hK
  refine eY h ?_
  refine G.drew ?_
  rw [fF]
  refine gr ?_
  exact hK.sub
 ·rw [if_neg h] at hK
  refine eY h ?_
  exact hK.sub
end
end Go.Proofs.YtoealglbimbbmaaGreatDoor.S
namespace Go.Proofs.YtoealglbimbbmaaGreatDoor.S
open Go Go.Proofs
set_option linter.unusedVariables false
set_option linter.unusedSimpArgs false
structure vq where
 pat:n8
 seen:List fS
 loaded:Bool
 pos:Nat
 stamp:Int
def PI (me sp:Int)(seen:List fS):vq:=⟨nI me sp,seen,false,0,0⟩
def J0 (x:vq):Prop:=x.pat.fin=0→x.loaded=true→x.pos<x.seen.length
def mm (x:vq):rq×Bool :=
 if x.pat.fin=0 then (if x.loaded=true then (⟨3,(x.seen.getD x.pos ⟨0,0⟩).stripe,0,0,ah,ah⟩,true) else (⟨6,0,0,0,ah,ah⟩,true)) else (zx,false)
def rt (x:vq):vq:=if x.pos=x.seen.length then { x with pat:=x.pat.stop 2 0 (-1) } else x
def nQ (x:vq)(a:fG):vq :=
 if (x.pat.stopped a.err).fin=0 then
  (if x.loaded=false then rt { x with loaded:=true,stamp:=a.word }
   else if a.lock.held=true then (if (x.pat.waits a.lock.owner).2=true then { x with pat:=(x.pat.waits a.lock.owner).1 } else { x with pat:=(x.pat.waits a.lock.owner).1.stop 5 0 a.lock.owner })
   else if a.lock.version=(x.seen.getD x.pos ⟨0,0⟩).version then rt { x with pos:=x.pos+1 }
   else { x with pat:=x.pat.stop 5 0 (-1) })
 else { x with pat:=x.pat.stopped a.err }
def zW (b:Nat)(x:vq):ay:=m3 fun v=>bk (ic (ar v [v])) (bk (own b (x.pat.cells [v,.bool x.loaded,i64 x.pos,u64 x.stamp])) (sl gm v x.seen))
section
variable {w0:bh}{L M:List ay}{K:KV}{F:World→Prop}{C:ay→List ay}{b:Nat}{x:vq}
theorem gC:G w0 (ob zW b x::M) F=∀v,ar v [v]→G w0 (own b (x.pat.cells [v,.bool x.loaded,i64 x.pos,u64 x.stamp])::sl gm v x.seen::M) F:=by
 rw [eZ,zW]
 simp only [qr,fb,fU]
theorem pC [i:aq L zW b x C](hK:G w0 L (K (i64 x.pat.fin))):G w0 L (CP Tryz.prog Fn.extend_Extend_End [ptr b 0] K):=by
 refine i.ro (fun M hK=>?_) hK
 rw [gC] at *
 intro v hv
 refine yw ?_
 unfold pI
 refine gr ?_
 refine dv (p:=x.pat) (rest:=[v,.bool x.loaded,i64 x.pos,u64 x.stamp]) ?_
 exact hK v hv
theorem zU [i:aq L zW b x C](hK:G w0 L (K (i64 x.pat.by_))):G w0 L (CP Tryz.prog Fn.extend_Extend_By [ptr b 0] K):=by
 refine i.ro (fun M hK=>?_) hK
 rw [gC] at *
 intro v hv
 refine zY ?_
 unfold qH
 refine gr ?_
 refine iR (p:=x.pat) (rest:=[v,.bool x.loaded,i64 x.pos,u64 x.stamp]) ?_
 exact hK v hv
theorem mP [i:aq L zW b x C](hK:G w0 L (K (u64 (if x.pat.fin=2 then x.stamp else 0)))):G w0 L (CP Tryz.prog Fn.extend_Extend_Stamp [ptr b 0] K):=by
 refine i.ro (fun M hK=>?_) hK
 refine vk ?_
 unfold mF
 refine pC (x:=x) ?_
 by_cases h:x.pat.fin=2
 ·rw [if_pos h,gC] at hK
  refine eY h ?_
  rw [gC]
  intro v hv
  refine gr ?_
  exact(hK v hv).sub
 ·rw [if_neg h] at hK
  refine eY h ?_
  exact hK.sub
theorem we (ho:J0 x)[i:aq L zW b x C](hK:G w0 L (K (.tuple #[.agg (rq.cells (mm x).1).toArray,.bool (mm x).2]))):G w0 L (CP Tryz.prog Fn.extend_Extend_Next [ptr b 0] K):=by
 refine i.ro (fun M hK=>?_) hK
 rw [gC] at *
 intro v hv
 have hK:=hK v hv
 refine xn ?_
 unfold oU
 refine gu ?_
 refine G.new fun q=>?_
 refine gr ?_
 refine dv (p:=x.pat) (rest:=[v,.bool x.loaded,i64 x.pos,u64 x.stamp]) ?_
 refine gr ?_
 unfold mm at hK
 by_cases h:x.pat.fin=0
 ·rw [if_pos h] at hK
  refine eY h ?_
  by_cases h2:x.loaded=true
  ·rw [if_pos h2] at hK
   have hp:=ho h h2
   have e:=ct hp
   have hg:x.seen.getD x.pos ⟨0,0⟩=x.seen[x.pos]:=by simp [hp]
   rw [hg] at hK
   simp only [h2] at hK
   refine eY h2 ?_
   refine G.drew ?_
   refine gr ?_
   exact hK.sub
  ·have h3:x.loaded=false:=by simpa using h2
   rw [if_neg h2] at hK
   simp only [h3] at hK
   refine eY h3 ?_
   exact hK.sub
 ·rw [if_neg h] at hK
  refine eY h ?_
  exact hK.sub
theorem IG {me sp:Int}{u:Value}{xs:List fS}{sz:Nat}[r:Rd w0 L u gm sz xs](hl:xs.length≤1000000)(hK:∀b,G w0 (ob zW b (PI me sp xs)::L) (K (ptr b 0))):G w0 L (CP Tryz.prog Fn.extend_New [i64 me,i64 sp,u] K):=by
 refine IP ?_
 unfold Br
 refine qJ ?_
 refine fy (xs:=xs) hl fun v hv=>?_
 refine gr ?_
 refine G.box fun b=>?_
 refine gr ?_
 have h:=hK b
 rw [gC] at h
 exact h v hv
theorem JV {v:Value}{q:Nat}{y:List Value}(hv:ar v [v])(hK:G w0 (ob zW b (rt x)::M) (K (.tuple #[])))(hf:x.seen.length<4611686018427387904) :
  G w0 (own q y::own b (x.pat.cells [v,.bool x.loaded,i64 x.pos,u64 x.stamp])::sl gm v x.seen::M) (fun w =>
   ab (ptr b 7) (fun x12 w=>ab (ptr b 5) (fun x15 w=>bp x15 (fun x16 w=>aa .eql x12 x16 (fun x17 w =>
    ax (fun w=>K (.tuple #[]) w) (fun j2 w=>ae x17 (fun w=>CP Tryz.prog Fn.patience_Patience_Stop [ptr b 0,.int .i64 2,.int .i64 0,.int .i64 (-1)] (fun x20 w=>j2 w) w) (fun w=>j2 w) w) w) w) w) w) w):=by
 refine gr ?_
 refine G.joini0 ?_
 unfold rt at hK
 refine G.cond (fun h=>?_) (fun h=>?_)
 ·rw [if_pos (by simp at h;omega),gC] at hK
  refine cv (p:=x.pat) (rest:=[v,.bool x.loaded,i64 x.pos,u64 x.stamp]) ?_
  refine gr ?_
  exact(hK v hv).sub
 ·rw [if_neg (by simp at h;omega),gC] at hK
  exact(hK v hv).sub
theorem xk {a:fG}(ho:J0 x)(hf:x.seen.length≤1000000)[i:aq L zW b x C](hK:G w0 (C (ob zW b (nQ x a))) (K (.tuple #[]))):G w0 L (CP Tryz.prog Fn.extend_Extend_Tell [ptr b 0,.agg (fG.cells a).toArray] K):=by
 refine i.use (fun M hK=>?_) hK
 refine xB ?_
 unfold oP
 refine gu ?_
 refine G.box fun q=>?_
 rw [fA,gC]
 intro v hv
 refine G.drew ?_
 refine gr ?_
 refine gl (p:=x.pat) (a:=a) (rest:=[v,.bool x.loaded,i64 x.pos,u64 x.stamp]) ?_
 unfold nQ at hK
 by_cases hs:(x.pat.stopped a.err).fin=0
 ·have hp:x.pat.stopped a.err=x.pat:=by
   unfold n8.stopped at hs ⊢;split
   ·rename_i h;rw [if_pos h] at hs;simp [n8.stop] at hs
   ·rfl
  rw [if_pos hs] at hK
  rw [hp] at hs
  rw [hp]
  refine eY hs ?_
  cases hl:x.loaded
  ·rw [if_pos hl] at hK
   refine eY hl ?_
   refine G.joini0 ?_
   refine G.drew ?_
   refine gr ?_
   refine G.drew ?_
   rw [E5]
   exact JV (x:={ x with loaded:=true,stamp:=a.word }) hv hK (by simp only;omega)
  ·rw [if_neg (by rw [hl];decide)] at hK
   have hp2:=ho hs hl
   have e:=ct hp2
   have hg:x.seen.getD x.pos ⟨0,0⟩=x.seen[x.pos]:=by simp [hp2]
   refine eY hl ?_
   refine G.joini0 ?_
   try simp (maxSteps:=2000000) only [↓RG,RP,RB,BEq.rfl,Int.reduceEq,Int.reduceLT,Int.reduceLE,Nat.reduceEqDiff,Nat.reduceAdd]
   cases hh:a.lock.held
   ·rw [if_neg (by rw [hh];decide),hg] at hK
    refine eY hh ?_
    refine G.drew ?_
    refine gr ?_
    by_cases hv2:a.lock.version=x.seen[x.pos].version
    ·rw [if_pos hv2] at hK
     refine eY hv2 ?_
     rw [di (by omega)]
     refine G.drew ?_
     rw [E5]
     have hK':G w0 (ob zW b (rt { x with loaded:=true,pos:=x.pos+1 })::M) (K (.tuple #[])):=by
      have:({ x with loaded:=true,pos:=x.pos+1 }:vq)={ x with pos:=x.pos+1 }:=by rw [←hl]
      rw [this];exact hK
     exact JV (x:={ x with loaded:=true,pos:=x.pos+1 }) hv hK' (by simp only;omega)
    ·rw [if_neg hv2,gC] at hK
     refine eY hv2 ?_
     refine cv (p:=x.pat) (rest:=[v,.bool true,i64 x.pos,u64 x.stamp]) ?_
     have hK:=hK v hv
     simp only [hl] at hK
     refine gr ?_
     exact hK.sub
   ·rw [if_pos hh] at hK
    refine eY hh ?_
    refine G.drew ?_
    refine eY hh ?_
    refine gQ (p:=x.pat) (x:=⟨a.lock.version,true,a.lock.owner⟩) (rest:=[v,.bool true,i64 x.pos,u64 x.stamp]) ?_
    refine gr ?_
    refine G.joini0 ?_
    cases hw:(x.pat.waits a.lock.owner).2
    ·rw [if_neg (by rw [hw];decide),gC] at hK
     have hK:=hK v hv
     simp only [hl] at hK
     refine eY hw ?_
     refine G.drew ?_
     try simp (maxSteps:=2000000) only [↓RG,RP,RB,BEq.rfl,Int.reduceEq,Int.reduceLT,Int.reduceLE,Nat.reduceEqDiff,Nat.reduceAdd]
     refine cv (p:=(x.pat.waits a.lock.owner).1) (rest:=[v,.bool true,i64 x.pos,u64 x.stamp]) ?_
     refine gr ?_
     exact hK.sub
    ·rw [if_pos hw,gC] at hK
     have hK:=hK v hv
     simp only [hl] at hK
     refine eY hw ?_
     exact hK.sub
 ·rw [if_neg hs,gC] at hK
  refine eY hs ?_
  exact(hK v hv).sub
end
end Go.Proofs.YtoealglbimbbmaaGreatDoor.S
