import Derived.Test.YtoealglbimbbmaaGreatDoorQAttT
namespace Go.Proofs.YtoealglbimbbmaaGreatDoor.S
open Go Go.Proofs
set_option linter.unusedVariables false
set_option linter.unusedSimpArgs false
def cd {α:Type}(f:α→bd)(_:Unit)(l:List α):bd:=di (l.map f)
section
variable {α:Type}{f:α→bd}{w0:bo}{L M:List bd}{F:World→Prop}{l:List α}{x:α}{k:Nat}
theorem ju (h:l[k]? = some x):G w0 (ob (cd f) () l::M) F=G w0 (f x::ob (cd f) () (l.eraseIdx k)::M) F:=dq (by
 show bt (ob (cd f) () l) (di M)=bt (f x) (bt (ob (cd f) () (l.eraseIdx k)) (di M))
 rw [em (cd f),em (cd f),cd,Ln _ h,←Dd];rfl)
theorem iU:G w0 (ob (cd f) () (l++[x])::M) F=G w0 (f x::ob (cd f) () l::M) F:=by
 rw [ju (k:=l.length) (x:=x) (by simp)]
 congr 3
 simp [List.eraseIdx_append_of_length_le]
theorem lI (H:G w0 (ob (cd f) () []::M) F):G w0 M F:=by
 have:G w0 (ob (cd f) () []::M) F=G w0 (LR::M) F:=by
  rw [em];rfl
 rw [this,J5] at H
 exact H
end
abbrev pR (p:kx×List dv):bd:=sl gD p.1.v p.2
def iu (v:Value)(jobs:List (List dv)):bd:=od fun l:List (kx×List dv)=>bt (gX (l.map (·.2)=jobs)) (bt (sl eu v (l.map (·.1))) (ob (cd pR) () l))
abbrev fS:Type:=sY×Ta×List Int
abbrev dV (p:fS):bd:=bt (bt (sl bk p.1.reads.v p.2.1.reads) (sl bk p.1.cells_.v p.2.1.cells)) (sl bx p.1.frees.v p.2.2)
structure tP (p:fS):Prop where
 stamp:p.1.stamp=p.2.1.stamp
 done:decide (p.1.kind=2)=p.2.1.done
 born:p.1.born=p.2.1.born
 ended:p.1.ended=p.2.1.ended
 reads:p.2.1.reads.length≤1000
 cells:p.2.1.cells.length≤1000
 frees:p.2.2.length≤100000
def jn (v:Value)(l:List Ta):bd:=od fun q:List fS=>bt (gX (q.map (·.2.1)=l∧∀p∈q,tP p)) (bt (sl fg v (q.map (·.1))) (ob (cd dV) () q))
def mj (v:Value):Option bi→bd
 | none=>gX (v=.pointer none)
 | some a=>od fun p=>bt (gX (v=ptr p 0)) (ob eA p a)
abbrev bq.cells (x:bq)(vj vn vp vr:Value)(lp:Nat)(vt vs:Value):List Value:=[i64 x.me,i64 x.s.words,i64 x.s.stripes,i64 x.s.wide,i64 x.s.threads,u64 x.s.start,i64 x.s.spins,i64 x.s.writes,i64 x.s.fuel,vj,i64 x.job,i64 x.state,.bool x.sweep,vt,i64 x.tries,i64 x.conf,vn,i64 x.born,.bool x.alarm,vp,vr,ptr lp 0,vs,i64 x.by_,u64 x.since,.bool x.yld,i64 x.pauses]
def fW (b:Nat)(x:bq):bd:=od fun vj=>od fun vn=>od fun vp=>od fun vr=>od fun lp=>od fun vt=>od fun vs=>bt (bt (bt (bt (bt (bt (bt (own b (x.cells vj vn vp vr lp vt vs)) (ob iu vj x.jobs)) (ob mj vn x.now)) (ob jn vp x.past)) (sl il vr x.res)) (ob (jZ ct) lp x.limbo)) (sl ct vt x.rests)) (sl dd vs x.slots)
section
variable {w0:bo}{L M:List bd}{K:KV}{F:World→Prop}{C:bd→List bd}{b lp p:Nat}{x:bq}{v vj vn vp vr vt vs:Value}{a:bi}{jobs:List (List dv)}
theorem dF:G w0 (ob fW b x::M) F=∀vj vn vp vr lp vt vs,G w0 (own b (x.cells vj vn vp vr lp vt vs)::ob iu vj x.jobs::ob mj vn x.now::ob jn vp x.past::sl il vr x.res::ob (jZ ct) lp x.limbo::sl ct vt x.rests::sl dd vs x.slots::M) F:=by
 rw [em,fW]
 simp only [qm,ez]
theorem cg (b:Nat)(x:bq)(vj vn vp vr:Value)(lp:Nat)(vt vs:Value) [dM [own b (x.cells vj vn vp vr lp vt vs),ob iu vj x.jobs,ob mj vn x.now,ob jn vp x.past,sl il vr x.res,ob (jZ ct) lp x.limbo,sl ct vt x.rests,sl dd vs x.slots] L M](H:G w0 (ob fW b x::M) F):G w0 L F :=
 G.pickAll (As:=[own b (x.cells vj vn vp vr lp vt vs),ob iu vj x.jobs,ob mj vn x.now,ob jn vp x.past,sl il vr x.res,ob (jZ ct) lp x.limbo,sl ct vt x.rests,sl dd vs x.slots]) (by rw [dF] at H;exact H vj vn vp vr lp vt vs)
theorem D1:G w0 (ob mj vn none::M) F=(vn=.pointer none→G w0 M F):=by rw [em,mj];simp only [fI]
theorem pQ:G w0 (ob mj vn (some a)::M) F=∀p,vn=ptr p 0→G w0 (ob eA p a::M) F:=by rw [em,mj];simp only [qm,ez,fI]
theorem iX (p:Nat)(a:bi) [dM [ob eA p a] L M](H:G w0 (ob mj (ptr p 0) (some a)::M) F):G w0 L F :=
 G.pickAll (As:=[ob eA p a]) (by rw [pQ] at H;exact H p rfl)
theorem MW (H:G w0 (ob mj (.pointer none) none::M) F):G w0 M F:=by rw [D1] at H;exact H rfl
theorem pI:G w0 (ob iu v jobs::M) F=∀l:List (kx×List dv),l.map (·.2)=jobs→G w0 (sl eu v (l.map (·.1))::ob (cd pR) () l::M) F:=by
 rw [em,iu]
 simp only [qm,ez,fI]
theorem wX (v:Value)(l:List (kx×List dv)) [dM [sl eu v (l.map (·.1)),ob (cd pR) () l] L M](H:G w0 (ob iu v (l.map (·.2))::M) F):G w0 L F :=
 G.pickAll (As:=[sl eu v (l.map (·.1)),ob (cd pR) () l]) (by rw [pI] at H;exact H l rfl)
theorem kT {l:List Ta}:G w0 (ob jn v l::M) F=∀q:List fS,(q.map (·.2.1)=l∧∀p∈q,tP p)→G w0 (sl fg v (q.map (·.1))::ob (cd dV) () q::M) F:=by
 rw [em,jn]
 simp only [qm,ez,fI]
theorem QE {l:List (kx×List dv)}{k:Nat}{q:kx×List dv}(h:l[k]? = some q):Rd w0 (ob (cd pR) () l::M) q.1.v gD 5 q.2:=⟨rfl,fun w H=>by
 have e:G w0 (ob (cd pR) () l::M) (fun w=>eZ gD w q.1.v q.2):=by
  rw [ju h]
  exact fun w H=>St.sl_is H
 exact e w H⟩
theorem ii (ho:iO x)[i:au L fW b x C](hK:G w0 (C (ob fW b (dy x))) (K (.tuple #[]))):G w0 L (CP Tryz.prog GT [ptr b 0] K):=by
 refine i.use (fun M hK=>?_) hK
 refine ul ?_
 unfold mv
 obtain⟨h1,h2,h3,hrs⟩:=ho
 obtain⟨k,hk⟩:=Int.eq_ofNat_of_zero_le h1
 unfold dy at hK
 rw [dF]
 intro vj vn vp vr lp vt vs
 refine G.take1 iu vj ?_
 rw [pI]
 intro l hl
 have hlen:(l.map (·.1)).length=x.jobs.length:=by rw [←hl];simp
 have hkt:x.job.toNat=k:=by omega
 rw [hkt] at hK
 by_cases hc:k=x.jobs.length
 ·have hn:x.jobs[k]? = none:=by rw [hc];simp
  rw [hn] at hK
  have ec:(x.job=(((l.map (·.1)).length:Nat):Int))=True:=by rw [hk,hlen,hc];simp
  repeat' (first | (with_reducible refine G.joini0 ?_) | (with_reducible refine G.joini1 ?_) | (with_reducible refine G.drew ?_) | (simp (maxSteps:=2000000) only [↓RG,RP,RB,BEq.rfl,Int.reduceEq,Int.reduceLT,Int.reduceLE,Nat.reduceEqDiff,ec]))
  refine wX vj l ?_
  rw [hl]
  refine G.take1 mj vn ?_
  refine G.drop ?_
  refine MW ?_
  refine cg b { x with born:=0,alarm:=false,now:=none,state:=6 } vj (.pointer none) vp vr lp vt vs ?_
  exact hK
 ·have hlt:k<x.jobs.length:=by omega
  have hll:k<l.length:=by rw [←hl] at hlt;simpa using hlt
  have hn:x.jobs[k]? = some x.jobs[k]:=List.getElem?_eq_getElem hlt
  have hq:(l[k]).2=x.jobs[k]:=by
   have:x.jobs[k]? = (l.map (·.2))[k]?:=by rw [hl]
   rw [hn,List.getElem?_map,List.getElem?_eq_getElem hll] at this
   simpa using this.symm
  rw [hn] at hK
  simp only at hK
  have ec:(x.job=(((l.map (·.1)).length:Nat):Int))=False:=by rw [hk,hlen];simp only [Int.ofNat_inj,eq_iff_iff,iff_false];exact hc
  repeat' (first | (with_reducible refine G.joini0 ?_) | (with_reducible refine G.joini1 ?_) | (with_reducible refine G.drew ?_) | (simp (maxSteps:=2000000) only [↓RG,RP,RB,BEq.rfl,Int.reduceEq,Int.reduceLT,Int.reduceLE,Nat.reduceEqDiff,ec]))
  refine G.cond (fun hsw=>?_) (fun hsw=>?_)
  rotate_left
  ·rw [if_neg (by rw [hsw];decide)] at hK
   have e:fe (l.map (·.1)) k l[k].1:=⟨by rw [List.getElem?_map,List.getElem?_eq_getElem hll];rfl⟩
   have hx:iQ x.job k:=⟨hk⟩
   repeat' (first | (with_reducible refine G.joini0 ?_) | (with_reducible refine G.joini1 ?_) | (with_reducible refine G.drew ?_) | (simp (maxSteps:=2000000) only [↓RG,RP,RB,BEq.rfl,Int.reduceEq,Int.reduceLT,Int.reduceLE,Nat.reduceEqDiff]))
   refine G.take1 (cd pR) () ?_
   have r:=fun M:List bd=>QE (w0:=w0) (M:=M) (List.getElem?_eq_getElem hll)
   have r2:=r (sl eu vj (l.map (·.1))::own b [i64 x.me,i64 x.s.words,i64 x.s.stripes,i64 x.s.wide,i64 x.s.threads,u64 x.s.start,i64 x.s.spins,i64 x.s.writes,i64 x.s.fuel,vj,i64 x.job,i64 x.state,.bool x.sweep,vt,i64 x.tries,i64 x.conf,vn,i64 0,.bool false,vp,vr,ptr lp 0,vs,i64 x.by_,u64 x.since,.bool x.yld,i64 x.pauses]::ob mj vn x.now::ob jn vp x.past::sl il vr x.res::ob (jZ ct) lp x.limbo::sl ct vt x.rests::sl dd vs x.slots::M)
   refine FA (s:=x.s) (p:=l[k].2) (bm (a:=l[k].1.a) (n:=l[k].1.n) (c:=l[k].1.c)) (by rw [hq];exact h3 _ (List.getElem_mem hlt)) fun p=>?_
   rw [hq]
   refine gg ?_
   refine wX vj l ?_
   rw [hl]
   refine G.take1 mj vn ?_
   refine G.drop ?_
   refine iX p (iD x.me x.s x.jobs[k]) ?_
   refine cg b { x with born:=0,alarm:=false,now:=some (iD x.me x.s x.jobs[k]),state:=1 } vj (ptr p 0) vp vr lp vt vs ?_
   exact hK
  ·rw [if_pos hsw] at hK
   refine gg ?_
   refine G.nilsl bx ?_
   refine G.loop2 (σ:=Nat×Value) (fun z=>z.2) (fun z=>i64 z.1) (fun z=>sl bx z.2 ((x.rests.take z.1).map (·.place))::sl eu vj (l.map (·.1))::ob (cd pR) () l::own b [i64 x.me,i64 x.s.words,i64 x.s.stripes,i64 x.s.wide,i64 x.s.threads,u64 x.s.start,i64 x.s.spins,i64 x.s.writes,i64 x.s.fuel,vj,i64 x.job,i64 x.state,.bool x.sweep,vt,i64 x.tries,i64 x.conf,vn,i64 0,.bool false,vp,vr,ptr lp 0,vs,i64 x.by_,u64 x.since,.bool x.yld,i64 x.pauses]::ob mj vn x.now::ob jn vp x.past::sl il vr x.res::ob (jZ ct) lp x.limbo::sl ct vt x.rests::sl dd vs x.slots::M) (fun z=>z.1≤x.rests.length∧bf z.2 [z.2]) (fun z=>x.rests.length-z.1) (0,.slice none 0 0) rfl rfl (by simp) ⟨Nat.zero_le _,bm⟩ ?_
   rintro⟨j,u⟩ ⟨hj,hu⟩ J hJ
   simp only at hj hu hJ ⊢
   refine gr ?_
   refine G.cond (fun h=>?_) (fun h=>?_)
   ·have hj2:j<x.rests.length:=by simpa using h
    have e:=cw hj2
    have hlt2:((x.rests.take j).map (·.place)).length=j:=by simp;omega
    refine gg ?_
    refine G.new fun q=>?_
    refine gg ?_
    refine G.build bx [x.rests[j].place] rfl (by decide) rfl fun y hy=>?_
    repeat' (first | (with_reducible refine G.joini0 ?_) | (with_reducible refine G.joini1 ?_) | (with_reducible refine G.drew ?_) | (simp (maxSteps:=2000000) only [↓RG,RP,RB,BEq.rfl,Int.reduceEq,Int.reduceLT,Int.reduceLE,Nat.reduceEqDiff]))
    refine G.append (E:=bx) (xs:=(x.rests.take j).map fun z:gC=>z.place) (ys:=[x.rests[j].place]) (by simp only [hlt2,List.length_singleton];omega) (by simp only [hlt2,List.length_singleton,maxLen];omega) fun u5 h5=>?_
    repeat' (first | (with_reducible refine G.joini0 ?_) | (with_reducible refine G.joini1 ?_) | (with_reducible refine G.drew ?_) | (simp (maxSteps:=2000000) only [↓RG,RP,RB,BEq.rfl,Int.reduceEq,Int.reduceLT,Int.reduceLE,Nat.reduceEqDiff]))
    rw [dx (by omega)]
    have hn:=hJ (j+1,u5) ⟨hj2,h5⟩ (by simp only;omega)
    simp only [List.take_succ_eq_append_getElem hj2,List.map_append,List.map_cons,List.map_nil] at hn
    exact hn.sub
   ·have hj2:j=x.rests.length:=by
     have:¬j<x.rests.length:=by simpa using h
     omega
    subst hj2
    rw [List.take_length]
    repeat' (first | (with_reducible refine G.joini0 ?_) | (with_reducible refine G.joini1 ?_) | (with_reducible refine G.drew ?_) | (simp (maxSteps:=2000000) only [↓RG,RP,RB,BEq.rfl,Int.reduceEq,Int.reduceLT,Int.reduceLE,Nat.reduceEqDiff]))
    refine C0 (s:=x.s) (bs:=x.rests.map fun z:gC=>z.place) (by rw [List.length_map];omega) fun p=>?_
    refine gg ?_
    refine wX vj l ?_
    rw [hl]
    refine G.take1 mj vn ?_
    refine G.drop ?_
    refine iX p (fR x.me x.s (x.rests.map (·.place))) ?_
    refine cg b { x with born:=0,alarm:=false,now:=some (fR x.me x.s (x.rests.map (·.place))),state:=1 } vj (ptr p 0) vp vr lp vt vs ?_
    exact hK.sub
end
end Go.Proofs.YtoealglbimbbmaaGreatDoor.S
namespace Go.Proofs.YtoealglbimbbmaaGreatDoor.S
open Go Go.Proofs
set_option linter.unusedVariables false
set_option linter.unusedSimpArgs false
section
variable {w0:bo}{L M:List bd}{K:KV}{F:World→Prop}{C:bd→List bd}{b lp p:Nat}{x:bq}{v vj vn vp vr vt vs:Value}{a:bi}{draw:Int}
theorem gn (ho:iO { x with job:=x.job+1,rests:=[] })(hl:x.jobs.length≤1000000)[i:au L fW b x C](hK:G w0 (C (ob fW b (gM x))) (K (.tuple #[]))):G w0 L (CP Tryz.prog Or [ptr b 0] K):=by
 refine i.use (fun M hK=>?_) hK
 refine qL ?_
 unfold jS
 have hb:=ho.hi
 have hb2:=ho.lo
 simp only at hb hb2
 rw [dF]
 intro vj vn vp vr lp vt vs
 refine gg ?_
 rw [gh (n:=x.job+1) (by omega) (by omega)]
 refine G.nilsl ct ?_
 refine cg b { x with job:=x.job+1,sweep:=false,rests:=[],tries:=0,conf:=0 } vj vn vp vr lp (.slice none 0 0) vs ?_
 refine ii (x:={ x with job:=x.job+1,sweep:=false,rests:=[],tries:=0,conf:=0 }) ⟨ho.lo,ho.hi,ho.progs,by simp⟩ ?_
 repeat' (first | (with_reducible refine G.joini0 ?_) | (with_reducible refine G.joini1 ?_) | (with_reducible refine G.drew ?_) | (simp (maxSteps:=2000000) only [↓RG,RP,RB,BEq.rfl,Int.reduceEq,Int.reduceLT,Int.reduceLE,Nat.reduceEqDiff]))
 exact hK.sub
theorem uR (ho:iO x)(hd:0≤draw)(hd2:draw≤255)[i:au L fW b x C](hK:G w0 (C (ob fW b (ku x draw))) (K (.tuple #[]))):G w0 L (CP Tryz.prog VM [ptr b 0,.int .u8 draw] K):=by
 refine i.use (fun M hK=>?_) hK
 refine ub ?_
 unfold mR
 rw [dF]
 intro vj vn vp vr lp vt vs
 have hf:(if (8:Int)<x.conf then 8 else x.conf)=vV x.conf:=rfl
 have hf8:vV x.conf≤8:=by unfold vV;split <;> omega
 refine eC hf ?_
 refine G.loop2 (fun k:Nat=>i64 (lM k)) (fun k:Nat=>i64 k) (fun k=>own b (x.cells vj vn vp vr lp vt vs)::ob iu vj x.jobs::ob mj vn x.now::ob jn vp x.past::sl il vr x.res::ob (jZ ct) lp x.limbo::sl ct vt x.rests::sl dd vs x.slots::M) (fun k=>k≤(vV x.conf).toNat) (fun k=>(vV x.conf).toNat-k) 0 rfl rfl rfl (by simp) ?_
 intro k hk J hJ
 have hm:=I8 k
 refine gr ?_
 refine G.cond (fun h=>?_) (fun h=>?_)
 ·have hk2:k<(vV x.conf).toNat:=by simp at h;omega
  have h1:=hJ (k+1) hk2 (by omega)
  refine gr ?_
  rw [gh (n:=2*lM k) (by omega) (by omega),dx (by omega)]
  exact h1
 ·have hk2:k=(vV x.conf).toNat:=by simp at h;omega
  have ne:iT (lM k+1):=⟨by omega⟩
  have e1:IntKind.wrap .i64 (lM k+1)=lM k+1:=gh (by omega) (by omega)
  unfold ku at hK
  have hpo:draw.tmod (lM k+1)=lQ x.conf draw:=by rw [hk2]
  have ed:IntKind.wrap .i64 draw=draw:=gh (by omega) (by omega)
  by_cases h0:lQ x.conf draw=0
  ·rw [if_pos h0] at hK
   rw [h0] at hpo
   refine gf (an ed (an e1 hpo)) ?_
   refine cg b { x with pauses:=0,state:=3 } vj vn vp vr lp vt vs ?_
   refine ii (x:={ x with pauses:=0,state:=3 }) ⟨ho.lo,ho.hi,ho.progs,ho.rests⟩ ?_
   repeat' (first | (with_reducible refine G.joini0 ?_) | (with_reducible refine G.joini1 ?_) | (with_reducible refine G.drew ?_) | (simp (maxSteps:=2000000) only [↓RG,RP,RB,BEq.rfl,Int.reduceEq,Int.reduceLT,Int.reduceLE,Nat.reduceEqDiff]))
   exact hK
  ·rw [if_neg h0] at hK
   refine gf (an ed (an e1 (an hpo h0))) ?_
   refine cg b { x with pauses:=lQ x.conf draw,state:=3 } vj vn vp vr lp vt vs ?_
   exact hK
theorem E7 (ho:iO x)(hp:x.state=3→1≤x.pauses∧x.pauses≤100)[i:au L fW b x C](hK:G w0 (C (ob fW b (eS x))) (K (.tuple #[]))):G w0 L (CP Tryz.prog XL [ptr b 0] K):=by
 refine i.use (fun M hK=>?_) hK
 refine uE ?_
 unfold mm
 rw [dF]
 intro vj vn vp vr lp vt vs
 unfold eS at hK
 by_cases h3:x.state=3
 ·rw [if_pos h3] at hK
  have hp:=hp h3
  have e:IntKind.wrap .i64 (x.pauses-1)=x.pauses-1:=gh (by omega) (by omega)
  by_cases h1:x.pauses=1
  ·rw [if_pos h1] at hK
   have e0:(x.pauses-1=0)=True:=eq_true (by omega)
   refine gf (an (eq_true h3) (an e e0)) ?_
   refine cg b { x with pauses:=x.pauses-1 } vj vn vp vr lp vt vs ?_
   refine ii (x:={ x with pauses:=x.pauses-1 }) ⟨ho.lo,ho.hi,ho.progs,ho.rests⟩ ?_
   rw [show x.pauses-1=0 by omega]
   exact hK
  ·rw [if_neg h1,dF] at hK
   have e0:(x.pauses-1=0)=False:=eq_false (by omega)
   refine gf (an (eq_true h3) (an e e0)) ?_
   exact hK vj vn vp vr lp vt vs
 ·rw [if_neg h3,dF] at hK
  refine gf h3 ?_
  exact hK vj vn vp vr lp vt vs
theorem DI {a:eW}(ho:iO x)(hd:0≤draw)(hd2:draw≤255)[i:au L fW b x C](hK:G w0 (C (ob fW b (nT x a draw))) (K (.tuple #[]))):G w0 L (CP Tryz.prog X0 [ptr b 0,.agg (eW.cells a).toArray,.int .u8 draw] K):=by
 refine i.use (fun M hK=>?_) hK
 refine um ?_
 unfold mM
 refine G.box fun q=>?_
 rw [fC]
 refine G.drew ?_
 unfold nT at hK
 have hpause:G w0 (ob fW b (ku x draw)::M) (K (.tuple #[]))→G w0 (ob fW b x::own q (eW.cells a)::M) (CP Tryz.prog VM [ptr b 0,.int .u8 draw] (fun x32=>K (.tuple #[]))):=fun h=>uR (x:=x) ho hd hd2 h.sub
 refine gu ?_
 by_cases c1:a.err=0
 ·by_cases c2:a.word=0
  ·rw [if_neg (fun h=>h.2.1 c2)] at hK
   refine gf (an (eq_true c1) (eq_true c2)) ?_
   exact hpause hK
  ·rw [dF]
   intro vj vn vp vr lp vt vs
   cases hy:x.yld
   ·rw [if_pos ⟨c1,c2,.inl hy⟩,dF] at hK
    have hy2:(!x.yld)=true:=by rw [hy];rfl
    repeat' (first | (with_reducible refine G.joini0 ?_) | (with_reducible refine G.joini1 ?_) | (with_reducible refine G.drew ?_) | (simp (maxSteps:=2000000) only [↓RG,RP,RB,BEq.rfl,Int.reduceEq,Int.reduceLT,Int.reduceLE,Nat.reduceEqDiff,eq_true c1,c2,hy2]))
    exact(hK vj vn vp vr lp vt vs).sub
   ·have hy2:(!x.yld)=false:=by rw [hy];rfl
    by_cases c3:a.word=x.since
    ·rw [if_pos ⟨c1,c2,.inr c3⟩,dF] at hK
     repeat' (first | (with_reducible refine G.joini0 ?_) | (with_reducible refine G.joini1 ?_) | (with_reducible refine G.drew ?_) | (simp (maxSteps:=2000000) only [↓RG,RP,RB,BEq.rfl,Int.reduceEq,Int.reduceLT,Int.reduceLE,Nat.reduceEqDiff,eq_true c1,c2,hy2,eq_true c3]))
     exact(hK vj vn vp vr lp vt vs).sub
    ·rw [if_neg (fun h=>by rcases h.2.2 with h | h;rw [hy] at h;cases h;exact c3 h)] at hK
     refine gf (an (eq_true c1) (an c2 (an hy2 c3))) ?_
     refine cg b x vj vn vp vr lp vt vs ?_
     exact hpause hK
 ·rw [if_neg (fun h=>c1 h.1)] at hK
  refine gf c1 ?_
  exact hpause hK
theorem xX (ho:iO x)(hj:x.job<x.jobs.length)(hl:x.jobs.length≤1000000)(hs:x.slots.length≤10)(hm:x.limbo.length≤90000)[i:au L fW b x C](hK:G w0 (C (ob fW b (kD x))) (K (.tuple #[]))):G w0 L (CP Tryz.prog WD [ptr b 0] K):=by
 refine i.use (fun M hK=>?_) hK
 refine wq ?_
 unfold nM
 have hj1:iO { x with job:=x.job+1,rests:=[] }:=⟨by have:=ho.lo;show 0≤x.job+1;omega,by show x.job+1≤x.jobs.length;omega,ho.progs,by simp⟩
 have key:∀vj vn vp vr lp vt vs2,G w0 (own b (x.cells vj vn vp vr lp vt vs2)::sl dd vs2 (dH x)::ob iu vj x.jobs::ob mj vn x.now::ob jn vp x.past::sl il vr x.res::ob (jZ ct) lp x.limbo::sl ct vt x.rests::M)
   (ai (.bool (decide (((dH x).length:Int)<x.s.threads))) (K (.tuple #[])) (bh (aa (ptr b 21) fun x21=>aa (ptr b 22) fun x24=>CP Tryz.prog Wo [x21,x24] fun x25=>andP (andP (ad) (andP (ad) (ad))) (cv x25 fun x26=>ab .eql x26 (i64 0) fun x27=>ai x27 (CP Tryz.prog Or [ptr b 0] fun x28=>K (.tuple #[])) (aw [.bool false,.slice none 0 0,i64 0,i64 0] [(0,1,.bool true),(1,1,x25)] fun x29=>ah 4 (ptr b 12) x29 fun _=>CP Tryz.prog GT [ptr b 0] fun x33=>K (.tuple #[])))))):=by
  intro vj vn vp vr lp vt vs2
  unfold kD at hK
  have h11:(dH x).length≤11:=by
   show (if (x.slots.length:Int)=x.me then x.slots++[0] else x.slots).length≤11
   split
   ·simp only [List.length_append,List.length_singleton];omega
   ·omega
  generalize dH x=ss at hK h11
  by_cases c1:((ss.length:Nat):Int)<x.s.threads
  ·rw [if_pos c1] at hK
   refine gf (eq_true c1) ?_
   refine cg b { x with slots:=ss } vj vn vp vr lp vt vs2 ?_
   exact hK
  ·rw [if_neg c1] at hK
   repeat' (first | (with_reducible refine G.joini0 ?_) | (with_reducible refine G.joini1 ?_) | (with_reducible refine G.drew ?_) | (simp (maxSteps:=2000000) only [↓RG,RP,RB,BEq.rfl,Int.reduceEq,Int.reduceLT,Int.reduceLE,Nat.reduceEqDiff,c1]))
   refine zl (xs:=x.limbo) (ss:=ss) (by omega) (by omega) fun u hu=>?_
   have hlr:=List.length_filter_le (fun r:gC=>dG ss r.stamp) x.limbo
   by_cases c2:x.limbo.filter (fun r=>dG ss r.stamp)=[]
   ·rw [if_pos c2] at hK
    rw [c2]
    repeat' (first | (with_reducible refine G.joini0 ?_) | (with_reducible refine G.joini1 ?_) | (with_reducible refine G.drew ?_) | (simp (maxSteps:=2000000) only [↓RG,RP,RB,BEq.rfl,Int.reduceEq,Int.reduceLT,Int.reduceLE,Nat.reduceEqDiff,List.length_nil,Int.cast_ofNat_Int]))
    refine cg b { x with slots:=ss,limbo:=x.limbo.filter fun r=>!dG ss r.stamp } vj vn vp vr lp vt vs2 ?_
    refine gn (x:={ x with slots:=ss,limbo:=x.limbo.filter fun r=>!dG ss r.stamp }) ⟨hj1.lo,hj1.hi,hj1.progs,hj1.rests⟩ hl ?_
    repeat' (first | (with_reducible refine G.joini0 ?_) | (with_reducible refine G.joini1 ?_) | (with_reducible refine G.drew ?_) | (simp (maxSteps:=2000000) only [↓RG,RP,RB,BEq.rfl,Int.reduceEq,Int.reduceLT,Int.reduceLE,Nat.reduceEqDiff]))
    exact hK.sub
   ·rw [if_neg c2] at hK
    have c3:¬(((x.limbo.filter (fun r=>dG ss r.stamp)).length:Nat):Int)=0:=by
     intro g
     exact c2 (List.length_eq_zero_iff.1 (by omega))
    refine gf c3 ?_
    refine cg b { x with slots:=ss,limbo:=x.limbo.filter (fun r=>!dG ss r.stamp),sweep:=true,rests:=x.limbo.filter (fun r=>dG ss r.stamp),tries:=0,conf:=0 } vj vn vp vr lp u vs2 ?_
    refine ii (x:={ x with slots:=ss,limbo:=x.limbo.filter (fun r=>!dG ss r.stamp),sweep:=true,rests:=x.limbo.filter (fun r=>dG ss r.stamp),tries:=0,conf:=0 }) ⟨ho.lo,ho.hi,ho.progs,by show (x.limbo.filter _).length≤_;omega⟩ ?_
    repeat' (first | (with_reducible refine G.joini0 ?_) | (with_reducible refine G.joini1 ?_) | (with_reducible refine G.drew ?_) | (simp (maxSteps:=2000000) only [↓RG,RP,RB,BEq.rfl,Int.reduceEq,Int.reduceLT,Int.reduceLE,Nat.reduceEqDiff]))
    exact hK.sub
 rw [dF]
 intro vj vn vp vr lp vt vs
 by_cases cm:(x.slots.length:Int)=x.me
 ·have e:dH x=x.slots++[0]:=if_pos cm
  rw [e] at key
  repeat' (first | (with_reducible refine G.joini0 ?_) | (with_reducible refine G.joini1 ?_) | (with_reducible refine G.drew ?_) | (simp (maxSteps:=2000000) only [↓RG,RP,RB,BEq.rfl,Int.reduceEq,Int.reduceLT,Int.reduceLE,Nat.reduceEqDiff,eq_true cm]))
  refine G.build dd [0] rfl (by decide) rfl fun y hy=>?_
  repeat' (first | (with_reducible refine G.joini0 ?_) | (with_reducible refine G.joini1 ?_) | (with_reducible refine G.drew ?_) | (simp (maxSteps:=2000000) only [↓RG,RP,RB,BEq.rfl,Int.reduceEq,Int.reduceLT,Int.reduceLE,Nat.reduceEqDiff]))
  refine G.append (E:=dd) (xs:=x.slots) (ys:=[0]) (by simp only [List.length_singleton];omega) (by simp only [List.length_singleton,maxLen];omega) fun u hu=>?_
  repeat' (first | (with_reducible refine G.joini0 ?_) | (with_reducible refine G.joini1 ?_) | (with_reducible refine G.drew ?_) | (simp (maxSteps:=2000000) only [↓RG,RP,RB,BEq.rfl,Int.reduceEq,Int.reduceLT,Int.reduceLE,Nat.reduceEqDiff]))
  exact(key vj vn vp vr lp vt u).sub
 ·have e:dH x=x.slots:=if_neg cm
  rw [e] at key
  repeat' (first | (with_reducible refine G.joini0 ?_) | (with_reducible refine G.joini1 ?_) | (with_reducible refine G.drew ?_) | (simp (maxSteps:=2000000) only [↓RG,RP,RB,BEq.rfl,Int.reduceEq,Int.reduceLT,Int.reduceLE,Nat.reduceEqDiff,cm]))
  exact(key vj vn vp vr lp vt vs).sub
theorem tZ {since:Int}(ho:iO x)(hj:x.job<x.jobs.length)(hl:x.jobs.length≤1000000)(hs:x.slots.length≤4)(hm:x.limbo.length≤90000)[i:au L fW b x C](hK:G w0 (C (ob fW b (lq x since))) (K (.tuple #[]))):G w0 L (CP Tryz.prog X2 [ptr b 0,u64 since] K):=by
 refine i.use (fun M hK=>?_) hK
 refine tI ?_
 unfold lW
 rw [dF]
 intro vj vn vp vr lp vt vs
 refine gg ?_
 refine G.build dd [since] rfl (by decide) rfl fun y hy=>?_
 repeat' (first | (with_reducible refine G.joini0 ?_) | (with_reducible refine G.joini1 ?_) | (with_reducible refine G.drew ?_) | (simp (maxSteps:=2000000) only [↓RG,RP,RB,BEq.rfl,Int.reduceEq,Int.reduceLT,Int.reduceLE,Nat.reduceEqDiff]))
 refine G.append (E:=dd) (xs:=x.slots) (ys:=[since]) (by simp only [List.length_singleton];omega) (by simp only [List.length_singleton,maxLen];omega) fun u hu=>?_
 refine gg ?_
 refine cg b { x with slots:=x.slots++[since] } vj vn vp vr lp vt u ?_
 refine xX (x:={ x with slots:=x.slots++[since] }) ⟨ho.lo,ho.hi,ho.progs,ho.rests⟩ hj hl (by simp only [List.length_append,List.length_singleton];omega) hm ?_
 repeat' (first | (with_reducible refine G.joini0 ?_) | (with_reducible refine G.joini1 ?_) | (with_reducible refine G.drew ?_) | (simp (maxSteps:=2000000) only [↓RG,RP,RB,BEq.rfl,Int.reduceEq,Int.reduceLT,Int.reduceLE,Nat.reduceEqDiff]))
 exact hK.sub
theorem FX (ho:iO x)(hj:x.job<x.jobs.length)(hl:x.jobs.length≤1000000)(hm:x.limbo.length≤90000)[i:au L fW b x C](hK:G w0 (C (ob fW b (sQ x))) (K (.tuple #[]))):G w0 L (CP Tryz.prog Yk [ptr b 0] K):=by
 refine i.use (fun M hK=>?_) hK
 refine uO ?_
 unfold oc
 unfold sQ at hK
 rw [dF]
 intro vj vn vp vr lp vt vs
 refine gg ?_
 refine A8 (xs:=x.limbo) ?_
 by_cases c:x.limbo=[]
 ·rw [if_pos c] at hK
  have c3:(((x.limbo.length:Nat):Int)=0)=True:=by rw [c];simp
  refine gf c3 ?_
  refine cg b x vj vn vp vr lp vt vs ?_
  refine gn (x:=x) ⟨by have:=ho.lo;show 0≤x.job+1;omega,by show x.job+1≤x.jobs.length;omega,ho.progs,by simp⟩ hl ?_
  repeat' (first | (with_reducible refine G.joini0 ?_) | (with_reducible refine G.joini1 ?_) | (with_reducible refine G.drew ?_) | (simp (maxSteps:=2000000) only [↓RG,RP,RB,BEq.rfl,Int.reduceEq,Int.reduceLT,Int.reduceLE,Nat.reduceEqDiff]))
  exact hK
 ·rw [if_neg c] at hK
  have c3:¬((x.limbo.length:Nat):Int)=0:=by
   intro g
   exact c (List.length_eq_zero_iff.1 (by omega))
  refine gf c3 ?_
  refine G.nilsl dd ?_
  refine cg b { x with state:=5,slots:=[] } vj vn vp vr lp vt (.slice none 0 0) ?_
  refine xX (x:={ x with state:=5,slots:=[] }) ⟨ho.lo,ho.hi,ho.progs,ho.rests⟩ hj hl (by simp) hm ?_
  repeat' (first | (with_reducible refine G.joini0 ?_) | (with_reducible refine G.joini1 ?_) | (with_reducible refine G.drew ?_) | (simp (maxSteps:=2000000) only [↓RG,RP,RB,BEq.rfl,Int.reduceEq,Int.reduceLT,Int.reduceLE,Nat.reduceEqDiff]))
  exact hK.sub
theorem Ds {e:Int}(ho:iO x)(hj:x.job<x.jobs.length)(hl:x.jobs.length≤1000000)(hm:x.limbo.length+x.rests.length≤90000)[i:au L fW b x C](hK:G w0 (C (ob fW b (sE x e))) (K (.tuple #[]))):G w0 L (CP Tryz.prog Yj [ptr b 0,i64 e] K):=by
 refine i.use (fun M hK=>?_) hK
 refine uw ?_
 unfold mD
 unfold sE at hK
 have hj1:∀z:bq,z.job=x.job→z.jobs=x.jobs→iO { z with job:=z.job+1,rests:=[] }:=fun z e1 e2=>⟨by have:=ho.lo;show 0≤z.job+1;omega,by show z.job+1≤z.jobs.length;rw [e2];omega,by show ∀p∈z.jobs,_;rw [e2];exact ho.progs,by simp⟩
 rw [dF]
 intro vj vn vp vr lp vt vs
 by_cases c4:e=4
 ·rw [if_pos c4] at hK
  repeat' (first | (with_reducible refine G.joini0 ?_) | (with_reducible refine G.joini1 ?_) | (with_reducible refine G.drew ?_) | (simp (maxSteps:=2000000) only [↓RG,RP,RB,BEq.rfl,Int.reduceEq,Int.reduceLT,Int.reduceLE,Nat.reduceEqDiff,eq_true c4]))
  refine G.loop1 (fun k:Nat=>i64 k) (fun k=>own b (x.cells vj vn vp vr lp vt vs)::ob iu vj x.jobs::ob mj vn x.now::ob jn vp x.past::sl il vr x.res::ob (jZ ct) lp (x.limbo++x.rests.take k)::sl ct vt x.rests::sl dd vs x.slots::M) (fun k=>k≤x.rests.length) (fun k=>x.rests.length-k) 0 rfl (by simp) (by simp) ?_
  intro k hk J hJ
  refine gr ?_
  refine G.cond (fun h=>?_) (fun h=>?_)
  ·have hk2:k<x.rests.length:=by simpa using h
   have e:=cw hk2
   refine gg ?_
   refine G.new fun q=>?_
   repeat' (first | (with_reducible refine G.joini0 ?_) | (with_reducible refine G.joini1 ?_) | (with_reducible refine G.drew ?_) | (simp (maxSteps:=2000000) only [↓RG,RP,RB,BEq.rfl,Int.reduceEq,Int.reduceLT,Int.reduceLE,Nat.reduceEqDiff]))
   refine G.build bx [x.rests[k].place] rfl (by decide) rfl fun y hy=>?_
   refine gg ?_
   refine re (xs:=x.limbo++x.rests.take k) (bs:=[x.rests[k].place]) (t:=x.rests[k].stamp) (by simp only [List.length_append,List.length_take,List.length_singleton];omega) ?_
   refine gg ?_
   rw [dx (by omega)]
   have hn:=hJ (k+1) hk2 (by omega)
   rw [List.take_succ_eq_append_getElem hk2,←List.append_assoc] at hn
   simp only [List.map_cons,List.map_nil,show (⟨x.rests[k].place,x.rests[k].stamp⟩:gC)=x.rests[k] from rfl]
   exact hn.sub
  ·have hk2:k=x.rests.length:=by
    have:¬k<x.rests.length:=by simpa using h
    omega
   subst hk2
   rw [List.take_length]
   repeat' (first | (with_reducible refine G.joini0 ?_) | (with_reducible refine G.joini1 ?_) | (with_reducible refine G.drew ?_) | (simp (maxSteps:=2000000) only [↓RG,RP,RB,BEq.rfl,Int.reduceEq,Int.reduceLT,Int.reduceLE,Nat.reduceEqDiff]))
   refine cg b { x with limbo:=x.limbo++x.rests } vj vn vp vr lp vt vs ?_
   refine gn (x:={ x with limbo:=x.limbo++x.rests }) (hj1 _ rfl rfl) hl ?_
   repeat' (first | (with_reducible refine G.joini0 ?_) | (with_reducible refine G.joini1 ?_) | (with_reducible refine G.drew ?_) | (simp (maxSteps:=2000000) only [↓RG,RP,RB,BEq.rfl,Int.reduceEq,Int.reduceLT,Int.reduceLE,Nat.reduceEqDiff]))
   exact hK
 ·rw [if_neg c4] at hK
  refine gf c4 ?_
  refine cg b x vj vn vp vr lp vt vs ?_
  refine gn (x:=x) (hj1 _ rfl rfl) hl ?_
  repeat' (first | (with_reducible refine G.joini0 ?_) | (with_reducible refine G.joini1 ?_) | (with_reducible refine G.drew ?_) | (simp (maxSteps:=2000000) only [↓RG,RP,RB,BEq.rfl,Int.reduceEq,Int.reduceLT,Int.reduceLE,Nat.reduceEqDiff]))
  exact hK
theorem Dn [i:au L fW b x C](hK:G w0 L (K (i64 x.state))):G w0 L (CP Tryz.prog XT [ptr b 0] K):=by
 refine i.ro (fun M hK=>?_) hK
 refine t9 ?_
 unfold mJ
 rw [dF] at *
 intro vj vn vp vr lp vt vs
 have hK:=hK vj vn vp vr lp vt vs
 refine gr ?_
 exact hK
theorem Bf (hl:x.res.length≤1000000)[i:au L fW b x C](hK:∀u,bf u [u]→G w0 (sl il u x.res::L) (K u)):G w0 L (CP Tryz.prog XS [ptr b 0] K):=by
 refine i.roN (fun M hK=>?_) hK
 refine sq ?_
 unfold ld
 rw [dF]
 intro vj vn vp vr lp vt vs
 refine gr ?_
 refine jT (xs:=x.res) hl fun u hu=>?_
 refine cg b x vj vn vp vr lp vt vs ?_
 exact(hK u hu).sub
theorem FE {s ver:Int}(ho:iO x)(hr:∀a,x.now=some a→a.rd.length≤1000)[i:au L fW b x C](hK:G w0 (C (ob fW b (dX x s ver))) (K (.tuple #[]))):G w0 L (CP Tryz.prog XN [ptr b 0,i64 s,u64 ver] K):=by
 refine i.use (fun M hK=>?_) hK
 refine vY ?_
 unfold nS
 unfold dX at hK
 rw [dF]
 intro vj vn vp vr lp vt vs
 cases hn:x.now with
 | none =>
  simp only [hn] at hK
  rw [dF] at hK
  have hK:=hK vj vn vp vr lp vt vs
  rw [hn] at hK
  refine G.take1 mj vn ?_
  rw [D1]
  intro e
  subst e
  have hK:G w0 (ob mj (.pointer none) none::own b (x.cells vj (.pointer none) vp vr lp vt vs)::ob iu vj x.jobs::ob jn vp x.past::sl il vr x.res::ob (jZ ct) lp x.limbo::sl ct vt x.rests::sl dd vs x.slots::M) (K (.tuple #[])):=hK.sub
  rw [D1] at hK
  refine gg ?_
  exact hK rfl
 | some a =>
  have hr:=hr a hn
  simp only [hn] at hK
  refine G.take1 mj vn ?_
  rw [pQ]
  intro p e
  subst e
  have hsame:G w0 (ob fW b x::M) (K (.tuple #[]))→G w0 (ob eA p a::own b (x.cells vj (ptr p 0) vp vr lp vt vs)::ob iu vj x.jobs::ob jn vp x.past::sl il vr x.res::ob (jZ ct) lp x.limbo::sl ct vt x.rests::sl dd vs x.slots::M) (K (.tuple #[]))∧True:=fun h=>⟨by
   refine iX p a ?_
   rw [←hn]
   refine cg b x vj (ptr p 0) vp vr lp vt vs ?_
   exact h.sub,trivial⟩
  refine gg ?_
  refine Dp (x:=a) (by omega) fun u hu=>?_
  refine gg ?_
  refine G.loop1 (fun k:Nat=>i64 k) (fun k=>sl fX u a.rd::ob eA p a::own b (x.cells vj (ptr p 0) vp vr lp vt vs)::ob iu vj x.jobs::ob jn vp x.past::sl il vr x.res::ob (jZ ct) lp x.limbo::sl ct vt x.rests::sl dd vs x.slots::M) (fun k=>k≤a.rd.length∧GM a.rd s ver=GM (a.rd.drop k) s ver) (fun k=>a.rd.length-k) 0 rfl rfl (by simp) ?_
  rintro k ⟨hk,hn2⟩ J hJ
  refine gr ?_
  refine G.cond (fun h=>?_) (fun h=>?_)
  ·have hk2:k<a.rd.length:=by simp at h;omega
   have e:=cw hk2
   rw [List.drop_eq_getElem_cons hk2,show GM (a.rd[k]::a.rd.drop (k+1)) s ver=((decide (a.rd[k].stripe=s) && !decide (a.rd[k].version=ver)) || GM (a.rd.drop (k+1)) s ver) from rfl] at hn2
   have hnext:(decide (a.rd[k].stripe=s) && !decide (a.rd[k].version=ver))=false→_:=fun g=>hJ (k+1) ⟨hk2,by rw [hn2,g,Bool.false_or]⟩ (by omega)
   refine gu ?_
   refine gr ?_
   refine G.new fun q2=>?_
   by_cases c1:a.rd[k].stripe=s
   ·by_cases c2:a.rd[k].version=ver
    ·have hnext:=hnext (by simp [c2])
     refine gf (an (eq_true c1) (eq_true c2)) ?_
     rw [dx (by omega)]
     exact hnext.sub
    ·rw [hn2,decide_eq_true c1,decide_eq_false c2] at hK
     simp only [Bool.not_false,Bool.and_true,Bool.true_or,if_true] at hK
     by_cases c4:x.state=4
     ·rw [if_pos c4] at hK
      refine gf (an (eq_true c1) (an c2 (eq_true c4))) ?_
      refine iX p a ?_
      rw [←hn]
      refine cg b x vj (ptr p 0) vp vr lp vt vs ?_
      refine ii (x:=x) ho ?_
      repeat' (first | (with_reducible refine G.joini0 ?_) | (with_reducible refine G.joini1 ?_) | (with_reducible refine G.drew ?_) | (simp (maxSteps:=2000000) only [↓RG,RP,RB,BEq.rfl,Int.reduceEq,Int.reduceLT,Int.reduceLE,Nat.reduceEqDiff]))
      exact hK.sub
     ·rw [if_neg c4] at hK
      by_cases c3:x.state=1
      ·repeat' (first | (with_reducible refine G.joini0 ?_) | (with_reducible refine G.joini1 ?_) | (with_reducible refine G.drew ?_) | (simp (maxSteps:=2000000) only [↓RG,RP,RB,BEq.rfl,Int.reduceEq,Int.reduceLT,Int.reduceLE,Nat.reduceEqDiff,eq_true c1,c2,c4,eq_true c3]))
       refine yI (x:=a) ?_
       cases hb:(!decide (a.state=8) && a.blocking)
       ·rw [if_neg (by rw [hb];simp)] at hK
        repeat' (first | (with_reducible refine G.joini0 ?_) | (with_reducible refine G.joini1 ?_) | (with_reducible refine G.drew ?_) | (simp (maxSteps:=2000000) only [↓RG,RP,RB,BEq.rfl,Int.reduceEq,Int.reduceLT,Int.reduceLE,Nat.reduceEqDiff]))
        exact((hsame hK).1).sub
       ·rw [if_pos ⟨c3,hb⟩] at hK
        repeat' (first | (with_reducible refine G.joini0 ?_) | (with_reducible refine G.joini1 ?_) | (with_reducible refine G.drew ?_) | (simp (maxSteps:=2000000) only [↓RG,RP,RB,BEq.rfl,Int.reduceEq,Int.reduceLT,Int.reduceLE,Nat.reduceEqDiff]))
        refine iX p a ?_
        rw [←hn]
        refine cg b { x with alarm:=true } vj (ptr p 0) vp vr lp vt vs ?_
        rw [←hn] at hK
        exact hK.sub
      ·rw [if_neg (fun g=>c3 g.1)] at hK
       repeat' (first | (with_reducible refine G.joini0 ?_) | (with_reducible refine G.joini1 ?_) | (with_reducible refine G.drew ?_) | (simp (maxSteps:=2000000) only [↓RG,RP,RB,BEq.rfl,Int.reduceEq,Int.reduceLT,Int.reduceLE,Nat.reduceEqDiff,eq_true c1,c2,c4,c3]))
       exact((hsame hK).1).sub
   ·have hnext:=hnext (by simp [c1])
    refine gf c1 ?_
    rw [dx (by omega)]
    exact hnext.sub
  ·have hk2:k=a.rd.length:=by
    have:¬k<a.rd.length:=by simpa using h
    omega
   have e0:GM a.rd s ver=false:=by rw [hn2,hk2,List.drop_length];rfl
   rw [e0,if_neg (by decide)] at hK
   refine gr ?_
   exact((hsame hK).1).sub
end
end Go.Proofs.YtoealglbimbbmaaGreatDoor.S
namespace Go.Proofs.YtoealglbimbbmaaGreatDoor.S
open Go Go.Proofs
set_option linter.unusedVariables false
set_option linter.unusedSimpArgs false
abbrev HL (a:bi):Int:=if a.wr=true then 2 else (if a.state=8 then a.fin else 0)
abbrev oO (x:bq)(a:bi)(pick:Int)(r c f:kx)(s:ByteArray):sY:=⟨x.me,x.job,x.tries,x.sweep,HL a,(if a.state=8 then a.err else 0),a.beg,a.stamp,x.born,pick,r,c,f,s⟩
structure Cr (a:bi):Prop where
 known:a.v.k.length≤1000
 cells:a.v.l.cells.length≤1000
 frees:a.done=true→a.v.l.frees.length≤1000
 blocks:a.blocks.length≤100000
 items:a.done=true→AC a.items
theorem BM.tol {a:bi}(h:BM a):Cr a:=⟨h.known,h.cells,h.frees,h.blocks,h.items⟩
theorem Cr.freed {a:bi}(h:Cr a):a.freed.length≤100000:=by
 show (if a.done=true then (match a.run with | none=>a.blocks | some _=>a.v.l.frees) else []).length≤_
 split
 ·rename_i hd
  have h1:=h.frees hd
  have h2:=h.blocks
  cases a.run <;> simp only <;> omega
 ·simp
theorem N0 {a:bi}:decide (HL a=2)=a.done:=by
 show decide ((if a.wr=true then 2 else (if a.state=8 then a.fin else 0))=2)=(decide ((if a.state=8 then a.fin else 0)=2) || a.wr)
 cases a.wr <;> simp
theorem My {x:bq}{a:bi}{pick:Int}{r c f:kx}{s:ByteArray}(h:Cr a):tP (oO x a pick r c f s,eP a x.born pick,a.freed) :=
 ⟨rfl,N0,rfl,rfl,h.known,by show (if a.done=true then a.v.l.cells else []).length≤1000;split;exact h.cells;simp,h.freed⟩
section
variable {w0:bo}{L M:List bd}{K:KV}{F:World→Prop}{C:bd→List bd}{b lp p:Nat}{x:bq}{v vj vn vp vr vt vs:Value}{a:bi}{draw pick:Int}
theorem QK {zero r:List Value}{ps:List (Nat×Nat×Value)}(h:qo zero ps=some r):G w0 L (aw zero ps K)=G w0 L (K (.agg r.toArray)):=by
 congr 1
 funext w
 simp [aw,h]
theorem xH (ht:uz w0)(hg:Cr a)
  (hK:∀(r c f:kx) (s:ByteArray),tt a s→G w0 (sl bk r.v a.v.k::sl bk c.v (if a.done then a.v.l.cells else [])::sl bx f.v a.freed::own b (x.cells vj (ptr p 0) vp vr lp vt vs)::ob eA p a::M) (K (.agg (sY.cells (oO x a pick r c f s)).toArray))) :
  G w0 (own b (x.cells vj (ptr p 0) vp vr lp vt vs)::ob eA p a::M) (CP Tryz.prog Wy [ptr b 0,i64 pick] K):=by
 refine wA ?_
 unfold nY
 refine G.new fun q=>?_
 refine gg ?_
 refine kB (x:=a) ?_
 refine gg ?_
 refine gU (x:=a) ?_
 try simp (maxSteps:=2000000) only [↓RG,RP,RB,BEq.rfl,Int.reduceEq,Int.reduceLT,Int.reduceLE,Nat.reduceEqDiff]
 refine lO (x:=a) ?_
 refine G.join1 (fun k:Int=>i64 k) (fun _=>own q [i64 0,i64 0,i64 0,.bool false,i64 0,i64 0,u64 0,u64 0,i64 0,i64 0,.slice none 0 0,.slice none 0 0,.slice none 0 0,.string ⟨#[]⟩]::own b (x.cells vj (ptr p 0) vp vr lp vt vs)::ob eA p a::M) (fun k=>k=HL a) (fun k hk=>?_) (fun J hJ=>?_)
 rotate_left
 ·refine G.cond (fun h=>?_) (fun h=>?_)
  ·exact hJ 2 (by rw [HL,if_pos h])
  ·exact hJ _ (if_neg (by rw [h];decide)).symm
 subst hk
 repeat' (first | (with_reducible refine G.joini0 ?_) | (with_reducible refine G.joini1 ?_) | (with_reducible refine G.drew ?_) | (simp (maxSteps:=2000000) only [↓RG,RP,RB,BEq.rfl,Int.reduceEq,Int.reduceLT,Int.reduceLE,Nat.reduceEqDiff]))
 refine xI (x:=a) ?_
 refine gg ?_
 refine oM (x:=a) ?_
 refine gg ?_
 refine CX (x:=a) (by have:=hg.known;omega) fun u hu=>?_
 refine G.isSl (v:=u) fun r hr=>?_
 subst hr
 refine gg ?_
 refine CO (x:=a) fun c=>?_
 refine gg ?_
 refine tW (x:=a) (fun h=>by have:=hg.frees h;omega) (by have:=hg.blocks;omega) fun f=>?_
 refine gg ?_
 refine tL ht (x:=a) hg.items fun s hs=>?_
 refine gg ?_
 rw [QK (r:=sY.cells (oO x a pick r c f s)) rfl]
 refine gg ?_
 exact(hK r c f s hs).sub
theorem BL {n:List Ta}(u:Value)(l:List fS)(e:sY)(t:Ta)(fr:List Int) [dM [sl fg u (l.map (·.1)++[e]),ob (cd dV) () l,sl bk e.reads.v t.reads,sl bk e.cells_.v t.cells,sl bx e.frees.v fr] L M]
  (hl:l.map (·.2.1)=n∧∀p∈l,tP p) (hk:tP (e,t,fr)) (H:G w0 (ob jn u (n++[t])::M) F):G w0 L F :=
 G.pickAll (As:=[sl fg u (l.map (·.1)++[e]),ob (cd dV) () l,sl bk e.reads.v t.reads,sl bk e.cells_.v t.cells,sl bx e.frees.v fr]) (by
  rw [kT] at H
  have h:=H (l++[(e,t,fr)]) ⟨by simp [hl.1],fun p hp=>by
   rcases List.mem_append.1 hp with hp | hp
   ·exact hl.2 p hp
   ·rw [List.mem_singleton.1 hp];exact hk⟩
  rw [List.map_append,List.map_cons,List.map_nil,fC,iU,show dV (e,t,fr)=bt (bt (sl bk e.reads.v t.reads) (sl bk e.cells_.v t.cells)) (sl bx e.frees.v fr) from rfl,ez,ez] at h
  show G w0 (sl fg u (l.map (·.1)++[e])::ob (cd dV) () l::sl bk e.reads.v t.reads::sl bk e.cells_.v t.cells::sl bx e.frees.v fr::M) F
  exact h.sub)
theorem Fb (ht:uz w0)(hn:x.now=some a)(hg:BM a)(hp:x.past.length≤1000000)(hr:x.res.length≤1000000)(hm:x.limbo.length+x.rests.length≤80000)(hm2:x.sweep=false→a.freed.length≤1000)(ho:iO x)(hj:x.job<x.jobs.length)(hl:x.jobs.length≤1000000)(hd:0≤draw)(hd2:draw≤255)[i:au L fW b x C]
  (hK:∀sl_,tt a sl_→G w0 (C (ob fW b (gO x a draw pick sl_))) (K (.tuple #[]))):G w0 L (CP Tryz.prog Wx [ptr b 0,.int .u8 draw,i64 pick] K):=by
 refine i.useA (A':=fun z:{ s // tt a s }=>ob fW b (gO x a draw pick z.1)) (F':=fun _=>K (.tuple #[])) (fun M hK=>?_) (fun z=>hK z.1 z.2)
 have hK:=fun sl_ (h:tt a sl_)=>hK ⟨sl_,h⟩
 simp only at hK
 refine t8 ?_
 unfold mE
 have h8:=hg.gone
 rw [dF]
 intro vj vn vp vr lp vt vs
 refine G.take1 mj vn ?_
 rw [hn,pQ]
 intro p e
 subst e
 repeat' (first | (with_reducible refine G.joini0 ?_) | (with_reducible refine G.joini1 ?_) | (with_reducible refine G.drew ?_) | (simp (maxSteps:=2000000) only [↓RG,RP,RB,BEq.rfl,Int.reduceEq,Int.reduceLT,Int.reduceLE,Nat.reduceEqDiff]))
 refine G.pickAll (As:=[own b (x.cells vj (ptr p 0) vp vr lp vt vs),ob eA p a]) ?_
 simp only [List.cons_append,List.nil_append]
 refine xH ht (x:=x) (pick:=pick) hg.tol fun r c f s hs=>?_
 refine G.take1 jn vp ?_
 rw [kT]
 intro l hll
 have hlen:(l.map (·.1)).length=x.past.length:=by rw [←hll.1];simp
 have hok:=My (x:=x) (pick:=pick) (r:=r) (c:=c) (f:=f) (s:=s) hg.tol
 refine gg ?_
 refine G.build fg [oO x a pick r c f s] rfl (by decide) rfl fun u6 h6=>?_
 refine gg ?_
 refine G.append (E:=fg) (xs:=l.map (fun z:fS=>z.1)) (ys:=[oO x a pick r c f s]) (by simp only [hlen,List.length_singleton];omega) (by simp only [hlen,List.length_singleton,maxLen];omega) fun u5 h5=>?_
 refine gg ?_
 refine gU (x:=a) ?_
 rw [if_pos h8]
 have hjo:∀z:bq,z.job=x.job→z.jobs=x.jobs→z.rests=x.rests→iO z:=fun z e1 e2 e3=>⟨by rw [e1];exact ho.lo,by rw [e1,e2];exact ho.hi,by rw [e2];exact ho.progs,by rw [e3];exact ho.rests⟩
 have hclose:∀(z:bq) (J:World→Prop),z.jobs=x.jobs→z.now=x.now→z.past=x.past++[eP a x.born pick]→z.res=x.res→z.limbo=x.limbo→z.rests=x.rests→z.slots=x.slots→G w0 (ob fW b z::M) J →
   G w0 (own b (z.cells vj (ptr p 0) u5 vr lp vt vs)::sl fg u5 (l.map (·.1)++[oO x a pick r c f s])::ob (cd dV) () l::sl bk r.v a.v.k::sl bk c.v (if a.done then a.v.l.cells else [])::sl bx f.v a.freed::ob eA p a::ob iu vj x.jobs::sl il vr x.res::ob (jZ ct) lp x.limbo::sl ct vt x.rests::sl dd vs x.slots::M) J:=fun z J e1 e2 e3 e4 e5 e6 e7 h=>by
  refine BL u5 l (oO x a pick r c f s) (eP a x.born pick) a.freed hll hok ?_
  refine iX p a ?_
  rw [←hn,←e1,←e2,←e3,←e4,←e5,←e6,←e7]
  refine cg b z vj (ptr p 0) u5 vr lp vt vs ?_
  exact h
 unfold gO at hK
 by_cases c5:a.fin=5
 ·simp only [if_pos c5] at hK
  repeat' (first | (with_reducible refine G.joini0 ?_) | (with_reducible refine G.joini1 ?_) | (with_reducible refine G.drew ?_) | (simp (maxSteps:=2000000) only [↓RG,RP,RB,BEq.rfl,Int.reduceEq,Int.reduceLT,Int.reduceLE,Nat.reduceEqDiff,eq_true c5]))
  refine pz (x:=a) ?_
  rw [if_pos h8]
  by_cases cb:0≤a.by_∧a.by_<x.s.threads
  ·simp only [if_pos cb] at hK
   refine gu ?_
   repeat' (first | (with_reducible refine G.joini0 ?_) | (with_reducible refine G.joini1 ?_) | (with_reducible refine G.drew ?_) | (simp (maxSteps:=2000000) only [↓RG,RP,RB,BEq.rfl,Int.reduceEq,Int.reduceLT,Int.reduceLE,Nat.reduceEqDiff,eq_true cb.1]))
   refine pz (x:=a) ?_
   rw [if_pos h8]
   repeat' (first | (with_reducible refine G.joini0 ?_) | (with_reducible refine G.joini1 ?_) | (with_reducible refine G.drew ?_) | (simp (maxSteps:=2000000) only [↓RG,RP,RB,BEq.rfl,Int.reduceEq,Int.reduceLT,Int.reduceLE,Nat.reduceEqDiff,eq_true cb.2]))
   refine pz (x:=a) ?_
   rw [if_pos h8]
   refine gg ?_
   exact(hclose { x with past:=x.past++[eP a x.born pick],tries:=IntKind.wrap .i64 (x.tries+1),conf:=IntKind.wrap .i64 (x.conf+1),state:=2,by_:=a.by_,yld:=false } _ rfl rfl rfl rfl rfl rfl rfl (hK s hs)).sub
  ·simp only [if_neg cb] at hK
   have kj:G w0 (own b (bq.cells { x with past:=x.past++[eP a x.born pick],tries:=IntKind.wrap .i64 (x.tries+1),conf:=IntKind.wrap .i64 (x.conf+1) } vj (ptr p 0) u5 vr lp vt vs)::sl fg u5 (l.map (·.1)++[oO x a pick r c f s])::ob (cd dV) () l::sl bk r.v a.v.k::sl bk c.v (if a.done then a.v.l.cells else [])::sl bx f.v a.freed::ob eA p a::ob iu vj x.jobs::sl il vr x.res::ob (jZ ct) lp x.limbo::sl ct vt x.rests::sl dd vs x.slots::M)
     (CP Tryz.prog VM [ptr b 0,.int .u8 draw] (fun x55=>K (.tuple #[]))):=by
    refine hclose { x with past:=x.past++[eP a x.born pick],tries:=IntKind.wrap .i64 (x.tries+1),conf:=IntKind.wrap .i64 (x.conf+1) } _ rfl rfl rfl rfl rfl rfl rfl ?_
    refine uR (x:={ x with past:=x.past++[eP a x.born pick],tries:=IntKind.wrap .i64 (x.tries+1),conf:=IntKind.wrap .i64 (x.conf+1) }) (hjo _ rfl rfl rfl) hd hd2 ?_
    exact hK s hs
   refine gu ?_
   by_cases cb0:0≤a.by_
   ·have cb1:¬a.by_<x.s.threads:=fun h=>cb ⟨cb0,h⟩
    refine gf (eq_true cb0) ?_
    refine pz (x:=a) ?_
    rw [if_pos h8]
    refine gf cb1 ?_
    exact kj.sub
   ·refine gf cb0 ?_
    exact kj.sub
 ·simp only [if_neg c5] at hK
  refine gf c5 ?_
  refine gU (x:=a) ?_
  rw [if_pos h8]
  by_cases h3:a.fin=3
  ·simp only [if_pos h3] at hK
   repeat' (first | (with_reducible refine G.joini0 ?_) | (with_reducible refine G.joini1 ?_) | (with_reducible refine G.drew ?_) | (simp (maxSteps:=2000000) only [↓RG,RP,RB,BEq.rfl,Int.reduceEq,Int.reduceLT,Int.reduceLE,Nat.reduceEqDiff,eq_true h3]))
   refine G.cond (fun ha=>?_) (fun ha=>?_)
   rotate_left
   ·simp only [if_neg (show ¬x.alarm=true by rw [ha];decide)] at hK
    refine gg ?_
    exact(hclose { x with past:=x.past++[eP a x.born pick],tries:=IntKind.wrap .i64 (x.tries+1),state:=4 } _ rfl rfl rfl rfl rfl rfl rfl (hK s hs)).sub
   ·simp only [if_pos ha] at hK
    refine G.sub (hclose { x with past:=x.past++[eP a x.born pick],tries:=IntKind.wrap .i64 (x.tries+1) } _ rfl rfl rfl rfl rfl rfl rfl ?_)
    refine ii (x:={ x with past:=x.past++[eP a x.born pick],tries:=IntKind.wrap .i64 (x.tries+1) }) (hjo _ rfl rfl rfl) ?_
    repeat' (first | (with_reducible refine G.joini0 ?_) | (with_reducible refine G.joini1 ?_) | (with_reducible refine G.drew ?_) | (simp (maxSteps:=2000000) only [↓RG,RP,RB,BEq.rfl,Int.reduceEq,Int.reduceLT,Int.reduceLE,Nat.reduceEqDiff]))
    exact hK s hs
  simp only [if_neg h3] at hK
  repeat' (first | (with_reducible refine G.joini0 ?_) | (with_reducible refine G.joini1 ?_) | (with_reducible refine G.drew ?_) | (simp (maxSteps:=2000000) only [↓RG,RP,RB,BEq.rfl,Int.reduceEq,Int.reduceLT,Int.reduceLE,Nat.reduceEqDiff,h3]))
  refine G.cond (fun hsw=>?_) (fun hsw=>?_)
  ·simp only [if_pos hsw] at hK
   refine gU (x:=a) ?_
   rw [if_pos h8]
   refine G.sub (hclose { x with past:=x.past++[eP a x.born pick],tries:=IntKind.wrap .i64 (x.tries+1) } _ rfl rfl rfl rfl rfl rfl rfl ?_)
   refine Ds (x:={ x with past:=x.past++[eP a x.born pick],tries:=IntKind.wrap .i64 (x.tries+1) }) (hjo _ rfl rfl rfl) hj hl (by show x.limbo.length+x.rests.length≤_;omega) ?_
   repeat' (first | (with_reducible refine G.joini0 ?_) | (with_reducible refine G.joini1 ?_) | (with_reducible refine G.drew ?_) | (simp (maxSteps:=2000000) only [↓RG,RP,RB,BEq.rfl,Int.reduceEq,Int.reduceLT,Int.reduceLE,Nat.reduceEqDiff]))
   exact hK s hs
  ·simp only [if_neg (show ¬x.sweep=true by rw [hsw];decide)] at hK
   have hfr:=hm2 hsw
   repeat' (first | (with_reducible refine G.joini0 ?_) | (with_reducible refine G.joini1 ?_) | (with_reducible refine G.drew ?_) | (simp (maxSteps:=2000000) only [↓RG,RP,RB,BEq.rfl,Int.reduceEq,Int.reduceLT,Int.reduceLE,Nat.reduceEqDiff]))
   refine gU (x:=a) ?_
   rw [if_pos h8]
   refine gg ?_
   refine xI (x:=a) ?_
   rw [if_pos h8]
   refine gg ?_
   refine tL ht (x:=a) hg.items fun s2 hs2=>?_
   refine gg ?_
   refine oM (x:=a) ?_
   refine gg ?_
   refine G.build il [⟨a.fin,a.err,s2,a.stamp⟩] rfl (by decide) rfl fun u7 h7=>?_
   refine gg ?_
   refine G.append (E:=il) (xs:=x.res) (ys:=[⟨a.fin,a.err,s2,a.stamp⟩]) (by simp only [List.length_singleton];omega) (by simp only [List.length_singleton,maxLen];omega) fun u8 h8'=>?_
   repeat' (first | (with_reducible refine G.joini0 ?_) | (with_reducible refine G.joini1 ?_) | (with_reducible refine G.drew ?_) | (simp (maxSteps:=2000000) only [↓RG,RP,RB,BEq.rfl,Int.reduceEq,Int.reduceLT,Int.reduceLE,Nat.reduceEqDiff]))
   refine oM (x:=a) ?_
   refine gg ?_
   refine tW (x:=a) (fun h=>by have:=hg.frees h;omega) (by have:=hg.blocks;omega) fun f2=>?_
   refine gg ?_
   refine re (xs:=x.limbo) (bs:=a.freed) (by omega) ?_
   refine gg ?_
   refine BL u5 l (oO x a pick r c f s) (eP a x.born pick) a.freed hll hok ?_
   refine iX p a ?_
   rw [←hn]
   refine cg b { x with past:=x.past++[eP a x.born pick],tries:=IntKind.wrap .i64 (x.tries+1),res:=x.res++[⟨a.fin,a.err,s2,a.stamp⟩],limbo:=x.limbo++a.freed.map fun n=>⟨n,a.stamp⟩ } vj (ptr p 0) u5 u8 lp vt vs ?_
   refine FX (x:={ x with past:=x.past++[eP a x.born pick],tries:=IntKind.wrap .i64 (x.tries+1),res:=x.res++[⟨a.fin,a.err,s2,a.stamp⟩],limbo:=x.limbo++a.freed.map fun n=>⟨n,a.stamp⟩ }) (hjo _ rfl rfl rfl) hj hl (by simp only [List.length_append,List.length_map];omega) ?_
   repeat' (first | (with_reducible refine G.joini0 ?_) | (with_reducible refine G.joini1 ?_) | (with_reducible refine G.drew ?_) | (simp (maxSteps:=2000000) only [↓RG,RP,RB,BEq.rfl,Int.reduceEq,Int.reduceLT,Int.reduceLE,Nat.reduceEqDiff]))
   exact(hK s2 hs2).sub
end
end Go.Proofs.YtoealglbimbbmaaGreatDoor.S
