import Derived.Test.YtoealglbimbbmaaGreatDoorRAttT
namespace Go.Proofs.YtoealglbimbbmaaGreatDoor.S
open Go Go.Proofs
set_option linter.unusedVariables false
set_option linter.unusedSimpArgs false
def co {α:Type}(f:α→ax)(_:Unit)(l:List α):ax:=dh (l.map f)
section
variable {α:Type}{f:α→ax}{w0:bg}{L M:List ax}{F:World→Prop}{l:List α}{x:α}{k:Nat}
theorem jl (h:l[k]? = some x):G w0 (ob (co f) () l::M) F=G w0 (f x::ob (co f) () (l.eraseIdx k)::M) F:=da (by
 show bu (ob (co f) () l) (dh M)=bu (f x) (bu (ob (co f) () (l.eraseIdx k)) (dh M))
 rw [dO (co f),dO (co f),co,Nb _ h,←Fd];rfl)
theorem gy:G w0 (ob (co f) () (l++[x])::M) F=G w0 (f x::ob (co f) () l::M) F:=by
 rw [jl (k:=l.length) (x:=x) (by simp)]
 congr 3
 simp [List.eraseIdx_append_of_length_le]
theorem ll (H:G w0 (ob (co f) () []::M) F):G w0 M F:=by
 have:G w0 (ob (co f) () []::M) F=G w0 (NB::M) F:=by
  rw [dO];rfl
 rw [this,Mj] at H
 exact H
end
abbrev qo (p:im×List dD):ax:=sl fv p.1.v p.2
def gY (v:Value)(jobs:List (List dD)):ax:=jX fun l:List (im×List dD)=>bu (fS (l.map (·.2)=jobs)) (bu (sl dY v (l.map (·.1))) (ob (co qo) () l))
abbrev fG:Type:=s9×Ta×List Int
abbrev dI (p:fG):ax:=bu (bu (sl bd p.1.reads.v p.2.1.reads) (sl bd p.1.cells_.v p.2.1.cells)) (sl cd p.1.frees.v p.2.2)
structure tq (p:fG):Prop where
 stamp:p.1.stamp=p.2.1.stamp
 done:decide (p.1.kind=2)=p.2.1.done
 born:p.1.born=p.2.1.born
 ended:p.1.ended=p.2.1.ended
 reads:p.2.1.reads.length≤1000
 cells:p.2.1.cells.length≤1000
 frees:p.2.2.length≤100000
def jo (v:Value)(l:List Ta):ax:=jX fun q:List fG=>bu (fS (q.map (·.2.1)=l∧∀p∈q,tq p)) (bu (sl eE v (q.map (·.1))) (ob (co dI) () q))
def lR (v:Value):Option ca→ax
 | none=>fS (v=.pointer none)
 | some a=>jX fun p=>bu (fS (v=ptr p 0)) (ob em p a)
abbrev cY.cells (x:cY)(vj vn vp vr:Value)(lp:Nat)(vt vs:Value):List Value:=[i64 x.me,i64 x.s.words,i64 x.s.stripes,i64 x.s.wide,i64 x.s.threads,u64 x.s.start,i64 x.s.spins,i64 x.s.writes,i64 x.s.fuel,vj,i64 x.job,i64 x.state,.bool x.sweep,vt,i64 x.tries,i64 x.conf,vn,i64 x.born,.bool x.alarm,vp,vr,ptr lp 0,vs,i64 x.by_,u64 x.since,.bool x.yld,i64 x.pauses]
def fP (b:Nat)(x:cY):ax:=jX fun vj=>jX fun vn=>jX fun vp=>jX fun vr=>jX fun lp=>jX fun vt=>jX fun vs=>bu (bu (bu (bu (bu (bu (bu (own b (x.cells vj vn vp vr lp vt vs)) (ob gY vj x.jobs)) (ob lR vn x.now)) (ob jo vp x.past)) (sl gR vr x.res)) (ob (jP cy) lp x.limbo)) (sl cy vt x.rests)) (sl de vs x.slots)
section
variable {w0:bg}{L M:List ax}{K:KV}{F:World→Prop}{C:ax→List ax}{b lp p:Nat}{x:cY}{v vj vn vp vr vt vs:Value}{a:ca}{jobs:List (List dD)}
theorem dE:G w0 (ob fP b x::M) F=∀vj vn vp vr lp vt vs,G w0 (own b (x.cells vj vn vp vr lp vt vs)::ob gY vj x.jobs::ob lR vn x.now::ob jo vp x.past::sl gR vr x.res::ob (jP cy) lp x.limbo::sl cy vt x.rests::sl de vs x.slots::M) F:=by
 rw [dO,fP]
 simp only [lT,dP]
theorem cq (b:Nat)(x:cY)(vj vn vp vr:Value)(lp:Nat)(vt vs:Value) [cx [own b (x.cells vj vn vp vr lp vt vs),ob gY vj x.jobs,ob lR vn x.now,ob jo vp x.past,sl gR vr x.res,ob (jP cy) lp x.limbo,sl cy vt x.rests,sl de vs x.slots] L M](H:G w0 (ob fP b x::M) F):G w0 L F :=
 G.pickAll (As:=[own b (x.cells vj vn vp vr lp vt vs),ob gY vj x.jobs,ob lR vn x.now,ob jo vp x.past,sl gR vr x.res,ob (jP cy) lp x.limbo,sl cy vt x.rests,sl de vs x.slots]) (by rw [dE] at H;exact H vj vn vp vr lp vt vs)
theorem FT:G w0 (ob lR vn none::M) F=(vn=.pointer none→G w0 M F):=by rw [dO,lR];simp only [eS]
theorem pX:G w0 (ob lR vn (some a)::M) F=∀p,vn=ptr p 0→G w0 (ob em p a::M) F:=by rw [dO,lR];simp only [lT,dP,eS]
theorem iH (p:Nat)(a:ca) [cx [ob em p a] L M](H:G w0 (ob lR (ptr p 0) (some a)::M) F):G w0 L F :=
 G.pickAll (As:=[ob em p a]) (by rw [pX] at H;exact H p rfl)
theorem ON (H:G w0 (ob lR (.pointer none) none::M) F):G w0 M F:=by rw [FT] at H;exact H rfl
theorem pR:G w0 (ob gY v jobs::M) F=∀l:List (im×List dD),l.map (·.2)=jobs→G w0 (sl dY v (l.map (·.1))::ob (co qo) () l::M) F:=by
 rw [dO,gY]
 simp only [lT,dP,eS]
theorem yh (v:Value)(l:List (im×List dD)) [cx [sl dY v (l.map (·.1)),ob (co qo) () l] L M](H:G w0 (ob gY v (l.map (·.2))::M) F):G w0 L F :=
 G.pickAll (As:=[sl dY v (l.map (·.1)),ob (co qo) () l]) (by rw [pR] at H;exact H l rfl)
theorem kG {l:List Ta}:G w0 (ob jo v l::M) F=∀q:List fG,(q.map (·.2.1)=l∧∀p∈q,tq p)→G w0 (sl eE v (q.map (·.1))::ob (co dI) () q::M) F:=by
 rw [dO,jo]
 simp only [lT,dP,eS]
theorem Sz {l:List (im×List dD)}{k:Nat}{q:im×List dD}(h:l[k]? = some q):Rd w0 (ob (co qo) () l::M) q.1.v fv 5 q.2:=⟨rfl,fun w H=>by
 have e:G w0 (ob (co qo) () l::M) (fun w=>fc fv w q.1.v q.2):=by
  rw [jl h]
  exact fun w H=>St.sl_is H
 exact e w H⟩
theorem gS (ho:iz x)[i:al L fP b x C](hK:G w0 (C (ob fP b (fE x))) (K (.tuple #[]))):G w0 L (CP Tryz.prog Xp [ptr b 0] K):=by
 refine i.use (fun M hK=>?_) hK
 refine uT ?_
 unfold mu
 obtain⟨h1,h2,h3,hrs⟩:=ho
 obtain⟨k,hk⟩:=Int.eq_ofNat_of_zero_le h1
 unfold fE at hK
 rw [dE]
 intro vj vn vp vr lp vt vs
 refine G.take1 gY vj ?_
 rw [pR]
 intro l hl
 have hlen:(l.map (·.1)).length=x.jobs.length:=by rw [←hl];simp
 have hkt:x.job.toNat=k:=by omega
 rw [hkt] at hK
 by_cases hc:k=x.jobs.length
 ·have hn:x.jobs[k]? = none:=by rw [hc];simp
  rw [hn] at hK
  have ec:(x.job=(((l.map (·.1)).length:Nat):Int))=True:=by rw [hk,hlen,hc];simp
  repeat' (first | (with_reducible refine G.joini0 ?_) | (with_reducible refine G.joini1 ?_) | (with_reducible refine G.drew ?_) | (simp (maxSteps:=2000000) only [↓RG,RP,RB,BEq.rfl,Int.reduceEq,Int.reduceLT,Int.reduceLE,Nat.reduceEqDiff,ec]))
  refine yh vj l ?_
  rw [hl]
  refine G.take1 lR vn ?_
  refine G.drop ?_
  refine ON ?_
  refine cq b { x with born:=0,alarm:=false,now:=none,state:=6 } vj (.pointer none) vp vr lp vt vs ?_
  exact hK
 ·have hlt:k<x.jobs.length:=by omega
  have hll:k<l.length:=by rw [←hl] at hlt;simpa using hlt
  have hn:x.jobs[k]? = some x.jobs[k]:=List.getElem?_eq_getElem hlt
  have hq:(l[k]).2=x.jobs[k]:=by
   have:x.jobs[k]? = (l.map (·.2))[k]?:=by rw [hl]
   rw [hn,List.getElem?_map,List.getElem?_eq_getElem hll] at this
   simpa using this.symm
  rw [hn] at hK
  simp only at hK
  have ec:(x.job=(((l.map (·.1)).length:Nat):Int))=False:=by rw [hk,hlen];simp only [Int.ofNat_inj,eq_iff_iff,iff_false];exact hc
  repeat' (first | (with_reducible refine G.joini0 ?_) | (with_reducible refine G.joini1 ?_) | (with_reducible refine G.drew ?_) | (simp (maxSteps:=2000000) only [↓RG,RP,RB,BEq.rfl,Int.reduceEq,Int.reduceLT,Int.reduceLE,Nat.reduceEqDiff,ec]))
  refine G.cond (fun hsw=>?_) (fun hsw=>?_)
  rotate_left
  ·rw [if_neg (by rw [hsw];decide)] at hK
   have e:eA (l.map (·.1)) k l[k].1:=⟨by rw [List.getElem?_map,List.getElem?_eq_getElem hll];rfl⟩
   have hx:iA x.job k:=⟨hk⟩
   repeat' (first | (with_reducible refine G.joini0 ?_) | (with_reducible refine G.joini1 ?_) | (with_reducible refine G.drew ?_) | (simp (maxSteps:=2000000) only [↓RG,RP,RB,BEq.rfl,Int.reduceEq,Int.reduceLT,Int.reduceLE,Nat.reduceEqDiff]))
   refine G.take1 (co qo) () ?_
   have r:=fun M:List ax=>Sz (w0:=w0) (M:=M) (List.getElem?_eq_getElem hll)
   have r2:=r (sl dY vj (l.map (·.1))::own b [i64 x.me,i64 x.s.words,i64 x.s.stripes,i64 x.s.wide,i64 x.s.threads,u64 x.s.start,i64 x.s.spins,i64 x.s.writes,i64 x.s.fuel,vj,i64 x.job,i64 x.state,.bool x.sweep,vt,i64 x.tries,i64 x.conf,vn,i64 0,.bool false,vp,vr,ptr lp 0,vs,i64 x.by_,u64 x.since,.bool x.yld,i64 x.pauses]::ob lR vn x.now::ob jo vp x.past::sl gR vr x.res::ob (jP cy) lp x.limbo::sl cy vt x.rests::sl de vs x.slots::M)
   refine IE (s:=x.s) (p:=l[k].2) (bf (a:=l[k].1.a) (n:=l[k].1.n) (c:=l[k].1.c)) (by rw [hq];exact h3 _ (List.getElem_mem hlt)) fun p=>?_
   rw [hq]
   refine gg ?_
   refine yh vj l ?_
   rw [hl]
   refine G.take1 lR vn ?_
   refine G.drop ?_
   refine iH p (kv x.me x.s x.jobs[k]) ?_
   refine cq b { x with born:=0,alarm:=false,now:=some (kv x.me x.s x.jobs[k]),state:=1 } vj (ptr p 0) vp vr lp vt vs ?_
   exact hK
  ·rw [if_pos hsw] at hK
   refine gg ?_
   refine G.nilsl cd ?_
   refine G.loop2 (σ:=Nat×Value) (fun z=>z.2) (fun z=>i64 z.1) (fun z=>sl cd z.2 ((x.rests.take z.1).map (·.place))::sl dY vj (l.map (·.1))::ob (co qo) () l::own b [i64 x.me,i64 x.s.words,i64 x.s.stripes,i64 x.s.wide,i64 x.s.threads,u64 x.s.start,i64 x.s.spins,i64 x.s.writes,i64 x.s.fuel,vj,i64 x.job,i64 x.state,.bool x.sweep,vt,i64 x.tries,i64 x.conf,vn,i64 0,.bool false,vp,vr,ptr lp 0,vs,i64 x.by_,u64 x.since,.bool x.yld,i64 x.pauses]::ob lR vn x.now::ob jo vp x.past::sl gR vr x.res::ob (jP cy) lp x.limbo::sl cy vt x.rests::sl de vs x.slots::M) (fun z=>z.1≤x.rests.length∧av z.2 [z.2]) (fun z=>x.rests.length-z.1) (0,.slice none 0 0) rfl rfl (by simp) ⟨Nat.zero_le _,bf⟩ ?_
   rintro⟨j,u⟩ ⟨hj,hu⟩ J hJ
   simp only at hj hu hJ ⊢
   refine gr ?_
   refine G.cond (fun h=>?_) (fun h=>?_)
   ·have hj2:j<x.rests.length:=by simpa using h
    have e:=cW hj2
    have hlt2:((x.rests.take j).map (·.place)).length=j:=by simp;omega
    refine gg ?_
    refine G.new fun q=>?_
    refine gg ?_
    refine G.build cd [x.rests[j].place] rfl (by decide) rfl fun y hy=>?_
    repeat' (first | (with_reducible refine G.joini0 ?_) | (with_reducible refine G.joini1 ?_) | (with_reducible refine G.drew ?_) | (simp (maxSteps:=2000000) only [↓RG,RP,RB,BEq.rfl,Int.reduceEq,Int.reduceLT,Int.reduceLE,Nat.reduceEqDiff]))
    refine G.append (E:=cd) (xs:=(x.rests.take j).map fun z:nA=>z.place) (ys:=[x.rests[j].place]) (by simp only [hlt2,List.length_singleton];omega) (by simp only [hlt2,List.length_singleton,maxLen];omega) fun u5 h5=>?_
    repeat' (first | (with_reducible refine G.joini0 ?_) | (with_reducible refine G.joini1 ?_) | (with_reducible refine G.drew ?_) | (simp (maxSteps:=2000000) only [↓RG,RP,RB,BEq.rfl,Int.reduceEq,Int.reduceLT,Int.reduceLE,Nat.reduceEqDiff]))
    rw [dt (by omega)]
    have hn:=hJ (j+1,u5) ⟨hj2,h5⟩ (by simp only;omega)
    simp only [List.take_succ_eq_append_getElem hj2,List.map_append,List.map_cons,List.map_nil] at hn
    exact hn.sub
   ·have hj2:j=x.rests.length:=by
     have:¬j<x.rests.length:=by simpa using h
     omega
    subst hj2
    rw [List.take_length]
    repeat' (first | (with_reducible refine G.joini0 ?_) | (with_reducible refine G.joini1 ?_) | (with_reducible refine G.drew ?_) | (simp (maxSteps:=2000000) only [↓RG,RP,RB,BEq.rfl,Int.reduceEq,Int.reduceLT,Int.reduceLE,Nat.reduceEqDiff]))
    refine Ew (s:=x.s) (bs:=x.rests.map fun z:nA=>z.place) (by rw [List.length_map];omega) fun p=>?_
    refine gg ?_
    refine yh vj l ?_
    rw [hl]
    refine G.take1 lR vn ?_
    refine G.drop ?_
    refine iH p (gT x.me x.s (x.rests.map (·.place))) ?_
    refine cq b { x with born:=0,alarm:=false,now:=some (gT x.me x.s (x.rests.map (·.place))),state:=1 } vj (ptr p 0) vp vr lp vt vs ?_
    exact hK.sub
end
end Go.Proofs.YtoealglbimbbmaaGreatDoor.S
namespace Go.Proofs.YtoealglbimbbmaaGreatDoor.S
open Go Go.Proofs
set_option linter.unusedVariables false
set_option linter.unusedSimpArgs false
section
variable {w0:bg}{L M:List ax}{K:KV}{F:World→Prop}{C:ax→List ax}{b lp p:Nat}{x:cY}{v vj vn vp vr vt vs:Value}{a:ca}{draw:Int}
theorem fY (ho:iz { x with job:=x.job+1,rests:=[] })(hl:x.jobs.length≤1000000)[i:al L fP b x C](hK:G w0 (C (ob fP b (gQ x))) (K (.tuple #[]))):G w0 L (CP Tryz.prog Xw [ptr b 0] K):=by
 refine i.use (fun M hK=>?_) hK
 refine qV ?_
 unfold jE
 have hb:=ho.hi
 have hb2:=ho.lo
 simp only at hb hb2
 rw [dE]
 intro vj vn vp vr lp vt vs
 refine gg ?_
 rw [ik (n:=x.job+1) (by omega) (by omega)]
 refine G.nilsl cy ?_
 refine cq b { x with job:=x.job+1,sweep:=false,rests:=[],tries:=0,conf:=0 } vj vn vp vr lp (.slice none 0 0) vs ?_
 refine gS (x:={ x with job:=x.job+1,sweep:=false,rests:=[],tries:=0,conf:=0 }) ⟨ho.lo,ho.hi,ho.progs,by simp⟩ ?_
 repeat' (first | (with_reducible refine G.joini0 ?_) | (with_reducible refine G.joini1 ?_) | (with_reducible refine G.drew ?_) | (simp (maxSteps:=2000000) only [↓RG,RP,RB,BEq.rfl,Int.reduceEq,Int.reduceLT,Int.reduceLE,Nat.reduceEqDiff]))
 exact hK.sub
theorem xg (ho:iz x)(hd:0≤draw)(hd2:draw≤255)[i:al L fP b x C](hK:G w0 (C (ob fP b (nB x draw))) (K (.tuple #[]))):G w0 L (CP Tryz.prog XK [ptr b 0,.int .u8 draw] K):=by
 refine i.use (fun M hK=>?_) hK
 refine uZ ?_
 unfold mo
 rw [dE]
 intro vj vn vp vr lp vt vs
 have hf:(if (8:Int)<x.conf then 8 else x.conf)=xF x.conf:=rfl
 have hf8:xF x.conf≤8:=by unfold xF;split <;> omega
 refine dN hf ?_
 refine G.loop2 (fun k:Nat=>i64 (kV k)) (fun k:Nat=>i64 k) (fun k=>own b (x.cells vj vn vp vr lp vt vs)::ob gY vj x.jobs::ob lR vn x.now::ob jo vp x.past::sl gR vr x.res::ob (jP cy) lp x.limbo::sl cy vt x.rests::sl de vs x.slots::M) (fun k=>k≤(xF x.conf).toNat) (fun k=>(xF x.conf).toNat-k) 0 rfl rfl rfl (by simp) ?_
 intro k hk J hJ
 have hm:=L8 k
 refine gr ?_
 refine G.cond (fun h=>?_) (fun h=>?_)
 ·have hk2:k<(xF x.conf).toNat:=by simp at h;omega
  have h1:=hJ (k+1) hk2 (by omega)
  refine gr ?_
  rw [ik (n:=2*kV k) (by omega) (by omega),dt (by omega)]
  exact h1
 ·have hk2:k=(xF x.conf).toNat:=by simp at h;omega
  have ne:gZ (kV k+1):=⟨by omega⟩
  have e1:IntKind.wrap .i64 (kV k+1)=kV k+1:=ik (by omega) (by omega)
  unfold nB at hK
  have hpo:draw.tmod (kV k+1)=pI x.conf draw:=by rw [hk2]
  have ed:IntKind.wrap .i64 draw=draw:=ik (by omega) (by omega)
  by_cases h0:pI x.conf draw=0
  ·rw [if_pos h0] at hK
   rw [h0] at hpo
   refine gf (an ed (an e1 hpo)) ?_
   refine cq b { x with pauses:=0,state:=3 } vj vn vp vr lp vt vs ?_
   refine gS (x:={ x with pauses:=0,state:=3 }) ⟨ho.lo,ho.hi,ho.progs,ho.rests⟩ ?_
   repeat' (first | (with_reducible refine G.joini0 ?_) | (with_reducible refine G.joini1 ?_) | (with_reducible refine G.drew ?_) | (simp (maxSteps:=2000000) only [↓RG,RP,RB,BEq.rfl,Int.reduceEq,Int.reduceLT,Int.reduceLE,Nat.reduceEqDiff]))
   exact hK
  ·rw [if_neg h0] at hK
   refine gf (an ed (an e1 (an hpo h0))) ?_
   refine cq b { x with pauses:=pI x.conf draw,state:=3 } vj vn vp vr lp vt vs ?_
   exact hK
theorem FD (ho:iz x)(hp:x.state=3→1≤x.pauses∧x.pauses≤100)[i:al L fP b x C](hK:G w0 (C (ob fP b (gL x))) (K (.tuple #[]))):G w0 L (CP Tryz.prog aaR [ptr b 0] K):=by
 refine i.use (fun M hK=>?_) hK
 refine va ?_
 unfold mC
 rw [dE]
 intro vj vn vp vr lp vt vs
 unfold gL at hK
 by_cases h3:x.state=3
 ·rw [if_pos h3] at hK
  have hp:=hp h3
  have e:IntKind.wrap .i64 (x.pauses-1)=x.pauses-1:=ik (by omega) (by omega)
  by_cases h1:x.pauses=1
  ·rw [if_pos h1] at hK
   have e0:(x.pauses-1=0)=True:=eq_true (by omega)
   refine gf (an (eq_true h3) (an e e0)) ?_
   refine cq b { x with pauses:=x.pauses-1 } vj vn vp vr lp vt vs ?_
   refine gS (x:={ x with pauses:=x.pauses-1 }) ⟨ho.lo,ho.hi,ho.progs,ho.rests⟩ ?_
   rw [show x.pauses-1=0 by omega]
   exact hK
  ·rw [if_neg h1,dE] at hK
   have e0:(x.pauses-1=0)=False:=eq_false (by omega)
   refine gf (an (eq_true h3) (an e e0)) ?_
   exact hK vj vn vp vr lp vt vs
 ·rw [if_neg h3,dE] at hK
  refine gf h3 ?_
  exact hK vj vn vp vr lp vt vs
theorem Fx {a:fi}(ho:iz x)(hd:0≤draw)(hd2:draw≤255)[i:al L fP b x C](hK:G w0 (C (ob fP b (td x a draw))) (K (.tuple #[]))):G w0 L (CP Tryz.prog aa2 [ptr b 0,.agg (fi.cells a).toArray,.int .u8 draw] K):=by
 refine i.use (fun M hK=>?_) hK
 refine uY ?_
 unfold md
 refine G.box fun q=>?_
 rw [eN]
 refine G.drew ?_
 unfold td at hK
 have hpause:G w0 (ob fP b (nB x draw)::M) (K (.tuple #[]))→G w0 (ob fP b x::own q (fi.cells a)::M) (CP Tryz.prog XK [ptr b 0,.int .u8 draw] (fun x32=>K (.tuple #[]))):=fun h=>xg (x:=x) ho hd hd2 h.sub
 refine gu ?_
 by_cases c1:a.err=0
 ·by_cases c2:a.word=0
  ·rw [if_neg (fun h=>h.2.1 c2)] at hK
   refine gf (an (eq_true c1) (eq_true c2)) ?_
   exact hpause hK
  ·rw [dE]
   intro vj vn vp vr lp vt vs
   cases hy:x.yld
   ·rw [if_pos ⟨c1,c2,.inl hy⟩,dE] at hK
    have hy2:(!x.yld)=true:=by rw [hy];rfl
    repeat' (first | (with_reducible refine G.joini0 ?_) | (with_reducible refine G.joini1 ?_) | (with_reducible refine G.drew ?_) | (simp (maxSteps:=2000000) only [↓RG,RP,RB,BEq.rfl,Int.reduceEq,Int.reduceLT,Int.reduceLE,Nat.reduceEqDiff,eq_true c1,c2,hy2]))
    exact(hK vj vn vp vr lp vt vs).sub
   ·have hy2:(!x.yld)=false:=by rw [hy];rfl
    by_cases c3:a.word=x.since
    ·rw [if_pos ⟨c1,c2,.inr c3⟩,dE] at hK
     repeat' (first | (with_reducible refine G.joini0 ?_) | (with_reducible refine G.joini1 ?_) | (with_reducible refine G.drew ?_) | (simp (maxSteps:=2000000) only [↓RG,RP,RB,BEq.rfl,Int.reduceEq,Int.reduceLT,Int.reduceLE,Nat.reduceEqDiff,eq_true c1,c2,hy2,eq_true c3]))
     exact(hK vj vn vp vr lp vt vs).sub
    ·rw [if_neg (fun h=>by rcases h.2.2 with h | h;rw [hy] at h;cases h;exact c3 h)] at hK
     refine gf (an (eq_true c1) (an c2 (an hy2 c3))) ?_
     refine cq b x vj vn vp vr lp vt vs ?_
     exact hpause hK
 ·rw [if_neg (fun h=>c1 h.1)] at hK
  refine gf c1 ?_
  exact hpause hK
theorem zO (ho:iz x)(hj:x.job<x.jobs.length)(hl:x.jobs.length≤1000000)(hs:x.slots.length≤10)(hm:x.limbo.length≤90000)[i:al L fP b x C](hK:G w0 (C (ob fP b (rH x))) (K (.tuple #[]))):G w0 L (CP Tryz.prog Y0 [ptr b 0] K):=by
 refine i.use (fun M hK=>?_) hK
 refine vV ?_
 unfold ny
 have hj1:iz { x with job:=x.job+1,rests:=[] }:=⟨by have:=ho.lo;show 0≤x.job+1;omega,by show x.job+1≤x.jobs.length;omega,ho.progs,by simp⟩
 have key:∀vj vn vp vr lp vt vs2,G w0 (own b (x.cells vj vn vp vr lp vt vs2)::sl de vs2 (fz x)::ob gY vj x.jobs::ob lR vn x.now::ob jo vp x.past::sl gR vr x.res::ob (jP cy) lp x.limbo::sl cy vt x.rests::M)
   (ae (.bool (decide (((fz x).length:Int)<x.s.threads))) (K (.tuple #[])) (aq (aa (ptr b 21) fun x21=>aa (ptr b 22) fun x24=>CP Tryz.prog Yw [x21,x24] fun x25=>andP (andP (ac) (andP (ac) (ac))) (ct x25 fun x26=>ab .eql x26 (i64 0) fun x27=>ae x27 (CP Tryz.prog Xw [ptr b 0] fun x28=>K (.tuple #[])) (au [.bool false,.slice none 0 0,i64 0,i64 0] [(0,1,.bool true),(1,1,x25)] fun x29=>ag 4 (ptr b 12) x29 fun _=>CP Tryz.prog Xp [ptr b 0] fun x33=>K (.tuple #[])))))):=by
  intro vj vn vp vr lp vt vs2
  unfold rH at hK
  have h11:(fz x).length≤11:=by
   show (if (x.slots.length:Int)=x.me then x.slots++[0] else x.slots).length≤11
   split
   ·simp only [List.length_append,List.length_singleton];omega
   ·omega
  generalize fz x=ss at hK h11
  by_cases c1:((ss.length:Nat):Int)<x.s.threads
  ·rw [if_pos c1] at hK
   refine gf (eq_true c1) ?_
   refine cq b { x with slots:=ss } vj vn vp vr lp vt vs2 ?_
   exact hK
  ·rw [if_neg c1] at hK
   repeat' (first | (with_reducible refine G.joini0 ?_) | (with_reducible refine G.joini1 ?_) | (with_reducible refine G.drew ?_) | (simp (maxSteps:=2000000) only [↓RG,RP,RB,BEq.rfl,Int.reduceEq,Int.reduceLT,Int.reduceLE,Nat.reduceEqDiff,c1]))
   refine zR (xs:=x.limbo) (ss:=ss) (by omega) (by omega) fun u hu=>?_
   have hlr:=List.length_filter_le (fun r:nA=>eB ss r.stamp) x.limbo
   by_cases c2:x.limbo.filter (fun r=>eB ss r.stamp)=[]
   ·rw [if_pos c2] at hK
    rw [c2]
    repeat' (first | (with_reducible refine G.joini0 ?_) | (with_reducible refine G.joini1 ?_) | (with_reducible refine G.drew ?_) | (simp (maxSteps:=2000000) only [↓RG,RP,RB,BEq.rfl,Int.reduceEq,Int.reduceLT,Int.reduceLE,Nat.reduceEqDiff,List.length_nil,Int.cast_ofNat_Int]))
    refine cq b { x with slots:=ss,limbo:=x.limbo.filter fun r=>!eB ss r.stamp } vj vn vp vr lp vt vs2 ?_
    refine fY (x:={ x with slots:=ss,limbo:=x.limbo.filter fun r=>!eB ss r.stamp }) ⟨hj1.lo,hj1.hi,hj1.progs,hj1.rests⟩ hl ?_
    repeat' (first | (with_reducible refine G.joini0 ?_) | (with_reducible refine G.joini1 ?_) | (with_reducible refine G.drew ?_) | (simp (maxSteps:=2000000) only [↓RG,RP,RB,BEq.rfl,Int.reduceEq,Int.reduceLT,Int.reduceLE,Nat.reduceEqDiff]))
    exact hK.sub
   ·rw [if_neg c2] at hK
    have c3:¬(((x.limbo.filter (fun r=>eB ss r.stamp)).length:Nat):Int)=0:=by
     intro g
     exact c2 (List.length_eq_zero_iff.1 (by omega))
    refine gf c3 ?_
    refine cq b { x with slots:=ss,limbo:=x.limbo.filter (fun r=>!eB ss r.stamp),sweep:=true,rests:=x.limbo.filter (fun r=>eB ss r.stamp),tries:=0,conf:=0 } vj vn vp vr lp u vs2 ?_
    refine gS (x:={ x with slots:=ss,limbo:=x.limbo.filter (fun r=>!eB ss r.stamp),sweep:=true,rests:=x.limbo.filter (fun r=>eB ss r.stamp),tries:=0,conf:=0 }) ⟨ho.lo,ho.hi,ho.progs,by show (x.limbo.filter _).length≤_;omega⟩ ?_
    repeat' (first | (with_reducible refine G.joini0 ?_) | (with_reducible refine G.joini1 ?_) | (with_reducible refine G.drew ?_) | (simp (maxSteps:=2000000) only [↓RG,RP,RB,BEq.rfl,Int.reduceEq,Int.reduceLT,Int.reduceLE,Nat.reduceEqDiff]))
    exact hK.sub
 rw [dE]
 intro vj vn vp vr lp vt vs
 by_cases cm:(x.slots.length:Int)=x.me
 ·have e:fz x=x.slots++[0]:=if_pos cm
  rw [e] at key
  repeat' (first | (with_reducible refine G.joini0 ?_) | (with_reducible refine G.joini1 ?_) | (with_reducible refine G.drew ?_) | (simp (maxSteps:=2000000) only [↓RG,RP,RB,BEq.rfl,Int.reduceEq,Int.reduceLT,Int.reduceLE,Nat.reduceEqDiff,eq_true cm]))
  refine G.build de [0] rfl (by decide) rfl fun y hy=>?_
  repeat' (first | (with_reducible refine G.joini0 ?_) | (with_reducible refine G.joini1 ?_) | (with_reducible refine G.drew ?_) | (simp (maxSteps:=2000000) only [↓RG,RP,RB,BEq.rfl,Int.reduceEq,Int.reduceLT,Int.reduceLE,Nat.reduceEqDiff]))
  refine G.append (E:=de) (xs:=x.slots) (ys:=[0]) (by simp only [List.length_singleton];omega) (by simp only [List.length_singleton,maxLen];omega) fun u hu=>?_
  repeat' (first | (with_reducible refine G.joini0 ?_) | (with_reducible refine G.joini1 ?_) | (with_reducible refine G.drew ?_) | (simp (maxSteps:=2000000) only [↓RG,RP,RB,BEq.rfl,Int.reduceEq,Int.reduceLT,Int.reduceLE,Nat.reduceEqDiff]))
  exact(key vj vn vp vr lp vt u).sub
 ·have e:fz x=x.slots:=if_neg cm
  rw [e] at key
  repeat' (first | (with_reducible refine G.joini0 ?_) | (with_reducible refine G.joini1 ?_) | (with_reducible refine G.drew ?_) | (simp (maxSteps:=2000000) only [↓RG,RP,RB,BEq.rfl,Int.reduceEq,Int.reduceLT,Int.reduceLE,Nat.reduceEqDiff,cm]))
  exact(key vj vn vp vr lp vt vs).sub
theorem uE {since:Int}(ho:iz x)(hj:x.job<x.jobs.length)(hl:x.jobs.length≤1000000)(hs:x.slots.length≤4)(hm:x.limbo.length≤90000)[i:al L fP b x C](hK:G w0 (C (ob fP b (xW x since))) (K (.tuple #[]))):G w0 L (CP Tryz.prog aa3 [ptr b 0,u64 since] K):=by
 refine i.use (fun M hK=>?_) hK
 refine tR ?_
 unfold kX
 rw [dE]
 intro vj vn vp vr lp vt vs
 refine gg ?_
 refine G.build de [since] rfl (by decide) rfl fun y hy=>?_
 repeat' (first | (with_reducible refine G.joini0 ?_) | (with_reducible refine G.joini1 ?_) | (with_reducible refine G.drew ?_) | (simp (maxSteps:=2000000) only [↓RG,RP,RB,BEq.rfl,Int.reduceEq,Int.reduceLT,Int.reduceLE,Nat.reduceEqDiff]))
 refine G.append (E:=de) (xs:=x.slots) (ys:=[since]) (by simp only [List.length_singleton];omega) (by simp only [List.length_singleton,maxLen];omega) fun u hu=>?_
 refine gg ?_
 refine cq b { x with slots:=x.slots++[since] } vj vn vp vr lp vt u ?_
 refine zO (x:={ x with slots:=x.slots++[since] }) ⟨ho.lo,ho.hi,ho.progs,ho.rests⟩ hj hl (by simp only [List.length_append,List.length_singleton];omega) hm ?_
 repeat' (first | (with_reducible refine G.joini0 ?_) | (with_reducible refine G.joini1 ?_) | (with_reducible refine G.drew ?_) | (simp (maxSteps:=2000000) only [↓RG,RP,RB,BEq.rfl,Int.reduceEq,Int.reduceLT,Int.reduceLE,Nat.reduceEqDiff]))
 exact hK.sub
theorem HU (ho:iz x)(hj:x.job<x.jobs.length)(hl:x.jobs.length≤1000000)(hm:x.limbo.length≤90000)[i:al L fP b x C](hK:G w0 (C (ob fP b (BM x))) (K (.tuple #[]))):G w0 L (CP Tryz.prog abf [ptr b 0] K):=by
 refine i.use (fun M hK=>?_) hK
 refine vU ?_
 unfold od
 unfold BM at hK
 rw [dE]
 intro vj vn vp vr lp vt vs
 refine gg ?_
 refine B5 (xs:=x.limbo) ?_
 by_cases c:x.limbo=[]
 ·rw [if_pos c] at hK
  have c3:(((x.limbo.length:Nat):Int)=0)=True:=by rw [c];simp
  refine gf c3 ?_
  refine cq b x vj vn vp vr lp vt vs ?_
  refine fY (x:=x) ⟨by have:=ho.lo;show 0≤x.job+1;omega,by show x.job+1≤x.jobs.length;omega,ho.progs,by simp⟩ hl ?_
  repeat' (first | (with_reducible refine G.joini0 ?_) | (with_reducible refine G.joini1 ?_) | (with_reducible refine G.drew ?_) | (simp (maxSteps:=2000000) only [↓RG,RP,RB,BEq.rfl,Int.reduceEq,Int.reduceLT,Int.reduceLE,Nat.reduceEqDiff]))
  exact hK
 ·rw [if_neg c] at hK
  have c3:¬((x.limbo.length:Nat):Int)=0:=by
   intro g
   exact c (List.length_eq_zero_iff.1 (by omega))
  refine gf c3 ?_
  refine G.nilsl de ?_
  refine cq b { x with state:=5,slots:=[] } vj vn vp vr lp vt (.slice none 0 0) ?_
  refine zO (x:={ x with state:=5,slots:=[] }) ⟨ho.lo,ho.hi,ho.progs,ho.rests⟩ hj hl (by simp) hm ?_
  repeat' (first | (with_reducible refine G.joini0 ?_) | (with_reducible refine G.joini1 ?_) | (with_reducible refine G.drew ?_) | (simp (maxSteps:=2000000) only [↓RG,RP,RB,BEq.rfl,Int.reduceEq,Int.reduceLT,Int.reduceLE,Nat.reduceEqDiff]))
  exact hK.sub
theorem FR {e:Int}(ho:iz x)(hj:x.job<x.jobs.length)(hl:x.jobs.length≤1000000)(hm:x.limbo.length+x.rests.length≤90000)[i:al L fP b x C](hK:G w0 (C (ob fP b (BD x e))) (K (.tuple #[]))):G w0 L (CP Tryz.prog abe [ptr b 0,i64 e] K):=by
 refine i.use (fun M hK=>?_) hK
 refine vD ?_
 unfold mc
 unfold BD at hK
 have hj1:∀z:cY,z.job=x.job→z.jobs=x.jobs→iz { z with job:=z.job+1,rests:=[] }:=fun z e1 e2=>⟨by have:=ho.lo;show 0≤z.job+1;omega,by show z.job+1≤z.jobs.length;rw [e2];omega,by show ∀p∈z.jobs,_;rw [e2];exact ho.progs,by simp⟩
 rw [dE]
 intro vj vn vp vr lp vt vs
 by_cases c4:e=4
 ·rw [if_pos c4] at hK
  repeat' (first | (with_reducible refine G.joini0 ?_) | (with_reducible refine G.joini1 ?_) | (with_reducible refine G.drew ?_) | (simp (maxSteps:=2000000) only [↓RG,RP,RB,BEq.rfl,Int.reduceEq,Int.reduceLT,Int.reduceLE,Nat.reduceEqDiff,eq_true c4]))
  refine G.loop1 (fun k:Nat=>i64 k) (fun k=>own b (x.cells vj vn vp vr lp vt vs)::ob gY vj x.jobs::ob lR vn x.now::ob jo vp x.past::sl gR vr x.res::ob (jP cy) lp (x.limbo++x.rests.take k)::sl cy vt x.rests::sl de vs x.slots::M) (fun k=>k≤x.rests.length) (fun k=>x.rests.length-k) 0 rfl (by simp) (by simp) ?_
  intro k hk J hJ
  refine gr ?_
  refine G.cond (fun h=>?_) (fun h=>?_)
  ·have hk2:k<x.rests.length:=by simpa using h
   have e:=cW hk2
   refine gg ?_
   refine G.new fun q=>?_
   repeat' (first | (with_reducible refine G.joini0 ?_) | (with_reducible refine G.joini1 ?_) | (with_reducible refine G.drew ?_) | (simp (maxSteps:=2000000) only [↓RG,RP,RB,BEq.rfl,Int.reduceEq,Int.reduceLT,Int.reduceLE,Nat.reduceEqDiff]))
   refine G.build cd [x.rests[k].place] rfl (by decide) rfl fun y hy=>?_
   refine gg ?_
   refine rk (xs:=x.limbo++x.rests.take k) (bs:=[x.rests[k].place]) (t:=x.rests[k].stamp) (by simp only [List.length_append,List.length_take,List.length_singleton];omega) ?_
   refine gg ?_
   rw [dt (by omega)]
   have hn:=hJ (k+1) hk2 (by omega)
   rw [List.take_succ_eq_append_getElem hk2,←List.append_assoc] at hn
   simp only [List.map_cons,List.map_nil,show (⟨x.rests[k].place,x.rests[k].stamp⟩:nA)=x.rests[k] from rfl]
   exact hn.sub
  ·have hk2:k=x.rests.length:=by
    have:¬k<x.rests.length:=by simpa using h
    omega
   subst hk2
   rw [List.take_length]
   repeat' (first | (with_reducible refine G.joini0 ?_) | (with_reducible refine G.joini1 ?_) | (with_reducible refine G.drew ?_) | (simp (maxSteps:=2000000) only [↓RG,RP,RB,BEq.rfl,Int.reduceEq,Int.reduceLT,Int.reduceLE,Nat.reduceEqDiff]))
   refine cq b { x with limbo:=x.limbo++x.rests } vj vn vp vr lp vt vs ?_
   refine fY (x:={ x with limbo:=x.limbo++x.rests }) (hj1 _ rfl rfl) hl ?_
   repeat' (first | (with_reducible refine G.joini0 ?_) | (with_reducible refine G.joini1 ?_) | (with_reducible refine G.drew ?_) | (simp (maxSteps:=2000000) only [↓RG,RP,RB,BEq.rfl,Int.reduceEq,Int.reduceLT,Int.reduceLE,Nat.reduceEqDiff]))
   exact hK
 ·rw [if_neg c4] at hK
  refine gf c4 ?_
  refine cq b x vj vn vp vr lp vt vs ?_
  refine fY (x:=x) (hj1 _ rfl rfl) hl ?_
  repeat' (first | (with_reducible refine G.joini0 ?_) | (with_reducible refine G.joini1 ?_) | (with_reducible refine G.drew ?_) | (simp (maxSteps:=2000000) only [↓RG,RP,RB,BEq.rfl,Int.reduceEq,Int.reduceLT,Int.reduceLE,Nat.reduceEqDiff]))
  exact hK
theorem FJ [i:al L fP b x C](hK:G w0 L (K (i64 x.state))):G w0 L (CP Tryz.prog aaX [ptr b 0] K):=by
 refine i.ro (fun M hK=>?_) hK
 refine vq ?_
 unfold mf
 rw [dE] at *
 intro vj vn vp vr lp vt vs
 have hK:=hK vj vn vp vr lp vt vs
 refine gr ?_
 exact hK
theorem C6 (hl:x.res.length≤1000000)[i:al L fP b x C](hK:∀u,av u [u]→G w0 (sl gR u x.res::L) (K u)):G w0 L (CP Tryz.prog aaW [ptr b 0] K):=by
 refine i.roN (fun M hK=>?_) hK
 refine sO ?_
 unfold kL
 rw [dE]
 intro vj vn vp vr lp vt vs
 refine gr ?_
 refine jT (xs:=x.res) hl fun u hu=>?_
 refine cq b x vj vn vp vr lp vt vs ?_
 exact(hK u hu).sub
theorem Is {s ver:Int}(ho:iz x)(hr:∀a,x.now=some a→a.rd.length≤1000)[i:al L fP b x C](hK:G w0 (C (ob fP b (gJ x s ver))) (K (.tuple #[]))):G w0 L (CP Tryz.prog aaS [ptr b 0,i64 s,u64 ver] K):=by
 refine i.use (fun M hK=>?_) hK
 refine wO ?_
 unfold nv
 unfold gJ at hK
 rw [dE]
 intro vj vn vp vr lp vt vs
 cases hn:x.now with
 | none =>
  simp only [hn] at hK
  rw [dE] at hK
  have hK:=hK vj vn vp vr lp vt vs
  rw [hn] at hK
  refine G.take1 lR vn ?_
  rw [FT]
  intro e
  subst e
  have hK:G w0 (ob lR (.pointer none) none::own b (x.cells vj (.pointer none) vp vr lp vt vs)::ob gY vj x.jobs::ob jo vp x.past::sl gR vr x.res::ob (jP cy) lp x.limbo::sl cy vt x.rests::sl de vs x.slots::M) (K (.tuple #[])):=hK.sub
  rw [FT] at hK
  refine gg ?_
  exact hK rfl
 | some a =>
  have hr:=hr a hn
  simp only [hn] at hK
  refine G.take1 lR vn ?_
  rw [pX]
  intro p e
  subst e
  have hsame:G w0 (ob fP b x::M) (K (.tuple #[]))→G w0 (ob em p a::own b (x.cells vj (ptr p 0) vp vr lp vt vs)::ob gY vj x.jobs::ob jo vp x.past::sl gR vr x.res::ob (jP cy) lp x.limbo::sl cy vt x.rests::sl de vs x.slots::M) (K (.tuple #[]))∧True:=fun h=>⟨by
   refine iH p a ?_
   rw [←hn]
   refine cq b x vj (ptr p 0) vp vr lp vt vs ?_
   exact h.sub,trivial⟩
  refine gg ?_
  refine FA (x:=a) (by omega) fun u hu=>?_
  refine gg ?_
  refine G.loop1 (fun k:Nat=>i64 k) (fun k=>sl fM u a.rd::ob em p a::own b (x.cells vj (ptr p 0) vp vr lp vt vs)::ob gY vj x.jobs::ob jo vp x.past::sl gR vr x.res::ob (jP cy) lp x.limbo::sl cy vt x.rests::sl de vs x.slots::M) (fun k=>k≤a.rd.length∧I7 a.rd s ver=I7 (a.rd.drop k) s ver) (fun k=>a.rd.length-k) 0 rfl rfl (by simp) ?_
  rintro k ⟨hk,hn2⟩ J hJ
  refine gr ?_
  refine G.cond (fun h=>?_) (fun h=>?_)
  ·have hk2:k<a.rd.length:=by simp at h;omega
   have e:=cW hk2
   rw [List.drop_eq_getElem_cons hk2,show I7 (a.rd[k]::a.rd.drop (k+1)) s ver=((decide (a.rd[k].stripe=s) && !decide (a.rd[k].version=ver)) || I7 (a.rd.drop (k+1)) s ver) from rfl] at hn2
   have hnext:(decide (a.rd[k].stripe=s) && !decide (a.rd[k].version=ver))=false→_:=fun g=>hJ (k+1) ⟨hk2,by rw [hn2,g,Bool.false_or]⟩ (by omega)
   refine gu ?_
   refine gr ?_
   refine G.new fun q2=>?_
   by_cases c1:a.rd[k].stripe=s
   ·by_cases c2:a.rd[k].version=ver
    ·have hnext:=hnext (by simp [c2])
     refine gf (an (eq_true c1) (eq_true c2)) ?_
     rw [dt (by omega)]
     exact hnext.sub
    ·rw [hn2,decide_eq_true c1,decide_eq_false c2] at hK
     simp only [Bool.not_false,Bool.and_true,Bool.true_or,if_true] at hK
     by_cases c4:x.state=4
     ·rw [if_pos c4] at hK
      refine gf (an (eq_true c1) (an c2 (eq_true c4))) ?_
      refine iH p a ?_
      rw [←hn]
      refine cq b x vj (ptr p 0) vp vr lp vt vs ?_
      refine gS (x:=x) ho ?_
      repeat' (first | (with_reducible refine G.joini0 ?_) | (with_reducible refine G.joini1 ?_) | (with_reducible refine G.drew ?_) | (simp (maxSteps:=2000000) only [↓RG,RP,RB,BEq.rfl,Int.reduceEq,Int.reduceLT,Int.reduceLE,Nat.reduceEqDiff]))
      exact hK.sub
     ·rw [if_neg c4] at hK
      by_cases c3:x.state=1
      ·repeat' (first | (with_reducible refine G.joini0 ?_) | (with_reducible refine G.joini1 ?_) | (with_reducible refine G.drew ?_) | (simp (maxSteps:=2000000) only [↓RG,RP,RB,BEq.rfl,Int.reduceEq,Int.reduceLT,Int.reduceLE,Nat.reduceEqDiff,eq_true c1,c2,c4,eq_true c3]))
       refine AU (x:=a) ?_
       cases hb:(!decide (a.state=8) && a.blocking)
       ·rw [if_neg (by rw [hb];simp)] at hK
        repeat' (first | (with_reducible refine G.joini0 ?_) | (with_reducible refine G.joini1 ?_) | (with_reducible refine G.drew ?_) | (simp (maxSteps:=2000000) only [↓RG,RP,RB,BEq.rfl,Int.reduceEq,Int.reduceLT,Int.reduceLE,Nat.reduceEqDiff]))
        exact((hsame hK).1).sub
       ·rw [if_pos ⟨c3,hb⟩] at hK
        repeat' (first | (with_reducible refine G.joini0 ?_) | (with_reducible refine G.joini1 ?_) | (with_reducible refine G.drew ?_) | (simp (maxSteps:=2000000) only [↓RG,RP,RB,BEq.rfl,Int.reduceEq,Int.reduceLT,Int.reduceLE,Nat.reduceEqDiff]))
        refine iH p a ?_
        rw [←hn]
        refine cq b { x with alarm:=true } vj (ptr p 0) vp vr lp vt vs ?_
        rw [←hn] at hK
        exact hK.sub
      ·rw [if_neg (fun g=>c3 g.1)] at hK
       repeat' (first | (with_reducible refine G.joini0 ?_) | (with_reducible refine G.joini1 ?_) | (with_reducible refine G.drew ?_) | (simp (maxSteps:=2000000) only [↓RG,RP,RB,BEq.rfl,Int.reduceEq,Int.reduceLT,Int.reduceLE,Nat.reduceEqDiff,eq_true c1,c2,c4,c3]))
       exact((hsame hK).1).sub
   ·have hnext:=hnext (by simp [c1])
    refine gf c1 ?_
    rw [dt (by omega)]
    exact hnext.sub
  ·have hk2:k=a.rd.length:=by
    have:¬k<a.rd.length:=by simpa using h
    omega
   have e0:I7 a.rd s ver=false:=by rw [hn2,hk2,List.drop_length];rfl
   rw [e0,if_neg (by decide)] at hK
   refine gr ?_
   exact((hsame hK).1).sub
end
end Go.Proofs.YtoealglbimbbmaaGreatDoor.S
namespace Go.Proofs.YtoealglbimbbmaaGreatDoor.S
open Go Go.Proofs
set_option linter.unusedVariables false
set_option linter.unusedSimpArgs false
abbrev Lh (a:ca):Int:=if a.wr=true then 2 else (if a.state=8 then a.fin else 0)
abbrev oH (x:cY)(a:ca)(pick:Int)(r c f:im)(s:ByteArray):s9:=⟨x.me,x.job,x.tries,x.sweep,Lh a,(if a.state=8 then a.err else 0),a.beg,a.stamp,x.born,pick,r,c,f,s⟩
structure DL (a:ca):Prop where
 known:a.v.k.length≤1000
 cells:a.v.l.cells.length≤1000
 frees:a.done=true→a.v.l.frees.length≤1000
 blocks:a.blocks.length≤100000
 items:a.done=true→BH a.items
theorem CY.tol {a:ca}(h:CY a):DL a:=⟨h.known,h.cells,h.frees,h.blocks,h.items⟩
theorem DL.freed {a:ca}(h:DL a):a.freed.length≤100000:=by
 show (if a.done=true then (match a.run with | none=>a.blocks | some _=>a.v.l.frees) else []).length≤_
 split
 ·rename_i hd
  have h1:=h.frees hd
  have h2:=h.blocks
  cases a.run <;> simp only <;> omega
 ·simp
theorem PN {a:ca}:decide (Lh a=2)=a.done:=by
 show decide ((if a.wr=true then 2 else (if a.state=8 then a.fin else 0))=2)=(decide ((if a.state=8 then a.fin else 0)=2) || a.wr)
 cases a.wr <;> simp
theorem OR {x:cY}{a:ca}{pick:Int}{r c f:im}{s:ByteArray}(h:DL a):tq (oH x a pick r c f s,fD a x.born pick,a.freed) :=
 ⟨rfl,PN,rfl,rfl,h.known,by show (if a.done=true then a.v.l.cells else []).length≤1000;split;exact h.cells;simp,h.freed⟩
section
variable {w0:bg}{L M:List ax}{K:KV}{F:World→Prop}{C:ax→List ax}{b lp p:Nat}{x:cY}{v vj vn vp vr vt vs:Value}{a:ca}{draw pick:Int}
theorem R5 {zero r:List Value}{ps:List (Nat×Nat×Value)}(h:qU zero ps=some r):G w0 L (au zero ps K)=G w0 L (K (.agg r.toArray)):=by
 congr 1
 funext w
 simp [au,h]
theorem zF (ht:vh w0)(hg:DL a)
  (hK:∀(r c f:im) (s:ByteArray),uf a s→G w0 (sl bd r.v a.v.k::sl bd c.v (if a.done then a.v.l.cells else [])::sl cd f.v a.freed::own b (x.cells vj (ptr p 0) vp vr lp vt vs)::ob em p a::M) (K (.agg (s9.cells (oH x a pick r c f s)).toArray))) :
  G w0 (own b (x.cells vj (ptr p 0) vp vr lp vt vs)::ob em p a::M) (CP Tryz.prog YZ [ptr b 0,i64 pick] K):=by
 refine xL ?_
 unfold nI
 refine G.new fun q=>?_
 refine gg ?_
 refine kf (x:=a) ?_
 refine gg ?_
 refine gE (x:=a) ?_
 try simp (maxSteps:=2000000) only [↓RG,RP,RB,BEq.rfl,Int.reduceEq,Int.reduceLT,Int.reduceLE,Nat.reduceEqDiff]
 refine ly (x:=a) ?_
 refine G.join1 (fun k:Int=>i64 k) (fun _=>own q [i64 0,i64 0,i64 0,.bool false,i64 0,i64 0,u64 0,u64 0,i64 0,i64 0,.slice none 0 0,.slice none 0 0,.slice none 0 0,.string ⟨#[]⟩]::own b (x.cells vj (ptr p 0) vp vr lp vt vs)::ob em p a::M) (fun k=>k=Lh a) (fun k hk=>?_) (fun J hJ=>?_)
 rotate_left
 ·refine G.cond (fun h=>?_) (fun h=>?_)
  ·exact hJ 2 (by rw [Lh,if_pos h])
  ·exact hJ _ (if_neg (by rw [h];decide)).symm
 subst hk
 repeat' (first | (with_reducible refine G.joini0 ?_) | (with_reducible refine G.joini1 ?_) | (with_reducible refine G.drew ?_) | (simp (maxSteps:=2000000) only [↓RG,RP,RB,BEq.rfl,Int.reduceEq,Int.reduceLT,Int.reduceLE,Nat.reduceEqDiff]))
 refine zl (x:=a) ?_
 refine gg ?_
 refine oN (x:=a) ?_
 refine gg ?_
 refine EY (x:=a) (by have:=hg.known;omega) fun u hu=>?_
 refine G.isSl (v:=u) fun r hr=>?_
 subst hr
 refine gg ?_
 refine EH (x:=a) fun c=>?_
 refine gg ?_
 refine ux (x:=a) (fun h=>by have:=hg.frees h;omega) (by have:=hg.blocks;omega) fun f=>?_
 refine gg ?_
 refine uA ht (x:=a) hg.items fun s hs=>?_
 refine gg ?_
 rw [R5 (r:=s9.cells (oH x a pick r c f s)) rfl]
 refine gg ?_
 exact(hK r c f s hs).sub
theorem Dl {n:List Ta}(u:Value)(l:List fG)(e:s9)(t:Ta)(fr:List Int) [cx [sl eE u (l.map (·.1)++[e]),ob (co dI) () l,sl bd e.reads.v t.reads,sl bd e.cells_.v t.cells,sl cd e.frees.v fr] L M]
  (hl:l.map (·.2.1)=n∧∀p∈l,tq p) (hk:tq (e,t,fr)) (H:G w0 (ob jo u (n++[t])::M) F):G w0 L F :=
 G.pickAll (As:=[sl eE u (l.map (·.1)++[e]),ob (co dI) () l,sl bd e.reads.v t.reads,sl bd e.cells_.v t.cells,sl cd e.frees.v fr]) (by
  rw [kG] at H
  have h:=H (l++[(e,t,fr)]) ⟨by simp [hl.1],fun p hp=>by
   rcases List.mem_append.1 hp with hp | hp
   ·exact hl.2 p hp
   ·rw [List.mem_singleton.1 hp];exact hk⟩
  rw [List.map_append,List.map_cons,List.map_nil,eN,gy,show dI (e,t,fr)=bu (bu (sl bd e.reads.v t.reads) (sl bd e.cells_.v t.cells)) (sl cd e.frees.v fr) from rfl,dP,dP] at h
  show G w0 (sl eE u (l.map (·.1)++[e])::ob (co dI) () l::sl bd e.reads.v t.reads::sl bd e.cells_.v t.cells::sl cd e.frees.v fr::M) F
  exact h.sub)
theorem FC (ht:vh w0)(hn:x.now=some a)(hg:CY a)(hp:x.past.length≤1000000)(hr:x.res.length≤1000000)(hm:x.limbo.length+x.rests.length≤80000)(hm2:x.sweep=false→a.freed.length≤1000)(ho:iz x)(hj:x.job<x.jobs.length)(hl:x.jobs.length≤1000000)(hd:0≤draw)(hd2:draw≤255)[i:al L fP b x C]
  (hK:∀sl_,uf a sl_→G w0 (C (ob fP b (lz x a draw pick sl_))) (K (.tuple #[]))):G w0 L (CP Tryz.prog Yo [ptr b 0,.int .u8 draw,i64 pick] K):=by
 refine i.useA (A':=fun z:{ s // uf a s }=>ob fP b (lz x a draw pick z.1)) (F':=fun _=>K (.tuple #[])) (fun M hK=>?_) (fun z=>hK z.1 z.2)
 have hK:=fun sl_ (h:uf a sl_)=>hK ⟨sl_,h⟩
 simp only at hK
 refine vk ?_
 unfold mh
 have h8:=hg.gone
 rw [dE]
 intro vj vn vp vr lp vt vs
 refine G.take1 lR vn ?_
 rw [hn,pX]
 intro p e
 subst e
 repeat' (first | (with_reducible refine G.joini0 ?_) | (with_reducible refine G.joini1 ?_) | (with_reducible refine G.drew ?_) | (simp (maxSteps:=2000000) only [↓RG,RP,RB,BEq.rfl,Int.reduceEq,Int.reduceLT,Int.reduceLE,Nat.reduceEqDiff]))
 refine G.pickAll (As:=[own b (x.cells vj (ptr p 0) vp vr lp vt vs),ob em p a]) ?_
 simp only [List.cons_append,List.nil_append]
 refine zF ht (x:=x) (pick:=pick) hg.tol fun r c f s hs=>?_
 refine G.take1 jo vp ?_
 rw [kG]
 intro l hll
 have hlen:(l.map (·.1)).length=x.past.length:=by rw [←hll.1];simp
 have hok:=OR (x:=x) (pick:=pick) (r:=r) (c:=c) (f:=f) (s:=s) hg.tol
 refine gg ?_
 refine G.build eE [oH x a pick r c f s] rfl (by decide) rfl fun u6 h6=>?_
 refine gg ?_
 refine G.append (E:=eE) (xs:=l.map (fun z:fG=>z.1)) (ys:=[oH x a pick r c f s]) (by simp only [hlen,List.length_singleton];omega) (by simp only [hlen,List.length_singleton,maxLen];omega) fun u5 h5=>?_
 refine gg ?_
 refine gE (x:=a) ?_
 rw [if_pos h8]
 have hjo:∀z:cY,z.job=x.job→z.jobs=x.jobs→z.rests=x.rests→iz z:=fun z e1 e2 e3=>⟨by rw [e1];exact ho.lo,by rw [e1,e2];exact ho.hi,by rw [e2];exact ho.progs,by rw [e3];exact ho.rests⟩
 have hclose:∀(z:cY) (J:World→Prop),z.jobs=x.jobs→z.now=x.now→z.past=x.past++[fD a x.born pick]→z.res=x.res→z.limbo=x.limbo→z.rests=x.rests→z.slots=x.slots→G w0 (ob fP b z::M) J →
   G w0 (own b (z.cells vj (ptr p 0) u5 vr lp vt vs)::sl eE u5 (l.map (·.1)++[oH x a pick r c f s])::ob (co dI) () l::sl bd r.v a.v.k::sl bd c.v (if a.done then a.v.l.cells else [])::sl cd f.v a.freed::ob em p a::ob gY vj x.jobs::sl gR vr x.res::ob (jP cy) lp x.limbo::sl cy vt x.rests::sl de vs x.slots::M) J:=fun z J e1 e2 e3 e4 e5 e6 e7 h=>by
  refine Dl u5 l (oH x a pick r c f s) (fD a x.born pick) a.freed hll hok ?_
  refine iH p a ?_
  rw [←hn,←e1,←e2,←e3,←e4,←e5,←e6,←e7]
  refine cq b z vj (ptr p 0) u5 vr lp vt vs ?_
  exact h
 unfold lz at hK
 by_cases c5:a.fin=5
 ·simp only [if_pos c5] at hK
  repeat' (first | (with_reducible refine G.joini0 ?_) | (with_reducible refine G.joini1 ?_) | (with_reducible refine G.drew ?_) | (simp (maxSteps:=2000000) only [↓RG,RP,RB,BEq.rfl,Int.reduceEq,Int.reduceLT,Int.reduceLE,Nat.reduceEqDiff,eq_true c5]))
  refine pJ (x:=a) ?_
  rw [if_pos h8]
  by_cases cb:0≤a.by_∧a.by_<x.s.threads
  ·simp only [if_pos cb] at hK
   refine gu ?_
   repeat' (first | (with_reducible refine G.joini0 ?_) | (with_reducible refine G.joini1 ?_) | (with_reducible refine G.drew ?_) | (simp (maxSteps:=2000000) only [↓RG,RP,RB,BEq.rfl,Int.reduceEq,Int.reduceLT,Int.reduceLE,Nat.reduceEqDiff,eq_true cb.1]))
   refine pJ (x:=a) ?_
   rw [if_pos h8]
   repeat' (first | (with_reducible refine G.joini0 ?_) | (with_reducible refine G.joini1 ?_) | (with_reducible refine G.drew ?_) | (simp (maxSteps:=2000000) only [↓RG,RP,RB,BEq.rfl,Int.reduceEq,Int.reduceLT,Int.reduceLE,Nat.reduceEqDiff,eq_true cb.2]))
   refine pJ (x:=a) ?_
   rw [if_pos h8]
   refine gg ?_
   exact(hclose { x with past:=x.past++[fD a x.born pick],tries:=IntKind.wrap .i64 (x.tries+1),conf:=IntKind.wrap .i64 (x.conf+1),state:=2,by_:=a.by_,yld:=false } _ rfl rfl rfl rfl rfl rfl rfl (hK s hs)).sub
  ·simp only [if_neg cb] at hK
   have hp2:G w0 (own b (cY.cells { x with past:=x.past++[fD a x.born pick],tries:=IntKind.wrap .i64 (x.tries+1),conf:=IntKind.wrap .i64 (x.conf+1) } vj (ptr p 0) u5 vr lp vt vs)::sl eE u5 (l.map (·.1)++[oH x a pick r c f s])::ob (co dI) () l::sl bd r.v a.v.k::sl bd c.v (if a.done then a.v.l.cells else [])::sl cd f.v a.freed::ob em p a::ob gY vj x.jobs::sl gR vr x.res::ob (jP cy) lp x.limbo::sl cy vt x.rests::sl de vs x.slots::M)
     (CP Tryz.prog XK [ptr b 0,.int .u8 draw] (fun x55=>K (.tuple #[]))):=by
    refine hclose { x with past:=x.past++[fD a x.born pick],tries:=IntKind.wrap .i64 (x.tries+1),conf:=IntKind.wrap .i64 (x.conf+1) } _ rfl rfl rfl rfl rfl rfl rfl ?_
    refine xg (x:={ x with past:=x.past++[fD a x.born pick],tries:=IntKind.wrap .i64 (x.tries+1),conf:=IntKind.wrap .i64 (x.conf+1) }) (hjo _ rfl rfl rfl) hd hd2 ?_
    exact hK s hs
   refine gu ?_
   by_cases cb0:0≤a.by_
   ·have cb1:¬a.by_<x.s.threads:=fun h=>cb ⟨cb0,h⟩
    refine gf (eq_true cb0) ?_
    refine pJ (x:=a) ?_
    rw [if_pos h8]
    refine gf cb1 ?_
    exact hp2.sub
   ·refine gf cb0 ?_
    exact hp2.sub
 ·simp only [if_neg c5] at hK
  refine gf c5 ?_
  refine gE (x:=a) ?_
  rw [if_pos h8]
  by_cases h3:a.fin=3
  ·simp only [if_pos h3] at hK
   repeat' (first | (with_reducible refine G.joini0 ?_) | (with_reducible refine G.joini1 ?_) | (with_reducible refine G.drew ?_) | (simp (maxSteps:=2000000) only [↓RG,RP,RB,BEq.rfl,Int.reduceEq,Int.reduceLT,Int.reduceLE,Nat.reduceEqDiff,eq_true h3]))
   refine G.cond (fun ha=>?_) (fun ha=>?_)
   rotate_left
   ·simp only [if_neg (show ¬x.alarm=true by rw [ha];decide)] at hK
    refine gg ?_
    exact(hclose { x with past:=x.past++[fD a x.born pick],tries:=IntKind.wrap .i64 (x.tries+1),state:=4 } _ rfl rfl rfl rfl rfl rfl rfl (hK s hs)).sub
   ·simp only [if_pos ha] at hK
    refine G.sub (hclose { x with past:=x.past++[fD a x.born pick],tries:=IntKind.wrap .i64 (x.tries+1) } _ rfl rfl rfl rfl rfl rfl rfl ?_)
    refine gS (x:={ x with past:=x.past++[fD a x.born pick],tries:=IntKind.wrap .i64 (x.tries+1) }) (hjo _ rfl rfl rfl) ?_
    repeat' (first | (with_reducible refine G.joini0 ?_) | (with_reducible refine G.joini1 ?_) | (with_reducible refine G.drew ?_) | (simp (maxSteps:=2000000) only [↓RG,RP,RB,BEq.rfl,Int.reduceEq,Int.reduceLT,Int.reduceLE,Nat.reduceEqDiff]))
    exact hK s hs
  simp only [if_neg h3] at hK
  repeat' (first | (with_reducible refine G.joini0 ?_) | (with_reducible refine G.joini1 ?_) | (with_reducible refine G.drew ?_) | (simp (maxSteps:=2000000) only [↓RG,RP,RB,BEq.rfl,Int.reduceEq,Int.reduceLT,Int.reduceLE,Nat.reduceEqDiff,h3]))
  refine G.cond (fun hsw=>?_) (fun hsw=>?_)
  ·simp only [if_pos hsw] at hK
   refine gE (x:=a) ?_
   rw [if_pos h8]
   refine G.sub (hclose { x with past:=x.past++[fD a x.born pick],tries:=IntKind.wrap .i64 (x.tries+1) } _ rfl rfl rfl rfl rfl rfl rfl ?_)
   refine FR (x:={ x with past:=x.past++[fD a x.born pick],tries:=IntKind.wrap .i64 (x.tries+1) }) (hjo _ rfl rfl rfl) hj hl (by show x.limbo.length+x.rests.length≤_;omega) ?_
   repeat' (first | (with_reducible refine G.joini0 ?_) | (with_reducible refine G.joini1 ?_) | (with_reducible refine G.drew ?_) | (simp (maxSteps:=2000000) only [↓RG,RP,RB,BEq.rfl,Int.reduceEq,Int.reduceLT,Int.reduceLE,Nat.reduceEqDiff]))
   exact hK s hs
  ·simp only [if_neg (show ¬x.sweep=true by rw [hsw];decide)] at hK
   have hfr:=hm2 hsw
   repeat' (first | (with_reducible refine G.joini0 ?_) | (with_reducible refine G.joini1 ?_) | (with_reducible refine G.drew ?_) | (simp (maxSteps:=2000000) only [↓RG,RP,RB,BEq.rfl,Int.reduceEq,Int.reduceLT,Int.reduceLE,Nat.reduceEqDiff]))
   refine gE (x:=a) ?_
   rw [if_pos h8]
   refine gg ?_
   refine zl (x:=a) ?_
   rw [if_pos h8]
   refine gg ?_
   refine uA ht (x:=a) hg.items fun s2 hs2=>?_
   refine gg ?_
   refine oN (x:=a) ?_
   refine gg ?_
   refine G.build gR [⟨a.fin,a.err,s2,a.stamp⟩] rfl (by decide) rfl fun u7 h7=>?_
   refine gg ?_
   refine G.append (E:=gR) (xs:=x.res) (ys:=[⟨a.fin,a.err,s2,a.stamp⟩]) (by simp only [List.length_singleton];omega) (by simp only [List.length_singleton,maxLen];omega) fun u8 h8'=>?_
   repeat' (first | (with_reducible refine G.joini0 ?_) | (with_reducible refine G.joini1 ?_) | (with_reducible refine G.drew ?_) | (simp (maxSteps:=2000000) only [↓RG,RP,RB,BEq.rfl,Int.reduceEq,Int.reduceLT,Int.reduceLE,Nat.reduceEqDiff]))
   refine oN (x:=a) ?_
   refine gg ?_
   refine ux (x:=a) (fun h=>by have:=hg.frees h;omega) (by have:=hg.blocks;omega) fun f2=>?_
   refine gg ?_
   refine rk (xs:=x.limbo) (bs:=a.freed) (by omega) ?_
   refine gg ?_
   refine Dl u5 l (oH x a pick r c f s) (fD a x.born pick) a.freed hll hok ?_
   refine iH p a ?_
   rw [←hn]
   refine cq b { x with past:=x.past++[fD a x.born pick],tries:=IntKind.wrap .i64 (x.tries+1),res:=x.res++[⟨a.fin,a.err,s2,a.stamp⟩],limbo:=x.limbo++a.freed.map fun n=>⟨n,a.stamp⟩ } vj (ptr p 0) u5 u8 lp vt vs ?_
   refine HU (x:={ x with past:=x.past++[fD a x.born pick],tries:=IntKind.wrap .i64 (x.tries+1),res:=x.res++[⟨a.fin,a.err,s2,a.stamp⟩],limbo:=x.limbo++a.freed.map fun n=>⟨n,a.stamp⟩ }) (hjo _ rfl rfl rfl) hj hl (by simp only [List.length_append,List.length_map];omega) ?_
   repeat' (first | (with_reducible refine G.joini0 ?_) | (with_reducible refine G.joini1 ?_) | (with_reducible refine G.drew ?_) | (simp (maxSteps:=2000000) only [↓RG,RP,RB,BEq.rfl,Int.reduceEq,Int.reduceLT,Int.reduceLE,Nat.reduceEqDiff]))
   exact(hK s2 hs2).sub
end
end Go.Proofs.YtoealglbimbbmaaGreatDoor.S
