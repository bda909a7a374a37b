import Derived.Test.YtoealglbimbbmaaGreatDoorOAttT
namespace Go.Proofs.YtoealglbimbbmaaGreatDoor.S
open Go Go.Proofs
set_option linter.unusedVariables false
set_option linter.unusedSimpArgs false
def cg {α:Type}(f:α→ay)(_:Unit)(l:List α):ay:=da (l.map f)
section
variable {α:Type}{f:α→ay}{w0:bh}{L M:List ay}{F:World→Prop}{l:List α}{x:α}{k:Nat}
theorem kX (h:l[k]? = some x):G w0 (ob (cg f) () l::M) F=G w0 (f x::ob (cg f) () (l.eraseIdx k)::M) F:=dm (by
 show bk (ob (cg f) () l) (da M)=bk (f x) (bk (ob (cg f) () (l.eraseIdx k)) (da M))
 rw [eZ (cg f),eZ (cg f),cg,Mb _ h,←DU];rfl)
theorem mq:G w0 (ob (cg f) () (l++[x])::M) F=G w0 (f x::ob (cg f) () l::M) F:=by
 rw [kX (k:=l.length) (x:=x) (by simp)]
 congr 3
 simp [List.eraseIdx_append_of_length_le]
theorem nX (H:G w0 (ob (cg f) () []::M) F):G w0 M F:=by
 have:G w0 (ob (cg f) () []::M) F=G w0 (LF::M) F:=by
  rw [eZ];rfl
 rw [this,Jz] at H
 exact H
end
abbrev pm (p:lD×List bu):ay:=sl dt p.1.v p.2
def i7 (v:Value)(jobs:List (List bu)):ay:=mW fun l:List (lD×List bu)=>bk (ie (l.map (·.2)=jobs)) (bk (sl fj v (l.map (·.1))) (ob (cg pm) () l))
abbrev gd:Type:=sL×Ta×List Int
abbrev eu (p:gd):ay:=bk (bk (sl bf p.1.reads.v p.2.1.reads) (sl bf p.1.cells_.v p.2.1.cells)) (sl bg p.1.frees.v p.2.2)
structure tm (p:gd):Prop where
 stamp:p.1.stamp=p.2.1.stamp
 done:decide (p.1.kind=2)=p.2.1.done
 born:p.1.born=p.2.1.born
 ended:p.1.ended=p.2.1.ended
 reads:p.2.1.reads.length≤1000
 cells:p.2.1.cells.length≤1000
 frees:p.2.2.length≤100000
def jy (v:Value)(l:List Ta):ay:=mW fun q:List gd=>bk (ie (q.map (·.2.1)=l∧∀p∈q,tm p)) (bk (sl fg v (q.map (·.1))) (ob (cg eu) () q))
def mx (v:Value):Option bq→ay
 | none=>ie (v=.pointer none)
 | some a=>mW fun p=>bk (ie (v=ptr p 0)) (ob fG p a)
abbrev co.cells (x:co)(vj vn vp vr:Value)(lp:Nat)(vt vs:Value):List Value:=[i64 x.me,i64 x.s.words,i64 x.s.stripes,i64 x.s.wide,i64 x.s.threads,u64 x.s.start,i64 x.s.spins,i64 x.s.writes,i64 x.s.fuel,vj,i64 x.job,i64 x.state,.bool x.sweep,vt,i64 x.tries,i64 x.conf,vn,i64 x.born,.bool x.alarm,vp,vr,ptr lp 0,vs,i64 x.by_,u64 x.since,.bool x.yld,i64 x.pauses]
def gD (b:Nat)(x:co):ay:=mW fun vj=>mW fun vn=>mW fun vp=>mW fun vr=>mW fun lp=>mW fun vt=>mW fun vs=>bk (bk (bk (bk (bk (bk (bk (own b (x.cells vj vn vp vr lp vt vs)) (ob i7 vj x.jobs)) (ob mx vn x.now)) (ob jy vp x.past)) (sl iw vr x.res)) (ob (kj ck) lp x.limbo)) (sl ck vt x.rests)) (sl cx vs x.slots)
section
variable {w0:bh}{L M:List ay}{K:KV}{F:World→Prop}{C:ay→List ay}{b lp p:Nat}{x:co}{v vj vn vp vr vt vs:Value}{a:bq}{jobs:List (List bu)}
theorem dv:G w0 (ob gD b x::M) F=∀vj vn vp vr lp vt vs,G w0 (own b (x.cells vj vn vp vr lp vt vs)::ob i7 vj x.jobs::ob mx vn x.now::ob jy vp x.past::sl iw vr x.res::ob (kj ck) lp x.limbo::sl ck vt x.rests::sl cx vs x.slots::M) F:=by
 rw [eZ,gD]
 simp only [qv,fa]
theorem bv (b:Nat)(x:co)(vj vn vp vr:Value)(lp:Nat)(vt vs:Value) [ez [own b (x.cells vj vn vp vr lp vt vs),ob i7 vj x.jobs,ob mx vn x.now,ob jy vp x.past,sl iw vr x.res,ob (kj ck) lp x.limbo,sl ck vt x.rests,sl cx vs x.slots] L M](H:G w0 (ob gD b x::M) F):G w0 L F :=
 G.pickAll (As:=[own b (x.cells vj vn vp vr lp vt vs),ob i7 vj x.jobs,ob mx vn x.now,ob jy vp x.past,sl iw vr x.res,ob (kj ck) lp x.limbo,sl ck vt x.rests,sl cx vs x.slots]) (by rw [dv] at H;exact H vj vn vp vr lp vt vs)
theorem Gb:G w0 (ob mx vn none::M) F=(vn=.pointer none→G w0 M F):=by rw [eZ,mx];simp only [fU]
theorem qV:G w0 (ob mx vn (some a)::M) F=∀p,vn=ptr p 0→G w0 (ob fG p a::M) F:=by rw [eZ,mx];simp only [qv,fa,fU]
theorem i4 (p:Nat)(a:bq) [ez [ob fG p a] L M](H:G w0 (ob mx (ptr p 0) (some a)::M) F):G w0 L F :=
 G.pickAll (As:=[ob fG p a]) (by rw [qV] at H;exact H p rfl)
theorem MW (H:G w0 (ob mx (.pointer none) none::M) F):G w0 M F:=by rw [Gb] at H;exact H rfl
theorem tb:G w0 (ob i7 v jobs::M) F=∀l:List (lD×List bu),l.map (·.2)=jobs→G w0 (sl fj v (l.map (·.1))::ob (cg pm) () l::M) F:=by
 rw [eZ,i7]
 simp only [qv,fa,fU]
theorem yc (v:Value)(l:List (lD×List bu)) [ez [sl fj v (l.map (·.1)),ob (cg pm) () l] L M](H:G w0 (ob i7 v (l.map (·.2))::M) F):G w0 L F :=
 G.pickAll (As:=[sl fj v (l.map (·.1)),ob (cg pm) () l]) (by rw [tb] at H;exact H l rfl)
theorem lz {l:List Ta}:G w0 (ob jy v l::M) F=∀q:List gd,(q.map (·.2.1)=l∧∀p∈q,tm p)→G w0 (sl fg v (q.map (·.1))::ob (cg eu) () q::M) F:=by
 rw [eZ,jy]
 simp only [qv,fa,fU]
theorem Qx {l:List (lD×List bu)}{k:Nat}{q:lD×List bu}(h:l[k]? = some q):Rd w0 (ob (cg pm) () l::M) q.1.v dt 5 q.2:=⟨rfl,fun w H=>by
 have e:G w0 (ob (cg pm) () l::M) (fun w=>fy dt w q.1.v q.2):=by
  rw [kX h]
  exact fun w H=>St.sl_is H
 exact e w H⟩
theorem iE (ho:iQ x)[i:aq L gD b x C](hK:G w0 (C (ob gD b (gb x))) (K (.tuple #[]))):G w0 L (CP Tryz.prog LE [ptr b 0] K):=by
 refine i.use (fun M hK=>?_) hK
 refine vu ?_
 unfold mS
 obtain⟨h1,h2,h3,hrs⟩:=ho
 obtain⟨k,hk⟩:=Int.eq_ofNat_of_zero_le h1
 unfold gb at hK
 rw [dv]
 intro vj vn vp vr lp vt vs
 refine G.take1 i7 vj ?_
 rw [tb]
 intro l hl
 have hlen:(l.map (·.1)).length=x.jobs.length:=by rw [←hl];simp
 have hkt:x.job.toNat=k:=by omega
 rw [hkt] at hK
 by_cases hc:k=x.jobs.length
 ·have hn:x.jobs[k]? = none:=by rw [hc];simp
  rw [hn] at hK
  have ec:(x.job=(((l.map (·.1)).length:Nat):Int))=True:=by rw [hk,hlen,hc];simp
  repeat' (first | (with_reducible refine G.joini0 ?_) | (with_reducible refine G.joini1 ?_) | (with_reducible refine G.drew ?_) | (simp (maxSteps:=2000000) only [↓RG,RP,RB,BEq.rfl,Int.reduceEq,Int.reduceLT,Int.reduceLE,Nat.reduceEqDiff,ec]))
  refine yc vj l ?_
  rw [hl]
  refine G.take1 mx vn ?_
  refine G.drop ?_
  refine MW ?_
  refine bv b { x with born:=0,alarm:=false,now:=none,state:=6 } vj (.pointer none) vp vr lp vt vs ?_
  exact hK
 ·have hlt:k<x.jobs.length:=by omega
  have hll:k<l.length:=by rw [←hl] at hlt;simpa using hlt
  have hn:x.jobs[k]? = some x.jobs[k]:=List.getElem?_eq_getElem hlt
  have hq:(l[k]).2=x.jobs[k]:=by
   have:x.jobs[k]? = (l.map (·.2))[k]?:=by rw [hl]
   rw [hn,List.getElem?_map,List.getElem?_eq_getElem hll] at this
   simpa using this.symm
  rw [hn] at hK
  simp only at hK
  have ec:(x.job=(((l.map (·.1)).length:Nat):Int))=False:=by rw [hk,hlen];simp only [Int.ofNat_inj,eq_iff_iff,iff_false];exact hc
  repeat' (first | (with_reducible refine G.joini0 ?_) | (with_reducible refine G.joini1 ?_) | (with_reducible refine G.drew ?_) | (simp (maxSteps:=2000000) only [↓RG,RP,RB,BEq.rfl,Int.reduceEq,Int.reduceLT,Int.reduceLE,Nat.reduceEqDiff,ec]))
  refine G.cond (fun hsw=>?_) (fun hsw=>?_)
  rotate_left
  ·rw [if_neg (by rw [hsw];decide)] at hK
   have e:eU (l.map (·.1)) k l[k].1:=⟨by rw [List.getElem?_map,List.getElem?_eq_getElem hll];rfl⟩
   have hx:ij x.job k:=⟨hk⟩
   repeat' (first | (with_reducible refine G.joini0 ?_) | (with_reducible refine G.joini1 ?_) | (with_reducible refine G.drew ?_) | (simp (maxSteps:=2000000) only [↓RG,RP,RB,BEq.rfl,Int.reduceEq,Int.reduceLT,Int.reduceLE,Nat.reduceEqDiff]))
   refine G.take1 (cg pm) () ?_
   have r:=fun M:List ay=>Qx (w0:=w0) (M:=M) (List.getElem?_eq_getElem hll)
   have r2:=r (sl fj vj (l.map (·.1))::own b [i64 x.me,i64 x.s.words,i64 x.s.stripes,i64 x.s.wide,i64 x.s.threads,u64 x.s.start,i64 x.s.spins,i64 x.s.writes,i64 x.s.fuel,vj,i64 x.job,i64 x.state,.bool x.sweep,vt,i64 x.tries,i64 x.conf,vn,i64 0,.bool false,vp,vr,ptr lp 0,vs,i64 x.by_,u64 x.since,.bool x.yld,i64 x.pauses]::ob mx vn x.now::ob jy vp x.past::sl iw vr x.res::ob (kj ck) lp x.limbo::sl ck vt x.rests::sl cx vs x.slots::M)
   refine GN (s:=x.s) (p:=l[k].2) (be (a:=l[k].1.a) (n:=l[k].1.n) (c:=l[k].1.c)) (by rw [hq];have:=h3 _ (List.getElem_mem hlt);omega) fun p=>?_
   rw [hq]
   repeat' (first | (with_reducible refine G.joini0 ?_) | (with_reducible refine G.joini1 ?_) | (with_reducible refine G.drew ?_) | (simp (maxSteps:=2000000) only [↓RG,RP,RB,BEq.rfl,Int.reduceEq,Int.reduceLT,Int.reduceLE,Nat.reduceEqDiff]))
   refine yc vj l ?_
   rw [hl]
   refine G.take1 mx vn ?_
   refine G.drop ?_
   refine i4 p (kV x.me x.s x.jobs[k]) ?_
   refine bv b { x with born:=0,alarm:=false,now:=some (kV x.me x.s x.jobs[k]),state:=1 } vj (ptr p 0) vp vr lp vt vs ?_
   exact hK
  ·rw [if_pos hsw] at hK
   repeat' (first | (with_reducible refine G.joini0 ?_) | (with_reducible refine G.joini1 ?_) | (with_reducible refine G.drew ?_) | (simp (maxSteps:=2000000) only [↓RG,RP,RB,BEq.rfl,Int.reduceEq,Int.reduceLT,Int.reduceLE,Nat.reduceEqDiff]))
   refine G.nilsl bg ?_
   refine G.loop2 (σ:=Nat×Value) (fun z=>z.2) (fun z=>i64 z.1) (fun z=>sl bg z.2 ((x.rests.take z.1).map (·.place))::sl fj vj (l.map (·.1))::ob (cg pm) () l::own b [i64 x.me,i64 x.s.words,i64 x.s.stripes,i64 x.s.wide,i64 x.s.threads,u64 x.s.start,i64 x.s.spins,i64 x.s.writes,i64 x.s.fuel,vj,i64 x.job,i64 x.state,.bool x.sweep,vt,i64 x.tries,i64 x.conf,vn,i64 0,.bool false,vp,vr,ptr lp 0,vs,i64 x.by_,u64 x.since,.bool x.yld,i64 x.pauses]::ob mx vn x.now::ob jy vp x.past::sl iw vr x.res::ob (kj ck) lp x.limbo::sl ck vt x.rests::sl cx vs x.slots::M) (fun z=>z.1≤x.rests.length∧ar z.2 [z.2]) (fun z=>x.rests.length-z.1) (0,.slice none 0 0) rfl rfl (by simp) ⟨Nat.zero_le _,be⟩ ?_
   rintro⟨j,u⟩ ⟨hj,hu⟩ J hJ
   simp only at hj hu hJ ⊢
   try simp (maxSteps:=2000000) only [↓RG,RP,RB,BEq.rfl,Int.reduceEq,Int.reduceLT,Int.reduceLE,Nat.reduceEqDiff]
   refine G.cond (fun h=>?_) (fun h=>?_)
   ·have hj2:j<x.rests.length:=by simpa using h
    have e:=ct hj2
    have hlt2:((x.rests.take j).map (·.place)).length=j:=by simp;omega
    repeat' (first | (with_reducible refine G.joini0 ?_) | (with_reducible refine G.joini1 ?_) | (with_reducible refine G.drew ?_) | (simp (maxSteps:=2000000) only [↓RG,RP,RB,BEq.rfl,Int.reduceEq,Int.reduceLT,Int.reduceLE,Nat.reduceEqDiff]))
    refine G.new fun q=>?_
    repeat' (first | (with_reducible refine G.joini0 ?_) | (with_reducible refine G.joini1 ?_) | (with_reducible refine G.drew ?_) | (simp (maxSteps:=2000000) only [↓RG,RP,RB,BEq.rfl,Int.reduceEq,Int.reduceLT,Int.reduceLE,Nat.reduceEqDiff]))
    refine G.build bg [x.rests[j].place] rfl (by decide) rfl fun y hy=>?_
    repeat' (first | (with_reducible refine G.joini0 ?_) | (with_reducible refine G.joini1 ?_) | (with_reducible refine G.drew ?_) | (simp (maxSteps:=2000000) only [↓RG,RP,RB,BEq.rfl,Int.reduceEq,Int.reduceLT,Int.reduceLE,Nat.reduceEqDiff]))
    refine G.append (E:=bg) (xs:=(x.rests.take j).map fun z:pc=>z.place) (ys:=[x.rests[j].place]) (by simp only [hlt2,List.length_singleton];omega) (by simp only [hlt2,List.length_singleton,maxLen];omega) fun u5 h5=>?_
    repeat' (first | (with_reducible refine G.joini0 ?_) | (with_reducible refine G.joini1 ?_) | (with_reducible refine G.drew ?_) | (simp (maxSteps:=2000000) only [↓RG,RP,RB,BEq.rfl,Int.reduceEq,Int.reduceLT,Int.reduceLE,Nat.reduceEqDiff]))
    rw [di (by omega)]
    have hn:=hJ (j+1,u5) ⟨hj2,h5⟩ (by simp only;omega)
    simp only [List.take_succ_eq_append_getElem hj2,List.map_append,List.map_cons,List.map_nil] at hn
    exact hn.sub
   ·have hj2:j=x.rests.length:=by
     have:¬j<x.rests.length:=by simpa using h
     omega
    subst hj2
    rw [List.take_length]
    repeat' (first | (with_reducible refine G.joini0 ?_) | (with_reducible refine G.joini1 ?_) | (with_reducible refine G.drew ?_) | (simp (maxSteps:=2000000) only [↓RG,RP,RB,BEq.rfl,Int.reduceEq,Int.reduceLT,Int.reduceLE,Nat.reduceEqDiff]))
    refine DH (s:=x.s) (bs:=x.rests.map fun z:pc=>z.place) (by rw [List.length_map];omega) fun p=>?_
    repeat' (first | (with_reducible refine G.joini0 ?_) | (with_reducible refine G.joini1 ?_) | (with_reducible refine G.drew ?_) | (simp (maxSteps:=2000000) only [↓RG,RP,RB,BEq.rfl,Int.reduceEq,Int.reduceLT,Int.reduceLE,Nat.reduceEqDiff]))
    refine yc vj l ?_
    rw [hl]
    refine G.take1 mx vn ?_
    refine G.drop ?_
    refine i4 p (iz x.me x.s (x.rests.map (·.place))) ?_
    refine bv b { x with born:=0,alarm:=false,now:=some (iz x.me x.s (x.rests.map (·.place))),state:=1 } vj (ptr p 0) vp vr lp vt vs ?_
    exact hK.sub
end
end Go.Proofs.YtoealglbimbbmaaGreatDoor.S
namespace Go.Proofs.YtoealglbimbbmaaGreatDoor.S
open Go Go.Proofs
set_option linter.unusedVariables false
set_option linter.unusedSimpArgs false
section
variable {w0:bh}{L M:List ay}{K:KV}{F:World→Prop}{C:ay→List ay}{b lp p:Nat}{x:co}{v vj vn vp vr vt vs:Value}{a:bq}{draw:Int}
theorem gG (ho:iQ { x with job:=x.job+1,rests:=[] })(hl:x.jobs.length≤1000000)[i:aq L gD b x C](hK:G w0 (C (ob gD b (iA x))) (K (.tuple #[]))):G w0 L (CP Tryz.prog Vb [ptr b 0] K):=by
 refine i.use (fun M hK=>?_) hK
 refine ra ?_
 unfold jY
 have hb:=ho.hi
 have hb2:=ho.lo
 simp only at hb hb2
 rw [dv]
 intro vj vn vp vr lp vt vs
 refine gg ?_
 rw [iy (n:=x.job+1) (by omega) (by omega)]
 refine G.nilsl ck ?_
 refine bv b { x with job:=x.job+1,sweep:=false,rests:=[],tries:=0,conf:=0 } vj vn vp vr lp (.slice none 0 0) vs ?_
 refine iE (x:={ x with job:=x.job+1,sweep:=false,rests:=[],tries:=0,conf:=0 }) ⟨ho.lo,ho.hi,ho.progs,by simp⟩ ?_
 repeat' (first | (with_reducible refine G.joini0 ?_) | (with_reducible refine G.joini1 ?_) | (with_reducible refine G.drew ?_) | (simp (maxSteps:=2000000) only [↓RG,RP,RB,BEq.rfl,Int.reduceEq,Int.reduceLT,Int.reduceLE,Nat.reduceEqDiff]))
 exact hK.sub
theorem xe (ho:iQ x)(hd:0≤draw)(hd2:draw≤255)[i:aq L gD b x C](hK:G w0 (C (ob gD b (oT x draw))) (K (.tuple #[]))):G w0 L (CP Tryz.prog Vj [ptr b 0,.int .u8 draw] K):=by
 refine i.use (fun M hK=>?_) hK
 refine vx ?_
 unfold mQ
 rw [dv]
 intro vj vn vp vr lp vt vs
 have hf:(if (8:Int)<x.conf then 8 else x.conf)=wA x.conf:=rfl
 have hf8:wA x.conf≤8:=by unfold wA;split <;> omega
 refine eY hf ?_
 refine G.loop2 (fun k:Nat=>i64 (lS k)) (fun k:Nat=>i64 k) (fun k=>own b (x.cells vj vn vp vr lp vt vs)::ob i7 vj x.jobs::ob mx vn x.now::ob jy vp x.past::sl iw vr x.res::ob (kj ck) lp x.limbo::sl ck vt x.rests::sl cx vs x.slots::M) (fun k=>k≤(wA x.conf).toNat) (fun k=>(wA x.conf).toNat-k) 0 rfl rfl rfl (by simp) ?_
 intro k hk J hJ
 have hm:=KM k
 refine gr ?_
 refine G.cond (fun h=>?_) (fun h=>?_)
 ·have hk2:k<(wA x.conf).toNat:=by simp at h;omega
  have h1:=hJ (k+1) hk2 (by omega)
  refine gr ?_
  rw [iy (n:=2*lS k) (by omega) (by omega),di (by omega)]
  exact h1
 ·have hk2:k=(wA x.conf).toNat:=by simp at h;omega
  have ne:iG (lS k+1):=⟨by omega⟩
  have e1:IntKind.wrap .i64 (lS k+1)=lS k+1:=iy (by omega) (by omega)
  unfold oT at hK
  have hpo:draw.tmod (lS k+1)=pY x.conf draw:=by rw [hk2]
  have ed:IntKind.wrap .i64 draw=draw:=iy (by omega) (by omega)
  by_cases h0:pY x.conf draw=0
  ·rw [if_pos h0] at hK
   rw [h0] at hpo
   refine gf (an ed (an e1 hpo)) ?_
   refine bv b { x with pauses:=0,state:=3 } vj vn vp vr lp vt vs ?_
   refine iE (x:={ x with pauses:=0,state:=3 }) ⟨ho.lo,ho.hi,ho.progs,ho.rests⟩ ?_
   repeat' (first | (with_reducible refine G.joini0 ?_) | (with_reducible refine G.joini1 ?_) | (with_reducible refine G.drew ?_) | (simp (maxSteps:=2000000) only [↓RG,RP,RB,BEq.rfl,Int.reduceEq,Int.reduceLT,Int.reduceLE,Nat.reduceEqDiff]))
   exact hK
  ·rw [if_neg h0] at hK
   refine gf (an ed (an e1 (an hpo h0))) ?_
   refine bv b { x with pauses:=pY x.conf draw,state:=3 } vj vn vp vr lp vt vs ?_
   exact hK
theorem F3 (ho:iQ x)(hp:x.state=3→1≤x.pauses∧x.pauses≤100)[i:aq L gD b x C](hK:G w0 (C (ob gD b (io x))) (K (.tuple #[]))):G w0 L (CP Tryz.prog W1 [ptr b 0] K):=by
 refine i.use (fun M hK=>?_) hK
 refine va ?_
 unfold mR
 rw [dv]
 intro vj vn vp vr lp vt vs
 unfold io at hK
 by_cases h3:x.state=3
 ·rw [if_pos h3] at hK
  have hp:=hp h3
  have e:IntKind.wrap .i64 (x.pauses-1)=x.pauses-1:=iy (by omega) (by omega)
  by_cases h1:x.pauses=1
  ·rw [if_pos h1] at hK
   have e0:(x.pauses-1=0)=True:=eq_true (by omega)
   refine gf (an (eq_true h3) (an e e0)) ?_
   refine bv b { x with pauses:=x.pauses-1 } vj vn vp vr lp vt vs ?_
   refine iE (x:={ x with pauses:=x.pauses-1 }) ⟨ho.lo,ho.hi,ho.progs,ho.rests⟩ ?_
   rw [show x.pauses-1=0 by omega]
   exact hK
  ·rw [if_neg h1,dv] at hK
   have e0:(x.pauses-1=0)=False:=eq_false (by omega)
   refine gf (an (eq_true h3) (an e e0)) ?_
   exact hK vj vn vp vr lp vt vs
 ·rw [if_neg h3,dv] at hK
  refine gf h3 ?_
  exact hK vj vn vp vr lp vt vs
theorem Em {a:fH}(ho:iQ x)(hd:0≤draw)(hd2:draw≤255)[i:aq L gD b x C](hK:G w0 (C (ob gD b (th x a draw))) (K (.tuple #[]))):G w0 L (CP Tryz.prog W2 [ptr b 0,.agg (fH.cells a).toArray,.int .u8 draw] K):=by
 refine i.use (fun M hK=>?_) hK
 refine uV ?_
 unfold mZ
 refine G.box fun q=>?_
 rw [fA]
 refine G.drew ?_
 unfold th at hK
 have hpause:G w0 (ob gD b (oT x draw)::M) (K (.tuple #[]))→G w0 (ob gD b x::own q (fH.cells a)::M) (CP Tryz.prog Vj [ptr b 0,.int .u8 draw] (fun x32=>K (.tuple #[]))):=fun h=>xe (x:=x) ho hd hd2 h.sub
 refine gu ?_
 by_cases c1:a.err=0
 ·by_cases c2:a.word=0
  ·rw [if_neg (fun h=>h.2.1 c2)] at hK
   refine gf (an (eq_true c1) (eq_true c2)) ?_
   exact hpause hK
  ·rw [dv]
   intro vj vn vp vr lp vt vs
   cases hy:x.yld
   ·rw [if_pos ⟨c1,c2,.inl hy⟩,dv] at hK
    have hy2:(!x.yld)=true:=by rw [hy];rfl
    repeat' (first | (with_reducible refine G.joini0 ?_) | (with_reducible refine G.joini1 ?_) | (with_reducible refine G.drew ?_) | (simp (maxSteps:=2000000) only [↓RG,RP,RB,BEq.rfl,Int.reduceEq,Int.reduceLT,Int.reduceLE,Nat.reduceEqDiff,eq_true c1,c2,hy2]))
    exact(hK vj vn vp vr lp vt vs).sub
   ·have hy2:(!x.yld)=false:=by rw [hy];rfl
    by_cases c3:a.word=x.since
    ·rw [if_pos ⟨c1,c2,.inr c3⟩,dv] at hK
     repeat' (first | (with_reducible refine G.joini0 ?_) | (with_reducible refine G.joini1 ?_) | (with_reducible refine G.drew ?_) | (simp (maxSteps:=2000000) only [↓RG,RP,RB,BEq.rfl,Int.reduceEq,Int.reduceLT,Int.reduceLE,Nat.reduceEqDiff,eq_true c1,c2,hy2,eq_true c3]))
     exact(hK vj vn vp vr lp vt vs).sub
    ·rw [if_neg (fun h=>by rcases h.2.2 with h | h;rw [hy] at h;cases h;exact c3 h)] at hK
     refine gf (an (eq_true c1) (an c2 (an hy2 c3))) ?_
     refine bv b x vj vn vp vr lp vt vs ?_
     exact hpause hK
 ·rw [if_neg (fun h=>c1 h.1)] at hK
  refine gf c1 ?_
  exact hpause hK
theorem yT (ho:iQ x)(hj:x.job<x.jobs.length)(hl:x.jobs.length≤1000000)(hs:x.slots.length≤10)(hm:x.limbo.length≤90000)[i:aq L gD b x C](hK:G w0 (C (ob gD b (rC x))) (K (.tuple #[]))):G w0 L (CP Tryz.prog VX [ptr b 0] K):=by
 refine i.use (fun M hK=>?_) hK
 refine xi ?_
 unfold n7
 have hj1:iQ { x with job:=x.job+1,rests:=[] }:=⟨by have:=ho.lo;show 0≤x.job+1;omega,by show x.job+1≤x.jobs.length;omega,ho.progs,by simp⟩
 have key:∀vj vn vp vr lp vt vs2,G w0 (own b (x.cells vj vn vp vr lp vt vs2)::sl cx vs2 (fY x)::ob i7 vj x.jobs::ob mx vn x.now::ob jy vp x.past::sl iw vr x.res::ob (kj ck) lp x.limbo::sl ck vt x.rests::M)
   (ae (.bool (decide (((fY x).length:Int)<x.s.threads))) (K (.tuple #[])) (aw (ab (ptr b 21) fun x21=>ab (ptr b 22) fun x24=>CP Tryz.prog VY [x21,x24] fun x25=>andP (andP (ac) (andP (ac) (ac))) (bp x25 fun x26=>aa .eql x26 (i64 0) fun x27=>ae x27 (CP Tryz.prog Vb [ptr b 0] fun x28=>K (.tuple #[])) (ap [.bool false,.slice none 0 0,i64 0,i64 0] [(0,1,.bool true),(1,1,x25)] fun x29=>ag 4 (ptr b 12) x29 fun _=>CP Tryz.prog LE [ptr b 0] fun x33=>K (.tuple #[])))))):=by
  intro vj vn vp vr lp vt vs2
  unfold rC at hK
  have h11:(fY x).length≤11:=by
   show (if (x.slots.length:Int)=x.me then x.slots++[0] else x.slots).length≤11
   split
   ·simp only [List.length_append,List.length_singleton];omega
   ·omega
  generalize fY x=ss at hK h11
  by_cases c1:((ss.length:Nat):Int)<x.s.threads
  ·rw [if_pos c1] at hK
   repeat' (first | (with_reducible refine G.joini0 ?_) | (with_reducible refine G.joini1 ?_) | (with_reducible refine G.drew ?_) | (simp (maxSteps:=2000000) only [↓RG,RP,RB,BEq.rfl,Int.reduceEq,Int.reduceLT,Int.reduceLE,Nat.reduceEqDiff,eq_true c1]))
   refine bv b { x with slots:=ss } vj vn vp vr lp vt vs2 ?_
   exact hK
  ·rw [if_neg c1] at hK
   repeat' (first | (with_reducible refine G.joini0 ?_) | (with_reducible refine G.joini1 ?_) | (with_reducible refine G.drew ?_) | (simp (maxSteps:=2000000) only [↓RG,RP,RB,BEq.rfl,Int.reduceEq,Int.reduceLT,Int.reduceLE,Nat.reduceEqDiff,c1]))
   refine Aj (xs:=x.limbo) (ss:=ss) (by omega) (by omega) fun u hu=>?_
   have hlr:=List.length_filter_le (fun r:pc=>fe ss r.stamp) x.limbo
   by_cases c2:x.limbo.filter (fun r=>fe ss r.stamp)=[]
   ·rw [if_pos c2] at hK
    rw [c2]
    repeat' (first | (with_reducible refine G.joini0 ?_) | (with_reducible refine G.joini1 ?_) | (with_reducible refine G.drew ?_) | (simp (maxSteps:=2000000) only [↓RG,RP,RB,BEq.rfl,Int.reduceEq,Int.reduceLT,Int.reduceLE,Nat.reduceEqDiff,List.length_nil,Int.cast_ofNat_Int]))
    refine bv b { x with slots:=ss,limbo:=x.limbo.filter fun r=>!fe ss r.stamp } vj vn vp vr lp vt vs2 ?_
    refine gG (x:={ x with slots:=ss,limbo:=x.limbo.filter fun r=>!fe ss r.stamp }) ⟨hj1.lo,hj1.hi,hj1.progs,hj1.rests⟩ hl ?_
    repeat' (first | (with_reducible refine G.joini0 ?_) | (with_reducible refine G.joini1 ?_) | (with_reducible refine G.drew ?_) | (simp (maxSteps:=2000000) only [↓RG,RP,RB,BEq.rfl,Int.reduceEq,Int.reduceLT,Int.reduceLE,Nat.reduceEqDiff]))
    exact hK.sub
   ·rw [if_neg c2] at hK
    have c3:¬(((x.limbo.filter (fun r=>fe ss r.stamp)).length:Nat):Int)=0:=by
     intro g
     exact c2 (List.length_eq_zero_iff.1 (by omega))
    repeat' (first | (with_reducible refine G.joini0 ?_) | (with_reducible refine G.joini1 ?_) | (with_reducible refine G.drew ?_) | (simp (maxSteps:=2000000) only [↓RG,RP,RB,BEq.rfl,Int.reduceEq,Int.reduceLT,Int.reduceLE,Nat.reduceEqDiff,c3]))
    refine bv b { x with slots:=ss,limbo:=x.limbo.filter (fun r=>!fe ss r.stamp),sweep:=true,rests:=x.limbo.filter (fun r=>fe ss r.stamp),tries:=0,conf:=0 } vj vn vp vr lp u vs2 ?_
    refine iE (x:={ x with slots:=ss,limbo:=x.limbo.filter (fun r=>!fe ss r.stamp),sweep:=true,rests:=x.limbo.filter (fun r=>fe ss r.stamp),tries:=0,conf:=0 }) ⟨ho.lo,ho.hi,ho.progs,by show (x.limbo.filter _).length≤_;omega⟩ ?_
    repeat' (first | (with_reducible refine G.joini0 ?_) | (with_reducible refine G.joini1 ?_) | (with_reducible refine G.drew ?_) | (simp (maxSteps:=2000000) only [↓RG,RP,RB,BEq.rfl,Int.reduceEq,Int.reduceLT,Int.reduceLE,Nat.reduceEqDiff]))
    exact hK.sub
 rw [dv]
 intro vj vn vp vr lp vt vs
 by_cases cm:(x.slots.length:Int)=x.me
 ·have e:fY x=x.slots++[0]:=if_pos cm
  rw [e] at key
  repeat' (first | (with_reducible refine G.joini0 ?_) | (with_reducible refine G.joini1 ?_) | (with_reducible refine G.drew ?_) | (simp (maxSteps:=2000000) only [↓RG,RP,RB,BEq.rfl,Int.reduceEq,Int.reduceLT,Int.reduceLE,Nat.reduceEqDiff,eq_true cm]))
  refine G.build cx [0] rfl (by decide) rfl fun y hy=>?_
  repeat' (first | (with_reducible refine G.joini0 ?_) | (with_reducible refine G.joini1 ?_) | (with_reducible refine G.drew ?_) | (simp (maxSteps:=2000000) only [↓RG,RP,RB,BEq.rfl,Int.reduceEq,Int.reduceLT,Int.reduceLE,Nat.reduceEqDiff]))
  refine G.append (E:=cx) (xs:=x.slots) (ys:=[0]) (by simp only [List.length_singleton];omega) (by simp only [List.length_singleton,maxLen];omega) fun u hu=>?_
  repeat' (first | (with_reducible refine G.joini0 ?_) | (with_reducible refine G.joini1 ?_) | (with_reducible refine G.drew ?_) | (simp (maxSteps:=2000000) only [↓RG,RP,RB,BEq.rfl,Int.reduceEq,Int.reduceLT,Int.reduceLE,Nat.reduceEqDiff]))
  exact(key vj vn vp vr lp vt u).sub
 ·have e:fY x=x.slots:=if_neg cm
  rw [e] at key
  repeat' (first | (with_reducible refine G.joini0 ?_) | (with_reducible refine G.joini1 ?_) | (with_reducible refine G.drew ?_) | (simp (maxSteps:=2000000) only [↓RG,RP,RB,BEq.rfl,Int.reduceEq,Int.reduceLT,Int.reduceLE,Nat.reduceEqDiff,cm]))
  exact(key vj vn vp vr lp vt vs).sub
theorem uu {since:Int}(ho:iQ x)(hj:x.job<x.jobs.length)(hl:x.jobs.length≤1000000)(hs:x.slots.length≤4)(hm:x.limbo.length≤90000)[i:aq L gD b x C](hK:G w0 (C (ob gD b (xO x since))) (K (.tuple #[]))):G w0 L (CP Tryz.prog W4 [ptr b 0,u64 since] K):=by
 refine i.use (fun M hK=>?_) hK
 refine ug ?_
 unfold lF
 rw [dv]
 intro vj vn vp vr lp vt vs
 refine gg ?_
 refine G.build cx [since] rfl (by decide) rfl fun y hy=>?_
 repeat' (first | (with_reducible refine G.joini0 ?_) | (with_reducible refine G.joini1 ?_) | (with_reducible refine G.drew ?_) | (simp (maxSteps:=2000000) only [↓RG,RP,RB,BEq.rfl,Int.reduceEq,Int.reduceLT,Int.reduceLE,Nat.reduceEqDiff]))
 refine G.append (E:=cx) (xs:=x.slots) (ys:=[since]) (by simp only [List.length_singleton];omega) (by simp only [List.length_singleton,maxLen];omega) fun u hu=>?_
 refine gg ?_
 refine bv b { x with slots:=x.slots++[since] } vj vn vp vr lp vt u ?_
 refine yT (x:={ x with slots:=x.slots++[since] }) ⟨ho.lo,ho.hi,ho.progs,ho.rests⟩ hj hl (by simp only [List.length_append,List.length_singleton];omega) hm ?_
 repeat' (first | (with_reducible refine G.joini0 ?_) | (with_reducible refine G.joini1 ?_) | (with_reducible refine G.drew ?_) | (simp (maxSteps:=2000000) only [↓RG,RP,RB,BEq.rfl,Int.reduceEq,Int.reduceLT,Int.reduceLE,Nat.reduceEqDiff]))
 exact hK.sub
theorem GC (ho:iQ x)(hj:x.job<x.jobs.length)(hl:x.jobs.length≤1000000)(hm:x.limbo.length≤90000)[i:aq L gD b x C](hK:G w0 (C (ob gD b (BA x))) (K (.tuple #[]))):G w0 L (CP Tryz.prog W5 [ptr b 0] K):=by
 refine i.use (fun M hK=>?_) hK
 refine xC ?_
 unfold oq
 unfold BA at hK
 rw [dv]
 intro vj vn vp vr lp vt vs
 refine gg ?_
 refine AU (xs:=x.limbo) ?_
 by_cases c:x.limbo=[]
 ·rw [if_pos c] at hK
  have c3:(((x.limbo.length:Nat):Int)=0)=True:=by rw [c];simp
  refine gf c3 ?_
  refine bv b x vj vn vp vr lp vt vs ?_
  refine gG (x:=x) ⟨by have:=ho.lo;show 0≤x.job+1;omega,by show x.job+1≤x.jobs.length;omega,ho.progs,by simp⟩ hl ?_
  repeat' (first | (with_reducible refine G.joini0 ?_) | (with_reducible refine G.joini1 ?_) | (with_reducible refine G.drew ?_) | (simp (maxSteps:=2000000) only [↓RG,RP,RB,BEq.rfl,Int.reduceEq,Int.reduceLT,Int.reduceLE,Nat.reduceEqDiff]))
  exact hK
 ·rw [if_neg c] at hK
  have c3:¬((x.limbo.length:Nat):Int)=0:=by
   intro g
   exact c (List.length_eq_zero_iff.1 (by omega))
  refine gf c3 ?_
  refine G.nilsl cx ?_
  refine bv b { x with state:=5,slots:=[] } vj vn vp vr lp vt (.slice none 0 0) ?_
  refine yT (x:={ x with state:=5,slots:=[] }) ⟨ho.lo,ho.hi,ho.progs,ho.rests⟩ hj hl (by simp) hm ?_
  repeat' (first | (with_reducible refine G.joini0 ?_) | (with_reducible refine G.joini1 ?_) | (with_reducible refine G.drew ?_) | (simp (maxSteps:=2000000) only [↓RG,RP,RB,BEq.rfl,Int.reduceEq,Int.reduceLT,Int.reduceLE,Nat.reduceEqDiff]))
  exact hK.sub
theorem F4 {e:Int}(ho:iQ x)(hj:x.job<x.jobs.length)(hl:x.jobs.length≤1000000)(hm:x.limbo.length+x.rests.length≤90000)[i:aq L gD b x C](hK:G w0 (C (ob gD b (BU x e))) (K (.tuple #[]))):G w0 L (CP Tryz.prog W6 [ptr b 0,i64 e] K):=by
 refine i.use (fun M hK=>?_) hK
 refine vk ?_
 unfold nf
 unfold BU at hK
 have hj1:∀z:co,z.job=x.job→z.jobs=x.jobs→iQ { z with job:=z.job+1,rests:=[] }:=fun z e1 e2=>⟨by have:=ho.lo;show 0≤z.job+1;omega,by show z.job+1≤z.jobs.length;rw [e2];omega,by show ∀p∈z.jobs,_;rw [e2];exact ho.progs,by simp⟩
 rw [dv]
 intro vj vn vp vr lp vt vs
 by_cases c4:e=4
 ·rw [if_pos c4] at hK
  repeat' (first | (with_reducible refine G.joini0 ?_) | (with_reducible refine G.joini1 ?_) | (with_reducible refine G.drew ?_) | (simp (maxSteps:=2000000) only [↓RG,RP,RB,BEq.rfl,Int.reduceEq,Int.reduceLT,Int.reduceLE,Nat.reduceEqDiff,eq_true c4]))
  refine G.loop1 (fun k:Nat=>i64 k) (fun k=>own b (x.cells vj vn vp vr lp vt vs)::ob i7 vj x.jobs::ob mx vn x.now::ob jy vp x.past::sl iw vr x.res::ob (kj ck) lp (x.limbo++x.rests.take k)::sl ck vt x.rests::sl cx vs x.slots::M) (fun k=>k≤x.rests.length) (fun k=>x.rests.length-k) 0 rfl (by simp) (by simp) ?_
  intro k hk J hJ
  try simp (maxSteps:=2000000) only [↓RG,RP,RB,BEq.rfl,Int.reduceEq,Int.reduceLT,Int.reduceLE,Nat.reduceEqDiff]
  refine G.cond (fun h=>?_) (fun h=>?_)
  ·have hk2:k<x.rests.length:=by simpa using h
   have e:=ct hk2
   repeat' (first | (with_reducible refine G.joini0 ?_) | (with_reducible refine G.joini1 ?_) | (with_reducible refine G.drew ?_) | (simp (maxSteps:=2000000) only [↓RG,RP,RB,BEq.rfl,Int.reduceEq,Int.reduceLT,Int.reduceLE,Nat.reduceEqDiff]))
   refine G.new fun q=>?_
   repeat' (first | (with_reducible refine G.joini0 ?_) | (with_reducible refine G.joini1 ?_) | (with_reducible refine G.drew ?_) | (simp (maxSteps:=2000000) only [↓RG,RP,RB,BEq.rfl,Int.reduceEq,Int.reduceLT,Int.reduceLE,Nat.reduceEqDiff]))
   refine G.build bg [x.rests[k].place] rfl (by decide) rfl fun y hy=>?_
   repeat' (first | (with_reducible refine G.joini0 ?_) | (with_reducible refine G.joini1 ?_) | (with_reducible refine G.drew ?_) | (simp (maxSteps:=2000000) only [↓RG,RP,RB,BEq.rfl,Int.reduceEq,Int.reduceLT,Int.reduceLE,Nat.reduceEqDiff]))
   refine rx (xs:=x.limbo++x.rests.take k) (bs:=[x.rests[k].place]) (t:=x.rests[k].stamp) (by simp only [List.length_append,List.length_take,List.length_singleton];omega) ?_
   repeat' (first | (with_reducible refine G.joini0 ?_) | (with_reducible refine G.joini1 ?_) | (with_reducible refine G.drew ?_) | (simp (maxSteps:=2000000) only [↓RG,RP,RB,BEq.rfl,Int.reduceEq,Int.reduceLT,Int.reduceLE,Nat.reduceEqDiff]))
   rw [di (by omega)]
   have hn:=hJ (k+1) hk2 (by omega)
   rw [List.take_succ_eq_append_getElem hk2,←List.append_assoc] at hn
   simp only [List.map_cons,List.map_nil,show (⟨x.rests[k].place,x.rests[k].stamp⟩:pc)=x.rests[k] from rfl]
   exact hn.sub
  ·have hk2:k=x.rests.length:=by
    have:¬k<x.rests.length:=by simpa using h
    omega
   subst hk2
   rw [List.take_length]
   repeat' (first | (with_reducible refine G.joini0 ?_) | (with_reducible refine G.joini1 ?_) | (with_reducible refine G.drew ?_) | (simp (maxSteps:=2000000) only [↓RG,RP,RB,BEq.rfl,Int.reduceEq,Int.reduceLT,Int.reduceLE,Nat.reduceEqDiff]))
   refine bv b { x with limbo:=x.limbo++x.rests } vj vn vp vr lp vt vs ?_
   refine gG (x:={ x with limbo:=x.limbo++x.rests }) (hj1 _ rfl rfl) hl ?_
   repeat' (first | (with_reducible refine G.joini0 ?_) | (with_reducible refine G.joini1 ?_) | (with_reducible refine G.drew ?_) | (simp (maxSteps:=2000000) only [↓RG,RP,RB,BEq.rfl,Int.reduceEq,Int.reduceLT,Int.reduceLE,Nat.reduceEqDiff]))
   exact hK
 ·rw [if_neg c4] at hK
  repeat' (first | (with_reducible refine G.joini0 ?_) | (with_reducible refine G.joini1 ?_) | (with_reducible refine G.drew ?_) | (simp (maxSteps:=2000000) only [↓RG,RP,RB,BEq.rfl,Int.reduceEq,Int.reduceLT,Int.reduceLE,Nat.reduceEqDiff,c4]))
  refine bv b x vj vn vp vr lp vt vs ?_
  refine gG (x:=x) (hj1 _ rfl rfl) hl ?_
  repeat' (first | (with_reducible refine G.joini0 ?_) | (with_reducible refine G.joini1 ?_) | (with_reducible refine G.drew ?_) | (simp (maxSteps:=2000000) only [↓RG,RP,RB,BEq.rfl,Int.reduceEq,Int.reduceLT,Int.reduceLE,Nat.reduceEqDiff]))
  exact hK
theorem Fj [i:aq L gD b x C](hK:G w0 L (K (i64 x.state))):G w0 L (CP Tryz.prog W7 [ptr b 0] K):=by
 refine i.ro (fun M hK=>?_) hK
 refine uH ?_
 unfold mM
 rw [dv] at *
 intro vj vn vp vr lp vt vs
 have hK:=hK vj vn vp vr lp vt vs
 refine gr ?_
 exact hK
theorem Cc (hl:x.res.length≤1000000)[i:aq L gD b x C](hK:∀u,ar u [u]→G w0 (sl iw u x.res::L) (K u)):G w0 L (CP Tryz.prog W8 [ptr b 0] K):=by
 refine i.roN (fun M hK=>?_) hK
 refine sO ?_
 unfold lA
 rw [dv]
 intro vj vn vp vr lp vt vs
 refine gr ?_
 refine kg (xs:=x.res) hl fun u hu=>?_
 refine bv b x vj vn vp vr lp vt vs ?_
 exact(hK u hu).sub
theorem GI {s ver:Int}(ho:iQ x)(hr:∀a,x.now=some a→a.rd.length≤1000)[i:aq L gD b x C](hK:G w0 (C (ob gD b (im x s ver))) (K (.tuple #[]))):G w0 L (CP Tryz.prog W9 [ptr b 0,i64 s,u64 ver] K):=by
 refine i.use (fun M hK=>?_) hK
 refine vN ?_
 unfold oE
 unfold im at hK
 rw [dv]
 intro vj vn vp vr lp vt vs
 cases hn:x.now with
 | none =>
  simp only [hn] at hK
  rw [dv] at hK
  have hK:=hK vj vn vp vr lp vt vs
  rw [hn] at hK
  refine G.take1 mx vn ?_
  rw [Gb]
  intro e
  subst e
  have hK:G w0 (ob mx (.pointer none) none::own b (x.cells vj (.pointer none) vp vr lp vt vs)::ob i7 vj x.jobs::ob jy vp x.past::sl iw vr x.res::ob (kj ck) lp x.limbo::sl ck vt x.rests::sl cx vs x.slots::M) (K (.tuple #[])):=hK.sub
  rw [Gb] at hK
  refine gg ?_
  exact hK rfl
 | some a =>
  have hr:=hr a hn
  simp only [hn] at hK
  refine G.take1 mx vn ?_
  rw [qV]
  intro p e
  subst e
  have hsame:G w0 (ob gD b x::M) (K (.tuple #[]))→G w0 (ob fG p a::own b (x.cells vj (ptr p 0) vp vr lp vt vs)::ob i7 vj x.jobs::ob jy vp x.past::sl iw vr x.res::ob (kj ck) lp x.limbo::sl ck vt x.rests::sl cx vs x.slots::M) (K (.tuple #[]))∧True:=fun h=>⟨by
   refine i4 p a ?_
   rw [←hn]
   refine bv b x vj (ptr p 0) vp vr lp vt vs ?_
   exact h.sub,trivial⟩
  refine gg ?_
  refine Eu (x:=a) (by omega) fun u hu=>?_
  refine gg ?_
  refine G.loop1 (fun k:Nat=>i64 k) (fun k=>sl gq u a.rd::ob fG p a::own b (x.cells vj (ptr p 0) vp vr lp vt vs)::ob i7 vj x.jobs::ob jy vp x.past::sl iw vr x.res::ob (kj ck) lp x.limbo::sl ck vt x.rests::sl cx vs x.slots::M) (fun k=>k≤a.rd.length∧HA a.rd s ver=HA (a.rd.drop k) s ver) (fun k=>a.rd.length-k) 0 rfl rfl (by simp) ?_
  rintro k ⟨hk,hn2⟩ J hJ
  refine gr ?_
  refine G.cond (fun h=>?_) (fun h=>?_)
  ·have hk2:k<a.rd.length:=by simp at h;omega
   have e:=ct hk2
   rw [List.drop_eq_getElem_cons hk2,show HA (a.rd[k]::a.rd.drop (k+1)) s ver=((decide (a.rd[k].stripe=s) && !decide (a.rd[k].version=ver)) || HA (a.rd.drop (k+1)) s ver) from rfl] at hn2
   have hnext:(decide (a.rd[k].stripe=s) && !decide (a.rd[k].version=ver))=false→_:=fun g=>hJ (k+1) ⟨hk2,by rw [hn2,g,Bool.false_or]⟩ (by omega)
   refine gu ?_
   refine gr ?_
   refine G.new fun q2=>?_
   by_cases c1:a.rd[k].stripe=s
   ·by_cases c2:a.rd[k].version=ver
    ·have hnext:=hnext (by simp [c2])
     refine gf (an (eq_true c1) (eq_true c2)) ?_
     rw [di (by omega)]
     exact hnext.sub
    ·rw [hn2,decide_eq_true c1,decide_eq_false c2] at hK
     simp only [Bool.not_false,Bool.and_true,Bool.true_or,if_true] at hK
     by_cases c4:x.state=4
     ·rw [if_pos c4] at hK
      refine gf (an (eq_true c1) (an c2 (eq_true c4))) ?_
      refine i4 p a ?_
      rw [←hn]
      refine bv b x vj (ptr p 0) vp vr lp vt vs ?_
      refine iE (x:=x) ho ?_
      repeat' (first | (with_reducible refine G.joini0 ?_) | (with_reducible refine G.joini1 ?_) | (with_reducible refine G.drew ?_) | (simp (maxSteps:=2000000) only [↓RG,RP,RB,BEq.rfl,Int.reduceEq,Int.reduceLT,Int.reduceLE,Nat.reduceEqDiff]))
      exact hK.sub
     ·rw [if_neg c4] at hK
      by_cases c3:x.state=1
      ·repeat' (first | (with_reducible refine G.joini0 ?_) | (with_reducible refine G.joini1 ?_) | (with_reducible refine G.drew ?_) | (simp (maxSteps:=2000000) only [↓RG,RP,RB,BEq.rfl,Int.reduceEq,Int.reduceLT,Int.reduceLE,Nat.reduceEqDiff,eq_true c1,c2,c4,eq_true c3]))
       refine z7 (x:=a) ?_
       cases hb:(!decide (a.state=8) && a.blocking)
       ·rw [if_neg (by rw [hb];simp)] at hK
        repeat' (first | (with_reducible refine G.joini0 ?_) | (with_reducible refine G.joini1 ?_) | (with_reducible refine G.drew ?_) | (simp (maxSteps:=2000000) only [↓RG,RP,RB,BEq.rfl,Int.reduceEq,Int.reduceLT,Int.reduceLE,Nat.reduceEqDiff]))
        exact((hsame hK).1).sub
       ·rw [if_pos ⟨c3,hb⟩] at hK
        repeat' (first | (with_reducible refine G.joini0 ?_) | (with_reducible refine G.joini1 ?_) | (with_reducible refine G.drew ?_) | (simp (maxSteps:=2000000) only [↓RG,RP,RB,BEq.rfl,Int.reduceEq,Int.reduceLT,Int.reduceLE,Nat.reduceEqDiff]))
        refine i4 p a ?_
        rw [←hn]
        refine bv b { x with alarm:=true } vj (ptr p 0) vp vr lp vt vs ?_
        rw [←hn] at hK
        exact hK.sub
      ·rw [if_neg (fun g=>c3 g.1)] at hK
       repeat' (first | (with_reducible refine G.joini0 ?_) | (with_reducible refine G.joini1 ?_) | (with_reducible refine G.drew ?_) | (simp (maxSteps:=2000000) only [↓RG,RP,RB,BEq.rfl,Int.reduceEq,Int.reduceLT,Int.reduceLE,Nat.reduceEqDiff,eq_true c1,c2,c4,c3]))
       exact((hsame hK).1).sub
   ·have hnext:=hnext (by simp [c1])
    refine gf c1 ?_
    rw [di (by omega)]
    exact hnext.sub
  ·have hk2:k=a.rd.length:=by
    have:¬k<a.rd.length:=by simpa using h
    omega
   have e0:HA a.rd s ver=false:=by rw [hn2,hk2,List.drop_length];rfl
   rw [e0,if_neg (by decide)] at hK
   refine gr ?_
   exact((hsame hK).1).sub
end
end Go.Proofs.YtoealglbimbbmaaGreatDoor.S
namespace Go.Proofs.YtoealglbimbbmaaGreatDoor.S
open Go Go.Proofs
set_option linter.unusedVariables false
set_option linter.unusedSimpArgs false
abbrev HY (a:bq):Int:=if a.wr=true then 2 else (if a.state=8 then a.fin else 0)
abbrev pj (x:co)(a:bq)(pick:Int)(r c f:lD)(s:ByteArray):sL:=⟨x.me,x.job,x.tries,x.sweep,HY a,(if a.state=8 then a.err else 0),a.beg,a.stamp,x.born,pick,r,c,f,s⟩
structure CY (a:bq):Prop where
 known:a.v.k.length≤1000
 cells:a.v.l.cells.length≤1000
 frees:a.done=true→a.v.l.frees.length≤1000
 blocks:a.blocks.length≤100000
 items:a.done=true→Bd a.items
theorem B0.tol {a:bq}(h:B0 a):CY a:=⟨h.known,h.cells,h.frees,h.blocks,h.items⟩
theorem CY.freed {a:bq}(h:CY a):a.freed.length≤100000:=by
 show (if a.done=true then (match a.run with | none=>a.blocks | some _=>a.v.l.frees) else []).length≤_
 split
 ·rename_i hd
  have h1:=h.frees hd
  have h2:=h.blocks
  cases a.run <;> simp only <;> omega
 ·simp
theorem N7 {a:bq}:decide (HY a=2)=a.done:=by
 show decide ((if a.wr=true then 2 else (if a.state=8 then a.fin else 0))=2)=(decide ((if a.state=8 then a.fin else 0)=2) || a.wr)
 cases a.wr <;> simp
theorem M3 {x:co}{a:bq}{pick:Int}{r c f:lD}{s:ByteArray}(h:CY a):tm (pj x a pick r c f s,gh a x.born pick,a.freed) :=
 ⟨rfl,N7,rfl,rfl,h.known,by show (if a.done=true then a.v.l.cells else []).length≤1000;split;exact h.cells;simp,h.freed⟩
section
variable {w0:bh}{L M:List ay}{K:KV}{F:World→Prop}{C:ay→List ay}{b lp p:Nat}{x:co}{v vj vn vp vr vt vs:Value}{a:bq}{draw pick:Int}
theorem PT {zero r:List Value}{ps:List (Nat×Nat×Value)}(h:qG zero ps=some r):G w0 L (ap zero ps K)=G w0 L (K (.agg r.toArray)):=by
 congr 1
 funext w
 simp [ap,h]
theorem yZ (ht:uR w0)(hg:CY a)
  (hK:∀(r c f:lD) (s:ByteArray),uS a s→G w0 (sl bf r.v a.v.k::sl bf c.v (if a.done then a.v.l.cells else [])::sl bg f.v a.freed::own b (x.cells vj (ptr p 0) vp vr lp vt vs)::ob fG p a::M) (K (.agg (sL.cells (pj x a pick r c f s)).toArray))) :
  G w0 (own b (x.cells vj (ptr p 0) vp vr lp vt vs)::ob fG p a::M) (CP Tryz.prog VZ [ptr b 0,i64 pick] K):=by
 refine wO ?_
 unfold oK
 refine G.new fun q=>?_
 refine gg ?_
 refine kL (x:=a) ?_
 refine gg ?_
 refine ic (x:=a) ?_
 try simp (maxSteps:=2000000) only [↓RG,RP,RB,BEq.rfl,Int.reduceEq,Int.reduceLT,Int.reduceLE,Nat.reduceEqDiff]
 refine lI (x:=a) ?_
 refine G.join1 (fun k:Int=>i64 k) (fun _=>own q [i64 0,i64 0,i64 0,.bool false,i64 0,i64 0,u64 0,u64 0,i64 0,i64 0,.slice none 0 0,.slice none 0 0,.slice none 0 0,.string ⟨#[]⟩]::own b (x.cells vj (ptr p 0) vp vr lp vt vs)::ob fG p a::M) (fun k=>k=HY a) (fun k hk=>?_) (fun J hJ=>?_)
 rotate_left
 ·refine G.cond (fun h=>?_) (fun h=>?_)
  ·exact hJ 2 (by rw [HY,if_pos h])
  ·exact hJ _ (if_neg (by rw [h];decide)).symm
 subst hk
 repeat' (first | (with_reducible refine G.joini0 ?_) | (with_reducible refine G.joini1 ?_) | (with_reducible refine G.drew ?_) | (simp (maxSteps:=2000000) only [↓RG,RP,RB,BEq.rfl,Int.reduceEq,Int.reduceLT,Int.reduceLE,Nat.reduceEqDiff]))
 refine zp (x:=a) ?_
 refine gg ?_
 refine pp (x:=a) ?_
 refine gg ?_
 refine DS (x:=a) (by have:=hg.known;omega) fun u hu=>?_
 refine G.isSl (v:=u) fun r hr=>?_
 subst hr
 refine gg ?_
 refine DE (x:=a) fun c=>?_
 refine gg ?_
 refine uC (x:=a) (fun h=>by have:=hg.frees h;omega) (by have:=hg.blocks;omega) fun f=>?_
 refine gg ?_
 refine ut ht (x:=a) hg.items fun s hs=>?_
 refine gg ?_
 rw [PT (r:=sL.cells (pj x a pick r c f s)) rfl]
 refine gg ?_
 exact(hK r c f s hs).sub
theorem Cr {n:List Ta}(u:Value)(l:List gd)(e:sL)(t:Ta)(fr:List Int) [ez [sl fg u (l.map (·.1)++[e]),ob (cg eu) () l,sl bf e.reads.v t.reads,sl bf e.cells_.v t.cells,sl bg e.frees.v fr] L M]
  (hl:l.map (·.2.1)=n∧∀p∈l,tm p) (hk:tm (e,t,fr)) (H:G w0 (ob jy u (n++[t])::M) F):G w0 L F :=
 G.pickAll (As:=[sl fg u (l.map (·.1)++[e]),ob (cg eu) () l,sl bf e.reads.v t.reads,sl bf e.cells_.v t.cells,sl bg e.frees.v fr]) (by
  rw [lz] at H
  have h:=H (l++[(e,t,fr)]) ⟨by simp [hl.1],fun p hp=>by
   rcases List.mem_append.1 hp with hp | hp
   ·exact hl.2 p hp
   ·rw [List.mem_singleton.1 hp];exact hk⟩
  rw [List.map_append,List.map_cons,List.map_nil,fA,mq,show eu (e,t,fr)=bk (bk (sl bf e.reads.v t.reads) (sl bf e.cells_.v t.cells)) (sl bg e.frees.v fr) from rfl,fa,fa] at h
  show G w0 (sl fg u (l.map (·.1)++[e])::ob (cg eu) () l::sl bf e.reads.v t.reads::sl bf e.cells_.v t.cells::sl bg e.frees.v fr::M) F
  exact h.sub)
theorem F9 (ht:uR w0)(hn:x.now=some a)(hg:B0 a)(hp:x.past.length≤1000000)(hr:x.res.length≤1000000)(hm:x.limbo.length+x.rests.length≤80000)(hm2:x.sweep=false→a.freed.length≤1000)(ho:iQ x)(hj:x.job<x.jobs.length)(hl:x.jobs.length≤1000000)(hd:0≤draw)(hd2:draw≤255)[i:aq L gD b x C]
  (hK:∀sl_,uS a sl_→G w0 (C (ob gD b (lO x a draw pick sl_))) (K (.tuple #[]))):G w0 L (CP Tryz.prog V1 [ptr b 0,.int .u8 draw,i64 pick] K):=by
 refine i.useA (A':=fun z:{ s // uS a s }=>ob gD b (lO x a draw pick z.1)) (F':=fun _=>K (.tuple #[])) (fun M hK=>?_) (fun z=>hK z.1 z.2)
 have hK:=fun sl_ (h:uS a sl_)=>hK ⟨sl_,h⟩
 simp only at hK
 refine uI ?_
 unfold m5
 have h8:=hg.gone
 rw [dv]
 intro vj vn vp vr lp vt vs
 refine G.take1 mx vn ?_
 rw [hn,qV]
 intro p e
 subst e
 repeat' (first | (with_reducible refine G.joini0 ?_) | (with_reducible refine G.joini1 ?_) | (with_reducible refine G.drew ?_) | (simp (maxSteps:=2000000) only [↓RG,RP,RB,BEq.rfl,Int.reduceEq,Int.reduceLT,Int.reduceLE,Nat.reduceEqDiff]))
 refine G.pickAll (As:=[own b (x.cells vj (ptr p 0) vp vr lp vt vs),ob fG p a]) ?_
 simp only [List.cons_append,List.nil_append]
 refine yZ ht (x:=x) (pick:=pick) hg.tol fun r c f s hs=>?_
 refine G.take1 jy vp ?_
 rw [lz]
 intro l hll
 have hlen:(l.map (·.1)).length=x.past.length:=by rw [←hll.1];simp
 have hok:=M3 (x:=x) (pick:=pick) (r:=r) (c:=c) (f:=f) (s:=s) hg.tol
 repeat' (first | (with_reducible refine G.joini0 ?_) | (with_reducible refine G.joini1 ?_) | (with_reducible refine G.drew ?_) | (simp (maxSteps:=2000000) only [↓RG,RP,RB,BEq.rfl,Int.reduceEq,Int.reduceLT,Int.reduceLE,Nat.reduceEqDiff]))
 refine G.build fg [pj x a pick r c f s] rfl (by decide) rfl fun u6 h6=>?_
 repeat' (first | (with_reducible refine G.joini0 ?_) | (with_reducible refine G.joini1 ?_) | (with_reducible refine G.drew ?_) | (simp (maxSteps:=2000000) only [↓RG,RP,RB,BEq.rfl,Int.reduceEq,Int.reduceLT,Int.reduceLE,Nat.reduceEqDiff]))
 refine G.append (E:=fg) (xs:=l.map (fun z:gd=>z.1)) (ys:=[pj x a pick r c f s]) (by simp only [hlen,List.length_singleton];omega) (by simp only [hlen,List.length_singleton,maxLen];omega) fun u5 h5=>?_
 repeat' (first | (with_reducible refine G.joini0 ?_) | (with_reducible refine G.joini1 ?_) | (with_reducible refine G.drew ?_) | (simp (maxSteps:=2000000) only [↓RG,RP,RB,BEq.rfl,Int.reduceEq,Int.reduceLT,Int.reduceLE,Nat.reduceEqDiff]))
 refine ic (x:=a) ?_
 rw [if_pos h8]
 have hjo:∀z:co,z.job=x.job→z.jobs=x.jobs→z.rests=x.rests→iQ z:=fun z e1 e2 e3=>⟨by rw [e1];exact ho.lo,by rw [e1,e2];exact ho.hi,by rw [e2];exact ho.progs,by rw [e3];exact ho.rests⟩
 have hclose:∀(z:co) (J:World→Prop),z.jobs=x.jobs→z.now=x.now→z.past=x.past++[gh a x.born pick]→z.res=x.res→z.limbo=x.limbo→z.rests=x.rests→z.slots=x.slots→G w0 (ob gD b z::M) J →
   G w0 (own b (z.cells vj (ptr p 0) u5 vr lp vt vs)::sl fg u5 (l.map (·.1)++[pj x a pick r c f s])::ob (cg eu) () l::sl bf r.v a.v.k::sl bf c.v (if a.done then a.v.l.cells else [])::sl bg f.v a.freed::ob fG p a::ob i7 vj x.jobs::sl iw vr x.res::ob (kj ck) lp x.limbo::sl ck vt x.rests::sl cx vs x.slots::M) J:=fun z J e1 e2 e3 e4 e5 e6 e7 h=>by
  refine Cr u5 l (pj x a pick r c f s) (gh a x.born pick) a.freed hll hok ?_
  refine i4 p a ?_
  rw [←hn,←e1,←e2,←e3,←e4,←e5,←e6,←e7]
  refine bv b z vj (ptr p 0) u5 vr lp vt vs ?_
  exact h
 unfold lO at hK
 by_cases c5:a.fin=5
 ·simp only [if_pos c5] at hK
  repeat' (first | (with_reducible refine G.joini0 ?_) | (with_reducible refine G.joini1 ?_) | (with_reducible refine G.drew ?_) | (simp (maxSteps:=2000000) only [↓RG,RP,RB,BEq.rfl,Int.reduceEq,Int.reduceLT,Int.reduceLE,Nat.reduceEqDiff,eq_true c5]))
  refine p6 (x:=a) ?_
  rw [if_pos h8]
  by_cases cb:0≤a.by_∧a.by_<x.s.threads
  ·simp only [if_pos cb] at hK
   refine gu ?_
   repeat' (first | (with_reducible refine G.joini0 ?_) | (with_reducible refine G.joini1 ?_) | (with_reducible refine G.drew ?_) | (simp (maxSteps:=2000000) only [↓RG,RP,RB,BEq.rfl,Int.reduceEq,Int.reduceLT,Int.reduceLE,Nat.reduceEqDiff,eq_true cb.1]))
   refine p6 (x:=a) ?_
   rw [if_pos h8]
   repeat' (first | (with_reducible refine G.joini0 ?_) | (with_reducible refine G.joini1 ?_) | (with_reducible refine G.drew ?_) | (simp (maxSteps:=2000000) only [↓RG,RP,RB,BEq.rfl,Int.reduceEq,Int.reduceLT,Int.reduceLE,Nat.reduceEqDiff,eq_true cb.2]))
   refine p6 (x:=a) ?_
   rw [if_pos h8]
   repeat' (first | (with_reducible refine G.joini0 ?_) | (with_reducible refine G.joini1 ?_) | (with_reducible refine G.drew ?_) | (simp (maxSteps:=2000000) only [↓RG,RP,RB,BEq.rfl,Int.reduceEq,Int.reduceLT,Int.reduceLE,Nat.reduceEqDiff]))
   exact(hclose { x with past:=x.past++[gh a x.born pick],tries:=IntKind.wrap .i64 (x.tries+1),conf:=IntKind.wrap .i64 (x.conf+1),state:=2,by_:=a.by_,yld:=false } _ rfl rfl rfl rfl rfl rfl rfl (hK s hs)).sub
  ·simp only [if_neg cb] at hK
   have hp2:G w0 (own b (co.cells { x with past:=x.past++[gh a x.born pick],tries:=IntKind.wrap .i64 (x.tries+1),conf:=IntKind.wrap .i64 (x.conf+1) } vj (ptr p 0) u5 vr lp vt vs)::sl fg u5 (l.map (·.1)++[pj x a pick r c f s])::ob (cg eu) () l::sl bf r.v a.v.k::sl bf c.v (if a.done then a.v.l.cells else [])::sl bg f.v a.freed::ob fG p a::ob i7 vj x.jobs::sl iw vr x.res::ob (kj ck) lp x.limbo::sl ck vt x.rests::sl cx vs x.slots::M)
     (CP Tryz.prog Vj [ptr b 0,.int .u8 draw] (fun x55=>K (.tuple #[]))):=by
    refine hclose { x with past:=x.past++[gh a x.born pick],tries:=IntKind.wrap .i64 (x.tries+1),conf:=IntKind.wrap .i64 (x.conf+1) } _ rfl rfl rfl rfl rfl rfl rfl ?_
    refine xe (x:={ x with past:=x.past++[gh a x.born pick],tries:=IntKind.wrap .i64 (x.tries+1),conf:=IntKind.wrap .i64 (x.conf+1) }) (hjo _ rfl rfl rfl) hd hd2 ?_
    exact hK s hs
   refine gu ?_
   by_cases cb0:0≤a.by_
   ·have cb1:¬a.by_<x.s.threads:=fun h=>cb ⟨cb0,h⟩
    repeat' (first | (with_reducible refine G.joini0 ?_) | (with_reducible refine G.joini1 ?_) | (with_reducible refine G.drew ?_) | (simp (maxSteps:=2000000) only [↓RG,RP,RB,BEq.rfl,Int.reduceEq,Int.reduceLT,Int.reduceLE,Nat.reduceEqDiff,eq_true cb0]))
    refine p6 (x:=a) ?_
    rw [if_pos h8]
    repeat' (first | (with_reducible refine G.joini0 ?_) | (with_reducible refine G.joini1 ?_) | (with_reducible refine G.drew ?_) | (simp (maxSteps:=2000000) only [↓RG,RP,RB,BEq.rfl,Int.reduceEq,Int.reduceLT,Int.reduceLE,Nat.reduceEqDiff,cb1]))
    exact hp2.sub
   ·repeat' (first | (with_reducible refine G.joini0 ?_) | (with_reducible refine G.joini1 ?_) | (with_reducible refine G.drew ?_) | (simp (maxSteps:=2000000) only [↓RG,RP,RB,BEq.rfl,Int.reduceEq,Int.reduceLT,Int.reduceLE,Nat.reduceEqDiff,cb0]))
    exact hp2.sub
 ·simp only [if_neg c5] at hK
  repeat' (first | (with_reducible refine G.joini0 ?_) | (with_reducible refine G.joini1 ?_) | (with_reducible refine G.drew ?_) | (simp (maxSteps:=2000000) only [↓RG,RP,RB,BEq.rfl,Int.reduceEq,Int.reduceLT,Int.reduceLE,Nat.reduceEqDiff,c5]))
  refine ic (x:=a) ?_
  rw [if_pos h8]
  by_cases h3:a.fin=3
  ·simp only [if_pos h3] at hK
   repeat' (first | (with_reducible refine G.joini0 ?_) | (with_reducible refine G.joini1 ?_) | (with_reducible refine G.drew ?_) | (simp (maxSteps:=2000000) only [↓RG,RP,RB,BEq.rfl,Int.reduceEq,Int.reduceLT,Int.reduceLE,Nat.reduceEqDiff,eq_true h3]))
   refine G.cond (fun ha=>?_) (fun ha=>?_)
   rotate_left
   ·simp only [if_neg (show ¬x.alarm=true by rw [ha];decide)] at hK
    repeat' (first | (with_reducible refine G.joini0 ?_) | (with_reducible refine G.joini1 ?_) | (with_reducible refine G.drew ?_) | (simp (maxSteps:=2000000) only [↓RG,RP,RB,BEq.rfl,Int.reduceEq,Int.reduceLT,Int.reduceLE,Nat.reduceEqDiff]))
    exact(hclose { x with past:=x.past++[gh a x.born pick],tries:=IntKind.wrap .i64 (x.tries+1),state:=4 } _ rfl rfl rfl rfl rfl rfl rfl (hK s hs)).sub
   ·simp only [if_pos ha] at hK
    refine G.sub (hclose { x with past:=x.past++[gh a x.born pick],tries:=IntKind.wrap .i64 (x.tries+1) } _ rfl rfl rfl rfl rfl rfl rfl ?_)
    refine iE (x:={ x with past:=x.past++[gh a x.born pick],tries:=IntKind.wrap .i64 (x.tries+1) }) (hjo _ rfl rfl rfl) ?_
    repeat' (first | (with_reducible refine G.joini0 ?_) | (with_reducible refine G.joini1 ?_) | (with_reducible refine G.drew ?_) | (simp (maxSteps:=2000000) only [↓RG,RP,RB,BEq.rfl,Int.reduceEq,Int.reduceLT,Int.reduceLE,Nat.reduceEqDiff]))
    exact hK s hs
  simp only [if_neg h3] at hK
  repeat' (first | (with_reducible refine G.joini0 ?_) | (with_reducible refine G.joini1 ?_) | (with_reducible refine G.drew ?_) | (simp (maxSteps:=2000000) only [↓RG,RP,RB,BEq.rfl,Int.reduceEq,Int.reduceLT,Int.reduceLE,Nat.reduceEqDiff,h3]))
  refine G.cond (fun hsw=>?_) (fun hsw=>?_)
  ·simp only [if_pos hsw] at hK
   refine ic (x:=a) ?_
   rw [if_pos h8]
   refine G.sub (hclose { x with past:=x.past++[gh a x.born pick],tries:=IntKind.wrap .i64 (x.tries+1) } _ rfl rfl rfl rfl rfl rfl rfl ?_)
   refine F4 (x:={ x with past:=x.past++[gh a x.born pick],tries:=IntKind.wrap .i64 (x.tries+1) }) (hjo _ rfl rfl rfl) hj hl (by show x.limbo.length+x.rests.length≤_;omega) ?_
   repeat' (first | (with_reducible refine G.joini0 ?_) | (with_reducible refine G.joini1 ?_) | (with_reducible refine G.drew ?_) | (simp (maxSteps:=2000000) only [↓RG,RP,RB,BEq.rfl,Int.reduceEq,Int.reduceLT,Int.reduceLE,Nat.reduceEqDiff]))
   exact hK s hs
  ·simp only [if_neg (show ¬x.sweep=true by rw [hsw];decide)] at hK
   have hfr:=hm2 hsw
   repeat' (first | (with_reducible refine G.joini0 ?_) | (with_reducible refine G.joini1 ?_) | (with_reducible refine G.drew ?_) | (simp (maxSteps:=2000000) only [↓RG,RP,RB,BEq.rfl,Int.reduceEq,Int.reduceLT,Int.reduceLE,Nat.reduceEqDiff]))
   refine ic (x:=a) ?_
   rw [if_pos h8]
   repeat' (first | (with_reducible refine G.joini0 ?_) | (with_reducible refine G.joini1 ?_) | (with_reducible refine G.drew ?_) | (simp (maxSteps:=2000000) only [↓RG,RP,RB,BEq.rfl,Int.reduceEq,Int.reduceLT,Int.reduceLE,Nat.reduceEqDiff]))
   refine zp (x:=a) ?_
   rw [if_pos h8]
   repeat' (first | (with_reducible refine G.joini0 ?_) | (with_reducible refine G.joini1 ?_) | (with_reducible refine G.drew ?_) | (simp (maxSteps:=2000000) only [↓RG,RP,RB,BEq.rfl,Int.reduceEq,Int.reduceLT,Int.reduceLE,Nat.reduceEqDiff]))
   refine ut ht (x:=a) hg.items fun s2 hs2=>?_
   repeat' (first | (with_reducible refine G.joini0 ?_) | (with_reducible refine G.joini1 ?_) | (with_reducible refine G.drew ?_) | (simp (maxSteps:=2000000) only [↓RG,RP,RB,BEq.rfl,Int.reduceEq,Int.reduceLT,Int.reduceLE,Nat.reduceEqDiff]))
   refine pp (x:=a) ?_
   repeat' (first | (with_reducible refine G.joini0 ?_) | (with_reducible refine G.joini1 ?_) | (with_reducible refine G.drew ?_) | (simp (maxSteps:=2000000) only [↓RG,RP,RB,BEq.rfl,Int.reduceEq,Int.reduceLT,Int.reduceLE,Nat.reduceEqDiff]))
   refine G.build iw [⟨a.fin,a.err,s2,a.stamp⟩] rfl (by decide) rfl fun u7 h7=>?_
   repeat' (first | (with_reducible refine G.joini0 ?_) | (with_reducible refine G.joini1 ?_) | (with_reducible refine G.drew ?_) | (simp (maxSteps:=2000000) only [↓RG,RP,RB,BEq.rfl,Int.reduceEq,Int.reduceLT,Int.reduceLE,Nat.reduceEqDiff]))
   refine G.append (E:=iw) (xs:=x.res) (ys:=[⟨a.fin,a.err,s2,a.stamp⟩]) (by simp only [List.length_singleton];omega) (by simp only [List.length_singleton,maxLen];omega) fun u8 h8'=>?_
   repeat' (first | (with_reducible refine G.joini0 ?_) | (with_reducible refine G.joini1 ?_) | (with_reducible refine G.drew ?_) | (simp (maxSteps:=2000000) only [↓RG,RP,RB,BEq.rfl,Int.reduceEq,Int.reduceLT,Int.reduceLE,Nat.reduceEqDiff]))
   refine pp (x:=a) ?_
   repeat' (first | (with_reducible refine G.joini0 ?_) | (with_reducible refine G.joini1 ?_) | (with_reducible refine G.drew ?_) | (simp (maxSteps:=2000000) only [↓RG,RP,RB,BEq.rfl,Int.reduceEq,Int.reduceLT,Int.reduceLE,Nat.reduceEqDiff]))
   refine uC (x:=a) (fun h=>by have:=hg.frees h;omega) (by have:=hg.blocks;omega) fun f2=>?_
   repeat' (first | (with_reducible refine G.joini0 ?_) | (with_reducible refine G.joini1 ?_) | (with_reducible refine G.drew ?_) | (simp (maxSteps:=2000000) only [↓RG,RP,RB,BEq.rfl,Int.reduceEq,Int.reduceLT,Int.reduceLE,Nat.reduceEqDiff]))
   refine rx (xs:=x.limbo) (bs:=a.freed) (by omega) ?_
   repeat' (first | (with_reducible refine G.joini0 ?_) | (with_reducible refine G.joini1 ?_) | (with_reducible refine G.drew ?_) | (simp (maxSteps:=2000000) only [↓RG,RP,RB,BEq.rfl,Int.reduceEq,Int.reduceLT,Int.reduceLE,Nat.reduceEqDiff]))
   refine Cr u5 l (pj x a pick r c f s) (gh a x.born pick) a.freed hll hok ?_
   refine i4 p a ?_
   rw [←hn]
   refine bv b { x with past:=x.past++[gh a x.born pick],tries:=IntKind.wrap .i64 (x.tries+1),res:=x.res++[⟨a.fin,a.err,s2,a.stamp⟩],limbo:=x.limbo++a.freed.map fun n=>⟨n,a.stamp⟩ } vj (ptr p 0) u5 u8 lp vt vs ?_
   refine GC (x:={ x with past:=x.past++[gh a x.born pick],tries:=IntKind.wrap .i64 (x.tries+1),res:=x.res++[⟨a.fin,a.err,s2,a.stamp⟩],limbo:=x.limbo++a.freed.map fun n=>⟨n,a.stamp⟩ }) (hjo _ rfl rfl rfl) hj hl (by simp only [List.length_append,List.length_map];omega) ?_
   repeat' (first | (with_reducible refine G.joini0 ?_) | (with_reducible refine G.joini1 ?_) | (with_reducible refine G.drew ?_) | (simp (maxSteps:=2000000) only [↓RG,RP,RB,BEq.rfl,Int.reduceEq,Int.reduceLT,Int.reduceLE,Nat.reduceEqDiff]))
   exact(hK s2 hs2).sub
end
end Go.Proofs.YtoealglbimbbmaaGreatDoor.S
