import Derived.Test.YtoealglbimbbmaaGreatDoorOAttT
namespace Go.Proofs.YtoealglbimbbmaaGreatDoor.S
open Go Go.Proofs
set_option linter.unusedVariables false
set_option linter.unusedSimpArgs false
def cg {α:Type}(f:α→ay)(_:Unit)(l:List α):ay:=da (l.map f)
section
variable {α:Type}{f:α→ay}{w0:bh}{L M:List ay}{F:World→Prop}{l:List α}{x:α}{k:Nat}
theorem kO (h:l[k]? = some x):G w0 (ob (cg f) () l::M) F=G w0 (f x::ob (cg f) () (l.eraseIdx k)::M) F:=dm (by
 show bk (ob (cg f) () l) (da M)=bk (f x) (bk (ob (cg f) () (l.eraseIdx k)) (da M))
 rw [eZ (cg f),eZ (cg f),cg,Ln _ h,←DZ];rfl)
theorem ml:G w0 (ob (cg f) () (l++[x])::M) F=G w0 (f x::ob (cg f) () l::M) F:=by
 rw [kO (k:=l.length) (x:=x) (by simp)]
 congr 3
 simp [List.eraseIdx_append_of_length_le]
theorem nO (H:G w0 (ob (cg f) () []::M) F):G w0 M F:=by
 have:G w0 (ob (cg f) () []::M) F=G w0 (Lj::M) F:=by
  rw [eZ];rfl
 rw [this,J8] at H
 exact H
end
abbrev pi (p:lA×List bu):ay:=sl du p.1.v p.2
def i5 (v:Value)(jobs:List (List bu)):ay:=m3 fun l:List (lA×List bu)=>bk (ic (l.map (·.2)=jobs)) (bk (sl fj v (l.map (·.1))) (ob (cg pi) () l))
abbrev gi:Type:=sV×Ta×List Int
abbrev em (p:gi):ay:=bk (bk (sl bf p.1.reads.v p.2.1.reads) (sl bf p.1.cells_.v p.2.1.cells)) (sl bg p.1.frees.v p.2.2)
structure sJ (p:gi):Prop where
 stamp:p.1.stamp=p.2.1.stamp
 done:decide (p.1.kind=2)=p.2.1.done
 born:p.1.born=p.2.1.born
 ended:p.1.ended=p.2.1.ended
 reads:p.2.1.reads.length≤1000
 cells:p.2.1.cells.length≤1000
 frees:p.2.2.length≤100000
def jw (v:Value)(l:List Ta):ay:=m3 fun q:List gi=>bk (ic (q.map (·.2.1)=l∧∀p∈q,sJ p)) (bk (sl fg v (q.map (·.1))) (ob (cg em) () q))
def mu (v:Value):Option bq→ay
 | none=>ic (v=.pointer none)
 | some a=>m3 fun p=>bk (ic (v=ptr p 0)) (ob fH p a)
abbrev co.cells (x:co)(vj vn vp vr:Value)(lp:Nat)(vt vs:Value):List Value:=[i64 x.me,i64 x.s.words,i64 x.s.stripes,i64 x.s.wide,i64 x.s.threads,u64 x.s.start,i64 x.s.spins,i64 x.s.writes,i64 x.s.fuel,vj,i64 x.job,i64 x.state,.bool x.sweep,vt,i64 x.tries,i64 x.conf,vn,i64 x.born,.bool x.alarm,vp,vr,ptr lp 0,vs,i64 x.by_,u64 x.since,.bool x.yld,i64 x.pauses]
def gD (b:Nat)(x:co):ay:=m3 fun vj=>m3 fun vn=>m3 fun vp=>m3 fun vr=>m3 fun lp=>m3 fun vt=>m3 fun vs=>bk (bk (bk (bk (bk (bk (bk (own b (x.cells vj vn vp vr lp vt vs)) (ob i5 vj x.jobs)) (ob mu vn x.now)) (ob jw vp x.past)) (sl iB vr x.res)) (ob (kq ck) lp x.limbo)) (sl ck vt x.rests)) (sl cx vs x.slots)
section
variable {w0:bh}{L M:List ay}{K:KV}{F:World→Prop}{C:ay→List ay}{b lp p:Nat}{x:co}{v vj vn vp vr vt vs:Value}{a:bq}{jobs:List (List bu)}
theorem dw:G w0 (ob gD b x::M) F=∀vj vn vp vr lp vt vs,G w0 (own b (x.cells vj vn vp vr lp vt vs)::ob i5 vj x.jobs::ob mu vn x.now::ob jw vp x.past::sl iB vr x.res::ob (kq ck) lp x.limbo::sl ck vt x.rests::sl cx vs x.slots::M) F:=by
 rw [eZ,gD]
 simp only [qr,fb]
theorem bv (b:Nat)(x:co)(vj vn vp vr:Value)(lp:Nat)(vt vs:Value) [ez [own b (x.cells vj vn vp vr lp vt vs),ob i5 vj x.jobs,ob mu vn x.now,ob jw vp x.past,sl iB vr x.res,ob (kq ck) lp x.limbo,sl ck vt x.rests,sl cx vs x.slots] L M](H:G w0 (ob gD b x::M) F):G w0 L F :=
 G.pickAll (As:=[own b (x.cells vj vn vp vr lp vt vs),ob i5 vj x.jobs,ob mu vn x.now,ob jw vp x.past,sl iB vr x.res,ob (kq ck) lp x.limbo,sl ck vt x.rests,sl cx vs x.slots]) (by rw [dw] at H;exact H vj vn vp vr lp vt vs)
theorem Ef:G w0 (ob mu vn none::M) F=(vn=.pointer none→G w0 M F):=by rw [eZ,mu];simp only [fU]
theorem qK:G w0 (ob mu vn (some a)::M) F=∀p,vn=ptr p 0→G w0 (ob fH p a::M) F:=by rw [eZ,mu];simp only [qr,fb,fU]
theorem i7 (p:Nat)(a:bq) [ez [ob fH p a] L M](H:G w0 (ob mu (ptr p 0) (some a)::M) F):G w0 L F :=
 G.pickAll (As:=[ob fH p a]) (by rw [qK] at H;exact H p rfl)
theorem Mz (H:G w0 (ob mu (.pointer none) none::M) F):G w0 M F:=by rw [Ef] at H;exact H rfl
theorem tf:G w0 (ob i5 v jobs::M) F=∀l:List (lA×List bu),l.map (·.2)=jobs→G w0 (sl fj v (l.map (·.1))::ob (cg pi) () l::M) F:=by
 rw [eZ,i5]
 simp only [qr,fb,fU]
theorem xG (v:Value)(l:List (lA×List bu)) [ez [sl fj v (l.map (·.1)),ob (cg pi) () l] L M](H:G w0 (ob i5 v (l.map (·.2))::M) F):G w0 L F :=
 G.pickAll (As:=[sl fj v (l.map (·.1)),ob (cg pi) () l]) (by rw [tf] at H;exact H l rfl)
theorem lj {l:List Ta}:G w0 (ob jw v l::M) F=∀q:List gi,(q.map (·.2.1)=l∧∀p∈q,sJ p)→G w0 (sl fg v (q.map (·.1))::ob (cg em) () q::M) F:=by
 rw [eZ,jw]
 simp only [qr,fb,fU]
theorem Qu {l:List (lA×List bu)}{k:Nat}{q:lA×List bu}(h:l[k]? = some q):Rd w0 (ob (cg pi) () l::M) q.1.v du 5 q.2:=⟨rfl,fun w H=>by
 have e:G w0 (ob (cg pi) () l::M) (fun w=>fz du w q.1.v q.2):=by
  rw [kO h]
  exact fun w H=>St.sl_is H
 exact e w H⟩
theorem iu (ho:iM x)[i:aq L gD b x C](hK:G w0 (C (ob gD b (gh x))) (K (.tuple #[]))):G w0 L (CP Tryz.prog Fn.thread_Thread_again [ptr b 0] K):=by
 refine i.use (fun M hK=>?_) hK
 refine uL ?_
 unfold mW
 obtain⟨h1,h2,h3,hrs⟩:=ho
 obtain⟨k,hk⟩:=Int.eq_ofNat_of_zero_le h1
 unfold gh at hK
 rw [dw]
 intro vj vn vp vr lp vt vs
 refine G.take1 i5 vj ?_
 rw [tf]
 intro l hl
 have hlen:(l.map (·.1)).length=x.jobs.length:=by rw [←hl];simp
 have hkt:x.job.toNat=k:=by omega
 rw [hkt] at hK
 by_cases hc:k=x.jobs.length
 ·have hn:x.jobs[k]? = none:=by rw [hc];simp
  rw [hn] at hK
  have ec:(x.job=(((l.map (·.1)).length:Nat):Int))=True:=by rw [hk,hlen,hc];simp
  repeat' (first | (with_reducible refine G.joini0 ?_) | (with_reducible refine G.joini1 ?_) | (with_reducible refine G.drew ?_) | (simp (maxSteps:=2000000) only [↓RG,RP,RB,BEq.rfl,Int.reduceEq,Int.reduceLT,Int.reduceLE,Nat.reduceEqDiff,ec]))
  refine xG vj l ?_
  rw [hl]
  refine G.take1 mu vn ?_
  refine G.drop ?_
  refine Mz ?_
  refine bv b { x with born:=0,alarm:=false,now:=none,state:=6 } vj (.pointer none) vp vr lp vt vs ?_
  exact hK
 ·have hlt:k<x.jobs.length:=by omega
  have hll:k<l.length:=by rw [←hl] at hlt;simpa using hlt
  have hn:x.jobs[k]? = some x.jobs[k]:=List.getElem?_eq_getElem hlt
  have hq:(l[k]).2=x.jobs[k]:=by
   have:x.jobs[k]? = (l.map (·.2))[k]?:=by rw [hl]
   rw [hn,List.getElem?_map,List.getElem?_eq_getElem hll] at this
   simpa using this.symm
  rw [hn] at hK
  simp only at hK
  have ec:(x.job=(((l.map (·.1)).length:Nat):Int))=False:=by rw [hk,hlen];simp only [Int.ofNat_inj,eq_iff_iff,iff_false];exact hc
  repeat' (first | (with_reducible refine G.joini0 ?_) | (with_reducible refine G.joini1 ?_) | (with_reducible refine G.drew ?_) | (simp (maxSteps:=2000000) only [↓RG,RP,RB,BEq.rfl,Int.reduceEq,Int.reduceLT,Int.reduceLE,Nat.reduceEqDiff,ec]))
  refine G.cond (fun hsw=>?_) (fun hsw=>?_)
  rotate_left
  ·rw [if_neg (by rw [hsw];decide)] at hK
   have e:eU (l.map (·.1)) k l[k].1:=⟨by rw [List.getElem?_map,List.getElem?_eq_getElem hll];rfl⟩
   have hx:ii x.job k:=⟨hk⟩
   repeat' (first | (with_reducible refine G.joini0 ?_) | (with_reducible refine G.joini1 ?_) | (with_reducible refine G.drew ?_) | (simp (maxSteps:=2000000) only [↓RG,RP,RB,BEq.rfl,Int.reduceEq,Int.reduceLT,Int.reduceLE,Nat.reduceEqDiff]))
   refine G.take1 (cg pi) () ?_
   have r:=fun M:List ay=>Qu (w0:=w0) (M:=M) (List.getElem?_eq_getElem hll)
   have r2:=r (sl fj vj (l.map (·.1))::own b [i64 x.me,i64 x.s.words,i64 x.s.stripes,i64 x.s.wide,i64 x.s.threads,u64 x.s.start,i64 x.s.spins,i64 x.s.writes,i64 x.s.fuel,vj,i64 x.job,i64 x.state,.bool x.sweep,vt,i64 x.tries,i64 x.conf,vn,i64 0,.bool false,vp,vr,ptr lp 0,vs,i64 x.by_,u64 x.since,.bool x.yld,i64 x.pauses]::ob mu vn x.now::ob jw vp x.past::sl iB vr x.res::ob (kq ck) lp x.limbo::sl ck vt x.rests::sl cx vs x.slots::M)
   refine GI (s:=x.s) (p:=l[k].2) (be (a:=l[k].1.a) (n:=l[k].1.n) (c:=l[k].1.c)) (by rw [hq];have:=h3 _ (List.getElem_mem hlt);omega) fun p=>?_
   rw [hq]
   repeat' (first | (with_reducible refine G.joini0 ?_) | (with_reducible refine G.joini1 ?_) | (with_reducible refine G.drew ?_) | (simp (maxSteps:=2000000) only [↓RG,RP,RB,BEq.rfl,Int.reduceEq,Int.reduceLT,Int.reduceLE,Nat.reduceEqDiff]))
   refine xG vj l ?_
   rw [hl]
   refine G.take1 mu vn ?_
   refine G.drop ?_
   refine i7 p (kN x.me x.s x.jobs[k]) ?_
   refine bv b { x with born:=0,alarm:=false,now:=some (kN x.me x.s x.jobs[k]),state:=1 } vj (ptr p 0) vp vr lp vt vs ?_
   exact hK
  ·rw [if_pos hsw] at hK
   repeat' (first | (with_reducible refine G.joini0 ?_) | (with_reducible refine G.joini1 ?_) | (with_reducible refine G.drew ?_) | (simp (maxSteps:=2000000) only [↓RG,RP,RB,BEq.rfl,Int.reduceEq,Int.reduceLT,Int.reduceLE,Nat.reduceEqDiff]))
   refine G.nilsl bg ?_
   refine G.loop2 (σ:=Nat×Value) (fun z=>z.2) (fun z=>i64 z.1) (fun z=>sl bg z.2 ((x.rests.take z.1).map (·.place))::sl fj vj (l.map (·.1))::ob (cg pi) () l::own b [i64 x.me,i64 x.s.words,i64 x.s.stripes,i64 x.s.wide,i64 x.s.threads,u64 x.s.start,i64 x.s.spins,i64 x.s.writes,i64 x.s.fuel,vj,i64 x.job,i64 x.state,.bool x.sweep,vt,i64 x.tries,i64 x.conf,vn,i64 0,.bool false,vp,vr,ptr lp 0,vs,i64 x.by_,u64 x.since,.bool x.yld,i64 x.pauses]::ob mu vn x.now::ob jw vp x.past::sl iB vr x.res::ob (kq ck) lp x.limbo::sl ck vt x.rests::sl cx vs x.slots::M) (fun z=>z.1≤x.rests.length∧ar z.2 [z.2]) (fun z=>x.rests.length-z.1) (0,.slice none 0 0) rfl rfl (by simp) ⟨Nat.zero_le _,be⟩ ?_
   rintro⟨j,u⟩ ⟨hj,hu⟩ J hJ
   simp only at hj hu hJ ⊢
   try simp (maxSteps:=2000000) only [↓RG,RP,RB,BEq.rfl,Int.reduceEq,Int.reduceLT,Int.reduceLE,Nat.reduceEqDiff]
   refine G.cond (fun h=>?_) (fun h=>?_)
   ·have hj2:j<x.rests.length:=by simpa using h
    have e:=ct hj2
    have hlt2:((x.rests.take j).map (·.place)).length=j:=by simp;omega
    repeat' (first | (with_reducible refine G.joini0 ?_) | (with_reducible refine G.joini1 ?_) | (with_reducible refine G.drew ?_) | (simp (maxSteps:=2000000) only [↓RG,RP,RB,BEq.rfl,Int.reduceEq,Int.reduceLT,Int.reduceLE,Nat.reduceEqDiff]))
    refine G.new fun q=>?_
    repeat' (first | (with_reducible refine G.joini0 ?_) | (with_reducible refine G.joini1 ?_) | (with_reducible refine G.drew ?_) | (simp (maxSteps:=2000000) only [↓RG,RP,RB,BEq.rfl,Int.reduceEq,Int.reduceLT,Int.reduceLE,Nat.reduceEqDiff]))
    refine G.build bg [x.rests[j].place] rfl (by decide) rfl fun y hy=>?_
    repeat' (first | (with_reducible refine G.joini0 ?_) | (with_reducible refine G.joini1 ?_) | (with_reducible refine G.drew ?_) | (simp (maxSteps:=2000000) only [↓RG,RP,RB,BEq.rfl,Int.reduceEq,Int.reduceLT,Int.reduceLE,Nat.reduceEqDiff]))
    refine G.append (E:=bg) (xs:=(x.rests.take j).map fun z:oX=>z.place) (ys:=[x.rests[j].place]) (by simp only [hlt2,List.length_singleton];omega) (by simp only [hlt2,List.length_singleton,maxLen];omega) fun u5 h5=>?_
    repeat' (first | (with_reducible refine G.joini0 ?_) | (with_reducible refine G.joini1 ?_) | (with_reducible refine G.drew ?_) | (simp (maxSteps:=2000000) only [↓RG,RP,RB,BEq.rfl,Int.reduceEq,Int.reduceLT,Int.reduceLE,Nat.reduceEqDiff]))
    rw [di (by omega)]
    have hn:=hJ (j+1,u5) ⟨hj2,h5⟩ (by simp only;omega)
    simp only [List.take_succ_eq_append_getElem hj2,List.map_append,List.map_cons,List.map_nil] at hn
    exact hn.sub
   ·have hj2:j=x.rests.length:=by
     have:¬j<x.rests.length:=by simpa using h
     omega
    subst hj2
    rw [List.take_length]
    repeat' (first | (with_reducible refine G.joini0 ?_) | (with_reducible refine G.joini1 ?_) | (with_reducible refine G.drew ?_) | (simp (maxSteps:=2000000) only [↓RG,RP,RB,BEq.rfl,Int.reduceEq,Int.reduceLT,Int.reduceLE,Nat.reduceEqDiff]))
    refine Dz (s:=x.s) (bs:=x.rests.map fun z:oX=>z.place) (by rw [List.length_map];omega) fun p=>?_
    repeat' (first | (with_reducible refine G.joini0 ?_) | (with_reducible refine G.joini1 ?_) | (with_reducible refine G.drew ?_) | (simp (maxSteps:=2000000) only [↓RG,RP,RB,BEq.rfl,Int.reduceEq,Int.reduceLT,Int.reduceLE,Nat.reduceEqDiff]))
    refine xG vj l ?_
    rw [hl]
    refine G.take1 mu vn ?_
    refine G.drop ?_
    refine i7 p (iz x.me x.s (x.rests.map (·.place))) ?_
    refine bv b { x with born:=0,alarm:=false,now:=some (iz x.me x.s (x.rests.map (·.place))),state:=1 } vj (ptr p 0) vp vr lp vt vs ?_
    exact hK.sub
end
end Go.Proofs.YtoealglbimbbmaaGreatDoor.S
namespace Go.Proofs.YtoealglbimbbmaaGreatDoor.S
open Go Go.Proofs
set_option linter.unusedVariables false
set_option linter.unusedSimpArgs false
section
variable {w0:bh}{L M:List ay}{K:KV}{F:World→Prop}{C:ay→List ay}{b lp p:Nat}{x:co}{v vj vn vp vr vt vs:Value}{a:bq}{draw:Int}
theorem gG (ho:iM { x with job:=x.job+1,rests:=[] })(hl:x.jobs.length≤1000000)[i:aq L gD b x C](hK:G w0 (C (ob gD b (io x))) (K (.tuple #[]))):G w0 L (CP Tryz.prog Fn.thread_Thread_following [ptr b 0] K):=by
 refine i.use (fun M hK=>?_) hK
 refine q8 ?_
 unfold jR
 have hb:=ho.hi
 have hb2:=ho.lo
 simp only at hb hb2
 rw [dw]
 intro vj vn vp vr lp vt vs
 refine gg ?_
 rw [iA (n:=x.job+1) (by omega) (by omega)]
 refine G.nilsl ck ?_
 refine bv b { x with job:=x.job+1,sweep:=false,rests:=[],tries:=0,conf:=0 } vj vn vp vr lp (.slice none 0 0) vs ?_
 refine iu (x:={ x with job:=x.job+1,sweep:=false,rests:=[],tries:=0,conf:=0 }) ⟨ho.lo,ho.hi,ho.progs,by simp⟩ ?_
 repeat' (first | (with_reducible refine G.joini0 ?_) | (with_reducible refine G.joini1 ?_) | (with_reducible refine G.drew ?_) | (simp (maxSteps:=2000000) only [↓RG,RP,RB,BEq.rfl,Int.reduceEq,Int.reduceLT,Int.reduceLE,Nat.reduceEqDiff]))
 exact hK.sub
theorem vO (ho:iM x)(hd:0≤draw)(hd2:draw≤255)[i:aq L gD b x C](hK:G w0 (C (ob gD b (oK x draw))) (K (.tuple #[]))):G w0 L (CP Tryz.prog Fn.thread_Thread_pause [ptr b 0,.int .u8 draw] K):=by
 refine i.use (fun M hK=>?_) hK
 refine u4 ?_
 unfold mB
 rw [dw]
 intro vj vn vp vr lp vt vs
 have hf:(if (8:Int)<x.conf then 8 else x.conf)=vX x.conf:=rfl
 have hf8:vX x.conf≤8:=by unfold vX;split <;> omega
 refine eY hf ?_
 refine G.loop2 (fun k:Nat=>i64 (lW k)) (fun k:Nat=>i64 k) (fun k=>own b (x.cells vj vn vp vr lp vt vs)::ob i5 vj x.jobs::ob mu vn x.now::ob jw vp x.past::sl iB vr x.res::ob (kq ck) lp x.limbo::sl ck vt x.rests::sl cx vs x.slots::M) (fun k=>k≤(vX x.conf).toNat) (fun k=>(vX x.conf).toNat-k) 0 rfl rfl rfl (by simp) ?_
 intro k hk J hJ
 have hm:=K1 k
 refine gr ?_
 refine G.cond (fun h=>?_) (fun h=>?_)
 ·have hk2:k<(vX x.conf).toNat:=by simp at h;omega
  have h1:=hJ (k+1) hk2 (by omega)
  refine gr ?_
  rw [iA (n:=2*lW k) (by omega) (by omega),di (by omega)]
  exact h1
 ·have hk2:k=(vX x.conf).toNat:=by simp at h;omega
  have ne:iG (lW k+1):=⟨by omega⟩
  have e1:IntKind.wrap .i64 (lW k+1)=lW k+1:=iA (by omega) (by omega)
  unfold oK at hK
  have hpo:draw.tmod (lW k+1)=pU x.conf draw:=by rw [hk2]
  have ed:IntKind.wrap .i64 draw=draw:=iA (by omega) (by omega)
  by_cases h0:pU x.conf draw=0
  ·rw [if_pos h0] at hK
   rw [h0] at hpo
   refine gf (an ed (an e1 hpo)) ?_
   refine bv b { x with pauses:=0,state:=3 } vj vn vp vr lp vt vs ?_
   refine iu (x:={ x with pauses:=0,state:=3 }) ⟨ho.lo,ho.hi,ho.progs,ho.rests⟩ ?_
   repeat' (first | (with_reducible refine G.joini0 ?_) | (with_reducible refine G.joini1 ?_) | (with_reducible refine G.drew ?_) | (simp (maxSteps:=2000000) only [↓RG,RP,RB,BEq.rfl,Int.reduceEq,Int.reduceLT,Int.reduceLE,Nat.reduceEqDiff]))
   exact hK
  ·rw [if_neg h0] at hK
   refine gf (an ed (an e1 (an hpo h0))) ?_
   refine bv b { x with pauses:=pU x.conf draw,state:=3 } vj vn vp vr lp vt vs ?_
   exact hK
theorem Fq (ho:iM x)(hp:x.state=3→1≤x.pauses∧x.pauses≤100)[i:aq L gD b x C](hK:G w0 (C (ob gD b (ik x))) (K (.tuple #[]))):G w0 L (CP Tryz.prog Fn.thread_Thread_Pause [ptr b 0] K):=by
 refine i.use (fun M hK=>?_) hK
 refine uS ?_
 unfold mR
 rw [dw]
 intro vj vn vp vr lp vt vs
 unfold ik at hK
 by_cases h3:x.state=3
 ·rw [if_pos h3] at hK
  have hp:=hp h3
  have e:IntKind.wrap .i64 (x.pauses-1)=x.pauses-1:=iA (by omega) (by omega)
  by_cases h1:x.pauses=1
  ·rw [if_pos h1] at hK
   have e0:(x.pauses-1=0)=True:=eq_true (by omega)
   refine gf (an (eq_true h3) (an e e0)) ?_
   refine bv b { x with pauses:=x.pauses-1 } vj vn vp vr lp vt vs ?_
   refine iu (x:={ x with pauses:=x.pauses-1 }) ⟨ho.lo,ho.hi,ho.progs,ho.rests⟩ ?_
   rw [show x.pauses-1=0 by omega]
   exact hK
  ·rw [if_neg h1,dw] at hK
   have e0:(x.pauses-1=0)=False:=eq_false (by omega)
   refine gf (an (eq_true h3) (an e e0)) ?_
   exact hK vj vn vp vr lp vt vs
 ·rw [if_neg h3,dw] at hK
  refine gf h3 ?_
  exact hK vj vn vp vr lp vt vs
theorem FN {a:fG}(ho:iM x)(hd:0≤draw)(hd2:draw≤255)[i:aq L gD b x C](hK:G w0 (C (ob gD b (ti x a draw))) (K (.tuple #[]))):G w0 L (CP Tryz.prog Fn.thread_Thread_yield [ptr b 0,.agg (fG.cells a).toArray,.int .u8 draw] K):=by
 refine i.use (fun M hK=>?_) hK
 refine vi ?_
 unfold mw
 refine G.box fun q=>?_
 rw [fA]
 refine G.drew ?_
 unfold ti at hK
 have hpause:G w0 (ob gD b (oK x draw)::M) (K (.tuple #[]))→G w0 (ob gD b x::own q (fG.cells a)::M) (CP Tryz.prog Fn.thread_Thread_pause [ptr b 0,.int .u8 draw] (fun x32=>K (.tuple #[]))):=fun h=>vO (x:=x) ho hd hd2 h.sub
 refine gu ?_
 by_cases c1:a.err=0
 ·by_cases c2:a.word=0
  ·rw [if_neg (fun h=>h.2.1 c2)] at hK
   refine gf (an (eq_true c1) (eq_true c2)) ?_
   exact hpause hK
  ·rw [dw]
   intro vj vn vp vr lp vt vs
   cases hy:x.yld
   ·rw [if_pos ⟨c1,c2,.inl hy⟩,dw] at hK
    have hy2:(!x.yld)=true:=by rw [hy];rfl
    repeat' (first | (with_reducible refine G.joini0 ?_) | (with_reducible refine G.joini1 ?_) | (with_reducible refine G.drew ?_) | (simp (maxSteps:=2000000) only [↓RG,RP,RB,BEq.rfl,Int.reduceEq,Int.reduceLT,Int.reduceLE,Nat.reduceEqDiff,eq_true c1,c2,hy2]))
    exact(hK vj vn vp vr lp vt vs).sub
   ·have hy2:(!x.yld)=false:=by rw [hy];rfl
    by_cases c3:a.word=x.since
    ·rw [if_pos ⟨c1,c2,.inr c3⟩,dw] at hK
     repeat' (first | (with_reducible refine G.joini0 ?_) | (with_reducible refine G.joini1 ?_) | (with_reducible refine G.drew ?_) | (simp (maxSteps:=2000000) only [↓RG,RP,RB,BEq.rfl,Int.reduceEq,Int.reduceLT,Int.reduceLE,Nat.reduceEqDiff,eq_true c1,c2,hy2,eq_true c3]))
     exact(hK vj vn vp vr lp vt vs).sub
    ·rw [if_neg (fun h=>by rcases h.2.2 with h | h;rw [hy] at h;cases h;exact c3 h)] at hK
     refine gf (an (eq_true c1) (an c2 (an hy2 c3))) ?_
     refine bv b x vj vn vp vr lp vt vs ?_
     exact hpause hK
 ·rw [if_neg (fun h=>c1 h.1)] at hK
  refine gf c1 ?_
  exact hpause hK
theorem yU (ho:iM x)(hj:x.job<x.jobs.length)(hl:x.jobs.length≤1000000)(hs:x.slots.length≤10)(hm:x.limbo.length≤90000)[i:aq L gD b x C](hK:G w0 (C (ob gD b (rC x))) (K (.tuple #[]))):G w0 L (CP Tryz.prog Fn.thread_Thread_look [ptr b 0] K):=by
 refine i.use (fun M hK=>?_) hK
 refine vR ?_
 unfold pd
 have hj1:iM { x with job:=x.job+1,rests:=[] }:=⟨by have:=ho.lo;show 0≤x.job+1;omega,by show x.job+1≤x.jobs.length;omega,ho.progs,by simp⟩
 have key:∀vj vn vp vr lp vt vs2,G w0 (own b (x.cells vj vn vp vr lp vt vs2)::sl cx vs2 (fW x)::ob i5 vj x.jobs::ob mu vn x.now::ob jw vp x.past::sl iB vr x.res::ob (kq ck) lp x.limbo::sl ck vt x.rests::M)
   (ae (.bool (decide (((fW x).length:Int)<x.s.threads))) (K (.tuple #[])) (aw (ab (ptr b 21) fun x21=>ab (ptr b 22) fun x24=>CP Tryz.prog Fn.limbo_Limbo_Ripe [x21,x24] fun x25=>andP (andP (ac) (andP (ac) (ac))) (bp x25 fun x26=>aa .eql x26 (i64 0) fun x27=>ae x27 (CP Tryz.prog Fn.thread_Thread_following [ptr b 0] fun x28=>K (.tuple #[])) (ap [.bool false,.slice none 0 0,i64 0,i64 0] [(0,1,.bool true),(1,1,x25)] fun x29=>ag 4 (ptr b 12) x29 fun _=>CP Tryz.prog Fn.thread_Thread_again [ptr b 0] fun x33=>K (.tuple #[])))))):=by
  intro vj vn vp vr lp vt vs2
  unfold rC at hK
  have h11:(fW x).length≤11:=by
   show (if (x.slots.length:Int)=x.me then x.slots++[0] else x.slots).length≤11
   split
   ·simp only [List.length_append,List.length_singleton];omega
   ·omega
  generalize fW x=ss at hK h11
  by_cases c1:((ss.length:Nat):Int)<x.s.threads
  ·rw [if_pos c1] at hK
   repeat' (first | (with_reducible refine G.joini0 ?_) | (with_reducible refine G.joini1 ?_) | (with_reducible refine G.drew ?_) | (simp (maxSteps:=2000000) only [↓RG,RP,RB,BEq.rfl,Int.reduceEq,Int.reduceLT,Int.reduceLE,Nat.reduceEqDiff,eq_true c1]))
   refine bv b { x with slots:=ss } vj vn vp vr lp vt vs2 ?_
   exact hK
  ·rw [if_neg c1] at hK
   repeat' (first | (with_reducible refine G.joini0 ?_) | (with_reducible refine G.joini1 ?_) | (with_reducible refine G.drew ?_) | (simp (maxSteps:=2000000) only [↓RG,RP,RB,BEq.rfl,Int.reduceEq,Int.reduceLT,Int.reduceLE,Nat.reduceEqDiff,c1]))
   refine zM (xs:=x.limbo) (ss:=ss) (by omega) (by omega) fun u hu=>?_
   have hlr:=List.length_filter_le (fun r:oX=>ff ss r.stamp) x.limbo
   by_cases c2:x.limbo.filter (fun r=>ff ss r.stamp)=[]
   ·rw [if_pos c2] at hK
    rw [c2]
    repeat' (first | (with_reducible refine G.joini0 ?_) | (with_reducible refine G.joini1 ?_) | (with_reducible refine G.drew ?_) | (simp (maxSteps:=2000000) only [↓RG,RP,RB,BEq.rfl,Int.reduceEq,Int.reduceLT,Int.reduceLE,Nat.reduceEqDiff,List.length_nil,Int.cast_ofNat_Int]))
    refine bv b { x with slots:=ss,limbo:=x.limbo.filter fun r=>!ff ss r.stamp } vj vn vp vr lp vt vs2 ?_
    refine gG (x:={ x with slots:=ss,limbo:=x.limbo.filter fun r=>!ff ss r.stamp }) ⟨hj1.lo,hj1.hi,hj1.progs,hj1.rests⟩ hl ?_
    repeat' (first | (with_reducible refine G.joini0 ?_) | (with_reducible refine G.joini1 ?_) | (with_reducible refine G.drew ?_) | (simp (maxSteps:=2000000) only [↓RG,RP,RB,BEq.rfl,Int.reduceEq,Int.reduceLT,Int.reduceLE,Nat.reduceEqDiff]))
    exact hK.sub
   ·rw [if_neg c2] at hK
    have c3:¬(((x.limbo.filter (fun r=>ff ss r.stamp)).length:Nat):Int)=0:=by
     intro g
     exact c2 (List.length_eq_zero_iff.1 (by omega))
    repeat' (first | (with_reducible refine G.joini0 ?_) | (with_reducible refine G.joini1 ?_) | (with_reducible refine G.drew ?_) | (simp (maxSteps:=2000000) only [↓RG,RP,RB,BEq.rfl,Int.reduceEq,Int.reduceLT,Int.reduceLE,Nat.reduceEqDiff,c3]))
    refine bv b { x with slots:=ss,limbo:=x.limbo.filter (fun r=>!ff ss r.stamp),sweep:=true,rests:=x.limbo.filter (fun r=>ff ss r.stamp),tries:=0,conf:=0 } vj vn vp vr lp u vs2 ?_
    refine iu (x:={ x with slots:=ss,limbo:=x.limbo.filter (fun r=>!ff ss r.stamp),sweep:=true,rests:=x.limbo.filter (fun r=>ff ss r.stamp),tries:=0,conf:=0 }) ⟨ho.lo,ho.hi,ho.progs,by show (x.limbo.filter _).length≤_;omega⟩ ?_
    repeat' (first | (with_reducible refine G.joini0 ?_) | (with_reducible refine G.joini1 ?_) | (with_reducible refine G.drew ?_) | (simp (maxSteps:=2000000) only [↓RG,RP,RB,BEq.rfl,Int.reduceEq,Int.reduceLT,Int.reduceLE,Nat.reduceEqDiff]))
    exact hK.sub
 rw [dw]
 intro vj vn vp vr lp vt vs
 by_cases cm:(x.slots.length:Int)=x.me
 ·have e:fW x=x.slots++[0]:=if_pos cm
  rw [e] at key
  repeat' (first | (with_reducible refine G.joini0 ?_) | (with_reducible refine G.joini1 ?_) | (with_reducible refine G.drew ?_) | (simp (maxSteps:=2000000) only [↓RG,RP,RB,BEq.rfl,Int.reduceEq,Int.reduceLT,Int.reduceLE,Nat.reduceEqDiff,eq_true cm]))
  refine G.build cx [0] rfl (by decide) rfl fun y hy=>?_
  repeat' (first | (with_reducible refine G.joini0 ?_) | (with_reducible refine G.joini1 ?_) | (with_reducible refine G.drew ?_) | (simp (maxSteps:=2000000) only [↓RG,RP,RB,BEq.rfl,Int.reduceEq,Int.reduceLT,Int.reduceLE,Nat.reduceEqDiff]))
  refine G.append (E:=cx) (xs:=x.slots) (ys:=[0]) (by simp only [List.length_singleton];omega) (by simp only [List.length_singleton,maxLen];omega) fun u hu=>?_
  repeat' (first | (with_reducible refine G.joini0 ?_) | (with_reducible refine G.joini1 ?_) | (with_reducible refine G.drew ?_) | (simp (maxSteps:=2000000) only [↓RG,RP,RB,BEq.rfl,Int.reduceEq,Int.reduceLT,Int.reduceLE,Nat.reduceEqDiff]))
  exact(key vj vn vp vr lp vt u).sub
 ·have e:fW x=x.slots:=if_neg cm
  rw [e] at key
  repeat' (first | (with_reducible refine G.joini0 ?_) | (with_reducible refine G.joini1 ?_) | (with_reducible refine G.drew ?_) | (simp (maxSteps:=2000000) only [↓RG,RP,RB,BEq.rfl,Int.reduceEq,Int.reduceLT,Int.reduceLE,Nat.reduceEqDiff,cm]))
  exact(key vj vn vp vr lp vt vs).sub
theorem ui {since:Int}(ho:iM x)(hj:x.job<x.jobs.length)(hl:x.jobs.length≤1000000)(hs:x.slots.length≤4)(hm:x.limbo.length≤90000)[i:aq L gD b x C](hK:G w0 (C (ob gD b (xL x since))) (K (.tuple #[]))):G w0 L (CP Tryz.prog Fn.thread_Thread_looked [ptr b 0,u64 since] K):=by
 refine i.use (fun M hK=>?_) hK
 refine tS ?_
 unfold mb
 rw [dw]
 intro vj vn vp vr lp vt vs
 refine gg ?_
 refine G.build cx [since] rfl (by decide) rfl fun y hy=>?_
 repeat' (first | (with_reducible refine G.joini0 ?_) | (with_reducible refine G.joini1 ?_) | (with_reducible refine G.drew ?_) | (simp (maxSteps:=2000000) only [↓RG,RP,RB,BEq.rfl,Int.reduceEq,Int.reduceLT,Int.reduceLE,Nat.reduceEqDiff]))
 refine G.append (E:=cx) (xs:=x.slots) (ys:=[since]) (by simp only [List.length_singleton];omega) (by simp only [List.length_singleton,maxLen];omega) fun u hu=>?_
 refine gg ?_
 refine bv b { x with slots:=x.slots++[since] } vj vn vp vr lp vt u ?_
 refine yU (x:={ x with slots:=x.slots++[since] }) ⟨ho.lo,ho.hi,ho.progs,ho.rests⟩ hj hl (by simp only [List.length_append,List.length_singleton];omega) hm ?_
 repeat' (first | (with_reducible refine G.joini0 ?_) | (with_reducible refine G.joini1 ?_) | (with_reducible refine G.drew ?_) | (simp (maxSteps:=2000000) only [↓RG,RP,RB,BEq.rfl,Int.reduceEq,Int.reduceLT,Int.reduceLE,Nat.reduceEqDiff]))
 exact hK.sub
theorem Gr (ho:iM x)(hj:x.job<x.jobs.length)(hl:x.jobs.length≤1000000)(hm:x.limbo.length≤90000)[i:aq L gD b x C](hK:G w0 (C (ob gD b (AH x))) (K (.tuple #[]))):G w0 L (CP Tryz.prog Fn.thread_Thread_over [ptr b 0] K):=by
 refine i.use (fun M hK=>?_) hK
 refine wA ?_
 unfold oE
 unfold AH at hK
 rw [dw]
 intro vj vn vp vr lp vt vs
 refine gg ?_
 refine Bp (xs:=x.limbo) ?_
 by_cases c:x.limbo=[]
 ·rw [if_pos c] at hK
  have c3:(((x.limbo.length:Nat):Int)=0)=True:=by rw [c];simp
  refine gf c3 ?_
  refine bv b x vj vn vp vr lp vt vs ?_
  refine gG (x:=x) ⟨by have:=ho.lo;show 0≤x.job+1;omega,by show x.job+1≤x.jobs.length;omega,ho.progs,by simp⟩ hl ?_
  repeat' (first | (with_reducible refine G.joini0 ?_) | (with_reducible refine G.joini1 ?_) | (with_reducible refine G.drew ?_) | (simp (maxSteps:=2000000) only [↓RG,RP,RB,BEq.rfl,Int.reduceEq,Int.reduceLT,Int.reduceLE,Nat.reduceEqDiff]))
  exact hK
 ·rw [if_neg c] at hK
  have c3:¬((x.limbo.length:Nat):Int)=0:=by
   intro g
   exact c (List.length_eq_zero_iff.1 (by omega))
  refine gf c3 ?_
  refine G.nilsl cx ?_
  refine bv b { x with state:=5,slots:=[] } vj vn vp vr lp vt (.slice none 0 0) ?_
  refine yU (x:={ x with state:=5,slots:=[] }) ⟨ho.lo,ho.hi,ho.progs,ho.rests⟩ hj hl (by simp) hm ?_
  repeat' (first | (with_reducible refine G.joini0 ?_) | (with_reducible refine G.joini1 ?_) | (with_reducible refine G.drew ?_) | (simp (maxSteps:=2000000) only [↓RG,RP,RB,BEq.rfl,Int.reduceEq,Int.reduceLT,Int.reduceLE,Nat.reduceEqDiff]))
  exact hK.sub
theorem D2 {e:Int}(ho:iM x)(hj:x.job<x.jobs.length)(hl:x.jobs.length≤1000000)(hm:x.limbo.length+x.rests.length≤90000)[i:aq L gD b x C](hK:G w0 (C (ob gD b (Bd x e))) (K (.tuple #[]))):G w0 L (CP Tryz.prog Fn.thread_Thread_swept [ptr b 0,i64 e] K):=by
 refine i.use (fun M hK=>?_) hK
 refine uO ?_
 unfold mH
 unfold Bd at hK
 have hj1:∀z:co,z.job=x.job→z.jobs=x.jobs→iM { z with job:=z.job+1,rests:=[] }:=fun z e1 e2=>⟨by have:=ho.lo;show 0≤z.job+1;omega,by show z.job+1≤z.jobs.length;rw [e2];omega,by show ∀p∈z.jobs,_;rw [e2];exact ho.progs,by simp⟩
 rw [dw]
 intro vj vn vp vr lp vt vs
 by_cases c4:e=4
 ·rw [if_pos c4] at hK
  repeat' (first | (with_reducible refine G.joini0 ?_) | (with_reducible refine G.joini1 ?_) | (with_reducible refine G.drew ?_) | (simp (maxSteps:=2000000) only [↓RG,RP,RB,BEq.rfl,Int.reduceEq,Int.reduceLT,Int.reduceLE,Nat.reduceEqDiff,eq_true c4]))
  refine G.loop1 (fun k:Nat=>i64 k) (fun k=>own b (x.cells vj vn vp vr lp vt vs)::ob i5 vj x.jobs::ob mu vn x.now::ob jw vp x.past::sl iB vr x.res::ob (kq ck) lp (x.limbo++x.rests.take k)::sl ck vt x.rests::sl cx vs x.slots::M) (fun k=>k≤x.rests.length) (fun k=>x.rests.length-k) 0 rfl (by simp) (by simp) ?_
  intro k hk J hJ
  try simp (maxSteps:=2000000) only [↓RG,RP,RB,BEq.rfl,Int.reduceEq,Int.reduceLT,Int.reduceLE,Nat.reduceEqDiff]
  refine G.cond (fun h=>?_) (fun h=>?_)
  ·have hk2:k<x.rests.length:=by simpa using h
   have e:=ct hk2
   repeat' (first | (with_reducible refine G.joini0 ?_) | (with_reducible refine G.joini1 ?_) | (with_reducible refine G.drew ?_) | (simp (maxSteps:=2000000) only [↓RG,RP,RB,BEq.rfl,Int.reduceEq,Int.reduceLT,Int.reduceLE,Nat.reduceEqDiff]))
   refine G.new fun q=>?_
   repeat' (first | (with_reducible refine G.joini0 ?_) | (with_reducible refine G.joini1 ?_) | (with_reducible refine G.drew ?_) | (simp (maxSteps:=2000000) only [↓RG,RP,RB,BEq.rfl,Int.reduceEq,Int.reduceLT,Int.reduceLE,Nat.reduceEqDiff]))
   refine G.build bg [x.rests[k].place] rfl (by decide) rfl fun y hy=>?_
   repeat' (first | (with_reducible refine G.joini0 ?_) | (with_reducible refine G.joini1 ?_) | (with_reducible refine G.drew ?_) | (simp (maxSteps:=2000000) only [↓RG,RP,RB,BEq.rfl,Int.reduceEq,Int.reduceLT,Int.reduceLE,Nat.reduceEqDiff]))
   refine rB (xs:=x.limbo++x.rests.take k) (bs:=[x.rests[k].place]) (t:=x.rests[k].stamp) (by simp only [List.length_append,List.length_take,List.length_singleton];omega) ?_
   repeat' (first | (with_reducible refine G.joini0 ?_) | (with_reducible refine G.joini1 ?_) | (with_reducible refine G.drew ?_) | (simp (maxSteps:=2000000) only [↓RG,RP,RB,BEq.rfl,Int.reduceEq,Int.reduceLT,Int.reduceLE,Nat.reduceEqDiff]))
   rw [di (by omega)]
   have hn:=hJ (k+1) hk2 (by omega)
   rw [List.take_succ_eq_append_getElem hk2,←List.append_assoc] at hn
   simp only [List.map_cons,List.map_nil,show (⟨x.rests[k].place,x.rests[k].stamp⟩:oX)=x.rests[k] from rfl]
   exact hn.sub
  ·have hk2:k=x.rests.length:=by
    have:¬k<x.rests.length:=by simpa using h
    omega
   subst hk2
   rw [List.take_length]
   repeat' (first | (with_reducible refine G.joini0 ?_) | (with_reducible refine G.joini1 ?_) | (with_reducible refine G.drew ?_) | (simp (maxSteps:=2000000) only [↓RG,RP,RB,BEq.rfl,Int.reduceEq,Int.reduceLT,Int.reduceLE,Nat.reduceEqDiff]))
   refine bv b { x with limbo:=x.limbo++x.rests } vj vn vp vr lp vt vs ?_
   refine gG (x:={ x with limbo:=x.limbo++x.rests }) (hj1 _ rfl rfl) hl ?_
   repeat' (first | (with_reducible refine G.joini0 ?_) | (with_reducible refine G.joini1 ?_) | (with_reducible refine G.drew ?_) | (simp (maxSteps:=2000000) only [↓RG,RP,RB,BEq.rfl,Int.reduceEq,Int.reduceLT,Int.reduceLE,Nat.reduceEqDiff]))
   exact hK
 ·rw [if_neg c4] at hK
  repeat' (first | (with_reducible refine G.joini0 ?_) | (with_reducible refine G.joini1 ?_) | (with_reducible refine G.drew ?_) | (simp (maxSteps:=2000000) only [↓RG,RP,RB,BEq.rfl,Int.reduceEq,Int.reduceLT,Int.reduceLE,Nat.reduceEqDiff,c4]))
  refine bv b x vj vn vp vr lp vt vs ?_
  refine gG (x:=x) (hj1 _ rfl rfl) hl ?_
  repeat' (first | (with_reducible refine G.joini0 ?_) | (with_reducible refine G.joini1 ?_) | (with_reducible refine G.drew ?_) | (simp (maxSteps:=2000000) only [↓RG,RP,RB,BEq.rfl,Int.reduceEq,Int.reduceLT,Int.reduceLE,Nat.reduceEqDiff]))
  exact hK
theorem EU [i:aq L gD b x C](hK:G w0 L (K (i64 x.state))):G w0 L (CP Tryz.prog Fn.thread_Thread_State [ptr b 0] K):=by
 refine i.ro (fun M hK=>?_) hK
 refine va ?_
 unfold mx
 rw [dw] at *
 intro vj vn vp vr lp vt vs
 have hK:=hK vj vn vp vr lp vt vs
 refine gr ?_
 exact hK
theorem B5 (hl:x.res.length≤1000000)[i:aq L gD b x C](hK:∀u,ar u [u]→G w0 (sl iB u x.res::L) (K u)):G w0 L (CP Tryz.prog Fn.thread_Thread_Results [ptr b 0] K):=by
 refine i.roN (fun M hK=>?_) hK
 refine sH ?_
 unfold kX
 rw [dw]
 intro vj vn vp vr lp vt vs
 refine gr ?_
 refine kt (xs:=x.res) hl fun u hu=>?_
 refine bv b x vj vn vp vr lp vt vs ?_
 exact(hK u hu).sub
theorem GZ {s ver:Int}(ho:iM x)(hr:∀a,x.now=some a→a.rd.length≤1000)[i:aq L gD b x C](hK:G w0 (C (ob gD b (il x s ver))) (K (.tuple #[]))):G w0 L (CP Tryz.prog Fn.thread_Thread_Wake [ptr b 0,i64 s,u64 ver] K):=by
 refine i.use (fun M hK=>?_) hK
 refine vT ?_
 unfold oQ
 unfold il at hK
 rw [dw]
 intro vj vn vp vr lp vt vs
 cases hn:x.now with
 | none =>
  simp only [hn] at hK
  rw [dw] at hK
  have hK:=hK vj vn vp vr lp vt vs
  rw [hn] at hK
  refine G.take1 mu vn ?_
  rw [Ef]
  intro e
  subst e
  have hK:G w0 (ob mu (.pointer none) none::own b (x.cells vj (.pointer none) vp vr lp vt vs)::ob i5 vj x.jobs::ob jw vp x.past::sl iB vr x.res::ob (kq ck) lp x.limbo::sl ck vt x.rests::sl cx vs x.slots::M) (K (.tuple #[])):=hK.sub
  rw [Ef] at hK
  refine gg ?_
  exact hK rfl
 | some a =>
  have hr:=hr a hn
  simp only [hn] at hK
  refine G.take1 mu vn ?_
  rw [qK]
  intro p e
  subst e
  have hsame:G w0 (ob gD b x::M) (K (.tuple #[]))→G w0 (ob fH p a::own b (x.cells vj (ptr p 0) vp vr lp vt vs)::ob i5 vj x.jobs::ob jw vp x.past::sl iB vr x.res::ob (kq ck) lp x.limbo::sl ck vt x.rests::sl cx vs x.slots::M) (K (.tuple #[]))∧True:=fun h=>⟨by
   refine i7 p a ?_
   rw [←hn]
   refine bv b x vj (ptr p 0) vp vr lp vt vs ?_
   exact h.sub,trivial⟩
  refine gg ?_
  refine Fa (x:=a) (by omega) fun u hu=>?_
  refine gg ?_
  refine G.loop1 (fun k:Nat=>i64 k) (fun k=>sl gm u a.rd::ob fH p a::own b (x.cells vj (ptr p 0) vp vr lp vt vs)::ob i5 vj x.jobs::ob jw vp x.past::sl iB vr x.res::ob (kq ck) lp x.limbo::sl ck vt x.rests::sl cx vs x.slots::M) (fun k=>k≤a.rd.length∧G4 a.rd s ver=G4 (a.rd.drop k) s ver) (fun k=>a.rd.length-k) 0 rfl rfl (by simp) ?_
  rintro k ⟨hk,hn2⟩ J hJ
  refine gr ?_
  refine G.cond (fun h=>?_) (fun h=>?_)
  ·have hk2:k<a.rd.length:=by simp at h;omega
   have e:=ct hk2
   rw [List.drop_eq_getElem_cons hk2,show G4 (a.rd[k]::a.rd.drop (k+1)) s ver=((decide (a.rd[k].stripe=s) && !decide (a.rd[k].version=ver)) || G4 (a.rd.drop (k+1)) s ver) from rfl] at hn2
   have hnext:(decide (a.rd[k].stripe=s) && !decide (a.rd[k].version=ver))=false→_:=fun g=>hJ (k+1) ⟨hk2,by rw [hn2,g,Bool.false_or]⟩ (by omega)
   refine gu ?_
   refine gr ?_
   refine G.new fun q2=>?_
   by_cases c1:a.rd[k].stripe=s
   ·by_cases c2:a.rd[k].version=ver
    ·have hnext:=hnext (by simp [c2])
     refine gf (an (eq_true c1) (eq_true c2)) ?_
     rw [di (by omega)]
     exact hnext.sub
    ·rw [hn2,decide_eq_true c1,decide_eq_false c2] at hK
     simp only [Bool.not_false,Bool.and_true,Bool.true_or,if_true] at hK
     by_cases c4:x.state=4
     ·rw [if_pos c4] at hK
      refine gf (an (eq_true c1) (an c2 (eq_true c4))) ?_
      refine i7 p a ?_
      rw [←hn]
      refine bv b x vj (ptr p 0) vp vr lp vt vs ?_
      refine iu (x:=x) ho ?_
      repeat' (first | (with_reducible refine G.joini0 ?_) | (with_reducible refine G.joini1 ?_) | (with_reducible refine G.drew ?_) | (simp (maxSteps:=2000000) only [↓RG,RP,RB,BEq.rfl,Int.reduceEq,Int.reduceLT,Int.reduceLE,Nat.reduceEqDiff]))
      exact hK.sub
     ·rw [if_neg c4] at hK
      by_cases c3:x.state=1
      ·repeat' (first | (with_reducible refine G.joini0 ?_) | (with_reducible refine G.joini1 ?_) | (with_reducible refine G.drew ?_) | (simp (maxSteps:=2000000) only [↓RG,RP,RB,BEq.rfl,Int.reduceEq,Int.reduceLT,Int.reduceLE,Nat.reduceEqDiff,eq_true c1,c2,c4,eq_true c3]))
       refine Aa (x:=a) ?_
       cases hb:(!decide (a.state=8) && a.blocking)
       ·rw [if_neg (by rw [hb];simp)] at hK
        repeat' (first | (with_reducible refine G.joini0 ?_) | (with_reducible refine G.joini1 ?_) | (with_reducible refine G.drew ?_) | (simp (maxSteps:=2000000) only [↓RG,RP,RB,BEq.rfl,Int.reduceEq,Int.reduceLT,Int.reduceLE,Nat.reduceEqDiff]))
        exact((hsame hK).1).sub
       ·rw [if_pos ⟨c3,hb⟩] at hK
        repeat' (first | (with_reducible refine G.joini0 ?_) | (with_reducible refine G.joini1 ?_) | (with_reducible refine G.drew ?_) | (simp (maxSteps:=2000000) only [↓RG,RP,RB,BEq.rfl,Int.reduceEq,Int.reduceLT,Int.reduceLE,Nat.reduceEqDiff]))
        refine i7 p a ?_
        rw [←hn]
        refine bv b { x with alarm:=true } vj (ptr p 0) vp vr lp vt vs ?_
        rw [←hn] at hK
        exact hK.sub
      ·rw [if_neg (fun g=>c3 g.1)] at hK
       repeat' (first | (with_reducible refine G.joini0 ?_) | (with_reducible refine G.joini1 ?_) | (with_reducible refine G.drew ?_) | (simp (maxSteps:=2000000) only [↓RG,RP,RB,BEq.rfl,Int.reduceEq,Int.reduceLT,Int.reduceLE,Nat.reduceEqDiff,eq_true c1,c2,c4,c3]))
       exact((hsame hK).1).sub
   ·have hnext:=hnext (by simp [c1])
    refine gf c1 ?_
    rw [di (by omega)]
    exact hnext.sub
  ·have hk2:k=a.rd.length:=by
    have:¬k<a.rd.length:=by simpa using h
    omega
   have e0:G4 a.rd s ver=false:=by rw [hn2,hk2,List.drop_length];rfl
   rw [e0,if_neg (by decide)] at hK
   refine gr ?_
   exact((hsame hK).1).sub
end
end Go.Proofs.YtoealglbimbbmaaGreatDoor.S
namespace Go.Proofs.YtoealglbimbbmaaGreatDoor.S
open Go Go.Proofs
set_option linter.unusedVariables false
set_option linter.unusedSimpArgs false
abbrev IX (a:bq):Int:=if a.wr=true then 2 else (if a.state=8 then a.fin else 0)
abbrev pf (x:co)(a:bq)(pick:Int)(r c f:lA)(s:ByteArray):sV:=⟨x.me,x.job,x.tries,x.sweep,IX a,(if a.state=8 then a.err else 0),a.beg,a.stamp,x.born,pick,r,c,f,s⟩
structure C7 (a:bq):Prop where
 known:a.v.k.length≤1000
 cells:a.v.l.cells.length≤1000
 frees:a.done=true→a.v.l.frees.length≤1000
 blocks:a.blocks.length≤100000
 items:a.done=true→AG a.items
theorem Ce.tol {a:bq}(h:Ce a):C7 a:=⟨h.known,h.cells,h.frees,h.blocks,h.items⟩
theorem C7.freed {a:bq}(h:C7 a):a.freed.length≤100000:=by
 show (if a.done=true then (match a.run with | none=>a.blocks | some _=>a.v.l.frees) else []).length≤_
 split
 ·rename_i hd
  have h1:=h.frees hd
  have h2:=h.blocks
  cases a.run <;> simp only <;> omega
 ·simp
theorem NT {a:bq}:decide (IX a=2)=a.done:=by
 show decide ((if a.wr=true then 2 else (if a.state=8 then a.fin else 0))=2)=(decide ((if a.state=8 then a.fin else 0)=2) || a.wr)
 cases a.wr <;> simp
theorem M8 {x:co}{a:bq}{pick:Int}{r c f:lA}{s:ByteArray}(h:C7 a):sJ (pf x a pick r c f s,gd a x.born pick,a.freed) :=
 ⟨rfl,NT,rfl,rfl,h.known,by show (if a.done=true then a.v.l.cells else []).length≤1000;split;exact h.cells;simp,h.freed⟩
section
variable {w0:bh}{L M:List ay}{K:KV}{F:World→Prop}{C:ay→List ay}{b lp p:Nat}{x:co}{v vj vn vp vr vt vs:Value}{a:bq}{draw pick:Int}
theorem P5 {zero r:List Value}{ps:List (Nat×Nat×Value)}(h:qk zero ps=some r):G w0 L (ap zero ps K)=G w0 L (K (.agg r.toArray)):=by
 congr 1
 funext w
 simp [ap,h]
theorem zn (ht:uP w0)(hg:C7 a)
  (hK:∀(r c f:lA) (s:ByteArray),vA a s→G w0 (sl bf r.v a.v.k::sl bf c.v (if a.done then a.v.l.cells else [])::sl bg f.v a.freed::own b (x.cells vj (ptr p 0) vp vr lp vt vs)::ob fH p a::M) (K (.agg (sV.cells (pf x a pick r c f s)).toArray))) :
  G w0 (own b (x.cells vj (ptr p 0) vp vr lp vt vs)::ob fH p a::M) (CP Tryz.prog Fn.thread_Thread_told [ptr b 0,i64 pick] K):=by
 refine wv ?_
 unfold o6
 refine G.new fun q=>?_
 refine gg ?_
 refine kI (x:=a) ?_
 refine gg ?_
 refine hZ (x:=a) ?_
 try simp (maxSteps:=2000000) only [↓RG,RP,RB,BEq.rfl,Int.reduceEq,Int.reduceLT,Int.reduceLE,Nat.reduceEqDiff]
 refine lS (x:=a) ?_
 refine G.join1 (fun k:Int=>i64 k) (fun _=>own q [i64 0,i64 0,i64 0,.bool false,i64 0,i64 0,u64 0,u64 0,i64 0,i64 0,.slice none 0 0,.slice none 0 0,.slice none 0 0,.string ⟨#[]⟩]::own b (x.cells vj (ptr p 0) vp vr lp vt vs)::ob fH p a::M) (fun k=>k=IX a) (fun k hk=>?_) (fun J hJ=>?_)
 rotate_left
 ·refine G.cond (fun h=>?_) (fun h=>?_)
  ·exact hJ 2 (by rw [IX,if_pos h])
  ·exact hJ _ (if_neg (by rw [h];decide)).symm
 subst hk
 repeat' (first | (with_reducible refine G.joini0 ?_) | (with_reducible refine G.joini1 ?_) | (with_reducible refine G.drew ?_) | (simp (maxSteps:=2000000) only [↓RG,RP,RB,BEq.rfl,Int.reduceEq,Int.reduceLT,Int.reduceLE,Nat.reduceEqDiff]))
 refine zi (x:=a) ?_
 refine gg ?_
 refine pn (x:=a) ?_
 refine gg ?_
 refine DQ (x:=a) (by have:=hg.known;omega) fun u hu=>?_
 refine G.isSl (v:=u) fun r hr=>?_
 subst hr
 refine gg ?_
 refine DA (x:=a) fun c=>?_
 refine gg ?_
 refine ug (x:=a) (fun h=>by have:=hg.frees h;omega) (by have:=hg.blocks;omega) fun f=>?_
 refine gg ?_
 refine ux ht (x:=a) hg.items fun s hs=>?_
 refine gg ?_
 rw [P5 (r:=sV.cells (pf x a pick r c f s)) rfl]
 refine gg ?_
 exact(hK r c f s hs).sub
theorem CG {n:List Ta}(u:Value)(l:List gi)(e:sV)(t:Ta)(fr:List Int) [ez [sl fg u (l.map (·.1)++[e]),ob (cg em) () l,sl bf e.reads.v t.reads,sl bf e.cells_.v t.cells,sl bg e.frees.v fr] L M]
  (hl:l.map (·.2.1)=n∧∀p∈l,sJ p) (hk:sJ (e,t,fr)) (H:G w0 (ob jw u (n++[t])::M) F):G w0 L F :=
 G.pickAll (As:=[sl fg u (l.map (·.1)++[e]),ob (cg em) () l,sl bf e.reads.v t.reads,sl bf e.cells_.v t.cells,sl bg e.frees.v fr]) (by
  rw [lj] at H
  have h:=H (l++[(e,t,fr)]) ⟨by simp [hl.1],fun p hp=>by
   rcases List.mem_append.1 hp with hp | hp
   ·exact hl.2 p hp
   ·rw [List.mem_singleton.1 hp];exact hk⟩
  rw [List.map_append,List.map_cons,List.map_nil,fA,ml,show em (e,t,fr)=bk (bk (sl bf e.reads.v t.reads) (sl bf e.cells_.v t.cells)) (sl bg e.frees.v fr) from rfl,fb,fb] at h
  show G w0 (sl fg u (l.map (·.1)++[e])::ob (cg em) () l::sl bf e.reads.v t.reads::sl bf e.cells_.v t.cells::sl bg e.frees.v fr::M) F
  exact h.sub)
theorem Em (ht:uP w0)(hn:x.now=some a)(hg:Ce a)(hp:x.past.length≤1000000)(hr:x.res.length≤1000000)(hm:x.limbo.length+x.rests.length≤80000)(hm2:x.sweep=false→a.freed.length≤1000)(ho:iM x)(hj:x.job<x.jobs.length)(hl:x.jobs.length≤1000000)(hd:0≤draw)(hd2:draw≤255)[i:aq L gD b x C]
  (hK:∀sl_,vA a sl_→G w0 (C (ob gD b (lD x a draw pick sl_))) (K (.tuple #[]))):G w0 L (CP Tryz.prog Fn.thread_Thread_ended [ptr b 0,.int .u8 draw,i64 pick] K):=by
 refine i.useA (A':=fun z:{ s // vA a s }=>ob gD b (lD x a draw pick z.1)) (F':=fun _=>K (.tuple #[])) (fun M hK=>?_) (fun z=>hK z.1 z.2)
 have hK:=fun sl_ (h:vA a sl_)=>hK ⟨sl_,h⟩
 simp only at hK
 refine vx ?_
 unfold mQ
 have h8:=hg.gone
 rw [dw]
 intro vj vn vp vr lp vt vs
 refine G.take1 mu vn ?_
 rw [hn,qK]
 intro p e
 subst e
 repeat' (first | (with_reducible refine G.joini0 ?_) | (with_reducible refine G.joini1 ?_) | (with_reducible refine G.drew ?_) | (simp (maxSteps:=2000000) only [↓RG,RP,RB,BEq.rfl,Int.reduceEq,Int.reduceLT,Int.reduceLE,Nat.reduceEqDiff]))
 refine G.pickAll (As:=[own b (x.cells vj (ptr p 0) vp vr lp vt vs),ob fH p a]) ?_
 simp only [List.cons_append,List.nil_append]
 refine zn ht (x:=x) (pick:=pick) hg.tol fun r c f s hs=>?_
 refine G.take1 jw vp ?_
 rw [lj]
 intro l hll
 have hlen:(l.map (·.1)).length=x.past.length:=by rw [←hll.1];simp
 have hok:=M8 (x:=x) (pick:=pick) (r:=r) (c:=c) (f:=f) (s:=s) hg.tol
 repeat' (first | (with_reducible refine G.joini0 ?_) | (with_reducible refine G.joini1 ?_) | (with_reducible refine G.drew ?_) | (simp (maxSteps:=2000000) only [↓RG,RP,RB,BEq.rfl,Int.reduceEq,Int.reduceLT,Int.reduceLE,Nat.reduceEqDiff]))
 refine G.build fg [pf x a pick r c f s] rfl (by decide) rfl fun u6 h6=>?_
 repeat' (first | (with_reducible refine G.joini0 ?_) | (with_reducible refine G.joini1 ?_) | (with_reducible refine G.drew ?_) | (simp (maxSteps:=2000000) only [↓RG,RP,RB,BEq.rfl,Int.reduceEq,Int.reduceLT,Int.reduceLE,Nat.reduceEqDiff]))
 refine G.append (E:=fg) (xs:=l.map (fun z:gi=>z.1)) (ys:=[pf x a pick r c f s]) (by simp only [hlen,List.length_singleton];omega) (by simp only [hlen,List.length_singleton,maxLen];omega) fun u5 h5=>?_
 repeat' (first | (with_reducible refine G.joini0 ?_) | (with_reducible refine G.joini1 ?_) | (with_reducible refine G.drew ?_) | (simp (maxSteps:=2000000) only [↓RG,RP,RB,BEq.rfl,Int.reduceEq,Int.reduceLT,Int.reduceLE,Nat.reduceEqDiff]))
 refine hZ (x:=a) ?_
 rw [if_pos h8]
 have hjo:∀z:co,z.job=x.job→z.jobs=x.jobs→z.rests=x.rests→iM z:=fun z e1 e2 e3=>⟨by rw [e1];exact ho.lo,by rw [e1,e2];exact ho.hi,by rw [e2];exact ho.progs,by rw [e3];exact ho.rests⟩
 have hclose:∀(z:co) (J:World→Prop),z.jobs=x.jobs→z.now=x.now→z.past=x.past++[gd a x.born pick]→z.res=x.res→z.limbo=x.limbo→z.rests=x.rests→z.slots=x.slots→G w0 (ob gD b z::M) J →
   G w0 (own b (z.cells vj (ptr p 0) u5 vr lp vt vs)::sl fg u5 (l.map (·.1)++[pf x a pick r c f s])::ob (cg em) () l::sl bf r.v a.v.k::sl bf c.v (if a.done then a.v.l.cells else [])::sl bg f.v a.freed::ob fH p a::ob i5 vj x.jobs::sl iB vr x.res::ob (kq ck) lp x.limbo::sl ck vt x.rests::sl cx vs x.slots::M) J:=fun z J e1 e2 e3 e4 e5 e6 e7 h=>by
  refine CG u5 l (pf x a pick r c f s) (gd a x.born pick) a.freed hll hok ?_
  refine i7 p a ?_
  rw [←hn,←e1,←e2,←e3,←e4,←e5,←e6,←e7]
  refine bv b z vj (ptr p 0) u5 vr lp vt vs ?_
  exact h
 unfold lD at hK
 by_cases c5:a.fin=5
 ·simp only [if_pos c5] at hK
  repeat' (first | (with_reducible refine G.joini0 ?_) | (with_reducible refine G.joini1 ?_) | (with_reducible refine G.drew ?_) | (simp (maxSteps:=2000000) only [↓RG,RP,RB,BEq.rfl,Int.reduceEq,Int.reduceLT,Int.reduceLE,Nat.reduceEqDiff,eq_true c5]))
  refine pY (x:=a) ?_
  rw [if_pos h8]
  by_cases cb:0≤a.by_∧a.by_<x.s.threads
  ·simp only [if_pos cb] at hK
   refine gu ?_
   repeat' (first | (with_reducible refine G.joini0 ?_) | (with_reducible refine G.joini1 ?_) | (with_reducible refine G.drew ?_) | (simp (maxSteps:=2000000) only [↓RG,RP,RB,BEq.rfl,Int.reduceEq,Int.reduceLT,Int.reduceLE,Nat.reduceEqDiff,eq_true cb.1]))
   refine pY (x:=a) ?_
   rw [if_pos h8]
   repeat' (first | (with_reducible refine G.joini0 ?_) | (with_reducible refine G.joini1 ?_) | (with_reducible refine G.drew ?_) | (simp (maxSteps:=2000000) only [↓RG,RP,RB,BEq.rfl,Int.reduceEq,Int.reduceLT,Int.reduceLE,Nat.reduceEqDiff,eq_true cb.2]))
   refine pY (x:=a) ?_
   rw [if_pos h8]
   repeat' (first | (with_reducible refine G.joini0 ?_) | (with_reducible refine G.joini1 ?_) | (with_reducible refine G.drew ?_) | (simp (maxSteps:=2000000) only [↓RG,RP,RB,BEq.rfl,Int.reduceEq,Int.reduceLT,Int.reduceLE,Nat.reduceEqDiff]))
   exact(hclose { x with past:=x.past++[gd a x.born pick],tries:=IntKind.wrap .i64 (x.tries+1),conf:=IntKind.wrap .i64 (x.conf+1),state:=2,by_:=a.by_,yld:=false } _ rfl rfl rfl rfl rfl rfl rfl (hK s hs)).sub
  ·simp only [if_neg cb] at hK
   have hp2:G w0 (own b (co.cells { x with past:=x.past++[gd a x.born pick],tries:=IntKind.wrap .i64 (x.tries+1),conf:=IntKind.wrap .i64 (x.conf+1) } vj (ptr p 0) u5 vr lp vt vs)::sl fg u5 (l.map (·.1)++[pf x a pick r c f s])::ob (cg em) () l::sl bf r.v a.v.k::sl bf c.v (if a.done then a.v.l.cells else [])::sl bg f.v a.freed::ob fH p a::ob i5 vj x.jobs::sl iB vr x.res::ob (kq ck) lp x.limbo::sl ck vt x.rests::sl cx vs x.slots::M)
     (CP Tryz.prog Fn.thread_Thread_pause [ptr b 0,.int .u8 draw] (fun x55=>K (.tuple #[]))):=by
    refine hclose { x with past:=x.past++[gd a x.born pick],tries:=IntKind.wrap .i64 (x.tries+1),conf:=IntKind.wrap .i64 (x.conf+1) } _ rfl rfl rfl rfl rfl rfl rfl ?_
    refine vO (x:={ x with past:=x.past++[gd a x.born pick],tries:=IntKind.wrap .i64 (x.tries+1),conf:=IntKind.wrap .i64 (x.conf+1) }) (hjo _ rfl rfl rfl) hd hd2 ?_
    exact hK s hs
   refine gu ?_
   by_cases cb0:0≤a.by_
   ·have cb1:¬a.by_<x.s.threads:=fun h=>cb ⟨cb0,h⟩
    repeat' (first | (with_reducible refine G.joini0 ?_) | (with_reducible refine G.joini1 ?_) | (with_reducible refine G.drew ?_) | (simp (maxSteps:=2000000) only [↓RG,RP,RB,BEq.rfl,Int.reduceEq,Int.reduceLT,Int.reduceLE,Nat.reduceEqDiff,eq_true cb0]))
    refine pY (x:=a) ?_
    rw [if_pos h8]
    repeat' (first | (with_reducible refine G.joini0 ?_) | (with_reducible refine G.joini1 ?_) | (with_reducible refine G.drew ?_) | (simp (maxSteps:=2000000) only [↓RG,RP,RB,BEq.rfl,Int.reduceEq,Int.reduceLT,Int.reduceLE,Nat.reduceEqDiff,cb1]))
    exact hp2.sub
   ·repeat' (first | (with_reducible refine G.joini0 ?_) | (with_reducible refine G.joini1 ?_) | (with_reducible refine G.drew ?_) | (simp (maxSteps:=2000000) only [↓RG,RP,RB,BEq.rfl,Int.reduceEq,Int.reduceLT,Int.reduceLE,Nat.reduceEqDiff,cb0]))
    exact hp2.sub
 ·simp only [if_neg c5] at hK
  repeat' (first | (with_reducible refine G.joini0 ?_) | (with_reducible refine G.joini1 ?_) | (with_reducible refine G.drew ?_) | (simp (maxSteps:=2000000) only [↓RG,RP,RB,BEq.rfl,Int.reduceEq,Int.reduceLT,Int.reduceLE,Nat.reduceEqDiff,c5]))
  refine hZ (x:=a) ?_
  rw [if_pos h8]
  by_cases h3:a.fin=3
  ·simp only [if_pos h3] at hK
   repeat' (first | (with_reducible refine G.joini0 ?_) | (with_reducible refine G.joini1 ?_) | (with_reducible refine G.drew ?_) | (simp (maxSteps:=2000000) only [↓RG,RP,RB,BEq.rfl,Int.reduceEq,Int.reduceLT,Int.reduceLE,Nat.reduceEqDiff,eq_true h3]))
   refine G.cond (fun ha=>?_) (fun ha=>?_)
   rotate_left
   ·simp only [if_neg (show ¬x.alarm=true by rw [ha];decide)] at hK
    repeat' (first | (with_reducible refine G.joini0 ?_) | (with_reducible refine G.joini1 ?_) | (with_reducible refine G.drew ?_) | (simp (maxSteps:=2000000) only [↓RG,RP,RB,BEq.rfl,Int.reduceEq,Int.reduceLT,Int.reduceLE,Nat.reduceEqDiff]))
    exact(hclose { x with past:=x.past++[gd a x.born pick],tries:=IntKind.wrap .i64 (x.tries+1),state:=4 } _ rfl rfl rfl rfl rfl rfl rfl (hK s hs)).sub
   ·simp only [if_pos ha] at hK
    refine G.sub (hclose { x with past:=x.past++[gd a x.born pick],tries:=IntKind.wrap .i64 (x.tries+1) } _ rfl rfl rfl rfl rfl rfl rfl ?_)
    refine iu (x:={ x with past:=x.past++[gd a x.born pick],tries:=IntKind.wrap .i64 (x.tries+1) }) (hjo _ rfl rfl rfl) ?_
    repeat' (first | (with_reducible refine G.joini0 ?_) | (with_reducible refine G.joini1 ?_) | (with_reducible refine G.drew ?_) | (simp (maxSteps:=2000000) only [↓RG,RP,RB,BEq.rfl,Int.reduceEq,Int.reduceLT,Int.reduceLE,Nat.reduceEqDiff]))
    exact hK s hs
  simp only [if_neg h3] at hK
  repeat' (first | (with_reducible refine G.joini0 ?_) | (with_reducible refine G.joini1 ?_) | (with_reducible refine G.drew ?_) | (simp (maxSteps:=2000000) only [↓RG,RP,RB,BEq.rfl,Int.reduceEq,Int.reduceLT,Int.reduceLE,Nat.reduceEqDiff,h3]))
  refine G.cond (fun hsw=>?_) (fun hsw=>?_)
  ·simp only [if_pos hsw] at hK
   refine hZ (x:=a) ?_
   rw [if_pos h8]
   refine G.sub (hclose { x with past:=x.past++[gd a x.born pick],tries:=IntKind.wrap .i64 (x.tries+1) } _ rfl rfl rfl rfl rfl rfl rfl ?_)
   refine D2 (x:={ x with past:=x.past++[gd a x.born pick],tries:=IntKind.wrap .i64 (x.tries+1) }) (hjo _ rfl rfl rfl) hj hl (by show x.limbo.length+x.rests.length≤_;omega) ?_
   repeat' (first | (with_reducible refine G.joini0 ?_) | (with_reducible refine G.joini1 ?_) | (with_reducible refine G.drew ?_) | (simp (maxSteps:=2000000) only [↓RG,RP,RB,BEq.rfl,Int.reduceEq,Int.reduceLT,Int.reduceLE,Nat.reduceEqDiff]))
   exact hK s hs
  ·simp only [if_neg (show ¬x.sweep=true by rw [hsw];decide)] at hK
   have hfr:=hm2 hsw
   repeat' (first | (with_reducible refine G.joini0 ?_) | (with_reducible refine G.joini1 ?_) | (with_reducible refine G.drew ?_) | (simp (maxSteps:=2000000) only [↓RG,RP,RB,BEq.rfl,Int.reduceEq,Int.reduceLT,Int.reduceLE,Nat.reduceEqDiff]))
   refine hZ (x:=a) ?_
   rw [if_pos h8]
   repeat' (first | (with_reducible refine G.joini0 ?_) | (with_reducible refine G.joini1 ?_) | (with_reducible refine G.drew ?_) | (simp (maxSteps:=2000000) only [↓RG,RP,RB,BEq.rfl,Int.reduceEq,Int.reduceLT,Int.reduceLE,Nat.reduceEqDiff]))
   refine zi (x:=a) ?_
   rw [if_pos h8]
   repeat' (first | (with_reducible refine G.joini0 ?_) | (with_reducible refine G.joini1 ?_) | (with_reducible refine G.drew ?_) | (simp (maxSteps:=2000000) only [↓RG,RP,RB,BEq.rfl,Int.reduceEq,Int.reduceLT,Int.reduceLE,Nat.reduceEqDiff]))
   refine ux ht (x:=a) hg.items fun s2 hs2=>?_
   repeat' (first | (with_reducible refine G.joini0 ?_) | (with_reducible refine G.joini1 ?_) | (with_reducible refine G.drew ?_) | (simp (maxSteps:=2000000) only [↓RG,RP,RB,BEq.rfl,Int.reduceEq,Int.reduceLT,Int.reduceLE,Nat.reduceEqDiff]))
   refine pn (x:=a) ?_
   repeat' (first | (with_reducible refine G.joini0 ?_) | (with_reducible refine G.joini1 ?_) | (with_reducible refine G.drew ?_) | (simp (maxSteps:=2000000) only [↓RG,RP,RB,BEq.rfl,Int.reduceEq,Int.reduceLT,Int.reduceLE,Nat.reduceEqDiff]))
   refine G.build iB [⟨a.fin,a.err,s2,a.stamp⟩] rfl (by decide) rfl fun u7 h7=>?_
   repeat' (first | (with_reducible refine G.joini0 ?_) | (with_reducible refine G.joini1 ?_) | (with_reducible refine G.drew ?_) | (simp (maxSteps:=2000000) only [↓RG,RP,RB,BEq.rfl,Int.reduceEq,Int.reduceLT,Int.reduceLE,Nat.reduceEqDiff]))
   refine G.append (E:=iB) (xs:=x.res) (ys:=[⟨a.fin,a.err,s2,a.stamp⟩]) (by simp only [List.length_singleton];omega) (by simp only [List.length_singleton,maxLen];omega) fun u8 h8'=>?_
   repeat' (first | (with_reducible refine G.joini0 ?_) | (with_reducible refine G.joini1 ?_) | (with_reducible refine G.drew ?_) | (simp (maxSteps:=2000000) only [↓RG,RP,RB,BEq.rfl,Int.reduceEq,Int.reduceLT,Int.reduceLE,Nat.reduceEqDiff]))
   refine pn (x:=a) ?_
   repeat' (first | (with_reducible refine G.joini0 ?_) | (with_reducible refine G.joini1 ?_) | (with_reducible refine G.drew ?_) | (simp (maxSteps:=2000000) only [↓RG,RP,RB,BEq.rfl,Int.reduceEq,Int.reduceLT,Int.reduceLE,Nat.reduceEqDiff]))
   refine ug (x:=a) (fun h=>by have:=hg.frees h;omega) (by have:=hg.blocks;omega) fun f2=>?_
   repeat' (first | (with_reducible refine G.joini0 ?_) | (with_reducible refine G.joini1 ?_) | (with_reducible refine G.drew ?_) | (simp (maxSteps:=2000000) only [↓RG,RP,RB,BEq.rfl,Int.reduceEq,Int.reduceLT,Int.reduceLE,Nat.reduceEqDiff]))
   refine rB (xs:=x.limbo) (bs:=a.freed) (by omega) ?_
   repeat' (first | (with_reducible refine G.joini0 ?_) | (with_reducible refine G.joini1 ?_) | (with_reducible refine G.drew ?_) | (simp (maxSteps:=2000000) only [↓RG,RP,RB,BEq.rfl,Int.reduceEq,Int.reduceLT,Int.reduceLE,Nat.reduceEqDiff]))
   refine CG u5 l (pf x a pick r c f s) (gd a x.born pick) a.freed hll hok ?_
   refine i7 p a ?_
   rw [←hn]
   refine bv b { x with past:=x.past++[gd a x.born pick],tries:=IntKind.wrap .i64 (x.tries+1),res:=x.res++[⟨a.fin,a.err,s2,a.stamp⟩],limbo:=x.limbo++a.freed.map fun n=>⟨n,a.stamp⟩ } vj (ptr p 0) u5 u8 lp vt vs ?_
   refine Gr (x:={ x with past:=x.past++[gd a x.born pick],tries:=IntKind.wrap .i64 (x.tries+1),res:=x.res++[⟨a.fin,a.err,s2,a.stamp⟩],limbo:=x.limbo++a.freed.map fun n=>⟨n,a.stamp⟩ }) (hjo _ rfl rfl rfl) hj hl (by simp only [List.length_append,List.length_map];omega) ?_
   repeat' (first | (with_reducible refine G.joini0 ?_) | (with_reducible refine G.joini1 ?_) | (with_reducible refine G.drew ?_) | (simp (maxSteps:=2000000) only [↓RG,RP,RB,BEq.rfl,Int.reduceEq,Int.reduceLT,Int.reduceLE,Nat.reduceEqDiff]))
   exact(hK s2 hs2).sub
end
end Go.Proofs.YtoealglbimbbmaaGreatDoor.S
