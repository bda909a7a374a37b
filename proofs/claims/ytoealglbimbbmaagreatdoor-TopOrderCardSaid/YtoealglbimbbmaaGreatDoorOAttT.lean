import Derived.Test.YtoealglbimbbmaaGreatDoorOAtt
namespace Go.Proofs.YtoealglbimbbmaaGreatDoor.S
open Go Go.Proofs
set_option linter.unusedVariables false
set_option linter.unusedSimpArgs false
section
variable {w0:bh}{L M:List ay}{K:KV}{F:World→Prop}{C:ay→List ay}{b p pv pq:Nat}{x:bq}{v iv vf ve vc vr vb:Value}{i:tH}{c:Int}
theorem G.innDrop (h:i.isCom=false)(H:vc=.pointer none→G w0 M F):G w0 (ob gK (iv,vf,ve,vc) i::M) F:=by
 cases i with
 | none=>rw [vT];exact H
 | fetch f=>rw [jL];intro p e;exact(H e.2.2).sub
 | ext f=>rw [pS];intro p e;exact(H e.2.2).sub
 | com f=>cases h
theorem ja {e er by_:Int}[i:aq L fG b x C](hK:G w0 (C (ob fG b (hN x e er by_))) (K (.tuple #[]))):G w0 L (CP Tryz.prog gt [ptr b 0,i64 e,i64 er,i64 by_] K):=by
 refine i.use (fun M hK=>?_) hK
 refine vF ?_
 unfold mL
 rw [ca] at *
 intro iv vf ve vc vr vb pv pq
 have hK:=hK iv vf ve vc vr vb pv pq
 refine gr ?_
 exact hK
theorem yY (hc:x.inn.isCom=false)[i:aq L fG b x C](hK:G w0 (C (ob fG b (zy x c))) (K (.tuple #[]))):G w0 L (CP Tryz.prog Wo [ptr b 0,i64 c] K):=by
 refine i.use (fun M hK=>?_) hK
 refine vg ?_
 unfold mH
 rw [ca]
 intro iv vf ve vc vr vb pv pq
 refine G.take1 gK (iv,vf,ve,vc) ?_
 refine G.innDrop hc fun e=>?_
 subst e
 refine G.drew ?_
 refine gr ?_
 refine C1 ?_
 refine gr ?_
 refine JS fun p=>?_
 refine gr ?_
 refine iD ?_
 unfold fW
 refine gr ?_
 refine xI (p:=p) b (zy x c) ve vr vb pv pq rfl ?_
 exact hK
theorem uD {st:Int}(hc:x.inn.isCom=false)(hl:x.rd.length≤1000000)[i:aq L fG b x C](hK:G w0 (C (ob fG b (tt x st))) (K (.tuple #[]))):G w0 L (CP Tryz.prog Wp [ptr b 0,i64 st] K):=by
 refine i.use (fun M hK=>?_) hK
 refine sT ?_
 unfold kY
 rw [ca]
 intro iv vf ve vc vr vb pv pq
 refine G.take1 gK (iv,vf,ve,vc) ?_
 refine G.innDrop hc fun e=>?_
 subst e
 refine G.drew ?_
 refine gr ?_
 refine mm (xs:=x.rd) hl fun u hu=>?_
 refine gr ?_
 refine IA (xs:=x.rd) hl fun p=>?_
 refine gr ?_
 refine iD ?_
 unfold fW
 refine gr ?_
 refine Jq (p:=p) b (tt x st) vf vr vb pv pq rfl ?_
 exact hK.sub
theorem Im (o1:∀r,x.run=some r→wD 500 r x.v)(oB:x.blocks.length≤1000000∧x.given≤x.blocks.length)[i:aq L fG b x C](hK:G w0 (C (ob fG b (jD x).1)) (K (.tuple #[i64 (jD x).2.1,i64 (jD x).2.2]))) :
  G w0 L (CP Tryz.prog X6 [ptr b 0] K):=by
 refine i.use (fun M hK=>?_) hK
 refine xo ?_
 unfold ou
 rw [ca]
 intro iv vf ve vc vr vb pv pq
 cases hr:x.run with
 | some r =>
  have e:jD x=({ x with run:=some (jp 500 r x.v).1,v:=(jp 500 r x.v).2.1 },(jp 500 r x.v).2.2,(jp 500 r x.v).1.err):=by unfold jD;rw [hr]
  rw [e] at hK
  refine G.take1 kD (vr,pv) ?_
  rw [BE]
  intro pr e
  subst e
  repeat' (first | (with_reducible refine G.joini0 ?_) | (with_reducible refine G.joini1 ?_) | (with_reducible refine G.drew ?_) | (simp (maxSteps:=2000000) only [↓RG,RP,RB,BEq.rfl,Int.reduceEq,Int.reduceLT,Int.reduceLE,Nat.reduceEqDiff]))
  refine G.pickAll (As:=[ob eN (pr,pv) r,ob br pv x.v]) ?_
  simp only [List.cons_append,List.nil_append]
  refine Is (n:=500) (o1 r hr) ?_
  generalize jp 500 r x.v=R at hK
  obtain⟨y,t,q⟩:=R
  simp only at hK ⊢
  refine gg ?_
  refine H0 (vp:=pv) (x:=y) ?_
  refine BP pr pv y ?_
  refine ey b { x with run:=some y,v:=t } iv vf ve vc (ptr pr 0) vb pv pq ?_
  refine gg ?_
  exact hK
 | none =>
  have e:jD x=({ x with given:=(jx (x.blocks.drop x.given) x.given x.v).1,v:=(jx (x.blocks.drop x.given) x.given x.v).2.1 },(jx (x.blocks.drop x.given) x.given x.v).2.2.1,(jx (x.blocks.drop x.given) x.given x.v).2.2.2):=by unfold jD;rw [hr]
  rw [e] at hK
  refine G.take1 kD (vr,pv) ?_
  rw [BS]
  intro e
  subst e
  refine gg ?_
  generalize hR:jx (x.blocks.drop x.given) x.given x.v=R at hK
  refine G.loop0 (σ:=Nat×fR) (fun z=>own b (bq.cells { x with given:=z.1,v:=z.2 } iv vf ve vc (.pointer none) vb pv pq)::sl bg vb x.blocks::ob br pv z.2::ob fv pq (16,x.rd)::ob gK (iv,vf,ve,vc) x.inn::M) (fun z=>z.1≤x.blocks.length∧jx (x.blocks.drop z.1) z.1 z.2=R) (fun z=>x.blocks.length-z.1) (x.given,x.v) rfl ⟨oB.2,hR⟩ ?_
  rintro⟨k,s⟩ ⟨hk,he⟩ J hJ
  simp only at hk he hJ ⊢
  have hend:∀{s':fR} {q e:Int},R=(k,s',q,e)→G w0 (own b (bq.cells { x with given:=k,v:=s' } iv vf ve vc (.pointer none) vb pv pq)::sl bg vb x.blocks::ob br pv s'::ob fv pq (16,x.rd)::ob gK (iv,vf,ve,vc) x.inn::M) (K (.tuple #[i64 q,i64 e])):=fun {s' q e} h=>by
   rw [h] at hK
   refine DZ pv ?_
   rw [←hr]
   refine ey b { x with given:=k,v:=s' } iv vf ve vc (.pointer none) vb pv pq ?_
   exact hK
  by_cases c:k<x.blocks.length
  ·have e:=ct c
   rw [List.drop_eq_getElem_cons c,jx] at he
   have cl:((k:Int)<x.blocks.length):=by omega
   repeat' (first | (with_reducible refine G.joini0 ?_) | (with_reducible refine G.joini1 ?_) | (with_reducible refine G.drew ?_) | (simp (maxSteps:=2000000) only [↓RG,RP,RB,BEq.rfl,Int.reduceEq,Int.reduceLT,Int.reduceLE,Nat.reduceEqDiff,cl]))
   refine IW (s:=s) ?_
   generalize pB s x.blocks[k]=q at he
   obtain⟨s',q⟩:=q
   simp only at he ⊢
   by_cases c0:q=0
   ·rw [if_pos c0] at he
    refine gf (eq_true c0) ?_
    rw [di (by omega)]
    exact(hJ (k+1,s') ⟨c,he⟩ (by simp only;omega)).sub
   ·rw [if_neg c0] at he
    by_cases c11:q=11
    ·rw [if_pos c11] at he
     refine gf (an c0 (eq_true c11)) ?_
     exact(hend he.symm).sub
    ·rw [if_neg c11] at he
     refine gf (an c0 c11) ?_
     exact(hend he.symm).sub
  ·have cl:¬((k:Int)<x.blocks.length):=by omega
   rw [List.drop_eq_nil_of_le (by omega),jx] at he
   repeat' (first | (with_reducible refine G.joini0 ?_) | (with_reducible refine G.joini1 ?_) | (with_reducible refine G.drew ?_) | (simp (maxSteps:=2000000) only [↓RG,RP,RB,BEq.rfl,Int.reduceEq,Int.reduceLT,Int.reduceLE,Nat.reduceEqDiff,cl]))
   exact(hend he.symm).sub
theorem xD (ho:Fb x)[i:aq L fG b x C](hK:G w0 (C (ob fG b (pR x))) (K (.tuple #[]))) :
  G w0 L (CP Tryz.prog Wh [ptr b 0] K):=by
 refine i.use (fun M hK=>?_) hK
 refine tJ ?_
 unfold lN
 obtain⟨o1,oB,o2,o3,o4⟩:=ho
 unfold pR at hK
 refine Im (x:=x) o1 oB ?_
 have o2:(jD x).1.inn.isCom=false:=by unfold jD;split <;> exact o2
 have o3:(jD x).1.rd.length≤1000:=by unfold jD;split <;> exact o3
 generalize jD x=R at hK o2 o3 o4
 obtain⟨y,q,e⟩:=R
 unfold F6 at hK
 simp only at hK o2 o3 o4 ⊢
 rw [ca]
 intro iv vf ve vc vr vb pv pq
 by_cases c1:q=1
 ·rw [if_pos c1] at hK
  repeat' (first | (with_reducible refine G.joini0 ?_) | (with_reducible refine G.joini1 ?_) | (with_reducible refine G.drew ?_) | (simp (maxSteps:=2000000) only [↓RG,RP,RB,BEq.rfl,Int.reduceEq,Int.reduceLT,Int.reduceLE,Nat.reduceEqDiff,eq_true c1]))
  refine v9 (s:=y.v) ?_
  refine ey b y iv vf ve vc vr vb pv pq ?_
  refine yY (x:=y) o2 ?_
  repeat' (first | (with_reducible refine G.joini0 ?_) | (with_reducible refine G.joini1 ?_) | (with_reducible refine G.drew ?_) | (simp (maxSteps:=2000000) only [↓RG,RP,RB,BEq.rfl,Int.reduceEq,Int.reduceLT,Int.reduceLE,Nat.reduceEqDiff]))
  exact hK
 rw [if_neg c1] at hK
 by_cases c3:q=3
 ·rw [if_pos c3] at hK
  repeat' (first | (with_reducible refine G.joini0 ?_) | (with_reducible refine G.joini1 ?_) | (with_reducible refine G.drew ?_) | (simp (maxSteps:=2000000) only [↓RG,RP,RB,BEq.rfl,Int.reduceEq,Int.reduceLT,Int.reduceLE,Nat.reduceEqDiff,c1,eq_true c3]))
  refine ey b { y with blocking:=true } iv vf ve vc vr vb pv pq ?_
  refine uD (x:={ y with blocking:=true }) o2 (by simp only;omega) ?_
  repeat' (first | (with_reducible refine G.joini0 ?_) | (with_reducible refine G.joini1 ?_) | (with_reducible refine G.drew ?_) | (simp (maxSteps:=2000000) only [↓RG,RP,RB,BEq.rfl,Int.reduceEq,Int.reduceLT,Int.reduceLE,Nat.reduceEqDiff]))
  exact hK
 rw [if_neg c3] at hK
 by_cases c4:q=4
 ·rw [if_pos c4] at hK
  refine gf (an c1 (an c3 (eq_true c4))) ?_
  refine ey b y iv vf ve vc vr vb pv pq ?_
  refine ja (x:=y) ?_
  repeat' (first | (with_reducible refine G.joini0 ?_) | (with_reducible refine G.joini1 ?_) | (with_reducible refine G.drew ?_) | (simp (maxSteps:=2000000) only [↓RG,RP,RB,BEq.rfl,Int.reduceEq,Int.reduceLT,Int.reduceLE,Nat.reduceEqDiff]))
  exact hK
 rw [if_neg c4] at hK
 repeat' (first | (with_reducible refine G.joini0 ?_) | (with_reducible refine G.joini1 ?_) | (with_reducible refine G.drew ?_) | (simp (maxSteps:=2000000) only [↓RG,RP,RB,BEq.rfl,Int.reduceEq,Int.reduceLT,Int.reduceLE,Nat.reduceEqDiff,c1,c3,c4]))
 refine Bk (s:=y.v) fun u hu=>?_
 by_cases cz:y.v.l.cells=[]
 ·rw [if_pos cz] at hK
  rw [cz]
  repeat' (first | (with_reducible refine G.joini0 ?_) | (with_reducible refine G.joini1 ?_) | (with_reducible refine G.drew ?_) | (simp (maxSteps:=2000000) only [↓RG,RP,RB,BEq.rfl,Int.reduceEq,Int.reduceLT,Int.reduceLE,Nat.reduceEqDiff,List.length_nil,Int.cast_ofNat_Int]))
  refine ey b y iv vf ve vc vr vb pv pq ?_
  refine ja (x:=y) ?_
  repeat' (first | (with_reducible refine G.joini0 ?_) | (with_reducible refine G.joini1 ?_) | (with_reducible refine G.drew ?_) | (simp (maxSteps:=2000000) only [↓RG,RP,RB,BEq.rfl,Int.reduceEq,Int.reduceLT,Int.reduceLE,Nat.reduceEqDiff]))
  exact hK.sub
 ·rw [if_neg cz] at hK
  have cl:¬((y.v.l.cells.length:Nat):Int)=0:=by
   intro g
   exact cz (List.length_eq_zero_iff.1 (by omega))
  refine G.take1 gK (iv,vf,ve,vc) ?_
  refine G.innDrop o2 fun e=>?_
  subst e
  repeat' (first | (with_reducible refine G.joini0 ?_) | (with_reducible refine G.joini1 ?_) | (with_reducible refine G.drew ?_) | (simp (maxSteps:=2000000) only [↓RG,RP,RB,BEq.rfl,Int.reduceEq,Int.reduceLT,Int.reduceLE,Nat.reduceEqDiff,cl]))
  refine mm (xs:=y.rd) (by omega) fun u2 hu2=>?_
  refine gg ?_
  refine IK (seen:=y.rd) (cells:=y.v.l.cells) (by omega) (by omega) fun p=>?_
  refine gg ?_
  refine iD ?_
  unfold fW
  refine gg ?_
  refine IJ (p:=p) b { y with inn:=.com (nB y.me y.s.spins y.stamp y.rd y.v.l.cells (fM (de y.v.l.cells y.s.stripes y.s.wide) 16)),state:=6 } vf ve vr vb pv pq rfl ?_
  exact hK.sub
theorem Be {f:fT}(hx:x.inn=.fetch f)(ho:JM x f)[i:aq L fG b x C]
  (hK:G w0 (C (ob fG b (iV x f))) (K (.tuple #[]))):G w0 L (CP Tryz.prog Ym [ptr b 0] K):=by
 refine i.use (fun M hK=>?_) hK
 refine re ?_
 unfold jT
 obtain⟨o1,o2,o3,o4⟩:=ho
 rw [ca]
 intro iv vf ve vc vr vb pv pq
 refine G.take1 gK (iv,vf,ve,vc) ?_
 rw [hx,jL]
 rintro p ⟨e1,e2,e3⟩
 subst e1 e2 e3
 unfold iV at hK
 refine gr ?_
 refine ji (f:=f) ?_
 rcases o1 with h6 | hf2
 ·rw [if_pos h6] at hK
  refine eY h6 ?_
  refine xI (p:=p) b x ve vr vb pv pq hx ?_
  refine uD (x:=x) (by rw [hx]) (by omega) ?_
  refine gr ?_
  exact hK
 ·rw [if_neg (by omega)] at hK
  have o4:=o4 hf2
  repeat' (first | (with_reducible refine G.joini0 ?_) | (with_reducible refine G.joini1 ?_) | (with_reducible refine G.drew ?_) | (simp (maxSteps:=2000000) only [↓RG,RP,RB,BEq.rfl,Int.reduceEq,Int.reduceLT,Int.reduceLE,Nat.reduceEqDiff,hf2]))
  refine zH (f:=f) ?_
  rw [if_pos hf2]
  refine gg ?_
  refine Bx (m:=16) (xs:=x.rd) (x:=⟨f.stripe,f.lock.version⟩) o2 ?_
  by_cases c0:nH 16 x.rd ⟨f.stripe,f.lock.version⟩=0
  ·rw [if_pos c0] at hK
   rw [c0]
   repeat' (first | (with_reducible refine G.joini0 ?_) | (with_reducible refine G.joini1 ?_) | (with_reducible refine G.drew ?_) | (simp (maxSteps:=2000000) only [↓RG,RP,RB,BEq.rfl,Int.reduceEq,Int.reduceLT,Int.reduceLE,Nat.reduceEqDiff]))
   refine v9 (s:=x.v) ?_
   refine gg ?_
   refine zZ (f:=f) ?_
   rw [if_pos hf2]
   refine gg ?_
   refine JG (s:=x.v) (by omega) ?_
   refine gg ?_
   refine xI (p:=p) (f:=f) b (rq x f) ve vr vb pv pq hx ?_
   refine xD (x:=rq x f) (o4 c0) ?_
   repeat' (first | (with_reducible refine G.joini0 ?_) | (with_reducible refine G.joini1 ?_) | (with_reducible refine G.drew ?_) | (simp (maxSteps:=2000000) only [↓RG,RP,RB,BEq.rfl,Int.reduceEq,Int.reduceLT,Int.reduceLE,Nat.reduceEqDiff]))
   exact hK
  ·rw [if_neg c0] at hK
   have hout:∀e er J,G w0 (ob fG b (hN (kO x f) e er (-1))::M) J→G w0 (ob fv pq (16,nW 16 x.rd ⟨f.stripe,f.lock.version⟩)::ob jI p f::own b (x.cells (.iface 215 (ptr p 0)) (ptr p 0) ve (.pointer none) vr vb pv pq)::ob kD (vr,pv) x.run::sl bg vb x.blocks::ob br pv x.v::M) (CP Tryz.prog gt [ptr b 0,i64 e,i64 er,i64 (-1)] (fun _=>J)):=fun e er J hJ=>by
    refine xI (p:=p) (f:=f) b (kO x f) ve vr vb pv pq hx ?_
    exact ja (x:=kO x f) hJ
   by_cases c14:nH 16 x.rd ⟨f.stripe,f.lock.version⟩=14
   ·rw [if_pos c14] at hK
    rw [c14]
    refine gg ?_
    exact(hout 5 0 _ hK).sub
   ·rw [if_neg c14] at hK
    refine gf (an c0 c14) ?_
    exact(hout 4 _ _ hK).sub
theorem DO (ho:Mh x)(h0:x.inn.fin≠0)(h5:x.inn.fin≠5)[i:aq L fG b x C](hK:G w0 (C (ob fG b (pg x))) (K (.tuple #[]))):G w0 L (CP Tryz.prog X8 [ptr b 0] K):=by
 refine i.use (fun M hK=>?_) hK
 refine tn ?_
 unfold lw
 cases hx:x.inn with
 | none=>have:=ho.ok;rw [hx] at this;exact this.elim
 | fetch f =>
  obtain⟨s3,hr⟩:=ho.fetch f hx
  rw [hx] at h0 h5
  have h0:f.pat.fin≠0:=h0
  have h5:f.pat.fin≠5:=h5
  have hr:JM x f:=by
   rcases hr with g | g | g
   ·exact absurd g h0
   ·exact absurd g h5
   ·exact g
  simp only [pg,hx] at hK
  rw [ca]
  intro iv vf ve vc vr vb pv pq
  refine gf (eq_true s3) ?_
  refine ey b x iv vf ve vc vr vb pv pq ?_
  refine Be (x:=x) (f:=f) hx hr ?_
  repeat' (first | (with_reducible refine G.joini0 ?_) | (with_reducible refine G.joini1 ?_) | (with_reducible refine G.drew ?_) | (simp (maxSteps:=2000000) only [↓RG,RP,RB,BEq.rfl,Int.reduceEq,Int.reduceLT,Int.reduceLE,Nat.reduceEqDiff]))
  exact hK
 | ext e =>
  obtain⟨s4,hf⟩:=ho.ext e hx
  rw [hx] at h0 h5
  have h0:e.pat.fin≠0:=h0
  have h5:e.pat.fin≠5:=h5
  have hf2:e.pat.fin=2:=by omega
  simp only [pg,hx] at hK
  rw [ca]
  intro iv vf ve vc vr vb pv pq
  refine G.take1 gK (iv,vf,ve,vc) ?_
  rw [hx,pS]
  rintro p ⟨e1,e2,e3⟩
  subst e1 e2 e3
  have n3:x.state≠3:=by omega
  by_cases c4:x.state=4
  ·rw [if_pos c4] at hK
   repeat' (first | (with_reducible refine G.joini0 ?_) | (with_reducible refine G.joini1 ?_) | (with_reducible refine G.drew ?_) | (simp (maxSteps:=2000000) only [↓RG,RP,RB,BEq.rfl,Int.reduceEq,Int.reduceLT,Int.reduceLE,Nat.reduceEqDiff,n3,eq_true c4]))
   refine m6 (x:=e) ?_
   rw [if_pos hf2]
   refine gg ?_
   refine v9 (s:=x.v) ?_
   refine Jq (p:=p) (f:=e) b { x with stamp:=e.stamp } vf vr vb pv pq hx ?_
   refine yY (x:={ x with stamp:=e.stamp }) (c:=x.v.need) (by show x.inn.isCom=false;rw [hx]) ?_
   repeat' (first | (with_reducible refine G.joini0 ?_) | (with_reducible refine G.joini1 ?_) | (with_reducible refine G.drew ?_) | (simp (maxSteps:=2000000) only [↓RG,RP,RB,BEq.rfl,Int.reduceEq,Int.reduceLT,Int.reduceLE,Nat.reduceEqDiff]))
   exact hK
  ·rw [if_neg c4] at hK
   have c5:x.state=5:=by omega
   repeat' (first | (with_reducible refine G.joini0 ?_) | (with_reducible refine G.joini1 ?_) | (with_reducible refine G.drew ?_) | (simp (maxSteps:=2000000) only [↓RG,RP,RB,BEq.rfl,Int.reduceEq,Int.reduceLT,Int.reduceLE,Nat.reduceEqDiff,n3,c4,eq_true c5]))
   refine m6 (x:=e) ?_
   rw [if_pos hf2]
   refine gg ?_
   refine Jq (p:=p) (f:=e) b { x with stamp:=e.stamp } vf vr vb pv pq hx ?_
   refine ja (x:={ x with stamp:=e.stamp }) ?_
   repeat' (first | (with_reducible refine G.joini0 ?_) | (with_reducible refine G.joini1 ?_) | (with_reducible refine G.drew ?_) | (simp (maxSteps:=2000000) only [↓RG,RP,RB,BEq.rfl,Int.reduceEq,Int.reduceLT,Int.reduceLE,Nat.reduceEqDiff]))
   rw [←hx] at hK
   exact hK
 | com m =>
  have s6:=ho.com m hx
  simp only [pg,hx] at hK
  rw [ca]
  intro iv vf ve vc vr vb pv pq
  refine G.take1 gK (iv,vf,ve,vc) ?_
  rw [hx,pU]
  rintro p ⟨e1,e3⟩
  subst e1 e3
  have n3:x.state≠3:=by omega
  have n4:x.state≠4:=by omega
  have n5:x.state≠5:=by omega
  repeat' (first | (with_reducible refine G.joini0 ?_) | (with_reducible refine G.joini1 ?_) | (with_reducible refine G.drew ?_) | (simp (maxSteps:=2000000) only [↓RG,RP,RB,BEq.rfl,Int.reduceEq,Int.reduceLT,Int.reduceLE,Nat.reduceEqDiff,n3,n4,n5,eq_true s6]))
  refine km (x:=m) ?_
  refine gg ?_
  refine yC (x:=m) ?_
  refine gg ?_
  refine IJ (p:=p) (f:=m) b x vf ve vr vb pv pq hx ?_
  refine ja (x:=x) ?_
  refine gg ?_
  exact hK
theorem qX (hK:G w0 (ob fG b (jR x)::M) (K (.tuple #[]))):G w0 (ob fG b x::M) (CP Tryz.prog Vl [ptr b 0] (fun x6=>ae x6 (ai (ptr b 0) (fun x7=>ad 18 x7 (fun x8=>ab x8 (fun x9=>CP Tryz.prog Ws [x9] (fun x10=>ai (ptr b 0) (fun x11=>ad 21 x11 (fun x12=>ag 1 x12 x10 (fun _=>K (.tuple #[]))))))))) (K (.tuple #[])))):=by
 refine lI (x:=x) ?_
 unfold jR at hK
 cases hw:x.wr
 ·rw [if_neg (by rw [hw];decide)] at hK
  refine gr ?_
  exact hK
 ·rw [if_pos hw] at hK
  have hi:x.inn.wr=true:=by
   unfold bq.wr at hw
   simp only [Bool.and_eq_true] at hw
   exact hw.2
  cases hx:x.inn with
  | none=>rw [hx] at hi;cases hi
  | fetch f=>rw [hx] at hi;cases hi
  | ext f=>rw [hx] at hi;cases hi
  | com m =>
   simp only [hx] at hK
   rw [ca]
   intro iv vf ve vc vr vb pv pq
   refine G.take1 gK (iv,vf,ve,vc) ?_
   rw [hx,pU]
   rintro p ⟨e1,e3⟩
   subst e1 e3
   refine gr ?_
   refine uM (x:=m) ?_
   refine gr ?_
   refine IJ (p:=p) (f:=m) b { x with stamp:=tH.stamp (.com m) } vf ve vr vb pv pq hx ?_
   have e:({ x with stamp:=tH.stamp (.com m) }:bq)={ me:=x.me,s:=x.s,run:=x.run,blocks:=x.blocks,given:=x.given,v:=x.v,rd:=x.rd,state:=x.state,inn:=.com m,begun:=x.begun,beg:=x.beg,stamp:=tH.stamp (.com m),fin:=x.fin,by_:=x.by_,err:=x.err,blocking:=x.blocking }:=by rw [hx]
   rw [e]
   exact hK
theorem Fm (ho:Mh x)[i:aq L fG b x C](hK:G w0 (C (ob fG b (fZ x))) (K (.tuple #[]))):G w0 L (CP Tryz.prog X3 [ptr b 0] K):=by
 refine i.use (fun M hK=>?_) hK
 refine tU ?_
 unfold lE
 rw [ca]
 intro iv vf ve vc vr vb pv pq
 refine gg ?_
 refine G.take1 gK (iv,vf,ve,vc) ?_
 refine Se ho.ok ?_
 unfold fZ at hK
 by_cases h0:x.inn.fin=0
 ·rw [if_pos h0] at hK
  refine gf h0 ?_
  refine ey b x iv vf ve vc vr vb pv pq ?_
  refine qX (x:=x) ?_
  exact hK
 ·rw [if_neg h0] at hK
  by_cases h5:x.inn.fin=5
  ·rw [if_pos h5] at hK
   repeat' (first | (with_reducible refine G.joini0 ?_) | (with_reducible refine G.joini1 ?_) | (with_reducible refine G.drew ?_) | (simp (maxSteps:=2000000) only [↓RG,RP,RB,BEq.rfl,Int.reduceEq,Int.reduceLT,Int.reduceLE,Nat.reduceEqDiff,h0,h5]))
   refine SS ho.ok ?_
   repeat' (first | (with_reducible refine G.joini0 ?_) | (with_reducible refine G.joini1 ?_) | (with_reducible refine G.drew ?_) | (simp (maxSteps:=2000000) only [↓RG,RP,RB,BEq.rfl,Int.reduceEq,Int.reduceLT,Int.reduceLE,Nat.reduceEqDiff]))
   refine ey b x iv vf ve vc vr vb pv pq ?_
   refine ja (x:=x) ?_
   repeat' (first | (with_reducible refine G.joini0 ?_) | (with_reducible refine G.joini1 ?_) | (with_reducible refine G.drew ?_) | (simp (maxSteps:=2000000) only [↓RG,RP,RB,BEq.rfl,Int.reduceEq,Int.reduceLT,Int.reduceLE,Nat.reduceEqDiff]))
   refine qX (x:=hN x 5 0 x.inn.by_) ?_
   exact hK
  ·rw [if_neg h5] at hK
   refine gf (an h0 h5) ?_
   refine ey b x iv vf ve vc vr vb pv pq ?_
   refine DO (x:=x) ho h0 h5 ?_
   repeat' (first | (with_reducible refine G.joini0 ?_) | (with_reducible refine G.joini1 ?_) | (with_reducible refine G.drew ?_) | (simp (maxSteps:=2000000) only [↓RG,RP,RB,BEq.rfl,Int.reduceEq,Int.reduceLT,Int.reduceLE,Nat.reduceEqDiff]))
   refine qX (x:=pg x) ?_
   exact hK
theorem Fp {a:fH}(ho:nI x a)[i:aq L fG b x C](hK:G w0 (C (ob fG b (bm x a))) (K (.tuple #[]))):G w0 L (CP Tryz.prog XQ [ptr b 0,.agg (fH.cells a).toArray] K):=by
 refine i.use (fun M hK=>?_) hK
 refine tL ?_
 unfold lY
 refine G.box fun q=>?_
 rw [fA,ca]
 intro iv vf ve vc vr vb pv pq
 unfold bm at hK
 have he:=ho.err
 by_cases s8:x.state=8
 ·rw [if_pos s8,ca] at hK
  repeat' (first | (with_reducible refine G.joini0 ?_) | (with_reducible refine G.joini1 ?_) | (with_reducible refine G.drew ?_) | (simp (maxSteps:=2000000) only [↓RG,RP,RB,BEq.rfl,Int.reduceEq,Int.reduceLT,Int.reduceLE,Nat.reduceEqDiff,eq_true s8]))
  exact(hK iv vf ve vc vr vb pv pq).sub
 rw [if_neg s8] at hK
 by_cases s0:x.state=0
 ·rw [if_pos s0,ca] at hK
  repeat' (first | (with_reducible refine G.joini0 ?_) | (with_reducible refine G.joini1 ?_) | (with_reducible refine G.drew ?_) | (simp (maxSteps:=2000000) only [↓RG,RP,RB,BEq.rfl,Int.reduceEq,Int.reduceLT,Int.reduceLE,Nat.reduceEqDiff,s8,eq_true s0,eq_true he]))
  exact(hK iv vf ve vc vr vb pv pq).sub
 rw [if_neg s0] at hK
 by_cases s1:x.state=1
 ·rw [if_pos s1,ca] at hK
  repeat' (first | (with_reducible refine G.joini0 ?_) | (with_reducible refine G.joini1 ?_) | (with_reducible refine G.drew ?_) | (simp (maxSteps:=2000000) only [↓RG,RP,RB,BEq.rfl,Int.reduceEq,Int.reduceLT,Int.reduceLE,Nat.reduceEqDiff,s8,s0,eq_true s1,eq_true he]))
  exact(hK iv vf ve vc vr vb pv pq).sub
 rw [if_neg s1] at hK
 by_cases s2:x.state=2
 ·rw [if_pos s2] at hK
  have g1:=ho.work s2
  repeat' (first | (with_reducible refine G.joini0 ?_) | (with_reducible refine G.joini1 ?_) | (with_reducible refine G.drew ?_) | (simp (maxSteps:=2000000) only [↓RG,RP,RB,BEq.rfl,Int.reduceEq,Int.reduceLT,Int.reduceLE,Nat.reduceEqDiff,s8,s0,s1,eq_true s2,eq_true he]))
  refine ey b x iv vf ve vc vr vb pv pq ?_
  refine xD (x:=x) g1 ?_
  repeat' (first | (with_reducible refine G.joini0 ?_) | (with_reducible refine G.joini1 ?_) | (with_reducible refine G.drew ?_) | (simp (maxSteps:=2000000) only [↓RG,RP,RB,BEq.rfl,Int.reduceEq,Int.reduceLT,Int.reduceLE,Nat.reduceEqDiff]))
  exact hK.sub
 rw [if_neg s2] at hK
 by_cases s7:x.state=7
 ·rw [if_pos s7,ca] at hK
  repeat' (first | (with_reducible refine G.joini0 ?_) | (with_reducible refine G.joini1 ?_) | (with_reducible refine G.drew ?_) | (simp (maxSteps:=2000000) only [↓RG,RP,RB,BEq.rfl,Int.reduceEq,Int.reduceLT,Int.reduceLE,Nat.reduceEqDiff,s8,s0,s1,s2,eq_true s7,eq_true he]))
  exact(hK iv vf ve vc vr vb pv pq).sub
 rw [if_neg s7] at hK
 obtain⟨g1,g2⟩:=ho.inn s0 s1 s2 s7 s8
 repeat' (first | (with_reducible refine G.joini0 ?_) | (with_reducible refine G.joini1 ?_) | (with_reducible refine G.drew ?_) | (simp (maxSteps:=2000000) only [↓RG,RP,RB,BEq.rfl,Int.reduceEq,Int.reduceLT,Int.reduceLE,Nat.reduceEqDiff,s8,s0,s1,s2,s7,eq_true he]))
 refine G.take1 gK (iv,vf,ve,vc) ?_
 refine P9 g1 ?_
 repeat' (first | (with_reducible refine G.joini0 ?_) | (with_reducible refine G.joini1 ?_) | (with_reducible refine G.drew ?_) | (simp (maxSteps:=2000000) only [↓RG,RP,RB,BEq.rfl,Int.reduceEq,Int.reduceLT,Int.reduceLE,Nat.reduceEqDiff]))
 refine ey b { x with inn:=x.inn.tell a } iv vf ve vc vr vb pv pq ?_
 refine Fm (x:={ x with inn:=x.inn.tell a }) g2 ?_
 repeat' (first | (with_reducible refine G.joini0 ?_) | (with_reducible refine G.joini1 ?_) | (with_reducible refine G.drew ?_) | (simp (maxSteps:=2000000) only [↓RG,RP,RB,BEq.rfl,Int.reduceEq,Int.reduceLT,Int.reduceLE,Nat.reduceEqDiff]))
 exact hK.sub
theorem Fu (ho:x.state≠0→x.state≠1→x.state≠2→x.state≠7→x.state≠8→x.inn.ok)[i:aq L fG b x C](hK:G w0 L (K (.tuple #[.agg (rv.cells (cn x).1).toArray,.bool (cn x).2]))):G w0 L (CP Tryz.prog XP [ptr b 0] K):=by
 refine i.ro (fun M hK=>?_) hK
 refine tQ ?_
 unfold mg
 refine G.new fun q=>?_
 rw [fA]
 rw [ca] at *
 intro iv vf ve vc vr vb pv pq
 have hK:=hK iv vf ve vc vr vb pv pq
 unfold cn at hK
 by_cases s0:x.state=0
 ·rw [if_pos s0] at hK
  refine gf (eq_true s0) ?_
  exact hK.sub
 rw [if_neg s0] at hK
 by_cases s1:x.state=1
 ·rw [if_pos s1] at hK
  refine gf (an s0 (eq_true s1)) ?_
  exact hK.sub
 rw [if_neg s1] at hK
 by_cases s2:x.state=2
 ·rw [if_pos s2] at hK
  repeat' (first | (with_reducible refine G.joini0 ?_) | (with_reducible refine G.joini1 ?_) | (with_reducible refine G.drew ?_) | (simp (maxSteps:=2000000) only [↓RG,RP,RB,BEq.rfl,Int.reduceEq,Int.reduceLT,Int.reduceLE,Nat.reduceEqDiff,s0,s1,eq_true s2]))
  exact hK.sub
 rw [if_neg s2] at hK
 by_cases s7:x.state=7
 ·rw [if_pos s7] at hK
  refine gf (an s0 (an s1 (an s2 (eq_true s7)))) ?_
  exact hK.sub
 rw [if_neg s7] at hK
 by_cases s8:x.state=8
 ·rw [if_pos s8] at hK
  refine gf (an s0 (an s1 (an s2 (an s7 (eq_true s8))))) ?_
  exact hK.sub
 rw [if_neg s8] at hK
 refine gf (an s0 (an s1 (an s2 (an s7 s8)))) ?_
 refine G.take1 gK (iv,vf,ve,vc) ?_
 refine PS (ho s0 s1 s2 s7 s8) ?_
 refine gg ?_
 exact hK.sub
end
end Go.Proofs.YtoealglbimbbmaaGreatDoor.S
