import Derived.Test.YtoealglbimbbmaaGreatDoorOAtt
namespace Go.Proofs.YtoealglbimbbmaaGreatDoor.S
open Go Go.Proofs
set_option linter.unusedVariables false
set_option linter.unusedSimpArgs false
section
variable {w0:bh}{L M:List ay}{K:KV}{F:World→Prop}{C:ay→List ay}{b p pv pq:Nat}{x:bq}{v iv vf ve vc vr vb:Value}{i:tt}{c:Int}
theorem G.innDrop (h:i.isCom=false)(H:vc=.pointer none→G w0 M F):G w0 (ob gK (iv,vf,ve,vc) i::M) F:=by
 cases i with
 | none=>rw [v9];exact H
 | fetch f=>rw [jJ];intro p e;exact(H e.2.2).sub
 | ext f=>rw [pO];intro p e;exact(H e.2.2).sub
 | com f=>cases h
theorem ja {e er by_:Int}[i:aq L fH b x C](hK:G w0 (C (ob fH b (hC x e er by_))) (K (.tuple #[]))):G w0 L (CP Tryz.prog Fn.attempt_Attempt_out [ptr b 0,i64 e,i64 er,i64 by_] K):=by
 refine i.use (fun M hK=>?_) hK
 refine uV ?_
 unfold mA
 rw [cd] at *
 intro iv vf ve vc vr vb pv pq
 have hK:=hK iv vf ve vc vr vb pv pq
 refine gr ?_
 exact hK
theorem yO (hc:x.inn.isCom=false)[i:aq L fH b x C](hK:G w0 (C (ob fH b (zE x c))) (K (.tuple #[]))):G w0 L (CP Tryz.prog Fn.attempt_Attempt_ask [ptr b 0,i64 c] K):=by
 refine i.use (fun M hK=>?_) hK
 refine vh ?_
 unfold mM
 rw [cd]
 intro iv vf ve vc vr vb pv pq
 refine G.take1 gK (iv,vf,ve,vc) ?_
 refine G.innDrop hc fun e=>?_
 subst e
 refine G.drew ?_
 refine gr ?_
 refine Dg ?_
 refine gr ?_
 refine Ks fun p=>?_
 refine gr ?_
 refine iq ?_
 unfold fY
 refine gr ?_
 refine xQ (p:=p) b (zE x c) ve vr vb pv pq rfl ?_
 exact hK
theorem uA {st:Int}(hc:x.inn.isCom=false)(hl:x.rd.length≤1000000)[i:aq L fH b x C](hK:G w0 (C (ob fH b (sY x st))) (K (.tuple #[]))):G w0 L (CP Tryz.prog Fn.attempt_Attempt_later [ptr b 0,i64 st] K):=by
 refine i.use (fun M hK=>?_) hK
 refine sI ?_
 unfold li
 rw [cd]
 intro iv vf ve vc vr vb pv pq
 refine G.take1 gK (iv,vf,ve,vc) ?_
 refine G.innDrop hc fun e=>?_
 subst e
 refine G.drew ?_
 refine gr ?_
 refine l9 (xs:=x.rd) hl fun u hu=>?_
 refine gr ?_
 refine IG (xs:=x.rd) hl fun p=>?_
 refine gr ?_
 refine iq ?_
 unfold fY
 refine gr ?_
 refine IR (p:=p) b (sY x st) vf vr vb pv pq rfl ?_
 exact hK.sub
theorem Im (o1:∀r,x.run=some r→xD 500 r x.v)(oB:x.blocks.length≤1000000∧x.given≤x.blocks.length)[i:aq L fH b x C](hK:G w0 (C (ob fH b (jE x).1)) (K (.tuple #[i64 (jE x).2.1,i64 (jE x).2.2]))) :
  G w0 L (CP Tryz.prog Fn.attempt_Attempt_do [ptr b 0] K):=by
 refine i.use (fun M hK=>?_) hK
 refine vQ ?_
 unfold oW
 rw [cd]
 intro iv vf ve vc vr vb pv pq
 cases hr:x.run with
 | some r =>
  have e:jE x=({ x with run:=some (jp 500 r x.v).1,v:=(jp 500 r x.v).2.1 },(jp 500 r x.v).2.2,(jp 500 r x.v).1.err):=by unfold jE;rw [hr]
  rw [e] at hK
  refine G.take1 kz (vr,pv) ?_
  rw [Bb]
  intro pr e
  subst e
  repeat' (first | (with_reducible refine G.joini0 ?_) | (with_reducible refine G.joini1 ?_) | (with_reducible refine G.drew ?_) | (simp (maxSteps:=2000000) only [↓RG,RP,RB,BEq.rfl,Int.reduceEq,Int.reduceLT,Int.reduceLE,Nat.reduceEqDiff]))
  refine G.pickAll (As:=[ob eM (pr,pv) r,ob br pv x.v]) ?_
  simp only [List.cons_append,List.nil_append]
  refine IA (n:=500) (o1 r hr) ?_
  generalize jp 500 r x.v=R at hK
  obtain⟨y,t,q⟩:=R
  simp only at hK ⊢
  refine gg ?_
  refine Jj (vp:=pv) (x:=y) ?_
  refine A0 pr pv y ?_
  refine eF b { x with run:=some y,v:=t } iv vf ve vc (ptr pr 0) vb pv pq ?_
  refine gg ?_
  exact hK
 | none =>
  have e:jE x=({ x with given:=(jt (x.blocks.drop x.given) x.given x.v).1,v:=(jt (x.blocks.drop x.given) x.given x.v).2.1 },(jt (x.blocks.drop x.given) x.given x.v).2.2.1,(jt (x.blocks.drop x.given) x.given x.v).2.2.2):=by unfold jE;rw [hr]
  rw [e] at hK
  refine G.take1 kz (vr,pv) ?_
  rw [AE]
  intro e
  subst e
  refine gg ?_
  generalize hR:jt (x.blocks.drop x.given) x.given x.v=R at hK
  refine G.loop0 (σ:=Nat×fT) (fun z=>own b (bq.cells { x with given:=z.1,v:=z.2 } iv vf ve vc (.pointer none) vb pv pq)::sl bg vb x.blocks::ob br pv z.2::ob fv pq (16,x.rd)::ob gK (iv,vf,ve,vc) x.inn::M) (fun z=>z.1≤x.blocks.length∧jt (x.blocks.drop z.1) z.1 z.2=R) (fun z=>x.blocks.length-z.1) (x.given,x.v) rfl ⟨oB.2,hR⟩ ?_
  rintro⟨k,s⟩ ⟨hk,he⟩ J hJ
  simp only at hk he hJ ⊢
  have hend:∀{s':fT} {q e:Int},R=(k,s',q,e)→G w0 (own b (bq.cells { x with given:=k,v:=s' } iv vf ve vc (.pointer none) vb pv pq)::sl bg vb x.blocks::ob br pv s'::ob fv pq (16,x.rd)::ob gK (iv,vf,ve,vc) x.inn::M) (K (.tuple #[i64 q,i64 e])):=fun {s' q e} h=>by
   rw [h] at hK
   refine DY pv ?_
   rw [←hr]
   refine eF b { x with given:=k,v:=s' } iv vf ve vc (.pointer none) vb pv pq ?_
   exact hK
  by_cases c:k<x.blocks.length
  ·have e:=ct c
   rw [List.drop_eq_getElem_cons c,jt] at he
   have cl:((k:Int)<x.blocks.length):=by omega
   repeat' (first | (with_reducible refine G.joini0 ?_) | (with_reducible refine G.joini1 ?_) | (with_reducible refine G.drew ?_) | (simp (maxSteps:=2000000) only [↓RG,RP,RB,BEq.rfl,Int.reduceEq,Int.reduceLT,Int.reduceLE,Nat.reduceEqDiff,cl]))
   refine Id (s:=s) ?_
   generalize pG s x.blocks[k]=q at he
   obtain⟨s',q⟩:=q
   simp only at he ⊢
   by_cases c0:q=0
   ·rw [if_pos c0] at he
    refine gf (eq_true c0) ?_
    rw [di (by omega)]
    exact(hJ (k+1,s') ⟨c,he⟩ (by simp only;omega)).sub
   ·rw [if_neg c0] at he
    by_cases c11:q=11
    ·rw [if_pos c11] at he
     refine gf (an c0 (eq_true c11)) ?_
     exact(hend he.symm).sub
    ·rw [if_neg c11] at he
     refine gf (an c0 c11) ?_
     exact(hend he.symm).sub
  ·have cl:¬((k:Int)<x.blocks.length):=by omega
   rw [List.drop_eq_nil_of_le (by omega),jt] at he
   repeat' (first | (with_reducible refine G.joini0 ?_) | (with_reducible refine G.joini1 ?_) | (with_reducible refine G.drew ?_) | (simp (maxSteps:=2000000) only [↓RG,RP,RB,BEq.rfl,Int.reduceEq,Int.reduceLT,Int.reduceLE,Nat.reduceEqDiff,cl]))
   exact(hend he.symm).sub
theorem wT (ho:EM x)[i:aq L fH b x C](hK:G w0 (C (ob fH b (pS x))) (K (.tuple #[]))) :
  G w0 L (CP Tryz.prog Fn.attempt_Attempt_work [ptr b 0] K):=by
 refine i.use (fun M hK=>?_) hK
 refine tJ ?_
 unfold lF
 obtain⟨o1,oB,o2,o3,o4⟩:=ho
 unfold pS at hK
 refine Im (x:=x) o1 oB ?_
 have o2:(jE x).1.inn.isCom=false:=by unfold jE;split <;> exact o2
 have o3:(jE x).1.rd.length≤1000:=by unfold jE;split <;> exact o3
 generalize jE x=R at hK o2 o3 o4
 obtain⟨y,q,e⟩:=R
 unfold FC at hK
 simp only at hK o2 o3 o4 ⊢
 rw [cd]
 intro iv vf ve vc vr vb pv pq
 by_cases c1:q=1
 ·rw [if_pos c1] at hK
  repeat' (first | (with_reducible refine G.joini0 ?_) | (with_reducible refine G.joini1 ?_) | (with_reducible refine G.drew ?_) | (simp (maxSteps:=2000000) only [↓RG,RP,RB,BEq.rfl,Int.reduceEq,Int.reduceLT,Int.reduceLE,Nat.reduceEqDiff,eq_true c1]))
  refine wo (s:=y.v) ?_
  refine eF b y iv vf ve vc vr vb pv pq ?_
  refine yO (x:=y) o2 ?_
  repeat' (first | (with_reducible refine G.joini0 ?_) | (with_reducible refine G.joini1 ?_) | (with_reducible refine G.drew ?_) | (simp (maxSteps:=2000000) only [↓RG,RP,RB,BEq.rfl,Int.reduceEq,Int.reduceLT,Int.reduceLE,Nat.reduceEqDiff]))
  exact hK
 rw [if_neg c1] at hK
 by_cases c3:q=3
 ·rw [if_pos c3] at hK
  repeat' (first | (with_reducible refine G.joini0 ?_) | (with_reducible refine G.joini1 ?_) | (with_reducible refine G.drew ?_) | (simp (maxSteps:=2000000) only [↓RG,RP,RB,BEq.rfl,Int.reduceEq,Int.reduceLT,Int.reduceLE,Nat.reduceEqDiff,c1,eq_true c3]))
  refine eF b { y with blocking:=true } iv vf ve vc vr vb pv pq ?_
  refine uA (x:={ y with blocking:=true }) o2 (by simp only;omega) ?_
  repeat' (first | (with_reducible refine G.joini0 ?_) | (with_reducible refine G.joini1 ?_) | (with_reducible refine G.drew ?_) | (simp (maxSteps:=2000000) only [↓RG,RP,RB,BEq.rfl,Int.reduceEq,Int.reduceLT,Int.reduceLE,Nat.reduceEqDiff]))
  exact hK
 rw [if_neg c3] at hK
 by_cases c4:q=4
 ·rw [if_pos c4] at hK
  refine gf (an c1 (an c3 (eq_true c4))) ?_
  refine eF b y iv vf ve vc vr vb pv pq ?_
  refine ja (x:=y) ?_
  repeat' (first | (with_reducible refine G.joini0 ?_) | (with_reducible refine G.joini1 ?_) | (with_reducible refine G.drew ?_) | (simp (maxSteps:=2000000) only [↓RG,RP,RB,BEq.rfl,Int.reduceEq,Int.reduceLT,Int.reduceLE,Nat.reduceEqDiff]))
  exact hK
 rw [if_neg c4] at hK
 repeat' (first | (with_reducible refine G.joini0 ?_) | (with_reducible refine G.joini1 ?_) | (with_reducible refine G.drew ?_) | (simp (maxSteps:=2000000) only [↓RG,RP,RB,BEq.rfl,Int.reduceEq,Int.reduceLT,Int.reduceLE,Nat.reduceEqDiff,c1,c3,c4]))
 refine BH (s:=y.v) fun u hu=>?_
 by_cases cz:y.v.l.cells=[]
 ·rw [if_pos cz] at hK
  rw [cz]
  repeat' (first | (with_reducible refine G.joini0 ?_) | (with_reducible refine G.joini1 ?_) | (with_reducible refine G.drew ?_) | (simp (maxSteps:=2000000) only [↓RG,RP,RB,BEq.rfl,Int.reduceEq,Int.reduceLT,Int.reduceLE,Nat.reduceEqDiff,List.length_nil,Int.cast_ofNat_Int]))
  refine eF b y iv vf ve vc vr vb pv pq ?_
  refine ja (x:=y) ?_
  repeat' (first | (with_reducible refine G.joini0 ?_) | (with_reducible refine G.joini1 ?_) | (with_reducible refine G.drew ?_) | (simp (maxSteps:=2000000) only [↓RG,RP,RB,BEq.rfl,Int.reduceEq,Int.reduceLT,Int.reduceLE,Nat.reduceEqDiff]))
  exact hK.sub
 ·rw [if_neg cz] at hK
  have cl:¬((y.v.l.cells.length:Nat):Int)=0:=by
   intro g
   exact cz (List.length_eq_zero_iff.1 (by omega))
  refine G.take1 gK (iv,vf,ve,vc) ?_
  refine G.innDrop o2 fun e=>?_
  subst e
  repeat' (first | (with_reducible refine G.joini0 ?_) | (with_reducible refine G.joini1 ?_) | (with_reducible refine G.drew ?_) | (simp (maxSteps:=2000000) only [↓RG,RP,RB,BEq.rfl,Int.reduceEq,Int.reduceLT,Int.reduceLE,Nat.reduceEqDiff,cl]))
  refine l9 (xs:=y.rd) (by omega) fun u2 hu2=>?_
  refine gg ?_
  refine IB (seen:=y.rd) (cells:=y.v.l.cells) (by omega) (by omega) fun p=>?_
  refine gg ?_
  refine iq ?_
  unfold fY
  refine gg ?_
  refine H8 (p:=p) b { y with inn:=.com (nv y.me y.s.spins y.stamp y.rd y.v.l.cells (fK (de y.v.l.cells y.s.stripes y.s.wide) 16)),state:=6 } vf ve vr vb pv pq rfl ?_
  exact hK.sub
theorem Az {f:fQ}(hx:x.inn=.fetch f)(ho:Kl x f)[i:aq L fH b x C]
  (hK:G w0 (C (ob fH b (iQ x f))) (K (.tuple #[]))):G w0 L (CP Tryz.prog Fn.attempt_Attempt_fetched [ptr b 0] K):=by
 refine i.use (fun M hK=>?_) hK
 refine rg ?_
 unfold jT
 obtain⟨o1,o2,o3,o4⟩:=ho
 rw [cd]
 intro iv vf ve vc vr vb pv pq
 refine G.take1 gK (iv,vf,ve,vc) ?_
 rw [hx,jJ]
 rintro p ⟨e1,e2,e3⟩
 subst e1 e2 e3
 unfold iQ at hK
 refine gr ?_
 refine jh (f:=f) ?_
 rcases o1 with h6 | hf2
 ·rw [if_pos h6] at hK
  refine eY h6 ?_
  refine xQ (p:=p) b x ve vr vb pv pq hx ?_
  refine uA (x:=x) (by rw [hx]) (by omega) ?_
  refine gr ?_
  exact hK
 ·rw [if_neg (by omega)] at hK
  have o4:=o4 hf2
  repeat' (first | (with_reducible refine G.joini0 ?_) | (with_reducible refine G.joini1 ?_) | (with_reducible refine G.drew ?_) | (simp (maxSteps:=2000000) only [↓RG,RP,RB,BEq.rfl,Int.reduceEq,Int.reduceLT,Int.reduceLE,Nat.reduceEqDiff,hf2]))
  refine zH (f:=f) ?_
  rw [if_pos hf2]
  refine gg ?_
  refine AU (m:=16) (xs:=x.rd) (x:=⟨f.stripe,f.lock.version⟩) o2 ?_
  by_cases c0:ny 16 x.rd ⟨f.stripe,f.lock.version⟩=0
  ·rw [if_pos c0] at hK
   rw [c0]
   repeat' (first | (with_reducible refine G.joini0 ?_) | (with_reducible refine G.joini1 ?_) | (with_reducible refine G.drew ?_) | (simp (maxSteps:=2000000) only [↓RG,RP,RB,BEq.rfl,Int.reduceEq,Int.reduceLT,Int.reduceLE,Nat.reduceEqDiff]))
   refine wo (s:=x.v) ?_
   refine gg ?_
   refine zL (f:=f) ?_
   rw [if_pos hf2]
   refine gg ?_
   refine JD (s:=x.v) (by omega) ?_
   refine gg ?_
   refine xQ (p:=p) (f:=f) b (rr x f) ve vr vb pv pq hx ?_
   refine wT (x:=rr x f) (o4 c0) ?_
   repeat' (first | (with_reducible refine G.joini0 ?_) | (with_reducible refine G.joini1 ?_) | (with_reducible refine G.drew ?_) | (simp (maxSteps:=2000000) only [↓RG,RP,RB,BEq.rfl,Int.reduceEq,Int.reduceLT,Int.reduceLE,Nat.reduceEqDiff]))
   exact hK
  ·rw [if_neg c0] at hK
   have hout:∀e er J,G w0 (ob fH b (hC (kK x f) e er (-1))::M) J→G w0 (ob fv pq (16,nS 16 x.rd ⟨f.stripe,f.lock.version⟩)::ob jB p f::own b (x.cells (.iface 215 (ptr p 0)) (ptr p 0) ve (.pointer none) vr vb pv pq)::ob kz (vr,pv) x.run::sl bg vb x.blocks::ob br pv x.v::M) (CP Tryz.prog Fn.attempt_Attempt_out [ptr b 0,i64 e,i64 er,i64 (-1)] (fun _=>J)):=fun e er J hJ=>by
    refine xQ (p:=p) (f:=f) b (kK x f) ve vr vb pv pq hx ?_
    exact ja (x:=kK x f) hJ
   by_cases c14:ny 16 x.rd ⟨f.stripe,f.lock.version⟩=14
   ·rw [if_pos c14] at hK
    rw [c14]
    refine gg ?_
    exact(hout 5 0 _ hK).sub
   ·rw [if_neg c14] at hK
    refine gf (an c0 c14) ?_
    exact(hout 4 _ _ hK).sub
theorem DC (ho:Li x)(h0:x.inn.fin≠0)(h5:x.inn.fin≠5)[i:aq L fH b x C](hK:G w0 (C (ob fH b (om x))) (K (.tuple #[]))):G w0 L (CP Tryz.prog Fn.attempt_Attempt_ended [ptr b 0] K):=by
 refine i.use (fun M hK=>?_) hK
 refine sR ?_
 unfold ll
 cases hx:x.inn with
 | none=>have:=ho.ok;rw [hx] at this;exact this.elim
 | fetch f =>
  obtain⟨s3,hr⟩:=ho.fetch f hx
  rw [hx] at h0 h5
  have h0:f.pat.fin≠0:=h0
  have h5:f.pat.fin≠5:=h5
  have hr:Kl x f:=by
   rcases hr with g | g | g
   ·exact absurd g h0
   ·exact absurd g h5
   ·exact g
  simp only [om,hx] at hK
  rw [cd]
  intro iv vf ve vc vr vb pv pq
  refine gf (eq_true s3) ?_
  refine eF b x iv vf ve vc vr vb pv pq ?_
  refine Az (x:=x) (f:=f) hx hr ?_
  repeat' (first | (with_reducible refine G.joini0 ?_) | (with_reducible refine G.joini1 ?_) | (with_reducible refine G.drew ?_) | (simp (maxSteps:=2000000) only [↓RG,RP,RB,BEq.rfl,Int.reduceEq,Int.reduceLT,Int.reduceLE,Nat.reduceEqDiff]))
  exact hK
 | ext e =>
  obtain⟨s4,hf⟩:=ho.ext e hx
  rw [hx] at h0 h5
  have h0:e.pat.fin≠0:=h0
  have h5:e.pat.fin≠5:=h5
  have hf2:e.pat.fin=2:=by omega
  simp only [om,hx] at hK
  rw [cd]
  intro iv vf ve vc vr vb pv pq
  refine G.take1 gK (iv,vf,ve,vc) ?_
  rw [hx,pO]
  rintro p ⟨e1,e2,e3⟩
  subst e1 e2 e3
  have n3:x.state≠3:=by omega
  by_cases c4:x.state=4
  ·rw [if_pos c4] at hK
   repeat' (first | (with_reducible refine G.joini0 ?_) | (with_reducible refine G.joini1 ?_) | (with_reducible refine G.drew ?_) | (simp (maxSteps:=2000000) only [↓RG,RP,RB,BEq.rfl,Int.reduceEq,Int.reduceLT,Int.reduceLE,Nat.reduceEqDiff,n3,eq_true c4]))
   refine mP (x:=e) ?_
   rw [if_pos hf2]
   refine gg ?_
   refine wo (s:=x.v) ?_
   refine IR (p:=p) (f:=e) b { x with stamp:=e.stamp } vf vr vb pv pq hx ?_
   refine yO (x:={ x with stamp:=e.stamp }) (c:=x.v.need) (by show x.inn.isCom=false;rw [hx]) ?_
   repeat' (first | (with_reducible refine G.joini0 ?_) | (with_reducible refine G.joini1 ?_) | (with_reducible refine G.drew ?_) | (simp (maxSteps:=2000000) only [↓RG,RP,RB,BEq.rfl,Int.reduceEq,Int.reduceLT,Int.reduceLE,Nat.reduceEqDiff]))
   exact hK
  ·rw [if_neg c4] at hK
   have c5:x.state=5:=by omega
   repeat' (first | (with_reducible refine G.joini0 ?_) | (with_reducible refine G.joini1 ?_) | (with_reducible refine G.drew ?_) | (simp (maxSteps:=2000000) only [↓RG,RP,RB,BEq.rfl,Int.reduceEq,Int.reduceLT,Int.reduceLE,Nat.reduceEqDiff,n3,c4,eq_true c5]))
   refine mP (x:=e) ?_
   rw [if_pos hf2]
   refine gg ?_
   refine IR (p:=p) (f:=e) b { x with stamp:=e.stamp } vf vr vb pv pq hx ?_
   refine ja (x:={ x with stamp:=e.stamp }) ?_
   repeat' (first | (with_reducible refine G.joini0 ?_) | (with_reducible refine G.joini1 ?_) | (with_reducible refine G.drew ?_) | (simp (maxSteps:=2000000) only [↓RG,RP,RB,BEq.rfl,Int.reduceEq,Int.reduceLT,Int.reduceLE,Nat.reduceEqDiff]))
   rw [←hx] at hK
   exact hK
 | com m =>
  have s6:=ho.com m hx
  simp only [om,hx] at hK
  rw [cd]
  intro iv vf ve vc vr vb pv pq
  refine G.take1 gK (iv,vf,ve,vc) ?_
  rw [hx,pZ]
  rintro p ⟨e1,e3⟩
  subst e1 e3
  have n3:x.state≠3:=by omega
  have n4:x.state≠4:=by omega
  have n5:x.state≠5:=by omega
  repeat' (first | (with_reducible refine G.joini0 ?_) | (with_reducible refine G.joini1 ?_) | (with_reducible refine G.drew ?_) | (simp (maxSteps:=2000000) only [↓RG,RP,RB,BEq.rfl,Int.reduceEq,Int.reduceLT,Int.reduceLE,Nat.reduceEqDiff,n3,n4,n5,eq_true s6]))
  refine kn (x:=m) ?_
  refine gg ?_
  refine yz (x:=m) ?_
  refine gg ?_
  refine H8 (p:=p) (f:=m) b x vf ve vr vb pv pq hx ?_
  refine ja (x:=x) ?_
  refine gg ?_
  exact hK
theorem qO (hK:G w0 (ob fH b (jL x)::M) (K (.tuple #[]))):G w0 (ob fH b x::M) (CP Tryz.prog Fn.attempt_Attempt_Writing [ptr b 0] (fun x6=>ae x6 (ai (ptr b 0) (fun x7=>ad 18 x7 (fun x8=>ab x8 (fun x9=>CP Tryz.prog Fn.commit_Commit_Stamp [x9] (fun x10=>ai (ptr b 0) (fun x11=>ad 21 x11 (fun x12=>ag 1 x12 x10 (fun _=>K (.tuple #[]))))))))) (K (.tuple #[])))):=by
 refine lS (x:=x) ?_
 unfold jL at hK
 cases hw:x.wr
 ·rw [if_neg (by rw [hw];decide)] at hK
  refine gr ?_
  exact hK
 ·rw [if_pos hw] at hK
  have hi:x.inn.wr=true:=by
   unfold bq.wr at hw
   simp only [Bool.and_eq_true] at hw
   exact hw.2
  cases hx:x.inn with
  | none=>rw [hx] at hi;cases hi
  | fetch f=>rw [hx] at hi;cases hi
  | ext f=>rw [hx] at hi;cases hi
  | com m =>
   simp only [hx] at hK
   rw [cd]
   intro iv vf ve vc vr vb pv pq
   refine G.take1 gK (iv,vf,ve,vc) ?_
   rw [hx,pZ]
   rintro p ⟨e1,e3⟩
   subst e1 e3
   refine gr ?_
   refine u9 (x:=m) ?_
   refine gr ?_
   refine H8 (p:=p) (f:=m) b { x with stamp:=tt.stamp (.com m) } vf ve vr vb pv pq hx ?_
   have e:({ x with stamp:=tt.stamp (.com m) }:bq)={ me:=x.me,s:=x.s,run:=x.run,blocks:=x.blocks,given:=x.given,v:=x.v,rd:=x.rd,state:=x.state,inn:=.com m,begun:=x.begun,beg:=x.beg,stamp:=tt.stamp (.com m),fin:=x.fin,by_:=x.by_,err:=x.err,blocking:=x.blocking }:=by rw [hx]
   rw [e]
   exact hK
theorem F5 (ho:Li x)[i:aq L fH b x C](hK:G w0 (C (ob fH b (fX x))) (K (.tuple #[]))):G w0 L (CP Tryz.prog Fn.attempt_Attempt_told [ptr b 0] K):=by
 refine i.use (fun M hK=>?_) hK
 refine uc ?_
 unfold lQ
 rw [cd]
 intro iv vf ve vc vr vb pv pq
 refine gg ?_
 refine G.take1 gK (iv,vf,ve,vc) ?_
 refine Ra ho.ok ?_
 unfold fX at hK
 by_cases h0:x.inn.fin=0
 ·rw [if_pos h0] at hK
  refine gf h0 ?_
  refine eF b x iv vf ve vc vr vb pv pq ?_
  refine qO (x:=x) ?_
  exact hK
 ·rw [if_neg h0] at hK
  by_cases h5:x.inn.fin=5
  ·rw [if_pos h5] at hK
   repeat' (first | (with_reducible refine G.joini0 ?_) | (with_reducible refine G.joini1 ?_) | (with_reducible refine G.drew ?_) | (simp (maxSteps:=2000000) only [↓RG,RP,RB,BEq.rfl,Int.reduceEq,Int.reduceLT,Int.reduceLE,Nat.reduceEqDiff,h0,h5]))
   refine S2 ho.ok ?_
   repeat' (first | (with_reducible refine G.joini0 ?_) | (with_reducible refine G.joini1 ?_) | (with_reducible refine G.drew ?_) | (simp (maxSteps:=2000000) only [↓RG,RP,RB,BEq.rfl,Int.reduceEq,Int.reduceLT,Int.reduceLE,Nat.reduceEqDiff]))
   refine eF b x iv vf ve vc vr vb pv pq ?_
   refine ja (x:=x) ?_
   repeat' (first | (with_reducible refine G.joini0 ?_) | (with_reducible refine G.joini1 ?_) | (with_reducible refine G.drew ?_) | (simp (maxSteps:=2000000) only [↓RG,RP,RB,BEq.rfl,Int.reduceEq,Int.reduceLT,Int.reduceLE,Nat.reduceEqDiff]))
   refine qO (x:=hC x 5 0 x.inn.by_) ?_
   exact hK
  ·rw [if_neg h5] at hK
   refine gf (an h0 h5) ?_
   refine eF b x iv vf ve vc vr vb pv pq ?_
   refine DC (x:=x) ho h0 h5 ?_
   repeat' (first | (with_reducible refine G.joini0 ?_) | (with_reducible refine G.joini1 ?_) | (with_reducible refine G.drew ?_) | (simp (maxSteps:=2000000) only [↓RG,RP,RB,BEq.rfl,Int.reduceEq,Int.reduceLT,Int.reduceLE,Nat.reduceEqDiff]))
   refine qO (x:=om x) ?_
   exact hK
theorem Ei {a:fG}(ho:m9 x a)[i:aq L fH b x C](hK:G w0 (C (ob fH b (bm x a))) (K (.tuple #[]))):G w0 L (CP Tryz.prog Fn.attempt_Attempt_Tell [ptr b 0,.agg (fG.cells a).toArray] K):=by
 refine i.use (fun M hK=>?_) hK
 refine tn ?_
 unfold lU
 refine G.box fun q=>?_
 rw [fA,cd]
 intro iv vf ve vc vr vb pv pq
 unfold bm at hK
 have he:=ho.err
 by_cases s8:x.state=8
 ·rw [if_pos s8,cd] at hK
  repeat' (first | (with_reducible refine G.joini0 ?_) | (with_reducible refine G.joini1 ?_) | (with_reducible refine G.drew ?_) | (simp (maxSteps:=2000000) only [↓RG,RP,RB,BEq.rfl,Int.reduceEq,Int.reduceLT,Int.reduceLE,Nat.reduceEqDiff,eq_true s8]))
  exact(hK iv vf ve vc vr vb pv pq).sub
 rw [if_neg s8] at hK
 by_cases s0:x.state=0
 ·rw [if_pos s0,cd] at hK
  repeat' (first | (with_reducible refine G.joini0 ?_) | (with_reducible refine G.joini1 ?_) | (with_reducible refine G.drew ?_) | (simp (maxSteps:=2000000) only [↓RG,RP,RB,BEq.rfl,Int.reduceEq,Int.reduceLT,Int.reduceLE,Nat.reduceEqDiff,s8,eq_true s0,eq_true he]))
  exact(hK iv vf ve vc vr vb pv pq).sub
 rw [if_neg s0] at hK
 by_cases s1:x.state=1
 ·rw [if_pos s1,cd] at hK
  repeat' (first | (with_reducible refine G.joini0 ?_) | (with_reducible refine G.joini1 ?_) | (with_reducible refine G.drew ?_) | (simp (maxSteps:=2000000) only [↓RG,RP,RB,BEq.rfl,Int.reduceEq,Int.reduceLT,Int.reduceLE,Nat.reduceEqDiff,s8,s0,eq_true s1,eq_true he]))
  exact(hK iv vf ve vc vr vb pv pq).sub
 rw [if_neg s1] at hK
 by_cases s2:x.state=2
 ·rw [if_pos s2] at hK
  have g1:=ho.work s2
  repeat' (first | (with_reducible refine G.joini0 ?_) | (with_reducible refine G.joini1 ?_) | (with_reducible refine G.drew ?_) | (simp (maxSteps:=2000000) only [↓RG,RP,RB,BEq.rfl,Int.reduceEq,Int.reduceLT,Int.reduceLE,Nat.reduceEqDiff,s8,s0,s1,eq_true s2,eq_true he]))
  refine eF b x iv vf ve vc vr vb pv pq ?_
  refine wT (x:=x) g1 ?_
  repeat' (first | (with_reducible refine G.joini0 ?_) | (with_reducible refine G.joini1 ?_) | (with_reducible refine G.drew ?_) | (simp (maxSteps:=2000000) only [↓RG,RP,RB,BEq.rfl,Int.reduceEq,Int.reduceLT,Int.reduceLE,Nat.reduceEqDiff]))
  exact hK.sub
 rw [if_neg s2] at hK
 by_cases s7:x.state=7
 ·rw [if_pos s7,cd] at hK
  repeat' (first | (with_reducible refine G.joini0 ?_) | (with_reducible refine G.joini1 ?_) | (with_reducible refine G.drew ?_) | (simp (maxSteps:=2000000) only [↓RG,RP,RB,BEq.rfl,Int.reduceEq,Int.reduceLT,Int.reduceLE,Nat.reduceEqDiff,s8,s0,s1,s2,eq_true s7,eq_true he]))
  exact(hK iv vf ve vc vr vb pv pq).sub
 rw [if_neg s7] at hK
 obtain⟨g1,g2⟩:=ho.inn s0 s1 s2 s7 s8
 repeat' (first | (with_reducible refine G.joini0 ?_) | (with_reducible refine G.joini1 ?_) | (with_reducible refine G.drew ?_) | (simp (maxSteps:=2000000) only [↓RG,RP,RB,BEq.rfl,Int.reduceEq,Int.reduceLT,Int.reduceLE,Nat.reduceEqDiff,s8,s0,s1,s2,s7,eq_true he]))
 refine G.take1 gK (iv,vf,ve,vc) ?_
 refine Pn g1 ?_
 repeat' (first | (with_reducible refine G.joini0 ?_) | (with_reducible refine G.joini1 ?_) | (with_reducible refine G.drew ?_) | (simp (maxSteps:=2000000) only [↓RG,RP,RB,BEq.rfl,Int.reduceEq,Int.reduceLT,Int.reduceLE,Nat.reduceEqDiff]))
 refine eF b { x with inn:=x.inn.tell a } iv vf ve vc vr vb pv pq ?_
 refine F5 (x:={ x with inn:=x.inn.tell a }) g2 ?_
 repeat' (first | (with_reducible refine G.joini0 ?_) | (with_reducible refine G.joini1 ?_) | (with_reducible refine G.drew ?_) | (simp (maxSteps:=2000000) only [↓RG,RP,RB,BEq.rfl,Int.reduceEq,Int.reduceLT,Int.reduceLE,Nat.reduceEqDiff]))
 exact hK.sub
theorem Ey (ho:x.state≠0→x.state≠1→x.state≠2→x.state≠7→x.state≠8→x.inn.ok)[i:aq L fH b x C](hK:G w0 L (K (.tuple #[.agg (rq.cells (cn x).1).toArray,.bool (cn x).2]))):G w0 L (CP Tryz.prog Fn.attempt_Attempt_Next [ptr b 0] K):=by
 refine i.ro (fun M hK=>?_) hK
 refine tZ ?_
 unfold lX
 refine G.new fun q=>?_
 rw [fA]
 rw [cd] at *
 intro iv vf ve vc vr vb pv pq
 have hK:=hK iv vf ve vc vr vb pv pq
 unfold cn at hK
 by_cases s0:x.state=0
 ·rw [if_pos s0] at hK
  refine gf (eq_true s0) ?_
  exact hK.sub
 rw [if_neg s0] at hK
 by_cases s1:x.state=1
 ·rw [if_pos s1] at hK
  refine gf (an s0 (eq_true s1)) ?_
  exact hK.sub
 rw [if_neg s1] at hK
 by_cases s2:x.state=2
 ·rw [if_pos s2] at hK
  repeat' (first | (with_reducible refine G.joini0 ?_) | (with_reducible refine G.joini1 ?_) | (with_reducible refine G.drew ?_) | (simp (maxSteps:=2000000) only [↓RG,RP,RB,BEq.rfl,Int.reduceEq,Int.reduceLT,Int.reduceLE,Nat.reduceEqDiff,s0,s1,eq_true s2]))
  exact hK.sub
 rw [if_neg s2] at hK
 by_cases s7:x.state=7
 ·rw [if_pos s7] at hK
  refine gf (an s0 (an s1 (an s2 (eq_true s7)))) ?_
  exact hK.sub
 rw [if_neg s7] at hK
 by_cases s8:x.state=8
 ·rw [if_pos s8] at hK
  refine gf (an s0 (an s1 (an s2 (an s7 (eq_true s8))))) ?_
  exact hK.sub
 rw [if_neg s8] at hK
 refine gf (an s0 (an s1 (an s2 (an s7 s8)))) ?_
 refine G.take1 gK (iv,vf,ve,vc) ?_
 refine QI (ho s0 s1 s2 s7 s8) ?_
 refine gg ?_
 exact hK.sub
end
end Go.Proofs.YtoealglbimbbmaaGreatDoor.S
