import Derived.Test.YtoealglbimbbmaaGreatDoorRThrE
namespace Go.Proofs.YtoealglbimbbmaaGreatDoor.S
open Go Go.Proofs
set_option linter.unusedVariables false
set_option linter.unusedSimpArgs false
section
variable {w0:bg}{L M:List ax}{K:KV}{F:World→Prop}{C:ax→List ax}{b lp p:Nat}{x:cY}{v vj vn vp vr vt vs:Value}{draw pick:Int}
theorem Ic (hsl:x.state=5→x.slots.length≤4)(ho:x.state=1→∃a,x.now=some a∧(a.state≠0→a.state≠1→a.state≠2→a.state≠7→a.state≠8→a.inn.ok))[i:al L fP b x C]
  (hK:G w0 L (K (.tuple #[.agg (rv.cells (br x).1).toArray,.bool (br x).2]))):G w0 L (CP Tryz.prog ZE [ptr b 0] K):=by
 refine i.ro (fun M hK=>?_) hK
 refine xC ?_
 unfold nR
 refine G.new fun q=>?_
 rw [eN]
 rw [dE] at *
 intro vj vn vp vr lp vt vs
 have hK:=hK vj vn vp vr lp vt vs
 unfold br at hK
 by_cases s1:x.state=1
 ·obtain⟨a,hn,ha⟩:=ho s1
  simp only [s1,if_true,hn] at hK
  have hK:G w0 (ob lR vn (some a)::own b (x.cells vj vn vp vr lp vt vs)::ob gY vj x.jobs::ob jo vp x.past::sl gR vr x.res::ob (jP cy) lp x.limbo::sl cy vt x.rests::sl de vs x.slots::M) (K (.tuple #[.agg (rv.cells (cX a).1).toArray,.bool (cX a).2])):=hK.sub
  rw [pX] at hK
  refine G.take1 lR vn ?_
  rw [hn,pX]
  intro p e
  have hK:=hK p e
  subst e
  refine gf (eq_true s1) ?_
  refine FZ (x:=a) ha ?_
  refine gg ?_
  exact hK.sub
 ·rw [if_neg s1] at hK
  by_cases s2:x.state=2
  ·rw [if_pos s2] at hK
   refine gf (an s1 (eq_true s2)) ?_
   exact hK.sub
  ·rw [if_neg s2] at hK
   by_cases s5:x.state=5
   ·rw [if_pos s5] at hK
    refine gf (an s1 (an s2 (eq_true s5))) ?_
    exact hK.sub
   ·rw [if_neg s5] at hK
    refine gf (an s1 (an s2 s5)) ?_
    exact hK.sub
theorem HW {a:fi}(ht0:vh w0)(ho:G9 x a)(hd:0≤draw)(hd2:draw≤255)[i:al L fP b x C]
  (hK:∀sl_ ρ,dm ρ→(∀at_,x.now=some at_→uf (bk ρ at_ a) sl_)→G w0 (C (ob fP b (thrTell ρ x a draw pick sl_))) (K (.tuple #[]))):G w0 L (CP Tryz.prog ZF [ptr b 0,.agg (fi.cells a).toArray,.int .u8 draw,i64 pick] K):=by
 refine i.useA (A':=fun z:{ s:HE×ByteArray // dm s.1∧∀at_,x.now=some at_→uf (bk s.1 at_ a) s.2 }=>ob fP b (thrTell z.1.1 x a draw pick z.1.2)) (F':=fun _=>K (.tuple #[])) (fun M hK=>?_) (fun z=>hK z.1.2 z.1.1 z.2.1 z.2.2)
 have hK:∀sl_ ρ,dm ρ→(∀at_,x.now=some at_→uf (bk ρ at_ a) sl_)→G w0 (ob fP b (thrTell ρ x a draw pick sl_)::M) (K (.tuple #[])):=fun sl_ ρ hρ h=>hK ⟨(ρ,sl_),hρ,h⟩
 obtain⟨ρ0,hρ0⟩:=si
 have hsl:∃s0,∀at_,x.now=some at_→uf (bk ρ0 at_ a) s0:=by
  cases h:x.now with
  | none=>exact⟨⟨#[]⟩,fun _ g=>(by cases g)⟩
  | some q=>exact⟨TG (bk ρ0 q a),fun _ g=>(by cases g;exact KY)⟩
 obtain⟨s0,hs0⟩:=hsl
 refine xi ?_
 unfold nW
 refine G.box fun q=>?_
 rw [eN,dE]
 intro vj vn vp vr lp vt vs
 unfold thrTell at hK
 by_cases s1:x.state=1
 ·obtain⟨hjl,_,_,at_,hn,ht,hg⟩:=ho.run s1
  simp only [if_pos s1,hn] at hK
  have hK:=fun sl_ ρ hρ (h:uf (bk ρ at_ a) sl_)=>hK sl_ ρ hρ (fun q g=>by cases g;exact h)
  unfold p6 at hK
  refine G.take1 lR vn ?_
  rw [hn,pX]
  intro p e
  subst e
  repeat' (first | (with_reducible refine G.joini0 ?_) | (with_reducible refine G.joini1 ?_) | (with_reducible refine G.drew ?_) | (simp (maxSteps:=2000000) only [↓RG,RP,RB,BEq.rfl,Int.reduceEq,Int.reduceLT,Int.reduceLE,Nat.reduceEqDiff,eq_true s1]))
  refine kf (x:=at_) ?_
  repeat' (first | (with_reducible refine G.joini0 ?_) | (with_reducible refine G.joini1 ?_) | (with_reducible refine G.drew ?_) | (simp (maxSteps:=2000000) only [↓RG,RP,RB,BEq.rfl,Int.reduceEq,Int.reduceLT,Int.reduceLE,Nat.reduceEqDiff]))
  refine GF (x:=at_) (a:=a) ht fun ρ hρ=>?_
  have hK:=fun sl_ h=>hK sl_ ρ hρ h
  have hg:=hg ρ hρ
  obtain⟨s0,hs0⟩:∃s0,uf (bk ρ at_ a) s0:=⟨_,KY⟩
  generalize hat:bk ρ at_ a=a2 at hK hg hs0
  refine gg ?_
  refine kf (x:=a2) ?_
  refine gu ?_
  refine gr ?_
  refine G.joini0 ?_
  have hfin:∀bn:Int,bn=(if a2.begun && !at_.begun then pick else x.born)→G w0 (ob em p a2::own b (cY.cells { x with now:=some a2,born:=bn } vj (ptr p 0) vp vr lp vt vs)::ob gY vj x.jobs::ob jo vp x.past::sl gR vr x.res::ob (jP cy) lp x.limbo::sl cy vt x.rests::sl de vs x.slots::own q (fi.cells a)::M)
    (CP Tryz.prog Xk [ptr p 0] (fun x29=>ab .neq x29 (i64 0) (fun x30=>ar (K (.tuple #[])) (fun j3=>ae x30 (CP Tryz.prog Yo [ptr b 0,.int .u8 draw,i64 pick] (fun x31=>j3)) j3)))):=by
   intro bn hbn
   simp only [←hbn] at hK
   repeat' (first | (with_reducible refine G.joini0 ?_) | (with_reducible refine G.joini1 ?_) | (with_reducible refine G.drew ?_) | (simp (maxSteps:=2000000) only [↓RG,RP,RB,BEq.rfl,Int.reduceEq,Int.reduceLT,Int.reduceLE,Nat.reduceEqDiff]))
   refine gE (x:=a2) ?_
   by_cases c8:a2.state=8
   ·obtain⟨g1,g3⟩:=hg c8
    rw [if_pos c8]
    by_cases cf:a2.fin=0
    ·have hK:=hK s0 hs0
     rw [if_neg (fun h=>h.2 cf)] at hK
     rw [cf]
     refine gg ?_
     refine iH p a2 ?_
     refine cq b { x with now:=some a2,born:=bn } vj (ptr p 0) vp vr lp vt vs ?_
     exact hK.sub
    ·simp only [if_pos (show a2.state=8∧a2.fin≠0 from⟨c8,cf⟩)] at hK
     refine gf cf ?_
     refine iH p a2 ?_
     refine cq b { x with now:=some a2,born:=bn } vj (ptr p 0) vp vr lp vt vs ?_
     have hj:=ho.jobs
     refine FC ht0 (x:={ x with now:=some a2,born:=bn }) (a:=a2) rfl g1 ho.past ho.res ho.limbo g3 ⟨hj.lo,hj.hi,hj.progs,hj.rests⟩ hjl ho.few hd hd2 fun sl_ hsl=>?_
     repeat' (first | (with_reducible refine G.joini0 ?_) | (with_reducible refine G.joini1 ?_) | (with_reducible refine G.drew ?_) | (simp (maxSteps:=2000000) only [↓RG,RP,RB,BEq.rfl,Int.reduceEq,Int.reduceLT,Int.reduceLE,Nat.reduceEqDiff]))
     exact(hK sl_ hsl).sub
   ·rw [if_neg c8]
    have hK:=hK s0 hs0
    rw [if_neg (fun h=>c8 h.1)] at hK
    refine gg ?_
    refine iH p a2 ?_
    refine cq b { x with now:=some a2,born:=bn } vj (ptr p 0) vp vr lp vt vs ?_
    exact hK.sub
  cases hb:(a2.begun && !at_.begun)
  ·have h:=hfin x.born (by rw [hb];simp)
   refine gg ?_
   exact h
  ·have h:=hfin pick (by rw [hb];simp)
   refine gg ?_
   exact h
 ·simp only [if_neg s1] at hK
  by_cases s2:x.state=2
  ·simp only [if_pos s2] at hK
   repeat' (first | (with_reducible refine G.joini0 ?_) | (with_reducible refine G.joini1 ?_) | (with_reducible refine G.drew ?_) | (simp (maxSteps:=2000000) only [↓RG,RP,RB,BEq.rfl,Int.reduceEq,Int.reduceLT,Int.reduceLE,Nat.reduceEqDiff,s1,eq_true s2]))
   refine cq b x vj vn vp vr lp vt vs ?_
   refine Fx (x:=x) (a:=a) ho.jobs hd hd2 ?_
   repeat' (first | (with_reducible refine G.joini0 ?_) | (with_reducible refine G.joini1 ?_) | (with_reducible refine G.drew ?_) | (simp (maxSteps:=2000000) only [↓RG,RP,RB,BEq.rfl,Int.reduceEq,Int.reduceLT,Int.reduceLE,Nat.reduceEqDiff]))
   exact(hK s0 ρ0 hρ0 hs0).sub
  ·simp only [if_neg s2] at hK
   by_cases s5:x.state=5
   ·simp only [if_pos s5] at hK
    obtain⟨g1,g2,g3⟩:=ho.slots s5
    have hlk:=ho.look s5
    have hlm:=ho.limbo
    by_cases ce:a.err=0
    ·simp only [if_pos ce] at hK
     repeat' (first | (with_reducible refine G.joini0 ?_) | (with_reducible refine G.joini1 ?_) | (with_reducible refine G.drew ?_) | (simp (maxSteps:=2000000) only [↓RG,RP,RB,BEq.rfl,Int.reduceEq,Int.reduceLT,Int.reduceLE,Nat.reduceEqDiff,s1,s2,eq_true s5,eq_true ce]))
     refine cq b x vj vn vp vr lp vt vs ?_
     refine uE (x:=x) (since:=a.word) ho.jobs hlk ho.few g1 (by omega) ?_
     repeat' (first | (with_reducible refine G.joini0 ?_) | (with_reducible refine G.joini1 ?_) | (with_reducible refine G.drew ?_) | (simp (maxSteps:=2000000) only [↓RG,RP,RB,BEq.rfl,Int.reduceEq,Int.reduceLT,Int.reduceLE,Nat.reduceEqDiff]))
     exact(hK s0 ρ0 hρ0 hs0).sub
    ·simp only [if_neg ce] at hK
     repeat' (first | (with_reducible refine G.joini0 ?_) | (with_reducible refine G.joini1 ?_) | (with_reducible refine G.drew ?_) | (simp (maxSteps:=2000000) only [↓RG,RP,RB,BEq.rfl,Int.reduceEq,Int.reduceLT,Int.reduceLE,Nat.reduceEqDiff,s1,s2,eq_true s5,ce]))
     refine cq b x vj vn vp vr lp vt vs ?_
     refine uE (x:=x) (since:=0) ho.jobs hlk ho.few g1 (by omega) ?_
     repeat' (first | (with_reducible refine G.joini0 ?_) | (with_reducible refine G.joini1 ?_) | (with_reducible refine G.drew ?_) | (simp (maxSteps:=2000000) only [↓RG,RP,RB,BEq.rfl,Int.reduceEq,Int.reduceLT,Int.reduceLE,Nat.reduceEqDiff]))
     exact(hK s0 ρ0 hρ0 hs0).sub
   ·simp only [if_neg s5] at hK
    have hK:=hK s0 ρ0 hρ0 hs0
    rw [dE] at hK
    refine gf (an s1 (an s2 s5)) ?_
    exact(hK vj vn vp vr lp vt vs).sub
end
end Go.Proofs.YtoealglbimbbmaaGreatDoor.S
namespace Go.Proofs.YtoealglbimbbmaaGreatDoor.S
open Go Go.Proofs
set_option linter.unusedVariables false
set_option linter.unusedSimpArgs false
theorem G.sliceAll {α:Type}{E:jB α}{w0:bg}{L:List ax}{C:ax→List ax}{v:Value}{xs:List α}{K:KV}{sz:Nat}[s:n8 L v E xs C](h:G w0 L (K v)):G w0 L (fO sz v none (some (i64 xs.length)) K):=fun w H=>by
 obtain⟨M,e1,e2⟩:=oD (w0:=w0) s.sel
 have hw:=h w H
 rcases((e1 w).1 H).sl_cases with ⟨rfl,rfl,H2⟩ | ⟨c,cap,rest,rfl,g2,g3,H2⟩
 ·simpa [fO,Ck] using hw
 ·simp only [fO,Ck]
  refine⟨by omega,by omega,by omega,?_⟩
  have e:(if cap=((0:Nat):Int).toNat then some (⟨c,0,none⟩:Addr) else Option.map (fun x=>x.add (((0:Nat):Int).toNat*sz)) (some (⟨c,0,none⟩:Addr)))=some ⟨c,0,none⟩:=by
   split
   ·rfl
   ·simp [Addr.add]
  have e2:((xs.length:Int)).toNat-((0:Nat):Int).toNat=xs.length:=by simp
  have e3:cap-((0:Nat):Int).toNat=cap:=by simp
  rw [e,e2,e3]
  exact hw
section
variable {w0:bg}{L M:List ax}{K:KV}{F:World→Prop}{C:ax→List ax}{b lp p:Nat}{x:cY}{v vj vn vp vr vt vs:Value}
theorem Cm {me:Int}{s:dQ}{jobs:List (List dD)}(hm0:0≤me)(hm1:me<(dv s).threads)(h6:jobs.length≤6)(hok:∀p∈jobs,ir p)[i:al L gY v jobs C]
  (hK:∀b,G w0 (ob fP b (kU me s jobs)::L) (K (ptr b 0))):G w0 L (CP Tryz.prog ZG [i64 me,.agg (dQ.cells s).toArray,v] K):=by
 refine i.roN (P:=fun _=>True) (N:=fun b=>ob fP b (kU me s jobs)) (F':=fun b=>K (ptr b 0)) (fun M hK=>?_) (fun b _=>hK b)
 refine JL ?_
 unfold B7
 rw [pR]
 intro l hl
 have hlen:l.length=jobs.length:=by rw [←hl];simp
 have ht4:(dv s).threads≤4:=(eQ (n:=s.threads) (lo:=1) (hi:=4) (by omega)).2
 refine G.box fun q=>?_
 refine gg ?_
 refine qn ?_
 repeat' (first | (with_reducible refine G.joini0 ?_) | (with_reducible refine G.joini1 ?_) | (with_reducible refine G.drew ?_) | (simp (maxSteps:=2000000) only [↓RG,RP,RB,BEq.rfl,Int.reduceEq,Int.reduceLT,Int.reduceLE,Nat.reduceEqDiff]))
 rw [ik (n:=(dv s).threads-1) (by omega) (by omega)]
 have e1:(if (dv s).threads-1<me then (dv s).threads-1 else me)=me:=by rw [if_neg (by omega)]
 have e2:(if me > 0 then me else 0)=me:=by split <;> omega
 refine gf (an e1 e2) ?_
 refine MD fun lp=>?_
 refine gg ?_
 refine G.box fun b=>?_
 have hc:(if ((6:Int)<((l.map (·.1)).length:Int)) then 6 else ((l.map (·.1)).length:Int))=((l.map (·.1)).length:Int):=by rw [if_neg (by simp;omega)]
 refine gf hc ?_
 refine G.sliceAll ?_
 refine gg ?_
 refine G.nilsl dY ?_
 refine ll (f:=qo) ?_
 refine G.loop1 (σ:=Nat×List (im×List dD)×Value) (fun s=>i64 s.1) (fun z=>ob (co qo) () z.2.1::sl dY z.2.2 (z.2.1.map (·.1))::own b (cY.cells ⟨me,dv s,jobs,-1,0,false,[],0,0,none,0,false,[],[],[],[],0,0,false,0⟩ z.2.2 (.pointer none) (.slice none 0 0) (.slice none 0 0) lp (.slice none 0 0) (.slice none 0 0))::ob (jP cy) lp []::own q (dQ.cells (dv s))::sl dY v (l.map (·.1))::ob (co qo) () l::M)
  (fun z=>z.1≤l.length∧z.2.1.map (·.2)=jobs.take z.1∧av z.2.2 [z.2.2]) (fun z=>l.length-z.1) (0,[],.slice none 0 0) rfl rfl ⟨Nat.zero_le _,rfl,bf⟩ ?_
 rintro⟨k,l',vj⟩ ⟨hk,hl',hvj⟩ J hJ
 simp only at hk hl' hvj hJ ⊢
 have hlen':l'.length=k:=by
  have:=congrArg List.length hl'
  simp only [List.length_map,List.length_take] at this
  omega
 refine gr ?_
 refine G.cond (fun h=>?_) (fun h=>?_)
 ·have hkl:k<l.length:=by simpa using h
  have hkj:k<jobs.length:=by omega
  have e:eA (l.map (·.1)) k l[k].1:=⟨by rw [List.getElem?_map,List.getElem?_eq_getElem hkl];rfl⟩
  have hq:l[k].2=jobs[k]:=by simp only [←hl,List.getElem_map]
  have hpo:=(hok _ (List.getElem_mem hkj)).2.1
  refine gg ?_
  refine G.new fun q2=>?_
  repeat' (first | (with_reducible refine G.joini0 ?_) | (with_reducible refine G.joini1 ?_) | (with_reducible refine G.drew ?_) | (simp (maxSteps:=2000000) only [↓RG,RP,RB,BEq.rfl,Int.reduceEq,Int.reduceLT,Int.reduceLE,Nat.reduceEqDiff]))
  refine G.pickAll (As:=[ob (co qo) () l]) ?_
  simp only [List.cons_append,List.nil_append]
  refine mS (r:=Sz (List.getElem?_eq_getElem hkl)) (by rw [hq];omega) fun u hu=>?_
  refine G.isSl (v:=u) fun su hsu=>?_
  subst hsu
  refine gg ?_
  refine G.build dY [su] rfl (by decide) rfl fun y hy=>?_
  refine gg ?_
  refine G.append (E:=dY) (xs:=l'.map (fun z:im×List dD=>z.1)) (ys:=[su]) (by simp only [List.length_map,List.length_singleton];omega) (by simp only [List.length_map,List.length_singleton,maxLen];omega) fun u5 h5=>?_
  refine gg ?_
  rw [dt (by omega)]
  have hn:=hJ (k+1,l'++[(su,l[k].2)],u5) ⟨hkl,by rw [List.map_append,hl',List.map_singleton,hq,List.take_succ_eq_append_getElem hkj],h5⟩ (by simp only;omega)
  simp only [List.map_append,List.map_cons,List.map_nil] at hn
  refine G.pickAll (As:=[qo (su,l[k].2),ob (co qo) () l']) ?_
  rw [List.cons_append,List.cons_append,List.nil_append,←gy]
  exact hn.sub
 ·have hkl:k=l.length:=by
   have:¬k<l.length:=by simpa using h
   omega
  have hjj:l'.map (·.2)=jobs:=by rw [hl',List.take_of_length_le (by omega)]
  refine yh vj l' ?_
  rw [hjj]
  refine ON ?_
  refine G.nilsl gR ?_
  refine G.nilsl eE ?_
  refine ll (f:=dI) ?_
  refine G.nilsl cy ?_
  refine G.nilsl de ?_
  have hp:∀{N:List ax} {F:World→Prop},G w0 (ob jo (.slice none 0 0) []::N) F→G w0 (ob (co dI) () []::sl eE (.slice none 0 0) []::N) F:=fun H=>by
   rw [kG] at H
   rw [eN]
   exact H [] ⟨rfl,by simp⟩
  refine G.pickAll (As:=[ob (co dI) () [],sl eE (.slice none 0 0) []]) ?_
  simp only [List.cons_append,List.nil_append]
  refine hp ?_
  refine cq b ⟨me,dv s,jobs,-1,0,false,[],0,0,none,0,false,[],[],[],[],0,0,false,0⟩ vj (.pointer none) (.slice none 0 0) (.slice none 0 0) lp (.slice none 0 0) (.slice none 0 0) ?_
  refine fY (x:=⟨me,dv s,jobs,-1,0,false,[],0,0,none,0,false,[],[],[],[],0,0,false,0⟩) ⟨by show (0:Int)≤-1+1;decide,by show (-1:Int)+1≤_;omega,hok,by simp⟩ (by show jobs.length≤_;omega) ?_
  repeat' (first | (with_reducible refine G.joini0 ?_) | (with_reducible refine G.joini1 ?_) | (with_reducible refine G.drew ?_) | (simp (maxSteps:=2000000) only [↓RG,RP,RB,BEq.rfl,Int.reduceEq,Int.reduceLT,Int.reduceLE,Nat.reduceEqDiff]))
  have h2:=hK b trivial
  rw [eN,pR] at h2
  have h3:=h2 l hl
  exact h3.sub
theorem E2 {l:List fG}{k:Nat}{q:fG}(h:l[k]? = some q):Rd w0 (ob (co dI) () l::M) q.1.reads.v bd 2 q.2.1.reads∧Rd w0 (ob (co dI) () l::M) q.1.cells_.v bd 2 q.2.1.cells∧Rd w0 (ob (co dI) () l::M) q.1.frees.v cd 1 q.2.2:=by
 have e0:dI q=bu (bu (sl bd q.1.reads.v q.2.1.reads) (sl bd q.1.cells_.v q.2.1.cells)) (sl cd q.1.frees.v q.2.2):=rfl
 have e1:G w0 (ob (co dI) () l::M) (fun w=>fc bd w q.1.reads.v q.2.1.reads):=by
  rw [jl h,e0,dP,dP]
  exact fun w H=>St.sl_is H
 have e2:G w0 (ob (co dI) () l::M) (fun w=>fc bd w q.1.cells_.v q.2.1.cells):=by
  rw [jl h,e0,dP,dP,eN]
  exact fun w H=>St.sl_is H
 have e3:G w0 (ob (co dI) () l::M) (fun w=>fc cd w q.1.frees.v q.2.2):=by
  rw [jl h,e0,dP,dP,GC]
  exact fun w H=>St.sl_is H
 exact⟨⟨rfl,fun w H=>e1 w H⟩,⟨rfl,fun w H=>e2 w H⟩,⟨rfl,fun w H=>e3 w H⟩⟩
theorem EG {a:s9}{rd cl:List aw}{fr:List Int}(r1:Rd w0 L a.reads.v bd 2 rd)(r2:Rd w0 L a.cells_.v bd 2 cl)(r3:Rd w0 L a.frees.v cd 1 fr)(h1:rd.length≤1000)(h2:cl.length≤1000)(h3:fr.length≤100000)
  (hK:∀r c f:im,G w0 (sl bd r.v rd::sl bd c.v cl::sl cd f.v fr::L) (K (.agg (s9.cells { a with reads:=r,cells_:=c,frees:=f }).toArray))):G w0 L (CP Tryz.prog ZH [.agg (s9.cells a).toArray] K):=by
 refine EB ?_
 unfold uN
 refine G.box fun q=>?_
 refine G.new fun q2=>?_
 repeat' (first | (with_reducible refine G.joini0 ?_) | (with_reducible refine G.joini1 ?_) | (with_reducible refine G.drew ?_) | (simp (maxSteps:=2000000) only [↓RG,RP,RB,BEq.rfl,Int.reduceEq,Int.reduceLT,Int.reduceLE,Nat.reduceEqDiff]))
 refine dV (xs:=rd) (by omega) fun u1 g1=>?_
 refine G.isSl (v:=u1) fun s1 e1=>?_
 subst e1
 refine gg ?_
 refine dV (xs:=cl) (by omega) fun u2 g2=>?_
 refine G.isSl (v:=u2) fun s2 e2=>?_
 subst e2
 refine gg ?_
 refine ij (xs:=fr) (by omega) fun u3 g3=>?_
 refine G.isSl (v:=u3) fun s3 e3=>?_
 subst e3
 refine gg ?_
 exact(hK s1 s2 s3).sub
theorem Rt (ys:List fG)(e:s9)(t:Ta)(fr:List Int) [cx [sl bd e.reads.v t.reads,sl bd e.cells_.v t.cells,sl cd e.frees.v fr,ob (co dI) () ys] L M](H:G w0 (ob (co dI) () (ys++[(e,t,fr)])::M) F):G w0 L F :=
 G.pickAll (As:=[sl bd e.reads.v t.reads,sl bd e.cells_.v t.cells,sl cd e.frees.v fr,ob (co dI) () ys]) (by
  rw [gy,show dI (e,t,fr)=bu (bu (sl bd e.reads.v t.reads) (sl bd e.cells_.v t.cells)) (sl cd e.frees.v fr) from rfl,dP,dP] at H
  exact H)
theorem yl {n:List Ta}(u:Value)(l:List fG) [cx [sl eE u (l.map (·.1)),ob (co dI) () l] L M](hl:l.map (·.2.1)=n∧∀p∈l,tq p)(H:G w0 (ob jo u n::M) F):G w0 L F :=
 G.pickAll (As:=[sl eE u (l.map (·.1)),ob (co dI) () l]) (by rw [kG] at H;exact H l hl)
theorem BO (ht:vh w0)(hp:x.past.length≤1000000)(hr:x.state=1→∃a,x.now=some a∧DL a)[i:al L fP b x C](hK:∀u,av u [u]→G w0 (ob jo u (dJ x)::L) (K u)):G w0 L (CP Tryz.prog ZI [ptr b 0] K):=by
 refine i.roN (fun M hK=>?_) hK
 refine rW ?_
 unfold j5
 rw [dE]
 intro vj vn vp vr lp vt vs
 refine G.take1 jo vp ?_
 rw [kG]
 intro l hl
 have hlen:l.length=x.past.length:=by rw [←hl.1];simp
 refine gg ?_
 refine G.nilsl eE ?_
 refine ll (f:=dI) ?_
 refine G.loop2 (σ:=Nat×List fG×Value) (fun z=>z.2.2) (fun z=>i64 z.1) (fun z=>ob (co dI) () z.2.1::sl eE z.2.2 (z.2.1.map (·.1))::sl eE vp (l.map (·.1))::ob (co dI) () l::own b (x.cells vj vn vp vr lp vt vs)::ob gY vj x.jobs::ob lR vn x.now::sl gR vr x.res::ob (jP cy) lp x.limbo::sl cy vt x.rests::sl de vs x.slots::M)
  (fun z=>z.1≤l.length∧z.2.1.length=z.1∧z.2.1.map (·.2.1)=x.past.take z.1∧(∀p∈z.2.1,tq p)∧av z.2.2 [z.2.2]) (fun z=>l.length-z.1) (0,[],.slice none 0 0) rfl rfl rfl ⟨Nat.zero_le _,rfl,rfl,by simp,bf⟩ ?_
 rintro⟨k,ys,vy⟩ ⟨hk,hy,hy2,hy3,hvy⟩ J hJ
 simp only at hk hy hy2 hy3 hvy hJ ⊢
 refine gr ?_
 refine G.cond (fun h=>?_) (fun h=>?_)
 ·have hkl:k<l.length:=by simpa using h
  have hkp:k<x.past.length:=by omega
  have hx2:=hl.2 _ (List.getElem_mem hkl)
  have e:eA (l.map (·.1)) k l[k].1:=⟨by rw [List.getElem?_map,List.getElem?_eq_getElem hkl];rfl⟩
  have hq:l[k].2.1=x.past[k]:=by simp only [←hl.1,List.getElem_map]
  refine gg ?_
  refine G.new fun q2=>?_
  refine gg ?_
  refine G.pickAll (As:=[ob (co dI) () l]) ?_
  simp only [List.cons_append,List.nil_append]
  have hr:=fun N:List ax=>E2 (w0:=w0) (M:=N) (List.getElem?_eq_getElem hkl)
  refine EG (a:=l[k].1) (rd:=l[k].2.1.reads) (cl:=l[k].2.1.cells) (fr:=l[k].2.2) (hr _).1 (hr _).2.1 (hr _).2.2 hx2.reads hx2.cells hx2.frees fun r c f=>?_
  repeat' (first | (with_reducible refine G.joini0 ?_) | (with_reducible refine G.joini1 ?_) | (with_reducible refine G.drew ?_) | (simp (maxSteps:=2000000) only [↓RG,RP,RB,BEq.rfl,Int.reduceEq,Int.reduceLT,Int.reduceLE,Nat.reduceEqDiff]))
  refine G.build eE [{ l[k].1 with reads:=r,cells_:=c,frees:=f }] rfl (by decide) rfl fun y g6=>?_
  refine gg ?_
  refine G.append (E:=eE) (xs:=ys.map fun z:fG=>z.1) (ys:=[{ l[k].1 with reads:=r,cells_:=c,frees:=f }]) (by simp only [List.length_map,List.length_singleton];omega) (by simp only [List.length_map,List.length_singleton,maxLen];omega) fun u5 h5=>?_
  refine gg ?_
  rw [dt (by omega)]
  have hn:=hJ (k+1,ys++[({ l[k].1 with reads:=r,cells_:=c,frees:=f },l[k].2.1,l[k].2.2)],u5) ⟨hkl,by simp [hy],by rw [List.map_append,hy2,List.map_singleton,hq,List.take_succ_eq_append_getElem hkp],fun p hp=>by
   rcases List.mem_append.1 hp with hp | hp
   ·exact hy3 p hp
   ·rw [List.mem_singleton.1 hp];exact⟨hx2.stamp,hx2.done,hx2.born,hx2.ended,hx2.reads,hx2.cells,hx2.frees⟩,h5⟩ (by simp only;omega)
  simp only [List.map_append,List.map_cons,List.map_nil] at hn
  refine Rt ys { l[k].1 with reads:=r,cells_:=c,frees:=f } l[k].2.1 l[k].2.2 ?_
  exact hn.sub
 ·have hkl:k=l.length:=by
   have:¬k<l.length:=by simpa using h
   omega
  have hys:ys.map (·.2.1)=x.past:=by rw [hy2,hkl,hlen,List.take_length]
  have hsame:dJ x=x.past→G w0 (ob (co dI) () ys::sl eE vy (ys.map (·.1))::sl eE vp (l.map (·.1))::ob (co dI) () l::own b (x.cells vj vn vp vr lp vt vs)::ob gY vj x.jobs::ob lR vn x.now::sl gR vr x.res::ob (jP cy) lp x.limbo::sl cy vt x.rests::sl de vs x.slots::M) (K vy):=fun e=>by
   rw [e] at hK
   refine yl vp l hl ?_
   refine yl vy ys ⟨hys,hy3⟩ ?_
   refine cq b x vj vn vp vr lp vt vs ?_
   exact(hK vy hvy).sub
  by_cases s1:x.state=1
  ·obtain⟨a,ha,hto⟩:=hr s1
   have et:dJ x=x.past++(if a.begun=true then [fD a x.born 0] else []):=by unfold dJ;rw [if_pos s1,ha]
   refine G.take1 lR vn ?_
   rw [ha,pX]
   intro p e
   subst e
   repeat' (first | (with_reducible refine G.joini0 ?_) | (with_reducible refine G.joini1 ?_) | (with_reducible refine G.drew ?_) | (simp (maxSteps:=2000000) only [↓RG,RP,RB,BEq.rfl,Int.reduceEq,Int.reduceLT,Int.reduceLE,Nat.reduceEqDiff,eq_true s1]))
   refine kf (x:=a) ?_
   refine gg ?_
   refine G.cond (fun hb=>?_) (fun hb=>?_)
   ·rw [et,if_pos hb] at hK
    refine G.pickAll (As:=[own b (x.cells vj (ptr p 0) vp vr lp vt vs),ob em p a]) ?_
    simp only [List.cons_append,List.nil_append]
    refine zF ht (x:=x) (pick:=0) hto fun r c f s _=>?_
    repeat' (first | (with_reducible refine G.joini0 ?_) | (with_reducible refine G.joini1 ?_) | (with_reducible refine G.drew ?_) | (simp (maxSteps:=2000000) only [↓RG,RP,RB,BEq.rfl,Int.reduceEq,Int.reduceLT,Int.reduceLE,Nat.reduceEqDiff]))
    refine G.build eE [oH x a 0 r c f s] rfl (by decide) rfl fun y g6=>?_
    repeat' (first | (with_reducible refine G.joini0 ?_) | (with_reducible refine G.joini1 ?_) | (with_reducible refine G.drew ?_) | (simp (maxSteps:=2000000) only [↓RG,RP,RB,BEq.rfl,Int.reduceEq,Int.reduceLT,Int.reduceLE,Nat.reduceEqDiff]))
    refine G.append (E:=eE) (xs:=ys.map fun z:fG=>z.1) (ys:=[oH x a 0 r c f s]) (by simp only [List.length_map,List.length_singleton];omega) (by simp only [List.length_map,List.length_singleton,maxLen];omega) fun u5 h5=>?_
    repeat' (first | (with_reducible refine G.joini0 ?_) | (with_reducible refine G.joini1 ?_) | (with_reducible refine G.drew ?_) | (simp (maxSteps:=2000000) only [↓RG,RP,RB,BEq.rfl,Int.reduceEq,Int.reduceLT,Int.reduceLE,Nat.reduceEqDiff]))
    refine Dl u5 ys (oH x a 0 r c f s) (fD a x.born 0) a.freed ⟨hys,hy3⟩ (OR hto) ?_
    refine yl vp l hl ?_
    refine iH p a ?_
    rw [←ha]
    refine cq b x vj (ptr p 0) vp vr lp vt vs ?_
    exact(hK u5 h5).sub
   ·have hs:=hsame (by rw [et,if_neg (by rw [hb];decide),List.append_nil])
    refine iH p a ?_
    rw [←ha]
    exact hs.sub
  ·have hs:=hsame (by unfold dJ;rw [if_neg s1,List.append_nil])
   refine gf s1 ?_
   exact hs
end
end Go.Proofs.YtoealglbimbbmaaGreatDoor.S
