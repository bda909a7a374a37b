import Derived.Test.YtoealglbimbbmaaGreatDoorOThrE
namespace Go.Proofs.YtoealglbimbbmaaGreatDoor.S
open Go Go.Proofs
set_option linter.unusedVariables false
set_option linter.unusedSimpArgs false
section
variable {w0:bh}{L M:List ay}{K:KV}{F:World→Prop}{C:ay→List ay}{b lp p:Nat}{x:co}{v vj vn vp vr vt vs:Value}{draw pick:Int}
theorem GZ (hsl:x.state=5→x.slots.length≤4)(ho:x.state=1→∃a,x.now=some a∧(a.state≠0→a.state≠1→a.state≠2→a.state≠7→a.state≠8→a.inn.ok))[i:aq L gD b x C]
  (hK:G w0 L (K (.tuple #[.agg (rv.cells (bj x).1).toArray,.bool (bj x).2]))):G w0 L (CP Tryz.prog XI [ptr b 0] K):=by
 refine i.ro (fun M hK=>?_) hK
 refine xh ?_
 unfold o8
 refine G.new fun q=>?_
 rw [fA]
 rw [dv] at *
 intro vj vn vp vr lp vt vs
 have hK:=hK vj vn vp vr lp vt vs
 unfold bj at hK
 by_cases s1:x.state=1
 ·obtain⟨a,hn,ha⟩:=ho s1
  simp only [s1,if_true,hn] at hK
  have hK:G w0 (ob mx vn (some a)::own b (x.cells vj vn vp vr lp vt vs)::ob i7 vj x.jobs::ob jy vp x.past::sl iw vr x.res::ob (kj ck) lp x.limbo::sl ck vt x.rests::sl cx vs x.slots::M) (K (.tuple #[.agg (rv.cells (cn a).1).toArray,.bool (cn a).2])):=hK.sub
  rw [qV] at hK
  refine G.take1 mx vn ?_
  rw [hn,qV]
  intro p e
  have hK:=hK p e
  subst e
  refine gf (eq_true s1) ?_
  refine Fu (x:=a) ha ?_
  refine gg ?_
  exact hK.sub
 ·rw [if_neg s1] at hK
  by_cases s2:x.state=2
  ·rw [if_pos s2] at hK
   refine gf (an s1 (eq_true s2)) ?_
   exact hK.sub
  ·rw [if_neg s2] at hK
   by_cases s5:x.state=5
   ·rw [if_pos s5] at hK
    refine gf (an s1 (an s2 (eq_true s5))) ?_
    exact hK.sub
   ·rw [if_neg s5] at hK
    refine gf (an s1 (an s2 s5)) ?_
    exact hK.sub
theorem GP {a:fH}(ht0:uR w0)(ho:Ff x a)(hd:0≤draw)(hd2:draw≤255)[i:aq L gD b x C]
  (hK:∀sl_,(∀at_,x.now=some at_→uS (bm at_ a) sl_)→G w0 (C (ob gD b (thrTell x a draw pick sl_))) (K (.tuple #[]))):G w0 L (CP Tryz.prog XJ [ptr b 0,.agg (fH.cells a).toArray,.int .u8 draw,i64 pick] K):=by
 refine i.useA (A':=fun z:{ s // ∀at_,x.now=some at_→uS (bm at_ a) s }=>ob gD b (thrTell x a draw pick z.1)) (F':=fun _=>K (.tuple #[])) (fun M hK=>?_) (fun z=>hK z.1 z.2)
 have hK:=fun sl_ (h:∀at_,x.now=some at_→uS (bm at_ a) sl_)=>hK ⟨sl_,h⟩
 simp only at hK
 have hsl:∃s0,∀at_,x.now=some at_→uS (bm at_ a) s0:=by
  cases h:x.now with
  | none=>exact⟨⟨#[]⟩,fun _ g=>(by cases g)⟩
  | some q=>exact⟨Q5 (bm q a),fun _ g=>(by cases g;exact MX)⟩
 obtain⟨s0,hs0⟩:=hsl
 refine wV ?_
 unfold oP
 refine G.box fun q=>?_
 rw [fA,dv]
 intro vj vn vp vr lp vt vs
 unfold thrTell at hK
 by_cases s1:x.state=1
 ·obtain⟨hjl,_,_,at_,hn,ht,hg⟩:=ho.run s1
  simp only [if_pos s1,hn] at hK
  have hK:=fun sl_ (h:uS (bm at_ a) sl_)=>hK sl_ (fun q g=>by cases g;exact h)
  have hs0:=hs0 _ hn
  unfold qh at hK
  refine G.take1 mx vn ?_
  rw [hn,qV]
  intro p e
  subst e
  repeat' (first | (with_reducible refine G.joini0 ?_) | (with_reducible refine G.joini1 ?_) | (with_reducible refine G.drew ?_) | (simp (maxSteps:=2000000) only [↓RG,RP,RB,BEq.rfl,Int.reduceEq,Int.reduceLT,Int.reduceLE,Nat.reduceEqDiff,eq_true s1]))
  refine kL (x:=at_) ?_
  repeat' (first | (with_reducible refine G.joini0 ?_) | (with_reducible refine G.joini1 ?_) | (with_reducible refine G.drew ?_) | (simp (maxSteps:=2000000) only [↓RG,RP,RB,BEq.rfl,Int.reduceEq,Int.reduceLT,Int.reduceLE,Nat.reduceEqDiff]))
  refine Fp (x:=at_) (a:=a) ht ?_
  generalize hat:bm at_ a=a2 at hK hg hs0
  repeat' (first | (with_reducible refine G.joini0 ?_) | (with_reducible refine G.joini1 ?_) | (with_reducible refine G.drew ?_) | (simp (maxSteps:=2000000) only [↓RG,RP,RB,BEq.rfl,Int.reduceEq,Int.reduceLT,Int.reduceLE,Nat.reduceEqDiff]))
  refine kL (x:=a2) ?_
  refine gu ?_
  try simp (maxSteps:=2000000) only [↓RG,RP,RB,BEq.rfl,Int.reduceEq,Int.reduceLT,Int.reduceLE,Nat.reduceEqDiff]
  refine G.joini0 ?_
  have hfin:∀bn:Int,bn=(if a2.begun && !at_.begun then pick else x.born)→G w0 (ob fG p a2::own b (co.cells { x with now:=some a2,born:=bn } vj (ptr p 0) vp vr lp vt vs)::ob i7 vj x.jobs::ob jy vp x.past::sl iw vr x.res::ob (kj ck) lp x.limbo::sl ck vt x.rests::sl cx vs x.slots::own q (fH.cells a)::M)
    (CP Tryz.prog GE [ptr p 0] (fun x29=>aa .neq x29 (i64 0) (fun x30=>ax (K (.tuple #[])) (fun j3=>ae x30 (CP Tryz.prog V1 [ptr b 0,.int .u8 draw,i64 pick] (fun x31=>j3)) j3)))):=by
   intro bn hbn
   simp only [←hbn] at hK
   repeat' (first | (with_reducible refine G.joini0 ?_) | (with_reducible refine G.joini1 ?_) | (with_reducible refine G.drew ?_) | (simp (maxSteps:=2000000) only [↓RG,RP,RB,BEq.rfl,Int.reduceEq,Int.reduceLT,Int.reduceLE,Nat.reduceEqDiff]))
   refine ic (x:=a2) ?_
   by_cases c8:a2.state=8
   ·obtain⟨g1,g3⟩:=hg c8
    rw [if_pos c8]
    by_cases cf:a2.fin=0
    ·have hK:=hK s0 hs0
     rw [if_neg (fun h=>h.2 cf)] at hK
     rw [cf]
     repeat' (first | (with_reducible refine G.joini0 ?_) | (with_reducible refine G.joini1 ?_) | (with_reducible refine G.drew ?_) | (simp (maxSteps:=2000000) only [↓RG,RP,RB,BEq.rfl,Int.reduceEq,Int.reduceLT,Int.reduceLE,Nat.reduceEqDiff]))
     refine i4 p a2 ?_
     refine bv b { x with now:=some a2,born:=bn } vj (ptr p 0) vp vr lp vt vs ?_
     exact hK.sub
    ·simp only [if_pos (show a2.state=8∧a2.fin≠0 from⟨c8,cf⟩)] at hK
     repeat' (first | (with_reducible refine G.joini0 ?_) | (with_reducible refine G.joini1 ?_) | (with_reducible refine G.drew ?_) | (simp (maxSteps:=2000000) only [↓RG,RP,RB,BEq.rfl,Int.reduceEq,Int.reduceLT,Int.reduceLE,Nat.reduceEqDiff,cf]))
     refine i4 p a2 ?_
     refine bv b { x with now:=some a2,born:=bn } vj (ptr p 0) vp vr lp vt vs ?_
     have hj:=ho.jobs
     refine F9 ht0 (x:={ x with now:=some a2,born:=bn }) (a:=a2) rfl g1 ho.past ho.res ho.limbo g3 ⟨hj.lo,hj.hi,hj.progs,hj.rests⟩ hjl ho.few hd hd2 fun sl_ hsl=>?_
     repeat' (first | (with_reducible refine G.joini0 ?_) | (with_reducible refine G.joini1 ?_) | (with_reducible refine G.drew ?_) | (simp (maxSteps:=2000000) only [↓RG,RP,RB,BEq.rfl,Int.reduceEq,Int.reduceLT,Int.reduceLE,Nat.reduceEqDiff]))
     exact(hK sl_ hsl).sub
   ·rw [if_neg c8]
    have hK:=hK s0 hs0
    rw [if_neg (fun h=>c8 h.1)] at hK
    repeat' (first | (with_reducible refine G.joini0 ?_) | (with_reducible refine G.joini1 ?_) | (with_reducible refine G.drew ?_) | (simp (maxSteps:=2000000) only [↓RG,RP,RB,BEq.rfl,Int.reduceEq,Int.reduceLT,Int.reduceLE,Nat.reduceEqDiff]))
    refine i4 p a2 ?_
    refine bv b { x with now:=some a2,born:=bn } vj (ptr p 0) vp vr lp vt vs ?_
    exact hK.sub
  cases hb:(a2.begun && !at_.begun)
  ·have h:=hfin x.born (by rw [hb];simp)
   repeat' (first | (with_reducible refine G.joini0 ?_) | (with_reducible refine G.joini1 ?_) | (with_reducible refine G.drew ?_) | (simp (maxSteps:=2000000) only [↓RG,RP,RB,BEq.rfl,Int.reduceEq,Int.reduceLT,Int.reduceLE,Nat.reduceEqDiff]))
   exact h
  ·have h:=hfin pick (by rw [hb];simp)
   repeat' (first | (with_reducible refine G.joini0 ?_) | (with_reducible refine G.joini1 ?_) | (with_reducible refine G.drew ?_) | (simp (maxSteps:=2000000) only [↓RG,RP,RB,BEq.rfl,Int.reduceEq,Int.reduceLT,Int.reduceLE,Nat.reduceEqDiff]))
   exact h
 ·simp only [if_neg s1] at hK
  by_cases s2:x.state=2
  ·simp only [if_pos s2] at hK
   repeat' (first | (with_reducible refine G.joini0 ?_) | (with_reducible refine G.joini1 ?_) | (with_reducible refine G.drew ?_) | (simp (maxSteps:=2000000) only [↓RG,RP,RB,BEq.rfl,Int.reduceEq,Int.reduceLT,Int.reduceLE,Nat.reduceEqDiff,s1,eq_true s2]))
   refine bv b x vj vn vp vr lp vt vs ?_
   refine Em (x:=x) (a:=a) ho.jobs hd hd2 ?_
   repeat' (first | (with_reducible refine G.joini0 ?_) | (with_reducible refine G.joini1 ?_) | (with_reducible refine G.drew ?_) | (simp (maxSteps:=2000000) only [↓RG,RP,RB,BEq.rfl,Int.reduceEq,Int.reduceLT,Int.reduceLE,Nat.reduceEqDiff]))
   exact(hK s0 hs0).sub
  ·simp only [if_neg s2] at hK
   by_cases s5:x.state=5
   ·simp only [if_pos s5] at hK
    obtain⟨g1,g2,g3⟩:=ho.slots s5
    have hlk:=ho.look s5
    have hlm:=ho.limbo
    by_cases ce:a.err=0
    ·simp only [if_pos ce] at hK
     repeat' (first | (with_reducible refine G.joini0 ?_) | (with_reducible refine G.joini1 ?_) | (with_reducible refine G.drew ?_) | (simp (maxSteps:=2000000) only [↓RG,RP,RB,BEq.rfl,Int.reduceEq,Int.reduceLT,Int.reduceLE,Nat.reduceEqDiff,s1,s2,eq_true s5,eq_true ce]))
     refine bv b x vj vn vp vr lp vt vs ?_
     refine uu (x:=x) (since:=a.word) ho.jobs hlk ho.few g1 (by omega) ?_
     repeat' (first | (with_reducible refine G.joini0 ?_) | (with_reducible refine G.joini1 ?_) | (with_reducible refine G.drew ?_) | (simp (maxSteps:=2000000) only [↓RG,RP,RB,BEq.rfl,Int.reduceEq,Int.reduceLT,Int.reduceLE,Nat.reduceEqDiff]))
     exact(hK s0 hs0).sub
    ·simp only [if_neg ce] at hK
     repeat' (first | (with_reducible refine G.joini0 ?_) | (with_reducible refine G.joini1 ?_) | (with_reducible refine G.drew ?_) | (simp (maxSteps:=2000000) only [↓RG,RP,RB,BEq.rfl,Int.reduceEq,Int.reduceLT,Int.reduceLE,Nat.reduceEqDiff,s1,s2,eq_true s5,ce]))
     refine bv b x vj vn vp vr lp vt vs ?_
     refine uu (x:=x) (since:=0) ho.jobs hlk ho.few g1 (by omega) ?_
     repeat' (first | (with_reducible refine G.joini0 ?_) | (with_reducible refine G.joini1 ?_) | (with_reducible refine G.drew ?_) | (simp (maxSteps:=2000000) only [↓RG,RP,RB,BEq.rfl,Int.reduceEq,Int.reduceLT,Int.reduceLE,Nat.reduceEqDiff]))
     exact(hK s0 hs0).sub
   ·simp only [if_neg s5] at hK
    have hK:=hK s0 hs0
    rw [dv] at hK
    repeat' (first | (with_reducible refine G.joini0 ?_) | (with_reducible refine G.joini1 ?_) | (with_reducible refine G.drew ?_) | (simp (maxSteps:=2000000) only [↓RG,RP,RB,BEq.rfl,Int.reduceEq,Int.reduceLT,Int.reduceLE,Nat.reduceEqDiff,s1,s2,s5]))
    exact(hK vj vn vp vr lp vt vs).sub
end
end Go.Proofs.YtoealglbimbbmaaGreatDoor.S
namespace Go.Proofs.YtoealglbimbbmaaGreatDoor.S
open Go Go.Proofs
set_option linter.unusedVariables false
set_option linter.unusedSimpArgs false
theorem G.sliceAll {α:Type}{E:jS α}{w0:bh}{L:List ay}{C:ay→List ay}{v:Value}{xs:List α}{K:KV}{sz:Nat}[s:oL L v E xs C](h:G w0 L (K v)):G w0 L (fL sz v none (some (i64 xs.length)) K):=fun w H=>by
 obtain⟨M,e1,e2⟩:=oo (w0:=w0) s.sel
 have hw:=h w H
 rcases((e1 w).1 H).sl_cases with ⟨rfl,rfl,H2⟩ | ⟨c,cap,rest,rfl,g2,g3,H2⟩
 ·simpa [fL,Aw] using hw
 ·simp only [fL,Aw]
  refine⟨by omega,by omega,by omega,?_⟩
  have e:(if cap=((0:Nat):Int).toNat then some (⟨c,0,none⟩:Addr) else Option.map (fun x=>x.add (((0:Nat):Int).toNat*sz)) (some (⟨c,0,none⟩:Addr)))=some ⟨c,0,none⟩:=by
   split
   ·rfl
   ·simp [Addr.add]
  have e2:((xs.length:Int)).toNat-((0:Nat):Int).toNat=xs.length:=by simp
  have e3:cap-((0:Nat):Int).toNat=cap:=by simp
  rw [e,e2,e3]
  exact hw
section
variable {w0:bh}{L M:List ay}{K:KV}{F:World→Prop}{C:ay→List ay}{b lp p:Nat}{x:co}{v vj vn vp vr vt vs:Value}
theorem Bw {me:Int}{s:eO}{jobs:List (List bu)}(hm0:0≤me)(hm1:me<(dj s).threads)(h6:jobs.length≤6)(hok:∀p∈jobs,p.length≤1000)[i:aq L i7 v jobs C]
  (hK:∀b,G w0 (ob gD b (mr me s jobs)::L) (K (ptr b 0))):G w0 L (CP Tryz.prog XG [i64 me,.agg (eO.cells s).toArray,v] K):=by
 refine i.roN (P:=fun _=>True) (N:=fun b=>ob gD b (mr me s jobs)) (F':=fun b=>K (ptr b 0)) (fun M hK=>?_) (fun b _=>hK b)
 refine Jd ?_
 unfold BH
 rw [tb]
 intro l hl
 have hlen:l.length=jobs.length:=by rw [←hl];simp
 have ht4:(dj s).threads≤4:=(ft (n:=s.threads) (lo:=1) (hi:=4) (by omega)).2
 refine G.box fun q=>?_
 refine gg ?_
 refine qg ?_
 repeat' (first | (with_reducible refine G.joini0 ?_) | (with_reducible refine G.joini1 ?_) | (with_reducible refine G.drew ?_) | (simp (maxSteps:=2000000) only [↓RG,RP,RB,BEq.rfl,Int.reduceEq,Int.reduceLT,Int.reduceLE,Nat.reduceEqDiff]))
 rw [iy (n:=(dj s).threads-1) (by omega) (by omega)]
 have e1:(if (dj s).threads-1<me then (dj s).threads-1 else me)=me:=by rw [if_neg (by omega)]
 have e2:(if me > 0 then me else 0)=me:=by split <;> omega
 refine gf (an e1 e2) ?_
 refine JJ fun lp=>?_
 refine gg ?_
 refine G.box fun b=>?_
 have hc:(if ((6:Int)<((l.map (·.1)).length:Int)) then 6 else ((l.map (·.1)).length:Int))=((l.map (·.1)).length:Int):=by rw [if_neg (by simp;omega)]
 refine gf hc ?_
 refine G.sliceAll ?_
 refine gg ?_
 refine G.nilsl fj ?_
 refine nX (f:=pm) ?_
 refine G.loop1 (σ:=Nat×List (lD×List bu)×Value) (fun s=>i64 s.1) (fun z=>ob (cg pm) () z.2.1::sl fj z.2.2 (z.2.1.map (·.1))::own b (co.cells ⟨me,dj s,jobs,-1,0,false,[],0,0,none,0,false,[],[],[],[],0,0,false,0⟩ z.2.2 (.pointer none) (.slice none 0 0) (.slice none 0 0) lp (.slice none 0 0) (.slice none 0 0))::ob (kj ck) lp []::own q (eO.cells (dj s))::sl fj v (l.map (·.1))::ob (cg pm) () l::M)
  (fun z=>z.1≤l.length∧z.2.1.map (·.2)=jobs.take z.1∧ar z.2.2 [z.2.2]) (fun z=>l.length-z.1) (0,[],.slice none 0 0) rfl rfl ⟨Nat.zero_le _,rfl,be⟩ ?_
 rintro⟨k,l',vj⟩ ⟨hk,hl',hvj⟩ J hJ
 simp only at hk hl' hvj hJ ⊢
 have hlen':l'.length=k:=by
  have:=congrArg List.length hl'
  simp only [List.length_map,List.length_take] at this
  omega
 refine gr ?_
 refine G.cond (fun h=>?_) (fun h=>?_)
 ·have hkl:k<l.length:=by simpa using h
  have hkj:k<jobs.length:=by omega
  have e:eU (l.map (·.1)) k l[k].1:=⟨by rw [List.getElem?_map,List.getElem?_eq_getElem hkl];rfl⟩
  have hq:l[k].2=jobs[k]:=by simp only [←hl,List.getElem_map]
  have hpo:=hok _ (List.getElem_mem hkj)
  refine gg ?_
  refine G.new fun q2=>?_
  repeat' (first | (with_reducible refine G.joini0 ?_) | (with_reducible refine G.joini1 ?_) | (with_reducible refine G.drew ?_) | (simp (maxSteps:=2000000) only [↓RG,RP,RB,BEq.rfl,Int.reduceEq,Int.reduceLT,Int.reduceLE,Nat.reduceEqDiff]))
  refine G.pickAll (As:=[ob (cg pm) () l]) ?_
  simp only [List.cons_append,List.nil_append]
  refine nu (r:=Qx (List.getElem?_eq_getElem hkl)) (by rw [hq];omega) fun u hu=>?_
  refine G.isSl (v:=u) fun su hsu=>?_
  subst hsu
  refine gg ?_
  refine G.build fj [su] rfl (by decide) rfl fun y hy=>?_
  refine gg ?_
  refine G.append (E:=fj) (xs:=l'.map (fun z:lD×List bu=>z.1)) (ys:=[su]) (by simp only [List.length_map,List.length_singleton];omega) (by simp only [List.length_map,List.length_singleton,maxLen];omega) fun u5 h5=>?_
  refine gg ?_
  rw [di (by omega)]
  have hn:=hJ (k+1,l'++[(su,l[k].2)],u5) ⟨hkl,by rw [List.map_append,hl',List.map_singleton,hq,List.take_succ_eq_append_getElem hkj],h5⟩ (by simp only;omega)
  simp only [List.map_append,List.map_cons,List.map_nil] at hn
  refine G.pickAll (As:=[pm (su,l[k].2),ob (cg pm) () l']) ?_
  rw [List.cons_append,List.cons_append,List.nil_append,←mq]
  exact hn.sub
 ·have hkl:k=l.length:=by
   have:¬k<l.length:=by simpa using h
   omega
  have hjj:l'.map (·.2)=jobs:=by rw [hl',List.take_of_length_le (by omega)]
  refine yc vj l' ?_
  rw [hjj]
  refine MW ?_
  refine G.nilsl iw ?_
  refine G.nilsl fg ?_
  refine nX (f:=eu) ?_
  refine G.nilsl ck ?_
  refine G.nilsl cx ?_
  have hp:∀{N:List ay} {F:World→Prop},G w0 (ob jy (.slice none 0 0) []::N) F→G w0 (ob (cg eu) () []::sl fg (.slice none 0 0) []::N) F:=fun H=>by
   rw [lz] at H
   rw [fA]
   exact H [] ⟨rfl,by simp⟩
  refine G.pickAll (As:=[ob (cg eu) () [],sl fg (.slice none 0 0) []]) ?_
  simp only [List.cons_append,List.nil_append]
  refine hp ?_
  refine bv b ⟨me,dj s,jobs,-1,0,false,[],0,0,none,0,false,[],[],[],[],0,0,false,0⟩ vj (.pointer none) (.slice none 0 0) (.slice none 0 0) lp (.slice none 0 0) (.slice none 0 0) ?_
  refine gG (x:=⟨me,dj s,jobs,-1,0,false,[],0,0,none,0,false,[],[],[],[],0,0,false,0⟩) ⟨by show (0:Int)≤-1+1;decide,by show (-1:Int)+1≤_;omega,hok,by simp⟩ (by show jobs.length≤_;omega) ?_
  repeat' (first | (with_reducible refine G.joini0 ?_) | (with_reducible refine G.joini1 ?_) | (with_reducible refine G.drew ?_) | (simp (maxSteps:=2000000) only [↓RG,RP,RB,BEq.rfl,Int.reduceEq,Int.reduceLT,Int.reduceLE,Nat.reduceEqDiff]))
  have h2:=hK b trivial
  rw [fA,tb] at h2
  have h3:=h2 l hl
  exact h3.sub
theorem DY {l:List gd}{k:Nat}{q:gd}(h:l[k]? = some q):Rd w0 (ob (cg eu) () l::M) q.1.reads.v bf 2 q.2.1.reads∧Rd w0 (ob (cg eu) () l::M) q.1.cells_.v bf 2 q.2.1.cells∧Rd w0 (ob (cg eu) () l::M) q.1.frees.v bg 1 q.2.2:=by
 have e0:eu q=bk (bk (sl bf q.1.reads.v q.2.1.reads) (sl bf q.1.cells_.v q.2.1.cells)) (sl bg q.1.frees.v q.2.2):=rfl
 have e1:G w0 (ob (cg eu) () l::M) (fun w=>fy bf w q.1.reads.v q.2.1.reads):=by
  rw [kX h,e0,fa,fa]
  exact fun w H=>St.sl_is H
 have e2:G w0 (ob (cg eu) () l::M) (fun w=>fy bf w q.1.cells_.v q.2.1.cells):=by
  rw [kX h,e0,fa,fa,fA]
  exact fun w H=>St.sl_is H
 have e3:G w0 (ob (cg eu) () l::M) (fun w=>fy bg w q.1.frees.v q.2.2):=by
  rw [kX h,e0,fa,fa,D5]
  exact fun w H=>St.sl_is H
 exact⟨⟨rfl,fun w H=>e1 w H⟩,⟨rfl,fun w H=>e2 w H⟩,⟨rfl,fun w H=>e3 w H⟩⟩
theorem DF {a:sL}{rd cl:List au}{fr:List Int}(r1:Rd w0 L a.reads.v bf 2 rd)(r2:Rd w0 L a.cells_.v bf 2 cl)(r3:Rd w0 L a.frees.v bg 1 fr)(h1:rd.length≤1000)(h2:cl.length≤1000)(h3:fr.length≤100000)
  (hK:∀r c f:lD,G w0 (sl bf r.v rd::sl bf c.v cl::sl bg f.v fr::L) (K (.agg (sL.cells { a with reads:=r,cells_:=c,frees:=f }).toArray))):G w0 L (CP Tryz.prog XT [.agg (sL.cells a).toArray] K):=by
 refine DR ?_
 unfold uF
 refine G.box fun q=>?_
 refine G.new fun q2=>?_
 repeat' (first | (with_reducible refine G.joini0 ?_) | (with_reducible refine G.joini1 ?_) | (with_reducible refine G.drew ?_) | (simp (maxSteps:=2000000) only [↓RG,RP,RB,BEq.rfl,Int.reduceEq,Int.reduceLT,Int.reduceLE,Nat.reduceEqDiff]))
 refine eQ (xs:=rd) (by omega) fun u1 g1=>?_
 refine G.isSl (v:=u1) fun s1 e1=>?_
 subst e1
 refine gg ?_
 refine eQ (xs:=cl) (by omega) fun u2 g2=>?_
 refine G.isSl (v:=u2) fun s2 e2=>?_
 subst e2
 refine gg ?_
 refine iP (xs:=fr) (by omega) fun u3 g3=>?_
 refine G.isSl (v:=u3) fun s3 e3=>?_
 subst e3
 refine gg ?_
 exact(hK s1 s2 s3).sub
theorem QB (ys:List gd)(e:sL)(t:Ta)(fr:List Int) [ez [sl bf e.reads.v t.reads,sl bf e.cells_.v t.cells,sl bg e.frees.v fr,ob (cg eu) () ys] L M](H:G w0 (ob (cg eu) () (ys++[(e,t,fr)])::M) F):G w0 L F :=
 G.pickAll (As:=[sl bf e.reads.v t.reads,sl bf e.cells_.v t.cells,sl bg e.frees.v fr,ob (cg eu) () ys]) (by
  rw [mq,show eu (e,t,fr)=bk (bk (sl bf e.reads.v t.reads) (sl bf e.cells_.v t.cells)) (sl bg e.frees.v fr) from rfl,fa,fa] at H
  exact H)
theorem xK {n:List Ta}(u:Value)(l:List gd) [ez [sl fg u (l.map (·.1)),ob (cg eu) () l] L M](hl:l.map (·.2.1)=n∧∀p∈l,tm p)(H:G w0 (ob jy u n::M) F):G w0 L F :=
 G.pickAll (As:=[sl fg u (l.map (·.1)),ob (cg eu) () l]) (by rw [lz] at H;exact H l hl)
theorem AY (ht:uR w0)(hp:x.past.length≤1000000)(hr:x.state=1→∃a,x.now=some a∧CY a)[i:aq L gD b x C](hK:∀u,ar u [u]→G w0 (ob jy u (em x)::L) (K u)):G w0 L (CP Tryz.prog XK [ptr b 0] K):=by
 refine i.roN (fun M hK=>?_) hK
 refine rW ?_
 unfold kF
 rw [dv]
 intro vj vn vp vr lp vt vs
 refine G.take1 jy vp ?_
 rw [lz]
 intro l hl
 have hlen:l.length=x.past.length:=by rw [←hl.1];simp
 repeat' (first | (with_reducible refine G.joini0 ?_) | (with_reducible refine G.joini1 ?_) | (with_reducible refine G.drew ?_) | (simp (maxSteps:=2000000) only [↓RG,RP,RB,BEq.rfl,Int.reduceEq,Int.reduceLT,Int.reduceLE,Nat.reduceEqDiff]))
 refine G.nilsl fg ?_
 refine nX (f:=eu) ?_
 refine G.loop2 (σ:=Nat×List gd×Value) (fun z=>z.2.2) (fun z=>i64 z.1) (fun z=>ob (cg eu) () z.2.1::sl fg z.2.2 (z.2.1.map (·.1))::sl fg vp (l.map (·.1))::ob (cg eu) () l::own b (x.cells vj vn vp vr lp vt vs)::ob i7 vj x.jobs::ob mx vn x.now::sl iw vr x.res::ob (kj ck) lp x.limbo::sl ck vt x.rests::sl cx vs x.slots::M)
  (fun z=>z.1≤l.length∧z.2.1.length=z.1∧z.2.1.map (·.2.1)=x.past.take z.1∧(∀p∈z.2.1,tm p)∧ar z.2.2 [z.2.2]) (fun z=>l.length-z.1) (0,[],.slice none 0 0) rfl rfl rfl ⟨Nat.zero_le _,rfl,rfl,by simp,be⟩ ?_
 rintro⟨k,ys,vy⟩ ⟨hk,hy,hy2,hy3,hvy⟩ J hJ
 simp only at hk hy hy2 hy3 hvy hJ ⊢
 try simp (maxSteps:=2000000) only [↓RG,RP,RB,BEq.rfl,Int.reduceEq,Int.reduceLT,Int.reduceLE,Nat.reduceEqDiff]
 refine G.cond (fun h=>?_) (fun h=>?_)
 ·have hkl:k<l.length:=by simpa using h
  have hkp:k<x.past.length:=by omega
  have hx2:=hl.2 _ (List.getElem_mem hkl)
  have e:eU (l.map (·.1)) k l[k].1:=⟨by rw [List.getElem?_map,List.getElem?_eq_getElem hkl];rfl⟩
  have hq:l[k].2.1=x.past[k]:=by simp only [←hl.1,List.getElem_map]
  repeat' (first | (with_reducible refine G.joini0 ?_) | (with_reducible refine G.joini1 ?_) | (with_reducible refine G.drew ?_) | (simp (maxSteps:=2000000) only [↓RG,RP,RB,BEq.rfl,Int.reduceEq,Int.reduceLT,Int.reduceLE,Nat.reduceEqDiff]))
  refine G.new fun q2=>?_
  repeat' (first | (with_reducible refine G.joini0 ?_) | (with_reducible refine G.joini1 ?_) | (with_reducible refine G.drew ?_) | (simp (maxSteps:=2000000) only [↓RG,RP,RB,BEq.rfl,Int.reduceEq,Int.reduceLT,Int.reduceLE,Nat.reduceEqDiff]))
  refine G.pickAll (As:=[ob (cg eu) () l]) ?_
  simp only [List.cons_append,List.nil_append]
  have hr:=fun N:List ay=>DY (w0:=w0) (M:=N) (List.getElem?_eq_getElem hkl)
  refine DF (a:=l[k].1) (rd:=l[k].2.1.reads) (cl:=l[k].2.1.cells) (fr:=l[k].2.2) (hr _).1 (hr _).2.1 (hr _).2.2 hx2.reads hx2.cells hx2.frees fun r c f=>?_
  repeat' (first | (with_reducible refine G.joini0 ?_) | (with_reducible refine G.joini1 ?_) | (with_reducible refine G.drew ?_) | (simp (maxSteps:=2000000) only [↓RG,RP,RB,BEq.rfl,Int.reduceEq,Int.reduceLT,Int.reduceLE,Nat.reduceEqDiff]))
  refine G.build fg [{ l[k].1 with reads:=r,cells_:=c,frees:=f }] rfl (by decide) rfl fun y g6=>?_
  repeat' (first | (with_reducible refine G.joini0 ?_) | (with_reducible refine G.joini1 ?_) | (with_reducible refine G.drew ?_) | (simp (maxSteps:=2000000) only [↓RG,RP,RB,BEq.rfl,Int.reduceEq,Int.reduceLT,Int.reduceLE,Nat.reduceEqDiff]))
  refine G.append (E:=fg) (xs:=ys.map fun z:gd=>z.1) (ys:=[{ l[k].1 with reads:=r,cells_:=c,frees:=f }]) (by simp only [List.length_map,List.length_singleton];omega) (by simp only [List.length_map,List.length_singleton,maxLen];omega) fun u5 h5=>?_
  repeat' (first | (with_reducible refine G.joini0 ?_) | (with_reducible refine G.joini1 ?_) | (with_reducible refine G.drew ?_) | (simp (maxSteps:=2000000) only [↓RG,RP,RB,BEq.rfl,Int.reduceEq,Int.reduceLT,Int.reduceLE,Nat.reduceEqDiff]))
  rw [di (by omega)]
  have hn:=hJ (k+1,ys++[({ l[k].1 with reads:=r,cells_:=c,frees:=f },l[k].2.1,l[k].2.2)],u5) ⟨hkl,by simp [hy],by rw [List.map_append,hy2,List.map_singleton,hq,List.take_succ_eq_append_getElem hkp],fun p hp=>by
   rcases List.mem_append.1 hp with hp | hp
   ·exact hy3 p hp
   ·rw [List.mem_singleton.1 hp];exact⟨hx2.stamp,hx2.done,hx2.born,hx2.ended,hx2.reads,hx2.cells,hx2.frees⟩,h5⟩ (by simp only;omega)
  simp only [List.map_append,List.map_cons,List.map_nil] at hn
  refine QB ys { l[k].1 with reads:=r,cells_:=c,frees:=f } l[k].2.1 l[k].2.2 ?_
  exact hn.sub
 ·have hkl:k=l.length:=by
   have:¬k<l.length:=by simpa using h
   omega
  have hys:ys.map (·.2.1)=x.past:=by rw [hy2,hkl,hlen,List.take_length]
  have hsame:em x=x.past→G w0 (ob (cg eu) () ys::sl fg vy (ys.map (·.1))::sl fg vp (l.map (·.1))::ob (cg eu) () l::own b (x.cells vj vn vp vr lp vt vs)::ob i7 vj x.jobs::ob mx vn x.now::sl iw vr x.res::ob (kj ck) lp x.limbo::sl ck vt x.rests::sl cx vs x.slots::M) (K vy):=fun e=>by
   rw [e] at hK
   refine xK vp l hl ?_
   refine xK vy ys ⟨hys,hy3⟩ ?_
   refine bv b x vj vn vp vr lp vt vs ?_
   exact(hK vy hvy).sub
  by_cases s1:x.state=1
  ·obtain⟨a,ha,hto⟩:=hr s1
   have et:em x=x.past++(if a.begun=true then [gh a x.born 0] else []):=by unfold em;rw [if_pos s1,ha]
   refine G.take1 mx vn ?_
   rw [ha,qV]
   intro p e
   subst e
   repeat' (first | (with_reducible refine G.joini0 ?_) | (with_reducible refine G.joini1 ?_) | (with_reducible refine G.drew ?_) | (simp (maxSteps:=2000000) only [↓RG,RP,RB,BEq.rfl,Int.reduceEq,Int.reduceLT,Int.reduceLE,Nat.reduceEqDiff,eq_true s1]))
   refine kL (x:=a) ?_
   repeat' (first | (with_reducible refine G.joini0 ?_) | (with_reducible refine G.joini1 ?_) | (with_reducible refine G.drew ?_) | (simp (maxSteps:=2000000) only [↓RG,RP,RB,BEq.rfl,Int.reduceEq,Int.reduceLT,Int.reduceLE,Nat.reduceEqDiff]))
   refine G.cond (fun hb=>?_) (fun hb=>?_)
   ·rw [et,if_pos hb] at hK
    refine G.pickAll (As:=[own b (x.cells vj (ptr p 0) vp vr lp vt vs),ob fG p a]) ?_
    simp only [List.cons_append,List.nil_append]
    refine yZ ht (x:=x) (pick:=0) hto fun r c f s _=>?_
    repeat' (first | (with_reducible refine G.joini0 ?_) | (with_reducible refine G.joini1 ?_) | (with_reducible refine G.drew ?_) | (simp (maxSteps:=2000000) only [↓RG,RP,RB,BEq.rfl,Int.reduceEq,Int.reduceLT,Int.reduceLE,Nat.reduceEqDiff]))
    refine G.build fg [pj x a 0 r c f s] rfl (by decide) rfl fun y g6=>?_
    repeat' (first | (with_reducible refine G.joini0 ?_) | (with_reducible refine G.joini1 ?_) | (with_reducible refine G.drew ?_) | (simp (maxSteps:=2000000) only [↓RG,RP,RB,BEq.rfl,Int.reduceEq,Int.reduceLT,Int.reduceLE,Nat.reduceEqDiff]))
    refine G.append (E:=fg) (xs:=ys.map fun z:gd=>z.1) (ys:=[pj x a 0 r c f s]) (by simp only [List.length_map,List.length_singleton];omega) (by simp only [List.length_map,List.length_singleton,maxLen];omega) fun u5 h5=>?_
    repeat' (first | (with_reducible refine G.joini0 ?_) | (with_reducible refine G.joini1 ?_) | (with_reducible refine G.drew ?_) | (simp (maxSteps:=2000000) only [↓RG,RP,RB,BEq.rfl,Int.reduceEq,Int.reduceLT,Int.reduceLE,Nat.reduceEqDiff]))
    refine Cr u5 ys (pj x a 0 r c f s) (gh a x.born 0) a.freed ⟨hys,hy3⟩ (M3 hto) ?_
    refine xK vp l hl ?_
    refine i4 p a ?_
    rw [←ha]
    refine bv b x vj (ptr p 0) vp vr lp vt vs ?_
    exact(hK u5 h5).sub
   ·have hs:=hsame (by rw [et,if_neg (by rw [hb];decide),List.append_nil])
    refine i4 p a ?_
    rw [←ha]
    exact hs.sub
  ·have hs:=hsame (by unfold em;rw [if_neg s1,List.append_nil])
   repeat' (first | (with_reducible refine G.joini0 ?_) | (with_reducible refine G.joini1 ?_) | (with_reducible refine G.drew ?_) | (simp (maxSteps:=2000000) only [↓RG,RP,RB,BEq.rfl,Int.reduceEq,Int.reduceLT,Int.reduceLE,Nat.reduceEqDiff,s1]))
   exact hs
end
end Go.Proofs.YtoealglbimbbmaaGreatDoor.S
