import Derived.Test.YtoealglbimbbmaaGreatDoorRInt
namespace Go.Proofs.YtoealglbimbbmaaGreatDoor.S
open Go Go.Proofs
set_option linter.unusedVariables false
set_option linter.unusedSimpArgs false
section
variable {w0:bg}{L M:List ax}{K:KV}{F:World→Prop}{C:ax→List ax}{b vp op:Nat}{x:fk}{s:fh}{v vl vm:Value}{i:dD}
theorem HC (h:I5 i):0≤i.a∧0≤i.b∧0≤i.c:=by unfold I5 th at h;omega
theorem G5 (hi:I5 i)(h89:i.op=8∨i.op=9)(hK:G w0 (ob dU (b,vp) (qv x s i).1::ob ba vp (qv x s i).2.1::M) (K (i64 (qv x s i).2.2))) :
  G w0 (ob dU (b,vp) x::ob ba vp s::M) (CP Tryz.prog Zm [ptr b 0,.agg #[i64 i.op,i64 i.a,i64 i.b,i64 i.c,u64 i.n],ptr b (6+m8 i.a),u64 (x.r.get (m8 i.b))] K):=by
 refine vR ?_
 unfold mi
 obtain⟨la,ea⟩:=OY (HC hi).1
 refine G.box fun q=>?_
 unfold qv at hK
 rcases h89 with h8 | h9
 ·rw [if_pos h8] at hK
  refine gf (eq_true h8) ?_
  refine wc ?_
  by_cases c:(fZ (x.r.get (m8 i.b)) i.c).2=0
  ·rw [if_neg (fun g=>g c)] at hK
   refine G.take1 dU (b,vp) ?_
   rw [ey]
   intro vl vm op h
   have sg:=Bn (x:=x) (vl:=vl) (vm:=vm) (vp:=vp) (op:=op) (k:=m8 i.a) (y:=(cZ s (fZ (x.r.get (m8 i.b)) i.c).1).2.1) la
   refine gf c ?_
   refine ib (s:=s) ?_
   by_cases c2:(cZ s (fZ (x.r.get (m8 i.b)) i.c).1).2.2=0
   ·rw [if_pos c2] at hK
    repeat' (first | (with_reducible refine G.joini0 ?_) | (with_reducible refine G.joini1 ?_) | (with_reducible refine G.drew ?_) | (simp (maxSteps:=2000000) only [↓RG,RP,RB,BEq.rfl,Int.reduceEq,Int.reduceLT,Int.reduceLE,Nat.reduceEqDiff,c2]))
    refine be (vm:=vm) b vp op (yG x (m8 i.a) (cZ s (fZ (x.r.get (m8 i.b)) i.c).1).2.1) h ?_
    exact hK.sub
   ·rw [if_neg c2] at hK
    refine gf c2 ?_
    refine be (vm:=vm) b vp op x h ?_
    exact hK.sub
  ·rw [if_pos c] at hK
   have c3:(fZ (x.r.get (m8 i.b)) i.c).2=2:=by rcases FO (a:=x.r.get (m8 i.b)) (c:=i.c) with g | g;exact absurd g c;exact g
   rw [c3]
   refine gg ?_
   exact hK.sub
 ·have h8:¬i.op=8:=by omega
  rw [if_neg h8] at hK
  refine G.take1 dU (b,vp) ?_
  rw [ey]
  intro vl vm op h
  have nt:=sT (x:=x) (vl:=vl) (vm:=vm) (vp:=vp) (op:=op) (k:=m8 i.a) la
  repeat' (first | (with_reducible refine G.joini0 ?_) | (with_reducible refine G.joini1 ?_) | (with_reducible refine G.drew ?_) | (simp (maxSteps:=2000000) only [↓RG,RP,RB,BEq.rfl,Int.reduceEq,Int.reduceLT,Int.reduceLE,Nat.reduceEqDiff,h8,eq_true h9]))
  refine wc ?_
  by_cases c:(fZ (x.r.get (m8 i.a)) i.c).2=0
  ·rw [if_neg (fun g=>g c)] at hK
   refine gf c ?_
   refine BQ (s:=s) ?_
   refine be (vm:=vm) b vp op x h ?_
   exact hK.sub
  ·rw [if_pos c] at hK
   have c3:(fZ (x.r.get (m8 i.a)) i.c).2=2:=by rcases FO (a:=x.r.get (m8 i.a)) (c:=i.c) with g | g;exact absurd g c;exact g
   rw [c3]
   refine gg ?_
   refine be (vm:=vm) b vp op x h ?_
   exact hK.sub
structure Hc (x:fk)(s:fh)(y:fk)(t:fh)(e:Int):Prop where
 vr:Vr s t e 1
 same:y.prog=x.prog∧y.bad=x.bad∧y.left=x.left∧y.pos=x.pos
 few:y.items.length≤16
 fin:(y.fin=x.fin∧y.next=x.next)∨(y.fin=3∧e=0∧y.next=x.pos)
 rg:Rg x→Vg s→Rg y∧Vg t
theorem Hc.q {y:fk}{t:fh}{e:Int}(h:Hc x s y t e)(h23:i.op=23):WH x s i (y,t,e):=⟨fun g=>absurd h23 g,h.vr,h.same,h.few,h.fin,fun a b _=>h.rg a b⟩
structure IC (U:Prop)(x y:fk)(e e':Int):Prop where
 err:e'=e∨e'=0∨e'=5
 same:y.prog=x.prog∧y.bad=x.bad∧y.left=x.left∧y.pos=x.pos
 few:y.items.length≤16
 fin:y.fin=x.fin∧y.next=x.next
 rg:U→Rg y
theorem IC.call {U:Prop}{y:fk}{t:fh}{e e':Int}(h:IC U x y e e')(d:LC U s t e 1)(hU:Rg x→Vg s→U):Hc x s y t e':=by
 refine⟨?_,h.same,h.few,.inl h.fin,fun a c=>⟨h.rg (hU a c),d.vg (hU a c)⟩⟩
 rcases h.err with g | g | g
 ·rw [g];exact d.vr
 ·rw [g];exact .of d.vr.1 (by decide)
 ·rw [g];exact .of d.vr.1 (by decide)
def CR (t:Bool):Int:=if t then 1 else 0
theorem PV {t:Bool}:fF (CR t):=by cases t <;> exact⟨by decide,by decide⟩
theorem Gw {t:Bool}(hK:G w0 L (K (u64 (CR t)))):G w0 L (CP Tryz.prog Yd [.bool t] K):=by
 refine Gm ?_
 unfold xf
 cases t
 ·refine gr ?_
  exact hK
 ·refine gr ?_
  exact hK
theorem IC.keep {U:Prop}{e:Int}(hf:x.items.length≤16)(hx:U→Rg x){e':Int}(h:e'=e∨e'=0∨e'=5):IC U x x e e':=⟨h,⟨rfl,rfl,rfl,rfl⟩,hf,⟨rfl,rfl⟩,hx⟩
theorem IC.add {U:Prop}{e y:Int}{k:Nat}{z:kR}(hf:x.items.length<16)(hx:U→Rg x)(hy:U→fF y)(hz:U→za z):IC U x { yG x k y with items:=x.items++[z] } e 0:=by
 refine⟨.inr (.inl rfl),⟨rfl,rfl,rfl,rfl⟩,by simp only [List.length_append,List.length_singleton];omega,⟨rfl,rfl⟩,fun u=>⟨(hx u).regs.set (hy u),fun a ha=>?_,(hx u).prog⟩⟩
 rcases List.mem_append.1 ha with g | g
 ·exact(hx u).items a g
 ·rw [List.mem_singleton.1 g];exact hz u
section
variable {U:Prop}{e o a d n y root:Int}{x1 x2:Nat}
theorem uj (hK:∀x1 x2,G w0 (own x1 [ptr b 0]::own x2 [i64 o,i64 a,i64 d,i64 1,u64 n]::L) (K (.func (.func Yi) #[] #[ptr x1 0,ptr x2 0]))):G w0 L (CP Tryz.prog Xq [ptr b 0,.agg #[i64 o,i64 a,i64 d,i64 1,u64 n]] K):=by
 refine vH ?_
 unfold mx
 refine G.box fun x1=>?_
 refine G.box fun x2=>?_
 exact(hK x1 x2).sub
theorem Ba (hK:∀x1 x2,G w0 (own x1 [ptr b 0]::own x2 [i64 o,i64 a,i64 d,i64 1,u64 n]::L) (K (.func (.func Yj) #[] #[ptr x1 0,ptr x2 0]))):G w0 L (CP Tryz.prog XA [ptr b 0,.agg #[i64 o,i64 a,i64 d,i64 1,u64 n]] K):=by
 refine t8 ?_
 unfold lH
 refine G.box fun x1=>?_
 refine G.box fun x2=>?_
 exact(hK x1 x2).sub
theorem mN {t:Bool}(hf:x.items.length≤16)(hx:U→Rg x) [cx [ob dU (b,vp) x,own x1 [ptr b 0],own x2 [i64 o,i64 a,i64 d,i64 1,u64 n]] L M]
  (hK:∀y e',IC U x y e e'→G w0 (ob dU (b,vp) y::own x1 [ptr b 0]::own x2 [i64 o,i64 a,i64 d,i64 1,u64 n]::M) (K (i64 e'))) :
  G w0 L (rQ Tryz.prog (.func (.func Yi) #[] #[ptr x1 0,ptr x2 0]) [.bool t,i64 e] K):=by
 refine G.pickAll (As:=[ob dU (b,vp) x,own x1 [ptr b 0],own x2 [i64 o,i64 a,i64 d,i64 1,u64 n]]) ?_
 simp only [List.cons_append,List.nil_append]
 show G w0 _ (CP Tryz.prog Yi [.bool t,i64 e,ptr x1 0,ptr x2 0] K)
 refine tj ?_
 unfold kI
 by_cases he:e=0
 ·subst he
  refine G.take1 dU (b,vp) ?_
  rw [ey]
  intro vl vm op h
  have kk:Us 1 8:=⟨by decide⟩
  have sg:pt (x.cells vl vm vp op) 7 [u64 (CR t)] ((yG x 1 (CR t)).cells vl vm vp op):=Bn (k:=1) (by decide)
  refine gr ?_
  refine CX (xs:=x.items) hf ?_
  by_cases z:x.items.length<16
  ·rw [yW,if_pos z,decide_eq_true z]
   repeat' (first | (with_reducible refine G.joini0 ?_) | (with_reducible refine G.joini1 ?_) | (with_reducible refine G.drew ?_) | (simp (maxSteps:=2000000) only [↓RG,RP,RB,BEq.rfl,Int.reduceEq,Int.reduceLT,Int.reduceLE,Nat.reduceEqDiff]))
   refine Gw ?_
   repeat' (first | (with_reducible refine G.joini0 ?_) | (with_reducible refine G.joini1 ?_) | (with_reducible refine G.drew ?_) | (simp (maxSteps:=2000000) only [↓RG,RP,RB,BEq.rfl,Int.reduceEq,Int.reduceLT,Int.reduceLE,Nat.reduceEqDiff,gF]))
   refine be (vm:=vm) b vp op { yG x 1 (CR t) with items:=x.items++[.truth t] } h ?_
   exact(hK _ 0 (.add (k:=1) (y:=CR t) (z:=kR.truth t) z hx (fun _=>PV) fun _=>trivial)).sub
  ·rw [yW,if_neg z,decide_eq_false z]
   refine gg ?_
   refine be (vm:=vm) b vp op x h ?_
   exact(hK x 5 (.keep hf hx (.inr (.inr rfl)))).sub
 ·refine gf he ?_
  exact(hK x e (.keep hf hx (.inl rfl))).sub
theorem ur {t:Bool}(hf:x.items.length≤16)(hx:U→Rg x)(hy:U→fF y) [cx [ob dU (b,vp) x,own x1 [ptr b 0],own x2 [i64 o,i64 a,i64 d,i64 1,u64 n]] L M]
  (hK:∀y e',IC U x y e e'→G w0 (ob dU (b,vp) y::own x1 [ptr b 0]::own x2 [i64 o,i64 a,i64 d,i64 1,u64 n]::M) (K (i64 e'))) :
  G w0 L (rQ Tryz.prog (.func (.func Yj) #[] #[ptr x1 0,ptr x2 0]) [u64 y,.bool t,i64 e] K):=by
 refine G.pickAll (As:=[ob dU (b,vp) x,own x1 [ptr b 0],own x2 [i64 o,i64 a,i64 d,i64 1,u64 n]]) ?_
 simp only [List.cons_append,List.nil_append]
 show G w0 _ (CP Tryz.prog Yj [u64 y,.bool t,i64 e,ptr x1 0,ptr x2 0] K)
 refine sa ?_
 unfold j8
 by_cases he:e=0
 ·subst he
  refine G.take1 dU (b,vp) ?_
  rw [ey]
  intro vl vm op h
  have kk:Us 1 8:=⟨by decide⟩
  have sg:pt (x.cells vl vm vp op) 7 [u64 y] ((yG x 1 y).cells vl vm vp op):=Bn (k:=1) (by decide)
  cases t
  ·refine gg ?_
   refine uP (xs:=x.items) hf ?_
   by_cases z:x.items.length<16
   ·rw [yW,if_pos z,decide_eq_true z]
    repeat' (first | (with_reducible refine G.joini0 ?_) | (with_reducible refine G.joini1 ?_) | (with_reducible refine G.drew ?_) | (simp (maxSteps:=2000000) only [↓RG,RP,RB,BEq.rfl,Int.reduceEq,Int.reduceLT,Int.reduceLE,Nat.reduceEqDiff,gF]))
    refine be (vm:=vm) b vp op { yG x 1 y with items:=x.items++[.none] } h ?_
    exact(hK _ 0 (.add (k:=1) (y:=y) (z:=kR.none) z hx hy fun _=>trivial)).sub
   ·rw [yW,if_neg z,decide_eq_false z]
    refine gg ?_
    refine be (vm:=vm) b vp op x h ?_
    exact(hK x 5 (.keep hf hx (.inr (.inr rfl)))).sub
  ·refine gg ?_
   refine xU (xs:=x.items) hf ?_
   by_cases z:x.items.length<16
   ·rw [yW,if_pos z,decide_eq_true z]
    repeat' (first | (with_reducible refine G.joini0 ?_) | (with_reducible refine G.joini1 ?_) | (with_reducible refine G.drew ?_) | (simp (maxSteps:=2000000) only [↓RG,RP,RB,BEq.rfl,Int.reduceEq,Int.reduceLT,Int.reduceLE,Nat.reduceEqDiff,gF]))
    refine be (vm:=vm) b vp op { yG x 1 y with items:=x.items++[.num y] } h ?_
    exact(hK _ 0 (.add (k:=1) (y:=y) (z:=kR.num y) z hx hy hy)).sub
   ·rw [yW,if_neg z,decide_eq_false z]
    refine gg ?_
    refine be (vm:=vm) b vp op x h ?_
    exact(hK x 5 (.keep hf hx (.inr (.inr rfl)))).sub
 ·refine gf he ?_
  exact(hK x e (.keep hf hx (.inl rfl))).sub
theorem Fp [i:al L dU (b,vp) x C](hK:G w0 (C (ob dU (b,vp) { x with next:=x.pos,fin:=3 })) (K (i64 0))):G w0 L (CP Tryz.prog abX [ptr b 0] K):=by
 refine i.use (fun M hK=>?_) hK
 refine vQ ?_
 unfold mt
 rw [ey] at *
 intro vl vm op h
 have hK:=hK vl vm op h
 refine G.loop0 (σ:=Unit) (fun _=>own b (x.cells vl vm vp op)::sl fv vl x.prog::ob f8 op x.items::M) (fun _=>True) (fun _=>0) () rfl trivial ?_
 intro _ _ J hJ
 refine G.nilsl cd ?_
 try simp (maxSteps:=2000000) only [↓RG,RP,RB,BEq.rfl,Int.reduceEq,Int.reduceLT,Int.reduceLE,Nat.reduceEqDiff,List.length_nil,Int.cast_ofNat_Int]
 exact hK.sub
theorem HH (hf:x.items.length≤16)(hs:s.l.r.f.length≤100000)(hy:Rg x∧Vg s→fF y)(hK:∀y t e',Hc x s y t e'→G w0 (ob dU (b,vp) y::ob ba vp t::M) (K (i64 e'))) :
  G w0 (ob dU (b,vp) x::ob ba vp s::M) (CP Tryz.prog abV [ptr b 0,i64 root,u64 y] K):=by
 refine wt ?_
 unfold ot
 refine G.take1 dU (b,vp) ?_
 rw [ey]
 intro vl vm op h
 refine gr ?_
 refine KN (U:=Rg x∧Vg s) hs And.right hy fun t e hd=>?_
 have hc:∀{e':Int},e'=e∨e'=0∨e'=5→Hc x s x t e':=fun g=>(IC.keep (e:=e) hf And.left g).call hd fun a c=>⟨a,c⟩
 by_cases he:e=0
 ·subst he
  refine gg ?_
  refine uP (xs:=x.items) hf ?_
  by_cases z:x.items.length<16
  ·rw [yW,if_pos z,decide_eq_true z]
   refine gg ?_
   refine be (vm:=vm) b vp op { x with items:=x.items++[.none] } h ?_
   refine(hK { x with items:=x.items++[.none] } t 0 ((IC.call (U:=Rg x∧Vg s) (e:=0) ⟨.inl rfl,⟨rfl,rfl,rfl,rfl⟩,by simp only [List.length_append,List.length_singleton];omega,⟨rfl,rfl⟩,fun u=>⟨u.1.regs,fun a ha=>?_,u.1.prog⟩⟩ hd fun a c=>⟨a,c⟩))).sub
   rcases List.mem_append.1 ha with g | g
   ·exact u.1.items a g
   ·rw [List.mem_singleton.1 g];trivial
  ·rw [yW,if_neg z,decide_eq_false z]
   refine gg ?_
   refine be (vm:=vm) b vp op x h ?_
   exact(hK x t 5 (hc (.inr (.inr rfl)))).sub
 ·refine gf he ?_
  refine be (vm:=vm) b vp op x h ?_
  exact(hK x t e (hc (.inl rfl))).sub
theorem Iw (hf:x.items.length≤16)(hs:s.l.r.f.length≤100000)(hK:∀y t e',Hc x s y t e'→G w0 (ob dU (b,vp) y::ob ba vp t::M) (K (i64 e'))) :
  G w0 (ob dU (b,vp) x::ob ba vp s::M) (CP Tryz.prog abW [ptr b 0,.agg #[i64 o,i64 a,i64 d,i64 1,u64 n],i64 root] K):=by
 refine wY ?_
 unfold nL
 refine G.box fun q=>?_
 refine G.take1 dU (b,vp) ?_
 rw [ey]
 intro vl vm op h
 refine gr ?_
 refine JR (U:=Rg x∧Vg s) hs And.right fun t y ok e hd hy=>?_
 have hend:G w0 (ob dU (b,vp) x::own q [i64 o,i64 a,i64 d,i64 1,u64 n]::ob ba vp t::M) (CP Tryz.prog XA [ptr b 0,.agg #[i64 o,i64 a,i64 d,i64 1,u64 n]] fun f=>rQ Tryz.prog f [u64 y,.bool ok,i64 e] K):=by
  refine Ba fun x1 x2=>?_
  refine ur (U:=Rg x∧Vg s) (x1:=x1) (x2:=x2) (b:=b) (vp:=vp) (o:=o) (a:=a) (d:=d) (n:=n) (x:=x) hf And.left hy fun z e' hz=>?_
  exact(hK z t e' (hz.call hd fun a c=>⟨a,c⟩)).sub
 by_cases he:e=0
 ·subst he
  cases ok
  ·refine gg ?_
   refine be (vm:=vm) b vp op x h ?_
   refine Fp (vp:=vp) (x:=x) ?_
   refine gr ?_
   exact(hK { x with next:=x.pos,fin:=3 } t 0 ⟨hd.vr,⟨rfl,rfl,rfl,rfl⟩,hf,.inr ⟨rfl,rfl,rfl⟩,fun u v=>⟨⟨u.regs,u.items,u.prog⟩,hd.vg ⟨u,v⟩⟩⟩).sub
  ·refine gg ?_
   refine be (vm:=vm) b vp op x h ?_
   exact hend.sub
 ·refine gf he ?_
  refine be (vm:=vm) b vp op x h ?_
  exact hend.sub
theorem IH (hi:1≤a∧a≤12)(hf:x.items.length≤16)(hs:s.l.r.f.length≤100000)(hK:∀y t e',Hc x s y t e'→G w0 (ob dU (b,vp) y::ob ba vp t::M) (K (i64 e'))) :
  G w0 (ob dU (b,vp) x::ob ba vp s::M) (CP Tryz.prog Zl [ptr b 0,.agg #[i64 o,i64 a,i64 d,i64 1,u64 n]] K):=by
 refine wM ?_
 unfold ow
 refine G.box fun q=>?_
 refine G.take1 dU (b,vp) ?_
 rw [ey]
 intro vl vm op h
 have k1:Us 1 8:=⟨by decide⟩
 have k2:Us 2 8:=⟨by decide⟩
 have n1:Jp (x.cells vl vm vp op) 7 (u64 (x.r.get 1)):=sT (k:=1) (by decide)
 have n2:Jp (x.cells vl vm vp op) 8 (u64 (x.r.get 2)):=sT (k:=2) (by decide)
 have e2:IntKind.wrap .i64 (1+1)=2:=by decide
 have ha:a=1∨a=2∨a=3∨a=4∨a=5∨a=6∨a=7∨a=8∨a=9∨a=10∨a=11∨a=12:=by omega
 rcases ha with g | g | g | g | g | g | g | g | g | g | g | g
 all_goals subst g
 ·repeat' (first | (with_reducible refine G.joini0 ?_) | (with_reducible refine G.joini1 ?_) | (with_reducible refine G.drew ?_) | (simp (maxSteps:=2000000) only [↓RG,RP,RB,BEq.rfl,Int.reduceEq,Int.reduceLT,Int.reduceLE,Nat.reduceEqDiff,gF,e2]))
  refine uj fun y1 y2=>?_
  refine gg ?_
  refine Ob (U:=Rg x∧Vg s) hs And.right (fun u=>u.1.regs 1) fun t ok e hd=>?_
  refine gg ?_
  refine be (vm:=vm) b vp op x h ?_
  refine mN (U:=Rg x∧Vg s) (x1:=y1) (x2:=y2) (b:=b) (vp:=vp) (o:=o) (a:=1) (d:=d) (n:=n) (x:=x) hf And.left fun y e' hy=>?_
  refine gg ?_
  exact(hK y t e' (hy.call hd fun a c=>⟨a,c⟩)).sub
 ·repeat' (first | (with_reducible refine G.joini0 ?_) | (with_reducible refine G.joini1 ?_) | (with_reducible refine G.drew ?_) | (simp (maxSteps:=2000000) only [↓RG,RP,RB,BEq.rfl,Int.reduceEq,Int.reduceLT,Int.reduceLE,Nat.reduceEqDiff,gF,e2]))
  refine uj fun y1 y2=>?_
  refine gg ?_
  refine NO (U:=Rg x∧Vg s) hs And.right fun t ok e hd=>?_
  refine gg ?_
  refine be (vm:=vm) b vp op x h ?_
  refine mN (U:=Rg x∧Vg s) (x1:=y1) (x2:=y2) (b:=b) (vp:=vp) (o:=o) (a:=2) (d:=d) (n:=n) (x:=x) hf And.left fun y e' hy=>?_
  refine gg ?_
  exact(hK y t e' (hy.call hd fun a c=>⟨a,c⟩)).sub
 ·repeat' (first | (with_reducible refine G.joini0 ?_) | (with_reducible refine G.joini1 ?_) | (with_reducible refine G.drew ?_) | (simp (maxSteps:=2000000) only [↓RG,RP,RB,BEq.rfl,Int.reduceEq,Int.reduceLT,Int.reduceLE,Nat.reduceEqDiff,gF,e2]))
  refine uj fun y1 y2=>?_
  refine gg ?_
  refine Ox (U:=Rg x∧Vg s) hs And.right fun t ok e hd=>?_
  refine gg ?_
  refine be (vm:=vm) b vp op x h ?_
  refine mN (U:=Rg x∧Vg s) (x1:=y1) (x2:=y2) (b:=b) (vp:=vp) (o:=o) (a:=3) (d:=d) (n:=n) (x:=x) hf And.left fun y e' hy=>?_
  refine gg ?_
  exact(hK y t e' (hy.call hd fun a c=>⟨a,c⟩)).sub
 ·repeat' (first | (with_reducible refine G.joini0 ?_) | (with_reducible refine G.joini1 ?_) | (with_reducible refine G.drew ?_) | (simp (maxSteps:=2000000) only [↓RG,RP,RB,BEq.rfl,Int.reduceEq,Int.reduceLT,Int.reduceLE,Nat.reduceEqDiff,gF,e2]))
  refine uj fun y1 y2=>?_
  refine gg ?_
  refine LY (U:=Rg x∧Vg s) hs And.right (fun u=>u.1.regs 1) (fun u=>u.1.regs 2) fun t ok e hd=>?_
  refine gg ?_
  refine be (vm:=vm) b vp op x h ?_
  refine mN (U:=Rg x∧Vg s) (x1:=y1) (x2:=y2) (b:=b) (vp:=vp) (o:=o) (a:=4) (d:=d) (n:=n) (x:=x) hf And.left fun y e' hy=>?_
  refine gg ?_
  exact(hK y t e' (hy.call hd fun a c=>⟨a,c⟩)).sub
 ·repeat' (first | (with_reducible refine G.joini0 ?_) | (with_reducible refine G.joini1 ?_) | (with_reducible refine G.drew ?_) | (simp (maxSteps:=2000000) only [↓RG,RP,RB,BEq.rfl,Int.reduceEq,Int.reduceLT,Int.reduceLE,Nat.reduceEqDiff,gF,e2]))
  refine Ba fun y1 y2=>?_
  refine gg ?_
  refine Mu (U:=Rg x∧Vg s) hs And.right fun t z ok e hd hz=>?_
  refine gg ?_
  refine be (vm:=vm) b vp op x h ?_
  refine ur (U:=Rg x∧Vg s) (x1:=y1) (x2:=y2) (b:=b) (vp:=vp) (o:=o) (a:=5) (d:=d) (n:=n) (x:=x) hf And.left hz fun y e' hy=>?_
  refine gg ?_
  exact(hK y t e' (hy.call hd fun a c=>⟨a,c⟩)).sub
 ·repeat' (first | (with_reducible refine G.joini0 ?_) | (with_reducible refine G.joini1 ?_) | (with_reducible refine G.drew ?_) | (simp (maxSteps:=2000000) only [↓RG,RP,RB,BEq.rfl,Int.reduceEq,Int.reduceLT,Int.reduceLE,Nat.reduceEqDiff,gF,e2]))
  refine uj fun y1 y2=>?_
  refine gg ?_
  refine MV (U:=Rg x∧Vg s) hs And.right fun t ok e hd=>?_
  refine gg ?_
  refine be (vm:=vm) b vp op x h ?_
  refine mN (U:=Rg x∧Vg s) (x1:=y1) (x2:=y2) (b:=b) (vp:=vp) (o:=o) (a:=6) (d:=d) (n:=n) (x:=x) hf And.left fun y e' hy=>?_
  refine gg ?_
  exact(hK y t e' (hy.call hd fun a c=>⟨a,c⟩)).sub
 ·repeat' (first | (with_reducible refine G.joini0 ?_) | (with_reducible refine G.joini1 ?_) | (with_reducible refine G.drew ?_) | (simp (maxSteps:=2000000) only [↓RG,RP,RB,BEq.rfl,Int.reduceEq,Int.reduceLT,Int.reduceLE,Nat.reduceEqDiff,gF,e2]))
  refine be (vm:=vm) b vp op x h ?_
  refine G.pickAll (As:=[ob dU (b,vp) x,ob ba vp s]) ?_
  simp only [List.cons_append,List.nil_append]
  refine HH (x:=x) (s:=s) hf hs (fun u=>u.1.regs 1) fun y t e' hy=>?_
  exact(hK y t e' hy).sub
 ·repeat' (first | (with_reducible refine G.joini0 ?_) | (with_reducible refine G.joini1 ?_) | (with_reducible refine G.drew ?_) | (simp (maxSteps:=2000000) only [↓RG,RP,RB,BEq.rfl,Int.reduceEq,Int.reduceLT,Int.reduceLE,Nat.reduceEqDiff,gF,e2]))
  refine be (vm:=vm) b vp op x h ?_
  refine G.pickAll (As:=[ob dU (b,vp) x,ob ba vp s]) ?_
  simp only [List.cons_append,List.nil_append]
  refine Iw (x:=x) (s:=s) hf hs fun y t e' hy=>?_
  exact(hK y t e' hy).sub
 ·repeat' (first | (with_reducible refine G.joini0 ?_) | (with_reducible refine G.joini1 ?_) | (with_reducible refine G.drew ?_) | (simp (maxSteps:=2000000) only [↓RG,RP,RB,BEq.rfl,Int.reduceEq,Int.reduceLT,Int.reduceLE,Nat.reduceEqDiff,gF,e2]))
  refine uj fun y1 y2=>?_
  refine gg ?_
  refine N5 (U:=Rg x∧Vg s) hs And.right (fun u=>u.1.regs 1) (fun u=>u.1.regs 2) fun t ok e hd=>?_
  refine gg ?_
  refine be (vm:=vm) b vp op x h ?_
  refine mN (U:=Rg x∧Vg s) (x1:=y1) (x2:=y2) (b:=b) (vp:=vp) (o:=o) (a:=9) (d:=d) (n:=n) (x:=x) hf And.left fun y e' hy=>?_
  refine gg ?_
  exact(hK y t e' (hy.call hd fun a c=>⟨a,c⟩)).sub
 ·repeat' (first | (with_reducible refine G.joini0 ?_) | (with_reducible refine G.joini1 ?_) | (with_reducible refine G.drew ?_) | (simp (maxSteps:=2000000) only [↓RG,RP,RB,BEq.rfl,Int.reduceEq,Int.reduceLT,Int.reduceLE,Nat.reduceEqDiff,gF,e2]))
  refine Ba fun y1 y2=>?_
  refine gg ?_
  refine Nx (U:=Rg x∧Vg s) hs And.right fun t z ok e hd hz=>?_
  refine gg ?_
  refine be (vm:=vm) b vp op x h ?_
  refine ur (U:=Rg x∧Vg s) (x1:=y1) (x2:=y2) (b:=b) (vp:=vp) (o:=o) (a:=10) (d:=d) (n:=n) (x:=x) hf And.left hz fun y e' hy=>?_
  refine gg ?_
  exact(hK y t e' (hy.call hd fun a c=>⟨a,c⟩)).sub
 ·repeat' (first | (with_reducible refine G.joini0 ?_) | (with_reducible refine G.joini1 ?_) | (with_reducible refine G.drew ?_) | (simp (maxSteps:=2000000) only [↓RG,RP,RB,BEq.rfl,Int.reduceEq,Int.reduceLT,Int.reduceLE,Nat.reduceEqDiff,gF,e2]))
  refine uj fun y1 y2=>?_
  refine gg ?_
  refine Nt (U:=Rg x∧Vg s) hs And.right fun t ok e hd=>?_
  refine gg ?_
  refine be (vm:=vm) b vp op x h ?_
  refine mN (U:=Rg x∧Vg s) (x1:=y1) (x2:=y2) (b:=b) (vp:=vp) (o:=o) (a:=11) (d:=d) (n:=n) (x:=x) hf And.left fun y e' hy=>?_
  refine gg ?_
  exact(hK y t e' (hy.call hd fun a c=>⟨a,c⟩)).sub
 ·repeat' (first | (with_reducible refine G.joini0 ?_) | (with_reducible refine G.joini1 ?_) | (with_reducible refine G.drew ?_) | (simp (maxSteps:=2000000) only [↓RG,RP,RB,BEq.rfl,Int.reduceEq,Int.reduceLT,Int.reduceLE,Nat.reduceEqDiff,gF,e2]))
  refine JZ (U:=Rg x∧Vg s) hs And.right fun t v xs e hd hl=>?_
  refine gg ?_
  refine Ba fun y1 y2=>?_
  refine gg ?_
  refine be (vm:=vm) b vp op x h ?_
  refine ur (U:=Rg x∧Vg s) (x1:=y1) (x2:=y2) (b:=b) (vp:=vp) (o:=o) (a:=12) (d:=d) (n:=n) (x:=x) hf And.left (fun _=>gH) fun y e' hy=>?_
  repeat' (first | (with_reducible refine G.joini0 ?_) | (with_reducible refine G.joini1 ?_) | (with_reducible refine G.drew ?_) | (simp (maxSteps:=2000000) only [↓RG,RP,RB,BEq.rfl,Int.reduceEq,Int.reduceLT,Int.reduceLE,Nat.reduceEqDiff]))
  exact(hK y t e' (hy.call hd fun a c=>⟨a,c⟩)).sub
end
theorem Mo (hi:I5 i)(hf:x.items.length≤16)(hr:s.l.frees.length≤1000)(hK:∀R,WH x s i R→G w0 (ob dU (b,vp) R.1::ob ba vp R.2.1::M) (K (i64 R.2.2))) :
  G w0 (ob dU (b,vp) x::ob ba vp s::M) (CP Tryz.prog abF [ptr b 0,.agg #[i64 i.op,i64 i.a,i64 i.b,i64 i.c,u64 i.n]] K):=by
 have hs:s.l.r.f.length≤100000:=by rw [wA] at hr;omega
 refine zW ?_
 unfold qG
 obtain⟨pa,pb,pc⟩:=HC hi
 obtain⟨la,ea⟩:=OY pa
 obtain⟨lb,eb⟩:=OY pb
 obtain⟨lc,ec⟩:=OY pc
 have ixa:iA (i.a.tmod 8) (m8 i.a):=⟨ea⟩
 have ixb:iA (i.b.tmod 8) (m8 i.b):=⟨eb⟩
 have ixc:iA (i.c.tmod 8) (m8 i.c):=⟨ec⟩
 have ka:Us (m8 i.a) 8:=⟨la⟩
 have kb:Us (m8 i.b) 8:=⟨lb⟩
 have kc:Us (m8 i.c) 8:=⟨lc⟩
 have o1:=hi.op
 unfold vx at o1
 have c2:¬i.op=2:=by omega
 have c4:¬i.op=4:=by omega
 have c5:¬i.op=5:=by omega
 have c6:¬i.op=6:=by omega
 have c7:¬i.op=7:=by omega
 have c12:¬i.op=12:=by omega
 have c13:¬i.op=13:=by omega
 have c22:¬i.op=22:=by omega
 refine G.box fun q=>?_
 refine G.take1 dU (b,vp) ?_
 rw [ey]
 intro vl vm op h
 have na:=sT (x:=x) (vl:=vl) (vm:=vm) (vp:=vp) (op:=op) la
 have nb:=sT (x:=x) (vl:=vl) (vm:=vm) (vp:=vp) (op:=op) lb
 have nc:=sT (x:=x) (vl:=vl) (vm:=vm) (vp:=vp) (op:=op) lc
 have sg:=fun y=>Bn (x:=x) (vl:=vl) (vm:=vm) (vp:=vp) (op:=op) (y:=y) la
 by_cases c23:i.op=23
 ·have c1:¬i.op=1:=by omega
  have c3:¬i.op=3:=by omega
  have c21:¬i.op=21:=by omega
  have hc:i.c=1∧1≤i.a∧i.a≤12:=by unfold I5 at hi;omega
  have hfin:G w0 (own b (x.cells vl vm vp op)::sl fv vl x.prog::ob f8 op x.items::own q [i64 i.op,i64 i.a,i64 i.b,i64 i.c,u64 i.n]::ob ba vp s::M) (CP Tryz.prog Zl [ptr b 0,.agg #[i64 i.op,i64 i.a,i64 i.b,i64 i.c,u64 i.n]] (fun x84=>K x84)):=by
   refine be (vm:=vm) b vp op x h ?_
   refine G.pickAll (As:=[ob dU (b,vp) x,ob ba vp s]) ?_
   simp only [List.cons_append,List.nil_append]
   rw [hc.1]
   refine IH (x:=x) (s:=s) hc.2 hf hs fun y t e' hy=>?_
   exact(hK (y,t,e') (hy.q c23)).sub
  repeat' (first | (with_reducible refine G.joini0 ?_) | (with_reducible refine G.joini1 ?_) | (with_reducible refine G.drew ?_) | (simp (maxSteps:=2000000) only [↓RG,RP,RB,BEq.rfl,Int.reduceEq,Int.reduceLT,Int.reduceLE,Nat.reduceEqDiff,gF,c1,c2,c3,c4,c5,c6,c7,c12,c13,c21,c22,eq_true c23]))
  exact hfin
 have hK:=hK (Na x s i) (Ux hi c23 hf)
 unfold Na at hK
 by_cases c1:i.op=1
 ·rw [if_pos c1] at hK
  repeat' (first | (with_reducible refine G.joini0 ?_) | (with_reducible refine G.joini1 ?_) | (with_reducible refine G.drew ?_) | (simp (maxSteps:=2000000) only [↓RG,RP,RB,BEq.rfl,Int.reduceEq,Int.reduceLT,Int.reduceLE,Nat.reduceEqDiff,gF,eq_true c1]))
  refine be (vm:=vm) b vp op (yG x (m8 i.a) (i.n)) h ?_
  exact hK.sub
 rw [if_neg c1] at hK
 by_cases c3:i.op=3
 ·rw [if_pos c3] at hK
  repeat' (first | (with_reducible refine G.joini0 ?_) | (with_reducible refine G.joini1 ?_) | (with_reducible refine G.drew ?_) | (simp (maxSteps:=2000000) only [↓RG,RP,RB,BEq.rfl,Int.reduceEq,Int.reduceLT,Int.reduceLE,Nat.reduceEqDiff,gF,c1,c2,eq_true c3]))
  refine be (vm:=vm) b vp op (yG x (m8 i.a) (IntKind.wrap .u64 (x.r.get (m8 i.b)+x.r.get (m8 i.c)))) h ?_
  exact hK.sub
 rw [if_neg c3] at hK
 by_cases c21:i.op=21
 ·rw [if_pos c21] at hK
  repeat' (first | (with_reducible refine G.joini0 ?_) | (with_reducible refine G.joini1 ?_) | (with_reducible refine G.drew ?_) | (simp (maxSteps:=2000000) only [↓RG,RP,RB,BEq.rfl,Int.reduceEq,Int.reduceLT,Int.reduceLE,Nat.reduceEqDiff,gF,c1,c2,c3,c4,c5,c6,c7,c12,c13,eq_true c21]))
  refine xU (xs:=x.items) hf ?_
  by_cases z:x.items.length<16
  ·rw [if_pos z] at hK
   rw [yW,if_pos z,decide_eq_true z]
   refine gg ?_
   refine be (vm:=vm) b vp op { x with items:=x.items++[.num (x.r.get (m8 i.a))] } h ?_
   exact hK.sub
  ·rw [if_neg z] at hK
   rw [yW,if_neg z,decide_eq_false z]
   refine gg ?_
   refine be (vm:=vm) b vp op x h ?_
   exact hK.sub
 rw [if_neg c21] at hK
 have c89:i.op=8∨i.op=9:=by omega
 have hfin:G w0 (own b (x.cells vl vm vp op)::sl fv vl x.prog::ob f8 op x.items::own q [i64 i.op,i64 i.a,i64 i.b,i64 i.c,u64 i.n]::ob ba vp s::M) (CP Tryz.prog Zm [ptr b 0,.agg #[i64 i.op,i64 i.a,i64 i.b,i64 i.c,u64 i.n],ptr b (6+m8 i.a),u64 (x.r.get (m8 i.b))] (fun x84=>K x84)):=by
  refine be (vm:=vm) b vp op x h ?_
  refine G.pickAll (As:=[ob dU (b,vp) x,ob ba vp s]) ?_
  simp only [List.cons_append,List.nil_append]
  refine G5 (x:=x) (s:=s) hi c89 ?_
  exact hK.sub
 rcases c89 with c8 | c9
 ·repeat' (first | (with_reducible refine G.joini0 ?_) | (with_reducible refine G.joini1 ?_) | (with_reducible refine G.drew ?_) | (simp (maxSteps:=2000000) only [↓RG,RP,RB,BEq.rfl,Int.reduceEq,Int.reduceLT,Int.reduceLE,Nat.reduceEqDiff,gF,c1,c2,c3,c4,c5,c6,c7,c12,c13,c21,c22,c23,eq_true c8]))
  exact hfin
 ·have c8:¬i.op=8:=by omega
  repeat' (first | (with_reducible refine G.joini0 ?_) | (with_reducible refine G.joini1 ?_) | (with_reducible refine G.drew ?_) | (simp (maxSteps:=2000000) only [↓RG,RP,RB,BEq.rfl,Int.reduceEq,Int.reduceLT,Int.reduceLE,Nat.reduceEqDiff,gF,c1,c2,c3,c4,c5,c6,c7,c12,c13,c21,c22,c23,c8,eq_true c9]))
  exact hfin
end
end Go.Proofs.YtoealglbimbbmaaGreatDoor.S
namespace Go.Proofs.YtoealglbimbbmaaGreatDoor.S
open Go Go.Proofs
set_option linter.unusedVariables false
set_option linter.unusedSimpArgs false
abbrev fk.ins (x:fk):dD:=x.prog.getD x.pos.toNat ⟨0,0,0,0,0⟩
abbrev fk.on (x:fk):fk:={ x with pos:=x.next,left:=x.left-1 }
abbrev fk.failed (x:fk)(e:Int):fk:={ x with fin:=4,err:=e }
def xo (x:fk)(s:fh):fk×fh×Int:=Na { x with next:=x.pos+1 } s x.ins
def AZ:Nat→fk→fh→fk×fh×Int
 | 0,x,s=>(x,s,x.fin)
 | n+1,x,s =>
  if x.fin≠0 then (x,s,x.fin)
  else if x.pos=x.prog.length then ({ x with fin:=2 },s,2)
  else if x.left=0 then (x.failed 6,s,4)
  else if (xo x s).2.2=0 then AZ n (xo x s).1.on (xo x s).2.1
  else if (xo x s).2.2=11 then ((xo x s).1,(xo x s).2.1,1)
  else ((xo x s).1.failed (xo x s).2.2,(xo x s).2.1,4)
structure qa (x:fk)(s:fh):Prop where
 fin:x.fin=0
 bad:x.bad=0
 ok:ir x.prog
 pos:0≤x.pos∧x.pos≤x.prog.length
 left:0≤x.left∧x.left≤400
 few:x.items.length≤16
 fr:(s.l.frees.length:Int)+x.left≤500
structure Hf (x:fk)(s:fh)(R:fk×fh×Int):Prop where
 det:(∀i∈x.prog,i.op≠23)→R=AZ 401 x s
 k:R.2.1.k=s.k
 size:R.2.1.size=s.size
 ok:M6 s→M6 R.2.1
 fin:R.2.2=1∨R.2.2=2∨R.2.2=3∨R.2.2=4
 need:R.2.2=1→Nd R.2.1∧qa R.1 R.2.1
 frees:R.2.1.l.frees.length≤1000
 few:R.1.items.length≤16
 rg:Rg x→Vg s→Rg R.1∧Vg R.2.1
abbrev HE:=fk→fh→fk×fh×Int
structure dm (ρ:HE):Prop where
 q:∀r s,qa r s→Hf r s (ρ r s)
 u:∀r s,Rg r→Vg s→Rg (ρ r s).1∧Vg (ρ r s).2.1
structure Tu (x0:fk)(s0:fh)(n:Nat)(x:fk)(s:fh):Prop where
 det:(∀i∈x0.prog,i.op≠23)→AZ n x s=AZ 401 x0 s0
 prog:x.prog=x0.prog
 k:s.k=s0.k
 size:s.size=s0.size
 ok:M6 s0→M6 s
 frees:s.l.frees.length≤1000
 few:x.items.length≤16
 rg:Rg x0→Vg s0→Rg x∧Vg s
section
variable {x x0:fk}{s s0:fh}{n:Nat}
theorem qa.lv {t:fh}(h:qa x s)(e:t.l=s.l):qa x t:=⟨h.fin,h.bad,h.ok,h.pos,h.left,h.few,by rw [e];exact h.fr⟩
theorem Tu.start (h:qa x s):Tu x s 401 x s:=⟨fun _=>rfl,rfl,rfl,rfl,id,by have:=h.fr;have:=h.left;omega,h.few,fun a b=>⟨a,b⟩⟩
theorem Sk (h:x.fin≠0):AZ n x s=(x,s,x.fin):=by cases n <;> simp [AZ,h]
theorem Tu.ends (h:Tu x0 s0 n x s){z:fk}{e:Int}(he:e=2∨e=3∨e=4)(hd:(∀i∈x.prog,i.op≠23)→AZ n x s=(z,s,e))(hi:z.items=x.items∧z.r=x.r∧z.prog=x.prog):Hf x0 s0 (z,s,e):=by
 obtain⟨i1,i2,i3⟩:=hi
 refine⟨fun g=>?_,h.k,h.size,h.ok,.inr he,fun g=>(by have g:e=1:=g;omega),h.frees,by rw [i1];exact h.few,fun a b=>⟨⟨?_,?_,?_⟩,(h.rg a b).2⟩⟩
 ·rw [←h.det g,hd (by rw [h.prog];exact g)]
 ·rw [i2];exact(h.rg a b).1.regs
 ·rw [i1];exact(h.rg a b).1.items
 ·rw [i3];exact(h.rg a b).1.prog
theorem NS (h:qa x s)(hp:x.pos≠x.prog.length):x.prog[x.pos.toNat]? = some x.ins:=by
 have:=h.pos
 have h2:x.pos.toNat<x.prog.length:=by omega
 show _=some (x.prog.getD x.pos.toNat ⟨0,0,0,0,0⟩)
 rw [List.getD_eq_getElem?_getD,List.getElem?_eq_getElem h2];rfl
theorem Tu.step (hA:qa x s)(h:Tu x0 s0 (n+1) x s)(hp:x.pos≠x.prog.length)(hl:x.left≠0){R:fk×fh×Int}(q:WH { x with next:=x.pos+1 } s x.ins R) :
  (R.2.2=0→R.1.fin=0→qa R.1.on R.2.1∧Tu x0 s0 n R.1.on R.2.1)∧(R.2.2=0→R.1.fin≠0→Hf x0 s0 (R.1.on,R.2.1,R.1.fin))∧(R.2.2=11→Hf x0 s0 (R.1,R.2.1,1))∧(R.2.2≠0→R.2.2≠11→Hf x0 s0 (R.1.failed R.2.2,R.2.1,4)):=by
 have hin:=List.mem_of_getElem? (NS hA hp)
 have hl2:=hA.left
 have hpo:=hA.pos
 obtain⟨e1,e2,e3,e4⟩:=q.same
 simp only at e1 e2 e3 e4
 have hfr:=hA.fr
 have hv:=q.vr.1.fr
 have hrg:Rg x0→Vg s0→Rg R.1∧Vg R.2.1:=fun a b=>by
  obtain⟨g1,g2⟩:=h.rg a b
  exact q.rg ⟨g1.regs,g1.items,g1.prog⟩ g2 (g1.prog _ hin)
 have hdet:(∀i∈x0.prog,i.op≠23)→R=xo x s∧AZ (n+1) x s=if R.2.2=0 then AZ n R.1.on R.2.1 else if R.2.2=11 then (R.1,R.2.1,1) else (R.1.failed R.2.2,R.2.1,4):=fun g=>by
  have hR:R=xo x s:=q.det (g _ (by rw [←h.prog];exact hin))
  refine⟨hR,?_⟩
  rw [AZ,if_neg (fun g=>g hA.fin),if_neg hp,if_neg hl,hR]
 have hk:R.2.1.k=s0.k:=q.vr.1.k.trans h.k
 have hz:R.2.1.size=s0.size:=q.vr.1.size.trans h.size
 have ho:M6 s0→M6 R.2.1:=fun o=>q.vr.1.ok (h.ok o)
 have hf:=q.fin
 simp only at hf
 have hf0:=hA.fin
 have hnd:=q.vr.2
 refine⟨fun c0 cf=>?_,fun c0 cf=>?_,fun c11=>?_,fun c0 c11=>?_⟩
 ·have hn:R.1.next=x.pos+1:=by
   rcases hf with g | g
   ·exact g.2
   ·rw [g.1] at cf;omega
  refine⟨⟨cf,e2.trans hA.bad,?_,?_,?_,q.few,?_⟩,⟨fun g=>?_,e1.trans h.prog,hk,hz,ho,?_,q.few,fun a b=>?_⟩⟩
  ·show ir R.1.prog;rw [e1];exact hA.ok
  ·show 0≤R.1.next∧R.1.next≤R.1.prog.length;rw [e1,hn];omega
  ·show 0≤R.1.left-1∧R.1.left-1≤400;omega
  ·show (R.2.1.l.frees.length:Int)+(R.1.left-1)≤500;omega
  ·have:=(hdet g).2
   rw [if_pos c0] at this
   rw [←this,h.det g]
  ·show R.2.1.l.frees.length≤1000;omega
  ·obtain⟨g1,g2⟩:=hrg a b
   exact⟨⟨g1.regs,g1.items,g1.prog⟩,g2⟩
 ·have h3:R.1.fin=3:=by
   rcases hf with g | g
   ·rw [g.1] at cf;exact absurd hf0 cf
   ·exact g.1
  refine⟨fun g=>?_,hk,hz,ho,?_,fun g=>(by have g:R.1.fin=1:=g;omega),?_,q.few,fun a b=>?_⟩
  ·have:=(hdet g).2
   rw [if_pos c0,Sk (x:=R.1.on) (show R.1.fin≠0 from cf)] at this
   rw [←h.det g,this]
  ·show R.1.fin=1∨R.1.fin=2∨R.1.fin=3∨R.1.fin=4;omega
  ·show R.2.1.l.frees.length≤1000;omega
  ·obtain⟨g1,g2⟩:=hrg a b
   exact⟨⟨g1.regs,g1.items,g1.prog⟩,g2⟩
 ·refine⟨fun g=>?_,hk,hz,ho,.inl rfl,fun _=>⟨(hnd c11).1,?_⟩,?_,q.few,hrg⟩
  ·have:=(hdet g).2
   rw [if_neg (by omega),if_pos c11] at this
   rw [←h.det g,this]
  ·have hfin:R.1.fin=0:=by
    rcases hf with g | g
    ·exact g.1.trans hf0
    ·omega
   have h11:=(hnd c11).2
   refine⟨hfin,e2.trans hA.bad,?_,?_,?_,q.few,?_⟩
   ·show ir R.1.prog;rw [e1];exact hA.ok
   ·show 0≤R.1.pos∧R.1.pos≤R.1.prog.length;rw [e1,e4];omega
   ·show 0≤R.1.left∧R.1.left≤400;omega
   ·show (R.2.1.l.frees.length:Int)+R.1.left≤500;omega
  ·have h11:=(hnd c11).2
   show R.2.1.l.frees.length≤1000;omega
 ·refine⟨fun g=>?_,hk,hz,ho,by simp,fun g=>(by cases g),?_,q.few,fun a b=>?_⟩
  ·have:=(hdet g).2
   rw [if_neg c0,if_neg c11] at this
   rw [←h.det g,this]
  ·show R.2.1.l.frees.length≤1000;omega
  ·obtain⟨g1,g2⟩:=hrg a b
   exact⟨⟨g1.regs,g1.items,g1.prog⟩,g2⟩
section
open Classical
theorem KB (h:qa x s):∃R,Hf x s R:=by
 have key:∀{x0:fk} {s0:fh} {n:Nat} {x:fk} {s:fh},qa x s→Tu x0 s0 n x s→x.left<n→∃R,Hf x0 s0 R:=fun {x0 s0 n}=>by
  induction n with
  | zero=>intro x s hA _ hl;have:=hA.left;omega
  | succ n ih =>
   intro x s hA hM hl
   by_cases c1:x.pos=x.prog.length
   ·exact⟨_,hM.ends (z:={ x with fin:=2 }) (.inl rfl) (fun _=>by rw [AZ,if_neg (fun g=>g hA.fin),if_pos c1]) ⟨rfl,rfl,rfl⟩⟩
   by_cases c2:x.left=0
   ·exact⟨_,hM.ends (z:=x.failed 6) (.inr (.inr rfl)) (fun _=>by rw [AZ,if_neg (fun g=>g hA.fin),if_neg c1,if_pos c2]) ⟨rfl,rfl,rfl⟩⟩
   have hin:=List.mem_of_getElem? (NS hA c1)
   by_cases c3:x.ins.op=23
   ·exact⟨_,hM.ends (z:=x.failed 6) (.inr (.inr rfl)) (fun g=>absurd c3 (g _ hin)) ⟨rfl,rfl,rfl⟩⟩
   have hq:=Ux (x:={ x with next:=x.pos+1 }) (s:=s) (hA.ok.2.2 _ hin) c3 hA.few
   obtain⟨s1,s2,s3,s4⟩:=hM.step hA c1 c2 hq
   have hll:=hq.same.2.2.1
   simp only at hll
   clear hq
   generalize Na { x with next:=x.pos+1 } s x.ins=R at s1 s2 s3 s4 hll
   by_cases d0:R.2.2=0
   ·by_cases d1:R.1.fin=0
    ·obtain⟨a,b⟩:=s1 d0 d1
     exact ih a b (by show R.1.left-1<_;omega)
    ·exact⟨_,s2 d0 d1⟩
   ·by_cases d1:R.2.2=11
    ·exact⟨_,s3 d1⟩
    ·exact⟨_,s4 d0 d1⟩
 exact key (n:=401) h (.start h) (by have:=h.left;omega)
noncomputable def Nc (r:fk)(s:fh):fk×fh×Int:=if h:qa r s then (KB h).choose else (r,s,4)
theorem si:∃ρ,dm ρ:=⟨Nc,fun r s h=>by unfold Nc;rw [dif_pos h];exact(KB h).choose_spec,fun r s a b=>by
 unfold Nc
 split
 ·rename_i h;exact(KB h).choose_spec.rg a b
 ·exact⟨a,b⟩⟩
theorem U6 {R:fk×fh×Int}(h:qa x s)(hR:Hf x s R):∃ρ,dm ρ∧ρ x s=R:=by
 obtain⟨ρ,hρ⟩:=si
 refine⟨fun r t=>if r=x∧t=s then R else ρ r t,⟨fun r t hr=>?_,fun r t a b=>?_⟩,if_pos ⟨rfl,rfl⟩⟩
 ·split
  ·rename_i g;rw [g.1,g.2];exact hR
  ·exact hρ.q r t hr
 ·split
  ·rename_i g;obtain⟨rfl,rfl⟩:=g;exact hR.rg a b
  ·exact hρ.u r t a b
end
end
section
variable {w0:bg}{L M:List ax}{K:KV}{b vp:Nat}{x:fk}{s:fh}
theorem JH (hA:qa x s)(hK:∀R,Hf x s R→G w0 (ob dU (b,vp) R.1::ob ba vp R.2.1::M) (K (i64 R.2.2))) :
  G w0 (ob dU (b,vp) x::ob ba vp s::M) (CP Tryz.prog abs [ptr b 0] K):=by
 refine yu ?_
 unfold o0
 refine G.loop0 (σ:=Nat×fk×fh) (fun z=>ob dU (b,vp) z.2.1::ob ba vp z.2.2::M) (fun z=>(qa z.2.1 z.2.2∧Tu x s z.1 z.2.1 z.2.2∧z.2.1.left<z.1)∨(z.2.1.fin≠0∧Hf x s (z.2.1,z.2.2,z.2.1.fin))) (fun z=>z.1) (401,x,s) rfl (.inl ⟨hA,.start hA,by have:=hA.left;show x.left<401;omega⟩) ?_
 rintro⟨k,y,t⟩ hz J hJ
 simp only at hz hJ ⊢
 rcases hz with ⟨hA,hM,hl⟩ | ⟨f,hq⟩
 ·obtain⟨k,rfl⟩:∃j,k=j+1:=⟨k-1,by have:=hA.left;omega⟩
  have hend:∀(z:fk) (t':fh),z.fin≠0→Hf x s (z,t',z.fin)→G w0 (ob dU (b,vp) z::ob ba vp t'::M) J:=fun z t' hz e=>hJ (k,z,t') (.inr ⟨hz,e⟩) (by simp)
  have hf:=hA.fin
  have hb:=hA.bad
  have hpo:=hA.pos
  have hlen:=hA.ok.2.1
  rw [ey]
  intro vl vm op h
  by_cases c2:y.pos=y.prog.length
  ·repeat' (first | (with_reducible refine G.joini0 ?_) | (with_reducible refine G.joini1 ?_) | (with_reducible refine G.drew ?_) | (simp (maxSteps:=2000000) only [↓RG,RP,RB,BEq.rfl,Int.reduceEq,Int.reduceLT,Int.reduceLE,Nat.reduceEqDiff,eq_true hf,eq_true hb,eq_true c2]))
   refine be (vm:=vm) b vp op { y with fin:=2 } h ?_
   exact(hend { y with fin:=2 } t (show (2:Int)≠0 by decide) (hM.ends (.inl rfl) (fun _=>by rw [AZ,if_neg (fun g=>g hf),if_pos c2]) ⟨rfl,rfl,rfl⟩)).sub
  by_cases c3:y.left=0
  ·repeat' (first | (with_reducible refine G.joini0 ?_) | (with_reducible refine G.joini1 ?_) | (with_reducible refine G.drew ?_) | (simp (maxSteps:=2000000) only [↓RG,RP,RB,BEq.rfl,Int.reduceEq,Int.reduceLT,Int.reduceLE,Nat.reduceEqDiff,eq_true hf,eq_true hb,c2,eq_true c3]))
   refine be (vm:=vm) b vp op y h ?_
   refine zb (vp:=vp) (x:=y) ?_
   repeat' (first | (with_reducible refine G.joini0 ?_) | (with_reducible refine G.joini1 ?_) | (with_reducible refine G.drew ?_) | (simp (maxSteps:=2000000) only [↓RG,RP,RB,BEq.rfl,Int.reduceEq,Int.reduceLT,Int.reduceLE,Nat.reduceEqDiff]))
   exact(hend (y.failed 6) t (show (4:Int)≠0 by decide) (hM.ends (.inr (.inr rfl)) (fun _=>by rw [AZ,if_neg (fun g=>g hf),if_neg c2,if_pos c3]) ⟨rfl,rfl,rfl⟩)).sub
  have hin:=NS hA c2
  have e:eA y.prog y.pos.toNat y.ins:=⟨hin⟩
  have ix:iA y.pos y.pos.toNat:=⟨by omega⟩
  have ew:IntKind.wrap .i64 (y.pos+1)=y.pos+1:=ik (by omega) (by omega)
  repeat' (first | (with_reducible refine G.joini0 ?_) | (with_reducible refine G.joini1 ?_) | (with_reducible refine G.drew ?_) | (simp (maxSteps:=2000000) only [↓RG,RP,RB,BEq.rfl,Int.reduceEq,Int.reduceLT,Int.reduceLE,Nat.reduceEqDiff,eq_true hf,eq_true hb,c2,c3,ew]))
  refine be (vm:=vm) b vp op { y with next:=y.pos+1 } h ?_
  refine G.pickAll (As:=[ob dU (b,vp) { y with next:=y.pos+1 },ob ba vp t]) ?_
  simp only [List.cons_append,List.nil_append]
  have hrf:=UI (s:=t.l)
  have hfr:=hM.frees
  refine Mo (x:={ y with next:=y.pos+1 }) (s:=t) (i:=y.ins) (hA.ok.2.2 _ (List.mem_of_getElem? hin)) hA.few (by omega) fun R hR=>?_
  have hll:=hR.same.2.2.1
  simp only at hll
  have hAl:=hA.left
  obtain⟨s1,s2,s3,s4⟩:=hM.step hA c2 c3 hR
  obtain⟨z,t2,q⟩:=R
  simp only at s1 s2 s3 s4 hll ⊢
  by_cases c4:q=0
  ·have el:IntKind.wrap .i64 (z.left-1)=z.left-1:=ik (by omega) (by omega)
   rw [ey]
   intro vl vm op h
   repeat' (first | (with_reducible refine G.joini0 ?_) | (with_reducible refine G.joini1 ?_) | (with_reducible refine G.drew ?_) | (simp (maxSteps:=2000000) only [↓RG,RP,RB,BEq.rfl,Int.reduceEq,Int.reduceLT,Int.reduceLE,Nat.reduceEqDiff,eq_true c4,el]))
   refine be (vm:=vm) b vp op z.on h ?_
   by_cases cf:z.fin=0
   ·obtain⟨a1,a2⟩:=s1 c4 cf
    exact(hJ (k,z.on,t2) (.inl ⟨a1,a2,by show z.left-1<_;omega⟩) (by simp)).sub
   ·exact(hend z.on t2 cf (s2 c4 cf)).sub
  ·by_cases c5:q=11
   ·refine gf (an c4 (eq_true c5)) ?_
    exact(hK _ (s3 c5)).sub
   ·refine gf (an c4 c5) ?_
    refine zb (vp:=vp) (x:=z) ?_
    repeat' (first | (with_reducible refine G.joini0 ?_) | (with_reducible refine G.joini1 ?_) | (with_reducible refine G.drew ?_) | (simp (maxSteps:=2000000) only [↓RG,RP,RB,BEq.rfl,Int.reduceEq,Int.reduceLT,Int.reduceLE,Nat.reduceEqDiff]))
    exact(hend (z.failed q) t2 (show (4:Int)≠0 by decide) (s4 c4 c5)).sub
 ·have hK:=hK _ hq
  rw [ey] at hK ⊢
  intro vl vm op h
  have hK:=hK vl vm op h
  repeat' (first | (with_reducible refine G.joini0 ?_) | (with_reducible refine G.joini1 ?_) | (with_reducible refine G.drew ?_) | (simp (maxSteps:=2000000) only [↓RG,RP,RB,BEq.rfl,Int.reduceEq,Int.reduceLT,Int.reduceLE,Nat.reduceEqDiff,f]))
  exact hK
end
end Go.Proofs.YtoealglbimbbmaaGreatDoor.S
