import Derived.Test.YtoealglbimbbmaaGreatDoorQInt
namespace Go.Proofs.YtoealglbimbbmaaGreatDoor.S
open Go Go.Proofs
set_option linter.unusedVariables false
set_option linter.unusedSimpArgs false
section
variable {w0:bo}{L M:List bd}{K:KV}{F:World→Prop}{C:bd→List bd}{b vp op:Nat}{x:dw}{s:fa}{v vl vm:Value}{i:dv}
theorem Ei (h:Gn i):0≤i.a∧0≤i.b∧0≤i.c:=by unfold Gn pi at h;omega
theorem ED (hi:Gn i)(hrf:s.l.r.f.length≤1000)(h89:i.op=8∨i.op=9∨i.op=10∨i.op=11)(hK:G w0 (ob g9 (b,vp) (gV x s i).1::ob cY vp (gV x s i).2.1::M) (K (i64 (gV x s i).2.2))) :
  G w0 (ob g9 (b,vp) x::ob cY vp s::M) (CP Tryz.prog WY [ptr b 0,.agg #[i64 i.op,i64 i.a,i64 i.b,i64 i.c,u64 i.n],ptr b (6+m8 i.a),u64 (x.r.get (m8 i.b))] K):=by
 refine t7 ?_
 unfold mA
 obtain⟨la,ea⟩:=Mi (Ei hi).1
 refine G.box fun q=>?_
 unfold gV at hK
 rcases h89 with h8 | h9 | h10 | h11
 ·rw [if_pos h8] at hK
  refine gf (eq_true h8) ?_
  refine vx ?_
  by_cases c:(dA (x.r.get (m8 i.b)) i.c).2=0
  ·rw [if_neg (fun g=>g c)] at hK
   refine G.take1 g9 (b,vp) ?_
   rw [fO]
   intro vl vm op h
   have sg:=Er (x:=x) (vl:=vl) (vm:=vm) (vp:=vp) (op:=op) (k:=m8 i.a) (y:=(cr s (dA (x.r.get (m8 i.b)) i.c).1).2.1) la
   refine gf c ?_
   refine kO (s:=s) ?_
   by_cases c2:(cr s (dA (x.r.get (m8 i.b)) i.c).1).2.2=0
   ·rw [if_pos c2] at hK
    repeat' (first | (with_reducible refine G.joini0 ?_) | (with_reducible refine G.joini1 ?_) | (with_reducible refine G.drew ?_) | (simp (maxSteps:=2000000) only [↓RG,RP,RB,BEq.rfl,Int.reduceEq,Int.reduceLT,Int.reduceLE,Nat.reduceEqDiff,c2]))
    refine de (vm:=vm) b vp op (xx x (m8 i.a) (cr s (dA (x.r.get (m8 i.b)) i.c).1).2.1) h ?_
    exact hK.sub
   ·rw [if_neg c2] at hK
    refine gf c2 ?_
    refine de (vm:=vm) b vp op x h ?_
    exact hK.sub
  ·rw [if_pos c] at hK
   have c3:(dA (x.r.get (m8 i.b)) i.c).2=2:=by rcases DJ (a:=x.r.get (m8 i.b)) (c:=i.c) with g | g;exact absurd g c;exact g
   rw [c3]
   refine gg ?_
   exact hK.sub
 ·have h8:¬i.op=8:=by omega
  rw [if_neg h8,if_pos h9] at hK
  refine G.take1 g9 (b,vp) ?_
  rw [fO]
  intro vl vm op h
  have nt:=wg (x:=x) (vl:=vl) (vm:=vm) (vp:=vp) (op:=op) (k:=m8 i.a) la
  repeat' (first | (with_reducible refine G.joini0 ?_) | (with_reducible refine G.joini1 ?_) | (with_reducible refine G.drew ?_) | (simp (maxSteps:=2000000) only [↓RG,RP,RB,BEq.rfl,Int.reduceEq,Int.reduceLT,Int.reduceLE,Nat.reduceEqDiff,h8,eq_true h9]))
  refine vx ?_
  by_cases c:(dA (x.r.get (m8 i.a)) i.c).2=0
  ·rw [if_neg (fun g=>g c)] at hK
   refine gf c ?_
   refine HO (s:=s) ?_
   refine de (vm:=vm) b vp op x h ?_
   exact hK.sub
  ·rw [if_pos c] at hK
   have c3:(dA (x.r.get (m8 i.a)) i.c).2=2:=by rcases DJ (a:=x.r.get (m8 i.a)) (c:=i.c) with g | g;exact absurd g c;exact g
   rw [c3]
   refine gg ?_
   refine de (vm:=vm) b vp op x h ?_
   exact hK.sub
 ·have h8:¬i.op=8:=by omega
  have h9:¬i.op=9:=by omega
  rw [if_neg h8,if_neg h9,if_pos h10] at hK
  by_cases c:2147483648≤x.r.get (m8 i.b)
  ·rw [if_pos c] at hK
   refine gf (an h8 (an h9 (an (eq_true h10) c))) ?_
   exact hK.sub
  ·rw [if_neg c] at hK
   refine G.take1 g9 (b,vp) ?_
   rw [fO]
   intro vl vm op h
   have sg:=Er (x:=x) (vl:=vl) (vm:=vm) (vp:=vp) (op:=op) (k:=m8 i.a) (y:=wU (eF s (gi (x.r.get (m8 i.b)))).2.1) la
   refine gf (an h8 (an h9 (an (eq_true h10) c))) ?_
   refine F7 (s:=s) ?_
   by_cases c2:(eF s (gi (x.r.get (m8 i.b)))).2.2=0
   ·rw [if_pos c2] at hK
    repeat' (first | (with_reducible refine G.joini0 ?_) | (with_reducible refine G.joini1 ?_) | (with_reducible refine G.drew ?_) | (simp (maxSteps:=2000000) only [↓RG,RP,RB,BEq.rfl,Int.reduceEq,Int.reduceLT,Int.reduceLE,Nat.reduceEqDiff,c2]))
    refine de (vm:=vm) b vp op (xx x (m8 i.a) (wU (eF s (gi (x.r.get (m8 i.b)))).2.1)) h ?_
    exact hK.sub
   ·rw [if_neg c2] at hK
    refine gf c2 ?_
    refine de (vm:=vm) b vp op x h ?_
    exact hK.sub
 ·have h8:¬i.op=8:=by omega
  have h9:¬i.op=9:=by omega
  have h10:¬i.op=10:=by omega
  rw [if_neg h8,if_neg h9,if_neg h10] at hK
  refine G.take1 g9 (b,vp) ?_
  rw [fO]
  intro vl vm op h
  have nt:=wg (x:=x) (vl:=vl) (vm:=vm) (vp:=vp) (op:=op) (k:=m8 i.a) la
  by_cases c:2147483648≤x.r.get (m8 i.a)
  ·rw [if_pos c] at hK
   refine gf (an h8 (an h9 (an h10 c))) ?_
   refine de (vm:=vm) b vp op x h ?_
   exact hK.sub
  ·rw [if_neg c] at hK
   have hf:=hrf
   repeat' (first | (with_reducible refine G.joini0 ?_) | (with_reducible refine G.joini1 ?_) | (with_reducible refine G.drew ?_) | (simp (maxSteps:=2000000) only [↓RG,RP,RB,BEq.rfl,Int.reduceEq,Int.reduceLT,Int.reduceLE,Nat.reduceEqDiff,h8,h9,h10,c]))
   refine Hc (s:=s) hf (fun l=>by rw [Qo,Q2];omega) ?_
   refine gg ?_
   refine de (vm:=vm) b vp op x h ?_
   exact hK.sub
theorem KJ (hi:Gn i)(hf:x.items.length≤16)(hr:s.l.frees.length≤1000)(hK:G w0 (ob g9 (b,vp) (qM x s i).1::ob cY vp (qM x s i).2.1::M) (K (i64 (qM x s i).2.2))) :
  G w0 (ob g9 (b,vp) x::ob cY vp s::M) (CP Tryz.prog YQ [ptr b 0,.agg #[i64 i.op,i64 i.a,i64 i.b,i64 i.c,u64 i.n]] K):=by
 have hs:s.l.r.f.length≤1000:=by rw [vd] at hr;omega
 refine yT ?_
 unfold pV
 obtain⟨pa,pb,pc⟩:=Ei hi
 obtain⟨la,ea⟩:=Mi pa
 obtain⟨lb,eb⟩:=Mi pb
 obtain⟨lc,ec⟩:=Mi pc
 have ixa:iQ (i.a.tmod 8) (m8 i.a):=⟨ea⟩
 have ixb:iQ (i.b.tmod 8) (m8 i.b):=⟨eb⟩
 have ixc:iQ (i.c.tmod 8) (m8 i.c):=⟨ec⟩
 have ka:UW (m8 i.a) 8:=⟨la⟩
 have kb:UW (m8 i.b) 8:=⟨lb⟩
 have kc:UW (m8 i.c) 8:=⟨lc⟩
 have o1:=hi.op
 unfold zb at o1
 have c2:¬i.op=2:=by omega
 have c4:¬i.op=4:=by omega
 have c5:¬i.op=5:=by omega
 have c6:¬i.op=6:=by omega
 have c7:¬i.op=7:=by omega
 have c22:¬i.op=22:=by omega
 have c23:¬i.op=23:=by omega
 refine G.box fun q=>?_
 refine G.take1 g9 (b,vp) ?_
 rw [fO]
 intro vl vm op h
 have na:=wg (x:=x) (vl:=vl) (vm:=vm) (vp:=vp) (op:=op) la
 have nb:=wg (x:=x) (vl:=vl) (vm:=vm) (vp:=vp) (op:=op) lb
 have nc:=wg (x:=x) (vl:=vl) (vm:=vm) (vp:=vp) (op:=op) lc
 have sg:=fun y=>Er (x:=x) (vl:=vl) (vm:=vm) (vp:=vp) (op:=op) (y:=y) la
 unfold qM at hK
 by_cases c1:i.op=1
 ·rw [if_pos c1] at hK
  repeat' (first | (with_reducible refine G.joini0 ?_) | (with_reducible refine G.joini1 ?_) | (with_reducible refine G.drew ?_) | (simp (maxSteps:=2000000) only [↓RG,RP,RB,BEq.rfl,Int.reduceEq,Int.reduceLT,Int.reduceLE,Nat.reduceEqDiff,rD,eq_true c1]))
  refine de (vm:=vm) b vp op (xx x (m8 i.a) (i.n)) h ?_
  exact hK.sub
 rw [if_neg c1] at hK
 by_cases c3:i.op=3
 ·rw [if_pos c3] at hK
  repeat' (first | (with_reducible refine G.joini0 ?_) | (with_reducible refine G.joini1 ?_) | (with_reducible refine G.drew ?_) | (simp (maxSteps:=2000000) only [↓RG,RP,RB,BEq.rfl,Int.reduceEq,Int.reduceLT,Int.reduceLE,Nat.reduceEqDiff,rD,c1,c2,eq_true c3]))
  refine de (vm:=vm) b vp op (xx x (m8 i.a) (IntKind.wrap .u64 (x.r.get (m8 i.b)+x.r.get (m8 i.c)))) h ?_
  exact hK.sub
 rw [if_neg c3] at hK
 by_cases c12:i.op=12
 ·rw [if_pos c12] at hK
  repeat' (first | (with_reducible refine G.joini0 ?_) | (with_reducible refine G.joini1 ?_) | (with_reducible refine G.drew ?_) | (simp (maxSteps:=2000000) only [↓RG,RP,RB,BEq.rfl,Int.reduceEq,Int.reduceLT,Int.reduceLE,Nat.reduceEqDiff,rD,c1,c2,c3,c4,c5,c6,c7,eq_true c12]))
  refine de (vm:=vm) b vp op { x with next:=i.c } h ?_
  exact hK.sub
 rw [if_neg c12] at hK
 by_cases c13:i.op=13
 ·rw [if_pos c13] at hK
  by_cases z:x.r.get (m8 i.a)=0
  ·rw [if_pos z] at hK
   repeat' (first | (with_reducible refine G.joini0 ?_) | (with_reducible refine G.joini1 ?_) | (with_reducible refine G.drew ?_) | (simp (maxSteps:=2000000) only [↓RG,RP,RB,BEq.rfl,Int.reduceEq,Int.reduceLT,Int.reduceLE,Nat.reduceEqDiff,rD,c1,c2,c3,c4,c5,c6,c7,c12,eq_true c13,eq_true z]))
   refine de (vm:=vm) b vp op { x with next:=i.c } h ?_
   exact hK.sub
  ·rw [if_neg z] at hK
   repeat' (first | (with_reducible refine G.joini0 ?_) | (with_reducible refine G.joini1 ?_) | (with_reducible refine G.drew ?_) | (simp (maxSteps:=2000000) only [↓RG,RP,RB,BEq.rfl,Int.reduceEq,Int.reduceLT,Int.reduceLE,Nat.reduceEqDiff,rD,c1,c2,c3,c4,c5,c6,c7,c12,eq_true c13,z]))
   refine de (vm:=vm) b vp op x h ?_
   exact hK.sub
 rw [if_neg c13] at hK
 by_cases c21:i.op=21
 ·rw [if_pos c21] at hK
  repeat' (first | (with_reducible refine G.joini0 ?_) | (with_reducible refine G.joini1 ?_) | (with_reducible refine G.drew ?_) | (simp (maxSteps:=2000000) only [↓RG,RP,RB,BEq.rfl,Int.reduceEq,Int.reduceLT,Int.reduceLE,Nat.reduceEqDiff,rD,c1,c2,c3,c4,c5,c6,c7,c12,c13,eq_true c21]))
  refine DR (xs:=x.items) hf ?_
  by_cases z:x.items.length<16
  ·rw [if_pos z] at hK
   rw [NP,if_pos z,decide_eq_true z]
   repeat' (first | (with_reducible refine G.joini0 ?_) | (with_reducible refine G.joini1 ?_) | (with_reducible refine G.drew ?_) | (simp (maxSteps:=2000000) only [↓RG,RP,RB,BEq.rfl,Int.reduceEq,Int.reduceLT,Int.reduceLE,Nat.reduceEqDiff]))
   refine de (vm:=vm) b vp op { x with items:=x.items++[.num (x.r.get (m8 i.a))] } h ?_
   exact hK.sub
  ·rw [if_neg z] at hK
   rw [NP,if_neg z,decide_eq_false z]
   repeat' (first | (with_reducible refine G.joini0 ?_) | (with_reducible refine G.joini1 ?_) | (with_reducible refine G.drew ?_) | (simp (maxSteps:=2000000) only [↓RG,RP,RB,BEq.rfl,Int.reduceEq,Int.reduceLT,Int.reduceLE,Nat.reduceEqDiff]))
   refine de (vm:=vm) b vp op x h ?_
   exact hK.sub
 rw [if_neg c21] at hK
 have c89:i.op=8∨i.op=9∨i.op=10∨i.op=11:=by omega
 have hfin:G w0 (own b (x.cells vl vm vp op)::sl gD vl x.prog::ob jp op x.items::own q [i64 i.op,i64 i.a,i64 i.b,i64 i.c,u64 i.n]::ob cY vp s::M) (CP Tryz.prog WY [ptr b 0,.agg #[i64 i.op,i64 i.a,i64 i.b,i64 i.c,u64 i.n],ptr b (6+m8 i.a),u64 (x.r.get (m8 i.b))] (fun x84=>K x84)):=by
  refine de (vm:=vm) b vp op x h ?_
  refine G.pickAll (As:=[ob g9 (b,vp) x,ob cY vp s]) ?_
  simp only [List.cons_append,List.nil_append]
  refine ED (x:=x) (s:=s) hi hs c89 ?_
  exact hK.sub
 rcases c89 with c8 | c9 | c10 | c11
 ·repeat' (first | (with_reducible refine G.joini0 ?_) | (with_reducible refine G.joini1 ?_) | (with_reducible refine G.drew ?_) | (simp (maxSteps:=2000000) only [↓RG,RP,RB,BEq.rfl,Int.reduceEq,Int.reduceLT,Int.reduceLE,Nat.reduceEqDiff,rD,c1,c2,c3,c4,c5,c6,c7,c12,c13,c21,c22,c23,eq_true c8]))
  exact hfin
 ·have c8:¬i.op=8:=by omega
  repeat' (first | (with_reducible refine G.joini0 ?_) | (with_reducible refine G.joini1 ?_) | (with_reducible refine G.drew ?_) | (simp (maxSteps:=2000000) only [↓RG,RP,RB,BEq.rfl,Int.reduceEq,Int.reduceLT,Int.reduceLE,Nat.reduceEqDiff,rD,c1,c2,c3,c4,c5,c6,c7,c12,c13,c21,c22,c23,c8,eq_true c9]))
  exact hfin
 ·have c8:¬i.op=8:=by omega
  have c9:¬i.op=9:=by omega
  repeat' (first | (with_reducible refine G.joini0 ?_) | (with_reducible refine G.joini1 ?_) | (with_reducible refine G.drew ?_) | (simp (maxSteps:=2000000) only [↓RG,RP,RB,BEq.rfl,Int.reduceEq,Int.reduceLT,Int.reduceLE,Nat.reduceEqDiff,rD,c1,c2,c3,c4,c5,c6,c7,c12,c13,c21,c22,c23,c8,c9,eq_true c10]))
  exact hfin
 ·have c8:¬i.op=8:=by omega
  have c9:¬i.op=9:=by omega
  have c10:¬i.op=10:=by omega
  repeat' (first | (with_reducible refine G.joini0 ?_) | (with_reducible refine G.joini1 ?_) | (with_reducible refine G.drew ?_) | (simp (maxSteps:=2000000) only [↓RG,RP,RB,BEq.rfl,Int.reduceEq,Int.reduceLT,Int.reduceLE,Nat.reduceEqDiff,rD,c1,c2,c3,c4,c5,c6,c7,c12,c13,c21,c22,c23,c8,c9,c10,eq_true c11]))
  exact hfin
end
end Go.Proofs.YtoealglbimbbmaaGreatDoor.S
namespace Go.Proofs.YtoealglbimbbmaaGreatDoor.S
open Go Go.Proofs
set_option linter.unusedVariables false
set_option linter.unusedSimpArgs false
abbrev dw.ins (x:dw):dv:=x.prog.getD x.pos.toNat ⟨0,0,0,0,0⟩
abbrev dw.on (x:dw):dw:={ x with pos:=x.next,left:=x.left-1 }
abbrev dw.failed (x:dw)(e:Int):dw:={ x with fin:=4,err:=e }
def dZ (x:dw)(s:fa):dw×fa×Int:=qM { x with next:=x.pos+1 } s x.ins
def fz:Nat→dw→fa→dw×fa×Int
 | 0,x,s=>(x,s,x.fin)
 | n+1,x,s =>
  if x.fin≠0 then (x,s,x.fin)
  else if x.pos=x.prog.length then ({ x with fin:=2 },s,2)
  else if x.left=0 then (x.failed 6,s,4)
  else if (dZ x s).2.2=0 then fz n (dZ x s).1.on (dZ x s).2.1
  else if (dZ x s).2.2=11 then ((dZ x s).1,(dZ x s).2.1,1)
  else ((dZ x s).1.failed (dZ x s).2.2,(dZ x s).2.1,4)
structure m7 (x:dw)(s:fa):Prop where
 fin:x.fin=0
 bad:x.bad=0
 ok:jb x.prog
 pos:0≤x.pos∧x.pos≤x.prog.length
 left:0≤x.left∧x.left≤400
 few:x.items.length≤16
 fr:(s.l.frees.length:Int)+x.left≤500
structure Fa (x:dw)(s:fa)(R:dw×fa×Int):Prop where
 det:(∀i∈x.prog,i.op≠23)→R=fz 401 x s
 k:R.2.1.k=s.k
 size:R.2.1.size=s.size
 ok:Ji s→Ji R.2.1
 fin:R.2.2=1∨R.2.2=2∨R.2.2=3∨R.2.2=4
 need:R.2.2=1→Nd R.2.1∧m7 R.1 R.2.1
 frees:R.2.1.l.frees.length≤1000
 few:R.1.items.length≤16
 rg:Rg x→Vg s→Rg R.1∧Vg R.2.1
abbrev z6:=dw→fa→dw×fa×Int
structure cx (ρ:z6):Prop where
 q:∀r s,m7 r s→Fa r s (ρ r s)
 u:∀r s,Rg r→Vg s→Rg (ρ r s).1∧Vg (ρ r s).2.1
structure Sd (x0:dw)(s0:fa)(n:Nat)(x:dw)(s:fa):Prop where
 det:(∀i∈x0.prog,i.op≠23)→fz n x s=fz 401 x0 s0
 prog:x.prog=x0.prog
 k:s.k=s0.k
 size:s.size=s0.size
 ok:Ji s0→Ji s
 frees:s.l.frees.length≤1000
 few:x.items.length≤16
 rg:Rg x0→Vg s0→Rg x∧Vg s
section
variable {x x0:dw}{s s0:fa}{n:Nat}
theorem m7.lv {t:fa}(h:m7 x s)(e:t.l=s.l):m7 x t:=⟨h.fin,h.bad,h.ok,h.pos,h.left,h.few,by rw [e];exact h.fr⟩
theorem Sd.start (h:m7 x s):Sd x s 401 x s:=⟨fun _=>rfl,rfl,rfl,rfl,id,by have:=h.fr;have:=h.left;omega,h.few,fun a b=>⟨a,b⟩⟩
theorem Sd.ends (h:Sd x0 s0 n x s){z:dw}{e:Int}(he:e=2∨e=3∨e=4)(hd:(∀i∈x.prog,i.op≠23)→fz n x s=(z,s,e))(hi:z.items=x.items∧z.r=x.r∧z.prog=x.prog):Fa x0 s0 (z,s,e):=by
 obtain⟨i1,i2,i3⟩:=hi
 refine⟨fun g=>?_,h.k,h.size,h.ok,.inr he,fun g=>(by have g:e=1:=g;omega),h.frees,by rw [i1];exact h.few,fun a b=>⟨⟨?_,?_,?_⟩,(h.rg a b).2⟩⟩
 ·rw [←h.det g,hd (by rw [h.prog];exact g)]
 ·rw [i2];exact(h.rg a b).1.regs
 ·rw [i1];exact(h.rg a b).1.items
 ·rw [i3];exact(h.rg a b).1.prog
theorem LZ (h:m7 x s)(hp:x.pos≠x.prog.length):x.prog[x.pos.toNat]? = some x.ins:=by
 have:=h.pos
 have h2:x.pos.toNat<x.prog.length:=by omega
 show _=some (x.prog.getD x.pos.toNat ⟨0,0,0,0,0⟩)
 rw [List.getD_eq_getElem?_getD,List.getElem?_eq_getElem h2];rfl
theorem Sd.step (hA:m7 x s)(h:Sd x0 s0 (n+1) x s)(hp:x.pos≠x.prog.length)(hl:x.left≠0){R:dw×fa×Int}(q:Vx { x with next:=x.pos+1 } s x.ins R) :
  (R.2.2=0→R.1.fin=0→m7 R.1.on R.2.1∧Sd x0 s0 n R.1.on R.2.1)∧(R.2.2=0→R.1.fin≠0→Fa x0 s0 (R.1.on,R.2.1,R.1.fin))∧(R.2.2=11→Fa x0 s0 (R.1,R.2.1,1))∧(R.2.2≠0→R.2.2≠11→Fa x0 s0 (R.1.failed R.2.2,R.2.1,4)):=by
 have hin:=List.mem_of_getElem? (LZ hA hp)
 have hl2:=hA.left
 have hpo:=hA.pos
 obtain⟨e1,e2,e3,e4⟩:=q.same
 simp only at e1 e2 e3 e4
 have hfr:=hA.fr
 have hv:=q.vr.1.fr
 have hrg:Rg x0→Vg s0→Rg R.1∧Vg R.2.1:=fun a b=>by
  obtain⟨g1,g2⟩:=h.rg a b
  exact q.rg ⟨g1.regs,g1.items,g1.prog⟩ g2 (g1.prog _ hin)
 have hdet:(∀i∈x0.prog,i.op≠23)→R=dZ x s∧fz (n+1) x s=if R.2.2=0 then fz n R.1.on R.2.1 else if R.2.2=11 then (R.1,R.2.1,1) else (R.1.failed R.2.2,R.2.1,4):=fun g=>by
  have hR:R=dZ x s:=q.det (g _ (by rw [←h.prog];exact hin))
  refine⟨hR,?_⟩
  rw [fz,if_neg (fun g=>g hA.fin),if_neg hp,if_neg hl,hR]
 have hk:R.2.1.k=s0.k:=q.vr.1.k.trans h.k
 have hz:R.2.1.size=s0.size:=q.vr.1.size.trans h.size
 have ho:Ji s0→Ji R.2.1:=fun o=>q.vr.1.ok (h.ok o)
 have hf:=q.fin
 simp only at hf
 have hf0:=hA.fin
 obtain⟨oi,oj⟩:=hA.ok.2.2 _ hin
 have hn:0≤R.1.next∧R.1.next≤x.prog.length:=by
  rcases hf.2 with g | ⟨g,e⟩
  ·omega
  ·have:=oj g
   have:0≤x.ins.c:=by unfold Gn at oi;omega
   omega
 have hnd:=q.vr.2
 refine⟨fun c0 cf=>?_,fun c0 cf=>?_,fun c11=>?_,fun c0 c11=>?_⟩
 ·refine⟨⟨cf,e2.trans hA.bad,?_,?_,?_,q.few,?_⟩,⟨fun g=>?_,e1.trans h.prog,hk,hz,ho,?_,q.few,fun a b=>?_⟩⟩
  ·show jb R.1.prog;rw [e1];exact hA.ok
  ·show 0≤R.1.next∧R.1.next≤R.1.prog.length;rw [e1];exact hn
  ·show 0≤R.1.left-1∧R.1.left-1≤400;omega
  ·show (R.2.1.l.frees.length:Int)+(R.1.left-1)≤500;omega
  ·have:=(hdet g).2
   rw [if_pos c0] at this
   rw [←this,h.det g]
  ·show R.2.1.l.frees.length≤1000;omega
  ·obtain⟨g1,g2⟩:=hrg a b
   exact⟨⟨g1.regs,g1.items,g1.prog⟩,g2⟩
 ·exact absurd (hf.1.trans hf0) cf
 ·refine⟨fun g=>?_,hk,hz,ho,.inl rfl,fun _=>⟨(hnd c11).1,?_⟩,?_,q.few,hrg⟩
  ·have:=(hdet g).2
   rw [if_neg (by omega),if_pos c11] at this
   rw [←h.det g,this]
  ·have hfin:R.1.fin=0:=hf.1.trans hf0
   have h11:=(hnd c11).2
   refine⟨hfin,e2.trans hA.bad,?_,?_,?_,q.few,?_⟩
   ·show jb R.1.prog;rw [e1];exact hA.ok
   ·show 0≤R.1.pos∧R.1.pos≤R.1.prog.length;rw [e1,e4];omega
   ·show 0≤R.1.left∧R.1.left≤400;omega
   ·show (R.2.1.l.frees.length:Int)+R.1.left≤500;omega
  ·have h11:=(hnd c11).2
   show R.2.1.l.frees.length≤1000;omega
 ·refine⟨fun g=>?_,hk,hz,ho,by simp,fun g=>(by cases g),?_,q.few,fun a b=>?_⟩
  ·have:=(hdet g).2
   rw [if_neg c0,if_neg c11] at this
   rw [←h.det g,this]
  ·show R.2.1.l.frees.length≤1000;omega
  ·obtain⟨g1,g2⟩:=hrg a b
   exact⟨⟨g1.regs,g1.items,g1.prog⟩,g2⟩
section
open Classical
theorem Hg (h:m7 x s):∃R,Fa x s R:=by
 have key:∀{x0:dw} {s0:fa} {n:Nat} {x:dw} {s:fa},m7 x s→Sd x0 s0 n x s→x.left<n→∃R,Fa x0 s0 R:=fun {x0 s0 n}=>by
  induction n with
  | zero=>intro x s hA _ hl;have:=hA.left;omega
  | succ n ih =>
   intro x s hA hM hl
   by_cases c1:x.pos=x.prog.length
   ·exact⟨_,hM.ends (z:={ x with fin:=2 }) (.inl rfl) (fun _=>by rw [fz,if_neg (fun g=>g hA.fin),if_pos c1]) ⟨rfl,rfl,rfl⟩⟩
   by_cases c2:x.left=0
   ·exact⟨_,hM.ends (z:=x.failed 6) (.inr (.inr rfl)) (fun _=>by rw [fz,if_neg (fun g=>g hA.fin),if_neg c1,if_pos c2]) ⟨rfl,rfl,rfl⟩⟩
   have hin:=List.mem_of_getElem? (LZ hA c1)
   have hq:=SD (x:={ x with next:=x.pos+1 }) (s:=s) (hA.ok.2.2 _ hin).1 hA.few
   obtain⟨s1,s2,s3,s4⟩:=hM.step hA c1 c2 hq
   have hll:=hq.same.2.2.1
   simp only at hll
   clear hq
   generalize qM { x with next:=x.pos+1 } s x.ins=R at s1 s2 s3 s4 hll
   by_cases d0:R.2.2=0
   ·by_cases d1:R.1.fin=0
    ·obtain⟨a,b⟩:=s1 d0 d1
     exact ih a b (by show R.1.left-1<_;omega)
    ·exact⟨_,s2 d0 d1⟩
   ·by_cases d1:R.2.2=11
    ·exact⟨_,s3 d1⟩
    ·exact⟨_,s4 d0 d1⟩
 exact key (n:=401) h (.start h) (by have:=h.left;omega)
noncomputable def Lu (r:dw)(s:fa):dw×fa×Int:=if h:m7 r s then (Hg h).choose else (r,s,4)
theorem rt:∃ρ,cx ρ:=⟨Lu,fun r s h=>by unfold Lu;rw [dif_pos h];exact(Hg h).choose_spec,fun r s a b=>by
 unfold Lu
 split
 ·rename_i h;exact(Hg h).choose_spec.rg a b
 ·exact⟨a,b⟩⟩
theorem S7 {R:dw×fa×Int}(h:m7 x s)(hR:Fa x s R):∃ρ,cx ρ∧ρ x s=R:=by
 obtain⟨ρ,hρ⟩:=rt
 refine⟨fun r t=>if r=x∧t=s then R else ρ r t,⟨fun r t hr=>?_,fun r t a b=>?_⟩,if_pos ⟨rfl,rfl⟩⟩
 ·split
  ·rename_i g;rw [g.1,g.2];exact hR
  ·exact hρ.q r t hr
 ·split
  ·rename_i g;obtain⟨rfl,rfl⟩:=g;exact hR.rg a b
  ·exact hρ.u r t a b
end
end
section
variable {w0:bo}{L M:List bd}{K:KV}{b vp:Nat}{x:dw}{s:fa}
theorem Iz (hA:m7 x s)(hK:∀R,Fa x s R→G w0 (ob g9 (b,vp) R.1::ob cY vp R.2.1::M) (K (i64 R.2.2))) :
  G w0 (ob g9 (b,vp) x::ob cY vp s::M) (CP Tryz.prog YC [ptr b 0] K):=by
 refine xj ?_
 unfold oY
 refine G.loop0 (σ:=Nat×dw×fa) (fun z=>ob g9 (b,vp) z.2.1::ob cY vp z.2.2::M) (fun z=>(m7 z.2.1 z.2.2∧Sd x s z.1 z.2.1 z.2.2∧z.2.1.left<z.1)∨(z.2.1.fin≠0∧Fa x s (z.2.1,z.2.2,z.2.1.fin))) (fun z=>z.1) (401,x,s) rfl (.inl ⟨hA,.start hA,by have:=hA.left;show x.left<401;omega⟩) ?_
 rintro⟨k,y,t⟩ hz J hJ
 simp only at hz hJ ⊢
 rcases hz with ⟨hA,hM,hl⟩ | ⟨f,hq⟩
 ·obtain⟨k,rfl⟩:∃j,k=j+1:=⟨k-1,by have:=hA.left;omega⟩
  have hend:∀(z:dw) (t':fa),z.fin≠0→Fa x s (z,t',z.fin)→G w0 (ob g9 (b,vp) z::ob cY vp t'::M) J:=fun z t' hz e=>hJ (k,z,t') (.inr ⟨hz,e⟩) (by simp)
  have hf:=hA.fin
  have hb:=hA.bad
  have hpo:=hA.pos
  have hlen:=hA.ok.2.1
  rw [fO]
  intro vl vm op h
  by_cases c2:y.pos=y.prog.length
  ·repeat' (first | (with_reducible refine G.joini0 ?_) | (with_reducible refine G.joini1 ?_) | (with_reducible refine G.drew ?_) | (simp (maxSteps:=2000000) only [↓RG,RP,RB,BEq.rfl,Int.reduceEq,Int.reduceLT,Int.reduceLE,Nat.reduceEqDiff,eq_true hf,eq_true hb,eq_true c2]))
   refine de (vm:=vm) b vp op { y with fin:=2 } h ?_
   exact(hend { y with fin:=2 } t (show (2:Int)≠0 by decide) (hM.ends (.inl rfl) (fun _=>by rw [fz,if_neg (fun g=>g hf),if_pos c2]) ⟨rfl,rfl,rfl⟩)).sub
  by_cases c3:y.left=0
  ·repeat' (first | (with_reducible refine G.joini0 ?_) | (with_reducible refine G.joini1 ?_) | (with_reducible refine G.drew ?_) | (simp (maxSteps:=2000000) only [↓RG,RP,RB,BEq.rfl,Int.reduceEq,Int.reduceLT,Int.reduceLE,Nat.reduceEqDiff,eq_true hf,eq_true hb,c2,eq_true c3]))
   refine de (vm:=vm) b vp op y h ?_
   refine yk (vp:=vp) (x:=y) ?_
   repeat' (first | (with_reducible refine G.joini0 ?_) | (with_reducible refine G.joini1 ?_) | (with_reducible refine G.drew ?_) | (simp (maxSteps:=2000000) only [↓RG,RP,RB,BEq.rfl,Int.reduceEq,Int.reduceLT,Int.reduceLE,Nat.reduceEqDiff]))
   exact(hend (y.failed 6) t (show (4:Int)≠0 by decide) (hM.ends (.inr (.inr rfl)) (fun _=>by rw [fz,if_neg (fun g=>g hf),if_neg c2,if_pos c3]) ⟨rfl,rfl,rfl⟩)).sub
  have hin:=LZ hA c2
  have e:fe y.prog y.pos.toNat y.ins:=⟨hin⟩
  have ix:iQ y.pos y.pos.toNat:=⟨by omega⟩
  have ew:IntKind.wrap .i64 (y.pos+1)=y.pos+1:=gh (by omega) (by omega)
  repeat' (first | (with_reducible refine G.joini0 ?_) | (with_reducible refine G.joini1 ?_) | (with_reducible refine G.drew ?_) | (simp (maxSteps:=2000000) only [↓RG,RP,RB,BEq.rfl,Int.reduceEq,Int.reduceLT,Int.reduceLE,Nat.reduceEqDiff,eq_true hf,eq_true hb,c2,c3,ew]))
  refine de (vm:=vm) b vp op { y with next:=y.pos+1 } h ?_
  refine G.pickAll (As:=[ob g9 (b,vp) { y with next:=y.pos+1 },ob cY vp t]) ?_
  simp only [List.cons_append,List.nil_append]
  have hrf:=UP (s:=t.l)
  have hfr:=hM.frees
  refine KJ (x:={ y with next:=y.pos+1 }) (s:=t) (i:=y.ins) (hA.ok.2.2 _ (List.mem_of_getElem? hin)).1 hA.few (by omega) ?_
  have hR:=SD (x:={ y with next:=y.pos+1 }) (s:=t) (hA.ok.2.2 _ (List.mem_of_getElem? hin)).1 hA.few
  generalize qM { y with next:=y.pos+1 } t y.ins=R at hR ⊢
  have hll:=hR.same.2.2.1
  simp only at hll
  have hAl:=hA.left
  obtain⟨s1,s2,s3,s4⟩:=hM.step hA c2 c3 hR
  obtain⟨z,t2,q⟩:=R
  simp only at s1 s2 s3 s4 hll ⊢
  by_cases c4:q=0
  ·have el:IntKind.wrap .i64 (z.left-1)=z.left-1:=gh (by omega) (by omega)
   rw [fO]
   intro vl vm op h
   repeat' (first | (with_reducible refine G.joini0 ?_) | (with_reducible refine G.joini1 ?_) | (with_reducible refine G.drew ?_) | (simp (maxSteps:=2000000) only [↓RG,RP,RB,BEq.rfl,Int.reduceEq,Int.reduceLT,Int.reduceLE,Nat.reduceEqDiff,eq_true c4,el]))
   refine de (vm:=vm) b vp op z.on h ?_
   by_cases cf:z.fin=0
   ·obtain⟨a1,a2⟩:=s1 c4 cf
    exact(hJ (k,z.on,t2) (.inl ⟨a1,a2,by show z.left-1<_;omega⟩) (by simp)).sub
   ·exact(hend z.on t2 cf (s2 c4 cf)).sub
  ·by_cases c5:q=11
   ·refine gf (an c4 (eq_true c5)) ?_
    exact(hK _ (s3 c5)).sub
   ·refine gf (an c4 c5) ?_
    refine yk (vp:=vp) (x:=z) ?_
    repeat' (first | (with_reducible refine G.joini0 ?_) | (with_reducible refine G.joini1 ?_) | (with_reducible refine G.drew ?_) | (simp (maxSteps:=2000000) only [↓RG,RP,RB,BEq.rfl,Int.reduceEq,Int.reduceLT,Int.reduceLE,Nat.reduceEqDiff]))
    exact(hend (z.failed q) t2 (show (4:Int)≠0 by decide) (s4 c4 c5)).sub
 ·have hK:=hK _ hq
  rw [fO] at hK ⊢
  intro vl vm op h
  have hK:=hK vl vm op h
  repeat' (first | (with_reducible refine G.joini0 ?_) | (with_reducible refine G.joini1 ?_) | (with_reducible refine G.drew ?_) | (simp (maxSteps:=2000000) only [↓RG,RP,RB,BEq.rfl,Int.reduceEq,Int.reduceLT,Int.reduceLE,Nat.reduceEqDiff,f]))
  exact hK
end
end Go.Proofs.YtoealglbimbbmaaGreatDoor.S
