import Derived.Test.YtoealglbimbbmaaGreatDoorQChk
import Derived.Test.YtoealglbimbbmaaGreatDoorQVg
import Derived.Test.YtoealglbimbbmaaGreatDoorArr
namespace Go.Proofs.YtoealglbimbbmaaGreatDoor.S
open Go Go.Proofs
set_option linter.unusedVariables false
set_option linter.unusedSimpArgs false
structure CR where
 r0:Int
 r1:Int
 r2:Int
 r3:Int
 r4:Int
 r5:Int
 r6:Int
 r7:Int
 deriving DecidableEq
def CR.get (r:CR):Nat→Int
 | 0=>r.r0 | 1=>r.r1 | 2=>r.r2 | 3=>r.r3 | 4=>r.r4 | 5=>r.r5 | 6=>r.r6 | _=>r.r7
def CR.set (r:CR)(k:Nat)(x:Int):CR:=match k with
 | 0=>{ r with r0:=x } | 1=>{ r with r1:=x } | 2=>{ r with r2:=x } | 3=>{ r with r3:=x } | 4=>{ r with r4:=x } | 5=>{ r with r5:=x } | 6=>{ r with r6:=x } | _=>{ r with r7:=x }
structure dw where
 prog:List dv
 bad:Int
 err:Int
 fin:Int
 r:CR
 items:List oT
 pos:Int
 next:Int
 left:Int
abbrev dw.cells (x:dw)(vl vm:Value)(vp op:Nat):List Value:=[vl,ptr vp 0,vm,i64 x.bad,i64 x.err,i64 x.fin,u64 x.r.r0,u64 x.r.r1,u64 x.r.r2,u64 x.r.r3,u64 x.r.r4,u64 x.r.r5,u64 x.r.r6,u64 x.r.r7,ptr op 0,i64 x.pos,i64 x.next,i64 x.left,.slice none 0 0]
def g9 (k:Nat×Nat)(x:dw):bd:=od fun vl=>od fun vm=>od fun op=>bt (gX (bf vl [vl])) (bt (bt (own k.1 (x.cells vl vm k.2 op)) (sl gD vl x.prog)) (ob jp op x.items))
section
variable {w0:bo}{L M:List bd}{K:KV}{F:World→Prop}{C:bd→List bd}{b vp op:Nat}{x:dw}{s:fa}{v vl vm:Value}
theorem fO:G w0 (ob g9 (b,vp) x::M) F=∀vl vm op,bf vl [vl]→G w0 (own b (x.cells vl vm vp op)::sl gD vl x.prog::ob jp op x.items::M) F:=by
 rw [em,g9]
 simp only [qm,ez,fI]
theorem de {vl vm:Value}(b vp op:Nat)(x:dw) [dM [own b (x.cells vl vm vp op),sl gD vl x.prog,ob jp op x.items] L M](h:bf vl [vl])(H:G w0 (ob g9 (b,vp) x::M) F):G w0 L F :=
 G.pickAll (As:=[own b (x.cells vl vm vp op),sl gD vl x.prog,ob jp op x.items]) (by rw [fO] at H;exact H vl vm op h)
abbrev zJ (p:List dv)(fuel:Int):dw:=⟨p,0,0,0,⟨0,0,0,0,0,0,0,0⟩,[],0,0,held fuel 0 400⟩
theorem IC {p:List dv}{fuel:Int}[r:Rd w0 L v gD 5 p](hv:bf v [v])(h:jb p)(hK:∀b,G w0 (ob g9 (b,vp) (zJ p fuel)::L) (K (ptr b 0))):G w0 L (CP Tryz.prog Xq [.agg #[v],ptr vp 0,i64 fuel] K):=by
 refine Hn ?_
 unfold zE
 have hh:=h
 obtain⟨h1,h2,h3⟩:=h
 refine G.box fun q=>?_
 refine gr ?_
 refine G.nilsl gD ?_
 refine G.append (E:=gD) (xs:=[]) (ys:=p) (by simp;omega) (by simp [maxLen];omega) fun u hu=>?_
 simp only [List.nil_append]
 refine gr ?_
 refine Ci hu hh ?_
 repeat' (first | (with_reducible refine G.joini0 ?_) | (with_reducible refine G.joini1 ?_) | (with_reducible refine G.drew ?_) | (simp (maxSteps:=2000000) only [↓RG,RP,RB,BEq.rfl,Int.reduceEq,Int.reduceLT,Int.reduceLE,Nat.reduceEqDiff]))
 refine Gb hu hh fun u2 hu2=>?_
 refine gg ?_
 refine JI fun op=>?_
 refine gg ?_
 refine G.box fun b=>?_
 have e:(if (if (400:Int)<fuel then 400 else fuel) > 0 then if (400:Int)<fuel then 400 else fuel else 0)=held fuel 0 400:=by unfold held;split <;> split <;> split <;> (try split) <;> omega
 refine eC e ?_
 refine de (vl:=u) (vm:=u2) b vp op (zJ p fuel) hu ?_
 exact(hK b).sub
theorem Iw [i:au L g9 (b,vp) x C](hK:G w0 L (K (i64 x.err))):G w0 L (CP Tryz.prog Xr [ptr b 0] K):=by
 refine i.ro (fun M hK=>?_) hK
 refine xD ?_
 unfold oW
 rw [fO] at *
 intro vl vm op h
 have hK:=hK vl vm op h
 refine gr ?_
 exact hK
theorem Ez (hl:x.items.length≤1000000)[i:au L g9 (b,vp) x C](hK:∀c,G w0 (ob jp c x.items::L) (K (ptr c 0))):G w0 L (CP Tryz.prog Xs [ptr b 0] K):=by
 refine i.roN (P:=fun _=>True) (N:=fun c=>ob jp c x.items) (F':=fun c=>K (ptr c 0)) (fun M hK=>?_) (fun c _=>hK c)
 refine uq ?_
 unfold my
 rw [fO]
 intro vl vm op h
 refine gr ?_
 refine zk (xs:=x.items) hl fun c=>?_
 refine de (vm:=vm) b vp op x h ?_
 exact(hK c trivial).sub
theorem yk {e:Int}[i:au L g9 (b,vp) x C](hK:G w0 (C (ob g9 (b,vp) { x with fin:=4,err:=e })) (K (.tuple #[]))):G w0 L (CP Tryz.prog V1 [ptr b 0,i64 e] K):=by
 refine i.use (fun M hK=>?_) hK
 refine uK ?_
 unfold oA
 rw [fO] at *
 intro vl vm op h
 have hK:=hK vl vm op h
 refine gr ?_
 exact hK
abbrev m8 (n:Int):Nat:=(n.tmod 8).toNat
theorem Mi {n:Int}(h:0≤n):m8 n<8∧n.tmod 8=(m8 n:Int):=by
 have h1:=Int.tmod_nonneg 8 h
 have h2:=Int.tmod_lt_of_pos n (show (0:Int)<8 by decide)
 unfold m8
 omega
theorem wg {k:Nat}(hk:k<8):IY (x.cells vl vm vp op) (6+k) (u64 (x.r.get k)):=by
 match k,hk with
 | 0,_=>exact⟨rfl⟩
 | 1,_=>exact⟨rfl⟩
 | 2,_=>exact⟨rfl⟩
 | 3,_=>exact⟨rfl⟩
 | 4,_=>exact⟨rfl⟩
 | 5,_=>exact⟨rfl⟩
 | 6,_=>exact⟨rfl⟩
 | 7,_=>exact⟨rfl⟩
abbrev xx (x:dw)(k:Nat)(y:Int):dw:={ x with r:=x.r.set k y }
theorem Er {k:Nat}{y:Int}(hk:k<8):rl (x.cells vl vm vp op) (6+k) [u64 y] ((xx x k y).cells vl vm vp op):=by
 match k,hk with
 | 0,_=>exact⟨rfl,by simp⟩
 | 1,_=>exact⟨rfl,by simp⟩
 | 2,_=>exact⟨rfl,by simp⟩
 | 3,_=>exact⟨rfl,by simp⟩
 | 4,_=>exact⟨rfl,by simp⟩
 | 5,_=>exact⟨rfl,by simp⟩
 | 6,_=>exact⟨rfl,by simp⟩
 | 7,_=>exact⟨rfl,by simp⟩
class UW (k n:Nat):Prop where
 lt:k<n
theorem rD {o n k m:Nat}{kd:IntKind}{i:Int}[hi:iQ i k][ha:ye o k m][hk:UW k n]:G w0 L (nr n 1 (ptr b o) (.int kd i) K)=G w0 L (K (ptr b m)):=yY fun w H=>by
 have h1:=hi.eq
 have h2:=ha.eq
 have h:=hk.lt
 subst h1 h2
 simp [nr,h]
abbrev Mr (base off:Int):Int:=gi (gi base+off)
def dA (base off:Int):Int×Int:=if 2147483648≤base∨2147483648≤Mr base off∨Mr base off<6 then (0,2) else (Mr base off,0)
theorem vx {base off:Int}(hK:G w0 L (K (.tuple #[i64 (dA base off).1,i64 (dA base off).2]))):G w0 L (CP Tryz.prog Wp [u64 base,i64 off] K):=by
 refine EH ?_
 unfold vg
 unfold dA at hK
 refine gu ?_
 by_cases c1:2147483648≤base
 ·rw [if_pos (.inl c1)] at hK
  refine eC c1 ?_
  exact hK
 ·by_cases c2:2147483648≤IntKind.wrap .i64 (IntKind.wrap .i64 base+off)
  ·rw [if_pos (.inr (.inl c2))] at hK
   refine eC (an c1 c2) ?_
   exact hK
  ·by_cases c3:IntKind.wrap .i64 (IntKind.wrap .i64 base+off)<6
   ·rw [if_pos (.inr (.inr c3))] at hK
    refine eC (an c1 (an c2 c3)) ?_
    exact hK
   ·rw [if_neg (by rintro(g | g | g) <;> contradiction)] at hK
    refine eC (an c1 (an c2 c3)) ?_
    exact hK
theorem DJ {a c:Int}:(dA a c).2=0∨(dA a c).2=2:=by unfold dA;split <;> simp
def gV (x:dw)(s:fa)(i:dv):dw×fa×Int :=
 if i.op=8 then (if (dA (x.r.get (m8 i.b)) i.c).2≠0 then (x,s,2)
  else if (cr s (dA (x.r.get (m8 i.b)) i.c).1).2.2=0 then (xx x (m8 i.a) (cr s (dA (x.r.get (m8 i.b)) i.c).1).2.1,(cr s (dA (x.r.get (m8 i.b)) i.c).1).1,0)
  else (x,(cr s (dA (x.r.get (m8 i.b)) i.c).1).1,(cr s (dA (x.r.get (m8 i.b)) i.c).1).2.2))
 else if i.op=9 then (if (dA (x.r.get (m8 i.a)) i.c).2≠0 then (x,s,2) else (x,(j4 s (dA (x.r.get (m8 i.a)) i.c).1 (x.r.get (m8 i.b))).1,(j4 s (dA (x.r.get (m8 i.a)) i.c).1 (x.r.get (m8 i.b))).2))
 else if i.op=10 then (if 2147483648≤x.r.get (m8 i.b) then (x,s,3)
  else if (eF s (gi (x.r.get (m8 i.b)))).2.2=0 then (xx x (m8 i.a) (wU (eF s (gi (x.r.get (m8 i.b)))).2.1),(eF s (gi (x.r.get (m8 i.b)))).1,0)
  else (x,(eF s (gi (x.r.get (m8 i.b)))).1,(eF s (gi (x.r.get (m8 i.b)))).2.2))
 else (if 2147483648≤x.r.get (m8 i.a) then (x,s,2) else (x,(ig s (gi (x.r.get (m8 i.a)))).1,(ig s (gi (x.r.get (m8 i.a)))).2))
def qM (x:dw)(s:fa)(i:dv):dw×fa×Int :=
 if i.op=1 then (xx x (m8 i.a) i.n,s,0)
 else if i.op=3 then (xx x (m8 i.a) (IntKind.wrap .u64 (x.r.get (m8 i.b)+x.r.get (m8 i.c))),s,0)
 else if i.op=12 then ({ x with next:=i.c },s,0)
 else if i.op=13 then (if x.r.get (m8 i.a)=0 then { x with next:=i.c } else x,s,0)
 else if i.op=21 then (if x.items.length<16 then ({ x with items:=x.items++[.num (x.r.get (m8 i.a))] },s,0) else (x,s,5))
 else gV x s i
def xZ:oT→Prop
 | .num n=>mf n
 | _=>True
def Ru (r:CR):Prop:=∀k,mf (r.get k)
structure Rg (x:dw):Prop where
 regs:Ru x.r
 items:∀a∈x.items,xZ a
 prog:∀i∈x.prog,mf i.n
theorem Ru.set {r:CR}{k:Nat}{y:Int}(h:Ru r)(hy:mf y):Ru (r.set k y):=fun j=>by
 have h0:=h 0;have h1:=h 1;have h2:=h 2;have h3:=h 3;have h4:=h 4;have h5:=h 5;have h6:=h 6;have h7:=h 7
 unfold CR.set
 split <;> (unfold CR.get;split <;> first | exact hy | assumption)
structure Vx (x:dw)(s:fa)(i:dv)(R:dw×fa×Int):Prop where
 det:i.op≠23→R=qM x s i
 vr:Vr s R.2.1 R.2.2 1
 same:R.1.prog=x.prog∧R.1.bad=x.bad∧R.1.left=x.left∧R.1.pos=x.pos
 few:R.1.items.length≤16
 fin:R.1.fin=x.fin∧(R.1.next=x.next∨((i.op=12∨i.op=13)∧R.1.next=i.c))
 rg:Rg x→Vg s→mf i.n→Rg R.1∧Vg R.2.1
theorem SD {i:dv}(hi:Gn i)(hf:x.items.length≤16):Vx x s i (qM x s i):=by
 have v0:∀{e:Int},e≠11→Vr s s e 1:=fun h=>.of (Vs.refl.le (by decide)) h
 have hle:∀{t:fa} {e:Int},Vr s t e 0→Vr s t e 1:=fun h=>⟨h.1.le (by decide),h.2⟩
 have hr0:Rg x→∀{y:Int} {k:Nat},mf y→Rg (xx x k y):=fun h _ _ hy=>⟨h.regs.set hy,h.items,h.prog⟩
 by_cases c1:i.op=1
 ·have e:qM x s i=(xx x (m8 i.a) i.n,s,0):=by unfold qM;rw [if_pos c1]
  rw [e]
  exact⟨fun _=>e.symm,v0 (by simp),⟨rfl,rfl,rfl,rfl⟩,hf,⟨rfl,.inl rfl⟩,fun h hs hn=>⟨hr0 h hn,hs⟩⟩
 by_cases c3:i.op=3
 ·have e:qM x s i=(xx x (m8 i.a) (IntKind.wrap .u64 (x.r.get (m8 i.b)+x.r.get (m8 i.c))),s,0):=by unfold qM;rw [if_neg c1,if_pos c3]
  rw [e]
  exact⟨fun _=>e.symm,v0 (by simp),⟨rfl,rfl,rfl,rfl⟩,hf,⟨rfl,.inl rfl⟩,fun h hs hn=>⟨hr0 h Fc,hs⟩⟩
 by_cases c12:i.op=12
 ·have e:qM x s i=({ x with next:=i.c },s,0):=by unfold qM;rw [if_neg c1,if_neg c3,if_pos c12]
  rw [e]
  exact⟨fun _=>e.symm,v0 (by simp),⟨rfl,rfl,rfl,rfl⟩,hf,⟨rfl,.inr ⟨.inl c12,rfl⟩⟩,fun h hs hn=>⟨⟨h.regs,h.items,h.prog⟩,hs⟩⟩
 by_cases c13:i.op=13
 ·by_cases z:x.r.get (m8 i.a)=0
  ·have e:qM x s i=({ x with next:=i.c },s,0):=by unfold qM;rw [if_neg c1,if_neg c3,if_neg c12,if_pos c13,if_pos z]
   rw [e]
   exact⟨fun _=>e.symm,v0 (by simp),⟨rfl,rfl,rfl,rfl⟩,hf,⟨rfl,.inr ⟨.inr c13,rfl⟩⟩,fun h hs hn=>⟨⟨h.regs,h.items,h.prog⟩,hs⟩⟩
  ·have e:qM x s i=(x,s,0):=by unfold qM;rw [if_neg c1,if_neg c3,if_neg c12,if_pos c13,if_neg z]
   rw [e]
   exact⟨fun _=>e.symm,v0 (by simp),⟨rfl,rfl,rfl,rfl⟩,hf,⟨rfl,.inl rfl⟩,fun h hs hn=>⟨h,hs⟩⟩
 by_cases c21:i.op=21
 ·by_cases z:x.items.length<16
  ·have e:qM x s i=({ x with items:=x.items++[.num (x.r.get (m8 i.a))] },s,0):=by unfold qM;rw [if_neg c1,if_neg c3,if_neg c12,if_neg c13,if_pos c21,if_pos z]
   rw [e]
   refine⟨fun _=>e.symm,v0 (by simp),⟨rfl,rfl,rfl,rfl⟩,by simp only [List.length_append,List.length_singleton];omega,⟨rfl,.inl rfl⟩,fun h hs hn=>⟨⟨h.regs,fun a ha=>?_,h.prog⟩,hs⟩⟩
   rcases List.mem_append.1 ha with g | g
   ·exact h.items a g
   ·rw [List.mem_singleton.1 g];exact h.regs _
  ·have e:qM x s i=(x,s,5):=by unfold qM;rw [if_neg c1,if_neg c3,if_neg c12,if_neg c13,if_pos c21,if_neg z]
   rw [e]
   exact⟨fun _=>e.symm,v0 (by simp),⟨rfl,rfl,rfl,rfl⟩,hf,⟨rfl,.inl rfl⟩,fun h hs hn=>⟨h,hs⟩⟩
 have e:qM x s i=gV x s i:=by unfold qM;rw [if_neg c1,if_neg c3,if_neg c12,if_neg c13,if_neg c21]
 rw [e]
 refine⟨fun _=>e.symm,?_,?_,?_,?_,?_⟩
 ·unfold gV
  split
  ·split
   ·exact v0 (by simp)
   ·split
    ·exact hle (.of jF.1 (by simp))
    ·exact hle jF
  split
  ·split
   ·exact v0 (by simp)
   ·exact hle Qj
  split
  ·split
   ·exact v0 (by simp)
   ·split
    ·exact hle (.of Ki.1 (by simp))
    ·exact hle Ki
  ·split
   ·exact v0 (by simp)
   ·exact QH
 ·unfold gV;repeat' split
  all_goals exact⟨rfl,rfl,rfl,rfl⟩
 ·unfold gV;repeat' split
  all_goals exact hf
 ·unfold gV;repeat' split
  all_goals exact⟨rfl,.inl rfl⟩
 ·intro h hs hn
  unfold gV
  split
  ·split
   ·exact⟨h,hs⟩
   ·have h1:=hs.read (a:=(dA (x.r.get (m8 i.b)) i.c).1)
    split
    ·exact⟨hr0 h h1.2,h1.1⟩
    ·exact⟨h,h1.1⟩
  split
  ·split
   ·exact⟨h,hs⟩
   ·exact⟨h,hs.write (h.regs _)⟩
  split
  ·split
   ·exact⟨h,hs⟩
   ·split
    ·exact⟨hr0 h Fc,hs.alloc⟩
    ·exact⟨h,hs.alloc⟩
  ·split
   ·exact⟨h,hs⟩
   ·exact⟨h,hs.freed⟩
end
end Go.Proofs.YtoealglbimbbmaaGreatDoor.S
