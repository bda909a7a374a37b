import Derived.Test.YtoealglbimbbmaaGreatDoorRChk
import Derived.Test.YtoealglbimbbmaaGreatDoorRCon
import Derived.Test.YtoealglbimbbmaaGreatDoorArr
namespace Go.Proofs.YtoealglbimbbmaaGreatDoor.S
open Go Go.Proofs
set_option linter.unusedVariables false
set_option linter.unusedSimpArgs false
structure ED where
 r0:Int
 r1:Int
 r2:Int
 r3:Int
 r4:Int
 r5:Int
 r6:Int
 r7:Int
 deriving DecidableEq
def ED.get (r:ED):Nat→Int
 | 0=>r.r0 | 1=>r.r1 | 2=>r.r2 | 3=>r.r3 | 4=>r.r4 | 5=>r.r5 | 6=>r.r6 | _=>r.r7
def ED.set (r:ED)(k:Nat)(x:Int):ED:=match k with
 | 0=>{ r with r0:=x } | 1=>{ r with r1:=x } | 2=>{ r with r2:=x } | 3=>{ r with r3:=x } | 4=>{ r with r4:=x } | 5=>{ r with r5:=x } | 6=>{ r with r6:=x } | _=>{ r with r7:=x }
structure fk where
 prog:List dD
 bad:Int
 err:Int
 fin:Int
 r:ED
 items:List kR
 pos:Int
 next:Int
 left:Int
abbrev fk.cells (x:fk)(vl vm:Value)(vp op:Nat):List Value:=[vl,ptr vp 0,vm,i64 x.bad,i64 x.err,i64 x.fin,u64 x.r.r0,u64 x.r.r1,u64 x.r.r2,u64 x.r.r3,u64 x.r.r4,u64 x.r.r5,u64 x.r.r6,u64 x.r.r7,ptr op 0,i64 x.pos,i64 x.next,i64 x.left,.slice none 0 0]
def dU (k:Nat×Nat)(x:fk):ax:=jX fun vl=>jX fun vm=>jX fun op=>bu (fS (av vl [vl])) (bu (bu (own k.1 (x.cells vl vm k.2 op)) (sl fv vl x.prog)) (ob f8 op x.items))
section
variable {w0:bg}{L M:List ax}{K:KV}{F:World→Prop}{C:ax→List ax}{b vp op:Nat}{x:fk}{s:fh}{v vl vm:Value}
theorem ey:G w0 (ob dU (b,vp) x::M) F=∀vl vm op,av vl [vl]→G w0 (own b (x.cells vl vm vp op)::sl fv vl x.prog::ob f8 op x.items::M) F:=by
 rw [dO,dU]
 simp only [lT,dP,eS]
theorem be {vl vm:Value}(b vp op:Nat)(x:fk) [cx [own b (x.cells vl vm vp op),sl fv vl x.prog,ob f8 op x.items] L M](h:av vl [vl])(H:G w0 (ob dU (b,vp) x::M) F):G w0 L F :=
 G.pickAll (As:=[own b (x.cells vl vm vp op),sl fv vl x.prog,ob f8 op x.items]) (by rw [ey] at H;exact H vl vm op h)
abbrev Cj (p:List dD)(fuel:Int):fk:=⟨p,0,0,0,⟨0,0,0,0,0,0,0,0⟩,[],0,0,held fuel 0 400⟩
theorem Kg {p:List dD}{fuel:Int}[r:Rd w0 L v fv 5 p](hv:av v [v])(h:ir p)(hK:∀b,G w0 (ob dU (b,vp) (Cj p fuel)::L) (K (ptr b 0))):G w0 L (CP Tryz.prog ZO [.agg #[v],ptr vp 0,i64 fuel] K):=by
 refine JO ?_
 unfold CL
 have hh:=h
 obtain⟨h1,h2,h3⟩:=h
 refine G.box fun q=>?_
 refine gr ?_
 refine G.nilsl fv ?_
 refine G.append (E:=fv) (xs:=[]) (ys:=p) (by simp;omega) (by simp [maxLen];omega) fun u hu=>?_
 simp only [List.nil_append]
 refine gr ?_
 refine DS hu hh ?_
 repeat' (first | (with_reducible refine G.joini0 ?_) | (with_reducible refine G.joini1 ?_) | (with_reducible refine G.drew ?_) | (simp (maxSteps:=2000000) only [↓RG,RP,RB,BEq.rfl,Int.reduceEq,Int.reduceLT,Int.reduceLE,Nat.reduceEqDiff]))
 refine Ik hu hh fun u2 hu2=>?_
 refine gg ?_
 refine LQ fun op=>?_
 refine gg ?_
 refine G.box fun b=>?_
 have e:(if (if (400:Int)<fuel then 400 else fuel) > 0 then if (400:Int)<fuel then 400 else fuel else 0)=held fuel 0 400:=by unfold held;split <;> split <;> split <;> (try split) <;> omega
 refine dN e ?_
 refine be (vl:=u) (vm:=u2) b vp op (Cj p fuel) hu ?_
 exact(hK b).sub
theorem J0 [i:al L dU (b,vp) x C](hK:G w0 L (K (i64 x.err))):G w0 L (CP Tryz.prog ZP [ptr b 0] K):=by
 refine i.ro (fun M hK=>?_) hK
 refine yB ?_
 unfold pi
 rw [ey] at *
 intro vl vm op h
 have hK:=hK vl vm op h
 refine gr ?_
 exact hK
theorem Fz (hl:x.items.length≤1000000)[i:al L dU (b,vp) x C](hK:∀c,G w0 (ob f8 c x.items::L) (K (ptr c 0))):G w0 L (CP Tryz.prog ZQ [ptr b 0] K):=by
 refine i.roN (P:=fun _=>True) (N:=fun c=>ob f8 c x.items) (F':=fun c=>K (ptr c 0)) (fun M hK=>?_) (fun c _=>hK c)
 refine vM ?_
 unfold mb
 rw [ey]
 intro vl vm op h
 refine gr ?_
 refine AB (xs:=x.items) hl fun c=>?_
 refine be (vm:=vm) b vp op x h ?_
 exact(hK c trivial).sub
theorem zb {e:Int}[i:al L dU (b,vp) x C](hK:G w0 (C (ob dU (b,vp) { x with fin:=4,err:=e })) (K (.tuple #[]))):G w0 L (CP Tryz.prog XX [ptr b 0,i64 e] K):=by
 refine i.use (fun M hK=>?_) hK
 refine xp ?_
 unfold nN
 rw [ey] at *
 intro vl vm op h
 have hK:=hK vl vm op h
 refine gr ?_
 exact hK
abbrev m8 (n:Int):Nat:=(n.tmod 8).toNat
theorem OY {n:Int}(h:0≤n):m8 n<8∧n.tmod 8=(m8 n:Int):=by
 have h1:=Int.tmod_nonneg 8 h
 have h2:=Int.tmod_lt_of_pos n (show (0:Int)<8 by decide)
 unfold m8
 omega
theorem sT {k:Nat}(hk:k<8):Jp (x.cells vl vm vp op) (6+k) (u64 (x.r.get k)):=by
 match k,hk with
 | 0,_=>exact⟨rfl⟩
 | 1,_=>exact⟨rfl⟩
 | 2,_=>exact⟨rfl⟩
 | 3,_=>exact⟨rfl⟩
 | 4,_=>exact⟨rfl⟩
 | 5,_=>exact⟨rfl⟩
 | 6,_=>exact⟨rfl⟩
 | 7,_=>exact⟨rfl⟩
abbrev yG (x:fk)(k:Nat)(y:Int):fk:={ x with r:=x.r.set k y }
theorem Bn {k:Nat}{y:Int}(hk:k<8):pt (x.cells vl vm vp op) (6+k) [u64 y] ((yG x k y).cells vl vm vp op):=by
 match k,hk with
 | 0,_=>exact⟨rfl,by simp⟩
 | 1,_=>exact⟨rfl,by simp⟩
 | 2,_=>exact⟨rfl,by simp⟩
 | 3,_=>exact⟨rfl,by simp⟩
 | 4,_=>exact⟨rfl,by simp⟩
 | 5,_=>exact⟨rfl,by simp⟩
 | 6,_=>exact⟨rfl,by simp⟩
 | 7,_=>exact⟨rfl,by simp⟩
class Us (k n:Nat):Prop where
 lt:k<n
theorem gF {o n k m:Nat}{kd:IntKind}{i:Int}[hi:iA i k][ha:zK o k m][hk:Us k n]:G w0 L (iX n 1 (ptr b o) (.int kd i) K)=G w0 L (K (ptr b m)):=zZ fun w H=>by
 have h1:=hi.eq
 have h2:=ha.eq
 have h:=hk.lt
 subst h1 h2
 simp [iX,h]
abbrev RV (base off:Int):Int:=iP (iP base+off)
def fZ (base off:Int):Int×Int:=if 2147483648≤base∨2147483648≤RV base off∨RV base off<6 then (0,2) else (RV base off,0)
theorem wc {base off:Int}(hK:G w0 L (K (.tuple #[i64 (fZ base off).1,i64 (fZ base off).2]))):G w0 L (CP Tryz.prog Ys [u64 base,i64 off] K):=by
 refine Ho ?_
 unfold w7
 unfold fZ at hK
 refine gu ?_
 by_cases c1:2147483648≤base
 ·rw [if_pos (.inl c1)] at hK
  refine dN c1 ?_
  exact hK
 ·by_cases c2:2147483648≤IntKind.wrap .i64 (IntKind.wrap .i64 base+off)
  ·rw [if_pos (.inr (.inl c2))] at hK
   refine dN (an c1 c2) ?_
   exact hK
  ·by_cases c3:IntKind.wrap .i64 (IntKind.wrap .i64 base+off)<6
   ·rw [if_pos (.inr (.inr c3))] at hK
    refine dN (an c1 (an c2 c3)) ?_
    exact hK
   ·rw [if_neg (by rintro(g | g | g) <;> contradiction)] at hK
    refine dN (an c1 (an c2 c3)) ?_
    exact hK
theorem FO {a c:Int}:(fZ a c).2=0∨(fZ a c).2=2:=by unfold fZ;split <;> simp
def qv (x:fk)(s:fh)(i:dD):fk×fh×Int :=
 if i.op=8 then (if (fZ (x.r.get (m8 i.b)) i.c).2≠0 then (x,s,2)
  else if (cZ s (fZ (x.r.get (m8 i.b)) i.c).1).2.2=0 then (yG x (m8 i.a) (cZ s (fZ (x.r.get (m8 i.b)) i.c).1).2.1,(cZ s (fZ (x.r.get (m8 i.b)) i.c).1).1,0)
  else (x,(cZ s (fZ (x.r.get (m8 i.b)) i.c).1).1,(cZ s (fZ (x.r.get (m8 i.b)) i.c).1).2.2))
 else (if (fZ (x.r.get (m8 i.a)) i.c).2≠0 then (x,s,2) else (x,(oJ s (fZ (x.r.get (m8 i.a)) i.c).1 (x.r.get (m8 i.b))).1,(oJ s (fZ (x.r.get (m8 i.a)) i.c).1 (x.r.get (m8 i.b))).2))
def Na (x:fk)(s:fh)(i:dD):fk×fh×Int :=
 if i.op=1 then (yG x (m8 i.a) i.n,s,0)
 else if i.op=3 then (yG x (m8 i.a) (IntKind.wrap .u64 (x.r.get (m8 i.b)+x.r.get (m8 i.c))),s,0)
 else if i.op=21 then (if x.items.length<16 then ({ x with items:=x.items++[.num (x.r.get (m8 i.a))] },s,0) else (x,s,5))
 else qv x s i
def za:kR→Prop
 | .num n=>fF n
 | _=>True
def Ru (r:ED):Prop:=∀k,fF (r.get k)
structure Rg (x:fk):Prop where
 regs:Ru x.r
 items:∀a∈x.items,za a
 prog:∀i∈x.prog,fF i.n
theorem Ru.set {r:ED}{k:Nat}{y:Int}(h:Ru r)(hy:fF y):Ru (r.set k y):=fun j=>by
 have h0:=h 0;have h1:=h 1;have h2:=h 2;have h3:=h 3;have h4:=h 4;have h5:=h 5;have h6:=h 6;have h7:=h 7
 unfold ED.set
 split <;> (unfold ED.get;split <;> first | exact hy | assumption)
structure WH (x:fk)(s:fh)(i:dD)(R:fk×fh×Int):Prop where
 det:i.op≠23→R=Na x s i
 vr:Vr s R.2.1 R.2.2 1
 same:R.1.prog=x.prog∧R.1.bad=x.bad∧R.1.left=x.left∧R.1.pos=x.pos
 few:R.1.items.length≤16
 fin:(R.1.fin=x.fin∧R.1.next=x.next)∨(R.1.fin=3∧R.2.2=0∧R.1.next=x.pos)
 rg:Rg x→Vg s→fF i.n→Rg R.1∧Vg R.2.1
theorem Ux {i:dD}(hi:I5 i)(h23:i.op≠23)(hf:x.items.length≤16):WH x s i (Na x s i):=by
 have v0:∀{e:Int},e≠11→Vr s s e 1:=fun h=>.of (Vs.refl.le (by decide)) h
 have hle:∀{t:fh} {e:Int},Vr s t e 0→Vr s t e 1:=fun h=>⟨h.1.le (by decide),h.2⟩
 have hr0:Rg x→∀{y:Int} {k:Nat},fF y→Rg (yG x k y):=fun h _ _ hy=>⟨h.regs.set hy,h.items,h.prog⟩
 by_cases c1:i.op=1
 ·have e:Na x s i=(yG x (m8 i.a) i.n,s,0):=by unfold Na;rw [if_pos c1]
  rw [e]
  exact⟨fun _=>e.symm,v0 (by simp),⟨rfl,rfl,rfl,rfl⟩,hf,.inl ⟨rfl,rfl⟩,fun h hs hn=>⟨hr0 h hn,hs⟩⟩
 by_cases c3:i.op=3
 ·have e:Na x s i=(yG x (m8 i.a) (IntKind.wrap .u64 (x.r.get (m8 i.b)+x.r.get (m8 i.c))),s,0):=by unfold Na;rw [if_neg c1,if_pos c3]
  rw [e]
  exact⟨fun _=>e.symm,v0 (by simp),⟨rfl,rfl,rfl,rfl⟩,hf,.inl ⟨rfl,rfl⟩,fun h hs hn=>⟨hr0 h gH,hs⟩⟩
 by_cases c21:i.op=21
 ·by_cases z:x.items.length<16
  ·have e:Na x s i=({ x with items:=x.items++[.num (x.r.get (m8 i.a))] },s,0):=by unfold Na;rw [if_neg c1,if_neg c3,if_pos c21,if_pos z]
   rw [e]
   refine⟨fun _=>e.symm,v0 (by simp),⟨rfl,rfl,rfl,rfl⟩,by simp only [List.length_append,List.length_singleton];omega,.inl ⟨rfl,rfl⟩,fun h hs hn=>⟨⟨h.regs,fun a ha=>?_,h.prog⟩,hs⟩⟩
   rcases List.mem_append.1 ha with g | g
   ·exact h.items a g
   ·rw [List.mem_singleton.1 g];exact h.regs _
  ·have e:Na x s i=(x,s,5):=by unfold Na;rw [if_neg c1,if_neg c3,if_pos c21,if_neg z]
   rw [e]
   exact⟨fun _=>e.symm,v0 (by simp),⟨rfl,rfl,rfl,rfl⟩,hf,.inl ⟨rfl,rfl⟩,fun h hs hn=>⟨h,hs⟩⟩
 have e:Na x s i=qv x s i:=by unfold Na;rw [if_neg c1,if_neg c3,if_neg c21]
 rw [e]
 refine⟨fun _=>e.symm,?_,?_,?_,?_,?_⟩
 ·unfold qv
  split
  ·split
   ·exact v0 (by simp)
   ·split
    ·exact hle (.of i7.1 (by simp))
    ·exact hle i7
  ·split
   ·exact v0 (by simp)
   ·exact hle LD
 ·unfold qv;repeat' split
  all_goals exact⟨rfl,rfl,rfl,rfl⟩
 ·unfold qv;repeat' split
  all_goals exact hf
 ·unfold qv;repeat' split
  all_goals exact .inl ⟨rfl,rfl⟩
 ·intro h hs hn
  unfold qv
  split
  ·split
   ·exact⟨h,hs⟩
   ·have h1:=hs.read (a:=(fZ (x.r.get (m8 i.b)) i.c).1)
    split
    ·exact⟨hr0 h h1.2,h1.1⟩
    ·exact⟨h,h1.1⟩
  ·split
   ·exact⟨h,hs⟩
   ·exact⟨h,hs.write (h.regs _)⟩
end
end Go.Proofs.YtoealglbimbbmaaGreatDoor.S
