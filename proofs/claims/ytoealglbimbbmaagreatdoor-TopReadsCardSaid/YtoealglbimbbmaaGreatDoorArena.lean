import Derived.Test.YtoealglbimbbmaaGreatDoorView
namespace Go.Proofs.YtoealglbimbbmaaGreatDoor.S
open Go Go.Proofs
set_option linter.unusedVariables false
set_option linter.unusedSimpArgs false
abbrev iP (n:Int):Int:=IntKind.wrap .i64 n
abbrev wU (n:Int):Int:=IntKind.wrap .u64 n
def zy (c:Int):Int:=if c<1 then 0 else if 4<c then 0 else iP (1*2 ^ min c.toNat 64)
def ku (n:Int):Int:=if n<1 then 0 else if n≤2 then 1 else if n≤4 then 2 else if n≤8 then 3 else if n≤16 then 4 else 0
def tZ (w:Int):Int×Bool:=if 1≤w∧w≤4 then (w,false) else if 9≤w∧w≤12 then (w-8,true) else (0,false)
def gN (c:Int):Int:=iP (0+c)
def rU (s:fh)(c b:Int):fh×Int×Int :=
 if 2147483648≤b then (s,0,2)
 else if (cZ s (iP b)).2.2=0 then
  (if (gj (cZ s (iP b)).1 [⟨gN c,(cZ s (iP b)).2.1⟩,⟨iP (iP b-1),wU (iP (c+8))⟩]).2=0 then ((gj (cZ s (iP b)).1 [⟨gN c,(cZ s (iP b)).2.1⟩,⟨iP (iP b-1),wU (iP (c+8))⟩]).1,iP b,0)
   else ((gj (cZ s (iP b)).1 [⟨gN c,(cZ s (iP b)).2.1⟩,⟨iP (iP b-1),wU (iP (c+8))⟩]).1,0,(gj (cZ s (iP b)).1 [⟨gN c,(cZ s (iP b)).2.1⟩,⟨iP (iP b-1),wU (iP (c+8))⟩]).2))
 else ((cZ s (iP b)).1,0,(cZ s (iP b)).2.2)
def wi (w c:Int):List aw:=[⟨5,wU (iP (iP (iP w+1)+zy c))⟩,⟨iP w,wU (iP (c+8))⟩]
def sc (s:fh)(c:Int):fh×Int×Int :=
 if (cZ s 5).2.2=0 then
  (if (cZ s 5).2.1<14∨2147483648≤(cZ s 5).2.1∨((cZ s 5).1.size:Int)<iP (iP (iP (cZ s 5).2.1+1)+zy c) then ((cZ s 5).1,0,4)
   else if (gj (cZ s 5).1 (wi (cZ s 5).2.1 c)).2=0 then ((gj (cZ s 5).1 (wi (cZ s 5).2.1 c)).1,iP (iP (cZ s 5).2.1+1),0)
   else ((gj (cZ s 5).1 (wi (cZ s 5).2.1 c)).1,0,(gj (cZ s 5).1 (wi (cZ s 5).2.1 c)).2))
 else ((cZ s 5).1,0,(cZ s 5).2.2)
def qf (s:fh)(n:Int):fh×Int×Int :=
 if ku n=0 then (s,0,3)
 else if (cZ s (gN (ku n))).2.2=0 then
  (if (cZ s (gN (ku n))).2.1=0 then sc (cZ s (gN (ku n))).1 (ku n) else rU (cZ s (gN (ku n))).1 (ku n) (cZ s (gN (ku n))).2.1)
 else ((cZ s (gN (ku n))).1,0,(cZ s (gN (ku n))).2.2)
def ig (s:fh)(b:Int):fh×Int×Bool×Int :=
 if b≤14∨(s.size:Int)≤b then (s,0,false,2)
 else if (cZ s (iP (b-1))).2.2=0 then
  (if (tZ (cZ s (iP (b-1))).2.1).1=0 then ((cZ s (iP (b-1))).1,0,false,2) else ((cZ s (iP (b-1))).1,(tZ (cZ s (iP (b-1))).2.1).1,(tZ (cZ s (iP (b-1))).2.1).2,0))
 else ((cZ s (iP (b-1))).1,0,false,(cZ s (iP (b-1))).2.2)
def Fb (q:fh×Int×Bool×Int)(b:Int):fh×Int :=
 if q.2.2.2=0 then
  (if q.2.2.1=true then
   (if (gj q.1 [⟨iP (b-1),wU q.2.1⟩]).2=0 then ((gj q.1 [⟨iP (b-1),wU q.2.1⟩]).1.log ((gj q.1 [⟨iP (b-1),wU q.2.1⟩]).1.l.free b),0) else gj q.1 [⟨iP (b-1),wU q.2.1⟩])
   else (q.1,2))
 else (q.1,q.2.2.2)
def zz (s:fh)(b:Int):fh×Int:=Fb (ig s b) b
def E1 (q:fh×Int×Bool×Int)(b:Int):fh×Int :=
 if q.2.2.2=0 then
  (if q.2.2.1=true then (q.1,2)
   else if (cZ q.1 (gN q.2.1)).2.2=0 then gj (cZ q.1 (gN q.2.1)).1 [⟨b,(cZ q.1 (gN q.2.1)).2.1⟩,⟨gN q.2.1,wU b⟩] else ((cZ q.1 (gN q.2.1)).1,(cZ q.1 (gN q.2.1)).2.2))
 else (q.1,q.2.2.2)
def pp (s:fh)(b:Int):fh×Int:=E1 (ig s b) b
section
variable {w0:bg}{L M:List ax}{K:KV}{F:World→Prop}{C:ax→List ax}{b:Nat}{s:fh}{n c w:Int}
theorem jq (hK:G w0 L (K (i64 (zy c)))):G w0 L (CP Tryz.prog Yk [i64 c] K):=by
 refine K5 ?_
 unfold Bw
 unfold zy at hK
 refine gu ?_
 by_cases h1:c<1
 ·rw [if_pos h1] at hK
  refine dN h1 ?_
  exact hK
 rw [if_neg h1] at hK
 by_cases h2:4<c
 ·rw [if_pos h2] at hK
  refine dN (an h1 h2) ?_
  exact hK
 rw [if_neg h2] at hK
 have nn:bw c:=⟨by omega⟩
 refine dN (an h1 h2) ?_
 exact hK
theorem TX:zy 1=2:=by decide
theorem Ty:zy 2=4:=by decide
theorem T1:zy 3=8:=by decide
theorem TS:zy 4=16:=by decide
theorem H0 (hK:G w0 L (K (i64 (ku n)))):G w0 L (CP Tryz.prog ab0 [i64 n] K):=by
 refine HR ?_
 unfold zD
 unfold ku at hK
 by_cases h1:n<1
 ·rw [if_pos h1] at hK
  refine dN h1 ?_
  exact hK
 rw [if_neg h1] at hK
 refine dN h1 ?_
 refine G.loopc1 (fun k:Nat=>i64 k) (fun k=>(k=1)∨(k=2∧¬n≤2)∨(k=3∧¬n≤4)∨(k=4∧¬n≤8)∨(k=5∧¬n≤16)) (fun k=>5-k) 1 rfl (.inl rfl) ?_
 intro k hk J hJ
 rcases hk with rfl | ⟨rfl,h⟩ | ⟨rfl,h⟩ | ⟨rfl,h⟩ | ⟨rfl,h⟩
 ·have e:((1:Nat):Int)=1:=rfl
  rw [e]
  refine gr ?_
  refine jq ?_
  rw [TX]
  refine gr ?_
  refine G.cond (fun g=>?_) (fun g=>?_)
  ·rw [if_pos (by simpa using g)] at hK;exact hK
  ·refine gr ?_
   exact hJ 2 (.inr (.inl ⟨rfl,by simpa using g⟩)) (by omega)
 ·have e:((2:Nat):Int)=2:=rfl
  rw [e]
  rw [if_neg h] at hK
  refine gr ?_
  refine jq ?_
  rw [Ty]
  refine gr ?_
  refine G.cond (fun g=>?_) (fun g=>?_)
  ·rw [if_pos (by simpa using g)] at hK;exact hK
  ·refine gr ?_
   exact hJ 3 (.inr (.inr (.inl ⟨rfl,by simpa using g⟩))) (by omega)
 ·have e:((3:Nat):Int)=3:=rfl
  rw [e]
  rw [if_neg (by omega),if_neg h] at hK
  refine gr ?_
  refine jq ?_
  rw [T1]
  refine gr ?_
  refine G.cond (fun g=>?_) (fun g=>?_)
  ·rw [if_pos (by simpa using g)] at hK;exact hK
  ·refine gr ?_
   exact hJ 4 (.inr (.inr (.inr (.inl ⟨rfl,by simpa using g⟩)))) (by omega)
 ·have e:((4:Nat):Int)=4:=rfl
  rw [e]
  rw [if_neg (by omega),if_neg (by omega),if_neg h] at hK
  refine gr ?_
  refine jq ?_
  rw [TS]
  refine gr ?_
  refine G.cond (fun g=>?_) (fun g=>?_)
  ·rw [if_pos (by simpa using g)] at hK;exact hK
  ·refine gr ?_
   exact hJ 5 (.inr (.inr (.inr (.inr ⟨rfl,by simpa using g⟩)))) (by omega)
 ·have e:((5:Nat):Int)=5:=rfl
  rw [e]
  rw [if_neg (by omega),if_neg (by omega),if_neg (by omega),if_neg h] at hK
  refine gr ?_
  exact hK
theorem pC (hK:G w0 L (K (i64 (gN c)))):G w0 L (CP Tryz.prog XO [i64 c] K):=by
 refine Kc ?_
 unfold BU
 refine gr ?_
 exact hK
theorem GV (hK:G w0 L (K (.tuple #[i64 (tZ w).1,.bool (tZ w).2]))):G w0 L (CP Tryz.prog abP [u64 w] K):=by
 refine G6 ?_
 unfold wI
 unfold tZ at hK
 refine gu ?_
 by_cases h1:1≤w∧w≤4
 ·rw [if_pos h1] at hK
  have e:IntKind.wrap .i64 w=w:=ik (by omega) (by omega)
  refine dN (an h1.1 (an h1.2 e)) ?_
  exact hK
 rw [if_neg h1] at hK
 by_cases h2:9≤w∧w≤12
 ·rw [if_pos h2] at hK
  have e:IntKind.wrap .i64 (IntKind.wrap .u64 (w-8))=w-8:=by rw [RH (n:=w-8) (by omega) (by omega),ik (by omega) (by omega)]
  have g1:¬w≤4:=by omega
  refine dN (an g1 (an h2.1 (an h2.2 e))) ?_
  exact hK
 rw [if_neg h2] at hK
 have g1:(decide (1≤w) && decide (w≤4))=false:=by simp;omega
 have g2:(decide (9≤w) && decide (w≤12))=false:=by simp;omega
 refine dN (an g1 g2) ?_
 exact hK
theorem WW {L:List ax}{a1 x1 a2 x2:Int}{K:KV}(hK:∀v,av v [v]→G w0 (sl bd v [⟨a1,x1⟩,⟨a2,x2⟩]::L) (K v)) :
  G w0 L (ap [.int .i64 0,.int .u64 0] 2 [(0,2,.agg #[i64 a1,u64 x1]),(2,2,.agg #[i64 a2,u64 x2])] K):=by
 refine G.build bd [⟨a1,x1⟩,⟨a2,x2⟩] rfl (by simp) rfl fun v hv=>hK v hv
theorem WT {L:List ax}{a1 x1:Int}{K:KV}(hK:∀v,av v [v]→G w0 (sl bd v [⟨a1,x1⟩]::L) (K v)) :
  G w0 L (ap [.int .i64 0,.int .u64 0] 1 [(0,2,.agg #[i64 a1,u64 x1])] K):=by
 refine G.build bd [⟨a1,x1⟩] rfl (by simp) rfl fun v hv=>hK v hv
theorem Iq {bb:Int}[i:al L ba b s C](hK:G w0 (C (ob ba b (rU s c bb).1)) (K (.tuple #[i64 (rU s c bb).2.1,i64 (rU s c bb).2.2]))):G w0 L (CP Tryz.prog ab1 [ptr b 0,i64 c,u64 bb] K):=by
 refine i.use (fun M hK=>?_) hK
 refine Ia ?_
 unfold ze
 unfold rU at hK
 by_cases h1:2147483648≤bb
 ·rw [if_pos h1] at hK
  refine dN h1 ?_
  exact hK
 rw [if_neg h1] at hK
 refine dN h1 ?_
 refine ib (b:=b) (s:=s) ?_
 generalize cZ s (iP bb)=r at hK ⊢
 obtain⟨s1,x,e⟩:=r
 simp only at hK ⊢
 refine gr ?_
 refine G.joini1 ?_
 by_cases h2:e=0
 ·rw [if_pos h2] at hK
  refine dN (eq_true h2) ?_
  refine pC ?_
  refine gr ?_
  refine WW fun v hv=>?_
  refine nE (b:=b) (s:=s1) (l:=[⟨gN c,x⟩,⟨iP (iP bb-1),wU (iP (c+8))⟩]) (by simp) ?_
  generalize gj s1 [⟨gN c,x⟩,⟨iP (iP bb-1),wU (iP (c+8))⟩]=t at hK ⊢
  obtain⟨s2,e2⟩:=t
  simp only at hK ⊢
  by_cases h3:e2=0
  ·rw [if_pos h3] at hK
   refine dN (eq_true h3) ?_
   exact hK.sub
  ·rw [if_neg h3] at hK
   refine dN h3 ?_
   exact hK.sub
 ·rw [if_neg h2] at hK
  refine dN h2 ?_
  exact hK
theorem H8 [i:al L ba b s C](hK:G w0 (C (ob ba b (sc s c).1)) (K (.tuple #[i64 (sc s c).2.1,i64 (sc s c).2.2]))):G w0 L (CP Tryz.prog ab2 [ptr b 0,i64 c] K):=by
 refine i.use (fun M hK=>?_) hK
 refine HJ ?_
 unfold zE
 unfold sc at hK
 refine gu ?_
 refine ib (b:=b) (s:=s) (a:=5) ?_
 generalize cZ s 5=r at hK ⊢
 obtain⟨s1,x,e⟩:=r
 simp only at hK ⊢
 refine gr ?_
 by_cases h2:e=0
 ·rw [if_pos h2] at hK
  have bad:(x<14∨2147483648≤x∨(s1.size:Int)<iP (iP (iP x+1)+zy c))→G w0 (ob ba b s1::M) (K (.tuple #[i64 0,i64 4])):=fun h=>by rw [if_pos h] at hK;exact hK
  by_cases g1:x<14
  ·refine dN (an (eq_true h2) g1) ?_
   exact bad (.inl g1)
  by_cases g2:2147483648≤x
  ·refine dN (an (eq_true h2) (an g1 g2)) ?_
   exact bad (.inr (.inl g2))
  refine dN (an (eq_true h2) (an g1 g2)) ?_
  refine jq ?_
  refine gr ?_
  refine wL (b:=b) (s:=s1) ?_
  refine gr ?_
  refine G.cond (fun g=>?_) (fun g=>?_)
  ·exact bad (.inr (.inr (by simpa using g)))
  rw [if_neg (show ¬(x<14∨2147483648≤x∨(s1.size:Int)<IntKind.wrap .i64 (IntKind.wrap .i64 (IntKind.wrap .i64 x+1)+zy c)) by simp at g;omega)] at hK
  refine gr ?_
  refine jq ?_
  refine gr ?_
  refine WW fun v hv=>?_
  refine nE (b:=b) (s:=s1) (l:=wi x c) (by simp [wi]) ?_
  generalize gj s1 (wi x c)=t at hK ⊢
  obtain⟨s2,e2⟩:=t
  simp only at hK ⊢
  by_cases h3:e2=0
  ·rw [if_pos h3] at hK
   refine dN (eq_true h3) ?_
   exact hK.sub
  ·rw [if_neg h3] at hK
   refine dN h3 ?_
   exact hK.sub
 ·rw [if_neg h2] at hK
  refine dN h2 ?_
  exact hK
theorem Ig [i:al L ba b s C](hK:G w0 (C (ob ba b (qf s n).1)) (K (.tuple #[i64 (qf s n).2.1,i64 (qf s n).2.2]))):G w0 L (CP Tryz.prog Zq [ptr b 0,i64 n] K):=by
 refine i.use (fun M hK=>?_) hK
 refine HQ ?_
 unfold zq
 unfold qf at hK
 refine H0 ?_
 generalize ku n=c at hK ⊢
 by_cases h1:c=0
 ·rw [if_pos h1] at hK
  refine dN (eq_true h1) ?_
  exact hK
 rw [if_neg h1] at hK
 refine dN h1 ?_
 refine pC ?_
 refine ib (b:=b) (s:=s) ?_
 generalize cZ s (gN c)=r at hK ⊢
 obtain⟨s1,x,e⟩:=r
 simp only at hK ⊢
 refine gr ?_
 by_cases h2:e=0
 ·rw [if_pos h2] at hK
  by_cases h3:x=0
  ·rw [if_pos h3] at hK
   refine dN (an (eq_true h2) (eq_true h3)) ?_
   refine H8 (b:=b) (s:=s1) ?_
   refine gr ?_
   exact hK
  ·rw [if_neg h3] at hK
   refine dN (an (eq_true h2) h3) ?_
   refine Iq (b:=b) (s:=s1) ?_
   refine gr ?_
   exact hK
 ·rw [if_neg h2] at hK
  refine dN h2 ?_
  exact hK
theorem zc {n:Int}[i:al L ba b s C](hK:G w0 (C (ob ba b (ig s n).1)) (K (.tuple #[i64 (ig s n).2.1,.bool (ig s n).2.2.1,i64 (ig s n).2.2.2]))):G w0 L (CP Tryz.prog Zh [ptr b 0,i64 n] K):=by
 refine i.use (fun M hK=>?_) hK
 refine Il ?_
 unfold zi
 unfold ig at hK
 refine gu ?_
 by_cases g1:n≤14
 ·rw [if_pos (.inl g1)] at hK
  refine dN g1 ?_
  exact hK
 refine dN g1 ?_
 refine wL (b:=b) (s:=s) ?_
 refine gr ?_
 refine G.cond (fun g=>?_) (fun g=>?_)
 ·rw [if_pos (.inr (by simpa using g))] at hK
  exact hK
 rw [if_neg (by simp at g;omega)] at hK
 refine gr ?_
 refine ib (b:=b) (s:=s) ?_
 generalize cZ s (iP (n-1))=r at hK ⊢
 obtain⟨s1,x,e⟩:=r
 simp only at hK ⊢
 refine gr ?_
 by_cases h2:e=0
 ·rw [if_pos h2] at hK
  refine dN (eq_true h2) ?_
  refine GV ?_
  refine gr ?_
  by_cases h3:(tZ x).1=0
  ·rw [if_pos h3] at hK
   refine dN (eq_true h3) ?_
   exact hK
  ·rw [if_neg h3] at hK
   refine dN h3 ?_
   exact hK
 ·rw [if_neg h2] at hK
  refine dN h2 ?_
  exact hK
theorem Kn {n:Int}[i:al L ba b s C](hf:s.l.r.f.length≤1000)(hff:∀l,(gj (ig s n).1 l).1.l.r.f.length≤1000000)(hK:G w0 (C (ob ba b (zz s n).1)) (K (i64 (zz s n).2))):G w0 L (CP Tryz.prog Zr [ptr b 0,i64 n] K):=by
 refine i.use (fun M hK=>?_) hK
 refine K1 ?_
 unfold Bi
 unfold zz Fb at hK
 refine gu ?_
 refine zc (b:=b) (s:=s) ?_
 generalize ig s n=q at hK hff ⊢
 obtain⟨s1,c,lv,e⟩:=q
 simp only at hK hff ⊢
 refine gr ?_
 refine G.joini1 ?_
 by_cases h1:e=0
 ·rw [if_pos h1] at hK
  cases lv
  ·rw [if_neg (by decide)] at hK
   repeat' (first | (with_reducible refine G.joini0 ?_) | (with_reducible refine G.joini1 ?_) | (with_reducible refine G.drew ?_) | (simp (maxSteps:=2000000) only [↓RG,RP,RB,BEq.rfl,Int.reduceEq,Int.reduceLT,Int.reduceLE,Nat.reduceEqDiff,eq_true h1]))
   exact hK
  ·rw [if_pos rfl] at hK
   repeat' (first | (with_reducible refine G.joini0 ?_) | (with_reducible refine G.joini1 ?_) | (with_reducible refine G.drew ?_) | (simp (maxSteps:=2000000) only [↓RG,RP,RB,BEq.rfl,Int.reduceEq,Int.reduceLT,Int.reduceLE,Nat.reduceEqDiff,eq_true h1]))
   refine WT fun v hv=>?_
   refine nE (b:=b) (s:=s1) (l:=[⟨iP (n-1),wU c⟩]) (by simp) ?_
   have hf2:=hff [⟨iP (n-1),wU c⟩]
   generalize gj s1 [⟨iP (n-1),wU c⟩]=t at hK hf2 ⊢
   obtain⟨s2,e2⟩:=t
   simp only at hK hf2 ⊢
   by_cases h3:e2=0
   ·rw [if_pos h3] at hK
    subst h3
    refine gg ?_
    refine DR (b:=b) (s:=s2) hf2 ?_
    exact hK.sub
   ·rw [if_neg h3] at hK
    refine gf h3 ?_
    exact hK.sub
 ·rw [if_neg h1] at hK
  repeat' (first | (with_reducible refine G.joini0 ?_) | (with_reducible refine G.joini1 ?_) | (with_reducible refine G.drew ?_) | (simp (maxSteps:=2000000) only [↓RG,RP,RB,BEq.rfl,Int.reduceEq,Int.reduceLT,Int.reduceLE,Nat.reduceEqDiff,h1]))
  exact hK
theorem KD {n:Int}[i:al L ba b s C](hK:G w0 (C (ob ba b (pp s n).1)) (K (i64 (pp s n).2))):G w0 L (CP Tryz.prog abt [ptr b 0,i64 n] K):=by
 refine i.use (fun M hK=>?_) hK
 refine Kw ?_
 unfold BL
 unfold pp E1 at hK
 refine gu ?_
 refine zc (b:=b) (s:=s) ?_
 generalize ig s n=q at hK ⊢
 obtain⟨s1,c,lv,e⟩:=q
 simp only at hK ⊢
 refine gr ?_
 refine G.joini1 ?_
 by_cases h1:e=0
 ·rw [if_pos h1] at hK
  cases lv
  ·rw [if_neg (by decide)] at hK
   refine gf (eq_true h1) ?_
   refine pC ?_
   refine ib (b:=b) (s:=s1) ?_
   generalize cZ s1 (gN c)=r at hK ⊢
   obtain⟨s2,x,e2⟩:=r
   simp only at hK ⊢
   by_cases h2:e2=0
   ·rw [if_pos h2] at hK
    refine gf (eq_true h2) ?_
    refine pC ?_
    refine gg ?_
    refine WW fun v hv=>?_
    refine nE (b:=b) (s:=s2) (l:=[⟨n,x⟩,⟨gN c,wU n⟩]) (by simp) ?_
    exact hK.sub
   ·rw [if_neg h2] at hK
    refine gf h2 ?_
    exact hK
  ·rw [if_pos rfl] at hK
   refine gf (eq_true h1) ?_
   exact hK
 ·rw [if_neg h1] at hK
  refine gf h1 ?_
  exact hK
end
end Go.Proofs.YtoealglbimbbmaaGreatDoor.S
