import Derived.Test.YtoealglbimbbmaaGreatDoorView
namespace Go.Proofs.YtoealglbimbbmaaGreatDoor.S
open Go Go.Proofs
set_option linter.unusedVariables false
set_option linter.unusedSimpArgs false
abbrev iF (n:Int):Int:=IntKind.wrap .i64 n
abbrev wU (n:Int):Int:=IntKind.wrap .u64 n
def yG (c:Int):Int:=if c<1 then 0 else if 4<c then 0 else iF (1*2 ^ min c.toNat 64)
def kQ (n:Int):Int:=if n<1 then 0 else if n≤2 then 1 else if n≤4 then 2 else if n≤8 then 3 else if n≤16 then 4 else 0
def tO (w:Int):Int×Bool:=if 1≤w∧w≤4 then (w,false) else if 9≤w∧w≤12 then (w-8,true) else (0,false)
def ir (c:Int):Int:=iF (0+c)
def si (s:fR)(c b:Int):fR×Int×Int :=
 if 2147483648≤b then (s,0,2)
 else if (cr s (iF b)).2.2=0 then
  (if (gU (cr s (iF b)).1 [⟨ir c,(cr s (iF b)).2.1⟩,⟨iF (iF b-1),wU (iF (c+8))⟩]).2=0 then ((gU (cr s (iF b)).1 [⟨ir c,(cr s (iF b)).2.1⟩,⟨iF (iF b-1),wU (iF (c+8))⟩]).1,iF b,0)
   else ((gU (cr s (iF b)).1 [⟨ir c,(cr s (iF b)).2.1⟩,⟨iF (iF b-1),wU (iF (c+8))⟩]).1,0,(gU (cr s (iF b)).1 [⟨ir c,(cr s (iF b)).2.1⟩,⟨iF (iF b-1),wU (iF (c+8))⟩]).2))
 else ((cr s (iF b)).1,0,(cr s (iF b)).2.2)
def w6 (w c:Int):List au:=[⟨5,wU (iF (iF (iF w+1)+yG c))⟩,⟨iF w,wU (iF (c+8))⟩]
def rY (s:fR)(c:Int):fR×Int×Int :=
 if (cr s 5).2.2=0 then
  (if (cr s 5).2.1<14∨2147483648≤(cr s 5).2.1∨((cr s 5).1.size:Int)<iF (iF (iF (cr s 5).2.1+1)+yG c) then ((cr s 5).1,0,4)
   else if (gU (cr s 5).1 (w6 (cr s 5).2.1 c)).2=0 then ((gU (cr s 5).1 (w6 (cr s 5).2.1 c)).1,iF (iF (cr s 5).2.1+1),0)
   else ((gU (cr s 5).1 (w6 (cr s 5).2.1 c)).1,0,(gU (cr s 5).1 (w6 (cr s 5).2.1 c)).2))
 else ((cr s 5).1,0,(cr s 5).2.2)
def jE (s:fR)(n:Int):fR×Int×Int :=
 if kQ n=0 then (s,0,3)
 else if (cr s (ir (kQ n))).2.2=0 then
  (if (cr s (ir (kQ n))).2.1=0 then rY (cr s (ir (kQ n))).1 (kQ n) else si (cr s (ir (kQ n))).1 (kQ n) (cr s (ir (kQ n))).2.1)
 else ((cr s (ir (kQ n))).1,0,(cr s (ir (kQ n))).2.2)
def i0 (s:fR)(b:Int):fR×Int×Bool×Int :=
 if b≤14∨(s.size:Int)≤b then (s,0,false,2)
 else if (cr s (iF (b-1))).2.2=0 then
  (if (tO (cr s (iF (b-1))).2.1).1=0 then ((cr s (iF (b-1))).1,0,false,2) else ((cr s (iF (b-1))).1,(tO (cr s (iF (b-1))).2.1).1,(tO (cr s (iF (b-1))).2.1).2,0))
 else ((cr s (iF (b-1))).1,0,false,(cr s (iF (b-1))).2.2)
def DX (q:fR×Int×Bool×Int)(b:Int):fR×Int :=
 if q.2.2.2=0 then
  (if q.2.2.1=true then
   (if (gU q.1 [⟨iF (b-1),wU q.2.1⟩]).2=0 then ((gU q.1 [⟨iF (b-1),wU q.2.1⟩]).1.log ((gU q.1 [⟨iF (b-1),wU q.2.1⟩]).1.l.free b),0) else gU q.1 [⟨iF (b-1),wU q.2.1⟩])
   else (q.1,2))
 else (q.1,q.2.2.2)
def zt (s:fR)(b:Int):fR×Int:=DX (i0 s b) b
def DT (q:fR×Int×Bool×Int)(b:Int):fR×Int :=
 if q.2.2.2=0 then
  (if q.2.2.1=true then (q.1,2)
   else if (cr q.1 (ir q.2.1)).2.2=0 then gU (cr q.1 (ir q.2.1)).1 [⟨b,(cr q.1 (ir q.2.1)).2.1⟩,⟨ir q.2.1,wU b⟩] else ((cr q.1 (ir q.2.1)).1,(cr q.1 (ir q.2.1)).2.2))
 else (q.1,q.2.2.2)
def pB (s:fR)(b:Int):fR×Int:=DT (i0 s b) b
section
variable {w0:bh}{L M:List ay}{K:KV}{F:World→Prop}{C:ay→List ay}{b:Nat}{s:fR}{n c w:Int}
theorem jP (hK:G w0 L (K (i64 (yG c)))):G w0 L (CP Tryz.prog VR [i64 c] K):=by
 refine Ik ?_
 unfold Ap
 unfold yG at hK
 refine gu ?_
 by_cases h1:c<1
 ·rw [if_pos h1] at hK
  refine eY h1 ?_
  exact hK
 rw [if_neg h1] at hK
 by_cases h2:4<c
 ·rw [if_pos h2] at hK
  refine eY (an h1 h2) ?_
  exact hK
 rw [if_neg h2] at hK
 have nn:bl c:=⟨by omega⟩
 refine eY (an h1 h2) ?_
 exact hK
theorem R5:yG 1=2:=by decide
theorem Sc:yG 2=4:=by decide
theorem RZ:yG 3=8:=by decide
theorem Rv:yG 4=16:=by decide
theorem Ge (hK:G w0 L (K (i64 (kQ n)))):G w0 L (CP Tryz.prog YN [i64 n] K):=by
 refine Gy ?_
 unfold yL
 unfold kQ at hK
 by_cases h1:n<1
 ·rw [if_pos h1] at hK
  refine eY h1 ?_
  exact hK
 rw [if_neg h1] at hK
 refine eY h1 ?_
 refine G.loopc1 (fun k:Nat=>i64 k) (fun k=>(k=1)∨(k=2∧¬n≤2)∨(k=3∧¬n≤4)∨(k=4∧¬n≤8)∨(k=5∧¬n≤16)) (fun k=>5-k) 1 rfl (.inl rfl) ?_
 intro k hk J hJ
 rcases hk with rfl | ⟨rfl,h⟩ | ⟨rfl,h⟩ | ⟨rfl,h⟩ | ⟨rfl,h⟩
 ·have e:((1:Nat):Int)=1:=rfl
  rw [e]
  refine gr ?_
  refine jP ?_
  rw [R5]
  refine gr ?_
  refine G.cond (fun g=>?_) (fun g=>?_)
  ·rw [if_pos (by simpa using g)] at hK;exact hK
  ·refine gr ?_
   exact hJ 2 (.inr (.inl ⟨rfl,by simpa using g⟩)) (by omega)
 ·have e:((2:Nat):Int)=2:=rfl
  rw [e]
  rw [if_neg h] at hK
  refine gr ?_
  refine jP ?_
  rw [Sc]
  refine gr ?_
  refine G.cond (fun g=>?_) (fun g=>?_)
  ·rw [if_pos (by simpa using g)] at hK;exact hK
  ·refine gr ?_
   exact hJ 3 (.inr (.inr (.inl ⟨rfl,by simpa using g⟩))) (by omega)
 ·have e:((3:Nat):Int)=3:=rfl
  rw [e]
  rw [if_neg (by omega),if_neg h] at hK
  refine gr ?_
  refine jP ?_
  rw [RZ]
  refine gr ?_
  refine G.cond (fun g=>?_) (fun g=>?_)
  ·rw [if_pos (by simpa using g)] at hK;exact hK
  ·refine gr ?_
   exact hJ 4 (.inr (.inr (.inr (.inl ⟨rfl,by simpa using g⟩)))) (by omega)
 ·have e:((4:Nat):Int)=4:=rfl
  rw [e]
  rw [if_neg (by omega),if_neg (by omega),if_neg h] at hK
  refine gr ?_
  refine jP ?_
  rw [Rv]
  refine gr ?_
  refine G.cond (fun g=>?_) (fun g=>?_)
  ·rw [if_pos (by simpa using g)] at hK;exact hK
  ·refine gr ?_
   exact hJ 5 (.inr (.inr (.inr (.inr ⟨rfl,by simpa using g⟩)))) (by omega)
 ·have e:((5:Nat):Int)=5:=rfl
  rw [e]
  rw [if_neg (by omega),if_neg (by omega),if_neg (by omega),if_neg h] at hK
  refine gr ?_
  exact hK
theorem p8 (hK:G w0 L (K (i64 (ir c)))):G w0 L (CP Tryz.prog Vo [i64 c] K):=by
 refine I4 ?_
 unfold BT
 refine gr ?_
 exact hK
theorem Fh (hK:G w0 L (K (.tuple #[i64 (tO w).1,.bool (tO w).2]))):G w0 L (CP Tryz.prog YD [u64 w] K):=by
 refine Ew ?_
 unfold wh
 unfold tO at hK
 refine gu ?_
 by_cases h1:1≤w∧w≤4
 ·rw [if_pos h1] at hK
  have e:IntKind.wrap .i64 w=w:=iy (by omega) (by omega)
  refine eY (an h1.1 (an h1.2 e)) ?_
  exact hK
 rw [if_neg h1] at hK
 by_cases h2:9≤w∧w≤12
 ·rw [if_pos h2] at hK
  have e:IntKind.wrap .i64 (IntKind.wrap .u64 (w-8))=w-8:=by rw [PM (n:=w-8) (by omega) (by omega),iy (by omega) (by omega)]
  have g1:¬w≤4:=by omega
  refine eY (an g1 (an h2.1 (an h2.2 e))) ?_
  exact hK
 rw [if_neg h2] at hK
 have g1:(decide (1≤w) && decide (w≤4))=false:=by simp;omega
 have g2:(decide (9≤w) && decide (w≤12))=false:=by simp;omega
 refine eY (an g1 g2) ?_
 exact hK
theorem UN {L:List ay}{a1 x1 a2 x2:Int}{K:KV}(hK:∀v,ar v [v]→G w0 (sl bf v [⟨a1,x1⟩,⟨a2,x2⟩]::L) (K v)) :
  G w0 L (ak [.int .i64 0,.int .u64 0] 2 [(0,2,.agg #[i64 a1,u64 x1]),(2,2,.agg #[i64 a2,u64 x2])] K):=by
 refine G.build bf [⟨a1,x1⟩,⟨a2,x2⟩] rfl (by simp) rfl fun v hv=>hK v hv
theorem UX {L:List ay}{a1 x1:Int}{K:KV}(hK:∀v,ar v [v]→G w0 (sl bf v [⟨a1,x1⟩]::L) (K v)) :
  G w0 L (ak [.int .i64 0,.int .u64 0] 1 [(0,2,.agg #[i64 a1,u64 x1])] K):=by
 refine G.build bf [⟨a1,x1⟩] rfl (by simp) rfl fun v hv=>hK v hv
theorem GU {bb:Int}[i:aq L br b s C](hK:G w0 (C (ob br b (si s c bb).1)) (K (.tuple #[i64 (si s c bb).2.1,i64 (si s c bb).2.2]))):G w0 L (CP Tryz.prog YO [ptr b 0,i64 c,u64 bb] K):=by
 refine i.use (fun M hK=>?_) hK
 refine GK ?_
 unfold zf
 unfold si at hK
 by_cases h1:2147483648≤bb
 ·rw [if_pos h1] at hK
  refine eY h1 ?_
  exact hK
 rw [if_neg h1] at hK
 refine eY h1 ?_
 refine lu (b:=b) (s:=s) ?_
 generalize cr s (iF bb)=r at hK ⊢
 obtain⟨s1,x,e⟩:=r
 simp only at hK ⊢
 refine gr ?_
 refine G.joini1 ?_
 by_cases h2:e=0
 ·rw [if_pos h2] at hK
  refine eY (eq_true h2) ?_
  refine p8 ?_
  refine gr ?_
  refine UN fun v hv=>?_
  refine rR (b:=b) (s:=s1) (l:=[⟨ir c,x⟩,⟨iF (iF bb-1),wU (iF (c+8))⟩]) (by simp) ?_
  generalize gU s1 [⟨ir c,x⟩,⟨iF (iF bb-1),wU (iF (c+8))⟩]=t at hK ⊢
  obtain⟨s2,e2⟩:=t
  simp only at hK ⊢
  by_cases h3:e2=0
  ·rw [if_pos h3] at hK
   refine eY (eq_true h3) ?_
   exact hK.sub
  ·rw [if_neg h3] at hK
   refine eY h3 ?_
   exact hK.sub
 ·rw [if_neg h2] at hK
  refine eY h2 ?_
  exact hK
theorem GX [i:aq L br b s C](hK:G w0 (C (ob br b (rY s c).1)) (K (.tuple #[i64 (rY s c).2.1,i64 (rY s c).2.2]))):G w0 L (CP Tryz.prog YP [ptr b 0,i64 c] K):=by
 refine i.use (fun M hK=>?_) hK
 refine GW ?_
 unfold yK
 unfold rY at hK
 refine gu ?_
 refine lu (b:=b) (s:=s) (a:=5) ?_
 generalize cr s 5=r at hK ⊢
 obtain⟨s1,x,e⟩:=r
 simp only at hK ⊢
 refine gr ?_
 by_cases h2:e=0
 ·rw [if_pos h2] at hK
  have bad:(x<14∨2147483648≤x∨(s1.size:Int)<iF (iF (iF x+1)+yG c))→G w0 (ob br b s1::M) (K (.tuple #[i64 0,i64 4])):=fun h=>by rw [if_pos h] at hK;exact hK
  by_cases g1:x<14
  ·refine eY (an (eq_true h2) g1) ?_
   exact bad (.inl g1)
  by_cases g2:2147483648≤x
  ·refine eY (an (eq_true h2) (an g1 g2)) ?_
   exact bad (.inr (.inl g2))
  refine eY (an (eq_true h2) (an g1 g2)) ?_
  refine jP ?_
  refine gr ?_
  refine Da (b:=b) (s:=s1) ?_
  refine gr ?_
  refine G.cond (fun g=>?_) (fun g=>?_)
  ·exact bad (.inr (.inr (by simpa using g)))
  rw [if_neg (show ¬(x<14∨2147483648≤x∨(s1.size:Int)<IntKind.wrap .i64 (IntKind.wrap .i64 (IntKind.wrap .i64 x+1)+yG c)) by simp at g;omega)] at hK
  refine gr ?_
  refine jP ?_
  refine gr ?_
  refine UN fun v hv=>?_
  refine rR (b:=b) (s:=s1) (l:=w6 x c) (by simp [w6]) ?_
  generalize gU s1 (w6 x c)=t at hK ⊢
  obtain⟨s2,e2⟩:=t
  simp only at hK ⊢
  by_cases h3:e2=0
  ·rw [if_pos h3] at hK
   refine eY (eq_true h3) ?_
   exact hK.sub
  ·rw [if_neg h3] at hK
   refine eY h3 ?_
   exact hK.sub
 ·rw [if_neg h2] at hK
  refine eY h2 ?_
  exact hK
theorem GY [i:aq L br b s C](hK:G w0 (C (ob br b (jE s n).1)) (K (.tuple #[i64 (jE s n).2.1,i64 (jE s n).2.2]))):G w0 L (CP Tryz.prog YK [ptr b 0,i64 n] K):=by
 refine i.use (fun M hK=>?_) hK
 refine GO ?_
 unfold zl
 unfold jE at hK
 refine Ge ?_
 generalize kQ n=c at hK ⊢
 by_cases h1:c=0
 ·rw [if_pos h1] at hK
  refine eY (eq_true h1) ?_
  exact hK
 rw [if_neg h1] at hK
 refine eY h1 ?_
 refine p8 ?_
 refine lu (b:=b) (s:=s) ?_
 generalize cr s (ir c)=r at hK ⊢
 obtain⟨s1,x,e⟩:=r
 simp only at hK ⊢
 refine gr ?_
 by_cases h2:e=0
 ·rw [if_pos h2] at hK
  by_cases h3:x=0
  ·rw [if_pos h3] at hK
   refine eY (an (eq_true h2) (eq_true h3)) ?_
   refine GX (b:=b) (s:=s1) ?_
   refine gr ?_
   exact hK
  ·rw [if_neg h3] at hK
   refine eY (an (eq_true h2) h3) ?_
   refine GU (b:=b) (s:=s1) ?_
   refine gr ?_
   exact hK
 ·rw [if_neg h2] at hK
  refine eY h2 ?_
  exact hK
theorem zq {n:Int}[i:aq L br b s C](hK:G w0 (C (ob br b (i0 s n).1)) (K (.tuple #[i64 (i0 s n).2.1,.bool (i0 s n).2.2.1,i64 (i0 s n).2.2.2]))):G w0 L (CP Tryz.prog WA [ptr b 0,i64 n] K):=by
 refine i.use (fun M hK=>?_) hK
 refine GF ?_
 unfold zc
 unfold i0 at hK
 refine gu ?_
 by_cases g1:n≤14
 ·rw [if_pos (.inl g1)] at hK
  refine eY g1 ?_
  exact hK
 refine eY g1 ?_
 refine Da (b:=b) (s:=s) ?_
 refine gr ?_
 refine G.cond (fun g=>?_) (fun g=>?_)
 ·rw [if_pos (.inr (by simpa using g))] at hK
  exact hK
 rw [if_neg (by simp at g;omega)] at hK
 refine gr ?_
 refine lu (b:=b) (s:=s) ?_
 generalize cr s (iF (n-1))=r at hK ⊢
 obtain⟨s1,x,e⟩:=r
 simp only at hK ⊢
 refine gr ?_
 by_cases h2:e=0
 ·rw [if_pos h2] at hK
  refine eY (eq_true h2) ?_
  refine Fh ?_
  refine gr ?_
  by_cases h3:(tO x).1=0
  ·rw [if_pos h3] at hK
   refine eY (eq_true h3) ?_
   exact hK
  ·rw [if_neg h3] at hK
   refine eY h3 ?_
   exact hK
 ·rw [if_neg h2] at hK
  refine eY h2 ?_
  exact hK
theorem II {n:Int}[i:aq L br b s C](hf:s.l.r.f.length≤1000)(hff:∀l,(gU (i0 s n).1 l).1.l.r.f.length≤1000000)(hK:G w0 (C (ob br b (zt s n).1)) (K (i64 (zt s n).2))):G w0 L (CP Tryz.prog YL [ptr b 0,i64 n] K):=by
 refine i.use (fun M hK=>?_) hK
 refine Ih ?_
 unfold Bm
 unfold zt DX at hK
 refine gu ?_
 refine zq (b:=b) (s:=s) ?_
 generalize i0 s n=q at hK hff ⊢
 obtain⟨s1,c,lv,e⟩:=q
 simp only at hK hff ⊢
 refine gr ?_
 refine G.joini1 ?_
 by_cases h1:e=0
 ·rw [if_pos h1] at hK
  cases lv
  ·rw [if_neg (by decide)] at hK
   repeat' (first | (with_reducible refine G.joini0 ?_) | (with_reducible refine G.joini1 ?_) | (with_reducible refine G.drew ?_) | (simp (maxSteps:=2000000) only [↓RG,RP,RB,BEq.rfl,Int.reduceEq,Int.reduceLT,Int.reduceLE,Nat.reduceEqDiff,eq_true h1]))
   exact hK
  ·rw [if_pos rfl] at hK
   repeat' (first | (with_reducible refine G.joini0 ?_) | (with_reducible refine G.joini1 ?_) | (with_reducible refine G.drew ?_) | (simp (maxSteps:=2000000) only [↓RG,RP,RB,BEq.rfl,Int.reduceEq,Int.reduceLT,Int.reduceLE,Nat.reduceEqDiff,eq_true h1]))
   refine UX fun v hv=>?_
   refine rR (b:=b) (s:=s1) (l:=[⟨iF (n-1),wU c⟩]) (by simp) ?_
   have hf2:=hff [⟨iF (n-1),wU c⟩]
   generalize gU s1 [⟨iF (n-1),wU c⟩]=t at hK hf2 ⊢
   obtain⟨s2,e2⟩:=t
   simp only at hK hf2 ⊢
   by_cases h3:e2=0
   ·rw [if_pos h3] at hK
    subst h3
    refine gg ?_
    refine JW (b:=b) (s:=s2) hf2 ?_
    exact hK.sub
   ·rw [if_neg h3] at hK
    refine gf h3 ?_
    exact hK.sub
 ·rw [if_neg h1] at hK
  repeat' (first | (with_reducible refine G.joini0 ?_) | (with_reducible refine G.joini1 ?_) | (with_reducible refine G.drew ?_) | (simp (maxSteps:=2000000) only [↓RG,RP,RB,BEq.rfl,Int.reduceEq,Int.reduceLT,Int.reduceLE,Nat.reduceEqDiff,h1]))
  exact hK
theorem IW {n:Int}[i:aq L br b s C](hK:G w0 (C (ob br b (pB s n).1)) (K (i64 (pB s n).2))):G w0 L (CP Tryz.prog Yi [ptr b 0,i64 n] K):=by
 refine i.use (fun M hK=>?_) hK
 refine Jc ?_
 unfold Bz
 unfold pB DT at hK
 refine gu ?_
 refine zq (b:=b) (s:=s) ?_
 generalize i0 s n=q at hK ⊢
 obtain⟨s1,c,lv,e⟩:=q
 simp only at hK ⊢
 refine gr ?_
 refine G.joini1 ?_
 by_cases h1:e=0
 ·rw [if_pos h1] at hK
  cases lv
  ·rw [if_neg (by decide)] at hK
   refine gf (eq_true h1) ?_
   refine p8 ?_
   refine lu (b:=b) (s:=s1) ?_
   generalize cr s1 (ir c)=r at hK ⊢
   obtain⟨s2,x,e2⟩:=r
   simp only at hK ⊢
   by_cases h2:e2=0
   ·rw [if_pos h2] at hK
    refine gf (eq_true h2) ?_
    refine p8 ?_
    refine gg ?_
    refine UN fun v hv=>?_
    refine rR (b:=b) (s:=s2) (l:=[⟨n,x⟩,⟨ir c,wU n⟩]) (by simp) ?_
    exact hK.sub
   ·rw [if_neg h2] at hK
    refine gf h2 ?_
    exact hK
  ·rw [if_pos rfl] at hK
   refine gf (eq_true h1) ?_
   exact hK
 ·rw [if_neg h1] at hK
  refine gf h1 ?_
  exact hK
end
end Go.Proofs.YtoealglbimbbmaaGreatDoor.S
