import Derived.Test.YtoealglbimbbmaaGreatDoorView
namespace Go.Proofs.YtoealglbimbbmaaGreatDoor.S
open Go Go.Proofs
set_option linter.unusedVariables false
set_option linter.unusedSimpArgs false
abbrev iE (n:Int):Int:=IntKind.wrap .i64 n
abbrev wU (n:Int):Int:=IntKind.wrap .u64 n
def zo (c:Int):Int:=if c<1 then 0 else if 4<c then 0 else iE (1*2 ^ min c.toNat 64)
def kS (n:Int):Int:=if n<1 then 0 else if n≤2 then 1 else if n≤4 then 2 else if n≤8 then 3 else if n≤16 then 4 else 0
def tM (w:Int):Int×Bool:=if 1≤w∧w≤4 then (w,false) else if 9≤w∧w≤12 then (w-8,true) else (0,false)
def iw (c:Int):Int:=iE (0+c)
def rQ (s:fT)(c b:Int):fT×Int×Int :=
 if 2147483648≤b then (s,0,2)
 else if (cr s (iE b)).2.2=0 then
  (if (gT (cr s (iE b)).1 [⟨iw c,(cr s (iE b)).2.1⟩,⟨iE (iE b-1),wU (iE (c+8))⟩]).2=0 then ((gT (cr s (iE b)).1 [⟨iw c,(cr s (iE b)).2.1⟩,⟨iE (iE b-1),wU (iE (c+8))⟩]).1,iE b,0)
   else ((gT (cr s (iE b)).1 [⟨iw c,(cr s (iE b)).2.1⟩,⟨iE (iE b-1),wU (iE (c+8))⟩]).1,0,(gT (cr s (iE b)).1 [⟨iw c,(cr s (iE b)).2.1⟩,⟨iE (iE b-1),wU (iE (c+8))⟩]).2))
 else ((cr s (iE b)).1,0,(cr s (iE b)).2.2)
def vV (w c:Int):List au:=[⟨5,wU (iE (iE (iE w+1)+zo c))⟩,⟨iE w,wU (iE (c+8))⟩]
def sa (s:fT)(c:Int):fT×Int×Int :=
 if (cr s 5).2.2=0 then
  (if (cr s 5).2.1<14∨2147483648≤(cr s 5).2.1∨((cr s 5).1.size:Int)<iE (iE (iE (cr s 5).2.1+1)+zo c) then ((cr s 5).1,0,4)
   else if (gT (cr s 5).1 (vV (cr s 5).2.1 c)).2=0 then ((gT (cr s 5).1 (vV (cr s 5).2.1 c)).1,iE (iE (cr s 5).2.1+1),0)
   else ((gT (cr s 5).1 (vV (cr s 5).2.1 c)).1,0,(gT (cr s 5).1 (vV (cr s 5).2.1 c)).2))
 else ((cr s 5).1,0,(cr s 5).2.2)
def jD (s:fT)(n:Int):fT×Int×Int :=
 if kS n=0 then (s,0,3)
 else if (cr s (iw (kS n))).2.2=0 then
  (if (cr s (iw (kS n))).2.1=0 then sa (cr s (iw (kS n))).1 (kS n) else rQ (cr s (iw (kS n))).1 (kS n) (cr s (iw (kS n))).2.1)
 else ((cr s (iw (kS n))).1,0,(cr s (iw (kS n))).2.2)
def iT (s:fT)(b:Int):fT×Int×Bool×Int :=
 if b≤14∨(s.size:Int)≤b then (s,0,false,2)
 else if (cr s (iE (b-1))).2.2=0 then
  (if (tM (cr s (iE (b-1))).2.1).1=0 then ((cr s (iE (b-1))).1,0,false,2) else ((cr s (iE (b-1))).1,(tM (cr s (iE (b-1))).2.1).1,(tM (cr s (iE (b-1))).2.1).2,0))
 else ((cr s (iE (b-1))).1,0,false,(cr s (iE (b-1))).2.2)
def DR (q:fT×Int×Bool×Int)(b:Int):fT×Int :=
 if q.2.2.2=0 then
  (if q.2.2.1=true then
   (if (gT q.1 [⟨iE (b-1),wU q.2.1⟩]).2=0 then ((gT q.1 [⟨iE (b-1),wU q.2.1⟩]).1.log ((gT q.1 [⟨iE (b-1),wU q.2.1⟩]).1.l.free b),0) else gT q.1 [⟨iE (b-1),wU q.2.1⟩])
   else (q.1,2))
 else (q.1,q.2.2.2)
def zj (s:fT)(b:Int):fT×Int:=DR (iT s b) b
def D0 (q:fT×Int×Bool×Int)(b:Int):fT×Int :=
 if q.2.2.2=0 then
  (if q.2.2.1=true then (q.1,2)
   else if (cr q.1 (iw q.2.1)).2.2=0 then gT (cr q.1 (iw q.2.1)).1 [⟨b,(cr q.1 (iw q.2.1)).2.1⟩,⟨iw q.2.1,wU b⟩] else ((cr q.1 (iw q.2.1)).1,(cr q.1 (iw q.2.1)).2.2))
 else (q.1,q.2.2.2)
def pG (s:fT)(b:Int):fT×Int:=D0 (iT s b) b
section
variable {w0:bh}{L M:List ay}{K:KV}{F:World→Prop}{C:ay→List ay}{b:Nat}{s:fT}{n c w:Int}
theorem jP (hK:G w0 L (K (i64 (zo c)))):G w0 L (CP Tryz.prog Fn.arena_Size [i64 c] K):=by
 refine Il ?_
 unfold BF
 unfold zo at hK
 refine gu ?_
 by_cases h1:c<1
 ·rw [if_pos h1] at hK
  refine eY h1 ?_
  exact hK
 rw [if_neg h1] at hK
 by_cases h2:4<c
 ·rw [if_pos h2] at hK
  refine eY (an h1 h2) ?_
  exact hK
 rw [if_neg h2] at hK
 have nn:bl c:=⟨by omega⟩
 refine eY (an h1 h2) ?_
 exact hK
theorem Rw:zo 1=2:=by decide
theorem R3:zo 2=4:=by decide
theorem Q0:zo 3=8:=by decide
theorem Q6:zo 4=16:=by decide
theorem F9 (hK:G w0 L (K (i64 (kS n)))):G w0 L (CP Tryz.prog Fn.arena_Class [i64 n] K):=by
 refine Ge ?_
 unfold zc
 unfold kS at hK
 by_cases h1:n<1
 ·rw [if_pos h1] at hK
  refine eY h1 ?_
  exact hK
 rw [if_neg h1] at hK
 refine eY h1 ?_
 refine G.loopc1 (fun k:Nat=>i64 k) (fun k=>(k=1)∨(k=2∧¬n≤2)∨(k=3∧¬n≤4)∨(k=4∧¬n≤8)∨(k=5∧¬n≤16)) (fun k=>5-k) 1 rfl (.inl rfl) ?_
 intro k hk J hJ
 rcases hk with rfl | ⟨rfl,h⟩ | ⟨rfl,h⟩ | ⟨rfl,h⟩ | ⟨rfl,h⟩
 ·have e:((1:Nat):Int)=1:=rfl
  rw [e]
  refine gr ?_
  refine jP ?_
  rw [Rw]
  refine gr ?_
  refine G.cond (fun g=>?_) (fun g=>?_)
  ·rw [if_pos (by simpa using g)] at hK;exact hK
  ·refine gr ?_
   exact hJ 2 (.inr (.inl ⟨rfl,by simpa using g⟩)) (by omega)
 ·have e:((2:Nat):Int)=2:=rfl
  rw [e]
  rw [if_neg h] at hK
  refine gr ?_
  refine jP ?_
  rw [R3]
  refine gr ?_
  refine G.cond (fun g=>?_) (fun g=>?_)
  ·rw [if_pos (by simpa using g)] at hK;exact hK
  ·refine gr ?_
   exact hJ 3 (.inr (.inr (.inl ⟨rfl,by simpa using g⟩))) (by omega)
 ·have e:((3:Nat):Int)=3:=rfl
  rw [e]
  rw [if_neg (by omega),if_neg h] at hK
  refine gr ?_
  refine jP ?_
  rw [Q0]
  refine gr ?_
  refine G.cond (fun g=>?_) (fun g=>?_)
  ·rw [if_pos (by simpa using g)] at hK;exact hK
  ·refine gr ?_
   exact hJ 4 (.inr (.inr (.inr (.inl ⟨rfl,by simpa using g⟩)))) (by omega)
 ·have e:((4:Nat):Int)=4:=rfl
  rw [e]
  rw [if_neg (by omega),if_neg (by omega),if_neg h] at hK
  refine gr ?_
  refine jP ?_
  rw [Q6]
  refine gr ?_
  refine G.cond (fun g=>?_) (fun g=>?_)
  ·rw [if_pos (by simpa using g)] at hK;exact hK
  ·refine gr ?_
   exact hJ 5 (.inr (.inr (.inr (.inr ⟨rfl,by simpa using g⟩)))) (by omega)
 ·have e:((5:Nat):Int)=5:=rfl
  rw [e]
  rw [if_neg (by omega),if_neg (by omega),if_neg (by omega),if_neg h] at hK
  refine gr ?_
  exact hK
theorem pQ (hK:G w0 L (K (i64 (iw c)))):G w0 L (CP Tryz.prog Fn.arena_head [i64 c] K):=by
 refine Ij ?_
 unfold Bl
 refine gr ?_
 exact hK
theorem Ek (hK:G w0 L (K (.tuple #[i64 (tM w).1,.bool (tM w).2]))):G w0 L (CP Tryz.prog Fn.arena_header [u64 w] K):=by
 refine Fp ?_
 unfold w3
 unfold tM at hK
 refine gu ?_
 by_cases h1:1≤w∧w≤4
 ·rw [if_pos h1] at hK
  have e:IntKind.wrap .i64 w=w:=iA (by omega) (by omega)
  refine eY (an h1.1 (an h1.2 e)) ?_
  exact hK
 rw [if_neg h1] at hK
 by_cases h2:9≤w∧w≤12
 ·rw [if_pos h2] at hK
  have e:IntKind.wrap .i64 (IntKind.wrap .u64 (w-8))=w-8:=by rw [Qt (n:=w-8) (by omega) (by omega),iA (by omega) (by omega)]
  have g1:¬w≤4:=by omega
  refine eY (an g1 (an h2.1 (an h2.2 e))) ?_
  exact hK
 rw [if_neg h2] at hK
 have g1:(decide (1≤w) && decide (w≤4))=false:=by simp;omega
 have g2:(decide (9≤w) && decide (w≤12))=false:=by simp;omega
 refine eY (an g1 g2) ?_
 exact hK
theorem UB {L:List ay}{a1 x1 a2 x2:Int}{K:KV}(hK:∀v,ar v [v]→G w0 (sl bf v [⟨a1,x1⟩,⟨a2,x2⟩]::L) (K v)) :
  G w0 L (ak [.int .i64 0,.int .u64 0] 2 [(0,2,.agg #[i64 a1,u64 x1]),(2,2,.agg #[i64 a2,u64 x2])] K):=by
 refine G.build bf [⟨a1,x1⟩,⟨a2,x2⟩] rfl (by simp) rfl fun v hv=>hK v hv
theorem UI {L:List ay}{a1 x1:Int}{K:KV}(hK:∀v,ar v [v]→G w0 (sl bf v [⟨a1,x1⟩]::L) (K v)) :
  G w0 L (ak [.int .i64 0,.int .u64 0] 1 [(0,2,.agg #[i64 a1,u64 x1])] K):=by
 refine G.build bf [⟨a1,x1⟩] rfl (by simp) rfl fun v hv=>hK v hv
theorem GM {bb:Int}[i:aq L br b s C](hK:G w0 (C (ob br b (rQ s c bb).1)) (K (.tuple #[i64 (rQ s c bb).2.1,i64 (rQ s c bb).2.2]))):G w0 L (CP Tryz.prog Fn.arena_again [ptr b 0,i64 c,u64 bb] K):=by
 refine i.use (fun M hK=>?_) hK
 refine Gg ?_
 unfold yQ
 unfold rQ at hK
 by_cases h1:2147483648≤bb
 ·rw [if_pos h1] at hK
  refine eY h1 ?_
  exact hK
 rw [if_neg h1] at hK
 refine eY h1 ?_
 refine kZ (b:=b) (s:=s) ?_
 generalize cr s (iE bb)=r at hK ⊢
 obtain⟨s1,x,e⟩:=r
 simp only at hK ⊢
 refine gr ?_
 refine G.joini1 ?_
 by_cases h2:e=0
 ·rw [if_pos h2] at hK
  refine eY (eq_true h2) ?_
  refine pQ ?_
  refine gr ?_
  refine UB fun v hv=>?_
  refine rG (b:=b) (s:=s1) (l:=[⟨iw c,x⟩,⟨iE (iE bb-1),wU (iE (c+8))⟩]) (by simp) ?_
  generalize gT s1 [⟨iw c,x⟩,⟨iE (iE bb-1),wU (iE (c+8))⟩]=t at hK ⊢
  obtain⟨s2,e2⟩:=t
  simp only at hK ⊢
  by_cases h3:e2=0
  ·rw [if_pos h3] at hK
   refine eY (eq_true h3) ?_
   exact hK.sub
  ·rw [if_neg h3] at hK
   refine eY h3 ?_
   exact hK.sub
 ·rw [if_neg h2] at hK
  refine eY h2 ?_
  exact hK
theorem GL [i:aq L br b s C](hK:G w0 (C (ob br b (sa s c).1)) (K (.tuple #[i64 (sa s c).2.1,i64 (sa s c).2.2]))):G w0 L (CP Tryz.prog Fn.arena_grown [ptr b 0,i64 c] K):=by
 refine i.use (fun M hK=>?_) hK
 refine GY ?_
 unfold yH
 unfold sa at hK
 refine gu ?_
 refine kZ (b:=b) (s:=s) (a:=5) ?_
 generalize cr s 5=r at hK ⊢
 obtain⟨s1,x,e⟩:=r
 simp only at hK ⊢
 refine gr ?_
 by_cases h2:e=0
 ·rw [if_pos h2] at hK
  have bad:(x<14∨2147483648≤x∨(s1.size:Int)<iE (iE (iE x+1)+zo c))→G w0 (ob br b s1::M) (K (.tuple #[i64 0,i64 4])):=fun h=>by rw [if_pos h] at hK;exact hK
  by_cases g1:x<14
  ·refine eY (an (eq_true h2) g1) ?_
   exact bad (.inl g1)
  by_cases g2:2147483648≤x
  ·refine eY (an (eq_true h2) (an g1 g2)) ?_
   exact bad (.inr (.inl g2))
  refine eY (an (eq_true h2) (an g1 g2)) ?_
  refine jP ?_
  refine gr ?_
  refine CX (b:=b) (s:=s1) ?_
  refine gr ?_
  refine G.cond (fun g=>?_) (fun g=>?_)
  ·exact bad (.inr (.inr (by simpa using g)))
  rw [if_neg (show ¬(x<14∨2147483648≤x∨(s1.size:Int)<IntKind.wrap .i64 (IntKind.wrap .i64 (IntKind.wrap .i64 x+1)+zo c)) by simp at g;omega)] at hK
  refine gr ?_
  refine jP ?_
  refine gr ?_
  refine UB fun v hv=>?_
  refine rG (b:=b) (s:=s1) (l:=vV x c) (by simp [vV]) ?_
  generalize gT s1 (vV x c)=t at hK ⊢
  obtain⟨s2,e2⟩:=t
  simp only at hK ⊢
  by_cases h3:e2=0
  ·rw [if_pos h3] at hK
   refine eY (eq_true h3) ?_
   exact hK.sub
  ·rw [if_neg h3] at hK
   refine eY h3 ?_
   exact hK.sub
 ·rw [if_neg h2] at hK
  refine eY h2 ?_
  exact hK
theorem GP [i:aq L br b s C](hK:G w0 (C (ob br b (jD s n).1)) (K (.tuple #[i64 (jD s n).2.1,i64 (jD s n).2.2]))):G w0 L (CP Tryz.prog Fn.arena_Alloc [ptr b 0,i64 n] K):=by
 refine i.use (fun M hK=>?_) hK
 refine GU ?_
 unfold ze
 unfold jD at hK
 refine F9 ?_
 generalize kS n=c at hK ⊢
 by_cases h1:c=0
 ·rw [if_pos h1] at hK
  refine eY (eq_true h1) ?_
  exact hK
 rw [if_neg h1] at hK
 refine eY h1 ?_
 refine pQ ?_
 refine kZ (b:=b) (s:=s) ?_
 generalize cr s (iw c)=r at hK ⊢
 obtain⟨s1,x,e⟩:=r
 simp only at hK ⊢
 refine gr ?_
 by_cases h2:e=0
 ·rw [if_pos h2] at hK
  by_cases h3:x=0
  ·rw [if_pos h3] at hK
   refine eY (an (eq_true h2) (eq_true h3)) ?_
   refine GL (b:=b) (s:=s1) ?_
   refine gr ?_
   exact hK
  ·rw [if_neg h3] at hK
   refine eY (an (eq_true h2) h3) ?_
   refine GM (b:=b) (s:=s1) ?_
   refine gr ?_
   exact hK
 ·rw [if_neg h2] at hK
  refine eY h2 ?_
  exact hK
theorem yB {n:Int}[i:aq L br b s C](hK:G w0 (C (ob br b (iT s n).1)) (K (.tuple #[i64 (iT s n).2.1,.bool (iT s n).2.2.1,i64 (iT s n).2.2.2]))):G w0 L (CP Tryz.prog Fn.arena_asked [ptr b 0,i64 n] K):=by
 refine i.use (fun M hK=>?_) hK
 refine GB ?_
 unfold yR
 unfold iT at hK
 refine gu ?_
 by_cases g1:n≤14
 ·rw [if_pos (.inl g1)] at hK
  refine eY g1 ?_
  exact hK
 refine eY g1 ?_
 refine CX (b:=b) (s:=s) ?_
 refine gr ?_
 refine G.cond (fun g=>?_) (fun g=>?_)
 ·rw [if_pos (.inr (by simpa using g))] at hK
  exact hK
 rw [if_neg (by simp at g;omega)] at hK
 refine gr ?_
 refine kZ (b:=b) (s:=s) ?_
 generalize cr s (iE (n-1))=r at hK ⊢
 obtain⟨s1,x,e⟩:=r
 simp only at hK ⊢
 refine gr ?_
 by_cases h2:e=0
 ·rw [if_pos h2] at hK
  refine eY (eq_true h2) ?_
  refine Ek ?_
  refine gr ?_
  by_cases h3:(tM x).1=0
  ·rw [if_pos h3] at hK
   refine eY (eq_true h3) ?_
   exact hK
  ·rw [if_neg h3] at hK
   refine eY h3 ?_
   exact hK
 ·rw [if_neg h2] at hK
  refine eY h2 ?_
  exact hK
theorem Ik {n:Int}[i:aq L br b s C](hf:s.l.r.f.length≤1000)(hff:∀l,(gT (iT s n).1 l).1.l.r.f.length≤1000000)(hK:G w0 (C (ob br b (zj s n).1)) (K (i64 (zj s n).2))):G w0 L (CP Tryz.prog Fn.arena_Free [ptr b 0,i64 n] K):=by
 refine i.use (fun M hK=>?_) hK
 refine Ir ?_
 unfold Ar
 unfold zj DR at hK
 refine gu ?_
 refine yB (b:=b) (s:=s) ?_
 generalize iT s n=q at hK hff ⊢
 obtain⟨s1,c,lv,e⟩:=q
 simp only at hK hff ⊢
 refine gr ?_
 refine G.joini1 ?_
 by_cases h1:e=0
 ·rw [if_pos h1] at hK
  cases lv
  ·rw [if_neg (by decide)] at hK
   repeat' (first | (with_reducible refine G.joini0 ?_) | (with_reducible refine G.joini1 ?_) | (with_reducible refine G.drew ?_) | (simp (maxSteps:=2000000) only [↓RG,RP,RB,BEq.rfl,Int.reduceEq,Int.reduceLT,Int.reduceLE,Nat.reduceEqDiff,eq_true h1]))
   exact hK
  ·rw [if_pos rfl] at hK
   repeat' (first | (with_reducible refine G.joini0 ?_) | (with_reducible refine G.joini1 ?_) | (with_reducible refine G.drew ?_) | (simp (maxSteps:=2000000) only [↓RG,RP,RB,BEq.rfl,Int.reduceEq,Int.reduceLT,Int.reduceLE,Nat.reduceEqDiff,eq_true h1]))
   refine UI fun v hv=>?_
   refine rG (b:=b) (s:=s1) (l:=[⟨iE (n-1),wU c⟩]) (by simp) ?_
   have hf2:=hff [⟨iE (n-1),wU c⟩]
   generalize gT s1 [⟨iE (n-1),wU c⟩]=t at hK hf2 ⊢
   obtain⟨s2,e2⟩:=t
   simp only at hK hf2 ⊢
   by_cases h3:e2=0
   ·rw [if_pos h3] at hK
    subst h3
    refine gg ?_
    refine JU (b:=b) (s:=s2) hf2 ?_
    exact hK.sub
   ·rw [if_neg h3] at hK
    refine gf h3 ?_
    exact hK.sub
 ·rw [if_neg h1] at hK
  repeat' (first | (with_reducible refine G.joini0 ?_) | (with_reducible refine G.joini1 ?_) | (with_reducible refine G.drew ?_) | (simp (maxSteps:=2000000) only [↓RG,RP,RB,BEq.rfl,Int.reduceEq,Int.reduceLT,Int.reduceLE,Nat.reduceEqDiff,h1]))
  exact hK
theorem Id {n:Int}[i:aq L br b s C](hK:G w0 (C (ob br b (pG s n).1)) (K (i64 (pG s n).2))):G w0 L (CP Tryz.prog Fn.arena_Give [ptr b 0,i64 n] K):=by
 refine i.use (fun M hK=>?_) hK
 refine Ib ?_
 unfold Bk
 unfold pG D0 at hK
 refine gu ?_
 refine yB (b:=b) (s:=s) ?_
 generalize iT s n=q at hK ⊢
 obtain⟨s1,c,lv,e⟩:=q
 simp only at hK ⊢
 refine gr ?_
 refine G.joini1 ?_
 by_cases h1:e=0
 ·rw [if_pos h1] at hK
  cases lv
  ·rw [if_neg (by decide)] at hK
   refine gf (eq_true h1) ?_
   refine pQ ?_
   refine kZ (b:=b) (s:=s1) ?_
   generalize cr s1 (iw c)=r at hK ⊢
   obtain⟨s2,x,e2⟩:=r
   simp only at hK ⊢
   by_cases h2:e2=0
   ·rw [if_pos h2] at hK
    refine gf (eq_true h2) ?_
    refine pQ ?_
    refine gg ?_
    refine UB fun v hv=>?_
    refine rG (b:=b) (s:=s2) (l:=[⟨n,x⟩,⟨iw c,wU n⟩]) (by simp) ?_
    exact hK.sub
   ·rw [if_neg h2] at hK
    refine gf h2 ?_
    exact hK
  ·rw [if_pos rfl] at hK
   refine gf (eq_true h1) ?_
   exact hK
 ·rw [if_neg h1] at hK
  refine gf h1 ?_
  exact hK
end
end Go.Proofs.YtoealglbimbbmaaGreatDoor.S
