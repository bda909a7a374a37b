import Derived.Test.YtoealglbimbbmaaGreatDoorView
namespace Go.Proofs.YtoealglbimbbmaaGreatDoor.S
open Go Go.Proofs
set_option linter.unusedVariables false
set_option linter.unusedSimpArgs false
abbrev gi (n:Int):Int:=IntKind.wrap .i64 n
abbrev wU (n:Int):Int:=IntKind.wrap .u64 n
def ir (c:Int):Int:=if c<1 then 0 else if 4<c then 0 else gi (1*2 ^ min c.toNat 64)
def gH (n:Int):Int:=if n<1 then 0 else if n≤2 then 1 else if n≤4 then 2 else if n≤8 then 3 else if n≤16 then 4 else 0
def md (w:Int):Int×Bool:=if 1≤w∧w≤4 then (w,false) else if 9≤w∧w≤12 then (w-8,true) else (0,false)
def gE (c:Int):Int:=gi (0+c)
def ql (s:fa)(c b:Int):fa×Int×Int :=
 if 2147483648≤b then (s,0,2)
 else if (cr s (gi b)).2.2=0 then
  (if (fJ (cr s (gi b)).1 [⟨gE c,(cr s (gi b)).2.1⟩,⟨gi (gi b-1),wU (gi (c+8))⟩]).2=0 then ((fJ (cr s (gi b)).1 [⟨gE c,(cr s (gi b)).2.1⟩,⟨gi (gi b-1),wU (gi (c+8))⟩]).1,gi b,0)
   else ((fJ (cr s (gi b)).1 [⟨gE c,(cr s (gi b)).2.1⟩,⟨gi (gi b-1),wU (gi (c+8))⟩]).1,0,(fJ (cr s (gi b)).1 [⟨gE c,(cr s (gi b)).2.1⟩,⟨gi (gi b-1),wU (gi (c+8))⟩]).2))
 else ((cr s (gi b)).1,0,(cr s (gi b)).2.2)
def rK (w c:Int):List av:=[⟨5,wU (gi (gi (gi w+1)+ir c))⟩,⟨gi w,wU (gi (c+8))⟩]
def pJ (s:fa)(c:Int):fa×Int×Int :=
 if (cr s 5).2.2=0 then
  (if (cr s 5).2.1<14∨2147483648≤(cr s 5).2.1∨((cr s 5).1.size:Int)<gi (gi (gi (cr s 5).2.1+1)+ir c) then ((cr s 5).1,0,4)
   else if (fJ (cr s 5).1 (rK (cr s 5).2.1 c)).2=0 then ((fJ (cr s 5).1 (rK (cr s 5).2.1 c)).1,gi (gi (cr s 5).2.1+1),0)
   else ((fJ (cr s 5).1 (rK (cr s 5).2.1 c)).1,0,(fJ (cr s 5).1 (rK (cr s 5).2.1 c)).2))
 else ((cr s 5).1,0,(cr s 5).2.2)
def eF (s:fa)(n:Int):fa×Int×Int :=
 if gH n=0 then (s,0,3)
 else if (cr s (gE (gH n))).2.2=0 then
  (if (cr s (gE (gH n))).2.1=0 then pJ (cr s (gE (gH n))).1 (gH n) else ql (cr s (gE (gH n))).1 (gH n) (cr s (gE (gH n))).2.1)
 else ((cr s (gE (gH n))).1,0,(cr s (gE (gH n))).2.2)
def gj (s:fa)(b:Int):fa×Int×Bool×Int :=
 if b≤14∨(s.size:Int)≤b then (s,0,false,2)
 else if (cr s (gi (b-1))).2.2=0 then
  (if (md (cr s (gi (b-1))).2.1).1=0 then ((cr s (gi (b-1))).1,0,false,2) else ((cr s (gi (b-1))).1,(md (cr s (gi (b-1))).2.1).1,(md (cr s (gi (b-1))).2.1).2,0))
 else ((cr s (gi (b-1))).1,0,false,(cr s (gi (b-1))).2.2)
def tw (q:fa×Int×Bool×Int)(b:Int):fa×Int :=
 if q.2.2.2=0 then
  (if q.2.2.1=true then
   (if (fJ q.1 [⟨gi (b-1),wU q.2.1⟩]).2=0 then ((fJ q.1 [⟨gi (b-1),wU q.2.1⟩]).1.log ((fJ q.1 [⟨gi (b-1),wU q.2.1⟩]).1.l.free b),0) else fJ q.1 [⟨gi (b-1),wU q.2.1⟩])
   else (q.1,2))
 else (q.1,q.2.2.2)
def ig (s:fa)(b:Int):fa×Int:=tw (gj s b) b
def sX (q:fa×Int×Bool×Int)(b:Int):fa×Int :=
 if q.2.2.2=0 then
  (if q.2.2.1=true then (q.1,2)
   else if (cr q.1 (gE q.2.1)).2.2=0 then fJ (cr q.1 (gE q.2.1)).1 [⟨b,(cr q.1 (gE q.2.1)).2.1⟩,⟨gE q.2.1,wU b⟩] else ((cr q.1 (gE q.2.1)).1,(cr q.1 (gE q.2.1)).2.2))
 else (q.1,q.2.2.2)
def gY (s:fa)(b:Int):fa×Int:=sX (gj s b) b
section
variable {w0:bo}{L M:List bd}{K:KV}{F:World→Prop}{C:bd→List bd}{b:Nat}{s:fa}{n c w:Int}
theorem jE (hK:G w0 L (K (i64 (ir c)))):G w0 L (CP Tryz.prog Wg [i64 c] K):=by
 refine Ir ?_
 unfold A0
 unfold ir at hK
 refine gu ?_
 by_cases h1:c<1
 ·rw [if_pos h1] at hK
  refine eC h1 ?_
  exact hK
 rw [if_neg h1] at hK
 by_cases h2:4<c
 ·rw [if_pos h2] at hK
  refine eC (an h1 h2) ?_
  exact hK
 rw [if_neg h2] at hK
 have nn:br c:=⟨by omega⟩
 refine eC (an h1 h2) ?_
 exact hK
theorem Mt:ir 1=2:=by decide
theorem M8:ir 2=4:=by decide
theorem ME:ir 3=8:=by decide
theorem M3:ir 4=16:=by decide
theorem FG (hK:G w0 L (K (i64 (gH n)))):G w0 L (CP Tryz.prog Zd [i64 n] K):=by
 refine Ga ?_
 unfold xQ
 unfold gH at hK
 by_cases h1:n<1
 ·rw [if_pos h1] at hK
  refine eC h1 ?_
  exact hK
 rw [if_neg h1] at hK
 refine eC h1 ?_
 refine G.loopc1 (fun k:Nat=>i64 k) (fun k=>(k=1)∨(k=2∧¬n≤2)∨(k=3∧¬n≤4)∨(k=4∧¬n≤8)∨(k=5∧¬n≤16)) (fun k=>5-k) 1 rfl (.inl rfl) ?_
 intro k hk J hJ
 rcases hk with rfl | ⟨rfl,h⟩ | ⟨rfl,h⟩ | ⟨rfl,h⟩ | ⟨rfl,h⟩
 ·have e:((1:Nat):Int)=1:=rfl
  rw [e]
  refine gr ?_
  refine jE ?_
  rw [Mt]
  refine gr ?_
  refine G.cond (fun g=>?_) (fun g=>?_)
  ·rw [if_pos (by simpa using g)] at hK;exact hK
  ·refine gr ?_
   exact hJ 2 (.inr (.inl ⟨rfl,by simpa using g⟩)) (by omega)
 ·have e:((2:Nat):Int)=2:=rfl
  rw [e]
  rw [if_neg h] at hK
  refine gr ?_
  refine jE ?_
  rw [M8]
  refine gr ?_
  refine G.cond (fun g=>?_) (fun g=>?_)
  ·rw [if_pos (by simpa using g)] at hK;exact hK
  ·refine gr ?_
   exact hJ 3 (.inr (.inr (.inl ⟨rfl,by simpa using g⟩))) (by omega)
 ·have e:((3:Nat):Int)=3:=rfl
  rw [e]
  rw [if_neg (by omega),if_neg h] at hK
  refine gr ?_
  refine jE ?_
  rw [ME]
  refine gr ?_
  refine G.cond (fun g=>?_) (fun g=>?_)
  ·rw [if_pos (by simpa using g)] at hK;exact hK
  ·refine gr ?_
   exact hJ 4 (.inr (.inr (.inr (.inl ⟨rfl,by simpa using g⟩)))) (by omega)
 ·have e:((4:Nat):Int)=4:=rfl
  rw [e]
  rw [if_neg (by omega),if_neg (by omega),if_neg h] at hK
  refine gr ?_
  refine jE ?_
  rw [M3]
  refine gr ?_
  refine G.cond (fun g=>?_) (fun g=>?_)
  ·rw [if_pos (by simpa using g)] at hK;exact hK
  ·refine gr ?_
   exact hJ 5 (.inr (.inr (.inr (.inr ⟨rfl,by simpa using g⟩)))) (by omega)
 ·have e:((5:Nat):Int)=5:=rfl
  rw [e]
  rw [if_neg (by omega),if_neg (by omega),if_neg (by omega),if_neg h] at hK
  refine gr ?_
  exact hK
theorem pA (hK:G w0 L (K (i64 (gE c)))):G w0 L (CP Tryz.prog VQ [i64 c] K):=by
 refine HQ ?_
 unfold zF
 refine gr ?_
 exact hK
theorem D6 (hK:G w0 L (K (.tuple #[i64 (md w).1,.bool (md w).2]))):G w0 L (CP Tryz.prog Y2 [u64 w] K):=by
 refine DA ?_
 unfold uV
 unfold md at hK
 refine gu ?_
 by_cases h1:1≤w∧w≤4
 ·rw [if_pos h1] at hK
  have e:IntKind.wrap .i64 w=w:=gh (by omega) (by omega)
  refine eC (an h1.1 (an h1.2 e)) ?_
  exact hK
 rw [if_neg h1] at hK
 by_cases h2:9≤w∧w≤12
 ·rw [if_pos h2] at hK
  have e:IntKind.wrap .i64 (IntKind.wrap .u64 (w-8))=w-8:=by rw [CI (n:=w-8) (by omega) (by omega),gh (by omega) (by omega)]
  have g1:¬w≤4:=by omega
  refine eC (an g1 (an h2.1 (an h2.2 e))) ?_
  exact hK
 rw [if_neg h2] at hK
 have g1:(decide (1≤w) && decide (w≤4))=false:=by simp;omega
 have g2:(decide (9≤w) && decide (w≤12))=false:=by simp;omega
 refine eC (an g1 g2) ?_
 exact hK
theorem Vf {L:List bd}{a1 x1 a2 x2:Int}{K:KV}(hK:∀v,bf v [v]→G w0 (sl bk v [⟨a1,x1⟩,⟨a2,x2⟩]::L) (K v)) :
  G w0 L (ax [.int .i64 0,.int .u64 0] 2 [(0,2,.agg #[i64 a1,u64 x1]),(2,2,.agg #[i64 a2,u64 x2])] K):=by
 refine G.build bk [⟨a1,x1⟩,⟨a2,x2⟩] rfl (by simp) rfl fun v hv=>hK v hv
theorem Vh {L:List bd}{a1 x1:Int}{K:KV}(hK:∀v,bf v [v]→G w0 (sl bk v [⟨a1,x1⟩]::L) (K v)) :
  G w0 L (ax [.int .i64 0,.int .u64 0] 1 [(0,2,.agg #[i64 a1,u64 x1])] K):=by
 refine G.build bk [⟨a1,x1⟩] rfl (by simp) rfl fun v hv=>hK v hv
theorem FW {bb:Int}[i:au L cY b s C](hK:G w0 (C (ob cY b (ql s c bb).1)) (K (.tuple #[i64 (ql s c bb).2.1,i64 (ql s c bb).2.2]))):G w0 L (CP Tryz.prog Ze [ptr b 0,i64 c,u64 bb] K):=by
 refine i.use (fun M hK=>?_) hK
 refine FV ?_
 unfold xW
 unfold ql at hK
 by_cases h1:2147483648≤bb
 ·rw [if_pos h1] at hK
  refine eC h1 ?_
  exact hK
 rw [if_neg h1] at hK
 refine eC h1 ?_
 refine kO (b:=b) (s:=s) ?_
 generalize cr s (gi bb)=r at hK ⊢
 obtain⟨s1,x,e⟩:=r
 simp only at hK ⊢
 refine gr ?_
 refine G.joini1 ?_
 by_cases h2:e=0
 ·rw [if_pos h2] at hK
  refine eC (eq_true h2) ?_
  refine pA ?_
  refine gr ?_
  refine Vf fun v hv=>?_
  refine qW (b:=b) (s:=s1) (l:=[⟨gE c,x⟩,⟨gi (gi bb-1),wU (gi (c+8))⟩]) (by simp) ?_
  generalize fJ s1 [⟨gE c,x⟩,⟨gi (gi bb-1),wU (gi (c+8))⟩]=t at hK ⊢
  obtain⟨s2,e2⟩:=t
  simp only at hK ⊢
  by_cases h3:e2=0
  ·rw [if_pos h3] at hK
   refine eC (eq_true h3) ?_
   exact hK.sub
  ·rw [if_neg h3] at hK
   refine eC h3 ?_
   exact hK.sub
 ·rw [if_neg h2] at hK
  refine eC h2 ?_
  exact hK
theorem F4 [i:au L cY b s C](hK:G w0 (C (ob cY b (pJ s c).1)) (K (.tuple #[i64 (pJ s c).2.1,i64 (pJ s c).2.2]))):G w0 L (CP Tryz.prog Zf [ptr b 0,i64 c] K):=by
 refine i.use (fun M hK=>?_) hK
 refine FY ?_
 unfold xR
 unfold pJ at hK
 refine gu ?_
 refine kO (b:=b) (s:=s) (a:=5) ?_
 generalize cr s 5=r at hK ⊢
 obtain⟨s1,x,e⟩:=r
 simp only at hK ⊢
 refine gr ?_
 by_cases h2:e=0
 ·rw [if_pos h2] at hK
  have bad:(x<14∨2147483648≤x∨(s1.size:Int)<gi (gi (gi x+1)+ir c))→G w0 (ob cY b s1::M) (K (.tuple #[i64 0,i64 4])):=fun h=>by rw [if_pos h] at hK;exact hK
  by_cases g1:x<14
  ·refine eC (an (eq_true h2) g1) ?_
   exact bad (.inl g1)
  by_cases g2:2147483648≤x
  ·refine eC (an (eq_true h2) (an g1 g2)) ?_
   exact bad (.inr (.inl g2))
  refine eC (an (eq_true h2) (an g1 g2)) ?_
  refine jE ?_
  refine gr ?_
  refine Cd (b:=b) (s:=s1) ?_
  refine gr ?_
  refine G.cond (fun g=>?_) (fun g=>?_)
  ·exact bad (.inr (.inr (by simpa using g)))
  rw [if_neg (show ¬(x<14∨2147483648≤x∨(s1.size:Int)<IntKind.wrap .i64 (IntKind.wrap .i64 (IntKind.wrap .i64 x+1)+ir c)) by simp at g;omega)] at hK
  refine gr ?_
  refine jE ?_
  refine gr ?_
  refine Vf fun v hv=>?_
  refine qW (b:=b) (s:=s1) (l:=rK x c) (by simp [rK]) ?_
  generalize fJ s1 (rK x c)=t at hK ⊢
  obtain⟨s2,e2⟩:=t
  simp only at hK ⊢
  by_cases h3:e2=0
  ·rw [if_pos h3] at hK
   refine eC (eq_true h3) ?_
   exact hK.sub
  ·rw [if_neg h3] at hK
   refine eC h3 ?_
   exact hK.sub
 ·rw [if_neg h2] at hK
  refine eC h2 ?_
  exact hK
theorem F7 [i:au L cY b s C](hK:G w0 (C (ob cY b (eF s n).1)) (K (.tuple #[i64 (eF s n).2.1,i64 (eF s n).2.2]))):G w0 L (CP Tryz.prog Za [ptr b 0,i64 n] K):=by
 refine i.use (fun M hK=>?_) hK
 refine FM ?_
 unfold yc
 unfold eF at hK
 refine FG ?_
 generalize gH n=c at hK ⊢
 by_cases h1:c=0
 ·rw [if_pos h1] at hK
  refine eC (eq_true h1) ?_
  exact hK
 rw [if_neg h1] at hK
 refine eC h1 ?_
 refine pA ?_
 refine kO (b:=b) (s:=s) ?_
 generalize cr s (gE c)=r at hK ⊢
 obtain⟨s1,x,e⟩:=r
 simp only at hK ⊢
 refine gr ?_
 by_cases h2:e=0
 ·rw [if_pos h2] at hK
  by_cases h3:x=0
  ·rw [if_pos h3] at hK
   refine eC (an (eq_true h2) (eq_true h3)) ?_
   refine F4 (b:=b) (s:=s1) ?_
   refine gr ?_
   exact hK
  ·rw [if_neg h3] at hK
   refine eC (an (eq_true h2) h3) ?_
   refine FW (b:=b) (s:=s1) ?_
   refine gr ?_
   exact hK
 ·rw [if_neg h2] at hK
  refine eC h2 ?_
  exact hK
theorem yj {n:Int}[i:au L cY b s C](hK:G w0 (C (ob cY b (gj s n).1)) (K (.tuple #[i64 (gj s n).2.1,.bool (gj s n).2.2.1,i64 (gj s n).2.2.2]))):G w0 L (CP Tryz.prog WU [ptr b 0,i64 n] K):=by
 refine i.use (fun M hK=>?_) hK
 refine Fq ?_
 unfold xN
 unfold gj at hK
 refine gu ?_
 by_cases g1:n≤14
 ·rw [if_pos (.inl g1)] at hK
  refine eC g1 ?_
  exact hK
 refine eC g1 ?_
 refine Cd (b:=b) (s:=s) ?_
 refine gr ?_
 refine G.cond (fun g=>?_) (fun g=>?_)
 ·rw [if_pos (.inr (by simpa using g))] at hK
  exact hK
 rw [if_neg (by simp at g;omega)] at hK
 refine gr ?_
 refine kO (b:=b) (s:=s) ?_
 generalize cr s (gi (n-1))=r at hK ⊢
 obtain⟨s1,x,e⟩:=r
 simp only at hK ⊢
 refine gr ?_
 by_cases h2:e=0
 ·rw [if_pos h2] at hK
  refine eC (eq_true h2) ?_
  refine D6 ?_
  refine gr ?_
  by_cases h3:(md x).1=0
  ·rw [if_pos h3] at hK
   refine eC (eq_true h3) ?_
   exact hK
  ·rw [if_neg h3] at hK
   refine eC h3 ?_
   exact hK
 ·rw [if_neg h2] at hK
  refine eC h2 ?_
  exact hK
theorem Hc {n:Int}[i:au L cY b s C](hf:s.l.r.f.length≤1000)(hff:∀l,(fJ (gj s n).1 l).1.l.r.f.length≤1000000)(hK:G w0 (C (ob cY b (ig s n).1)) (K (i64 (ig s n).2))):G w0 L (CP Tryz.prog Zb [ptr b 0,i64 n] K):=by
 refine i.use (fun M hK=>?_) hK
 refine IU ?_
 unfold AF
 unfold ig tw at hK
 refine gu ?_
 refine yj (b:=b) (s:=s) ?_
 generalize gj s n=q at hK hff ⊢
 obtain⟨s1,c,lv,e⟩:=q
 simp only at hK hff ⊢
 refine gr ?_
 refine G.joini1 ?_
 by_cases h1:e=0
 ·rw [if_pos h1] at hK
  cases lv
  ·rw [if_neg (by decide)] at hK
   repeat' (first | (with_reducible refine G.joini0 ?_) | (with_reducible refine G.joini1 ?_) | (with_reducible refine G.drew ?_) | (simp (maxSteps:=2000000) only [↓RG,RP,RB,BEq.rfl,Int.reduceEq,Int.reduceLT,Int.reduceLE,Nat.reduceEqDiff,eq_true h1]))
   exact hK
  ·rw [if_pos rfl] at hK
   repeat' (first | (with_reducible refine G.joini0 ?_) | (with_reducible refine G.joini1 ?_) | (with_reducible refine G.drew ?_) | (simp (maxSteps:=2000000) only [↓RG,RP,RB,BEq.rfl,Int.reduceEq,Int.reduceLT,Int.reduceLE,Nat.reduceEqDiff,eq_true h1]))
   refine Vh fun v hv=>?_
   refine qW (b:=b) (s:=s1) (l:=[⟨gi (n-1),wU c⟩]) (by simp) ?_
   have hf2:=hff [⟨gi (n-1),wU c⟩]
   generalize fJ s1 [⟨gi (n-1),wU c⟩]=t at hK hf2 ⊢
   obtain⟨s2,e2⟩:=t
   simp only at hK hf2 ⊢
   by_cases h3:e2=0
   ·rw [if_pos h3] at hK
    subst h3
    refine gg ?_
    refine Kh (b:=b) (s:=s2) hf2 ?_
    exact hK.sub
   ·rw [if_neg h3] at hK
    refine gf h3 ?_
    exact hK.sub
 ·rw [if_neg h1] at hK
  repeat' (first | (with_reducible refine G.joini0 ?_) | (with_reducible refine G.joini1 ?_) | (with_reducible refine G.drew ?_) | (simp (maxSteps:=2000000) only [↓RG,RP,RB,BEq.rfl,Int.reduceEq,Int.reduceLT,Int.reduceLE,Nat.reduceEqDiff,h1]))
  exact hK
theorem IQ {n:Int}[i:au L cY b s C](hK:G w0 (C (ob cY b (gY s n).1)) (K (i64 (gY s n).2))):G w0 L (CP Tryz.prog YD [ptr b 0,i64 n] K):=by
 refine i.use (fun M hK=>?_) hK
 refine Ih ?_
 unfold zV
 unfold gY sX at hK
 refine gu ?_
 refine yj (b:=b) (s:=s) ?_
 generalize gj s n=q at hK ⊢
 obtain⟨s1,c,lv,e⟩:=q
 simp only at hK ⊢
 refine gr ?_
 refine G.joini1 ?_
 by_cases h1:e=0
 ·rw [if_pos h1] at hK
  cases lv
  ·rw [if_neg (by decide)] at hK
   refine gf (eq_true h1) ?_
   refine pA ?_
   refine kO (b:=b) (s:=s1) ?_
   generalize cr s1 (gE c)=r at hK ⊢
   obtain⟨s2,x,e2⟩:=r
   simp only at hK ⊢
   by_cases h2:e2=0
   ·rw [if_pos h2] at hK
    refine gf (eq_true h2) ?_
    refine pA ?_
    refine gg ?_
    refine Vf fun v hv=>?_
    refine qW (b:=b) (s:=s2) (l:=[⟨n,x⟩,⟨gE c,wU n⟩]) (by simp) ?_
    exact hK.sub
   ·rw [if_neg h2] at hK
    refine gf h2 ?_
    exact hK
  ·rw [if_pos rfl] at hK
   refine gf (eq_true h1) ?_
   exact hK
 ·rw [if_neg h1] at hK
  refine gf h1 ?_
  exact hK
end
end Go.Proofs.YtoealglbimbbmaaGreatDoor.S
