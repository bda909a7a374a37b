import Derived.Test.YtoealglbimbbmaaGreatDoorReads
namespace Go.Proofs.YtoealglbimbbmaaGreatDoor.S
open Go Go.Proofs
set_option linter.unusedVariables false
set_option linter.unusedSimpArgs false
def tz (b:Nat)(n:Int):bd:=own b [u64 n]
def uc (b:Nat)(m:fE):bd:=od fun h=>od fun t=>od fun c=>od fun s=>bt (bt (bt (bt (own b [i64 m.shape.words,i64 m.shape.stripes,i64 m.shape.wide,i64 m.shape.threads,u64 m.shape.start,ptr h 0,ptr t 0,ptr c 0,ptr s 0,i64 m.count])
 (ob iM h m.w)) (ob ng t (m.l,m.shape.wide))) (ob tz c m.n)) (ob iM s m.s)
section
variable {w0:bo}{L M:List bd}{K:KV}{F:World→Prop}{C:bd→List bd}{b:Nat}{m:fE}{o:pD}{n:Int}
theorem uN:ob tz b n=own b [u64 n]:=by rw [em,tz]
theorem dW:G w0 (ob uc b m::M) F=∀h t c s,G w0 (own b [i64 m.shape.words,i64 m.shape.stripes,i64 m.shape.wide,i64 m.shape.threads,u64 m.shape.start,ptr h 0,ptr t 0,ptr c 0,ptr s 0,i64 m.count] ::
  ob iM h m.w::ob ng t (m.l,m.shape.wide)::ob tz c m.n::ob iM s m.s::M) F:=by
 rw [em,uc]
 simp only [qm,ez]
theorem Kr (hK:∀b,G w0 (ob tz b (if 4611686018427387903<n then 4611686018427387903 else n)::L) (K (ptr b 0))):G w0 L (CP Tryz.prog XV [u64 n] K):=by
 refine JJ ?_
 unfold CG
 refine gr ?_
 refine G.box fun b=>?_
 have h:=hK b
 rw [uN] at h
 exact h
theorem ze [i:au L tz b n C](hK:G w0 L (K (u64 n))):G w0 L (CP Tryz.prog Yb [ptr b 0] K):=by
 refine i.ro (fun M hK=>?_) hK
 rw [uN] at *
 refine yK ?_
 unfold qq
 refine gr ?_
 exact hK
def ol (n old now:Int):Int×Bool×Int:=if now≤old then (n,false,1) else if 4611686018427387904≤now then (n,false,7) else if n=old then (now,true,0) else (n,false,0)
theorem z3 {old now:Int}[i:au L tz b n C](hK:G w0 (C (ob tz b (ol n old now).1)) (K (.tuple #[.bool (ol n old now).2.1,i64 (ol n old now).2.2]))):G w0 L (CP Tryz.prog Yf [ptr b 0,u64 old,u64 now] K):=by
 refine i.use (fun M hK=>?_) hK
 rw [uN] at *
 refine Ax ?_
 unfold rp
 unfold ol at hK
 by_cases c1:now≤old
 ·rw [if_pos c1] at hK
  refine eC c1 ?_
  exact hK
 ·rw [if_neg c1] at hK
  by_cases c2:4611686018427387904≤now
  ·rw [if_pos c2] at hK
   refine eC (an c1 c2) ?_
   exact hK
  ·rw [if_neg c2] at hK
   by_cases c3:n=old
   ·rw [if_pos c3] at hK
    refine eC (an c1 (an c2 c3)) ?_
    exact hK
   ·rw [if_neg c3] at hK
    refine eC (an c1 (an c2 c3)) ?_
    exact hK
theorem jG {n lo hi:Int}(h:lo≤hi):(if (if hi<n then hi else n) > lo then (if hi<n then hi else n) else lo)=held n lo hi:=by
 unfold held;split <;> split <;> (try split) <;> (try split) <;> omega
theorem Dt {s:jw}(hK:G w0 L (K (.agg (jw.cells (fu s)).toArray))):G w0 L (CP Tryz.prog Ww [.agg (jw.cells s).toArray] K):=by
 refine LJ ?_
 unfold Ff
 refine G.box fun p=>?_
 refine G.new fun q=>?_
 refine gr ?_
 rw [jG (n:=s.words) (by omega),jG (n:=s.stripes) (by omega),jG (n:=s.wide) (by omega),jG (n:=s.threads) (by omega)]
 have e:(if (4611686018427387903:Int)<s.start then 4611686018427387903 else s.start)=(if 4611686018427387904≤s.start then 4611686018427387903 else s.start):=by split <;> split <;> omega
 rw [e]
 exact hK.sub
theorem fA {n lo hi:Int}(h:lo≤hi):held (held n lo hi) lo hi=held n lo hi:=by
 have:=eI (n:=n) h
 generalize held n lo hi=k at *
 unfold held;split <;> (try split) <;> omega
theorem OZ {s:jw}(hK:∀b,G w0 (ob uc b (lS s)::L) (K (ptr b 0))):G w0 L (CP Tryz.prog XG [.agg (jw.cells s).toArray] K):=by
 refine Nu ?_
 unfold Gp
 refine G.box fun p=>?_
 refine gr ?_
 refine Dt ?_
 repeat' (first | (with_reducible refine G.joini0 ?_) | (with_reducible refine G.joini1 ?_) | (with_reducible refine G.drew ?_) | (simp (maxSteps:=2000000) only [↓RG,RP,RB,BEq.rfl,Int.reduceEq,Int.reduceLT,Int.reduceLE,Nat.reduceEqDiff]))
 refine L1 fun h=>?_
 refine gr ?_
 refine Iy fun t=>?_
 refine gr ?_
 refine Kr fun c=>?_
 refine gr ?_
 refine Jl fun e=>?_
 refine gr ?_
 refine G.box fun b=>?_
 refine gr ?_
 have hk:=hK b
 rw [dW] at hk
 have hk:G w0 (own b [i64 (held s.words 32 256),i64 (held s.stripes 1 16),i64 (held s.wide 1 16),i64 (held s.threads 1 4),u64 (fu s).start,ptr h 0,ptr t 0,ptr c 0,ptr e 0,i64 0] ::
  ob iM h (List.replicate (held s.words 32 256).toNat 0)::ob ng t (List.replicate (held s.stripes 1 16).toNat ae,held s.wide 1 16)::ob tz c (fu s).start::ob iM e (List.replicate (held s.threads 1 4).toNat 0)::L) (K (ptr b 0)):=hk h t c e
 have e1:(fu s).words=held s.words 32 256:=rfl
 have e2:(fu s).stripes=held s.stripes 1 16:=rfl
 have e3:(fu s).wide=held s.wide 1 16:=rfl
 have e4:(fu s).threads=held s.threads 1 4:=rfl
 have e6:(fu s).start≤4611686018427387903:=by unfold fu;simp only;split <;> omega
 have e5:(if (4611686018427387903:Int)<(fu s).start then 4611686018427387903 else (fu s).start)=(fu s).start:=if_neg (by omega)
 rw [e1,e2,e3,e4,fA (by omega),fA (by omega),fA (by omega),fA (by omega),e5]
 exact hk.sub
theorem N1 {m:fE}{o:pD}(k1:o.kind=1):bz m o=if iG o.place m.w then (m,⟨m.w.getD o.place.toNat 0,ae,false,0⟩) else (m,oN 2):=by unfold bz;simp [k1]
theorem NO {m:fE}{o:pD}(k1:o.kind=2):bz m o=if iG o.place m.w then ({ m with w:=m.w.set o.place.toNat o.word },iH) else (m,oN 2):=by unfold bz;simp [k1]
theorem OX {m:fE}{o:pD}(k1:o.kind=3):bz m o=(m,⟨0,(nB m.l o.place).1,false,(nB m.l o.place).2⟩):=by unfold bz;simp [k1]
theorem N2 {m:fE}{o:pD}(k1:o.kind=4):bz m o=({ m with l:=(lR m.l o.place o.was o.lock).1 },⟨0,ae,(lR m.l o.place o.was o.lock).2.1,(lR m.l o.place o.was o.lock).2.2⟩):=by unfold bz;simp [k1]
theorem Nl {m:fE}{o:pD}(k1:o.kind=5):bz m o=({ m with l:=(jD m.l o.place o.lock).1 },⟨0,ae,false,(jD m.l o.place o.lock).2⟩):=by unfold bz;simp [k1]
theorem N5 {m:fE}{o:pD}(k1:o.kind=6):bz m o=(m,⟨m.n,ae,false,0⟩):=by unfold bz;simp [k1]
theorem N3 {m:fE}{o:pD}(k1:o.kind=7):bz m o=({ m with n:=(ol m.n o.old o.word).1 },⟨0,ae,(ol m.n o.old o.word).2.1,(ol m.n o.old o.word).2.2⟩):=by
 unfold bz ol;simp only [k1];simp only [Int.reduceEq,if_true,if_false,Int.reduceNeg]
 split
 ·rfl
 ·split
  ·rfl
  ·split <;> rfl
theorem Nz {m:fE}{o:pD}(k1:o.kind=8):bz m o=if i4 o.place m.s.length then (m,⟨m.s.getD o.place.toNat 0,ae,false,0⟩) else (m,oN 2):=by unfold bz;simp [k1]
theorem Oa {m:fE}{o:pD}(k1:o.kind=9):bz m o=if i4 o.place m.s.length then ({ m with s:=m.s.set o.place.toNat o.word },iH) else (m,oN 2):=by unfold bz;simp [k1]
set_option maxRecDepth 20000 in
set_option maxHeartbeats 4000000 in
theorem H8 [i:au L uc b m C](hK:G w0 (C (ob uc b (bz m o).1)) (K (.agg (eW.cells (bz m o).2).toArray))):G w0 L (CP Tryz.prog XW [ptr b 0,.agg (pD.cells o).toArray] K):=by
 refine i.use (fun M hK=>?_) hK
 refine HA ?_
 unfold AU
 refine G.box fun p=>?_
 refine G.new fun q=>?_
 refine G.new fun r=>?_
 rw [P7,dW]
 intro h t c s
 refine gr ?_
 by_cases k1:o.kind=1
 ·rw [N1 k1] at hK
  repeat' (first | (with_reducible refine G.joini0 ?_) | (with_reducible refine G.joini1 ?_) | (with_reducible refine G.drew ?_) | (simp (maxSteps:=2000000) only [↓RG,RP,RB,BEq.rfl,Int.reduceEq,Int.reduceLT,Int.reduceLE,Nat.reduceEqDiff,k1]))
  refine Bo (xs:=m.w) (fun k hk h1 h2=>?_) (fun h0=>?_)
  ·rw [if_pos (show iG o.place m.w=true by unfold iG;simp;omega),dW,hk] at hK
   simp only [Int.toNat_natCast] at hK
   refine gg ?_
   exact(hK h t c s).sub
  ·rw [if_neg (by rw [h0];decide),dW] at hK
   refine gg ?_
   exact(hK h t c s).sub
 by_cases k2:o.kind=2
 ·rw [NO k2] at hK
  repeat' (first | (with_reducible refine G.joini0 ?_) | (with_reducible refine G.joini1 ?_) | (with_reducible refine G.drew ?_) | (simp (maxSteps:=2000000) only [↓RG,RP,RB,BEq.rfl,Int.reduceEq,Int.reduceLT,Int.reduceLE,Nat.reduceEqDiff,k2]))
  refine AQ (xs:=m.w) (fun k hk h1 h2=>?_) (fun h0=>?_)
  ·rw [if_pos (show iG o.place m.w=true by unfold iG;simp;omega),dW,hk] at hK
   simp only [Int.toNat_natCast] at hK
   refine gg ?_
   exact(hK h t c s).sub
  ·rw [if_neg (by rw [h0];decide),dW] at hK
   refine gg ?_
   exact(hK h t c s).sub
 by_cases k3:o.kind=3
 ·rw [OX k3,dW] at hK
  repeat' (first | (with_reducible refine G.joini0 ?_) | (with_reducible refine G.joini1 ?_) | (with_reducible refine G.drew ?_) | (simp (maxSteps:=2000000) only [↓RG,RP,RB,BEq.rfl,Int.reduceEq,Int.reduceLT,Int.reduceLE,Nat.reduceEqDiff,k3]))
  refine xg (ls:=m.l) ?_
  refine gg ?_
  exact(hK h t c s).sub
 by_cases k4:o.kind=4
 ·rw [N2 k4,dW] at hK
  repeat' (first | (with_reducible refine G.joini0 ?_) | (with_reducible refine G.joini1 ?_) | (with_reducible refine G.drew ?_) | (simp (maxSteps:=2000000) only [↓RG,RP,RB,BEq.rfl,Int.reduceEq,Int.reduceLT,Int.reduceLE,Nat.reduceEqDiff,k4]))
  refine yv (ls:=m.l) ?_
  refine gg ?_
  exact(hK h t c s).sub
 by_cases k5:o.kind=5
 ·rw [Nl k5,dW] at hK
  repeat' (first | (with_reducible refine G.joini0 ?_) | (with_reducible refine G.joini1 ?_) | (with_reducible refine G.drew ?_) | (simp (maxSteps:=2000000) only [↓RG,RP,RB,BEq.rfl,Int.reduceEq,Int.reduceLT,Int.reduceLE,Nat.reduceEqDiff,k5]))
  refine uX (ls:=m.l) ?_
  refine gg ?_
  exact(hK h t c s).sub
 by_cases k6:o.kind=6
 ·rw [N5 k6,dW] at hK
  repeat' (first | (with_reducible refine G.joini0 ?_) | (with_reducible refine G.joini1 ?_) | (with_reducible refine G.drew ?_) | (simp (maxSteps:=2000000) only [↓RG,RP,RB,BEq.rfl,Int.reduceEq,Int.reduceLT,Int.reduceLE,Nat.reduceEqDiff,k6]))
  refine ze (n:=m.n) ?_
  refine gg ?_
  exact(hK h t c s).sub
 by_cases k7:o.kind=7
 ·rw [N3 k7,dW] at hK
  repeat' (first | (with_reducible refine G.joini0 ?_) | (with_reducible refine G.joini1 ?_) | (with_reducible refine G.drew ?_) | (simp (maxSteps:=2000000) only [↓RG,RP,RB,BEq.rfl,Int.reduceEq,Int.reduceLT,Int.reduceLE,Nat.reduceEqDiff,k7]))
  refine z3 (n:=m.n) ?_
  refine gg ?_
  exact(hK h t c s).sub
 by_cases k8:o.kind=8
 ·rw [Nz k8] at hK
  repeat' (first | (with_reducible refine G.joini0 ?_) | (with_reducible refine G.joini1 ?_) | (with_reducible refine G.drew ?_) | (simp (maxSteps:=2000000) only [↓RG,RP,RB,BEq.rfl,Int.reduceEq,Int.reduceLT,Int.reduceLE,Nat.reduceEqDiff,k8]))
  refine yQ (xs:=m.s) (fun k hk h1=>?_) (fun h0=>?_)
  ·rw [if_pos (show i4 o.place m.s.length=true by unfold i4;simp;omega),dW,hk] at hK
   simp only [Int.toNat_natCast] at hK
   refine gg ?_
   exact(hK h t c s).sub
  ·rw [if_neg (by unfold xY at h0;unfold i4;rw [h0];decide),dW] at hK
   refine gg ?_
   exact(hK h t c s).sub
 by_cases k9:o.kind=9
 ·rw [Oa k9] at hK
  repeat' (first | (with_reducible refine G.joini0 ?_) | (with_reducible refine G.joini1 ?_) | (with_reducible refine G.drew ?_) | (simp (maxSteps:=2000000) only [↓RG,RP,RB,BEq.rfl,Int.reduceEq,Int.reduceLT,Int.reduceLE,Nat.reduceEqDiff,k9]))
  refine xF (xs:=m.s) (fun k hk h1=>?_) (fun h0=>?_)
  ·rw [if_pos (show i4 o.place m.s.length=true by unfold i4;simp;omega),dW,hk] at hK
   simp only [Int.toNat_natCast] at hK
   refine gg ?_
   exact(hK h t c s).sub
  ·rw [if_neg (by unfold xY at h0;unfold i4;rw [h0];decide),dW] at hK
   refine gg ?_
   exact(hK h t c s).sub
 ·have e:bz m o=(m,oN 1):=by unfold bz;simp [k1,k2,k3,k4,k5,k6,k7,k8,k9]
  rw [e,dW] at hK
  repeat' (first | (with_reducible refine G.joini0 ?_) | (with_reducible refine G.joini1 ?_) | (with_reducible refine G.drew ?_) | (simp (maxSteps:=2000000) only [↓RG,RP,RB,BEq.rfl,Int.reduceEq,Int.reduceLT,Int.reduceLE,Nat.reduceEqDiff,k1,k2,k3,k4,k5,k6,k7,k8,k9]))
  exact(hK h t c s).sub
theorem zN [i:au L uc b m C](hK:G w0 (C (ob uc b (ay m o).1)) (K (.agg (eW.cells (ay m o).2).toArray))):G w0 L (CP Tryz.prog Wu [ptr b 0,.agg (pD.cells o).toArray] K):=by
 refine i.use (fun M hK=>?_) hK
 refine Ib ?_
 unfold Am
 refine G.box fun p=>?_
 refine G.new fun q=>?_
 refine gr ?_
 refine H8 (m:=m) (o:=o) ?_
 refine G.new fun r=>?_
 refine gr ?_
 refine G.joini0 ?_
 unfold ay at hK
 by_cases he:(bz m o).2.err=0
 ·rw [if_pos he,dW] at hK
  refine eC he ?_
  rw [P7,dW]
  intro h t c s
  refine gr ?_
  have hK:=hK h t c s
  simp only [eW.cells,he] at hK
  exact hK.sub
 ·rw [if_neg he] at hK
  refine eC he ?_
  exact hK.sub
theorem CT (hl:m.w.length≤1000000)[i:au L uc b m C](hK:∀u,bf u [u]→G w0 (sl dd u m.w::L) (K u)):G w0 L (CP Tryz.prog XJ [ptr b 0] K):=by
 refine i.roN (fun M hK=>?_) hK
 rw [dW]
 intro h t c s
 refine CW ?_
 unfold tR
 refine gr ?_
 refine CL (xs:=m.w) hl fun u hu=>?_
 refine gr ?_
 have hk:=hK u hu
 rw [fC,dW] at hk
 exact(hk h t c s).sub
end
end Go.Proofs.YtoealglbimbbmaaGreatDoor.S
