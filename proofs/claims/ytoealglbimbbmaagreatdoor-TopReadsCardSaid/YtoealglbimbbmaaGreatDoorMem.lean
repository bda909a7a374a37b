import Derived.Test.YtoealglbimbbmaaGreatDoorReads
namespace Go.Proofs.YtoealglbimbbmaaGreatDoor.S
open Go Go.Proofs
set_option linter.unusedVariables false
set_option linter.unusedSimpArgs false
def uq (b:Nat)(n:Int):ax:=own b [u64 n]
def vJ (b:Nat)(m:fJ):ax:=jX fun h=>jX fun t=>jX fun c=>jX fun s=>bu (bu (bu (bu (own b [i64 m.shape.words,i64 m.shape.stripes,i64 m.shape.wide,i64 m.shape.threads,u64 m.shape.start,ptr h 0,ptr t 0,ptr c 0,ptr s 0,i64 m.count])
 (ob iw h m.w)) (ob mG t (m.l,m.shape.wide))) (ob uq c m.n)) (ob iw s m.s)
section
variable {w0:bg}{L M:List ax}{K:KV}{F:World→Prop}{C:ax→List ax}{b:Nat}{m:fJ}{o:rv}{n:Int}
theorem wZ:ob uq b n=own b [u64 n]:=by rw [dO,uq]
theorem dX:G w0 (ob vJ b m::M) F=∀h t c s,G w0 (own b [i64 m.shape.words,i64 m.shape.stripes,i64 m.shape.wide,i64 m.shape.threads,u64 m.shape.start,ptr h 0,ptr t 0,ptr c 0,ptr s 0,i64 m.count] ::
  ob iw h m.w::ob mG t (m.l,m.shape.wide)::ob uq c m.n::ob iw s m.s::M) F:=by
 rw [dO,vJ]
 simp only [lT,dP]
theorem Ll (hK:∀b,G w0 (ob uq b (if 4611686018427387903<n then 4611686018427387903 else n)::L) (K (ptr b 0))):G w0 L (CP Tryz.prog aaZ [u64 n] K):=by
 refine LH ?_
 unfold Ec
 refine gr ?_
 refine G.box fun b=>?_
 have h:=hK b
 rw [wZ] at h
 exact h
theorem Av [i:al L uq b n C](hK:G w0 L (K (u64 n))):G w0 L (CP Tryz.prog aa9 [ptr b 0] K):=by
 refine i.ro (fun M hK=>?_) hK
 rw [wZ] at *
 refine Ay ?_
 unfold pV
 refine gr ?_
 exact hK
def nP (n old now:Int):Int×Bool×Int:=if now≤old then (n,false,1) else if 4611686018427387904≤now then (n,false,7) else if n=old then (now,true,0) else (n,false,0)
theorem Bl {old now:Int}[i:al L uq b n C](hK:G w0 (C (ob uq b (nP n old now).1)) (K (.tuple #[.bool (nP n old now).2.1,i64 (nP n old now).2.2]))):G w0 L (CP Tryz.prog abd [ptr b 0,u64 old,u64 now] K):=by
 refine i.use (fun M hK=>?_) hK
 rw [wZ] at *
 refine Br ?_
 unfold rt
 unfold nP at hK
 by_cases c1:now≤old
 ·rw [if_pos c1] at hK
  refine dN c1 ?_
  exact hK
 ·rw [if_neg c1] at hK
  by_cases c2:4611686018427387904≤now
  ·rw [if_pos c2] at hK
   refine dN (an c1 c2) ?_
   exact hK
  ·rw [if_neg c2] at hK
   by_cases c3:n=old
   ·rw [if_pos c3] at hK
    refine dN (an c1 (an c2 c3)) ?_
    exact hK
   ·rw [if_neg c3] at hK
    refine dN (an c1 (an c2 c3)) ?_
    exact hK
theorem jt {n lo hi:Int}(h:lo≤hi):(if (if hi<n then hi else n) > lo then (if hi<n then hi else n) else lo)=held n lo hi:=by
 unfold held;split <;> split <;> (try split) <;> (try split) <;> omega
theorem F2 {s:jk}(hK:G w0 L (K (.agg (jk.cells (ff s)).toArray))):G w0 L (CP Tryz.prog YY [.agg (jk.cells s).toArray] K):=by
 refine Ny ?_
 unfold GM
 refine G.box fun p=>?_
 refine G.new fun q=>?_
 refine gr ?_
 rw [jt (n:=s.words) (by omega),jt (n:=s.stripes) (by omega),jt (n:=s.wide) (by omega),jt (n:=s.threads) (by omega)]
 have e:(if (4611686018427387903:Int)<s.start then 4611686018427387903 else s.start)=(if 4611686018427387904≤s.start then 4611686018427387903 else s.start):=by split <;> split <;> omega
 rw [e]
 exact hK.sub
theorem fo {n lo hi:Int}(h:lo≤hi):held (held n lo hi) lo hi=held n lo hi:=by
 have:=eQ (n:=n) h
 generalize held n lo hi=k at *
 unfold held;split <;> (try split) <;> omega
theorem P8 {s:jk}(hK:∀b,G w0 (ob vJ b (t9 s)::L) (K (ptr b 0))):G w0 L (CP Tryz.prog aaP [.agg (jk.cells s).toArray] K):=by
 refine QQ ?_
 unfold Jv
 refine G.box fun p=>?_
 refine gr ?_
 refine F2 ?_
 repeat' (first | (with_reducible refine G.joini0 ?_) | (with_reducible refine G.joini1 ?_) | (with_reducible refine G.drew ?_) | (simp (maxSteps:=2000000) only [↓RG,RP,RB,BEq.rfl,Int.reduceEq,Int.reduceLT,Int.reduceLE,Nat.reduceEqDiff]))
 refine NH fun h=>?_
 refine gr ?_
 refine JP fun t=>?_
 refine gr ?_
 refine Ll fun c=>?_
 refine gr ?_
 refine MZ fun e=>?_
 refine gr ?_
 refine G.box fun b=>?_
 refine gr ?_
 have hk:=hK b
 rw [dX] at hk
 have hk:G w0 (own b [i64 (held s.words 32 256),i64 (held s.stripes 1 16),i64 (held s.wide 1 16),i64 (held s.threads 1 4),u64 (ff s).start,ptr h 0,ptr t 0,ptr c 0,ptr e 0,i64 0] ::
  ob iw h (List.replicate (held s.words 32 256).toNat 0)::ob mG t (List.replicate (held s.stripes 1 16).toNat ai,held s.wide 1 16)::ob uq c (ff s).start::ob iw e (List.replicate (held s.threads 1 4).toNat 0)::L) (K (ptr b 0)):=hk h t c e
 have e1:(ff s).words=held s.words 32 256:=rfl
 have e2:(ff s).stripes=held s.stripes 1 16:=rfl
 have e3:(ff s).wide=held s.wide 1 16:=rfl
 have e4:(ff s).threads=held s.threads 1 4:=rfl
 have e6:(ff s).start≤4611686018427387903:=by unfold ff;simp only;split <;> omega
 have e5:(if (4611686018427387903:Int)<(ff s).start then 4611686018427387903 else (ff s).start)=(ff s).start:=if_neg (by omega)
 rw [e1,e2,e3,e4,fo (by omega),fo (by omega),fo (by omega),fo (by omega),e5]
 exact hk.sub
theorem QN {m:fJ}{o:rv}(k1:o.kind=1):cr m o=if jc o.place m.w then (m,⟨m.w.getD o.place.toNat 0,ai,false,0⟩) else (m,oK 2):=by unfold cr;simp [k1]
theorem PP {m:fJ}{o:rv}(k1:o.kind=2):cr m o=if jc o.place m.w then ({ m with w:=m.w.set o.place.toNat o.word },il) else (m,oK 2):=by unfold cr;simp [k1]
theorem QX {m:fJ}{o:rv}(k1:o.kind=3):cr m o=(m,⟨0,(m9 m.l o.place).1,false,(m9 m.l o.place).2⟩):=by unfold cr;simp [k1]
theorem PE {m:fJ}{o:rv}(k1:o.kind=4):cr m o=({ m with l:=(lJ m.l o.place o.was o.lock).1 },⟨0,ai,(lJ m.l o.place o.was o.lock).2.1,(lJ m.l o.place o.was o.lock).2.2⟩):=by unfold cr;simp [k1]
theorem PQ {m:fJ}{o:rv}(k1:o.kind=5):cr m o=({ m with l:=(je m.l o.place o.lock).1 },⟨0,ai,false,(je m.l o.place o.lock).2⟩):=by unfold cr;simp [k1]
theorem P5 {m:fJ}{o:rv}(k1:o.kind=6):cr m o=(m,⟨m.n,ai,false,0⟩):=by unfold cr;simp [k1]
theorem Q7 {m:fJ}{o:rv}(k1:o.kind=7):cr m o=({ m with n:=(nP m.n o.old o.word).1 },⟨0,ai,(nP m.n o.old o.word).2.1,(nP m.n o.old o.word).2.2⟩):=by
 unfold cr nP;simp only [k1];simp only [Int.reduceEq,if_true,if_false,Int.reduceNeg]
 split
 ·rfl
 ·split
  ·rfl
  ·split <;> rfl
theorem Qc {m:fJ}{o:rv}(k1:o.kind=8):cr m o=if jg o.place m.s.length then (m,⟨m.s.getD o.place.toNat 0,ai,false,0⟩) else (m,oK 2):=by unfold cr;simp [k1]
theorem PM {m:fJ}{o:rv}(k1:o.kind=9):cr m o=if jg o.place m.s.length then ({ m with s:=m.s.set o.place.toNat o.word },il) else (m,oK 2):=by unfold cr;simp [k1]
set_option maxRecDepth 20000 in
set_option maxHeartbeats 4000000 in
theorem KA [i:al L vJ b m C](hK:G w0 (C (ob vJ b (cr m o).1)) (K (.agg (fi.cells (cr m o).2).toArray))):G w0 L (CP Tryz.prog aa0 [ptr b 0,.agg (rv.cells o).toArray] K):=by
 refine i.use (fun M hK=>?_) hK
 refine KK ?_
 unfold Cz
 refine G.box fun p=>?_
 refine G.new fun q=>?_
 refine G.new fun r=>?_
 rw [R2,dX]
 intro h t c s
 refine gr ?_
 by_cases k1:o.kind=1
 ·rw [QN k1] at hK
  repeat' (first | (with_reducible refine G.joini0 ?_) | (with_reducible refine G.joini1 ?_) | (with_reducible refine G.drew ?_) | (simp (maxSteps:=2000000) only [↓RG,RP,RB,BEq.rfl,Int.reduceEq,Int.reduceLT,Int.reduceLE,Nat.reduceEqDiff,k1]))
  refine CT (xs:=m.w) (fun k hk h1 h2=>?_) (fun h0=>?_)
  ·rw [if_pos (show jc o.place m.w=true by unfold jc;simp;omega),dX,hk] at hK
   simp only [Int.toNat_natCast] at hK
   refine gg ?_
   exact(hK h t c s).sub
  ·rw [if_neg (by rw [h0];decide),dX] at hK
   refine gg ?_
   exact(hK h t c s).sub
 by_cases k2:o.kind=2
 ·rw [PP k2] at hK
  repeat' (first | (with_reducible refine G.joini0 ?_) | (with_reducible refine G.joini1 ?_) | (with_reducible refine G.drew ?_) | (simp (maxSteps:=2000000) only [↓RG,RP,RB,BEq.rfl,Int.reduceEq,Int.reduceLT,Int.reduceLE,Nat.reduceEqDiff,k2]))
  refine A6 (xs:=m.w) (fun k hk h1 h2=>?_) (fun h0=>?_)
  ·rw [if_pos (show jc o.place m.w=true by unfold jc;simp;omega),dX,hk] at hK
   simp only [Int.toNat_natCast] at hK
   refine gg ?_
   exact(hK h t c s).sub
  ·rw [if_neg (by rw [h0];decide),dX] at hK
   refine gg ?_
   exact(hK h t c s).sub
 by_cases k3:o.kind=3
 ·rw [QX k3,dX] at hK
  repeat' (first | (with_reducible refine G.joini0 ?_) | (with_reducible refine G.joini1 ?_) | (with_reducible refine G.drew ?_) | (simp (maxSteps:=2000000) only [↓RG,RP,RB,BEq.rfl,Int.reduceEq,Int.reduceLT,Int.reduceLE,Nat.reduceEqDiff,k3]))
  refine yR (ls:=m.l) ?_
  refine gg ?_
  exact(hK h t c s).sub
 by_cases k4:o.kind=4
 ·rw [PE k4,dX] at hK
  repeat' (first | (with_reducible refine G.joini0 ?_) | (with_reducible refine G.joini1 ?_) | (with_reducible refine G.drew ?_) | (simp (maxSteps:=2000000) only [↓RG,RP,RB,BEq.rfl,Int.reduceEq,Int.reduceLT,Int.reduceLE,Nat.reduceEqDiff,k4]))
  refine z7 (ls:=m.l) ?_
  refine gg ?_
  exact(hK h t c s).sub
 by_cases k5:o.kind=5
 ·rw [PQ k5,dX] at hK
  repeat' (first | (with_reducible refine G.joini0 ?_) | (with_reducible refine G.joini1 ?_) | (with_reducible refine G.drew ?_) | (simp (maxSteps:=2000000) only [↓RG,RP,RB,BEq.rfl,Int.reduceEq,Int.reduceLT,Int.reduceLE,Nat.reduceEqDiff,k5]))
  refine wv (ls:=m.l) ?_
  refine gg ?_
  exact(hK h t c s).sub
 by_cases k6:o.kind=6
 ·rw [P5 k6,dX] at hK
  repeat' (first | (with_reducible refine G.joini0 ?_) | (with_reducible refine G.joini1 ?_) | (with_reducible refine G.drew ?_) | (simp (maxSteps:=2000000) only [↓RG,RP,RB,BEq.rfl,Int.reduceEq,Int.reduceLT,Int.reduceLE,Nat.reduceEqDiff,k6]))
  refine Av (n:=m.n) ?_
  refine gg ?_
  exact(hK h t c s).sub
 by_cases k7:o.kind=7
 ·rw [Q7 k7,dX] at hK
  repeat' (first | (with_reducible refine G.joini0 ?_) | (with_reducible refine G.joini1 ?_) | (with_reducible refine G.drew ?_) | (simp (maxSteps:=2000000) only [↓RG,RP,RB,BEq.rfl,Int.reduceEq,Int.reduceLT,Int.reduceLE,Nat.reduceEqDiff,k7]))
  refine Bl (n:=m.n) ?_
  refine gg ?_
  exact(hK h t c s).sub
 by_cases k8:o.kind=8
 ·rw [Qc k8] at hK
  repeat' (first | (with_reducible refine G.joini0 ?_) | (with_reducible refine G.joini1 ?_) | (with_reducible refine G.drew ?_) | (simp (maxSteps:=2000000) only [↓RG,RP,RB,BEq.rfl,Int.reduceEq,Int.reduceLT,Int.reduceLE,Nat.reduceEqDiff,k8]))
  refine zS (xs:=m.s) (fun k hk h1=>?_) (fun h0=>?_)
  ·rw [if_pos (show jg o.place m.s.length=true by unfold jg;simp;omega),dX,hk] at hK
   simp only [Int.toNat_natCast] at hK
   refine gg ?_
   exact(hK h t c s).sub
  ·rw [if_neg (by unfold zH at h0;unfold jg;rw [h0];decide),dX] at hK
   refine gg ?_
   exact(hK h t c s).sub
 by_cases k9:o.kind=9
 ·rw [PM k9] at hK
  repeat' (first | (with_reducible refine G.joini0 ?_) | (with_reducible refine G.joini1 ?_) | (with_reducible refine G.drew ?_) | (simp (maxSteps:=2000000) only [↓RG,RP,RB,BEq.rfl,Int.reduceEq,Int.reduceLT,Int.reduceLE,Nat.reduceEqDiff,k9]))
  refine yQ (xs:=m.s) (fun k hk h1=>?_) (fun h0=>?_)
  ·rw [if_pos (show jg o.place m.s.length=true by unfold jg;simp;omega),dX,hk] at hK
   simp only [Int.toNat_natCast] at hK
   refine gg ?_
   exact(hK h t c s).sub
  ·rw [if_neg (by unfold zH at h0;unfold jg;rw [h0];decide),dX] at hK
   refine gg ?_
   exact(hK h t c s).sub
 ·have e:cr m o=(m,oK 1):=by unfold cr;simp [k1,k2,k3,k4,k5,k6,k7,k8,k9]
  rw [e,dX] at hK
  repeat' (first | (with_reducible refine G.joini0 ?_) | (with_reducible refine G.joini1 ?_) | (with_reducible refine G.drew ?_) | (simp (maxSteps:=2000000) only [↓RG,RP,RB,BEq.rfl,Int.reduceEq,Int.reduceLT,Int.reduceLE,Nat.reduceEqDiff,k1,k2,k3,k4,k5,k6,k7,k8,k9]))
  exact(hK h t c s).sub
theorem BF [i:al L vJ b m C](hK:G w0 (C (ob vJ b (az m o).1)) (K (.agg (fi.cells (az m o).2).toArray))):G w0 L (CP Tryz.prog YV [ptr b 0,.agg (rv.cells o).toArray] K):=by
 refine i.use (fun M hK=>?_) hK
 refine JM ?_
 unfold Cv
 refine G.box fun p=>?_
 refine G.new fun q=>?_
 refine gr ?_
 refine KA (m:=m) (o:=o) ?_
 refine G.new fun r=>?_
 refine gr ?_
 refine G.joini0 ?_
 unfold az at hK
 by_cases he:(cr m o).2.err=0
 ·rw [if_pos he,dX] at hK
  refine dN he ?_
  rw [R2,dX]
  intro h t c s
  refine gr ?_
  have hK:=hK h t c s
  simp only [fi.cells,he] at hK
  exact hK.sub
 ·rw [if_neg he] at hK
  refine dN he ?_
  exact hK.sub
theorem ER (hl:m.w.length≤1000000)[i:al L vJ b m C](hK:∀u,av u [u]→G w0 (sl de u m.w::L) (K u)):G w0 L (CP Tryz.prog aaQ [ptr b 0] K):=by
 refine i.roN (fun M hK=>?_) hK
 rw [dX]
 intro h t c s
 refine EW ?_
 unfold uQ
 refine gr ?_
 refine EU (xs:=m.w) hl fun u hu=>?_
 refine gr ?_
 have hk:=hK u hu
 rw [eN,dX] at hk
 exact(hk h t c s).sub
end
end Go.Proofs.YtoealglbimbbmaaGreatDoor.S
