import Derived.Test.YtoealglbimbbmaaGreatDoorReads
namespace Go.Proofs.YtoealglbimbbmaaGreatDoor.S
open Go Go.Proofs
set_option linter.unusedVariables false
set_option linter.unusedSimpArgs false
def t9 (b:Nat)(n:Int):ay:=own b [u64 n]
def u4 (b:Nat)(m:gn):ay:=mW fun h=>mW fun t=>mW fun c=>mW fun s=>bk (bk (bk (bk (own b [i64 m.shape.words,i64 m.shape.stripes,i64 m.shape.wide,i64 m.shape.threads,u64 m.shape.start,ptr h 0,ptr t 0,ptr c 0,ptr s 0,i64 m.count])
 (ob iW h m.w)) (ob nA t (m.l,m.shape.wide))) (ob t9 c m.n)) (ob iW s m.s)
section
variable {w0:bh}{L M:List ay}{K:KV}{F:World→Prop}{C:ay→List ay}{b:Nat}{m:gn}{o:rv}{n:Int}
theorem vY:ob t9 b n=own b [u64 n]:=by rw [eZ,t9]
theorem eS:G w0 (ob u4 b m::M) F=∀h t c s,G w0 (own b [i64 m.shape.words,i64 m.shape.stripes,i64 m.shape.wide,i64 m.shape.threads,u64 m.shape.start,ptr h 0,ptr t 0,ptr c 0,ptr s 0,i64 m.count] ::
  ob iW h m.w::ob nA t (m.l,m.shape.wide)::ob t9 c m.n::ob iW s m.s::M) F:=by
 rw [eZ,u4]
 simp only [qv,fa]
theorem Kw (hK:∀b,G w0 (ob t9 b (if 4611686018427387903<n then 4611686018427387903 else n)::L) (K (ptr b 0))):G w0 L (CP Tryz.prog XM [u64 n] K):=by
 refine Kc ?_
 unfold Do
 refine gr ?_
 refine G.box fun b=>?_
 have h:=hK b
 rw [vY] at h
 exact h
theorem zU [i:aq L t9 b n C](hK:G w0 L (K (u64 n))):G w0 L (CP Tryz.prog XV [ptr b 0] K):=by
 refine i.ro (fun M hK=>?_) hK
 rw [vY] at *
 refine zX ?_
 unfold qx
 refine gr ?_
 exact hK
def oF (n old now:Int):Int×Bool×Int:=if now≤old then (n,false,1) else if 4611686018427387904≤now then (n,false,7) else if n=old then (now,true,0) else (n,false,0)
theorem Bt {old now:Int}[i:aq L t9 b n C](hK:G w0 (C (ob t9 b (oF n old now).1)) (K (.tuple #[.bool (oF n old now).2.1,i64 (oF n old now).2.2]))):G w0 L (CP Tryz.prog XZ [ptr b 0,u64 old,u64 now] K):=by
 refine i.use (fun M hK=>?_) hK
 rw [vY] at *
 refine AP ?_
 unfold rk
 unfold oF at hK
 by_cases c1:now≤old
 ·rw [if_pos c1] at hK
  refine eY c1 ?_
  exact hK
 ·rw [if_neg c1] at hK
  by_cases c2:4611686018427387904≤now
  ·rw [if_pos c2] at hK
   refine eY (an c1 c2) ?_
   exact hK
  ·rw [if_neg c2] at hK
   by_cases c3:n=old
   ·rw [if_pos c3] at hK
    refine eY (an c1 (an c2 c3)) ?_
    exact hK
   ·rw [if_neg c3] at hK
    refine eY (an c1 (an c2 c3)) ?_
    exact hK
theorem jK {n lo hi:Int}(h:lo≤hi):(if (if hi<n then hi else n) > lo then (if hi<n then hi else n) else lo)=held n lo hi:=by
 unfold held;split <;> split <;> (try split) <;> (try split) <;> omega
theorem FE {s:jv}(hK:G w0 L (K (.agg (jv.cells (fD s)).toArray))):G w0 L (CP Tryz.prog Wg [.agg (jv.cells s).toArray] K):=by
 refine Lh ?_
 unfold Fo
 refine G.box fun p=>?_
 refine G.new fun q=>?_
 refine gr ?_
 rw [jK (n:=s.words) (by omega),jK (n:=s.stripes) (by omega),jK (n:=s.wide) (by omega),jK (n:=s.threads) (by omega)]
 have e:(if (4611686018427387903:Int)<s.start then 4611686018427387903 else s.start)=(if 4611686018427387904≤s.start then 4611686018427387903 else s.start):=by split <;> split <;> omega
 rw [e]
 exact hK.sub
theorem fK {n lo hi:Int}(h:lo≤hi):held (held n lo hi) lo hi=held n lo hi:=by
 have:=ft (n:=n) h
 generalize held n lo hi=k at *
 unfold held;split <;> (try split) <;> omega
theorem Oi {s:jv}(hK:∀b,G w0 (ob u4 b (t6 s)::L) (K (ptr b 0))):G w0 L (CP Tryz.prog XE [.agg (jv.cells s).toArray] K):=by
 refine Oc ?_
 unfold Hc
 refine G.box fun p=>?_
 refine gr ?_
 refine FE ?_
 repeat' (first | (with_reducible refine G.joini0 ?_) | (with_reducible refine G.joini1 ?_) | (with_reducible refine G.drew ?_) | (simp (maxSteps:=2000000) only [↓RG,RP,RB,BEq.rfl,Int.reduceEq,Int.reduceLT,Int.reduceLE,Nat.reduceEqDiff]))
 refine Mg fun h=>?_
 refine gr ?_
 refine I2 fun t=>?_
 refine gr ?_
 refine Kw fun c=>?_
 refine gr ?_
 refine JO fun e=>?_
 refine gr ?_
 refine G.box fun b=>?_
 refine gr ?_
 have hk:=hK b
 rw [eS] at hk
 have hk:G w0 (own b [i64 (held s.words 32 256),i64 (held s.stripes 1 16),i64 (held s.wide 1 16),i64 (held s.threads 1 4),u64 (fD s).start,ptr h 0,ptr t 0,ptr c 0,ptr e 0,i64 0] ::
  ob iW h (List.replicate (held s.words 32 256).toNat 0)::ob nA t (List.replicate (held s.stripes 1 16).toNat ah,held s.wide 1 16)::ob t9 c (fD s).start::ob iW e (List.replicate (held s.threads 1 4).toNat 0)::L) (K (ptr b 0)):=hk h t c e
 have e1:(fD s).words=held s.words 32 256:=rfl
 have e2:(fD s).stripes=held s.stripes 1 16:=rfl
 have e3:(fD s).wide=held s.wide 1 16:=rfl
 have e4:(fD s).threads=held s.threads 1 4:=rfl
 have e6:(fD s).start≤4611686018427387903:=by unfold fD;simp only;split <;> omega
 have e5:(if (4611686018427387903:Int)<(fD s).start then 4611686018427387903 else (fD s).start)=(fD s).start:=if_neg (by omega)
 rw [e1,e2,e3,e4,fK (by omega),fK (by omega),fK (by omega),fK (by omega),e5]
 exact hk.sub
theorem N8 {m:gn}{o:rv}(k1:o.kind=1):bx m o=if js o.place m.w then (m,⟨m.w.getD o.place.toNat 0,ah,false,0⟩) else (m,pi 2):=by unfold bx;simp [k1]
theorem O1 {m:gn}{o:rv}(k1:o.kind=2):bx m o=if js o.place m.w then ({ m with w:=m.w.set o.place.toNat o.word },iS) else (m,pi 2):=by unfold bx;simp [k1]
theorem NV {m:gn}{o:rv}(k1:o.kind=3):bx m o=(m,⟨0,(nU m.l o.place).1,false,(nU m.l o.place).2⟩):=by unfold bx;simp [k1]
theorem Og {m:gn}{o:rv}(k1:o.kind=4):bx m o=({ m with l:=(ma m.l o.place o.was o.lock).1 },⟨0,ah,(ma m.l o.place o.was o.lock).2.1,(ma m.l o.place o.was o.lock).2.2⟩):=by unfold bx;simp [k1]
theorem NX {m:gn}{o:rv}(k1:o.kind=5):bx m o=({ m with l:=(ju m.l o.place o.lock).1 },⟨0,ah,false,(ju m.l o.place o.lock).2⟩):=by unfold bx;simp [k1]
theorem N9 {m:gn}{o:rv}(k1:o.kind=6):bx m o=(m,⟨m.n,ah,false,0⟩):=by unfold bx;simp [k1]
theorem Ol {m:gn}{o:rv}(k1:o.kind=7):bx m o=({ m with n:=(oF m.n o.old o.word).1 },⟨0,ah,(oF m.n o.old o.word).2.1,(oF m.n o.old o.word).2.2⟩):=by
 unfold bx oF;simp only [k1];simp only [Int.reduceEq,if_true,if_false,Int.reduceNeg]
 split
 ·rfl
 ·split
  ·rfl
  ·split <;> rfl
theorem ON {m:gn}{o:rv}(k1:o.kind=8):bx m o=if jG o.place m.s.length then (m,⟨m.s.getD o.place.toNat 0,ah,false,0⟩) else (m,pi 2):=by unfold bx;simp [k1]
theorem OB {m:gn}{o:rv}(k1:o.kind=9):bx m o=if jG o.place m.s.length then ({ m with s:=m.s.set o.place.toNat o.word },iS) else (m,pi 2):=by unfold bx;simp [k1]
set_option maxRecDepth 20000 in
set_option maxHeartbeats 4000000 in
theorem Jk [i:aq L u4 b m C](hK:G w0 (C (ob u4 b (bx m o).1)) (K (.agg (fH.cells (bx m o).2).toArray))):G w0 L (CP Tryz.prog XN [ptr b 0,.agg (rv.cells o).toArray] K):=by
 refine i.use (fun M hK=>?_) hK
 refine IB ?_
 unfold Bv
 refine G.box fun p=>?_
 refine G.new fun q=>?_
 refine G.new fun r=>?_
 rw [QC,eS]
 intro h t c s
 refine gr ?_
 by_cases k1:o.kind=1
 ·rw [N8 k1] at hK
  repeat' (first | (with_reducible refine G.joini0 ?_) | (with_reducible refine G.joini1 ?_) | (with_reducible refine G.drew ?_) | (simp (maxSteps:=2000000) only [↓RG,RP,RB,BEq.rfl,Int.reduceEq,Int.reduceLT,Int.reduceLE,Nat.reduceEqDiff,k1]))
  refine CE (xs:=m.w) (fun k hk h1 h2=>?_) (fun h0=>?_)
  ·rw [if_pos (show js o.place m.w=true by unfold js;simp;omega),eS,hk] at hK
   simp only [Int.toNat_natCast] at hK
   refine gg ?_
   exact(hK h t c s).sub
  ·rw [if_neg (by rw [h0];decide),eS] at hK
   refine gg ?_
   exact(hK h t c s).sub
 by_cases k2:o.kind=2
 ·rw [O1 k2] at hK
  repeat' (first | (with_reducible refine G.joini0 ?_) | (with_reducible refine G.joini1 ?_) | (with_reducible refine G.drew ?_) | (simp (maxSteps:=2000000) only [↓RG,RP,RB,BEq.rfl,Int.reduceEq,Int.reduceLT,Int.reduceLE,Nat.reduceEqDiff,k2]))
  refine AF (xs:=m.w) (fun k hk h1 h2=>?_) (fun h0=>?_)
  ·rw [if_pos (show js o.place m.w=true by unfold js;simp;omega),eS,hk] at hK
   simp only [Int.toNat_natCast] at hK
   refine gg ?_
   exact(hK h t c s).sub
  ·rw [if_neg (by rw [h0];decide),eS] at hK
   refine gg ?_
   exact(hK h t c s).sub
 by_cases k3:o.kind=3
 ·rw [NV k3,eS] at hK
  repeat' (first | (with_reducible refine G.joini0 ?_) | (with_reducible refine G.joini1 ?_) | (with_reducible refine G.drew ?_) | (simp (maxSteps:=2000000) only [↓RG,RP,RB,BEq.rfl,Int.reduceEq,Int.reduceLT,Int.reduceLE,Nat.reduceEqDiff,k3]))
  refine yz (ls:=m.l) ?_
  refine gg ?_
  exact(hK h t c s).sub
 by_cases k4:o.kind=4
 ·rw [Og k4,eS] at hK
  repeat' (first | (with_reducible refine G.joini0 ?_) | (with_reducible refine G.joini1 ?_) | (with_reducible refine G.drew ?_) | (simp (maxSteps:=2000000) only [↓RG,RP,RB,BEq.rfl,Int.reduceEq,Int.reduceLT,Int.reduceLE,Nat.reduceEqDiff,k4]))
  refine zG (ls:=m.l) ?_
  refine gg ?_
  exact(hK h t c s).sub
 by_cases k5:o.kind=5
 ·rw [NX k5,eS] at hK
  repeat' (first | (with_reducible refine G.joini0 ?_) | (with_reducible refine G.joini1 ?_) | (with_reducible refine G.drew ?_) | (simp (maxSteps:=2000000) only [↓RG,RP,RB,BEq.rfl,Int.reduceEq,Int.reduceLT,Int.reduceLE,Nat.reduceEqDiff,k5]))
  refine wI (ls:=m.l) ?_
  refine gg ?_
  exact(hK h t c s).sub
 by_cases k6:o.kind=6
 ·rw [N9 k6,eS] at hK
  repeat' (first | (with_reducible refine G.joini0 ?_) | (with_reducible refine G.joini1 ?_) | (with_reducible refine G.drew ?_) | (simp (maxSteps:=2000000) only [↓RG,RP,RB,BEq.rfl,Int.reduceEq,Int.reduceLT,Int.reduceLE,Nat.reduceEqDiff,k6]))
  refine zU (n:=m.n) ?_
  refine gg ?_
  exact(hK h t c s).sub
 by_cases k7:o.kind=7
 ·rw [Ol k7,eS] at hK
  repeat' (first | (with_reducible refine G.joini0 ?_) | (with_reducible refine G.joini1 ?_) | (with_reducible refine G.drew ?_) | (simp (maxSteps:=2000000) only [↓RG,RP,RB,BEq.rfl,Int.reduceEq,Int.reduceLT,Int.reduceLE,Nat.reduceEqDiff,k7]))
  refine Bt (n:=m.n) ?_
  refine gg ?_
  exact(hK h t c s).sub
 by_cases k8:o.kind=8
 ·rw [ON k8] at hK
  repeat' (first | (with_reducible refine G.joini0 ?_) | (with_reducible refine G.joini1 ?_) | (with_reducible refine G.drew ?_) | (simp (maxSteps:=2000000) only [↓RG,RP,RB,BEq.rfl,Int.reduceEq,Int.reduceLT,Int.reduceLE,Nat.reduceEqDiff,k8]))
  refine Af (xs:=m.s) (fun k hk h1=>?_) (fun h0=>?_)
  ·rw [if_pos (show jG o.place m.s.length=true by unfold jG;simp;omega),eS,hk] at hK
   simp only [Int.toNat_natCast] at hK
   refine gg ?_
   exact(hK h t c s).sub
  ·rw [if_neg (by unfold yH at h0;unfold jG;rw [h0];decide),eS] at hK
   refine gg ?_
   exact(hK h t c s).sub
 by_cases k9:o.kind=9
 ·rw [OB k9] at hK
  repeat' (first | (with_reducible refine G.joini0 ?_) | (with_reducible refine G.joini1 ?_) | (with_reducible refine G.drew ?_) | (simp (maxSteps:=2000000) only [↓RG,RP,RB,BEq.rfl,Int.reduceEq,Int.reduceLT,Int.reduceLE,Nat.reduceEqDiff,k9]))
  refine yn (xs:=m.s) (fun k hk h1=>?_) (fun h0=>?_)
  ·rw [if_pos (show jG o.place m.s.length=true by unfold jG;simp;omega),eS,hk] at hK
   simp only [Int.toNat_natCast] at hK
   refine gg ?_
   exact(hK h t c s).sub
  ·rw [if_neg (by unfold yH at h0;unfold jG;rw [h0];decide),eS] at hK
   refine gg ?_
   exact(hK h t c s).sub
 ·have e:bx m o=(m,pi 1):=by unfold bx;simp [k1,k2,k3,k4,k5,k6,k7,k8,k9]
  rw [e,eS] at hK
  repeat' (first | (with_reducible refine G.joini0 ?_) | (with_reducible refine G.joini1 ?_) | (with_reducible refine G.drew ?_) | (simp (maxSteps:=2000000) only [↓RG,RP,RB,BEq.rfl,Int.reduceEq,Int.reduceLT,Int.reduceLE,Nat.reduceEqDiff,k1,k2,k3,k4,k5,k6,k7,k8,k9]))
  exact(hK h t c s).sub
theorem Bn [i:aq L u4 b m C](hK:G w0 (C (ob u4 b (az m o).1)) (K (.agg (fH.cells (az m o).2).toArray))):G w0 L (CP Tryz.prog Wf [ptr b 0,.agg (rv.cells o).toArray] K):=by
 refine i.use (fun M hK=>?_) hK
 refine Jl ?_
 unfold Bl
 refine G.box fun p=>?_
 refine G.new fun q=>?_
 refine gr ?_
 refine Jk (m:=m) (o:=o) ?_
 refine G.new fun r=>?_
 refine gr ?_
 refine G.joini0 ?_
 unfold az at hK
 by_cases he:(bx m o).2.err=0
 ·rw [if_pos he,eS] at hK
  refine eY he ?_
  rw [QC,eS]
  intro h t c s
  refine gr ?_
  have hK:=hK h t c s
  simp only [fH.cells,he] at hK
  exact hK.sub
 ·rw [if_neg he] at hK
  refine eY he ?_
  exact hK.sub
theorem DN (hl:m.w.length≤1000000)[i:aq L u4 b m C](hK:∀u,ar u [u]→G w0 (sl cx u m.w::L) (K u)):G w0 L (CP Tryz.prog XH [ptr b 0] K):=by
 refine i.roN (fun M hK=>?_) hK
 rw [eS]
 intro h t c s
 refine DC ?_
 unfold uw
 refine gr ?_
 refine DI (xs:=m.w) hl fun u hu=>?_
 refine gr ?_
 have hk:=hK u hu
 rw [fA,eS] at hk
 exact(hk h t c s).sub
end
end Go.Proofs.YtoealglbimbbmaaGreatDoor.S
