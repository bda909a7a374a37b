import Derived.Test.YtoealglbimbbmaaGreatDoorStripe
import Derived.Test.YtoealglbimbbmaaGreatDoorLimbo
import Derived.Test.YtoealglbimbbmaaGreatDoorBook
namespace Go.Proofs.YtoealglbimbbmaaGreatDoor.S
open Go Go.Proofs
set_option linter.unusedVariables false
set_option linter.unusedSimpArgs false
structure gn where
 shape:jv
 w:List Int
 l:List cw
 n:Int
 s:List Int
 count:Int
def iS:fH:=⟨0,ah,false,0⟩
def pi (e:Int):fH:=⟨0,ah,false,e⟩
def bx (m:gn)(o:rv):gn×fH :=
 if o.kind=1 then (if js o.place m.w then (m,⟨m.w.getD o.place.toNat 0,ah,false,0⟩) else (m,pi 2))
 else if o.kind=2 then (if js o.place m.w then ({ m with w:=m.w.set o.place.toNat o.word },iS) else (m,pi 2))
 else if o.kind=3 then (m,⟨0,(nU m.l o.place).1,false,(nU m.l o.place).2⟩)
 else if o.kind=4 then ({ m with l:=(ma m.l o.place o.was o.lock).1 },⟨0,ah,(ma m.l o.place o.was o.lock).2.1,(ma m.l o.place o.was o.lock).2.2⟩)
 else if o.kind=5 then ({ m with l:=(ju m.l o.place o.lock).1 },⟨0,ah,false,(ju m.l o.place o.lock).2⟩)
 else if o.kind=6 then (m,⟨m.n,ah,false,0⟩)
 else if o.kind=7 then (if o.word≤o.old then (m,pi 1) else if 4611686018427387904≤o.word then (m,pi 7) else if m.n=o.old then ({ m with n:=o.word },⟨0,ah,true,0⟩) else (m,iS))
 else if o.kind=8 then (if jG o.place m.s.length then (m,⟨m.s.getD o.place.toNat 0,ah,false,0⟩) else (m,pi 2))
 else if o.kind=9 then (if jG o.place m.s.length then ({ m with s:=m.s.set o.place.toNat o.word },iS) else (m,pi 2))
 else (m,pi 1)
def az (m:gn)(o:rv):gn×fH :=
 if (bx m o).2.err=0 then ({ (bx m o).1 with count:=IntKind.wrap .i64 ((bx m o).1.count+1) },(bx m o).2) else bx m o
def fD (s:jv):jv:=⟨held s.words 32 256,held s.stripes 1 16,held s.wide 1 16,held s.threads 1 4,if 4611686018427387904≤s.start then 4611686018427387903 else s.start⟩
def t6 (s:jv):gn:=⟨fD s,List.replicate (held s.words 32 256).toNat 0,List.replicate (held s.stripes 1 16).toNat ah,(fD s).start,List.replicate (held s.threads 1 4).toNat 0,0⟩
structure yb (m m':gn):Prop where
 w:m'.w.length=m.w.length
 l:m'.l.length=m.l.length
 s:m'.s.length=m.s.length
 shape:m'.shape=m.shape
theorem yb.refl (m:gn):yb m m:=⟨rfl,rfl,rfl,rfl⟩
theorem yb.trans {a b c:gn}(h:yb a b)(h':yb b c):yb a c:=⟨h'.w.trans h.w,h'.l.trans h.l,h'.s.trans h.s,h'.shape.trans h.shape⟩
def U3 (b:Nat)(m:gn):ay:=mW fun vw=>mW fun vl=>mW fun vs=>bk (ie (ar vw [vw]∧ar vl [vl]∧ar vs [vs]))
 (bk (bk (bk (own b [i64 m.shape.words,i64 m.shape.stripes,i64 m.shape.wide,i64 m.shape.threads,u64 m.shape.start,vw,vl,u64 m.n,vs,i64 m.count]) (sl cx vw m.w)) (sl lJ vl m.l)) (sl cx vs m.s))
section
variable {w0:bh}{L M:List ay}{K:KV}{F:World→Prop}{C:ay→List ay}{b:Nat}{m:gn}{o:rv}
end
end Go.Proofs.YtoealglbimbbmaaGreatDoor.S
namespace Go.Proofs.YtoealglbimbbmaaGreatDoor.S
open Go Go.Proofs
set_option linter.unusedVariables false
set_option linter.unusedSimpArgs false
def fv (b:Nat)(s:Int×List fQ):ay:=mW fun v=>bk (ie (ar v [v])) (bk (own b [i64 s.1,v]) (sl gq v s.2))
def lG (xs:List fQ)(k:Int):Option Int:=(xs.find? fun x=>decide (x.stripe=k)).map (·.version)
def nH (m:Int)(xs:List fQ)(x:fQ):Int :=
 if x.stripe<0∨16≤x.stripe∨4611686018427387904≤x.version then 1 else
 match lG xs x.stripe with
 | some v=>if v=x.version then 0 else 14
 | none=>if (xs.length:Int)=m then 5 else 0
def nW (m:Int)(xs:List fQ)(x:fQ):List fQ :=
 if x.stripe<0∨16≤x.stripe∨4611686018427387904≤x.version then xs else
 match lG xs x.stripe with
 | some _=>xs
 | none=>if (xs.length:Int)=m then xs else xs++[x]
def Qs (locks:List cw)(x:fQ):Bool:=match locks[x.stripe.toNat]? with
 | some l=>!l.held && decide (l.version=x.version)
 | none=>false
def SU (xs:List fQ)(locks:List cw):Bool:=xs.all (Qs locks)
section
variable {w0:bh}{L M:List ay}{K:KV}{F:World→Prop}{C:ay→List ay}{b:Nat}{m:Int}{xs:List fQ}
theorem jz:G w0 (ob fv b (m,xs)::M) F=∀v,ar v [v]→G w0 (own b [i64 m,v]::sl gq v xs::M) F:=by
 rw [eZ,fv]
 simp only [qv,fa,fU]
theorem Gh {n:Int}:(if (if (16:Int)<n then (16:Int) else n) > 1 then (if (16:Int)<n then (16:Int) else n) else 1)=held n 1 16:=by
 unfold held;split <;> split <;> (try split) <;> (try split) <;> omega
theorem J9 {n:Int}(hK:∀b,G w0 (ob fv b (held n 1 16,[])::L) (K (ptr b 0))):G w0 L (CP Tryz.prog Yf [i64 n] K):=by
 refine Kb ?_
 unfold Dv
 refine gr ?_
 rw [Gh]
 refine G.nilsl gq ?_
 refine G.box fun b=>?_
 have:=hK b
 rw [jz] at this
 exact this _ be
theorem mm [i:aq L fv b (m,xs) C](hl:xs.length≤1000000)(hK:∀u,ar u [u]→G w0 (sl gq u xs::L) (K u)):G w0 L (CP Tryz.prog VI [ptr b 0] K):=by
 refine i.roN (fun M hK=>?_) hK
 rw [jz]
 intro v hv
 refine Ar ?_
 unfold rD
 refine gr ?_
 refine fB hl fun u hu=>?_
 have:=hK u hu
 rw [fA,jz] at this
 exact G.sub (this v hv)
theorem JQ (x:fQ)(xs:List fQ)(k:Int):lG (x::xs) k=if x.stripe=k then some x.version else lG xs k:=by
 unfold lG
 by_cases h:x.stripe=k <;> simp [List.find?_cons,h]
def U5 (o:Option Int):Value:=.tuple #[u64 (o.getD 0),.bool o.isSome]
theorem AV {k:Int}[i:aq L fv b (m,xs) C](hl:xs.length≤1000000)(hK:G w0 L (K (.tuple #[u64 ((lG xs k).getD 0),.bool (lG xs k).isSome]))):G w0 L (CP Tryz.prog YG [ptr b 0,i64 k] K):=by
 refine i.ro (fun M hK=>?_) hK
 rw [jz] at *
 intro v hv
 refine BO ?_
 unfold rl
 refine gr ?_
 refine G.loopc1 (fun j:Nat=>i64 j) (fun j=>j≤xs.length∧lG xs k=lG (xs.drop j) k) (fun j=>xs.length-j) 0 rfl ⟨by omega,by simp⟩ ?_
 rintro j ⟨hj,hp⟩ J hJ
 refine gr ?_
 refine G.cond (fun h=>?_) (fun h=>?_)
 ·have hj2:j<xs.length:=by simpa using h
  have e:=ct hj2
  rw [List.drop_eq_getElem_cons hj2,JQ] at hp
  refine gr ?_
  refine G.new fun p=>?_
  refine gr ?_
  refine G.cond (fun h=>?_) (fun h=>?_)
  ·rw [if_pos (by simpa using h)] at hp
   refine gr ?_
   have:=hK v hv
   rw [hp] at this
   exact this.sub
  ·rw [if_neg (by simpa using h)] at hp
   rw [di (by omega)]
   exact(hJ (j+1) ⟨hj2,hp⟩ (by omega)).sub
 ·have:xs.drop j=[]:=List.drop_eq_nil_of_le (by simpa using h)
  rw [this] at hp
  have:=hK v hv
  rw [hp] at this
  exact this
theorem Bx {x:fQ}[i:aq L fv b (m,xs) C](hl:xs.length≤1000)(hK:G w0 (C (ob fv b (m,nW m xs x))) (K (i64 (nH m xs x)))) :
  G w0 L (CP Tryz.prog Yx [ptr b 0,.agg #[i64 x.stripe,u64 x.version]] K):=by
 refine i.use (fun M hK=>?_) hK
 refine Ao ?_
 unfold rB
 refine gu ?_
 refine G.box fun p=>?_
 refine gr ?_
 refine G.any (decide (16≤x.stripe)) (fun _ K hK=>by refine gr ?_;exact hK) ?_
 refine G.any (decide (4611686018427387904≤x.version)) (fun _ K hK=>by refine gr ?_;exact hK) ?_
 unfold nH nW at hK
 refine G.cond (fun h=>?_) (fun h=>?_)
 ·have h:x.stripe<0∨16≤x.stripe∨4611686018427387904≤x.version:=by simpa [or_assoc] using h
  rw [if_pos h,if_pos h] at hK
  exact hK.sub
 ·have h:¬(x.stripe<0∨16≤x.stripe∨4611686018427387904≤x.version):=by simp at h;omega
  rw [if_neg h,if_neg h] at hK
  refine gr ?_
  refine AV (xs:=xs) (by omega) ?_
  cases hs:lG xs x.stripe with
  | some v =>
   simp only [hs] at hK
   try simp (maxSteps:=2000000) only [↓RG,RP,RB,BEq.rfl,Int.reduceEq,Int.reduceLT,Int.reduceLE,Nat.reduceEqDiff,Option.getD_some,Option.isSome_some]
   refine G.cond (fun h=>?_) (fun h=>?_)
   ·rw [if_neg (by simpa using h)] at hK
    exact hK.sub
   ·rw [if_pos (by simpa using h)] at hK
    exact hK.sub
  | none =>
   simp only [hs] at hK
   try simp (maxSteps:=2000000) only [↓RG,RP,RB,BEq.rfl,Int.reduceEq,Int.reduceLT,Int.reduceLE,Nat.reduceEqDiff,Option.isSome_none]
   refine G.drew ?_
   rw [fA,jz]
   intro v hv
   refine gr ?_
   refine G.cond (fun h=>?_) (fun h=>?_)
   ·have h:(xs.length:Int)=m:=by simpa using h
    rw [if_pos h,if_pos h,jz] at hK
    exact(hK v hv).sub
   ·have h:¬(xs.length:Int)=m:=by simpa using h
    rw [if_neg h,if_neg h,jz] at hK
    refine G.drew ?_
    refine gr ?_
    refine G.build gq [x] rfl (by decide) rfl fun y hy=>?_
    refine gr ?_
    refine G.append (xs:=xs) (ys:=[x]) (by simp;omega) (by simp [maxLen];omega) fun u hu=>?_
    refine gr ?_
    exact(hK u hu).sub
end
end Go.Proofs.YtoealglbimbbmaaGreatDoor.S
