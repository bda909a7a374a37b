import Derived.Test.YtoealglbimbbmaaGreatDoorStripe
import Derived.Test.YtoealglbimbbmaaGreatDoorLimbo
import Derived.Test.YtoealglbimbbmaaGreatDoorBook
namespace Go.Proofs.YtoealglbimbbmaaGreatDoor.S
open Go Go.Proofs
set_option linter.unusedVariables false
set_option linter.unusedSimpArgs false
structure fJ where
 shape:jk
 w:List Int
 l:List df
 n:Int
 s:List Int
 count:Int
def il:fi:=⟨0,ai,false,0⟩
def oK (e:Int):fi:=⟨0,ai,false,e⟩
def cr (m:fJ)(o:rv):fJ×fi :=
 if o.kind=1 then (if jc o.place m.w then (m,⟨m.w.getD o.place.toNat 0,ai,false,0⟩) else (m,oK 2))
 else if o.kind=2 then (if jc o.place m.w then ({ m with w:=m.w.set o.place.toNat o.word },il) else (m,oK 2))
 else if o.kind=3 then (m,⟨0,(m9 m.l o.place).1,false,(m9 m.l o.place).2⟩)
 else if o.kind=4 then ({ m with l:=(lJ m.l o.place o.was o.lock).1 },⟨0,ai,(lJ m.l o.place o.was o.lock).2.1,(lJ m.l o.place o.was o.lock).2.2⟩)
 else if o.kind=5 then ({ m with l:=(je m.l o.place o.lock).1 },⟨0,ai,false,(je m.l o.place o.lock).2⟩)
 else if o.kind=6 then (m,⟨m.n,ai,false,0⟩)
 else if o.kind=7 then (if o.word≤o.old then (m,oK 1) else if 4611686018427387904≤o.word then (m,oK 7) else if m.n=o.old then ({ m with n:=o.word },⟨0,ai,true,0⟩) else (m,il))
 else if o.kind=8 then (if jg o.place m.s.length then (m,⟨m.s.getD o.place.toNat 0,ai,false,0⟩) else (m,oK 2))
 else if o.kind=9 then (if jg o.place m.s.length then ({ m with s:=m.s.set o.place.toNat o.word },il) else (m,oK 2))
 else (m,oK 1)
def az (m:fJ)(o:rv):fJ×fi :=
 if (cr m o).2.err=0 then ({ (cr m o).1 with count:=IntKind.wrap .i64 ((cr m o).1.count+1) },(cr m o).2) else cr m o
def ff (s:jk):jk:=⟨held s.words 32 256,held s.stripes 1 16,held s.wide 1 16,held s.threads 1 4,if 4611686018427387904≤s.start then 4611686018427387903 else s.start⟩
def t9 (s:jk):fJ:=⟨ff s,List.replicate (held s.words 32 256).toNat 0,List.replicate (held s.stripes 1 16).toNat ai,(ff s).start,List.replicate (held s.threads 1 4).toNat 0,0⟩
structure yp (m m':fJ):Prop where
 w:m'.w.length=m.w.length
 l:m'.l.length=m.l.length
 s:m'.s.length=m.s.length
 shape:m'.shape=m.shape
theorem yp.refl (m:fJ):yp m m:=⟨rfl,rfl,rfl,rfl⟩
theorem yp.trans {a b c:fJ}(h:yp a b)(h':yp b c):yp a c:=⟨h'.w.trans h.w,h'.l.trans h.l,h'.s.trans h.s,h'.shape.trans h.shape⟩
def W6 (b:Nat)(m:fJ):ax:=jX fun vw=>jX fun vl=>jX fun vs=>bu (fS (av vw [vw]∧av vl [vl]∧av vs [vs]))
 (bu (bu (bu (own b [i64 m.shape.words,i64 m.shape.stripes,i64 m.shape.wide,i64 m.shape.threads,u64 m.shape.start,vw,vl,u64 m.n,vs,i64 m.count]) (sl de vw m.w)) (sl lw vl m.l)) (sl de vs m.s))
section
variable {w0:bg}{L M:List ax}{K:KV}{F:World→Prop}{C:ax→List ax}{b:Nat}{m:fJ}{o:rv}
end
end Go.Proofs.YtoealglbimbbmaaGreatDoor.S
namespace Go.Proofs.YtoealglbimbbmaaGreatDoor.S
open Go Go.Proofs
set_option linter.unusedVariables false
set_option linter.unusedSimpArgs false
def eU (b:Nat)(s:Int×List fu):ax:=jX fun v=>bu (fS (av v [v])) (bu (own b [i64 s.1,v]) (sl fM v s.2))
def kW (xs:List fu)(k:Int):Option Int:=(xs.find? fun x=>decide (x.stripe=k)).map (·.version)
def mF (m:Int)(xs:List fu)(x:fu):Int :=
 if x.stripe<0∨16≤x.stripe∨4611686018427387904≤x.version then 1 else
 match kW xs x.stripe with
 | some v=>if v=x.version then 0 else 14
 | none=>if (xs.length:Int)=m then 5 else 0
def ng (m:Int)(xs:List fu)(x:fu):List fu :=
 if x.stripe<0∨16≤x.stripe∨4611686018427387904≤x.version then xs else
 match kW xs x.stripe with
 | some _=>xs
 | none=>if (xs.length:Int)=m then xs else xs++[x]
def SL (locks:List df)(x:fu):Bool:=match locks[x.stripe.toNat]? with
 | some l=>!l.held && decide (l.version=x.version)
 | none=>false
def UR (xs:List fu)(locks:List df):Bool:=xs.all (SL locks)
section
variable {w0:bg}{L M:List ax}{K:KV}{F:World→Prop}{C:ax→List ax}{b:Nat}{m:Int}{xs:List fu}
theorem jm:G w0 (ob eU b (m,xs)::M) F=∀v,av v [v]→G w0 (own b [i64 m,v]::sl fM v xs::M) F:=by
 rw [dO,eU]
 simp only [lT,dP,eS]
theorem Iv {n:Int}:(if (if (16:Int)<n then (16:Int) else n) > 1 then (if (16:Int)<n then (16:Int) else n) else 1)=held n 1 16:=by
 unfold held;split <;> split <;> (try split) <;> (try split) <;> omega
theorem M8 {n:Int}(hK:∀b,G w0 (ob eU b (held n 1 16,[])::L) (K (ptr b 0))):G w0 L (CP Tryz.prog abp [i64 n] K):=by
 refine L4 ?_
 unfold DZ
 refine gr ?_
 rw [Iv]
 refine G.nilsl fM ?_
 refine G.box fun b=>?_
 have:=hK b
 rw [jm] at this
 exact this _ bf
theorem lq [i:al L eU b (m,xs) C](hl:xs.length≤1000000)(hK:∀u,av u [u]→G w0 (sl fM u xs::L) (K u)):G w0 L (CP Tryz.prog X8 [ptr b 0] K):=by
 refine i.roN (fun M hK=>?_) hK
 rw [jm]
 intro v hv
 refine CE ?_
 unfold ri
 refine gr ?_
 refine fa hl fun u hu=>?_
 have:=hK u hu
 rw [eN,jm] at this
 exact G.sub (this v hv)
theorem MH (x:fu)(xs:List fu)(k:Int):kW (x::xs) k=if x.stripe=k then some x.version else kW xs k:=by
 unfold kW
 by_cases h:x.stripe=k <;> simp [List.find?_cons,h]
def Xf (o:Option Int):Value:=.tuple #[u64 (o.getD 0),.bool o.isSome]
theorem CG {k:Int}[i:al L eU b (m,xs) C](hl:xs.length≤1000000)(hK:G w0 L (K (.tuple #[u64 ((kW xs k).getD 0),.bool (kW xs k).isSome]))):G w0 L (CP Tryz.prog abS [ptr b 0,i64 k] K):=by
 refine i.ro (fun M hK=>?_) hK
 rw [jm] at *
 intro v hv
 refine Ch ?_
 unfold re
 refine gr ?_
 refine G.loopc1 (fun j:Nat=>i64 j) (fun j=>j≤xs.length∧kW xs k=kW (xs.drop j) k) (fun j=>xs.length-j) 0 rfl ⟨by omega,by simp⟩ ?_
 rintro j ⟨hj,hp⟩ J hJ
 refine gr ?_
 refine G.cond (fun h=>?_) (fun h=>?_)
 ·have hj2:j<xs.length:=by simpa using h
  have e:=cW hj2
  rw [List.drop_eq_getElem_cons hj2,MH] at hp
  refine gr ?_
  refine G.new fun p=>?_
  refine gr ?_
  refine G.cond (fun h=>?_) (fun h=>?_)
  ·rw [if_pos (by simpa using h)] at hp
   refine gr ?_
   have:=hK v hv
   rw [hp] at this
   exact this.sub
  ·rw [if_neg (by simpa using h)] at hp
   rw [dt (by omega)]
   exact(hJ (j+1) ⟨hj2,hp⟩ (by omega)).sub
 ·have:xs.drop j=[]:=List.drop_eq_nil_of_le (by simpa using h)
  rw [this] at hp
  have:=hK v hv
  rw [hp] at this
  exact this
theorem Co {x:fu}[i:al L eU b (m,xs) C](hl:xs.length≤1000)(hK:G w0 (C (ob eU b (m,ng m xs x))) (K (i64 (mF m xs x)))) :
  G w0 L (CP Tryz.prog abI [ptr b 0,.agg #[i64 x.stripe,u64 x.version]] K):=by
 refine i.use (fun M hK=>?_) hK
 refine A9 ?_
 unfold rA
 refine gu ?_
 refine G.box fun p=>?_
 refine gr ?_
 refine G.any (decide (16≤x.stripe)) (fun _ K hK=>by refine gr ?_;exact hK) ?_
 refine G.any (decide (4611686018427387904≤x.version)) (fun _ K hK=>by refine gr ?_;exact hK) ?_
 unfold mF ng at hK
 refine G.cond (fun h=>?_) (fun h=>?_)
 ·have h:x.stripe<0∨16≤x.stripe∨4611686018427387904≤x.version:=by simpa [or_assoc] using h
  rw [if_pos h,if_pos h] at hK
  exact hK.sub
 ·have h:¬(x.stripe<0∨16≤x.stripe∨4611686018427387904≤x.version):=by simp at h;omega
  rw [if_neg h,if_neg h] at hK
  refine gr ?_
  refine CG (xs:=xs) (by omega) ?_
  cases hs:kW xs x.stripe with
  | some v =>
   simp only [hs] at hK
   try simp (maxSteps:=2000000) only [↓RG,RP,RB,BEq.rfl,Int.reduceEq,Int.reduceLT,Int.reduceLE,Nat.reduceEqDiff,Option.getD_some,Option.isSome_some]
   refine G.cond (fun h=>?_) (fun h=>?_)
   ·rw [if_neg (by simpa using h)] at hK
    exact hK.sub
   ·rw [if_pos (by simpa using h)] at hK
    exact hK.sub
  | none =>
   simp only [hs] at hK
   try simp (maxSteps:=2000000) only [↓RG,RP,RB,BEq.rfl,Int.reduceEq,Int.reduceLT,Int.reduceLE,Nat.reduceEqDiff,Option.isSome_none]
   refine G.drew ?_
   rw [eN,jm]
   intro v hv
   refine gr ?_
   refine G.cond (fun h=>?_) (fun h=>?_)
   ·have h:(xs.length:Int)=m:=by simpa using h
    rw [if_pos h,if_pos h,jm] at hK
    exact(hK v hv).sub
   ·have h:¬(xs.length:Int)=m:=by simpa using h
    rw [if_neg h,if_neg h,jm] at hK
    refine G.drew ?_
    refine gr ?_
    refine G.build fM [x] rfl (by decide) rfl fun y hy=>?_
    refine gr ?_
    refine G.append (xs:=xs) (ys:=[x]) (by simp;omega) (by simp [maxLen];omega) fun u hu=>?_
    refine gr ?_
    exact(hK u hu).sub
end
end Go.Proofs.YtoealglbimbbmaaGreatDoor.S
