import Derived.Test.YtoealglbimbbmaaGreatDoorStripe
import Derived.Test.YtoealglbimbbmaaGreatDoorLimbo
import Derived.Test.YtoealglbimbbmaaGreatDoorBook
namespace Go.Proofs.YtoealglbimbbmaaGreatDoor.S
open Go Go.Proofs
set_option linter.unusedVariables false
set_option linter.unusedSimpArgs false
structure fE where
 shape:jw
 w:List Int
 l:List cX
 n:Int
 s:List Int
 count:Int
def iH:eW:=⟨0,ae,false,0⟩
def oN (e:Int):eW:=⟨0,ae,false,e⟩
def bz (m:fE)(o:pD):fE×eW :=
 if o.kind=1 then (if iG o.place m.w then (m,⟨m.w.getD o.place.toNat 0,ae,false,0⟩) else (m,oN 2))
 else if o.kind=2 then (if iG o.place m.w then ({ m with w:=m.w.set o.place.toNat o.word },iH) else (m,oN 2))
 else if o.kind=3 then (m,⟨0,(nB m.l o.place).1,false,(nB m.l o.place).2⟩)
 else if o.kind=4 then ({ m with l:=(lR m.l o.place o.was o.lock).1 },⟨0,ae,(lR m.l o.place o.was o.lock).2.1,(lR m.l o.place o.was o.lock).2.2⟩)
 else if o.kind=5 then ({ m with l:=(jD m.l o.place o.lock).1 },⟨0,ae,false,(jD m.l o.place o.lock).2⟩)
 else if o.kind=6 then (m,⟨m.n,ae,false,0⟩)
 else if o.kind=7 then (if o.word≤o.old then (m,oN 1) else if 4611686018427387904≤o.word then (m,oN 7) else if m.n=o.old then ({ m with n:=o.word },⟨0,ae,true,0⟩) else (m,iH))
 else if o.kind=8 then (if i4 o.place m.s.length then (m,⟨m.s.getD o.place.toNat 0,ae,false,0⟩) else (m,oN 2))
 else if o.kind=9 then (if i4 o.place m.s.length then ({ m with s:=m.s.set o.place.toNat o.word },iH) else (m,oN 2))
 else (m,oN 1)
def ay (m:fE)(o:pD):fE×eW :=
 if (bz m o).2.err=0 then ({ (bz m o).1 with count:=IntKind.wrap .i64 ((bz m o).1.count+1) },(bz m o).2) else bz m o
def fu (s:jw):jw:=⟨held s.words 32 256,held s.stripes 1 16,held s.wide 1 16,held s.threads 1 4,if 4611686018427387904≤s.start then 4611686018427387903 else s.start⟩
def lS (s:jw):fE:=⟨fu s,List.replicate (held s.words 32 256).toNat 0,List.replicate (held s.stripes 1 16).toNat ae,(fu s).start,List.replicate (held s.threads 1 4).toNat 0,0⟩
structure xe (m m':fE):Prop where
 w:m'.w.length=m.w.length
 l:m'.l.length=m.l.length
 s:m'.s.length=m.s.length
 shape:m'.shape=m.shape
theorem xe.refl (m:fE):xe m m:=⟨rfl,rfl,rfl,rfl⟩
theorem xe.trans {a b c:fE}(h:xe a b)(h':xe b c):xe a c:=⟨h'.w.trans h.w,h'.l.trans h.l,h'.s.trans h.s,h'.shape.trans h.shape⟩
def Vv (b:Nat)(m:fE):bd:=od fun vw=>od fun vl=>od fun vs=>bt (gX (bf vw [vw]∧bf vl [vl]∧bf vs [vs]))
 (bt (bt (bt (own b [i64 m.shape.words,i64 m.shape.stripes,i64 m.shape.wide,i64 m.shape.threads,u64 m.shape.start,vw,vl,u64 m.n,vs,i64 m.count]) (sl dd vw m.w)) (sl lw vl m.l)) (sl dd vs m.s))
section
variable {w0:bo}{L M:List bd}{K:KV}{F:World→Prop}{C:bd→List bd}{b:Nat}{m:fE}{o:pD}
end
end Go.Proofs.YtoealglbimbbmaaGreatDoor.S
namespace Go.Proofs.YtoealglbimbbmaaGreatDoor.S
open Go Go.Proofs
set_option linter.unusedVariables false
set_option linter.unusedSimpArgs false
def fb (b:Nat)(s:Int×List fG):bd:=od fun v=>bt (gX (bf v [v])) (bt (own b [i64 s.1,v]) (sl fX v s.2))
def mb (xs:List fG)(k:Int):Option Int:=(xs.find? fun x=>decide (x.stripe=k)).map (·.version)
def l7 (m:Int)(xs:List fG)(x:fG):Int :=
 if x.stripe<0∨16≤x.stripe∨4611686018427387904≤x.version then 1 else
 match mb xs x.stripe with
 | some v=>if v=x.version then 0 else 14
 | none=>if (xs.length:Int)=m then 5 else 0
def ny (m:Int)(xs:List fG)(x:fG):List fG :=
 if x.stripe<0∨16≤x.stripe∨4611686018427387904≤x.version then xs else
 match mb xs x.stripe with
 | some _=>xs
 | none=>if (xs.length:Int)=m then xs else xs++[x]
def QO (locks:List cX)(x:fG):Bool:=match locks[x.stripe.toNat]? with
 | some l=>!l.held && decide (l.version=x.version)
 | none=>false
def Tf (xs:List fG)(locks:List cX):Bool:=xs.all (QO locks)
section
variable {w0:bo}{L M:List bd}{K:KV}{F:World→Prop}{C:bd→List bd}{b:Nat}{m:Int}{xs:List fG}
theorem jq:G w0 (ob fb b (m,xs)::M) F=∀v,bf v [v]→G w0 (own b [i64 m,v]::sl fX v xs::M) F:=by
 rw [em,fb]
 simp only [qm,ez,fI]
theorem F9 {n:Int}:(if (if (16:Int)<n then (16:Int) else n) > 1 then (if (16:Int)<n then (16:Int) else n) else 1)=held n 1 16:=by
 unfold held;split <;> split <;> (try split) <;> (try split) <;> omega
theorem JD {n:Int}(hK:∀b,G w0 (ob fb b (held n 1 16,[])::L) (K (ptr b 0))):G w0 L (CP Tryz.prog Yz [i64 n] K):=by
 refine I4 ?_
 unfold Cv
 refine gr ?_
 rw [F9]
 refine G.nilsl fX ?_
 refine G.box fun b=>?_
 have:=hK b
 rw [jq] at this
 exact this _ bm
theorem ma [i:au L fb b (m,xs) C](hl:xs.length≤1000000)(hK:∀u,bf u [u]→G w0 (sl fX u xs::L) (K u)):G w0 L (CP Tryz.prog V7 [ptr b 0] K):=by
 refine i.roN (fun M hK=>?_) hK
 rw [jq]
 intro v hv
 refine A6 ?_
 unfold qV
 refine gr ?_
 refine fm hl fun u hu=>?_
 have:=hK u hu
 rw [fC,jq] at this
 exact G.sub (this v hv)
theorem Ko (x:fG)(xs:List fG)(k:Int):mb (x::xs) k=if x.stripe=k then some x.version else mb xs k:=by
 unfold mb
 by_cases h:x.stripe=k <;> simp [List.find?_cons,h]
def VD (o:Option Int):Value:=.tuple #[u64 (o.getD 0),.bool o.isSome]
theorem AY {k:Int}[i:au L fb b (m,xs) C](hl:xs.length≤1000000)(hK:G w0 L (K (.tuple #[u64 ((mb xs k).getD 0),.bool (mb xs k).isSome]))):G w0 L (CP Tryz.prog Y5 [ptr b 0,i64 k] K):=by
 refine i.ro (fun M hK=>?_) hK
 rw [jq] at *
 intro v hv
 refine AX ?_
 unfold ri
 refine gr ?_
 refine G.loopc1 (fun j:Nat=>i64 j) (fun j=>j≤xs.length∧mb xs k=mb (xs.drop j) k) (fun j=>xs.length-j) 0 rfl ⟨by omega,by simp⟩ ?_
 rintro j ⟨hj,hp⟩ J hJ
 refine gr ?_
 refine G.cond (fun h=>?_) (fun h=>?_)
 ·have hj2:j<xs.length:=by simpa using h
  have e:=cw hj2
  rw [List.drop_eq_getElem_cons hj2,Ko] at hp
  refine gr ?_
  refine G.new fun p=>?_
  refine gr ?_
  refine G.cond (fun h=>?_) (fun h=>?_)
  ·rw [if_pos (by simpa using h)] at hp
   refine gr ?_
   have:=hK v hv
   rw [hp] at this
   exact this.sub
  ·rw [if_neg (by simpa using h)] at hp
   rw [dx (by omega)]
   exact(hJ (j+1) ⟨hj2,hp⟩ (by omega)).sub
 ·have:xs.drop j=[]:=List.drop_eq_nil_of_le (by simpa using h)
  rw [this] at hp
  have:=hK v hv
  rw [hp] at this
  exact this
theorem AK {x:fG}[i:au L fb b (m,xs) C](hl:xs.length≤1000)(hK:G w0 (C (ob fb b (m,ny m xs x))) (K (i64 (l7 m xs x)))) :
  G w0 L (CP Tryz.prog YT [ptr b 0,.agg #[i64 x.stripe,u64 x.version]] K):=by
 refine i.use (fun M hK=>?_) hK
 refine Ao ?_
 unfold rj
 refine gu ?_
 refine G.box fun p=>?_
 refine gr ?_
 refine G.any (decide (16≤x.stripe)) (fun _ K hK=>by refine gr ?_;exact hK) ?_
 refine G.any (decide (4611686018427387904≤x.version)) (fun _ K hK=>by refine gr ?_;exact hK) ?_
 unfold l7 ny at hK
 refine G.cond (fun h=>?_) (fun h=>?_)
 ·have h:x.stripe<0∨16≤x.stripe∨4611686018427387904≤x.version:=by simpa [or_assoc] using h
  rw [if_pos h,if_pos h] at hK
  exact hK.sub
 ·have h:¬(x.stripe<0∨16≤x.stripe∨4611686018427387904≤x.version):=by simp at h;omega
  rw [if_neg h,if_neg h] at hK
  refine gr ?_
  refine AY (xs:=xs) (by omega) ?_
  cases hs:mb xs x.stripe with
  | some v =>
   simp only [hs] at hK
   try simp (maxSteps:=2000000) only [↓RG,RP,RB,BEq.rfl,Int.reduceEq,Int.reduceLT,Int.reduceLE,Nat.reduceEqDiff,Option.getD_some,Option.isSome_some]
   refine G.cond (fun h=>?_) (fun h=>?_)
   ·rw [if_neg (by simpa using h)] at hK
    exact hK.sub
   ·rw [if_pos (by simpa using h)] at hK
    exact hK.sub
  | none =>
   simp only [hs] at hK
   try simp (maxSteps:=2000000) only [↓RG,RP,RB,BEq.rfl,Int.reduceEq,Int.reduceLT,Int.reduceLE,Nat.reduceEqDiff,Option.isSome_none]
   refine G.drew ?_
   rw [fC,jq]
   intro v hv
   refine gr ?_
   refine G.cond (fun h=>?_) (fun h=>?_)
   ·have h:(xs.length:Int)=m:=by simpa using h
    rw [if_pos h,if_pos h,jq] at hK
    exact(hK v hv).sub
   ·have h:¬(xs.length:Int)=m:=by simpa using h
    rw [if_neg h,if_neg h,jq] at hK
    refine G.drew ?_
    refine gr ?_
    refine G.build fX [x] rfl (by decide) rfl fun y hy=>?_
    refine gr ?_
    refine G.append (xs:=xs) (ys:=[x]) (by simp;omega) (by simp [maxLen];omega) fun u hu=>?_
    refine gr ?_
    exact(hK u hu).sub
end
end Go.Proofs.YtoealglbimbbmaaGreatDoor.S
