import Derived.Test.YtoealglbimbbmaaGreatDoorBook
namespace Go.Proofs.YtoealglbimbbmaaGreatDoor.S
open Go Go.Proofs
set_option linter.unusedVariables false
set_option linter.unusedSimpArgs false
structure dv where
 op:Int
 a:Int
 b:Int
 c:Int
 n:Int
abbrev dv.cells (a:dv):List Value:=[i64 a.op,i64 a.a,i64 a.b,i64 a.c,u64 a.n]
abbrev gD:jY dv:=⟨5,dv.cells,fun | [.int .i64 x0,.int .i64 x1,.int .i64 x2,.int .i64 x3,.int .u64 x4]=>some ⟨x0,x1,x2,x3,x4⟩ | _=>none,by decide,fun _=>rfl,by simp [one],fun cs a h=>by split at h <;> cases h;rfl⟩
instance {a:dv}:fk gD a [i64 a.op,i64 a.a,i64 a.b,i64 a.c,u64 a.n]:=⟨rfl⟩
structure dr where
 words:Int
 stripes:Int
 wide:Int
 threads:Int
 start:Int
 spins:Int
 writes:Int
 fuel:Int
abbrev dr.cells (a:dr):List Value:=[i64 a.words,i64 a.stripes,i64 a.wide,i64 a.threads,u64 a.start,i64 a.spins,i64 a.writes,i64 a.fuel]
abbrev eu:jY kx:=⟨1,fun s=>[s.v],fun | [.slice a n c]=>some ⟨a,n,c⟩ | _=>none,by decide,fun _=>rfl,by simp [one],fun cs a h=>by split at h <;> cases h;rfl⟩
instance {s:kx}:fk eu s [.slice s.a s.n s.c]:=⟨rfl⟩
structure Lp where
 kind:Int
 err:Int
 slate:ByteArray
 stamp:Int
abbrev Lp.cells (a:Lp):List Value:=[i64 a.kind,i64 a.err,.string a.slate,u64 a.stamp]
abbrev il:jY Lp:=⟨4,Lp.cells,fun | [.int .i64 x0,.int .i64 x1,.string x2,.int .u64 x3]=>some ⟨x0,x1,x2,x3⟩ | _=>none,by decide,fun _=>rfl,by simp [one],fun cs a h=>by split at h <;> cases h;rfl⟩
instance {a:Lp}:fk il a [i64 a.kind,i64 a.err,.string a.slate,u64 a.stamp]:=⟨rfl⟩
structure sY where
 thread:Int
 job:Int
 try_:Int
 sweep:Bool
 kind:Int
 err:Int
 begin_:Int
 stamp:Int
 born:Int
 ended:Int
 reads:kx
 cells_:kx
 frees:kx
 slate:ByteArray
abbrev sY.cells (a:sY):List Value:=[i64 a.thread,i64 a.job,i64 a.try_,.bool a.sweep,i64 a.kind,i64 a.err,u64 a.begin_,u64 a.stamp,i64 a.born,i64 a.ended,.slice a.reads.a a.reads.n a.reads.c,.slice a.cells_.a a.cells_.n a.cells_.c,.slice a.frees.a a.frees.n a.frees.c,.string a.slate]
abbrev fg:jY sY:=⟨14,sY.cells,fun | [.int .i64 x0,.int .i64 x1,.int .i64 x2,.bool x3,.int .i64 x4,.int .i64 x5,.int .u64 x6,.int .u64 x7,.int .i64 x8,.int .i64 x9,.slice a b c,.slice d e f,.slice g h i,.string x]=>some ⟨x0,x1,x2,x3,x4,x5,x6,x7,x8,x9,⟨a,b,c⟩,⟨d,e,f⟩,⟨g,h,i⟩,x⟩ | _=>none,by decide,fun _=>rfl,by simp [one],fun cs a h=>by split at h <;> cases h;rfl⟩
instance {a:sY}:fk fg a (sY.cells a):=⟨rfl⟩
inductive oT where
 | num (n:Int)
 | truth (t:Bool)
 | none
 deriving DecidableEq
abbrev oT.v:oT→Value
 | .num n=>.iface 22 (u64 n)
 | .truth t=>.iface 4 (.bool t)
 | .none=>.iface 421 (.agg #[])
def PA (t:Nat)(v:Value):Option oT :=
 if t=22 then (match v with | .int .u64 n=>some (.num n) | _=>none)
 else if t=4 then (match v with | .bool b=>some (.truth b) | _=>none)
 else if t=421 then (match v with | .agg x=>if x.size=0 then some .none else none | _=>none)
 else none
theorem PJ {t:Nat}{v:Value}{a:oT}(h:PA t v=some a):a.v=.iface t v:=by
 unfold PA at h
 split at h
 ·rename_i e;subst e;split at h <;> cases h;rfl
 split at h
 ·rename_i e;subst e;split at h <;> cases h;rfl
 split at h
 ·rename_i e;subst e
  split at h
  ·rename_i x
   split at h
   ·rename_i e2;cases h
    have:x=#[]:=Array.size_eq_zero_iff.1 e2
    subst this;rfl
   ·cases h
  ·cases h
 ·cases h
abbrev E6:jY oT:=⟨1,fun x=>[x.v],fun | [.iface t v]=>PA t v | _=>none,by decide,fun _=>rfl,fun a=>by cases a <;> simp [one],fun cs a h=>by
 split at h
 ·exact congrArg (·::[]) (PJ h)
 ·cases h⟩
instance {x:oT}:fk E6 x [x.v]:=⟨rfl⟩
instance {x:oT}:fQ E6 [x.v] x:=⟨by cases x <;> rfl⟩
instance {x:oT}:bf x.v [x.v]:=⟨by cases x <;> rfl,by cases x <;> simp [one]⟩
abbrev HD:jY ByteArray:=⟨1,fun s=>[.string s],fun | [.string s]=>some s | _=>none,by decide,fun _=>rfl,by simp [one],fun cs a h=>by split at h <;> simp_all⟩
instance {s:ByteArray}:fk HD s [.string s]:=⟨rfl⟩
instance {s:ByteArray}:fQ HD [.string s] s:=⟨rfl⟩
theorem G.isSl {α:Type}{E:jY α}{w0:bo}{L:List bd}{F:World→Prop}{v:Value}{sz:Nat}{xs:List α}[r:Rd w0 L v E sz xs](h:∀s:kx,v=s.v→G w0 L F):G w0 L F:=fun w H=>by
 obtain⟨oa,cap,e,_⟩:=r.rd w H
 exact h ⟨oa,xs.length,cap⟩ e w H
theorem yP {α:Type}{E:jY α}{w0:bo}{L:List bd}{K:KV}{v:Value}{sz bytes:Nat}{xs:List α}{z:List Value}[r:Rd w0 L v E sz xs](hl:xs.length*bytes≤140737488355328)(hl2:xs.length≤maxLen)(hK:∀u,bf u [u]→G w0 (sl E u xs::L) (K u)) :
  G w0 L (dQ .eql v (.slice none 0 0) (fun x1=>ai x1 (K (.slice none 0 0)) (ax z 0 [] (fun x2=>bw sz bytes x2 v K)))):=by
 refine G.isNil fun t ht=>?_
 refine G.cond (fun h=>?_) (fun h=>?_)
 ·have:=ht h
  subst this
  exact G.nilsl E (hK _ bm)
 ·refine G.build E [] rfl (by simp) rfl fun y _=>?_
  refine G.append (by simpa using hl) (by simpa using hl2) fun u hu=>?_
  exact hK u hu
section
variable {w0:bo}{L:List bd}{K:KV}{v:Value}{sz:Nat}{C:bd→List bd}{b:Nat}
theorem sZ {xs:List oT}[r:Rd w0 L v E6 sz xs](hl:xs.length≤1000000)(hK:∀u,bf u [u]→G w0 (sl E6 u xs::L) (K u)):G w0 L (CP Tryz.prog YY [v] K):=by
 have z1:=r.sz
 subst z1
 exact tn (yP (E:=E6) (by omega) (by simp [maxLen];omega) hK)
theorem nm {xs:List dv}[r:Rd w0 L v gD sz xs](hl:xs.length≤1000000)(hK:∀u,bf u [u]→G w0 (sl gD u xs::L) (K u)):G w0 L (CP Tryz.prog XX [v] K):=by
 have z1:=r.sz
 subst z1
 exact m9 (yP (E:=gD) (by omega) (by simp [maxLen];omega) hK)
theorem jT {xs:List Lp}[r:Rd w0 L v il sz xs](hl:xs.length≤1000000)(hK:∀u,bf u [u]→G w0 (sl il u xs::L) (K u)):G w0 L (CP Tryz.prog Ya [v] K):=by
 have z1:=r.sz
 subst z1
 exact j7 (yP (E:=il) (by omega) (by simp [maxLen];omega) hK)
abbrev jp:=jZ E6
variable {xs:List oT}
theorem JI (hK:∀b,G w0 (ob jp b []::L) (K (ptr b 0))):G w0 L (CP Tryz.prog YB [] K):=by
 refine JH ?_
 unfold Cu
 refine gr ?_
 refine G.nilsl E6 ?_
 refine G.box fun b=>?_
 have h:=hK b
 rw [ft] at h
 exact h _ bm
abbrev NP (xs:List oT)(a:oT):List oT:=if xs.length<16 then xs++[a] else xs
theorem Kx {a:oT}{v:Value}(hv:E6.enc a=[v])(hl:xs.length≤16)[i:au L jp b xs C](hK:G w0 (C (ob jp b (NP xs a))) (K (.bool (decide (xs.length<16))))):G w0 L (CP Tryz.prog Y8 [ptr b 0,v] K):=by
 cases hv
 refine i.use (fun M hK=>?_) hK
 refine Aa ?_
 unfold qZ
 rw [ft] at *
 intro v hv
 by_cases h:xs.length<16
 ·rw [NP,if_pos h,decide_eq_true h] at hK
  have h16:¬(16:Int)≤xs.length:=by omega
  refine eC h16 ?_
  refine G.append1 (E:=E6) (a:=a) rfl rfl (by decide) (by omega) (by simp only [maxLen];omega) fun u hu=>?_
  refine gr ?_
  exact(hK u hu).sub
 ·rw [NP,if_neg h,decide_eq_false h] at hK
  have h16:(16:Int)≤xs.length:=by omega
  have hK:=hK v hv
  refine eC h16 ?_
  exact hK
theorem DR {n:Int}[i:au L jp b xs C](hl:xs.length≤16)(hK:G w0 (C (ob jp b (NP xs (.num n)))) (K (.bool (decide (xs.length<16))))):G w0 L (CP Tryz.prog Y1 [ptr b 0,u64 n] K):=by
 refine wG ?_
 unfold nJ
 refine gr ?_
 exact Kx (a:=.num n) rfl hl hK
theorem zk [i:au L jp b xs C](hl:xs.length≤1000000)(hK:∀c,G w0 (ob jp c xs::L) (K (ptr c 0))):G w0 L (CP Tryz.prog YJ [ptr b 0] K):=by
 refine i.roN (P:=fun _=>True) (N:=fun c=>ob jp c xs) (F':=fun c=>K (ptr c 0)) (fun M hK=>?_) (fun c _=>hK c)
 refine yX ?_
 unfold pX
 rw [ft]
 intro v hv
 refine gr ?_
 refine sZ (xs:=xs) hl fun u hu=>?_
 refine gr ?_
 refine G.box fun c=>?_
 have h:=hK c trivial
 rw [ft] at h
 have h:=h u hu
 have h2:G w0 (ob jp b xs::own c [u]::sl E6 u xs::M) (K (ptr c 0)):=h.sub
 rw [ft] at h2
 exact(h2 v hv).sub
def Bw (n:Int):ByteArray:=(⟨#[48,49,50,51,52,53,54,55,56,57,97,98,99,100,101,102,103,104,105,106,107,108,109,110,111,112,113,114,115,116,117,118,119,120,121,122]⟩:ByteArray).extract n.toNat (n+1).toNat
def GF:List oT→ByteArray
 | .num n::_=>Bw n
 | _=>⟨#[]⟩
end
end Go.Proofs.YtoealglbimbbmaaGreatDoor.S
namespace Go.Proofs.YtoealglbimbbmaaGreatDoor.S
open Go Go.Proofs
set_option linter.unusedVariables false
set_option linter.unusedSimpArgs false
def pi (n:Int):Prop:=0≤n∧n≤7
def Gn (i:dv):Prop :=
 (i.op=1∧pi i.a∧i.b=0∧i.c=0)∨(i.op=3∧pi i.a∧pi i.b∧pi i.c∧i.n=0) ∨
 ((i.op=8∨i.op=9)∧pi i.a∧pi i.b∧0≤i.c∧i.c≤15∧i.n=0)∨((i.op=21∨i.op=11)∧pi i.a∧i.b=0∧i.c=0∧i.n=0) ∨
 (i.op=10∧pi i.a∧pi i.b∧i.c=0∧i.n=0)∨(i.op=12∧i.a=0∧i.b=0∧0≤i.c∧i.c≤40∧i.n=0)∨(i.op=13∧pi i.a∧i.b=0∧0≤i.c∧i.c≤40∧i.n=0)
def zb (n:Int):Prop:=n=1∨n=3∨n=8∨n=9∨n=21∨n=11∨n=10∨n=12∨n=13
theorem Gn.op {i:dv}(h:Gn i):zb i.op:=by unfold Gn at h;unfold zb;omega
def He (op:Int):Int×Int×Int:=if op=1∨op=21∨op=11 then (7,0,0) else if op=3 then (7,7,7) else if op=10 then (7,7,0) else if op=12 then (0,0,40) else if op=13 then (7,0,40) else (7,7,15)
def TW (op:Int):Int:=0
section
variable {w0:bo}{L:List bd}{K:KV}{v:Value}{C:bd→List bd}{b:Nat}{op:Int}
theorem Pc {a b:ByteArray}{K:KV}(h:(a.toList == b.toList)=false):G w0 L (pS .neq (.string a) (.string b) K)=G w0 L (K (.bool true)):=by
 congr 1
 funext w
 show D7 .neq (a.toList == b.toList) K w=_
 rw [h]
 rfl
theorem Ft (h:zb op)(hK:G w0 L (K (.tuple #[.agg #[i64 (TW op),i64 (He op).1],.agg #[i64 0,i64 (He op).2.1],.agg #[i64 0,i64 (He op).2.2]]))):G w0 L (CP Tryz.prog Y6 [i64 op] K):=by
 refine FR ?_
 unfold xU
 refine G.new fun q1=>?_
 refine G.new fun q2=>?_
 refine G.new fun q3=>?_
 refine gr ?_
 refine G.new fun q4=>?_
 rcases h with h | h | h | h | h | h | h | h | h <;> subst h
 ·repeat' (first | (with_reducible refine G.joini0 ?_) | (with_reducible refine G.joini1 ?_) | (with_reducible refine G.drew ?_) | (simp (maxSteps:=2000000) only [↓RG,RP,RB,BEq.rfl,Int.reduceEq,Int.reduceLT,Int.reduceLE,Nat.reduceEqDiff]))
  exact hK.sub
 ·repeat' (first | (with_reducible refine G.joini0 ?_) | (with_reducible refine G.joini1 ?_) | (with_reducible refine G.drew ?_) | (simp (maxSteps:=2000000) only [↓RG,RP,RB,BEq.rfl,Int.reduceEq,Int.reduceLT,Int.reduceLE,Nat.reduceEqDiff]))
  exact hK.sub
 ·repeat' (first | (with_reducible refine G.joini0 ?_) | (with_reducible refine G.joini1 ?_) | (with_reducible refine G.drew ?_) | (simp (maxSteps:=2000000) only [↓RG,RP,RB,BEq.rfl,Int.reduceEq,Int.reduceLT,Int.reduceLE,Nat.reduceEqDiff]))
  exact hK.sub
 ·repeat' (first | (with_reducible refine G.joini0 ?_) | (with_reducible refine G.joini1 ?_) | (with_reducible refine G.drew ?_) | (simp (maxSteps:=2000000) only [↓RG,RP,RB,BEq.rfl,Int.reduceEq,Int.reduceLT,Int.reduceLE,Nat.reduceEqDiff]))
  exact hK.sub
 ·repeat' (first | (with_reducible refine G.joini0 ?_) | (with_reducible refine G.joini1 ?_) | (with_reducible refine G.drew ?_) | (simp (maxSteps:=2000000) only [↓RG,RP,RB,BEq.rfl,Int.reduceEq,Int.reduceLT,Int.reduceLE,Nat.reduceEqDiff]))
  exact hK.sub
 ·repeat' (first | (with_reducible refine G.joini0 ?_) | (with_reducible refine G.joini1 ?_) | (with_reducible refine G.drew ?_) | (simp (maxSteps:=2000000) only [↓RG,RP,RB,BEq.rfl,Int.reduceEq,Int.reduceLT,Int.reduceLE,Nat.reduceEqDiff]))
  exact hK.sub
 ·repeat' (first | (with_reducible refine G.joini0 ?_) | (with_reducible refine G.joini1 ?_) | (with_reducible refine G.drew ?_) | (simp (maxSteps:=2000000) only [↓RG,RP,RB,BEq.rfl,Int.reduceEq,Int.reduceLT,Int.reduceLE,Nat.reduceEqDiff]))
  exact hK.sub
 ·repeat' (first | (with_reducible refine G.joini0 ?_) | (with_reducible refine G.joini1 ?_) | (with_reducible refine G.drew ?_) | (simp (maxSteps:=2000000) only [↓RG,RP,RB,BEq.rfl,Int.reduceEq,Int.reduceLT,Int.reduceLE,Nat.reduceEqDiff]))
  exact hK.sub
 ·repeat' (first | (with_reducible refine G.joini0 ?_) | (with_reducible refine G.joini1 ?_) | (with_reducible refine G.drew ?_) | (simp (maxSteps:=2000000) only [↓RG,RP,RB,BEq.rfl,Int.reduceEq,Int.reduceLT,Int.reduceLE,Nat.reduceEqDiff]))
  exact hK.sub
theorem lU {lo hi n:Int}(hK:G w0 L (K (.bool (decide (lo≤n) && decide (n≤hi))))):G w0 L (CP Tryz.prog We [.agg #[i64 lo,i64 hi],i64 n] K):=by
 refine zP ?_
 unfold qQ
 refine gu ?_
 refine G.box fun q=>?_
 refine gr ?_
 refine G.all (decide (n≤hi)) (fun _ K hK=>by refine gr ?_;exact hK) ?_
 exact hK.sub
theorem Kc (h:zb op)(hK:∀s:ByteArray,(s.toList == (⟨#[]⟩:ByteArray).toList)=false→G w0 L (K (.string s))):G w0 L (CP Tryz.prog Y7 [i64 op] K):=by
 refine Kl ?_
 unfold Cn
 refine IB ?_
 unfold z7
 refine G.build HD [⟨#[]⟩,⟨#[115,101,116]⟩,⟨#[109,111,118,101]⟩,⟨#[97,100,100]⟩,⟨#[115,117,98]⟩,⟨#[109,117,108]⟩,⟨#[108,101,115,115]⟩,⟨#[101,113,117,97,108]⟩,⟨#[108,111,97,100]⟩,⟨#[115,116,111,114,101]⟩,⟨#[97,108,108,111,99]⟩,⟨#[102,114,101,101]⟩,⟨#[106,117,109,112]⟩,⟨#[122,101,114,111]⟩,⟨#[111,112,101,110]⟩,⟨#[99,108,111,115,101]⟩,⟨#[117,110,100,111]⟩,⟨#[101,105,116,104,101,114]⟩,⟨#[111,114]⟩,⟨#[100,111,110,101]⟩,⟨#[114,101,116,114,121]⟩,⟨#[101,109,105,116]⟩,⟨#[102,97,105,108]⟩,⟨#[99,97,108,108]⟩] rfl (by decide) rfl fun v hv=>?_
 refine HM ?_
 unfold Ay
 refine gu ?_
 rcases h with h | h | h | h | h | h | h | h | h <;> subst h
 ·try simp (maxSteps:=2000000) only [↓RG,RP,RB,BEq.rfl,Int.reduceEq,Int.reduceLT,Int.reduceLE,Nat.reduceEqDiff,List.length_cons,List.length_nil,Nat.reduceAdd,Int.cast_ofNat_Int]
  exact(hK ⟨#[115,101,116]⟩ (by decide +kernel)).sub
 ·try simp (maxSteps:=2000000) only [↓RG,RP,RB,BEq.rfl,Int.reduceEq,Int.reduceLT,Int.reduceLE,Nat.reduceEqDiff,List.length_cons,List.length_nil,Nat.reduceAdd,Int.cast_ofNat_Int]
  exact(hK ⟨#[97,100,100]⟩ (by decide +kernel)).sub
 ·try simp (maxSteps:=2000000) only [↓RG,RP,RB,BEq.rfl,Int.reduceEq,Int.reduceLT,Int.reduceLE,Nat.reduceEqDiff,List.length_cons,List.length_nil,Nat.reduceAdd,Int.cast_ofNat_Int]
  exact(hK ⟨#[108,111,97,100]⟩ (by decide +kernel)).sub
 ·try simp (maxSteps:=2000000) only [↓RG,RP,RB,BEq.rfl,Int.reduceEq,Int.reduceLT,Int.reduceLE,Nat.reduceEqDiff,List.length_cons,List.length_nil,Nat.reduceAdd,Int.cast_ofNat_Int]
  exact(hK ⟨#[115,116,111,114,101]⟩ (by decide +kernel)).sub
 ·try simp (maxSteps:=2000000) only [↓RG,RP,RB,BEq.rfl,Int.reduceEq,Int.reduceLT,Int.reduceLE,Nat.reduceEqDiff,List.length_cons,List.length_nil,Nat.reduceAdd,Int.cast_ofNat_Int]
  exact(hK ⟨#[101,109,105,116]⟩ (by decide +kernel)).sub
 ·try simp (maxSteps:=2000000) only [↓RG,RP,RB,BEq.rfl,Int.reduceEq,Int.reduceLT,Int.reduceLE,Nat.reduceEqDiff,List.length_cons,List.length_nil,Nat.reduceAdd,Int.cast_ofNat_Int]
  exact(hK ⟨#[102,114,101,101]⟩ (by decide +kernel)).sub
 ·try simp (maxSteps:=2000000) only [↓RG,RP,RB,BEq.rfl,Int.reduceEq,Int.reduceLT,Int.reduceLE,Nat.reduceEqDiff,List.length_cons,List.length_nil,Nat.reduceAdd,Int.cast_ofNat_Int]
  exact(hK ⟨#[97,108,108,111,99]⟩ (by decide +kernel)).sub
 ·try simp (maxSteps:=2000000) only [↓RG,RP,RB,BEq.rfl,Int.reduceEq,Int.reduceLT,Int.reduceLE,Nat.reduceEqDiff,List.length_cons,List.length_nil,Nat.reduceAdd,Int.cast_ofNat_Int]
  exact(hK ⟨#[106,117,109,112]⟩ (by decide +kernel)).sub
 ·try simp (maxSteps:=2000000) only [↓RG,RP,RB,BEq.rfl,Int.reduceEq,Int.reduceLT,Int.reduceLE,Nat.reduceEqDiff,List.length_cons,List.length_nil,Nat.reduceAdd,Int.cast_ofNat_Int]
  exact(hK ⟨#[122,101,114,111]⟩ (by decide +kernel)).sub
theorem Lw {i:dv}(h:Gn i)(hK:G w0 L (K (.bool true))):G w0 L (CP Tryz.prog Y0 [.agg #[i64 i.op,i64 i.a,i64 i.b,i64 i.c,u64 i.n]] K):=by
 refine LP ?_
 unfold DO
 refine G.box fun q=>?_
 refine gr ?_
 refine Ft h.op ?_
 refine gr ?_
 refine G.new fun q1=>?_
 refine G.new fun q2=>?_
 refine G.new fun q3=>?_
 refine gr ?_
 refine Kc h.op fun s hs=>?_
 rw [Pc hs]
 refine gr ?_
 refine lU ?_
 have e1:(decide (TW i.op≤i.a) && decide (i.a≤(He i.op).1))=true:=by
  unfold Gn pi at h;unfold He TW
  simp only [Bool.and_eq_true,decide_eq_true_eq]
  repeat' split
  all_goals (simp only;omega)
 have e2:(decide (0≤i.b) && decide (i.b≤(He i.op).2.1))=true:=by
  unfold Gn pi at h;unfold He
  simp only [Bool.and_eq_true,decide_eq_true_eq]
  repeat' split
  all_goals (simp only;omega)
 have e3:(decide (0≤i.c) && decide (i.c≤(He i.op).2.2))=true:=by
  unfold Gn pi at h;unfold He
  simp only [Bool.and_eq_true,decide_eq_true_eq]
  repeat' split
  all_goals (simp only;omega)
 rw [e1]
 refine gr ?_
 refine lU ?_
 rw [e2]
 refine gr ?_
 refine lU ?_
 rw [e3]
 refine gu ?_
 refine gr ?_
 by_cases hn:i.n=0
 ·refine eC hn ?_
  exact hK.sub
 ·have ho:i.op=1:=by unfold Gn at h;omega
  refine eC (an hn ho) ?_
  exact hK.sub
theorem Ia (hK:G w0 L (K (.bool (decide (op=12) || decide (op=13))))):G w0 L (CP Tryz.prog WX [i64 op] K):=by
 refine Ii ?_
 unfold Ab
 refine gu ?_
 by_cases h1:op=12
 ·rw [decide_eq_true h1,Bool.true_or] at hK
  refine eC (eq_true h1) ?_
  exact hK
 rw [decide_eq_false h1,Bool.false_or] at hK
 by_cases h2:op=13
 ·rw [decide_eq_true h2] at hK
  refine eC (an h1 (eq_true h2)) ?_
  exact hK
 ·rw [decide_eq_false h2] at hK
  refine eC (an h1 h2) ?_
  exact hK
theorem te (h:zb op)(hK:G w0 L (K (i64 0))):G w0 L (CP Tryz.prog VP [i64 op] K):=by
 refine HN ?_
 unfold At
 have h1:op≠15:=by unfold zb at h;omega
 have h2:op≠18:=by unfold zb at h;omega
 have h3:op≠19:=by unfold zb at h;omega
 refine eC (an h1 (an h2 h3)) ?_
 exact hK
theorem uW (h:zb op)(hK:G w0 L (K (.bool false))):G w0 L (CP Tryz.prog WW [i64 op] K):=by
 refine E9 ?_
 unfold wm
 have h1:op≠14:=by unfold zb at h;omega
 have h2:op≠17:=by unfold zb at h;omega
 refine eC (an h1 h2) ?_
 exact hK
theorem DS (hK:G w0 L (K (i64 (-1)))):G w0 L (CP Tryz.prog WS [.slice none 0 0] K):=by
 refine G.nilsl bx ?_
 refine vI ?_
 unfold nQ
 try simp (maxSteps:=2000000) only [↓RG,RP,RB,BEq.rfl,Int.reduceEq,Int.reduceLT,Int.reduceLE,Nat.reduceEqDiff,List.length_nil,Int.cast_ofNat_Int]
 exact hK.sub
theorem vC {n:Int}(h:zb op)(hK:G w0 L (K (.slice none 0 0))):G w0 L (CP Tryz.prog WR [.slice none 0 0,i64 n,i64 op] K):=by
 refine vu ?_
 unfold oh
 refine te h ?_
 have h18:op≠18:=by unfold zb at h;omega
 refine gg ?_
 refine uW h ?_
 refine gf h18 ?_
 exact hK
theorem Fo {i:dv}{p:Value} [bf p [p]](h:Gn i)(hK:G w0 L (K (i64 0))):G w0 L (CP Tryz.prog YO [.agg #[p],.slice none 0 0,.agg #[i64 i.op,i64 i.a,i64 i.b,i64 i.c,u64 i.n]] K):=by
 refine FI ?_
 unfold yq
 refine G.box fun q1=>?_
 refine G.box fun q2=>?_
 refine gr ?_
 refine Lw h ?_
 have h16:i.op≠16:=by unfold Gn at h;omega
 repeat' (first | (with_reducible refine G.joini0 ?_) | (with_reducible refine G.joini1 ?_) | (with_reducible refine G.drew ?_) | (simp (maxSteps:=2000000) only [↓RG,RP,RB,BEq.rfl,Int.reduceEq,Int.reduceLT,Int.reduceLE,Nat.reduceEqDiff,h16]))
 refine te h.op ?_
 refine gf h16 ?_
 refine uW h.op ?_
 refine gg ?_
 exact hK.sub
def jb (p:List dv):Prop:=0<p.length∧p.length≤40∧∀i∈p,Gn i∧(i.op=12∨i.op=13→i.c≤p.length)
theorem tK {p:List dv}[r:Rd w0 L v gD 5 p](hv:bf v [v])(h:jb p)(hK:∀u,bf u [u]→G w0 (sl bx u (List.replicate p.length (-1))::L) (K u)):G w0 L (CP Tryz.prog WT [.agg #[v]] K):=by
 refine CU ?_
 unfold tM
 obtain⟨h1,h2,h3⟩:=h
 refine G.box fun q=>?_
 refine gr ?_
 refine G.make bx 0 rfl (by simp only [maxLen];omega) (by omega) fun u hu=>?_
 refine gr ?_
 refine G.loop2 (fun k:Nat=>.slice none 0 0) (fun k:Nat=>i64 k) (fun k=>sl bx u (List.replicate k (-1)++List.replicate (p.length-k) 0)::own q [v]::L) (fun k=>k≤p.length) (fun k=>p.length-k) 0 rfl rfl (by simp) (by simp) ?_
 intro k hk J hJ
 refine gr ?_
 refine G.cond (fun h=>?_) (fun h=>?_)
 ·have hk2:k<p.length:=by simp at h;omega
  have e:=cw hk2
  have e2:fe (List.replicate k (-1:Int)++List.replicate (p.length-k) 0) k 0:=⟨by rw [List.getElem?_append_right (by simp),List.length_replicate,Nat.sub_self,List.getElem?_replicate,if_pos (by omega)]⟩
  have e3:(List.replicate k (-1:Int)++List.replicate (p.length-k) 0).set k (-1)=List.replicate (k+1) (-1)++List.replicate (p.length-(k+1)) 0:=by
   rw [List.set_append_right _ _ (by simp),List.length_replicate,Nat.sub_self,show p.length-k=(p.length-(k+1))+1 by omega,List.replicate_succ,List.set_cons_zero,List.replicate_succ',List.append_assoc]
   rfl
  refine gr ?_
  refine G.new fun q2=>?_
  refine gr ?_
  refine DS ?_
  refine gr ?_
  rw [e3]
  refine vC (h3 _ (List.getElem_mem hk2)).1.op ?_
  refine gr ?_
  rw [dx (by omega)]
  exact(hJ (k+1) hk2 (by omega)).sub
 ·have hk2:k=p.length:=by simp at h;omega
  subst hk2
  have:=hK u hu
  rw [Nat.sub_self]
  simp only [List.replicate_zero,List.append_nil]
  exact this.sub
theorem FD {p:List dv}{u:Value}[r:Rd w0 L v gD 5 p][r2:Rd w0 L u bx 1 (List.replicate p.length (-1))](hv:bf v [v])(hu:bf u [u])(h:jb p)(hK:G w0 L (K (.tuple #[i64 0,i64 0]))):G w0 L (CP Tryz.prog YP [.agg #[v],u] K):=by
 refine Fp ?_
 unfold nv
 obtain⟨h1,h2,h3⟩:=h
 refine G.box fun q=>?_
 refine gu ?_
 refine gr ?_
 refine G.loop1 (fun k:Nat=>i64 k) (fun k=>own q [v]::L) (fun k=>k≤p.length) (fun k=>p.length-k) 0 rfl rfl (by simp) ?_
 intro k hk J hJ
 refine gr ?_
 refine G.cond (fun h=>?_) (fun h=>?_)
 ·have hk2:k<p.length:=by simp at h;omega
  have e:=cw hk2
  have ei:fe (List.replicate p.length (-1:Int)) k (-1):=⟨by rw [List.getElem?_replicate,if_pos hk2]⟩
  obtain⟨g1,g2⟩:=h3 _ (List.getElem_mem hk2)
  generalize p[k]=i at e g1 g2
  have hnx:G w0 (own q [v]::L) (J (i64 (IntKind.wrap .i64 ((k:Int)+1)))):=by
   rw [dx (by omega)]
   exact hJ (k+1) hk2 (by omega)
  refine G.joini0 ?_
  refine gr ?_
  refine G.new fun q2=>?_
  refine gr ?_
  refine Ia ?_
  by_cases cj:i.op=12∨i.op=13
  ·have e1:(decide (i.op=12) || decide (i.op=13))=true:=by simpa using cj
   rw [e1]
   have hc:=g2 cj
   have hc0:0≤i.c:=by unfold Gn at g1;omega
   have n1:¬(p.length:Int)<i.c:=by omega
   by_cases c2:i.c=p.length
   ·have n2:¬i.c<(p.length:Int):=by omega
    repeat' (first | (with_reducible refine G.joini0 ?_) | (with_reducible refine G.joini1 ?_) | (with_reducible refine G.drew ?_) | (simp (maxSteps:=2000000) only [↓RG,RP,RB,BEq.rfl,Int.reduceEq,Int.reduceLT,Int.reduceLE,Nat.reduceEqDiff,n1,eq_true c2,n2]))
    exact hnx.sub
   ·have n2:i.c<(p.length:Int):=by omega
    have ix:iQ i.c i.c.toNat:=⟨by omega⟩
    have ej:fe (List.replicate p.length (-1:Int)) i.c.toNat (-1):=⟨by rw [List.getElem?_replicate,if_pos (by omega)]⟩
    repeat' (first | (with_reducible refine G.joini0 ?_) | (with_reducible refine G.joini1 ?_) | (with_reducible refine G.drew ?_) | (simp (maxSteps:=2000000) only [↓RG,RP,RB,BEq.rfl,Int.reduceEq,Int.reduceLT,Int.reduceLE,Nat.reduceEqDiff,n1,c2,eq_true n2]))
    exact hnx.sub
  ·have e1:(decide (i.op=12) || decide (i.op=13))=false:=by simpa using cj
   rw [e1]
   refine gr ?_
   exact hnx.sub
 ·exact hK.sub
theorem Ci {p:List dv}[r:Rd w0 L v gD 5 p](hv:bf v [v])(h:jb p)(hK:G w0 L (K (.tuple #[i64 0,i64 0]))):G w0 L (CP Tryz.prog WM [.agg #[v]] K):=by
 refine Ja ?_
 unfold BZ
 have hh:=h
 obtain⟨h1,h2,h3⟩:=h
 refine G.box fun q=>?_
 have n1:¬(p.length:Int)=0:=by omega
 have n2:¬(40:Int)<p.length:=by omega
 refine gu ?_
 refine eC (an n1 n2) ?_
 refine G.loop2 (fun k:Nat=>.slice none 0 0) (fun k:Nat=>i64 k) (fun k=>own q [v]::L) (fun k=>k≤p.length) (fun k=>p.length-k) 0 rfl rfl rfl (by simp) ?_
 intro k hk J hJ
 refine gr ?_
 refine G.cond (fun h=>?_) (fun h=>?_)
 ·have hk2:k<p.length:=by simp at h;omega
  have e:=cw hk2
  refine gr ?_
  refine G.new fun q2=>?_
  refine gr ?_
  refine Fo (h3 _ (List.getElem_mem hk2)).1 ?_
  refine gr ?_
  refine vC (h3 _ (List.getElem_mem hk2)).1.op ?_
  refine gr ?_
  rw [dx (by omega)]
  exact(hJ (k+1) hk2 (by omega)).sub
 ·refine G.nilsl bx ?_
  repeat' (first | (with_reducible refine G.joini0 ?_) | (with_reducible refine G.joini1 ?_) | (with_reducible refine G.drew ?_) | (simp (maxSteps:=2000000) only [↓RG,RP,RB,BEq.rfl,Int.reduceEq,Int.reduceLT,Int.reduceLE,Nat.reduceEqDiff,List.length_nil,Int.cast_ofNat_Int]))
  refine tK hv hh fun u hu=>?_
  refine gg ?_
  refine FD hv hu hh ?_
  refine gg ?_
  exact hK.sub
theorem Gb {p:List dv}[r:Rd w0 L v gD 5 p](hv:bf v [v])(h:jb p)(hK:∀u,bf u [u]→G w0 L (K u)):G w0 L (CP Tryz.prog YA [.agg #[v]] K):=by
 refine FH ?_
 unfold yd
 have hh:=h
 obtain⟨h1,h2,h3⟩:=h
 refine G.box fun q=>?_
 refine gr ?_
 refine Ci hv hh ?_
 refine gr ?_
 refine tK hv hh fun u hu=>?_
 refine gr ?_
 refine G.make bx 0 rfl (by simp only [maxLen];omega) (by omega) fun u2 hu2=>?_
 have hr:((List.replicate p.length (0:Int)).length:Int)=p.length:=by simp
 refine eC hr ?_
 refine G.loop1 (σ:=Nat×List Int) (fun s=>i64 s.1) (fun s=>sl bx u2 s.2::sl bx u (List.replicate p.length (-1))::own q [v]::L) (fun s=>s.1≤p.length∧s.2.length=p.length) (fun s=>p.length-s.1) (0,List.replicate p.length 0) rfl rfl (by simp) ?_
 rintro⟨k,xs⟩ ⟨hk,hx⟩ J hJ
 simp only at hk hx hJ ⊢
 refine gr ?_
 refine G.cond (fun h=>?_) (fun h=>?_)
 ·have hk2:k<xs.length:=by simp at h;omega
  have e:=cw hk2
  refine gr ?_
  rw [dx (by omega)]
  exact hJ (k+1,xs.set k (-1)) ⟨by simp only;omega,by simp [hx]⟩ (by simp only;omega)
 ·refine gr ?_
  refine G.loop1 (fun k:Nat=>i64 k) (fun k=>sl bx u2 xs::sl bx u (List.replicate p.length (-1))::own q [v]::L) (fun k=>k≤p.length) (fun k=>p.length-k) 0 rfl rfl (by simp) ?_
  intro k hk J hJ
  refine gr ?_
  refine G.cond (fun h=>?_) (fun h=>?_)
  ·have hk2:k<p.length:=by simp at h;omega
   have e:=cw hk2
   refine gr ?_
   refine G.new fun q2=>?_
   refine gr ?_
   refine te (h3 _ (List.getElem_mem hk2)).1.op ?_
   refine gg ?_
   rw [dx (by omega)]
   exact(hJ (k+1) hk2 (by omega)).sub
  ·refine gr ?_
   refine G.loop1 (fun k:Nat=>i64 k) (fun k=>sl bx u2 xs::sl bx u (List.replicate p.length (-1))::own q [v]::L) (fun k=>k≤p.length) (fun k=>p.length-k) 0 rfl rfl (by simp) ?_
   intro k hk J hJ
   refine gr ?_
   refine G.cond (fun h=>?_) (fun h=>?_)
   ·have hk2:k<p.length:=by simp at h;omega
    have e:=cw hk2
    have h16:p[k].op≠16:=by have:=(h3 _ (List.getElem_mem hk2)).1.op;unfold zb at this;omega
    refine gr ?_
    refine G.new fun q2=>?_
    refine gf h16 ?_
    rw [dx (by omega)]
    exact(hJ (k+1) hk2 (by omega)).sub
   ·exact(hK u2 hu2).sub
end
end Go.Proofs.YtoealglbimbbmaaGreatDoor.S
