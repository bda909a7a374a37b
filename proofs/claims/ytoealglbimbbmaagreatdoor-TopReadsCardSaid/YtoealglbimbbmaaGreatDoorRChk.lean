import Derived.Test.YtoealglbimbbmaaGreatDoorBook
namespace Go.Proofs.YtoealglbimbbmaaGreatDoor.S
open Go Go.Proofs
set_option linter.unusedVariables false
set_option linter.unusedSimpArgs false
structure dD where
 op:Int
 a:Int
 b:Int
 c:Int
 n:Int
abbrev dD.cells (a:dD):List Value:=[i64 a.op,i64 a.a,i64 a.b,i64 a.c,u64 a.n]
abbrev fv:jB dD:=⟨5,dD.cells,fun | [.int .i64 x0,.int .i64 x1,.int .i64 x2,.int .i64 x3,.int .u64 x4]=>some ⟨x0,x1,x2,x3,x4⟩ | _=>none,by decide,fun _=>rfl,by simp [one],fun cs a h=>by split at h <;> cases h;rfl⟩
instance {a:dD}:e9 fv a [i64 a.op,i64 a.a,i64 a.b,i64 a.c,u64 a.n]:=⟨rfl⟩
structure dQ where
 words:Int
 stripes:Int
 wide:Int
 threads:Int
 start:Int
 spins:Int
 writes:Int
 fuel:Int
abbrev dQ.cells (a:dQ):List Value:=[i64 a.words,i64 a.stripes,i64 a.wide,i64 a.threads,u64 a.start,i64 a.spins,i64 a.writes,i64 a.fuel]
abbrev dY:jB im:=⟨1,fun s=>[s.v],fun | [.slice a n c]=>some ⟨a,n,c⟩ | _=>none,by decide,fun _=>rfl,by simp [one],fun cs a h=>by split at h <;> cases h;rfl⟩
instance {s:im}:e9 dY s [.slice s.a s.n s.c]:=⟨rfl⟩
structure N8 where
 kind:Int
 err:Int
 slate:ByteArray
 stamp:Int
abbrev N8.cells (a:N8):List Value:=[i64 a.kind,i64 a.err,.string a.slate,u64 a.stamp]
abbrev gR:jB N8:=⟨4,N8.cells,fun | [.int .i64 x0,.int .i64 x1,.string x2,.int .u64 x3]=>some ⟨x0,x1,x2,x3⟩ | _=>none,by decide,fun _=>rfl,by simp [one],fun cs a h=>by split at h <;> cases h;rfl⟩
instance {a:N8}:e9 gR a [i64 a.kind,i64 a.err,.string a.slate,u64 a.stamp]:=⟨rfl⟩
structure s9 where
 thread:Int
 job:Int
 try_:Int
 sweep:Bool
 kind:Int
 err:Int
 begin_:Int
 stamp:Int
 born:Int
 ended:Int
 reads:im
 cells_:im
 frees:im
 slate:ByteArray
abbrev s9.cells (a:s9):List Value:=[i64 a.thread,i64 a.job,i64 a.try_,.bool a.sweep,i64 a.kind,i64 a.err,u64 a.begin_,u64 a.stamp,i64 a.born,i64 a.ended,.slice a.reads.a a.reads.n a.reads.c,.slice a.cells_.a a.cells_.n a.cells_.c,.slice a.frees.a a.frees.n a.frees.c,.string a.slate]
abbrev eE:jB s9:=⟨14,s9.cells,fun | [.int .i64 x0,.int .i64 x1,.int .i64 x2,.bool x3,.int .i64 x4,.int .i64 x5,.int .u64 x6,.int .u64 x7,.int .i64 x8,.int .i64 x9,.slice a b c,.slice d e f,.slice g h i,.string x]=>some ⟨x0,x1,x2,x3,x4,x5,x6,x7,x8,x9,⟨a,b,c⟩,⟨d,e,f⟩,⟨g,h,i⟩,x⟩ | _=>none,by decide,fun _=>rfl,by simp [one],fun cs a h=>by split at h <;> cases h;rfl⟩
instance {a:s9}:e9 eE a (s9.cells a):=⟨rfl⟩
inductive kR where
 | num (n:Int)
 | truth (t:Bool)
 | none
 deriving DecidableEq
abbrev kR.v:kR→Value
 | .num n=>.iface 22 (u64 n)
 | .truth t=>.iface 4 (.bool t)
 | .none=>.iface 421 (.agg #[])
def Sc (t:Nat)(v:Value):Option kR :=
 if t=22 then (match v with | .int .u64 n=>some (.num n) | _=>none)
 else if t=4 then (match v with | .bool b=>some (.truth b) | _=>none)
 else if t=421 then (match v with | .agg x=>if x.size=0 then some .none else none | _=>none)
 else none
theorem R6 {t:Nat}{v:Value}{a:kR}(h:Sc t v=some a):a.v=.iface t v:=by
 unfold Sc at h
 split at h
 ·rename_i e;subst e;split at h <;> cases h;rfl
 split at h
 ·rename_i e;subst e;split at h <;> cases h;rfl
 split at h
 ·rename_i e;subst e
  split at h
  ·rename_i x
   split at h
   ·rename_i e2;cases h
    have:x=#[]:=Array.size_eq_zero_iff.1 e2
    subst this;rfl
   ·cases h
  ·cases h
 ·cases h
abbrev Hs:jB kR:=⟨1,fun x=>[x.v],fun | [.iface t v]=>Sc t v | _=>none,by decide,fun _=>rfl,fun a=>by cases a <;> simp [one],fun cs a h=>by
 split at h
 ·exact congrArg (·::[]) (R6 h)
 ·cases h⟩
instance {x:kR}:e9 Hs x [x.v]:=⟨rfl⟩
instance {x:kR}:fy Hs [x.v] x:=⟨by cases x <;> rfl⟩
instance {x:kR}:av x.v [x.v]:=⟨by cases x <;> rfl,by cases x <;> simp [one]⟩
abbrev JK:jB ByteArray:=⟨1,fun s=>[.string s],fun | [.string s]=>some s | _=>none,by decide,fun _=>rfl,by simp [one],fun cs a h=>by split at h <;> simp_all⟩
instance {s:ByteArray}:e9 JK s [.string s]:=⟨rfl⟩
instance {s:ByteArray}:fy JK [.string s] s:=⟨rfl⟩
theorem G.isSl {α:Type}{E:jB α}{w0:bg}{L:List ax}{F:World→Prop}{v:Value}{sz:Nat}{xs:List α}[r:Rd w0 L v E sz xs](h:∀s:im,v=s.v→G w0 L F):G w0 L F:=fun w H=>by
 obtain⟨oa,cap,e,_⟩:=r.rd w H
 exact h ⟨oa,xs.length,cap⟩ e w H
theorem AQ {α:Type}{E:jB α}{w0:bg}{L:List ax}{K:KV}{v:Value}{sz bytes:Nat}{xs:List α}{z:List Value}[r:Rd w0 L v E sz xs](hl:xs.length*bytes≤140737488355328)(hl2:xs.length≤maxLen)(hK:∀u,av u [u]→G w0 (sl E u xs::L) (K u)) :
  G w0 L (dS .eql v (.slice none 0 0) (fun x1=>ae x1 (K (.slice none 0 0)) (ap z 0 [] (fun x2=>bv sz bytes x2 v K)))):=by
 refine G.isNil fun t ht=>?_
 refine G.cond (fun h=>?_) (fun h=>?_)
 ·have:=ht h
  subst this
  exact G.nilsl E (hK _ bf)
 ·refine G.build E [] rfl (by simp) rfl fun y _=>?_
  refine G.append (by simpa using hl) (by simpa using hl2) fun u hu=>?_
  exact hK u hu
section
variable {w0:bg}{L:List ax}{K:KV}{v:Value}{sz:Nat}{C:ax→List ax}{b:Nat}
theorem uc {xs:List kR}[r:Rd w0 L v Hs sz xs](hl:xs.length≤1000000)(hK:∀u,av u [u]→G w0 (sl Hs u xs::L) (K u)):G w0 L (CP Tryz.prog abM [v] K):=by
 have z1:=r.sz
 subst z1
 exact tL (AQ (E:=Hs) (by omega) (by simp [maxLen];omega) hK)
theorem mS {xs:List dD}[r:Rd w0 L v fv sz xs](hl:xs.length≤1000000)(hK:∀u,av u [u]→G w0 (sl fv u xs::L) (K u)):G w0 L (CP Tryz.prog aa1 [v] K):=by
 have z1:=r.sz
 subst z1
 exact mZ (AQ (E:=fv) (by omega) (by simp [maxLen];omega) hK)
theorem jT {xs:List N8}[r:Rd w0 L v gR sz xs](hl:xs.length≤1000000)(hK:∀u,av u [u]→G w0 (sl gR u xs::L) (K u)):G w0 L (CP Tryz.prog aa8 [v] K):=by
 have z1:=r.sz
 subst z1
 exact jM (AQ (E:=gR) (by omega) (by simp [maxLen];omega) hK)
abbrev f8:=jP Hs
variable {xs:List kR}
theorem LQ (hK:∀b,G w0 (ob f8 b []::L) (K (ptr b 0))):G w0 L (CP Tryz.prog abr [] K):=by
 refine My ?_
 unfold D3
 refine gr ?_
 refine G.nilsl Hs ?_
 refine G.box fun b=>?_
 have h:=hK b
 rw [fe] at h
 exact h _ bf
abbrev yW (xs:List kR)(a:kR):List kR:=if xs.length<16 then xs++[a] else xs
theorem xd {a:kR}{v:Value}(hv:Hs.enc a=[v])(hl:xs.length≤16)[i:al L f8 b xs C](hK:G w0 (C (ob f8 b (yW xs a))) (K (.bool (decide (xs.length<16))))):G w0 L (CP Tryz.prog Yg [ptr b 0,v] K):=by
 cases hv
 refine i.use (fun M hK=>?_) hK
 refine Bk ?_
 unfold rq
 rw [fe] at *
 intro v hv
 by_cases h:xs.length<16
 ·rw [yW,if_pos h,decide_eq_true h] at hK
  have h16:¬(16:Int)≤xs.length:=by omega
  refine dN h16 ?_
  refine G.append1 (E:=Hs) (a:=a) rfl rfl (by decide) (by omega) (by simp only [maxLen];omega) fun u hu=>?_
  refine gr ?_
  exact(hK u hu).sub
 ·rw [yW,if_neg h,decide_eq_false h] at hK
  have h16:(16:Int)≤xs.length:=by omega
  have hK:=hK v hv
  refine dN h16 ?_
  exact hK
theorem xU {n:Int}[i:al L f8 b xs C](hl:xs.length≤16)(hK:G w0 (C (ob f8 b (yW xs (.num n)))) (K (.bool (decide (xs.length<16))))):G w0 L (CP Tryz.prog Zk [ptr b 0,u64 n] K):=by
 refine wx ?_
 unfold nJ
 refine gr ?_
 exact xd (a:=.num n) rfl hl hK
theorem CX {t:Bool}[i:al L f8 b xs C](hl:xs.length≤16)(hK:G w0 (C (ob f8 b (yW xs (.truth t)))) (K (.bool (decide (xs.length<16))))):G w0 L (CP Tryz.prog abZ [ptr b 0,.bool t] K):=by
 refine um ?_
 unfold lu
 refine gr ?_
 exact xd (a:=.truth t) rfl hl hK
theorem uP [i:al L f8 b xs C](hl:xs.length≤16)(hK:G w0 (C (ob f8 b (yW xs .none))) (K (.bool (decide (xs.length<16))))):G w0 L (CP Tryz.prog Zu [ptr b 0] K):=by
 refine vN ?_
 unfold lW
 refine gr ?_
 exact xd (a:=.none) rfl hl hK
theorem AB [i:al L f8 b xs C](hl:xs.length≤1000000)(hK:∀c,G w0 (ob f8 c xs::L) (K (ptr c 0))):G w0 L (CP Tryz.prog aby [ptr b 0] K):=by
 refine i.roN (P:=fun _=>True) (N:=fun c=>ob f8 c xs) (F':=fun c=>K (ptr c 0)) (fun M hK=>?_) (fun c _=>hK c)
 refine zY ?_
 unfold qi
 rw [fe]
 intro v hv
 refine gr ?_
 refine uc (xs:=xs) hl fun u hu=>?_
 refine gr ?_
 refine G.box fun c=>?_
 have h:=hK c trivial
 rw [fe] at h
 have h:=h u hu
 have h2:G w0 (ob f8 b xs::own c [u]::sl Hs u xs::M) (K (ptr c 0)):=h.sub
 rw [fe] at h2
 exact(h2 v hv).sub
def Dh (n:Int):ByteArray:=(⟨#[48,49,50,51,52,53,54,55,56,57,97,98,99,100,101,102,103,104,105,106,107,108,109,110,111,112,113,114,115,116,117,118,119,120,121,122]⟩:ByteArray).extract n.toNat (n+1).toNat
def I6:List kR→ByteArray
 | .num n::_=>Dh n
 | _=>⟨#[]⟩
end
end Go.Proofs.YtoealglbimbbmaaGreatDoor.S
namespace Go.Proofs.YtoealglbimbbmaaGreatDoor.S
open Go Go.Proofs
set_option linter.unusedVariables false
set_option linter.unusedSimpArgs false
def th (n:Int):Prop:=0≤n∧n≤7
def I5 (i:dD):Prop :=
 (i.op=1∧th i.a∧i.b=0∧i.c=0)∨(i.op=3∧th i.a∧th i.b∧th i.c∧i.n=0) ∨
 ((i.op=8∨i.op=9)∧th i.a∧th i.b∧0≤i.c∧i.c≤15∧i.n=0)∨(i.op=21∧th i.a∧i.b=0∧i.c=0∧i.n=0) ∨
 (i.op=23∧1≤i.a∧i.a≤12∧0≤i.b∧i.b≤7∧i.c=1∧i.n=0)
def vx (n:Int):Prop:=n=1∨n=3∨n=8∨n=9∨n=21∨n=23
theorem I5.op {i:dD}(h:I5 i):vx i.op:=by unfold I5 at h;unfold vx;omega
def J4 (op:Int):Int×Int×Int:=if op=1∨op=21 then (7,0,0) else if op=3 then (7,7,7) else if op=23 then (12,7,6) else (7,7,15)
def VE (op:Int):Int:=if op=23 then 1 else 0
section
variable {w0:bg}{L:List ax}{K:KV}{v:Value}{C:ax→List ax}{b:Nat}{op:Int}
theorem SK {a b:ByteArray}{K:KV}(h:(a.toList == b.toList)=false):G w0 L (qx .neq (.string a) (.string b) K)=G w0 L (K (.bool true)):=by
 congr 1
 funext w
 show Fi .neq (a.toList == b.toList) K w=_
 rw [h]
 rfl
theorem Iy (h:vx op)(hK:G w0 L (K (.tuple #[.agg #[i64 (VE op),i64 (J4 op).1],.agg #[i64 0,i64 (J4 op).2.1],.agg #[i64 0,i64 (J4 op).2.2]]))):G w0 L (CP Tryz.prog abT [i64 op] K):=by
 refine Io ?_
 unfold zt
 refine G.new fun q1=>?_
 refine G.new fun q2=>?_
 refine G.new fun q3=>?_
 refine gr ?_
 refine G.new fun q4=>?_
 rcases h with h | h | h | h | h | h <;> subst h
 ·repeat' (first | (with_reducible refine G.joini0 ?_) | (with_reducible refine G.joini1 ?_) | (with_reducible refine G.drew ?_) | (simp (maxSteps:=2000000) only [↓RG,RP,RB,BEq.rfl,Int.reduceEq,Int.reduceLT,Int.reduceLE,Nat.reduceEqDiff]))
  exact hK.sub
 ·repeat' (first | (with_reducible refine G.joini0 ?_) | (with_reducible refine G.joini1 ?_) | (with_reducible refine G.drew ?_) | (simp (maxSteps:=2000000) only [↓RG,RP,RB,BEq.rfl,Int.reduceEq,Int.reduceLT,Int.reduceLE,Nat.reduceEqDiff]))
  exact hK.sub
 ·repeat' (first | (with_reducible refine G.joini0 ?_) | (with_reducible refine G.joini1 ?_) | (with_reducible refine G.drew ?_) | (simp (maxSteps:=2000000) only [↓RG,RP,RB,BEq.rfl,Int.reduceEq,Int.reduceLT,Int.reduceLE,Nat.reduceEqDiff]))
  exact hK.sub
 ·repeat' (first | (with_reducible refine G.joini0 ?_) | (with_reducible refine G.joini1 ?_) | (with_reducible refine G.drew ?_) | (simp (maxSteps:=2000000) only [↓RG,RP,RB,BEq.rfl,Int.reduceEq,Int.reduceLT,Int.reduceLE,Nat.reduceEqDiff]))
  exact hK.sub
 ·repeat' (first | (with_reducible refine G.joini0 ?_) | (with_reducible refine G.joini1 ?_) | (with_reducible refine G.drew ?_) | (simp (maxSteps:=2000000) only [↓RG,RP,RB,BEq.rfl,Int.reduceEq,Int.reduceLT,Int.reduceLE,Nat.reduceEqDiff]))
  exact hK.sub
 ·repeat' (first | (with_reducible refine G.joini0 ?_) | (with_reducible refine G.joini1 ?_) | (with_reducible refine G.drew ?_) | (simp (maxSteps:=2000000) only [↓RG,RP,RB,BEq.rfl,Int.reduceEq,Int.reduceLT,Int.reduceLE,Nat.reduceEqDiff]))
  exact hK.sub
theorem lG {lo hi n:Int}(hK:G w0 L (K (.bool (decide (lo≤n) && decide (n≤hi))))):G w0 L (CP Tryz.prog Yf [.agg #[i64 lo,i64 hi],i64 n] K):=by
 refine CB ?_
 unfold rj
 refine gu ?_
 refine G.box fun q=>?_
 refine gr ?_
 refine G.all (decide (n≤hi)) (fun _ K hK=>by refine gr ?_;exact hK) ?_
 exact hK.sub
theorem MM (h:vx op)(hK:∀s:ByteArray,(s.toList == (⟨#[]⟩:ByteArray).toList)=false→G w0 L (K (.string s))):G w0 L (CP Tryz.prog abU [i64 op] K):=by
 refine L3 ?_
 unfold D2
 refine K4 ?_
 unfold Bt
 refine G.build JK [⟨#[]⟩,⟨#[115,101,116]⟩,⟨#[109,111,118,101]⟩,⟨#[97,100,100]⟩,⟨#[115,117,98]⟩,⟨#[109,117,108]⟩,⟨#[108,101,115,115]⟩,⟨#[101,113,117,97,108]⟩,⟨#[108,111,97,100]⟩,⟨#[115,116,111,114,101]⟩,⟨#[97,108,108,111,99]⟩,⟨#[102,114,101,101]⟩,⟨#[106,117,109,112]⟩,⟨#[122,101,114,111]⟩,⟨#[111,112,101,110]⟩,⟨#[99,108,111,115,101]⟩,⟨#[117,110,100,111]⟩,⟨#[101,105,116,104,101,114]⟩,⟨#[111,114]⟩,⟨#[100,111,110,101]⟩,⟨#[114,101,116,114,121]⟩,⟨#[101,109,105,116]⟩,⟨#[102,97,105,108]⟩,⟨#[99,97,108,108]⟩] rfl (by decide) rfl fun v hv=>?_
 refine K7 ?_
 unfold B4
 refine gu ?_
 rcases h with h | h | h | h | h | h <;> subst h
 ·try simp (maxSteps:=2000000) only [↓RG,RP,RB,BEq.rfl,Int.reduceEq,Int.reduceLT,Int.reduceLE,Nat.reduceEqDiff,List.length_cons,List.length_nil,Nat.reduceAdd,Int.cast_ofNat_Int]
  exact(hK ⟨#[115,101,116]⟩ (by decide +kernel)).sub
 ·try simp (maxSteps:=2000000) only [↓RG,RP,RB,BEq.rfl,Int.reduceEq,Int.reduceLT,Int.reduceLE,Nat.reduceEqDiff,List.length_cons,List.length_nil,Nat.reduceAdd,Int.cast_ofNat_Int]
  exact(hK ⟨#[97,100,100]⟩ (by decide +kernel)).sub
 ·try simp (maxSteps:=2000000) only [↓RG,RP,RB,BEq.rfl,Int.reduceEq,Int.reduceLT,Int.reduceLE,Nat.reduceEqDiff,List.length_cons,List.length_nil,Nat.reduceAdd,Int.cast_ofNat_Int]
  exact(hK ⟨#[108,111,97,100]⟩ (by decide +kernel)).sub
 ·try simp (maxSteps:=2000000) only [↓RG,RP,RB,BEq.rfl,Int.reduceEq,Int.reduceLT,Int.reduceLE,Nat.reduceEqDiff,List.length_cons,List.length_nil,Nat.reduceAdd,Int.cast_ofNat_Int]
  exact(hK ⟨#[115,116,111,114,101]⟩ (by decide +kernel)).sub
 ·try simp (maxSteps:=2000000) only [↓RG,RP,RB,BEq.rfl,Int.reduceEq,Int.reduceLT,Int.reduceLE,Nat.reduceEqDiff,List.length_cons,List.length_nil,Nat.reduceAdd,Int.cast_ofNat_Int]
  exact(hK ⟨#[101,109,105,116]⟩ (by decide +kernel)).sub
 ·try simp (maxSteps:=2000000) only [↓RG,RP,RB,BEq.rfl,Int.reduceEq,Int.reduceLT,Int.reduceLE,Nat.reduceEqDiff,List.length_cons,List.length_nil,Nat.reduceAdd,Int.cast_ofNat_Int]
  exact(hK ⟨#[99,97,108,108]⟩ (by decide +kernel)).sub
theorem N1 {i:dD}(h:I5 i)(hK:G w0 L (K (.bool true))):G w0 L (CP Tryz.prog abO [.agg #[i64 i.op,i64 i.a,i64 i.b,i64 i.c,u64 i.n]] K):=by
 refine N7 ?_
 unfold Gf
 refine G.box fun q=>?_
 refine gr ?_
 refine Iy h.op ?_
 refine gr ?_
 refine G.new fun q1=>?_
 refine G.new fun q2=>?_
 refine G.new fun q3=>?_
 refine gr ?_
 refine MM h.op fun s hs=>?_
 rw [SK hs]
 refine gr ?_
 refine lG ?_
 have e1:(decide (VE i.op≤i.a) && decide (i.a≤(J4 i.op).1))=true:=by
  unfold I5 th at h;unfold J4 VE
  simp only [Bool.and_eq_true,decide_eq_true_eq]
  repeat' split
  all_goals (simp only;omega)
 have e2:(decide (0≤i.b) && decide (i.b≤(J4 i.op).2.1))=true:=by
  unfold I5 th at h;unfold J4
  simp only [Bool.and_eq_true,decide_eq_true_eq]
  repeat' split
  all_goals (simp only;omega)
 have e3:(decide (0≤i.c) && decide (i.c≤(J4 i.op).2.2))=true:=by
  unfold I5 th at h;unfold J4
  simp only [Bool.and_eq_true,decide_eq_true_eq]
  repeat' split
  all_goals (simp only;omega)
 rw [e1]
 refine gr ?_
 refine lG ?_
 rw [e2]
 refine gr ?_
 refine lG ?_
 rw [e3]
 refine gu ?_
 refine gr ?_
 by_cases hn:i.n=0
 ·refine dN hn ?_
  exact hK.sub
 ·have ho:i.op=1:=by unfold I5 at h;omega
  refine dN (an hn ho) ?_
  exact hK.sub
theorem K2 (h:vx op)(hK:G w0 L (K (.bool false))):G w0 L (CP Tryz.prog Zj [i64 op] K):=by
 refine KL ?_
 unfold B6
 have h1:op≠12:=by unfold vx at h;omega
 have h2:op≠13:=by unfold vx at h;omega
 refine dN (an h1 h2) ?_
 exact hK
theorem t6 (h:vx op)(hK:G w0 L (K (i64 0))):G w0 L (CP Tryz.prog XN [i64 op] K):=by
 refine Ks ?_
 unfold Bz
 have h1:op≠15:=by unfold vx at h;omega
 have h2:op≠18:=by unfold vx at h;omega
 have h3:op≠19:=by unfold vx at h;omega
 refine dN (an h1 (an h2 h3)) ?_
 exact hK
theorem v9 (h:vx op)(hK:G w0 L (K (.bool false))):G w0 L (CP Tryz.prog Zi [i64 op] K):=by
 refine FK ?_
 unfold xm
 have h1:op≠14:=by unfold vx at h;omega
 have h2:op≠17:=by unfold vx at h;omega
 refine dN (an h1 h2) ?_
 exact hK
theorem FL (hK:G w0 L (K (i64 (-1)))):G w0 L (CP Tryz.prog Zf [.slice none 0 0] K):=by
 refine G.nilsl cd ?_
 refine wH ?_
 unfold ov
 try simp (maxSteps:=2000000) only [↓RG,RP,RB,BEq.rfl,Int.reduceEq,Int.reduceLT,Int.reduceLE,Nat.reduceEqDiff,List.length_nil,Int.cast_ofNat_Int]
 exact hK.sub
theorem xE {n:Int}(h:vx op)(hK:G w0 L (K (.slice none 0 0))):G w0 L (CP Tryz.prog Ze [.slice none 0 0,i64 n,i64 op] K):=by
 refine wh ?_
 unfold nO
 refine t6 h ?_
 have h18:op≠18:=by unfold vx at h;omega
 refine gg ?_
 refine v9 h ?_
 refine gf h18 ?_
 exact hK
theorem HL {i:dD}{p:Value} [av p [p]](h:I5 i)(hK:G w0 L (K (i64 0))):G w0 L (CP Tryz.prog abD [.agg #[p],.slice none 0 0,.agg #[i64 i.op,i64 i.a,i64 i.b,i64 i.c,u64 i.n]] K):=by
 refine IJ ?_
 unfold zp
 refine G.box fun q1=>?_
 refine G.box fun q2=>?_
 refine gr ?_
 refine N1 h ?_
 have h16:i.op≠16:=by unfold I5 at h;omega
 repeat' (first | (with_reducible refine G.joini0 ?_) | (with_reducible refine G.joini1 ?_) | (with_reducible refine G.drew ?_) | (simp (maxSteps:=2000000) only [↓RG,RP,RB,BEq.rfl,Int.reduceEq,Int.reduceLT,Int.reduceLE,Nat.reduceEqDiff,h16]))
 refine t6 h.op ?_
 refine gf h16 ?_
 refine v9 h.op ?_
 refine gg ?_
 exact hK.sub
def ir (p:List dD):Prop:=0<p.length∧p.length≤40∧∀i∈p,I5 i
theorem ut {p:List dD}[r:Rd w0 L v fv 5 p](hv:av v [v])(h:ir p)(hK:∀u,av u [u]→G w0 (sl cd u (List.replicate p.length (-1))::L) (K u)):G w0 L (CP Tryz.prog Zg [.agg #[v]] K):=by
 refine EE ?_
 unfold uD
 obtain⟨h1,h2,h3⟩:=h
 refine G.box fun q=>?_
 refine gr ?_
 refine G.make cd 0 rfl (by simp only [maxLen];omega) (by omega) fun u hu=>?_
 refine gr ?_
 refine G.loop2 (fun k:Nat=>.slice none 0 0) (fun k:Nat=>i64 k) (fun k=>sl cd u (List.replicate k (-1)++List.replicate (p.length-k) 0)::own q [v]::L) (fun k=>k≤p.length) (fun k=>p.length-k) 0 rfl rfl (by simp) (by simp) ?_
 intro k hk J hJ
 refine gr ?_
 refine G.cond (fun h=>?_) (fun h=>?_)
 ·have hk2:k<p.length:=by simp at h;omega
  have e:=cW hk2
  have e2:eA (List.replicate k (-1:Int)++List.replicate (p.length-k) 0) k 0:=⟨by rw [List.getElem?_append_right (by simp),List.length_replicate,Nat.sub_self,List.getElem?_replicate,if_pos (by omega)]⟩
  have e3:(List.replicate k (-1:Int)++List.replicate (p.length-k) 0).set k (-1)=List.replicate (k+1) (-1)++List.replicate (p.length-(k+1)) 0:=by
   rw [List.set_append_right _ _ (by simp),List.length_replicate,Nat.sub_self,show p.length-k=(p.length-(k+1))+1 by omega,List.replicate_succ,List.set_cons_zero,List.replicate_succ',List.append_assoc]
   rfl
  refine gr ?_
  refine G.new fun q2=>?_
  refine gr ?_
  refine FL ?_
  refine gr ?_
  rw [e3]
  refine xE (h3 _ (List.getElem_mem hk2)).op ?_
  refine gr ?_
  rw [dt (by omega)]
  exact(hJ (k+1) hk2 (by omega)).sub
 ·have hk2:k=p.length:=by simp at h;omega
  subst hk2
  have:=hK u hu
  rw [Nat.sub_self]
  simp only [List.replicate_zero,List.append_nil]
  exact this.sub
theorem IG {p:List dD}{u:Value}[r:Rd w0 L v fv 5 p](hv:av v [v])(h:ir p)(hK:G w0 L (K (.tuple #[i64 0,i64 0]))):G w0 L (CP Tryz.prog abE [.agg #[v],u] K):=by
 refine Ih ?_
 unfold nm
 obtain⟨h1,h2,h3⟩:=h
 refine G.box fun q=>?_
 refine gr ?_
 refine G.loop1 (fun k:Nat=>i64 k) (fun k=>own q [v]::L) (fun k=>k≤p.length) (fun k=>p.length-k) 0 rfl rfl (by simp) ?_
 intro k hk J hJ
 refine gr ?_
 refine G.cond (fun h=>?_) (fun h=>?_)
 ·have hk2:k<p.length:=by simp at h;omega
  have e:=cW hk2
  refine G.joini0 ?_
  refine gr ?_
  refine G.new fun q2=>?_
  refine gr ?_
  refine K2 (h3 _ (List.getElem_mem hk2)).op ?_
  refine gr ?_
  rw [dt (by omega)]
  exact(hJ (k+1) hk2 (by omega)).sub
 ·exact hK.sub
theorem DS {p:List dD}[r:Rd w0 L v fv 5 p](hv:av v [v])(h:ir p)(hK:G w0 L (K (.tuple #[i64 0,i64 0]))):G w0 L (CP Tryz.prog Y9 [.agg #[v]] K):=by
 refine MO ?_
 unfold Ev
 have hh:=h
 obtain⟨h1,h2,h3⟩:=h
 refine G.box fun q=>?_
 have n1:¬(p.length:Int)=0:=by omega
 have n2:¬(40:Int)<p.length:=by omega
 refine gu ?_
 refine dN (an n1 n2) ?_
 refine G.loop2 (fun k:Nat=>.slice none 0 0) (fun k:Nat=>i64 k) (fun k=>own q [v]::L) (fun k=>k≤p.length) (fun k=>p.length-k) 0 rfl rfl rfl (by simp) ?_
 intro k hk J hJ
 refine gr ?_
 refine G.cond (fun h=>?_) (fun h=>?_)
 ·have hk2:k<p.length:=by simp at h;omega
  have e:=cW hk2
  refine gr ?_
  refine G.new fun q2=>?_
  refine gr ?_
  refine HL (h3 _ (List.getElem_mem hk2)) ?_
  refine gr ?_
  refine xE (h3 _ (List.getElem_mem hk2)).op ?_
  refine gr ?_
  rw [dt (by omega)]
  exact(hJ (k+1) hk2 (by omega)).sub
 ·refine G.nilsl cd ?_
  repeat' (first | (with_reducible refine G.joini0 ?_) | (with_reducible refine G.joini1 ?_) | (with_reducible refine G.drew ?_) | (simp (maxSteps:=2000000) only [↓RG,RP,RB,BEq.rfl,Int.reduceEq,Int.reduceLT,Int.reduceLE,Nat.reduceEqDiff,List.length_nil,Int.cast_ofNat_Int]))
  refine ut hv hh fun u hu=>?_
  refine gg ?_
  refine IG hv hh ?_
  refine gg ?_
  exact hK.sub
theorem Ik {p:List dD}[r:Rd w0 L v fv 5 p](hv:av v [v])(h:ir p)(hK:∀u,av u [u]→G w0 L (K u)):G w0 L (CP Tryz.prog abq [.agg #[v]] K):=by
 refine It ?_
 unfold zg
 have hh:=h
 obtain⟨h1,h2,h3⟩:=h
 refine G.box fun q=>?_
 refine gr ?_
 refine DS hv hh ?_
 refine gr ?_
 refine ut hv hh fun u hu=>?_
 refine gr ?_
 refine G.make cd 0 rfl (by simp only [maxLen];omega) (by omega) fun u2 hu2=>?_
 have hr:((List.replicate p.length (0:Int)).length:Int)=p.length:=by simp
 refine dN hr ?_
 refine G.loop1 (σ:=Nat×List Int) (fun s=>i64 s.1) (fun s=>sl cd u2 s.2::sl cd u (List.replicate p.length (-1))::own q [v]::L) (fun s=>s.1≤p.length∧s.2.length=p.length) (fun s=>p.length-s.1) (0,List.replicate p.length 0) rfl rfl (by simp) ?_
 rintro⟨k,xs⟩ ⟨hk,hx⟩ J hJ
 simp only at hk hx hJ ⊢
 refine gr ?_
 refine G.cond (fun h=>?_) (fun h=>?_)
 ·have hk2:k<xs.length:=by simp at h;omega
  have e:=cW hk2
  refine gr ?_
  rw [dt (by omega)]
  exact hJ (k+1,xs.set k (-1)) ⟨by simp only;omega,by simp [hx]⟩ (by simp only;omega)
 ·refine gr ?_
  refine G.loop1 (fun k:Nat=>i64 k) (fun k=>sl cd u2 xs::sl cd u (List.replicate p.length (-1))::own q [v]::L) (fun k=>k≤p.length) (fun k=>p.length-k) 0 rfl rfl (by simp) ?_
  intro k hk J hJ
  refine gr ?_
  refine G.cond (fun h=>?_) (fun h=>?_)
  ·have hk2:k<p.length:=by simp at h;omega
   have e:=cW hk2
   refine gr ?_
   refine G.new fun q2=>?_
   refine gr ?_
   refine t6 (h3 _ (List.getElem_mem hk2)).op ?_
   refine gg ?_
   rw [dt (by omega)]
   exact(hJ (k+1) hk2 (by omega)).sub
  ·refine gr ?_
   refine G.loop1 (fun k:Nat=>i64 k) (fun k=>sl cd u2 xs::sl cd u (List.replicate p.length (-1))::own q [v]::L) (fun k=>k≤p.length) (fun k=>p.length-k) 0 rfl rfl (by simp) ?_
   intro k hk J hJ
   refine gr ?_
   refine G.cond (fun h=>?_) (fun h=>?_)
   ·have hk2:k<p.length:=by simp at h;omega
    have e:=cW hk2
    have h16:p[k].op≠16:=by have:=(h3 _ (List.getElem_mem hk2)).op;unfold vx at this;omega
    refine gr ?_
    refine G.new fun q2=>?_
    refine gf h16 ?_
    rw [dt (by omega)]
    exact(hJ (k+1) hk2 (by omega)).sub
   ·exact(hK u2 hu2).sub
end
end Go.Proofs.YtoealglbimbbmaaGreatDoor.S
