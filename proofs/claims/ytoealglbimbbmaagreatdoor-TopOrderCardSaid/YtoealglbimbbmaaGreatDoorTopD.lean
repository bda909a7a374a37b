import Derived.Test.YtoealglbimbbmaaGreatDoorBook
namespace Go.Proofs.YtoealglbimbbmaaGreatDoor.S
open Go Go.Proofs
set_option linter.unusedVariables false
set_option linter.unusedSimpArgs false
structure bu where
 op:Int
 a:Int
 b:Int
 c:Int
 n:Int
abbrev bu.cells (a:bu):List Value:=[i64 a.op,i64 a.a,i64 a.b,i64 a.c,u64 a.n]
abbrev dt:jS bu:=⟨5,bu.cells,fun | [.int .i64 x0,.int .i64 x1,.int .i64 x2,.int .i64 x3,.int .u64 x4]=>some ⟨x0,x1,x2,x3,x4⟩ | _=>none,by decide,fun _=>rfl,by simp [one],fun cs a h=>by split at h <;> cases h;rfl⟩
instance {a:bu}:fx dt a [i64 a.op,i64 a.a,i64 a.b,i64 a.c,u64 a.n]:=⟨rfl⟩
structure eO where
 words:Int
 stripes:Int
 wide:Int
 threads:Int
 start:Int
 spins:Int
 writes:Int
 fuel:Int
abbrev eO.cells (a:eO):List Value:=[i64 a.words,i64 a.stripes,i64 a.wide,i64 a.threads,u64 a.start,i64 a.spins,i64 a.writes,i64 a.fuel]
abbrev fj:jS lD:=⟨1,fun s=>[s.v],fun | [.slice a n c]=>some ⟨a,n,c⟩ | _=>none,by decide,fun _=>rfl,by simp [one],fun cs a h=>by split at h <;> cases h;rfl⟩
instance {s:lD}:fx fj s [.slice s.a s.n s.c]:=⟨rfl⟩
structure Li where
 kind:Int
 err:Int
 slate:ByteArray
 stamp:Int
abbrev Li.cells (a:Li):List Value:=[i64 a.kind,i64 a.err,.string a.slate,u64 a.stamp]
abbrev iw:jS Li:=⟨4,Li.cells,fun | [.int .i64 x0,.int .i64 x1,.string x2,.int .u64 x3]=>some ⟨x0,x1,x2,x3⟩ | _=>none,by decide,fun _=>rfl,by simp [one],fun cs a h=>by split at h <;> cases h;rfl⟩
instance {a:Li}:fx iw a [i64 a.kind,i64 a.err,.string a.slate,u64 a.stamp]:=⟨rfl⟩
structure sL where
 thread:Int
 job:Int
 try_:Int
 sweep:Bool
 kind:Int
 err:Int
 begin_:Int
 stamp:Int
 born:Int
 ended:Int
 reads:lD
 cells_:lD
 frees:lD
 slate:ByteArray
abbrev sL.cells (a:sL):List Value:=[i64 a.thread,i64 a.job,i64 a.try_,.bool a.sweep,i64 a.kind,i64 a.err,u64 a.begin_,u64 a.stamp,i64 a.born,i64 a.ended,.slice a.reads.a a.reads.n a.reads.c,.slice a.cells_.a a.cells_.n a.cells_.c,.slice a.frees.a a.frees.n a.frees.c,.string a.slate]
abbrev fg:jS sL:=⟨14,sL.cells,fun | [.int .i64 x0,.int .i64 x1,.int .i64 x2,.bool x3,.int .i64 x4,.int .i64 x5,.int .u64 x6,.int .u64 x7,.int .i64 x8,.int .i64 x9,.slice a b c,.slice d e f,.slice g h i,.string x]=>some ⟨x0,x1,x2,x3,x4,x5,x6,x7,x8,x9,⟨a,b,c⟩,⟨d,e,f⟩,⟨g,h,i⟩,x⟩ | _=>none,by decide,fun _=>rfl,by simp [one],fun cs a h=>by split at h <;> cases h;rfl⟩
instance {a:sL}:fx fg a (sL.cells a):=⟨rfl⟩
abbrev GJ:jS Int:=⟨1,fun n=>[.iface 22 (u64 n)],fun | [.iface 22 (.int .u64 n)]=>some n | _=>none,by decide,fun _=>rfl,by simp [one],fun cs a h=>by split at h <;> simp_all⟩
instance {n:Int}:fx GJ n [.iface 22 (u64 n)]:=⟨rfl⟩
instance {n:Int}:gx GJ [.iface 22 (u64 n)] n:=⟨rfl⟩
abbrev Iq:jS ByteArray:=⟨1,fun s=>[.string s],fun | [.string s]=>some s | _=>none,by decide,fun _=>rfl,by simp [one],fun cs a h=>by split at h <;> simp_all⟩
instance {s:ByteArray}:fx Iq s [.string s]:=⟨rfl⟩
instance {s:ByteArray}:gx Iq [.string s] s:=⟨rfl⟩
theorem G.isSl {α:Type}{E:jS α}{w0:bh}{L:List ay}{F:World→Prop}{v:Value}{sz:Nat}{xs:List α}[r:Rd w0 L v E sz xs](h:∀s:lD,v=s.v→G w0 L F):G w0 L F:=fun w H=>by
 obtain⟨oa,cap,e,_⟩:=r.rd w H
 exact h ⟨oa,xs.length,cap⟩ e w H
theorem zI {α:Type}{E:jS α}{w0:bh}{L:List ay}{K:KV}{v:Value}{sz bytes:Nat}{xs:List α}{z:List Value}[r:Rd w0 L v E sz xs](hl:xs.length*bytes≤140737488355328)(hl2:xs.length≤maxLen)(hK:∀u,ar u [u]→G w0 (sl E u xs::L) (K u)) :
  G w0 L (eM .eql v (.slice none 0 0) (fun x1=>ae x1 (K (.slice none 0 0)) (ak z 0 [] (fun x2=>av sz bytes x2 v K)))):=by
 refine G.isNil fun t ht=>?_
 refine G.cond (fun h=>?_) (fun h=>?_)
 ·have:=ht h
  subst this
  exact G.nilsl E (hK _ be)
 ·refine G.build E [] rfl (by simp) rfl fun y _=>?_
  refine G.append (by simpa using hl) (by simpa using hl2) fun u hu=>?_
  exact hK u hu
section
variable {w0:bh}{L:List ay}{K:KV}{v:Value}{sz:Nat}{C:ay→List ay}{b:Nat}
theorem lM {xs:List Int}[r:Rd w0 L v GJ sz xs](hl:xs.length≤1000000)(hK:∀u,ar u [u]→G w0 (sl GJ u xs::L) (K u)):G w0 L (CP Tryz.prog WC [v] K):=by
 have z1:=r.sz
 subst z1
 exact ui (zI (E:=GJ) (by omega) (by simp [maxLen];omega) hK)
theorem nu {xs:List bu}[r:Rd w0 L v dt sz xs](hl:xs.length≤1000000)(hK:∀u,ar u [u]→G w0 (sl dt u xs::L) (K u)):G w0 L (CP Tryz.prog XO [v] K):=by
 have z1:=r.sz
 subst z1
 exact nF (zI (E:=dt) (by omega) (by simp [maxLen];omega) hK)
theorem kg {xs:List Li}[r:Rd w0 L v iw sz xs](hl:xs.length≤1000000)(hK:∀u,ar u [u]→G w0 (sl iw u xs::L) (K u)):G w0 L (CP Tryz.prog XU [v] K):=by
 have z1:=r.sz
 subst z1
 exact ko (zI (E:=iw) (by omega) (by simp [maxLen];omega) hK)
abbrev hZ:=kj GJ
variable {xs:List Int}
theorem KQ (hK:∀b,G w0 (ob hZ b []::L) (K (ptr b 0))):G w0 L (CP Tryz.prog Yh [] K):=by
 refine JC ?_
 unfold Dl
 refine gr ?_
 refine G.nilsl GJ ?_
 refine G.box fun b=>?_
 have h:=hK b
 rw [eK] at h
 exact h _ be
theorem xm {n:Int}[i:aq L hZ b xs C](hl:xs.length<16)(hK:G w0 (C (ob hZ b (xs++[n]))) (K (.bool true))):G w0 L (CP Tryz.prog V3 [ptr b 0,u64 n] K):=by
 refine i.use (fun M hK=>?_) hK
 refine oM ?_
 unfold jt
 refine gr ?_
 refine rO ?_
 unfold lU
 rw [eK]
 intro v hv
 have h16:¬(16:Int)≤xs.length:=by omega
 refine eY h16 ?_
 refine G.append1 (E:=GJ) (a:=n) rfl rfl (by decide) (by omega) (by simp only [maxLen];omega) fun u hu=>?_
 refine gr ?_
 rw [eK] at hK
 exact(hK u hu).sub
theorem zY [i:aq L hZ b xs C](hl:xs.length≤1000000)(hK:∀c,G w0 (ob hZ c xs::L) (K (ptr c 0))):G w0 L (CP Tryz.prog Yo [ptr b 0] K):=by
 refine i.roN (P:=fun _=>True) (N:=fun c=>ob hZ c xs) (F':=fun c=>K (ptr c 0)) (fun M hK=>?_) (fun c _=>hK c)
 refine zz ?_
 unfold qI
 rw [eK]
 intro v hv
 refine gr ?_
 refine lM (xs:=xs) hl fun u hu=>?_
 refine gr ?_
 refine G.box fun c=>?_
 have h:=hK c trivial
 rw [eK] at h
 have h:=h u hu
 have h2:G w0 (ob hZ b xs::own c [u]::sl GJ u xs::M) (K (ptr c 0)):=h.sub
 rw [eK] at h2
 exact(h2 v hv).sub
def Ch (n:Int):ByteArray:=(⟨#[48,49,50,51,52,53,54,55,56,57,97,98,99,100,101,102,103,104,105,106,107,108,109,110,111,112,113,114,115,116,117,118,119,120,121,122]⟩:ByteArray).extract n.toNat (n+1).toNat
def HV:List Int→ByteArray
 | []=>⟨#[]⟩
 | n::_=>Ch n
end
end Go.Proofs.YtoealglbimbbmaaGreatDoor.S
