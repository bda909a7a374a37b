import Derived.Test.YtoealglbimbbmaaGreatDoorSLink
import Derived.Test.YtoealglbimbbmaaGreatDoorData
namespace Go.Proofs.YtoealglbimbbmaaGreatDoor.S
open Go Go.Proofs
set_option linter.unusedVariables false
set_option linter.unusedSimpArgs false
theorem po {w0:bh}{L:List ay}{K:KV}{v:Value}{sz:Nat}{xs:List Int}[r:Rd w0 L v cx sz xs](hl:xs.length≤1000000)(hK:∀u,ar u [u]→G w0 (sl cx u xs::L) (K u)):G w0 L (CP Tryz.prog WZ [v] K):=by
 have z1:=r.sz
 subst z1
 refine ph ?_
 unfold i6
 refine G.isNil fun t ht=>?_
 refine G.cond (fun h=>?_) (fun h=>?_)
 ·have:=ht h
  subst this
  exact G.nilsl cx (hK _ be)
 ·refine G.build cx [] rfl (by simp) rfl fun y _=>?_
  refine G.append (by simp;omega) (by simp [maxLen];omega) fun u hu=>?_
  exact hK u hu
theorem eQ {w0:bh}{L:List ay}{K:KV}{v:Value}{sz:Nat}{xs:List au}[r:Rd w0 L v bf sz xs](hl:xs.length≤1000000)(hK:∀u,ar u [u]→G w0 (sl bf u xs::L) (K u)):G w0 L (CP Tryz.prog Vi [v] K):=by
 have z1:=r.sz
 subst z1
 refine mu ?_
 unfold g9
 refine G.isNil fun t ht=>?_
 refine G.cond (fun h=>?_) (fun h=>?_)
 ·have:=ht h
  subst this
  exact G.nilsl bf (hK _ be)
 ·refine G.build bf [] rfl (by simp) rfl fun y _=>?_
  refine G.append (by simp;omega) (by simp [maxLen];omega) fun u hu=>?_
  exact hK u hu
theorem iP {w0:bh}{L:List ay}{K:KV}{v:Value}{sz:Nat}{xs:List Int}[r:Rd w0 L v bg sz xs](hl:xs.length≤1000000)(hK:∀u,ar u [u]→G w0 (sl bg u xs::L) (K u)):G w0 L (CP Tryz.prog Vy [v] K):=by
 have z1:=r.sz
 subst z1
 refine tE ?_
 unfold lT
 refine G.isNil fun t ht=>?_
 refine G.cond (fun h=>?_) (fun h=>?_)
 ·have:=ht h
  subst this
  exact G.nilsl bg (hK _ be)
 ·refine G.build bg [] rfl (by simp) rfl fun y _=>?_
  refine G.append (by simp;omega) (by simp [maxLen];omega) fun u hu=>?_
  exact hK u hu
theorem fB {w0:bh}{L:List ay}{K:KV}{v:Value}{sz:Nat}{xs:List fQ}[r:Rd w0 L v gq sz xs](hl:xs.length≤1000000)(hK:∀u,ar u [u]→G w0 (sl gq u xs::L) (K u)):G w0 L (CP Tryz.prog Vz [v] K):=by
 have z1:=r.sz
 subst z1
 refine l8 ?_
 unfold gV
 refine G.isNil fun t ht=>?_
 refine G.cond (fun h=>?_) (fun h=>?_)
 ·have:=ht h
  subst this
  exact G.nilsl gq (hK _ be)
 ·refine G.build gq [] rfl (by simp) rfl fun y _=>?_
  refine G.append (by simp;omega) (by simp [maxLen];omega) fun u hu=>?_
  exact hK u hu
def kt (n lo hi:Int):Int:=lo+n % (hi-lo+1)
theorem xN {n lo hi:Int}(h:lo≤hi):lo≤kt n lo hi∧kt n lo hi≤hi:=by
 unfold kt
 have h1:=Int.emod_nonneg n (show hi-lo+1≠0 by omega)
 have h2:=Int.emod_lt_of_pos n (show 0<hi-lo+1 by omega)
 omega
theorem gA {w0:bh}{L:List ay}{K:KV}{n lo hi:Int}(h1:-4611686018427387904≤lo)(h2:lo≤hi)(h3:hi≤4611686018427387904)(hd:hi-lo≤4611686018427387904)(hK:G w0 L (K (i64 (kt n lo hi)))):G w0 L (CP Tryz.prog dg [i64 n,i64 lo,i64 hi] K):=by
 refine GB ?_
 unfold zm
 have e1:IntKind.wrap .i64 (IntKind.wrap .i64 (hi-lo)+1)=hi-lo+1:=by rw [iy (n:=hi-lo) (by omega) (by omega),iy (by omega) (by omega)]
 have ne:iG (hi-lo+1):=⟨by omega⟩
 have hm:hi-lo+1 > 0:=by omega
 have t1:=Int.tmod_lt_of_pos n hm
 have t2:=Int.lt_tmod_of_pos n hm
 have t3:n % (hi-lo+1)=if n.tmod (hi-lo+1)<0 then n.tmod (hi-lo+1)+(hi-lo+1) else n.tmod (hi-lo+1):=by
  rw [Int.emod_eq_tmod]
  by_cases h0:0≤n
  ·have:=Int.tmod_nonneg (hi-lo+1) h0
   simp [h0];omega
  ·have h00:=Int.tmod_nonneg (hi-lo+1) (show 0≤-n by omega)
   rw [Int.neg_tmod] at h00
   have:n.tmod (hi-lo+1)≤0:=by omega
   by_cases hd:hi-lo+1 ∣ n
   ·have:=Int.tmod_eq_zero_of_dvd hd
    simp [hd,this]
   ·have hne:n.tmod (hi-lo+1)≠0:=fun h=>hd (Int.dvd_of_tmod_eq_zero h)
    simp [h0,hd];omega
 unfold kt at hK
 try simp (maxSteps:=2000000) only [↓RG,RP,RB,BEq.rfl,Int.reduceEq,Int.reduceLT,Int.reduceLE,Nat.reduceEqDiff]
 simp only [e1]
 try simp (maxSteps:=2000000) only [↓RG,RP,RB,BEq.rfl,Int.reduceEq,Int.reduceLT,Int.reduceLE,Nat.reduceEqDiff]
 refine G.join1 (fun x:Int=>i64 x) (fun _=>L) (fun x=>x=n % (hi-lo+1)) (fun x hx=>?_) (fun J hJ=>?_)
 ·subst hx
  have h4:=Int.emod_nonneg n (show hi-lo+1≠0 by omega)
  have h5:=Int.emod_lt_of_pos n hm
  refine gr ?_
  rw [iy (by omega) (by omega)]
  exact hK
 ·refine G.cond (fun h=>?_) (fun h=>?_)
  ·have h:n.tmod (hi-lo+1)<0:=by simpa using h
   refine gr ?_
   rw [iy (n:=n.tmod (hi-lo+1)+hi) (by omega) (by omega),iy (n:=n.tmod (hi-lo+1)+hi-lo) (by omega) (by omega),iy (by omega) (by omega)]
   exact hJ _ (by rw [t3,if_pos h];omega)
  ·have h:¬n.tmod (hi-lo+1)<0:=by simpa using h
   exact hJ _ (by rw [t3,if_neg h])
theorem xy {w0:bh}{L:List ay}{K:KV}{n lo hi:Int}(hK:G w0 L (K (i64 (held n lo hi)))):G w0 L (CP Tryz.prog VA [i64 n,i64 lo,i64 hi] K):=by
 refine JI ?_
 unfold C5
 unfold held at hK
 refine gr ?_
 refine G.cond (fun h=>?_) (fun h=>?_)
 ·have h:n<lo:=by simpa using h
  simpa [h] using hK
 ·have h:¬n<lo:=by simpa using h
  rw [if_neg h] at hK
  refine G.cond (fun h=>?_) (fun h=>?_)
  ·have h:hi<n:=by simpa using h
   simpa [h] using hK
  ·have h:¬hi<n:=by simpa using h
   simpa [h] using hK
end Go.Proofs.YtoealglbimbbmaaGreatDoor.S
