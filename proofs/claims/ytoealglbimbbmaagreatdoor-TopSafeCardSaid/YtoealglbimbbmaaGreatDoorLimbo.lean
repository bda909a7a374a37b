import Derived.Test.YtoealglbimbbmaaGreatDoorBook
namespace Go.Proofs.YtoealglbimbbmaaGreatDoor.S
open Go Go.Proofs
set_option linter.unusedVariables false
set_option linter.unusedSimpArgs false
def iG (n:Int)(xs:List Int):Bool:=decide (1≤n) && decide (n<xs.length)
theorem Cx {n:Int}{xs:List Int}(h:iG n xs=true):∃k:Nat,n=k∧1≤k∧k<xs.length:=by
 simp [iG] at h
 exact⟨n.toNat,by omega,by omega,by omega⟩
section
variable {w0:bo}{L M:List bd}{K:KV}{F:World→Prop}{C:bd→List bd}{b:Nat}{xs:List Int}
theorem L1 {n:Int}(hK:∀b,G w0 (ob iM b (List.replicate (held n 32 256).toNat 0)::L) (K (ptr b 0))):G w0 L (CP Tryz.prog Xg [i64 n] K):=by
 refine Lg ?_
 unfold DP
 refine gr ?_
 have e3:(if (if (256:Int)<n then (256:Int) else n) > 32 then (if (256:Int)<n then (256:Int) else n) else 32)=((held n 32 256).toNat:Int):=by
  unfold held;split <;> split <;> split <;> (try split) <;> omega
 have hb:=eI (n:=n) (show (32:Int)≤256 by omega)
 rw [e3]
 refine G.make dd 0 rfl (by simp only [maxLen];omega) (by omega) fun v hv=>?_
 refine gr ?_
 refine G.box fun b=>?_
 have:=hK b
 rw [ga] at this
 exact this v hv
theorem CL [i:au L iM b xs C](hl:xs.length≤1000000)(hK:∀u,bf u [u]→G w0 (sl dd u xs::L) (K u)):G w0 L (CP Tryz.prog Xh [ptr b 0] K):=by
 refine i.roN (fun M hK=>?_) hK
 rw [ga]
 intro v hv
 refine CZ ?_
 unfold tO
 refine gr ?_
 refine oR hl fun u hu=>?_
 have:=hK u hu
 rw [fC,ga] at this
 exact G.sub (this v hv)
theorem uZ {n:Int}[i:au L iM b xs C](hK:G w0 L (K (.bool (iG n xs)))):G w0 L (CP Tryz.prog Wl [ptr b 0,i64 n] K):=by
 refine i.ro (fun M hK=>?_) hK
 rw [ga] at *
 intro v hv
 refine Eh ?_
 unfold vS
 refine gu ?_
 refine gr ?_
 refine G.all (decide (n<xs.length)) (fun _ K hK=>by refine gr ?_;exact hK) ?_
 exact hK v hv
theorem Bo {n:Int}[i:au L iM b xs C](h1:∀k:Nat,n=k→1≤k→k<xs.length→G w0 L (K (.tuple #[u64 (xs.getD k 0),i64 0])))(h0:iG n xs=false→G w0 L (K (.tuple #[u64 0,i64 2]))) :
  G w0 L (CP Tryz.prog Xi [ptr b 0,i64 n] K):=by
 refine Bd ?_
 unfold sc
 refine uZ ?_
 refine gr ?_
 refine G.cond (fun h=>?_) (fun h=>?_)
 ·exact h0 (by simpa using h)
 ·obtain⟨k,rfl,hk1,hk⟩:=Cx (by simpa using h)
  refine i.ro (fun M hK=>?_) (h1 k rfl hk1 hk)
  rw [ga] at *
  intro v hv
  have e:=cw hk
  refine gr ?_
  have:=hK v hv
  simpa [hk] using this
theorem AQ {n x:Int}[i:au L iM b xs C](h1:∀k:Nat,n=k→1≤k→k<xs.length→G w0 (C (ob iM b (xs.set k x))) (K (i64 0)))(h0:iG n xs=false→G w0 L (K (i64 2))) :
  G w0 L (CP Tryz.prog Xj [ptr b 0,i64 n,u64 x] K):=by
 refine AV ?_
 unfold qU
 refine uZ ?_
 refine gr ?_
 refine G.cond (fun h=>?_) (fun h=>?_)
 ·exact h0 (by simpa using h)
 ·obtain⟨k,rfl,hk1,hk⟩:=Cx (by simpa using h)
  refine i.use (fun M hK=>?_) (h1 k rfl hk1 hk)
  rw [ga] at *
  intro v hv
  have e:=cw hk
  refine gr ?_
  exact hK v hv
end
end Go.Proofs.YtoealglbimbbmaaGreatDoor.S
namespace Go.Proofs.YtoealglbimbbmaaGreatDoor.S
open Go Go.Proofs
set_option linter.unusedVariables false
set_option linter.unusedSimpArgs false
def dG (xs:List Int)(t:Int):Bool:=xs.all fun v=>!(!decide (v=0) && decide (v≤t))
def Re:List Int→Int→Int
 | [],m=>m
 | v::xs,m=>Re xs (if v≠0∧(m=0∨v<m) then v else m)
section
variable {w0:bo}{L M:List bd}{K:KV}{F:World→Prop}{C:bd→List bd}{b:Nat}{xs:List Int}
theorem Ej {v:Value}{t:Int}[r:Rd w0 L v dd 1 xs](hl:xs.length≤1000000)(hK:G w0 L (K (.bool (dG xs t)))):G w0 L (CP Tryz.prog Xk [v,u64 t] K):=by
 refine DF ?_
 unfold vX
 refine gu ?_
 refine gr ?_
 refine G.loopc1 (fun k:Nat=>i64 k) (fun k=>k≤xs.length∧dG xs t=dG (xs.drop k) t) (fun k=>xs.length-k) 0 rfl ⟨by omega,by simp⟩ ?_
 rintro k ⟨hk,hp⟩ J hJ
 refine gr ?_
 refine G.cond (fun h=>?_) (fun h=>?_)
 ·have hk2:k<xs.length:=by simpa using h
  have e:=cw hk2
  have hd:=List.drop_eq_getElem_cons hk2
  refine gr ?_
  refine G.cond (fun h=>?_) (fun h=>?_)
  ·have:dG xs t=false:=by rw [hp,hd];simp only [dG,List.all_cons,h,Bool.not_true,Bool.false_and]
   rwa [this] at hK
  ·rw [dx (by omega)]
   exact hJ (k+1) ⟨by omega,by rw [hp,hd];simp only [dG,List.all_cons,h,Bool.not_false,Bool.true_and]⟩ (by omega)
 ·have:xs.drop k=[]:=List.drop_eq_nil_of_le (by simpa using h)
  rw [hp,this] at hK
  exact hK
theorem Jl {n:Int}(hK:∀b,G w0 (ob iM b (List.replicate (held n 1 4).toNat 0)::L) (K (ptr b 0))):G w0 L (CP Tryz.prog Xl [i64 n] K):=by
 refine Kj ?_
 unfold Ca
 refine gr ?_
 have e3:(if (if (4:Int)<n then (4:Int) else n) > 1 then (if (4:Int)<n then (4:Int) else n) else 1)=((held n 1 4).toNat:Int):=by
  unfold held;split <;> split <;> split <;> (try split) <;> omega
 have hb:=eI (n:=n) (show (1:Int)≤4 by omega)
 rw [e3]
 refine G.make dd 0 rfl (by simp only [maxLen];omega) (by omega) fun v hv=>?_
 refine gr ?_
 refine G.box fun b=>?_
 have:=hK b
 rw [ga] at this
 exact this v hv
theorem rT {n:Int}[i:au L iM b xs C](hK:G w0 L (K (.bool (decide (0≤n) && decide (n<xs.length))))):G w0 L (CP Tryz.prog Wm [ptr b 0,i64 n] K):=by
 refine i.ro (fun M hK=>?_) hK
 rw [ga] at *
 intro v hv
 refine BA ?_
 unfold sB
 refine gu ?_
 refine gr ?_
 refine G.all (decide (n<xs.length)) (fun _ K hK=>by refine gr ?_;exact hK) ?_
 exact hK v hv
def xY (n:Int)(xs:List Int):Bool:=decide (0≤n) && decide (n<xs.length)
theorem EU {n:Int}{xs:List Int}(h:xY n xs=true):∃k:Nat,n=k∧k<xs.length:=by
 simp [xY] at h
 exact⟨n.toNat,by omega,by omega⟩
theorem yQ {n:Int}[i:au L iM b xs C](h1:∀k:Nat,n=k→k<xs.length→G w0 L (K (.tuple #[u64 (xs.getD k 0),i64 0])))(h0:xY n xs=false→G w0 L (K (.tuple #[u64 0,i64 2]))) :
  G w0 L (CP Tryz.prog Xm [ptr b 0,i64 n] K):=by
 refine zm ?_
 unfold qD
 refine rT ?_
 refine gr ?_
 refine G.cond (fun h=>?_) (fun h=>?_)
 ·exact h0 (by simpa [xY,Decidable.imp_iff_not_or] using h)
 ·obtain⟨k,rfl,hk⟩:=EU (by simpa [xY] using h)
  refine i.ro (fun M hK=>?_) (h1 k rfl hk)
  rw [ga] at *
  intro v hv
  have e:=cw hk
  refine gr ?_
  have:=hK v hv
  simpa [hk] using this
theorem xF {n x:Int}[i:au L iM b xs C](h1:∀k:Nat,n=k→k<xs.length→G w0 (C (ob iM b (xs.set k x))) (K (i64 0)))(h0:xY n xs=false→G w0 L (K (i64 2))) :
  G w0 L (CP Tryz.prog Xn [ptr b 0,i64 n,u64 x] K):=by
 refine xm ?_
 unfold pm
 refine rT ?_
 refine gr ?_
 refine G.cond (fun h=>?_) (fun h=>?_)
 ·exact h0 (by simpa [xY,Decidable.imp_iff_not_or] using h)
 ·obtain⟨k,rfl,hk⟩:=EU (by simpa [xY] using h)
  refine i.use (fun M hK=>?_) (h1 k rfl hk)
  rw [ga] at *
  intro v hv
  have e:=cw hk
  refine gr ?_
  exact hK v hv
end
end Go.Proofs.YtoealglbimbbmaaGreatDoor.S
namespace Go.Proofs.YtoealglbimbbmaaGreatDoor.S
open Go Go.Proofs
set_option linter.unusedVariables false
set_option linter.unusedSimpArgs false
section
variable {w0:bo}{L M:List bd}{K:KV}{F:World→Prop}{C:bd→List bd}{b:Nat}{xs:List gC}
theorem I1 (hK:∀b,G w0 (ob (jZ ct) b []::L) (K (ptr b 0))):G w0 L (CP Tryz.prog Xo [] K):=by
 refine Jo ?_
 unfold Ck
 refine gr ?_
 refine G.nilsl ct ?_
 refine G.box fun b=>?_
 have:=hK b
 rw [ft] at this
 exact this _ bm
theorem A8 [i:au L (jZ ct) b xs C](hK:G w0 L (K (i64 xs.length))):G w0 L (CP Tryz.prog Xp [ptr b 0] K):=by
 refine i.ro (fun M hK=>?_) hK
 rw [ft] at *
 intro v hv
 refine AH ?_
 unfold rk
 refine gr ?_
 exact hK v hv
theorem re {v:Value}{bs:List Int}{t:Int}[i:au L (jZ ct) b xs C][r:∀A,Rd w0 (C A) v bx 1 bs](hl:xs.length+bs.length≤1000000)
  (hK:G w0 (C (ob (jZ ct) b (xs++bs.map fun n=>⟨n,t⟩))) (K (.tuple #[]))):G w0 L (CP Tryz.prog Wn [ptr b 0,u64 t,v] K):=by
 refine i.useM (fun M hM hK=>?_) hK
 have r':=Rd.frame hM r
 refine Ae ?_
 unfold q9
 refine gr ?_
 refine G.loop1 (fun k:Nat=>i64 k) (fun k=>ob (jZ ct) b (xs++(bs.take k).map fun n=>⟨n,t⟩)::M) (fun k=>k≤bs.length) (fun k=>bs.length-k) 0 rfl (by simp) (by simp) ?_
 intro k hk J hJ
 refine gr ?_
 refine G.cond (fun h=>?_) (fun h=>?_)
 ·have hk2:k<bs.length:=by simpa using h
  have e:=cw hk2
  rw [ft]
  intro u hu
  refine gr ?_
  refine G.append1 rfl rfl (by decide) (by simp;omega) (by simp [maxLen];omega) fun u2 hu2=>?_
  refine gr ?_
  rw [dx (by omega)]
  have:=hJ (k+1) hk2 (by omega)
  rw [ft] at this
  have hx:xs++(bs.take (k+1)).map (fun n=>(⟨n,t⟩:gC))=xs++(bs.take k).map (fun n=>(⟨n,t⟩:gC))++[⟨bs[k],t⟩]:=by
   rw [List.take_add_one,List.getElem?_eq_getElem hk2,List.map_append,←List.append_assoc];rfl
  rw [hx] at this
  exact this u2 hu2
 ·have:bs.take k=bs:=List.take_of_length_le (by simpa using h)
  rw [this]
  exact hK
theorem Cg {α:Type}(p:α→Bool)(xs:List α)(k:Nat)(h:k<xs.length):(xs.take (k+1)).filter p=if p xs[k]=true then (xs.take k).filter p++[xs[k]] else (xs.take k).filter p:=by
 rw [List.take_add_one,List.getElem?_eq_getElem h,List.filter_append]
 cases hp:p xs[k] <;> simp [hp]
theorem wJ {α:Type}(p:α→Bool)(xs:List α)(k:Nat):((xs.take k).filter p).length≤xs.length:=by
 have h1:=List.length_filter_le p (xs.take k)
 have h2:(xs.take k).length≤xs.length:=by rw [List.length_take];omega
 omega
theorem zl {sv:Value}{ss:List Int}[i:au L (jZ ct) b xs C][r:∀A,Rd w0 (C A) sv dd 1 ss](hl:xs.length≤100000)(hl2:ss.length≤100000)
  (hK:∀u,bf u [u]→G w0 (sl ct u (xs.filter fun x=>dG ss x.stamp)::C (ob (jZ ct) b (xs.filter fun x=>!dG ss x.stamp))) (K u)):G w0 L (CP Tryz.prog Wo [ptr b 0,sv] K):=by
 refine i.useNM (fun M hM hK=>?_) hK
 have r':=Rd.frame hM r
 refine zj ?_
 unfold qB
 rw [ft]
 intro v hv
 refine gr ?_
 refine G.nilsl ct ?_
 refine G.nilsl ct ?_
 refine G.loop3 (σ:=Value×Value×Nat) (fun s=>s.1) (fun s=>s.2.1) (fun s=>i64 s.2.2) (fun s=>sl ct s.1 ((xs.take s.2.2).filter fun x=>dG ss x.stamp)::sl ct s.2.1 ((xs.take s.2.2).filter fun x=>!dG ss x.stamp)::own b [v]::sl ct v xs::M)
  (fun s=>s.2.2≤xs.length∧bf s.1 [s.1]∧bf s.2.1 [s.2.1]) (fun s=>xs.length-s.2.2) (_,_,0) rfl rfl rfl (by simp) ⟨by simp,bm,bm⟩ ?_
 rintro⟨u,u2,k⟩ ⟨hk,hu,hu2⟩ J hJ
 simp only at hk hu hu2 hJ ⊢
 refine gr ?_
 refine G.cond (fun h=>?_) (fun h=>?_)
 ·have hk2:k<xs.length:=by simpa using h
  have e:=cw hk2
  have l1:=wJ (fun x=>dG ss x.stamp) xs k
  have l2:=wJ (fun x=>!dG ss x.stamp) xs k
  have t1:=Cg (fun x=>dG ss x.stamp) xs k hk2
  have t2:=Cg (fun x=>!dG ss x.stamp) xs k hk2
  refine gr ?_
  refine G.new fun p=>?_
  refine gr ?_
  refine Ej (xs:=ss) (by omega) ?_
  refine gr ?_
  refine G.join2 (σ:=Value×Value) (fun s=>s.1) (fun s=>s.2) (fun s=>sl ct s.1 ((xs.take (k+1)).filter fun x=>dG ss x.stamp)::sl ct s.2 ((xs.take (k+1)).filter fun x=>!dG ss x.stamp)::own b [v]::sl ct v xs::M) (fun s=>bf s.1 [s.1]∧bf s.2 [s.2]) ?_ (fun J2 hJ2=>?_)
  ·rintro⟨y,y2⟩ ⟨hy,hy2⟩
   refine gr ?_
   rw [dx (by omega)]
   exact hJ (y,y2,k+1) ⟨hk2,hy,hy2⟩ (by simp;omega)
  ·refine G.cond (fun h=>?_) (fun h=>?_)
   ·simp only [h,if_true,Bool.not_true,Bool.false_eq_true,if_false] at t1 t2
    refine gr ?_
    refine G.append1 rfl rfl (by decide) (by omega) (by simp only [maxLen];omega) fun y hy=>?_
    have:=hJ2 (y,u2) ⟨hy,hu2⟩
    rw [t1,t2] at this
    exact this.sub
   ·simp only [h,if_true,Bool.not_false,Bool.false_eq_true,if_false] at t1 t2
    refine gr ?_
    refine G.append1 rfl rfl (by decide) (by omega) (by simp only [maxLen];omega) fun y hy=>?_
    have:=hJ2 (u,y) ⟨hu,hy⟩
    rw [t1,t2] at this
    exact this.sub
 ·have:xs.take k=xs:=List.take_of_length_le (by simpa using h)
  rw [this]
  refine gr ?_
  have:=hK u hu
  rw [fC,ft] at this
  exact(this u2 hu2).sub
end
end Go.Proofs.YtoealglbimbbmaaGreatDoor.S
