import Derived.Test.YtoealglbimbbmaaGreatDoorBook
namespace Go.Proofs.YtoealglbimbbmaaGreatDoor.S
open Go Go.Proofs
set_option linter.unusedVariables false
set_option linter.unusedSimpArgs false
def js (n:Int)(xs:List Int):Bool:=decide (1≤n) && decide (n<xs.length)
theorem Db {n:Int}{xs:List Int}(h:js n xs=true):∃k:Nat,n=k∧1≤k∧k<xs.length:=by
 simp [js] at h
 exact⟨n.toNat,by omega,by omega,by omega⟩
section
variable {w0:bh}{L M:List ay}{K:KV}{F:World→Prop}{C:ay→List ay}{b:Nat}{xs:List Int}
theorem Mg {n:Int}(hK:∀b,G w0 (ob iW b (List.replicate (held n 32 256).toNat 0)::L) (K (ptr b 0))):G w0 L (CP Tryz.prog Xk [i64 n] K):=by
 refine LA ?_
 unfold Ek
 refine gr ?_
 have e3:(if (if (256:Int)<n then (256:Int) else n) > 32 then (if (256:Int)<n then (256:Int) else n) else 32)=((held n 32 256).toNat:Int):=by
  unfold held;split <;> split <;> split <;> (try split) <;> omega
 have hb:=ft (n:=n) (show (32:Int)≤256 by omega)
 rw [e3]
 refine G.make cx 0 rfl (by simp only [maxLen];omega) (by omega) fun v hv=>?_
 refine gr ?_
 refine G.box fun b=>?_
 have:=hK b
 rw [gy] at this
 exact this v hv
theorem DI [i:aq L iW b xs C](hl:xs.length≤1000000)(hK:∀u,ar u [u]→G w0 (sl cx u xs::L) (K u)):G w0 L (CP Tryz.prog Xl [ptr b 0] K):=by
 refine i.roN (fun M hK=>?_) hK
 rw [gy]
 intro v hv
 refine DQ ?_
 unfold uG
 refine gr ?_
 refine po hl fun u hu=>?_
 have:=hK u hu
 rw [fA,gy] at this
 exact G.sub (this v hv)
theorem vM {n:Int}[i:aq L iW b xs C](hK:G w0 L (K (.bool (js n xs)))):G w0 L (CP Tryz.prog V8 [ptr b 0,i64 n] K):=by
 refine i.ro (fun M hK=>?_) hK
 rw [gy] at *
 intro v hv
 refine Fz ?_
 unfold xw
 refine gu ?_
 refine gr ?_
 refine G.all (decide (n<xs.length)) (fun _ K hK=>by refine gr ?_;exact hK) ?_
 exact hK v hv
theorem CE {n:Int}[i:aq L iW b xs C](h1:∀k:Nat,n=k→1≤k→k<xs.length→G w0 L (K (.tuple #[u64 (xs.getD k 0),i64 0])))(h0:js n xs=false→G w0 L (K (.tuple #[u64 0,i64 2]))) :
  G w0 L (CP Tryz.prog Xm [ptr b 0,i64 n] K):=by
 refine CM ?_
 unfold sy
 refine vM ?_
 refine gr ?_
 refine G.cond (fun h=>?_) (fun h=>?_)
 ·exact h0 (by simpa using h)
 ·obtain⟨k,rfl,hk1,hk⟩:=Db (by simpa using h)
  refine i.ro (fun M hK=>?_) (h1 k rfl hk1 hk)
  rw [gy] at *
  intro v hv
  have e:=ct hk
  refine gr ?_
  have:=hK v hv
  simpa [hk] using this
theorem AF {n x:Int}[i:aq L iW b xs C](h1:∀k:Nat,n=k→1≤k→k<xs.length→G w0 (C (ob iW b (xs.set k x))) (K (i64 0)))(h0:js n xs=false→G w0 L (K (i64 2))) :
  G w0 L (CP Tryz.prog Xn [ptr b 0,i64 n,u64 x] K):=by
 refine BJ ?_
 unfold rm
 refine vM ?_
 refine gr ?_
 refine G.cond (fun h=>?_) (fun h=>?_)
 ·exact h0 (by simpa using h)
 ·obtain⟨k,rfl,hk1,hk⟩:=Db (by simpa using h)
  refine i.use (fun M hK=>?_) (h1 k rfl hk1 hk)
  rw [gy] at *
  intro v hv
  have e:=ct hk
  refine gr ?_
  exact hK v hv
end
end Go.Proofs.YtoealglbimbbmaaGreatDoor.S
namespace Go.Proofs.YtoealglbimbbmaaGreatDoor.S
open Go Go.Proofs
set_option linter.unusedVariables false
set_option linter.unusedSimpArgs false
def fe (xs:List Int)(t:Int):Bool:=xs.all fun v=>!(!decide (v=0) && decide (v≤t))
def RI:List Int→Int→Int
 | [],m=>m
 | v::xs,m=>RI xs (if v≠0∧(m=0∨v<m) then v else m)
section
variable {w0:bh}{L M:List ay}{K:KV}{F:World→Prop}{C:ay→List ay}{b:Nat}{xs:List Int}
theorem F0 {v:Value}{t:Int}[r:Rd w0 L v cx 1 xs](hl:xs.length≤1000000)(hK:G w0 L (K (.bool (fe xs t)))):G w0 L (CP Tryz.prog Xo [v,u64 t] K):=by
 refine Ej ?_
 unfold xE
 refine gu ?_
 refine gr ?_
 refine G.loopc1 (fun k:Nat=>i64 k) (fun k=>k≤xs.length∧fe xs t=fe (xs.drop k) t) (fun k=>xs.length-k) 0 rfl ⟨by omega,by simp⟩ ?_
 rintro k ⟨hk,hp⟩ J hJ
 refine gr ?_
 refine G.cond (fun h=>?_) (fun h=>?_)
 ·have hk2:k<xs.length:=by simpa using h
  have e:=ct hk2
  have hd:=List.drop_eq_getElem_cons hk2
  refine gr ?_
  refine G.cond (fun h=>?_) (fun h=>?_)
  ·have:fe xs t=false:=by rw [hp,hd];simp only [fe,List.all_cons,h,Bool.not_true,Bool.false_and]
   rwa [this] at hK
  ·rw [di (by omega)]
   exact hJ (k+1) ⟨by omega,by rw [hp,hd];simp only [fe,List.all_cons,h,Bool.not_false,Bool.true_and]⟩ (by omega)
 ·have:xs.drop k=[]:=List.drop_eq_nil_of_le (by simpa using h)
  rw [hp,this] at hK
  exact hK
theorem JO {n:Int}(hK:∀b,G w0 (ob iW b (List.replicate (held n 1 4).toNat 0)::L) (K (ptr b 0))):G w0 L (CP Tryz.prog Xp [i64 n] K):=by
 refine Kf ?_
 unfold Dz
 refine gr ?_
 have e3:(if (if (4:Int)<n then (4:Int) else n) > 1 then (if (4:Int)<n then (4:Int) else n) else 1)=((held n 1 4).toNat:Int):=by
  unfold held;split <;> split <;> split <;> (try split) <;> omega
 have hb:=ft (n:=n) (show (1:Int)≤4 by omega)
 rw [e3]
 refine G.make cx 0 rfl (by simp only [maxLen];omega) (by omega) fun v hv=>?_
 refine gr ?_
 refine G.box fun b=>?_
 have:=hK b
 rw [gy] at this
 exact this v hv
theorem sA {n:Int}[i:aq L iW b xs C](hK:G w0 L (K (.bool (decide (0≤n) && decide (n<xs.length))))):G w0 L (CP Tryz.prog V9 [ptr b 0,i64 n] K):=by
 refine i.ro (fun M hK=>?_) hK
 rw [gy] at *
 intro v hv
 refine CL ?_
 unfold s9
 refine gu ?_
 refine gr ?_
 refine G.all (decide (n<xs.length)) (fun _ K hK=>by refine gr ?_;exact hK) ?_
 exact hK v hv
def yH (n:Int)(xs:List Int):Bool:=decide (0≤n) && decide (n<xs.length)
theorem Er {n:Int}{xs:List Int}(h:yH n xs=true):∃k:Nat,n=k∧k<xs.length:=by
 simp [yH] at h
 exact⟨n.toNat,by omega,by omega⟩
theorem Af {n:Int}[i:aq L iW b xs C](h1:∀k:Nat,n=k→k<xs.length→G w0 L (K (.tuple #[u64 (xs.getD k 0),i64 0])))(h0:yH n xs=false→G w0 L (K (.tuple #[u64 0,i64 2]))) :
  G w0 L (CP Tryz.prog Xq [ptr b 0,i64 n] K):=by
 refine zO ?_
 unfold qk
 refine sA ?_
 refine gr ?_
 refine G.cond (fun h=>?_) (fun h=>?_)
 ·exact h0 (by simpa [yH,Decidable.imp_iff_not_or] using h)
 ·obtain⟨k,rfl,hk⟩:=Er (by simpa [yH] using h)
  refine i.ro (fun M hK=>?_) (h1 k rfl hk)
  rw [gy] at *
  intro v hv
  have e:=ct hk
  refine gr ?_
  have:=hK v hv
  simpa [hk] using this
theorem yn {n x:Int}[i:aq L iW b xs C](h1:∀k:Nat,n=k→k<xs.length→G w0 (C (ob iW b (xs.set k x))) (K (i64 0)))(h0:yH n xs=false→G w0 L (K (i64 2))) :
  G w0 L (CP Tryz.prog Xr [ptr b 0,i64 n,u64 x] K):=by
 refine yl ?_
 unfold pG
 refine sA ?_
 refine gr ?_
 refine G.cond (fun h=>?_) (fun h=>?_)
 ·exact h0 (by simpa [yH,Decidable.imp_iff_not_or] using h)
 ·obtain⟨k,rfl,hk⟩:=Er (by simpa [yH] using h)
  refine i.use (fun M hK=>?_) (h1 k rfl hk)
  rw [gy] at *
  intro v hv
  have e:=ct hk
  refine gr ?_
  exact hK v hv
end
end Go.Proofs.YtoealglbimbbmaaGreatDoor.S
namespace Go.Proofs.YtoealglbimbbmaaGreatDoor.S
open Go Go.Proofs
set_option linter.unusedVariables false
set_option linter.unusedSimpArgs false
section
variable {w0:bh}{L M:List ay}{K:KV}{F:World→Prop}{C:ay→List ay}{b:Nat}{xs:List pc}
theorem JJ (hK:∀b,G w0 (ob (kj ck) b []::L) (K (ptr b 0))):G w0 L (CP Tryz.prog Xs [] K):=by
 refine K5 ?_
 unfold C4
 refine gr ?_
 refine G.nilsl ck ?_
 refine G.box fun b=>?_
 have:=hK b
 rw [eK] at this
 exact this _ be
theorem AU [i:aq L (kj ck) b xs C](hK:G w0 L (K (i64 xs.length))):G w0 L (CP Tryz.prog Xt [ptr b 0] K):=by
 refine i.ro (fun M hK=>?_) hK
 rw [eK] at *
 intro v hv
 refine AN ?_
 unfold rn
 refine gr ?_
 exact hK v hv
theorem rx {v:Value}{bs:List Int}{t:Int}[i:aq L (kj ck) b xs C][r:∀A,Rd w0 (C A) v bg 1 bs](hl:xs.length+bs.length≤1000000)
  (hK:G w0 (C (ob (kj ck) b (xs++bs.map fun n=>⟨n,t⟩))) (K (.tuple #[]))):G w0 L (CP Tryz.prog Wa [ptr b 0,u64 t,v] K):=by
 refine i.useM (fun M hM hK=>?_) hK
 have r':=Rd.frame hM r
 refine Aq ?_
 unfold ry
 refine gr ?_
 refine G.loop1 (fun k:Nat=>i64 k) (fun k=>ob (kj ck) b (xs++(bs.take k).map fun n=>⟨n,t⟩)::M) (fun k=>k≤bs.length) (fun k=>bs.length-k) 0 rfl (by simp) (by simp) ?_
 intro k hk J hJ
 refine gr ?_
 refine G.cond (fun h=>?_) (fun h=>?_)
 ·have hk2:k<bs.length:=by simpa using h
  have e:=ct hk2
  rw [eK]
  intro u hu
  refine gr ?_
  refine G.append1 rfl rfl (by decide) (by simp;omega) (by simp [maxLen];omega) fun u2 hu2=>?_
  refine gr ?_
  rw [di (by omega)]
  have:=hJ (k+1) hk2 (by omega)
  rw [eK] at this
  have hx:xs++(bs.take (k+1)).map (fun n=>(⟨n,t⟩:pc))=xs++(bs.take k).map (fun n=>(⟨n,t⟩:pc))++[⟨bs[k],t⟩]:=by
   rw [List.take_add_one,List.getElem?_eq_getElem hk2,List.map_append,←List.append_assoc];rfl
  rw [hx] at this
  exact this u2 hu2
 ·have:bs.take k=bs:=List.take_of_length_le (by simpa using h)
  rw [this]
  exact hK
theorem De {α:Type}(p:α→Bool)(xs:List α)(k:Nat)(h:k<xs.length):(xs.take (k+1)).filter p=if p xs[k]=true then (xs.take k).filter p++[xs[k]] else (xs.take k).filter p:=by
 rw [List.take_add_one,List.getElem?_eq_getElem h,List.filter_append]
 cases hp:p xs[k] <;> simp [hp]
theorem wG {α:Type}(p:α→Bool)(xs:List α)(k:Nat):((xs.take k).filter p).length≤xs.length:=by
 have h1:=List.length_filter_le p (xs.take k)
 have h2:(xs.take k).length≤xs.length:=by rw [List.length_take];omega
 omega
theorem Aj {sv:Value}{ss:List Int}[i:aq L (kj ck) b xs C][r:∀A,Rd w0 (C A) sv cx 1 ss](hl:xs.length≤100000)(hl2:ss.length≤100000)
  (hK:∀u,ar u [u]→G w0 (sl ck u (xs.filter fun x=>fe ss x.stamp)::C (ob (kj ck) b (xs.filter fun x=>!fe ss x.stamp))) (K u)):G w0 L (CP Tryz.prog VY [ptr b 0,sv] K):=by
 refine i.useNM (fun M hM hK=>?_) hK
 have r':=Rd.frame hM r
 refine zP ?_
 unfold qA
 rw [eK]
 intro v hv
 refine gr ?_
 refine G.nilsl ck ?_
 refine G.nilsl ck ?_
 refine G.loop3 (σ:=Value×Value×Nat) (fun s=>s.1) (fun s=>s.2.1) (fun s=>i64 s.2.2) (fun s=>sl ck s.1 ((xs.take s.2.2).filter fun x=>fe ss x.stamp)::sl ck s.2.1 ((xs.take s.2.2).filter fun x=>!fe ss x.stamp)::own b [v]::sl ck v xs::M)
  (fun s=>s.2.2≤xs.length∧ar s.1 [s.1]∧ar s.2.1 [s.2.1]) (fun s=>xs.length-s.2.2) (_,_,0) rfl rfl rfl (by simp) ⟨by simp,be,be⟩ ?_
 rintro⟨u,u2,k⟩ ⟨hk,hu,hu2⟩ J hJ
 simp only at hk hu hu2 hJ ⊢
 refine gr ?_
 refine G.cond (fun h=>?_) (fun h=>?_)
 ·have hk2:k<xs.length:=by simpa using h
  have e:=ct hk2
  have l1:=wG (fun x=>fe ss x.stamp) xs k
  have l2:=wG (fun x=>!fe ss x.stamp) xs k
  have t1:=De (fun x=>fe ss x.stamp) xs k hk2
  have t2:=De (fun x=>!fe ss x.stamp) xs k hk2
  refine gr ?_
  refine G.new fun p=>?_
  refine gr ?_
  refine F0 (xs:=ss) (by omega) ?_
  refine gr ?_
  refine G.join2 (σ:=Value×Value) (fun s=>s.1) (fun s=>s.2) (fun s=>sl ck s.1 ((xs.take (k+1)).filter fun x=>fe ss x.stamp)::sl ck s.2 ((xs.take (k+1)).filter fun x=>!fe ss x.stamp)::own b [v]::sl ck v xs::M) (fun s=>ar s.1 [s.1]∧ar s.2 [s.2]) ?_ (fun J2 hJ2=>?_)
  ·rintro⟨y,y2⟩ ⟨hy,hy2⟩
   refine gr ?_
   rw [di (by omega)]
   exact hJ (y,y2,k+1) ⟨hk2,hy,hy2⟩ (by simp;omega)
  ·refine G.cond (fun h=>?_) (fun h=>?_)
   ·simp only [h,if_true,Bool.not_true,Bool.false_eq_true,if_false] at t1 t2
    refine gr ?_
    refine G.append1 rfl rfl (by decide) (by omega) (by simp only [maxLen];omega) fun y hy=>?_
    have:=hJ2 (y,u2) ⟨hy,hu2⟩
    rw [t1,t2] at this
    exact this.sub
   ·simp only [h,if_true,Bool.not_false,Bool.false_eq_true,if_false] at t1 t2
    refine gr ?_
    refine G.append1 rfl rfl (by decide) (by omega) (by simp only [maxLen];omega) fun y hy=>?_
    have:=hJ2 (u,y) ⟨hu,hy⟩
    rw [t1,t2] at this
    exact this.sub
 ·have:xs.take k=xs:=List.take_of_length_le (by simpa using h)
  rw [this]
  refine gr ?_
  have:=hK u hu
  rw [fA,eK] at this
  exact(this u2 hu2).sub
end
end Go.Proofs.YtoealglbimbbmaaGreatDoor.S
