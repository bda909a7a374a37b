import Derived.Test.YtoealglbimbbmaaGreatDoorBook
namespace Go.Proofs.YtoealglbimbbmaaGreatDoor.S
open Go Go.Proofs
set_option linter.unusedVariables false
set_option linter.unusedSimpArgs false
def jc (n:Int)(xs:List Int):Bool:=decide (1≤n) && decide (n<xs.length)
theorem Eh {n:Int}{xs:List Int}(h:jc n xs=true):∃k:Nat,n=k∧1≤k∧k<xs.length:=by
 simp [jc] at h
 exact⟨n.toNat,by omega,by omega,by omega⟩
section
variable {w0:bg}{L M:List ax}{K:KV}{F:World→Prop}{C:ax→List ax}{b:Nat}{xs:List Int}
theorem NH {n:Int}(hK:∀b,G w0 (ob iw b (List.replicate (held n 32 256).toNat 0)::L) (K (ptr b 0))):G w0 L (CP Tryz.prog ZS [i64 n] K):=by
 refine Oa ?_
 unfold Gi
 refine gr ?_
 have e3:(if (if (256:Int)<n then (256:Int) else n) > 32 then (if (256:Int)<n then (256:Int) else n) else 32)=((held n 32 256).toNat:Int):=by
  unfold held;split <;> split <;> split <;> (try split) <;> omega
 have hb:=eQ (n:=n) (show (32:Int)≤256 by omega)
 rw [e3]
 refine G.make de 0 rfl (by simp only [maxLen];omega) (by omega) fun v hv=>?_
 refine gr ?_
 refine G.box fun b=>?_
 have:=hK b
 rw [fR] at this
 exact this v hv
theorem EU [i:al L iw b xs C](hl:xs.length≤1000000)(hK:∀u,av u [u]→G w0 (sl de u xs::L) (K u)):G w0 L (CP Tryz.prog ZT [ptr b 0] K):=by
 refine i.roN (fun M hK=>?_) hK
 rw [fR]
 intro v hv
 refine EN ?_
 unfold uz
 refine gr ?_
 refine oM hl fun u hu=>?_
 have:=hK u hu
 rw [eN,fR] at this
 exact G.sub (this v hv)
theorem xB {n:Int}[i:al L iw b xs C](hK:G w0 L (K (.bool (jc n xs)))):G w0 L (CP Tryz.prog Yt [ptr b 0,i64 n] K):=by
 refine i.ro (fun M hK=>?_) hK
 rw [fR] at *
 intro v hv
 refine F1 ?_
 unfold xH
 refine gu ?_
 refine gr ?_
 refine G.all (decide (n<xs.length)) (fun _ K hK=>by refine gr ?_;exact hK) ?_
 exact hK v hv
theorem CT {n:Int}[i:al L iw b xs C](h1:∀k:Nat,n=k→1≤k→k<xs.length→G w0 L (K (.tuple #[u64 (xs.getD k 0),i64 0])))(h0:jc n xs=false→G w0 L (K (.tuple #[u64 0,i64 2]))) :
  G w0 L (CP Tryz.prog ZU [ptr b 0,i64 n] K):=by
 refine CQ ?_
 unfold tm
 refine xB ?_
 refine gr ?_
 refine G.cond (fun h=>?_) (fun h=>?_)
 ·exact h0 (by simpa using h)
 ·obtain⟨k,rfl,hk1,hk⟩:=Eh (by simpa using h)
  refine i.ro (fun M hK=>?_) (h1 k rfl hk1 hk)
  rw [fR] at *
  intro v hv
  have e:=cW hk
  refine gr ?_
  have:=hK v hv
  simpa [hk] using this
theorem A6 {n x:Int}[i:al L iw b xs C](h1:∀k:Nat,n=k→1≤k→k<xs.length→G w0 (C (ob iw b (xs.set k x))) (K (i64 0)))(h0:jc n xs=false→G w0 L (K (i64 2))) :
  G w0 L (CP Tryz.prog ZV [ptr b 0,i64 n,u64 x] K):=by
 refine CM ?_
 unfold rE
 refine xB ?_
 refine gr ?_
 refine G.cond (fun h=>?_) (fun h=>?_)
 ·exact h0 (by simpa using h)
 ·obtain⟨k,rfl,hk1,hk⟩:=Eh (by simpa using h)
  refine i.use (fun M hK=>?_) (h1 k rfl hk1 hk)
  rw [fR] at *
  intro v hv
  have e:=cW hk
  refine gr ?_
  exact hK v hv
end
end Go.Proofs.YtoealglbimbbmaaGreatDoor.S
namespace Go.Proofs.YtoealglbimbbmaaGreatDoor.S
open Go Go.Proofs
set_option linter.unusedVariables false
set_option linter.unusedSimpArgs false
def eB (xs:List Int)(t:Int):Bool:=xs.all fun v=>!(!decide (v=0) && decide (v≤t))
def S4:List Int→Int→Int
 | [],m=>m
 | v::xs,m=>S4 xs (if v≠0∧(m=0∨v<m) then v else m)
section
variable {w0:bg}{L M:List ax}{K:KV}{F:World→Prop}{C:ax→List ax}{b:Nat}{xs:List Int}
theorem FU {v:Value}{t:Int}[r:Rd w0 L v de 1 xs](hl:xs.length≤1000000)(hK:G w0 L (K (.bool (eB xs t)))):G w0 L (CP Tryz.prog ZW [v,u64 t] K):=by
 refine Hr ?_
 unfold xG
 refine gu ?_
 refine gr ?_
 refine G.loopc1 (fun k:Nat=>i64 k) (fun k=>k≤xs.length∧eB xs t=eB (xs.drop k) t) (fun k=>xs.length-k) 0 rfl ⟨by omega,by simp⟩ ?_
 rintro k ⟨hk,hp⟩ J hJ
 refine gr ?_
 refine G.cond (fun h=>?_) (fun h=>?_)
 ·have hk2:k<xs.length:=by simpa using h
  have e:=cW hk2
  have hd:=List.drop_eq_getElem_cons hk2
  refine gr ?_
  refine G.cond (fun h=>?_) (fun h=>?_)
  ·have:eB xs t=false:=by rw [hp,hd];simp only [eB,List.all_cons,h,Bool.not_true,Bool.false_and]
   rwa [this] at hK
  ·rw [dt (by omega)]
   exact hJ (k+1) ⟨by omega,by rw [hp,hd];simp only [eB,List.all_cons,h,Bool.not_false,Bool.true_and]⟩ (by omega)
 ·have:xs.drop k=[]:=List.drop_eq_nil_of_le (by simpa using h)
  rw [hp,this] at hK
  exact hK
theorem MZ {n:Int}(hK:∀b,G w0 (ob iw b (List.replicate (held n 1 4).toNat 0)::L) (K (ptr b 0))):G w0 L (CP Tryz.prog ZX [i64 n] K):=by
 refine Mz ?_
 unfold D1
 refine gr ?_
 have e3:(if (if (4:Int)<n then (4:Int) else n) > 1 then (if (4:Int)<n then (4:Int) else n) else 1)=((held n 1 4).toNat:Int):=by
  unfold held;split <;> split <;> split <;> (try split) <;> omega
 have hb:=eQ (n:=n) (show (1:Int)≤4 by omega)
 rw [e3]
 refine G.make de 0 rfl (by simp only [maxLen];omega) (by omega) fun v hv=>?_
 refine gr ?_
 refine G.box fun b=>?_
 have:=hK b
 rw [fR] at this
 exact this v hv
theorem sB {n:Int}[i:al L iw b xs C](hK:G w0 L (K (.bool (decide (0≤n) && decide (n<xs.length))))):G w0 L (CP Tryz.prog Yu [ptr b 0,i64 n] K):=by
 refine i.ro (fun M hK=>?_) hK
 rw [fR] at *
 intro v hv
 refine Ds ?_
 unfold sC
 refine gu ?_
 refine gr ?_
 refine G.all (decide (n<xs.length)) (fun _ K hK=>by refine gr ?_;exact hK) ?_
 exact hK v hv
def zH (n:Int)(xs:List Int):Bool:=decide (0≤n) && decide (n<xs.length)
theorem Ge {n:Int}{xs:List Int}(h:zH n xs=true):∃k:Nat,n=k∧k<xs.length:=by
 simp [zH] at h
 exact⟨n.toNat,by omega,by omega⟩
theorem zS {n:Int}[i:al L iw b xs C](h1:∀k:Nat,n=k→k<xs.length→G w0 L (K (.tuple #[u64 (xs.getD k 0),i64 0])))(h0:zH n xs=false→G w0 L (K (.tuple #[u64 0,i64 2]))) :
  G w0 L (CP Tryz.prog ZY [ptr b 0,i64 n] K):=by
 refine zU ?_
 unfold qF
 refine sB ?_
 refine gr ?_
 refine G.cond (fun h=>?_) (fun h=>?_)
 ·exact h0 (by simpa [zH,Decidable.imp_iff_not_or] using h)
 ·obtain⟨k,rfl,hk⟩:=Ge (by simpa [zH] using h)
  refine i.ro (fun M hK=>?_) (h1 k rfl hk)
  rw [fR] at *
  intro v hv
  have e:=cW hk
  refine gr ?_
  have:=hK v hv
  simpa [hk] using this
theorem yQ {n x:Int}[i:al L iw b xs C](h1:∀k:Nat,n=k→k<xs.length→G w0 (C (ob iw b (xs.set k x))) (K (i64 0)))(h0:zH n xs=false→G w0 L (K (i64 2))) :
  G w0 L (CP Tryz.prog ZZ [ptr b 0,i64 n,u64 x] K):=by
 refine yC ?_
 unfold o7
 refine sB ?_
 refine gr ?_
 refine G.cond (fun h=>?_) (fun h=>?_)
 ·exact h0 (by simpa [zH,Decidable.imp_iff_not_or] using h)
 ·obtain⟨k,rfl,hk⟩:=Ge (by simpa [zH] using h)
  refine i.use (fun M hK=>?_) (h1 k rfl hk)
  rw [fR] at *
  intro v hv
  have e:=cW hk
  refine gr ?_
  exact hK v hv
end
end Go.Proofs.YtoealglbimbbmaaGreatDoor.S
namespace Go.Proofs.YtoealglbimbbmaaGreatDoor.S
open Go Go.Proofs
set_option linter.unusedVariables false
set_option linter.unusedSimpArgs false
section
variable {w0:bg}{L M:List ax}{K:KV}{F:World→Prop}{C:ax→List ax}{b:Nat}{xs:List nA}
theorem MD (hK:∀b,G w0 (ob (jP cy) b []::L) (K (ptr b 0))):G w0 L (CP Tryz.prog Z0 [] K):=by
 refine Mw ?_
 unfold Ej
 refine gr ?_
 refine G.nilsl cy ?_
 refine G.box fun b=>?_
 have:=hK b
 rw [fe] at this
 exact this _ bf
theorem B5 [i:al L (jP cy) b xs C](hK:G w0 L (K (i64 xs.length))):G w0 L (CP Tryz.prog Z1 [ptr b 0] K):=by
 refine i.ro (fun M hK=>?_) hK
 rw [fe] at *
 intro v hv
 refine A2 ?_
 unfold rC
 refine gr ?_
 exact hK v hv
theorem rk {v:Value}{bs:List Int}{t:Int}[i:al L (jP cy) b xs C][r:∀A,Rd w0 (C A) v cd 1 bs](hl:xs.length+bs.length≤1000000)
  (hK:G w0 (C (ob (jP cy) b (xs++bs.map fun n=>⟨n,t⟩))) (K (.tuple #[]))):G w0 L (CP Tryz.prog Yv [ptr b 0,u64 t,v] K):=by
 refine i.useM (fun M hM hK=>?_) hK
 have r':=Rd.frame hM r
 refine Cu ?_
 unfold rJ
 refine gr ?_
 refine G.loop1 (fun k:Nat=>i64 k) (fun k=>ob (jP cy) b (xs++(bs.take k).map fun n=>⟨n,t⟩)::M) (fun k=>k≤bs.length) (fun k=>bs.length-k) 0 rfl (by simp) (by simp) ?_
 intro k hk J hJ
 refine gr ?_
 refine G.cond (fun h=>?_) (fun h=>?_)
 ·have hk2:k<bs.length:=by simpa using h
  have e:=cW hk2
  rw [fe]
  intro u hu
  refine gr ?_
  refine G.append1 rfl rfl (by decide) (by simp;omega) (by simp [maxLen];omega) fun u2 hu2=>?_
  refine gr ?_
  rw [dt (by omega)]
  have:=hJ (k+1) hk2 (by omega)
  rw [fe] at this
  have hx:xs++(bs.take (k+1)).map (fun n=>(⟨n,t⟩:nA))=xs++(bs.take k).map (fun n=>(⟨n,t⟩:nA))++[⟨bs[k],t⟩]:=by
   rw [List.take_add_one,List.getElem?_eq_getElem hk2,List.map_append,←List.append_assoc];rfl
  rw [hx] at this
  exact this u2 hu2
 ·have:bs.take k=bs:=List.take_of_length_le (by simpa using h)
  rw [this]
  exact hK
theorem Ee {α:Type}(p:α→Bool)(xs:List α)(k:Nat)(h:k<xs.length):(xs.take (k+1)).filter p=if p xs[k]=true then (xs.take k).filter p++[xs[k]] else (xs.take k).filter p:=by
 rw [List.take_add_one,List.getElem?_eq_getElem h,List.filter_append]
 cases hp:p xs[k] <;> simp [hp]
theorem wR {α:Type}(p:α→Bool)(xs:List α)(k:Nat):((xs.take k).filter p).length≤xs.length:=by
 have h1:=List.length_filter_le p (xs.take k)
 have h2:(xs.take k).length≤xs.length:=by rw [List.length_take];omega
 omega
theorem zR {sv:Value}{ss:List Int}[i:al L (jP cy) b xs C][r:∀A,Rd w0 (C A) sv de 1 ss](hl:xs.length≤100000)(hl2:ss.length≤100000)
  (hK:∀u,av u [u]→G w0 (sl cy u (xs.filter fun x=>eB ss x.stamp)::C (ob (jP cy) b (xs.filter fun x=>!eB ss x.stamp))) (K u)):G w0 L (CP Tryz.prog Yw [ptr b 0,sv] K):=by
 refine i.useNM (fun M hM hK=>?_) hK
 have r':=Rd.frame hM r
 refine Aj ?_
 unfold qk
 rw [fe]
 intro v hv
 refine gr ?_
 refine G.nilsl cy ?_
 refine G.nilsl cy ?_
 refine G.loop3 (σ:=Value×Value×Nat) (fun s=>s.1) (fun s=>s.2.1) (fun s=>i64 s.2.2) (fun s=>sl cy s.1 ((xs.take s.2.2).filter fun x=>eB ss x.stamp)::sl cy s.2.1 ((xs.take s.2.2).filter fun x=>!eB ss x.stamp)::own b [v]::sl cy v xs::M)
  (fun s=>s.2.2≤xs.length∧av s.1 [s.1]∧av s.2.1 [s.2.1]) (fun s=>xs.length-s.2.2) (_,_,0) rfl rfl rfl (by simp) ⟨by simp,bf,bf⟩ ?_
 rintro⟨u,u2,k⟩ ⟨hk,hu,hu2⟩ J hJ
 simp only at hk hu hu2 hJ ⊢
 refine gr ?_
 refine G.cond (fun h=>?_) (fun h=>?_)
 ·have hk2:k<xs.length:=by simpa using h
  have e:=cW hk2
  have l1:=wR (fun x=>eB ss x.stamp) xs k
  have l2:=wR (fun x=>!eB ss x.stamp) xs k
  have t1:=Ee (fun x=>eB ss x.stamp) xs k hk2
  have t2:=Ee (fun x=>!eB ss x.stamp) xs k hk2
  refine gr ?_
  refine G.new fun p=>?_
  refine gr ?_
  refine FU (xs:=ss) (by omega) ?_
  refine gr ?_
  refine G.join2 (σ:=Value×Value) (fun s=>s.1) (fun s=>s.2) (fun s=>sl cy s.1 ((xs.take (k+1)).filter fun x=>eB ss x.stamp)::sl cy s.2 ((xs.take (k+1)).filter fun x=>!eB ss x.stamp)::own b [v]::sl cy v xs::M) (fun s=>av s.1 [s.1]∧av s.2 [s.2]) ?_ (fun J2 hJ2=>?_)
  ·rintro⟨y,y2⟩ ⟨hy,hy2⟩
   refine gr ?_
   rw [dt (by omega)]
   exact hJ (y,y2,k+1) ⟨hk2,hy,hy2⟩ (by simp;omega)
  ·refine G.cond (fun h=>?_) (fun h=>?_)
   ·simp only [h,if_true,Bool.not_true,Bool.false_eq_true,if_false] at t1 t2
    refine gr ?_
    refine G.append1 rfl rfl (by decide) (by omega) (by simp only [maxLen];omega) fun y hy=>?_
    have:=hJ2 (y,u2) ⟨hy,hu2⟩
    rw [t1,t2] at this
    exact this.sub
   ·simp only [h,if_true,Bool.not_false,Bool.false_eq_true,if_false] at t1 t2
    refine gr ?_
    refine G.append1 rfl rfl (by decide) (by omega) (by simp only [maxLen];omega) fun y hy=>?_
    have:=hJ2 (u,y) ⟨hu,hy⟩
    rw [t1,t2] at this
    exact this.sub
 ·have:xs.take k=xs:=List.take_of_length_le (by simpa using h)
  rw [this]
  refine gr ?_
  have:=hK u hu
  rw [eN,fe] at this
  exact(this u2 hu2).sub
end
end Go.Proofs.YtoealglbimbbmaaGreatDoor.S
