import Derived.Test.YtoealglbimbbmaaGreatDoorRDr
namespace Go.Proofs.YtoealglbimbbmaaGreatDoor.S
open Go Go.Proofs
set_option linter.unusedVariables false
set_option linter.unusedSimpArgs false
section
variable {w0:bg}{L M:List ax}{K:KV}{F:World→Prop}{C:ax→List ax}{b tp:Nat}{q:Nat×Nat}{n a x e k root:Int}{U:Prop}{v:Value}{t:Bool}
theorem G.blk {p want:Bool}{A:KV→World→Prop}{e:Bool}(hA:∀K':KV,(∀t,G w0 L (K' (.bool t)))→G w0 L (A K'))(h:∀t,G w0 L (K (.bool t))):G w0 L (dA (.bool p) want A (.bool e) K):=fun w H=>by
 simp only [dA]
 exact⟨fun _=>hA K h w H,fun _=>h e w H⟩
theorem G.jn0 {J:World→Prop}{B:(World→Prop)→World→Prop}(h:G w0 L J)(hB:∀j,G w0 L j→G w0 L (B j)):G w0 L (ar J B):=hB J h
theorem G.jn1 {α:Type}(f:α→Value){J:Value→World→Prop}{B:(Value→World→Prop)→World→Prop}(h:∀x,G w0 L (J (f x)))(hB:∀j,(∀x,G w0 L (j (f x)))→G w0 L (B j)):G w0 L (dy J B):=hB J h
theorem G.dx {q q':Nat×Nat}(h1:q.1≤q'.1)(h2:q.2≤q'.2)(H:G w0 (ob DX b (U,q')::M) F):G w0 (ob DX b (U,q)::M) F:=by
 rw [np] at H ⊢
 intro vp s err steps h
 exact H vp s err steps ⟨h.vg,by have:=h.fr;omega,fun g=>by have:=h.st g;omega⟩
def iF (p:Nat)(_:Unit):ax:=jX fun t:Bool=>own p [.bool t]
def zX (p:Nat)(U:Prop):ax:=jX fun n:Int=>bu (fS (U→fF n)) (own p [u64 n])
theorem sU {p:Nat}{u:Unit}:G w0 (ob iF p u::M) F=∀t:Bool,G w0 (own p [.bool t]::M) F:=by rw [dO,iF];simp only [lT]
theorem sY {p:Nat}:G w0 (ob zX p U::M) F=∀n,(U→fF n)→G w0 (own p [u64 n]::M) F:=by rw [dO,zX];simp only [lT,dP,eS]
theorem ni (p:Nat)(t:Bool) [cx [own p [.bool t]] L M](H:G w0 (ob iF p ()::M) F):G w0 L F:=G.pickAll (As:=[own p [.bool t]]) (by rw [sU] at H;exact H t)
theorem Kq (U:Prop)(p:Nat)(n:Int)(h:U→fF n) [cx [own p [u64 n]] L M](H:G w0 (ob zX p U::M) F):G w0 L F:=G.pickAll (As:=[own p [u64 n]]) (by rw [sY] at H;exact H n h)
theorem bp {p:Nat}{u:Unit}[i:al L iF p u C]{t:Bool}(hK:G w0 L (K undef)):G w0 L (ag 1 (ptr p 0) (.bool t) K):=by
 refine i.ro (fun M hK=>?_) hK
 rw [sU]
 intro t0
 refine gz ?_
 rw [sU] at hK
 exact hK t
theorem bm {p:Nat}{u:Unit}[i:al L iF p u C](hK:∀t,G w0 L (K (.bool t))):G w0 L (aa (ptr p 0) K):=by
 refine i.roA (P:=fun _:Bool=>True) (F':=fun t=>K (.bool t)) (fun M hK=>?_) (fun t _=>hK t)
 rw [sU]
 intro t0
 refine gz ?_
 have h:=hK t0 trivial
 rw [sU] at h
 exact h t0
theorem bq {p:Nat}{n:Int}(hn:U→fF n:=by first | assumption | exact fun _=>gH | exact fun _=>iy)[i:al L zX p U C](hK:G w0 L (K undef)):G w0 L (ag 1 (ptr p 0) (u64 n) K):=by
 refine i.ro (fun M hK=>?_) hK
 rw [sY]
 intro t0 _
 refine gz ?_
 rw [sY] at hK
 exact hK n hn
theorem bo {p:Nat}[i:al L zX p U C](hK:∀n,(U→fF n)→G w0 L (K (u64 n))):G w0 L (aa (ptr p 0) K):=by
 refine i.roA (P:=fun n:Int=>U→fF n) (F':=fun t=>K (u64 t)) (fun M hK=>?_) hK
 rw [sY]
 intro t0 h0
 refine gz ?_
 have h:=hK t0 h0
 rw [sY] at h
 exact h t0 h0
theorem tU [i:al L DX b (U,q) C](hK:∀t,G w0 L (K (.bool t))):G w0 L (CP Tryz.prog XY [ptr b 0,i64 a,u64 k] K):=by
 refine KJ ?_
 unfold Bg
 refine gu ?_
 repeat' first | (with_reducible first | exact hj | exact hj _ | refine bz fun _ _=>?_ | refine bh fun _=>?_ | refine ck fun _=>?_ | refine eH fun _=>?_ | refine bl (hK:=?_) | refine bi ?_ | refine bj fun _=>?_ | refine cj ?_ | refine bp ?_ | refine bm fun _=>?_ | refine bq (hK:=?_) | refine bo fun _ _=>?_ | refine G.cond (fun _=>?_) fun _=>?_ | refine G.blk (fun _ hj=>?_) fun _=>?_ | refine G.jn0 ?_ fun _ hj=>?_ | refine G.drew ?_) | simp (maxSteps:=2000000) only [↓RG,RP,RB,BEq.rfl,Int.reduceEq,Int.reduceLT,Int.reduceLE,Nat.reduceEqDiff]
 all_goals exact hK _
theorem vS [i:al L DX b (U,q) C](hK:∀x y,G w0 L (K (.tuple #[i64 x,i64 y]))):G w0 L (CP Tryz.prog XZ [ptr b 0,i64 root,u64 k] K):=by
 refine i.roA (P:=fun _:Int×Int=>True) (F':=fun z=>K (.tuple #[i64 z.1,i64 z.2])) (fun M hK=>?_) (fun z _=>hK z.1 z.2)
 refine Mb ?_
 unfold Ep
 refine gu ?_
 refine G.joini2 ?_
 refine G.loop2 (σ:=Nat×Int×Int) (fun z=>i64 z.2.1) (fun z=>i64 z.2.2) (fun z=>ob DX b (U,(z.1,q.2))::M) (fun z=>z.1≤q.1) (fun z=>z.1) (q.1,root,0) rfl rfl rfl (Nat.le_refl _) ?_
 rintro⟨m,link,at_⟩ hm J hJ
 simp only at hm hJ ⊢
 have hend:∀m,m≤q.1→∀x y,G w0 (ob DX b (U,(m,q.2))::M) (K (.tuple #[i64 x,i64 y])):=fun m hm x y=>G.dx hm (Nat.le_refl _) (hK (x,y) trivial)
 refine gr ?_
 refine wP (fun m' hm'=>?_) ?_
 ·simp only at hm'
  refine gr ?_
  repeat' first | (with_reducible first | exact hj | exact hj _ | refine bz fun _ _=>?_ | refine bh fun _=>?_ | refine ck fun _=>?_ | refine eH fun _=>?_ | refine bl (hK:=?_) | refine bi ?_ | refine bj fun _=>?_ | refine cj ?_ | refine bp ?_ | refine bm fun _=>?_ | refine bq (hK:=?_) | refine bo fun _ _=>?_ | refine G.cond (fun _=>?_) fun _=>?_ | refine G.blk (fun _ hj=>?_) fun _=>?_ | refine G.jn0 ?_ fun _ hj=>?_ | refine G.drew ?_) | simp (maxSteps:=2000000) only [↓RG,RP,RB,BEq.rfl,Int.reduceEq,Int.reduceLT,Int.reduceLE,Nat.reduceEqDiff]
  all_goals first | exact hend m' (by omega) _ _ | exact hJ (m',_,_) (by simp only;omega) (by simp only;omega)
 ·refine gr ?_
  exact hend m hm _ _
theorem G.jn0A {α:Type}(Lf:α→List ax){J:World→Prop}{B:(World→Prop)→World→Prop}(h:∀x,G w0 (Lf x) J)(hB:∀j,(∀x,G w0 (Lf x) j)→G w0 L (B j)):G w0 L (ar J B):=hB J h
theorem G.jnA {α:Type}(f:α→Value)(Lf:α→List ax){J:Value→World→Prop}{B:(Value→World→Prop)→World→Prop}(h:∀x,G w0 (Lf x) (J (f x)))(hB:∀j,(∀x,G w0 (Lf x) (j (f x)))→G w0 L (B j)):G w0 L (dy J B):=hB J h
section
variable {x1 x2 x3 x4:Nat}{u u4:Unit}{C1 C2 C3 C4:ax→List ax}
theorem JG (hk:U→fF k)[i:al L DX b (U,q) C][i1:al L gI x1 [i64 root] C1][i2:al L gI x2 [u64 k] C2][i3:al L iF x3 u C3](hK:G w0 L (K (.tuple #[]))):G w0 L (CP Tryz.prog Yx [ptr b 0,ptr x1 0,ptr x2 0,ptr x3 0] K):=by
 refine Ky ?_
 unfold Bm
 refine gu ?_
 repeat' first | (with_reducible first | exact hj | exact hj _ | refine bz fun _ _=>?_ | refine bh fun _=>?_ | refine ck fun _=>?_ | refine eH fun _=>?_ | refine bl (hK:=?_) | refine bi ?_ | refine bj fun _=>?_ | refine cj ?_ | refine bp ?_ | refine bm fun _=>?_ | refine bq (hK:=?_) | refine bo fun _ _=>?_ | refine G.cond (fun _=>?_) fun _=>?_ | refine G.blk (fun _ hj=>?_) fun _=>?_ | refine G.jn0 ?_ fun _ hj=>?_ | refine G.drew ?_) | simp (maxSteps:=2000000) only [↓RG,RP,RB,BEq.rfl,Int.reduceEq,Int.reduceLT,Int.reduceLE,Nat.reduceEqDiff]
 refine vS fun _ _=>?_
 repeat' first | (with_reducible first | exact hj | exact hj _ | refine bz fun _ _=>?_ | refine bh fun _=>?_ | refine ck fun _=>?_ | refine eH fun _=>?_ | refine bl (hK:=?_) | refine bi ?_ | refine bj fun _=>?_ | refine cj ?_ | refine bp ?_ | refine bm fun _=>?_ | refine bq (hK:=?_) | refine bo fun _ _=>?_ | refine G.cond (fun _=>?_) fun _=>?_ | refine G.blk (fun _ hj=>?_) fun _=>?_ | refine G.jn0 ?_ fun _ hj=>?_ | refine G.drew ?_) | simp (maxSteps:=2000000) only [↓RG,RP,RB,BEq.rfl,Int.reduceEq,Int.reduceLT,Int.reduceLE,Nat.reduceEqDiff]
 ·refine tU fun _=>?_
  repeat' first | (with_reducible first | exact hj | exact hj _ | refine bz fun _ _=>?_ | refine bh fun _=>?_ | refine ck fun _=>?_ | refine eH fun _=>?_ | refine bl (hK:=?_) | refine bi ?_ | refine bj fun _=>?_ | refine cj ?_ | refine bp ?_ | refine bm fun _=>?_ | refine bq (hK:=?_) | refine bo fun _ _=>?_ | refine G.cond (fun _=>?_) fun _=>?_ | refine G.blk (fun _ hj=>?_) fun _=>?_ | refine G.jn0 ?_ fun _ hj=>?_ | refine G.drew ?_) | simp (maxSteps:=2000000) only [↓RG,RP,RB,BEq.rfl,Int.reduceEq,Int.reduceLT,Int.reduceLE,Nat.reduceEqDiff]
 ·exact hK
 ·exact hK
theorem JD {m:Nat} [cx [ob DX b (U,(m,0)),own x1 [i64 root],own x2 [u64 k],ob iF x3 ()] L M](hK:G w0 (ob DX b (U,(m,1))::own x1 [i64 root]::own x2 [u64 k]::ob iF x3 ()::M) (K (.tuple #[]))):G w0 L (CP Tryz.prog Yy [ptr b 0,ptr x1 0,ptr x2 0,ptr x3 0] K):=by
 refine G.pickAll (As:=[ob DX b (U,(m,0)),own x1 [i64 root],own x2 [u64 k],ob iF x3 ()]) ?_
 simp only [List.cons_append,List.nil_append]
 refine Kd ?_
 unfold B1
 repeat' first | (with_reducible first | exact hj | exact hj _ | refine bz fun _ _=>?_ | refine bh fun _=>?_ | refine ck fun _=>?_ | refine eH fun _=>?_ | refine bl (hK:=?_) | refine bi ?_ | refine bj fun _=>?_ | refine cj ?_ | refine bp ?_ | refine bm fun _=>?_ | refine bq (hK:=?_) | refine bo fun _ _=>?_ | refine G.cond (fun _=>?_) fun _=>?_ | refine G.blk (fun _ hj=>?_) fun _=>?_ | refine G.jn0 ?_ fun _ hj=>?_ | refine G.drew ?_) | simp (maxSteps:=2000000) only [↓RG,RP,RB,BEq.rfl,Int.reduceEq,Int.reduceLT,Int.reduceLE,Nat.reduceEqDiff]
 refine vS fun _ _=>?_
 repeat' first | (with_reducible first | exact hj | exact hj _ | refine bz fun _ _=>?_ | refine bh fun _=>?_ | refine ck fun _=>?_ | refine eH fun _=>?_ | refine bl (hK:=?_) | refine bi ?_ | refine bj fun _=>?_ | refine cj ?_ | refine bp ?_ | refine bm fun _=>?_ | refine bq (hK:=?_) | refine bo fun _ _=>?_ | refine G.cond (fun _=>?_) fun _=>?_ | refine G.blk (fun _ hj=>?_) fun _=>?_ | refine G.jn0 ?_ fun _ hj=>?_ | refine G.drew ?_) | simp (maxSteps:=2000000) only [↓RG,RP,RB,BEq.rfl,Int.reduceEq,Int.reduceLT,Int.reduceLE,Nat.reduceEqDiff]
 refine tU fun _=>?_
 refine G.joini0 ?_
 repeat' first | (with_reducible first | exact hj | exact hj _ | refine bz fun _ _=>?_ | refine bh fun _=>?_ | refine ck fun _=>?_ | refine eH fun _=>?_ | refine bl (hK:=?_) | refine bi ?_ | refine bj fun _=>?_ | refine cj ?_ | refine bp ?_ | refine bm fun _=>?_ | refine bq (hK:=?_) | refine bo fun _ _=>?_ | refine G.cond (fun _=>?_) fun _=>?_ | refine G.blk (fun _ hj=>?_) fun _=>?_ | refine G.jn0 ?_ fun _ hj=>?_ | refine G.drew ?_) | simp (maxSteps:=2000000) only [↓RG,RP,RB,BEq.rfl,Int.reduceEq,Int.reduceLT,Int.reduceLE,Nat.reduceEqDiff]
 ·refine Hv (q:=(m,0)) (Nat.zero_le _) ?_
  repeat' first | (with_reducible first | exact hj | exact hj _ | refine bz fun _ _=>?_ | refine bh fun _=>?_ | refine ck fun _=>?_ | refine eH fun _=>?_ | refine bl (hK:=?_) | refine bi ?_ | refine bj fun _=>?_ | refine cj ?_ | refine bp ?_ | refine bm fun _=>?_ | refine bq (hK:=?_) | refine bo fun _ _=>?_ | refine G.cond (fun _=>?_) fun _=>?_ | refine G.blk (fun _ hj=>?_) fun _=>?_ | refine G.jn0 ?_ fun _ hj=>?_ | refine G.drew ?_) | simp (maxSteps:=2000000) only [↓RG,RP,RB,BEq.rfl,Int.reduceEq,Int.reduceLT,Int.reduceLE,Nat.reduceEqDiff]
  exact hK
 ·exact G.dx (q':=(m,1)) (by simp) (by simp) hK
theorem J3 [i:al L DX b (U,q) C][i1:al L gI x1 [i64 root] C1][i2:al L gI x2 [u64 k] C2][i3:al L iF x3 u C3](hK:G w0 L (K (.tuple #[]))):G w0 L (CP Tryz.prog Yz [ptr b 0,ptr x1 0,ptr x2 0,ptr x3 0] K):=by
 refine JX ?_
 unfold BB
 refine gu ?_
 repeat' first | (with_reducible first | exact hj | exact hj _ | refine bz fun _ _=>?_ | refine bh fun _=>?_ | refine ck fun _=>?_ | refine eH fun _=>?_ | refine bl (hK:=?_) | refine bi ?_ | refine bj fun _=>?_ | refine cj ?_ | refine bp ?_ | refine bm fun _=>?_ | refine bq (hK:=?_) | refine bo fun _ _=>?_ | refine G.cond (fun _=>?_) fun _=>?_ | refine G.blk (fun _ hj=>?_) fun _=>?_ | refine G.jn0 ?_ fun _ hj=>?_ | refine G.drew ?_) | simp (maxSteps:=2000000) only [↓RG,RP,RB,BEq.rfl,Int.reduceEq,Int.reduceLT,Int.reduceLE,Nat.reduceEqDiff]
 refine vS fun _ _=>?_
 repeat' first | (with_reducible first | exact hj | exact hj _ | refine bz fun _ _=>?_ | refine bh fun _=>?_ | refine ck fun _=>?_ | refine eH fun _=>?_ | refine bl (hK:=?_) | refine bi ?_ | refine bj fun _=>?_ | refine cj ?_ | refine bp ?_ | refine bm fun _=>?_ | refine bq (hK:=?_) | refine bo fun _ _=>?_ | refine G.cond (fun _=>?_) fun _=>?_ | refine G.blk (fun _ hj=>?_) fun _=>?_ | refine G.jn0 ?_ fun _ hj=>?_ | refine G.drew ?_) | simp (maxSteps:=2000000) only [↓RG,RP,RB,BEq.rfl,Int.reduceEq,Int.reduceLT,Int.reduceLE,Nat.reduceEqDiff]
 refine tU fun _=>?_
 repeat' first | (with_reducible first | exact hj | exact hj _ | refine bz fun _ _=>?_ | refine bh fun _=>?_ | refine ck fun _=>?_ | refine eH fun _=>?_ | refine bl (hK:=?_) | refine bi ?_ | refine bj fun _=>?_ | refine cj ?_ | refine bp ?_ | refine bm fun _=>?_ | refine bq (hK:=?_) | refine bo fun _ _=>?_ | refine G.cond (fun _=>?_) fun _=>?_ | refine G.blk (fun _ hj=>?_) fun _=>?_ | refine G.jn0 ?_ fun _ hj=>?_ | refine G.drew ?_) | simp (maxSteps:=2000000) only [↓RG,RP,RB,BEq.rfl,Int.reduceEq,Int.reduceLT,Int.reduceLE,Nat.reduceEqDiff]
 exact hK
end
variable {s:fh}
theorem Ob (hs:s.l.r.f.length≤100000)(hg:U→Vg s)(hk:U→fF k)[i:al L ba b s C](hK:∀t x e,LC U s t e 1→G w0 (C (ob ba b t)) (K (.tuple #[.bool x,i64 e]))):G w0 L (CP Tryz.prog Z2 [ptr b 0,i64 root,u64 k] K):=by
 refine Nw ?_
 unfold GN
 refine G.box fun x1=>?_
 refine G.box fun x2=>?_
 refine G.new fun x3=>?_
 refine gr ?_
 refine ni x3 false ?_
 refine EC (b:=b) (s:=s) 1 (by decide) hs hg (fun c K' h=>?_) (fun t e h=>?_)
 ·show G w0 _ (CP Tryz.prog Yx [ptr c 0,ptr x1 0,ptr x2 0,ptr x3 0] K')
  refine JG hk ?_
  exact G.dx (q':=(2048,1)) (by simp) (by simp) h
 ·try simp (maxSteps:=2000000) only [lh,pO,jw,js,pu,iO]
  repeat' first | (with_reducible first | exact hj | exact hj _ | refine bz fun _ _=>?_ | refine bh fun _=>?_ | refine ck fun _=>?_ | refine eH fun _=>?_ | refine bl (hK:=?_) | refine bi ?_ | refine bj fun _=>?_ | refine cj ?_ | refine bp ?_ | refine bm fun _=>?_ | refine bq (hK:=?_) | refine bo fun _ _=>?_ | refine G.cond (fun _=>?_) fun _=>?_ | refine G.blk (fun _ hj=>?_) fun _=>?_ | refine G.jn0 ?_ fun _ hj=>?_ | refine G.drew ?_) | simp (maxSteps:=2000000) only [↓RG,RP,RB,BEq.rfl,Int.reduceEq,Int.reduceLT,Int.reduceLE,Nat.reduceEqDiff]
  all_goals exact(hK t _ e h).sub
section
variable {x1 x2 x3:Nat}{u u2:Unit}{C1 C2 C3:ax→List ax}
theorem FF (hk:U→fF k)[i:al L DX b (U,q) C][i1:al L gI x1 [i64 root] C1][i2:al L gI x2 [u64 k] C2](hK:G w0 L (K (.tuple #[]))):G w0 L (CP Tryz.prog YA [ptr b 0,ptr x1 0,ptr x2 0] K):=by
 refine Hg ?_
 unfold wT
 refine gu ?_
 repeat' first | (with_reducible first | exact hj | exact hj _ | refine bz fun _ _=>?_ | refine bh fun _=>?_ | refine ck fun _=>?_ | refine eH fun _=>?_ | refine bl (hK:=?_) | refine bi ?_ | refine bj fun _=>?_ | refine cj ?_ | refine bp ?_ | refine bm fun _=>?_ | refine bq (hK:=?_) | refine bo fun _ _=>?_ | refine G.cond (fun _=>?_) fun _=>?_ | refine G.blk (fun _ hj=>?_) fun _=>?_ | refine G.jn0 ?_ fun _ hj=>?_ | refine G.drew ?_) | simp (maxSteps:=2000000) only [↓RG,RP,RB,BEq.rfl,Int.reduceEq,Int.reduceLT,Int.reduceLE,Nat.reduceEqDiff]
 refine G.joini2 ?_
 repeat' first | (with_reducible first | exact hj | exact hj _ | refine bz fun _ _=>?_ | refine bh fun _=>?_ | refine ck fun _=>?_ | refine eH fun _=>?_ | refine bl (hK:=?_) | refine bi ?_ | refine bj fun _=>?_ | refine cj ?_ | refine bp ?_ | refine bm fun _=>?_ | refine bq (hK:=?_) | refine bo fun _ _=>?_ | refine G.cond (fun _=>?_) fun _=>?_ | refine G.blk (fun _ hj=>?_) fun _=>?_ | refine G.jn0 ?_ fun _ hj=>?_ | refine G.drew ?_) | simp (maxSteps:=2000000) only [↓RG,RP,RB,BEq.rfl,Int.reduceEq,Int.reduceLT,Int.reduceLE,Nat.reduceEqDiff]
 ·exact hK
 ·refine G.jn1 (fun n:Int=>i64 n) (fun x=>?_) fun j hj=>?_
  ·repeat' first | (with_reducible first | exact hj | exact hj _ | refine bz fun _ _=>?_ | refine bh fun _=>?_ | refine ck fun _=>?_ | refine eH fun _=>?_ | refine bl (hK:=?_) | refine bi ?_ | refine bj fun _=>?_ | refine cj ?_ | refine bp ?_ | refine bm fun _=>?_ | refine bq (hK:=?_) | refine bo fun _ _=>?_ | refine G.cond (fun _=>?_) fun _=>?_ | refine G.blk (fun _ hj=>?_) fun _=>?_ | refine G.jn0 ?_ fun _ hj=>?_ | refine G.drew ?_) | simp (maxSteps:=2000000) only [↓RG,RP,RB,BEq.rfl,Int.reduceEq,Int.reduceLT,Int.reduceLE,Nat.reduceEqDiff]
   exact hK
  ·repeat' first | (with_reducible first | exact hj | exact hj _ | refine bz fun _ _=>?_ | refine bh fun _=>?_ | refine ck fun _=>?_ | refine eH fun _=>?_ | refine bl (hK:=?_) | refine bi ?_ | refine bj fun _=>?_ | refine cj ?_ | refine bp ?_ | refine bm fun _=>?_ | refine bq (hK:=?_) | refine bo fun _ _=>?_ | refine G.cond (fun _=>?_) fun _=>?_ | refine G.blk (fun _ hj=>?_) fun _=>?_ | refine G.jn0 ?_ fun _ hj=>?_ | refine G.drew ?_) | simp (maxSteps:=2000000) only [↓RG,RP,RB,BEq.rfl,Int.reduceEq,Int.reduceLT,Int.reduceLE,Nat.reduceEqDiff]
theorem FH {m:Nat} [cx [ob DX b (U,(m,0)),own x1 [i64 root],ob zX x2 U,ob iF x3 ()] L M](hK:G w0 (ob DX b (U,(m,1))::own x1 [i64 root]::ob zX x2 U::ob iF x3 ()::M) (K (.tuple #[]))):G w0 L (CP Tryz.prog YB [ptr b 0,ptr x1 0,ptr x2 0,ptr x3 0] K):=by
 refine G.pickAll (As:=[ob DX b (U,(m,0)),own x1 [i64 root],ob zX x2 U,ob iF x3 ()]) ?_
 simp only [List.cons_append,List.nil_append]
 refine Gv ?_
 unfold xe
 have hK0:G w0 (ob DX b (U,(m,0))::own x1 [i64 root]::ob zX x2 U::ob iF x3 ()::M) (K (.tuple #[])):=G.dx (q':=(m,1)) (by simp) (by simp) hK
 refine gu ?_
 repeat' first | (with_reducible first | exact hj | exact hj _ | refine bz fun _ _=>?_ | refine bh fun _=>?_ | refine ck fun _=>?_ | refine eH fun _=>?_ | refine bl (hK:=?_) | refine bi ?_ | refine bj fun _=>?_ | refine cj ?_ | refine bp ?_ | refine bm fun _=>?_ | refine bq (hK:=?_) | refine bo fun _ _=>?_ | refine G.cond (fun _=>?_) fun _=>?_ | refine G.blk (fun _ hj=>?_) fun _=>?_ | refine G.jn0 ?_ fun _ hj=>?_ | refine G.drew ?_) | simp (maxSteps:=2000000) only [↓RG,RP,RB,BEq.rfl,Int.reduceEq,Int.reduceLT,Int.reduceLE,Nat.reduceEqDiff]
 ·exact hK0
 ·exact hK0
 ·refine Hv (q:=(m,0)) (Nat.zero_le _) ?_
  exact hK
variable {s:fh}
theorem NO (hs:s.l.r.f.length≤100000)(hg:U→Vg s)[i:al L ba b s C](hK:∀t x e,LC U s t e 1→G w0 (C (ob ba b t)) (K (.tuple #[.bool x,i64 e]))):G w0 L (CP Tryz.prog Z3 [ptr b 0,i64 root,u64 k] K):=by
 refine Oy ?_
 unfold Hn
 refine G.box fun x1=>?_
 refine G.box fun x2=>?_
 refine G.new fun x3=>?_
 refine gr ?_
 refine ni x3 false ?_
 refine EC (b:=b) (s:=s) 1 (by decide) hs hg (fun c K' h=>?_) (fun t e h=>?_)
 ·show G w0 _ (CP Tryz.prog Yy [ptr c 0,ptr x1 0,ptr x2 0,ptr x3 0] K')
  refine JD (U:=U) (m:=2048) (root:=root) (k:=k) ?_
  exact h.sub
 ·try simp (maxSteps:=2000000) only [lh,pO,jw,js,pu,iO]
  repeat' first | (with_reducible first | exact hj | exact hj _ | refine bz fun _ _=>?_ | refine bh fun _=>?_ | refine ck fun _=>?_ | refine eH fun _=>?_ | refine bl (hK:=?_) | refine bi ?_ | refine bj fun _=>?_ | refine cj ?_ | refine bp ?_ | refine bm fun _=>?_ | refine bq (hK:=?_) | refine bo fun _ _=>?_ | refine G.cond (fun _=>?_) fun _=>?_ | refine G.blk (fun _ hj=>?_) fun _=>?_ | refine G.jn0 ?_ fun _ hj=>?_ | refine G.drew ?_) | simp (maxSteps:=2000000) only [↓RG,RP,RB,BEq.rfl,Int.reduceEq,Int.reduceLT,Int.reduceLE,Nat.reduceEqDiff]
  all_goals exact(hK t _ e h).sub
theorem Ox (hs:s.l.r.f.length≤100000)(hg:U→Vg s)[i:al L ba b s C](hK:∀t x e,LC U s t e 1→G w0 (C (ob ba b t)) (K (.tuple #[.bool x,i64 e]))):G w0 L (CP Tryz.prog Z4 [ptr b 0,i64 root,u64 k] K):=by
 refine NA ?_
 unfold Ga
 refine G.box fun x1=>?_
 refine G.box fun x2=>?_
 refine G.new fun x3=>?_
 refine gr ?_
 refine ni x3 false ?_
 refine EC (b:=b) (s:=s) 1 (by decide) hs hg (fun c K' h=>?_) (fun t e h=>?_)
 ·show G w0 _ (CP Tryz.prog Yz [ptr c 0,ptr x1 0,ptr x2 0,ptr x3 0] K')
  refine J3 ?_
  exact G.dx (q':=(2048,1)) (by simp) (by simp) h
 ·try simp (maxSteps:=2000000) only [lh,pO,jw,js,pu,iO]
  repeat' first | (with_reducible first | exact hj | exact hj _ | refine bz fun _ _=>?_ | refine bh fun _=>?_ | refine ck fun _=>?_ | refine eH fun _=>?_ | refine bl (hK:=?_) | refine bi ?_ | refine bj fun _=>?_ | refine cj ?_ | refine bp ?_ | refine bm fun _=>?_ | refine bq (hK:=?_) | refine bo fun _ _=>?_ | refine G.cond (fun _=>?_) fun _=>?_ | refine G.blk (fun _ hj=>?_) fun _=>?_ | refine G.jn0 ?_ fun _ hj=>?_ | refine G.drew ?_) | simp (maxSteps:=2000000) only [↓RG,RP,RB,BEq.rfl,Int.reduceEq,Int.reduceLT,Int.reduceLE,Nat.reduceEqDiff]
  all_goals exact(hK t _ e h).sub
theorem KN (hs:s.l.r.f.length≤100000)(hg:U→Vg s)(hk:U→fF k)[i:al L ba b s C](hK:∀t e,LC U s t e 1→G w0 (C (ob ba b t)) (K (i64 e))):G w0 L (CP Tryz.prog Z5 [ptr b 0,i64 root,u64 k] K):=by
 refine JB ?_
 unfold Bu
 refine G.box fun x1=>?_
 refine G.box fun x2=>?_
 refine gr ?_
 refine EC (b:=b) (s:=s) 1 (by decide) hs hg (fun c K' h=>?_) (fun t e h=>?_)
 ·show G w0 _ (CP Tryz.prog YA [ptr c 0,ptr x1 0,ptr x2 0] K')
  refine FF hk ?_
  exact G.dx (q':=(2048,1)) (by simp) (by simp) h
 ·exact(hK t e h).sub
theorem JR (hs:s.l.r.f.length≤100000)(hg:U→Vg s)[i:al L ba b s C](hK:∀t n x e,LC U s t e 1→(U→fF n)→G w0 (C (ob ba b t)) (K (.tuple #[u64 n,.bool x,i64 e]))):G w0 L (CP Tryz.prog Z6 [ptr b 0,i64 root] K):=by
 refine JC ?_
 unfold Cr
 refine G.box fun x1=>?_
 refine G.new fun x2=>?_
 refine G.new fun x3=>?_
 refine gr ?_
 refine Kq U x2 0 (fun _=>iy) ?_
 refine ni x3 false ?_
 refine EC (b:=b) (s:=s) 1 (by decide) hs hg (fun c K' h=>?_) (fun t e h=>?_)
 ·show G w0 _ (CP Tryz.prog YB [ptr c 0,ptr x1 0,ptr x2 0,ptr x3 0] K')
  refine FH (U:=U) (m:=2048) (root:=root) ?_
  exact h.sub
 ·by_cases he:e=0
  ·subst he
   refine gr ?_
   repeat' first | (with_reducible first | exact hj | exact hj _ | refine bz fun _ _=>?_ | refine bh fun _=>?_ | refine ck fun _=>?_ | refine eH fun _=>?_ | refine bl (hK:=?_) | refine bi ?_ | refine bj fun _=>?_ | refine cj ?_ | refine bp ?_ | refine bm fun _=>?_ | refine bq (hK:=?_) | refine bo fun _ _=>?_ | refine G.cond (fun _=>?_) fun _=>?_ | refine G.blk (fun _ hj=>?_) fun _=>?_ | refine G.jn0 ?_ fun _ hj=>?_ | refine G.drew ?_) | simp (maxSteps:=2000000) only [↓RG,RP,RB,BEq.rfl,Int.reduceEq,Int.reduceLT,Int.reduceLE,Nat.reduceEqDiff]
   exact(hK t _ _ 0 h (by assumption)).sub
  ·refine dN he ?_
   exact(hK t 0 _ e h (fun _=>iy)).sub
end
abbrev eZ:jB (Int×Int):=⟨2,fun p=>[i64 p.1,i64 p.2],fun | [.int .i64 a,.int .i64 b]=>some (a,b) | _=>none,by decide,fun _=>rfl,by simp [one],fun cs a h=>by split at h <;> cases h;rfl⟩
instance {p:Int×Int}:e9 eZ p [i64 p.1,i64 p.2]:=⟨rfl⟩
instance {x y:Int}:fy eZ [i64 x,i64 y] (x,y):=⟨rfl⟩
section
variable {vw:Value}{ws:List (Int×Int)}{C1 C2:ax→List ax}
theorem eP [i:al L DX b (U,q) C][i1:al L gI tp [ptr b 0,i64 root,vw] C1](hK:∀x,G w0 L (K (i64 x))):G w0 L (CP Tryz.prog GT [ptr tp 0,i64 a,i64 e] K):=by
 refine Bx ?_
 unfold rr
 repeat' first | (with_reducible first | exact hj | exact hj _ | refine bz fun _ _=>?_ | refine bh fun _=>?_ | refine ck fun _=>?_ | refine eH fun _=>?_ | refine bl (hK:=?_) | refine bi ?_ | refine bj fun _=>?_ | refine cj ?_ | refine bp ?_ | refine bm fun _=>?_ | refine bq (hK:=?_) | refine bo fun _ _=>?_ | refine G.cond (fun _=>?_) fun _=>?_ | refine G.blk (fun _ hj=>?_) fun _=>?_ | refine G.jn0 ?_ fun _ hj=>?_ | refine G.drew ?_) | simp (maxSteps:=2000000) only [↓RG,RP,RB,BEq.rfl,Int.reduceEq,Int.reduceLT,Int.reduceLE,Nat.reduceEqDiff]
 all_goals exact hK _
theorem po [i:al L DX b (U,q) C][i1:al L gI tp [ptr b 0,i64 root,vw] C1](hK:∀t,G w0 L (K (.bool t))):G w0 L (CP Tryz.prog Nm [ptr tp 0,i64 a] K):=by
 refine EV ?_
 unfold uF
 refine gu ?_
 repeat' first | (with_reducible first | exact hj | exact hj _ | refine bz fun _ _=>?_ | refine bh fun _=>?_ | refine ck fun _=>?_ | refine eH fun _=>?_ | refine bl (hK:=?_) | refine bi ?_ | refine bj fun _=>?_ | refine cj ?_ | refine bp ?_ | refine bm fun _=>?_ | refine bq (hK:=?_) | refine bo fun _ _=>?_ | refine G.cond (fun _=>?_) fun _=>?_ | refine G.blk (fun _ hj=>?_) fun _=>?_ | refine G.jn0 ?_ fun _ hj=>?_ | refine G.drew ?_) | simp (maxSteps:=2000000) only [↓RG,RP,RB,BEq.rfl,Int.reduceEq,Int.reduceLT,Int.reduceLE,Nat.reduceEqDiff]
 all_goals exact hK _
theorem mJ [i:al L DX b (U,q) C][i1:al L gI tp [ptr b 0,i64 root,vw] C1](hK:G w0 L (K (.tuple #[]))):G w0 L (CP Tryz.prog Xt [ptr tp 0,i64 a,i64 e,i64 x] K):=by
 refine C7 ?_
 unfold tb
 repeat' first | (with_reducible first | exact hj | exact hj _ | refine bz fun _ _=>?_ | refine bh fun _=>?_ | refine ck fun _=>?_ | refine eH fun _=>?_ | refine bl (hK:=?_) | refine bi ?_ | refine bj fun _=>?_ | refine cj ?_ | refine bp ?_ | refine bm fun _=>?_ | refine bq (hK:=?_) | refine bo fun _ _=>?_ | refine G.cond (fun _=>?_) fun _=>?_ | refine G.blk (fun _ hj=>?_) fun _=>?_ | refine G.jn0 ?_ fun _ hj=>?_ | refine G.drew ?_) | simp (maxSteps:=2000000) only [↓RG,RP,RB,BEq.rfl,Int.reduceEq,Int.reduceLT,Int.reduceLE,Nat.reduceEqDiff]
 all_goals exact hK
theorem lN [i:al L DX b (U,q) C][i1:al L gI tp [ptr b 0,i64 root,vw] C1](hK:G w0 L (K (.tuple #[]))):G w0 L (CP Tryz.prog gt [ptr tp 0,i64 a,.bool t] K):=by
 refine BS ?_
 unfold rM
 repeat' first | (with_reducible first | exact hj | exact hj _ | refine bz fun _ _=>?_ | refine bh fun _=>?_ | refine ck fun _=>?_ | refine eH fun _=>?_ | refine bl (hK:=?_) | refine bi ?_ | refine bj fun _=>?_ | refine cj ?_ | refine bp ?_ | refine bm fun _=>?_ | refine bq (hK:=?_) | refine bo fun _ _=>?_ | refine G.cond (fun _=>?_) fun _=>?_ | refine G.blk (fun _ hj=>?_) fun _=>?_ | refine G.jn0 ?_ fun _ hj=>?_ | refine G.drew ?_) | simp (maxSteps:=2000000) only [↓RG,RP,RB,BEq.rfl,Int.reduceEq,Int.reduceLT,Int.reduceLE,Nat.reduceEqDiff]
 all_goals exact hK
theorem uC [i:al L DX b (U,q) C][i1:al L gI tp [ptr b 0,i64 root,vw] C1](hK:∀x,G w0 L (K (i64 x))):G w0 L (CP Tryz.prog XD [ptr tp 0] K):=by
 refine ES ?_
 unfold uJ
 repeat' first | (with_reducible first | exact hj | exact hj _ | refine bz fun _ _=>?_ | refine bh fun _=>?_ | refine ck fun _=>?_ | refine eH fun _=>?_ | refine bl (hK:=?_) | refine bi ?_ | refine bj fun _=>?_ | refine cj ?_ | refine bp ?_ | refine bm fun _=>?_ | refine bq (hK:=?_) | refine bo fun _ _=>?_ | refine G.cond (fun _=>?_) fun _=>?_ | refine G.blk (fun _ hj=>?_) fun _=>?_ | refine G.jn0 ?_ fun _ hj=>?_ | refine G.drew ?_) | simp (maxSteps:=2000000) only [↓RG,RP,RB,BEq.rfl,Int.reduceEq,Int.reduceLT,Int.reduceLE,Nat.reduceEqDiff]
 all_goals exact hK _
theorem se [i:al L DX b (U,q) C][i1:al L gI tp [ptr b 0,i64 root,vw] C1](hK:∀x,G w0 L (K (i64 x))):G w0 L (CP Tryz.prog Xu [ptr tp 0,i64 a,i64 e] K):=by
 refine Dt ?_
 unfold sk
 repeat' first | (with_reducible first | exact hj | exact hj _ | refine bz fun _ _=>?_ | refine bh fun _=>?_ | refine ck fun _=>?_ | refine eH fun _=>?_ | refine bl (hK:=?_) | refine bi ?_ | refine bj fun _=>?_ | refine cj ?_ | refine bp ?_ | refine bm fun _=>?_ | refine bq (hK:=?_) | refine bo fun _ _=>?_ | refine G.cond (fun _=>?_) fun _=>?_ | refine G.blk (fun _ hj=>?_) fun _=>?_ | refine G.jn0 ?_ fun _ hj=>?_ | refine G.drew ?_) | simp (maxSteps:=2000000) only [↓RG,RP,RB,BEq.rfl,Int.reduceEq,Int.reduceLT,Int.reduceLE,Nat.reduceEqDiff]
 refine eP fun _=>?_
 repeat' first | (with_reducible first | exact hj | exact hj _ | refine bz fun _ _=>?_ | refine bh fun _=>?_ | refine ck fun _=>?_ | refine eH fun _=>?_ | refine bl (hK:=?_) | refine bi ?_ | refine bj fun _=>?_ | refine cj ?_ | refine bp ?_ | refine bm fun _=>?_ | refine bq (hK:=?_) | refine bo fun _ _=>?_ | refine G.cond (fun _=>?_) fun _=>?_ | refine G.blk (fun _ hj=>?_) fun _=>?_ | refine G.jn0 ?_ fun _ hj=>?_ | refine G.drew ?_) | simp (maxSteps:=2000000) only [↓RG,RP,RB,BEq.rfl,Int.reduceEq,Int.reduceLT,Int.reduceLE,Nat.reduceEqDiff]
 refine eP fun _=>?_
 refine mJ ?_
 refine mJ ?_
 exact hK _
theorem Gz {n:Nat}(hn:n≤ws.length)(hl:ws.length≤1000000)[i:al L DX b (U,q) C][i1:al L gI tp [ptr b 0,i64 root,vw] C1][r:Rd w0 L vw eZ 2 ws](hK:G w0 L (K (.tuple #[]))):G w0 L (CP Tryz.prog Xv [ptr tp 0,i64 n,i64 x] K):=by
 refine DF ?_
 unfold sN
 by_cases h:n=0
 ·subst h
  repeat' (first | (with_reducible exact hj) | (with_reducible exact hj _) | (with_reducible refine bz fun _ _=>?_) | (with_reducible refine bh fun _=>?_) | (with_reducible refine ck fun _=>?_) | (with_reducible refine eH fun _=>?_) | (with_reducible refine bl (by first | assumption | exact fun _=>gH | exact fun _=>iy) ?_) | (with_reducible refine bi ?_) | (with_reducible refine bj fun _=>?_) | (with_reducible refine cj ?_) | (with_reducible refine bp ?_) | (with_reducible refine bm fun _=>?_) | (with_reducible refine bq (by first | assumption | exact fun _=>gH | exact fun _=>iy) ?_) | (with_reducible refine bo fun _ _=>?_) | (with_reducible refine G.cond (fun _=>?_) (fun _=>?_)) | (with_reducible refine G.blk (fun _ hj=>?_) (fun _=>?_)) | (with_reducible refine G.jn0 ?_ (fun _ hj=>?_)) | (with_reducible refine G.drew ?_) | (simp (maxSteps:=2000000) only [↓RG,RP,RB,BEq.rfl,Int.reduceEq,Int.reduceLT,Int.reduceLE,Nat.reduceEqDiff,Int.cast_ofNat_Int]))
  exact hK
 ·have h0:¬(n:Int)=0:=by omega
  have ew:IntKind.wrap .i64 ((n:Int)-1)=((n-1:Nat):Int):=by rw [ik (by omega) (by omega)];omega
  have el:eA ws (n-1) ws[n-1]:=⟨List.getElem?_eq_getElem (by omega)⟩
  repeat' (first | (with_reducible exact hj) | (with_reducible exact hj _) | (with_reducible refine bz fun _ _=>?_) | (with_reducible refine bh fun _=>?_) | (with_reducible refine ck fun _=>?_) | (with_reducible refine eH fun _=>?_) | (with_reducible refine bl (by first | assumption | exact fun _=>gH | exact fun _=>iy) ?_) | (with_reducible refine bi ?_) | (with_reducible refine bj fun _=>?_) | (with_reducible refine cj ?_) | (with_reducible refine bp ?_) | (with_reducible refine bm fun _=>?_) | (with_reducible refine bq (by first | assumption | exact fun _=>gH | exact fun _=>iy) ?_) | (with_reducible refine bo fun _ _=>?_) | (with_reducible refine G.cond (fun _=>?_) (fun _=>?_)) | (with_reducible refine G.blk (fun _ hj=>?_) (fun _=>?_)) | (with_reducible refine G.jn0 ?_ (fun _ hj=>?_)) | (with_reducible refine G.drew ?_) | (simp (maxSteps:=2000000) only [↓RG,RP,RB,BEq.rfl,Int.reduceEq,Int.reduceLT,Int.reduceLE,Nat.reduceEqDiff,h0,ew]))
  refine mJ ?_
  repeat' first | (with_reducible first | exact hj | exact hj _ | refine bz fun _ _=>?_ | refine bh fun _=>?_ | refine ck fun _=>?_ | refine eH fun _=>?_ | refine bl (hK:=?_) | refine bi ?_ | refine bj fun _=>?_ | refine cj ?_ | refine bp ?_ | refine bm fun _=>?_ | refine bq (hK:=?_) | refine bo fun _ _=>?_ | refine G.cond (fun _=>?_) fun _=>?_ | refine G.blk (fun _ hj=>?_) fun _=>?_ | refine G.jn0 ?_ fun _ hj=>?_ | refine G.drew ?_) | simp (maxSteps:=2000000) only [↓RG,RP,RB,BEq.rfl,Int.reduceEq,Int.reduceLT,Int.reduceLE,Nat.reduceEqDiff]
  exact hK
theorem NC {u1 u2 g1 g2:Int}(h2:2≤ws.length)(hl:ws.length≤1000000)[i:al L DX b (U,q) C][i1:al L gI tp [ptr b 0,i64 root,vw] C1][r:Rd w0 L vw eZ 2 ws](hK:G w0 L (K (.tuple #[]))):G w0 L (CP Tryz.prog YC [ptr tp 0,.agg [i64 u1,i64 u2].toArray,.agg [i64 g1,i64 g2].toArray] K):=by
 refine xh ?_
 unfold nu
 refine G.box fun p1=>?_
 refine G.box fun p2=>?_
 have ew:IntKind.wrap .i64 ((ws.length:Int)-2)=((ws.length-2:Nat):Int):=by rw [ik (by omega) (by omega)];omega
 repeat' (first | (with_reducible exact hj) | (with_reducible exact hj _) | (with_reducible refine eP fun _=>?_) | (with_reducible refine po fun _=>?_) | (with_reducible refine mJ ?_) | (with_reducible refine lN ?_) | (with_reducible refine uC fun _=>?_) | (with_reducible refine se fun _=>?_) | (with_reducible refine bz fun _ _=>?_) | (with_reducible refine bh fun _=>?_) | (with_reducible refine ck fun _=>?_) | (with_reducible refine eH fun _=>?_) | (with_reducible refine bl (by first | assumption | exact fun _=>gH | exact fun _=>iy) ?_) | (with_reducible refine bi ?_) | (with_reducible refine bj fun _=>?_) | (with_reducible refine cj ?_) | (with_reducible refine bp ?_) | (with_reducible refine bm fun _=>?_) | (with_reducible refine bq (by first | assumption | exact fun _=>gH | exact fun _=>iy) ?_) | (with_reducible refine bo fun _ _=>?_) | (with_reducible refine G.cond (fun _=>?_) (fun _=>?_)) | (with_reducible refine G.blk (fun _ hj=>?_) (fun _=>?_)) | (with_reducible refine G.jn0 ?_ (fun _ hj=>?_)) | (with_reducible refine G.drew ?_) | (simp (maxSteps:=2000000) only [↓RG,RP,RB,BEq.rfl,Int.reduceEq,Int.reduceLT,Int.reduceLE,Nat.reduceEqDiff,ew]))
 ·refine Gz (ws:=ws) (by omega) hl ?_
  exact hK.sub
theorem Vt {u1 u2:Int}(h2:1≤ws.length)(hl:ws.length≤1000000)[i:al L DX b (U,q) C][i1:al L gI tp [ptr b 0,i64 root,vw] C1][r:Rd w0 L vw eZ 2 ws](hK:G w0 L (K (.tuple #[]))):G w0 L (CP Tryz.prog Z7 [ptr tp 0,.agg [i64 u1,i64 u2].toArray,i64 a] K):=by
 refine DI ?_
 unfold sL
 refine G.box fun p1=>?_
 have ew:IntKind.wrap .i64 ((ws.length:Int)-1)=((ws.length-1:Nat):Int):=by rw [ik (by omega) (by omega)];omega
 repeat' (first | (with_reducible exact hj) | (with_reducible exact hj _) | (with_reducible refine eP fun _=>?_) | (with_reducible refine po fun _=>?_) | (with_reducible refine mJ ?_) | (with_reducible refine lN ?_) | (with_reducible refine uC fun _=>?_) | (with_reducible refine se fun _=>?_) | (with_reducible refine bz fun _ _=>?_) | (with_reducible refine bh fun _=>?_) | (with_reducible refine ck fun _=>?_) | (with_reducible refine eH fun _=>?_) | (with_reducible refine bl (by first | assumption | exact fun _=>gH | exact fun _=>iy) ?_) | (with_reducible refine bi ?_) | (with_reducible refine bj fun _=>?_) | (with_reducible refine cj ?_) | (with_reducible refine bp ?_) | (with_reducible refine bm fun _=>?_) | (with_reducible refine bq (by first | assumption | exact fun _=>gH | exact fun _=>iy) ?_) | (with_reducible refine bo fun _ _=>?_) | (with_reducible refine G.cond (fun _=>?_) (fun _=>?_)) | (with_reducible refine G.blk (fun _ hj=>?_) (fun _=>?_)) | (with_reducible refine G.jn0 ?_ (fun _ hj=>?_)) | (with_reducible refine G.drew ?_) | (simp (maxSteps:=2000000) only [↓RG,RP,RB,BEq.rfl,Int.reduceEq,Int.reduceLT,Int.reduceLE,Nat.reduceEqDiff,ew]))
 refine G.jn1 (fun n:Int=>i64 n) (fun x=>?_) fun j hj=>?_
 ·repeat' (first | (with_reducible exact hj) | (with_reducible exact hj _) | (with_reducible refine eP fun _=>?_) | (with_reducible refine po fun _=>?_) | (with_reducible refine mJ ?_) | (with_reducible refine lN ?_) | (with_reducible refine uC fun _=>?_) | (with_reducible refine se fun _=>?_) | (with_reducible refine bz fun _ _=>?_) | (with_reducible refine bh fun _=>?_) | (with_reducible refine ck fun _=>?_) | (with_reducible refine eH fun _=>?_) | (with_reducible refine bl (by first | assumption | exact fun _=>gH | exact fun _=>iy) ?_) | (with_reducible refine bi ?_) | (with_reducible refine bj fun _=>?_) | (with_reducible refine cj ?_) | (with_reducible refine bp ?_) | (with_reducible refine bm fun _=>?_) | (with_reducible refine bq (by first | assumption | exact fun _=>gH | exact fun _=>iy) ?_) | (with_reducible refine bo fun _ _=>?_) | (with_reducible refine G.cond (fun _=>?_) (fun _=>?_)) | (with_reducible refine G.blk (fun _ hj=>?_) (fun _=>?_)) | (with_reducible refine G.jn0 ?_ (fun _ hj=>?_)) | (with_reducible refine G.drew ?_) | (simp (maxSteps:=2000000) only [↓RG,RP,RB,BEq.rfl,Int.reduceEq,Int.reduceLT,Int.reduceLE,Nat.reduceEqDiff,ew]))
  refine Gz (ws:=ws) (by omega) hl ?_
  exact hK.sub
 ·repeat' first | (with_reducible first | exact hj | exact hj _ | refine eP fun _=>?_ | refine po fun _=>?_ | refine mJ ?_ | refine lN ?_ | refine uC fun _=>?_ | refine se fun _=>?_ | refine bz fun _ _=>?_ | refine bh fun _=>?_ | refine ck fun _=>?_ | refine eH fun _=>?_ | refine bl (hK:=?_) | refine bi ?_ | refine bj fun _=>?_ | refine cj ?_ | refine bp ?_ | refine bm fun _=>?_ | refine bq (hK:=?_) | refine bo fun _ _=>?_ | refine G.cond (fun _=>?_) fun _=>?_ | refine G.blk (fun _ hj=>?_) fun _=>?_ | refine G.jn0 ?_ fun _ hj=>?_ | refine G.drew ?_) | simp (maxSteps:=2000000) only [↓RG,RP,RB,BEq.rfl,Int.reduceEq,Int.reduceLT,Int.reduceLE,Nat.reduceEqDiff]
theorem Nh {m f:Nat}(hm:m≤10000)(hK:∀x vw' ws',av vw' [vw']→ws'.length≤m→G w0 (own tp [ptr b 0,i64 root,vw']::sl eZ vw' ws'::ob DX b (U,(m,f))::M) (K (i64 x))):G w0 (own tp [ptr b 0,i64 root,vw]::ob DX b (U,(m,f))::M) (CP Tryz.prog X0 [ptr tp 0,u64 k] K):=by
 refine Dk ?_
 unfold te
 refine gu ?_
 refine gg ?_
 refine G.nilsl eZ ?_
 refine uC fun x0=>?_
 refine G.sub (L':=own tp [ptr b 0,i64 root,.slice none 0 0]::sl eZ (.slice none 0 0) []::ob DX b (U,(m,f))::M) ?_
 refine G.loop1 (σ:=Nat×Int×Value×List (Int×Int)) (fun z=>i64 z.2.1) (fun z=>own tp [ptr b 0,i64 root,z.2.2.1]::sl eZ z.2.2.1 z.2.2.2::ob DX b (U,(z.1,f))::M) (fun z=>av z.2.2.1 [z.2.2.1]∧z.2.2.2.length+z.1≤m) (fun z=>z.1) (m,x0,.slice none 0 0,[]) rfl rfl ⟨bf,by simp⟩ ?_
 rintro⟨m1,at_,v1,w1⟩ ⟨hv,hw⟩ J hJ
 simp only at hv hw hJ ⊢
 have hend:∀m1 x,w1.length+m1≤m→G w0 (own tp [ptr b 0,i64 root,v1]::sl eZ v1 w1::ob DX b (U,(m1,f))::M) (K (i64 x)):=fun m1 x h=>by
  refine G.sub (L':=ob DX b (U,(m1,f))::own tp [ptr b 0,i64 root,v1]::sl eZ v1 w1::M) ?_
  refine G.dx (q':=(m,f)) (by simp only;omega) (Nat.le_refl _) ?_
  exact(hK x v1 w1 hv (by omega)).sub
 by_cases h0:at_=0
 ·subst h0
  refine gr ?_
  exact hend m1 0 hw
 ·refine dN h0 ?_
  refine wP (q:=(m1,f)) (fun m2 hm2=>?_) ?_
  ·simp only at hm2
   refine gr ?_
   refine bz fun y _=>?_
   refine gr ?_
   refine G.cond (fun _=>?_) (fun _=>?_)
   ·exact hend m2 _ (by omega)
   ·refine gr ?_
    refine G.jn1 (fun n:Int=>i64 n) (fun sd=>?_) fun j hj=>?_
    ·refine gr ?_
     refine G.build eZ [(at_,sd)] rfl (by decide) rfl fun y hy=>?_
     refine G.append (E:=eZ) (xs:=w1) (ys:=[(at_,sd)]) (by simp;omega) (by simp [maxLen];omega) fun v2 hv2=>?_
     refine gr ?_
     refine eP fun z=>?_
     exact(hJ (m2,z,v2,w1++[(at_,sd)]) ⟨hv2,by simp only [List.length_append,List.length_singleton];omega⟩ (by simp only;omega)).sub
    ·refine G.cond (fun _=>?_) (fun _=>?_)
     ·exact hj 1
     ·exact hj 0
  ·refine gr ?_
   exact hend m1 0 hw
theorem Vu {m f:Nat}(hm:m≤10000)(hl:ws.length≤100000)(hv:av vw [vw])(hK:∀x vw' ws',av vw' [vw']→ws'.length≤ws.length+1+m→G w0 (own tp [ptr b 0,i64 root,vw']::sl eZ vw' ws'::ob DX b (U,(m,f))::M) (K (i64 x))):G w0 (own tp [ptr b 0,i64 root,vw]::sl eZ vw ws::ob DX b (U,(m,f))::M) (CP Tryz.prog Z8 [ptr tp 0,i64 a] K):=by
 refine C5 ?_
 unfold sn
 refine gr ?_
 refine G.build eZ [(a,1)] rfl (by decide) rfl fun y hy=>?_
 refine G.append (E:=eZ) (xs:=ws) (ys:=[(a,1)]) (by simp;omega) (by simp [maxLen];omega) fun v0 hv0=>?_
 refine gr ?_
 refine eP fun x0=>?_
 refine G.joini1 ?_
 refine G.sub (L':=own tp [ptr b 0,i64 root,v0]::sl eZ v0 (ws++[(a,1)])::ob DX b (U,(m,f))::M) ?_
 refine G.loop1 (σ:=Nat×Int×Value×List (Int×Int)) (fun z=>i64 z.2.1) (fun z=>own tp [ptr b 0,i64 root,z.2.2.1]::sl eZ z.2.2.1 z.2.2.2::ob DX b (U,(z.1,f))::M) (fun z=>av z.2.2.1 [z.2.2.1]∧z.2.2.2.length+z.1≤ws.length+1+m∧z.1≤m) (fun z=>z.1) (m,x0,v0,ws++[(a,1)]) rfl rfl ⟨hv0,by simp,Nat.le_refl _⟩ ?_
 rintro⟨m1,at_,v1,w1⟩ ⟨hv,hw,hm1⟩ J hJ
 simp only at hv hw hm1 hJ ⊢
 have hend:∀m1 x,w1.length+m1≤ws.length+1+m→m1≤m→G w0 (own tp [ptr b 0,i64 root,v1]::sl eZ v1 w1::ob DX b (U,(m1,f))::M) (K (i64 x)):=fun m1 x h h2=>by
  refine G.sub (L':=ob DX b (U,(m1,f))::own tp [ptr b 0,i64 root,v1]::sl eZ v1 w1::M) ?_
  refine G.dx (q':=(m,f)) (by simp only;omega) (Nat.le_refl _) ?_
  exact(hK x v1 w1 hv (by omega)).sub
 refine gr ?_
 refine wP (q:=(m1,f)) (fun m2 hm2=>?_) ?_
 ·simp only at hm2
  refine gr ?_
  refine eP fun y=>?_
  refine gr ?_
  refine G.cond (fun _=>?_) (fun _=>?_)
  ·exact hend m2 _ (by omega) (by omega)
  ·refine gr ?_
   refine G.build eZ [(at_,0)] rfl (by decide) rfl fun y2 hy=>?_
   refine G.append (E:=eZ) (xs:=w1) (ys:=[(at_,0)]) (by simp;omega) (by simp [maxLen];omega) fun v2 hv2=>?_
   refine gr ?_
   exact(hJ (m2,y,v2,w1++[(at_,0)]) ⟨hv2,by simp only [List.length_append,List.length_singleton];omega,by simp only;omega⟩ (by simp only;omega)).sub
 ·refine gr ?_
  exact hend m1 _ hw hm1
theorem SI {m f:Nat}(hl:ws.length≤100000)(hv:av vw [vw])(hK:∀vw' ws',av vw' [vw']→G w0 (own tp [ptr b 0,i64 root,vw']::sl eZ vw' ws'::ob DX b (U,(m,f))::M) (K (.tuple #[]))):G w0 (own tp [ptr b 0,i64 root,vw]::sl eZ vw ws::ob DX b (U,(m,f))::M) (CP Tryz.prog Z9 [ptr tp 0] K):=by
 refine z6 ?_
 unfold qD
 refine gu ?_
 refine G.loop0 (σ:=Nat×Value×List (Int×Int)) (fun z=>own tp [ptr b 0,i64 root,z.2.1]::sl eZ z.2.1 z.2.2::ob DX b (U,(z.1,f))::M) (fun z=>av z.2.1 [z.2.1]∧z.2.2.length≤100000∧z.1≤m) (fun z=>z.1) (m,vw,ws) rfl ⟨hv,hl,Nat.le_refl _⟩ ?_
 rintro⟨m1,v1,w1⟩ ⟨hv,hw,hm1⟩ J hJ
 simp only at hv hw hm1 hJ ⊢
 have hend:∀m1,m1≤m→∀M',(∀F,G w0 (own tp [ptr b 0,i64 root,v1]::sl eZ v1 w1::ob DX b (U,(m1,f))::M) F→G w0 M' F)→G w0 M' (K (.tuple #[])):=fun m1 h2 M' hM=>hM _ (by
  refine G.sub (L':=ob DX b (U,(m1,f))::own tp [ptr b 0,i64 root,v1]::sl eZ v1 w1::M) ?_
  refine G.dx (q':=(m,f)) (by simp only;omega) (Nat.le_refl _) ?_
  exact(hK v1 w1 hv).sub)
 have htail:∀m1,m1≤m→∀t:Bool,G w0 (own tp [ptr b 0,i64 root,v1]::sl eZ v1 w1::ob DX b (U,(m1,f))::M) (ar (K (.tuple #[])) fun j2=>ae (.bool t) (CP Tryz.prog XD [ptr tp 0] fun x107=>CP Tryz.prog gt [ptr tp 0,x107,.bool false] fun x108=>j2) j2):=fun m1 h2 t=>by
  refine G.jn0 (hend m1 h2 _ fun F h=>h) fun j hj=>?_
  repeat' first | (with_reducible first | exact hj | exact hj _ | refine eP fun _=>?_ | refine po fun _=>?_ | refine mJ ?_ | refine lN ?_ | refine uC fun _=>?_ | refine se fun _=>?_ | refine bz fun _ _=>?_ | refine bh fun _=>?_ | refine ck fun _=>?_ | refine eH fun _=>?_ | refine bl (hK:=?_) | refine bi ?_ | refine bj fun _=>?_ | refine cj ?_ | refine bp ?_ | refine bm fun _=>?_ | refine bq (hK:=?_) | refine bo fun _ _=>?_ | refine G.cond (fun _=>?_) fun _=>?_ | refine G.blk (fun _ hj=>?_) fun _=>?_ | refine G.jn0 ?_ fun _ hj=>?_ | refine G.drew ?_) | simp (maxSteps:=2000000) only [↓RG,RP,RB,BEq.rfl,Int.reduceEq,Int.reduceLT,Int.reduceLE,Nat.reduceEqDiff]
 by_cases c2:2≤w1.length
 ·have c:(2:Int)≤(w1.length:Int):=by omega
  have c':¬(w1.length:Int)<2:=by omega
  have e1:eA w1 (w1.length-1) w1[w1.length-1]:=⟨List.getElem?_eq_getElem (by omega)⟩
  have e2:eA w1 (w1.length-2) w1[w1.length-2]:=⟨List.getElem?_eq_getElem (by omega)⟩
  have k1:IntKind.wrap .i64 ((w1.length:Int)-1)=((w1.length-1:Nat):Int):=by rw [ik (by omega) (by omega)];omega
  have k2:IntKind.wrap .i64 ((w1.length:Int)-2)=((w1.length-2:Nat):Int):=by rw [ik (by omega) (by omega)];omega
  generalize w1[w1.length-1]=up at e1
  generalize w1[w1.length-2]=gpar at e2
  refine dN (eq_true c) ?_
  refine wP (q:=(m1,f)) (fun m2 hm2=>?_) ?_
  ·simp only at hm2
   try simp (maxSteps:=2000000) only [↓RG,RP,RB,BEq.rfl,Int.reduceEq,Int.reduceLT,Int.reduceLE,Nat.reduceEqDiff]
   refine G.joini0 ?_
   refine dN (an k1 k2) ?_
   refine G.drew ?_
   refine dN (an k1 k2) ?_
   refine⟨?_,?_⟩
   all_goals
    refine G.new fun p1=>?_
    refine gr ?_
    refine G.new fun p2=>?_
    refine gr ?_
    refine po fun _=>?_
    refine gr ?_
    refine G.cond (fun _=>?_) (fun _=>?_)
    ·exact hend m2 (by omega) _ fun F h=>h.sub
    refine gr ?_
    refine eP fun _=>?_
    refine po fun _=>?_
    refine gr ?_
    refine G.cond (fun _=>?_) (fun _=>?_)
    ·refine gr ?_
     refine NC (ws:=w1) c2 (by omega) ?_
     exact hend m2 (by omega) _ fun F h=>h.sub
    ·repeat' (first | (with_reducible exact hj) | (with_reducible exact hj _) | (with_reducible refine eP fun _=>?_) | (with_reducible refine po fun _=>?_) | (with_reducible refine mJ ?_) | (with_reducible refine lN ?_) | (with_reducible refine uC fun _=>?_) | (with_reducible refine se fun _=>?_) | (with_reducible refine bz fun _ _=>?_) | (with_reducible refine bh fun _=>?_) | (with_reducible refine ck fun _=>?_) | (with_reducible refine eH fun _=>?_) | (with_reducible refine bl (by first | assumption | exact fun _=>gH | exact fun _=>iy) ?_) | (with_reducible refine bi ?_) | (with_reducible refine bj fun _=>?_) | (with_reducible refine cj ?_) | (with_reducible refine bp ?_) | (with_reducible refine bm fun _=>?_) | (with_reducible refine bq (by first | assumption | exact fun _=>gH | exact fun _=>iy) ?_) | (with_reducible refine bo fun _ _=>?_) | (with_reducible refine G.cond (fun _=>?_) (fun _=>?_)) | (with_reducible refine G.blk (fun _ hj=>?_) (fun _=>?_)) | (with_reducible refine G.jn0 ?_ (fun _ hj=>?_)) | (with_reducible refine G.drew ?_) | (simp (maxSteps:=2000000) only [↓RG,RP,RB,BEq.rfl,Int.reduceEq,Int.reduceLT,Int.reduceLE,Nat.reduceEqDiff,k2]))
     refine G.take (m:=w1.length-2) (by omega) fun v2 hv2=>?_
     refine gr ?_
     exact(hJ (m2,v2,w1.take (w1.length-2)) ⟨hv2,by simp only [List.length_take];omega,by simp only;omega⟩ (by simp only;omega)).sub
  ·refine dN c' ?_
   refine G.joini0 ?_
   exact hend m1 hm1 _ fun F h=>h
 ·have c:¬(2:Int)≤(w1.length:Int):=by omega
  have c':(w1.length:Int)<2:=by omega
  try simp (maxSteps:=2000000) only [↓RG,RP,RB,BEq.rfl,Int.reduceEq,Int.reduceLT,Int.reduceLE,Nat.reduceEqDiff,c,eq_true c']
  refine eH fun t=>?_
  refine gr ?_
  exact htail m1 hm1 t
theorem P9 {m f:Nat}(hm:m≤10000)(hl:ws.length≤100000)(hv:av vw [vw])(hK:∀vw' ws',av vw' [vw']→G w0 (own tp [ptr b 0,i64 root,vw']::sl eZ vw' ws'::ob DX b (U,(m,f))::M) (K (.tuple #[]))):G w0 (own tp [ptr b 0,i64 root,vw]::sl eZ vw ws::ob DX b (U,(m,f))::M) (CP Tryz.prog aaa [ptr tp 0] K):=by
 refine yJ ?_
 unfold pn
 refine gu ?_
 refine G.loop0 (σ:=Nat×Value×List (Int×Int)) (fun z=>own tp [ptr b 0,i64 root,z.2.1]::sl eZ z.2.1 z.2.2::ob DX b (U,(z.1,f))::M) (fun z=>av z.2.1 [z.2.1]∧z.2.2.length+z.1≤110000∧z.1≤m) (fun z=>z.1) (m,vw,ws) rfl ⟨hv,by simp only;omega,Nat.le_refl _⟩ ?_
 rintro⟨m1,v1,w1⟩ ⟨hv,hw,hm1⟩ J hJ
 simp only at hv hw hm1 hJ ⊢
 have hend:∀m1,m1≤m→∀M',(∀F,G w0 (own tp [ptr b 0,i64 root,v1]::sl eZ v1 w1::ob DX b (U,(m1,f))::M) F→G w0 M' F)→G w0 M' (K (.tuple #[])):=fun m1 h2 M' hM=>hM _ (by
  refine G.sub (L':=ob DX b (U,(m1,f))::own tp [ptr b 0,i64 root,v1]::sl eZ v1 w1::M) ?_
  refine G.dx (q':=(m,f)) (by simp only;omega) (Nat.le_refl _) ?_
  exact(hK v1 w1 hv).sub)
 by_cases c2:0<w1.length
 ·have c:(0:Int)<(w1.length:Int):=by omega
  have e1:eA w1 (w1.length-1) w1[w1.length-1]:=⟨List.getElem?_eq_getElem (by omega)⟩
  have k1:IntKind.wrap .i64 ((w1.length:Int)-1)=((w1.length-1:Nat):Int):=by rw [ik (by omega) (by omega)];omega
  generalize w1[w1.length-1]=up at e1
  refine dN (eq_true c) ?_
  refine wP (q:=(m1,f)) (fun m2 hm2=>?_) ?_
  ·simp only at hm2
   refine gr ?_
   refine G.joini0 ?_
   refine dN k1 ?_
   refine G.new fun p1=>?_
   refine gr ?_
   refine eP fun o=>?_
   refine po fun _=>?_
   refine gr ?_
   refine G.cond (fun _=>?_) (fun _=>?_)
   ·repeat' (first | (with_reducible exact hj) | (with_reducible exact hj _) | (with_reducible refine eP fun _=>?_) | (with_reducible refine po fun _=>?_) | (with_reducible refine mJ ?_) | (with_reducible refine lN ?_) | (with_reducible refine uC fun _=>?_) | (with_reducible refine se fun _=>?_) | (with_reducible refine bz fun _ _=>?_) | (with_reducible refine bh fun _=>?_) | (with_reducible refine ck fun _=>?_) | (with_reducible refine eH fun _=>?_) | (with_reducible refine bl (by first | assumption | exact fun _=>gH | exact fun _=>iy) ?_) | (with_reducible refine bi ?_) | (with_reducible refine bj fun _=>?_) | (with_reducible refine cj ?_) | (with_reducible refine bp ?_) | (with_reducible refine bm fun _=>?_) | (with_reducible refine bq (by first | assumption | exact fun _=>gH | exact fun _=>iy) ?_) | (with_reducible refine bo fun _ _=>?_) | (with_reducible refine G.cond (fun _=>?_) (fun _=>?_)) | (with_reducible refine G.blk (fun _ hj=>?_) (fun _=>?_)) | (with_reducible refine G.jn0 ?_ (fun _ hj=>?_)) | (with_reducible refine G.drew ?_) | (simp (maxSteps:=2000000) only [↓RG,RP,RB,BEq.rfl,Int.reduceEq,Int.reduceLT,Int.reduceLE,Nat.reduceEqDiff,k1]))
    refine Gz (ws:=w1) (n:=w1.length-1) (by omega) (by omega) ?_
    repeat' (first | (with_reducible exact hj) | (with_reducible exact hj _) | (with_reducible refine eP fun _=>?_) | (with_reducible refine po fun _=>?_) | (with_reducible refine mJ ?_) | (with_reducible refine lN ?_) | (with_reducible refine uC fun _=>?_) | (with_reducible refine se fun _=>?_) | (with_reducible refine bz fun _ _=>?_) | (with_reducible refine bh fun _=>?_) | (with_reducible refine ck fun _=>?_) | (with_reducible refine eH fun _=>?_) | (with_reducible refine bl (by first | assumption | exact fun _=>gH | exact fun _=>iy) ?_) | (with_reducible refine bi ?_) | (with_reducible refine bj fun _=>?_) | (with_reducible refine cj ?_) | (with_reducible refine bp ?_) | (with_reducible refine bm fun _=>?_) | (with_reducible refine bq (by first | assumption | exact fun _=>gH | exact fun _=>iy) ?_) | (with_reducible refine bo fun _ _=>?_) | (with_reducible refine G.cond (fun _=>?_) (fun _=>?_)) | (with_reducible refine G.blk (fun _ hj=>?_) (fun _=>?_)) | (with_reducible refine G.jn0 ?_ (fun _ hj=>?_)) | (with_reducible refine G.drew ?_) | (simp (maxSteps:=2000000) only [↓RG,RP,RB,BEq.rfl,Int.reduceEq,Int.reduceLT,Int.reduceLE,Nat.reduceEqDiff,k1]))
    refine G.build eZ [up] rfl (by decide) rfl fun y hy=>?_
    refine gr ?_
    refine G.append (E:=eZ) (xs:=w1.set (w1.length-1) (o,up.2)) (ys:=[up]) (by simp;omega) (by simp [maxLen];omega) fun v2 hv2=>?_
    refine gr ?_
    exact(hJ (m2,v2,w1.set (w1.length-1) (o,up.2)++[up]) ⟨hv2,by simp only [List.length_append,List.length_set,List.length_singleton];omega,by simp only;omega⟩ (by simp only;omega)).sub
   ·refine eP fun _=>?_
    refine po fun _=>?_
    repeat' (first | (with_reducible exact hj) | (with_reducible exact hj _) | (with_reducible refine eP fun _=>?_) | (with_reducible refine po fun _=>?_) | (with_reducible refine mJ ?_) | (with_reducible refine lN ?_) | (with_reducible refine uC fun _=>?_) | (with_reducible refine se fun _=>?_) | (with_reducible refine bz fun _ _=>?_) | (with_reducible refine bh fun _=>?_) | (with_reducible refine ck fun _=>?_) | (with_reducible refine eH fun _=>?_) | (with_reducible refine bl (by first | assumption | exact fun _=>gH | exact fun _=>iy) ?_) | (with_reducible refine bi ?_) | (with_reducible refine bj fun _=>?_) | (with_reducible refine cj ?_) | (with_reducible refine bp ?_) | (with_reducible refine bm fun _=>?_) | (with_reducible refine bq (by first | assumption | exact fun _=>gH | exact fun _=>iy) ?_) | (with_reducible refine bo fun _ _=>?_) | (with_reducible refine G.cond (fun _=>?_) (fun _=>?_)) | (with_reducible refine G.blk (fun _ hj=>?_) (fun _=>?_)) | (with_reducible refine G.jn0 ?_ (fun _ hj=>?_)) | (with_reducible refine G.drew ?_) | (simp (maxSteps:=2000000) only [↓RG,RP,RB,BEq.rfl,Int.reduceEq,Int.reduceLT,Int.reduceLE,Nat.reduceEqDiff,k1]))
    ·refine Vt (ws:=w1) c2 (by omega) ?_
     exact hend m2 (by omega) _ fun F h=>h.sub
    ·exact hend m2 (by omega) _ fun F h=>h.sub
    ·refine G.take (m:=w1.length-1) (by omega) fun v2 hv2=>?_
     refine gr ?_
     exact(hJ (m2,v2,w1.take (w1.length-1)) ⟨hv2,by simp only [List.length_take];omega,by simp only;omega⟩ (by simp only;omega)).sub
  ·refine gr ?_
   exact hend m1 hm1 _ fun F h=>h
 ·have c:¬(0:Int)<(w1.length:Int):=by omega
  refine dN c ?_
  exact hend m1 hm1 _ fun F h=>h
abbrev WQ:={ p:Value×List (Int×Int) // av p.1 [p.1]∧p.2.length≤50000 }
theorem Wx {m:Nat}(hm:m≤10000)(hl:ws.length≤30000)(hv:av vw [vw])(hK:∀vw' ws',av vw' [vw']→G w0 (own tp [ptr b 0,i64 root,vw']::sl eZ vw' ws'::ob DX b (U,(m,1))::M) (K (.tuple #[]))):G w0 (own tp [ptr b 0,i64 root,vw]::sl eZ vw ws::ob DX b (U,(m,0))::M) (CP Tryz.prog aab [ptr tp 0,i64 a] K):=by
 refine EI ?_
 unfold uO
 refine gu ?_
 refine eP fun _=>?_
 refine gr ?_
 refine G.blk (fun _ hj=>?_) (fun t=>?_)
 ·refine gr ?_
  refine eP fun _=>?_
  refine gr ?_
  exact hj _
 ·refine G.jnA (α:=Int×WQ) (fun z=>i64 z.1) (fun z=>own tp [ptr b 0,i64 root,z.2.1.1]::sl eZ z.2.1.1 z.2.1.2::ob DX b (U,(m,0))::M) (fun z=>?_) fun j hj=>?_
  ·obtain⟨at_,⟨⟨v1,w1⟩,hv1,hw1⟩⟩:=z
   simp only at hv1 hw1 ⊢
   refine eP fun _=>?_
   refine gr ?_
   refine G.jn1 (fun n:Int=>i64 n) (fun on=>?_) fun j hj=>?_
   ·refine po fun t2=>?_
    refine gr ?_
    refine Gz (ws:=w1) (n:=w1.length) (Nat.le_refl _) (by omega) ?_
    refine G.jn0A (α:={ p:Value×List (Int×Int) // av p.1 [p.1] }) (fun z=>own tp [ptr b 0,i64 root,z.1.1]::sl eZ z.1.1 z.1.2::ob DX b (U,(m,0))::M) (fun z=>?_) fun j hj=>?_
    ·obtain⟨⟨v2,w2⟩,hv2⟩:=z
     simp only at hv2 ⊢
     refine gr ?_
     refine Hv (q:=(m,0)) (Nat.zero_le _) ?_
     exact hK v2 w2 hv2
    ·have hj0:=hj ⟨(v1,w1),hv1⟩
     refine G.cond (fun _=>?_) (fun _=>?_)
     ·exact hj0
     ·refine po fun t3=>?_
      refine G.joini0 ?_
      refine G.cond (fun _=>?_) (fun _=>?_)
      ·refine lN ?_
       exact hj0
      ·refine P9 hm (by omega) hv1 fun v2 w2 hv2=>?_
       exact hj ⟨(v2,w2),hv2⟩
   ·refine G.cond (fun _=>?_) (fun _=>?_)
    ·refine eP fun _=>?_
     exact hj _
    ·exact hj _
  ·refine G.cond (fun _=>?_) (fun _=>?_)
   ·refine Vu hm (by omega) hv fun x v1 w1 hv1 hw1=>?_
    have hj:=hj (x,⟨(v1,w1),hv1,by simp only;omega⟩)
    repeat' first | (with_reducible first | exact hj | exact hj _ | refine eP fun _=>?_ | refine po fun _=>?_ | refine mJ ?_ | refine lN ?_ | refine uC fun _=>?_ | refine se fun _=>?_ | refine bz fun _ _=>?_ | refine bh fun _=>?_ | refine ck fun _=>?_ | refine eH fun _=>?_ | refine bl (hK:=?_) | refine bi ?_ | refine bj fun _=>?_ | refine cj ?_ | refine bp ?_ | refine bm fun _=>?_ | refine bq (hK:=?_) | refine bo fun _ _=>?_ | refine G.cond (fun _=>?_) fun _=>?_ | refine G.blk (fun _ hj=>?_) fun _=>?_ | refine G.jn0 ?_ fun _ hj=>?_ | refine G.drew ?_) | simp (maxSteps:=2000000) only [↓RG,RP,RB,BEq.rfl,Int.reduceEq,Int.reduceLT,Int.reduceLE,Nat.reduceEqDiff]
   ·exact hj (a,⟨(vw,ws),hv,by simp only;omega⟩)
theorem QK {lo hi:Int}:∀(m:Nat){f:Nat}{K:KV}{v:Value}{xs:List ry}{a:Int},av v [v]→xs.length+m≤100000→(∀m' v' xs',m'≤m→xs'.length+m'≤xs.length+m→av v' [v']→G w0 (own tp [ptr b 0,i64 root,vw]::ob DX b (U,(m',f))::sl ji v' xs'::M) (K v'))→G w0 (own tp [ptr b 0,i64 root,vw]::ob DX b (U,(m,f))::sl ji v xs::M) (CP Tryz.prog X2 [ptr tp 0,i64 a,u64 lo,u64 hi,v] K):=fun m=>by
 induction m using Nat.strongRecOn with
 | _ m ih =>
  intro f K v xs a hv hl hK
  refine yr ?_
  unfold ph
  refine gu ?_
  by_cases h0:a=0
  ·subst h0
   refine gr ?_
   exact hK m v xs (Nat.le_refl _) (Nat.le_refl _) hv
  refine dN h0 ?_
  refine wP (q:=(m,f)) (fun m2 hm2=>?_) ?_
  ·simp only at hm2
   refine gr ?_
   refine bz fun key _=>?_
   refine gr ?_
   refine G.jnA (α:={ z:Nat×Value×List ry // z.1≤m2∧z.2.2.length+z.1≤xs.length+m2∧av z.2.1 [z.2.1] }) (fun z=>z.1.2.1) (fun z=>own tp [ptr b 0,i64 root,vw]::ob DX b (U,(z.1.1,f))::sl ji z.1.2.1 z.1.2.2::M) (fun z=>?_) fun j hj=>?_
   ·obtain⟨⟨m3,v3,w3⟩,g1,g2,g3⟩:=z
    simp only at g1 g2 g3 ⊢
    refine gr ?_
    refine G.jnA (α:={ z:Nat×Value×List ry // z.1≤m2∧z.2.2.length+z.1≤xs.length+m2+1∧av z.2.1 [z.2.1] }) (fun z=>z.1.2.1) (fun z=>own tp [ptr b 0,i64 root,vw]::ob DX b (U,(z.1.1,f))::sl ji z.1.2.1 z.1.2.2::M) (fun z=>?_) fun j2 hj2=>?_
    ·obtain⟨⟨m4,v4,w4⟩,q1,q2,q3⟩:=z
     simp only at q1 q2 q3 ⊢
     refine gr ?_
     refine G.joini1 ?_
     refine G.cond (fun _=>?_) (fun _=>?_)
     ·refine eP fun _=>?_
      refine ih m4 (by omega) q3 (by omega) fun m5 v5 w5 r1 r2 r3=>?_
      exact hK m5 v5 w5 (by omega) (by omega) r3
     ·exact hK m4 v4 w4 (by omega) (by omega) q3
    ·refine G.cond (fun _=>?_) (fun _=>?_)
     ·refine gr ?_
      refine bz fun y _=>?_
      refine gr ?_
      refine G.build ji [⟨key,y⟩] rfl (by decide) rfl fun y2 hy=>?_
      refine G.append (E:=ji) (xs:=w3) (ys:=[⟨key,y⟩]) (by simp;omega) (by simp [maxLen];omega) fun v4 hv4=>?_
      exact(hj2 ⟨(m3,v4,w3++[⟨key,y⟩]),g1,by simp only [List.length_append,List.length_singleton];omega,hv4⟩).sub
     ·exact hj2 ⟨(m3,v3,w3),g1,by simp only;omega,g3⟩
   ·refine G.cond (fun _=>?_) (fun _=>?_)
    ·refine eP fun _=>?_
     refine ih m2 (by omega) hv (by omega) fun m5 v5 w5 q1 q2 q3=>?_
     exact hj ⟨(m5,v5,w5),q1,q2,q3⟩
    ·exact hj ⟨(m2,v,xs),Nat.le_refl _,Nat.le_refl _,hv⟩
  ·refine gr ?_
   exact hK m v xs (Nat.le_refl _) (Nat.le_refl _) hv
end
section
variable {x1 x2 x3 x4:Nat}{s:fh}{lo hi:Int}
theorem JF {m:Nat}(hm:m≤10000)(hk:U→fF k)(hx:U→fF x) [cx [ob DX b (U,(m,0)),own x1 [i64 root],own x2 [u64 k],own x3 [u64 x],ob iF x4 ()] L M](hK:G w0 (ob DX b (U,(m,0))::own x1 [i64 root]::own x2 [u64 k]::own x3 [u64 x]::ob iF x4 ()::M) (K (.tuple #[]))):G w0 L (CP Tryz.prog YD [ptr b 0,ptr x1 0,ptr x2 0,ptr x3 0,ptr x4 0] K):=by
 refine G.pickAll (As:=[ob DX b (U,(m,0)),own x1 [i64 root],own x2 [u64 k],own x3 [u64 x],ob iF x4 ()]) ?_
 simp only [List.cons_append,List.nil_append]
 refine J9 ?_
 unfold Cn
 refine gr ?_
 refine G.box fun tp=>?_
 refine gr ?_
 refine Nh hm fun at_ vw ws hv hw=>?_
 repeat' first | (with_reducible first | exact hj | exact hj _ | refine bz fun _ _=>?_ | refine bh fun _=>?_ | refine ck fun _=>?_ | refine eH fun _=>?_ | refine bl (hK:=?_) | refine bi ?_ | refine bj fun _=>?_ | refine cj ?_ | refine bp ?_ | refine bm fun _=>?_ | refine bq (hK:=?_) | refine bo fun _ _=>?_ | refine G.cond (fun _=>?_) fun _=>?_ | refine G.blk (fun _ hj=>?_) fun _=>?_ | refine G.jn0 ?_ fun _ hj=>?_ | refine G.drew ?_) | simp (maxSteps:=2000000) only [↓RG,RP,RB,BEq.rfl,Int.reduceEq,Int.reduceLT,Int.reduceLE,Nat.reduceEqDiff]
 ·exact hK.sub
 ·exact hK.sub
 ·refine bl (fun _=>by unfold fF;omega) ?_
  repeat' first | (with_reducible first | exact hj | exact hj _ | refine bz fun _ _=>?_ | refine bh fun _=>?_ | refine ck fun _=>?_ | refine eH fun _=>?_ | refine bl (hK:=?_) | refine bi ?_ | refine bj fun _=>?_ | refine cj ?_ | refine bp ?_ | refine bm fun _=>?_ | refine bq (hK:=?_) | refine bo fun _ _=>?_ | refine G.cond (fun _=>?_) fun _=>?_ | refine G.blk (fun _ hj=>?_) fun _=>?_ | refine G.jn0 ?_ fun _ hj=>?_ | refine G.drew ?_) | simp (maxSteps:=2000000) only [↓RG,RP,RB,BEq.rfl,Int.reduceEq,Int.reduceLT,Int.reduceLE,Nat.reduceEqDiff]
  refine Gz (ws:=ws) (n:=ws.length) (Nat.le_refl _) (by omega) ?_
  refine SI (by omega) hv fun v2 w2 hv2=>?_
  repeat' first | (with_reducible first | exact hj | exact hj _ | refine bz fun _ _=>?_ | refine bh fun _=>?_ | refine ck fun _=>?_ | refine eH fun _=>?_ | refine bl (hK:=?_) | refine bi ?_ | refine bj fun _=>?_ | refine cj ?_ | refine bp ?_ | refine bm fun _=>?_ | refine bq (hK:=?_) | refine bo fun _ _=>?_ | refine G.cond (fun _=>?_) fun _=>?_ | refine G.blk (fun _ hj=>?_) fun _=>?_ | refine G.jn0 ?_ fun _ hj=>?_ | refine G.drew ?_) | simp (maxSteps:=2000000) only [↓RG,RP,RB,BEq.rfl,Int.reduceEq,Int.reduceLT,Int.reduceLE,Nat.reduceEqDiff]
  exact hK.sub
theorem Lc {m:Nat}(hm:m≤10000) [cx [ob DX b (U,(m,0)),own x1 [i64 root],own x2 [u64 k],ob zX x3 U,ob iF x4 ()] L M](hK:G w0 (ob DX b (U,(m,0))::own x1 [i64 root]::own x2 [u64 k]::ob zX x3 U::ob iF x4 ()::M) (K (.tuple #[]))):G w0 L (CP Tryz.prog YE [ptr b 0,ptr x1 0,ptr x2 0,ptr x3 0,ptr x4 0] K):=by
 refine G.pickAll (As:=[ob DX b (U,(m,0)),own x1 [i64 root],own x2 [u64 k],ob zX x3 U,ob iF x4 ()]) ?_
 simp only [List.cons_append,List.nil_append]
 refine Kh ?_
 unfold Cc
 refine gr ?_
 refine G.box fun tp=>?_
 refine gr ?_
 refine Nh hm fun at_ vw ws hv hw=>?_
 repeat' first | (with_reducible first | exact hj | exact hj _ | refine bz fun _ _=>?_ | refine bh fun _=>?_ | refine ck fun _=>?_ | refine eH fun _=>?_ | refine bl (hK:=?_) | refine bi ?_ | refine bj fun _=>?_ | refine cj ?_ | refine bp ?_ | refine bm fun _=>?_ | refine bq (hK:=?_) | refine bo fun _ _=>?_ | refine G.cond (fun _=>?_) fun _=>?_ | refine G.blk (fun _ hj=>?_) fun _=>?_ | refine G.jn0 ?_ fun _ hj=>?_ | refine G.drew ?_) | simp (maxSteps:=2000000) only [↓RG,RP,RB,BEq.rfl,Int.reduceEq,Int.reduceLT,Int.reduceLE,Nat.reduceEqDiff]
 exact hK.sub
theorem JV {m:Nat}(hm:m≤10000) [cx [ob DX b (U,(m,0)),own x1 [i64 root],own x2 [u64 k],ob iF x3 ()] L M](hK:G w0 (ob DX b (U,(m,1))::own x1 [i64 root]::own x2 [u64 k]::ob iF x3 ()::M) (K (.tuple #[]))):G w0 L (CP Tryz.prog YF [ptr b 0,ptr x1 0,ptr x2 0,ptr x3 0] K):=by
 refine G.pickAll (As:=[ob DX b (U,(m,0)),own x1 [i64 root],own x2 [u64 k],ob iF x3 ()]) ?_
 simp only [List.cons_append,List.nil_append]
 refine J7 ?_
 unfold Bh
 refine gu ?_
 refine gr ?_
 refine G.box fun tp=>?_
 refine gr ?_
 refine Nh hm fun at_ vw ws hv hw=>?_
 refine gr ?_
 refine G.blk (fun _ hj=>?_) (fun t=>?_)
 ·repeat' first | (with_reducible first | exact hj | exact hj _ | refine bz fun _ _=>?_ | refine bh fun _=>?_ | refine ck fun _=>?_ | refine eH fun _=>?_ | refine bl (hK:=?_) | refine bi ?_ | refine bj fun _=>?_ | refine cj ?_ | refine bp ?_ | refine bm fun _=>?_ | refine bq (hK:=?_) | refine bo fun _ _=>?_ | refine G.cond (fun _=>?_) fun _=>?_ | refine G.blk (fun _ hj=>?_) fun _=>?_ | refine G.jn0 ?_ fun _ hj=>?_ | refine G.drew ?_) | simp (maxSteps:=2000000) only [↓RG,RP,RB,BEq.rfl,Int.reduceEq,Int.reduceLT,Int.reduceLE,Nat.reduceEqDiff]
 refine G.joini0 ?_
 refine G.cond (fun _=>?_) (fun _=>?_)
 ·refine Wx hm (by omega) hv fun v2 w2 hv2=>?_
  repeat' first | (with_reducible first | exact hj | exact hj _ | refine bz fun _ _=>?_ | refine bh fun _=>?_ | refine ck fun _=>?_ | refine eH fun _=>?_ | refine bl (hK:=?_) | refine bi ?_ | refine bj fun _=>?_ | refine cj ?_ | refine bp ?_ | refine bm fun _=>?_ | refine bq (hK:=?_) | refine bo fun _ _=>?_ | refine G.cond (fun _=>?_) fun _=>?_ | refine G.blk (fun _ hj=>?_) fun _=>?_ | refine G.jn0 ?_ fun _ hj=>?_ | refine G.drew ?_) | simp (maxSteps:=2000000) only [↓RG,RP,RB,BEq.rfl,Int.reduceEq,Int.reduceLT,Int.reduceLE,Nat.reduceEqDiff]
  exact hK.sub
 ·refine G.sub (L':=ob DX b (U,(m,0))::own x1 [i64 root]::own x2 [u64 k]::ob iF x3 ()::M) ?_
  exact G.dx (q':=(m,1)) (by simp) (by simp) hK
def ID (p n:Nat):ax:=jX fun v=>jX fun xs:List ry=>bu (fS (av v [v]∧xs.length≤n)) (bu (own p [v]) (sl ji v xs))
theorem Dy {p n:Nat}:G w0 (ob ID p n::M) F=∀v (xs:List ry),(av v [v]∧xs.length≤n)→G w0 (own p [v]::sl ji v xs::M) F:=by rw [dO,ID];simp only [lT,dP,eS]
theorem O5 (p n:Nat)(v:Value)(xs:List ry)(h:av v [v]∧xs.length≤n) [cx [own p [v],sl ji v xs] L M](H:G w0 (ob ID p n::M) F):G w0 L F:=G.pickAll (As:=[own p [v],sl ji v xs]) (by rw [Dy] at H;exact H v xs h)
theorem F4 {m:Nat}(hm:m≤10000) [cx [ob DX b (U,(m,0)),own x1 [i64 root],own x2 [u64 lo],own x3 [u64 hi],ob ID x4 10000] L M](hK:G w0 (ob DX b (U,(m,0))::own x1 [i64 root]::own x2 [u64 lo]::own x3 [u64 hi]::ob ID x4 10000::M) (K (.tuple #[]))):G w0 L (CP Tryz.prog YG [ptr b 0,ptr x1 0,ptr x2 0,ptr x3 0,ptr x4 0] K):=by
 refine G.pickAll (As:=[ob DX b (U,(m,0)),own x1 [i64 root],own x2 [u64 lo],own x3 [u64 hi],ob ID x4 10000]) ?_
 simp only [List.cons_append,List.nil_append]
 refine Hz ?_
 unfold wg
 refine gr ?_
 refine G.box fun tp=>?_
 refine G.drew ?_
 refine gr ?_
 refine uC fun at_=>?_
 refine gr ?_
 refine G.nilsl ji ?_
 refine G.sub (L':=own tp [ptr b 0,i64 root,.slice none 0 0]::ob DX b (U,(m,0))::sl ji (.slice none 0 0) []::own x1 [i64 root]::own x2 [u64 lo]::own x3 [u64 hi]::ob ID x4 10000::M) ?_
 refine QK m bf (by simp;omega) fun m' v' xs' h1 h2 h3=>?_
 refine G.take1 ID x4 ?_
 rw [Dy]
 intro v0 xs0 _
 refine gr ?_
 refine O5 x4 10000 v' xs' ⟨h3,by simp at h2;omega⟩ ?_
 refine G.sub (L':=ob DX b (U,(m',0))::own x1 [i64 root]::own x2 [u64 lo]::own x3 [u64 hi]::ob ID x4 10000::M) ?_
 exact G.dx (q':=(m,0)) h1 (Nat.le_refl _) hK
theorem N5 (hs:s.l.r.f.length≤100000)(hg:U→Vg s)(hk:U→fF k)(hx:U→fF x)[i:al L ba b s C](hK:∀t x e,LC U s t e 1→G w0 (C (ob ba b t)) (K (.tuple #[.bool x,i64 e]))):G w0 L (CP Tryz.prog aac [ptr b 0,i64 root,u64 k,u64 x] K):=by
 refine N6 ?_
 unfold G8
 refine G.box fun x1=>?_
 refine G.box fun x2=>?_
 refine G.box fun x3=>?_
 refine G.new fun x4=>?_
 refine gr ?_
 refine ni x4 false ?_
 refine EC (b:=b) (s:=s) 1 (by decide) hs hg (fun c K' h=>?_) (fun t e h=>?_)
 ·show G w0 _ (CP Tryz.prog YD [ptr c 0,ptr x1 0,ptr x2 0,ptr x3 0,ptr x4 0] K')
  refine JF (U:=U) (m:=2048) (root:=root) (by decide) hk hx ?_
  refine G.dx (q':=(2048,1)) (by simp) (by simp) ?_
  exact h.sub
 ·try simp (maxSteps:=2000000) only [lh,pO,jw,js,pu,iO]
  repeat' first | (with_reducible first | exact hj | exact hj _ | refine bz fun _ _=>?_ | refine bh fun _=>?_ | refine ck fun _=>?_ | refine eH fun _=>?_ | refine bl (hK:=?_) | refine bi ?_ | refine bj fun _=>?_ | refine cj ?_ | refine bp ?_ | refine bm fun _=>?_ | refine bq (hK:=?_) | refine bo fun _ _=>?_ | refine G.cond (fun _=>?_) fun _=>?_ | refine G.blk (fun _ hj=>?_) fun _=>?_ | refine G.jn0 ?_ fun _ hj=>?_ | refine G.drew ?_) | simp (maxSteps:=2000000) only [↓RG,RP,RB,BEq.rfl,Int.reduceEq,Int.reduceLT,Int.reduceLE,Nat.reduceEqDiff]
  all_goals exact(hK t _ e h).sub
theorem Nt (hs:s.l.r.f.length≤100000)(hg:U→Vg s)[i:al L ba b s C](hK:∀t x e,LC U s t e 1→G w0 (C (ob ba b t)) (K (.tuple #[.bool x,i64 e]))):G w0 L (CP Tryz.prog aad [ptr b 0,i64 root,u64 k] K):=by
 refine Og ?_
 unfold Fq
 refine G.box fun x1=>?_
 refine G.box fun x2=>?_
 refine G.new fun x3=>?_
 refine gr ?_
 refine ni x3 false ?_
 refine EC (b:=b) (s:=s) 1 (by decide) hs hg (fun c K' h=>?_) (fun t e h=>?_)
 ·show G w0 _ (CP Tryz.prog YF [ptr c 0,ptr x1 0,ptr x2 0,ptr x3 0] K')
  refine JV (U:=U) (m:=2048) (root:=root) (k:=k) (by decide) ?_
  exact h.sub
 ·try simp (maxSteps:=2000000) only [lh,pO,jw,js,pu,iO]
  repeat' first | (with_reducible first | exact hj | exact hj _ | refine bz fun _ _=>?_ | refine bh fun _=>?_ | refine ck fun _=>?_ | refine eH fun _=>?_ | refine bl (hK:=?_) | refine bi ?_ | refine bj fun _=>?_ | refine cj ?_ | refine bp ?_ | refine bm fun _=>?_ | refine bq (hK:=?_) | refine bo fun _ _=>?_ | refine G.cond (fun _=>?_) fun _=>?_ | refine G.blk (fun _ hj=>?_) fun _=>?_ | refine G.jn0 ?_ fun _ hj=>?_ | refine G.drew ?_) | simp (maxSteps:=2000000) only [↓RG,RP,RB,BEq.rfl,Int.reduceEq,Int.reduceLT,Int.reduceLE,Nat.reduceEqDiff]
  all_goals exact(hK t _ e h).sub
theorem Nx (hs:s.l.r.f.length≤100000)(hg:U→Vg s)[i:al L ba b s C](hK:∀t n x e,LC U s t e 1→(U→fF n)→G w0 (C (ob ba b t)) (K (.tuple #[u64 n,.bool x,i64 e]))):G w0 L (CP Tryz.prog aae [ptr b 0,i64 root,u64 k] K):=by
 refine Oi ?_
 unfold Hu
 refine G.box fun x1=>?_
 refine G.box fun x2=>?_
 refine G.new fun x3=>?_
 refine G.new fun x4=>?_
 refine gr ?_
 refine Kq U x3 0 (fun _=>iy) ?_
 refine ni x4 false ?_
 refine EC (b:=b) (s:=s) 1 (by decide) hs hg (fun c K' h=>?_) (fun t e h=>?_)
 ·show G w0 _ (CP Tryz.prog YE [ptr c 0,ptr x1 0,ptr x2 0,ptr x3 0,ptr x4 0] K')
  refine Lc (U:=U) (m:=2048) (root:=root) (k:=k) (by decide) ?_
  refine G.dx (q':=(2048,1)) (by simp) (by simp) ?_
  exact h.sub
 ·by_cases he:e=0
  ·subst he
   refine gr ?_
   repeat' first | (with_reducible first | exact hj | exact hj _ | refine bz fun _ _=>?_ | refine bh fun _=>?_ | refine ck fun _=>?_ | refine eH fun _=>?_ | refine bl (hK:=?_) | refine bi ?_ | refine bj fun _=>?_ | refine cj ?_ | refine bp ?_ | refine bm fun _=>?_ | refine bq (hK:=?_) | refine bo fun _ _=>?_ | refine G.cond (fun _=>?_) fun _=>?_ | refine G.blk (fun _ hj=>?_) fun _=>?_ | refine G.jn0 ?_ fun _ hj=>?_ | refine G.drew ?_) | simp (maxSteps:=2000000) only [↓RG,RP,RB,BEq.rfl,Int.reduceEq,Int.reduceLT,Int.reduceLE,Nat.reduceEqDiff]
   exact(hK t _ _ 0 h (by assumption)).sub
  ·refine dN he ?_
   exact(hK t 0 _ e h (fun _=>iy)).sub
theorem JZ (hs:s.l.r.f.length≤100000)(hg:U→Vg s)[i:al L ba b s C](hK:∀t v (xs:List ry) e,LC U s t e 1→xs.length≤10000→G w0 (sl ji v xs::C (ob ba b t)) (K (.tuple #[v,i64 e]))):G w0 L (CP Tryz.prog aaf [ptr b 0,i64 root,u64 lo,u64 hi] K):=by
 refine Ke ?_
 unfold BZ
 refine G.box fun x1=>?_
 refine G.box fun x2=>?_
 refine G.box fun x3=>?_
 refine G.new fun x4=>?_
 refine gr ?_
 refine G.nilsl ji ?_
 refine O5 x4 10000 (.slice none 0 0) [] ⟨bf,by simp⟩ ?_
 refine EC (b:=b) (s:=s) 1 (by decide) hs hg (fun c K' h=>?_) (fun t e h=>?_)
 ·show G w0 _ (CP Tryz.prog YG [ptr c 0,ptr x1 0,ptr x2 0,ptr x3 0,ptr x4 0] K')
  refine F4 (U:=U) (m:=2048) (root:=root) (lo:=lo) (hi:=hi) (by decide) ?_
  refine G.dx (q':=(2048,1)) (by simp) (by simp) ?_
  exact h.sub
 ·by_cases he:e=0
  ·subst he
   refine gr ?_
   refine G.take1 ID x4 ?_
   rw [Dy]
   intro v xs hv
   refine gr ?_
   exact(hK t v xs 0 h hv.2).sub
  ·refine dN he ?_
   refine G.nilsl ji ?_
   exact(hK t (.slice none 0 0) [] e h (by simp)).sub
end
def Tv (a b:Int):Int:=IntKind.wrap .i64 (BitVec.ofInt IntKind.i64.bits a &&& BitVec.ofInt IntKind.i64.bits b).toNat
def KC (k wide:Int):Int:=Tv (iP ((wU (k*11400714819323198485)).fdiv (2 ^ min (60:Int).toNat IntKind.u64.bits))) (iP (wide-1))
theorem TJ {a w:Int}(h:0≤w)(h2:w≤1000000):0≤Tv a w∧Tv a w≤w:=by
 unfold Tv
 have e:(BitVec.ofInt IntKind.i64.bits w).toNat=w.toNat:=by
  rw [BitVec.toNat_ofInt]
  show (w % (2 ^ 64:Nat)).toNat=_
  omega
 have h3:(BitVec.ofInt IntKind.i64.bits a &&& BitVec.ofInt IntKind.i64.bits w).toNat≤w.toNat:=by
  rw [BitVec.toNat_and,e];exact Nat.and_le_right
 rw [ik (by omega) (by omega)]
 omega
theorem Qq {k w:Int}(h:1≤w)(h2:w≤1000):0≤KC k w∧KC k w<w:=by
 unfold KC
 have e:iP (w-1)=w-1:=ik (by omega) (by omega)
 rw [e]
 have:=TJ (a:=iP ((wU (k*11400714819323198485)).fdiv (2 ^ min (60:Int).toNat IntKind.u64.bits))) (w:=w-1) (by omega) (by omega)
 omega
section
variable {x1 x2 x3 x4:Nat}{s:fh}{head wide chains keys:Int}{C1:ax→List ax}
theorem O0 (hK:G w0 L (K (i64 (KC k wide)))):G w0 L (CP Tryz.prog YH [u64 k,i64 wide] K):=by
 refine HY ?_
 unfold zw
 refine gr ?_
 exact hK
theorem KP [i:al L DX b (U,q) C](hK:∀tp head wide chains keys,0≤wide∧wide≤16→(U→fF keys)→G w0 (own tp [ptr b 0,i64 head,i64 wide,i64 chains,u64 keys]::L) (K (ptr tp 0))):G w0 L (CP Tryz.prog X3 [ptr b 0,i64 root] K):=by
 refine Jz ?_
 unfold Be
 refine gu ?_
 refine bh fun h=>?_
 refine gr ?_
 refine G.box fun tp=>?_
 by_cases h0:h=0
 ·subst h0
  refine gr ?_
  exact hK tp 0 0 0 0 (by decide) (fun _=>iy)
 refine dN h0 ?_
 refine bz fun keys hkeys=>?_
 refine gr ?_
 refine bz fun n hn=>?_
 refine gr ?_
 refine G.jnA (α:={ n:Int // 2≤n∧n≤16 }) (fun z=>u64 z.1) (fun _=>own tp [ptr b 0,i64 h,i64 0,i64 0,u64 keys]::L) (fun z=>?_) fun j hj=>?_
 ·obtain⟨z,z1,z2⟩:=z
  simp only
  have ez:IntKind.wrap .i64 z=z:=ik (by omega) (by omega)
  refine dN ez ?_
  refine bh fun y=>?_
  refine gr ?_
  exact hK tp h z y keys (by omega) hkeys
 ·refine G.cond (fun _=>?_) (fun hf=>?_)
  ·refine cj ?_
   exact hj ⟨2,by decide⟩
  ·simp only [Bool.or_eq_false_iff,decide_eq_false_iff_not] at hf
   exact hj ⟨n,by omega⟩
theorem Vp [i:al L DX b (U,q) C](hK:∀tp head chains,G w0 (own tp [ptr b 0,i64 head,i64 2,i64 chains,u64 0]::L) (K (ptr tp 0))):G w0 L (CP Tryz.prog aag [ptr b 0,i64 root] K):=by
 refine Kl ?_
 unfold A7
 refine bj fun h=>?_
 refine bj fun c=>?_
 refine gr ?_
 refine G.box fun tp=>?_
 refine G.loop1 (σ:=Nat) (fun k=>i64 k) (fun k=>own tp [ptr b 0,i64 h,i64 2,i64 c,u64 0]::L) (fun k=>k≤2) (fun k=>2-k) 0 rfl rfl (by omega) ?_
 intro k hk J hJ
 refine gr ?_
 refine G.cond (fun g=>?_) (fun g=>?_)
 ·have hk2:k<2:=by simp at g;omega
  refine gr ?_
  refine bi ?_
  refine gr ?_
  rw [dt (by omega)]
  exact hJ (k+1) (by omega) (by omega)
 ·repeat' first | (with_reducible first | exact hj | exact hj _ | refine bz fun _ _=>?_ | refine bh fun _=>?_ | refine ck fun _=>?_ | refine eH fun _=>?_ | refine bl (hK:=?_) | refine bi ?_ | refine bj fun _=>?_ | refine cj ?_ | refine bp ?_ | refine bm fun _=>?_ | refine bq (hK:=?_) | refine bo fun _ _=>?_ | refine G.cond (fun _=>?_) fun _=>?_ | refine G.blk (fun _ hj=>?_) fun _=>?_ | refine G.jn0 ?_ fun _ hj=>?_ | refine G.drew ?_) | simp (maxSteps:=2000000) only [↓RG,RP,RB,BEq.rfl,Int.reduceEq,Int.reduceLT,Int.reduceLE,Nat.reduceEqDiff]
  exact hK tp h c
theorem Fa {m f:Nat} [cx [own tp [ptr b 0,i64 head,i64 wide,i64 chains,u64 keys],ob DX b (U,(m,f))] L M](hK:∀x y,G w0 (own tp [ptr b 0,i64 head,i64 wide,i64 chains,u64 keys]::ob DX b (U,(m,f))::M) (K (.tuple #[i64 x,i64 y]))):G w0 L (CP Tryz.prog XE [ptr tp 0,u64 k] K):=by
 refine G.pickAll (As:=[own tp [ptr b 0,i64 head,i64 wide,i64 chains,u64 keys],ob DX b (U,(m,f))]) ?_
 simp only [List.cons_append,List.nil_append]
 refine AW ?_
 unfold p9
 refine gu ?_
 refine G.drew ?_
 refine gr ?_
 refine O0 ?_
 refine gr ?_
 refine G.loop1 (σ:=Nat×Int) (fun z=>i64 z.2) (fun z=>own tp [ptr b 0,i64 head,i64 wide,i64 chains,u64 keys]::ob DX b (U,(z.1,f))::M) (fun z=>z.1≤m) (fun z=>z.1) (m,_) rfl rfl (Nat.le_refl _) ?_
 rintro⟨m1,link⟩ hm1 J hJ
 simp only at hm1 hJ ⊢
 have hend:∀m1,m1≤m→∀x y,G w0 (own tp [ptr b 0,i64 head,i64 wide,i64 chains,u64 keys]::ob DX b (U,(m1,f))::M) (K (.tuple #[i64 x,i64 y])):=fun m1 h x y=>by
  rw [eN]
  refine G.dx (q':=(m,f)) h (Nat.le_refl _) ?_
  rw [eN]
  exact hK x y
 refine gr ?_
 refine wP (q:=(m1,f)) (fun m2 hm2=>?_) ?_
 ·simp only at hm2
  refine gr ?_
  repeat' first | (with_reducible first | exact hj | exact hj _ | refine bz fun _ _=>?_ | refine bh fun _=>?_ | refine ck fun _=>?_ | refine eH fun _=>?_ | refine bl (hK:=?_) | refine bi ?_ | refine bj fun _=>?_ | refine cj ?_ | refine bp ?_ | refine bm fun _=>?_ | refine bq (hK:=?_) | refine bo fun _ _=>?_ | refine G.cond (fun _=>?_) fun _=>?_ | refine G.blk (fun _ hj=>?_) fun _=>?_ | refine G.jn0 ?_ fun _ hj=>?_ | refine G.drew ?_) | simp (maxSteps:=2000000) only [↓RG,RP,RB,BEq.rfl,Int.reduceEq,Int.reduceLT,Int.reduceLE,Nat.reduceEqDiff]
  all_goals first | exact hend m2 (by omega) _ _ | exact hJ (m2,_) (by simp only;omega) (by simp only;omega)
 ·refine gr ?_
  exact hend m1 hm1 _ _
theorem U1 {m f:Nat}{g:Value}(hw:0≤wide∧wide≤1000)(hcb:1≤wide→∀(m':Nat)(a:Int)(K':KV),m'≤m→G w0 (own tp [ptr b 0,i64 head,i64 wide,i64 chains,u64 keys]::ob DX b (U,(m',f))::M) (K' (.tuple #[]))→G w0 (own tp [ptr b 0,i64 head,i64 wide,i64 chains,u64 keys]::ob DX b (U,(m',f))::M) (rQ Tryz.prog g [i64 a] K'))(hK:G w0 (own tp [ptr b 0,i64 head,i64 wide,i64 chains,u64 keys]::ob DX b (U,(m,f))::M) (K (.tuple #[]))) :
  G w0 (own tp [ptr b 0,i64 head,i64 wide,i64 chains,u64 keys]::ob DX b (U,(m,f))::M) (CP Tryz.prog aah [ptr tp 0,g] K):=by
 refine Ar ?_
 unfold qB
 refine gu ?_
 refine gr ?_
 refine G.loop1 (σ:=Nat×Nat) (fun z=>i64 z.1) (fun z=>own tp [ptr b 0,i64 head,i64 wide,i64 chains,u64 keys]::ob DX b (U,(z.2,f))::M) (fun z=>z.1≤wide.toNat∧z.2≤m) (fun z=>wide.toNat-z.1) (0,m) rfl rfl ⟨Nat.zero_le _,Nat.le_refl _⟩ ?_
 rintro⟨i,m1⟩ ⟨hi,hm1⟩ J hJ
 simp only at hi hm1 hJ ⊢
 refine gr ?_
 refine G.cond (fun h=>?_) (fun h=>?_)
 ·have hi2:i<wide.toNat:=by simp at h;omega
  refine G.drew ?_
  refine gr ?_
  refine bh fun a0=>?_
  refine gr ?_
  refine G.loop1 (σ:=Int×Nat) (fun z=>i64 z.1) (fun z=>own tp [ptr b 0,i64 head,i64 wide,i64 chains,u64 keys]::ob DX b (U,(z.2,f))::M) (fun z=>z.2≤m) (fun z=>z.2) (a0,m1) rfl rfl hm1 ?_
  rintro⟨a1,m2⟩ hm2 J2 hJ2
  simp only at hm2 hJ2 ⊢
  have hnext:∀m3,m3≤m→G w0 (own tp [ptr b 0,i64 head,i64 wide,i64 chains,u64 keys]::ob DX b (U,(m3,f))::M) (J (i64 (IntKind.wrap .i64 ((i:Int)+1)))):=fun m3 h3=>by
   rw [dt (by omega)]
   exact hJ (i+1,m3) ⟨by simp only;omega,h3⟩ (by simp only;omega)
  by_cases ha:a1=0
  ·subst ha
   refine gr ?_
   exact hnext m2 hm2
  ·refine dN ha ?_
   refine wP (q:=(m2,f)) (fun m3 hm3=>?_) ?_
   ·simp only at hm3
    refine gr ?_
    refine bh fun a2=>?_
    refine hcb (by omega) m3 a1 _ (by omega) ?_
    exact hJ2 (a2,m3) (by simp only;omega) (by simp only;omega)
   ·refine gr ?_
    exact hnext m2 hm2
 ·refine gr ?_
  rw [eN]
  refine G.dx (q':=(m,f)) hm1 (Nat.le_refl _) ?_
  rw [eN]
  exact hK
def M5 (p n:Nat):ax:=jX fun v=>jX fun xs:List Int=>bu (fS (av v [v]∧xs.length=n)) (bu (own p [v]) (sl cd v xs))
theorem CU {p n:Nat}:G w0 (ob M5 p n::M) F=∀v (xs:List Int),(av v [v]∧xs.length=n)→G w0 (own p [v]::sl cd v xs::M) F:=by rw [dO,M5];simp only [lT,dP,eS]
theorem Pw (p n:Nat)(v:Value)(xs:List Int)(h:av v [v]∧xs.length=n) [cx [own p [v],sl cd v xs] L M](H:G w0 (ob M5 p n::M) F):G w0 L F:=G.pickAll (As:=[own p [v],sl cd v xs]) (by rw [CU] at H;exact H v xs h)
theorem Sb {m f W:Nat}(h1:1≤W)(h2:W≤1000)(hK:G w0 (own tp [ptr b 0,i64 head,i64 wide,i64 chains,u64 keys]::ob DX b (U,(m,f))::own x1 [ptr tp 0]::own x2 [i64 W]::ob M5 x3 W::M) (K (.tuple #[]))) :
  G w0 (own tp [ptr b 0,i64 head,i64 wide,i64 chains,u64 keys]::ob DX b (U,(m,f))::own x1 [ptr tp 0]::own x2 [i64 W]::ob M5 x3 W::M) (CP Tryz.prog YI [i64 a,ptr x1 0,ptr x2 0,ptr x3 0] K):=by
 refine wq ?_
 unfold oy
 refine gu ?_
 refine G.drew ?_
 refine gr ?_
 refine bz fun y _=>?_
 refine gr ?_
 refine O0 ?_
 obtain⟨n1,n2⟩:=Qq (k:=y) (w:=(W:Int)) (by omega) (by omega)
 obtain⟨n,hn⟩:=Int.eq_ofNat_of_zero_le n1
 rw [hn] at n2 ⊢
 refine G.take1 M5 x3 ?_
 rw [CU]
 intro v xs ⟨hv,hl⟩
 have e:eA xs n xs[n]:=⟨List.getElem?_eq_getElem (by omega)⟩
 refine G.drew ?_
 refine gr ?_
 refine bi ?_
 refine gr ?_
 refine Pw x3 W v (xs.set n a) ⟨hv,by rw [List.length_set];exact hl⟩ ?_
 exact hK.sub
theorem Vj {m:Nat}(hw:0≤wide∧wide≤16) [cx [own tp [ptr b 0,i64 head,i64 wide,i64 chains,u64 keys],ob DX b (U,(m,0))] L M](hK:∀wide' chains',G w0 (own tp [ptr b 0,i64 head,i64 wide',i64 chains',u64 keys]::ob DX b (U,(m,1))::M) (K (.tuple #[]))):G w0 L (CP Tryz.prog aai [ptr tp 0] K):=by
 refine G.pickAll (As:=[own tp [ptr b 0,i64 head,i64 wide,i64 chains,u64 keys],ob DX b (U,(m,0))]) ?_
 simp only [List.cons_append,List.nil_append]
 refine AR ?_
 unfold qq
 refine gu ?_
 obtain⟨W,hW⟩:∃W:Nat,2*wide=W:=⟨(2*wide).toNat,by omega⟩
 have ew:IntKind.wrap .i64 (2*wide)=(W:Int):=by rw [ik (by omega) (by omega)];exact hW
 refine G.box fun y1=>?_
 refine dN ew ?_
 refine G.new fun y2=>?_
 refine gr ?_
 refine G.make (n:=W) cd 0 rfl (by simp [maxLen];omega) (by omega) fun v hv=>?_
 refine G.new fun y3=>?_
 refine gr ?_
 refine G.drew ?_
 refine gr ?_
 refine bj fun to=>?_
 refine gr ?_
 refine Pw y3 W v (List.replicate W 0) ⟨hv,by simp⟩ ?_
 refine G.sub (L':=own tp [ptr b 0,i64 head,i64 wide,i64 chains,u64 keys]::ob DX b (U,(m,0))::own y1 [ptr tp 0]::own y2 [i64 W]::ob M5 y3 W::M) ?_
 refine U1 ⟨hw.1,by omega⟩ (fun h1 m' a K' hm' hK'=>?_) ?_
 ·show G w0 _ (CP Tryz.prog YI [i64 a,ptr y1 0,ptr y2 0,ptr y3 0] K')
  exact Sb (by omega) (by omega) hK'
 refine G.take1 M5 y3 ?_
 rw [CU]
 intro v2 xs ⟨hv2,hl⟩
 refine gr ?_
 refine G.sub (L':=own tp [ptr b 0,i64 head,i64 wide,i64 chains,u64 keys]::ob DX b (U,(m,0))::own y1 [ptr tp 0]::own y2 [i64 W]::own y3 [v2]::sl cd v2 xs::M) ?_
 refine G.loop1 (σ:=Nat) (fun z=>i64 z) (fun z=>own tp [ptr b 0,i64 head,i64 wide,i64 chains,u64 keys]::ob DX b (U,(m,0))::own y1 [ptr tp 0]::own y2 [i64 W]::own y3 [v2]::sl cd v2 xs::M) (fun z=>z≤xs.length) (fun z=>xs.length-z) 0 rfl rfl (Nat.zero_le _) ?_
 intro z hz J hJ
 refine gr ?_
 refine G.cond (fun h=>?_) (fun h=>?_)
 ·have hz2:z<xs.length:=by simpa using h
  have e:=cW hz2
  refine gr ?_
  refine bi ?_
  refine gr ?_
  rw [dt (by omega)]
  exact hJ (z+1) hz2 (by omega)
 ·refine G.drew ?_
  refine gr ?_
  refine Hv (q:=(m,0)) (Nat.zero_le _) ?_
  repeat' first | (with_reducible first | exact hj | exact hj _ | refine bz fun _ _=>?_ | refine bh fun _=>?_ | refine ck fun _=>?_ | refine eH fun _=>?_ | refine bl (hK:=?_) | refine bi ?_ | refine bj fun _=>?_ | refine cj ?_ | refine bp ?_ | refine bm fun _=>?_ | refine bq (hK:=?_) | refine bo fun _ _=>?_ | refine G.cond (fun _=>?_) fun _=>?_ | refine G.blk (fun _ hj=>?_) fun _=>?_ | refine G.jn0 ?_ fun _ hj=>?_ | refine G.drew ?_) | simp (maxSteps:=2000000) only [↓RG,RP,RB,BEq.rfl,Int.reduceEq,Int.reduceLT,Int.reduceLE,Nat.reduceEqDiff]
  exact(hK W to).sub
theorem Iu {m:Nat}(hk:U→fF k)(hx:U→fF x) [cx [ob DX b (U,(m,0)),own x1 [i64 root],own x2 [u64 k],own x3 [u64 x],ob iF x4 ()] L M](hK:G w0 (ob DX b (U,(m,1))::own x1 [i64 root]::own x2 [u64 k]::own x3 [u64 x]::ob iF x4 ()::M) (K (.tuple #[]))):G w0 L (CP Tryz.prog YJ [ptr b 0,ptr x1 0,ptr x2 0,ptr x3 0,ptr x4 0] K):=by
 refine G.pickAll (As:=[ob DX b (U,(m,0)),own x1 [i64 root],own x2 [u64 k],own x3 [u64 x],ob iF x4 ()]) ?_
 simp only [List.cons_append,List.nil_append]
 refine HI ?_
 unfold zj
 refine gu ?_
 have hend:G w0 (ob DX b (U,(m,0))::own x1 [i64 root]::own x2 [u64 k]::own x3 [u64 x]::ob iF x4 ()::M) (K (.tuple #[])):=G.dx (q':=(m,1)) (by simp) (by simp) hK
 refine gr ?_
 refine KP fun tp0 head0 wide0 chains0 keys0 hw0 hkeys0=>?_
 repeat' first | (with_reducible first | exact hj | exact hj _ | refine bz fun _ _=>?_ | refine bh fun _=>?_ | refine ck fun _=>?_ | refine eH fun _=>?_ | refine bl (hK:=?_) | refine bi ?_ | refine bj fun _=>?_ | refine cj ?_ | refine bp ?_ | refine bm fun _=>?_ | refine bq (hK:=?_) | refine bo fun _ _=>?_ | refine G.cond (fun _=>?_) fun _=>?_ | refine G.blk (fun _ hj=>?_) fun _=>?_ | refine G.jn0 ?_ fun _ hj=>?_ | refine G.drew ?_) | simp (maxSteps:=2000000) only [↓RG,RP,RB,BEq.rfl,Int.reduceEq,Int.reduceLT,Int.reduceLE,Nat.reduceEqDiff]
 refine G.jnA (α:={ z:Nat×Int×Int×Int×Int // (0≤z.2.2.1∧z.2.2.1≤16)∧(U→fF z.2.2.2.2) }) (fun z=>ptr z.1.1 0) (fun z=>own z.1.1 [ptr b 0,i64 z.1.2.1,i64 z.1.2.2.1,i64 z.1.2.2.2.1,u64 z.1.2.2.2.2]::ob DX b (U,(m,0))::own x1 [i64 root]::own x2 [u64 k]::own x3 [u64 x]::ob iF x4 ()::M) ?_ (fun j hj=>?_)
 ·rintro⟨⟨tp,head,wide,chains,keys⟩,hw,hkeys⟩
  simp only at hw hkeys ⊢
  repeat' first | (with_reducible first | exact hj | exact hj _ | refine bz fun _ _=>?_ | refine bh fun _=>?_ | refine ck fun _=>?_ | refine eH fun _=>?_ | refine bl (hK:=?_) | refine bi ?_ | refine bj fun _=>?_ | refine cj ?_ | refine bp ?_ | refine bm fun _=>?_ | refine bq (hK:=?_) | refine bo fun _ _=>?_ | refine G.cond (fun _=>?_) fun _=>?_ | refine G.blk (fun _ hj=>?_) fun _=>?_ | refine G.jn0 ?_ fun _ hj=>?_ | refine G.drew ?_) | simp (maxSteps:=2000000) only [↓RG,RP,RB,BEq.rfl,Int.reduceEq,Int.reduceLT,Int.reduceLE,Nat.reduceEqDiff]
  ·exact hend.sub
  ·refine Fa (b:=b) (head:=head) (wide:=wide) (chains:=chains) (keys:=keys) (U:=U) (m:=m) (f:=0) (k:=k) fun y link=>?_
   repeat' first | (with_reducible first | exact hj | exact hj _ | refine bz fun _ _=>?_ | refine bh fun _=>?_ | refine ck fun _=>?_ | refine eH fun _=>?_ | refine bl (hK:=?_) | refine bi ?_ | refine bj fun _=>?_ | refine cj ?_ | refine bp ?_ | refine bm fun _=>?_ | refine bq (hK:=?_) | refine bo fun _ _=>?_ | refine G.cond (fun _=>?_) fun _=>?_ | refine G.blk (fun _ hj=>?_) fun _=>?_ | refine G.jn0 ?_ fun _ hj=>?_ | refine G.drew ?_) | simp (maxSteps:=2000000) only [↓RG,RP,RB,BEq.rfl,Int.reduceEq,Int.reduceLT,Int.reduceLE,Nat.reduceEqDiff]
   ·exact hend.sub
   ·refine G.jnA (α:=Int×Int×Int) (fun z=>i64 z.1) (fun z=>own tp [ptr b 0,i64 head,i64 z.2.1,i64 z.2.2,u64 keys]::ob DX b (U,(m,1))::own x1 [i64 root]::own x2 [u64 k]::own x3 [u64 x]::ob iF x4 ()::M) (fun z=>?_) (fun j2 hj2=>?_)
    ·obtain⟨l,wd,ch⟩:=z
     simp only
     repeat' first | (with_reducible first | exact hj | exact hj _ | refine bz fun _ _=>?_ | refine bh fun _=>?_ | refine ck fun _=>?_ | refine eH fun _=>?_ | refine bl (hK:=?_) | refine bi ?_ | refine bj fun _=>?_ | refine cj ?_ | refine bp ?_ | refine bm fun _=>?_ | refine bq (hK:=?_) | refine bo fun _ _=>?_ | refine G.cond (fun _=>?_) fun _=>?_ | refine G.blk (fun _ hj=>?_) fun _=>?_ | refine G.jn0 ?_ fun _ hj=>?_ | refine G.drew ?_) | simp (maxSteps:=2000000) only [↓RG,RP,RB,BEq.rfl,Int.reduceEq,Int.reduceLT,Int.reduceLE,Nat.reduceEqDiff]
     exact hK.sub
    ·refine G.cond (fun _=>?_) (fun _=>?_)
     ·refine Vj (b:=b) (head:=head) (wide:=wide) (chains:=chains) (keys:=keys) (U:=U) (m:=m) hw fun wd ch=>?_
      refine gr ?_
      refine Fa (b:=b) (head:=head) (wide:=wd) (chains:=ch) (keys:=keys) (U:=U) (m:=m) (f:=1) (k:=k) fun a c=>?_
      refine gr ?_
      have h:=hj2 (a,wd,ch)
      dsimp only at h
      exact h.sub
     ·have h:=hj2 (y,wide,chains)
      dsimp only at h
      refine G.sub (L':=ob DX b (U,(m,0))::own tp [ptr b 0,i64 head,i64 wide,i64 chains,u64 keys]::own x1 [i64 root]::own x2 [u64 k]::own x3 [u64 x]::ob iF x4 ()::M) ?_
      exact G.dx (q':=(m,1)) (by simp) (by simp) h.sub
 ·refine G.cond (fun _=>?_) (fun _=>?_)
  ·refine gr ?_
   refine Vp fun tp2 head2 chains2=>?_
   have h:=hj ⟨(tp2,head2,2,chains2,0),by simp,fun _=>iy⟩
   dsimp only at h
   exact h.sub
  ·have h:=hj ⟨(tp0,head0,wide0,chains0,keys0),hw0,hkeys0⟩
   dsimp only at h
   exact h.sub
theorem H9 {m:Nat} [cx [ob DX b (U,(m,0)),own x1 [i64 root],own x2 [u64 k],ob zX x3 U,ob iF x4 ()] L M](hK:G w0 (ob DX b (U,(m,0))::own x1 [i64 root]::own x2 [u64 k]::ob zX x3 U::ob iF x4 ()::M) (K (.tuple #[]))):G w0 L (CP Tryz.prog YK [ptr b 0,ptr x1 0,ptr x2 0,ptr x3 0,ptr x4 0] K):=by
 refine G.pickAll (As:=[ob DX b (U,(m,0)),own x1 [i64 root],own x2 [u64 k],ob zX x3 U,ob iF x4 ()]) ?_
 simp only [List.cons_append,List.nil_append]
 refine H7 ?_
 unfold zx
 refine gu ?_
 refine gr ?_
 refine KP fun tp head wide chains keys hw hkeys=>?_
 repeat' first | (with_reducible first | exact hj | exact hj _ | refine bz fun _ _=>?_ | refine bh fun _=>?_ | refine ck fun _=>?_ | refine eH fun _=>?_ | refine bl (hK:=?_) | refine bi ?_ | refine bj fun _=>?_ | refine cj ?_ | refine bp ?_ | refine bm fun _=>?_ | refine bq (hK:=?_) | refine bo fun _ _=>?_ | refine G.cond (fun _=>?_) fun _=>?_ | refine G.blk (fun _ hj=>?_) fun _=>?_ | refine G.jn0 ?_ fun _ hj=>?_ | refine G.drew ?_) | simp (maxSteps:=2000000) only [↓RG,RP,RB,BEq.rfl,Int.reduceEq,Int.reduceLT,Int.reduceLE,Nat.reduceEqDiff]
 ·exact hK.sub
 ·refine Fa (b:=b) (head:=head) (wide:=wide) (chains:=chains) (keys:=keys) (U:=U) (m:=m) (f:=0) (k:=k) fun y link=>?_
  repeat' first | (with_reducible first | exact hj | exact hj _ | refine bz fun _ _=>?_ | refine bh fun _=>?_ | refine ck fun _=>?_ | refine eH fun _=>?_ | refine bl (hK:=?_) | refine bi ?_ | refine bj fun _=>?_ | refine cj ?_ | refine bp ?_ | refine bm fun _=>?_ | refine bq (hK:=?_) | refine bo fun _ _=>?_ | refine G.cond (fun _=>?_) fun _=>?_ | refine G.blk (fun _ hj=>?_) fun _=>?_ | refine G.jn0 ?_ fun _ hj=>?_ | refine G.drew ?_) | simp (maxSteps:=2000000) only [↓RG,RP,RB,BEq.rfl,Int.reduceEq,Int.reduceLT,Int.reduceLE,Nat.reduceEqDiff]
  exact hK.sub
theorem HZ {m:Nat} [cx [ob DX b (U,(m,0)),own x1 [i64 root],own x2 [u64 k],ob iF x3 ()] L M](hK:G w0 (ob DX b (U,(m,1))::own x1 [i64 root]::own x2 [u64 k]::ob iF x3 ()::M) (K (.tuple #[]))):G w0 L (CP Tryz.prog YL [ptr b 0,ptr x1 0,ptr x2 0,ptr x3 0] K):=by
 refine G.pickAll (As:=[ob DX b (U,(m,0)),own x1 [i64 root],own x2 [u64 k],ob iF x3 ()]) ?_
 simp only [List.cons_append,List.nil_append]
 refine HP ?_
 unfold zr
 refine gu ?_
 have hend:G w0 (ob DX b (U,(m,0))::own x1 [i64 root]::own x2 [u64 k]::ob iF x3 ()::M) (K (.tuple #[])):=G.dx (q':=(m,1)) (by simp) (by simp) hK
 refine gr ?_
 refine KP fun tp head wide chains keys hw hkeys=>?_
 repeat' first | (with_reducible first | exact hj | exact hj _ | refine bz fun _ _=>?_ | refine bh fun _=>?_ | refine ck fun _=>?_ | refine eH fun _=>?_ | refine bl (hK:=?_) | refine bi ?_ | refine bj fun _=>?_ | refine cj ?_ | refine bp ?_ | refine bm fun _=>?_ | refine bq (hK:=?_) | refine bo fun _ _=>?_ | refine G.cond (fun _=>?_) fun _=>?_ | refine G.blk (fun _ hj=>?_) fun _=>?_ | refine G.jn0 ?_ fun _ hj=>?_ | refine G.drew ?_) | simp (maxSteps:=2000000) only [↓RG,RP,RB,BEq.rfl,Int.reduceEq,Int.reduceLT,Int.reduceLE,Nat.reduceEqDiff]
 ·exact hend.sub
 ·refine Fa (b:=b) (head:=head) (wide:=wide) (chains:=chains) (keys:=keys) (U:=U) (m:=m) (f:=0) (k:=k) fun y link=>?_
  refine gr ?_
  refine G.joini0 ?_
  repeat' first | (with_reducible first | exact hj | exact hj _ | refine bz fun _ _=>?_ | refine bh fun _=>?_ | refine ck fun _=>?_ | refine eH fun _=>?_ | refine bl (hK:=?_) | refine bi ?_ | refine bj fun _=>?_ | refine cj ?_ | refine bp ?_ | refine bm fun _=>?_ | refine bq (hK:=?_) | refine bo fun _ _=>?_ | refine G.cond (fun _=>?_) fun _=>?_ | refine G.blk (fun _ hj=>?_) fun _=>?_ | refine G.jn0 ?_ fun _ hj=>?_ | refine G.drew ?_) | simp (maxSteps:=2000000) only [↓RG,RP,RB,BEq.rfl,Int.reduceEq,Int.reduceLT,Int.reduceLE,Nat.reduceEqDiff]
  ·refine Hv (q:=(m,0)) (Nat.zero_le _) ?_
   repeat' first | (with_reducible first | exact hj | exact hj _ | refine bz fun _ _=>?_ | refine bh fun _=>?_ | refine ck fun _=>?_ | refine eH fun _=>?_ | refine bl (hK:=?_) | refine bi ?_ | refine bj fun _=>?_ | refine cj ?_ | refine bp ?_ | refine bm fun _=>?_ | refine bq (hK:=?_) | refine bo fun _ _=>?_ | refine G.cond (fun _=>?_) fun _=>?_ | refine G.blk (fun _ hj=>?_) fun _=>?_ | refine G.jn0 ?_ fun _ hj=>?_ | refine G.drew ?_) | simp (maxSteps:=2000000) only [↓RG,RP,RB,BEq.rfl,Int.reduceEq,Int.reduceLT,Int.reduceLE,Nat.reduceEqDiff]
   exact hK.sub
  ·exact hend.sub
theorem LY (hs:s.l.r.f.length≤100000)(hg:U→Vg s)(hk:U→fF k)(hx:U→fF x)[i:al L ba b s C](hK:∀t x e,LC U s t e 1→G w0 (C (ob ba b t)) (K (.tuple #[.bool x,i64 e]))):G w0 L (CP Tryz.prog aaj [ptr b 0,i64 root,u64 k,u64 x] K):=by
 refine LX ?_
 unfold DK
 refine G.box fun x1=>?_
 refine G.box fun x2=>?_
 refine G.box fun x3=>?_
 refine G.new fun x4=>?_
 refine gr ?_
 refine ni x4 false ?_
 refine EC (b:=b) (s:=s) 1 (by decide) hs hg (fun c K' h=>?_) (fun t e h=>?_)
 ·show G w0 _ (CP Tryz.prog YJ [ptr c 0,ptr x1 0,ptr x2 0,ptr x3 0,ptr x4 0] K')
  refine Iu (U:=U) (m:=2048) (root:=root) hk hx ?_
  exact h.sub
 ·try simp (maxSteps:=2000000) only [lh,pO,jw,js,pu,iO]
  repeat' first | (with_reducible first | exact hj | exact hj _ | refine bz fun _ _=>?_ | refine bh fun _=>?_ | refine ck fun _=>?_ | refine eH fun _=>?_ | refine bl (hK:=?_) | refine bi ?_ | refine bj fun _=>?_ | refine cj ?_ | refine bp ?_ | refine bm fun _=>?_ | refine bq (hK:=?_) | refine bo fun _ _=>?_ | refine G.cond (fun _=>?_) fun _=>?_ | refine G.blk (fun _ hj=>?_) fun _=>?_ | refine G.jn0 ?_ fun _ hj=>?_ | refine G.drew ?_) | simp (maxSteps:=2000000) only [↓RG,RP,RB,BEq.rfl,Int.reduceEq,Int.reduceLT,Int.reduceLE,Nat.reduceEqDiff]
  all_goals exact(hK t _ e h).sub
theorem MV (hs:s.l.r.f.length≤100000)(hg:U→Vg s)[i:al L ba b s C](hK:∀t x e,LC U s t e 1→G w0 (C (ob ba b t)) (K (.tuple #[.bool x,i64 e]))):G w0 L (CP Tryz.prog aak [ptr b 0,i64 root,u64 k] K):=by
 refine Ly ?_
 unfold Eb
 refine G.box fun x1=>?_
 refine G.box fun x2=>?_
 refine G.new fun x3=>?_
 refine gr ?_
 refine ni x3 false ?_
 refine EC (b:=b) (s:=s) 1 (by decide) hs hg (fun c K' h=>?_) (fun t e h=>?_)
 ·show G w0 _ (CP Tryz.prog YL [ptr c 0,ptr x1 0,ptr x2 0,ptr x3 0] K')
  refine HZ (U:=U) (m:=2048) (root:=root) (k:=k) ?_
  exact h.sub
 ·try simp (maxSteps:=2000000) only [lh,pO,jw,js,pu,iO]
  repeat' first | (with_reducible first | exact hj | exact hj _ | refine bz fun _ _=>?_ | refine bh fun _=>?_ | refine ck fun _=>?_ | refine eH fun _=>?_ | refine bl (hK:=?_) | refine bi ?_ | refine bj fun _=>?_ | refine cj ?_ | refine bp ?_ | refine bm fun _=>?_ | refine bq (hK:=?_) | refine bo fun _ _=>?_ | refine G.cond (fun _=>?_) fun _=>?_ | refine G.blk (fun _ hj=>?_) fun _=>?_ | refine G.jn0 ?_ fun _ hj=>?_ | refine G.drew ?_) | simp (maxSteps:=2000000) only [↓RG,RP,RB,BEq.rfl,Int.reduceEq,Int.reduceLT,Int.reduceLE,Nat.reduceEqDiff]
  all_goals exact(hK t _ e h).sub
theorem Mu (hs:s.l.r.f.length≤100000)(hg:U→Vg s)[i:al L ba b s C](hK:∀t n x e,LC U s t e 1→(U→fF n)→G w0 (C (ob ba b t)) (K (.tuple #[u64 n,.bool x,i64 e]))):G w0 L (CP Tryz.prog aal [ptr b 0,i64 root,u64 k] K):=by
 refine L2 ?_
 unfold Eo
 refine G.box fun x1=>?_
 refine G.box fun x2=>?_
 refine G.new fun x3=>?_
 refine G.new fun x4=>?_
 refine gr ?_
 refine Kq U x3 0 (fun _=>iy) ?_
 refine ni x4 false ?_
 refine EC (b:=b) (s:=s) 1 (by decide) hs hg (fun c K' h=>?_) (fun t e h=>?_)
 ·show G w0 _ (CP Tryz.prog YK [ptr c 0,ptr x1 0,ptr x2 0,ptr x3 0,ptr x4 0] K')
  refine H9 (U:=U) (m:=2048) (root:=root) (k:=k) ?_
  refine G.dx (q':=(2048,1)) (by simp) (by simp) ?_
  exact h.sub
 ·by_cases he:e=0
  ·subst he
   refine gr ?_
   repeat' first | (with_reducible first | exact hj | exact hj _ | refine bz fun _ _=>?_ | refine bh fun _=>?_ | refine ck fun _=>?_ | refine eH fun _=>?_ | refine bl (hK:=?_) | refine bi ?_ | refine bj fun _=>?_ | refine cj ?_ | refine bp ?_ | refine bm fun _=>?_ | refine bq (hK:=?_) | refine bo fun _ _=>?_ | refine G.cond (fun _=>?_) fun _=>?_ | refine G.blk (fun _ hj=>?_) fun _=>?_ | refine G.jn0 ?_ fun _ hj=>?_ | refine G.drew ?_) | simp (maxSteps:=2000000) only [↓RG,RP,RB,BEq.rfl,Int.reduceEq,Int.reduceLT,Int.reduceLE,Nat.reduceEqDiff]
   exact(hK t _ _ 0 h (by assumption)).sub
  ·refine dN he ?_
   exact(hK t 0 _ e h (fun _=>iy)).sub
end
end
end Go.Proofs.YtoealglbimbbmaaGreatDoor.S
