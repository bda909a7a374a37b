import Derived.Test.YtoealglbimbbmaaGreatDoorRDr
import Derived.Test.YtoealglbimbbmaaGreatDoorTChk
import Derived.Lib.SlicesCompact
set_option linter.defProp false
set_option linter.unusedVariables false
set_option linter.unusedSimpArgs false
namespace Go.Proofs.YtoealglbimbbmaaGreatDoor.S
open Go Go.Proofs
section
variable {w0:bz}{L M:List bg}{K:KV}{F:World->Prop}{C:bg->List bg}{b tp:Nat}{q:Nat×Nat}{n a x e k root:Int}{U:Prop}{v:Value}{t:Bool}
def G.a4 {p want:Bool}{A:KV->World->Prop}{e:Bool}(hA:∀K':KV,(∀t,G w0 L (K' (.bool t)))->G w0 L (A K'))(h:∀t,G w0 L (K (.bool t))):G w0 L (fl (.bool p) want A (.bool e) K):=λw H=>by
 simp only[fl]
 exact⟨λ_=>hA K h w H,λ_=>h e w H⟩
def G.bs {J:World->Prop}{B:(World->Prop)->World->Prop}(h:G w0 L J)(hB:∀j,G w0 L j->G w0 L (B j)):G w0 L (aw J B):=hB J h
def G.eT {α:Type}(f:α->Value){J:Value->World->Prop}{B:(Value->World->Prop)->World->Prop}(h:∀x,G w0 L (J (f x)))(hB:∀j,(∀x,G w0 L (j (f x)))->G w0 L (B j)):G w0 L (cr J B):=hB J h
def G.dx {q q':Nat×Nat}(e:q.1<=q'.1)(f:q.2<=q'.2)(H:G w0 (ob DX b (U,q')::M) F):G w0 (ob DX b (U,q)::M) F:=by
 rw[tF]at H ⊢
 intro d s c a h
 exact H d s c a ⟨h.vg,by have:=h.fr;omega,λg=>by have:=h.st g;omega⟩
def nq (p:Nat)(_:Unit):bg:=pz λt:Bool=>own p [.bool t]
def IK (p:Nat)(U:Prop):bg:=pz λn:Int=>cj (kx (U->kY n)) (own p [u64 n])
def Bh {p:Nat}{u:Unit}:G w0 (ob nq p u::M) F=∀t:Bool,G w0 (own p [.bool t]::M) F:=by rw[iw,nq];simp only[pM]
def AM {p:Nat}:G w0 (ob IK p U::M) F=∀n,(U->kY n)->G w0 (own p [u64 n]::M) F:=by rw[iw,IK];simp only[pM,im,jk]
def tH (p:Nat)(t:Bool) [dn [own p [.bool t]] L M](H:G w0 (ob nq p ()::M) F):G w0 L F:=G.ap (As:=[own p [.bool t]]) (by rw[Bh]at H;exact H t)
def UU (U:Prop)(p:Nat)(n:Int)(h:U->kY n) [dn [own p [u64 n]] L M](H:G w0 (ob IK p U::M) F):G w0 L F:=G.ap (As:=[own p [u64 n]]) (by rw[AM]at H;exact H n h)
def Vn {A:Prop}(h:A:=by(repeat' first|(with_reducible first|exact hj|exact hj _|exact hK|exact hK _|exact hK _ _|exact hK.sub|exact(hK _).sub|refine dy λ_ _=>?_|refine cx λ_=>?_|refine ff λ_=>?_|refine kq λ_=>?_|refine dd (hK:=?_)|refine db ?_|refine dc λ_=>?_|refine fb ?_|refine de ?_|refine di λ_=>?_|refine df (hK:=?_)|refine dh λ_ _=>?_|refine G.cond (λ_=>?_) λ_=>?_|refine G.a4 (λ_ hj=>?_) λ_=>?_|refine G.bs ?_ λ_ hj=>?_|refine G.drew ?_)|simp (maxSteps:=2000000) only[↓RG,RP,RB,zac,Int.reduceEq,Int.reduceLT,Int.reduceLE,Nat.reduceEqDiff])):A:=h
def zcv {A:Prop}(h:A:=by(repeat' first|(with_reducible first|exact hj|exact hj _|exact hK|exact hK _|exact hK _ _|exact hK.sub|exact(hK _).sub|refine zO λ_ _=>?_|refine wM λ_=>?_|refine jW λ_=>?_|refine yV λ_=>?_|refine yd ?_|refine wW ?_|refine G9 λ_=>?_|refine ER λ_=>?_|refine dy λ_ _=>?_|refine cx λ_=>?_|refine ff λ_=>?_|refine kq λ_=>?_|refine dd (hK:=?_)|refine db ?_|refine dc λ_=>?_|refine fb ?_|refine de ?_|refine di λ_=>?_|refine df (hK:=?_)|refine dh λ_ _=>?_|refine G.cond (λ_=>?_) λ_=>?_|refine G.a4 (λ_ hj=>?_) λ_=>?_|refine G.bs ?_ λ_ hj=>?_|refine G.drew ?_)|simp (maxSteps:=2000000) only[↓RG,RP,RB,zac,Int.reduceEq,Int.reduceLT,Int.reduceLE,Nat.reduceEqDiff])):A:=h
def de {p:Nat}{u:Unit}[i:ae L nq p u C]{t:Bool}(hK:G w0 L (K undef)):G w0 L (fh 1 (ptr p 0) (.bool t) K):=by
 refine i.ro (λM hK=>?_) hK
 rw[Bh]
 intro a
 refine wa ?_
 rw[Bh]at hK
 exact hK t
def di {p:Nat}{u:Unit}[i:ae L nq p u C](hK:∀t,G w0 L (K (.bool t))):G w0 L (ad (ptr p 0) K):=by
 refine i.ej (P:=λ_:Bool=>True) (F':=λt=>K (.bool t)) (λM hK=>?_) (λt _=>hK t)
 rw[Bh]
 intro a
 refine wa ?_
 have h:=hK a trivial
 rw[Bh]at h
 exact h a
def df {p:Nat}{n:Int}(b:U->kY n:=by first|assumption|exact λ_=>kZ|exact λ_=>jN)[i:ae L IK p U C](hK:G w0 L (K undef)):G w0 L (fh 1 (ptr p 0) (u64 n) K):=by
 refine i.ro (λM hK=>?_) hK
 rw[AM]
 intro a _
 refine wa ?_
 rw[AM]at hK
 exact hK n b
def dh {p:Nat}[i:ae L IK p U C](hK:∀n,(U->kY n)->G w0 L (K (u64 n))):G w0 L (ad (ptr p 0) K):=by
 refine i.ej (P:=λn:Int=>U->kY n) (F':=λt=>K (u64 t)) (λM hK=>?_) hK
 rw[AM]
 intro b a
 refine wa ?_
 have h:=hK b a
 rw[AM]at h
 exact h b a
def wM [i:ae L DX b (U,q) C](hK:∀t,G w0 L (K (.bool t))):G w0 L (ac 298 [ptr b 0,i64 a,u64 k] K):=by
 refine TP ?_
 unfold Jo
 refine mK ?_
 exact Vn
def zO [i:ae L DX b (U,q) C](hK:∀x y,G w0 L (K (.tuple #[i64 x,i64 y]))):G w0 L (ac 296 [ptr b 0,i64 root,u64 k] K):=by
 refine i.ej (P:=λ_:Int×Int=>True) (F':=λz=>K (.tuple #[i64 z.1,i64 z.2])) (λM hK=>?_) (λz _=>hK z.1 z.2)
 refine WL ?_
 unfold M0
 refine mK ?_
 refine G.b9 ?_
 refine G.bN (σ:=Nat×Int×Int) (λz=>i64 z.2.1) (λz=>i64 z.2.2) (λz=>ob DX b (U,(z.1,q.2))::M) (λz=>z.1<=q.1) (λz=>z.1) (q.1,root,0) rfl rfl rfl (LT _) ?_
 rintro⟨m,e,at_⟩ c J hJ
 simp only at c hJ ⊢
 have a:∀m,m<=q.1->∀x y,G w0 (ob DX b (U,(m,q.2))::M) (K (.tuple #[i64 x,i64 y])):=λm c x y=>G.dx c (LT _) (hK (x,y) trivial)
 refine ar ?_
 refine Fm (λf d=>?_) ?_
 ·simp only at d
  refine ar ?_
  repeat' first|(with_reducible first|exact hj|exact hj _|refine dy λ_ _=>?_|refine cx λ_=>?_|refine ff λ_=>?_|refine kq λ_=>?_|refine dd (hK:=?_)|refine db ?_|refine dc λ_=>?_|refine fb ?_|refine de ?_|refine di λ_=>?_|refine df (hK:=?_)|refine dh λ_ _=>?_|refine G.cond (λ_=>?_) λ_=>?_|refine G.a4 (λ_ hj=>?_) λ_=>?_|refine G.bs ?_ λ_ hj=>?_|refine G.drew ?_)|simp (maxSteps:=2000000) only[↓RG,RP,RB,zac,Int.reduceEq,Int.reduceLT,Int.reduceLE,Nat.reduceEqDiff]
  all_goals first|exact a f zo _ _|exact hJ (f,_,_) (by simp only;omega) (by simp only;omega)
 ·refine ar ?_
  exact a m c _ _
theorem G.fv {α:Type}(Lf:α->List bg){J:World->Prop}{B:(World->Prop)->World->Prop}(h:∀x,G w0 (Lf x) J)(hB:∀j,(∀x,G w0 (Lf x) j)->G w0 L (B j)):G w0 L (aw J B):=hB J h
def G.d9 {α:Type}(f:α->Value)(Lf:α->List bg){J:Value->World->Prop}{B:(Value->World->Prop)->World->Prop}(h:∀x,G w0 (Lf x) (J (f x)))(hB:∀j,(∀x,G w0 (Lf x) (j (f x)))->G w0 L (B j)):G w0 L (cr J B):=hB J h
section
variable {x1 x2 x3 x4:Nat}{u u4:Unit}{C1 C2 C3 C4:bg->List bg}
def TC (a:U->kY k)[i:ae L DX b (U,q) C][d:ae L lW x1 [i64 root] C1][c:ae L lW x2 [u64 k] C2][e:ae L nq x3 u C3](hK:G w0 L (K (.tuple #[]))):G w0 L (ac 295 [ptr b 0,ptr x1 0,ptr x2 0,ptr x3 0] K):=by
 refine Tm ?_
 unfold Jn
 refine mK ?_
 repeat' first|(with_reducible first|exact hj|exact hj _|refine dy λ_ _=>?_|refine cx λ_=>?_|refine ff λ_=>?_|refine kq λ_=>?_|refine dd (hK:=?_)|refine db ?_|refine dc λ_=>?_|refine fb ?_|refine de ?_|refine di λ_=>?_|refine df (hK:=?_)|refine dh λ_ _=>?_|refine G.cond (λ_=>?_) λ_=>?_|refine G.a4 (λ_ hj=>?_) λ_=>?_|refine G.bs ?_ λ_ hj=>?_|refine G.drew ?_)|simp (maxSteps:=2000000) only[↓RG,RP,RB,zac,Int.reduceEq,Int.reduceLT,Int.reduceLE,Nat.reduceEqDiff]
 refine zO λ_ _=>?_
 repeat' first|(with_reducible first|exact hj|exact hj _|refine dy λ_ _=>?_|refine cx λ_=>?_|refine ff λ_=>?_|refine kq λ_=>?_|refine dd (hK:=?_)|refine db ?_|refine dc λ_=>?_|refine fb ?_|refine de ?_|refine di λ_=>?_|refine df (hK:=?_)|refine dh λ_ _=>?_|refine G.cond (λ_=>?_) λ_=>?_|refine G.a4 (λ_ hj=>?_) λ_=>?_|refine G.bs ?_ λ_ hj=>?_|refine G.drew ?_)|simp (maxSteps:=2000000) only[↓RG,RP,RB,zac,Int.reduceEq,Int.reduceLT,Int.reduceLE,Nat.reduceEqDiff]
 ·refine wM λ_=>?_
  exact Vn
 all_goals exact Vn
def UF {m:Nat} [dn [ob DX b (U,(m,0)),own x1 [i64 root],own x2 [u64 k],ob nq x3 ()] L M](hK:G w0 (ob DX b (U,(m,1))::own x1 [i64 root]::own x2 [u64 k]::ob nq x3 ()::M) (K (.tuple #[]))):G w0 L (ac 302 [ptr b 0,ptr x1 0,ptr x2 0,ptr x3 0] K):=by
 refine G.ap (As:=[ob DX b (U,(m,0)),own x1 [i64 root],own x2 [u64 k],ob nq x3 ()]) ?_
 simp only[Fn,GT]
 refine T5 ?_
 unfold Kp
 repeat' first|(with_reducible first|exact hj|exact hj _|refine dy λ_ _=>?_|refine cx λ_=>?_|refine ff λ_=>?_|refine kq λ_=>?_|refine dd (hK:=?_)|refine db ?_|refine dc λ_=>?_|refine fb ?_|refine de ?_|refine di λ_=>?_|refine df (hK:=?_)|refine dh λ_ _=>?_|refine G.cond (λ_=>?_) λ_=>?_|refine G.a4 (λ_ hj=>?_) λ_=>?_|refine G.bs ?_ λ_ hj=>?_|refine G.drew ?_)|simp (maxSteps:=2000000) only[↓RG,RP,RB,zac,Int.reduceEq,Int.reduceLT,Int.reduceLE,Nat.reduceEqDiff]
 refine zO λ_ _=>?_
 repeat' first|(with_reducible first|exact hj|exact hj _|refine dy λ_ _=>?_|refine cx λ_=>?_|refine ff λ_=>?_|refine kq λ_=>?_|refine dd (hK:=?_)|refine db ?_|refine dc λ_=>?_|refine fb ?_|refine de ?_|refine di λ_=>?_|refine df (hK:=?_)|refine dh λ_ _=>?_|refine G.cond (λ_=>?_) λ_=>?_|refine G.a4 (λ_ hj=>?_) λ_=>?_|refine G.bs ?_ λ_ hj=>?_|refine G.drew ?_)|simp (maxSteps:=2000000) only[↓RG,RP,RB,zac,Int.reduceEq,Int.reduceLT,Int.reduceLE,Nat.reduceEqDiff]
 refine wM λ_=>?_
 refine G.aU ?_
 repeat' first|(with_reducible first|exact hj|exact hj _|refine dy λ_ _=>?_|refine cx λ_=>?_|refine ff λ_=>?_|refine kq λ_=>?_|refine dd (hK:=?_)|refine db ?_|refine dc λ_=>?_|refine fb ?_|refine de ?_|refine di λ_=>?_|refine df (hK:=?_)|refine dh λ_ _=>?_|refine G.cond (λ_=>?_) λ_=>?_|refine G.a4 (λ_ hj=>?_) λ_=>?_|refine G.bs ?_ λ_ hj=>?_|refine G.drew ?_)|simp (maxSteps:=2000000) only[↓RG,RP,RB,zac,Int.reduceEq,Int.reduceLT,Int.reduceLE,Nat.reduceEqDiff]
 ·refine OH (q:=(m,0)) (zag _) ?_
  exact Vn
 ·exact G.dx (q':=(m,1)) zs zs hK
def Tv [i:ae L DX b (U,q) C][c:ae L lW x1 [i64 root] C1][a:ae L lW x2 [u64 k] C2][d:ae L nq x3 u C3](hK:G w0 L (K (.tuple #[]))):G w0 L (ac 305 [ptr b 0,ptr x1 0,ptr x2 0,ptr x3 0] K):=by
 refine TU ?_
 unfold Kr
 refine mK ?_
 repeat' first|(with_reducible first|exact hj|exact hj _|refine dy λ_ _=>?_|refine cx λ_=>?_|refine ff λ_=>?_|refine kq λ_=>?_|refine dd (hK:=?_)|refine db ?_|refine dc λ_=>?_|refine fb ?_|refine de ?_|refine di λ_=>?_|refine df (hK:=?_)|refine dh λ_ _=>?_|refine G.cond (λ_=>?_) λ_=>?_|refine G.a4 (λ_ hj=>?_) λ_=>?_|refine G.bs ?_ λ_ hj=>?_|refine G.drew ?_)|simp (maxSteps:=2000000) only[↓RG,RP,RB,zac,Int.reduceEq,Int.reduceLT,Int.reduceLE,Nat.reduceEqDiff]
 refine zO λ_ _=>?_
 repeat' first|(with_reducible first|exact hj|exact hj _|refine dy λ_ _=>?_|refine cx λ_=>?_|refine ff λ_=>?_|refine kq λ_=>?_|refine dd (hK:=?_)|refine db ?_|refine dc λ_=>?_|refine fb ?_|refine de ?_|refine di λ_=>?_|refine df (hK:=?_)|refine dh λ_ _=>?_|refine G.cond (λ_=>?_) λ_=>?_|refine G.a4 (λ_ hj=>?_) λ_=>?_|refine G.bs ?_ λ_ hj=>?_|refine G.drew ?_)|simp (maxSteps:=2000000) only[↓RG,RP,RB,zac,Int.reduceEq,Int.reduceLT,Int.reduceLE,Nat.reduceEqDiff]
 refine wM λ_=>?_
 exact Vn
end
variable {s:iX}
def Xp (o:s.l.r.f.length<=100000)(n:U->Vg s)(m:U->kY k)[i:ae L bf b s C](hK:∀t x e,Vl U s t e 1->G w0 (C (ob bf b t)) (K (.tuple #[.bool x,i64 e]))):G w0 L (ac 246 [ptr b 0,i64 root,u64 k] K):=by
 refine XT ?_
 unfold OB
 refine G.box λj=>?_
 refine G.box λd=>?_
 refine G.new λa=>ar ?_
 refine tH a false ?_
 refine NO (b:=b) (s:=s) 1 zd o n (λc g h=>?_) (λt e h=>?_)
 ·show G w0 _ (ac 295 [ptr c 0,ptr j 0,ptr d 0,ptr a 0] g)
  refine TC m ?_
  exact G.dx (q':=(2048,1)) zs zs h
 ·try simp (maxSteps:=2000000) only[ug,zS,qm,qu,zt,oJ]
  repeat' first|(with_reducible first|exact hj|exact hj _|refine dy λ_ _=>?_|refine cx λ_=>?_|refine ff λ_=>?_|refine kq λ_=>?_|refine dd (hK:=?_)|refine db ?_|refine dc λ_=>?_|refine fb ?_|refine de ?_|refine di λ_=>?_|refine df (hK:=?_)|refine dh λ_ _=>?_|refine G.cond (λ_=>?_) λ_=>?_|refine G.a4 (λ_ hj=>?_) λ_=>?_|refine G.bs ?_ λ_ hj=>?_|refine G.drew ?_)|simp (maxSteps:=2000000) only[↓RG,RP,RB,zac,Int.reduceEq,Int.reduceLT,Int.reduceLE,Nat.reduceEqDiff]
  all_goals exact(hK t _ e h).sub
section
variable {x1 x2 x3:Nat}{u u2:Unit}{C1 C2 C3:bg->List bg}
def QC (a:U->kY k)[i:ae L DX b (U,q) C][d:ae L lW x1 [i64 root] C1][c:ae L lW x2 [u64 k] C2](hK:G w0 L (K (.tuple #[]))):G w0 L (ac 356 [ptr b 0,ptr x1 0,ptr x2 0] K):=by
 refine Ph ?_
 unfold DT
 refine mK ?_
 repeat' first|(with_reducible first|exact hj|exact hj _|refine dy λ_ _=>?_|refine cx λ_=>?_|refine ff λ_=>?_|refine kq λ_=>?_|refine dd (hK:=?_)|refine db ?_|refine dc λ_=>?_|refine fb ?_|refine de ?_|refine di λ_=>?_|refine df (hK:=?_)|refine dh λ_ _=>?_|refine G.cond (λ_=>?_) λ_=>?_|refine G.a4 (λ_ hj=>?_) λ_=>?_|refine G.bs ?_ λ_ hj=>?_|refine G.drew ?_)|simp (maxSteps:=2000000) only[↓RG,RP,RB,zac,Int.reduceEq,Int.reduceLT,Int.reduceLE,Nat.reduceEqDiff]
 refine G.b9 ?_
 repeat' first|(with_reducible first|exact hj|exact hj _|refine dy λ_ _=>?_|refine cx λ_=>?_|refine ff λ_=>?_|refine kq λ_=>?_|refine dd (hK:=?_)|refine db ?_|refine dc λ_=>?_|refine fb ?_|refine de ?_|refine di λ_=>?_|refine df (hK:=?_)|refine dh λ_ _=>?_|refine G.cond (λ_=>?_) λ_=>?_|refine G.a4 (λ_ hj=>?_) λ_=>?_|refine G.bs ?_ λ_ hj=>?_|refine G.drew ?_)|simp (maxSteps:=2000000) only[↓RG,RP,RB,zac,Int.reduceEq,Int.reduceLT,Int.reduceLE,Nat.reduceEqDiff]
 ·exact hK
 ·refine G.eT (λn:Int=>i64 n) (λx=>?_) λj hj=>?_
  ·repeat' first|(with_reducible first|exact hj|exact hj _|refine dy λ_ _=>?_|refine cx λ_=>?_|refine ff λ_=>?_|refine kq λ_=>?_|refine dd (hK:=?_)|refine db ?_|refine dc λ_=>?_|refine fb ?_|refine de ?_|refine di λ_=>?_|refine df (hK:=?_)|refine dh λ_ _=>?_|refine G.cond (λ_=>?_) λ_=>?_|refine G.a4 (λ_ hj=>?_) λ_=>?_|refine G.bs ?_ λ_ hj=>?_|refine G.drew ?_)|simp (maxSteps:=2000000) only[↓RG,RP,RB,zac,Int.reduceEq,Int.reduceLT,Int.reduceLE,Nat.reduceEqDiff]
   exact hK
  ·repeat' first|(with_reducible first|exact hj|exact hj _|refine dy λ_ _=>?_|refine cx λ_=>?_|refine ff λ_=>?_|refine kq λ_=>?_|refine dd (hK:=?_)|refine db ?_|refine dc λ_=>?_|refine fb ?_|refine de ?_|refine di λ_=>?_|refine df (hK:=?_)|refine dh λ_ _=>?_|refine G.cond (λ_=>?_) λ_=>?_|refine G.a4 (λ_ hj=>?_) λ_=>?_|refine G.bs ?_ λ_ hj=>?_|refine G.drew ?_)|simp (maxSteps:=2000000) only[↓RG,RP,RB,zac,Int.reduceEq,Int.reduceLT,Int.reduceLE,Nat.reduceEqDiff]
def Ox {m:Nat} [dn [ob DX b (U,(m,0)),own x1 [i64 root],ob IK x2 U,ob nq x3 ()] L M](hK:G w0 (ob DX b (U,(m,1))::own x1 [i64 root]::ob IK x2 U::ob nq x3 ()::M) (K (.tuple #[]))):G w0 L (ac 357 [ptr b 0,ptr x1 0,ptr x2 0,ptr x3 0] K):=by
 refine G.ap (As:=[ob DX b (U,(m,0)),own x1 [i64 root],ob IK x2 U,ob nq x3 ()]) ?_
 simp only[Fn,GT]
 refine OO ?_
 unfold Fc
 have a:G w0 (ob DX b (U,(m,0))::own x1 [i64 root]::ob IK x2 U::ob nq x3 ()::M) (K (.tuple #[])):=G.dx (q':=(m,1)) zs zs hK
 refine mK ?_
 repeat' first|(with_reducible first|exact hj|exact hj _|refine dy λ_ _=>?_|refine cx λ_=>?_|refine ff λ_=>?_|refine kq λ_=>?_|refine dd (hK:=?_)|refine db ?_|refine dc λ_=>?_|refine fb ?_|refine de ?_|refine di λ_=>?_|refine df (hK:=?_)|refine dh λ_ _=>?_|refine G.cond (λ_=>?_) λ_=>?_|refine G.a4 (λ_ hj=>?_) λ_=>?_|refine G.bs ?_ λ_ hj=>?_|refine G.drew ?_)|simp (maxSteps:=2000000) only[↓RG,RP,RB,zac,Int.reduceEq,Int.reduceLT,Int.reduceLE,Nat.reduceEqDiff]
 ·exact a
 ·exact a
 ·refine OH (q:=(m,0)) (zag _) ?_
  exact hK
variable {s:iX}
def Yl (o:s.l.r.f.length<=100000)(n:U->Vg s)[i:ae L bf b s C](hK:∀t x e,Vl U s t e 1->G w0 (C (ob bf b t)) (K (.tuple #[.bool x,i64 e]))):G w0 L (ac 247 [ptr b 0,i64 root,u64 k] K):=by
 refine X7 ?_
 unfold Qe
 refine G.box λj=>?_
 refine G.box λd=>?_
 refine G.new λa=>ar ?_
 refine tH a false ?_
 refine NO (b:=b) (s:=s) 1 zd o n (λc g h=>?_) (λt e h=>?_)
 ·show G w0 _ (ac 302 [ptr c 0,ptr j 0,ptr d 0,ptr a 0] g)
  refine UF (U:=U) (m:=2048) (root:=root) (k:=k) ?_
  exact h.sub
 ·try simp (maxSteps:=2000000) only[ug,zS,qm,qu,zt,oJ]
  repeat' first|(with_reducible first|exact hj|exact hj _|refine dy λ_ _=>?_|refine cx λ_=>?_|refine ff λ_=>?_|refine kq λ_=>?_|refine dd (hK:=?_)|refine db ?_|refine dc λ_=>?_|refine fb ?_|refine de ?_|refine di λ_=>?_|refine df (hK:=?_)|refine dh λ_ _=>?_|refine G.cond (λ_=>?_) λ_=>?_|refine G.a4 (λ_ hj=>?_) λ_=>?_|refine G.bs ?_ λ_ hj=>?_|refine G.drew ?_)|simp (maxSteps:=2000000) only[↓RG,RP,RB,zac,Int.reduceEq,Int.reduceLT,Int.reduceLE,Nat.reduceEqDiff]
  all_goals exact(hK t _ e h).sub
def Xx (n:s.l.r.f.length<=100000)(m:U->Vg s)[i:ae L bf b s C](hK:∀t x e,Vl U s t e 1->G w0 (C (ob bf b t)) (K (.tuple #[.bool x,i64 e]))):G w0 L (ac 248 [ptr b 0,i64 root,u64 k] K):=by
 refine YL ?_
 unfold QF
 refine G.box λj=>?_
 refine G.box λd=>?_
 refine G.new λa=>ar ?_
 refine tH a false ?_
 refine NO (b:=b) (s:=s) 1 zd n m (λc g h=>?_) (λt e h=>?_)
 ·show G w0 _ (ac 305 [ptr c 0,ptr j 0,ptr d 0,ptr a 0] g)
  refine Tv ?_
  exact G.dx (q':=(2048,1)) zs zs h
 ·try simp (maxSteps:=2000000) only[ug,zS,qm,qu,zt,oJ]
  repeat' first|(with_reducible first|exact hj|exact hj _|refine dy λ_ _=>?_|refine cx λ_=>?_|refine ff λ_=>?_|refine kq λ_=>?_|refine dd (hK:=?_)|refine db ?_|refine dc λ_=>?_|refine fb ?_|refine de ?_|refine di λ_=>?_|refine df (hK:=?_)|refine dh λ_ _=>?_|refine G.cond (λ_=>?_) λ_=>?_|refine G.a4 (λ_ hj=>?_) λ_=>?_|refine G.bs ?_ λ_ hj=>?_|refine G.drew ?_)|simp (maxSteps:=2000000) only[↓RG,RP,RB,zac,Int.reduceEq,Int.reduceLT,Int.reduceLE,Nat.reduceEqDiff]
  all_goals exact(hK t _ e h).sub
def UC (n:s.l.r.f.length<=100000)(m:U->Vg s)(j:U->kY k)[i:ae L bf b s C](hK:∀t e,Vl U s t e 1->G w0 (C (ob bf b t)) (K (i64 e))):G w0 L (ac 315 [ptr b 0,i64 root,u64 k] K):=by
 refine T2 ?_
 unfold KC
 refine G.box λa=>?_
 refine G.box λd=>ar ?_
 refine NO (b:=b) (s:=s) 1 zd n m (λc g h=>?_) (λt e h=>?_)
 ·show G w0 _ (ac 356 [ptr c 0,ptr a 0,ptr d 0] g)
  refine QC j ?_
  exact G.dx (q':=(2048,1)) zs zs h
 ·exact(hK t e h).sub
def U6 (p:s.l.r.f.length<=100000)(o:U->Vg s)[i:ae L bf b s C](hK:∀t n x e,Vl U s t e 1->(U->kY n)->G w0 (C (ob bf b t)) (K (.tuple #[u64 n,.bool x,i64 e]))):G w0 L (ac 316 [ptr b 0,i64 root] K):=by
 refine Tw ?_
 unfold KN
 refine G.box λk=>?_
 refine G.new λd=>?_
 refine G.new λa=>ar ?_
 refine UU U d 0 (λ_=>jN) ?_
 refine tH a false ?_
 refine NO (b:=b) (s:=s) 1 zd p o (λc j h=>?_) (λt e h=>?_)
 ·show G w0 _ (ac 357 [ptr c 0,ptr k 0,ptr d 0,ptr a 0] j)
  refine Ox (U:=U) (m:=2048) (root:=root) ?_
  exact h.sub
 ·by_cases g:e=0
  ·subst g
   refine ar ?_
   repeat' first|(with_reducible first|exact hj|exact hj _|refine dy λ_ _=>?_|refine cx λ_=>?_|refine ff λ_=>?_|refine kq λ_=>?_|refine dd (hK:=?_)|refine db ?_|refine dc λ_=>?_|refine fb ?_|refine de ?_|refine di λ_=>?_|refine df (hK:=?_)|refine dh λ_ _=>?_|refine G.cond (λ_=>?_) λ_=>?_|refine G.a4 (λ_ hj=>?_) λ_=>?_|refine G.bs ?_ λ_ hj=>?_|refine G.drew ?_)|simp (maxSteps:=2000000) only[↓RG,RP,RB,zac,Int.reduceEq,Int.reduceLT,Int.reduceLE,Nat.reduceEqDiff]
   exact(hK t _ _ 0 h (by assumption)).sub
  ·refine ca g ?_
   exact(hK t 0 _ e h (λ_=>jN)).sub
end
abbrev jG:uk (Int×Int):=⟨2,λp=>[i64 p.1,i64 p.2],λ | [.int .i64 a,.int .i64 b]=>some (a,b)|_=>none,zd,λ_=>rfl,by simp[one],λcs a h=>by split at h<;>cases h;rfl⟩
instance {p:Int×Int}:nR jG p [i64 p.1,i64 p.2]:=⟨rfl⟩
instance {x y:Int}:A5 jG [i64 x,i64 y] (x,y):=⟨rfl⟩
section
variable {vw:Value}{ws:List (Int×Int)}{C1 C2:bg->List bg}
def jW [i:ae L DX b (U,q) C][c:ae L lW tp [ptr b 0,i64 root,vw] C1](hK:∀x,G w0 L (K (i64 x))):G w0 L (ac 358 [ptr tp 0,i64 a,i64 e] K):=by
 refine Jk ?_
 unfold zP
 exact Vn
def yV [i:ae L DX b (U,q) C][c:ae L lW tp [ptr b 0,i64 root,vw] C1](hK:∀t,G w0 L (K (.bool t))):G w0 L (ac 360 [ptr tp 0,i64 a] K):=by
 refine Nz ?_
 unfold Cy
 refine mK ?_
 exact Vn
def yd [i:ae L DX b (U,q) C][c:ae L lW tp [ptr b 0,i64 root,vw] C1](hK:G w0 L (K (.tuple #[]))):G w0 L (ac 359 [ptr tp 0,i64 a,i64 e,i64 x] K):=by
 refine LJ ?_
 unfold Bn
 exact Vn
def wW [i:ae L DX b (U,q) C][c:ae L lW tp [ptr b 0,i64 root,vw] C1](hK:G w0 L (K (.tuple #[]))):G w0 L (ac 362 [ptr tp 0,i64 a,.bool t] K):=by
 refine J0 ?_
 unfold zf
 exact Vn
def G9 [i:ae L DX b (U,q) C][a:ae L lW tp [ptr b 0,i64 root,vw] C1](hK:∀x,G w0 L (K (i64 x))):G w0 L (ac 326 [ptr tp 0] K):=by
 refine N0 ?_
 unfold Cs
 exact Vn
def ER [i:ae L DX b (U,q) C][c:ae L lW tp [ptr b 0,i64 root,vw] C1](hK:∀x,G w0 L (K (i64 x))):G w0 L (ac 373 [ptr tp 0,i64 a,i64 e] K):=by
 refine LR ?_
 unfold AV
 repeat' first|(with_reducible first|exact hj|exact hj _|refine dy λ_ _=>?_|refine cx λ_=>?_|refine ff λ_=>?_|refine kq λ_=>?_|refine dd (hK:=?_)|refine db ?_|refine dc λ_=>?_|refine fb ?_|refine de ?_|refine di λ_=>?_|refine df (hK:=?_)|refine dh λ_ _=>?_|refine G.cond (λ_=>?_) λ_=>?_|refine G.a4 (λ_ hj=>?_) λ_=>?_|refine G.bs ?_ λ_ hj=>?_|refine G.drew ?_)|simp (maxSteps:=2000000) only[↓RG,RP,RB,zac,Int.reduceEq,Int.reduceLT,Int.reduceLE,Nat.reduceEqDiff]
 refine jW λ_=>?_
 repeat' first|(with_reducible first|exact hj|exact hj _|refine dy λ_ _=>?_|refine cx λ_=>?_|refine ff λ_=>?_|refine kq λ_=>?_|refine dd (hK:=?_)|refine db ?_|refine dc λ_=>?_|refine fb ?_|refine de ?_|refine di λ_=>?_|refine df (hK:=?_)|refine dh λ_ _=>?_|refine G.cond (λ_=>?_) λ_=>?_|refine G.a4 (λ_ hj=>?_) λ_=>?_|refine G.bs ?_ λ_ hj=>?_|refine G.drew ?_)|simp (maxSteps:=2000000) only[↓RG,RP,RB,zac,Int.reduceEq,Int.reduceLT,Int.reduceLE,Nat.reduceEqDiff]
 refine jW λ_=>?_
 refine yd ?_
 refine yd ?_
 exact hK _
def Qd {n:Nat}(f:n<=ws.length)(e:ws.length<=1000000)[i:ae L DX b (U,q) C][g:ae L lW tp [ptr b 0,i64 root,vw] C1][r:Rd w0 L vw jG 2 ws](hK:G w0 L (K (.tuple #[]))):G w0 L (ac 319 [ptr tp 0,i64 n,i64 x] K):=by
 refine Mc ?_
 unfold Bq
 by_cases h:n=0
 ·subst h
  repeat' (first|(with_reducible exact hj)|(with_reducible exact hj _)|(with_reducible refine dy λ_ _=>?_)|(with_reducible refine cx λ_=>?_)|(with_reducible refine ff λ_=>?_)|(with_reducible refine kq λ_=>?_)|(with_reducible refine dd (by first|assumption|exact λ_=>kZ|exact λ_=>jN) ?_)|(with_reducible refine db ?_)|(with_reducible refine dc λ_=>?_)|(with_reducible refine fb ?_)|(with_reducible refine de ?_)|(with_reducible refine di λ_=>?_)|(with_reducible refine df (by first|assumption|exact λ_=>kZ|exact λ_=>jN) ?_)|(with_reducible refine dh λ_ _=>?_)|(with_reducible refine G.cond (λ_=>?_) (λ_=>?_))|(with_reducible refine G.a4 (λ_ hj=>?_) (λ_=>?_))|(with_reducible refine G.bs ?_ (λ_ hj=>?_))|(with_reducible refine G.drew ?_)|(simp (maxSteps:=2000000) only[↓RG,RP,RB,zac,Int.reduceEq,Int.reduceLT,Int.reduceLE,Nat.reduceEqDiff,Int.cast_ofNat_Int]))
  exact hK
 ·have c:¬(n:Int)=0:=by omega
  have a:IntKind.wrap .i64 ((n:Int)-1)=((n-1:Nat):Int):=by rw[jL zo zo];omega
  have d:iW ws (n-1) ws[n-1]:=⟨dg zo⟩
  repeat' (first|(with_reducible exact hj)|(with_reducible exact hj _)|(with_reducible refine dy λ_ _=>?_)|(with_reducible refine cx λ_=>?_)|(with_reducible refine ff λ_=>?_)|(with_reducible refine kq λ_=>?_)|(with_reducible refine dd (by first|assumption|exact λ_=>kZ|exact λ_=>jN) ?_)|(with_reducible refine db ?_)|(with_reducible refine dc λ_=>?_)|(with_reducible refine fb ?_)|(with_reducible refine de ?_)|(with_reducible refine di λ_=>?_)|(with_reducible refine df (by first|assumption|exact λ_=>kZ|exact λ_=>jN) ?_)|(with_reducible refine dh λ_ _=>?_)|(with_reducible refine G.cond (λ_=>?_) (λ_=>?_))|(with_reducible refine G.a4 (λ_ hj=>?_) (λ_=>?_))|(with_reducible refine G.bs ?_ (λ_ hj=>?_))|(with_reducible refine G.drew ?_)|(simp (maxSteps:=2000000) only[↓RG,RP,RB,zac,Int.reduceEq,Int.reduceLT,Int.reduceLE,Nat.reduceEqDiff,c,a]))
  refine yd ?_
  exact Vn
def X9 {j u2 k h:Int}(f:2<=ws.length)(e:ws.length<=1000000)[i:ae L DX b (U,q) C][g:ae L lW tp [ptr b 0,i64 root,vw] C1][r:Rd w0 L vw jG 2 ws](hK:G w0 L (K (.tuple #[]))):G w0 L (ac 361 [ptr tp 0,.agg [i64 j,i64 u2].toArray,.agg [i64 k,i64 h].toArray] K):=by
 refine Fv ?_
 unfold uc
 refine G.box λc=>?_
 refine G.box λd=>?_
 have a:IntKind.wrap .i64 ((ws.length:Int)-2)=((ws.length-2:Nat):Int):=by rw[jL zo zo];omega
 repeat' (first|(with_reducible exact hj)|(with_reducible exact hj _)|(with_reducible refine jW λ_=>?_)|(with_reducible refine yV λ_=>?_)|(with_reducible refine yd ?_)|(with_reducible refine wW ?_)|(with_reducible refine G9 λ_=>?_)|(with_reducible refine ER λ_=>?_)|(with_reducible refine dy λ_ _=>?_)|(with_reducible refine cx λ_=>?_)|(with_reducible refine ff λ_=>?_)|(with_reducible refine kq λ_=>?_)|(with_reducible refine dd (by first|assumption|exact λ_=>kZ|exact λ_=>jN) ?_)|(with_reducible refine db ?_)|(with_reducible refine dc λ_=>?_)|(with_reducible refine fb ?_)|(with_reducible refine de ?_)|(with_reducible refine di λ_=>?_)|(with_reducible refine df (by first|assumption|exact λ_=>kZ|exact λ_=>jN) ?_)|(with_reducible refine dh λ_ _=>?_)|(with_reducible refine G.cond (λ_=>?_) (λ_=>?_))|(with_reducible refine G.a4 (λ_ hj=>?_) (λ_=>?_))|(with_reducible refine G.bs ?_ (λ_ hj=>?_))|(with_reducible refine G.drew ?_)|(simp (maxSteps:=2000000) only[↓RG,RP,RB,zac,Int.reduceEq,Int.reduceLT,Int.reduceLE,Nat.reduceEqDiff,a]))
 ·refine Qd (ws:=ws) zo e ?_
  exact hK.sub
def ahs {f u2:Int}(h:1<=ws.length)(e:ws.length<=1000000)[i:ae L DX b (U,q) C][g:ae L lW tp [ptr b 0,i64 root,vw] C1][r:Rd w0 L vw jG 2 ws](hK:G w0 L (K (.tuple #[]))):G w0 L (ac 374 [ptr tp 0,.agg [i64 f,i64 u2].toArray,i64 a] K):=by
 refine LO ?_
 unfold At
 refine G.box λd=>?_
 have c:IntKind.wrap .i64 ((ws.length:Int)-1)=((ws.length-1:Nat):Int):=by rw[jL zo zo];omega
 repeat' (first|(with_reducible exact hj)|(with_reducible exact hj _)|(with_reducible refine jW λ_=>?_)|(with_reducible refine yV λ_=>?_)|(with_reducible refine yd ?_)|(with_reducible refine wW ?_)|(with_reducible refine G9 λ_=>?_)|(with_reducible refine ER λ_=>?_)|(with_reducible refine dy λ_ _=>?_)|(with_reducible refine cx λ_=>?_)|(with_reducible refine ff λ_=>?_)|(with_reducible refine kq λ_=>?_)|(with_reducible refine dd (by first|assumption|exact λ_=>kZ|exact λ_=>jN) ?_)|(with_reducible refine db ?_)|(with_reducible refine dc λ_=>?_)|(with_reducible refine fb ?_)|(with_reducible refine de ?_)|(with_reducible refine di λ_=>?_)|(with_reducible refine df (by first|assumption|exact λ_=>kZ|exact λ_=>jN) ?_)|(with_reducible refine dh λ_ _=>?_)|(with_reducible refine G.cond (λ_=>?_) (λ_=>?_))|(with_reducible refine G.a4 (λ_ hj=>?_) (λ_=>?_))|(with_reducible refine G.bs ?_ (λ_ hj=>?_))|(with_reducible refine G.drew ?_)|(simp (maxSteps:=2000000) only[↓RG,RP,RB,zac,Int.reduceEq,Int.reduceLT,Int.reduceLE,Nat.reduceEqDiff,c]))
 refine G.eT (λn:Int=>i64 n) (λx=>?_) λj hj=>?_
 ·repeat' (first|(with_reducible exact hj)|(with_reducible exact hj _)|(with_reducible refine jW λ_=>?_)|(with_reducible refine yV λ_=>?_)|(with_reducible refine yd ?_)|(with_reducible refine wW ?_)|(with_reducible refine G9 λ_=>?_)|(with_reducible refine ER λ_=>?_)|(with_reducible refine dy λ_ _=>?_)|(with_reducible refine cx λ_=>?_)|(with_reducible refine ff λ_=>?_)|(with_reducible refine kq λ_=>?_)|(with_reducible refine dd (by first|assumption|exact λ_=>kZ|exact λ_=>jN) ?_)|(with_reducible refine db ?_)|(with_reducible refine dc λ_=>?_)|(with_reducible refine fb ?_)|(with_reducible refine de ?_)|(with_reducible refine di λ_=>?_)|(with_reducible refine df (by first|assumption|exact λ_=>kZ|exact λ_=>jN) ?_)|(with_reducible refine dh λ_ _=>?_)|(with_reducible refine G.cond (λ_=>?_) (λ_=>?_))|(with_reducible refine G.a4 (λ_ hj=>?_) (λ_=>?_))|(with_reducible refine G.bs ?_ (λ_ hj=>?_))|(with_reducible refine G.drew ?_)|(simp (maxSteps:=2000000) only[↓RG,RP,RB,zac,Int.reduceEq,Int.reduceLT,Int.reduceLE,Nat.reduceEqDiff,c]))
  refine Qd (ws:=ws) zo e ?_
  exact hK.sub
 all_goals exact zcv
def XW {m f:Nat}(w:m<=10000)(hK:∀x vw' ws',ax vw' [vw']->ws'.length<=m->G w0 (own tp [ptr b 0,i64 root,vw']::sl jG vw' ws'::ob DX b (U,(m,f))::M) (K (i64 x))):G w0 (own tp [ptr b 0,i64 root,vw]::ob DX b (U,(m,f))::M) (ac 318 [ptr tp 0,u64 k] K):=by
 refine LU ?_
 unfold A3
 refine mK ?_
 refine bi ?_
 refine G.a3 jG ?_
 refine G9 λt=>?_
 refine G.sub (L':=own tp [ptr b 0,i64 root,.slice none 0 0]::sl jG (.slice none 0 0) []::ob DX b (U,(m,f))::M) ?_
 refine G.a8 (σ:=Nat×Int×Value×List (Int×Int)) (λz=>i64 z.2.1) (λz=>own tp [ptr b 0,i64 root,z.2.2.1]::sl jG z.2.2.1 z.2.2.2::ob DX b (U,(z.1,f))::M) (λz=>ax z.2.2.1 [z.2.2.1]/\z.2.2.2.length+z.1<=m) (λz=>z.1) (m,t,.slice none 0 0,[]) rfl rfl ⟨bj,zs⟩ ?_
 rintro⟨c,at_,e,d⟩ ⟨p,o⟩ J hJ
 simp only at p o hJ ⊢
 have a:∀c x,d.length+c<=m->G w0 (own tp [ptr b 0,i64 root,e]::sl jG e d::ob DX b (U,(c,f))::M) (K (i64 x)):=λc x h=>by
  refine G.sub (L':=ob DX b (U,(c,f))::own tp [ptr b 0,i64 root,e]::sl jG e d::M) ?_
  refine G.dx (q':=(m,f)) (by simp only;omega) (LT _) ?_
  exact(hK x e d p zo).sub
 by_cases r:at_=0
 ·subst r
  refine ar ?_
  exact a c 0 o
 ·refine ca r ?_
  refine Fm (q:=(c,f)) (λs g=>?_) ?_
  ·simp only at g
   refine ar ?_
   refine dy λy _=>ar ?_
   refine G.cond (λ_=>?_) (λ_=>?_)
   ·exact a s _ zo
   ·refine ar ?_
    refine G.eT (λn:Int=>i64 n) (λl=>?_) λj hj=>?_
    ·refine ar ?_
     refine G.build jG [(at_,l)] rfl zd rfl λy v=>?_
     refine G.append (E:=jG) (xs:=d) (ys:=[(at_,l)]) (by simp;omega) (by simp[maxLen];omega) λu i=>ar ?_
     refine jW λz=>?_
     exact(hJ (s,z,u,d++[(at_,l)]) ⟨i,by simp only[LE,gg];omega⟩ (by simp only;omega)).sub
    all_goals exact Vn
  ·refine ar ?_
   exact a c 0 o
def ais {m f:Nat}(B:m<=10000)(A:ws.length<=100000)(o:ax vw [vw])(hK:∀x vw' ws',ax vw' [vw']->ws'.length<=ws.length+1+m->G w0 (own tp [ptr b 0,i64 root,vw']::sl jG vw' ws'::ob DX b (U,(m,f))::M) (K (i64 x))):G w0 (own tp [ptr b 0,i64 root,vw]::sl jG vw ws::ob DX b (U,(m,f))::M) (ac 363 [ptr tp 0,i64 a] K):=by
 refine Mm ?_
 unfold AC
 refine ar ?_
 refine G.build jG [(a,1)] rfl zd rfl λy s=>?_
 refine G.append (E:=jG) (xs:=ws) (ys:=[(a,1)]) (by simp;omega) (by simp[maxLen];omega) λn j=>ar ?_
 refine jW λt=>?_
 refine G.bk ?_
 refine G.sub (L':=own tp [ptr b 0,i64 root,n]::sl jG n (ws++[(a,1)])::ob DX b (U,(m,f))::M) ?_
 refine G.a8 (σ:=Nat×Int×Value×List (Int×Int)) (λz=>i64 z.2.1) (λz=>own tp [ptr b 0,i64 root,z.2.2.1]::sl jG z.2.2.1 z.2.2.2::ob DX b (U,(z.1,f))::M) (λz=>ax z.2.2.1 [z.2.2.1]/\z.2.2.2.length+z.1<=ws.length+1+m/\z.1<=m) (λz=>z.1) (m,t,n,ws++[(a,1)]) rfl rfl ⟨j,zs,LT _⟩ ?_
 rintro⟨c,at_,g,e⟩ ⟨o,r,i⟩ J hJ
 simp only at o r i hJ ⊢
 have d:∀c x,e.length+c<=ws.length+1+m->c<=m->G w0 (own tp [ptr b 0,i64 root,g]::sl jG g e::ob DX b (U,(c,f))::M) (K (i64 x)):=λc x h w=>by
  refine G.sub (L':=ob DX b (U,(c,f))::own tp [ptr b 0,i64 root,g]::sl jG g e::M) ?_
  refine G.dx (q':=(m,f)) (by simp only;omega) (LT _) ?_
  exact(hK x g e o zo).sub
 refine ar ?_
 refine Fm (q:=(c,f)) (λp k=>?_) ?_
 ·simp only at k
  refine ar ?_
  refine jW λy=>ar ?_
  refine G.cond (λ_=>?_) (λ_=>?_)
  ·exact d p _ zo zo
  ·refine ar ?_
   refine G.build jG [(at_,0)] rfl zd rfl λv s=>?_
   refine G.append (E:=jG) (xs:=e) (ys:=[(at_,0)]) (by simp;omega) (by simp[maxLen];omega) λu l=>ar ?_
   exact(hJ (p,y,u,e++[(at_,0)]) ⟨l,by simp only[LE,gg];omega,by simp only;omega⟩ (by simp only;omega)).sub
 ·refine ar ?_
  exact d c _ r i
def acC {m f:Nat}(O:ws.length<=100000)(r:ax vw [vw])(hK:∀vw' ws',ax vw' [vw']->G w0 (own tp [ptr b 0,i64 root,vw']::sl jG vw' ws'::ob DX b (U,(m,f))::M) (K (.tuple #[]))):G w0 (own tp [ptr b 0,i64 root,vw]::sl jG vw ws::ob DX b (U,(m,f))::M) (ac 320 [ptr tp 0] K):=by
 refine IU ?_
 unfold yE
 refine mK ?_
 refine G.cV (σ:=Nat×Value×List (Int×Int)) (λz=>own tp [ptr b 0,i64 root,z.2.1]::sl jG z.2.1 z.2.2::ob DX b (U,(z.1,f))::M) (λz=>ax z.2.1 [z.2.1]/\z.2.2.length<=100000/\z.1<=m) (λz=>z.1) (m,vw,ws) rfl ⟨r,O,LT _⟩ ?_
 rintro⟨e,g,a⟩ ⟨r,I,k⟩ J hJ
 simp only at r I k hJ ⊢
 have d:∀e,e<=m->∀s,(∀F,G w0 (own tp [ptr b 0,i64 root,g]::sl jG g a::ob DX b (U,(e,f))::M) F->G w0 s F)->G w0 s (K (.tuple #[])):=λe w s B=>B _ (by
  refine G.sub (L':=ob DX b (U,(e,f))::own tp [ptr b 0,i64 root,g]::sl jG g a::M) ?_
  refine G.dx (q':=(m,f)) (by simp only;omega) (LT _) ?_
  exact(hK g a r).sub)
 have i:∀e,e<=m->∀t:Bool,G w0 (own tp [ptr b 0,i64 root,g]::sl jG g a::ob DX b (U,(e,f))::M) (aw (K (.tuple #[])) λA=>aj (.bool t) (ac 326 [ptr tp 0] λl=>ac 362 [ptr tp 0,l,.bool false] λx=>A) A):=λe w t=>by
  refine G.bs (d e w _ λF h=>h) λj hj=>?_
  exact zcv
 by_cases H:2<=a.length
 ·have c:(2:Int)<=(a.length:Int):=by omega
  have n:¬(a.length:Int)<2:=by omega
  have D:iW a (a.length-1) a[a.length-1]:=⟨dg zo⟩
  have C:iW a (a.length-2) a[a.length-2]:=⟨dg zo⟩
  have y:IntKind.wrap .i64 ((a.length:Int)-1)=((a.length-1:Nat):Int):=by rw[jL zo zo];omega
  have v:IntKind.wrap .i64 ((a.length:Int)-2)=((a.length-2:Nat):Int):=by rw[jL zo zo];omega
  generalize a[a.length-1]=up at D
  generalize a[a.length-2]=gpar at C
  refine ca (eq_true c) ?_
  refine Fm (q:=(e,f)) (λu o=>?_) ?_
  ·simp only at o
   refine ar ?_
   refine G.aU (ca (an @y @v) ?_)
   refine G.drew (ca (an @y @v) ?_)
   refine⟨?_,?_⟩
   all_goals
    refine G.new λL=>ar ?_
    refine G.new λN=>ar ?_
    refine yV λ_=>ar ?_
    refine G.cond (λ_=>?_) (λ_=>?_)
    ·exact d u zo _ λF h=>h.sub
    refine ar ?_
    refine jW λ_=>?_
    refine yV λ_=>ar ?_
    refine G.cond (λ_=>?_) (λ_=>?_)
    ·refine ar ?_
     refine X9 (ws:=a) H zo ?_
     exact d u zo _ λF h=>h.sub
    ·repeat' (first|(with_reducible exact hj)|(with_reducible exact hj _)|(with_reducible refine jW λ_=>?_)|(with_reducible refine yV λ_=>?_)|(with_reducible refine yd ?_)|(with_reducible refine wW ?_)|(with_reducible refine G9 λ_=>?_)|(with_reducible refine ER λ_=>?_)|(with_reducible refine dy λ_ _=>?_)|(with_reducible refine cx λ_=>?_)|(with_reducible refine ff λ_=>?_)|(with_reducible refine kq λ_=>?_)|(with_reducible refine dd (by first|assumption|exact λ_=>kZ|exact λ_=>jN) ?_)|(with_reducible refine db ?_)|(with_reducible refine dc λ_=>?_)|(with_reducible refine fb ?_)|(with_reducible refine de ?_)|(with_reducible refine di λ_=>?_)|(with_reducible refine df (by first|assumption|exact λ_=>kZ|exact λ_=>jN) ?_)|(with_reducible refine dh λ_ _=>?_)|(with_reducible refine G.cond (λ_=>?_) (λ_=>?_))|(with_reducible refine G.a4 (λ_ hj=>?_) (λ_=>?_))|(with_reducible refine G.bs ?_ (λ_ hj=>?_))|(with_reducible refine G.drew ?_)|(simp (maxSteps:=2000000) only[↓RG,RP,RB,zac,Int.reduceEq,Int.reduceLT,Int.reduceLE,Nat.reduceEqDiff,v]))
     refine G.take (m:=a.length-2) zo λE p=>ar ?_
     exact(hJ (u,E,a.take (a.length-2)) ⟨p,by simp only[zaC];omega,by simp only;omega⟩ (by simp only;omega)).sub
  ·refine ca n ?_
   refine G.aU ?_
   exact d e k _ λF h=>h
 ·have c:¬(2:Int)<=(a.length:Int):=by omega
  have n:(a.length:Int)<2:=by omega
  try simp (maxSteps:=2000000) only[↓RG,RP,RB,zac,Int.reduceEq,Int.reduceLT,Int.reduceLE,Nat.reduceEqDiff,c,eq_true n]
  refine kq λt=>ar ?_
  exact i e k t
def abu {m f:Nat}(H:m<=10000)(D:ws.length<=100000)(r:ax vw [vw])(hK:∀vw' ws',ax vw' [vw']->G w0 (own tp [ptr b 0,i64 root,vw']::sl jG vw' ws'::ob DX b (U,(m,f))::M) (K (.tuple #[]))):G w0 (own tp [ptr b 0,i64 root,vw]::sl jG vw ws::ob DX b (U,(m,f))::M) (ac 364 [ptr tp 0] K):=by
 refine F8 ?_
 unfold wz
 refine mK ?_
 refine G.cV (σ:=Nat×Value×List (Int×Int)) (λz=>own tp [ptr b 0,i64 root,z.2.1]::sl jG z.2.1 z.2.2::ob DX b (U,(z.1,f))::M) (λz=>ax z.2.1 [z.2.1]/\z.2.2.length+z.1<=110000/\z.1<=m) (λz=>z.1) (m,vw,ws) rfl ⟨r,by simp only;omega,LT _⟩ ?_
 rintro⟨e,j,a⟩ ⟨r,x,g⟩ J hJ
 simp only at r x g hJ ⊢
 have d:∀e,e<=m->∀t,(∀F,G w0 (own tp [ptr b 0,i64 root,j]::sl jG j a::ob DX b (U,(e,f))::M) F->G w0 t F)->G w0 t (K (.tuple #[])):=λe B t u=>u _ (by
  refine G.sub (L':=ob DX b (U,(e,f))::own tp [ptr b 0,i64 root,j]::sl jG j a::M) ?_
  refine G.dx (q':=(m,f)) (by simp only;omega) (LT _) ?_
  exact(hK j a r).sub)
 by_cases w:0<a.length
 ·have c:(0:Int)<(a.length:Int):=by omega
  have v:iW a (a.length-1) a[a.length-1]:=⟨dg zo⟩
  have k:IntKind.wrap .i64 ((a.length:Int)-1)=((a.length-1:Nat):Int):=by rw[jL zo zo];omega
  generalize a[a.length-1]=up at v
  refine ca (eq_true c) ?_
  refine Fm (q:=(e,f)) (λl p=>?_) ?_
  ·simp only at p
   refine ar ?_
   refine G.aU (ca @k ?_)
   refine G.new λA=>ar ?_
   refine jW λo=>?_
   refine yV λ_=>ar ?_
   refine G.cond (λ_=>?_) (λ_=>?_)
   ·repeat' (first|(with_reducible exact hj)|(with_reducible exact hj _)|(with_reducible refine jW λ_=>?_)|(with_reducible refine yV λ_=>?_)|(with_reducible refine yd ?_)|(with_reducible refine wW ?_)|(with_reducible refine G9 λ_=>?_)|(with_reducible refine ER λ_=>?_)|(with_reducible refine dy λ_ _=>?_)|(with_reducible refine cx λ_=>?_)|(with_reducible refine ff λ_=>?_)|(with_reducible refine kq λ_=>?_)|(with_reducible refine dd (by first|assumption|exact λ_=>kZ|exact λ_=>jN) ?_)|(with_reducible refine db ?_)|(with_reducible refine dc λ_=>?_)|(with_reducible refine fb ?_)|(with_reducible refine de ?_)|(with_reducible refine di λ_=>?_)|(with_reducible refine df (by first|assumption|exact λ_=>kZ|exact λ_=>jN) ?_)|(with_reducible refine dh λ_ _=>?_)|(with_reducible refine G.cond (λ_=>?_) (λ_=>?_))|(with_reducible refine G.a4 (λ_ hj=>?_) (λ_=>?_))|(with_reducible refine G.bs ?_ (λ_ hj=>?_))|(with_reducible refine G.drew ?_)|(simp (maxSteps:=2000000) only[↓RG,RP,RB,zac,Int.reduceEq,Int.reduceLT,Int.reduceLE,Nat.reduceEqDiff,k]))
    refine Qd (ws:=a) (n:=a.length-1) zo zo ?_
    repeat' (first|(with_reducible exact hj)|(with_reducible exact hj _)|(with_reducible refine jW λ_=>?_)|(with_reducible refine yV λ_=>?_)|(with_reducible refine yd ?_)|(with_reducible refine wW ?_)|(with_reducible refine G9 λ_=>?_)|(with_reducible refine ER λ_=>?_)|(with_reducible refine dy λ_ _=>?_)|(with_reducible refine cx λ_=>?_)|(with_reducible refine ff λ_=>?_)|(with_reducible refine kq λ_=>?_)|(with_reducible refine dd (by first|assumption|exact λ_=>kZ|exact λ_=>jN) ?_)|(with_reducible refine db ?_)|(with_reducible refine dc λ_=>?_)|(with_reducible refine fb ?_)|(with_reducible refine de ?_)|(with_reducible refine di λ_=>?_)|(with_reducible refine df (by first|assumption|exact λ_=>kZ|exact λ_=>jN) ?_)|(with_reducible refine dh λ_ _=>?_)|(with_reducible refine G.cond (λ_=>?_) (λ_=>?_))|(with_reducible refine G.a4 (λ_ hj=>?_) (λ_=>?_))|(with_reducible refine G.bs ?_ (λ_ hj=>?_))|(with_reducible refine G.drew ?_)|(simp (maxSteps:=2000000) only[↓RG,RP,RB,zac,Int.reduceEq,Int.reduceLT,Int.reduceLE,Nat.reduceEqDiff,k]))
    refine G.build jG [up] rfl zd rfl λy C=>ar ?_
    refine G.append (E:=jG) (xs:=a.set (a.length-1) (o,up.2)) (ys:=[up]) (by simp;omega) (by simp[maxLen];omega) λs i=>ar ?_
    exact(hJ (l,s,a.set (a.length-1) (o,up.2)++[up]) ⟨i,by simp only[LE,zaZ,gg];omega,by simp only;omega⟩ (by simp only;omega)).sub
   ·refine jW λ_=>?_
    refine yV λ_=>?_
    repeat' (first|(with_reducible exact hj)|(with_reducible exact hj _)|(with_reducible refine jW λ_=>?_)|(with_reducible refine yV λ_=>?_)|(with_reducible refine yd ?_)|(with_reducible refine wW ?_)|(with_reducible refine G9 λ_=>?_)|(with_reducible refine ER λ_=>?_)|(with_reducible refine dy λ_ _=>?_)|(with_reducible refine cx λ_=>?_)|(with_reducible refine ff λ_=>?_)|(with_reducible refine kq λ_=>?_)|(with_reducible refine dd (by first|assumption|exact λ_=>kZ|exact λ_=>jN) ?_)|(with_reducible refine db ?_)|(with_reducible refine dc λ_=>?_)|(with_reducible refine fb ?_)|(with_reducible refine de ?_)|(with_reducible refine di λ_=>?_)|(with_reducible refine df (by first|assumption|exact λ_=>kZ|exact λ_=>jN) ?_)|(with_reducible refine dh λ_ _=>?_)|(with_reducible refine G.cond (λ_=>?_) (λ_=>?_))|(with_reducible refine G.a4 (λ_ hj=>?_) (λ_=>?_))|(with_reducible refine G.bs ?_ (λ_ hj=>?_))|(with_reducible refine G.drew ?_)|(simp (maxSteps:=2000000) only[↓RG,RP,RB,zac,Int.reduceEq,Int.reduceLT,Int.reduceLE,Nat.reduceEqDiff,k]))
    ·refine ahs (ws:=a) w zo ?_
     exact d l zo _ λF h=>h.sub
    ·exact d l zo _ λF h=>h.sub
    ·refine G.take (m:=a.length-1) zo λs i=>ar ?_
     exact(hJ (l,s,a.take (a.length-1)) ⟨i,by simp only[zaC];omega,by simp only;omega⟩ (by simp only;omega)).sub
  ·refine ar ?_
   exact d e g _ λF h=>h
 ·have c:¬(0:Int)<(a.length:Int):=by omega
  refine ca c ?_
  exact d e g _ λF h=>h
abbrev aky:={ p:Value×List (Int×Int) // ax p.1 [p.1]/\p.2.length<=50000 }
def ajY {m:Nat}(o:m<=10000)(v:ws.length<=30000)(l:ax vw [vw])(hK:∀vw' ws',ax vw' [vw']->G w0 (own tp [ptr b 0,i64 root,vw']::sl jG vw' ws'::ob DX b (U,(m,1))::M) (K (.tuple #[]))):G w0 (own tp [ptr b 0,i64 root,vw]::sl jG vw ws::ob DX b (U,(m,0))::M) (ac 323 [ptr tp 0,i64 a] K):=by
 refine NL ?_
 unfold CL
 refine mK ?_
 refine jW λ_=>ar ?_
 refine G.a4 (λ_ hj=>?_) (λt=>?_)
 ·refine ar ?_
  refine jW λ_=>?_
  exact Vn
 ·refine G.d9 (α:=Int×aky) (λz=>i64 z.1) (λz=>own tp [ptr b 0,i64 root,z.2.1.1]::sl jG z.2.1.1 z.2.1.2::ob DX b (U,(m,0))::M) (λz=>?_) λj hj=>?_
  ·obtain⟨at_,⟨⟨h,e⟩,c,g⟩⟩:=z
   simp only at c g ⊢
   refine jW λ_=>ar ?_
   refine G.eT (λn:Int=>i64 n) (λs=>?_) λj hj=>?_
   ·refine yV λu=>ar ?_
    refine Qd (ws:=e) (n:=e.length) (LT _) zo ?_
    refine G.fv (α:={ p:Value×List (Int×Int) // ax p.1 [p.1] }) (λz=>own tp [ptr b 0,i64 root,z.1.1]::sl jG z.1.1 z.1.2::ob DX b (U,(m,0))::M) (λz=>?_) λj hj=>?_
    ·obtain⟨⟨i,k⟩,d⟩:=z
     simp only at d ⊢
     refine ar ?_
     refine OH (q:=(m,0)) (zag _) ?_
     exact hK i k d
    ·have f:=hj ⟨(h,e),c⟩
     refine G.cond (λ_=>?_) (λ_=>?_)
     ·exact f
     ·refine yV λr=>?_
      refine G.aU ?_
      refine G.cond (λ_=>?_) (λ_=>?_)
      ·refine wW ?_
       exact f
      ·refine abu o zo c λi k d=>?_
       exact hj ⟨(i,k),d⟩
   ·refine G.cond (λ_=>?_) (λ_=>?_)
    ·refine jW λ_=>?_
     exact hj _
    ·exact hj _
  ·refine G.cond (λ_=>?_) (λ_=>?_)
   ·refine ais o zo l λx h e c g=>?_
    have hj:=hj (x,⟨(h,e),c,by simp only;omega⟩)
    exact Vn
   ·exact hj (a,⟨(vw,ws),l,by simp only;omega⟩)
def abY {lo hi:Int}:∀(m:Nat){f:Nat}{K:KV}{v:Value}{xs:List AB}{a:Int},ax v [v]->xs.length+m<=100000->(∀m' v' xs',m'<=m->xs'.length+m'<=xs.length+m->ax v' [v']->G w0 (own tp [ptr b 0,i64 root,vw]::ob DX b (U,(m',f))::sl pZ v' xs'::M) (K v'))->G w0 (own tp [ptr b 0,i64 root,vw]::ob DX b (U,(m,f))::sl pZ v xs::M) (ac 325 [ptr tp 0,i64 a,u64 lo,u64 hi,v] K):=λm=>by
 induction m using Nat.strongRecOn with
 |_ m ih =>
  intro f K v xs a hv hl hK
  refine Gz ?_
  unfold wx
  refine mK ?_
  by_cases h0:a=0
  ·subst h0
   refine ar ?_
   exact hK m v xs (LT _) (LT _) hv
  refine ca h0 ?_
  refine Fm (q:=(m,f)) (λm2 hm2=>?_) ?_
  ·simp only at hm2
   refine ar ?_
   refine dy λkey _=>ar ?_
   refine G.d9 (α:={ z:Nat×Value×List AB // z.1<=m2/\z.2.2.length+z.1<=xs.length+m2/\ax z.2.1 [z.2.1] }) (λz=>z.1.2.1) (λz=>own tp [ptr b 0,i64 root,vw]::ob DX b (U,(z.1.1,f))::sl pZ z.1.2.1 z.1.2.2::M) (λz=>?_) λj hj=>?_
   ·obtain⟨⟨m3,v3,w3⟩,g1,g2,g3⟩:=z
    simp only at g1 g2 g3 ⊢
    refine ar ?_
    refine G.d9 (α:={ z:Nat×Value×List AB // z.1<=m2/\z.2.2.length+z.1<=xs.length+m2+1/\ax z.2.1 [z.2.1] }) (λz=>z.1.2.1) (λz=>own tp [ptr b 0,i64 root,vw]::ob DX b (U,(z.1.1,f))::sl pZ z.1.2.1 z.1.2.2::M) (λz=>?_) λj2 hj2=>?_
    ·obtain⟨⟨m4,v4,w4⟩,q1,q2,q3⟩:=z
     simp only at q1 q2 q3 ⊢
     refine ar ?_
     refine G.bk ?_
     refine G.cond (λ_=>?_) (λ_=>?_)
     ·refine jW λ_=>?_
      refine ih m4 zo q3 zo λm5 v5 w5 r1 r2 r3=>?_
      exact hK m5 v5 w5 zo zo r3
     ·exact hK m4 v4 w4 zo zo q3
    ·refine G.cond (λ_=>?_) (λ_=>?_)
     ·refine ar ?_
      refine dy λy _=>ar ?_
      refine G.build pZ [⟨key,y⟩] rfl zd rfl λy2 hy=>?_
      refine G.append (E:=pZ) (xs:=w3) (ys:=[⟨key,y⟩]) (by simp;omega) (by simp[maxLen];omega) λv4 hv4=>?_
      exact(hj2 ⟨(m3,v4,w3++[⟨key,y⟩]),g1,by simp only[LE,gg];omega,hv4⟩).sub
     ·exact hj2 ⟨(m3,v3,w3),g1,by simp only;omega,g3⟩
   ·refine G.cond (λ_=>?_) (λ_=>?_)
    ·refine jW λ_=>?_
     refine ih m2 zo hv zo λm5 v5 w5 q1 q2 q3=>?_
     exact hj ⟨(m5,v5,w5),q1,q2,q3⟩
    ·exact hj ⟨(m2,v,xs),LT _,LT _,hv⟩
  ·refine ar ?_
   exact hK m v xs (LT _) (LT _) hv
end
section
variable {x1 x2 x3 x4:Nat}{s:iX}{lo hi:Int}
def S4 {m:Nat}(i:m<=10000)(j:U->kY k)(l:U->kY x) [dn [ob DX b (U,(m,0)),own x1 [i64 root],own x2 [u64 k],own x3 [u64 x],ob nq x4 ()] L M](hK:G w0 (ob DX b (U,(m,0))::own x1 [i64 root]::own x2 [u64 k]::own x3 [u64 x]::ob nq x4 ()::M) (K (.tuple #[]))):G w0 L (ac 317 [ptr b 0,ptr x1 0,ptr x2 0,ptr x3 0,ptr x4 0] K):=by
 refine G.ap (As:=[ob DX b (U,(m,0)),own x1 [i64 root],own x2 [u64 k],own x3 [u64 x],ob nq x4 ()]) ?_
 simp only[Fn,GT]
 refine Ui ?_
 unfold KB
 refine ar ?_
 refine G.box λg=>ar ?_
 refine XW i λat_ f ws c h=>?_
 repeat' first|(with_reducible first|exact hj|exact hj _|refine dy λ_ _=>?_|refine cx λ_=>?_|refine ff λ_=>?_|refine kq λ_=>?_|refine dd (hK:=?_)|refine db ?_|refine dc λ_=>?_|refine fb ?_|refine de ?_|refine di λ_=>?_|refine df (hK:=?_)|refine dh λ_ _=>?_|refine G.cond (λ_=>?_) λ_=>?_|refine G.a4 (λ_ hj=>?_) λ_=>?_|refine G.bs ?_ λ_ hj=>?_|refine G.drew ?_)|simp (maxSteps:=2000000) only[↓RG,RP,RB,zac,Int.reduceEq,Int.reduceLT,Int.reduceLE,Nat.reduceEqDiff]
 ·exact hK.sub
 ·exact hK.sub
 ·refine dd (λ_=>by unfold kY;omega) ?_
  repeat' first|(with_reducible first|exact hj|exact hj _|refine dy λ_ _=>?_|refine cx λ_=>?_|refine ff λ_=>?_|refine kq λ_=>?_|refine dd (hK:=?_)|refine db ?_|refine dc λ_=>?_|refine fb ?_|refine de ?_|refine di λ_=>?_|refine df (hK:=?_)|refine dh λ_ _=>?_|refine G.cond (λ_=>?_) λ_=>?_|refine G.a4 (λ_ hj=>?_) λ_=>?_|refine G.bs ?_ λ_ hj=>?_|refine G.drew ?_)|simp (maxSteps:=2000000) only[↓RG,RP,RB,zac,Int.reduceEq,Int.reduceLT,Int.reduceLE,Nat.reduceEqDiff]
  refine Qd (ws:=ws) (n:=ws.length) (LT _) zo ?_
  refine acC zo c λd e a=>?_
  repeat' first|(with_reducible first|exact hj|exact hj _|refine dy λ_ _=>?_|refine cx λ_=>?_|refine ff λ_=>?_|refine kq λ_=>?_|refine dd (hK:=?_)|refine db ?_|refine dc λ_=>?_|refine fb ?_|refine de ?_|refine di λ_=>?_|refine df (hK:=?_)|refine dh λ_ _=>?_|refine G.cond (λ_=>?_) λ_=>?_|refine G.a4 (λ_ hj=>?_) λ_=>?_|refine G.bs ?_ λ_ hj=>?_|refine G.drew ?_)|simp (maxSteps:=2000000) only[↓RG,RP,RB,zac,Int.reduceEq,Int.reduceLT,Int.reduceLE,Nat.reduceEqDiff]
  exact hK.sub
def Tr {m:Nat}(g:m<=10000) [dn [ob DX b (U,(m,0)),own x1 [i64 root],own x2 [u64 k],ob IK x3 U,ob nq x4 ()] L M](hK:G w0 (ob DX b (U,(m,0))::own x1 [i64 root]::own x2 [u64 k]::ob IK x3 U::ob nq x4 ()::M) (K (.tuple #[]))):G w0 L (ac 321 [ptr b 0,ptr x1 0,ptr x2 0,ptr x3 0,ptr x4 0] K):=by
 refine G.ap (As:=[ob DX b (U,(m,0)),own x1 [i64 root],own x2 [u64 k],ob IK x3 U,ob nq x4 ()]) ?_
 simp only[Fn,GT]
 refine Tu ?_
 unfold KI
 refine ar ?_
 refine G.box λd=>ar ?_
 refine XW g λat_ c e a f=>?_
 exact Vn
def Ux {m:Nat}(d:m<=10000) [dn [ob DX b (U,(m,0)),own x1 [i64 root],own x2 [u64 k],ob nq x3 ()] L M](hK:G w0 (ob DX b (U,(m,1))::own x1 [i64 root]::own x2 [u64 k]::ob nq x3 ()::M) (K (.tuple #[]))):G w0 L (ac 322 [ptr b 0,ptr x1 0,ptr x2 0,ptr x3 0] K):=by
 refine G.ap (As:=[ob DX b (U,(m,0)),own x1 [i64 root],own x2 [u64 k],ob nq x3 ()]) ?_
 simp only[Fn,GT]
 refine Ud ?_
 unfold Jt
 refine mK ?_
 refine ar ?_
 refine G.box λh=>ar ?_
 refine XW d λat_ g i c j=>ar ?_
 refine G.a4 (λ_ hj=>?_) (λt=>?_)
 ·repeat' first|(with_reducible first|exact hj|exact hj _|refine dy λ_ _=>?_|refine cx λ_=>?_|refine ff λ_=>?_|refine kq λ_=>?_|refine dd (hK:=?_)|refine db ?_|refine dc λ_=>?_|refine fb ?_|refine de ?_|refine di λ_=>?_|refine df (hK:=?_)|refine dh λ_ _=>?_|refine G.cond (λ_=>?_) λ_=>?_|refine G.a4 (λ_ hj=>?_) λ_=>?_|refine G.bs ?_ λ_ hj=>?_|refine G.drew ?_)|simp (maxSteps:=2000000) only[↓RG,RP,RB,zac,Int.reduceEq,Int.reduceLT,Int.reduceLE,Nat.reduceEqDiff]
 refine G.aU ?_
 refine G.cond (λ_=>?_) (λ_=>?_)
 ·refine ajY d zo c λe f a=>?_
  repeat' first|(with_reducible first|exact hj|exact hj _|refine dy λ_ _=>?_|refine cx λ_=>?_|refine ff λ_=>?_|refine kq λ_=>?_|refine dd (hK:=?_)|refine db ?_|refine dc λ_=>?_|refine fb ?_|refine de ?_|refine di λ_=>?_|refine df (hK:=?_)|refine dh λ_ _=>?_|refine G.cond (λ_=>?_) λ_=>?_|refine G.a4 (λ_ hj=>?_) λ_=>?_|refine G.bs ?_ λ_ hj=>?_|refine G.drew ?_)|simp (maxSteps:=2000000) only[↓RG,RP,RB,zac,Int.reduceEq,Int.reduceLT,Int.reduceLE,Nat.reduceEqDiff]
  exact hK.sub
 ·refine G.sub (L':=ob DX b (U,(m,0))::own x1 [i64 root]::own x2 [u64 k]::ob nq x3 ()::M) ?_
  exact G.dx (q':=(m,1)) zs zs hK
def RT (p n:Nat):bg:=pz λv=>pz λxs:List AB=>cj (kx (ax v [v]/\xs.length<=n)) (cj (own p [v]) (sl pZ v xs))
def L6 {p n:Nat}:G w0 (ob RT p n::M) F=∀v (xs:List AB),(ax v [v]/\xs.length<=n)->G w0 (own p [v]::sl pZ v xs::M) F:=by rw[iw,RT];simp only[pM,im,jk]
def aag (p n:Nat)(v:Value)(xs:List AB)(h:ax v [v]/\xs.length<=n) [dn [own p [v],sl pZ v xs] L M](H:G w0 (ob RT p n::M) F):G w0 L F:=G.ap (As:=[own p [v],sl pZ v xs]) (by rw[L6]at H;exact H v xs h)
def QA {m:Nat}(k:m<=10000) [dn [ob DX b (U,(m,0)),own x1 [i64 root],own x2 [u64 lo],own x3 [u64 hi],ob RT x4 10000] L M](hK:G w0 (ob DX b (U,(m,0))::own x1 [i64 root]::own x2 [u64 lo]::own x3 [u64 hi]::ob RT x4 10000::M) (K (.tuple #[]))):G w0 L (ac 324 [ptr b 0,ptr x1 0,ptr x2 0,ptr x3 0,ptr x4 0] K):=by
 refine G.ap (As:=[ob DX b (U,(m,0)),own x1 [i64 root],own x2 [u64 lo],own x3 [u64 hi],ob RT x4 10000]) ?_
 simp only[Fn,GT]
 refine Pb ?_
 unfold Eu
 refine ar ?_
 refine G.box λf=>?_
 refine G.drew (ar ?_)
 refine G9 λat_=>ar ?_
 refine G.a3 pZ ?_
 refine G.sub (L':=own f [ptr b 0,i64 root,.slice none 0 0]::ob DX b (U,(m,0))::sl pZ (.slice none 0 0) []::own x1 [i64 root]::own x2 [u64 lo]::own x3 [u64 hi]::ob RT x4 10000::M) ?_
 refine abY m bj (by simp;omega) λg h a d e c=>?_
 refine G.aJ RT x4 ?_
 rw[L6]
 intro j i _
 refine ar ?_
 refine aag x4 10000 h a ⟨c,by simp at e;omega⟩ ?_
 refine G.sub (L':=ob DX b (U,(g,0))::own x1 [i64 root]::own x2 [u64 lo]::own x3 [u64 hi]::ob RT x4 10000::M) ?_
 exact G.dx (q':=(m,0)) d (LT _) hK
def XJ (u:s.l.r.f.length<=100000)(q:U->Vg s)(o:U->kY k)(p:U->kY x)[i:ae L bf b s C](hK:∀t x e,Vl U s t e 1->G w0 (C (ob bf b t)) (K (.tuple #[.bool x,i64 e]))):G w0 L (ac 255 [ptr b 0,i64 root,u64 k,u64 x] K):=by
 refine YO ?_
 unfold P5
 refine G.box λn=>?_
 refine G.box λg=>?_
 refine G.box λd=>?_
 refine G.new λa=>ar ?_
 refine tH a false ?_
 refine NO (b:=b) (s:=s) 1 zd u q (λc j h=>?_) (λt e h=>?_)
 ·show G w0 _ (ac 317 [ptr c 0,ptr n 0,ptr g 0,ptr d 0,ptr a 0] j)
  refine S4 (U:=U) (m:=2048) (root:=root) zd o p ?_
  refine G.dx (q':=(2048,1)) zs zs ?_
  exact h.sub
 ·try simp (maxSteps:=2000000) only[ug,zS,qm,qu,zt,oJ]
  repeat' first|(with_reducible first|exact hj|exact hj _|refine dy λ_ _=>?_|refine cx λ_=>?_|refine ff λ_=>?_|refine kq λ_=>?_|refine dd (hK:=?_)|refine db ?_|refine dc λ_=>?_|refine fb ?_|refine de ?_|refine di λ_=>?_|refine df (hK:=?_)|refine dh λ_ _=>?_|refine G.cond (λ_=>?_) λ_=>?_|refine G.a4 (λ_ hj=>?_) λ_=>?_|refine G.bs ?_ λ_ hj=>?_|refine G.drew ?_)|simp (maxSteps:=2000000) only[↓RG,RP,RB,zac,Int.reduceEq,Int.reduceLT,Int.reduceLE,Nat.reduceEqDiff]
  all_goals exact(hK t _ e h).sub
def Ya (o:s.l.r.f.length<=100000)(n:U->Vg s)[i:ae L bf b s C](hK:∀t x e,Vl U s t e 1->G w0 (C (ob bf b t)) (K (.tuple #[.bool x,i64 e]))):G w0 L (ac 257 [ptr b 0,i64 root,u64 k] K):=by
 refine Xw ?_
 unfold P9
 refine G.box λj=>?_
 refine G.box λd=>?_
 refine G.new λa=>ar ?_
 refine tH a false ?_
 refine NO (b:=b) (s:=s) 1 zd o n (λc g h=>?_) (λt e h=>?_)
 ·show G w0 _ (ac 322 [ptr c 0,ptr j 0,ptr d 0,ptr a 0] g)
  refine Ux (U:=U) (m:=2048) (root:=root) (k:=k) zd ?_
  exact h.sub
 ·try simp (maxSteps:=2000000) only[ug,zS,qm,qu,zt,oJ]
  repeat' first|(with_reducible first|exact hj|exact hj _|refine dy λ_ _=>?_|refine cx λ_=>?_|refine ff λ_=>?_|refine kq λ_=>?_|refine dd (hK:=?_)|refine db ?_|refine dc λ_=>?_|refine fb ?_|refine de ?_|refine di λ_=>?_|refine df (hK:=?_)|refine dh λ_ _=>?_|refine G.cond (λ_=>?_) λ_=>?_|refine G.a4 (λ_ hj=>?_) λ_=>?_|refine G.bs ?_ λ_ hj=>?_|refine G.drew ?_)|simp (maxSteps:=2000000) only[↓RG,RP,RB,zac,Int.reduceEq,Int.reduceLT,Int.reduceLE,Nat.reduceEqDiff]
  all_goals exact(hK t _ e h).sub
def YT (u:s.l.r.f.length<=100000)(q:U->Vg s)[i:ae L bf b s C](hK:∀t n x e,Vl U s t e 1->(U->kY n)->G w0 (C (ob bf b t)) (K (.tuple #[u64 n,.bool x,i64 e]))):G w0 L (ac 256 [ptr b 0,i64 root,u64 k] K):=by
 refine YG ?_
 unfold Qk
 refine G.box λp=>?_
 refine G.box λj=>?_
 refine G.new λa=>?_
 refine G.new λd=>ar ?_
 refine UU U a 0 (λ_=>jN) ?_
 refine tH d false ?_
 refine NO (b:=b) (s:=s) 1 zd u q (λc o h=>?_) (λt e h=>?_)
 ·show G w0 _ (ac 321 [ptr c 0,ptr p 0,ptr j 0,ptr a 0,ptr d 0] o)
  refine Tr (U:=U) (m:=2048) (root:=root) (k:=k) zd ?_
  refine G.dx (q':=(2048,1)) zs zs ?_
  exact h.sub
 ·by_cases g:e=0
  ·subst g
   refine ar ?_
   repeat' first|(with_reducible first|exact hj|exact hj _|refine dy λ_ _=>?_|refine cx λ_=>?_|refine ff λ_=>?_|refine kq λ_=>?_|refine dd (hK:=?_)|refine db ?_|refine dc λ_=>?_|refine fb ?_|refine de ?_|refine di λ_=>?_|refine df (hK:=?_)|refine dh λ_ _=>?_|refine G.cond (λ_=>?_) λ_=>?_|refine G.a4 (λ_ hj=>?_) λ_=>?_|refine G.bs ?_ λ_ hj=>?_|refine G.drew ?_)|simp (maxSteps:=2000000) only[↓RG,RP,RB,zac,Int.reduceEq,Int.reduceLT,Int.reduceLE,Nat.reduceEqDiff]
   exact(hK t _ _ 0 h (by assumption)).sub
  ·refine ca g ?_
   exact(hK t 0 _ e h (λ_=>jN)).sub
def TS (q:s.l.r.f.length<=100000)(p:U->Vg s)[i:ae L bf b s C](hK:∀t v (xs:List AB) e,Vl U s t e 1->xs.length<=10000->G w0 (sl pZ v xs::C (ob bf b t)) (K (.tuple #[v,i64 e]))):G w0 L (ac 258 [ptr b 0,i64 root,u64 lo,u64 hi] K):=by
 refine Ug ?_
 unfold KL
 refine G.box λo=>?_
 refine G.box λk=>?_
 refine G.box λg=>?_
 refine G.new λa=>ar ?_
 refine G.a3 pZ ?_
 refine aag a 10000 (.slice none 0 0) [] ⟨bj,zs⟩ ?_
 refine NO (b:=b) (s:=s) 1 zd q p (λc n h=>?_) (λt e h=>?_)
 ·show G w0 _ (ac 324 [ptr c 0,ptr o 0,ptr k 0,ptr g 0,ptr a 0] n)
  refine QA (U:=U) (m:=2048) (root:=root) (lo:=lo) (hi:=hi) zd ?_
  refine G.dx (q':=(2048,1)) zs zs ?_
  exact h.sub
 ·by_cases d:e=0
  ·subst d
   refine ar ?_
   refine G.aJ RT a ?_
   rw[L6]
   intro v xs j
   refine ar ?_
   exact(hK t v xs 0 h j.2).sub
  ·refine ca d ?_
   refine G.a3 pZ ?_
   exact(hK t (.slice none 0 0) [] e h zs).sub
end
def afM (a b:Int):Int:=IntKind.wrap .i64 (BitVec.ofInt IntKind.i64.bits a &&& BitVec.ofInt IntKind.i64.bits b).toNat
def TD (k wide:Int):Int:=afM (lX ((wU (k*11400714819323198485)).fdiv (2 ^ min (60:Int).toNat IntKind.u64.bits))) (lX (wide-1))
def afS {a w:Int}(h:0<=w)(c:w<=1000000):0<=afM a w/\afM a w<=w:=by
 unfold afM
 have e:(BitVec.ofInt IntKind.i64.bits w).toNat=w.toNat:=by
  rw[BitVec.toNat_ofInt]
  show(w % (2 ^ 64:Nat)).toNat=_
  omega
 have b:(BitVec.ofInt IntKind.i64.bits a &&& BitVec.ofInt IntKind.i64.bits w).toNat<=w.toNat:=by
  rw[BitVec.toNat_and,e];exact Nat.and_le_right
 rw[jL zo zo]
 omega
def acv {k w:Int}(h:1<=w)(b:w<=1000):0<=TD k w/\TD k w<w:=by
 unfold TD
 have e:lX (w-1)=w-1:=jL zo zo
 rw[e]
 have:=afS (a:=lX ((wU (k*11400714819323198485)).fdiv (2 ^ min (60:Int).toNat IntKind.u64.bits))) (w:=w-1) zo zo
 omega
section
variable {x1 x2 x3 x4:Nat}{s:iX}{head wide chains keys:Int}{C1:bg->List bg}
def Zz (hK:G w0 L (K (i64 (TD k wide)))):G w0 L (ac 353 [u64 k,i64 wide] K):=by
 refine RL ?_
 unfold Hw
 refine ar ?_
 exact hK
def Ty [i:ae L DX b (U,q) C](hK:∀tp head wide chains keys,0<=wide/\wide<=16->(U->kY keys)->G w0 (own tp [ptr b 0,i64 head,i64 wide,i64 chains,u64 keys]::L) (K (ptr tp 0))):G w0 L (ac 307 [ptr b 0,i64 root] K):=by
 refine Uj ?_
 unfold Kw
 refine mK ?_
 refine cx λh=>ar ?_
 refine G.box λtp=>?_
 by_cases c:h=0
 ·subst c
  refine ar ?_
  exact hK tp 0 0 0 0 zd (λ_=>jN)
 refine ca c ?_
 refine dy λkeys a=>ar ?_
 refine dy λn k=>ar ?_
 refine G.d9 (α:={ n:Int // 2<=n/\n<=16 }) (λz=>u64 z.1) (λ_=>own tp [ptr b 0,i64 h,i64 0,i64 0,u64 keys]::L) (λz=>?_) λj hj=>?_
 ·obtain⟨z,f,g⟩:=z
  simp only
  have e:IntKind.wrap .i64 z=z:=jL zo zo
  refine ca e ?_
  refine cx λy=>ar ?_
  exact hK tp h z y keys zo a
 ·refine G.cond (λ_=>?_) (λd=>?_)
  ·refine fb ?_
   exact hj ⟨2,zd⟩
  ·simp only[zb4,decide_eq_false_iff_not]at d
   exact hj ⟨n,zo⟩
def ah0 [i:ae L DX b (U,q) C](hK:∀tp head chains,G w0 (own tp [ptr b 0,i64 head,i64 2,i64 chains,u64 0]::L) (K (ptr tp 0))):G w0 L (ac 308 [ptr b 0,i64 root] K):=by
 refine Tx ?_
 unfold Jh
 refine dc λh=>?_
 refine dc λc=>ar ?_
 refine G.box λtp=>?_
 refine G.a8 (σ:=Nat) (λk=>i64 k) (λk=>own tp [ptr b 0,i64 h,i64 2,i64 c,u64 0]::L) (λk=>k<=2) (λk=>2-k) 0 rfl rfl zo ?_
 intro k e J d
 refine ar ?_
 refine G.cond (λg=>?_) (λg=>?_)
 ·have a:k<2:=by simp at g;omega
  refine ar ?_
  refine db (ar ?_)
  rw[fm zo]
  exact d (k+1) zo zo
 ·repeat' first|(with_reducible first|exact hj|exact hj _|refine dy λ_ _=>?_|refine cx λ_=>?_|refine ff λ_=>?_|refine kq λ_=>?_|refine dd (hK:=?_)|refine db ?_|refine dc λ_=>?_|refine fb ?_|refine de ?_|refine di λ_=>?_|refine df (hK:=?_)|refine dh λ_ _=>?_|refine G.cond (λ_=>?_) λ_=>?_|refine G.a4 (λ_ hj=>?_) λ_=>?_|refine G.bs ?_ λ_ hj=>?_|refine G.drew ?_)|simp (maxSteps:=2000000) only[↓RG,RP,RB,zac,Int.reduceEq,Int.reduceLT,Int.reduceLE,Nat.reduceEqDiff]
  exact hK tp h c
def Od {m f:Nat} [dn [own tp [ptr b 0,i64 head,i64 wide,i64 chains,u64 keys],ob DX b (U,(m,f))] L M](hK:∀x y,G w0 (own tp [ptr b 0,i64 head,i64 wide,i64 chains,u64 keys]::ob DX b (U,(m,f))::M) (K (.tuple #[i64 x,i64 y]))):G w0 L (ac 309 [ptr tp 0,u64 k] K):=by
 refine G.ap (As:=[own tp [ptr b 0,i64 head,i64 wide,i64 chains,u64 keys],ob DX b (U,(m,f))]) ?_
 simp only[Fn,GT]
 refine IR ?_
 unfold yh
 refine mK ?_
 refine G.drew (ar ?_)
 refine Zz (ar ?_)
 refine G.a8 (σ:=Nat×Int) (λz=>i64 z.2) (λz=>own tp [ptr b 0,i64 head,i64 wide,i64 chains,u64 keys]::ob DX b (U,(z.1,f))::M) (λz=>z.1<=m) (λz=>z.1) (m,_) rfl rfl (LT _) ?_
 rintro⟨c,e⟩ hm1 J hJ
 simp only at hm1 hJ ⊢
 have a:∀c,c<=m->∀x y,G w0 (own tp [ptr b 0,i64 head,i64 wide,i64 chains,u64 keys]::ob DX b (U,(c,f))::M) (K (.tuple #[i64 x,i64 y])):=λc h x y=>by
  rw[jc]
  refine G.dx (q':=(m,f)) h (LT _) ?_
  rw[jc]
  exact hK x y
 refine ar ?_
 refine Fm (q:=(c,f)) (λg d=>?_) ?_
 ·simp only at d
  refine ar ?_
  repeat' first|(with_reducible first|exact hj|exact hj _|refine dy λ_ _=>?_|refine cx λ_=>?_|refine ff λ_=>?_|refine kq λ_=>?_|refine dd (hK:=?_)|refine db ?_|refine dc λ_=>?_|refine fb ?_|refine de ?_|refine di λ_=>?_|refine df (hK:=?_)|refine dh λ_ _=>?_|refine G.cond (λ_=>?_) λ_=>?_|refine G.a4 (λ_ hj=>?_) λ_=>?_|refine G.bs ?_ λ_ hj=>?_|refine G.drew ?_)|simp (maxSteps:=2000000) only[↓RG,RP,RB,zac,Int.reduceEq,Int.reduceLT,Int.reduceLE,Nat.reduceEqDiff]
  all_goals first|exact a g zo _ _|exact hJ (g,_) (by simp only;omega) (by simp only;omega)
 ·refine ar ?_
  exact a c hm1 _ _
def ahv {m f:Nat}{g:Value}(w:0<=wide/\wide<=1000)(v:1<=wide->∀(m':Nat)(a:Int)(K':KV),m'<=m->G w0 (own tp [ptr b 0,i64 head,i64 wide,i64 chains,u64 keys]::ob DX b (U,(m',f))::M) (K' (.tuple #[]))->G w0 (own tp [ptr b 0,i64 head,i64 wide,i64 chains,u64 keys]::ob DX b (U,(m',f))::M) (yL Tryz.prog g [i64 a] K'))(hK:G w0 (own tp [ptr b 0,i64 head,i64 wide,i64 chains,u64 keys]::ob DX b (U,(m,f))::M) (K (.tuple #[]))) :
  G w0 (own tp [ptr b 0,i64 head,i64 wide,i64 chains,u64 keys]::ob DX b (U,(m,f))::M) (ac 354 [ptr tp 0,g] K):=by
 refine IG ?_
 unfold yw
 refine mK ?_
 refine ar ?_
 refine G.a8 (σ:=Nat×Nat) (λz=>i64 z.1) (λz=>own tp [ptr b 0,i64 head,i64 wide,i64 chains,u64 keys]::ob DX b (U,(z.2,f))::M) (λz=>z.1<=wide.toNat/\z.2<=m) (λz=>wide.toNat-z.1) (0,m) rfl rfl ⟨zag _,LT _⟩ ?_
 rintro⟨i,o⟩ ⟨t,d⟩ J hJ
 simp only at t d hJ ⊢
 refine ar ?_
 refine G.cond (λh=>?_) (λh=>?_)
 ·have s:i<wide.toNat:=by simp at h;omega
  refine G.drew (ar ?_)
  refine cx λu=>ar ?_
  refine G.a8 (σ:=Int×Nat) (λz=>i64 z.1) (λz=>own tp [ptr b 0,i64 head,i64 wide,i64 chains,u64 keys]::ob DX b (U,(z.2,f))::M) (λz=>z.2<=m) (λz=>z.2) (u,o) rfl rfl d ?_
  rintro⟨l,j⟩ hm2 J2 hJ2
  simp only at hm2 hJ2 ⊢
  have c:∀e,e<=m->G w0 (own tp [ptr b 0,i64 head,i64 wide,i64 chains,u64 keys]::ob DX b (U,(e,f))::M) (J (i64 (IntKind.wrap .i64 ((i:Int)+1)))):=λe p=>by
   rw[fm zo]
   exact hJ (i+1,e) ⟨by simp only;omega,p⟩ (by simp only;omega)
  by_cases n:l=0
  ·subst n
   refine ar ?_
   exact c j hm2
  ·refine ca n ?_
   refine Fm (q:=(j,f)) (λe k=>?_) ?_
   ·simp only at k
    refine ar ?_
    refine cx λr=>?_
    refine v zo e l _ zo ?_
    exact hJ2 (r,e) (by simp only;omega) (by simp only;omega)
   ·refine ar ?_
    exact c j hm2
 ·refine ar ?_
  rw[jc]
  refine G.dx (q':=(m,f)) d (LT _) ?_
  exact Vn
def Xl (p n:Nat):bg:=pz λv=>pz λxs:List Int=>cj (kx (ax v [v]/\xs.length=n)) (cj (own p [v]) (sl bq v xs))
def LS {p n:Nat}:G w0 (ob Xl p n::M) F=∀v (xs:List Int),(ax v [v]/\xs.length=n)->G w0 (own p [v]::sl bq v xs::M) F:=by rw[iw,Xl];simp only[pM,im,jk]
def aav (p n:Nat)(v:Value)(xs:List Int)(h:ax v [v]/\xs.length=n) [dn [own p [v],sl bq v xs] L M](H:G w0 (ob Xl p n::M) F):G w0 L F:=G.ap (As:=[own p [v],sl bq v xs]) (by rw[LS]at H;exact H v xs h)
def aeM {m f W:Nat}(i:1<=W)(j:W<=1000)(hK:G w0 (own tp [ptr b 0,i64 head,i64 wide,i64 chains,u64 keys]::ob DX b (U,(m,f))::own x1 [ptr tp 0]::own x2 [i64 W]::ob Xl x3 W::M) (K (.tuple #[]))) :
  G w0 (own tp [ptr b 0,i64 head,i64 wide,i64 chains,u64 keys]::ob DX b (U,(m,f))::own x1 [ptr tp 0]::own x2 [i64 W]::ob Xl x3 W::M) (ac 355 [i64 a,ptr x1 0,ptr x2 0,ptr x3 0] K):=by
 refine D9 ?_
 unfold uO
 refine mK ?_
 refine G.drew (ar ?_)
 refine dy λy _=>ar ?_
 refine Zz ?_
 obtain⟨d,g⟩:=acv (k:=y) (w:=(W:Int)) zo zo
 obtain⟨n,h⟩:=zaK d
 rw[h]at g ⊢
 refine G.aJ Xl x3 ?_
 rw[LS]
 intro v c ⟨hv,hl⟩
 have e:iW c n c[n]:=⟨dg zo⟩
 refine G.drew (ar ?_)
 refine db (ar ?_)
 refine aav x3 W v (c.set n a) ⟨hv,by rw[zaZ];exact hl⟩ ?_
 exact hK.sub
def aia {m:Nat}(y:0<=wide/\wide<=16) [dn [own tp [ptr b 0,i64 head,i64 wide,i64 chains,u64 keys],ob DX b (U,(m,0))] L M](hK:∀wide' chains',G w0 (own tp [ptr b 0,i64 head,i64 wide',i64 chains',u64 keys]::ob DX b (U,(m,1))::M) (K (.tuple #[]))):G w0 L (ac 310 [ptr tp 0] K):=by
 refine G.ap (As:=[own tp [ptr b 0,i64 head,i64 wide,i64 chains,u64 keys],ob DX b (U,(m,0))]) ?_
 simp only[Fn,GT]
 refine HP ?_
 unfold xM
 refine mK ?_
 obtain⟨W,r⟩:∃W:Nat,2*wide=W:=⟨(2*wide).toNat,zo⟩
 have p:IntKind.wrap .i64 (2*wide)=(W:Int):=by rw[jL zo zo];exact r
 refine G.box λi=>ca p ?_
 refine G.new λg=>ar ?_
 refine G.make (n:=W) bq 0 rfl (by simp[maxLen];omega) zo λv o=>?_
 refine G.new λc=>ar ?_
 refine G.drew (ar ?_)
 refine dc λto=>ar ?_
 refine aav c W v (List.replicate W 0) ⟨o,zs⟩ ?_
 refine G.sub (L':=own tp [ptr b 0,i64 head,i64 wide,i64 chains,u64 keys]::ob DX b (U,(m,0))::own i [ptr tp 0]::own g [i64 W]::ob Xl c W::M) ?_
 refine ahv ⟨y.1,zo⟩ (λw u a s l k=>?_) ?_
 ·show G w0 _ (ac 355 [i64 a,ptr i 0,ptr g 0,ptr c 0] s)
  exact aeM zo zo k
 refine G.aJ Xl c ?_
 rw[LS]
 intro j f ⟨hv2,hl⟩
 refine ar ?_
 refine G.sub (L':=own tp [ptr b 0,i64 head,i64 wide,i64 chains,u64 keys]::ob DX b (U,(m,0))::own i [ptr tp 0]::own g [i64 W]::own c [j]::sl bq j f::M) ?_
 refine G.a8 (σ:=Nat) (λz=>i64 z) (λz=>own tp [ptr b 0,i64 head,i64 wide,i64 chains,u64 keys]::ob DX b (U,(m,0))::own i [ptr tp 0]::own g [i64 W]::own c [j]::sl bq j f::M) (λz=>z<=f.length) (λz=>f.length-z) 0 rfl rfl (zag _) ?_
 intro z x J t
 refine ar ?_
 refine G.cond (λh=>?_) (λh=>?_)
 ·have d:z<f.length:=by simpa using h
  have e:=dm d
  refine ar ?_
  refine db (ar ?_)
  rw[fm zo]
  exact t (z+1) d zo
 ·refine G.drew (ar ?_)
  refine OH (q:=(m,0)) (zag _) ?_
  repeat' first|(with_reducible first|exact hj|exact hj _|refine dy λ_ _=>?_|refine cx λ_=>?_|refine ff λ_=>?_|refine kq λ_=>?_|refine dd (hK:=?_)|refine db ?_|refine dc λ_=>?_|refine fb ?_|refine de ?_|refine di λ_=>?_|refine df (hK:=?_)|refine dh λ_ _=>?_|refine G.cond (λ_=>?_) λ_=>?_|refine G.a4 (λ_ hj=>?_) λ_=>?_|refine G.bs ?_ λ_ hj=>?_|refine G.drew ?_)|simp (maxSteps:=2000000) only[↓RG,RP,RB,zac,Int.reduceEq,Int.reduceLT,Int.reduceLE,Nat.reduceEqDiff]
  exact(hK W to).sub
def Q0 {m:Nat}(D:U->kY k)(E:U->kY x) [dn [ob DX b (U,(m,0)),own x1 [i64 root],own x2 [u64 k],own x3 [u64 x],ob nq x4 ()] L M](hK:G w0 (ob DX b (U,(m,1))::own x1 [i64 root]::own x2 [u64 k]::own x3 [u64 x]::ob nq x4 ()::M) (K (.tuple #[]))):G w0 L (ac 306 [ptr b 0,ptr x1 0,ptr x2 0,ptr x3 0,ptr x4 0] K):=by
 refine G.ap (As:=[ob DX b (U,(m,0)),own x1 [i64 root],own x2 [u64 k],own x3 [u64 x],ob nq x4 ()]) ?_
 simp only[Fn,GT]
 refine Q7 ?_
 unfold Hr
 refine mK ?_
 have i:G w0 (ob DX b (U,(m,0))::own x1 [i64 root]::own x2 [u64 k]::own x3 [u64 x]::ob nq x4 ()::M) (K (.tuple #[])):=G.dx (q':=(m,1)) zs zs hK
 refine ar ?_
 refine Ty λt o p e n s g=>?_
 repeat' first|(with_reducible first|exact hj|exact hj _|refine dy λ_ _=>?_|refine cx λ_=>?_|refine ff λ_=>?_|refine kq λ_=>?_|refine dd (hK:=?_)|refine db ?_|refine dc λ_=>?_|refine fb ?_|refine de ?_|refine di λ_=>?_|refine df (hK:=?_)|refine dh λ_ _=>?_|refine G.cond (λ_=>?_) λ_=>?_|refine G.a4 (λ_ hj=>?_) λ_=>?_|refine G.bs ?_ λ_ hj=>?_|refine G.drew ?_)|simp (maxSteps:=2000000) only[↓RG,RP,RB,zac,Int.reduceEq,Int.reduceLT,Int.reduceLE,Nat.reduceEqDiff]
 refine G.d9 (α:={ z:Nat×Int×Int×Int×Int // (0<=z.2.2.1/\z.2.2.1<=16)/\(U->kY z.2.2.2.2) }) (λz=>ptr z.1.1 0) (λz=>own z.1.1 [ptr b 0,i64 z.1.2.1,i64 z.1.2.2.1,i64 z.1.2.2.2.1,u64 z.1.2.2.2.2]::ob DX b (U,(m,0))::own x1 [i64 root]::own x2 [u64 k]::own x3 [u64 x]::ob nq x4 ()::M) ?_ (λj hj=>?_)
 ·rintro⟨⟨A,head,wide,chains,keys⟩,hw,hkeys⟩
  simp only at hw hkeys ⊢
  repeat' first|(with_reducible first|exact hj|exact hj _|refine dy λ_ _=>?_|refine cx λ_=>?_|refine ff λ_=>?_|refine kq λ_=>?_|refine dd (hK:=?_)|refine db ?_|refine dc λ_=>?_|refine fb ?_|refine de ?_|refine di λ_=>?_|refine df (hK:=?_)|refine dh λ_ _=>?_|refine G.cond (λ_=>?_) λ_=>?_|refine G.a4 (λ_ hj=>?_) λ_=>?_|refine G.bs ?_ λ_ hj=>?_|refine G.drew ?_)|simp (maxSteps:=2000000) only[↓RG,RP,RB,zac,Int.reduceEq,Int.reduceLT,Int.reduceLE,Nat.reduceEqDiff]
  ·exact i.sub
  ·refine Od (b:=b) (head:=head) (wide:=wide) (chains:=chains) (keys:=keys) (U:=U) (m:=m) (f:=0) (k:=k) λy B=>?_
   repeat' first|(with_reducible first|exact hj|exact hj _|refine dy λ_ _=>?_|refine cx λ_=>?_|refine ff λ_=>?_|refine kq λ_=>?_|refine dd (hK:=?_)|refine db ?_|refine dc λ_=>?_|refine fb ?_|refine de ?_|refine di λ_=>?_|refine df (hK:=?_)|refine dh λ_ _=>?_|refine G.cond (λ_=>?_) λ_=>?_|refine G.a4 (λ_ hj=>?_) λ_=>?_|refine G.bs ?_ λ_ hj=>?_|refine G.drew ?_)|simp (maxSteps:=2000000) only[↓RG,RP,RB,zac,Int.reduceEq,Int.reduceLT,Int.reduceLE,Nat.reduceEqDiff]
   ·exact i.sub
   ·refine G.d9 (α:=Int×Int×Int) (λz=>i64 z.1) (λz=>own A [ptr b 0,i64 head,i64 z.2.1,i64 z.2.2,u64 keys]::ob DX b (U,(m,1))::own x1 [i64 root]::own x2 [u64 k]::own x3 [u64 x]::ob nq x4 ()::M) (λz=>?_) (λC r=>?_)
    ·obtain⟨l,v,w⟩:=z
     simp only
     repeat' first|(with_reducible first|exact hj|exact hj _|refine dy λ_ _=>?_|refine cx λ_=>?_|refine ff λ_=>?_|refine kq λ_=>?_|refine dd (hK:=?_)|refine db ?_|refine dc λ_=>?_|refine fb ?_|refine de ?_|refine di λ_=>?_|refine df (hK:=?_)|refine dh λ_ _=>?_|refine G.cond (λ_=>?_) λ_=>?_|refine G.a4 (λ_ hj=>?_) λ_=>?_|refine G.bs ?_ λ_ hj=>?_|refine G.drew ?_)|simp (maxSteps:=2000000) only[↓RG,RP,RB,zac,Int.reduceEq,Int.reduceLT,Int.reduceLE,Nat.reduceEqDiff]
     exact hK.sub
    ·refine G.cond (λ_=>?_) (λ_=>?_)
     ·refine aia (b:=b) (head:=head) (wide:=wide) (chains:=chains) (keys:=keys) (U:=U) (m:=m) hw λv w=>ar ?_
      refine Od (b:=b) (head:=head) (wide:=v) (chains:=w) (keys:=keys) (U:=U) (m:=m) (f:=1) (k:=k) λa c=>ar ?_
      have h:=r (a,v,w)
      dsimp only at h
      exact h.sub
     ·have h:=r (y,wide,chains)
      dsimp only at h
      refine G.sub (L':=ob DX b (U,(m,0))::own A [ptr b 0,i64 head,i64 wide,i64 chains,u64 keys]::own x1 [i64 root]::own x2 [u64 k]::own x3 [u64 x]::ob nq x4 ()::M) ?_
      exact G.dx (q':=(m,1)) zs zs h.sub
 ·refine G.cond (λ_=>?_) (λ_=>?_)
  ·refine ar ?_
   refine ah0 λu q d=>?_
   have h:=hj ⟨(u,q,2,d,0),zs,λ_=>jN⟩
   dsimp only at h
   exact h.sub
  ·have h:=hj ⟨(t,o,p,e,n),s,g⟩
   dsimp only at h
   exact h.sub
def Q4 {m:Nat} [dn [ob DX b (U,(m,0)),own x1 [i64 root],own x2 [u64 k],ob IK x3 U,ob nq x4 ()] L M](hK:G w0 (ob DX b (U,(m,0))::own x1 [i64 root]::own x2 [u64 k]::ob IK x3 U::ob nq x4 ()::M) (K (.tuple #[]))):G w0 L (ac 313 [ptr b 0,ptr x1 0,ptr x2 0,ptr x3 0,ptr x4 0] K):=by
 refine G.ap (As:=[ob DX b (U,(m,0)),own x1 [i64 root],own x2 [u64 k],ob IK x3 U,ob nq x4 ()]) ?_
 simp only[Fn,GT]
 refine Rz ?_
 unfold GV
 refine mK ?_
 refine ar ?_
 refine Ty λd head wide chains keys e a=>?_
 repeat' first|(with_reducible first|exact hj|exact hj _|refine dy λ_ _=>?_|refine cx λ_=>?_|refine ff λ_=>?_|refine kq λ_=>?_|refine dd (hK:=?_)|refine db ?_|refine dc λ_=>?_|refine fb ?_|refine de ?_|refine di λ_=>?_|refine df (hK:=?_)|refine dh λ_ _=>?_|refine G.cond (λ_=>?_) λ_=>?_|refine G.a4 (λ_ hj=>?_) λ_=>?_|refine G.bs ?_ λ_ hj=>?_|refine G.drew ?_)|simp (maxSteps:=2000000) only[↓RG,RP,RB,zac,Int.reduceEq,Int.reduceLT,Int.reduceLE,Nat.reduceEqDiff]
 ·exact hK.sub
 ·refine Od (b:=b) (head:=head) (wide:=wide) (chains:=chains) (keys:=keys) (U:=U) (m:=m) (f:=0) (k:=k) λy c=>?_
  repeat' first|(with_reducible first|exact hj|exact hj _|refine dy λ_ _=>?_|refine cx λ_=>?_|refine ff λ_=>?_|refine kq λ_=>?_|refine dd (hK:=?_)|refine db ?_|refine dc λ_=>?_|refine fb ?_|refine de ?_|refine di λ_=>?_|refine df (hK:=?_)|refine dh λ_ _=>?_|refine G.cond (λ_=>?_) λ_=>?_|refine G.a4 (λ_ hj=>?_) λ_=>?_|refine G.bs ?_ λ_ hj=>?_|refine G.drew ?_)|simp (maxSteps:=2000000) only[↓RG,RP,RB,zac,Int.reduceEq,Int.reduceLT,Int.reduceLE,Nat.reduceEqDiff]
  exact hK.sub
def Rq {m:Nat} [dn [ob DX b (U,(m,0)),own x1 [i64 root],own x2 [u64 k],ob nq x3 ()] L M](hK:G w0 (ob DX b (U,(m,1))::own x1 [i64 root]::own x2 [u64 k]::ob nq x3 ()::M) (K (.tuple #[]))):G w0 L (ac 314 [ptr b 0,ptr x1 0,ptr x2 0,ptr x3 0] K):=by
 refine G.ap (As:=[ob DX b (U,(m,0)),own x1 [i64 root],own x2 [u64 k],ob nq x3 ()]) ?_
 simp only[Fn,GT]
 refine Rv ?_
 unfold Hu
 refine mK ?_
 have a:G w0 (ob DX b (U,(m,0))::own x1 [i64 root]::own x2 [u64 k]::ob nq x3 ()::M) (K (.tuple #[])):=G.dx (q':=(m,1)) zs zs hK
 refine ar ?_
 refine Ty λe head wide chains keys g c=>?_
 repeat' first|(with_reducible first|exact hj|exact hj _|refine dy λ_ _=>?_|refine cx λ_=>?_|refine ff λ_=>?_|refine kq λ_=>?_|refine dd (hK:=?_)|refine db ?_|refine dc λ_=>?_|refine fb ?_|refine de ?_|refine di λ_=>?_|refine df (hK:=?_)|refine dh λ_ _=>?_|refine G.cond (λ_=>?_) λ_=>?_|refine G.a4 (λ_ hj=>?_) λ_=>?_|refine G.bs ?_ λ_ hj=>?_|refine G.drew ?_)|simp (maxSteps:=2000000) only[↓RG,RP,RB,zac,Int.reduceEq,Int.reduceLT,Int.reduceLE,Nat.reduceEqDiff]
 ·exact a.sub
 ·refine Od (b:=b) (head:=head) (wide:=wide) (chains:=chains) (keys:=keys) (U:=U) (m:=m) (f:=0) (k:=k) λy d=>ar ?_
  refine G.aU ?_
  repeat' first|(with_reducible first|exact hj|exact hj _|refine dy λ_ _=>?_|refine cx λ_=>?_|refine ff λ_=>?_|refine kq λ_=>?_|refine dd (hK:=?_)|refine db ?_|refine dc λ_=>?_|refine fb ?_|refine de ?_|refine di λ_=>?_|refine df (hK:=?_)|refine dh λ_ _=>?_|refine G.cond (λ_=>?_) λ_=>?_|refine G.a4 (λ_ hj=>?_) λ_=>?_|refine G.bs ?_ λ_ hj=>?_|refine G.drew ?_)|simp (maxSteps:=2000000) only[↓RG,RP,RB,zac,Int.reduceEq,Int.reduceLT,Int.reduceLE,Nat.reduceEqDiff]
  ·refine OH (q:=(m,0)) (zag _) ?_
   exact Vn
  ·exact a.sub
def WJ (u:s.l.r.f.length<=100000)(q:U->Vg s)(o:U->kY k)(p:U->kY x)[i:ae L bf b s C](hK:∀t x e,Vl U s t e 1->G w0 (C (ob bf b t)) (K (.tuple #[.bool x,i64 e]))):G w0 L (ac 249 [ptr b 0,i64 root,u64 k,u64 x] K):=by
 refine Xa ?_
 unfold MB
 refine G.box λn=>?_
 refine G.box λg=>?_
 refine G.box λd=>?_
 refine G.new λa=>ar ?_
 refine tH a false ?_
 refine NO (b:=b) (s:=s) 1 zd u q (λc j h=>?_) (λt e h=>?_)
 ·show G w0 _ (ac 306 [ptr c 0,ptr n 0,ptr g 0,ptr d 0,ptr a 0] j)
  refine Q0 (U:=U) (m:=2048) (root:=root) o p ?_
  exact h.sub
 ·try simp (maxSteps:=2000000) only[ug,zS,qm,qu,zt,oJ]
  repeat' first|(with_reducible first|exact hj|exact hj _|refine dy λ_ _=>?_|refine cx λ_=>?_|refine ff λ_=>?_|refine kq λ_=>?_|refine dd (hK:=?_)|refine db ?_|refine dc λ_=>?_|refine fb ?_|refine de ?_|refine di λ_=>?_|refine df (hK:=?_)|refine dh λ_ _=>?_|refine G.cond (λ_=>?_) λ_=>?_|refine G.a4 (λ_ hj=>?_) λ_=>?_|refine G.bs ?_ λ_ hj=>?_|refine G.drew ?_)|simp (maxSteps:=2000000) only[↓RG,RP,RB,zac,Int.reduceEq,Int.reduceLT,Int.reduceLE,Nat.reduceEqDiff]
  all_goals exact(hK t _ e h).sub
def Vo (o:s.l.r.f.length<=100000)(n:U->Vg s)[i:ae L bf b s C](hK:∀t x e,Vl U s t e 1->G w0 (C (ob bf b t)) (K (.tuple #[.bool x,i64 e]))):G w0 L (ac 252 [ptr b 0,i64 root,u64 k] K):=by
 refine WW ?_
 unfold Ng
 refine G.box λj=>?_
 refine G.box λd=>?_
 refine G.new λa=>ar ?_
 refine tH a false ?_
 refine NO (b:=b) (s:=s) 1 zd o n (λc g h=>?_) (λt e h=>?_)
 ·show G w0 _ (ac 314 [ptr c 0,ptr j 0,ptr d 0,ptr a 0] g)
  refine Rq (U:=U) (m:=2048) (root:=root) (k:=k) ?_
  exact h.sub
 ·try simp (maxSteps:=2000000) only[ug,zS,qm,qu,zt,oJ]
  repeat' first|(with_reducible first|exact hj|exact hj _|refine dy λ_ _=>?_|refine cx λ_=>?_|refine ff λ_=>?_|refine kq λ_=>?_|refine dd (hK:=?_)|refine db ?_|refine dc λ_=>?_|refine fb ?_|refine de ?_|refine di λ_=>?_|refine df (hK:=?_)|refine dh λ_ _=>?_|refine G.cond (λ_=>?_) λ_=>?_|refine G.a4 (λ_ hj=>?_) λ_=>?_|refine G.bs ?_ λ_ hj=>?_|refine G.drew ?_)|simp (maxSteps:=2000000) only[↓RG,RP,RB,zac,Int.reduceEq,Int.reduceLT,Int.reduceLE,Nat.reduceEqDiff]
  all_goals exact(hK t _ e h).sub
def WT (u:s.l.r.f.length<=100000)(q:U->Vg s)[i:ae L bf b s C](hK:∀t n x e,Vl U s t e 1->(U->kY n)->G w0 (C (ob bf b t)) (K (.tuple #[u64 n,.bool x,i64 e]))):G w0 L (ac 251 [ptr b 0,i64 root,u64 k] K):=by
 refine Ww ?_
 unfold MO
 refine G.box λp=>?_
 refine G.box λj=>?_
 refine G.new λa=>?_
 refine G.new λd=>ar ?_
 refine UU U a 0 (λ_=>jN) ?_
 refine tH d false ?_
 refine NO (b:=b) (s:=s) 1 zd u q (λc o h=>?_) (λt e h=>?_)
 ·show G w0 _ (ac 313 [ptr c 0,ptr p 0,ptr j 0,ptr a 0,ptr d 0] o)
  refine Q4 (U:=U) (m:=2048) (root:=root) (k:=k) ?_
  refine G.dx (q':=(2048,1)) zs zs ?_
  exact h.sub
 ·by_cases g:e=0
  ·subst g
   refine ar ?_
   repeat' first|(with_reducible first|exact hj|exact hj _|refine dy λ_ _=>?_|refine cx λ_=>?_|refine ff λ_=>?_|refine kq λ_=>?_|refine dd (hK:=?_)|refine db ?_|refine dc λ_=>?_|refine fb ?_|refine de ?_|refine di λ_=>?_|refine df (hK:=?_)|refine dh λ_ _=>?_|refine G.cond (λ_=>?_) λ_=>?_|refine G.a4 (λ_ hj=>?_) λ_=>?_|refine G.bs ?_ λ_ hj=>?_|refine G.drew ?_)|simp (maxSteps:=2000000) only[↓RG,RP,RB,zac,Int.reduceEq,Int.reduceLT,Int.reduceLE,Nat.reduceEqDiff]
   exact(hK t _ _ 0 h (by assumption)).sub
  ·refine ca g ?_
   exact(hK t 0 _ e h (λ_=>jN)).sub
end
end
def arr (n:Nat)(g:Nat->Value):List Value:=(List.range n).map g
section
variable {w0:bz}{L:List bg}{K:KV}
end
def Se:∀{a b:List Int},a.Pairwise (·<·)->b.Pairwise (·<·)->(∀x,x∈a↔x∈b)->a=b
 | [],[],_,_,_=>rfl
 | [],y::b,_,_,h=>absurd ((h y).2 zs) zs
 |x::a,[],_,_,h=>absurd ((h x).1 zs) zs
 |x::a,y::b,ha,hb,h=>by
  have ha1:=zaI.1 ha
  have hb1:=zaI.1 hb
  have e:x=y:=by
   rcases zaa.1 ((h x).1 zs)with e|hx
   ·exact e
   ·rcases zaa.1 ((h y).2 zs)with e|hy
    ·exact e.symm
    ·have:=hb1.1 x hx;have:=ha1.1 y hy;omega
  subst e
  rw[Se ha1.2 hb1.2 λz=>?_]
  constructor
  ·intro hz
   rcases zaa.1 ((h z).1 (gr _ hz))with e|h1
   ·subst e;have:=ha1.1 z hz;omega
   ·exact h1
  ·intro hz
   rcases zaa.1 ((h z).2 (gr _ hz))with e|h1
   ·subst e;have:=hb1.1 z hz;omega
   ·exact h1
def Xd {zs:List Int}{x:Int}:x∈Lib.compact zs↔x∈zs:=by
 unfold Lib.compact Lib.compactUpTo
 simp only[zau,zaD,zbz]
 constructor
 ·rintro⟨i,⟨d,_⟩,rfl⟩
  simp[getElem!_pos,d]
 ·intro b
  have c:∃n,n<zs.length/\zs.toArray[n]! = x:=by
   obtain⟨n,a,e⟩:=zaU b
   exact⟨n,a,by simp[getElem!_pos,a,e]⟩
  obtain⟨n,⟨a,e⟩,hmin⟩:=least c
  refine⟨n,⟨a,?_⟩,e⟩
  unfold Lib.keeps
  grind
def Pk {zs:List Int}(h:zs.Pairwise (·<=·)):(Lib.compact zs).Pairwise (·<·):=by
 unfold Lib.compact Lib.compactUpTo
 rw[List.pairwise_map]
 refine List.Pairwise.imp_of_mem ?_ (zcA _ (zcr (n:=zs.length)))
 intro i j q hj o
 have c:=zaD.1 hj
 have e:j<zs.length:=zbz.1 c.1
 have f:=c.2
 unfold Lib.keeps at f
 rw[decide_eq_true_eq]at f
 have g:∀a b,a<=b->b<zs.length->zs.toArray[a]!<=zs.toArray[b]!:=λa b m l=>by
  have k:a<zs.length:=by omega
  simp only[List.getElem!_toArray,getElem!_pos,l,k]
  rcases zaE a b with d|d
  ·exact zaT.1 h a b k l d
  all_goals grind
 have d:=g i (j-1) zo zo
 have p:=g (j-1) j zo e
 grind
def V3 (zs:List Int):(zs.mergeSort λx y=>decide (x<=y)).Pairwise (·<=·):=by
 have:=List.pairwise_mergeSort (le:=λx y:Int=>decide (x<=y)) (λa b c d e=>by simp at *;omega) (λa b=>by simp;omega) zs
 grind
def UE {zs ys:List Int}(h:ys.Pairwise (·<·))(hm:∀x,x∈ys↔x∈zs):Lib.compact (zs.mergeSort λx y=>decide (x<=y))=ys :=
 Se (Pk (V3 zs)) h λx=>by rw[Xd,List.mem_mergeSort,hm]
structure Gw where
 r0:Int
 r1:Int
 r2:Int
 r3:Int
 r4:Int
 r5:Int
 r6:Int
 r7:Int
 deriving DecidableEq
def Gw.get (r:Gw):Nat->Int
 |0=>r.r0|1=>r.r1|2=>r.r2|3=>r.r3|4=>r.r4|5=>r.r5|6=>r.r6|_=>r.r7
def Gw.set (r:Gw)(k:Nat)(x:Int):Gw:=match k with
 |0=>{ r with r0:=x }|1=>{ r with r1:=x }|2=>{ r with r2:=x }|3=>{ r with r3:=x }|4=>{ r with r4:=x }|5=>{ r with r5:=x }|6=>{ r with r6:=x }|_=>{ r with r7:=x }
abbrev Gw.cells (r:Gw):List Value:=[u64 r.r0,u64 r.r1,u64 r.r2,u64 r.r3,u64 r.r4,u64 r.r5,u64 r.r6,u64 r.r7]
structure ou where
 op:Int
 aG:Int
 bb:Gw
 told:Int
 deriving DecidableEq
abbrev ou.cells (a:ou):List Value:=[i64 a.op,i64 a.aG,u64 a.bb.r0,u64 a.bb.r1,u64 a.bb.r2,u64 a.bb.r3,u64 a.bb.r4,u64 a.bb.r5,u64 a.bb.r6,u64 a.bb.r7,i64 a.told]
abbrev GM:uk ou:=⟨11,ou.cells,λ | [.int .i64 x0,.int .i64 x1,.int .u64 x2,.int .u64 x3,.int .u64 x4,.int .u64 x5,.int .u64 x6,.int .u64 x7,.int .u64 x8,.int .u64 x9,.int .i64 x10]=>some ⟨x0,x1,⟨x2,x3,x4,x5,x6,x7,x8,x9⟩,x10⟩|_=>none,zd,λ_=>rfl,by simp[one],λcs a h=>by split at h<;>cases h;rfl⟩
instance {a:ou}:nR GM a (ou.cells a):=⟨rfl⟩
structure ig where
 prog:List co
 mt:List Int
 bad:Int
 aV:Int
 O:Int
 r:Gw
 af:List pT
 K:Int
 next:Int
 left:Int
 op:List ou
abbrev ig.cells (x:ig)(vl vm vo:Value)(vp op:Nat):List Value:=[vl,ptr vp 0,vm,i64 x.bad,i64 x.aV,i64 x.O,u64 x.r.r0,u64 x.r.r1,u64 x.r.r2,u64 x.r.r3,u64 x.r.r4,u64 x.r.r5,u64 x.r.r6,u64 x.r.r7,ptr op 0,i64 x.K,i64 x.next,i64 x.left,vo]
def eY (k:Nat×Nat)(x:ig):bg:=pz λvl=>pz λvm=>pz λvo=>pz λop=>cj (kx (ax vl [vl]/\ax vm [vm]/\ax vo [vo])) (cj (cj (cj (cj (own k.1 (x.cells vl vm vo k.2 op)) (sl fx vl x.prog)) (sl bq vm x.mt)) (sl GM vo x.op.reverse)) (ob kF op x.af))
section
variable {w0:bz}{L M:List bg}{K:KV}{F:World->Prop}{C:bg->List bg}{b vp op:Nat}{x:ig}{s:iX}{v vl vm vo:Value}
def dw:G w0 (ob eY (b,vp) x::M) F=∀vl vm vo op,(ax vl [vl]/\ax vm [vm]/\ax vo [vo])->G w0 (own b (x.cells vl vm vo vp op)::sl fx vl x.prog::sl bq vm x.mt::sl GM vo x.op.reverse::ob kF op x.af::M) F:=by
 rw[iw,eY]
 simp only[pM,im,jk]
def aq {vl vm vo:Value}(b vp op:Nat)(x:ig){ps:List ou} [dn [own b (x.cells vl vm vo vp op),sl fx vl x.prog,sl bq vm x.mt,sl GM vo ps,ob kF op x.af] L M](hp:ps=x.op.reverse)(h:ax vl [vl]/\ax vm [vm]/\ax vo [vo])(H:G w0 (ob eY (b,vp) x::M) F):G w0 L F :=
 G.ap (As:=[own b (x.cells vl vm vo vp op),sl fx vl x.prog,sl bq vm x.mt,sl GM vo ps,ob kF op x.af]) (by rw[dw]at H;rw[hp];exact H vl vm vo op h)
abbrev KM (p:List co)(fuel:Int):ig:=⟨p,tb p,pb p,0,0,⟨0,0,0,0,0,0,0,0⟩,[],0,0,held fuel 0 400,[]⟩
def Ub {p:List co}{fuel:Int}[r:Rd w0 L v fx 5 p](i:ax v [v])(g:p.length<=1000000)(hK:∀b,G w0 (ob eY (b,vp) (KM p fuel)::L) (K (ptr b 0))):G w0 L (ac 139 [.agg #[v],ptr vp 0,i64 fuel] K):=by
 refine U0 ?_
 unfold JC
 refine G.box λq=>ar ?_
 refine G.a3 fx ?_
 refine G.append (E:=fx) (xs:=[]) (ys:=p) (by simp;omega) (by simp[maxLen];omega) λu d=>?_
 simp only[GT]
 refine ar ?_
 refine MT d g λa=>bi ?_
 refine Rx d g λh c=>bi ?_
 refine Wz λf=>bi ?_
 refine G.box λb=>?_
 have e:(if(if(400:Int)<fuel then 400 else fuel) > 0 then if(400:Int)<fuel then 400 else fuel else 0)=held fuel 0 400:=by unfold held;split<;>split<;>split<;>(try split)<;>omega
 refine ca e ?_
 refine G.a3 GM ?_
 refine aq (vo:=.slice none 0 0) (ps:=[]) b vp f (KM p fuel) rfl ⟨d,c,bj⟩ ?_
 exact(hK b).sub
def S3 [i:ae L eY (b,vp) x C](hK:G w0 L (K (i64 x.aV))):G w0 L (ac 168 [ptr b 0] K):=by
 refine i.ro (λM hK=>?_) hK
 refine F9 ?_
 unfold wi
 rw[dw]at *
 intro d a e c h
 have hK:=hK d a e c h
 refine ar ?_
 exact hK
def On (g:x.af.length<=1000000)[i:ae L eY (b,vp) x C](hK:∀c,G w0 (ob kF c x.af::L) (K (ptr c 0))):G w0 L (ac 150 [ptr b 0] K):=by
 refine i.cb (P:=λ_=>True) (N:=λc=>ob kF c x.af) (F':=λc=>K (ptr c 0)) (λM hK=>?_) (λc _=>hK c)
 refine CM ?_
 unfold si
 rw[dw]
 intro e d f a h
 refine ar ?_
 refine ID (xs:=x.af) g λc=>?_
 refine aq b vp a x rfl h ?_
 exact(hK c trivial).sub
def z9 {e:Int}[i:ae L eY (b,vp) x C](hK:G w0 (C (ob eY (b,vp) { x with O:=4,aV:=e })) (K (.tuple #[]))):G w0 L (ac 194 [ptr b 0,i64 e] K):=by
 refine i.bi (λM hK=>?_) hK
 refine El ?_
 unfold uL
 rw[dw]at *
 intro d a f c h
 have hK:=hK d a f c h
 refine ar ?_
 exact hK
def VT {xs:List pT}[i:ae L kF b xs C](hK:G w0 L (K (i64 xs.length))):G w0 L (ac 332 [ptr b 0] K):=by
 refine i.ro (λM hK=>?_) hK
 refine Ki ?_
 unfold zN
 rw[jd]at *
 intro v a
 have hK:=hK v a
 refine ar ?_
 exact hK
def VH {xs:List pT}{k:Nat}(h:k<=xs.length)(j:xs.length<=1000000)[i:ae L kF b xs C](hK:G w0 (C (ob kF b (xs.take k))) (K (.tuple #[]))):G w0 L (ac 334 [ptr b 0,i64 k] K):=by
 refine i.bi (λM hK=>?_) hK
 refine Ja ?_
 unfold zh
 rw[jd]
 intro v f
 have c:(if(xs.length:Int)<k then(xs.length:Int)else k)=k:=by rw[zn]
 have e:(if(k:Int) > 0 then(k:Int)else 0)=k:=by split<;>omega
 refine bx (an c e) ?_
 refine G.take (m:=k) h λu g=>?_
 refine rl (xs:=xs.take k) (by simp only[zaC];omega) λd a=>bi ?_
 rw[jd]at hK
 exact(hK d a).sub
abbrev mu (x:ig)(s:iX)(op_ at_:Int):ig×iX×Int:=if(ru s.l).2=0 then({ x with op:=⟨op_,at_,x.r,x.af.length⟩::x.op },s.bj (ru s.l).1,0)else(x,s.bj (ru s.l).1,(ru s.l).2)
def Fk {o a:Int}(j:x.op.length<=1000)(hK:G w0 (ob eY (b,vp) (mu x s o a).1::ob bf vp (mu x s o a).2.1::M) (K (i64 (mu x s o a).2.2))) :
  G w0 (ob eY (b,vp) x::ob bf vp s::M) (ac 263 [ptr b 0,i64 o,i64 a] K):=by
 refine Dd ?_
 unfold sc
 rw[dw]
 intro g f vo op h
 unfold mu at hK
 refine bi ?_
 refine WF (s:=s) ?_
 by_cases c:(ru s.l).2=0
 ·simp only[zp c]at hK
  refine bx c ?_
  refine VT (xs:=x.af) (bi ?_)
  refine G.build GM [⟨o,a,x.r,x.af.length⟩] rfl zd rfl λy i=>bi ?_
  refine G.append (E:=GM) (xs:=x.op.reverse) (ys:=[⟨o,a,x.r,x.af.length⟩]) (by simp only[za7,gg];omega) (by simp only[za7,gg,maxLen];omega) λe d=>bi ?_
  refine aq (vo:=e) (ps:=x.op.reverse++[⟨o,a,x.r,x.af.length⟩]) b vp op { x with op:=⟨o,a,x.r,x.af.length⟩::x.op } zs ⟨h.1,h.2.1,d⟩ ?_
  exact hK.sub
 ·simp only[zn c]at hK
  refine bx c ?_
  refine aq b vp op x rfl h ?_
  exact hK.sub
def abb {α:Type}{a:α}{l:List α}:(a::l).reverse.take l.length=l.reverse:=by
 rw[zaN,za4 zs]
 exact zat zs
def rI {q:ou}{ps:List ou}(j:x.op=q::ps)(k:ps.length<=1000)(hK:G w0 (ob eY (b,vp) { x with op:=ps }::M) (K (.agg (ou.cells q).toArray))) :
  G w0 (ob eY (b,vp) x::M) (ac 264 [ptr b 0] K):=by
 refine Do ?_
 unfold sH
 refine G.new λg=>?_
 rw[jc,dw]
 intro f d vo op h
 rw[j]
 have a:IntKind.wrap .i64 ((((q::ps).reverse.length:Nat):Int)-1)=((ps.length:Nat):Int):=by
  simp only[za7,zad]
  rw[jL zo zo];omega
 have e:iW (q::ps).reverse ps.length q:=⟨by rw[zaN,zaR zs];simp⟩
 refine bx a ?_
 refine G.new λi=>bx a ?_
 refine G.take (m:=ps.length) zs λu c=>?_
 rw[abb]
 refine bi ?_
 refine aq (vo:=u) (ps:=ps.reverse) b vp op { x with op:=ps } rfl ⟨h.1,h.2.1,c⟩ ?_
 exact hK.sub
def GY {q:ou}{k:Nat}(l:q.told=k)(g:k<=x.af.length)(j:x.af.length<=1000000)[i:ae L eY (b,vp) x C](hK:G w0 (C (ob eY (b,vp) { x with r:=q.bb,af:=x.af.take k })) (K (.tuple #[]))) :
  G w0 L (ac 266 [ptr b 0,.agg (ou.cells q).toArray] K):=by
 refine i.bi (λM hK=>?_) hK
 refine DL ?_
 unfold vA
 refine G.box λf=>?_
 rw[jc,dw]
 intro d c e a h
 refine bi ?_
 rw[l]
 refine VH (xs:=x.af) g j (bi ?_)
 refine aq b vp a { x with r:=q.bb,af:=x.af.take k } rfl h ?_
 exact hK.sub
def kG (x:ig)(s:iX):List ou->ig×iX×Int
 | []=>({ x with op:=[],next:=x.K,O:=3 },s,0)
 |q::ps=>if(ky s.l).2=0 then
   (if q.op=17 then mu { x with op:=ps,r:=q.bb,af:=x.af.take q.told.toNat,next:=x.mt.getD q.aG.toNat 0+1 } (s.bj (ky s.l).1) 18 (x.mt.getD q.aG.toNat 0)
    else kG x (s.bj (ky s.l).1) ps)
  else({ x with op:=ps },s.bj (ky s.l).1,(ky s.l).2)
def PK:kG x s []=({ x with op:=[],next:=x.K,O:=3 },s,0):=rfl
def yZ {q:ou}{ps:List ou}:kG x s (q::ps)=if(ky s.l).2=0 then
   (if q.op=17 then mu { x with op:=ps,r:=q.bb,af:=x.af.take q.told.toNat,next:=x.mt.getD q.aG.toNat 0+1 } (s.bj (ky s.l).1) 18 (x.mt.getD q.aG.toNat 0)
    else kG x (s.bj (ky s.l).1) ps)
  else({ x with op:=ps },s.bj (ky s.l).1,(ky s.l).2):=rfl
def Ua (x:ig)(l:List ou):Prop:=∀q∈l,0<=q.told/\q.told<=x.af.length/\0<=q.aG/\q.aG<x.mt.length
def aiH (l:List Int):Prop:=∀n∈l,-1<=n/\n<=1000
theorem adQ {l:List Int}(h:aiH l){k:Nat}(b:k<l.length):iW l k (l.getD k 0)/\-1<=l.getD k 0/\l.getD k 0<=1000:=by
 have e:l[k]? = some l[k]:=dg b
 have a:l.getD k 0=l[k]:=by grind
 rw[a]
 exact⟨⟨e⟩,h _ (zae b)⟩
def EC (D:x.op.length<=1000)(hi:x.af.length<=1000000)(E:Ua x x.op)(F:aiH x.mt)(hK:G w0 (ob eY (b,vp) (kG x s x.op).1::ob bf vp (kG x s x.op).2.1::M) (K (i64 (kG x s x.op).2.2))) :
  G w0 (ob eY (b,vp) x::ob bf vp s::M) (ac 268 [ptr b 0] K):=by
 refine C0 ?_
 unfold sO
 refine G.cV (σ:=List ou×iX) (λz=>ob eY (b,vp) { x with op:=z.1 }::ob bf vp z.2::M) (λz=>z.1.length<=1000/\Ua x z.1/\kG x z.2 z.1=kG x s x.op) (λz=>z.1.length) (x.op,s) rfl ⟨D,E,rfl⟩ ?_
 rintro⟨ps,t⟩ ⟨e,a,d⟩ J hJ
 simp only at e a d hJ ⊢
 rw[<-d]at hK
 cases ps with
 |nil =>
  rw[dw]
  intro j i vo op h
  refine bx (an @List.reverse_nil.{0} (an @List.length_nil.{0} @Int.cast_ofNat_Int)) ?_
  rw[PK]at hK
  refine aq (vo:=vo) (ps:=[]) b vp op { x with op:=[],next:=x.K,O:=3 } rfl h ?_
  exact hK.sub
 |cons q ps =>
  obtain⟨C,A,p,y⟩:=a q zs
  simp only[zad]at e
  have g:((0:Int)<(((q::ps).reverse.length:Nat):Int))=True:=eq_true zs
  rw[dw]
  intro j i vo op h
  refine bx g ?_
  refine aq b vp op { x with op:=q::ps } rfl h ?_
  refine rI (x:={ x with op:=q::ps }) (q:=q) (ps:=ps) rfl zo (bi ?_)
  refine G.new λv=>?_
  refine G.aJ eY (b,vp) ?_
  rw[dw]
  intro j i vo op h
  refine bi ?_
  refine My (s:=t) ?_
  rw[yZ]at hK d
  by_cases c:(ky t.l).2=0
  ·rw[zp c]at hK d
   by_cases f:q.op=17
   ·rw[zp f]at hK
    obtain⟨B,w,o⟩:=adQ F (k:=q.aG.toNat) zo
    have u:JD q.aG q.aG.toNat:=⟨zo⟩
    have m:IntKind.wrap .i64 (x.mt.getD q.aG.toNat 0+1)=x.mt.getD q.aG.toNat 0+1:=jL zo zo
    refine bx (an c (eq_true f)) ?_
    refine aq b vp op { x with op:=ps } rfl h ?_
    refine GY (vp:=vp) (x:={ x with op:=ps }) (q:=q) (k:=q.told.toNat) zo (by simp only;omega) hi ?_
    refine G.aJ eY (b,vp) ?_
    rw[dw]
    intro j i vo op h
    refine bx m ?_
    refine aq b vp op { x with op:=ps,r:=q.bb,af:=x.af.take q.told.toNat,next:=x.mt.getD q.aG.toNat 0+1 } rfl h ?_
    refine G.ap (As:=[ob eY (b,vp) { x with op:=ps,r:=q.bb,af:=x.af.take q.told.toNat,next:=x.mt.getD q.aG.toNat 0+1 },ob bf vp (t.bj (ky t.l).1)]) ?_
    simp only[Fn,GT]
    refine Fk (x:={ x with op:=ps,r:=q.bb,af:=x.af.take q.told.toNat,next:=x.mt.getD q.aG.toNat 0+1 }) (s:=t.bj (ky t.l).1) (by simp only;omega) (bi ?_)
    exact hK.sub
   ·rw[zn f]at d
    refine bx (an c f) ?_
    refine aq b vp op { x with op:=ps } rfl h ?_
    exact(hJ (ps,t.bj (ky t.l).1) ⟨by show ps.length<=1000;omega,λz n=>a z (gr _ n),d⟩ zs).sub
  ·rw[zn c]at hK
   refine bx c ?_
   refine aq b vp op { x with op:=ps } rfl h ?_
   exact hK.sub
def DH (x:ig)(s:iX)(o:Int):ig×iX×Int :=
 if o=14\/o=17 then mu x s o x.K
 else if o=15\/o=19 then({ x with op:=x.op.tail },s.bj (sB s.l).1,(sB s.l).2)
 else if o=18 then({ x with op:=x.op.tail,next:=x.mt.getD x.K.toNat 0+1 },s.bj (sB s.l).1,(sB s.l).2)
 else if o=16 then({ x with op:=x.op.tail,r:=(x.op.headD ⟨0,0,⟨0,0,0,0,0,0,0,0⟩,0⟩).bb,af:=x.af.take (x.op.headD ⟨0,0,⟨0,0,0,0,0,0,0,0⟩,0⟩).told.toNat,next:=x.mt.getD x.K.toNat 0+1 },s.bj (ky s.l).1,(ky s.l).2)
 else kG x s x.op
structure OU (x:ig)(s:iX)(o:Int):Prop where
 len:x.op.length<=1000
 af:x.af.length<=1000000
 ei:Ua x x.op
 mt:aiH x.mt
 aH:s.l.aH.length<=1000000
 ne:(o=15\/o=16\/o=18\/o=19)->x.op≠[]
 K:(o=16\/o=18)->0<=x.K/\x.K<x.mt.length
def Q8 {i:co}(l:OU x s i.op)(hK:G w0 (ob eY (b,vp) (DH x s i.op).1::ob bf vp (DH x s i.op).2.1::M) (K (i64 (DH x s i.op).2.2))) :
  G w0 (ob eY (b,vp) x::ob bf vp s::M) (ac 227 [ptr b 0,.agg #[i64 i.op,i64 i.a,i64 i.b,i64 i.c,u64 i.n]] K):=by
 refine E7 ?_
 unfold uN
 refine G.box λq=>?_
 unfold DH at hK
 by_cases f:i.op=14\/i.op=17
 ·rw[zp f]at hK
  refine G.aJ eY (b,vp) ?_
  rw[dw]
  intro B A z op h
  have j:G w0 (own b (x.cells B A z vp op)::sl fx B x.prog::sl bq A x.mt::sl GM z x.op.reverse::ob kF op x.af::own q [i64 i.op,i64 i.a,i64 i.b,i64 i.c,u64 i.n]::ob bf vp s::M) (ac 263 [ptr b 0,i64 i.op,i64 x.K] (λE=>andP (andP ab (andP ab ab)) (K E))):=by
   refine aq b vp op x rfl h ?_
   refine G.ap (As:=[ob eY (b,vp) x,ob bf vp s]) ?_
   simp only[Fn,GT]
   refine Fk (x:=x) (s:=s) l.len (bi ?_)
   exact hK.sub
  rcases f with f|f
  ·refine bx (eq_true f) ?_
   exact j
  ·have c:¬i.op=14:=by omega
   refine bx (an c (eq_true f)) ?_
   exact j
 rw[zn f]at hK
 have u:¬i.op=14:=λg=>f (.inl g)
 have o:¬i.op=17:=λg=>f (.inr g)
 have d:(i.op=15\/i.op=16\/i.op=18\/i.op=19)->∃p ps,x.op=p::ps/\x.op.tail=ps/\ps.length<=1000:=λg=>by
  have:=l.ne g
  have L:=l.len
  cases J:x.op with
  |nil=>exact absurd J this
  |cons p ps=>rw[J]at L;exact⟨p,ps,rfl,rfl,by simp at L;omega⟩
 by_cases e:i.op=15\/i.op=19
 ·rw[zp e]at hK
  obtain⟨p,ps,w,D,C⟩:=d zo
  rw[D]at hK
  have j:G w0 (own q [i64 i.op,i64 i.a,i64 i.b,i64 i.c,u64 i.n]::ob eY (b,vp) x::ob bf vp s::M) (ac 264 [ptr b 0] (λO=>ad (ptr b 1) (λH=>ac 265 [H] (λI=>K I)))):=by
   refine G.ap (As:=[ob eY (b,vp) x]) ?_
   simp only[Fn,GT]
   refine rI (x:=x) (q:=p) (ps:=ps) w C ?_
   rw[dw]
   intro B A z op h
   refine bi ?_
   refine MQ (s:=s) l.aH ?_
   refine aq b vp op { x with op:=ps } rfl h ?_
   exact hK.sub
  rcases e with e|e
  ·refine bx (an u (an o (eq_true e))) ?_
   exact j
  ·have c:¬i.op=15:=by omega
   refine bx (an u (an o (an c (eq_true e)))) ?_
   exact j
 rw[zn e]at hK
 have v:¬i.op=15:=λg=>e (.inl g)
 have y:¬i.op=19:=λg=>e (.inr g)
 by_cases m:i.op=18
 ·rw[zp m]at hK
  obtain⟨p,ps,w,D,C⟩:=d zo
  obtain⟨P,N⟩:=l.K (.inr m)
  obtain⟨T,S,Q⟩:=adQ l.mt (k:=x.K.toNat) zo
  have R:JD x.K x.K.toNat:=⟨zo⟩
  have F:IntKind.wrap .i64 (x.mt.getD x.K.toNat 0+1)=x.mt.getD x.K.toNat 0+1:=jL zo zo
  rw[D]at hK
  refine bx (an u (an o (an v (an y (eq_true m))))) ?_
  refine G.ap (As:=[ob eY (b,vp) x]) ?_
  simp only[Fn,GT]
  refine rI (x:=x) (q:=p) (ps:=ps) w C ?_
  rw[dw]
  intro B A z op h
  refine bx F ?_
  refine MQ (s:=s) l.aH ?_
  refine aq b vp op { x with op:=ps,next:=x.mt.getD x.K.toNat 0+1 } rfl h ?_
  exact hK.sub
 rw[zn m]at hK
 by_cases t:i.op=16
 ·rw[zp t]at hK
  obtain⟨p,ps,w,D,C⟩:=d zo
  obtain⟨P,N⟩:=l.K (.inl t)
  obtain⟨V,U,_,_⟩:=l.ei p (by rw[w];simp)
  obtain⟨T,S,Q⟩:=adQ l.mt (k:=x.K.toNat) zo
  have R:JD x.K x.K.toNat:=⟨zo⟩
  have F:IntKind.wrap .i64 (x.mt.getD x.K.toNat 0+1)=x.mt.getD x.K.toNat 0+1:=jL zo zo
  rw[D,w]at hK
  simp only[List.headD_cons]at hK
  refine bx (an u (an o (an v (an y (an m (eq_true t)))))) ?_
  refine G.ap (As:=[ob eY (b,vp) x]) ?_
  simp only[Fn,GT]
  refine rI (x:=x) (q:=p) (ps:=ps) w C ?_
  refine GY (vp:=vp) (x:={ x with op:=ps }) (q:=p) (k:=p.told.toNat) zo (by simp only;omega) l.af ?_
  rw[dw]
  intro B A z op h
  refine bx F ?_
  refine My (s:=s) ?_
  refine aq b vp op { x with op:=ps,r:=p.bb,af:=x.af.take p.told.toNat,next:=x.mt.getD x.K.toNat 0+1 } rfl h ?_
  exact hK.sub
 rw[zn t]at hK
 refine bx (an u (an o (an v (an y (an m t))))) ?_
 refine G.ap (As:=[ob eY (b,vp) x,ob bf vp s]) ?_
 simp only[Fn,GT]
 refine EC (x:=x) (s:=s) l.len l.af l.ei l.mt ?_
 exact hK.sub
abbrev m8 (n:Int):Nat:=(n.tmod 8).toNat
def Ot {n:Int}(h:0<=n):m8 n<8/\n.tmod 8=(m8 n:Int):=by grind
theorem pB {k:Nat}(a:k<8):Sa (x.cells vl vm vo vp op) (6+k) (u64 (x.r.get k)):=by
 match k,a with
 |0,_=>exact⟨rfl⟩
 |1,_=>exact⟨rfl⟩
 |2,_=>exact⟨rfl⟩
 |3,_=>exact⟨rfl⟩
 |4,_=>exact⟨rfl⟩
 |5,_=>exact⟨rfl⟩
 |6,_=>exact⟨rfl⟩
 |7,_=>exact⟨rfl⟩
abbrev rR (x:ig)(k:Nat)(y:Int):ig:={ x with r:=x.r.set k y }
theorem D3 {k:Nat}{y:Int}(a:k<8):vW (x.cells vl vm vo vp op) (6+k) [u64 y] ((rR x k y).cells vl vm vo vp op):=by
 match k,a with
 |0,_=>exact⟨rfl,zs⟩
 |1,_=>exact⟨rfl,zs⟩
 |2,_=>exact⟨rfl,zs⟩
 |3,_=>exact⟨rfl,zs⟩
 |4,_=>exact⟨rfl,zs⟩
 |5,_=>exact⟨rfl,zs⟩
 |6,_=>exact⟨rfl,zs⟩
 |7,_=>exact⟨rfl,zs⟩
class LtK (k n:Nat):Prop where
 lt:k<n
def jm {o n k m:Nat}{kd:IntKind}{i:Int}[hi:JD i k][ha:Ha o k m][hk:LtK k n]:G w0 L (nM n 1 (ptr b o) (.int kd i) K)=G w0 L (K (ptr b m)):=IY λw H=>by
 have h1:=hi.eq
 have h2:=ha.eq
 have h:=hk.lt
 subst h1 h2
 simp[nM,h]
abbrev ac6 (base off:Int):Int:=lX (lX base+off)
def lJ (base off:Int):Int×Int:=if 2147483648<=base\/2147483648<=ac6 base off\/ac6 base off<6 then(0,2)else(ac6 base off,0)
def DE {base d:Int}(hK:G w0 L (K (.tuple #[i64 (lJ base d).1,i64 (lJ base d).2]))):G w0 L (ac 259 [u64 base,i64 d] K):=by
 refine Pw ?_
 unfold Fz
 unfold lJ at hK
 refine mK ?_
 by_cases a:2147483648<=base
 ·rw[zp (.inl a)]at hK
  refine ca a ?_
  exact hK
 ·by_cases b:2147483648<=IntKind.wrap .i64 (IntKind.wrap .i64 base+d)
  ·rw[zp (.inr (.inl b))]at hK
   refine ca (an a b) ?_
   exact hK
  ·by_cases c:IntKind.wrap .i64 (IntKind.wrap .i64 base+d)<6
   ·rw[zp (.inr (.inr c))]at hK
    refine ca (an a (an b c)) ?_
    exact hK
   ·rw[zn (by rintro(g|g|g)<;>contradiction)]at hK
    refine ca (an a (an b c)) ?_
    exact hK
def xp (t:Bool):Int:=if t then 1 else 0
def yz {t:Bool}(hK:G w0 L (K (u64 (xp t)))):G w0 L (ac 223 [.bool t] K):=by
 refine PR ?_
 unfold D2
 cases t
 ·refine ar ?_
  exact hK
 ·refine ar ?_
  exact hK
def xP (x:ig)(s:iX)(i:co):ig×iX×Int :=
 if i.op=8 then(if(lJ (x.r.get (m8 i.b)) i.c).2≠0 then(x,s,2)
  else if(eH s (lJ (x.r.get (m8 i.b)) i.c).1).2.2=0 then(rR x (m8 i.a) (eH s (lJ (x.r.get (m8 i.b)) i.c).1).2.1,(eH s (lJ (x.r.get (m8 i.b)) i.c).1).1,0)
  else(x,(eH s (lJ (x.r.get (m8 i.b)) i.c).1).1,(eH s (lJ (x.r.get (m8 i.b)) i.c).1).2.2))
 else if i.op=9 then(if(lJ (x.r.get (m8 i.a)) i.c).2≠0 then(x,s,2)else(x,(vI s (lJ (x.r.get (m8 i.a)) i.c).1 (x.r.get (m8 i.b))).1,(vI s (lJ (x.r.get (m8 i.a)) i.c).1 (x.r.get (m8 i.b))).2))
 else if i.op=10 then(if 2147483648<=x.r.get (m8 i.b)then(x,s,3)
  else if(mL s (lX (x.r.get (m8 i.b)))).2.2=0 then(rR x (m8 i.a) (wU (mL s (lX (x.r.get (m8 i.b)))).2.1),(mL s (lX (x.r.get (m8 i.b)))).1,0)
  else(x,(mL s (lX (x.r.get (m8 i.b)))).1,(mL s (lX (x.r.get (m8 i.b)))).2.2))
 else(if 2147483648<=x.r.get (m8 i.a)then(x,s,2)else(x,(Cu s (lX (x.r.get (m8 i.a)))).1,(Cu s (lX (x.r.get (m8 i.a)))).2))
def iDo (x:ig)(s:iX)(i:co):ig×iX×Int :=
 if i.op=1 then(rR x (m8 i.a) i.n,s,0)
 else if i.op=2 then(rR x (m8 i.a) (x.r.get (m8 i.b)),s,0)
 else if i.op=3 then(rR x (m8 i.a) (IntKind.wrap .u64 (x.r.get (m8 i.b)+x.r.get (m8 i.c))),s,0)
 else if i.op=4 then(rR x (m8 i.a) (IntKind.wrap .u64 (x.r.get (m8 i.b)-x.r.get (m8 i.c))),s,0)
 else if i.op=5 then(rR x (m8 i.a) (IntKind.wrap .u64 (x.r.get (m8 i.b)*x.r.get (m8 i.c))),s,0)
 else if i.op=6 then(rR x (m8 i.a) (xp (decide (x.r.get (m8 i.b)<x.r.get (m8 i.c)))),s,0)
 else if i.op=7 then(rR x (m8 i.a) (xp (decide (x.r.get (m8 i.b)=x.r.get (m8 i.c)))),s,0)
 else if i.op=12 then({ x with next:=i.c },s,0)
 else if i.op=13 then(if x.r.get (m8 i.a)=0 then { x with next:=i.c }else x,s,0)
 else if i.op=21 then(if x.af.length<16 then({ x with af:=x.af++[.num (x.r.get (m8 i.a))] },s,0)else(x,s,5))
 else if i.op=22 then(x,s,13)
 else if i.op=8\/i.op=9\/i.op=10\/i.op=11 then xP x s i
 else DH x s i.op
structure aj3 (x:ig)(s:iX)(i:co):Prop where
 a:0<=i.a
 b:0<=i.b
 c:0<=i.c
 op:i.op≠23
 a6:x.af.length<=16
 aH:s.l.r.f.length<=1000
 dr:OU x s i.op
def Oi {i:co}(w:aj3 x s i)(v:i.op=8\/i.op=9\/i.op=10\/i.op=11)(hK:G w0 (ob eY (b,vp) (xP x s i).1::ob bf vp (xP x s i).2.1::M) (K (i64 (xP x s i).2.2))) :
  G w0 (ob eY (b,vp) x::ob bf vp s::M) (ac 226 [ptr b 0,.agg #[i64 i.op,i64 i.a,i64 i.b,i64 i.c,u64 i.n],ptr b (6+m8 i.a),u64 (x.r.get (m8 i.b))] K):=by
 refine Dg ?_
 unfold sn
 obtain⟨m,z⟩:=Ot w.a
 refine G.box λq=>?_
 unfold xP at hK
 rcases v with e|f|d|h11
 ·rw[zp e]at hK
  refine bx (eq_true e) ?_
  refine DE ?_
  by_cases c:(lJ (x.r.get (m8 i.b)) i.c).2=0
  ·rw[zn (λg=>g c)]at hK
   refine G.aJ eY (b,vp) ?_
   rw[dw]
   intro vl vm vo op h
   have p:=D3 (x:=x) (vl:=vl) (vm:=vm) (vo:=vo) (vp:=vp) (op:=op) (k:=m8 i.a) (y:=(eH s (lJ (x.r.get (m8 i.b)) i.c).1).2.1) m
   refine bx c ?_
   refine mE (s:=s) ?_
   by_cases j:(eH s (lJ (x.r.get (m8 i.b)) i.c).1).2.2=0
   ·rw[zp j]at hK
    refine bx j ?_
    refine aq b vp op (rR x (m8 i.a) (eH s (lJ (x.r.get (m8 i.b)) i.c).1).2.1) rfl h ?_
    exact hK.sub
   ·rw[zn j]at hK
    refine bx j ?_
    refine aq b vp op x rfl h ?_
    exact hK.sub
  ·rw[zp c]at hK
   have o:(lJ (x.r.get (m8 i.b)) i.c).2=2:=by
    unfold lJ at c ⊢
    split
    ·rfl
    ·rename_i g;rw[zn g]at c;exact absurd rfl c
   rw[o]
   refine bi ?_
   exact hK.sub
 ·have e:¬i.op=8:=by omega
  rw[zn e,zp f]at hK
  refine G.aJ eY (b,vp) ?_
  rw[dw]
  intro vl vm vo op h
  have t:=pB (x:=x) (vl:=vl) (vm:=vm) (vo:=vo) (vp:=vp) (op:=op) (k:=m8 i.a) m
  refine bx (an e (eq_true f)) ?_
  refine DE ?_
  by_cases c:(lJ (x.r.get (m8 i.a)) i.c).2=0
  ·rw[zn (λg=>g c)]at hK
   refine bx c ?_
   refine Jm (s:=s) ?_
   refine aq b vp op x rfl h ?_
   exact hK.sub
  ·rw[zp c]at hK
   have o:(lJ (x.r.get (m8 i.a)) i.c).2=2:=by
    unfold lJ at c ⊢
    split
    ·rfl
    ·rename_i g;rw[zn g]at c;exact absurd rfl c
   rw[o]
   refine bi ?_
   refine aq b vp op x rfl h ?_
   exact hK.sub
 ·have e:¬i.op=8:=by omega
  have f:¬i.op=9:=by omega
  rw[zn e,zn f,zp d]at hK
  by_cases c:2147483648<=x.r.get (m8 i.b)
  ·rw[zp c]at hK
   refine bx (an e (an f (an (eq_true d) c))) ?_
   exact hK.sub
  ·rw[zn c]at hK
   refine G.aJ eY (b,vp) ?_
   rw[dw]
   intro vl vm vo op h
   have p:=D3 (x:=x) (vl:=vl) (vm:=vm) (vo:=vo) (vp:=vp) (op:=op) (k:=m8 i.a) (y:=wU (mL s (lX (x.r.get (m8 i.b)))).2.1) m
   refine bx (an e (an f (an (eq_true d) c))) ?_
   refine G6 (s:=s) ?_
   by_cases j:(mL s (lX (x.r.get (m8 i.b)))).2.2=0
   ·rw[zp j]at hK
    refine bx j ?_
    refine aq b vp op (rR x (m8 i.a) (wU (mL s (lX (x.r.get (m8 i.b)))).2.1)) rfl h ?_
    exact hK.sub
   ·rw[zn j]at hK
    refine bx j ?_
    refine aq b vp op x rfl h ?_
    exact hK.sub
 ·have e:¬i.op=8:=by omega
  have f:¬i.op=9:=by omega
  have d:¬i.op=10:=by omega
  rw[zn e,zn f,zn d]at hK
  refine G.aJ eY (b,vp) ?_
  rw[dw]
  intro vl vm vo op h
  have t:=pB (x:=x) (vl:=vl) (vm:=vm) (vo:=vo) (vp:=vp) (op:=op) (k:=m8 i.a) m
  by_cases c:2147483648<=x.r.get (m8 i.a)
  ·rw[zp c]at hK
   refine bx (an e (an f (an d c))) ?_
   refine aq b vp op x rfl h ?_
   exact hK.sub
  ·rw[zn c]at hK
   have u:=w.aH
   refine bx (an e (an f (an d c))) ?_
   refine Jl (s:=s) u (λl=>by rw[P6,Vy];omega) (bi ?_)
   refine aq b vp op x rfl h ?_
   exact hK.sub
def W9 {i:co}(E:aj3 x s i)(hK:G w0 (ob eY (b,vp) (iDo x s i).1::ob bf vp (iDo x s i).2.1::M) (K (i64 (iDo x s i).2.2))) :
  G w0 (ob eY (b,vp) x::ob bf vp s::M) (ac 195 [ptr b 0,.agg #[i64 i.op,i64 i.a,i64 i.b,i64 i.c,u64 i.n]] K):=by
 refine yg ?_
 unfold p8
 obtain⟨F,S⟩:=Ot E.a
 obtain⟨L,Q⟩:=Ot E.b
 obtain⟨N,P⟩:=Ot E.c
 have T:JD (i.a.tmod 8) (m8 i.a):=⟨S⟩
 have R:JD (i.b.tmod 8) (m8 i.b):=⟨Q⟩
 have O:JD (i.c.tmod 8) (m8 i.c):=⟨P⟩
 have Z:LtK (m8 i.a) 8:=⟨F⟩
 have W:LtK (m8 i.b) 8:=⟨L⟩
 have V:LtK (m8 i.c) 8:=⟨N⟩
 have A:=E.op
 refine G.box λq=>?_
 refine G.aJ eY (b,vp) ?_
 rw[dw]
 intro vl vm vo op h
 have Y:=pB (x:=x) (vl:=vl) (vm:=vm) (vo:=vo) (vp:=vp) (op:=op) F
 have X:=pB (x:=x) (vl:=vl) (vm:=vm) (vo:=vo) (vp:=vp) (op:=op) L
 have U:=pB (x:=x) (vl:=vl) (vm:=vm) (vo:=vo) (vp:=vp) (op:=op) N
 have sg:=λy=>D3 (x:=x) (vl:=vl) (vm:=vm) (vo:=vo) (vp:=vp) (op:=op) (y:=y) F
 unfold iDo at hK
 by_cases j:i.op=1
 ·rw[zp j]at hK
  refine bx (an @jm (eq_true j)) ?_
  refine aq b vp op (rR x (m8 i.a) (i.n)) rfl h ?_
  exact hK.sub
 rw[zn j]at hK
 by_cases k:i.op=2
 ·rw[zp k]at hK
  refine bx (an @jm (an j (eq_true k))) ?_
  refine aq b vp op (rR x (m8 i.a) (x.r.get (m8 i.b))) rfl h ?_
  exact hK.sub
 rw[zn k]at hK
 by_cases l:i.op=3
 ·rw[zp l]at hK
  refine bx (an @jm (an j (an k (eq_true l)))) ?_
  refine aq b vp op (rR x (m8 i.a) (IntKind.wrap .u64 (x.r.get (m8 i.b)+x.r.get (m8 i.c)))) rfl h ?_
  exact hK.sub
 rw[zn l]at hK
 by_cases p:i.op=4
 ·rw[zp p]at hK
  refine bx (an @jm (an j (an k (an l (eq_true p))))) ?_
  refine aq b vp op (rR x (m8 i.a) (IntKind.wrap .u64 (x.r.get (m8 i.b)-x.r.get (m8 i.c)))) rfl h ?_
  exact hK.sub
 rw[zn p]at hK
 by_cases t:i.op=5
 ·rw[zp t]at hK
  refine bx (an @jm (an j (an k (an l (an p (eq_true t)))))) ?_
  refine aq b vp op (rR x (m8 i.a) (IntKind.wrap .u64 (x.r.get (m8 i.b)*x.r.get (m8 i.c)))) rfl h ?_
  exact hK.sub
 rw[zn t]at hK
 by_cases v:i.op=6
 ·rw[zp v]at hK
  refine bx (an @jm (an j (an k (an l (an p (an t (eq_true v))))))) ?_
  refine yz (bi ?_)
  refine aq b vp op (rR x (m8 i.a) (xp (decide (x.r.get (m8 i.b)<x.r.get (m8 i.c))))) rfl h ?_
  exact hK.sub
 rw[zn v]at hK
 by_cases w:i.op=7
 ·rw[zp w]at hK
  refine bx (an @jm (an j (an k (an l (an p (an t (an v (eq_true w)))))))) ?_
  refine yz (bi ?_)
  refine aq b vp op (rR x (m8 i.a) (xp (decide (x.r.get (m8 i.b)=x.r.get (m8 i.c))))) rfl h ?_
  exact hK.sub
 rw[zn w]at hK
 by_cases d:i.op=12
 ·rw[zp d]at hK
  refine bx (an @jm (an j (an k (an l (an p (an t (an v (an w (eq_true d))))))))) ?_
  refine aq b vp op { x with next:=i.c } rfl h ?_
  exact hK.sub
 rw[zn d]at hK
 by_cases e:i.op=13
 ·rw[zp e]at hK
  by_cases z:x.r.get (m8 i.a)=0
  ·rw[zp z]at hK
   refine bx (an @jm (an j (an k (an l (an p (an t (an v (an w (an d (an (eq_true e) (eq_true z))))))))))) ?_
   refine aq b vp op { x with next:=i.c } rfl h ?_
   exact hK.sub
  ·rw[zn z]at hK
   refine bx (an @jm (an j (an k (an l (an p (an t (an v (an w (an d (an (eq_true e) z)))))))))) ?_
   refine aq b vp op x rfl h ?_
   exact hK.sub
 rw[zn e]at hK
 by_cases f:i.op=21
 ·rw[zp f]at hK
  refine bx (an @jm (an j (an k (an l (an p (an t (an v (an w (an d (an e (eq_true f))))))))))) ?_
  refine DD (xs:=x.af) E.a6 ?_
  by_cases z:x.af.length<16
  ·rw[zp z]at hK
   rw[Gt,zp z,decide_eq_true z]
   refine bi ?_
   refine aq b vp op { x with af:=x.af++[.num (x.r.get (m8 i.a))] } rfl h ?_
   exact hK.sub
  ·rw[zn z]at hK
   rw[Gt,zn z,decide_eq_false z]
   refine bi ?_
   refine aq b vp op x rfl h ?_
   exact hK.sub
 rw[zn f]at hK
 by_cases o:i.op=22
 ·rw[zp o]at hK
  refine bx (an @jm (an j (an k (an l (an p (an t (an v (an w (an d (an e (an f (eq_true o)))))))))))) ?_
  refine aq b vp op x rfl h ?_
  exact hK.sub
 rw[zn o]at hK
 by_cases m:i.op=8\/i.op=9\/i.op=10\/i.op=11
 ·rw[zp m]at hK
  have u:G w0 (own b (x.cells vl vm vo vp op)::sl fx vl x.prog::sl bq vm x.mt::sl GM vo x.op.reverse::ob kF op x.af::own q [i64 i.op,i64 i.a,i64 i.b,i64 i.c,u64 i.n]::ob bf vp s::M) (ac 226 [ptr b 0,.agg #[i64 i.op,i64 i.a,i64 i.b,i64 i.c,u64 i.n],ptr b (6+m8 i.a),u64 (x.r.get (m8 i.b))] (λH=>K H)):=by
   refine aq b vp op x rfl h ?_
   refine G.ap (As:=[ob eY (b,vp) x,ob bf vp s]) ?_
   simp only[Fn,GT]
   refine Oi (x:=x) (s:=s) E m ?_
   exact hK.sub
  rcases m with B|C|D|c11
  ·refine bx (an @jm (an j (an k (an l (an p (an t (an v (an w (an d (an e (an f (an o (an A (eq_true B)))))))))))))) ?_
   exact u
  ·have B:¬i.op=8:=by omega
   refine bx (an @jm (an j (an k (an l (an p (an t (an v (an w (an d (an e (an f (an o (an A (an B (eq_true C))))))))))))))) ?_
   exact u
  ·have B:¬i.op=8:=by omega
   have C:¬i.op=9:=by omega
   refine bx (an @jm (an j (an k (an l (an p (an t (an v (an w (an d (an e (an f (an o (an A (an B (an C (eq_true D)))))))))))))))) ?_
   exact u
  ·have B:¬i.op=8:=by omega
   have C:¬i.op=9:=by omega
   have D:¬i.op=10:=by omega
   refine bx (an @jm (an j (an k (an l (an p (an t (an v (an w (an d (an e (an f (an o (an A (an B (an C (an D (eq_true c11))))))))))))))))) ?_
   exact u
 rw[zn m]at hK
 have B:¬i.op=8:=λg=>m (.inl g)
 have C:¬i.op=9:=λg=>m (.inr (.inl g))
 have J:¬i.op=10:=λg=>m (.inr (.inr (.inl g)))
 have I:¬i.op=11:=λg=>m (.inr (.inr (.inr g)))
 refine bx (an @jm (an j (an k (an l (an p (an t (an v (an w (an d (an e (an f (an o (an A (an B (an C (an J I)))))))))))))))) ?_
 refine aq b vp op x rfl h ?_
 refine G.ap (As:=[ob eY (b,vp) x,ob bf vp s]) ?_
 simp only[Fn,GT]
 refine Q8 (x:=x) (s:=s) E.dr ?_
 exact hK.sub
abbrev ig.bU (x:ig):co:=x.prog.getD x.K.toNat ⟨0,0,0,0,0⟩
abbrev ig.on (x:ig):ig:={ x with K:=x.next,left:=x.left-1 }
abbrev ig.bL (x:ig)(e:Int):ig:={ x with O:=4,aV:=e }
def CI (x:ig)(s:iX):ig×iX×Int:=iDo { x with next:=x.K+1 } s x.bU
def CT:Nat->ig->iX->ig×iX×Int
 |0,x,s=>(x,s,x.O)
 |n+1,x,s =>
  if x.O≠0 then(x,s,x.O)
  else if x.bad≠0 then(x.bL x.bad,s,4)
  else if x.K=x.prog.length then({ x with O:=2 },s,2)
  else if x.left=0 then(x.bL 6,s,4)
  else if(CI x s).2.2=0 then CT n (CI x s).1.on (CI x s).2.1
  else if(CI x s).2.2=11 then((CI x s).1,(CI x s).2.1,1)
  else((CI x s).1.bL (CI x s).2.2,(CI x s).2.1,4)
theorem adT {n:Nat}(h:x.O≠0):CT n x s=(x,s,x.O):=by cases n<;>simp[CT,h]
end
end Go.Proofs.YtoealglbimbbmaaGreatDoor.S
