import Derived.Test.YtoealglbimbbmaaGreatDoorSIn
import Derived.WideKeyArgs
import Derived.WalkKit
import Derived.ProofKit
import Derived.OpenShut
import Derived.Deep.Slices
import Derived.Lib.LaidU8
import Derived.Test.YtoealglbimbbmaaGreatDoorSLink
set_option linter.defProp false
set_option linter.unusedVariables false
set_option linter.unusedSimpArgs false
namespace Go.Proofs.YtoealglbimbbmaaGreatDoor.S
open Go Go.Proofs
structure uk (α:Type) where
 sz:Nat
 enc:α->List Value
 dU:List Value->Option α
 K:0<sz
 len:∀a,(enc a).length=sz
 cQ:∀a,∀u∈enc a,one u=true
 ev:∀cs a,dU cs=some a->enc a=cs
class nR {α:Type}(E:uk α)(a:α)(cs:outParam (List Value)):Prop where
 eq:E.enc a=cs
class A5 {α:Type}(E:uk α)(cs:List Value)(a:outParam α):Prop where
 eq:E.dU cs=some a
class iW {α:Type}(xs:List α)(k:Nat)(x:outParam α):Prop where
 eq:xs[k]? = some x
instance iW.z {α:Type}{a:α}{l:List α}:iW (a::l) 0 a:=⟨rfl⟩
instance iW.s {α:Type}{a b:α}{l:List α}{n:Nat}[h:iW l n a]:iW (b::l) (n+1) a:=⟨by simpa using h.eq⟩
class JD (i:Int)(k:outParam Nat):Prop where
 eq:i=(k:Int)
instance {k:Nat}:JD (k:Int) k:=⟨rfl⟩
instance:JD 0 0:=⟨rfl⟩
instance:JD 5 5:=⟨rfl⟩
instance:JD 6 6:=⟨rfl⟩
class Ha (i n:Nat)(m:outParam Nat):Prop where
 eq:i+n=m
instance (priority:=1200){n:Nat}:Ha 0 n n:=⟨zaS n⟩
instance (priority:=1100){i:Nat}:Ha i 0 i:=⟨rfl⟩
instance {i n:Nat}:Ha i n (i+n):=⟨rfl⟩
class YB (b:Int):Prop where
 ne:b≠0
class yi (b:Int):Prop where
 le:0<=b
instance:yi 1:=⟨zd⟩
instance:yi 60:=⟨zd⟩
instance:YB 8:=⟨zd⟩
class Dj (ks:List CK)(xs ys:List Value)(t:outParam Bool):Prop where
 f1:lH ks xs
 f2:lH ks ys
 eq:jw xs ys=t
instance Dj.i1 {k:IntKind}{a b:Int}:Dj [.i k] [.int k a] [.int k b] (decide (a=b)):=⟨⟨rfl,trivial⟩,⟨rfl,trivial⟩,by simp[jw];rfl⟩
instance Dj.b1 {a b:Bool}:Dj [.b] [.bool a] [.bool b] (a == b):=⟨trivial,trivial,by simp[jw]⟩
instance (priority:=500) Dj.i {ks:List CK}{xs ys:List Value}{t:Bool}{k:IntKind}{a b:Int}[h:Dj ks xs ys t]:Dj (.i k::ks) (.int k a::xs) (.int k b::ys) (decide (a=b)&&t):=⟨⟨rfl,h.f1⟩,⟨rfl,h.f2⟩,by simp[jw,h.eq];rfl⟩
instance (priority:=500) Dj.b {ks:List CK}{xs ys:List Value}{t a b:Bool}[h:Dj ks xs ys t]:Dj (.b::ks) (.bool a::xs) (.bool b::ys) ((a == b)&&t):=⟨h.f1,h.f2,by simp[jw,h.eq]⟩
class wI (zero:List Value)(ps:List (Nat×Nat×Value))(r:outParam (List Value)):Prop where
 eq:xo zero ps=some r
instance wI.nil {z:List Value}:wI z [] z:=⟨rfl⟩
instance wI.cons {z vs z' r:List Value}{o n:Nat}{v:Value}{ps:List (Nat×Nat×Value)}[hv:ax v vs][hl:ME vs n][hs:vW z o vs z'][h:wI z' ps r]:wI z ((o,n,v)::ps) r:=⟨by
 have h1:v.cells.size=n:=by rw[<-hl.eq,<-hv.eq];simp
 have h2:=hs.le
 rw[hl.eq]at h2
 simp only[xo,h1,h2,and_self,if_true,hv.eq,hs.eq]
 exact h.eq⟩
section
variable {α:Type}(E:uk α)
def oo (xs:List α):(xs.flatMap E.enc).length=xs.length*E.sz:=by
 induction xs with
 |nil=>simp
 |cons x xs ih=>simp[ih,E.len,za9];omega
def Bk (rest:List Value):∀(xs:List α)(i:Nat)(x:α),xs[i]? = some x->((xs.flatMap E.enc++rest).drop (i*E.sz)).take E.sz=E.enc x
 | [],i,x,h=>by simp at h
 |y::xs,0,x,h=>by
  simp at h;subst h
  have:=E.len y
  simp[zaO,zaG,<-this]
 |y::xs,i+1,x,h=>by
  have:=E.len y
  rw[zaO,zaG,show(i+1)*E.sz=(E.enc y).length+i*E.sz by rw[this,za9];omega,List.drop_append,zaB zo,GT,zbT]
  exact Bk rest xs i x (by simpa using h)
def acH:∀(vs a b:List Value)(j:Nat),j+vs.length<=a.length->LX (a++b) j vs=LX a j vs++b:=λvs a b j h=>by
 rw[xu _ _ _ (by simp;omega),xu _ _ _ h]
 rw[za4 zo,List.drop_append_of_le_length h]
 simp
def SH (vs a b:List Value)(j:Nat)(h:j+vs.length<=b.length):LX (a++b) (a.length+j) vs=a++LX b j vs:=by
 rw[xu _ _ _ (by simp;omega),xu _ _ _ h]
 rw[show a.length+j+vs.length=a.length+(j+vs.length) by omega,List.take_append,List.drop_append,zat zo,zaB zo,zbT,zbT]
 simp
def OG (rest:List Value)(vs:List Value)(j:Nat)(a':α):∀(xs:List α)(i:Nat)(a:α),xs[i]? = some a->j+vs.length<=E.sz->E.enc a'=LX (E.enc a) j vs ->
  LX (xs.flatMap E.enc++rest) (i*E.sz+j) vs=(xs.set i a').flatMap E.enc++rest
 | [],i,a,h,_,_=>by simp at h
 |y::xs,0,a,h,hj,he=>by
  simp at h;subst h
  have:=E.len y
  simp only[zaO,zaG,Nat.zero_mul,zaS,zbO]
  rw[acH _ _ _ _ zo,he]
 |y::xs,i+1,a,h,hj,he=>by
  have:=E.len y
  have hlt:i<xs.length:=by
   rcases zaE i xs.length with h1|h1
   ·exact h1
   ·simp[zaW h1]at h
  have hle:(i+1)*E.sz<=xs.length*E.sz:=zbf _ hlt
  simp only[zaO,zaG,List.set_cons_succ]
  rw[show(i+1)*E.sz+j=(E.enc y).length+(i*E.sz+j) by rw[this,za9];omega,SH _ _ _ _ (by simp only[LE,oo];rw[za9]at hle;omega)]
  rw[OG rest vs j a' xs i a (by simpa using h) hj he]
def acs (xs:List α):∀u∈xs.flatMap E.enc,one u=true:=λu hu=>by
 obtain⟨x,_,h⟩:=List.mem_flatMap.1 hu
 exact E.cQ x u h
def ki (w:World)(v:Value)(xs:List α):Prop :=
 ∃oa cap,v=.slice oa xs.length cap/\(oa=none->xs=[]/\cap=0)/\∀i x,xs[i]? = some x->∃e o cs,oa=some ⟨e,o,none⟩/\mem w e=some cs/\o+(i+1)*E.sz<=cs.length/\(cs.drop (o+i*E.sz)).take E.sz=E.enc x
def slR (v:Value)(xs:List α):bg:=λh=>(v=.slice none 0 0/\xs=[]/\X3 h) \/
 ∃c cap rest,v=.slice (some ⟨c,0,none⟩) xs.length cap/\xs.length<=cap/\rest.length=(cap-xs.length)*E.sz/\lW c (xs.flatMap E.enc++rest) h
end
abbrev sl {α:Type}(E:uk α)(v:Value)(xs:List α):bg:=ob (slR E) v xs
section
variable {α:Type}{E:uk α}{w0:bz}{L:List bg}{v:Value}{xs:List α}{w:World}
def St.bH (H:St w0 (sl E v xs::L) w):(v=.slice none 0 0/\xs=[]/\St w0 L w) \/
  ∃c cap rest,v=.slice (some ⟨c,0,none⟩) xs.length cap/\xs.length<=cap/\rest.length=(cap-xs.length)*E.sz/\St w0 (own c (xs.flatMap E.enc++rest)::L) w:=by
 obtain⟨h,⟨a,b,g,k,j⟩,hd⟩:=id H
 rw[show sl E v xs=slR E v xs from iw _ _ _]at g
 rcases g with⟨d,e,f⟩|⟨c,cap,rest,d,e,f,i⟩
 ·exact .inl ⟨d,e,H.drop⟩
 ·exact .inr ⟨c,cap,rest,d,e,f,h,⟨a,b,by rw[show own c (xs.flatMap E.enc++rest)=lW c _ from iw _ _ _];exact i,k,j⟩,hd⟩
def St.cF {c cap:Nat}{rest:List Value}(H:St w0 (own c (xs.flatMap E.enc++rest)::L) w)(g:xs.length<=cap)(f:rest.length=(cap-xs.length)*E.sz):St w0 (sl E (.slice (some ⟨c,0,none⟩) xs.length cap) xs::L) w:=by
 obtain⟨h,⟨a,b,d,e,j⟩,hd⟩:=H
 rw[show own c (xs.flatMap E.enc++rest)=lW c _ from iw _ _ _]at d
 exact⟨h,⟨a,b,by rw[show sl E (.slice (some ⟨c,0,none⟩) xs.length cap) xs=slR E _ xs from iw _ _ _];exact .inr ⟨c,cap,rest,rfl,g,f,d⟩,e,j⟩,hd⟩
theorem St.dt (H:St w0 L w):St w0 (sl E (.slice none 0 0) []::L) w:=by
 obtain⟨h,e,f⟩:=H
 refine⟨h,?_,f⟩
 have c:cj X3 (fg L) h:=by rw[xC];exact e
 obtain⟨a,b,d,c,j⟩:=c
 exact⟨a,b,by rw[show sl E (.slice none 0 0) ([]:List α)=slR E _ []from iw _ _ _];exact .inl ⟨rfl,rfl,d⟩,c,j⟩
def ki.mk {c cap:Nat}{rest:List Value}(hm:mem w c=some (xs.flatMap E.enc++rest)):ki E w (.slice (some ⟨c,0,none⟩) xs.length cap) xs :=
 ⟨some ⟨c,0,none⟩,cap,rfl,zs,λi x hx=>⟨c,0,_,rfl,hm,by
  have:i<xs.length:=by
   rcases zaE i xs.length with h|h
   ·exact h
   ·simp[zaW h]at hx
  have:=zbf E.sz (show i+1<=xs.length from this)
  simp only[LE,oo];omega,by rw[zaS];exact Bk E rest xs i x hx⟩⟩
def St.cC (H:St w0 (sl E v xs::L) w):ki E w v xs:=by
 rcases H.bH with⟨rfl,rfl,_⟩|⟨c,b,a,rfl,_,_,d⟩
 ·exact⟨none,0,rfl,λ_=>⟨rfl,rfl⟩,λi x e=>by simp at e⟩
 ·exact ki.mk d.bo.2.1
end
class Nk {α:outParam Type}(w0:bz)(v:Value)(E:outParam (uk α))(xs:outParam (List α)):Prop where
 is:ki E w0.w v xs
class Rd {α:outParam Type}(w0:bz)(L:List bg)(v:Value)(E:outParam (uk α))(sz:outParam Nat)(xs:outParam (List α)):Prop where
 sz:E.sz=sz
 rd:∀w,St w0 L w->ki E w v xs
section
variable {α:Type}{E:uk α}{w0:bz}{L:List bg}{v:Value}{xs:List α}{w:World}
def ki.step {w':World}(h:ki E w v xs)(s:nF [] w w'):ki E w' v xs:=by
 obtain⟨l,a,d,f,c⟩:=h
 refine⟨l,a,d,f,λi x n=>?_⟩
 obtain⟨e,o,b,m,k,g,j⟩:=c i x n
 exact⟨e,o,b,m,s.df k zs,g,j⟩
instance Rd.sl:Rd w0 (sl E v xs::L) v E E.sz xs:=⟨rfl,λw H=>H.cC⟩
instance (priority:=500) Rd.tl {X:bg}{sz:Nat}[h:Rd w0 L v E sz xs]:Rd w0 (X::L) v E sz xs:=⟨h.sz,λw H=>h.rd w H.drop⟩
instance (priority:=1100) Rd.arg [h:Nk w0 v E xs]:Rd w0 L v E E.sz xs:=⟨rfl,λw H=>h.is.step H.step⟩
instance Nk.with {k:Nat->Option Obj}{m:Nat}[h:Nk w0 v E xs]:Nk (w0.with k m) v E xs:=⟨h.is⟩
theorem Rd.dp {sz:Nat}{C:bg->List bg}{M:List bg}(hM:∀A,fg (C A)=fg (A::M))(r:∀A,Rd w0 (C A) v E sz xs):Rd w0 M v E sz xs:=⟨(r X3).sz,λw H=>(r X3).rd w (by
 obtain⟨h,hs,hd⟩:=H
 refine⟨h,?_,hd⟩
 rw[hM]
 show cj X3 (fg M) h
 rw[xC];exact hs)⟩
class uS {α:outParam Type}(L:List bg)(v:Value)(E:outParam (uk α))(xs:outParam (List α))(C:outParam (bg->List bg)):Prop where
 dC:ae L (slR E) v xs C
instance uS.hd:uS (S.sl E v xs::L) v E xs (λa=>a::L):=⟨ae.hd⟩
instance (priority:=500) uS.tl {X:bg}{C:bg->List bg}[h:uS L v E xs C]:uS (X::L) v E xs (λa=>X::C a):=⟨@ae.tl _ _ _ _ _ _ _ _ h.dC⟩
instance uS.ob {C:bg->List bg}[h:uS L v E xs C]:ae L (slR E) v xs C:=h.dC
def vF {C:bg->List bg}(i:ae L (slR E) v xs C):∃M,(∀w,St w0 L w↔St w0 (S.sl E v xs::M) w)/\(∀A w,St w0 (C A) w↔St w0 (A::M) w):=by
 obtain⟨M,a,b,_⟩:=i.bS
 exact⟨M,λw=>by unfold St;rw[a],λA w=>by unfold St;rw[b]⟩
def ep (v:Value)(sz k j:Nat):Value:=match v with
 | .slice (some ⟨c,o,none⟩) _ _=>ptr c (o+k*sz+j)
 |_=>undef
variable {K:KV}{sz k j n:Nat}{x:α}
def Rd.at [r:Rd w0 L v E sz xs][e:iW xs k x](H:St w0 L w):∃b o cap cs,v=.slice (some ⟨b,o,none⟩) xs.length cap/\mem w b=some cs/\o+(k+1)*sz<=cs.length/\(cs.drop (o+k*sz)).take sz=E.enc x/\k<xs.length:=by
 obtain⟨f,cap,rfl,_,h⟩:=r.rd w H
 obtain⟨b,o,cs,rfl,d,c,a⟩:=h k x e.eq
 rw[r.sz]at c a
 exact⟨b,o,cap,cs,rfl,d,c,a,by
  rcases zaE k xs.length with h|h
  ·exact h
  ·have:=e.eq;simp[zaW h]at this⟩
def IY {F F':World->Prop}(h:∀w,St w0 L w->(F w↔F' w)):G w0 L F=G w0 L F':=propext ⟨λg w H=>(h w H).1 (g w H),λg w H=>(h w H).2 (g w H)⟩
def aje [r:Rd w0 L v E sz xs]:G w0 L (fu v K)=G w0 L (K (i64 xs.length)):=IY λw H=>by
 obtain⟨oa,cap,rfl,_⟩:=r.rd w H
 exact Iff.rfl
def ajc {kd:IntKind}{i:Int}[r:Rd w0 L v E sz xs][hi:JD i k][e:iW xs k x]:G w0 L (qH sz v (.int kd i) K)=G w0 L (K (ep v sz k 0)):=IY λw H=>by
 obtain⟨b,o,cap,cs,rfl,_,_,_,hk⟩:=Rd.at (x:=x) (k:=k) (r:=r) H
 have:=hi.eq
 subst this
 simp[qH,ep,hk]
def adi {m:Nat}[r:Rd w0 L v E sz xs][e:iW xs k x][a:Ha j n m]:G w0 L (j9 n (ep v sz k j) K)=G w0 L (K (ep v sz k m)):=IY λw H=>by
 have:=a.eq
 subst this
 obtain⟨b,o,cap,cs,rfl,_⟩:=Rd.at (x:=x) (k:=k) (r:=r) H
 simp[j9,ep,zcE]
def adG [r:Rd w0 L v E sz xs][e:iW xs k x]:G w0 L (ji (ep v sz k j) K)=G w0 L (K (ep v sz k j)):=IY λw H=>by
 obtain⟨b,o,cap,cs,rfl,_⟩:=Rd.at (x:=x) (k:=k) (r:=r) H
 simp[ji,ep]
def abd {u:Value}{cs:List Value}[r:Rd w0 L v E sz xs][e:iW xs k x][c:nR E x cs][h:Sa cs j u]:G w0 L (ad (ep v sz k j) K)=G w0 L (K u):=IY λw H=>by
 obtain⟨b,o,cap,ds,rfl,h1,h2,h3,_⟩:=Rd.at (x:=x) (k:=k) (r:=r) H
 have h4:=h.eq
 rw[<-c.eq,<-h3,zbh]at h4
 split at h4
 ·rw[zca]at h4
  simp[ad,ep,h1,h4,gm]
 ·cases h4
def XG {cs q:List Value}[r:Rd w0 L v E sz xs][e:iW xs k x][c:nR E x cs][h:pp cs j n q]:G w0 L (br n (ep v sz k j) K)=G w0 L (K (.agg q.toArray)):=IY λw H=>by
 obtain⟨b,o,cap,ds,rfl,h1,h2,h3,_⟩:=Rd.at (x:=x) (k:=k) (r:=r) H
 have h4:=h.eq
 have h5:=h.le
 have h6:cs.length=sz:=by rw[<-c.eq,E.len,r.sz]
 rw[<-c.eq,<-h3,List.drop_take,List.take_take,zbB,Nat.min_eq_left zo]at h4
 rw[za9]at h2
 simp[br,ep,h1,h4,show o+k*sz+j+n<=ds.length by omega]
def XL {P:Value}{cs vs q:List Value}{x':α}{C:bg->List bg}[r:Rd w0 L v E sz xs][s:uS L v E xs C][e:iW xs k x][c:nR E x cs][z:ax P vs][O:ME vs n][Q:vW cs j vs q][hd:A5 E q x'] :
  G w0 L (fh n (ep v sz k j) P K)=G w0 (C (S.sl E v (xs.set k x'))) (K undef):=by
 obtain⟨M,B,I⟩:=vF (w0:=w0) s.dC
 have f:P.cells.size=n:=by rw[<-O.eq,<-z.eq];simp
 have d:E.enc x'=LX (E.enc x) j vs:=by rw[E.ev _ _ hd.eq,c.eq,Q.eq]
 have hj:j+vs.length<=E.sz:=by have:=Q.le;rw[<-c.eq,E.len]at this;exact this
 have y:k<xs.length:=by
  rcases zaE k xs.length with h|h
  ·exact h
  ·have:=e.eq;simp[zaW h]at this
 have u:=zbf E.sz (show k+1<=xs.length from y)
 rw[za9]at u
 apply propext
 constructor
 ·intro g w H
  have t:=(I _ w).1 H
  rcases t.bH with⟨_,N,_⟩|⟨b,cap,a,i,p,o,l⟩
  ·have:(xs.set k x').length=0:=by rw[N];rfl
   simp at this;subst this;simp at y
  ·rw[zaZ]at i p o
   subst i
   have F:=l.ce (cs':=xs.flatMap E.enc++a)
   have J:=(B _).2 (F.cF p o)
   have D:=g _ J
   have m:=F.bo
   simp only[fh,ep,m.2.1,m.2.2,f,z.eq,zaS,<-r.sz]at D
   have A:=D.2.2.2.2
   rw[OG E a vs j x' xs k x e.eq hj d,T6,I7 l.bo.2.1]at A
   exact A
 ·intro g w H
  have t:=(B w).1 H
  rcases t.bH with⟨_,rfl,_⟩|⟨b,cap,a,rfl,p,o,l⟩
  ·simp at y
  ·have m:=l.bo
   simp only[fh,ep,m.2.1,m.2.2,f,z.eq,zaS,<-r.sz]
   refine⟨trivial,z.cQ,trivial,by have:=O.eq;simp only[LE,oo];omega,?_⟩
   rw[OG E a vs j x' xs k x e.eq hj d]
   refine g _ ((I _ _).2 ?_)
   have:=(l.ce (cs':=(xs.set k x').flatMap E.enc++a)).cF (E:=E) (xs:=xs.set k x') (cap:=cap) (by simpa using p) (by simpa using o)
   simpa using this
end
section
variable {w0:bz}{L:List bg}{K:KV}
def agN {b i:Nat}:ji (ptr b i) K=K (ptr b i):=by grind[ji]
def adk {f:FuncId}{x y:Array Value}:ji (.func (.func f) x y) K=K (.func (.func f) x y):=by grind[ji]
def agU {b i n m:Nat}[h:Ha i n m]:j9 n (ptr b i) K=K (ptr b m):=by funext w<;>simp[j9,h.eq]
def ahl {t:Bool}:rN (.bool t) K=K (.bool (!t)):=by grind[rN]
def Y9 {x y:Value}:nf (.bool true) x y K=K x:=by grind[nf]
def aac {x y:Value}:nf (.bool false) x y K=K y:=by grind[nf]
def agS {k:IntKind}{a b:Int}:ap .lss (.int k a) (.int k b) K=K (.bool (decide (a<b))):=by funext w<;>simp[ap,pm,gm,zbd]
def ahk {k:IntKind}{a b:Int}:ap .leq (.int k a) (.int k b) K=K (.bool (decide (a<=b))):=by funext w<;>simp[ap,pm,gm,zbd]
def ahe {k:IntKind}{a b:Int}:ap .gtr (.int k a) (.int k b) K=K (.bool (decide (b<a))):=by funext w<;>simp[ap,pm,gm,zbd]
def aha {k:IntKind}{a b:Int}:ap .geq (.int k a) (.int k b) K=K (.bool (decide (b<=a))):=by funext w<;>simp[ap,pm,gm,zbd]
def ag2 {k:IntKind}{a b:Int}:ap .eql (.int k a) (.int k b) K=K (.bool (decide (a=b))):=by funext w<;>simp[ap,pm,gm,zbd]
def agY {k:IntKind}{a b:Int}:ap .neq (.int k a) (.int k b) K=K (.bool (!decide (a=b))):=by funext w<;>simp[ap,pm,gm,bne,zbd]
def adj {k:IntKind}{a b:Int}:ap .add (.int k a) (.int k b) K=K (.int k (k.wrap (a+b))):=by funext w<;>simp[ap,pm,gm]
def ahp {k:IntKind}{a b:Int}:ap .sub (.int k a) (.int k b) K=K (.int k (k.wrap (a-b))):=by funext w<;>simp[ap,pm,gm]
def ag4 {k:IntKind}{a b:Int}:ap .mul (.int k a) (.int k b) K=K (.int k (k.wrap (a*b))):=by funext w<;>simp[ap,pm,gm]
def ahd {k:IntKind}{a b:Int}[h:YB b]:ap .quo (.int k a) (.int k b) K=K (.int k (k.wrap (a.tdiv b))):=by funext w<;>simp[ap,pm,gm,h.ne]
def agL {k:IntKind}{a b:Int}[h:YB b]:ap .rem (.int k a) (.int k b) K=K (.int k (a.tmod b)):=by funext w<;>simp[ap,pm,gm,h.ne]
def aeb {k:IntKind}{a b:Int}:ap .and (.int k a) (.int k b) K=K (.int k (k.wrap (BitVec.ofInt k.bits a &&& BitVec.ofInt k.bits b).toNat)):=by funext w<;>simp[ap,pm,gm]
def agW {k:IntKind}{a b:Int}:ap .or (.int k a) (.int k b) K=K (.int k (k.wrap (BitVec.ofInt k.bits a ||| BitVec.ofInt k.bits b).toNat)):=by funext w<;>simp[ap,pm,gm]
def adM {k:IntKind}{a b:Int}:ap .xor (.int k a) (.int k b) K=K (.int k (k.wrap (BitVec.ofInt k.bits a ^^^ BitVec.ofInt k.bits b).toNat)):=by funext w<;>simp[ap,pm,gm]
def ag6 {k c:IntKind}{a b:Int}[h:yi b]:ap .shl (.int k a) (.int c b) K=K (.int k (k.wrap (a*2 ^ min b.toNat k.bits))):=by funext w<;>simp[ap,h.le]
def ag3 {k c:IntKind}{a b:Int}[h:yi b]:ap .shr (.int k a) (.int c b) K=K (.int k (a.fdiv (2 ^ min b.toNat k.bits))):=by funext w<;>simp[ap,h.le]
def ZB {t:Nat}{x:Value}:tq t x K=K (.iface t x):=by grind[tq]
def aet {k b:IntKind}{a:Int}:AF k (.int b a) K=K (.int k (k.wrap a)):=by grind[AF]
def agV {a b:Bool}:jE .eql (.bool a) (.bool b) K=K (.bool (a == b)):=by funext w<;>simp[jE,Qw]
def agK {a b:Bool}:jE .neq (.bool a) (.bool b) K=K (.bool (!(a == b))):=by funext w<;>simp[jE,Qw]
def acF {b i:Nat}:iV .eql (ptr b i) (.pointer none) K=K (.bool false):=by funext w<;>simp[iV,Qw]
def aaa {b i:Nat}:iV .neq (ptr b i) (.pointer none) K=K (.bool true):=by funext w<;>simp[iV,Qw]
def acG  : iV .eql (.pointer none) (.pointer none) K=K (.bool true):=by funext w<;>simp[iV,Qw]
def Z2  : iV .neq (.pointer none) (.pointer none) K=K (.bool false):=by funext w<;>simp[iV,Qw]
def Zr {ks:List CK}{xs ys:List Value}{t:Bool}[h:Dj ks xs ys t]:nJ ks .eql (.agg xs.toArray) (.agg ys.toArray) K=K (.bool t):=by funext w<;>simp[nJ,h.f1,h.f2,h.eq,Qw]
def aal {ks:List CK}{xs ys:List Value}{t:Bool}[h:Dj ks xs ys t]:nJ ks .neq (.agg xs.toArray) (.agg ys.toArray) K=K (.bool (!t)):=by funext w<;>simp[nJ,h.f1,h.f2,h.eq,Qw]
def aeR {o n:Nat}{cs:List Value}{v:Value}[h:Sa cs o v]:uj false o n (.agg cs.toArray) K=K v:=by funext w<;>simp[uj,h.eq,gm]
def Zf {o n:Nat}{cs r:List Value}[h:pp cs o n r]:uj true o n (.agg cs.toArray) K=K (.agg r.toArray):=by funext w<;>simp only[uj,if_true]<;>congr 2<;>apply zan.1<;>simp[<-h.eq]
def SL {i:Nat}{vs:List Value}{v:Value}[h:Sa vs i v]:ib i (.tuple vs.toArray) K=K v:=by funext w<;>simp[ib,h.eq,gm]
def aaz {zero r:List Value}{ps:List (Nat×Nat×Value)}[h:wI zero ps r]:iz zero ps K=K (.agg r.toArray):=by funext w<;>simp[iz,h.eq]
def agR {k:IntKind}{a b:Int}:rQ (.int k a) [.int k b] K=K (.int k (if b > a then b else a)):=by funext w<;>simp[rQ,Jq,aab,gm]
def agZ {k:IntKind}{a b:Int}:mA (.int k a) [.int k b] K=K (.int k (if b<a then b else a)):=by funext w<;>simp[mA,Jq,V4,gm]
def adp {k:IntKind}{a b c:Int}:mA (.int k a) [.int k b,.int k c] K=K (.int k (if c<(if b<a then b else a)then c else(if b<a then b else a))):=by funext w<;>simp[mA,Jq,V4,gm]
def Zn {A B:World->Prop}:aj (.bool true) A B=A:=by rw[UJ]
def Zu {A B:World->Prop}:aj (.bool false) A B=B:=by rw[Us]
def ajr {t:Bool}{A:KV->World->Prop}:gW (.bool t) t A K=A K:=by rw[ae7]
def agJ {A:KV->World->Prop}:gW (.bool true) false A K=K undef:=by rw[ZC]
def ahf {A:KV->World->Prop}:gW (.bool false) true A K=K undef:=by rw[aaq]
def ajq {t:Bool}{A:KV->World->Prop}:gW undef t A K=K undef:=by rw[ai2]
def ai4 {t:Bool}{A:KV->World->Prop}{e:Value}:fl (.bool t) t A e K=A K:=by rw[D0]
def ahg {A:KV->World->Prop}{e:Value}:fl (.bool true) false A e K=K e:=by rw[F5]
def ahh {A:KV->World->Prop}{e:Value}:fl (.bool false) true A e K=K e:=by rw[FT]
def ac4 {p q:Bool}:fl (.bool p) true (λK=>K (.bool q)) (.bool false) K=K (.bool (p&&q)):=by rw[XP]
def agG {p q:Bool}:fl (.bool p) false (λK=>K (.bool q)) (.bool true) K=K (.bool (p||q)):=by rw[aby]
def aju {b i:Nat}:G w0 L (ji (ptr b i) K)=G w0 L (K (ptr b i)):=congrArg _ agN
def ahM {f:FuncId}{x y:Array Value}:G w0 L (ji (.func (.func f) x y) K)=G w0 L (K (.func (.func f) x y)):=congrArg _ adk
def aiY {b i n m:Nat}[h:Ha i n m]:G w0 L (j9 n (ptr b i) K)=G w0 L (K (ptr b m)):=congrArg _ agU
def aiR {t:Bool}:G w0 L (rN (.bool t) K)=G w0 L (K (.bool (!t))):=congrArg _ ahl
def afy {x y:Value}:G w0 L (nf (.bool true) x y K)=G w0 L (K x):=congrArg _ Y9
def afb {x y:Value}:G w0 L (nf (.bool false) x y K)=G w0 L (K y):=congrArg _ aac
def ajG {k:IntKind}{a b:Int}:G w0 L (ap .lss (.int k a) (.int k b) K)=G w0 L (K (.bool (decide (a<b)))):=congrArg _ agS
def aiS {k:IntKind}{a b:Int}:G w0 L (ap .leq (.int k a) (.int k b) K)=G w0 L (K (.bool (decide (a<=b)))):=congrArg _ ahk
def ajp {k:IntKind}{a b:Int}:G w0 L (ap .gtr (.int k a) (.int k b) K)=G w0 L (K (.bool (decide (b<a)))):=congrArg _ ahe
def ai9 {k:IntKind}{a b:Int}:G w0 L (ap .geq (.int k a) (.int k b) K)=G w0 L (K (.bool (decide (b<=a)))):=congrArg _ aha
def aj2 {k:IntKind}{a b:Int}:G w0 L (ap .eql (.int k a) (.int k b) K)=G w0 L (K (.bool (decide (a=b)))):=congrArg _ ag2
def ajT {k:IntKind}{a b:Int}:G w0 L (ap .neq (.int k a) (.int k b) K)=G w0 L (K (.bool (!decide (a=b)))):=congrArg _ agY
def aiy {k:IntKind}{a b:Int}:G w0 L (ap .add (.int k a) (.int k b) K)=G w0 L (K (.int k (k.wrap (a+b)))):=congrArg _ adj
def ajW {k:IntKind}{a b:Int}:G w0 L (ap .sub (.int k a) (.int k b) K)=G w0 L (K (.int k (k.wrap (a-b)))):=congrArg _ ahp
def ajN {k:IntKind}{a b:Int}:G w0 L (ap .mul (.int k a) (.int k b) K)=G w0 L (K (.int k (k.wrap (a*b)))):=congrArg _ ag4
def ajV {k:IntKind}{a b:Int}[h:YB b]:G w0 L (ap .quo (.int k a) (.int k b) K)=G w0 L (K (.int k (k.wrap (a.tdiv b)))):=congrArg _ ahd
def aiX {k:IntKind}{a b:Int}[h:YB b]:G w0 L (ap .rem (.int k a) (.int k b) K)=G w0 L (K (.int k (a.tmod b))):=congrArg _ agL
def ahL {k:IntKind}{a b:Int}:G w0 L (ap .and (.int k a) (.int k b) K)=G w0 L (K (.int k (k.wrap (BitVec.ofInt k.bits a &&& BitVec.ofInt k.bits b).toNat))):=congrArg _ aeb
def ajR {k:IntKind}{a b:Int}:G w0 L (ap .or (.int k a) (.int k b) K)=G w0 L (K (.int k (k.wrap (BitVec.ofInt k.bits a ||| BitVec.ofInt k.bits b).toNat))):=congrArg _ agW
def aih {k:IntKind}{a b:Int}:G w0 L (ap .xor (.int k a) (.int k b) K)=G w0 L (K (.int k (k.wrap (BitVec.ofInt k.bits a ^^^ BitVec.ofInt k.bits b).toNat))):=congrArg _ adM
def ajs {k k2:IntKind}{a b:Int}[h:yi b]:G w0 L (ap .shl (.int k a) (.int k2 b) K)=G w0 L (K (.int k (k.wrap (a*2 ^ min b.toNat k.bits)))):=congrArg _ ag6
def ajE {k k2:IntKind}{a b:Int}[h:yi b]:G w0 L (ap .shr (.int k a) (.int k2 b) K)=G w0 L (K (.int k (a.fdiv (2 ^ min b.toNat k.bits)))):=congrArg _ ag3
def agb {t:Nat}{x:Value}:G w0 L (tq t x K)=G w0 L (K (.iface t x)):=congrArg _ ZB
def ahG {k k2:IntKind}{a:Int}:G w0 L (AF k (.int k2 a) K)=G w0 L (K (.int k (k.wrap a))):=congrArg _ aet
def ajU {a b:Bool}:G w0 L (jE .eql (.bool a) (.bool b) K)=G w0 L (K (.bool (a == b))):=congrArg _ agV
def ajd {a b:Bool}:G w0 L (jE .neq (.bool a) (.bool b) K)=G w0 L (K (.bool (!(a == b)))):=congrArg _ agK
def aig {b i:Nat}:G w0 L (iV .eql (ptr b i) (.pointer none) K)=G w0 L (K (.bool false)):=congrArg _ acF
def af1 {b i:Nat}:G w0 L (iV .neq (ptr b i) (.pointer none) K)=G w0 L (K (.bool true)):=congrArg _ aaa
def ahJ  : G w0 L (iV .eql (.pointer none) (.pointer none) K)=G w0 L (K (.bool true)):=congrArg _ acG
def afv  : G w0 L (iV .neq (.pointer none) (.pointer none) K)=G w0 L (K (.bool false)):=congrArg _ Z2
def ae8 {ks:List CK}{xs ys:List Value}{t:Bool}[h:Dj ks xs ys t]:G w0 L (nJ ks .eql (.agg xs.toArray) (.agg ys.toArray) K)=G w0 L (K (.bool t)):=congrArg _ Zr
def afh {ks:List CK}{xs ys:List Value}{t:Bool}[h:Dj ks xs ys t]:G w0 L (nJ ks .neq (.agg xs.toArray) (.agg ys.toArray) K)=G w0 L (K (.bool (!t))):=congrArg _ aal
def aik {o n:Nat}{cs:List Value}{v:Value}[h:Sa cs o v]:G w0 L (uj false o n (.agg cs.toArray) K)=G w0 L (K v):=congrArg _ aeR
def af4 {o n:Nat}{cs r:List Value}[h:pp cs o n r]:G w0 L (uj true o n (.agg cs.toArray) K)=G w0 L (K (.agg r.toArray)):=congrArg _ Zf
def aa5 {i:Nat}{vs:List Value}{v:Value}[h:Sa vs i v]:G w0 L (ib i (.tuple vs.toArray) K)=G w0 L (K v):=congrArg _ SL
def afG {zero r:List Value}{ps:List (Nat×Nat×Value)}[h:wI zero ps r]:G w0 L (iz zero ps K)=G w0 L (K (.agg r.toArray)):=congrArg _ aaz
def aiZ {k:IntKind}{a b:Int}:G w0 L (rQ (.int k a) [.int k b] K)=G w0 L (K (.int k (if b > a then b else a))):=congrArg _ agR
def ajQ {k:IntKind}{a b:Int}:G w0 L (mA (.int k a) [.int k b] K)=G w0 L (K (.int k (if b<a then b else a))):=congrArg _ agZ
def aio {k:IntKind}{a b c:Int}:G w0 L (mA (.int k a) [.int k b,.int k c] K)=G w0 L (K (.int k (if c<(if b<a then b else a)then c else(if b<a then b else a)))):=congrArg _ adp
def agw {A B:World->Prop}:G w0 L (aj (.bool true) A B)=G w0 L (A):=congrArg _ Zn
def agx {A B:World->Prop}:G w0 L (aj (.bool false) A B)=G w0 L (B):=congrArg _ Zu
def akE {t:Bool}{A:KV->World->Prop}:G w0 L (gW (.bool t) t A K)=G w0 L (A K):=congrArg _ ajr
def ajo {A:KV->World->Prop}:G w0 L (gW (.bool true) false A K)=G w0 L (K undef):=congrArg _ agJ
def ai5 {A:KV->World->Prop}:G w0 L (gW (.bool false) true A K)=G w0 L (K undef):=congrArg _ ahf
def akp {t:Bool}{A:KV->World->Prop}:G w0 L (gW undef t A K)=G w0 L (K undef):=congrArg _ ajq
def akc {t:Bool}{A:KV->World->Prop}{e:Value}:G w0 L (fl (.bool t) t A e K)=G w0 L (A K):=congrArg _ ai4
def ajB {A:KV->World->Prop}{e:Value}:G w0 L (fl (.bool true) false A e K)=G w0 L (K e):=congrArg _ ahg
def ajt {A:KV->World->Prop}{e:Value}:G w0 L (fl (.bool false) true A e K)=G w0 L (K e):=congrArg _ ahh
def aie {p q:Bool}:G w0 L (fl (.bool p) true (λK=>K (.bool q)) (.bool false) K)=G w0 L (K (.bool (p&&q))):=congrArg _ ac4
def ai_ {p q:Bool}:G w0 L (fl (.bool p) false (λK=>K (.bool q)) (.bool true) K)=G w0 L (K (.bool (p||q))):=congrArg _ agG
def ahB {B:World->Prop}:G w0 L (andP ab B)=G w0 L (B):=by rw[oJ]
end
def RG :
  (∀{w0:bz} {L:List bg} {K:KV} {b i:Nat},G w0 L (ji (ptr b i) K)=G w0 L (K (ptr b i))) /\
  (∀{w0:bz} {L:List bg} {K:KV} {f:FuncId} {x y:Array Value},G w0 L (ji (.func (.func f) x y) K)=G w0 L (K (.func (.func f) x y))) /\
  (∀{w0:bz} {L:List bg} {K:KV} {b i n m:Nat} [h:Ha i n m],G w0 L (j9 n (ptr b i) K)=G w0 L (K (ptr b m))) /\
  (∀{w0:bz} {L:List bg} {K:KV} {t:Bool},G w0 L (rN (.bool t) K)=G w0 L (K (.bool (!t)))) /\
  (∀{w0:bz} {L:List bg} {K:KV} {x y:Value},G w0 L (nf (.bool true) x y K)=G w0 L (K x)) /\
  (∀{w0:bz} {L:List bg} {K:KV} {x y:Value},G w0 L (nf (.bool false) x y K)=G w0 L (K y)) /\
  (∀{w0:bz} {L:List bg} {K:KV} {k:IntKind} {a b:Int},G w0 L (ap .lss (.int k a) (.int k b) K)=G w0 L (K (.bool (decide (a<b))))) /\
  (∀{w0:bz} {L:List bg} {K:KV} {k:IntKind} {a b:Int},G w0 L (ap .leq (.int k a) (.int k b) K)=G w0 L (K (.bool (decide (a<=b))))) /\
  (∀{w0:bz} {L:List bg} {K:KV} {k:IntKind} {a b:Int},G w0 L (ap .gtr (.int k a) (.int k b) K)=G w0 L (K (.bool (decide (b<a))))) /\
  (∀{w0:bz} {L:List bg} {K:KV} {k:IntKind} {a b:Int},G w0 L (ap .geq (.int k a) (.int k b) K)=G w0 L (K (.bool (decide (b<=a))))) /\
  (∀{w0:bz} {L:List bg} {K:KV} {k:IntKind} {a b:Int},G w0 L (ap .eql (.int k a) (.int k b) K)=G w0 L (K (.bool (decide (a=b))))) /\
  (∀{w0:bz} {L:List bg} {K:KV} {k:IntKind} {a b:Int},G w0 L (ap .neq (.int k a) (.int k b) K)=G w0 L (K (.bool (!decide (a=b))))) /\
  (∀{w0:bz} {L:List bg} {K:KV} {k:IntKind} {a b:Int},G w0 L (ap .add (.int k a) (.int k b) K)=G w0 L (K (.int k (k.wrap (a+b))))) /\
  (∀{w0:bz} {L:List bg} {K:KV} {k:IntKind} {a b:Int},G w0 L (ap .sub (.int k a) (.int k b) K)=G w0 L (K (.int k (k.wrap (a-b))))) /\
  (∀{w0:bz} {L:List bg} {K:KV} {k:IntKind} {a b:Int},G w0 L (ap .mul (.int k a) (.int k b) K)=G w0 L (K (.int k (k.wrap (a*b))))) /\
  (∀{w0:bz} {L:List bg} {K:KV} {k:IntKind} {a b:Int} [h:YB b],G w0 L (ap .quo (.int k a) (.int k b) K)=G w0 L (K (.int k (k.wrap (a.tdiv b))))) /\
  (∀{w0:bz} {L:List bg} {K:KV} {k:IntKind} {a b:Int} [h:YB b],G w0 L (ap .rem (.int k a) (.int k b) K)=G w0 L (K (.int k (a.tmod b)))) /\
  (∀{w0:bz} {L:List bg} {K:KV} {k:IntKind} {a b:Int},G w0 L (ap .and (.int k a) (.int k b) K)=G w0 L (K (.int k (k.wrap (BitVec.ofInt k.bits a &&& BitVec.ofInt k.bits b).toNat)))) /\
  (∀{w0:bz} {L:List bg} {K:KV} {k:IntKind} {a b:Int},G w0 L (ap .or (.int k a) (.int k b) K)=G w0 L (K (.int k (k.wrap (BitVec.ofInt k.bits a ||| BitVec.ofInt k.bits b).toNat)))) /\
  (∀{w0:bz} {L:List bg} {K:KV} {k:IntKind} {a b:Int},G w0 L (ap .xor (.int k a) (.int k b) K)=G w0 L (K (.int k (k.wrap (BitVec.ofInt k.bits a ^^^ BitVec.ofInt k.bits b).toNat)))) /\
  (∀{w0:bz} {L:List bg} {K:KV} {k k2:IntKind} {a b:Int} [h:yi b],G w0 L (ap .shl (.int k a) (.int k2 b) K)=G w0 L (K (.int k (k.wrap (a*2 ^ min b.toNat k.bits))))) /\
  (∀{w0:bz} {L:List bg} {K:KV} {k k2:IntKind} {a b:Int} [h:yi b],G w0 L (ap .shr (.int k a) (.int k2 b) K)=G w0 L (K (.int k (a.fdiv (2 ^ min b.toNat k.bits))))) /\
  (∀{w0:bz} {L:List bg} {K:KV} {t:Nat} {x:Value},G w0 L (tq t x K)=G w0 L (K (.iface t x))) /\
  (∀{w0:bz} {L:List bg} {K:KV} {k k2:IntKind} {a:Int},G w0 L (AF k (.int k2 a) K)=G w0 L (K (.int k (k.wrap a)))) /\
  (∀{w0:bz} {L:List bg} {K:KV} {a b:Bool},G w0 L (jE .eql (.bool a) (.bool b) K)=G w0 L (K (.bool (a == b)))) /\
  (∀{w0:bz} {L:List bg} {K:KV} {a b:Bool},G w0 L (jE .neq (.bool a) (.bool b) K)=G w0 L (K (.bool (!(a == b))))) /\
  (∀{w0:bz} {L:List bg} {K:KV} {b i:Nat},G w0 L (iV .eql (ptr b i) (.pointer none) K)=G w0 L (K (.bool false))) /\
  (∀{w0:bz} {L:List bg} {K:KV} {b i:Nat},G w0 L (iV .neq (ptr b i) (.pointer none) K)=G w0 L (K (.bool true))) /\
  (∀{w0:bz} {L:List bg} {K:KV},G w0 L (iV .eql (.pointer none) (.pointer none) K)=G w0 L (K (.bool true))) /\
  (∀{w0:bz} {L:List bg} {K:KV},G w0 L (iV .neq (.pointer none) (.pointer none) K)=G w0 L (K (.bool false))) /\
  (∀{w0:bz} {L:List bg} {K:KV} {ks:List CK} {xs ys:List Value} {t:Bool} [h:Dj ks xs ys t],G w0 L (nJ ks .eql (.agg xs.toArray) (.agg ys.toArray) K)=G w0 L (K (.bool t))) /\
  (∀{w0:bz} {L:List bg} {K:KV} {ks:List CK} {xs ys:List Value} {t:Bool} [h:Dj ks xs ys t],G w0 L (nJ ks .neq (.agg xs.toArray) (.agg ys.toArray) K)=G w0 L (K (.bool (!t)))) /\
  (∀{w0:bz} {L:List bg} {K:KV} {o n:Nat} {cs:List Value} {v:Value} [h:Sa cs o v],G w0 L (uj false o n (.agg cs.toArray) K)=G w0 L (K v)) /\
  (∀{w0:bz} {L:List bg} {K:KV} {o n:Nat} {cs r:List Value} [h:pp cs o n r],G w0 L (uj true o n (.agg cs.toArray) K)=G w0 L (K (.agg r.toArray))) /\
  (∀{w0:bz} {L:List bg} {K:KV} {i:Nat} {vs:List Value} {v:Value} [h:Sa vs i v],G w0 L (ib i (.tuple vs.toArray) K)=G w0 L (K v)) /\
  (∀{w0:bz} {L:List bg} {K:KV} {zero r:List Value} {ps:List (Nat×Nat×Value)} [h:wI zero ps r],G w0 L (iz zero ps K)=G w0 L (K (.agg r.toArray))) /\
  (∀{w0:bz} {L:List bg} {K:KV} {k:IntKind} {a b:Int},G w0 L (rQ (.int k a) [.int k b] K)=G w0 L (K (.int k (if b > a then b else a)))) /\
  (∀{w0:bz} {L:List bg} {K:KV} {k:IntKind} {a b:Int},G w0 L (mA (.int k a) [.int k b] K)=G w0 L (K (.int k (if b<a then b else a)))) /\
  (∀{w0:bz} {L:List bg} {K:KV} {k:IntKind} {a b c:Int},G w0 L (mA (.int k a) [.int k b,.int k c] K)=G w0 L (K (.int k (if c<(if b<a then b else a)then c else(if b<a then b else a))))) /\
  (∀{w0:bz} {L:List bg} {A B:World->Prop},G w0 L (aj (.bool true) A B)=G w0 L (A)) /\
  (∀{w0:bz} {L:List bg} {A B:World->Prop},G w0 L (aj (.bool false) A B)=G w0 L (B)) /\
  (∀{w0:bz} {L:List bg} {K:KV} {t:Bool} {A:KV->World->Prop},G w0 L (gW (.bool t) t A K)=G w0 L (A K)) /\
  (∀{w0:bz} {L:List bg} {K:KV} {A:KV->World->Prop},G w0 L (gW (.bool true) false A K)=G w0 L (K undef)) /\
  (∀{w0:bz} {L:List bg} {K:KV} {A:KV->World->Prop},G w0 L (gW (.bool false) true A K)=G w0 L (K undef)) /\
  (∀{w0:bz} {L:List bg} {K:KV} {t:Bool} {A:KV->World->Prop},G w0 L (gW undef t A K)=G w0 L (K undef)) /\
  (∀{w0:bz} {L:List bg} {K:KV} {t:Bool} {A:KV->World->Prop} {e:Value},G w0 L (fl (.bool t) t A e K)=G w0 L (A K)) /\
  (∀{w0:bz} {L:List bg} {K:KV} {A:KV->World->Prop} {e:Value},G w0 L (fl (.bool true) false A e K)=G w0 L (K e)) /\
  (∀{w0:bz} {L:List bg} {K:KV} {A:KV->World->Prop} {e:Value},G w0 L (fl (.bool false) true A e K)=G w0 L (K e)) /\
  (∀{w0:bz} {L:List bg} {K:KV} {p q:Bool},G w0 L (fl (.bool p) true (λK=>K (.bool q)) (.bool false) K)=G w0 L (K (.bool (p&&q)))) /\
  (∀{w0:bz} {L:List bg} {K:KV} {p q:Bool},G w0 L (fl (.bool p) false (λK=>K (.bool q)) (.bool true) K)=G w0 L (K (.bool (p||q)))) /\
  (∀{w0:bz} {L:List bg} {B:World->Prop},G w0 L (andP ab B)=G w0 L (B)) /\
  (∀{w0:bz} {L:List bg} {A B:World->Prop},G w0 L (andP A B)=(G w0 L A/\G w0 L B)) /\
  (∀{w0:bz} {L:List bg} {K:KV} {b j:Nat} {cs:List Value} {C:bg->List bg} [ae L lW b cs C] {v:Value} [Sa cs j v],G w0 L (ad (ptr b j) K)=G w0 L (K v)) /\
  (∀{w0:bz} {L:List bg} {K:KV} {b j n:Nat} {cs:List Value} {C:bg->List bg} [ae L lW b cs C] {r:List Value} [pp cs j n r],G w0 L (br n (ptr b j) K)=G w0 L (K (.agg r.toArray))) /\
  (∀{w0:bz} {L:List bg} {K:KV} {b j n:Nat} {cs:List Value} {C:bg->List bg} [ae L lW b cs C] {v:Value} {vs r:List Value} [ax v vs] [vW cs j vs r] [ME vs n],G w0 L (fh n (ptr b j) v K)=G w0 (C (own b r)) (K undef)) /\
  (∀{w0:bz} {L:List bg},G w0 L ab=True) /\
  (∀{w0:bz} {L:List bg} {v:Value},G w0 L (eqP v v)=True) /\
  (∀{α:Type} {E:uk α} {w0:bz} {L:List bg} {v:Value} {xs:List α} {K:KV} {sz:Nat} [Rd w0 L v E sz xs],G w0 L (fu v K)=G w0 L (K (i64 xs.length))) /\
  (∀{α:Type} {E:uk α} {w0:bz} {L:List bg} {v:Value} {xs:List α} {K:KV} {sz k:Nat} {x:α} {kd:IntKind} {i:Int} [Rd w0 L v E sz xs] [JD i k] [iW xs k x],G w0 L (qH sz v (.int kd i) K)=G w0 L (K (ep v sz k 0))) /\
  (∀{α:Type} {E:uk α} {w0:bz} {L:List bg} {v:Value} {xs:List α} {K:KV} {sz k j n:Nat} {x:α} {m:Nat} [Rd w0 L v E sz xs] [iW xs k x] [Ha j n m],G w0 L (j9 n (ep v sz k j) K)=G w0 L (K (ep v sz k m))) /\
  (∀{α:Type} {E:uk α} {w0:bz} {L:List bg} {v:Value} {xs:List α} {K:KV} {sz k j:Nat} {x:α} [Rd w0 L v E sz xs] [iW xs k x],G w0 L (ji (ep v sz k j) K)=G w0 L (K (ep v sz k j))) /\
  (∀{α:Type} {E:uk α} {w0:bz} {L:List bg} {v:Value} {xs:List α} {K:KV} {sz k j:Nat} {x:α} {u:Value} {cs:List Value} [Rd w0 L v E sz xs] [iW xs k x] [nR E x cs] [Sa cs j u],G w0 L (ad (ep v sz k j) K)=G w0 L (K u)) /\
  (∀{α:Type} {E:uk α} {w0:bz} {L:List bg} {v:Value} {xs:List α} {K:KV} {sz k j n:Nat} {x:α} {cs q:List Value} [Rd w0 L v E sz xs] [iW xs k x] [nR E x cs] [pp cs j n q],G w0 L (br n (ep v sz k j) K)=G w0 L (K (.agg q.toArray))) /\
  (∀{α:Type} {E:uk α} {w0:bz} {L:List bg} {v:Value} {xs:List α} {K:KV} {sz k j n:Nat} {x:α} {val:Value} {cs vs q:List Value} {x2:α} {C:bg->List bg} [Rd w0 L v E sz xs] [uS L v E xs C] [iW xs k x] [nR E x cs] [ax val vs] [ME vs n] [vW cs j vs q] [A5 E q x2],G w0 L (fh n (ep v sz k j) val K)=G w0 (C (S.sl E v (xs.set k x2))) (K undef)) :=
 ⟨@aju,@ahM,@aiY,@aiR,@afy,@afb,@ajG,@aiS,@ajp,@ai9,@aj2,@ajT,@aiy,@ajW,@ajN,@ajV,@aiX,@ahL,@ajR,@aih,@ajs,@ajE,@agb,@ahG,@ajU,@ajd,@aig,@af1,@ahJ,@afv,@ae8,@afh,@aik,@af4,@aa5,@afG,@aiZ,@ajQ,@aio,@agw,@agx,@akE,@ajo,@ai5,@akp,@akc,@ajB,@ajt,@aie,@ai_,@ahB,@aj5,@ahD,@afz,@afR,@air,@ajz,@aje,@ajc,@adi,@adG,@abd,@XG,@XL⟩
def RP :
  (∀{K:KV} {b i:Nat},ji (ptr b i) K=K (ptr b i)) /\
  (∀{K:KV} {f:FuncId} {x y:Array Value},ji (.func (.func f) x y) K=K (.func (.func f) x y)) /\
  (∀{K:KV} {b i n m:Nat} [h:Ha i n m],j9 n (ptr b i) K=K (ptr b m)) /\
  (∀{K:KV} {t:Bool},rN (.bool t) K=K (.bool (!t))) /\
  (∀{K:KV} {x y:Value},nf (.bool true) x y K=K x) /\
  (∀{K:KV} {x y:Value},nf (.bool false) x y K=K y) /\
  (∀{K:KV} {k:IntKind} {a b:Int},ap .lss (.int k a) (.int k b) K=K (.bool (decide (a<b)))) /\
  (∀{K:KV} {k:IntKind} {a b:Int},ap .leq (.int k a) (.int k b) K=K (.bool (decide (a<=b)))) /\
  (∀{K:KV} {k:IntKind} {a b:Int},ap .gtr (.int k a) (.int k b) K=K (.bool (decide (b<a)))) /\
  (∀{K:KV} {k:IntKind} {a b:Int},ap .geq (.int k a) (.int k b) K=K (.bool (decide (b<=a)))) /\
  (∀{K:KV} {k:IntKind} {a b:Int},ap .eql (.int k a) (.int k b) K=K (.bool (decide (a=b)))) /\
  (∀{K:KV} {k:IntKind} {a b:Int},ap .neq (.int k a) (.int k b) K=K (.bool (!decide (a=b)))) /\
  (∀{K:KV} {k:IntKind} {a b:Int},ap .add (.int k a) (.int k b) K=K (.int k (k.wrap (a+b)))) /\
  (∀{K:KV} {k:IntKind} {a b:Int},ap .sub (.int k a) (.int k b) K=K (.int k (k.wrap (a-b)))) /\
  (∀{K:KV} {k:IntKind} {a b:Int},ap .mul (.int k a) (.int k b) K=K (.int k (k.wrap (a*b)))) /\
  (∀{K:KV} {k:IntKind} {a b:Int} [h:YB b],ap .quo (.int k a) (.int k b) K=K (.int k (k.wrap (a.tdiv b)))) /\
  (∀{K:KV} {k:IntKind} {a b:Int} [h:YB b],ap .rem (.int k a) (.int k b) K=K (.int k (a.tmod b))) /\
  (∀{K:KV} {k:IntKind} {a b:Int},ap .and (.int k a) (.int k b) K=K (.int k (k.wrap (BitVec.ofInt k.bits a &&& BitVec.ofInt k.bits b).toNat))) /\
  (∀{K:KV} {k:IntKind} {a b:Int},ap .or (.int k a) (.int k b) K=K (.int k (k.wrap (BitVec.ofInt k.bits a ||| BitVec.ofInt k.bits b).toNat))) /\
  (∀{K:KV} {k:IntKind} {a b:Int},ap .xor (.int k a) (.int k b) K=K (.int k (k.wrap (BitVec.ofInt k.bits a ^^^ BitVec.ofInt k.bits b).toNat))) /\
  (∀{K:KV} {k k2:IntKind} {a b:Int} [h:yi b],ap .shl (.int k a) (.int k2 b) K=K (.int k (k.wrap (a*2 ^ min b.toNat k.bits)))) /\
  (∀{K:KV} {k k2:IntKind} {a b:Int} [h:yi b],ap .shr (.int k a) (.int k2 b) K=K (.int k (a.fdiv (2 ^ min b.toNat k.bits)))) /\
  (∀{K:KV} {t:Nat} {x:Value},tq t x K=K (.iface t x)) /\
  (∀{K:KV} {k k2:IntKind} {a:Int},AF k (.int k2 a) K=K (.int k (k.wrap a))) /\
  (∀{K:KV} {a b:Bool},jE .eql (.bool a) (.bool b) K=K (.bool (a == b))) /\
  (∀{K:KV} {a b:Bool},jE .neq (.bool a) (.bool b) K=K (.bool (!(a == b)))) /\
  (∀{K:KV} {b i:Nat},iV .eql (ptr b i) (.pointer none) K=K (.bool false)) /\
  (∀{K:KV} {b i:Nat},iV .neq (ptr b i) (.pointer none) K=K (.bool true)) /\
  (∀{K:KV},iV .eql (.pointer none) (.pointer none) K=K (.bool true)) /\
  (∀{K:KV},iV .neq (.pointer none) (.pointer none) K=K (.bool false)) /\
  (∀{K:KV} {ks:List CK} {xs ys:List Value} {t:Bool} [h:Dj ks xs ys t],nJ ks .eql (.agg xs.toArray) (.agg ys.toArray) K=K (.bool t)) /\
  (∀{K:KV} {ks:List CK} {xs ys:List Value} {t:Bool} [h:Dj ks xs ys t],nJ ks .neq (.agg xs.toArray) (.agg ys.toArray) K=K (.bool (!t))) /\
  (∀{K:KV} {o n:Nat} {cs:List Value} {v:Value} [h:Sa cs o v],uj false o n (.agg cs.toArray) K=K v) /\
  (∀{K:KV} {o n:Nat} {cs r:List Value} [h:pp cs o n r],uj true o n (.agg cs.toArray) K=K (.agg r.toArray)) /\
  (∀{K:KV} {i:Nat} {vs:List Value} {v:Value} [h:Sa vs i v],ib i (.tuple vs.toArray) K=K v) /\
  (∀{K:KV} {zero r:List Value} {ps:List (Nat×Nat×Value)} [h:wI zero ps r],iz zero ps K=K (.agg r.toArray)) /\
  (∀{K:KV} {k:IntKind} {a b:Int},rQ (.int k a) [.int k b] K=K (.int k (if b > a then b else a))) /\
  (∀{K:KV} {k:IntKind} {a b:Int},mA (.int k a) [.int k b] K=K (.int k (if b<a then b else a))) /\
  (∀{K:KV} {k:IntKind} {a b c:Int},mA (.int k a) [.int k b,.int k c] K=K (.int k (if c<(if b<a then b else a)then c else(if b<a then b else a)))) /\
  (∀{A B:World->Prop},aj (.bool true) A B=A) /\
  (∀{A B:World->Prop},aj (.bool false) A B=B) /\
  (∀{K:KV} {t:Bool} {A:KV->World->Prop},gW (.bool t) t A K=A K) /\
  (∀{K:KV} {A:KV->World->Prop},gW (.bool true) false A K=K undef) /\
  (∀{K:KV} {A:KV->World->Prop},gW (.bool false) true A K=K undef) /\
  (∀{K:KV} {t:Bool} {A:KV->World->Prop},gW undef t A K=K undef) /\
  (∀{K:KV} {t:Bool} {A:KV->World->Prop} {e:Value},fl (.bool t) t A e K=A K) /\
  (∀{K:KV} {A:KV->World->Prop} {e:Value},fl (.bool true) false A e K=K e) /\
  (∀{K:KV} {A:KV->World->Prop} {e:Value},fl (.bool false) true A e K=K e) /\
  (∀{K:KV} {p q:Bool},fl (.bool p) true (λK=>K (.bool q)) (.bool false) K=K (.bool (p&&q))) /\
  (∀{K:KV} {p q:Bool},fl (.bool p) false (λK=>K (.bool q)) (.bool true) K=K (.bool (p||q))) :=
 ⟨@agN,@adk,@agU,@ahl,@Y9,@aac,@agS,@ahk,@ahe,@aha,@ag2,@agY,@adj,@ahp,@ag4,@ahd,@agL,@aeb,@agW,@adM,@ag6,@ag3,@ZB,@aet,@agV,@agK,@acF,@aaa,@acG,@Z2,@Zr,@aal,@aeR,@Zf,@SL,@aaz,@agR,@agZ,@adp,@Zn,@Zu,@ajr,@agJ,@ahf,@ajq,@ai4,@ahg,@ahh,@ac4,@agG⟩
section
variable {α:Type}{E:uk α}{w0:bz}{L:List bg}{v:Value}{xs:List α}{K:KV}{sz n bytes:Nat}{zero:List Value}{C:bg->List bg}
theorem bj {a:Option Addr}{n c:Nat}:ax (.slice a n c) [.slice a n c]:=inferInstance
def G.a3 {F:World->Prop}(E:uk α)(h:G w0 (sl E (.slice none 0 0) []::L) F):G w0 L F:=λw H=>h w H.dt
def G.dj [r:Rd w0 L v E sz xs](h:∀t,(t=true->xs=[])->G w0 L (K (.bool t))):G w0 L (kR .eql v (.slice none 0 0) K):=λw H=>by
 obtain⟨oa,cap,rfl,h1,_⟩:=r.rd w H
 cases oa with
 |none=>exact h true (λ_=>(h1 rfl).1) w H
 |some a=>exact h false zs w H
def G.ep {l c:Nat}(E:uk α)(z:α)(hz:E.enc z=zero)(hl:l<=c)(hc:c<=maxLen)(hb:bytes*c<=140737488355328)(h:∀v,ax v [v]->G w0 (sl E v (List.replicate l z)::L) (K v)) :
  G w0 L (gA bytes zero (i64 l) (i64 c) K):=λw H=>by
 refine⟨zo,zo,zo,zo,λT=>?_⟩
 have e:wG c zero=(List.replicate l z).flatMap E.enc++wG (c-l) zero:=by
  have:∀m,wG m zero=(List.replicate m z).flatMap E.enc:=λm=>by
   induction m with
   |zero=>simp[wG]
   |succ m ih=>unfold wG at *;simp[zbo,zaO,ih,hz]
  rw[this,this,<-zbg,List.replicate_append_replicate,Nat.add_sub_cancel' hl]
 have H2:=H.alloc (wG c zero) T
 rw[e]at H2
 have hzl:zero.length=E.sz:=by rw[<-hz,E.len]
 have:=H2.cF (E:=E) (cap:=c) (by simpa using hl) (by
  have:∀m,(wG m zero).length=m*E.sz:=λm=>by
   induction m with
   |zero=>simp[wG]
   |succ m ih=>unfold wG at *;simp only[zbo,List.flatten_cons,LE,ih,hzl,za9];omega
  simp[this])
 have h2:=h _ bj _ this
 rw[<-e]at h2
 simpa using h2
def G.make (E:uk α)(z:α)(hz:E.enc z=zero)(hc:n<=maxLen)(hb:bytes*n<=140737488355328)(h:∀v,ax v [v]->G w0 (sl E v (List.replicate n z)::L) (K v)) :
  G w0 L (gA bytes zero (i64 n) (i64 n) K):=G.ep E z hz (LT n) hc hb h
def G.build {ps:List (Nat×Nat×Value)}(E:uk α)(xs:List α)(hn:xs.length=n)(hz:n*zero.length<=16777216)(hb:xo (wG n zero) ps=some (xs.flatMap E.enc))(h:∀v,ax v [v]->G w0 (sl E v xs::L) (K v)) :
  G w0 L (ck zero n ps K):=λw H=>by
 refine⟨hz,?_⟩
 rw[hb]
 intro T
 have H2:=H.alloc (xs.flatMap E.enc) T
 have:=St.cF (E:=E) (xs:=xs) (rest:=[]) (cap:=n) (by simpa using H2) zo (by simp[hn])
 have h2:=h _ bj _ this
 rw[hn]at h2
 exact h2
def ki.fS {w:World}(h:ki E w v xs)(q:0<xs.length):yv E.sz v w=some (xs.length,xs.flatMap E.enc):=by
 obtain⟨s,l,rfl,r,k⟩:=h
 have g:xs[xs.length-1]? = some xs[xs.length-1]:=dg zo
 obtain⟨e,o,b,rfl,n,c,_⟩:=k _ _ g
 rw[show xs.length-1+1=xs.length by omega]at c
 simp only[yv,show ¬xs.length=0 by omega,if_false,n,c,if_true,zay,Prod.mk.injEq,true_and]
 have j:∀(a:List α) (m:Nat),(∀i x,a[i]? = some x->(b.drop (m+i*E.sz)).take E.sz=E.enc x)->m+a.length*E.sz<=b.length->(b.drop m).take (a.length*E.sz)=a.flatMap E.enc:=by
  intro a
  induction a with
  |nil=>intro m _ _;simp
  |cons y a ih =>
   intro m d p
   simp only[zad,za9,Nat.one_mul]at p ⊢
   have f:=d 0 y zs
   simp only[Nat.zero_mul,zbM]at f
   have:=ih (m+E.sz) (λi x q=>by have:=d (i+1) x (by simpa using q);rwa [za9,Nat.one_mul,Nat.add_comm (i*E.sz),<-zcE]at this) zo
   rw[zaO,<-f,<-this,<-zbB,Nat.add_comm (a.length*E.sz),List.take_add]
 grind
def ki.fo {w:World}(h:ki E w v xs):yv E.sz v w=some (xs.length,xs.flatMap E.enc):=by
 rcases zcL xs.length with a|a
 ·have d:xs=[]:=zah a
  subst d
  obtain⟨c,b,rfl,e,f⟩:=h
  cases c<;>simp[yv]
 ·exact h.fS a
def ae_ (a r vs:List Value)(h:vs.length<=r.length):LX (a++r) a.length vs=a++vs++r.drop vs.length:=by
 have:=SH vs a r 0 zo
 grind[xu]
def G.append {x:Value}{ys:List α}[r:Rd w0 L x E sz ys][s:uS L v E xs C](h1:(xs.length+ys.length)*bytes<=140737488355328)(h2:xs.length+ys.length<=maxLen)(h:∀u,ax u [u]->G w0 (C (sl E u (xs++ys))) (K u)) :
  G w0 L (fj sz bytes v x K):=λw H=>by
 obtain⟨M,e1,e2⟩:=vF (w0:=w0) s.dC
 have hsrc:=(r.rd w H).fo
 rw[r.sz]at hsrc
 have H1:=(e1 w).1 H
 have hfin:∀{c cap:Nat} {rest:List Value} {w':World},St w0 (own c ((xs++ys).flatMap E.enc++rest)::M) w'->xs.length+ys.length<=cap->rest.length=(cap-(xs.length+ys.length))*sz->K (.slice (some ⟨c,0,none⟩) (xs.length+ys.length) cap) w':=by
  intro c cap rest w' g1 g2 g3
  have:=g1.cF (E:=E) (cap:=cap) (by simpa using g2) (by rw[r.sz];simpa using g3)
  have h3:=h _ bj _ ((e2 _ _).2 this)
  simpa using h3
 rcases H1.bH with⟨rfl,rfl,H2⟩|⟨c,cap,rest,rfl,g2,g3,H2⟩
 ·simp only[fj,hsrc]
  simp only[List.length_nil,zaS,GT]at h1 h2 hfin h
  refine⟨trivial,trivial,h1,h2,λh0=>?_,λh0 c rest T k1 k2 k3=>?_⟩
  ·have hy:ys=[]:=zah h0
   subst hy
   exact h _ bj _ ((e2 _ _).2 H2.dt)
  ·exact hfin (H2.drew.alloc _ T) k1 k3
 ·have hm:=H2.bo
  simp only[fj,hsrc,hm.2.1]
  have hfl:(xs.flatMap E.enc).length=xs.length*sz:=by rw[oo,r.sz]
  have hfy:(ys.flatMap E.enc).length=ys.length*sz:=by rw[oo,r.sz]
  rw[r.sz]at g3
  have hc:cap*sz=xs.length*sz+(cap-xs.length)*sz:=by rw[<-za9];congr 1;omega
  refine⟨by simp only[LE,hfl,g3];omega,g2,h1,h2,λk1=>⟨.inr hm.2.2,acs E ys,?_⟩,λk1 c' rest' T k2 k3 k4=>?_⟩
  ·have hle:ys.length*sz<=(cap-xs.length)*sz:=zbf _ zo
   have:=H2.ce (cs':=(xs++ys).flatMap E.enc++rest.drop (ys.length*sz))
   have e:LX (xs.flatMap E.enc++rest) (0+xs.length*sz) (ys.flatMap E.enc)=(xs++ys).flatMap E.enc++rest.drop (ys.length*sz):=by
    rw[zaS,<-hfl,ae_ _ _ _ zo,zbg,hfy]
   rw[e]
   refine hfin this k1 ?_
   rw[zbG,g3,<-Nat.sub_mul];congr 1;omega
  ·have e:(((xs.flatMap E.enc++rest).drop 0).take (xs.length*sz)++ys.flatMap E.enc++rest')=(xs++ys).flatMap E.enc++rest':=by
    rw[zcw,<-hfl,List.take_left,zbg]
   rw[e]
   exact hfin (H2.drop.drew.alloc _ T) k2 k4
def G.bM {j:Value}{cs:List Value}{a:α}[s:uS L v E xs C][c:ax j cs][d:A5 E cs a](g:zero.length=E.sz)(m:E.sz=sz)(n:E.sz<=16777216)(k:(xs.length+1)*bytes<=140737488355328)(l:xs.length+1<=maxLen)
  (h:∀u,ax u [u]->G w0 (C (sl E u (xs++[a]))) (K u)):G w0 L (ck zero 1 [(0,sz,j)] (λy w=>fj sz bytes v y K w)):=by
 have b:E.enc a=cs:=E.ev _ _ d.eq
 have e:=E.len a
 subst m
 refine G.build E [a] rfl zo ?_ λy _=>?_
 ·have f:j.cells.size=E.sz:=by rw[<-e,b,<-c.eq];simp
  simp only[xo,f,wG,List.replicate_one,List.flatten_singleton,g,zaS,LT,and_self,if_true,zaO,List.flatMap_nil,zbw,b,c.eq]
  rw[xu _ _ _ (by rw[<-b,e,g];omega)]
  have:zero.drop cs.length=[]:=zaB (by rw[g,<-b,e];exact LT _)
  simp[this]
 ·refine G.append (ys:=[a]) (C:=λA=>S.sl E y [a]::C A) k l λu i=>(h u i).drop
def G.take {m:Nat}[s:uS L v E xs C](hm:m<=xs.length)(h:∀u,ax u [u]->G w0 (C (sl E u (xs.take m))) (K u)):G w0 L (p9 sz v none (some (i64 m)) K):=λw H=>by
 obtain⟨M,e1,e2⟩:=vF (w0:=w0) s.dC
 rcases((e1 w).1 H).bH with⟨rfl,rfl,H2⟩|⟨c,cap,rest,rfl,g2,g3,H2⟩
 ·simp at hm;subst hm
  have:=h _ bj _ ((e2 _ _).2 H2.dt)
  simpa[p9,Ka]using this
 ·have hk:xs.flatMap E.enc=(xs.take m).flatMap E.enc++(xs.drop m).flatMap E.enc:=by rw[<-zbg,zbb]
  have H3:=H2
  rw[hk,zaG]at H3
  have:=H3.cF (E:=E) (xs:=xs.take m) (cap:=cap) (by simp;omega) (by
   simp only[LE,oo,g3,zbG,zaC]
   rw[<-za9];congr 1;omega)
  have h2:=h _ bj _ ((e2 _ _).2 this)
  have e:(xs.take m).length=m:=by simp;omega
  rw[e]at h2
  simp only[p9,Ka,zab,true_and]
  refine⟨zo,zo,?_⟩
  have:(if cap=0 then some (⟨c,0,none⟩:Addr)else some (⟨c,0,none⟩:Addr))=some ⟨c,0,none⟩:=by split<;>rfl
  have hmc:m<=cap:=by omega
  simpa[vi,hmc]using h2
end
def an {a b:Prop}(x:a)(y:b):a/\b:=⟨x,y⟩
def bi {A B:Prop}(h:B)(f:B->A:=by intro h;(repeat' (first|(with_reducible refine G.aU ?_)|(with_reducible refine G.bk ?_)|(with_reducible refine G.drew ?_)|(simp (maxSteps:=2000000) only[↓RG,RP,RB,zac,Int.reduceEq,Int.reduceLT,Int.reduceLE,Nat.reduceEqDiff])));exact h):A:=f h
def bx {P A B:Prop}(p:P)(h:B)(f:P->B->A:=by intro p h;(repeat' (first|(with_reducible refine G.aU ?_)|(with_reducible refine G.bk ?_)|(with_reducible refine G.drew ?_)|(simp (maxSteps:=2000000) only[↓RG,RP,RB,zac,Int.reduceEq,Int.reduceLT,Int.reduceLE,Nat.reduceEqDiff,p])));exact h):A:=f p h
def ar {A B:Prop}(h:B)(f:B->A:=by intro h;(try simp (maxSteps:=2000000) only[↓RG,RP,RB,zac,Int.reduceEq,Int.reduceLT,Int.reduceLE,Nat.reduceEqDiff]);exact h):A:=f h
def mK {A B:Prop}(h:B)(f:B->A:=by intro h;(try simp (maxSteps:=2000000) only[ug,zS,qm,qu,zt,oJ]);exact h):A:=f h
def ca {P A B:Prop}(p:P)(h:B)(f:P->B->A:=by intro p h;(try simp (maxSteps:=2000000) only[↓RG,RP,RB,zac,Int.reduceEq,Int.reduceLT,Int.reduceLE,Nat.reduceEqDiff,p]);exact h):A:=f p h
def wa {A B:Prop}(h:B)(f:B->A:=by intro h;(try simp (maxSteps:=2000000) only[↓RG,RB,zac,Int.reduceEq,Int.reduceLT,Int.reduceLE,Nat.reduceEqDiff]);exact h):A:=f h
def Ts {P A B:Prop}(p:P)(h:B)(f:P->B->A:=by intro p h;(try simp (maxSteps:=2000000) only[↓RG,RB,zac,Int.reduceEq,Int.reduceLT,Int.reduceLE,Nat.reduceEqDiff,p]);exact h):A:=f p h
def ahR {A B:Prop}(h:B)(f:B->A:=by intro h;(repeat' (first|(with_reducible refine G.aU ?_)|(with_reducible refine G.bk ?_)|(with_reducible refine G.drew ?_)|(simp (maxSteps:=2000000) only[↓RG,RP,RB,zac,Int.reduceEq,Int.reduceLT,Int.reduceLE,Nat.reduceEqDiff,zad,List.length_nil,Nat.reduceAdd,Int.cast_ofNat_Int])));exact h):A:=f h
def akt {P A B:Prop}(p:P)(h:B)(f:P->B->A:=by intro p h;(repeat' (first|(with_reducible refine G.aU ?_)|(with_reducible refine G.bk ?_)|(with_reducible refine G.drew ?_)|(simp (maxSteps:=2000000) only[↓RG,RP,RB,zac,Int.reduceEq,Int.reduceLT,Int.reduceLE,Nat.reduceEqDiff,p,zad,List.length_nil,Nat.reduceAdd,Int.cast_ofNat_Int])));exact h):A:=f p h
end Go.Proofs.YtoealglbimbbmaaGreatDoor.S
namespace Go.Proofs.YtoealglbimbbmaaGreatDoor.S
open Go Go.ChangeShapes Go.WideShapes Go.ChangeAt Go.RowKit
section
variable {H:Type}{enc:TypeId×Value->H}{P:Program}
def Sd (hl:laidOutB P=true){W W':World}{sp:Nat->Bool}(hb:Below W.heap.size W W'):∀{ts:List TypeId}{vs:List Value}{ds:List (DataW H)}{ps:List MemPlace},
  ts.all (λt=>P.readableRec t&&decide (t<P.types.size))=true->DataW.TrodAll enc P W 0 (λ_=>true) true ts vs ds ps->(∀x∈ps,x.block<W.heap.size)->(∀p∈ps,sp p.block=true) ->
  DataW.TrodAll enc P W' 0 sp true ts vs ds ps
 | [],[],[],_,_,h,_,_=>h
 |t::_,_::_,_::_,_,hT,⟨p,q,h1,h2,e⟩,hlt,hs=>by
  simp only[List.all_cons,GE,decide_eq_true_eq]at hT
  subst e
  exact⟨p,q,WideElems.Trod_stays hl hT.1.1 hT.1.2 h1 (λx hx=>hb.same (hlt x (zam _ hx))) (λx hx=>hs x (zam _ hx)),
   Sd hl hb hT.2 h2 (λx hx=>hlt x (zak _ hx)) (λx hx=>hs x (zak _ hx)),rfl⟩
def good:List CK->List Value->Prop
 | [],[]=>True
 | .b::ks,.bool _::vs=>good ks vs
 | .i k::ks,.int k' n::vs=>k'=k/\(Lit.int k n).wf=true/\good ks vs
 |_,_=>False
def Es:∀{ks ks':List CK}{a b:List Value},good ks a->good ks' b->good (ks++ks') (a++b)
 | [],_,[],_,_,h=>h
 | [],_,_::_,_,h,_=>h.elim
 | .b::ks,_,v::a,_,h,h'=>by cases v<;>simp[good]at h ⊢<;>exact Es h h'
 | .i k::ks,_,v::a,_,h,h'=>by cases v<;>simp[good]at h ⊢<;>exact⟨h.1,h.2.1,Es h.2.2 h'⟩
 | .b::ks,_,[],_,h,_=>h.elim
 | .i k::ks,_,[],_,h,_=>h.elim
def OR (g:TypeId->Option (List CK))(c:TypeId->Nat):List Field->Nat->Option (List CK)
 | [],_=>some []
 |f::fs,o=>match g f.type with
  |some ks=>if f.offset=o/\ks.length=c f.type then(match OR g c fs (o+ks.length)with|some l=>some (ks++l)|none=>none)else none
  |none=>none
def kinds (P:Program):Nat->TypeId->Option (List CK)
 |0,_=>none
 |n+1,t=>match P.underlying t with
  |some .bool=>some [.b]
  |some (.int k)=>some [.i k]
  |some (.struct fs)=>match OR (kinds P n) P.cellsOf fs.toList 0 with
   |some ks=>if ks.length=P.cellsOf t then some ks else none
   |none=>none
  |_=>none
variable {w:World}{base:Nat}{spare:Nat->Bool}{held:Bool}
def MV {g:TypeId->Option (List CK)}{cs:List Value}
  (hg:∀(t:TypeId) ks m cs' (y:DataW H×List MemPlace),g t=some ks->DataW.trod enc P w base spare held m t cs'=some y->good ks cs'):∀(l:List Field) (o:Nat) (ks:List CK),OR g P.cellsOf l o=some ks ->
  (∀f∈l,∃m y,DataW.trod enc P w base spare held m f.type ((cs.drop f.offset).take (P.cellsOf f.type))=some y)->o+ks.length=cs.length->good ks (cs.drop o)
 | [],o,ks,h,_,hl=>by
  simp only[OR,zay]at h
  subst h
  rw[zaB (by simp at hl;omega)]
  trivial
 |f::l,o,ks,h,hf,hl=>by
  simp only[OR]at h
  split at h<;>try contradiction
  rename_i k1 e1
  split at h<;>try contradiction
  rename_i e2
  split at h<;>try contradiction
  rename_i k2 e3
  simp only[zay]at h
  subst h
  obtain⟨m,y,hy⟩:=hf f zs
  have h1:=hg _ _ _ _ _ e1 hy
  rw[e2.1,<-e2.2]at h1
  have h2:=MV hg l _ _ e3 (λf' hf'=>hf f' (by simp[hf'])) (by simp at hl;omega)
  have:=Es h1 h2
  rwa [<-zbB,zbb]at this
def Cl:∀(n:Nat)(t:TypeId)(ks:List CK)(m:Nat)(cs:List Value)(y:DataW H×List MemPlace),kinds P n t=some ks->DataW.trod enc P w base spare held m t cs=some y->good ks cs
 |0,t,ks,m,cs,y,h,_=>by simp[kinds]at h
 |n+1,t,ks,m,cs,y,h,hy=>by
  simp only[kinds]at h
  split at h
  ·rename_i e
   obtain⟨b,rfl,_⟩:=DataW.trod_bool e hy
   cases h;trivial
  ·rename_i k e
   obtain⟨b,rfl,_,hw⟩:=DataW.trod_int e hy
   cases h;exact⟨rfl,hw,trivial⟩
  ·rename_i fs e
   split at h<;>try contradiction
   rename_i k1 e1
   split at h<;>try contradiction
   rename_i e2
   cases h
   obtain⟨xs,m',_,_,hl,hlen,hf⟩:=DataW.trod_struct e hy
   have:=MV (cs:=cs) (Cl n) fs.toList 0 ks e1 (λf hfm=>by
    obtain⟨i,hi,rfl⟩:=zaU hfm
    have hi':i<fs.size:=by simpa using hi
    have h3:=hf i fs[i] (by simp[hi'])
    rw[dg zo]at h3
    exact⟨m',_,by simpa using h3⟩) zo
   simpa using this
  ·contradiction
def OP (ks:List CK)(w:World)(v:Value)(n B:Nat):Prop :=
 ∃oa cap,v=.slice oa n cap/\(oa=none->n=0/\cap=0)/\∀i,i<n->∃e o cs,oa=some ⟨e,o,none⟩/\e<B/\mem w e=some cs/\o+(i+1)*ks.length<=cs.length/\good ks ((cs.drop (o+i*ks.length)).take ks.length)
def OP.step {ks:List CK}{fp:List Nat}{w w':World}{v:Value}{n B:Nat}(h:OP ks w v n B)(s:nF fp w w')(t:∀e∈fp,B<=e):OP ks w' v n B:=by
 obtain⟨m,a,d,f,c⟩:=h
 refine⟨m,a,d,f,λi p=>?_⟩
 obtain⟨e,o,b,q,k,g,j,r⟩:=c i p
 exact⟨e,o,b,q,k,s.df g (λl=>by have:=t e l;omega),j,r⟩
def OP.nil (ks:List CK)(w:World)(B:Nat):OP ks w (.slice none 0 0) 0 B:=⟨none,0,rfl,λ_=>⟨rfl,rfl⟩,λi hi=>by omega⟩
def Qt {l:List Value}(h:good [] l):l=[]:=by cases l<;>simp[good]at h ⊢
def o8 {k:IntKind}{ks:List CK}{l:List Value}(h:good (.i k::ks) l):∃n l',l=.int k n::l'/\(Lit.int k n).wf=true/\good ks l':=by
 cases l with
 |nil=>exact h.elim
 |cons v l=>cases v<;>first|exact⟨_,_,by rw[h.1],h.2⟩|exact h.elim
end
end Go.Proofs.YtoealglbimbbmaaGreatDoor.S
namespace Go.Proofs.YtoealglbimbbmaaGreatDoor.S
open Go Go.ChangeShapes Go.WideShapes Go.ChangeAt Go.RowKit
def Wl (sz:Nat)(Gd:List Value->Prop)(w:World)(v:Value)(n:Nat):Prop :=
 ∃oa cap,v=.slice oa n cap/\(oa=none->n=0/\cap=0)/\∀i,i<n->∃e o cs,oa=some ⟨e,o,none⟩/\mem w e=some cs/\o+(i+1)*sz<=cs.length/\Gd ((cs.drop (o+i*sz)).take sz)
inductive NK where
 |p (k:CK)
 |s (ks:List CK)
def adu (w:World):List NK->List Value->Prop
 | [],[]=>True
 | .p .b::r,.bool _::vs=>adu w r vs
 | .p (.i k)::r,.int k' n::vs=>k'=k/\(Lit.int k n).wf=true/\adu w r vs
 | .s ks::r,v::vs=>(∃n,Wl ks.length (good ks) w v n)/\adu w r vs
 |_,_=>False
def Z9 (g:TypeId->Option (List NK))(c:TypeId->Nat):List Field->Nat->Option (List NK)
 | [],_=>some []
 |f::fs,o=>match g f.type with
  |some ks=>if f.offset=o/\ks.length=c f.type then(match Z9 g c fs (o+ks.length)with|some l=>some (ks++l)|none=>none)else none
  |none=>none
def aiu (P:Program):Nat->TypeId->Option (List NK)
 |0,_=>none
 |n+1,t=>match P.underlying t with
  |some .bool=>some [.p .b]
  |some (.int k)=>some [.p (.i k)]
  |some (.slice e)=>match kinds P n e with
   |some ks=>if P.cellsOf e=ks.length/\0<ks.length then some [.s ks]else none
   |none=>none
  |some (.struct fs)=>match Z9 (aiu P n) P.cellsOf fs.toList 0 with
   |some ks=>if ks.length=P.cellsOf t then some ks else none
   |none=>none
  |_=>none
section
variable {H:Type}{enc:TypeId×Value->H}{P:Program}{w:World}{base:Nat}{spare:Nat->Bool}{held:Bool}
def z4 {t e:TypeId}{sz fuel:Nat}{Gd:List Value->Prop}{cs:List Value}{x:DataW H×List MemPlace}(ht:P.underlying t=some (.slice e))(Z:P.cellsOf e=sz)(h0:0<sz)
  (s:∀(n:Nat) (cs':List Value) (y:DataW H×List MemPlace),DataW.trod enc P w base spare held n e cs'=some y->Gd cs') (Y:DataW.trod enc P w base spare held fuel t cs=some x) :
  ∃v n,cs=[v]/\Wl sz Gd w v n/\(n=0\/∃el sp,x.1=.slice el sp/\el.length=n):=by
 rcases Deep.open_slice ht Y with⟨I,_⟩|⟨a,d,k,m,n,D,U,r,Q,R,X,E,M,l⟩
 ·exact⟨_,0,I,⟨none,0,rfl,λ_=>⟨rfl,rfl⟩,λi l=>by omega⟩,.inl rfl⟩
 ·have F:d<=m:=by grind
  refine⟨_,d,r,⟨some a,k,rfl,zs,λi C=>?_⟩,.inr ⟨_,_,by rw[M],zs⟩⟩
  obtain⟨cs',B,z⟩:=l i zo
  have V:=s n cs' _ z
  obtain⟨_,u,f⟩:=World.cells?_some B
  rw[Z]at u f
  obtain⟨b,o,sp⟩:=a
  have p:sp=none:=by
   obtain⟨O,K,W⟩:=l 0 zo
   obtain⟨_,S,J⟩:=World.cells?_some K
   have q:=J 0 zo
   rw[dg zo]at q
   have L:((⟨b,o,sp⟩:Addr).add (0*P.cellsOf e)).add 0=⟨b,o,sp⟩:=by simp[Addr.add]
   rw[L]at q
   exact cell_spot q
  subst p
  simp only[vi]at f
  have c:=f 0 h0
  rw[dg zo,Tg]at c
  obtain⟨g,h,_⟩:=zcp.1 c
  have A:∀j,j<sz->g[o+i*sz+j]? = cs'[j]?:=λj hj=>by rw[<-f j hj,Tg,h];rfl
  have N:o+i*sz+(sz-1)<g.length:=by
   have:=A (sz-1) zo
   grind
  have T:(g.drop (o+i*sz)).take sz=cs':=by
   apply zbk
   grind
  grind
end
end Go.Proofs.YtoealglbimbbmaaGreatDoor.S
namespace Go.Proofs.YtoealglbimbbmaaGreatDoor.S
open Go Go.Proofs
abbrev i9:uk Int:=⟨1,λn=>[u64 n],λ | [.int .u64 n]=>some n|_=>none,zd,λ_=>rfl,by simp[one],λcs a h=>by split at h<;>simp_all⟩
instance {n:Int}:nR i9 n [u64 n]:=⟨rfl⟩
instance {n:Int}:A5 i9 [u64 n] n:=⟨rfl⟩
abbrev bq:uk Int:=⟨1,λn=>[i64 n],λ | [.int .i64 n]=>some n|_=>none,zd,λ_=>rfl,by simp[one],λcs a h=>by split at h<;>simp_all⟩
instance {n:Int}:nR bq n [i64 n]:=⟨rfl⟩
instance {n:Int}:A5 bq [i64 n] n:=⟨rfl⟩
abbrev akO:uk Bool:=⟨1,λn=>[.bool n],λ | [.bool n]=>some n|_=>none,zd,λ_=>rfl,by simp[one],λcs a h=>by split at h<;>simp_all⟩
abbrev lV:uk Nat:=⟨1,λb=>[ptr b 0],λ | [.pointer (some ⟨b,0,none⟩)]=>some b|_=>none,zd,λ_=>rfl,by simp[one],λcs a h=>by split at h<;>simp_all⟩
instance {b:Nat}:nR lV b [ptr b 0]:=⟨rfl⟩
structure rq where
 a:Option Addr
 n:Nat
 c:Nat
abbrev rq.v (s:rq):Value:=.slice s.a s.n s.c
def Ch {α:Type}(E:uk α){B:List Value->Prop}(Q:α->Prop)(hE:∀cs,B cs->∃a,E.enc a=cs/\Q a){w:World}{v:Value}{n:Nat}(h:Wl E.sz B w v n):∃xs:List α,Nk (bz.of w) v E xs/\(∀x∈xs,Q x)/\xs.length=n:=by
 obtain⟨q,g,rfl,l,r⟩:=h
 have:∀m,m<=n->∃xs:List α,xs.length=m/\(∀x∈xs,Q x)/\∀i x,xs[i]? = some x->∃e o cs,q=some ⟨e,o,none⟩/\mem w e=some cs/\o+(i+1)*E.sz<=cs.length/\(cs.drop (o+i*E.sz)).take E.sz=E.enc x:=by
  intro m
  induction m with
  |zero=>exact λ_=>⟨[],rfl,zs,zs⟩
  |succ m ih =>
   intro A
   obtain⟨xs,c,j,d⟩:=ih zo
   obtain⟨e,o,cs,z,t,y,u⟩:=r m zo
   obtain⟨a,s,k⟩:=hE _ u
   refine⟨xs++[a],by simp[c],λx d=>?_,λi x b=>?_⟩
   ·rcases zar.1 d with h|h
    ·exact j x h
    ·rw[zaf.1 h];exact k
   rcases zaE i xs.length with f|hge
   ·rw[zbm f]at b
    exact d i x b
   ·rw[zaR hge]at b
    have:i=m:=by
     rcases zaE (i-xs.length) 1 with p|p
     ·omega
     ·rw[zaW (by simpa using p)]at b;cases b
    subst this
    rw[c,za8]at b
    cases b
    exact⟨e,o,cs,z,t,y,s.symm⟩
 obtain⟨xs,c,j,d⟩:=this n (LT n)
 refine⟨xs,⟨q,g,by rw[c],λh=>⟨?_,(l h).2⟩,d⟩,j,c⟩
 exact zah (by rw[c];exact(l h).1)
structure ey where
 D:Int
 held:Bool
 ar:Int
 deriving DecidableEq
abbrev ey.cells (a:ey):List Value:=[u64 a.D,.bool a.held,i64 a.ar]
abbrev rE:uk ey:=⟨3,ey.cells,λ | [.int .u64 x0,.bool x1,.int .i64 x2]=>some ⟨x0,x1,x2⟩|_=>none,zd,λ_=>rfl,by simp[one],λcs a h=>by split at h<;>cases h;rfl⟩
instance {a:ey}:nR rE a [u64 a.D,.bool a.held,i64 a.ar]:=⟨rfl⟩
instance {x0:Int}{x1:Bool}{x2:Int}:A5 rE [u64 x0,.bool x1,i64 x2] ⟨x0,x1,x2⟩:=⟨rfl⟩
def ey.cN (a b:ey):(decide (a.D=b.D)&&((a.held == b.held)&&decide (a.ar=b.ar)))=decide (a=b):=by
 obtain⟨h,f,d⟩:=a
 obtain⟨g,e,c⟩:=b
 rw[zaF]
 simp[and_assoc]
structure jz where
 N:Int
 D:Int
 deriving DecidableEq
abbrev jz.cells (a:jz):List Value:=[i64 a.N,u64 a.D]
abbrev lh:uk jz:=⟨2,jz.cells,λ | [.int .i64 x0,.int .u64 x1]=>some ⟨x0,x1⟩|_=>none,zd,λ_=>rfl,by simp[one],λcs a h=>by split at h<;>cases h;rfl⟩
instance {a:jz}:nR lh a [i64 a.N,u64 a.D]:=⟨rfl⟩
def jz.cN (a b:jz):(decide (a.N=b.N)&&decide (a.D=b.D))=decide (a=b):=by
 obtain⟨e,c⟩:=a
 obtain⟨d,f⟩:=b
 rw[zaF]
 simp[and_assoc]
structure ay where
 J:Int
 word:Int
 deriving DecidableEq
abbrev ay.cells (a:ay):List Value:=[i64 a.J,u64 a.word]
abbrev cg:uk ay:=⟨2,ay.cells,λ | [.int .i64 x0,.int .u64 x1]=>some ⟨x0,x1⟩|_=>none,zd,λ_=>rfl,by simp[one],λcs a h=>by split at h<;>cases h;rfl⟩
instance {a:ay}:nR cg a [i64 a.J,u64 a.word]:=⟨rfl⟩
instance {x0:Int}{x1:Int}:A5 cg [i64 x0,u64 x1] ⟨x0,x1⟩:=⟨rfl⟩
def ay.cN (a b:ay):(decide (a.J=b.J)&&decide (a.word=b.word))=decide (a=b):=by
 obtain⟨e,c⟩:=a
 obtain⟨d,f⟩:=b
 rw[zaF]
 simp[and_assoc]
structure rM where
 J:Int
 I:Int
 deriving DecidableEq
abbrev rM.cells (a:rM):List Value:=[i64 a.J,u64 a.I]
abbrev dz:uk rM:=⟨2,rM.cells,λ | [.int .i64 x0,.int .u64 x1]=>some ⟨x0,x1⟩|_=>none,zd,λ_=>rfl,by simp[one],λcs a h=>by split at h<;>cases h;rfl⟩
instance {a:rM}:nR dz a [i64 a.J,u64 a.I]:=⟨rfl⟩
instance {x0:Int}{x1:Int}:A5 dz [i64 x0,u64 x1] ⟨x0,x1⟩:=⟨rfl⟩
def rM.cN (a b:rM):(decide (a.J=b.J)&&decide (a.I=b.I))=decide (a=b):=by
 obtain⟨e,c⟩:=a
 obtain⟨d,f⟩:=b
 rw[zaF]
 simp[and_assoc]
structure AB where
 e8:Int
 val:Int
 deriving DecidableEq
abbrev AB.cells (a:AB):List Value:=[u64 a.e8,u64 a.val]
abbrev pZ:uk AB:=⟨2,AB.cells,λ | [.int .u64 x0,.int .u64 x1]=>some ⟨x0,x1⟩|_=>none,zd,λ_=>rfl,by simp[one],λcs a h=>by split at h<;>cases h;rfl⟩
def AB.cN (a b:AB):(decide (a.e8=b.e8)&&decide (a.val=b.val))=decide (a=b):=by
 obtain⟨e,c⟩:=a
 obtain⟨d,f⟩:=b
 rw[zaF]
 simp[and_assoc]
structure SZ where
 J:Int
 dT:Int
 cc:Bool
 deriving DecidableEq
abbrev SZ.cells (a:SZ):List Value:=[i64 a.J,i64 a.dT,.bool a.cc]
def SZ.cN (a b:SZ):(decide (a.J=b.J)&&(decide (a.dT=b.dT)&&(a.cc == b.cc)))=decide (a=b):=by
 obtain⟨h,f,d⟩:=a
 obtain⟨g,e,c⟩:=b
 rw[zaF]
 simp[and_assoc]
structure vV where
 aN:Int
 J:Int
 bT:Int
 word:Int
 was:ey
 ac:ey
 deriving DecidableEq
abbrev vV.cells (a:vV):List Value:=[i64 a.aN,i64 a.J,u64 a.bT,u64 a.word,u64 a.was.D,.bool a.was.held,i64 a.was.ar,u64 a.ac.D,.bool a.ac.held,i64 a.ac.ar]
abbrev akA:uk vV:=⟨10,vV.cells,λ | [.int .i64 x0,.int .i64 x1,.int .u64 x2,.int .u64 x3,.int .u64 x4,.bool x5,.int .i64 x6,.int .u64 x7,.bool x8,.int .i64 x9]=>some ⟨x0,x1,x2,x3,⟨x4,x5,x6⟩,⟨x7,x8,x9⟩⟩|_=>none,zd,λ_=>rfl,by simp[one],λcs a h=>by split at h<;>cases h;rfl⟩
def vV.cN (a b:vV):(decide (a.aN=b.aN)&&(decide (a.J=b.J)&&(decide (a.bT=b.bT)&&(decide (a.word=b.word)&&(decide (a.was.D=b.was.D)&&((a.was.held == b.was.held)&&(decide (a.was.ar=b.was.ar)&&(decide (a.ac.D=b.ac.D)&&((a.ac.held == b.ac.held)&&decide (a.ac.ar=b.ac.ar))))))))))=decide (a=b):=by
 obtain⟨o,i,e,c,⟨l,h,p⟩,⟨x7,x8,x9⟩⟩:=a
 obtain⟨k,f,d,n,⟨j,g,m⟩,⟨y7,y8,y9⟩⟩:=b
 rw[zaF]
 simp[and_assoc]
structure ii where
 word:Int
 ac:ey
 done:Bool
 aV:Int
 deriving DecidableEq
abbrev ii.cells (a:ii):List Value:=[u64 a.word,u64 a.ac.D,.bool a.ac.held,i64 a.ac.ar,.bool a.done,i64 a.aV]
def ii.cN (a b:ii):(decide (a.word=b.word)&&(decide (a.ac.D=b.ac.D)&&((a.ac.held == b.ac.held)&&(decide (a.ac.ar=b.ac.ar)&&((a.done == b.done)&&decide (a.aV=b.aV))))))=decide (a=b):=by
 obtain⟨j,⟨g,e,c⟩,x4,x5⟩:=a
 obtain⟨h,⟨f,d,i⟩,y4,y5⟩:=b
 rw[zaF]
 simp[and_assoc]
structure rH where
 a0:Int
 F:Int
 wide:Int
 aB:Int
 start:Int
 deriving DecidableEq
abbrev rH.cells (a:rH):List Value:=[i64 a.a0,i64 a.F,i64 a.wide,i64 a.aB,u64 a.start]
def rH.cN (a b:rH):(decide (a.a0=b.a0)&&(decide (a.F=b.F)&&(decide (a.wide=b.wide)&&(decide (a.aB=b.aB)&&decide (a.start=b.start)))))=decide (a=b):=by
 obtain⟨l,h,e,c,j⟩:=a
 obtain⟨i,f,d,k,g⟩:=b
 rw[zaF]
 simp[and_assoc]
structure Zb where
 eN:Int
 n:Int
 deriving DecidableEq
abbrev Zb.cells (a:Zb):List Value:=[i64 a.eN,u64 a.n]
def Zb.cN (a b:Zb):(decide (a.eN=b.eN)&&decide (a.n=b.n))=decide (a=b):=by
 obtain⟨e,c⟩:=a
 obtain⟨d,f⟩:=b
 rw[zaF]
 simp[and_assoc]
structure N5 where
 store:Bool
 J:Int
 v:Int
 deriving DecidableEq
abbrev N5.cells (a:N5):List Value:=[.bool a.store,i64 a.J,u64 a.v]
def N5.cN (a b:N5):((a.store == b.store)&&(decide (a.J=b.J)&&decide (a.v=b.v)))=decide (a=b):=by
 obtain⟨h,f,d⟩:=a
 obtain⟨g,e,c⟩:=b
 rw[zaF]
 simp[and_assoc]
structure FE where
 aN:Int
 i:Int
 was:ey
 l:ey
 deriving DecidableEq
abbrev FE.cells (a:FE):List Value:=[i64 a.aN,i64 a.i,u64 a.was.D,.bool a.was.held,i64 a.was.ar,u64 a.l.D,.bool a.l.held,i64 a.l.ar]
def FE.cN (a b:FE):(decide (a.aN=b.aN)&&(decide (a.i=b.i)&&(decide (a.was.D=b.was.D)&&((a.was.held == b.was.held)&&(decide (a.was.ar=b.was.ar)&&(decide (a.l.D=b.l.D)&&((a.l.held == b.l.held)&&decide (a.l.ar=b.l.ar))))))))=decide (a=b):=by
 obtain⟨n,h,⟨e,c,k⟩,⟨x5,x6,x7⟩⟩:=a
 obtain⟨j,f,⟨d,m,g⟩,⟨y5,y6,y7⟩⟩:=b
 rw[zaF]
 simp[and_assoc]
structure Js where
 fR:Bool
 I:Int
 aD:rq
 aK:rq
abbrev Js.cells (a:Js):List Value:=[.bool a.fR,u64 a.I,.slice a.aD.a a.aD.n a.aD.c,.slice a.aK.a a.aK.n a.aK.c]
def Js.Q (w:bz)(a:Js):Prop:=(∃ys,Nk w a.aD.v bq ys)/\(∃ys,Nk w a.aK.v i9 ys)
structure G7 where
 word:Int
 cY:Bool
 deriving DecidableEq
abbrev G7.cells (a:G7):List Value:=[u64 a.word,.bool a.cY]
abbrev xF:uk G7:=⟨2,G7.cells,λ | [.int .u64 x0,.bool x1]=>some ⟨x0,x1⟩|_=>none,zd,λ_=>rfl,by simp[one],λcs a h=>by split at h<;>cases h;rfl⟩
instance {a:G7}:nR xF a [u64 a.word,.bool a.cY]:=⟨rfl⟩
instance {x0:Int}{x1:Bool}:A5 xF [u64 x0,.bool x1] ⟨x0,x1⟩:=⟨rfl⟩
def G7.cN (a b:G7):(decide (a.word=b.word)&&(a.cY == b.cY))=decide (a=b):=by
 obtain⟨e,c⟩:=a
 obtain⟨d,f⟩:=b
 rw[zaF]
 simp[and_assoc]
structure U7 where
 c:rq
 f:rq
abbrev U7.cells (a:U7):List Value:=[.slice a.c.a a.c.n a.c.c,.slice a.f.a a.f.n a.f.c]
def U7.Q (w:bz)(a:U7):Prop:=(∃ys,Nk w a.c.v cg ys)/\(∃ys,Nk w a.f.v bq ys)
structure FU where
 aN:Int
 J:Int
 v:Int
 cs:rq
abbrev FU.cells (a:FU):List Value:=[i64 a.aN,i64 a.J,u64 a.v,.slice a.cs.a a.cs.n a.cs.c]
def FU.Q (w:bz)(a:FU):Prop:=(∃ys,Nk w a.cs.v cg ys)
structure FN where
 take:Bool
 c:ay
 l:rq
abbrev FN.cells (a:FN):List Value:=[.bool a.take,i64 a.c.J,u64 a.c.word,.slice a.l.a a.l.n a.l.c]
def FN.Q (w:bz)(a:FN):Prop:=(∃ys,Nk w a.l.v cg ys)
structure Zh where
 me:Int
 aR:Int
 I:Int
 ab:rq
 cs:rq
 db:rq
 start:Int
 F:Int
 wide:Int
abbrev Zh.cells (a:Zh):List Value:=[i64 a.me,i64 a.aR,i64 a.I,.slice a.ab.a a.ab.n a.ab.c,.slice a.cs.a a.cs.n a.cs.c,.slice a.db.a a.db.n a.db.c,u64 a.start,i64 a.F,i64 a.wide]
def Zh.Q (w:bz)(a:Zh):Prop:=(∃ys,Nk w a.ab.v lh ys)/\(∃ys,Nk w a.cs.v cg ys)/\(∃ys,Nk w a.db.v akA ys)
structure ZF where
 e6:Bool
 bG:Bool
 deriving DecidableEq
abbrev ZF.cells (a:ZF):List Value:=[.bool a.e6,.bool a.bG]
def ZF.cN (a b:ZF):((a.e6 == b.e6)&&(a.bG == b.bG))=decide (a=b):=by
 obtain⟨e,c⟩:=a
 obtain⟨d,f⟩:=b
 rw[zaF]
 simp[and_assoc]
structure Zy where
 eP:Int
 cH:Int
 k:Int
 x:Int
 deriving DecidableEq
abbrev Zy.cells (a:Zy):List Value:=[i64 a.eP,i64 a.cH,u64 a.k,u64 a.x]
def Zy.cN (a b:Zy):(decide (a.eP=b.eP)&&(decide (a.cH=b.cH)&&(decide (a.k=b.k)&&decide (a.x=b.x))))=decide (a=b):=by
 obtain⟨j,g,e,c⟩:=a
 obtain⟨h,f,d,i⟩:=b
 rw[zaF]
 simp[and_assoc]
def fm {k:Nat}(h:k<4611686018427387904):IntKind.wrap .i64 ((k:Int)+1)=((k+1:Nat):Int):=by
 rw[Go.IntWalk.i64_in _ zo];rfl
theorem jL {n:Int}(h:-9223372036854775808<=n)(h':n<=9223372036854775807):IntKind.wrap .i64 n=n:=Go.IntWalk.i64_in _ ⟨h,h'⟩
theorem Ul {n:Int}(h:0<=n)(h':n<=18446744073709551615):IntKind.wrap .u64 n=n:=Go.IntWalk.u64_in _ ⟨h,h'⟩
def inK (k:IntKind)(n:Int):Prop:=(Lit.int k n).wf=true
def ahA {n:Int}(h:inK .u8 n):0<=n/\n<=255:=by simp[inK,Lit.wf,IntKind.min,IntKind.max,IntKind.signed,IntKind.bits]at h;omega
def Zg {n:Int}(h:inK .u64 n):0<=n/\n<=18446744073709551615:=by simp[inK,Lit.wf,IntKind.min,IntKind.max,IntKind.signed,IntKind.bits]at h;omega
def held (n lo hi:Int):Int:=if n<lo then lo else if n > hi then hi else n
def jp {n lo hi:Int}(h:lo<=hi):lo<=held n lo hi/\held n lo hi<=hi:=by unfold held;split<;>(try split)<;>omega
def mP (b:Nat)(xs:List Int):bg:=pz λv=>cj (kx (ax v [v])) (cj (own b [v]) (sl i9 v xs))
def kT {w0:bz}{M:List bg}{F:World->Prop}{b:Nat}{xs:List Int}:G w0 (ob mP b xs::M) F=∀v,ax v [v]->G w0 (own b [v]::sl i9 v xs::M) F:=by
 rw[iw,mP]
 simp only[pM,im,jk]
def pf {α:Type}(E:uk α)(b:Nat)(xs:List α):bg:=pz λv=>cj (kx (ax v [v])) (cj (own b [v]) (sl E v xs))
def jd {α:Type}{E:uk α}{w0:bz}{M:List bg}{F:World->Prop}{b:Nat}{xs:List α}:G w0 (ob (pf E) b xs::M) F=∀v,ax v [v]->G w0 (own b [v]::sl E v xs::M) F:=by
 rw[iw,pf]
 simp only[pM,im,jk]
class dn (As L:List bg)(M:outParam (List bg)):Prop where
 eq:fg L=fg (As++M)
instance dn.nil {L:List bg}:dn [] L L:=⟨rfl⟩
instance dn.cons {A:bg}{As L M1 M:List bg}[p:YU L A M1][q:dn As M1 M]:dn (A::As) L M:=⟨by
 rw[p.eq]
 show cj A (fg M1)=cj A (fg (As++M))
 rw[q.eq]⟩
theorem G.ap {As L M:List bg}{w0:bz}{F:World->Prop}[p:dn As L M](h:G w0 (As++M) F):G w0 L F:=by
 rw[eJ p.eq];exact h
theorem dm {α:Type}{xs:List α}{k:Nat}(h:k<xs.length):iW xs k xs[k]:=⟨dg h⟩
def iW.lt {α:Type}{xs:List α}{k:Nat}{x:α}(h:iW xs k x):k<xs.length:=by
 rcases zaE k xs.length with a|a
 ·exact a
 ·have:=h.eq;simp[zaW a]at this
def vR {w0:bz}{L:List bg}{K:KV}{v:Value}{sz:Nat}{xs:List Int}[r:Rd w0 L v i9 sz xs](d:xs.length<=1000000)(hK:∀u,ax u [u]->G w0 (sl i9 u xs::L) (K u)):G w0 L (ac 105 [v] K):=by
 have c:=r.sz
 subst c
 refine vH ?_
 unfold ns
 refine G.dj λt a=>?_
 refine G.cond (λh=>?_) (λh=>?_)
 ·have:=a h
  subst this
  exact G.a3 i9 (hK _ bj)
 ·refine G.build i9 [] rfl zs rfl λy _=>?_
  refine G.append (by simp;omega) (by simp[maxLen];omega) λu b=>?_
  exact hK u b
def iQ {w0:bz}{L:List bg}{K:KV}{v:Value}{sz:Nat}{xs:List ay}[r:Rd w0 L v cg sz xs](d:xs.length<=1000000)(hK:∀u,ax u [u]->G w0 (sl cg u xs::L) (K u)):G w0 L (ac 126 [v] K):=by
 have c:=r.sz
 subst c
 refine qT ?_
 unfold lK
 refine G.dj λt a=>?_
 refine G.cond (λh=>?_) (λh=>?_)
 ·have:=a h
  subst this
  exact G.a3 cg (hK _ bj)
 ·refine G.build cg [] rfl zs rfl λy _=>?_
  refine G.append (by simp;omega) (by simp[maxLen];omega) λu b=>?_
  exact hK u b
def mQ {w0:bz}{L:List bg}{K:KV}{v:Value}{sz:Nat}{xs:List Int}[r:Rd w0 L v bq sz xs](d:xs.length<=1000000)(hK:∀u,ax u [u]->G w0 (sl bq u xs::L) (K u)):G w0 L (ac 127 [v] K):=by
 have c:=r.sz
 subst c
 refine BE ?_
 unfold rx
 refine G.dj λt a=>?_
 refine G.cond (λh=>?_) (λh=>?_)
 ·have:=a h
  subst this
  exact G.a3 bq (hK _ bj)
 ·refine G.build bq [] rfl zs rfl λy _=>?_
  refine G.append (by simp;omega) (by simp[maxLen];omega) λu b=>?_
  exact hK u b
def jK {w0:bz}{L:List bg}{K:KV}{v:Value}{sz:Nat}{xs:List jz}[r:Rd w0 L v lh sz xs](d:xs.length<=1000000)(hK:∀u,ax u [u]->G w0 (sl lh u xs::L) (K u)):G w0 L (ac 155 [v] K):=by
 have c:=r.sz
 subst c
 refine qN ?_
 unfold lM
 refine G.dj λt a=>?_
 refine G.cond (λh=>?_) (λh=>?_)
 ·have:=a h
  subst this
  exact G.a3 lh (hK _ bj)
 ·refine G.build lh [] rfl zs rfl λy _=>?_
  refine G.append (by simp;omega) (by simp[maxLen];omega) λu b=>?_
  exact hK u b
def tf (n lo hi:Int):Int:=lo+n % (hi-lo+1)
def LM {n lo hi:Int}(h:lo<=hi):lo<=tf n lo hi/\tf n lo hi<=hi:=by
 unfold tf
 have a:=Int.emod_nonneg n (show hi-lo+1≠0 by omega)
 have b:=zcI n (show 0<hi-lo+1 by omega)
 omega
def kg {w0:bz}{L:List bg}{K:KV}{n lo hi:Int}(q:-4611686018427387904<=lo)(r:lo<=hi)(p:hi<=4611686018427387904)(hd:hi-lo<=4611686018427387904)(hK:G w0 L (K (i64 (tf n lo hi)))):G w0 L (ac 30 [i64 n,i64 lo,i64 hi] K):=by
 refine RS ?_
 unfold Hj
 have f:IntKind.wrap .i64 (IntKind.wrap .i64 (hi-lo)+1)=hi-lo+1:=by rw[jL (n:=hi-lo) zo zo,jL zo zo]
 have k:YB (hi-lo+1):=⟨zo⟩
 have c:hi-lo+1 > 0:=by omega
 have o:=zbt n c
 have m:=Int.lt_tmod_of_pos n c
 have e:n % (hi-lo+1)=if n.tmod (hi-lo+1)<0 then n.tmod (hi-lo+1)+(hi-lo+1)else n.tmod (hi-lo+1):=by
  rw[Int.emod_eq_tmod]
  by_cases a:0<=n
  ·have:=zbu (hi-lo+1) a
   simp[a];omega
  ·have b:=zbu (hi-lo+1) (show 0<=-n by omega)
   rw[Int.neg_tmod]at b
   have:n.tmod (hi-lo+1)<=0:=by omega
   by_cases hd:hi-lo+1 ∣ n
   ·have:=Int.tmod_eq_zero_of_dvd hd
    simp[hd,this]
   ·have g:n.tmod (hi-lo+1)≠0:=λh=>hd (Int.dvd_of_tmod_eq_zero h)
    simp[a,hd];omega
 unfold tf at hK
 refine ar ?_
 simp only[f]
 refine ar ?_
 refine G.dN (λx:Int=>i64 x) (λ_=>L) (λx=>x=n % (hi-lo+1)) (λx i=>?_) (λJ d=>?_)
 ·subst i
  have l:=Int.emod_nonneg n (show hi-lo+1≠0 by omega)
  have j:=zcI n c
  refine ar ?_
  rw[jL zo zo]
  exact hK
 ·refine G.cond (λh=>?_) (λh=>?_)
  ·have h:n.tmod (hi-lo+1)<0:=by simpa using h
   refine ar ?_
   rw[jL (n:=n.tmod (hi-lo+1)+hi) zo zo,jL (n:=n.tmod (hi-lo+1)+hi-lo) zo zo,jL zo zo]
   exact d _ (by rw[e,zp h];omega)
  ·have h:¬n.tmod (hi-lo+1)<0:=by simpa using h
   exact d _ (by rw[e,zn h])
structure co where
 op:Int
 a:Int
 b:Int
 c:Int
 n:Int
abbrev co.cells (a:co):List Value:=[i64 a.op,i64 a.a,i64 a.b,i64 a.c,u64 a.n]
abbrev fx:uk co:=⟨5,co.cells,λ | [.int .i64 x0,.int .i64 x1,.int .i64 x2,.int .i64 x3,.int .u64 x4]=>some ⟨x0,x1,x2,x3,x4⟩|_=>none,zd,λ_=>rfl,by simp[one],λcs a h=>by split at h<;>cases h;rfl⟩
instance {a:co}:nR fx a [i64 a.op,i64 a.a,i64 a.b,i64 a.c,u64 a.n]:=⟨rfl⟩
structure cv where
 a0:Int
 F:Int
 wide:Int
 aB:Int
 start:Int
 aR:Int
 bP:Int
 fuel:Int
abbrev cv.cells (a:cv):List Value:=[i64 a.a0,i64 a.F,i64 a.wide,i64 a.aB,u64 a.start,i64 a.aR,i64 a.bP,i64 a.fuel]
abbrev jj:uk rq:=⟨1,λs=>[s.v],λ | [.slice a n c]=>some ⟨a,n,c⟩|_=>none,zd,λ_=>rfl,by simp[one],λcs a h=>by split at h<;>cases h;rfl⟩
instance {s:rq}:nR jj s [.slice s.a s.n s.c]:=⟨rfl⟩
structure Q6 where
 aN:Int
 aV:Int
 dB:ByteArray
 I:Int
abbrev Q6.cells (a:Q6):List Value:=[i64 a.aN,i64 a.aV,.string a.dB,u64 a.I]
abbrev lQ:uk Q6:=⟨4,Q6.cells,λ | [.int .i64 x0,.int .i64 x1,.string x2,.int .u64 x3]=>some ⟨x0,x1,x2,x3⟩|_=>none,zd,λ_=>rfl,by simp[one],λcs a h=>by split at h<;>cases h;rfl⟩
instance {a:Q6}:nR lQ a [i64 a.aN,i64 a.aV,.string a.dB,u64 a.I]:=⟨rfl⟩
structure Iv where
 fc:Int
 aI:Int
 fH:Int
 aE:Bool
 aN:Int
 aV:Int
 fa:Int
 I:Int
 aP:Int
 ch:Int
 a5:rq
 bu:rq
 aH:rq
 dB:ByteArray
abbrev Iv.cells (a:Iv):List Value:=[i64 a.fc,i64 a.aI,i64 a.fH,.bool a.aE,i64 a.aN,i64 a.aV,u64 a.fa,u64 a.I,i64 a.aP,i64 a.ch,.slice a.a5.a a.a5.n a.a5.c,.slice a.bu.a a.bu.n a.bu.c,.slice a.aH.a a.aH.n a.aH.c,.string a.dB]
abbrev mm:uk Iv:=⟨14,Iv.cells,λ | [.int .i64 x0,.int .i64 x1,.int .i64 x2,.bool x3,.int .i64 x4,.int .i64 x5,.int .u64 x6,.int .u64 x7,.int .i64 x8,.int .i64 x9,.slice a b c,.slice d e f,.slice g h i,.string x]=>some ⟨x0,x1,x2,x3,x4,x5,x6,x7,x8,x9,⟨a,b,c⟩,⟨d,e,f⟩,⟨g,h,i⟩,x⟩|_=>none,zd,λ_=>rfl,by simp[one],λcs a h=>by split at h<;>cases h;rfl⟩
instance {a:Iv}:nR mm a (Iv.cells a):=⟨rfl⟩
inductive pT where
 |num (n:Int)
 |truth (t:Bool)
 |none
 deriving DecidableEq
abbrev pT.v:pT->Value
 | .num n=>.iface 22 (u64 n)
 | .truth t=>.iface 4 (.bool t)
 | .none=>.iface 421 (.agg #[])
def aeS (t:Nat)(v:Value):Option pT :=
 if t=22 then(match v with | .int .u64 n=>some (.num n)|_=>none)
 else if t=4 then(match v with | .bool b=>some (.truth b)|_=>none)
 else if t=421 then(match v with | .agg x=>if x.size=0 then some .none else none|_=>none)
 else none
def adw {t:Nat}{v:Value}{a:pT}(h:aeS t v=some a):a.v=.iface t v:=by
 unfold aeS at h
 split at h
 ·rename_i e;subst e;split at h<;>cases h;rfl
 split at h
 ·rename_i e;subst e;split at h<;>cases h;rfl
 split at h
 ·rename_i e;subst e
  split at h
  ·rename_i x
   split at h
   ·rename_i b;cases h
    have:x=#[]:=Array.size_eq_zero_iff.1 b
    subst this;rfl
   ·cases h
  ·cases h
 ·cases h
abbrev Of:uk pT:=⟨1,λx=>[x.v],λ | [.iface t v]=>aeS t v|_=>none,zd,λ_=>rfl,λa=>by cases a<;>simp[one],λcs a h=>by
 split at h
 ·exact congrArg (·::[]) (adw h)
 ·cases h⟩
instance {x:pT}:nR Of x [x.v]:=⟨rfl⟩
instance {x:pT}:A5 Of [x.v] x:=⟨by cases x<;>rfl⟩
instance {x:pT}:ax x.v [x.v]:=⟨by cases x<;>rfl,by cases x<;>simp[one]⟩
abbrev UP:uk ByteArray:=⟨1,λs=>[.string s],λ | [.string s]=>some s|_=>none,zd,λ_=>rfl,by simp[one],λcs a h=>by split at h<;>simp_all⟩
instance {s:ByteArray}:nR UP s [.string s]:=⟨rfl⟩
instance {s:ByteArray}:A5 UP [.string s] s:=⟨rfl⟩
theorem G.cq {α:Type}{E:uk α}{w0:bz}{L:List bg}{F:World->Prop}{v:Value}{sz:Nat}{xs:List α}[r:Rd w0 L v E sz xs](h:∀s:rq,v=s.v->G w0 L F):G w0 L F:=λw H=>by
 obtain⟨oa,cap,e,_⟩:=r.rd w H
 exact h ⟨oa,xs.length,cap⟩ e w H
def II {α:Type}{E:uk α}{w0:bz}{L:List bg}{K:KV}{v:Value}{sz bytes:Nat}{xs:List α}{z:List Value}[r:Rd w0 L v E sz xs](d:xs.length*bytes<=140737488355328)(c:xs.length<=maxLen)(hK:∀u,ax u [u]->G w0 (sl E u xs::L) (K u)) :
  G w0 L (kR .eql v (.slice none 0 0) (λx1=>aj x1 (K (.slice none 0 0)) (ck z 0 [] (λx2=>fj sz bytes x2 v K)))):=by
 refine G.dj λt a=>?_
 refine G.cond (λh=>?_) (λh=>?_)
 ·have:=a h
  subst this
  exact G.a3 E (hK _ bj)
 ·refine G.build E [] rfl zs rfl λy _=>?_
  refine G.append (by simpa using d) (by simpa using c) λu b=>?_
  exact hK u b
section
variable {w0:bz}{L:List bg}{K:KV}{v:Value}{sz:Nat}{C:bg->List bg}{b:Nat}
def rl {xs:List pT}[r:Rd w0 L v Of sz xs](b:xs.length<=1000000)(hK:∀u,ax u [u]->G w0 (sl Of u xs::L) (K u)):G w0 L (ac 213 [v] K):=by
 have a:=r.sz
 subst a
 exact BO (II (E:=Of) zo (by simp[maxLen];omega) hK)
def th {xs:List co}[r:Rd w0 L v fx sz xs](b:xs.length<=1000000)(hK:∀u,ax u [u]->G w0 (sl fx u xs::L) (K u)):G w0 L (ac 72 [v] K):=by
 have a:=r.sz
 subst a
 exact tD (II (E:=fx) zo (by simp[maxLen];omega) hK)
def pg {xs:List Q6}[r:Rd w0 L v lQ sz xs](b:xs.length<=1000000)(hK:∀u,ax u [u]->G w0 (sl lQ u xs::L) (K u)):G w0 L (ac 92 [v] K):=by
 have a:=r.sz
 subst a
 exact pc (II (E:=lQ) zo (by simp[maxLen];omega) hK)
abbrev kF:=pf Of
variable {xs:List pT}
def Wz (hK:∀b,G w0 (ob kF b []::L) (K (ptr b 0))):G w0 L (ac 166 [] K):=by
 refine VV ?_
 unfold Mo
 refine ar ?_
 refine G.a3 Of ?_
 refine G.box λb=>?_
 have h:=hK b
 rw[jd]at h
 exact h _ bj
abbrev Gt (xs:List pT)(a:pT):List pT:=if xs.length<16 then xs++[a]else xs
def Fs {a:pT}{v:Value}(d:Of.enc a=[v])(f:xs.length<=16)[i:ae L kF b xs C](hK:G w0 (C (ob kF b (Gt xs a))) (K (.bool (decide (xs.length<16))))):G w0 L (ac 244 [ptr b 0,v] K):=by
 cases d
 refine i.bi (λM hK=>?_) hK
 refine JO ?_
 unfold zJ
 rw[jd]at *
 intro v d
 by_cases h:xs.length<16
 ·rw[Gt,zp h,decide_eq_true h]at hK
  have c:¬(16:Int)<=xs.length:=by omega
  refine ca c ?_
  refine G.bM (E:=Of) (a:=a) rfl rfl zd zo (by simp only[maxLen];omega) λu e=>ar ?_
  exact(hK u e).sub
 ·rw[Gt,zn h,decide_eq_false h]at hK
  have c:(16:Int)<=xs.length:=by omega
  have hK:=hK v d
  refine ca c ?_
  exact hK
def DD {n:Int}[i:ae L kF b xs C](c:xs.length<=16)(hK:G w0 (C (ob kF b (Gt xs (.num n)))) (K (.bool (decide (xs.length<16))))):G w0 L (ac 224 [ptr b 0,u64 n] K):=by
 refine D5 ?_
 unfold vu
 refine ar ?_
 exact Fs (a:=.num n) rfl c hK
def Lr {t:Bool}[i:ae L kF b xs C](c:xs.length<=16)(hK:G w0 (C (ob kF b (Gt xs (.truth t)))) (K (.bool (decide (xs.length<16))))):G w0 L (ac 293 [ptr b 0,.bool t] K):=by
 refine Ca ?_
 unfold rk
 refine ar ?_
 exact Fs (a:=.truth t) rfl c hK
def CD [i:ae L kF b xs C](c:xs.length<=16)(hK:G w0 (C (ob kF b (Gt xs .none))) (K (.bool (decide (xs.length<16))))):G w0 L (ac 312 [ptr b 0] K):=by
 refine Di ?_
 unfold sf
 refine ar ?_
 exact Fs (a:=.none) rfl c hK
def ID [i:ae L kF b xs C](f:xs.length<=1000000)(hK:∀c,G w0 (ob kF c xs::L) (K (ptr c 0))):G w0 L (ac 180 [ptr b 0] K):=by
 refine i.cb (P:=λ_=>True) (N:=λc=>ob kF c xs) (F':=λc=>K (ptr c 0)) (λM hK=>?_) (λc _=>hK c)
 refine HT ?_
 unfold yC
 rw[jd]
 intro v d
 refine ar ?_
 refine rl (xs:=xs) f λu e=>ar ?_
 refine G.box λc=>?_
 have h:=hK c trivial
 rw[jd]at h
 have h:=h u e
 have a:G w0 (ob kF b xs::own c [u]::sl Of u xs::M) (K (ptr c 0)):=h.sub
 rw[jd]at a
 exact(a v d).sub
def Lw (n:Int):ByteArray:=(⟨#[48,49,50,51,52,53,54,55,56,57,97,98,99,100,101,102,103,104,105,106,107,108,109,110,111,112,113,114,115,116,117,118,119,120,121,122]⟩:ByteArray).extract n.toNat (n+1).toNat
def R5:List pT->ByteArray
 | .num n::_=>Lw n
 |_=>⟨#[]⟩
end
end Go.Proofs.YtoealglbimbbmaaGreatDoor.S
namespace Go.Proofs.YtoealglbimbbmaaGreatDoor.S
open Go Go.Proofs
def yQ (op:Int):(Int×Int)×(Int×Int)×(Int×Int) :=
 if op=1\/op=11\/op=21 then((0,7),(0,0),(0,0))
 else if op=2\/op=10 then((0,7),(0,7),(0,0))
 else if op=3\/op=4\/op=5\/op=6\/op=7 then((0,7),(0,7),(0,7))
 else if op=8\/op=9 then((0,7),(0,7),(0,15))
 else if op=12 then((0,0),(0,0),(0,40))
 else if op=13 then((0,7),(0,0),(0,40))
 else if op=23 then((1,12),(0,7),(0,6))
 else((0,0),(0,0),(0,0))
def QP (f:Int×Int)(n:Int):Bool:=decide (f.1<=n)&&decide (n<=f.2)
def BJ (i:co):Bool:=(decide (1<=i.op/\i.op<=23)&&QP (yQ i.op).1 i.a&&QP (yQ i.op).2.1 i.b&&QP (yQ i.op).2.2 i.c)&&(decide (i.n=0)||decide (i.op=1))
def gq (op:Int):Int:=if op=15 then 14 else if op=18 then 17 else if op=19 then 18 else 0
def fk (op:Int):Bool:=decide (op=14)||decide (op=17)
def gI (s:List Int)(i op:Int):List Int:=if fk op||decide (op=18)then i::(if 0<gq op then s.tail else s)else(if 0<gq op then s.tail else s)
def iM:List Int->Int
 | []=>-1
 |i::_=>i
def Mp (p:List co):List Int->Int
 | []=>0
 |i::_=>(p.getD i.toNat ⟨0,0,0,0,0⟩).op
def js (p:List co)(s:List Int)(x:co):Int :=
 if BJ x=false then 8 else if 0<gq x.op/\Mp p s≠gq x.op then 12 else if x.op=16/\Mp p s≠14 then 12 else if fk x.op=true/\5<=s.length then 9 else 0
def cd (p:List co):Nat->List Int
 |0=>[]
 |k+1=>gI (cd p k) k (p.getD k ⟨0,0,0,0,0⟩).op
def bh (p:List co):List Int:=(List.range p.length).map λk=>iM (cd p k)
def ym (op:Int):Bool:=decide (op=12)||decide (op=13)
def jx (p:List co)(k:Nat)(x:co):Bool :=
 ym x.op&&(decide ((p.length:Int)<x.c)||(decide (x.c=p.length)&&decide ((bh p).getD k 0≠-1))||(decide (x.c<p.length)&&decide ((bh p).getD x.c.toNat 0≠(bh p).getD k 0)))
def gD (p:List co):Nat->Int
 |0=>0
 |k+1=>if gD p k≠0 then gD p k else js p (cd p k) (p.getD k ⟨0,0,0,0,0⟩)
def mV (p:List co):Nat->Bool
 |0=>false
 |k+1=>mV p k||jx p k (p.getD k ⟨0,0,0,0,0⟩)
def pb (p:List co):Int :=
 if p.length=0\/40<p.length then 4 else if gD p p.length≠0 then gD p p.length else if cd p p.length≠[]then 12 else if mV p p.length then 2 else 0
def rP (p:List co):Nat->List Int
 |0=>List.replicate p.length (-1)
 |k+1=>if 0<gq (p.getD k ⟨0,0,0,0,0⟩).op then(rP p k).set ((bh p).getD k 0).toNat k else rP p k
def nN (p:List co):Nat->List Int
 |0=>rP p p.length
 |k+1=>if(p.getD k ⟨0,0,0,0,0⟩).op=16 then(nN p k).set k ((nN p k).getD ((bh p).getD k 0).toNat 0)else nN p k
def tb (p:List co):List Int:=if pb p=0 then nN p p.length else []
section
variable {w0:bz}{L:List bg}{K:KV}{v:Value}{C:bg->List bg}{b:Nat}{op:Int}
def Ry (hK:G w0 L (K (.tuple #[.agg #[i64 (yQ op).1.1,i64 (yQ op).1.2],.agg #[i64 (yQ op).2.1.1,i64 (yQ op).2.1.2],.agg #[i64 (yQ op).2.2.1,i64 (yQ op).2.2.2]]))):G w0 L (ac 241 [i64 op] K):=by
 refine RK ?_
 unfold Hm
 refine G.new λu=>?_
 refine G.new λr=>?_
 refine G.new λs=>ar ?_
 refine G.new λt=>?_
 by_cases h:op=1\/op=2\/op=3\/op=4\/op=5\/op=6\/op=7\/op=8\/op=9\/op=10\/op=11\/op=12\/op=13\/op=21\/op=23
 ·rcases h with h|h|h|h|h|h|h|h|h|h|h|h|h|h|h
  all_goals subst h
  all_goals refine bi ?_
  all_goals exact hK.sub
 ·have e:yQ op=((0,0),(0,0),(0,0)):=by unfold yQ;repeat' rw[zn]
  rw[e]at hK
  have o:op≠1:=by omega
  have j:op≠2:=by omega
  have i:op≠3:=by omega
  have l:op≠4:=by omega
  have p:op≠5:=by omega
  have k:op≠6:=by omega
  have m:op≠7:=by omega
  have q:op≠8:=by omega
  have n:op≠9:=by omega
  have b:op≠10:=by omega
  have f:op≠11:=by omega
  have g:op≠12:=by omega
  have a:op≠13:=by omega
  have c:op≠21:=by omega
  have d:op≠23:=by omega
  refine bx (an o (an j (an i (an l (an p (an k (an m (an q (an n (an b (an f (an g (an a (an c d)))))))))))))) ?_
  exact hK.sub
def rv {f:Int×Int}{n:Int}(hK:G w0 L (K (.bool (QP f n)))):G w0 L (ac 243 [.agg #[i64 f.1,i64 f.2],i64 n] K):=by
 refine I6 ?_
 unfold yR
 refine mK ?_
 refine G.box λq=>ar ?_
 refine G.all (decide (n<=f.2)) (λ_ K hK=>by refine ar ?_;exact hK) ?_
 exact hK.sub
abbrev TA:List ByteArray:=[⟨#[]⟩,⟨#[115,101,116]⟩,⟨#[109,111,118,101]⟩,⟨#[97,100,100]⟩,⟨#[115,117,98]⟩,⟨#[109,117,108]⟩,⟨#[108,101,115,115]⟩,⟨#[101,113,117,97,108]⟩,⟨#[108,111,97,100]⟩,⟨#[115,116,111,114,101]⟩,⟨#[97,108,108,111,99]⟩,⟨#[102,114,101,101]⟩,⟨#[106,117,109,112]⟩,⟨#[122,101,114,111]⟩,⟨#[111,112,101,110]⟩,⟨#[99,108,111,115,101]⟩,⟨#[117,110,100,111]⟩,⟨#[101,105,116,104,101,114]⟩,⟨#[111,114]⟩,⟨#[100,111,110,101]⟩,⟨#[114,101,116,114,121]⟩,⟨#[101,109,105,116]⟩,⟨#[102,97,105,108]⟩,⟨#[99,97,108,108]⟩]
def U8:∀k,k<24->((TA.getD k ⟨#[]⟩).toList == (⟨#[]⟩:ByteArray).toList)=decide (k=0):=by decide +kernel
def Wo (hK:∀s:ByteArray,(s.toList == (⟨#[]⟩:ByteArray).toList)=decide (¬(1<=op/\op<=23))->G w0 L (K (.string s))):G w0 L (ac 242 [i64 op] K):=by
 refine Vx ?_
 unfold Mu
 refine U9 ?_
 unfold Jr
 refine G.build UP TA rfl zd rfl λv h=>?_
 refine T3 ?_
 unfold Jv
 have b:((TA.length:Nat):Int)=24:=rfl
 refine mK ?_
 by_cases a:op<0
 ·refine ca a ?_
  exact(hK ⟨#[]⟩ (by simp;omega)).sub
 ·by_cases d:24<=op
  ·refine ca (an a (an b d)) ?_
   exact(hK ⟨#[]⟩ (by simp;omega)).sub
  ·have c:op.toNat<TA.length:=by show op.toNat<24;omega
   have e:=dm c
   have g:JD op op.toNat:=⟨zo⟩
   refine ca (an a (an b d)) ?_
   have f:=U8 op.toNat zo
   rw[ge,dg c,zbF]at f
   refine(hK _ (f.trans ?_)).sub
   rw[decide_eq_decide];omega
def aee {a b:ByteArray}{t:Bool}{K:KV}(h:(a.toList == b.toList)=t):G w0 L (yu .neq (.string a) (.string b) K)=G w0 L (K (.bool !t)):=by
 congr 1
 funext w
 show Qw .neq (a.toList == b.toList) K w=_
 rw[h]
 rfl
def Yv {i:co}(hK:G w0 L (K (.bool (BJ i)))):G w0 L (ac 219 [.agg #[i64 i.op,i64 i.a,i64 i.b,i64 i.c,u64 i.n]] K):=by
 refine YM ?_
 unfold O6
 refine G.box λq=>ar ?_
 refine Ry (ar ?_)
 refine G.new λk=>?_
 refine G.new λl=>?_
 refine G.new λm=>ar ?_
 refine Wo λs j=>?_
 rw[aee j]
 refine mK ?_
 unfold BJ at hK
 by_cases d:1<=i.op/\i.op<=23
 ·have e:(!decide (¬(1<=i.op/\i.op<=23)))=true:=by simp[d]
  rw[e]
  rw[show decide (1<=i.op/\i.op<=23)=true from decide_eq_true d]at hK
  refine ar ?_
  refine rv ?_
  cases g:QP (yQ i.op).1 i.a
  ·rw[g]at hK
   refine ar ?_
   exact hK.sub
  ·rw[g]at hK
   refine ar ?_
   refine rv ?_
   cases f:QP (yQ i.op).2.1 i.b
   ·rw[f]at hK
    refine ar ?_
    exact hK.sub
   ·rw[f]at hK
    refine ar ?_
    refine rv ?_
    cases h:QP (yQ i.op).2.2 i.c
    ·rw[h]at hK
     refine ar ?_
     exact hK.sub
    ·rw[h]at hK
     refine ar ?_
     simp only[za6]at hK
     refine G.any (decide (i.op=1)) (λ_ K hK=>by refine ar ?_;exact hK) ?_
     exact hK.sub
 ·have e:(!decide (¬(1<=i.op/\i.op<=23)))=false:=by simp[d]
  rw[e]
  rw[show decide (1<=i.op/\i.op<=23)=false from decide_eq_false d]at hK
  refine ar ?_
  exact hK.sub
def S6 (hK:G w0 L (K (.bool (ym op)))):G w0 L (ac 222 [i64 op] K):=by
 refine UD ?_
 unfold Ks
 refine mK ?_
 refine ar ?_
 exact hK
def EX (hK:G w0 L (K (.bool (fk op)))):G w0 L (ac 221 [i64 op] K):=by
 refine PV ?_
 unfold Ex
 refine mK ?_
 refine ar ?_
 exact hK
def wO (hK:G w0 L (K (i64 (gq op)))):G w0 L (ac 193 [i64 op] K):=by
 refine Tc ?_
 unfold KG
 unfold gq at hK
 by_cases a:op=15
 ·rw[zp a]at hK
  refine ca a ?_
  exact hK
 rw[zn a]at hK
 by_cases b:op=18
 ·rw[zp b]at hK
  refine ca (an a b) ?_
  exact hK
 rw[zn b]at hK
 by_cases c:op=19
 ·rw[zp c]at hK
  refine ca (an a (an b c)) ?_
  exact hK
 rw[zn c]at hK
 refine ca (an a (an b c)) ?_
 exact hK
variable {s:List Int}{p:List co}
theorem adX {i:Int}:iW (i::s).reverse s.length i:=⟨by rw[zaN,zaR zs];simp⟩
def xU [r:Rd w0 L v bq 1 s.reverse](c:s.length<=1000000)(hK:G w0 L (K (i64 (iM s)))):G w0 L (ac 190 [v] K):=by
 refine E4 ?_
 unfold ud
 cases s with
 |nil =>
  refine ca (an @List.reverse_nil.{0} (an @List.length_nil.{0} @Int.cast_ofNat_Int)) ?_
  exact hK
 |cons i s =>
  have e:=adX (s:=s) (i:=i)
  have b:¬(((i::s).reverse.length:Nat):Int)=0:=by simp;omega
  have a:IntKind.wrap .i64 ((((i::s).reverse.length:Nat):Int)-1)=(s.length:Int):=by
   simp only[za7,zad]at c ⊢
   rw[jL zo zo];omega
  refine ca (an b a) ?_
  exact hK
def inP (p:List co)(s:List Int):Prop:=∀i∈s,0<=i/\i<p.length
def P7 {u:Value}[j:ax u [u]][r:Rd w0 L v bq 1 s.reverse][k:Rd w0 L u fx 5 p](h:s.length<=1000000)(hi:inP p s)(hK:G w0 L (K (i64 (Mp p s)))):G w0 L (ac 220 [v,.agg #[u]] K):=by
 refine LD ?_
 unfold AX
 refine G.box λq=>?_
 cases s with
 |nil =>
  refine ca (an @List.reverse_nil.{0} (an @List.length_nil.{0} @Int.cast_ofNat_Int)) ?_
  exact hK.sub
 |cons i s =>
  have b:¬(((i::s).reverse.length:Nat):Int)=0:=by simp;omega
  obtain⟨g,f⟩:=hi i zs
  have a:i.toNat<p.length:=by omega
  have e:=dm a
  have d:JD (iM (i::s)) i.toNat:=⟨by show i=_;omega⟩
  have c:Mp p (i::s)=(p[i.toNat]).op:=by
   show(p.getD i.toNat ⟨0,0,0,0,0⟩).op=_
   rw[ge,dg a];rfl
  rw[c]at hK
  refine bx b ?_
  refine xU (s:=i::s) h (bi ?_)
  exact hK.sub
def Zm {w:Value}{M:List bg}{i:Int}(d:ax w [w])(e:s.length<=1000)(hK:∀u,ax u [u]->G w0 (sl bq u (if fk op||decide (op=18)then i::s else s).reverse::M) (K u)) :
  G w0 (sl bq w s.reverse::M) (ac 221 [i64 op] (λx4=>fl x4 false (λK=>K (Value.bool (decide (op=18)))) (Value.bool true) (λx7=>cr (λx8=>K x8) (λj2=>aj x7 (ck [(Value.int .i64 0)] 1 [(0,1,i64 i)] (λx9=>fj 1 8 w x9 (λx10=>j2 x10))) (j2 w))))):=by
 refine EX (ar ?_)
 refine G.bk ?_
 cases b:(fk op||decide (op=18))
 ·simp only[b,Or,if_false]at hK
  refine ar ?_
  exact hK w d
 ·simp only[b,if_true]at hK
  refine ar ?_
  refine G.bM (E:=bq) (a:=i) rfl rfl zd (by simp;omega) (by simp only[za7,maxLen];omega) λu c=>?_
  have:=hK u c
  rw[zaN]at this
  exact this
def DN {i:Int}(b:s.length<=1000)(e:0<gq op->s≠[])(f:ax v [v])[iv:ae L (slR bq) v s.reverse C](hK:∀u,ax u [u]->G w0 (C (sl bq u (gI s i op).reverse)) (K u)):G w0 L (ac 189 [v,i64 i,i64 op] K):=by
 refine iv.cJ (ι:={u:Value // ax u [u]}) (A':=λu=>sl bq u.1 (gI s i op).reverse) (F':=λu=>K u.1) (λM hK=>?_) (λu=>hK u.1 u.2)
 have hK:=λu a=>hK ⟨u,a⟩
 simp only at hK
 refine E9 ?_
 unfold uZ
 refine wO ?_
 unfold gI at hK
 refine mK ?_
 by_cases h:0<gq op
 ·simp only[h,if_true]at hK
  obtain⟨j,t,rfl⟩:∃j t,s=j::t:=by
   cases s with
   |nil=>exact absurd rfl (e h)
   |cons j t=>exact⟨j,t,rfl⟩
  have c:IntKind.wrap .i64 ((((j::t).reverse.length:Nat):Int)-1)=((t.length:Nat):Int):=by
   simp only[za7,zad]at b ⊢
   rw[jL zo zo];omega
  refine bx (an (eq_true h) c) ?_
  refine G.take (m:=t.length) zs λu a=>?_
  have d:(j::t).reverse.take t.length=t.reverse:=by
   rw[zaN,za4 zs]
   exact zat zs
  rw[d]
  refine Zm a (by simp at b;omega) ?_
  exact hK
 ·simp only[h,if_false]at hK
  refine bx h ?_
  refine Zm f b ?_
  exact hK
def QX {x:co}{u:Value}[D:ax u [u]][r:Rd w0 L v bq 1 s.reverse][E:Rd w0 L u fx 5 p](C:s.length<=1000)(hi:inP p s)(hK:G w0 L (K (i64 (js p s x)))):G w0 L (ac 188 [.agg #[u],v,.agg #[i64 x.op,i64 x.a,i64 x.b,i64 x.c,u64 x.n]] K):=by
 refine Rb ?_
 unfold Hi
 have h:s.length<=1000000:=by omega
 refine G.box λm=>?_
 refine G.box λq=>ar ?_
 refine Yv ?_
 unfold js at hK
 refine mK ?_
 cases w:BJ x
 ·rw[zp w]at hK
  refine bi ?_
  exact hK.sub
 rw[zn (by rw[w];decide)]at hK
 refine bi ?_
 refine wO ?_
 have d:G w0 L (K (i64 (if fk x.op=true/\5<=s.length then 9 else 0)))->G w0 (own q [i64 x.op,i64 x.a,i64 x.b,i64 x.c,u64 x.n]::own m [u]::L) (ac 221 [i64 x.op] (λf=>fl f true (λK=>fu v λy=>ap .geq y (Value.int .i64 5) K) (Value.bool false) (λe=>aj e (K (Value.int .i64 9)) (K (Value.int .i64 0))))):=λhK=>by
  refine EX ?_
  have B:((s.reverse.length:Nat):Int)=s.length:=by simp
  refine G.all (decide (5<=s.length)) (λ_ K hK=>by
   have z:decide ((5:Int)<=s.length)=decide (5<=s.length):=by grind
   refine ca (an B z) ?_
   exact hK) ?_
  by_cases c:fk x.op=true/\5<=s.length
  ·rw[zp c]at hK
   rw[show(fk x.op&&decide (5<=s.length))=true by simp[c.1,c.2]]
   refine ar ?_
   exact hK.sub
  ·rw[zn c]at hK
   rw[show(fk x.op&&decide (5<=s.length))=false by
    cases A:fk x.op
    ·rfl
    ·have:¬5<=s.length:=λg=>c ⟨A,g⟩
     simp[this]]
   refine ar ?_
   exact hK.sub
 have i:G w0 L (K (i64 (if x.op=16/\Mp p s≠14 then 12 else if fk x.op=true/\5<=s.length then 9 else 0)))->G w0 (own q [i64 x.op,i64 x.a,i64 x.b,i64 x.c,u64 x.n]::own m [u]::L)
   (fl (.bool (decide (x.op=16))) true (λK=>br 1 (ptr m 0) (λy=>ac 220 [v,y] (λy=>ap .neq y (Value.int .i64 14) (λy=>K y)))) (Value.bool false) (λo=>aj o (K (Value.int .i64 12))
    (ad (ptr q 0) (λt=>ac 221 [t] (λf=>fl f true (λK=>fu v λy=>ap .geq y (Value.int .i64 5) (λy=>K y)) (Value.bool false) (λe=>aj e (K (Value.int .i64 9)) (K (Value.int .i64 0)))))))):=λhK=>by
  by_cases c:x.op=16
  ·refine bx (eq_true c) ?_
   refine P7 h hi ?_
   by_cases l:Mp p s=14
   ·rw[zn (λg=>g.2 l)]at hK
    refine bx l ?_
    exact d hK
   ·rw[zp ⟨c,l⟩]at hK
    refine bx l ?_
    exact hK.sub
  ·rw[zn (λg=>c g.1)]at hK
   refine bx c ?_
   exact d hK
 by_cases k:0<gq x.op
 ·refine bx (eq_true k) ?_
  refine P7 h hi (bi ?_)
  refine wO ?_
  by_cases j:Mp p s=gq x.op
  ·rw[zn (λg=>g.2 j)]at hK
   refine bx j ?_
   exact i hK
  ·rw[zp ⟨k,j⟩]at hK
   refine bx j ?_
   exact hK.sub
 ·rw[zn (λg=>k g.1)]at hK
  refine bx k ?_
  exact i hK
abbrev H7:co:=⟨0,0,0,0,0⟩
def yr {k:Nat}(h:k<p.length):p.getD k H7=p[k]:=by rw[ge,dg h];rfl
def Kg {k:Nat}:∀{n:Nat},k<=n->gD p n=0->gD p k=0
 |0,h,e=>by
  obtain rfl:k=0:=by omega
  exact e
 |n+1,h,e=>by
  by_cases c:k=n+1
  ·rw[c];exact e
  ·refine Kg (n:=n) zo ?_
   unfold gD at e
   by_cases a:gD p n=0
   ·exact a
   ·rw[zp a]at e;exact e
def Fi {k n:Nat}(h:k<n)(e:gD p n=0):js p (cd p k) (p.getD k H7)=0:=by
 have:=Kg (p:=p) (k:=k+1) h e
 unfold gD at this
 grind
def UA {x:co}(h:js p s x=0):BJ x=true:=by
 unfold js at h
 grind
def U2 {x:co}(h:js p s x=0)(h0:0<gq x.op):s≠[]/\Mp p s=gq x.op:=by
 unfold js at h
 rw[zn (by rw[UA (p:=p) (s:=s) (x:=x) (by unfold js;exact h)];decide)]at h
 have e:Mp p s=gq x.op:=by grind
 refine⟨λg=>?_,e⟩
 rw[g]at e
 have:Mp p []=0:=rfl
 omega
def Is:∀{k:Nat},k<=p.length->inP p (cd p k)/\(cd p k).length<=k
 |0,_=>⟨λi h=>(by cases h),LT _⟩
 |k+1,h=>by
  obtain⟨h1,h2⟩:=Is (k:=k) zo
  have h3:inP p (cd p k).tail/\(cd p k).tail.length<=k:=⟨λi hi=>h1 i (zb5 hi),by simp;omega⟩
  have h4:inP p (if 0<gq (p.getD k ⟨0,0,0,0,0⟩).op then(cd p k).tail else cd p k)/\(if 0<gq (p.getD k ⟨0,0,0,0,0⟩).op then(cd p k).tail else cd p k).length<=k:=by
   split
   ·exact h3
   ·exact⟨h1,h2⟩
  unfold cd gI
  split
  ·refine⟨λi hi=>?_,by simp only[zad];have:=h4.2;omega⟩
   rcases zaa.1 hi with rfl|hi
   ·omega
   ·exact h4.1 i hi
  ·exact⟨h4.1,by have:=h4.2;omega⟩
def mY:(bh p).length=p.length:=by simp[bh]
def lP {k:Nat}(h:k<p.length):(bh p)[k]? = some (iM (cd p k)):=by simp[bh,h]
def CG [r:Rd w0 L v fx 5 p](I:ax v [v])(H:p.length<=40)(F:gD p p.length=0)(hK:∀u,ax u [u]->G w0 (sl bq u (bh p)::L) (K u)):G w0 L (ac 192 [.agg #[v]] K):=by
 refine NP ?_
 unfold Cr
 refine G.box λq=>ar ?_
 refine G.make bq 0 rfl (by simp only[maxLen];omega) zo λu t=>ar ?_
 refine G.a3 bq ?_
 refine G.bN (σ:=Nat×Value) (λz=>z.2) (λz=>i64 z.1) (λz=>sl bq z.2 (cd p z.1).reverse::sl bq u ((bh p).take z.1++List.replicate (p.length-z.1) 0)::own q [v]::L) (λz=>z.1<=p.length/\ax z.2 [z.2]) (λz=>p.length-z.1) (0,.slice none 0 0) rfl rfl (by simp[cd]) ⟨zag _,bj⟩ ?_
 rintro⟨k,y⟩ ⟨l,f⟩ J hJ
 simp only at l f hJ ⊢
 refine ar ?_
 refine G.cond (λh=>?_) (λh=>?_)
 ·have a:k<p.length:=by grind
  have e:=dm a
  have C:=Is (p:=p) l
  have n:=mY (p:=p)
  have c:((bh p).take k).length=k:=by grind
  have E:iW ((bh p).take k++List.replicate (p.length-k) 0) k 0:=⟨by rw[zaR zo,c,za8,zaP,zp]⟩
  have A:((bh p).take k++List.replicate (p.length-k) 0).set k (iM (cd p k))=(bh p).take (k+1)++List.replicate (p.length-(k+1)) 0:=by
   rw[zbE _ _ zo,c,za8,show p.length-k=(p.length-(k+1))+1 by omega,zbo,zbO]
   have o:=lP a
   obtain⟨B,x⟩:=Nm.1 o
   rw[zaz B,x,zaG]
   rfl
  refine ar ?_
  refine G.new λD=>ar ?_
  refine xU (s:=cd p k) zo (ar ?_)
  rw[A]
  have b:=yr a
  refine DN (s:=cd p k) (op:=p[k].op) (i:=(k:Int)) zo (λg=>(U2 (Fi a F) (by rw[b];exact g)).1) f λm d=>ar ?_
  rw[fm zo]
  have j:=hJ (k+1,m) ⟨a,d⟩ (by simp only;omega)
  have w:cd p (k+1)=gI (cd p k) k p[k].op:=by rw[<-b];rfl
  simp only[w]at j
  exact j.sub
 ·have a:k=p.length:=by grind
  have hK:=hK u t
  rw[a,za8,List.replicate_zero,zbw,zat (by rw[mY];exact LT _)]
  exact hK.sub
def adR {x:co}(h:BJ x=true)(hj:ym x.op=true):0<=x.c/\x.c<=40:=by
 unfold BJ QP at h
 unfold ym at hj
 simp only[GE,decide_eq_true_eq,zaw]at h hj
 have e:(yQ x.op).2.2=(0,40):=by
  unfold yQ
  rcases hj with hj|hj<;>rw[hj]<;>rfl
 grind
def RJ {u:Value}[r:Rd w0 L v fx 5 p][r2:Rd w0 L u bq 1 (bh p)](N:ax v [v])(M:p.length<=40)(I:gD p p.length=0)(hK:∀a,G w0 L (K (.tuple #[i64 a,i64 (if mV p p.length=true then 2 else 0)]))):G w0 L (ac 191 [.agg #[v],u] K):=by
 refine Q3 ?_
 unfold GZ
 refine G.box λq=>?_
 refine mK ?_
 refine ar ?_
 have s:∀{k n:Nat},k<=n->mV p k=true->mV p n=true:=by
  intro k n h e
  induction n with
  |zero =>
   obtain rfl:k=0:=by omega
   exact e
  |succ n ih =>
   by_cases c:k=n+1
   ·rw[<-c];exact e
   ·unfold mV;rw[ih (by omega)];rfl
 refine G.a8 (λk:Nat=>i64 k) (λk=>own q [v]::L) (λk=>k<=p.length/\mV p k=false) (λk=>p.length-k) 0 rfl rfl ⟨zag _,rfl⟩ ?_
 intro k ⟨hk,hjk⟩ J hJ
 refine ar ?_
 refine G.cond (λh=>?_) (λh=>?_)
 ·have d:k<p.length:=by grind
  have e:=dm d
  have w:=yr d
  have x:(bh p)[k]? = some (iM (cd p k)):=lP d
  have H:iW (bh p) k ((bh p).getD k 0):=⟨by rw[ge,x];rfl⟩
  have j:=UA (Fi d I)
  rw[w]at j
  have f:mV p (k+1)=jx p k p[k]:=by
   show(mV p k||jx p k (p.getD k H7))=_
   rw[hjk,w];rfl
  refine G.aU ?_
  refine ar ?_
  refine G.new λA=>?_
  refine ar ?_
  refine S6 ?_
  cases hj:ym p[k].op
  ·have C:=hJ (k+1) ⟨d,by rw[f];unfold jx;rw[hj];rfl⟩ (by omega)
   refine bi ?_
   rw[fm (by omega)]
   exact C.sub
  ·obtain⟨E,B⟩:=adR j hj
   have F:JD p[k].c p[k].c.toNat:=⟨by omega⟩
   have g:jx p k p[k]=true->G w0 (own A [i64 p[k].op,i64 p[k].a,i64 p[k].b,i64 p[k].c,u64 p[k].n]::own q [v]::L) (K (.tuple #[i64 k,i64 2])):=λz=>by
    have t:=hK k
    rw[if_pos (s d (by rw[f];exact z))]at t
    exact t.sub
   have good:jx p k p[k]=false->G w0 (own A [i64 p[k].op,i64 p[k].a,i64 p[k].b,i64 p[k].c,u64 p[k].n]::own q [v]::L) (J (i64 ((k+1:Nat):Int))):=λz =>
    (hJ (k+1) ⟨d,by rw[f];exact z⟩ (by omega)).sub
   unfold jx at g good
   rw[hj]at g good
   simp only[za6]at g good
   by_cases l:(p.length:Int)<p[k].c
   ·refine bx (eq_true l) ?_
    exact g (by simp[l])
   by_cases o:p[k].c=p.length
   ·have m:¬p[k].c<p.length:=by omega
    by_cases i:(bh p).getD k 0=-1
    ·refine bx (an l (an (eq_true o) (an m (eq_true i)))) ?_
     rw[fm (by omega)]
     exact good (by simp only[l,m,i,decide_true,decide_false,ne_eq,not_true_eq_false,not_false_eq_true,zbY,za6,zb9,zbQ,zbX,zba,zcm,zb6,zcn,zcb])
    ·refine bx (an l (an (eq_true o) (an m i))) ?_
     exact g (by simp only[o,i,decide_true,decide_false,ne_eq,not_true_eq_false,not_false_eq_true,zbY,za6,zb9,zbQ,zbX,zba,zcm,zb6,zcn,zcb])
   ·have m:p[k].c<p.length:=by omega
    have y:(bh p)[p[k].c.toNat]? = some (iM (cd p p[k].c.toNat)):=lP (by omega)
    have D:iW (bh p) p[k].c.toNat ((bh p).getD p[k].c.toNat 0):=⟨by rw[ge,y];rfl⟩
    by_cases i:(bh p).getD p[k].c.toNat 0=(bh p).getD k 0
    ·refine bx (an l (an o (an (eq_true m) (eq_true i)))) ?_
     rw[fm (by omega)]
     exact good (by simp only[l,o,i,decide_true,decide_false,ne_eq,not_true_eq_false,not_false_eq_true,zbY,za6,zb9,zbQ,zbX,zba,zcm,zb6,zcn,zcb])
    ·refine bx (an l (an o (an (eq_true m) i))) ?_
     exact g (by simp only[m,i,decide_true,decide_false,ne_eq,not_true_eq_false,not_false_eq_true,zbY,za6,zb9,zbQ,zbX,zba,zcm,zb6,zcn,zcb])
 ·have d:k=p.length:=by grind
  have t:=hK 0
  rw[<-d,if_neg (by rw[hjk];decide)]at t
  exact t.sub
def MT [r:Rd w0 L v fx 5 p](P:ax v [v])(S:p.length<=1000000)(hK:∀a,G w0 L (K (.tuple #[i64 a,i64 (pb p)]))):G w0 L (ac 164 [.agg #[v]] K):=by
 refine V9 ?_
 unfold Mx
 refine G.box λq=>mK ?_
 unfold pb at hK
 by_cases N:p.length=0
 ·have c:((p.length:Int)=0)=True:=eq_true zo
  rw[zp (.inl N)]at hK
  refine ca c ?_
  exact(hK 0).sub
 by_cases t:40<p.length
 ·have c:((p.length:Int)=0)=False:=eq_false zo
  have B:((40:Int)<p.length)=True:=eq_true zo
  rw[zp (.inr t)]at hK
  refine ca (an c B) ?_
  exact(hK 0).sub
 have c:((p.length:Int)=0)=False:=eq_false zo
 have B:((40:Int)<p.length)=False:=eq_false zo
 rw[zn]at hK
 refine ca (an c B) ?_
 refine G.a3 bq ?_
 refine G.bN (σ:=Nat×Value) (λz=>z.2) (λz=>i64 z.1) (λz=>sl bq z.2 (cd p z.1).reverse::own q [v]::L) (λz=>z.1<=p.length/\gD p z.1=0/\ax z.2 [z.2]) (λz=>p.length-z.1) (0,.slice none 0 0) rfl rfl rfl ⟨zag _,rfl,bj⟩ ?_
 rintro⟨k,y⟩ ⟨D,j,C⟩ J hJ
 simp only at D j C hJ ⊢
 have F:=Is (p:=p) D
 refine ar ?_
 refine G.cond (λh=>?_) (λh=>?_)
 ·have d:k<p.length:=by grind
  have e:=dm d
  have o:=yr d
  have f:gD p (k+1)=js p (cd p k) p[k]:=by
   show(if gD p k≠0 then gD p k else js p (cd p k) (p.getD k H7))=_
   rw[zn (λg=>g j),o]
  refine ar ?_
  refine G.new λQ=>ar ?_
  refine QX (s:=cd p k) (p:=p) (x:=p[k]) zo F.1 ?_
  by_cases c:js p (cd p k) p[k]=0
  ·rw[c]
   refine bi ?_
   refine DN (s:=cd p k) (op:=p[k].op) (i:=(k:Int)) zo (λg=>(U2 c g).1) C λE w=>ar ?_
   rw[fm zo]
   have A:=hJ (k+1,E) ⟨d,by rw[f];exact c,w⟩ (by simp only;omega)
   have M:cd p (k+1)=gI (cd p k) k p[k].op:=by rw[<-o];rfl
   simp only[M]at A
   exact A.sub
  ·refine bx c ?_
   have I:gD p p.length=js p (cd p k) p[k]:=by
    have:∀n,k+1<=n->gD p n=gD p (k+1):=by
     intro n A
     induction n with
     |zero=>omega
     |succ n ih =>
      by_cases l:k+1=n+1
      ·rw[l]
      ·have:=ih zo
       show(if gD p n≠0 then gD p n else js p (cd p n) (p.getD n H7))=_
       rw[zp (by rw[this,f];exact c),this]
    rw[this p.length d,f]
   have m:=hK k
   rw[I,zp c]at m
   exact m.sub
 ·have d:k=p.length:=by grind
  rw[<-d,zn (λg=>g j)]at hK
  by_cases l:cd p k=[]
  ·rw[zn (λg=>g l)]at hK
   rw[l]
   refine bx (an @List.reverse_nil.{0} (an @List.length_nil.{0} @Int.cast_ofNat_Int)) ?_
   refine CG P zo (by rw[<-d];exact j) λu R=>bi ?_
   refine RJ P zo (by rw[<-d];exact j) λa=>bi ?_
   have m:=hK a
   rw[d]at m
   exact m.sub
  ·rw[zp l]at hK
   have H:((0:Int)<((cd p k).reverse.length:Nat))=True:=eq_true (by
    rw[za7]
    cases O:cd p k with
    |nil=>exact absurd O l
    |cons a b=>simp only[zad];omega)
   refine bx H ?_
   refine xU (s:=cd p k) zo (bi ?_)
   exact(hK _).sub
def Og:∀k,(rP p k).length=p.length
 |0=>by simp[rP]
 |k+1=>by unfold rP;split<;>simp[Og k]
def LQ:∀k,(nN p k).length=p.length
 |0=>by unfold nN;exact Og _
 |k+1=>by unfold nN;split<;>simp[LQ k]
def Lb (h:s≠[])(hi:inP p s):0<=iM s/\iM s<p.length:=by
 cases s with
 |nil=>exact absurd rfl h
 |cons i s=>exact hi i zs
theorem md {xs:List Int}{k:Nat}(h:k<xs.length):iW xs k (xs.getD k 0):=⟨by rw[ge,dg h];rfl⟩
def ahZ (h:pb p=0):0<p.length/\p.length<=40/\gD p p.length=0/\cd p p.length=[]/\mV p p.length=false:=by
 unfold pb at h
 by_cases a:p.length=0\/40<p.length
 all_goals grind
def Rx [r:Rd w0 L v fx 5 p](Q:ax v [v])(U:p.length<=1000000)(hK:∀u,ax u [u]->G w0 (sl bq u (tb p)::L) (K u)):G w0 L (ac 165 [.agg #[v]] K):=by
 refine Rh ?_
 unfold GS
 refine G.box λq=>ar ?_
 refine MT Q U λa=>?_
 unfold tb at hK
 by_cases m:pb p=0
 ·obtain⟨S,o,B,_,_⟩:=ahZ m
  rw[zp m]at hK
  refine bx m ?_
  refine CG Q o B λu R=>ar ?_
  refine G.make bq 0 rfl (by simp only[maxLen];omega) zo λn t=>?_
  have D:((List.replicate p.length (0:Int)).length:Int)=p.length:=by simp
  have F:=mY (p:=p)
  refine ca D ?_
  refine G.a8 (σ:=Nat×List Int) (λz=>i64 z.1) (λz=>sl bq n z.2::sl bq u (bh p)::own q [v]::L) (λz=>z.1<=p.length/\z.2=List.replicate z.1 (-1)++List.replicate (p.length-z.1) 0) (λz=>p.length-z.1) (0,List.replicate p.length 0) rfl rfl ⟨zag _,zs⟩ ?_
  rintro⟨k,xs⟩ ⟨y,C⟩ J l
  simp only at y C l ⊢
  refine ar ?_
  refine G.cond (λh=>?_) (λh=>?_)
  ·have b:k<p.length:=by grind
   have w:k<xs.length:=by grind
   have e:=dm w
   have O:xs.set k (-1)=List.replicate (k+1) (-1)++List.replicate (p.length-(k+1)) 0:=by
    rw[C,zbE _ _ zs,zbD,za8,show p.length-k=(p.length-(k+1))+1 by omega,zbo,zbO,zcD,zaG]
    rfl
   refine ar ?_
   rw[fm zo]
   exact l (k+1,xs.set k (-1)) ⟨b,O⟩ (by simp only;omega)
  ·have b:k=p.length:=by grind
   have Dy:xs=rP p 0:=by rw[C,b,za8];simp[rP]
   subst Dy
   refine ar ?_
   refine G.a8 (λk:Nat=>i64 k) (λk=>sl bq n (rP p k)::sl bq u (bh p)::own q [v]::L) (λk=>k<=p.length) (λk=>p.length-k) 0 rfl rfl (zag _) ?_
   intro k y J l
   refine ar ?_
   refine G.cond (λh=>?_) (λh=>?_)
   ·have b:k<p.length:=by grind
    have e:=dm b
    have f:=yr b
    have c:=l (k+1) b zo
    have A:rP p (k+1)=if 0<gq p[k].op then(rP p k).set ((bh p).getD k 0).toNat k else rP p k:=by rw[<-f];rfl
    rw[A]at c
    refine ar ?_
    refine G.new λH=>ar ?_
    refine wO ?_
    by_cases d:0<gq p[k].op
    ·rw[zp d]at c
     have j:=U2 (Fi b B) (by rw[f];exact d)
     obtain⟨P,N⟩:=Lb j.1 (Is (p:=p) (k:=k) zo).1
     have M:iW (bh p) k (iM (cd p k)):=⟨lP b⟩
     have i:(bh p).getD k 0=iM (cd p k):=by rw[ge,lP b];rfl
     rw[i]at c
     have I:JD (iM (cd p k)) (iM (cd p k)).toNat:=⟨zo⟩
     have E:=md (xs:=rP p k) (k:=(iM (cd p k)).toNat) (by rw[Og];omega)
     refine bx (eq_true d) ?_
     rw[fm zo]
     exact c.sub
    ·rw[zn d]at c
     refine bx d ?_
     rw[fm zo]
     exact c.sub
   ·have b:k=p.length:=by grind
    rw[b,show rP p p.length=nN p 0 from rfl]
    refine ar ?_
    refine G.a8 (λk:Nat=>i64 k) (λk=>sl bq n (nN p k)::sl bq u (bh p)::own q [v]::L) (λk=>k<=p.length) (λk=>p.length-k) 0 rfl rfl (zag _) ?_
    intro k y J l
    refine ar ?_
    refine G.cond (λh=>?_) (λh=>?_)
    ·have b:k<p.length:=by grind
     have e:=dm b
     have f:=yr b
     have c:=l (k+1) b zo
     have A:nN p (k+1)=if p[k].op=16 then(nN p k).set k ((nN p k).getD ((bh p).getD k 0).toNat 0)else nN p k:=by rw[<-f];rfl
     rw[A]at c
     refine ar ?_
     refine G.new λH=>?_
     by_cases d:p[k].op=16
     ·rw[zp d]at c
      have j:cd p k≠[]:=λg=>by
       have:=Fi b B
       rw[f]at this
       unfold js at this
       rw[zn (by rw[UA (p:=p) (s:=cd p k) (x:=p[k]) (by unfold js;exact this)];decide),zn (λz=>absurd z.1 (by rw[d];decide)),zp ⟨d,by rw[g];show(0:Int)≠14;decide⟩]at this
       cases this
      obtain⟨P,N⟩:=Lb j (Is (p:=p) (k:=k) zo).1
      have M:iW (bh p) k (iM (cd p k)):=⟨lP b⟩
      have i:(bh p).getD k 0=iM (cd p k):=by rw[ge,lP b];rfl
      rw[i]at c
      have I:JD (iM (cd p k)) (iM (cd p k)).toNat:=⟨zo⟩
      have E:=md (xs:=nN p k) (k:=(iM (cd p k)).toNat) (by rw[LQ];omega)
      have T:=md (xs:=nN p k) (k:=k) (by rw[LQ];omega)
      refine bx (eq_true d) ?_
      rw[fm zo]
      exact c.sub
     ·rw[zn d]at c
      refine bx d ?_
      rw[fm zo]
      exact c.sub
    ·have b:k=p.length:=by grind
     rw[b]
     exact(hK n t).sub
 ·rw[zn m]at hK
  refine bx m ?_
  refine G.a3 bq ?_
  exact(hK _ bj).sub
end
end Go.Proofs.YtoealglbimbbmaaGreatDoor.S
