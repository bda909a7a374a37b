import Derived.Test.YtoealglbimbbmaaGreatDoorTInt
import Derived.Shelf.Strconv.Itoa1
import Derived.Shelf.Strconv.Itoa2
import Derived.Lib.ItoaMem
import Derived.Shelf.Strings.OnBuilder
import Derived.Test.YtoealglbimbbmaaGreatDoorTChk
set_option linter.defProp false
set_option linter.unusedVariables false
set_option linter.unusedSimpArgs false
namespace Go.Proofs.YtoealglbimbbmaaGreatDoor.S
open Go Go.Proofs
abbrev ajn:co:=⟨0,0,0,0,0⟩
abbrev gd (p:List co)(k:Nat):co:=p.getD k ajn
section
variable {p:List co}{k n:Nat}
theorem mq:cd p (k+1)=gI (cd p k) k (gd p k).op:=rfl
def tK:∀{k:Nat},∀i∈cd p k,0<=i/\i<k/\(fk (gd p i.toNat).op=true\/(gd p i.toNat).op=18)
 |0,i,h=>by cases h
 |k+1,i,h=>by
  rw[mq]at h
  unfold gI at h
  have hold:i∈cd p k->0<=i/\i<((k+1:Nat):Int)/\(fk (gd p i.toNat).op=true\/(gd p i.toNat).op=18):=λg=>by have:=tK i g;exact⟨this.1,zo,this.2.2⟩
  have ht:i∈(if 0<gq (gd p k).op then(cd p k).tail else cd p k)->i∈cd p k:=λg=>by
   split at g
   ·exact zb5 g
   ·exact g
  split at h
  ·rename_i c
   rcases zaa.1 h with e|h
   ·subst e
    refine⟨zo,zo,?_⟩
    simp only[zaw,decide_eq_true_eq]at c
    simpa using c
   ·exact hold (ht h)
  ·exact hold (ht h)
def O9:∀{k:Nat}{j:Int}{r:List Int},(j::r) <:+ cd p k->cd p (j.toNat+1)=j::r
 |0,j,r,h=>by
  have:=List.IsSuffix.length_le h
  simp[cd]at this
 |k+1,j,r,h=>by
  rw[mq]at h
  unfold gI at h
  have hold:(j::r) <:+ cd p k->cd p (j.toNat+1)=j::r:=λg=>O9 g
  have ht:(j::r) <:+ (if 0<gq (gd p k).op then(cd p k).tail else cd p k)->(j::r) <:+ cd p k:=λg=>by
   split at g
   ·exact g.trans (List.tail_suffix _)
   ·exact g
  split at h
  ·rename_i c
   rcases List.suffix_cons_iff.1 h with e|h
   ·cases e
    have e2:((k:Int).toNat)=k:=by omega
    rw[e2,mq]
    unfold gI
    rw[zp c]
   ·exact hold (ht h)
  ·exact hold (ht h)
theorem JP {j:Int}{r:List Int}(h:cd p k=j::r):cd p (j.toNat+1)=j::r:=O9 (k:=k) (by rw[h];exact zcl _)
theorem abR {m:Nat}(h:iM (cd p k)=iM (cd p m)):cd p k=cd p m:=by
 cases a:cd p k with
 |nil =>
  cases b:cd p m with
  |nil=>rfl
  |cons j r =>
   rw[a,b]at h
   have:=(tK j (by rw[b];simp)).1
   have h:(-1:Int)=j:=h
   omega
 |cons i q =>
  cases b:cd p m with
  |nil =>
   rw[a,b]at h
   have:=(tK i (by rw[a];simp)).1
   have h:i=(-1:Int):=h
   omega
  |cons j r =>
   rw[a,b]at h
   have h:i=j:=h
   subst h
   have c:=JP a
   grind[JP]
theorem WP:∀{k:Nat},(cd p k).length<=k
 |0=>LT _
 |k+1=>by
  have:=@WP k
  rw[mq]
  unfold gI
  split<;>split<;>simp<;>omega
structure AY (p:List co):Prop where
 len:0<p.length/\p.length<=40
 el:∀k,k<p.length->js p (cd p k) (gd p k)=0
 fl:cd p p.length=[]
 fM:∀k,k<p.length->jx p k (gd p k)=false
def Jw:∀{n:Nat},gD p n=0->∀k,k<n->js p (cd p k) (gd p k)=0
 |0,_,k,h=>by omega
 |n+1,h,k,hk=>by
  unfold gD at h
  by_cases c:gD p n=0
  ·rw[zn (λg=>g c)]at h
   by_cases e:k=n
   ·subst e;exact h
   ·exact Jw c k zo
  ·rw[zp c]at h;exact absurd h c
def KP:∀{n:Nat},mV p n=false->∀k,k<n->jx p k (gd p k)=false
 |0,_,k,h=>by omega
 |n+1,h,k,hk=>by
  unfold mV at h
  rw[zb4]at h
  by_cases e:k=n
  ·subst e;exact h.2
  ·exact KP h.1 k zo
def qE (h:pb p=0):AY p:=by
 unfold pb at h
 split at h
 ·cases h
 ·rename_i d
  split at h
  ·grind
  ·rename_i c
   split at h
   ·cases h
   ·rename_i b
    split at h
    ·cases h
    ·rename_i a
     exact⟨zo,Jw (by simpa using c),by simpa using b,KP (by simpa using a)⟩
def AY.e9 (h:AY p)(a:k<p.length):BJ (gd p k)=true:=by
 have:=h.el k a
 grind[js]
def AY.bR (h:AY p)(a:k<p.length)(b:0<gq (gd p k).op):Mp p (cd p k)=gq (gd p k).op:=by
 have:=h.el k a
 unfold js at this
 grind
def AY.dI (h:AY p)(a:k<p.length)(b:(gd p k).op=16):Mp p (cd p k)=14:=by
 have:=h.el k a
 grind[js,Mp,cd]
def Pn {s:List Int}(h:Mp p s≠0):∃j r,s=j::r/\(gd p j.toNat).op=Mp p s:=by
 cases s with
 |nil=>exact absurd rfl h
 |cons j r=>exact⟨j,r,rfl,rfl⟩
def AY.eK (h:AY p)(q:k<p.length)(hj:(gd p k).op=12\/(gd p k).op=13)(h0:0<=(gd p k).c):(gd p k).c<=p.length/\cd p (gd p k).c.toNat=cd p k:=by
 have:=h.fM k q
 unfold jx at this
 have b:ym (gd p k).op=true:=by grind[ym]
 rw[b]at this
 simp only[za6,zb4,decide_eq_false_iff_not,Bool.and_eq_false_iff,Int.not_lt]at this
 obtain⟨⟨i,l⟩,h3⟩:=this
 refine⟨i,?_⟩
 have a:∀m,m<p.length->(bh p).getD m 0=iM (cd p m):=λm n=>by
  unfold bh
  rw[ge,zax,zcH n];rfl
 by_cases e:(gd p k).c=p.length
 ·rcases l with g|g
  ·grind
  ·rw[a k q]at g
   have o:(gd p k).c.toNat=p.length:=by omega
   rw[o,h.fl]
   cases d:cd p k with
   |nil=>rfl
   |cons j r =>
    rw[d]at g
    have:=(tK j (by rw[d];simp)).1
    have g:¬(j≠-1):=g
    omega
 ·have f:(gd p k).c.toNat<p.length:=by omega
  grind[abR]
def MS (a:k<p.length):(bh p).getD k 0=iM (cd p k):=by
 unfold bh
 rw[ge,zax,zcH a];rfl
def PA:∀{k:Nat},(rP p k).length=p.length
 |0=>by simp[rP]
 |k+1=>by unfold rP;split<;>simp[PA]
theorem LB:∀{k:Nat},(nN p k).length=p.length
 |0=>PA
 |k+1=>by unfold nN;split<;>simp[LB]
def z8 (p:List co)(j e:Nat):Prop:=e<p.length/\0<gq (gd p e).op/\∃r,cd p e=(j:Int)::r
def Zv (h:AY p):∀{k:Nat},k<=p.length->∀j,j<p.length->((rP p k).getD j 0=-1/\∀e,e<k->¬z8 p j e)\/∃e:Nat,(rP p k).getD j 0=e/\z8 p j e
 |0,_,j,hj=>by
  left
  refine⟨?_,λe he=>by omega⟩
  unfold rP
  rw[ge,zaP,zp hj];rfl
 |k+1,hk,j,hj=>by
  have ih:=Zv h (k:=k) zo j hj
  unfold rP
  by_cases c:0<gq (gd p k).op
  ·rw[zp c,MS zo]
   have ho:=h.bR zo c
   obtain⟨i,r,e1,_⟩:=Pn (p:=p) (s:=cd p k) zo
   rw[e1]
   show(((rP p k).set i.toNat (k:Int)).getD j 0=-1/\_)\/∃e:Nat,((rP p k).set i.toNat (k:Int)).getD j 0=e/\_
   have hi:=tK i (by rw[e1];simp)
   by_cases ej:i.toNat=j
   ·right
    refine⟨k,?_,zo,c,r,by rw[e1];congr 1;omega⟩
    rw[ge,ej,zap (by rw[PA];exact hj)];rfl
   ·rw[ge,zai ej,<-ge]
    rcases ih with⟨g1,g2⟩|g
    ·left
     refine⟨g1,λe he g3=>?_⟩
     by_cases ek:e=k
     ·subst ek
      obtain⟨_,_,r',g4⟩:=g3
      rw[e1]at g4
      cases g4
      exact ej zo
     ·exact g2 e zo g3
    ·exact .inr g
  ·rw[zn c]
   rcases ih with⟨g1,g2⟩|g
   ·left
    refine⟨g1,λe he g3=>?_⟩
    by_cases ek:e=k
    ·subst ek;exact c g3.2.1
    ·exact g2 e zo g3
   ·exact .inr g
def Ll (h:AY p){j:Nat}:∀{d k:Nat},k+d=p.length->(j:Int)∈cd p k->∃e,z8 p j e
 |0,k,e,hj=>by
  have:k=p.length:=by omega
  subst this
  rw[h.fl]at hj;cases hj
 |d+1,k,e,hj=>by
  by_cases c:0<gq (gd p k).op
  ·have f:=h.bR (k:=k) zo c
   obtain⟨i,r,a,_⟩:=Pn (p:=p) (s:=cd p k) zo
   by_cases b:i=j
   ·subst b;exact⟨k,zo,c,r,a⟩
   ·refine Ll h (d:=d) (k:=k+1) zo ?_
    rw[a]at hj
    have hj:(j:Int)∈r:=by
     rcases zaa.1 hj with g|g
     ·exact absurd g.symm b
     ·exact g
    rw[mq]
    unfold gI
    rw[zp c,a]
    split
    ·exact gr _ hj
    ·exact hj
  ·refine Ll h (d:=d) (k:=k+1) zo ?_
   rw[mq]
   unfold gI
   rw[zn c]
   split
   ·exact gr _ hj
   ·exact hj
def ZD (h:AY p){j:Nat}(c:k<=p.length)(hj:(j:Int)∈cd p k):∃e:Nat,(rP p p.length).getD j 0=e/\z8 p j e:=by
 obtain⟨e,b⟩:=Ll h (d:=p.length-k) zo hj
 have a:j<p.length:=by have:=(tK _ hj).2.1;omega
 rcases Zv h (LT _) j a with⟨_,g⟩|g
 ·exact absurd b (g e b.1)
 ·exact g
def JA:∀{n j:Nat},(gd p j).op≠16->(nN p n).getD j 0=(rP p p.length).getD j 0
 |0,j,_=>rfl
 |n+1,j,h=>by
  unfold nN
  split
  ·rename_i c
   have:n≠j:=λe=>by subst e;exact h c
   rw[ge,zai this,<-ge]
   exact JA h
  ·exact JA h
def OJ (h:AY p):∀{n j:Nat},n<=p.length->j<n->(gd p j).op=16->(nN p n).getD j 0=(rP p p.length).getD (iM (cd p j)).toNat 0
 |0,j,_,h,_=>by omega
 |n+1,j,hn,hj,hu=>by
  unfold nN
  by_cases e:j=n
  ·subst e
   rw[zp hu,MS zo,ge,zap (by rw[LB];omega)]
   show(nN p j).getD _ 0=_
   have ho:=h.dI zo hu
   obtain⟨i,r,e1,e2⟩:=Pn (p:=p) (s:=cd p j) zo
   rw[e1]
   exact JA (by show(gd p i.toNat).op≠16;rw[e2,ho];decide)
  ·split
   ·rw[ge,zai (λg=>e g.symm),<-ge]
    exact OJ h zo zo hu
   ·exact OJ h zo zo hu
def YV (a:pb p=0):(tb p).length=p.length:=by grind[tb,LB]
def SN (c:pb p=0){j:Nat}(d:k<=p.length)(hj:(j:Int)∈cd p k):∃e:Nat,(tb p).getD j 0=e/\z8 p j e:=by
 have h:=qE c
 have a:=(tK _ hj).2.2
 unfold tb
 rw[zp c,JA (λe=>by
  have b:((j:Int).toNat)=j:=by omega
  rw[b,e]at a
  rcases a with g|g
  ·cases g
  ·cases g)]
 exact ZD h d hj
def Vv (g:pb p=0)(d:k<p.length)(f:(gd p k).op=16):∃j e:Nat,∃r,cd p k=(j:Int)::r/\(tb p).getD k 0=e/\z8 p j e:=by
 have h:=qE g
 have l:=h.dI d f
 obtain⟨i,r,a,n⟩:=Pn (p:=p) (s:=cd p k) zo
 have m:=tK i (by rw[a];simp)
 obtain⟨e,c,b⟩:=ZD h (k:=k) (j:=i.toNat) zo (by rw[a,show((i.toNat:Nat):Int)=i by omega];simp)
 refine⟨i.toNat,e,r,by rw[a];congr 1;omega,?_,b⟩
 unfold tb
 rw[zp g,OJ h (LT _) d f,a]
 exact c
def z8.dv {j e:Nat}{r:List Int}(h:z8 p j e)(l:cd p k=(j:Int)::r):cd p (e+1)=if(gd p e).op=18 then(e:Int)::r else r:=by
 obtain⟨i,a,f,d⟩:=h
 have c:=JP l
 rw[JP d]at c
 cases c
 rw[mq]
 unfold gI
 rw[zp a,d]
 have b:fk (gd p e).op=false:=by
  cases b:fk (gd p e).op with
  |false=>rfl
  |true =>
   unfold fk at b
   unfold gq at a
   simp only[zaw,decide_eq_true_eq]at b
   rcases b with g|g<;>rw[g]at a<;>simp at a
 grind
def z8.op (d:pb p=0){j e:Nat}(h:z8 p j e):(gd p j).op=gq (gd p e).op:=by
 obtain⟨b,c,r,a⟩:=h
 have:=(qE d).bR b c
 rw[a]at this
 exact this
def abI (e:pb p=0):∀n∈tb p,-1<=n/\n<=1000:=by
 have h:=qE e
 have c:∀k,k<=p.length->∀n∈rP p k,-1<=n/\n<=1000:=by
  intro k
  induction k with
  |zero=>intro _ n a;have:=(List.mem_replicate.1 a).2;omega
  |succ k ih =>
   intro b n a
   unfold rP at a
   split at a
   ·rcases za2 a with g|g
    ·grind
    ·have:=h.len;omega
   all_goals grind
 have d:∀k,k<=p.length->∀n∈nN p k,-1<=n/\n<=1000:=by
  intro k
  induction k with
  |zero=>exact λ_=>c _ (LT _)
  |succ k ih =>
   intro b n a
   unfold nN at a
   split at a
   ·rcases za2 a with g|g
    ·grind
    ·rw[ge]at g
     grind
   all_goals grind
 grind[tb]
end
section
variable {s t u:iX}{d d2:Nat}{a x e n c:Int}{l:List ay}
def afd:Vr s (s.bj (ru s.l).1) (ru s.l).2 0:=by
 unfold ru
 split
 ·exact .of ⟨rfl,rfl,λo=>⟨o.ok,o.b7⟩,LT _⟩ zs
 ·rename_i c
  refine .of ⟨rfl,rfl,λo=>⟨o.ok.dP c,λr a z b=>?_⟩,?_⟩ zs
  ·rcases zaa.1 a with e|a
   ·grind
   ·exact o.b7 r a z b
  ·simp only[uV,kw,zaO,LE,List.length_nil];omega
def ZL:Vr s (s.bj (sB s.l).1) (sB s.l).2 0:=by
 unfold sB
 split
 ·exact .of ⟨rfl,rfl,λo=>⟨o.ok,o.b7⟩,LT _⟩ zs
 ·rename_i q h e
  refine .of ⟨rfl,rfl,λo=>⟨o.ok.b4 e,λr b z c=>?_⟩,?_⟩ zs
  ·have a:=o.b7
   rw[e]at a
   rcases zaa.1 b with d|b
   ·subst d
    rcases QG c with g|⟨y,f,g⟩
    ·exact a q zs z g
    all_goals grind
   all_goals grind
  ·simp only[uV,e,kw,zaO,LE];omega
def ZK:Vr s (s.bj (ky s.l).1) (ky s.l).2 0:=by
 unfold ky
 split
 ·exact .of ⟨rfl,rfl,λo=>⟨o.ok,o.b7⟩,LT _⟩ zs
 ·rename_i q b e
  refine .of ⟨rfl,rfl,λo=>⟨o.ok.dA e,λr d z c=>?_⟩,?_⟩ zs
  ·have a:=o.b7
   grind
  ·simp only[uV,e,kw,zaO,LE];omega
end
structure PP (x:ig)(s:iX):Prop where
 bad:pb x.prog=0
 mt:x.mt=tb x.prog
 K:0<=x.K/\x.K<=x.prog.length
 dc:x.op.map (·.aG)=cd x.prog x.K.toNat
 b8:∀q∈x.op,q.op=(gd x.prog q.aG.toNat).op
 told:x.op.Pairwise λa b=>b.told<=a.told
 b6:∀q∈x.op,0<=q.told/\q.told<=x.af.length
 a6:x.af.length<=16
 left:0<=x.left/\x.left<=400
 aH:(s.l.aH.length:Int)+x.left<=400
structure Nxt (p:List co)(x z:ig)(t:iX)(d:Nat):Prop where
 prog:z.prog=p
 mt:z.mt=x.mt
 bad:z.bad=x.bad
 left:z.left=x.left
 O:z.O=x.O
 nx:0<=z.next/\z.next<=p.length
 dc:z.op.map (·.aG)=cd p z.next.toNat
 b8:∀q∈z.op,q.op=(gd p q.aG.toNat).op
 told:z.op.Pairwise λa b=>b.told<=a.told
 b6:∀q∈z.op,0<=q.told/\q.told<=z.af.length
 a6:z.af.length<=16
structure YF (x:ig)(s:iX)(R:ig×iX×Int):Prop where
 vr:Vr s R.2.1 R.2.2 1
 left:R.1.left=x.left
 nx:R.2.2=0->R.1.O=0->Nxt x.prog x R.1 R.2.1 1
 O:R.2.2=0->R.1.O=0\/R.1.O=3
 nd:R.2.2=11->R.1=x
section
variable {x:ig}{s:iX}{i:co}{k:Nat}
def Nxt.of {z:ig}(h:PP x s)(h1:z.prog=x.prog)(h2:z.mt=x.mt)(h3:z.bad=x.bad)(h4:z.left=x.left)(h5:z.O=x.O)(h6:z.op=x.op)(h7:x.af.length<=z.af.length/\z.af.length<=16)(h8:0<=z.next/\z.next<=x.prog.length)(h9:cd x.prog z.next.toNat=cd x.prog x.K.toNat){t:iX}{d:Nat}:Nxt x.prog x z t d :=
 ⟨h1,h2,h3,h4,h5,h8,by rw[h6,h9];exact h.dc,by rw[h6];exact h.b8,by rw[h6];exact h.told,by rw[h6];exact λq hq=>by have:=h.b6 q hq;omega,h7.2⟩
def ab9 {p:List co}(h:¬0<gq (gd p k).op/\fk (gd p k).op=false/\(gd p k).op≠18):cd p (k+1)=cd p k:=by grind[mq,gI]
def aeQ (h:BJ i=true):0<=i.a/\0<=i.b/\0<=i.c/\1<=i.op/\i.op<=23:=by
 unfold BJ at h
 simp only[GE,decide_eq_true_eq]at h
 obtain⟨⟨⟨⟨f,e⟩,h2⟩,h3⟩,_⟩:=h
 have d:∀op:Int,0<=(yQ op).1.1/\0<=(yQ op).2.1.1/\0<=(yQ op).2.2.1:=λop=>by
  unfold yQ
  repeat' split
  all_goals simp
 grind[QP]
def aax {p:List co}(h:k<p.length):gd p k∈p:=by
 have:gd p k=p[k]:=by
  show p.getD k ajn=_
  rw[ge,dg h];rfl
 grind
def Vm {p:List co}{y:ig}{o a:Int}{x0:ig}(k:y.prog=p)(c:y.mt=x0.mt/\y.bad=x0.bad/\y.left=x0.left/\y.O=0/\x0.O=0)(m:0<=y.next/\y.next<=p.length)(j:a::y.op.map (·.aG)=cd p y.next.toNat)(r:o=(gd p a.toNat).op)(n:∀q∈y.op,q.op=(gd p q.aG.toNat).op)(ht:y.op.Pairwise λa b=>b.told<=a.told)(g:∀q∈y.op,0<=q.told/\q.told<=y.af.length)(i:y.af.length<=16) :
  Vr s (mu y s o a).2.1 (mu y s o a).2.2 0/\(mu y s o a).2.2≠11/\(mu y s o a).1.left=y.left/\(mu y s o a).1.O=0/\((mu y s o a).2.2=0->Nxt p x0 (mu y s o a).1 (mu y s o a).2.1 0):=by
 have e:=afd (s:=s)
 have h:(ru s.l).2≠11:=by grind[ru]
 unfold mu
 split
 ·rename_i f
  rw[f]at e
  refine⟨e,zs,rfl,c.2.2.2.1,λ_=>⟨k,c.1,c.2.1,c.2.2.1,by show y.O=_;rw[c.2.2.2.1,c.2.2.2.2],m,j,λq d=>?_,?_,λq d=>?_,i⟩⟩
  ·grind
  ·exact zaI.2 ⟨λq d=>(g q d).2,ht⟩
  all_goals grind
 all_goals grind
def R9 {ps:List ou}{its:List pT}{q:ou}(hp:(q::ps).Pairwise λa b=>b.told<=a.told)(h2:∀z∈q::ps,0<=z.told/\z.told<=its.length):∀z∈ps,0<=z.told/\z.told<=(its.take q.told.toNat).length:=λz hz=>by
 have h1:=(zaI.1 hp).1 z hz
 have h3:=h2 q zs
 have h4:=h2 z (by simp[hz])
 rw[zaC]
 omega
def Qc {x0:ig}{d:Nat}(h:PP x0 s)(hx:x.prog=x0.prog/\x.mt=x0.mt/\x.bad=x0.bad/\x.left=x0.left/\x.O=0/\x0.O=0/\x.af=x0.af):∀{ps:List ou}{t:iX},ps <:+ x0.op->Vs s t d ->
  Vs s (kG x t ps).2.1 d/\(kG x t ps).2.2≠11/\(kG x t ps).1.left=x.left/\((kG x t ps).2.2=0->((kG x t ps).1.O=0->Nxt x0.prog x0 (kG x t ps).1 (kG x t ps).2.1 0)/\((kG x t ps).1.O=0\/(kG x t ps).1.O=3))
 | [],t,_,hv=>by
  rw[PK]
  exact⟨hv,zs,rfl,λ_=>⟨λg=>by simp at g,.inr rfl⟩⟩
 |q::ps,t,hsf,hv=>by
  have hd:=ZK (s:=t)
  have h10:(ky t.l).2≠11:=by unfold ky;split<;>simp
  have hv2:=hv.trans hd.1
  rw[yZ]
  by_cases c:(ky t.l).2=0
  ·rw[zp c]
   by_cases c2:q.op=17
   ·rw[zp c2]
    have hq:=hsf.subset (zao (a:=q) (l:=ps))
    have hat:∃k:Nat,k<=x0.prog.length/\(q.aG::ps.map (·.aG)) <:+ cd x0.prog k:=⟨x0.K.toNat,by have:=h.K;omega,by rw[<-h.dc];obtain⟨r,hr⟩:=hsf;exact⟨r.map (·.aG),by rw[<-hr];simp⟩⟩
    obtain⟨k,hk,hsu⟩:=hat
    have htop:=O9 hsu
    have hin:=tK q.aG (hsu.subset zs)
    have ej:((q.aG.toNat:Nat):Int)=q.aG:=by omega
    obtain⟨e,he,hend⟩:=SN h.bad (k:=k) (j:=q.aG.toNat) hk (by rw[ej];exact hsu.subset zs)
    have hop:=hend.op h.bad
    rw[<-h.b8 q hq,c2]at hop
    have h18:(gd x0.prog e).op=18:=by
     unfold gq at hop
     split at hop
     ·cases hop
     ·split at hop
      ·assumption
      ·split at hop<;>cases hop
    have hbe:=hend.dv (k:=q.aG.toNat+1) (r:=ps.map (·.aG)) (by rw[htop,ej])
    rw[zp h18]at hbe
    have emt:x.mt.getD q.aG.toNat 0=e:=by rw[hx.2.1,h.mt];exact he
    rw[emt]
    have hlt:=hend.1
    have hps:=hsf.subset
    have hpw:(q::ps).Pairwise λa b=>b.told<=a.told:=h.told.sublist hsf.sublist
    have hto:=R9 hpw (λz hz=>h.b6 z (hps hz))
    have hb:=Vm (s:=t.bj (ky t.l).1) (p:=x0.prog) (y:={ x with op:=ps,r:=q.bb,af:=x.af.take q.told.toNat,next:=(e:Int)+1 }) (o:=18) (a:=(e:Int)) (x0:=x0) hx.1 ⟨hx.2.1,hx.2.2.1,hx.2.2.2.1,hx.2.2.2.2.1,hx.2.2.2.2.2.1⟩ ⟨by simp only;omega,by simp only;omega⟩
     (by show _=cd x0.prog ((e:Int)+1).toNat;rw[show((e:Int)+1).toNat=e+1 by omega,hbe])
     (by rw[show((e:Int)).toNat=e by omega,h18]) (λz hz=>h.b8 z (hps (gr _ hz))) (zaI.1 hpw).2 (by rw[hx.2.2.2.2.2.2];exact hto) (by have:=h.a6;rw[hx.2.2.2.2.2.2];simp only[zaC];omega)
    exact⟨hv2.trans hb.1.1,hb.2.1,hb.2.2.1,λg=>⟨λ_=>hb.2.2.2.2 g,.inl hb.2.2.2.1⟩⟩
   ·rw[zn c2]
    exact Qc h hx ((List.suffix_cons q ps).trans hsf) hv2
  ·rw[zn c]
   exact⟨hv2,h10,rfl,λg=>absurd g c⟩
def PP.next (h:PP x s):PP { x with next:=x.K+1 } s:=⟨h.bad,h.mt,h.K,h.dc,h.b8,h.told,h.b6,h.a6,h.left,h.aH⟩
theorem YF.c0 {z:ig}(h:PP x s)(hp:x.K<x.prog.length)(hf:x.O=0)(hi:¬0<gq (gd x.prog x.K.toNat).op/\fk (gd x.prog x.K.toNat).op=false/\(gd x.prog x.K.toNat).op≠18)
  (h1:z.prog=x.prog) (h2:z.mt=x.mt) (h3:z.bad=x.bad) (h4:z.left=x.left) (h5:z.O=x.O) (h6:z.op=x.op) (h7:x.af.length<=z.af.length/\z.af.length<=16) (h8:z.next=x.K+1) {t:iX} {e:Int} (hv:Vr s t e 1) (he:e≠11):YF { x with next:=x.K+1 } s (z,t,e) :=
 ⟨hv,h4,λ_ _=>Nxt.of h.next h1 h2 h3 h4 h5 h6 h7 (by have:=h.K;show _/\z.next<=(x.prog.length:Int);omega) (by
  show cd x.prog z.next.toNat=cd x.prog x.K.toNat
  have:=h.K
  rw[h8,show(x.K+1).toNat=x.K.toNat+1 by omega];exact ab9 hi),λ_=>.inl (by show z.O=0;rw[h5,hf]),λg=>absurd g he⟩
theorem YF.bn {e:Int}{t:iX}(hv:Vr s t e 1)(he:e≠0):YF x s (x,t,e):=⟨hv,rfl,λg=>absurd g he,λg=>absurd g he,λ_=>rfl⟩
def ahn (h:PP x s)(hp:x.K<x.prog.length)(I:x.O=0)(aK:x.bU.op≠23):YF { x with next:=x.K+1 } s (CI x s):=by
 unfold CI
 have hx:=h.K
 have R:x.K.toNat<x.prog.length:=by omega
 have hg:=qE h.bad
 have ac:=hg.e9 R
 have V:=aeQ ac
 have T:x.bU=gd x.prog x.K.toNat:=rfl
 rw[T]at aK ⊢
 have hS:=h.next
 have m:∀{t:iX} {e:Int},Vr s t e 0->Vr s t e 1:=λg=>⟨g.1.le zo,g.2⟩
 have h0:Vr s s 0 1:=m (.of .refl zd)
 generalize w:gd x.prog x.K.toNat=i at *
 have A:i.op≠14->i.op≠15->i.op≠17->i.op≠18->i.op≠19->¬0<gq (gd x.prog x.K.toNat).op/\fk (gd x.prog x.K.toNat).op=false/\(gd x.prog x.K.toNat).op≠18:=λa b c d e=>by
  rw[w];unfold gq fk;simp[a,b,c,d,e]
 have J:=h.a6
 have aH:∀{k:Nat} {y:Int} {t:iX} {e:Int},i.op≠14->i.op≠15->i.op≠17->i.op≠18->i.op≠19->Vr s t e 1->e≠11->YF { x with next:=x.K+1 } s (rR { x with next:=x.K+1 } k y,t,e):=λ{k y t e'} a b c d e hv N=>YF.c0 (z:=rR { x with next:=x.K+1 } k y) h hp I (A a b c d e) rfl rfl rfl rfl rfl rfl ⟨LT _,J⟩ rfl hv N
 have f:∀{t:iX} {e:Int},i.op≠14->i.op≠15->i.op≠17->i.op≠18->i.op≠19->Vr s t e 1->YF { x with next:=x.K+1 } s ({ x with next:=x.K+1 },t,e):=λ{t e} a b c d g hv=>by
  by_cases N:e=0
  ·grind[YF.c0]
  ·exact .bn hv N
 unfold iDo
 by_cases c1:i.op=1
 ·grind
 rw[zn c1]
 by_cases c2:i.op=2
 ·grind
 rw[zn c2]
 by_cases c3:i.op=3
 ·grind
 rw[zn c3]
 by_cases c4:i.op=4
 ·grind
 rw[zn c4]
 by_cases c5:i.op=5
 ·grind
 rw[zn c5]
 by_cases c6:i.op=6
 ·grind
 rw[zn c6]
 by_cases c7:i.op=7
 ·grind
 rw[zn c7]
 have aD:(i.op=12\/i.op=13)->YF { x with next:=x.K+1 } s ({ x with next:=i.c },s,0):=λg=>by
  have:=hg.eK R (by rw[w];exact g) (by rw[w];exact V.2.2.1)
  rw[w]at this
  exact⟨h0,rfl,λ_ _=>Nxt.of (z:={ x with next:=i.c }) hS rfl rfl rfl rfl rfl rfl ⟨LT _,J⟩ ⟨V.2.2.1,this.1⟩ this.2,λ_=>.inl I,λg=>by cases g⟩
 by_cases aB:i.op=12
 ·grind
 rw[zn aB]
 by_cases aF:i.op=13
 ·grind
 rw[zn aF]
 by_cases W:i.op=21
 ·rw[zp W]
  split
  ·rename_i g
   have g:x.af.length<16:=g
   exact YF.c0 (z:={ x with next:=x.K+1,af:=x.af++[.num (x.r.get (m8 i.a))] }) h hp I (A zo zo zo zo zo) rfl rfl rfl rfl rfl rfl ⟨zs,by simp only[LE,gg];omega⟩ rfl h0 zd
  ·exact f zo zo zo zo zo (m (.of .refl zd))
 rw[zn W]
 by_cases aA:i.op=22
 ·rw[zp aA];exact f zo zo zo zo zo (m (.of .refl zd))
 rw[zn aA]
 by_cases X:i.op=8\/i.op=9\/i.op=10\/i.op=11
 ·rw[zp X]
  unfold xP
  split
  ·split
   ·exact f zo zo zo zo zo (m (.of .refl zd))
   all_goals grind[oO]
  ·split
   ·split
    ·exact f zo zo zo zo zo (m (.of .refl zd))
    all_goals grind[Wh]
   ·split
    ·split
     ·exact f zo zo zo zo zo (m (.of .refl zd))
     all_goals grind[Vk]
    ·split
     ·exact f zo zo zo zo zo (m (.of .refl zd))
     all_goals grind[Wq]
 rw[zn X]
 have S:((x.K.toNat:Nat):Int)=x.K:=by omega
 unfold DH
 split
 ·rename_i c
  have Z:=Vm (s:=s) (p:=x.prog) (y:={ x with next:=x.K+1 }) (o:=i.op) (a:=x.K) (x0:={ x with next:=x.K+1 }) rfl ⟨rfl,rfl,rfl,I,I⟩ ⟨by simp only;omega,by simp only;omega⟩
   (by
    show x.K::x.op.map (·.aG)=cd x.prog (x.K+1).toNat
    rw[show(x.K+1).toNat=x.K.toNat+1 by omega,mq,w,h.dc,S]
    unfold gI fk gq
    rcases c with c|c<;>simp[c])
   (by rw[w]) h.b8 h.told h.b6 h.a6
  exact⟨m Z.1,Z.2.2.1,λg _=>by have:=Z.2.2.2.2 g;exact⟨this.prog,this.mt,this.bad,this.left,this.O,this.nx,this.dc,this.b8,this.told,this.b6,this.a6⟩,λ_=>.inl Z.2.2.2.1,λg=>absurd g Z.2.1⟩
 ·rename_i aJ
  have am:(sB s.l).2≠11:=by unfold sB;split<;>simp
  have aE:(ky s.l).2≠11:=by unfold ky;split<;>simp
  have B:(i.op=15\/i.op=16\/i.op=18\/i.op=19)->∃q ps,x.op=q::ps/\cd x.prog x.K.toNat=q.aG::ps.map (·.aG):=λg=>by
   have B:Mp x.prog (cd x.prog x.K.toNat)≠0:=by
    by_cases H:i.op=16
    ·rw[hg.dI R (by rw[w];exact H)];decide
    ·rw[hg.bR R (by rw[w];unfold gq;rcases g with g|g|g|g<;>simp[g]<;>omega),w]
     grind[gq]
   obtain⟨j,r,v,_⟩:=Pn B
   have hs:=h.dc
   rw[v]at hs
   cases hx:x.op with
   |nil=>rw[hx]at hs;cases hs
   |cons q ps=>exact⟨q,ps,rfl,by rw[v,<-hs,hx];rfl⟩
  split
  ·rename_i c
   obtain⟨q,ps,v,P⟩:=B zo
   rw[show({ x with next:=x.K+1 }:ig).op=q::ps from v,zcz]
   refine⟨m ZL,rfl,λg _=>⟨rfl,rfl,rfl,rfl,rfl,⟨by simp only;omega,by simp only;omega⟩,?_,λz F=>h.b8 z (by rw[v];exact gr _ F),?_,λz F=>h.b6 z (by rw[v];exact gr _ F),h.a6⟩,λ_=>.inl I,λg=>absurd g am⟩
   ·show ps.map (·.aG)=cd x.prog (x.K+1).toNat
    rw[show(x.K+1).toNat=x.K.toNat+1 by omega,mq,w,P]
    grind[gI,fk,gq]
   ·have:=h.told;rw[v]at this;exact(zaI.1 this).2
  ·rename_i aI
   split
   ·rename_i al
    obtain⟨q,ps,v,P⟩:=B zo
    rw[show({ x with next:=x.K+1 }:ig).op=q::ps from v,zcz]
    have U:cd x.prog (x.K.toNat+1)=(x.K.toNat:Int)::ps.map (·.aG):=by
     rw[mq,w,P]
     grind[gI,fk,gq]
    obtain⟨e,N,n⟩:=SN h.bad (k:=x.K.toNat+1) (j:=x.K.toNat) zo (by rw[U];simp)
    have C:=n.dv U
    have u:=n.op h.bad
    rw[w,al]at u
    have E:(gd x.prog e).op≠18:=by
     intro g;rw[g]at u;unfold gq at u;simp at u
    rw[zn E]at C
    have M:x.mt.getD x.K.toNat 0=e:=by rw[h.mt];exact N
    have aC:=n.1
    show YF _ s ({ x with op:=ps,next:=x.mt.getD x.K.toNat 0+1 },_,_)
    rw[M]
    refine⟨m ZL,rfl,λg _=>⟨rfl,rfl,rfl,rfl,rfl,⟨by simp only;omega,by simp only;omega⟩,?_,λz F=>h.b8 z (by rw[v];exact gr _ F),?_,λz F=>h.b6 z (by rw[v];exact gr _ F),h.a6⟩,λ_=>.inl I,λg=>absurd g am⟩
    ·show ps.map (·.aG)=cd x.prog ((e:Int)+1).toNat
     rw[show((e:Int)+1).toNat=e+1 by omega,C]
    ·have:=h.told;rw[v]at this;exact(zaI.1 this).2
   ·rename_i al
    split
    ·rename_i H
     obtain⟨q,ps,v,P⟩:=B zo
     rw[show({ x with next:=x.K+1 }:ig).op=q::ps from v,zcz,List.headD_cons]
     obtain⟨j,e,r,g1,N,n⟩:=Vv h.bad R (by rw[w];exact H)
     have C:=n.dv g1
     have u:=n.op h.bad
     have D:=hg.dI R (by rw[w];exact H)
     rw[g1]at D
     have D:(gd x.prog ((j:Int).toNat)).op=14:=D
     rw[show((j:Int).toNat)=j by omega]at D
     rw[D]at u
     have E:(gd x.prog e).op≠18:=by
      intro g;rw[g]at u;unfold gq at u;simp at u
     rw[zn E]at C
     have M:x.mt.getD x.K.toNat 0=e:=by rw[h.mt];exact N
     have aC:=n.1
     rw[g1]at P
     simp only[zbK]at P
     show YF _ s ({ x with op:=ps,r:=q.bb,af:=x.af.take q.told.toNat,next:=x.mt.getD x.K.toNat 0+1 },_,_)
     rw[M]
     have L:=h.told
     have Y:=h.b6
     rw[v]at L Y
     refine⟨m ZK,rfl,λg _=>⟨rfl,rfl,rfl,rfl,rfl,⟨by simp only;omega,by simp only;omega⟩,?_,λz F=>h.b8 z (by rw[v];exact gr _ F),(zaI.1 L).2,R9 L Y,by simp only[zaC];omega⟩,λ_=>.inl I,λg=>absurd g aE⟩
     show ps.map (·.aG)=cd x.prog ((e:Int)+1).toNat
     rw[show((e:Int)+1).toNat=e+1 by omega,C,P.2]
    ·have Q:=Qc (x:={ x with next:=x.K+1 }) (x0:={ x with next:=x.K+1 }) hS ⟨rfl,rfl,rfl,rfl,I,I,rfl⟩ (ps:=x.op) (t:=s) (zcl _) .refl
     exact⟨m ⟨Q.1,λg=>absurd g Q.2.1⟩,Q.2.2.1,λg g2=>by have:=(Q.2.2.2 g).1 g2;exact⟨this.prog,this.mt,this.bad,this.left,this.O,this.nx,this.dc,this.b8,this.told,this.b6,this.a6⟩,λg=>(Q.2.2.2 g).2,λg=>absurd g Q.2.1⟩
def PP.dr (h:PP x s)(L:x.K<x.prog.length):0<=x.bU.a/\0<=x.bU.b/\0<=x.bU.c/\s.l.r.f.length<=1000/\∀o:Int,(o=x.bU.op\/o=20)->OU { x with next:=x.K+1 } s o:=by
 have B:=h.K
 have t:x.K.toNat<x.prog.length:=by omega
 have k:=qE h.bad
 have d:=aeQ (k.e9 t)
 have y:=k.len
 have C:=h.aH
 have I:=h.left
 have D:x.op.length<=40:=by
  have H:=congrArg List.length h.dc
  grind[WP]
 have p:x.mt.length=x.prog.length:=by rw[h.mt];exact YV h.bad
 have u:=h.a6
 have A:=uV (s:=s.l)
 have i:x.bU=gd x.prog x.K.toNat:=rfl
 refine⟨d.1,d.2.1,d.2.2.1,zo,λo F=>⟨by show x.op.length<=_;omega,by show x.af.length<=_;omega,λq v=>?_,by show ∀n∈x.mt,_;rw[h.mt];exact abI h.bad,zo,λg e=>?_,λ_=>⟨B.1,by show x.K<(x.mt.length:Int);rw[p];exact L⟩⟩⟩
 ·have E:=h.b6 q v
  have z:q.aG∈cd x.prog x.K.toNat:=by rw[<-h.dc];exact zau.2 ⟨q,v,rfl⟩
  have J:=tK _ z
  grind
 ·have e:x.op=[]:=e
  have w:=h.dc
  rw[e]at w
  have j:Mp x.prog (cd x.prog x.K.toNat)≠0:=by
   have g:x.bU.op=15\/x.bU.op=16\/x.bU.op=18\/x.bU.op=19:=by omega
   rw[i]at g
   by_cases m:(gd x.prog x.K.toNat).op=16
   ·rw[k.dI t m];decide
   ·rw[k.bR t (by unfold gq;rcases g with g|g|g|g<;>simp only[g]<;>simp<;>omega)]
    unfold gq;rcases g with g|g|g|g<;>simp only[g]<;>simp<;>omega
  rw[<-w]at j
  exact j rfl
def PP.on {z:ig}{t:iX}(h:PP x s)(g:0<x.left)(f:Vs s t 1)(a:Nxt x.prog { x with next:=x.K+1 } z t 1):PP z.on t:=by
 have d:z.left=x.left:=a.left
 have b:=f.fr
 have e:=h.aH
 have c:=h.left
 exact⟨by rw[a.prog];exact h.bad,by show z.mt=tb z.prog;rw[a.prog];exact a.mt.trans h.mt,by show 0<=z.next/\z.next<=(z.prog.length:Int);rw[a.prog];exact a.nx,by show _=cd z.prog z.next.toNat;rw[a.prog];exact a.dc,by show ∀q∈z.op,q.op=(gd z.prog q.aG.toNat).op;rw[a.prog];exact a.b8,a.told,a.b6,a.a6,by show 0<=z.left-1/\z.left-1<=400;omega,by show(t.l.aH.length:Int)+(z.left-1)<=400;omega⟩
end
end Go.Proofs.YtoealglbimbbmaaGreatDoor.S
namespace Go.Proofs.YtoealglbimbbmaaGreatDoor.S
open Go Go.Proofs
def zM:pT->Prop
 | .num n=>kY n
 |_=>True
section
variable {s:iX}{t:oe}{cs l:List ay}{a x n b c:Int}
def Vg.ef (h:Vg s):Vg (s.bj (ru s.l).1):=by
 refine⟨h.k,?_⟩
 show XZ (ru s.l).1
 unfold ru
 split
 ·exact h.l
 ·exact λr a=>(zaa.1 a).elim (λe=>by rw[e];exact .nil) (h.l r)
def Vg.drop (h:Vg s):Vg (s.bj (ky s.l).1):=by
 refine⟨h.k,?_⟩
 show XZ (ky s.l).1
 unfold ky
 split
 ·exact h.l
 ·rename_i q b e
  exact λr a=>h.l r (gr _ (by rw[e];exact a))
theorem Vg.bp (h:Vg s):Vg (s.bj (sB s.l).1):=by
 refine⟨h.k,?_⟩
 show XZ (sB s.l).1
 unfold sB
 split
 ·exact h.l
 ·rename_i q c e
  have a:=h.l
  unfold XZ at a
  rw[e]at a
  intro r b
  rcases zaa.1 b with g|g
  ·rw[g];exact Cw.b2 (a q zs) (a s.l.r zs)
  all_goals grind
end
def Ru (r:Gw):Prop:=∀k,kY (r.get k)
structure Rg (x:ig):Prop where
 bb:Ru x.r
 b8:∀q∈x.op,Ru q.bb
 af:∀n∈x.af,zM n
 prog:∀i∈x.prog,kY i.n
section
variable {x:ig}{s:iX}{k:Nat}{y:Int}{i:co}
def Ru.set {r:Gw}(h:Ru r)(hy:kY y):Ru (r.set k y):=λj=>by
 have h0:=h 0;have h1:=h 1;have h2:=h 2;have h3:=h 3;have h4:=h 4;have h5:=h 5;have h6:=h 6;have h7:=h 7
 unfold Gw.set
 split<;>(unfold Gw.get;split<;>first|exact hy|assumption)
def Rg.set (h:Rg x)(hy:kY y):Rg (rR x k y):=⟨h.bb.set hy,h.b8,h.af,h.prog⟩
def Rg.dl (h:Rg x)(c:Vg s){o a:Int}:Rg (mu x s o a).1/\Vg (mu x s o a).2.1:=by
 unfold mu
 split
 ·exact⟨⟨h.bb,λq b=>(zaa.1 b).elim (λe=>by rw[e];exact h.bb) (h.b8 q),h.af,h.prog⟩,c.ef⟩
 ·exact⟨h,c.ef⟩
def Rg.dO:∀{ps:List ou}{s:iX},Rg x->Vg s->(∀q∈ps,Ru q.bb)->Rg (kG x s ps).1/\Vg (kG x s ps).2.1
 | [],s,h,hs,_=>⟨⟨h.bb,by simp[kG],h.af,h.prog⟩,hs⟩
 |q::ps,s,h,hs,hp=>by
  have hp2:∀p∈ps,Ru p.bb:=λp hp2=>hp p (gr _ hp2)
  rw[yZ]
  split
  ·split
   ·refine Rg.dl ?_ hs.drop
    exact⟨hp q zao,hp2,λn hn=>h.af n (zb7 hn),h.prog⟩
   ·exact Rg.dO h hs.drop hp2
  ·exact⟨⟨h.bb,hp2,h.af,h.prog⟩,hs.drop⟩
def Un (h:Rg x):∀q∈x.op.tail,Ru q.bb:=λq hq=>h.b8 q (zb5 hq)
def Rg.dr (h:Rg x)(a:Vg s){o:Int}:Rg (DH x s o).1/\Vg (DH x s o).2.1:=by
 unfold DH
 split
 ·exact h.dl a
 ·split
  ·exact⟨⟨h.bb,Un h,h.af,h.prog⟩,a.bp⟩
  ·split
   ·exact⟨⟨h.bb,Un h,h.af,h.prog⟩,a.bp⟩
   ·split
    ·refine⟨⟨?_,Un h,λn c=>h.af n (zb7 c),h.prog⟩,a.drop⟩
     cases b:x.op with
     |nil=>intro k;simp only[List.headD_nil];unfold Gw.get;split<;>exact jN
     |cons q l=>exact h.b8 q (by rw[b];exact zao)
    ·exact h.dO a h.b8
def Rg.eL (h:Rg x)(d:Vg s):Rg (xP x s i).1/\Vg (xP x s i).2.1:=by
 unfold xP
 split
 ·split
  ·grind
  ·have e:=d.cT (a:=(lJ (x.r.get (m8 i.b)) i.c).1)
   split
   ·exact⟨h.set e.2,e.1⟩
   all_goals grind
 ·split
  ·split
   ·grind
   ·exact⟨h,d.di (h.bb _)⟩
  ·split
   ·split
    ·grind
    ·split
     ·exact⟨h.set kZ,d.alloc⟩
     ·exact⟨h,d.alloc⟩
   ·split
    ·grind
    ·exact⟨h,d.bc⟩
abbrev RV (R:ig×iX×Int):Prop:=Rg R.1/\Vg R.2.1
def O2 {t:Bool}:kY (xp t):=by cases t<;>exact⟨zd,zd⟩
def Rg.c6 (h:Rg x)(a:Vg s)(hi:kY i.n):Rg (iDo x s i).1/\Vg (iDo x s i).2.1:=by
 unfold iDo
 refine cy (P:=RV) (λ_=>⟨h.set hi,a⟩) λ_=>?_
 refine cy (P:=RV) (λ_=>⟨h.set (h.bb _),a⟩) λ_=>?_
 refine cy (P:=RV) (λ_=>⟨h.set kZ,a⟩) λ_=>?_
 refine cy (P:=RV) (λ_=>⟨h.set kZ,a⟩) λ_=>?_
 refine cy (P:=RV) (λ_=>⟨h.set kZ,a⟩) λ_=>?_
 refine cy (P:=RV) (λ_=>⟨h.set O2,a⟩) λ_=>?_
 refine cy (P:=RV) (λ_=>⟨h.set O2,a⟩) λ_=>?_
 refine cy (P:=RV) (λ_=>⟨⟨h.bb,h.b8,h.af,h.prog⟩,a⟩) λ_=>?_
 refine cy (P:=RV) (λ_=>⟨cy (P:=Rg) (λ_=>⟨h.bb,h.b8,h.af,h.prog⟩) λ_=>h,a⟩) λ_=>?_
 refine cy (P:=RV) (λ_=>cy (P:=RV) (λ_=>⟨⟨h.bb,h.b8,λn b=>(zar.1 b).elim (h.af n) λe=>by rw[zaf.1 e];exact h.bb _,h.prog⟩,a⟩) λ_=>⟨h,a⟩) λ_=>?_
 refine cy (P:=RV) (λ_=>⟨h,a⟩) λ_=>?_
 exact cy (P:=RV) (λ_=>h.eL a) λ_=>h.dr a
end
end Go.Proofs.YtoealglbimbbmaaGreatDoor.S
namespace Go.Proofs
open Go.Shelf
def YtoealglbimbbmaaGreatDoor.cZ : Go.Shelf.Ren:=⟨λ|283=>284|n=>n, λ|3=>3|9=>9|4=>4|n=>n, λ|n=>n⟩
def YtoealglbimbbmaaGreatDoor.eZ : Go.Proofs.Lays.n283 Tryz.prog YtoealglbimbbmaaGreatDoor.cZ:={
  mixed:=by kernel_rfl
  f283:=Tryz.func284.trans (congrArg some (by kernel_rfl))
  t3:=Tryz.underlying3
  a3:=Tryz.isAgg3
  z3:=Tryz.sizeOf3
  v3:=Tryz.zeroValue3
  t4:=Tryz.underlying4
  a4:=Tryz.isAgg4
  z4:=Tryz.sizeOf4
  v4:=Tryz.zeroValue4
  t9:=Tryz.underlying9
  a9:=Tryz.isAgg9
  z9:=Tryz.sizeOf9
  v9:=Tryz.zeroValue9 }
def YtoealglbimbbmaaGreatDoor.cU : Go.Shelf.Ren:=⟨λ|284=>285|129=>283|317=>345|318=>346|n=>n, λ|53=>22|3=>3|212=>413|0=>0|4=>4|46=>93|5=>5|9=>9|n=>n, λ|17=>0|n=>n⟩
def YtoealglbimbbmaaGreatDoor.dJ : Go.Proofs.LaysM.n284 Tryz.prog YtoealglbimbbmaaGreatDoor.cU:={
  mixed:=by kernel_rfl
  f129:=Tryz.func283.trans (congrArg some (by kernel_rfl))
  f284:=Tryz.func285.trans (congrArg some (by kernel_rfl))
  f317:=Tryz.func345.trans (congrArg some (by kernel_rfl))
  f318:=Tryz.func346.trans (congrArg some (by kernel_rfl))
  t0:=Tryz.underlying0
  a0:=Tryz.isAgg0
  z0:=Tryz.sizeOf0
  v0:=Tryz.zeroValue0
  t3:=Tryz.underlying3
  a3:=Tryz.isAgg3
  z3:=Tryz.sizeOf3
  v3:=Tryz.zeroValue3
  t4:=Tryz.underlying4
  a4:=Tryz.isAgg4
  z4:=Tryz.sizeOf4
  v4:=Tryz.zeroValue4
  t5:=Tryz.underlying5
  a5:=Tryz.isAgg5
  z5:=Tryz.sizeOf5
  v5:=Tryz.zeroValue5
  t9:=Tryz.underlying9
  a9:=Tryz.isAgg9
  z9:=Tryz.sizeOf9
  v9:=Tryz.zeroValue9
  t46:=Tryz.underlying93
  a46:=Tryz.isAgg93
  z46:=Tryz.sizeOf93
  v46:=Tryz.zeroValue93
  t53:=Tryz.underlying22
  a53:=Tryz.isAgg22
  z53:=Tryz.sizeOf22
  v53:=Tryz.zeroValue22
  t212:=Tryz.underlying413
  a212:=Tryz.isAgg413
  z212:=Tryz.sizeOf413
  v212:=Tryz.zeroValue413
  g17:=by kernel_rfl
  i0:=by kernel_rfl
  i3:=by kernel_rfl
  i4:=by kernel_rfl
  i5:=by kernel_rfl
  i9:=by kernel_rfl
  i46:=by kernel_rfl
  i53:=by kernel_rfl
  i212:=by kernel_rfl
  m17:=by kernel_rfl }
def YtoealglbimbbmaaGreatDoor.c1 : Go.Shelf.Ren:=⟨λ|285=>286|n=>n, λ|37=>53|53=>22|3=>3|4=>4|51=>373|9=>9|5=>5|0=>0|n=>n, λ|n=>n⟩
def YtoealglbimbbmaaGreatDoor.dW : Go.Proofs.Lays.n285 Tryz.prog YtoealglbimbbmaaGreatDoor.c1:={
  mixed:=by kernel_rfl
  f285:=Tryz.func286.trans (congrArg some (by kernel_rfl))
  t0:=Tryz.underlying0
  a0:=Tryz.isAgg0
  z0:=Tryz.sizeOf0
  v0:=Tryz.zeroValue0
  t3:=Tryz.underlying3
  a3:=Tryz.isAgg3
  z3:=Tryz.sizeOf3
  v3:=Tryz.zeroValue3
  t4:=Tryz.underlying4
  a4:=Tryz.isAgg4
  z4:=Tryz.sizeOf4
  v4:=Tryz.zeroValue4
  t5:=Tryz.underlying5
  a5:=Tryz.isAgg5
  z5:=Tryz.sizeOf5
  v5:=Tryz.zeroValue5
  t9:=Tryz.underlying9
  a9:=Tryz.isAgg9
  z9:=Tryz.sizeOf9
  v9:=Tryz.zeroValue9
  t37:=Tryz.underlying53
  a37:=Tryz.isAgg53
  z37:=Tryz.sizeOf53
  v37:=Tryz.zeroValue53
  t51:=Tryz.underlying373
  a51:=Tryz.isAgg373
  z51:=Tryz.sizeOf373
  v51:=Tryz.zeroValue373
  t53:=Tryz.underlying22
  a53:=Tryz.isAgg22
  z53:=Tryz.sizeOf22
  v53:=Tryz.zeroValue22 }
def YtoealglbimbbmaaGreatDoor.cG : Go.Shelf.Ren:=⟨λ|156=>182|165=>215|166=>216|169=>217|240=>239|241=>240|276=>288|277=>289|n=>n, λ|31=>275|9=>9|3=>3|4=>4|0=>0|20=>20|72=>319|76=>322|70=>317|37=>53|75=>321|127=>339|164=>378|5=>5|80=>228|n=>n, λ|n=>n⟩
def YtoealglbimbbmaaGreatDoor.dy : Go.Proofs.Lays.n156 Tryz.prog YtoealglbimbbmaaGreatDoor.cG:={
  mixed:=by kernel_rfl
  f156:=Tryz.func182.trans (congrArg some (by kernel_rfl))
  f165:=Tryz.func215.trans (congrArg some (by kernel_rfl))
  f166:=Tryz.func216.trans (congrArg some (by kernel_rfl))
  f169:=Tryz.func217.trans (congrArg some (by kernel_rfl))
  f240:=Tryz.func239.trans (congrArg some (by kernel_rfl))
  f241:=Tryz.func240.trans (congrArg some (by kernel_rfl))
  f276:=Tryz.func288.trans (congrArg some (by kernel_rfl))
  f277:=Tryz.func289.trans (congrArg some (by kernel_rfl))
  t0:=Tryz.underlying0
  a0:=Tryz.isAgg0
  z0:=Tryz.sizeOf0
  v0:=Tryz.zeroValue0
  t3:=Tryz.underlying3
  a3:=Tryz.isAgg3
  z3:=Tryz.sizeOf3
  v3:=Tryz.zeroValue3
  t4:=Tryz.underlying4
  a4:=Tryz.isAgg4
  z4:=Tryz.sizeOf4
  v4:=Tryz.zeroValue4
  t9:=Tryz.underlying9
  a9:=Tryz.isAgg9
  z9:=Tryz.sizeOf9
  v9:=Tryz.zeroValue9
  t20:=Tryz.underlying20
  a20:=Tryz.isAgg20
  z20:=Tryz.sizeOf20
  v20:=Tryz.zeroValue20
  t31:=Tryz.underlying275
  a31:=Tryz.isAgg275
  z31:=Tryz.sizeOf275
  v31:=Tryz.zeroValue275
  t37:=Tryz.underlying53
  a37:=Tryz.isAgg53
  z37:=Tryz.sizeOf53
  v37:=Tryz.zeroValue53
  t70:=Tryz.underlying317
  a70:=Tryz.isAgg317
  z70:=Tryz.sizeOf317
  v70:=Tryz.zeroValue317
  t72:=Tryz.underlying319
  a72:=Tryz.isAgg319
  z72:=Tryz.sizeOf319
  v72:=Tryz.zeroValue319
  t75:=Tryz.underlying321
  a75:=Tryz.isAgg321
  z75:=Tryz.sizeOf321
  v75:=Tryz.zeroValue321
  t76:=Tryz.underlying322
  a76:=Tryz.isAgg322
  z76:=Tryz.sizeOf322
  v76:=Tryz.zeroValue322
  t127:=Tryz.underlying339
  a127:=Tryz.isAgg339
  z127:=Tryz.sizeOf339
  v127:=Tryz.zeroValue339
  t164:=Tryz.underlying378
  a164:=Tryz.isAgg378
  z164:=Tryz.sizeOf378
  v164:=Tryz.zeroValue378 }
def YtoealglbimbbmaaGreatDoor.dk:Builder.Extra Tryz.prog YtoealglbimbbmaaGreatDoor.cG:={
 sizeBuilder:=by kernel_rfl
 liesBuilder:=by kernel_rfl
 t5:=by kernel_rfl
 a5:=λ_=>by kernel_rfl
 z5:=λ_=>by kernel_rfl
 v5:=λ_=>by kernel_rfl
 infoByte:=by kernel_rfl
 cellsByte:=by kernel_rfl
 sizeByte:=by kernel_rfl
 neB5:=by decide }
end Go.Proofs
namespace Go.Proofs.YtoealglbimbbmaaGreatDoor.S
open Go Go.Proofs Go.Sort Go.Lib Go.RowKit
def Vu (w:World)(T:TypeId)(nd:Nat)(hs:nd<=24):Go.Sort.Holds (λ(b:UInt8)=>Value.int .u8 (b.toNat:Int)) (w.alloc (.cells zeros24 T)) w.heap.size 0 (Array.replicate nd (0:UInt8)):=λj hj=>by
 have hj':j<nd:=by simpa using hj
 refine⟨?_,World.frozen?_alloc_new _ _ _ _⟩
 rw[World.cell?_alloc_new,zeros24_at _ zo,getElem!_pos _ j hj]
 simp
def ad0 (w:World)(o:Obj)(c:Array UInt8)(k:Nat):∃os,(putRow (λ(b:UInt8)=>Value.int .u8 (b.toNat:Int)) (w.alloc o) w.heap.size 0 c).drewN k=grow (w.drewN k) os:=by
 rw[alloc_eq_grow]
 obtain⟨a,_,e⟩:=putRow_grow_new (λ(b:UInt8)=>Value.int .u8 (b.toNat:Int)) w #[o] w.heap.size 0 c (LT _)
 exact⟨a,by rw[e];rfl⟩
noncomputable def We:String:=match Tryz.prog.globals[0]? with
 |some g=>g.name
 |none => ""
def afc {w:World}{x:String}(e:We=x)(h:TabIs Tryz.prog w We .u64 pow10Tab):TabIs Tryz.prog w x .u64 pow10Tab:=by grind
def afk {w:World}{x:String}(e:We=x)(h:TabIs Tryz.prog w x .u64 pow10Tab):TabIs Tryz.prog w We .u64 pow10Tab:=by grind
set_option maxHeartbeats 6400000 in
set_option maxRecDepth 100000 in
def agD (u:Nat)(hu1:100<=u)(hu64:u<18446744073709551616)(w:World)(htab:TabIs Tryz.prog w We .u64 pow10Tab) :
  Calls Tryz.prog 238 #[.int .u64 u,.int .i64 10] w λe w'=>e=.returned (.string ⟨(decDigits u).toArray⟩)/\∃k os,w'=grow (w.drewN k) os:=by
 have hnd20:nDigits u<=20:=by have:=numDigits_eq u zo hu64;split at this<;>omega
 have hal:Tryz.prog.arrayLen 374=24:=by kernel_rfl
 have hsl1:∀W,(Instr.sliceAt 374 (.pointer (some ⟨w.heap.size,0,none⟩)) none (some (.int .i64 (nDigits u:Int))) none).run Tryz.prog W=.ok (.slice (some ⟨w.heap.size,0,none⟩) (nDigits u) 24) W:=λW=>by
  rw[run_sliceAt_array_h W 374 ⟨w.heap.size,0,none⟩ (by kernel_rfl) .i64 (nDigits u:Int) zo (by rw[hal];omega)]
  rw[hal]
  rfl
 have hH0:=Vu w 374 (nDigits u) zo
 have hfmt:=Any.internal_strconv_formatBase10 YtoealglbimbbmaaGreatDoor.dW w.heap.size 0 24 u (Array.replicate (nDigits u) 0) (w.alloc (.cells zeros24 374)) hH0 (by rw[zbI];exact lt_pow_nDigits u) hu64 (by rw[zbI];omega)
 rw[zbI]at hfmt
 have HH0:=hid hH0
 clear hH0 hal
 go_enter Tryz.func238,Tryz.ntmps238
 go_wp2_with fail
 refine(Any.internal_strconv_numDigits YtoealglbimbbmaaGreatDoor.dJ u zo hu64 _ (tabIs_alloc (afc (by kernel_rfl) htab) _)).mono ?_
 rintro e w' ⟨rfl,rfl⟩
 go_wp2_with fail
 refine hfmt.mono ?_
 rintro e w' ⟨rfl,k,v',dk,rfl,hF⟩
 have hcv:(convert 53 9 (.slice (some ⟨w.heap.size,0,none⟩) (nDigits u) 24)).run Tryz.prog ((putRow (λ(b:UInt8)=>Value.int .u8 (b.toNat:Int)) (w.alloc (.cells zeros24 374)) w.heap.size 0 dk).drewN k)=.ok (.string ⟨(decDigits u).toArray⟩) ((putRow (λ(b:UInt8)=>Value.int .u8 (b.toNat:Int)) (w.alloc (.cells zeros24 374)) w.heap.size 0 dk).drewN k):=by
  have h:=run_convert_bytes_back (P:=Tryz.prog) ((putRow (λ(b:UInt8)=>Value.int .u8 (b.toNat:Int)) (w.alloc (.cells zeros24 374)) w.heap.size 0 dk).drewN k) 53 9 5 ⟨w.heap.size,0,none⟩ 24 (decDigits u) Tryz.underlying53 Tryz.underlying5 Tryz.underlying9 (λj hj=>by
   rw[row_is_numeral hF j hj,add_plain,World.cell?_drewN]
   exact cell?_putRow (λ(b:UInt8)=>Value.int .u8 (b.toNat:Int)) _ w.heap.size 0 _ dk HH0.out (by rw[hF.size,zbI]) j (by rw[hF.size];rw[decDigits_length]at hj;exact hj))
  rw[decDigits_length]at h
  exact h
 go_wp2_with fail
 go_ret
 obtain⟨os,eo⟩:=ad0 w (.cells zeros24 374) dk k
 exact⟨rfl,k,os,eo⟩
def Cj (w0:bz):Prop:=TabIs Tryz.prog w0.w We .u64 pow10Tab
section
variable {w0:bz}{L M:List bg}{K:KV}{F:World->Prop}{C:bg->List bg}{b:Nat}{w w':World}{v:Value}
theorem Cj.aG (ht:Cj w0)(H:St w0 L w):TabIs Tryz.prog w We .u64 pow10Tab:=by
 obtain⟨h,d,c⟩:=H
 unfold Cj at ht
 unfold TabIs World.var? at *
 cases b:Tryz.prog.globalNamed We with
 |none=>simp[b]at ht
 |some g =>
  simp only[b,Option.bind_some]at ht ⊢
  have a:g<w0.w.heap.size:=by grind
  rw[c.step.block g a zs]
  exact ht
def St.below (H:St w0 L w)(hb:Below w.heap.size w w'):St w0 L w':=by
 obtain⟨h,j,a⟩:=H
 have c:∀k,k<w.heap.size->w'.heap[k]? = w.heap[k]?:=hb.block
 refine⟨h,j,⟨⟨hb.os.trans a.step.os,hb.tape.trans a.step.tape,hb.output.trans a.step.output,za5 a.step.size hb.size,λk e l=>?_⟩,λb f d=>?_,λb o d=>?_,za5 a.min hb.size⟩⟩
 ·rw[c k (zbs e a.step.size)];exact a.step.block k e l
 ·obtain⟨g,i,m⟩:=a.cell b f d
  grind[Ci,mem,opn]
 ·obtain⟨g,i⟩:=a.b4 b o d
  grind
def St.drewN (H:St w0 L w):∀n,St w0 L (w.drewN n)
 |0=>by rw[World.drewN_zero];exact H
 |n+1=>by
  have e:w.drewN (n+1)=(w.drewN n).drew:=by rw[show(w.drewN n).drew=(w.drewN n).drewN 1 from rfl,World.drewN_drewN]
  rw[e]
  exact(St.drewN H n).drew
def St.fs (H:St w0 L w)(os:Array Obj):St w0 L (Sort.grow w os) :=
 H.below ⟨rfl,rfl,rfl,by simp[Sort.grow],λk hk=>heap_grow_old _ _ hk⟩
def aiW (ht:Cj w0){n:Int}(h:kY n)(hK:∀s:ByteArray,s.size<=20->(n<10->s=Lw n)->G w0 L (K (.string s))):G w0 L (ac 238 [u64 n,i64 10] K):=by
 obtain⟨d,f⟩:=h
 by_cases b:n<100
 ·refine vq ?_
  unfold mG
  refine ca b ?_
  rw[jL (n:=n) zo zo]
  refine zZ ?_
  unfold pQ
  by_cases c:n<10
  ·refine ca c ?_
   rw[jL (n:=n+1) zo zo]
   intro w H
   exact⟨d,zo,by show n+1<=36;omega,hK (Lw n) (by unfold Lw;rw[ByteArray.size_extract];omega) (λ_=>rfl) w H⟩
  ·refine ca c ?_
   rw[jL (n:=n*2) zo zo,jL (n:=n*2+2) zo zo]
   intro w H
   refine⟨zo,zo,?_,hK _ ?_ (λg=>absurd g c) w H⟩
   ·show n*2+2<=200
    omega
   ·rw[ByteArray.size_extract];omega
 ·intro w H
  obtain⟨u,rfl⟩:=zaK d
  refine⟨⟨_,Tryz.func238,by kernel_rfl,by kernel_rfl⟩,(agD u zo zo w (ht.aG H)).mono ?_⟩
  rintro e w' ⟨rfl,k,os,rfl⟩
  have a:nDigits u<=20:=by have:=numDigits_eq u zo zo;split at this<;>omega
  refine hK _ ?_ (λg=>by omega) _ ((H.drewN k).fs os)
  show(decDigits u).toArray.size<=20
  rw[zcc,decDigits_length]
  exact a
def agA {l:List ByteArray}:(∀x∈l,x.size<=20)->lens (l.map (·.data.toList))<=20*l.length:=by
 induction l with
 |nil=>intro _;simp[lens]
 |cons x l ih =>
  intro h
  have b:=h x zao
  have c:=ih λy a=>h y (gr _ a)
  have d:x.data.toList.length<=20:=by rw[Array.length_toList];exact b
  simp only[lens,zaj,List.sum_cons,zad]at c ⊢
  omega
def ahu {ys:List ByteArray}[i:uS L v UP ys C](y:ys.length<=16)(z:∀x∈ys,x.size<=20)(hK:∀s:ByteArray,(∀x,ys=[x]->s=x)->G w0 L (K (.string s))):G w0 L (ac 182 [v,ld [32]] K):=by
 have known:∃fn,Tryz.prog.funcs[182]? = some fn/\fn.body.isNone=false/\(fn.name == "runtime.NumGoroutine")=false:=⟨_,Tryz.func182,by kernel_rfl,by kernel_rfl⟩
 obtain⟨M,n,u⟩:=vF (w0:=w0) i.dC
 intro w H
 have p:=(n w).1 H
 rcases p.bH with⟨rfl,rfl,f⟩|⟨c,d,a,rfl,m,t,f⟩
 ·refine⟨known,(Any.strings_Join_none YtoealglbimbbmaaGreatDoor.dy YtoealglbimbbmaaGreatDoor.dk none 0 _ w).mono ?_⟩
  rintro e w' ⟨rfl,rfl⟩
  exact hK _ (λx g=>by cases g) _ H
 ·have l:=f.bo
  have b:∀(j:Nat) x,ys[j]? = some x->w.cell? ⟨c,0+j,none⟩=some (.string x):=λj x q=>by
   rw[ry l.2.1]
   have:=Bk UP a ys j x q
   have k:(((ys.flatMap UP.enc++a).drop (j*1)).take 1)[0]? = some (.string x):=by rw[show(List.drop (j*1) (ys.flatMap UP.enc++a)).take 1=[.string x]from this];rfl
   rw[zbh]at k
   simpa using k
  refine⟨known,(Any.strings_Join YtoealglbimbbmaaGreatDoor.dy YtoealglbimbbmaaGreatDoor.dk c 0 d ys ⟨#[32]⟩ w b (Ci l.2.1) zo m ?_).mono ?_⟩
  ·cases ys with
   |nil=>simp[Lib.join]
   |cons x r =>
    rw[zaj,Lib.join_length]
    have h:=agA z
    rw[zaj]at h
    have o:(⟨#[32]⟩:ByteArray).data.toList.length=1:=rfl
    rw[o,zaq]
    simp only[zad]at h y
    omega
  ·rintro e w' ⟨rfl,hb⟩
   refine hK _ (λx g=>?_) _ (H.below hb)
   rw[g,zaj,zaL,Lib.join_one,Lib.mk_data]
end
end Go.Proofs.YtoealglbimbbmaaGreatDoor.S
namespace Go.Proofs.YtoealglbimbbmaaGreatDoor.S
open Go Go.Proofs
def aib (xs:List pT)(s:ByteArray):Prop:=∀n,xs=[.num n]->n<10->s=R5 xs
def KA (xs:List pT):Prop:=xs.length<=16/\∀a∈xs,zM a
section
variable {w0:bz}{L M:List bg}{K:KV}{F:World->Prop}{C:bg->List bg}{b:Nat}
def TK (ht:Cj w0){a:pT}(f:zM a)(hK:∀s:ByteArray,s.size<=20->(∀n,a=.num n->n<10->s=Lw n)->G w0 L (K (.string s))):G w0 L (ac 181 [a.v] K):=by
 refine TJ ?_
 unfold JS
 cases a with
 |num n =>
  have c:∀(b:KV),G w0 L (tJ 22 (u64 0) (.iface 22 (u64 n)) b)=G w0 L (b (.tuple #[u64 n,.bool true])):=λb=>by
   congr 1
  simp only[pT.v]
  rw[c]
  refine ar ?_
  refine ED ?_
  unfold t9
  refine aiW ht f λs c d=>?_
  exact hK s c λm e g=>by cases e;exact d g
 |truth t =>
  have c:∀(b:KV),G w0 L (tJ 22 (u64 0) (.iface 4 (.bool t)) b)=G w0 L (b (.tuple #[u64 0,.bool false])):=λb=>by
   congr 1
  have d:∀(b:KV),G w0 L (tJ 4 (.bool false) (.iface 4 (.bool t)) b)=G w0 L (b (.tuple #[.bool t,.bool true])):=λb=>by
   congr 1
  simp only[pT.v]
  rw[c]
  refine ar ?_
  rw[d]
  cases t
  ·refine ar ?_
   exact hK _ zd λm e=>by cases e
  ·refine ar ?_
   exact hK _ zd λm e=>by cases e
 |none =>
  have c:∀(b:KV),G w0 L (tJ 22 (u64 0) (.iface 421 (.agg #[])) b)=G w0 L (b (.tuple #[u64 0,.bool false])):=λb=>by
   congr 1
  have d:∀(b:KV),G w0 L (tJ 4 (.bool false) (.iface 421 (.agg #[])) b)=G w0 L (b (.tuple #[.bool false,.bool false])):=λb=>by
   congr 1
  simp only[pT.v]
  rw[c]
  refine ar ?_
  rw[d]
  refine ar ?_
  exact hK _ zd λm e=>by cases e
def S8 (ht:Cj w0){xs:List pT}(q:KA xs)[i:ae L kF b xs C](hK:∀s,aib xs s->G w0 L (K (.string s))):G w0 L (ac 151 [ptr b 0] K):=by
 refine i.cb (P:=aib xs) (N:=λ_=>X3) (F':=λs=>K (.string s)) (λM hK=>?_) (λs j=>by rw[VP];exact hK s j)
 simp only[VP]at hK
 obtain⟨E,q⟩:=q
 refine I0 ?_
 unfold xh
 rw[jd]
 intro v w
 have hK:=λs h=>(jd▸hK s h:_)
 refine ar ?_
 refine G.make (n:=xs.length) UP ⟨#[]⟩ rfl (by simp[maxLen];omega) zo λu F=>ar ?_
 refine G.a8 (σ:=Nat×List ByteArray) (λz=>i64 z.1) (λz=>sl UP u z.2::own b [v]::sl Of v xs::M) (λz=>z.1<=xs.length/\z.2.length=xs.length/\(∀s∈z.2,s.size<=20)/\∀n,xs=[.num n]->z.1=1->n<10->z.2=[Lw n]) (λz=>xs.length-z.1) (0,List.replicate xs.length ⟨#[]⟩) rfl rfl ⟨zag _,zs,λs j=>by rw[zco j];decide,λn _ g=>by cases g⟩ ?_
 rintro⟨k,ys⟩ ⟨A,a,d,f⟩ J hJ
 simp only at A a d f hJ ⊢
 by_cases c:k<xs.length
 ·have o:(k:Int)<xs.length:=by omega
  have e:iW xs k xs[k]:=⟨dg c⟩
  have H:iW ys k ys[k]:=⟨dg zo⟩
  refine bx (eq_true o) ?_
  refine TK ht (q _ (zae c)) λs x r=>bi ?_
  rw[fm zo]
  refine hJ (k+1,ys.set k s) ⟨c,by rw[zaZ];exact a,λt ht=>?_,λn l D p=>?_⟩ (by simp only;omega)
  ·rcases za2 ht with g|g
   ·exact d t g
   ·rw[g];exact x
  ·subst l
   have B:k=0:=by simpa using D
   subst B
   obtain⟨y,rfl⟩:=zbW.1 a
   rw[r n rfl p]
   rfl
 ·have m:k=xs.length:=by omega
  have o:¬(k:Int)<xs.length:=by omega
  refine bx o ?_
  refine ahu (ys:=ys) zo d λs j=>?_
  refine(hK s (λn l p=>?_) v w).sub
  subst l
  exact j _ (f n rfl (by simpa using m) p)
end
end Go.Proofs.YtoealglbimbbmaaGreatDoor.S
namespace Go.Proofs.YtoealglbimbbmaaGreatDoor.S
open Go Go.Proofs
section
variable {w0:bz}{L M:List bg}{K:KV}{F:World->Prop}{C:bg->List bg}{b vp op:Nat}{x:ig}{s:iX}{v vl vm vo:Value}{i:co}
def W6 (x:ig)(s:iX)(y:ig)(t:iX)(e:Int):Prop :=
 (e=0/\∃r its,y={ x with r:=r,af:=its }/\x.af.length<=its.length/\its.length<=16/\Vs s t 1/\(Rg x->Vg s->Ru r/\(∀a∈its,zM a)/\Vg t)) \/
 (e≠0/\y=x/\Vr s t e 1/\(Rg x->Vg s->Vg t))\/∃t0,(y,t,e)=kG x t0 x.op/\Vs s t0 1/\(Rg x->Vg s->Vg t0)
def UV (U:Prop)(x y:ig)(e e':Int):Prop :=
 (e'=0/\∃r its,y={ x with r:=r,af:=its }/\x.af.length<=its.length/\its.length<=16/\(U->Ru r/\∀a∈its,zM a))\/(e'≠0/\(e'=e\/e'=5)/\y=x)
def UV.call {U:Prop}{y:ig}{t:iX}{e e':Int}(h:UV U x y e e')(d:Vl U s t e 1)(k:Rg x->Vg s->U):W6 x s y t e':=by
 rcases h with⟨f,r,b,i,j,m,l⟩|⟨f,i,j⟩
 ·exact .inl ⟨f,r,b,i,j,m,d.vr.1,λa c=>⟨(l (k a c)).1,(l (k a c)).2,d.vg (k a c)⟩⟩
 ·refine .inr (.inl ⟨f,j,?_,λa c=>d.vg (k a c)⟩)
  rcases i with g|g
  ·rw[g];exact d.vr
  ·rw[g];exact .of d.vr.1 zd
theorem UV.bp {U:Prop}{e e':Int}(h0:e'≠0)(h:e'=e\/e'=5):UV U x x e e':=.inr ⟨h0,h,rfl⟩
def UV.add {U:Prop}{e y:Int}{k:Nat}{z:pT}(f:x.af.length<16)(c:U->Rg x)(d:U->kY y)(h:U->zM z):UV U x { rR x k y with af:=x.af++[z] } e 0:=by
 refine .inl ⟨rfl,_,_,rfl,zs,by simp only[LE,gg];omega,λu=>⟨(c u).bb.set (d u),λa b=>?_⟩⟩
 rcases zar.1 b with g|g
 ·exact(c u).af a g
 all_goals grind
def abc {t:Bool}:kY (xp t):=O2
section
variable {U:Prop}{e o a d n y root:Int}{x1 x2 k:Nat}
def B5 (hK:∀x1 x2,G w0 (own x1 [ptr b 0]::own x2 [i64 o,i64 a,i64 d,i64 (k:Int),u64 n]::L) (K (.func (.func 292) #[] #[ptr x1 0,ptr x2 0]))):G w0 L (ac 245 [ptr b 0,.agg #[i64 o,i64 a,i64 d,i64 (k:Int),u64 n]] K):=by
 refine CW ?_
 unfold rX
 refine G.box λx1=>?_
 refine G.box λx2=>?_
 exact(hK x1 x2).sub
def JQ (hK:∀x1 x2,G w0 (own x1 [ptr b 0]::own x2 [i64 o,i64 a,i64 d,i64 (k:Int),u64 n]::L) (K (.func (.func 311) #[] #[ptr x1 0,ptr x2 0]))):G w0 L (ac 250 [ptr b 0,.agg #[i64 o,i64 a,i64 d,i64 (k:Int),u64 n]] K):=by
 refine BH ?_
 unfold rz
 refine G.box λx1=>?_
 refine G.box λx2=>?_
 exact(hK x1 x2).sub
def sX {t:Bool}(l:k<8)(q:x.af.length<=16)(r:U->Rg x) [dn [ob eY (b,vp) x,own x1 [ptr b 0],own x2 [i64 o,i64 a,i64 d,i64 (k:Int),u64 n]] L M]
  (hK:∀y e',UV U x y e e'->G w0 (ob eY (b,vp) y::own x1 [ptr b 0]::own x2 [i64 o,i64 a,i64 d,i64 (k:Int),u64 n]::M) (K (i64 e'))) :
  G w0 L (yL Tryz.prog (.func (.func 292) #[] #[ptr x1 0,ptr x2 0]) [.bool t,i64 e] K):=by
 refine G.ap (As:=[ob eY (b,vp) x,own x1 [ptr b 0],own x2 [i64 o,i64 a,i64 d,i64 (k:Int),u64 n]]) ?_
 simp only[Fn,GT]
 show G w0 _ (ac 292 [.bool t,i64 e,ptr x1 0,ptr x2 0] K)
 refine Bz ?_
 unfold qr
 by_cases f:e=0
 ·subst f
  refine G.aJ eY (b,vp) ?_
  rw[dw]
  intro i g j c h
  have m:LtK k 8:=⟨l⟩
  have p:vW (x.cells i g j vp c) (6+k) [u64 (xp t)] ((rR x k (xp t)).cells i g j vp c):=D3 (k:=k) l
  refine ar ?_
  refine Lr (xs:=x.af) q ?_
  by_cases z:x.af.length<16
  ·rw[Gt,zp z,decide_eq_true z]
   refine bi ?_
   refine yz (bx @jm ?_)
   refine aq b vp c { rR x k (xp t)with af:=x.af++[.truth t] } rfl h ?_
   exact(hK _ 0 (.add (k:=k) (y:=xp t) (z:=pT.truth t) z r (λ_=>abc) λ_=>trivial)).sub
  ·rw[Gt,zn z,decide_eq_false z]
   refine bi ?_
   refine aq b vp c x rfl h ?_
   exact(hK x 5 (.bp zd (.inr rfl))).sub
 ·refine bx f ?_
  exact(hK x e (.bp f (.inl rfl))).sub
def Cf {t:Bool}(m:k<8)(p:x.af.length<=16)(q:U->Rg x)(l:U->kY y) [dn [ob eY (b,vp) x,own x1 [ptr b 0],own x2 [i64 o,i64 a,i64 d,i64 (k:Int),u64 n]] L M]
  (hK:∀y e',UV U x y e e'->G w0 (ob eY (b,vp) y::own x1 [ptr b 0]::own x2 [i64 o,i64 a,i64 d,i64 (k:Int),u64 n]::M) (K (i64 e'))) :
  G w0 L (yL Tryz.prog (.func (.func 311) #[] #[ptr x1 0,ptr x2 0]) [u64 y,.bool t,i64 e] K):=by
 refine G.ap (As:=[ob eY (b,vp) x,own x1 [ptr b 0],own x2 [i64 o,i64 a,i64 d,i64 (k:Int),u64 n]]) ?_
 simp only[Fn,GT]
 show G w0 _ (ac 311 [u64 y,.bool t,i64 e,ptr x1 0,ptr x2 0] K)
 refine Ai ?_
 unfold pS
 by_cases f:e=0
 ·subst f
  refine G.aJ eY (b,vp) ?_
  rw[dw]
  intro j i g c h
  have r:LtK k 8:=⟨m⟩
  have s:vW (x.cells j i g vp c) (6+k) [u64 y] ((rR x k y).cells j i g vp c):=D3 (k:=k) m
  cases t
  ·refine bi ?_
   refine CD (xs:=x.af) p ?_
   by_cases z:x.af.length<16
   ·rw[Gt,zp z,decide_eq_true z]
    refine bx @jm ?_
    refine aq b vp c { rR x k y with af:=x.af++[.none] } rfl h ?_
    exact(hK _ 0 (.add (k:=k) (y:=y) (z:=pT.none) z q l λ_=>trivial)).sub
   ·rw[Gt,zn z,decide_eq_false z]
    refine bi ?_
    refine aq b vp c x rfl h ?_
    exact(hK x 5 (.bp zd (.inr rfl))).sub
  ·refine bi ?_
   refine DD (xs:=x.af) p ?_
   by_cases z:x.af.length<16
   ·rw[Gt,zp z,decide_eq_true z]
    refine bx @jm ?_
    refine aq b vp c { rR x k y with af:=x.af++[.num y] } rfl h ?_
    exact(hK _ 0 (.add (k:=k) (y:=y) (z:=pT.num y) z q l l)).sub
   ·rw[Gt,zn z,decide_eq_false z]
    refine bi ?_
    refine aq b vp c x rfl h ?_
    exact(hK x 5 (.bp zd (.inr rfl))).sub
 ·refine bx f ?_
  exact(hK x e (.bp f (.inl rfl))).sub
def RO (A:x.af.length<=16)(B:s.l.r.f.length<=100000)(w:Rg x/\Vg s->kY y)(hK:∀y t e',W6 x s y t e'->G w0 (ob eY (b,vp) y::ob bf vp t::M) (K (i64 e'))) :
  G w0 (ob eY (b,vp) x::ob bf vp s::M) (ac 253 [ptr b 0,i64 root,u64 y] K):=by
 refine Fg ?_
 unfold vB
 refine G.aJ eY (b,vp) ?_
 rw[dw]
 intro p o q d h
 refine ar ?_
 refine UC (U:=Rg x/\Vg s) B zbi w λt e j=>?_
 have k:∀{e':Int},e'=e\/e'=5->e'≠0->W6 x s x t e':=λg m=>(UV.bp m g).call j λa c=>⟨a,c⟩
 by_cases i:e=0
 ·subst i
  refine bi ?_
  refine CD (xs:=x.af) A ?_
  by_cases z:x.af.length<16
  ·rw[Gt,zp z,decide_eq_true z]
   refine bi ?_
   refine aq b vp d { x with af:=x.af++[.none] } rfl h ?_
   refine(hK { x with af:=x.af++[.none] } t 0 (.inl ⟨rfl,x.r,_,rfl,zs,by simp only[LE,gg];omega,j.vr.1,λu v=>⟨u.bb,λa n=>?_,j.vg ⟨u,v⟩⟩⟩)).sub
   rcases zar.1 n with g|g
   ·exact u.af a g
   ·rw[zaf.1 g];trivial
  ·rw[Gt,zn z,decide_eq_false z]
   refine bi ?_
   refine aq b vp d x rfl h ?_
   exact(hK x t 5 (k (.inr rfl) zd)).sub
 ·refine bx i ?_
  refine aq b vp d x rfl h ?_
  exact(hK x t e (k (.inl rfl) i)).sub
def Ri (I:k<=6)(m:OU x s 20)(F:x.af.length<=16)(H:s.l.r.f.length<=100000)(hK:∀y t e',W6 x s y t e'->G w0 (ob eY (b,vp) y::ob bf vp t::M) (K (i64 e'))) :
  G w0 (ob eY (b,vp) x::ob bf vp s::M) (ac 254 [ptr b 0,.agg #[i64 o,i64 a,i64 d,i64 (k:Int),u64 n],i64 root] K):=by
 refine DK ?_
 unfold ue
 refine G.box λq=>?_
 refine G.aJ eY (b,vp) ?_
 rw[dw]
 intro E D C j h
 refine ar ?_
 refine U6 (U:=Rg x/\Vg s) H zbi λt y p e i A=>?_
 have g:G w0 (ob eY (b,vp) x::own q [i64 o,i64 a,i64 d,i64 (k:Int),u64 n]::ob bf vp t::M) (ac 250 [ptr b 0,.agg #[i64 o,i64 a,i64 d,i64 (k:Int),u64 n]] λf=>yL Tryz.prog f [u64 y,.bool p,i64 e] K):=by
  refine JQ λx1 x2=>?_
  refine Cf (U:=Rg x/\Vg s) (x1:=x1) (x2:=x2) (b:=b) (vp:=vp) (o:=o) (a:=a) (d:=d) (n:=n) (x:=x) (k:=k) zo F zbx A λz e' B=>?_
  exact(hK z t e' (B.call i λa c=>⟨a,c⟩)).sub
 by_cases w:e=0
 ·subst w
  cases p
  ·refine bi ?_
   refine aq b vp j x rfl h ?_
   refine G.ap (As:=[ob eY (b,vp) x,ob bf vp t]) ?_
   simp only[Fn,GT]
   refine EC (x:=x) (s:=t) m.len m.af m.ei m.mt (ar ?_)
   exact(hK _ _ _ (.inr (.inr ⟨t,rfl,i.vr.1,λu v=>i.vg ⟨u,v⟩⟩))).sub
  ·refine bi ?_
   refine aq b vp j x rfl h ?_
   exact g.sub
 ·refine bx w ?_
  refine aq b vp j x rfl h ?_
  exact g.sub
def Rn (hi:1<=a/\a<=12)(S:k<=6)(T:OU x s 20)(B:x.af.length<=16)(C:s.l.r.f.length<=100000)(hK:∀y t e',W6 x s y t e'->G w0 (ob eY (b,vp) y::ob bf vp t::M) (K (i64 e'))) :
  G w0 (ob eY (b,vp) x::ob bf vp s::M) (ac 225 [ptr b 0,.agg #[i64 o,i64 a,i64 d,i64 (k:Int),u64 n]] K):=by
 refine EP ?_
 unfold uC
 refine G.box λq=>?_
 refine G.aJ eY (b,vp) ?_
 rw[dw]
 intro I H F w h
 have N:LtK k 8:=⟨zo⟩
 have R:LtK (k+1) 8:=⟨zo⟩
 have O:Sa (x.cells I H F vp w) (6+k) (u64 (x.r.get k)):=pB (k:=k) zo
 have P:Sa (x.cells I H F vp w) (6+(k+1)) (u64 (x.r.get (k+1))):=pB (k:=k+1) zo
 have A:IntKind.wrap .i64 ((k:Int)+1)=((k+1:Nat):Int):=fm zo
 have J:a=1\/a=2\/a=3\/a=4\/a=5\/a=6\/a=7\/a=8\/a=9\/a=10\/a=11\/a=12:=by omega
 rcases J with g|g|g|g|g|g|g|g|g|g|g|g
 all_goals subst g
 ·refine bx (an @jm A) ?_
  refine B5 λm j=>bi ?_
  refine Xp (U:=Rg x/\Vg s) C zbi (λu=>u.1.bb k) λt D e p=>bi ?_
  refine aq b vp w x rfl h ?_
  refine sX (U:=Rg x/\Vg s) (x1:=m) (x2:=j) (b:=b) (vp:=vp) (o:=o) (a:=1) (d:=d) (n:=n) (x:=x) (k:=k) zo B zbx λy e' i=>bi ?_
  exact(hK y t e' (i.call p λa c=>⟨a,c⟩)).sub
 ·refine bx (an @jm A) ?_
  refine B5 λm j=>bi ?_
  refine Yl (U:=Rg x/\Vg s) C zbi λt D e p=>bi ?_
  refine aq b vp w x rfl h ?_
  refine sX (U:=Rg x/\Vg s) (x1:=m) (x2:=j) (b:=b) (vp:=vp) (o:=o) (a:=2) (d:=d) (n:=n) (x:=x) (k:=k) zo B zbx λy e' i=>bi ?_
  exact(hK y t e' (i.call p λa c=>⟨a,c⟩)).sub
 ·refine bx (an @jm A) ?_
  refine B5 λm j=>bi ?_
  refine Xx (U:=Rg x/\Vg s) C zbi λt D e p=>bi ?_
  refine aq b vp w x rfl h ?_
  refine sX (U:=Rg x/\Vg s) (x1:=m) (x2:=j) (b:=b) (vp:=vp) (o:=o) (a:=3) (d:=d) (n:=n) (x:=x) (k:=k) zo B zbx λy e' i=>bi ?_
  exact(hK y t e' (i.call p λa c=>⟨a,c⟩)).sub
 ·refine bx (an @jm A) ?_
  refine B5 λm j=>bi ?_
  refine WJ (U:=Rg x/\Vg s) C zbi (λu=>u.1.bb k) (λu=>u.1.bb (k+1)) λt D e p=>bi ?_
  refine aq b vp w x rfl h ?_
  refine sX (U:=Rg x/\Vg s) (x1:=m) (x2:=j) (b:=b) (vp:=vp) (o:=o) (a:=4) (d:=d) (n:=n) (x:=x) (k:=k) zo B zbx λy e' i=>bi ?_
  exact(hK y t e' (i.call p λa c=>⟨a,c⟩)).sub
 ·refine bx (an @jm A) ?_
  refine JQ λm j=>bi ?_
  refine WT (U:=Rg x/\Vg s) C zbi λt z D e p E=>bi ?_
  refine aq b vp w x rfl h ?_
  refine Cf (U:=Rg x/\Vg s) (x1:=m) (x2:=j) (b:=b) (vp:=vp) (o:=o) (a:=5) (d:=d) (n:=n) (x:=x) (k:=k) zo B zbx E λy e' i=>bi ?_
  exact(hK y t e' (i.call p λa c=>⟨a,c⟩)).sub
 ·refine bx (an @jm A) ?_
  refine B5 λm j=>bi ?_
  refine Vo (U:=Rg x/\Vg s) C zbi λt D e p=>bi ?_
  refine aq b vp w x rfl h ?_
  refine sX (U:=Rg x/\Vg s) (x1:=m) (x2:=j) (b:=b) (vp:=vp) (o:=o) (a:=6) (d:=d) (n:=n) (x:=x) (k:=k) zo B zbx λy e' i=>bi ?_
  exact(hK y t e' (i.call p λa c=>⟨a,c⟩)).sub
 ·refine bx (an @jm A) ?_
  refine aq b vp w x rfl h ?_
  refine G.ap (As:=[ob eY (b,vp) x,ob bf vp s]) ?_
  simp only[Fn,GT]
  refine RO (x:=x) (s:=s) B C (λu=>u.1.bb k) λy t e' i=>?_
  exact(hK y t e' i).sub
 ·refine bx (an @jm A) ?_
  refine aq b vp w x rfl h ?_
  refine G.ap (As:=[ob eY (b,vp) x,ob bf vp s]) ?_
  simp only[Fn,GT]
  refine Ri (x:=x) (s:=s) S T B C λy t e' i=>?_
  exact(hK y t e' i).sub
 ·refine bx (an @jm A) ?_
  refine B5 λm j=>bi ?_
  refine XJ (U:=Rg x/\Vg s) C zbi (λu=>u.1.bb k) (λu=>u.1.bb (k+1)) λt D e p=>bi ?_
  refine aq b vp w x rfl h ?_
  refine sX (U:=Rg x/\Vg s) (x1:=m) (x2:=j) (b:=b) (vp:=vp) (o:=o) (a:=9) (d:=d) (n:=n) (x:=x) (k:=k) zo B zbx λy e' i=>bi ?_
  exact(hK y t e' (i.call p λa c=>⟨a,c⟩)).sub
 ·refine bx (an @jm A) ?_
  refine JQ λm j=>bi ?_
  refine YT (U:=Rg x/\Vg s) C zbi λt z D e p E=>bi ?_
  refine aq b vp w x rfl h ?_
  refine Cf (U:=Rg x/\Vg s) (x1:=m) (x2:=j) (b:=b) (vp:=vp) (o:=o) (a:=10) (d:=d) (n:=n) (x:=x) (k:=k) zo B zbx E λy e' i=>bi ?_
  exact(hK y t e' (i.call p λa c=>⟨a,c⟩)).sub
 ·refine bx (an @jm A) ?_
  refine B5 λm j=>bi ?_
  refine Ya (U:=Rg x/\Vg s) C zbi λt D e p=>bi ?_
  refine aq b vp w x rfl h ?_
  refine sX (U:=Rg x/\Vg s) (x1:=m) (x2:=j) (b:=b) (vp:=vp) (o:=o) (a:=11) (d:=d) (n:=n) (x:=x) (k:=k) zo B zbx λy e' i=>bi ?_
  exact(hK y t e' (i.call p λa c=>⟨a,c⟩)).sub
 ·refine bx (an @jm A) ?_
  refine TS (U:=Rg x/\Vg s) C zbi λt v Q e p L=>bi ?_
  refine JQ λm j=>bi ?_
  refine aq b vp w x rfl h ?_
  refine Cf (U:=Rg x/\Vg s) (x1:=m) (x2:=j) (b:=b) (vp:=vp) (o:=o) (a:=12) (d:=d) (n:=n) (x:=x) (k:=k) zo B zbx (λ_=>kZ) λy e' i=>bi ?_
  exact(hK y t e' (i.call p λa c=>⟨a,c⟩)).sub
end
def Ib:∀{ps:List ou}{x:ig}{s:iX},(kG x s ps).1.af.length<=x.af.length
 | [],_,_=>LT _
 |q::ps,x,s=>by
  rw[yZ]
  split
  ·split
   ·unfold mu;split<;>(simp only[zaC];omega)
   ·exact Ib
  ·exact LT _
abbrev xL (R:ig×iX×Int):Prop:=R.1.af.length<=16
def Yo (a:x.af.length<=16):xL (xP x s i):=by
 unfold xP
 refine cy (P:=xL) (λ_=>?_) λ_=>cy (P:=xL) (λ_=>?_) λ_=>cy (P:=xL) (λ_=>?_) λ_=>?_
 all_goals grind
def abX {o:Int}(a:x.af.length<=16):xL (DH x s o):=by
 unfold DH
 refine cy (P:=xL) (λ_=>?_) λ_=>cy (P:=xL) (λ_=>a) λ_=>cy (P:=xL) (λ_=>a) λ_=>cy (P:=xL) (λ_=>?_) λ_=>za5 Ib a
 all_goals grind
def Z6 (a:x.af.length<=16):(iDo x s i).1.af.length<=16:=by
 show xL _
 unfold iDo
 refine cy (P:=xL) (λ_=>a) λ_=>cy (P:=xL) (λ_=>a) λ_=>cy (P:=xL) (λ_=>a) λ_=>cy (P:=xL) (λ_=>a) λ_=>cy (P:=xL) (λ_=>a) λ_=>cy (P:=xL) (λ_=>a) λ_=>cy (P:=xL) (λ_=>a) λ_=>cy (P:=xL) (λ_=>a) λ_=>cy (P:=xL) (λ_=>?_) λ_=>cy (P:=xL) (λ_=>cy (P:=xL) (λg=>?_) λ_=>a) λ_=>cy (P:=xL) (λ_=>a) λ_=>cy (P:=xL) (λ_=>Yo a) λ_=>abX a
 all_goals grind
def ahQ (d:BJ i=true)(b:i.op=23):1<=i.a/\i.a<=12/\i.c<=6:=by
 unfold BJ yQ QP at d
 rw[b]at d
 grind
structure DoQ (x:ig)(s:iX)(i:co)(R:ig×iX×Int):Prop where
 fb:i.op≠23->R=iDo { x with next:=x.K+1 } s i
 c6:YF { x with next:=x.K+1 } s R
 a6:R.1.af.length<=16
 rg:Rg x->Vg s->kY i.n->Rg R.1/\Vg R.2.1
def TF (h:PP x s)(Z:x.K<x.prog.length)(P:x.O=0)(hK:∀R,DoQ x s x.bU R->G w0 (ob eY (b,vp) R.1::ob bf vp R.2.1::M) (K (i64 R.2.2))) :
  G w0 (ob eY (b,vp) { x with next:=x.K+1 }::ob bf vp s::M) (ac 195 [ptr b 0,.agg #[i64 x.bU.op,i64 x.bU.a,i64 x.bU.b,i64 x.bU.c,u64 x.bU.n]] K):=by
 obtain⟨V,Y,W,gf,T⟩:=h.dr Z
 have d:=h.a6
 by_cases e:x.bU.op=23
 ·have am:=h.K
  have hk:x.K.toNat<x.prog.length:=by omega
  have L:=(qE h.bad).e9 hk
  have L:BJ x.bU=true:=L
  have X:=ahQ L e
  have hT:=T 20 (.inr rfl)
  have l:x.bU=gd x.prog x.K.toNat:=rfl
  refine yg ?_
  unfold p8
  generalize hi:x.bU=i at *
  obtain⟨Q,ea⟩:=Ot V
  obtain⟨S,eb⟩:=Ot Y
  obtain⟨U,ec⟩:=Ot W
  have aB:JD (i.a.tmod 8) (m8 i.a):=⟨ea⟩
  have aA:JD (i.b.tmod 8) (m8 i.b):=⟨eb⟩
  have al:JD (i.c.tmod 8) (m8 i.c):=⟨ec⟩
  have ka:LtK (m8 i.a) 8:=⟨Q⟩
  have kb:LtK (m8 i.b) 8:=⟨S⟩
  have kc:LtK (m8 i.c) 8:=⟨U⟩
  refine G.box λq=>?_
  refine G.aJ eY (b,vp) ?_
  rw[dw]
  intro vl vm vo op h2
  have na:=pB (x:={ x with next:=x.K+1 }) (vl:=vl) (vm:=vm) (vo:=vo) (vp:=vp) (op:=op) Q
  have nb:=pB (x:={ x with next:=x.K+1 }) (vl:=vl) (vm:=vm) (vo:=vo) (vp:=vp) (op:=op) S
  have nc:=pB (x:={ x with next:=x.K+1 }) (vl:=vl) (vm:=vm) (vo:=vo) (vp:=vp) (op:=op) U
  have n1:¬i.op=1:=by omega
  have n2:¬i.op=2:=by omega
  have n3:¬i.op=3:=by omega
  have n4:¬i.op=4:=by omega
  have n5:¬i.op=5:=by omega
  have n6:¬i.op=6:=by omega
  have n7:¬i.op=7:=by omega
  have H:¬i.op=12:=by omega
  have F:¬i.op=13:=by omega
  have E:¬i.op=21:=by omega
  have I:¬i.op=22:=by omega
  refine bx (an @jm (an n1 (an n2 (an n3 (an n4 (an n5 (an n6 (an n7 (an H (an F (an E (an I (eq_true e))))))))))))) ?_
  refine aq b vp op { x with next:=x.K+1 } rfl h2 ?_
  refine G.ap (As:=[ob eY (b,vp) { x with next:=x.K+1 },ob bf vp s]) ?_
  simp only[Fn,GT]
  rw[show i.c=((i.c.toNat:Nat):Int) by omega]
  refine Rn (x:={ x with next:=x.K+1 }) (s:=s) ⟨X.1,X.2.1⟩ zo hT d zo λy t e' J=>?_
  have D:=h.next
  refine(hK (y,t,e') ⟨λg=>absurd e g,?_,?_,λu v _=>?_⟩).sub
  ·rcases J with⟨rfl,r,k,rfl,C,B,f,_⟩|⟨N,rfl,f,_⟩|⟨o,m,f,_⟩
   ·exact YF.c0 (z:={ x with next:=x.K+1,r:=r,af:=k }) h Z P (by rw[<-l];unfold gq fk;simp[e]) rfl rfl rfl rfl rfl rfl ⟨C,B⟩ rfl (.of f zd) zd
   ·exact .bn f N
   ·rw[m]
    have j:=Qc (x:={ x with next:=x.K+1 }) (x0:={ x with next:=x.K+1 }) D ⟨rfl,rfl,rfl,rfl,P,P,rfl⟩ (ps:=x.op) (t:=o) (zcl _) f
    exact⟨⟨j.1,λg=>absurd g j.2.1⟩,j.2.2.1,λg g2=>by have:=(j.2.2.2 g).1 g2;exact⟨this.prog,this.mt,this.bad,this.left,this.O,this.nx,this.dc,this.b8,this.told,this.b6,this.a6⟩,λg=>(j.2.2.2 g).2,λg=>absurd g j.2.1⟩
  ·rcases J with⟨rfl,r,k,rfl,C,B,f,_⟩|⟨N,rfl,f,_⟩|⟨o,m,f,_⟩
   ·exact B
   ·exact d
   ·have:=@Ib x.op { x with next:=x.K+1 } o
    have e2:y=(kG { x with next:=x.K+1 } o x.op).1:=congrArg (·.1) m
    rw[e2]
    exact za5 this d
  ·have A:Rg { x with next:=x.K+1 }:=⟨u.bb,u.b8,u.af,u.prog⟩
   rcases J with⟨rfl,r,k,rfl,C,B,f,p⟩|⟨N,rfl,f,p⟩|⟨o,m,f,p⟩
   ·obtain⟨q1,q2,q3⟩:=p A v
    exact⟨⟨q1,u.b8,q2,u.prog⟩,q3⟩
   ·exact⟨A,p A v⟩
   ·have j:=Rg.dO (ps:=x.op) A (p A v) u.b8
    rw[<-m]at j
    exact j
 ·refine W9 (x:={ x with next:=x.K+1 }) (s:=s) (i:=x.bU) ⟨V,Y,W,e,d,gf,T _ (.inl rfl)⟩ ?_
  exact hK _ ⟨λ_=>rfl,ahn h Z P e,Z6 d,λu v w=>Rg.c6 (x:={ x with next:=x.K+1 }) ⟨u.bb,u.b8,u.af,u.prog⟩ v w⟩
end
def Ia (l:ey):Bool:=if l.held then decide (l.D<4611686018427387904)&&(decide (0<=l.ar)&&decide (l.ar<4))else decide (l.D<4611686018427387904)&&decide (l.ar=0)
def aa:ey:=⟨0,false,0⟩
def nk (i:Int)(n:Nat):Bool:=decide (0<=i)&&decide (i<n)
def O5 {i:Int}{n:Nat}(h:nk i n=true):∃k:Nat,i=k/\k<n:=by
 simp[nk]at h
 exact⟨i.toNat,zo,zo⟩
def ie (a n wide:Int):Int:=if a<0 then -1 else(IntKind.wrap .i64 (a.tdiv (held wide 1 16))).tmod (held n 1 16)
def tN (ls:List ey)(i:Int):ey×Int:=if nk i ls.length then(ls.getD i.toNat aa,0)else(aa,2)
def nG (ls:List ey)(i:Int)(l:ey):Int:=if nk i ls.length then(if Ia l then 0 else 1)else 2
def pw (ls:List ey)(i:Int)(was l:ey):List ey×Bool×Int :=
 if nG ls i l=0 then(if ls.getD i.toNat aa=was then(ls.set i.toNat l,true,0)else(ls,false,0))else(ls,false,nG ls i l)
def mw (ls:List ey)(i:Int)(l:ey):List ey×Int:=if nG ls i l=0 then(ls.set i.toNat l,0)else(ls,nG ls i l)
def M7 {ls:List ey}{i:Int}{l:ey}(h:nG ls i l=0):∃k:Nat,i=k/\k<ls.length/\Ia l=true:=by
 unfold nG at h
 split at h
 ·rename_i a
  obtain⟨k,rfl,b⟩:=O5 a
  split at h
  ·exact⟨k,rfl,b,by assumption⟩
  ·omega
 ·omega
def tx (b:Nat)(s:List ey×Int):bg:=pz λv=>cj (kx (ax v [v])) (cj (own b [v,i64 s.2]) (sl rE v s.1))
def R3 {ls:List ey}{k:Nat}(h:k<ls.length):ls.getD k aa=ls[k]:=by simp[h]
section
variable {w0:bz}{L M:List bg}{K:KV}{F:World->Prop}{C:bg->List bg}{b:Nat}{ls:List ey}{wide:Int}
def kS:G w0 (ob tx b (ls,wide)::M) F=∀v,ax v [v]->G w0 (own b [v,i64 wide]::sl rE v ls::M) F:=by
 rw[iw,tx]
 simp only[pM,im,jk]
def VO {o:Int}(hK:G w0 L (K (.bool (decide (0<=o)&&decide (o<4))))):G w0 L (ac 186 [i64 o] K):=by
 refine VG ?_
 unfold Mn
 refine mK ?_
 refine ar ?_
 exact hK
def aa_ {v o:Int}{h:Bool}(hK:G w0 L (K (.bool (Ia ⟨v,h,o⟩)))):G w0 L (ac 161 [.agg #[u64 v,.bool h,i64 o]] K):=by
 refine ab1 ?_
 unfold ST
 refine mK ?_
 refine G.box λp=>ar ?_
 cases h
 ·refine ar ?_
  refine G.all (decide (o=0)) (λ_ K hK=>by refine ar ?_;exact hK) ?_
  exact hK.sub
 ·refine ar ?_
  refine G.all (decide (0<=o)&&decide (o<4)) (λ_ K hK=>?_) ?_
  ·refine ar ?_
   exact VO hK
  ·exact hK.sub
def aa0 {n:Int}:(if(if(16:Int)<n then(16:Int)else n) > 1 then(if(16:Int)<n then(16:Int)else n)else 1)=held n 1 16:=by
 unfold held;split<;>split<;>(try split)<;>(try split)<;>omega
def pA {n:Int}(hK:G w0 L (K (i64 (held n 1 16)))):G w0 L (ac 96 [i64 n,i64 16] K):=by
 refine Rc ?_
 unfold GL
 refine ar ?_
 rw[aa0]
 exact hK
theorem ZJ (n:Int):YB (held n 1 16):=⟨by have:=jp (n:=n) (show(1:Int)<=16 by omega);omega⟩
def M8 {a n d:Int}(hK:G w0 L (K (i64 (ie a n d)))):G w0 L (ac 171 [i64 a,i64 n,i64 d] K):=by
 refine Ws ?_
 unfold Na
 unfold ie at hK
 have c:=ZJ d
 have b:=ZJ n
 refine ar ?_
 refine G.cond (λh=>?_) (λh=>?_)
 ·rw[zp (by simpa using h)]at hK
  exact hK
 ·rw[zn (by simpa using h)]at hK
  refine G.drew ?_
  refine pA (ar ?_)
  refine pA (ar ?_)
  exact hK
def Th {n e:Int}(hK:∀b,G w0 (ob tx b (List.replicate (held n 1 16).toNat aa,held e 1 16)::L) (K (ptr b 0))):G w0 L (ac 67 [i64 n,i64 e] K):=by
 refine TO ?_
 unfold Kx
 have d:=jp (n:=n) (show(1:Int)<=16 by omega)
 have c:i64 (held n 1 16)=i64 ((held n 1 16).toNat:Nat):=by rw[Int.toNat_of_nonneg zo]
 refine G.drew ?_
 refine pA (ca c ?_)
 refine⟨?_,?_⟩
 ·refine G.make rE aa rfl (by simp only[maxLen];omega) zo λv a=>ar ?_
  refine pA (ar ?_)
  refine G.box λb=>ar ?_
  have:=hK b
  rw[kS]at this
  exact this v a
 ·refine pA (ar ?_)
  refine G.make rE aa rfl (by simp only[maxLen];omega) zo λv a=>ar ?_
  refine G.box λb=>ar ?_
  have:=hK b
  rw[kS]at this
  exact this v a
def zR {n:Int}[i:ae L tx b (ls,wide) C](hK:G w0 L (K (.bool (nk n ls.length)))):G w0 L (ac 135 [ptr b 0,i64 n] K):=by
 refine i.ro (λM hK=>?_) hK
 rw[kS]at *
 intro v a
 refine Jc ?_
 unfold zb
 refine mK ?_
 refine ar ?_
 refine G.all (decide (n<ls.length)) (λ_ K hK=>by refine ar ?_;exact hK) ?_
 exact hK v a
def GA {n:Int}[i:ae L tx b (ls,wide) C](hK:G w0 L (K (.tuple #[.agg #[u64 (tN ls n).1.D,.bool (tN ls n).1.held,i64 (tN ls n).1.ar],i64 (tN ls n).2]))):G w0 L (ac 99 [ptr b 0,i64 n] K):=by
 refine i.ro (λM hK=>?_) hK
 refine Gh ?_
 unfold v8
 refine G.new λp=>?_
 refine zR (ls:=ls) ?_
 unfold tN at hK
 cases a:nk n ls.length
 ·rw[a]at hK
  refine ar ?_
  exact hK.sub
 ·rw[a]at hK
  obtain⟨k,rfl,c⟩:=O5 a
  simp only[if_true,Int.toNat_natCast,R3 c]at hK
  rw[kS]at hK
  refine ar ?_
  rw[jc,kS]
  intro v d
  have e:=dm c
  refine ar ?_
  exact(hK v d).sub
def xR {n v o:Int}{h:Bool}[i:ae L tx b (ls,wide) C](hK:G w0 L (K (i64 (nG ls n ⟨v,h,o⟩)))):G w0 L (ac 136 [ptr b 0,i64 n,.agg #[u64 v,.bool h,i64 o]] K):=by
 refine i.ro (λM hK=>?_) hK
 refine Ii ?_
 unfold xS
 refine G.box λp=>?_
 refine zR (ls:=ls) ?_
 unfold nG at hK
 cases c:nk n ls.length
 ·rw[c]at hK
  refine ar ?_
  exact hK.sub
 ·rw[c]at hK
  refine ar ?_
  refine aa_ ?_
  cases a:Ia ⟨v,h,o⟩
  ·rw[a]at hK
   refine ar ?_
   exact hK.sub
  ·rw[a]at hK
   refine ar ?_
   exact hK.sub
def IM {n v o l j:Int}{h m:Bool}[i:ae L tx b (ls,wide) C]
  (hK:G w0 (C (ob tx b ((pw ls n ⟨v,h,o⟩ ⟨l,m,j⟩).1,wide))) (K (.tuple #[.bool (pw ls n ⟨v,h,o⟩ ⟨l,m,j⟩).2.1,i64 (pw ls n ⟨v,h,o⟩ ⟨l,m,j⟩).2.2]))) :
  G w0 L (ac 100 [ptr b 0,i64 n,.agg #[u64 v,.bool h,i64 o],.agg #[u64 l,.bool m,i64 j]] K):=by
 refine i.bi (λM hK=>?_) hK
 refine IP ?_
 unfold yb
 refine G.box λp=>?_
 refine G.box λg=>ar ?_
 refine xR (ls:=ls) ?_
 unfold pw at hK
 by_cases a:nG ls n ⟨l,m,j⟩=0
 ·obtain⟨k,rfl,d,_⟩:=M7 a
  simp only[a,if_true,Int.toNat_natCast,R3 d]at hK
  refine ca a ?_
  rw[Pi,kS]
  intro u f
  have e:=dm d
  refine G.drew ?_
  simp only[↓RG,RP,RB,zac,Int.reduceEq,Int.reduceLT,Int.reduceLE,Nat.reduceEqDiff,ey.cN ls[k] ⟨v,h,o⟩]
  by_cases c:ls[k]=⟨v,h,o⟩
  ·simp only[c,if_true]at hK
   rw[kS]at hK
   refine ca c ?_
   refine G.drew (ar ?_)
   exact(hK u f).sub
  ·simp only[c,if_false]at hK
   rw[kS]at hK
   refine ca c ?_
   exact(hK u f).sub
 ·simp only[a,if_false]at hK
  refine ca a ?_
  exact hK.sub
def DI {n v o:Int}{h:Bool}[i:ae L tx b (ls,wide) C]
  (hK:G w0 (C (ob tx b ((mw ls n ⟨v,h,o⟩).1,wide))) (K (i64 (mw ls n ⟨v,h,o⟩).2))) :
  G w0 L (ac 101 [ptr b 0,i64 n,.agg #[u64 v,.bool h,i64 o]] K):=by
 refine i.bi (λM hK=>?_) hK
 refine EI ?_
 unfold uz
 refine G.box λp=>ar ?_
 refine xR (ls:=ls) ?_
 unfold mw at hK
 refine ar ?_
 refine G.aU ?_
 by_cases a:nG ls n ⟨v,h,o⟩=0
 ·obtain⟨k,rfl,c,_⟩:=M7 a
  simp only[a,if_true,Int.toNat_natCast]at hK
  rw[kS]at hK
  refine ca a ?_
  rw[jc,kS]
  intro u d
  have e:=dm c
  refine G.drew (ar ?_)
  exact(hK u d).sub
 ·simp only[a,if_false]at hK
  refine ca a ?_
  exact hK.sub
end
def lg (n:Int)(xs:List Int):Bool:=decide (1<=n)&&decide (n<xs.length)
def Nj {n:Int}{xs:List Int}(h:lg n xs=true):∃k:Nat,n=k/\1<=k/\k<xs.length:=by
 simp[lg]at h
 exact⟨n.toNat,zo,zo,zo⟩
section
variable {w0:bz}{L M:List bg}{K:KV}{F:World->Prop}{C:bg->List bg}{b:Nat}{xs:List Int}
def Yf {n:Int}(hK:∀b,G w0 (ob mP b (List.replicate (held n 32 256).toNat 0)::L) (K (ptr b 0))):G w0 L (ac 66 [i64 n] K):=by
 refine Yr ?_
 unfold QN
 refine ar ?_
 have a:(if(if(256:Int)<n then(256:Int)else n) > 32 then(if(256:Int)<n then(256:Int)else n)else 32)=((held n 32 256).toNat:Int):=by
  unfold held;split<;>split<;>split<;>(try split)<;>omega
 have d:=jp (n:=n) (show(32:Int)<=256 by omega)
 rw[a]
 refine G.make i9 0 rfl (by simp only[maxLen];omega) zo λv c=>ar ?_
 refine G.box λb=>?_
 have:=hK b
 rw[kT]at this
 exact this v c
def NU [i:ae L mP b xs C](d:xs.length<=1000000)(hK:∀u,ax u [u]->G w0 (sl i9 u xs::L) (K u)):G w0 L (ac 74 [ptr b 0] K):=by
 refine i.cb (λM hK=>?_) hK
 rw[kT]
 intro v a
 refine Nv ?_
 unfold CH
 refine ar ?_
 refine vR d λu c=>?_
 have:=hK u c
 rw[jc,kT]at this
 exact G.sub (this v a)
def Ft {n:Int}[i:ae L mP b xs C](hK:G w0 L (K (.bool (lg n xs)))):G w0 L (ac 134 [ptr b 0,i64 n] K):=by
 refine i.ro (λM hK=>?_) hK
 rw[kT]at *
 intro v a
 refine OA ?_
 unfold Ee
 refine mK ?_
 refine ar ?_
 refine G.all (decide (n<xs.length)) (λ_ K hK=>by refine ar ?_;exact hK) ?_
 exact hK v a
def L3 {n:Int}[i:ae L mP b xs C](f:∀k:Nat,n=k->1<=k->k<xs.length->G w0 L (K (.tuple #[u64 (xs.getD k 0),i64 0])))(h0:lg n xs=false->G w0 L (K (.tuple #[u64 0,i64 2]))) :
  G w0 L (ac 97 [ptr b 0,i64 n] K):=by
 refine LN ?_
 unfold Bo
 refine Ft (ar ?_)
 refine G.cond (λh=>?_) (λh=>?_)
 ·exact h0 (by simpa using h)
 ·obtain⟨k,rfl,c,a⟩:=Nj (by simpa using h)
  refine i.ro (λM hK=>?_) (f k rfl c a)
  rw[kT]at *
  intro v d
  have e:=dm a
  refine ar ?_
  have:=hK v d
  simpa[a]using this
def Jy {n x:Int}[i:ae L mP b xs C](f:∀k:Nat,n=k->1<=k->k<xs.length->G w0 (C (ob mP b (xs.set k x))) (K (i64 0)))(h0:lg n xs=false->G w0 L (K (i64 2))) :
  G w0 L (ac 98 [ptr b 0,i64 n,u64 x] K):=by
 refine K5 ?_
 unfold zK
 refine Ft (ar ?_)
 refine G.cond (λh=>?_) (λh=>?_)
 ·exact h0 (by simpa using h)
 ·obtain⟨k,rfl,a,c⟩:=Nj (by simpa using h)
  refine i.bi (λM hK=>?_) (f k rfl a c)
  rw[kT]at *
  intro v d
  have e:=dm c
  refine ar ?_
  exact hK v d
end
end Go.Proofs.YtoealglbimbbmaaGreatDoor.S
namespace Go.Proofs.YtoealglbimbbmaaGreatDoor.S
open Go Go.Proofs
def iU (xs:List Int)(t:Int):Bool:=xs.all λv=>!(!decide (v=0)&&decide (v<=t))
section
variable {w0:bz}{L M:List bg}{K:KV}{F:World->Prop}{C:bg->List bg}{b:Nat}{xs:List Int}
def PS {v:Value}{t:Int}[r:Rd w0 L v i9 1 xs](f:xs.length<=1000000)(hK:G w0 L (K (.bool (iU xs t)))):G w0 L (ac 184 [v,u64 t] K):=by
 refine Qi ?_
 unfold D7
 refine mK ?_
 refine ar ?_
 refine G.du (λk:Nat=>i64 k) (λk=>k<=xs.length/\iU xs t=iU (xs.drop k) t) (λk=>xs.length-k) 0 rfl ⟨zo,zs⟩ ?_
 rintro k ⟨d,b⟩ J hJ
 refine ar ?_
 refine G.cond (λh=>?_) (λh=>?_)
 ·have a:k<xs.length:=by simpa using h
  have e:=dm a
  have c:=zav a
  refine ar ?_
  refine G.cond (λh=>?_) (λh=>?_)
  ·have:iU xs t=false:=by rw[b,c];simp only[iU,List.all_cons,h,zbj,zbQ]
   rwa [this]at hK
  ·rw[fm zo]
   exact hJ (k+1) ⟨zo,by rw[b,c];simp only[iU,List.all_cons,h,zbA,za6]⟩ zo
 ·have:xs.drop k=[]:=zaB (by simpa using h)
  rw[b,this]at hK
  exact hK
def Xb {n:Int}(hK:∀b,G w0 (ob mP b (List.replicate (held n 1 4).toNat 0)::L) (K (ptr b 0))):G w0 L (ac 69 [i64 n] K):=by
 refine WN ?_
 unfold Mz
 refine ar ?_
 have a:(if(if(4:Int)<n then(4:Int)else n) > 1 then(if(4:Int)<n then(4:Int)else n)else 1)=((held n 1 4).toNat:Int):=by
  unfold held;split<;>split<;>split<;>(try split)<;>omega
 have d:=jp (n:=n) (show(1:Int)<=4 by omega)
 rw[a]
 refine G.make i9 0 rfl (by simp only[maxLen];omega) zo λv c=>ar ?_
 refine G.box λb=>?_
 have:=hK b
 rw[kT]at this
 exact this v c
def AU {n:Int}[i:ae L mP b xs C](hK:G w0 L (K (.bool (decide (0<=n)&&decide (n<xs.length))))):G w0 L (ac 137 [ptr b 0,i64 n] K):=by
 refine i.ro (λM hK=>?_) hK
 rw[kT]at *
 intro v a
 refine La ?_
 unfold AJ
 refine mK ?_
 refine ar ?_
 refine G.all (decide (n<xs.length)) (λ_ K hK=>by refine ar ?_;exact hK) ?_
 exact hK v a
def Hh (n:Int)(xs:List Int):Bool:=decide (0<=n)&&decide (n<xs.length)
def OW {n:Int}{xs:List Int}(h:Hh n xs=true):∃k:Nat,n=k/\k<xs.length:=by
 simp[Hh]at h
 exact⟨n.toNat,zo,zo⟩
def IA {n:Int}[i:ae L mP b xs C](d:∀k:Nat,n=k->k<xs.length->G w0 L (K (.tuple #[u64 (xs.getD k 0),i64 0])))(h0:Hh n xs=false->G w0 L (K (.tuple #[u64 0,i64 2]))) :
  G w0 L (ac 103 [ptr b 0,i64 n] K):=by
 refine Iz ?_
 unfold yD
 refine AU (ar ?_)
 refine G.cond (λh=>?_) (λh=>?_)
 ·exact h0 (by simpa[Hh,zcf]using h)
 ·obtain⟨k,rfl,a⟩:=OW (by simpa[Hh]using h)
  refine i.ro (λM hK=>?_) (d k rfl a)
  rw[kT]at *
  intro v c
  have e:=dm a
  refine ar ?_
  have:=hK v c
  simpa[a]using this
def GH {n x:Int}[i:ae L mP b xs C](d:∀k:Nat,n=k->k<xs.length->G w0 (C (ob mP b (xs.set k x))) (K (i64 0)))(h0:Hh n xs=false->G w0 L (K (i64 2))) :
  G w0 L (ac 104 [ptr b 0,i64 n,u64 x] K):=by
 refine GF ?_
 unfold wg
 refine AU (ar ?_)
 refine G.cond (λh=>?_) (λh=>?_)
 ·exact h0 (by simpa[Hh,zcf]using h)
 ·obtain⟨k,rfl,a⟩:=OW (by simpa[Hh]using h)
  refine i.bi (λM hK=>?_) (d k rfl a)
  rw[kT]at *
  intro v c
  have e:=dm a
  refine ar ?_
  exact hK v c
end
end Go.Proofs.YtoealglbimbbmaaGreatDoor.S
namespace Go.Proofs.YtoealglbimbbmaaGreatDoor.S
open Go Go.Proofs
section
variable {w0:bz}{L M:List bg}{K:KV}{F:World->Prop}{C:bg->List bg}{b:Nat}{xs:List rM}
def VN (hK:∀b,G w0 (ob (pf dz) b []::L) (K (ptr b 0))):G w0 L (ac 71 [] K):=by
 refine WA ?_
 unfold MH
 refine ar ?_
 refine G.a3 dz ?_
 refine G.box λb=>?_
 have:=hK b
 rw[jd]at this
 exact this _ bj
def JU [i:ae L (pf dz) b xs C](hK:G w0 L (K (i64 xs.length))):G w0 L (ac 153 [ptr b 0] K):=by
 refine i.ro (λM hK=>?_) hK
 rw[jd]at *
 intro v a
 refine Jd ?_
 unfold zQ
 refine ar ?_
 exact hK v a
def yU {v:Value}{bs:List Int}{t:Int}[i:ae L (pf dz) b xs C][r:∀A,Rd w0 (C A) v bq 1 bs](p:xs.length+bs.length<=1000000)
  (hK:G w0 (C (ob (pf dz) b (xs++bs.map λn=>⟨n,t⟩))) (K (.tuple #[]))):G w0 L (ac 117 [ptr b 0,u64 t,v] K):=by
 refine i.d5 (λM d hK=>?_) hK
 have m:=Rd.dp d r
 refine KX ?_
 unfold yT
 refine ar ?_
 refine G.a8 (λk:Nat=>i64 k) (λk=>ob (pf dz) b (xs++(bs.take k).map λn=>⟨n,t⟩)::M) (λk=>k<=bs.length) (λk=>bs.length-k) 0 rfl zs zs ?_
 intro k l J f
 refine ar ?_
 refine G.cond (λh=>?_) (λh=>?_)
 ·have a:k<bs.length:=by simpa using h
  have e:=dm a
  rw[jd]
  intro u o
  refine ar ?_
  refine G.bM rfl rfl zd (by simp;omega) (by simp[maxLen];omega) λg c=>ar ?_
  rw[fm zo]
  have:=f (k+1) a zo
  rw[jd]at this
  have j:xs++(bs.take (k+1)).map (λn=>(⟨n,t⟩:rM))=xs++(bs.take k).map (λn=>(⟨n,t⟩:rM))++[⟨bs[k],t⟩]:=by
   rw[zaV,dg a,zal,<-zaG];rfl
  rw[j]at this
  exact this g c
 ·have:bs.take k=bs:=zat (by simpa using h)
  rw[this]
  exact hK
def Mr {α:Type}(p:α->Bool)(xs:List α)(k:Nat)(h:k<xs.length):(xs.take (k+1)).filter p=if p xs[k]=true then(xs.take k).filter p++[xs[k]]else(xs.take k).filter p:=by
 rw[zaV,dg h,zcJ]
 cases a:p xs[k]<;>simp[a]
def Ez {α:Type}(p:α->Bool)(xs:List α)(k:Nat):((xs.take k).filter p).length<=xs.length:=by
 have a:=zb0 p (xs.take k)
 grind
def HK {N:Value}{ss:List Int}[i:ae L (pf dz) b xs C][r:∀A,Rd w0 (C A) N i9 1 ss](F:xs.length<=100000)(H:ss.length<=100000)
  (hK:∀u,ax u [u]->G w0 (sl dz u (xs.filter λx=>iU ss x.I)::C (ob (pf dz) b (xs.filter λx=>!iU ss x.I))) (K u)):G w0 L (ac 154 [ptr b 0,N] K):=by
 refine i.eY (λM q hK=>?_) hK
 have D:=Rd.dp q r
 refine HY ?_
 unfold xg
 rw[jd]
 intro v B
 refine ar ?_
 refine G.a3 dz ?_
 refine G.a3 dz ?_
 refine G.et (σ:=Value×Value×Nat) (λs=>s.1) (λs=>s.2.1) (λs=>i64 s.2.2) (λs=>sl dz s.1 ((xs.take s.2.2).filter λx=>iU ss x.I)::sl dz s.2.1 ((xs.take s.2.2).filter λx=>!iU ss x.I)::own b [v]::sl dz v xs::M)
  (λs=>s.2.2<=xs.length/\ax s.1 [s.1]/\ax s.2.1 [s.2.1]) (λs=>xs.length-s.2.2) (_,_,0) rfl rfl rfl zs ⟨zs,bj,bj⟩ ?_
 rintro⟨u,n,k⟩ ⟨t,m,c⟩ J hJ
 simp only at t m c hJ ⊢
 refine ar ?_
 refine G.cond (λh=>?_) (λh=>?_)
 ·have a:k<xs.length:=by simpa using h
  have e:=dm a
  have z:=Ez (λx=>iU ss x.I) xs k
  have w:=Ez (λx=>!iU ss x.I) xs k
  have j:=Mr (λx=>iU ss x.I) xs k a
  have g:=Mr (λx=>!iU ss x.I) xs k a
  refine ar ?_
  refine G.new λp=>ar ?_
  refine PS (xs:=ss) zo (ar ?_)
  refine G.ea (σ:=Value×Value) (λs=>s.1) (λs=>s.2) (λs=>sl dz s.1 ((xs.take (k+1)).filter λx=>iU ss x.I)::sl dz s.2 ((xs.take (k+1)).filter λx=>!iU ss x.I)::own b [v]::sl dz v xs::M) (λs=>ax s.1 [s.1]/\ax s.2 [s.2]) ?_ (λE d=>?_)
  ·rintro⟨y,o⟩ ⟨f,l⟩
   refine ar ?_
   rw[fm zo]
   exact hJ (y,o,k+1) ⟨a,f,l⟩ (by simp;omega)
  ·refine G.cond (λh=>?_) (λh=>?_)
   ·simp only[h,if_true,zbj,Or,if_false]at j g
    refine ar ?_
    refine G.bM rfl rfl zd zo (by simp only[maxLen];omega) λy f=>?_
    have:=d (y,n) ⟨f,c⟩
    rw[j,g]at this
    exact this.sub
   ·simp only[h,if_true,zbA,Or,if_false]at j g
    refine ar ?_
    refine G.bM rfl rfl zd zo (by simp only[maxLen];omega) λy f=>?_
    have:=d (u,y) ⟨m,f⟩
    rw[j,g]at this
    exact this.sub
 ·have:xs.take k=xs:=zat (by simpa using h)
  rw[this]
  refine ar ?_
  have:=hK u m
  rw[jc,jd]at this
  exact(this n c).sub
end
structure eO where
 bf:rH
 w:List Int
 l:List ey
 n:Int
 s:List Int
 aT:Int
def l9:ii:=⟨0,aa,false,0⟩
def vK (e:Int):ii:=⟨0,aa,false,e⟩
def bv (m:eO)(o:vV):eO×ii :=
 if o.aN=1 then(if lg o.J m.w then(m,⟨m.w.getD o.J.toNat 0,aa,false,0⟩)else(m,vK 2))
 else if o.aN=2 then(if lg o.J m.w then({ m with w:=m.w.set o.J.toNat o.word },l9)else(m,vK 2))
 else if o.aN=3 then(m,⟨0,(tN m.l o.J).1,false,(tN m.l o.J).2⟩)
 else if o.aN=4 then({ m with l:=(pw m.l o.J o.was o.ac).1 },⟨0,aa,(pw m.l o.J o.was o.ac).2.1,(pw m.l o.J o.was o.ac).2.2⟩)
 else if o.aN=5 then({ m with l:=(mw m.l o.J o.ac).1 },⟨0,aa,false,(mw m.l o.J o.ac).2⟩)
 else if o.aN=6 then(m,⟨m.n,aa,false,0⟩)
 else if o.aN=7 then(if o.word<=o.bT then(m,vK 1)else if 4611686018427387904<=o.word then(m,vK 7)else if m.n=o.bT then({ m with n:=o.word },⟨0,aa,true,0⟩)else(m,l9))
 else if o.aN=8 then(if nk o.J m.s.length then(m,⟨m.s.getD o.J.toNat 0,aa,false,0⟩)else(m,vK 2))
 else if o.aN=9 then(if nk o.J m.s.length then({ m with s:=m.s.set o.J.toNat o.word },l9)else(m,vK 2))
 else(m,vK 1)
def ag (m:eO)(o:vV):eO×ii :=
 if(bv m o).2.aV=0 then({ (bv m o).1 with aT:=IntKind.wrap .i64 ((bv m o).1.aT+1) },(bv m o).2)else bv m o
def jR (s:rH):rH:=⟨held s.a0 32 256,held s.F 1 16,held s.wide 1 16,held s.aB 1 4,if 4611686018427387904<=s.start then 4611686018427387903 else s.start⟩
def qK (s:rH):eO:=⟨jR s,List.replicate (held s.a0 32 256).toNat 0,List.replicate (held s.F 1 16).toNat aa,(jR s).start,List.replicate (held s.aB 1 4).toNat 0,0⟩
structure FJ (m m':eO):Prop where
 w:m'.w.length=m.w.length
 l:m'.l.length=m.l.length
 s:m'.s.length=m.s.length
 bf:m'.bf=m.bf
def FJ.refl (m:eO):FJ m m:=⟨rfl,rfl,rfl,rfl⟩
def FJ.trans {a b c:eO}(h:FJ a b)(h':FJ b c):FJ a c:=⟨h'.w.trans h.w,h'.l.trans h.l,h'.s.trans h.s,h'.bf.trans h.bf⟩
def akL (b:Nat)(m:eO):bg:=pz λvw=>pz λvl=>pz λvs=>cj (kx (ax vw [vw]/\ax vl [vl]/\ax vs [vs]))
 (cj (cj (cj (own b [i64 m.bf.a0,i64 m.bf.F,i64 m.bf.wide,i64 m.bf.aB,u64 m.bf.start,vw,vl,u64 m.n,vs,i64 m.aT]) (sl i9 vw m.w)) (sl rE vl m.l)) (sl i9 vs m.s))
section
variable {w0:bz}{L M:List bg}{K:KV}{F:World->Prop}{C:bg->List bg}{b:Nat}{m:eO}{o:vV}
end
end Go.Proofs.YtoealglbimbbmaaGreatDoor.S
namespace Go.Proofs.YtoealglbimbbmaaGreatDoor.S
open Go Go.Proofs
def jF (b:Nat)(s:Int×List jz):bg:=pz λv=>cj (kx (ax v [v])) (cj (own b [i64 s.1,v]) (sl lh v s.2))
def nY (xs:List jz)(k:Int):Option Int:=(xs.find? λx=>decide (x.N=k)).map (·.D)
def rK (m:Int)(xs:List jz)(x:jz):Int :=
 if x.N<0\/16<=x.N\/4611686018427387904<=x.D then 1 else
 match nY xs x.N with
 |some v=>if v=x.D then 0 else 14
 |none=>if(xs.length:Int)=m then 5 else 0
def oF (m:Int)(xs:List jz)(x:jz):List jz :=
 if x.N<0\/16<=x.N\/4611686018427387904<=x.D then xs else
 match nY xs x.N with
 |some _=>xs
 |none=>if(xs.length:Int)=m then xs else xs++[x]
def acY (locks:List ey)(x:jz):Bool:=match locks[x.N.toNat]? with
 |some l=>!l.held&&decide (l.D=x.D)
 |none=>false
def ahI (xs:List jz)(locks:List ey):Bool:=xs.all (acY locks)
section
variable {w0:bz}{L M:List bg}{K:KV}{F:World->Prop}{C:bg->List bg}{b:Nat}{m:Int}{xs:List jz}
def oh:G w0 (ob jF b (m,xs)::M) F=∀v,ax v [v]->G w0 (own b [i64 m,v]::sl lh v xs::M) F:=by
 rw[iw,jF]
 simp only[pM,im,jk]
def Rw {n:Int}:(if(if(16:Int)<n then(16:Int)else n) > 1 then(if(16:Int)<n then(16:Int)else n)else 1)=held n 1 16:=by
 unfold held;split<;>split<;>(try split)<;>(try split)<;>omega
def Wx {n:Int}(hK:∀b,G w0 (ob jF b (held n 1 16,[])::L) (K (ptr b 0))):G w0 L (ac 163 [i64 n] K):=by
 refine Xh ?_
 unfold MG
 refine ar ?_
 rw[Rw]
 refine G.a3 lh ?_
 refine G.box λb=>?_
 have:=hK b
 rw[oh]at this
 exact this _ bj
def qV [i:ae L jF b (m,xs) C](d:xs.length<=1000000)(hK:∀u,ax u [u]->G w0 (sl lh u xs::L) (K u)):G w0 L (ac 121 [ptr b 0] K):=by
 refine i.cb (λM hK=>?_) hK
 rw[oh]
 intro v a
 refine JH ?_
 unfold zE
 refine ar ?_
 refine jK d λu c=>?_
 have:=hK u c
 rw[jc,oh]at this
 exact G.sub (this v a)
def VK (x:jz)(xs:List jz)(k:Int):nY (x::xs) k=if x.N=k then some x.D else nY xs k:=by
 unfold nY
 by_cases h:x.N=k<;>simp[List.find?_cons,h]
def Ku {k:Int}[i:ae L jF b (m,xs) C](f:xs.length<=1000000)(hK:G w0 L (K (.tuple #[u64 ((nY xs k).getD 0),.bool (nY xs k).isSome]))):G w0 L (ac 237 [ptr b 0,i64 k] K):=by
 refine i.ro (λM hK=>?_) hK
 rw[oh]at *
 intro v d
 refine KR ?_
 unfold yS
 refine ar ?_
 refine G.du (λj:Nat=>i64 j) (λj=>j<=xs.length/\nY xs k=nY (xs.drop j) k) (λj=>xs.length-j) 0 rfl ⟨zo,zs⟩ ?_
 rintro j ⟨hj,a⟩ J hJ
 refine ar ?_
 refine G.cond (λh=>?_) (λh=>?_)
 ·have c:j<xs.length:=by simpa using h
  have e:=dm c
  rw[zav c,VK]at a
  refine ar ?_
  refine G.new λp=>ar ?_
  refine G.cond (λh=>?_) (λh=>?_)
  ·rw[zp (by simpa using h)]at a
   refine ar ?_
   have:=hK v d
   rw[a]at this
   exact this.sub
  ·rw[zn (by simpa using h)]at a
   rw[fm zo]
   exact(hJ (j+1) ⟨c,a⟩ zo).sub
 ·have:xs.drop j=[]:=zaB (by simpa using h)
  rw[this]at a
  have:=hK v d
  rw[a]at this
  exact this
def Kl {x:jz}[i:ae L jF b (m,xs) C](f:xs.length<=1000)(hK:G w0 (C (ob jF b (m,oF m xs x))) (K (i64 (rK m xs x)))) :
  G w0 L (ac 207 [ptr b 0,.agg #[i64 x.N,u64 x.D]] K):=by
 refine i.bi (λM hK=>?_) hK
 refine JF ?_
 unfold zz
 refine mK ?_
 refine G.box λp=>ar ?_
 refine G.any (decide (16<=x.N)) (λ_ K hK=>by refine ar ?_;exact hK) ?_
 refine G.any (decide (4611686018427387904<=x.D)) (λ_ K hK=>by refine ar ?_;exact hK) ?_
 unfold rK oF at hK
 refine G.cond (λh=>?_) (λh=>?_)
 ·have h:x.N<0\/16<=x.N\/4611686018427387904<=x.D:=by simpa[or_assoc]using h
  rw[zp h,zp h]at hK
  exact hK.sub
 ·have h:¬(x.N<0\/16<=x.N\/4611686018427387904<=x.D):=by simp at h;omega
  rw[zn h,zn h]at hK
  refine ar ?_
  refine Ku (xs:=xs) zo ?_
  cases a:nY xs x.N with
  |some v =>
   simp only[a]at hK
   refine ca (an @zbF.{0} @Option.isSome_some.{0}) ?_
   refine G.cond (λh=>?_) (λh=>?_)
   ·rw[zn (by simpa using h)]at hK
    exact hK.sub
   ·rw[zp (by simpa using h)]at hK
    exact hK.sub
  |none =>
   simp only[a]at hK
   refine ca @Option.isSome_none.{0} ?_
   refine G.drew ?_
   rw[jc,oh]
   intro v c
   refine ar ?_
   refine G.cond (λh=>?_) (λh=>?_)
   ·have h:(xs.length:Int)=m:=by simpa using h
    rw[zp h,zp h,oh]at hK
    exact(hK v c).sub
   ·have h:¬(xs.length:Int)=m:=by simpa using h
    rw[zn h,zn h,oh]at hK
    refine G.drew (ar ?_)
    refine G.build lh [x] rfl zd rfl λy e=>ar ?_
    refine G.append (xs:=xs) (ys:=[x]) (by simp;omega) (by simp[maxLen];omega) λu d=>ar ?_
    exact(hK u d).sub
end
structure qM where
 me:Int
 aR:Int
 O:Int
 aY:Int
 aV:Int
abbrev qM.cells (p:qM)(rest:List Value):List Value:=i64 p.me::i64 p.aR::i64 p.O::i64 p.aY::i64 p.aV::rest
def rj (me spins:Int):qM:=⟨me,held spins 0 4,0,-1,0⟩
def qM.bn (p:qM)(e er b:Int):qM:={ p with O:=e,aV:=er,aY:=b }
def qM.waits (p:qM)(owner:Int):qM×Bool:=if owner > p.me then(p,true)else({ p with aR:=IntKind.wrap .i64 (p.aR-1) },decide (IntKind.wrap .i64 (p.aR-1)≥0))
def qM.aZ (p:qM)(err:Int):qM:=if p.O=0/\err≠0 then p.bn 4 err (-1)else p
section
variable {w0:bz}{L M:List bg}{K:KV}{F:World->Prop}{C:bg->List bg}{b:Nat}{p:qM}{rest:List Value}
def xE {me sp:Int}(hK:G w0 L (K (.agg ((rj me sp).cells []).toArray))):G w0 L (ac 174 [i64 me,i64 sp] K):=by
 refine Pp ?_
 unfold E3
 refine G.new λq=>ar ?_
 have e:(if(if(4:Int)<sp then 4 else sp) > 0 then if(4:Int)<sp then 4 else sp else 0)=held sp 0 4:=by unfold held;split<;>split<;>split<;>(try split)<;>omega
 rw[e]
 exact hK.sub
def ia [i:ae L lW b (p.cells rest) C](hK:G w0 L (K (i64 p.O))):G w0 L (ac 185 [ptr b 0] K):=by
 refine i.ro (λM hK=>?_) hK
 refine Bp ?_
 unfold qg
 refine ar ?_
 exact hK
def mR [i:ae L lW b (p.cells rest) C](hK:G w0 L (K (i64 p.aY))):G w0 L (ac 401 [ptr b 0] K):=by
 refine i.ro (λM hK=>?_) hK
 refine BL ?_
 unfold qL
 refine ar ?_
 exact hK
def Bx [i:ae L lW b (p.cells rest) C](hK:G w0 L (K (i64 p.aV))):G w0 L (ac 212 [ptr b 0] K):=by
 refine i.ro (λM hK=>?_) hK
 refine Ar ?_
 unfold qh
 refine ar ?_
 exact hK
def fc {e er a:Int}[i:ae L lW b (p.cells rest) C](hK:G w0 (C (own b ((p.bn e er a).cells rest))) (K (.tuple #[]))):G w0 L (ac 403 [ptr b 0,i64 e,i64 er,i64 a] K):=by
 refine i.bi (λM hK=>?_) hK
 refine Aj ?_
 unfold pN
 refine ar ?_
 exact hK
def lG {x:ey}[i:ae L lW b (p.cells rest) C](hK:G w0 (C (own b ((p.waits x.ar).1.cells rest))) (K (.bool (p.waits x.ar).2))):G w0 L (ac 405 [ptr b 0,.agg #[u64 x.D,.bool x.held,i64 x.ar]] K):=by
 refine i.bi (λM hK=>?_) hK
 refine yO ?_
 unfold oR
 refine G.box λq=>?_
 refine G.drew (ar ?_)
 refine G.cond (λh=>?_) (λh=>?_)
 ·have:p.waits x.ar=(p,true):=by unfold qM.waits;simp at h;simp[h]
  rw[this]at hK
  exact hK.sub
 ·have:p.waits x.ar=({ p with aR:=IntKind.wrap .i64 (p.aR-1) },decide (IntKind.wrap .i64 (p.aR-1)≥0)):=by unfold qM.waits;simp at h;rw[zn]
  rw[this]at hK
  refine ar ?_
  exact hK.sub
def kO {a:ii}[i:ae L lW b (p.cells rest) C](hK:G w0 (C (own b ((p.aZ a.aV).cells rest))) (K (.bool (!decide ((p.aZ a.aV).O=0))))):G w0 L (ac 402 [ptr b 0,.agg (ii.cells a).toArray] K):=by
 refine i.bi (λM hK=>?_) hK
 refine wV ?_
 unfold nQ
 refine mK ?_
 refine G.box λq=>ar ?_
 refine G.all (decide (a.aV≠0)) (λ_ K hK=>by refine ar ?_;simpa using hK) ?_
 refine G.aU ?_
 refine G.cond (λh=>?_) (λh=>?_)
 ·have:p.aZ a.aV=p.bn 4 a.aV (-1):=by unfold qM.aZ;simp at h;simp[h]
  rw[this]at hK
  refine ar ?_
  refine fc (p:=p) (rest:=rest) (ar ?_)
  exact hK.sub
 ·have:p.aZ a.aV=p:=by unfold qM.aZ;simp at h;rw[zn (λg=>g.2 (h g.1))]
  rw[this]at hK
  refine ar ?_
  exact hK.sub
end
end Go.Proofs.YtoealglbimbbmaaGreatDoor.S
namespace Go.Proofs.YtoealglbimbbmaaGreatDoor.S
open Go Go.Proofs
structure fe where
 Y:qM
 J:Int
 N:Int
 I:Int
 B:Int
 ac:ey
 word:Int
def kn:vV:=⟨0,0,0,0,aa,aa⟩
def uq (me place stripe sp stamp:Int):fe:=⟨rj me sp,place,stripe,stamp,0,aa,0⟩
def dt (f:fe):vV×Bool :=
 if f.Y.O=0 then(if f.B=1 then(⟨1,f.J,0,0,aa,aa⟩,true)else(⟨3,f.N,0,0,aa,aa⟩,true))else(kn,false)
def mO (f:fe)(l:ey):fe :=
 if l.held=true then(if(f.Y.waits l.ar).2=true then { f with B:=0,Y:=(f.Y.waits l.ar).1 }else { f with B:=0,Y:=(f.Y.waits l.ar).1.bn 5 0 l.ar })
 else if l.D > f.I then { f with B:=0,Y:=f.Y.bn 6 0 (-1) }
 else { f with B:=1,ac:=l }
def bp (f:fe)(a:ii):fe :=
 if(f.Y.aZ a.aV).O=0 then
  (if f.B=1 then { f with word:=a.word,B:=2 }
   else if f.B=2/\a.ac=f.ac then { f with Y:=f.Y.bn 2 0 (-1) }
   else mO f a.ac)
 else { f with Y:=f.Y.aZ a.aV }
abbrev fe.aW (f:fe):List Value:=[i64 f.J,i64 f.N,u64 f.I,i64 f.B,u64 f.ac.D,.bool f.ac.held,i64 f.ac.ar,u64 f.word]
def oq (b:Nat)(f:fe):bg:=own b (f.Y.cells f.aW)
section
variable {w0:bz}{L M:List bg}{K:KV}{F:World->Prop}{C:bg->List bg}{b:Nat}{f:fe}
def jU:ob oq b f=own b (f.Y.cells f.aW):=by rw[iw,oq]
def WG {me c d sp a:Int}(hK:∀b,G w0 (ob oq b (uq me c d sp a)::L) (K (ptr b 0))):G w0 L (ac 170 [i64 me,i64 c,i64 d,i64 sp,u64 a] K):=by
 refine Wm ?_
 unfold MW
 refine xE (ar ?_)
 refine G.box λb=>ar ?_
 have h:=hK b
 rw[jU]at h
 exact h
def nO [i:ae L oq b f C](hK:G w0 L (K (i64 f.Y.O))):G w0 L (ac 206 [ptr b 0] K):=by
 refine i.ro (λM hK=>?_) hK
 rw[jU]at *
 refine JB ?_
 unfold za
 refine ar ?_
 refine ia (p:=f.Y) (rest:=f.aW) ?_
 exact hK
def L4 [i:ae L oq b f C](hK:G w0 L (K (i64 f.Y.aY))):G w0 L (ac 398 [ptr b 0] K):=by
 refine i.ro (λM hK=>?_) hK
 rw[jU]at *
 refine Mi ?_
 unfold Bl
 refine ar ?_
 refine mR (p:=f.Y) (rest:=f.aW) ?_
 exact hK
def HN [i:ae L oq b f C](hK:G w0 L (K (.tuple #[.agg (vV.cells (dt f).1).toArray,.bool (dt f).2]))):G w0 L (ac 399 [ptr b 0] K):=by
 refine i.ro (λM hK=>?_) hK
 rw[jU]at *
 refine I1 ?_
 unfold yj
 refine G.new λq=>ar ?_
 refine ia (p:=f.Y) (rest:=f.aW) (ar ?_)
 unfold dt at hK
 by_cases h:f.Y.O=0
 ·rw[zp h]at hK
  refine ca h ?_
  by_cases a:f.B=1
  ·rw[zp a]at hK
   refine ca a ?_
   exact hK.sub
  ·rw[zn a]at hK
   refine ca a ?_
   exact hK.sub
 ·rw[zn h]at hK
  refine ca h ?_
  exact hK.sub
def Ge {x:ey}[i:ae L oq b f C](hK:G w0 (C (ob oq b (mO f x))) (K (.tuple #[]))):G w0 L (ac 404 [ptr b 0,.agg #[u64 x.D,.bool x.held,i64 x.ar]] K):=by
 refine i.bi (λM hK=>?_) hK
 rw[jU]at *
 refine GJ ?_
 unfold v7
 refine mK ?_
 refine G.box λq=>ar ?_
 refine G.aU ?_
 unfold mO at hK
 obtain⟨v,h,o⟩:=x
 cases h
 ·rw[zn zs]at hK
  refine ar ?_
  refine G.drew (ar ?_)
  refine G.aU ?_
  refine G.cond (λh=>?_) (λh=>?_)
  ·rw[zp (by simpa using h)]at hK
   refine ar ?_
   refine fc (p:=f.Y) (rest:=[i64 f.J,i64 f.N,u64 f.I,i64 0,u64 f.ac.D,.bool f.ac.held,i64 f.ac.ar,u64 f.word]) (ar ?_)
   exact hK.sub
  ·rw[zn (by simpa using h)]at hK
   refine ar ?_
   exact hK.sub
 ·rw[zp rfl]at hK
  refine ar ?_
  refine G.drew (ar ?_)
  refine lG (p:=f.Y) (x:=⟨v,true,o⟩) (rest:=[i64 f.J,i64 f.N,u64 f.I,i64 0,u64 f.ac.D,.bool f.ac.held,i64 f.ac.ar,u64 f.word]) (ar ?_)
  refine G.aU ?_
  cases a:(f.Y.waits o).2
  ·rw[zn (by rw[a];decide)]at hK
   refine ca a ?_
   refine G.drew (ar ?_)
   refine fc (p:=(f.Y.waits o).1) (rest:=[i64 f.J,i64 f.N,u64 f.I,i64 0,u64 f.ac.D,.bool f.ac.held,i64 f.ac.ar,u64 f.word]) (ar ?_)
   exact hK.sub
  ·rw[zp a]at hK
   refine ca a ?_
   exact hK.sub
def IB {a:ii}[i:ae L oq b f C](hK:G w0 (C (ob oq b (bp f a))) (K (.tuple #[]))):G w0 L (ac 400 [ptr b 0,.agg (ii.cells a).toArray] K):=by
 refine i.bi (λM hK=>?_) hK
 rw[jU]at *
 refine HQ ?_
 unfold yx
 refine mK ?_
 refine G.box λq=>ar ?_
 refine G.drew (ar ?_)
 refine kO (p:=f.Y) (a:=a) ?_
 unfold bp at hK
 by_cases c:(f.Y.aZ a.aV).O=0
 ·have e:f.Y.aZ a.aV=f.Y:=by
   unfold qM.aZ at c ⊢;split
   ·rename_i h;rw[zp h]at c;simp[qM.bn]at c
   ·rfl
  rw[zp c]at hK
  rw[e]at c
  rw[e]
  refine ca c ?_
  refine G.aU ?_
  by_cases d:f.B=1
  ·rw[zp d]at hK
   refine ca d ?_
   refine G.aU (ar ?_)
   exact hK.sub
  ·rw[zn d]at hK
   refine ca d ?_
   refine G.aU ?_
   refine G.drew (ar ?_)
   refine G.all (decide (a.ac=f.ac)) (λ_ K hK=>by simp only[↓RG,RP,RB,zac,Int.reduceEq,Int.reduceLT,Int.reduceLE,Nat.reduceEqDiff,ey.cN a.ac f.ac];exact hK) ?_
   refine G.aU ?_
   refine G.cond (λh=>?_) (λh=>?_)
   ·rw[zp (by simpa using h)]at hK
    refine ar ?_
    refine fc (p:=f.Y) (rest:=f.aW) (ar ?_)
    exact hK.sub
   ·rw[zn (by simpa using h),<-jU]at hK
    rw[jc,<-jU]
    refine ar ?_
    refine Ge (f:=f) (x:=a.ac) (ar ?_)
    exact hK.sub
 ·rw[zn c]at hK
  refine ca c ?_
  refine G.aU (ar ?_)
  exact hK.sub
def HH [i:ae L oq b f C](hK:G w0 L (K (u64 (if f.Y.O=2 then f.word else 0)))):G w0 L (ac 210 [ptr b 0] K):=by
 refine i.ro (λM hK=>?_) hK
 refine IZ ?_
 unfold xW
 refine nO (f:=f) ?_
 by_cases h:f.Y.O=2
 ·rw[zp h,jU]at hK
  refine ca h ?_
  rw[jU]
  refine ar ?_
  exact hK.sub
 ·rw[zn h]at hK
  refine ca h ?_
  exact hK.sub
def HX [i:ae L oq b f C](hK:G w0 L (K (if f.Y.O=2 then .agg #[i64 f.N,u64 f.ac.D]else .agg #[i64 0,u64 0]))):G w0 L (ac 208 [ptr b 0] K):=by
 refine i.ro (λM hK=>?_) hK
 refine Ij ?_
 unfold xi
 refine G.new λq=>?_
 refine nO (f:=f) ?_
 by_cases h:f.Y.O=2
 ·rw[zp h,jU]at hK
  refine ca h ?_
  refine G.drew ?_
  rw[jU]
  refine ar ?_
  exact hK.sub
 ·rw[zn h]at hK
  refine ca h ?_
  exact hK.sub
end
end Go.Proofs.YtoealglbimbbmaaGreatDoor.S
namespace Go.Proofs.YtoealglbimbbmaaGreatDoor.S
open Go Go.Proofs
structure mj where
 Y:qM
 ab:List jz
 aL:Bool
 K:Nat
 I:Int
def HO (me sp:Int)(seen:List jz):mj:=⟨rj me sp,seen,false,0,0⟩
def Sg (x:mj):Prop:=x.Y.O=0->x.aL=true->x.K<x.ab.length
def gO (x:mj):vV×Bool :=
 if x.Y.O=0 then(if x.aL=true then(⟨3,(x.ab.getD x.K ⟨0,0⟩).N,0,0,aa,aa⟩,true)else(⟨6,0,0,0,aa,aa⟩,true))else(kn,false)
def mT (x:mj):mj:=if x.K=x.ab.length then { x with Y:=x.Y.bn 2 0 (-1) }else x
def fa (x:mj)(a:ii):mj :=
 if(x.Y.aZ a.aV).O=0 then
  (if x.aL=false then mT { x with aL:=true,I:=a.word }
   else if a.ac.held=true then(if(x.Y.waits a.ac.ar).2=true then { x with Y:=(x.Y.waits a.ac.ar).1 }else { x with Y:=(x.Y.waits a.ac.ar).1.bn 5 0 a.ac.ar })
   else if a.ac.D=(x.ab.getD x.K ⟨0,0⟩).D then mT { x with K:=x.K+1 }
   else { x with Y:=x.Y.bn 5 0 (-1) })
 else { x with Y:=x.Y.aZ a.aV }
def IC (b:Nat)(x:mj):bg:=pz λv=>cj (kx (ax v [v])) (cj (own b (x.Y.cells [v,.bool x.aL,i64 x.K,u64 x.I])) (sl lh v x.ab))
section
variable {w0:bz}{L M:List bg}{K:KV}{F:World->Prop}{C:bg->List bg}{b:Nat}{x:mj}
def kU:G w0 (ob IC b x::M) F=∀v,ax v [v]->G w0 (own b (x.Y.cells [v,.bool x.aL,i64 x.K,u64 x.I])::sl lh v x.ab::M) F:=by
 rw[iw,IC]
 simp only[pM,im,jk]
def wm [i:ae L IC b x C](hK:G w0 L (K (i64 x.Y.O))):G w0 L (ac 211 [ptr b 0] K):=by
 refine i.ro (λM hK=>?_) hK
 rw[kU]at *
 intro v a
 refine Ga ?_
 unfold wj
 refine ar ?_
 refine ia (p:=x.Y) (rest:=[v,.bool x.aL,i64 x.K,u64 x.I]) ?_
 exact hK v a
def Iq [i:ae L IC b x C](hK:G w0 L (K (i64 x.Y.aY))):G w0 L (ac 406 [ptr b 0] K):=by
 refine i.ro (λM hK=>?_) hK
 rw[kU]at *
 intro v a
 refine IX ?_
 unfold xN
 refine ar ?_
 refine mR (p:=x.Y) (rest:=[v,.bool x.aL,i64 x.K,u64 x.I]) ?_
 exact hK v a
def sN [i:ae L IC b x C](hK:G w0 L (K (u64 (if x.Y.O=2 then x.I else 0)))):G w0 L (ac 178 [ptr b 0] K):=by
 refine i.ro (λM hK=>?_) hK
 refine CU ?_
 unfold sq
 refine wm (x:=x) ?_
 by_cases h:x.Y.O=2
 ·rw[zp h,kU]at hK
  refine ca h ?_
  rw[kU]
  intro v a
  refine ar ?_
  exact(hK v a).sub
 ·rw[zn h]at hK
  refine ca h ?_
  exact hK.sub
def EH (j:Sg x)[i:ae L IC b x C](hK:G w0 L (K (.tuple #[.agg (vV.cells (gO x).1).toArray,.bool (gO x).2]))):G w0 L (ac 407 [ptr b 0] K):=by
 refine i.ro (λM hK=>?_) hK
 rw[kU]at *
 intro v f
 have hK:=hK v f
 refine E6 ?_
 unfold tS
 refine mK ?_
 refine G.new λq=>ar ?_
 refine ia (p:=x.Y) (rest:=[v,.bool x.aL,i64 x.K,u64 x.I]) (ar ?_)
 unfold gO at hK
 by_cases h:x.Y.O=0
 ·rw[zp h]at hK
  refine ca h ?_
  by_cases a:x.aL=true
  ·rw[zp a]at hK
   have d:=j h a
   have e:=dm d
   have g:x.ab.getD x.K ⟨0,0⟩=x.ab[x.K]:=by simp[d]
   rw[g]at hK
   simp only[a]at hK
   refine ca a ?_
   refine G.drew (ar ?_)
   exact hK.sub
  ·have c:x.aL=false:=by simpa using a
   rw[zn a]at hK
   simp only[c]at hK
   refine ca c ?_
   exact hK.sub
 ·rw[zn h]at hK
  refine ca h ?_
  exact hK.sub
def S0 {me sp:Int}{u:Value}{xs:List jz}{sz:Nat}[r:Rd w0 L u lh sz xs](c:xs.length<=1000000)(hK:∀b,G w0 (ob IC b (HO me sp xs)::L) (K (ptr b 0))):G w0 L (ac 172 [i64 me,i64 sp,u] K):=by
 refine Tk ?_
 unfold Kq
 refine xE ?_
 refine jK (xs:=xs) c λv a=>ar ?_
 refine G.box λb=>ar ?_
 have h:=hK b
 rw[kU]at h
 exact h v a
def Wa {v:Value}{q:Nat}{y:List Value}(a:ax v [v])(hK:G w0 (ob IC b (mT x)::M) (K (.tuple #[])))(c:x.ab.length<4611686018427387904) :
  G w0 (own q y::own b (x.Y.cells [v,.bool x.aL,i64 x.K,u64 x.I])::sl lh v x.ab::M) (λw =>
   ad (ptr b 7) (λx12 w=>ad (ptr b 5) (λx15 w=>fu x15 (λx16 w=>ap .eql x12 x16 (λx17 w =>
    aw (λw=>K (.tuple #[]) w) (λj2 w=>aj x17 (λw=>ac 403 [ptr b 0,.int .i64 2,.int .i64 0,.int .i64 (-1)] (λx20 w=>j2 w) w) (λw=>j2 w) w) w) w) w) w) w):=by
 refine ar ?_
 refine G.aU ?_
 unfold mT at hK
 refine G.cond (λh=>?_) (λh=>?_)
 ·rw[zp (by simp at h;omega),kU]at hK
  refine fc (p:=x.Y) (rest:=[v,.bool x.aL,i64 x.K,u64 x.I]) (ar ?_)
  exact(hK v a).sub
 ·rw[zn (by simp at h;omega),kU]at hK
  exact(hK v a).sub
def Fb {a:ii}(r:Sg x)(s:x.ab.length<=1000000)[i:ae L IC b x C](hK:G w0 (C (ob IC b (fa x a))) (K (.tuple #[]))):G w0 L (ac 408 [ptr b 0,.agg (ii.cells a).toArray] K):=by
 refine i.bi (λM hK=>?_) hK
 refine DC ?_
 unfold uG
 refine mK ?_
 refine G.box λq=>?_
 rw[jc,kU]
 intro v g
 refine G.drew (ar ?_)
 refine kO (p:=x.Y) (a:=a) (rest:=[v,.bool x.aL,i64 x.K,u64 x.I]) ?_
 unfold fa at hK
 by_cases f:(x.Y.aZ a.aV).O=0
 ·have n:x.Y.aZ a.aV=x.Y:=by
   unfold qM.aZ at f ⊢;split
   ·rename_i h;rw[zp h]at f;simp[qM.bn]at f
   ·rfl
  rw[zp f]at hK
  rw[n]at f
  rw[n]
  refine ca f ?_
  cases c:x.aL
  ·rw[zp c]at hK
   refine ca c ?_
   refine G.aU ?_
   refine G.drew (ar ?_)
   refine G.drew ?_
   rw[Pi]
   exact Wa (x:={ x with aL:=true,I:=a.word }) g hK (by simp only;omega)
  ·rw[zn (by rw[c];decide)]at hK
   have j:=r f c
   have e:=dm j
   have o:x.ab.getD x.K ⟨0,0⟩=x.ab[x.K]:=by simp[j]
   refine ca c ?_
   refine G.aU ?_
   try simp (maxSteps:=2000000) only[↓RG,RP,RB,zac,Int.reduceEq,Int.reduceLT,Int.reduceLE,Nat.reduceEqDiff,Nat.reduceAdd]
   cases k:a.ac.held
   ·rw[zn (by rw[k];decide),o]at hK
    refine ca k ?_
    refine G.drew (ar ?_)
    by_cases d:a.ac.D=x.ab[x.K].D
    ·rw[zp d]at hK
     refine ca d ?_
     rw[fm zo]
     refine G.drew ?_
     rw[Pi]
     have m:G w0 (ob IC b (mT { x with aL:=true,K:=x.K+1 })::M) (K (.tuple #[])):=by
      have:({ x with aL:=true,K:=x.K+1 }:mj)={ x with K:=x.K+1 }:=by rw[<-c]
      rw[this];exact hK
     exact Wa (x:={ x with aL:=true,K:=x.K+1 }) g m (by simp only;omega)
    ·rw[zn d,kU]at hK
     refine ca d ?_
     refine fc (p:=x.Y) (rest:=[v,.bool true,i64 x.K,u64 x.I]) ?_
     have hK:=hK v g
     simp only[c]at hK
     refine ar ?_
     exact hK.sub
   ·rw[zp k]at hK
    refine ca k ?_
    refine G.drew (ca k ?_)
    refine lG (p:=x.Y) (x:=⟨a.ac.D,true,a.ac.ar⟩) (rest:=[v,.bool true,i64 x.K,u64 x.I]) (ar ?_)
    refine G.aU ?_
    cases l:(x.Y.waits a.ac.ar).2
    ·rw[zn (by rw[l];decide),kU]at hK
     have hK:=hK v g
     simp only[c]at hK
     refine ca l ?_
     refine G.drew ?_
     try simp (maxSteps:=2000000) only[↓RG,RP,RB,zac,Int.reduceEq,Int.reduceLT,Int.reduceLE,Nat.reduceEqDiff,Nat.reduceAdd]
     refine fc (p:=(x.Y.waits a.ac.ar).1) (rest:=[v,.bool true,i64 x.K,u64 x.I]) (ar ?_)
     exact hK.sub
    ·rw[zp l,kU]at hK
     have hK:=hK v g
     simp only[c]at hK
     refine ca l ?_
     exact hK.sub
 ·rw[zn f,kU]at hK
  refine ca f ?_
  exact(hK v g).sub
end
end Go.Proofs.YtoealglbimbbmaaGreatDoor.S
