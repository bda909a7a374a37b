import Derived.Test.YtoealglbimbbmaaGreatDoorTPq
import Derived.Test.YtoealglbimbbmaaGreatDoorTPn
set_option linter.defProp false
set_option linter.unusedVariables false
set_option linter.unusedSimpArgs false
namespace Go.Proofs.YtoealglbimbbmaaGreatDoor.S
open Go Go.Proofs
def WD (c:ct):Int:=if 0<=c.Y.aR then c.Y.aR else 0
def rC (c:ct):Int :=
 if c.B<=1 then 4*((c.F.length:Int)-c.was.length)+2+c.ab.length+c.F.length+WD c
 else if c.B<=3 then 2+(c.ab.length:Int)+c.F.length+WD c
 else if c.B=4 then(c.ab.length:Int)-c.K+c.F.length+WD c
 else if c.B=7 then(c.was.length:Int)-c.K
 else 0
def wC (c:ct):Int:=if c.B=5 then(c.cells.length:Int)-c.K+5*c.F.length else if c.B=6 then 5*((c.F.length:Int)-c.K)else 0
structure Stp (c c':ct)(e b:Int):Prop where
 aG:(c'.Y.O=0/\c'.B=7/\c'.O=e/\c'.aY=b/\c'.K=0/\c'.was≠[])\/(c'.Y.O=e/\c'.Y.aY=b/\c.was=[])
 was:c'.was=c.was
section
variable {str:Int->Nat}{h0:Hp}{n i nl nw:Nat}{G:Gs}{ks:List ay}{m m':eO}{L:jZ}{X:Nat->Hx}{c c':ct}
def Ji {e er b:Int}(d:e≠0)(a:c.Y.O=0):Stp c (jM c e er b) e b:=by
 unfold jM jC
 by_cases h:(0:Nat)=c.was.length
 ·rw[zp h]
  exact⟨.inr ⟨rfl,rfl,zah h.symm⟩,rfl⟩
 ·rw[zn h]
  exact⟨.inl ⟨a,rfl,rfl,rfl,rfl,λg=>h (by rw[g];rfl)⟩,rfl⟩
structure Hld (c c':ct)(o:Int):Prop where
 e5:o > c.me->c'=c
 es:¬o > c.me->(c'.Y.O=0/\{ c' with Y:=c.Y }=c/\WD c'=WD c-1/\(c'.Y.me=c.me/\0<=c'.Y.aR/\c'.Y.aR<=4))\/Stp c c' 5 o
def V6 {l:ey}(f:c.Y.O=0)(a:c.Y.me=c.me)(i:c.Y.aR<=4)(hs0:0<=c.Y.aR):Hld c (kM c l) l.ar:=by
 unfold kM qM.waits
 by_cases h:l.ar > c.Y.me
 ·rw[zp h]
  simp only[if_true]
  exact⟨λ_=>rfl,λg=>absurd (a▸h) g⟩
 ·rw[zn h]
  have e:IntKind.wrap .i64 (c.Y.aR-1)=c.Y.aR-1:=jL zo zo
  simp only[e]
  refine⟨λg=>absurd (a▸g) h,λ_=>?_⟩
  by_cases d:c.Y.aR-1≥0
  ·rw[zp (by simpa using d)]
   grind[WD]
  ·rw[zn (by simpa using d)]
   have:=Ji (c:={ c with Y:={ c.Y with aR:=c.Y.aR-1 } }) (e:=5) (er:=0) (b:=l.ar) zd f
   exact .inr ⟨this.1,this.2⟩
end
structure SM (m m':eO):Prop where
 l:m'.l=m.l
 n:m'.n=m.n
 s:m'.s=m.s
def SM.bF {m:eO}{k:Int}:SM m { m with aT:=k }:=⟨rfl,rfl,rfl⟩
inductive RF (c c':ct):Prop
 |on (k:Nat):c.K<=k->k<c.ab.length->tU c.F (c.ab.getD k ⟨0,0⟩).N=none->c'={ c with B:=4,K:=k }->RF c c'
 |wr:c.cells≠[]->c'={ c with ao:=true,K:=0,B:=5 }->RF c c'
 |bad (z:jz) (k:Nat):z∈c.ab->c.F[k]? = some z.N->k<c.was.length->(c.was.getD k aa).D≠z.D->Stp c c' 5 (-1)->RF c c'
abbrev fV (m:eO)(s:Int):ey:=m.l.getD s.toNat aa
inductive qp (m:eO) (c:ct) (m':eO) (c':ct):Prop
 |held (s:Int):c.B=0\/c.B=4->s=(if c.B=0 then c.F.getD c.was.length 0 else(c.ab.getD c.K ⟨0,0⟩).N)->(fV m s).held=true->SM m m'->Hld c c' (fV m s).ar->qp m c m' c'
 |look:c.B=0->(fV m (c.F.getD c.was.length 0)).held=false->SM m m'->c'={ c with ac:=fV m (c.F.getD c.was.length 0),B:=1 }->qp m c m' c'
 |take:c.B=1->fV m (c.F.getD c.was.length 0)=c.ac->m'.l=m.l.set (c.F.getD c.was.length 0).toNat ⟨c.ac.D,true,c.me⟩->m'.n=m.n->m'.s=m.s->c'=kA { c with was:=c.was++[c.ac] }->qp m c m' c'
 |miss:c.B=1->fV m (c.F.getD c.was.length 0)≠c.ac->SM m m'->c'={ c with B:=0 }->qp m c m' c'
 |full:c.B=2->SM m m'->Stp c c' 4 (-1)->qp m c m' c'
 |ask:c.B=2->SM m m'->c'={ c with aj:=m.n,B:=3 }->qp m c m' c'
 |raise:c.B=3->m.n=c.aj->m'.l=m.l->m'.n=m.n+1->m'.s=m.s->RF c c'->qp m c m' c'
 |late:c.B=3->m.n≠c.aj->SM m m'->c'={ c with B:=2 }->qp m c m' c'
 |prove:c.B=4->SM m m'->RF { c with K:=c.K+1 } c'->qp m c m' c'
 |bad:c.B=4->(fV m (c.ab.getD c.K ⟨0,0⟩).N).D≠(c.ab.getD c.K ⟨0,0⟩).D->SM m m'->Stp c c' 5 (-1)->qp m c m' c'
 |store:c.B=5->SM m m'->c'=jI { c with K:=c.K+1 }->qp m c m' c'
 |give:c.B=6->m'.l=m.l.set (c.F.getD c.K 0).toNat ⟨c.aj+1,false,0⟩->m'.n=m.n->m'.s=m.s->c'=kf { c with K:=c.K+1 }->qp m c m' c'
 |leave:c.B=7->m'.l=m.l.set (c.F.getD c.K 0).toNat (c.was.getD c.K aa)->m'.n=m.n->m'.s=m.s->c'=jC { c with K:=c.K+1 }->qp m c m' c'
def Vd (p:qM)(me:Int):Prop:=p.me=me/\0<=p.aR/\p.aR<=4
section
variable {str:Int->Nat}{h0:Hp}{n i nl nw:Nat}{G:Gs}{ks:List ay}{m m':eO}{L:jZ}{X:Nat->Hx}{c c' x:ct}
def abA (h:c.cells≠[]):RF c (mo c):=by
 refine .wr h ?_
 unfold mo jI
 grind
def LZ (o:c.was.length=c.F.length)(n:c.Y.O=0)(p:c.cells≠[]):∀{k:Nat}{x:ct},x.ab.length=x.K+k->x={ c with B:=4,K:=x.K }->c.K<=x.K->RF c (proveN k x)
 |0,x,_,e,hp=>by
  unfold proveN
  rw[e]
  exact .wr p (by unfold mo jI;rw[zn (λg=>p (zah g.symm))])
 |k+1,x,hk,e,hp=>by
  have hlt:x.K<x.ab.length:=by omega
  have i:x.ab.getD x.K ⟨0,0⟩=x.ab[x.K]:=by rw[ge,dg hlt];rfl
  have f:x.ab[x.K]∈c.ab:=by
   have a:x.ab=c.ab:=by rw[e]
   have:=zae hlt
   exact a▸this
  unfold proveN
  rw[i]
  unfold aec
  have l:x.F=c.F:=by rw[e]
  have d:x.was=c.was:=by rw[e]
  rw[l,d]
  cases h:tU c.F x.ab[x.K].N with
  |none =>
   simp only[Option.map_none]
   have a:x.ab=c.ab:=by rw[e]
   exact .on x.K hp (by rw[<-a];exact hlt) (by rw[<-a,i];exact h) e
  |some j =>
   simp only[Option.map_some]
   have hj:=A1 h
   have m:=(Nm.1 hj).1
   split
   ·refine LZ o n p (by show x.ab.length=x.K+1+k;omega) ?_ (by show c.K<=x.K+1;omega)
    rw[e]
   ·rename_i g
    have:=Ji (c:=x) (e:=5) (er:=0) (b:=-1) zd (by rw[e];exact n)
    exact .bad _ j f hj zo g ⟨by have a:=this.aG;rw[d]at a;exact a,by have a:=this.was;rw[d]at a;exact a⟩
def Uo (aA:n<=4)(z:i<n)(hT:m.n<4611686018427387904)(h:nV str h0 n (fi m L X) m.l.length m.w.length i ks c)(hi:jB str h0 n (fi m L X))(hX:X i=jX c)(j:c.Y.O=0)(hp:c.B≠7->Vd c.Y c.me):qp m c (ag m (au c).1).1 (bk c (ag m (au c).1).2):=by
 have af:=h.ok.st
 have am:=h.me
 by_cases A:c.B=0
 ·have r:=((h.ok.ba j).1 (.inl A)).1
  have p:=h.st _ (qY r)
  obtain⟨M,R,S⟩:=hp zo
  have o:(au c).1=⟨3,c.F.getD c.was.length 0,0,0,aa,aa⟩:=by grind[au]
  rw[o]
  obtain⟨k,e⟩:=zi (a:=0) (b:=0) (u:=aa) (w:=aa) p
  rw[e]
  have s:bk c ⟨0,fV m (c.F.getD c.was.length 0),false,0⟩=if(fV m (c.F.getD c.was.length 0)).held=true then kM c (fV m (c.F.getD c.was.length 0))else { c with ac:=fV m (c.F.getD c.was.length 0),B:=1 }:=by grind[bk,oN,gk]
  show qp m c _ (bk c ⟨0,fV m (c.F.getD c.was.length 0),false,0⟩)
  rw[s]
  split
  ·rename_i g
   exact .held _ (.inl A) (by rw[zp A]) g .bF (V6 j M S R)
  ·rename_i g
   exact .look A (by simpa using g) .bF rfl
 by_cases C:c.B=1
 ·have r:=((h.ok.ba j).1 (.inr C))
  have p:=h.st _ (qY r.1)
  obtain⟨l1,l2,l3⟩:=h.ac j C
  have o:(au c).1=⟨4,c.F.getD c.was.length 0,0,0,c.ac,⟨c.ac.D,true,c.me⟩⟩:=by grind[au]
  rw[o]
  have d:nG m.l (c.F.getD c.was.length 0) ⟨c.ac.D,true,c.me⟩=0:=Lj p (xd l3 (λ_=>by simp only;omega) (λg=>by cases g))
  by_cases q:m.l.getD (c.F.getD c.was.length 0).toNat aa=c.ac
  ·have e:∃k,ag m ⟨4,c.F.getD c.was.length 0,0,0,c.ac,⟨c.ac.D,true,c.me⟩⟩=({ m with aT:=k,l:=m.l.set (c.F.getD c.was.length 0).toNat ⟨c.ac.D,true,c.me⟩ },⟨0,aa,true,0⟩) :=
    ⟨_,by unfold ag bv pw;simp only[d,q];rfl⟩
   obtain⟨k,e⟩:=e
   rw[e]
   refine .take C q rfl rfl rfl ?_
   grind[bk,oN,gk]
  ·have e:∃k,ag m ⟨4,c.F.getD c.was.length 0,0,0,c.ac,⟨c.ac.D,true,c.me⟩⟩=({ m with aT:=k },⟨0,aa,false,0⟩) :=
    ⟨_,by unfold ag bv pw;simp only[d];simp only[zn q,zp];rfl⟩
   obtain⟨k,e⟩:=e
   rw[e]
   refine .miss C q .bF ?_
   grind[bk,oN,gk]
 by_cases V:c.B=2
 ·have o:(au c).1=⟨6,0,0,0,aa,aa⟩:=by grind[au]
  rw[o]
  have e:∃k,ag m ⟨6,0,0,0,aa,aa⟩=({ m with aT:=k },⟨m.n,aa,false,0⟩):=⟨_,rfl⟩
  obtain⟨k,e⟩:=e
  rw[e]
  have s:bk c ⟨m.n,aa,false,0⟩=if 4611686018427387903<=m.n then jM c 4 7 (-1)else { c with aj:=m.n,B:=3 }:=by grind[bk,mf,gk]
  show qp m c _ (bk c ⟨m.n,aa,false,0⟩)
  rw[s]
  split
  ·exact .full V .bF (Ji zd j)
  ·exact .ask V .bF rfl
 by_cases H:c.B=3
 ·obtain⟨n0,n1,n2⟩:=h.aj j H
  have f:=(h.ok.ba j).2.1 (.inr H)
  have o:(au c).1=⟨7,0,c.aj,c.aj+1,aa,aa⟩:=by grind[au,Ul]
  rw[o]
  by_cases q:m.n=c.aj
  ·have e:∃k,ag m ⟨7,0,c.aj,c.aj+1,aa,aa⟩=({ m with n:=c.aj+1,aT:=k },⟨0,aa,true,0⟩) :=
    ⟨_,by unfold ag bv;simp[q,show ¬(c.aj+1<=c.aj) by omega,show ¬(4611686018427387904<=c.aj+1) by omega];rfl⟩
   obtain⟨k,e⟩:=e
   rw[e]
   have s:bk c ⟨0,aa,true,0⟩=if c.aj=c.I then mo c else pH c:=by grind[bk,mf,gk]
   refine .raise H q rfl (by show c.aj+1=m.n+1;rw[q]) rfl ?_
   show RF c (bk c ⟨0,aa,true,0⟩)
   rw[s]
   split
   ·exact abA h.bX
   ·exact LZ f.1 j h.bX (k:=c.ab.length-c.K) (x:={ c with B:=4 }) (by show c.ab.length=c.K+_;omega) rfl (LT _)
  ·have e:∃k,ag m ⟨7,0,c.aj,c.aj+1,aa,aa⟩=({ m with aT:=k },⟨0,aa,false,0⟩) :=
    ⟨_,by unfold ag bv;simp[q,show ¬(c.aj+1<=c.aj) by omega,show ¬(4611686018427387904<=c.aj+1) by omega];rfl⟩
   obtain⟨k,e⟩:=e
   rw[e]
   refine .late H q .bF ?_
   grind[bk,mf,gk]
 by_cases E:c.B=4
 ·have f:=(h.ok.ba j).2.2.1 E
  have Q:c.ab.getD c.K ⟨0,0⟩=c.ab[c.K]'f.2:=by rw[ge,dg f.2];rfl
  have p:=h.bK _ (zae f.2)
  rw[<-Q]at p
  obtain⟨M,R,S⟩:=hp zo
  have o:(au c).1=⟨3,(c.ab.getD c.K ⟨0,0⟩).N,0,0,aa,aa⟩:=by grind[au]
  rw[o]
  obtain⟨k,e⟩:=zi (a:=0) (b:=0) (u:=aa) (w:=aa) p
  rw[e]
  have s:bk c ⟨0,fV m (c.ab.getD c.K ⟨0,0⟩).N,false,0⟩=mc c (fV m (c.ab.getD c.K ⟨0,0⟩).N):=by grind[bk,gk]
  show qp m c _ (bk c ⟨0,fV m (c.ab.getD c.K ⟨0,0⟩).N,false,0⟩)
  rw[s]
  unfold mc
  split
  ·rename_i g
   exact .held _ (.inr E) (by rw[zn A]) g .bF (V6 j M S R)
  ·split
   ·rename_i g
    exact .prove E .bF (LZ (c:={ c with K:=c.K+1 }) f.1 j h.bX (k:=c.ab.length-(c.K+1)) (x:={ c with K:=c.K+1,B:=4 }) (by show c.ab.length=c.K+1+_;omega) rfl (LT _))
   ·rename_i g
    exact .bad E g .bF (Ji zd j)
 by_cases W:c.B=5
 ·have f:=(h.ok.ba j).2.2.2.1 W
  have hy:=h.cp _ (zae f.2)
  have Q:c.cells.getD c.K ⟨0,0⟩=c.cells[c.K]'f.2:=by rw[ge,dg f.2];rfl
  rw[<-Q]at hy
  have o:(au c).1=⟨2,(c.cells.getD c.K ⟨0,0⟩).J,0,(c.cells.getD c.K ⟨0,0⟩).word,aa,aa⟩:=by grind[au]
  rw[o]
  have z:lg (c.cells.getD c.K ⟨0,0⟩).J m.w=true:=by grind[lg]
  have e:∃k,ag m ⟨2,(c.cells.getD c.K ⟨0,0⟩).J,0,(c.cells.getD c.K ⟨0,0⟩).word,aa,aa⟩=({ m with w:=m.w.set (c.cells.getD c.K ⟨0,0⟩).J.toNat (c.cells.getD c.K ⟨0,0⟩).word,aT:=k },l9) :=
   ⟨_,by unfold ag bv;simp only[z];rfl⟩
  obtain⟨k,e⟩:=e
  rw[e]
  refine .store W ⟨rfl,rfl,rfl⟩ ?_
  unfold bk
  show(if(c.Y.aZ 0).O=0 then _ else _)=_
  grind[gk]
 have eT:(fi m L X).T=m.n:=rfl
 by_cases P:c.B=6
 ·have r:=(h.ok.ba j).2.2.2.2.1 P
  have hw:c.ao=true:=h.wr.2 (.inr ⟨j,.inr P⟩)
  have al:=h.le (.inl hw)
  have p:=h.st _ (qY r.2)
  have e0:=h.I.1
  have o:(au c).1=⟨5,c.F.getD c.K 0,0,0,aa,⟨c.aj+1,false,0⟩⟩:=by grind[au,Ul]
  rw[o]
  have d:nG m.l (c.F.getD c.K 0) ⟨c.aj+1,false,0⟩=0:=Lj p (xd (by show c.aj+1<_;omega) (λg=>by cases g) (λ_=>rfl))
  have e:∃k,ag m ⟨5,c.F.getD c.K 0,0,0,aa,⟨c.aj+1,false,0⟩⟩=({ m with l:=m.l.set (c.F.getD c.K 0).toNat ⟨c.aj+1,false,0⟩,aT:=k },⟨0,aa,false,0⟩) :=
   ⟨_,by unfold ag bv mw;simp only[d];rfl⟩
  obtain⟨k,e⟩:=e
  rw[e]
  refine .give P rfl rfl rfl ?_
  grind[bk,gk]
 ·have U:c.B=7:=by omega
  have r:=(h.ok.ba j).2.2.2.2.2 U
  have Z:=h.ok.len
  have p:=h.st _ (qY (l:=c.F) (k:=c.K) (by have:=Z.was;omega))
  have o:(au c).1=⟨5,c.F.getD c.K 0,0,0,aa,c.was.getD c.K aa⟩:=by grind[au]
  rw[o]
  have y:c.was.getD c.K aa=c.was[c.K]'r.1:=by rw[ge,dg r.1];rfl
  have t:=h.free _ (zae r.1)
  rw[<-y]at t
  have hv:(c.was.getD c.K aa).D<4611686018427387904:=by
   have h1:=JT Z r.1
   have hm:((c.F.getD c.K 0).toNat,(c.was.getD c.K aa).D)∈(X i).hd:=by
    rw[hX];unfold jX Ik;rw[zp j]
    simp only[U,or_true,if_true]
    refine Ok (i:=0) ?_
    grind
   have h2:=hi.own i z _ _ hm
   have h3:=(hi.v (c.F.getD c.K 0).toNat).2
   grind
  have d:nG m.l (c.F.getD c.K 0) (c.was.getD c.K aa)=0:=Lj p (xd hv (λg=>by rw[t.1]at g;cases g) (λ_=>t.2))
  have e:∃k,ag m ⟨5,c.F.getD c.K 0,0,0,aa,c.was.getD c.K aa⟩=({ m with l:=m.l.set (c.F.getD c.K 0).toNat (c.was.getD c.K aa),aT:=k },⟨0,aa,false,0⟩) :=
   ⟨_,by unfold ag bv mw;simp only[d];rfl⟩
  obtain⟨k,e⟩:=e
  rw[e]
  refine .leave U rfl rfl rfl ?_
  grind[bk,gk]
end
abbrev A0:Int:=871
abbrev AA:Int:=879
def jD (L:jZ)(τ:Int):Bool:=L.any λy=>decide (τ<y.1)
def ya {L:jZ}{τ:Int}:jD L τ=true↔∃y∈L,τ<y.1:=by grind[jD]
abbrev oz (b:Bool):Int:=if b=true then 1 else 0
def ft (a:az):Option ct:=match a.Z with
 | .com c=>if a.B=6/\c.Y.O=0 then some c else none
 |_=>none
def zX (a:az):Bool:=match ft a with
 |some c=>decide (c.B=5)||decide (c.B=6)||(decide (c.B=7)&&decide (c.O=4))
 |none=>decide (a.B=7)&&(decide (a.O=2)||decide (a.O=4))
def kQ (a:az):Bool:=match ft a with
 |some c=>decide (c.B=7)&&decide (c.O=5)
 |none=>decide (a.B=7)&&decide (a.O=5)
def Yy (a:az):Int:=match ft a with
 |some c=>c.aY
 |none=>a.aY
def Ho (a:az):Bool:=match ft a with
 |some c=>decide (c.B<=4)
 |none=>false
def BB (fine:Bool)(m:eO)(f:fe):Int:=if fine=false then 4 else if f.B=0 then 3 else if fV m f.N=f.ac then(if f.B=1 then 2 else 1)else(if f.B=1 then 4 else 3)
def K7 (e:mj):Int:=if e.aL=true then(e.ab.length:Int)-e.K else e.ab.length+1
abbrev xZ (a:az):Int:=255-a.v.k.length
def gw (fine:Bool)(m:eO)(L:jZ)(a:az):Int :=
 if a.B=0 then A0 else if a.B=1 then A0-1 else if a.B=2 then A0-2+21*oz (jD L a.I)
 else match a.Z with
  | .fetch f=>BB fine m f+3*(xZ a-1)+103+21*oz (jD L a.I)
  | .ext e=>if a.B=4 then K7 e+3*xZ a+103+21*oz (e.aL&&jD L e.I)else if a.B=5 then K7 e+2 else 1
  | .com c=>if a.B=6 then rC c+1 else 1
  | .none=>1
abbrev nj (a:az):Bool:=!zX a&&!kQ a
def io (L:jZ)(a:az):Bool:=nj a&&decide (2<=a.B)&&jD L a.I
def cA (fine:Bool)(m:eO)(L:jZ)(a:az):Int :=
 if nj a=true then(if io L a=true then gw fine m L a+AA else if fine=true then gw fine m L a else AA)
 else if fine=true then(if zX a=true then(if a.B=7 then A0+6 else A0+7)else(if a.B=7 then A0+3 else A0+4))else AA
abbrev rA (a:az):Int:=match ft a with|some c=>rC c|none=>0
abbrev wA (a:az):Int:=match ft a with|some c=>wC c|none=>0
abbrev uA (a:az):Int:=if Ho a=true\/(a.B=7/\a.O=3)then 0 else 1
section
variable {S:cv}{h0:Hp}{n i nl nw:Nat}{G:Gs}{m m':eO}{L:jZ}{a a':az}{c c':ct}{fine:Bool}
def Yi (h:c.Y.aR<=4):0<=WD c/\WD c<=4:=by grind[WD]
theorem jQ (h:a.Z=.com c)(d:a.B=6)(b:c.Y.O=0):ft a=some c:=by grind[ft]
theorem j5 (h:a.B≠6):ft a=none:=by
 unfold ft
 grind
def ahm (h:li c)(f:c.ab.length<=16)(e:c.Y.aR<=4):rC c<=102:=by
 have b:=h.a6;have d:=h.was;have a:=Yi e
 unfold rC
 split
 all_goals grind
def agI (h:mH c)(e:c.Y.O=0)(f:c.Y.aR<=4):0<=rC c:=by
 have d:=h.len.was;have b:=Yi f
 have a:=h.ba e
 unfold rC
 split
 all_goals grind
def UW {f:fe}:1<=BB fine m f/\BB fine m f<=4:=by
 unfold BB
 repeat' split
 all_goals omega
def td {f:fe}:BB false m f=4:=rfl
def acK {f:fe}:BB true m' f<=BB true m f+2:=by
 unfold BB
 repeat' split
 all_goals(first|omega|(simp_all<;>omega))
def xT {b:Bool}:0<=oz b/\oz b<=1:=by grind
end
structure GoO (a a':az):Prop where
 bl:(a'.B=5/\a'.aO=true)\/(a'.B≠5/\a'.aO=a.aO)
 k:a'.v.k=a.v.k
 I:a'.I=a.I
 rd:a'.rd=a.rd
 me:a'.me=a.me
 s:a'.s=a.s
 to:(a'.B=3/\∃p,a'.Z=.fetch (uq a.me p (ie p a.s.F a.s.wide) a.s.aR a.I))\/(a'.B=5/\a'.Z=.ext (HO a.me a.s.aR a.rd)) \/
  (a'.B=6/\∃cs ss,a'.Z=.com (ov a.me a.s.aR a.I a.rd cs ss))\/(a'.B=7/\(a'.O=2\/a'.O=4))
section
variable {S:cv}{h0:Hp}{n i nl nw:Nat}{G:Gs}{m m':eO}{L:jZ}{a a':az}{c c':ct}{fine:Bool}{ρ:qI}{f:fe}{e:mj}{X:Nat->Hx}
def ajy:(iu ρ a).1.aO=a.aO:=by unfold iu;split<;>rfl
def afr (d:da ρ)(e:∀r,a.run=some r->zW r a.v):(iu ρ a).1.v.k=a.v.k/\(iu ρ a).1.I=a.I/\(iu ρ a).1.rd=a.rd/\(iu ρ a).1.me=a.me/\(iu ρ a).1.s=a.s:=by
 unfold iu
 cases c:a.run with
 |none =>
  have b:=Te (l:=a.aD.drop a.aQ) (g:=a.aQ) (s:=a.v)
  exact⟨b.k,rfl,rfl,rfl,rfl⟩
 |some r=>exact⟨(d.q r a.v (e r c)).k,rfl,rfl,rfl,rfl⟩
def Kf (m:da ρ)(n:∀r,a.run=some r->zW r a.v):GoO a (iq ρ a):=by
 obtain⟨f,e,d,c,b⟩:=afr m n
 have g:=ajy (ρ:=ρ) (a:=a)
 unfold iq j0
 generalize iu ρ a=q at *
 obtain⟨y,h,l⟩:=q
 simp only at *
 by_cases i:h=1
 ·rw[zp i]
  exact⟨.inr ⟨zs,g⟩,f,e,d,c,b,.inl ⟨rfl,_,by show zT.fetch (uq y.me y.v.a9 (ie y.v.a9 y.s.F y.s.wide) y.s.aR y.I)=_;rw[c,b,e]⟩⟩
 rw[zn i]
 by_cases j:h=3
 ·rw[zp j]
  exact⟨.inl ⟨rfl,rfl⟩,f,e,d,c,b,.inr (.inl ⟨rfl,by show zT.ext (HO y.me y.s.aR y.rd)=_;rw[c,b,d]⟩)⟩
 rw[zn j]
 by_cases k:h=4
 ·rw[zp k]
  exact⟨.inr ⟨zs,g⟩,f,e,d,c,b,.inr (.inr (.inr ⟨rfl,.inr rfl⟩))⟩
 rw[zn k]
 split
 ·exact⟨.inr ⟨zs,g⟩,f,e,d,c,b,.inr (.inr (.inr ⟨rfl,.inl rfl⟩))⟩
 ·exact⟨.inr ⟨zs,g⟩,f,e,d,c,b,.inr (.inr (.inl ⟨rfl,_,_,by show zT.com (ov y.me y.s.aR y.I y.rd _ _)=_;rw[c,b,d,e]⟩))⟩
inductive OL (m:eO) (f f':fe):Prop
 |held:f.B≠1->(fV m f.N).held=true->((fV m f.N).ar > f.Y.me->f'={ f with B:=0 }) ->
   (¬(fV m f.N).ar > f.Y.me->(f'.Y.O=0/\{ f' with Y:=f.Y }={ f with B:=0 }/\Vd f'.Y f.Y.me)\/(f'.Y.O=5/\f'.Y.aY=(fV m f.N).ar))->OL m f f'
 |younger:f.B≠1->(fV m f.N).held=false->(fV m f.N).D > f.I->f'.Y.O=6->OL m f f'
 |look:f.B≠1->(fV m f.N).held=false->(f.B=2->fV m f.N≠f.ac)->f'={ f with B:=1,ac:=fV m f.N }->OL m f f'
 |word (w:Int):f.B=1->f'={ f with word:=w,B:=2 }->OL m f f'
 |done:f.B=2->fV m f.N=f.ac->f'.Y.O=2->f'.N=f.N->f'.ac=f.ac->OL m f f'
def SX (y:f.Y.O=0)(A:f.B=0\/f.B=1\/f.B=2)(z:0<=f.N/\f.N<m.l.length)(E:1<=f.J/\f.J<m.w.length)(t:Vd f.Y f.Y.me)(C:f.B≠0->f.ac.held=false):SM m (ag m (dt f).1).1/\OL m f (bp f (ag m (dt f).1).2):=by
 obtain⟨_,v,x⟩:=t
 by_cases d:f.B=1
 ·have n:(dt f).1=⟨1,f.J,0,0,aa,aa⟩:=by grind[dt]
  rw[n]
  have o:lg f.J m.w=true:=by grind[lg]
  have e:∃k,ag m ⟨1,f.J,0,0,aa,aa⟩=({ m with aT:=k },⟨m.w.getD f.J.toNat 0,aa,false,0⟩):=⟨_,by unfold ag bv;simp only[o];rfl⟩
  obtain⟨k,e⟩:=e
  rw[e]
  refine⟨.bF,.word (m.w.getD f.J.toNat 0) d ?_⟩
  grind[bp,gk]
 ·have n:(dt f).1=⟨3,f.N,0,0,aa,aa⟩:=by grind[dt]
  rw[n]
  obtain⟨k,e⟩:=zi (a:=0) (b:=0) (u:=aa) (w:=aa) z
  rw[e]
  refine⟨.bF,?_⟩
  show OL m f (bp f ⟨0,fV m f.N,false,0⟩)
  have r:bp f ⟨0,fV m f.N,false,0⟩=if f.B=2/\fV m f.N=f.ac then { f with Y:=f.Y.bn 2 0 (-1) }else mO f (fV m f.N):=by grind[bp,gk]
  rw[r]
  by_cases h:f.B=2/\fV m f.N=f.ac
  ·rw[zp h]
   exact .done h.1 h.2 rfl rfl rfl
  ·rw[zn h]
   unfold mO
   by_cases c:(fV m f.N).held=true
   ·rw[zp c]
    unfold qM.waits
    by_cases i:(fV m f.N).ar > f.Y.me
    ·rw[zp i]
     simp only[if_true]
     exact .held d c (λ_=>rfl) λg=>absurd i g
    ·rw[zn i]
     have q:IntKind.wrap .i64 (f.Y.aR-1)=f.Y.aR-1:=jL zo zo
     simp only[q]
     by_cases p:f.Y.aR-1≥0
     ·rw[zp (by simpa using p)]
      exact .held d c (λg=>absurd g i) λ_=>.inl ⟨y,rfl,rfl,p,by simp only;omega⟩
     ·rw[zn (by simpa using p)]
      exact .held d c (λg=>absurd g i) λ_=>.inr ⟨rfl,rfl⟩
   ·rw[zn c]
    have c:(fV m f.N).held=false:=by grind
    by_cases j:(fV m f.N).D > f.I
    ·rw[zp j]
     exact .younger d c j rfl
    ·rw[zn j]
     exact .look d c (λg s=>h ⟨g,s⟩) rfl
inductive R1 (m:eO) (e e':mj):Prop
 |load:e.aL=false->e'=mT { e with aL:=true,I:=m.n }->R1 m e e'
 |held:e.aL=true->(fV m (e.ab.getD e.K ⟨0,0⟩).N).held=true->((fV m (e.ab.getD e.K ⟨0,0⟩).N).ar > e.Y.me->e'=e) ->
   (¬(fV m (e.ab.getD e.K ⟨0,0⟩).N).ar > e.Y.me->(e'.Y.O=0/\{ e' with Y:=e.Y }=e/\Vd e'.Y e.Y.me)\/(e'.Y.O=5/\e'.Y.aY=(fV m (e.ab.getD e.K ⟨0,0⟩).N).ar))->R1 m e e'
 |on:e.aL=true->(fV m (e.ab.getD e.K ⟨0,0⟩).N).D=(e.ab.getD e.K ⟨0,0⟩).D->e'=mT { e with K:=e.K+1 }->R1 m e e'
 |bad:e.aL=true->(fV m (e.ab.getD e.K ⟨0,0⟩).N).D≠(e.ab.getD e.K ⟨0,0⟩).D->e'.Y.O=5->e'.Y.aY=-1->R1 m e e'
def Y2 (r:e.Y.O=0)(y:Sg e)(q:∀z∈e.ab,0<=z.N/\z.N<m.l.length)(x:Vd e.Y e.Y.me):SM m (ag m (gO e).1).1/\R1 m e (fa e (ag m (gO e).1).2):=by
 obtain⟨_,A,B⟩:=x
 by_cases d:e.aL=true
 ·have f:=y r d
  have v:e.ab.getD e.K ⟨0,0⟩=e.ab[e.K]:=by rw[ge,dg f];rfl
  have q:=q _ (zae f)
  rw[<-v]at q
  have j:(gO e).1=⟨3,(e.ab.getD e.K ⟨0,0⟩).N,0,0,aa,aa⟩:=by grind[gO]
  rw[j]
  obtain⟨k,i⟩:=zi (a:=0) (b:=0) (u:=aa) (w:=aa) q
  rw[i]
  refine⟨.bF,?_⟩
  show R1 m e (fa e ⟨0,fV m (e.ab.getD e.K ⟨0,0⟩).N,false,0⟩)
  generalize c:fV m (e.ab.getD e.K ⟨0,0⟩).N=l
  have t:fa e ⟨0,l,false,0⟩=if l.held=true then(if(e.Y.waits l.ar).2=true then { e with Y:=(e.Y.waits l.ar).1 }else { e with Y:=(e.Y.waits l.ar).1.bn 5 0 l.ar })
    else if l.D=(e.ab.getD e.K ⟨0,0⟩).D then mT { e with K:=e.K+1 }else { e with Y:=e.Y.bn 5 0 (-1) }:=by
   unfold fa
   rw[gk,zp r,zn (by rw[d];simp)]
  rw[t]
  split
  ·rename_i p
   unfold qM.waits
   by_cases h:l.ar > e.Y.me
   ·rw[zp h]
    simp only[if_true]
    exact .held d (by rw[c];exact p) (λ_=>rfl) λg=>absurd (by rw[c];exact h) g
   ·rw[zn h]
    have s:IntKind.wrap .i64 (e.Y.aR-1)=e.Y.aR-1:=jL zo zo
    simp only[s]
    by_cases o:e.Y.aR-1≥0
    ·rw[zp (by simpa using o)]
     exact .held d (by rw[c];exact p) (λg=>absurd (by rw[c]at g;exact g) h) λ_=>.inl ⟨r,rfl,rfl,o,by simp only;omega⟩
    ·rw[zn (by simpa using o)]
     exact .held d (by rw[c];exact p) (λg=>absurd (by rw[c]at g;exact g) h) λ_=>.inr ⟨rfl,by rw[c];rfl⟩
  ·split
   ·rename_i g
    exact .on d (by rw[c];exact g) rfl
   ·rename_i g
    exact .bad d (by rw[c];exact g) rfl rfl
 ·have d:e.aL=false:=by grind
  have j:(gO e).1=⟨6,0,0,0,aa,aa⟩:=by grind[gO]
  rw[j]
  have i:∃k,ag m ⟨6,0,0,0,aa,aa⟩=({ m with aT:=k },⟨m.n,aa,false,0⟩):=⟨_,rfl⟩
  obtain⟨k,i⟩:=i
  rw[i]
  refine⟨.bF,.load d ?_⟩
  grind[fa,aa,gk]
end
structure Pf where
 lv:Bool
 cf:Int
 cn:Int
 o:Bool
 u:Int
 d:Int
 r:Int
 w:Int
 cm:Bool
 wr:Bool
 bt:Int
 ex:Nat->Bool
abbrev Ps:=Nat->Pf
abbrev Wt:Nat->Int
 |0=>832
 |1=>416
 |2=>208
 |_=>104
abbrev KK:Int:=5400
def tm (p:Ps):Nat:=if(p 0).lv=true then 0 else if(p 1).lv=true then 1 else if(p 2).lv=true then 2 else if(p 3).lv=true then 3 else 4
def JZ (p:Ps)(i:Nat):Bool:=(decide (i≠0)&&(p 0).wr)||(decide (i≠1)&&(p 1).wr)||(decide (i≠2)&&(p 2).wr)||(decide (i≠3)&&(p 3).wr)
def cP (p:Ps)(i:Nat):Int:=if tm p=i/\((p i).o=true\/JZ p i=false)then(p i).cf else(p i).cn
abbrev iy (p:Ps)(i:Nat):Int:=Wt i*((p i).u+oz (p i).o)+KK*(p i).d+(p i).r+(p i).w
abbrev tP (p:Ps)(i j:Nat):Int:=oz ((p j).cm&&!(p i).ex j)
abbrev mC (p:Ps):Int:=Wt 1*tP p 1 0+Wt 2*(tP p 2 0+tP p 2 1)+Wt 3*(tP p 3 0+tP p 3 1+tP p 3 2)
abbrev QR (p:Ps)(i:Nat):Bool:=(p i).cm&&!(p i).wr
def qO (p:Ps):Int:=if QR p 3=true then(p 3).bt else if QR p 2=true then(p 2).bt else if QR p 1=true then(p 1).bt else if QR p 0=true then(p 0).bt else 0
abbrev Ei (p:Ps):Int:=cP p 0+cP p 1+cP p 2+cP p 3
abbrev Cg (p:Ps):Int:=iy p 0+iy p 1+iy p 2+iy p 3
def jq (p:Ps):Int:=Ei p+Cg p+mC p-qO p
section
variable {p p':Ps}{i j:Nat}
def Iy {f f':Nat->Int}(hi:i<4){δ:Int}(h:∀j,j<4->j≠i->f' j<=f j)(hd:f' i<=f i+δ):f' 0+f' 1+f' 2+f' 3<=f 0+f 1+f 2+f 3+δ:=by grind
def Ou (h:∀j,j<4->(p' j).lv=(p j).lv):tm p'=tm p:=by
 unfold tm
 rw[h 0 zo,h 1 zo,h 2 zo,h 3 zo]
theorem OY (h:∀j,j<4->j≠i->(p' j).wr=(p j).wr):JZ p' i=JZ p i:=by
 unfold JZ
 by_cases a:i=0
 ·subst a;rw[h 1 zo zo,h 2 zo zo,h 3 zo zo];simp
 by_cases b:i=1
 all_goals grind
theorem tO:tm p<4->(p (tm p)).lv=true:=by
 unfold tm
 split
 all_goals grind
def pK (h:(p j).lv=true)(hj:j<4):tm p<=j:=by
 unfold tm
 have:j=0\/j=1\/j=2\/j=3:=by omega
 rcases this with rfl|rfl|rfl|rfl
 all_goals grind
def ajA (h:(p j).lv=true)(hj:j<4)(b:∀k,k<j->(p k).lv=false):tm p=j:=by
 have a:=pK h hj
 grind[tm,tO]
def Tj:JZ p i=true↔∃j,j<4/\j≠i/\(p j).wr=true:=by
 unfold JZ
 simp only[zaw,GE,decide_eq_true_eq]
 constructor
 all_goals grind
def L0 {α δ:Int}(n:0<=α)(hi:i<4)(e:∀j,j<4->(p' j).lv=(p j).lv)(m:∀j,j<4->(p' j).wr=(p j).wr)(r:∀j,j<4->j≠i->(p' j).o=(p j).o)
  (t:∀j,j<4->j≠i->(p' j).cn<=(p j).cn) (q:∀j,j<4->j≠i->(p' j).cf<=(p j).cf+α) (s:cP p' i<=cP p i+δ):Ei p'<=Ei p+α+δ:=by
 have l:=Ou e
 have b:∀j,j<4->j≠i->cP p' j<=cP p j+(if tm p=j then α else 0):=λj hj a=>by
  unfold cP
  grind[OY]
 have d:∀j,j<4->j≠i->(λk=>cP p' k) j<=(λk=>cP p k+(if tm p=k then α else 0)) j:=λj hj a=>b j hj a
 have c:=Iy (f:=λk=>cP p k+(if tm p=k then α else 0)) (f':=λk=>cP p' k) (δ:=δ) hi d (by show cP p' i<=cP p i+(if tm p=i then α else 0)+δ;split<;>omega)
 have c:cP p' 0+cP p' 1+cP p' 2+cP p' 3<=cP p 0+(if tm p=0 then α else 0)+(cP p 1+(if tm p=1 then α else 0))+(cP p 2+(if tm p=2 then α else 0))+(cP p 3+(if tm p=3 then α else 0))+δ:=c
 have g:(if tm p=0 then α else 0)+(if tm p=1 then α else 0)+(if tm p=2 then α else 0)+(if tm p=3 then α else 0)<=α:=by
  by_cases h:tm p=0
  all_goals grind
 grind
def SF {δ:Int}(hi:i<4)(r:∀j,j<4->j≠i->(p' j).lv=(p j).lv)(D:(p' i).lv=true->(p i).lv=true)(B:∀j,j<4->j≠i->(p' j).wr=(p j).wr)(C:(p' i).wr=true->(p i).wr=true)(E:∀j,j<4->j≠i->(p' j).o=(p j).o)
  (t:∀j,j<4->j≠i->(p' j).cn<=(p j).cn) (q:∀j,j<4->j≠i->(p' j).cf<=(p j).cf) (s:∀j,j<4->j≠i->(p' j).cf<=(p j).cn) (A:cP p' i<=cP p i+δ):Ei p'<=Ei p+δ:=by
 refine Iy (f:=λk=>cP p k) (f':=λk=>cP p' k) hi (λj hj a=>?_) A
 have w:=t j hj a
 have v:=q j hj a
 have u:=s j hj a
 show cP p' j<=cP p j
 unfold cP
 by_cases g:tm p=j/\((p j).o=true\/JZ p j=false)
 ·rw[zp g]
  have m:(p j).lv=true:=by grind[tO]
  have z:tm p'=j:=ajA (by rw[r j hj a];exact m) hj λk x=>by
   cases l:(p' k).lv with
   |false=>rfl
   |true =>
    have b:(p k).lv=true:=by grind
    have:=pK b zo
    omega
  have c:JZ p j=false->JZ p' j=false:=λh=>by
   cases e:JZ p' j with
   |false=>rfl
   |true =>
    obtain⟨k,d,n,y⟩:=Tj.1 e
    have b:(p k).wr=true:=by grind
    have:=Tj.2 ⟨k,d,n,b⟩
    grind
  grind
 all_goals grind
def ae5 {f f':Nat->Int}(hi:i<4){α δ:Int}(h:∀j,j<4->j≠i->f' j<=f j+α)(hd:f' i<=f i+δ):f' 0+f' 1+f' 2+f' 3<=f 0+f 1+f 2+f 3+3*α+δ:=by grind
def Yh {δ:Int}(hi:i<4)(h:∀j,j<4->j≠i->(p' j).cf<=(p j).cf+906/\(p' j).cf<=(p j).cn+906/\(p' j).cn<=(p j).cf+906/\(p' j).cn<=(p j).cn+906)(g:cP p' i<=cP p i+δ):Ei p'<=Ei p+3*906+δ:=by
 refine ae5 (f:=λk=>cP p k) (f':=λk=>cP p' k) hi (λj hj a=>?_) g
 obtain⟨d,e,c,b⟩:=h j hj a
 show cP p' j<=cP p j+906
 unfold cP
 grind
def SJ (hi:i<4)(I:(p i).wr=true)(z:∀j,j<4->(p' j).wr=(p j).wr)(A:(p' i).lv=(p i).lv/\(p' i).o=(p i).o/\(p' i).cf=(p i).cf/\(p' i).cn=(p i).cn/\(p i).cn<=(p i).cf+3)
  (h:∀j,j<4->j≠i->((p' j).lv=(p j).lv/\(p' j).o=(p j).o/\(p' j).cf<=(p j).cf+3/\(p' j).cn=(p j).cn/\((p j).o=true->(p j).cn<=(p j).cf+3))\/((p j).lv=false/\(p' j).cf<=(p j).cn/\(p' j).cn<=(p j).cn/\(p j).cf=(p j).cn)):Ei p'<=Ei p+3:=by
 have v:∀j,j<4->JZ p' j=JZ p j:=λj _=>OY λk y _=>z k y
 have d:∀j,j<4->(p j).lv=true->(p' j).lv=true:=λj hj x=>by
  by_cases e:j=i
  all_goals grind
 have b:∀j,j<4->cP p' j<=cP p j+(if tm p=j then 3 else 0):=λj hj=>by
  by_cases t:tm p=j
  ·rw[zp t]
   have x:(p j).lv=true:=by grind[tO]
   by_cases e:j=i
   ·grind[cP]
   ·rcases h j hj e with⟨q,n,r,l,s⟩|⟨a,_⟩
    ·have B:JZ p j=true:=Tj.2 ⟨i,hi,λg=>e g.symm,I⟩
     unfold cP
     grind
    all_goals grind
  ·rw[zn t]
   by_cases e:j=i
   ·subst e
    obtain⟨q,n,r,l,s⟩:=A
    have m:¬tm p'=j:=λg=>by
     have c:(p j).lv=true:=by grind[tO]
     have w:=pK c hj
     have f:=tO (p:=p) zo
     have u:=pK (d _ zo f) zo
     omega
    grind[cP]
   ·rcases h j hj e with⟨q,n,r,l,s⟩|⟨q,n,r,l⟩
    ·have m:¬tm p'=j:=λg=>by
      have c:(p j).lv=true:=by grind[tO]
      have w:=pK c hj
      have f:=tO (p:=p) zo
      have u:=pK (d _ zo f) zo
      omega
     grind[cP]
    all_goals grind[cP,tm]
 have E:=b 0 zo
 have C:=b 1 zo
 have H:=b 2 zo
 have F:=b 3 zo
 show cP p' 0+cP p' 1+cP p' 2+cP p' 3<=cP p 0+cP p 1+cP p 2+cP p 3+3
 by_cases D:tm p=0
 all_goals grind
def UG {b:Bool}:0<=oz b/\oz b<=1:=by grind
def zu (h:∀k j,k<4->j<k->tP p' k j<=tP p k j):mC p'<=mC p:=by grind
def acm (hi:i<4)(hj:j<i)(h:∀k j,k<4->j<k->tP p' k j<=tP p k j)(l:tP p i j=1)(h0:tP p' i j=0):mC p'+Wt i<=mC p:=by
 have a:=h 1 0 zo zo;have b:=h 2 0 zo zo;have c:=h 2 1 zo zo
 have d:=h 3 0 zo zo;have e:=h 3 1 zo zo;have f:=h 3 2 zo zo
 show 416*tP p' 1 0+208*(tP p' 2 0+tP p' 2 1)+104*(tP p' 3 0+tP p' 3 1+tP p' 3 2)+Wt i<=416*tP p 1 0+208*(tP p 2 0+tP p 2 1)+104*(tP p 3 0+tP p 3 1+tP p 3 2)
 have g:(i=1/\j=0)\/(i=2/\j=0)\/(i=2/\j=1)\/(i=3/\j=0)\/(i=3/\j=1)\/(i=3/\j=2):=by omega
 rcases g with⟨rfl,rfl⟩|⟨rfl,rfl⟩|⟨rfl,rfl⟩|⟨rfl,rfl⟩|⟨rfl,rfl⟩|⟨rfl,rfl⟩
 all_goals
  generalize tP p' 1 0=x1 at *;generalize tP p' 2 0=x2 at *;generalize tP p' 2 1=x3 at *;generalize tP p' 3 0=x4 at *;generalize tP p' 3 1=x5 at *;generalize tP p' 3 2=x6 at *
  generalize tP p 1 0=y1 at *;generalize tP p 2 0=y2 at *;generalize tP p 2 1=y3 at *;generalize tP p 3 0=y4 at *;generalize tP p 3 1=y5 at *;generalize tP p 3 2=y6 at *
  show _+(_:Int)<=_
  simp only[Wt]
  omega
def Yj (hi:i<4)(h:∀k j,k<4->j<k->j≠i->tP p' k j<=tP p k j):mC p'<=mC p+(Wt i-104):=by
 have l:∀q:Ps,∀k j,0<=tP q k j/\tP q k j<=1:=λq k j=>UG
 show 416*tP p' 1 0+208*(tP p' 2 0+tP p' 2 1)+104*(tP p' 3 0+tP p' 3 1+tP p' 3 2)<=416*tP p 1 0+208*(tP p 2 0+tP p 2 1)+104*(tP p 3 0+tP p 3 1+tP p 3 2)+(Wt i-104)
 have m:i=0\/i=1\/i=2\/i=3:=by omega
 have n:=l p' 1 0;have w:=l p' 2 0;have v:=l p' 2 1;have r:=l p' 3 0;have y:=l p' 3 1;have u:=l p' 3 2
 have o:=l p 1 0;have A:=l p 2 0;have s:=l p 2 1;have z:=l p 3 0;have t:=l p 3 1;have x:=l p 3 2
 have a:=λg=>h 1 0 zo zo g;have b:=λg=>h 2 0 zo zo g;have c:=λg=>h 2 1 zo zo g
 have d:=λg=>h 3 0 zo zo g;have e:=λg=>h 3 1 zo zo g;have f:=λg=>h 3 2 zo zo g
 grind
def Ag (h:∀j,j<4->0<=(p j).bt/\(p j).bt<=1):0<=qO p/\qO p<=1:=by
 have b:=h 0 zo;have c:=h 1 zo;have d:=h 2 zo;have a:=h 3 zo
 unfold qO
 repeat' split
 all_goals omega
def WM (b:∀j,j<4->QR p' j=QR p j)(a:∀j,j<4->(p j).bt<=(p' j).bt):qO p<=qO p':=by
 have d:=a 0 zo;have e:=a 1 zo;have f:=a 2 zo;have c:=a 3 zo
 unfold qO
 rw[b 0 zo,b 1 zo,b 2 zo,b 3 zo]
 split
 all_goals grind
def aas (hi:i<4)(b:∀j,j<4->j≠i->QR p' j=QR p j)(m:QR p' i=false)(d:∀j,j<4->j≠i->(p j).bt<=(p' j).bt)(hb:∀j,j<4->0<=(p' j).bt)(h0:(p i).bt=0):qO p<=qO p':=by
 have f:i=0\/i=1\/i=2\/i=3:=by omega
 have l:=hb 0 zo;have h:=hb 1 zo;have g:=hb 2 zo;have k:=hb 3 zo
 have a:=λj hj=>b j hj
 have c:=λj hj=>d j hj
 have e:0<=qO p':=by
  unfold qO
  repeat' split
  all_goals omega
 unfold qO at e ⊢
 rcases f with rfl|rfl|rfl|rfl
 ·rw[b 1 zo zo,b 2 zo zo,b 3 zo zo]at e ⊢
  have:=d 1 zo zo;have:=d 2 zo zo;have:=d 3 zo zo
  repeat' split
  all_goals(first|omega|(simp_all<;>omega))
 ·rw[b 0 zo zo,b 2 zo zo,b 3 zo zo]at e ⊢
  have:=d 0 zo zo;have:=d 2 zo zo;have:=d 3 zo zo
  repeat' split
  all_goals(first|omega|(simp_all<;>omega))
 ·rw[b 0 zo zo,b 1 zo zo,b 3 zo zo]at e ⊢
  have:=d 0 zo zo;have:=d 1 zo zo;have:=d 3 zo zo
  repeat' split
  all_goals(first|omega|(simp_all<;>omega))
 ·rw[b 0 zo zo,b 1 zo zo,b 2 zo zo]at e ⊢
  have:=d 0 zo zo;have:=d 1 zo zo;have:=d 2 zo zo
  repeat' split
  all_goals(first|omega|(simp_all<;>omega))
end
def pF (x:bm):Option az:=if x.B=1 then x.aj else none
abbrev tu (x:bm):Int:=(x.aw.length:Int)-x.aI
def cT (fine:Bool)(m:eO)(L:jZ)(x:bm):Int :=
 if x.B=1 then(match x.aj with|some a=>cA fine m L a|none=>0)
 else if x.B=2 then(if fine=true then A0+2 else AA)
 else if x.B=3 then(if fine=true then A0 else AA)+x.aS
 else if x.B=4 then(match x.aj with|some a=>if jD L a.I=true then AA else 0|none=>0)
 else if x.B=5 then(if fine=true then A0+1+(x.s.aB-x.aK.length)else AA)
 else 0
def oT (L:jZ)(x:bm):Bool :=
 if x.B=1 then(match x.aj with|some a=>io L a|none=>false)
 else if x.B=4 then(match x.aj with|some a=>jD L a.I|none=>false)else false
def uT (x:bm):Int:=if x.B=4\/x.B=6 then 0 else match pF x with|some a=>uA a|none=>1
def dT (x:bm):Int:=if x.B=6 then 0 else if x.B=5 then 2*tu x-1
 else(if x.aE=true then 2*tu x-1 else 2*tu x)-(match pF x with|some a=>oz (zX a)|none=>0)
abbrev fq (x:bm):Option ct:=(pF x).bind ft
def Vf (c:ct):Bool:=decide (c.B=5)||decide (c.B=6)
def nU (m:eO)(c:ct):Int:=if c.B=1 then oz (decide (fV m (c.F.getD c.was.length 0)=c.ac))else if c.B=3 then oz (decide (m.n=c.aj))else 0
def Gc (m:eO)(x:bm)(j:Nat):Bool:=(match pF x with|some a=>kQ a&&decide (Yy a=j)|none=>false)||(decide (x.B=2)&&decide (x.aY=j)&&(!x.c2||decide (x.cl=m.s.getD j 0)))
def fv (m:eO)(L:jZ)(x:bm):Pf where
 lv:=!decide (x.B=4)&&!decide (x.B=6)
 cf:=cT true m L x
 cn:=cT false m L x
 o:=oT L x
 u:=uT x
 d:=dT x
 r:=match fq x with|some c=>rC c|none=>0
 w:=match fq x with|some c=>wC c|none=>0
 cm:=(fq x).isSome
 wr:=match fq x with|some c=>Vf c|none=>false
 bt:=match fq x with|some c=>nU m c|none=>0
 ex:=Gc m x
def pf0:Pf:=⟨false,0,0,false,0,0,0,0,false,false,0,λ_=>false⟩
def av (x:eU)(L:jZ):Ps:=λk=>match x.ad[k]? with|some t=>fv x.mem L t|none=>pf0
section
variable {S:cv}{h0:Hp}{n i j nl nw:Nat}{G:Gs}{m m':eO}{L L':jZ}{a a':az}{c c':ct}{fine:Bool}{x x':eU}{t t':bm}
def LF:0<=nU m c/\nU m c<=1:=by
 unfold nU
 grind
def adS:0<=(fv m L t).bt/\(fv m L t).bt<=1:=by
 show 0<=(match fq t with|some c=>nU m c|none=>0:Int)/\(match fq t with|some c=>nU m c|none=>0:Int)<=1
 split
 ·exact LF
 ·omega
theorem bo (h:x.ad[i]? = some t):av x L i=fv x.mem L t:=by grind[av]
def zD (k:Nat):0<=(av x L k).bt/\(av x L k).bt<=1:=by
 unfold av
 split
 ·exact adS
 ·exact⟨zab _,zd⟩
def ac1 {f:fe}(h:m'.l=m.l):BB fine m' f=BB fine m f:=by unfold BB fV;rw[h]
theorem FB (h:m'.l=m.l):gw fine m' L a=gw fine m L a:=by
 unfold gw
 simp only[ac1 h]
def af6 (h:m'.l=m.l):cA fine m' L a=cA fine m L a:=by grind[cA,FB]
theorem Ju (h:m'.l=m.l):cT fine m' L t=cT fine m L t:=by
 unfold cT
 cases t.aj with
 |none=>rfl
 |some a=>simp only[af6 h]
def agc (h:SM m m'):fv m' L t=fv m L t:=by
 have b:nU m'=nU m:=by funext c;unfold nU fV;rw[h.l,h.n]
 have a:Gc m' t=Gc m t:=by funext k;unfold Gc;rw[h.s]
 unfold fv
 rw[Ju h.l,Ju h.l,b,a]
def agh (b:m'.l=m.l)(d:m'.n=m.n)(e:∀k,k≠j->m'.s.getD k 0=m.s.getD k 0):fv m' L t={ fv m L t with ex:=Gc m' t }/\∀k,k≠j->Gc m' t k=Gc m t k:=by
 have a:nU m'=nU m:=by funext c;unfold nU fV;rw[b,d]
 grind[Gc,fv,Ju]
def abl:gw true m' L a<=gw true m L a+2:=by
 unfold gw
 split
 ·omega
 split
 ·omega
 split
 ·omega
 split
 ·rename_i f _
  have b:=acK (m:=m) (m':=m') (f:=f)
  omega
 all_goals grind
def afB:gw false m' L a=gw false m L a:=by
 unfold gw
 simp only[td]
def ZP:cT true m' L t<=cT true m L t+2:=by
 unfold cT
 split
 ·cases t.aj with
  |none=>simp only;omega
  |some a =>
   simp only
   have:=abl (m:=m) (m':=m') (L:=L) (a:=a)
   grind[cA]
 grind
def aew:cT false m' L t=cT false m L t:=by
 unfold cT
 cases t.aj with
 |none=>rfl
 |some a=>simp only[cA,afB (m:=m) (m':=m')]
end
def phi_le {p p':Ps}{a b c d:Int}(g:Ei p'<=Ei p+a)(h:Cg p'<=Cg p+b)(f:mC p'<=mC p+c)(e:qO p<=qO p'+d):jq p'<=jq p+(a+b+c+d):=by grind[jq]
structure Mv (x x':eU)(i:Nat)(t t':bm):Prop where
 aG:x.ad[i]? = some t
 bq:x'.ad[i]? = some t'
 ot:∀j,j≠i->x'.ad[j]? = x.ad[j]?
structure Sl (m m':eO)(i:Nat):Prop where
 l:m'.l=m.l
 n:m'.n=m.n
 s:∀k,k≠i->m'.s.getD k 0=m.s.getD k 0
def SM.sl {m m':eO}(h:SM m m')(i:Nat):Sl m m' i:=⟨h.l,h.n,λ_ _=>by rw[h.s]⟩
section
variable {S:cv}{h0:Hp}{n i j nl nw:Nat}{m m':eO}{L L':jZ}{x x':eU}{t t':bm}{δ ε:Int}
def Mv.ps (h:Mv x x' i t t')(c:Sl x.mem x'.mem i)(hj:j≠i):∃e,av x' L j={ av x L j with ex:=e }/\∀k,k≠i->e k=(av x L j).ex k:=by
 unfold av
 rw[h.ot j hj]
 cases x.ad[j]? with
 |none=>exact⟨_,rfl,λ_ _=>rfl⟩
 |some u =>
  obtain⟨a,b⟩:=agh (t:=u) (L:=L) c.l c.n c.s
  exact⟨_,a,b⟩
def Mv.f (h:Mv x x' i t t')(c:Sl x.mem x'.mem i)(hj:j≠i):(av x' L j).lv=(av x L j).lv/\(av x' L j).cf=(av x L j).cf/\(av x' L j).cn=(av x L j).cn/\(av x' L j).o=(av x L j).o/\(av x' L j).wr=(av x L j).wr/\(av x' L j).cm=(av x L j).cm/\(av x' L j).bt=(av x L j).bt/\iy (av x' L) j=iy (av x L) j/\∀k,k≠i->(av x' L j).ex k=(av x L j).ex k:=by
 obtain⟨e,a,b⟩:=h.ps (L:=L) c hj
 unfold iy
 rw[a]
 grind
abbrev tz (i:Nat)(f:Pf):Int:=Wt i*(f.u+oz f.o)+KK*f.d+f.r+f.w
structure Own (i:Nat)(f f':Pf):Prop where
 cm:f'.cm=true->f.cm=true
 ex:∀k,k<i->f.ex k=true->f'.ex k=true
 lk:((f'.cm&&!f'.wr)=(f.cm&&!f.wr)/\f.bt<=f'.bt)\/((f'.cm&&!f'.wr)=false/\f.bt=0)
theorem Ea (h:x.ad[i]? = some t):QR (av x L) i=((fv x.mem L t).cm&&!(fv x.mem L t).wr):=by unfold QR;rw[bo h]
def KH (hi:i<4)(h:Mv x x' i t t')(v:Sl x.mem x'.mem i)(A:SM x.mem x'.mem\/(fv x'.mem L t').cm=false)(w:Own i (fv x.mem L t) (fv x'.mem L t')) :
  (∀k j,k<4->j<k->tP (av x' L) k j<=tP (av x L) k j)/\qO (av x L)<=qO (av x' L):=by
 have c:∀{b b':Bool},(b'=true->b=true)->oz b'<=oz b:=λ{b b'} h=>by cases b<;>cases b'<;>simp_all [oz]
 refine⟨λk j y s=>?_,?_⟩
 ·unfold tP
  refine c ?_
  simp only[GE,zaH]
  rintro⟨g,r⟩
  by_cases o:j=i
  ·subst o
   have d:k≠j:=by omega
   rw[bo h.bq]at g
   refine⟨by rw[bo h.aG];exact w.cm g,?_⟩
   rcases A with q|q
   ·have:av x' L k=av x L k:=by
     unfold av
     rw[h.ot k d]
     cases x.ad[k]? with
     |none=>rfl
     |some u=>exact agc q
    grind
   all_goals grind
  ·have hj:=h.f (L:=L) v o
   rw[hj.2.2.2.2.2.1]at g
   refine⟨g,?_⟩
   by_cases d:k=i
   ·subst d
    rw[bo h.bq]at r
    rw[bo h.aG]
    cases z:(fv x.mem L t).ex j with
    |false=>rfl
    |true=>rw[w.ex j s z]at r;cases r
   ·have y:=(h.f (L:=L) v d).2.2.2.2.2.2.2.2 j o
    grind
 ·have l:∀j,j<4->j≠i->QR (av x' L) j=QR (av x L) j:=λj _ hj=>by
   obtain⟨_,_,_,_,a,b,_⟩:=h.f (L:=L) v hj
   grind
  have m:∀j,j<4->j≠i->(av x L j).bt<=(av x' L j).bt:=λj _ hj=>by rw[(h.f (L:=L) v hj).2.2.2.2.2.2.1];omega
  rcases w.lk with⟨p,n⟩|⟨p,n⟩
  ·refine WM (λj hj=>?_) λj hj=>?_
   ·by_cases e:j=i
    ·subst e;rw[Ea h.bq,Ea h.aG];exact p
    all_goals grind
   ·by_cases e:j=i
    ·subst e;rw[bo h.bq,bo h.aG];exact n
    all_goals grind
  ·exact aas hi l (by rw[Ea h.bq];exact p) m (λj _=>(zD j).1) (by rw[bo h.aG];exact n)
def Ej (hi:i<4)(h:Mv x x' i t t')(b:Sl x.mem x'.mem i)(c:tz i (fv x'.mem L t')<=tz i (fv x.mem L t)+ε):Cg (av x' L)<=Cg (av x L)+ε:=by
 refine Iy (f:=λk=>iy (av x L) k) (f':=λk=>iy (av x' L) k) hi (λj hj a=>?_) ?_
 ·show iy (av x' L) j<=iy (av x L) j
  rw[(h.f (L:=L) b a).2.2.2.2.2.2.2.1];omega
 ·show iy (av x' L) i<=iy (av x L) i+ε
  unfold iy
  rw[bo h.bq,bo h.aG];exact c
def KS (hi:i<4)(h:Mv x x' i t t')(b:Sl x.mem x'.mem i)(d:(fv x'.mem L t').lv=(fv x.mem L t).lv)(c:(fv x'.mem L t').wr=(fv x.mem L t).wr)(g:cP (av x' L) i<=cP (av x L) i+δ):Ei (av x' L)<=Ei (av x L)+δ:=by
 have:=L0 (p:=av x L) (p':=av x' L) (α:=0) (δ:=δ) (zab _) hi (λj hj=>?_) (λj hj=>?_) (λj hj a=>(h.f b a).2.2.2.1) (λj hj a=>by rw[(h.f (L:=L) b a).2.2.1];omega) (λj hj a=>by rw[(h.f (L:=L) b a).2.1];omega) g
 ·omega
 ·by_cases e:j=i
  ·subst e;rw[bo h.bq,bo h.aG];exact d
  ·exact(h.f b e).1
 ·by_cases e:j=i
  ·subst e;rw[bo h.bq,bo h.aG];exact c
  ·exact(h.f b e).2.2.2.2.1
def ow (hi:i<4)(h:Mv x x' i t t')(a:Sl x.mem x'.mem i)(l:SM x.mem x'.mem\/(fv x'.mem L t').cm=false)(f:(fv x'.mem L t').lv=(fv x.mem L t).lv)(e:(fv x'.mem L t').wr=(fv x.mem L t).wr)
  (k:Own i (fv x.mem L t) (fv x'.mem L t')) (m:cP (av x' L) i<=cP (av x L) i+δ) (n:tz i (fv x'.mem L t')<=tz i (fv x.mem L t)+ε):jq (av x' L)<=jq (av x L)+(δ+ε):=by
 obtain⟨b,j⟩:=KH hi h a l k
 have g:=zu b
 have:=phi_le (p:=av x L) (p':=av x' L) (c:=0) (d:=0) (KS hi h a f e m) (Ej hi h a n) zo zo
 omega
def acQ (hi:i<4)(h:Mv x x' i t t')(a:SM x.mem x'.mem)(f:(fv x'.mem L t').lv=(fv x.mem L t).lv)(e:(fv x'.mem L t').wr=(fv x.mem L t).wr)
  (o:Own i (fv x.mem L t) (fv x'.mem L t')) (q:cP (av x' L) i<=cP (av x L) i+δ) (m:tz i (fv x'.mem L t')<=tz i (fv x.mem L t)+ε) (hj:j<i) (g:(av x L j).cm=true) (h0:(fv x.mem L t).ex j=false) (n:(fv x'.mem L t').ex j=true):jq (av x' L)+Wt i<=jq (av x L)+(δ+ε):=by
 obtain⟨b,l⟩:=KH hi h (a.sl i) (.inl a) o
 have k:=acm hi hj b (by unfold tP;rw[bo h.aG,g,h0];rfl) (by unfold tP;rw[bo h.bq,n];simp[oz])
 have:=phi_le (p:=av x L) (p':=av x' L) (c:=-Wt i) (d:=0) (KS hi h (a.sl i) f e q) (Ej hi h (a.sl i) m) zo zo
 omega
def abJ (hi:i<4)(h:Mv x x' i t t')(e:Sl x.mem x'.mem i)(s:(fv x'.mem L t').lv=(fv x.mem L t).lv)(r:(fv x'.mem L t').wr=(fv x.mem L t).wr)
  (A:∀k,k<i->(fv x.mem L t).ex k=true->(fv x'.mem L t').ex k=true) (y:cP (av x' L) i<=cP (av x L) i+δ) (z:tz i (fv x'.mem L t')<=tz i (fv x.mem L t)+ε):jq (av x' L)<=jq (av x L)+(δ+ε+(Wt i-104)+1):=by
 have a:∀{b b':Bool},(b'=true->b=true)->oz b'<=oz b:=λ{b b'} h=>by cases b<;>cases b'<;>simp_all [oz]
 have v:=Yj (p:=av x L) (p':=av x' L) hi λk j n q g=>by
  unfold tP
  refine a ?_
  simp only[GE,zaH]
  rintro⟨m,o⟩
  rw[(h.f (L:=L) e g).2.2.2.2.2.1]at m
  refine⟨m,?_⟩
  by_cases l:k=i
  ·subst l
   rw[bo h.bq]at o
   rw[bo h.aG]
   grind
  ·have n:=(h.f (L:=L) e l).2.2.2.2.2.2.2.2 j g
   grind
 have w:=Ag (p:=av x L) λj _=>zD j
 have u:=Ag (p:=av x' L) λj _=>zD j
 have:=phi_le (p:=av x L) (p':=av x' L) (c:=Wt i-104) (d:=1) (KS hi h e s r y) (Ej hi h e z) zo zo
 omega
abbrev sT (p:Ps)(i:Nat)(δ:Int):Int:=if tm p=i/\JZ p i=false then δ else 0
def LL (h:Mv x x' i t t')(d:Sl x.mem x'.mem i)(hi:i<4)(c:(fv x'.mem L t').lv=(fv x.mem L t).lv)(l:δ<=0)
  (k:(fv x'.mem L t').cf<=(fv x.mem L t).cf+δ) (p:(fv x'.mem L t').cn<=(fv x.mem L t).cn) (m:(fv x'.mem L t').o=true->(fv x.mem L t).o=true) (n:(fv x.mem L t).o=true->(fv x'.mem L t').o=false->(fv x'.mem L t').cn<=(fv x.mem L t).cf):cP (av x' L) i<=cP (av x L) i+sT (av x L) i δ:=by
 have a:tm (av x' L)=tm (av x L):=Ou λj hj=>by
  by_cases e:j=i
  ·subst e;rw[bo h.bq,bo h.aG];exact c
  ·exact(h.f d e).1
 have b:JZ (av x' L) i=JZ (av x L) i:=OY λj hj e=>(h.f d e).2.2.2.2.1
 unfold cP sT
 rw[a,b,bo h.bq,bo h.aG]
 by_cases g:tm (av x L)=i
 all_goals grind
def aeF (h:Mv x x' i t t')(g:Sl x.mem x'.mem i)(hi:i<4)(hj:j<i)(c:(av x L j).lv=true)(b:(fv x'.mem L t').lv=(fv x.mem L t).lv)(d:(fv x'.mem L t').cn<=(fv x.mem L t).cn+δ):cP (av x' L) i<=cP (av x L) i+δ:=by
 have a:tm (av x' L)=tm (av x L):=Ou λj hj=>by
  by_cases e:j=i
  ·subst e;rw[bo h.bq,bo h.aG];exact b
  ·exact(h.f g e).1
 have:=pK c zo
 unfold cP
 rw[a,zn (λq=>by omega),zn (λq=>by omega),bo h.bq,bo h.aG]
 exact d
end
abbrev jP (x:bm):Int:=if x.aE=true then 2*tu x-1 else 2*tu x
structure PfA (m:eO)(L:jZ)(b:Int)(a:az)(f:Pf):Prop where
 lv:f.lv=true
 cf:f.cf=cA true m L a
 cn:f.cn=cA false m L a
 o:f.o=io L a
 u:f.u=uA a
 d:f.d=b-oz (zX a)
 r:f.r=rA a
 w:f.w=wA a
 cm:f.cm=(ft a).isSome
 wr:f.wr=(match ft a with|some c=>Vf c|none=>false)
 bt:f.bt=(match ft a with|some c=>nU m c|none=>0)
 ex:∀j,f.ex j=(kQ a&&decide (Yy a=j))
section
variable {S:cv}{h0:Hp}{n i j nl nw:Nat}{m m':eO}{L L':jZ}{x x':eU}{t t':bm}{a a':az}{c c':ct}{f f':Pf}{b δ ε:Int}
def fy (d:t.B=1)(f:t.aj=some a):PfA m L (jP t) a (fv m L t):=by
 have e:pF t=some a:=by grind[pF]
 have b:fq t=ft a:=by grind
 refine⟨by show(!decide (t.B=4)&&!decide (t.B=6))=true;rw[d];rfl,?_,?_,?_,?_,?_,?_,?_,?_,?_,?_,λj=>?_⟩
 ·show cT true m L t=_;unfold cT;rw[zp d,f]
 ·show cT false m L t=_;unfold cT;rw[zp d,f]
 ·show oT L t=_;unfold oT;rw[zp d,f]
 ·show uT t=_;unfold uT;rw[zn,e]
 ·show dT t=_;unfold dT;rw[zn,zn,e]
 ·show(match fq t with|some c=>rC c|none=>0)=_;rw[b];try rfl
 ·show(match fq t with|some c=>wC c|none=>0)=_;rw[b];try rfl
 ·show(fq t).isSome=_;rw[b]
 ·show(match fq t with|some c=>Vf c|none=>false)=_;rw[b]
 ·show(match fq t with|some c=>nU m c|none=>0)=_;rw[b]
 ·show Gc m t j=_
  grind[Gc]
structure Vi (a:az):Prop where
 com:ft a=none
 dU:zX a=false
 dX:kQ a=false
 ac:Ho a=false
 u:uA a=1
def pn (h:a.B<=5):Vi a:=by
 have b:=j5 (a:=a) (by omega)
 have c:¬a.B=7:=by omega
 refine⟨b,?_,?_,?_,?_⟩
 ·grind[zX]
 ·grind[kQ]
 ·grind[Ho]
 ·unfold uA;rw[if_neg];unfold Ho;rw[b];simp[c]
def Vi.c7 (h:Vi a):nj a=true:=by unfold nj;rw[h.dU,h.dX];rfl
def Vi.bJ (h:Vi a){fine:Bool}:cA fine m L a=if io L a=true then gw fine m L a+AA else if fine=true then gw fine m L a else AA:=by unfold cA;rw[zp h.c7]
def PfA.cr (h:PfA m L b a f)(c:Vi a):f.u=1/\f.d=b/\f.r=0/\f.w=0/\f.cm=false/\f.wr=false/\f.bt=0/\∀j,f.ex j=false:=by
 have g:rA a=0:=by unfold rA;rw[c.com]
 have e:wA a=0:=by unfold wA;rw[c.com]
 refine⟨by rw[h.u,c.u],by rw[h.d,c.dU];simp[oz],by rw[h.r,g],by rw[h.w,e],by rw[h.cm,c.com];rfl,by rw[h.wr,c.com],by rw[h.bt,c.com],λj=>by rw[h.ex,c.dX];rfl⟩
structure K6 (x x':eU)(i:Nat)(t t':bm)(a a':az):Prop where
 mv:Mv x x' i t t'
 i4:i<4
 st:t.B=1
 aj:t.aj=some a
 cB:t'.B=1
 bW:t'.aj=some a'
 base:jP t'=jP t
def EF (g:K6 x x' i t t' a a')(M:Sl x.mem x'.mem i)(j:Vi a)(l:Vi a')(R:0<=gw true x.mem L a)(K:δ<=0)(Q:gw true x'.mem L a'<=gw true x.mem L a+δ)(S:gw false x'.mem L a'<=gw false x.mem L a)(P:0<=gw false x.mem L a)(n:io L a'=true->io L a=true) :
  jq (av x' L)<=jq (av x L)+sT (av x L) i δ:=by
 have c:=fy (m:=x.mem) (L:=L) g.st g.aj
 have d:=fy (m:=x'.mem) (L:=L) g.cB g.bW
 obtain⟨C,s,z,p,y,v,r,u⟩:=c.cr j
 obtain⟨H,A,w,E,h,B,D,O⟩:=d.cr l
 have f:(fv x'.mem L t').lv=(fv x.mem L t).lv:=by rw[c.lv,d.lv]
 have J:(0:Int)<=AA:=by decide
 have I:=LL (δ:=δ) g.mv M g.i4 f K (by
   rw[c.cf,d.cf,j.bJ,l.bJ]
   by_cases b:io L a'=true
   ·rw[zp b,zp (n b)];omega
   ·rw[zn b,zp rfl]
    by_cases e:io L a=true
    ·rw[zp e];omega
    ·rw[zn e,zp rfl];omega) (by
   rw[c.cn,d.cn,j.bJ,l.bJ]
   by_cases b:io L a'=true
   ·rw[zp b,zp (n b)];omega
   ·rw[zn b,zn zs]
    by_cases e:io L a=true
    ·rw[zp e];omega
    ·rw[zn e,zn zs];omega) (by rw[c.o,d.o];exact n)
  (by rw[c.o,d.o,c.cf,d.cn,j.bJ,l.bJ];intro e b;rw[zp e,b];simp;omega)
 have N:=ow (ε:=0) g.i4 g.mv M (.inr h) f (by rw[v,B]) ⟨λq=>(by rw[h]at q;cases q),λk _ q=>(by rw[u]at q;cases q),.inl ⟨by rw[y,h];rfl,by rw[r,D];omega⟩⟩ I (by
  unfold tz
  rw[C,H,s,A,z,w,p,E,c.o,d.o,g.base]
  have F:0<=Wt i:=by unfold Wt;split<;>omega
  cases b:io L a'
  ·have:0<=Wt i*oz (io L a):=zbS F xT.1
   simp only[oz,Or,if_false]at this ⊢
   rw[za1,za1]
   simp only[zcM]
   omega
  ·rw[n b];omega)
 omega
def O4 (i:Nat):104<=Wt i/\Wt i<=832:=by grind
def Lo {o:Bool}(i:Nat):0<=Wt i*oz o:=zbS (by have:=(O4 i).1;omega) xT.1
def aae {o a:Bool}(i:Nat)(h:a=true->o=true):Wt i*oz a<=Wt i*oz o:=by grind
structure AZ (a:az):Prop where
 st:a.B=7
def AZ.com (h:AZ a):ft a=none:=j5 (by have:=h.st;omega)
def AZ.ac (h:AZ a):Ho a=false:=by unfold Ho;rw[h.com]
def PfA.out (h:PfA m L b a f)(c:AZ a):f.r=0/\f.w=0/\f.cm=false/\f.wr=false/\f.bt=0:=by
 have e:rA a=0:=by unfold rA;rw[c.com]
 have d:wA a=0:=by unfold wA;rw[c.com]
 exact⟨by rw[h.r,e],by rw[h.w,d],by rw[h.cm,c.com];rfl,by rw[h.wr,c.com],by rw[h.bt,c.com]⟩
def JG (h:AZ a)(b:a.O=2\/a.O=4):zX a=true:=by unfold zX;rw[h.com];simp only[h.st];simpa using b
def Bv (h:AZ a)(b:a.O=5):zX a=false/\kQ a=true/\Yy a=a.aY:=by
 refine⟨?_,?_,?_⟩
 ·unfold zX;rw[h.com];simp[h.st,b]
 ·unfold kQ;rw[h.com];simp[h.st,b]
 ·unfold Yy;rw[h.com]
def Oc (h:AZ a)(b:a.O=3):zX a=false/\kQ a=false:=by
 refine⟨?_,?_⟩
 ·unfold zX;rw[h.com];simp[b]
 ·unfold kQ;rw[h.com];simp[b]
def acV {fine:Bool}(h:0<=gw fine m L a):0<=cA fine m L a:=by
 unfold cA
 grind
def ajI (h:x.ad[i]? = some t)(b:t.B=1)(c:t.aj=some a)(r1:0<=gw true x.mem L a)(r2:0<=gw false x.mem L a):0<=cP (av x L) i:=by
 have p:=fy (m:=x.mem) (L:=L) b c
 unfold cP
 rw[bo h,p.cf,p.cn]
 split
 ·exact acV r1
 ·exact acV r2
def N3 {fine:Bool}(h:nj a=false):cA fine m L a<=AA:=by grind[cA]
def aen (g:K6 x x' i t t' a a')(P:Sl x.mem x'.mem i)(N:Vi a)(n:AZ a')(M:a'.O=2\/a'.O=4)(r1:0<=gw true x.mem L a)(r2:0<=gw false x.mem L a):jq (av x' L)<=jq (av x L)-4000:=by
 have c:=fy (m:=x.mem) (L:=L) g.st g.aj
 have b:=fy (m:=x'.mem) (L:=L) g.cB g.bW
 obtain⟨B,v,w,p,A,y,r,z⟩:=c.cr N
 obtain⟨I,E,f,C,D⟩:=b.out n
 have j:=JG n M
 have l:nj a'=false:=by unfold nj;rw[j];rfl
 have s:io L a'=false:=by unfold io;rw[l];rfl
 have e:(fv x'.mem L t').lv=(fv x.mem L t).lv:=by rw[c.lv,b.lv]
 have J:=ajI (L:=L) g.mv.aG g.st g.aj r1 r2
 have H:cP (av x' L) i<=cP (av x L) i+879:=by
  have:cP (av x' L) i<=AA:=by
   unfold cP
   rw[bo g.mv.bq,b.cf,b.cn]
   split<;>exact N3 l
  have:AA=879:=rfl
  omega
 have K:=ow (ε:=-KK) g.i4 g.mv P (.inr f) e (by rw[y,C]) ⟨λq=>(by rw[f]at q;cases q),λk _ q=>(by rw[z]at q;cases q),.inl ⟨by rw[A,f];rfl,by rw[r,D];omega⟩⟩ H (by
  unfold tz
  have F:=Lo (o:=io L a) i
  rw[B,b.u,v,b.d,w,I,p,E,c.o,b.o,g.base,s,j]
  have h:uA a'=1:=by
   unfold uA
   rw[if_neg]
   rw[n.ac]
   rintro(q|q)
   ·cases q
   ·omega
  rw[h]
  simp only[oz,Or,if_false,if_true]at F ⊢
  rw[za1,za1,Int.mul_sub]
  omega)
 have:KK=5400:=rfl
 omega
def acR (g:K6 x x' i t t' a a')(p:SM x.mem x'.mem)(P:Vi a)(n:AZ a')(T:a'.O=5)(hj:j<i)(S:(av x L j).lv=true)(r2:0<=gw false x.mem L a):jq (av x' L)<=jq (av x L):=by
 have e:=fy (m:=x.mem) (L:=L) g.st g.aj
 have b:=fy (m:=x'.mem) (L:=L) g.cB g.bW
 obtain⟨D,w,y,r,C,A,s,B⟩:=e.cr P
 obtain⟨M,H,l,E,F⟩:=b.out n
 obtain⟨J,z,R⟩:=Bv n T
 have h:nj a'=false:=by unfold nj;rw[z];simp
 have v:io L a'=false:=by unfold io;rw[h];rfl
 have c:(fv x'.mem L t').lv=(fv x.mem L t).lv:=by rw[e.lv,b.lv]
 have N:(0:Int)<=AA:=by decide
 have K:=aeF (δ:=0) g.mv (p.sl i) g.i4 hj S c (by
  rw[e.cn,b.cn,P.bJ]
  unfold cA
  rw[if_neg (by rw[h];simp),if_neg (by simp)]
  split
  ·omega
  ·rw[if_neg (by simp)];omega)
 have Q:=ow (ε:=0) g.i4 g.mv (p.sl i) (.inl p) c (by rw[A,E]) ⟨λq=>(by rw[l]at q;cases q),λk _ q=>(by rw[B]at q;cases q),.inl ⟨by rw[C,l];rfl,by rw[s,F];omega⟩⟩ K (by
  unfold tz
  have I:=Lo (o:=io L a) i
  rw[D,b.u,w,b.d,y,M,r,H,e.o,b.o,g.base,v,J]
  have f:uA a'=1:=by
   unfold uA
   rw[if_neg]
   rw[n.ac]
   rintro(q|q)
   ·cases q
   ·omega
  rw[f]
  simp only[oz,Or,if_false,zbP]at I ⊢
  rw[za1,za1]
  omega)
 omega
def acJ (g:K6 x x' i t t' a a')(N:SM x.mem x'.mem)(n:Vi a)(p:AZ a')(T:a'.O=5)(e:io L a=true)(r1:1<=gw true x.mem L a)(r2:1<=gw false x.mem L a):jq (av x' L)<=jq (av x L)-1:=by
 have c:=fy (m:=x.mem) (L:=L) g.st g.aj
 have b:=fy (m:=x'.mem) (L:=L) g.cB g.bW
 obtain⟨D,w,y,r,C,A,s,B⟩:=c.cr n
 obtain⟨M,H,l,E,F⟩:=b.out p
 obtain⟨J,z,R⟩:=Bv p T
 have j:nj a'=false:=by unfold nj;rw[z];simp
 have v:io L a'=false:=by unfold io;rw[j];rfl
 have f:(fv x'.mem L t').lv=(fv x.mem L t).lv:=by rw[c.lv,b.lv]
 have K:cP (av x' L) i<=cP (av x L) i+(-1):=by
  have P:cP (av x' L) i<=AA:=by
   unfold cP
   rw[bo g.mv.bq,b.cf,b.cn]
   split<;>exact N3 j
  have S:AA+1<=cP (av x L) i:=by
   unfold cP
   rw[bo g.mv.aG,c.cf,c.cn,n.bJ,n.bJ,if_pos e,if_pos e]
   split<;>omega
  omega
 have Q:=ow (ε:=0) g.i4 g.mv (N.sl i) (.inl N) f (by rw[A,E]) ⟨λq=>(by rw[l]at q;cases q),λk _ q=>(by rw[B]at q;cases q),.inl ⟨by rw[C,l];rfl,by rw[s,F];omega⟩⟩ K (by
  unfold tz
  have I:=Lo (o:=io L a) i
  rw[D,b.u,w,b.d,y,M,r,H,c.o,b.o,g.base,v,J]
  have h:uA a'=1:=by
   unfold uA
   rw[if_neg]
   rw[p.ac]
   rintro(q|q)
   ·cases q
   ·omega
  rw[h]
  simp only[oz,Or,if_false,zbP]at I ⊢
  rw[za1,za1]
  omega)
 omega
def ade (g:K6 x x' i t t' a a')(w:SM x.mem x'.mem)(n:Vi a)(v:AZ a')(T:a'.O=3)(r1:2<=gw true x.mem L a)(r2:2<=gw false x.mem L a)(V:∀fine,gw fine x'.mem L a'=1)(p:io L a'=true->io L a=true):jq (av x' L)<=jq (av x L)+sT (av x L) i (-1):=by
 have e:=fy (m:=x.mem) (L:=L) g.st g.aj
 have b:=fy (m:=x'.mem) (L:=L) g.cB g.bW
 obtain⟨J,A,B,y,H,D,z,E⟩:=e.cr n
 obtain⟨R,N,r,K,M⟩:=b.out v
 obtain⟨s,C⟩:=Oc v T
 have I:nj a'=true:=by unfold nj;rw[s,C];rfl
 have j:(fv x'.mem L t').lv=(fv x.mem L t).lv:=by rw[e.lv,b.lv]
 have S:(0:Int)<=AA:=by decide
 have h:∀fine,cA fine x'.mem L a'=if io L a'=true then 1+AA else if fine=true then 1 else AA:=λfine=>by
  unfold cA
  rw[zp I,V fine]
 have Q:=LL (δ:=-1) g.mv (w.sl i) g.i4 j zo (by
   rw[e.cf,b.cf,h,n.bJ]
   by_cases c:io L a'=true
   ·rw[zp c,zp (p c)];omega
   ·rw[zn c,zp rfl]
    by_cases f:io L a=true
    ·rw[zp f];omega
    ·rw[zn f,zp rfl];omega) (by
   rw[e.cn,b.cn,h,n.bJ]
   by_cases c:io L a'=true
   ·rw[zp c,zp (p c)];omega
   ·rw[zn c,zn zs]
    by_cases f:io L a=true
    ·rw[zp f];omega
    ·rw[zn f,zn zs];omega) (by rw[e.o,b.o];exact p)
  (by rw[e.o,b.o,e.cf,b.cn,h,n.bJ];intro f c;rw[zp f,c];simp;omega)
 have U:=ow (ε:=0) g.i4 g.mv (w.sl i) (.inl w) j (by rw[D,K]) ⟨λq=>(by rw[r]at q;cases q),λk _ q=>(by rw[E]at q;cases q),.inl ⟨by rw[H,r];rfl,by rw[z,M];omega⟩⟩ Q (by
  unfold tz
  have P:=aae i p
  have F:=(O4 i).1
  rw[J,b.u,A,b.d,B,R,y,N,e.o,b.o,g.base,s]
  have l:uA a'=0:=by unfold uA;rw[zp (.inr ⟨v.st,T⟩)]
  rw[l]
  simp only[za1,Int.mul_one,zcM]
  simp only[oz,Or,if_false,zbP]at P ⊢
  omega)
 omega
end
section
variable {S:cv}{h0:Hp}{n i j nl nw:Nat}{m m':eO}{L L':jZ}{x x':eU}{t t':bm}{a a':az}{c c':ct}{f f':Pf}{b δ ε:Int}{fine:Bool}
def jO (h:ft a=some c):a.Z=.com c/\a.B=6/\c.Y.O=0:=by
 unfold ft at h
 grind
def adx (h:ft a=some c):gw fine m L a=rC c+1:=by
 obtain⟨b,d,_⟩:=jO h
 grind[gw]
structure Lk (a:az)(c:ct):Prop where
 com:ft a=some c
 st:c.B<=4
def Lk.c7 (h:Lk a c):zX a=false/\kQ a=false/\nj a=true/\uA a=0:=by
 have e:=h.st
 have d:zX a=false:=by
  unfold zX;rw[h.com];simp only
  grind
 have b:kQ a=false:=by
  unfold kQ;rw[h.com];simp only
  grind
 refine⟨d,b,by unfold nj;rw[d,b];rfl,?_⟩
 unfold uA
 rw[zp (.inl (by unfold Ho;rw[h.com];exact decide_eq_true e))]
def Lk.bJ (h:Lk a c):cA fine m L a=if io L a=true then rC c+1+AA else if fine=true then rC c+1 else AA:=by
 unfold cA
 rw[zp h.c7.2.2.1,adx h.com]
def PfA.lk (h:PfA m L b a f)(e:Lk a c):f.u=0/\f.d=b/\f.r=rC c/\f.w=wC c/\f.cm=true/\f.wr=false/\f.bt=nU m c/\∀j,f.ex j=false:=by
 obtain⟨g,i,l,k⟩:=e.c7
 have n:=e.st
 refine⟨by rw[h.u,k],by rw[h.d,g];simp[oz],by rw[h.r];unfold rA;rw[e.com],by rw[h.w];unfold wA;rw[e.com],by rw[h.cm,e.com];rfl,?_,by rw[h.bt,e.com],λj=>by rw[h.ex,i];rfl⟩
 rw[h.wr,e.com]
 grind[Vf]
def U4 (a:c.B<=4):wC c=0:=by grind[wC]
def adJ (g:K6 x x' i t t' a a')(H:Sl x.mem x'.mem i)(l:Vi a)(j:Lk a' c)(S:c.B=0\/c.B=2)(T:rC c<=102)(Q:rC c+1<=gw true x.mem L a)(U:rC c+1<=gw false x.mem L a)(R:0<=rC c)(n:io L a'=true->io L a=true):jq (av x' L)<=jq (av x L)-1:=by
 have d:=fy (m:=x.mem) (L:=L) g.st g.aj
 have e:=fy (m:=x'.mem) (L:=L) g.cB g.bW
 obtain⟨A,r,w,p,J,u,I,s⟩:=d.cr l
 obtain⟨D,y,v,C,O,z,M,P⟩:=e.lk j
 have h:(fv x'.mem L t').lv=(fv x.mem L t).lv:=by rw[d.lv,e.lv]
 have F:(0:Int)<=AA:=by decide
 have E:=LL (δ:=0) g.mv H g.i4 h (zab _) (by
   rw[d.cf,e.cf,j.bJ,l.bJ]
   by_cases b:io L a'=true
   ·rw[zp b,zp (n b)];omega
   ·rw[zn b,zp rfl]
    by_cases f:io L a=true
    ·rw[zp f];omega
    ·rw[zn f,zp rfl];omega) (by
   rw[d.cn,e.cn,j.bJ,l.bJ]
   by_cases b:io L a'=true
   ·rw[zp b,zp (n b)];omega
   ·rw[zn b,zn zs]
    by_cases f:io L a=true
    ·rw[zp f];omega
    ·rw[zn f,zn zs];omega) (by rw[d.o,e.o];exact n)
  (by rw[d.o,e.o,d.cf,e.cn,j.bJ,l.bJ];intro f b;rw[zp f,b];simp;omega)
 have K:=abJ (ε:=102-Wt i) g.i4 g.mv H h (by rw[u,z]) (λk _ q=>by rw[s]at q;cases q) E (by
  unfold tz
  have N:=aae i n
  rw[A,D,r,y,w,v,p,C,U4 j.st,d.o,e.o,g.base]
  simp only[za1,Int.mul_one,zcM]
  omega)
 have:sT (av x L) i 0=0:=by unfold sT;split<;>rfl
 omega
end
def afx (p:Ps)(i:Nat):Prop:=QR p i=true/\∀j,i<j->j<4->QR p j=false
def Zo {p:Ps}{i:Nat}(hi:i<4)(h:afx p i):qO p=(p i).bt:=by
 obtain⟨b,c⟩:=h
 have a:i=0\/i=1\/i=2\/i=3:=by omega
 grind[qO]
section
variable {S:cv}{h0:Hp}{n i j nl nw:Nat}{m m':eO}{L L':jZ}{x x':eU}{t t':bm}{a a':az}{c c':ct}{f f':Pf}{b δ ε:Int}{fine:Bool}
def ajC (g:K6 x x' i t t' a a')(p:Sl x.mem x'.mem i)(k:Lk a c)(l:Lk a' c')(r:rC c'<=rC c)(q:0<=rC c)(f:io L a'=io L a):cP (av x' L) i<=cP (av x L) i:=by
 have b:=fy (m:=x.mem) (L:=L) g.st g.aj
 have d:=fy (m:=x'.mem) (L:=L) g.cB g.bW
 have e:(fv x'.mem L t').lv=(fv x.mem L t).lv:=by rw[b.lv,d.lv]
 have n:=LL (δ:=0) g.mv p g.i4 e (zab _) (by
   rw[b.cf,d.cf,l.bJ,k.bJ,f];split
   ·omega
   ·rw[zp rfl,zp rfl];omega) (by
   rw[b.cn,d.cn,l.bJ,k.bJ,f];split
   ·omega
   ·rw[zn zs,zn zs];omega) (by rw[b.o,d.o,f];exact id)
  (by rw[b.o,d.o,f];intro j h;rw[j]at h;cases h)
 have:sT (av x L) i 0=0:=by unfold sT;split<;>rfl
 omega
def aej (g:K6 x x' i t t' a a')(b:SM x.mem x'.mem)(D:Lk a c)(E:Lk a' c')(hr:rC c'<=rC c+δ)(hδ:δ<=0)(V:0<=rC c)(W:io L a'=io L a)(hb:nU x.mem c<=nU x'.mem c'):jq (av x' L)<=jq (av x L)+δ/\(afx (av x L) i->jq (av x' L)<=jq (av x L)+δ-(nU x'.mem c'-nU x.mem c)):=by
 have l:=fy (m:=x.mem) (L:=L) g.st g.aj
 have r:=fy (m:=x'.mem) (L:=L) g.cB g.bW
 obtain⟨Q,H,N,F,y,v,u,J⟩:=l.lk D
 obtain⟨T,O,M,R,A,s,z,Y⟩:=r.lk E
 have e:(fv x'.mem L t').lv=(fv x.mem L t).lv:=by rw[l.lv,r.lv]
 have hc:=ajC (L:=L) g (b.sl i) D E zo V W
 have w:Own i (fv x.mem L t) (fv x'.mem L t'):=⟨λ_=>y,λk _ q=>(by rw[J]at q;cases q),.inl ⟨by rw[y,A,v,s],by rw[u,z];exact hb⟩⟩
 have C:tz i (fv x'.mem L t')<=tz i (fv x.mem L t)+δ:=by
  unfold tz
  rw[Q,T,H,O,N,M,F,R,U4 D.st,U4 E.st,l.o,r.o,g.base,W]
  omega
 have h:(fv x'.mem L t').wr=(fv x.mem L t).wr:=by rw[v,s]
 have Z:=ow (δ:=0) (ε:=δ) g.i4 g.mv (b.sl i) (.inl b) e h w zo C
 refine⟨zo,λB=>?_⟩
 obtain⟨I,k2⟩:=KH g.i4 g.mv (b.sl i) (.inl b) w
 have X:=zu I
 have n:afx (av x' L) i:=by
  refine⟨?_,λj P K=>?_⟩
  ·rw[Ea g.mv.bq,A,s];rfl
  ·have:=B.2 j P K
   obtain⟨_,_,_,_,a1,a2,_⟩:=g.mv.f (L:=L) (b.sl i) (j:=j) zo
   grind
 have S:=Zo g.i4 B
 have U:=Zo g.i4 n
 rw[bo g.mv.aG,u]at S
 rw[bo g.mv.bq,z]at U
 have:=phi_le (p:=av x L) (p':=av x' L) (c:=0) (d:=nU x.mem c-nU x'.mem c') (KS (δ:=0) g.i4 g.mv (b.sl i) e h zo) (Ej g.i4 g.mv (b.sl i) C) zo zo
 omega
def Mv.o (h:Mv x x' i t t')(a:x'.mem.s=x.mem.s)(hj:j≠i):(av x' L j).lv=(av x L j).lv/\(av x' L j).cf<=(av x L j).cf+2/\(av x' L j).cn=(av x L j).cn/\(av x' L j).o=(av x L j).o/\(av x' L j).wr=(av x L j).wr/\(av x' L j).cm=(av x L j).cm/\iy (av x' L) j=iy (av x L) j/\(av x' L j).ex=(av x L j).ex:=by
 unfold iy av
 rw[h.ot j hj]
 cases x.ad[j]? with
 |none=>exact⟨rfl,by show(0:Int)<=0+2;decide,rfl,rfl,rfl,rfl,rfl,rfl⟩
 |some u=>exact⟨rfl,ZP,aew,rfl,rfl,rfl,rfl,by show Gc x'.mem u=Gc x.mem u;funext k;unfold Gc;rw[a]⟩
def ZW {α:Int}(g:K6 x x' i t t' a a')(q:x'.mem.s=x.mem.s)(u:Lk a c)(v:Lk a' c')(hr:rC c'<=rC c+δ)(hδ:δ<=0)(ac:0<=rC c)(T:io L a'=io L a)(S:0<=α)(hα:∀j,j<4->j≠i->(av x' L j).cf<=(av x L j).cf+α):jq (av x' L)<=jq (av x L)+(α+δ+1):=by
 have l:=fy (m:=x.mem) (L:=L) g.st g.aj
 have n:=fy (m:=x'.mem) (L:=L) g.cB g.bW
 obtain⟨M,y,I,w,H,D,V,B⟩:=l.lk u
 obtain⟨P,J,E,N,O,K,Z,A⟩:=n.lk v
 have h:∀j,j<4->(av x' L j).lv=(av x L j).lv:=λj _=>by
  by_cases e:j=i
  ·subst e;rw[bo g.mv.bq,bo g.mv.aG,l.lv,n.lv]
  ·exact(g.mv.o q e).1
 have b:∀j,j<4->(av x' L j).wr=(av x L j).wr:=λj _=>by
  by_cases e:j=i
  ·subst e;rw[bo g.mv.bq,bo g.mv.aG,D,K]
  ·exact(g.mv.o q e).2.2.2.2.1
 have R:(0:Int)<=AA:=by decide
 have hc:cP (av x' L) i<=cP (av x L) i:=by
  unfold cP
  rw[Ou h,OY λj hj _=>b j hj,bo g.mv.bq,bo g.mv.aG,l.cf,l.cn,l.o,n.cf,n.cn,n.o,v.bJ,u.bJ,v.bJ,u.bJ,T]
  grind
 have X:=L0 (p:=av x L) (p':=av x' L) (α:=α) (δ:=0) S g.i4 h b (λj _ hj=>(g.mv.o q hj).2.2.2.1) (λj _ hj=>by rw[(g.mv.o (L:=L) q hj).2.2.1];omega) hα zo
 have C:Cg (av x' L)<=Cg (av x L)+δ:=Iy (f:=λk=>iy (av x L) k) (f':=λk=>iy (av x' L) k) g.i4 (λj hj r=>by show iy (av x' L) j<=iy (av x L) j;rw[(g.mv.o (L:=L) q r).2.2.2.2.2.2.1];omega) (by
  show iy (av x' L) i<=iy (av x L) i+δ
  unfold iy
  rw[bo g.mv.bq,bo g.mv.aG,M,P,y,J,I,E,w,N,U4 u.st,U4 v.st,l.o,n.o,g.base,T]
  omega)
 have s3:mC (av x' L)<=mC (av x L):=zu λk j Y F=>by
  have Q:(av x' L j).cm=(av x L j).cm:=by
   by_cases e:j=i
   ·subst e;rw[bo g.mv.bq,bo g.mv.aG,H,O]
   ·exact(g.mv.o q e).2.2.2.2.2.1
  have z:(av x' L k).ex j=(av x L k).ex j:=by
   by_cases e:k=i
   ·subst e;rw[bo g.mv.bq,bo g.mv.aG,B,A]
   ·rw[(g.mv.o (L:=L) q e).2.2.2.2.2.2.2]
  grind
 have U:=Ag (p:=av x L) λj _=>zD j
 have W:=Ag (p:=av x' L) λj _=>zD j
 have:=phi_le (p:=av x L) (p':=av x' L) (a:=α) (c:=0) (d:=1) zo C zo zo
 omega
end
structure Yc (a:az)(e b r:Int)(cm:Bool):Prop where
 dU:zX a=decide (e=4)
 dX:kQ a=decide (e=5)
 aY:Yy a=b
 u:uA a=1
 r:rA a=r
 w:wA a=0
 cm:(ft a).isSome=cm
 wr:(match ft a with|some c=>Vf c|none=>false)=false
 bt:∀m,(match ft a with|some c=>nU m c|none=>0)=0
section
variable {S:cv}{h0:Hp}{n i j nl nw:Nat}{m m':eO}{L L':jZ}{x x':eU}{t t':bm}{a a':az}{c c':ct}{f f':Pf}{b δ ε e r':Int}{fine cm:Bool}
def UO (h:ft a=some c)(d:c.B=7)(f:c.O=e):Yc a e c.aY ((c.was.length:Int)-c.K) true:=by
 obtain⟨_,b,_⟩:=jO h
 refine⟨?_,?_,?_,?_,?_,?_,by rw[h];rfl,?_,λm=>?_⟩
 ·grind[zX]
 ·grind[kQ]
 ·grind[Yy]
 ·unfold uA;rw[if_neg]
  grind[Ho]
 ·unfold rA;rw[h];unfold rC;simp only;rw[if_neg (by omega),if_neg (by omega),if_neg (by omega),if_pos d]
 ·unfold wA;rw[h];unfold wC;simp only;rw[if_neg (by omega),if_neg (by omega)]
 all_goals grind[Vf,nU]
def aaf (c:a.B=7)(b:a.O=e)(d:e=4\/e=5):Yc a e a.aY 0 false:=by
 have h:=j5 (a:=a) (by omega)
 refine⟨?_,?_,?_,?_,?_,?_,by rw[h];rfl,by rw[h],λm=>by rw[h]⟩
 ·grind[zX]
 ·grind[kQ]
 ·grind[Yy]
 ·unfold uA;rw[if_neg]
  grind[Ho]
 all_goals grind
def Yc.c7 (h:Yc a e b r' cm)(c:e=4\/e=5):nj a=false:=by
 unfold nj
 rw[h.dU,h.dX]
 grind
def Yc.bT (h:Yc a e b r' cm)(c:e=4\/e=5):io L a=false:=by unfold io;rw[h.c7 c];rfl
def PfA.ec {b1:Int}(h:PfA m L b1 a f)(c:Yc a e b r' cm):f.u=1/\f.d=b1-oz (decide (e=4))/\f.r=r'/\f.w=0/\f.cm=cm/\f.wr=false/\f.bt=0/\∀j,f.ex j=(decide (e=5)&&decide (b=j)):=by
 exact⟨by rw[h.u,c.u],by rw[h.d,c.dU],by rw[h.r,c.r],by rw[h.w,c.w],by rw[h.cm,c.cm],h.wr.trans c.wr,h.bt.trans (c.bt m),λj=>by rw[h.ex,c.dX,c.aY]⟩
def Uf (g:K6 x x' i t t' a a')(D:Lk a c)(E:Yc a' e b r' cm)(hb:nU x.mem c=0):Own i (fv x.mem L t) (fv x'.mem L t'):=by
 have d:=fy (m:=x.mem) (L:=L) g.st g.aj
 have h:=fy (m:=x'.mem) (L:=L) g.cB g.bW
 obtain⟨u,r,l,n,f,z,o,j⟩:=d.lk D
 obtain⟨B,p,A,w,y,s,v,C⟩:=h.ec E
 refine⟨λ_=>f,λk _ q=>(by rw[j]at q;cases q),?_⟩
 grind
def agB (g:K6 x x' i t t' a a')(F:SM x.mem x'.mem)(f:Lk a c)(h:Yc a' 5 j r' cm)(Q:r'<=rC c-1)(P:0<=rC c)(hb:nU x.mem c=0)(hj:j<i)(O:(av x L j).lv=true)(H:(av x L j).cm=true):jq (av x' L)<=jq (av x L)-1:=by
 have d:=fy (m:=x.mem) (L:=L) g.st g.aj
 have e:=fy (m:=x'.mem) (L:=L) g.cB g.bW
 obtain⟨w,n,s,k,J,q,I,p⟩:=d.lk f
 obtain⟨B,u,r,z,N,y,M,D⟩:=e.ec h
 have l:=h.bT (L:=L) (.inr rfl)
 have v:=h.c7 (.inr rfl)
 have b:(fv x'.mem L t').lv=(fv x.mem L t).lv:=by rw[d.lv,e.lv]
 have E:(0:Int)<=AA:=by decide
 have C:=aeF (δ:=0) g.mv (F.sl i) g.i4 hj O b (by
  rw[d.cn,e.cn,f.bJ]
  unfold cA
  rw[zn (by rw[v];simp),zn zs]
  split
  ·omega
  ·rw[zn zs];omega)
 have K:=acQ (ε:=Wt i-1) g.i4 g.mv F b (by rw[q,y]) (Uf g f h hb) C (by
  unfold tz
  have A:=Lo (o:=io L a) i
  rw[w,B,n,u,s,r,k,z,U4 f.st,d.o,e.o,g.base,l]
  simp only[oz,Or,if_false]at A ⊢
  rw[za1,za1]
  simp
  omega) hj H (by rw[p]) (by rw[D];simp)
 omega
def TN (g:K6 x x' i t t' a a')(C:SM x.mem x'.mem)(f:Lk a c)(k:Yc a' 5 b r' cm)(P:r'<=rC c-1)(O:0<=rC c)(hb:nU x.mem c=0)(l:io L a=true):jq (av x' L)<=jq (av x L)-2:=by
 have d:=fy (m:=x.mem) (L:=L) g.st g.aj
 have e:=fy (m:=x'.mem) (L:=L) g.cB g.bW
 obtain⟨w,p,s,n,H,q,D,F⟩:=d.lk f
 obtain⟨A,u,r,z,K,y,J,M⟩:=e.ec k
 have h:=k.bT (L:=L) (.inr rfl)
 have v:=k.c7 (.inr rfl)
 have j:(fv x'.mem L t').lv=(fv x.mem L t).lv:=by rw[d.lv,e.lv]
 have B:cP (av x' L) i<=cP (av x L) i+(-1):=by
  have E:cP (av x' L) i<=AA:=by
   unfold cP
   rw[bo g.mv.bq,e.cf,e.cn]
   split<;>exact N3 v
  have N:AA+1<=cP (av x L) i:=by
   unfold cP
   rw[bo g.mv.aG,d.cf,d.cn,f.bJ,f.bJ,zp l,zp l]
   split<;>omega
  omega
 have I:=ow (ε:=-1) g.i4 g.mv (C.sl i) (.inl C) j (by rw[q,y]) (Uf g f k hb) B (by
  unfold tz
  rw[w,A,p,u,s,r,n,z,U4 f.st,d.o,e.o,g.base,l,h]
  simp[oz]
  omega)
 omega
def agr (g:K6 x x' i t t' a a')(D:SM x.mem x'.mem)(f:Lk a c)(k:Yc a' 4 b r' cm)(Q:r'<=rC c)(P:0<=rC c)(hb:nU x.mem c=0):jq (av x' L)<=jq (av x L)-3000:=by
 have d:=fy (m:=x.mem) (L:=L) g.st g.aj
 have e:=fy (m:=x'.mem) (L:=L) g.cB g.bW
 obtain⟨v,n,r,l,I,p,E,H⟩:=d.lk f
 obtain⟨A,s,q,y,M,w,K,N⟩:=e.ec k
 have h:=k.bT (L:=L) (.inl rfl)
 have u:=k.c7 (.inl rfl)
 have j:(fv x'.mem L t').lv=(fv x.mem L t).lv:=by rw[d.lv,e.lv]
 have C:(0:Int)<=AA:=by decide
 have B:cP (av x' L) i<=cP (av x L) i+879:=by
  have F:cP (av x' L) i<=AA:=by
   unfold cP
   rw[bo g.mv.bq,e.cf,e.cn]
   split<;>exact N3 u
  have O:0<=cP (av x L) i:=by
   unfold cP
   rw[bo g.mv.aG,d.cf,d.cn,f.bJ,f.bJ]
   split
   ·split
    ·omega
    ·rw[zp rfl];omega
   ·split
    ·omega
    ·rw[zn zs];omega
  have:AA=879:=rfl
  omega
 have J:=ow (ε:=Wt i-KK) g.i4 g.mv (D.sl i) (.inl D) j (by rw[p,w]) (Uf g f k hb) B (by
  unfold tz
  have z:=Lo (o:=io L a) i
  rw[v,A,n,s,r,q,l,y,U4 f.st,d.o,e.o,g.base,h]
  simp only[oz,Or,if_false,decide_true,if_true]at z ⊢
  rw[za1,za1,Int.mul_sub]
  simp
  omega)
 have:=(O4 i).2
 have:KK=5400:=rfl
 omega
def aiT {k:Int}:jq (av x L)<=jq (av { x with mem:={ x.mem with n:=k } } L)+1:=by
 have b:∀j,∃v,av { x with mem:={ x.mem with n:=k } } L j={ av x L j with bt:=v }:=λj=>by
  unfold av
  show ∃v,(match x.ad[j]? with|some t=>fv { x.mem with n:=k } L t|none=>pf0)=_
  cases x.ad[j]? with
  |none=>exact⟨0,rfl⟩
  |some u =>
   refine⟨(fv { x.mem with n:=k } L u).bt,?_⟩
   show fv { x.mem with n:=k } L u=_
   have i:∀a,cT a { x.mem with n:=k } L u=cT a x.mem L u:=λa=>Ju rfl
   simp only[fv,i]
   rfl
 have l:=Ag (p:=av x L) λj _=>zD j
 have s:=Ag (p:=av { x with mem:={ x.mem with n:=k } } L) λj _=>zD j
 generalize av { x with mem:={ x.mem with n:=k } } L=q at *
 obtain⟨r,e⟩:=b 0
 obtain⟨z,d⟩:=b 1
 obtain⟨w,g⟩:=b 2
 obtain⟨A,f⟩:=b 3
 have h:tm q=tm (av x L):=by unfold tm;rw[e,d,g,f]
 have c:∀j,JZ q j=JZ (av x L) j:=λj=>by unfold JZ;rw[e,d,g,f]
 have m:Ei q=Ei (av x L):=by
  show cP q 0+cP q 1+cP q 2+cP q 3=_
  unfold cP
  rw[h,c,c,c,c,e,d,g,f];rfl
 have y:Cg q=Cg (av x L):=by
  show iy q 0+iy q 1+iy q 2+iy q 3=_
  unfold iy
  rw[e,d,g,f]
 have o:mC q=mC (av x L):=by
  unfold mC tP
  rw[e,d,g,f]
 grind[jq]
end
structure RBd (a:az):Prop where
 st:0<=a.B
 k:a.v.k.length<=255
 ext:∀e,a.Z=.ext e->a.B<=5->e.ab.length<=16/\(e.aL=true->e.K<=e.ab.length)
 fL:∀e,a.Z=.ext e->a.B=4->e.ab.length<=a.v.k.length/\(e.aL=true->a.I<=e.I)
 com:∀c,a.Z=.com c->a.B=6->0<=rC c/\rC c<=102
structure TV (t:bm):Prop where
 aj:t.B=1->∃a,t.aj=some a/\RBd a
 ps:0<=t.aS\/t.B≠3
 sl:t.B=5->(t.aK.length:Int)<=t.s.aB/\t.s.aB<=4
section
variable {S:cv}{h0:Hp}{n i j nl nw:Nat}{m m':eO}{L L':jZ}{x x':eU}{t t':bm}{a a':az}{c c':ct}{f f':Pf}{b δ ε e r':Int}{fine cm:Bool}
def aeu {e:mj}(h:e.ab.length<=16/\(e.aL=true->e.K<=e.ab.length)):0<=K7 e/\(e.aL=true->K7 e<=16)/\(e.aL=false->K7 e<=17):=by grind[K7]
def HS (h:RBd a):1<=gw fine m L a/\gw fine m L a<=906:=by
 have p:=h.k
 have n:A0=871:=rfl
 have d:xZ a=255-(a.v.k.length:Int):=rfl
 have t:=xT (b:=jD L a.I)
 unfold gw
 split
 ·decide
 split
 ·decide
 split
 ·omega
 split
 ·rename_i f _
  have:=UW (fine:=fine) (m:=m) (f:=f)
  omega
 ·rename_i e o
  by_cases l:a.B<=5
  case neg=>rw[zn,zn];omega
  have g:=h.ext e o l
  obtain⟨r,w,u⟩:=aeu g
  have s:=xT (b:=jD L e.I)
  cases q:e.aL
  all_goals grind
 ·rename_i c j
  split
  ·rename_i i
   have:=h.com c j i
   omega
  ·omega
 ·omega
def TG:gw false m L a<=gw true m L a+3/\gw true m L a<=gw false m L a:=by
 unfold gw
 split
 ·omega
 split
 ·omega
 split
 ·omega
 split
 ·rename_i f _
  have:=UW (fine:=true) (m:=m) (f:=f)
  grind[BB]
 all_goals omega
def ahq:gw fine m L' a<=gw fine m L a+21:=by
 have c:=xT (b:=jD L a.I)
 have d:=xT (b:=jD L' a.I)
 unfold gw
 split
 ·omega
 split
 ·omega
 split
 ·omega
 split
 all_goals grind
def akb {d:Bool}(h:RBd a)(s:m'.l=m.l):cA d m' L' a<=cA fine m L a+906:=by
 have b:∀g,gw g m' L' a=gw g m L' a:=λg=>FB s
 have p:=ahq (fine:=true) (m:=m) (L:=L) (L':=L') (a:=a)
 have k:=ahq (fine:=false) (m:=m) (L:=L) (L':=L') (a:=a)
 have j:=TG (m:=m) (L:=L') (a:=a)
 have i:=TG (m:=m) (L:=L) (a:=a)
 have q:=HS (fine:=true) (m:=m) (L:=L) h
 have n:=HS (fine:=false) (m:=m) (L:=L) h
 have r:=HS (fine:=true) (m:=m) (L:=L') h
 have o:=HS (fine:=false) (m:=m) (L:=L') h
 have f:AA=879:=rfl
 have e:A0=871:=rfl
 by_cases c:nj a=true
 ·unfold cA
  rw[zp c,zp c,b,]
  cases fine<;>cases d<;>cases io L a<;>cases io L' a<;>simp only[Or,if_false,if_true]<;>omega
 ·unfold cA
  rw[zn c,zn c]
  grind
def afw {j:Bool}(h:TV t)(i:m'.l=m.l):cT j m' L' t<=cT fine m L t+906:=by
 have g:AA=879:=rfl
 have f:A0=871:=rfl
 unfold cT
 split
 ·rename_i c
  obtain⟨a,d,b⟩:=h.aj c
  rw[d]
  exact akb b i
 split
 ·grind
 split
 ·grind
 split
 ·cases t.aj with
  |none=>simp only;omega
  |some a=>simp only;split<;>split<;>omega
 split
 ·rename_i e
  have:=h.sl e
  grind
 ·omega
structure Y8 (a:az)(c:ct):Prop where
 com:ft a=some c
 st:c.B=5\/c.B=6
def Y8.all (h:Y8 a c):zX a=true/\kQ a=false/\nj a=false/\io L a=false/\uA a=1:=by
 have b:=h.com
 have e:zX a=true:=by unfold zX;rw[b];rcases h.st with g|g<;>simp[g]
 have f:kQ a=false:=by unfold kQ;rw[b];rcases h.st with g|g<;>simp[g]
 have d:nj a=false:=by grind
 refine⟨e,f,d,by unfold io;rw[d];rfl,?_⟩
 have:=(jO b).2.1
 unfold uA;rw[if_neg]
 rintro(g|⟨g,_⟩)
 ·unfold Ho at g;rw[b]at g;simp only at g;have:=of_decide_eq_true g;have:=h.st;omega
 ·omega
def PfA.eh {b1:Int}(h:PfA m L b1 a f)(l:Y8 a c):f.u=1/\f.d=b1-1/\f.r=0/\f.w=wC c/\f.cm=true/\f.wr=true/\f.bt=0/\(∀j,f.ex j=false)/\f.o=false/\f.cf=A0+7/\f.cn=AA:=by
 obtain⟨i,n,k,q,p⟩:=l.all (L:=L)
 have b:=l.com
 have s:=(jO b).2.1
 have e:=l.st
 refine⟨by rw[h.u,p],by rw[h.d,i];rfl,?_,?_,by rw[h.cm,b];rfl,?_,?_,λj=>by rw[h.ex,n];rfl,by rw[h.o,q],?_,?_⟩
 ·rw[h.r];unfold rA;rw[b];unfold rC;simp only;rw[zn,zn,zn,zn]
 ·rw[h.w];unfold wA;rw[b]
 ·rw[h.wr,b];simp only;unfold Vf;rcases e with g|g<;>simp[g]
 ·rw[h.bt,b];simp only;unfold nU;rw[zn,zn]
 ·rw[h.cf];unfold cA;rw[zn (by rw[k];simp),zp rfl,zp i,zn]
 ·rw[h.cn];unfold cA;rw[zn (by rw[k];simp),zn zs]
def adf (g:K6 x x' i t t' a a')(n:x'.mem.l=x.mem.l)(hs:x'.mem.s=x.mem.s)(q:Lk a c)(h2:Y8 a' c')(hw:wC c'<=176)(af:0<=rC c)(ac:∀j u,j<4->j≠i->x.ad[j]? = some u->TV u):jq (av x' L')<=jq (av x L)-1:=by
 have d:=fy (m:=x.mem) (L:=L) g.st g.aj
 have P:=fy (m:=x'.mem) (L:=L') g.cB g.bW
 obtain⟨R,A,N,z,M,q1,b1,F⟩:=d.lk q
 obtain⟨W,O,I,U,V,q2,b2,D,B,H,X⟩:=P.eh h2
 have Z:AA=879:=rfl
 have E:A0=871:=rfl
 have v:∀j,j<4->j≠i->(av x' L' j).cm=(av x L j).cm/\(av x' L' j).ex=(av x L j).ex/\iy (av x' L') j<=iy (av x L) j+Wt j/\((av x' L' j).cf<=(av x L j).cf+906/\(av x' L' j).cf<=(av x L j).cn+906/\(av x' L' j).cn<=(av x L j).cf+906/\(av x' L' j).cn<=(av x L j).cn+906):=λj hj b=>by
  unfold iy av
  rw[g.mv.ot j b]
  cases T:x.ad[j]? with
  |none=>exact⟨rfl,rfl,Int.le_add_of_nonneg_right (by have:=(O4 j).1;omega),(show(0:Int)<=0+906 by decide),(show(0:Int)<=0+906 by decide),(show(0:Int)<=0+906 by decide),(show(0:Int)<=0+906 by decide)⟩
  |some u =>
   have h:=ac j u hj b T
   refine⟨rfl,?_,?_,afw h n,afw h n,afw h n,afw h n⟩
   ·show Gc x'.mem u=Gc x.mem u
    grind[Gc]
   ·show Wt j*(uT u+oz (oT L' u))+KK*dT u+(fv x.mem L u).r+(fv x.mem L u).w<=Wt j*(uT u+oz (oT L u))+KK*dT u+(fv x.mem L u).r+(fv x.mem L u).w+Wt j
    grind
 have c0:0<=cP (av x L) i:=by
  unfold cP
  rw[bo g.mv.aG,d.cf,d.cn,q.bJ,q.bJ]
  grind
 have Q:cP (av x' L') i<=cP (av x L) i+879:=by
  have:cP (av x' L') i<=879:=by
   unfold cP
   rw[bo g.mv.bq,H,X]
   grind
  omega
 have s1:=Yh (p:=av x L) (p':=av x' L') g.i4 (λj hj b=>(v j hj b).2.2.2) Q
 have s3:mC (av x' L')<=mC (av x L):=zu λk j hk J=>by
  have Y:(av x' L' j).cm=(av x L j).cm:=by
   by_cases e:j=i
   ·subst e;rw[bo g.mv.bq,bo g.mv.aG,M,V]
   all_goals grind
  have C:(av x' L' k).ex j=(av x L k).ex j:=by
   by_cases e:k=i
   ·subst e;rw[bo g.mv.bq,bo g.mv.aG,F,D]
   all_goals grind
  grind
 have s2:Cg (av x' L')<=Cg (av x L)+(1560+176-KK):=by
  have S:iy (av x' L') i<=iy (av x L) i+Wt i+(176-KK):=by
   unfold iy
   rw[bo g.mv.bq,bo g.mv.aG,R,W,A,O,N,I,z,U,U4 q.st,d.o,B,g.base]
   have hW:=Lo (o:=io L a) i
   grind
  have K:=Iy (f:=λk=>iy (av x L) k+Wt k) (f':=λk=>iy (av x' L') k) (δ:=176-KK) g.i4 (λj hj b=>(v j hj b).2.2.1) S
  grind
 have v1:=Ag (p:=av x L) λj _=>zD j
 have v2:=Ag (p:=av x' L') λj _=>zD j
 have y:KK=5400:=rfl
 grind[jq]
end
structure UL (t:bm):Prop where
 cx:∀a f,t.B=1->t.aj=some a->a.Z=.fetch f->nj a=true->f.B=0\/f.ac.held=false
 com:∀a c,t.B=1->t.aj=some a->ft a=some c->c.B=1->c.ac.held=false
def sU (m m':eO):Prop:=∀s,fV m' s=fV m s\/(fV m s).held=true
section
variable {S:cv}{h0:Hp}{n i j nl nw:Nat}{m m':eO}{L L':jZ}{x x':eU}{t t' u:bm}{a a':az}{c c':ct}{f f':Pf}{b b' δ ε e r r':Int}{fine cm:Bool}
def SQ {τ τ':Int}(h:τ<=τ'):jD L τ'=true->jD L τ=true:=λg=>by
 obtain⟨y,h1,h2⟩:=ya.1 g
 exact ya.2 ⟨y,h1,zo⟩
def ahW (h:RBd a)(A:2<=a.B->jD L a.I=false):gw true m L a<=879:=by
 have u:=h.k
 have i:A0=871:=rfl
 have d:xZ a=255-(a.v.k.length:Int):=rfl
 unfold gw
 split
 ·omega
 split
 ·omega
 split
 ·grind
 split
 ·rename_i f _
  have:=UW (fine:=true) (m:=m) (f:=f)
  by_cases x:2<=a.B
  ·grind
  ·have:=h.st
   omega
 ·rename_i e g
  by_cases o:a.B<=5
  case neg=>rw[zn,zn];omega
  have j:=h.ext e g o
  obtain⟨t,z,y⟩:=aeu j
  split
  ·rename_i p
   obtain⟨s,r⟩:=h.fL e g p
   have:K7 e<=e.ab.length+1:=by unfold K7;split<;>omega
   have w:oz (e.aL&&jD L e.I)=0:=by
    cases n:e.aL
    ·rfl
    ·cases b:jD L e.I
     ·rfl
     ·have:=SQ (r n) b
      grind
   grind
  all_goals grind
 ·rename_i c q
  split
  ·rename_i l
   have:=h.com c q l
   omega
  ·omega
 ·omega
def ai8 (h:RBd a):cA true m L a<=cA false m L a:=by
 have f:=TG (m:=m) (L:=L) (a:=a)
 have e:AA=879:=rfl
 have d:A0=871:=rfl
 unfold cA
 by_cases b:nj a=true
 ·rw[zp b,zp b]
  cases c:io L a
  ·simp only[Or,if_false,if_true]
   have:=ahW (m:=m) (L:=L) h λg=>by
    unfold io at c
    grind
   omega
  all_goals grind
 all_goals grind
def ag0 (h:TV t):cT true m L t<=cT false m L t:=by
 have g:AA=879:=rfl
 have f:A0=871:=rfl
 unfold cT
 split
 ·rename_i c
  obtain⟨a,d,b⟩:=h.aj c
  rw[d]
  exact ai8 b
 simp only[Or,if_false,if_true]
 split
 ·omega
 split
 ·omega
 split
 ·omega
 split
 ·rename_i e
  have:=h.sl e
  omega
 ·omega
def acS (g:K6 x x' i t t' a a')(o:SM x.mem x'.mem)(N:Y8 a c)(O:Y8 a' c')(P:wC c'<=wC c-1):jq (av x' L)<=jq (av x L)-1:=by
 have d:=fy (m:=x.mem) (L:=L) g.st g.aj
 have l:=fy (m:=x'.mem) (L:=L) g.cB g.bW
 obtain⟨A,s,y,p,j,f,r,u,h,F,D⟩:=d.eh N
 obtain⟨H,z,w,C,E,n,B,M,e,v,I⟩:=l.eh O
 have b:(fv x'.mem L t').lv=(fv x.mem L t).lv:=by rw[d.lv,l.lv]
 have J:=LL (δ:=0) g.mv (o.sl i) g.i4 b (zab _) (by rw[F,v];omega) (by rw[D,I];exact zab _) (by rw[e];intro q;cases q) (by rw[h];intro q;cases q)
 have K:=ow (ε:=-1) g.i4 g.mv (o.sl i) (.inl o) b (by rw[f,n]) ⟨λ_=>j,λk _ q=>(by rw[u]at q;cases q),.inl ⟨by rw[j,E,f,n],by rw[r,B];exact zab _⟩⟩ J (by
  unfold tz
  rw[A,H,s,z,y,w,p,C,h,e,g.base]
  omega)
 grind
def adz {f:fe}(h:sU m m')(a:f.B=0\/f.ac.held=false):BB true m' f<=BB true m f:=by
 unfold BB
 rcases a with g|g
 ·grind
 ·rw[zn (show ¬true=false by decide),zn (show ¬true=false by decide)]
  split
  ·grind
  rcases h f.N with q|q
  all_goals grind
def abg (h:sU m m')(c:∀f,a.Z=.fetch f->f.B=0\/f.ac.held=false):gw true m' L a<=gw true m L a:=by
 unfold gw
 split
 ·grind
 split
 ·grind
 split
 ·grind
 split
 ·rename_i f b
  have:=adz h (c f b)
  omega
 all_goals exact zab _
def afe (h:sU m m')(g:UL t):cT true m' L t<=cT true m L t:=by
 unfold cT
 split
 ·rename_i d
  cases e:t.aj with
  |none=>exact zab _
  |some a =>
   simp only
   unfold cA
   by_cases b:nj a=true
   ·rw[zp b,zp b]
    have:=abg (L:=L) h λf c=>g.cx a f d e c b
    grind
   all_goals grind
 grind
def ad5 (h:sU m m')(b:m'.n=m.n)(d:c.B=1->c.ac.held=false):nU m c<=nU m' c:=by
 unfold nU
 split
 ·rename_i a
  rcases h (c.F.getD c.was.length 0)with q|q
  all_goals grind
 all_goals grind
def Mv.fr (h:Mv x x' i t t')(m:sU x.mem x'.mem)(q:x'.mem.n=x.mem.n)(r:x'.mem.s=x.mem.s)(hj:j≠i)(p:∀u,x.ad[j]? = some u->UL u):(av x' L j).lv=(av x L j).lv/\(av x' L j).cf<=(av x L j).cf/\(av x' L j).cn=(av x L j).cn/\(av x' L j).o=(av x L j).o/\(av x' L j).wr=(av x L j).wr/\(av x' L j).cm=(av x L j).cm/\iy (av x' L) j=iy (av x L) j/\(av x' L j).ex=(av x L j).ex/\(av x L j).bt<=(av x' L j).bt:=by
 unfold iy av
 rw[h.ot j hj]
 cases l:x.ad[j]? with
 |none=>exact⟨rfl,zab _,rfl,rfl,rfl,rfl,rfl,rfl,zab _⟩
 |some u =>
  have f:=p u l
  refine⟨rfl,afe m f,aew,rfl,rfl,rfl,rfl,?_,?_⟩
  ·show Gc x'.mem u=Gc x.mem u
   grind[Gc]
  ·show(match fq u with|some c=>nU x.mem c|none=>0:Int)<=(match fq u with|some c=>nU x'.mem c|none=>0:Int)
   cases k:fq u with
   |none=>exact zab _
   |some c =>
    refine ad5 m q λg=>?_
    have b:(pF u).bind ft=some c:=k
    cases d:pF u with
    |none=>rw[d]at b;cases b
    |some a =>
     rw[d]at b
     unfold pF at d
     split at d
     ·rename_i e
      exact f.com a c e d b g
     ·cases d
def W0 (g:K6 x x' i t t' a a')(hf:sU x.mem x'.mem)(hn:x'.mem.n=x.mem.n)(hs:x'.mem.s=x.mem.s)(z:Yc a e b r true)(F:Yc a' e b' r' cm)(H:e=4\/e=5)(aA:e=5->b'=b)(hr:r'<=r-1)
  (am:∀j u,j≠i->x.ad[j]? = some u->UL u):jq (av x' L)<=jq (av x L)-1:=by
 have w:=fy (m:=x.mem) (L:=L) g.st g.aj
 have y:=fy (m:=x'.mem) (L:=L) g.cB g.bW
 obtain⟨u1,R,Y,Q,N,K,I,V⟩:=w.ec z
 obtain⟨u2,Z,W,w2,P,O,b2,T⟩:=y.ec F
 have M:=z.bT (L:=L) H
 have J:=F.bT (L:=L) H
 have n1:=z.c7 H
 have n2:=F.c7 H
 have al:AA=879:=rfl
 have C:¬a.B=7:=λq=>by
  have:=z.cm
  grind[j5]
 have v:=λj (hj:j≠i)=>g.mv.fr (L:=L) hf hn hs hj λu hu=>am j u hj hu
 have l:∀j,j<4->(av x' L j).lv=(av x L j).lv:=λj _=>by
  by_cases e:j=i
  ·subst e;rw[bo g.mv.bq,bo g.mv.aG,w.lv,y.lv]
  all_goals grind
 have h:∀j,j<4->(av x' L j).wr=(av x L j).wr:=λj _=>by
  by_cases e:j=i
  ·subst e;rw[bo g.mv.bq,bo g.mv.aG,K,O]
  all_goals grind
 have ac:∀d,cA d x'.mem L a'<=cA d x.mem L a:=λd=>by
  unfold cA
  rw[zn (c:=nj a'=true) (by rw[n2];simp),zn (c:=nj a=true) (by rw[n1];simp),z.dU,F.dU,zn C]
  grind
 have hc:cP (av x' L) i<=cP (av x L) i:=by
  unfold cP
  rw[Ou l,OY λj hj _=>h j hj,bo g.mv.bq,bo g.mv.aG,w.cf,w.cn,w.o,y.cf,y.cn,y.o,M,J]
  grind
 have s1:=L0 (p:=av x L) (p':=av x' L) (α:=0) (δ:=0) (zab _) g.i4 l h (λj _ hj=>(v j hj).2.2.2.1) (λj _ hj=>by rw[(v j hj).2.2.1];omega) (λj _ hj=>by have:=(v j hj).2.1;omega) zo
 have s2:Cg (av x' L)<=Cg (av x L)+(-1):=Iy (f:=λk=>iy (av x L) k) (f':=λk=>iy (av x' L) k) g.i4 (λj hj D=>by show iy (av x' L) j<=iy (av x L) j;rw[(v j D).2.2.2.2.2.2.1];omega) (by
  show iy (av x' L) i<=iy (av x L) i+(-1)
  unfold iy
  rw[bo g.mv.bq,bo g.mv.aG,u1,u2,R,Z,Y,W,Q,w2,w.o,y.o,M,J,g.base]
  omega)
 have s3:mC (av x' L)<=mC (av x L):=zu λk j hk X=>by
  have af:(av x' L j).cm=true->(av x L j).cm=true:=by
   by_cases e:j=i
   ·subst e;rw[bo g.mv.bq,bo g.mv.aG,N];exact λ_=>rfl
   all_goals grind
  have S:(av x' L k).ex j=(av x L k).ex j:=by
   by_cases U:k=i
   ·subst U;rw[bo g.mv.bq,bo g.mv.aG,V,T]
    grind
   all_goals grind
  grind
 have s4:qO (av x L)<=qO (av x' L):=by
  have E:∀j,j<4->j≠i->QR (av x' L) j=QR (av x L) j:=λj _ hj=>by
   unfold QR;rw[(v j hj).2.2.2.2.2.1,(v j hj).2.2.2.2.1]
  have A:∀j,j<4->j≠i->(av x L j).bt<=(av x' L j).bt:=λj _ hj=>(v j hj).2.2.2.2.2.2.2.2
  cases cm
  ·exact aas g.i4 E (by rw[Ea g.mv.bq,P];rfl) A (λj _=>(zD j).1) (by rw[bo g.mv.aG,I])
  ·refine WM (λj hj=>?_) λj hj=>?_
   ·by_cases e:j=i
    ·subst e;rw[Ea g.mv.bq,Ea g.mv.aG,N,P,K,O]
    all_goals grind
   ·by_cases e:j=i
    ·subst e;rw[bo g.mv.bq,bo g.mv.aG,I,b2];exact zab _
    all_goals grind
 grind[jq]
end
def WkO (L:jZ)(u u':bm):Prop:=u'=u\/u'={ u with bD:=true }\/(u.B=4/\u'=cw u/\(u.aw[u.aI.toNat]?).isSome=true/\∃a,u.aj=some a/\jD L a.I=true)
structure MvW (x x':eU)(L:jZ)(i:Nat)(t t':bm):Prop where
 aG:x.ad[i]? = some t
 bq:x'.ad[i]? = some t'
 ot:∀j,j≠i->(x.ad[j]? = none/\x'.ad[j]? = none)\/∃u u',x.ad[j]? = some u/\x'.ad[j]? = some u'/\WkO L u u'
section
variable {S:cv}{h0:Hp}{n i j nl nw:Nat}{m m':eO}{L L':jZ}{x x':eU}{t t' u:bm}{a a':az}{c c':ct}{f f':Pf}{b b' δ ε e r r':Int}{fine cm:Bool}
def ZT (h:a.B=0):Vi a:=pn zo
def aiB (h:a.B=0):io L a=false/\cA true m L a=A0/\cA false m L a=AA:=by
 have c:=ZT h
 have b:io L a=false:=by grind[io]
 refine⟨b,?_,?_⟩
 ·rw[c.bJ,b];simp only[Or,if_false,if_true];unfold gw;rw[zp h]
 ·rw[c.bJ,b];simp only[Or,if_false]
def aeI (h:(t.aw[t.aI.toNat]?).isSome=true):∃a,(cw t).aj=some a/\a.B=0/\(cw t).B=1/\jP (cw t)=jP t:=by
 unfold cw
 cases hj:t.aw[t.aI.toNat]? with
 |none=>rw[hj]at h;cases h
 |some p =>
  refine⟨_,rfl,?_,rfl,rfl⟩
  split<;>rfl
structure Frs (f:Pf)(b:Int):Prop where
 lv:f.lv=true
 cf:f.cf=A0
 cn:f.cn=AA
 o:f.o=false
 u:f.u=1
 d:f.d=b
 r:f.r=0
 w:f.w=0
 cm:f.cm=false
 wr:f.wr=false
 bt:f.bt=0
 ex:∀j,f.ex j=false
def OI (h:(t.aw[t.aI.toNat]?).isSome=true):Frs (fv m L (cw t)) (jP t):=by
 obtain⟨a,e,b,d,n⟩:=aeI h
 have p:=fy (m:=m) (L:=L) d e
 obtain⟨r,q,g,i,f,k,j,c⟩:=p.cr (ZT b)
 obtain⟨s,u,l⟩:=aiB (m:=m) (L:=L) b
 exact⟨p.lv,by rw[p.cf,u],by rw[p.cn,l],by rw[p.o,s],r,by rw[q,n],g,i,f,k,j,c⟩
def ZS (f:t.B=4)(g:t.aj=some a):(fv m L t).lv=false/\(fv m L t).cf=(if jD L a.I=true then AA else 0)/\(fv m L t).cn=(if jD L a.I=true then AA else 0)/\(fv m L t).o=jD L a.I/\(fv m L t).u=0/\(fv m L t).d=jP t/\(fv m L t).r=0/\(fv m L t).w=0/\(fv m L t).cm=false/\(fv m L t).wr=false/\(fv m L t).bt=0/\∀j,(fv m L t).ex j=false:=by
 have e:pF t=none:=by grind[pF]
 have b:fq t=none:=by grind
 refine⟨?_,?_,?_,?_,?_,?_,?_,?_,?_,?_,?_,λj=>?_⟩
 ·show(!decide (t.B=4)&&!decide (t.B=6))=false;rw[f];rfl
 ·show cT true m L t=_;unfold cT;rw[zn,zn,zn,zp f,g]
 ·show cT false m L t=_;unfold cT;rw[zn,zn,zn,zp f,g]
 ·show oT L t=_;unfold oT;rw[zn,zp f,g]
 ·show uT t=_;unfold uT;rw[zp (.inl f)]
 ·show dT t=_;unfold dT;rw[zn,zn,e];simp only[zbP]
 ·show(match fq t with|some c=>rC c|none=>0)=_;rw[b]
 ·show(match fq t with|some c=>wC c|none=>0)=_;rw[b]
 ·show(fq t).isSome=_;rw[b];rfl
 ·show(match fq t with|some c=>Vf c|none=>false)=_;rw[b]
 ·show(match fq t with|some c=>nU m c|none=>0)=_;rw[b]
 ·show Gc m t j=_
  grind[Gc]
def MvW.o (h:MvW x x' L i t t')(hs:x'.mem.s=x.mem.s)(hj:j≠i)(hb:∀u,x.ad[j]? = some u->TV u) :
  (((av x' L j).lv=(av x L j).lv/\(av x' L j).o=(av x L j).o/\(av x' L j).cf<=(av x L j).cf+3/\(av x' L j).cn=(av x L j).cn/\((av x L j).o=true->(av x L j).cn<=(av x L j).cf+3))\/((av x L j).lv=false/\(av x' L j).cf<=(av x L j).cn/\(av x' L j).cn<=(av x L j).cn/\(av x L j).cf=(av x L j).cn)) /\
  (av x' L j).wr=(av x L j).wr/\(av x' L j).cm=(av x L j).cm/\iy (av x' L) j=iy (av x L) j/\(av x' L j).ex=(av x L j).ex/\(av x' L j).cf<=(av x' L j).cn+0:=by
 have X:AA=879:=rfl
 have K:A0=871:=rfl
 have p:∀u v,x.ad[j]? = some u->TV u->x'.ad[j]? = some v->fv x'.mem L v=fv x'.mem L u->(((av x' L j).lv=(av x L j).lv/\(av x' L j).o=(av x L j).o/\(av x' L j).cf<=(av x L j).cf+3/\(av x' L j).cn=(av x L j).cn/\((av x L j).o=true->(av x L j).cn<=(av x L j).cf+3)) /\
  (av x' L j).wr=(av x L j).wr/\(av x' L j).cm=(av x L j).cm/\iy (av x' L) j=iy (av x L) j/\(av x' L j).ex=(av x L j).ex/\(av x' L j).cf<=(av x' L j).cn+0):=λu v f y l N=>by
  unfold iy
  rw[bo f,bo l,N]
  refine⟨⟨rfl,rfl,?_,aew,λb=>?_⟩,rfl,rfl,rfl,?_,?_⟩
  ·have:=ZP (m:=x.mem) (m':=x'.mem) (L:=L) (t:=u)
   show cT true x'.mem L u<=cT true x.mem L u+3
   omega
  ·have b:oT L u=true:=b
   show cT false x.mem L u<=cT true x.mem L u+3
   unfold oT at b
   unfold cT
   split
   ·rename_i z
    rw[zp z]at b
    obtain⟨a,B,Y⟩:=y.aj z
    rw[B]at b ⊢
    have I:nj a=true:=by
     have b:io L a=true:=b
     unfold io at b
     rw[GE,GE]at b;exact b.1.1
    simp only at b ⊢
    unfold cA
    rw[zp I,zp I,zp b,zp b]
    have:=(TG (m:=x.mem) (L:=L) (a:=a)).1
    omega
   ·rename_i z
    rw[zn z]at b
    split at b
    ·rename_i A
     rw[zn,zn,zp A]
     rw[zn,zn,zp A]
     omega
    ·cases b
  ·show Gc x'.mem u=Gc x.mem u
   funext k;unfold Gc;rw[hs]
  ·have:=ag0 (m:=x'.mem) (L:=L) y
   show cT true x'.mem L u<=cT false x'.mem L u+0
   omega
 rcases h.ot j hj with⟨f,l⟩|⟨u,W,f,l,y⟩
 ·have O:av x L j=pf0:=by grind[av]
  have U:av x' L j=pf0:=by grind[av]
  unfold iy
  rw[O,U]
  exact⟨.inl ⟨rfl,rfl,zd,rfl,λg=>by cases g⟩,rfl,rfl,rfl,rfl,zd⟩
 ·have C:=hb u f
  rcases y with e|e|⟨A,e,S,a,B,q⟩
  ·grind
  ·obtain⟨Z,k2⟩:=p u W f C l (by rw[e];rfl)
   grind
  ·obtain⟨J,D,n,H,T,R,M,V,Q,E,P,F⟩:=ZS (m:=x.mem) (L:=L) A B
   have c:=OI (m:=x'.mem) (L:=L) S
   rw[<-e]at c
   unfold iy
   rw[bo f,bo l]
   rw[q]at D n H
   simp only[if_true]at D n
   refine⟨.inr ⟨J,by rw[c.cf,n];omega,by rw[c.cn,n];omega,by rw[D,n]⟩,by rw[c.wr,E],by rw[c.cm,Q],?_,?_,by rw[c.cf,c.cn];omega⟩
   ·rw[c.u,c.o,c.d,c.r,c.w,H,T,R,M,V];rfl
   ·funext k;rw[c.ex,F]
end
structure Go2 (x x':eU)(L:jZ)(i:Nat)(t t':bm)(a a':az):Prop where
 mv:MvW x x' L i t t'
 i4:i<4
 st:t.B=1
 aj:t.aj=some a
 cB:t'.B=1
 bW:t'.aj=some a'
 base:jP t'=jP t
section
variable {S:cv}{h0:Hp}{n i j nl nw:Nat}{m m':eO}{L L':jZ}{x x':eU}{t t' u:bm}{a a':az}{c c':ct}{f f':Pf}{b b' δ ε e r r':Int}{fine cm:Bool}
def Sz {p p':Ps}(hi:i<4){v:Int}(r:iy p' i<=iy p i-v)(o:∀j,j≠i->(p' j).cm=(p j).cm/\iy p' j=iy p j/\(p' j).ex=(p j).ex)(s:(p' i).cm=true->(p i).cm=true)(q:(p' i).ex=(p i).ex)(hb:∀j,0<=(p j).bt/\(p j).bt<=1)(e:∀j,0<=(p' j).bt/\(p' j).bt<=1):Cg p'+mC p'-qO p'<=Cg p+mC p-qO p+1-v:=by
 have m:Cg p'<=Cg p+(-v):=Iy (f:=λk=>iy p k) (f':=λk=>iy p' k) hi (λj hj a=>by show iy p' j<=iy p j;rw[(o j a).2.1];omega) (by show iy p' i<=iy p i+(-v);omega)
 have n:mC p'<=mC p:=zu λk j h d=>by
  have b:(p' j).cm=true->(p j).cm=true:=by grind
  have c:(p' k).ex j=(p k).ex j:=by grind
  grind
 have g:=Ag (p:=p) λj _=>hb j
 have l:=Ag (p:=p') λj _=>e j
 omega
def af3 (g:Go2 x x' L i t t' a a')(V:x'.mem.s=x.mem.s)(W:Y8 a c)(X:Y8 a' c')(Y:wC c'<=wC c-5)(hb:∀j u,j≠i->x.ad[j]? = some u->TV u):jq (av x' L)<=jq (av x L)-1:=by
 have d:=fy (m:=x.mem) (L:=L) g.st g.aj
 have n:=fy (m:=x'.mem) (L:=L) g.cB g.bW
 obtain⟨F,r,C,q,B,h,Q,y,l,K,J⟩:=d.eh W
 obtain⟨M,D,A,I,U,E,T,O,f,z,N⟩:=n.eh X
 have P:AA=879:=rfl
 have w:A0=871:=rfl
 have b:=λj (hj:j≠i)=>g.mv.o V hj λu H=>hb j u hj H
 have S:=SJ (p:=av x L) (p':=av x' L) g.i4 (by rw[bo g.mv.aG,h]) (λj hj=>by
  by_cases e:j=i
  ·subst e;rw[bo g.mv.bq,bo g.mv.aG,h,E]
  ·exact(b j e).2.1) (by
  rw[bo g.mv.bq,bo g.mv.aG,d.lv,n.lv,l,f,K,z,J,N]
  refine⟨rfl,rfl,rfl,rfl,zo⟩) (λj _ hj=>(b j hj).1)
 have R:=Sz (p:=av x L) (p':=av x' L) (v:=5) g.i4 (by
  unfold iy
  rw[bo g.mv.bq,bo g.mv.aG,F,M,r,D,C,A,q,I,l,f,g.base]
  omega) (λj hj=>⟨(b j hj).2.2.1,(b j hj).2.2.2.1,(b j hj).2.2.2.2.1⟩) (λ_=>by rw[bo g.mv.aG,B]) (by rw[bo g.mv.bq,bo g.mv.aG];funext k;rw[y,O]) zD zD
 unfold jq
 omega
def afL (g:Go2 x x' L i t t' a a')(hs:x'.mem.s=x.mem.s)(h1:Y8 a c)(y:AZ a')(hf:a'.O=2)(hw:5<=wC c)(hb:∀j u,j≠i->x.ad[j]? = some u->TV u):jq (av x' L)<=jq (av x L)-1:=by
 have z:=fy (m:=x.mem) (L:=L) g.st g.aj
 have h:=fy (m:=x'.mem) (L:=L) g.cB g.bW
 obtain⟨U,J,S,I,Q,D,b1,M,E,H,F⟩:=z.eh h1
 obtain⟨P,W,c2,q2,b2⟩:=h.out y
 have b:=JG y (.inl hf)
 have l:kQ a'=false:=by unfold kQ;rw[y.com];simp[hf]
 have w:nj a'=false:=by unfold nj;rw[b];rfl
 have C:(fv x'.mem L t').o=false:=by rw[h.o];unfold io;rw[w];rfl
 have X:(fv x'.mem L t').u=1:=by
  rw[h.u];unfold uA;rw[if_neg];rw[y.ac];rintro(q|q)
  ·cases q
  ·omega
 have R:(fv x'.mem L t').d=jP t'-1:=by rw[h.d,b];rfl
 have Z:∀j,(fv x'.mem L t').ex j=false:=λj=>by rw[h.ex,l];rfl
 have N:(fv x'.mem L t').cf=A0+6:=by rw[h.cf];unfold cA;rw[if_neg (by rw[w];simp),if_pos rfl,if_pos b,if_pos y.st]
 have Y:(fv x'.mem L t').cn=AA:=by rw[h.cn];unfold cA;rw[if_neg (by rw[w];simp),if_neg (by simp)]
 have af:AA=879:=rfl
 have K:A0=871:=rfl
 have n:=λj (hj:j≠i)=>g.mv.o hs hj λu w=>hb j u hj w
 have T:∃q:Ps,(∀k,k≠i->q k=av x' L k)/\q i=av x L i:=⟨λk=>if k=i then av x L i else av x' L k,λk V=>by simp only;rw[if_neg V],by simp only;rw[if_pos trivial]⟩
 obtain⟨q,f,r⟩:=T
 have s1:=SJ (p:=av x L) (p':=q) g.i4 (by rw[bo g.mv.aG,D]) (λj hj=>by
  by_cases e:j=i
  ·subst e;rw[r]
  ·rw[f j e];exact(n j e).2.1) (by
  rw[r,bo g.mv.aG,F,H]
  exact⟨rfl,rfl,rfl,rfl,by omega⟩) (λj _ hj=>by rw[f j hj];exact(n j hj).1)
 have A:tm (av x' L)=tm q:=Ou λj hj=>by
  by_cases e:j=i
  ·subst e;rw[r,bo g.mv.bq,bo g.mv.aG,z.lv,h.lv]
  ·rw[f j e]
 have B:JZ (av x' L) i=JZ q i:=OY λj hj e=>by rw[f j e]
 have s0:=SF (p:=q) (p':=av x' L) (δ:=0) g.i4 (λj _ hj=>by rw[f j hj]) (λ_=>by rw[r,bo g.mv.aG,z.lv]) (λj _ hj=>by rw[f j hj]) (λ_=>by rw[r,bo g.mv.aG,D]) (λj _ hj=>by rw[f j hj]) (λj _ hj=>by rw[f j hj];omega) (λj _ hj=>by rw[f j hj];omega) (λj _ hj=>by rw[f j hj];have:=(n j hj).2.2.2.2.2;omega) (by
  unfold cP
  rw[A,B,r,bo g.mv.bq,bo g.mv.aG,E,C,H,N,F,Y]
  split<;>omega)
 have s2:=Sz (p:=av x L) (p':=av x' L) (v:=5) g.i4 (by
  unfold iy
  rw[bo g.mv.bq,bo g.mv.aG,U,X,J,R,S,P,I,W,E,C,g.base]
  omega) (λj hj=>⟨(n j hj).2.2.1,(n j hj).2.2.2.1,(n j hj).2.2.2.2.1⟩) (λ_=>by rw[bo g.mv.aG,Q]) (by rw[bo g.mv.bq,bo g.mv.aG];funext k;rw[M,Z]) zD zD
 unfold jq
 omega
structure Idl (f:Pf):Prop where
 o:f.o=false
 r:f.r=0
 w:f.w=0
 cm:f.cm=false
 wr:f.wr=false
 bt:f.bt=0
def Ic (e:t.B≠1)(d:t.B≠4):Idl (fv m L t):=by
 have b:pF t=none:=by grind[pF]
 have a:fq t=none:=by grind
 refine⟨?_,?_,?_,?_,?_,?_⟩
 ·show oT L t=_;unfold oT;rw[zn e,zn d]
 ·show(match fq t with|some c=>rC c|none=>0)=_;rw[a]
 ·show(match fq t with|some c=>wC c|none=>0)=_;rw[a]
 ·show(fq t).isSome=_;rw[a];rfl
 ·show(match fq t with|some c=>Vf c|none=>false)=_;rw[a]
 ·show(match fq t with|some c=>nU m c|none=>0)=_;rw[a]
theorem Fo (b:t.B=2):(fv m L t).lv=true/\(fv m L t).cf=A0+2/\(fv m L t).cn=AA/\(fv m L t).u=1/\(fv m L t).d=jP t/\∀j:Nat,(fv m L t).ex j=(decide (t.aY=j)&&(!t.c2||decide (t.cl=m.s.getD j 0))):=by
 have a:pF t=none:=by grind[pF]
 refine⟨?_,?_,?_,?_,?_,λj=>?_⟩
 ·show(!decide (t.B=4)&&!decide (t.B=6))=true;rw[b];rfl
 ·show cT true m L t=_;unfold cT;rw[zn,zp b,zp rfl]
 ·show cT false m L t=_;unfold cT;rw[zn,zp b,zn zs]
 ·show uT t=_;unfold uT;rw[zn,a]
 ·show dT t=_;unfold dT;rw[zn,zn,a];simp only[zbP]
 ·show Gc m t j=_;unfold Gc;rw[a,decide_eq_true b];simp
def VM (b:t.B=3):(fv m L t).lv=true/\(fv m L t).cf=A0+t.aS/\(fv m L t).cn=AA+t.aS/\(fv m L t).u=1/\(fv m L t).d=jP t/\∀j:Nat,(fv m L t).ex j=false:=by
 have a:pF t=none:=by grind[pF]
 refine⟨?_,?_,?_,?_,?_,λj=>?_⟩
 ·show(!decide (t.B=4)&&!decide (t.B=6))=true;rw[b];rfl
 ·show cT true m L t=_;unfold cT;rw[zn,zn,zp b,zp rfl]
 ·show cT false m L t=_;unfold cT;rw[zn,zn,zp b,zn zs]
 ·show uT t=_;unfold uT;rw[zn,a]
 ·show dT t=_;unfold dT;rw[zn,zn,a];simp only[zbP]
 ·show Gc m t j=_;unfold Gc;rw[a,decide_eq_false zo];simp
def ZV (b:t.B=5):(fv m L t).lv=true/\(fv m L t).cf=A0+1+(t.s.aB-t.aK.length)/\(fv m L t).cn=AA/\(fv m L t).u=1/\(fv m L t).d=2*tu t-1/\∀j:Nat,(fv m L t).ex j=false:=by
 have a:pF t=none:=by grind[pF]
 refine⟨?_,?_,?_,?_,?_,λj=>?_⟩
 ·show(!decide (t.B=4)&&!decide (t.B=6))=true;rw[b];rfl
 ·show cT true m L t=_;unfold cT;rw[zn,zn,zn,zn,zp b,zp rfl]
 ·show cT false m L t=_;unfold cT;rw[zn,zn,zn,zn,zp b,zn zs]
 ·show uT t=_;unfold uT;rw[zn,a]
 ·show dT t=_;unfold dT;rw[zn,zp b]
 ·show Gc m t j=_;unfold Gc;rw[a,decide_eq_false zo];simp
def agy (e:t.B=6):(fv m L t).lv=false/\(fv m L t).cf=0/\(fv m L t).cn=0/\(fv m L t).u=0/\(fv m L t).d=0/\∀j:Nat,(fv m L t).ex j=false:=by
 have b:pF t=none:=by grind[pF]
 have c:∀a,cT a m L t=0:=λa=>by unfold cT;rw[zn,zn,zn,zn,zn]
 refine⟨?_,c true,c false,?_,?_,λj=>?_⟩
 ·show(!decide (t.B=4)&&!decide (t.B=6))=false;rw[e];rfl
 ·show uT t=_;unfold uT;rw[zp (.inr e)]
 ·show dT t=_;unfold dT;rw[zp e]
 ·show Gc m t j=_;unfold Gc;rw[b,decide_eq_false zo];simp
def Wc (hi:i<4)(h:Mv x x' i t t')(o:Sl x.mem x'.mem i)(n:(fv x'.mem L t').lv=false)(y:(fv x.mem L t).wr=false/\(fv x'.mem L t').wr=false)(e:(fv x.mem L t).cm=false/\(fv x'.mem L t').cm=false)(z:(fv x.mem L t).bt=0)
  (A:∀k,k<i->(fv x.mem L t).ex k=true->(fv x'.mem L t').ex k=true) (D:(fv x'.mem L t').cn<=cP (av x L) i+δ) (E:tz i (fv x'.mem L t')<=tz i (fv x.mem L t)+ε) (hb:∀j u,j≠i->x.ad[j]? = some u->TV u):jq (av x' L)<=jq (av x L)+(δ+ε):=by
 have b:=λj (hj:j≠i)=>h.f (L:=L) o hj
 have l:∀j,j≠i->(av x' L j).cf<=(av x L j).cn:=λj hj=>by
  rw[(b j hj).2.1]
  unfold av
  cases v:x.ad[j]? with
  |none=>exact zab _
  |some u=>exact ag0 (hb j u hj v)
 have m:cP (av x' L) i=(fv x'.mem L t').cn:=by
  unfold cP
  rw[if_neg,bo h.bq]
  rintro⟨w,_⟩
  have:=tO (p:=av x' L) (by omega)
  rw[w,bo h.bq,n]at this;cases this
 have s:=SF (p:=av x L) (p':=av x' L) (δ:=δ) hi (λj _ hj=>(b j hj).1) (λg=>by rw[bo h.bq,n]at g;cases g) (λj _ hj=>(b j hj).2.2.2.2.1) (λg=>by rw[bo h.bq,y.2]at g;cases g) (λj _ hj=>(b j hj).2.2.2.1) (λj _ hj=>by rw[(b j hj).2.2.1];omega) (λj _ hj=>by rw[(b j hj).2.1];omega) (λj _ hj=>l j hj) (by rw[m];exact D)
 obtain⟨r,C⟩:=KH (L:=L) hi h o (.inr e.2) ⟨λg=>(by rw[e.2]at g;cases g),A,.inr ⟨by rw[e.2];rfl,z⟩⟩
 have B:=zu r
 have q:=Ej (L:=L) hi h o E
 have:=phi_le (p:=av x L) (p':=av x' L) (a:=δ) (c:=0) (d:=0) s q (by omega) (by omega)
 omega
def afn {p p':Ps}(h:∀j,∃e,p' j={ p j with ex:=e })(x:∀k j,k<4->j<k->(p j).cm=true->(p k).ex j=true->(p' k).ex j=true):jq p'<=jq p:=by
 have v:mC p'<=mC p:=zu λk j q l=>by
  have m:(p' j).cm=(p j).cm:=by obtain⟨e,i⟩:=h j;rw[i]
  grind
 obtain⟨o,c⟩:=h 0
 obtain⟨u,b⟩:=h 1
 obtain⟨s,f⟩:=h 2
 obtain⟨w,d⟩:=h 3
 have g:tm p'=tm p:=by unfold tm;rw[c,b,f,d]
 have a:∀j,JZ p' j=JZ p j:=λj=>by unfold JZ;rw[c,b,f,d]
 have n:Ei p'=Ei p:=by
  show cP p' 0+cP p' 1+cP p' 2+cP p' 3=_
  unfold cP
  rw[g,a,a,a,a,c,b,f,d];rfl
 have t:Cg p'=Cg p:=by
  show iy p' 0+iy p' 1+iy p' 2+iy p' 3=_
  unfold iy
  rw[c,b,f,d]
 have r:qO p'=qO p:=by
  unfold qO QR
  rw[c,b,f,d]
 grind[jq]
end
structure Id2 (f:Pf)(b cf cn:Int):Prop where
 lv:f.lv=true
 cf:f.cf=cf
 cn:f.cn=cn
 u:f.u=1
 d:f.d=b
 fE:Idl f
section
variable {S:cv}{h0:Hp}{n i j nl nw:Nat}{m m':eO}{L L':jZ}{x x':eU}{t t' u y:bm}{a a':az}{c c':ct}{f f':Pf}{b b' b1 b2 f1 f2 n1 n2 δ ε e r r':Int}{fine cm:Bool}
def ad8 (s:t.B=1)(v:t.aj=some a)(h:AZ a)(r:a.O=5):Id2 (fv m L t) (jP t) (A0+3) AA/\∀j:Nat,(fv m L t).ex j=decide (a.aY=j):=by
 have p:=fy (m:=m) (L:=L) s v
 obtain⟨e,i,g,l,k⟩:=p.out h
 obtain⟨c,f,n⟩:=Bv h r
 have b:nj a=false:=by grind
 refine⟨⟨p.lv,?_,?_,?_,by rw[p.d,c];simp[oz],⟨by rw[p.o];unfold io;rw[b];rfl,e,i,g,l,k⟩⟩,λj=>by rw[p.ex,f,n];simp⟩
 ·rw[p.cf];unfold cA;rw[if_neg (by rw[b];simp),if_pos rfl,if_neg (by rw[c];simp),if_pos h.st]
 ·rw[p.cn];unfold cA;rw[if_neg (by rw[b];simp),if_neg (by simp)]
 ·rw[p.u];unfold uA;rw[if_neg];rw[h.ac];rintro(q|q)
  all_goals grind
def agk (r:t.B=1)(s:t.aj=some a)(h:AZ a)(n:a.O=2\/a.O=4):Id2 (fv m L t) (jP t-1) (A0+6) AA/\∀j:Nat,(fv m L t).ex j=false:=by
 have p:=fy (m:=m) (L:=L) r s
 obtain⟨f,i,g,l,k⟩:=p.out h
 have e:=JG h n
 have b:kQ a=false:=by unfold kQ;rw[h.com];simp;intro _;omega
 have c:nj a=false:=by grind
 refine⟨⟨p.lv,?_,?_,?_,by rw[p.d,e];rfl,⟨by rw[p.o];unfold io;rw[c];rfl,f,i,g,l,k⟩⟩,λj=>by rw[p.ex,b];rfl⟩
 ·rw[p.cf];unfold cA;rw[if_neg (by rw[c];simp),if_pos rfl,if_pos e,if_pos h.st]
 ·rw[p.cn];unfold cA;rw[if_neg (by rw[c];simp),if_neg (by simp)]
 ·rw[p.u];unfold uA;rw[if_neg];rw[h.ac];rintro(q|q)
  all_goals grind
def Frs.fQ (h:Frs f b):Id2 f b A0 AA:=⟨h.lv,h.cf,h.cn,h.u,h.d,⟨h.o,h.r,h.w,h.cm,h.wr,h.bt⟩⟩
def FZ (f:t.B=2):Id2 (fv m L t) (jP t) (A0+2) AA:=by
 obtain⟨d,e,b,c,a,_⟩:=Fo (m:=m) (L:=L) f
 exact⟨d,e,b,c,a,Ic zo zo⟩
def R7 (f:t.B=3):Id2 (fv m L t) (jP t) (A0+t.aS) (AA+t.aS):=by
 obtain⟨d,e,b,c,a,_⟩:=VM (m:=m) (L:=L) f
 exact⟨d,e,b,c,a,Ic zo zo⟩
def Qg (f:t.B=5):Id2 (fv m L t) (2*tu t-1) (A0+1+(t.s.aB-t.aK.length)) AA:=by
 obtain⟨d,e,b,c,a,_⟩:=ZV (m:=m) (L:=L) f
 exact⟨d,e,b,c,a,Ic zo zo⟩
def F2 (hi:i<4)(h:Mv x x' i t t')(j:Sl x.mem x'.mem i)(e:Id2 (fv x.mem L t) b1 f1 n1)(f:Id2 (fv x'.mem L t') b2 f2 n2)(hb:b2<=b1)(p:δ<=0)(n:f2<=f1+δ)(s:n2<=n1)
  (l:∀k,k<i->(fv x.mem L t).ex k=true->(fv x'.mem L t').ex k=true):jq (av x' L)<=jq (av x L)+sT (av x L) i δ:=by
 have c:(fv x'.mem L t').lv=(fv x.mem L t).lv:=by rw[e.lv,f.lv]
 have b:=e.fE
 have a:=f.fE
 have g:=LL (δ:=δ) h j hi c p (by rw[e.cf,f.cf];exact n) (by rw[e.cn,f.cn];exact s) (by rw[a.o];intro q;cases q) (by rw[b.o];intro q;cases q)
 have m:=ow (ε:=0) hi h j (.inr a.cm) c (by rw[b.wr,a.wr]) ⟨λq=>(by rw[a.cm]at q;cases q),l,.inl ⟨by rw[b.cm,a.cm];rfl,by rw[b.bt,a.bt];exact zab _⟩⟩ g (by
  unfold tz
  rw[e.u,f.u,e.d,f.d,b.r,a.r,b.w,a.w,b.o,a.o]
  have:KK*b2<=KK*b1:=zby hb zd
  omega)
 omega
def sZ (hi:i<4)(h:Mv x x' i t (cw y))(F:Sl x.mem x'.mem i)(c:Id2 (fv x.mem L t) b1 f1 n1)(hb:jP y<=b1)(E:0<=b1)(O:-100<=δ/\δ<=0)(N:A0<=f1+δ)(P:AA<=n1)
  (f:∀k,k<i->(fv x.mem L t).ex k=false) (D:∀j u,j≠i->x.ad[j]? = some u->TV u):jq (av x' L)<=jq (av x L)+sT (av x L) i δ:=by
 have C:AA=879:=rfl
 have n:A0=871:=rfl
 cases hj:y.aw[y.aI.toNat]? with
 |some p =>
  have g:=OI (m:=x'.mem) (L:=L) (t:=y) (by rw[hj];rfl)
  exact F2 hi h F c g.fQ hb O.2 N P λk e q=>by rw[f k e]at q;cases q
 |none =>
  have l:(cw y).B=6:=by unfold cw;rw[hj]
  obtain⟨s,M,v,A,z,J⟩:=agy (m:=x'.mem) (L:=L) l
  have a:=c.fE
  have b:=Ic (m:=x'.mem) (L:=L) (t:=cw y) zo zo
  have H:sT (av x L) i δ≥δ:=by unfold sT;split<;>omega
  have K:-δ<=cP (av x L) i:=by
   unfold cP
   rw[bo h.aG,c.cf,c.cn]
   split<;>omega
  have:=Wc (δ:=δ) (ε:=0) hi h F s ⟨a.wr,b.wr⟩ ⟨a.cm,b.cm⟩ a.bt (λk e q=>by rw[f k e]at q;cases q) (by rw[v];omega) (by
   unfold tz
   rw[c.u,c.d,a.r,a.w,a.o,A,z,b.r,b.w,b.o]
   have:0<=KK*b1:=zbS zd E
   have I:=(O4 i).1
   simp[oz]
   omega) D
  omega
def acZ (hi:i<4)(h:Mv x x' i t t')(W:Sl x.mem x'.mem i)(V:t.B=1)(Z:t.aj=some a)(s:AZ a)(R:a.O=3)(Y:∀fine,gw fine x.mem L a=1)(U:io L a=jD L a.I)
  (X:t'.B=4) (S:t'.aj=some a') (T:a'.I=a.I) (hb:jP t'=jP t) (Q:∀j u,j≠i->x.ad[j]? = some u->TV u):jq (av x' L)<=jq (av x L)-1:=by
 have N:AA=879:=rfl
 have p:=fy (m:=x.mem) (L:=L) V Z
 obtain⟨y,v,H,D,f⟩:=p.out s
 obtain⟨n,g⟩:=Oc s R
 have J:nj a=true:=by unfold nj;rw[n,g];rfl
 obtain⟨w,P,l,r,E,C,z,A,K,c,F,M⟩:=ZS (m:=x'.mem) (L:=L) X S
 rw[T]at P l r
 have b:∀fine,cA fine x.mem L a=if io L a=true then 1+AA else if fine=true then 1 else AA:=λfine=>by
  unfold cA
  rw[zp J,Y fine]
 have e:(fv x.mem L t).u=0:=by rw[p.u];unfold uA;rw[zp (.inr ⟨s.st,R⟩)]
 have:=Wc (δ:=-1) (ε:=0) hi h W w ⟨D,c⟩ ⟨H,K⟩ f (λk _ q=>by rw[p.ex,g]at q;cases q) (by
  rw[l]
  unfold cP
  rw[bo h.aG,p.cf,p.cn,b,b,U]
  cases jD L a.I
  ·simp only[Or,if_false,if_true]
   split<;>omega
  ·simp only[if_true]
   split<;>omega) (by
  unfold tz
  rw[e,p.d,n,y,v,p.o,U,r,E,C,z,A,hb]
  simp[oz]) Q
 omega
def abm (hi:i<4)(h:Mv x x' i t (cw y))(J:Sl x.mem x'.mem i)(I:t.B=1)(M:t.aj=some a)(n:AZ a)(F:a.O=3)(K:∀fine,gw fine x.mem L a=1)(H:io L a=true)
  (hj:(y.aw[y.aI.toNat]?).isSome=true) (hb:jP y=jP t):jq (av x' L)<=jq (av x L)-1:=by
 have E:AA=879:=rfl
 have z:A0=871:=rfl
 have p:=fy (m:=x.mem) (L:=L) I M
 obtain⟨C,v,s,D,e⟩:=p.out n
 obtain⟨l,j⟩:=Oc n F
 have A:nj a=true:=by unfold nj;rw[l,j];rfl
 have b:=OI (m:=x'.mem) (L:=L) hj
 have c:∀fine,cA fine x.mem L a=1+AA:=λfine=>by
  unfold cA
  rw[zp A,K fine,zp H]
 have g:(fv x.mem L t).u=0:=by rw[p.u];unfold uA;rw[zp (.inr ⟨n.st,F⟩)]
 have f:(fv x'.mem L (cw y)).lv=(fv x.mem L t).lv:=by rw[p.lv,b.lv]
 have:=ow (δ:=-1) (ε:=0) hi h J (.inr b.cm) f (by rw[D,b.wr]) ⟨λq=>(by rw[b.cm]at q;cases q),λk _ q=>(by rw[p.ex,j]at q;cases q),.inl ⟨by rw[s,b.cm];rfl,by rw[e,b.bt];exact zab _⟩⟩ (by
  unfold cP
  rw[bo h.bq,bo h.aG,b.cf,b.cn,p.cf,p.cn,c,c]
  split<;>split<;>omega) (by
  unfold tz
  rw[g,p.d,l,C,v,p.o,H,b.u,b.d,b.o,b.r,b.w,hb]
  simp[oz])
 omega
end
end Go.Proofs.YtoealglbimbbmaaGreatDoor.S
