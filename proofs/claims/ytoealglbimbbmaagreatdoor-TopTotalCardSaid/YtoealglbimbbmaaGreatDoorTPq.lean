import Derived.Test.YtoealglbimbbmaaGreatDoorTPn
set_option linter.defProp false
set_option linter.unusedVariables false
set_option linter.unusedSimpArgs false
namespace Go.Proofs.YtoealglbimbbmaaGreatDoor.S
open Go Go.Proofs
def Pr:∀{up:List Lv}{out:List ay}{b:Int},SP out->(∀r∈up,SP r.c)->(∀c∈out,c.J<b)->(∀r∈up,∀c∈r.c,c.J<b)->SP (up.foldl (λout q=>mg q.c out) out)/\(∀c∈up.foldl (λout q=>mg q.c out) out,c.J<b)/\(up.foldl (λout q=>mg q.c out) out).length<=iY up+out.length
 | [],out,b,h,_,g,_=>⟨h,g,by simp[iY]⟩
 |r::up,out,b,h,hu,g,gu=>by
  have h1:SP (mg r.c out):=(hu r zs).b2 h.bx
  obtain⟨r1,r2,r3⟩:=Pr (up:=up) h1 (λq hq=>hu q (gr _ hq)) (b:=b) (λc hc=>by
   rcases QG hc with hc|⟨d,hd,e⟩
   ·exact gu r zs c hc
   ·rw[e];exact g d hd) (λq hq=>gu q (gr _ hq))
  refine⟨r1,r2,?_⟩
  rw[il]
  have:=(Ko (l:=out) (cs:=r.c)).2
  simp only[zbv]
  omega
def Xk.cells {s:iX}(h:Xk s):SP s.l.cells/\(∀c∈s.l.cells,c.J<s.size)/\s.l.cells.length<=96:=by
 obtain⟨f,g,i⟩:=Pr (up:=s.l.up) (out:=s.l.r.c) (b:=s.size) (h.ok.ok _ zs) (λr a=>h.ok.ok r (gr _ a)) (h.b7 _ zs) (λr a=>h.b7 r (gr _ a))
 refine⟨f,g,?_⟩
 have d:=h.ok.len
 have j:=h.ok.hi
 rw[il]at d
 have e:s.l.cells=s.l.up.foldl (λout q=>mg q.c out) s.l.r.c:=rfl
 rw[e];omega
structure ai7 (s:iX)(g d:Nat)(R:Nat×iX×Int×Int):Prop where
 k:R.2.1.k=s.k
 size:R.2.1.size=s.size
 ok:Xk s->Xk R.2.1
 O:R.2.2.1=1\/R.2.2.1=2\/R.2.2.1=4
 a9:R.2.2.1=1->Nd R.2.1
 aG:R.1<=g+d
 fr:R.2.1.l.aH.length<=s.l.aH.length
def Te:∀{l:List Int}{g:Nat}{s:iX},ai7 s g l.length (j7 l g s)
 | [],g,s=>⟨rfl,rfl,id,.inr (.inl rfl),by simp[j7],by simp[j7],LT _⟩
 |b::l,g,s=>by
  have hv:=afN (s:=s) (n:=b)
  unfold j7
  split
  ·obtain⟨r1,r2,r3,r4,r5,r6,r7⟩:=Te (l:=l) (g:=g+1) (s:=(v9 s b).1)
   have:=hv.1.fr
   exact⟨r1.trans hv.1.k,r2.trans hv.1.size,λo=>r3 (hv.1.ok o),r4,r5,by simp only[zad];omega,zo⟩
  ·split
   ·rename_i g2
    have:=hv.1.fr
    exact⟨hv.1.k,hv.1.size,hv.1.ok,.inl rfl,λ_=>(hv.2 g2).1,zs,by simp only;omega⟩
   ·have:=hv.1.fr
    exact⟨hv.1.k,hv.1.size,hv.1.ok,.inr (.inr rfl),zs,zs,by simp only;omega⟩
abbrev ke (S:cv)(c:Int):Nat:=(ie c S.F S.wide).toNat
abbrev rdP (l:List jz):List (Nat×Int):=l.map λz=>(z.N.toNat,z.D)
def Im:zT->Hx
 | .com c=>jX c
 |_=>Dy
def az.aG (x:az):Int:=if x.Z.wr=true then x.I-1 else x.I
structure ll (S:cv)(n nl nw:Nat):Prop where
 hs:gi S=S
 nl:S.F=nl
 nw:S.a0=nw
 n4:n<=4
structure ahX (S:cv)(n:Nat)(G:Gs)(x:az)(f:fe):Prop where
 O:f.Y.O=0
 pl:f.J=x.v.a9
 cD:f.N=ie f.J S.F S.wide
 I:f.I=x.I
 st:f.B=0\/f.B=1\/f.B=2
 ac:f.B≠0->f.ac.held=false/\f.ac.ar=0/\0<=f.ac.D/\f.ac.D<=f.I/\f.ac.D<=(G.lk (ke S f.J)).D
 cz:f.B=2->zC (ke S) n G f.J f.ac.D f.word
structure aiA (S:cv)(h0:Hp)(n:Nat)(G:Gs)(i:Nat)(x:az)(e:mj):Prop where
 O:e.Y.O=0
 ab:e.ab=x.rd
 ok:Sg e
 aG:e.aL=true->x.I<=e.I/\e.I<=G.T/\∀j z,j<e.K->e.ab[j]? = some z->kX (ke S) h0 n G i e.I x.v.k z.N.toNat z.D
 K:e.aL=false->e.K=0
structure jJ (S:cv)(h0:Hp)(n:Nat)(G:Gs)(nl nw i:Nat)(x:az):Prop where
 me:x.me=i
 s:x.s=S
 st:0<=x.B/\x.B<=8
 cj:Xk x.v
 bZ:R8 x.v
 cw:x.v.size=nw
 rd:x.rd.length<=16/\∀z∈x.rd,0<=z.N/\z.N<nl
 a4:x.aD.length<=100000/\x.aQ<=x.aD.length
 run:x.B<=4->(∀r,x.run=some r->zW r x.v)/\(x.run=none->x.v.l.aH.length<=1000)
 bR:(x.Z.bh=true\/x.O=2)->x.v.l.aH.length<=1000/\x.af.length<=16
 aq:x.aq=decide (2<=x.B)
 a2:2<=x.B->0<=x.a2/\x.a2<=x.I/\x.I<=G.T/\(x.Z.wr=true->x.a2<x.I)
 d8:x.B<=6->x.O=0
 ck:x.B<=2->x.Z=.none/\x.v.k=[]/\x.rd=[]
 all:2<=x.B->yA (ke S) h0 n G i x.aG (rdP x.rd) x.v.k
 cx:x.B=3->Nd x.v/\∃f,x.Z=.fetch f/\ahX S n G x f
 ext:(x.B=4\/x.B=5)->(x.B=4->Nd x.v)/\∃e,x.Z=.ext e/\aiA S h0 n G i x e
 com:x.B=6->∃c,x.Z=.com c/\c.Y.O=0
 cy:∀c,x.Z=.com c->nV (ke S) h0 n G nl nw i x.v.k c/\c.ab=x.rd/\c.cells=x.v.l.cells/\(c.ao=true->x.I=c.aj+1)/\(c.ao=false->c.I=x.I)/\6<=x.B/\x.a2<=c.I
 out:7<=x.B->(x.O=2\/x.O=3\/x.O=4\/x.O=5)/\(x.Z.wr=true->x.O=2)/\(x.O=2->x.Z.wr=false->x.v.l.cells=[])/\∀c,x.Z=.com c->c.Y.O≠0
section
variable {S:cv}{h0:Hp}{n me i nl nw:Nat}{G G':Gs}{m:eO}{L:jZ}{X:Nat->Hx}{x:az}{ρ:qI}
def ll.lo (h:ll S n nl nw):32<=nw/\nw<=256/\1<=nl/\nl<=16/\0<=S.fuel/\S.fuel<=400:=by
 have e:=h.hs
 have b:=jp (n:=S.a0) (show(32:Int)<=256 by decide)
 have c:=jp (n:=S.F) (show(1:Int)<=16 by decide)
 have f:=jp (n:=S.fuel) (show(0:Int)<=400 by decide)
 have a:held S.a0 32 256=S.a0:=congrArg cv.a0 e
 have d:held S.F 1 16=S.F:=congrArg cv.F e
 have g:held S.fuel 0 400=S.fuel:=congrArg cv.fuel e
 rw[a,h.nw]at b
 rw[d,h.nl]at c
 grind
def ll.cD (h:ll S n nl nw){c:Int}(d:0<=c/\c<nw):ie c S.F S.wide=((ke S c:Nat):Int)/\ke S c<nl:=by
 have l:=jp (n:=S.F) (show(1:Int)<=16 by decide)
 have k:=jp (n:=S.wide) (show(1:Int)<=16 by decide)
 have g:held S.F 1 16=S.F:=congrArg cv.F h.hs
 have i:=h.lo
 have e:ie c S.F S.wide=(c.tdiv (held S.wide 1 16)).tmod (held S.F 1 16):=by
  unfold ie
  rw[zn,jL]
  ·have:=Int.tdiv_nonneg (a:=c) (b:=held S.wide 1 16) d.1 zo;omega
  ·have f:c.tdiv (held S.wide 1 16)<=c:=by
    rw[Int.tdiv_eq_ediv_of_nonneg d.1];exact Int.ediv_le_self _ d.1
   omega
 have f:0<=ie c S.F S.wide:=by
  rw[e]
  exact zbu _ (Int.tdiv_nonneg d.1 zo)
 have j:ie c S.F S.wide<nl:=by
  rw[e]
  have:=zbt (c.tdiv (held S.wide 1 16)) (show 0<held S.F 1 16 by omega)
  rw[g]at this ⊢
  rw[h.nl]at this ⊢
  exact this
 grind
def jJ.le (h:jJ S h0 n G nl nw i x):2<=x.B->x.aG<=G.T:=λg=>by
 have:=(h.a2 g).2.2.1
 unfold az.aG;split<;>omega
def jJ.tr (h:jJ S h0 n G nl nw i x)(b:Gr (ke S) h0 n me G G')(m:me<n)(l:i≠me):jJ S h0 n G' nl nw i x:=by
 refine⟨h.me,h.s,h.st,h.cj,h.bZ,h.cw,h.rd,h.a4,h.run,h.bR,h.aq,λg=>⟨(h.a2 g).1,(h.a2 g).2.1,zaY (h.a2 g).2.2.1 b.T,(h.a2 g).2.2.2⟩,h.d8,h.ck,λg=>⟨λp o=>b.bQ m l (h.le g) ((h.all g).bQ p o),(h.all g).b7⟩,λg=>?_,λg=>?_,h.com,λc q=>?_,h.out⟩
 ·obtain⟨d,f,k,a⟩:=h.cx g
  exact⟨d,f,k,a.O,a.pl,a.cD,a.I,a.st,λg=>⟨(a.ac g).1,(a.ac g).2.1,(a.ac g).2.2.1,(a.ac g).2.2.2.1,zaY (a.ac g).2.2.2.2 (b.c8 m)⟩,λg=>b.cz m (a.cz g)⟩
 ·obtain⟨d,e,k,a⟩:=h.ext g
  exact⟨d,e,k,a.O,a.ab,a.ok,λg=>⟨(a.aG g).1,zaY (a.aG g).2.1 b.T,λj z hj r=>b.bQ m l (a.aG g).2.1 ((a.aG g).2.2 j z hj r)⟩,a.K⟩
 ·obtain⟨d,k⟩:=h.cy c q
  exact⟨d.tr b m l,k⟩
end
structure BI (S:cv)(h0:Hp)(n:Nat)(G:Gs)(nl nw i:Nat)(x:az):Prop where
 me:x.me=i
 s:x.s=S
 cj:Xk x.v
 bZ:R8 x.v
 cw:x.v.size=nw
 rd:x.rd.length<=16/\∀z∈x.rd,0<=z.N/\z.N<nl
 a4:x.aD.length<=100000/\x.aQ<=x.aD.length
 aq:x.aq=true
 a2:0<=x.a2/\x.a2<=x.I/\x.I<=G.T
 all:yA (ke S) h0 n G i x.I (rdP x.rd) x.v.k
 O:x.O=0
def QH (x:az):Prop:=(∀r,x.run=some r->zW r x.v)/\(x.run=none->x.v.l.aH.length<=1000)
section
variable {S:cv}{h0:Hp}{n me i nl nw:Nat}{G G':Gs}{m:eO}{L:jZ}{X:Nat->Hx}{x:az}{ρ:qI}
def GW {a:zT}(h:a.bh=false):a.wr=false/\Im a=Dy:=by
 cases a<;>first|exact⟨rfl,rfl⟩|cases h
structure aiI (x:az)(q:az×Int×Int):Prop where
 eq:{ q.1 with run:=x.run,aQ:=x.aQ,v:=x.v }=x
 k:q.1.v.k=x.v.k
 size:q.1.v.size=x.v.size
 ok:Xk q.1.v
 O:q.2.1=1\/q.2.1=2\/q.2.1=3\/q.2.1=4
 a9:q.2.1=1->Nd q.1.v/\∀r,q.1.run=some r->zW r q.1.v
 aH:q.2.1=2->q.1.v.l.aH.length<=1000/\q.1.af.length<=16
 fT:q.1.run=none->q.1.v.l.aH.length<=1000
 aQ:q.1.aQ<=x.aD.length
 fh:q.1.run.isSome=x.run.isSome
def ahP (p:da ρ)(h:BI S h0 n G nl nw i x)(j:QH x)(d:x.Z.bh=false):aiI x (iu ρ x)/\O1 x:=by
 cases c:x.run with
 |none =>
  have e:iu ρ x=({ x with aQ:=(j7 (x.aD.drop x.aQ) x.aQ x.v).1,v:=(j7 (x.aD.drop x.aQ) x.aQ x.v).2.1 },(j7 (x.aD.drop x.aQ) x.aQ x.v).2.2.1,(j7 (x.aD.drop x.aQ) x.aQ x.v).2.2.2):=by grind[iu]
  have a:=Te (l:=x.aD.drop x.aQ) (g:=x.aQ) (s:=x.v)
  have f:aiI x (iu ρ x):=by
   rw[e]
   refine⟨rfl,a.k,a.size,a.ok h.cj,by rcases a.O with g|g|g<;>simp[g],λg=>⟨a.a9 g,λr m=>?_⟩,λ_=>⟨?_,?_⟩,λ_=>?_,?_,by rw[c]⟩
   ·grind
   ·have:=a.fr;have:=j.2 c;simp only;omega
   ·grind
   ·have:=a.fr;have:=j.2 c;simp only;omega
   ·have:=a.aG;have:=h.a4.2;simp only[zbG]at this ⊢;simp only[zbG]at *;omega
  refine⟨f,λr g=>(by rw[c]at g;cases g),⟨by have:=h.a4;omega,h.a4.2⟩,d,by have:=h.rd.1;omega,h.cj⟩
 |some r =>
  have b:=p.q r x.v (j.1 r c)
  have e:iu ρ x=({ x with run:=some (ρ r x.v).1,v:=(ρ r x.v).2.1 },(ρ r x.v).2.2,(ρ r x.v).1.aV):=by grind[iu]
  have f:aiI x (iu ρ x):=by
   rw[e]
   refine⟨rfl,b.k,b.size,b.ok h.cj,b.O,λg=>⟨(b.a9 g).1,λr m=>?_⟩,λ_=>⟨b.aH,b.a6⟩,λg=>(by cases g),h.a4.2,by rw[c];rfl⟩
   cases m;exact(b.a9 g).2
  exact⟨f,λo g=>j.1 o g,⟨by have:=h.a4;omega,h.a4.2⟩,d,by have:=h.rd.1;omega,h.cj⟩
theorem Yt {cs:List ay}{y:ay}{a w:Int}(c:y∈cs){k:Nat}(h:ie y.J a w=k)(b:k<16):(k:Int)∈j4 (gh cs a w) 16:=by
 rw[I3]
 refine⟨k,b,?_,rfl⟩
 simp only[gh,jT,zcy,zaD,zau,decide_eq_true_eq]
 grind
def adb (B:ll S n nl nw)(M:x.me=i)(V:x.s=S)(A:Xk x.v)(X:x.v.size=nw)(u:x.rd.length<=16/\∀z∈x.rd,0<=z.N/\z.N<nl)(C:0<=x.I/\x.I<=G.T)(D:yA (ke S) h0 n G i x.I (rdP x.rd) x.v.k)(W:x.v.l.cells≠[]):nV (ke S) h0 n G nl nw i x.v.k (ov x.me x.s.aR x.I x.rd x.v.l.cells (j4 (gh x.v.l.cells x.s.F x.s.wide) 16))/\jX (ov x.me x.s.aR x.I x.rd x.v.l.cells (j4 (gh x.v.l.cells x.s.F x.s.wide) 16))=Dy:=by
 obtain⟨w,U,Q⟩:=A.cells
 have H:=B.lo
 have b:=abt (me:=x.me) (sp:=x.s.aR) (stamp:=x.I) (n:=x.s.F) (wide:=x.s.wide) (seen:=x.rd) (cells:=x.v.l.cells) (by have:=u.1;omega) zo
 have f:∀y∈x.v.l.cells,1<=y.J/\y.J<nw:=λy h=>by
  have R:=w.bx y h
  grind[Gl]
 have r:∀s∈j4 (gh x.v.l.cells x.s.F x.s.wide) 16,0<=s/\s<nl:=λs p=>by
  obtain⟨j,_,g,rfl⟩:=I3.1 p
  simp only[gh,jT,zcy,zaD,zau,decide_eq_true_eq]at g
  obtain⟨⟨y,h,e⟩,_⟩:=g
  have:=f y h
  rw[V]at e
  obtain⟨L,K⟩:=B.cD (c:=y.J) ⟨zo,this.2⟩
  omega
 have o:∀y∈x.v.l.cells,((ke S y.J:Nat):Int)∈j4 (gh x.v.l.cells x.s.F x.s.wide) 16:=λy h=>by
  have:=f y h
  obtain⟨L,K⟩:=B.cD (c:=y.J) ⟨zo,this.2⟩
  grind[Yt]
 revert b
 unfold ov kA
 intro b
 have d:(rj x.me x.s.aR).O=0:=rfl
 generalize rj x.me x.s.aR=P at b d ⊢
 have t:∀{a:Nat},(if(0:Nat)=a then(2:Int)else 0)=0\/(if(0:Nat)=a then(2:Int)else 0)=2:=by grind
 have m:=t (a:=(j4 (gh x.v.l.cells x.s.F x.s.wide) 16).length)
 simp only[List.length_nil]at b ⊢
 generalize(if(0:Nat)=(j4 (gh x.v.l.cells x.s.F x.s.wide) 16).length then(2:Int)else 0)=q at b m ⊢
 refine⟨⟨b,M,r,u.2,zs,o,w.ci,f,W,.inl d,?_,λ_ g=>?_,λ_ g=>?_,λ_ g=>?_,C,λg=>?_,λ_ z E=>D.bQ _ (zau.2 ⟨z,E,rfl⟩),λ_ g=>?_,λg=>(by cases g)⟩,?_⟩
 ·grind
 ·grind
 ·grind
 ·grind
 ·grind
 ·grind
 ·unfold jX Ik
  simp only[d]
  rcases m with g|g<;>simp[g]
structure GoR (S:cv)(h0:Hp)(n:Nat)(G:Gs)(nl nw i:Nat)(x x':az):Prop where
 bY:jJ S h0 n G nl nw i x'
 hx:Im x'.Z=Dy
 wr:x'.Z.wr=false
 a2:x'.a2=x.a2
 st:3<=x'.B/\x'.B<=7
 fh:x'.run.isSome=x.run.isSome
def BI.cx (h:BI S h0 n G nl nw i x)(hn:Nd x.v)(hR:QH x){f:fe}(hf:ahX S n G x f):jJ S h0 n G nl nw i { x with Z:=.fetch f,B:=3 } :=
 ⟨h.me,h.s,⟨zs,zs⟩,h.cj,h.bZ,h.cw,h.rd,h.a4,λ_=>hR,λg=>(by simp[zT.bh,h.O]at g),h.aq,λ_=>⟨h.a2.1,h.a2.2.1,h.a2.2.2,λg=>(by cases g)⟩,λ_=>h.O,λg=>(by simp at g),λ_=>h.all,λ_=>⟨hn,f,rfl,hf.O,hf.pl,hf.cD,hf.I,hf.st,hf.ac,hf.cz⟩,λg=>(by simp at g),λg=>(by simp at g),λc hc=>(by cases hc),λg=>(by simp at g)⟩
def BI.ask (h:BI S h0 n G nl nw i x)(hn:Nd x.v)(hR:QH x):jJ S h0 n G nl nw i (rB x x.v.a9) :=
 h.cx hn hR ⟨rfl,rfl,(by show ie _ x.s.F x.s.wide=_;rw[h.s];rfl),rfl,.inl rfl,λg=>absurd rfl g,λg=>(by cases g)⟩
def BI.ext (h:BI S h0 n G nl nw i x){st:Int}(hs:(st=4/\Nd x.v/\QH x)\/st=5){e:mj}(he:aiA S h0 n G i x e):jJ S h0 n G nl nw i { x with Z:=.ext e,B:=st } :=
 ⟨h.me,h.s,⟨by simp only;omega,by simp only;omega⟩,h.cj,h.bZ,h.cw,h.rd,h.a4,λg=>(by rcases hs with g2|g2;exact g2.2.2;simp only at g;omega),λg=>(by simp[zT.bh,h.O]at g),(by show x.aq=_;rw[h.aq];simp;omega),λ_=>⟨h.a2.1,h.a2.2.1,h.a2.2.2,λg=>(by cases g)⟩,λ_=>h.O,λg=>(by simp only at g;omega),λ_=>h.all,λg=>(by simp only at g;omega),λ_=>⟨λg=>(by rcases hs with g2|g2;exact g2.2.1;simp only at g;omega),e,rfl,he.O,he.ab,he.ok,he.aG,he.K⟩,λg=>(by simp only at g;omega),λc hc=>(by cases hc),λg=>(by simp only at g;omega)⟩
def BI.later (h:BI S h0 n G nl nw i x){st:Int}(hs:(st=4/\Nd x.v/\QH x)\/st=5):jJ S h0 n G nl nw i (uI x st) :=
 h.ext hs ⟨rfl,rfl,λ_ g=>(by cases g),λg=>(by cases g),λ_=>rfl⟩
def BI.out (h:BI S h0 n G nl nw i x)(d:x.Z.bh=false){E er b:Int}(hE:E=2\/E=3\/E=4\/E=5)(k:E=2->x.v.l.cells=[]/\x.v.l.aH.length<=1000/\x.af.length<=16):jJ S h0 n G nl nw i (ip x E er b):=by
 obtain⟨f,j⟩:=GW d
 have a:(ip x E er b).Z=x.Z:=rfl
 refine⟨h.me,h.s,⟨zs,zs⟩,h.cj,h.bZ,h.cw,h.rd,h.a4,λg=>(by simp at g),λg=>?_,h.aq,λ_=>⟨h.a2.1,h.a2.2.1,h.a2.2.2,λg=>(by rw[a,f]at g;cases g)⟩,λg=>(by simp at g),λg=>(by simp at g),λ_=>?_,λg=>(by simp at g),λg=>(by simp at g),λg=>(by simp at g),λc g=>(by rw[a]at g;rw[g]at d;cases d),λ_=>⟨hE,λg=>(by rw[a,f]at g;cases g),λg _=>(k g).1,λc g=>(by rw[a]at g;rw[g]at d;cases d)⟩⟩
 ·grind
 ·have e:az.aG (ip x E er b)=x.I:=by grind[az.aG]
  rw[e];exact h.all
def jJ.ff (h:jJ S h0 n G nl nw i x)(c:2<=x.B)(d:x.B<=6)(f:x.Z.wr=false):BI S h0 n G nl nw i x:=by
 have a:=h.a2 c
 have b:=h.all c
 have e:x.aG=x.I:=by grind[az.aG]
 rw[e]at b
 exact⟨h.me,h.s,h.cj,h.bZ,h.cw,h.rd,h.a4,by rw[h.aq];simp[c],⟨a.1,a.2.1,a.2.2.1⟩,b,h.d8 d⟩
def S9 (hρ:da ρ)(hS:ll S n nl nw)(h:BI S h0 n G nl nw i x)(hR:QH x)(Q:x.Z.bh=false):O1 x/\GoR S h0 n G nl nw i x (iq ρ x):=by
 obtain⟨V,hw⟩:=ahP hρ h hR Q
 refine⟨hw,?_⟩
 unfold iq
 generalize iu ρ x=q at V
 obtain⟨y,e,er⟩:=q
 obtain⟨d1,L,w,K,d5,d6,N,d8,d9,f⟩:=V
 simp only at d1 L w K d5 d6 N d8 d9 f
 have u:y.me=x.me:=by grind
 have M:y.s=x.s:=by grind
 have D:y.aD=x.aD:=by grind
 have p:y.rd=x.rd:=by grind
 have ac:y.B=x.B:=by grind
 have af:y.Z=x.Z:=by grind
 have t:y.aq=x.aq:=by grind
 have a:y.a2=x.a2:=by grind
 have o:y.I=x.I:=by grind
 have r:y.O=x.O:=by grind
 have j:y.Z.bh=false:=by grind
 have b:BI S h0 n G nl nw i y:=⟨u.trans h.me,M.trans h.s,K,⟨by rw[w];exact h.bZ.lo,by rw[w];exact h.bZ.hi,by rw[L,w];exact h.bZ.bx,by rw[L];exact h.bZ.ci⟩,w.trans h.cw,by rw[p];exact h.rd,by rw[D];exact⟨h.a4.1,d9⟩,t.trans h.aq,by rw[a,o];exact h.a2,by rw[o,p,L];exact h.all,r.trans h.O⟩
 unfold j0
 simp only
 split
 ·rename_i g
  obtain⟨n1,n2⟩:=d6 g
  exact⟨b.ask n1 ⟨n2,d8⟩,rfl,rfl,a,⟨zs,zs⟩,f⟩
 ·split
  ·exact⟨BI.later (x:={ y with aO:=true }) ⟨b.me,b.s,b.cj,b.bZ,b.cw,b.rd,b.a4,b.aq,b.a2,b.all,b.O⟩ (.inr rfl),rfl,rfl,a,⟨zs,zs⟩,f⟩
  ·obtain⟨T,w2⟩:=GW j
   split
   ·exact⟨b.out j zs (λg=>(by cases g)),w2,T,a,⟨zs,zs⟩,f⟩
   ·have U:e=2:=by omega
    split
    ·rename_i g
     exact⟨b.out j zs (λ_=>⟨g,N U⟩),w2,T,a,⟨zs,zs⟩,f⟩
    ·rename_i g
     obtain⟨A,X,_,J,m,E,P,k,d,C,H⟩:=b
     obtain⟨k1,k2⟩:=adb (x:=y) hS A X K m E ⟨zo,d.2.2⟩ C g
     have W:(ov y.me y.s.aR y.I y.rd y.v.l.cells (j4 (gh y.v.l.cells y.s.F y.s.wide) 16)).Y.O=0/\(ov y.me y.s.aR y.I y.rd y.v.l.cells (j4 (gh y.v.l.cells y.s.F y.s.wide) 16)).ab=y.rd/\(ov y.me y.s.aR y.I y.rd y.v.l.cells (j4 (gh y.v.l.cells y.s.F y.s.wide) 16)).cells=y.v.l.cells/\(ov y.me y.s.aR y.I y.rd y.v.l.cells (j4 (gh y.v.l.cells y.s.F y.s.wide) 16)).ao=false/\(ov y.me y.s.aR y.I y.rd y.v.l.cells (j4 (gh y.v.l.cells y.s.F y.s.wide) 16)).I=y.I:=⟨rfl,rfl,rfl,rfl,rfl⟩
     generalize ov y.me y.s.aR y.I y.rd y.v.l.cells (j4 (gh y.v.l.cells y.s.F y.s.wide) 16)=c at k1 k2 W
     obtain⟨R,p2,p3,p4,p5⟩:=W
     have z:(zT.com c).wr=false:=by simp[p4,R]
     refine⟨⟨A,X,⟨zs,zs⟩,K,J,m,E,P,λg=>by simp at g,λ_=>N U,by show y.aq=_;rw[k];rfl,λ_=>⟨d.1,d.2.1,d.2.2,λg=>(by simp only[z]at g;cases g)⟩,λ_=>H,λg=>by simp at g,λ_=>?_,λg=>by simp at g,λg=>by simp at g,λ_=>⟨c,rfl,R⟩,λc' al=>?_,λg=>by simp at g⟩,k2,z,a,⟨zs,zs⟩,f⟩
     ·grind[az.aG]
     all_goals grind
end
def af_ (L L':jZ)(x x':az):Prop:=(L'=L/\x'.Z.wr=x.Z.wr/\(x.Z.wr=true->x'.I=x.I/\x'.v=x.v))\/(L'=Dc x'.I x'.v.l.cells L/\x.Z.wr=false/\x'.Z.wr=true/\(∀y∈L,y.1≠x'.I)/\x.aq=true)
structure qA (S:cv)(h0:Hp)(n:Nat)(m:eO)(L:jZ)(X:Nat->Hx)(i:Nat)(x x':az)(m':eO)(L':jZ):Prop where
 to:Gr (ke S) h0 n i (fi m L X) (fi m' L' (eu X i (Im x'.Z)))
 bY:jJ S h0 n (fi m' L' (eu X i (Im x'.Z))) m.l.length m.w.length i x'
 bj:af_ L L' x x'
 a2:(x.aq=true->x'.aq=true/\x'.a2=x.a2)/\(x.aq=false->x'.aq=true->x'.a2=m.n/\x'.B=2)
 fh:x'.run.isSome=x.run.isSome
section
variable {S:cv}{h0:Hp}{n me i nl nw:Nat}{G G':Gs}{m m':eO}{L:jZ}{X:Nat->Hx}{x x':az}{ρ:qI}
def agP {a:Hx}(b:X i=a)(c:fi m' L X=fi m L X):fi m' L (eu X i a)=fi m L X:=by
 rw[<-c]
 exact Gs.cI (λ_=>rfl) (λ_=>rfl) rfl rfl λk=>SI b k
def qA.cW (a:X i=Im x.Z)(b:fi m' L X=fi m L X)(f:Im x'.Z=Im x.Z)(d:x'.Z.wr=x.Z.wr/\(x.Z.wr=true->x'.I=x.I/\x'.v=x.v))(hb:(x.aq=true->x'.aq=true/\x'.a2=x.a2)/\(x.aq=false->x'.aq=true->x'.a2=m.n/\x'.B=2))(h:jJ S h0 n (fi m L X) m.l.length m.w.length i x')(c:x'.run.isSome=x.run.isSome):qA S h0 n m L X i x x' m' L:=by
 have e:fi m' L (eu X i (Im x'.Z))=fi m L X:=agP (by rw[a,f]) b
 exact⟨by rw[e];exact .refl,by rw[e];exact h,.inl ⟨rfl,d⟩,hb,c⟩
def N1 {y:az}(h:y.Z.wr=false):gZ y=y:=by grind
def Bm {a w:Int}{u v:ey}{o:Int}(h:0<=a/\a<m.s.length):∃c,ag m ⟨9,a,o,w,u,v⟩=({ m with s:=m.s.set a.toNat w,aT:=c },l9):=by
 have:nk a m.s.length=true:=by grind[nk]
 exact⟨_,by unfold ag bv;simp[this,l9];rfl⟩
def afU {a w o:Int}{u v:ey}(h:1<=a/\a<m.w.length):∃c,ag m ⟨1,a,o,w,u,v⟩=({ m with aT:=c },⟨m.w.getD a.toNat 0,aa,false,0⟩) :=
 ⟨_,by unfold ag bv lg;simp[h];rfl⟩
def SU {p:qM}{o:Int}(h:p.O=0):(p.waits o).1.O=0:=by grind[qM.waits]
def MD {l:List jz}{k v:Int}(h:nY l k=some v):(⟨k,v⟩:jz)∈l:=by
 unfold nY at h
 rw[za0]at h
 obtain⟨z,c,e⟩:=h
 have d:=List.find?_some c
 have f:=List.mem_of_find?_eq_some c
 simp only[decide_eq_true_eq]at d
 obtain⟨a,b⟩:=z
 grind
def ady {l:List jz}{z:jz}(h:rK 16 l z=0)(b:l.length<=16):(∀y,y∈oF 16 l z↔y∈l\/y=z)/\(oF 16 l z).length<=16:=by
 unfold rK at h
 unfold oF
 split at h
 ·cases h
 ·rename_i g
  rw[zn g]
  cases a:nY l z.N with
  |some v =>
   rw[a]at h
   simp only at h
   split at h
   ·rename_i e
    have:=MD a
    refine⟨λy=>⟨λg=>.inl g,λg=>?_⟩,b⟩
    rcases g with g|rfl
    ·exact g
    ·rw[e]at this;exact this
   ·cases h
  |none =>
   rw[a]at h
   simp only at h ⊢
   split at h
   ·cases h
   ·rename_i g
    rw[zn g]
    refine⟨λy=>by simp,?_⟩
    have g:¬(l.length:Int)=16:=g
    simp only[LE,gg];omega
def T4 {s:iX}{c y:Int}(h:Wk s c=true/\jy s.k c=none)(f:R8 s):(uu s c y).1=⟨s.size,s.k++[⟨c,y⟩],s.l,s.a9⟩/\R8 (uu s c y).1:=by
 have e:(uu s c y).1=⟨s.size,s.k++[⟨c,y⟩],s.l,s.a9⟩:=by grind[uu]
 rw[e]
 have m:=H6 h.1
 refine⟨rfl,f.lo,f.hi,λz d=>?_,?_⟩
 ·rcases zar.1 d with d|d
  ·exact f.bx z d
  all_goals grind
 ·have j:∀(l:List ay),jy l c=none->c∉l.map (·.J):=by
   intro l
   induction l with
   |nil=>intro _;simp
   |cons z l ih =>
    intro g
    grind[jy]
  rw[zal]
  refine zbl.2 ⟨f.ci,zs,λa n b i=>?_⟩
  simp at i
  grind
def Yp (hρ:da ρ)(L:ll S n nl nw)(hi:jB (ke S) h0 n G)(h:BI S h0 n G nl nw i x)(K:QH x)(P:Nd x.v){f:fe}(hx:x.Z=.fetch f)(M:f.Y.O=6\/(f.Y.O=2/\G.lk (ke S f.J)=f.ac/\f.ac.held=false/\f.ac.ar=0/\f.ac.D<=x.I/\zC (ke S) n G f.J f.ac.D f.word))(hp:f.J=x.v.a9)(C:f.N=ie f.J S.F S.wide) :
  WZ x f/\GoR S h0 n G nl nw i x (cq ρ x f):=by
 have d:x.Z.bh=false:=by rw[hx]
 have am:=h.rd
 have hk:=h.bZ.a6
 have j:=H6 P.1
 rw[h.cw]at j
 obtain⟨R,al⟩:=L.cD (c:=f.J) ⟨zo,zo⟩
 rcases M with B|⟨f2,U,w,u,l4,t⟩
 ·refine⟨⟨.inl B,zo,zo,λg=>by omega⟩,?_⟩
  unfold cq
  rw[zp B]
  exact⟨h.later (.inl ⟨rfl,P,K⟩),rfl,rfl,rfl,⟨zs,zs⟩,rfl⟩
 ·have A:G.lk (ke S f.J)=⟨f.ac.D,false,0⟩:=by
   rw[U];generalize f.ac=l at w u;obtain⟨a,b,c⟩:=l;simp only at w u;rw[w,u]
  have q:rK 16 x.rd ⟨f.N,f.ac.D⟩=0->BI S h0 n G nl nw i (ju x f)/\QH (ju x f):=λg=>by
   obtain⟨a1,a2⟩:=ady g h.rd.1
   obtain⟨W,k2⟩:=T4 (y:=f.word) P h.bZ
   have m:(ju x f).v=⟨x.v.size,x.v.k++[⟨x.v.a9,f.word⟩],x.v.l,x.v.a9⟩:=W
   have o:QH (ju x f):=by
    refine⟨λr V=>?_,λg=>?_⟩
    ·rw[m];exact(K.1 r V).lv rfl
    ·rw[m];exact K.2 g
   refine⟨⟨h.me,h.s,?_,k2,?_,⟨a2,λz hz=>?_⟩,h.a4,h.aq,h.a2,?_,h.O⟩,o⟩
   ·rw[m];exact⟨h.cj.ok,h.cj.b7⟩
   ·rw[m];exact h.cw
   ·grind
   ·rw[m]
    show yA (ke S) h0 n G i x.I (rdP (oF 16 x.rd ⟨f.N,f.ac.D⟩)) (x.v.k++[⟨x.v.a9,f.word⟩])
    rw[<-hp]
    refine yA.add (rd:=rdP x.rd) hi h.all t A l4 h.a2.2.2 λp=>?_
    unfold rdP
    rw[zau,zau]
    have e0:f.N.toNat=ke S f.J:=by rw[C]
    constructor
    ·grind
    ·rintro(⟨z,hz,rfl⟩|rfl)
     ·grind
     ·exact⟨_,(a1 _).2 (.inr rfl),by rw[<-e0]⟩
  refine⟨⟨.inr f2,zo,zo,λ_ g=>(S9 hρ L (q g).1 (q g).2 d).1⟩,?_⟩
  have af:BI S h0 n G nl nw i (lz x f)->(∀E H,E=4\/E=5->GoR S h0 n G nl nw i x (ip (lz x f) E H (-1))):=λb E H hE=>by
   obtain⟨T,w2⟩:=GW (a:=(lz x f).Z) d
   exact⟨b.out d zo (λg=>by omega),w2,T,rfl,⟨zs,zs⟩,rfl⟩
  have X:rK 16 x.rd ⟨f.N,f.ac.D⟩≠0->BI S h0 n G nl nw i (lz x f):=λg=>by
   have e:oF 16 x.rd ⟨f.N,f.ac.D⟩=x.rd:=by
    unfold rK at g
    unfold oF
    split
    ·rfl
    ·rename_i g2
     rw[zn g2]at g
     cases C:nY x.rd f.N with
     |some v=>rfl
     |none =>
      rw[C]at g
      grind
   have e2:lz x f=x:=by unfold lz;rw[e]
   grind
  unfold cq
  rw[zn]
  split
  ·rename_i g
   obtain⟨r1,r2,r3,Q,r5,r6⟩:=(S9 hρ L (q g).1 (q g).2 d).2
   exact⟨r1,r2,r3,Q,r5,r6⟩
  all_goals grind
def GoR.eb {y:az}(c:X i=Dy)(d:fi m' L X=fi m L X)(h:GoR S h0 n (fi m L X) m.l.length m.w.length i y x')(b:Im x.Z=Dy)(a:x.Z.wr=false)(hb:x.aq=true)(e:y.a2=x.a2)(f:y.run.isSome=x.run.isSome):qA S h0 n m L X i x (gZ x') m' L:=by
 rw[N1 h.wr]
 exact .cW (by rw[c,b]) d (by rw[h.hx,b]) ⟨by rw[h.wr,a],λg=>by rw[a]at g;cases g⟩ ⟨λ_=>⟨by rw[h.bY.aq];have:=h.st.1;simp;omega,by rw[h.a2,e]⟩,λg=>by rw[hb]at g;cases g⟩ h.bY (h.fh.trans f)
def adZ (hρ:da ρ)(hS:ll S n m.l.length m.w.length)(hi:jB (ke S) h0 n (fi m L X))(hX:X i=Im x.Z)(h:jJ S h0 n (fi m L X) m.l.length m.w.length i x)(hs:x.B=3) :
  tA x (ag m (ak x).1).2/\qA S h0 n m L X i x (ah ρ x (ag m (ak x).1).2) (ag m (ak x).1).1 L:=by
 obtain⟨hn,f,hf,j⟩:=h.cx hs
 have al:x.Z.bh=false:=by rw[hf]
 obtain⟨R,w2⟩:=GW al
 have W:X i=Dy:=by rw[hX,w2]
 have p:=h.ff zo zo R
 have hR:QH x:=h.run zo
 have r:=H6 hn.1
 rw[h.cw,<-j.pl]at r
 obtain⟨am,aB⟩:=hS.cD (c:=f.J) ⟨zo,zo⟩
 have E:f.N=((ke S f.J:Nat):Int):=by rw[j.cD,am]
 have U:ak x=dt f:=by unfold ak;rw[zn,zn,zn,zn,zn,hf]
 have et:∀a,ah ρ x a=bu ρ { x with Z:=.fetch (bp f a) }:=λa=>by unfold ah;rw[zn,zn,zn,zn,zn,hf]
 have t:∀(a:ii) (d:fe) (m':eO),fi m' L X=fi m L X->bp f a=d->a.aV=0 ->
   (ahX S n (fi m L X) x d\/(d.Y.O=5)\/((d.Y.O=6\/(d.Y.O=2/\(fi m L X).lk (ke S d.J)=d.ac/\d.ac.held=false/\d.ac.ar=0/\d.ac.D<=x.I/\zC (ke S) n (fi m L X) d.J d.ac.D d.word))/\d.J=f.J/\d.N=f.N)) ->
   tA x a/\qA S h0 n m L X i x (ah ρ x a) m' L:=by
  intro a d m' hm H ha A
  have Q:BI S h0 n (fi m L X) m.l.length m.w.length i { x with Z:=.fetch d }:=⟨p.me,p.s,p.cj,p.bZ,p.cw,p.rd,p.a4,p.aq,p.a2,p.all,p.O⟩
  rw[et,H]
  have F:∀(P:d.Y.O=0\/d.Y.O=5\/WZ { x with Z:=.fetch d } d),tA x a:=λP =>
   ⟨ha,λg=>by omega,λ_ _ _ _ _=>by
    rw[hf]
    refine⟨trivial,⟨trivial,λq K=>?_,λq K=>(by cases K),λq K=>(by cases K)⟩⟩
    simp only[zT.fetch.injEq]at K
    subst K
    have e:zT.br a (.fetch f)=.fetch (bp f a):=rfl
    rw[H,e,H]
    exact⟨hs,P⟩⟩
  rcases A with A|A|⟨A,hp,T⟩
  ·refine⟨F (.inl A.O),?_⟩
   have e:bu ρ { x with Z:=.fetch d }={ x with Z:=.fetch d }:=by
    unfold bu
    rw[zp (by exact A.O),N1 rfl]
   rw[e]
   have:=p.cx hn hR A
   rw[show({ x with Z:=.fetch d,B:=3 }:az)={ x with Z:=.fetch d } by rw[<-hs]]at this
   exact .cW hX hm (by rw[w2];rfl) ⟨by rw[R],λg=>by rw[R]at g;cases g⟩ ⟨λg=>⟨g,rfl⟩,λg M=>(by rw[show({ x with Z:=.fetch d }:az).aq=x.aq from rfl,g]at M;cases M)⟩ this rfl
  ·refine⟨F (.inr (.inl A)),?_⟩
   have e:bu ρ { x with Z:=.fetch d }=gZ (ip { x with Z:=.fetch d } 5 0 d.Y.aY):=by
    unfold bu
    rw[zn (by show ¬d.Y.O=0;omega),zp (by exact A)]
   rw[e]
   exact GoR.eb (y:=x) W hm ⟨Q.out rfl zs (λg=>by omega),rfl,rfl,rfl,⟨zs,zs⟩,rfl⟩ w2 R p.aq rfl rfl
  ·obtain⟨r1,r2⟩:=Yp (x:={ x with Z:=.fetch d }) hρ hS hi Q hR hn rfl A (hp.trans j.pl) (by rw[T,hp];exact j.cD)
   refine⟨F (.inr (.inr r1)),?_⟩
   have e:bu ρ { x with Z:=.fetch d }=gZ (cq ρ { x with Z:=.fetch d } d):=by
    unfold bu
    rw[zn (by show ¬d.Y.O=0;omega),zn (by show ¬d.Y.O=5;omega)]
   rw[e]
   exact GoR.eb W hm r2 w2 R p.aq rfl rfl
 rw[U]
 have z:=j.O
 by_cases h1:f.B=1
 ·have U:(dt f).1=⟨1,f.J,0,0,aa,aa⟩:=by grind[dt]
  rw[U]
  obtain⟨c,e⟩:=afU (m:=m) (a:=f.J) (w:=0) (o:=0) (u:=aa) (v:=aa) r
  rw[e]
  obtain⟨k1,k2,k3,k4,k5⟩:=j.ac zo
  refine t _ { f with word:=m.w.getD f.J.toNat 0,B:=2 } _ rfl (by unfold bp;rw[gk,zp z,zp h1]) rfl (.inl ⟨j.O,j.pl,j.cD,j.I,.inr (.inr rfl),λ_=>⟨k1,k2,k3,k4,k5⟩,λ_=>?_⟩)
  exact zC.fF (G:=fi m L X) k5
 ·have U:(dt f).1=⟨3,f.N,0,0,aa,aa⟩:=by grind[dt]
  rw[U]
  obtain⟨c,e⟩:=zi (m:=m) (a:=0) (b:=0) (u:=aa) (w:=aa) (s:=f.N) (by rw[E];omega)
  rw[e]
  have V:(fi m L X).lk (ke S f.J)=m.l.getD f.N.toNat aa:=by rw[E];rfl
  generalize aA:m.l.getD f.N.toNat aa=l at V
  have af:=hi.v (ke S f.J)
  rw[V]at af
  have C:f.B=0\/f.B=2->¬(f.B=2/\l=f.ac)->bp f ⟨0,l,false,0⟩=mO f l:=λ_ g=>by
   unfold bp;rw[gk,zp z,zn h1,zn g]
  by_cases h2:f.B=2/\l=f.ac
  ·obtain⟨g1,M⟩:=h2
   obtain⟨k1,k2,k3,k4,k5⟩:=j.ac zo
   exact t _ { f with Y:=f.Y.bn 2 0 (-1) } _ rfl (by unfold bp;rw[gk,zp z,zn h1,zp ⟨g1,M⟩]) rfl (.inr (.inr ⟨.inr ⟨rfl,by rw[V];exact M,k1,k2,by have:=j.I;simp only;omega,j.cz g1⟩,rfl,rfl⟩))
  ·have T:=j.st
   have k:=C zo h2
   unfold mO at k
   split at k
   ·split at k
    ·exact t _ _ _ rfl k rfl (.inl ⟨SU z,j.pl,j.cD,j.I,.inl rfl,λg=>absurd rfl g,λg=>(by cases g)⟩)
    ·exact t _ _ _ rfl k rfl (.inr (.inl rfl))
   ·rename_i g
    split at k
    ·exact t _ _ _ rfl k rfl (.inr (.inr ⟨.inl rfl,rfl,rfl⟩))
    ·rename_i M
     have hh:l.held=false:=by simpa using g
     exact t _ _ _ rfl k rfl (.inl ⟨z,j.pl,j.cD,j.I,.inr (.inl rfl),λ_=>⟨hh,by rw[<-V]at hh ⊢;exact hi.free _ hh,af.1,by simp only;omega,by rw[V];exact zab _⟩,λg=>(by cases g)⟩)
def aeg (hS:ll S n m.l.length m.w.length)(hi:jB (ke S) h0 n (fi m L X))(hX:X i=Im x.Z)(h:jJ S h0 n (fi m L X) m.l.length m.w.length i x)(hs:x.B=4\/x.B=5) :
  tA x (ag m (ak x).1).2/\qA S h0 n m L X i x (ah ρ x (ag m (ak x).1).2) (ag m (ak x).1).1 L:=by
 obtain⟨hn,e,he,hE⟩:=h.ext hs
 have aC:x.Z.bh=false:=by rw[he]
 obtain⟨w1,w2⟩:=GW aC
 have ac:X i=Dy:=by grind
 have o:=h.ff zo zo w1
 have am:(x.B=4/\Nd x.v/\QH x)\/x.B=5:=by
  rcases hs with g|g
  ·exact .inl ⟨g,hn g,h.run zo⟩
  all_goals grind
 have aF:x.rd.length<=16:=h.rd.1
 have en:ak x=gO e:=by unfold ak;rw[zn,zn,zn,zn,zn,he]
 have et:∀a,ah ρ x a=bu ρ { x with Z:=.ext (fa e a) }:=λa=>by unfold ah;rw[zn,zn,zn,zn,zn,he]
 have C:∀(a:ii) (d:mj) (J:eO),fi J L X=fi m L X->fa e a=d->a.aV=0 ->
   Sg d->d.ab=x.rd->(aiA S h0 n (fi m L X) i x d\/d.Y.O=5\/(d.Y.O=2/\x.I<=d.I/\d.I<=(fi m L X).T/\∀z∈x.rd,kX (ke S) h0 n (fi m L X) i d.I x.v.k z.N.toNat z.D)) ->
   tA x a/\qA S h0 n m L X i x (ah ρ x a) J L:=by
  intro a d J hm W ha aE f H
  have aD:BI S h0 n (fi m L X) m.l.length m.w.length i { x with Z:=.ext d }:=⟨o.me,o.s,o.cj,o.bZ,o.cw,o.rd,o.a4,o.aq,o.a2,o.all,o.O⟩
  rw[et,W]
  have R:(d.Y.O=0\/d.Y.O=5\/d.Y.O=2)->tA x a:=λP =>
   ⟨ha,λg=>by omega,λ_ _ _ _ _=>by
    rw[he]
    have r:zT.br a (.ext e)=.ext (fa e a):=rfl
    have e2:e.ab.length<=1000000:=by rw[hE.ab];omega
    have e3:d.ab.length<=1000000:=by rw[f];omega
    refine⟨⟨hE.ok,e2⟩,⟨by rw[r,W];exact⟨aE,e3⟩,λq hq=>(by cases hq),λq hq=>?_,λq hq=>(by cases hq)⟩⟩
    simp only[r,zT.ext.injEq]at hq
    subst hq
    rw[W]
    exact⟨hs,P⟩⟩
  rcases H with H|H|⟨H,af,aB,hg⟩
  ·refine⟨R (.inl H.O),?_⟩
   have r:bu ρ { x with Z:=.ext d }={ x with Z:=.ext d }:=by
    unfold bu
    rw[zp (by exact H.O),N1 rfl]
   rw[r]
   exact .cW hX hm (by rw[w2];rfl) ⟨by rw[w1],λg=>by rw[w1]at g;cases g⟩ ⟨λg=>⟨g,rfl⟩,λg g2=>(by rw[show({ x with Z:=.ext d }:az).aq=x.aq from rfl,g]at g2;cases g2)⟩ (o.ext am H) rfl
  ·refine⟨R (.inr (.inl H)),?_⟩
   have r:bu ρ { x with Z:=.ext d }=gZ (ip { x with Z:=.ext d } 5 0 d.Y.aY):=by
    unfold bu
    rw[zn (by show ¬d.Y.O=0;omega),zp (by exact H)]
   rw[r]
   exact GoR.eb (y:=x) ac hm ⟨aD.out rfl zs (λg=>by omega),rfl,rfl,rfl,⟨zs,zs⟩,rfl⟩ w2 w1 o.aq rfl rfl
  ·refine⟨R (.inr (.inr H)),?_⟩
   have al:BI S h0 n (fi m L X) m.l.length m.w.length i { x with Z:=.ext d,I:=d.I } :=
    ⟨o.me,o.s,o.cj,o.bZ,o.cw,o.rd,o.a4,o.aq,⟨o.a2.1,zaY o.a2.2.1 af,aB⟩,⟨λp F=>(by obtain⟨z,hz,rfl⟩:=zau.1 F;exact hg z hz),o.all.b7⟩,o.O⟩
   have r:bu ρ { x with Z:=.ext d }=gZ (if x.B=4 then rB { x with Z:=.ext d,I:=d.I } x.v.a9 else ip { x with Z:=.ext d,I:=d.I } 3 0 (-1)):=by
    unfold bu
    rw[zn (by show ¬d.Y.O=0;omega),zn (by show ¬d.Y.O=5;omega)]
   rw[r]
   rcases am with⟨g,g2,g3⟩|g
   ·rw[zp g]
    exact GoR.eb (y:=x) ac hm ⟨al.ask g2 g3,rfl,rfl,rfl,⟨zs,zs⟩,rfl⟩ w2 w1 o.aq rfl rfl
   ·rw[zn]
    exact GoR.eb (y:=x) ac hm ⟨al.out rfl zs (λg=>by omega),rfl,rfl,rfl,⟨zs,zs⟩,rfl⟩ w2 w1 o.aq rfl rfl
 rw[en]
 have t:=hE.O
 have f:=hE.ab
 have E:∀(d:mj) (a:ii) (J:eO),fi J L X=fi m L X->fa e a=mT d->a.aV=0->d.Y.O=0->d.aL=true->d.ab=x.rd->d.K<=d.ab.length->x.I<=d.I->d.I<=(fi m L X).T->(∀j z,j<d.K->d.ab[j]? = some z->kX (ke S) h0 n (fi m L X) i d.I x.v.k z.N.toNat z.D)->tA x a/\qA S h0 n m L X i x (ah ρ x a) J L:=by
  intro d a J hm A ha f1 f2 f3 f4 f5 f6 f7
  unfold mT at A
  split at A
  ·rename_i g
   refine C a _ J hm A ha (λg=>(by cases g)) f3 (.inr (.inr ⟨rfl,f5,f6,λz hz=>?_⟩))
   obtain⟨j,hj,e⟩:=zaU hz
   exact f7 j z (by rw[g,f3];exact hj) (by rw[f3,dg hj,e])
  ·rename_i g
   have F:d.K<d.ab.length:=by omega
   exact C a _ J hm A ha (λ_ _=>F) f3 (.inl ⟨f1,f3,λ_ _=>F,λ_=>⟨f5,f6,f7⟩,λg=>(by rw[f2]at g;cases g)⟩)
 cases U:e.aL with
 |false =>
  have en:(gO e).1=⟨6,0,0,0,aa,aa⟩:=by grind[gO]
  rw[en]
  have r:∃c,ag m ⟨6,0,0,0,aa,aa⟩=({ m with aT:=c },⟨m.n,aa,false,0⟩):=⟨_,rfl⟩
  obtain⟨c,r⟩:=r
  rw[r]
  have aA:=hE.K U
  exact E { e with aL:=true,I:=m.n } _ _ rfl (by unfold fa;rw[gk,zp t,zp U]) rfl t rfl f (by rw[aA];exact zag _) o.a2.2.2 (zab _) (λj z hj _=>by have hj:j<e.K:=hj;omega)
 |true =>
  obtain⟨a1,a2,a3⟩:=hE.aG U
  have F:=hE.ok t U
  have hz:e.ab.getD e.K ⟨0,0⟩=e.ab[e.K]:=by rw[ge,dg F];rfl
  have Q:e.ab[e.K]∈x.rd:=by grind
  have en:(gO e).1=⟨3,e.ab[e.K].N,0,0,aa,aa⟩:=by grind[gO]
  rw[en]
  obtain⟨c,r⟩:=zi (m:=m) (a:=0) (b:=0) (u:=aa) (w:=aa) (h.rd.2 _ Q)
  rw[r]
  have V:(fi m L X).lk e.ab[e.K].N.toNat=m.l.getD e.ab[e.K].N.toNat aa:=rfl
  generalize m.l.getD e.ab[e.K].N.toNat aa=l at V
  have A:fa e ⟨0,l,false,0⟩=if l.held=true then(if(e.Y.waits l.ar).2=true then { e with Y:=(e.Y.waits l.ar).1 }else { e with Y:=(e.Y.waits l.ar).1.bn 5 0 l.ar })
   else if l.D=e.ab[e.K].D then mT { e with K:=e.K+1 }
   else { e with Y:=e.Y.bn 5 0 (-1) }:=by
   unfold fa;rw[gk,zp t,zn (by rw[U];decide),hz]
  split at A
  ·split at A
   ·exact C _ _ _ rfl A rfl (λ_ _=>F) f (.inl ⟨SU t,f,λ_ _=>F,λ_=>⟨a1,a2,a3⟩,λg=>(by rw[show({ e with Y:=(e.Y.waits l.ar).1 }:mj).aL=e.aL from rfl,U]at g;cases g)⟩)
   ·exact C _ _ _ rfl A rfl (λg=>(by cases g)) f (.inr (.inl rfl))
  ·rename_i g
   split at A
   ·rename_i g2
    refine E _ _ _ rfl A rfl t U f F a1 a2 (λj z hj M=>?_)
    have hj:j<e.K+1:=hj
    by_cases c:j<e.K
    ·grind
    ·have:j=e.K:=by omega
     subst this
     have M:e.ab[e.K]? = some z:=M
     rw[dg F]at M
     cases M
     have hg:=o.all.bQ _ (zau.2 ⟨_,Q,rfl⟩)
     exact hg.aj hi (by rw[V];exact g2) (.inl (by rw[V];simpa using g)) (by have:=hg.v0;have h2:=a1;simp only at this ⊢;omega) a2
   ·exact C _ _ _ rfl A rfl (λg=>(by cases g)) f (.inr (.inl rfl))
def aau {o:vV}(j:m.n<4611686018427387904):(ag m o).1.n<4611686018427387904/\(ag m o).1.w.length=m.w.length/\(ag m o).1.l.length=m.l.length/\(ag m o).1.s.length=m.s.length:=by
 have i:(ag m o).1.n=(bv m o).1.n/\(ag m o).1.w=(bv m o).1.w/\(ag m o).1.l=(bv m o).1.l/\(ag m o).1.s=(bv m o).1.s:=by unfold ag;split<;>exact⟨rfl,rfl,rfl,rfl⟩
 rw[i.1,i.2.1,i.2.2.1,i.2.2.2]
 have f:∀a b c,(pw m.l a b c).1.length=m.l.length:=λa b c=>by unfold pw;split<;>(try split)<;>simp
 have h:∀a c,(mw m.l a c).1.length=m.l.length:=λa c=>by unfold mw;split<;>simp
 let P:eO×ii->Prop:=λr=>r.1.n<4611686018427387904/\r.1.w.length=m.w.length/\r.1.l.length=m.l.length/\r.1.s.length=m.s.length
 have d:∀{c:Prop} [Decidable c] {a b:eO×ii},(c->P a)->(¬c->P b)->P (if c then a else b):=λ{c _ a b} h1 h2=>by
  by_cases g:c
  all_goals grind
 show P (bv m o)
 unfold bv
 have e:∀a,P (m,a):=λa=>⟨j,rfl,rfl,rfl⟩
 exact d (λ_=>d (λ_=>e _) (λ_=>e _)) λ_=>d (λ_=>d (λ_=>⟨j,zaZ,rfl,rfl⟩) (λ_=>e _)) λ_=>d (λ_=>e _) λ_=>d (λ_=>⟨j,rfl,f _ _ _,rfl⟩) λ_=>d (λ_=>⟨j,rfl,h _ _,rfl⟩) λ_=>d (λ_=>e _) λ_ =>
  d (λ_=>d (λ_=>e _) λ_=>d (λ_=>e _) λg=>d (λ_=>⟨by show o.word<_;omega,rfl,rfl,rfl⟩) λ_=>e _) λ_=>d (λ_=>d (λ_=>e _) (λ_=>e _)) λ_=>d (λ_=>d (λ_=>⟨j,rfl,rfl,zaZ⟩) (λ_=>e _)) λ_=>e _
def ae9 (hn:i<n)(aP:n<=4)(hT:m.n<4611686018427387904)(hi:jB (ke S) h0 n (fi m L X))(hX:X i=Im x.Z)(h:jJ S h0 n (fi m L X) m.l.length m.w.length i x)(hs:x.B=6) :
  tA x (ag m (ak x).1).2/\∃L',qA S h0 n m L X i x (ah ρ x (ag m (ak x).1).2) (ag m (ak x).1).1 L':=by
 obtain⟨c,P,hf⟩:=h.com hs
 obtain⟨hI,c1,c2,c3,c4,c5,c6⟩:=h.cy c P
 have en:ak x=au c:=by unfold ak;rw[zn,zn,zn,zn,zn,P]
 have et:∀a,ah ρ x a=bu ρ { x with Z:=.com (bk c a) }:=λa=>by unfold ah;rw[zn,zn,zn,zn,zn,P]
 obtain⟨r0,L',r1,D,J,R⟩:=ac9 hi hn aP hT (by rw[hX,P];rfl) hI hf
 rw[en,et]
 have aF:=mN hI.ok (ag m (au c).1).2
 have aI:tA x (ag m (au c).1).2:=⟨r0,λg=>by omega,λ_ _ _ _ _=>by
  rw[P]
  have e1:∀a,zT.br a (.com c)=.com (bk c a):=λ_=>rfl
  exact⟨hI.ok,⟨by rw[e1];exact aF,λq hq=>(by cases hq),λq hq=>(by cases hq),λq hq=>hs⟩⟩⟩
 refine⟨aI,L',?_⟩
 have aH:=(aau (o:=(au c).1) hT).1
 generalize(ag m (au c).1).1=m' at r1 D R aH
 generalize bk c (ag m (au c).1).2=c' at r1 D J R
 have V:∀(d:ct),nV (ke S) h0 n (fi m L X) m.l.length m.w.length i x.v.k d\/nV (ke S) h0 n (fi m' L' (eu X i (jX c'))) m.l.length m.w.length i x.v.k d->(zT.com d).wr=d.ao:=λd g=>by
  have j:d.ao=true↔(d.Y.O=2\/(d.Y.O=0/\(d.B=5\/d.B=6))):=by rcases g with g|g<;>exact g.wr
  cases E:d.ao with
  |true =>
   rcases j.1 E with g|⟨g,_⟩<;>simp[E,g]
  |false =>
   have:¬d.Y.O=2:=λe=>by rw[j.2 (.inl e)]at E;cases E
   simp[E,this]
 have aB:=V c (.inl hI)
 have U:=V c' (.inr D)
 have K:x.Z.wr=c.ao:=by rw[P];exact aB
 have hb:=h.a2 zo
 have f:x.aq=true:=by rw[h.aq];simp;omega
 have aJ:x.Z.bh=true:=by rw[P]
 obtain⟨e1,e2⟩:=h.bR (.inl aJ)
 have Dy:=hb.2.2.1
 have al:=r1.T
 have aM:(fi m' L' (eu X i (jX c'))).T=m'.n:=rfl
 have aO:(fi m L X).T=m.n:=rfl
 have aC:=(h.all zo).b7
 have N:∀y:az,y.me=x.me->y.s=x.s->y.v=x.v->y.rd=x.rd->y.aD=x.aD->y.aQ=x.aQ->y.run=x.run->y.aq=x.aq->y.a2=x.a2->y.Z=.com c'->((y.B=6/\c'.Y.O=0/\y.O=0)\/(y.B=7/\c'.Y.O≠0/\y.O=c'.Y.O))->y.I=(if c'.ao=true then c'.aj+1 else x.I)->qA S h0 n m L X i x y m' L':=by
  intro y a1 a2 F a4 a5 a6 a7 a8 a9 A r u
  have aE:6<=y.B:=by omega
  have C:y.Z.wr=c'.ao:=by rw[A];exact U
  have aA:c'.ao=true->c.I<=c'.aj/\c'.aj+1<=m'.n:=λg=>by
   have:=D.le (.inl g);rw[J.I]at this;exact this
  refine⟨by rw[A];exact r1,?_,?_,⟨λ_=>⟨by rw[a8];exact f,a9⟩,λg=>by rw[f]at g;cases g⟩,by rw[a7]⟩
  ·rw[A]
   refine⟨a1.trans h.me,a2.trans h.s,⟨zo,zo⟩,by rw[F];exact h.cj,by rw[F];exact h.bZ,by rw[F];exact h.cw,by rw[a4];exact h.rd,by rw[a5,a6];exact h.a4,λg=>by omega,λ_=>⟨by rw[F];exact e1,by unfold az.af at e2 ⊢;rw[a7];exact e2⟩,by rw[a8,f];simp;omega,λ_=>?_,λg=>?_,λg=>by omega,λ_=>?_,λg=>by omega,λg=>by omega,λg=>⟨c',A,zo⟩,λd E=>?_,λg=>?_⟩
   ·rw[a9,u,C]
    cases b:c'.ao with
    |true =>
     have:=aA b
     refine⟨hb.1,?_,?_,λ_=>?_⟩
     ·rw[zp rfl];omega
     ·rw[zp rfl];show _<=m'.n;omega
     ·rw[zp rfl];omega
    |false =>
     refine⟨hb.1,?_,?_,λg=>(by cases g)⟩
     ·rw[zn zd];exact hb.2.1
     ·rw[zn zd];show _<=m'.n
      have Q:m.n<=m'.n:=al
      omega
   ·rcases r with r|r
    ·exact r.2.2
    ·omega
   ·have e:y.aG=if c'.ao=true then c'.aj else x.I:=by
     unfold az.aG
     rw[C,u]
     cases c'.ao<;>simp
    rw[e,F,a4]
    refine⟨λp hp=>?_,aC⟩
    obtain⟨z,hz,rfl⟩:=zau.1 hp
    have ac:z∈c'.ab:=by rw[J.ab,c1];exact hz
    cases b:c'.ao with
    |true=>rw[zp rfl];exact D.dd b z ac
    |false =>
     rw[zn zd]
     have Q:=D.bB b z ac
     rw[J.I]at Q
     have:c.ao=false:=by
      rcases R with⟨_,g,_⟩|⟨_,_,g,_⟩
      ·rw[<-g];exact b
      ·rw[b]at g;cases g
     rw[c4 this]at Q
     exact Q
   ·rw[A]at E
    cases E
    refine⟨by rw[F];exact D,by rw[J.ab,c1,a4],by rw[J.cells,c2,F],λg=>by rw[u,zp g],λg=>?_,aE,by rw[a9,J.I];exact c6⟩
    rw[J.I,u,zn (by rw[g];decide)]
    refine c4 ?_
    rcases R with⟨_,j,_⟩|⟨_,_,j,_⟩
    ·rw[<-j];exact g
    ·rw[g]at j;cases j
   ·rcases r with r|⟨r,aK,aN⟩
    ·omega
    ·refine⟨?_,λj=>?_,λj H=>?_,λd E=>?_⟩
     ·have:=D.O;omega
     ·rw[C]at j
      rcases D.wr.1 j with g|⟨g,_⟩
      ·omega
      ·omega
     ·rw[C]at H
      have:=D.wr.2 (.inl zo)
      rw[this]at H;cases H
     ·rw[A]at E;cases E;exact aK
  ·rcases R with⟨g1,j,H⟩|⟨g1,j,H,g4⟩
   ·refine .inl ⟨g1,by rw[C,K];exact j,λg=>⟨?_,F⟩⟩
    rw[K]at g
    rw[u,zp (by rw[j];exact g),H g,c3 g]
   ·refine .inr ⟨?_,by rw[K];exact j,by rw[C];exact H,?_,f⟩
    ·rw[u,zp H,F,<-c2];exact g1
    ·rw[u,zp H];exact g4
 have M:c'.ao=true->IntKind.wrap .u64 (c'.aj+1)=c'.aj+1:=λg=>by
  have Q:=D.le (.inl g)
  have h2:=D.I
  have h3:c'.aj+1<=m'.n:=Q.2
  exact Ul zo zo
 have t:∀y:az,y.Z=.com c'->y.B≠8->y.I=x.I->gZ y={ y with I:=if c'.ao=true then c'.aj+1 else x.I }:=λy hy h8 am=>by
  show(if y.wr=true then { y with I:=y.Z.I }else y)=_
  have e:y.wr=c'.ao:=by
   show(!decide (y.B=8)&&y.Z.wr)=_
   rw[hy,U];simp[h8]
  rw[e]
  cases b:c'.ao with
  |true=>rw[zp rfl,zp rfl,hy];rw[show(zT.com c').I=c'.aj+1 by show(if c'.ao=true then IntKind.wrap .u64 (c'.aj+1)else 0)=_;rw[zp b,M b]]
  |false=>rw[zn zd,zn zd,<-am]
 have aL:=D.O
 unfold bu
 by_cases W:c'.Y.O=0
 ·rw[zp (by exact W),t { x with Z:=.com c' } rfl (by show x.B≠8;omega) rfl]
  exact N _ rfl rfl rfl rfl rfl rfl rfl rfl rfl rfl (.inl ⟨hs,W,h.d8 zo⟩) rfl
 ·rw[zn (by exact W)]
  by_cases f5:c'.Y.O=5
  ·rw[zp (by exact f5),t (ip { x with Z:=.com c' } 5 0 _) rfl zs rfl]
   exact N _ rfl rfl rfl rfl rfl rfl rfl rfl rfl rfl (.inr ⟨rfl,W,f5.symm⟩) rfl
  ·rw[zn (by exact f5)]
   show qA S h0 n m L X i x (gZ (ip { x with Z:=.com c' } c'.Y.O c'.Y.aV (-1))) m' L'
   rw[t (ip { x with Z:=.com c' } _ _ _) rfl zs rfl]
   exact N _ rfl rfl rfl rfl rfl rfl rfl rfl rfl rfl (.inr ⟨rfl,W,rfl⟩) rfl
def adV (P:da ρ)(z:ll S n m.l.length m.w.length)(Y:i<n)(ac:n<=m.s.length)(hT:m.n<4611686018427387904)(hi:jB (ke S) h0 n (fi m L X))(o:X i=Im x.Z)(h:jJ S h0 n (fi m L X) m.l.length m.w.length i x)(h8:x.B≠8) :
  tA x (ag m (ak x).1).2/\∃L',qA S h0 n m L X i x (ah ρ x (ag m (ak x).1).2) (ag m (ak x).1).1 L':=by
 have H:=h.st
 have M:=h.me
 have ep:∀w,∃c,ag m ⟨9,x.me,0,w,aa,aa⟩=({ m with s:=m.s.set x.me.toNat w,aT:=c },l9):=λw=>Bm ⟨zo,zo⟩
 by_cases C:x.B=0
 ·have d:(ak x).1=⟨9,x.me,0,1,aa,aa⟩:=by grind
  rw[d]
  obtain⟨c,e⟩:=ep 1
  rw[e]
  have b:ah ρ x l9={ x with B:=1 }:=by grind
  obtain⟨j,p,t⟩:=h.ck zo
  have u:x.aq=false:=by rw[h.aq,C];rfl
  refine⟨⟨rfl,λg=>by omega,λg=>absurd C g⟩,L,?_⟩
  rw[b]
  refine .cW o rfl rfl ⟨rfl,λ_=>⟨rfl,rfl⟩⟩ ⟨λg=>⟨g,rfl⟩,λg r=>(by rw[show({ x with B:=1 }:az).aq=x.aq from rfl,g]at r;cases r)⟩ ?_ rfl
  refine⟨h.me,h.s,⟨zs,zs⟩,h.cj,h.bZ,h.cw,h.rd,h.a4,λ_=>h.run zo,h.bR,by show x.aq=_;rw[u];rfl,λg=>by simp at g,λ_=>h.d8 zo,λ_=>⟨j,p,t⟩,λg=>by simp at g,λg=>by simp at g,λg=>by simp at g,λg=>by simp at g,λc y=>?_,λg=>by simp at g⟩
  grind
 by_cases D:x.B=1
 ·have d:(ak x).1=⟨6,0,0,0,aa,aa⟩:=by grind
  rw[d]
  have e:∃c,ag m ⟨6,0,0,0,aa,aa⟩=({ m with aT:=c },⟨m.n,aa,false,0⟩):=⟨_,rfl⟩
  obtain⟨c,e⟩:=e
  rw[e]
  have b:ah ρ x ⟨m.n,aa,false,0⟩={ x with aq:=true,a2:=m.n,I:=m.n,B:=2 }:=by grind
  obtain⟨j,p,t⟩:=h.ck zo
  have u:x.aq=false:=by rw[h.aq,D];rfl
  refine⟨⟨rfl,λg=>by omega,λ_ g=>absurd D g⟩,L,?_⟩
  rw[b]
  refine .cW o rfl rfl ⟨rfl,λg=>(by rw[j]at g;cases g)⟩ ⟨λg=>(by rw[u]at g;cases g),λ_ _=>⟨rfl,rfl⟩⟩ ?_ rfl
  refine⟨h.me,h.s,⟨zs,zs⟩,h.cj,h.bZ,h.cw,h.rd,h.a4,λ_=>h.run zo,h.bR,rfl,λ_=>⟨hi.t0,zab _,zab _,λg=>?_⟩,λ_=>h.d8 zo,λ_=>⟨j,p,t⟩,λ_=>?_,λg=>by simp at g,λg=>by simp at g,λg=>by simp at g,λc y=>?_,λg=>by simp at g⟩
  ·grind
  ·show yA _ _ _ _ _ _ (rdP x.rd) x.v.k
   rw[p,t]
   exact .nil
  all_goals grind
 by_cases N:x.B=2
 ·have d:(ak x).1=⟨9,x.me,0,IntKind.wrap .u64 (x.I+1),aa,aa⟩:=by grind
  rw[d]
  obtain⟨c,e⟩:=ep (IntKind.wrap .u64 (x.I+1))
  rw[e]
  have b:ah ρ x l9=iq ρ x:=by grind
  obtain⟨j,p,t⟩:=h.ck zo
  have a:x.Z.bh=false:=by rw[j]
  obtain⟨A,F⟩:=GW a
  have E:=h.ff zo zo A
  obtain⟨q,f⟩:=S9 P z E (h.run zo) a
  refine⟨⟨rfl,λ_=>q,λ_ _ g=>absurd N g⟩,L,?_⟩
  rw[b]
  have:=GoR.eb (m:=m) (m':={ m with s:=m.s.set x.me.toNat (IntKind.wrap .u64 (x.I+1)),aT:=c }) (by rw[o,F]) rfl f F A E.aq rfl rfl
  rw[N1 f.wr]at this
  grind
 by_cases K:x.B=7
 ·have d:(ak x).1=⟨9,x.me,0,0,aa,aa⟩:=by grind
  rw[d]
  obtain⟨c,e⟩:=ep 0
  rw[e]
  have b:ah ρ x l9={ x with B:=8 }:=by grind
  refine⟨⟨rfl,λg=>by omega,λ_ _ _ g=>absurd K g⟩,L,?_⟩
  rw[b]
  refine .cW o rfl rfl ⟨rfl,λ_=>⟨rfl,rfl⟩⟩ ⟨λg=>⟨g,rfl⟩,λg r=>(by rw[show({ x with B:=8 }:az).aq=x.aq from rfl,g]at r;cases r)⟩ ?_ rfl
  refine⟨h.me,h.s,⟨zs,zs⟩,h.cj,h.bZ,h.cw,h.rd,h.a4,λg=>by simp at g,h.bR,by show x.aq=_;rw[h.aq];simp;omega,λ_=>h.a2 zo,λg=>by simp at g,λg=>by simp at g,λ_=>h.all zo,λg=>by simp at g,λg=>by simp at g,λg=>by simp at g,λc y=>?_,λ_=>h.out zo⟩
  obtain⟨V,a2,W,Q,U,T,R⟩:=h.cy c y
  grind
 by_cases J:x.B=3
 ·obtain⟨q,f⟩:=adZ P z hi o h J;exact⟨q,L,f⟩
 by_cases O:x.B=6
 ·exact ae9 (ρ:=ρ) Y z.n4 hT hi o h O
 ·obtain⟨q,f⟩:=aeg (ρ:=ρ) z hi o h zo;exact⟨q,L,f⟩
def jJ.bI (h:jJ S h0 n G nl nw i x){b e:Int}:(j6 x b e).bI=x.Z.wr:=by
 have p:x.Z.wr=true->x.v.l.cells≠[]:=λg=>by
  cases a:x.Z with
  |com c=>obtain⟨d,_,f,_⟩:=h.cy c a;rw[<-f];exact d.bX
  |_=>rw[a]at g;cases g
 show(x.done&&!(if x.done=true then x.v.l.cells else []).isEmpty)=_
 have r:x.done=(decide ((if x.B=8 then x.O else 0)=2)||(!decide (x.B=8)&&x.Z.wr)):=rfl
 by_cases j:x.B=8
 ·obtain⟨q,o,k,m⟩:=h.out zo
  grind
 all_goals grind
end
structure TaI (S:cv)(h0:Hp)(n:Nat)(G:Gs)(nw j:Nat)(a:Ta):Prop where
 all:∃rd,yA (ke S) h0 n G j a.aG rd a.a5
 aG:a.aG<=G.T
 inr:∀r∈a.a5,1<=r.J/\r.J<nw
 fO:∀c∈a.cells,1<=c.J/\c.J<nw
 a6:a.a5.length<=256/\a.cells.length<=96
structure TB (S:cv)(h0:Hp)(n:Nat)(G:Gs)(nl nw i:Nat)(pk d:Int)(x:bm):Prop where
 me:x.me=i
 s:x.s=S
 a6:x.aw.length<=6
 prog:∀p∈x.aw,nI p
 aI:0<=x.aI/\x.aI<=x.aw.length
 aA:∀a∈x.aA,TaI S h0 n G nw n a
 bE:(x.aA.length:Int)<=pk
 cu:x.aC.length+x.aF.length<=1000*x.aX.length
 aX:(x.aX.length:Int)<=x.aI+d
 sw:x.aE=false->x.aF=[]
def CX (x:bm):Hx:=match x.aj with
 |some a=>Im a.Z
 |none=>Dy
structure vh (S:cv)(h0:Hp)(n:Nat)(G:Gs)(nl nw i:Nat)(pk:Int)(x:bm):Prop where
 b:TB S h0 n G nl nw i pk (if x.aE=true\/x.B=5 then 1 else 0) x
 st:1<=x.B/\x.B<=6
 aI:x.B≠6->x.aI<x.aw.length
 run:x.B=1->∃a,x.aj=some a/\jJ S h0 n G nl nw i a/\a.B≠8/\(a.aq=true->0<x.aP/\x.aP<=pk)/\(x.aE=false->a.run.isSome=true)
 aW:x.B≠1->∀a,x.aj=some a->a.rd.length<=16/\Im a.Z=Dy
 ps:x.B=3->1<=x.aS/\x.aS<=100
 sl:x.B=5->(x.aK.length:Int)<S.aB/\x.aE=false
section
variable {S:cv}{h0:Hp}{n me i nl nw:Nat}{G G':Gs}{m m':eO}{L:jZ}{X:Nat->Hx}{x:bm}{pk d:Int}
def TaI.tr {j:Nat}{a:Ta}(h:TaI S h0 n G nw j a)(d:Gr (ke S) h0 n me G G')(f:me<n)(e:j≠me):TaI S h0 n G' nw j a:=by
 obtain⟨rd,b⟩:=h.all
 exact⟨⟨rd,λp c=>d.bQ f e h.aG (b.bQ p c),b.b7⟩,zaY h.aG d.T,h.inr,h.fO,h.a6⟩
def TB.tr (h:TB S h0 n G nl nw i pk d x)(hg:Gr (ke S) h0 n me G G')(hm:me<n):TB S h0 n G' nl nw i pk d x :=
 ⟨h.me,h.s,h.a6,h.prog,h.aI,λa ha=>(h.aA a ha).tr hg hm zo,h.bE,h.cu,h.aX,h.sw⟩
def TB.mono {pk':Int}(h:TB S h0 n G nl nw i pk d x)(hp:pk<=pk'):TB S h0 n G nl nw i pk' d x :=
 ⟨h.me,h.s,h.a6,h.prog,h.aI,h.aA,zaY h.bE hp,h.cu,h.aX,h.sw⟩
def vh.tr (h:vh S h0 n G nl nw i pk x)(hg:Gr (ke S) h0 n me G G')(hm:me<n)(hne:i≠me):vh S h0 n G' nl nw i pk x :=
 ⟨h.b.tr hg hm,h.st,h.aI,λg=>(by obtain⟨a,a1,a2,a3⟩:=h.run g;exact⟨a,a1,a2.tr hg hm hne,a3⟩),h.aW,h.ps,h.sl⟩
def vh.mono {pk':Int}(h:vh S h0 n G nl nw i pk x)(hp:pk<=pk'):vh S h0 n G nl nw i pk' x :=
 ⟨h.b.mono hp,h.st,h.aI,λg=>(by obtain⟨a,a1,a2,a3,a4,a5⟩:=h.run g;exact⟨a,a1,a2,a3,λg=>⟨(a4 g).1,zaY (a4 g).2 hp⟩,a5⟩),h.aW,h.ps,h.sl⟩
theorem Sr (a:ll S n nl nw){r:Option ig}{bs:List Int}(hb:bs.length<=100000)(e:∀q,r=some q->∀s:iX,s.l.aH=[]->zW q s):jJ S h0 n G nl nw i { uX i S with run:=r,aD:=bs }:=by
 have h:=a.lo
 have f:(gi S).a0.toNat=nw:=by rw[a.hs,a.nw];rfl
 refine⟨rfl,a.hs,⟨zs,zs⟩,⟨A4.new,λr e c b=>?_⟩,⟨by show 32<=(gi S).a0.toNat;omega,by show(gi S).a0.toNat<=256;omega,zs,zs⟩,f,⟨zs,zs⟩,⟨hb,zag _⟩,λ_=>⟨λq d=>e q d _ rfl,λ_=>by simp[oe.aH,kw]⟩,λg=>?_,rfl,λg=>by simp at g,λ_=>rfl,λ_=>⟨rfl,rfl,rfl⟩,λg=>by simp at g,λg=>by simp at g,λg=>by simp at g,λg=>by simp at g,λc b=>(by cases b),λg=>by simp at g⟩
 all_goals grind
def afi {p:List co}{fuel:Int}(b:nI p)(s:iX)(a:s.l.aH=[]):zW (KM p fuel) s:=by
 have h:=jp (n:=fuel) (show(0:Int)<=400 by decide)
 refine⟨rfl,λg=>⟨g,rfl,⟨zab _,zs⟩,rfl,zs,zs,zs,zs,h,?_⟩,zs,by rw[a];simp⟩
 grind
def aeG (D:ll S n nl nw)(h:TB S h0 n G nl nw i pk (if x.aE=true then 1 else 0) x):vh S h0 n G nl nw i pk (cw x)/\(cw x).aA=x.aA/\kD (cw x)=x.aA/\CX (cw x)=Dy:=by
 have C:=h.aX
 have z:=h.aI
 have y:=h.a6
 have A:=h.cu
 have w:x.aF.length<=100000:=by grind
 unfold cw
 cases hj:x.aw[x.aI.toNat]? with
 |none =>
  have l:=zbL.1 hj
  have e:x.aI=x.aw.length:=by omega
  refine⟨⟨?_,⟨zs,zs⟩,λg=>absurd rfl g,λg=>by simp at g,λ_ a r=>(by cases r),λg=>by simp at g,λg=>by simp at g⟩,rfl,by simp[kD],rfl⟩
  have d:(if x.aE=true\/(6:Int)=5 then(1:Int)else 0)=if x.aE=true then 1 else 0:=by simp
  show TB S h0 n G nl nw i pk (if x.aE=true\/(6:Int)=5 then 1 else 0) _
  rw[d]
  exact⟨h.me,h.s,h.a6,h.prog,h.aI,h.aA,h.bE,h.cu,h.aX,h.sw⟩
 |some p =>
  have t:=(Nm.1 hj).1
  have c:=Ok hj
  have d:(if x.aE=true\/(1:Int)=5 then(1:Int)else 0)=if x.aE=true then 1 else 0:=by simp
  have j:jJ S h0 n G nl nw i (if x.aE=true then lm x.me x.s (x.aF.map (·.J))else om x.me x.s p):=by
   rw[h.me,h.s]
   split
   ·grind[Sr]
   ·exact Sr D zs (λq m=>(by cases m;exact λs o=>afi (h.prog p c) s o))
  have b:(if x.aE=true then lm x.me x.s (x.aF.map (·.J))else om x.me x.s p).aq=false/\(if x.aE=true then lm x.me x.s (x.aF.map (·.J))else om x.me x.s p).B=0/\(if x.aE=true then lm x.me x.s (x.aF.map (·.J))else om x.me x.s p).Z=.none/\(x.aE=false->(if x.aE=true then lm x.me x.s (x.aF.map (·.J))else om x.me x.s p).run.isSome=true):=by grind
  simp only
  generalize(if x.aE=true then lm x.me x.s (x.aF.map (·.J))else om x.me x.s p)=a at j b
  obtain⟨f,u,k,v⟩:=b
  refine⟨⟨?_,⟨zs,zs⟩,λ_=>by show x.aI<x.aw.length;omega,λ_=>⟨a,rfl,j,by rw[u];decide,λg=>(by rw[f]at g;cases g),v⟩,λg=>absurd rfl g,λg=>by simp at g,λg=>by simp at g⟩,by trivial,by simp[kD,f],by show Im a.Z=Dy;rw[k];rfl⟩
  show TB S h0 n G nl nw i pk (if x.aE=true\/(1:Int)=5 then 1 else 0) _
  rw[d]
  exact⟨h.me,h.s,h.a6,h.prog,h.aI,h.aA,h.bE,h.cu,h.aX,h.sw⟩
structure Li (S:cv)(h0:Hp)(n:Nat)(G:Gs)(nl nw i:Nat)(pk:Int)(P:List Ta)(z:bm):Prop where
 bY:vh S h0 n G nl nw i pk z
 aA:z.aA=P
 told:kD z=P
 hx:CX z=Dy
def tn (e:ll S n nl nw)(h:TB S h0 n G nl nw i pk (if x.aE=true then 1 else 0) x):Li S h0 n G nl nw i pk x.aA (cw x):=by
 obtain⟨a,b,c,d⟩:=aeG e h;exact⟨a,b,c,d⟩
def BU (d:ll S n nl nw)(h:TB S h0 n G nl nw i pk 1 x)(hj:x.aI<x.aw.length):Li S h0 n G nl nw i pk x.aA (kW x):=by
 have b:=h.aX
 have c:=h.cu
 have a:=h.aI
 refine tn (x:={ x with aI:=x.aI+1,aE:=false,aF:=[],aM:=0,a7:=0 }) d ?_
 exact⟨h.me,h.s,h.a6,h.prog,⟨by show 0<=x.aI+1;omega,by show x.aI+1<=x.aw.length;omega⟩,h.aA,h.bE,by show x.aC.length+0<=1000*x.aX.length;omega,by show(x.aX.length:Int)<=x.aI+1+_;simp only[Or,if_false];omega,λ_=>rfl⟩
def aeB {c draw:Int}(h:0<=draw):0<=nK c draw/\nK c draw<=100:=by
 have a:∀k:Nat,1<=rr k/\rr k<=8:=λk=>by
  induction k with
  |zero=>simp[rr]
  |succ k ih=>unfold rr;split<;>omega
 have:=a (HE c).toNat
 have d:=zbu (rr (HE c).toNat+1) h
 have b:=zbt draw (show 0<rr (HE c).toNat+1 by omega)
 grind
def RY (d:ll S n nl nw){draw:Int}(hd:0<=draw)(h:TB S h0 n G nl nw i pk (if x.aE=true then 1 else 0) x)(hj:x.aI<x.aw.length)(e:∀a,x.aj=some a->a.rd.length<=16/\Im a.Z=Dy):Li S h0 n G nl nw i pk x.aA (lN x draw):=by
 have b:=aeB (c:=x.a7) hd
 show Li S h0 n G nl nw i pk x.aA (if nK x.a7 draw=0 then _ else _)
 split
 ·exact tn (x:={ x with aS:=0,B:=3 }) d ⟨h.me,h.s,h.a6,h.prog,h.aI,h.aA,h.bE,h.cu,h.aX,h.sw⟩
 ·rename_i g
  refine⟨⟨?_,⟨zs,zs⟩,λ_=>hj,λg=>by simp at g,λ_=>e,λ_=>⟨by show 1<=nK _ _;omega,b.2⟩,λg=>by simp at g⟩,rfl,by simp[kD],?_⟩
  ·show TB S h0 n G nl nw i pk (if x.aE=true\/(3:Int)=5 then 1 else 0) _
   rw[show(if x.aE=true\/(3:Int)=5 then(1:Int)else 0)=if x.aE=true then 1 else 0 by simp]
   exact⟨h.me,h.s,h.a6,h.prog,h.aI,h.aA,h.bE,h.cu,h.aX,h.sw⟩
  ·show CX { x with aS:=_,B:=3 }=Dy
   unfold CX
   grind
def XM {α:Type}{l:List α}{p:α->Bool}:(l.filter (λr=>!p r)).length+(l.filter p).length=l.length:=by
 induction l with
 |nil=>rfl
 |cons a l ih=>cases h:p a<;>simp[h]<;>omega
def WU (e:ll S n nl nw)(h:TB S h0 n G nl nw i pk 1 x)(hj:x.aI<x.aw.length)(f:x.B=5)(d:x.aE=false)(k:∀a,x.aj=some a->a.rd.length<=16/\Im a.Z=Dy):Li S h0 n G nl nw i pk x.aA (lu x):=by
 have b:=h.sw d
 have c:=h.cu
 rw[b]at c
 have j:=XM (l:=x.aC) (p:=λr=>iU (jb x) r.I)
 unfold lu
 split
 ·rename_i g
  rw[h.s]at g
  refine⟨⟨?_,⟨by show 1<=x.B;omega,by show x.B<=6;omega⟩,λ_=>hj,λg=>by have g:x.B=1:=g;omega,λ_=>k,λg=>by have g:x.B=3:=g;omega,λ_=>⟨g,d⟩⟩,rfl,by simp[kD,f],?_⟩
  ·show TB S h0 n G nl nw i pk (if x.aE=true\/x.B=5 then 1 else 0) _
   rw[zp (.inr f)]
   exact⟨h.me,h.s,h.a6,h.prog,h.aI,h.aA,h.bE,h.cu,h.aX,h.sw⟩
  ·unfold CX
   grind
 ·split
  ·exact BU (x:={ x with aK:=jb x,aC:=x.aC.filter λr=>!iU (jb x) r.I }) e ⟨h.me,h.s,h.a6,h.prog,h.aI,h.aA,h.bE,by show(x.aC.filter _).length+x.aF.length<=_;rw[b];simp only[List.length_nil]at c ⊢;omega,h.aX,h.sw⟩ hj
  ·refine tn (x:={ x with aK:=jb x,aC:=x.aC.filter (λr=>!iU (jb x) r.I),aE:=true,aF:=x.aC.filter (λr=>iU (jb x) r.I),aM:=0,a7:=0 }) e ?_
   exact⟨h.me,h.s,h.a6,h.prog,h.aI,h.aA,h.bE,by show(x.aC.filter _).length+(x.aC.filter _).length<=1000*x.aX.length;simp only[List.length_nil]at c;omega,h.aX,λg=>by cases g⟩
def jJ.bc {a:az}(f:jJ S h0 n G nl nw i a)(g:a.B=8)(d:a.run.isSome=true):a.bc.length<=1000:=by
 show(if a.done=true then _ else _:List Int).length<=1000
 split
 ·rename_i c
  cases b:a.run with
  |none=>rw[b]at d;cases d
  |some q =>
   have e:a.O=2:=by grind
   exact(f.bR (.inr e)).1
 ·simp
def aaI (o:ll S n nl nw){a:az}{draw pick:Int}{sl:ByteArray}(hd:0<=draw)(h:TB S h0 n G nl nw i pk (if x.aE=true then 1 else 0) x)(hj:x.aI<x.aw.length)(F:x.aj=some a)(H:jJ S h0 n G nl nw i a)(J:a.B=8)(E:Im a.Z=Dy)(K:x.aE=false->a.run.isSome=true)(ht:TaI S h0 n G nw n (j6 a x.aP pick)):Li S h0 n G nl nw i (pk+1) (x.aA++[j6 a x.aP pick]) (i7 x a draw pick sl):=by
 have c:=h.aX
 have f:=h.cu
 have u:=h.bE
 have m:∀(d:Int) (z:bm),z.me=x.me->z.s=x.s->z.aw=x.aw->z.aI=x.aI->z.aA=x.aA++[j6 a x.aP pick]->z.aC.length+z.aF.length<=1000*z.aX.length->(z.aX.length:Int)<=z.aI+d->(z.aE=false->z.aF=[])->TB S h0 n G nl nw i (pk+1) d z:=by
  intro d z y q p D r v A w
  refine⟨y.trans h.me,q.trans h.s,by rw[p];exact h.a6,by rw[p];exact h.prog,by rw[p,D];exact h.aI,λb l=>?_,?_,v,A,w⟩
  ·rw[r]at l
   rcases zar.1 l with l|l
   ·exact h.aA b l
   all_goals grind
  ·rw[r];simp only[LE,gg];omega
 have j:∀b,x.aj=some b->b.rd.length<=16/\Im b.Z=Dy:=λb l=>by
  rw[F]at l;cases l;exact⟨H.rd.1,E⟩
 have t:∀z:bm,z.aj=x.aj->CX z=Dy:=λz e=>by unfold CX;rw[e,F];exact E
 unfold i7
 split
 ·split
  ·refine⟨⟨?_,⟨zs,zs⟩,λ_=>hj,λg=>by simp at g,λ_=>j,λg=>by simp at g,λg=>by simp at g⟩,rfl,by simp[kD],t _ rfl⟩
   show TB S h0 n G nl nw i (pk+1) (if x.aE=true\/(2:Int)=5 then 1 else 0) _
   rw[show(if x.aE=true\/(2:Int)=5 then(1:Int)else 0)=if x.aE=true then 1 else 0 by simp]
   exact m _ _ rfl rfl rfl rfl rfl f c h.sw
  ·exact RY (x:={ x with aA:=x.aA++[j6 a x.aP pick],aM:=IntKind.wrap .i64 (x.aM+1),a7:=IntKind.wrap .i64 (x.a7+1) }) o hd (m _ _ rfl rfl rfl rfl rfl f c h.sw) hj j
 ·split
  ·split
   ·exact tn (x:={ x with aA:=x.aA++[j6 a x.aP pick],aM:=IntKind.wrap .i64 (x.aM+1) }) o (m _ _ rfl rfl rfl rfl rfl f c h.sw)
   ·refine⟨⟨?_,⟨zs,zs⟩,λ_=>hj,λg=>by simp at g,λ_=>j,λg=>by simp at g,λg=>by simp at g⟩,rfl,by simp[kD],t _ rfl⟩
    show TB S h0 n G nl nw i (pk+1) (if x.aE=true\/(4:Int)=5 then 1 else 0) _
    rw[show(if x.aE=true\/(4:Int)=5 then(1:Int)else 0)=if x.aE=true then 1 else 0 by simp]
    exact m _ _ rfl rfl rfl rfl rfl f c h.sw
  ·split
   ·rename_i g
    rw[zp g]at c
    show Li _ _ _ _ _ _ _ _ _ (if a.O=4 then _ else _)
    split
    ·
     have k:∀z:bm,z={ x with aA:=x.aA++[j6 a x.aP pick],aM:=IntKind.wrap .i64 (x.aM+1),aC:=x.aC++x.aF }->Li S h0 n G nl nw i (pk+1) (x.aA++[j6 a x.aP pick]) (kW z):=λz e=>by
      have q:kW z=kW { z with aF:=[] }:=rfl
      rw[q,e]
      exact BU (x:={ x with aA:=x.aA++[j6 a x.aP pick],aM:=IntKind.wrap .i64 (x.aM+1),aC:=x.aC++x.aF,aF:=[] }) o (m 1 _ rfl rfl rfl rfl rfl (by simp only[LE,List.length_nil];omega) c (λ_=>rfl)) hj
     grind
    ·exact BU (x:={ x with aA:=x.aA++[j6 a x.aP pick],aM:=IntKind.wrap .i64 (x.aM+1) }) o (m 1 _ rfl rfl rfl rfl rfl f c h.sw) hj
   ·rename_i g
    have g:x.aE=false:=by simpa using g
    rw[zn (by rw[g];decide)]at c
    have C:=H.bc J (K g)
    have k:TB S h0 n G nl nw i (pk+1) 1 { x with aA:=x.aA++[j6 a x.aP pick],aM:=IntKind.wrap .i64 (x.aM+1),aX:=x.aX++[⟨a.O,a.aV,sl,a.I⟩],aC:=x.aC++a.bc.map λn=>⟨n,a.I⟩ } :=
     m 1 _ rfl rfl rfl rfl rfl (by simp only[LE,zaq,gg];omega) (by show((x.aX++_).length:Int)<=x.aI+1;simp only[LE,gg];omega) h.sw
    show Li _ _ _ _ _ _ _ _ _ (if(x.aC++a.bc.map λn=>(⟨n,a.I⟩:rM))=[]then _ else _)
    split
    ·exact BU o k hj
    ·exact WU (x:={ x with aA:=x.aA++[j6 a x.aP pick],aM:=IntKind.wrap .i64 (x.aM+1),aX:=x.aX++[⟨a.O,a.aV,sl,a.I⟩],aC:=x.aC++a.bc.map λn=>⟨n,a.I⟩,B:=5,aK:=[] }) o ⟨k.me,k.s,k.a6,k.prog,k.aI,k.aA,k.bE,k.cu,k.aX,k.sw⟩ hj rfl g j
end
structure agH (T T' pk:Int)(L L':jZ)(o:List Ta)(b:Ta):Prop where
 le:b.a2<=b.I/\(b.bI=true->b.a2<b.I)/\b.I<=T'
 bT:(o=[]/\L'=L/\b.bI=false/\b.aP=pk+1/\b.ch=0/\b.a2=T) \/
  ∃a,o=[a]/\b.aP=a.aP/\b.a2=a.a2/\a.ch=0/\(b.ch=0\/b.ch=pk+1)/\((L'=L/\b.bI=a.bI/\(a.bI=true->b.I=a.I/\b.cells=a.cells))\/(L'=Dc b.I b.cells L/\a.bI=false/\b.bI=true/\∀y∈L,y.1≠b.I))
structure aat (S:cv)(h0:Hp)(n:Nat)(m:eO)(L:jZ)(X:Nat->Hx)(i:Nat)(pk:Int)(t t':bm)(m':eO)(L':jZ):Prop where
 to:Gr (ke S) h0 n i (fi m L X) (fi m' L' (eu X i (CX t')))
 bY:vh S h0 n (fi m' L' (eu X i (CX t'))) m.l.length m.w.length i (pk+1) t'
 told:(kD t'=kD t/\L'=L)\/∃P o b,kD t=P++o/\kD t'=P++[b]/\agH m.n m'.n pk L L' o b
section
variable {S:cv}{h0:Hp}{n me i nl nw:Nat}{G G':Gs}{m m':eO}{L L':jZ}{X:Nat->Hx}{t:bm}{pk:Int}{a a':az}
def jJ.ta (h:jJ S h0 n G nl nw i a)(hb:a.aq=true){b e:Int}:(j6 a b e).aG=a.aG/\TaI S h0 n G nw i (j6 a b e):=by
 have g:2<=a.B:=by rw[h.aq]at hb;simpa using hb
 have f:(j6 a b e).aG=a.aG:=by
  unfold Ta.aG az.aG
  rw[h.bI]
 obtain⟨k,p,q⟩:=h.cj.cells
 have j:=h.cw
 refine⟨f,⟨rdP a.rd,by rw[f];exact h.all g⟩,by rw[f];exact h.le g,λr m=>?_,λc d=>?_,h.bZ.a6,?_⟩
 ·have:=h.bZ.bx r m;rw[j]at this;exact this
 ·have d:c∈(if a.done=true then a.v.l.cells else []):=d
  split at d
  ·have o:=k.bx c d
   grind[Gl]
  ·cases d
 all_goals grind
def jJ.cells (h:jJ S h0 n G nl nw i a)(d:a.Z.wr=true){b e:Int}:(j6 a b e).cells=a.v.l.cells:=by
 have:=h.bI (b:=b) (e:=e)
 rw[d]at this
 have c:(a.done&&!(if a.done=true then a.v.l.cells else []).isEmpty)=true:=this
 grind
def TaI.aA {b:Ta}(h:TaI S h0 n G nw i b)(hd:(G.X i).hd=[]):TaI S h0 n G nw n b:=by
 obtain⟨rd,a⟩:=h.all
 exact⟨⟨rd,λp c=>(a.bQ p c).aA hd (LT _),a.b7⟩,h.aG,h.inr,h.fO,h.a6⟩
def vh.a6 (h:vh S h0 n G nl nw i pk t):t.aC.length+t.aF.length<=7000/\t.aX.length<=7:=by
 have d:=h.b.aX
 have e:=h.b.cu
 have c:=h.b.aI
 have a:=h.b.a6
 grind
def vh.aw (h:vh S h0 n G nl nw i pk t):m7 t :=
 ⟨h.b.aI.1,h.b.aI.2,h.b.prog,by have:=h.a6;omega⟩
def ll.ad (h:ll S n nl nw):1<=S.aB/\S.aB<=4:=by
 have b:=jp (n:=S.aB) (show(1:Int)<=4 by decide)
 have a:held S.aB 1 4=S.aB:=congrArg cv.aB h.hs
 grind
def jJ.e7 (h:jJ S h0 n G nl nw i a)(j:a.B=8)(f:∀n∈a.af,zM n):LP a:=by
 have c:=h.bZ.a6
 have e:=h.cj.cells.2.2
 obtain⟨d,_⟩:=h.out zo
 have b:a.done=true->a.O=2:=λg=>by
  have:(decide ((if a.B=8 then a.O else 0)=2)||(!decide (a.B=8)&&a.Z.wr))=true:=g
  grind
 exact⟨j,zo,zo,zo,λg=>(h.bR (.inr (b g))).1,h.a4.1,λg=>⟨(h.bR (.inr (b g))).2,f⟩⟩
def vh.dK (l:ll S n nl nw)(h:vh S h0 n G nl nw i pk t)(o:pk<=1000000){an:ii}(m:t.B=1->∃at_,t.aj=some at_/\tA at_ an/\∀ρ,da ρ->(ah ρ at_ an).B=8->LP (ah ρ at_ an)/\(t.aE=false->(ah ρ at_ an).bc.length<=1000)):Pz t an:=by
 obtain⟨k,f⟩:=h.a6
 have d:=h.b.bE
 have e:=h.b.a6
 have j:=h.b.me
 have c:=l.ad
 have a:t.s.aB<=4:=by rw[h.b.s];exact c.2
 exact⟨h.aw,zo,zo,zo,zo,λg=>⟨by have:=(h.sl g).1;omega,zo,a⟩,λg=>⟨h.aI zo,a,zo,m g⟩,λg=>h.aI zo⟩
def XY (hS:ll S n m.l.length m.w.length)(hn:i<n)(hi:jB (ke S) h0 n (fi m L X))(af:0<=pk)(hX:X i=CX t)(h:vh S h0 n (fi m L X) m.l.length m.w.length i pk t)(U:t.B=1)(ac:t.aj=some a)(o:qA S h0 n m L X i a a' m' L'){draw:Int}(hd:0<=draw){sl:ByteArray}:aat S h0 n m L X i pk t (ml t a a' draw (pk+1) sl) m' L':=by
 obtain⟨a0,W,H,h8,v,r⟩:=h.run U
 rw[ac]at W
 cases W
 have f:=o.bY
 have C:=o.to.T
 have C:m.n<=m'.n:=C
 have I:∀{x:az} {g:Gs},jJ S h0 n g m.l.length m.w.length i x->x.aq=true->2<=x.B:=λh k=>by rw[h.aq]at k;simpa using k
 have p:kD t=t.aA++(if a.aq=true then [j6 a t.aP 0]else []):=by grind
 generalize D:(if a'.aq&&!a.aq then pk+1 else t.aP)=bn
 have hB:a'.aq=true->∀e,(e=0\/e=pk+1)->(a.aq=false->e=0)->agH m.n m'.n pk L L' (if a.aq=true then [j6 a t.aP 0]else []) (j6 a' bn e):=by
  intro j e he P
  have y:=f.a2 (I f j)
  have u:(j6 a' bn e).bI=a'.Z.wr:=f.bI
  refine⟨⟨y.2.1,λg=>y.2.2.2 (by rw[<-u];exact g),y.2.2.1⟩,?_⟩
  cases k:a.aq with
  |false =>
   have h2:a.B<=1:=by
    have:=H.aq;rw[k]at this;have:=of_decide_eq_false this.symm;omega
   rcases o.bj with⟨A,z,_⟩|⟨_,_,_,_,g⟩
   ·refine .inl ⟨rfl,A,by rw[u,z,(H.ck zo).1],?_,P k,(o.a2.2 k j).1⟩
    grind
   all_goals grind
  |true =>
   refine .inr ⟨j6 a t.aP 0,rfl,?_,(o.a2.1 k).2,rfl,he,?_⟩
   ·grind
   ·rw[u,H.bI]
    rcases o.bj with⟨A,z,E⟩|⟨A,z,E,g4,_⟩
    ·exact .inl ⟨A,z,λg=>⟨(E g).1,by rw[f.cells (by rw[z];exact g),H.cells g,(E g).2]⟩⟩
    ·exact .inr ⟨by rw[f.cells E];exact A,z,E,g4⟩
 unfold ml
 rw[D]
 by_cases F:a'.B=8/\a'.O≠0
 ·rw[zp F]
  have j:a'.aq=true:=by rw[f.aq,F.1];rfl
  have V:a.aq=true:=by
   cases k:a.aq with
   |true=>rfl
   |false =>
    have:=(o.a2.2 k j).2
    omega
  obtain⟨o1,o2,o3,o4⟩:=f.out zo
  have Q:Im a'.Z=Dy:=by
   cases hc:a'.Z with
   |com c =>
    show jX c=Dy
    grind[jX]
   |_=>rfl
  have R:((fi m' L' (eu X i (Im a'.Z))).X i).hd=[]:=by
   show(eu X i _ i).hd=[]
   rw[kh,Q]
  have K:=((f.ta j (b:=bn) (e:=pk+1)).2).aA R
  have d:=(h.b.tr o.to hn)
  have Y:(if t.aE=true\/t.B=5 then(1:Int)else 0)=if t.aE=true then 1 else 0:=by grind
  rw[Y]at d
  have M:=aaI (x:={ t with aj:=some a',aP:=bn }) (a:=a') (draw:=draw) (pick:=pk+1) (sl:=sl) hS hd
   ⟨d.me,d.s,d.a6,d.prog,d.aI,d.aA,d.bE,d.cu,d.aX,d.sw⟩ (h.aI zo) rfl f F.1 Q (λg=>by rw[o.fh];exact r g) K
  have J:eu X i (CX (i7 { t with aj:=some a',aP:=bn } a' draw (pk+1) sl))=eu X i (Im a'.Z):=by rw[M.hx,Q]
  refine⟨by rw[J];exact o.to,by rw[J];exact M.bY,.inr ⟨t.aA,_,j6 a' bn (pk+1),p,M.told,?_⟩⟩
  grind
 ·rw[zn F]
  have N:a'.B≠8:=λg=>F ⟨g,by have:=(f.out zo).1;omega⟩
  have J:CX { t with aj:=some a',aP:=bn }=Im a'.Z:=rfl
  have Y:(if t.aE=true\/t.B=5 then(1:Int)else 0)=(if({ t with aj:=some a',aP:=bn }:bm).aE=true\/({ t with aj:=some a',aP:=bn }:bm).B=5 then(1:Int)else 0):=rfl
  have d:=(h.b.tr o.to hn).mono (show pk<=pk+1 by omega)
  refine⟨o.to,⟨⟨d.me,d.s,d.a6,d.prog,d.aI,d.aA,d.bE,d.cu,d.aX,d.sw⟩,h.st,h.aI,λ_=>⟨a',rfl,f,N,λg=>?_,λg=>by rw[o.fh];exact r g⟩,λg=>absurd U g,λg=>by have g:t.B=3:=g;omega,λg=>by have g:t.B=5:=g;omega⟩,?_⟩
  ·show 0<bn/\bn<=pk+1
   rw[<-D]
   cases k:a.aq with
   |true=>have:=v k;simp;omega
   |false=>rw[g];simp;omega
  ·have q:kD { t with aj:=some a',aP:=bn }=t.aA++(if a'.aq=true then [j6 a' bn 0]else []):=by grind
   cases j:a'.aq with
   |true =>
    rw[j]at q
    grind
   |false =>
    have k:a.aq=false:=by
     cases k:a.aq with
     |false=>rfl
     |true=>have:=(o.a2.1 k).1;rw[j]at this;cases this
    refine .inl ⟨by rw[p,q,k,j];rfl,?_⟩
    rcases o.bj with⟨A,_⟩|⟨_,_,_,_,g⟩
    all_goals grind
def ad9 (z:ll S n m.l.length m.w.length)(hn:i<n)(ac:n<=m.s.length)(hT:m.n<4611686018427387904)(hi:jB (ke S) h0 n (fi m L X))(r:0<=pk/\pk<=1000000)(hX:X i=CX t)(h:vh S h0 n (fi m L X) m.l.length m.w.length i pk t)(O:(ai t).2=true)(hU:∀ρ,da ρ->t.B=1->∀a,t.aj=some a->∀n∈(ah ρ a (ag m (ak a).1).2).af,zM n) :
  Pz t (ag m (ai t).1).2/\∀(ρ:qI) (draw:Int) (sl:ByteArray),da ρ->0<=draw->∃L',aat S h0 n m L X i pk t (thrTell ρ t (ag m (ai t).1).2 draw (pk+1) sl) (ag m (ai t).1).1 L'/\(t.B=1->∀a,t.aj=some a->qA S h0 n m L X i a (ah ρ a (ag m (ak a).1).2) (ag m (ak a).1).1 L')/\(t.B≠1->L'=L):=by
 have f:∀(k:Int),fi (ag m ⟨8,k,0,0,aa,aa⟩).1 L X=fi m L X:=λk=>by
  unfold ag bv
  simp only[show ¬((8:Int)=1) by decide,show ¬((8:Int)=2) by decide,show ¬((8:Int)=3) by decide,show ¬((8:Int)=4) by decide,show ¬((8:Int)=5) by decide,show ¬((8:Int)=6) by decide,show ¬((8:Int)=7) by decide,if_false,if_true]
  split<;>split<;>rfl
 have o:∀(F:eO) (I:bm),fi F L X=fi m L X->t.B≠1->Li S h0 n (fi m L X) m.l.length m.w.length i (pk+1) t.aA I->aat S h0 n m L X i pk t I F L:=λF I U P J=>by
  have E:CX t=Dy:=by
   unfold CX
   cases W:t.aj with
   |none=>rfl
   |some a=>exact(h.aW P a W).2
  have e:fi F L (eu X i (CX I))=fi m L X:=agP (by rw[hX,E,J.hx]) U
  have Q:kD t=t.aA:=by grind
  exact⟨by rw[e];exact .refl,by rw[e];exact J.bY,.inl ⟨by rw[J.told,Q],rfl⟩⟩
 by_cases d:t.B=1
 ·obtain⟨a,C,R,T,M,u⟩:=h.run d
  have D:ai t=ak a:=by grind
  have N:X i=Im a.Z:=by grind[CX]
  have p:=λρ j=>adV (ρ:=ρ) j z hn ac hT hi N R T
  obtain⟨Y,K⟩:=zY
  rw[D]
  refine⟨h.dK z r.2 λ_=>⟨a,C,(p Y K).1,λρ j g=>(by
   obtain⟨_,L',v⟩:=p ρ j
   exact⟨v.bY.e7 g (hU ρ j d a C),λV=>v.bY.bc g (by rw[v.fh];exact u V)⟩)⟩,λρ draw sl j H=>?_⟩
  obtain⟨_,L',v⟩:=p ρ j
  refine⟨L',?_⟩
  have A:thrTell ρ t (ag m (ak a).1).2 draw (pk+1) sl=ml t a (ah ρ a (ag m (ak a).1).2) draw (pk+1) sl:=by
   unfold thrTell;rw[zp d,C]
  rw[A]
  exact⟨XY z hn hi r.1 hX h d C v H,λ_ b M=>by rw[C]at M;cases M;exact v,λg=>absurd d g⟩
 ·have u:∀a,t.aj=some a->a.rd.length<=16/\Im a.Z=Dy:=h.aW d
  by_cases q:t.B=2
  ·have D:(ai t).1=⟨8,t.aY,0,0,aa,aa⟩:=by unfold ai;rw[zn d,zp q]
   rw[D]
   refine⟨h.dK z r.2 λg=>absurd g d,λρ draw sl j H=>⟨L,o _ _ (f _) d ?_,λg=>absurd g d,λ_=>rfl⟩⟩
   have c:=h.b.mono (show pk<=pk+1 by omega)
   rw[show(if t.aE=true\/t.B=5 then(1:Int)else 0)=if t.aE=true then 1 else 0 by rw[q];simp]at c
   generalize(ag m ⟨8,t.aY,0,0,aa,aa⟩).2=an
   have A:thrTell ρ t an draw (pk+1) sl=pC t an draw:=by unfold thrTell;rw[zn d,zp q]
   rw[A]
   show Li _ _ _ _ _ _ _ _ _ (if an.aV=0/\an.word≠0/\(t.c2=false\/an.word=t.cl)then _ else _)
   split
   ·refine⟨⟨?_,h.st,h.aI,λg=>absurd g d,λ_=>u,λg=>by have g:t.B=3:=g;omega,λg=>by have g:t.B=5:=g;omega⟩,rfl,?_,?_⟩
    ·show TB S h0 n _ _ _ i (pk+1) (if t.aE=true\/t.B=5 then 1 else 0) _
     rw[show(if t.aE=true\/t.B=5 then(1:Int)else 0)=if t.aE=true then 1 else 0 by rw[q];simp]
     exact⟨c.me,c.s,c.a6,c.prog,c.aI,c.aA,c.bE,c.cu,c.aX,c.sw⟩
    ·show t.aA++(if t.B=1 then _ else _)=_
     rw[zn d];simp
    ·unfold CX
     cases E:t.aj with
     |none=>simp[E]
     |some a=>simp only[E];exact(u a E).2
   ·exact RY z H c (h.aI zo) u
  ·by_cases y:t.B=5
   ·have D:(ai t).1=⟨8,t.aK.length,0,0,aa,aa⟩:=by unfold ai;rw[zn d,zn q,zp y]
    rw[D]
    refine⟨h.dK z r.2 λg=>absurd g d,λρ draw sl j H=>⟨L,o _ _ (f _) d ?_,λg=>absurd g d,λ_=>rfl⟩⟩
    have c:=h.b.mono (show pk<=pk+1 by omega)
    rw[zp (.inr y)]at c
    generalize(ag m ⟨8,t.aK.length,0,0,aa,aa⟩).2=an
    have A:thrTell ρ t an draw (pk+1) sl=tC t (if an.aV=0 then an.word else 0):=by unfold thrTell;rw[zn d,zn q,zp y]
    rw[A]
    exact WU (x:={ t with aK:=t.aK++[if an.aV=0 then an.word else 0] }) z ⟨c.me,c.s,c.a6,c.prog,c.aI,c.aA,c.bE,c.cu,c.aX,c.sw⟩ (h.aI zo) y (h.sl y).2 u
   ·exfalso
    have:(ai t).2=false:=by unfold ai;rw[zn d,zn q,zn y]
    rw[this]at O;cases O
def Sk (m:ll S n nl nw)(h:vh S h0 n G nl nw i pk t)(o:(ai t).2=false):vh S h0 n G nl nw i (pk+1) (gK t)/\kD (gK t)=kD t/\CX (gK t)=CX t:=by
 unfold gK
 by_cases d:t.B=3
 ·rw[zp d]
  have j:∀a,t.aj=some a->a.rd.length<=16/\Im a.Z=Dy:=h.aW zo
  have l:CX t=Dy:=by
   unfold CX
   grind
  have e:kD t=t.aA:=by grind
  have c:=h.b.mono (show pk<=pk+1 by omega)
  have f:=h.ps d
  have k:(if t.aE=true\/t.B=5 then(1:Int)else 0)=if t.aE=true then 1 else 0:=by rw[d];simp
  split
  ·rw[k]at c
   have:=tn (x:={ t with aS:=0 }) m ⟨c.me,c.s,c.a6,c.prog,c.aI,c.aA,c.bE,c.cu,c.aX,c.sw⟩
   exact⟨this.bY,by rw[this.told,e],by rw[this.hx,l]⟩
  ·exact⟨⟨⟨c.me,c.s,c.a6,c.prog,c.aI,c.aA,c.bE,c.cu,c.aX,c.sw⟩,h.st,h.aI,λg=>by have g:t.B=1:=g;omega,λ_=>j,λ_=>⟨by show 1<=t.aS-1;omega,by show t.aS-1<=100;omega⟩,λg=>by have g:t.B=5:=g;omega⟩,rfl,rfl⟩
 ·rw[zn d]
  exact⟨h.mono zo,rfl,rfl⟩
def Zp (j:ll S n nl nw)(h:vh S h0 n G nl nw i pk t){s v:Int}:vh S h0 n G nl nw i pk (iO t s v)/\kD (iO t s v)=kD t/\CX (iO t s v)=CX t:=by
 unfold iO
 cases d:t.aj with
 |none=>exact⟨h,rfl,rfl⟩
 |some a =>
  simp only
  split
  ·split
   ·rename_i f
    have g:CX t=Dy:=by unfold CX;rw[d];exact(h.aW zo a d).2
    have e:kD t=t.aA:=by grind
    have c:=h.b
    rw[show(if t.aE=true\/t.B=5 then(1:Int)else 0)=if t.aE=true then 1 else 0 by rw[f];simp]at c
    have:=tn j c
    exact⟨this.bY,by rw[this.told,e],by rw[this.hx,g]⟩
   ·split
    ·have c:=h.b
     exact⟨⟨⟨c.me,c.s,c.a6,c.prog,c.aI,c.aA,c.bE,c.cu,c.aX,c.sw⟩,h.st,h.aI,by rw[<-d];exact h.run,by rw[<-d];exact h.aW,h.ps,h.sl⟩,by unfold kD;rw[d],by unfold CX;rw[d]⟩
    all_goals grind
  all_goals grind
end
section
variable {T T' pk:Int}{L L':jZ}{A B o:List Ta}{b:Ta}
end
def mW (l:List bm)(i:Nat):Hx:=match l[i]? with
 |some t=>CX t
 |none=>Dy
structure MI (S:cv)(h0:Hp)(n:Nat)(x:eU)(L:jZ):Prop where
 set:ll S n x.mem.l.length x.mem.w.length
 len:x.ad.length=n
 sl:n<=x.mem.s.length
 T:x.mem.n<4611686018427387904
 pk:0<=x.au
 g:jB (ke S) h0 n (fi x.mem L (mW x.ad))
 ad:∀i t,x.ad[i]? = some t->vh S h0 n (fi x.mem L (mW x.ad)) x.mem.l.length x.mem.w.length i x.au t
section
variable {S:cv}{h0:Hp}{n i nl nw:Nat}{x:eU}{L:jZ}{t:bm}
theorem p6 {l:List bm}(h:l[i]? = some t):mW l i=CX t:=by grind[mW]
def IF {s v:Int}{k:Nat}{l:List bm}{j:Nat}:(mU i s v k l)[j]? = (l[j]?).map λu=>if j<k/\j≠i then iO u s v else u:=by grind[mU]
def U3 (h:MI S h0 n x L)(ht:x.ad[i]? = some t)(V:x.au<=1000000)(R:(ai t).2=true)(U:∀ρ,da ρ->t.B=1->∀a,t.aj=some a->∀n∈(ah ρ a (ag x.mem (ak a).1).2).af,zM n):Pz t (ag x.mem (ai t).1).2/\∀(ρ:qI)(draw:Int)(sl:ByteArray),da ρ->0<=draw->∃L',MI S h0 n (bw ρ x i t draw sl) L'/\aat S h0 n x.mem L (mW x.ad) i x.au t (thrTell ρ t (ag x.mem (ai t).1).2 draw (x.au+1) sl) (ag x.mem (ai t).1).1 L'/\(t.B=1->∀a,t.aj=some a->qA S h0 n x.mem L (mW x.ad) i a (ah ρ a (ag x.mem (ak a).1).2) (ag x.mem (ak a).1).1 L')/\(t.B≠1->L'=L):=by
 have O:=(Nm.1 ht).1
 have p:i<n:=by rw[<-h.len];exact O
 obtain⟨P,M⟩:=ad9 h.set p h.sl h.T h.g ⟨h.pk,V⟩ (p6 ht) (h.ad i t ht) R U
 refine⟨P,λρ draw sl N K=>?_⟩
 obtain⟨L',k,e⟩:=M ρ draw sl N K
 refine⟨L',?_,k,e⟩
 clear e
 obtain⟨E,z,y,F⟩:=aau (o:=(ai t).1) h.T
 unfold bw
 generalize(ag x.mem (ai t).1).1=m' at k E z y F
 generalize thrTell ρ t (ag x.mem (ai t).1).2 draw (x.au+1) sl=t' at k
 generalize d:(if(ai t).1.aN=5 then mU i (ai t).1.J (ai t).1.ac.D x.ad.length (x.ad.set i t')else x.ad.set i t')=thr'
 have m:∀j b,thr'[j]? = some b->(j=i/\b=t')\/(j≠i/\∃u,x.ad[j]? = some u/\(b=u\/∃s v,b=iO u s v)):=by
  intro j b hj
  rw[<-d]at hj
  have A:∀u,(x.ad.set i t')[j]? = some u->(j=i/\u=t')\/(j≠i/\x.ad[j]? = some u):=λu f=>by
   by_cases c:j=i
   all_goals grind
  split at hj
  ·rw[IF,za0]at hj
   grind
  all_goals grind
 have q:thr'.length=x.ad.length:=by
  rw[<-d];split
  ·unfold mU;simp
  ·simp
 have r:thr'[i]? = some t':=by grind
 have H:∀j u,x.ad[j]? = some u->∀b,(b=u\/∃s v,b=iO u s v)->vh S h0 n (fi x.mem L (mW x.ad)) x.mem.l.length x.mem.w.length j x.au b/\kD b=kD u/\CX b=CX u:=λj u f b g=>by
  have I:=h.ad j u f
  rcases g with rfl|⟨s,v,rfl⟩
  ·grind
  ·exact Zp h.set I
 have C:mW thr'=eu (mW x.ad) i (CX t'):=by
  funext j
  unfold eu
  by_cases c:j=i
  ·grind[p6]
  ·rw[zn c]
   cases hj:thr'[j]? with
   |none =>
    have:x.ad[j]? = none:=by rw[zbL]at hj ⊢;omega
    grind[mW]
   |some b =>
    rcases m j b hj with⟨g,_⟩|⟨_,u,f,g⟩
    ·grind
    ·rw[p6 hj,p6 f];exact(H j u f b g).2.2
 have Q:=k.to.bY h.g
 refine⟨by show ll S n m'.l.length m'.w.length;rw[z,y];exact h.set,by show thr'.length=n;rw[q];exact h.len,by show n<=m'.s.length;rw[F];exact h.sl,E,by show 0<=x.au+1;have:=h.pk;omega,by show jB _ _ _ (fi m' L' (mW thr'));rw[C];exact Q,λj b hj=>?_⟩
 ·show vh S h0 n (fi m' L' (mW thr')) m'.l.length m'.w.length j (x.au+1) b
  rw[C,z,y]
  rcases m j b hj with⟨rfl,rfl⟩|⟨c,u,f,g⟩
  ·exact k.bY
  ·exact((H j u f b g).1.tr k.to p c).mono zo
def ZR (h:MI S h0 n x L)(ht:x.ad[i]? = some t)(k:(ai t).2=false):MI S h0 n (kz x i t) L:=by
 have b:=(Nm.1 ht).1
 obtain⟨f,l,d⟩:=Sk h.set (h.ad i t ht) k
 have a:mW (x.ad.set i (gK t))=mW x.ad:=by
  funext j
  by_cases c:j=i
  ·subst c;rw[p6 (zap b),d,p6 ht]
  ·unfold mW;rw[zai (λe=>c e.symm)]
 refine⟨h.set,by show(x.ad.set i _).length=n;simp[h.len],h.sl,h.T,by show 0<=x.au+1;have:=h.pk;omega,by show jB _ _ _ (fi x.mem L (mW (x.ad.set i _)));rw[a];exact h.g,λj u hj=>?_⟩
 ·show vh S h0 n (fi x.mem L (mW (x.ad.set i (gK t)))) _ _ j (x.au+1) u
  rw[a]
  have hj:(x.ad.set i (gK t))[j]? = some u:=hj
  by_cases c:j=i
  ·subst c;rw[zap b]at hj;cases hj;exact f
  ·rw[zai (λe=>c e.symm)]at hj
   exact(h.ad j u hj).mono zo
def Z3 (h:MI S h0 n x L)(ht:x.ad[i]? = some t)(J:x.au<=1000000)(I:∀ρ,da ρ->t.B=1->∀a,t.aj=some a->∀n∈(ah ρ a (ag x.mem (ak a).1).2).af,zM n):aem x i t:=by
 have l:=h.ad i t ht
 have m:=h.set.n4
 have z:=h.set.ad
 refine⟨ht,by rw[h.len];exact m,⟨h.pk,zo⟩,λg=>?_,λg=>by have:=(l.sl g).1;omega,l.aw,λ_ g=>l.ps g,λg=>(U3 h ht J g I).1,λk u r _=>⟨(h.ad k u r).aw,λa j=>?_⟩⟩
 ·obtain⟨a,j,d,E,_⟩:=l.run g
  refine⟨a,j,λC A D H F=>?_⟩
  have:=d.st
  by_cases v:a.B=3
  ·obtain⟨_,f,e,_⟩:=d.cx v;rw[e];exact trivial
  ·by_cases y:a.B=6
   ·obtain⟨c,e,_⟩:=d.com y;rw[e];exact(d.cy c e).1.ok
   ·obtain⟨_,q,e,p⟩:=d.ext zo
    rw[e]
    exact⟨p.ok,by rw[p.ab];have:=d.rd.1;omega⟩
 ·have o:=h.ad k u r
  by_cases c:u.B=1
  ·obtain⟨b,s,w,_⟩:=o.run c
   rw[j]at s;cases s
   have:=w.rd.1;omega
  ·have:=(o.aW c a j).1;omega
def N9 {S:cv}{r:List (List co)}:∀{l:List (List (List co))}{k i:Nat},(l8 S k l)[i]? = (l[i]?).map λr=>qQ (k+i:Nat) S r
 | [],_,_=>rfl
 |a::l,k,0=>rfl
 |a::l,k,i+1=>by
  show(l8 S (k+1) l)[i]? = _
  rw[N9 (r:=r)]
  simp only[List.getElem?_cons_succ]
  rw[show k+1+i=k+(i+1) by omega]
def Sf {S:cv}:∀{l:List (List (List co))}{k:Nat},(l8 S k l).length=l.length
 | [],_=>rfl
 |a::l,k=>by show(l8 S (k+1) l).length+1=_;rw[Sf];rfl
theorem agd (a:ll S n nl nw){G:Gs}{r:List (List co)}(b:r.length<=6)(c:∀p∈r,nI p):Li S h0 n G nl nw i 0 [] (qQ i S r):=by
 refine tn (x:=⟨i,gi S,r,0,0,false,[],0,0,none,0,false,[],[],[],[],0,0,false,0⟩) a ?_
 exact⟨rfl,a.hs,b,c,⟨zab _,zs⟩,zs,zs,zs,zs,λ_=>rfl⟩
def Z8 {s:cv}{rows:List (List (List co))}(P:rows.length<=4)(hs0:0<=s.start)(Q:∀r∈rows,r.length<=6/\∀p∈r,nI p) :
  MI (eS s rows.length) (λc=>(gy s rows).mem.w.getD c.toNat 0) rows.length (gy s rows) []:=by
 have d:gi (eS s rows.length)=eS s rows.length:=Je _
 have m:0<=(eS s rows.length).start/\(eS s rows.length).start<4611686018427387904:=by
  show 0<=(if 4611686018427387904<=s.start then(4611686018427387903:Int)else s.start)/\(if 4611686018427387904<=s.start then(4611686018427387903:Int)else s.start)<_
  grind
 have E:held (eS s rows.length).a0 32 256=(eS s rows.length).a0:=congrArg cv.a0 d
 have C:held (eS s rows.length).F 1 16=(eS s rows.length).F:=congrArg cv.F d
 have N:held (eS s rows.length).aB 1 4=(eS s rows.length).aB:=congrArg cv.aB d
 have L:(if 4611686018427387904<=(eS s rows.length).start then(4611686018427387903:Int)else(eS s rows.length).start)=(eS s rows.length).start:=by grind
 have K:=jp (n:=(eS s rows.length).a0) (show(32:Int)<=256 by decide)
 have v:=jp (n:=(eS s rows.length).F) (show(1:Int)<=16 by decide)
 have I:(eS s rows.length).aB=held rows.length 1 4:=rfl
 have J:(rows.length:Int)<=held (eS s rows.length).aB 1 4:=by grind[held]
 have b:∃c,(gy s rows).mem={ qK (eS s rows.length).bf with w:=(qK (eS s rows.length).bf).w.set 5 14,aT:=c }:=by
  have y:lg 5 (qK (eS s rows.length).bf).w=true:=by grind[lg,qK]
  refine⟨IntKind.wrap .i64 (0+1),?_⟩
  show(ag (qK (eS s rows.length).bf) ⟨2,5,0,14,aa,aa⟩).1=_
  unfold ag bv
  simp only[y]
  rfl
 obtain⟨c,b⟩:=b
 have o:∀k,(gy s rows).mem.l.getD k aa=aa:=λk=>by
  rw[b]
  show(List.replicate _ aa).getD k aa=aa
  rw[ge,zaP]
  split<;>rfl
 have H:(gy s rows).mem.l.length=(held (eS s rows.length).F 1 16).toNat:=by rw[b];exact zbD
 have A:(gy s rows).mem.w.length=(held (eS s rows.length).a0 32 256).toNat:=by
  rw[b]
  show((List.replicate _ (0:Int)).set 5 14).length=_
  grind
 have x:(gy s rows).mem.s.length=(held (eS s rows.length).aB 1 4).toNat:=by rw[b];exact zbD
 have f:(gy s rows).mem.n=(eS s rows.length).start:=by rw[b];exact L
 have u:ll (eS s rows.length) rows.length (gy s rows).mem.l.length (gy s rows).mem.w.length :=
  ⟨d,by rw[H];rw[C]at v ⊢;omega,by rw[A];rw[E]at K ⊢;omega,P⟩
 have e:∀i t,(gy s rows).ad[i]? = some t->∀G,Li (eS s rows.length) (λc=>(gy s rows).mem.w.getD c.toNat 0) rows.length G (gy s rows).mem.l.length (gy s rows).mem.w.length i 0 [] t:=λi t q G=>by
  have q:(l8 (eS s rows.length) 0 rows)[i]? = some t:=q
  rw[N9 (r:=[]),za0]at q
  obtain⟨r,z,rfl⟩:=q
  obtain⟨O,M⟩:=Q r (Ok z)
  grind[agd]
 have B:∀i,mW (gy s rows).ad i=Dy:=λi=>by
  unfold mW
  cases h:(gy s rows).ad[i]? with
  |none=>rfl
  |some t=>exact(e i t h ⟨λ_=>aa,λ_=>0,0,[],λ_=>Dy⟩).hx
 refine⟨u,Sf,by rw[x];omega,by rw[f];exact m.2,zab _,?_,λi t q=>(e i t q _).bY⟩
 ·refine⟨by show 0<=(gy s rows).mem.n;rw[f];exact m.1,λk=>?_,λi _ k V g=>?_,λk g=>?_,λk _=>?_,λi _=>?_,λi _ a g=>?_,λi j a _ _ g=>?_,λi _ g=>?_,λi _ _ a g=>?_,List.Pairwise.nil,by simp[fi],by simp[fi],λc _ t _=>rfl,λi _ g=>?_,λi _ g=>?_,λi _ g=>?_,λi _ g=>?_⟩
  ·show 0<=((gy s rows).mem.l.getD k aa).D/\((gy s rows).mem.l.getD k aa).D<=(gy s rows).mem.n
   rw[o,f];exact⟨zab _,m.1⟩
  ·have g:(k,V)∈(mW (gy s rows).ad i).hd:=g
   grind
  ·have g:((gy s rows).mem.l.getD k aa).held=true:=g
   rw[o]at g;cases g
  ·show((gy s rows).mem.l.getD k aa).ar=0
   rw[o];rfl
  ·show((mW (gy s rows).ad i).hd.map (·.1)).Nodup
   rw[B];simp
  ·have g:(mW (gy s rows).ad i).up=some a:=g
   grind
  ·have g:(mW (gy s rows).ad i).up=some a:=g
   grind
  ·have g:(mW (gy s rows).ad i).wr=true:=g
   grind
  ·have g:(mW (gy s rows).ad i).up=some a:=g
   grind
  all_goals
   have g:(mW (gy s rows).ad i).wr=true:=g
   rw[B]at g;cases g
end
end Go.Proofs.YtoealglbimbbmaaGreatDoor.S
