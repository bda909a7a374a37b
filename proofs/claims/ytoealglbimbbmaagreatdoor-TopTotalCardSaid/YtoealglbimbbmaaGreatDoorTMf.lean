import Derived.Test.YtoealglbimbbmaaGreatDoorTLi
set_option linter.defProp false
set_option linter.unusedVariables false
set_option linter.unusedSimpArgs false
namespace Go.Proofs.YtoealglbimbbmaaGreatDoor.S
open Go Go.Proofs
structure Dk (n:Nat)(G:Gs)(i:Nat)(al:Bool)(a:az):Prop where
 eI:a.B<=6->a.rd.length<=a.v.k.length
 fz:∀f,a.B=3->a.Z=.fetch f->Vd f.Y a.me
 fD:∀e,a.B=4\/a.B=5->a.Z=.ext e->Vd e.Y a.me
 ed:∀c,ft a=some c->(c.B≠7->Vd c.Y c.me)/\(c.B=4->tU c.F (c.ab.getD c.K ⟨0,0⟩).N=none)
 b3:a.B=7->a.O=3->a.aO=true/\∃e,a.Z=.ext e
 b5:a.B=5->a.aO=true
 b0:a.aO=true->a.B=5\/a.B=7
 fy:kQ a=true->Yy a<i
 a4:al=false->a.aO=true->(a.B=5->∀e,a.Z=.ext e->e.aL=true->∀j z,j<e.K->e.ab[j]? = some z->(G.lk z.N.toNat).D=z.D)/\(a.B=7->a.O=3->∀z∈a.rd,(G.lk z.N.toNat).D=z.D)
 eS:al=true->a.aO=true/\∃z∈a.rd,z.D<(G.lk z.N.toNat).D
def LV (m:eO)(L:jZ):Prop:=∀s,(m.l.getD s aa).D=0\/∃y∈L,y.1=(m.l.getD s aa).D
section
variable {S:cv}{h0:Hp}{n i j nl nw:Nat}{m m':eO}{G G':Gs}{X:Nat->Hx}{L L':jZ}{x x':eU}{t t' u y:bm}{a a':az}{c c':ct}{f f':Pf}{b b' b1 b2 f1 f2 n1 n2 δ ε e r r':Int}{fine cm al:Bool}
def YS:∀{k:Nat}{l:List Int},l.Nodup->(∀z∈l,1<=z/\z<=k)->l.length<=k
 |0,l,_,h=>by
  cases l with
  |nil=>simp
  |cons z l=>have:=h z zs;omega
 |k+1,l,hn,h=>by
  by_cases g:((k+1:Nat):Int)∈l
  ·have h1:=YS (k:=k) (l:=l.erase ((k+1:Nat):Int)) (hn.erase _) λz hz=>by
    have h2:=(hn.mem_erase_iff).1 hz
    have:=h z h2.2
    have:=h2.1
    omega
   have:=zcg g
   omega
  ·have h1:=YS (k:=k) hn λz hz=>by
    have:=h z hz
    have:z≠((k+1:Nat):Int):=λe=>g (e▸hz)
    omega
   omega
def R8.dG {s:iX}(h:R8 s):s.k.length<=255:=by
 have c:=h.hi
 have:=YS (k:=255) h.ci λz b=>by
  obtain⟨y,a,rfl⟩:=zau.1 b
  have:=h.bx y a
  omega
 grind
def Nd.dG {s:iX}(h:Nd s)(c:R8 s):s.k.length<=254:=by
 obtain⟨b,a⟩:=T4 (y:=0) h c
 have:=a.dG
 grind
def Vj (h:jJ S h0 n G nl nw i a)(x:Dk n G i al a):RBd a:=by
 refine⟨h.st.1,h.bZ.dG,λe k C=>?_,λe k v=>?_,λc p r=>?_⟩
 ·by_cases g:a.B=4\/a.B=5
  ·obtain⟨_,q,b,f⟩:=h.ext g
   rw[k]at b;cases b
   refine⟨by rw[f.ab];exact h.rd.1,λl=>?_⟩
   have:=f.ok f.O l;omega
  ·exfalso
   by_cases u:a.B=3
   ·obtain⟨_,q,b,_⟩:=h.cx u;rw[k]at b;cases b
   ·have:=h.st.1
    have:=(h.ck zo).1
    grind
 ·obtain⟨_,q,b,f⟩:=h.ext (.inl v)
  rw[k]at b;cases b
  exact⟨by rw[f.ab];exact x.eI zo,λl=>(f.aG l).1⟩
 ·obtain⟨j,w,H,I,E,D,A⟩:=h.cy c p
  obtain⟨q,b,m⟩:=h.com r
  rw[p]at b;cases b
  have o:=jQ p r m
  have d:c.ab.length<=16:=by rw[w];exact h.rd.1
  obtain⟨t,_⟩:=x.ed c o
  by_cases g:c.B=7
  ·have F:=(j.ok.ba m).2.2.2.2.2 g
   have z:=j.ok.len.was
   have y:=j.ok.len.a6
   grind[rC]
  ·obtain⟨_,_,s⟩:=t g
   exact⟨agI j.ok m s,ahm j.ok.len d s⟩
def ahb (c:a.B=7)(hi:∃e,a.Z=.ext e):gw fine m L a=1:=by
 obtain⟨e,b⟩:=hi
 unfold gw
 rw[zn,zn,zn,b]
 grind
def Up (c:LV m L){str:Int->Nat}{τ v:Int}{s:Nat}{ks:List ay}(d:kX str h0 n (fi m L X) i τ ks s v)(h0:0<=τ)(b:(m.l.getD s aa).D≠v):jD L τ=true:=by
 rcases d.c8 with g|g
 ·exact absurd g b
 ·have g:τ<(m.l.getD s aa).D:=g
  rcases c s with q|⟨z,a,e⟩
  ·omega
  ·exact ya.2 ⟨z,a,zo⟩
end
structure Dn (x x':eU)(L L':jZ)(i:Nat)(t:bm):Prop where
 le:jq (av x' L')<=jq (av x L)
 qt:jq (av x' L')=jq (av x L)->x'.mem.l=x.mem.l/\x'.mem.n=x.mem.n
 lo:tm (av x L)=i->JZ (av x L) i=false->(av x L i).cm=false->(∀s,(fV x.mem s).held=false)->jq (av x' L')<=jq (av x L)-1
 wr:(av x L i).wr=true->jq (av x' L')<=jq (av x L)-1
 gs:afx (av x L) i->(∀s,(fV x.mem s).held=true->(fV x.mem s).ar<=i)->(∀c,fq t=some c->c.B=1\/c.B=3->nU x.mem c=1)->jq (av x' L')<=jq (av x L)-1
section
variable {S:cv}{h0:Hp}{n i j nl nw:Nat}{m m':eO}{G G':Gs}{X:Nat->Hx}{L L':jZ}{x x':eU}{t t' u y:bm}{a a' a0:az}{c c':ct}{f f':Pf}{b b' b1 b2 f1 f2 n1 n2 δ ε e r r':Int}{fine cm al:Bool}{ρ:qI}
theorem DU (h:jq (av x' L')<=jq (av x L)-1):Dn x x' L L' i t:=⟨zo,λg=>by omega,λ_ _ _ _=>h,λ_=>h,λ_ _ _=>h⟩
def DA (d:x'.mem.l=x.mem.l)(e:x'.mem.n=x.mem.n)(j:x.ad[i]? = some t)(k:(fv x.mem L t).cm=false)(f:(fv x.mem L t).wr=false)(h:jq (av x' L')<=jq (av x L)+sT (av x L) i (-1)):Dn x x' L L' i t:=by
 have a:sT (av x L) i (-1)<=0:=by grind
 refine⟨zo,λ_=>⟨d,e⟩,λb c _ _=>?_,λg=>?_,λg=>?_⟩
 ·grind
 ·grind[bo]
 ·have:=g.1
  grind[Ea]
def F4 (b:x'.mem.l=x.mem.l)(c:x'.mem.n=x.mem.n)(e:x.ad[i]? = some t)(f:(fv x.mem L t).cm=false)(d:(fv x.mem L t).wr=false){s:Int}(a:(fV x.mem s).held=true)(h:jq (av x' L')<=jq (av x L)):Dn x x' L L' i t:=by
 refine⟨h,λ_=>⟨b,c⟩,λ_ _ _ g=>(by rw[g s]at a;cases a),λg=>?_,λg=>?_⟩
 ·grind[bo]
 ·have:=g.1
  grind[Ea]
def Vi.bT (h:Vi a)(b:2<=a.B):io L a=jD L a.I:=by unfold io;rw[h.c7,decide_eq_true b];simp
def Z1 (g:K6 x x' i t t' a a')(D:Sl x.mem x'.mem i)(r:Vi a)(E:2<=a.B)(H:GoO a0 a')(V:a0.I=a.I)(U:a0.rd.length<=16)(W:jJ S h0 n G nl nw i a')(hk:a0.v.k.length<=255)
  (af:3*(255-(a0.v.k.length:Int))+103+21*oz (jD L a.I)+1<=gw true x.mem L a) (ac:3*(255-(a0.v.k.length:Int))+1+103+21*oz (jD L a.I)<=gw false x.mem L a):jq (av x' L)<=jq (av x L)+sT (av x L) i (-1):=by
 have X:=xT (b:=jD L a.I)
 have R:sT (av x L) i (-1)≥-1:=by unfold sT;split<;>omega
 have f:a'.I=a.I:=H.I.trans V
 have A:a'.v.k.length=a0.v.k.length:=by rw[H.k]
 rcases H.to with⟨Z,p,m⟩|⟨K,m⟩|⟨M,J,Q,m⟩|⟨N,P⟩
 ·have l:=pn (a:=a') zo
  have e:∀d,gw d x'.mem L a'=BB d x'.mem (uq a0.me p (ie p a0.s.F a0.s.wide) a0.s.aR a0.I)+3*(255-(a0.v.k.length:Int)-1)+103+21*oz (jD L a.I):=λd=>by
   unfold gw
   rw[zn,zn,zn,m]
   simp only
   unfold xZ
   rw[A,f]
  refine EF g D r l zo zo ?_ ?_ zo ?_
  ·rw[e]
   have:BB true x'.mem (uq a0.me p (ie p a0.s.F a0.s.wide) a0.s.aR a0.I)=3:=by unfold BB;rw[zn zd];rfl
   omega
  ·rw[e,td];omega
  ·rw[l.bT zo,r.bT E,f];exact id
 ·have l:=pn (a:=a') zo
  have e:∀d,gw d x'.mem L a'=(a0.rd.length:Int)+3:=λd=>by
   unfold gw
   rw[zn,zn,zn,m]
   simp only
   rw[zn,zp K]
   unfold K7 HO
   simp only
   rw[zn zs]
   omega
  refine EF g D r l zo zo ?_ ?_ zo ?_
  ·rw[e];omega
  ·rw[e];omega
  ·rw[l.bT zo,r.bT E,f];exact id
 ·obtain⟨y,T,_⟩:=W.cy _ m
  generalize h:ov a0.me a0.s.aR a0.I a0.rd J Q=c at m y T
  have j:c.Y.O=0:=by rw[<-h];rfl
  have u:c.Y.aR<=4:=by
   have:=(jp (n:=a0.s.aR) (show(0:Int)<=4 by decide)).2
   rw[<-h];exact this
  have w:c.B=0\/c.B=2:=by
   rw[<-h]
   show(if _ then(2:Int)else 0)=0\/(if _ then(2:Int)else 0)=2
   split
   ·exact .inr rfl
   ·exact .inl rfl
  have o:c.ab.length<=16:=by rw[<-h];exact U
  have l:Lk a' c:=⟨jQ m M j,zo⟩
  have z:=ahm y.ok.len o u
  have C:=agI y.ok j u
  have:=adJ (L:=L) g D r l w z zo zo C (by
   rw[r.bT E]
   unfold io
   rw[f,GE]
   exact λq=>q.2)
  omega
 ·have:=aen (L:=L) g D r ⟨N⟩ P zo zo
  omega
end
def TW (x:eU)(L:jZ):Prop:=∀s,(fV x.mem s).held=true->∃k:Nat,(fV x.mem s).ar=k/\k<4/\(av x L k).lv=true/\(av x L k).cm=true
section
variable {S:cv}{h0:Hp}{n i j nl nw nl' nw':Nat}{m m':eO}{G G':Gs}{X:Nat->Hx}{L L':jZ}{x x':eU}{t t' u y:bm}{a a' a0:az}{c c':ct}{f f':Pf}{b b' b1 b2 f1 f2 n1 n2 δ ε e r r':Int}{fine cm al:Bool}{ρ:qI}{an:ii}
def K6.cr (g:K6 x x' i t t' a a')(h:Vi a):(fv x.mem L t).cm=false/\(fv x.mem L t).wr=false:=by
 obtain⟨_,_,_,_,c,b,_,_⟩:=(fy (m:=x.mem) (L:=L) g.st g.aj).cr h
 grind
theorem nm {y:az}(h:y.Z.bh=false):gZ y=y:=by grind
def aif (g:K6 x x' i t t' a a')(z:jJ S h0 n (fi x.mem L X) x.mem.l.length x.mem.w.length i a)(E:i<x.mem.s.length)(c:x'.mem=(ag x.mem (ak a).1).1)(F:a'=ah ρ a an)(D:a.B=0):Dn x x' L L i t:=by
 have d:=pn (a:=a) zo
 have p:(ak a).1=⟨9,a.me,0,1,aa,aa⟩:=by grind
 obtain⟨k,e⟩:=Bm (m:=x.mem) (a:=a.me) (w:=1) (o:=0) (u:=aa) (v:=aa) (by rw[z.me];omega)
 rw[p,e]at c
 have r:a'={ a with B:=1 }:=by grind
 have f:Sl x.mem x'.mem i:=by
  rw[c]
  refine⟨rfl,rfl,λj hj=>?_⟩
  show(x.mem.s.set a.me.toNat 1).getD j 0=_
  rw[z.me,ge,zai zo,<-ge]
 have h:a'.B=1:=by rw[r]
 have q:=pn (a:=a') zo
 have A:∀b,gw b x.mem L a=A0:=λb=>by unfold gw;rw[zp D]
 have C:∀b,gw b x'.mem L a'=A0-1:=λb=>by unfold gw;rw[zn,zp h]
 have y:A0=871:=rfl
 refine DA f.l f.n g.mv.aG (g.cr d).1 (g.cr d).2 (EF (L:=L) g f d q ?_ zo ?_ ?_ ?_ ?_)
 all_goals grind[io]
def aip (g:K6 x x' i t t' a a')(hi:jB (ke S) h0 n (fi x.mem L X))(d:x'.mem=(ag x.mem (ak a).1).1)(v:a'=ah ρ a (ag x.mem (ak a).1).2)(C:a.B=1):Dn x x' L L i t:=by
 have f:=pn (a:=a) zo
 have o:(ak a).1=⟨6,0,0,0,aa,aa⟩:=by grind
 obtain⟨k,e⟩:∃k,ag x.mem ⟨6,0,0,0,aa,aa⟩=({ x.mem with aT:=k },⟨x.mem.n,aa,false,0⟩):=⟨_,rfl⟩
 rw[o,e]at d v
 have m:a'={ a with aq:=true,a2:=x.mem.n,I:=x.mem.n,B:=2 }:=by grind
 have h:SM x.mem x'.mem:=by rw[d];exact .bF
 have j:a'.B=2:=by rw[m]
 have c:a'.I=x.mem.n:=by rw[m]
 have p:=pn (a:=a') zo
 have r:jD L x.mem.n=false:=by
  cases q:jD L x.mem.n with
  |false=>rfl
  |true =>
   obtain⟨z,s,w⟩:=ya.1 q
   have:=(hi.cR z s).2
   grind[fi]
 have y:∀b,gw b x.mem L a=A0-1:=λb=>by unfold gw;rw[zn,zp C]
 have A:∀b,gw b x'.mem L a'=A0-2:=λb=>by unfold gw;rw[zn,zn,zp j,c,r];simp[oz]
 have u:A0=871:=rfl
 refine DA h.l h.n g.mv.aG (g.cr f).1 (g.cr f).2 (EF (L:=L) g (h.sl i) f p ?_ zo ?_ ?_ ?_ ?_)
 all_goals grind[io]
def ahN (E:da ρ)(g:K6 x x' i t t' a a')(h:jJ S h0 n (fi x.mem L X) x.mem.l.length x.mem.w.length i a)(D:jJ S h0 n G' nl' nw' i a')(H:i<x.mem.s.length)(f:x'.mem=(ag x.mem (ak a).1).1)(J:a'=ah ρ a an)(F:a.B=2):Dn x x' L L i t:=by
 have p:=pn (a:=a) zo
 have y:(ak a).1=⟨9,a.me,0,IntKind.wrap .u64 (a.I+1),aa,aa⟩:=by grind
 obtain⟨k,e⟩:=Bm (m:=x.mem) (a:=a.me) (w:=IntKind.wrap .u64 (a.I+1)) (o:=0) (u:=aa) (v:=aa) (by rw[h.me];omega)
 rw[y,e]at f
 have A:a'=iq ρ a:=by grind
 have q:Sl x.mem x'.mem i:=by
  rw[f]
  refine⟨rfl,rfl,λj hj=>?_⟩
  show(x.mem.s.set a.me.toNat _).getD j 0=_
  rw[h.me,ge,zai zo,<-ge]
 obtain⟨_,c,z⟩:=h.ck zo
 have r:∀b,gw b x.mem L a=A0-2+21*oz (jD L a.I):=λb=>by unfold gw;rw[zn,zn,zp F]
 have C:A0=871:=rfl
 have d:=Kf (a:=a) E (h.run zo).1
 rw[<-A]at d
 exact DA q.l q.n g.mv.aG (g.cr p).1 (g.cr p).2 (Z1 (L:=L) g q p zo d rfl h.rd.1 D (by rw[c];simp) (by rw[r,c];simp;omega) (by rw[r,c];simp;omega))
end
section
variable {S:cv}{h0:Hp}{n i j nl nw nl' nw':Nat}{m m':eO}{G G':Gs}{X:Nat->Hx}{L L':jZ}{x x':eU}{t t' u y:bm}{a a' a0:az}{c c':ct}{f f':fe}{b b' b1 b2 f1 f2 n1 n2 δ ε r r':Int}{fine cm al:Bool}{ρ:qI}{an:ii}
def T9 (b:a.B=3)(c:a.Z=.fetch f):gw fine m L a=BB fine m f+3*(xZ a-1)+103+21*oz (jD L a.I):=by
 unfold gw
 grind
def afK (b:LV m L){s:Nat}{τ:Int}(h0:0<=τ)(h:τ<(m.l.getD s aa).D):jD L τ=true:=by
 rcases b s with q|⟨z,a,e⟩
 ·omega
 ·exact ya.2 ⟨z,a,zo⟩
def ahU (hρ:da ρ)(hS:ll S n x.mem.l.length x.mem.w.length)(hi:jB (ke S) h0 n (fi x.mem L X))(a7:LV x.mem L)(g:K6 x x' i t t' a a')(Q:jJ S h0 n (fi x.mem L X) x.mem.l.length x.mem.w.length i a)(hv:Dk n (fi x.mem L X) i al a)(a8:jJ S h0 n G' nl' nw' i a')(hH:TW x L)(aJ:x'.mem=(ag x.mem (ak a).1).1)(K:a'=ah ρ a (ag x.mem (ak a).1).2)(hs:a.B=3):Dn x x' L L i t:=by
 have T:=pn (a:=a) (by omega)
 obtain⟨hn,f,hf,C⟩:=Q.cx hs
 obtain⟨p1,p2,p3⟩:=hv.fz f hs hf
 have aH:a.Z.bh=false:=by rw[hf]
 have A:=H6 hn.1
 rw[Q.cw,<-C.pl]at A
 obtain⟨aP,aZ⟩:=hS.cD (c:=f.J) ⟨by omega,by omega⟩
 have aC:f.N=((ke S f.J:Nat):Int):=by rw[C.cD,aP]
 have aU:=Q.a2 (by omega)
 have en:ak a=dt f:=by unfold ak;rw[if_neg (by omega),if_neg (by omega),if_neg (by omega),if_neg (by omega),if_neg (by omega),hf]
 rw[en]at aJ K
 have et:∀q,ah ρ a q=bu ρ { a with Z:=.fetch (bp f q) }:=λq=>by unfold ah;rw[if_neg (by omega),if_neg (by omega),if_neg (by omega),if_neg (by omega),if_neg (by omega),hf]
 rw[et]at K
 obtain⟨d,aB⟩:=SX (m:=x.mem) (f:=f) C.O C.st (by rw[aC];omega) A ⟨rfl,p2,p3⟩ (λg=>(C.ac g).1)
 rw[<-aJ]at d
 generalize bp f (ag x.mem (dt f).1).2=f' at K aB
 have hm:=d.sl i
 have a1:=hn.dG Q.bZ
 have aV:xZ a=255-(a.v.k.length:Int):=rfl
 have hb:=xT (b:=jD L a.I)
 have r1:∀fine,gw fine x.mem L a=BB fine x.mem f+3*(xZ a-1)+103+21*oz (jD L a.I):=λfine=>T9 hs hf
 have af:=λfine=>UW (fine:=fine) (m:=x.mem) (f:=f)
 have z:∀fine,100<=gw fine x.mem L a:=λfine=>by rw[r1];have:=af fine;omega
 have h:=g.cr (L:=L) T
 have P:∀(δ:Int),f'.Y.O=0->δ<=0->BB true x.mem f'<=BB true x.mem f+δ->jq (av x' L)<=jq (av x L)+sT (av x L) i δ:=λδ M hδ aW=>by
  have e:a'={ a with Z:=.fetch f' }:=by
   rw[K]
   unfold bu
   rw[if_pos (by exact M),nm rfl]
  have V:a'.B=3:=by rw[e];exact hs
  have aA:a'.Z=.fetch f':=by rw[e]
  have aT:xZ a'=xZ a:=by rw[e]
  have R:a'.I=a.I:=by rw[e]
  have l2:=pn (a:=a') (by omega)
  have r2:∀fine,gw fine x'.mem L a'=BB fine x.mem f'+3*(xZ a-1)+103+21*oz (jD L a.I):=λfine=>by rw[FB d.l,T9 V aA,aT,R]
  refine EF (L:=L) g hm T l2 (by have:=z true;omega) hδ (by rw[r1,r2];omega) (by rw[r1,r2,td,td];omega) (by have:=z false;omega) ?_
  rw[l2.bT (by omega),T.bT (by omega),R];exact id
 have a6:f.Y.me=i:=by rw[p1,Q.me]
 cases aB with
 |held h1 hh hw he =>
  have aM:f.B=2->¬fV x.mem f.N=f.ac:=λg2 q=>by
   have:=(C.ac (by omega)).1
   rw[<-q,hh]at this;cases this
  have F:BB true x.mem f=3:=by
   unfold BB
   rw[if_neg (by decide)]
   by_cases g0:f.B=0
   ·rw[if_pos g0]
   ·have:=C.st
    rw[if_neg g0,if_neg (aM (by omega)),if_neg h1]
  have M:∀q:fe,q.B=0->BB true x.mem q=3:=λq hq=>by unfold BB;rw[if_neg (by decide),if_pos hq]
  have a0:sT (av x L) i 0=0:=by unfold sT;split<;>rfl
  by_cases ho:(fV x.mem f.N).ar > f.Y.me
  ·have e:=hw ho
   have:=P 0 (by rw[e];exact C.O) (zab _) (by rw[F,M _ (by rw[e])];omega)
   exact F4 d.l d.n g.mv.aG h.1 h.2 hh (by omega)
  ·rcases he ho with⟨e1,e2,_⟩|⟨e1,e2⟩
   ·have aL:f'.B=0:=congrArg fe.B e2
    have:=P 0 e1 (zab _) (by rw[F,M _ aL];omega)
    exact F4 d.l d.n g.mv.aG h.1 h.2 hh (by omega)
   ·obtain⟨k,k1,k2,k4,k5⟩:=hH _ hh
    have k3:k≠i:=λq=>by subst q;rw[bo g.mv.aG,h.1]at k5;cases k5
    have e:a'=ip { a with Z:=.fetch f' } 5 0 f'.Y.aY:=by
     rw[K]
     unfold bu
     rw[if_neg (by show ¬f'.Y.O=0;omega),if_pos (by exact e1),nm rfl]
    have:=acR (L:=L) (j:=k) g d T ⟨by rw[e]⟩ (by rw[e]) (by omega) k4 (by have:=z false;omega)
    exact F4 d.l d.n g.mv.aG h.1 h.2 hh this
 |younger h1 hh hy h6 =>
  have e:a'=uI { a with Z:=.fetch f' } 4:=by
   rw[K]
   unfold bu
   rw[if_neg (by show ¬f'.Y.O=0;omega),if_neg (by show ¬f'.Y.O=5;omega),nm]
   ·show cq ρ { a with Z:=.fetch f' } f'=_
    unfold cq
    rw[if_pos h6]
   ·show(cq ρ { a with Z:=.fetch f' } f').Z.bh=false
    unfold cq
    rw[if_pos h6]
  have aI:jD L a.I=true:=by
   rw[C.I]at hy
   exact afK a7 (by omega) hy
  have V:a'.B=4:=by rw[e]
  have l2:=pn (a:=a') (by omega)
  have a4:=hv.eI (by omega)
  have aX:=Q.rd.1
  have r2:∀fine,gw fine x'.mem L a'=(a.rd.length:Int)+1+3*xZ a+103:=λfine=>by
   unfold gw
   rw[if_neg (by omega),if_neg (by omega),if_neg (by omega)]
   have aA:a'.Z=.ext (HO a.me a.s.aR a.rd):=by rw[e]
   rw[aA]
   simp only
   rw[if_pos V]
   have:xZ a'=xZ a:=by rw[e]
   rw[this]
   unfold K7 HO
   simp[oz]
  have aF:oz (jD L a.I)=1:=by rw[aI];rfl
  refine DA d.l d.n g.mv.aG h.1 h.2 (EF (L:=L) g hm T l2 (by have:=z true;omega) (by omega) ?_ ?_ (by have:=z false;omega) ?_)
  ·rw[r1,r2,aF];have:=af true;omega
  ·rw[r1,r2,aF];have:=af false;omega
  ·have:a'.I=a.I:=by rw[e]
   rw[l2.bT (by omega),T.bT (by omega),this];exact id
 |look h1 hh hl e =>
  have F:BB true x.mem f=3:=by
   unfold BB
   rw[if_neg (by decide)]
   by_cases g0:f.B=0
   ·rw[if_pos g0]
   ·have:=C.st
    rw[if_neg g0,if_neg (hl (by omega)),if_neg h1]
  have aS:BB true x.mem f'=2:=by
   rw[e];unfold BB
   rw[if_neg (by decide),if_neg (by simp),if_pos rfl,if_pos rfl]
  exact DA d.l d.n g.mv.aG h.1 h.2 (P (-1) (by rw[e];exact C.O) (by omega) (by rw[F,aS];omega))
 |word w h1 e =>
  refine DA d.l d.n g.mv.aG h.1 h.2 (P (-1) (by rw[e];exact C.O) (by omega) ?_)
  have q1:BB true x.mem f=if fV x.mem f.N=f.ac then 2 else 4:=by
   unfold BB
   rw[if_neg (by decide),if_neg (by omega),if_pos h1,if_pos h1]
  have q2:BB true x.mem f'=if fV x.mem f.N=f.ac then 1 else 3:=by
   rw[e];unfold BB
   rw[if_neg (by decide)]
   rfl
  rw[q1,q2]
  split<;>omega
 |done h1 hl h2 e1 e2 =>
  have F:BB true x.mem f=1:=by
   unfold BB
   rw[if_neg (by decide),if_neg (by omega),if_pos hl,if_neg (by omega)]
  have a3:({ a with Z:=.fetch f' }:az).Z.bh=false:=rfl
  have e:a'=gZ (cq ρ { a with Z:=.fetch f' } f'):=by
   rw[K]
   unfold bu
   rw[if_neg (by show ¬f'.Y.O=0;omega),if_neg (by show ¬f'.Y.O=5;omega)]
  have u:∀E er,E=4->cq ρ { a with Z:=.fetch f' } f'=ip (lz { a with Z:=.fetch f' } f') E er (-1)->Dn x x' L L i t:=λE er hE q=>by
   have e3:a'=ip (lz { a with Z:=.fetch f' } f') E er (-1):=by rw[e,q,nm rfl]
   have:=aen (L:=L) g hm T ⟨by rw[e3]⟩ (.inr (by rw[e3];exact hE)) (by have:=z true;omega) (by have:=z false;omega)
   exact DU (by omega)
  unfold cq at u e
  rw[if_neg (by omega)]at u e
  split at e
  ·rename_i gz
   obtain⟨k1,k2⟩:=T4 (y:=f'.word) hn Q.bZ
   have aD:(ju { a with Z:=.fetch f' } f').v=⟨a.v.size,a.v.k++[⟨a.v.a9,f'.word⟩],a.v.l,a.v.a9⟩:=k1
   have U:=Kf (a:=ju { a with Z:=.fetch f' } f') hρ λr hr=>by
    rw[aD];exact((Q.run (by omega)).1 r hr).lv rfl
   have hq:(iq ρ (ju { a with Z:=.fetch f' } f')).Z.wr=false:=by
    rcases U.to with⟨_,p,hp⟩|⟨_,hp⟩|⟨_,cs,ss,hp⟩|⟨s7,a5⟩
    ·rw[hp]
    ·rw[hp]
    ·rw[hp];rfl
    ·unfold iq j0 at s7 ⊢
     have aO:(iu ρ (ju { a with Z:=.fetch f' } f')).1.Z=.fetch f':=by unfold iu;split<;>rfl
     repeat' split
     all_goals first|rfl|(show(iu ρ (ju { a with Z:=.fetch f' } f')).1.Z.wr=false;rw[aO])
   have e3:a'=iq ρ (ju { a with Z:=.fetch f' } f'):=by
    rw[e]
    show(if az.wr _=true then _ else _)=_
    rw[if_neg]
    unfold az.wr
    rw[hq];simp
   rw[<-e3]at U
   have W:=(ady gz Q.rd.1).2
   have aE:((ju { a with Z:=.fetch f' } f').v.k.length:Int)=a.v.k.length+1:=by rw[aD];simp
   exact DA d.l d.n g.mv.aG h.1 h.2 (Z1 (L:=L) g hm T (by omega) U rfl W a8 (by omega) (by rw[r1,F,aE];omega) (by rw[r1,td,aE];omega))
  ·rename_i gz
   rw[if_neg gz]at u
   split at e
   ·rename_i H
    exfalso
    unfold rK at H
    split at H
    ·omega
    cases am:nY a.rd f'.N with
    |none =>
     have o:(match nY a.rd f'.N with|some v=>if v=f'.ac.D then(0:Int)else 14|none=>if(a.rd.length:Int)=16 then 5 else 0)=14:=H
     rw[am]at o
     simp only at o
     split at o<;>omega
    |some v =>
     have o:(match nY a.rd f'.N with|some v=>if v=f'.ac.D then(0:Int)else 14|none=>if(a.rd.length:Int)=16 then 5 else 0)=14:=H
     rw[am]at o
     simp only at o
     split at o
     ·omega
     ·rename_i gv
      have hz:=MD am
      have aQ:a.aG=a.I:=by unfold az.aG;rw[(GW aH).1];simp
      have hg:=(Q.all (by omega)).bQ _ (zau.2 ⟨_,hz,rfl⟩)
      rw[aQ]at hg
      have aK:((fi x.mem L X).lk f'.N.toNat).D=f.ac.D:=by
       rw[e1]
       show(fV x.mem f.N).D=_
       rw[hl]
      have aN:=(C.ac (by omega)).2.2.2.1
      rw[C.I]at aN
      rcases hg.c8 with q|q
      ·simp only at q;rw[aK,<-e2]at q;exact gv q.symm
      ·simp only at q;omega
   ·rename_i H
    rw[if_neg H]at u
    exact u 4 _ rfl rfl
end
section
variable {S:cv}{h0:Hp}{n i j nl nw nl' nw':Nat}{m m':eO}{G G':Gs}{X:Nat->Hx}{L L':jZ}{x x':eU}{t t' u y:bm}{a a' a0:az}{c c':ct}{f f':fe}{e e':mj}{b b' b1 b2 f1 f2 n1 n2 δ ε r r':Int}{fine cm al:Bool}{ρ:qI}{an:ii}
def Zx (c:a.B=4\/a.B=5)(b:a.Z=.ext e):gw fine m L a=if a.B=4 then K7 e+3*xZ a+103+21*oz (e.aL&&jD L e.I)else K7 e+2:=by
 unfold gw
 rw[zn,zn,zn,b]
 grind
def af2 (hi:jB (ke S) h0 n (fi x.mem L X))(aQ:LV x.mem L)(g:K6 x x' i t t' a a')(P:jJ S h0 n (fi x.mem L X) x.mem.l.length x.mem.w.length i a)(hv:Dk n (fi x.mem L X) i al a)(hH:TW x L)(aB:x'.mem=(ag x.mem (ak a).1).1)(r:a'=ah ρ a (ag x.mem (ak a).1).2)(hs:a.B=4\/a.B=5):Dn x x' L L i t:=by
 have E:=pn (a:=a) zo
 obtain⟨hn,e,he,u⟩:=P.ext hs
 obtain⟨p1,p2,p3⟩:=hv.fD e hs he
 have am:a.Z.bh=false:=by rw[he]
 have W:=P.a2 zo
 have en:ak a=gO e:=by unfold ak;rw[zn,zn,zn,zn,zn,he]
 rw[en]at aB r
 have et:∀q,ah ρ a q=bu ρ { a with Z:=.ext (fa e q) }:=λq=>by unfold ah;rw[zn,zn,zn,zn,zn,he]
 rw[et]at r
 obtain⟨c,V⟩:=Y2 (m:=x.mem) (e:=e) u.O u.ok (λz hz=>P.rd.2 z (by rw[<-u.ab];exact hz)) ⟨rfl,p2,p3⟩
 rw[<-aB]at c
 generalize fa e (ag x.mem (gO e).1).2=e' at r V
 have hm:=c.sl i
 have aO:e.Y.me=i:=by rw[p1,P.me]
 have aI:xZ a=255-(a.v.k.length:Int):=rfl
 have aP:=P.bZ.dG
 have aD:=Vj P hv
 have hb:=xT (b:=e.aL&&jD L e.I)
 have p:=λfine=>HS (fine:=fine) (m:=x.mem) (L:=L) aD
 have r1:∀fine,gw fine x.mem L a=if a.B=4 then K7 e+3*xZ a+103+21*oz (e.aL&&jD L e.I)else K7 e+2:=λfine=>Zx hs he
 have d:=g.cr (L:=L) E
 have aJ:e.ab.length<=16:=by rw[u.ab];exact P.rd.1
 have aM:sT (av x L) i 0=0:=by unfold sT;split<;>rfl
 have D:∀(δ:Int),e'.Y.O=0->δ<=0->K7 e'+21*oz (e'.aL&&jD L e'.I)<=K7 e+21*oz (e.aL&&jD L e.I)+δ->K7 e'<=K7 e+δ->jq (av x' L)<=jq (av x L)+sT (av x L) i δ:=λδ aH hδ q1 q2=>by
  have o:a'={ a with Z:=.ext e' }:=by
   rw[r]
   unfold bu
   rw[zp (by exact aH),nm rfl]
  have H:a'.B=a.B:=by rw[o]
  have aC:a'.Z=.ext e':=by rw[o]
  have M:xZ a'=xZ a:=by rw[o]
  have h:a'.I=a.I:=by rw[o]
  have l2:=pn (a:=a') zo
  have r2:∀fine,gw fine x'.mem L a'=if a.B=4 then K7 e'+3*xZ a+103+21*oz (e'.aL&&jD L e'.I)else K7 e'+2:=λfine=>by rw[FB c.l,Zx zo aC,H,M]
  have ac:∀fine,gw fine x'.mem L a'<=gw fine x.mem L a+δ:=λfine=>by
   rw[r1,r2]
   split<;>omega
  refine EF (L:=L) g hm E l2 (by have:=(p true).1;omega) hδ (ac true) (by have:=ac false;omega) (by have:=(p false).1;omega) ?_
  rw[l2.bT zo,E.bT zo,h];exact id
 have aA:e'.Y.O=2->1<=K7 e->a.I<=e'.I->oz (jD L e'.I)<=oz (e.aL&&jD L e.I)->jq (av x' L)<=jq (av x L)+sT (av x L) i (-1):=λaN q1 q2 q3=>by
  have y:jD L e'.I=true->jD L a.I=true:=SQ q2
  by_cases Q:a.B=4
  ·have o:a'=rB { { a with Z:=.ext e' }with I:=e'.I } a.v.a9:=by
    rw[r]
    unfold bu
    rw[zn (by show ¬e'.Y.O=0;omega),zn (by show ¬e'.Y.O=5;omega)]
    show gZ (if a.B=4 then _ else _)=_
    rw[zp Q,nm rfl]
   have H:a'.B=3:=by rw[o]
   have l2:=pn (a:=a') zo
   have h:a'.I=e'.I:=by rw[o]
   have M:xZ a'=xZ a:=by rw[o]
   have r2:∀fine,∃q,q.B=0/\gw fine x'.mem L a'=BB fine x'.mem q+3*(xZ a-1)+103+21*oz (jD L e'.I):=λfine=>by
    refine⟨uq a.me a.v.a9 (ie a.v.a9 a.s.F a.s.wide) a.s.aR e'.I,rfl,?_⟩
    rw[T9 (f:=uq a.me a.v.a9 (ie a.v.a9 a.s.F a.s.wide) a.s.aR e'.I) H (by rw[o]),M,h]
   refine EF (L:=L) g hm E l2 (by have:=(p true).1;omega) zo ?_ ?_ (by have:=(p false).1;omega) ?_
   ·obtain⟨q,hq,er⟩:=r2 true
    have:BB true x'.mem q=3:=by unfold BB;rw[zn zd,zp hq]
    rw[er,r1,zp Q,this];omega
   ·obtain⟨q,hq,er⟩:=r2 false
    rw[er,r1,zp Q,td];omega
   ·rw[l2.bT zo,E.bT zo,h];exact y
  ·have o:a'=ip { { a with Z:=.ext e' }with I:=e'.I } 3 0 (-1):=by
    rw[r]
    unfold bu
    rw[zn (by show ¬e'.Y.O=0;omega),zn (by show ¬e'.Y.O=5;omega)]
    show gZ (if a.B=4 then _ else _)=_
    rw[zn Q,nm rfl]
   have af:a'.B=7:=by rw[o]
   refine ade (L:=L) g c E ⟨af⟩ (by rw[o]) ?_ ?_ (λfine=>ahb af ⟨e',by rw[o]⟩) ?_
   ·rw[r1,zn Q];omega
   ·rw[r1,zn Q];omega
   ·have h:a'.I=e'.I:=by rw[o]
    rw[E.bT zo]
    unfold io
    rw[h,GE]
    exact λq=>y q.2
 have done:∀q:mj,q.Y.O=0->q.aL=true->q.ab=e.ab->e'=mT q->(q.K:Int)=(if e.aL=true then(e.K:Int)+1 else 0)->q.K<=q.ab.length->a.I<=q.I->oz (jD L q.I)<=oz (e.aL&&jD L e.I)->jq (av x' L)<=jq (av x L)+sT (av x L) i (-1):=λq k1 U k3 C k5 k6 k7 k8=>by
  have aE:K7 e=(q.ab.length:Int)-q.K+1:=by
   unfold K7
   split
   ·rename_i gl;rw[zp gl]at k5;rw[k3];omega
   ·rename_i gl;rw[zn gl]at k5;rw[k3];omega
  unfold mT at C
  split at C
  ·exact aA (by rw[C];rfl) zo (by rw[C];exact k7) (by rw[C];exact k8)
  ·have h1:K7 e'=(q.ab.length:Int)-q.K:=by rw[C];unfold K7;rw[zp U]
   refine D (-1) (by rw[C];exact k1) zo ?_ zo
   rw[h1,aE]
   have:(e'.aL&&jD L e'.I)=jD L q.I:=by rw[C,U];simp
   rw[this]
   omega
 cases V with
 |load hl A =>
  have aK:=u.K hl
  have ho:jD L x.mem.n=false:=by
   cases q:jD L x.mem.n with
   |false=>rfl
   |true =>
    obtain⟨z,hz,h2⟩:=ya.1 q
    have:=(hi.cR z hz).2
    have e:(fi x.mem L X).T=x.mem.n:=rfl
    omega
  refine DA c.l c.n g.mv.aG d.1 d.2 (done { e with aL:=true,I:=x.mem.n } u.O rfl rfl A ?_ ?_ W.2.2.1 ?_)
  ·rw[zn (by rw[hl];simp)];show(e.K:Int)=0;omega
  ·show e.K<=_;omega
  ·show oz (jD L x.mem.n)<=_;rw[ho];simp only[oz,Or,if_false]at hb ⊢;omega
 |held hl hh hw hel =>
  by_cases ho:(fV x.mem (e.ab.getD e.K ⟨0,0⟩).N).ar > e.Y.me
  ·have A:=hw ho
   have:=D 0 (by rw[A];exact u.O) (zab _) (by rw[A];omega) (by rw[A];omega)
   exact F4 c.l c.n g.mv.aG d.1 d.2 hh zo
  ·rcases hel ho with⟨A,R,_⟩|⟨A,R⟩
   ·have k1:e'.ab=e.ab:=by have q:=congrArg mj.ab R;exact q
    have U:e'.aL=e.aL:=by have q:=congrArg mj.aL R;exact q
    have k3:e'.K=e.K:=by have q:=congrArg mj.K R;exact q
    have C:e'.I=e.I:=by have q:=congrArg mj.I R;exact q
    have h1:K7 e'=K7 e:=by unfold K7;rw[k1,U,k3]
    have:=D 0 A (zab _) (by rw[h1,U,C];omega) zo
    exact F4 c.l c.n g.mv.aG d.1 d.2 hh zo
   ·obtain⟨k,k1,U,C,k5⟩:=hH _ hh
    have k3:k≠i:=λq=>by subst q;rw[bo g.mv.aG,d.1]at k5;cases k5
    have o:a'=ip { a with Z:=.ext e' } 5 0 e'.Y.aY:=by
     rw[r]
     unfold bu
     rw[zn (by show ¬e'.Y.O=0;omega),zp (by exact A),nm rfl]
    have:=acR (L:=L) (j:=k) g c E ⟨by rw[o]⟩ (by rw[o]) zo C (by have:=(p false).1;omega)
    exact F4 c.l c.n g.mv.aG d.1 d.2 hh this
 |on hl _ A =>
  have hp:=u.ok u.O hl
  refine DA c.l c.n g.mv.aG d.1 d.2 (done { e with K:=e.K+1 } u.O hl rfl A ?_ ?_ (u.aG hl).1 ?_)
  ·rw[zp hl];show((e.K+1:Nat):Int)=_;omega
  ·exact hp
  ·show oz (jD L e.I)<=_;rw[hl];simp
 |bad hl hne A R =>
  have hp:=u.ok u.O hl
  have hz:e.ab.getD e.K ⟨0,0⟩=e.ab[e.K]:=by rw[ge,dg hp];rfl
  have J:e.ab[e.K]∈a.rd:=by rw[<-u.ab];exact zae hp
  rw[hz]at hne
  have aF:a.aG=a.I:=by unfold az.aG;rw[(GW am).1];simp
  have hg:=(P.all zo).bQ _ (zau.2 ⟨_,J,rfl⟩)
  rw[aF]at hg
  have y:=Up (X:=X) aQ hg zo hne
  have o:a'=ip { a with Z:=.ext e' } 5 0 e'.Y.aY:=by
   rw[r]
   unfold bu
   rw[zn (by show ¬e'.Y.O=0;omega),zp (by exact A),nm rfl]
  exact DU (acJ (L:=L) g c E ⟨by rw[o]⟩ (by rw[o]) (by rw[E.bT zo];exact y) (p true).1 (p false).1)
end
section
variable {S:cv}{h0:Hp}{n i j nl nw nl' nw':Nat}{m m':eO}{G G':Gs}{X:Nat->Hx}{L L':jZ}{x x':eU}{t t' u y:bm}{a a' a0:az}{c c':ct}{f f':fe}{e b:Int}{b' b1 b2 f1 f2 n1 n2 δ ε r r':Int}{fine cm al:Bool}{ρ:qI}{an:ii}
def Mj (c:c'.Y.O=0)(b:c'.ao=false):bu ρ { a with Z:=.com c' }={ a with Z:=.com c' }:=by grind
def Ky (b:c'.Y.O=0):∃s,bu ρ { a with Z:=.com c' }={ a with Z:=.com c',I:=s }:=by
 unfold bu
 rw[zp (by exact b)]
 show ∃s,(if az.wr _=true then _ else _)=_
 split
 all_goals grind
def KW (c:c'.Y.O=4\/c'.Y.O=5\/c'.Y.O=2):∃y:az,bu ρ { a with Z:=.com c' }=y/\y.B=7/\y.O=c'.Y.O/\(c'.Y.O=5->y.aY=c'.Y.aY)/\y.Z=.com c':=by
 have b:∀y:az,∃s,gZ y={ y with I:=s }:=λy=>by
  show ∃s,(if az.wr _=true then _ else _)=_
  split
  all_goals grind
 refine⟨_,rfl,?_⟩
 grind
def afj (h:Stp c c' e b)(v:e=4\/e=5)(u:a.B=6)(d:a'=bu ρ { a with Z:=.com c' })(t:c'.ao=false):∃b' r' cm,Yc a' e b' r' cm/\(e=5->b'=b)/\r'<=c.was.length:=by
 rcases h.aG with⟨f,i,j,n,r,p⟩|⟨f,i,j⟩
 ·rw[Mj f t]at d
  have o:ft a'=some c':=jQ (by rw[d]) (by rw[d];exact u) f
  have:=UO o i j
  exact⟨_,_,_,this,λ_=>n,by rw[h.was];omega⟩
 ·obtain⟨y,l,k,s,m,q⟩:=KW (ρ:=ρ) (a:=a) (c':=c') zo
  rw[l]at d
  rw[d]
  exact⟨_,_,_,aaf k zo v,λg=>by rw[m zo,i],zo⟩
structure St6 (S:cv)(h0:Hp)(n:Nat)(x x':eU)(L L':jZ)(X:Nat->Hx)(i:Nat)(t t':bm)(a a':az)(al:Bool)(ρ:qI):Prop where
 hS:ll S n x.mem.l.length x.mem.w.length
 hi:jB (ke S) h0 n (fi x.mem L X)
 dE:i<n
 hT:x.mem.n<4611686018427387904
 fw:LV x.mem L
 hX:X i=Im a.Z
 g1:(∀c,ft a=some c->c.B≠6)->K6 x x' i t t' a a'
 g2:(∀c,ft a=some c->c.B=6)->Go2 x x' L i t t' a a'
 st:t.B=1
 aj:t.aj=some a
 aG:x.ad[i]? = some t
 hA:jJ S h0 n (fi x.mem L X) x.mem.l.length x.mem.w.length i a
 hv:Dk n (fi x.mem L X) i al a
 fd:∃(G':Gs) (nl' nw':Nat),jJ S h0 n G' nl' nw' i a'
 fN:af_ L L' a a'
 hH:TW x L
 dz:∀j u,j≠i->x.ad[j]? = some u->UL u/\TV u
 mem:x'.mem=(ag x.mem (ak a).1).1
 br:a'=ah ρ a (ag x.mem (ak a).1).2
def St6.out (h:St6 S h0 n x x' L L' X i t t' a a' al ρ)(E:a.B=6):∃c c',ft a=some c/\nV (ke S) h0 n (fi x.mem L X) x.mem.l.length x.mem.w.length i a.v.k c/\qp x.mem c x'.mem c'/\a'=bu ρ { a with Z:=.com c' }/\a'.Z=.com c'/\(c'.ao=true↔(c'.Y.O=2\/(c'.Y.O=0/\(c'.B=5\/c'.B=6))))/\(c'.ao=c.ao->L'=L)/\c.ab=a.rd/\a.Z=.com c:=by
 obtain⟨c,f,s⟩:=h.hA.com E
 obtain⟨r,D,N,P,J,H,F⟩:=h.hA.cy c f
 have j:=jQ f E s
 have z:(ak a).1=(au c).1:=by unfold ak;rw[zn,zn,zn,zn,zn,f]
 have u:∀q,ah ρ a q=bu ρ { a with Z:=.com (bk c q) }:=λq=>by unfold ah;rw[zn,zn,zn,zn,zn,f]
 have d:=h.mem
 have b:=h.br
 rw[z]at d b
 rw[u]at b
 have g:=Uo (m:=x.mem) (L:=L) (X:=X) h.hS.n4 h.dE h.hT r h.hi (by rw[h.hX,f];rfl) s (h.hv.ed c j).1
 rw[<-d]at g
 have e:a'.Z=.com (bk c (ag x.mem (au c).1).2):=by grind
 obtain⟨K,y,C,p⟩:=h.fd
 have o:=(p.cy _ e).1.wr
 refine⟨c,_,j,r,g,b,e,o,λA=>?_,D,f⟩
 rcases h.fN with⟨q,_⟩|⟨_,I,M,_⟩
 all_goals grind
end
section
variable {S:cv}{h0:Hp}{n i j nl nw nl' nw':Nat}{m m':eO}{G G':Gs}{X:Nat->Hx}{L L':jZ}{x x':eU}{t t' u y:bm}{a a' a0:az}{c c':ct}{f f':fe}{e b:Int}{b' b1 b2 f1 f2 n1 n2 δ ε r r':Int}{fine cm al:Bool}{ρ:qI}{an:ii}{str:Int->Nat}{ks:List ay}
def ael (h:nV str h0 n (fi m L X) nl nw i ks c)(hi:jB str h0 n (fi m L X))(T:i<n)(R:X i=jX c)(t:c.Y.O=0)(H:c.B=0\/(c.B=4/\tU c.F (c.ab.getD c.K ⟨0,0⟩).N=none)){s:Int}(u:s=(if c.B=0 then c.F.getD c.was.length 0 else(c.ab.getD c.K ⟨0,0⟩).N))(S:(fV m s).held=true):(fV m s).ar≠i:=by
 intro v
 obtain⟨k,C,V,a⟩:=hi.aY s.toNat S
 have e:=hi.own k C _ _ a
 have w:fV m s=⟨V,true,k⟩:=e
 rw[w]at v
 have o:k=i:=by grind
 subst o
 have a:(s.toNat,V)∈(X k).hd:=a
 rw[R]at a
 unfold jX Ik at a
 rw[zp t]at a
 have j:(if c.B=6\/c.B=7 then c.K else 0)=0:=by grind
 simp only[j,zcw]at a
 obtain⟨p,A,E⟩:=zau.1 a
 have Q:p.1.toNat=s.toNat:=congrArg Prod.fst E
 obtain⟨q,z,J⟩:=zaU A
 have f:=h.ok.len
 rw[List.length_zip]at z
 have d:q<c.F.length:=by omega
 have l:q<c.was.length:=by omega
 have P:p.1=c.F[q]:=by grind
 have y:=h.st c.F[q] (zae d)
 rcases H with g|⟨g,I⟩
 ·rw[zp g]at u
  have r:=((h.ok.ba t).1 (.inl g)).1
  have x:c.F.getD c.was.length 0=c.F[c.was.length]:=by rw[ge,dg r];rfl
  have D:=h.st c.F[c.was.length] (zae r)
  rw[x]at u
  have:=zaT.1 f.c4 q c.was.length d r l
  grind
 ·rw[zn]at u
  have b:=((h.ok.ba t).2.2.1 g).2
  have M:=h.bK (c.ab.getD c.K ⟨0,0⟩) (by rw[ge,dg b];exact zae b)
  grind[F1]
def aeo (h:c'.Y=c.Y):WD c'=WD c:=by grind[WD]
theorem MK (h:c.B<=1):rC c=4*((c.F.length:Int)-c.was.length)+2+c.ab.length+c.F.length+WD c:=by grind[rC]
theorem Np (h:c.B=2\/c.B=3):rC c=2+(c.ab.length:Int)+c.F.length+WD c:=by grind[rC]
theorem abL (h:c.B=4):rC c=(c.ab.length:Int)-c.K+c.F.length+WD c:=by grind[rC]
def acj (b:c.B≠1)(a:c.B≠3):nU m c=0:=by grind[nU]
theorem ah9 (h:c.B=5):wC c=(c.cells.length:Int)-c.K+5*c.F.length:=by grind[wC]
theorem ahz (h:c.B=6):wC c=5*((c.F.length:Int)-c.K):=by grind[wC]
theorem ad2 (h:Lk a c)(b:a.B=6):io L a=jD L a.I:=by
 unfold io;rw[h.c7.2.2.1,decide_eq_true zo];simp
def Xj (g:K6 x x' i t t' a a')(e:SM x.mem x'.mem)(d:Lk a c)(E:Lk a' c')(I:rC c'<=rC c)(o:0<=rC c)(F:io L a'=io L a)(hb:nU x.mem c<=nU x'.mem c')
  (H:(∀s,(fV x.mem s).held=true->(fV x.mem s).ar<=i)->(c.B=1\/c.B=3->nU x.mem c=1)->nU x.mem c+1<=nU x'.mem c'):Dn x x' L L i t:=by
 obtain⟨C,D⟩:=aej (L:=L) (δ:=0) g e d E zo (zab _) o F hb
 have f:=fy (m:=x.mem) (L:=L) g.st g.aj
 obtain⟨A,y,r,u,j,k,v,p⟩:=f.lk d
 refine⟨zo,λ_=>⟨e.l,e.n⟩,λ_ _ q _=>?_,λq=>?_,λh z w=>?_⟩
 ·rw[bo g.mv.aG,j]at q;cases q
 ·rw[bo g.mv.aG,k]at q;cases q
 ·have b:fq t=some c:=by unfold fq pF;rw[zp g.st,g.aj];exact d.com
  grind
def Zj (h:nV str h0 n (fi m L X) nl nw i ks c)(hi:jB str h0 n (fi m L X))(j:i<n)(r:X i=jX c)(q:c.Y.O=0)(t:c.ao=false)(u:c.B<=4)(g:LV m L){z:jz}{k:Nat}(s:z∈c.ab)(p:c.F[k]? = some z.N)(o:k<c.was.length)(v:(c.was.getD k aa).D≠z.D):jD L c.I=true:=by
 refine Up (X:=X) g (h.bB t z s) h.I.1 ?_
 have d:(z.N.toNat,(c.was.getD k aa).D)∈(X i).hd:=by
  rw[r]
  unfold jX Ik
  rw[zp q]
  have b:(if c.B=6\/c.B=7 then c.K else 0)=0:=by grind
  simp only[b,zcw]
  obtain⟨f,a⟩:=Nm.1 p
  refine zau.2 ⟨(c.F[k],c.was[k]),?_,?_⟩
  ·refine Ok (i:=k) ?_
   rw[dg (by rw[List.length_zip];omega),List.getElem_zip]
  ·simp only
   rw[a,ge,dg o];rfl
 have e:=hi.own i j _ _ d
 have e:m.l.getD z.N.toNat aa=⟨(c.was.getD k aa).D,true,i⟩:=e
 grind
theorem afp (h:St6 S h0 n x x' L L' X i t t' a a' al ρ)(h6:a.B=6)(aU:∀c,ft a=some c->c.B<=4):Dn x x' L L' i t:=by
 obtain⟨c,d,R,Q,aK,A,am,aN,hL,aQ,P⟩:=h.out h6
 have af:=aU c R
 have g:=h.g1 λq hq=>by rw[R]at hq;cases hq;omega
 have E:=(jO R).2.2
 obtain⟨cp,cz⟩:=h.hv.ed c R
 obtain⟨m,aO⟩:=(Vj h.hA h.hv).com c P h6
 obtain⟨_,_,i3,_,i5,_,_⟩:=h.hA.cy c P
 have W:c.ao=false:=by
  cases q:c.ao with
  |false=>rfl
  |true=>have:=Q.wr.1 q;omega
 have N:Lk a c:=⟨R,af⟩
 have aC:X i=jX c:=by rw[h.hX,P];rfl
 have hH:=h.hH
 have J:=Q.ok.len
 have aT:=(Yi (c:=c) (cp zo).2.2)
 have aP:=h.hS.n4
 have C:=i5 W
 have ho:=ad2 (L:=L) N h6
 have p:d.Y.O=0->d.B<=4->Lk a' d/\io L a'=io L a/\L'=L:=λq1 U=>by
  have aL:d.ao=false:=by grind
  rw[Mj q1 aL]at A
  have D:Lk a' d:=⟨jQ am (by rw[A];exact h6) q1,U⟩
  grind[ad2]
 have V:∀{c0:ct} {e b:Int},Stp c0 d e b->e=4\/e=5->c0.was=c.was->d.ao=false->(∃b' r' cm,Yc a' e b' r' cm/\(e=5->b'=b)/\r'<=c.was.length)/\L'=L:=λ{c0 e b} q1 U q3 q4=>by
  refine⟨?_,hL (by rw[q4,W])⟩
  have:=afj q1 U h6 A q4
  grind
 have M:∀{c0:ct} {e b:Int},Stp c0 d e b->e=4\/e=5->d.ao=false:=λ{c0 e b} q1 U=>by
  cases q:d.ao with
  |false=>rfl
  |true =>
   have:=aN.1 q
   rcases q1.aG with⟨T,w2,_⟩|⟨T,_⟩<;>omega
 have aE:∀{c0:ct},c0.cells=c.cells->c0.F=c.F->c0.Y=c.Y->d={ c0 with ao:=true,K:=0,B:=5 }->x'.mem.l=x.mem.l->x'.mem.s=x.mem.s->Dn x x' L L' i t:=λ{c0} q1 U q3 q4 q5 q6=>by
  have aI:d.Y.O=0:=by grind
  obtain⟨s,es⟩:=Ky (ρ:=ρ) (a:=a) aI
  rw[es]at A
  have aH:d.B=5:=by rw[q4]
  have w5:Y8 a' d:=⟨jQ am (by rw[A];exact h6) aI,.inl aH⟩
  have aJ:c.cells.length<=96:=by rw[i3];exact h.hA.cj.cells.2.2
  have:=J.a6
  refine DU (adf (L:=L) (L':=L') g q5 q6 N w5 ?_ m λj u _ hj hu=>(h.dz j u hj hu).2)
  rw[ah9 aH,q4]
  grind
 cases aK with
 |held s s1 s2 hh hm hh2 =>
  have aB:=ael Q h.hi h.dE aC E (by rcases s1 with q|q;exact .inl q;exact .inr ⟨q,cz q⟩) s2 hh
  have f:nU x.mem c=0:=acj zo zo
  obtain⟨k,q1,U,q3,q4⟩:=hH s hh
  have aR:c.me=i:=Q.me
  by_cases aD:(fV x.mem s).ar > c.me
  ·have e:=hh2.e5 aD
   obtain⟨D,H,r⟩:=p (by rw[e];exact E) (by rw[e];exact af)
   rw[r]
   refine Xj g hm N D (by rw[e];omega) m H (by rw[e,f];exact LF.1) λw _=>?_
   grind
  ·rcases hh2.es aD with⟨T,w2,w3,_⟩|w
   ·have y:d.B=c.B:=by grind
    obtain⟨D,H,r⟩:=p T zo
    have e1:d.F=c.F:=by grind
    have e2:d.was=c.was:=by grind
    have e3:d.ab=c.ab:=by grind
    have e4:d.K=c.K:=by grind
    have hr:rC d=rC c-1:=by grind[MK,abL]
    rw[r]
    exact DU (aej (L:=L) (δ:=-1) g hm N D zo zo m H (by rw[f];exact LF.1)).1
   ·obtain⟨⟨b',r',cm,x7,xb,xr⟩,r⟩:=V w (.inr rfl) rfl (M w (.inr rfl))
    rw[xb rfl,q1]at x7
    rw[r]
    refine DU (agB (L:=L) (j:=k) g hm N x7 ?_ m f zo q3 q4)
    rcases s1 with q|q
    ·rw[MK zo]
     have:=((Q.ok.ba E).1 (.inl q)).1
     omega
    ·rw[abL q]
     have:=(Q.ok.ba E).2.2.1 q
     omega
 |look s0 hh hm e =>
  have y:d.B=1:=by rw[e]
  obtain⟨D,H,r⟩:=p (by rw[e];exact E) zo
  have f:nU x.mem c=0:=acj zo zo
  have aM:nU x'.mem d=1:=by
   unfold nU fV
   rw[zp y,hm.l,e]
   grind
  have hr:rC d=rC c:=by
   rw[MK zo,MK zo,e];rfl
  rw[r]
  exact Xj g hm N D zo m H zo λ_ _=>by omega
 |take s1 hl hml hmn hms e =>
  have hw:=((Q.ok.ba E).1 (.inr s1)).1
  have y:d.B=0\/d.B=2:=by grind[kA]
  have Z:d.Y=c.Y:=by rw[e];rfl
  obtain⟨D,H,r⟩:=p (by rw[Z];exact E) zo
  have e1:d.F=c.F:=by rw[e];rfl
  have e2:d.was=c.was++[c.ac]:=by rw[e];rfl
  have e3:d.ab=c.ab:=by rw[e];rfl
  have hr:rC d=rC c-4:=by
   rw[MK (c:=c) zo]
   by_cases q:d.B=0
   ·rw[MK zo,e1,e2,e3,aeo Z];simp;omega
   ·have U:d.B=2:=by omega
    rw[Np (.inl U),e1,e3,aeo Z]
    have:c.was.length+1=c.F.length:=by
     rw[e]at U
     unfold kA at U
     simp only[LE,gg]at U
     grind
    omega
  rw[r]
  have:=ZW (L:=L) (α:=2) (δ:=-4) g hms N D zo zo m H zo λj _ hj=>(g.mv.o hms hj).2.1
  grind[DU]
 |miss s1 hl hm e =>
  have y:d.B=0:=by rw[e]
  obtain⟨D,H,r⟩:=p (by rw[e];exact E) zo
  have f:nU x.mem c=0:=by grind[nU]
  have hr:rC d=rC c:=by rw[MK zo,MK zo,e];rfl
  rw[r]
  refine Xj g hm N D zo m H (by rw[f];exact LF.1) λ_ w=>?_
  grind
 |full s2 hm w =>
  obtain⟨⟨b',r',cm,x7,_,xr⟩,r⟩:=V w (.inl rfl) rfl (M w (.inl rfl))
  rw[r]
  have:=agr (L:=L) g hm N x7 (by rw[Np (.inl s2)];have:=J.was;omega) m (acj zo zo)
  grind[DU]
 |ask s2 hm e =>
  have y:d.B=3:=by rw[e]
  obtain⟨D,H,r⟩:=p (by rw[e];exact E) zo
  have f:nU x.mem c=0:=acj zo zo
  have aM:nU x'.mem d=1:=by
   unfold nU
   rw[zn,zp y,hm.n,e]
   simp[oz]
  have hr:rC d=rC c:=by rw[Np (.inr y),Np (.inl s2),e];rfl
  rw[r]
  exact Xj g hm N D zo m H zo λ_ _=>by omega
 |raise s3 hn hml hmn hms hp =>
  have aS:=((Q.ok.ba E).2.1 (.inr s3)).2
  cases hp with
  |on k T w2 _ e =>
   have y:d.B=4:=by rw[e]
   obtain⟨D,H,r⟩:=p (by rw[e];exact E) zo
   have hr:rC d<=rC c-2:=by rw[Np (.inr s3),abL y,e];show(c.ab.length:Int)-k+c.F.length+WD c<=_;omega
   rw[r]
   have aA:∀j,j<4->j≠i->(av x' L j).cf<=(av x L j).cf+0:=λj _ hj=>by
    unfold av
    rw[g.mv.ot j hj]
    cases x.ad[j]? with
    |none=>show(0:Int)<=0+0;decide
    |some u =>
     have q:cT true x'.mem L u=cT true x.mem L u:=Ju hml
     show cT true x'.mem L u<=cT true x.mem L u+0
     rw[q];omega
   have:=ZW (L:=L) (α:=0) (δ:=-2) g hms N D zo zo m H zo aA
   grind[DU]
  |wr _ e=>exact aE rfl rfl rfl e hml hms
  |bad z k T w2 w3 w4 w =>
   obtain⟨⟨b',r',cm,x7,_,xr⟩,r⟩:=V w (.inr rfl) rfl (M w (.inr rfl))
   have v:=Zj Q h.hi h.dE aC E W af h.fw T w2 w3 w4
   rw[C]at v
   rw[r]
   have g2:K6 { x with mem:={ x.mem with n:=x'.mem.n } } x' i t t' a a':=⟨⟨g.mv.aG,g.mv.bq,g.mv.ot⟩,g.i4,g.st,g.aj,g.cB,g.bW,g.base⟩
   have f:nU { x.mem with n:=x'.mem.n } c=0:=by
    unfold nU
    rw[zn,zp s3]
    grind
   have:=TN (L:=L) g2 ⟨hml,rfl,hms⟩ N x7 (by rw[Np (.inr s3)];have:=J.was;omega) m f (by rw[ho];exact v)
   have hq:jq (av { x with mem:={ x.mem with n:=x'.mem.n } } L)<=jq (av x L)+1:=aiT (x:={ x with mem:={ x.mem with n:=x'.mem.n } }) (L:=L) (k:=x.mem.n)
   grind[jq,av,mem,DU]
 |late s3 hn hm e =>
  have y:d.B=2:=by rw[e]
  obtain⟨D,H,r⟩:=p (by rw[e];exact E) zo
  have f:nU x.mem c=0:=by grind[nU]
  have hr:rC d=rC c:=by rw[Np (.inl y),Np (.inr s3),e];rfl
  rw[r]
  refine Xj g hm N D zo m H (by rw[f];exact LF.1) λ_ w=>?_
  grind
 |prove s4 hm hp =>
  have f:nU x.mem c=0:=acj zo zo
  cases hp with
  |on k T w2 _ e =>
   have T:c.K+1<=k:=T
   have y:d.B=4:=by rw[e]
   obtain⟨D,H,r⟩:=p (by rw[e];exact E) zo
   have hr:rC d<=rC c-1:=by rw[abL s4,abL y,e];show(c.ab.length:Int)-k+c.F.length+WD c<=_;omega
   rw[r]
   exact DU (aej (L:=L) (δ:=-1) g hm N D zo zo m H (by rw[f];exact LF.1)).1
  |wr _ e=>exact aE (c0:={ c with K:=c.K+1 }) rfl rfl rfl e hm.l hm.s
  |bad z k T w2 w3 w4 w =>
   obtain⟨⟨b',r',cm,x7,_,xr⟩,r⟩:=V w (.inr rfl) rfl (M w (.inr rfl))
   have v:=Zj Q h.hi h.dE aC E W af h.fw T w2 w3 w4
   rw[C]at v
   rw[r]
   have:=TN (L:=L) g hm N x7 (by rw[abL s4];have:=J.was;have:=((Q.ok.ba E).2.2.1 s4).2;omega) m f (by rw[ho];exact v)
   grind[DU]
 |bad s4 aB hm w =>
  have f:nU x.mem c=0:=acj zo zo
  obtain⟨⟨b',r',cm,x7,_,xr⟩,r⟩:=V w (.inr rfl) rfl (M w (.inr rfl))
  have aF:=((Q.ok.ba E).2.2.1 s4).2
  have hz:c.ab.getD c.K ⟨0,0⟩=c.ab[c.K]:=by rw[ge,dg aF];rfl
  rw[hz]at aB
  have v:=Up (X:=X) h.fw (Q.bB W _ (zae aF)) Q.I.1 aB
  rw[C]at v
  rw[r]
  have:=TN (L:=L) g hm N x7 (by rw[abL s4];have:=J.was;omega) m f (by rw[ho];exact v)
  grind[DU]
 |store s5=>omega
 |give s6=>omega
 |leave s7=>omega
def nV.ne (h:nV str h0 n G nl nw i ks c):c.F≠[]:=λe=>by
 cases hc:c.cells with
 |nil=>exact h.bX hc
 |cons y l =>
  have:=h.bO y (by rw[hc];simp)
  rw[e]at this;cases this
theorem agE (h:St6 S h0 n x x' L L' X i t t' a a' al ρ)(h6:a.B=6)(aD:∀c,ft a=some c->5<=c.B):Dn x x' L L' i t:=by
 obtain⟨c,c',d,p,R,b,k,aC,H,ac,v⟩:=h.out h6
 have aB:=aD c d
 have z:=(jO d).2.2
 have U:X i=jX c:=by rw[h.hX,v];rfl
 have M:=p.ok.len
 have am:=p.ne
 have aA:1<=c.F.length:=by grind
 cases R with
 |held s s1=>omega
 |look s0=>omega
 |take s1=>omega
 |miss s1=>omega
 |full s1=>omega
 |ask s1=>omega
 |raise s1=>omega
 |late s1=>omega
 |prove s1=>omega
 |bad s1=>omega
 |store s5 hm e =>
  have g:=h.g1 λq o=>by rw[d]at o;cases o;omega
  have P:c.ao=true:=p.wr.2 (.inr ⟨z,.inl s5⟩)
  have N:Y8 a c:=⟨d,.inl s5⟩
  have hp:=(p.ok.ba z).2.2.2.1 s5
  have o:c'.Y.O=0/\c'.ao=true/\((c'.B=5/\wC c'=wC c-1)\/(c'.B=6/\wC c'=wC c-1)):=by
   rw[e]
   unfold jI
   split
   ·rename_i q
    have q:c.K+1=c.cells.length:=q
    unfold kf
    grind[ahz,ah9]
   all_goals grind[ah9]
  obtain⟨q1,q2,q3⟩:=o
  obtain⟨s,es⟩:=Ky (ρ:=ρ) (a:=a) q1
  rw[es]at b
  have r:Y8 a' c':=⟨jQ k (by rw[b];exact h6) q1,by rcases q3 with q|q;exact .inl q.1;exact .inr q.1⟩
  rw[H (by rw[q2,P])]
  exact DU (acS (L:=L) g hm N r (by rcases q3 with q|q<;>omega))
 |give s6 hml hmn hms e =>
  have g:=h.g2 λq o=>by rw[d]at o;cases o;exact s6
  have P:c.ao=true:=p.wr.2 (.inr ⟨z,.inr s6⟩)
  have N:Y8 a c:=⟨d,.inr s6⟩
  have hp:=(p.ok.ba z).2.2.2.2.1 s6
  have E:∀j u,j≠i->x.ad[j]? = some u->TV u:=λj u hj I=>(h.dz j u hj I).2
  unfold kf at e
  split at e
  ·rename_i q
   have q:c.K+1=c.F.length:=q
   have C:c'.Y.O=2:=by rw[e];rfl
   obtain⟨y,Z,W,y3,y4,y5⟩:=KW (ρ:=ρ) (a:=a) (c':=c') (.inr (.inr C))
   rw[Z]at b
   rw[H (by rw[e])]
   exact DU (afL (L:=L) g hms N ⟨by rw[b];exact W⟩ (by rw[b,y3,C]) (by rw[ahz s6];omega) E)
  ·rename_i q
   have f:c'.Y.O=0:=by grind
   obtain⟨s,es⟩:=Ky (ρ:=ρ) (a:=a) f
   rw[es]at b
   have V:c'.B=6:=by grind
   have r:Y8 a' c':=⟨jQ k (by rw[b];exact h6) f,.inr V⟩
   rw[H (by rw[e])]
   refine DU (af3 (L:=L) g hms N r ?_ E)
   grind[ahz]
 |leave s7 hml hmn hms e =>
  have g:=h.g1 λq o=>by rw[d]at o;cases o;omega
  have P:c.ao=false:=by
   cases q:c.ao with
   |false=>rfl
   |true=>have:=p.wr.1 q;omega
  have hh:=(p.ok.ba z).2.2.2.2.2 s7
  have m:=p.dF z s7
  have J:sU x.mem x'.mem:=λs=>by
   have h1:=JT M hh.1
   have hm:((c.F.getD c.K 0).toNat,(c.was.getD c.K aa).D)∈(X i).hd:=by
    rw[U];unfold jX Ik;rw[zp z]
    simp only[s7,or_true,if_true]
    refine Ok (i:=0) ?_
    grind
   have h2:=h.hi.own i h.dE _ _ hm
   have h2:x.mem.l.getD (c.F.getD c.K 0).toNat aa=⟨(c.was.getD c.K aa).D,true,i⟩:=h2
   unfold fV
   by_cases q:s.toNat=(c.F.getD c.K 0).toNat
   all_goals grind
  have x7:=UO d s7 rfl
  unfold jC at e
  split at e
  ·rename_i q
   have q:c.K+1=c.was.length:=q
   have e2:c'.Y.O=c.O:=by rw[e];rfl
   have e3:c'.Y.aY=c.aY:=by rw[e];rfl
   obtain⟨y,Z,W,y3,y4,y5⟩:=KW (ρ:=ρ) (a:=a) (c':=c') zo
   rw[Z]at b
   rw[H (by rw[e])]
   rw[b]at g
   refine DU (W0 (L:=L) g J hmn hms x7 (aaf W (by rw[y3,e2]) m) m (λw=>by rw[y4 zo,e3]) ?_ λj u hj I=>(h.dz j u hj I).1)
   omega
  ·rename_i q
   have f:c'.Y.O=0:=by grind
   have A:c'.ao=false:=by grind
   rw[Mj f A]at b
   have T:c'.B=7:=by grind
   have Q:ft a'=some c':=jQ k (by rw[b];exact h6) f
   have af:=UO Q T (show c'.O=c.O by rw[e])
   rw[H (by rw[A,P])]
   refine DU (W0 (L:=L) g J hmn hms x7 af m (λw=>by rw[e]) ?_ λj u hj I=>(h.dz j u hj I).1)
   grind
theorem Yq (h:St6 S h0 n x x' L L' X i t t' a a' al ρ)(b:a.B=6):Dn x x' L L' i t:=by grind[afp,agE]
end
section
variable {S:cv}{h0:Hp}{n i j nl nw nl' nw':Nat}{m m':eO}{G G':Gs}{X:Nat->Hx}{L L':jZ}{x x':eU}{t t' u y:bm}{a a' a0:az}{c c':ct}{f f':fe}{e b:Int}{b' b1 b2 f1 f2 n1 n2 δ ε r r':Int}{fine cm al:Bool}{ρ:qI}{an:ii}{str:Int->Nat}{ks:List ay}{pick:Int}{sl:ByteArray}
def OC:(lu y={ y with aK:=jb y }/\((jb y).length:Int)<y.s.aB)\/∃z,lu y=cw z/\jP z<=2*tu y-1/\z.aw=y.aw:=by
 unfold lu
 grind
def aic (e:i<4)(aH:(i:Int)<S.aB)(aN:S.aB<=4)(f:Mv x x' i t t')(r:Sl x.mem x'.mem i)(J:t.B=1)(K:t.aj=some a)(T:a.B=7)(hA:jJ S h0 n G nl nw i a)(hv:Dk n G i t.bD a)(aJ:t.s=S)(aO:t.me=i)(aL:0<=t.aI/\t.aI<t.aw.length)
  (aG:t.bD=true->a.O=3->jD L a.I=true) (h:∀j u,j≠i->x.ad[j]? = some u->TV u)
  (c:t'=i7 { t with aj:=some { a with B:=8 },aP:=b } { a with B:=8 } 0 pick sl):jq (av x' L)<=jq (av x L)+sT (av x L) i (-1):=by
 have aF:AA=879:=rfl
 have X:A0=871:=rfl
 have C:AZ a:=⟨T⟩
 have R:=(hA.out zo).1
 have Y:t.aI.toNat<t.aw.length:=by omega
 have D:(t.aw[t.aI.toNat]?).isSome=true:=by grind
 have V:sT (av x L) i (-1)≥-1:=by grind
 have d:jP t=if t.aE=true then 2*tu t-1 else 2*tu t:=rfl
 have ac:1<=tu t:=by grind
 unfold i7 at c
 by_cases H:a.O=5
 ·rw[zp (by exact H)]at c
  obtain⟨p,v⟩:=ad8 (m:=x.mem) (L:=L) J K C H
  split at c
  ·rename_i q
   have U:t'.B=2:=by rw[c]
   have hb:jP t'=jP t:=by rw[c]
   refine F2 e f r p (FZ U) zo zo zo zo λk hk w=>?_
   rw[v]at w
   grind[Fo]
  ·rename_i q
   have hp:∀z:bm,lN z 0=cw { z with aS:=0,B:=3 }:=λz=>by
    show(if nK z.a7 0=0 then _ else _)=_
    rw[zp (by show Int.tmod 0 _=0;simp)]
   rw[hp]at c
   rw[c]at f
   refine sZ e f r p (Int.le_of_eq rfl) (by rw[d];split<;>omega) zo zo zo (λk hk=>?_) h
   grind
 rw[zn (by exact H)]at c
 by_cases o:a.O=3
 ·rw[zp (by exact o)]at c
  obtain⟨N,A⟩:=hv.b3 T o
  have P:∀l,gw l x.mem L a=1:=λl=>ahb T A
  obtain⟨W,z2⟩:=Oc C o
  have M:io L a=jD L a.I:=by unfold io nj;rw[W,z2,decide_eq_true zo];simp
  split at c
  ·rename_i q
   rw[c]at f
   have:=abm (L:=L) e f r J K C o P (by rw[M];exact aG q o) D rfl
   omega
  ·have:=acZ (L:=L) (a':={ a with B:=8 }) e f r J K C o P M (by rw[c]) (by rw[c]) rfl (by rw[c]) h
   omega
 rw[zn (by exact o)]at c
 obtain⟨p,v⟩:=agk (m:=x.mem) (L:=L) J K C zo
 by_cases g:t.aE=true
 ·rw[zp (by exact g)]at c
  rw[zp g]at d
  have:∃z,t'=cw z/\jP z=2*(tu t-1):=by grind
  obtain⟨z,F,e2⟩:=this
  rw[F]at f
  exact sZ e f r p zo zo zo zo zo (λk _=>v k) h
 ·rw[zn (by exact g)]at c
  rw[zn g]at d
  unfold yX at c
  split at c
  ·have:∃z,t'=cw z/\jP z=2*(tu t-1):=by grind
   obtain⟨z,F,e2⟩:=this
   rw[F]at f
   exact sZ e f r p zo zo zo zo zo (λk _=>v k) h
  ·generalize Q:({ t with aj:=some { a with B:=8 },aP:=b,aA:=_,aM:=_,aX:=_,aC:=_,B:=5,aK:=[] }:bm)=y at c
   have al:tu y=tu t:=by rw[<-Q]
   have af:y.s=S:=by grind
   have aD:y.B=5:=by rw[<-Q]
   rcases OC (y:=y)with⟨E,w2⟩|⟨z,E,w2,_⟩
   ·rw[E]at c
    have h5:t'.B=5:=by grind
    have Z:t'.s=S:=by grind
    have am:tu t'=tu t:=by grind
    refine F2 e f r p (Qg h5) zo zo ?_ zo (λk _ w=>by rw[v]at w;cases w)
    grind
   ·rw[E]at c
    rw[c]at f
    exact sZ e f r p zo zo zo zo zo (λk _=>v k) h
def aaU (e:i<4)(h:Mv x x' i t t')(r:Sl x.mem x'.mem i)(q:t.B=5)(C:(t.aK.length:Int)<t.s.aB)(D:t.aI<t.aw.length)(p:∀j u,j≠i->x.ad[j]? = some u->TV u)(a:t'=tC t b):jq (av x' L)<=jq (av x L)+sT (av x L) i (-1):=by
 have o:AA=879:=rfl
 have l:A0=871:=rfl
 have f:=Qg (m:=x.mem) (L:=L) q
 have g:=(ZV (m:=x.mem) (L:=L) q).2.2.2.2.2
 unfold tC at a
 have n:1<=tu t:=by grind
 rcases OC (y:={ t with aK:=t.aK++[b] })with⟨w1,c⟩|⟨z,w1,c,_⟩
 ·rw[w1]at a
  have d:t'.B=5:=by grind
  have hj:tu t'=tu t:=by rw[a]
  have A:t'.s=t.s:=by rw[a]
  have v:(t.aK.length:Int)+1<=t'.aK.length:=by grind
  refine F2 e h r f (Qg d) zo zo ?_ zo (λk _ w=>by rw[g]at w;cases w)
  grind
 ·rw[w1]at a
  rw[a]at h
  have c:jP z<=2*tu t-1:=c
  exact sZ e h r f c zo zo zo zo (λk _=>g k) p
def Ys (c:i<4)(g:Mv x x' i t t')(r:Sl x.mem x'.mem i)(f:t.B=3)(v:1<=t.aS)(s:t.aI<t.aw.length)(q:∀j u,j≠i->x.ad[j]? = some u->TV u)(a:t'=gK t):jq (av x' L)<=jq (av x L)+sT (av x L) i (-1):=by
 have p:AA=879:=rfl
 have l:A0=871:=rfl
 have d:=R7 (m:=x.mem) (L:=L) f
 have e:=(VM (m:=x.mem) (L:=L) f).2.2.2.2.2
 have n:1<=tu t:=by grind
 unfold gK at a
 rw[zp f]at a
 split at a
 ·rw[a]at g
  have o:jP { t with aS:=0 }=jP t:=rfl
  exact sZ c g r d zo (by unfold jP;split<;>omega) zo zo zo (λk _=>e k) q
 ·have b:t'.B=3:=by grind
  have o:jP t'=jP t:=by rw[a]
  have h:t'.aS=t.aS-1:=by rw[a]
  exact F2 c g r d (R7 b) zo zo zo zo λk _ w=>by rw[e]at w;cases w
end
section
variable {S:cv}{h0:Hp}{n i j nl nw nl' nw':Nat}{m m':eO}{G G':Gs}{X:Nat->Hx}{L L':jZ}{x x':eU}{t t' u y:bm}{a a' a0:az}{c c':ct}{f f':fe}{e b w:Int}{b' b1 b2 f1 f2 n1 n2 δ ε r r':Int}{fine cm al:Bool}{ρ:qI}{an:ii}{str:Int->Nat}{ks:List ay}{pick:Int}{sl:ByteArray}
def ajX (h:(fv m L t).lv=false):t.B=4\/t.B=6:=by
 have h:(!decide (t.B=4)&&!decide (t.B=6))=false:=h
 grind
def X0 (F:i<4)(f:Mv x x' i t t')(M:SM x.mem x'.mem)(H:t.B=2)(al:0<=t.aY/\t.aY<i)(am:∀k,k<4->(av x L k).cm=true->x.mem.s.getD k 0≠0)(ac:∀(k:Nat)(u:bm),x.ad[k]? = some u->u.B≠1->x.mem.s.getD k 0=0)(af:t.aI<t.aw.length)(X:∀j u,j≠i->x.ad[j]? = some u->TV u)
  (Y:an.aV=0/\an.word=x.mem.s.getD t.aY.toNat 0) (r:t'=pC t an 0):jq (av x' L)<=jq (av x L)/\(tm (av x L)=i->JZ (av x L) i=false->jq (av x' L)<=jq (av x L)-1):=by
 have W:AA=879:=rfl
 have N:A0=871:=rfl
 have Q:1<=tu t:=by grind
 have O:=FZ (m:=x.mem) (L:=L) H
 have K:=(Fo (m:=x.mem) (L:=L) H).2.2.2.2.2
 unfold pC at r
 split at r
 ·rename_i q
  obtain⟨q1,q2,q3⟩:=q
  have p:t'.B=2:=by grind
  have hb:jP t'=jP t:=by rw[r]
  have:=F2 (L:=L) (δ:=0) F f (M.sl i) O (FZ p) zo zo zo zo λk E v=>by
   rw[K]at v
   rw[(Fo p).2.2.2.2.2,r]
   simp only[GE,decide_eq_true_eq]at v ⊢
   refine⟨v.1,?_⟩
   have:t.aY.toNat=k:=by grind
   simp only[zbj,zba,decide_eq_true_eq]
   rw[M.s,Y.2,this]
  have h0:sT (av x L) i 0=0:=by grind
  refine⟨zo,λg _=>?_⟩
  exfalso
  have C:=(Nm.1 f.aG).1
  have E:t.aY.toNat<i:=by omega
  have D:x.ad[t.aY.toNat]? = some x.ad[t.aY.toNat]:=dg zo
  have o:(av x L t.aY.toNat).lv=false:=by
   cases v:(av x L t.aY.toNat).lv with
   |false=>rfl
   |true=>have:=pK v zo;omega
  rw[bo D]at o
  have:=ajX o
  grind
 ·rename_i q
  have S:∀z:bm,lN z 0=cw { z with aS:=0,B:=3 }:=λz=>by
   show(if nK z.a7 0=0 then _ else _)=_
   rw[zp (by show Int.tmod 0 _=0;simp)]
  rw[S]at r
  have C:=(Nm.1 f.aG).1
  generalize l:({ x with ad:=x.ad.set i { t with aY:=-1 } }:eU)=x1
  have d:x1.mem=x.mem:=by rw[<-l]
  have b:x1.ad[i]? = some { t with aY:=-1 }:=by grind
  have a:∀j,j≠i->x1.ad[j]? = x.ad[j]?:=λj hj=>by rw[<-l];exact zai (zbr hj)
  have c:∀j,∃e,av x1 L j={ av x L j with ex:=e }:=λj=>by
   by_cases g:j=i
   ·subst g
    refine⟨Gc x.mem { t with aY:=-1 },?_⟩
    rw[bo b,bo f.aG,d];rfl
   ·refine⟨(av x L j).ex,?_⟩
    unfold av
    rw[a j g,d]
  have J:jq (av x1 L)<=jq (av x L):=afn c λk j E P Z I=>by
   by_cases g:k=i
   ·subst g
    exfalso
    rw[bo f.aG,K]at I
    simp only[GE,decide_eq_true_eq,zaw,zaH]at I
    have hj:t.aY.toNat=j:=by omega
    grind
   ·have:av x1 L k=av x L k:=by
     unfold av
     grind
    grind
  have n:Mv x1 x' i { t with aY:=-1 } t':=⟨b,f.bq,λj hj=>by rw[f.ot j hj,a j hj]⟩
  have A:=FZ (m:=x1.mem) (L:=L) (t:={ t with aY:=-1 }) H
  rw[r]at n
  have:=sZ (L:=L) (δ:=-1) F n (by rw[d];exact M.sl i) A (Int.le_of_eq rfl) (by show 0<=jP t;unfold jP;split<;>omega) zo zo zo (λk E=>by
   rw[(Fo (t:={ t with aY:=-1 }) H).2.2.2.2.2]
   rw[decide_eq_false (by simp only;omega)];rfl) (λj u hj D=>X j u hj (by rw[<-a j hj];exact D))
  have w:tm (av x1 L)=tm (av x L):=Ou λj _=>by obtain⟨e,h⟩:=c j;rw[h]
  have y:JZ (av x1 L) i=JZ (av x L) i:=OY λj _ _=>by obtain⟨e,h⟩:=c j;rw[h]
  have R:sT (av x1 L) i (-1)=sT (av x L) i (-1):=by unfold sT;rw[w,y]
  rw[R]at this
  have T:sT (av x L) i (-1)<=0:=by unfold sT;split<;>omega
  refine⟨zo,λV U=>?_⟩
  have:sT (av x L) i (-1)=-1:=by unfold sT;rw[zp ⟨V,U⟩]
  omega
end
section
variable {S:cv}{h0:Hp}{n i j nl nw nl' nw':Nat}{m m':eO}{G G':Gs}{X:Nat->Hx}{L L':jZ}{x x':eU}{t t' u y:bm}{a a' a0:az}{c c':ct}{f f':fe}{e':mj}{e b w:Int}{b' b1 b2 f1 f2 n1 n2 δ ε r r':Int}{fine cm al:Bool}{ρ:qI}{an:ii}{str:Int->Nat}{ks:List ay}{pick:Int}{sl:ByteArray}
def vM (hb:a.aO=false)(h5:a.B≠5)(h3:a.B=7->a.O≠3)(rdk:a.B<=6->a.rd.length<=a.v.k.length)(fpt:∀f,a.B=3->a.Z=.fetch f->Vd f.Y a.me)(ept:∀e,a.B=4->a.Z=.ext e->Vd e.Y a.me)
  (cpt:∀c,ft a=some c->(c.B≠7->Vd c.Y c.me)/\(c.B=4->tU c.F (c.ab.getD c.K ⟨0,0⟩).N=none)) (by5:kQ a=true->Yy a<i):Dk n G i false a :=
 ⟨rdk,fpt,λe g he=>(by rcases g with g|g;exact ept e g he;exact absurd g h5),cpt,λg g2=>absurd g2 (h3 g),λg=>absurd g h5,λg=>(by rw[hb]at g;cases g),by5,λ_ g=>(by rw[hb]at g;cases g),λg=>(by cases g)⟩
def Dk.nb (h:Dk n G i al a)(d:a.B≠5)(c:a.B≠7):a.aO=false/\al=false:=by
 have b:a.aO=false:=by
  cases q:a.aO with
  |false=>rfl
  |true=>rcases h.b0 q with g|g<;>contradiction
 refine⟨b,?_⟩
 cases q:al with
 |false=>rfl
 |true=>have:=(h.eS q).1;rw[b]at this;cases this
def nL (h:a.B≠6):∀c,ft a=some c->(c.B≠7->Vd c.Y c.me)/\(c.B=4->tU c.F (c.ab.getD c.K ⟨0,0⟩).N=none):=λc hc=>by rw[j5 h]at hc;cases hc
def BV (h:a.B<=5):kQ a=true->Yy a<i:=λg=>by rw[(pn h).dX]at g;cases g
def AH {me sp:Int}:Vd (rj me sp) me:=by
 have:=jp (n:=sp) (show(0:Int)<=4 by decide)
 exact⟨rfl,this.1,this.2⟩
def WK (d:GoO a0 a')(hb:a0.aO=false)(x:a0.rd.length<=a0.v.k.length):Dk n G i false a':=by
 have b:a'.rd.length<=a'.v.k.length:=by rw[d.rd,d.k];exact x
 rcases d.to with⟨C,p,h⟩|⟨r,h⟩|⟨A,y,s,h⟩|⟨z,m⟩
 ·have a:a'.aO=false:=by rcases d.bl with q|q;omega;rw[q.2,hb]
  refine vM a zo (λg=>by omega) (λ_=>b) (λf _ m=>?_) (λe g=>by omega) (nL zo) (BV zo)
  rw[h]at m
  cases m
  rw[d.me];exact AH
 ·have a:a'.aO=true:=by rcases d.bl with q|q;exact q.2;exact absurd r q.1
  refine⟨λ_=>b,λf g=>by omega,λe _ j=>?_,nL zo,λg=>by omega,λ_=>a,λ_=>.inl r,BV zo,λ_ _=>⟨λ_ e j u=>?_,λg=>by omega⟩,λg=>by cases g⟩
  ·rw[h]at j;cases j
   rw[d.me];exact AH
  ·rw[h]at j;cases j;cases u
 ·have a:a'.aO=false:=by rcases d.bl with q|q;omega;rw[q.2,hb]
  refine vM a zo (λg=>by omega) (λ_=>b) (λf g=>by omega) (λe g=>by omega) (λc o=>?_) λg=>?_
  ·have l:=(jO o).1
   rw[h]at l;cases l
   refine⟨λ_=>AH,λt=>?_⟩
   have t:(if([]:List ey).length=s.length then(2:Int)else 0)=4:=t
   grind
  ·exfalso
   have w:∀c,ft a'=some c->c.B≠7:=λc o=>by
    have l:=(jO o).1
    rw[h]at l;cases l
    show(if([]:List ey).length=s.length then(2:Int)else 0)≠7
    grind
   unfold kQ at g
   grind
 ·have a:a'.aO=false:=by rcases d.bl with q|q;omega;rw[q.2,hb]
  refine vM a zo (λ_=>by omega) (λg=>by omega) (λf g=>by omega) (λe g=>by omega) (nL zo) λg=>?_
  grind[kQ,j5]
def TT {E er b:Int}(a:E=4\/(E=5/\b<i))(hb:a0.aO=false):Dk n G i false (ip a0 E er b):=by
 refine vM hb zs (λ_=>by show E≠3;omega) (λg=>by(have g:(7:Int)<=6:=g);omega) (λf g=>by cases g) (λe g=>by cases g) (nL zs) λg=>?_
 grind[kQ,j5,Yy]
def ai0 (m:jJ S h0 n G nl nw i a)(l:Dk n G i al a)(o:a.B=0\/a.B=1):Dk n G' i al (ah ρ a an):=by
 obtain⟨d,b⟩:=l.nb zo zo
 rw[b]
 obtain⟨j,h,c⟩:=m.ck zo
 unfold ah
 rw[zn]
 split
 ·exact vM d zs (λg=>by(have g:(1:Int)=7:=g);omega) (λ_=>by show a.rd.length<=a.v.k.length;rw[c];simp) (λf g=>by cases g) (λe g=>by cases g) (nL zs) (BV zs)
 ·rw[zp]
  exact vM d zs (λg=>by(have g:(2:Int)=7:=g);omega) (λ_=>by show a.rd.length<=a.v.k.length;rw[c];simp) (λf g=>by cases g) (λe g=>by cases g) (nL zs) (BV zs)
def ajJ (k:da ρ)(f:jJ S h0 n G nl nw i a)(j:Dk n G i al a)(l:a.B=2):Dk n G' i al (ah ρ a an):=by
 obtain⟨e,b⟩:=j.nb zo zo
 rw[b]
 obtain⟨h,g,d⟩:=f.ck zo
 have c:ah ρ a an=iq ρ a:=by grind
 rw[c]
 exact WK (Kf k (f.run zo).1) e (by rw[d];simp)
theorem af5 {l:List jz}{z:jz}:(oF 16 l z).length<=l.length+1:=by
 unfold oF
 split
 all_goals grind
def aja (hρ:da ρ)(hS:ll S n m.l.length m.w.length)(E:jJ S h0 n (fi m L X) m.l.length m.w.length i a)(W:Dk n (fi m L X) i al a)(hH:∀s,(fV m s).held=true->(fV m s).ar≠i)(hs:a.B=3):Dk n G' i al (ah ρ a (ag m (ak a).1).2):=by
 obtain⟨j,P⟩:=W.nb (by omega) (by omega)
 rw[P]
 obtain⟨T,f,M,h⟩:=E.cx hs
 obtain⟨A,C,D⟩:=W.fz f hs M
 have b:=H6 T.1
 rw[E.cw,<-h.pl]at b
 obtain⟨F,aB⟩:=hS.cD (c:=f.J) ⟨by omega,by omega⟩
 have x:f.N=((ke S f.J:Nat):Int):=by rw[h.cD,F]
 have en:ak a=dt f:=by unfold ak;rw[if_neg (by omega),if_neg (by omega),if_neg (by omega),if_neg (by omega),if_neg (by omega),M]
 have et:∀q,ah ρ a q=bu ρ { a with Z:=.fetch (bp f q) }:=λq=>by unfold ah;rw[if_neg (by omega),if_neg (by omega),if_neg (by omega),if_neg (by omega),if_neg (by omega),M]
 rw[en,et]
 obtain⟨aD,t⟩:=SX (m:=m) (f:=f) h.O h.st (by rw[x];omega) b ⟨rfl,C,D⟩ (λg=>(h.ac g).1)
 generalize bp f (ag m (dt f).1).2=f' at t
 have aC:f.Y.me=i:=by rw[A,E.me]
 have z:=W.eI (by omega)
 have d:f'.Y.O=0->Vd f'.Y a.me->Dk n G' i false (bu ρ { a with Z:=.fetch f' }):=λaA o=>by
  have e:bu ρ { a with Z:=.fetch f' }={ a with Z:=.fetch f' }:=by grind
  rw[e]
  refine vM j (by show a.B≠5;omega) (λg=>by(have g:a.B=7:=g);omega) (λ_=>z) (λq _ I=>?_) (λq g=>by(have g:a.B=4:=g);omega) (nL (by show a.B≠6;omega)) (BV (by show a.B<=5;omega))
  grind
 cases t with
 |held h1 hh hw he =>
  have am:=hH _ hh
  by_cases Q:(fV m f.N).ar > f.Y.me
  ·have e:=hw Q
   exact d (by rw[e];exact h.O) (by rw[e];exact⟨A,C,D⟩)
  ·rcases he Q with⟨R,V,U⟩|⟨R,V⟩
   ·grind
   ·have e:bu ρ { a with Z:=.fetch f' }=ip { a with Z:=.fetch f' } 5 0 f'.Y.aY:=by grind
    rw[e]
    exact TT (.inr ⟨rfl,by omega⟩) j
 |younger h1 hh hy h6 =>
  have e:bu ρ { a with Z:=.fetch f' }=uI { a with Z:=.fetch f' } 4:=by
   unfold bu
   grind[nm,cq]
  rw[e]
  refine vM j (by simp) (λg=>by(have g:(4:Int)=7:=g);omega) (λ_=>z) (λq g=>by cases g) (λq _ I=>?_) (nL (by simp)) (BV (by simp))
  cases I;exact AH
 |look h1 hh hl e=>exact d (by rw[e];exact h.O) (by rw[e];exact⟨A,C,D⟩)
 |word w h1 e=>exact d (by rw[e];exact h.O) (by rw[e];exact⟨A,C,D⟩)
 |done h1 hl h2 R V =>
  have e:bu ρ { a with Z:=.fetch f' }=gZ (cq ρ { a with Z:=.fetch f' } f'):=by
   unfold bu
   rw[if_neg (by show ¬f'.Y.O=0;omega),if_neg (by show ¬f'.Y.O=5;omega)]
  rw[e]
  unfold cq
  rw[if_neg (by omega)]
  split
  ·rename_i gz
   obtain⟨k1,k2⟩:=T4 (y:=f'.word) T E.bZ
   have H:(ju { a with Z:=.fetch f' } f').v=⟨a.v.size,a.v.k++[⟨a.v.a9,f'.word⟩],a.v.l,a.v.a9⟩:=k1
   have u:=Kf (a:=ju { a with Z:=.fetch f' } f') hρ λr hr=>by
    rw[H];exact((E.run (by omega)).1 r hr).lv rfl
   have I:(iq ρ (ju { a with Z:=.fetch f' } f')).Z.wr=false:=by
    rcases u.to with⟨_,p,o⟩|⟨_,o⟩|⟨_,cs,ss,o⟩|⟨s7,af⟩
    ·rw[o]
    ·rw[o]
    ·rw[o];rfl
    ·unfold iq j0 at s7 ⊢
     have K:(iu ρ (ju { a with Z:=.fetch f' } f')).1.Z=.fetch f':=by unfold iu;split<;>rfl
     repeat' split
     all_goals first|rfl|(show(iu ρ (ju { a with Z:=.fetch f' } f')).1.Z.wr=false;rw[K])
   have U:gZ (iq ρ (ju { a with Z:=.fetch f' } f'))=iq ρ (ju { a with Z:=.fetch f' } f'):=by grind
   rw[U]
   refine WK u j ?_
   grind[af5,oF]
  ·split
   ·rw[nm rfl]
    exact TT (.inr ⟨rfl,by omega⟩) j
   ·rw[nm rfl]
    exact TT (.inl rfl) j
end
section
variable {S:cv}{h0:Hp}{n i j nl nw nl' nw':Nat}{m m':eO}{G G':Gs}{X:Nat->Hx}{L L':jZ}{x x':eU}{t t' u y:bm}{a a' a0:az}{c c':ct}{f f':fe}{e e':mj}{b w:Int}{b' b1 b2 f1 f2 n1 n2 δ ε r r':Int}{fine cm al:Bool}{ρ:qI}{an:ii}{str:Int->Nat}{ks:List ay}{pick:Int}{sl:ByteArray}
def ahw (hA:jJ S h0 n (fi m L X) m.l.length m.w.length i a)(d:Dk n (fi m L X) i al a)(hH:∀s,(fV m s).held=true->(fV m s).ar≠i)(am:∀s,(G'.lk s).D=(m.l.getD s aa).D)(hs:a.B=4\/a.B=5):Dk n G' i al (ah ρ a (ag m (ak a).1).2):=by
 obtain⟨hn,e,E,h⟩:=hA.ext hs
 obtain⟨J,Q,U⟩:=d.fD e hs E
 have en:ak a=gO e:=by unfold ak;rw[zn,zn,zn,zn,zn,E]
 have et:∀q,ah ρ a q=bu ρ { a with Z:=.ext (fa e q) }:=λq=>by unfold ah;rw[zn,zn,zn,zn,zn,E]
 rw[en,et]
 obtain⟨aF,y⟩:=Y2 (m:=m) (e:=e) h.O h.ok (λz f=>hA.rd.2 z (by rw[<-h.ab];exact f)) ⟨rfl,Q,U⟩
 generalize fa e (ag m (gO e).1).2=e' at y
 have aE:e.Y.me=i:=by rw[J,hA.me]
 have F:=d.eI zo
 have af:Dk n (fi m L X) i al a->True:=λ_=>trivial
 have b:al=true->a.aO=true/\∃z∈a.rd,z.D<(G'.lk z.N.toNat).D:=λg=>by
  obtain⟨q1,z,q2,q3⟩:=d.eS g
  exact⟨q1,z,q2,by rw[am];exact q3⟩
 have V:a.aO=true->a.B=5\/a.B=7:=d.b0
 have r:e'.Y.O=0->Vd e'.Y a.me->(al=false->a.B=5->e'.aL=true->∀j z,j<e'.K->e'.ab[j]? = some z->(m.l.getD z.N.toNat aa).D=z.D)->Dk n G' i al (bu ρ { a with Z:=.ext e' }):=λaC T M=>by
  have u:bu ρ { a with Z:=.ext e' }={ a with Z:=.ext e' }:=by grind
  rw[u]
  refine⟨λ_=>F,λq g=>(by(have g:a.B=3:=g);omega),λq _ R=>?_,nL (by show a.B≠6;omega),λg=>(by(have g:a.B=7:=g);omega),d.b5,V,BV (by show a.B<=5;omega),λha _=>⟨λg q R o j z hj f=>?_,λg=>by(have g:a.B=7:=g);omega⟩,b⟩
  all_goals grind
 have A:e'.Y.O=5->e'.Y.aY<i->Dk n G' i al (bu ρ { a with Z:=.ext e' }):=λaD aA=>by
  have u:bu ρ { a with Z:=.ext e' }=ip { a with Z:=.ext e' } 5 0 e'.Y.aY:=by grind
  rw[u]
  refine⟨λg=>(by(have g:(7:Int)<=6:=g);omega),λq g=>(by cases g),λq g=>(by(have g:(7:Int)=4\/(7:Int)=5:=g);omega),nL zs,λ_ g=>(by cases g),λg=>(by cases g),λ_=>.inr rfl,λ_=>?_,λ_ _=>⟨λg=>(by cases g),λ_ g=>by cases g⟩,b⟩
  grind[Yy,j5]
 have C:e'.Y.O=2->(al=false->a.B=5->∀z∈a.rd,(m.l.getD z.N.toNat aa).D=z.D)->Dk n G' i al (bu ρ { a with Z:=.ext e' }):=λaB M=>by
  by_cases h4:a.B=4
  ·obtain⟨hb,W⟩:=d.nb zo zo
   rw[W]
   have u:bu ρ { a with Z:=.ext e' }=rB { { a with Z:=.ext e' }with I:=e'.I } a.v.a9:=by grind
   rw[u]
   refine vM hb zs (λg=>by(have g:(3:Int)=7:=g);omega) (λ_=>F) (λq _ R=>?_) (λq g=>by cases g) (nL zs) (BV zs)
   cases R;exact AH
  ·have u:bu ρ { a with Z:=.ext e' }=ip { { a with Z:=.ext e' }with I:=e'.I } 3 0 (-1):=by grind
   rw[u]
   have h5:a.B=5:=by omega
   refine⟨λg=>(by(have g:(7:Int)<=6:=g);omega),λq g=>(by cases g),λq g=>(by(have g:(7:Int)=4\/(7:Int)=5:=g);omega),nL zs,λ_ _=>⟨d.b5 h5,e',rfl⟩,λg=>(by cases g),λ_=>.inr rfl,λg=>?_,λha _=>⟨λg=>(by cases g),λ_ _ z f=>?_⟩,b⟩
   all_goals grind[kQ,j5]
 have done:∀q:mj,q.Y=e.Y->q.aL=true->q.ab=e.ab->e'=mT q->(al=false->a.B=5->∀j z,j<q.K->e.ab[j]? = some z->(m.l.getD z.N.toNat aa).D=z.D)->Dk n G' i al (bu ρ { a with Z:=.ext e' }):=λq k1 k2 k3 H k5=>by
  unfold mT at H
  split at H
  ·rename_i T
   refine C (by rw[H];rfl) λx p z f=>?_
   rw[<-h.ab]at f
   obtain⟨j,hj,ez⟩:=zaU f
   exact k5 x p j z (by rw[T,k3];exact hj) (by rw[dg hj,ez])
  ·refine r (by rw[H,k1];exact h.O) (by rw[H,k1];exact⟨J,Q,U⟩) λx p _ j z hj f=>?_
   grind
 cases y with
 |load o k =>
  have ac:=h.K o
  grind
 |held o hh hw hel =>
  have P:=hH _ hh
  have t:al=false->a.B=5->e.aL=true->∀j z,j<e.K->e.ab[j]? = some z->(m.l.getD z.N.toNat aa).D=z.D:=λx p g3=>((d.a4 x (d.b5 p)).1 p e E g3)
  by_cases ho:(fV m (e.ab.getD e.K ⟨0,0⟩).N).ar > e.Y.me
  ·have k:=hw ho
   exact r (by rw[k];exact h.O) (by rw[k];exact⟨J,Q,U⟩) (by rw[k];exact t)
  all_goals grind
 |on o hvv k =>
  have T:=h.ok h.O o
  refine done { e with K:=e.K+1 } rfl o rfl k λx p j z hj f=>?_
  have hj:j<e.K+1:=hj
  by_cases c:j<e.K
  ·exact(d.a4 x (d.b5 p)).1 p e E o j z c f
  all_goals grind
 |bad o P k e2=>exact A k zo
theorem aeE (h:St6 S h0 n x x' L L' X i t t' a a' al ρ)(h6:a.B=6):Dk n G' i al a':=by
 obtain⟨c,c',D,T,Z,j,A,aJ,hL,aF,C⟩:=h.out h6
 obtain⟨hb,aB⟩:=h.hv.nb zo zo
 rw[aB]
 have U:=(jO D).2.2
 obtain⟨cp,cz⟩:=h.hv.ed c D
 have aA:=h.hv.eI zo
 have aD:X i=jX c:=by rw[h.hX,C];rfl
 have u:c.me=i:=T.me
 obtain⟨G2,aL,aP,aC⟩:=h.fd
 have aI:c'.me=i:=(aC.cy _ A).1.me
 have J:c.B=7->c.O=5->c.aY<i:=λg1 g2=>by
  have:=h.hv.fy (by unfold kQ;rw[D];simp only[g1,g2];rfl)
  grind[Yy]
 have o:c'.Y.O=0->(c'.B≠7->Vd c'.Y i)->(c'.B=4->tU c'.F (c'.ab.getD c'.K ⟨0,0⟩).N=none)->(c'.B=7->c'.O=5->c'.aY<i)->Dk n G' i false a':=λm v V q4=>by
  obtain⟨s,es⟩:=Ky (ρ:=ρ) (a:=a) m
  rw[es]at j
  have am:a'.B=6:=by grind
  have r:=jQ A am m
  refine vM (by rw[j];exact hb) zo (λg=>by omega) (λ_=>by rw[j];exact aA) (λf g=>by omega) (λe g=>by omega) (λd hd=>?_) λg=>?_
  ·grind
  ·unfold kQ at g;rw[r]at g
   simp only[GE,decide_eq_true_eq]at g
   unfold Yy;rw[r]
   grind
 have Q:c'.Y.O=4\/c'.Y.O=5\/c'.Y.O=2->(c'.Y.O=5->c'.Y.aY<i)->Dk n G' i false a':=λm v=>by
  obtain⟨y,y1,y2,y3,y4,y5⟩:=KW (ρ:=ρ) (a:=a) (c':=c') m
  have aE:a'.aO=false:=by
   rw[j]
   have p:∀y:az,(gZ y).aO=y.aO:=λy=>by
    show(if az.wr _=true then _ else _:az).aO=_
    grind
   unfold bu
   rw[p]
   grind
  rw[y1]at j
  have aK:a'.B=7:=by grind
  refine vM aE zo (λ_=>by rw[j,y3];omega) (λg=>by omega) (λf g=>by omega) (λe g=>by omega) (nL zo) λg=>?_
  rw[kQ,j5 zo]at g
  simp only[GE,decide_eq_true_eq]at g
  rw[Yy,j5 zo]
  grind
 have E:∀{c0:ct} {e b:Int},Stp c0 c' e b->e=4\/e=5->(e=5->b<i)->Dk n G' i false a':=λ{c0 e b} m v V=>by
  rcases m.aG with⟨P,W,R,w4,_⟩|⟨P,W,_⟩
  all_goals grind
 have pt:c.B≠7->Vd c.Y i:=λg=>by rw[<-u];exact cp g
 have H:c'.Y=c.Y->c.B≠7->c'.B≠7->c'.B≠4->Dk n G' i false a':=λm v V q4=>o (by rw[m];exact U) (λ_=>by rw[m];exact pt v) (λg=>absurd g q4) λg=>absurd g V
 have I:∀{c0:ct},RF c0 c'->c0.Y=c.Y->c0.F=c.F->c0.ab=c.ab->c.B≠7->Dk n G' i false a':=λ{c0} m v V q4 q5=>by
  cases m with
  |on k P W R e=>exact o (by rw[e];show c0.Y.O=0;rw[v];exact U) (λ_=>by rw[e];show Vd c0.Y i;rw[v];exact pt q5) (λ_=>by rw[e];exact R) λg=>by rw[e]at g;cases g
  |wr _ e=>exact H (by rw[e];exact v) q5 (by rw[e];simp) (by rw[e];simp)
  |bad z k P W R w4 w=>exact E w (.inr rfl) λ_=>by omega
 cases Z with
 |held s s1 s2 hh p hh2 =>
  have ac:=ael T h.hi h.dE aD U (by rcases s1 with q|q;exact .inl q;exact .inr ⟨q,cz q⟩) s2 hh
  have aM:=cp zo
  by_cases M:(fV x.mem s).ar > c.me
  ·have e:=hh2.e5 M
   grind
  ·rcases hh2.es M with⟨P,W,R,w4⟩|w
   ·have af:c'.B=c.B:=by grind
    have e1:c'.F=c.F:=by grind
    have e3:c'.ab=c.ab:=by grind
    have e4:c'.K=c.K:=by grind
    exact o P (λ_=>by rw[<-u];exact w4) (λg=>by rw[e1,e3,e4];exact cz zo) λg=>by omega
   all_goals grind
 |look s0 hh p e=>exact H (by rw[e]) zo (by rw[e];simp) (by rw[e];simp)
 |take s1 hl hml hmn hms e =>
  have af:c'.B=0\/c'.B=2:=by
   rw[e];unfold kA;simp only
   grind
  exact H (by rw[e];rfl) zo zo zo
 |miss s1 hl p e=>exact H (by rw[e]) zo (by rw[e];simp) (by rw[e];simp)
 |full s2 p w=>exact E w (.inl rfl) λg=>by omega
 |ask s2 p e=>exact H (by rw[e]) zo (by rw[e];simp) (by rw[e];simp)
 |raise s3 hn hml hmn hms hp=>exact I hp rfl rfl rfl zo
 |late s3 hn p e=>exact H (by rw[e]) zo (by rw[e];simp) (by rw[e];simp)
 |prove s4 p hp=>exact I hp rfl rfl rfl zo
 |bad s4 ac p w=>exact E w (.inr rfl) λ_=>by omega
 |store s5 p e =>
  have hq:c'.Y=c.Y/\(c'.B=5\/c'.B=6):=by
   rw[e]
   unfold jI
   have aN:1<=c.F.length:=by
    cases hq:c.F with
    |nil=>exact absurd hq T.ne
    |cons y l=>simp
   split
   ·unfold kf
    grind
   all_goals grind
  grind
 |give s6 hml hmn hms e =>
  unfold kf at e
  split at e
  ·exact Q (.inr (.inr (by rw[e];rfl))) λg=>by rw[e]at g;cases g
  all_goals grind
 |leave s7 hml hmn hms e =>
  have aH:=T.dF U s7
  unfold jC at e
  split at e
  ·exact Q (by rw[e];show c.O=4\/c.O=5\/c.O=2;omega) λg=>by rw[e]at g ⊢;exact J s7 g
  all_goals grind
end
structure SlA (s:Int)(a:az):Prop where
 s0:a.B=0->s=0
 s1:a.B=1\/a.B=2->s=1
 s3:3<=a.B->s=a.a2+1
 s2:a.B=2->a.I=a.a2
structure Xo (S:cv)(h0:Hp)(n:Nat)(m:eO)(L:jZ)(X:Nat->Hx)(i:Nat)(t:bm):Prop where
 eJ:∀a,t.B=1->t.aj=some a->Dk n (fi m L X) i t.bD a
 y:t.B=2->0<=t.aY/\t.aY<i
 w:t.B=4->∃a,t.aj=some a/\(0<=a.I/\a.I<=m.n)/\(∀z∈a.rd,kX (ke S) h0 n (fi m L X) i a.I [] z.N.toNat z.D)/\∀z∈a.rd,0<=z.N/\(m.l.getD z.N.toNat aa).D=z.D
 sl:∀a,t.B=1->t.aj=some a->SlA (m.s.getD i 0) a
 off:t.B≠1->m.s.getD i 0=0
structure qF (S:cv)(h0:Hp)(n:Nat)(x:eU)(L:jZ):Prop where
 mi:MI S h0 n x L
 lv:LV x.mem L
 fx:(n:Int)<=S.aB
 ad:∀i t,x.ad[i]? = some t->Xo S h0 n x.mem L (mW x.ad) i t
section
variable {S:cv}{h0:Hp}{n i j nl nw nl' nw':Nat}{m m':eO}{G G':Gs}{X:Nat->Hx}{L L':jZ}{x x':eU}{t t' u y:bm}{a a' a0:az}{c c':ct}{f f':fe}{e e':mj}{b w:Int}{b' b1 b2 f1 f2 n1 n2 δ ε r r':Int}{fine cm al:Bool}{ρ:qI}{an:ii}{str:Int->Nat}{ks:List ay}{pick:Int}{sl:ByteArray}
def qF.run (h:qF S h0 n x L)(ht:x.ad[i]? = some t)(e:t.B=1):∃a,t.aj=some a/\jJ S h0 n (fi x.mem L (mW x.ad)) x.mem.l.length x.mem.w.length i a/\a.B≠8/\Dk n (fi x.mem L (mW x.ad)) i t.bD a:=by
 obtain⟨a,b,c,d,_⟩:=(h.mi.ad i t ht).run e
 exact⟨a,b,c,d,(h.ad i t ht).eJ a e b⟩
def qF.ul (h:qF S h0 n x L)(ht:x.ad[i]? = some t):UL t:=by
 refine⟨λa f r o j b=>?_,λa c r o j b=>?_⟩
 ·obtain⟨q,l,d,D,s⟩:=h.run ht r
  rw[o]at l;cases l
  have w:=d.st
  by_cases F:a.B=3
  ·obtain⟨_,g,v,y⟩:=d.cx F
   rw[j]at v;cases v
   by_cases z:f.B=0
   ·grind
   ·exact .inr (y.ac z).1
  exfalso
  by_cases C:a.B<=2
  ·have:=(d.ck C).1;rw[j]at this;cases this
  by_cases H:a.B<=5
  ·obtain⟨_,e,k,_⟩:=d.ext zo;rw[j]at k;cases k
  by_cases E:a.B=6
  ·obtain⟨c,m,_⟩:=d.com E;rw[j]at m;cases m
  have u:a.B=7:=by omega
  have p:AZ a:=⟨u⟩
  rcases(d.out zo).1 with q|q|q|q
  ·have:=JG p (.inl q);unfold nj at b;rw[this]at b;cases b
  ·obtain⟨_,e,k⟩:=s.b3 u q;rw[j]at k;cases k
  ·have:=JG p (.inr q);unfold nj at b;rw[this]at b;cases b
  ·have:=(Bv p q).2.1;unfold nj at b;rw[this]at b;simp at b
 ·obtain⟨q,l,d,D,s⟩:=h.run ht r
  rw[o]at l;cases l
  obtain⟨m,_,A⟩:=jO j
  exact((d.cy c m).1.ac A b).1
def qF.eH (h:qF S h0 n x L)(ht:x.ad[i]? = some t):TV t:=by
 have c:=h.mi.ad i t ht
 refine⟨λe=>?_,?_,λf=>?_⟩
 ·obtain⟨a,j,k,l,d⟩:=h.run ht e
  exact⟨a,j,Vj k d⟩
 ·by_cases g:t.B=3
  ·have:=(c.ps g).1;exact .inl zo
  ·exact .inr g
 ·have:=c.sl f
  have:=h.mi.set.ad
  rw[c.b.s]
  omega
theorem qF.held (h:qF S h0 n x L):TW x L:=λs hs=>by
 obtain⟨k,hk,V,hV⟩:=h.mi.g.aY s.toNat hs
 have e:=h.mi.g.own k hk _ _ hV
 have e:fV x.mem s=⟨V,true,k⟩:=e
 have hn4:=h.mi.set.n4
 have hV:(s.toNat,V)∈(mW x.ad k).hd:=hV
 refine⟨k,by rw[e],zo,?_⟩
 cases hu:x.ad[k]? with
 |none=>unfold mW at hV;rw[hu]at hV;cases hV
 |some u =>
  rw[p6 hu]at hV
  unfold CX at hV
  have hT:=h.mi.ad k u hu
  cases ha:u.aj with
  |none=>rw[ha]at hV;cases hV
  |some a =>
   rw[ha]at hV
   simp only at hV
   have h1:u.B=1:=by
    by_cases g:u.B=1
    ·exact g
    ·rw[(hT.aW g a ha).2]at hV;cases hV
   obtain⟨q,q1,hA,h8,hv⟩:=h.run hu h1
   rw[ha]at q1;cases q1
   rw[bo hu]
   have p:=fy (m:=x.mem) (L:=L) h1 ha
   refine⟨p.lv,?_⟩
   rw[p.cm]
   cases hi:a.Z with
   |none=>rw[hi]at hV;cases hV
   |fetch f=>rw[hi]at hV;cases hV
   |ext f=>rw[hi]at hV;cases hV
   |com c =>
    rw[hi]at hV
    have hV:(s.toNat,V)∈(jX c).hd:=hV
    have hf:c.Y.O=0:=by
     by_cases g:c.Y.O=0
     ·exact g
     ·unfold jX at hV;rw[zn g]at hV;cases hV
    obtain⟨_,_,_,_,_,k6,_⟩:=hA.cy c hi
    have hst:=hA.st
    have h6:a.B=6:=by
     by_cases g:a.B=6
     ·exact g
     ·exact absurd hf ((hA.out zo).2.2.2 c hi)
    rw[jQ hi h6 hf];rfl
def qF.fJ (h:qF S h0 n x L){k:Nat}(b:(av x L k).cm=true):∃u a c,x.ad[k]? = some u/\u.B=1/\u.aj=some a/\ft a=some c:=by
 unfold av at b
 cases f:x.ad[k]? with
 |none=>rw[f]at b;cases b
 |some u =>
  rw[f]at b
  have b:(fq u).isSome=true:=b
  unfold fq pF at b
  split at b
  ·rename_i g
   cases d:u.aj with
   |none=>rw[d]at b;cases b
   |some a =>
    rw[d]at b
    have b:(ft a).isSome=true:=b
    cases e:ft a with
    |none=>rw[e]at b;cases b
    |some c=>exact⟨u,a,c,rfl,g,d,e⟩
  ·cases b
def qF.eF (h:qF S h0 n x L)(k:Nat)(l:(av x L k).cm=true):x.mem.s.getD k 0≠0:=by
 obtain⟨u,a,c,d,e,b,g⟩:=h.fJ l
 obtain⟨q,f,i,_,_⟩:=h.run d e
 rw[b]at f;cases f
 have j:=(jO g).2.1
 have:=((h.ad k u d).sl a e b).s3 zo
 have:=(i.a2 zo).1
 omega
end
section
variable {S:cv}{h0:Hp}{n i j nl nw nl' nw':Nat}{m m':eO}{G G':Gs}{X:Nat->Hx}{L L':jZ}{x x':eU}{t t' u y:bm}{a a' a0:az}{c c':ct}{f f':fe}{e e':mj}{b w:Int}{b' b1 b2 f1 f2 n1 n2 δ ε r r':Int}{fine cm al:Bool}{ρ:qI}{an:ii}{str:Int->Nat}{ks:List ay}{pick draw:Int}{sl:ByteArray}
def ag9 {q:az×Int×Int}:(j0 q).B≠8:=by
 unfold j0;repeat' split
 all_goals simp
def ac0 (b:a.B≠8)(h:a.B≠7):(ah ρ a an).B≠8:=by
 unfold ah
 rw[zn b]
 split
 ·grind
 split
 ·grind
 split
 ·exact ag9
 have d:∀y:az,(gZ y).B=y.B:=λy=>by
  show(if y.wr=true then { y with I:=y.Z.I }else y).B=_
  grind
 unfold bu
 rw[d]
 split
 ·exact b
 split
 ·grind
 cases g:a.Z with
 |none=>exact b
 |fetch f =>
  show(cq ρ { a with Z:=.fetch (bp f an) } (bp f an)).B≠8
  unfold cq
  split
  ·grind
  split
  ·exact ag9
  grind
 |ext e =>
  show(if a.B=4 then rB { { a with Z:=.ext (fa e an) }with I:=(fa e an).I } a.v.a9 else ip { { a with Z:=.ext (fa e an) }with I:=(fa e an).I } 3 0 (-1)).B≠8
  grind
 |com c=>show(7:Int)≠8;decide
theorem Ld (g:a.B≠6)(b:jJ S h0 n G nl nw i a):(ak a).1.aN≠5:=by
 have c:=b.st
 unfold ak
 split
 ·simp
 split
 ·simp
 split
 ·simp
 split
 ·simp
 split
 ·simp[kn]
 by_cases d:a.B=3
 ·obtain⟨_,f,e,_⟩:=b.cx d
  grind[dt,kn]
 ·obtain⟨_,f,e,_⟩:=b.ext zo
  grind[gO,kn]
theorem V1 (h:c.B≠6)(a:c.B≠7)(b:0<=c.B/\c.B<=7):(au c).1.aN≠5:=by
 unfold au
 split
 ·simp only
  split
  all_goals grind
 ·simp[kn]
def JR (d:t.B=1)(g:t.aj=some a)(e:a.B≠8)(f:a.B≠7)(b:t'=thrTell ρ t an draw pick sl):t'.B=1/\t'.aj=some (ah ρ a an)/\jP t'=jP t/\t'.bD=t.bD/\t'.me=t.me/\t'.s=t.s:=by
 have c:=ac0 (ρ:=ρ) (an:=an) e f
 unfold thrTell at b
 rw[zp d,g]at b
 grind
def Bd (ht:x.ad[i]? = some t)(b:(ai t).1.aN≠5):Mv x (bw ρ x i t draw sl) i t (thrTell ρ t (ag x.mem (ai t).1).2 draw (x.au+1) sl):=by
 have a:=(Nm.1 ht).1
 have e:(bw ρ x i t draw sl).ad=x.ad.set i (thrTell ρ t (ag x.mem (ai t).1).2 draw (x.au+1) sl):=by grind[bw]
 exact⟨ht,by rw[e];exact zap a,λj hj=>by rw[e];exact zai (zbr hj)⟩
def qF.i4 (h:qF S h0 n x L)(ht:x.ad[i]? = some t):i<n/\i<4/\(i:Int)<S.aB/\S.aB<=4:=by
 have a:=(Nm.1 ht).1
 have:=h.mi.len
 have:=h.mi.set.n4
 have:=h.mi.set.ad
 have:=h.fx
 omega
def ah_ {q:az×Int×Int}(h:q.1.Z.wr=false):(j0 q).Z.wr=false:=by
 unfold j0;repeat' split
 all_goals first|exact h|rfl
def adF:(iu ρ a).1.Z=a.Z:=by unfold iu;split<;>rfl
def agt (h:a.Z.bh=false):(ah ρ a an).Z.wr=false:=by
 have b:=(GW h).1
 have i:∀y:az,y.Z.wr=false->(iq ρ y).Z.wr=false:=λy d=>ah_ (by rw[adF];exact d)
 unfold ah
 split
 ·exact b
 split
 ·exact b
 split
 ·exact b
 split
 ·grind
 split
 ·exact b
 have j:∀y:az,(gZ y).Z=y.Z:=λy=>by
  show(if y.wr=true then { y with I:=y.Z.I }else y).Z=_
  grind
 unfold bu
 rw[j]
 cases g:a.Z with
 |none =>
  split
  all_goals grind
 |fetch f =>
  split
  ·rfl
  split
  ·rfl
  ·show(cq ρ { a with Z:=.fetch (bp f an) } (bp f an)).Z.wr=false
   unfold cq
   split
   all_goals grind
 |ext e =>
  split
  all_goals grind
 |com c=>rw[g]at h;cases h
def YY (b:jJ S h0 n G nl nw i a)(h:a.B<=5):a.Z.bh=false:=by
 have d:=b.st
 by_cases g:a.B=3
 ·obtain⟨_,f,e,_⟩:=b.cx g;rw[e]
 by_cases c:a.B=4\/a.B=5
 ·obtain⟨_,f,e,_⟩:=b.ext c;rw[e]
 ·rw[(b.ck zo).1]
theorem af_.same (h:af_ L L' a a')(d:a'.Z.wr=a.Z.wr):L'=L:=by
 rcases h with⟨q,_⟩|⟨_,c,b,_⟩
 all_goals grind
theorem afA (I:da ρ)(h:qF S h0 n x L)(ht:x.ad[i]? = some t)(p:t.B=1)(q:t.aj=some a)(R:a.B<=5)(H:qA S h0 n x.mem L (mW x.ad) i a (ah ρ a (ag x.mem (ak a).1).2) (ag x.mem (ak a).1).1 L'):L'=L/\Dn x (bw ρ x i t draw sl) L L' i t:=by
 obtain⟨P,m,d,A,l⟩:=h.run ht p
 rw[q]at m;cases m
 have c:=YY d R
 have k:=H.bj.same (by rw[agt c,(GW c).1])
 have j:(ai t).1=(ak a).1:=by grind
 have z:(ai t).1.aN≠5:=by grind[Ld]
 have o:=Bd (ρ:=ρ) (draw:=draw) (sl:=sl) ht z
 rw[j]at o
 obtain⟨u,F,C,Q,K,J⟩:=JR (ρ:=ρ) (an:=(ag x.mem (ak a).1).2) (draw:=draw) (pick:=x.au+1) (sl:=sl) p q A zo rfl
 obtain⟨M,y,O,N⟩:=h.i4 ht
 have g:K6 x (bw ρ x i t draw sl) i t _ a _:=⟨o,y,p,q,u,F,C⟩
 have b:(bw ρ x i t draw sl).mem=(ag x.mem (ak a).1).1:=by grind[bw]
 have e:=H.bY
 have r:=d.st
 refine⟨k,?_⟩
 rw[k]
 have f:i<x.mem.s.length:=by have:=h.mi.sl;omega
 by_cases D:a.B=0
 ·exact aif g d f b rfl D
 by_cases w:a.B=1
 ·exact aip g h.mi.g b rfl w
 by_cases v:a.B=2
 ·exact ahN I g d e f b rfl v
 by_cases E:a.B=3
 ·exact ahU I h.mi.set h.mi.g h.lv g d l e h.held b rfl E
 ·exact af2 h.mi.g h.lv g d l h.held b rfl zo
end
section
variable {S:cv}{h0:Hp}{n i j nl nw nl' nw':Nat}{m m':eO}{G G':Gs}{X:Nat->Hx}{L L':jZ}{x x' x1 x2:eU}{t t' u y:bm}{a a' a0:az}{c c':ct}{f f':fe}{e e':mj}{b w s v:Int}{b' b1 b2 f1 f2 n1 n2 δ ε r r':Int}{fine cm al:Bool}{ρ:qI}{an:ii}{str:Int->Nat}{ks:List ay}{pick draw:Int}{sl:ByteArray}
def H8:iO u s v=u\/iO u s v={ u with bD:=true }\/(u.B=4/\iO u s v=cw u/\∃a,u.aj=some a/\∃z∈a.rd,z.N=s/\z.D≠v):=by
 unfold iO
 cases b:u.aj with
 |none=>exact .inl rfl
 |some a =>
  simp only
  grind
def Ss (ht:x.ad[i]? = some t)(c:(ai t).1.aN=5):(bw ρ x i t draw sl).ad[i]? = some (thrTell ρ t (ag x.mem (ai t).1).2 draw (x.au+1) sl)/\∀j,j≠i->(x.ad[j]? = none/\(bw ρ x i t draw sl).ad[j]? = none)\/∃u,x.ad[j]? = some u/\(bw ρ x i t draw sl).ad[j]? = some (iO u (ai t).1.J (ai t).1.ac.D):=by
 have a:=(Nm.1 ht).1
 have e:(bw ρ x i t draw sl).ad=mU i (ai t).1.J (ai t).1.ac.D x.ad.length (x.ad.set i (thrTell ρ t (ag x.mem (ai t).1).2 draw (x.au+1) sl)):=by grind[bw]
 refine⟨by rw[e,IF,zap a];simp,λj hj=>?_⟩
 rw[e,IF,zai (zbr hj)]
 cases b:x.ad[j]? with
 |none=>exact .inl ⟨rfl,rfl⟩
 |some u =>
  refine .inr ⟨u,rfl,?_⟩
  grind
def Dn.of (h:Dn x x1 L L' i t)(a:∀j,av x2 L' j=av x1 L' j)(b:x2.mem=x1.mem):Dn x x2 L L' i t:=by
 have e:av x2 L'=av x1 L':=funext a
 exact⟨by rw[e];exact h.le,λg=>by rw[b];exact h.qt (by rw[<-e];exact g),by rw[e];exact h.lo,by rw[e];exact h.wr,by rw[e];exact h.gs⟩
def aaw (hρ:da ρ)(h:qF S h0 n x L)(ht:x.ad[i]? = some t)(O:t.B=1)(Q:t.aj=some a)(h6:a.B=6)(hR:qA S h0 n x.mem L (mW x.ad) i a (ah ρ a (ag x.mem (ak a).1).2) (ag x.mem (ak a).1).1 L'):Dn x (bw ρ x i t draw sl) L L' i t/\Dk n (fi (bw ρ x i t draw sl).mem L' (mW (bw ρ x i t draw sl).ad)) i t.bD (ah ρ a (ag x.mem (ak a).1).2):=by
 obtain⟨a0,e0,hA,h8,hv⟩:=h.run ht O
 rw[Q]at e0;cases e0
 have d:(ai t).1=(ak a).1:=by grind
 obtain⟨k1,k2,k3,k4,k5,k6⟩:=JR (ρ:=ρ) (an:=(ag x.mem (ak a).1).2) (draw:=draw) (pick:=x.au+1) (sl:=sl) O Q h8 zo rfl
 obtain⟨U,i2,i3,i4⟩:=h.i4 ht
 obtain⟨c,hc,o⟩:=hA.com h6
 have I:=jQ hc h6 o
 obtain⟨R,q2,q3,q4,q5,q6,q7⟩:=hA.cy c hc
 have p:(ak a).1=(au c).1:=by unfold ak;rw[zn,zn,zn,zn,zn,hc]
 have C:mW x.ad i=Im a.Z:=by rw[p6 ht];unfold CX;rw[Q]
 have aB:mW x.ad i=jX c:=by rw[C,hc];rfl
 have mk:∀y:eU,y.mem=(ag x.mem (ak a).1).1->y.ad[i]? = some (thrTell ρ t (ag x.mem (ak a).1).2 draw (x.au+1) sl)->(c.B≠6->∀j,j≠i->y.ad[j]? = x.ad[j]?)->(c.B=6->∀j,j≠i->(x.ad[j]? = none/\y.ad[j]? = none)\/∃u u',x.ad[j]? = some u/\y.ad[j]? = some u'/\WkO L u u')->St6 S h0 n x y L L' (mW x.ad) i t (thrTell ρ t (ag x.mem (ak a).1).2 draw (x.au+1) sl) a (ah ρ a (ag x.mem (ak a).1).2) t.bD ρ:=λy W w2 w3 w4 =>
  ⟨h.mi.set,h.mi.g,U,h.mi.T,h.lv,C,λg=>⟨⟨ht,w2,w3 (g c I)⟩,i2,O,Q,k1,k2,k3⟩,λg=>⟨⟨ht,w2,w4 (g c I)⟩,i2,O,Q,k1,k2,k3⟩,O,Q,ht,hA,hv,⟨_,_,_,hR.bY⟩,hR.bj,h.held,λj u hj hu=>⟨h.ul hu,h.eH hu⟩,W,rfl⟩
 have e:(bw ρ x i t draw sl).mem=(ag x.mem (ak a).1).1:=by grind[bw]
 have aF:=R.ok.st
 by_cases m:c.B=6\/c.B=7
 ·have hk:(ai t).1.aN=5:=by
   rw[d,p];unfold au
   rw[zp o,zn,zn,zn,zn,zn,zn]
   grind
  have aA:(ai t).1.J=c.F.getD c.K 0:=by
   rw[d,p];unfold au
   rw[zp o,zn,zn,zn,zn,zn,zn]
   grind
  obtain⟨k,A⟩:=Ss (ρ:=ρ) (draw:=draw) (sl:=sl) ht hk
  rw[d]at k
  have M:=R.ok.len
  have aC:c.K<c.was.length:=by
   rcases m with g|g
   ·have:=(R.ok.ba o).2.2.2.2.1 g;omega
   ·exact((R.ok.ba o).2.2.2.2.2 g).1
  have hd:((c.F.getD c.K 0).toNat,(c.was.getD c.K aa).D)∈(mW x.ad i).hd:=by
   have O:=JT M aC
   rw[aB];unfold jX Ik;rw[zp o]
   simp only[m,if_true]
   refine Ok (i:=0) ?_
   grind
  rcases m with g|g
  ·have hs:=mk (bw ρ x i t draw sl) e k (λq=>absurd g q) λ_ j hj=>by
    rcases A j hj with⟨f,E⟩|⟨u,f,E⟩
    ·grind
    ·refine .inr ⟨u,_,f,E,?_⟩
     rcases H8 (u:=u) (s:=(ai t).1.J) (v:=(ai t).1.ac.D)with q|q|⟨V,q,b,Y,z,hz,r,am⟩
     ·exact .inl q
     ·exact .inr (.inl q)
     ·refine .inr (.inr ⟨V,q,?_,b,Y,?_⟩)
      ·have hT:=h.mi.ad j u f
       have:=hT.aI zo
       have:=hT.b.aI.1
       grind
      ·obtain⟨b2,P,_,hg,_⟩:=(h.ad j u f).w V
       rw[Y]at P;cases P
       have H:(mW x.ad i).up=some c.aj:=by grind[jX]
       have al:(mW x.ad i).wr=true:=by grind[jX]
       have:=(hg z hz).up i U (zbr hj) c.aj H ⟨_,by rw[r,aA];exact hd⟩
       obtain⟨aE,W,w2⟩:=h.mi.g.dL i U al
       rw[show(fi x.mem L (mW x.ad)).X i=mW x.ad i from rfl,H]at W
       cases W
       exact ya.2 ⟨_,w2,this⟩
   grind[Yq,aeE]
  ·have N:=(Nm.1 ht).1
   have aD:(ai t).1.ac.D=(c.was.getD c.K aa).D:=by
    rw[d,p];unfold au
    rw[zp o,zn,zn,zn,zn,zn,zn,zn]
   have hs:=mk { (bw ρ x i t draw sl)with ad:=x.ad.set i (thrTell ρ t (ag x.mem (ak a).1).2 draw (x.au+1) sl) } e (zap N) (λ_ j hj=>zai (zbr hj)) λq=>by omega
   refine⟨(Yq hs h6).of (λj=>?_) rfl,aeE hs h6⟩
   by_cases hj:j=i
   ·subst hj
    rw[bo k,bo (zap N)]
   ·rcases A j hj with⟨f,E⟩|⟨u,f,E⟩
    ·unfold av
     grind
    ·have af:({ (bw ρ x i t draw sl)with ad:=x.ad.set i (thrTell ρ t (ag x.mem (ak a).1).2 draw (x.au+1) sl) }:eU).ad[j]? = some u:=by grind
     rw[bo E,bo af]
     rcases H8 (u:=u) (s:=(ai t).1.J) (v:=(ai t).1.ac.D)with q|q|⟨V,q,b,Y,z,hz,r,am⟩
     ·rw[q]
     ·rw[q];rfl
     ·exfalso
      obtain⟨b2,P,_,_,hg⟩:=(h.ad j u f).w V
      rw[Y]at P;cases P
      have e3:=(hg z hz).2
      have e4:=h.mi.g.own i U _ _ hd
      have e4:x.mem.l.getD (c.F.getD c.K 0).toNat aa=⟨(c.was.getD c.K aa).D,true,i⟩:=e4
      grind
 ·have hk:(ai t).1.aN≠5:=by grind[V1]
  have mv:=Bd (ρ:=ρ) (draw:=draw) (sl:=sl) ht hk
  rw[d]at mv
  have hs:=mk (bw ρ x i t draw sl) e mv.bq (λ_=>mv.ot) λq=>by omega
  grind[Yq,aeE]
theorem UY (b:jJ S h0 n G nl nw i a)(m:a.B≠8):(ak a).2=true:=by
 have g:=b.st
 unfold ak
 split
 ·rfl
 split
 ·rfl
 split
 ·rfl
 split
 ·rfl
 by_cases j:a.B=3
 ·obtain⟨_,f,e,h⟩:=b.cx j
  rw[e]
  show(dt f).2=true
  unfold dt
  rw[zp h.O]
  grind
 by_cases d:a.B=6
 ·obtain⟨c,e,l⟩:=b.com d
  grind[au]
 ·obtain⟨_,f,e,k⟩:=b.ext zo
  rw[e]
  show(gO f).2=true
  unfold gO
  rw[zp k.O]
  grind
def aef (hl:x'.mem.l=x.mem.l)(hn:x'.mem.n=x.mem.n)(hat:x.ad[i]? = some t)(h1:Idl (fv x.mem L t))(h:jq (av x' L)<=jq (av x L)+sT (av x L) i (-1)):Dn x x' L L i t:=DA hl hn hat h1.cm h1.wr h
theorem aap {k:Int}:SM m (ag m ⟨8,k,0,0,aa,aa⟩).1:=by
 unfold ag bv
 simp only[show ¬((8:Int)=1) by decide,show ¬((8:Int)=2) by decide,show ¬((8:Int)=3) by decide,show ¬((8:Int)=4) by decide,show ¬((8:Int)=5) by decide,show ¬((8:Int)=6) by decide,show ¬((8:Int)=7) by decide,if_false,if_true]
 split<;>split<;>exact⟨rfl,rfl,rfl⟩
def adc {k:Int}(h:0<=k/\k<m.s.length):(ag m ⟨8,k,0,0,aa,aa⟩).2.aV=0/\(ag m ⟨8,k,0,0,aa,aa⟩).2.word=m.s.getD k.toNat 0:=by
 have:nk k m.s.length=true:=by grind[nk]
 grind[ag,bv]
def ah5 (hρ:da ρ)(h:qF S h0 n x L)(ht:x.ad[i]? = some t)(aA:(ai t).2=true)
  (P:t.B=1->∀a,t.aj=some a->qA S h0 n x.mem L (mW x.ad) i a (ah ρ a (ag x.mem (ak a).1).2) (ag x.mem (ak a).1).1 L') (hL:t.B≠1->L'=L):Dn x (bw ρ x i t 0 sl) L L' i t:=by
 obtain⟨i1,W,i3,i4⟩:=h.i4 ht
 have p:=h.mi.ad i t ht
 have hV:=h.ad i t ht
 have A:∀j u,j≠i->x.ad[j]? = some u->TV u:=λj u _ Y=>h.eH Y
 have am:i<x.mem.s.length:=by have:=h.mi.sl;omega
 by_cases f:t.B=1
 ·obtain⟨a,M,E,h8,U⟩:=h.run ht f
  have P:=P f a M
  have al:=E.st
  by_cases V:a.B<=5
  ·grind[afA]
  by_cases h6:a.B=6
  ·exact(aaw hρ h ht f M h6 P).1
  have H:a.B=7:=by omega
  have c:(ai t).1=(ak a).1:=by grind
  have hk:(ai t).1.aN≠5:=by grind
  have K:=Bd (ρ:=ρ) (draw:=0) (sl:=sl) ht hk
  have et:∀q,ah ρ a q={ a with B:=8 }:=λq=>by
   unfold ah;rw[zn,zn,zn,zn,zp H]
  rw[et]at P
  have T:=P.bj.same rfl
  rw[T]
  have ac:=(E.out zo).1
  have C:thrTell ρ t (ag x.mem (ai t).1).2 0 (x.au+1) sl=i7 { t with aj:=some { a with B:=8 },aP:=if a.aq&&!a.aq then x.au+1 else t.aP } { a with B:=8 } 0 (x.au+1) sl:=by
   unfold thrTell
   rw[zp f,M]
   simp only
   rw[et]
   unfold ml
   rw[zp ⟨rfl,by show a.O≠0;omega⟩]
  have r:(bw ρ x i t 0 sl).mem=(ag x.mem (ak a).1).1:=by grind[bw]
  have en:(ak a).1=⟨9,a.me,0,0,aa,aa⟩:=by unfold ak;rw[zn,zn,zn,zp H]
  obtain⟨k,ek⟩:=Bm (m:=x.mem) (a:=a.me) (w:=0) (o:=0) (u:=aa) (v:=aa) (by rw[E.me];omega)
  rw[en,ek]at r
  have d:Sl x.mem (bw ρ x i t 0 sl).mem i:=by
   rw[r]
   refine⟨rfl,rfl,λj hj=>?_⟩
   show(x.mem.s.set a.me.toNat 0).getD j 0=_
   rw[E.me,ge,zai zo,<-ge]
  have F:=(fy (m:=x.mem) (L:=L) f M).out ⟨H⟩
  refine DA d.l d.n ht F.2.2.1 F.2.2.2.1 (aic W i3 i4 K d f M H E U p.b.s p.b.me ⟨p.b.aI.1,p.aI zo⟩ (λg g3=>?_) A C)
  obtain⟨_,z,hz,J⟩:=U.eS g
  have af:¬a.Z.wr=true:=λq=>by
   obtain⟨_,e,hi⟩:=U.b3 H g3
   grind
  have Q:a.aG=a.I:=by grind[az.aG]
  have hg:=(E.all zo).bQ _ (zau.2 ⟨z,hz,rfl⟩)
  rw[Q]at hg
  have J:z.D<(x.mem.l.getD z.N.toNat aa).D:=J
  exact Up (X:=mW x.ad) h.lv hg (by have:=E.a2 zo;omega) (by simp only;omega)
 have T:=hL f
 rw[T]
 by_cases h2:t.B=2
 ·have c:(ai t).1=⟨8,t.aY,0,0,aa,aa⟩:=by grind
  have K:=Bd (ρ:=ρ) (draw:=0) (sl:=sl) ht (by rw[c];simp)
  have d:SM x.mem (bw ρ x i t 0 sl).mem:=by grind[bw,aap]
  have R:=hV.y h2
  have C:thrTell ρ t (ag x.mem (ai t).1).2 0 (x.au+1) sl=pC t (ag x.mem (ai t).1).2 0:=by grind
  obtain⟨p1,p2⟩:=X0 (L:=L) W K d h2 R (λk _ hc=>h.eF k hc) (λk u Y hs=>(h.ad k u Y).off hs) (p.aI zo) A (by rw[c];exact adc zo) C
  have hI:=Ic (m:=x.mem) (L:=L) (t:=t) f zo
  refine⟨p1,λ_=>⟨d.l,d.n⟩,λg1 g2 _ _=>p2 g1 g2,λg=>?_,λg=>?_⟩
  ·rw[bo ht,hI.wr]at g;cases g
  ·have:=g.1;rw[Ea ht,hI.cm]at this;cases this
 ·have V:t.B=5:=by grind
  have c:(ai t).1=⟨8,t.aK.length,0,0,aa,aa⟩:=by grind
  have K:=Bd (ρ:=ρ) (draw:=0) (sl:=sl) ht (by rw[c];simp)
  have d:SM x.mem (bw ρ x i t 0 sl).mem:=by grind[bw,aap]
  have C:∃b,thrTell ρ t (ag x.mem (ai t).1).2 0 (x.au+1) sl=tC t b:=by grind
  obtain⟨b,C⟩:=C
  exact aef d.l d.n ht (Ic f zo) (aaU (L:=L) W K (d.sl i) V (by rw[p.b.s];exact(p.sl V).1) (p.aI zo) A C)
def ZZ (h:qF S h0 n x L)(ht:x.ad[i]? = some t)(b:(ai t).2=false):Dn x (kz x i t) L L i t:=by
 obtain⟨D,y,F,E⟩:=h.i4 ht
 have k:=h.mi.ad i t ht
 have m:=(Nm.1 ht).1
 have o:∀j u,j≠i->x.ad[j]? = some u->TV u:=λj u _ z=>h.eH z
 have f:t.B≠1:=λg=>by
  obtain⟨a,H,J,I,_⟩:=h.run ht g
  unfold ai at b
  grind[UY]
 have s:t.B≠2:=λg=>by unfold ai at b;rw[zn f,zp g]at b;cases b
 have C:t.B≠5:=λg=>by unfold ai at b;rw[zn f,zn s,zp g]at b;cases b
 have q:SM x.mem (kz x i t).mem:=⟨rfl,rfl,rfl⟩
 have p:Mv x (kz x i t) i t (gK t):=⟨ht,zap m,λj hj=>zai (zbr hj)⟩
 by_cases r:t.B=3
 ·exact aef q.l q.n ht (Ic f zo) (Ys (L:=L) y p (q.sl i) r (k.ps r).1 (k.aI zo) o rfl)
 ·have v:=k.st
  have e:gK t=t:=by grind
  have d:∀j,av (kz x i t) L j=av x L j:=λj=>by
   by_cases g:j=i
   ·subst g;rw[bo p.bq,bo ht,e]
   ·unfold av;rw[p.ot j g]
  have d:av (kz x i t) L=av x L:=funext d
  have w:(av x L i).lv=false:=by
   rw[bo ht]
   show(!decide (t.B=4)&&!decide (t.B=6))=false
   grind
  have A:fq t=none:=by unfold fq pF;rw[zn f];rfl
  refine⟨by rw[d];omega,λ_=>⟨rfl,rfl⟩,λg _ _ _=>?_,λg=>?_,λg=>?_⟩
  ·grind[tO,av]
  ·rw[bo ht]at g
   have g:(match fq t with|some c=>Vf c|none=>false)=true:=g
   grind
  ·have:=g.1
   rw[Ea ht]at this
   have this:((fq t).isSome&&!(fv x.mem L t).wr)=true:=this
   grind
end
end Go.Proofs.YtoealglbimbbmaaGreatDoor.S
