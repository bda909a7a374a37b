import Derived.Test.YtoealglbimbbmaaGreatDoorTMf
import Derived.Test.YtoealglbimbbmaaGreatDoorTMod
set_option linter.defProp false
set_option linter.unusedVariables false
set_option linter.unusedSimpArgs false
namespace Go.Proofs.YtoealglbimbbmaaGreatDoor.S
open Go Go.Proofs
section
variable {S:cv}{h0:Hp}{n i j nl nw nl' nw':Nat}{m m':eO}{G G':Gs}{X:Nat->Hx}{L L':jZ}{x x' x1 x2:eU}{t t' u y:bm}{a a' a0:az}{c c':ct}{f f':fe}{e e':mj}{b w v:Int}{b' b1 b2 f1 f2 n1 n2 δ ε r r':Int}{fine cm al:Bool}{ρ:qI}{an:ii}{str:Int->Nat}{ks:List ay}{pick draw:Int}{sl:ByteArray}{o:vV}
structure afQ (x:eU)(L:jZ)(o:vV)(m':eO):Prop where
 no:o.aN≠5->∀s:Nat,(m'.l.getD s aa).D=(x.mem.l.getD s aa).D
 s5:o.aN=5->∀s:Nat,(m'.l.getD s aa).D=if s=o.J.toNat then o.ac.D else(x.mem.l.getD s aa).D
 v5:o.aN=5->(0<=o.J/\o.J<x.mem.l.length)/\(o.ac.D=(x.mem.l.getD o.J.toNat aa).D\/((x.mem.l.getD o.J.toNat aa).D<o.ac.D/\∃y∈L,y.1=o.ac.D))
def oy (hk:o.aN≠5)(h:m'.l=x.mem.l):afQ x L o m':=⟨λ_ s=>by rw[h],λg=>absurd g hk,λg=>absurd g hk⟩
def VS (h:qF S h0 n x L)(ht:x.ad[i]? = some t):afQ x L (ai t).1 (ag x.mem (ai t).1).1:=by
 have A:∀o:vV,o.aN≠4->o.aN≠5->afQ x L o (ag x.mem o).1:=λo h4 h5=>by
  refine oy h5 ?_
  have:(bv x.mem o).1.l=x.mem.l:=by
   unfold bv
   repeat' split
   all_goals first|rfl|contradiction
  unfold ag
  split
  ·exact this
  ·exact this
 by_cases E:t.B=1
 ·obtain⟨a,hn,N,h8,hv⟩:=h.run ht E
  have af:(ai t).1=(ak a).1:=by unfold ai;rw[zp E,hn]
  rw[af]
  by_cases R:a.B=6
  ·obtain⟨P,i2,i3,i4⟩:=h.i4 ht
   obtain⟨c,Q,j⟩:=N.com R
   have am:=jQ Q R j
   obtain⟨r,_⟩:=N.cy c Q
   have W:(ak a).1=(au c).1:=by unfold ak;rw[zn,zn,zn,zn,zn,Q]
   rw[W]
   have al:mW x.ad i=Im a.Z:=by rw[p6 ht];unfold CX;rw[hn]
   have p:mW x.ad i=jX c:=by rw[al,Q];rfl
   have O:=Uo (m:=x.mem) (L:=L) (X:=mW x.ad) h.mi.set.n4 P h.mi.T r h.mi.g p j (hv.ed c am).1
   have z:=r.ok.len
   have b:c.B≠6->c.B≠7->(au c).1.aN≠5:=λg1 g2=>V1 g1 g2 r.ok.st
   have u:∀(k:Int) (y:ey) (s:Nat),0<=k/\k<x.mem.l.length->((x.mem.l.set k.toNat y).getD s aa).D=if s=k.toNat then y.D else(x.mem.l.getD s aa).D:=λk y s hk=>by
    by_cases g:s=k.toNat
    ·rw[zp g,g,ge,zap zo];rfl
    ·rw[zn g,ge,zai (zbr g),<-ge]
   have hd:c.B=6\/c.B=7->c.K<c.was.length->x.mem.l.getD (c.F.getD c.K 0).toNat aa=⟨(c.was.getD c.K aa).D,true,i⟩:=λU q=>by
    refine h.mi.g.own i P _ _ ?_
    show _∈(mW x.ad i).hd
    have E:=JT z q
    rw[p];unfold jX Ik;rw[zp j]
    simp only[U,if_true]
    refine Ok (i:=0) ?_
    rw[zca];exact E
   have w:c.B=6\/c.B=7->(au c).1.aN=5/\(au c).1.J=c.F.getD c.K 0:=λg=>by
    unfold au
    rw[zp j,zn,zn,zn,zn,zn,zn]
    split<;>exact⟨rfl,rfl⟩
   cases O with
   |held s s1 s2 hh hm=>exact oy (b zo zo) hm.l
   |look s0 hh hm=>exact oy (b zo zo) hm.l
   |take s1 hl hml =>
    refine⟨λ_ s=>?_,λg=>absurd g (b zo zo),λg=>absurd g (b zo zo)⟩
    have hw:=((r.ok.ba j).1 (.inr s1)).1
    have H:=r.st _ (qY hw)
    rw[hml,u _ _ _ H]
    split
    ·rename_i g
     rw[g]
     show c.ac.D=_
     rw[<-hl]
    ·rfl
   |miss s1 _ hm=>exact oy (b zo zo) hm.l
   |full s1 hm=>exact oy (b zo zo) hm.l
   |ask s1 hm=>exact oy (b zo zo) hm.l
   |raise s1 _ hml=>exact oy (b zo zo) hml
   |late s1 _ hm=>exact oy (b zo zo) hm.l
   |prove s1 hm=>exact oy (b zo zo) hm.l
   |bad s1 _ hm=>exact oy (b zo zo) hm.l
   |store s1 hm=>exact oy (b zo zo) hm.l
   |give s6 hml =>
    obtain⟨V,C⟩:=w (.inl s6)
    have hp:=(r.ok.ba j).2.2.2.2.1 s6
    have q:c.K<c.was.length:=by omega
    have H:=r.st _ (qY hp.2)
    have v:=hd (.inl s6) q
    have hw:c.ao=true:=r.wr.2 (.inr ⟨j,.inr s6⟩)
    have aA:=r.le (.inl hw)
    have e0:=r.I.1
    have hT:=h.mi.T
    have d:(au c).1.ac.D=c.aj+1:=by
     unfold au
     rw[zp j,zn,zn,zn,zn,zn,zn,zp s6]
     have eT:(fi x.mem L (mW x.ad)).T=x.mem.n:=rfl
     show IntKind.wrap .u64 (c.aj+1)=_
     exact Ul zo zo
    refine⟨λg=>absurd V g,λ_ s=>?_,λ_=>⟨by rw[C];exact H,.inr ⟨?_,?_⟩⟩⟩
    ·rw[hml,u _ _ _ H,C,d]
    ·rw[C,v,d]
     have M:(mW x.ad i).up=some c.aj:=by rw[p];unfold jX;rw[zp j];simp[s6]
     have:=(h.mi.g.dg i P c.aj M).2.2 (c.F.getD c.K 0).toNat (c.was.getD c.K aa).D (by
      show _∈(mW x.ad i).hd
      have E:=JT z q
      rw[p];unfold jX Ik;rw[zp j]
      simp only[s6,true_or,if_true]
      refine Ok (i:=0) ?_
      rw[zca];exact E)
     show(c.was.getD c.K aa).D<c.aj+1
     omega
    ·have M:(mW x.ad i).up=some c.aj:=by rw[p];unfold jX;rw[zp j];simp[s6]
     have Y:(mW x.ad i).wr=true:=by rw[p];unfold jX;rw[zp j];simp[s6]
     obtain⟨aB,w1,w2⟩:=h.mi.g.dL i P Y
     rw[show(fi x.mem L (mW x.ad)).X i=mW x.ad i from rfl,M]at w1
     cases w1
     exact⟨_,w2,by rw[d]⟩
   |leave s7 hml =>
    obtain⟨V,C⟩:=w (.inr s7)
    have q:=((r.ok.ba j).2.2.2.2.2 s7).1
    have H:=r.st _ (qY (l:=c.F) (k:=c.K) (by have:=z.was;omega))
    have v:=hd (.inr s7) q
    have d:(au c).1.ac.D=(c.was.getD c.K aa).D:=by
     unfold au
     rw[zp j,zn,zn,zn,zn,zn,zn,zn]
    refine⟨λg=>absurd V g,λ_ s=>?_,λ_=>⟨by rw[C];exact H,.inl ?_⟩⟩
    ·rw[hml,u _ _ _ H,C,d]
    ·rw[C,v,d]
  ·refine A _ ?_ (Ld R N)
   have O:=N.st
   unfold ak
   split
   ·simp
   split
   ·simp
   split
   ·simp
   split
   ·simp
   by_cases s3:a.B=3
   ·obtain⟨_,f,e,_⟩:=N.cx s3
    rw[e]
    show(dt f).1.aN≠4
    unfold dt
    repeat' split
    all_goals simp[kn]
   ·obtain⟨_,f,e,_⟩:=N.ext zo
    rw[e]
    show(gO f).1.aN≠4
    unfold gO
    repeat' split
    all_goals simp[kn]
 ·unfold ai
  rw[zn E]
  split
  ·exact A _ zs zs
  split
  ·exact A _ zs zs
  ·exact A _ (by simp[kn]) (by simp[kn])
end
section
variable {S:cv}{h0:Hp}{n i j nl nw nl' nw':Nat}{m m':eO}{G G':Gs}{X X':Nat->Hx}{L L':jZ}{x x' x1 x2:eU}{t t' u y:bm}{a a' a0:az}{c c':ct}{f f':fe}{e e':mj}{b w v:Int}{b' b1 b2 f1 f2 n1 n2 δ ε r r':Int}{fine cm al al':Bool}{ρ:qI}{an:ii}{str:Int->Nat}{ks:List ay}{pick draw:Int}{sl:ByteArray}{o:vV}
def Dk.to (h:Dk n G i al a)(hb:al'=false->a.aO=true->(a.B=5->∀e,a.Z=.ext e->e.aL=true->∀j z,j<e.K->e.ab[j]? = some z->(G'.lk z.N.toNat).D=z.D)/\(a.B=7->a.O=3->∀z∈a.rd,(G'.lk z.N.toNat).D=z.D))(ha:al'=true->a.aO=true/\∃z∈a.rd,z.D<(G'.lk z.N.toNat).D):Dk n G' i al' a :=
 ⟨h.eI,h.fz,h.fD,h.ed,h.b3,h.b5,h.b0,h.fy,hb,ha⟩
theorem aaY (hb:a.aO=false)(h0:a.B=0)(hr:a.rd=[]):Dk n G i false a :=
 vM hb zo (λg=>by omega) (λ_=>by rw[hr];simp) (λf g=>by omega) (λe g=>by omega) (nL zo) (BV zo)
def Sv (hj:(u.aw[u.aI.toNat]?).isSome=true)(i:m.s.getD j 0=0):Xo S h0 n m L X j (cw u):=by
 unfold cw
 cases c:u.aw[u.aI.toNat]? with
 |none=>rw[c]at hj;cases hj
 |some p =>
  have d:∀a,some (if u.aE=true then lm u.me u.s (u.aF.map (·.J))else om u.me u.s p)=some a->a.aO=false/\a.B=0/\a.rd=[]:=λa b=>by
   cases b
   grind
  refine⟨λa _ b=>?_,λg=>(by cases g),λg=>(by cases g),λa _ b=>?_,λg=>absurd rfl g⟩
  ·grind[aaY]
  ·obtain⟨f,e,h⟩:=d a b
   exact⟨λ_=>i,λg=>by omega,λg=>by omega,λg=>by omega⟩
def abK (h:qF S h0 n x L)(hu:x.ad[j]? = some u)(am:i<n)(hj:j≠i)(aA:Gr (ke S) h0 n i (fi x.mem L (mW x.ad)) (fi m' L' X'))(hv:afQ x L o m')(O:m'.s.getD j 0=x.mem.s.getD j 0)(aB:x.mem.n<=m'.n) :
  (o.aN≠5->Xo S h0 n m' L' X' j u)/\(o.aN=5->Xo S h0 n m' L' X' j (iO u o.J o.ac.D)):=by
 have d:=h.ad j u hu
 have hI:=h.mi.ad j u hu
 have F:∀{τ:Int} {ks s v},τ<=x.mem.n->kX (ke S) h0 n (fi x.mem L (mW x.ad)) j τ ks s v->kX (ke S) h0 n (fi m' L' X') j τ ks s v:=λhτ g=>aA.bQ am hj hτ g
 refine⟨λt=>⟨λa p m=>?_,d.y,λK=>?_,λa p m=>by rw[O];exact d.sl a p m,λg=>by rw[O];exact d.off g⟩,λt=>?_⟩
 ·have f:=d.eJ a p m
  have ev:∀s,((fi m' L' X').lk s).D=((fi x.mem L (mW x.ad)).lk s).D:=λs=>hv.no t s
  refine f.to (λI E=>⟨λC e he hl k z t c=>?_,λC g4 z c=>?_⟩) λg=>?_
  ·rw[ev];exact(f.a4 I E).1 C e he hl k z t c
  ·rw[ev];exact(f.a4 I E).2 C g4 z c
  ·obtain⟨U,z,X,W⟩:=f.eS g
   grind
 ·obtain⟨a,a1,a2,a3,a4⟩:=d.w K
  exact⟨a,a1,⟨a2.1,zo⟩,λz c=>F a2.2 (a3 z c),λz c=>⟨(a4 z c).1,by rw[hv.no t];exact(a4 z c).2⟩⟩
 ·obtain⟨hp,al⟩:=hv.v5 t
  have h5:=hv.s5 t
  have R:∀z:jz,z.D<=(x.mem.l.getD z.N.toNat aa).D->z.N=o.J->z.D≠o.ac.D->z.D<(m'.l.getD z.N.toNat aa).D:=λz U X W=>by
   rw[h5,zp (by rw[X])]
   grind
  have A:∀z:jz,0<=z.N->(z.N=o.J->z.D=o.ac.D)->(x.mem.l.getD z.N.toNat aa).D=z.D->(m'.l.getD z.N.toNat aa).D=z.D:=λz U X W=>by
   rw[h5]
   grind
  have P:∀s:Nat,(x.mem.l.getD s aa).D<=(m'.l.getD s aa).D:=λs=>by
   rw[h5]
   grind
  have T:(∀a:az,u.aj=some a->MZ a.rd o.J o.ac.D=false\/(u.B≠4/\¬(u.B=1/\(!decide (a.B=8)&&a.aO)=true)))->Xo S h0 n m' L' X' j u:=λaf=>by
   have nn:∀a:az,MZ a.rd o.J o.ac.D=false->∀z∈a.rd,z.N=o.J->z.D=o.ac.D:=λa q z c e=>by
    have:=List.any_eq_false.1 q z c
    grind
   refine⟨λa p m=>?_,d.y,λK=>?_,λa p m=>by rw[O];exact d.sl a p m,λg=>by rw[O];exact d.off g⟩
   ·have f:=d.eJ a p m
    obtain⟨a0,V,r,h8,_⟩:=h.run hu p
    rw[m]at V;cases V
    refine f.to (λI E=>?_) λg=>?_
    ·have M:=(af a m).resolve_right λq=>q.2 ⟨p,by rw[decide_eq_false h8,E];rfl⟩
     refine⟨λC e he hl k z t c=>?_,λC g4 z c=>?_⟩
     ·obtain⟨_,e1,Q,hE⟩:=r.ext (.inr C)
      rw[he]at Q;cases Q
      have Z:z∈a.rd:=by rw[<-hE.ab];exact Ok c
      exact A z (r.rd.2 z Z).1 (nn a M z Z) ((f.a4 I E).1 C e he hl k z t c)
     ·exact A z (r.rd.2 z c).1 (nn a M z c) ((f.a4 I E).2 C g4 z c)
    ·obtain⟨U,z,X,W⟩:=f.eS g
     have W:z.D<(x.mem.l.getD z.N.toNat aa).D:=W
     have:=P z.N.toNat
     exact⟨U,z,X,by show z.D<(m'.l.getD z.N.toNat aa).D;omega⟩
   ·obtain⟨a,a1,a2,a3,a4⟩:=d.w K
    grind
  unfold iO
  cases M:u.aj with
  |none=>exact T λa ha=>by rw[M]at ha;cases ha
  |some a =>
   simp only
   split
   ·rename_i hw
    split
    ·rename_i K
     have:=hI.aI zo
     have:=hI.b.aI.1
     exact Sv (by rw[dg zo];rfl) (by rw[O];exact d.off zo)
    ·rename_i K
     split
     ·rename_i p
      obtain⟨a0,V,r,h8,f⟩:=h.run hu p.1
      rw[M]at V;cases V
      have Y:a.aO=true:=by grind
      refine⟨λb _ hb=>?_,λg=>d.y g,λg=>absurd g K,λb I E=>by rw[O];exact d.sl b I (by rw[M];exact E),λg=>by rw[O];exact d.off g⟩
      have hb:some a=some b:=hb
      cases hb
      refine f.to (λg=>by cases g) λ_=>⟨Y,?_⟩
      obtain⟨z,c,H⟩:=List.any_eq_true.1 hw
      simp only[GE,decide_eq_true_eq,zaH,decide_eq_false_iff_not]at H
      refine⟨z,c,R z ?_ H.1 H.2⟩
      have m:2<=a.B:=by rcases f.b0 Y with q|q<;>omega
      have hg:=(r.all m).bQ _ (zau.2 ⟨z,c,rfl⟩)
      have U:=hg.v0
      rcases hg.c8 with q|q
      ·have q:(x.mem.l.getD z.N.toNat aa).D=z.D:=q
       omega
      ·have q:a.aG<(x.mem.l.getD z.N.toNat aa).D:=q
       grind
     all_goals grind
   all_goals grind
end
section
variable {S:cv}{h0:Hp}{n i nl nw:Nat}{x x':eU}{L L':jZ}{t t' u:bm}{a a':az}{G:Gs}{m:eO}{o:vV}{ρ:qI}{an:ii}
theorem Zd (h:o.aN≠9):(ag m o).1.s=m.s:=by
 have:(bv m o).1.s=m.s:=by
  unfold bv
  repeat' split
  all_goals first|rfl|contradiction
 grind[ag]
def ad3 {q:az×Int×Int}:3<=(j0 q).B:=by
 unfold j0;repeat' split
 all_goals simp
def af0 (h:3<=a.B)(i:a.B<=6)(g:a.Z≠.none):3<=(ah ρ a an).B:=by
 unfold ah
 rw[zn,zn,zn,zn,zn]
 have d:∀y:az,(gZ y).B=y.B:=λy=>by
  show(if y.wr=true then { y with I:=y.Z.I }else y).B=_
  grind
 unfold bu
 rw[d]
 split
 ·exact h
 split
 ·grind
 cases b:a.Z with
 |none=>exact absurd b g
 |fetch f =>
  show 3<=(cq ρ { a with Z:=.fetch (bp f an) } (bp f an)).B
  unfold cq
  split
  ·grind
  split
  ·exact ad3
  grind
 |ext e =>
  show 3<=(if a.B=4 then rB { { a with Z:=.ext (fa e an) }with I:=(fa e an).I } a.v.a9 else ip { { a with Z:=.ext (fa e an) }with I:=(fa e an).I } 3 0 (-1)).B
  grind
 |com c=>show(3:Int)<=7;decide
def acg (k:jJ S h0 n G nl nw i a)(hi:i<m.s.length)(H:a.B≠8)(C:3<=a.B->a.B<=6->a.Z≠.none)(d:a.B=2->0<=a.I/\a.I<4611686018427387904)
  (D:(a.B=0->m.s.getD i 0=0)/\(a.B=1\/a.B=2->m.s.getD i 0=1)/\(3<=a.B->m.s.getD i 0=a.a2+1)/\(a.B=2->a.I=a.a2))
  (hb:(a.aq=true->(ah ρ a an).aq=true/\(ah ρ a an).a2=a.a2)) :
  (∀j,j≠i->(ag m (ak a).1).1.s.getD j 0=m.s.getD j 0)/\(a.B≠7->((ah ρ a an).B=0->(ag m (ak a).1).1.s.getD i 0=0)/\((ah ρ a an).B=1\/(ah ρ a an).B=2->(ag m (ak a).1).1.s.getD i 0=1)/\(3<=(ah ρ a an).B->(ag m (ak a).1).1.s.getD i 0=(ah ρ a an).a2+1)/\((ah ρ a an).B=2->(ah ρ a an).I=(ah ρ a an).a2))/\(a.B=7->(ag m (ak a).1).1.s.getD i 0=0):=by
 have b:∀(w:Int),(∀j,j≠i->(m.s.set i w).getD j 0=m.s.getD j 0)/\(m.s.set i w).getD i 0=w:=λw=>by
  refine⟨λj hj=>?_,?_⟩
  ·grind
  ·rw[ge,zap hi];rfl
 have q:∀w:Int,(ag m ⟨9,a.me,0,w,aa,aa⟩).1.s=m.s.set i w:=λw=>by
  obtain⟨c,e⟩:=Bm (m:=m) (a:=a.me) (w:=w) (o:=0) (u:=aa) (v:=aa) (by rw[k.me];omega)
  rw[e]
  show m.s.set a.me.toNat w=_
  rw[k.me];rfl
 have t:=k.st
 by_cases F:a.B=0
 ·grind
 by_cases p:a.B=2
 ·have h:(ak a).1=⟨9,a.me,0,IntKind.wrap .u64 (a.I+1),aa,aa⟩:=by grind
  have r:ah ρ a an=iq ρ a:=by grind
  have A:3<=(ah ρ a an).B:=by
   rw[r];exact ad3
  have d:=d p
  have x:IntKind.wrap .u64 (a.I+1)=a.I+1:=Ul zo zo
  have l:=(hb (by rw[k.aq,p];rfl)).2
  have:=D.2.2.2 p
  rw[h,q,x]
  exact⟨(b _).1,λ_=>⟨λg=>by omega,λg=>by omega,λ_=>by rw[(b _).2,l];omega,λg=>by omega⟩,λg=>by omega⟩
 by_cases z:a.B=7
 ·have h:(ak a).1=⟨9,a.me,0,0,aa,aa⟩:=by grind
  grind
 by_cases E:a.B=1
 ·have h:(ak a).1=⟨6,0,0,0,aa,aa⟩:=by grind
  have r:ah ρ a an={ a with aq:=true,a2:=an.word,I:=an.word,B:=2 }:=by grind
  grind[Zd]
 ·have h:(ak a).1=a.Z.next.1:=by grind
  have y:a.Z.next.1.aN≠9:=by
   cases a.Z with
   |none=>decide
   |fetch f =>
    show(dt f).1.aN≠9
    unfold dt
    grind[kn]
   |ext e =>
    show(gO e).1.aN≠9
    unfold gO
    grind[kn]
   |com c =>
    show(au c).1.aN≠9
    unfold au
    repeat' split
    all_goals simp[kn]
  have A:=af0 (ρ:=ρ) (an:=an) (a:=a) zo zo (C zo zo)
  have l:=(hb (by rw[k.aq];simp;omega)).2
  rw[h,Zd y]
  exact⟨λ_ _=>rfl,λ_=>⟨λg=>by omega,λg=>by omega,λ_=>by rw[l];exact D.2.2.1 zo,λg=>by omega⟩,λg=>absurd g z⟩
end
section
variable {S:cv}{h0:Hp}{n i j nl nw nl' nw':Nat}{m m':eO}{G G':Gs}{X X':Nat->Hx}{L L':jZ}{x x' x1 x2:eU}{t t' u y z:bm}{a a' a0:az}{c c':ct}{f f':fe}{e e':mj}{b w v:Int}{b' b1 b2 f1 f2 n1 n2 δ ε r r':Int}{fine cm al al':Bool}{ρ:qI}{an:ii}{str:Int->Nat}{ks:List ay}{pick draw:Int}{sl:ByteArray}{o:vV}
theorem qv (c:m.s.getD j 0=0):Xo S h0 n m L X j (cw u):=by
 cases b:u.aw[u.aI.toNat]? with
 |some p=>exact Sv (by rw[b];rfl) c
 |none =>
  unfold cw
  rw[b]
  exact⟨λa g=>(by cases g),λg=>(by cases g),λg=>(by cases g),λa g=>(by cases g),λ_=>c⟩
theorem Kv (h1:y.B≠1)(h2:y.B≠2)(h4:y.B≠4)(hs:m.s.getD j 0=0):Xo S h0 n m L X j y :=
 ⟨λa g=>absurd g h1,λg=>absurd g h2,λg=>absurd g h4,λa g=>absurd g h1,λ_=>hs⟩
def abD (a:y.B≠1)(b:m.s.getD j 0=0):Xo S h0 n m L X j (lN y draw):=by
 show Xo S h0 n m L X j (if nK y.a7 draw=0 then _ else _)
 grind[qv,Kv]
theorem Wv (c:y.B=5)(b:m.s.getD j 0=0):Xo S h0 n m L X j (lu y):=by
 rcases OC (y:=y)with⟨a,_⟩|⟨z,a,_⟩
 all_goals grind[Kv,qv]
def aa2 (b:m.s.getD j 0=0)(i:a.O=5->a.aY<j)(f:y.aj=some a)(h:a.O=3->y.bD=false->(0<=a.I/\a.I<=m.n)/\(∀z∈a.rd,kX (ke S) h0 n (fi m L X) j a.I [] z.N.toNat z.D)/\∀z∈a.rd,0<=z.N/\(m.l.getD z.N.toNat aa).D=z.D):Xo S h0 n m L X j (i7 y a draw pick sl):=by
 unfold i7
 split
 ·rename_i e
  split
  ·rename_i g
   exact⟨λa g=>(by cases g),λ_=>⟨g.1,i e⟩,λg=>(by cases g),λa g=>(by cases g),λ_=>b⟩
  ·show Xo S h0 n m L X j (if nK _ draw=0 then _ else _)
   split
   all_goals grind[qv,Kv]
 split
 ·rename_i c
  split
  ·exact qv b
  ·rename_i d
   exact⟨λa g=>(by cases g),λg=>(by cases g),λ_=>⟨a,f,h c (by simpa using d)⟩,λa g=>(by cases g),λ_=>b⟩
 split
 ·unfold Br
  grind[qv]
 ·unfold yX
  grind[qv,Wv]
def adI (c:t.B≠1)(d:t.B≠2)(h:Xo S h0 n m L X j t):Xo S h0 n m L X j (gK t):=by
 unfold gK
 split
 ·rename_i a
  have b:=h.off c
  grind[qv,Kv]
 ·exact h
def AP (ht:x.ad[i]? = some t):(bw ρ x i t draw sl).ad[i]? = some (thrTell ρ t (ag x.mem (ai t).1).2 draw (x.au+1) sl)/\∀j,j≠i->(x.ad[j]? = none/\(bw ρ x i t draw sl).ad[j]? = none)\/∃u,x.ad[j]? = some u/\(bw ρ x i t draw sl).ad[j]? = some (if(ai t).1.aN=5 then iO u (ai t).1.J (ai t).1.ac.D else u):=by
 by_cases a:(ai t).1.aN=5
 ·obtain⟨c,d⟩:=Ss (ρ:=ρ) (draw:=draw) (sl:=sl) ht a
  refine⟨c,λj hj=>?_⟩
  rcases d j hj with q|⟨u,e,f⟩
  all_goals grind
 ·have b:=Bd (ρ:=ρ) (draw:=draw) (sl:=sl) ht a
  refine⟨b.bq,λj hj=>?_⟩
  rw[b.ot j hj]
  grind
def Xe (h:qF S h0 n x L)(ht:x.ad[i]? = some t):mW (bw ρ x i t draw sl).ad=eu (mW x.ad) i (CX (thrTell ρ t (ag x.mem (ai t).1).2 draw (x.au+1) sl)):=by
 obtain⟨d,c⟩:=AP (ρ:=ρ) (draw:=draw) (sl:=sl) ht
 funext j
 unfold eu
 by_cases g:j=i
 ·grind[p6]
 ·rw[zn g]
  rcases c j g with⟨a,b⟩|⟨u,a,b⟩
  ·unfold mW;rw[a,b]
  ·rw[p6 b,p6 a]
   split
   ·exact(Zp h.mi.set (h.mi.ad j u a)).2.2
   ·rfl
def aa4 (h:qF S h0 n x L)(ht:x.ad[i]? = some t)(hj:j≠i):(ag x.mem (ai t).1).1.s.getD j 0=x.mem.s.getD j 0:=by
 obtain⟨y,u,w,z⟩:=h.i4 ht
 by_cases b:(ai t).1.aN=9
 ·have l:(ai t).1.J=i:=by
   by_cases d:t.B=1
   ·obtain⟨a,p,o,v,r⟩:=h.run ht d
    unfold ai at b ⊢
    rw[zp d,p]at b ⊢
    simp only at b ⊢
    unfold ak at b ⊢
    have q:=o.me
    split at b
    ·grind
    ·rename_i g
     rw[zn g]
     split at b
     ·cases b
     ·rename_i m
      rw[zn m]
      split at b
      ·grind
      ·rename_i e
       rw[zn e]
       split at b
       ·grind
       ·exfalso
        cases c:a.Z with
        |none=>rw[c]at b;cases b
        |fetch f =>
         rw[c]at b
         grind[dt,kn]
        |ext f =>
         rw[c]at b
         grind[gO,kn]
        |com f =>
         rw[c]at b
         have b:(au f).1.aN=9:=b
         unfold au at b
         repeat' split at b
         all_goals simp[kn]at b
   ·exfalso
    unfold ai at b
    grind[kn]
  have k:(ag x.mem (ai t).1).1.s=(bv x.mem (ai t).1).1.s:=by grind[ag]
  rw[k]
  unfold bv
  rw[b]
  simp only[show ¬((9:Int)=1) by decide,show ¬((9:Int)=2) by decide,show ¬((9:Int)=3) by decide,show ¬((9:Int)=4) by decide,show ¬((9:Int)=5) by decide,show ¬((9:Int)=6) by decide,show ¬((9:Int)=7) by decide,show ¬((9:Int)=8) by decide,if_false,if_true]
  split
  ·show(x.mem.s.set (ai t).1.J.toNat _).getD j 0=_
   rw[l,ge,zai zo,<-ge]
  ·rfl
 ·rw[Zd b]
def qF.dM (h:qF S h0 n x L)(ht:x.ad[i]? = some t)(h1:t.B=1)(hn:t.aj=some a)(h5:a.B<=5):∀s,(fV x.mem s).held=true->(fV x.mem s).ar≠i:=λs hs e=>by
 obtain⟨k,k1,_,_,k4⟩:=h.held s hs
 have:k=i:=by omega
 subst this
 rw[bo ht]at k4
 have p:=(fy (m:=x.mem) (L:=L) h1 hn).cr (pn h5)
 rw[p.2.2.2.2.1]at k4;cases k4
theorem acT (hρ:da ρ)(h:qF S h0 n x L)(ht:x.ad[i]? = some t)(Q:(ai t).2=true)(hd:0<=draw)
  (aH:MI S h0 n (bw ρ x i t draw sl) L')
  (M:t.B=1->∀a,t.aj=some a->qA S h0 n x.mem L (mW x.ad) i a (ah ρ a (ag x.mem (ak a).1).2) (ag x.mem (ak a).1).1 L'):Xo S h0 n (bw ρ x i t draw sl).mem L' (mW (bw ρ x i t draw sl).ad) i (thrTell ρ t (ag x.mem (ai t).1).2 draw (x.au+1) sl):=by
 obtain⟨i1,i2,i3,i4⟩:=h.i4 ht
 have hT:=h.mi.ad i t ht
 have X:=h.ad i t ht
 have E:=VS h ht
 have ac:i<x.mem.s.length:=by have:=h.mi.sl;omega
 have c:(bw ρ x i t draw sl).mem=(ag x.mem (ai t).1).1:=rfl
 obtain⟨aE,aF⟩:=AP (ρ:=ρ) (draw:=draw) (sl:=sl) ht
 by_cases j:t.B=1
 ·obtain⟨a,J,d,h8,F⟩:=h.run ht j
  have M:=M j a J
  have aD:=d.st
  have K:(ai t).1=(ak a).1:=by grind
  rw[K]at E c
  have A:=X.sl a j J
  have p:=acg (ρ:=ρ) (an:=(ag x.mem (ak a).1).2) (m:=x.mem) d ac h8 (λg3 g6 q=>by
   by_cases s3:a.B=3
   ·obtain⟨_,f,e,_⟩:=d.cx s3;rw[q]at e;cases e
   by_cases s6:a.B=6
   ·obtain⟨f,e,_⟩:=d.com s6;rw[q]at e;cases e
   ·obtain⟨_,f,e,_⟩:=d.ext zo;rw[q]at e;cases e) (λg=>by have:=d.a2 zo;have:=h.mi.T;have e:(fi x.mem L (mW x.ad)).T=x.mem.n:=rfl;omega) ⟨A.s0,A.s1,A.s3,A.s2⟩ M.a2.1
  by_cases C:a.B=7
  ·have et:∀q,ah ρ a q={ a with B:=8 }:=λq=>by
    unfold ah;rw[zn,zn,zn,zn,zp C]
   have aC:=(d.out zo).1
   have he:thrTell ρ t (ag x.mem (ai t).1).2 draw (x.au+1) sl=i7 { t with aj:=some { a with B:=8 },aP:=if a.aq&&!a.aq then x.au+1 else t.aP } { a with B:=8 } draw (x.au+1) sl:=by
    unfold thrTell
    rw[zp j,J]
    simp only
    rw[et]
    unfold ml
    rw[zp ⟨rfl,by show a.O≠0;omega⟩]
   rw[he]
   have P:=p.2.2 C
   rw[<-c]at P
   have o7:AZ a:=⟨C⟩
   refine aa2 P (λg5=>?_) rfl λg3 ga=>?_
   ·have:=F.fy (Bv o7 g5).2.1
    rw[(Bv o7 g5).2.2]at this;exact this
   ·obtain⟨aA,e,V⟩:=F.b3 C g3
    have al:a.Z.wr=false:=by rw[V]
    have Y:a.aG=a.I:=by unfold az.aG;rw[al];simp
    rw[et]at M
    have eL:=M.bj.same rfl
    have en:(ak a).1=⟨9,a.me,0,0,aa,aa⟩:=by unfold ak;rw[zn,zn,zn,zp C]
    obtain⟨k,ek⟩:=Bm (m:=x.mem) (a:=a.me) (w:=0) (o:=0) (u:=aa) (v:=aa) (by rw[d.me];omega)
    rw[en,ek]at c
    have hX:∀k,k≠i->mW (bw ρ x i t draw sl).ad k=mW x.ad k:=λk hk=>by
     rw[Xe h ht];exact jh hk
    have H:=d.a2 zo
    refine⟨⟨(by show 0<=a.I;omega),by rw[c];exact H.2.2.1⟩,λz R=>?_,λz R=>⟨(d.rd.2 z R).1,by rw[c];exact(F.a4 ga aA).2 C g3 z R⟩⟩
    have U:=(d.all zo).bQ _ (zau.2 ⟨z,R,rfl⟩)
    rw[Y]at U
    have am:kX (ke S) h0 n (fi x.mem L (mW x.ad)) i a.I [] z.N.toNat z.D:=⟨U.v0,U.c8,U.up,λr hr=>by cases hr⟩
    exact kX.own (G:=fi x.mem L (mW x.ad)) (by show((bw ρ x i t draw sl).mem.l.getD _ aa).D=_;rw[c];rfl) (λk hk=>hX k hk) eL am
  ·obtain⟨k1,k2,k3,k4,k5,k6⟩:=JR (ρ:=ρ) (an:=(ag x.mem (ak a).1).2) (draw:=draw) (pick:=x.au+1) (sl:=sl) j J h8 C rfl
   rw[K]
   refine⟨λb _ H=>?_,λg=>by omega,λg=>by omega,λb _ H=>?_,λg=>absurd k1 g⟩
   ·rw[k2]at H;cases H
    rw[k4]
    by_cases af:a.B=0\/a.B=1
    ·exact ai0 d F af
    by_cases s2:a.B=2
    ·exact ajJ hρ d F s2
    by_cases s3:a.B=3
    ·exact aja hρ h.mi.set d F (h.dM ht j J zo) s3
    by_cases aB:a.B=4\/a.B=5
    ·refine ahw d F (h.dM ht j J zo) (λs=>?_) aB
     show((bw ρ x i t draw sl).mem.l.getD s aa).D=_
     rw[c]
     exact E.no (Ld zo d) s
    ·exact(aaw hρ h ht j J zo M).2
   ·rw[k2]at H;cases H
    rw[c]
    obtain⟨q1,q2,q3,q4⟩:=p.2.1 C
    exact⟨q1,q2,q3,q4⟩
 ·have hs:(bw ρ x i t draw sl).mem.s.getD i 0=0:=by
   rw[c,Zd]
   ·exact X.off j
   ·unfold ai
    rw[zn j]
    repeat' split
    all_goals simp[kn]
  unfold thrTell
  rw[zn j]
  split
  ·rename_i W
   unfold pC
   split
   ·exact⟨λa g=>absurd g j,λ_=>X.y W,λg=>(by(have g:t.B=4:=g);omega),λa g=>absurd g j,λ_=>hs⟩
   ·exact abD j hs
  split
  ·rename_i h5
   exact Wv h5 hs
  ·rename_i W h5
   unfold ai at Q
   rw[zn j,zn W,zn h5]at Q;cases Q
end
section
variable {S:cv}{h0:Hp}{n i j:Nat}{L L':jZ}{x:eU}{t u:bm}{a:az}{ρ:qI}{draw:Int}{sl:ByteArray}
def WQ (h:qF S h0 n x L)(ht:x.ad[i]? = some t)(Z:x.au<=1000000)(N:(ai t).2=true)(Y:∀ρ,da ρ->t.B=1->∀a,t.aj=some a->∀n∈(ah ρ a (ag x.mem (ak a).1).2).af,zM n)(X:da ρ)(hd:0<=draw):∃L',qF S h0 n (bw ρ x i t draw sl) L'/\(t.B=1->∀a,t.aj=some a->qA S h0 n x.mem L (mW x.ad) i a (ah ρ a (ag x.mem (ak a).1).2) (ag x.mem (ak a).1).1 L')/\(t.B≠1->L'=L):=by
 obtain⟨H,R,U,Q⟩:=h.i4 ht
 obtain⟨_,m⟩:=U3 h.mi ht Z N Y
 obtain⟨L',p,F,J,I⟩:=m ρ draw sl X hd
 have b:=VS h ht
 have d:(bw ρ x i t draw sl).mem=(ag x.mem (ai t).1).1:=rfl
 obtain⟨C,w⟩:=AP (ρ:=ρ) (draw:=draw) (sl:=sl) ht
 have z:=Xe (ρ:=ρ) (draw:=draw) (sl:=sl) h ht
 have c:=F.to
 rw[<-z,<-d]at c
 have E:∀y∈L,y∈L':=λy k=>by
  have v:∀{A B:Gs},Gr (ke S) h0 n i A B->∀y∈A.L,y∈B.L:=λM=>by
   induction M with
   |refl=>exact λy k=>k
   |step _ _ ht _ _ ih =>
    rcases ht.L with e|⟨K,O,_,e,_,_⟩
    ·grind
    ·rw[e];exact λy k=>ur.2 (.inr (ih y k))
  exact v c y k
 refine⟨L',⟨p,λs=>?_,h.fx,λj W hj=>?_⟩,J,I⟩
 ·have f:(x.mem.l.getD s aa).D=0\/∃y∈L',y.1=(x.mem.l.getD s aa).D:=by
   rcases h.lv s with q|⟨y,r,o⟩
   all_goals grind
  rw[d]
  by_cases m:(ai t).1.aN=5
  ·rw[b.s5 m]
   split
   ·rename_i g
    rcases(b.v5 m).2 with q|⟨_,y,r,o⟩
    all_goals grind
   all_goals grind
  ·rw[b.no m];exact f
 ·by_cases g:j=i
  ·subst g
   grind[acT]
  ·rcases w j g with⟨_,o⟩|⟨u,r,o⟩
   ·grind
   ·rw[o]at hj;cases hj
    obtain⟨P,V⟩:=abK (m':=(bw ρ x i t draw sl).mem) (L':=L') (X':=mW (bw ρ x i t draw sl).ad) h r H g c b (aa4 h ht g) c.T
    grind
def OZ (h:qF S h0 n x L)(ht:x.ad[i]? = some t)(b:(ai t).2=false):qF S h0 n (kz x i t) L:=by
 have d:=ZR h.mi ht b
 have c:=(Nm.1 ht).1
 have e:t.B≠1:=λg=>by
  obtain⟨a,p,o,m,_⟩:=h.run ht g
  unfold ai at b
  grind[UY]
 have f:t.B≠2:=λg=>by unfold ai at b;rw[zn e,zp g]at b;cases b
 have l:mW (kz x i t).ad=mW x.ad:=by
  funext k
  by_cases g:k=i
  ·subst g
   show mW (x.ad.set k (gK t)) k=_
   rw[p6 (zap c),p6 ht]
   exact(Sk h.mi.set (h.mi.ad k t ht) b).2.2
  ·show mW (x.ad.set i (gK t)) k=_
   unfold mW
   rw[zai (zbr g)]
 refine⟨d,h.lv,h.fx,λj u hj=>?_⟩
 rw[l]
 have hj:(x.ad.set i (gK t))[j]? = some u:=hj
 by_cases g:j=i
 ·subst g
  rw[zap c]at hj;cases hj
  exact adI e f (h.ad j t ht)
 ·rw[zai (zbr g)]at hj
  exact h.ad j u hj
def adA {s:cv}{rows:List (List (List co))}(j:rows.length<=4)(hs0:0<=s.start)(l:∀r∈rows,r.length<=6/\∀p∈r,nI p) :
  qF (eS s rows.length) (λc=>(gy s rows).mem.w.getD c.toNat 0) rows.length (gy s rows) []:=by
 have d:=Z8 j hs0 l
 have a:∃c,(gy s rows).mem={ qK (eS s rows.length).bf with w:=(qK (eS s rows.length).bf).w.set 5 14,aT:=c }:=by
  have h:=jp (n:=(eS s rows.length).a0) (show(32:Int)<=256 by decide)
  have e:lg 5 (qK (eS s rows.length).bf).w=true:=by grind[lg,qK]
  refine⟨IntKind.wrap .i64 (0+1),?_⟩
  show(ag (qK (eS s rows.length).bf) ⟨2,5,0,14,aa,aa⟩).1=_
  unfold ag bv
  simp only[e]
  rfl
 obtain⟨c,a⟩:=a
 refine⟨d,λk=>.inl ?_,?_,λi t b=>?_⟩
 ·rw[a]
  show((List.replicate _ aa).getD k aa).D=0
  rw[ge,zaP]
  split<;>rfl
 ·have g:(eS s rows.length).aB=held rows.length 1 4:=rfl
  grind[held]
 ·have b:(l8 (eS s rows.length) 0 rows)[i]? = some t:=b
  rw[N9 (r:=[]),za0]at b
  obtain⟨r,f,rfl⟩:=b
  show Xo _ _ _ _ _ _ _ (kW _)
  refine qv ?_
  rw[a]
  show(List.replicate _ (0:Int)).getD i 0=0
  rw[ge,zaP]
  split<;>rfl
end
structure NN (f:Pf):Prop where
 cf:0<=f.cf
 cn:0<=f.cn
 u:0<=f.u
 d:0<=f.d
 r:0<=f.r
 w:0<=f.w
 bt:f.bt<=1
section
variable {S:cv}{h0:Hp}{n i j:Nat}{L L':jZ}{x:eU}{t u:bm}{a:az}{ρ:qI}{draw:Int}{sl:ByteArray}{p:Ps}
def ahC (h:∀i,i<4->NN (p i)):-1<=jq p:=by
 have e:∀i,i<4->0<=cP p i:=λi c=>by
  have:=h i c
  unfold cP;split
  ·exact this.cf
  ·exact this.cn
 have a:∀i,i<4->0<=iy p i:=λi c=>by
  have:=h i c
  have s:0<=Wt i*((p i).u+oz (p i).o):=zbS (by have:=(O4 i).1;omega) (by have:=this.u;have:=(xT (b:=(p i).o)).1;omega)
  have f:0<=KK*(p i).d:=zbS zd this.d
  have:=this.r
  have:=(h i c).w
  grind
 have y:qO p<=1:=by
  have v:=(h 0 zo).bt;have g:=(h 1 zo).bt;have C:=(h 2 zo).bt;have l:=(h 3 zo).bt
  unfold qO
  repeat' split
  all_goals omega
 have B:0<=mC p:=by
  have k:∀i j,0<=tP p i j:=λi j=>UG.1
  grind
 have q:=e 0 zo;have A:=e 1 zo;have D:=e 2 zo;have m:=e 3 zo
 have z:=a 0 zo;have x:=a 1 zo;have n:=a 2 zo;have t:=a 3 zo
 unfold jq
 grind
def ajF (h:qF S h0 n x L)(ht:x.ad[i]? = some t):NN (fv x.mem L t):=by
 have j:=h.mi.ad i t ht
 have k:=h.eH ht
 have z:AA=879:=rfl
 have s:A0=871:=rfl
 have hj:t.B≠6->1<=tu t:=λg=>by have:=j.aI g;unfold tu;omega
 have d:∀fine,0<=cT fine x.mem L t:=λfine=>by
  unfold cT
  split
  ·rename_i f
   obtain⟨a,q,e⟩:=k.aj f
   rw[q]
   have:=(HS (fine:=fine) (m:=x.mem) (L:=L) e).1
   exact acV zo
  split
  ·grind
  split
  ·rename_i e
   have:=(j.ps e).1
   grind
  split
  ·grind
  split
  ·rename_i v
   have:=k.sl v
   grind
  ·omega
 have o:∀c,fq t=some c->0<=rC c/\0<=wC c:=λc b=>by
  unfold fq pF at b
  split at b
  ·rename_i f
   obtain⟨a,w,p,C,u⟩:=h.run ht f
   rw[w]at b
   have b:ft a=some c:=b
   obtain⟨l,y,r⟩:=jO b
   refine⟨((Vj p u).com c l y).1,?_⟩
   have A:=(p.cy c l).1.ok.ba r
   grind[wC]
  ·cases b
 refine⟨d true,d false,?_,?_,?_,?_,adS.2⟩
 ·show 0<=uT t
  unfold uT
  grind
 ·show 0<=dT t
  unfold dT
  split
  all_goals grind
 ·show 0<=(match fq t with|some c=>rC c|none=>0:Int)
  grind
 ·show 0<=(match fq t with|some c=>wC c|none=>0:Int)
  grind
theorem qF.fk (h:qF S h0 n x L):-1<=jq (av x L):=ahC λi _=>by
 unfold av
 cases ht:x.ad[i]? with
 |none=>exact⟨zab _,zab _,zab _,zab _,zab _,zab _,(show(0:Int)<=1 by decide)⟩
 |some t=>exact ajF h ht
end
structure UB (f:Pf):Prop where
 cf:f.cf<=1785
 cn:f.cn<=1785
 u:f.u<=1
 d:f.d<=8
 r:f.r<=102
 w:f.w<=176
 bt:0<=f.bt
section
variable {S:cv}{h0:Hp}{n i j:Nat}{L L':jZ}{x:eU}{t u:bm}{a:az}{ρ:qI}{draw:Int}{sl:ByteArray}{p:Ps}
def ah7 (h:∀i,i<4->UB (p i)):jq p<=186000:=by
 have e:∀i,i<4->cP p i<=1785:=λi c=>by
  have:=h i c
  unfold cP;split
  ·exact this.cf
  ·exact this.cn
 have a:∀i,i<4->iy p i<=2*Wt i+43200+278:=λi c=>by
  have:=h i c
  have t:Wt i*((p i).u+oz (p i).o)<=Wt i*2:=zby (by have:=this.u;have:=(xT (b:=(p i).o)).2;omega) (by have:=(O4 i).1;omega)
  have g:KK*(p i).d<=KK*8:=zby this.d zd
  have f:KK*8=43200:=rfl
  have:=this.r
  have:=(h i c).w
  grind
 have z:0<=qO p:=by
  have x:=(h 0 zo).bt;have l:=(h 1 zo).bt;have D:=(h 2 zo).bt;have m:=(h 3 zo).bt
  unfold qO
  repeat' split
  all_goals omega
 have C:mC p<=1144:=by
  have k:∀i j,tP p i j<=1:=λi j=>UG.2
  grind
 have s:=e 0 zo;have B:=e 1 zo;have E:=e 2 zo;have n:=e 3 zo
 have A:iy p 0<=2*832+43200+278:=a 0 zo
 have y:iy p 1<=2*416+43200+278:=a 1 zo
 have q:iy p 2<=2*208+43200+278:=a 2 zo
 have v:iy p 3<=2*104+43200+278:=a 3 zo
 unfold jq
 grind
def ajm (h:qF S h0 n x L)(ht:x.ad[i]? = some t)(H:t.aw.length<=4):UB (fv x.mem L t):=by
 have k:=h.mi.ad i t ht
 have l:=h.eH ht
 have B:AA=879:=rfl
 have s:A0=871:=rfl
 have hj:tu t<=4:=by have:=k.b.aI.1;unfold tu;omega
 have e:∀fine,cT fine x.mem L t<=1785:=λfine=>by
  unfold cT
  split
  ·rename_i g
   obtain⟨a,q,f⟩:=l.aj g
   rw[q]
   have:=(HS (fine:=fine) (m:=x.mem) (L:=L) f).2
   grind[cA]
  split
  ·grind
  split
  ·rename_i f
   have:=(k.ps f).2
   grind
  split
  ·grind
  split
  ·rename_i w
   have:=l.sl w
   grind
  ·omega
 have p:∀c,fq t=some c->rC c<=102/\wC c<=176:=λc d=>by
  unfold fq pF at d
  split at d
  ·rename_i g
   obtain⟨a,y,j,E,v⟩:=h.run ht g
   rw[y]at d
   have d:ft a=some c:=d
   obtain⟨o,z,C⟩:=jO d
   refine⟨((Vj j v).com c o z).2,?_⟩
   obtain⟨u,F,A,_⟩:=j.cy c o
   have D:=u.ok.len.a6
   have r:c.cells.length<=96:=by rw[A];exact j.cj.cells.2.2
   grind[wC]
  ·cases d
 refine⟨e true,e false,?_,?_,?_,?_,adS.1⟩
 ·show uT t<=1
  unfold uT
  grind
 ·show dT t<=8
  unfold dT
  split
  all_goals grind
 ·show(match fq t with|some c=>rC c|none=>0:Int)<=102
  grind
 ·show(match fq t with|some c=>wC c|none=>0:Int)<=176
  grind
def qF.eE (h:qF S h0 n x L)(hj:∀(i:Nat)(t:bm),x.ad[i]? = some t->t.aw.length<=4):jq (av x L)<=186000:=ah7 λi _=>by
 unfold av
 cases ht:x.ad[i]? with
 |none=>exact⟨(show(0:Int)<=1785 by decide),(show(0:Int)<=1785 by decide),(show(0:Int)<=1 by decide),(show(0:Int)<=8 by decide),(show(0:Int)<=102 by decide),(show(0:Int)<=176 by decide),zab _⟩
 |some t=>exact ajm h ht (hj i t ht)
end
def UI (x:eU)(t:bm):Prop:=∀ρ,da ρ->t.B=1->∀a,t.aj=some a->∀n∈(ah ρ a (ag x.mem (ak a).1).2).af,zM n
def Pk0 (x:eU)(i:Nat)(x':eU):Prop:=∃t,x.ad[i]? = some t/\(((ai t).2=true/\UI x t/\∃ρ sl,da ρ/\x'=bw ρ x i t 0 sl)\/((ai t).2=false/\x'=kz x i t))
inductive Rnd (n:Nat):Nat->eU->eU->Prop
 |nil {x:eU}:Rnd n n x x
 |cons {k:Nat} {x x1 x2:eU}:k<n->Pk0 x k x1->Rnd n (k+1) x1 x2->Rnd n k x x2
section
variable {S:cv}{h0:Hp}{n i j:Nat}{L L':jZ}{x x':eU}{t u:bm}{a:az}
def Sx (h:qF S h0 n x L)(k:x.au<=1000000)(j:Pk0 x i x'):∃L' t,x.ad[i]? = some t/\qF S h0 n x' L'/\Dn x x' L L' i t/\x'.au=x.au+1:=by
 obtain⟨t,b,⟨a,g,ρ,sl,c,rfl⟩|⟨a,rfl⟩⟩:=j
 ·obtain⟨L',d,e,f⟩:=WQ (sl:=sl) h b k a g c (zab 0)
  exact⟨L',t,b,d,ah5 c h b a e f,rfl⟩
 ·exact⟨L,t,b,OZ h b a,ZZ h b a,rfl⟩
end
section
variable {S:cv}{h0:Hp}{n i j k:Nat}{L L':jZ}{x x':eU}{t u:bm}{a:az}{c:ct}{s v:Int}
theorem aek:fq (iO u s v)=fq u:=by
 rcases H8 (u:=u) (s:=s) (v:=v)with q|q|⟨b,q,_⟩
 ·rw[q]
 ·rw[q];rfl
 ·rw[q]
  have a:fq u=none:=by unfold fq pF;rw[zn];rfl
  rw[a]
  unfold cw fq pF
  split
  ·simp only[if_true]
   show(some _:Option az).bind ft=none
   show ft _=none
   refine j5 ?_
   split<;>simp
  ·rfl
def TM (h:Pk0 x i x')(hj:j≠i):(x'.ad[j]?).bind fq=(x.ad[j]?).bind fq:=by
 obtain⟨t,d,⟨a,g,ρ,sl,f,rfl⟩|⟨a,rfl⟩⟩:=h
 ·obtain⟨_,e⟩:=AP (ρ:=ρ) (draw:=0) (sl:=sl) d
  rcases e j hj with⟨b,c⟩|⟨u,b,c⟩
  ·grind
  ·rw[b,c]
   grind[aek]
 ·show((x.ad.set i (gK t))[j]?).bind fq=_
  rw[zai (zbr hj)]
end
def Vc (x:eU)(j:Nat):Prop:=∃c,(x.ad[j]?).bind fq=some c
def Bad (x:eU)(i:Nat):Prop:=∃c,(x.ad[i]?).bind fq=some c/\(c.B=1\/c.B=3)/\nU x.mem c≠1
section
variable {S:cv}{h0:Hp}{n i j k:Nat}{L L':jZ}{x x':eU}{t u:bm}{a a':az}{c c':ct}{s v:Int}{ρ:qI}{m':eO}
def Yb:(av x L j).cm=true↔Vc x j:=by
 unfold av Vc
 cases a:x.ad[j]? with
 |none=>exact⟨λg=>(by cases g),λ⟨c,g⟩=>by cases g⟩
 |some u =>
  show(fq u).isSome=true↔∃c,fq u=some c
  rw[Option.isSome_iff_exists]
theorem aci (h:qp x.mem c m' c'):c'.Y.O=0->(c'.B=1\/c'.B=3)->nU m' c'=1:=λhf hs=>by
 have prv:∀{c0:ct},RF c0 c'->False:=λ{c0} q=>by
  cases q with
  |on k w1 w2 w3 e=>rw[e]at hs;simp at hs
  |wr _ e=>rw[e]at hs;simp at hs
  |bad z k w1 w2 w3 w4 w=>rcases w.aG with⟨_,q,_⟩|⟨q,_⟩<;>omega
 have stp:∀{c0:ct} {e b:Int},Stp c0 c' e b->e≠0->False:=λ{c0 e b} w he=>by
  rcases w.aG with⟨_,q,_⟩|⟨q,_⟩
  ·omega
  ·rw[q]at hf;exact he hf
 cases h with
 |held s s1 s2 hh hm hh2 =>
  exfalso
  by_cases hgt:(fV x.mem s).ar > c.me
  ·rw[hh2.e5 hgt]at hs;omega
  ·rcases hh2.es hgt with⟨w1,w2,_⟩|w
   ·have q:=congrArg ct.B w2
    have q:c'.B=c.B:=q
    omega
   ·exact stp w zd
 |look s0 hh hm e =>
  unfold nU fV
  rw[zp (by rw[e]),hm.l,e]
  simp[oz,fV]
 |take s1 hl hml hmn hms e =>
  exfalso
  rw[e]at hs
  unfold kA at hs
  simp only at hs
  split at hs<;>omega
 |miss s1 hl hm e=>rw[e]at hs;simp at hs
 |full s2 hm w=>exact(stp w zd).elim
 |ask s2 hm e =>
  unfold nU
  rw[zn (by rw[e];simp),zp (by rw[e]),hm.n,e]
  simp[oz]
 |raise s3 hn hml hmn hms hp=>exact(prv hp).elim
 |late s3 hn hm e=>rw[e]at hs;simp at hs
 |prove s4 hm hp=>exact(prv hp).elim
 |bad s4 hne hm w=>exact(stp w zd).elim
 |store s5 hm e =>
  exfalso
  have:c'.B=5\/c'.B=6:=by
   rw[e];unfold jI
   split
   ·unfold kf;split<;>exact .inr rfl
   ·exact .inl s5
  omega
 |give s6 hml hmn hms e =>
  exfalso
  have:c'.B=6:=by rw[e];unfold kf;split<;>exact s6
  omega
 |leave s7 hml hmn hms e =>
  exfalso
  have:c'.B=7:=by rw[e];unfold jC;split<;>exact s7
  omega
end
section
variable {S:cv}{h0:Hp}{n i j k:Nat}{L L':jZ}{x x':eU}{t u y:bm}{a a':az}{c c':ct}{s v:Int}{ρ:qI}{m m':eO}{an:ii}{draw pick:Int}{sl:ByteArray}
theorem Fp (h:y.B≠1):fq y=none:=by unfold fq pF;rw[zn h];rfl
theorem ti:fq (cw u)=none:=by
 unfold cw fq pF
 split
 ·simp only[if_true]
  show ft _=none
  grind[j5]
 ·rfl
theorem acw (h:u.B≠1):fq (lN u draw)=none:=by
 show fq (if _ then _ else _)=none
 grind[ti,Fp]
theorem Vq (h:u.B≠1):fq (lu u)=none:=by grind[lu,Fp,ti]
def aed:fq (yX u)=none:=by
 show fq (if _ then _ else _)=none
 grind[ti,Vq]
def ab6 {e:Int}:fq (Br u e)=none:=by
 show fq (if _ then _ else _)=none
 grind[ti]
def abZ (h:u.B=1):fq (i7 u a draw pick sl)=none:=by
 unfold i7
 split
 ·split
  ·grind[Fp]
  ·show fq (if _ then _ else _)=none
   grind[ti,Fp]
 split
 ·grind[ti,Fp]
 split
 ·exact ab6
 ·exact aed
def acD (h:u.B≠1):fq (gK u)=none:=by
 show fq (if _ then _ else _)=none
 grind[ti,Fp]
def ado (h:t.B≠1):fq (thrTell ρ t an draw pick sl)=none:=by
 show fq (if _ then _ else _)=none
 rw[zn h]
 split
 ·show fq (if _ then _ else _)=none
  grind[Fp,acw]
 grind[Vq,Fp]
def Co0 (y:az):Prop:=ft y=none\/∃c,ft y=some c/\(c.B=0\/c.B=2)
def aga {q:az×Int×Int}(h:q.1.Z.bh=false):Co0 (j0 q):=by
 have a:ft q.1=none:=by
  unfold ft
  grind
 unfold j0
 split
 ·exact .inl rfl
 split
 ·exact .inl rfl
 split
 ·left;unfold ft;show(match q.1.Z with | .com c=>_|_=>_)=_
  grind
 split
 ·left;unfold ft;show(match q.1.Z with | .com c=>_|_=>_)=_
  grind
 ·right
  refine⟨_,jQ rfl rfl rfl,?_⟩
  show(if _ then(2:Int)else 0)=0\/(if _ then(2:Int)else 0)=2
  grind
theorem FM {y:az}(h:y.B=7):ft y=none:=by
 unfold ft
 grind
theorem yp {y:az}(h:y.Z.bh=false):ft y=none:=by
 unfold ft
 grind
def adN (h:a.Z.bh=false)(k:a.B≠7)(j:a.B≠8):Co0 (ah ρ a an):=by
 have i:∀y:az,y.Z.bh=false->Co0 (iq ρ y):=λy b=>aga (by rw[adF];exact b)
 have d:∀y:az,ft (gZ y)=ft y:=λy=>by
  show ft (if y.wr=true then { y with I:=y.Z.I }else y)=_
  split<;>rfl
 have d:∀y:az,Co0 y->Co0 (gZ y):=λy b=>by unfold Co0;rw[d];exact b
 unfold ah
 rw[zn j]
 split
 ·exact .inl (yp h)
 split
 ·exact .inl (yp h)
 split
 ·grind
 unfold bu
 refine d _ ?_
 cases g:a.Z with
 |none =>
  left
  grind[yp,FM]
 |fetch f =>
  split
  ·exact .inl (yp rfl)
  split
  ·exact .inl (FM rfl)
  ·show Co0 (cq ρ { a with Z:=.fetch (bp f an) } (bp f an))
   unfold cq
   split
   ·exact .inl (yp rfl)
   split
   ·grind
   split
   ·exact .inl (FM rfl)
   ·exact .inl (FM rfl)
 |ext e =>
  left
  split
  ·exact yp rfl
  split
  ·exact FM rfl
  ·show ft (if a.B=4 then rB { { a with Z:=.ext (fa e an) }with I:=(fa e an).I } a.v.a9 else ip { { a with Z:=.ext (fa e an) }with I:=(fa e an).I } 3 0 (-1))=none
   grind[yp,FM]
 |com c=>rw[g]at h;cases h
def agT {o:vV}(h:o.aN≠4)(c:o.aN≠5)(b:o.aN≠7):(ag m o).1.l=m.l/\(ag m o).1.n=m.n:=by
 have a:(bv m o).1.l=m.l/\(bv m o).1.n=m.n:=by
  unfold bv
  rw[zn h,zn c,zn b]
  repeat' split
  all_goals exact⟨rfl,rfl⟩
 grind[ag]
theorem sU.same (h:m'.l=m.l):sU m m':=λs=>.inl (by unfold fV;rw[h])
def Sw {s:Int}{v:ey}(h:m'.l=m.l.set s.toNat v)(hh:(fV m s).held=true):sU m m':=λz=>by
 unfold fV
 rw[h]
 by_cases e:z.toNat=s.toNat
 ·right;unfold fV at hh;rw[e];exact hh
 ·left
  rw[ge,zai (zbr e),<-ge]
def afW {c:ct}:nU m c=1->(c.B=1->fV m (c.F.getD c.was.length 0)=c.ac)/\(c.B=3->m.n=c.aj):=λh=>by
 unfold nU at h
 refine⟨λg=>?_,λg=>?_⟩
 ·rw[zp g]at h
  by_cases q:fV m (c.F.getD c.was.length 0)=c.ac
  ·exact q
  ·rw[decide_eq_false q]at h;cases h
 ·rw[zn,zp g]at h
  by_cases q:m.n=c.aj
  ·exact q
  ·rw[decide_eq_false q]at h;cases h
def aiV {c:ct}(b:c.B=1->fV m (c.F.getD c.was.length 0)=c.ac)(a:c.B=3->m.n=c.aj)(h:c.B=1\/c.B=3):nU m c=1:=by grind[nU]
def afZ {c:ct}(d:sU m m')(e:m'.n=m.n)(f:c.B=1->c.ac.held=false)(h:c.B=1\/c.B=3)(hb:nU m c=1):nU m' c=1:=by
 obtain⟨b,a⟩:=afW hb
 refine aiV (λg=>?_) (λg=>by rw[e];exact a g) h
 rcases d (c.F.getD c.was.length 0)with q|q
 all_goals grind
def aey (h:qF S h0 n x L)(ht:x.ad[i]? = some t)(y:t.B=1)(A:t.aj=some a)(z:a.B=6):∃c,ft a=some c/\a.Z=.com c/\c.Y.O=0/\(ak a).1=(au c).1/\(∀ρ q,ah ρ a q=bu ρ { a with Z:=.com (bk c q) })/\qp x.mem c (ag x.mem (au c).1).1 (bk c (ag x.mem (au c).1).2)/\(c.B=6\/c.B=7->(fV x.mem (c.F.getD c.K 0)).held=true):=by
 obtain⟨N,s,u,P,w⟩:=h.run ht y
 rw[A]at s;cases s
 obtain⟨r,J,M,I⟩:=h.i4 ht
 obtain⟨c,d,b⟩:=u.com z
 obtain⟨l,U,Q,R,H,E,C⟩:=u.cy c d
 have j:=jQ d z b
 have p:mW x.ad i=Im a.Z:=by rw[p6 ht];unfold CX;rw[A]
 have f:mW x.ad i=jX c:=by rw[p,d];rfl
 refine⟨c,j,d,b,?_,λρ q=>?_,Uo (m:=x.mem) (L:=L) (X:=mW x.ad) h.mi.set.n4 r h.mi.T l h.mi.g f b (w.ed c j).1,λg=>?_⟩
 ·unfold ak;rw[zn,zn,zn,zn,zn,d]
 ·unfold ah;rw[zn,zn,zn,zn,zn,d]
 ·have k:=l.ok.len
  have o:c.K<c.was.length:=by
   rcases g with g|g
   ·have:=(l.ok.ba b).2.2.2.2.1 g;omega
   ·exact((l.ok.ba b).2.2.2.2.2 g).1
  have v:((c.F.getD c.K 0).toNat,(c.was.getD c.K aa).D)∈(mW x.ad i).hd:=by
   have y:=JT k o
   rw[f];unfold jX Ik;rw[zp b]
   simp only[g,if_true]
   refine Ok (i:=0) ?_
   grind
  have e:=h.mi.g.own i r _ _ v
  have e:fV x.mem (c.F.getD c.K 0)=⟨_,true,i⟩:=e
  rw[e]
def ahH (h:qF S h0 n x L)(u:Pk0 x i x'):(∀c,(x'.ad[i]?).bind fq=some c->c.B=1\/c.B=3->nU x'.mem c=1)/\(Vc x' i\/(sU x.mem x'.mem/\x'.mem.n=x.mem.n)):=by
 obtain⟨t,F,⟨D,hU,ρ,sl,hρ,rfl⟩|⟨D,rfl⟩⟩:=u
 ·obtain⟨v,_⟩:=AP (ρ:=ρ) (draw:=0) (sl:=sl) F
  have b:(bw ρ x i t 0 sl).mem=(ag x.mem (ai t).1).1:=rfl
  by_cases p:t.B=1
  ·obtain⟨a,y,A,U,hv⟩:=h.run F p
   have al:=A.st
   have Q:(ai t).1=(ak a).1:=by grind
   rw[Q]at b v
   have E:(ak a).1.aN≠4->(ak a).1.aN≠5->(ak a).1.aN≠7->sU x.mem (bw ρ x i t 0 sl).mem/\(bw ρ x i t 0 sl).mem.n=x.mem.n:=λk4 k5 k7=>by
    obtain⟨e1,e2⟩:=agT (m:=x.mem) k4 k5 k7
    grind[sU.same]
   by_cases K:a.B=7
   ·have u:(ak a).1.aN=9:=by grind
    have J:∀q,ah ρ a q={ a with B:=8 }:=λq=>by
     unfold ah;rw[zn,zn,zn,zn,zp K]
    have ac:=(A.out zo).1
    have he:fq (thrTell ρ t (ag x.mem (ak a).1).2 0 (x.au+1) sl)=none:=by
     unfold thrTell
     rw[zp p,y]
     simp only
     rw[J]
     unfold ml
     rw[zp ⟨rfl,by show a.O≠0;omega⟩]
     exact abZ p
    grind
   obtain⟨k1,k2,k3,k4,k5,k6⟩:=JR (ρ:=ρ) (an:=(ag x.mem (ak a).1).2) (draw:=0) (pick:=x.au+1) (sl:=sl) p y U K rfl
   have j:((bw ρ x i t 0 sl).ad[i]?).bind fq=ft (ah ρ a (ag x.mem (ak a).1).2):=by
    rw[v]
    show fq _=_
    unfold fq pF
    grind
   by_cases h6:a.B=6
   ·obtain⟨c,aA,d,T,en,J,R,I⟩:=aey h F p y h6
    rw[en]at b j
    rw[J]at j
    have M:(ag x.mem (au c).1).1=(bw ρ x i t 0 sl).mem:=b.symm
    rw[M]at R
    generalize af:bk c (ag x.mem (au c).1).2=c' at R j
    have P:c'.Y.O=0->ft (bu ρ { a with Z:=.com c' })=some c':=λq=>by
     obtain⟨s,e⟩:=Ky (ρ:=ρ) (a:=a) q
     grind[jQ]
    have am:∀r,ft (bu ρ { a with Z:=.com c' })=some r->r=c'/\c'.Y.O=0:=λr C=>by
     obtain⟨X,w2,w3⟩:=jO C
     grind
    refine⟨λr C hs=>?_,?_⟩
    ·grind[aci]
    ·have cm:c'.Y.O=0->Vc (bw ρ x i t 0 sl) i:=λq=>⟨c',by rw[j];exact P q⟩
     have o:SM x.mem (bw ρ x i t 0 sl).mem->(sU x.mem (bw ρ x i t 0 sl).mem/\(bw ρ x i t 0 sl).mem.n=x.mem.n):=λq=>⟨sU.same q.l,q.n⟩
     cases R with
     |held s s1 s2 I hm hh2=>exact .inr (o hm)
     |look s0 I hm e=>exact .inr (o hm)
     |take s1 hl hml hmn hms e=>exact .inl (cm (by rw[e];exact T))
     |miss s1 hl hm e=>exact .inr (o hm)
     |full s2 hm w=>exact .inr (o hm)
     |ask s2 hm e=>exact .inr (o hm)
     |raise W y hml hmn hms hp =>
      left
      refine cm ?_
      cases hp with
      |on k X w2 w3 e=>rw[e];exact T
      |wr _ e=>rw[e];exact T
      |bad z k X w2 w3 w4 w =>
       rcases w.aG with⟨q,_⟩|⟨_,_,q⟩
       all_goals grind
     |late W y hm e=>exact .inr (o hm)
     |prove V hm hp=>exact .inr (o hm)
     |bad V hne hm w=>exact .inr (o hm)
     |store s5 hm e=>exact .inr (o hm)
     |give s6 hml hmn hms e=>exact .inr ⟨Sw hml (I (.inl s6)),hmn⟩
     |leave s7 hml hmn hms e=>exact .inr ⟨Sw hml (I (.inr s7)),hmn⟩
   ·have H:=YY A zo
    have u:(ak a).1.aN≠4/\(ak a).1.aN≠5/\(ak a).1.aN≠7:=by
     by_cases W:a.B=3
     ·obtain⟨_,f,e,_⟩:=A.cx W
      unfold ak
      rw[zn,zn,zn,zn,zn,e]
      show(dt f).1.aN≠4/\(dt f).1.aN≠5/\(dt f).1.aN≠7
      unfold dt
      grind[kn]
     by_cases V:a.B=4\/a.B=5
     ·obtain⟨_,f,e,_⟩:=A.ext V
      unfold ak
      rw[zn,zn,zn,zn,zn,e]
      show(gO f).1.aN≠4/\(gO f).1.aN≠5/\(gO f).1.aN≠7
      unfold gO
      grind[kn]
     ·unfold ak
      split
      all_goals grind
    refine⟨λc d hs=>?_,.inr (E u.1 u.2.1 u.2.2)⟩
    rw[j]at d
    rcases adN (ρ:=ρ) (an:=(ag x.mem (ak a).1).2) H K U with q|⟨c2,q,q2⟩
    all_goals grind
  ·have u:(ai t).1.aN≠4/\(ai t).1.aN≠5/\(ai t).1.aN≠7:=by
    unfold ai
    rw[zn p]
    repeat' split
    all_goals simp[kn]
   obtain⟨e1,e2⟩:=agT (m:=x.mem) u.1 u.2.1 u.2.2
   refine⟨λc d=>?_,.inr ⟨sU.same (by rw[b];exact e1),by rw[b];exact e2⟩⟩
   rw[v,show ∀z:bm,(some z).bind fq=fq z from λ_=>rfl,ado p]at d
   cases d
 ·have p:t.B≠1:=λg=>by
   obtain⟨a,y,A,U,_⟩:=h.run F g
   unfold ai at D
   grind[UY]
  have N:=(Nm.1 F).1
  refine⟨λc d=>?_,.inr ⟨sU.same rfl,rfl⟩⟩
  have d:((x.ad.set i (gK t))[i]?).bind fq=some c:=d
  rw[zap N]at d
  have d:fq (gK t)=some c:=d
  rw[acD p]at d
  cases d
end
def Fr0 (x:eU)(p:Nat):Prop:=∀i,i<p->Bad x i->∃j,i<j/\j<p/\Vc x j
section
variable {S:cv}{h0:Hp}{n i j k:Nat}{L L':jZ}{x x' x0 x1 x2:eU}{t u y:bm}{a a':az}{c c':ct}{s v:Int}{ρ:qI}{m m':eO}
def agj (a:Pk0 x k x')(hj:j≠k):Vc x' j↔Vc x j:=by
 unfold Vc;rw[TM a hj]
def N2 (h:qF S h0 n x L)(hk:Pk0 x k x')(hF:Fr0 x k):Fr0 x' (k+1):=λi hi ⟨c,hc,hs,hb⟩=>by
 obtain⟨o1,o2⟩:=ahH h hk
 by_cases g:i=k
 ·subst g
  exact absurd (o1 c hc hs) hb
 ·rw[TM hk g]at hc
  by_cases hb0:nU x.mem c=1
  ·rcases o2 with q|⟨q1,q2⟩
   ·exact⟨k,zo,zo,q⟩
   ·refine absurd (afZ q1 q2 (λs1=>?_) hs hb0) hb
    cases hu:x.ad[i]? with
    |none=>rw[hu]at hc;cases hc
    |some u =>
     rw[hu]at hc
     have hc:fq u=some c:=hc
     have hul:=h.ul hu
     unfold fq pF at hc
     split at hc
     ·rename_i h1
      cases ha:u.aj with
      |none=>rw[ha]at hc;cases hc
      |some a =>
       rw[ha]at hc
       exact hul.com a c h1 ha hc s1
     ·cases hc
  ·obtain⟨j,j1,j2,j3⟩:=hF i zo ⟨c,hc,hs,hb0⟩
   exact⟨j,j1,zo,(agj hk zo).2 j3⟩
def Yg:∀{k:Nat}{x x2:eU},Rnd n k x x2->∀{L:jZ},qF S h0 n x L->x.au+n<=1000000+k->Fr0 x k->∃L2,qF S h0 n x2 L2/\Fr0 x2 n/\jq (av x2 L2)<=jq (av x L)/\x2.au+k=x.au+n:=λ{k x x2} hr=>by
 induction hr with
 |nil=>exact λ{L} h hp hF=>⟨L,h,hF,zab _,rfl⟩
 |cons hk h1 _ ih =>
  intro L h hp hF
  obtain⟨L',t,ht,h2,hd,e⟩:=Sx h zo h1
  obtain⟨L2,k1,k2,k3,k4⟩:=ih h2 zo (N2 h h1 hF)
  exact⟨L2,k1,k2,by have:=hd.le;omega,zo⟩
def XN {P:Nat->eU->jZ->Prop}(hi:i<n)(hstep:∀k x L x',k<i->qF S h0 n x L->x.au<=1000000->P k x L->Pk0 x k x'->∃L',qF S h0 n x' L'/\jq (av x' L')<=jq (av x L)/\(jq (av x' L')=jq (av x L)->P (k+1) x' L')/\x'.au=x.au+1)
  (hend:∀x L x',qF S h0 n x L->x.au<=1000000->P i x L->Pk0 x i x'->∃L',qF S h0 n x' L'/\jq (av x' L')<=jq (av x L)-1/\x'.au=x.au+1) :
  ∀{k:Nat} {x x2:eU},Rnd n k x x2->k<=i->∀{L:jZ},qF S h0 n x L->x.au+n<=1000000+k->Fr0 x k->P k x L->∃L2,qF S h0 n x2 L2/\Fr0 x2 n/\jq (av x2 L2)<=jq (av x L)-1/\x2.au+k=x.au+n:=λ{k x x2} hr=>by
 induction hr with
 |nil=>intro hk;omega
 |@cons k x x1 x2 hk h1 h2 ih =>
  intro hki L h hp hF hP
  by_cases g:k=i
  ·subst g
   obtain⟨L',w1,w2,w3⟩:=hend x L x1 h zo hP h1
   obtain⟨L2,k1,k2,k3,k4⟩:=Yg h2 w1 zo (N2 h h1 hF)
   exact⟨L2,k1,k2,zo,zo⟩
  ·obtain⟨L',w1,w2,w3,w4⟩:=hstep k x L x1 zo h zo hP h1
   by_cases g2:jq (av x1 L')=jq (av x L)
   ·obtain⟨L2,k1,k2,k3,k4⟩:=ih zo w1 zo (N2 h h1 hF) (w3 g2)
    exact⟨L2,k1,k2,zo,zo⟩
   ·obtain⟨L2,k1,k2,k3,k4⟩:=Yg h2 w1 zo (N2 h h1 hF)
    exact⟨L2,k1,k2,zo,zo⟩
theorem Tn (h:(x.ad[i]?).bind fq=some c)(b:Vf c=true):(av x L i).wr=true:=by
 unfold av
 cases a:x.ad[i]? with
 |none=>rw[a]at h;cases h
 |some u =>
  rw[a]at h
  have h:fq u=some c:=h
  show(match fq u with|some c=>Vf c|none=>false)=true
  grind
def Xr:(av x L i).wr=true↔∃c,(x.ad[i]?).bind fq=some c/\Vf c=true:=by
 refine⟨λa=>?_,λ⟨c,h1,h2⟩=>Tn h1 h2⟩
 unfold av at a
 cases d:x.ad[i]? with
 |none=>rw[d]at a;cases a
 |some u =>
  rw[d]at a
  have a:(match fq u with|some c=>Vf c|none=>false)=true:=a
  cases b:fq u with
  |none=>rw[b]at a;cases a
  |some c=>rw[b]at a;exact⟨c,b,a⟩
def aeh:QR (av x L) i=true↔∃c,(x.ad[i]?).bind fq=some c/\Vf c=false:=by
 unfold QR
 rw[GE,Yb]
 constructor
 ·rintro⟨⟨c,a⟩,b⟩
  grind[Vf,Tn]
 ·rintro⟨c,a,b⟩
  refine⟨⟨c,a⟩,?_⟩
  cases g:(av x L i).wr with
  |false=>rfl
  |true =>
   obtain⟨d,f,e⟩:=Xr.1 g
   grind
def XA (h:qF S h0 n x L)(a:Vc x i):i<n:=by
 obtain⟨c,a⟩:=a
 cases b:x.ad[i]? with
 |none=>rw[b]at a;cases a
 |some u=>exact(h.i4 b).1
theorem ahx (h:qF S h0 n x L)(f:x.au+n<=1000000)(B:Rnd n 0 x x2)(A:(av x L i).wr=true):∃L2,qF S h0 n x2 L2/\Fr0 x2 n/\jq (av x2 L2)<=jq (av x L)-1/\x2.au=x.au+n:=by
 obtain⟨c,p,m⟩:=Xr.1 A
 have o:=XA h ⟨c,p⟩
 obtain⟨L2,s,z,v,w⟩:=XN (P:=λ_ y _=>(y.ad[i]?).bind fq=some c) o
  (λk y M r u d f g a=>by
   obtain⟨l,t,q,b,j,e⟩:=Sx d f a
   exact⟨l,b,j.le,λ_=>by rw[TM a zo];exact g,e⟩)
  (λy M r d f g a=>by
   obtain⟨l,t,q,b,j,e⟩:=Sx d f a
   exact⟨l,b,j.wr (Tn g m),e⟩) B zo h zo (λi o=>by omega) p
 grind
theorem Uw (h:qF S h0 n x L)(D:x.au+n<=1000000)(hr:Rnd n 0 x x2)(hF:Fr0 x n)(hw:∀j,(av x L j).wr=false)(m:Vc x i)(hg:∀j,i<j->¬Vc x j):∃L2,qF S h0 n x2 L2/\Fr0 x2 n/\jq (av x2 L2)<=jq (av x L)-1/\x2.au=x.au+n:=by
 have A:=XA h m
 obtain⟨c,m⟩:=m
 have I:Vf c=false:=by
  cases g:Vf c with
  |false=>rfl
  |true=>have:=Tn (L:=L) m g;rw[hw]at this;cases this
 have w:c.B=1\/c.B=3->nU x.mem c=1:=λC=>by
  by_cases g:nU x.mem c=1
  ·exact g
  ·obtain⟨j,T,_,V⟩:=hF i A ⟨c,m,C,g⟩
   grind
 obtain⟨L2,R,Z,X,Y⟩:=XN (P:=λk y _=>y.mem.l=x.mem.l/\y.mem.n=x.mem.n/\∀j,k<=j->(y.ad[j]?).bind fq=(x.ad[j]?).bind fq) A
  (λk y M Q W r D ⟨E,z,u⟩ b=>by
   obtain⟨H,t,J,v,p,e⟩:=Sx r D b
   refine⟨H,v,p.le,λg=>?_,e⟩
   obtain⟨K,O⟩:=p.qt g
   exact⟨by rw[K,E],by rw[O,z],λj hj=>by rw[TM b zo];exact u j zo⟩)
  (λy M Q r D ⟨E,z,u⟩ b=>by
   obtain⟨H,t,J,v,p,e⟩:=Sx r D b
   have a:(y.ad[i]?).bind fq=some c:=by rw[u i (LT i)];exact m
   have d:∀j,i<j->¬Vc y j:=λj hj ⟨q,f⟩=>hg j hj ⟨q,by rw[<-u j zo];exact f⟩
   refine⟨H,v,p.gs ⟨aeh.2 ⟨c,a,I⟩,λj hj _=>?_⟩ (λs C=>?_) (λq f F=>?_),e⟩
   ·cases g:QR (av y M) j with
    |false=>rfl
    |true=>obtain⟨q,f,_⟩:=aeh.1 g;exact absurd ⟨q,f⟩ (d j hj)
   ·obtain⟨o,U,_,_,N⟩:=r.held s C
    have:=Yb.1 N
    by_cases g:i<o
    ·exact absurd this (d o g)
    ·omega
   ·rw[J]at a
    have a:fq t=some c:=a
    rw[f]at a;cases a
    have:=w F
    rw[<-this]
    unfold nU fV
    rw[E,z]) hr zo h zo (λi A=>by omega) ⟨rfl,rfl,λ_ _=>rfl⟩
 grind
def aiz (h:qF S h0 n x L)(J:x.au+n<=1000000)(hr:Rnd n 0 x x2)(W:∀j,¬Vc x j)(hm:tm (av x L)<4):∃L2,qF S h0 n x2 L2/\Fr0 x2 n/\jq (av x2 L2)<=jq (av x L)-1/\x2.au=x.au+n:=by
 have d:=tO hm
 have I:tm (av x L)<n:=by
  generalize tm (av x L)=z at d
  cases R:x.ad[z]? with
  |none =>
   have e:av x L z=pf0:=by grind[av]
   rw[e]at d;cases d
  |some u=>exact(h.i4 R).1
 have v:∀j,(av x L j).cm=false:=λj=>by
  cases g:(av x L j).cm with
  |false=>rfl
  |true=>exact absurd (Yb.1 g) (W j)
 obtain⟨L2,X,k2,Z,k4⟩:=XN (P:=λk y M=>M=L/\y.ad=x.ad/\y.mem=x.mem) I
  (λk y M V Y q J ⟨D,m,A⟩ l=>by
   subst D
   have a:av y M=av x M:=by unfold av;rw[m,A]
   obtain⟨t,p,Q⟩:=l
   have b:(av x M k).lv=false:=by
    cases g:(av x M k).lv with
    |false=>rfl
    |true=>have:=pK g zo;omega
   have E:x.ad[k]? = some t:=by rw[<-m];exact p
   rw[bo E]at b
   have b:(!decide (t.B=4)&&!decide (t.B=6))=false:=b
   have N:t.B=4\/t.B=6:=by
    by_cases g:t.B=4
    ·exact .inl g
    ·by_cases F:t.B=6
     ·exact .inr F
     ·rw[decide_eq_false g,decide_eq_false F]at b;cases b
   have f:(ai t).2=false:=by unfold ai;rw[zn,zn,zn]
   rcases Q with⟨g,_⟩|⟨_,rfl⟩
   ·rw[f]at g;cases g
   ·have e:gK t=t:=by unfold gK;rw[zn]
    have r:(kz y k t).ad=y.ad:=by
     show y.ad.set k (gK t)=y.ad
     rw[e]
     obtain⟨C,T⟩:=Nm.1 p
     rw[<-T];exact List.set_getElem_self C
    exact⟨M,OZ q p f,(ZZ q p f).le,λ_=>⟨rfl,by rw[r,m],A⟩,rfl⟩)
  (λy M V q J ⟨D,m,A⟩ l=>by
   subst D
   have a:av y M=av x M:=by unfold av;rw[m,A]
   obtain⟨U,t,p,K,O,e⟩:=Sx q J l
   refine⟨U,K,O.lo (by rw[a]) ?_ (by rw[a];exact v _) (λs=>?_),e⟩
   ·cases g:JZ (av y M) (tm (av x M))with
    |false=>rfl
    |true =>
     obtain⟨j,_,_,w⟩:=Tj.1 g
     rw[a]at w
     obtain⟨c,C,_⟩:=Xr.1 w
     exact absurd ⟨c,C⟩ (W j)
   ·cases g:(fV y.mem s).held with
    |false=>rfl
    |true =>
     obtain⟨o,_,_,_,H⟩:=q.held s g
     rw[a,v]at H;cases H) hr zo h zo (λi I=>by omega) ⟨rfl,rfl,rfl⟩
 grind
def XU (x:eU):Prop:=∀t∈x.ad,t.B=6\/t.B=4
def ah2 (h:qF S h0 n x L)(b:¬XU x):tm (av x L)<4:=by
 unfold XU at b
 obtain⟨t,b⟩:=Classical.not_forall.1 b
 obtain⟨e,g⟩:=Classical.not_imp.1 b
 obtain⟨k,d,rfl⟩:=zaU e
 have a:x.ad[k]? = some x.ad[k]:=dg d
 have f:=(h.i4 a).2.1
 have c:(av x L k).lv=true:=by
  rw[bo a]
  show(!decide (x.ad[k].B=4)&&!decide (x.ad[k].B=6))=true
  grind
 have:=pK c f
 omega
def ah6 (h:qF S h0 n x L)(e:x.au+n<=1000000)(f:Rnd n 0 x x2)(m:Fr0 x n)(o:¬XU x):∃L2,qF S h0 n x2 L2/\Fr0 x2 n/\jq (av x2 L2)<=jq (av x L)-1/\x2.au=x.au+n:=by
 by_cases b:∃j,(av x L j).wr=true
 ·grind[ahx]
 have b:∀j,(av x L j).wr=false:=λj=>by
  cases g:(av x L j).wr with
  |false=>rfl
  |true=>exact absurd ⟨j,g⟩ b
 have c:∀j,Vc x j->j<4:=λj hj=>by have:=XA h hj;have:=h.mi.set.n4;omega
 by_cases k:Vc x 3
 ·grind[Uw]
 by_cases l:Vc x 2
 ·grind[Uw]
 by_cases i:Vc x 1
 ·grind[Uw]
 by_cases d:Vc x 0
 ·exact Uw h e f m b d λj hj a=>by
   have:=c j a
   grind
 ·refine aiz h e f (λj a=>?_) (ah2 h o)
  have:=c j a
  have:j=3\/j=2\/j=1\/j=0:=by omega
  grind
end
structure Sti (S:cv)(h0:Hp)(n:Nat)(r:Nat)(x:eU)(L:jZ):Prop where
 lv:qF S h0 n x L
 fk:jq (av x L)+r<=186001
 fP:r=0->jq (av x L)<=186000
 fr:1<=r->Fr0 x n
 au:x.au<=1000+4*r
section
variable {S:cv}{h0:Hp}{n i j k r:Nat}{L L':jZ}{x x' x0 x1 x2:eU}
def Sti.a6 (h:Sti S h0 n r x L):r<=186002:=by
 have:=h.fk
 have:=h.lv.fk
 omega
def Sti.on (h:Sti S h0 n r x L)(j:Rnd n 0 x x2)(m:¬XU x):∃L2,Sti S h0 n (r+1) x2 L2:=by
 have c:=h.a6
 have k:=h.lv.mi.set.n4
 have d:=h.au
 by_cases g:r=0
 ·obtain⟨L2,a,b,e,f⟩:=Yg j h.lv zo (λi l=>by omega)
  have:=h.fP g
  exact⟨L2,a,zo,λq=>by omega,λ_=>b,zo⟩
 ·obtain⟨L2,a,b,e,f⟩:=ah6 h.lv zo j (h.fr zo) m
  have:=h.fk
  exact⟨L2,a,zo,λq=>by omega,λ_=>b,zo⟩
end
section
variable {s:iX}
def Vg.eg:∀{l:List Int}{g:Nat}{s:iX},Vg s->Vg (j7 l g s).2.1
 | [],_,_,h=>h
 |b::l,g,s,h=>by
  unfold j7
  split
  ·exact Vg.eg h.give
  ·split<;>exact h.give
end
def InU:zT->Prop
 | .fetch f=>kY f.word
 | .com m=>Cw m.cells
 |_=>True
structure nW (a:az):Prop where
 run:∀r,a.run=some r->Rg r
 v:Vg a.v
 Z:InU a.Z
section
variable {x:az}{m:eO}{o:vV}{c:ct}{f:fe}{an:ii}{ρ:qI}
theorem OM:(jC c).cells=c.cells:=by grind[jC]
theorem FP {e er b:Int}:(jM c e er b).cells=c.cells:=by unfold jM;rw[OM]
theorem SG {l:ey}:(kM c l).cells=c.cells:=by grind[kM,FP]
theorem SO:(kf c).cells=c.cells:=by grind[kf]
theorem Pc:(jI c).cells=c.cells:=by grind[jI,SO]
def P8:(mo c).cells=c.cells:=by unfold mo;rw[Pc]
def Wf:∀{n:Nat}{c:ct},(proveN n c).cells=c.cells
 |0,_=>P8
 |n+1,c=>by
  unfold proveN
  split
  ·rfl
  ·split
   ·rw[Wf]
   ·exact FP
theorem PF:(pH c).cells=c.cells:=by unfold pH;rw[Wf]
theorem WS {l:ey}:(mc c l).cells=c.cells:=by grind[mc,SG,PF,FP]
theorem abj:(oN c an).cells=c.cells:=by
 unfold oN
 split
 ·split
  ·exact SG
  ·rfl
 ·split<;>rfl
abbrev CcE (c z:ct):Prop:=z.cells=c.cells
theorem XS:(mf c an).cells=c.cells:=by
 unfold mf
 refine cy (P:=CcE c) (λ_=>cy (P:=CcE c) (λ_=>FP) λ_=>rfl) λ_=>cy (P:=CcE c) (λ_=>rfl) λ_=>cy (P:=CcE c) (λ_=>P8) λ_=>PF
def abf:(bk c an).cells=c.cells:=by
 unfold bk
 refine cy (P:=CcE c) (λ_=>?_) λ_=>rfl
 split
 all_goals grind[abj,XS,WS,Pc,SO,OM]
def aix (a:∀n∈m.w,kY n){k:Nat}:kY (m.w.getD k 0):=by
 rw[ge]
 cases e:m.w[k]? with
 |none=>exact jN
 |some n=>exact a n (Ok e)
abbrev MwU (z:eO×ii):Prop:=∀n∈z.1.w,kY n
def ag8 (a:∀n∈m.w,kY n)(f:o.aN=2->kY o.word):∀n∈(ag m o).1.w,kY n:=by
 have d:MwU (bv m o):=by
  unfold bv
  refine cy (P:=MwU) (λ_=>cy (P:=MwU) (λ_=>a) λ_=>a) λ_=>?_
  refine cy (P:=MwU) (λb=>cy (P:=MwU) (λ_ n c=>(za2 c).elim (a n) λe=>by rw[e];exact f b) λ_=>a) λ_=>?_
  refine cy (P:=MwU) (λ_=>a) λ_=>cy (P:=MwU) (λ_=>a) λ_=>cy (P:=MwU) (λ_=>a) λ_=>cy (P:=MwU) (λ_=>a) λ_=>?_
  grind
 grind[ag]
def ac_ (b:∀n∈m.w,kY n)(c:o.aN=1):kY (ag m o).2.word:=by
 have a:kY (bv m o).2.word:=by
  unfold bv
  rw[zp c]
  split
  ·exact aix b
  ·exact jN
 unfold ag
 split<;>exact a
def Wb {p:qM}{e:Int}(h:(p.aZ e).O=0):p.O=0:=by grind[qM.aZ]
def agC {l:ey}:(mO f l).word=f.word:=by
 unfold mO
 grind
def InU.br (hm:∀n∈m.w,kY n):∀{i:zT},InU i->InU (i.br (ag m i.next.1).2)
 | .none,_=>trivial
 | .ext _,_=>trivial
 | .com c,h=>by
  show Cw (bk c _).cells
  rw[abf];exact h
 | .fetch f,h=>by
  show kY (bp f (ag m (dt f).1).2).word
  unfold bp
  split
  ·rename_i h0
   have hf:=Wb h0
   split
   ·rename_i h1
    refine ac_ hm ?_
    unfold dt
    rw[zp hf,zp h1]
   ·split
    ·exact h
    ·rw[agC];exact h
  ·exact h
def InU.next:∀{i:zT},InU i->i.next.1.aN=2->kY i.next.1.word
 | .none,_,g=>by cases g
 | .ext e,_,g=>by
  have g:(gO e).1.aN=2:=g
  unfold gO at g
  split at g
  ·split at g<;>cases g
  ·cases g
 | .fetch f,_,g=>by
  have g:(dt f).1.aN=2:=g
  unfold dt at g
  split at g
  ·split at g<;>cases g
  ·cases g
 | .com c,h,g=>by
  have g:(au c).1.aN=2:=g
  show kY (au c).1.word
  unfold au at g ⊢
  split at g
  ·rename_i h0
   rw[zp h0]
   have hc:kY (c.cells.getD c.K ⟨0,0⟩).word:=by
    rw[ge]
    cases e:c.cells[c.K]? with
    |none=>exact jN
    |some z=>exact h z (Ok e)
   simp only at g ⊢
   by_cases c0:c.B=0
   ·rw[zp c0]at g;cases g
   by_cases c1:c.B=1
   ·rw[zn c0,zp c1]at g;cases g
   by_cases c2:c.B=2
   ·rw[zn c0,zn c1,zp c2]at g;cases g
   by_cases c3:c.B=3
   ·rw[zn c0,zn c1,zn c2,zp c3]at g;cases g
   by_cases c4:c.B=4
   ·rw[zn c0,zn c1,zn c2,zn c3,zp c4]at g;cases g
   by_cases c5:c.B=5
   ·rw[zn c0,zn c1,zn c2,zn c3,zn c4,zp c5];exact hc
   ·rw[zn c0,zn c1,zn c2,zn c3,zn c4,zn c5]at g
    split at g<;>cases g
  ·cases g
def nW.out (h:nW x){e er b:Int}:nW (ip x e er b):=⟨h.run,h.v,h.Z⟩
def nW.ask (h:nW x){c:Int}:nW (rB x c):=⟨h.run,h.v,jN⟩
def nW.later (h:nW x){s:Int}:nW (uI x s):=⟨h.run,h.v,trivial⟩
theorem nW.cP {q:az×Int×Int}(h:nW q.1):nW (j0 q):=by
 unfold j0
 refine cy (λ_=>h.ask) λ_=>cy (λ_=>?_) λ_=>cy (λ_=>h.out) λ_=>cy (λ_=>h.out) λ_=>?_
 ·exact⟨h.run,h.v,trivial⟩
 ·exact⟨h.run,h.v,Pu h.v.l⟩
def nW.cM (b:da ρ)(h:nW x):nW (iq ρ x):=by
 unfold iq
 refine nW.cP ?_
 unfold iu
 cases e:x.run with
 |none=>exact⟨λr g=>(by cases g),h.v.eg,h.Z⟩
 |some r =>
  have a:=b.u r x.v (h.run r e) h.v
  exact⟨λr g=>(by cases g;exact a.1),a.2,h.Z⟩
def nW.dV (a:da ρ)(h:nW x)(b:kY f.word):nW (cq ρ x f):=by
 unfold cq
 refine cy (λ_=>h.later) λ_=>cy (λ_=>nW.cM a ⟨h.run,h.v.cz b,h.Z⟩) λ_=>cy (λ_=>?_) λ_=>?_
 ·exact⟨h.run,h.v,h.Z⟩
 ·exact⟨h.run,h.v,h.Z⟩
def nW.ch (b:da ρ)(h:nW x):nW (nr ρ x):=by
 unfold nr
 have a:=h.Z
 cases e:x.Z with
 |none=>exact h
 |fetch f=>rw[e]at a;exact h.dV b a
 |ext m=>exact cy (λ_=>⟨h.run,h.v,jN⟩) λ_=>⟨h.run,h.v,trivial⟩
 |com m=>exact h.out
def nW.mark (h:nW x):nW (gZ x):=by
 unfold gZ
 exact cy (λ_=>⟨h.run,h.v,h.Z⟩) λ_=>h
def nW.br (b:da ρ)(h:nW x)(hi:InU (x.Z.br an)):nW (ah ρ x an):=by
 unfold ah
 refine cy (λ_=>h) λ_=>cy (λ_=>⟨h.run,h.v,h.Z⟩) λ_=>cy (λ_=>⟨h.run,h.v,h.Z⟩) λ_=>cy (λ_=>h.cM b) λ_=>cy (λ_=>⟨h.run,h.v,h.Z⟩) λ_=>?_
 unfold bu
 have a:nW { x with Z:=x.Z.br an }:=⟨h.run,h.v,hi⟩
 exact nW.mark (cy (λ_=>a) λ_=>cy (λ_=>a.out) λ_=>a.ch b)
def nW.af (h:nW x):∀n∈x.af,zM n:=by
 unfold az.af
 cases e:x.run with
 |none=>simp
 |some r=>exact(h.run r e).af
end
structure kt (t:bm):Prop where
 aw:∀p∈t.aw,∀i∈p,kY i.n
 aj:∀a,t.aj=some a->nW a
structure E1 (x:eU):Prop where
 mem:∀n∈x.mem.w,kY n
 ad:∀t∈x.ad,kt t
section
variable {x:bm}{m:eU}{t u:bm}{a:az}{an:ii}{draw pick:Int}{sl:ByteArray}{i:Nat}{ρ:qI}
def ZX {me:Int}{s:cv}:Vg (uX me s).v:=⟨.nil,λr hr=>by
 rcases zaa.1 hr with e|e
 ·rw[e];exact .nil
 ·cases e⟩
def kt.bG (h:kt x):kt (cw x):=by
 unfold cw
 cases e:x.aw[x.aI.toNat]? with
 |none=>exact⟨h.aw,λa g=>(by cases g)⟩
 |some p =>
  refine⟨h.aw,λa g=>?_⟩
  simp only[zay]at g
  subst g
  refine cy (λ_=>⟨λr g=>(by cases g),ZX (me:=x.me),trivial⟩) λ_=>⟨λr g=>?_,ZX (me:=x.me),trivial⟩
  cases g
  refine⟨λk=>?_,zs,zs,h.aw p (Ok e)⟩
  show kY (Gw.get ⟨0,0,0,0,0,0,0,0⟩ k)
  unfold Gw.get
  grind[jN]
def kt.be (h:kt x)(h1:u.aw=x.aw)(h2:u.aj=x.aj):kt u:=⟨by rw[h1];exact h.aw,by rw[h2];exact h.aj⟩
def kt.dh (h:kt x):kt (lN x draw):=by
 unfold lN
 exact cy (λ_=>kt.bG (h.be rfl rfl)) λ_=>h.be rfl rfl
def kt.aW (h:kt x):kt (gK x):=by
 unfold gK
 exact cy (λ_=>cy (λ_=>kt.bG (h.be rfl rfl)) λ_=>h.be rfl rfl) λ_=>h
def kt.follow (h:kt x):kt (kW x):=kt.bG (h.be rfl rfl)
def kt.yield (h:kt x):kt (pC x an draw):=by
 unfold pC
 exact cy (λ_=>h.be rfl rfl) λ_=>h.dh
def kt.look (h:kt x):kt (lu x):=by
 unfold lu
 exact cy (λ_=>h.be rfl rfl) λ_=>cy (λ_=>kt.follow (h.be rfl rfl)) λ_=>kt.bG (h.be rfl rfl)
def kt.over (h:kt x):kt (yX x):=by
 unfold yX
 exact cy (λ_=>h.follow) λ_=>kt.look (h.be rfl rfl)
def kt.ch (h:kt x):kt (i7 x a draw pick sl):=by
 unfold i7
 refine cy (λ_=>cy (λ_=>h.be rfl rfl) λ_=>kt.dh (h.be rfl rfl)) λ_=>cy (λ_=>cy (λ_=>kt.bG (h.be rfl rfl)) λ_=>h.be rfl rfl) λ_=>cy (λ_=>?_) λ_=>kt.over (h.be rfl rfl)
 unfold Br
 exact cy (λ_=>kt.follow (h.be rfl rfl)) λ_=>kt.follow (h.be rfl rfl)
def kt.eA {s v:Int}(h:kt x):kt (iO x s v):=by
 unfold iO
 cases e:x.aj with
 |none=>exact h
 |some a=>exact cy (λ_=>cy (λ_=>h.bG) λ_=>cy (λ_=>h.be rfl e.symm) λ_=>h) λ_=>h
def E1.fj (d:da ρ)(h:E1 m)(ht:t∈m.ad)(i:t.B=1)(f:t.aj=some a):nW (ah ρ a (ag m.mem (ak a).1).2):=by
 have b:=(h.ad t ht).aj a f
 by_cases c:a.B=8\/a.B=0\/a.B=1\/a.B=2\/a.B=7
 ·
  rcases c with c|c|c|c|c
  all_goals
   unfold ah
   simp only[c,Int.reduceEq,if_false,if_true]
  ·exact b
  ·exact⟨b.run,b.v,b.Z⟩
  ·exact⟨b.run,b.v,b.Z⟩
  ·exact b.cM d
  ·exact⟨b.run,b.v,b.Z⟩
 ·have e:ak a=a.Z.next:=by
   unfold ak
   rw[zn (λg=>c (.inr (.inl g))),zn (λg=>c (.inr (.inr (.inl g)))),zn (λg=>c (.inr (.inr (.inr (.inl g))))),zn (λg=>c (.inr (.inr (.inr (.inr g))))),zn (λg=>c (.inl g))]
  rw[e]
  exact b.br d (b.Z.br h.mem)
abbrev OpU (z:vV×Bool):Prop:=z.1.aN=2->kY z.1.word
def E1.op (h:E1 m)(ht:t∈m.ad):(ai t).1.aN=2->kY (ai t).1.word:=by
 unfold ai
 by_cases b:t.B=1
 ·rw[zp b]
  cases d:t.aj with
  |none=>intro g;cases g
  |some a =>
   have c:=(h.ad t ht).aj a d
   simp only
   unfold ak
   refine cy (P:=OpU) (λ_ g=>(by cases g)) λ_=>cy (P:=OpU) (λ_ g=>(by cases g)) λ_=>cy (P:=OpU) (λ_ g=>(by cases g)) λ_=>cy (P:=OpU) (λ_ g=>(by cases g)) λ_=>cy (P:=OpU) (λ_ g=>(by cases g)) λ_=>c.Z.next
 ·rw[zn b]
  exact cy (P:=OpU) (λ_ g=>(by cases g)) λ_=>cy (P:=OpU) (λ_ g=>(by cases g)) λ_ g=>(by cases g)
def E1.thrTell (k:da ρ)(h:E1 m)(ht:t∈m.ad):kt (thrTell ρ t (ag m.mem (ai t).1).2 draw pick sl):=by
 have c:=h.ad t ht
 unfold S.thrTell
 by_cases d:t.B=1
 ·rw[zp d]
  cases f:t.aj with
  |none=>exact c
  |some a =>
   have i:ai t=ak a:=by grind
   have j:=h.fj k ht d f
   rw[i]
   simp only
   unfold ml
   have e:kt { t with aj:=some (ah ρ a (ag m.mem (ak a).1).2),aP:=if(ah ρ a (ag m.mem (ak a).1).2).aq&&!a.aq then pick else t.aP }:=⟨c.aw,λb g=>(by cases g;exact j)⟩
   exact cy (λ_=>e.ch) λ_=>e
 ·rw[zn d]
  refine cy (λ_=>c.yield) λ_=>cy (λ_=>?_) λ_=>c
  unfold tC
  exact kt.look (c.be rfl rfl)
def aep {k j:Nat}{s v:Int}{l:List bm}(h:∀t∈l,kt t):∀t∈mU j s v k l,kt t:=λt ht=>by
 unfold mU at ht
 obtain⟨q,hq,rfl⟩:=List.mem_mapIdx.1 ht
 exact cy (λ_=>(h _ (zae _)).eA) λ_=>h _ (zae _)
def aar {l:List bm}(h:∀t∈l,kt t)(hu:kt u):∀t∈l.set i u,kt t:=λt ht=>(za2 ht).elim (h t) λe=>by rw[e];exact hu
def E1.step (c:da ρ)(h:E1 m)(ht:m.ad[i]? = some t):E1 (if(ai t).2=true then bw ρ m i t draw sl else kz m i t):=by
 have a:=Ok ht
 refine cy (λ_=>?_) λ_=>?_
 ·unfold bw
  refine⟨ag8 h.mem (h.op a),?_⟩
  have b:=aar (i:=i) h.ad (h.thrTell c (draw:=draw) (pick:=m.au+1) (sl:=sl) a)
  exact cy (P:=λl:List bm=>∀t∈l,kt t) (λ_=>aep b) λ_=>b
 ·exact⟨h.mem,aar h.ad (h.ad t a).aW⟩
def E1.new {s:cv}{rows:List (List (List co))}(j:∀r∈rows,∀p∈r,∀i∈p,kY i.n):E1 (gy s rows):=by
 refine⟨?_,?_⟩
 ·show ∀n∈(tM (qK _) 6).w,kY n
  refine ag8 (o:=⟨2,5,0,14,aa,aa⟩) (λn f=>?_) (λ_=>⟨zd,zd⟩)
  rw[zco f];exact jN
 ·have c:∀{l:List (List (List co))} {S:cv} {k:Nat},(∀r∈l,∀p∈r,∀i∈p,kY i.n)->∀t∈l8 S k l,kt t:=λ{l}=>by
   induction l with
   |nil=>intro S k _ t b;cases b
   |cons r l ih =>
    intro S k h t b
    rcases zaa.1 b with e|e
    ·rw[e]
     exact kt.follow ⟨h r zao,λa g=>(by cases g)⟩
    ·exact ih (λq d=>h q (gr _ d)) t e
  exact c j
end
end Go.Proofs.YtoealglbimbbmaaGreatDoor.S
namespace Go.Proofs.YtoealglbimbbmaaGreatDoor.S
open Go Go.Proofs
structure CE (c:ct):Prop where
 O:c.B=7->(c.O=4->c.aV≠0)/\c.O≠3
 Y:(c.Y.O=4->c.Y.aV≠0)/\c.Y.O≠3
structure AE (a:az):Prop where
 com:∀c,a.Z=.com c->CE c
 er:7<=a.B->a.O=4->a.aV≠0
structure AR (p:List co)(a:az):Prop where
 e:AE a
 run:∃r,a.run=some r/\(a.B<=2->r.bad=pb p)
 out:pb p≠0->3<=a.B->7<=a.B/\a.O=4/\a.aV=pb p
structure AW (a:az):Prop where
 e:AE a
 run:a.run=none
 s5:a.B≠5
 fB:7<=a.B->a.O≠3
section
variable {S:cv}{h0:Hp}{n i nl nw:Nat}{G:Gs}{a:az}{c:ct}{ρ:qI}{an:ii}{p:List co}{l:ey}
def CE.leave (h:CE c)(a:c.B=7):CE (jC c):=by
 unfold jC
 split
 ·exact⟨h.O,h.O a⟩
 ·exact h
theorem CE.bn (h:CE c){e er b:Int}(he:(e=4->er≠0)/\e≠3):CE (jM c e er b):=CE.leave (c:={ c with O:=e,aV:=er,aY:=b,K:=0,B:=7 }) ⟨λ_=>he,h.Y⟩ rfl
def CE.be {c':ct}(h:CE c)(h1:c'.Y.O=c.Y.O)(h2:c'.Y.aV=c.Y.aV)(h3:c'.B≠7):CE c':=⟨λg=>absurd g h3,by rw[h1,h2];exact h.Y⟩
def ac7 {q:qM}{o:Int}:(q.waits o).1.O=q.O/\(q.waits o).1.aV=q.aV:=by grind[qM.waits]
theorem CE.held (h:CE c)(e:c.B≠7):CE (kM c l):=by
 obtain⟨b,d⟩:=ac7 (q:=c.Y) (o:=l.ar)
 have a:CE { c with Y:=(c.Y.waits l.ar).1 }:=h.be b d e
 unfold kM
 split
 ·exact a
 ·exact a.bn zd
def CE.give (h:CE c)(a:c.B≠7):CE (kf c):=by
 unfold kf
 split
 ·exact⟨λg=>absurd g a,⟨λg=>(by cases g),(by show(2:Int)≠3;decide)⟩⟩
 ·exact h
def CE.di (h:CE c)(a:c.B≠7):CE (jI c):=by
 unfold jI
 split
 ·exact CE.give (h.be rfl rfl (by show(6:Int)≠7;decide)) (by show(6:Int)≠7;decide)
 ·exact h
def CE.dl (h:CE c):CE (mo c):=CE.di (c:={ c with ao:=true,K:=0,B:=5 }) (h.be rfl rfl (by show(5:Int)≠7;decide)) (by show(5:Int)≠7;decide)
theorem CE.proveN:∀{k:Nat}{c:ct},CE c->c.B≠7->CE (proveN k c)
 |0,c,h,_=>h.dl
 |k+1,c,h,h7=>by
  unfold S.proveN
  split
  ·exact h
  ·split
   ·exact CE.proveN (k:=k) (h.be rfl rfl h7) h7
   ·exact h.bn zd
def CE.prove (h:CE c):CE (pH c):=CE.proveN (c:={ c with B:=4 }) (h.be rfl rfl (by show(4:Int)≠7;decide)) (by show(4:Int)≠7;decide)
def CE.br (h:CE c)(b:0<=c.B/\c.B<=7):CE (bk c an):=by
 unfold bk
 split
 ·split
  ·rename_i a
   unfold oN
   split
   ·split
    ·exact h.held zo
    ·exact h.be rfl rfl (by show(1:Int)≠7;decide)
   ·split
    ·exact h.be rfl rfl (by show(if _ then(2:Int)else 0)≠7;split<;>decide)
    ·exact h.be rfl rfl (by show(0:Int)≠7;decide)
  split
  ·rename_i a
   unfold mf
   split
   ·split
    ·exact h.bn zd
    ·exact h.be rfl rfl (by show(3:Int)≠7;decide)
   ·split
    ·exact h.be rfl rfl (by show(2:Int)≠7;decide)
    ·split
     ·exact h.dl
     ·exact h.prove
  split
  ·rename_i a
   unfold mc
   split
   ·exact h.held zo
   ·split
    ·exact CE.prove (c:={ c with K:=c.K+1 }) (h.be rfl rfl (by show c.B≠7;omega))
    ·exact h.bn zd
  split
  ·rename_i a
   exact CE.di (c:={ c with K:=c.K+1 }) (h.be rfl rfl (by show c.B≠7;omega)) (by show c.B≠7;omega)
  split
  ·rename_i a
   exact CE.give (c:={ c with K:=c.K+1 }) (h.be rfl rfl (by show c.B≠7;omega)) (by show c.B≠7;omega)
  ·exact CE.leave (c:={ c with K:=c.K+1 }) ⟨h.O,h.Y⟩ (by show c.B=7;omega)
 ·refine⟨h.O,?_⟩
  show((c.Y.aZ an.aV).O=4->(c.Y.aZ an.aV).aV≠0)/\(c.Y.aZ an.aV).O≠3
  unfold qM.aZ
  split
  ·rename_i q;exact⟨λ_=>q.2,(by show(4:Int)≠3;decide)⟩
  ·exact h.Y
def CE.new {me sp a:Int}{seen:List jz}{cells:List ay}{ss:List Int}:CE (ov me sp a seen cells ss):=by
 refine⟨λg=>?_,λg=>?_,?_⟩
 ·have g:(if _ then(2:Int)else 0)=7:=g
  grind
 ·have g:(0:Int)=4:=g
  cases g
 ·show(0:Int)≠3
  decide
def AE.out {e er b:Int}(h:AE a)(he:e=4->er≠0):AE (ip a e er b):=⟨h.com,λ_ g=>he g⟩
def AE.bV {a':az}(h7:a'.B<7)(hi:a'.Z.bh=false):AE a':=⟨λc hc=>(by rw[hc]at hi;cases hi),λg=>by omega⟩
theorem AE.cP {q:az×Int×Int}(h:AE q.1)(b:q.2.1=4->q.2.2≠0):AE (j0 q):=by
 unfold j0
 split
 ·exact AE.bV (by show(3:Int)<7;decide) rfl
 split
 ·exact AE.bV (by show(5:Int)<7;decide) rfl
 split
 ·rename_i g;exact h.out λ_=>b g
 split
 ·exact h.out zd
 ·exact⟨λc a=>(by cases a;exact CE.new),λg=>(by have g:(7:Int)<=6:=g;omega)⟩
def AE.mark (h:AE a):AE (gZ a):=by
 show AE (if az.wr _=true then _ else _)
 split
 ·exact⟨h.com,h.er⟩
 ·exact h
def Wu:∀{l:List Int}{g:Nat}{s:iX},((j7 l g s).2.2.1=1\/(j7 l g s).2.2.1=2\/(j7 l g s).2.2.1=4)/\((j7 l g s).2.2.1=4->(j7 l g s).2.2.2≠0)
 | [],g,s=>⟨by simp[j7],by simp[j7]⟩
 |b::l,g,s=>by
  unfold j7
  split
  ·exact Wu
  ·rename_i g0
   split
   ·exact⟨.inl rfl,λg=>by cases g⟩
   ·exact⟨.inr (.inr rfl),λ_=>g0⟩
def AR.cM (k:da ρ)(h:AR p a)(l:∀r,a.run=some r->zW r a.v)(n:a.B<=2\/pb p=0)(m:a.B<7):AR p (iq ρ a):=by
 obtain⟨r,i,b⟩:=h.run
 have q:=k.q r a.v (l r i)
 unfold iq
 have e:iu ρ a=({ a with run:=some (ρ r a.v).1,v:=(ρ r a.v).2.1 },(ρ r a.v).2.2,(ρ r a.v).1.aV):=by grind[iu]
 rw[e]
 generalize ρ r a.v=R at q ⊢
 have j:AE { a with run:=some R.1,v:=R.2.1 }:=⟨h.e.com,λg=>absurd g (by show ¬7<=a.B;omega)⟩
 have d:=j.cP (q:=({ a with run:=some R.1,v:=R.2.1 },R.2.2,R.1.aV)) q.er
 refine⟨d,⟨R.1,?_,λg=>?_⟩,λc _=>?_⟩
 ·unfold j0
  repeat' split
  all_goals rfl
 ·exfalso
  unfold j0 at g
  repeat' split at g
  all_goals(simp only at g;omega)
 ·have b:=b zo
  have f:=q.bd (by rw[b];exact c)
  unfold j0
  rw[zn (by show ¬R.2.2=1;omega),zn (by show ¬R.2.2=3;omega),zp (by exact f.1)]
  grind
def AW.cM (h:AW a)(k:a.B<7):AW (iq ρ a):=by
 unfold iq
 have e:iu ρ a=({ a with aQ:=(j7 (a.aD.drop a.aQ) a.aQ a.v).1,v:=(j7 (a.aD.drop a.aQ) a.aQ a.v).2.1 },(j7 (a.aD.drop a.aQ) a.aQ a.v).2.2.1,(j7 (a.aD.drop a.aQ) a.aQ a.v).2.2.2):=by unfold iu;rw[h.run]
 rw[e]
 obtain⟨j,d⟩:=Wu (l:=a.aD.drop a.aQ) (g:=a.aQ) (s:=a.v)
 generalize j7 (a.aD.drop a.aQ) a.aQ a.v=R at j d ⊢
 have i:AE { a with aQ:=R.1,v:=R.2.1 }:=⟨h.e.com,λg=>absurd g (by show ¬7<=a.B;omega)⟩
 have f:=i.cP (q:=({ a with aQ:=R.1,v:=R.2.1 },R.2.2.1,R.2.2.2)) d
 have b:(j0 ({ a with aQ:=R.1,v:=R.2.1 },R.2.2.1,R.2.2.2)).run=none:=by
  unfold j0
  repeat' split
  all_goals exact h.run
 suffices hs:(j0 ({ a with aQ:=R.1,v:=R.2.1 },R.2.2.1,R.2.2.2)).B≠5/\(7<=(j0 ({ a with aQ:=R.1,v:=R.2.1 },R.2.2.1,R.2.2.2)).B->(j0 ({ a with aQ:=R.1,v:=R.2.1 },R.2.2.1,R.2.2.2)).O≠3)from⟨f,b,hs.1,hs.2⟩
 unfold j0
 rw[zn (c:=R.2.2.1=3) zo]
 split
 all_goals grind
def ZO {y:az}:(gZ y).B=y.B/\(gZ y).O=y.O/\(gZ y).aV=y.aV/\(gZ y).run=y.run:=by grind
def AR.mark (h:AR p a):AR p (gZ a):=by
 obtain⟨b,f,d,c⟩:=ZO (y:=a)
 exact⟨h.e.mark,by rw[c,b];exact h.run,λg=>by rw[b,f,d];exact h.out g⟩
def AW.mark (h:AW a):AW (gZ a):=by
 obtain⟨b,c,f,d⟩:=ZO (y:=a)
 exact⟨h.e.mark,by rw[d];exact h.run,by rw[b];exact h.s5,by rw[b,c];exact h.fB⟩
def AR.to {a':az}(h:AR p a)(h3:3<=a'.B)(hc:pb p=0)(hr:a'.run=a.run)(he:AE a'):AR p a':=⟨he,by obtain⟨r,h1,_⟩:=h.run;exact⟨r,hr.trans h1,λg=>by omega⟩,λg=>absurd hc g⟩
def AW.to {a':az}(h:AW a)(h5:a'.B≠5)(hr:a'.run=a.run)(he:AE a')(h3:7<=a'.B->a'.O≠3):AW a':=⟨he,hr.trans h.run,h5,h3⟩
def aad {i:zT}(h:i.br an=.com c):∃c0,i=.com c0/\c=bk c0 an:=by grind
def AR.br (F:da ρ)(k:jJ S h0 n G nl nw i a)(N:a.B≠8)(h:AR p a):AR p (ah ρ a an):=by
 have t:=k.st
 unfold ah
 rw[zn N]
 obtain⟨r,m,s⟩:=h.run
 split
 ·rename_i M;exact⟨⟨h.e.com,λg=>(by have g:(7:Int)<=1:=g;omega)⟩,⟨r,m,λ_=>s zo⟩,λ_ g=>(by have g:(3:Int)<=1:=g;omega)⟩
 split
 ·rename_i K;exact⟨⟨h.e.com,λg=>(by have g:(7:Int)<=2:=g;omega)⟩,⟨r,m,λ_=>s zo⟩,λ_ g=>(by have g:(3:Int)<=2:=g;omega)⟩
 split
 ·rename_i J;exact h.cM F (k.run zo).1 (.inl zo) zo
 split
 ·rename_i L
  exact⟨⟨h.e.com,λ_=>h.e.er zo⟩,⟨r,m,λg=>(by have g:(8:Int)<=2:=g;omega)⟩,λg _=>⟨(by show(7:Int)<=8;omega),(h.out g zo).2⟩⟩
 have d:pb p=0:=by
  by_cases g:pb p=0
  ·exact g
  ·have:=(h.out g zo).1;omega
 have j:AE { a with Z:=a.Z.br an }:=⟨λc d=>by
  obtain⟨q,b,rfl⟩:=aad d
  exact(h.e.com q b).br (k.cy q b).1.ok.st,λg=>absurd g (by show ¬7<=a.B;omega)⟩
 have b:AR p { a with Z:=a.Z.br an }:=h.to (by show 3<=a.B;omega) d rfl j
 unfold bu
 refine AR.mark ?_
 split
 ·exact b
 split
 ·exact b.to (by show(3:Int)<=7;decide) d rfl (j.out zd)
 rename_i x H
 by_cases E:a.B=3
 ·obtain⟨_,f,C,_⟩:=k.cx E
  have z:=(k.run zo).1
  rw[C]at b j ⊢
  have b:AR p { a with Z:=.fetch (bp f an) }:=b
  show AR p (cq ρ { a with Z:=.fetch (bp f an) } (bp f an))
  unfold cq
  split
  ·exact b.to (by show(3:Int)<=4;decide) d rfl (AE.bV (by show(4:Int)<7;decide) rfl)
  split
  ·have w:∀{y:Int},(uu a.v a.v.a9 y).1.l=a.v.l:=Uk
   exact AR.cM (a:=ju { a with Z:=.fetch (bp f an) } (bp f an)) F (b.to (by show 3<=a.B;omega) d rfl (AE.bV (by show a.B<7;omega) rfl)) (λr m=>(z r m).lv w) (.inr d) (by show a.B<7;omega)
  split
  ·exact b.to (by show(3:Int)<=7;decide) d rfl (AE.out (a:=lz { a with Z:=.fetch (bp f an) } (bp f an)) (AE.bV (by show a.B<7;omega) rfl) zd)
  ·rename_i D _
   exact b.to (by show(3:Int)<=7;decide) d rfl (AE.out (a:=lz { a with Z:=.fetch (bp f an) } (bp f an)) (AE.bV (by show a.B<7;omega) rfl) λ_=>D)
 by_cases u:a.B=6
 ·obtain⟨c,o,_⟩:=k.com u
  rw[o]at b j x ⊢
  have b:AR p { a with Z:=.com (bk c an) }:=b
  have j:AE { a with Z:=.com (bk c an) }:=j
  show AR p (ip { a with Z:=.com (bk c an) } (bk c an).Y.O (bk c an).Y.aV (-1))
  exact b.to (by show(3:Int)<=7;decide) d rfl (j.out λg=>(j.com _ rfl).Y.1 g)
 ·obtain⟨_,e,A,_⟩:=k.ext zo
  rw[A]at b j ⊢
  have b:AR p { a with Z:=.ext (fa e an) }:=b
  show AR p (if a.B=4 then rB { { a with Z:=.ext (fa e an) }with I:=(fa e an).I } a.v.a9 else ip { { a with Z:=.ext (fa e an) }with I:=(fa e an).I } 3 0 (-1))
  split
  ·exact b.to (by show(3:Int)<=3;decide) d rfl (AE.bV (by show(3:Int)<7;decide) rfl)
  ·exact b.to (by show(3:Int)<=7;decide) d rfl (AE.out (a:={ { a with Z:=.ext (fa e an) }with I:=(fa e an).I }) (AE.bV (by show a.B<7;omega) rfl) zd)
def AW.br (j:jJ S h0 n G nl nw i a)(A:a.B≠8)(h:AW a):AW (ah ρ a an):=by
 have q:=j.st
 have s:=h.s5
 unfold ah
 rw[zn A]
 split
 ·exact⟨⟨h.e.com,λg=>(by have g:(7:Int)<=1:=g;omega)⟩,h.run,(by show(1:Int)≠5;decide),λg=>(by have g:(7:Int)<=1:=g;omega)⟩
 split
 ·exact⟨⟨h.e.com,λg=>(by have g:(7:Int)<=2:=g;omega)⟩,h.run,(by show(2:Int)≠5;decide),λg=>(by have g:(7:Int)<=2:=g;omega)⟩
 split
 ·rename_i y;exact h.cM zo
 split
 ·rename_i z;exact⟨⟨h.e.com,λ_=>h.e.er zo⟩,h.run,(by show(8:Int)≠5;decide),λ_=>h.fB zo⟩
 have d:AE { a with Z:=a.Z.br an }:=⟨λc x=>by
  obtain⟨l,b,rfl⟩:=aad x
  exact(h.e.com l b).br (j.cy l b).1.ok.st,λg=>absurd g (by show ¬7<=a.B;omega)⟩
 have b:AW { a with Z:=a.Z.br an }:=h.to s rfl d λg=>absurd g (by show ¬7<=a.B;omega)
 unfold bu
 refine AW.mark ?_
 split
 ·exact b
 split
 ·exact b.to (by show(7:Int)≠5;decide) rfl (d.out zd) λ_=>(by show(5:Int)≠3;decide)
 rename_i p o
 by_cases w:a.B=3
 ·obtain⟨_,f,m,_⟩:=j.cx w
  rw[m]at b d ⊢
  have b:AW { a with Z:=.fetch (bp f an) }:=b
  show AW (cq ρ { a with Z:=.fetch (bp f an) } (bp f an))
  unfold cq
  split
  ·exact b.to (by show(4:Int)≠5;decide) rfl (AE.bV (by show(4:Int)<7;decide) rfl) λg=>(by have g:(7:Int)<=4:=g;omega)
  split
  ·exact AW.cM (a:=ju { a with Z:=.fetch (bp f an) } (bp f an)) (b.to (by show a.B≠5;omega) rfl (AE.bV (by show a.B<7;omega) rfl) λg=>absurd g (by show ¬7<=a.B;omega)) (by show a.B<7;omega)
  split
  ·exact b.to (by show(7:Int)≠5;decide) rfl (AE.out (a:=lz { a with Z:=.fetch (bp f an) } (bp f an)) (AE.bV (by show a.B<7;omega) rfl) zd) λ_=>(by show(5:Int)≠3;decide)
  ·rename_i t _
   exact b.to (by show(7:Int)≠5;decide) rfl (AE.out (a:=lz { a with Z:=.fetch (bp f an) } (bp f an)) (AE.bV (by show a.B<7;omega) rfl) λ_=>t) λ_=>(by show(4:Int)≠3;decide)
 by_cases u:a.B=6
 ·obtain⟨c,k,m⟩:=j.com u
  rw[k]at b d p o ⊢
  have b:AW { a with Z:=.com (bk c an) }:=b
  have d:AE { a with Z:=.com (bk c an) }:=d
  show AW (ip { a with Z:=.com (bk c an) } (bk c an).Y.O (bk c an).Y.aV (-1))
  refine b.to (by show(7:Int)≠5;decide) rfl (d.out λg=>(d.com _ rfl).Y.1 g) λ_=>(d.com _ rfl).Y.2
 ·obtain⟨_,e,r,_⟩:=j.ext zo
  rw[r]at b d ⊢
  have b:AW { a with Z:=.ext (fa e an) }:=b
  show AW (if a.B=4 then rB { { a with Z:=.ext (fa e an) }with I:=(fa e an).I } a.v.a9 else ip { { a with Z:=.ext (fa e an) }with I:=(fa e an).I } 3 0 (-1))
  rw[zp]
  exact b.to (by show(3:Int)≠5;decide) rfl (AE.bV (by show(3:Int)<7;decide) rfl) λg=>(by have g:(7:Int)<=3:=g;omega)
end
def Za (p:List co)(r:Q6):Prop:=(r.aN=2\/(r.aN=4/\r.aV≠0))/\(pb p≠0->r.aV=pb p)
structure vN (t:bm):Prop where
 bF:t.B≠6->(t.aX.length:Int)=t.aI+(if t.aE=true\/t.B=5 then 1 else 0)
 eB:t.B=6->t.aX.length=t.aw.length
 bC:∀(k:Nat) r,t.aX[k]? = some r->∃p,t.aw[k]? = some p/\Za p r
 eJ:t.B=1->∀a,t.aj=some a->(t.aE=false->∃p,t.aw[t.aI.toNat]? = some p/\AR p a)/\(t.aE=true->AW a)
 w:t.B=4->t.aE=false
 l:t.B=5->t.aE=false
 aI:0<=t.aI/\t.aI<=t.aw.length
section
variable {S:cv}{h0:Hp}{n i nl nw:Nat}{G:Gs}{t u:bm}{a:az}{ρ:qI}{an:ii}{p:List co}{draw pick:Int}{sl:ByteArray}
structure p7 (t:bm)(d:Int):Prop where
 bF:(t.aX.length:Int)=t.aI+d
 bC:∀(k:Nat) r,t.aX[k]? = some r->∃p,t.aw[k]? = some p/\Za p r
 aI:0<=t.aI/\t.aI<=t.aw.length
def Wr {me:Int}{s:cv}{r:Option ig}{bs:List Int}:AE { uX me s with run:=r,aD:=bs }:=⟨λc hc=>(by cases hc),λg=>(by have g:(7:Int)<=0:=g;omega)⟩
def p7.bG (h:p7 u (if u.aE=true then 1 else 0)):vN (cw u):=by
 have hj:=h.aI
 unfold cw
 cases d:u.aw[u.aI.toNat]? with
 |none =>
  have f:=zbL.1 d
  have e:u.aI=u.aw.length:=by omega
  have j:=h.bF
  have c:u.aX.length<=u.aw.length:=by
   rcases zaE u.aw.length u.aX.length with g|g
   ·obtain⟨p,i,_⟩:=h.bC u.aw.length _ (dg g)
    grind
   ·exact g
  refine⟨λg=>absurd rfl g,λ_=>?_,h.bC,λg=>(by cases g),λg=>(by cases g),λg=>(by cases g),hj⟩
  grind
 |some p =>
  refine⟨λ_=>?_,λg=>(by cases g),h.bC,λ_ a b=>?_,λg=>(by cases g),λg=>(by cases g),hj⟩
  ·show(u.aX.length:Int)=u.aI+(if u.aE=true\/(1:Int)=5 then 1 else 0)
   rw[h.bF];simp
  ·have b:some (if u.aE=true then lm u.me u.s (u.aF.map (·.J))else om u.me u.s p)=some a:=b
   cases b
   refine⟨λg=>⟨p,d,?_⟩,λg=>?_⟩
   ·have g:u.aE=false:=g
    rw[g]
    exact⟨Wr,⟨_,rfl,λ_=>rfl⟩,λ_ g=>(by have g:(3:Int)<=0:=g;omega)⟩
   ·have g:u.aE=true:=g
    rw[zp g]
    exact⟨Wr,rfl,(by show(0:Int)≠5;decide),λg=>(by have g:(7:Int)<=0:=g;omega)⟩
def p7.aW (h:p7 u (if u.aE=true then 1 else 0))(h1:u.B≠1)(h4:u.B≠4)(h5:u.B≠5)(h6:u.B≠6):vN u:=⟨λ_=>by rw[h.bF];simp[h5],λg=>absurd g h6,h.bC,λg=>absurd g h1,λg=>absurd g h4,λg=>absurd g h5,h.aI⟩
def p7.dh (h:p7 u (if u.aE=true then 1 else 0)):vN (lN u draw):=by
 show vN (if _ then _ else _)
 split
 ·exact p7.bG (u:={ u with aS:=0,B:=3 }) ⟨h.bF,h.bC,h.aI⟩
 ·exact p7.aW (u:={ u with aS:=nK u.a7 draw,B:=3 }) ⟨h.bF,h.bC,h.aI⟩ (by show(3:Int)≠1;decide) (by show(3:Int)≠4;decide) (by show(3:Int)≠5;decide) (by show(3:Int)≠6;decide)
def p7.follow (h:p7 u 1)(hj:u.aI<u.aw.length):vN (kW u):=by
 have:=h.aI
 exact p7.bG (u:={ u with aI:=u.aI+1,aE:=false,aF:=[],aM:=0,a7:=0 }) ⟨by show(u.aX.length:Int)=u.aI+1+(if false=true then 1 else 0);rw[h.bF];simp,h.bC,by show 0<=u.aI+1/\u.aI+1<=(u.aw.length:Int);omega⟩
def p7.look (h:p7 u 1)(hj:u.aI<u.aw.length)(b:u.B=5)(a:u.aE=false):vN (lu u):=by
 unfold lu
 split
 ·exact⟨λ_=>by show(u.aX.length:Int)=u.aI+(if u.aE=true\/u.B=5 then 1 else 0);rw[h.bF,zp (.inr b)],λg=>(by have g:u.B=6:=g;omega),h.bC,λg=>(by have g:u.B=1:=g;omega),λg=>(by have g:u.B=4:=g;omega),λ_=>a,h.aI⟩
 split
 ·exact p7.follow (u:={ u with aK:=jb u,aC:=u.aC.filter λr=>!iU (jb u) r.I }) ⟨h.bF,h.bC,h.aI⟩ hj
 ·exact p7.bG (u:={ u with aK:=jb u,aC:=u.aC.filter (λr=>!iU (jb u) r.I),aE:=true,aF:=u.aC.filter (λr=>iU (jb u) r.I),aM:=0,a7:=0 }) ⟨h.bF,h.bC,h.aI⟩
def acl (h:p7 u (if u.aE=true then 1 else 0))(hj:u.aI<u.aw.length)(w:u.B=1)(s:(u.aE=false->∃p,u.aw[u.aI.toNat]? = some p/\AR p a)/\(u.aE=true->AW a))(x:a.B=8)(v:a.O=2\/a.O=3\/a.O=4\/a.O=5):vN (i7 u a draw pick sl):=by
 have j:=h.aI
 unfold i7
 split
 ·split
  ·exact p7.aW (u:={ u with aA:=u.aA++[j6 a u.aP pick],aM:=IntKind.wrap .i64 (u.aM+1),a7:=IntKind.wrap .i64 (u.a7+1),B:=2,aY:=a.aY,c2:=false }) ⟨h.bF,h.bC,h.aI⟩ (by show(2:Int)≠1;decide) (by show(2:Int)≠4;decide) (by show(2:Int)≠5;decide) (by show(2:Int)≠6;decide)
  ·exact p7.dh (u:={ u with aA:=u.aA++[j6 a u.aP pick],aM:=IntKind.wrap .i64 (u.aM+1),a7:=IntKind.wrap .i64 (u.a7+1) }) ⟨h.bF,h.bC,h.aI⟩
 split
 ·rename_i l
  have i:u.aE=false:=by
   cases g:u.aE with
   |false=>rfl
   |true=>exact absurd l ((s.2 g).fB zo)
  split
  ·exact p7.bG (u:={ u with aA:=u.aA++[j6 a u.aP pick],aM:=IntKind.wrap .i64 (u.aM+1) }) ⟨h.bF,h.bC,h.aI⟩
  ·refine⟨λ_=>?_,λg=>(by have g:(4:Int)=6:=g;omega),h.bC,λg=>(by have g:(4:Int)=1:=g;omega),λ_=>i,λg=>(by have g:(4:Int)=5:=g;omega),h.aI⟩
   show(u.aX.length:Int)=u.aI+(if u.aE=true\/(4:Int)=5 then 1 else 0)
   rw[h.bF];simp
 split
 ·rename_i c
  have b:p7 u 1:=⟨by rw[h.bF,zp c],h.bC,h.aI⟩
  show vN (if _ then _ else _)
  split
  ·exact p7.follow (u:={ { u with aA:=u.aA++[j6 a u.aP pick],aM:=IntKind.wrap .i64 (u.aM+1) }with aC:=u.aC++u.aF }) ⟨b.bF,b.bC,b.aI⟩ hj
  ·exact p7.follow (u:={ u with aA:=u.aA++[j6 a u.aP pick],aM:=IntKind.wrap .i64 (u.aM+1) }) ⟨b.bF,b.bC,b.aI⟩ hj
 ·rename_i t l c
  have i:u.aE=false:=by simpa using c
  obtain⟨p,q,m⟩:=s.1 i
  have f:=h.bF
  rw[zn c]at f
  have o:Za p ⟨a.O,a.aV,sl,a.I⟩:=⟨by
   show a.O=2\/(a.O=4/\a.aV≠0)
   by_cases g:a.O=4
   ·exact .inr ⟨g,m.e.er zo g⟩
   ·exact .inl zo,λg=>(m.out g zo).2.2⟩
  have b:p7 { u with aA:=u.aA++[j6 a u.aP pick],aM:=IntKind.wrap .i64 (u.aM+1),aX:=u.aX++[(⟨a.O,a.aV,sl,a.I⟩:Q6)],aC:=u.aC++a.bc.map λn=>(⟨n,a.I⟩:rM) } 1:=by
   refine⟨by simp only[LE,gg];omega,λk r d=>?_,h.aI⟩
   simp only at d ⊢
   rcases zaE k u.aX.length with g|g
   ·rw[zbm g]at d;exact h.bC k r d
   ·have:k=u.aX.length:=by
     have:=(Nm.1 d).1
     simp only[LE,gg]at this
     omega
    subst this
    rw[zaR (LT _)]at d
    simp at d
    subst d
    exact⟨p,by rw[<-q];congr 1;omega,o⟩
  show vN (if _ then _ else _)
  split
  ·exact p7.follow b hj
  ·exact p7.look (u:={ { u with aA:=u.aA++[j6 a u.aP pick],aM:=IntKind.wrap .i64 (u.aM+1),aX:=u.aX++[(⟨a.O,a.aV,sl,a.I⟩:Q6)],aC:=u.aC++a.bc.map λn=>(⟨n,a.I⟩:rM) }with B:=5,aK:=[] }) ⟨b.bF,b.bC,b.aI⟩ hj rfl i
def vN.dY (h:vN t)(h5:t.B≠5)(h6:t.B≠6):p7 t (if t.aE=true then 1 else 0):=⟨by rw[h.bF h6];simp[h5],h.bC,h.aI⟩
def vN.eA {s v:Int}(h:vN t):vN (iO t s v):=by
 unfold iO
 split
 ·exact h
 ·split
  ·split
   ·rename_i a
    exact p7.bG (h.dY zo zo)
   ·split
    ·exact⟨h.bF,h.eB,h.bC,h.eJ,h.w,h.l,h.aI⟩
    ·exact h
  ·exact h
def vN.aF (h:vN t):vN (gK t):=by
 show vN (if _ then _ else _)
 split
 ·rename_i b
  have a:=h.dY zo zo
  split
  ·exact p7.bG (u:={ t with aS:=0 }) ⟨a.bF,a.bC,a.aI⟩
  ·exact p7.aW (u:={ t with aS:=t.aS-1 }) ⟨a.bF,a.bC,a.aI⟩ (by show t.B≠1;omega) (by show t.B≠4;omega) (by show t.B≠5;omega) (by show t.B≠6;omega)
 ·exact h
def vN.br (F:da ρ)(D:vh S h0 n G nl nw i pick t)(h:vN t){pk:Int}:vN (thrTell ρ t an draw pk sl):=by
 have hj:=D.aI
 show vN (if _ then _ else _)
 split
 ·rename_i f
  have hj:=hj zo
  obtain⟨a,m,d,j,_⟩:=D.run f
  have h0:=h.dY zo zo
  obtain⟨A,z⟩:=h.eJ f a m
  rw[m]
  simp only
  have c:(t.aE=false->∃p,t.aw[t.aI.toNat]? = some p/\AR p (ah ρ a an))/\(t.aE=true->AW (ah ρ a an)):=⟨λg=>by obtain⟨p,y,q⟩:=A g;exact⟨p,y,q.br F d j⟩,λg=>(z g).br d j⟩
  by_cases g:(ah ρ a an).B=8/\(ah ρ a an).O≠0
  ·have s:=d.st
   have x:a.B=7:=by
    by_cases o:a.B=7
    ·exact o
    ·exact absurd g.1 (ac0 j o)
   have v:ah ρ a an={ a with B:=8 }:=by unfold ah;rw[zn,zn,zn,zn,zp x]
   have e:ml t a (ah ρ a an) draw pk sl=i7 { t with aj:=some (ah ρ a an),aP:=if(ah ρ a an).aq&&!a.aq then pk else t.aP } (ah ρ a an) draw pk sl:=zp g
   rw[e]
   refine acl ⟨h0.bF,h0.bC,h0.aI⟩ hj f c g.1 ?_
   rw[v]
   exact(d.out zo).1
  ·have e:ml t a (ah ρ a an) draw pk sl={ t with aj:=some (ah ρ a an),aP:=if(ah ρ a an).aq&&!a.aq then pk else t.aP }:=zn g
   rw[e]
   exact⟨h.bF,h.eB,h.bC,λ_ b C=>by cases C;exact c,h.w,h.l,h.aI⟩
 split
 ·rename_i E
  have h0:=h.dY zo zo
  show vN (if _ then _ else _)
  split
  ·exact⟨h.bF,h.eB,h.bC,h.eJ,h.w,h.l,h.aI⟩
  ·exact h0.dh
 split
 ·rename_i k
  have r:=h.bF zo
  rw[zp (.inr k)]at r
  exact p7.look (u:={ t with aK:=t.aK++[if an.aV=0 then an.word else 0] }) ⟨r,h.bC,h.aI⟩ (hj zo) k (h.l k)
 ·exact h
def akF (rows:List (List (List co)))(x:eU):Prop:=∀(i:Nat) t,x.ad[i]? = some t->vN t/\rows[i]? = some t.aw
end
section
variable {S:cv}{h0:Hp}{n i j k r:Nat}{L:jZ}{x x' x0:eU}{t u:bm}{a:az}{ρ:qI}{an:ii}{draw pick:Int}{sl:ByteArray}{rows:List (List (List co))}
theorem sW:(cw u).aw=u.aw:=by unfold cw;split<;>rfl
theorem Pd:(lN u draw).aw=u.aw:=by grind[sW]
theorem Si:(lu u).aw=u.aw:=by grind[lu,sW]
theorem Yk:(i7 u a draw pick sl).aw=u.aw:=by
 unfold i7
 split
 all_goals grind[Pd,sW,Si]
def abF:(thrTell ρ t an draw pick sl).aw=t.aw:=by
 show(if _ then _ else _:bm).aw=_
 split
 ·cases b:t.aj with
  |none=>rfl
  |some a =>
   simp only
   by_cases g:(ah ρ a an).B=8/\(ah ρ a an).O≠0
   ·have e:ml t a (ah ρ a an) draw pick sl=i7 { t with aj:=some (ah ρ a an),aP:=if(ah ρ a an).aq&&!a.aq then pick else t.aP } (ah ρ a an) draw pick sl:=zp g
    grind[Yk]
   all_goals grind
 grind[Pd,Si]
def aaQ {s v:Int}:(iO t s v).aw=t.aw:=by
 unfold iO
 split
 ·rfl
 ·split
  ·split
   ·exact sW
   ·split<;>rfl
  ·rfl
def abT:(gK t).aw=t.aw:=by grind[sW]
structure TI (S:cv)(h0:Hp)(n:Nat)(rows:List (List (List co)))(x:eU):Prop where
 lv:∃L,qF S h0 n x L
 u:E1 x
 aX:akF rows x
def TI.ui (h:TI S h0 n rows x)(ht:x.ad[i]? = some t):UI x t:=λρ hρ h1 a ha=>(h.u.fj hρ (Ok ht) h1 ha).af
def TI.eC (h:TI S h0 n rows x)(ht:x.ad[i]? = some t)(z:x.au<=1000000)(o:da ρ)(hd:0<=draw):TI S h0 n rows (if(ai t).2=true then bw ρ x i t draw sl else kz x i t):=by
 obtain⟨L,f⟩:=h.lv
 have b:=h.u.step (draw:=draw) (sl:=sl) o ht
 obtain⟨k,hj⟩:=h.aX i t ht
 by_cases g:(ai t).2=true
 ·rw[zp g]at b ⊢
  obtain⟨w,r,_⟩:=WQ (draw:=draw) (sl:=sl) f ht z g (h.ui ht) o hd
  refine⟨⟨w,r⟩,b,λj d a=>?_⟩
  obtain⟨s,v⟩:=AP (ρ:=ρ) (draw:=draw) (sl:=sl) ht
  by_cases e:j=i
  ·subst e
   rw[s]at a;cases a
   exact⟨k.br o (f.mi.ad j t ht),by rw[abF];exact hj⟩
  ·rcases v j e with⟨_,q⟩|⟨u,p,y⟩
   ·rw[q]at a;cases a
   ·rw[y]at a;cases a
    obtain⟨l,m⟩:=h.aX j u p
    split
    ·exact⟨l.eA,by rw[aaQ];exact m⟩
    ·exact⟨l,m⟩
 ·rw[zn g]at b ⊢
  have g:(ai t).2=false:=by simpa using g
  refine⟨⟨L,OZ f ht g⟩,b,λj d a=>?_⟩
  have c:=(Nm.1 ht).1
  have a:(x.ad.set i (gK t))[j]? = some d:=a
  by_cases e:j=i
  ·subst e
   rw[zap c]at a;cases a
   exact⟨k.aF,by rw[abT];exact hj⟩
  ·rw[zai (zbr e)]at a
   exact h.aX j d a
def TI.fK (h:TI S h0 n rows x)(ht:x.ad[i]? = some t)(a:da ρ):Pk0 x i (if(ai t).2=true then bw ρ x i t 0 sl else kz x i t):=by
 refine⟨t,ht,?_⟩
 by_cases g:(ai t).2=true
 ·exact .inl ⟨g,h.ui ht,ρ,sl,a,by rw[zp g]⟩
 all_goals grind
def TI.init {s:cv}(g:rows.length<=4)(hs0:0<=s.start)(e:∀r∈rows,r.length<=6/\∀p∈r,nI p/\∀i∈p,kY i.n):TI (eS s rows.length) (λc=>(gy s rows).mem.w.getD c.toNat 0) rows.length rows (gy s rows):=by
 refine⟨⟨[],adA g hs0 λr h=>⟨(e r h).1,λp d=>((e r h).2 p d).1⟩⟩,E1.new λr h p d=>((e r h).2 p d).2,λi t a=>?_⟩
 have a:(l8 (eS s rows.length) 0 rows)[i]? = some t:=a
 rw[N9 (r:=[]),za0]at a
 obtain⟨r,b,rfl⟩:=a
 refine⟨?_,by show rows[i]? = some (cw _).aw;rw[sW];exact b⟩
 show vN (cw _)
 refine p7.bG ⟨zs,λk r f=>(by simp at f),zs⟩
def TI.done (h:TI S h0 n rows x)(l:XU x)(ht:x.ad[i]? = some t):∃row,rows[i]? = some row/\t.aX.length<=row.length/\(t.aX.length=row.length↔t.B=6)/\∀(k:Nat) r,t.aX[k]? = some r->∃p,row[k]? = some p/\Za p r:=by
 obtain⟨L,c⟩:=h.lv
 obtain⟨a,f⟩:=h.aX i t ht
 have hj:=(c.mi.ad i t ht).aI
 refine⟨t.aw,f,?_⟩
 rcases l t (Ok ht)with b|s4
 ·have:=a.eB b
  exact⟨zo,⟨λ_=>b,λ_=>this⟩,a.bC⟩
 ·have d:=a.bF zo
  have j:=a.w s4
  have e:(if t.aE=true\/t.B=5 then(1:Int)else 0)=0:=by grind
  rw[e]at d
  have:=hj zo
  exact⟨zo,⟨λg=>by omega,λg=>by omega⟩,a.bC⟩
def TI.fG (h:TI S h0 n rows x)(d:∀r∈rows,r.length<=4)(e:x.au<=1000):∃L,Sti S h0 n 0 x L:=by
 obtain⟨L,b⟩:=h.lv
 have a:=b.eE λi t c=>d _ (Ok (h.aX i t c).2)
 exact⟨L,b,zo,λ_=>a,λg=>by omega,zo⟩
def Rpt (n k:Nat)(x0 x:eU):Prop:=∀x2,Rnd n k x x2->Rnd n 0 x0 x2
def Rpt.nil:Rpt n 0 x x:=λ_ h=>h
def Rpt.cons (h:Rpt n k x0 x)(hk:k<n)(hp:Pk0 x k x'):Rpt n (k+1) x0 x':=λx2 h2=>h x2 (.cons hk hp h2)
def Rpt.all (h:Rpt n n x0 x):Rnd n 0 x0 x:=h x .nil
end
end Go.Proofs.YtoealglbimbbmaaGreatDoor.S
