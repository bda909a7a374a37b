import Derived.Test.YtoealglbimbbmaaGreatDoorTChk
import Derived.ChangeSame
import Derived.Test.YtoealglbimbbmaaGreatDoorTMac
import Derived.Test.YtoealglbimbbmaaGreatDoorTMod
set_option linter.defProp false
set_option linter.unusedVariables false
set_option linter.unusedSimpArgs false
namespace Go.Proofs.YtoealglbimbbmaaGreatDoor.S
open Go Go.Proofs Go.ChangeShapes Go.WideShapes Go.ChangeAt Go.RowKit
def G.run {w:World}{F:World->Prop}(h:G (bz.of w) [] F):F w:=h w ⟨λ_=>none,λ_=>rfl,nF.refl _ _,λb cs e=>(by cases e),λb o e=>(by cases e),zag _⟩
section
variable {H:Type}{enc:TypeId×Value->H}{P:Program}{w:World}{base:Nat}{spare:Nat->Bool}{heldB:Bool}
def adg {α:Type}(E:uk α){r:Reach}{D:Nat}{t e:TypeId}{k:Nat}{ks:List CK}{v:Value}{d:DataW H}{ps:List MemPlace}(ht:P.underlying t=some (.slice e))(B:kinds P k e=some ks)(i:P.cellsOf e=ks.length)
  (h0:0<ks.length) (hE:∀cs,good ks cs->∃a,E.enc a=cs) (C:ks.length=E.sz) (p:Value.okWide P w r D t v) (h:DataW.Trod enc P w base spare heldB t v d ps):∃xs:List α,Nk (bz.of w) v E xs/\(∀x∈xs,good ks (E.enc x))/\(xs.length=0\/∃el sp,d=.slice el sp/\el.length=xs.length):=by
 obtain⟨a,c,g,rfl⟩:=okWide_slice ht p
 obtain⟨o,z⟩:=h
 obtain⟨v,n,u,j,b⟩:=z4 ht i h0 (λm f y h=>Cl k e ks m f y B h) z
 obtain rfl:Value.slice a c g=v:=by simpa[Value.cells]using u
 rw[C]at j
 obtain⟨xs,A,s,q⟩:=Ch E (λa=>good ks (E.enc a)) (λcs i=>(hE cs i).elim λa l=>⟨a,l,by rw[l];exact i⟩) j
 exact⟨xs,A,s,by rw[q];exact b⟩
def agO (P:Program)(t:TypeId):Bool:=match P.underlying t with|some (.struct _)=>true|_=>false
def adO {α:Type}(E:uk α){r:Reach}{m:Nat}{t:TypeId}{k:Nat}{ks:List CK}{v:Value}{d:DataW H}{ps:List MemPlace}(hb:agO P t=true)(l:kinds P k t=some ks)
  (hE:∀cs,good ks cs->∃a,E.enc a=cs) (g:Value.okWide P w r m t v) (h:DataW.Trod enc P w base spare heldB t v d ps):∃a:α,v=.agg (E.enc a).toArray/\good ks (E.enc a):=by
 obtain⟨c,i⟩:∃c,P.underlying t=some (.struct c):=by
  unfold agO at hb
  split at hb
  ·rename_i c h;exact⟨c,h⟩
  ·cases hb
 obtain⟨cs,rfl,_⟩:=okWide_struct i g
 obtain⟨b,j⟩:=h
 have e:good ks cs.toList:=Cl k t ks b _ _ l j
 obtain⟨a,f⟩:=hE _ e
 exact⟨a,by rw[f],by rw[f];exact e⟩
def adY {f:Func}{s:ChangeSpec}{apart y A z:Bool}{W W':World}{args:Array Value}{v:Value}{ds x:List (DataW H)}{before pa pv:List MemPlace}
  (l:DataW.Whole enc P f.params.toList s.vars apart W args.toList ds x before) (w:nF [] W W')
  (i:∀(b:Nat) (sp:Nat->Bool) (hd:Bool),DataW.TrodAll enc P W' b sp hd f.resultTypes.toList (v.resultList f.resultTypes.size) (s.fn H (ds++x)).results [])
  (c:∀sp:Nat->Bool,(∀p∈before,sp p.block=true)->DataW.TrodAll enc P W' 0 sp true f.params.toList args.toList (s.fn H (ds++x)).args pa)
  (d:∀sp:Nat->Bool,(∀p∈before,sp p.block=true)->DataW.TrodVars enc P W' sp s.vars (s.fn H (ds++x)).vars pv)
  (q:before=pa++pv)
  (u:∀(j:Nat) (t:TypeId) (r:Value),f.resultTypes[j]? = some t->(v.resultList f.resultTypes.size)[j]? = some r->Value.okWide P W' .any 0 t r) :
  s.post enc P f apart y A z W args v W':=by
 have e:=l.lt
 have g:∀p∈before,decide (p.block<W.heap.size)=true:=λp h=>by simpa using e p h
 refine⟨ds,x,before,[],pa,pv,l,i _ _ _,c (λb=>decide (b<W.heap.size)) g,d (λb=>decide (b<W.heap.size)) g,World.keptBut_mono (λp f=>f.elim) w.b4,λ_=>?_⟩
 obtain⟨_,_,_,_,_,m,o⟩:=l
 subst q
 refine⟨u,_,_,([]++pa)++pv,⟨[]++pa,pv,trodAll_append (c _ (λ_ _=>rfl)) (i _ _ _),d _ (λ_ _=>rfl),rfl,λb k h=>?_,λn=>by simpa using o n⟩,λp h _=>by simpa using h⟩
 have a:=h
 simp only[GT]at a
 rw[w.ca (e _ a)]
 exact m b k a
end
end Go.Proofs.YtoealglbimbbmaaGreatDoor.S
namespace Go.Proofs.YtoealglbimbbmaaGreatDoor.S
open Go Go.Proofs
structure KE where
 t:Int
 bA:Int
 n:Int
 deriving DecidableEq
abbrev KE.cells (a:KE):List Value:=[i64 a.t,.int .u8 a.bA,i64 a.n]
abbrev YQ:List CK:=[.i .i64,.i .u8,.i .i64]
abbrev Oy:uk KE:=⟨3,KE.cells,λ | [.int .i64 x0,.int .u8 x1,.int .i64 x2]=>some ⟨x0,x1,x2⟩|_=>none,zd,λ_=>rfl,by simp[one],λcs a h=>by split at h<;>cases h;rfl⟩
instance {a:KE}:nR Oy a [i64 a.t,.int .u8 a.bA,i64 a.n]:=⟨rfl⟩
def ab8 {cs:List Value}(h:good YQ cs):∃a:KE,Oy.enc a=cs:=by
 obtain⟨l,o,k,_,c⟩:=o8 h
 obtain⟨i,n,b,_,d⟩:=o8 c
 obtain⟨f,m,j,_,g⟩:=o8 d
 have e:=Qt g
 exact⟨⟨l,i,f⟩,by subst e;subst j;subst b;subst k;rfl⟩
section
variable {w0:bz}{L M:List bg}{K:KV}{F:World->Prop}{C:bg->List bg}{b:Nat}{x:eU}{v:Value}
def YI {q:KE}{a:Value}{k:Int}[i:ax v (KE.cells q)](h0:0<=k)(b:k<=1000)(hK:G w0 L (K (i64 (tf q.n 0 k)))):G w0 L (ac 14 [a,v,i64 k] K):=by
 refine Xu ?_
 unfold PH
 refine G.box λp=>bi ?_
 refine kg zd h0 zo zo ?_
 exact hK.sub
def B7 {n:Int}(hK:∀r,G w0 L (K (i64 r))):G w0 L (ac 61 [i64 n] K):=by
 refine YD ?_
 unfold PB
 refine kg zd zd zd zd ?_
 exact hK _
def lT {k:co}[i:ax v (co.cells k)](r:kY k.n)(hK:∀o a b c n:Int,o≠23->kY n->G w0 L (K (.agg (co.cells ⟨o,a,b,c,n⟩).toArray))):G w0 L (ac 62 [v] K):=by
 refine QZ ?_
 unfold Hv
 refine G.box λp=>?_
 refine G.new λq=>?_
 have y:YB (20:Int):=⟨zd⟩
 have d:kY (k.n.tmod 20):=by
  have h:=zbu 20 r.1
  have t:=zbt k.n (show(0:Int)<20 by decide)
  exact⟨h,zo⟩
 have m:YB (64:Int):=⟨zd⟩
 have j:∀n,IntKind.wrap .i64 (3+tf n 0 4)≠23:=λn=>by
  have:=LM (n:=n) (show(0:Int)<=4 by decide)
  rw[jL zo zo];omega
 obtain⟨f,e⟩:=LM (n:=k.op) (show(0:Int)<=19 by decide)
 generalize g:tf k.op 0 19=w at f e
 have l:w=0\/w=1\/w=2\/w=3\/w=4\/w=5\/w=6\/w=7\/w=8\/w=9\/w=10\/w=11\/w=12\/w=13\/w=14\/w=15\/w=16\/w=17\/w=18\/w=19:=by omega
 refine bi ?_
 refine B7 λu=>bi ?_
 refine B7 λx=>bi ?_
 refine B7 λs=>bi ?_
 refine kg zd zd zd zd (bi ?_)
 refine kg zd zd zd zd ?_
 rw[g]
 clear g f e
 rcases l with rfl|rfl|rfl|rfl|rfl|rfl|rfl|rfl|rfl|rfl|rfl|rfl|rfl|rfl|rfl|rfl|rfl|rfl|rfl|rfl
 all_goals
  repeat' (first
   |exact G.sub (hK _ _ _ _ _ zd r)
   |exact G.sub (hK _ _ _ _ _ zd d)
   |exact G.sub (hK _ _ _ _ _ zd jN)
   |exact G.sub (hK _ _ _ _ _ (j _) jN)
   |(refine kg zd zd zd zd ?_)
   |(with_reducible refine G.bk ?_)
   |(simp (maxSteps:=2000000) only[↓RG,RP,RB,zac,Int.reduceEq,Int.reduceLT,Int.reduceLE,Nat.reduceEqDiff]))
def Mw (k:co):Prop:=k.op≠23/\kY k.n
def wt (os:List Int):Nat:=(os.map λo=>if o=17 then 2 else 1).sum
def Zs {os:List Int}{o:Int}:wt (os++[o])=wt os+if o=17 then 2 else 1:=by unfold wt;simp
def aiC (os:List Int):os.length<=wt os:=by
 induction os with
 |nil=>simp
 |cons o os ih=>unfold wt at *;simp only[zaj,List.sum_cons,zad];split<;>omega
def aj0 (os:List Int):wt os<=2*os.length:=by
 induction os with
 |nil=>simp[wt]
 |cons o os ih=>unfold wt at *;simp only[zaj,List.sum_cons,zad];split<;>omega
def Nh {xs:List co}{os:List Int}{z:Int}{vl vo:Value}(B:xs.length<=1000)(C:os.length<=1000)
  (hK:∀(o:Int) os' u uo,o≠23->(os'=os\/(z=17/\os'=os++[18]))->ax u [u]->ax uo [uo]->G w0 (sl fx u (xs++[⟨o,0,0,0,0⟩])::sl bq uo os'::M) (K (.tuple #[u,uo]))) :
  G w0 (sl fx vl xs::sl bq vo (os++[z])::M) (ac 60 [vl,vo] K):=by
 refine WY ?_
 unfold MP
 have j:((os++[z]).length:Int)=os.length+1:=by simp
 have q:IntKind.wrap .i64 ((os.length:Int)+1-1)=os.length:=by rw[jL zo zo];omega
 have e:iW (os++[z]) os.length z:=⟨zs⟩
 have f:(os++[z]).take os.length=os:=by simp
 have b:∀(o:Int) (a:Value) (os':List Int),o≠23->(os'=os\/(z=17/\os'=os++[18]))->ax a [a]->G w0 (sl fx vl xs::sl bq a os'::M) (ck [(Value.int .i64 0),(Value.int .i64 0),(Value.int .i64 0),(Value.int .i64 0),(Value.int .u64 0)] 1 [(0,5,(.agg #[i64 o,i64 0,i64 0,i64 0,u64 0]))] (λl=>fj 5 40 vl l (λr=>K (Value.tuple #[r,a])))):=λo a os' m k p=>by
  refine G.build fx [⟨o,0,0,0,0⟩] rfl zd rfl λy t=>?_
  refine G.append (v:=vl) (ys:=[(⟨o,0,0,0,0⟩:co)]) (by simp;omega) (by simp[maxLen];omega) λi h=>?_
  exact(hK o os' i a m k h p).sub
 refine bx (an j q) ?_
 by_cases c:z=14
 ·refine bx (eq_true c) ?_
  refine G.take zs λu d=>?_
  rw[f]
  refine mK ?_
  exact b 15 u os zd (.inl rfl) d
 ·by_cases g:z=17
  ·refine bx (an c (eq_true g)) ?_
   refine G.take zs λu d=>?_
   rw[f]
   refine G.a3 bq ?_
   refine G.append (x:=u) (v:=.slice none 0 0) (xs:=[]) (by simp;omega) (by simp[maxLen];omega) λn A=>?_
   refine G.build bq [(18:Int)] rfl zd rfl λw s=>?_
   refine G.append (v:=n) (ys:=[(18:Int)]) (by simp;omega) (by simp[maxLen];omega) λi h=>bi ?_
   rw[GT]
   exact(b 18 i (os++[18]) zd (.inr ⟨g,rfl⟩) h).sub
  ·refine bx (an c g) ?_
   refine G.take zs λu d=>?_
   rw[f]
   refine mK ?_
   exact b 19 u os zd (.inl rfl) d
structure DrI (xs:List co)(os:List Int):Prop where
 ok:∀k∈xs,Mw k
 a6:xs.length+2*os.length<=40
set_option maxHeartbeats 1000000 in
def LA {ps:List co}[a:Nk w0 v fx ps](aM:∀k∈ps,kY k.n){aN:Bool}(hK:∀(s:rq)(xs:List co),xs.length<=1000->(∀k∈xs,Mw k)->G w0 (sl fx s.v xs::L) (K (.agg #[s.v]))):G w0 L (ac 29 [v,i64 40,.bool aN] K):=by
 refine L9 ?_
 unfold Ay
 refine G.new λI=>?_
 refine G.ea (σ:=List co×List Int×Value×Value) (λz=>z.2.2.1) (λz=>z.2.2.2) (λz=>sl fx z.2.2.1 z.1::sl bq z.2.2.2 z.2.1::own I [.slice none 0 0]::L) (λz=>(∀k∈z.1,Mw k)/\z.1.length+wt z.2.1<=40/\ax z.2.2.1 [z.2.2.1]/\ax z.2.2.2 [z.2.2.2]) ?_ ?_
 ·rintro⟨xs,os,l,p⟩ ⟨T,Q,Z,R⟩
  simp only at T Q Z R ⊢
  refine G.bN (σ:=List co×List Int×Value×Value) (λz=>z.2.2.1) (λz=>z.2.2.2) (λz=>sl fx z.2.2.1 z.1::sl bq z.2.2.2 z.2.1::own I [.slice none 0 0]::L) (λz=>(∀k∈z.1,Mw k)/\z.1.length+wt z.2.1<=40/\ax z.2.2.1 [z.2.2.1]/\ax z.2.2.2 [z.2.2.2]) (λz=>wt z.2.1) (xs,os,l,p) rfl rfl rfl ⟨T,Q,Z,R⟩ ?_
  rintro⟨xs,os,l,p⟩ ⟨T,Q,Z,R⟩ J hJ
  simp only at T Q Z R hJ ⊢
  rcases zb1 os with rfl|⟨d,z,rfl⟩
  ·have al:∀(xs:List co) (l:Value),(∀k∈xs,Mw k)->xs.length<=1000->ax l [l]->G w0 (sl fx l xs::sl bq p []::own I [.slice none 0 0]::L) (iz [(Value.slice none 0 0)] [(0,1,l)] (λaB=>fh 1 (ptr I 0) aB (λ_=>br 1 (ptr I 0) (λaD=>K aD)))):=λxs l T Q hv=>by
    refine G.cq (v:=l) λs e=>?_
    subst e
    refine bi ?_
    exact(hK s xs Q T).sub
   by_cases c:xs.length=0
   ·have c1:(xs.length:Int)=0:=by omega
    have e0:xs=[]:=zah c
    subst e0
    refine ahR ?_
    refine G.build fx [⟨1,0,0,0,1⟩] rfl zd rfl λy hy=>?_
    refine G.append (v:=l) (ys:=[(⟨1,0,0,0,1⟩:co)]) zs (by simp[maxLen]) λP H=>?_
    rw[GT]
    exact(al [⟨1,0,0,0,1⟩] P (λk M=>by rw[zaf.1 M];exact⟨zd,⟨zd,zd⟩⟩) zs H).sub
   ·have c1:¬(xs.length:Int)=0:=by omega
    refine G.cq (v:=l) λs e=>?_
    subst e
    refine akt c1 ?_
    exact(hK s xs zo T).sub
  ·have hw:=Zs (os:=d) (o:=z)
   have aJ:=aiC d
   have B:((d++[z]).length:Int)=d.length+1:=by simp
   have j:(0:Int)<d.length+1:=by omega
   have h5:xs.length+wt (d++[z])<=40:=by grind
   have W:=hJ
   simp only[zb2]at hJ ⊢
   refine bx (an B (eq_true j)) ?_
   refine Nh zo zo λo A u N m X g1 H=>?_
   have aE:wt A<wt (d++[z]):=by
    rcases X with rfl|⟨rfl,rfl⟩
    ·rw[hw];split<;>omega
    ·rw[hw,Zs];simp
   refine bi ?_
   exact(hJ (xs++[⟨o,0,0,0,0⟩],A,u,N) ⟨λk M=>by
    rcases zar.1 M with g|g
    ·exact T k g
    ·rw[zaf.1 g];exact⟨m,jN⟩,by simp only[LE,gg];omega,g1,H⟩ aE).sub
 ·intro J hJ
  refine G.a3 fx ?_
  refine G.a3 bq ?_
  refine G.et (σ:=List co×List Int×Value×Value×Nat) (λz=>z.2.2.1) (λz=>z.2.2.2.1) (λz=>i64 z.2.2.2.2) (λz=>sl bq z.2.2.2.1 z.2.1::sl fx z.2.2.1 z.1::own I [.slice none 0 0]::L) (λz=>DrI z.1 z.2.1/\(z.2.2.2.2<=ps.length/\z.2.2.2.2<=z.1.length)/\ax z.2.2.1 [z.2.2.1]/\ax z.2.2.2.1 [z.2.2.2.1]) (λz=>ps.length-z.2.2.2.2) ([],[],.slice none 0 0,.slice none 0 0,0) rfl rfl rfl rfl ⟨⟨zs,zs⟩,⟨zag _,zag _⟩,bj,bj⟩ ?_
  rintro⟨xs,os,l,p,i⟩ ⟨U,⟨Q,aG⟩,Z,R⟩ J2 W
  simp only at U Q aG Z R W ⊢
  have aI:=U.a6
  have F:G w0 (sl bq p os::sl fx l xs::own I [.slice none 0 0]::L) (J l p):=(hJ (xs,os,l,p) ⟨U.ok,by have:=aj0 os;have:=U.a6;simp only;omega,Z,R⟩).sub
  by_cases c:i<ps.length
  ·have c1:(i:Int)<ps.length:=by omega
   have e:iW ps i ps[i]:=⟨dg c⟩
   have E:∀(ys:List co) (A:List Int) (ul N:Value),DrI ys A->xs.length<ys.length->ax ul [ul]->ax N [N]->G w0 (sl bq N A::sl fx ul ys::own I [.slice none 0 0]::L) (J2 ul N (i64 (IntKind.wrap .i64 ((i:Int)+1)))):=λys A ul N g1 g0 H g3=>by
    rw[fm zo]
    exact W (ys,A,ul,N,i+1) ⟨g1,⟨c,by simp only;omega⟩,H,g3⟩ (by simp only;omega)
   have e1:IntKind.wrap .i64 (2*(os.length:Int))=2*os.length:=jL zo zo
   have e2:IntKind.wrap .i64 ((xs.length:Int)+2*os.length)=xs.length+2*os.length:=jL zo zo
   have e3:IntKind.wrap .i64 ((xs.length:Int)+2*os.length+5)=xs.length+2*os.length+5:=jL zo zo
   refine mK ?_
   refine bx (eq_true c1) ?_
   refine G.new λkp=>?_
   by_cases c2:(40:Int)<xs.length+2*os.length+5
   ·refine bx (an e1 (an e2 (an e3 (eq_true c2)))) ?_
    exact F.sub
   ·refine bx (an e1 (an e2 (an e3 c2))) ?_
    refine kg zd zd zd zd ?_
    generalize tf ps[i].op 0 40=w
    have D:=aM _ (zae c)
    generalize hq:ps[i]=q at D ⊢
    have S:∀(ys:List co),(∀k∈ys,Mw k)->0<ys.length->ys.length<=2->∀u,ax u [u]->G w0 (own kp (co.cells q)::sl bq p os::sl fx u (xs++ys)::own I [.slice none 0 0]::L) (J2 u p (i64 (IntKind.wrap .i64 ((i:Int)+1)))):=λys hy g1 H u hu =>
     (E (xs++ys) os u p ⟨λk M=>(zar.1 M).elim (U.ok k) (hy k),by simp only[LE];omega⟩ (by simp only[LE];omega) hu R).sub
    have t:∀o a b c n:Int,o≠23->kY n->G w0 (own kp (co.cells q)::sl bq p os::sl fx l xs::own I [.slice none 0 0]::L) (ck [(Value.int .i64 0),(Value.int .i64 0),(Value.int .i64 0),(Value.int .i64 0),(Value.int .u64 0)] 1 [(0,5,.agg #[i64 o,i64 a,i64 b,i64 c,u64 n])] λy=>fj 5 40 l y λu=>J2 u p (i64 (IntKind.wrap .i64 ((i:Int)+1)))):=λo a b c n m C=>by
     refine G.build fx [⟨o,a,b,c,n⟩] rfl zd rfl λy hy=>?_
     refine G.append (v:=l) (ys:=[(⟨o,a,b,c,n⟩:co)]) (by simp;omega) (by simp[maxLen];omega) λP H=>?_
     exact(S [⟨o,a,b,c,n⟩] (λk M=>by rw[zaf.1 M];exact⟨m,C⟩) zs zs P H).sub
    have f:∀o a b c n V a' b' c' n':Int,o≠23->kY n->V≠23->kY n'->G w0 (own kp (co.cells q)::sl bq p os::sl fx l xs::own I [.slice none 0 0]::L) (ck [(Value.int .i64 0),(Value.int .i64 0),(Value.int .i64 0),(Value.int .i64 0),(Value.int .u64 0)] 2 [(0,5,.agg #[i64 o,i64 a,i64 b,i64 c,u64 n]),(5,5,.agg #[i64 V,i64 a',i64 b',i64 c',u64 n'])] λy=>fj 5 40 l y λu=>J2 u p (i64 (IntKind.wrap .i64 ((i:Int)+1)))):=λo a b c n V a' b' c' n' m C aH aC=>by
     refine G.build fx [⟨o,a,b,c,n⟩,⟨V,a',b',c',n'⟩] rfl zd rfl λy hy=>?_
     refine G.append (v:=l) (ys:=[(⟨o,a,b,c,n⟩:co),⟨V,a',b',c',n'⟩]) (by simp;omega) (by simp[maxLen];omega) λP H=>?_
     exact(S [⟨o,a,b,c,n⟩,⟨V,a',b',c',n'⟩] (by simpa using(⟨⟨m,C⟩,⟨aH,aC⟩⟩:Mw ⟨o,a,b,c,n⟩/\Mw ⟨V,a',b',c',n'⟩)) zs zs P H).sub
    have x:∀o:Int,o≠23->G w0 (own kp (co.cells q)::sl bq p os::sl fx l xs::own I [.slice none 0 0]::L) (ck [(Value.int .i64 0),(Value.int .i64 0),(Value.int .i64 0),(Value.int .i64 0),(Value.int .u64 0)] 1 [(0,5,.agg #[i64 o,i64 0,i64 0,i64 0,u64 0])] λy=>fj 5 40 l y λu=>ck [i64 0] 1 [(0,1,i64 o)] λy2=>fj 1 8 p y2 λP=>J2 u P (i64 (IntKind.wrap .i64 ((i:Int)+1)))):=λo m=>by
     refine G.build fx [⟨o,0,0,0,0⟩] rfl zd rfl λy hy=>?_
     refine G.append (v:=l) (ys:=[(⟨o,0,0,0,0⟩:co)]) (by simp;omega) (by simp[maxLen];omega) λP H=>?_
     refine G.build bq [o] rfl zd rfl λy3 aL=>?_
     refine G.append (v:=p) (ys:=[o]) (by simp;omega) (by simp[maxLen];omega) λu3 g3=>?_
     exact(E (xs++[⟨o,0,0,0,0⟩]) (os++[o]) P u3 ⟨λk M=>(zar.1 M).elim (U.ok k) (λg=>by rw[zaf.1 g];exact⟨m,jN⟩),by simp only[LE,gg];omega⟩ zs H g3).sub
    have Y:0<os.length->G w0 (own kp (co.cells q)::sl bq p os::sl fx l xs::own I [.slice none 0 0]::L) (ac 60 [l,p] λaf=>ib 0 af λaA=>ib 1 af λaF=>J2 aA aF (i64 (IntKind.wrap .i64 ((i:Int)+1)))):=λh0=>by
     obtain⟨d,z,rfl⟩:∃d z,os=d++[z]:=by
      rcases zb1 os with g|⟨a,b,g⟩
      ·rw[g]at h0;cases h0
      ·exact⟨a,b,by rw[g,zb2]⟩
     have B:(d++[z]).length=d.length+1:=by simp
     refine G.ap (As:=[sl fx l xs,sl bq p (d++[z])]) ?_
     simp only[Fn,GT]
     refine Nh zo zo λo A u N m X g1 H=>bi ?_
     refine(E (xs++[⟨o,0,0,0,0⟩]) A u N ⟨λk M=>(zar.1 M).elim (U.ok k) (λg=>by rw[zaf.1 g];exact⟨m,jN⟩),?_⟩ zs g1 H).sub
     have h:(xs++[(⟨o,0,0,0,0⟩:co)]).length=xs.length+1:=by simp
     rcases X with rfl|⟨_,rfl⟩
     ·omega
     ·have:(d++[(18:Int)]).length=d.length+1:=by simp
      omega
    have O:∀{L:List bg} {K:KV} {n:Int},(∀r,G w0 L (K (i64 r)))->G w0 L (ac 61 [i64 n] K):=B7
    rcases zb1 os with rfl|⟨d,z,rfl⟩
    ·have j:¬(0:Int)<(([]:List Int).length:Int):=by simp
     refine bx j ?_
     refine G.b9 (bx j ?_)
     refine G.cond (λ_=>?_) (λ_=>?_)
     ·refine bi ?_
      exact(x _ zd).sub
     refine bx j ?_
     refine G.b9 (bx j ?_)
     refine G.cond (λ_=>?_) (λ_=>?_)
     ·refine bi ?_
      exact(x _ zd).sub
     refine bx j ?_
     refine G.b9 (bx j ?_)
     refine G.cond (λ_=>?_) (λ_=>?_)
     ·refine bi ?_
      refine O λr=>bi ?_
      exact(f _ _ _ _ _ _ _ _ _ _ zd jN zd jN).sub
     refine bx j ?_
     refine G.cond (λ_=>?_) (λ_=>?_)
     ·refine bi ?_
      refine O λr=>bi ?_
      exact(f _ _ _ _ _ _ _ _ _ _ zd jN zd jN).sub
     refine bx j ?_
     refine G.cond (λ_=>?_) (λ_=>?_)
     ·refine bi ?_
      refine O λr=>bi ?_
      refine lT (k:=q) D λo a b c n m C=>bi ?_
      exact(f _ _ _ _ _ _ _ _ _ _ zd jN m C).sub
     refine bx j ?_
     refine G.cond (λ_=>?_) (λ_=>?_)
     ·refine bi ?_
      refine lT (k:=q) D λo a b c n m C=>bi ?_
      refine O λr=>bi ?_
      exact(f _ _ _ _ _ _ _ _ _ _ m C zd jN).sub
     refine bx j ?_
     refine lT (k:=q) D λo a b c n m C=>bi ?_
     exact(t _ _ _ _ _ m C).sub
    ·have e5:iW (d++[z]) d.length z:=⟨zs⟩
     have B:(((d++[z]).length:Nat):Int)=d.length+1:=by simp
     have aK:(d++[z]).length=d.length+1:=by simp
     rw[zb2]at *
     have h:IntKind.wrap .i64 ((d.length:Int)+1-1)=d.length:=by rw[jL zo zo];omega
     have j:(0:Int)<(d.length:Int)+1:=by omega
     refine bx (an B (an h (eq_true j))) ?_
     refine G.b9 (bx (an B (an h (eq_true j))) ?_)
     refine G.cond (λ_=>?_) (λ_=>?_)
     ·refine bi ?_
      exact(x _ zd).sub
     refine bx (an B (an h (eq_true j))) ?_
     refine G.b9 (bx (an B (an h (eq_true j))) ?_)
     refine G.cond (λ_=>?_) (λ_=>?_)
     ·refine bi ?_
      exact(x _ zd).sub
     refine bx (an B (an h (eq_true j))) ?_
     refine G.b9 (bx (an B (an h (eq_true j))) ?_)
     refine G.cond (λ_=>?_) (λ_=>?_)
     ·refine bi ?_
      exact(Y zs).sub
     refine bx (an B (an h (eq_true j))) ?_
     by_cases am:w=25
     ·subst am
      refine bx (an B (an h (eq_true j))) ?_
      refine G.cond (λ_=>?_) (λ_=>?_)
      ·refine bi ?_
       exact(t _ _ _ _ _ zd jN).sub
      ·refine bi ?_
       refine lT (k:=q) D λo a b c n m C=>bi ?_
       exact(t _ _ _ _ _ m C).sub
     refine bx (an B (an h (an (eq_true j) am))) ?_
     refine bx (an B (an h (eq_true j))) ?_
     refine G.cond (λ_=>?_) (λ_=>?_)
     ·refine bi ?_
      refine O λr=>bi ?_
      exact(f _ _ _ _ _ _ _ _ _ _ zd jN zd jN).sub
     refine bx (an B (an h (eq_true j))) ?_
     refine G.cond (λ_=>?_) (λ_=>?_)
     ·refine bi ?_
      refine O λr=>bi ?_
      exact(f _ _ _ _ _ _ _ _ _ _ zd jN zd jN).sub
     refine bx (an B (an h (eq_true j))) ?_
     refine G.cond (λ_=>?_) (λ_=>?_)
     ·refine bi ?_
      refine O λr=>bi ?_
      exact(f _ _ _ _ _ _ _ _ _ _ zd jN zd jN).sub
     refine bx (an B (an h (eq_true j))) ?_
     refine G.cond (λ_=>?_) (λ_=>?_)
     ·refine bi ?_
      refine O λr=>bi ?_
      refine lT (k:=q) D λo a b c n m C=>bi ?_
      exact(f _ _ _ _ _ _ _ _ _ _ zd jN m C).sub
     refine bx (an B (an h (eq_true j))) ?_
     refine G.cond (λ_=>?_) (λ_=>?_)
     ·refine bi ?_
      refine lT (k:=q) D λo a b c n m C=>bi ?_
      refine O λr=>bi ?_
      exact(f _ _ _ _ _ _ _ _ _ _ m C zd jN).sub
     refine bx (an B (an h (eq_true j))) ?_
     refine lT (k:=q) D λo a b c n m C=>bi ?_
     exact(t _ _ _ _ _ m C).sub
  ·have c1:¬(i:Int)<ps.length:=by omega
   refine bx c1 ?_
   exact F
end
def Ta.bI (a:Ta):Bool:=a.done&&!a.cells.isEmpty
def Ta.c9 (a b:Ta):Bool:=if a.I=b.I then(if a.bI=b.bI then decide (a.aP<b.aP)else a.bI)else decide (a.I<b.I)
abbrev Hp:=Int->Int
def DM (h:Hp)(c x:Int):Hp:=λd=>if d=c then x else h d
def XQ (h:Hp)(l:List ay):Hp:=l.foldl (λh c=>DM h c.J c.word) h
theorem tQ {l:List ay}:∀{h:Hp}{c:Int},(∀x∈l,x.J≠c)->XQ h l c=h c:=by
 induction l with
 |nil=>intro h c _;rfl
 |cons x l ih =>
  intro h c a
  show XQ (DM h x.J x.word) l c=h c
  rw[ih (λy b=>a y (gr _ b))]
  unfold DM
  rw[zn (λg=>a x zao g.symm)]
theorem XF {l:List ay}:∀{h g:Hp}{c:Int},(∃x∈l,x.J=c)->XQ h l c=XQ g l c:=by
 induction l with
 |nil=>rintro h g c ⟨x,b,_⟩;cases b
 |cons x l ih =>
  intro h g c b
  show XQ (DM h x.J x.word) l c=XQ (DM g x.J x.word) l c
  by_cases f:∃y∈l,y.J=c
  ·exact ih f
  ·have d:∀y∈l,y.J≠c:=λy a e=>f ⟨y,a,e⟩
   rw[tQ d,tQ d]
   obtain⟨y,a,e⟩:=b
   rcases zaa.1 a with rfl|a
   ·unfold DM;rw[zp e.symm,zp e.symm]
   ·exact absurd e (d y a)
def abh {l:List ay}{h g:Hp}{c:Int}(e:h c=g c):XQ h l c=XQ g l c:=by
 by_cases a:∃y∈l,y.J=c
 ·exact XF a
 ·have b:∀y∈l,y.J≠c:=λy d e=>a ⟨y,d,e⟩
  rw[tQ b,tQ b,e]
def akV (l:List Ta):Prop:=l.Pairwise λa b=>a.c9 b=true\/b.c9 a=true
def ZH (x y:Int×List ay):Prop:=x.1<y.1
abbrev jZ:=List (Int×List ay)
def hpL (h:Hp)(L:jZ):Hp:=L.foldl (λh x=>XQ h x.2) h
def Rm (h:Hp)(L:jZ)(t:Int):Hp:=hpL h (L.filter λx=>decide (x.1<=t))
def Dc (s:Int)(cs:List ay):jZ->jZ
 | []=>[(s,cs)]
 |x::L=>if s<x.1 then(s,cs)::x::L else x::Dc s cs L
def J4 {h:Hp}{x:Int×List ay}{L:jZ}:hpL h (x::L)=hpL (XQ h x.2) L:=rfl
def ab0 {L:jZ}:∀{h g:Hp}{c:Int},h c=g c->hpL h L c=hpL g L c:=by
 induction L with
 |nil=>intro h g c e;exact e
 |cons x L ih=>intro h g c e;exact ih (abh e)
def ago {L:jZ}:∀{h:Hp}{c:Int},(∀x∈L,∀y∈x.2,y.J≠c)->hpL h L c=h c:=by
 induction L with
 |nil=>intro h c _;rfl
 |cons x L ih =>
  intro h c a
  rw[J4,ih (λy b=>a y (gr _ b)),tQ (a x zao)]
def Ut {s:Int}{cs:List ay}:∀{L:jZ}{h:Hp}{t c:Int},L.Pairwise ZH->(∀x∈L,s<x.1->∀y∈x.2,∀z∈cs,y.J≠z.J)->Rm h (Dc s cs L) t c=if s<=t then XQ (Rm h L t) cs c else Rm h L t c
 | [],h,t,c,_,_=>by
  unfold Dc Rm
  by_cases g:s<=t
  ·rw[zp g,zbp (by simpa using g)];rfl
  ·rw[zn g,zbq (by simpa using g)]
 |x::L,h,t,c,hs,hd=>by
  rw[zaI]at hs
  unfold Dc
  by_cases g0:s<x.1
  ·rw[zp g0]
   unfold Rm
   by_cases g:s<=t
   ·rw[zp g,zbp (by simpa using g),J4]
    have hall:∀y∈(x::L).filter (λz=>decide (z.1<=t)),s<y.1:=λy hy=>by
     have hy:=(zaD.1 hy).1
     rcases zaa.1 hy with rfl|hy
     ·exact g0
     ·have:x.1<y.1:=hs.1 y hy
      omega
    by_cases hc:∃z∈cs,z.J=c
    ·rw[ago,XF hc]
     rintro y hy q hq
     obtain⟨z,hz,rfl⟩:=hc
     exact hd y (zaD.1 hy).1 (hall y hy) q hq z hz
    ·have hn:∀z∈cs,z.J≠c:=λz hz e=>hc ⟨z,hz,e⟩
     rw[tQ hn]
     exact ab0 (tQ hn)
   ·rw[zn g,zbq (by simpa using g)]
  ·rw[zn g0]
   have ih:=λh=>Ut (s:=s) (cs:=cs) (L:=L) (h:=h) (t:=t) (c:=c) hs.2 (λy hy=>hd y (gr _ hy))
   unfold Rm at ih ⊢
   by_cases g:x.1<=t
   ·rw[zbp (by simpa using g),zbp (by simpa using g),J4,J4]
    exact ih _
   ·rw[zbq (by simpa using g),zbq (by simpa using g)]
    exact ih _
def ur {s:Int}{cs:List ay}{y:Int×List ay}:∀{L:jZ},y∈Dc s cs L↔y=(s,cs)\/y∈L
 | []=>by simp[Dc]
 |z::l=>by
  unfold Dc
  split
  ·simp
  ·rw[zaa,ur,zaa]
   constructor
   ·rintro(h|h|h)
    ·exact .inr (.inl h)
    ·exact .inl h
    ·exact .inr (.inr h)
   ·rintro(h|h|h)
    ·exact .inr (.inl h)
    ·exact .inl h
    ·exact .inr (.inr h)
def MJ {s:Int}{cs:List ay}:∀{L:jZ},L.Pairwise ZH->(∀x∈L,x.1≠s)->(Dc s cs L).Pairwise ZH
 | [],_,_=>by simp[Dc]
 |z::l,h,hn=>by
  unfold Dc
  have h2:=zaI.1 h
  split
  ·rename_i c
   rw[zaI]
   refine⟨λy hy=>?_,h⟩
   show s<y.1
   rcases zaa.1 hy with rfl|hy
   ·exact c
   ·have:z.1<y.1:=h2.1 y hy
    omega
  ·rename_i c
   have:=hn z zao
   rw[zaI]
   refine⟨λy hy=>?_,MJ h2.2 (λx hx=>hn x (gr _ hx))⟩
   rcases ur.1 hy with rfl|hy
   ·show z.1<s;omega
   ·exact h2.1 y hy
def Ta.aG (a:Ta):Int:=if a.bI then a.I-1 else a.I
structure Hx where
 hd:List (Nat×Int)
 up:Option Int
 wr:Bool
 cells:List ay
 put:Nat
structure Gs where
 lk:Nat->ey
 w:Hp
 T:Int
 L:jZ
 X:Nat->Hx
def eu (X:Nat->Hx)(i:Nat)(x:Hx):Nat->Hx:=λj=>if j=i then x else X j
def Jf (f:Nat->ey)(s:Nat)(l:ey):Nat->ey:=λj=>if j=s then l else f j
structure jB (str:Int->Nat)(h0:Hp)(n:Nat)(G:Gs):Prop where
 t0:0<=G.T
 v:∀s,0<=(G.lk s).D/\(G.lk s).D<=G.T
 own:∀i,i<n->∀s V,(s,V)∈(G.X i).hd->G.lk s=⟨V,true,i⟩
 aY:∀s,(G.lk s).held=true->∃i,i<n/\∃V,(s,V)∈(G.X i).hd
 free:∀s,(G.lk s).held=false->(G.lk s).ar=0
 dD:∀i,i<n->((G.X i).hd.map (·.1)).Nodup
 dg:∀i,i<n->∀now,(G.X i).up=some now->0<=now/\now+1<=G.T/\∀s V,(s,V)∈(G.X i).hd->V<=now
 d7:∀i j a,i<n->j<n->(G.X i).up=some a->(G.X j).up=some a->i=j
 dL:∀i,i<n->(G.X i).wr=true->∃now,(G.X i).up=some now/\(now+1,(G.X i).cells)∈G.L
 dS:∀i,i<n->(G.X i).wr=false->∀now,(G.X i).up=some now->∀x∈G.L,x.1≠now+1
 bj:G.L.Pairwise ZH
 cR:∀x∈G.L,0<x.1/\x.1<=G.T
 dq:∀x∈G.L,∀y∈x.2,x.1<=(G.lk (str y.J)).D\/∃i,i<n/\(G.X i).wr=true/\(G.X i).up=some (x.1-1)/\∃V,(str y.J,V)∈(G.X i).hd
 heap:∀c,(∀i,i<n->(G.X i).wr=true->∀V,(str c,V)∉(G.X i).hd)->∀t,(G.lk (str c)).D<=t->Rm h0 G.L t c=G.w c
 dZ:∀i,i<n->(G.X i).wr=true->∀now,(G.X i).up=some now->∀c V,(str c,V)∈(G.X i).hd->((∀y∈(G.X i).cells,y.J≠c)->∀t,V<=t->Rm h0 G.L t c=G.w c)/\((∃y∈(G.X i).cells,y.J=c)->∀t,now+1<=t->Rm h0 G.L t c=XQ h0 (G.X i).cells c)
 dQ:∀i,i<n->(G.X i).wr=true->∀y∈(G.X i).cells.take (G.X i).put,(∃V,(str y.J,V)∈(G.X i).hd)->G.w y.J=y.word
 nd:∀i,i<n->(G.X i).wr=true->((G.X i).cells.map (·.J)).Nodup
 bO:∀i,i<n->(G.X i).wr=true->∀y∈(G.X i).cells,(∃V,(str y.J,V)∈(G.X i).hd)\/(G.X i).put=(G.X i).cells.length
structure kX (str:Int->Nat)(h0:Hp)(n:Nat)(G:Gs)(i:Nat)(τ:Int)(ks:List ay)(s:Nat)(v:Int):Prop where
 v0:v<=τ
 c8:(G.lk s).D=v\/τ<(G.lk s).D
 up:∀k,k<n->k≠i->∀now,(G.X k).up=some now->(∃V,(s,V)∈(G.X k).hd)->τ<now+1
 aG:∀r∈ks,str r.J=s->Rm h0 G.L τ r.J=r.word
structure XX (str:Int->Nat)(n:Nat)(G G':Gs)(me:Nat):Prop where
 T:G.T<=G'.T
 c8:∀s,(G'.lk s).D=(G.lk s).D\/∃now,(G.X me).up=some now/\(∃V,(s,V)∈(G.X me).hd)/\(G'.lk s).D=now+1
 up:∀k,k<n->∀now,(G'.X k).up=some now->∀s V,(s,V)∈(G'.X k).hd->((G.X k).up=some now/\(s,V)∈(G.X k).hd)\/G.T<=now
 L:G'.L=G.L\/∃now cs,(G.X me).up=some now/\G'.L=Dc (now+1) cs G.L/\(∀z∈cs,∃V,(str z.J,V)∈(G.X me).hd)/\∀x∈G.L,now+1<x.1->∀y∈x.2,∀z∈cs,y.J≠z.J
section
variable {str:Int->Nat}{h0:Hp}{n:Nat}{G G':Gs}{me i:Nat}{τ:Int}{ks:List ay}{s:Nat}{v:Int}
theorem kh {X:Nat->Hx}{x:Hx}:eu X me x me=x:=zp rfl
theorem jh {X:Nat->Hx}{x:Hx}{j:Nat}(h:j≠me):eu X me x j=X j:=zn h
theorem aex (hi:jB str h0 n G)(ht:XX str n G G' me){c:Int}(h:∀now,(G.X me).up=some now->(∃V,(str c,V)∈(G.X me).hd)->τ<now+1):Rm h0 G'.L τ c=Rm h0 G.L τ c:=by
 rcases ht.L with e|⟨now,d,f,a,g,b⟩
 ·rw[e]
 ·rw[a,Ut hi.bj b]
  grind[tQ]
def kX.tr (hi:jB str h0 n G)(A:me<n)(ht:XX str n G G' me)(B:i≠me)(C:τ<=G.T)(h:kX str h0 n G i τ ks s v):kX str h0 n G' i τ ks s v:=by
 obtain⟨f,o,m,p⟩:=h
 refine⟨f,?_,λk d j a c l=>?_,λr t q=>?_⟩
 ·rcases ht.c8 s with e|⟨a,u,y,x⟩
  all_goals grind
 ·obtain⟨V,b⟩:=l
  rcases ht.up k d a c s V b with⟨z,w⟩|g
  all_goals grind
 all_goals grind[aex]
def kX.aj {u:Int}(hi:jB str h0 n G)(h:kX str h0 n G i u ks s v)(o:(G.lk s).D=v)(w:(G.lk s).held=false\/((G.lk s).ar=i/\(G.X i).wr=false))(p:v<=τ)(x:τ<=G.T):kX str h0 n G i τ ks s v:=by
 have l:∀k,k<n->∀V,(s,V)∈(G.X k).hd->(G.lk s).held=true/\k=i/\(G.X i).wr=false:=λk b V g=>by
  have e:=hi.own k b s V g
  grind
 refine⟨p,.inl o,λk b j f q t=>?_,λr d a=>?_⟩
 ·grind
 ·have m:∀k,k<n->(G.X k).wr=true->∀V,(str r.J,V)∉(G.X k).hd:=λk b c V g=>by
   rw[a]at g
   grind
  have e:=hi.heap r.J m
  rw[a,o]at e
  rw[e τ p,<-e u h.v0]
  exact h.aG r d a
theorem FY {f:Nat->ey}{l:ey}:Jf f s l s=l:=zp rfl
theorem B9 {f:Nat->ey}{l:ey}{j:Nat}(h:j≠s):Jf f s l j=f j:=zn h
def jB.cO (hi:jB str h0 n G){j:Nat}{V e:Int}(c:i<n)(d:j<n)(g:(s,V)∈(G.X i).hd)(f:(s,e)∈(G.X j).hd):i=j/\V=e:=by
 have b:=hi.own i c s V g
 have a:=hi.own j d s e f
 grind
def CC (G:Gs)(me s:Nat)(V:Int):Gs:={ G with lk:=Jf G.lk s ⟨V,true,me⟩,X:=eu G.X me { G.X me with hd:=(G.X me).hd++[(s,V)] } }
def VI {V:Int}(a:G.lk s=⟨V,false,0⟩)(s':Nat):((CC G me s V).lk s').D=(G.lk s').D:=by
 show(Jf G.lk s ⟨V,true,me⟩ s').D=_
 grind[FY,B9]
def adl {V:Int}(hi:jB str h0 n G)(N:me<n)(D:G.lk s=⟨V,false,0⟩)(L:(G.X me).up=none)(M:(G.X me).wr=false):jB str h0 n (CC G me s V)/\XX str n G (CC G me s V) me:=by
 have z:=λf=>VI (me:=me) D f
 have w:∀i,i<n->∀l,(s,l)∉(G.X i).hd:=λi h l g=>by rw[hi.own i h s l g]at D;cases D
 have d:∀i,((CC G me s V).X i).up=(G.X i).up/\((CC G me s V).X i).wr=(G.X i).wr/\((CC G me s V).X i).cells=(G.X i).cells/\((CC G me s V).X i).put=(G.X i).put:=λi=>by
  show(eu G.X me _ i).up=_/\(eu G.X me _ i).wr=_/\(eu G.X me _ i).cells=_/\(eu G.X me _ i).put=_
  by_cases c:i=me
  all_goals grind[kh,jh]
 have A:∀i,i≠me->((CC G me s V).X i).hd=(G.X i).hd:=λi c=>by show(eu G.X me _ i).hd=_;rw[jh c]
 have B:((CC G me s V).X me).hd=(G.X me).hd++[(s,V)]:=by show(eu G.X me _ me).hd=_;rw[kh]
 have p:∀i,(G.X i).wr=true->((CC G me s V).X i).hd=(G.X i).hd:=λi g=>A i (λc=>by subst c;rw[M]at g;cases g)
 refine⟨⟨hi.t0,λf=>by rw[z];exact hi.v f,λi h f l g=>?_,λf g=>?_,λf g=>?_,λi h=>?_,λi h m g=>?_,λi j a H E r o=>hi.d7 i j a H E (by rw[<-(d i).1];exact r) (by rw[<-(d j).1];exact o),λi h g=>?_,λi h g m o=>hi.dS i h (by rw[<-(d i).2.1];exact g) m (by rw[<-(d i).1];exact o),hi.bj,hi.cR,λx I y q=>?_,λc g t C=>?_,λi h g m o c l u=>?_,λi h g y q=>?_,λi h g=>?_,λi h g y q=>?_⟩,⟨zab _,λf=>.inl (z f),λk K m g f l o=>?_,.inl rfl⟩⟩
 ·show Jf G.lk s ⟨V,true,me⟩ f=_
  by_cases c:i=me
  ·subst c
   rw[B]at g
   rcases zar.1 g with r|r
   ·have:f≠s:=λe=>w i h l (e▸r)
    rw[B9 this];exact hi.own i h f l r
   all_goals grind[FY]
  ·rw[A i c]at g
   have:f≠s:=λe=>by subst e;exact w i h l g
   rw[B9 this];exact hi.own i h f l g
 ·by_cases c:f=s
  ·subst c;exact⟨me,N,V,by rw[B];simp⟩
  ·have g:(Jf G.lk s ⟨V,true,me⟩ f).held=true:=g
   rw[B9 c]at g
   obtain⟨i,h,l,o⟩:=hi.aY f g
   refine⟨i,h,l,?_⟩
   grind
 ·have g:(Jf G.lk s ⟨V,true,me⟩ f).held=false:=g
  show(Jf G.lk s ⟨V,true,me⟩ f).ar=0
  by_cases c:f=s
  ·grind[FY]
  ·rw[B9 c]at g ⊢;exact hi.free f g
 ·by_cases c:i=me
  ·subst c
   rw[B,zal]
   refine zbl.2 ⟨hi.dD i h,zs,λa J b F=>?_⟩
   simp only[zaj,zaL,zaf]at F
   grind
  ·rw[A i c];exact hi.dD i h
 ·rw[(d i).1]at g
  have c:i≠me:=λc=>by subst c;rw[L]at g;cases g
  rw[A i c];exact hi.dg i h m g
 ·rw[(d i).2.1]at g
  rw[(d i).1,(d i).2.2.1];exact hi.dL i h g
 ·rw[z]
  rcases hi.dq x I y q with g|⟨i,h,r,o,l,u⟩
  all_goals grind
 ·rw[z]at C
  exact hi.heap c (λi h o l u=>g i h (by rw[(d i).2.1];exact o) l (by rw[p i o];exact u)) t C
 ·rw[(d i).2.1]at g
  rw[(d i).1]at o
  rw[p i g]at u
  rw[(d i).2.2.1]
  exact hi.dZ i h g m o c l u
 ·rw[(d i).2.1]at g
  rw[(d i).2.2.1,(d i).2.2.2]at q
  rw[p i g]
  exact hi.dQ i h g y q
 ·rw[(d i).2.1]at g
  rw[(d i).2.2.1]
  exact hi.nd i h g
 ·rw[(d i).2.1]at g
  rw[(d i).2.2.1]at q
  rw[p i g,(d i).2.2.1,(d i).2.2.2]
  exact hi.bO i h g y q
 all_goals grind
def rF (G:Gs)(me:Nat):Gs:={ G with T:=G.T+1,X:=eu G.X me { G.X me with up:=some G.T } }
def abP (hi:jB str h0 n G)(L:me<n)(K:(G.X me).wr=false):jB str h0 n (rF G me)/\XX str n G (rF G me) me:=by
 have b:∀i,((rF G me).X i).hd=(G.X i).hd/\((rF G me).X i).wr=(G.X i).wr/\((rF G me).X i).cells=(G.X i).cells/\((rF G me).X i).put=(G.X i).put:=λi=>by
  show(eu G.X me _ i).hd=_/\(eu G.X me _ i).wr=_/\(eu G.X me _ i).cells=_/\(eu G.X me _ i).put=_
  by_cases c:i=me
  all_goals grind[kh,jh]
 have u:∀i,i≠me->((rF G me).X i).up=(G.X i).up:=λi c=>by show(eu G.X me _ i).up=_;rw[jh c]
 have A:((rF G me).X me).up=some G.T:=by show(eu G.X me _ me).up=_;rw[kh]
 have s:(rF G me).T=G.T+1:=rfl
 have q:∀i,(G.X i).wr=true->((rF G me).X i).up=(G.X i).up:=λi g=>u i (λc=>by subst c;rw[K]at g;cases g)
 have I:=hi.t0
 have z:∀j,j<n->∀a,(G.X j).up=some a->a≠G.T:=λj h a g=>by have:=(hi.dg j h a g).2.1;omega
 refine⟨⟨by rw[s];omega,λl=>by have:=hi.v l;rw[s];exact⟨this.1,by show(G.lk l).D<=_;omega⟩,λi h l m g=>hi.own i h l m (by rw[<-(b i).1];exact g),λl g=>?_,hi.free,λi h=>by rw[(b i).1];exact hi.dD i h,λi h f g=>?_,λi j a F C w d=>?_,λi h g=>?_,λi h g f d x p=>?_,hi.bj,λx p=>by have:=hi.cR x p;rw[s];omega,λx p y o=>?_,λc g t B=>?_,λi h g f d c m r=>?_,λi h g y o=>?_,λi h g=>?_,λi h g y o=>?_⟩,⟨by rw[s];omega,λl=>.inl rfl,λk J f g l m d=>?_,.inl rfl⟩⟩
 ·obtain⟨i,h,m,d⟩:=hi.aY l g
  grind
 ·rw[(b i).1,s]
  by_cases c:i=me
  ·subst c
   rw[A]at g
   cases g
   refine⟨I,zab _,λl m g=>?_⟩
   have e:=hi.own i h l m g
   have:=(hi.v l).2
   grind
  ·rw[u i c]at g
   have:=hi.dg i h f g
   grind
 ·by_cases E:i=me
  ·grind
  ·by_cases H:j=me
   ·grind
   ·rw[u i E]at w
    rw[u j H]at d
    exact hi.d7 i j a F C w d
 ·rw[(b i).2.1]at g
  rw[q i g,(b i).2.2.1];exact hi.dL i h g
 ·rw[(b i).2.1]at g
  by_cases c:i=me
  ·subst c
   rw[A]at d
   cases d
   have:=(hi.cR x p).2
   omega
  ·rw[u i c]at d
   exact hi.dS i h g f d x p
 ·rcases hi.dq x p y o with g|⟨i,h,w,d,m,r⟩
  ·exact .inl g
  all_goals grind
 ·exact hi.heap c (λi h d m r=>g i h (by rw[(b i).2.1];exact d) m (by rw[(b i).1];exact r)) t B
 ·rw[(b i).2.1]at g
  rw[q i g]at d
  rw[(b i).1]at r
  rw[(b i).2.2.1]
  exact hi.dZ i h g f d c m r
 ·rw[(b i).2.1]at g
  rw[(b i).2.2.1,(b i).2.2.2]at o
  rw[(b i).1]
  exact hi.dQ i h g y o
 ·rw[(b i).2.1]at g
  rw[(b i).2.2.1]
  exact hi.nd i h g
 ·rw[(b i).2.1]at g
  rw[(b i).2.2.1]at o
  rw[(b i).1,(b i).2.2.1,(b i).2.2.2]
  exact hi.bO i h g y o
 all_goals grind
def lw (G:Gs)(me:Nat)(now:Int)(cs:List ay):Gs:={ G with L:=Dc (now+1) cs G.L,X:=eu G.X me { G.X me with wr:=true,cells:=cs,put:=0 } }
def Om {now:Int}{cs:List ay}(hi:jB str h0 n G)(C:me<n)(Y:(G.X me).wr=false)(H:(G.X me).up=some now)(Z:(cs.map (·.J)).Nodup)(P:∀z∈cs,∃V,(str z.J,V)∈(G.X me).hd) :
  jB str h0 n (lw G me now cs)/\XX str n G (lw G me now cs) me:=by
 have d:∀i,((lw G me now cs).X i).hd=(G.X i).hd/\((lw G me now cs).X i).up=(G.X i).up:=λi=>by
  show(eu G.X me _ i).hd=_/\(eu G.X me _ i).up=_
  grind[kh,jh]
 have m:∀i,i≠me->((lw G me now cs).X i).wr=(G.X i).wr/\((lw G me now cs).X i).cells=(G.X i).cells/\((lw G me now cs).X i).put=(G.X i).put:=λi c=>by
  show(eu G.X me _ i).wr=_/\(eu G.X me _ i).cells=_/\(eu G.X me _ i).put=_
  grind[jh]
 have I:((lw G me now cs).X me).wr=true/\((lw G me now cs).X me).cells=cs/\((lw G me now cs).X me).put=0:=by
  show(eu G.X me _ me).wr=_/\(eu G.X me _ me).cells=_/\(eu G.X me _ me).put=_
  grind[kh]
 have M:(lw G me now cs).L=Dc (now+1) cs G.L:=rfl
 have D:=hi.dg me C now H
 have B:∀x∈G.L,now+1<x.1->∀y∈x.2,∀z∈cs,y.J≠z.J:=λx l R y o z T e=>by
  obtain⟨V,g⟩:=P z T
  rw[<-e]at g
  rcases hi.dq x l y o with b|⟨i,h,F,b,u,q⟩
  ·have W:=hi.own me C _ V g
   grind
  ·obtain⟨rfl,_⟩:=hi.cO h C q g
   grind
 have K:∀t c,Rm h0 (lw G me now cs).L t c=if now+1<=t then XQ (Rm h0 G.L t) cs c else Rm h0 G.L t c:=λt c=>by rw[M];exact Ut hi.bj B
 have w:∀t c,(∀y∈cs,y.J≠c)->Rm h0 (lw G me now cs).L t c=Rm h0 G.L t c:=λt c h=>by
  rw[K]
  grind[tQ]
 have p:∀c,(∀V,(str c,V)∉(G.X me).hd)->∀t,Rm h0 (lw G me now cs).L t c=Rm h0 G.L t c:=λc h t=>w t c λy o e=>by
  obtain⟨V,g⟩:=P y o
  grind
 refine⟨⟨hi.t0,hi.v,λi h E u g=>hi.own i h E u (by rw[<-(d i).1];exact g),λE g=>?_,hi.free,λi h=>by rw[(d i).1];exact hi.dD i h,λi h a g=>?_,λi j a S Q F b=>hi.d7 i j a S Q (by rw[<-(d i).2];exact F) (by rw[<-(d j).2];exact b),λi h g=>?_,λi h g a b x l=>?_,?_,λx l=>?_,λx l y o=>?_,λc g t A=>?_,λi h g a b c u q=>?_,λi h g y o=>?_,λi h g=>?_,λi h g y o=>?_⟩,⟨zab _,λE=>.inl rfl,λk O a g E u b=>.inl ⟨by rw[<-(d k).2];exact g,by rw[<-(d k).1];exact b⟩,.inr ⟨now,cs,H,rfl,P,B⟩⟩⟩
 ·obtain⟨i,h,u,b⟩:=hi.aY E g
  grind
 ·rw[(d i).2]at g
  rw[(d i).1];exact hi.dg i h a g
 ·by_cases c:i=me
  ·subst c
   exact⟨now,by rw[(d i).2];exact H,by rw[I.2.1,M];exact ur.2 (.inl rfl)⟩
  ·rw[(m i c).1]at g
   obtain⟨a,F,b⟩:=hi.dL i h g
   exact⟨a,by rw[(d i).2];exact F,by rw[(m i c).2.1,M];exact ur.2 (.inr b)⟩
 ·have c:i≠me:=λc=>by subst c;rw[I.1]at g;cases g
  rw[(m i c).1]at g
  rw[(d i).2]at b
  rcases ur.1 l with rfl|l
  ·intro e
   have:a=now:=by simp only at e;omega
   subst this
   exact c (hi.d7 i me a h C b H)
  ·exact hi.dS i h g a b x l
 ·exact MJ hi.bj λx l=>hi.dS me C Y now H x l
 ·rcases ur.1 l with rfl|l
  ·have:=D.1
   have:=D.2.1
   exact⟨by show 0<now+1;omega,this⟩
  ·exact hi.cR x l
 ·rcases ur.1 l with rfl|l
  ·grind
  ·rcases hi.dq x l y o with g|⟨i,h,F,b,u,q⟩
   ·exact .inl g
   all_goals grind
 ·have r:∀V,(str c,V)∉(G.X me).hd:=λV b=>g me C I.1 V (by rw[(d me).1];exact b)
  rw[p c r]
  refine hi.heap c (λi h b u q=>?_) t A
  grind
 ·rw[(d i).2]at b
  rw[(d i).1]at q
  by_cases f:i=me
  ·subst f
   rw[H]at b
   cases b
   rw[I.2.1]
   have N:∀k,k<n->(G.X k).wr=true->∀V,(str c,V)∉(G.X k).hd:=λk O s V U=>by
    obtain⟨rfl,_⟩:=hi.cO O h U q
    grind
   refine⟨λs t A=>?_,λs t A=>?_⟩
   ·rw[w t c s]
    exact hi.heap c N t (by rw[hi.own i h _ u q];exact A)
   all_goals grind[XF]
  ·have r:∀V,(str c,V)∉(G.X me).hd:=λV s=>f (hi.cO h C q s).1
   rw[(m i f).1]at g
   rw[(m i f).2.1]
   have:=hi.dZ i h g a b c u q
   exact⟨λs t A=>by rw[p c r];exact this.1 s t A,λs t A=>by rw[p c r];exact this.2 s t A⟩
 ·by_cases f:i=me
  ·grind
  ·rw[(m i f).1]at g
   rw[(m i f).2.1,(m i f).2.2]at o
   rw[(d i).1]
   exact hi.dQ i h g y o
 ·by_cases f:i=me
  ·grind
  ·rw[(m i f).1]at g
   rw[(m i f).2.1];exact hi.nd i h g
 ·by_cases f:i=me
  ·grind
  ·rw[(m i f).1]at g
   rw[(m i f).2.1]at o
   rw[(d i).1,(m i f).2.1,(m i f).2.2]
   exact hi.bO i h g y o
def sY (G:Gs)(me:Nat)(y:ay):Gs:={ G with w:=DM G.w y.J y.word,X:=eu G.X me { G.X me with put:=(G.X me).put+1 } }
def abw {y:ay}(hi:jB str h0 n G)(L:me<n)(U:(G.X me).wr=true)(R:(G.X me).cells[(G.X me).put]? = some y):jB str h0 n (sY G me y)/\XX str n G (sY G me y) me:=by
 have b:∀i,((sY G me y).X i).hd=(G.X i).hd/\((sY G me y).X i).up=(G.X i).up/\((sY G me y).X i).wr=(G.X i).wr/\((sY G me y).X i).cells=(G.X i).cells:=λi=>by
  show(eu G.X me _ i).hd=_/\(eu G.X me _ i).up=_/\(eu G.X me _ i).wr=_/\(eu G.X me _ i).cells=_
  by_cases c:i=me
  all_goals grind[kh,jh]
 have O:∀i,i≠me->((sY G me y).X i).put=(G.X i).put:=λi c=>by show(eu G.X me _ i).put=_;rw[jh c]
 have P:((sY G me y).X me).put=(G.X me).put+1:=by show(eu G.X me _ me).put=_;rw[kh]
 have s:=(Nm.1 R).1
 have C:=Ok R
 have B:∃V,(str y.J,V)∈(G.X me).hd:=by
  rcases hi.bO me L U y C with g|g
  all_goals grind
 obtain⟨S,u⟩:=B
 have m:∀c,c≠y.J->(sY G me y).w c=G.w c:=λc h=>by show DM G.w y.J y.word c=_;unfold DM;rw[zn h]
 refine⟨⟨hi.t0,hi.v,λi h D l g=>hi.own i h D l (by rw[<-(b i).1];exact g),λD g=>?_,hi.free,λi h=>by rw[(b i).1];exact hi.dD i h,λi h a g=>?_,λi j a E M K f=>hi.d7 i j a E M (by rw[<-(b i).2.1];exact K) (by rw[<-(b j).2.1];exact f),λi h g=>?_,λi h g a f=>hi.dS i h (by rw[<-(b i).2.2.1];exact g) a (by rw[<-(b i).2.1];exact f),hi.bj,hi.cR,λx Q z d=>?_,λc g t I=>?_,λi h g a f c l q=>?_,λi h g z d F=>?_,λi h g=>?_,λi h g z d=>?_⟩,⟨zab _,λD=>.inl rfl,λk T a g D l f=>.inl ⟨by rw[<-(b k).2.1];exact g,by rw[<-(b k).1];exact f⟩,.inl rfl⟩⟩
 ·obtain⟨i,h,l,f⟩:=hi.aY D g
  grind
 ·rw[(b i).2.1]at g
  rw[(b i).1];exact hi.dg i h a g
 ·rw[(b i).2.2.1]at g
  rw[(b i).2.1,(b i).2.2.2];exact hi.dL i h g
 ·rcases hi.dq x Q z d with g|⟨i,h,K,f,l,q⟩
  ·exact .inl g
  all_goals grind
 ·have p:c≠y.J:=λe=>by
   subst e
   grind
  rw[m c p]
  exact hi.heap c (λi h f l q=>g i h (by rw[(b i).2.2.1];exact f) l (by rw[(b i).1];exact q)) t I
 ·rw[(b i).2.2.1]at g
  rw[(b i).2.1]at f
  rw[(b i).1]at q
  rw[(b i).2.2.2]
  have E:=hi.dZ i h g a f c l q
  refine⟨λH t I=>?_,E.2⟩
  have p:c≠y.J:=λe=>by
   subst e
   obtain⟨rfl,_⟩:=hi.cO h L q u
   grind
  rw[m c p]
  exact E.1 H t I
 ·rw[(b i).2.2.1]at g
  rw[(b i).2.2.2]at d
  rw[(b i).1]at F
  by_cases c:i=me
  ·subst c
   rw[P,zaz s]at d
   have A:(G.X i).cells[(G.X i).put]=y:=by grind
   rw[A]at d
   rcases zar.1 d with d|d
   ·have o:z.J≠y.J:=λe=>by
     have r:=hi.nd i h g
     have N:(G.X i).cells=(G.X i).cells.take (G.X i).put++y::(G.X i).cells.drop ((G.X i).put+1):=by
      rw[<-A,<-zav s,zbb]
     rw[N,zal,zaj]at r
     exact(zbl.1 r).2.2 z.J (zcF d) y.J zao e
    rw[m _ o]
    exact hi.dQ i h g z d F
   ·rw[zaf]at d
    subst d
    show DM G.w z.J z.word z.J=_
    grind[DM]
  ·rw[O i c]at d
   have o:z.J≠y.J:=λe=>by
    obtain⟨l,H⟩:=F
    rw[e]at H
    exact c (hi.cO h L H u).1
   rw[m _ o]
   exact hi.dQ i h g z d F
 ·rw[(b i).2.2.1]at g
  rw[(b i).2.2.2]
  exact hi.nd i h g
 ·rw[(b i).2.2.1]at g
  rw[(b i).2.2.2]at d
  rw[(b i).1,(b i).2.2.2]
  rcases hi.bO i h g z d with f|f
  all_goals grind
def afq {cs:List ay}:∀{h:Hp}{y:ay},(cs.map (·.J)).Nodup->y∈cs->XQ h cs y.J=y.word:=by
 induction cs with
 |nil=>intro h y _ a;cases a
 |cons x l ih =>
  intro h y b a
  rw[zaj,zcq]at b
  show XQ (DM h x.J x.word) l y.J=_
  grind[tQ,DM]
def np (G:Gs)(me s:Nat)(v:Int)(rest:List (Nat×Int)):Gs:={ G with lk:=Jf G.lk s ⟨v,false,0⟩,X:=eu G.X me { G.X me with hd:=rest } }
def acI {V v:Int}{rest:List (Nat×Int)}(hi:jB str h0 n G)(E:me<n)(hh:(G.X me).hd=(s,V)::rest)(Z:((G.X me).wr=false/\v=V)\/((G.X me).wr=true/\(G.X me).put=(G.X me).cells.length/\∃now,(G.X me).up=some now/\v=now+1)) :
  jB str h0 n (np G me s v rest)/\XX str n G (np G me s v rest) me:=by
 have q:(s,V)∈(G.X me).hd:=by grind
 have N:=hi.own me E s V q
 have A:=hi.v s
 rw[N]at A
 simp only at A
 have H:V<=v/\v<=G.T:=by
  rcases Z with⟨_,e⟩|⟨_,_,now,I,P⟩
  ·omega
  ·have:=hi.dg me E now I
   grind
 have p:∀b,b≠s->(np G me s v rest).lk b=G.lk b:=λb c=>B9 c
 have z:(np G me s v rest).lk s=⟨v,false,0⟩:=FY
 have O:∀b,(G.lk b).D<=((np G me s v rest).lk b).D:=λb=>by
  by_cases c:b=s
  all_goals grind
 have f:∀i,((np G me s v rest).X i).up=(G.X i).up/\((np G me s v rest).X i).wr=(G.X i).wr/\((np G me s v rest).X i).cells=(G.X i).cells/\((np G me s v rest).X i).put=(G.X i).put:=λi=>by
  show(eu G.X me _ i).up=_/\(eu G.X me _ i).wr=_/\(eu G.X me _ i).cells=_/\(eu G.X me _ i).put=_
  by_cases c:i=me
  all_goals grind[kh,jh]
 have S:∀i,i≠me->((np G me s v rest).X i).hd=(G.X i).hd:=λi c=>by show(eu G.X me _ i).hd=_;rw[jh c]
 have U:((np G me s v rest).X me).hd=rest:=by show(eu G.X me _ me).hd=_;rw[kh]
 have l:∀i b d,(b,d)∈((np G me s v rest).X i).hd->(b,d)∈(G.X i).hd:=λi b d g=>by
  by_cases c:i=me
  all_goals grind
 have C:∀i,i<n->∀d,(s,d)∉((np G me s v rest).X i).hd:=λi h d g=>by
  obtain⟨rfl,rfl⟩:=hi.cO h E (l i s d g) q
  rw[U]at g
  have:=hi.dD i h
  rw[hh,zaj,zcq]at this
  grind
 have u:∀i b d,b≠s->(b,d)∈(G.X i).hd->(b,d)∈((np G me s v rest).X i).hd:=λi b d c g=>by
  by_cases w:i=me
  all_goals grind
 refine⟨⟨hi.t0,λb=>?_,λi h b d g=>?_,λb g=>?_,λb g=>?_,λi h=>?_,λi h a g=>?_,λi j a F R Q m=>hi.d7 i j a F R (by rw[<-(f i).1];exact Q) (by rw[<-(f j).1];exact m),λi h g=>?_,λi h g a m=>hi.dS i h (by rw[<-(f i).2.1];exact g) a (by rw[<-(f i).1];exact m),hi.bj,hi.cR,λx Y y o=>?_,λc g t B=>?_,λi h g a m c d r=>?_,λi h g y o K=>?_,λi h g=>?_,λi h g y o=>?_⟩,⟨zab _,λb=>?_,λk hk a g b d m=>.inl ⟨by rw[<-(f k).1];exact g,l k b d m⟩,.inl rfl⟩⟩
 ·by_cases c:b=s
  ·subst c;rw[z];exact⟨by show 0<=v;omega,H.2⟩
  ·rw[p b c];exact hi.v b
 ·have c:b≠s:=λc=>by subst c;exact C i h d g
  rw[p b c];exact hi.own i h b d (l i b d g)
 ·have c:b≠s:=λc=>by subst c;rw[z]at g;cases g
  rw[p b c]at g
  obtain⟨i,h,d,m⟩:=hi.aY b g
  grind
 ·by_cases c:b=s
  ·grind
  ·rw[p b c]at g ⊢;exact hi.free b g
 ·by_cases c:i=me
  ·subst c
   have:=hi.dD i h
   grind
  ·rw[S i c];exact hi.dD i h
 ·rw[(f i).1]at g
  have:=hi.dg i h a g
  exact⟨this.1,this.2.1,λb d m=>this.2.2 b d (l i b d m)⟩
 ·rw[(f i).2.1]at g
  rw[(f i).1,(f i).2.2.1];exact hi.dL i h g
 ·rcases hi.dq x Y y o with g|⟨i,h,Q,m,d,r⟩
  all_goals grind
 ·by_cases w:str c=s
  ·rw[w,z]at B
   have B:v<=t:=B
   rcases Z with⟨e,P⟩|⟨e,W,now,I,P⟩
   ·refine hi.heap c (λi h m d r=>?_) t (by rw[w,N];show V<=t;omega)
    grind
   ·have F:=hi.dZ me E e now I c V (by rw[w];exact q)
    by_cases M:∃y∈(G.X me).cells,y.J=c
    ·rw[show(np G me s v rest).L=G.L from rfl,F.2 M t zo]
     obtain⟨y,o,rfl⟩:=M
     rw[afq (hi.nd me E e) o]
     exact(hi.dQ me E e y (by rw[W,zbH];exact o) ⟨V,by rw[w];exact q⟩).symm
    ·exact F.1 (λy o e=>M ⟨y,o,e⟩) t zo
  ·rw[p _ w]at B
   exact hi.heap c (λi h m d r=>g i h (by rw[(f i).2.1];exact m) d (u i _ d w r)) t B
 ·rw[(f i).2.1]at g
  rw[(f i).1]at m
  rw[(f i).2.2.1]
  exact hi.dZ i h g a m c d (l i _ d r)
 ·rw[(f i).2.1]at g
  rw[(f i).2.2.1,(f i).2.2.2]at o
  obtain⟨d,r⟩:=K
  exact hi.dQ i h g y o ⟨d,l i _ d r⟩
 ·rw[(f i).2.1]at g
  rw[(f i).2.2.1]
  exact hi.nd i h g
 ·rw[(f i).2.1]at g
  rw[(f i).2.2.1]at o
  rw[(f i).2.2.1,(f i).2.2.2]
  rcases hi.bO i h g y o with⟨d,m⟩|m
  all_goals grind
 all_goals grind
def Aa (G:Gs)(me:Nat):Gs:={ G with X:=eu G.X me ⟨[],none,false,[],0⟩ }
def ack (hi:jB str h0 n G)(H:me<n)(F:(G.X me).hd=[]):jB str h0 n (Aa G me)/\XX str n G (Aa G me) me:=by
 have o:∀i,i≠me->(Aa G me).X i=G.X i:=λi c=>jh c
 have D:(Aa G me).X me=⟨[],none,false,[],0⟩:=kh
 have u:∀i,((Aa G me).X i).hd=(G.X i).hd:=λi=>by
  by_cases c:i=me
  all_goals grind
 have s:∀i a,((Aa G me).X i).up=some a->i≠me/\(G.X i).up=some a:=λi a g=>by
  by_cases c:i=me
  all_goals grind
 have r:∀i,((Aa G me).X i).wr=true->i≠me/\(G.X i).wr=true:=λi g=>by
  by_cases c:i=me
  all_goals grind
 refine⟨⟨hi.t0,hi.v,λi h q l g=>hi.own i h q l (by rw[<-u i];exact g),λq g=>?_,hi.free,λi h=>by rw[u i];exact hi.dD i h,λi h a g=>by rw[u i];exact hi.dg i h a (s i a g).2,λi j a B A w b=>hi.d7 i j a B A (s i a w).2 (s j a b).2,λi h g=>?_,λi h g a b=>?_,hi.bj,hi.cR,λx C y d=>?_,λc g t z=>?_,λi h g a b c l m=>?_,λi h g y d p=>?_,λi h g=>?_,λi h g y d=>?_⟩,⟨zab _,λq=>.inl rfl,λk E a g q l b=>.inl ⟨(s k a g).2,by rw[<-u k];exact b⟩,.inl rfl⟩⟩
 ·obtain⟨i,h,l,b⟩:=hi.aY q g
  grind
 ·obtain⟨c,b⟩:=r i g
  rw[o i c];exact hi.dL i h b
 ·obtain⟨c,m⟩:=s i a b
  rw[o i c]at g;exact hi.dS i h g a m
 ·rcases hi.dq x C y d with g|⟨i,h,w,b,l,m⟩
  ·exact .inl g
  all_goals grind
 ·refine hi.heap c (λi h b l m=>?_) t z
  grind
 ·obtain⟨e,f⟩:=r i g
  rw[o i e]at b m ⊢
  exact hi.dZ i h f a b c l m
 ·obtain⟨e,f⟩:=r i g
  rw[o i e]at d p
  exact hi.dQ i h f y d p
 ·obtain⟨e,f⟩:=r i g
  rw[o i e];exact hi.nd i h f
 ·obtain⟨e,f⟩:=r i g
  rw[o i e]at d ⊢
  exact hi.bO i h f y d
end
structure Tw6 (str:Int->Nat)(n:Nat)(G G':Gs)(me:Nat):Prop where
 hw:∀k,k<n->(G.X k).wr=true->∀s V,(s,V)∈(G.X k).hd->((G'.X k).wr=true/\(s,V)∈(G'.X k).hd)\/V<(G'.lk s).D
 w:∀c,G'.w c=G.w c\/((G'.X me).wr=true/\∃V,(str c,V)∈(G'.X me).hd)
section
variable {str:Int->Nat}{h0:Hp}{n:Nat}{G G':Gs}{me i:Nat}{τ:Int}{ks:List ay}{s:Nat}{v:Int}
def afs {V:Int}(hw:(G.X me).wr=false):Tw6 str n G (CC G me s V) me :=
 ⟨λk _ g s' V' g2=>.inl (by
  have c:k≠me:=λc=>by subst c;rw[hw]at g;cases g
  show(eu G.X me _ k).wr=true/\_∈(eu G.X me _ k).hd
  rw[jh c];exact⟨g,g2⟩),λ_=>.inl rfl⟩
def ac3:Tw6 str n G (rF G me) me :=
 ⟨λk _ g s' V' g2=>.inl (by
  show(eu G.X me _ k).wr=true/\_∈(eu G.X me _ k).hd
  by_cases c:k=me
  ·subst c;rw[kh];exact⟨g,g2⟩
  ·rw[jh c];exact⟨g,g2⟩),λ_=>.inl rfl⟩
def aa3 {now:Int}{cs:List ay}:Tw6 str n G (lw G me now cs) me :=
 ⟨λk _ g s' V' g2=>.inl (by
  show(eu G.X me _ k).wr=true/\_∈(eu G.X me _ k).hd
  by_cases c:k=me
  ·subst c;rw[kh];exact⟨rfl,g2⟩
  ·rw[jh c];exact⟨g,g2⟩),λ_=>.inl rfl⟩
def acz {y:ay}(hw:(G.X me).wr=true)(hy:∃V,(str y.J,V)∈(G.X me).hd):Tw6 str n G (sY G me y) me :=
 ⟨λk _ g s' V' g2=>.inl (by
  show(eu G.X me _ k).wr=true/\_∈(eu G.X me _ k).hd
  by_cases c:k=me
  ·subst c;rw[kh];exact⟨g,g2⟩
  ·rw[jh c];exact⟨g,g2⟩),λc=>by
  show DM G.w y.J y.word c=_\/(eu G.X me _ me).wr=true/\∃V,_∈(eu G.X me _ me).hd
  unfold DM
  split
  ·rename_i e
   subst e
   right;rw[kh];exact⟨hw,hy⟩
  ·exact .inl rfl⟩
def af7 {V v:Int}{rest:List (Nat×Int)}(hh:(G.X me).hd=(s,V)::rest)(hv:(G.X me).wr=true->V<v):Tw6 str n G (np G me s v rest) me :=
 ⟨λk _ g s' V' g2=>by
  show((eu G.X me _ k).wr=true/\_∈(eu G.X me _ k).hd)\/V'<(Jf G.lk s ⟨v,false,0⟩ s').D
  by_cases c:k=me
  ·subst c
   rw[kh]
   rw[hh]at g2
   rcases zaa.1 g2 with e|g2
   ·cases e;right;rw[FY];exact hv g
   ·exact .inl ⟨g,g2⟩
  ·rw[jh c];exact .inl ⟨g,g2⟩,λ_=>.inl rfl⟩
def aeU (hh:(G.X me).hd=[]):Tw6 str n G (Aa G me) me :=
 ⟨λk _ g s' V' g2=>.inl (by
  have c:k≠me:=λc=>by subst c;rw[hh]at g2;cases g2
  show(eu G.X me _ k).wr=true/\_∈(eu G.X me _ k).hd
  rw[jh c];exact⟨g,g2⟩),λ_=>.inl rfl⟩
def XX.mono (hi:jB str h0 n G)(d:me<n)(ht:XX str n G G' me)(s:Nat):(G.lk s).D<=(G'.lk s).D:=by
 rcases ht.c8 s with e|⟨a,c,⟨V,b⟩,e3⟩
 ·omega
 ·have f:=(hi.dg me d a c).2.2 s V b
  rw[hi.own me d s V b,e3]
  grind
structure zC (str:Int->Nat)(n:Nat)(G:Gs)(c v x:Int):Prop where
 le:v<=(G.lk (str c)).D
 w:(G.lk (str c)).D=v->(∀k,k<n->(G.X k).wr=true->∀V,(str c,V)∉(G.X k).hd)->G.w c=x
def zC.tr {c x:Int}(hi:jB str h0 n G)(r:me<n)(ht:XX str n G G' me)(m:Tw6 str n G G' me)(h:zC str n G c v x):zC str n G' c v x:=by
 have b:=ht.mono hi r (str c)
 refine⟨zaY h.le b,λe j=>?_⟩
 have o:=h.le
 have l:(G.lk (str c)).D=v:=by omega
 have a:∀k,k<n->(G.X k).wr=true->∀V,(str c,V)∉(G.X k).hd:=λk f g V d=>by
  rcases m.hw k f g _ V d with⟨i,p⟩|i
  ·grind
  ·have:=hi.own k f _ V d
   grind
 rcases m.w c with g|⟨q,V,d⟩
 ·rw[g];exact h.w l a
 all_goals grind
def zC.fF {c:Int}(h:v<=(G.lk (str c)).D):zC str n G c v (G.w c):=⟨h,λ_ _=>rfl⟩
theorem zC.aG {c x:Int}(hi:jB str h0 n G)(h:zC str n G c v x)(b:G.lk (str c)=⟨v,false,0⟩)(e:v<=τ):Rm h0 G.L τ c=x:=by
 have a:∀k,k<n->(G.X k).wr=true->∀V,(str c,V)∉(G.X k).hd:=λk d _ V g=>by
  rw[hi.own k d _ V g]at b;cases b
 rw[hi.heap c a τ (by rw[b];exact e)]
 exact h.w (by rw[b]) a
structure yA (str:Int->Nat)(h0:Hp)(n:Nat)(G:Gs)(i:Nat)(τ:Int)(rd:List (Nat×Int))(ks:List ay):Prop where
 bQ:∀p∈rd,kX str h0 n G i τ ks p.1 p.2
 b7:∀r∈ks,∃v,(str r.J,v)∈rd
def yA.nil:yA str h0 n G i τ [] []:=⟨λp h=>(by cases h),λr h=>(by cases h)⟩
def yA.tr {rd:List (Nat×Int)}(hi:jB str h0 n G)(hm:me<n)(ht:XX str n G G' me)(hme:i≠me)(hT:τ<=G.T)(h:yA str h0 n G i τ rd ks):yA str h0 n G' i τ rd ks :=
 ⟨λp hp=>(h.bQ p hp).tr hi hm ht hme hT,h.b7⟩
def yA.a5 {rd:List (Nat×Int)}(h:yA str h0 n G i τ rd ks):∀r∈ks,Rm h0 G.L τ r.J=r.word:=λr hr=>by
 obtain⟨v,hv⟩:=h.b7 r hr
 exact(h.bQ _ hv).aG r hr rfl
def yA.add {rd:List (Nat×Int)}{c x:Int}(hi:jB str h0 n G)(h:yA str h0 n G i τ rd ks)(e:zC str n G c v x)(f:G.lk (str c)=⟨v,false,0⟩)(q:v<=τ)(y:τ<=G.T){w:List (Nat×Int)}(j:∀p,p∈w↔p∈rd\/p=(str c,v)) :
  yA str h0 n G i τ w (ks++[⟨c,x⟩]):=by
 have o:∀k,k<n->∀V,(str c,V)∉(G.X k).hd:=λk e V g=>by rw[hi.own k e _ V g]at f;cases f
 have u:=e.aG (τ:=τ) hi f q
 refine⟨λp d=>?_,λr a=>?_⟩
 ·rcases(j p).1 d with d|rfl
  ·have b:=h.bQ p d
   refine⟨b.v0,b.c8,b.up,λr a l=>?_⟩
   rcases zar.1 a with a|a
   ·exact b.aG r a l
   all_goals grind
  ·refine⟨q,.inl (by rw[f]),λk e _ m _ t=>?_,λr a l=>?_⟩
   ·grind
   ·rcases zar.1 a with a|a
    ·exact h.a5 r a
    all_goals grind
 ·rcases zar.1 a with a|a
  ·obtain⟨s,g⟩:=h.b7 r a
   grind
  ·rw[zaf.1 a]
   exact⟨v,(j _).2 (.inr rfl)⟩
theorem yA.same {rd:List (Nat×Int)}{τ':Int}(h:yA str h0 n G i τ rd ks)(e:τ'=τ):yA str h0 n G i τ' rd ks:=e▸h
def kX.own (hv:(G'.lk s).D=(G.lk s).D)(hX:∀k,k≠i->G'.X k=G.X k)(hL:G'.L=G.L)(h:kX str h0 n G i τ ks s v):kX str h0 n G' i τ ks s v :=
 ⟨h.v0,by rw[hv];exact h.c8,λk hk hki now hu hh=>by rw[hX k hki]at hu hh;exact h.up k hk hki now hu hh,λr hr hs=>by rw[hL];exact h.aG r hr hs⟩
def yA.own {rd:List (Nat×Int)}(hv:∀s,(G'.lk s).D=(G.lk s).D)(hX:∀k,k≠i->G'.X k=G.X k)(hL:G'.L=G.L)(h:yA str h0 n G i τ rd ks):yA str h0 n G' i τ rd ks :=
 ⟨λp hp=>(h.bQ p hp).own (hv _) hX hL,h.b7⟩
def kX.eD {now:Int}{cs:List ay}(hi:jB str h0 n G)(p:i<n)(t:(G.X i).wr=false)(o:(G.X i).up=some now)(q:∀z∈cs,∃V,(str z.J,V)∈(G.X i).hd)(u:(cs.map (·.J)).Nodup)(h:kX str h0 n G i now ks s v):kX str h0 n (lw G i now cs) i now ks s v:=by
 obtain⟨_,j⟩:=Om hi p t o u q
 refine⟨h.v0,h.c8,λk f b a g d=>?_,λr m l=>?_⟩
 ·have e:(lw G i now cs).X k=G.X k:=jh b
  rw[e]at g d
  exact h.up k f b a g d
 ·rw[aex hi j λa c _=>by rw[o]at c;cases c;omega]
  exact h.aG r m l
theorem kX.free {V w now:Int}{rest:List (Nat×Int)}(hi:jB str h0 n G)(l:i<n)(d:(G.X i).hd=(s,V)::rest){s':Nat}(m:w=V\/(w=now+1/\(G.X i).up=some now/\τ<=now))(h:kX str h0 n G i τ ks s' v):kX str h0 n (np G i s w rest) i τ ks s' v:=by
 have j:=hi.own i l s V (by rw[d];exact zao)
 refine⟨h.v0,?_,λk f b a g d=>?_,h.aG⟩
 ·show(Jf G.lk s ⟨w,false,0⟩ s').D=v\/τ<(Jf G.lk s ⟨w,false,0⟩ s').D
  by_cases c:s'=s
  ·subst c
   rw[FY]
   have:=h.c8
   grind
  ·rw[B9 c];exact h.c8
 ·have e:(np G i s w rest).X k=G.X k:=jh b
  rw[e]at g d
  exact h.up k f b a g d
def kX.aA (hd:(G.X i).hd=[])(hi:n<=me)(h:kX str h0 n G i τ ks s v):kX str h0 n G me τ ks s v :=
 ⟨h.v0,h.c8,λk hk _ now hu hh=>by
  by_cases c:k=i
  ·subst c;obtain⟨V,g⟩:=hh;rw[hd]at g;cases g
  ·exact h.up k hk c now hu hh,h.aG⟩
end
abbrev Dy:Hx:=⟨[],none,false,[],0⟩
def Ik (x:ct):List (Nat×Int):=((x.F.zip x.was).map λp=>(p.1.toNat,p.2.D)).drop (if x.B=6\/x.B=7 then x.K else 0)
def jX (x:ct):Hx:=if x.Y.O=0 then⟨Ik x,if x.B=4\/x.B=5\/x.B=6 then some x.aj else none,decide (x.B=5\/x.B=6),if x.B=5\/x.B=6 then x.cells else [],if x.B=5 then x.K else if x.B=6 then x.cells.length else 0⟩else Dy
def fi (m:eO)(L:jZ)(X:Nat->Hx):Gs:=⟨λs=>m.l.getD s aa,λc=>m.w.getD c.toNat 0,m.n,L,X⟩
inductive Gr (str:Int->Nat) (h0:Hp) (n me:Nat):Gs->Gs->Prop
 |refl {G:Gs}:Gr str h0 n me G G
 |step {G G1 G2:Gs}:Gr str h0 n me G G1->jB str h0 n G1->XX str n G1 G2 me->Tw6 str n G1 G2 me->jB str h0 n G2->Gr str h0 n me G G2
section
variable {str:Int->Nat}{h0:Hp}{n me i:Nat}{G G':Gs}{τ:Int}{ks:List ay}{s:Nat}{v:Int}{m:eO}{L:jZ}{X:Nat->Hx}{x:ct}
def Gr.bY (h:Gr str h0 n me G G')(hi:jB str h0 n G):jB str h0 n G':=by cases h;exact hi;assumption
def Gr.T (h:Gr str h0 n me G G'):G.T<=G'.T:=by
 induction h with
 |refl=>exact zab _
 |step _ _ ht _ _ ih=>have:=ht.T;omega
def Gr.bQ (h:Gr str h0 n me G G')(b:me<n)(a:i≠me)(d:τ<=G.T)(c:kX str h0 n G i τ ks s v):kX str h0 n G' i τ ks s v:=by
 induction h with
 |refl=>exact c
 |step hp hi ht _ _ ih=>exact ih.tr hi b ht a (zaY d hp.T)
def Gr.cz {c y:Int}(h:Gr str h0 n me G G')(b:me<n)(a:zC str n G c v y):zC str n G' c v y:=by
 induction h with
 |refl=>exact a
 |step hp hi ht hw _ ih=>exact ih.tr hi b ht hw
def Gr.c8 (h:Gr str h0 n me G G')(a:me<n):(G.lk s).D<=(G'.lk s).D:=by
 induction h with
 |refl=>exact zab _
 |step hp hi ht hw _ ih=>exact zaY ih (ht.mono hi a s)
def KJ (G:Gs)(me:Nat):Gs:={ G with X:=eu G.X me { G.X me with up:=none } }
def adt (hi:jB str h0 n G)(H:me<n)(F:(G.X me).wr=false):jB str h0 n (KJ G me)/\XX str n G (KJ G me) me:=by
 have o:∀i,i≠me->(KJ G me).X i=G.X i:=λi c=>jh c
 have D:(KJ G me).X me={ G.X me with up:=none }:=kh
 have u:∀i,((KJ G me).X i).hd=(G.X i).hd:=λi=>by
  by_cases c:i=me
  all_goals grind
 have r:∀i a,((KJ G me).X i).up=some a->i≠me/\(G.X i).up=some a:=λi a g=>by
  by_cases c:i=me
  all_goals grind
 have q:∀i,((KJ G me).X i).wr=true->i≠me/\(G.X i).wr=true:=λi g=>by
  by_cases c:i=me
  all_goals grind
 refine⟨⟨hi.t0,hi.v,λi h s l g=>hi.own i h s l (by rw[<-u i];exact g),λs g=>?_,hi.free,λi h=>by rw[u i];exact hi.dD i h,λi h a g=>by rw[u i];exact hi.dg i h a (r i a g).2,λi j a C B z b=>hi.d7 i j a C B (r i a z).2 (r j a b).2,λi h g=>?_,λi h g a b x w=>?_,hi.bj,hi.cR,λx w y d=>?_,λc g t A=>?_,λi h g a b c l m=>?_,λi h g y d p=>?_,λi h g=>?_,λi h g y d=>?_⟩,⟨zab _,λ_=>.inl rfl,λk E a g s l b=>.inl ⟨(r k a g).2,by rw[<-u k];exact b⟩,.inl rfl⟩⟩
 ·obtain⟨i,h,l,b⟩:=hi.aY s g
  grind
 ·obtain⟨c,b⟩:=q i g
  rw[o i c];exact hi.dL i h b
 ·obtain⟨c,m⟩:=r i a b
  rw[o i c]at g;exact hi.dS i h g a m x w
 ·rcases hi.dq x w y d with g|⟨i,h,z,b,l,m⟩
  ·exact .inl g
  all_goals grind
 ·refine hi.heap c (λi h b l m=>?_) t A
  grind
 ·obtain⟨e,f⟩:=q i g
  rw[o i e]at b m ⊢
  exact hi.dZ i h f a b c l m
 ·obtain⟨e,f⟩:=q i g
  rw[o i e]at d p
  exact hi.dQ i h f y d p
 ·obtain⟨e,f⟩:=q i g
  rw[o i e];exact hi.nd i h f
 ·obtain⟨e,f⟩:=q i g
  rw[o i e]at d ⊢
  exact hi.bO i h f y d
def afa (hw:(G.X me).wr=false):Tw6 str n G (KJ G me) me :=
 ⟨λk _ g s' V' g2=>.inl (by
  have c:k≠me:=λc=>by subst c;rw[hw]at g;cases g
  show(eu G.X me _ k).wr=true/\_∈(eu G.X me _ k).hd
  rw[jh c];exact⟨g,g2⟩),λ_=>.inl rfl⟩
def Gs.cI {A B:Gs}(b:∀s,A.lk s=B.lk s)(d:∀c,A.w c=B.w c)(a:A.T=B.T)(f:A.L=B.L)(e:∀k,A.X k=B.X k):A=B:=by
 cases A;cases B
 simp only[Gs.mk.injEq]
 grind
def Ev {l:List ey}{k:Nat}{y:ey}(h:k<l.length)(s:Nat):(l.set k y).getD s aa=Jf (λs=>l.getD s aa) k y s:=by
 unfold Jf
 by_cases c:s=k
 ·subst c;rw[zp rfl];simp[h]
 all_goals grind
def Xt {l:List Int}{c y:Int}(a:1<=c)(h:c<l.length)(d:Int):(l.set c.toNat y).getD d.toNat 0=DM (λc=>l.getD c.toNat 0) c y d:=by
 unfold DM
 by_cases e:d=c
 ·subst e;rw[zp rfl];have:d.toNat<l.length:=by omega
  simp[this]
 all_goals grind
def W4 {a b:Hx}(k:Nat):eu (eu X me a) me b k=eu X me b k:=by grind[eu]
def SI {a:Hx}(h:X me=a)(k:Nat):eu X me a k=X k:=by grind[eu]
end
structure nV (str:Int->Nat)(h0:Hp)(n:Nat)(G:Gs)(nl nw i:Nat)(ks:List ay)(x:ct):Prop where
 ok:mH x
 me:x.me=i
 st:∀s∈x.F,0<=s/\s<nl
 bK:∀z∈x.ab,0<=z.N/\z.N<nl
 free:∀l∈x.was,l.held=false/\l.ar=0
 bO:∀y∈x.cells,((str y.J:Nat):Int)∈x.F
 nd:(x.cells.map (·.J)).Nodup
 cp:∀y∈x.cells,1<=y.J/\y.J<nw
 bX:x.cells≠[]
 O:x.Y.O=0\/x.Y.O=2\/x.Y.O=4\/x.Y.O=5
 wr:x.ao=true↔(x.Y.O=2\/(x.Y.O=0/\(x.B=5\/x.B=6)))
 dF:x.Y.O=0->x.B=7->x.O=4\/x.O=5
 ac:x.Y.O=0->x.B=1->x.ac.held=false/\x.ac.ar=0/\x.ac.D<4611686018427387904
 aj:x.Y.O=0->x.B=3->0<=x.aj/\x.I<=x.aj/\x.aj<4611686018427387903
 I:0<=x.I/\x.I<=G.T
 le:(x.ao=true\/(x.Y.O=0/\x.B=4))->x.I<=x.aj/\x.aj+1<=G.T
 bB:x.ao=false->∀z∈x.ab,kX str h0 n G i x.I ks z.N.toNat z.D
 cX:x.Y.O=0->x.B=4->∀j z,j<x.K->x.ab[j]? = some z->kX str h0 n G i x.aj ks z.N.toNat z.D
 dd:x.ao=true->∀z∈x.ab,kX str h0 n G i x.aj ks z.N.toNat z.D
structure ahE (x x':ct):Prop where
 ab:x'.ab=x.ab
 cells:x'.cells=x.cells
 I:x'.I=x.I
 me:x'.me=x.me
def adW (L L':jZ)(x x':ct):Prop:=(L'=L/\x'.ao=x.ao/\(x.ao=true->x'.aj=x.aj))\/(L'=Dc (x'.aj+1) x.cells L/\x.ao=false/\x'.ao=true/\∀y∈L,y.1≠x'.aj+1)
section
variable {str:Int->Nat}{h0:Hp}{n me i nl nw:Nat}{G G':Gs}{τ:Int}{ks:List ay}{s:Nat}{v:Int}{m:eO}{L:jZ}{X:Nat->Hx}{x:ct}
def nV.tr (h:nV str h0 n G nl nw i ks x)(hg:Gr str h0 n me G G')(hm:me<n)(hne:i≠me):nV str h0 n G' nl nw i ks x :=
 ⟨h.ok,h.me,h.st,h.bK,h.free,h.bO,h.nd,h.cp,h.bX,h.O,h.wr,h.dF,h.ac,h.aj,⟨h.I.1,zaY h.I.2 hg.T⟩,λg=>⟨(h.le g).1,zaY (h.le g).2 hg.T⟩,
  λg z hz=>hg.bQ hm hne h.I.2 (h.bB g z hz),λg g2 j z hj hz=>hg.bQ hm hne (by have:=(h.le (.inr ⟨g,g2⟩)).2;omega) (h.cX g g2 j z hj hz),λg z hz=>hg.bQ hm hne (by have:=(h.le (.inl g)).2;omega) (h.dd g z hz)⟩
theorem pX {x':ct}(hX:X i=jX x)(e:jX x'=jX x):fi m L (eu X i (jX x'))=fi m L X :=
 Gs.cI (λ_=>rfl) (λ_=>rfl) rfl rfl λk=>by show eu X i (jX x') k=X k;rw[e];exact SI hX k
def aeN (h:li x):((x.F.zip x.was).map λp=>(p.1.toNat,p.2.D)).length=x.was.length:=by
 have:=h.was
 simp;omega
def JT (h:li x){k:Nat}(a:k<x.was.length):((x.F.zip x.was).map λp=>(p.1.toNat,p.2.D))[k]? = some ((x.F.getD k 0).toNat,(x.was.getD k aa).D):=by
 have:=h.was
 rw[zax,dg (by simp;omega)]
 simp only[List.getElem_zip,Option.map_some,zay,Prod.mk.injEq]
 rw[ge,dg zo,ge,dg a]
 grind
def aez (h:li x)(d:x.was.length=x.F.length){a:Int}(c:a∈x.F):∃V,(a.toNat,V)∈(x.F.zip x.was).map λp=>(p.1.toNat,p.2.D):=by
 obtain⟨k,b,e⟩:=zaU c
 have:=JT h (k:=k) zo
 rw[ge,dg b]at this
 grind
def Zq (d:x.Y.O=0)(f:x.B=0\/x.B=1\/x.B=2\/x.B=3){e er b:Int}(c:e≠0){p:qM}(h:p.O=0):jX (jM { x with Y:=p } e er b)=jX x:=by
 have a:jX x=⟨(x.F.zip x.was).map λp=>(p.1.toNat,p.2.D),none,false,[],0⟩:=by
  unfold jX Ik
  rcases f with g|g|g|g<;>simp[g,d]
 rw[a]
 unfold jM jC
 split
 ·rename_i g
  have g:0=x.was.length:=g
  have:x.was=[]:=zah g.symm
  simp[jX,qM.bn,c,this]
 ·simp[jX,Ik,h]
def WV (h:nV str h0 n G nl nw i ks x)(k:x.Y.O=0)(l:x.B=0\/x.B=1\/x.B=2\/x.B=3\/x.B=4){e er b:Int}(f:e=4\/e=5){p:qM}(j:p.O=0):nV str h0 n G nl nw i ks (jM { x with Y:=p } e er b)/\ahE x (jM { x with Y:=p } e er b)/\(jM { x with Y:=p } e er b).ao=false/\x.ao=false:=by
 have a:x.ao=false:=by
  cases g:x.ao with
  |false=>rfl
  |true=>have:=h.wr.1 g;omega
 have d:li ({ x with Y:=p }:ct):=h.ok.len.be rfl rfl rfl rfl
 have c:=tB d (e:=e) (er:=er) (b:=b) zo
 revert c
 unfold jM jC
 split
 ·intro c
  refine⟨⟨c,h.me,h.st,h.bK,h.free,h.bO,h.nd,h.cp,h.bX,.inr (.inr f),?_,?_,?_,?_,h.I,?_,λ_=>h.bB a,?_,?_⟩,⟨rfl,rfl,rfl,rfl⟩,a,a⟩
  all_goals simp only[qM.bn,a]
  all_goals grind
 ·intro c
  refine⟨⟨c,h.me,h.st,h.bK,h.free,h.bO,h.nd,h.cp,h.bX,.inl j,?_,λ_ _=>f,?_,?_,h.I,?_,λ_=>h.bB a,?_,?_⟩,⟨rfl,rfl,rfl,rfl⟩,a,a⟩
  all_goals simp only[a,j]
  all_goals grind
theorem acU (h:nV str h0 n G nl nw i ks x){x':ct}(T:mH x')(a:x.Y.O=0)(b:x'.Y.O=0)(U:x.B<3)(V:x'.B=x.B)(c:{ x' with Y:=x.Y }=x):nV str h0 n G nl nw i ks x':=by
 have e:∀(P:ct->Prop),P { x' with Y:=x.Y }->P x:=λP g=>c▸g
 obtain⟨p,R,Q,S,y,L,H,z,K,F,f,d,o,u,t⟩:=x'
 obtain⟨q,v,M,w,D,N,E,J,C,A,l,s,r,k,j⟩:=x
 simp only[ct.mk.injEq,true_and]at c
 obtain⟨rfl,rfl,rfl,rfl,rfl,rfl,rfl,rfl,rfl,rfl,rfl,rfl,rfl,rfl⟩:=c
 simp only at a b U
 have m:=h.wr
 simp only[a]at m
 refine⟨T,h.me,h.st,h.bK,h.free,h.bO,h.nd,h.cp,h.bX,.inl b,?_,?_,λ_ g=>h.ac a g,λ_ g=>h.aj a g,h.I,?_,h.bB,?_,h.dd⟩
 all_goals grind
def OT {l:ey}(a:x.Y.O=0):(∃p:qM,p.O=0/\kM x l={ x with Y:=p })\/∃p:qM,p.O=0/\kM x l=jM { x with Y:=p } 5 0 l.ar:=by
 have:(x.Y.waits l.ar).1.O=0:=by grind[qM.waits]
 grind[kM]
theorem gk {p:qM}:p.aZ 0=p:=by grind[qM.aZ]
abbrev sj (str:Int->Nat)(h0:Hp)(n:Nat)(m:eO)(L:jZ)(X:Nat->Hx)(i:Nat)(ks:List ay)(x x':ct)(m':eO):Prop :=
 ∃L',Gr str h0 n i (fi m L X) (fi m' L' (eu X i (jX x')))/\nV str h0 n (fi m' L' (eu X i (jX x'))) m.l.length m.w.length i ks x'/\ahE x x'/\adW L L' x x'
def acd {l:ey}(q:X i=jX x)(h:nV str h0 n (fi m L X) m.l.length m.w.length i ks x)(f:x.Y.O=0)(o:x.B=0)(s:mH (kM x l)):sj str h0 n m L X i ks x (kM x l) m:=by
 rcases OT (l:=l) f with⟨p,a,e⟩|⟨p,a,e⟩
 ·rw[e]at s ⊢
  have c:jX { x with Y:=p }=jX x:=by grind[jX,Ik]
  refine⟨L,?_,?_,⟨rfl,rfl,rfl,rfl⟩,.inl ⟨rfl,rfl,λ_=>rfl⟩⟩
  ·rw[pX q c];exact .refl
  all_goals grind[pX,acU]
 ·rw[e]
  have c:=Zq (er:=0) (b:=l.ar) f (.inl o) (show(5:Int)≠0 by decide) a
  obtain⟨r,k,j,d⟩:=WV (er:=0) (b:=l.ar) h f (.inl o) (.inr rfl) a
  refine⟨L,?_,?_,k,.inl ⟨rfl,by rw[j,d],λg=>by rw[d]at g;cases g⟩⟩
  ·rw[pX q c];exact .refl
  all_goals grind[pX]
def qY {l:List Int}{k:Nat}(h:k<l.length):l.getD k 0∈l:=by
 rw[ge,dg h];exact zae h
def zi {s:Int}{a b:Int}{u w:ey}(h:0<=s/\s<m.l.length):∃c,ag m ⟨3,s,a,b,u,w⟩=({ m with aT:=c },⟨0,m.l.getD s.toNat aa,false,0⟩):=by
 have:nk s m.l.length=true:=by grind[nk]
 exact⟨_,by unfold ag bv tN;simp[this];rfl⟩
def L8 (h:nV str h0 n G nl nw i ks x)(s:x.Y.O=0){x':ct}(V:mH x')(W:x.B<3)(t:{ x' with B:=x.B,ac:=x.ac,aj:=x.aj }=x)(v:0<=x'.B/\x'.B<4)(r:x'.B=1->x'.ac.held=false/\x'.ac.ar=0/\x'.ac.D<4611686018427387904)(u:x'.B=3->0<=x'.aj/\x.I<=x'.aj/\x'.aj<4611686018427387903):nV str h0 n G nl nw i ks x':=by
 obtain⟨p,T,S,U,z,P,K,A,M,J,c,b,j,o,m⟩:=x'
 obtain⟨q,w,Q,y,F,R,H,L,E,C,f,l,k,e,d⟩:=x
 simp only[ct.mk.injEq,true_and]at t
 obtain⟨rfl,rfl,rfl,rfl,rfl,rfl,rfl,rfl,rfl,rfl,rfl,rfl⟩:=t
 simp only at s W v r u
 have N:=h.wr
 have a:b=false:=by grind
 subst a
 refine⟨V,h.me,h.st,h.bK,h.free,h.bO,h.nd,h.cp,h.bX,.inl s,?_,λ_ g=>by simp only at g;omega,λ_ g=>r g,λ_ g=>u g,h.I,λg=>by simp only at g;simp at g;omega,h.bB,λ_ g=>by simp only at g;omega,λg=>by cases g⟩
 grind
theorem aaS (hi:jB str h0 n (fi m L X))(z:m.n<4611686018427387904)(o:X i=jX x)(h:nV str h0 n (fi m L X) m.l.length m.w.length i ks x)(k:x.Y.O=0)(t:x.B=0) :
  (ag m (au x).1).2.aV=0/\sj str h0 n m L X i ks x (bk x (ag m (au x).1).2) (ag m (au x).1).1:=by
 have d:=mN h.ok (ag m (au x).1).2
 have r:=((h.ok.ba k).1 (.inl t)).1
 have f:=h.st _ (qY r)
 have p:(au x).1=⟨3,x.F.getD x.was.length 0,0,0,aa,aa⟩:=by grind[au]
 rw[p]at d ⊢
 obtain⟨c,e⟩:=zi (a:=0) (b:=0) (u:=aa) (w:=aa) f
 rw[e]at d ⊢
 have q:bk x ⟨0,m.l.getD (x.F.getD x.was.length 0).toNat aa,false,0⟩=if(m.l.getD (x.F.getD x.was.length 0).toNat aa).held=true then kM x (m.l.getD (x.F.getD x.was.length 0).toNat aa)else { x with ac:=m.l.getD (x.F.getD x.was.length 0).toNat aa,B:=1 }:=by grind[bk,oN,gk]
 rw[q]at d ⊢
 refine⟨rfl,?_⟩
 split at d
 ·rename_i g
  rw[zp g]
  exact acd (m:={ m with aT:=c }) o h k t d
 ·rename_i g
  rw[zn g]
  have g:(m.l.getD (x.F.getD x.was.length 0).toNat aa).held=false:=by simpa using g
  have j:jX { x with ac:=m.l.getD (x.F.getD x.was.length 0).toNat aa,B:=1 }=jX x:=by grind[jX,Ik]
  refine⟨L,?_,?_,⟨rfl,rfl,rfl,rfl⟩,.inl ⟨rfl,rfl,λ_=>rfl⟩⟩
  ·have:=pX (m:={ m with aT:=c }) (L:=L) o j
   rw[this];exact .refl
  ·have:=pX (m:={ m with aT:=c }) (L:=L) o j
   rw[this]
   exact L8 h k d zo rfl ⟨zs,zs⟩ (λ_=>⟨g,hi.free _ g,by have:=(hi.v (x.F.getD x.was.length 0).toNat).2;show(m.l.getD _ aa).D<_;have y:(fi m L X).T=m.n:=rfl;have s:(fi m L X).lk (x.F.getD x.was.length 0).toNat=m.l.getD (x.F.getD x.was.length 0).toNat aa:=rfl;rw[s]at this;omega⟩) (λg=>by simp at g)
def Gr.trans {g f:Gs}(h:Gr str h0 n me G g)(e:Gr str h0 n me g f):Gr str h0 n me G f:=by
 induction e with
 |refl=>exact h
 |step _ a b c d ih=>exact .step ih a b c d
def Gr.cO {G1:Gs}(hi:jB str h0 n G)(h:jB str h0 n G1/\XX str n G G1 me)(hw:Tw6 str n G G1 me):Gr str h0 n me G G1:=.step .refl hi h.2 hw h.1
def W7 {y:ey}:∀{l:List Int}{w:List ey},w.length<l.length->l.zip (w++[y])=l.zip w++[(l.getD w.length 0,y)]
 | [],w,h=>by simp at h
 |a::l,[],h=>by simp
 |a::l,b::w,h=>by
  have:=W7 (y:=y) (l:=l) (w:=w) (by simpa using h)
  simp only[Fn,List.zip_cons_cons,this,zad,List.getD_cons_succ]
theorem aeH {s:Int}{k:Nat}(h:0<=s/\s<k):nk s k=true:=by grind[nk]
def xd {l:ey}(h:l.D<4611686018427387904)(a:l.held=true->0<=l.ar/\l.ar<4)(h0:l.held=false->l.ar=0):Ia l=true:=by grind[Ia]
def Lj {ls:List ey}{s:Int}{l:ey}(h:0<=s/\s<ls.length)(a:Ia l=true):nG ls s l=0:=by grind[nG,aeH]
theorem abe (hi:jB str h0 n (fi m L X))(Z:i<n)(af:n<=4)(hT:m.n<4611686018427387904)(W:X i=jX x)(h:nV str h0 n (fi m L X) m.l.length m.w.length i ks x)(q:x.Y.O=0)(J:x.B=1) :
  (ag m (au x).1).2.aV=0/\sj str h0 n m L X i ks x (bk x (ag m (au x).1).2) (ag m (au x).1).1:=by
 have b:=mN h.ok (ag m (au x).1).2
 have C:=((h.ok.ba q).1 (.inr J))
 have t:=h.st _ (qY C.1)
 obtain⟨K,Q,P⟩:=h.ac q J
 have A:=h.me
 have M:(au x).1=⟨4,x.F.getD x.was.length 0,0,0,x.ac,⟨x.ac.D,true,x.me⟩⟩:=by grind[au]
 rw[M]at b ⊢
 have a:nG m.l (x.F.getD x.was.length 0) ⟨x.ac.D,true,x.me⟩=0:=Lj t (xd P (λ_=>by simp only;omega) (λg=>by cases g))
 have u:x.ao=false:=by
  cases g:x.ao with
  |false=>rfl
  |true=>have:=h.wr.1 g;omega
 by_cases r:m.l.getD (x.F.getD x.was.length 0).toNat aa=x.ac
 ·have e:∃c,ag m ⟨4,x.F.getD x.was.length 0,0,0,x.ac,⟨x.ac.D,true,x.me⟩⟩=({ m with aT:=c,l:=m.l.set (x.F.getD x.was.length 0).toNat ⟨x.ac.D,true,x.me⟩ },⟨0,aa,true,0⟩) :=
   ⟨_,by unfold ag bv pw;simp only[a,r];rfl⟩
  obtain⟨c,e⟩:=e
  rw[e]at b ⊢
  have v:bk x ⟨0,aa,true,0⟩=kA { x with was:=x.was++[x.ac] }:=by grind[bk,oN,gk]
  rw[v]at b ⊢
  have j:x.ac=⟨x.ac.D,false,0⟩:=by cases U:x.ac;rw[U]at K Q;simp_all
  have d:X i=⟨(x.F.zip x.was).map λp=>(p.1.toNat,p.2.D),none,false,[],0⟩:=by rw[W];unfold jX Ik;simp[q,J]
  have S:=adl (me:=i) (s:=(x.F.getD x.was.length 0).toNat) (V:=x.ac.D) hi Z (by show m.l.getD _ aa=_;rw[r];exact j) (by show(X i).up=none;rw[d]) (by show(X i).wr=false;rw[d])
  have y:=afs (str:=str) (n:=n) (G:=fi m L X) (me:=i) (s:=(x.F.getD x.was.length 0).toNat) (V:=x.ac.D) (by show(X i).wr=false;rw[d])
  have o:(kA { x with was:=x.was++[x.ac] }).B=0\/(kA { x with was:=x.was++[x.ac] }).B=2:=by grind[kA]
  have H:jX (kA { x with was:=x.was++[x.ac] })=⟨(x.F.zip x.was).map (λp=>(p.1.toNat,p.2.D))++[((x.F.getD x.was.length 0).toNat,x.ac.D)],none,false,[],0⟩:=by
   unfold jX Ik
   rw[zp (by exact q)]
   rcases o with g|g<;>rw[g]<;>simp[kA,W7 C.1]
  have E:fi { m with aT:=c,l:=m.l.set (x.F.getD x.was.length 0).toNat ⟨x.ac.D,true,x.me⟩ } L (eu X i (jX (kA { x with was:=x.was++[x.ac] })))=CC (fi m L X) i (x.F.getD x.was.length 0).toNat x.ac.D:=by
   refine Gs.cI (λs=>?_) (λ_=>rfl) rfl rfl (λk=>?_)
   ·show(m.l.set _ _).getD s aa=_
    rw[Ev zo,A];rfl
   ·show eu X i _ k=eu X i _ k
    grind[fi]
  refine⟨rfl,L,?_,?_,⟨rfl,rfl,rfl,rfl⟩,.inl ⟨rfl,rfl,λ_=>rfl⟩⟩
  ·rw[E];exact .cO hi S y
  ·rw[E]
   refine⟨b,h.me,h.st,h.bK,?_,h.bO,h.nd,h.cp,h.bX,.inl q,?_,?_,?_,?_,h.I,?_,?_,?_,?_⟩
   ·intro l f
    have f:l∈x.was++[x.ac]:=f
    rcases zar.1 f with f|f
    ·exact h.free l f
    all_goals grind
   ·show x.ao=true↔(x.Y.O=2\/(x.Y.O=0/\_))
    grind
   ·grind
   ·grind
   ·grind
   ·grind[kA]
   ·intro _ z N
    exact(h.bB u z N).own (VI (me:=i) (by show m.l.getD _ aa=_;rw[r];exact j) _) (λk R=>jh R) rfl
   ·grind
   ·intro g
    have g:x.ao=true:=g
    grind
 ·have e:∃c,ag m ⟨4,x.F.getD x.was.length 0,0,0,x.ac,⟨x.ac.D,true,x.me⟩⟩=({ m with aT:=c },⟨0,aa,false,0⟩) :=
   ⟨_,by unfold ag bv pw;simp only[a,r];rfl⟩
  obtain⟨c,e⟩:=e
  rw[e]at b ⊢
  have v:bk x ⟨0,aa,false,0⟩={ x with B:=0 }:=by grind[bk,oN,gk]
  rw[v]at b ⊢
  have T:jX { x with B:=0 }=jX x:=by grind[jX,Ik]
  have:=pX (m:={ m with aT:=c }) (L:=L) W T
  exact⟨rfl,L,by rw[this];exact .refl,by rw[this];exact L8 h q b zo rfl ⟨zs,zs⟩ (λg=>by simp at g) (λg=>by simp at g),⟨rfl,rfl,rfl,rfl⟩,.inl ⟨rfl,rfl,λ_=>rfl⟩⟩
theorem ach (hi:jB str h0 n (fi m L X))(u:X i=jX x)(h:nV str h0 n (fi m L X) m.l.length m.w.length i ks x)(d:x.Y.O=0)(o:x.B=2) :
  (ag m (au x).1).2.aV=0/\sj str h0 n m L X i ks x (bk x (ag m (au x).1).2) (ag m (au x).1).1:=by
 have a:=mN h.ok (ag m (au x).1).2
 have q:(au x).1=⟨6,0,0,0,aa,aa⟩:=by grind[au]
 rw[q]at a ⊢
 have e:∃c,ag m ⟨6,0,0,0,aa,aa⟩=({ m with aT:=c },⟨m.n,aa,false,0⟩):=⟨_,rfl⟩
 obtain⟨c,e⟩:=e
 rw[e]at a ⊢
 have t:bk x ⟨m.n,aa,false,0⟩=if 4611686018427387903<=m.n then jM x 4 7 (-1)else { x with aj:=m.n,B:=3 }:=by grind[bk,mf,gk]
 rw[t]at a ⊢
 refine⟨rfl,?_⟩
 split at a
 ·rename_i g
  rw[zp g]
  have j:=Zq (x:=x) (er:=7) (b:=-1) d (.inr (.inr (.inl o))) (show(4:Int)≠0 by decide) d
  obtain⟨r,s,p,k⟩:=WV (er:=7) (b:=-1) h d (.inr (.inr (.inl o))) (.inl rfl) d
  have:=pX (m:={ m with aT:=c }) (L:=L) u j
  exact⟨L,by rw[this];exact .refl,by rw[this];exact r,s,.inl ⟨rfl,by rw[p,k],λg=>by rw[k]at g;cases g⟩⟩
 ·rename_i g
  rw[zn g]
  have j:jX { x with aj:=m.n,B:=3 }=jX x:=by unfold jX Ik;simp[d,o]
  have:=pX (m:={ m with aT:=c }) (L:=L) u j
  have f:x.ao=false:=by
   cases g:x.ao with
   |false=>rfl
   |true=>have:=h.wr.1 g;omega
  exact⟨L,by rw[this];exact .refl,by rw[this];exact L8 h d a zo rfl ⟨zs,zs⟩ (λg=>by simp at g) (λ_=>⟨hi.t0,h.I.2,by show m.n<_;omega⟩),⟨rfl,rfl,rfl,rfl⟩,.inl ⟨rfl,rfl,λg=>by rw[f]at g;cases g⟩⟩
structure KD (str:Int->Nat)(h0:Hp)(n:Nat)(G:Gs)(nl nw i:Nat)(ks:List ay)(x:ct):Prop where
 len:li x
 full:x.was.length=x.F.length
 me:x.me=i
 st:∀s∈x.F,0<=s/\s<nl
 bK:∀z∈x.ab,0<=z.N/\z.N<nl
 free:∀l∈x.was,l.held=false/\l.ar=0
 bO:∀y∈x.cells,((str y.J:Nat):Int)∈x.F
 nd:(x.cells.map (·.J)).Nodup
 cp:∀y∈x.cells,1<=y.J/\y.J<nw
 bX:x.cells≠[]
 O:x.Y.O=0
 dR:x.B=4
 K:x.K<=x.ab.length
 wr:x.ao=false
 I:0<=x.I/\x.I<=G.T
 le:x.I<=x.aj/\x.aj+1<=G.T
 bB:∀z∈x.ab,kX str h0 n G i x.I ks z.N.toNat z.D
 cX:∀j z,j<x.K->x.ab[j]? = some z->kX str h0 n G i x.aj ks z.N.toNat z.D
abbrev hx4 (x:ct):Hx:=⟨(x.F.zip x.was).map λp=>(p.1.toNat,p.2.D),some x.aj,false,[],0⟩
def KD.hx (h:KD str h0 n G nl nw i ks x):jX x=hx4 x:=by
 unfold jX Ik;simp[h.O,h.dR]
def KD.fu (h:KD str h0 n G nl nw i ks x)(ho:mH x):nV str h0 n G nl nw i ks x :=
 ⟨ho,h.me,h.st,h.bK,h.free,h.bO,h.nd,h.cp,h.bX,.inl h.O,by rw[h.wr,h.O,h.dR];simp,λ_ g=>(by rw[h.dR]at g;cases g),λ_ g=>(by rw[h.dR]at g;cases g),λ_ g=>(by rw[h.dR]at g;cases g),h.I,λ_=>h.le,λ_=>h.bB,λ_ _=>h.cX,λg=>(by rw[h.wr]at g;cases g)⟩
def KD.ne (h:KD str h0 n G nl nw i ks x):x.F≠[]:=by
 cases a:x.cells with
 |nil=>exact absurd a h.bX
 |cons y l=>have:=h.bO y (by rw[a];simp);intro e;rw[e]at this;cases this
def aes (hi:jB str h0 n (fi m L X))(u:i<n)(r:X i=jX x)(h:KD str h0 n (fi m L X) m.l.length m.w.length i ks x){p:qM}(d:p.O=0){e b:Int}(t:e=4\/e=5):sj str h0 n m L X i ks x (jM { x with Y:=p } e 0 b) m:=by
 have s:x.was.length≠0:=by rw[h.full];intro g;exact h.ne (zah g)
 have c:(X i).wr=false:=by rw[r,h.hx]
 have o:jM { x with Y:=p } e 0 b={ x with Y:=p,O:=e,aV:=0,aY:=b,K:=0,B:=7 }:=by grind[jM,jC]
 rw[o]
 have j:mH { x with Y:=p,O:=e,aV:=0,aY:=b,K:=0,B:=7 }:=by
  have:=tB (x:={ x with Y:=p }) (h.len.be rfl rfl rfl rfl) (e:=e) (er:=0) (b:=b) zo
  grind
 have a:fi m L (eu X i (jX { x with Y:=p,O:=e,aV:=0,aY:=b,K:=0,B:=7 }))=KJ (fi m L X) i:=by
  refine Gs.cI (λ_=>rfl) (λ_=>rfl) rfl rfl (λk=>?_)
  show eu X i _ k=eu X i _ k
  rw[show(fi m L X).X i=X i from rfl,r,h.hx]
  congr 1
  unfold jX Ik;simp[d]
 refine⟨L,?_,?_,⟨rfl,rfl,rfl,rfl⟩,.inl ⟨rfl,rfl,λ_=>rfl⟩⟩
 ·rw[a];exact .cO hi (adt hi u c) (afa c)
 ·rw[a]
  refine⟨j,h.me,h.st,h.bK,h.free,h.bO,h.nd,h.cp,h.bX,.inl d,?_,λ_ _=>t,λ_ g=>(by cases g),λ_ g=>(by cases g),h.I,λg=>?_,λ_ z q=>kX.own (G:=fi m L X) rfl (λk f=>jh f) rfl (h.bB z q),λ_ g=>(by cases g),λg=>?_⟩
  ·show x.ao=true↔(p.O=2\/_)
   rw[h.wr,d];simp
  ·have g:x.ao=true\/(_/\(7:Int)=4):=g
   rw[h.wr]at g;simp at g
  ·have g:x.ao=true:=g
   rw[h.wr]at g;cases g
def adW.be {L':jZ}{x y z:ct}(h:adW L L' y z)(b:y.ao=x.ao)(c:y.aj=x.aj)(a:y.cells=x.cells):adW L L' x z:=by grind[adW]
def Cm (hn:i<n):∀{k:Nat}{x:ct},jB str h0 n (fi m L X)->X i=jX x->KD str h0 n (fi m L X) m.l.length m.w.length i ks x->x.ab.length=x.K+k->sj str h0 n m L X i ks x (proveN k x) m
 |0,x,hi,hX,h,hk=>by
  have ho:mH (proveN 0 x):=FV h.len h.dR h.full hk
  have hne:(0:Nat)≠x.cells.length:=λg=>h.bX (zah g.symm)
  have e2:proveN 0 x={ x with ao:=true,K:=0,B:=5 }:=by
   unfold proveN mo jI
   rw[zn hne]
  rw[e2]at ho ⊢
  have hw:(X i).wr=false:=by rw[hX,h.hx]
  have hu:(X i).up=some x.aj:=by rw[hX,h.hx]
  have hc:∀z∈x.cells,∃V,(str z.J,V)∈(X i).hd:=λz hz=>by
   rw[hX,h.hx]
   have:=aez h.len h.full (h.bO z hz)
   simpa using this
  have eG:fi m (Dc (x.aj+1) x.cells L) (eu X i (jX { x with ao:=true,K:=0,B:=5 }))=lw (fi m L X) i x.aj x.cells:=by
   refine Gs.cI (λ_=>rfl) (λ_=>rfl) rfl rfl (λk=>?_)
   show eu X i _ k=eu X i _ k
   rw[show(fi m L X).X i=X i from rfl,hX,h.hx]
   congr 1
   unfold jX Ik;simp[h.O]
  have hci:=Om hi hn hw hu h.nd hc
  refine⟨Dc (x.aj+1) x.cells L,?_,?_,⟨rfl,rfl,rfl,rfl⟩,.inr ⟨rfl,h.wr,rfl,λy hy=>hi.dS i hn hw x.aj hu y hy⟩⟩
  ·rw[eG];exact .cO hi hci aa3
  ·rw[eG]
   refine⟨ho,h.me,h.st,h.bK,h.free,h.bO,h.nd,h.cp,h.bX,.inl h.O,?_,λ_ g=>(by cases g),λ_ g=>(by cases g),λ_ g=>(by cases g),h.I,λ_=>h.le,λg=>(by cases g),λ_ g=>(by cases g),λ_ z hz=>?_⟩
   ·show true=true↔(x.Y.O=2\/(x.Y.O=0/\_))
    rw[h.O];simp
   ·obtain⟨j,hj,e⟩:=zaU hz
    exact(h.cX j z (by have hj:j<x.ab.length:=hj;omega) (by rw[dg hj,e])).eD hi hn hw hu hc h.nd
 |k+1,x,hi,hX,h,hk=>by
  have ho:mH (proveN (k+1) x):=FV h.len h.dR h.full hk
  have hlt:x.K<x.ab.length:=by omega
  have hz:x.ab.getD x.K ⟨0,0⟩=x.ab[x.K]:=by rw[ge,dg hlt];rfl
  revert ho
  unfold proveN
  rw[hz]
  cases hv:aec x x.ab[x.K].N with
  |none =>
   intro ho
   have e2:=pX (m:=m) (L:=L) (x':=x) hX rfl
   exact⟨L,by rw[e2];exact .refl,by rw[e2];exact h.fu ho,⟨rfl,rfl,rfl,rfl⟩,.inl ⟨rfl,rfl,λ_=>rfl⟩⟩
  |some v =>
   intro ho
   simp only at ho ⊢
   split
   ·rename_i g
    have hmem:x.ab[x.K]∈x.ab:=zae hlt
    have h':KD str h0 n (fi m L X) m.l.length m.w.length i ks { x with K:=x.K+1 }:=by
     refine⟨h.len.be rfl rfl rfl rfl,h.full,h.me,h.st,h.bK,h.free,h.bO,h.nd,h.cp,h.bX,h.O,h.dR,hlt,h.wr,h.I,h.le,h.bB,λj z hj hjz=>?_⟩
     have hj:j<x.K+1:=hj
     by_cases c:j<x.K
     ·exact h.cX j z c hjz
     ·have:j=x.K:=by omega
      subst this
      have hjz:x.ab[x.K]? = some z:=hjz
      rw[dg hlt]at hjz
      cases hjz
      have hg:=h.bB _ hmem
      have hown:(fi m L X).lk x.ab[x.K].N.toNat=⟨x.ab[x.K].D,true,i⟩:=by
       unfold aec at hv
       cases hix:tU x.F x.ab[x.K].N with
       |none=>rw[hix]at hv;cases hv
       |some q =>
        rw[hix]at hv
        have hv:some (x.was.getD q aa).D=some v:=hv
        have hq:=A1 hix
        have hql:=(Nm.1 hq).1
        have h1:=JT h.len (k:=q) (by rw[h.full];exact hql)
        have h2:=Ok h1
        rw[ge,hq]at h2
        have hin:(x.ab[x.K].N.toNat,x.ab[x.K].D)∈(X i).hd:=by
         rw[hX,h.hx]
         simp only[zay]at hv
         rw[hv,g]at h2
         exact h2
        exact hi.own i hn _ _ hin
      exact hg.aj hi (by rw[hown]) (.inr ⟨by rw[hown],by show(X i).wr=false;rw[hX,h.hx]⟩) (by have:=hg.v0;have:=h.le.1;show x.ab[x.K].D<=x.aj;omega) (by show x.aj<=_;have:=h.le.2;omega)
    have hX':X i=jX { x with K:=x.K+1 }:=by rw[hX,h.hx,h'.hx]
    obtain⟨L',r1,r2,r3,r4⟩:=Cm hn hi hX' h' (k:=k) (by show x.ab.length=x.K+1+k;omega)
    exact⟨L',r1,r2,⟨r3.ab,r3.cells,r3.I,r3.me⟩,r4.be rfl rfl rfl⟩
   ·exact aes hi hn hX h h.O (.inr rfl)
def nV.w0 (h:nV str h0 n G nl nw i ks x)(a:x.Y.O=0)(b:x.B≠5/\x.B≠6):x.ao=false:=by
 cases g:x.ao with
 |false=>rfl
 |true=>have:=h.wr.1 g;omega
def nV.fI (h:nV str h0 n G nl nw i ks x)(hf:x.Y.O=0)(hs:x.B=4):KD str h0 n G nl nw i ks x :=
 have hh:=(h.ok.ba hf).2.2.1 hs
 ⟨h.ok.len,hh.1,h.me,h.st,h.bK,h.free,h.bO,h.nd,h.cp,h.bX,hf,hs,Nat.le_of_lt hh.2,h.w0 hf zo,h.I,h.le (.inr ⟨hf,hs⟩),h.bB (h.w0 hf zo),h.cX hf hs⟩
def Pa (hi:jB str h0 n (fi m L X))(J:i<n)(C:X i=jX x)(h:nV str h0 n (fi m L X) m.l.length m.w.length i ks x)(c:x.Y.O=0)(r:x.B=3)(M:m.n=x.aj){p:Nat}(H:p<=x.ab.length)(E:∀j z,j<p->x.ab[j]? = some z->kX str h0 n (fi m L X) i x.aj ks z.N.toNat z.D){m':eO}(o:m'={ m with n:=x.aj+1,aT:=m'.aT }) :
  jB str h0 n (fi m' L (eu X i (jX { x with B:=4,K:=p })))/\Gr str h0 n i (fi m L X) (fi m' L (eu X i (jX { x with B:=4,K:=p })))/\KD str h0 n (fi m' L (eu X i (jX { x with B:=4,K:=p }))) m'.l.length m'.w.length i ks { x with B:=4,K:=p }:=by
 have b:=h.w0 c zo
 have f:X i=⟨(x.F.zip x.was).map λp=>(p.1.toNat,p.2.D),none,false,[],0⟩:=by rw[C];unfold jX Ik;simp[c,r]
 have q:=abP (me:=i) hi J (by show(X i).wr=false;rw[f])
 have y:fi m' L (eu X i (jX { x with B:=4,K:=p }))=rF (fi m L X) i:=by
  rw[o]
  refine Gs.cI (λ_=>rfl) (λ_=>rfl) (by show x.aj+1=m.n+1;rw[M]) rfl (λk=>?_)
  show eu X i _ k=eu X i _ k
  grind[fi,jX,Ik]
 have A:=(h.ok.ba c).2.1 (.inr r)
 have a:∀{t:Int} {s:Nat} {v:Int},kX str h0 n (fi m L X) i t ks s v->kX str h0 n (rF (fi m L X) i) i t ks s v:=λg=>kX.own (G:=fi m L X) (G':=rF (fi m L X) i) rfl (λk u=>jh u) rfl g
 rw[y]
 refine⟨q.1,.cO hi q ac3,⟨h.ok.len.be rfl rfl rfl rfl,A.1,h.me,?_,?_,h.free,h.bO,h.nd,?_,h.bX,c,rfl,H,b,?_,?_,λz d=>a (h.bB b z d),λj z hj d=>a (E j z hj d)⟩⟩
 ·rw[o];exact h.st
 ·rw[o];exact h.bK
 ·rw[o];exact h.cp
 ·have:=h.I;exact⟨this.1,by show x.I<=m.n+1;have:=this.2;have e:(fi m L X).T=m.n:=rfl;omega⟩
 ·have:=(h.aj c r).2.1
  exact⟨this,by show x.aj+1<=m.n+1;omega⟩
def sj.pre {m1:eO}{v:Nat->Hx}{x1 x':ct}{a:Hx}(y:v=eu X i a)(z:Gr str h0 n i (fi m L X) (fi m1 L v))(b:ahE x x1)(c:x1.ao=x.ao/\(x1.ao=true->x1.aj=x.aj)/\x1.cells=x.cells)(r:m1.l.length=m.l.length/\m1.w.length=m.w.length)(h:sj str h0 n m1 L v i ks x1 x' m1):sj str h0 n m L X i ks x x' m1:=by
 obtain⟨f,s,o,d,u⟩:=h
 have e:fi m1 f (eu v i (jX x'))=fi m1 f (eu X i (jX x')):=by
  refine Gs.cI (λ_=>rfl) (λ_=>rfl) rfl rfl (λk=>?_)
  show eu v i _ k=eu X i _ k
  rw[y,W4]
 rw[e]at s o
 rw[r.1,r.2]at o
 refine⟨f,z.trans s,o,⟨d.ab.trans b.ab,d.cells.trans b.cells,d.I.trans b.I,d.me.trans b.me⟩,?_⟩
 rcases u with⟨p,j,q⟩|⟨p,j,q,t⟩
 ·exact .inl ⟨p,j.trans c.1,λg=>(q (by rw[c.1];exact g)).trans (c.2.1 (by rw[c.1];exact g))⟩
 ·exact .inr ⟨by rw[p,c.2.2],by rw[<-c.1];exact j,q,t⟩
theorem abG (hi:jB str h0 n (fi m L X))(v:i<n)(y:X i=jX x)(h:nV str h0 n (fi m L X) m.l.length m.w.length i ks x)(a:x.Y.O=0)(b:x.B=3) :
  (ag m (au x).1).2.aV=0/\sj str h0 n m L X i ks x (bk x (ag m (au x).1).2) (ag m (au x).1).1:=by
 have d:=mN h.ok (ag m (au x).1).2
 obtain⟨E,F,H⟩:=h.aj a b
 have A:(au x).1=⟨7,0,x.aj,x.aj+1,aa,aa⟩:=by grind[au,Ul]
 rw[A]at d ⊢
 have r:=h.w0 a zo
 by_cases f:m.n=x.aj
 ·have e:∃c,ag m ⟨7,0,x.aj,x.aj+1,aa,aa⟩=({ m with n:=x.aj+1,aT:=c },⟨0,aa,true,0⟩) :=
   ⟨_,by unfold ag bv;simp[f,show ¬(x.aj+1<=x.aj) by omega,show ¬(4611686018427387904<=x.aj+1) by omega];rfl⟩
  obtain⟨c,e⟩:=e
  rw[e]at d ⊢
  refine⟨rfl,?_⟩
  have q:bk x ⟨0,aa,true,0⟩=if x.aj=x.I then mo x else pH x:=by grind[bk,mf,gk]
  rw[q]
  split
  ·rename_i g
   obtain⟨o,u,t⟩:=Pa (m':={ m with n:=x.aj+1,aT:=c }) hi v y h a b f (p:=x.ab.length) (LT _) (λj z _ C=>by rw[g];exact h.bB r z (Ok C)) rfl
   have s:=Cm (k:=0) v o kh t rfl
   exact sj.pre (m1:={ m with n:=x.aj+1,aT:=c }) (x1:={ x with B:=4,K:=x.ab.length }) rfl u ⟨rfl,rfl,rfl,rfl⟩ ⟨rfl,λ_=>rfl,rfl⟩ ⟨rfl,rfl⟩ s
  ·obtain⟨o,u,t⟩:=Pa (m':={ m with n:=x.aj+1,aT:=c }) hi v y h a b f (p:=x.K) (by have:=(h.ok.ba a).2.1 (.inr b);omega) (λj z hj _=>by have:=(h.ok.ba a).2.1 (.inr b);omega) rfl
   have s:=Cm (k:=x.ab.length-x.K) v o kh t (by have:=(h.ok.ba a).2.1 (.inr b);show x.ab.length=x.K+_;omega)
   exact sj.pre (m1:={ m with n:=x.aj+1,aT:=c }) (x1:={ x with B:=4,K:=x.K }) rfl u ⟨rfl,rfl,rfl,rfl⟩ ⟨rfl,λ_=>rfl,rfl⟩ ⟨rfl,rfl⟩ s
 ·have e:∃c,ag m ⟨7,0,x.aj,x.aj+1,aa,aa⟩=({ m with aT:=c },⟨0,aa,false,0⟩) :=
   ⟨_,by unfold ag bv;simp[f,show ¬(x.aj+1<=x.aj) by omega,show ¬(4611686018427387904<=x.aj+1) by omega];rfl⟩
  obtain⟨c,e⟩:=e
  rw[e]at d ⊢
  have q:bk x ⟨0,aa,false,0⟩={ x with B:=2 }:=by grind[bk,mf,gk]
  rw[q]at d ⊢
  have D:jX { x with B:=2 }=jX x:=by unfold jX Ik;simp[a,b]
  have:=pX (m:={ m with aT:=c }) (L:=L) y D
  refine⟨rfl,L,by rw[this];exact .refl,?_,⟨rfl,rfl,rfl,rfl⟩,.inl ⟨rfl,rfl,λ_=>rfl⟩⟩
  rw[this]
  refine⟨d,h.me,h.st,h.bK,h.free,h.bO,h.nd,h.cp,h.bX,.inl a,?_,λ_ g=>by simp only at g;omega,λ_ g=>by simp only at g;omega,λ_ g=>by simp only at g;omega,h.I,λg=>?_,h.bB,λ_ g=>by simp only at g;omega,λg=>?_⟩
  all_goals grind
theorem abC (hi:jB str h0 n (fi m L X))(P:i<n)(E:X i=jX x)(h:nV str h0 n (fi m L X) m.l.length m.w.length i ks x)(y:x.Y.O=0)(Q:x.B=4) :
  (ag m (au x).1).2.aV=0/\sj str h0 n m L X i ks x (bk x (ag m (au x).1).2) (ag m (au x).1).1:=by
 have o:=mN h.ok (ag m (au x).1).2
 have s:=(h.ok.ba y).2.2.1 Q
 have H:x.ab.getD x.K ⟨0,0⟩=x.ab[x.K]:=by rw[ge,dg s.2];rfl
 have q:x.ab[x.K]∈x.ab:=zae s.2
 have d:=h.fI y Q
 have U:(au x).1=⟨3,x.ab[x.K].N,0,0,aa,aa⟩:=by
  unfold au;rw[zp y,zn,zn,zn,zn,zp Q,H]
 rw[U]at o ⊢
 obtain⟨c,e⟩:=zi (a:=0) (b:=0) (u:=aa) (w:=aa) (h.bK _ q)
 rw[e]at o ⊢
 have S:∀l,bk x ⟨0,l,false,0⟩=mc x l:=λl=>by
  unfold bk
  grind[gk]
 rw[S]at o ⊢
 refine⟨rfl,?_⟩
 have r:KD str h0 n (fi { m with aT:=c } L X) m.l.length m.w.length i ks x:=d
 unfold mc at o ⊢
 split at o
 ·rename_i g
  rw[zp g]
  rcases OT (l:=m.l.getD x.ab[x.K].N.toNat aa) y with⟨p,A,e⟩|⟨p,A,e⟩
  ·rw[e]at o ⊢
   have e2:jX { x with Y:=p }=jX x:=by grind[jX,Ik]
   have M:=pX (m:={ m with aT:=c }) (L:=L) E e2
   refine⟨L,by rw[M];exact .refl,?_,⟨rfl,rfl,rfl,rfl⟩,.inl ⟨rfl,rfl,λ_=>rfl⟩⟩
   rw[M]
   exact KD.fu ⟨d.len.be rfl rfl rfl rfl,d.full,d.me,d.st,d.bK,d.free,d.bO,d.nd,d.cp,d.bX,A,d.dR,d.K,d.wr,d.I,d.le,d.bB,d.cX⟩ o
  ·rw[e]
   exact aes (m:={ m with aT:=c }) hi P E r A (.inr rfl)
 ·rename_i g
  rw[zn g]
  rw[H]at o ⊢
  split at o
  ·rename_i v
   rw[zp v]
   have F:KD str h0 n (fi { m with aT:=c } L X) m.l.length m.w.length i ks { x with K:=x.K+1,B:=4 }:=by
    refine⟨d.len.be rfl rfl rfl rfl,d.full,d.me,d.st,d.bK,d.free,d.bO,d.nd,d.cp,d.bX,d.O,rfl,s.2,d.wr,d.I,d.le,d.bB,λj z hj f=>?_⟩
    have hj:j<x.K+1:=hj
    by_cases c:j<x.K
    ·exact d.cX j z c f
    ·have:j=x.K:=by omega
     subst this
     have f:x.ab[x.K]? = some z:=f
     rw[dg s.2]at f
     cases f
     have J:=d.bB _ q
     exact J.aj hi v (.inl (by show(m.l.getD x.ab[x.K].N.toNat aa).held=false;simpa using g)) (by have:=J.v0;have:=d.le.1;show x.ab[x.K].D<=x.aj;omega) (by show x.aj<=_;have:=d.le.2;have e:(fi m L X).T=m.n:=rfl;show x.aj<=m.n;omega)
   have C:X i=jX { x with K:=x.K+1,B:=4 }:=by rw[E,d.hx,F.hx]
   obtain⟨Z,W,V,t,R⟩:=Cm (m:={ m with aT:=c }) P hi C F (k:=x.ab.length-(x.K+1)) (by show x.ab.length=x.K+1+_;omega)
   exact⟨Z,W,V,⟨t.ab,t.cells,t.I,t.me⟩,R.be rfl rfl rfl⟩
  ·rename_i v
   rw[zn v]
   exact aes (m:={ m with aT:=c }) hi P E r y (.inr rfl)
theorem abr (hi:jB str h0 n (fi m L X))(hn:i<n)(hX:X i=jX x)(h:nV str h0 n (fi m L X) m.l.length m.w.length i ks x)(M:x.Y.O=0)(r:x.B=5) :
  (ag m (au x).1).2.aV=0/\sj str h0 n m L X i ks x (bk x (ag m (au x).1).2) (ag m (au x).1).1:=by
 have f:=mN h.ok (ag m (au x).1).2
 have u:=(h.ok.ba M).2.2.2.1 r
 have v:x.cells.getD x.K ⟨0,0⟩=x.cells[x.K]:=by rw[ge,dg u.2];rfl
 have a:x.cells[x.K]∈x.cells:=zae u.2
 generalize W:x.cells[x.K]=y at v a
 have A:x.ao=true:=h.wr.2 (.inr ⟨M,.inl r⟩)
 have o:=h.cp y a
 have T:(au x).1=⟨2,y.J,0,y.word,aa,aa⟩:=by
  unfold au;rw[zp M,zn,zn,zn,zn,zn,zp r,v]
 rw[T]at f ⊢
 have e:∃c,ag m ⟨2,y.J,0,y.word,aa,aa⟩=({ m with w:=m.w.set y.J.toNat y.word,aT:=c },l9) :=
  ⟨_,by unfold ag bv lg;simp[o,l9];rfl⟩
 obtain⟨c,e⟩:=e
 rw[e]at f ⊢
 have S:bk x l9=jI { x with K:=x.K+1 }:=by grind[bk,l9,gk]
 rw[S]at f ⊢
 refine⟨rfl,?_⟩
 have b:X i=⟨(x.F.zip x.was).map λp=>(p.1.toNat,p.2.D),some x.aj,true,x.cells,x.K⟩:=by rw[hX];unfold jX Ik;simp[M,r]
 have C:=abw (y:=y) hi hn (by show(X i).wr=true;rw[b]) (by show(X i).cells[(X i).put]? = _;rw[b];show x.cells[x.K]? = some y;rw[dg u.2,W])
 have H:∃V,(str y.J,V)∈(X i).hd:=by
  rw[b]
  have:=aez h.ok.len u.1 (h.bO y a)
  simpa using this
 have E:x.F≠[]:=by
  intro e;have:=h.bO y a;rw[e]at this;cases this
 have P:¬(0=x.F.length):=λg=>E (zah g.symm)
 have U:∀q,q={ x with K:=x.K+1 }\/(x.K+1=x.cells.length/\q={ x with K:=0,B:=6 })->mH q->sj str h0 n m L X i ks x q { m with w:=m.w.set y.J.toNat y.word,aT:=c }:=by
  intro q j f
  have R:jX q=⟨(x.F.zip x.was).map λp=>(p.1.toNat,p.2.D),some x.aj,true,x.cells,x.K+1⟩:=by grind[jX,Ik]
  have Q:fi { m with w:=m.w.set y.J.toNat y.word,aT:=c } L (eu X i (jX q))=sY (fi m L X) i y:=by
   refine Gs.cI (λ_=>rfl) (λd=>Xt o.1 o.2 d) rfl rfl (λk=>?_)
   show eu X i _ k=eu X i _ k
   grind[fi]
  refine⟨L,?_,?_,?_,?_⟩
  ·rw[Q];exact .cO hi C (acz (by show(X i).wr=true;rw[b]) H)
  ·rw[Q]
   have t:∀z∈x.ab,kX str h0 n (sY (fi m L X) i y) i x.aj ks z.N.toNat z.D:=λz v=>kX.own (G:=fi m L X) (G':=sY (fi m L X) i y) rfl (λk Z=>jh Z) rfl (h.dd A z v)
   have s:=h.le (.inl A)
   rcases j with rfl|⟨g,rfl⟩
   ·refine⟨f,h.me,h.st,h.bK,h.free,h.bO,h.nd,?_,h.bX,h.O,h.wr,λ_ g=>by simp only[r]at g;omega,λ_ g=>by simp only[r]at g;omega,λ_ g=>by simp only[r]at g;omega,h.I,λ_=>s,λg=>(by simp only[A]at g;cases g),λ_ g=>by simp only[r]at g;omega,λ_=>t⟩
    simpa using h.cp
   ·refine⟨f,h.me,h.st,h.bK,h.free,h.bO,h.nd,?_,h.bX,h.O,?_,λ_ g=>by simp at g,λ_ g=>by simp at g,λ_ g=>by simp at g,h.I,λ_=>s,λg=>(by simp only[A]at g;cases g),λ_ g=>by simp at g,λ_=>t⟩
    ·simpa using h.cp
    all_goals grind
  ·rcases j with rfl|⟨g,rfl⟩<;>exact⟨rfl,rfl,rfl,rfl⟩
  ·rcases j with rfl|⟨g,rfl⟩<;>exact .inl ⟨rfl,rfl,λ_=>rfl⟩
 unfold jI at f ⊢
 split at f
 ·rename_i g
  rw[zp g]
  have eg:kf { x with K:=0,B:=6 }={ x with K:=0,B:=6 }:=by grind[kf]
  grind
 all_goals grind
def F0 {w V:Int}{rest:List (Nat×Int)}{sp:Int}(hi:jB str h0 n (fi m L X))(u:i<n)(r:(X i).hd=(sp.toNat,V)::rest)(D:((X i).wr=false/\w=V)\/((X i).wr=true/\(X i).put=(X i).cells.length/\∃now,(X i).up=some now/\w=now+1))(F:0<=sp/\sp<m.l.length){x':ct}(C:jX x'={ X i with hd:=rest }\/(rest=[]/\jX x'=Dy)){c:Int} :
  Gr str h0 n i (fi m L X) (fi { m with l:=m.l.set sp.toNat ⟨w,false,0⟩,aT:=c } L (eu X i (jX x'))) /\
  ∀{t:Int} {s':Nat} {v':Int},(w=V\/(w=t+1/\(X i).up=some t))->kX str h0 n (fi m L X) i t ks s' v'->kX str h0 n (fi { m with l:=m.l.set sp.toNat ⟨w,false,0⟩,aT:=c } L (eu X i (jX x'))) i t ks s' v':=by
 have f:=acI (v:=w) hi u r D
 have q:(X i).wr=true->V<w:=λg=>by
  rcases D with⟨a,_⟩|⟨_,_,now,a,E⟩
  ·grind
  ·have:=(hi.dg i u now a).2.2 _ V (by show _∈(X i).hd;rw[r];exact zao)
   omega
 have e:=af7 (str:=str) (n:=n) (G:=fi m L X) (v:=w) r q
 have z:∀k,(fi { m with l:=m.l.set sp.toNat ⟨w,false,0⟩,aT:=c } L (eu X i { X i with hd:=rest })).X k=(np (fi m L X) i sp.toNat w rest).X k:=λk=>rfl
 have x:fi { m with l:=m.l.set sp.toNat ⟨w,false,0⟩,aT:=c } L (eu X i { X i with hd:=rest })=np (fi m L X) i sp.toNat w rest :=
  Gs.cI (λs=>Ev zo s) (λ_=>rfl) rfl rfl z
 have b:∀{t:Int} {s':Nat} {v':Int},(w=V\/(w=t+1/\(X i).up=some t))->kX str h0 n (fi m L X) i t ks s' v'->kX str h0 n (np (fi m L X) i sp.toNat w rest) i t ks s' v':=λ{t s' v'} o h =>
  h.free (now:=t) hi u r (by rcases o with g|⟨g,a⟩;exact .inl g;exact .inr ⟨g,a,zab _⟩)
 rcases C with g|⟨B,a⟩
 ·rw[g,x]
  exact⟨.cO hi f e,b⟩
 ·subst B
  have d:((np (fi m L X) i sp.toNat w []).X i).hd=[]:=by show(eu X i _ i).hd=[];rw[kh]
  have A:=ack f.1 u d
  have j:=aeU (str:=str) (n:=n) d
  have p:fi { m with l:=m.l.set sp.toNat ⟨w,false,0⟩,aT:=c } L (eu X i (jX x'))=Aa (np (fi m L X) i sp.toNat w []) i:=by
   refine Gs.cI (λs=>Ev zo s) (λ_=>rfl) rfl rfl (λk=>?_)
   show eu X i _ k=eu (eu X i _) i _ k
   rw[W4,a]
  rw[p]
  exact⟨(Gr.cO hi f e).trans (.cO f.1 A j),λo h=>kX.own (G:=np (fi m L X) i sp.toNat w []) (G':=Aa (np (fi m L X) i sp.toNat w []) i) rfl (λk y=>jh y) rfl (b o h)⟩
def YZ (h:li x){k:Nat}(b:k<x.was.length):((x.F.zip x.was).map λp=>(p.1.toNat,p.2.D)).drop k=((x.F.getD k 0).toNat,(x.was.getD k aa).D)::((x.F.zip x.was).map λp=>(p.1.toNat,p.2.D)).drop (k+1):=by
 have c:=JT h b
 have a:=aeN h
 rw[zav (by rw[a];exact b)]
 grind
theorem abv (hi:jB str h0 n (fi m L X))(N:i<n)(S:m.n<4611686018427387904)(R:X i=jX x)(h:nV str h0 n (fi m L X) m.l.length m.w.length i ks x)(A:x.Y.O=0)(s:x.B=6) :
  (ag m (au x).1).2.aV=0/\sj str h0 n m L X i ks x (bk x (ag m (au x).1).2) (ag m (au x).1).1:=by
 have d:=mN h.ok (ag m (au x).1).2
 have M:=(h.ok.ba A).2.2.2.2.1 s
 have r:x.ao=true:=h.wr.2 (.inr ⟨A,.inr s⟩)
 have j:=h.le (.inl r)
 have b:=h.st _ (qY M.2)
 have Q:=h.I.1
 have P:(fi m L X).T=m.n:=rfl
 have J:(au x).1=⟨5,x.F.getD x.K 0,0,0,aa,⟨x.aj+1,false,0⟩⟩:=by
  unfold au;rw[zp A,zn,zn,zn,zn,zn,zn,zp s,Ul zo zo]
 rw[J]at d ⊢
 have k:nG m.l (x.F.getD x.K 0) ⟨x.aj+1,false,0⟩=0:=Lj b (xd (by show x.aj+1<_;omega) (λg=>by cases g) (λ_=>rfl))
 have e:∃c,ag m ⟨5,x.F.getD x.K 0,0,0,aa,⟨x.aj+1,false,0⟩⟩=({ m with l:=m.l.set (x.F.getD x.K 0).toNat ⟨x.aj+1,false,0⟩,aT:=c },⟨0,aa,false,0⟩) :=
  ⟨_,by unfold ag bv mw;simp only[k];rfl⟩
 obtain⟨c,e⟩:=e
 rw[e]at d ⊢
 have E:bk x ⟨0,aa,false,0⟩=kf { x with K:=x.K+1 }:=by
  unfold bk
  rw[gk,zp A,zn,zn,zn,zn,zp s]
 rw[E]at d ⊢
 refine⟨rfl,?_⟩
 have f:X i=⟨((x.F.zip x.was).map λp=>(p.1.toNat,p.2.D)).drop x.K,some x.aj,true,x.cells,x.cells.length⟩:=by grind[jX,Ik]
 have v:x.K<x.was.length:=by omega
 have hd:=YZ h.ok.len v
 have o:(X i).hd=((x.F.getD x.K 0).toNat,(x.was.getD x.K aa).D)::((x.F.zip x.was).map λp=>(p.1.toNat,p.2.D)).drop (x.K+1):=by grind
 have C:((X i).wr=false/\x.aj+1=(x.was.getD x.K aa).D)\/((X i).wr=true/\(X i).put=(X i).cells.length/\∃now,(X i).up=some now/\x.aj+1=now+1):=.inr (by rw[f];exact⟨rfl,rfl,x.aj,rfl,rfl⟩)
 have q:(X i).up=some x.aj:=by rw[f]
 unfold kf at d ⊢
 split at d
 ·rename_i g
  rw[zp g]
  have a:jX { x with K:=x.K+1,Y:=x.Y.bn 2 0 (-1) }=Dy:=by grind[jX,qM.bn]
  have H:((x.F.zip x.was).map λp=>(p.1.toNat,p.2.D)).drop (x.K+1)=[]:=by
   refine zaB ?_
   grind
  obtain⟨y,t⟩:=F0 (ks:=ks) (c:=c) hi N o C b (.inr ⟨H,a⟩)
  refine⟨L,y,?_,⟨rfl,rfl,rfl,rfl⟩,.inl ⟨rfl,rfl,λ_=>rfl⟩⟩
  refine⟨d,h.me,by simpa using h.st,by simpa using h.bK,h.free,h.bO,h.nd,h.cp,h.bX,.inr (.inl rfl),?_,λg=>by simp[qM.bn]at g,λg=>by simp[qM.bn]at g,λg=>by simp[qM.bn]at g,h.I,λ_=>j,λg=>(by simp only[r]at g;cases g),λg=>by simp[qM.bn]at g,λ_ z u=>t (.inr ⟨rfl,q⟩) (h.dd r z u)⟩
  grind[qM.bn]
 ·rename_i g
  rw[zn g]
  have a:jX { x with K:=x.K+1 }={ X i with hd:=((x.F.zip x.was).map λp=>(p.1.toNat,p.2.D)).drop (x.K+1) }:=by grind[jX,Ik]
  obtain⟨y,t⟩:=F0 (ks:=ks) (c:=c) hi N o C b (.inl a)
  refine⟨L,y,?_,⟨rfl,rfl,rfl,rfl⟩,.inl ⟨rfl,rfl,λ_=>rfl⟩⟩
  exact⟨d,h.me,by simpa using h.st,by simpa using h.bK,h.free,h.bO,h.nd,h.cp,h.bX,h.O,h.wr,h.dF,h.ac,h.aj,h.I,λ_=>j,λg=>(by simp only[r]at g;cases g),λ_ g=>by simp only[s]at g;omega,λ_ z u=>t (.inr ⟨rfl,q⟩) (h.dd r z u)⟩
theorem ace (hi:jB str h0 n (fi m L X))(P:i<n)(hT:m.n<4611686018427387904)(hX:X i=jX x)(h:nV str h0 n (fi m L X) m.l.length m.w.length i ks x)(s:x.Y.O=0)(N:x.B=7) :
  (ag m (au x).1).2.aV=0/\sj str h0 n m L X i ks x (bk x (ag m (au x).1).2) (ag m (au x).1).1:=by
 have j:=mN h.ok (ag m (au x).1).2
 have k:=(h.ok.ba s).2.2.2.2.2 N
 have r:=h.w0 s zo
 have H:x.K<x.F.length:=by have:=h.ok.len.was;omega
 have f:=h.st _ (qY H)
 have eT:(fi m L X).T=m.n:=rfl
 have t:X i=⟨((x.F.zip x.was).map λp=>(p.1.toNat,p.2.D)).drop x.K,none,false,[],0⟩:=by grind[jX,Ik]
 have hd:=YZ h.ok.len k.1
 have a:(X i).hd=((x.F.getD x.K 0).toNat,(x.was.getD x.K aa).D)::((x.F.zip x.was).map λp=>(p.1.toNat,p.2.D)).drop (x.K+1):=by grind
 generalize M:x.was.getD x.K aa=wl at a
 have E:wl∈x.was:=by rw[<-M,ge,dg k.1];exact zae k.1
 have A:=h.free _ E
 have R:wl.D<=m.n:=by
  have h1:=hi.own i P _ _ (by show _∈(X i).hd;rw[a];exact zao)
  have Z:=(hi.v (x.F.getD x.K 0).toNat).2
  grind
 obtain⟨V,b,o⟩:=wl
 obtain⟨rfl,rfl⟩:=A
 simp only at R a
 have W:(au x).1=⟨5,x.F.getD x.K 0,0,0,aa,⟨V,false,0⟩⟩:=by
  unfold au;rw[zp s,zn,zn,zn,zn,zn,zn,zn,M]
 rw[W]at j ⊢
 have q:nG m.l (x.F.getD x.K 0) ⟨V,false,0⟩=0:=Lj f (xd (by show V<_;omega) (λg=>by cases g) (λ_=>rfl))
 have e:∃c,ag m ⟨5,x.F.getD x.K 0,0,0,aa,⟨V,false,0⟩⟩=({ m with l:=m.l.set (x.F.getD x.K 0).toNat ⟨V,false,0⟩,aT:=c },⟨0,aa,false,0⟩) :=
  ⟨_,by unfold ag bv mw;simp only[q];rfl⟩
 obtain⟨c,e⟩:=e
 rw[e]at j ⊢
 have Q:bk x ⟨0,aa,false,0⟩=jC { x with K:=x.K+1 }:=by
  unfold bk
  rw[gk,zp s,zn,zn,zn,zn,zn]
 rw[Q]at j ⊢
 refine⟨rfl,?_⟩
 have J:((X i).wr=false/\V=V)\/((X i).wr=true/\(X i).put=(X i).cells.length/\∃now,(X i).up=some now/\V=now+1):=.inl ⟨by rw[t],rfl⟩
 unfold jC at j ⊢
 split at j
 ·rename_i g
  rw[zp g]
  have d:jX { x with K:=x.K+1,Y:=x.Y.bn x.O x.aV x.aY }=Dy:=by grind[jX,qM.bn]
  have U:((x.F.zip x.was).map λp=>(p.1.toNat,p.2.D)).drop (x.K+1)=[]:=by
   refine zaB ?_
   have g:x.K+1=x.was.length:=g
   rw[aeN h.ok.len];omega
  obtain⟨C,u⟩:=F0 (ks:=ks) (c:=c) hi P a J f (.inr ⟨U,d⟩)
  refine⟨L,C,?_,⟨rfl,rfl,rfl,rfl⟩,.inl ⟨rfl,rfl,λ_=>rfl⟩⟩
  have S:=h.dF s N
  refine⟨j,h.me,by simpa using h.st,by simpa using h.bK,h.free,h.bO,h.nd,h.cp,h.bX,.inr (.inr S),?_,λg=>absurd g k.2,λg=>absurd g k.2,λg=>absurd g k.2,h.I,λg=>?_,λ_ z y=>u (.inl rfl) (h.bB r z y),λg=>absurd g k.2,λg=>(by simp only[r]at g;cases g)⟩
  all_goals grind[qM.bn]
 ·rename_i g
  rw[zn g]
  have d:jX { x with K:=x.K+1 }={ X i with hd:=((x.F.zip x.was).map λp=>(p.1.toNat,p.2.D)).drop (x.K+1) }:=by grind[jX,Ik]
  obtain⟨C,u⟩:=F0 (ks:=ks) (c:=c) hi P a J f (.inl d)
  refine⟨L,C,?_,⟨rfl,rfl,rfl,rfl⟩,.inl ⟨rfl,rfl,λ_=>rfl⟩⟩
  exact⟨j,h.me,by simpa using h.st,by simpa using h.bK,h.free,h.bO,h.nd,h.cp,h.bX,h.O,h.wr,h.dF,h.ac,h.aj,h.I,h.le,λ_ z y=>u (.inl rfl) (h.bB r z y),λ_ g=>(by simp only[N]at g;omega),λg=>(by simp only[r]at g;cases g)⟩
def ac9 (hi:jB str h0 n (fi m L X))(e:i<n)(d:n<=4)(f:m.n<4611686018427387904)(c:X i=jX x)(h:nV str h0 n (fi m L X) m.l.length m.w.length i ks x)(b:x.Y.O=0) :
  (ag m (au x).1).2.aV=0/\sj str h0 n m L X i ks x (bk x (ag m (au x).1).2) (ag m (au x).1).1:=by
 have:=h.ok.st
 by_cases a:x.B=0
 all_goals grind[aaS,abe,ach,abG,abC,abr,abv,ace]
end
end Go.Proofs.YtoealglbimbbmaaGreatDoor.S
