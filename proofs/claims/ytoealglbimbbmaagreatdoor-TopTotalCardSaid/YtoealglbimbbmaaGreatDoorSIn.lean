import Derived.Test.YtoealglbimbbmaaGreatDoorSDraw
import Derived.RowKit3
import Derived.Laws.StructEq
import Derived.IntWalk
import Derived.RangeFuncWrites
import Derived.RangeFuncNested
import Derived.OrdersIn
import Derived.TacticsIn
import Derived.RangeFuncBound
import Derived.RangeFuncCalls
import Derived.RangeFuncLeaves
import Derived.LoopIn
set_option linter.defProp false
set_option linter.unusedVariables false
set_option linter.unusedSimpArgs false
namespace Go.Proofs.YtoealglbimbbmaaGreatDoor.S
open Go
structure mJ where
 cc:Nat->List Nat:=λ_=>[]
 bp:Nat->List Nat:=λ_=>[]
 aW:Nat->List Nat:=λ_=>[]
 bv:Nat->Ff:=λ_=>.c []
 cE:Nat->Option (List Nat×List Nat):=λ_=>none
 cL:Nat->Option (List Nat×List Nat):=λ_=>none
abbrev mD:Code->Option Nat
 | .region id _ _=>some id
 | .seq a b=>match mD a with|some i=>some i|none=>mD b
 | .cond _ a b=>match mD a with|some i=>some i|none=>mD b
 | .block _ b=>mD b
 | .loop b=>mD b
 |_=>none
abbrev F3:List Oper->List Nat
 | []=>[]
 |o::l=>match o.dst with|some d=>d::F3 l|none=>F3 l
abbrev mZ:Code->List Nat
 | .region _ ops _=>F3 ops.toList
 | .seq a b=>mZ a++mZ b
 | .cond _ a b=>mZ a++mZ b
 | .block _ b=>mZ b
 | .loop b=>mZ b
 |_=>[]
def known:Code->Bool
 | .skip | .region .. | .exit _ | .ret=>true
 | .seq a b | .cond _ a b=>known a&&known b
 | .block _ b | .loop b=>known b
 |_=>false
abbrev QK (ks:List Nat):List Nat->Bool
 | []=>true
 |d::l=>!(ks.any (Nat.beq d))&&QK ks l
abbrev lI (fr:Fr):List Nat->List Value->Fr
 |s::ss,v::vs=>(s,some v)::lI fr ss vs
 |_,_=>fr
noncomputable abbrev tj (fr:Fr):List Nat->Option (List Value)
 | []=>some []
 |s::ss=>match pR fr s,tj fr ss with|some v,some vs=>some (v::vs)|_,_=>none
abbrev Ue:List Nat->(List Value->Prop)->Prop
 | [],P=>P []
 |_::ss,P=>∀v,Ue ss λvs=>P (v::vs)
def JI:∀{ss:List Nat}{P:List Value->Prop},Ue ss P->∀vs:List Value,vs.length=ss.length->P vs
 | [],P,h,vs,hv=>by cases vs with|nil=>exact h|cons=>simp at hv
 |_::ss,P,h,vs,hv=>by
  cases vs with
  |nil=>simp at hv
  |cons v vs=>exact JI (h v) vs (by simpa using hv)
abbrev KT (o:Option (List Value))(k:List Value->Prop):Prop:=match o with|some vs=>k vs|none=>False
def Y6 (v:Value)(A B:Prop):Prop:=match v with | .bool t=>(t=true->A)/\(t=false->B)|_=>False
noncomputable abbrev agF (J:Option (List Nat×List Nat)) (ds:List Nat) (fr:Fr) (k:KF) (body:KF->World->Prop) (w:World):Prop :=
 match J with
 |none=>body k w
 |some (same,diff)=>match QK same ds with
  |false=>False
  |true=>KT (tj fr same) λks=>match diff with
   | []=>aw (λw=>k (lI [] same ks) w) (λj w=>body (λ_ w'=>j w') w) w
   | [d]=>cr (λx w=>k ((d,some x)::lI [] same ks) w) (λj w=>body (λfr' w'=>dq (pR fr' d) λx=>j x w') w) w
   | [d,e]=>xz (λx y w=>k ((d,some x)::(e,some y)::lI [] same ks) w) (λj w=>body (λfr' w'=>dq (pR fr' d) λx=>dq (pR fr' e) λy=>j x y w') w) w
   | [d,e,f]=>aiJ (λx y z w=>k ((d,some x)::(e,some y)::(f,some z)::lI [] same ks) w)
     (λj w=>body (λfr' w'=>dq (pR fr' d) λx=>dq (pR fr' e) λy=>dq (pR fr' f) λz=>j x y z w') w) w
   |_=>False
noncomputable abbrev zy (E:I5) (N:mJ):Code->Fr->KF->(Nat->KF)->KF->World->Prop
 | .skip,fr,k,_,_,w=>k fr w
 | .region id ops false,fr,k,_,_,w=>KT (tj fr (N.bp id)) λks=>Oe E ops.toList ops.toList (lI [] (N.bp id) ks) k w
 | .region id ops true,fr,k,_,_,w=>KT (tj fr (N.bp id)) λks=>Qr E ops (mkD ops (N.bv id)) (lI [] (N.bp id) ks) k w
 | .seq a b,fr,k,ex,kr,w=>zy E N a fr (λfr w=>zy E N b fr k ex kr w) ex kr w
 | .cond c a b,fr,k,ex,kr,w=>dq (rd fr c) λv=>agF (match mD (.cond c a b)with|some i=>N.cE i|none=>none) (mZ a++mZ b) fr k (λk w=>Y6 v (zy E N a fr k ex kr w) (zy E N b fr k ex kr w)) w
 | .block id b,fr,k,ex,kr,w=>agF (N.cL id) (mZ b) fr k (λk w=>zy E N b fr k (λi=>match Nat.beq i id with|true=>k|false=>ex i) kr w) w
 | .loop b,fr,_,ex,kr,w=>match mD b with
  |some id=>KT (tj fr (N.aW id)) λks=>match QK (N.aW id) (mZ b)with
   |false=>False
   |true=>KT (tj fr (N.cc id)) λvs0=>∃(I:List Value->World->Prop) (μ:List Value->World->Nat),I vs0 w /\
    Ue (N.cc id) λvs=>∀w,I vs w->zy E N b (lI (lI [] (N.aW id) ks) (N.cc id) vs) (λfr' w'=>KT (tj fr' (N.cc id)) λvs'=>I vs' w'/\μ vs' w'<μ vs w) ex kr w
  |none=>False
 | .exit id,fr,_,ex,_,w=>ex id fr w
 | .ret,fr,_,_,kr,w=>kr fr w
 |_,_,_,_,_,_=>False
def EJ {ks:List Nat}:∀{l:List Nat},QK ks l=true->∀d∈l,d∉ks
 |d::l,h,x,hx=>by
  simp only[QK,GE,zaH]at h
  rcases zaa.1 hx with rfl|hx
  ·intro hm
   have:=List.any_eq_true.2 ⟨x,hm,zci x⟩
   rw[h.1]at this;cases this
  ·exact EJ h.2 x hx
def Holds (a:Act)(ss:List Nat)(vs:List Value):Prop:=∀(n s:Nat)(v:Value),ss[n]? = some s->vs[n]? = some v->a.tmps[s]? = some v
def qa {n:Nat}{fr:Fr}{a:Act}(h:lC n fr a):∀{ss:List Nat}{vs:List Value},tj fr ss=some vs->vs.length=ss.length/\Holds a ss vs
 | [],vs,hg=>by simp[tj]at hg;subst hg;exact⟨rfl,λn s v h=>by simp at h⟩
 |s::ss,vs,hg=>by
  simp only[tj]at hg
  split at hg
  ·rename_i v vs' hv hvs
   cases hg
   obtain⟨h1,h2⟩:=qa h hvs
   refine⟨by simp[h1],λn s' u hs hu=>?_⟩
   cases n with
   |zero=>simp at hs hu;subst hs;subst hu;exact h.2 _ _ hv
   |succ n=>exact h2 n s' u (by simpa using hs) (by simpa using hu)
  ·cases hg
def uE {a:Act}{fr:Fr}(hfr:∀t v,pR fr t=some v->a.tmps[t]? = some v):∀(ss:List Nat)(vs:List Value),Holds a ss vs->∀t v,pR (lI fr ss vs) t=some v->a.tmps[t]? = some v
 | [],_,_,t,v,h=>by simp[lI]at h;exact hfr t v h
 |_::_,[],_,t,v,h=>by simp[lI]at h;exact hfr t v h
 |s::ss,u::vs,hh,t,v,h=>by
  simp only[lI]at h
  rw[qo]at h
  simp only at h
  split at h
  ·rename_i hc;subst hc
   cases h
   exact hh 0 _ _ zs zs
  ·exact uE hfr ss vs (λn s' v' h1 h2=>hh (n+1) s' v' (by simpa using h1) (by simpa using h2)) t v h
def HV {a:Act}:∀t v,pR [] t=some v->a.tmps[t]? = some v:=λt v h=>by cases h
def lC.cut {n:Nat}{fr:Fr}{a:Act}(h:lC n fr a){ss:List Nat}{vs:List Value}(hg:tj fr ss=some vs):lC n (lI [] ss vs) a :=
 ⟨h.1,uE HV ss vs (qa h hg).2⟩
def oC {o:Option (List Value)}{k:List Value->Prop}(h:KT o k):∃vs,o=some vs/\k vs:=by
 unfold KT at h
 split at h
 ·exact⟨_,rfl,h⟩
 ·exact h.elim
def kH (ds:List Nat)(a a':Act):Prop:=a'.tmps.size=a.tmps.size/\a'.defers=a.defers/\∀t,t∉ds->a'.tmps[t]? = a.tmps[t]?
def kH.refl (ds:List Nat)(a:Act):kH ds a a:=⟨rfl,rfl,λ_ _=>rfl⟩
def kH.trans {ds:List Nat}{a b c:Act}(h:kH ds a b)(h':kH ds b c):kH ds a c:=⟨h'.1.trans h.1,h'.2.1.trans h.2.1,λt ht=>(h'.2.2 t ht).trans (h.2.2 t ht)⟩
def kH.mono {ds ds':List Nat}{a b:Act}(h:kH ds a b)(hs:∀t∈ds,t∈ds'):kH ds' a b:=⟨h.1,h.2.1,λt ht=>h.2.2 t (λhm=>ht (hs t hm))⟩
def kH.put {ds:List Nat}(a:Act)(c:Option Tmp)(v:Value)(hd:∀d,c=some d->d∈ds):kH ds a (a.put c v):=by
 cases c with
 |none=>exact kH.refl ds a
 |some d =>
  refine⟨by simp[Act.put],rfl,λt b=>?_⟩
  have:d≠t:=λe=>b (e▸hd d rfl)
  simp[Act.put,this]
def mI {l:List Oper}{o:Oper}(a:o∈l){d:Nat}(hd:o.dst=some d):d∈F3 l:=by
 induction l with
 |nil=>cases a
 |cons x l ih =>
  rcases zaa.1 a with h|h
  ·subst h;simp[F3,hd]
  ·have:=ih h
   unfold F3
   split
   ·exact gr _ this
   ·exact this
def rT (m j:Nat):(Array.replicate m false).getD j false=false:=by
 simp only[zaJ,zcj]
 split<;>rfl
def NoP (Q:Exit->Act->World->Prop):Exit->Act->World->Prop
 | .panic _,_,_=>False
 |e,a,w=>Q e a w
def FR {J:Option (List Nat×List Nat)}{ds:List Nat}{fr:Fr}{k:KF}{K:KF->World->Prop}{w:World}{n:Nat}{a:Act}(h:agF J ds fr k K w)(I:lC n fr a) :
  ∃k':KF,K k' w/\∀fr' a' w',lC n fr' a'->kH ds a a'->k' fr' w'->∃fr'',lC n fr'' a'/\k fr'' w':=by
 unfold agF at h
 split at h
 ·exact⟨k,h,λfr' a' w' g _ c=>⟨fr',g,c⟩⟩
 ·rename_i l C
  split at h<;>try exact h.elim
  rename_i B
  obtain⟨D,A,h⟩:=oC h
  have j:∀a',a'.tmps.size=n->kH ds a a'->lC n (lI [] l D) a':=λa' r E=>⟨r,uE HV l D (λm s v g i=>by
   have q:s∉ds:=λF=>EJ B s F (Ok g)
   rw[E.2.2 s q]
   exact(qa I A).2 m s v g i)⟩
  have b:∀{f:Fr} {a':Act} {d:Nat} {x:Value},lC n f a'->a'.tmps[d]? = some x->lC n ((d,some x)::f) a':=λ{f a' d x} hf o=>⟨hf.1,λt v p=>by
   rw[qo]at p
   simp only at p
   split at p
   ·rename_i e;subst e;cases p;exact o
   ·exact hf.2 t v p⟩
  split at h
  ·exact⟨_,h,λfr' a' w' g i c=>⟨_,j a' g.1 i,c⟩⟩
  ·refine⟨_,h,λfr' a' w' g i c=>?_⟩
   obtain⟨x,o,c⟩:=ao c
   exact⟨_,b (j a' g.1 i) (g.2 _ _ o),c⟩
  ·refine⟨_,h,λfr' a' w' g i c=>?_⟩
   obtain⟨x,o,c⟩:=ao c
   obtain⟨y,u,c⟩:=ao c
   exact⟨_,b (b (j a' g.1 i) (g.2 _ _ u)) (g.2 _ _ o),c⟩
  ·refine⟨_,h,λfr' a' w' g i c=>?_⟩
   obtain⟨x,o,c⟩:=ao c
   obtain⟨y,u,c⟩:=ao c
   obtain⟨z,H,c⟩:=ao c
   exact⟨_,b (b (b (j a' g.1 i) (g.2 _ _ H)) (g.2 _ _ u)) (g.2 _ _ o),c⟩
  ·exact h.elim
def VJ {E:I5}(hE:E.OK)(N:mJ){n:Nat}:∀(c:Code)(_:∀d∈mZ c,d<n)(fr:Fr)(a:Act)(w:World)(k:KF)(ex:Nat->KF)(F:KF)(Q:Exit->Act->World->Prop),lC n fr a->zy E N c fr k ex F w ->
  (∀fr' a' w',lC n fr' a'->kH (mZ c) a a'->k fr' w'->Q .normal a' w') ->
  (∀id fr' a' w',lC n fr' a'->kH (mZ c) a a'->ex id fr' w'->Q (.exit id) a' w') ->
  (∀fr' a' w',lC n fr' a'->kH (mZ c) a a'->F fr' w'->Q .ret a' w')->c.wp E.P Q a w:=by
 intro c
 induction c with
 |skip=>intro q fr a w k ex F Q f h D z A;exact wp_skip (D fr a w f (kH.refl _ _) h)
 |ret=>intro q fr a w k ex F Q f h D z A;exact wp_ret (A fr a w f (kH.refl _ _) h)
 |exit id=>intro q fr a w k ex F Q f h D z A;exact wp_exit (z id fr a w f (kH.refl _ _) h)
 |region id ops draw =>
  intro q fr a w k ex F Q f h D z A
  cases draw with
  |false =>
   obtain⟨ks,T,h⟩:=oC h
   have f:=f.cut T
   refine wp_region_list (Ab hE (R:=kH (mZ (.region id ops false))) (kH.refl _) (λ_ _ _=>kH.trans) _ (λo ho a v=>kH.put a o.dst v (λd C=>mI ho C)) (λo ho d C=>q d (mI ho C)) _ a w k f h D)
  |true =>
   obtain⟨ks,T,h⟩:=oC h
   have f:=f.cut T
   simp only[Qr]at h
   split at h<;>try exact h.elim
   rename_i aC
   obtain⟨hs,aF,aL,C⟩:=Mt aC
   have aK:(Code.region id ops true).wp E.P (NoP Q) a w:=by
    refine wp_region_any hE.eW (HM (ms:=(mkD ops (N.bv id)).ms) _ [] _ _ _ ?_)
    refine(Qq hE (λi o ho d C=>q d (mI (Ok (l:=ops.toList) (i:=i) (by simpa using ho)) C)) aF hs (Q:=NoP Q) (λc a w h=>h) (R:=kH (mZ (.region id ops true))) (kH.refl _) (λ_ _ _=>kH.trans)
     (λi o ho a v=>kH.put a o.dst v (λd C=>mI (Ok (l:=ops.toList) (i:=i) (by simpa using ho)) C)) (mkD ops (N.bv id)).bv.bv true _ [] _ a w.drew k _ aL ?_ f zs h ?_).1 rfl C
    ·intro k' o Z hl
     rw[rT]at hl;cases hl
    ·intro fr' a' w' p j g;exact D fr' a' w' p j g
   exact wp_mono aK λe a w hq=>by cases e<;>first|exact hq|exact hq.elim
 |seq x y ihx ihy =>
  intro q fr a w k ex F Q f h D z A
  refine wp_seq (ihx (λd C=>q d (zam _ C)) fr a w _ ex F _ f h (λfr' a' w' p j g=>?_) (λid fr' a' w' p j g=>?_) (λfr' a' w' p j g=>?_))
  ·have hs:kH (mZ (.seq x y)) a a':=j.mono λt B=>zam _ B
   refine ihy (λd C=>q d (zak _ C)) fr' a' w' k ex F Q p g (λr H M U O g3=>?_) (λid r H M U O g3=>?_) (λr H M U O g3=>?_)
   ·exact D r H M U (hs.trans (O.mono λt B=>zak _ B)) g3
   ·exact z id r H M U (hs.trans (O.mono λt B=>zak _ B)) g3
   ·exact A r H M U (hs.trans (O.mono λt B=>zak _ B)) g3
  ·exact z id fr' a' w' p (j.mono λt B=>zam _ B) g
  ·exact A fr' a' w' p (j.mono λt B=>zam _ B) g
 |cond cnd x y ihx ihy =>
  intro q fr a w k ex F Q f h D z A
  obtain⟨v,hv,h⟩:=ao h
  obtain⟨k',h,Z⟩:=FR h f
  have L:∀fr' a' w',lC n fr' a'->kH (mZ x++mZ y) a a'->k' fr' w'->Q .normal a' w':=λfr' a' w' p j g=>by
   obtain⟨r,U,O⟩:=Z fr' a' w' p j g
   exact D r a' w' U j O
  obtain⟨t,rfl⟩:∃t,v=.bool t:=by cases v<;>first|exact⟨_,rfl⟩|exact h.elim
  refine wp_cond_split (f.rd _ _ hv) (λB=>?_) (λB=>?_)
  ·exact ihx (λd C=>q d (zam _ C)) fr a w k' ex F Q f (h.1 B) (λfr' a' w' p j g=>L fr' a' w' p (j.mono λt B=>zam _ B) g) (λid fr' a' w' p j g=>z id fr' a' w' p (j.mono λt B=>zam _ B) g)
    (λfr' a' w' p j g=>A fr' a' w' p (j.mono λt B=>zam _ B) g)
  ·exact ihy (λd C=>q d (zak _ C)) fr a w k' ex F Q f (h.2 B) (λfr' a' w' p j g=>L fr' a' w' p (j.mono λt B=>zak _ B) g) (λid fr' a' w' p j g=>z id fr' a' w' p (j.mono λt B=>zak _ B) g)
    (λfr' a' w' p j g=>A fr' a' w' p (j.mono λt B=>zak _ B) g)
 |block id b ih =>
  intro q fr a w k ex F Q f h D z A
  obtain⟨k',h,Z⟩:=FR (J:=N.cL id) (ds:=mZ b) h f
  have L:∀fr' a' w',lC n fr' a'->kH (mZ b) a a'->k' fr' w'->Q .normal a' w':=λfr' a' w' p j g=>by
   obtain⟨r,U,O⟩:=Z fr' a' w' p j g
   exact D r a' w' U j O
  refine wp_block (ih q fr a w k' _ F _ f h (λfr' a' w' p j g=>L fr' a' w' p j g) (λac fr' a' w' p j g=>?_) (λfr' a' w' p j g=>A fr' a' w' p j g))
  simp only[Exit.inBlock]
  by_cases W:ac=id
  ·subst W;rw[zp rfl];simp only[zci]at g;exact L fr' a' w' p j g
  ·have hb:Nat.beq ac id=false:=by rw[zcd];intro hb;exact W (zaA hb)
   rw[zn W];simp only[hb]at g;exact z ac fr' a' w' p j g
 |loop b ih =>
  intro q fr a w k ex F Q f h D z A
  simp only[zy]at h
  split at h<;>try exact h.elim
  rename_i id W
  obtain⟨ks,T,h⟩:=oC h
  split at h<;>try exact h.elim
  rename_i aN
  obtain⟨aI,aD,h⟩:=oC h
  obtain⟨I,μ,aH,X⟩:=h
  obtain⟨aM,aG⟩:=qa f aD
  have S:=λV aJ=>JI X V aJ
  let J:Act->World->Prop:=λa' w'=>kH (mZ b) a a'/\∃V,V.length=(N.cc id).length/\Holds a' (N.cc id) V/\I V w'
  refine wp_loop J (λa' w'=>μ ((N.cc id).map λs=>(a'.tmps[s]?).getD undef) w') ⟨kH.refl _ _,aI,aM,aG,aH⟩ ?_
  rintro a1 w1 ⟨hs1,V,hvl,hvh,hI⟩
  have K:∀(a':Act) (ss:List Nat) (Y:List Value),Y.length=ss.length->Holds a' ss Y->(ss.map λs=>(a'.tmps[s]?).getD undef)=Y:=by
   intro a' ss
   induction ss with
   |nil=>intro Y hl _;cases Y with|nil=>rfl|cons=>simp at hl
   |cons s ss ihs =>
    intro Y hl hh
    cases Y with
    |nil=>simp at hl
    |cons u Y =>
     have h0:=hh 0 s u zs zs
     simp only[zaj,h0,zbF]
     rw[ihs Y (by simpa using hl) (λn s' v' U O=>hh (n+1) s' v' (by simpa using U) (by simpa using O))]
  have al:lC n (lI (lI [] (N.aW id) ks) (N.cc id) V) a1:=by
   refine⟨hs1.1.trans f.1,uE (uE HV _ _ ?_) _ _ hvh⟩
   intro m s v hs hv
   have aB:s∉mZ b:=λhm=>EJ aN s hm (Ok hs)
   rw[hs1.2.2 s aB]
   exact(qa f T).2 m s v hs hv
  refine ih q _ a1 w1 _ ex F _ al (S V hvl w1 hI) (λfr' a' w' p j g=>?_) (λi fr' a' w' p j g=>z i fr' a' w' p (hs1.trans j) g) (λfr' a' w' p j g=>A fr' a' w' p (hs1.trans j) g)
  obtain⟨aE,aA,g⟩:=oC g
  obtain⟨af,am⟩:=qa p aA
  show J a' w'/\_
  refine⟨⟨hs1.trans j,aE,af,am,g.1⟩,?_⟩
  rw[K a' _ aE af am,K a1 _ V hvl hvh]
  exact g.2
 |_=>intros;rename_i h _ _ _;exact h.elim
noncomputable abbrev RH (E:I5):List ResultVar->Fr->(List Value->World->Prop)->World->Prop
 | [],_,k,w=>k [] w
 | .tmp t::l,fr,k,w=>dq (pR fr t) λv=>RH E l fr (λvs w=>k (v::vs) w) w
 | .cell a t::l,fr,k,w=>match E.P.underlying t,E.P.info? t with
  |some d,some i=>dq (pR fr a) λp=>match ri d with
   |true=>br i.size p (λv w=>RH E l fr (λvs w=>k (v::vs) w) w) w
   |false=>ad p (λv w=>RH E l fr (λvs w=>k (v::vs) w) w) w
  |_,_=>False
abbrev adB:List Value->Value
 | [v]=>v
 |vs=>.tuple vs.toArray
noncomputable abbrev OQ (E:I5) (rs:List ResultVar) (fr:Fr) (K:KV) (w:World):Prop :=
 match rs with
 | [.tmp t]=>dq (pR fr t) λv=>K v w
 | [.tmp t,.tmp u]=>dq (pR fr t) λv=>dq (pR fr u) λv'=>K (.tuple #[v,v']) w
 | [.tmp t,.tmp u,.tmp x]=>dq (pR fr t) λv=>dq (pR fr u) λv'=>dq (pR fr x) λv''=>K (.tuple #[v,v',v'']) w
 | []=>K (.tuple #[]) w
 |rs=>RH E rs fr (λvs w=>K (adB vs) w) w
abbrev IQ:Nat->List Value->Fr
 |_,[]=>[]
 |i,v::l=>(i,some v)::IQ (i+1) l
abbrev Ep (n:Nat):List Nat->Bool
 | []=>true
 |d::l=>Nat.blt d n&&Ep n l
noncomputable abbrev Hn (E:I5) (N:mJ) (fn:Func) (args:List Value) (K:KV) (w:World):Prop :=
 match fn.body with
 |some c=>match Ep fn.ntmps (mZ c),Nat.ble args.length fn.ntmps with|true,true=>zy E N c (IQ 0 args) (OQ E fn.results.toList · K) (λ_ _ _=>False) (OQ E fn.results.toList · K) w|_,_=>False
 |none=>False
def xO {n:Nat}:∀{l:List Nat},Ep n l=true->∀d∈l,d<n
 |d::l,h,x,hx=>by
  simp only[Ep,GE]at h
  rcases zaa.1 hx with rfl|hx
  ·exact za3 h.1
  ·exact xO h.2 x hx
def Ew:∀(l:List Value)(i t:Nat)(v:Value),pR (IQ i l) t=some v->i<=t/\l[t-i]? = some v
 | [],i,t,v,h=>by cases h
 |u::l,i,t,v,h=>by
  simp only[IQ]at h
  rw[qo]at h
  simp only at h
  split at h
  ·rename_i hc;subst hc;cases h;simp
  ·obtain⟨h1,h2⟩:=Ew l (i+1) t v h
   refine⟨zo,?_⟩
   rw[show t-i=(t-(i+1))+1 by omega];simpa using h2
def QJ {P:Program}{w:World}(a:Addr):(asAddr (.pointer (some a))).run P w=.ok a w:=by simp[asAddr]
def Uu {P:Program}{w:World}{t:TypeId}{d:TypeDesc}{i:TypeInfo}{q o:Nat}{cs:List Value}(hd:P.underlying t=some d)(hi:P.info? t=some i)(a:ri d=true)(c:mem w q=some cs)(b:o+i.size<=cs.length) :
  (loadVar t ⟨q,o,none⟩).run P w=.ok (.agg ((cs.drop o).take i.size).toArray) w:=by
 simp only[loadVar,Sem.run_bind,te w hd,Result.andThen_ok,a,if_true,jl w hi,Ac c b,Sem.run_pure]
def UX {P:Program}{w:World}{t:TypeId}{d:TypeDesc}{q o:Nat}{cs:List Value}{v:Value}(hd:P.underlying t=some d)(b:ri d=false)(c:mem w q=some cs)(a:cs[o]? = some v) :
  (loadVar t ⟨q,o,none⟩).run P w=.ok v w:=by
 simp only[loadVar,Sem.run_bind,te w hd,Result.andThen_ok,b,Or,if_false,SK c a]
def aeW (tmps:Array Value):ResultVar->Sem Value
 | .tmp t=>pure (tmps.getD t undef)
 | .cell b t=>do loadVar t (<-asAddr (tmps.getD b undef))
def S2 (fn:Func)(tmps:Array Value):results fn tmps=(do let vs <-fn.results.mapM (aeW tmps);pure (if h:vs.size=1 then vs[0]else .tuple vs)):=by
 unfold results
 congr 1
def J3 {E:I5}{fr:Fr}{a:Act}{w:World}(get:∀t v,pR fr t=some v->a.tmps.getD t undef=v):∀(l:List ResultVar)(k:List Value->World->Prop),RH E l fr k w ->
  ∃vs,(l.mapM (aeW a.tmps)).run E.P w=.ok vs w/\k vs w/\vs.length=l.length
 | [],k,h=>⟨[],zs,h,rfl⟩
 | .tmp t::l,k,h=>by
  simp only[RH]at h
  obtain⟨v,hv,h⟩:=ao h
  obtain⟨vs,h1,h2,h3⟩:=J3 get l _ h
  exact⟨v::vs,by simp only[zbn,aeW,Sem.run_bind,Sem.run_pure,Result.andThen_ok,h1,get t v hv],h2,by simp[h3]⟩
 | .cell b t::l,k,h=>by
  simp only[RH]at h
  split at h<;>try exact h.elim
  rename_i d i hd hi
  obtain⟨p,hp,h⟩:=ao h
  split at h
  ·rename_i hg
   unfold br at h
   split at h<;>try exact h.elim
   rename_i q o
   split at h<;>try exact h.elim
   rename_i cs hm
   obtain⟨vs,h1,h2,h3⟩:=J3 get l _ h.2
   refine⟨_::vs,?_,h2,by simp[h3]⟩
   simp only[zbn,aeW,Sem.run_bind,get b _ hp,QJ,Result.andThen_ok,Uu hd hi hg hm h.1,Sem.run_pure,h1]
  ·rename_i hg
   unfold ad at h
   split at h<;>try exact h.elim
   rename_i q o
   split at h<;>try exact h.elim
   rename_i cs hm
   unfold gm at h
   split at h<;>try exact h.elim
   rename_i v hv
   obtain⟨vs,h1,h2,h3⟩:=J3 get l _ h
   refine⟨_::vs,?_,h2,by simp[h3]⟩
   simp only[zbn,aeW,Sem.run_bind,get b _ hp,QJ,Result.andThen_ok,UX hd hg hm hv,Sem.run_pure,h1]
def xe {E:I5}{fn:Func}{fr:Fr}{a:Act}{K:KV}{w:World}{n:Nat}(g:lC n fr a)(hd:a.defers=[])(h:OQ E fn.results.toList fr K w) :
  a.defers=[]/\∃v,(results fn a.tmps).run E.P w=.ok v w/\K v w:=by
 refine⟨hd,?_⟩
 have c:∀t v,pR fr t=some v->a.tmps.getD t undef=v:=λt v f=>by simp[zaJ,g.2 t v f]
 unfold OQ at h
 split at h
 ·rename_i t e
  have b:fn.results=#[.tmp t]:=by apply zan.1;simpa using e
  obtain⟨v,f,h⟩:=ao h
  exact⟨v,by rw[results_tmp b,c t v f],h⟩
 ·rename_i t u e
  have b:fn.results=#[.tmp t,.tmp u]:=by apply zan.1;simpa using e
  obtain⟨v,f,h⟩:=ao h;obtain⟨k,d,h⟩:=ao h
  exact⟨_,by rw[results_tmp2 b,c t v f,c u k d],h⟩
 ·rename_i t u x e
  have b:fn.results=#[.tmp t,.tmp u,.tmp x]:=by apply zan.1;simpa using e
  obtain⟨v,f,h⟩:=ao h;obtain⟨k,d,h⟩:=ao h;obtain⟨j,i,h⟩:=ao h
  refine⟨_,?_,h⟩
  simp[results,b,g.2 t v f,g.2 u k d,g.2 x j i]
 ·rename_i e
  have b:fn.results=#[]:=by apply zan.1;simpa using e
  exact⟨_,by rw[results_none b],h⟩
 ·obtain⟨m,q,p,o⟩:=J3 (a:=a) c _ _ h
  refine⟨adB m,?_,p⟩
  rw[S2]
  simp only[zce,map_eq_pure_bind,Sem.run_bind]
  rw[q]
  simp only[Result.andThen_ok,Sem.run_pure]
  congr 1
  match m,o with
  | [],_=>rfl
  | [v],_=>rfl
  |v::u::l,_=>simp[adB]
def W1 {E:I5}(hE:E.OK)(N:mJ){f:FuncId}{fn:Func}{args:List Value}{K:KV}{w:World}(p:E.P.funcs[f]? = some fn)(q:(fn.name == "runtime.NumGoroutine")=false)
  (h:Hn E N fn args K w):CP E.P f args K w:=by
 unfold Hn at h
 split at h<;>try exact h.elim
 rename_i c l
 split at h<;>try exact h.elim
 rename_i e b
 have b:=za3 b
 refine⟨⟨fn,p,by rw[l];rfl,q⟩,calls_of_wp p l ?_⟩
 have k:lC fn.ntmps (IQ 0 args) { tmps:=args.toArray++Array.replicate (fn.ntmps-args.toArray.size) undef,defers:=[] }:=by
  refine⟨by simp;omega,λt v m=>?_⟩
  obtain⟨_,a⟩:=Ew args 0 t v m
  rw[zch]at a
  have:t<args.length:=by
   rcases zaE t args.length with i|i
   ·exact i
   ·rw[zaW i]at a;cases a
  rw[zcu]
  simp[this]at a ⊢
  simpa using a
 refine VJ hE N c (xO e) _ _ w _ _ _ _ k h (λg o n j a d=>?_) (λ_ _ _ _ _ _ d=>d.elim) (λg o n j a d=>?_)
 ·exact xe (E:=E) j a.2.1 d
 ·exact xe (E:=E) j a.2.1 d
structure nF (fp:List Nat)(w w':World):Prop where
 os:w'.os=w.os
 tape:w'.tape=w.tape
 output:w'.output=w.output
 size:w.heap.size<=w'.heap.size
 block:∀k,k<w.heap.size->k∉fp->w'.heap[k]? = w.heap[k]?
def nF.refl (fp:List Nat)(w:World):nF fp w w:=⟨rfl,rfl,rfl,LT _,λ_ _ _=>rfl⟩
def nF.trans {fp gp hp:List Nat}{a b c:World}(h:nF fp a b)(h':nF gp b c)(hf:∀k∈fp,k∈hp\/a.heap.size<=k)(hg:∀k∈gp,k∈hp\/a.heap.size<=k):nF hp a c :=
 ⟨h'.os.trans h.os,h'.tape.trans h.tape,h'.output.trans h.output,za5 h.size h'.size,λk hk hn=>by
  have h1:k∉fp:=λhm=>(hf k hm).elim hn (λhh=>by omega)
  have h2:k∉gp:=λhm=>(hg k hm).elim hn (λhh=>by omega)
  exact(h'.block k (zbs hk h.size) h2).trans (h.block k hk h1)⟩
def nF.mono {fp gp:List Nat}{a b:World}(h:nF fp a b)(hf:∀k∈fp,k∈gp):nF gp a b:=⟨h.os,h.tape,h.output,h.size,λk hk hn=>h.block k hk (λhm=>hn (hf k hm))⟩
def nF.alloc (w:World)(c:Array Value)(T:TypeId)(fp:List Nat):nF fp w (w.alloc (.cells c T)):=⟨rfl,rfl,rfl,zs,λk hk _=>by
 show(w.heap.push _)[k]? = _
 rw[zbJ,zn]⟩
def nF.drew (w:World)(fp:List Nat):nF fp w w.drew:=⟨rfl,rfl,rfl,LT _,λ_ _ _=>rfl⟩
def nF.put (w:World)(b:Nat)(cs:List Value):nF [b] w (put w b cs):=⟨rfl,rfl,rfl,zs,λk hk hn=>by
 simp only[S.put,zaX]
 rw[zn (λe=>hn (by simp[e]))]⟩
theorem nF.mem {c:List Nat}{w w':World}(h:nF c w w'){k:Nat}(a:k<w.heap.size)(b:k∉c):mem w' k=mem w k:=by
 unfold S.mem;rw[h.block k a b]
def nF.df {c:List Nat}{w w':World}(h:nF c w w'){k:Nat}{cs:List Value}(a:S.mem w k=some cs)(b:k∉c):S.mem w' k=some cs:=by
 rw[h.mem (Ci a) b];exact a
def ail {w:World}{b:Nat}(h:opn w b=true):b<w.heap.size:=by
 unfold opn at h
 rcases zaE b w.heap.size with a|a
 ·exact a
 ·simp[zct a]at h
theorem nF.opn {c:List Nat}{w w':World}(h:nF c w w'){k:Nat}(a:S.opn w k=true)(b:k∉c):S.opn w' k=true:=by
 rw[<-a];unfold S.opn;rw[h.block k (ail a) b]
def nF.below {fp:List Nat}{w w':World}(h:nF fp w w'){B:Nat}(hB:B<=w.heap.size)(hf:∀k∈fp,B<=k):RowKit.Below B w w' :=
 ⟨h.os,h.tape,h.output,h.size,λk hk=>h.block k (zbs hk hB) (λhm=>by have:=hf k hm;omega)⟩
def nF.b4 {w w':World}(h:nF [] w w'):w.keptBut w' (λ_=>False) :=
 ⟨h.os,h.output,λi hi=>by
  rw[h.block i hi zs]
  cases w.heap[i]? with
  |none=>simp
  |some o=>cases o<;>simp⟩
def nF.ca {w w':World}(h:nF [] w w'){a:Addr}(b:a.block<w.heap.size):w'.frozen? a=w.frozen? a:=by
 unfold World.frozen?
 rw[h.block _ b zs]
end Go.Proofs.YtoealglbimbbmaaGreatDoor.S
namespace Go.Proofs.YtoealglbimbbmaaGreatDoor.S
open Go
def I8 (P:Program)(g:TypeId->Option (List CK)):List Field->Nat->Option (List CK)
 | [],_=>some []
 |f::fs,o=>match g f.type,P.info? f.type with
  |some ks,some i=>if f.name ≠ "_" /\ f.offset=o/\ks.length=i.size/\0<i.size then(match I8 P g fs (o+ks.length)with|some l=>some (ks++l)|none=>none)else none
  |_,_=>none
def pV (P:Program):Nat->TypeId->Option (List CK)
 |0,_=>none
 |n+1,t=>match P.underlying t with
  |some .bool=>some [.b]
  |some (.int k)=>some [.i k]
  |some (.struct fs)=>if P.stoodInHeld t=false then I8 P (pV P n) fs.toList 0 else none
  |_=>none
def Co (P:Program)(t:TypeId)(xs:List Value):Value:=match P.underlying t with
 |some (.struct _)=>.agg xs.toArray
 |_=>xs.headD undef
def xB:∀(k1 k2:List CK)(xs:List Value),lH (k1++k2) xs->lH k1 (xs.take k1.length)/\lH k2 (xs.drop k1.length)
 | [],k2,xs,h=>⟨by simp[lH],by simpa using h⟩
 | .b::k1,k2,xs,h=>by
  cases xs with
  |nil=>simp[lH]at h
  |cons x xs=>cases x<;>simp[lH]at h ⊢;exact xB k1 k2 xs h
 | .i k::k1,k2,xs,h=>by
  cases xs with
  |nil=>simp[lH]at h
  |cons x xs=>cases x<;>simp[lH]at h ⊢;exact⟨⟨h.1,(xB k1 k2 xs h.2).1⟩,(xB k1 k2 xs h.2).2⟩
def qC:∀(k:List CK)(xs:List Value),lH k xs->xs.length=k.length
 | [],[],_=>rfl
 | [],_::_,h=>h.elim
 | .b::k,xs,h=>by
  cases xs with
  |nil=>simp[lH]at h
  |cons x xs=>cases x<;>simp[lH]at h ⊢;exact qC k xs h
 | .i _::k,xs,h=>by
  cases xs with
  |nil=>simp[lH]at h
  |cons x xs=>cases x<;>simp[lH]at h ⊢;exact qC k xs h.2
def xA:∀(k:List CK)(a a' b b':List Value),lH k a->lH k a'->jw (a++b) (a'++b')=(jw a a'&&jw b b')
 | [],[],[],b,b',_,_=>by simp[jw]
 | [],_::_,_,_,_,h,_=>h.elim
 | [],[],_::_,_,_,_,h=>h.elim
 | .b::k,a,a',b,b',h,h'=>by
  cases a with
  |nil=>simp[lH]at h
  |cons x a=>cases a' with
   |nil=>simp[lH]at h'
   |cons y a' =>
    cases x<;>simp[lH]at h
    cases y<;>simp[lH]at h'
    simp[jw,xA k a a' b b' h h',Bool.and_assoc]
 | .i kk::k,a,a',b,b',h,h'=>by
  cases a with
  |nil=>simp[lH]at h
  |cons x a=>cases a' with
   |nil=>simp[lH]at h'
   |cons y a' =>
    cases x<;>simp[lH]at h
    cases y<;>simp[lH]at h'
    simp[jw,xA k a a' b b' h.2 h'.2,Bool.and_assoc]
def KY {P:Program}{t:TypeId}{a:Array Field}(h:P.underlying t=some (.struct a)):P.underlying t=some (.struct (P.fieldsOf t))/\P.fieldsOf t=a:=by
 have:P.fieldsOf t=a:=by unfold Program.fieldsOf;rw[h]
 exact⟨by rw[this,h],this⟩
section
variable {P:Program}
def QS {n:Nat}{t:TypeId}{ks:List CK}(h:pV P n t=some ks):P.underlying t=some .bool\/(∃k,P.underlying t=some (.int k))\/∃fs,P.underlying t=some (.struct fs):=by
 cases n with
 |zero=>simp[pV]at h
 |succ n =>
  simp only[pV]at h
  split at h
  ·exact .inl (by assumption)
  ·exact .inr (.inl ⟨_,by assumption⟩)
  ·exact .inr (.inr ⟨_,by assumption⟩)
  ·cases h
def M3 {n:Nat}{t:TypeId}{ks:List CK}{i:TypeInfo}{xs:List Value}{o:Nat}{w:World}(h:pV P n t=some ks)(hi:P.info? t=some i)(h0:0<i.size)(l:o+i.size<=xs.length) :
  (part t xs.toArray o).run P w=.ok (Co P t ((xs.drop o).take i.size)) w:=by
 have b:∀(d:TypeDesc),P.underlying t=some d->ri d=false->(part t xs.toArray o).run P w=.ok (((xs.drop o).take i.size).headD undef) w:=by
  intro d a e
  simp only[part,Sem.run_bind,te w a,Result.andThen_ok,e,Or,if_false]
  have g:xs[o]? = some xs[o]:=dg zo
  have f:((xs.drop o).take i.size).headD undef=xs[o]:=by
   rw[zav (by omega:o<xs.length)]
   cases c:i.size with
   |zero=>omega
   |succ m=>rw[zcG];rfl
  rw[f];simp[g]
 rcases QS h with a|⟨k,a⟩|⟨j,a⟩
 ·rw[b _ a rfl];simp[Co,a]
 ·rw[b _ a rfl];simp[Co,a]
 ·simp only[part,Sem.run_bind,te w a,Result.andThen_ok,ri,if_true,jl w hi,Sem.run_pure,Co,a]
  congr 2
  apply zan.1
  simp
def Jj {g:TypeId->Option (List CK)}{d m:Nat}(hg:∀t,g t=pV P m t)(ih:∀t ks,pV P m t=some ks->∀(xs ys:List Value)(w:World),lH ks xs->lH ks ys->(Op.equalIn d t (Co P t xs) (Co P t ys)).run P w=.ok (jw xs ys) w)(xs ys:List Value) :
  ∀(fs:List Field) (o:Nat) (ks:List CK) (w:World),I8 P g fs o=some ks->lH ks (xs.drop o)->lH ks (ys.drop o)->(Op.eqFields d xs.toArray ys.toArray fs).run P w=.ok (jw (xs.drop o) (ys.drop o)) w
 | [],o,ks,w,h,h1,h2=>by
  simp only[I8,zay]at h
  subst h
  have e1:xs.drop o=[]:=zah (by have:=qC _ _ h1;simpa using this)
  have e2:ys.drop o=[]:=zah (by have:=qC _ _ h2;simpa using this)
  simp[Op.eqFields,e1,e2,jw]
 |f::fs,o,ks,w,h,h1,h2=>by
  simp only[I8]at h
  split at h<;>try contradiction
  rename_i k1 i e1 hi
  split at h<;>try contradiction
  rename_i hc
  obtain⟨hn,ho,hk,h0⟩:=hc
  split at h<;>try contradiction
  rename_i k2 e2
  simp only[zay]at h
  subst h
  rw[hg]at e1
  obtain⟨a1,a2⟩:=xB _ _ _ h1
  obtain⟨b1,b2⟩:=xB _ _ _ h2
  have l1:=qC _ _ h1
  have l2:=qC _ _ h2
  simp only[zbG,LE]at l1 l2
  have p1:=M3 (xs:=xs) (o:=o) (w:=w) e1 hi h0 zo
  have p2:=M3 (xs:=ys) (o:=o) (w:=w) e1 hi h0 zo
  rw[<-hk]at p1 p2
  subst ho
  simp only[Op.eqFields,ne_eq,hn,not_false_eq_true,if_true,Sem.run_bind,p1,p2,Result.andThen_ok,ih _ _ e1 _ _ _ a1 b1]
  have key:jw (xs.drop f.offset) (ys.drop f.offset)=(jw ((xs.drop f.offset).take k1.length) ((ys.drop f.offset).take k1.length)&&jw (xs.drop (f.offset+k1.length)) (ys.drop (f.offset+k1.length))):=by
   rw[<-xA k1 _ _ _ _ a1 b1]
   have e:∀l:List Value,l.drop f.offset=(l.drop f.offset).take k1.length++l.drop (f.offset+k1.length):=λl=>by rw[<-zbB,zbb]
   rw[<-e xs,<-e ys]
  rw[key]
  cases jw ((xs.drop f.offset).take k1.length) ((ys.drop f.offset).take k1.length)
  ·simp
  ·simp only[zbj,Or,if_false,za6]
   exact Jj hg ih xs ys fs _ k2 w e2 (by rwa [zbB]at a2) (by rwa [zbB]at b2)
def MM:∀(n d:Nat)(t:TypeId)(ks:List CK),pV P n t=some ks->n<=d->∀(xs ys:List Value)(w:World),lH ks xs->lH ks ys->(Op.equalIn d t (Co P t xs) (Co P t ys)).run P w=.ok (jw xs ys) w
 |0,d,t,ks,h,_,_,_,_,_,_=>by simp[pV]at h
 |n+1,0,t,ks,h,hd,_,_,_,_,_=>by omega
 |n+1,d+1,t,ks,h,hd,xs,ys,w,h1,h2=>by
  simp only[pV]at h
  split at h
  ·rename_i e
   simp only[zay]at h
   subst h
   cases xs with
   |nil=>exact h1.elim
   |cons x xs=>cases ys with
    |nil=>exact h2.elim
    |cons y ys =>
     cases x<;>simp[lH]at h1
     cases y<;>simp[lH]at h2
     cases xs<;>simp[lH]at h1
     cases ys<;>simp[lH]at h2
     simp[Co,e,RZ d _ _ e,jw]
  ·rename_i k e
   simp only[zay]at h
   subst h
   cases xs with
   |nil=>exact h1.elim
   |cons x xs=>cases ys with
    |nil=>exact h2.elim
    |cons y ys =>
     cases x<;>simp[lH]at h1
     cases y<;>simp[lH]at h2
     obtain⟨rfl,h1⟩:=h1
     obtain⟨rfl,h2⟩:=h2
     cases xs<;>simp[lH]at h1
     cases ys<;>simp[lH]at h2
     simp[Co,e,ac5 d _ _ _ e,jw]
  ·rename_i fs e
   split at h<;>try contradiction
   rename_i hst
   obtain⟨e1,e2⟩:=KY e
   simp only[Co,e]
   rw[run_equalIn_struct w d t _ _ e1 hst,e2]
   have:=Jj (P:=P) (g:=pV P n) (d:=d) (m:=n) (λ_=>rfl) (λt ks h xs ys w a b=>MM n d t ks h zo xs ys w a b) xs ys fs.toList 0 ks w h (by simpa using h1) (by simpa using h2)
   simpa using this
  ·cases h
def Sq (P:Program)(t:TypeId):Bool:=match P.underlying t with|some (.struct _)=>true|_=>false
def afE {t:TypeId}{ks:List CK}(n:Nat)(hu:Sq P t=true)(h:pV P n t=some ks)(hn:n<=10000)(hg:P.eqGuardType P.depth t=false):aiq P t ks :=
 ⟨hg,λxs ys w h1 h2=>by
  have:=MM n 10000 t ks h hn xs ys w h1 h2
  obtain⟨fs,hu⟩:∃fs,P.underlying t=some (.struct fs):=by
   unfold Sq at hu
   split at hu
   ·exact⟨_,by assumption⟩
   ·cases hu
  simp only[Co,hu]at this
  exact this⟩
end
end Go.Proofs.YtoealglbimbbmaaGreatDoor.S
namespace Go.Proofs.YtoealglbimbbmaaGreatDoor.S
open Go Go.Proofs
def RB:(∀p:Prop,(True/\p)=p)/\(∀p:Prop,(p/\True)=p)/\(∀b:Bool,(b == true)=b)/\(∀b:Bool,(b == false) = !b)/\(∀b:Bool,(true == b)=b)/\(∀b:Bool,(false == b) = !b)/\(∀{_:Decidable True},decide True=true)/\(∀{_:Decidable False},decide False=false)/\((!true)=false)/\((!false)=true)/\(∀b:Bool,(b&&true)=b)/\(∀b:Bool,(true&&b)=b)/\(∀b:Bool,(b&&false)=false)/\(∀b:Bool,(false&&b)=false)/\(∀b:Bool,(b||true)=true)/\(∀b:Bool,(true||b)=true)/\(∀b:Bool,(b||false)=b)/\(∀b:Bool,(false||b)=b)/\(∀b:Bool,(!!b)=b):=by
 refine⟨zs,zs,zs,zs,zs,zs,zs,zs,rfl,rfl,?_,?_,?_,?_,?_,?_,?_,?_,?_⟩
 all_goals(intro b;cases b<;>rfl)
def be (F:World->Prop):World->Prop:=λw=>F w.drew
def andP (A B:World->Prop):World->Prop:=λw=>A w/\B w
def ab:World->Prop:=λ_=>True
def eqP (a b:Value):World->Prop:=λ_=>a=b
def fw (v:Value)(K:KV):World->Prop:=mX v.cells K
def aj (c:Value)(A B:World->Prop):World->Prop:=λw=>Y6 c (A w) (B w)
def fl (v:Value)(want:Bool)(A:KV->World->Prop)(e:Value)(K:KV):World->Prop:=λw =>
 match v with
 | .bool b=>(b=want->A K w)/\(b≠want->K e w)
 |_=>False
def Io (body:(World->Prop)->World->Prop):World->Prop:=λw =>
 ∃(I:List Value->World->Prop) (m:List Value->World->Nat),I [] w/\∀w1,I [] w1->body (λw'=>I [] w'/\m [] w'<m [] w1) w1
def xK (a:Value)(body:(Value->World->Prop)->Value->World->Prop):World->Prop:=λw =>
 ∃(I:List Value->World->Prop) (m:List Value->World->Nat),I [a] w/\∀x w1,I [x] w1->body (λx' w'=>I [x'] w'/\m [x'] w'<m [x] w1) x w1
def PM (a b:Value)(body:(Value->Value->World->Prop)->Value->Value->World->Prop):World->Prop:=λw =>
 ∃(I:List Value->World->Prop) (m:List Value->World->Nat),I [a,b] w/\∀x y w1,I [x,y] w1->body (λx' y' w'=>I [x',y'] w'/\m [x',y'] w'<m [x,y] w1) x y w1
def Yu (a b c:Value)(body:(Value->Value->Value->World->Prop)->Value->Value->Value->World->Prop):World->Prop:=λw =>
 ∃(I:List Value->World->Prop) (m:List Value->World->Nat),I [a,b,c] w/\∀x y z w1,I [x,y,z] w1->body (λx' y' z' w'=>I [x',y',z'] w'/\m [x',y',z'] w'<m [x,y,z] w1) x y z w1
def akG (a b c d:Value)(body:(Value->Value->Value->Value->World->Prop)->Value->Value->Value->Value->World->Prop):World->Prop:=λw =>
 ∃(I:List Value->World->Prop) (m:List Value->World->Nat),I [a,b,c,d] w/\∀x y z u w1,I [x,y,z,u] w1->body (λx' y' z' u' w'=>I [x',y',z',u'] w'/\m [x',y',z',u'] w'<m [x,y,z,u] w1) x y z u w1
abbrev Hl:=Nat->Option (List Value)
abbrev bg:=Hl->Prop
def Vw (h1 h2 h:Hl):Prop:=∀b,(h1 b=none/\h b=h2 b)\/(h2 b=none/\h b=h1 b)
def X3:bg:=λh=>∀b,h b=none
def cj (A B:bg):bg:=λh=>∃h1 h2,A h1/\B h2/\Vw h1 h2 h
def pz {α:Type}(f:α->bg):bg:=λh=>∃x,f x h
def kx (p:Prop):bg:=λh=>p/\X3 h
def fg:List bg->bg
 | []=>X3
 |A::L=>cj A (fg L)
@[irreducible] def ob {κ σ:Type} (R:κ->σ->bg) (k:κ) (s:σ):bg:=R k s
def iw {κ σ:Type}(R:κ->σ->bg)(k:κ)(s:σ):ob R k s=R k s:=by unfold ob;rfl
def lW (b:Nat)(cs:List Value):bg:=λh=>∀b',h b'=if b'=b then some cs else none
abbrev own (b:Nat)(cs:List Value):bg:=ob lW b cs
def Vw.comm {a b c:Hl}(h:Vw a b c):Vw b a c:=λx=>(h x).symm
def So (A B:bg):cj A B=cj B A:=by
 funext h
 exact propext ⟨λ⟨a,b,h1,h2,j⟩=>⟨b,a,h2,h1,j.comm⟩,λ⟨a,b,h1,h2,j⟩=>⟨b,a,h2,h1,j.comm⟩⟩
def un (a b:Hl):Hl:=λx=>match a x with|some v=>some v|none=>b x
def Sb {A B C:bg}{h:Hl}(H:cj A (cj B C) h):cj B (cj A C) h:=by
 obtain⟨a,n,l,⟨b,c,m,j,i⟩,j1⟩:=H
 refine⟨b,un a c,m,⟨a,c,l,j,λx=>?_⟩,λx=>?_⟩
 ·cases d:a x with
  |none=>exact .inl ⟨rfl,by simp[un,d]⟩
  |some v =>
   rcases j1 x with⟨g,_⟩|⟨g,_⟩
   ·rw[d]at g;cases g
   ·rcases i x with⟨k,e⟩|⟨k,e⟩
    ·exact .inr ⟨by rw[<-e,g],by simp[un,d]⟩
    ·exact .inr ⟨k,by simp[un,d]⟩
 ·rcases j1 x with⟨g,e⟩|⟨g,e⟩
  ·rcases i x with⟨k,f⟩|⟨k,f⟩
   ·exact .inl ⟨k,by simp[un,g,e,f]⟩
   ·exact .inr ⟨by simp[un,g,k],by rw[e,f]⟩
  ·rcases i x with⟨k,f⟩|⟨k,f⟩
   ·refine .inl ⟨k,?_⟩
    rw[e]
    cases d:a x with
    |none=>simp[un,d,<-f,g]
    |some v=>simp[un,d]
   ·refine .inl ⟨by rw[<-f,g],?_⟩
    rw[e]
    cases d:a x with
    |none=>simp[un,d,k]
    |some v=>simp[un,d]
def mM (A B C:bg):cj A (cj B C)=cj B (cj A C):=by
 funext h;exact propext ⟨Sb,Sb⟩
def N7 (A B C:bg):cj (cj A B) C=cj A (cj B C):=by
 rw[So,mM,So C B]
def xC (A:bg):cj X3 A=A:=by
 funext h
 refine propext ⟨λ⟨a,b,h1,h2,j⟩=>?_,λH=>⟨λ_=>none,h,λ_=>rfl,H,λx=>.inl ⟨rfl,rfl⟩⟩⟩
 have:h=b:=by
  funext x
  rcases j x with⟨_,e⟩|⟨g,e⟩
  ·exact e
  ·rw[e,h1 x,g]
 rw[this];exact h2
structure bz where
 w:World
 bp:Nat->Option Obj
 min:Nat
abbrev bz.of (w:World):bz:=⟨w,λ_=>none,0⟩
def bz.with (w0:bz)(k:Nat->Option Obj)(m:Nat):bz:=⟨w0.w,λb=>match w0.bp b with|some o=>some o|none=>k b,max w0.min m⟩
structure Hd (w0:bz)(h:Hl)(w:World):Prop where
 step:nF [] w0.w w
 cell:∀b cs,h b=some cs->w0.w.heap.size<=b/\mem w b=some cs/\opn w b=true
 b4:∀b o,w0.bp b=some o->w.heap[b]? = some o/\o.isCells=false
 min:w0.min<=w.heap.size
def St (w0:bz)(L:List bg)(w:World):Prop:=∃h,fg L h/\Hd w0 h w
def G (w0:bz)(L:List bg)(F:World->Prop):Prop:=∀w,St w0 L w->F w
def Hd.sub {w0:bz}{h h':Hl}{w:World}(H:Hd w0 h w)(hs:∀b cs,h' b=some cs->h b=some cs):Hd w0 h' w:=⟨H.step,λb cs hb=>H.cell b cs (hs b cs hb),H.b4,H.min⟩
def Vw.left {a b c:Hl}(j:Vw a b c):∀x cs,a x=some cs->c x=some cs:=λx cs hx=>by
 rcases j x with⟨g,_⟩|⟨_,e⟩
 ·rw[hx]at g;cases g
 ·rw[e,hx]
def Vw.right {a b c:Hl}(j:Vw a b c):∀x cs,b x=some cs->c x=some cs:=j.comm.left
def St.drop {w0:bz}{A:bg}{L:List bg}{w:World}(H:St w0 (A::L) w):St w0 L w:=by
 obtain⟨h,⟨a,b,_,c,j⟩,hd⟩:=H
 exact⟨b,c,hd.sub j.right⟩
def St.nil {w0:bz}{L:List bg}{w:World}(H:St w0 L w):St w0 [] w:=by
 obtain⟨h,_,a⟩:=H
 exact⟨λ_=>none,λ_=>rfl,a.sub (λb d c=>by cases c)⟩
class Sub (L' L:List bg):Prop where
 sub:∀h,fg L h->∃h',fg L' h'/\∀b cs,h' b=some cs->h b=some cs
class YU (L:List bg)(A:bg)(M:outParam (List bg)):Prop where
 eq:fg L=fg (A::M)
instance YU.hd {A:bg}{L:List bg}:YU (A::L) A L:=⟨rfl⟩
instance (priority:=500) YU.tl {A B:bg}{L M:List bg}[p:YU L A M]:YU (B::L) A (B::M):=⟨by
 show cj B (fg L)=cj A (cj B (fg M));rw[p.eq,mM];rfl⟩
instance (priority:=900) Sub.refl {L:List bg}:Sub L L:=⟨λh H=>⟨h,H,λ_ _ e=>e⟩⟩
instance Sub.nil {L:List bg}:Sub [] L:=⟨λh _=>⟨λ_=>none,λ_=>rfl,λb cs e=>by cases e⟩⟩
instance (priority:=800) Sub.pick {A:bg}{L' L M:List bg}[p:YU L A M][s:Sub L' M]:Sub (A::L') L:=⟨λh H=>by
 rw[p.eq]at H
 obtain⟨a,b,ha,hb,j⟩:=H
 obtain⟨b',h1,h2⟩:=s.sub b hb
 refine⟨un a b',⟨a,b',ha,h1,λx=>?_⟩,λx cs hx=>?_⟩
 ·cases hx:a x with
  |none=>exact .inl ⟨rfl,by simp[un,hx]⟩
  |some v =>
   refine .inr ⟨?_,by simp[un,hx]⟩
   rcases j x with⟨g,_⟩|⟨g,_⟩
   ·rw[hx]at g;cases g
   ·cases hb2:b' x with
    |none=>rfl
    |some cs=>rw[h2 x cs hb2]at g;cases g
 ·cases hx2:a x with
  |none=>simp only[un,hx2]at hx;exact j.right x cs (h2 x cs hx)
  |some v=>simp only[un,hx2]at hx;cases hx;exact j.left x _ hx2⟩
instance (priority:=400) Sub.skip {A:bg}{L' L:List bg}[s:Sub L' L]:Sub L' (A::L):=⟨λh ⟨a,b,ha,hb,j⟩=>by
 obtain⟨h',h1,h2⟩:=s.sub b hb
 exact⟨h',h1,λx cs e=>j.right x cs (h2 x cs e)⟩⟩
def St.sub {w0:bz}{L L':List bg}{w:World}[s:Sub L' L](H:St w0 L w):St w0 L' w:=by
 obtain⟨h,a,b⟩:=H
 obtain⟨e,d,c⟩:=s.sub h a
 exact⟨e,d,b.sub c⟩
section
variable {w0:bz}{L:List bg}{F:World->Prop}
def G.sub {L':List bg} [Sub L' L](h:G w0 L' F):G w0 L F:=λw H=>h w H.sub
def G.drop {A:bg}(h:G w0 L F):G w0 (A::L) F:=λw H=>h w H.drop
def eJ {L':List bg}(e:fg L=fg L'):G w0 L F=G w0 L' F:=by unfold G St;rw[e]
def im {A B:bg}:G w0 (cj A B::L) F=G w0 (A::B::L) F:=eJ (N7 _ _ _)
def VP:G w0 (X3::L) F=G w0 L F:=eJ (xC _)
def jc {A B:bg}:G w0 (A::B::L) F=G w0 (B::A::L) F:=eJ (mM _ _ _)
def Pi {A B C:bg}:G w0 (A::B::C::L) F=G w0 (C::A::B::L) F:=eJ (by show cj A (cj B (cj C (fg L)))=cj C (cj A (cj B (fg L)));rw[mM B C,mM A C])
def acA {A B C D:bg}:G w0 (A::B::C::D::L) F=G w0 (D::A::B::C::L) F:=eJ (by show cj A (cj B (cj C (cj D (fg L))))=cj D (cj A (cj B (cj C (fg L))));rw[mM C D,mM B D,mM A D])
def pM {α:Type}{f:α->bg}:G w0 (pz f::L) F=∀x,G w0 (f x::L) F:=by
 apply propext
 constructor
 ·intro H x w ⟨h,⟨a,b,ha,hb,j⟩,hd⟩
  exact H w ⟨h,⟨a,b,⟨x,ha⟩,hb,j⟩,hd⟩
 ·intro H w ⟨h,⟨a,b,⟨x,ha⟩,hb,j⟩,hd⟩
  exact H x w ⟨h,⟨a,b,ha,hb,j⟩,hd⟩
def jk {p:Prop}:G w0 (kx p::L) F=(p->G w0 L F):=by
 apply propext
 constructor
 ·intro H c w ⟨h,hs,hd⟩
  refine H w ⟨h,?_,hd⟩
  have:cj X3 (fg L) h:=by rw[xC];exact hs
  obtain⟨a,b,d,e,j⟩:=this
  exact⟨a,b,⟨c,d⟩,e,j⟩
 ·intro H w ⟨h,⟨a,b,⟨c,ha⟩,hb,j⟩,hd⟩
  exact H c w ⟨b,hb,hd.sub j.right⟩
class ae {κ σ:Type}(L:List bg)(R:κ->σ->bg)(k:κ)(s:outParam σ)(C:outParam (bg->List bg)):Prop where
 ba:L=C (ob R k s)
 en:∃M,∀A,fg (C A)=fg (A::M)
instance ae.hd {κ σ:Type}{R:κ->σ->bg}{k:κ}{s:σ}{L:List bg}:ae (ob R k s::L) R k s (λa=>a::L):=⟨rfl,L,λ_=>rfl⟩
instance (priority:=500) ae.tl {κ σ:Type}{R:κ->σ->bg}{k:κ}{s:σ}{L:List bg}{C:bg->List bg}{X:bg}[i:ae L R k s C]:ae (X::L) R k s (λa=>X::C a) :=
 ⟨congrArg (X::·) i.ba,by
  obtain⟨M,hM⟩:=i.en
  exact⟨X::M,λA=>by show cj X (fg (C A))=cj A (cj X (fg M));rw[hM A,mM];rfl⟩⟩
def ae.bS {κ σ:Type}{R:κ->σ->bg}{k:κ}{s:σ}{C:bg->List bg}(i:ae L R k s C) :
  ∃M,fg L=fg (ob R k s::M)/\(∀A,fg (C A)=fg (A::M))/\(∀B A,fg (B::C A)=fg (B::A::M))/\(∀D B A,fg (D::B::C A)=fg (D::B::A::M)):=by
 obtain⟨M,a⟩:=i.en
 refine⟨M,by rw[i.ba,a],a,λB A=>?_,λD B A=>?_⟩
 ·show cj B (fg (C A))=cj B (fg (A::M));rw[a]
 ·show cj D (cj B (fg (C A)))=cj D (cj B (fg (A::M)));rw[a]
def ae.bi {κ σ:Type}{R:κ->σ->bg}{k:κ}{s:σ}{C:bg->List bg}[i:ae L R k s C]{A':bg}{F':World->Prop}(h:∀M,G w0 (A'::M) F'->G w0 (ob R k s::M) F)(c:G w0 (C A') F'):G w0 L F:=by
 obtain⟨M,b,a,_⟩:=i.bS
 rw[eJ b];exact h M (by rw[<-eJ (a A')];exact c)
def ae.d5 {κ σ:Type}{R:κ->σ->bg}{k:κ}{s:σ}{C:bg->List bg}[i:ae L R k s C]{A':bg}{F':World->Prop}(h:∀M,(∀A,fg (C A)=fg (A::M))->G w0 (A'::M) F'->G w0 (ob R k s::M) F)(c:G w0 (C A') F'):G w0 L F:=by
 obtain⟨M,b,a,_⟩:=i.bS
 rw[eJ b];exact h M a (by rw[<-eJ (a A')];exact c)
def ae.eY {κ σ ι:Type}{R:κ->σ->bg}{k:κ}{s:σ}{C:bg->List bg}[i:ae L R k s C]{P:ι->Prop}{N A':ι->bg}{F':ι->World->Prop}(h:∀M,(∀A,fg (C A)=fg (A::M))->(∀y,P y->G w0 (N y::A' y::M) (F' y))->G w0 (ob R k s::M) F)
  (e:∀y,P y->G w0 (N y::C (A' y)) (F' y)):G w0 L F:=by
 obtain⟨M,a,b,d,_⟩:=i.bS
 rw[eJ a];exact h M b (λy c=>by rw[<-eJ (d (N y) (A' y))];exact e y c)
def ae.ro {κ σ:Type}{R:κ->σ->bg}{k:κ}{s:σ}{C:bg->List bg}[i:ae L R k s C]{F':World->Prop}(h:∀M,G w0 (ob R k s::M) F'->G w0 (ob R k s::M) F)(h':G w0 L F'):G w0 L F :=
 ae.bi (k:=k) (s:=s) (R:=R) (C:=C) (A':=ob R k s) h (by rw[<-i.ba];exact h')
def ae.cb {κ σ ι:Type}{R:κ->σ->bg}{k:κ}{s:σ}{C:bg->List bg}[i:ae L R k s C]{P:ι->Prop}{N:ι->bg}{F':ι->World->Prop}(h:∀M,(∀y,P y->G w0 (N y::ob R k s::M) (F' y))->G w0 (ob R k s::M) F)
  (d:∀y,P y->G w0 (N y::L) (F' y)):G w0 L F:=by
 obtain⟨M,b,_,c,_⟩:=i.bS
 rw[eJ b]
 refine h M λy a=>?_
 rw[<-eJ (c (N y) _),<-i.ba];exact d y a
def ae.cJ {κ σ ι:Type}{R:κ->σ->bg}{k:κ}{s:σ}{C:bg->List bg}[i:ae L R k s C]{A':ι->bg}{F':ι->World->Prop}(h:∀M,(∀y,G w0 (A' y::M) (F' y))->G w0 (ob R k s::M) F)
  (c:∀y,G w0 (C (A' y)) (F' y)):G w0 L F:=by
 obtain⟨M,a,b,_⟩:=i.bS
 rw[eJ a];exact h M (λy=>by rw[<-eJ (b (A' y))];exact c y)
def G.en {κ σ:Type}{R:κ->σ->bg}{k:κ}{s:σ}{C:bg->List bg}[i:ae L R k s C](h:∀M,(∀A,fg (C A)=fg (A::M))->G w0 (ob R k s::M) F):G w0 L F:=by
 obtain⟨M,b,a,_⟩:=i.bS
 rw[eJ b];exact h M a
class Ln {κ σ:Type}(L:List bg)(R:κ->σ->bg)(k:κ)(s:outParam σ)(M:outParam (List bg)):Prop where
 eq:fg L=fg (ob R k s::M)
instance Ln.hd {κ σ:Type}{R:κ->σ->bg}{k:κ}{s:σ}{L:List bg}:Ln (ob R k s::L) R k s L:=⟨rfl⟩
instance (priority:=500) Ln.tl {κ σ:Type}{R:κ->σ->bg}{k:κ}{s:σ}{L M:List bg}{X:bg}[t:Ln L R k s M]:Ln (X::L) R k s (X::M):=⟨by
 show cj X (fg L)=cj (ob R k s) (cj X (fg M));rw[t.eq,mM];rfl⟩
def G.aJ {κ σ:Type}(R:κ->σ->bg)(k:κ){s:σ}{M:List bg}[t:Ln L R k s M](h:G w0 (ob R k s::M) F):G w0 L F:=by rw[eJ t.eq];exact h
theorem St.bo {b:Nat}{cs:List Value}{w:World}(H:St w0 (own b cs::L) w):w0.w.heap.size<=b/\mem w b=some cs/\opn w b=true:=by
 obtain⟨h,⟨a,c,d,e,j⟩,hd⟩:=H
 rw[show own b cs=lW b cs from iw _ _ _]at d
 exact hd.cell b cs (j.left b cs (by rw[d b,zp rfl]))
def St.ce {b:Nat}{cs cs':List Value}{w:World}(H:St w0 (own b cs::L) w):St w0 (own b cs'::L) (put w b cs'):=by
 have l:=H.bo
 obtain⟨h,⟨a,c,m,r,j⟩,hd⟩:=H
 rw[show own b cs=lW b cs from iw _ _ _]at m
 have n:c b=none:=by
  rcases j b with⟨g,_⟩|⟨g,_⟩
  ·rw[m b,zp rfl]at g;cases g
  ·exact g
 refine⟨λx=>if x=b then some cs' else h x,⟨λx=>if x=b then some cs' else none,c,?_,r,λx=>?_⟩,⟨hd.step.trans (nF.put w b cs') zs (by simp[l.1]),λx q d=>?_,λk o p=>⟨by
  have i:=hd.b4 k o p
  simp only[S.put,zaX]
  split
  ·rw[i.1];cases o<;>first|rfl|(have:=i.2;simp[Obj.isCells]at this)
  ·exact i.1,(hd.b4 k o p).2⟩,by simpa using hd.min⟩⟩
 ·rw[show own b cs'=lW b cs' from iw _ _ _];exact λ_=>rfl
 ·by_cases d:x=b
  ·subst d;exact .inr ⟨n,zs⟩
  ·refine .inl ⟨by simp[d],?_⟩
   simp only[zn d]
   rcases j x with⟨_,e⟩|⟨g,e⟩
   ·exact e
   ·rw[e,g,m x,zn d]
 ·by_cases f:x=b
  ·subst f
   simp only[if_true]at d
   cases d
   exact⟨l.1,by rw[U1,zp rfl,l.2.1];rfl,by rw[Uz];exact l.2.2⟩
  ·simp only[zn f]at d
   have:=hd.cell x q d
   exact⟨this.1,by rw[U1,zn f];exact this.2.1,by rw[Uz];exact this.2.2⟩
def St.alloc {w:World}(H:St w0 L w)(cs:List Value)(T:TypeId):St w0 (own w.heap.size cs::L) (w.alloc (.cells cs.toArray T)):=by
 obtain⟨h,j,c⟩:=H
 have m:h w.heap.size=none:=by
  cases e:h w.heap.size with
  |none=>rfl
  |some cs=>have:=Ci (c.cell _ _ e).2.1;omega
 have l:=c.step.size
 refine⟨λx=>if x=w.heap.size then some cs else h x,⟨λx=>if x=w.heap.size then some cs else none,h,?_,j,λx=>?_⟩,⟨c.step.trans (nF.alloc w _ T []) zs zs,λx i b=>?_,λk o f=>⟨by
  have d:=(c.b4 k o f).1
  have g:=(zaQ.1 d).1
  show(w.heap.push _)[k]? = _
  rw[zbJ,zn];exact d,(c.b4 k o f).2⟩,by have:=c.min;simp;omega⟩⟩
 ·rw[show own w.heap.size cs=lW w.heap.size cs from iw _ _ _];exact λ_=>rfl
 ·by_cases b:x=w.heap.size
  ·subst b;exact .inr ⟨m,zs⟩
  ·exact .inl ⟨by simp[b],by simp[b]⟩
 ·by_cases a:x=w.heap.size
  ·subst a
   simp only[if_true]at b
   cases b
   exact⟨l,by rw[R4,zp rfl],by rw[Sh,zp rfl]⟩
  ·simp only[zn a]at b
   have:=c.cell x i b
   exact⟨this.1,by rw[R4,zn a];exact this.2.1,by rw[Sh,zn a];exact this.2.2⟩
def St.drew {w:World}(H:St w0 L w):St w0 L w.drew:=by
 obtain⟨h,d,a⟩:=H
 exact⟨h,d,a.step.trans (nF.drew w []) zs zs,λb c e=>a.cell b c e,a.b4,a.min⟩
def St.step {w:World}(H:St w0 L w):nF [] w0.w w:=H.elim λ_ h=>h.2.step
end
abbrev ptr (b:Nat)(i:Nat):Value:=.pointer (some ⟨b,i,none⟩)
abbrev i64 (n:Int):Value:=.int .i64 n
abbrev u64 (n:Int):Value:=.int .u64 n
class Sa {α:Type}(cs:List α)(j:Nat)(v:outParam α):Prop where
 eq:cs[j]? = some v
instance Sa.z {α:Type}{a:α}{l:List α}:Sa (a::l) 0 a:=⟨rfl⟩
instance Sa.s {α:Type}{a b:α}{l:List α}{n:Nat}[h:Sa l n a]:Sa (b::l) (n+1) a:=⟨by simpa using h.eq⟩
class ax (v:Value)(cs:outParam (List Value)):Prop where
 eq:v.cells.toList=cs
 cQ:∀u∈cs,one u=true
instance {k:IntKind}{n:Int}:ax (.int k n) [.int k n]:=⟨rfl,by simp[one]⟩
instance {b:Bool}:ax (.bool b) [.bool b]:=⟨rfl,by simp[one]⟩
instance {a:Option Addr}:ax (.pointer a) [.pointer a]:=⟨rfl,by simp[one]⟩
instance {t:TypeId}{v:Value}:ax (.iface t v) [.iface t v]:=⟨rfl,by simp[one]⟩
instance:ax .nilIface [.nilIface]:=⟨rfl,by simp[one]⟩
instance {s:ByteArray}:ax (.string s) [.string s]:=⟨rfl,by simp[one]⟩
instance {a:Option Addr}{n c:Nat}:ax (.slice a n c) [.slice a n c]:=⟨rfl,by simp[one]⟩
class NB (cs:List Value):Prop where
 cQ:∀u∈cs,one u=true
instance:NB []:=⟨zs⟩
instance {k:IntKind}{n:Int}{l:List Value}[h:NB l]:NB (.int k n::l):=⟨by simpa[one]using h.cQ⟩
instance {b:Bool}{l:List Value}[h:NB l]:NB (.bool b::l):=⟨by simpa[one]using h.cQ⟩
instance {a:Option Addr}{l:List Value}[h:NB l]:NB (.pointer a::l):=⟨by simpa[one]using h.cQ⟩
instance {a:Option Addr}{n c:Nat}{l:List Value}[h:NB l]:NB (.slice a n c::l):=⟨by simpa[one]using h.cQ⟩
instance (priority:=500){v:Value}{l:List Value}[h:NB l][hv:ax v [v]]:NB (v::l):=⟨by simpa using⟨hv.cQ v zs,h.cQ⟩⟩
instance {cs:List Value}[h:NB cs]:ax (.agg cs.toArray) cs:=⟨rfl,h.cQ⟩
class vW (cs:List Value)(j:Nat)(vs:List Value)(r:outParam (List Value)):Prop where
 eq:LX cs j vs=r
 le:j+vs.length<=cs.length
instance vW.nil {cs:List Value}:vW cs 0 [] cs:=⟨rfl,zs⟩
instance vW.z {c v:Value}{cs vs r:List Value}[h:vW cs 0 vs r]:vW (c::cs) 0 (v::vs) (v::r):=⟨by
 have h1:=h.eq
 have h2:=h.le
 rw[xu _ _ _ (by simpa using h2)]at h1
 rw[xu _ _ _ (by simpa using h2)]
 simpa using h1,by simpa using h.le⟩
instance vW.s {c:Value}{cs vs r:List Value}{j:Nat}[h:vW cs j vs r]:vW (c::cs) (j+1) vs (c::r):=⟨by
 have h1:=h.eq
 have h2:=h.le
 rw[xu _ _ _ h2]at h1
 rw[xu _ _ _ (by simp only[zad];omega)]
 rw[show j+1+vs.length=(j+vs.length)+1 by omega]
 simpa using h1,by have:=h.le;simp only[zad];omega⟩
class ME (vs:List Value)(n:Nat):Prop where
 eq:vs.length=n
instance:ME [] 0:=⟨rfl⟩
instance {v:Value}{vs:List Value}{n:Nat}[h:ME vs n]:ME (v::vs) (n+1):=⟨by simp[h.eq]⟩
class pp (cs:List Value)(j n:Nat)(r:outParam (List Value)):Prop where
 eq:(cs.drop j).take n=r
 le:j+n<=cs.length
instance pp.nil {cs:List Value}:pp cs 0 0 []:=⟨zs,zs⟩
instance pp.z {c:Value}{cs r:List Value}{n:Nat}[h:pp cs 0 n r]:pp (c::cs) 0 (n+1) (c::r):=⟨by have:=h.eq;simpa using this,by have:=h.le;simp only[zad];omega⟩
instance pp.s {c:Value}{cs r:List Value}{j n:Nat}[h:pp cs j n r]:pp (c::cs) (j+1) n r:=⟨by have:=h.eq;simpa using this,by have:=h.le;simp only[zad];omega⟩
section
variable {w0:bz}{L:List bg}{K:KV}{b j n:Nat}{cs:List Value}{C:bg->List bg}
def Mf [i:ae L lW b cs C]:∃M,(∀w,St w0 L w↔St w0 (own b cs::M) w)/\(∀A w,St w0 (C A) w↔St w0 (A::M) w):=by
 obtain⟨M,a,c,_⟩:=i.bS
 exact⟨M,λw=>by unfold St;rw[a],λA w=>by unfold St;rw[c]⟩
def ahD [i:ae L lW b cs C]{v:Value}[c:Sa cs j v]:G w0 L (ad (ptr b j) K)=G w0 L (K v):=by
 obtain⟨M,a,_⟩:=Mf (w0:=w0) (i:=i)
 have:∀w,St w0 L w->(ad (ptr b j) K w↔K v w):=λw H=>by
  have:=((a w).1 H).bo
  simp[ad,this.2.1,c.eq,gm]
 exact propext ⟨λh w H=>(this w H).1 (h w H),λh w H=>(this w H).2 (h w H)⟩
def afz [i:ae L lW b cs C]{r:List Value}[d:pp cs j n r]:G w0 L (br n (ptr b j) K)=G w0 L (K (.agg r.toArray)):=by
 obtain⟨M,c,_⟩:=Mf (w0:=w0) (i:=i)
 have:∀w,St w0 L w->(br n (ptr b j) K w↔K (.agg r.toArray) w):=λw H=>by
  have:=((c w).1 H).bo
  have a:=d.le
  simp[br,this.2.1,d.eq,a]
 exact propext ⟨λh w H=>(this w H).1 (h w H),λh w H=>(this w H).2 (h w H)⟩
def ac8 [i:ae L lW b cs C]{v:Value}{vs:List Value}[l:ax v vs](o:vs.length=n)(m:j+n<=cs.length):G w0 L (fh n (ptr b j) v K)=G w0 (C (own b (LX cs j vs))) (K undef):=by
 obtain⟨M,a,k⟩:=Mf (w0:=w0) (i:=i)
 have c:v.cells.size=n:=by rw[<-o,<-l.eq];simp
 have one:∀w,St w0 L w->(fh n (ptr b j) v K w↔K undef (put w b (LX cs j vs))):=λw H=>by
  have e:=((a w).1 H).bo
  simp only[fh,e.2.1,e.2.2,c,l.eq,true_and]
  exact⟨λh=>h.2.2,λh=>⟨l.cQ,m,h⟩⟩
 apply propext
 constructor
 ·intro h w H
  have g:=(k _ w).1 H
  have f:=(a _).2 (g.ce (cs':=cs))
  have d:=(one _ f).1 (h _ f)
  rw[T6,I7 g.bo.2.1]at d
  exact d
 ·intro h w H
  exact(one w H).2 (h _ ((k _ _).2 ((a w).1 H).ce))
def afR [i:ae L lW b cs C]{v:Value}{vs r:List Value}[e:ax v vs][c:vW cs j vs r][d:ME vs n]:G w0 L (fh n (ptr b j) v K)=G w0 (C (own b r)) (K undef):=by
 have a:=d.eq
 rw[ac8 a (by rw[<-a];exact c.le),c.eq]
def G.new (h:∀b,G w0 (own b cs::L) (K (ptr b 0))):G w0 L (mX cs.toArray K):=λw H T=>h _ _ (H.alloc cs T)
def G.box {v:Value}[a:ax v cs](h:∀b,G w0 (own b cs::L) (K (ptr b 0))):G w0 L (fw v K):=by
 intro w H T
 have:v.cells=cs.toArray:=by rw[<-a.eq]
 rw[this]
 exact h _ _ (H.alloc cs T)
def G.drew {F:World->Prop}(h:G w0 L F):G w0 L (be F):=λw H=>h _ H.drew
def aj5 {A B:World->Prop}:G w0 L (andP A B)=(G w0 L A/\G w0 L B):=propext ⟨λh=>⟨λw H=>(h w H).1,λw H=>(h w H).2⟩,λh w H=>⟨h.1 w H,h.2 w H⟩⟩
def air:G w0 L ab=True:=eq_true λ_ _=>trivial
def ajz {v:Value}:G w0 L (eqP v v)=True:=eq_true λ_ _=>rfl
def G.andP {A B:World->Prop}(h1:G w0 L A)(h2:G w0 L B):G w0 L (andP A B):=λw H=>⟨h1 w H,h2 w H⟩
def oJ {B:World->Prop}:S.andP ab B=B:=by funext w;simp[S.andP,ab]
def G.cond {t:Bool}{A B:World->Prop}(h1:t=true->G w0 L A)(h2:t=false->G w0 L B):G w0 L (aj (.bool t) A B):=λw H=>⟨λe=>h1 e w H,λe=>h2 e w H⟩
def UJ {A B:World->Prop}:aj (.bool true) A B=A:=by funext w;simp[aj,Y6]
def Us {A B:World->Prop}:aj (.bool false) A B=B:=by funext w;simp[aj,Y6]
def D0 {A:KV->World->Prop}{e:Value}{t:Bool}:fl (.bool t) t A e K=A K:=by funext w;simp[fl]
def F5 {A:KV->World->Prop}{e:Value}:fl (.bool true) false A e K=K e:=by funext w;simp[fl]
def FT {A:KV->World->Prop}{e:Value}:fl (.bool false) true A e K=K e:=by funext w;simp[fl]
def ae7 {A:KV->World->Prop}{t:Bool}:gW (.bool t) t A K=A K:=by funext w;simp[gW,Y7]
def ZC {A:KV->World->Prop}:gW (.bool true) false A K=K undef:=by funext w;simp[gW,Y7]
def aaq {A:KV->World->Prop}:gW (.bool false) true A K=K undef:=by funext w;simp[gW,Y7]
def ai2 {A:KV->World->Prop}{t:Bool}:gW undef t A K=K undef:=by funext w;simp[gW,Y7,undef]
def ug {v x:Value}:nf v x (.bool false) K=fl v true (λK=>K x) (.bool false) K:=by
 funext w;cases v<;>simp[nf,fl];rename_i t;cases t<;>simp
def zS {v x:Value}:nf v (.bool true) x K=fl v false (λK=>K x) (.bool true) K:=by
 funext w;cases v<;>simp[nf,fl];rename_i t;cases t<;>simp
def qm {v e:Value}{t:Bool}{A:KV->World->Prop}{B:Value->KV->World->Prop}:gW v t A (λy=>fl v t (B y) e K)=fl v t (λK=>A (λy=>B y K)) e K:=by
 cases v
 case bool s=>cases s<;>cases t<;>simp only[ae7,ZC,aaq,D0,F5,FT]
 all_goals(funext w;simp[gW,Y7,fl])
def qu {v:Value}{t:Bool}{A:KV->World->Prop}{B:Value->KV->World->Prop}{R:Value->World->Prop}:gW v t A (λy=>gW v t (B y) R)=gW v t (λK=>A (λy=>B y K)) R:=by
 cases v
 case bool s=>cases s<;>cases t<;>simp only[ae7,ZC,aaq]
 all_goals(funext w;simp[gW,Y7])
def zt {v e:Value}{t s:Bool}{A:KV->World->Prop}{B:Value->KV->World->Prop}{D:Value->Value->KV->World->Prop} :
  gW v t A (λb=>gW b s (B b) (λc=>fl v t (D b c) e K))=fl v t (λK=>A (λb=>gW b s (B b) (λc=>D b c K))) e K:=by
 cases v
 case bool u=>cases u<;>cases t<;>simp only[ae7,ZC,aaq,ai2,D0,F5,FT]
 all_goals(funext w;simp[gW,Y7,fl,undef])
def XP {p q:Bool}:fl (.bool p) true (λK=>K (.bool q)) (.bool false) K=K (.bool (p&&q)):=by funext w;cases p<;>simp[fl]
def aby {p q:Bool}:fl (.bool p) false (λK=>K (.bool q)) (.bool true) K=K (.bool (p||q)):=by funext w;cases p<;>simp[fl]
def G.all {p:Bool}(q:Bool){A:KV->World->Prop}(a:p=true->∀K,G w0 L (K (.bool q))->G w0 L (A K))(h:G w0 L (K (.bool (p&&q)))):G w0 L (fl (.bool p) true A (.bool false) K):=by
 cases p
 ·rw[FT];simpa using h
 ·rw[D0];exact a rfl K (by simpa using h)
def G.any {p:Bool}(q:Bool){A:KV->World->Prop}(a:p=false->∀K,G w0 L (K (.bool q))->G w0 L (A K))(h:G w0 L (K (.bool (p||q)))):G w0 L (fl (.bool p) false A (.bool true) K):=by
 cases p
 ·rw[D0];exact a rfl K (by simpa using h)
 ·rw[F5];simpa using h
end
def least {P:Nat->Prop}(h:∃n,P n):∃n,P n/\∀m,m<n->¬P m:=by
 obtain⟨n,f⟩:=h
 induction n using Nat.strongRecOn with
 |_ n ih =>
  by_cases a:∃m,m<n/\P m
  ·obtain⟨m,b,c⟩:=a
   exact ih m b c
  ·exact⟨n,f,λm d e=>a ⟨m,d,e⟩⟩
def FO {σ:Type}(R:σ->List Value->World->Prop)(μ:σ->Nat):∃m:List Value->World->Nat,∀vs w1,(∃s,R s vs w1)->∃s,R s vs w1/\∀vs' w' s',R s' vs' w'->μ s'<μ s->m vs' w'<m vs w1:=by
 classical
 refine⟨λvs w=>if h:∃n s,R s vs w/\μ s=n then(least h).choose else 0,λvs w1 e=>?_⟩
 have h:∃n s,R s vs w1/\μ s=n:=e.elim λs h=>⟨_,s,h,rfl⟩
 obtain⟨⟨s,d,f⟩,_⟩:=(least h).choose_spec
 refine⟨s,d,λvs' w' s' c g=>?_⟩
 have a:∃n s,R s vs' w'/\μ s=n:=⟨_,s',c,rfl⟩
 simp only[dif_pos h,dif_pos a]
 have:=(least a).choose_spec.2
 rcases zaE (μ s') (least a).choose with b|b
 ·exact absurd ⟨s',c,rfl⟩ (this _ b)
 ·omega
section
variable {w0:bz}{L:List bg}
def G.cV {σ:Type}  (i:σ->List bg)(P:σ->Prop)(μ:σ->Nat)(s0:σ){o:(World->Prop)->World->Prop}  (k:G w0 (i s0)=G w0 L)(l:P s0)
  (n:∀s,P s->∀J:World->Prop,(∀s',P s'->μ s'<μ s->G w0 (i s') (J ))->G w0 (i s) (o J )):G w0 L (Io  o):=by
 rw[<-k]
 intro w H
 obtain⟨m,h⟩:=FO (λs c w=>P s/\c=[]/\St w0 (i s) w) μ
 refine⟨λc w=>∃s,P s/\c=[]/\St w0 (i s) w,m,⟨s0,l,rfl,H⟩,?_⟩
 intro  w1 hI
 obtain⟨s,⟨f,g,e⟩,hlt⟩:=h _ _ hI
 clear g
 exact n s f _ (λs' b a j d=>⟨⟨s',b,rfl,d⟩,hlt _ _ s' ⟨b,rfl,d⟩ a⟩) w1 e
def G.a8 {σ:Type}(l:σ->Value)(k:σ->List bg)(P:σ->Prop)(μ:σ->Nat)(s0:σ){a0:Value}{t:(Value->World->Prop)->Value->World->Prop}(h0:a0=l s0)(p:G w0 (k s0)=G w0 L)(q:P s0)
  (r:∀s,P s->∀J:Value->World->Prop,(∀s',P s'->μ s'<μ s->G w0 (k s') (J (l s')))->G w0 (k s) (t J (l s))):G w0 L (xK a0 t):=by
 subst h0
 rw[<-p]
 intro w H
 obtain⟨m,j⟩:=FO (λs c w=>P s/\c=[l s]/\St w0 (k s) w) μ
 refine⟨λc w=>∃s,P s/\c=[l s]/\St w0 (k s) w,m,⟨s0,q,rfl,H⟩,?_⟩
 intro o i f
 obtain⟨s,⟨h,d,g⟩,hlt⟩:=j _ _ f
 simp only[zbK,and_true]at d
 subst d
 exact r s h _ (λs' b a n e=>⟨⟨s',b,rfl,e⟩,hlt _ _ s' ⟨b,rfl,e⟩ a⟩) i g
def G.du {σ:Type}(v0:σ->Value)(P:σ->Prop)(μ:σ->Nat)(s0:σ){a0:Value}{body:(Value->World->Prop)->Value->World->Prop}(h0:a0=v0 s0)(hP:P s0)
  (hr:∀s,P s->∀J:Value->World->Prop,(∀s',P s'->μ s'<μ s->G w0 L (J (v0 s')))->G w0 L (body J (v0 s))):G w0 L (xK a0 body) :=
 G.a8 v0 (λ_=>L) P μ s0 h0 rfl hP hr
def G.bN {σ:Type}(n:σ->Value)(k:σ->Value)(l:σ->List bg)(P:σ->Prop)(μ:σ->Nat)(s0:σ){a0 x:Value}{v:(Value->Value->World->Prop)->Value->Value->World->Prop}(h0:a0=n s0)(f:x=k s0)(r:G w0 (l s0)=G w0 L)(t:P s0)
  (u:∀s,P s->∀J:Value->Value->World->Prop,(∀s',P s'->μ s'<μ s->G w0 (l s') (J (n s') (k s')))->G w0 (l s) (v J (n s) (k s))):G w0 L (PM a0 x v):=by
 subst h0 f
 rw[<-r]
 intro w H
 obtain⟨m,j⟩:=FO (λs c w=>P s/\c=[n s,k s]/\St w0 (l s) w) μ
 refine⟨λc w=>∃s,P s/\c=[n s,k s]/\St w0 (l s) w,m,⟨s0,t,rfl,H⟩,?_⟩
 intro o p i g
 obtain⟨s,⟨f,d,h⟩,hlt⟩:=j _ _ g
 simp only[zbK,and_true]at d
 obtain⟨rfl,rfl⟩:=d
 exact u s f _ (λs' b a q e=>⟨⟨s',b,rfl,e⟩,hlt _ _ s' ⟨b,rfl,e⟩ a⟩) i h
def G.et {σ:Type}(o:σ->Value)(k:σ->Value)(l:σ->Value)(n:σ->List bg)(P:σ->Prop)(μ:σ->Nat)(s0:σ){a0 z a2:Value}{y:(Value->Value->Value->World->Prop)->Value->Value->Value->World->Prop}(h0:a0=o s0)(f:z=k s0)(c:a2=l s0)(u:G w0 (n s0)=G w0 L)(v:P s0)
  (x:∀s,P s->∀J:Value->Value->Value->World->Prop,(∀s',P s'->μ s'<μ s->G w0 (n s') (J (o s') (k s') (l s')))->G w0 (n s) (y J (o s) (k s) (l s))):G w0 L (Yu a0 z a2 y):=by
 subst h0 f c
 rw[<-u]
 intro w H
 obtain⟨m,j⟩:=FO (λs d w=>P s/\d=[o s,k s,l s]/\St w0 (n s) w) μ
 refine⟨λd w=>∃s,P s/\d=[o s,k s,l s]/\St w0 (n s) w,m,⟨s0,v,rfl,H⟩,?_⟩
 intro p r q i g
 obtain⟨s,⟨f,c,h⟩,hlt⟩:=j _ _ g
 simp only[zbK,and_true]at c
 obtain⟨rfl,rfl,rfl⟩:=c
 exact x s f _ (λs' b a t e=>⟨⟨s',b,rfl,e⟩,hlt _ _ s' ⟨b,rfl,e⟩ a⟩) i h
def G.eo {σ:Type}  (Ls:σ->List bg)(P:σ->Prop){J:World->Prop}{B:(World->Prop)->World->Prop}(hJ:∀s,P s->G w0 (Ls s) (J ))
  (h:∀J:World->Prop,(∀s,P s->G w0 (Ls s) (J ))->G w0 L (B J)):G w0 L (aw J B):=h J hJ
def G.aU {J:World->Prop}{B:(World->Prop)->World->Prop}(h:G w0 L (B J)):G w0 L (aw J B):=h
def G.dN {σ:Type}(v0:σ->Value)(Ls:σ->List bg)(P:σ->Prop){J:Value->World->Prop}{B:(Value->World->Prop)->World->Prop}(hJ:∀s,P s->G w0 (Ls s) (J (v0 s)))
  (h:∀J:Value->World->Prop,(∀s,P s->G w0 (Ls s) (J (v0 s)))->G w0 L (B J)):G w0 L (cr J B):=h J hJ
theorem G.bk {J:Value->World->Prop}{B:(Value->World->Prop)->World->Prop}(h:G w0 L (B J)):G w0 L (cr J B):=h
def G.ea {σ:Type}(v0:σ->Value)(v1:σ->Value)(Ls:σ->List bg)(P:σ->Prop){J:Value->Value->World->Prop}{B:(Value->Value->World->Prop)->World->Prop}(hJ:∀s,P s->G w0 (Ls s) (J (v0 s) (v1 s)))
  (h:∀J:Value->Value->World->Prop,(∀s,P s->G w0 (Ls s) (J (v0 s) (v1 s)))->G w0 L (B J)):G w0 L (xz J B):=h J hJ
def G.b9 {J:Value->Value->World->Prop}{B:(Value->Value->World->Prop)->World->Prop}(h:G w0 L (B J)):G w0 L (xz J B):=h
end
end Go.Proofs.YtoealglbimbbmaaGreatDoor.S
namespace Go.Proofs.YtoealglbimbbmaaGreatDoor.S
open Go Go.RowKit
abbrev Wd (ro:Option Nat):Fence:={ Fence.wide with round:=ro }
abbrev Zw:Op->Bool
 | .defer _=>true
 |_=>false
abbrev Er:List Oper->Bool
 | []=>true
 |o::l=>match Zw o.op with|true=>false|false=>Er l
abbrev z6:Code->Bool
 | .region _ ops _=>Er ops.toList
 | .seq a b | .cond _ a b=>z6 a&&z6 b
 | .block _ b=>z6 b
 | .loop _=>false
 |_=>true
def RI (o:Oper)(l:List Oper):Er (o::l)=match Zw o.op with|true=>false|false=>Er l:=rfl
def Xf (c:Call):Zw (.defer c)=true:=rfl
def RX (l:List Oper):Er l=true->∀o∈l,∀c,o.op≠.defer c:=by
 induction l with
 |nil=>intro _ o d;cases d
 |cons o l ih =>
  intro h x a c e
  rw[RI]at h
  generalize b:Zw o.op=t at h
  cases t
  ·rcases zaa.1 a with a|a
   ·rw[<-a,e,Xf]at b;cases b
   ·exact ih h x a c e
  ·cases h
section
variable {P:Program}{ro:Option Nat}{m:Nat}{ops:Array Oper}{Q:Exit->Act->World->Prop}
def ads {f:FuncId}{args:Array Value}{w:World}{R:Ending->World->Prop}(h:Calls P f args w R):CallsIn (Wd ro) m P f args w R:=(callsIn_wide (n:=m)).2 h
def agl {row:String}{args:Array Value}{w:World}{R:Value->World->Prop}(h:Rows P row args w R):RowsIn (Wd ro) m P row args w R :=
 λc cs _=>let ⟨v,w',r,s⟩:=h c cs;⟨v,w',r,stepsIn_wide.2 s⟩
def Zt {o:Oper}{a:Act}{w:World}{next g:Act->World->Prop}(hd:∀c,o.op≠.defer c)(d:∀a w,next a w->g a w)(h:o.wp P a w next Q):o.wpIn (Wd ro) m P a w g Q:=by
 refine⟨λ_ _=>trivial,?_⟩
 rw[Oper.semAt_eq _ _ _ hd]
 unfold Oper.wp at h
 generalize(execOp a.eval o).run P w=r at *
 cases r with
 |ok x w' =>
  cases x<;>simp only[Oper.upon]at h<;>simp only[Oper.uponIn]
  all_goals first
   |exact d _ _ h
   |exact⟨(λh=>by cases h),(ads h).mono (λe f b=>by cases e<;>first|exact d _ _ b|exact b)⟩
   |exact⟨(λh=>by cases h),(agl h).mono (λ_ _ b=>d _ _ b)⟩
 |halt x w'=>cases x<;>simp only[Oper.upon]at h<;>simp only[Oper.uponIn]<;>exact h
def ZE (hno:¬LetsOut Q):∀(l:List Oper),(∀o∈l,∀c,o.op≠.defer c)->∀(a:Act)(w:World),wpList P ops Q l a w->wpListIn (Wd ro) m P ops Q l a w
 | [],_,a,w,h=>h
 |o::l,hd,a,w,h=>by
  have ih:=ZE hno l (λo' ho'=>hd o' (gr _ ho'))
  unfold wpList at h
  unfold wpListIn
  split
  ·rename_i hw
   rw[zp hw]at h
   rcases h with h|h
   ·exact Zt (hd o zs) ih h
   ·exact absurd h.2 hno
  ·rename_i hw
   rw[zn hw]at h
   exact⟨λ_ _=>trivial,ih _ _ h⟩
def TX (hno:¬LetsOut Q)(hd:∀o∈ops.toList,∀c,o.op≠.defer c):∀(fuel:Nat)(listed:Array Bool)(a:Act)(w:World),wpAny P .any ops Q fuel listed a w->wpAnyIn (Wd ro) m P .any ops Q fuel listed a w
 |0,_,_,_,h=>h
 |fuel+1,listed,a,w,h=>⟨h.1,λi hi=>by
  have h:=h.2 i hi
  unfold wpOp at h
  unfold wpOpIn
  split at h
  ·rename_i ho;simp only[ho];exact TX hno hd fuel _ a w h
  ·rename_i o ho
   simp only[ho]
   split
   ·rename_i hw
    simp only[hw,if_true]at h
    rcases h with h|h
    ·exact Zt (hd o (Ok (l:=ops.toList) (i:=i) (by simpa using ho))) (TX hno hd fuel _) h
    ·exact absurd h.2 hno
   ·rename_i hw
    simp only[hw]at h
    exact⟨λ_ _=>trivial,TX hno hd fuel _ _ _ h⟩⟩
end
def ait (Q:Exit->Act->World->Prop):Exit->Act->World->Prop
 | .normal,a,w=>Q .normal a w
 |_,_,_=>False
def aak (Q:Exit->Act->World->Prop):¬LetsOut (ait Q):=λ⟨_,_,h⟩=>h
def ZG {Q:Exit->Act->World->Prop}:∀e a w,ait Q e a w->Q e a w:=λe a w h=>by cases e<;>first|exact h|exact h.elim
def tL {E:I5}(hE:E.OK)(N:mJ){n:Nat}(ro:Option Nat)(m:Nat):∀(c:Code)(_:z6 c=true)(_:∀d∈mZ c,d<n)(fr:Fr)(a:Act)(w:World)(k:KF)(ex:Nat->KF)(C:KF)(Q:Exit->Act->World->Prop),lC n fr a->zy E N c fr k ex C w ->
  (∀fr' a' w',lC n fr' a'->kH (mZ c) a a'->k fr' w'->Q .normal a' w') ->
  (∀id fr' a' w',lC n fr' a'->kH (mZ c) a a'->ex id fr' w'->Q (.exit id) a' w') ->
  (∀fr' a' w',lC n fr' a'->kH (mZ c) a a'->C fr' w'->Q .ret a' w')->c.wpIn (Wd ro) m E.P Q a w:=by
 intro c
 induction c with
 |skip=>intro f r fr a w k ex C Q e h B u z;exact wpIn_skip (B fr a w e (kH.refl _ _) h)
 |ret=>intro f r fr a w k ex C Q e h B u z;exact wpIn_ret (z fr a w e (kH.refl _ _) h)
 |exit id=>intro f r fr a w k ex C Q e h B u z;exact wpIn_exit (u id fr a w e (kH.refl _ _) h)
 |region id ops draw =>
  intro f r fr a w k ex C Q e h B u z
  have M:=RX ops.toList f
  cases draw with
  |false =>
   obtain⟨ks,U,h⟩:=oC h
   have e:=e.cut U
   refine wpIn_mono (wpIn_region_list (ZE (aak Q) _ M a w ?_)) ZG
   exact Ab hE (R:=kH (mZ (.region id ops false))) (kH.refl _) (λ_ _ _=>kH.trans) _ (λo S a v=>kH.put a o.dst v (λd A=>mI S A)) (λo S d A=>r d (mI S A)) _ a w k e h B
  |true =>
   obtain⟨ks,U,h⟩:=oC h
   have e:=e.cut U
   simp only[Qr]at h
   split at h<;>try exact h.elim
   rename_i W
   obtain⟨Y,Z,ac,A⟩:=Mt W
   refine wpIn_mono (wpIn_region_any hE.eW (TX (aak Q) M _ _ _ _ (HM (ms:=(mkD ops (N.bv id)).ms) _ [] _ _ _ ?_))) ZG
   refine(Qq hE (λi o S d A=>r d (mI (Ok (l:=ops.toList) (i:=i) (by simpa using S)) A)) Z Y (Q:=ait Q) (λc a w h=>h) (R:=kH (mZ (.region id ops true))) (kH.refl _) (λ_ _ _=>kH.trans)
    (λi o S a v=>kH.put a o.dst v (λd A=>mI (Ok (l:=ops.toList) (i:=i) (by simpa using S)) A)) (mkD ops (N.bv id)).bv.bv true _ [] _ a w.drew k _ ac ?_ e zs h ?_).1 rfl A
   ·intro T o I hl
    rw[rT]at hl;cases hl
   ·intro fr' a' w' p j g;exact B fr' a' w' p j g
 |seq x y ihx ihy =>
  intro f r fr a w k ex C Q e h B u z
  simp only[z6,GE]at f
  refine wpIn_seq (ihx f.1 (λd A=>r d (zam _ A)) fr a w _ ex C _ e h (λfr' a' w' p j g=>?_) (λid fr' a' w' p j g=>?_) (λfr' a' w' p j g=>?_))
  ·have Y:kH (mZ (.seq x y)) a a':=j.mono λt s=>zam _ s
   refine ihy f.2 (λd A=>r d (zak _ A)) fr' a' w' k ex C Q p g (λq D H L K X=>?_) (λid q D H L K X=>?_) (λq D H L K X=>?_)
   ·exact B q D H L (Y.trans (K.mono λt s=>zak _ s)) X
   ·exact u id q D H L (Y.trans (K.mono λt s=>zak _ s)) X
   ·exact z q D H L (Y.trans (K.mono λt s=>zak _ s)) X
  ·exact u id fr' a' w' p (j.mono λt s=>zam _ s) g
  ·exact z fr' a' w' p (j.mono λt s=>zam _ s) g
 |cond cnd x y ihx ihy =>
  intro f r fr a w k ex C Q e h B u z
  simp only[z6,GE]at f
  obtain⟨v,hv,h⟩:=ao h
  obtain⟨T,h,I⟩:=FR h e
  have F:∀fr' a' w',lC n fr' a'->kH (mZ x++mZ y) a a'->T fr' w'->Q .normal a' w':=λfr' a' w' p j g=>by
   obtain⟨q,L,K⟩:=I fr' a' w' p j g
   exact B q a' w' L j K
  obtain⟨t,rfl⟩:∃t,v=.bool t:=by cases v<;>first|exact⟨_,rfl⟩|exact h.elim
  refine wpIn_cond_split (e.rd _ _ hv) (λs=>?_) (λs=>?_)
  ·exact ihx f.1 (λd A=>r d (zam _ A)) fr a w T ex C Q e (h.1 s) (λfr' a' w' p j g=>F fr' a' w' p (j.mono λt s=>zam _ s) g) (λid fr' a' w' p j g=>u id fr' a' w' p (j.mono λt s=>zam _ s) g)
    (λfr' a' w' p j g=>z fr' a' w' p (j.mono λt s=>zam _ s) g)
  ·exact ihy f.2 (λd A=>r d (zak _ A)) fr a w T ex C Q e (h.2 s) (λfr' a' w' p j g=>F fr' a' w' p (j.mono λt s=>zak _ s) g) (λid fr' a' w' p j g=>u id fr' a' w' p (j.mono λt s=>zak _ s) g)
    (λfr' a' w' p j g=>z fr' a' w' p (j.mono λt s=>zak _ s) g)
 |block id b ih =>
  intro f r fr a w k ex C Q e h B u z
  obtain⟨T,h,I⟩:=FR (J:=N.cL id) (ds:=mZ b) h e
  have F:∀fr' a' w',lC n fr' a'->kH (mZ b) a a'->T fr' w'->Q .normal a' w':=λfr' a' w' p j g=>by
   obtain⟨q,L,K⟩:=I fr' a' w' p j g
   exact B q a' w' L j K
  refine wpIn_block (ih f r fr a w T _ C _ e h (λfr' a' w' p j g=>F fr' a' w' p j g) (λO fr' a' w' p j g=>?_) (λfr' a' w' p j g=>z fr' a' w' p j g))
  simp only[Exit.inBlock]
  by_cases V:O=id
  ·subst V;rw[zp rfl];simp only[zci]at g;exact F fr' a' w' p j g
  ·have hb:Nat.beq O id=false:=by rw[zcd];intro hb;exact V (zaA hb)
   rw[zn V];simp only[hb]at g;exact u O fr' a' w' p j g
 |loop b ih=>intro f;cases f
 |_=>intros;rename_i h _ _ _;exact h.elim
def BR (W:World)(v:Value)(rows:List Nat):Prop :=
 ∃oa cap,v=.slice oa rows.length cap/\∀i p,rows[i]? = some p->∃b o cs,oa=some ⟨b,o,none⟩/\mem W b=some cs/\cs[o+i]? = some (.pointer (some ⟨p,0,none⟩))
def pD (n:Nat):List (Fin n):=(List.finRange n).reverse
def R6 (D:Nat)(K:KV):KV:=λv W=>W.heap[D]? = some (.deferred (some []))/\K v (W.putObj D (.deferred none))
def J9 (gf:Nat)(gv:Value)(body:(World->Prop)->(World->Prop)->Value->Value->World->Prop)(done ret:KV->World->Prop)(K:KV):World->Prop:=λw =>
 ∃(c:Nat) (v:Value) (rows:List Nat) (I Ix:List (Fin rows.length)->World->Prop),
  gv=.func (.func gf) #[] #[.pointer (some ⟨c,0,none⟩)]/\rows.length<=1000000/\OwnFrom w.heap.size I/\OwnFrom w.heap.size Ix /\
  (∀pre W,I pre W->mem W c=some [v]/\BR W v rows)/\I [] w /\
  (∀pre (k:Fin rows.length) W,I pre W->body (λW'=>KeepsFrom w.heap.size W W'/\I (pre++[k]) W') (λW'=>KeepsFrom w.heap.size W W'/\Ix (pre++[k]) W') (.int .i64 k.1) (.pointer (some ⟨rows[k.1],0,none⟩)) W) /\
  (∀D W,w.heap.size<=D->I (pD rows.length) W->W.heap[D]? = some (.deferred (some []))->done (R6 D K) W) /\
  (∀pre D W,w.heap.size<=D->pre <+: pD rows.length->Ix pre W->W.heap[D]? = some (.deferred (some []))->ret (R6 D K) W)
def KpB (c:Nat)(v:Value)(rows:List Nat)(W W':World):Prop:=(mem W c=some [v]->mem W' c=some [v])/\(BR W v rows->BR W' v rows)
def YC (P:Program)(gf:Nat):Prop:=∀(m:Nat)(c:Nat)(v:Value)(rows:List Nat)(w0:World),mem w0 c=some [v]->BR w0 v rows->rows.length<=1000000 ->
 SeqStopsK (Wd none) m P gf #[.pointer (some ⟨c,0,none⟩)] (λk:Fin rows.length=>#[.int .i64 k.1,.pointer (some ⟨rows[k.1],0,none⟩)]) (KpB c v rows) (λxs=>xs=pD rows.length) (λpre=>pre <+: pD rows.length) rows.length w0
abbrev afJ:Code->Bool
 | .seq a b | .cond _ a b=>afJ a||afJ b
 | .block _ b | .loop b=>afJ b
 | .rangeFunc ..=>true
 |_=>false
noncomputable abbrev agn (N:mJ) (c:Code) (fr:Fr):Option Fr:=match c with
 | .region id ops false=>match tj fr (N.bp id)with
  |some ks=>match ops.toList with
   | [⟨some d,.assign (.tmp s),_,_,_,none⟩]=>match pR (lI [] (N.bp id) ks) s with
    |some v=>some ((d,some v)::lI [] (N.bp id) ks)
    |none=>none
   |_=>none
  |none=>none
 |_=>none
noncomputable abbrev SR (E:I5) (N:mJ) (n gf:Nat):Code->Fr->(KV->KF)->(KV->KF)->KV->World->Prop
 | .seq a b,fr,kk,kr,K,w=>match afJ a with
  |true=>match z6 b with
   |true=>SR E N n gf a fr (λK fr w=>zy E N b fr (λfr w=>kk K fr w) (λ_ _ _=>False) (λfr w=>kr K fr w) w) kr K w
   |false=>False
  |false=>match z6 a with
   |true=>zy E N a fr (λfr w=>SR E N n gf b fr kk kr K w) (λ_ _ _=>False) (λfr w=>kr K fr w) w
   |false=>False
 | .block _ (.rangeFunc (.tmp g) ps assign body),fr,kk,kr,K,w=>match ps.toList,z6 assign,z6 body,Ep n (mZ assign++mZ body)with
  | [p,q],true,true,true=>match Nat.blt p n,Nat.blt q n with
   |true,true=>dq (pR fr g) λgv=>J9 gf gv (λJ R x y w=>match agn N assign ((q,some y)::(p,some x)::fr)with
     |some fr'=>zy E N body fr' (λ_ w=>J w) (λ_ _ _=>False) (λ_ w=>R w) w
     |none=>False) (λK w=>kk K fr w) (λK w=>kr K fr w) K w
   |_,_=>False
  |_,_,_,_=>False
 |_,_,_,_,_,_=>False
def abB {E:I5}{N:mJ}{c:Code}{fr n:Fr}(h:agn N c fr=some n)(k:KF)(ex:Nat->KF)(o:KF)(w:World)(m:k n w):zy E N c fr k ex o w:=by
 unfold agn at h
 split at h<;>try cases h
 rename_i e b
 split at h<;>try cases h
 rename_i f g
 split at h<;>try cases h
 rename_i d s T j l a
 split at h<;>try cases h
 rename_i v i
 show KT (tj fr (N.bp e)) (λf=>Oe E b.toList b.toList (lI [] (N.bp e) f) k w)
 rw[g,a]
 show dq (pR (lI [] (N.bp e) f) s) (λv=>k ((d,some v)::lI [] (N.bp e) f) w)
 rw[i]
 exact m
def mark (D:Nat):Deferred:={ target:=.collected D,args:=#[] }
def MR (a:Act)(K K':KV):Prop:=(a.defers=[]/\K'=K)\/∃D,a.defers=[mark D]/\K'=R6 D K
theorem MR.same {a a':Act}{K d:KV}{ds:List Nat}(h:MR a K d)(s:kH ds a a'):MR a' K d:=by
 rcases h with⟨b,c⟩|⟨D,b,c⟩
 ·exact .inl ⟨by rw[s.2.1,b],c⟩
 ·exact .inr ⟨D,by rw[s.2.1,b],c⟩
def XB {W:World}{l:Nat}{o d:Obj}(h:W.heap[l]? = some o)(e:o.isCells=false)(c:d.isCells=false)(b:Nat):mem (W.putObj l d) b=mem W b:=by
 unfold mem
 by_cases a:b=l
 ·subst a
  rw[World.putObj_heap_same (zaQ.1 h).1,h]
  cases o<;>cases d<;>first|rfl|(simp[Obj.isCells]at e c)
 ·rw[World.putObj_heap_other a]
def Nq {W:World}{l b:Nat}{o d:Obj}{cs:List Value}(h:W.heap[l]? = some o)(c:o.isCells=false)(hb:mem W b=some cs):mem (W.putObj l d) b=some cs:=by
 have a:b≠l:=λe=>by
  subst e
  unfold mem at hb
  rw[h]at hb
  cases o<;>first|(exact absurd (show(none:Option (List Value))=some cs from hb) zs)|(exact absurd (show true=false from c) zs)
 unfold mem
 rw[World.putObj_heap_other a]
 exact hb
def BR.ez {W W':World}(l:∀b cs,mem W b=some cs->mem W' b=some cs){v:Value}{rows:List Nat}(h:BR W v rows):BR W' v rows:=by
 obtain⟨g,a,c,d⟩:=h
 refine⟨g,a,c,λi p j=>?_⟩
 obtain⟨b,o,cs,k,f,e⟩:=d i p j
 exact⟨b,o,cs,k,l _ _ f,e⟩
def lC.params {n:Nat}{fr:Fr}{a:Act}(h:lC n fr a){p q:Nat}{x y:Value}(i:p<n)(g:q<n) :
  lC n ((q,some y)::(p,some x)::fr) { tmps:=(a.tmps.setIfInBounds p x).setIfInBounds q y,defers:=[] }:=by
 refine⟨by simp[h.1],λt v b=>?_⟩
 rw[qo]at b
 simp only at b
 split at b
 ·rename_i e;subst e;cases b
  have:=h.1
  have c:q<a.tmps.size:=by omega
  simp[c]
 ·rename_i d
  rw[qo]at b
  simp only at b
  show((a.tmps.setIfInBounds p x).setIfInBounds q y)[t]? = some v
  rw[zb3 d]
  split at b
  ·rename_i e;subst e;cases b
   have:=h.1
   have c:p<a.tmps.size:=by omega
   simp[c]
  ·rename_i f
   rw[zb3 f]
   exact h.2 t v b
def K0 {n:Nat}:∀{a b:List Nat},Ep n (a++b)=true->Ep n a=true/\Ep n b=true
 | [],b,h=>⟨rfl,h⟩
 |d::a,b,h=>by
  simp only[Fn,Ep,GE]at h
  obtain⟨h1,h2⟩:=K0 h.2
  exact⟨by simp only[Ep,GE];exact⟨h.1,h1⟩,h2⟩
def agz {n:Nat}(Ix:List (Fin n)->World->Prop):Code->List (Fin n)->World->Prop
 | .ret,pre,W=>Ix pre W
 |_,_,_=>False
def Xn {E:I5}(hE:E.OK)(N:mJ){n gf:Nat}(hB:YC E.P gf)(eg:∀args w,(callFunc gf args).run E.P w=.ok (.enter gf args) w)(m:Nat)(hm:1<=m) :
  ∀(c:Code) (_:∀d∈mZ c,d<n) (fr:Fr) (a:Act) (w:World) (kk kr:KV->KF) (K:KV) (Q:Exit->Act->World->Prop),lC n fr a->a.defers=[]->SR E N n gf c fr kk kr K w ->
  (∀K' fr' a' w',lC n fr' a'->MR a' K K'->kk K' fr' w'->Q .normal a' w') ->
  (∀K' fr' a' w',lC n fr' a'->MR a' K K'->kr K' fr' w'->Q .ret a' w')->c.wpIn (Wd none) m E.P Q a w:=by
 intro c
 induction c with
 |seq x y ihx ihy =>
  intro M fr a w kk kr K Q j ha h hk H
  unfold SR at h
  split at h
  ·split at h<;>try exact h.elim
   rename_i U
   refine wpIn_seq (ihx (λd S=>M d (zam _ S)) fr a w _ _ K _ j ha h (λK' fr' a' w' z r k=>?_) (λK' fr' a' w' z r k=>H K' fr' a' w' z r k))
   exact tL hE N none m y U (λd S=>M d (zak _ S)) fr' a' w' _ _ _ Q z k (λJ T V g1 g2 g3=>hk K' J T V g1 (r.same g2) g3) (λ_ _ _ _ _ _ g=>g.elim) (λJ T V g1 g2 g3=>H K' J T V g1 (r.same g2) g3)
  ·split at h<;>try exact h.elim
   rename_i U
   refine wpIn_seq (tL hE N none m x U (λd S=>M d (zam _ S)) fr a w _ _ _ _ j h (λfr' a' w' z r k=>?_) (λ_ _ _ _ _ _ g=>g.elim) (λfr' a' w' z r k=>?_))
   ·exact ihy (λd S=>M d (zak _ S)) fr' a' w' kk kr K Q z (by rw[r.2.1,ha]) k hk H
   ·exact H K fr' a' w' z (.inl ⟨by rw[r.2.1,ha],rfl⟩) k
 |block id b ih =>
  intro M fr a w kk kr K Q j ha h hk H
  obtain⟨g,ps,e,C,rfl⟩:∃g ps e C,b=.rangeFunc (.tmp g) ps e C:=by
   cases b<;>try exact h.elim
   rename_i g ps e C
   cases g<;>try exact h.elim
   exact⟨_,_,_,_,rfl⟩
  unfold SR at h
  split at h<;>try exact h.elim
  rename_i p q aL ac aE aA
  split at h<;>try exact h.elim
  rename_i hp hq
  have hp:=za3 hp
  have hq:=za3 hq
  obtain⟨gv,aM,h⟩:=ao h
  obtain⟨c,v,i,I,Ix,rfl,aB,hI,aJ,X,h0,u,Z,af⟩:=h
  have aD:ps=#[p,q]:=zan.1 (by simpa using aL)
  subst aD
  obtain⟨aC,am⟩:=K0 aA
  obtain⟨aG,aO⟩:=X _ _ h0
  refine wpIn_block (wpIn_rangeFunc_ownH (α:=Fin i.length) (F:=Wd none) (n:=m) (g:=.tmp g) (gf:=gf) (lb:=#[.pointer (some ⟨c,0,none⟩)]) rfl hm (j.rd _ _ aM) trivial eg (w0:=w) (hB (m-1) c v i w aG aO aB)
   (λz r=>⟨λh=>r.1 (z.1 h),λh=>r.2 (z.2 h)⟩) (λW l o o' hl ho O _=>?_) (Below.refl _ _) (λ_=>rfl) I (agz Ix) hI (λcc=>?_) h0
   (λx a' _=>∃fr',agn N e ((q,some (.pointer (some ⟨i[x.1],0,none⟩)))::(p,some (.int .i64 x.1))::fr)=some fr'/\lC n fr' a'/\a'.defers=[]) (λx a'=>ownFrom_pure _ (λ_:Unit=>_)) ?_ ?_ ?_ ?_)
  ·have aF:∀b cs,mem W b=some cs->mem (W.putObj l o') b=some cs:=λb cs R=>Nq ho O R
   exact⟨λh=>aF _ _ h,λh=>h.ez aF⟩
  ·intro s A B aH hs hg hr
   cases cc<;>try exact hs.elim
   exact aJ s A B aH hs hg hr
  ·intro l L x W K' hi aK
   have R:=u L x W hi
   dsimp only at R
   split at R<;>try exact R.elim
   rename_i fr' hf
   have aI:=j.params (x:=.int .i64 x.1) (y:=.pointer (some ⟨i[x.1],0,none⟩)) hp hq
   rw[show(Array.foldl (λt (x:Tmp×Value)=>match x with|(p,v)=>t.setIfInBounds p v) a.tmps (#[p,q].zip #[Value.int .i64 x.1,Value.pointer (some ⟨i[x.1],0,none⟩)]))=(a.tmps.setIfInBounds p (.int .i64 x.1)).setIfInBounds q (.pointer (some ⟨i[x.1],0,none⟩)) by simp]
   exact tL hE N (some l) _ e ac (xO aC) _ _ W (λf w'=>f=fr'/\w'=W) (λ_ _ _=>False) (λ_ _=>False) _ aI (abB hf _ _ _ _ ⟨rfl,rfl⟩)
    (λf a' w' z r k=>by
     obtain⟨rfl,rfl⟩:=k
     exact aK a' _ (KeepsFrom.refl _ _) ⟨λh=>h,λh=>h⟩ hi ⟨_,hf,z,r.2.1⟩) (λ_ _ _ _ _ _ g=>g.elim) (λ_ _ _ _ _ g=>g.elim)
  ·rintro l L x a' W _ _ hi ⟨fr',hf,hfr',S⟩ _
   have R:=u L x W hi
   dsimp only at R
   rw[hf]at R
   exact tL hE N (some l) _ C aE (xO am) fr' a' W _ _ _ _ hfr' R (λf a2 w2 z r k=>⟨k.1,⟨λ_=>(X _ _ k.2).1,λ_=>(X _ _ k.2).2⟩,k.2⟩) (λ_ _ _ _ _ _ g=>g.elim) (λf a2 w2 z r k=>⟨k.1,k.2⟩)
  ·intro D xs W hD hS hi Y
   subst hS
   exact hk (R6 D K) fr _ W ⟨j.1,j.2⟩ (.inr ⟨D,by rw[ha];rfl,rfl⟩) (Z D W hD hi Y)
  ·intro D cc L W hD aN al Y
   cases cc<;>try exact al.elim
   exact wpIn_ret (H (R6 D K) fr _ W ⟨j.1,j.2⟩ (.inr ⟨D,by rw[ha];rfl,rfl⟩) (af L D W hD aN al Y))
 |_=>intros;rename_i h _ _;exact h.elim
def JK {E:I5}{fr:Fr}{W W':World}(hm:∀b,mem W' b=mem W b):∀(l:List ResultVar)(k:List Value->World->Prop),RH E l fr k W->RH E l fr (λvs w=>w=W'/\k vs W) W'
 | [],k,h=>⟨rfl,h⟩
 | .tmp t::l,k,h=>by
  obtain⟨v,hv,h⟩:=ao h
  have:=JK hm l _ h
  show dq (pR fr t) _
  rw[hv]
  exact this
 | .cell a t::l,k,h=>by
  unfold RH at h ⊢
  split at h<;>try exact h.elim
  rename_i d i hd hi
  obtain⟨p,hp,h⟩:=ao h
  show dq (pR fr a) _
  rw[hp]
  show(match ri d with|true=>_|false=>_)
  split at h
  ·rename_i hg
   try rw[hg]
   unfold br at h ⊢
   split at h<;>try exact h.elim
   rename_i q o
   split at h<;>try exact h.elim
   rename_i cs hcs
   simp only[hm,hcs]
   exact⟨h.1,JK hm l _ h.2⟩
  ·rename_i hg
   try rw[hg]
   unfold ad at h ⊢
   split at h<;>try exact h.elim
   rename_i q o
   split at h<;>try exact h.elim
   rename_i cs hcs
   simp only[hm,hcs]
   unfold gm at h ⊢
   split at h<;>try exact h.elim
   rename_i v hv
   exact JK hm l _ h
def adh {E:I5}{rs:List ResultVar}{fr:Fr}{K:KV}{W W':World}(g:∀b,mem W' b=mem W b)(h:OQ E rs fr K W):OQ E rs fr (λv w=>w=W'/\K v W) W':=by
 unfold OQ at h ⊢
 split at h
 ·obtain⟨v,c,h⟩:=ao h
  simp only[c];exact⟨trivial,h⟩
 ·obtain⟨v,c,h⟩:=ao h
  obtain⟨e,a,h⟩:=ao h
  simp only[c,a];exact⟨trivial,h⟩
 ·obtain⟨v,c,h⟩:=ao h
  obtain⟨e,a,h⟩:=ao h
  obtain⟨f,d,h⟩:=ao h
  simp only[c,a,d];exact⟨trivial,h⟩
 ·exact⟨rfl,h⟩
 ·exact JK g _ _ h
noncomputable abbrev Ur (E:I5) (N:mJ) (gf:Nat) (fn:Func) (args:List Value) (K:KV) (w:World):Prop :=
 match fn.body with
 |some c=>match Ep fn.ntmps (mZ c),Nat.ble args.length fn.ntmps with|true,true=>SR E N fn.ntmps gf c (IQ 0 args) (λK fr w=>OQ E fn.results.toList fr K w) (λK fr w=>OQ E fn.results.toList fr K w) K w|_,_=>False
 |none=>False
def SW {E:I5}{fn:Func}{K l:KV}{n:Nat}{fr:Fr}{a:Act}{w:World}(c:lC n fr a)(k:MR a K l)(h:OQ E fn.results.toList fr l w){R:Ending->World->Prop}(j:∀v w',K v w'->R (.returned v) w') :
  LeavesInM (Wd none) 3 E.P fn a.tmps R a.defers .returning w:=by
 rcases k with⟨f,rfl⟩|⟨D,f,rfl⟩
 ·rw[f]
  obtain⟨v,e,d⟩:=(xe (a:={ a with defers:=[] }) (fn:=fn) (E:=E) ⟨c.1,c.2⟩ rfl h).2
  exact⟨v,e,j _ _ d⟩
 ·rw[f]
  have g:w.heap[D]? = some (.deferred (some [])):=by
   obtain⟨v,e,d⟩:=(xe (a:={ a with defers:=[] }) (fn:=fn) (E:=E) ⟨c.1,c.2⟩ rfl h).2
   exact d.1
  refine⟨zs,.inl ⟨D,_,rfl,run_takeDeferred g,?_⟩⟩
  have i:=adh (W':=w.putObj D (.deferred none)) (λb=>XB g rfl rfl b) h
  obtain⟨v,e,d⟩:=(xe (a:={ a with defers:=[] }) (fn:=fn) (E:=E) ⟨c.1,c.2⟩ rfl i).2
  exact⟨v,e,j _ _ d.2.2⟩
def J1 {E:I5}(hE:E.OK)(N:mJ){gf:Nat}(x:YC E.P gf)(u:∀args w,(callFunc gf args).run E.P w=.ok (.enter gf args) w){f:FuncId}{fn:Func}{args:List Value}{K:KV}{w:World}(s:E.P.funcs[f]? = some fn)(y:(fn.name == "runtime.NumGoroutine")=false)
  (h:Ur E N gf fn args K w):CP E.P f args K w:=by
 unfold Ur at h
 split at h<;>try exact h.elim
 rename_i c o
 split at h<;>try exact h.elim
 rename_i d b
 have b:=za3 b
 refine⟨⟨fn,s,by rw[o];rfl,y⟩,(callsIn_wide (n:=3)).1 (callsIn_of_wp_marks (F:=Wd none) s o trivial ?_)⟩
 have l:lC fn.ntmps (IQ 0 args) { tmps:=args.toArray++Array.replicate (fn.ntmps-args.toArray.size) undef,defers:=[] }:=by
  refine⟨by simp;omega,λt v p=>?_⟩
  obtain⟨_,a⟩:=Ew args 0 t v p
  rw[zch]at a
  have:t<args.length:=by
   rcases zaE t args.length with i|i
   ·exact i
   ·rw[zaW i]at a;cases a
  rw[zcu]
  simp[this]at a ⊢
  simpa using a
 refine Xn hE N x u 3 zd c (xO d) _ _ w _ _ K _ l rfl h (λq g r m k a e=>?_) (λq g r m k a e=>?_)
 ·exact SW k a e λv m j=>j
 ·exact SW k a e λv m j=>j
end Go.Proofs.YtoealglbimbbmaaGreatDoor.S
