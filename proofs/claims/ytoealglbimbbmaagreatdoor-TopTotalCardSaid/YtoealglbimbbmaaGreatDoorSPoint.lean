import Derived.Test.YtoealglbimbbmaaGreatDoorSIn
import Derived.Test.YtoealglbimbbmaaGreatDoorProg
set_option linter.defProp false
set_option linter.unusedVariables false
set_option linter.unusedSimpArgs false
namespace Go.Proofs.YtoealglbimbbmaaGreatDoor.S
open Go Go.Proofs
set_option maxRecDepth 100000
abbrev ac:=CP Tryz.prog
abbrev zV0:=KV->World->Prop
abbrev i8:=Value->zV0
abbrev kV:=Value->i8
abbrev tX:=Value->kV
abbrev Uc:=Value->tX
abbrev zV5:=Value->Uc
abbrev zV6:=Value->zV5
abbrev zV7:=Value->zV6
abbrev ny:Value:=.bool true
abbrev kj:Value:=.bool false
abbrev jS:Value:=.slice none 0 0
abbrev Dx:Value:=.pointer none
abbrev zU (i:Nat)(v:Value)(K:KV):=j9 i v λx=>ad x K
abbrev zas (i:Nat)(v u:Value)(K:KV):=j9 i v λx=>fh 1 x u K
abbrev zbc (o:BinOp)(x y:Value)(A B:World->Prop):=ap o x y λp=>aj p A B
abbrev lF:Value:=.int .i64 (-1)
abbrev ba:Value:=.int .i64 0
abbrev mh:Value:=.int .i64 1
abbrev P4:Value:=.int .i64 10
abbrev Rr:Value:=.int .i64 11
abbrev Gg:Value:=.int .i64 12
abbrev LW:Value:=.int .i64 13
abbrev Ad:Value:=.int .i64 14
abbrev LI:Value:=.int .i64 15
abbrev yK:Value:=.int .i64 16
abbrev NR:Value:=.int .i64 17
abbrev Kj:Value:=.int .i64 18
abbrev S1:Value:=.int .i64 19
abbrev lR:Value:=.int .i64 2
abbrev ad4:Value:=.int .i64 20
abbrev adL:Value:=.int .i64 200000
abbrev ah3:Value:=.int .i64 2048
abbrev aaH:Value:=.int .i64 21
abbrev UT:Value:=.int .i64 2147483648
abbrev afl:Value:=.int .i64 22
abbrev ad6:Value:=.int .i64 23
abbrev akn:Value:=.int .i64 24
abbrev akK:Value:=.int .i64 25
abbrev SV:Value:=.int .i64 256
abbrev akj:Value:=.int .i64 26
abbrev akm:Value:=.int .i64 27
abbrev akl:Value:=.int .i64 28
abbrev aki:Value:=.int .i64 29
abbrev GB:Value:=.int .i64 3
abbrev afm:Value:=.int .i64 30
abbrev akC:Value:=.int .i64 31
abbrev aeD:Value:=.int .i64 32
abbrev BZ:Value:=.int .i64 4
abbrev Qa:Value:=.int .i64 40
abbrev agM:Value:=.int .i64 400
abbrev zH:Value:=.int .i64 5
abbrev Id:Value:=.int .i64 6
abbrev aj9:Value:=.int .i64 60
abbrev Fl:Value:=.int .i64 7
abbrev Hb:Value:=.int .i64 8
abbrev S7:Value:=.int .i64 9
abbrev ajx:Value:=.int .i64 90
abbrev WE:Value:=.int .i64 96
abbrev iT:Value:=.int .u64 0
abbrev Pe:Value:=.int .u64 1
abbrev ai6:Value:=.int .u64 100
abbrev BS:Value:=.int .u64 11400714819323198485
abbrev akr:Value:=.int .u64 12
abbrev ajH:Value:=.int .u64 14
abbrev ako:Value:=.int .u64 16
abbrev zu2:Value:=.int .u64 2
abbrev ake:Value:=.int .u64 20
abbrev oE:Value:=.int .u64 2147483648
abbrev zu4:Value:=.int .u64 4
abbrev nD:Value:=.int .u64 4611686018427387903
abbrev lx:Value:=.int .u64 4611686018427387904
abbrev aku:Value:=.int .u64 60
abbrev akH:Value:=.int .u64 64
abbrev zu8:Value:=.int .u64 8
abbrev zu9:Value:=.int .u64 9
abbrev jA a b c:=ji a λx=>zU b x c
abbrev gx a:=gW a true
abbrev jY a:=gW a false
abbrev jo a b:=ad a λx=>eqP x b
abbrev vX a b c d:=ji a λx=>zas b x c d
abbrev oD a b c:=ji a λx=>j9 b x c
abbrev jt:=ap .eql
abbrev QQ:=ap .add
abbrev zy9:=iz [ba,ba,iT,iT,iT,kj,ba,iT,kj,ba]
abbrev yJ:=iz [ba,ba,ba,ba,iT]
abbrev aiQ a b c d e:=nf a b c λx=>aj x d e
abbrev uP:=zbc .eql
abbrev akz a b c d:=qH a b c λx=>ad x d
abbrev D1 a b c d e f:=fh a b c λx=>br d e f
abbrev my a b c:=jA a b λx=>fu x c
abbrev z7 a b c d:=gx a (ap b c d)
abbrev i6 a b:=gx a (ad b)
abbrev AK a b c d e:=qH a b c λx=>br d x e
abbrev og a b c:=rN a λx=>aj x b c
abbrev Et a b c d e f g:=ck a b c λx=>fj d e f x g
abbrev HJ a b c:=br a b λx=>eqP x c
abbrev Ba a b c d e:=fh a b c λx=>andP d e
abbrev NX a b c:=Ba a b c (andP ab (andP ab ab))
abbrev gU a:=QQ a mh
abbrev Ih:=ap .sub
abbrev Ae a b c d:=jY a (ap b c d)
abbrev uW a b c:=iz a b λx=>fw x c
abbrev mB a b c:=gx a (j9 b c)
abbrev j8:=zbc .lss
abbrev gL:=zU 0
abbrev aka:=iz [ld [],ba,ba,ba,kj]
abbrev H9:=zbc .neq
abbrev Rk a b c d e:=vX a b c λx=>andP d e
abbrev jn a b:=nf a b kj
abbrev tc a b c d e f g:=uP a b c (uP d e f g)
abbrev af8 a b c d e f:=qH a b c λx=>fh d x e f
abbrev adU a b c:=Ba a b c (andP ab (andP ab (andP ab ab)))
abbrev Rl:=mX #[ba,ba,ba,ba,iT]
abbrev nZ a b:=jY a (ad b)
abbrev Dt a b c d e f g:=vX a b c λx=>vX d e f g
abbrev pj a b c:=jY a (j9 b c)
abbrev Tp:=Et [ba,ba,ba,ba,iT]
abbrev GC:=ap .neq
abbrev aea:=mX #[ba,ba,iT,iT,iT,kj,ba,iT,kj,ba]
abbrev jv a:=jA a 0
abbrev qZ a b:=aj a (be b)
abbrev afC a b c:=jA a b λx=>gU x c
abbrev DF:=iz [ba,ba]
abbrev wS a b c:=gx a (ac b c)
abbrev IL a b c d:=qH a b c λx=>gL x d
abbrev ku:=ib 0
abbrev ko:=ib 1
abbrev uf a:=Ae a .eql
abbrev vQ:=ap .lss
abbrev Kc:=mX #[ba,ba]
abbrev J6 a b c d:=jA a b λx=>QQ x c d
abbrev akI a b c:=fu a λx=>Ih x b c
abbrev xI a:=z7 a .neq
abbrev xj a:=z7 a .eql
abbrev akD a b c d e f:=zy9 a λx=>D1 b c x d e f
abbrev aiG:=mX #[ba,ba,ba,kj,ba,ba,iT,iT,ba,ba,jS,jS,jS,ld []]
abbrev Lu a b c d:=jA a b λx=>jt x c d
abbrev mx:=zU 1
abbrev aj_ a b c d e:=zas a b c λx=>andP d e
abbrev NH a b:=gL a λx=>fu x b
abbrev Gv a b c d e:=fh a b c λx=>gL d e
abbrev oL:=xK ba
abbrev Ny:=mX #[ba,iT]
abbrev Lm a b c d e f:=yJ a λx=>D1 b c x d e f
abbrev NF a b c d:=oD a b λx=>j9 c x d
abbrev pd a:=H9 a ba
abbrev lq:=akz 1
abbrev pP a:=aiQ a ny
abbrev Nw a b c d e:=afC a b λx=>vX c d x e
abbrev NC:=iz [ba,iT]
abbrev Nu a b c d e f:=aka a λx=>D1 b c x d e f
abbrev Fa a b c:=Rk a b c ab
abbrev abz:=ck [ba,ba,ba,ba,iT]
abbrev Qf a b c d:=j9 a b λx=>br c x d
abbrev Gm a b c:=aj_ a b c ab
abbrev AD:=fh 1
abbrev ajv a b c:=Ba a b c (andP ab (andP ab (andP ab (andP ab (andP ab (andP ab ab))))))
abbrev va a:=jt a ba
abbrev ng a:=jA a 1
abbrev ahT:=mX #[ba,ba,iT,iT,iT,iT,iT,iT,iT,iT,ba]
abbrev PU a b c:=ku a λx=>ko b c
abbrev CZ a b c d:=gx a (qH b c d)
abbrev TZ a b c:=ji a λx=>AD x b c
abbrev HW a:=z7 a .lss
abbrev wN a:=nf a ny
abbrev wY a:=Ih a mh
abbrev O7 a b c d:=AD a b λx=>ad c d
abbrev oc a:=oD a 0
abbrev KO:=ap .geq
abbrev J8:=zbc .geq
abbrev Ke:=AF .i64
abbrev yk a:=jA a 12
abbrev JN a:=Ae a .geq
abbrev aff:=mX #[iT,iT,kj,ba,kj,ba]
abbrev wn a b c:=jY a (ac b c)
abbrev ag5 a b c:=Ba a b c (andP ab (andP ab (andP ab (andP ab (andP ab ab)))))
abbrev AQ:=ap .gtr
abbrev ajj a b:=p9 a b none
abbrev ajf a b c d:=jY a (nf b c d)
abbrev MN a b c:=mx a λx=>Ih b x c
abbrev lE:=br 2
abbrev Y4 a:=wS a 350
abbrev oU a b:=aiQ a b kj
abbrev Hk a b c d e f g h i:=Et a b c d e f λx=>vX g h x i
abbrev HA:=mX #[kj]
abbrev zv a b c:=ajj a b (some c)
abbrev ahj:=Et [ba,ba,ba,kj,ba,ba,iT,iT,ba,ba,jS,jS,jS,ld []]
abbrev lY a:=jA a 2
abbrev DY:=AF .u64
abbrev Oh:=ck [ba,iT]
abbrev aay a b c:=Rk a b c (andP ab ab)
abbrev Zk a b c:=Ba a b c (andP ab ab)
abbrev He:=ap .rem
abbrev OV a b c d:=qH a b c λx=>mx x d
abbrev wy a:=jA a 16
abbrev oZ:=zU 3
abbrev oS:=br 5
abbrev Ef a b:=gx a (rN b)
abbrev QI a b c d e:=kR a b c λx=>aj x d e
abbrev yF a:=QQ a lR
abbrev xq a:=jA a 14
abbrev yn a:=uP a ba
abbrev zx:=ld []
abbrev aam:=uW [Dx,ba,jS]
abbrev W8 a:=PM a ba
abbrev ajk a:=akD a 10
abbrev HC a b:=jY a (fu b)
abbrev GX:=W8 jS
abbrev ad1 a:=wS a 243
abbrev Ms:=zbc .gtr
abbrev wD a b c:=ajf a b c kj
abbrev aho a b c:=Rk a b c (andP ab (andP ab (andP ab ab)))
abbrev sy:=j9 0
abbrev rU:=fh 2
abbrev sr:=af8 1
abbrev AG a:=akI a mh
abbrev Ao a:=GC a ba
abbrev so:=HJ 2
abbrev Ax a:=QQ a ba
abbrev ze a b:=ajk a b 10
abbrev VD a b:=ji a λx=>ad x b
abbrev VR a b:=ad a λx=>jv x b
abbrev sx a:=mB a 0
abbrev tW:=AK 2
def D4:zV5:=λa0 a1 a2 a3 a4 K=>fw a0 λb=>ac 9 [] λc=>og c (K kj) (GX λe f g=>fu a1 λh=>vQ g h λi=>gx i (λK=>K g) λj=>HW i j zH λk=>oU i k (lq a1 g λn=>fu n λo=>Ms o aj9 (K ny) (lq a1 g λr=>iz [jS] [(0,1,r)] λs=>ck [jS] 1 [(0,1,s)] λt=>PM t g λu x z=>fu a2 λA=>vQ z A λB=>gx B (λK=>K z) λC=>gx B (λK=>K g) λD=>z7 B .add D GB λE=>HW B C E λF=>oU B F (lq a2 z λL=>ac 29 [L,Qa,kj] λM=>Et [jS] 1 [(0,1,M)] 1 24 x λO=>gU z λQ=>u O Q) (Et [jS] 1 [(0,1,x)] 1 24 f λT=>gU g λU=>e T U))) (rN a4 λV=>aw (br 8 b λW=>ac 10 [W,f] λX=>iV .eql X Dx λY=>aj Y (K kj) (oL λZ aA=>fu a3 λaB=>vQ aA aB λaC=>gx aC (λK=>K aA) λaD=>HW aC aD afm λaE=>oU aC aE (oL λaG aH=>AK 3 a3 aA 3 λaJ=>ac 14 [X,aJ,S7] λaK=>zbc .leq aH aK (be (IL 3 a3 aA λaO=>OV 3 a3 aA λaR=>ac 15 [X,aO,aR] λaS=>andP (andP ab (andP ab ab)) (be (va aS λaT=>IL 3 a3 aA λaW=>KO aW ba λaX=>gx aX (λK=>K a3) λaY=>gx aX (λK=>K aA) λaZ=>CZ aX 3 aY aZ λbA=>sx aX bA λbB=>i6 aX bB λbC=>gx aX (λK=>K X) λbD=>wS aX 31 [bD] λbE=>andP (andP (i6 aX bB λv=>eqP v bC) (andP ab ab)) (HW aX bC bE λbF=>jn aX bF λbG=>jE .neq aT bG λbH=>jY bH (λK=>K aS) λbI=>Ae bH .neq bI ba λbJ=>jY bH (λK=>K bJ) λbK=>gx bK (λK=>K aS) λbL=>xI bK bL mh λbM=>wD bH bK bM λbN=>pP bH bN (K kj) (gU aH λbP=>aG bP)))))) (gU aA λbQ=>Z bQ)) (ac 26 [X,jS] λbR=>og bR (K kj) (oL λbT bU=>ac 31 [X] λbV=>vQ bU bV λbW=>gx bW (λK=>K bU) λbX=>gx bW (λK=>K f) λbY=>gx bW (fu bY) λbZ=>HW bW bX bZ λb0=>oU bW b0 (ac 27 [X,bU] λb2=>lq f bU λb4=>fu b4 λb5=>mA b5 [Id] λb6=>fu b2 λb7=>AQ b7 b6 λb8=>jY b8 (λK=>K b2) λb9=>HC b8 b9 λcA=>jY b8 (λK=>K b6) λcB=>uf b8 cA cB λcC=>jY b8 (λK=>K X) λcD=>jY b8 (λK=>K bU) λcE=>wn b8 32 [cD,cE] λcF=>uf b8 cF Id λcG=>jY b8 (jE .neq cC cG) λcH=>pP b8 cH (K kj) (oL λcJ cK=>fu b2 λcL=>j8 cK cL (lq f bU λcO=>AK 1 cO cK 1 λcQ=>ac 33 [cQ] λcR=>PU cR cR λcT=>ib 2 cR λcU=>ib 3 cR λcV=>IL 4 b2 cK λcY=>GC cY lR λcZ=>gx cZ (λK=>K b2) λc0=>gx cZ (λK=>K cK) λc1=>CZ cZ 4 c0 c1 λc2=>sx cZ c2 λc3=>i6 cZ c3 λc4=>xI cZ c4 BZ λc5=>gx cZ (λK=>K c5) λc6=>jY c6 (λK=>K b2) λc7=>jY c6 (λK=>K cK) λc8=>jY c6 (qH 4 c7 c8) λc9=>pj c6 1 c9 λdA=>nZ c6 dA λdB=>uf c6 dB ba λdC=>gx cZ (nf c6 ny dC) λdD=>jn cZ dD λdE=>jY dE (λK=>K cT) λdF=>Ae dE .neq dF ba λdG=>jY dE (λK=>K dG) λdH=>gx dH (λK=>K b2) λdI=>gx dH (λK=>K cK) λdJ=>CZ dH 4 dI dJ λdK=>mB dH 1 dK λdL=>i6 dH dL λdM=>gx dH (λK=>K cT) λdN=>xI dH dM dN λdO=>wD dE dH dO λdP=>pP dE dP (K kj) (gU cK λdR=>cJ dR)) (gU bU λdS=>bT dS))) (K ny))))) λdT=>qZ V (zU 7 b λdV=>j9 6 b λdW=>ad dW λdX=>sy b λdY=>sy dY λdZ=>ad dZ λd0=>ac 30 [dV,ba,ajx] λd1=>andP (andP (jo dZ d0) (andP (jo dW dX) (andP ab ab))) (j9 7 b λd2=>ac 30 [dX,ba,afm] λd3=>andP (andP (jo dZ d0) (andP ab ab)) (ac 30 [d0,afm,ajx] λd4=>andP (andP ab ab) (Ba 1 d2 d1 ab (Gm 6 b d3 (sy b λd6=>Gm 0 d6 d4 (sy b λd8=>zU 4 d8 λeA=>He eA zu9 λeB=>sy b λeC=>zas 4 eC eB λ_=>dT))))))) dT))
def Nc:zV0:=λK=>yJ [(0,1,Qa),(1,1,BZ)] λb=>iz [ba,ba,ba,ba,iT,ba,ba,ba] [(0,5,b),(6,1,S7),(7,1,ad4)] λc=>ac 25 [Id] λd=>ck [jS] 1 [(0,1,d)] λe=>ck [jS] 1 [(0,1,e)] λf=>ac 10 [c,f] λg=>iV .eql g Dx λh=>aj h (K kj) (oL λi j=>j8 j Qa (ac 15 [g,ba,.int .u8 0] λl=>gU j λm=>i m) (ac 13 [g] λn=>ac 27 [g,ba] λo=>fu n λp=>jt p Qa λq=>gx q (λK=>K n) λr=>CZ q 1 r Id λs=>i6 q s λt=>xj q t Pe λu=>jn q u λx=>gx x (λK=>K o) λz=>gx x (fu z) λA=>xj x A mh λB=>jn x B λC=>gx C (λK=>K o) λD=>CZ C 4 D ba λE=>mB C 2 E λF=>i6 C F λH=>gx C (λK=>yu .eql H (ld [49]) K) λJ=>jn C J λL=>gx L (λK=>K g) λM=>wS L 36 [M] λN=>jn L N λO=>gx O (λK=>K g) λQ=>wS O 21 [Q] λR=>gx O (fu R) λT=>xj O T mh λU=>jn O U λV=>K V))
def GR:kV:=λa0 a1 K=>fw a0 λb=>fu a1 λc=>mA c [BZ] λd=>zv 1 a1 d λe=>fu e λf=>sy b λg=>zas 3 g f λ_=>br 8 b λi=>ac 37 [i] λj=>fh 8 b j λ_=>be (br 8 b λk=>Qf 0 b 5 λm=>ac 38 [m] λn=>andP (andP ab (andP (HJ 8 b k) ab)) (uW [ba,ba,ba,ba,iT,ba,ba,ba,Dx,jS,ba,ba,ba,iT,iT,iT,kj,ba,iT,kj,ba,kj] [(0,8,k),(8,1,n)] λp=>andP (andP ab ab) (sy b λq=>gL q λs=>ac 39 [s] λt=>fu t λu=>oL λx z=>j8 z u (lq t z λC=>GC C iT λD=>aw (gU z λE=>x E) λF=>aj D (jA p 8 λL=>zy9 [(0,1,lR),(1,1,z),(3,1,C)] λM=>ac 40 [L,M] λN=>F) F) (sy b λO=>oZ O λR=>oL λT U=>j8 U R (fu e λW=>vQ U W λX=>cr (λY=>be (oD p 9 λaA=>ad aA λaB=>br 8 b λaC=>ac 41 [U,aC,Y] λaD=>andP (andP ab (andP (jo aA aB) ab)) (ck [Dx] 1 [(0,1,aD)] λaE=>andP (andP (jo aA aB) ab) (fj 1 8 aB aE λaF=>andP (andP ab ab) (Fa p 9 aF (gU U λaI=>T aI)))))) λaJ=>aj X (lq e U λaL=>aJ aL) (aJ jS)) (K p)))))
def qk:i8:=λa0 K=>jA a0 8 λd=>ac 42 [d] λe=>K e
def PH:tX:=λa0 a1 a2 K=>fw a1 λb=>zU 2 b λd=>ac 30 [d,ba,a2] λe=>K e
def m9:tX:=λa0 a1 a2 K=>vQ a1 ba λb=>jY b (λK=>K a1) λc=>jY b (λK=>K a0) λd=>jY b (λK=>ji d K) λe=>pj b 9 e λf=>nZ b f λg=>HC b g λh=>JN b c h λi=>pP b i (K mh) (Nw a0 10 a0 10 λ_=>jA a0 9 λs=>lq s a1 λu=>ac 43 [u] λx=>ku x λz=>ko x λA=>oD a0 11 λC=>fh 10 C z λ_=>vX a0 21 A λ_=>jA a0 21 λJ=>og J (ac 44 [u] λM=>K ba) (be (jA a0 8 λQ=>oD a0 11 λT=>br 10 T λU=>oD a0 10 λW=>ad W λX=>ac 40 [Q,U] λY=>andP (andP (jo W X) (andP ab (andP ab ab))) (ac 45 [u,Y,a2,X] λZ=>andP (andP ab ab) (oD a0 11 λaB=>gL aB λaD=>H9 aD zH (K ba) (jA a0 9 λaH=>fu aH λaI=>oL λaJ aK=>j8 aK aI (lq aH aK λaN=>GC aK a1 λaO=>aw (gU aK λaP=>aJ aP) λaQ=>qZ aO (oD a0 11 λaS=>mx aS λaU=>NF a0 11 7 λaX=>gL aX λaZ=>ac 46 [aN,aU,aZ] λbA=>andP (andP ab (andP ab ab)) aQ) aQ) (K ba)))))))
def nX:i8:=λa0 K=>jA a0 9 λd=>fu d λe=>GX λf g h=>j8 h e (lq d h λk=>ac 52 [k] λl=>fj 14 168 g l λm=>gU h λn=>f m n) (K g)
def PW:i8:=λa0 K=>mX #[jS] λb=>yJ [(0,1,Hb),(1,1,ba),(2,1,Fl),(3,1,a0)] λc=>yJ [(0,1,mh),(1,1,mh),(4,1,Pe)] λd=>yJ [(0,1,GB),(1,1,ba),(2,1,ba),(3,1,mh)] λe=>yJ [(0,1,S7),(1,1,Fl),(2,1,ba),(3,1,a0)] λf=>yJ [(0,1,aaH),(1,1,ba)] λg=>abz 5 [(0,5,c),(5,5,d),(10,5,e),(15,5,f),(20,5,g)] λh=>iz [jS] [(0,1,h)] λi=>D1 1 b i 1 b λj=>K j
def G4:kV:=λa0 a1 K=>oL λb c=>j8 c adL (ac 36 [a0] λe=>aj e (K ny) (fu a1 λf=>AQ f ba λg=>cr (λh=>oL λi j=>ac 31 [a0] λk=>j8 j k (ac 15 [a0,j,h] λm=>gU j λn=>i n) (gU c λo=>b o)) λp=>aj g (fu a1 λq=>He c q λr=>lq a1 r λt=>p t) (p (.int .u8 0)))) (ac 36 [a0] λu=>K u)
def oW:kV:=λa0 a1 K=>ac 57 [a0,a1] λb=>iV .neq b Dx λc=>aj c (ac 58 [b] λd=>K d) (K jS)
def Ay:tX:=λa0 a1 a2 K=>mX #[jS] λb=>xz (λc d=>PM c d λe f g=>fu g λh=>Ms h ba (ac 60 [f,g] λj=>ku j λk=>ko j λl=>e k l) (fu f λm=>va m λn=>cr (λo=>iz [jS] [(0,1,o)] λp=>D1 1 b p 1 b λq=>K q) λr=>aj n (yJ [(0,1,mh),(1,1,ba),(4,1,Pe)] λs=>Tp 1 [(0,5,s)] 5 40 f λu=>r u) (r f))) λx=>Yu jS jS ba λz A B C=>fu a0 λD=>j8 C D (AK 5 a0 C 5 λH=>Rl λJ=>fh 5 J H λ_=>fu B λL=>fu A λM=>ap .mul lR L λN=>QQ M N λO=>QQ O zH λQ=>Ms Q a1 (x A B) (gL J λU=>ac 30 [U,ba,Qa] λV=>jt V ad4 λW=>gx W (λK=>K L) λX=>HW W X zH λY=>jn W Y λZ=>xz (λaA aB=>gU C λaC=>z aA aB aC) λaD=>aj Z (yJ [(0,1,Ad)] λaE=>Tp 1 [(0,5,aE)] 5 40 A λaG=>Et [ba] 1 [(0,1,Ad)] 1 8 B λaI=>aD aG aI) (jt V aaH λaJ=>jY aJ (λK=>K V) λaK=>uf aJ aK afl λaL=>wN aJ aL λaM=>gx aM (λK=>K L) λaN=>HW aM aN zH λaO=>jn aM aO λaP=>xz (λaQ aR=>aD aQ aR) λaS=>aj aP (yJ [(0,1,NR)] λaT=>Tp 1 [(0,5,aT)] 5 40 A λaV=>Et [ba] 1 [(0,1,NR)] 1 8 B λaX=>aS aV aX) (jt V ad6 λaY=>jY aY (λK=>K V) λaZ=>uf aY aZ akn λbA=>wN aY bA λbB=>gx bB (λK=>K L) λbC=>z7 bB .gtr bC ba λbD=>jn bB bD λbE=>xz (λbF bG=>aS bF bG) λbH=>aj bE (ac 60 [A,B] λbI=>ku bI λbJ=>ko bI λbK=>bH bJ bK) (jt V akK λbL=>gx bL (λK=>K L) λbM=>z7 bL .gtr bM ba λbN=>jn bL bN λbO=>gx bO (λK=>K B) λbP=>gx bO (λK=>K L) λbQ=>z7 bO .sub bQ mh λbR=>CZ bO 1 bP bR λbS=>i6 bO bS λbT=>xj bO bT Ad λbU=>jn bO bU λbV=>cr (λbW=>bH bW B) λbX=>aj bV (yJ [(0,1,yK)] λbY=>Tp 1 [(0,5,bY)] 5 40 A λb0=>bX b0) (jt V akj λb1=>jY b1 (λK=>K V) λb2=>uf b1 b2 akm λb3=>wN b1 b3 λb4=>gx b4 (λK=>K a2) λb5=>Ef b4 b5 λb6=>jn b4 b6 λb7=>gx b7 (λK=>K L) λb8=>z7 b7 .gtr b8 ba λb9=>jn b7 b9 λcA=>cr (λcB=>bX cB) λcC=>aj cA (mx J λcE=>ac 61 [cE] λcF=>fu A λcG=>yF cG λcH=>yJ [(0,1,LW),(1,1,cF),(3,1,cH)] λcI=>yJ [(0,1,ad4)] λcJ=>Tp 2 [(0,5,cI),(5,5,cJ)] 5 40 A λcL=>cC cL) (jt V akl λcM=>gx cM (λK=>K a2) λcN=>Ef cM cN λcO=>jn cM cO λcP=>cr (λcQ=>cC cQ) λcR=>aj cP (mx J λcT=>ac 61 [cT] λcU=>fu A λcV=>yF cV λcW=>yJ [(0,1,LW),(1,1,cU),(3,1,cW)] λcX=>yJ [(0,1,ad4)] λcY=>Tp 2 [(0,5,cX),(5,5,cY)] 5 40 A λc0=>cR c0) (jt V aki λc1=>gx c1 (λK=>K a2) λc2=>Ef c1 c2 λc3=>jn c1 c3 λc4=>cr (λc5=>cR c5) λc6=>aj c4 (mx J λc8=>ac 61 [c8] λc9=>fu A λdA=>yF dA λdB=>yJ [(0,1,LW),(1,1,c9),(3,1,dB)] λdC=>yJ [(0,1,afl)] λdD=>Tp 2 [(0,5,dC),(5,5,dD)] 5 40 A λdF=>c6 dF) (jt V afm λdG=>jY dG (λK=>K V) λdH=>uf dG dH akC λdI=>wN dG dI λdJ=>cr (λdK=>c6 dK) λdL=>qZ dJ (zU 2 J λdN=>fu A λdO=>yF dO λdP=>oS J λdQ=>ac 61 [dN] λdR=>andP (andP (HJ 5 J dQ) (andP ab ab)) (yJ [(0,1,LW),(1,1,dR),(3,1,dP)] λdS=>ac 62 [dQ] λdT=>andP (andP ab ab) (abz 2 [(0,5,dS),(5,5,dT)] λdU=>andP ab (fj 5 40 A dU λdV=>andP ab (dL dV))))) (jt V aeD λdW=>gx dW (λK=>K a2) λdX=>Ef dW dX λdY=>jn dW dY λdZ=>cr (λd0=>dL d0) λd1=>qZ dZ (oS J λd2=>j9 2 J λd3=>ad d3 λd4=>fu A λd5=>ac 62 [d2] λd6=>andP (andP (jo d3 d4) (andP ab ab)) (ac 61 [d4] λd7=>andP (andP ab ab) (yJ [(0,1,LW),(1,1,d7),(3,1,d5)] λd8=>abz 2 [(0,5,d6),(5,5,d8)] λd9=>andP ab (fj 5 40 A d9 λeA=>andP ab (d1 eA))))) (oS J λeB=>ac 62 [eB] λeC=>Tp 1 [(0,5,eC)] 5 40 A λeE=>d1 eE))))))))))) (x A B)
def Hj:tX:=λa0 a1 a2 K=>Ih a2 a1 λb=>gU b λc=>He a0 c λd=>vQ d ba λe=>cr (λf=>QQ a1 f λg=>K g) λh=>aj e (QQ d a2 λi=>Ih i a1 λj=>gU j λk=>h k) (h d)
def oQ:i8:=λa0 K=>my a0 9 λe=>K e
def qD:kV:=λa0 a1 K=>ac 57 [a0,a1] λb=>iV .neq b Dx λc=>aj c (ac 63 [b] λd=>K d) (K ba)
def HD:i8:=λa0 K=>fw a0 λb=>NH b λe=>va e λf=>pj f 0 b λg=>nZ f g λh=>HC f h λi=>Ae f .gtr i Qa λj=>pP f j (K (.tuple #[ba,BZ,jS,jS])) (be (sy b λl=>ad l λm=>fu m λn=>sy b λo=>ad o λp=>fu p λq=>andP (gA 8 [ba] n n λr=>andP (andP (jo o p) (andP ab ab)) (gA 8 [ba] q q λs=>andP (andP ab ab) (GX λt u x=>NH b λB=>j8 x B (DF [(0,1,lF)] λD=>Kc λE=>rU E D λ_=>fu u λF=>AQ F ba λH=>aw (gL E λL=>sr r x 1 L λ_=>sr s x 1 lF λ_=>gL b λQ=>AK 5 Q x 5 λT=>ac 64 [T] λU=>og U (K (.tuple #[x,Hb,jS,jS])) (gL b λX=>IL 5 X x λaA=>jt aA LI λaB=>mB aB 1 E λaC=>i6 aB aC λaD=>xI aB aD Ad λaE=>jn aB aE λaF=>jY aF (λK=>K aA) λaG=>uf aF aG Kj λaH=>jY aF (λK=>K aH) λaI=>mB aI 1 E λaJ=>i6 aI aJ λaK=>xI aI aK NR λaL=>wD aF aI aL λaM=>wN aF aM λaN=>jY aN (λK=>K aA) λaO=>uf aN aO S1 λaP=>jY aN (λK=>K aP) λaQ=>mB aQ 1 E λaR=>i6 aQ aR λaS=>xI aQ aS Kj λaT=>wD aN aQ aT λaU=>wN aN aU λaV=>jY aV (λK=>K aA) λaW=>uf aV aW yK λaX=>jY aV (λK=>K aX) λaY=>mB aY 1 E λaZ=>i6 aY aZ λbA=>xI aY bA Ad λbB=>wD aV aY bB λbC=>pP aV bC (K (.tuple #[x,Gg,jS,jS])) (jt aA Ad λbE=>cr (λbF=>cr (λbG=>gU x λbH=>t bG bH) λbI=>aj bF (fu u λbJ=>J8 bJ zH (K (.tuple #[x,S7,jS,jS])) (DF [(0,1,x),(1,1,aA)] λbL=>Et [ba,ba] 1 [(0,2,bL)] 2 16 u λbN=>bI bN)) (jt aA LI λbO=>cr (λbP=>cr (λbQ=>bI bQ) λbR=>aj bP (gL E λbT=>sr s bT 1 x λ_=>AG u λbW=>zv 2 u bW λbX=>bR bX) (jt aA Kj λbY=>aw (bR u) λbZ=>aj bY (gL E λb1=>sr s b1 1 x λ_=>AG u λb4=>DF [(0,1,x),(1,1,aA)] λb5=>af8 2 u b4 2 b5 λ_=>bZ) bZ)) λb7=>aj bO (b7 bO) (jt aA S1 λb8=>b7 b8))) λb9=>aj bE (b9 bE) (jt aA NR λcA=>b9 cA)))) λcB=>aj H (AG u λcD=>tW u cD 2 λcF=>rU E cF λ_=>cB) cB) (fu u λcG=>Ms cG ba (AG u λcJ=>IL 2 u cJ λcM=>K (.tuple #[cM,Gg,jS,jS])) (oL λcN cO=>NH b λcR=>j8 cO cR (aw (gU cO λcT=>cN cT) λcU=>gL b λcW=>AK 5 cW cO 5 λcY=>Rl λcZ=>Gv 5 cZ cY cZ λc1=>jt c1 yK λc2=>aw (gL cZ λc4=>GC c4 Gg λc5=>sx c5 cZ λc6=>i6 c5 c6 λc7=>xI c5 c7 LW λc8=>oU c5 c8 cU (be (oZ cZ λdB=>NH b λdE=>vQ dB dE λdF=>gx dF (λK=>K r) λdG=>mB dF 3 cZ λdH=>i6 dF dH λdI=>CZ dF 1 dG dI λdJ=>i6 dF dJ λdK=>gx dF (λK=>K r) λdL=>gx dF (λK=>K cO) λdM=>CZ dF 1 dL dM λdN=>i6 dF dN λdO=>xj dF dK dO λdP=>jn dF dP λdQ=>pj dQ 3 cZ λdR=>nZ dQ dR λdS=>pj dQ 0 b λdT=>nZ dQ dT λdU=>HC dQ dU λdV=>uf dQ dS dV λdW=>jY dQ (λK=>K dW) λdX=>gx dX (λK=>K r) λdY=>gx dX (λK=>K cO) λdZ=>CZ dX 1 dY dZ λd0=>i6 dX d0 λd1=>xj dX d1 lF λd2=>wD dQ dX d2 λd3=>pP dQ d3 cU (K (.tuple #[cO,lR,jS,jS]))))) λd5=>aj c2 (lq r cO λd7=>lq s d7 λd9=>sr s cO 1 d9 λ_=>d5) d5) (K (.tuple #[ba,ba,r,s]))))))) (gA 8 [ba] q q λeB=>andP (andP ab (andP (jo l m) ab)) (gA 8 [ba] n n λeC=>andP (andP ab ab) (GX λeD eE eF=>NH b λeI=>j8 eF eI (DF [(0,1,lF)] λeK=>Kc λeL=>rU eL eK λ_=>fu eE λeM=>AQ eM ba λeN=>aw (gL eL λeP=>sr eC eF 1 eP λ_=>sr eB eF 1 lF λ_=>gL b λeT=>AK 5 eT eF 5 λeV=>ac 64 [eV] λeW=>og eW (K (.tuple #[eF,Hb,jS,jS])) (gL b λeZ=>IL 5 eZ eF λe2=>jt e2 LI λe3=>mB e3 1 eL λe4=>i6 e3 e4 λe5=>xI e3 e5 Ad λe6=>jn e3 e6 λe7=>jY e7 (λK=>K e2) λe8=>uf e7 e8 Kj λe9=>jY e7 (λK=>K e9) λfA=>mB fA 1 eL λfB=>i6 fA fB λfC=>xI fA fC NR λfD=>wD e7 fA fD λfE=>wN e7 fE λfF=>jY fF (λK=>K e2) λfG=>uf fF fG S1 λfH=>jY fF (λK=>K fH) λfI=>mB fI 1 eL λfJ=>i6 fI fJ λfK=>xI fI fK Kj λfL=>wD fF fI fL λfM=>wN fF fM λfN=>jY fN (λK=>K e2) λfO=>uf fN fO yK λfP=>jY fN (λK=>K fP) λfQ=>mB fQ 1 eL λfR=>i6 fQ fR λfS=>xI fQ fS Ad λfT=>wD fN fQ fT λfU=>pP fN fU (K (.tuple #[eF,Gg,jS,jS])) (jt e2 Ad λfW=>cr (λfX=>cr (λfY=>gU eF λfZ=>eD fY fZ) λf0=>aj fX (fu eE λf1=>J8 f1 zH (K (.tuple #[eF,S7,jS,jS])) (DF [(0,1,eF),(1,1,e2)] λf3=>Et [ba,ba] 1 [(0,2,f3)] 2 16 eE λf5=>f0 f5)) (jt e2 LI λf6=>cr (λf7=>cr (λf8=>f0 f8) λf9=>aj f7 (gL eL λgB=>sr eB gB 1 eF λ_=>AG eE λgE=>zv 2 eE gE λgF=>f9 gF) (jt e2 Kj λgG=>aw (f9 eE) λgH=>aj gG (gL eL λgJ=>sr eB gJ 1 eF λ_=>AG eE λgM=>DF [(0,1,eF),(1,1,e2)] λgN=>af8 2 eE gM 2 gN λ_=>gH) gH)) λgP=>aj f6 (gP f6) (jt e2 S1 λgQ=>gP gQ))) λgR=>aj fW (gR fW) (jt e2 NR λgS=>gR gS)))) λgT=>aj eN (AG eE λgV=>tW eE gV 2 λgX=>rU eL gX λ_=>gT) gT) (fu eE λgY=>Ms gY ba (AG eE λg1=>IL 2 eE g1 λg4=>K (.tuple #[g4,Gg,jS,jS])) (oL λg5 g6=>NH b λg9=>j8 g6 g9 (aw (gU g6 λhB=>g5 hB) λhC=>gL b λhE=>AK 5 hE g6 5 λhG=>Rl λhH=>Gv 5 hH hG hH λhJ=>jt hJ yK λhK=>aw (gL hH λhM=>GC hM Gg λhN=>sx hN hH λhO=>i6 hN hO λhP=>xI hN hP LW λhQ=>oU hN hQ hC (be (oZ hH λhT=>NH b λhW=>vQ hT hW λhX=>gx hX (λK=>K eC) λhY=>mB hX 3 hH λhZ=>i6 hX hZ λh0=>CZ hX 1 hY h0 λh1=>i6 hX h1 λh2=>gx hX (λK=>K eC) λh3=>gx hX (λK=>K g6) λh4=>CZ hX 1 h3 h4 λh5=>i6 hX h5 λh6=>xj hX h2 h6 λh7=>jn hX h7 λh8=>pj h8 3 hH λh9=>nZ h8 h9 λiA=>pj h8 0 b λiB=>nZ h8 iB λiC=>HC h8 iC λiD=>uf h8 iA iD λiE=>jY h8 (λK=>K iE) λiF=>gx iF (λK=>K eC) λiG=>gx iF (λK=>K g6) λiH=>CZ iF 1 iG iH λiI=>i6 iF iI λiJ=>xj iF iJ lF λiK=>wD h8 iF iK λiL=>pP h8 iL hC (K (.tuple #[g6,lR,jS,jS]))))) λiN=>aj hK (lq eC g6 λiP=>lq eB iP λiR=>sr eB g6 1 iR λ_=>iN) iN) (K (.tuple #[ba,ba,eC,eB])))))))))
def qs:i8:=λa0 K=>jA a0 9 λd=>fu d λe=>oL λf g=>j8 g e (lq d g λj=>ac 63 [j] λk=>GC k Id λl=>gx l (λK=>K k) λm=>xI l m BZ λn=>oU l n (K kj) (gU g λp=>f p)) (K ny)
def Ey:i8:=λa0 K=>fw a0 λb=>mX #[ba,ba,ba,ba,iT,ba,ba,ba] λc=>be (Qf 0 b 5 λe=>j9 5 b λf=>ad f λg=>mA g [BZ] λh=>rQ ba [h] λi=>j9 6 b λj=>ad j λk=>mA k [WE] λl=>rQ ba [l] λm=>j9 7 b λn=>ad n λo=>mA o [agM] λp=>rQ ba [p] λq=>ac 65 [e] λr=>andP (andP (jo n o) (andP (jo j k) (andP (jo f g) (andP ab ab)))) (iz [ba,ba,ba,ba,iT,ba,ba,ba] [(0,5,r),(5,1,i),(6,1,m),(7,1,q)] λs=>adU 8 c s (br 8 c λt=>K t)))
def SB:i8:=λa0 K=>fw a0 λb=>oS b λc=>ac 65 [c] λd=>fh 5 b d λ_=>be (oS b λe=>gL b λg=>j9 1 b λh=>ad h λi=>j9 2 b λj=>ad j λk=>j9 4 b λl=>ad l λm=>j9 3 b λn=>ad n λo=>ac 66 [g] λp=>andP (andP (jo n o) (andP (jo l m) (andP (jo j k) (andP (jo h i) (andP ab (andP (HJ 5 b e) ab)))))) (ac 67 [i,k] λq=>andP (andP (jo n o) (andP (jo l m) (andP ab (andP ab (andP (HJ 5 b e) ab))))) (ac 68 [m] λr=>andP (andP (jo n o) (andP ab (andP (HJ 5 b e) ab))) (ac 69 [o] λs=>andP (andP ab (andP (HJ 5 b e) ab)) (uW [ba,ba,ba,ba,iT,Dx,Dx,Dx,Dx,ba] [(0,5,e),(5,1,p),(6,1,q),(7,1,r),(8,1,s)] λu=>andP (andP ab ab) (K u))))))
def Hq:i8:=λa0 K=>mA a0 [SV] λb=>rQ aeD [b] λc=>gA 8 [iT] c c λd=>sr d zH 1 ajH λ_=>K d
def J5:kV:=λa0 a1 K=>fw a1 λb=>aff λc=>br 10 b λd=>ac 70 [a0,d] λe=>aff λf=>fh 6 f e λ_=>zU 5 f λh=>va h λi=>aw (br 6 f λj=>D1 6 c j 6 c λk=>K k) λl=>aj i (Nw a0 9 a0 9 λ_=>l) l
def JW:tX:=λa0 a1 a2 K=>fw a1 λb=>br 8 b λc=>ac 37 [c] λd=>fh 8 b d λ_=>be (sy b λe=>j9 3 e λf=>ad f λg=>wY g λh=>mA a0 [h] λi=>rQ ba [i] λj=>br 8 b λk=>ac 71 [] λl=>andP (andP (HJ 8 b k) (andP (jo f g) ab)) (uW [ba,ba,ba,ba,ba,iT,ba,ba,ba,jS,ba,ba,kj,jS,ba,ba,Dx,ba,kj,jS,jS,Dx,jS,ba,iT,kj,ba] [(0,1,j),(1,8,k),(21,1,l),(10,1,lF)] λn=>andP (andP ab (andP ab ab)) (fu a2 λo=>mA o [Id] λp=>zv 1 a2 p λq=>fu q λr=>oL λs t=>j8 t r (AK 1 q t 1 λz=>mX #[jS] λA=>AD A z λ_=>be (oD n 9 λC=>ad C λD=>gL A λF=>ac 72 [F] λH=>andP (andP ab (andP (jo C D) ab)) (iz [jS] [(0,1,H)] λJ=>ck [jS] 1 [(0,1,J)] λL=>andP (andP (jo C D) ab) (fj 1 24 D L λM=>andP (andP ab ab) (Fa n 9 M (gU t λQ=>s Q)))))) (ac 73 [n] λR=>K n))))
def Ct:i8:=λa0 K=>jA a0 5 λd=>ac 74 [d] λe=>K e
def t7:i8:=λa0 K=>aea λb=>jA a0 11 λe=>tc e mh (wy a0 λi=>ac 75 [i] λj=>ku j λk=>ko j λl=>D1 10 b k 10 b λm=>K (.tuple #[m,l])) e lR (jA a0 23 λq=>ze [(0,1,Hb),(1,1,q)] b b λs=>K (.tuple #[s,ny])) (uP e zH (my a0 22 λA=>ze [(0,1,Hb),(1,1,A)] b b λC=>K (.tuple #[C,ny])) (ze [] b b λE=>K (.tuple #[E,kj])))
def r9:i8:=λa0 K=>jA a0 11 λd=>H9 d GB (K (.tuple #[])) (jA a0 26 λh=>wY h λi=>vX a0 26 i λ_=>Lu a0 26 ba λo=>aw (K (.tuple #[])) λp=>aj o (ac 76 [a0] λq=>p) p)
def tV:Uc:=λa0 a1 a2 a3 K=>fw a1 λb=>jA a0 11 λe=>jt e mh λf=>aw (K (.tuple #[])) λg=>aj f (wy a0 λj=>ac 77 [j] λk=>PU k k λm=>be (wy a0 λp=>br 6 b λq=>ac 78 [p,q] λr=>andP (andP ab (andP ab ab)) (wy a0 λu=>ac 77 [u] λx=>PU x x λA=>gx A (λK=>K m) λB=>Ef A B λC=>jn A C λD=>aw (wy a0 λH=>ac 79 [H] λJ=>Ao J λL=>aw g λM=>aj L (ac 80 [a0,a2,a3] λN=>M) M) λO=>aj D (vX a0 17 a3 λ_=>O) O))) (jt e lR λT=>aw g λU=>aj T (br 6 b λV=>ac 81 [a0,V,a2] λW=>U) (jt e zH λX=>aw U λY=>aj X (zU 5 b λaA=>Ao aA λaB=>aw (gL b λaD=>ac 82 [a0,aD] λaE=>Y) λaF=>aj aB (zas 0 b iT λ_=>aF) aF) Y))
def ux:tX:=λa0 a1 a2 K=>wy a0 λd=>iV .eql d Dx λe=>aj e (K (.tuple #[])) (wy a0 λh=>ac 83 [h] λi=>fu i λj=>oL λk l=>j8 l j (tW i l 2 λo=>Ny λp=>Gv 2 p o p λr=>GC r a1 λs=>pj s 1 p λt=>nZ s t λu=>jY s (λK=>K a2) λx=>uf s u x λz=>pP s z (gU l λB=>k B) (Lu a0 11 BZ λF=>aw (K (.tuple #[])) λH=>aj F (ac 76 [a0] λJ=>H) (Lu a0 11 mh λO=>gx O (λK=>K a0) λQ=>gx O (λK=>ji Q K) λR=>mB O 16 R λT=>i6 O T λU=>wS O 84 [U] λV=>jn O V λW=>aw H λX=>aj W (vX a0 18 ny λ_=>X) X))) (K (.tuple #[])))
def pI:i8:=λa0 K=>jA a0 19 λd=>fu d λe=>GX λf g h=>j8 h e (AK 14 d h 14 λk=>aiG λl=>D1 14 l k 14 l λm=>ac 86 [m] λn=>ahj 1 [(0,14,n)] 14 168 g λp=>gU h λq=>f p q) (Lu a0 11 mh λu=>cr (λx=>K x) λz=>aj u (wy a0 λC=>ac 77 [C] λD=>PU D D λF=>cr (λH=>z H) λJ=>aj F (ac 87 [a0,ba] λL=>ahj 1 [(0,14,L)] 14 168 g λN=>J N) (J g)) (z g))
def oA:kV:=λa0 a1 K=>vQ a1 ba λb=>jY b (λK=>K a1) λc=>jY b (λK=>K a0) λd=>jY b (λK=>ji d K) λe=>pj b 9 e λf=>nZ b f λg=>HC b g λh=>JN b c h λi=>pP b i (K Dx) (jA a0 9 λm=>lq m a1 λo=>K o)
def ql:i8:=λa0 K=>jA a0 20 λd=>ac 92 [d] λe=>K e
def MP:kV:=λa0 a1 K=>AG a1 λc=>lq a1 c λe=>tc e Ad (be (yJ [(0,1,LI)] λg=>zv 1 a1 c λh=>abz 1 [(0,5,g)] λi=>andP ab (fj 5 40 a0 i λj=>andP ab (K (.tuple #[j,h]))))) e NR (zv 1 a1 c λl=>fj 1 8 jS l λm=>Et [ba] 1 [(0,1,Kj)] 1 8 m λo=>yJ [(0,1,Kj)] λp=>Tp 1 [(0,5,p)] 5 40 a0 λr=>K (.tuple #[r,o])) (be (yJ [(0,1,S1)] λs=>zv 1 a1 c λt=>abz 1 [(0,5,s)] λu=>andP ab (fj 5 40 a0 u λx=>andP ab (K (.tuple #[x,t])))))
def PB:i8:=λa0 K=>ac 30 [a0,ba,Id] λb=>K b
def Hv:i8:=λa0 K=>fw a0 λb=>Rl λc=>be (mx b λe=>j9 2 b λf=>ad f λg=>j9 3 b λh=>ad h λi=>ac 61 [e] λj=>andP (andP (jo h i) (andP (jo f g) (andP ab ab))) (ac 61 [g] λk=>andP (andP (jo h i) (andP ab ab)) (ac 61 [i] λl=>andP (andP ab ab) (oZ b λn=>ac 30 [n,Id,LI] λo=>gL b λq=>ac 30 [q,ba,S1] λr=>va r λs=>cr (λt=>aj t (zU 4 b λx=>Lm [(0,1,mh),(1,1,j),(4,1,x)] 5 c 5 c λA=>K A) (tc r lR (zU 4 b λD=>He D ake λE=>Lm [(0,1,mh),(1,1,j),(4,1,E)] 5 c 5 c λH=>K H) r GB (Lm [(0,1,lR),(1,1,j),(2,1,k)] 5 c 5 c λM=>K M) (uP r BZ (zU 4 b λQ=>He Q akH λR=>Ke R λT=>ac 30 [T,ba,BZ] λU=>QQ GB U λV=>Lm [(0,1,V),(1,1,j),(2,1,k),(3,1,l)] 5 c 5 c λX=>K X) (jt r zH λY=>cr (λZ=>aj Z (Lm [(0,1,Hb),(1,1,j),(2,1,Fl),(3,1,o)] 5 c 5 c λaB=>K aB) (jt r Hb λaC=>cr (λaD=>aj aD (Lm [(0,1,S7),(1,1,Fl),(2,1,k),(3,1,o)] 5 c 5 c λaF=>K aF) (tc r Rr (oZ b λaI=>ac 30 [aI,ba,GB] λaJ=>Lm [(0,1,Hb),(1,1,j),(2,1,k),(3,1,aJ)] 5 c 5 c λaL=>K aL) r Gg (oZ b λaO=>ac 30 [aO,ba,GB] λaP=>Lm [(0,1,S7),(1,1,j),(2,1,k),(3,1,aP)] 5 c 5 c λaR=>K aR) (jt r LW λaS=>cr (λaT=>aj aT (Lm [(0,1,P4),(1,1,j),(2,1,k)] 5 c 5 c λaV=>K aV) (tc r LI (Lm [(0,1,Rr),(1,1,j)] 5 c 5 c λaY=>K aY) r yK (Lm [(0,1,Hb),(1,1,j),(2,1,Fl),(3,1,o)] 5 c 5 c λbB=>K bB) (Lm [(0,1,aaH),(1,1,j)] 5 c 5 c λbD=>K bD))) λbE=>aj aS (bE aS) (jt r Ad λbF=>bE bF)))) λbG=>aj aC (bG aC) (jt r S7 λbH=>cr (λbI=>bG bI) λbJ=>aj bH (bJ bH) (jt r P4 λbK=>bJ bK)))) λbL=>aj Y (bL Y) (jt r Id λbM=>cr (λbN=>bL bN) λbO=>aj bM (bO bM) (jt r Fl λbP=>bO bP)))))) λbQ=>aj s (bQ s) (jt r mh λbR=>bQ bR)))))
def sK:i8:=λa0 K=>jA a0 11 λd=>K d
def M4:i8:=λa0 K=>fw a0 λb=>gL b λd=>ac 94 [d] λe=>ku e λf=>ko e λg=>mX #[zx,ba,ba,ba,kj] λh=>fh 5 h f λ_=>rN g λi=>pj i 4 h λj=>nZ i j λk=>jY i (rN k) λl=>jY i (λK=>K l) λm=>mB m 4 b λn=>i6 m n λo=>xI m o iT λp=>wD i m p λq=>wN i q λr=>pj r 1 b λs=>nZ r s λt=>pj r 1 h λu=>nZ r u λx=>wn r 95 [t,x] λz=>jY r (rN z) λA=>wN r A λB=>pj B 2 b λC=>nZ B C λD=>pj B 2 h λE=>nZ B E λF=>wn B 95 [D,F] λH=>jY B (rN H) λJ=>wN B J λL=>pj L 3 b λM=>nZ L M λN=>pj L 3 h λO=>nZ L O λQ=>wn L 95 [N,Q] λR=>jY L (rN R) λT=>pP L T (K kj) (gL b λW=>GC W ad6 λX=>pj X 1 b λY=>nZ X Y λZ=>JN X Z mh λaA=>wN X aA λaB=>K aB)
def PN:i8:=λa0 K=>fw a0 λb=>Rl λc=>gL b λe=>mA e [SV] λf=>rQ aeD [f] λg=>mx b λi=>mA i [yK] λj=>rQ mh [j] λk=>zU 2 b λm=>mA m [yK] λn=>rQ mh [n] λo=>oZ b λq=>mA q [BZ] λr=>rQ mh [r] λs=>zU 4 b λu=>mA u [nD] λx=>Lm [(0,1,g),(1,1,k),(2,1,o),(3,1,s),(4,1,x)] 5 c 5 c λA=>K A
def QN:i8:=λa0 K=>mA a0 [SV] λb=>rQ aeD [b] λc=>gA 8 [iT] c c λd=>uW [jS] [(0,1,d)] λf=>K f
def Kx:kV:=λa0 a1 K=>be (ac 96 [a0,yK] λb=>andP ab (andP (gA 24 [iT,kj,ba] b b λc=>andP ab (ac 96 [a1,yK] λd=>andP ab (uW [jS,ba] [(0,1,c),(1,1,d)] λf=>andP ab (K f)))) (ac 96 [a1,yK] λg=>andP ab (gA 24 [iT,kj,ba] b b λh=>andP ab (uW [jS,ba] [(0,1,h),(1,1,g)] λj=>andP ab (K j))))))
def MF:i8:=λa0 K=>mA a0 [nD] λb=>uW [iT] [(0,1,b)] λd=>K d
def Mz:i8:=λa0 K=>mA a0 [BZ] λb=>rQ mh [b] λc=>gA 8 [iT] c c λd=>uW [jS] [(0,1,d)] λf=>K f
def JL:kV:=λa0 a1 K=>fw a1 λb=>aff λc=>aff λd=>gL b λf=>jt f mh λg=>aw (br 6 d λh=>D1 6 c h 6 c λi=>K i) λj=>qZ g (jA a0 5 λm=>mx b λo=>ac 97 [m,o] λp=>andP (andP ab (andP ab ab)) (ku p λq=>ko p λr=>Gm 0 d q (Gm 5 d r j))) (jt f lR λu=>aw j λx=>qZ u (jA a0 5 λB=>mx b λD=>oZ b λF=>ac 98 [B,D,F] λH=>andP (andP ab (andP ab (andP ab ab))) (Gm 5 d H x)) (jt f GB λL=>aw x λM=>qZ L (jA a0 6 λQ=>mx b λT=>ac 99 [Q,T] λU=>andP (andP ab (andP ab ab)) (ku U λV=>ko U λW=>j9 1 d λX=>Ba 3 X V ab (Gm 5 d W M))) (jt f BZ λZ=>aw M λaA=>qZ Z (jA a0 6 λaD=>mx b λaF=>Qf 4 b 3 λaH=>Qf 7 b 3 λaJ=>ac 100 [aD,aF,aH,aJ] λaK=>andP (andP ab (andP ab (andP ab (andP ab ab)))) (ku aK λaL=>ko aK λaM=>Gm 4 d aL (Gm 5 d aM aA))) (jt f zH λaP=>aw aA λaQ=>qZ aP (jA a0 6 λaT=>mx b λaV=>Qf 7 b 3 λaX=>ac 101 [aT,aV,aX] λaY=>andP (andP ab (andP ab (andP ab ab))) (Gm 5 d aY aQ)) (jt f Id λbA=>aw aQ λbB=>aj bA (jA a0 7 λbE=>ac 93 [bE] λbF=>zas 0 d bF λ_=>bB) (jt f Fl λbH=>aw bB λbI=>qZ bH (jA a0 7 λbL=>zU 2 b λbN=>oZ b λbP=>ac 102 [bL,bN,bP] λbQ=>andP (andP ab (andP ab (andP ab ab))) (ku bQ λbR=>ko bQ λbS=>Gm 4 d bR (Gm 5 d bS bI))) (jt f Hb λbV=>aw bI λbW=>qZ bV (jA a0 8 λbZ=>mx b λb1=>ac 103 [bZ,b1] λb2=>andP (andP ab (andP ab ab)) (ku b2 λb3=>ko b2 λb4=>Gm 0 d b3 (Gm 5 d b4 bW))) (jt f S7 λb7=>aw bW λb8=>qZ b7 (jA a0 8 λcB=>mx b λcD=>oZ b λcF=>ac 104 [cB,cD,cF] λcG=>andP (andP ab (andP ab (andP ab ab))) (Gm 5 d cG b8)) (zas 5 d mh λ_=>b8)))))))))
def MH:zV0:=λK=>uW [jS] [] λc=>K c
def tg:i8:=λa0 K=>QI .eql a0 jS (K jS) (abz 0 [] λc=>fj 5 40 c a0 λd=>K d)
def oY:i8:=λa0 K=>Nw a0 10 a0 10 λ_=>iz [kj,jS,ba,ba] [] λh=>oD a0 12 λj=>fh 4 j h λ_=>ac 76 [a0] λk=>K (.tuple #[])
def CH:i8:=λa0 K=>jv a0 λd=>ac 105 [d] λe=>K e
def qJ:i8:=λa0 K=>aea λb=>xq a0 λe=>tc e ba (jv a0 λi=>ze [(0,1,S7),(1,1,i),(3,1,Pe)] b b λk=>K (.tuple #[k,ny])) e mh (ze [(0,1,Id)] b b λn=>K (.tuple #[n,ny])) (tc e lR (be (jv a0 λr=>J6 a0 21 Pe λx=>zy9 [(0,1,S7),(1,1,r),(3,1,x)] λz=>NX 10 b z (br 10 b λA=>K (.tuple #[A,ny])))) e Fl (jv a0 λE=>ze [(0,1,S7),(1,1,E)] b b λH=>K (.tuple #[H,ny])) (uP e Hb (ze [] b b λM=>K (.tuple #[M,kj])) (jA a0 15 λQ=>PQ Tryz.prog Q "Next" [] λR=>ku R λT=>ko R λU=>D1 10 b T 10 b λV=>K (.tuple #[V,U]))))
def sE:i8:=λa0 K=>Dt a0 17 ba a0 18 kj λ_=>be (jA a0 10 λh=>my a0 9 λl=>uP h l (Dt a0 11 Id a0 16 Dx λ_=>K (.tuple #[])) (oD a0 12 λs=>gL s λu=>aw (vX a0 11 mh λ_=>K (.tuple #[])) λA=>aj u (oD a0 12 λC=>mx C λE=>fu E λF=>GX λH J L=>j8 L F (tW E L 2 λO=>Ny λQ=>Gv 2 Q O Q λT=>Et [ba] 1 [(0,1,T)] 1 8 J λV=>gU L λW=>H V W) (be (jv a0 λZ=>oD a0 1 λaB=>br 8 aB λaC=>ac 106 [Z,aC,J] λaD=>andP (andP ab (andP ab ab)) (Fa a0 16 aD A)))) (be (jv a0 λaI=>oD a0 1 λaK=>br 8 aK λaL=>jA a0 9 λaO=>jA a0 10 λaR=>AK 1 aO aR 1 λaT=>ac 107 [aI,aL,aT] λaU=>andP (andP ab (andP ab (andP ab (andP ab (andP ab ab))))) (Fa a0 16 aU A)))))
def qb:i8:=λa0 K=>be (jA a0 20 λd=>jA a0 19 λg=>K (.tuple #[d,g]))
def rh:kV:=λa0 a1 K=>fw a1 λb=>xq a0 λe=>uP e Hb (K (.tuple #[])) (zU 5 b λh=>pd h (zU 5 b λk=>ac 108 [a0,BZ,k,lF] λl=>vX a0 14 Hb λ_=>K (.tuple #[])) (xq a0 λq=>va q λr=>aw (K (.tuple #[])) λs=>aj r (vX a0 14 mh λ_=>s) (jt q mh λx=>aw s λz=>qZ x (sy b λA=>ad A λB=>sy b λC=>ad C λD=>Rk a0 19 ny (andP (jo C D) (andP (jo A B) ab)) (Rk a0 20 B (andP (jo C D) (andP ab ab)) (aay a0 21 D (vX a0 14 lR λ_=>z)))) (jt q lR λQ=>aw z λR=>aj Q (ac 109 [a0] λT=>R) (jt q Fl λU=>aw R λV=>aj U (vX a0 14 Hb λ_=>V) (be (jA a0 15 λaA=>br 6 b λaB=>PQ Tryz.prog aA "Tell" [aB] λaC=>andP (andP ab (andP ab ab)) (ac 110 [a0] λaD=>V))))))))
def sA:i8:=λa0 K=>xq a0 λd=>H9 d Hb (K ba) (jA a0 22 λh=>K h)
def sD:tX:=λa0 a1 a2 K=>wy a0 λd=>be (oD a0 19 λf=>ad f λg=>ac 87 [a0,a2] λh=>andP (andP (jo f g) ab) (ck [ba,ba,ba,kj,ba,ba,iT,iT,ba,ba,jS,jS,jS,zx] 1 [(0,14,h)] λi=>andP (andP (jo f g) ab) (fj 14 168 g i λj=>andP (andP ab ab) (Fa a0 19 j (oD a0 12 λn=>zU 2 n λp=>gU p λq=>oD a0 12 λs=>zas 2 s q λ_=>ac 79 [d] λu=>jt u zH λx=>aw (K (.tuple #[])) λz=>aj x (oD a0 12 λB=>oZ B λD=>gU D λE=>oD a0 12 λH=>zas 3 H E λ_=>be (ac 111 [d] λL=>andP ab (KO L ba λM=>gx M (λK=>K d) λN=>gx M (λK=>K a0) λO=>gx M (λK=>ji O K) λQ=>mB M 1 Q λR=>sx M R λT=>mB M 3 T λU=>i6 M U λV=>wS M 111 [N] λW=>andP (andP (i6 M U λv=>eqP v V) ab) (HW M W V λX=>oU M X (ac 111 [d] λZ=>Dt a0 11 lR a0 23 Z λ_=>vX a0 25 kj λ_=>K (.tuple #[])) (ac 112 [a0,a1] λaG=>z))))) (ac 79 [d] λaH=>jt aH GB λaI=>aw z λaJ=>aj aI (jA a0 18 λaM=>aj aM (ac 76 [a0] λaN=>K (.tuple #[])) (vX a0 11 BZ λ_=>aJ)) (oD a0 12 λaR=>gL aR λaT=>aw aJ λaU=>aj aT (ac 79 [d] λaV=>ac 113 [a0,aV] λaW=>aU) (be (oD a0 20 λaY=>ad aY λaZ=>ac 79 [d] λbA=>andP (andP (jo aY aZ) ab) (ac 114 [d] λbB=>andP (andP (jo aY aZ) ab) (ac 115 [d] λbC=>andP (andP (jo aY aZ) ab) (ac 116 [d] λbD=>andP (andP (jo aY aZ) ab) (iz [ba,ba,zx,iT] [(0,1,bA),(1,1,bB),(2,1,bC),(3,1,bD)] λbE=>ck [ba,ba,zx,iT] 1 [(0,4,bE)] λbF=>andP (andP (jo aY aZ) ab) (fj 4 40 aZ bF λbG=>andP (andP ab ab) (Fa a0 20 bG (be (oD a0 21 λbK=>ad bK λbL=>ac 116 [d] λbM=>andP (andP (jo bK bL) ab) (ac 118 [d] λbN=>andP (andP (jo bK bL) ab) (ac 117 [bL,bM,bN] λbO=>andP (andP ab ab) (ac 119 [a0] λbP=>aU))))))))))))))))))))
def sG:tX:=λa0 a1 a2 K=>fw a1 λb=>be (zU 5 b λd=>va d λe=>sx e b λf=>i6 e f λg=>xI e g iT λh=>jn e h λi=>gx i (λK=>K a0) λj=>gx i (λK=>ji j K) λk=>mB i 25 k λl=>i6 i l λm=>Ef i m λn=>gx i (λK=>K n) λo=>pj o 0 b λp=>nZ o p λq=>jY o (λK=>K a0) λr=>jY o (λK=>ji r K) λs=>pj o 24 s λt=>nZ o t λu=>uf o q u λx=>gx i (nf o ny x) λz=>oU i z (be (sy b λB=>ad B λC=>Rk a0 25 ny (andP (jo B C) ab) (aay a0 24 C (K (.tuple #[]))))) (ac 112 [a0,a2] λJ=>K (.tuple #[])))
def re:kV:=λa0 a1 K=>jA a0 22 λd=>Hk [iT] 1 [(0,1,a1)] 1 8 d a0 22 λ_=>ac 120 [a0] λi=>K (.tuple #[])
def qS:i8:=λa0 K=>jA a0 13 λd=>ac 121 [d] λe=>K e
def ol:i8:=λa0 K=>xq a0 λd=>GC d Hb λe=>gx e (λK=>K a0) λf=>gx e (λK=>ji f K) λg=>mB e 25 g λh=>i6 e h λi=>jn e i λj=>K j
def CA:i8:=λa0 K=>fw a0 λb=>aiG λc=>be (zU 10 b λe=>j9 11 b λf=>ad f λg=>j9 12 b λh=>ad h λi=>ac 126 [e] λj=>andP (andP (jo h i) (andP (jo f g) (andP ab ab))) (j9 10 b λk=>ac 126 [g] λl=>andP (andP (jo h i) (andP ab ab)) (ac 127 [i] λm=>andP (andP ab ab) (Ba 1 k j ab (Gm 11 b l (Gm 12 b m (br 14 b λp=>D1 14 c p 14 c λq=>K q)))))))
def uD:kV:=λa0 a1 K=>aiG λb=>wy a0 λe=>ac 77 [e] λf=>ku f λg=>ko f λh=>ac 79 [e] λi=>ac 128 [e] λj=>cr (λk=>be (oc a0 λm=>ad m λn=>oD a0 10 λp=>ad p λq=>NF a0 12 2 λt=>ad t λu=>NF a0 12 0 λA=>ad A λB=>oD a0 17 λD=>ad D λE=>ac 114 [e] λF=>andP (andP (jo D E) (andP (jo A B) (andP (jo t u) (andP (jo p q) (andP (jo m n) ab))))) (ac 116 [e] λH=>andP (andP (jo D E) (andP (jo A B) (andP (jo t u) (andP (jo p q) (andP (jo m n) ab))))) (ac 129 [e] λJ=>andP (andP (jo D E) (andP (jo A B) (andP (jo t u) (andP (jo p q) (andP (jo m n) ab))))) (ac 130 [e] λL=>andP (andP (jo D E) (andP (jo A B) (andP (jo t u) (andP (jo p q) (andP (jo m n) ab))))) (ac 118 [e] λM=>andP (andP (jo D E) (andP (jo A B) (andP (jo t u) (andP (jo p q) (andP (jo m n) ab))))) (ac 115 [e] λN=>andP (andP (jo D E) (andP (jo A B) (andP (jo t u) (andP (jo p q) (andP (jo m n) ab))))) (iz [ba,ba,ba,kj,ba,ba,iT,iT,ba,ba,jS,jS,jS,zx] [(0,1,n),(1,1,q),(2,1,u),(3,1,B),(4,1,k),(5,1,F),(6,1,g),(7,1,H),(8,1,E),(9,1,a1),(10,1,J),(11,1,L),(12,1,M),(13,1,N)] λO=>ag5 14 b O (br 14 b λQ=>K Q))))))))) λR=>aj j (R lR) (R i)
def o5:i8:=λa0 K=>QI .eql a0 jS (K jS) (ck [ba,ba,zx,iT] 0 [] λc=>fj 4 40 c a0 λd=>K d)
def yl:i8:=λa0 K=>jv a0 λd=>K d
def GO:i8:=λa0 K=>mX #[zx,ba,ba,ba,kj] λb=>tc a0 mh (Nu [(0,1,ld [115,101,116]),(1,1,Fl),(2,1,lF),(3,1,lF),(4,1,ny)] 5 b 5 b λe=>K (.tuple #[e,ny])) a0 lR (Nu [(0,1,ld [109,111,118,101]),(1,1,Fl),(2,1,Fl),(3,1,lF)] 5 b 5 b λh=>K (.tuple #[h,ny])) (jt a0 GB λi=>cr (λj=>aj j Ti (tc a0 Hb (Nu [(0,1,ld [108,111,97,100]),(1,1,Fl),(2,1,Fl),(3,1,LI)] 5 b 5 b λm=>K (.tuple #[m,ny])) a0 S7 (Nu [(0,1,ld [115,116,111,114,101]),(1,1,Fl),(2,1,Fl),(3,1,LI)] 5 b 5 b λp=>K (.tuple #[p,ny])) (tc a0 P4 (Nu [(0,1,ld [97,108,108,111,99]),(1,1,Fl),(2,1,Fl),(3,1,lF)] 5 b 5 b λs=>K (.tuple #[s,ny])) a0 Rr (Nu [(0,1,ld [102,114,101,101]),(1,1,Fl),(2,1,lF),(3,1,lF)] 5 b 5 b λx=>K (.tuple #[x,ny])) (tc a0 Gg (Nu [(0,1,ld [106,117,109,112]),(1,1,lF),(2,1,lF),(3,1,Qa)] 5 b 5 b λB=>K (.tuple #[B,ny])) a0 LW (Nu [(0,1,ld [122,101,114,111]),(1,1,Fl),(2,1,lF),(3,1,Qa)] 5 b 5 b λE=>K (.tuple #[E,ny])) (jt a0 Ad λF=>cr (λH=>aj H Ti (tc a0 aaH (Nu [(0,1,ld [101,109,105,116]),(1,1,Fl),(2,1,lF),(3,1,lF)] 5 b 5 b λM=>K (.tuple #[M,ny])) a0 afl (Nu [(0,1,ld [102,97,105,108]),(1,1,lF),(2,1,lF),(3,1,lF)] 5 b 5 b λQ=>K (.tuple #[Q,ny])) (uP a0 ad6 (wY Fl λT=>Nu [(0,1,ld [99,97,108,108]),(1,1,Gg),(2,1,Fl),(3,1,T)] 5 b 5 b λV=>K (.tuple #[V,ny])) (Nu [] 5 b 5 b λX=>K (.tuple #[X,kj]))))) λY=>aj F (Y F) (jt a0 LI λZ=>cr (λaA=>Y aA) λaB=>aj Z (aB Z) (jt a0 yK λaC=>cr (λaD=>aB aD) λaE=>aj aC (aE aC) (jt a0 NR λaF=>cr (λaG=>aE aG) λaH=>aj aF (aH aF) (jt a0 Kj λaI=>cr (λaJ=>aH aJ) λaK=>aj aI (aK aI) (jt a0 S1 λaL=>cr (λaM=>aK aM) λaN=>aj aL (aN aL) (jt a0 ad4 λaO=>aN aO))))))))))) λaP=>aj i (aP i) (jt a0 BZ λaQ=>cr (λaR=>aP aR) λaS=>aj aQ (aS aQ) (jt a0 zH λaT=>cr (λaU=>aS aU) λaV=>aj aT (aV aT) (jt a0 Id λaW=>cr (λaX=>aV aX) λaY=>aj aW (aY aW) (jt a0 Fl λaZ=>aY aZ)))))
def DZ:kV:=λa0 a1 K=>va a0 λb=>gx b (λK=>K a1) λc=>HW b c ba λd=>jn b d λe=>jY e (λK=>K a0) λf=>JN e f ba λg=>jY e (λK=>K g) λh=>gx h (λK=>K a0) λi=>gx h (λK=>K a1) λj=>z7 h .leq i j λk=>wD e h k λl=>wN e l λm=>K m
def GL:kV:=λa0 a1 K=>mA a0 [a1] λb=>rQ mh [b] λc=>K c
def Bo:kV:=λa0 a1 K=>ac 134 [a0,a1] λb=>og b (K (.tuple #[iT,lR])) (jv a0 λf=>lq f a1 λh=>K (.tuple #[h,ba]))
def zK:tX:=λa0 a1 a2 K=>ac 134 [a0,a1] λb=>og b (K lR) (jv a0 λf=>sr f a1 1 a2 λ_=>K ba)
def v8:kV:=λa0 a1 K=>mX #[iT,kj,ba] λb=>ac 135 [a0,a1] λc=>og c (iz [iT,kj,ba] [] λe=>D1 3 b e 3 b λf=>K (.tuple #[f,lR])) (jv a0 λi=>AK 3 i a1 3 λk=>D1 3 b k 3 b λl=>K (.tuple #[l,ba]))
def yb:Uc:=λa0 a1 a2 a3 K=>fw a2 λb=>fw a3 λc=>br 3 c λd=>ac 136 [a0,a1,d] λe=>pd e (K (.tuple #[kj,e])) (be (jv a0 λi=>AK 3 i a1 3 λk=>br 3 b λl=>nJ [.i .u64,.b,.i .i64] .neq k l λm=>aj m (K (.tuple #[kj,ba])) (be (jv a0 λp=>br 3 c λq=>qH 3 p a1 λr=>NX 3 r q (K (.tuple #[ny,ba]))))))
def uz:tX:=λa0 a1 a2 K=>fw a2 λb=>br 3 b λc=>ac 136 [a0,a1,c] λd=>va d λe=>aw (K d) λf=>qZ e (jv a0 λi=>br 3 b λj=>qH 3 i a1 λk=>NX 3 k j f) f
def zl:tX:=λa0 a1 a2 K=>zbc .leq a2 a1 (K (.tuple #[kj,mh])) (J8 a2 lx (K (.tuple #[kj,Fl])) (jv a0 λf=>H9 f a1 (K (.tuple #[kj,ba])) (vX a0 0 a2 λ_=>K (.tuple #[ny,ba]))))
def yD:kV:=λa0 a1 K=>ac 137 [a0,a1] λb=>og b (K (.tuple #[iT,lR])) (jv a0 λf=>lq f a1 λh=>K (.tuple #[h,ba]))
def wg:tX:=λa0 a1 a2 K=>ac 137 [a0,a1] λb=>og b (K lR) (jv a0 λf=>sr f a1 1 a2 λ_=>K ba)
def ns:i8:=λa0 K=>QI .eql a0 jS (K jS) (ck [iT] 0 [] λc=>fj 1 8 c a0 λd=>K d)
def Cv:tX:=λa0 a1 a2 K=>fw a1 λb=>br 8 b λc=>ac 138 [a0,c] λd=>ac 127 [a2] λe=>vX d 10 e λ_=>K d
def Hs:tX:=λa0 a1 a2 K=>fw a1 λb=>fw a2 λc=>br 8 b λd=>ac 138 [a0,d] λe=>be (br 1 c λf=>yk e λi=>oD e 1 λk=>zU 7 k λm=>ac 139 [f,i,m] λn=>andP (andP ab (andP ab (andP ab ab))) (Fa e 9 n (K e)))
def r8:Uc:=λa0 a1 a2 a3 K=>Dt a0 22 a1 a0 24 a2 λ_=>Dt a0 23 a3 a0 14 Fl λ_=>K (.tuple #[])
def rL:i8:=λa0 K=>ac 140 [a0] λb=>ku b λc=>ko b λd=>jt c mh λe=>aw (K (.tuple #[])) λf=>aj e (yk a0 λi=>ac 142 [i] λj=>ac 141 [a0,j] λk=>f) (jt c GB λl=>aw f λm=>aj l (vX a0 25 ny λ_=>ac 143 [a0,zH] λp=>m) (jt c BZ λq=>aw m λr=>aj q (ac 108 [a0,BZ,d,lF] λs=>r) (yk a0 λx=>ac 144 [x] λz=>fu z λA=>yn A (ac 108 [a0,lR,ba,lF] λC=>K (.tuple #[])) (be (oc a0 λE=>ad E λF=>NF a0 1 5 λL=>ad L λM=>oD a0 21 λO=>ad O λQ=>jA a0 13 λU=>NF a0 1 0 λX=>j9 1 X λY=>ad Y λZ=>NF a0 1 0 λaC=>j9 2 aC λaD=>ad aD λaE=>ac 121 [U] λaF=>andP (andP (jo aD aE) (andP (jo Y Z) (andP ab (andP (jo O Q) (andP (jo L M) (andP (jo E F) ab)))))) (ac 145 [F,M,Q,aF,z,Z,aE] λaG=>andP (andP ab (andP ab (andP ab (andP ab (andP ab ab))))) (Fa a0 18 aG (jA a0 18 λaL=>tq 217 aL λaM=>ac 146 [a0,Id,aM] λaN=>r))))))))
def qR:i8:=λa0 K=>jA a0 15 λd=>PQ Tryz.prog d "End" [] λe=>va e λf=>aw (ac 128 [a0] λg=>aw (K (.tuple #[])) λh=>aj g (jA a0 18 λk=>ac 148 [k] λl=>vX a0 21 l λ_=>h) h) λo=>aj f o (jt e zH λp=>aw o λq=>aj p (jA a0 15 λt=>PQ Tryz.prog t "By" [] λu=>ac 108 [a0,zH,ba,u] λx=>q) (ac 147 [a0] λz=>q))
def um:i8:=λa0 K=>xq a0 λd=>H9 d Hb (K lF) (jA a0 23 λh=>K h)
def sP:kV:=λa0 a1 K=>oD a0 12 λc=>oZ c λe=>mA e [Hb] λf=>W8 mh λg h i=>j8 i f (ap .mul lR h λk=>mA k [Hb] λl=>gU i λm=>g l m) (Ke a1 λn=>gU h λo=>He n o λp=>Dt a0 26 p a0 11 GB λ_=>Lu a0 26 ba λA=>aw (K (.tuple #[])) λB=>aj A (ac 76 [a0] λC=>B) B)
def sL:kV:=λa0 a1 K=>jt a1 BZ λb=>aw (ac 73 [a0] λc=>K (.tuple #[])) λd=>aj b (oD a0 12 λf=>mx f λh=>fu h λi=>oL λj k=>j8 k i (tW h k 2 λn=>Ny λo=>rU o n λ_=>be (oD a0 21 λq=>ad q λr=>j9 1 o λs=>ad s λt=>gL o λx=>ck [ba] 1 [(0,1,x)] λz=>andP (andP ab (andP (jo s t) (andP (jo q r) ab))) (ac 117 [r,t,z] λA=>andP (andP ab (andP ab ab)) (gU k λB=>j B)))) d) d
def sF:i8:=λa0 K=>xq a0 λd=>H9 d Hb (K ba) (jA a0 24 λh=>K h)
def qq:i8:=λa0 K=>ac 149 [a0] λb=>rN b λc=>jY c (λK=>K a0) λd=>jY c (λK=>ji d K) λe=>pj c 9 e λf=>nZ c f λg=>jY c (iV .eql g Dx) λh=>pP c h (K zx) (jA a0 9 λl=>ac 150 [l] λm=>ac 151 [m] λn=>K n)
def qz:i8:=λa0 K=>jA a0 21 λd=>K d
def yT:tX:=λa0 a1 a2 K=>fu a2 λb=>oL λc d=>j8 d b (lq a2 d λg=>jv a0 λj=>NC [(0,1,g),(1,1,a1)] λk=>Hk [ba,iT] 1 [(0,2,k)] 2 16 j a0 0 λ_=>gU d λp=>c p) (K (.tuple #[]))
def qy:i8:=λa0 K=>ac 149 [a0] λb=>og b (K jS) (jA a0 9 λf=>iV .eql f Dx λg=>aj g (jA a0 10 λj=>ac 127 [j] λk=>K k) (yk a0 λn=>ac 152 [n] λo=>K o))
def vd:i8:=λa0 K=>jA a0 21 λd=>ac 153 [d] λe=>yn e (ac 73 [a0] λg=>K (.tuple #[])) (Dt a0 11 zH a0 22 jS λ_=>ac 120 [a0] λl=>K (.tuple #[]))
def uB:i8:=λa0 K=>be (my a0 22 λe=>jv a0 λh=>jt e h λi=>aw (be (my a0 22 λm=>NF a0 1 0 λp=>oZ p λr=>j8 m r (K (.tuple #[])) (be (jA a0 21 λx=>jA a0 22 λB=>ac 154 [x,B] λC=>andP (andP ab (andP ab ab)) (fu C λD=>yn D (ac 73 [a0] λF=>K (.tuple #[])) (iz [kj,jS,ba,ba] [(0,1,ny),(1,1,C)] λH=>oD a0 12 λL=>fh 4 L H λ_=>ac 76 [a0] λM=>K (.tuple #[]))))))) λN=>aj i (jA a0 22 λR=>Hk [iT] 1 [(0,1,iT)] 1 8 R a0 22 λ_=>N) N)
def zE:i8:=λa0 K=>ng a0 λd=>ac 155 [d] λe=>K e
def lK:i8:=λa0 K=>QI .eql a0 jS (K jS) (Oh 0 [] λc=>fj 2 16 c a0 λd=>K d)
def rx:i8:=λa0 K=>QI .eql a0 jS (K jS) (ck [ba] 0 [] λc=>fj 1 8 c a0 λd=>K d)
def oX:i8:=λa0 K=>xq a0 λd=>GC d Hb λe=>gx e (λK=>K a0) λf=>gx e (λK=>ji f K) λg=>mB e 18 g λh=>i6 e h λi=>gx e (iV .neq i Dx) λj=>jn e j λk=>gx k (λK=>K a0) λl=>gx k (λK=>ji l K) λm=>mB k 18 m λn=>i6 k n λo=>wS k 156 [o] λp=>gx k (λK=>K p) λq=>jY q (λK=>K a0) λr=>jY q (λK=>ji r K) λs=>pj q 18 s λt=>nZ q t λu=>wn q 157 [u] λx=>uf q x lR λz=>gx k (nf q ny z) λA=>jn k A λB=>K B
def qB:i8:=λa0 K=>yk a0 λd=>ac 158 [d] λe=>K e
def qj:i8:=λa0 K=>ac 149 [a0] λb=>og b (K jS) (yk a0 λf=>ac 144 [f] λg=>K g)
def Ee:kV:=λa0 a1 K=>KO a1 mh λb=>gx b (λK=>K a1) λc=>gx b (λK=>K a0) λd=>gx b (λK=>ji d K) λe=>sx b e λf=>i6 b f λg=>gx b (fu g) λh=>HW b c h λi=>jn b i λj=>K j
def zb:kV:=λa0 a1 K=>KO a1 ba λb=>gx b (λK=>K a1) λc=>gx b (λK=>K a0) λd=>gx b (λK=>ji d K) λe=>sx b e λf=>i6 b f λg=>gx b (fu g) λh=>HW b c h λi=>jn b i λj=>K j
def xS:tX:=λa0 a1 a2 K=>fw a2 λb=>ac 135 [a0,a1] λc=>og c (K lR) (br 3 b λe=>ac 161 [e] λf=>og f (K mh) (K ba))
def AJ:kV:=λa0 a1 K=>KO a1 ba λb=>gx b (λK=>K a1) λc=>gx b (λK=>K a0) λd=>gx b (λK=>ji d K) λe=>sx b e λf=>i6 b f λg=>gx b (fu g) λh=>HW b c h λi=>jn b i λj=>K j
def Cq:kV:=λa0 a1 K=>fw a1 λb=>br 8 b λc=>ac 37 [c] λd=>fh 8 b d λ_=>be (br 8 b λe=>sy b λf=>gL f λh=>zU 6 b λj=>ac 162 [h,j] λk=>andP (andP ab (andP ab (andP (HJ 8 b e) ab))) (ac 163 [yK] λl=>andP (andP (HJ 8 b e) ab) (uW [ba,ba,ba,ba,ba,iT,ba,ba,ba,Dx,jS,ba,Dx,Dx,ba,.nilIface,Dx,Dx,Dx,kj,iT,iT,ba,ba,ba,kj] [(0,1,a0),(1,8,e),(12,1,k),(13,1,l),(23,1,lF)] λn=>andP (andP ab ab) (K n))))
def JC:tX:=λa0 a1 a2 K=>fw a0 λb=>gL b λd=>fj 5 40 jS d λe=>zas 0 b e λ_=>br 1 b λg=>ac 164 [g] λh=>PU h h λj=>be (br 1 b λk=>br 1 b λl=>mA a2 [agM] λm=>rQ ba [m] λn=>ac 165 [l] λo=>andP (andP ab (andP (HJ 1 b k) ab)) (ac 166 [] λp=>andP (andP (HJ 1 b k) ab) (uW [jS,Dx,jS,ba,ba,ba,iT,iT,iT,iT,iT,iT,iT,iT,Dx,ba,ba,ba,jS] [(0,1,k),(1,1,a1),(2,1,o),(3,1,j),(14,1,p),(17,1,n)] λr=>andP (andP ab ab) (K r))))
def ut:i8:=λa0 K=>jA a0 9 λd=>iV .neq d Dx λe=>qZ e (jA a0 9 λh=>oD a0 9 λj=>ad j λk=>ac 167 [h] λl=>andP (andP (jo j k) (andP ab ab)) (ac 168 [k] λm=>andP (andP ab ab) (K (.tuple #[l,m])))) (Io λn=>be (jA a0 11 λq=>my a0 10 λu=>j8 q u (be (yk a0 λB=>jA a0 10 λE=>jA a0 11 λJ=>lq E J λM=>ac 169 [B,M] λN=>andP (andP ab (andP ab (andP ab (andP ab ab)))) (tc N ba (Nw a0 11 a0 11 λ_=>n) N Rr (K (.tuple #[mh,ba])) (K (.tuple #[BZ,N]))))) (K (.tuple #[lR,ba]))))
def sR:kV:=λa0 a1 K=>be (oc a0 λc=>ad c λd=>NF a0 1 0 λg=>mx g λi=>NF a0 1 0 λl=>zU 2 l λn=>NF a0 1 5 λq=>ad q λr=>oD a0 21 λt=>ad t λu=>ac 171 [a1,i,n] λx=>andP (andP (jo t u) (andP (jo q r) (andP ab (andP ab (andP (jo c d) ab))))) (ac 170 [d,a1,x,r,u] λz=>andP (andP ab (andP ab (andP ab ab))) (Fa a0 16 z (wy a0 λE=>tq 215 E λF=>ac 146 [a0,GB,F] λH=>K (.tuple #[])))))
def A2:i8:=λa0 K=>jA a0 3 λd=>K d
def qw:kV:=λa0 a1 K=>be (oc a0 λc=>ad c λd=>NF a0 1 5 λg=>ad g λh=>jA a0 13 λk=>ac 121 [k] λl=>andP (andP ab (andP (jo g h) (andP (jo c d) ab))) (ac 172 [d,h,l] λm=>andP (andP ab (andP ab ab)) (Fa a0 17 m (jA a0 17 λr=>tq 216 r λs=>ac 146 [a0,a1,s] λt=>K (.tuple #[])))))
def zm:i8:=λa0 K=>lY a0 λd=>ac 173 [d] λe=>K e
def I9:zV7:=λa0 a1 a2 a3 a4 a5 a6 K=>ac 174 [a0,a1] λb=>ac 155 [a3] λc=>ac 126 [a4] λd=>ac 175 [a4,a5,a6] λe=>uW [ba,ba,ba,ba,ba,ba,iT,jS,jS,jS,jS,ba,ba,iT,kj,ba,iT,kj,ba,ba,ba] [(0,5,b),(5,1,a0),(6,1,a2),(7,1,c),(8,1,d),(9,1,e)] λg=>ac 176 [g] λh=>K g
def kC:tX:=λa0 a1 a2 K=>Dt a0 14 a1 a0 15 a2 λ_=>K (.tuple #[])
def qe:i8:=λa0 K=>xq a0 λd=>jt d GB λe=>aw (K (.tuple #[])) λf=>aj e (ac 177 [a0] λg=>f) (jt d BZ λh=>aw f λi=>aj h (jA a0 17 λl=>ac 178 [l] λm=>vX a0 21 m λ_=>yk a0 λr=>ac 142 [r] λs=>ac 141 [a0,s] λt=>i) (jt d zH λu=>aw i λx=>aj u (jA a0 17 λB=>ac 178 [B] λC=>vX a0 21 C λ_=>ac 108 [a0,GB,ba,lF] λF=>x) (jt d Id λH=>aw x λJ=>qZ H (jA a0 18 λN=>oD a0 18 λQ=>ad Q λR=>ac 157 [N] λT=>andP (andP (jo Q R) (andP ab ab)) (ac 179 [R] λU=>andP (andP ab ab) (ac 108 [a0,T,U,lF] λV=>andP ab J))) J)))
def sM:i8:=λa0 K=>jA a0 17 λd=>og d (K iT) (J6 a0 16 Pe λi=>K i)
def nS:i8:=λa0 K=>ac 79 [a0] λb=>jt b lR λc=>jY c (λK=>K a0) λd=>wn c 128 [d] λe=>wN c e λf=>K f
def si:i8:=λa0 K=>xq a0 λd=>ac 180 [d] λe=>K e
def xh:i8:=λa0 K=>my a0 0 λe=>gA 16 [zx] e e λf=>jv a0 λi=>fu i λj=>oL λk l=>j8 l j (lq i l λo=>ac 181 [o] λp=>sr f l 1 p λ_=>gU l λr=>k r) (ac 182 [f,ld [32]] λs=>K s)
def zL:i8:=λa0 K=>lY a0 λd=>ac 183 [d] λe=>K e
def zQ:i8:=λa0 K=>my a0 0 λe=>K e
def xg:kV:=λa0 a1 K=>jv a0 λd=>fu d λe=>Yu jS jS ba λf g h i=>j8 i e (tW d i 2 λl=>Ny λm=>rU m l λ_=>mx m λo=>ac 184 [a1,o] λp=>xz (λq r=>gU i λs=>f q r s) λt=>aj p (lE m λu=>Et [ba,iT] 1 [(0,2,u)] 2 16 g λz=>t z h) (lE m λA=>Et [ba,iT] 1 [(0,2,A)] 2 16 h λC=>t g C)) (vX a0 0 h λ_=>K g)
def lM:i8:=λa0 K=>QI .eql a0 jS (K jS) (Oh 0 [] λc=>fj 2 16 c a0 λd=>K d)
def qc:i8:=λa0 K=>jA a0 17 λd=>gx d (λK=>K a0) λe=>wS d 157 [e] λf=>xj d f ba λg=>jn d g λh=>K h
def po:i8:=λa0 K=>oc a0 λc=>ac 185 [c] λd=>K d
def zG:i8:=λa0 K=>my a0 1 λe=>gA 16 [ba,iT] ba e λf=>ng a0 λi=>fu i λj=>W8 f λk l m=>j8 m j (lq i m λp=>jv a0 λs=>IL 2 s p λx=>NC [(0,1,p),(1,1,x)] λz=>Et [ba,iT] 1 [(0,2,z)] 2 16 l λB=>gU m λC=>k B C) (K l)
def ST:i8:=λa0 K=>fw a0 λb=>mx b λd=>aj d (gL b λf=>vQ f lx λg=>mB g 2 b λh=>i6 g h λi=>wS g 186 [i] λj=>jn g j λk=>K k) (gL b λm=>vQ m lx λn=>mB n 2 b λo=>i6 n o λp=>xj n p ba λq=>jn n q λr=>K r)
def P0:kV:=λa0 a1 K=>be (mA a0 [SV] λb=>rQ aeD [b] λc=>andP (gA 16 [iT,kj] c c λd=>andP ab (ac 187 [a1] λe=>andP ab (uW [jS,jS,Dx,ba] [(0,1,d),(2,1,e)] λg=>andP ab (K g)))) (ac 187 [a1] λh=>andP ab (gA 16 [iT,kj] c c λi=>andP ab (uW [jS,jS,Dx,ba] [(0,1,i),(2,1,h)] λk=>andP ab (K k)))))
def MG:i8:=λa0 K=>mA a0 [yK] λb=>rQ mh [b] λc=>uW [ba,jS] [(0,1,c)] λe=>K e
def Mx:i8:=λa0 K=>fw a0 λb=>NH b λe=>va e λf=>pj f 0 b λg=>nZ f g λh=>HC f h λi=>Ae f .gtr i Qa λj=>pP f j (K (.tuple #[ba,BZ])) (gL b λm=>fu m λn=>GX λo p q=>j8 q n (AK 5 m q 5 λt=>Rl λu=>D1 5 u t 1 b λx=>oS u λz=>ac 188 [x,p,z] λA=>pd A (K (.tuple #[q,A])) (gL u λD=>ac 189 [p,q,D] λE=>gU q λF=>o E F)) (fu p λH=>Ms H ba (ac 190 [p] λL=>K (.tuple #[L,Gg])) (be (br 1 b λM=>br 1 b λN=>ac 192 [N] λO=>andP (andP ab (andP (HJ 1 b M) ab)) (ac 191 [M,O] λQ=>andP (andP ab ab) (ku Q λR=>ko Q λT=>K (.tuple #[R,T])))))))
def GS:i8:=λa0 K=>fw a0 λb=>br 1 b λc=>ac 164 [c] λd=>PU d d λf=>pd f (K jS) (br 1 b λh=>ac 192 [h] λi=>NH b λl=>gA 8 [ba] l l λm=>fu m λn=>oL λo p=>j8 p n (sr m p 1 lF λ_=>gU p λs=>o s) (gL b λu=>fu u λx=>oL λz A=>j8 A x (AK 5 u A 5 λD=>Rl λE=>Gv 5 E D E λH=>ac 193 [H] λJ=>AQ J ba λL=>aw (gU A λM=>z M) λN=>aj L (lq i A λQ=>sr m Q 1 A λ_=>N) N) (gL b λU=>fu U λV=>oL λW X=>j8 X V (AK 5 U X 5 λaA=>Rl λaB=>Gv 5 aB aA aB λaD=>jt aD yK λaE=>aw (gU X λaF=>W aF) λaG=>aj aE (lq i X λaI=>lq m aI λaK=>sr m X 1 aK λ_=>aG) aG) (K m))))
def Mo:zV0:=λK=>uW [jS] [] λc=>K c
def wF:i8:=λa0 K=>Io λb=>jA a0 5 λe=>yn e (aw b λg=>jA a0 3 λj=>pd j (jA a0 3 λn=>ac 194 [a0,n] λo=>g) (be (jA a0 15 λr=>oc a0 λt=>NH t λz=>uP r z (vX a0 5 lR λ_=>g) (jA a0 17 λF=>yn F (ac 194 [a0,Id] λJ=>g) (Nw a0 15 a0 16 λ_=>be (oc a0 λU=>gL U λW=>jA a0 15 λZ=>AK 5 W Z 5 λaB=>ac 195 [a0,aB] λaC=>andP (andP ab (andP ab (andP ab ab))) (va aC λaD=>aw g λaE=>aj aD (wy a0 λaH=>vX a0 15 aH λ_=>jA a0 17 λaM=>wY aM λaN=>vX a0 17 aN λ_=>aE) (uP aC Rr (K mh) (ac 194 [a0,aC] λaR=>aE))))))))) (jA a0 5 λaU=>K aU)
def wi:i8:=λa0 K=>jA a0 4 λd=>K d
def JX:kV:=λa0 a1 K=>ac 196 [a0,a1] λb=>ku b λc=>ko b λd=>ib 2 b λe=>va e λf=>gx f (λK=>K d) λg=>jn f g λh=>cr (λi=>pd i (K i) (ac 198 [c] λk=>ac 197 [a0,k] λl=>ku l λm=>ko l λn=>pd n (K n) (NC [(0,1,a1),(1,1,m)] λp=>ac 198 [c] λq=>DY a1 λr=>NC [(0,1,q),(1,1,r)] λs=>Oh 2 [(0,2,p),(2,2,s)] λt=>ac 199 [a0,t] λu=>K u))) λx=>aj h (x lR) (x e)
def MW:zV5:=λa0 a1 a2 a3 a4 K=>ac 174 [a0,a3] λb=>uW [ba,ba,ba,ba,ba,ba,ba,iT,ba,iT,kj,ba,iT] [(0,5,b),(5,1,a1),(6,1,a2),(7,1,a4)] λd=>K d
def Na:tX:=λa0 a1 a2 K=>j8 a0 ba (K lF) (be (ac 96 [a2,yK] λc=>andP ab (ap .quo a0 c λd=>ac 96 [a1,yK] λe=>andP ab (He d e λf=>K f))))
def Kq:tX:=λa0 a1 a2 K=>ac 174 [a0,a1] λb=>ac 155 [a2] λc=>uW [ba,ba,ba,ba,ba,jS,kj,ba,iT] [(0,5,b),(5,1,c)] λe=>K e
def lr:i8:=λa0 K=>mX #[jS] λb=>ji a0 λc=>zU 1 c λe=>ac 200 [e] λf=>J9 233 f (λJ R g h=>ac 201 [WE] λi=>ji h λj=>zU 0 j λl=>ac 203 [l] λm=>ac 202 [i,m] λn=>ad b λo=>ac 202 [i,o] λp=>ac 203 [i] λq=>fh 1 b q λ_=>J) (λK=>ad b λr=>K r) (λK=>K jS) K
def E3:kV:=λa0 a1 K=>mX #[ba,ba,ba,ba,ba] λb=>mA a1 [BZ] λc=>rQ ba [c] λd=>iz [ba,ba,ba,ba,ba] [(0,1,a0),(1,1,d),(3,1,lF)] λe=>D1 5 b e 5 b λf=>K f
def Av:tX:=λa0 a1 a2 K=>fu a0 λb=>GX λc d e=>j8 e b (tW a0 e 2 λh=>Ny λi=>Gv 2 i h i λk=>ac 171 [k,a1,a2] λl=>KO l ba λm=>cr (λn=>gU e λo=>c n o) λp=>aj m (Et [ba] 1 [(0,1,l)] 1 8 d λr=>p r) (p d)) (ac 204 [d] λs=>ac 205 [d] λt=>K t)
def tT:i8:=λa0 K=>vX a0 11 ba λ_=>be (my a0 10 λg=>my a0 9 λk=>jt g k λl=>aw (K (.tuple #[])) λm=>aj l (vX a0 11 lR λ_=>m) m)
def oV:i8:=λa0 K=>wy a0 λd=>ac 206 [d] λe=>uP e Id (ac 143 [a0,BZ] λg=>K (.tuple #[])) (be (oD a0 13 λi=>ad i λj=>wy a0 λm=>ac 208 [m] λn=>andP (andP ab (andP (jo i j) ab)) (ac 207 [j,n] λo=>andP (andP ab ab) (va o λp=>aw (K (.tuple #[])) λq=>qZ p (oD a0 12 λs=>ad s λt=>yk a0 λz=>oD a0 16 λB=>ad B λC=>ac 142 [z] λD=>andP (andP (jo B C) (andP ab (andP (jo s t) ab))) (ac 210 [C] λE=>andP (andP ab (andP (jo s t) ab)) (ac 209 [t,D,E] λF=>andP (andP ab ab) (ac 109 [a0] λH=>q)))) (jt o Ad λJ=>aw q λL=>aj J (ac 108 [a0,zH,ba,lF] λM=>L) (ac 108 [a0,BZ,o,lF] λN=>L))))))
def sq:i8:=λa0 K=>ac 211 [a0] λb=>H9 b lR (K iT) (jA a0 8 λf=>K f)
def ww:i8:=λa0 K=>oc a0 λc=>ac 212 [c] λd=>K d
def yC:i8:=λa0 K=>jv a0 λd=>ac 213 [d] λe=>uW [jS] [(0,1,e)] λg=>K g
def JS:i8:=λa0 K=>tJ 22 iT a0 λb=>ko b λc=>ku b λd=>aj c (ac 214 [d,P4] λe=>K e) (tJ 4 kj a0 λf=>ko f λg=>ku f λh=>aj g (aj h (K (ld [121,101,115])) (K (ld [110,111]))) (K (ld [110,111,110,101])))
def acX:kV:=λa0 a1 K=>fu a0 λb=>tc b ba (K zx) b mh (lq a0 ba λf=>K f) Ti
def rZ:i8:=λa0 K=>ng a0 λd=>fu d λe=>GX λf g h=>j8 h e (lq d h λk=>ng k λn=>fj 1 8 g n λo=>gU h λp=>f o p) (K g)
def D7:kV:=λa0 a1 K=>fu a0 λb=>oL λc d=>j8 d b (lq a0 d λg=>GC g iT λh=>gx h (λK=>K g) λi=>gx h (λK=>K a1) λj=>z7 h .leq i j λk=>oU h k (K kj) (gU d λm=>c m)) (K ny)
def qg:i8:=λa0 K=>lY a0 λd=>K d
def Mn:i8:=λa0 K=>KO a0 ba λb=>gx b (λK=>K a0) λc=>HW b c BZ λd=>jn b d λe=>K e
def J7:i8:=λa0 K=>mA a0 [WE] λb=>rQ ba [b] λc=>ac 218 [] λd=>ck [Dx] 1 [(0,1,d)] λe=>uW [ba,jS] [(0,1,c),(1,1,e)] λg=>K g
def Hi:tX:=λa0 a1 a2 K=>fw a0 λb=>fw a2 λc=>oS c λd=>ac 219 [d] λe=>og e (K Hb) (be (gL c λh=>ac 193 [h] λi=>andP (andP ab ab) (AQ i ba λj=>gx j (λK=>K a1) λk=>gx j (λK=>br 1 b K) λl=>sx j c λm=>i6 j m λn=>wS j 220 [k,l] λo=>andP (andP (i6 j m λv=>eqP v n) (andP ab ab)) (wS j 193 [n] λp=>andP (andP ab ab) (xI j o p λq=>oU j q (K Gg) (gL c λt=>jt t yK λu=>gx u (λK=>K a1) λx=>gx u (λK=>br 1 b K) λz=>wS u 220 [x,z] λA=>xI u A Ad λB=>oU u B (K Gg) (gL c λE=>ac 221 [E] λF=>gx F (λK=>K a1) λH=>gx F (fu H) λJ=>z7 F .geq J zH λL=>oU F L (K S7) (K ba))))))))
def uZ:tX:=λa0 a1 a2 K=>ac 193 [a2] λb=>AQ b ba λc=>cr (λd=>ac 221 [a2] λe=>jY e (λK=>K a2) λf=>uf e f Kj λg=>wN e g λh=>cr (λi=>K i) λj=>aj h (Et [ba] 1 [(0,1,a1)] 1 8 d λl=>j l) (j d)) λm=>aj c (AG a0 λo=>zv 1 a0 o λp=>m p) (m a0)
def ud:i8:=λa0 K=>fu a0 λb=>yn b (K lF) (AG a0 λe=>lq a0 e λg=>K g)
def GZ:kV:=λa0 a1 K=>fw a0 λb=>gL b λd=>fu d λe=>oL λf g=>j8 g e (aw (gU g λi=>f i) λj=>AK 5 d g 5 λl=>Rl λm=>Gv 5 m l m λo=>ac 222 [o] λp=>og p j (be (oZ m λs=>NH b λx=>AQ s x λz=>pj z 3 m λA=>nZ z A λB=>pj z 0 b λC=>nZ z C λD=>HC z D λE=>uf z B E λF=>jY z (λK=>K F) λH=>gx H (λK=>K a1) λJ=>gx H (λK=>K g) λL=>CZ H 1 J L λM=>i6 H M λN=>xI H N lF λO=>wD z H O λQ=>wN z Q λR=>pj R 3 m λT=>nZ R T λU=>pj R 0 b λV=>nZ R V λW=>HC R W λX=>Ae R .lss U X λY=>jY R (λK=>K Y) λZ=>gx Z (λK=>K a1) λaA=>mB Z 3 m λaB=>i6 Z aB λaC=>CZ Z 1 aA aC λaD=>i6 Z aD λaE=>gx Z (λK=>K a1) λaF=>gx Z (λK=>K g) λaG=>CZ Z 1 aF aG λaH=>i6 Z aH λaI=>xI Z aE aI λaJ=>wD R Z aJ λaK=>pP R aK (K (.tuple #[g,lR])) j))) (K (.tuple #[ba,ba]))
def Cr:i8:=λa0 K=>fw a0 λb=>NH b λe=>gA 8 [ba] e e λf=>gL b λh=>fu h λi=>GX λj k l=>j8 l i (AK 5 h l 5 λo=>Rl λp=>fh 5 p o λ_=>ac 190 [k] λq=>sr f l 1 q λ_=>gL p λt=>ac 189 [k,l,t] λu=>gU l λx=>j u x) (K f)
def KG:i8:=λa0 K=>tc a0 LI (K Ad) a0 Kj (K NR) (uP a0 S1 (K Kj) (K ba))
def uL:kV:=λa0 a1 K=>Dt a0 5 BZ a0 4 a1 λ_=>K (.tuple #[])
def p8:kV:=λa0 a1 K=>fw a1 λb=>be (mx b λd=>He d Hb λe=>oD a0 6 λg=>nM 8 1 g e λh=>zU 2 b λj=>He j Hb λk=>oD a0 6 λm=>nM 8 1 m k λn=>ad n λo=>oZ b λq=>He q Hb λr=>oD a0 6 λt=>nM 8 1 t r λu=>ad u λx=>gL b λA=>jt A mh λB=>aw (K ba) λC=>aj B (zU 4 b λE=>TZ h E λ_=>C) (jt A lR λH=>aw C λJ=>aj H (TZ h o λ_=>J) (jt A GB λM=>aw J λN=>aj M (QQ o x λO=>TZ h O λ_=>N) (jt A BZ λR=>aw N λT=>aj R (Ih o x λU=>TZ h U λ_=>T) (jt A zH λW=>aw T λX=>aj W (ap .mul o x λY=>TZ h Y λ_=>X) (jt A Id λaA=>aw X λaB=>aj aA (vQ o x λaC=>ac 223 [aC] λaD=>TZ h aD λ_=>aB) (jt A Fl λaF=>aw aB λaG=>aj aF (jt o x λaH=>ac 223 [aH] λaI=>TZ h aI λ_=>aG) (jt A Gg λaK=>aw aG λaL=>aj aK (oZ b λaN=>vX a0 16 aN λ_=>aL) (jt A LW λaQ=>aw aL λaR=>aj aQ (VD h λaT=>jt aT iT λaU=>aw aR λaV=>aj aU (oZ b λaX=>vX a0 16 aX λ_=>aV) aV) (tc A aaH (be (xq a0 λbD=>VD h λbF=>ac 224 [bD,bF] λbG=>andP (andP ab (andP ab ab)) (og bG (K zH) aR))) A afl (K LW) (uP A ad6 (oS b λbK=>ac 225 [a0,bK] λbL=>K bL) (jt A Hb λbM=>cr (λbN=>aj bN (oS b λbO=>ac 226 [a0,bO,h,o] λbP=>K bP) (oS b λbQ=>ac 227 [a0,bQ] λbR=>K bR)) λbS=>aj bM (bS bM) (jt A S7 λbT=>cr (λbU=>bS bU) λbV=>aj bT (bV bT) (jt A P4 λbW=>cr (λbX=>bV bX) λbY=>aj bW (bY bW) (jt A Rr λbZ=>bY bZ)))))))))))))))
def Hy:kV:=λa0 a1 K=>ap .leq a1 Ad λb=>jY b (λK=>K a1) λc=>jY b (λK=>K a0) λd=>wn b 228 [d] λe=>JN b c e λf=>pP b f (K (.tuple #[ba,kj,lR])) (wY a1 λh=>ac 197 [a0,h] λi=>ku i λj=>ko i λk=>pd k (K (.tuple #[ba,kj,k])) (ac 229 [j] λm=>ku m λn=>ko m λo=>yn n (K (.tuple #[ba,kj,lR])) (K (.tuple #[n,o,ba]))))
def A8:kV:=λa0 a1 K=>ac 230 [a0,a1] λb=>og b (K (.tuple #[iT,lR])) (lY a0 λf=>ac 231 [f,a1] λg=>ku g λh=>ko g λi=>aj i (K (.tuple #[h,ba])) (jv a0 λl=>tW l a1 2 λn=>mX #[iT,kj] λo=>rU o n λ_=>mx o λq=>aj q (gL o λs=>K (.tuple #[s,ba])) (vX a0 3 a1 λ_=>K (.tuple #[iT,Rr]))))
def K2:i8:=λa0 K=>QQ ba a0 λb=>K b
def Bj:kV:=λa0 a1 K=>fu a1 λb=>oL λc d=>j8 d b (tW a1 d 2 λg=>Ny λh=>Gv 2 h g h λj=>ac 230 [a0,j] λk=>og k (K lR) (gU d λm=>c m)) (lY a0 λp=>ac 232 [p,a1] λq=>K q)
def ik:i8:=λa0 K=>fw a0 λb=>K (.func (.func 233) #[] #[b])
def Km:i8:=λa0 K=>mA a0 [WE] λb=>rQ ba [b] λc=>uW [ba,jS] [(0,1,c)] λe=>K e
def uH:kV:=λa0 a1 K=>ac 203 [a0] λb=>fu a1 λc=>oL λd e=>j8 e c (tW a1 e 2 λh=>Ny λi=>Gv 2 i h i λk=>mx i λm=>ac 234 [a0,k,m] λn=>pd n (vX a0 1 b λ_=>K n) (gU e λr=>d r)) (K ba)
def we:i8:=λa0 K=>ng a0 λd=>ac 126 [d] λe=>K e
def Ve:i8:=λa0 K=>fu a0 λb=>DY b λc=>ac 236 [c] λd=>ac 235 [a0,ba,b,d] λe=>K (.tuple #[])
def za:i8:=λa0 K=>oc a0 λc=>ac 185 [c] λd=>K d
def zz:kV:=λa0 a1 K=>fw a1 λb=>gL b λd=>vQ d ba λe=>pj e 0 b λf=>nZ e f λg=>JN e g yK λh=>wN e h λi=>pj i 1 b λj=>nZ i j λk=>JN i k lx λl=>pP i l (K mh) (gL b λo=>ac 237 [a0,o] λp=>ku p λq=>ko p λr=>aj r (mx b λt=>H9 q t (K Ad) (K ba)) (be (my a0 1 λB=>jv a0 λE=>uP B E (K zH) (be (oD a0 1 λJ=>ad J λL=>lE b λM=>Oh 1 [(0,2,M)] λN=>andP (andP ab (andP (jo J L) ab)) (fj 2 16 L N λO=>andP (andP ab ab) (Fa a0 1 O (K ba))))))))
def xi:i8:=λa0 K=>Ny λb=>ac 206 [a0] λc=>H9 c lR (NC [] λe=>D1 2 b e 2 b λf=>K f) (be (jA a0 6 λi=>oD a0 9 λk=>gL k λm=>NC [(0,1,i),(1,1,m)] λn=>NX 2 b n (lE b λo=>K o)))
def Aw:tX:=λa0 a1 a2 K=>ac 230 [a0,a1] λb=>og b (K lR) (jv a0 λf=>tW f a1 2 λh=>mX #[iT,kj] λi=>rU i h λ_=>mx i λk=>aj k (gL i λm=>H9 m a2 (K Ad) (K ba)) (jv a0 λq=>iz [iT,kj] [(0,1,a2),(1,1,ny)] λr=>af8 2 q a1 2 r λ_=>ng a0 λx=>Hk [ba] 1 [(0,1,a1)] 1 8 x a0 1 λ_=>K ba))
def xW:i8:=λa0 K=>ac 206 [a0] λb=>H9 b lR (K iT) (yk a0 λf=>K f)
def wj:i8:=λa0 K=>oc a0 λc=>ac 185 [c] λd=>K d
def qh:i8:=λa0 K=>jA a0 4 λd=>K d
def B4:i8:=λa0 K=>QI .eql a0 jS (K jS) (ck [.nilIface] 0 [] λc=>fj 1 16 c a0 λd=>K d)
def t9:kV:=λa0 a1 K=>ac 238 [a0,a1] λb=>K b
def Fu:zV0:=λK=>ac 201 [WE] λb=>uW [Dx,jS] [(0,1,b)] λd=>K d
def O6:i8:=λa0 K=>fw a0 λb=>gL b λd=>ac 241 [d] λe=>ku e λf=>ko e λg=>ib 2 e λh=>Kc λi=>Kc λj=>Kc λk=>rU i f λ_=>rU j g λ_=>Gv 2 k h b λm=>ac 242 [m] λn=>yu .neq n zx λo=>gx o (λK=>lE i K) λp=>mB o 1 b λq=>i6 o q λr=>ad1 o [p,r] λs=>jn o s λt=>gx t (λK=>lE j K) λu=>mB t 2 b λx=>i6 t x λz=>ad1 t [u,z] λA=>jn t A λB=>gx B (λK=>lE k K) λC=>mB B 3 b λD=>i6 B D λE=>ad1 B [C,E] λF=>jn B F λH=>mB H 4 b λJ=>i6 H J λL=>xj H L iT λM=>gx H (λK=>K M) λN=>pj N 0 b λO=>nZ N O λQ=>uf N Q mh λR=>gx H (nf N ny R) λT=>jn H T λU=>K U
def AX:kV:=λa0 a1 K=>fw a1 λb=>fu a0 λc=>yn c (K ba) (be (sy b λe=>ad e λf=>ac 190 [a0] λg=>andP (andP (jo e f) ab) (IL 5 f g λj=>K j)))
def Ex:i8:=λa0 K=>jt a0 Ad λb=>jY b (λK=>K a0) λc=>uf b c NR λd=>wN b d λe=>K e
def Ks:i8:=λa0 K=>jt a0 Gg λb=>jY b (λK=>K a0) λc=>uf b c LW λd=>wN b d λe=>K e
def D2:i8:=λa0 K=>aj a0 (K Pe) (K iT)
def vu:kV:=λa0 a1 K=>tq 22 a1 λb=>ac 244 [a0,b] λc=>K c
def uC:kV:=λa0 a1 K=>fw a1 λb=>be (zU 2 b λd=>QQ Id d λe=>oZ b λg=>oD a0 6 λi=>nM 8 1 i g λj=>ad j λk=>oZ b λm=>gU m λn=>oD a0 6 λp=>nM 8 1 p n λq=>ad q λr=>mx b λt=>tc t mh (be (oS b λx=>oD a0 1 λA=>ad A λB=>ac 245 [a0,x] λC=>andP (andP (jo A B) (andP ab ab)) (ac 246 [B,e,k] λD=>andP (andP ab ab) (ku D λE=>ko D λF=>yL Tryz.prog C [E,F] λH=>andP ab (K H))))) t lR (be (oS b λL=>oD a0 1 λN=>ad N λO=>ac 245 [a0,L] λQ=>andP (andP (jo N O) (andP ab ab)) (ac 247 [O,e,k] λR=>andP (andP ab ab) (ku R λT=>ko R λU=>yL Tryz.prog Q [T,U] λV=>andP ab (K V))))) (tc t GB (be (oS b λX=>oD a0 1 λZ=>ad Z λaA=>ac 245 [a0,X] λaB=>andP (andP (jo Z aA) (andP ab ab)) (ac 248 [aA,e,k] λaC=>andP (andP ab ab) (ku aC λaD=>ko aC λaE=>yL Tryz.prog aB [aD,aE] λaF=>andP ab (K aF))))) t BZ (be (oS b λaH=>oD a0 1 λaJ=>ad aJ λaK=>ac 245 [a0,aH] λaL=>andP (andP (jo aJ aK) (andP ab ab)) (ac 249 [aK,e,k,r] λaM=>andP (andP ab ab) (ku aM λaN=>ko aM λaO=>yL Tryz.prog aL [aN,aO] λaP=>andP ab (K aP))))) (tc t zH (be (oS b λaR=>oD a0 1 λaT=>ad aT λaU=>ac 250 [a0,aR] λaV=>andP (andP (jo aT aU) (andP ab ab)) (ac 251 [aU,e,k] λaW=>andP (andP ab ab) (ku aW λaX=>ko aW λaY=>ib 2 aW λaZ=>yL Tryz.prog aV [aX,aY,aZ] λbA=>andP ab (K bA))))) t Id (be (oS b λbC=>oD a0 1 λbE=>ad bE λbF=>ac 245 [a0,bC] λbG=>andP (andP (jo bE bF) (andP ab ab)) (ac 252 [bF,e,k] λbH=>andP (andP ab ab) (ku bH λbI=>ko bH λbJ=>yL Tryz.prog bG [bI,bJ] λbK=>andP ab (K bK))))) (tc t Fl (ac 253 [a0,e,k] λbM=>K bM) t Hb (oS b λbO=>ac 254 [a0,bO,e] λbP=>K bP) (tc t S7 (be (oS b λbR=>oD a0 1 λbT=>ad bT λbU=>ac 245 [a0,bR] λbV=>andP (andP (jo bT bU) (andP ab ab)) (ac 255 [bU,e,k,r] λbW=>andP (andP ab ab) (ku bW λbX=>ko bW λbY=>yL Tryz.prog bV [bX,bY] λbZ=>andP ab (K bZ))))) t P4 (be (oS b λb1=>oD a0 1 λb3=>ad b3 λb4=>ac 250 [a0,b1] λb5=>andP (andP (jo b3 b4) (andP ab ab)) (ac 256 [b4,e,k] λb6=>andP (andP ab ab) (ku b6 λb7=>ko b6 λb8=>ib 2 b6 λb9=>yL Tryz.prog b5 [b7,b8,b9] λcA=>andP ab (K cA))))) (uP t Rr (be (oS b λcC=>oD a0 1 λcE=>ad cE λcF=>ac 245 [a0,cC] λcG=>andP (andP (jo cE cF) (andP ab ab)) (ac 257 [cF,e,k] λcH=>andP (andP ab ab) (ku cH λcI=>ko cH λcJ=>yL Tryz.prog cG [cI,cJ] λcK=>andP ab (K cK))))) (ng a0 λcN=>ac 258 [cN,e,k,r] λcO=>ku cO λcP=>ko cO λcQ=>oS b λcR=>ac 250 [a0,cR] λcS=>fu cP λcT=>DY cT λcU=>yL Tryz.prog cS [cU,ny,cQ] λcV=>K cV)))))))
def sn:Uc:=λa0 a1 a2 a3 K=>fw a1 λb=>gL b λd=>tc d Hb (oZ b λg=>ac 259 [a3,g] λh=>ku h λi=>ko h λj=>pd j (K j) (ng a0 λn=>ac 197 [n,i] λo=>ku o λp=>ko o λq=>va q λr=>aw (K q) λs=>aj r (TZ a2 p λ_=>s) s)) d S7 (be (VD a2 λz=>oZ b λB=>ac 259 [z,B] λC=>andP (andP ab (andP ab ab)) (ku C λD=>ko C λE=>pd E (K E) (ng a0 λL=>ac 260 [L,D,a3] λM=>K M)))) (uP d P4 (J8 a3 oE (K GB) (ng a0 λT=>Ke a3 λU=>ac 261 [T,U] λV=>ku V λW=>ko V λX=>va X λY=>aw (K X) λZ=>aj Y (DY W λaA=>TZ a2 aA λ_=>Z) Z)) (VD a2 λaD=>J8 aD oE (K lR) (be (ng a0 λaH=>VD a2 λaJ=>Ke aJ λaK=>ac 262 [aH,aK] λaL=>andP (andP ab (andP ab ab)) (K aL)))))
def uN:kV:=λa0 a1 K=>fw a1 λb=>gL b λd=>jt d Ad λe=>cr (λf=>qZ f (gL b λh=>jA a0 15 λk=>ac 263 [a0,h,k] λl=>andP (andP ab (andP ab ab)) (K l)) (jt d LI λm=>cr (λn=>aj n (ac 264 [a0] λo=>ng a0 λr=>ac 265 [r] λs=>K s) (tc d Kj (ac 264 [a0] λu=>be (lY a0 λA=>jA a0 15 λD=>lq A D λF=>gU F λH=>aho a0 16 H (ng a0 λO=>ac 265 [O] λQ=>K Q))) d yK (ac 264 [a0] λT=>ac 266 [a0,T] λU=>be (lY a0 λX=>jA a0 15 λaA=>lq X aA λaC=>gU aC λaD=>aho a0 16 aD (ng a0 λaI=>ac 267 [aI] λaJ=>K aJ))) (ac 268 [a0] λaK=>K aK))) λaL=>aj m (aL m) (jt d S1 λaM=>aL aM))) λaN=>aj e (aN e) (jt d NR λaO=>aN aO)
def A6:i8:=λa0 K=>my a0 0 λe=>K e
def DR:i8:=λa0 K=>KO a0 Pe λb=>gx b (λK=>K a0) λc=>z7 b .leq c zu4 λd=>oU b d (Ke a0 λf=>K (.tuple #[f,kj])) (KO a0 zu9 λg=>gx g (λK=>K a0) λh=>z7 g .leq h akr λi=>oU g i (Ih a0 zu8 λk=>Ke k λl=>K (.tuple #[l,ny])) (K (.tuple #[ba,kj])))
def Fe:kV:=λa0 a1 K=>KO a1 mh λb=>gx b (λK=>K a1) λc=>gx b (λK=>K a0) λd=>gx b (λK=>ji d K) λe=>sx b e λf=>i6 b f λg=>gx b (fu g) λh=>HW b c h λi=>jn b i λj=>K j
def ma:kV:=λa0 a1 K=>fw a1 λb=>mX #[iT] λc=>mX #[kj] λd=>ji a0 λe=>zU 1 e λg=>ac 200 [g] λh=>J9 233 h (λJ R i j=>be (ji j λk=>zU 0 k λm=>ad b λn=>ac 269 [m,n] λo=>andP (andP ab (andP ab ab)) (ib 0 o λp=>ib 1 o λq=>aj q (fh 1 c p λ_=>fh 1 d ny λ_=>R) J))) (λK=>fh 1 c iT λ_=>fh 1 d kj λ_=>ad c λr=>ad d λs=>K (.tuple #[r,s])) (λK=>ad c λt=>ad d λu=>K (.tuple #[t,u])) K
def uY:kV:=λa0 a1 K=>ac 201 [WE] λb=>ac 270 [a0] λc=>jv c λf=>ac 203 [f] λg=>ac 202 [b,g] λh=>fu a1 λi=>oL λj k=>j8 k i (tW a1 k 2 λn=>Ny λo=>Gv 2 o n o λq=>mx o λs=>ac 271 [a0,q,s] λt=>pd t (ac 270 [a0] λx=>vX x 0 b λ_=>K t) (gU k λB=>j B)) (K ba)
def Ak:kV:=λa0 a1 K=>ad a1 λb=>AG b λd=>xK d λe f=>J8 f ba (ad a1 λh=>lq h f λj=>yL Tryz.prog a0 [f,j] λk=>og k (K (.tuple #[])) (wY f λm=>e m)) (K (.tuple #[]))
def wh:tX:=λa0 a1 a2 K=>vQ a1 mh λb=>jY b (λK=>K a1) λc=>JN b c SV λd=>pP b d (K lR) (ac 272 [a0,a1] λf=>J8 f ba (ng a0 λj=>qH 2 j f λk=>zas 1 k a2 λ_=>K ba) (be (my a0 1 λp=>jv a0 λs=>J8 p s (K zH) (ng a0 λz=>NC [(0,1,a1),(1,1,a2)] λA=>Hk [ba,iT] 1 [(0,2,A)] 2 16 z a0 1 λ_=>K ba))))
def yS:kV:=λa0 a1 K=>ng a0 λd=>fu d λe=>oL λf g=>j8 g e (tW d g 2 λj=>Ny λk=>Gv 2 k j k λm=>uP m a1 (mx k λp=>K (.tuple #[p,ny])) (gU g λq=>f q)) (K (.tuple #[iT,kj]))
def mG:kV:=λa0 a1 K=>uP a1 P4 (j8 a0 ai6 (Ke a0 λd=>ac 284 [d] λe=>K e) (mX #[.int .u8 0,.int .u8 0,.int .u8 0,.int .u8 0,.int .u8 0,.int .u8 0,.int .u8 0,.int .u8 0,.int .u8 0,.int .u8 0,.int .u8 0,.int .u8 0,.int .u8 0,.int .u8 0,.int .u8 0,.int .u8 0,.int .u8 0,.int .u8 0,.int .u8 0,.int .u8 0,.int .u8 0,.int .u8 0,.int .u8 0,.int .u8 0] λf=>ac 285 [a0] λg=>Ti)) (ac 287 [jS,a0,a1,kj,kj] λh=>PU h h λj=>K j)
def Hm:i8:=λa0 K=>Kc λb=>Kc λc=>Kc λd=>DF [(1,1,Fl)] λe=>Kc λf=>rU f e λ_=>jt a0 mh λg=>cr (λh=>aw (be (lE b λi=>lE c λj=>lE d λk=>Ba 2 b i (andP (so d k) (andP (so c j) (andP ab ab))) (Ba 2 c j (andP (so d k) (andP ab ab)) (Zk 2 d k (lE b λl=>lE c λm=>lE d λn=>K (.tuple #[l,m,n])))))) λo=>aj h (lE f λp=>rU b p λ_=>o) (jt a0 lR λq=>cr (λr=>aw o λs=>qZ r (lE f λt=>lE f λu=>Ba 2 b t (andP (so f u) (andP ab ab)) (Zk 2 c u s)) (jt a0 GB λx=>cr (λz=>aw s λA=>qZ z (lE f λB=>lE f λC=>lE f λD=>Ba 2 b B (andP (so f D) (andP (so f C) (andP ab ab))) (Ba 2 c C (andP (so f D) (andP ab ab)) (Zk 2 d D A))) (jt a0 Hb λE=>cr (λF=>aw A λH=>qZ F (lE f λJ=>lE f λL=>DF [(1,1,LI)] λM=>Ba 2 b J (andP (so f L) (andP ab ab)) (Zk 2 c L (Ba 2 d M ab H))) (jt a0 Gg λN=>aw H λO=>aj N (DF [(1,1,Qa)] λQ=>rU d Q λ_=>O) (jt a0 LW λR=>aw O λT=>aj R (lE f λU=>DF [(1,1,Qa)] λV=>rU b U λ_=>rU d V λ_=>T) (jt a0 ad6 λW=>aw T λX=>aj W (DF [(0,1,mh),(1,1,Gg)] λY=>DF [(1,1,Fl)] λZ=>DF [(1,1,Id)] λaA=>rU b Y λ_=>rU c Z λ_=>rU d aA λ_=>X) X)))) λaB=>aj E (aB E) (jt a0 S7 λaC=>aB aC))) λaD=>aj x (aD x) (jt a0 BZ λaE=>cr (λaF=>aD aF) λaG=>aj aE (aG aE) (jt a0 zH λaH=>cr (λaI=>aG aI) λaJ=>aj aH (aJ aH) (jt a0 Id λaK=>cr (λaL=>aJ aL) λaM=>aj aK (aM aK) (jt a0 Fl λaN=>aM aN)))))) λaO=>aj q (aO q) (jt a0 P4 λaP=>aO aP))) λaQ=>aj g (aQ g) (jt a0 Rr λaR=>cr (λaS=>aQ aS) λaT=>aj aR (aT aR) (jt a0 aaH λaU=>aT aU))
def Mu:i8:=λa0 K=>ac 291 [] λb=>ac 290 [b,a0] λc=>K c
def yR:kV:=λa0 a1 K=>fw a0 λb=>gL b λd=>KO a1 d λe=>gx e (λK=>K a1) λf=>mB e 1 b λg=>i6 e g λh=>z7 e .leq f h λi=>jn e i λj=>K j
def zJ:kV:=λa0 a1 K=>my a0 0 λe=>J8 e yK (K kj) (jv a0 λi=>Hk [.nilIface] 1 [(0,1,a1)] 1 16 i a0 0 λ_=>K ny)
def rX:kV:=λa0 a1 K=>fw a0 λb=>fw a1 λc=>K (.func (.func 292) #[] #[b,c])
def OB:tX:=λa0 a1 a2 K=>fw a1 λb=>fw a2 λc=>HA λd=>O7 d kj b λe=>ac 294 [a0,e,.func (.func 295) #[] #[b,c,d]] λf=>ad d λg=>gx g (λK=>K f) λh=>xj g h ba λi=>jn g i λj=>K (.tuple #[j,f])
def Qe:tX:=λa0 a1 a2 K=>fw a1 λb=>fw a2 λc=>HA λd=>O7 d kj b λe=>ac 294 [a0,e,.func (.func 302) #[] #[b,c,d]] λf=>ad d λg=>gx g (λK=>K f) λh=>xj g h ba λi=>jn g i λj=>K (.tuple #[j,f])
def QF:tX:=λa0 a1 a2 K=>fw a1 λb=>fw a2 λc=>HA λd=>O7 d kj b λe=>ac 294 [a0,e,.func (.func 305) #[] #[b,c,d]] λf=>ad d λg=>gx g (λK=>K f) λh=>xj g h ba λi=>jn g i λj=>K (.tuple #[j,f])
def MB:Uc:=λa0 a1 a2 a3 K=>fw a1 λb=>fw a2 λc=>fw a3 λd=>HA λe=>O7 e kj b λf=>ac 294 [a0,f,.func (.func 306) #[] #[b,c,d,e]] λg=>ad e λh=>gx h (λK=>K g) λi=>xj h i ba λj=>jn h j λk=>K (.tuple #[k,g])
def rz:kV:=λa0 a1 K=>fw a0 λb=>fw a1 λc=>K (.func (.func 311) #[] #[b,c])
def MO:tX:=λa0 a1 a2 K=>fw a1 λb=>fw a2 λc=>mX #[iT] λd=>HA λe=>AD d iT λ_=>O7 e kj b λf=>ac 294 [a0,f,.func (.func 313) #[] #[b,c,d,e]] λg=>pd g (K (.tuple #[iT,kj,g])) (be (ad d λi=>ad e λj=>K (.tuple #[i,j,ba])))
def Ng:tX:=λa0 a1 a2 K=>fw a1 λb=>fw a2 λc=>HA λd=>O7 d kj b λe=>ac 294 [a0,e,.func (.func 314) #[] #[b,c,d]] λf=>ad d λg=>gx g (λK=>K f) λh=>xj g h ba λi=>jn g i λj=>K (.tuple #[j,f])
def vB:tX:=λa0 a1 a2 K=>ng a0 λd=>ac 315 [d,a1,a2] λe=>pd e (K e) (xq a0 λi=>ac 312 [i] λj=>og j (K zH) (K ba))
def ue:tX:=λa0 a1 a2 K=>fw a1 λb=>ng a0 λe=>ac 316 [e,a2] λf=>ku f λg=>ko f λh=>ib 2 f λi=>va i λj=>gx j (λK=>K h) λk=>Ef j k λl=>oU j l (ac 268 [a0] λn=>K n) (oS b λo=>ac 250 [a0,o] λp=>yL Tryz.prog p [g,h,i] λq=>K q)
def P5:Uc:=λa0 a1 a2 a3 K=>fw a1 λb=>fw a2 λc=>fw a3 λd=>HA λe=>O7 e kj b λf=>ac 294 [a0,f,.func (.func 317) #[] #[b,c,d,e]] λg=>ad e λh=>gx h (λK=>K g) λi=>xj h i ba λj=>jn h j λk=>K (.tuple #[k,g])
def Qk:tX:=λa0 a1 a2 K=>fw a1 λb=>fw a2 λc=>mX #[iT] λd=>HA λe=>AD d iT λ_=>O7 e kj b λf=>ac 294 [a0,f,.func (.func 321) #[] #[b,c,d,e]] λg=>pd g (K (.tuple #[iT,kj,g])) (be (ad d λi=>ad e λj=>K (.tuple #[i,j,ba])))
def P9:tX:=λa0 a1 a2 K=>fw a1 λb=>fw a2 λc=>HA λd=>O7 d kj b λe=>ac 294 [a0,e,.func (.func 322) #[] #[b,c,d]] λf=>ad d λg=>gx g (λK=>K f) λh=>xj g h ba λi=>jn g i λj=>K (.tuple #[j,f])
def KL:Uc:=λa0 a1 a2 a3 K=>fw a1 λb=>fw a2 λc=>fw a3 λd=>mX #[jS] λe=>ad b λf=>ac 294 [a0,f,.func (.func 324) #[] #[b,c,d,e]] λg=>pd g (K (.tuple #[jS,g])) (ad e λi=>K (.tuple #[i,ba]))
def Fz:kV:=λa0 a1 K=>KO a0 oE λb=>jY b (λK=>K a0) λc=>jY b (AF .i64 c) λd=>jY b (λK=>K a1) λe=>Ae b .add d e λf=>JN b f UT λg=>wN b g λh=>jY h (λK=>K a0) λi=>jY h (AF .i64 i) λj=>jY h (λK=>K a1) λk=>Ae h .add j k λl=>Ae h .lss l Id λm=>pP h m (K (.tuple #[ba,lR])) (Ke a0 λo=>QQ o a1 λp=>K (.tuple #[p,ba]))
def zA:tX:=λa0 a1 a2 K=>ac 230 [a0,a1] λb=>og b (K lR) (lY a0 λf=>ac 271 [f,a1,a2] λg=>K g)
def G3:kV:=λa0 a1 K=>ac 327 [a1] λb=>yn b (K (.tuple #[ba,GB])) (ac 198 [b] λd=>ac 197 [a0,d] λe=>ku e λf=>ko e λg=>pd g (K (.tuple #[ba,g])) (H9 f iT (ac 328 [a0,b,f] λj=>ku j λk=>ko j λl=>K (.tuple #[k,l])) (ac 329 [a0,b] λm=>ku m λn=>ko m λo=>K (.tuple #[n,o]))))
def JM:kV:=λa0 a1 K=>ac 196 [a0,a1] λb=>ku b λc=>ko b λd=>ib 2 b λe=>va e λf=>gx f (λK=>K d) λg=>Ef f g λh=>jn f h λi=>cr (λj=>va j λk=>cr (λl=>va l λm=>aw (K l) λn=>aj m (ac 330 [a0,a1] λo=>n) n) λp=>aj k (wY a1 λq=>DY c λr=>NC [(0,1,q),(1,1,r)] λs=>Oh 1 [(0,2,s)] λt=>ac 199 [a0,t] λu=>p u) (p j)) λx=>aj i (x lR) (x e)
def sc:tX:=λa0 a1 a2 K=>ng a0 λd=>ac 331 [d] λe=>pd e (K e) (be (oD a0 18 λh=>ad h λi=>oD a0 6 λk=>br 8 k λl=>xq a0 λo=>ac 332 [o] λp=>andP (andP ab (andP (HJ 8 k l) (andP (jo h i) ab))) (iz [ba,ba,iT,iT,iT,iT,iT,iT,iT,iT,ba] [(0,1,a1),(1,1,a2),(2,8,l),(10,1,p)] λq=>ck [ba,ba,iT,iT,iT,iT,iT,iT,iT,iT,ba] 1 [(0,11,q)] λr=>andP (andP ab (andP (jo h i) ab)) (fj 11 88 i r λs=>andP (andP ab ab) (Fa a0 18 s (K ba))))))
def sH:i8:=λa0 K=>ahT λb=>be (oD a0 18 λd=>ad d λe=>oD a0 18 λg=>ad g λh=>AG h λj=>qH 11 e j λk=>br 11 k λl=>ahT λm=>andP (andP (HJ 11 k l) (andP (jo g h) (andP (jo d e) ab))) (adU 11 m l (be (jA a0 18 λp=>my a0 18 λt=>wY t λu=>zv 11 p u λx=>Rk a0 18 x (andP ab (andP ab ab)) (br 11 m λB=>D1 11 b B 11 b λC=>K C)))))
def Ap:i8:=λa0 K=>lY a0 λd=>ac 333 [d] λe=>K e
def vA:kV:=λa0 a1 K=>fw a1 λb=>Qf 2 b 8 λd=>oD a0 6 λf=>fh 8 f d λ_=>be (xq a0 λi=>zU 10 b λk=>ac 334 [i,k] λl=>andP (andP ab (andP ab ab)) (K (.tuple #[])))
def Am:i8:=λa0 K=>lY a0 λd=>ac 335 [d] λe=>K e
def sO:i8:=λa0 K=>Io λb=>my a0 18 λf=>Ms f ba (ac 264 [a0] λh=>ahT λi=>fh 11 i h λ_=>ng a0 λl=>ac 267 [l] λm=>pd m (K m) (gL i λp=>uP p NR (br 11 i λr=>ac 266 [a0,r] λs=>be (lY a0 λx=>mx i λA=>lq x A λC=>gU C λD=>vX a0 16 D λ_=>ac 263 [a0,Kj,C] λH=>K H)) b)) (jA a0 15 λM=>Dt a0 16 M a0 5 GB λ_=>K ba)
def wE:kV:=λa0 a1 K=>ac 272 [a0,a1] λb=>J8 b ba (ng a0 λf=>OV 2 f b λi=>K (.tuple #[i,ny])) (K (.tuple #[iT,kj]))
def xD:i8:=λa0 K=>be (ng a0 λd=>my a0 1 λh=>wY h λi=>lq d i λk=>K k)
def vT:tX:=λa0 a1 a2 K=>vQ a1 mh λb=>jY b (λK=>K a1) λc=>JN b c SV λd=>pP b d (K lR) (ac 270 [a0] λf=>jv f λi=>ac 269 [i,a1] λj=>PU j j λl=>rN l λm=>gx m (λK=>K a0) λn=>wS m 336 [n] λo=>xj m o ba λp=>oU m p (K zH) (ac 234 [i,a1,a2] λr=>K r))
def tZ:kV:=λa0 a1 K=>fw a1 λb=>ng a0 λe=>ac 337 [e,.func (.func 338) #[] #[b]] λf=>K f
def I4:tX:=λa0 a1 a2 K=>gU a1 λb=>xK b λc d=>j8 d a2 (xK d λf g=>be (AQ g a1 λh=>gx h (λK=>K a0) λi=>gx h (λK=>K g) λj=>CZ h 1 i j λk=>i6 h k λl=>gx h (λK=>K a0) λm=>gx h (λK=>K g) λn=>z7 h .sub n mh λo=>CZ h 1 m o λp=>i6 h p λq=>wS h 279 [l,q] λr=>andP (andP ab (andP ab ab)) (oU h r (be (wY g λt=>wY g λu=>lq a0 u λz=>lq a0 g λB=>qH 1 a0 g λC=>NX 1 C z (qH 1 a0 t λD=>Ba 1 D B ab (wY g λE=>f E)))) (gU d λF=>c F)))) (K (.tuple #[]))
def ES:kV:=λa0 a1 K=>ac 344 [a0] λb=>gx b (λK=>K a1) λc=>wS b 344 [c] λd=>Ef b d λe=>jn b e λf=>jY f (λK=>K a0) λg=>jY f (λK=>K a1) λh=>Ae f .lss g h λi=>wN f i λj=>K j
def pQ:i8:=λa0 K=>j8 a0 P4 (gU a0 λc=>BK (ld [48,49,50,51,52,53,54,55,56,57,97,98,99,100,101,102,103,104,105,106,107,108,109,110,111,112,113,114,115,116,117,118,119,120,121,122]) (some a0) (some c) λd=>K d) (ap .mul a0 lR λe=>ap .mul a0 lR λf=>yF f λg=>BK (ld [48,48,48,49,48,50,48,51,48,52,48,53,48,54,48,55,48,56,48,57,49,48,49,49,49,50,49,51,49,52,49,53,49,54,49,55,49,56,49,57,50,48,50,49,50,50,50,51,50,52,50,53,50,54,50,55,50,56,50,57,51,48,51,49,51,50,51,51,51,52,51,53,51,54,51,55,51,56,51,57,52,48,52,49,52,50,52,51,52,52,52,53,52,54,52,55,52,56,52,57,53,48,53,49,53,50,53,51,53,52,53,53,53,54,53,55,53,56,53,57,54,48,54,49,54,50,54,51,54,52,54,53,54,54,54,55,54,56,54,57,55,48,55,49,55,50,55,51,55,52,55,53,55,54,55,55,55,56,55,57,56,48,56,49,56,50,56,51,56,52,56,53,56,54,56,55,56,56,56,57,57,48,57,49,57,50,57,51,57,52,57,53,57,54,57,55,57,56,57,57]) (some e) (some g) λh=>K h)
def Jv:kV:=λa0 a1 K=>vQ a1 ba λb=>jY b (λK=>K a1) λc=>jY b (λK=>K a0) λd=>HC b d λe=>JN b c e λf=>pP b f (K zx) (lq a0 a1 λi=>K i)
def Jr:zV0:=λK=>ck [zx] 24 [(0,1,zx),(1,1,ld [115,101,116]),(2,1,ld [109,111,118,101]),(3,1,ld [97,100,100]),(4,1,ld [115,117,98]),(5,1,ld [109,117,108]),(6,1,ld [108,101,115,115]),(7,1,ld [101,113,117,97,108]),(8,1,ld [108,111,97,100]),(9,1,ld [115,116,111,114,101]),(10,1,ld [97,108,108,111,99]),(11,1,ld [102,114,101,101]),(12,1,ld [106,117,109,112]),(13,1,ld [122,101,114,111]),(14,1,ld [111,112,101,110]),(15,1,ld [99,108,111,115,101]),(16,1,ld [117,110,100,111]),(17,1,ld [101,105,116,104,101,114]),(18,1,ld [111,114]),(19,1,ld [100,111,110,101]),(20,1,ld [114,101,116,114,121]),(21,1,ld [101,109,105,116]),(22,1,ld [102,97,105,108]),(23,1,ld [99,97,108,108])] λb=>K b
def qr:Uc:=λa0 a1 a2 a3 K=>pd a1 (K a1) (ad a2 λc=>xq c λf=>ac 293 [f,a0] λg=>og g (K zH) (be (ad a2 λi=>j9 3 a3 λj=>ad j λk=>oD i 6 λm=>ac 223 [a0] λn=>andP (andP (jo j k) (andP (jo a2 i) ab)) (nM 8 1 m k λo=>NX 1 o n (K ba)))))
def rk:kV:=λa0 a1 K=>tq 4 a1 λb=>ac 244 [a0,b] λc=>K c
def Qh:tX:=λa0 a1 a2 K=>vQ a1 Id λb=>jY b (λK=>K a1) λc=>JN b c Ad λd=>pP b d (K lR) (ac 349 [a0] λf=>uW [Dx,ba,ba] [(0,1,f)] λh=>yL Tryz.prog a2 [h] λi=>ng h λl=>uP l Rr (jv h λp=>ac 142 [p] λq=>ac 197 [a0,q] λr=>PU r r λt=>K t) (ng h λz=>pd z (ng h λD=>K D) (jv h λH=>ac 144 [H] λJ=>ac 199 [a0,J] λL=>pd L (K L) (jv h λQ=>ac 152 [Q] λR=>fu R λT=>oL λU V=>j8 V T (lq R V λY=>ac 330 [a0,Y] λZ=>gU V λaA=>U aA) (K ba)))))
def Jn:Uc:=λa0 a1 a2 a3 K=>ad a1 λb=>ad a2 λc=>ac 296 [a0,b,c] λd=>ku d λe=>ko d λf=>ac 297 [a0] λg=>rN g λh=>jY h (λK=>K a0) λi=>jY h (λK=>K f) λj=>nZ h a2 λk=>wn h 298 [i,j,k] λl=>pP h l (K (.tuple #[])) (ac 299 [a0,lR] λn=>Ax n λo=>ad a2 λp=>ac 300 [a0,o,p] λq=>gU n λr=>ac 301 [a0,r,f] λs=>ac 301 [a0,e,n] λt=>AD a3 ny λ_=>K (.tuple #[]))
def M0:tX:=λa0 a1 a2 K=>xz (λb c=>K (.tuple #[b,c])) λd=>W8 a1 λe f g=>ac 350 [a0] λh=>aj h (ac 351 [a0,f] λi=>va i λj=>jY j (λK=>K a0) λk=>jY j (λK=>K i) λl=>Ae j .add l ba λm=>wn j 303 [k,m] λn=>jY j (λK=>K a2) λo=>JN j n o λp=>pP j p (d f i) (gU i λr=>e r i)) (d f g)
def Bg:i8:=λa0 K=>Lu a0 1 ba λe=>K e
def Jo:tX:=λa0 a1 a2 K=>ac 297 [a0] λb=>gx b (λK=>K a1) λc=>xI b c ba λd=>jn b d λe=>gx e (λK=>K a0) λf=>gx e (λK=>K a1) λg=>z7 e .add g ba λh=>wS e 303 [f,h] λi=>gx e (λK=>K a2) λj=>xj e i j λk=>jn e k λl=>K l
def wo:kV:=λa0 a1 K=>ac 297 [a0] λb=>og b (K ba) (jv a0 λf=>ac 261 [f,a1] λg=>ku g λh=>ko g λi=>ac 352 [a0,i] λj=>K h)
def wb:tX:=λa0 a1 a2 K=>ac 297 [a0] λb=>aw (K (.tuple #[])) λc=>aj b (jv a0 λf=>ac 260 [f,a1,a2] λg=>ac 352 [a0,g] λh=>c) c
def vS:tX:=λa0 a1 a2 K=>DY a2 λb=>ac 300 [a0,a1,b] λc=>K (.tuple #[])
def Kp:Uc:=λa0 a1 a2 a3 K=>ad a1 λb=>ad a2 λc=>ac 296 [a0,b,c] λd=>ku d λe=>ko d λf=>ad a2 λg=>ac 298 [a0,f,g] λh=>aw (K (.tuple #[])) λi=>aj h (gU f λj=>ac 303 [a0,j] λk=>ac 300 [a0,e,k] λl=>ac 304 [a0,f] λm=>AD a3 ny λ_=>i) i
def xH:kV:=λa0 a1 K=>ac 297 [a0] λb=>og b (K iT) (jv a0 λf=>ac 197 [f,a1] λg=>ku g λh=>ko g λi=>ac 352 [a0,i] λj=>K h)
def xX:kV:=λa0 a1 K=>ac 297 [a0] λb=>aw (K (.tuple #[])) λc=>aj b (jv a0 λf=>ac 262 [f,a1] λg=>ac 352 [a0,g] λh=>c) c
def Kr:Uc:=λa0 a1 a2 a3 K=>ad a1 λb=>ad a2 λc=>ac 296 [a0,b,c] λd=>PU d d λf=>ad a2 λg=>ac 298 [a0,f,g] λh=>AD a3 h λ_=>K (.tuple #[])
def Hr:zV5:=λa0 a1 a2 a3 a4 K=>ad a1 λb=>ac 307 [a0,b] λc=>ac 297 [a0] λd=>gx d (λK=>K c) λe=>gx d (λK=>ji e K) λf=>mB d 1 f λg=>i6 d g λh=>xj d h ba λi=>jn d i λj=>cr (λk=>ac 297 [a0] λl=>og l (K (.tuple #[])) (ad a2 λn=>ac 309 [k,n] λo=>ku o λp=>ko o λq=>pd q (gU q λs=>ad a3 λt=>ac 300 [a0,s,t] λu=>K (.tuple #[])) (be (ac 297 [a0] λx=>andP ab (gx x (λK=>K k) λz=>gx x (λK=>ji z K) λA=>mB x 4 A λB=>i6 x B λC=>gx x (λK=>K k) λD=>gx x (λK=>ji D K) λE=>mB x 2 E λF=>i6 x F λH=>gx x (AF .u64 H) λJ=>z7 x .geq C J λL=>jn x L λM=>gx M (λK=>K k) λN=>gx M (λK=>ji N K) λO=>mB M 2 O λQ=>i6 M Q λR=>HW M R yK λT=>jn M T λU=>cr (λV=>ac 299 [a0,GB] λW=>Ax W λX=>ad a2 λY=>ac 300 [a0,X,Y] λZ=>gU W λaA=>ad a3 λaB=>ac 300 [a0,aA,aB] λaC=>yF W λaD=>ac 301 [a0,aD,ba] λaE=>ac 301 [a0,V,W] λaF=>be (J6 k 1 ba λaJ=>J6 k 4 Pe λaN=>ac 300 [a0,aJ,aN] λaO=>andP (andP ab (andP ab ab)) (AD a4 ny λ_=>K (.tuple #[])))) λaP=>aj U (ac 310 [k] λaQ=>ad a2 λaR=>ac 309 [k,aR] λaS=>ku aS λaT=>ko aS λaU=>aP aT) (aP p)))))) λaV=>aj j (ad a1 λaW=>ac 308 [a0,aW] λaX=>aV aX) (aV c)
def Kw:kV:=λa0 a1 K=>ac 351 [a0,a1] λb=>uW [Dx,ba,ba,ba,iT] [(0,1,a0),(1,1,b)] λd=>ng d λg=>yn g (K d) (J6 d 1 ba λl=>ac 303 [a0,l] λm=>vX d 4 m λ_=>afC d 1 λs=>ac 303 [a0,s] λt=>vQ t zu2 λu=>jY u (λK=>K t) λx=>Ae u .gtr x ako λz=>wN u z λA=>jY A (λK=>K t) λB=>jY A (λK=>K t) λC=>Ae A .sub C Pe λD=>Ae A .and B D λE=>Ae A .neq E iT λF=>wN A F λH=>cr (λJ=>Ke J λL=>J6 d 1 lR λQ=>ac 351 [a0,Q] λR=>Dt d 2 L d 3 R λ_=>K d) λX=>aj H (ac 352 [a0,lR] λY=>X zu2) (X t))
def Jh:kV:=λa0 a1 K=>ac 299 [a0,GB] λb=>ac 299 [a0,lR] λc=>uW [Dx,ba,ba,ba,iT] [(0,1,a0),(1,1,b),(2,1,lR),(3,1,c)] λe=>oL λf g=>j8 g lR (J6 e 3 g λl=>ac 301 [a0,l,ba] λm=>gU g λn=>f n) (J6 e 1 ba λr=>ac 301 [a0,r,ba] λs=>afC e 1 λz=>ac 301 [a0,z,lR] λA=>be (J6 e 1 lR λE=>jA e 3 λJ=>ac 301 [a0,E,J] λL=>andP (andP ab (andP ab ab)) (ng e λO=>ac 301 [a0,a1,O] λQ=>K e)))
def yh:kV:=λa0 a1 K=>be (oD a0 3 λc=>ad c λd=>lY a0 λg=>ac 353 [a1,g] λh=>andP (andP ab (andP (jo c d) ab)) (QQ d h λi=>xK i λj k=>jv a0 λn=>ac 350 [n] λo=>aj o (jv a0 λr=>ac 351 [r,k] λs=>va s λt=>jY t (λK=>K a0) λu=>jY t (λK=>ji u K) λx=>pj t 0 x λz=>nZ t z λA=>jY t (λK=>K s) λB=>Ae t .add B ba λC=>wn t 303 [A,C] λD=>jY t (λK=>K a1) λE=>uf t D E λF=>pP t F (K (.tuple #[k,s])) (yF s λJ=>j J)) (K (.tuple #[k,ba]))))
def xM:i8:=λa0 K=>fw a0 λb=>ad b λc=>lY c λf=>ap .mul lR f λg=>mX #[ba] λh=>O7 h g h λi=>gA 8 [ba] i i λj=>mX #[jS] λk=>AD k j λ_=>be (VR b λo=>ad h λp=>ac 299 [o,p] λq=>andP (andP ab (andP ab (andP ab ab))) (ad b λr=>ac 354 [r,.func (.func 355) #[] #[b,h,k]] λs=>ad k λt=>fu t λu=>oL λx z=>j8 z u (lq t z λC=>VR b λH=>QQ q z λJ=>ac 301 [H,J,C] λL=>gU z λM=>x M) (be (VR b λR=>ad b λT=>jA T 3 λW=>ac 304 [R,W] λX=>andP (andP ab (andP ab (andP ab (andP ab ab)))) (be (ad b λY=>ad b λZ=>ad h λaA=>Rk Y 2 aA (andP ab (andP (jo b Z) (andP ab ab))) (aay Z 3 q (be (VR b λaI=>ad b λaJ=>afC aJ 1 λaN=>ad h λaO=>ac 301 [aI,aN,aO] λaP=>andP (andP ab (andP ab (andP ab (andP ab (andP ab ab))))) (be (VR b λaT=>ad b λaU=>J6 aU 1 lR λaY=>ac 301 [aT,aY,q] λaZ=>andP (andP ab (andP ab (andP ab (andP ab ab)))) (K (.tuple #[])))))))))))))
def pS:zV5:=λa0 a1 a2 a3 a4 K=>pd a2 (K a2) (i6 a1 a3 λc=>gx a1 (λK=>ji c K) λd=>mB a1 14 d λe=>i6 a1 e λf=>gx a1 (λK=>K a0) λg=>wS a1 224 [f,g] λh=>Ef a1 h λi=>jn a1 i λj=>jY j (λK=>K a1) λk=>jY j (rN k) λl=>jY j (λK=>K l) λm=>i6 m a3 λn=>gx m (λK=>ji n K) λo=>mB m 14 o λp=>i6 m p λq=>wS m 312 [q] λr=>Ef m r λs=>wD j m s λt=>pP j t (K zH) (be (ad a3 λx=>oZ a4 λA=>oD x 6 λC=>nM 8 1 C A λD=>NX 1 D a0 (K ba))))
def sf:i8:=λa0 K=>iz [] [] λb=>tq 421 b λc=>ac 244 [a0,c] λd=>K d
def GV:zV5:=λa0 a1 a2 a3 a4 K=>ad a1 λb=>ac 307 [a0,b] λc=>ac 297 [a0] λd=>rN d λe=>jY e (λK=>K c) λf=>jY e (λK=>ji f K) λg=>pj e 1 g λh=>nZ e h λi=>uf e i ba λj=>pP e j (K (.tuple #[])) (ad a2 λl=>ac 309 [c,l] λm=>PU m m λo=>Ao o λp=>aw (K (.tuple #[])) λq=>aj p (gU o λr=>ac 303 [a0,r] λs=>AD a3 s λ_=>AD a4 ny λ_=>q) q)
def Hu:Uc:=λa0 a1 a2 a3 K=>ad a1 λb=>ac 307 [a0,b] λc=>ac 297 [a0] λd=>rN d λe=>jY e (λK=>K c) λf=>jY e (λK=>ji f K) λg=>pj e 1 g λh=>nZ e h λi=>uf e i ba λj=>pP e j (K (.tuple #[])) (ad a2 λl=>ac 309 [c,l] λm=>ku m λn=>ko m λo=>Ao o λp=>aw (K (.tuple #[])) λq=>aj p (yF o λr=>ac 303 [a0,r] λs=>ac 300 [a0,n,s] λt=>be (J6 c 1 ba λA=>jA c 4 λD=>Ih D Pe λE=>ac 300 [a0,A,E] λF=>andP (andP ab (andP ab ab)) (ac 304 [a0,o] λH=>AD a3 ny λ_=>q))) q)
def KC:tX:=λa0 a1 a2 K=>fw a1 λb=>fw a2 λc=>ad b λd=>ac 294 [a0,d,.func (.func 356) #[] #[b,c]] λe=>K e
def KN:kV:=λa0 a1 K=>fw a1 λb=>mX #[iT] λc=>HA λd=>AD c iT λ_=>O7 d kj b λe=>ac 294 [a0,e,.func (.func 357) #[] #[b,c,d]] λf=>pd f (K (.tuple #[iT,kj,f])) (be (ad c λh=>ad d λi=>K (.tuple #[h,i,ba])))
def KB:zV5:=λa0 a1 a2 a3 a4 K=>ad a1 λb=>aam [(0,1,a0),(1,1,b)] λd=>ad a2 λe=>ac 318 [d,e] λf=>ac 297 [a0] λg=>og g (K (.tuple #[])) (pd f (gU f λj=>ad a3 λk=>ac 300 [a0,j,k] λl=>K (.tuple #[])) (ac 299 [a0,BZ] λm=>Ax m λn=>ad a2 λo=>ac 300 [a0,n,o] λp=>gU m λq=>ad a3 λr=>ac 300 [a0,q,r] λs=>yF m λt=>ac 300 [a0,t,Pe] λu=>QQ m GB λx=>ac 301 [a0,x,ba] λz=>my d 2 λD=>ac 319 [d,D,m] λE=>ac 320 [d] λF=>AD a4 ny λ_=>K (.tuple #[])))
def A3:kV:=λa0 a1 K=>vX a0 2 jS λ_=>ac 326 [a0] λd=>xK d λe f=>Ao f λg=>gx g (λK=>K a0) λh=>gx g (λK=>ji h K) λi=>sx g i λj=>i6 g j λk=>Y4 g [k] λl=>oU g l (jv a0 λp=>Ax f λq=>ac 303 [p,q] λr=>uP r a1 (K f) (AQ a1 r λt=>cr (λu=>lY a0 λA=>DF [(0,1,f),(1,1,u)] λB=>Hk [ba,ba] 1 [(0,2,B)] 2 16 A a0 2 λ_=>ac 358 [a0,f,u] λH=>e H) λJ=>aj t (J mh) (J ba))) (K ba)
def Bq:tX:=λa0 a1 a2 K=>yn a1 (be (jv a0 λe=>ng a0 λh=>ac 301 [e,h,a2] λi=>andP (andP ab (andP ab ab)) (K (.tuple #[])))) (be (lY a0 λl=>wY a1 λm=>IL 2 l m λp=>lY a0 λs=>wY a1 λt=>OV 2 s t λz=>ac 359 [a0,p,z,a2] λA=>andP (andP ab (andP ab (andP ab (andP ab ab)))) (K (.tuple #[]))))
def yE:i8:=λa0 K=>Io λb=>my a0 2 λf=>KO f lR λg=>gx g (λK=>K a0) λh=>gx g (λK=>ji h K) λi=>sx g i λj=>i6 g j λk=>Y4 g [k] λl=>oU g l (aw b λn=>my a0 2 λr=>be (oD a0 2 λt=>ad t λu=>wY r λx=>qH 2 u x λz=>lE z λA=>oD a0 2 λC=>ad C λD=>Ih r lR λE=>qH 2 D E λF=>lE F λH=>andP (Kc λJ=>andP (andP (so F H) (andP (jo C D) (andP (so z A) (andP (jo t u) ab)))) (Kc λL=>andP (andP (so F H) (andP (jo C D) (andP (so z A) (andP (jo t u) ab)))) (Ba 2 J A (andP (so F H) (andP (jo C D) (andP ab (andP ab ab)))) (NX 2 L H (gL J λN=>ac 360 [a0,N] λO=>og O (K (.tuple #[])) (gL L λT=>MN L mh λW=>ac 358 [a0,T,W] λX=>ac 360 [a0,X] λY=>og Y (lE J λaA=>lE L λaB=>ac 361 [a0,aA,aB] λaC=>K (.tuple #[])) (gL J λaE=>ac 362 [a0,aE,kj] λaF=>ac 362 [a0,X,kj] λaG=>gL L λaI=>ac 362 [a0,aI,ny] λaJ=>lY a0 λaM=>Ih r lR λaN=>zv 2 aM aN λaO=>vX a0 2 aO λ_=>n))))))) (Kc λaR=>andP (andP (so F H) (andP (jo C D) (andP (so z A) (andP (jo t u) ab)))) (Kc λaS=>andP (andP (so F H) (andP (jo C D) (andP (so z A) (andP (jo t u) ab)))) (Ba 2 aS A (andP (so F H) (andP (jo C D) (andP ab (andP ab ab)))) (NX 2 aR H (gL aS λaU=>ac 360 [a0,aU] λaV=>og aV (K (.tuple #[])) (gL aR λaY=>MN aR mh λbB=>ac 358 [a0,aY,bB] λbC=>ac 360 [a0,bC] λbD=>og bD (lE aS λbF=>lE aR λbG=>ac 361 [a0,bF,bG] λbH=>K (.tuple #[])) (gL aS λbJ=>ac 362 [a0,bJ,kj] λbK=>ac 362 [a0,bC,kj] λbL=>gL aR λbN=>ac 362 [a0,bN,ny] λbO=>lY a0 λbR=>Ih r lR λbS=>zv 2 bR bS λbT=>vX a0 2 bT λ_=>n))))))))) (my a0 2 λbZ=>vQ bZ lR λb0=>gx b0 (λK=>K a0) λb1=>gx b0 (λK=>ji b1 K) λb2=>sx b0 b2 λb3=>i6 b0 b3 λb4=>wS b0 297 [b4] λb5=>jn b0 b5 λb6=>aw (K (.tuple #[])) λb7=>aj b6 (ac 326 [a0] λb8=>ac 362 [a0,b8,kj] λb9=>b7) b7)
def KI:zV5:=λa0 a1 a2 a3 a4 K=>ad a1 λb=>aam [(0,1,a0),(1,1,b)] λd=>ad a2 λe=>ac 318 [d,e] λf=>Ao f λg=>aw (K (.tuple #[])) λh=>aj g (gU f λi=>ac 303 [a0,i] λj=>AD a3 j λ_=>AD a4 ny λ_=>h) h
def Jt:Uc:=λa0 a1 a2 a3 K=>ad a1 λb=>aam [(0,1,a0),(1,1,b)] λd=>ad a2 λe=>ac 318 [d,e] λf=>Ao f λg=>gx g (λK=>K a0) λh=>wS g 297 [h] λi=>jn g i λj=>aw (K (.tuple #[])) λk=>aj j (ac 323 [d,f] λl=>AD a3 ny λ_=>k) k
def CL:kV:=λa0 a1 K=>ac 358 [a0,a1,ba] λb=>Ao b λc=>gx c (λK=>K a0) λd=>gx c (λK=>K a1) λe=>wS c 358 [d,e,mh] λf=>xI c f ba λg=>jn c g λh=>cr (λi=>ac 358 [a0,i,ba] λj=>va j λk=>cr (λl=>ac 360 [a0,i] λm=>my a0 2 λq=>ac 319 [a0,q,l] λr=>aw (jv a0 λu=>ac 304 [u,i] λx=>K (.tuple #[])) λz=>aj m z (ac 360 [a0,l] λA=>aw z λB=>aj A (ac 362 [a0,l,kj] λC=>B) (ac 364 [a0] λD=>B))) λE=>aj k (ac 358 [a0,i,mh] λF=>E F) (E j)) λH=>aj h (ac 363 [a0,a1] λJ=>be (oc a0 λM=>ad M λN=>Ax a1 λO=>jv a0 λT=>Ax J λU=>ac 303 [T,U] λV=>andP (andP ab (andP (jo M N) ab)) (ac 300 [N,O,V] λW=>andP (andP ab ab) (be (oc a0 λY=>ad Y λZ=>gU a1 λaA=>jv a0 λaD=>gU J λaE=>ac 303 [aD,aE] λaF=>andP (andP ab (andP (jo Y Z) ab)) (ac 300 [Z,aA,aF] λaG=>andP (andP ab ab) (H J))))))) (H a1)
def Eu:zV5:=λa0 a1 a2 a3 a4 K=>ad a1 λb=>aam [(0,1,a0),(1,1,b)] λd=>be (ad a2 λe=>ad a3 λf=>ac 326 [d] λg=>andP (andP (jo a3 f) (andP (jo a2 e) ab)) (ac 325 [d,g,e,f,jS] λh=>andP (andP ab (andP ab ab)) (Ba 1 a4 h ab (K (.tuple #[])))))
def wx:zV5:=λa0 a1 a2 a3 a4 K=>va a1 λb=>jY b (λK=>K a0) λc=>jY b (λK=>ji c K) λd=>pj b 0 d λe=>nZ b e λf=>wn b 350 [f] λg=>jY b (rN g) λh=>pP b h (K a4) (jv a0 λl=>Ax a1 λm=>ac 303 [l,m] λn=>vQ a2 n λo=>cr (λp=>ap .leq a2 n λq=>gx q (λK=>K n) λr=>gx q (λK=>K a3) λs=>z7 q .leq r s λt=>jn q t λu=>cr (λx=>vQ n a3 λz=>cr (λA=>K A) λB=>aj z (ac 358 [a0,a1,mh] λC=>ac 325 [a0,C,a2,a3,x] λD=>B D) (B x)) λE=>aj u (jv a0 λJ=>gU a1 λL=>ac 303 [J,L] λM=>iz [iT,iT] [(0,1,n),(1,1,M)] λN=>Et [iT,iT] 1 [(0,2,N)] 2 16 p λQ=>E Q) (E p)) λR=>aj o (ac 358 [a0,a1,ba] λT=>ac 325 [a0,T,a2,a3,a4] λU=>R U) (R a4))
def Cs:i8:=λa0 K=>be (jv a0 λd=>ng a0 λg=>ac 351 [d,g] λh=>andP (andP ab (andP ab ab)) (K h))
def HB:i8:=λa0 K=>j8 a0 mh (K ba) (xK mh λc d=>zbc .leq d BZ (ac 365 [d] λf=>J8 f a0 (K d) (gU d λh=>c h)) (K ba))
def Hg:tX:=λa0 a1 a2 K=>J8 a2 oE (K (.tuple #[ba,lR])) (Ke a2 λc=>ac 197 [a0,c] λd=>ku d λe=>ko d λf=>va f λg=>cr (λh=>pd h (K (.tuple #[ba,h])) (K (.tuple #[c,ba]))) λj=>aj g (ac 198 [a1] λk=>NC [(0,1,k),(1,1,e)] λl=>wY c λm=>QQ a1 Hb λn=>DY n λo=>NC [(0,1,m),(1,1,o)] λp=>Oh 2 [(0,2,l),(2,2,p)] λq=>ac 199 [a0,q] λr=>j r) (j f))
def GP:kV:=λa0 a1 K=>ac 197 [a0,zH] λb=>ku b λc=>ko b λd=>pd d (K (.tuple #[ba,d])) (vQ c ajH λf=>jY f (λK=>K c) λg=>JN f g oE λh=>wN f h λi=>jY i (λK=>K c) λj=>jY i (AF .i64 j) λk=>Ae i .add k mh λl=>jY i (λK=>K a1) λm=>wn i 365 [m] λn=>Ae i .add l n λo=>jY i (λK=>K a0) λp=>wn i 228 [p] λq=>Ae i .gtr o q λr=>pP i r (K (.tuple #[ba,BZ])) (Ke c λt=>gU t λu=>ac 365 [a1] λx=>QQ u x λz=>DY z λA=>NC [(0,1,zH),(1,1,A)] λB=>QQ a1 Hb λC=>DY C λD=>NC [(0,1,t),(1,1,D)] λE=>Oh 2 [(0,2,B),(2,2,E)] λF=>ac 199 [a0,F] λH=>pd H (K (.tuple #[ba,H])) (gU t λL=>K (.tuple #[L,ba]))))
def AO:kV:=λa0 a1 K=>lY a0 λd=>ac 366 [d,a1] λe=>K (.tuple #[])
def Bw:i8:=λa0 K=>lY a0 λd=>ac 367 [d] λe=>K e
def zN:i8:=λa0 K=>my a0 0 λe=>K e
def t6:i8:=λa0 K=>ac 270 [a0] λb=>ac 335 [a0] λc=>pd c (K c) (ac 270 [a0] λe=>be (ng e λh=>ng b λk=>fj 1 8 h k λl=>andP (andP ab (andP ab ab)) (Fa e 1 l (be (oc e λp=>ad p λq=>jv b λt=>ac 203 [t] λu=>andP (andP ab (andP (jo p q) ab)) (ac 202 [q,u] λx=>andP (andP ab ab) (K x)))))))
def zh:kV:=λa0 a1 K=>be (jv a0 λd=>my a0 0 λh=>mA a1 [h] λi=>rQ ba [i] λj=>zv 1 d j λk=>ac 213 [k] λl=>andP (andP ab (andP ab ab)) (Fa a0 0 l (K (.tuple #[]))))
def od:i8:=λa0 K=>my a0 1 λe=>uP e mh (K P4) (be (ng a0 λi=>my a0 1 λm=>wY m λn=>zv 1 i n λo=>Rk a0 1 o (andP ab (andP ab ab)) (K ba)))
def uR:i8:=λa0 K=>jv a0 λd=>ng a0 λg=>fu g λh=>W8 d λi j k=>j8 k h (lq g k λn=>jv n λq=>ac 368 [q] λr=>Ih j r λs=>gU k λt=>i s t) (K j)
def kI:kV:=λa0 a1 K=>fu a0 λb=>oL λc d=>j8 d b (tW a0 d 2 λg=>yL Tryz.prog a1 [g] λh=>aj h (K d) (gU d λi=>c i)) (K lF)
def rD:kV:=λa0 a1 K=>fw a0 λb=>gL b λd=>ad a1 λe=>jt d e λf=>K f
def Cx:i8:=λa0 K=>GC a0 a0 λb=>K b
def Oo:i8:=λa0 K=>ac 228 [a0] λb=>ac 162 [b,WE] λc=>ac 144 [a0] λd=>fu d λe=>oL λf g=>j8 g e (tW d g 2 λj=>Ny λk=>Gv 2 k j k λm=>mx k λo=>ac 209 [c,m,o] λp=>gU g λq=>f q) (ac 158 [a0] λr=>fu r λs=>oL λt u=>j8 u s (tW r u 2 λA=>Ny λB=>Gv 2 B A B λD=>mx B λF=>ac 209 [c,D,F] λH=>gU u λJ=>t J) (K c))
def xJ:i8:=λa0 K=>Nw a0 2 a0 2 λ_=>lY a0 λj=>AQ j ah3 λk=>aw (ac 297 [a0] λl=>K l) λm=>aj k (ac 352 [a0,lR] λn=>m) m
def wq:kV:=λa0 a1 K=>ac 303 [a0,a1] λb=>ac 372 [a0,b] λc=>K c
def yy:kV:=λa0 a1 K=>ac 297 [a0] λb=>aw (K (.tuple #[])) λc=>aj b (vX a0 1 a1 λ_=>c) c
def Hw:kV:=λa0 a1 K=>ap .mul a0 BS λb=>ap .shr b aku λc=>Ke c λd=>wY a1 λe=>ap .and d e λf=>K f
def yw:kV:=λa0 a1 K=>lY a0 λd=>oL λe f=>j8 f d (be (jv a0 λj=>J6 a0 3 f λn=>ac 351 [j,n] λo=>andP (andP ab (andP ab ab)) (xK o λp q=>Ao q λr=>gx r (λK=>K a0) λs=>gx r (λK=>ji s K) λt=>sx r t λu=>i6 r u λx=>Y4 r [x] λz=>oU r z (jv a0 λD=>yF q λE=>ac 351 [D,E] λF=>yL Tryz.prog a1 [q] λH=>p F) (gU f λJ=>e J)))) (K (.tuple #[]))
def uO:Uc:=λa0 a1 a2 a3 K=>be (ad a1 λb=>ji b λc=>zU 0 c λe=>ap .add a0 ba λf=>ad a2 λg=>ac 303 [e,f] λh=>andP (andP (ad a2 λv=>eqP v g) (andP ab (andP ab ab))) (ac 353 [h,g] λi=>andP (andP ab ab) (be (ad a1 λj=>ji j λk=>zU 0 k λm=>ap .add a0 lR λn=>ad a3 λo=>qH 1 o i λp=>ad p λq=>ac 301 [m,n,q] λr=>andP (andP ab (andP ab (andP ab (andP ab ab)))) (ad a3 λs=>qH 1 s i λt=>fh 1 t a0 λ_=>K (.tuple #[]))))))
def DT:tX:=λa0 a1 a2 K=>ad a1 λb=>ac 351 [a0,b] λc=>Ao c λd=>xz (λe f=>ac 299 [a0,lR] λg=>Ax g λh=>ad a2 λi=>ac 300 [a0,h,i] λj=>gU g λk=>ac 301 [a0,k,ba] λl=>Ao f λm=>aw (gU e λn=>ac 301 [a0,n,g] λo=>K (.tuple #[])) λp=>aj m (gU e λq=>ac 351 [a0,q] λr=>gU r λs=>ac 301 [a0,s,g] λt=>p) (Ax e λu=>ac 301 [a0,u,g] λx=>p)) λz=>aj d (Ax c λA=>ac 351 [a0,A] λB=>z c B) (ac 297 [a0] λC=>cr (λD=>z D ba) λE=>aj C (ac 299 [a0,lR] λF=>ad a1 λH=>ac 301 [a0,H,F] λJ=>E F) (E c))
def Fc:Uc:=λa0 a1 a2 a3 K=>ad a1 λb=>ac 351 [a0,b] λc=>yn c (K (.tuple #[])) (Ax c λe=>ac 351 [a0,e] λf=>yn f (K (.tuple #[])) (Ax f λh=>ac 303 [a0,h] λi=>AD a2 i λ_=>AD a3 ny λ_=>Ax c λj=>gU f λk=>ac 303 [a0,k] λl=>ac 300 [a0,j,l] λm=>ac 304 [a0,f] λn=>K (.tuple #[])))
def zP:tX:=λa0 a1 a2 K=>tc a1 ba (jv a0 λe=>ac 352 [e,lR] λf=>K ba) a2 mh (jv a0 λj=>QQ a1 GB λk=>ac 351 [j,k] λl=>K l) (be (oc a0 λn=>ad n λo=>jv a0 λr=>yF a1 λs=>ac 303 [r,s] λt=>andP (andP ab (andP (jo n o) ab)) (ap .shr t Pe λu=>ac 372 [o,u] λx=>andP (andP ab ab) (K x))))
def Bn:Uc:=λa0 a1 a2 a3 K=>uP a2 mh (jv a0 λe=>QQ a1 GB λf=>ac 301 [e,f,a3] λg=>K (.tuple #[])) (be (oc a0 λi=>ad i λj=>yF a1 λk=>DY a3 λl=>ap .shl l Pe λm=>jv a0 λp=>yF a1 λq=>ac 303 [p,q] λr=>andP (andP ab (andP (jo i j) ab)) (ap .and r Pe λs=>ap .or m s λt=>ac 300 [j,k,t] λu=>andP (andP ab ab) (K (.tuple #[])))))
def Cy:kV:=λa0 a1 K=>Ao a1 λb=>gx b (λK=>K a0) λc=>gx b (λK=>ji c K) λd=>sx b d λe=>i6 b e λf=>gx b (λK=>K a1) λg=>z7 b .add g lR λh=>wS b 303 [f,h] λi=>z7 b .and i Pe λj=>xj b j Pe λk=>jn b k λl=>K l
def uc:tX:=λa0 a1 a2 K=>fw a1 λb=>fw a2 λc=>mx b λe=>mx c λg=>GC e g λh=>aw (gL c λj=>MN c mh λm=>ac 373 [a0,j,m] λn=>ac 362 [a0,n,kj] λo=>gL c λq=>ac 362 [a0,q,ny] λr=>my a0 2 λx=>Ih x lR λz=>ac 319 [a0,z,n] λA=>K (.tuple #[])) λB=>qZ h (sy c λC=>ad C λD=>j9 1 c λE=>ad E λF=>gL b λJ=>mx c λM=>ac 373 [a0,J,M] λN=>andP (andP ab (andP ab (andP (jo E F) (andP (jo C D) ab)))) (ac 359 [a0,D,F,N] λO=>andP (andP ab (andP ab ab)) B)) B
def zf:tX:=λa0 a1 a2 K=>yn a1 (jv a0 λe=>ac 352 [e,lR] λf=>K (.tuple #[])) (jv a0 λi=>yF a1 λj=>ac 303 [i,j] λk=>ap .and k Pe λl=>jt l Pe λm=>jE .neq m a2 λn=>aw (K (.tuple #[])) λo=>aj n (jv a0 λr=>yF a1 λs=>ap .xor k Pe λt=>ac 300 [r,s,t] λu=>o) o)
def AC:kV:=λa0 a1 K=>lY a0 λd=>DF [(0,1,a1),(1,1,mh)] λe=>Hk [ba,ba] 1 [(0,2,e)] 2 16 d a0 2 λ_=>ac 358 [a0,a1,mh] λj=>cr (λk=>K k) λl=>xK j λm n=>jv a0 λq=>ac 350 [q] λr=>aj r (ac 358 [a0,n,ba] λs=>yn s (l n) (lY a0 λz=>DF [(0,1,n),(1,1,ba)] λA=>Hk [ba,ba] 1 [(0,2,A)] 2 16 z a0 2 λ_=>m s)) (l n)
def wz:i8:=λa0 K=>Io λb=>my a0 2 λf=>AQ f ba λg=>gx g (λK=>K a0) λh=>gx g (λK=>ji h K) λi=>sx g i λj=>i6 g j λk=>Y4 g [k] λl=>oU g l (aw b λn=>my a0 2 λr=>lY a0 λu=>wY r λx=>tW u x 2 λA=>Kc λB=>Gv 2 B A B λD=>MN B mh λH=>ac 358 [a0,D,H] λJ=>ac 360 [a0,J] λL=>aj L (gL B λN=>mx B λQ=>ac 373 [a0,N,Q] λR=>ac 362 [a0,J,kj] λT=>gL B λV=>ac 362 [a0,V,ny] λW=>wY r λX=>ac 319 [a0,X,J] λY=>be (lY a0 λaB=>wY r λaC=>mx B λaE=>DF [(0,1,J),(1,1,aE)] λaF=>qH 2 aB aC λaG=>NX 2 aG aF (be (oD a0 2 λaI=>ad aI λaJ=>lE B λaK=>ck [ba,ba] 1 [(0,2,aK)] λaL=>andP (andP ab (andP (jo aI aJ) ab)) (fj 2 16 aJ aL λaM=>andP (andP ab ab) (Fa a0 2 aM n)))))) (ac 358 [a0,J,ba] λaP=>ac 360 [a0,aP] λaQ=>jY aQ (λK=>K a0) λaR=>jY aQ (λK=>K a0) λaS=>jY aQ (λK=>K J) λaT=>wn aQ 358 [aS,aT,mh] λaU=>wn aQ 360 [aR,aU] λaV=>pP aQ aV (lE B λaX=>ac 374 [a0,aX,J] λaY=>K (.tuple #[])) (ac 362 [a0,J,ny] λaZ=>gL B λbB=>ac 360 [a0,bB] λbC=>aj bC (gL B λbE=>ac 362 [a0,bE,kj] λbF=>K (.tuple #[])) (lY a0 λbI=>wY r λbJ=>zv 2 bI bJ λbK=>vX a0 2 bK λ_=>n)))) (K (.tuple #[]))
def Jg:i8:=λa0 K=>vQ a0 mh λb=>jY b (λK=>K a0) λc=>Ae b .gtr c BZ λd=>pP b d (K ba) (ap .shl mh a0 λf=>K f)
def vz:kV:=λa0 a1 K=>ac 270 [a0] λb=>ng b λe=>Hk [ba] 1 [(0,1,a1)] 1 8 e b 1 λ_=>K (.tuple #[])
def uJ:i8:=λa0 K=>my a0 1 λe=>J8 e Id (K S7) (be (oD a0 1 λh=>ad h λi=>ac 218 [] λj=>andP (andP (jo h i) ab) (ck [Dx] 1 [(0,1,j)] λk=>andP (andP (jo h i) ab) (fj 1 8 i k λl=>andP (andP ab ab) (Fa a0 1 l (K ba))))))
def wc:i8:=λa0 K=>my a0 1 λe=>K e
def xx:kV:=λa0 a1 K=>J8 a1 oE (ac 352 [a0,lR] λc=>K ba) (Ke a1 λd=>K d)
def AV:tX:=λa0 a1 a2 K=>Ih mh a2 λb=>ac 358 [a0,a1,b] λc=>Ih mh a2 λd=>ac 358 [a0,c,a2] λe=>ac 359 [a0,a1,d,e] λf=>ac 359 [a0,c,a2,a1] λg=>K c
def At:tX:=λa0 a1 a2 K=>fw a1 λb=>MN b mh λe=>ac 358 [a0,a2,e] λf=>ac 360 [a0,f] λg=>rN g λh=>cr (λi=>gL b λk=>mx b λm=>ac 373 [a0,k,m] λn=>gL b λp=>ac 360 [a0,p] λq=>ac 362 [a0,i,q] λr=>gL b λt=>ac 362 [a0,t,kj] λu=>MN b mh λA=>ac 358 [a0,i,A] λB=>ac 362 [a0,B,kj] λC=>my a0 2 λH=>wY H λJ=>ac 319 [a0,J,i] λL=>K (.tuple #[])) λM=>aj h (MN b mh λQ=>ac 373 [a0,a2,Q] λR=>gL b λU=>MN b mh λX=>ac 359 [a0,U,X,R] λY=>ac 362 [a0,R,kj] λZ=>ac 362 [a0,a2,ny] λaA=>M R) (M a2)
def Bl:i8:=λa0 K=>oc a0 λc=>ac 401 [c] λd=>K d
def yj:i8:=λa0 K=>aea λb=>oc a0 λd=>ac 185 [d] λe=>pd e (ze [] b b λh=>K (.tuple #[h,kj])) (jA a0 8 λk=>uP k mh (jA a0 5 λo=>ze [(0,1,mh),(1,1,o)] b b λq=>K (.tuple #[q,ny])) (jA a0 6 λt=>ze [(0,1,GB),(1,1,t)] b b λx=>K (.tuple #[x,ny])))
def yx:kV:=λa0 a1 K=>fw a1 λb=>be (oc a0 λd=>br 6 b λe=>ac 402 [d,e] λf=>andP (andP ab ab) (aw (K (.tuple #[])) λg=>aj f g (Lu a0 8 mh λk=>aw g λl=>aj k (gL b λn=>Dt a0 12 n a0 8 lR λ_=>l) (be (Lu a0 8 lR λx=>mB x 1 b λz=>gx x (λK=>br 3 z K) λA=>gx x (λK=>K a0) λB=>gx x (λK=>ji B K) λC=>mB x 9 C λD=>gx x (λK=>br 3 D K) λE=>gx x (λK=>nJ [.i .u64,.b,.i .i64] .eql A E K) λF=>jn x F λH=>aw l λJ=>aj H (oc a0 λM=>ac 403 [M,lR,ba,lF] λN=>J) (Qf 1 b 3 λQ=>ac 404 [a0,Q] λR=>J))))))
def qL:i8:=λa0 K=>jA a0 3 λd=>K d
def nQ:kV:=λa0 a1 K=>fw a1 λb=>Lu a0 2 ba λf=>mB f 5 b λg=>i6 f g λh=>xI f h ba λi=>jn f i λj=>aw (lY a0 λm=>Ao m λn=>K n) λo=>aj j (zU 5 b λq=>ac 403 [a0,BZ,q,lF] λr=>o) o
def pN:Uc:=λa0 a1 a2 a3 K=>Dt a0 2 a1 a0 4 a2 λ_=>vX a0 3 a3 λ_=>K (.tuple #[])
def v7:kV:=λa0 a1 K=>fw a1 λb=>vX a0 8 ba λ_=>mx b λf=>aw (K (.tuple #[])) λg=>qZ f (oc a0 λi=>br 3 b λj=>ac 405 [i,j] λk=>andP (andP ab ab) (rN k λl=>aw g λm=>qZ l (oc a0 λo=>zU 2 b λq=>ac 403 [o,zH,ba,q] λr=>andP (andP ab ab) m) m)) (be (gL b λt=>jA a0 7 λz=>AQ t z λA=>aw g λB=>aj A (oc a0 λD=>ac 403 [D,Id,ba,lF] λE=>B) (br 3 b λF=>oD a0 9 λJ=>fh 3 J F λ_=>vX a0 8 mh λ_=>B)))
def oR:kV:=λa0 a1 K=>fw a1 λb=>be (zU 2 b λd=>jv a0 λg=>Ms d g (K ny) (ng a0 λk=>wY k λl=>vX a0 1 l λ_=>ng a0 λq=>KO q ba λr=>K r))
def xN:i8:=λa0 K=>oc a0 λc=>ac 401 [c] λd=>K d
def tS:i8:=λa0 K=>aea λb=>oc a0 λd=>ac 185 [d] λe=>pd e (ze [] b b λh=>K (.tuple #[h,kj])) (jA a0 6 λk=>og k (ze [(0,1,Id)] b b λn=>K (.tuple #[n,ny])) (be (jA a0 5 λq=>jA a0 7 λt=>IL 2 q t λz=>zy9 [(0,1,GB),(1,1,z)] λA=>adU 10 b A (br 10 b λB=>K (.tuple #[B,ny])))))
def uG:kV:=λa0 a1 K=>fw a1 λb=>be (oc a0 λd=>br 6 b λe=>ac 402 [d,e] λf=>andP (andP ab ab) (aj f (K (.tuple #[])) (jA a0 6 λi=>rN i λj=>aw (be (jA a0 7 λm=>my a0 5 λq=>jt m q λr=>aw (K (.tuple #[])) λs=>aj r (oc a0 λu=>ac 403 [u,lR,ba,lF] λx=>s) s)) λz=>qZ j (sy b λA=>ad A λB=>Rk a0 6 ny (andP (jo A B) ab) (aay a0 8 B z)) (j9 1 b λH=>mx H λL=>qZ L (oc a0 λN=>Qf 1 b 3 λQ=>ac 405 [N,Q] λR=>andP (andP ab ab) (rN R λT=>aw (K (.tuple #[])) λU=>qZ T (oc a0 λW=>j9 1 b λX=>zU 2 X λZ=>ac 403 [W,zH,ba,Z] λaA=>andP (andP ab ab) U) U)) (be (j9 1 b λaB=>gL aB λaD=>jA a0 5 λaG=>jA a0 7 λaJ=>OV 2 aG aJ λaM=>H9 aD aM (oc a0 λaP=>ac 403 [aP,zH,ba,lF] λaQ=>K (.tuple #[])) (Nw a0 7 a0 7 λ_=>z)))))))
def xk:i8:=λa0 K=>oc a0 λc=>ac 401 [c] λd=>K d
def uF:i8:=λa0 K=>aea λb=>oc a0 λd=>ac 185 [d] λe=>pd e (ze [] b b λh=>K (.tuple #[h,kj])) (jA a0 11 λk=>tc k ba (be (jA a0 9 λo=>my a0 10 λs=>lq o s λu=>zy9 [(0,1,GB),(1,1,u)] λx=>adU 10 b x (br 10 b λz=>K (.tuple #[z,ny])))) k mh (be (NF a0 13 0 λD=>ad D λE=>oD a0 5 λH=>ad H λJ=>iz [iT,kj,ba] [(0,1,E),(1,1,ny),(2,1,J)] λL=>mX #[iT,kj,ba] λM=>andP (andP (jo H J) (andP (jo D E) ab)) (NX 3 M L (be (jA a0 9 λQ=>my a0 10 λV=>lq Q V λX=>oD a0 13 λZ=>br 3 Z λaA=>br 3 M λaB=>zy9 [(0,1,BZ),(1,1,X),(4,3,aA),(7,3,aB)] λaC=>ag5 10 b aC (br 10 b λaD=>K (.tuple #[aD,ny]))))))) (tc k lR (ze [(0,1,Id)] b b λaG=>K (.tuple #[aG,ny])) k GB (be (wy a0 λaK=>J6 a0 16 Pe λaO=>zy9 [(0,1,Fl),(2,1,aK),(3,1,aO)] λaP=>NX 10 b aP (br 10 b λaQ=>K (.tuple #[aQ,ny])))) (tc k BZ (be (jA a0 7 λaU=>yk a0 λaX=>IL 2 aU aX λbA=>zy9 [(0,1,GB),(1,1,bA)] λbB=>adU 10 b bB (br 10 b λbC=>K (.tuple #[bC,ny])))) k zH (be (jA a0 8 λbG=>yk a0 λbJ=>IL 2 bG bJ λbM=>jA a0 8 λbP=>yk a0 λbS=>OV 2 bP bS λbV=>zy9 [(0,1,lR),(1,1,bM),(3,1,bV)] λbW=>ajv 10 b bW (br 10 b λbX=>K (.tuple #[bX,ny])))) (uP k Id (be (jA a0 9 λb1=>yk a0 λb4=>lq b1 b4 λb6=>J6 a0 16 Pe λcA=>iz [iT,kj,ba] [(0,1,cA)] λcB=>zy9 [(0,1,zH),(1,1,b6),(7,3,cB)] λcC=>Ba 10 b cC (andP ab (andP ab (andP ab (andP ab ab)))) (br 10 b λcD=>K (.tuple #[cD,ny])))) (be (jA a0 9 λcG=>yk a0 λcJ=>lq cG cJ λcL=>jA a0 10 λcO=>yk a0 λcR=>AK 3 cO cR 3 λcT=>zy9 [(0,1,zH),(1,1,cL),(7,3,cT)] λcU=>ajv 10 b cU (br 10 b λcV=>K (.tuple #[cV,ny]))))))))
def uw:kV:=λa0 a1 K=>fw a1 λb=>be (oc a0 λd=>br 6 b λe=>ac 402 [d,e] λf=>andP (andP ab ab) (aj f (K (.tuple #[])) (jA a0 11 λi=>va i λj=>cr (λk=>aw (K (.tuple #[])) λl=>aj k (br 6 b λm=>ac 413 [a0,m] λn=>l) (jt i lR λo=>cr (λp=>aw l λq=>aj p (br 6 b λr=>ac 414 [a0,r] λs=>q) (jt i BZ λt=>aw q λu=>aj t (Qf 1 b 3 λz=>ac 415 [a0,z] λA=>u) (jt i zH λB=>aw u λC=>aj B (Nw a0 12 a0 12 λ_=>ac 416 [a0] λM=>C) (jt i Id λN=>aw C λO=>aj N (Nw a0 12 a0 12 λ_=>ac 417 [a0] λX=>O) (jt i Fl λY=>aw O λZ=>aj Y (Nw a0 12 a0 12 λ_=>ac 418 [a0] λaG=>Z) Z))))) λaH=>aj o (aH o) (jt i GB λaI=>aH aI))) λaJ=>aj j (aJ j) (jt i mh λaK=>aJ aK))))
def sV:i8:=λa0 K=>Dt a0 17 ny a0 12 ba λ_=>vX a0 11 zH λ_=>ac 416 [a0] λh=>K (.tuple #[])
def uv:kV:=λa0 a1 K=>fw a1 λb=>Lu a0 11 ba λf=>mB f 1 b λg=>mB f 1 g λh=>i6 f h λi=>jn f i λj=>aw (K (.tuple #[])) λk=>aj j (Qf 1 b 3 λm=>ac 419 [a0,m] λn=>k) (Lu a0 11 ba λr=>aw k λs=>aj r (Qf 1 b 3 λu=>oD a0 13 λz=>fh 3 z u λ_=>vX a0 11 mh λ_=>s) (zU 4 b λD=>aw s λE=>qZ D (oD a0 10 λH=>ad H λJ=>oD a0 13 λM=>br 3 M λN=>ck [iT,kj,ba] 1 [(0,3,N)] λO=>andP (andP ab (andP (jo H J) ab)) (fj 3 24 J O λQ=>andP (andP ab ab) (Fa a0 10 Q (ac 176 [a0] λU=>E)))) (vX a0 11 ba λ_=>E)))
def rW:kV:=λa0 a1 K=>fw a1 λb=>Lu a0 11 lR λf=>sx f b λg=>i6 f g λh=>z7 f .geq h nD λi=>jn f i λj=>aw (K (.tuple #[])) λk=>aj j (ac 420 [a0,BZ,Fl,lF] λl=>k) (Lu a0 11 lR λp=>aw k λq=>aj p (gL b λs=>Dt a0 16 s a0 11 GB λ_=>q) (zU 4 b λB=>rN B λC=>aw q λD=>aj C (vX a0 11 lR λ_=>D) (be (wy a0 λL=>jA a0 6 λO=>jt L O λQ=>aw D λR=>aj Q (ac 412 [a0] λT=>R) (ac 421 [a0] λU=>R)))))
def qP:kV:=λa0 a1 K=>fw a1 λb=>mx b λd=>aw (K (.tuple #[])) λe=>aj d (br 3 b λf=>ac 419 [a0,f] λg=>e) (be (gL b λi=>jA a0 7 λl=>yk a0 λo=>OV 2 l o λr=>GC i r λs=>aw e λt=>aj s (ac 420 [a0,zH,ba,lF] λu=>t) (Nw a0 12 a0 12 λ_=>ac 421 [a0] λE=>t)))
def sa:i8:=λa0 K=>be (yk a0 λd=>my a0 8 λh=>jt d h λi=>aw (K (.tuple #[])) λj=>aj i (Dt a0 12 ba a0 11 Id λ_=>ac 417 [a0] λo=>j) j)
def uM:i8:=λa0 K=>be (yk a0 λd=>my a0 9 λh=>jt d h λi=>aw (K (.tuple #[])) λj=>aj i (oc a0 λl=>ac 403 [l,lR,ba,lF] λm=>j) j)
def sI:i8:=λa0 K=>be (yk a0 λd=>my a0 10 λh=>jt d h λi=>aw (K (.tuple #[])) λj=>qZ i (oc a0 λl=>jA a0 18 λo=>jA a0 20 λr=>jA a0 19 λu=>ac 403 [l,o,r,u] λx=>andP (andP ab (andP ab (andP ab ab))) j) j)
def tR:kV:=λa0 a1 K=>fw a1 λb=>be (oc a0 λd=>br 3 b λe=>ac 405 [d,e] λf=>andP (andP ab ab) (rN f λg=>aw (K (.tuple #[])) λh=>aj g (zU 2 b λj=>ac 420 [a0,zH,ba,j] λk=>h) h))
def uU:Uc:=λa0 a1 a2 a3 K=>Dt a0 18 a1 a0 20 a2 λ_=>Dt a0 19 a3 a0 12 ba λ_=>vX a0 11 Fl λ_=>ac 418 [a0] λl=>K (.tuple #[])
def se:i8:=λa0 K=>vX a0 11 BZ λ_=>Io λd=>be (yk a0 λg=>my a0 7 λk=>j8 g k (be (jA a0 9 λo=>jA a0 7 λr=>yk a0 λu=>IL 2 r u λA=>ac 422 [o,A] λB=>andP (andP ab (andP ab (andP ab (andP ab ab)))) (ku B λC=>ko B λD=>og D (K (.tuple #[])) (be (jA a0 10 λJ=>IL 3 J C λN=>jA a0 7 λR=>yk a0 λV=>OV 2 R V λY=>H9 N Y (ac 420 [a0,zH,ba,lF] λaA=>K (.tuple #[])) (Nw a0 12 a0 12 λ_=>d)))))) (ac 412 [a0] λaH=>K (.tuple #[])))
def mF:kV:=λa0 a1 K=>fu a0 λb=>PM ba b λc d e=>j8 d e (QQ d e λg=>DY g λh=>ap .shr h Pe λi=>Ke i λj=>lq a0 j λl=>ac 279 [l,a1] λm=>xz (λn o=>c n o) λp=>aj m (gU j λq=>p q e) (p d j)) (vQ d b λr=>gx r (λK=>K a0) λs=>gx r (λK=>K d) λt=>CZ r 1 s t λu=>i6 r u λx=>gx r (λK=>K a1) λz=>xj r x z λA=>gx r (λK=>K A) λB=>jY B (λK=>K a0) λC=>jY B (λK=>K d) λD=>jY B (qH 1 C D) λE=>nZ B E λF=>wn B 423 [F] λH=>jY B (λK=>K H) λJ=>gx J (λK=>K a1) λL=>wS J 423 [L] λM=>wD B J M λN=>gx r (nf B ny N) λO=>jn r O λQ=>K (.tuple #[d,Q]))
def yq:i8:=λa0 K=>GC a0 a0 λb=>K b
def nC (a0:Value)(K:KV):World->Prop:=λw=>mX #[jS] (λb w=>ji a0 (λc w=>j9 1 c (λd w=>ad d (λe w=>ac 200 [e] (λf w=>J9 233 f (λJ R g h w=>ac 201 [WE] (λi w=>ji h (λj w=>j9 0 j (λk w=>ad k (λl w=>ac 203 [l] (λm w=>ac 202 [i,m] (λn w=>ad b (λo w=>ac 202 [i,o] (λp w=>ac 203 [i] (λq w=>fh 1 b q (λ_ w=>J w) w) w) w) w) w) w) w) w) w) w) (λK w=>ad b (λr w=>K r w) w) (λK w=>K jS w) K w) w) w) w) w) w
def C6 (a0:Value)(K:KV):lr a0 K=nC a0 K:=by
 unfold lr nC
 try unfold ac
 try unfold zU
 try unfold zas
 try unfold zbc
 generalize @CP=q0,@j9=q1,@J9=q2,@ad=q3,@mX=q4,@ji=q5,@fh=q6
 rfl
def pu (a0 a1:Value)(K:KV):World->Prop:=λw=>fw a1 (λb w=>mX #[iT] (λc w=>mX #[kj] (λd w=>ji a0 (λe w=>j9 1 e (λf w=>ad f (λg w=>ac 200 [g] (λh w=>J9 233 h (λJ R i j w=>be (λw=>ji j (λk w=>j9 0 k (λl w=>ad l (λm w=>ad b (λn w=>ac 269 [m,n] (λo w=>andP (λw=>andP (λw=>ab w) (λw=>andP (λw=>ab w) (λw=>ab w) w) w) (λw=>ib 0 o (λp w=>ib 1 o (λq w=>aj q (λw=>fh 1 c p (λ_ w=>fh 1 d ny (λ_ w=>R w) w) w) (λw=>J w) w) w) w) w) w) w) w) w) w) w) (λK w=>fh 1 c iT (λ_ w=>fh 1 d kj (λ_ w=>ad c (λr w=>ad d (λs w=>K (.tuple #[r,s]) w) w) w) w) w) (λK w=>ad c (λt w=>ad d (λu w=>K (.tuple #[t,u]) w) w) w) K w) w) w) w) w) w) w) w
def Gk (a0 a1:Value)(K:KV):ma a0 a1 K=pu a0 a1 K:=by
 unfold ma pu
 try unfold ac
 try unfold zU
 try unfold zas
 try unfold zbc
 generalize @CP=q0,@j9=q1,@andP=q2,@J9=q3,@fw=q4,@aj=q5,@be=q6,@ib=q7,@ad=q8,@mX=q9,@ji=q10,@fh=q11
 rfl
end Go.Proofs.YtoealglbimbbmaaGreatDoor.S
namespace Go.Proofs.YtoealglbimbbmaaGreatDoor.S
open Go Go.Proofs
set_option maxRecDepth 100000
end Go.Proofs.YtoealglbimbbmaaGreatDoor.S
