import Derived.Test.YtoealglbimbbmaaGreatDoorSEq
import Derived.IntWalk
import Derived.RangeFuncWrites
namespace Go.Proofs.YtoealglbimbbmaaGreatDoor.S
open Go Go.Proofs
set_option linter.unusedVariables false
theorem RB:(∀p:Prop,(True∧p)=p)∧(∀p:Prop,(p∧True)=p)∧(∀b:Bool,(b == true)=b)∧(∀b:Bool,(b == false) = !b)∧(∀b:Bool,(true == b)=b)∧(∀b:Bool,(false == b) = !b)∧(∀{_:Decidable True},decide True=true)∧(∀{_:Decidable False},decide False=false)∧((!true)=false)∧((!false)=true)∧(∀b:Bool,(b && true)=b)∧(∀b:Bool,(true && b)=b)∧(∀b:Bool,(b && false)=false)∧(∀b:Bool,(false && b)=false)∧(∀b:Bool,(b || true)=true)∧(∀b:Bool,(true || b)=true)∧(∀b:Bool,(b || false)=b)∧(∀b:Bool,(false || b)=b)∧(∀b:Bool,(!!b)=b):=by
 refine⟨by simp,by simp,by simp,by simp,by simp,by simp,by simp,by simp,rfl,rfl,?_,?_,?_,?_,?_,?_,?_,?_,?_⟩
 all_goals (intro b;cases b <;> rfl)
def aw (F:World→Prop):World→Prop:=fun w=>F w.drew
def andP (A B:World→Prop):World→Prop:=fun w=>A w∧B w
def ac:World→Prop:=fun _=>True
def dh (a b:Value):World→Prop:=fun _=>a=b
def dr (v:Value)(K:KV):World→Prop:=eI v.cells K
def ae (c:Value)(A B:World→Prop):World→Prop:=fun w=>My c (A w) (B w)
def df (v:Value)(want:Bool)(A:KV→World→Prop)(e:Value)(K:KV):World→Prop:=fun w =>
 match v with
 | .bool b=>(b=want→A K w)∧(b≠want→K e w)
 | _=>False
def Fl (body:(World→Prop)→World→Prop):World→Prop:=fun w =>
 ∃(I:List Value→World→Prop) (m:List Value→World→Nat),I [] w∧∀w1,I [] w1→body (fun w'=>I [] w'∧m [] w'<m [] w1) w1
def e9 (a:Value)(body:(Value→World→Prop)→Value→World→Prop):World→Prop:=fun w =>
 ∃(I:List Value→World→Prop) (m:List Value→World→Nat),I [a] w∧∀x w1,I [x] w1→body (fun x' w'=>I [x'] w'∧m [x'] w'<m [x] w1) x w1
def iX (a b:Value)(body:(Value→Value→World→Prop)→Value→Value→World→Prop):World→Prop:=fun w =>
 ∃(I:List Value→World→Prop) (m:List Value→World→Nat),I [a,b] w∧∀x y w1,I [x,y] w1→body (fun x' y' w'=>I [x',y'] w'∧m [x',y'] w'<m [x,y] w1) x y w1
def Ef (a b c:Value)(body:(Value→Value→Value→World→Prop)→Value→Value→Value→World→Prop):World→Prop:=fun w =>
 ∃(I:List Value→World→Prop) (m:List Value→World→Nat),I [a,b,c] w∧∀x y z w1,I [x,y,z] w1→body (fun x' y' z' w'=>I [x',y',z'] w'∧m [x',y',z'] w'<m [x,y,z] w1) x y z w1
def UI (a b c d:Value)(body:(Value→Value→Value→Value→World→Prop)→Value→Value→Value→Value→World→Prop):World→Prop:=fun w =>
 ∃(I:List Value→World→Prop) (m:List Value→World→Nat),I [a,b,c,d] w∧∀x y z u w1,I [x,y,z,u] w1→body (fun x' y' z' u' w'=>I [x',y',z',u'] w'∧m [x',y',z',u'] w'<m [x,y,z,u] w1) x y z u w1
abbrev Hl:=Nat→Option (List Value)
abbrev ay:=Hl→Prop
def KK (h1 h2 h:Hl):Prop:=∀b,(h1 b=none∧h b=h2 b)∨(h2 b=none∧h b=h1 b)
def LF:ay:=fun h=>∀b,h b=none
def bk (A B:ay):ay:=fun h=>∃h1 h2,A h1∧B h2∧KK h1 h2 h
def mW {α:Type}(f:α→ay):ay:=fun h=>∃x,f x h
def ie (p:Prop):ay:=fun h=>p∧LF h
def da:List ay→ay
 | []=>LF
 | A::L=>bk A (da L)
@[irreducible] def ob {κ σ:Type} (R:κ→σ→ay) (k:κ) (s:σ):ay:=R k s
theorem eZ {κ σ:Type}(R:κ→σ→ay)(k:κ)(s:σ):ob R k s=R k s:=by unfold ob;rfl
def og (b:Nat)(cs:List Value):ay:=fun h=>∀b',h b'=if b'=b then some cs else none
abbrev own (b:Nat)(cs:List Value):ay:=ob og b cs
theorem KK.comm {a b c:Hl}(h:KK a b c):KK b a c:=fun x=>(h x).symm
theorem HI (A B:ay):bk A B=bk B A:=by
 funext h
 exact propext ⟨fun⟨a,b,h1,h2,j⟩=>⟨b,a,h2,h1,j.comm⟩,fun⟨a,b,h1,h2,j⟩=>⟨b,a,h2,h1,j.comm⟩⟩
def un (a b:Hl):Hl:=fun x=>match a x with | some v=>some v | none=>b x
theorem HC {A B C:ay}{h:Hl}(H:bk A (bk B C) h):bk B (bk A C) h:=by
 obtain⟨a,bc,ha,⟨b,c,hb,hc,j2⟩,j1⟩:=H
 refine⟨b,un a c,hb,⟨a,c,ha,hc,fun x=>?_⟩,fun x=>?_⟩
 ·cases hx:a x with
  | none=>exact .inl ⟨rfl,by simp [un,hx]⟩
  | some v =>
   rcases j1 x with ⟨g,_⟩ | ⟨g,_⟩
   ·rw [hx] at g;cases g
   ·rcases j2 x with ⟨k,e⟩ | ⟨k,e⟩
    ·exact .inr ⟨by rw [←e,g],by simp [un,hx]⟩
    ·exact .inr ⟨k,by simp [un,hx]⟩
 ·rcases j1 x with ⟨g,e⟩ | ⟨g,e⟩
  ·rcases j2 x with ⟨k,e'⟩ | ⟨k,e'⟩
   ·exact .inl ⟨k,by simp [un,g,e,e']⟩
   ·exact .inr ⟨by simp [un,g,k],by rw [e,e']⟩
  ·rcases j2 x with ⟨k,e'⟩ | ⟨k,e'⟩
   ·refine .inl ⟨k,?_⟩
    rw [e]
    cases hx:a x with
    | none=>simp [un,hx,←e',g]
    | some v=>simp [un,hx]
   ·refine .inl ⟨by rw [←e',g],?_⟩
    rw [e]
    cases hx:a x with
    | none=>simp [un,hx,k]
    | some v=>simp [un,hx]
theorem iR (A B C:ay):bk A (bk B C)=bk B (bk A C):=by
 funext h;exact propext ⟨HC,HC⟩
theorem DU (A B C:ay):bk (bk A B) C=bk A (bk B C):=by
 rw [HI,iR,HI C B]
theorem qi (A:ay):bk LF A=A:=by
 funext h
 refine propext ⟨fun⟨a,b,h1,h2,j⟩=>?_,fun H=>⟨fun _=>none,h,fun _=>rfl,H,fun x=>.inl ⟨rfl,rfl⟩⟩⟩
 have:h=b:=by
  funext x
  rcases j x with ⟨_,e⟩ | ⟨g,e⟩
  ·exact e
  ·rw [e,h1 x,g]
 rw [this];exact h2
structure bh where
 w:World
 keep:Nat→Option Obj
 min:Nat
abbrev bh.of (w:World):bh:=⟨w,fun _=>none,0⟩
def bh.with (w0:bh)(k:Nat→Option Obj)(m:Nat):bh:=⟨w0.w,fun b=>match w0.keep b with | some o=>some o | none=>k b,max w0.min m⟩
structure Hd (w0:bh)(h:Hl)(w:World):Prop where
 step:jc [] w0.w w
 cell:∀b cs,h b=some cs→w0.w.heap.size≤b∧mem w b=some cs∧opn w b=true
 kept:∀b o,w0.keep b=some o→w.heap[b]? = some o∧o.isCells=false
 min:w0.min≤w.heap.size
def St (w0:bh)(L:List ay)(w:World):Prop:=∃h,da L h∧Hd w0 h w
def G (w0:bh)(L:List ay)(F:World→Prop):Prop:=∀w,St w0 L w→F w
theorem Hd.sub {w0:bh}{h h':Hl}{w:World}(H:Hd w0 h w)(hs:∀b cs,h' b=some cs→h b=some cs):Hd w0 h' w:=⟨H.step,fun b cs hb=>H.cell b cs (hs b cs hb),H.kept,H.min⟩
theorem KK.left {a b c:Hl}(j:KK a b c):∀x cs,a x=some cs→c x=some cs:=fun x cs hx=>by
 rcases j x with ⟨g,_⟩ | ⟨_,e⟩
 ·rw [hx] at g;cases g
 ·rw [e,hx]
theorem KK.right {a b c:Hl}(j:KK a b c):∀x cs,b x=some cs→c x=some cs:=j.comm.left
theorem St.drop {w0:bh}{A:ay}{L:List ay}{w:World}(H:St w0 (A::L) w):St w0 L w:=by
 obtain⟨h,⟨a,b,_,hb,j⟩,hd⟩:=H
 exact⟨b,hb,hd.sub j.right⟩
theorem St.nil {w0:bh}{L:List ay}{w:World}(H:St w0 L w):St w0 [] w:=by
 obtain⟨h,_,hd⟩:=H
 exact⟨fun _=>none,fun _=>rfl,hd.sub (fun b cs hb=>by cases hb)⟩
class Pg (L' L:List ay):Prop where
 sub:∀h,da L h→∃h',da L' h'∧∀b cs,h' b=some cs→h b=some cs
class L2 (L:List ay)(A:ay)(M:outParam (List ay)):Prop where
 eq:da L=da (A::M)
instance L2.hd {A:ay}{L:List ay}:L2 (A::L) A L:=⟨rfl⟩
instance (priority:=500) L2.tl {A B:ay}{L M:List ay}[p:L2 L A M]:L2 (B::L) A (B::M):=⟨by
 show bk B (da L)=bk A (bk B (da M));rw [p.eq,iR];rfl⟩
instance (priority:=900) Pg.refl {L:List ay}:Pg L L:=⟨fun h H=>⟨h,H,fun _ _ e=>e⟩⟩
instance Pg.nil {L:List ay}:Pg [] L:=⟨fun h _=>⟨fun _=>none,fun _=>rfl,fun b cs e=>by cases e⟩⟩
instance (priority:=800) Pg.pick {A:ay}{L' L M:List ay}[p:L2 L A M][s:Pg L' M]:Pg (A::L') L:=⟨fun h H=>by
 rw [p.eq] at H
 obtain⟨a,b,ha,hb,j⟩:=H
 obtain⟨b',h1,h2⟩:=s.sub b hb
 refine⟨un a b',⟨a,b',ha,h1,fun x=>?_⟩,fun x cs hx=>?_⟩
 ·cases hx:a x with
  | none=>exact .inl ⟨rfl,by simp [un,hx]⟩
  | some v =>
   refine .inr ⟨?_,by simp [un,hx]⟩
   rcases j x with ⟨g,_⟩ | ⟨g,_⟩
   ·rw [hx] at g;cases g
   ·cases hb2:b' x with
    | none=>rfl
    | some cs=>rw [h2 x cs hb2] at g;cases g
 ·cases hx2:a x with
  | none=>simp only [un,hx2] at hx;exact j.right x cs (h2 x cs hx)
  | some v=>simp only [un,hx2] at hx;cases hx;exact j.left x _ hx2⟩
instance (priority:=400) Pg.skip {A:ay}{L' L:List ay}[s:Pg L' L]:Pg L' (A::L):=⟨fun h ⟨a,b,ha,hb,j⟩=>by
 obtain⟨h',h1,h2⟩:=s.sub b hb
 exact⟨h',h1,fun x cs e=>j.right x cs (h2 x cs e)⟩⟩
theorem St.sub {w0:bh}{L L':List ay}{w:World}[s:Pg L' L](H:St w0 L w):St w0 L' w:=by
 obtain⟨h,h1,h2⟩:=H
 obtain⟨h',g1,g2⟩:=s.sub h h1
 exact⟨h',g1,h2.sub g2⟩
section
variable {w0:bh}{L:List ay}{F:World→Prop}
theorem G.sub {L':List ay} [Pg L' L](h:G w0 L' F):G w0 L F:=fun w H=>h w H.sub
theorem G.drop {A:ay}(h:G w0 L F):G w0 (A::L) F:=fun w H=>h w H.drop
theorem dm {L':List ay}(e:da L=da L'):G w0 L F=G w0 L' F:=by unfold G St;rw [e]
theorem fa {A B:ay}:G w0 (bk A B::L) F=G w0 (A::B::L) F:=dm (DU _ _ _)
theorem Jz:G w0 (LF::L) F=G w0 L F:=dm (qi _)
theorem fA {A B:ay}:G w0 (A::B::L) F=G w0 (B::A::L) F:=dm (iR _ _ _)
theorem D5 {A B C:ay}:G w0 (A::B::C::L) F=G w0 (C::A::B::L) F:=dm (by show bk A (bk B (bk C (da L)))=bk C (bk A (bk B (da L)));rw [iR B C,iR A C])
theorem QC {A B C D:ay}:G w0 (A::B::C::D::L) F=G w0 (D::A::B::C::L) F:=dm (by show bk A (bk B (bk C (bk D (da L))))=bk D (bk A (bk B (bk C (da L))));rw [iR C D,iR B D,iR A D])
theorem qv {α:Type}{f:α→ay}:G w0 (mW f::L) F=∀x,G w0 (f x::L) F:=by
 apply propext
 constructor
 ·intro H x w ⟨h,⟨a,b,ha,hb,j⟩,hd⟩
  exact H w ⟨h,⟨a,b,⟨x,ha⟩,hb,j⟩,hd⟩
 ·intro H w ⟨h,⟨a,b,⟨x,ha⟩,hb,j⟩,hd⟩
  exact H x w ⟨h,⟨a,b,ha,hb,j⟩,hd⟩
theorem fU {p:Prop}:G w0 (ie p::L) F=(p→G w0 L F):=by
 apply propext
 constructor
 ·intro H hp w ⟨h,hs,hd⟩
  refine H w ⟨h,?_,hd⟩
  have:bk LF (da L) h:=by rw [qi];exact hs
  obtain⟨a,b,h1,h2,j⟩:=this
  exact⟨a,b,⟨hp,h1⟩,h2,j⟩
 ·intro H w ⟨h,⟨a,b,⟨hp,ha⟩,hb,j⟩,hd⟩
  exact H hp w ⟨b,hb,hd.sub j.right⟩
class aq {κ σ:Type}(L:List ay)(R:κ→σ→ay)(k:κ)(s:outParam σ)(C:outParam (ay→List ay)):Prop where
 here:L=C (ob R k s)
 front:∃M,∀A,da (C A)=da (A::M)
instance aq.hd {κ σ:Type}{R:κ→σ→ay}{k:κ}{s:σ}{L:List ay}:aq (ob R k s::L) R k s (fun a=>a::L):=⟨rfl,L,fun _=>rfl⟩
instance (priority:=500) aq.tl {κ σ:Type}{R:κ→σ→ay}{k:κ}{s:σ}{L:List ay}{C:ay→List ay}{X:ay}[i:aq L R k s C]:aq (X::L) R k s (fun a=>X::C a) :=
 ⟨congrArg (X::·) i.here,by
  obtain⟨M,hM⟩:=i.front
  exact⟨X::M,fun A=>by show bk X (da (C A))=bk A (bk X (da M));rw [hM A,iR];rfl⟩⟩
theorem aq.fronts {κ σ:Type}{R:κ→σ→ay}{k:κ}{s:σ}{C:ay→List ay}(i:aq L R k s C) :
  ∃M,da L=da (ob R k s::M)∧(∀A,da (C A)=da (A::M))∧(∀B A,da (B::C A)=da (B::A::M))∧(∀D B A,da (D::B::C A)=da (D::B::A::M)):=by
 obtain⟨M,hM⟩:=i.front
 refine⟨M,by rw [i.here,hM],hM,fun B A=>?_,fun D B A=>?_⟩
 ·show bk B (da (C A))=bk B (da (A::M));rw [hM]
 ·show bk D (bk B (da (C A)))=bk D (bk B (da (A::M)));rw [hM]
theorem aq.use {κ σ:Type}{R:κ→σ→ay}{k:κ}{s:σ}{C:ay→List ay}[i:aq L R k s C]{A':ay}{F':World→Prop}(h:∀M,G w0 (A'::M) F'→G w0 (ob R k s::M) F)(h':G w0 (C A') F'):G w0 L F:=by
 obtain⟨M,e1,e2,_⟩:=i.fronts
 rw [dm e1];exact h M (by rw [←dm (e2 A')];exact h')
theorem aq.useM {κ σ:Type}{R:κ→σ→ay}{k:κ}{s:σ}{C:ay→List ay}[i:aq L R k s C]{A':ay}{F':World→Prop}(h:∀M,(∀A,da (C A)=da (A::M))→G w0 (A'::M) F'→G w0 (ob R k s::M) F)(h':G w0 (C A') F'):G w0 L F:=by
 obtain⟨M,e1,e2,_⟩:=i.fronts
 rw [dm e1];exact h M e2 (by rw [←dm (e2 A')];exact h')
theorem aq.useNM {κ σ ι:Type}{R:κ→σ→ay}{k:κ}{s:σ}{C:ay→List ay}[i:aq L R k s C]{P:ι→Prop}{N A':ι→ay}{F':ι→World→Prop}(h:∀M,(∀A,da (C A)=da (A::M))→(∀y,P y→G w0 (N y::A' y::M) (F' y))→G w0 (ob R k s::M) F)
  (h':∀y,P y→G w0 (N y::C (A' y)) (F' y)):G w0 L F:=by
 obtain⟨M,e1,e3,e2,_⟩:=i.fronts
 rw [dm e1];exact h M e3 (fun y hy=>by rw [←dm (e2 (N y) (A' y))];exact h' y hy)
theorem aq.ro {κ σ:Type}{R:κ→σ→ay}{k:κ}{s:σ}{C:ay→List ay}[i:aq L R k s C]{F':World→Prop}(h:∀M,G w0 (ob R k s::M) F'→G w0 (ob R k s::M) F)(h':G w0 L F'):G w0 L F :=
 aq.use (k:=k) (s:=s) (R:=R) (C:=C) (A':=ob R k s) h (by rw [←i.here];exact h')
theorem aq.roN {κ σ ι:Type}{R:κ→σ→ay}{k:κ}{s:σ}{C:ay→List ay}[i:aq L R k s C]{P:ι→Prop}{N:ι→ay}{F':ι→World→Prop}(h:∀M,(∀y,P y→G w0 (N y::ob R k s::M) (F' y))→G w0 (ob R k s::M) F)
  (h':∀y,P y→G w0 (N y::L) (F' y)):G w0 L F:=by
 obtain⟨M,e1,_,e2,_⟩:=i.fronts
 rw [dm e1]
 refine h M fun y hy=>?_
 rw [←dm (e2 (N y) _),←i.here];exact h' y hy
theorem aq.useA {κ σ ι:Type}{R:κ→σ→ay}{k:κ}{s:σ}{C:ay→List ay}[i:aq L R k s C]{A':ι→ay}{F':ι→World→Prop}(h:∀M,(∀y,G w0 (A' y::M) (F' y))→G w0 (ob R k s::M) F)
  (h':∀y,G w0 (C (A' y)) (F' y)):G w0 L F:=by
 obtain⟨M,e1,e2,_⟩:=i.fronts
 rw [dm e1];exact h M (fun y=>by rw [←dm (e2 (A' y))];exact h' y)
theorem G.front {κ σ:Type}{R:κ→σ→ay}{k:κ}{s:σ}{C:ay→List ay}[i:aq L R k s C](h:∀M,(∀A,da (C A)=da (A::M))→G w0 (ob R k s::M) F):G w0 L F:=by
 obtain⟨M,e1,e2,_⟩:=i.fronts
 rw [dm e1];exact h M e2
class Cs {κ σ:Type}(L:List ay)(R:κ→σ→ay)(k:κ)(s:outParam σ)(M:outParam (List ay)):Prop where
 eq:da L=da (ob R k s::M)
instance Cs.hd {κ σ:Type}{R:κ→σ→ay}{k:κ}{s:σ}{L:List ay}:Cs (ob R k s::L) R k s L:=⟨rfl⟩
instance (priority:=500) Cs.tl {κ σ:Type}{R:κ→σ→ay}{k:κ}{s:σ}{L M:List ay}{X:ay}[t:Cs L R k s M]:Cs (X::L) R k s (X::M):=⟨by
 show bk X (da L)=bk (ob R k s) (bk X (da M));rw [t.eq,iR];rfl⟩
theorem G.take1 {κ σ:Type}(R:κ→σ→ay)(k:κ){s:σ}{M:List ay}[t:Cs L R k s M](h:G w0 (ob R k s::M) F):G w0 L F:=by rw [dm t.eq];exact h
theorem St.own_mem {b:Nat}{cs:List Value}{w:World}(H:St w0 (own b cs::L) w):w0.w.heap.size≤b∧mem w b=some cs∧opn w b=true:=by
 obtain⟨h,⟨a,c,ha,hc,j⟩,hd⟩:=H
 rw [show own b cs=og b cs from eZ _ _ _] at ha
 exact hd.cell b cs (j.left b cs (by rw [ha b,if_pos rfl]))
theorem St.own_put {b:Nat}{cs cs':List Value}{w:World}(H:St w0 (own b cs::L) w):St w0 (own b cs'::L) (put w b cs'):=by
 have hm:=H.own_mem
 obtain⟨h,⟨a,c,ha,hc,j⟩,hd⟩:=H
 rw [show own b cs=og b cs from eZ _ _ _] at ha
 have hcb:c b=none:=by
  rcases j b with ⟨g,_⟩ | ⟨g,_⟩
  ·rw [ha b,if_pos rfl] at g;cases g
  ·exact g
 refine⟨fun x=>if x=b then some cs' else h x,⟨fun x=>if x=b then some cs' else none,c,?_,hc,fun x=>?_⟩,⟨hd.step.trans (jc.put w b cs') (by simp) (by simp [hm.1]),fun x ds hx=>?_,fun k o hk=>⟨by
  have hk2:=hd.kept k o hk
  simp only [S.put,Array.getElem?_modify]
  split
  ·rw [hk2.1];cases o <;> first | rfl | (have:=hk2.2;simp [Obj.isCells] at this)
  ·exact hk2.1,(hd.kept k o hk).2⟩,by simpa using hd.min⟩⟩
 ·rw [show own b cs'=og b cs' from eZ _ _ _];exact fun _=>rfl
 ·by_cases hx:x=b
  ·subst hx;exact .inr ⟨hcb,by simp⟩
  ·refine .inl ⟨by simp [hx],?_⟩
   simp only [if_neg hx]
   rcases j x with ⟨_,e⟩ | ⟨g,e⟩
   ·exact e
   ·rw [e,g,ha x,if_neg hx]
 ·by_cases hxb:x=b
  ·subst hxb
   simp only [if_true] at hx
   cases hx
   exact⟨hm.1,by rw [H6,if_pos rfl,hm.2.1];rfl,by rw [Ir];exact hm.2.2⟩
  ·simp only [if_neg hxb] at hx
   have:=hd.cell x ds hx
   exact⟨this.1,by rw [H6,if_neg hxb];exact this.2.1,by rw [Ir];exact this.2.2⟩
theorem St.alloc {w:World}(H:St w0 L w)(cs:List Value)(T:TypeId):St w0 (own w.heap.size cs::L) (w.alloc (.cells cs.toArray T)):=by
 obtain⟨h,hs,hd⟩:=H
 have hn:h w.heap.size=none:=by
  cases e:h w.heap.size with
  | none=>rfl
  | some cs=>have:=tY (hd.cell _ _ e).2.1;omega
 have hz:=hd.step.size
 refine⟨fun x=>if x=w.heap.size then some cs else h x,⟨fun x=>if x=w.heap.size then some cs else none,h,?_,hs,fun x=>?_⟩,⟨hd.step.trans (jc.alloc w _ T []) (by simp) (by simp),fun x ds hx=>?_,fun k o hk=>⟨by
  have hk2:=(hd.kept k o hk).1
  have hlt:=(Array.getElem?_eq_some_iff.1 hk2).1
  show (w.heap.push _)[k]? = _
  rw [Array.getElem?_push,if_neg (by omega)];exact hk2,(hd.kept k o hk).2⟩,by have:=hd.min;simp;omega⟩⟩
 ·rw [show own w.heap.size cs=og w.heap.size cs from eZ _ _ _];exact fun _=>rfl
 ·by_cases hx:x=w.heap.size
  ·subst hx;exact .inr ⟨hn,by simp⟩
  ·exact .inl ⟨by simp [hx],by simp [hx]⟩
 ·by_cases hxb:x=w.heap.size
  ·subst hxb
   simp only [if_true] at hx
   cases hx
   exact⟨hz,by rw [He,if_pos rfl],by rw [HK,if_pos rfl]⟩
  ·simp only [if_neg hxb] at hx
   have:=hd.cell x ds hx
   exact⟨this.1,by rw [He,if_neg hxb];exact this.2.1,by rw [HK,if_neg hxb];exact this.2.2⟩
theorem St.drew {w:World}(H:St w0 L w):St w0 L w.drew:=by
 obtain⟨h,hs,hd⟩:=H
 exact⟨h,hs,hd.step.trans (jc.drew w []) (by simp) (by simp),fun b cs hb=>hd.cell b cs hb,hd.kept,hd.min⟩
theorem St.step {w:World}(H:St w0 L w):jc [] w0.w w:=H.elim fun _ h=>h.2.step
end
abbrev ptr (b:Nat)(i:Nat):Value:=.pointer (some ⟨b,i,none⟩)
abbrev i64 (n:Int):Value:=.int .i64 n
abbrev u64 (n:Int):Value:=.int .u64 n
class Ju {α:Type}(cs:List α)(j:Nat)(v:outParam α):Prop where
 eq:cs[j]? = some v
instance Ju.z {α:Type}{a:α}{l:List α}:Ju (a::l) 0 a:=⟨rfl⟩
instance Ju.s {α:Type}{a b:α}{l:List α}{n:Nat}[h:Ju l n a]:Ju (b::l) (n+1) a:=⟨by simpa using h.eq⟩
class ar (v:Value)(cs:outParam (List Value)):Prop where
 eq:v.cells.toList=cs
 ones:∀u∈cs,one u=true
instance {k:IntKind}{n:Int}:ar (.int k n) [.int k n]:=⟨rfl,by simp [one]⟩
instance {b:Bool}:ar (.bool b) [.bool b]:=⟨rfl,by simp [one]⟩
instance {a:Option Addr}:ar (.pointer a) [.pointer a]:=⟨rfl,by simp [one]⟩
instance {t:TypeId}{v:Value}:ar (.iface t v) [.iface t v]:=⟨rfl,by simp [one]⟩
instance:ar .nilIface [.nilIface]:=⟨rfl,by simp [one]⟩
instance {s:ByteArray}:ar (.string s) [.string s]:=⟨rfl,by simp [one]⟩
instance {a:Option Addr}{n c:Nat}:ar (.slice a n c) [.slice a n c]:=⟨rfl,by simp [one]⟩
instance {f:Go.Fn}{a b:Array Value}:ar (.func f a b) [.func f a b]:=⟨rfl,by simp [one]⟩
instance:ar .nilFunc [.nilFunc]:=⟨rfl,by simp [one]⟩
class yf (cs:List Value):Prop where
 ones:∀u∈cs,one u=true
instance:yf []:=⟨by simp⟩
instance {k:IntKind}{n:Int}{l:List Value}[h:yf l]:yf (.int k n::l):=⟨by simpa [one] using h.ones⟩
instance {b:Bool}{l:List Value}[h:yf l]:yf (.bool b::l):=⟨by simpa [one] using h.ones⟩
instance {a:Option Addr}{l:List Value}[h:yf l]:yf (.pointer a::l):=⟨by simpa [one] using h.ones⟩
instance {a:Option Addr}{n c:Nat}{l:List Value}[h:yf l]:yf (.slice a n c::l):=⟨by simpa [one] using h.ones⟩
instance {f:Go.Fn}{a b:Array Value}{l:List Value}[h:yf l]:yf (.func f a b::l):=⟨by simpa [one] using h.ones⟩
instance {l:List Value}[h:yf l]:yf (.nilFunc::l):=⟨by simpa [one] using h.ones⟩
instance (priority:=500){v:Value}{l:List Value}[h:yf l][hv:ar v [v]]:yf (v::l):=⟨by simpa using ⟨hv.ones v (by simp),h.ones⟩⟩
instance {cs:List Value}[h:yf cs]:ar (.agg cs.toArray) cs:=⟨rfl,h.ones⟩
class rt (cs:List Value)(j:Nat)(vs:List Value)(r:outParam (List Value)):Prop where
 eq:Cq cs j vs=r
 le:j+vs.length≤cs.length
instance rt.nil {cs:List Value}:rt cs 0 [] cs:=⟨rfl,by simp⟩
instance rt.z {c v:Value}{cs vs r:List Value}[h:rt cs 0 vs r]:rt (c::cs) 0 (v::vs) (v::r):=⟨by
 have h1:=h.eq
 have h2:=h.le
 rw [q8 _ _ _ (by simpa using h2)] at h1
 rw [q8 _ _ _ (by simpa using h2)]
 simpa using h1,by simpa using h.le⟩
instance rt.s {c:Value}{cs vs r:List Value}{j:Nat}[h:rt cs j vs r]:rt (c::cs) (j+1) vs (c::r):=⟨by
 have h1:=h.eq
 have h2:=h.le
 rw [q8 _ _ _ h2] at h1
 rw [q8 _ _ _ (by simp only [List.length_cons];omega)]
 rw [show j+1+vs.length=(j+vs.length)+1 by omega]
 simpa using h1,by have:=h.le;simp only [List.length_cons];omega⟩
class Dg (vs:List Value)(n:Nat):Prop where
 eq:vs.length=n
instance:Dg [] 0:=⟨rfl⟩
instance {v:Value}{vs:List Value}{n:Nat}[h:Dg vs n]:Dg (v::vs) (n+1):=⟨by simp [h.eq]⟩
class ku (cs:List Value)(j n:Nat)(r:outParam (List Value)):Prop where
 eq:(cs.drop j).take n=r
 le:j+n≤cs.length
instance ku.nil {cs:List Value}:ku cs 0 0 []:=⟨by simp,by simp⟩
instance ku.z {c:Value}{cs r:List Value}{n:Nat}[h:ku cs 0 n r]:ku (c::cs) 0 (n+1) (c::r):=⟨by have:=h.eq;simpa using this,by have:=h.le;simp only [List.length_cons];omega⟩
instance ku.s {c:Value}{cs r:List Value}{j n:Nat}[h:ku cs j n r]:ku (c::cs) (j+1) n r:=⟨by have:=h.eq;simpa using this,by have:=h.le;simp only [List.length_cons];omega⟩
section
variable {w0:bh}{L:List ay}{K:KV}{b j n:Nat}{cs:List Value}{C:ay→List ay}
theorem Ci [i:aq L og b cs C]:∃M,(∀w,St w0 L w↔St w0 (own b cs::M) w)∧(∀A w,St w0 (C A) w↔St w0 (A::M) w):=by
 obtain⟨M,e1,e2,_⟩:=i.fronts
 exact⟨M,fun w=>by unfold St;rw [e1],fun A w=>by unfold St;rw [e2]⟩
theorem TH [i:aq L og b cs C]{v:Value}[hv:Ju cs j v]:G w0 L (ab (ptr b j) K)=G w0 L (K v):=by
 obtain⟨M,e1,_⟩:=Ci (w0:=w0) (i:=i)
 have:∀w,St w0 L w→(ab (ptr b j) K w↔K v w):=fun w H=>by
  have:=((e1 w).1 H).own_mem
  simp [ab,this.2.1,hv.eq,dn]
 exact propext ⟨fun h w H=>(this w H).1 (h w H),fun h w H=>(this w H).2 (h w H)⟩
theorem Re [i:aq L og b cs C]{r:List Value}[hv:ku cs j n r]:G w0 L (aj n (ptr b j) K)=G w0 L (K (.agg r.toArray)):=by
 obtain⟨M,e1,_⟩:=Ci (w0:=w0) (i:=i)
 have:∀w,St w0 L w→(aj n (ptr b j) K w↔K (.agg r.toArray) w):=fun w H=>by
  have:=((e1 w).1 H).own_mem
  have hle:=hv.le
  simp [aj,this.2.1,hv.eq,hle]
 exact propext ⟨fun h w H=>(this w H).1 (h w H),fun h w H=>(this w H).2 (h w H)⟩
theorem Qc [i:aq L og b cs C]{v:Value}{vs:List Value}[hv:ar v vs](hn:vs.length=n)(hle:j+n≤cs.length):G w0 L (ag n (ptr b j) v K)=G w0 (C (own b (Cq cs j vs))) (K undef):=by
 obtain⟨M,e1,e2⟩:=Ci (w0:=w0) (i:=i)
 have hsz:v.cells.size=n:=by rw [←hn,←hv.eq];simp
 have one:∀w,St w0 L w→(ag n (ptr b j) v K w↔K undef (put w b (Cq cs j vs))):=fun w H=>by
  have hm:=((e1 w).1 H).own_mem
  simp only [ag,hm.2.1,hm.2.2,hsz,hv.eq,true_and]
  exact⟨fun h=>h.2.2,fun h=>⟨hv.ones,hle,h⟩⟩
 apply propext
 constructor
 ·intro h w H
  have H1:=(e2 _ w).1 H
  have H2:=(e1 _).2 (H1.own_put (cs':=cs))
  have h3:=(one _ H2).1 (h _ H2)
  rw [Jf,Bg H1.own_mem.2.1] at h3
  exact h3
 ·intro h w H
  exact(one w H).2 (h _ ((e2 _ _).2 ((e1 w).1 H).own_put))
theorem Rs [i:aq L og b cs C]{v:Value}{vs r:List Value}[hv:ar v vs][hr:rt cs j vs r][hl:Dg vs n]:G w0 L (ag n (ptr b j) v K)=G w0 (C (own b r)) (K undef):=by
 have hn:=hl.eq
 rw [Qc hn (by rw [←hn];exact hr.le),hr.eq]
theorem G.new (h:∀b,G w0 (own b cs::L) (K (ptr b 0))):G w0 L (eI cs.toArray K):=fun w H T=>h _ _ (H.alloc cs T)
theorem G.box {v:Value}[hv:ar v cs](h:∀b,G w0 (own b cs::L) (K (ptr b 0))):G w0 L (dr v K):=by
 intro w H T
 have:v.cells=cs.toArray:=by rw [←hv.eq]
 rw [this]
 exact h _ _ (H.alloc cs T)
theorem G.drew {F:World→Prop}(h:G w0 L F):G w0 L (aw F):=fun w H=>h _ H.drew
theorem Ut {A B:World→Prop}:G w0 L (andP A B)=(G w0 L A∧G w0 L B):=propext ⟨fun h=>⟨fun w H=>(h w H).1,fun w H=>(h w H).2⟩,fun h w H=>⟨h.1 w H,h.2 w H⟩⟩
theorem SV:G w0 L ac=True:=eq_true fun _ _=>trivial
theorem T3 {v:Value}:G w0 L (dh v v)=True:=eq_true fun _ _=>rfl
theorem G.andP {A B:World→Prop}(h1:G w0 L A)(h2:G w0 L B):G w0 L (andP A B):=fun w H=>⟨h1 w H,h2 w H⟩
theorem Hi {B:World→Prop}:S.andP ac B=B:=by funext w;simp [S.andP,ac]
theorem G.cond {t:Bool}{A B:World→Prop}(h1:t=true→G w0 L A)(h2:t=false→G w0 L B):G w0 L (ae (.bool t) A B):=fun w H=>⟨fun e=>h1 e w H,fun e=>h2 e w H⟩
theorem Iv {A B:World→Prop}:ae (.bool true) A B=A:=by funext w;simp [ae,My]
theorem Ja {A B:World→Prop}:ae (.bool false) A B=B:=by funext w;simp [ae,My]
theorem xn {A:KV→World→Prop}{e:Value}{t:Bool}:df (.bool t) t A e K=A K:=by funext w;simp [df]
theorem xS {A:KV→World→Prop}{e:Value}:df (.bool true) false A e K=K e:=by funext w;simp [df]
theorem xR {A:KV→World→Prop}{e:Value}:df (.bool false) true A e K=K e:=by funext w;simp [df]
theorem Rx {A:KV→World→Prop}{t:Bool}:gW (.bool t) t A K=A K:=by funext w;simp [gW,OG]
theorem M7 {A:KV→World→Prop}:gW (.bool true) false A K=K undef:=by funext w;simp [gW,OG]
theorem Nl {A:KV→World→Prop}:gW (.bool false) true A K=K undef:=by funext w;simp [gW,OG]
theorem Ug {A:KV→World→Prop}{t:Bool}:gW undef t A K=K undef:=by funext w;simp [gW,OG,undef]
theorem Qd {v x:Value}:bd v x (.bool false) K=df v true (fun K=>K x) (.bool false) K:=by
 funext w;cases v <;> simp [bd,df];rename_i t;cases t <;> simp
theorem Q2 {v x:Value}:bd v (.bool true) x K=df v false (fun K=>K x) (.bool true) K:=by
 funext w;cases v <;> simp [bd,df];rename_i t;cases t <;> simp
theorem Pb {v e:Value}{t:Bool}{A:KV→World→Prop}{B:Value→KV→World→Prop}:gW v t A (fun y=>df v t (B y) e K)=df v t (fun K=>A (fun y=>B y K)) e K:=by
 cases v
 case bool s=>cases s <;> cases t <;> simp only [Rx,M7,Nl,xn,xS,xR]
 all_goals (funext w;simp [gW,OG,df])
theorem O9 {v:Value}{t:Bool}{A:KV→World→Prop}{B:Value→KV→World→Prop}{R:Value→World→Prop}:gW v t A (fun y=>gW v t (B y) R)=gW v t (fun K=>A (fun y=>B y K)) R:=by
 cases v
 case bool s=>cases s <;> cases t <;> simp only [Rx,M7,Nl]
 all_goals (funext w;simp [gW,OG])
theorem RH {v e:Value}{t s:Bool}{A:KV→World→Prop}{B:Value→KV→World→Prop}{D:Value→Value→KV→World→Prop} :
  gW v t A (fun b=>gW b s (B b) (fun c=>df v t (D b c) e K))=df v t (fun K=>A (fun b=>gW b s (B b) (fun c=>D b c K))) e K:=by
 cases v
 case bool u=>cases u <;> cases t <;> simp only [Rx,M7,Nl,Ug,xn,xS,xR]
 all_goals (funext w;simp [gW,OG,df,undef])
theorem L6 {p q:Bool}:df (.bool p) true (fun K=>K (.bool q)) (.bool false) K=K (.bool (p && q)):=by funext w;cases p <;> simp [df]
theorem NN {p q:Bool}:df (.bool p) false (fun K=>K (.bool q)) (.bool true) K=K (.bool (p || q)):=by funext w;cases p <;> simp [df]
theorem G.all {p:Bool}(q:Bool){A:KV→World→Prop}(hA:p=true→∀K,G w0 L (K (.bool q))→G w0 L (A K))(h:G w0 L (K (.bool (p && q)))):G w0 L (df (.bool p) true A (.bool false) K):=by
 cases p
 ·rw [xR];simpa using h
 ·rw [xn];exact hA rfl K (by simpa using h)
theorem G.any {p:Bool}(q:Bool){A:KV→World→Prop}(hA:p=false→∀K,G w0 L (K (.bool q))→G w0 L (A K))(h:G w0 L (K (.bool (p || q)))):G w0 L (df (.bool p) false A (.bool true) K):=by
 cases p
 ·rw [xn];exact hA rfl K (by simpa using h)
 ·rw [xS];simpa using h
end
theorem least {P:Nat→Prop}(h:∃n,P n):∃n,P n∧∀m,m<n→¬P m:=by
 obtain⟨n,hn⟩:=h
 induction n using Nat.strongRecOn with
 | _ n ih =>
  by_cases hx:∃m,m<n∧P m
  ·obtain⟨m,h1,h2⟩:=hx
   exact ih m h1 h2
  ·exact⟨n,hn,fun m hm hp=>hx ⟨m,hm,hp⟩⟩
theorem xW {σ:Type}(R:σ→List Value→World→Prop)(μ:σ→Nat):∃m:List Value→World→Nat,∀vs w1,(∃s,R s vs w1)→∃s,R s vs w1∧∀vs' w' s',R s' vs' w'→μ s'<μ s→m vs' w'<m vs w1:=by
 classical
 refine⟨fun vs w=>if h:∃n s,R s vs w∧μ s=n then (least h).choose else 0,fun vs w1 hs=>?_⟩
 have h:∃n s,R s vs w1∧μ s=n:=hs.elim fun s h=>⟨_,s,h,rfl⟩
 obtain⟨⟨s,h1,h2⟩,_⟩:=(least h).choose_spec
 refine⟨s,h1,fun vs' w' s' h3 h4=>?_⟩
 have h':∃n s,R s vs' w'∧μ s=n:=⟨_,s',h3,rfl⟩
 simp only [dif_pos h,dif_pos h']
 have:=(least h').choose_spec.2
 rcases Nat.lt_or_ge (μ s') (least h').choose with hl | hl
 ·exact absurd ⟨s',h3,rfl⟩ (this _ hl)
 ·omega
section
variable {w0:bh}{L:List ay}
theorem G.loop0 {σ:Type}  (Ls:σ→List ay)(P:σ→Prop)(μ:σ→Nat)(s0:σ){body:(World→Prop)→World→Prop}  (hL:G w0 (Ls s0)=G w0 L)(hP:P s0)
  (hr:∀s,P s→∀J:World→Prop,(∀s',P s'→μ s'<μ s→G w0 (Ls s') (J ))→G w0 (Ls s) (body J )):G w0 L (Fl  body):=by
 rw [←hL]
 intro w H
 obtain⟨m,hm⟩:=xW (fun s vs w=>P s∧vs=[]∧St w0 (Ls s) w) μ
 refine⟨fun vs w=>∃s,P s∧vs=[]∧St w0 (Ls s) w,m,⟨s0,hP,rfl,H⟩,?_⟩
 intro  w1 hI
 obtain⟨s,⟨h1,h2,h3⟩,hlt⟩:=hm _ _ hI
 clear h2
 exact hr s h1 _ (fun s' hp' hlt' w' H'=>⟨⟨s',hp',rfl,H'⟩,hlt _ _ s' ⟨hp',rfl,H'⟩ hlt'⟩) w1 h3
theorem G.loop1 {σ:Type}(v0:σ→Value)(Ls:σ→List ay)(P:σ→Prop)(μ:σ→Nat)(s0:σ){a0:Value}{body:(Value→World→Prop)→Value→World→Prop}(h0:a0=v0 s0)(hL:G w0 (Ls s0)=G w0 L)(hP:P s0)
  (hr:∀s,P s→∀J:Value→World→Prop,(∀s',P s'→μ s'<μ s→G w0 (Ls s') (J (v0 s')))→G w0 (Ls s) (body J (v0 s))):G w0 L (e9 a0 body):=by
 subst h0
 rw [←hL]
 intro w H
 obtain⟨m,hm⟩:=xW (fun s vs w=>P s∧vs=[v0 s]∧St w0 (Ls s) w) μ
 refine⟨fun vs w=>∃s,P s∧vs=[v0 s]∧St w0 (Ls s) w,m,⟨s0,hP,rfl,H⟩,?_⟩
 intro x0 w1 hI
 obtain⟨s,⟨h1,h2,h3⟩,hlt⟩:=hm _ _ hI
 simp only [List.cons.injEq,and_true] at h2
 subst h2
 exact hr s h1 _ (fun s' hp' hlt' w' H'=>⟨⟨s',hp',rfl,H'⟩,hlt _ _ s' ⟨hp',rfl,H'⟩ hlt'⟩) w1 h3
theorem G.loopc1 {σ:Type}(v0:σ→Value)(P:σ→Prop)(μ:σ→Nat)(s0:σ){a0:Value}{body:(Value→World→Prop)→Value→World→Prop}(h0:a0=v0 s0)(hP:P s0)
  (hr:∀s,P s→∀J:Value→World→Prop,(∀s',P s'→μ s'<μ s→G w0 L (J (v0 s')))→G w0 L (body J (v0 s))):G w0 L (e9 a0 body) :=
 G.loop1 v0 (fun _=>L) P μ s0 h0 rfl hP hr
theorem G.loop2 {σ:Type}(v0:σ→Value)(v1:σ→Value)(Ls:σ→List ay)(P:σ→Prop)(μ:σ→Nat)(s0:σ){a0 a1:Value}{body:(Value→Value→World→Prop)→Value→Value→World→Prop}(h0:a0=v0 s0)(h1:a1=v1 s0)(hL:G w0 (Ls s0)=G w0 L)(hP:P s0)
  (hr:∀s,P s→∀J:Value→Value→World→Prop,(∀s',P s'→μ s'<μ s→G w0 (Ls s') (J (v0 s') (v1 s')))→G w0 (Ls s) (body J (v0 s) (v1 s))):G w0 L (iX a0 a1 body):=by
 subst h0 h1
 rw [←hL]
 intro w H
 obtain⟨m,hm⟩:=xW (fun s vs w=>P s∧vs=[v0 s,v1 s]∧St w0 (Ls s) w) μ
 refine⟨fun vs w=>∃s,P s∧vs=[v0 s,v1 s]∧St w0 (Ls s) w,m,⟨s0,hP,rfl,H⟩,?_⟩
 intro x0 x1 w1 hI
 obtain⟨s,⟨h1,h2,h3⟩,hlt⟩:=hm _ _ hI
 simp only [List.cons.injEq,and_true] at h2
 obtain⟨rfl,rfl⟩:=h2
 exact hr s h1 _ (fun s' hp' hlt' w' H'=>⟨⟨s',hp',rfl,H'⟩,hlt _ _ s' ⟨hp',rfl,H'⟩ hlt'⟩) w1 h3
theorem G.loop3 {σ:Type}(v0:σ→Value)(v1:σ→Value)(v2:σ→Value)(Ls:σ→List ay)(P:σ→Prop)(μ:σ→Nat)(s0:σ){a0 a1 a2:Value}{body:(Value→Value→Value→World→Prop)→Value→Value→Value→World→Prop}(h0:a0=v0 s0)(h1:a1=v1 s0)(h2:a2=v2 s0)(hL:G w0 (Ls s0)=G w0 L)(hP:P s0)
  (hr:∀s,P s→∀J:Value→Value→Value→World→Prop,(∀s',P s'→μ s'<μ s→G w0 (Ls s') (J (v0 s') (v1 s') (v2 s')))→G w0 (Ls s) (body J (v0 s) (v1 s) (v2 s))):G w0 L (Ef a0 a1 a2 body):=by
 subst h0 h1 h2
 rw [←hL]
 intro w H
 obtain⟨m,hm⟩:=xW (fun s vs w=>P s∧vs=[v0 s,v1 s,v2 s]∧St w0 (Ls s) w) μ
 refine⟨fun vs w=>∃s,P s∧vs=[v0 s,v1 s,v2 s]∧St w0 (Ls s) w,m,⟨s0,hP,rfl,H⟩,?_⟩
 intro x0 x1 x2 w1 hI
 obtain⟨s,⟨h1,h2,h3⟩,hlt⟩:=hm _ _ hI
 simp only [List.cons.injEq,and_true] at h2
 obtain⟨rfl,rfl,rfl⟩:=h2
 exact hr s h1 _ (fun s' hp' hlt' w' H'=>⟨⟨s',hp',rfl,H'⟩,hlt _ _ s' ⟨hp',rfl,H'⟩ hlt'⟩) w1 h3
theorem G.joini0 {J:World→Prop}{B:(World→Prop)→World→Prop}(h:G w0 L (B J)):G w0 L (ax J B):=h
theorem G.join1 {σ:Type}(v0:σ→Value)(Ls:σ→List ay)(P:σ→Prop){J:Value→World→Prop}{B:(Value→World→Prop)→World→Prop}(hJ:∀s,P s→G w0 (Ls s) (J (v0 s)))
  (h:∀J:Value→World→Prop,(∀s,P s→G w0 (Ls s) (J (v0 s)))→G w0 L (B J)):G w0 L (cu J B):=h J hJ
theorem G.joini1 {J:Value→World→Prop}{B:(Value→World→Prop)→World→Prop}(h:G w0 L (B J)):G w0 L (cu J B):=h
theorem G.join2 {σ:Type}(v0:σ→Value)(v1:σ→Value)(Ls:σ→List ay)(P:σ→Prop){J:Value→Value→World→Prop}{B:(Value→Value→World→Prop)→World→Prop}(hJ:∀s,P s→G w0 (Ls s) (J (v0 s) (v1 s)))
  (h:∀J:Value→Value→World→Prop,(∀s,P s→G w0 (Ls s) (J (v0 s) (v1 s)))→G w0 L (B J)):G w0 L (lQ J B):=h J hJ
theorem G.joini2 {J:Value→Value→World→Prop}{B:(Value→Value→World→Prop)→World→Prop}(h:G w0 L (B J)):G w0 L (lQ J B):=h
end
end Go.Proofs.YtoealglbimbbmaaGreatDoor.S
