import Derived.Test.YtoealglbimbbmaaGreatDoorSEq
import Derived.IntWalk
import Derived.RangeFuncWrites
namespace Go.Proofs.YtoealglbimbbmaaGreatDoor.S
open Go Go.Proofs
set_option linter.unusedVariables false
theorem RB:(∀p:Prop,(True∧p)=p)∧(∀p:Prop,(p∧True)=p)∧(∀b:Bool,(b == true)=b)∧(∀b:Bool,(b == false) = !b)∧(∀b:Bool,(true == b)=b)∧(∀b:Bool,(false == b) = !b)∧(∀{_:Decidable True},decide True=true)∧(∀{_:Decidable False},decide False=false)∧((!true)=false)∧((!false)=true)∧(∀b:Bool,(b && true)=b)∧(∀b:Bool,(true && b)=b)∧(∀b:Bool,(b && false)=false)∧(∀b:Bool,(false && b)=false)∧(∀b:Bool,(b || true)=true)∧(∀b:Bool,(true || b)=true)∧(∀b:Bool,(b || false)=b)∧(∀b:Bool,(false || b)=b)∧(∀b:Bool,(!!b)=b):=by
 refine⟨by simp,by simp,by simp,by simp,by simp,by simp,by simp,by simp,rfl,rfl,?_,?_,?_,?_,?_,?_,?_,?_,?_⟩
 all_goals (intro b;cases b <;> rfl)
def bh (F:World→Prop):World→Prop:=fun w=>F w.drew
def andP (A B:World→Prop):World→Prop:=fun w=>A w∧B w
def ad:World→Prop:=fun _=>True
def dO (a b:Value):World→Prop:=fun _=>a=b
def dB (v:Value)(K:KV):World→Prop:=ee v.cells K
def ai (c:Value)(A B:World→Prop):World→Prop:=fun w=>MJ c (A w) (B w)
def dz (v:Value)(want:Bool)(A:KV→World→Prop)(e:Value)(K:KV):World→Prop:=fun w =>
 match v with
 | .bool b=>(b=want→A K w)∧(b≠want→K e w)
 | _=>False
def HI (body:(World→Prop)→World→Prop):World→Prop:=fun w =>
 ∃(I:List Value→World→Prop) (m:List Value→World→Nat),I [] w∧∀w1,I [] w1→body (fun w'=>I [] w'∧m [] w'<m [] w1) w1
def ev (a:Value)(body:(Value→World→Prop)→Value→World→Prop):World→Prop:=fun w =>
 ∃(I:List Value→World→Prop) (m:List Value→World→Nat),I [a] w∧∀x w1,I [x] w1→body (fun x' w'=>I [x'] w'∧m [x'] w'<m [x] w1) x w1
def iK (a b:Value)(body:(Value→Value→World→Prop)→Value→Value→World→Prop):World→Prop:=fun w =>
 ∃(I:List Value→World→Prop) (m:List Value→World→Nat),I [a,b] w∧∀x y w1,I [x,y] w1→body (fun x' y' w'=>I [x',y'] w'∧m [x',y'] w'<m [x,y] w1) x y w1
def QG (a b c:Value)(body:(Value→Value→Value→World→Prop)→Value→Value→Value→World→Prop):World→Prop:=fun w =>
 ∃(I:List Value→World→Prop) (m:List Value→World→Nat),I [a,b,c] w∧∀x y z w1,I [x,y,z] w1→body (fun x' y' z' w'=>I [x',y',z'] w'∧m [x',y',z'] w'<m [x,y,z] w1) x y z w1
def Vd (a b c d:Value)(body:(Value→Value→Value→Value→World→Prop)→Value→Value→Value→Value→World→Prop):World→Prop:=fun w =>
 ∃(I:List Value→World→Prop) (m:List Value→World→Nat),I [a,b,c,d] w∧∀x y z u w1,I [x,y,z,u] w1→body (fun x' y' z' u' w'=>I [x',y',z',u'] w'∧m [x',y',z',u'] w'<m [x,y,z,u] w1) x y z u w1
abbrev Hl:=Nat→Option (List Value)
abbrev bd:=Hl→Prop
def Jy (h1 h2 h:Hl):Prop:=∀b,(h1 b=none∧h b=h2 b)∨(h2 b=none∧h b=h1 b)
def LR:bd:=fun h=>∀b,h b=none
def bt (A B:bd):bd:=fun h=>∃h1 h2,A h1∧B h2∧Jy h1 h2 h
def od {α:Type}(f:α→bd):bd:=fun h=>∃x,f x h
def gX (p:Prop):bd:=fun h=>p∧LR h
def di:List bd→bd
 | []=>LR
 | A::L=>bt A (di L)
@[irreducible] def ob {κ σ:Type} (R:κ→σ→bd) (k:κ) (s:σ):bd:=R k s
theorem em {κ σ:Type}(R:κ→σ→bd)(k:κ)(s:σ):ob R k s=R k s:=by unfold ob;rfl
def oU (b:Nat)(cs:List Value):bd:=fun h=>∀b',h b'=if b'=b then some cs else none
abbrev own (b:Nat)(cs:List Value):bd:=ob oU b cs
theorem Jy.comm {a b c:Hl}(h:Jy a b c):Jy b a c:=fun x=>(h x).symm
theorem GX (A B:bd):bt A B=bt B A:=by
 funext h
 exact propext ⟨fun⟨a,b,h1,h2,j⟩=>⟨b,a,h2,h1,j.comm⟩,fun⟨a,b,h1,h2,j⟩=>⟨b,a,h2,h1,j.comm⟩⟩
def un (a b:Hl):Hl:=fun x=>match a x with | some v=>some v | none=>b x
theorem Gq {A B C:bd}{h:Hl}(H:bt A (bt B C) h):bt B (bt A C) h:=by
 obtain⟨a,bc,ha,⟨b,c,hb,hc,j2⟩,j1⟩:=H
 refine⟨b,un a c,hb,⟨a,c,ha,hc,fun x=>?_⟩,fun x=>?_⟩
 ·cases hx:a x with
  | none=>exact .inl ⟨rfl,by simp [un,hx]⟩
  | some v =>
   rcases j1 x with ⟨g,_⟩ | ⟨g,_⟩
   ·rw [hx] at g;cases g
   ·rcases j2 x with ⟨k,e⟩ | ⟨k,e⟩
    ·exact .inr ⟨by rw [←e,g],by simp [un,hx]⟩
    ·exact .inr ⟨k,by simp [un,hx]⟩
 ·rcases j1 x with ⟨g,e⟩ | ⟨g,e⟩
  ·rcases j2 x with ⟨k,e'⟩ | ⟨k,e'⟩
   ·exact .inl ⟨k,by simp [un,g,e,e']⟩
   ·exact .inr ⟨by simp [un,g,k],by rw [e,e']⟩
  ·rcases j2 x with ⟨k,e'⟩ | ⟨k,e'⟩
   ·refine .inl ⟨k,?_⟩
    rw [e]
    cases hx:a x with
    | none=>simp [un,hx,←e',g]
    | some v=>simp [un,hx]
   ·refine .inl ⟨by rw [←e',g],?_⟩
    rw [e]
    cases hx:a x with
    | none=>simp [un,hx,k]
    | some v=>simp [un,hx]
theorem iS (A B C:bd):bt A (bt B C)=bt B (bt A C):=by
 funext h;exact propext ⟨Gq,Gq⟩
theorem Dd (A B C:bd):bt (bt A B) C=bt A (bt B C):=by
 rw [GX,iS,GX C B]
theorem qj (A:bd):bt LR A=A:=by
 funext h
 refine propext ⟨fun⟨a,b,h1,h2,j⟩=>?_,fun H=>⟨fun _=>none,h,fun _=>rfl,H,fun x=>.inl ⟨rfl,rfl⟩⟩⟩
 have:h=b:=by
  funext x
  rcases j x with ⟨_,e⟩ | ⟨g,e⟩
  ·exact e
  ·rw [e,h1 x,g]
 rw [this];exact h2
structure bo where
 w:World
 keep:Nat→Option Obj
 min:Nat
abbrev bo.of (w:World):bo:=⟨w,fun _=>none,0⟩
def bo.with (w0:bo)(k:Nat→Option Obj)(m:Nat):bo:=⟨w0.w,fun b=>match w0.keep b with | some o=>some o | none=>k b,max w0.min m⟩
structure Hd (w0:bo)(h:Hl)(w:World):Prop where
 step:jd [] w0.w w
 cell:∀b cs,h b=some cs→w0.w.heap.size≤b∧mem w b=some cs∧opn w b=true
 kept:∀b o,w0.keep b=some o→w.heap[b]? = some o∧o.isCells=false
 min:w0.min≤w.heap.size
def St (w0:bo)(L:List bd)(w:World):Prop:=∃h,di L h∧Hd w0 h w
def G (w0:bo)(L:List bd)(F:World→Prop):Prop:=∀w,St w0 L w→F w
theorem Hd.sub {w0:bo}{h h':Hl}{w:World}(H:Hd w0 h w)(hs:∀b cs,h' b=some cs→h b=some cs):Hd w0 h' w:=⟨H.step,fun b cs hb=>H.cell b cs (hs b cs hb),H.kept,H.min⟩
theorem Jy.left {a b c:Hl}(j:Jy a b c):∀x cs,a x=some cs→c x=some cs:=fun x cs hx=>by
 rcases j x with ⟨g,_⟩ | ⟨_,e⟩
 ·rw [hx] at g;cases g
 ·rw [e,hx]
theorem Jy.right {a b c:Hl}(j:Jy a b c):∀x cs,b x=some cs→c x=some cs:=j.comm.left
theorem St.drop {w0:bo}{A:bd}{L:List bd}{w:World}(H:St w0 (A::L) w):St w0 L w:=by
 obtain⟨h,⟨a,b,_,hb,j⟩,hd⟩:=H
 exact⟨b,hb,hd.sub j.right⟩
theorem St.nil {w0:bo}{L:List bd}{w:World}(H:St w0 L w):St w0 [] w:=by
 obtain⟨h,_,hd⟩:=H
 exact⟨fun _=>none,fun _=>rfl,hd.sub (fun b cs hb=>by cases hb)⟩
class O6 (L' L:List bd):Prop where
 sub:∀h,di L h→∃h',di L' h'∧∀b cs,h' b=some cs→h b=some cs
class LX (L:List bd)(A:bd)(M:outParam (List bd)):Prop where
 eq:di L=di (A::M)
instance LX.hd {A:bd}{L:List bd}:LX (A::L) A L:=⟨rfl⟩
instance (priority:=500) LX.tl {A B:bd}{L M:List bd}[p:LX L A M]:LX (B::L) A (B::M):=⟨by
 show bt B (di L)=bt A (bt B (di M));rw [p.eq,iS];rfl⟩
instance (priority:=900) O6.refl {L:List bd}:O6 L L:=⟨fun h H=>⟨h,H,fun _ _ e=>e⟩⟩
instance O6.nil {L:List bd}:O6 [] L:=⟨fun h _=>⟨fun _=>none,fun _=>rfl,fun b cs e=>by cases e⟩⟩
instance (priority:=800) O6.pick {A:bd}{L' L M:List bd}[p:LX L A M][s:O6 L' M]:O6 (A::L') L:=⟨fun h H=>by
 rw [p.eq] at H
 obtain⟨a,b,ha,hb,j⟩:=H
 obtain⟨b',h1,h2⟩:=s.sub b hb
 refine⟨un a b',⟨a,b',ha,h1,fun x=>?_⟩,fun x cs hx=>?_⟩
 ·cases hx:a x with
  | none=>exact .inl ⟨rfl,by simp [un,hx]⟩
  | some v =>
   refine .inr ⟨?_,by simp [un,hx]⟩
   rcases j x with ⟨g,_⟩ | ⟨g,_⟩
   ·rw [hx] at g;cases g
   ·cases hb2:b' x with
    | none=>rfl
    | some cs=>rw [h2 x cs hb2] at g;cases g
 ·cases hx2:a x with
  | none=>simp only [un,hx2] at hx;exact j.right x cs (h2 x cs hx)
  | some v=>simp only [un,hx2] at hx;cases hx;exact j.left x _ hx2⟩
instance (priority:=400) O6.skip {A:bd}{L' L:List bd}[s:O6 L' L]:O6 L' (A::L):=⟨fun h ⟨a,b,ha,hb,j⟩=>by
 obtain⟨h',h1,h2⟩:=s.sub b hb
 exact⟨h',h1,fun x cs e=>j.right x cs (h2 x cs e)⟩⟩
theorem St.sub {w0:bo}{L L':List bd}{w:World}[s:O6 L' L](H:St w0 L w):St w0 L' w:=by
 obtain⟨h,h1,h2⟩:=H
 obtain⟨h',g1,g2⟩:=s.sub h h1
 exact⟨h',g1,h2.sub g2⟩
section
variable {w0:bo}{L:List bd}{F:World→Prop}
theorem G.sub {L':List bd} [O6 L' L](h:G w0 L' F):G w0 L F:=fun w H=>h w H.sub
theorem G.drop {A:bd}(h:G w0 L F):G w0 (A::L) F:=fun w H=>h w H.drop
theorem dq {L':List bd}(e:di L=di L'):G w0 L F=G w0 L' F:=by unfold G St;rw [e]
theorem ez {A B:bd}:G w0 (bt A B::L) F=G w0 (A::B::L) F:=dq (Dd _ _ _)
theorem J5:G w0 (LR::L) F=G w0 L F:=dq (qj _)
theorem fC {A B:bd}:G w0 (A::B::L) F=G w0 (B::A::L) F:=dq (iS _ _ _)
theorem E1 {A B C:bd}:G w0 (A::B::C::L) F=G w0 (C::A::B::L) F:=dq (by show bt A (bt B (bt C (di L)))=bt C (bt A (bt B (di L)));rw [iS B C,iS A C])
theorem P7 {A B C D:bd}:G w0 (A::B::C::D::L) F=G w0 (D::A::B::C::L) F:=dq (by show bt A (bt B (bt C (bt D (di L))))=bt D (bt A (bt B (bt C (di L))));rw [iS C D,iS B D,iS A D])
theorem qm {α:Type}{f:α→bd}:G w0 (od f::L) F=∀x,G w0 (f x::L) F:=by
 apply propext
 constructor
 ·intro H x w ⟨h,⟨a,b,ha,hb,j⟩,hd⟩
  exact H w ⟨h,⟨a,b,⟨x,ha⟩,hb,j⟩,hd⟩
 ·intro H w ⟨h,⟨a,b,⟨x,ha⟩,hb,j⟩,hd⟩
  exact H x w ⟨h,⟨a,b,ha,hb,j⟩,hd⟩
theorem fI {p:Prop}:G w0 (gX p::L) F=(p→G w0 L F):=by
 apply propext
 constructor
 ·intro H hp w ⟨h,hs,hd⟩
  refine H w ⟨h,?_,hd⟩
  have:bt LR (di L) h:=by rw [qj];exact hs
  obtain⟨a,b,h1,h2,j⟩:=this
  exact⟨a,b,⟨hp,h1⟩,h2,j⟩
 ·intro H w ⟨h,⟨a,b,⟨hp,ha⟩,hb,j⟩,hd⟩
  exact H hp w ⟨b,hb,hd.sub j.right⟩
class au {κ σ:Type}(L:List bd)(R:κ→σ→bd)(k:κ)(s:outParam σ)(C:outParam (bd→List bd)):Prop where
 here:L=C (ob R k s)
 front:∃M,∀A,di (C A)=di (A::M)
instance au.hd {κ σ:Type}{R:κ→σ→bd}{k:κ}{s:σ}{L:List bd}:au (ob R k s::L) R k s (fun a=>a::L):=⟨rfl,L,fun _=>rfl⟩
instance (priority:=500) au.tl {κ σ:Type}{R:κ→σ→bd}{k:κ}{s:σ}{L:List bd}{C:bd→List bd}{X:bd}[i:au L R k s C]:au (X::L) R k s (fun a=>X::C a) :=
 ⟨congrArg (X::·) i.here,by
  obtain⟨M,hM⟩:=i.front
  exact⟨X::M,fun A=>by show bt X (di (C A))=bt A (bt X (di M));rw [hM A,iS];rfl⟩⟩
theorem au.fronts {κ σ:Type}{R:κ→σ→bd}{k:κ}{s:σ}{C:bd→List bd}(i:au L R k s C) :
  ∃M,di L=di (ob R k s::M)∧(∀A,di (C A)=di (A::M))∧(∀B A,di (B::C A)=di (B::A::M))∧(∀D B A,di (D::B::C A)=di (D::B::A::M)):=by
 obtain⟨M,hM⟩:=i.front
 refine⟨M,by rw [i.here,hM],hM,fun B A=>?_,fun D B A=>?_⟩
 ·show bt B (di (C A))=bt B (di (A::M));rw [hM]
 ·show bt D (bt B (di (C A)))=bt D (bt B (di (A::M)));rw [hM]
theorem au.use {κ σ:Type}{R:κ→σ→bd}{k:κ}{s:σ}{C:bd→List bd}[i:au L R k s C]{A':bd}{F':World→Prop}(h:∀M,G w0 (A'::M) F'→G w0 (ob R k s::M) F)(h':G w0 (C A') F'):G w0 L F:=by
 obtain⟨M,e1,e2,_⟩:=i.fronts
 rw [dq e1];exact h M (by rw [←dq (e2 A')];exact h')
theorem au.useM {κ σ:Type}{R:κ→σ→bd}{k:κ}{s:σ}{C:bd→List bd}[i:au L R k s C]{A':bd}{F':World→Prop}(h:∀M,(∀A,di (C A)=di (A::M))→G w0 (A'::M) F'→G w0 (ob R k s::M) F)(h':G w0 (C A') F'):G w0 L F:=by
 obtain⟨M,e1,e2,_⟩:=i.fronts
 rw [dq e1];exact h M e2 (by rw [←dq (e2 A')];exact h')
theorem au.useNM {κ σ ι:Type}{R:κ→σ→bd}{k:κ}{s:σ}{C:bd→List bd}[i:au L R k s C]{P:ι→Prop}{N A':ι→bd}{F':ι→World→Prop}(h:∀M,(∀A,di (C A)=di (A::M))→(∀y,P y→G w0 (N y::A' y::M) (F' y))→G w0 (ob R k s::M) F)
  (h':∀y,P y→G w0 (N y::C (A' y)) (F' y)):G w0 L F:=by
 obtain⟨M,e1,e3,e2,_⟩:=i.fronts
 rw [dq e1];exact h M e3 (fun y hy=>by rw [←dq (e2 (N y) (A' y))];exact h' y hy)
theorem au.ro {κ σ:Type}{R:κ→σ→bd}{k:κ}{s:σ}{C:bd→List bd}[i:au L R k s C]{F':World→Prop}(h:∀M,G w0 (ob R k s::M) F'→G w0 (ob R k s::M) F)(h':G w0 L F'):G w0 L F :=
 au.use (k:=k) (s:=s) (R:=R) (C:=C) (A':=ob R k s) h (by rw [←i.here];exact h')
theorem au.roN {κ σ ι:Type}{R:κ→σ→bd}{k:κ}{s:σ}{C:bd→List bd}[i:au L R k s C]{P:ι→Prop}{N:ι→bd}{F':ι→World→Prop}(h:∀M,(∀y,P y→G w0 (N y::ob R k s::M) (F' y))→G w0 (ob R k s::M) F)
  (h':∀y,P y→G w0 (N y::L) (F' y)):G w0 L F:=by
 obtain⟨M,e1,_,e2,_⟩:=i.fronts
 rw [dq e1]
 refine h M fun y hy=>?_
 rw [←dq (e2 (N y) _),←i.here];exact h' y hy
theorem au.useA {κ σ ι:Type}{R:κ→σ→bd}{k:κ}{s:σ}{C:bd→List bd}[i:au L R k s C]{A':ι→bd}{F':ι→World→Prop}(h:∀M,(∀y,G w0 (A' y::M) (F' y))→G w0 (ob R k s::M) F)
  (h':∀y,G w0 (C (A' y)) (F' y)):G w0 L F:=by
 obtain⟨M,e1,e2,_⟩:=i.fronts
 rw [dq e1];exact h M (fun y=>by rw [←dq (e2 (A' y))];exact h' y)
theorem G.front {κ σ:Type}{R:κ→σ→bd}{k:κ}{s:σ}{C:bd→List bd}[i:au L R k s C](h:∀M,(∀A,di (C A)=di (A::M))→G w0 (ob R k s::M) F):G w0 L F:=by
 obtain⟨M,e1,e2,_⟩:=i.fronts
 rw [dq e1];exact h M e2
class BR {κ σ:Type}(L:List bd)(R:κ→σ→bd)(k:κ)(s:outParam σ)(M:outParam (List bd)):Prop where
 eq:di L=di (ob R k s::M)
instance BR.hd {κ σ:Type}{R:κ→σ→bd}{k:κ}{s:σ}{L:List bd}:BR (ob R k s::L) R k s L:=⟨rfl⟩
instance (priority:=500) BR.tl {κ σ:Type}{R:κ→σ→bd}{k:κ}{s:σ}{L M:List bd}{X:bd}[t:BR L R k s M]:BR (X::L) R k s (X::M):=⟨by
 show bt X (di L)=bt (ob R k s) (bt X (di M));rw [t.eq,iS];rfl⟩
theorem G.take1 {κ σ:Type}(R:κ→σ→bd)(k:κ){s:σ}{M:List bd}[t:BR L R k s M](h:G w0 (ob R k s::M) F):G w0 L F:=by rw [dq t.eq];exact h
theorem St.own_mem {b:Nat}{cs:List Value}{w:World}(H:St w0 (own b cs::L) w):w0.w.heap.size≤b∧mem w b=some cs∧opn w b=true:=by
 obtain⟨h,⟨a,c,ha,hc,j⟩,hd⟩:=H
 rw [show own b cs=oU b cs from em _ _ _] at ha
 exact hd.cell b cs (j.left b cs (by rw [ha b,if_pos rfl]))
theorem St.own_put {b:Nat}{cs cs':List Value}{w:World}(H:St w0 (own b cs::L) w):St w0 (own b cs'::L) (put w b cs'):=by
 have hm:=H.own_mem
 obtain⟨h,⟨a,c,ha,hc,j⟩,hd⟩:=H
 rw [show own b cs=oU b cs from em _ _ _] at ha
 have hcb:c b=none:=by
  rcases j b with ⟨g,_⟩ | ⟨g,_⟩
  ·rw [ha b,if_pos rfl] at g;cases g
  ·exact g
 refine⟨fun x=>if x=b then some cs' else h x,⟨fun x=>if x=b then some cs' else none,c,?_,hc,fun x=>?_⟩,⟨hd.step.trans (jd.put w b cs') (by simp) (by simp [hm.1]),fun x ds hx=>?_,fun k o hk=>⟨by
  have hk2:=hd.kept k o hk
  simp only [S.put,Array.getElem?_modify]
  split
  ·rw [hk2.1];cases o <;> first | rfl | (have:=hk2.2;simp [Obj.isCells] at this)
  ·exact hk2.1,(hd.kept k o hk).2⟩,by simpa using hd.min⟩⟩
 ·rw [show own b cs'=oU b cs' from em _ _ _];exact fun _=>rfl
 ·by_cases hx:x=b
  ·subst hx;exact .inr ⟨hcb,by simp⟩
  ·refine .inl ⟨by simp [hx],?_⟩
   simp only [if_neg hx]
   rcases j x with ⟨_,e⟩ | ⟨g,e⟩
   ·exact e
   ·rw [e,g,ha x,if_neg hx]
 ·by_cases hxb:x=b
  ·subst hxb
   simp only [if_true] at hx
   cases hx
   exact⟨hm.1,by rw [Ho,if_pos rfl,hm.2.1];rfl,by rw [IL];exact hm.2.2⟩
  ·simp only [if_neg hxb] at hx
   have:=hd.cell x ds hx
   exact⟨this.1,by rw [Ho,if_neg hxb];exact this.2.1,by rw [IL];exact this.2.2⟩
theorem St.alloc {w:World}(H:St w0 L w)(cs:List Value)(T:TypeId):St w0 (own w.heap.size cs::L) (w.alloc (.cells cs.toArray T)):=by
 obtain⟨h,hs,hd⟩:=H
 have hn:h w.heap.size=none:=by
  cases e:h w.heap.size with
  | none=>rfl
  | some cs=>have:=sM (hd.cell _ _ e).2.1;omega
 have hz:=hd.step.size
 refine⟨fun x=>if x=w.heap.size then some cs else h x,⟨fun x=>if x=w.heap.size then some cs else none,h,?_,hs,fun x=>?_⟩,⟨hd.step.trans (jd.alloc w _ T []) (by simp) (by simp),fun x ds hx=>?_,fun k o hk=>⟨by
  have hk2:=(hd.kept k o hk).1
  have hlt:=(Array.getElem?_eq_some_iff.1 hk2).1
  show (w.heap.push _)[k]? = _
  rw [Array.getElem?_push,if_neg (by omega)];exact hk2,(hd.kept k o hk).2⟩,by have:=hd.min;simp;omega⟩⟩
 ·rw [show own w.heap.size cs=oU w.heap.size cs from em _ _ _];exact fun _=>rfl
 ·by_cases hx:x=w.heap.size
  ·subst hx;exact .inr ⟨hn,by simp⟩
  ·exact .inl ⟨by simp [hx],by simp [hx]⟩
 ·by_cases hxb:x=w.heap.size
  ·subst hxb
   simp only [if_true] at hx
   cases hx
   exact⟨hz,by rw [GD,if_pos rfl],by rw [Gx,if_pos rfl]⟩
  ·simp only [if_neg hxb] at hx
   have:=hd.cell x ds hx
   exact⟨this.1,by rw [GD,if_neg hxb];exact this.2.1,by rw [Gx,if_neg hxb];exact this.2.2⟩
theorem St.drew {w:World}(H:St w0 L w):St w0 L w.drew:=by
 obtain⟨h,hs,hd⟩:=H
 exact⟨h,hs,hd.step.trans (jd.drew w []) (by simp) (by simp),fun b cs hb=>hd.cell b cs hb,hd.kept,hd.min⟩
theorem St.step {w:World}(H:St w0 L w):jd [] w0.w w:=H.elim fun _ h=>h.2.step
end
abbrev ptr (b:Nat)(i:Nat):Value:=.pointer (some ⟨b,i,none⟩)
abbrev i64 (n:Int):Value:=.int .i64 n
abbrev u64 (n:Int):Value:=.int .u64 n
class IY {α:Type}(cs:List α)(j:Nat)(v:outParam α):Prop where
 eq:cs[j]? = some v
instance IY.z {α:Type}{a:α}{l:List α}:IY (a::l) 0 a:=⟨rfl⟩
instance IY.s {α:Type}{a b:α}{l:List α}{n:Nat}[h:IY l n a]:IY (b::l) (n+1) a:=⟨by simpa using h.eq⟩
class bf (v:Value)(cs:outParam (List Value)):Prop where
 eq:v.cells.toList=cs
 ones:∀u∈cs,one u=true
instance {k:IntKind}{n:Int}:bf (.int k n) [.int k n]:=⟨rfl,by simp [one]⟩
instance {b:Bool}:bf (.bool b) [.bool b]:=⟨rfl,by simp [one]⟩
instance {a:Option Addr}:bf (.pointer a) [.pointer a]:=⟨rfl,by simp [one]⟩
instance {t:TypeId}{v:Value}:bf (.iface t v) [.iface t v]:=⟨rfl,by simp [one]⟩
instance:bf .nilIface [.nilIface]:=⟨rfl,by simp [one]⟩
instance {s:ByteArray}:bf (.string s) [.string s]:=⟨rfl,by simp [one]⟩
instance {a:Option Addr}{n c:Nat}:bf (.slice a n c) [.slice a n c]:=⟨rfl,by simp [one]⟩
instance {f:Go.Fn}{a b:Array Value}:bf (.func f a b) [.func f a b]:=⟨rfl,by simp [one]⟩
instance:bf .nilFunc [.nilFunc]:=⟨rfl,by simp [one]⟩
class xo (cs:List Value):Prop where
 ones:∀u∈cs,one u=true
instance:xo []:=⟨by simp⟩
instance {k:IntKind}{n:Int}{l:List Value}[h:xo l]:xo (.int k n::l):=⟨by simpa [one] using h.ones⟩
instance {b:Bool}{l:List Value}[h:xo l]:xo (.bool b::l):=⟨by simpa [one] using h.ones⟩
instance {a:Option Addr}{l:List Value}[h:xo l]:xo (.pointer a::l):=⟨by simpa [one] using h.ones⟩
instance {a:Option Addr}{n c:Nat}{l:List Value}[h:xo l]:xo (.slice a n c::l):=⟨by simpa [one] using h.ones⟩
instance {f:Go.Fn}{a b:Array Value}{l:List Value}[h:xo l]:xo (.func f a b::l):=⟨by simpa [one] using h.ones⟩
instance {l:List Value}[h:xo l]:xo (.nilFunc::l):=⟨by simpa [one] using h.ones⟩
instance (priority:=500){v:Value}{l:List Value}[h:xo l][hv:bf v [v]]:xo (v::l):=⟨by simpa using ⟨hv.ones v (by simp),h.ones⟩⟩
instance {cs:List Value}[h:xo cs]:bf (.agg cs.toArray) cs:=⟨rfl,h.ones⟩
class rl (cs:List Value)(j:Nat)(vs:List Value)(r:outParam (List Value)):Prop where
 eq:BE cs j vs=r
 le:j+vs.length≤cs.length
instance rl.nil {cs:List Value}:rl cs 0 [] cs:=⟨rfl,by simp⟩
instance rl.z {c v:Value}{cs vs r:List Value}[h:rl cs 0 vs r]:rl (c::cs) 0 (v::vs) (v::r):=⟨by
 have h1:=h.eq
 have h2:=h.le
 rw [pY _ _ _ (by simpa using h2)] at h1
 rw [pY _ _ _ (by simpa using h2)]
 simpa using h1,by simpa using h.le⟩
instance rl.s {c:Value}{cs vs r:List Value}{j:Nat}[h:rl cs j vs r]:rl (c::cs) (j+1) vs (c::r):=⟨by
 have h1:=h.eq
 have h2:=h.le
 rw [pY _ _ _ h2] at h1
 rw [pY _ _ _ (by simp only [List.length_cons];omega)]
 rw [show j+1+vs.length=(j+vs.length)+1 by omega]
 simpa using h1,by have:=h.le;simp only [List.length_cons];omega⟩
class CC (vs:List Value)(n:Nat):Prop where
 eq:vs.length=n
instance:CC [] 0:=⟨rfl⟩
instance {v:Value}{vs:List Value}{n:Nat}[h:CC vs n]:CC (v::vs) (n+1):=⟨by simp [h.eq]⟩
class ke (cs:List Value)(j n:Nat)(r:outParam (List Value)):Prop where
 eq:(cs.drop j).take n=r
 le:j+n≤cs.length
instance ke.nil {cs:List Value}:ke cs 0 0 []:=⟨by simp,by simp⟩
instance ke.z {c:Value}{cs r:List Value}{n:Nat}[h:ke cs 0 n r]:ke (c::cs) 0 (n+1) (c::r):=⟨by have:=h.eq;simpa using this,by have:=h.le;simp only [List.length_cons];omega⟩
instance ke.s {c:Value}{cs r:List Value}{j n:Nat}[h:ke cs j n r]:ke (c::cs) (j+1) n r:=⟨by have:=h.eq;simpa using this,by have:=h.le;simp only [List.length_cons];omega⟩
section
variable {w0:bo}{L:List bd}{K:KV}{b j n:Nat}{cs:List Value}{C:bd→List bd}
theorem BD [i:au L oU b cs C]:∃M,(∀w,St w0 L w↔St w0 (own b cs::M) w)∧(∀A w,St w0 (C A) w↔St w0 (A::M) w):=by
 obtain⟨M,e1,e2,_⟩:=i.fronts
 exact⟨M,fun w=>by unfold St;rw [e1],fun A w=>by unfold St;rw [e2]⟩
theorem TX [i:au L oU b cs C]{v:Value}[hv:IY cs j v]:G w0 L (aa (ptr b j) K)=G w0 L (K v):=by
 obtain⟨M,e1,_⟩:=BD (w0:=w0) (i:=i)
 have:∀w,St w0 L w→(aa (ptr b j) K w↔K v w):=fun w H=>by
  have:=((e1 w).1 H).own_mem
  simp [aa,this.2.1,hv.eq,du]
 exact propext ⟨fun h w H=>(this w H).1 (h w H),fun h w H=>(this w H).2 (h w H)⟩
theorem Sc [i:au L oU b cs C]{r:List Value}[hv:ke cs j n r]:G w0 L (ak n (ptr b j) K)=G w0 L (K (.agg r.toArray)):=by
 obtain⟨M,e1,_⟩:=BD (w0:=w0) (i:=i)
 have:∀w,St w0 L w→(ak n (ptr b j) K w↔K (.agg r.toArray) w):=fun w H=>by
  have:=((e1 w).1 H).own_mem
  have hle:=hv.le
  simp [ak,this.2.1,hv.eq,hle]
 exact propext ⟨fun h w H=>(this w H).1 (h w H),fun h w H=>(this w H).2 (h w H)⟩
theorem QI [i:au L oU b cs C]{v:Value}{vs:List Value}[hv:bf v vs](hn:vs.length=n)(hle:j+n≤cs.length):G w0 L (ah n (ptr b j) v K)=G w0 (C (own b (BE cs j vs))) (K undef):=by
 obtain⟨M,e1,e2⟩:=BD (w0:=w0) (i:=i)
 have hsz:v.cells.size=n:=by rw [←hn,←hv.eq];simp
 have one:∀w,St w0 L w→(ah n (ptr b j) v K w↔K undef (put w b (BE cs j vs))):=fun w H=>by
  have hm:=((e1 w).1 H).own_mem
  simp only [ah,hm.2.1,hm.2.2,hsz,hv.eq,true_and]
  exact⟨fun h=>h.2.2,fun h=>⟨hv.ones,hle,h⟩⟩
 apply propext
 constructor
 ·intro h w H
  have H1:=(e2 _ w).1 H
  have H2:=(e1 _).2 (H1.own_put (cs':=cs))
  have h3:=(one _ H2).1 (h _ H2)
  rw [H7,Az H1.own_mem.2.1] at h3
  exact h3
 ·intro h w H
  exact(one w H).2 (h _ ((e2 _ _).2 ((e1 w).1 H).own_put))
theorem RH [i:au L oU b cs C]{v:Value}{vs r:List Value}[hv:bf v vs][hr:rl cs j vs r][hl:CC vs n]:G w0 L (ah n (ptr b j) v K)=G w0 (C (own b r)) (K undef):=by
 have hn:=hl.eq
 rw [QI hn (by rw [←hn];exact hr.le),hr.eq]
theorem G.new (h:∀b,G w0 (own b cs::L) (K (ptr b 0))):G w0 L (ee cs.toArray K):=fun w H T=>h _ _ (H.alloc cs T)
theorem G.box {v:Value}[hv:bf v cs](h:∀b,G w0 (own b cs::L) (K (ptr b 0))):G w0 L (dB v K):=by
 intro w H T
 have:v.cells=cs.toArray:=by rw [←hv.eq]
 rw [this]
 exact h _ _ (H.alloc cs T)
theorem G.drew {F:World→Prop}(h:G w0 L F):G w0 L (bh F):=fun w H=>h _ H.drew
theorem US {A B:World→Prop}:G w0 L (andP A B)=(G w0 L A∧G w0 L B):=propext ⟨fun h=>⟨fun w H=>(h w H).1,fun w H=>(h w H).2⟩,fun h w H=>⟨h.1 w H,h.2 w H⟩⟩
theorem T3:G w0 L ad=True:=eq_true fun _ _=>trivial
theorem Um {v:Value}:G w0 L (dO v v)=True:=eq_true fun _ _=>rfl
theorem G.andP {A B:World→Prop}(h1:G w0 L A)(h2:G w0 L B):G w0 L (andP A B):=fun w H=>⟨h1 w H,h2 w H⟩
theorem Gf {B:World→Prop}:S.andP ad B=B:=by funext w;simp [S.andP,ad]
theorem G.cond {t:Bool}{A B:World→Prop}(h1:t=true→G w0 L A)(h2:t=false→G w0 L B):G w0 L (ai (.bool t) A B):=fun w H=>⟨fun e=>h1 e w H,fun e=>h2 e w H⟩
theorem Hb {A B:World→Prop}:ai (.bool true) A B=A:=by funext w;simp [ai,MJ]
theorem HV {A B:World→Prop}:ai (.bool false) A B=B:=by funext w;simp [ai,MJ]
theorem uP {A:KV→World→Prop}{e:Value}{t:Bool}:dz (.bool t) t A e K=A K:=by funext w;simp [dz]
theorem wR {A:KV→World→Prop}{e:Value}:dz (.bool true) false A e K=K e:=by funext w;simp [dz]
theorem xf {A:KV→World→Prop}{e:Value}:dz (.bool false) true A e K=K e:=by funext w;simp [dz]
theorem Q9 {A:KV→World→Prop}{t:Bool}:gW (.bool t) t A K=A K:=by funext w;simp [gW,OP]
theorem Mu {A:KV→World→Prop}:gW (.bool true) false A K=K undef:=by funext w;simp [gW,OP]
theorem Mx {A:KV→World→Prop}:gW (.bool false) true A K=K undef:=by funext w;simp [gW,OP]
theorem UC {A:KV→World→Prop}{t:Bool}:gW undef t A K=K undef:=by funext w;simp [gW,OP,undef]
theorem Pm {v x:Value}:bp v x (.bool false) K=dz v true (fun K=>K x) (.bool false) K:=by
 funext w;cases v <;> simp [bp,dz];rename_i t;cases t <;> simp
theorem Rm {v x:Value}:bp v (.bool true) x K=dz v false (fun K=>K x) (.bool true) K:=by
 funext w;cases v <;> simp [bp,dz];rename_i t;cases t <;> simp
theorem Og {v e:Value}{t:Bool}{A:KV→World→Prop}{B:Value→KV→World→Prop}:gW v t A (fun y=>dz v t (B y) e K)=dz v t (fun K=>A (fun y=>B y K)) e K:=by
 cases v
 case bool s=>cases s <;> cases t <;> simp only [Q9,Mu,Mx,uP,wR,xf]
 all_goals (funext w;simp [gW,OP,dz])
theorem NU {v:Value}{t:Bool}{A:KV→World→Prop}{B:Value→KV→World→Prop}{R:Value→World→Prop}:gW v t A (fun y=>gW v t (B y) R)=gW v t (fun K=>A (fun y=>B y K)) R:=by
 cases v
 case bool s=>cases s <;> cases t <;> simp only [Q9,Mu,Mx]
 all_goals (funext w;simp [gW,OP])
theorem RS {v e:Value}{t s:Bool}{A:KV→World→Prop}{B:Value→KV→World→Prop}{D:Value→Value→KV→World→Prop} :
  gW v t A (fun b=>gW b s (B b) (fun c=>dz v t (D b c) e K))=dz v t (fun K=>A (fun b=>gW b s (B b) (fun c=>D b c K))) e K:=by
 cases v
 case bool u=>cases u <;> cases t <;> simp only [Q9,Mu,Mx,UC,uP,wR,xf]
 all_goals (funext w;simp [gW,OP,dz,undef])
theorem Lq {p q:Bool}:dz (.bool p) true (fun K=>K (.bool q)) (.bool false) K=K (.bool (p && q)):=by funext w;cases p <;> simp [dz]
theorem Oi {p q:Bool}:dz (.bool p) false (fun K=>K (.bool q)) (.bool true) K=K (.bool (p || q)):=by funext w;cases p <;> simp [dz]
theorem G.all {p:Bool}(q:Bool){A:KV→World→Prop}(hA:p=true→∀K,G w0 L (K (.bool q))→G w0 L (A K))(h:G w0 L (K (.bool (p && q)))):G w0 L (dz (.bool p) true A (.bool false) K):=by
 cases p
 ·rw [xf];simpa using h
 ·rw [uP];exact hA rfl K (by simpa using h)
theorem G.any {p:Bool}(q:Bool){A:KV→World→Prop}(hA:p=false→∀K,G w0 L (K (.bool q))→G w0 L (A K))(h:G w0 L (K (.bool (p || q)))):G w0 L (dz (.bool p) false A (.bool true) K):=by
 cases p
 ·rw [uP];exact hA rfl K (by simpa using h)
 ·rw [wR];simpa using h
end
theorem least {P:Nat→Prop}(h:∃n,P n):∃n,P n∧∀m,m<n→¬P m:=by
 obtain⟨n,hn⟩:=h
 induction n using Nat.strongRecOn with
 | _ n ih =>
  by_cases hx:∃m,m<n∧P m
  ·obtain⟨m,h1,h2⟩:=hx
   exact ih m h1 h2
  ·exact⟨n,hn,fun m hm hp=>hx ⟨m,hm,hp⟩⟩
theorem wW {σ:Type}(R:σ→List Value→World→Prop)(μ:σ→Nat):∃m:List Value→World→Nat,∀vs w1,(∃s,R s vs w1)→∃s,R s vs w1∧∀vs' w' s',R s' vs' w'→μ s'<μ s→m vs' w'<m vs w1:=by
 classical
 refine⟨fun vs w=>if h:∃n s,R s vs w∧μ s=n then (least h).choose else 0,fun vs w1 hs=>?_⟩
 have h:∃n s,R s vs w1∧μ s=n:=hs.elim fun s h=>⟨_,s,h,rfl⟩
 obtain⟨⟨s,h1,h2⟩,_⟩:=(least h).choose_spec
 refine⟨s,h1,fun vs' w' s' h3 h4=>?_⟩
 have h':∃n s,R s vs' w'∧μ s=n:=⟨_,s',h3,rfl⟩
 simp only [dif_pos h,dif_pos h']
 have:=(least h').choose_spec.2
 rcases Nat.lt_or_ge (μ s') (least h').choose with hl | hl
 ·exact absurd ⟨s',h3,rfl⟩ (this _ hl)
 ·omega
section
variable {w0:bo}{L:List bd}
theorem G.loop0 {σ:Type}  (Ls:σ→List bd)(P:σ→Prop)(μ:σ→Nat)(s0:σ){body:(World→Prop)→World→Prop}  (hL:G w0 (Ls s0)=G w0 L)(hP:P s0)
  (hr:∀s,P s→∀J:World→Prop,(∀s',P s'→μ s'<μ s→G w0 (Ls s') (J ))→G w0 (Ls s) (body J )):G w0 L (HI  body):=by
 rw [←hL]
 intro w H
 obtain⟨m,hm⟩:=wW (fun s vs w=>P s∧vs=[]∧St w0 (Ls s) w) μ
 refine⟨fun vs w=>∃s,P s∧vs=[]∧St w0 (Ls s) w,m,⟨s0,hP,rfl,H⟩,?_⟩
 intro  w1 hI
 obtain⟨s,⟨h1,h2,h3⟩,hlt⟩:=hm _ _ hI
 clear h2
 exact hr s h1 _ (fun s' hp' hlt' w' H'=>⟨⟨s',hp',rfl,H'⟩,hlt _ _ s' ⟨hp',rfl,H'⟩ hlt'⟩) w1 h3
theorem G.loop1 {σ:Type}(v0:σ→Value)(Ls:σ→List bd)(P:σ→Prop)(μ:σ→Nat)(s0:σ){a0:Value}{body:(Value→World→Prop)→Value→World→Prop}(h0:a0=v0 s0)(hL:G w0 (Ls s0)=G w0 L)(hP:P s0)
  (hr:∀s,P s→∀J:Value→World→Prop,(∀s',P s'→μ s'<μ s→G w0 (Ls s') (J (v0 s')))→G w0 (Ls s) (body J (v0 s))):G w0 L (ev a0 body):=by
 subst h0
 rw [←hL]
 intro w H
 obtain⟨m,hm⟩:=wW (fun s vs w=>P s∧vs=[v0 s]∧St w0 (Ls s) w) μ
 refine⟨fun vs w=>∃s,P s∧vs=[v0 s]∧St w0 (Ls s) w,m,⟨s0,hP,rfl,H⟩,?_⟩
 intro x0 w1 hI
 obtain⟨s,⟨h1,h2,h3⟩,hlt⟩:=hm _ _ hI
 simp only [List.cons.injEq,and_true] at h2
 subst h2
 exact hr s h1 _ (fun s' hp' hlt' w' H'=>⟨⟨s',hp',rfl,H'⟩,hlt _ _ s' ⟨hp',rfl,H'⟩ hlt'⟩) w1 h3
theorem G.loopc1 {σ:Type}(v0:σ→Value)(P:σ→Prop)(μ:σ→Nat)(s0:σ){a0:Value}{body:(Value→World→Prop)→Value→World→Prop}(h0:a0=v0 s0)(hP:P s0)
  (hr:∀s,P s→∀J:Value→World→Prop,(∀s',P s'→μ s'<μ s→G w0 L (J (v0 s')))→G w0 L (body J (v0 s))):G w0 L (ev a0 body) :=
 G.loop1 v0 (fun _=>L) P μ s0 h0 rfl hP hr
theorem G.loop2 {σ:Type}(v0:σ→Value)(v1:σ→Value)(Ls:σ→List bd)(P:σ→Prop)(μ:σ→Nat)(s0:σ){a0 a1:Value}{body:(Value→Value→World→Prop)→Value→Value→World→Prop}(h0:a0=v0 s0)(h1:a1=v1 s0)(hL:G w0 (Ls s0)=G w0 L)(hP:P s0)
  (hr:∀s,P s→∀J:Value→Value→World→Prop,(∀s',P s'→μ s'<μ s→G w0 (Ls s') (J (v0 s') (v1 s')))→G w0 (Ls s) (body J (v0 s) (v1 s))):G w0 L (iK a0 a1 body):=by
 subst h0 h1
 rw [←hL]
 intro w H
 obtain⟨m,hm⟩:=wW (fun s vs w=>P s∧vs=[v0 s,v1 s]∧St w0 (Ls s) w) μ
 refine⟨fun vs w=>∃s,P s∧vs=[v0 s,v1 s]∧St w0 (Ls s) w,m,⟨s0,hP,rfl,H⟩,?_⟩
 intro x0 x1 w1 hI
 obtain⟨s,⟨h1,h2,h3⟩,hlt⟩:=hm _ _ hI
 simp only [List.cons.injEq,and_true] at h2
 obtain⟨rfl,rfl⟩:=h2
 exact hr s h1 _ (fun s' hp' hlt' w' H'=>⟨⟨s',hp',rfl,H'⟩,hlt _ _ s' ⟨hp',rfl,H'⟩ hlt'⟩) w1 h3
theorem G.loop3 {σ:Type}(v0:σ→Value)(v1:σ→Value)(v2:σ→Value)(Ls:σ→List bd)(P:σ→Prop)(μ:σ→Nat)(s0:σ){a0 a1 a2:Value}{body:(Value→Value→Value→World→Prop)→Value→Value→Value→World→Prop}(h0:a0=v0 s0)(h1:a1=v1 s0)(h2:a2=v2 s0)(hL:G w0 (Ls s0)=G w0 L)(hP:P s0)
  (hr:∀s,P s→∀J:Value→Value→Value→World→Prop,(∀s',P s'→μ s'<μ s→G w0 (Ls s') (J (v0 s') (v1 s') (v2 s')))→G w0 (Ls s) (body J (v0 s) (v1 s) (v2 s))):G w0 L (QG a0 a1 a2 body):=by
 subst h0 h1 h2
 rw [←hL]
 intro w H
 obtain⟨m,hm⟩:=wW (fun s vs w=>P s∧vs=[v0 s,v1 s,v2 s]∧St w0 (Ls s) w) μ
 refine⟨fun vs w=>∃s,P s∧vs=[v0 s,v1 s,v2 s]∧St w0 (Ls s) w,m,⟨s0,hP,rfl,H⟩,?_⟩
 intro x0 x1 x2 w1 hI
 obtain⟨s,⟨h1,h2,h3⟩,hlt⟩:=hm _ _ hI
 simp only [List.cons.injEq,and_true] at h2
 obtain⟨rfl,rfl,rfl⟩:=h2
 exact hr s h1 _ (fun s' hp' hlt' w' H'=>⟨⟨s',hp',rfl,H'⟩,hlt _ _ s' ⟨hp',rfl,H'⟩ hlt'⟩) w1 h3
theorem G.joini0 {J:World→Prop}{B:(World→Prop)→World→Prop}(h:G w0 L (B J)):G w0 L (ba J B):=h
theorem G.join1 {σ:Type}(v0:σ→Value)(Ls:σ→List bd)(P:σ→Prop){J:Value→World→Prop}{B:(Value→World→Prop)→World→Prop}(hJ:∀s,P s→G w0 (Ls s) (J (v0 s)))
  (h:∀J:Value→World→Prop,(∀s,P s→G w0 (Ls s) (J (v0 s)))→G w0 L (B J)):G w0 L (eE J B):=h J hJ
theorem G.joini1 {J:Value→World→Prop}{B:(Value→World→Prop)→World→Prop}(h:G w0 L (B J)):G w0 L (eE J B):=h
theorem G.join2 {σ:Type}(v0:σ→Value)(v1:σ→Value)(Ls:σ→List bd)(P:σ→Prop){J:Value→Value→World→Prop}{B:(Value→Value→World→Prop)→World→Prop}(hJ:∀s,P s→G w0 (Ls s) (J (v0 s) (v1 s)))
  (h:∀J:Value→Value→World→Prop,(∀s,P s→G w0 (Ls s) (J (v0 s) (v1 s)))→G w0 L (B J)):G w0 L (DN J B):=h J hJ
theorem G.joini2 {J:Value→Value→World→Prop}{B:(Value→Value→World→Prop)→World→Prop}(h:G w0 L (B J)):G w0 L (DN J B):=h
end
end Go.Proofs.YtoealglbimbbmaaGreatDoor.S
