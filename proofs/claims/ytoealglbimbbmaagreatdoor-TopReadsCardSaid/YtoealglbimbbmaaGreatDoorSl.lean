import Derived.Test.YtoealglbimbbmaaGreatDoorG
namespace Go.Proofs.YtoealglbimbbmaaGreatDoor.S
open Go Go.Proofs
set_option linter.unusedVariables false
set_option linter.unusedSimpArgs false
structure jB (α:Type) where
 sz:Nat
 enc:α→List Value
 dec:List Value→Option α
 pos:0<sz
 len:∀a,(enc a).length=sz
 ones:∀a,∀u∈enc a,one u=true
 dec_ok:∀cs a,dec cs=some a→enc a=cs
class e9 {α:Type}(E:jB α)(a:α)(cs:outParam (List Value)):Prop where
 eq:E.enc a=cs
class fy {α:Type}(E:jB α)(cs:List Value)(a:outParam α):Prop where
 eq:E.dec cs=some a
class eA {α:Type}(xs:List α)(k:Nat)(x:outParam α):Prop where
 eq:xs[k]? = some x
instance eA.z {α:Type}{a:α}{l:List α}:eA (a::l) 0 a:=⟨rfl⟩
instance eA.s {α:Type}{a b:α}{l:List α}{n:Nat}[h:eA l n a]:eA (b::l) (n+1) a:=⟨by simpa using h.eq⟩
class iA (i:Int)(k:outParam Nat):Prop where
 eq:i=(k:Int)
instance {k:Nat}:iA (k:Int) k:=⟨rfl⟩
instance:iA 0 0:=⟨rfl⟩
instance:iA 1 1:=⟨rfl⟩
instance:iA 2 2:=⟨rfl⟩
instance:iA 3 3:=⟨rfl⟩
instance:iA 4 4:=⟨rfl⟩
instance:iA 5 5:=⟨rfl⟩
instance:iA 6 6:=⟨rfl⟩
instance:iA 7 7:=⟨rfl⟩
instance:iA 8 8:=⟨rfl⟩
instance:iA 9 9:=⟨rfl⟩
instance:iA 10 10:=⟨rfl⟩
instance:iA 11 11:=⟨rfl⟩
instance:iA 12 12:=⟨rfl⟩
instance:iA 13 13:=⟨rfl⟩
instance:iA 14 14:=⟨rfl⟩
instance:iA 15 15:=⟨rfl⟩
instance:iA 16 16:=⟨rfl⟩
instance:iA 17 17:=⟨rfl⟩
instance:iA 18 18:=⟨rfl⟩
instance:iA 19 19:=⟨rfl⟩
instance:iA 20 20:=⟨rfl⟩
instance:iA 21 21:=⟨rfl⟩
instance:iA 22 22:=⟨rfl⟩
instance:iA 23 23:=⟨rfl⟩
instance:iA 24 24:=⟨rfl⟩
instance:iA 25 25:=⟨rfl⟩
instance:iA 26 26:=⟨rfl⟩
instance:iA 27 27:=⟨rfl⟩
instance:iA 28 28:=⟨rfl⟩
instance:iA 29 29:=⟨rfl⟩
instance:iA 30 30:=⟨rfl⟩
instance:iA 31 31:=⟨rfl⟩
instance:iA 32 32:=⟨rfl⟩
instance:iA 33 33:=⟨rfl⟩
instance:iA 34 34:=⟨rfl⟩
instance:iA 35 35:=⟨rfl⟩
instance:iA 36 36:=⟨rfl⟩
instance:iA 37 37:=⟨rfl⟩
instance:iA 38 38:=⟨rfl⟩
instance:iA 39 39:=⟨rfl⟩
instance:iA 40 40:=⟨rfl⟩
instance:iA 41 41:=⟨rfl⟩
instance:iA 42 42:=⟨rfl⟩
instance:iA 43 43:=⟨rfl⟩
instance:iA 44 44:=⟨rfl⟩
instance:iA 45 45:=⟨rfl⟩
instance:iA 46 46:=⟨rfl⟩
instance:iA 47 47:=⟨rfl⟩
instance:iA 48 48:=⟨rfl⟩
instance:iA 49 49:=⟨rfl⟩
instance:iA 50 50:=⟨rfl⟩
instance:iA 51 51:=⟨rfl⟩
instance:iA 52 52:=⟨rfl⟩
instance:iA 53 53:=⟨rfl⟩
instance:iA 54 54:=⟨rfl⟩
instance:iA 55 55:=⟨rfl⟩
instance:iA 56 56:=⟨rfl⟩
instance:iA 57 57:=⟨rfl⟩
instance:iA 58 58:=⟨rfl⟩
instance:iA 59 59:=⟨rfl⟩
instance:iA 60 60:=⟨rfl⟩
instance:iA 61 61:=⟨rfl⟩
instance:iA 62 62:=⟨rfl⟩
instance:iA 63 63:=⟨rfl⟩
instance:iA 64 64:=⟨rfl⟩
class zK (i n:Nat)(m:outParam Nat):Prop where
 eq:i+n=m
instance (priority:=1200){n:Nat}:zK 0 n n:=⟨Nat.zero_add n⟩
instance (priority:=1100){i:Nat}:zK i 0 i:=⟨rfl⟩
instance {i n:Nat}:zK i n (i+n):=⟨rfl⟩
class gZ (b:Int):Prop where
 ne:b≠0
class bw (b:Int):Prop where
 le:0≤b
instance {k:Nat}:bw (k:Int):=⟨by omega⟩
instance:bw 0:=⟨by decide⟩
instance:bw 1:=⟨by decide⟩
instance:bw 2:=⟨by decide⟩
instance:bw 3:=⟨by decide⟩
instance:bw 4:=⟨by decide⟩
instance:bw 5:=⟨by decide⟩
instance:bw 6:=⟨by decide⟩
instance:bw 7:=⟨by decide⟩
instance:bw 8:=⟨by decide⟩
instance:bw 9:=⟨by decide⟩
instance:bw 10:=⟨by decide⟩
instance:bw 11:=⟨by decide⟩
instance:bw 12:=⟨by decide⟩
instance:bw 13:=⟨by decide⟩
instance:bw 14:=⟨by decide⟩
instance:bw 15:=⟨by decide⟩
instance:bw 16:=⟨by decide⟩
instance:bw 17:=⟨by decide⟩
instance:bw 18:=⟨by decide⟩
instance:bw 19:=⟨by decide⟩
instance:bw 20:=⟨by decide⟩
instance:bw 21:=⟨by decide⟩
instance:bw 22:=⟨by decide⟩
instance:bw 23:=⟨by decide⟩
instance:bw 24:=⟨by decide⟩
instance:bw 25:=⟨by decide⟩
instance:bw 26:=⟨by decide⟩
instance:bw 27:=⟨by decide⟩
instance:bw 28:=⟨by decide⟩
instance:bw 29:=⟨by decide⟩
instance:bw 30:=⟨by decide⟩
instance:bw 31:=⟨by decide⟩
instance:bw 32:=⟨by decide⟩
instance:bw 33:=⟨by decide⟩
instance:bw 34:=⟨by decide⟩
instance:bw 35:=⟨by decide⟩
instance:bw 36:=⟨by decide⟩
instance:bw 37:=⟨by decide⟩
instance:bw 38:=⟨by decide⟩
instance:bw 39:=⟨by decide⟩
instance:bw 40:=⟨by decide⟩
instance:bw 41:=⟨by decide⟩
instance:bw 42:=⟨by decide⟩
instance:bw 43:=⟨by decide⟩
instance:bw 44:=⟨by decide⟩
instance:bw 45:=⟨by decide⟩
instance:bw 46:=⟨by decide⟩
instance:bw 47:=⟨by decide⟩
instance:bw 48:=⟨by decide⟩
instance:bw 49:=⟨by decide⟩
instance:bw 50:=⟨by decide⟩
instance:bw 51:=⟨by decide⟩
instance:bw 52:=⟨by decide⟩
instance:bw 53:=⟨by decide⟩
instance:bw 54:=⟨by decide⟩
instance:bw 55:=⟨by decide⟩
instance:bw 56:=⟨by decide⟩
instance:bw 57:=⟨by decide⟩
instance:bw 58:=⟨by decide⟩
instance:bw 59:=⟨by decide⟩
instance:bw 60:=⟨by decide⟩
instance:bw 61:=⟨by decide⟩
instance:bw 62:=⟨by decide⟩
instance:bw 63:=⟨by decide⟩
instance:bw 64:=⟨by decide⟩
instance:gZ 1:=⟨by decide⟩
instance:gZ 2:=⟨by decide⟩
instance:gZ 3:=⟨by decide⟩
instance:gZ 4:=⟨by decide⟩
instance:gZ 5:=⟨by decide⟩
instance:gZ 6:=⟨by decide⟩
instance:gZ 7:=⟨by decide⟩
instance:gZ 8:=⟨by decide⟩
instance:gZ 9:=⟨by decide⟩
instance:gZ 10:=⟨by decide⟩
instance:gZ 11:=⟨by decide⟩
instance:gZ 12:=⟨by decide⟩
instance:gZ 13:=⟨by decide⟩
instance:gZ 14:=⟨by decide⟩
instance:gZ 15:=⟨by decide⟩
instance:gZ 16:=⟨by decide⟩
instance:gZ 17:=⟨by decide⟩
instance:gZ 18:=⟨by decide⟩
instance:gZ 19:=⟨by decide⟩
instance:gZ 20:=⟨by decide⟩
instance:gZ 21:=⟨by decide⟩
instance:gZ 22:=⟨by decide⟩
instance:gZ 23:=⟨by decide⟩
instance:gZ 24:=⟨by decide⟩
instance:gZ 25:=⟨by decide⟩
instance:gZ 26:=⟨by decide⟩
instance:gZ 27:=⟨by decide⟩
instance:gZ 28:=⟨by decide⟩
instance:gZ 29:=⟨by decide⟩
instance:gZ 30:=⟨by decide⟩
instance:gZ 31:=⟨by decide⟩
instance:gZ 32:=⟨by decide⟩
instance:gZ 33:=⟨by decide⟩
instance:gZ 34:=⟨by decide⟩
instance:gZ 35:=⟨by decide⟩
instance:gZ 36:=⟨by decide⟩
instance:gZ 37:=⟨by decide⟩
instance:gZ 38:=⟨by decide⟩
instance:gZ 39:=⟨by decide⟩
instance:gZ 40:=⟨by decide⟩
instance:gZ 41:=⟨by decide⟩
instance:gZ 42:=⟨by decide⟩
instance:gZ 43:=⟨by decide⟩
instance:gZ 44:=⟨by decide⟩
instance:gZ 45:=⟨by decide⟩
instance:gZ 46:=⟨by decide⟩
instance:gZ 47:=⟨by decide⟩
instance:gZ 48:=⟨by decide⟩
instance:gZ 49:=⟨by decide⟩
instance:gZ 50:=⟨by decide⟩
instance:gZ 51:=⟨by decide⟩
instance:gZ 52:=⟨by decide⟩
instance:gZ 53:=⟨by decide⟩
instance:gZ 54:=⟨by decide⟩
instance:gZ 55:=⟨by decide⟩
instance:gZ 56:=⟨by decide⟩
instance:gZ 57:=⟨by decide⟩
instance:gZ 58:=⟨by decide⟩
instance:gZ 59:=⟨by decide⟩
instance:gZ 60:=⟨by decide⟩
instance:gZ 61:=⟨by decide⟩
instance:gZ 62:=⟨by decide⟩
instance:gZ 63:=⟨by decide⟩
instance:gZ 64:=⟨by decide⟩
instance:gZ 256:=⟨by decide⟩
instance:gZ 255:=⟨by decide⟩
class vA (ks:List CK)(xs ys:List Value)(t:outParam Bool):Prop where
 f1:gk ks xs
 f2:gk ks ys
 eq:eK xs ys=t
instance vA.i1 {k:IntKind}{a b:Int}:vA [.i k] [.int k a] [.int k b] (decide (a=b)):=⟨⟨rfl,trivial⟩,⟨rfl,trivial⟩,by simp [eK];rfl⟩
instance vA.b1 {a b:Bool}:vA [.b] [.bool a] [.bool b] (a == b):=⟨trivial,trivial,by simp [eK]⟩
instance (priority:=500) vA.i {ks:List CK}{xs ys:List Value}{t:Bool}{k:IntKind}{a b:Int}[h:vA ks xs ys t]:vA (.i k::ks) (.int k a::xs) (.int k b::ys) (decide (a=b) && t):=⟨⟨rfl,h.f1⟩,⟨rfl,h.f2⟩,by simp [eK,h.eq];rfl⟩
instance (priority:=500) vA.b {ks:List CK}{xs ys:List Value}{t a b:Bool}[h:vA ks xs ys t]:vA (.b::ks) (.bool a::xs) (.bool b::ys) ((a == b) && t):=⟨h.f1,h.f2,by simp [eK,h.eq]⟩
class pA (zero:List Value)(ps:List (Nat×Nat×Value))(r:outParam (List Value)):Prop where
 eq:qU zero ps=some r
instance pA.nil {z:List Value}:pA z [] z:=⟨rfl⟩
instance pA.cons {z vs z' r:List Value}{o n:Nat}{v:Value}{ps:List (Nat×Nat×Value)}[hv:av v vs][hl:Er vs n][hs:pt z o vs z'][h:pA z' ps r]:pA z ((o,n,v)::ps) r:=⟨by
 have h1:v.cells.size=n:=by rw [←hl.eq,←hv.eq];simp
 have h2:=hs.le
 rw [hl.eq] at h2
 simp only [qU,h1,h2,and_self,if_true,hv.eq,hs.eq]
 exact h.eq⟩
section
variable {α:Type}(E:jB α)
theorem jb (xs:List α):(xs.flatMap E.enc).length=xs.length*E.sz:=by
 induction xs with
 | nil=>simp
 | cons x xs ih=>simp [ih,E.len,Nat.add_mul];omega
theorem sG (rest:List Value):∀(xs:List α)(i:Nat)(x:α),xs[i]? = some x→((xs.flatMap E.enc++rest).drop (i*E.sz)).take E.sz=E.enc x
 | [],i,x,h=>by simp at h
 | y::xs,0,x,h=>by
  simp at h;subst h
  have:=E.len y
  simp [List.flatMap_cons,List.append_assoc,←this]
 | y::xs,i+1,x,h=>by
  have:=E.len y
  rw [List.flatMap_cons,List.append_assoc,show (i+1)*E.sz=(E.enc y).length+i*E.sz by rw [this,Nat.add_mul];omega,List.drop_append,List.drop_eq_nil_of_le (by omega),List.nil_append,Nat.add_sub_cancel_left]
  exact sG rest xs i x (by simpa using h)
theorem SM:∀(vs a b:List Value)(j:Nat),j+vs.length≤a.length→DA (a++b) j vs=DA a j vs++b:=fun vs a b j h=>by
 rw [p8 _ _ _ (by simp;omega),p8 _ _ _ h]
 rw [List.take_append_of_le_length (by omega),List.drop_append_of_le_length h]
 simp
theorem Jl (vs a b:List Value)(j:Nat)(h:j+vs.length≤b.length):DA (a++b) (a.length+j) vs=a++DA b j vs:=by
 rw [p8 _ _ _ (by simp;omega),p8 _ _ _ h]
 rw [show a.length+j+vs.length=a.length+(j+vs.length) by omega,List.take_append,List.drop_append,List.take_of_length_le (by omega),List.drop_eq_nil_of_le (by omega),Nat.add_sub_cancel_left,Nat.add_sub_cancel_left]
 simp
theorem Hh (rest:List Value)(vs:List Value)(j:Nat)(a':α):∀(xs:List α)(i:Nat)(a:α),xs[i]? = some a→j+vs.length≤E.sz→E.enc a'=DA (E.enc a) j vs →
  DA (xs.flatMap E.enc++rest) (i*E.sz+j) vs=(xs.set i a').flatMap E.enc++rest
 | [],i,a,h,_,_=>by simp at h
 | y::xs,0,a,h,hj,he=>by
  simp at h;subst h
  have:=E.len y
  simp only [List.flatMap_cons,List.append_assoc,Nat.zero_mul,Nat.zero_add,List.set_cons_zero]
  rw [SM _ _ _ _ (by omega),he]
 | y::xs,i+1,a,h,hj,he=>by
  have:=E.len y
  have hlt:i<xs.length:=by
   rcases Nat.lt_or_ge i xs.length with h1 | h1
   ·exact h1
   ·simp [List.getElem?_eq_none h1] at h
  have hle:(i+1)*E.sz≤xs.length*E.sz:=Nat.mul_le_mul_right _ hlt
  simp only [List.flatMap_cons,List.append_assoc,List.set_cons_succ]
  rw [show (i+1)*E.sz+j=(E.enc y).length+(i*E.sz+j) by rw [this,Nat.add_mul];omega,Jl _ _ _ _ (by simp only [List.length_append,jb];rw [Nat.add_mul] at hle;omega)]
  rw [Hh rest vs j a' xs i a (by simpa using h) hj he]
theorem QZ (xs:List α):∀u∈xs.flatMap E.enc,one u=true:=fun u hu=>by
 obtain⟨x,_,h⟩:=List.mem_flatMap.1 hu
 exact E.ones x u h
def fc (w:World)(v:Value)(xs:List α):Prop :=
 ∃oa cap,v=.slice oa xs.length cap∧(oa=none→xs=[]∧cap=0)∧∀i x,xs[i]? = some x→∃e o cs,oa=some ⟨e,o,none⟩∧mem w e=some cs∧o+(i+1)*E.sz≤cs.length∧(cs.drop (o+i*E.sz)).take E.sz=E.enc x
def TH (v:Value)(xs:List α):ax:=fun h=>(v=.slice none 0 0∧xs=[]∧NB h) ∨
 ∃c cap rest,v=.slice (some ⟨c,0,none⟩) xs.length cap∧xs.length≤cap∧rest.length=(cap-xs.length)*E.sz∧gI c (xs.flatMap E.enc++rest) h
end
abbrev sl {α:Type}(E:jB α)(v:Value)(xs:List α):ax:=ob (TH E) v xs
section
variable {α:Type}{E:jB α}{w0:bg}{L:List ax}{v:Value}{xs:List α}{w:World}
theorem St.sl_cases (H:St w0 (sl E v xs::L) w):(v=.slice none 0 0∧xs=[]∧St w0 L w) ∨
  ∃c cap rest,v=.slice (some ⟨c,0,none⟩) xs.length cap∧xs.length≤cap∧rest.length=(cap-xs.length)*E.sz∧St w0 (own c (xs.flatMap E.enc++rest)::L) w:=by
 obtain⟨h,⟨a,b,ha,hb,j⟩,hd⟩:=id H
 rw [show sl E v xs=TH E v xs from dO _ _ _] at ha
 rcases ha with ⟨h1,h2,h3⟩ | ⟨c,cap,rest,h1,h2,h3,h4⟩
 ·exact .inl ⟨h1,h2,H.drop⟩
 ·exact .inr ⟨c,cap,rest,h1,h2,h3,h,⟨a,b,by rw [show own c (xs.flatMap E.enc++rest)=gI c _ from dO _ _ _];exact h4,hb,j⟩,hd⟩
theorem St.sl_mk {c cap:Nat}{rest:List Value}(H:St w0 (own c (xs.flatMap E.enc++rest)::L) w)(h2:xs.length≤cap)(h3:rest.length=(cap-xs.length)*E.sz):St w0 (sl E (.slice (some ⟨c,0,none⟩) xs.length cap) xs::L) w:=by
 obtain⟨h,⟨a,b,ha,hb,j⟩,hd⟩:=H
 rw [show own c (xs.flatMap E.enc++rest)=gI c _ from dO _ _ _] at ha
 exact⟨h,⟨a,b,by rw [show sl E (.slice (some ⟨c,0,none⟩) xs.length cap) xs=TH E _ xs from dO _ _ _];exact .inr ⟨c,cap,rest,rfl,h2,h3,ha⟩,hb,j⟩,hd⟩
theorem St.sl_nil (H:St w0 L w):St w0 (sl E (.slice none 0 0) []::L) w:=by
 obtain⟨h,hs,hd⟩:=H
 refine⟨h,?_,hd⟩
 have h2:bu NB (dh L) h:=by rw [qy];exact hs
 obtain⟨a,b,h1,h2,j⟩:=h2
 exact⟨a,b,by rw [show sl E (.slice none 0 0) ([]:List α)=TH E _ [] from dO _ _ _];exact .inl ⟨rfl,rfl,h1⟩,h2,j⟩
theorem fc.mk {c cap:Nat}{rest:List Value}(hm:mem w c=some (xs.flatMap E.enc++rest)):fc E w (.slice (some ⟨c,0,none⟩) xs.length cap) xs :=
 ⟨some ⟨c,0,none⟩,cap,rfl,by simp,fun i x hx=>⟨c,0,_,rfl,hm,by
  have:i<xs.length:=by
   rcases Nat.lt_or_ge i xs.length with h | h
   ·exact h
   ·simp [List.getElem?_eq_none h] at hx
  have:=Nat.mul_le_mul_right E.sz (show i+1≤xs.length from this)
  simp only [List.length_append,jb];omega,by rw [Nat.zero_add];exact sG E rest xs i x hx⟩⟩
theorem St.sl_is (H:St w0 (sl E v xs::L) w):fc E w v xs:=by
 rcases H.sl_cases with ⟨rfl,rfl,_⟩ | ⟨c,cap,rest,rfl,_,_,H2⟩
 ·exact⟨none,0,rfl,fun _=>⟨rfl,rfl⟩,fun i x hx=>by simp at hx⟩
 ·exact fc.mk H2.own_mem.2.1
end
class E8 {α:outParam Type}(w0:bg)(v:Value)(E:outParam (jB α))(xs:outParam (List α)):Prop where
 is:fc E w0.w v xs
class Rd {α:outParam Type}(w0:bg)(L:List ax)(v:Value)(E:outParam (jB α))(sz:outParam Nat)(xs:outParam (List α)):Prop where
 sz:E.sz=sz
 rd:∀w,St w0 L w→fc E w v xs
section
variable {α:Type}{E:jB α}{w0:bg}{L:List ax}{v:Value}{xs:List α}{w:World}
theorem fc.step {w':World}(h:fc E w v xs)(s:iR [] w w'):fc E w' v xs:=by
 obtain⟨oa,cap,h1,h2,h3⟩:=h
 refine⟨oa,cap,h1,h2,fun i x hx=>?_⟩
 obtain⟨e,o,cs,g1,g2,g3,g4⟩:=h3 i x hx
 exact⟨e,o,cs,g1,s.mem_some g2 (by simp),g3,g4⟩
instance Rd.sl:Rd w0 (sl E v xs::L) v E E.sz xs:=⟨rfl,fun w H=>H.sl_is⟩
instance (priority:=500) Rd.tl {X:ax}{sz:Nat}[h:Rd w0 L v E sz xs]:Rd w0 (X::L) v E sz xs:=⟨h.sz,fun w H=>h.rd w H.drop⟩
instance (priority:=1100) Rd.arg [h:E8 w0 v E xs]:Rd w0 L v E E.sz xs:=⟨rfl,fun w H=>h.is.step H.step⟩
instance E8.with {k:Nat→Option Obj}{m:Nat}[h:E8 w0 v E xs]:E8 (w0.with k m) v E xs:=⟨h.is⟩
theorem Rd.frame {sz:Nat}{C:ax→List ax}{M:List ax}(hM:∀A,dh (C A)=dh (A::M))(r:∀A,Rd w0 (C A) v E sz xs):Rd w0 M v E sz xs:=⟨(r NB).sz,fun w H=>(r NB).rd w (by
 obtain⟨h,hs,hd⟩:=H
 refine⟨h,?_,hd⟩
 rw [hM]
 show bu NB (dh M) h
 rw [qy];exact hs)⟩
class n8 {α:outParam Type}(L:List ax)(v:Value)(E:outParam (jB α))(xs:outParam (List α))(C:outParam (ax→List ax)):Prop where
 sel:al L (TH E) v xs C
instance n8.hd:n8 (S.sl E v xs::L) v E xs (fun a=>a::L):=⟨al.hd⟩
instance (priority:=500) n8.tl {X:ax}{C:ax→List ax}[h:n8 L v E xs C]:n8 (X::L) v E xs (fun a=>X::C a):=⟨@al.tl _ _ _ _ _ _ _ _ h.sel⟩
instance n8.ob {C:ax→List ax}[h:n8 L v E xs C]:al L (TH E) v xs C:=h.sel
theorem oD {C:ax→List ax}(i:al L (TH E) v xs C):∃M,(∀w,St w0 L w↔St w0 (S.sl E v xs::M) w)∧(∀A w,St w0 (C A) w↔St w0 (A::M) w):=by
 obtain⟨M,e1,e2,_⟩:=i.fronts
 exact⟨M,fun w=>by unfold St;rw [e1],fun A w=>by unfold St;rw [e2]⟩
def ep (v:Value)(sz k j:Nat):Value:=match v with
 | .slice (some ⟨c,o,none⟩) _ _=>ptr c (o+k*sz+j)
 | _=>undef
variable {K:KV}{sz k j n:Nat}{x:α}
theorem Rd.at [r:Rd w0 L v E sz xs][e:eA xs k x](H:St w0 L w):∃b o cap cs,v=.slice (some ⟨b,o,none⟩) xs.length cap∧mem w b=some cs∧o+(k+1)*sz≤cs.length∧(cs.drop (o+k*sz)).take sz=E.enc x∧k<xs.length:=by
 obtain⟨oa,cap,rfl,_,h⟩:=r.rd w H
 obtain⟨b,o,cs,rfl,h1,h2,h3⟩:=h k x e.eq
 rw [r.sz] at h2 h3
 exact⟨b,o,cap,cs,rfl,h1,h2,h3,by
  rcases Nat.lt_or_ge k xs.length with h | h
  ·exact h
  ·have:=e.eq;simp [List.getElem?_eq_none h] at this⟩
theorem zZ {F F':World→Prop}(h:∀w,St w0 L w→(F w↔F' w)):G w0 L F=G w0 L F':=propext ⟨fun g w H=>(h w H).1 (g w H),fun g w H=>(h w H).2 (g w H)⟩
theorem Wl [r:Rd w0 L v E sz xs]:G w0 L (ct v K)=G w0 L (K (i64 xs.length)):=zZ fun w H=>by
 obtain⟨oa,cap,rfl,_⟩:=r.rd w H
 exact Iff.rfl
theorem VU {kd:IntKind}{i:Int}[r:Rd w0 L v E sz xs][hi:iA i k][e:eA xs k x]:G w0 L (cg sz v (.int kd i) K)=G w0 L (K (ep v sz k 0)):=zZ fun w H=>by
 obtain⟨b,o,cap,cs,rfl,_,_,_,hk⟩:=Rd.at (x:=x) (k:=k) (r:=r) H
 have:=hi.eq
 subst this
 simp [cg,ep,hk]
theorem RW {m:Nat}[r:Rd w0 L v E sz xs][e:eA xs k x][a:zK j n m]:G w0 L (ad n (ep v sz k j) K)=G w0 L (K (ep v sz k m)):=zZ fun w H=>by
 have:=a.eq
 subst this
 obtain⟨b,o,cap,cs,rfl,_⟩:=Rd.at (x:=x) (k:=k) (r:=r) H
 simp [ad,ep,Nat.add_assoc]
theorem Sy [r:Rd w0 L v E sz xs][e:eA xs k x]:G w0 L (ah (ep v sz k j) K)=G w0 L (K (ep v sz k j)):=zZ fun w H=>by
 obtain⟨b,o,cap,cs,rfl,_⟩:=Rd.at (x:=x) (k:=k) (r:=r) H
 simp [ah,ep]
theorem PY {u:Value}{cs:List Value}[r:Rd w0 L v E sz xs][e:eA xs k x][c:e9 E x cs][h:Jp cs j u]:G w0 L (aa (ep v sz k j) K)=G w0 L (K u):=zZ fun w H=>by
 obtain⟨b,o,cap,ds,rfl,h1,h2,h3,_⟩:=Rd.at (x:=x) (k:=k) (r:=r) H
 have h4:=h.eq
 rw [←c.eq,←h3,List.getElem?_take] at h4
 split at h4
 ·rw [List.getElem?_drop] at h4
  simp [aa,ep,h1,h4,dB]
 ·cases h4
theorem NU {cs q:List Value}[r:Rd w0 L v E sz xs][e:eA xs k x][c:e9 E x cs][h:jQ cs j n q]:G w0 L (aj n (ep v sz k j) K)=G w0 L (K (.agg q.toArray)):=zZ fun w H=>by
 obtain⟨b,o,cap,ds,rfl,h1,h2,h3,_⟩:=Rd.at (x:=x) (k:=k) (r:=r) H
 have h4:=h.eq
 have h5:=h.le
 have h6:cs.length=sz:=by rw [←c.eq,E.len,r.sz]
 rw [←c.eq,←h3,List.drop_take,List.take_take,List.drop_drop,Nat.min_eq_left (by omega)] at h4
 rw [Nat.add_mul] at h2
 simp [aj,ep,h1,h4,show o+k*sz+j+n≤ds.length by omega]
theorem N9 {val:Value}{cs vs q:List Value}{x':α}{C:ax→List ax}[r:Rd w0 L v E sz xs][s:n8 L v E xs C][e:eA xs k x][c:e9 E x cs][hv:av val vs][hl:Er vs n][hr:pt cs j vs q][hd:fy E q x'] :
  G w0 L (ag n (ep v sz k j) val K)=G w0 (C (S.sl E v (xs.set k x'))) (K undef):=by
 obtain⟨M,e1,e2⟩:=oD (w0:=w0) s.sel
 have hsz:val.cells.size=n:=by rw [←hl.eq,←hv.eq];simp
 have henc:E.enc x'=DA (E.enc x) j vs:=by rw [E.dec_ok _ _ hd.eq,c.eq,hr.eq]
 have hj:j+vs.length≤E.sz:=by have:=hr.le;rw [←c.eq,E.len] at this;exact this
 have hk:k<xs.length:=by
  rcases Nat.lt_or_ge k xs.length with h | h
  ·exact h
  ·have:=e.eq;simp [List.getElem?_eq_none h] at this
 have hkl:=Nat.mul_le_mul_right E.sz (show k+1≤xs.length from hk)
 rw [Nat.add_mul] at hkl
 apply propext
 constructor
 ·intro g w H
  have H1:=(e2 _ w).1 H
  rcases H1.sl_cases with ⟨_,h0,_⟩ | ⟨b,cap,rest,hv',h2,h3,H2⟩
  ·have:(xs.set k x').length=0:=by rw [h0];rfl
   simp at this;subst this;simp at hk
  ·rw [List.length_set] at hv' h2 h3
   subst hv'
   have H3:=H2.own_put (cs':=xs.flatMap E.enc++rest)
   have H4:=(e1 _).2 (H3.sl_mk h2 h3)
   have h5:=g _ H4
   have hm:=H3.own_mem
   simp only [ag,ep,hm.2.1,hm.2.2,hsz,hv.eq,Nat.zero_add,←r.sz] at h5
   have h6:=h5.2.2.2.2
   rw [Hh E rest vs j x' xs k x e.eq hj henc,La,CO H2.own_mem.2.1] at h6
   exact h6
 ·intro g w H
  have H1:=(e1 w).1 H
  rcases H1.sl_cases with ⟨_,rfl,_⟩ | ⟨b,cap,rest,rfl,h2,h3,H2⟩
  ·simp at hk
  ·have hm:=H2.own_mem
   simp only [ag,ep,hm.2.1,hm.2.2,hsz,hv.eq,Nat.zero_add,←r.sz]
   refine⟨trivial,hv.ones,trivial,by have:=hl.eq;simp only [List.length_append,jb];omega,?_⟩
   rw [Hh E rest vs j x' xs k x e.eq hj henc]
   refine g _ ((e2 _ _).2 ?_)
   have:=(H2.own_put (cs':=(xs.set k x').flatMap E.enc++rest)).sl_mk (E:=E) (xs:=xs.set k x') (cap:=cap) (by simpa using h2) (by simpa using h3)
   simpa using this
end
section
variable {w0:bg}{L:List ax}{K:KV}
theorem Um {b i:Nat}:ah (ptr b i) K=K (ptr b i):=by funext w <;> simp [ah]
theorem Su {f:FuncId}{x y:Array Value}:ah (.func (.func f) x y) K=K (.func (.func f) x y):=by funext w <;> simp [ah]
theorem Up {b i n m:Nat}[h:zK i n m]:ad n (ptr b i) K=K (ptr b m):=by funext w <;> simp [ad,h.eq]
theorem UL {t:Bool}:eW (.bool t) K=K (.bool (!t)):=by funext w <;> simp [eW]
theorem Pd {x y:Value}:ay (.bool true) x y K=K x:=by funext w <;> simp [ay]
theorem OB {x y:Value}:ay (.bool false) x y K=K y:=by funext w <;> simp [ay]
theorem Ug {k:IntKind}{a b:Int}:ab .lss (.int k a) (.int k b) K=K (.bool (decide (a<b))):=by funext w <;> simp [ab,jR,dB,Bool.beq_eq_decide_eq]
theorem UH {k:IntKind}{a b:Int}:ab .leq (.int k a) (.int k b) K=K (.bool (decide (a≤b))):=by funext w <;> simp [ab,jR,dB,Bool.beq_eq_decide_eq]
theorem Uj {k:IntKind}{a b:Int}:ab .gtr (.int k a) (.int k b) K=K (.bool (decide (b<a))):=by funext w <;> simp [ab,jR,dB,Bool.beq_eq_decide_eq]
theorem Ui {k:IntKind}{a b:Int}:ab .geq (.int k a) (.int k b) K=K (.bool (decide (b≤a))):=by funext w <;> simp [ab,jR,dB,Bool.beq_eq_decide_eq]
theorem UC {k:IntKind}{a b:Int}:ab .eql (.int k a) (.int k b) K=K (.bool (decide (a=b))):=by funext w <;> simp [ab,jR,dB,Bool.beq_eq_decide_eq]
theorem UF {k:IntKind}{a b:Int}:ab .neq (.int k a) (.int k b) K=K (.bool (!decide (a=b))):=by funext w <;> simp [ab,jR,dB,bne,Bool.beq_eq_decide_eq]
theorem Rq {k:IntKind}{a b:Int}:ab .add (.int k a) (.int k b) K=K (.int k (k.wrap (a+b))):=by funext w <;> simp [ab,jR,dB]
theorem UG {k:IntKind}{a b:Int}:ab .sub (.int k a) (.int k b) K=K (.int k (k.wrap (a-b))):=by funext w <;> simp [ab,jR,dB]
theorem Un {k:IntKind}{a b:Int}:ab .mul (.int k a) (.int k b) K=K (.int k (k.wrap (a*b))):=by funext w <;> simp [ab,jR,dB]
theorem UK {k:IntKind}{a b:Int}[h:gZ b]:ab .quo (.int k a) (.int k b) K=K (.int k (k.wrap (a.tdiv b))):=by funext w <;> simp [ab,jR,dB,h.ne]
theorem Uw {k:IntKind}{a b:Int}[h:gZ b]:ab .rem (.int k a) (.int k b) K=K (.int k (a.tmod b)):=by funext w <;> simp [ab,jR,dB,h.ne]
theorem Rk {k:IntKind}{a b:Int}:ab .and (.int k a) (.int k b) K=K (.int k (k.wrap (BitVec.ofInt k.bits a &&& BitVec.ofInt k.bits b).toNat)):=by funext w <;> simp [ab,jR,dB]
theorem Ul {k:IntKind}{a b:Int}:ab .or (.int k a) (.int k b) K=K (.int k (k.wrap (BitVec.ofInt k.bits a ||| BitVec.ofInt k.bits b).toNat)):=by funext w <;> simp [ab,jR,dB]
theorem SX {k:IntKind}{a b:Int}:ab .xor (.int k a) (.int k b) K=K (.int k (k.wrap (BitVec.ofInt k.bits a ^^^ BitVec.ofInt k.bits b).toNat)):=by funext w <;> simp [ab,jR,dB]
theorem UA {k k2:IntKind}{a b:Int}[h:bw b]:ab .shl (.int k a) (.int k2 b) K=K (.int k (k.wrap (a*2 ^ min b.toNat k.bits))):=by funext w <;> simp [ab,h.le]
theorem Uu {k k2:IntKind}{a b:Int}[h:bw b]:ab .shr (.int k a) (.int k2 b) K=K (.int k (a.fdiv (2 ^ min b.toNat k.bits))):=by funext w <;> simp [ab,h.le]
theorem OJ {t:Nat}{x:Value}:mI t x K=K (.iface t x):=by funext w <;> simp [mI]
theorem R1 {k k2:IntKind}{a:Int}:fB k (.int k2 a) K=K (.int k (k.wrap a)):=by funext w <;> simp [fB]
theorem UD {a b:Bool}:fb .eql (.bool a) (.bool b) K=K (.bool (a == b)):=by funext w <;> simp [fb,Fi]
theorem UJ {a b:Bool}:fb .neq (.bool a) (.bool b) K=K (.bool (!(a == b))):=by funext w <;> simp [fb,Fi]
theorem SG {b i:Nat}:dZ .eql (ptr b i) (.pointer none) K=K (.bool false):=by funext w <;> simp [dZ,Fi]
theorem OE {b i:Nat}:dZ .neq (ptr b i) (.pointer none) K=K (.bool true):=by funext w <;> simp [dZ,Fi]
theorem Sx  : dZ .eql (.pointer none) (.pointer none) K=K (.bool true):=by funext w <;> simp [dZ,Fi]
theorem OV  : dZ .neq (.pointer none) (.pointer none) K=K (.bool false):=by funext w <;> simp [dZ,Fi]
theorem OO {ks:List CK}{xs ys:List Value}{t:Bool}[h:vA ks xs ys t]:iS ks .eql (.agg xs.toArray) (.agg ys.toArray) K=K (.bool t):=by funext w <;> simp [iS,h.f1,h.f2,h.eq,Fi]
theorem O9 {ks:List CK}{xs ys:List Value}{t:Bool}[h:vA ks xs ys t]:iS ks .neq (.agg xs.toArray) (.agg ys.toArray) K=K (.bool (!t)):=by funext w <;> simp [iS,h.f1,h.f2,h.eq,Fi]
theorem RZ {o n:Nat}{cs:List Value}{v:Value}[h:Jp cs o v]:nT false o n (.agg cs.toArray) K=K v:=by funext w <;> simp [nT,h.eq,dB]
theorem Ph {o n:Nat}{cs r:List Value}[h:jQ cs o n r]:nT true o n (.agg cs.toArray) K=K (.agg r.toArray):=by funext w <;> simp only [nT,if_true] <;> congr 2 <;> apply Array.toList_inj.1 <;> simp [←h.eq]
theorem I2 {i:Nat}{vs:List Value}{v:Value}[h:Jp vs i v]:ak i (.tuple vs.toArray) K=K v:=by funext w <;> simp [ak,h.eq,dB]
theorem O1 {zero r:List Value}{ps:List (Nat×Nat×Value)}[h:pA zero ps r]:au zero ps K=K (.agg r.toArray):=by funext w <;> simp [au,h.eq]
theorem Ud {k:IntKind}{a b:Int}:lU (.int k a) [.int k b] K=K (.int k (if b > a then b else a)):=by funext w <;> simp [lU,A1,Pt,dB]
theorem Ur {k:IntKind}{a b:Int}:iB (.int k a) [.int k b] K=K (.int k (if b<a then b else a)):=by funext w <;> simp [iB,A1,L0,dB]
theorem Rx {k:IntKind}{a b c:Int}:iB (.int k a) [.int k b,.int k c] K=K (.int k (if c<(if b<a then b else a) then c else (if b<a then b else a))):=by funext w <;> simp [iB,A1,L0,dB]
theorem OP {A B:World→Prop}:ae (.bool true) A B=A:=by rw [KU]
theorem Pv {A B:World→Prop}:ae (.bool false) A B=B:=by rw [K0]
theorem Wm {t:Bool}{A:KV→World→Prop}:gW (.bool t) t A K=A K:=by rw [S9]
theorem Uv {A:KV→World→Prop}:gW (.bool true) false A K=K undef:=by rw [PA]
theorem UN {A:KV→World→Prop}:gW (.bool false) true A K=K undef:=by rw [Pj]
theorem V3 {t:Bool}{A:KV→World→Prop}:gW undef t A K=K undef:=by rw [Wu]
theorem VS {t:Bool}{A:KV→World→Prop}{e:Value}:dA (.bool t) t A e K=A K:=by rw [wD]
theorem UM {A:KV→World→Prop}{e:Value}:dA (.bool true) false A e K=K e:=by rw [xX]
theorem Ut {A:KV→World→Prop}{e:Value}:dA (.bool false) true A e K=K e:=by rw [xZ]
theorem SC {p q:Bool}:dA (.bool p) true (fun K=>K (.bool q)) (.bool false) K=K (.bool (p && q)):=by rw [NG]
theorem Uo {p q:Bool}:dA (.bool p) false (fun K=>K (.bool q)) (.bool true) K=K (.bool (p || q)):=by rw [QC]
theorem WB {b i:Nat}:G w0 L (ah (ptr b i) K)=G w0 L (K (ptr b i)):=congrArg _ Um
theorem UW {f:FuncId}{x y:Array Value}:G w0 L (ah (.func (.func f) x y) K)=G w0 L (K (.func (.func f) x y)):=congrArg _ Su
theorem Wy {b i n m:Nat}[h:zK i n m]:G w0 L (ad n (ptr b i) K)=G w0 L (K (ptr b m)):=congrArg _ Up
theorem Wt {t:Bool}:G w0 L (eW (.bool t) K)=G w0 L (K (.bool (!t))):=congrArg _ UL
theorem Tq {x y:Value}:G w0 L (ay (.bool true) x y K)=G w0 L (K x):=congrArg _ Pd
theorem TE {x y:Value}:G w0 L (ay (.bool false) x y K)=G w0 L (K y):=congrArg _ OB
theorem V7 {k:IntKind}{a b:Int}:G w0 L (ab .lss (.int k a) (.int k b) K)=G w0 L (K (.bool (decide (a<b)))):=congrArg _ Ug
theorem VT {k:IntKind}{a b:Int}:G w0 L (ab .leq (.int k a) (.int k b) K)=G w0 L (K (.bool (decide (a≤b)))):=congrArg _ UH
theorem Wb {k:IntKind}{a b:Int}:G w0 L (ab .gtr (.int k a) (.int k b) K)=G w0 L (K (.bool (decide (b<a)))):=congrArg _ Uj
theorem Wa {k:IntKind}{a b:Int}:G w0 L (ab .geq (.int k a) (.int k b) K)=G w0 L (K (.bool (decide (b≤a)))):=congrArg _ Ui
theorem Wg {k:IntKind}{a b:Int}:G w0 L (ab .eql (.int k a) (.int k b) K)=G w0 L (K (.bool (decide (a=b)))):=congrArg _ UC
theorem WF {k:IntKind}{a b:Int}:G w0 L (ab .neq (.int k a) (.int k b) K)=G w0 L (K (.bool (!decide (a=b)))):=congrArg _ UF
theorem Ve {k:IntKind}{a b:Int}:G w0 L (ab .add (.int k a) (.int k b) K)=G w0 L (K (.int k (k.wrap (a+b)))):=congrArg _ Rq
theorem VY {k:IntKind}{a b:Int}:G w0 L (ab .sub (.int k a) (.int k b) K)=G w0 L (K (.int k (k.wrap (a-b)))):=congrArg _ UG
theorem Wf {k:IntKind}{a b:Int}:G w0 L (ab .mul (.int k a) (.int k b) K)=G w0 L (K (.int k (k.wrap (a*b)))):=congrArg _ Un
theorem V8 {k:IntKind}{a b:Int}[h:gZ b]:G w0 L (ab .quo (.int k a) (.int k b) K)=G w0 L (K (.int k (k.wrap (a.tdiv b)))):=congrArg _ UK
theorem Wh {k:IntKind}{a b:Int}[h:gZ b]:G w0 L (ab .rem (.int k a) (.int k b) K)=G w0 L (K (.int k (a.tmod b))):=congrArg _ Uw
theorem U3 {k:IntKind}{a b:Int}:G w0 L (ab .and (.int k a) (.int k b) K)=G w0 L (K (.int k (k.wrap (BitVec.ofInt k.bits a &&& BitVec.ofInt k.bits b).toNat))):=congrArg _ Rk
theorem V6 {k:IntKind}{a b:Int}:G w0 L (ab .or (.int k a) (.int k b) K)=G w0 L (K (.int k (k.wrap (BitVec.ofInt k.bits a ||| BitVec.ofInt k.bits b).toNat))):=congrArg _ Ul
theorem VA {k:IntKind}{a b:Int}:G w0 L (ab .xor (.int k a) (.int k b) K)=G w0 L (K (.int k (k.wrap (BitVec.ofInt k.bits a ^^^ BitVec.ofInt k.bits b).toNat))):=congrArg _ SX
theorem Wr {k k2:IntKind}{a b:Int}[h:bw b]:G w0 L (ab .shl (.int k a) (.int k2 b) K)=G w0 L (K (.int k (k.wrap (a*2 ^ min b.toNat k.bits)))):=congrArg _ UA
theorem V9 {k k2:IntKind}{a b:Int}[h:bw b]:G w0 L (ab .shr (.int k a) (.int k2 b) K)=G w0 L (K (.int k (a.fdiv (2 ^ min b.toNat k.bits)))):=congrArg _ Uu
theorem TL {t:Nat}{x:Value}:G w0 L (mI t x K)=G w0 L (K (.iface t x)):=congrArg _ OJ
theorem U0 {k k2:IntKind}{a:Int}:G w0 L (fB k (.int k2 a) K)=G w0 L (K (.int k (k.wrap a))):=congrArg _ R1
theorem Wj {a b:Bool}:G w0 L (fb .eql (.bool a) (.bool b) K)=G w0 L (K (.bool (a == b))):=congrArg _ UD
theorem V5 {a b:Bool}:G w0 L (fb .neq (.bool a) (.bool b) K)=G w0 L (K (.bool (!(a == b)))):=congrArg _ UJ
theorem Vy {b i:Nat}:G w0 L (dZ .eql (ptr b i) (.pointer none) K)=G w0 L (K (.bool false)):=congrArg _ SG
theorem TO {b i:Nat}:G w0 L (dZ .neq (ptr b i) (.pointer none) K)=G w0 L (K (.bool true)):=congrArg _ OE
theorem VC  : G w0 L (dZ .eql (.pointer none) (.pointer none) K)=G w0 L (K (.bool true)):=congrArg _ Sx
theorem S7  : G w0 L (dZ .neq (.pointer none) (.pointer none) K)=G w0 L (K (.bool false)):=congrArg _ OV
theorem T0 {ks:List CK}{xs ys:List Value}{t:Bool}[h:vA ks xs ys t]:G w0 L (iS ks .eql (.agg xs.toArray) (.agg ys.toArray) K)=G w0 L (K (.bool t)):=congrArg _ OO
theorem TZ {ks:List CK}{xs ys:List Value}{t:Bool}[h:vA ks xs ys t]:G w0 L (iS ks .neq (.agg xs.toArray) (.agg ys.toArray) K)=G w0 L (K (.bool (!t))):=congrArg _ O9
theorem U5 {o n:Nat}{cs:List Value}{v:Value}[h:Jp cs o v]:G w0 L (nT false o n (.agg cs.toArray) K)=G w0 L (K v):=congrArg _ RZ
theorem TR {o n:Nat}{cs r:List Value}[h:jQ cs o n r]:G w0 L (nT true o n (.agg cs.toArray) K)=G w0 L (K (.agg r.toArray)):=congrArg _ Ph
theorem P2 {i:Nat}{vs:List Value}{v:Value}[h:Jp vs i v]:G w0 L (ak i (.tuple vs.toArray) K)=G w0 L (K v):=congrArg _ I2
theorem TC {zero r:List Value}{ps:List (Nat×Nat×Value)}[h:pA zero ps r]:G w0 L (au zero ps K)=G w0 L (K (.agg r.toArray)):=congrArg _ O1
theorem Wi {k:IntKind}{a b:Int}:G w0 L (lU (.int k a) [.int k b] K)=G w0 L (K (.int k (if b > a then b else a))):=congrArg _ Ud
theorem Ws {k:IntKind}{a b:Int}:G w0 L (iB (.int k a) [.int k b] K)=G w0 L (K (.int k (if b<a then b else a))):=congrArg _ Ur
theorem Vl {k:IntKind}{a b c:Int}:G w0 L (iB (.int k a) [.int k b,.int k c] K)=G w0 L (K (.int k (if c<(if b<a then b else a) then c else (if b<a then b else a)))):=congrArg _ Rx
theorem Ua {A B:World→Prop}:G w0 L (ae (.bool true) A B)=G w0 L (A):=congrArg _ OP
theorem T8 {A B:World→Prop}:G w0 L (ae (.bool false) A B)=G w0 L (B):=congrArg _ Pv
theorem WN {t:Bool}{A:KV→World→Prop}:G w0 L (gW (.bool t) t A K)=G w0 L (A K):=congrArg _ Wm
theorem WC {A:KV→World→Prop}:G w0 L (gW (.bool true) false A K)=G w0 L (K undef):=congrArg _ Uv
theorem We {A:KV→World→Prop}:G w0 L (gW (.bool false) true A K)=G w0 L (K undef):=congrArg _ UN
theorem WR {t:Bool}{A:KV→World→Prop}:G w0 L (gW undef t A K)=G w0 L (K undef):=congrArg _ V3
theorem WU {t:Bool}{A:KV→World→Prop}{e:Value}:G w0 L (dA (.bool t) t A e K)=G w0 L (A K):=congrArg _ VS
theorem VR {A:KV→World→Prop}{e:Value}:G w0 L (dA (.bool true) false A e K)=G w0 L (K e):=congrArg _ UM
theorem WD {A:KV→World→Prop}{e:Value}:G w0 L (dA (.bool false) true A e K)=G w0 L (K e):=congrArg _ Ut
theorem Vx {p q:Bool}:G w0 L (dA (.bool p) true (fun K=>K (.bool q)) (.bool false) K)=G w0 L (K (.bool (p && q))):=congrArg _ SC
theorem VZ {p q:Bool}:G w0 L (dA (.bool p) false (fun K=>K (.bool q)) (.bool true) K)=G w0 L (K (.bool (p || q))):=congrArg _ Uo
theorem Vf {B:World→Prop}:G w0 L (andP ac B)=G w0 L (B):=by rw [iO]
end
theorem RG :
  (∀{w0:bg} {L:List ax} {K:KV} {b i:Nat},G w0 L (ah (ptr b i) K)=G w0 L (K (ptr b i))) ∧
  (∀{w0:bg} {L:List ax} {K:KV} {f:FuncId} {x y:Array Value},G w0 L (ah (.func (.func f) x y) K)=G w0 L (K (.func (.func f) x y))) ∧
  (∀{w0:bg} {L:List ax} {K:KV} {b i n m:Nat} [h:zK i n m],G w0 L (ad n (ptr b i) K)=G w0 L (K (ptr b m))) ∧
  (∀{w0:bg} {L:List ax} {K:KV} {t:Bool},G w0 L (eW (.bool t) K)=G w0 L (K (.bool (!t)))) ∧
  (∀{w0:bg} {L:List ax} {K:KV} {x y:Value},G w0 L (ay (.bool true) x y K)=G w0 L (K x)) ∧
  (∀{w0:bg} {L:List ax} {K:KV} {x y:Value},G w0 L (ay (.bool false) x y K)=G w0 L (K y)) ∧
  (∀{w0:bg} {L:List ax} {K:KV} {k:IntKind} {a b:Int},G w0 L (ab .lss (.int k a) (.int k b) K)=G w0 L (K (.bool (decide (a<b))))) ∧
  (∀{w0:bg} {L:List ax} {K:KV} {k:IntKind} {a b:Int},G w0 L (ab .leq (.int k a) (.int k b) K)=G w0 L (K (.bool (decide (a≤b))))) ∧
  (∀{w0:bg} {L:List ax} {K:KV} {k:IntKind} {a b:Int},G w0 L (ab .gtr (.int k a) (.int k b) K)=G w0 L (K (.bool (decide (b<a))))) ∧
  (∀{w0:bg} {L:List ax} {K:KV} {k:IntKind} {a b:Int},G w0 L (ab .geq (.int k a) (.int k b) K)=G w0 L (K (.bool (decide (b≤a))))) ∧
  (∀{w0:bg} {L:List ax} {K:KV} {k:IntKind} {a b:Int},G w0 L (ab .eql (.int k a) (.int k b) K)=G w0 L (K (.bool (decide (a=b))))) ∧
  (∀{w0:bg} {L:List ax} {K:KV} {k:IntKind} {a b:Int},G w0 L (ab .neq (.int k a) (.int k b) K)=G w0 L (K (.bool (!decide (a=b))))) ∧
  (∀{w0:bg} {L:List ax} {K:KV} {k:IntKind} {a b:Int},G w0 L (ab .add (.int k a) (.int k b) K)=G w0 L (K (.int k (k.wrap (a+b))))) ∧
  (∀{w0:bg} {L:List ax} {K:KV} {k:IntKind} {a b:Int},G w0 L (ab .sub (.int k a) (.int k b) K)=G w0 L (K (.int k (k.wrap (a-b))))) ∧
  (∀{w0:bg} {L:List ax} {K:KV} {k:IntKind} {a b:Int},G w0 L (ab .mul (.int k a) (.int k b) K)=G w0 L (K (.int k (k.wrap (a*b))))) ∧
  (∀{w0:bg} {L:List ax} {K:KV} {k:IntKind} {a b:Int} [h:gZ b],G w0 L (ab .quo (.int k a) (.int k b) K)=G w0 L (K (.int k (k.wrap (a.tdiv b))))) ∧
  (∀{w0:bg} {L:List ax} {K:KV} {k:IntKind} {a b:Int} [h:gZ b],G w0 L (ab .rem (.int k a) (.int k b) K)=G w0 L (K (.int k (a.tmod b)))) ∧
  (∀{w0:bg} {L:List ax} {K:KV} {k:IntKind} {a b:Int},G w0 L (ab .and (.int k a) (.int k b) K)=G w0 L (K (.int k (k.wrap (BitVec.ofInt k.bits a &&& BitVec.ofInt k.bits b).toNat)))) ∧
  (∀{w0:bg} {L:List ax} {K:KV} {k:IntKind} {a b:Int},G w0 L (ab .or (.int k a) (.int k b) K)=G w0 L (K (.int k (k.wrap (BitVec.ofInt k.bits a ||| BitVec.ofInt k.bits b).toNat)))) ∧
  (∀{w0:bg} {L:List ax} {K:KV} {k:IntKind} {a b:Int},G w0 L (ab .xor (.int k a) (.int k b) K)=G w0 L (K (.int k (k.wrap (BitVec.ofInt k.bits a ^^^ BitVec.ofInt k.bits b).toNat)))) ∧
  (∀{w0:bg} {L:List ax} {K:KV} {k k2:IntKind} {a b:Int} [h:bw b],G w0 L (ab .shl (.int k a) (.int k2 b) K)=G w0 L (K (.int k (k.wrap (a*2 ^ min b.toNat k.bits))))) ∧
  (∀{w0:bg} {L:List ax} {K:KV} {k k2:IntKind} {a b:Int} [h:bw b],G w0 L (ab .shr (.int k a) (.int k2 b) K)=G w0 L (K (.int k (a.fdiv (2 ^ min b.toNat k.bits))))) ∧
  (∀{w0:bg} {L:List ax} {K:KV} {t:Nat} {x:Value},G w0 L (mI t x K)=G w0 L (K (.iface t x))) ∧
  (∀{w0:bg} {L:List ax} {K:KV} {k k2:IntKind} {a:Int},G w0 L (fB k (.int k2 a) K)=G w0 L (K (.int k (k.wrap a)))) ∧
  (∀{w0:bg} {L:List ax} {K:KV} {a b:Bool},G w0 L (fb .eql (.bool a) (.bool b) K)=G w0 L (K (.bool (a == b)))) ∧
  (∀{w0:bg} {L:List ax} {K:KV} {a b:Bool},G w0 L (fb .neq (.bool a) (.bool b) K)=G w0 L (K (.bool (!(a == b))))) ∧
  (∀{w0:bg} {L:List ax} {K:KV} {b i:Nat},G w0 L (dZ .eql (ptr b i) (.pointer none) K)=G w0 L (K (.bool false))) ∧
  (∀{w0:bg} {L:List ax} {K:KV} {b i:Nat},G w0 L (dZ .neq (ptr b i) (.pointer none) K)=G w0 L (K (.bool true))) ∧
  (∀{w0:bg} {L:List ax} {K:KV},G w0 L (dZ .eql (.pointer none) (.pointer none) K)=G w0 L (K (.bool true))) ∧
  (∀{w0:bg} {L:List ax} {K:KV},G w0 L (dZ .neq (.pointer none) (.pointer none) K)=G w0 L (K (.bool false))) ∧
  (∀{w0:bg} {L:List ax} {K:KV} {ks:List CK} {xs ys:List Value} {t:Bool} [h:vA ks xs ys t],G w0 L (iS ks .eql (.agg xs.toArray) (.agg ys.toArray) K)=G w0 L (K (.bool t))) ∧
  (∀{w0:bg} {L:List ax} {K:KV} {ks:List CK} {xs ys:List Value} {t:Bool} [h:vA ks xs ys t],G w0 L (iS ks .neq (.agg xs.toArray) (.agg ys.toArray) K)=G w0 L (K (.bool (!t)))) ∧
  (∀{w0:bg} {L:List ax} {K:KV} {o n:Nat} {cs:List Value} {v:Value} [h:Jp cs o v],G w0 L (nT false o n (.agg cs.toArray) K)=G w0 L (K v)) ∧
  (∀{w0:bg} {L:List ax} {K:KV} {o n:Nat} {cs r:List Value} [h:jQ cs o n r],G w0 L (nT true o n (.agg cs.toArray) K)=G w0 L (K (.agg r.toArray))) ∧
  (∀{w0:bg} {L:List ax} {K:KV} {i:Nat} {vs:List Value} {v:Value} [h:Jp vs i v],G w0 L (ak i (.tuple vs.toArray) K)=G w0 L (K v)) ∧
  (∀{w0:bg} {L:List ax} {K:KV} {zero r:List Value} {ps:List (Nat×Nat×Value)} [h:pA zero ps r],G w0 L (au zero ps K)=G w0 L (K (.agg r.toArray))) ∧
  (∀{w0:bg} {L:List ax} {K:KV} {k:IntKind} {a b:Int},G w0 L (lU (.int k a) [.int k b] K)=G w0 L (K (.int k (if b > a then b else a)))) ∧
  (∀{w0:bg} {L:List ax} {K:KV} {k:IntKind} {a b:Int},G w0 L (iB (.int k a) [.int k b] K)=G w0 L (K (.int k (if b<a then b else a)))) ∧
  (∀{w0:bg} {L:List ax} {K:KV} {k:IntKind} {a b c:Int},G w0 L (iB (.int k a) [.int k b,.int k c] K)=G w0 L (K (.int k (if c<(if b<a then b else a) then c else (if b<a then b else a))))) ∧
  (∀{w0:bg} {L:List ax} {A B:World→Prop},G w0 L (ae (.bool true) A B)=G w0 L (A)) ∧
  (∀{w0:bg} {L:List ax} {A B:World→Prop},G w0 L (ae (.bool false) A B)=G w0 L (B)) ∧
  (∀{w0:bg} {L:List ax} {K:KV} {t:Bool} {A:KV→World→Prop},G w0 L (gW (.bool t) t A K)=G w0 L (A K)) ∧
  (∀{w0:bg} {L:List ax} {K:KV} {A:KV→World→Prop},G w0 L (gW (.bool true) false A K)=G w0 L (K undef)) ∧
  (∀{w0:bg} {L:List ax} {K:KV} {A:KV→World→Prop},G w0 L (gW (.bool false) true A K)=G w0 L (K undef)) ∧
  (∀{w0:bg} {L:List ax} {K:KV} {t:Bool} {A:KV→World→Prop},G w0 L (gW undef t A K)=G w0 L (K undef)) ∧
  (∀{w0:bg} {L:List ax} {K:KV} {t:Bool} {A:KV→World→Prop} {e:Value},G w0 L (dA (.bool t) t A e K)=G w0 L (A K)) ∧
  (∀{w0:bg} {L:List ax} {K:KV} {A:KV→World→Prop} {e:Value},G w0 L (dA (.bool true) false A e K)=G w0 L (K e)) ∧
  (∀{w0:bg} {L:List ax} {K:KV} {A:KV→World→Prop} {e:Value},G w0 L (dA (.bool false) true A e K)=G w0 L (K e)) ∧
  (∀{w0:bg} {L:List ax} {K:KV} {p q:Bool},G w0 L (dA (.bool p) true (fun K=>K (.bool q)) (.bool false) K)=G w0 L (K (.bool (p && q)))) ∧
  (∀{w0:bg} {L:List ax} {K:KV} {p q:Bool},G w0 L (dA (.bool p) false (fun K=>K (.bool q)) (.bool true) K)=G w0 L (K (.bool (p || q)))) ∧
  (∀{w0:bg} {L:List ax} {B:World→Prop},G w0 L (andP ac B)=G w0 L (B)) ∧
  (∀{w0:bg} {L:List ax} {A B:World→Prop},G w0 L (andP A B)=(G w0 L A∧G w0 L B)) ∧
  (∀{w0:bg} {L:List ax} {K:KV} {b j:Nat} {cs:List Value} {C:ax→List ax} [al L gI b cs C] {v:Value} [Jp cs j v],G w0 L (aa (ptr b j) K)=G w0 L (K v)) ∧
  (∀{w0:bg} {L:List ax} {K:KV} {b j n:Nat} {cs:List Value} {C:ax→List ax} [al L gI b cs C] {r:List Value} [jQ cs j n r],G w0 L (aj n (ptr b j) K)=G w0 L (K (.agg r.toArray))) ∧
  (∀{w0:bg} {L:List ax} {K:KV} {b j n:Nat} {cs:List Value} {C:ax→List ax} [al L gI b cs C] {v:Value} {vs r:List Value} [av v vs] [pt cs j vs r] [Er vs n],G w0 L (ag n (ptr b j) v K)=G w0 (C (own b r)) (K undef)) ∧
  (∀{w0:bg} {L:List ax},G w0 L ac=True) ∧
  (∀{w0:bg} {L:List ax} {v:Value},G w0 L (dd v v)=True) ∧
  (∀{α:Type} {E:jB α} {w0:bg} {L:List ax} {v:Value} {xs:List α} {K:KV} {sz:Nat} [Rd w0 L v E sz xs],G w0 L (ct v K)=G w0 L (K (i64 xs.length))) ∧
  (∀{α:Type} {E:jB α} {w0:bg} {L:List ax} {v:Value} {xs:List α} {K:KV} {sz k:Nat} {x:α} {kd:IntKind} {i:Int} [Rd w0 L v E sz xs] [iA i k] [eA xs k x],G w0 L (cg sz v (.int kd i) K)=G w0 L (K (ep v sz k 0))) ∧
  (∀{α:Type} {E:jB α} {w0:bg} {L:List ax} {v:Value} {xs:List α} {K:KV} {sz k j n:Nat} {x:α} {m:Nat} [Rd w0 L v E sz xs] [eA xs k x] [zK j n m],G w0 L (ad n (ep v sz k j) K)=G w0 L (K (ep v sz k m))) ∧
  (∀{α:Type} {E:jB α} {w0:bg} {L:List ax} {v:Value} {xs:List α} {K:KV} {sz k j:Nat} {x:α} [Rd w0 L v E sz xs] [eA xs k x],G w0 L (ah (ep v sz k j) K)=G w0 L (K (ep v sz k j))) ∧
  (∀{α:Type} {E:jB α} {w0:bg} {L:List ax} {v:Value} {xs:List α} {K:KV} {sz k j:Nat} {x:α} {u:Value} {cs:List Value} [Rd w0 L v E sz xs] [eA xs k x] [e9 E x cs] [Jp cs j u],G w0 L (aa (ep v sz k j) K)=G w0 L (K u)) ∧
  (∀{α:Type} {E:jB α} {w0:bg} {L:List ax} {v:Value} {xs:List α} {K:KV} {sz k j n:Nat} {x:α} {cs q:List Value} [Rd w0 L v E sz xs] [eA xs k x] [e9 E x cs] [jQ cs j n q],G w0 L (aj n (ep v sz k j) K)=G w0 L (K (.agg q.toArray))) ∧
  (∀{α:Type} {E:jB α} {w0:bg} {L:List ax} {v:Value} {xs:List α} {K:KV} {sz k j n:Nat} {x:α} {val:Value} {cs vs q:List Value} {x2:α} {C:ax→List ax} [Rd w0 L v E sz xs] [n8 L v E xs C] [eA xs k x] [e9 E x cs] [av val vs] [Er vs n] [pt cs j vs q] [fy E q x2],G w0 L (ag n (ep v sz k j) val K)=G w0 (C (S.sl E v (xs.set k x2))) (K undef)) :=
 ⟨@WB,@UW,@Wy,@Wt,@Tq,@TE,@V7,@VT,@Wb,@Wa,@Wg,@WF,@Ve,@VY,@Wf,@V8,@Wh,@U3,@V6,@VA,@Wr,@V9,@TL,@U0,@Wj,@V5,@Vy,@TO,@VC,@S7,@T0,@TZ,@U5,@TR,@P2,@TC,@Wi,@Ws,@Vl,@Ua,@T8,@WN,@WC,@We,@WR,@WU,@VR,@WD,@Vx,@VZ,@Vf,@Wq,@Vz,@Ts,@T5,@VL,@Wp,@Wl,@VU,@RW,@Sy,@PY,@NU,@N9⟩
theorem RP :
  (∀{K:KV} {b i:Nat},ah (ptr b i) K=K (ptr b i)) ∧
  (∀{K:KV} {f:FuncId} {x y:Array Value},ah (.func (.func f) x y) K=K (.func (.func f) x y)) ∧
  (∀{K:KV} {b i n m:Nat} [h:zK i n m],ad n (ptr b i) K=K (ptr b m)) ∧
  (∀{K:KV} {t:Bool},eW (.bool t) K=K (.bool (!t))) ∧
  (∀{K:KV} {x y:Value},ay (.bool true) x y K=K x) ∧
  (∀{K:KV} {x y:Value},ay (.bool false) x y K=K y) ∧
  (∀{K:KV} {k:IntKind} {a b:Int},ab .lss (.int k a) (.int k b) K=K (.bool (decide (a<b)))) ∧
  (∀{K:KV} {k:IntKind} {a b:Int},ab .leq (.int k a) (.int k b) K=K (.bool (decide (a≤b)))) ∧
  (∀{K:KV} {k:IntKind} {a b:Int},ab .gtr (.int k a) (.int k b) K=K (.bool (decide (b<a)))) ∧
  (∀{K:KV} {k:IntKind} {a b:Int},ab .geq (.int k a) (.int k b) K=K (.bool (decide (b≤a)))) ∧
  (∀{K:KV} {k:IntKind} {a b:Int},ab .eql (.int k a) (.int k b) K=K (.bool (decide (a=b)))) ∧
  (∀{K:KV} {k:IntKind} {a b:Int},ab .neq (.int k a) (.int k b) K=K (.bool (!decide (a=b)))) ∧
  (∀{K:KV} {k:IntKind} {a b:Int},ab .add (.int k a) (.int k b) K=K (.int k (k.wrap (a+b)))) ∧
  (∀{K:KV} {k:IntKind} {a b:Int},ab .sub (.int k a) (.int k b) K=K (.int k (k.wrap (a-b)))) ∧
  (∀{K:KV} {k:IntKind} {a b:Int},ab .mul (.int k a) (.int k b) K=K (.int k (k.wrap (a*b)))) ∧
  (∀{K:KV} {k:IntKind} {a b:Int} [h:gZ b],ab .quo (.int k a) (.int k b) K=K (.int k (k.wrap (a.tdiv b)))) ∧
  (∀{K:KV} {k:IntKind} {a b:Int} [h:gZ b],ab .rem (.int k a) (.int k b) K=K (.int k (a.tmod b))) ∧
  (∀{K:KV} {k:IntKind} {a b:Int},ab .and (.int k a) (.int k b) K=K (.int k (k.wrap (BitVec.ofInt k.bits a &&& BitVec.ofInt k.bits b).toNat))) ∧
  (∀{K:KV} {k:IntKind} {a b:Int},ab .or (.int k a) (.int k b) K=K (.int k (k.wrap (BitVec.ofInt k.bits a ||| BitVec.ofInt k.bits b).toNat))) ∧
  (∀{K:KV} {k:IntKind} {a b:Int},ab .xor (.int k a) (.int k b) K=K (.int k (k.wrap (BitVec.ofInt k.bits a ^^^ BitVec.ofInt k.bits b).toNat))) ∧
  (∀{K:KV} {k k2:IntKind} {a b:Int} [h:bw b],ab .shl (.int k a) (.int k2 b) K=K (.int k (k.wrap (a*2 ^ min b.toNat k.bits)))) ∧
  (∀{K:KV} {k k2:IntKind} {a b:Int} [h:bw b],ab .shr (.int k a) (.int k2 b) K=K (.int k (a.fdiv (2 ^ min b.toNat k.bits)))) ∧
  (∀{K:KV} {t:Nat} {x:Value},mI t x K=K (.iface t x)) ∧
  (∀{K:KV} {k k2:IntKind} {a:Int},fB k (.int k2 a) K=K (.int k (k.wrap a))) ∧
  (∀{K:KV} {a b:Bool},fb .eql (.bool a) (.bool b) K=K (.bool (a == b))) ∧
  (∀{K:KV} {a b:Bool},fb .neq (.bool a) (.bool b) K=K (.bool (!(a == b)))) ∧
  (∀{K:KV} {b i:Nat},dZ .eql (ptr b i) (.pointer none) K=K (.bool false)) ∧
  (∀{K:KV} {b i:Nat},dZ .neq (ptr b i) (.pointer none) K=K (.bool true)) ∧
  (∀{K:KV},dZ .eql (.pointer none) (.pointer none) K=K (.bool true)) ∧
  (∀{K:KV},dZ .neq (.pointer none) (.pointer none) K=K (.bool false)) ∧
  (∀{K:KV} {ks:List CK} {xs ys:List Value} {t:Bool} [h:vA ks xs ys t],iS ks .eql (.agg xs.toArray) (.agg ys.toArray) K=K (.bool t)) ∧
  (∀{K:KV} {ks:List CK} {xs ys:List Value} {t:Bool} [h:vA ks xs ys t],iS ks .neq (.agg xs.toArray) (.agg ys.toArray) K=K (.bool (!t))) ∧
  (∀{K:KV} {o n:Nat} {cs:List Value} {v:Value} [h:Jp cs o v],nT false o n (.agg cs.toArray) K=K v) ∧
  (∀{K:KV} {o n:Nat} {cs r:List Value} [h:jQ cs o n r],nT true o n (.agg cs.toArray) K=K (.agg r.toArray)) ∧
  (∀{K:KV} {i:Nat} {vs:List Value} {v:Value} [h:Jp vs i v],ak i (.tuple vs.toArray) K=K v) ∧
  (∀{K:KV} {zero r:List Value} {ps:List (Nat×Nat×Value)} [h:pA zero ps r],au zero ps K=K (.agg r.toArray)) ∧
  (∀{K:KV} {k:IntKind} {a b:Int},lU (.int k a) [.int k b] K=K (.int k (if b > a then b else a))) ∧
  (∀{K:KV} {k:IntKind} {a b:Int},iB (.int k a) [.int k b] K=K (.int k (if b<a then b else a))) ∧
  (∀{K:KV} {k:IntKind} {a b c:Int},iB (.int k a) [.int k b,.int k c] K=K (.int k (if c<(if b<a then b else a) then c else (if b<a then b else a)))) ∧
  (∀{A B:World→Prop},ae (.bool true) A B=A) ∧
  (∀{A B:World→Prop},ae (.bool false) A B=B) ∧
  (∀{K:KV} {t:Bool} {A:KV→World→Prop},gW (.bool t) t A K=A K) ∧
  (∀{K:KV} {A:KV→World→Prop},gW (.bool true) false A K=K undef) ∧
  (∀{K:KV} {A:KV→World→Prop},gW (.bool false) true A K=K undef) ∧
  (∀{K:KV} {t:Bool} {A:KV→World→Prop},gW undef t A K=K undef) ∧
  (∀{K:KV} {t:Bool} {A:KV→World→Prop} {e:Value},dA (.bool t) t A e K=A K) ∧
  (∀{K:KV} {A:KV→World→Prop} {e:Value},dA (.bool true) false A e K=K e) ∧
  (∀{K:KV} {A:KV→World→Prop} {e:Value},dA (.bool false) true A e K=K e) ∧
  (∀{K:KV} {p q:Bool},dA (.bool p) true (fun K=>K (.bool q)) (.bool false) K=K (.bool (p && q))) ∧
  (∀{K:KV} {p q:Bool},dA (.bool p) false (fun K=>K (.bool q)) (.bool true) K=K (.bool (p || q))) :=
 ⟨@Um,@Su,@Up,@UL,@Pd,@OB,@Ug,@UH,@Uj,@Ui,@UC,@UF,@Rq,@UG,@Un,@UK,@Uw,@Rk,@Ul,@SX,@UA,@Uu,@OJ,@R1,@UD,@UJ,@SG,@OE,@Sx,@OV,@OO,@O9,@RZ,@Ph,@I2,@O1,@Ud,@Ur,@Rx,@OP,@Pv,@Wm,@Uv,@UN,@V3,@VS,@UM,@Ut,@SC,@Uo⟩
section
variable {α:Type}{E:jB α}{w0:bg}{L:List ax}{v:Value}{xs:List α}{K:KV}{sz n bytes:Nat}{zero:List Value}{C:ax→List ax}
theorem bf {a:Option Addr}{n c:Nat}:av (.slice a n c) [.slice a n c]:=inferInstance
theorem G.nilsl {F:World→Prop}(E:jB α)(h:G w0 (sl E (.slice none 0 0) []::L) F):G w0 L F:=fun w H=>h w H.sl_nil
theorem G.isNil [r:Rd w0 L v E sz xs](h:∀t,(t=true→xs=[])→G w0 L (K (.bool t))):G w0 L (dS .eql v (.slice none 0 0) K):=fun w H=>by
 obtain⟨oa,cap,rfl,h1,_⟩:=r.rd w H
 cases oa with
 | none=>exact h true (fun _=>(h1 rfl).1) w H
 | some a=>exact h false (by simp) w H
theorem G.make2 {l c:Nat}(E:jB α)(z:α)(hz:E.enc z=zero)(hl:l≤c)(hc:c≤maxLen)(hb:bytes*c≤140737488355328)(h:∀v,av v [v]→G w0 (sl E v (List.replicate l z)::L) (K v)) :
  G w0 L (dw bytes zero (i64 l) (i64 c) K):=fun w H=>by
 refine⟨by omega,by omega,by omega,by omega,fun T=>?_⟩
 have e:pz c zero=(List.replicate l z).flatMap E.enc++pz (c-l) zero:=by
  have:∀m,pz m zero=(List.replicate m z).flatMap E.enc:=fun m=>by
   induction m with
   | zero=>simp [pz]
   | succ m ih=>unfold pz at *;simp [List.replicate_succ,List.flatMap_cons,ih,hz]
  rw [this,this,←List.flatMap_append,List.replicate_append_replicate,Nat.add_sub_cancel' hl]
 have H2:=H.alloc (pz c zero) T
 rw [e] at H2
 have hzl:zero.length=E.sz:=by rw [←hz,E.len]
 have:=H2.sl_mk (E:=E) (cap:=c) (by simpa using hl) (by
  have:∀m,(pz m zero).length=m*E.sz:=fun m=>by
   induction m with
   | zero=>simp [pz]
   | succ m ih=>unfold pz at *;simp only [List.replicate_succ,List.flatten_cons,List.length_append,ih,hzl,Nat.add_mul];omega
  simp [this])
 have h2:=h _ bf _ this
 rw [←e] at h2
 simpa using h2
theorem G.make (E:jB α)(z:α)(hz:E.enc z=zero)(hc:n≤maxLen)(hb:bytes*n≤140737488355328)(h:∀v,av v [v]→G w0 (sl E v (List.replicate n z)::L) (K v)) :
  G w0 L (dw bytes zero (i64 n) (i64 n) K):=G.make2 E z hz (Nat.le_refl n) hc hb h
theorem G.build {ps:List (Nat×Nat×Value)}(E:jB α)(xs:List α)(hn:xs.length=n)(hz:n*zero.length≤16777216)(hb:qU (pz n zero) ps=some (xs.flatMap E.enc))(h:∀v,av v [v]→G w0 (sl E v xs::L) (K v)) :
  G w0 L (ap zero n ps K):=fun w H=>by
 refine⟨hz,?_⟩
 rw [hb]
 intro T
 have H2:=H.alloc (xs.flatMap E.enc) T
 have:=St.sl_mk (E:=E) (xs:=xs) (rest:=[]) (cap:=n) (by simpa using H2) (by omega) (by simp [hn])
 have h2:=h _ bf _ this
 rw [hn] at h2
 exact h2
theorem fc.src {w:World}(h:fc E w v xs)(hx:0<xs.length):qM E.sz v w=some (xs.length,xs.flatMap E.enc):=by
 obtain⟨oa,cap,rfl,h1,h2⟩:=h
 have hl:xs[xs.length-1]? = some xs[xs.length-1]:=List.getElem?_eq_getElem (by omega)
 obtain⟨e,o,cs,rfl,g2,g3,_⟩:=h2 _ _ hl
 rw [show xs.length-1+1=xs.length by omega] at g3
 simp only [qM,show ¬xs.length=0 by omega,if_false,g2,g3,if_true,Option.some.injEq,Prod.mk.injEq,true_and]
 have key:∀(ys:List α) (m:Nat),(∀i x,ys[i]? = some x→(cs.drop (m+i*E.sz)).take E.sz=E.enc x)→m+ys.length*E.sz≤cs.length→(cs.drop m).take (ys.length*E.sz)=ys.flatMap E.enc:=by
  intro ys
  induction ys with
  | nil=>intro m _ _;simp
  | cons y ys ih =>
   intro m hy hm
   simp only [List.length_cons,Nat.add_mul,Nat.one_mul] at hm ⊢
   have h0:=hy 0 y (by simp)
   simp only [Nat.zero_mul,Nat.add_zero] at h0
   have:=ih (m+E.sz) (fun i x hx=>by have:=hy (i+1) x (by simpa using hx);rwa [Nat.add_mul,Nat.one_mul,Nat.add_comm (i*E.sz),←Nat.add_assoc] at this) (by omega)
   rw [List.flatMap_cons,←h0,←this,←List.drop_drop,Nat.add_comm (ys.length*E.sz),List.take_add]
 exact key xs o (fun i x hx=>by
  obtain⟨e',o',cs',k1,k2,_,k4⟩:=h2 i x hx
  simp only [Option.some.injEq,Addr.mk.injEq,and_true] at k1
  obtain⟨rfl,rfl⟩:=k1
  rw [g2] at k2
  cases k2
  exact k4) g3
theorem fc.src' {w:World}(h:fc E w v xs):qM E.sz v w=some (xs.length,xs.flatMap E.enc):=by
 rcases Nat.eq_zero_or_pos xs.length with h0 | h0
 ·have hx:xs=[]:=List.eq_nil_of_length_eq_zero h0
  subst hx
  obtain⟨oa,cap,rfl,h1,h2⟩:=h
  cases oa <;> simp [qM]
 ·exact h.src h0
theorem Tl (a r vs:List Value)(h:vs.length≤r.length):DA (a++r) a.length vs=a++vs++r.drop vs.length:=by
 have:=Jl vs a r 0 (by omega)
 rw [Nat.add_zero] at this
 rw [this,p8 _ _ _ (by omega)]
 simp
theorem G.append {x:Value}{ys:List α}[r:Rd w0 L x E sz ys][s:n8 L v E xs C](h1:(xs.length+ys.length)*bytes≤140737488355328)(h2:xs.length+ys.length≤maxLen)(h:∀u,av u [u]→G w0 (C (sl E u (xs++ys))) (K u)) :
  G w0 L (bv sz bytes v x K):=fun w H=>by
 obtain⟨M,e1,e2⟩:=oD (w0:=w0) s.sel
 have hsrc:=(r.rd w H).src'
 rw [r.sz] at hsrc
 have H1:=(e1 w).1 H
 have hfin:∀{c cap:Nat} {rest:List Value} {w':World},St w0 (own c ((xs++ys).flatMap E.enc++rest)::M) w'→xs.length+ys.length≤cap→rest.length=(cap-(xs.length+ys.length))*sz→K (.slice (some ⟨c,0,none⟩) (xs.length+ys.length) cap) w':=by
  intro c cap rest w' g1 g2 g3
  have:=g1.sl_mk (E:=E) (cap:=cap) (by simpa using g2) (by rw [r.sz];simpa using g3)
  have h3:=h _ bf _ ((e2 _ _).2 this)
  simpa using h3
 rcases H1.sl_cases with ⟨rfl,rfl,H2⟩ | ⟨c,cap,rest,rfl,g2,g3,H2⟩
 ·simp only [bv,hsrc]
  simp only [List.length_nil,Nat.zero_add,List.nil_append] at h1 h2 hfin h
  refine⟨trivial,trivial,h1,h2,fun h0=>?_,fun h0 c rest T k1 k2 k3=>?_⟩
  ·have hy:ys=[]:=List.eq_nil_of_length_eq_zero h0
   subst hy
   exact h _ bf _ ((e2 _ _).2 H2.sl_nil)
  ·exact hfin (H2.drew.alloc _ T) k1 k3
 ·have hm:=H2.own_mem
  simp only [bv,hsrc,hm.2.1]
  have hfl:(xs.flatMap E.enc).length=xs.length*sz:=by rw [jb,r.sz]
  have hfy:(ys.flatMap E.enc).length=ys.length*sz:=by rw [jb,r.sz]
  rw [r.sz] at g3
  have hc:cap*sz=xs.length*sz+(cap-xs.length)*sz:=by rw [←Nat.add_mul];congr 1;omega
  refine⟨by simp only [List.length_append,hfl,g3];omega,g2,h1,h2,fun k1=>⟨.inr hm.2.2,QZ E ys,?_⟩,fun k1 c' rest' T k2 k3 k4=>?_⟩
  ·have hle:ys.length*sz≤(cap-xs.length)*sz:=Nat.mul_le_mul_right _ (by omega)
   have:=H2.own_put (cs':=(xs++ys).flatMap E.enc++rest.drop (ys.length*sz))
   have e:DA (xs.flatMap E.enc++rest) (0+xs.length*sz) (ys.flatMap E.enc)=(xs++ys).flatMap E.enc++rest.drop (ys.length*sz):=by
    rw [Nat.zero_add,←hfl,Tl _ _ _ (by omega),List.flatMap_append,hfy]
   rw [e]
   refine hfin this k1 ?_
   rw [List.length_drop,g3,←Nat.sub_mul];congr 1;omega
  ·have e:(((xs.flatMap E.enc++rest).drop 0).take (xs.length*sz)++ys.flatMap E.enc++rest')=(xs++ys).flatMap E.enc++rest':=by
    rw [List.drop_zero,←hfl,List.take_left,List.flatMap_append]
   rw [e]
   exact hfin (H2.drop.drew.alloc _ T) k2 k4
theorem G.append1 {val:Value}{cs:List Value}{a:α}[s:n8 L v E xs C][c:av val cs][d:fy E cs a](hz:zero.length=E.sz)(hs:E.sz=sz)(hs2:E.sz≤16777216)(h1:(xs.length+1)*bytes≤140737488355328)(h2:xs.length+1≤maxLen)
  (h:∀u,av u [u]→G w0 (C (sl E u (xs++[a]))) (K u)):G w0 L (ap zero 1 [(0,sz,val)] (fun y w=>bv sz bytes v y K w)):=by
 have he:E.enc a=cs:=E.dec_ok _ _ d.eq
 have hl:=E.len a
 subst hs
 refine G.build E [a] rfl (by omega) ?_ fun y _=>?_
 ·have hsz:val.cells.size=E.sz:=by rw [←hl,he,←c.eq];simp
  simp only [qU,hsz,pz,List.replicate_one,List.flatten_singleton,hz,Nat.zero_add,Nat.le_refl,and_self,if_true,List.flatMap_cons,List.flatMap_nil,List.append_nil,he,c.eq]
  rw [p8 _ _ _ (by rw [←he,hl,hz];omega)]
  have:zero.drop cs.length=[]:=List.drop_eq_nil_of_le (by rw [hz,←he,hl];exact Nat.le_refl _)
  simp [this]
 ·refine G.append (ys:=[a]) (C:=fun A=>S.sl E y [a]::C A) h1 h2 fun u hu=>(h u hu).drop
theorem G.take {m:Nat}[s:n8 L v E xs C](hm:m≤xs.length)(h:∀u,av u [u]→G w0 (C (sl E u (xs.take m))) (K u)):G w0 L (fO sz v none (some (i64 m)) K):=fun w H=>by
 obtain⟨M,e1,e2⟩:=oD (w0:=w0) s.sel
 rcases((e1 w).1 H).sl_cases with ⟨rfl,rfl,H2⟩ | ⟨c,cap,rest,rfl,g2,g3,H2⟩
 ·simp at hm;subst hm
  have:=h _ bf _ ((e2 _ _).2 H2.sl_nil)
  simpa [fO,Ck] using this
 ·have hk:xs.flatMap E.enc=(xs.take m).flatMap E.enc++(xs.drop m).flatMap E.enc:=by rw [←List.flatMap_append,List.take_append_drop]
  have H3:=H2
  rw [hk,List.append_assoc] at H3
  have:=H3.sl_mk (E:=E) (xs:=xs.take m) (cap:=cap) (by simp;omega) (by
   simp only [List.length_append,jb,g3,List.length_drop,List.length_take]
   rw [←Nat.add_mul];congr 1;omega)
  have h2:=h _ bf _ ((e2 _ _).2 this)
  have e:(xs.take m).length=m:=by simp;omega
  rw [e] at h2
  simp only [fO,Ck,Int.le_refl,true_and]
  refine⟨by omega,by omega,?_⟩
  have:(if cap=0 then some (⟨c,0,none⟩:Addr) else some (⟨c,0,none⟩:Addr))=some ⟨c,0,none⟩:=by split <;> rfl
  have hmc:m≤cap:=by omega
  simpa [nF,hmc] using h2
end
theorem an {a b:Prop}(x:a)(y:b):a∧b:=⟨x,y⟩
theorem gg {A B:Prop}(h:B)(f:B→A:=by intro h;repeat' (first | (with_reducible refine G.joini0 ?_) | (with_reducible refine G.joini1 ?_) | (with_reducible refine G.drew ?_) | (simp (maxSteps:=2000000) only [↓RG,RP,RB,BEq.rfl,Int.reduceEq,Int.reduceLT,Int.reduceLE,Nat.reduceEqDiff]));exact h):A:=f h
theorem gf {P A B:Prop}(p:P)(h:B)(f:P→B→A:=by intro p h;repeat' (first | (with_reducible refine G.joini0 ?_) | (with_reducible refine G.joini1 ?_) | (with_reducible refine G.drew ?_) | (simp (maxSteps:=2000000) only [↓RG,RP,RB,BEq.rfl,Int.reduceEq,Int.reduceLT,Int.reduceLE,Nat.reduceEqDiff,p]));exact h):A:=f p h
theorem gr {A B:Prop}(h:B)(f:B→A:=by intro h;(try simp (maxSteps:=2000000) only [↓RG,RP,RB,BEq.rfl,Int.reduceEq,Int.reduceLT,Int.reduceLE,Nat.reduceEqDiff]);exact h):A:=f h
theorem gu {A B:Prop}(h:B)(f:B→A:=by intro h;(try simp (maxSteps:=2000000) only [lh,pO,jw,js,pu,iO]);exact h):A:=f h
theorem dN {P A B:Prop}(p:P)(h:B)(f:P→B→A:=by intro p h;(try simp (maxSteps:=2000000) only [↓RG,RP,RB,BEq.rfl,Int.reduceEq,Int.reduceLT,Int.reduceLE,Nat.reduceEqDiff,p]);exact h):A:=f p h
theorem g0 {A B:Prop}(h:B)(f:B→A:=by intro h;repeat' (first | (with_reducible refine G.joini0 ?_) | (with_reducible refine G.joini1 ?_) | (with_reducible refine G.drew ?_) | (simp (maxSteps:=2000000) only [↓RG,RB,BEq.rfl,Int.reduceEq,Int.reduceLT,Int.reduceLE,Nat.reduceEqDiff]));exact h):A:=f h
theorem gz {A B:Prop}(h:B)(f:B→A:=by intro h;(try simp (maxSteps:=2000000) only [↓RG,RB,BEq.rfl,Int.reduceEq,Int.reduceLT,Int.reduceLE,Nat.reduceEqDiff]);exact h):A:=f h
theorem UZ {P A B:Prop}(p:P)(h:B)(f:P→B→A:=by intro p h;(try simp (maxSteps:=2000000) only [↓RG,RB,BEq.rfl,Int.reduceEq,Int.reduceLT,Int.reduceLE,Nat.reduceEqDiff,p]);exact h):A:=f p h
end Go.Proofs.YtoealglbimbbmaaGreatDoor.S
