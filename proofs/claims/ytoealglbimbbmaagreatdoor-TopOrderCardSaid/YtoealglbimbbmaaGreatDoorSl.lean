import Derived.Test.YtoealglbimbbmaaGreatDoorG
namespace Go.Proofs.YtoealglbimbbmaaGreatDoor.S
open Go Go.Proofs
set_option linter.unusedVariables false
set_option linter.unusedSimpArgs false
structure jS (α:Type) where
 sz:Nat
 enc:α→List Value
 dec:List Value→Option α
 pos:0<sz
 len:∀a,(enc a).length=sz
 ones:∀a,∀u∈enc a,one u=true
 dec_ok:∀cs a,dec cs=some a→enc a=cs
class fx {α:Type}(E:jS α)(a:α)(cs:outParam (List Value)):Prop where
 eq:E.enc a=cs
class gx {α:Type}(E:jS α)(cs:List Value)(a:outParam α):Prop where
 eq:E.dec cs=some a
class eU {α:Type}(xs:List α)(k:Nat)(x:outParam α):Prop where
 eq:xs[k]? = some x
instance eU.z {α:Type}{a:α}{l:List α}:eU (a::l) 0 a:=⟨rfl⟩
instance eU.s {α:Type}{a b:α}{l:List α}{n:Nat}[h:eU l n a]:eU (b::l) (n+1) a:=⟨by simpa using h.eq⟩
class ij (i:Int)(k:outParam Nat):Prop where
 eq:i=(k:Int)
instance {k:Nat}:ij (k:Int) k:=⟨rfl⟩
instance:ij 0 0:=⟨rfl⟩
instance:ij 1 1:=⟨rfl⟩
instance:ij 2 2:=⟨rfl⟩
instance:ij 3 3:=⟨rfl⟩
instance:ij 4 4:=⟨rfl⟩
instance:ij 5 5:=⟨rfl⟩
instance:ij 6 6:=⟨rfl⟩
instance:ij 7 7:=⟨rfl⟩
instance:ij 8 8:=⟨rfl⟩
instance:ij 9 9:=⟨rfl⟩
instance:ij 10 10:=⟨rfl⟩
instance:ij 11 11:=⟨rfl⟩
instance:ij 12 12:=⟨rfl⟩
instance:ij 13 13:=⟨rfl⟩
instance:ij 14 14:=⟨rfl⟩
instance:ij 15 15:=⟨rfl⟩
instance:ij 16 16:=⟨rfl⟩
instance:ij 17 17:=⟨rfl⟩
instance:ij 18 18:=⟨rfl⟩
instance:ij 19 19:=⟨rfl⟩
instance:ij 20 20:=⟨rfl⟩
instance:ij 21 21:=⟨rfl⟩
instance:ij 22 22:=⟨rfl⟩
instance:ij 23 23:=⟨rfl⟩
instance:ij 24 24:=⟨rfl⟩
instance:ij 25 25:=⟨rfl⟩
instance:ij 26 26:=⟨rfl⟩
instance:ij 27 27:=⟨rfl⟩
instance:ij 28 28:=⟨rfl⟩
instance:ij 29 29:=⟨rfl⟩
instance:ij 30 30:=⟨rfl⟩
instance:ij 31 31:=⟨rfl⟩
instance:ij 32 32:=⟨rfl⟩
instance:ij 33 33:=⟨rfl⟩
instance:ij 34 34:=⟨rfl⟩
instance:ij 35 35:=⟨rfl⟩
instance:ij 36 36:=⟨rfl⟩
instance:ij 37 37:=⟨rfl⟩
instance:ij 38 38:=⟨rfl⟩
instance:ij 39 39:=⟨rfl⟩
instance:ij 40 40:=⟨rfl⟩
instance:ij 41 41:=⟨rfl⟩
instance:ij 42 42:=⟨rfl⟩
instance:ij 43 43:=⟨rfl⟩
instance:ij 44 44:=⟨rfl⟩
instance:ij 45 45:=⟨rfl⟩
instance:ij 46 46:=⟨rfl⟩
instance:ij 47 47:=⟨rfl⟩
instance:ij 48 48:=⟨rfl⟩
instance:ij 49 49:=⟨rfl⟩
instance:ij 50 50:=⟨rfl⟩
instance:ij 51 51:=⟨rfl⟩
instance:ij 52 52:=⟨rfl⟩
instance:ij 53 53:=⟨rfl⟩
instance:ij 54 54:=⟨rfl⟩
instance:ij 55 55:=⟨rfl⟩
instance:ij 56 56:=⟨rfl⟩
instance:ij 57 57:=⟨rfl⟩
instance:ij 58 58:=⟨rfl⟩
instance:ij 59 59:=⟨rfl⟩
instance:ij 60 60:=⟨rfl⟩
instance:ij 61 61:=⟨rfl⟩
instance:ij 62 62:=⟨rfl⟩
instance:ij 63 63:=⟨rfl⟩
instance:ij 64 64:=⟨rfl⟩
class zh (i n:Nat)(m:outParam Nat):Prop where
 eq:i+n=m
instance (priority:=1200){n:Nat}:zh 0 n n:=⟨Nat.zero_add n⟩
instance (priority:=1100){i:Nat}:zh i 0 i:=⟨rfl⟩
instance {i n:Nat}:zh i n (i+n):=⟨rfl⟩
class iG (b:Int):Prop where
 ne:b≠0
class bl (b:Int):Prop where
 le:0≤b
instance {k:Nat}:bl (k:Int):=⟨by omega⟩
instance:bl 0:=⟨by decide⟩
instance:bl 1:=⟨by decide⟩
instance:bl 2:=⟨by decide⟩
instance:bl 3:=⟨by decide⟩
instance:bl 4:=⟨by decide⟩
instance:bl 5:=⟨by decide⟩
instance:bl 6:=⟨by decide⟩
instance:bl 7:=⟨by decide⟩
instance:bl 8:=⟨by decide⟩
instance:bl 9:=⟨by decide⟩
instance:bl 10:=⟨by decide⟩
instance:bl 11:=⟨by decide⟩
instance:bl 12:=⟨by decide⟩
instance:bl 13:=⟨by decide⟩
instance:bl 14:=⟨by decide⟩
instance:bl 15:=⟨by decide⟩
instance:bl 16:=⟨by decide⟩
instance:bl 17:=⟨by decide⟩
instance:bl 18:=⟨by decide⟩
instance:bl 19:=⟨by decide⟩
instance:bl 20:=⟨by decide⟩
instance:bl 21:=⟨by decide⟩
instance:bl 22:=⟨by decide⟩
instance:bl 23:=⟨by decide⟩
instance:bl 24:=⟨by decide⟩
instance:bl 25:=⟨by decide⟩
instance:bl 26:=⟨by decide⟩
instance:bl 27:=⟨by decide⟩
instance:bl 28:=⟨by decide⟩
instance:bl 29:=⟨by decide⟩
instance:bl 30:=⟨by decide⟩
instance:bl 31:=⟨by decide⟩
instance:bl 32:=⟨by decide⟩
instance:bl 33:=⟨by decide⟩
instance:bl 34:=⟨by decide⟩
instance:bl 35:=⟨by decide⟩
instance:bl 36:=⟨by decide⟩
instance:bl 37:=⟨by decide⟩
instance:bl 38:=⟨by decide⟩
instance:bl 39:=⟨by decide⟩
instance:bl 40:=⟨by decide⟩
instance:bl 41:=⟨by decide⟩
instance:bl 42:=⟨by decide⟩
instance:bl 43:=⟨by decide⟩
instance:bl 44:=⟨by decide⟩
instance:bl 45:=⟨by decide⟩
instance:bl 46:=⟨by decide⟩
instance:bl 47:=⟨by decide⟩
instance:bl 48:=⟨by decide⟩
instance:bl 49:=⟨by decide⟩
instance:bl 50:=⟨by decide⟩
instance:bl 51:=⟨by decide⟩
instance:bl 52:=⟨by decide⟩
instance:bl 53:=⟨by decide⟩
instance:bl 54:=⟨by decide⟩
instance:bl 55:=⟨by decide⟩
instance:bl 56:=⟨by decide⟩
instance:bl 57:=⟨by decide⟩
instance:bl 58:=⟨by decide⟩
instance:bl 59:=⟨by decide⟩
instance:bl 60:=⟨by decide⟩
instance:bl 61:=⟨by decide⟩
instance:bl 62:=⟨by decide⟩
instance:bl 63:=⟨by decide⟩
instance:bl 64:=⟨by decide⟩
instance:iG 1:=⟨by decide⟩
instance:iG 2:=⟨by decide⟩
instance:iG 3:=⟨by decide⟩
instance:iG 4:=⟨by decide⟩
instance:iG 5:=⟨by decide⟩
instance:iG 6:=⟨by decide⟩
instance:iG 7:=⟨by decide⟩
instance:iG 8:=⟨by decide⟩
instance:iG 9:=⟨by decide⟩
instance:iG 10:=⟨by decide⟩
instance:iG 11:=⟨by decide⟩
instance:iG 12:=⟨by decide⟩
instance:iG 13:=⟨by decide⟩
instance:iG 14:=⟨by decide⟩
instance:iG 15:=⟨by decide⟩
instance:iG 16:=⟨by decide⟩
instance:iG 17:=⟨by decide⟩
instance:iG 18:=⟨by decide⟩
instance:iG 19:=⟨by decide⟩
instance:iG 20:=⟨by decide⟩
instance:iG 21:=⟨by decide⟩
instance:iG 22:=⟨by decide⟩
instance:iG 23:=⟨by decide⟩
instance:iG 24:=⟨by decide⟩
instance:iG 25:=⟨by decide⟩
instance:iG 26:=⟨by decide⟩
instance:iG 27:=⟨by decide⟩
instance:iG 28:=⟨by decide⟩
instance:iG 29:=⟨by decide⟩
instance:iG 30:=⟨by decide⟩
instance:iG 31:=⟨by decide⟩
instance:iG 32:=⟨by decide⟩
instance:iG 33:=⟨by decide⟩
instance:iG 34:=⟨by decide⟩
instance:iG 35:=⟨by decide⟩
instance:iG 36:=⟨by decide⟩
instance:iG 37:=⟨by decide⟩
instance:iG 38:=⟨by decide⟩
instance:iG 39:=⟨by decide⟩
instance:iG 40:=⟨by decide⟩
instance:iG 41:=⟨by decide⟩
instance:iG 42:=⟨by decide⟩
instance:iG 43:=⟨by decide⟩
instance:iG 44:=⟨by decide⟩
instance:iG 45:=⟨by decide⟩
instance:iG 46:=⟨by decide⟩
instance:iG 47:=⟨by decide⟩
instance:iG 48:=⟨by decide⟩
instance:iG 49:=⟨by decide⟩
instance:iG 50:=⟨by decide⟩
instance:iG 51:=⟨by decide⟩
instance:iG 52:=⟨by decide⟩
instance:iG 53:=⟨by decide⟩
instance:iG 54:=⟨by decide⟩
instance:iG 55:=⟨by decide⟩
instance:iG 56:=⟨by decide⟩
instance:iG 57:=⟨by decide⟩
instance:iG 58:=⟨by decide⟩
instance:iG 59:=⟨by decide⟩
instance:iG 60:=⟨by decide⟩
instance:iG 61:=⟨by decide⟩
instance:iG 62:=⟨by decide⟩
instance:iG 63:=⟨by decide⟩
instance:iG 64:=⟨by decide⟩
instance:iG 256:=⟨by decide⟩
instance:iG 255:=⟨by decide⟩
class uX (ks:List CK)(xs ys:List Value)(t:outParam Bool):Prop where
 f1:gO ks xs
 f2:gO ks ys
 eq:fo xs ys=t
instance uX.i1 {k:IntKind}{a b:Int}:uX [.i k] [.int k a] [.int k b] (decide (a=b)):=⟨⟨rfl,trivial⟩,⟨rfl,trivial⟩,by simp [fo];rfl⟩
instance uX.b1 {a b:Bool}:uX [.b] [.bool a] [.bool b] (a == b):=⟨trivial,trivial,by simp [fo]⟩
instance (priority:=500) uX.i {ks:List CK}{xs ys:List Value}{t:Bool}{k:IntKind}{a b:Int}[h:uX ks xs ys t]:uX (.i k::ks) (.int k a::xs) (.int k b::ys) (decide (a=b) && t):=⟨⟨rfl,h.f1⟩,⟨rfl,h.f2⟩,by simp [fo,h.eq];rfl⟩
instance (priority:=500) uX.b {ks:List CK}{xs ys:List Value}{t a b:Bool}[h:uX ks xs ys t]:uX (.b::ks) (.bool a::xs) (.bool b::ys) ((a == b) && t):=⟨h.f1,h.f2,by simp [fo,h.eq]⟩
class pW (zero:List Value)(ps:List (Nat×Nat×Value))(r:outParam (List Value)):Prop where
 eq:qG zero ps=some r
instance pW.nil {z:List Value}:pW z [] z:=⟨rfl⟩
instance pW.cons {z vs z' r:List Value}{o n:Nat}{v:Value}{ps:List (Nat×Nat×Value)}[hv:ar v vs][hl:Dg vs n][hs:rt z o vs z'][h:pW z' ps r]:pW z ((o,n,v)::ps) r:=⟨by
 have h1:v.cells.size=n:=by rw [←hl.eq,←hv.eq];simp
 have h2:=hs.le
 rw [hl.eq] at h2
 simp only [qG,h1,h2,and_self,if_true,hv.eq,hs.eq]
 exact h.eq⟩
section
variable {α:Type}(E:jS α)
theorem jC (xs:List α):(xs.flatMap E.enc).length=xs.length*E.sz:=by
 induction xs with
 | nil=>simp
 | cons x xs ih=>simp [ih,E.len,Nat.add_mul];omega
theorem sN (rest:List Value):∀(xs:List α)(i:Nat)(x:α),xs[i]? = some x→((xs.flatMap E.enc++rest).drop (i*E.sz)).take E.sz=E.enc x
 | [],i,x,h=>by simp at h
 | y::xs,0,x,h=>by
  simp at h;subst h
  have:=E.len y
  simp [List.flatMap_cons,List.append_assoc,←this]
 | y::xs,i+1,x,h=>by
  have:=E.len y
  rw [List.flatMap_cons,List.append_assoc,show (i+1)*E.sz=(E.enc y).length+i*E.sz by rw [this,Nat.add_mul];omega,List.drop_append,List.drop_eq_nil_of_le (by omega),List.nil_append,Nat.add_sub_cancel_left]
  exact sN rest xs i x (by simpa using h)
theorem Qj:∀(vs a b:List Value)(j:Nat),j+vs.length≤a.length→Cq (a++b) j vs=Cq a j vs++b:=fun vs a b j h=>by
 rw [q8 _ _ _ (by simp;omega),q8 _ _ _ h]
 rw [List.take_append_of_le_length (by omega),List.drop_append_of_le_length h]
 simp
theorem Hu (vs a b:List Value)(j:Nat)(h:j+vs.length≤b.length):Cq (a++b) (a.length+j) vs=a++Cq b j vs:=by
 rw [q8 _ _ _ (by simp;omega),q8 _ _ _ h]
 rw [show a.length+j+vs.length=a.length+(j+vs.length) by omega,List.take_append,List.drop_append,List.take_of_length_le (by omega),List.drop_eq_nil_of_le (by omega),Nat.add_sub_cancel_left,Nat.add_sub_cancel_left]
 simp
theorem FB (rest:List Value)(vs:List Value)(j:Nat)(a':α):∀(xs:List α)(i:Nat)(a:α),xs[i]? = some a→j+vs.length≤E.sz→E.enc a'=Cq (E.enc a) j vs →
  Cq (xs.flatMap E.enc++rest) (i*E.sz+j) vs=(xs.set i a').flatMap E.enc++rest
 | [],i,a,h,_,_=>by simp at h
 | y::xs,0,a,h,hj,he=>by
  simp at h;subst h
  have:=E.len y
  simp only [List.flatMap_cons,List.append_assoc,Nat.zero_mul,Nat.zero_add,List.set_cons_zero]
  rw [Qj _ _ _ _ (by omega),he]
 | y::xs,i+1,a,h,hj,he=>by
  have:=E.len y
  have hlt:i<xs.length:=by
   rcases Nat.lt_or_ge i xs.length with h1 | h1
   ·exact h1
   ·simp [List.getElem?_eq_none h1] at h
  have hle:(i+1)*E.sz≤xs.length*E.sz:=Nat.mul_le_mul_right _ hlt
  simp only [List.flatMap_cons,List.append_assoc,List.set_cons_succ]
  rw [show (i+1)*E.sz+j=(E.enc y).length+(i*E.sz+j) by rw [this,Nat.add_mul];omega,Hu _ _ _ _ (by simp only [List.length_append,jC];rw [Nat.add_mul] at hle;omega)]
  rw [FB rest vs j a' xs i a (by simpa using h) hj he]
theorem Ny (xs:List α):∀u∈xs.flatMap E.enc,one u=true:=fun u hu=>by
 obtain⟨x,_,h⟩:=List.mem_flatMap.1 hu
 exact E.ones x u h
def fy (w:World)(v:Value)(xs:List α):Prop :=
 ∃oa cap,v=.slice oa xs.length cap∧(oa=none→xs=[]∧cap=0)∧∀i x,xs[i]? = some x→∃e o cs,oa=some ⟨e,o,none⟩∧mem w e=some cs∧o+(i+1)*E.sz≤cs.length∧(cs.drop (o+i*E.sz)).take E.sz=E.enc x
def P7 (v:Value)(xs:List α):ay:=fun h=>(v=.slice none 0 0∧xs=[]∧LF h) ∨
 ∃c cap rest,v=.slice (some ⟨c,0,none⟩) xs.length cap∧xs.length≤cap∧rest.length=(cap-xs.length)*E.sz∧og c (xs.flatMap E.enc++rest) h
end
abbrev sl {α:Type}(E:jS α)(v:Value)(xs:List α):ay:=ob (P7 E) v xs
section
variable {α:Type}{E:jS α}{w0:bh}{L:List ay}{v:Value}{xs:List α}{w:World}
theorem St.sl_cases (H:St w0 (sl E v xs::L) w):(v=.slice none 0 0∧xs=[]∧St w0 L w) ∨
  ∃c cap rest,v=.slice (some ⟨c,0,none⟩) xs.length cap∧xs.length≤cap∧rest.length=(cap-xs.length)*E.sz∧St w0 (own c (xs.flatMap E.enc++rest)::L) w:=by
 obtain⟨h,⟨a,b,ha,hb,j⟩,hd⟩:=id H
 rw [show sl E v xs=P7 E v xs from eZ _ _ _] at ha
 rcases ha with ⟨h1,h2,h3⟩ | ⟨c,cap,rest,h1,h2,h3,h4⟩
 ·exact .inl ⟨h1,h2,H.drop⟩
 ·exact .inr ⟨c,cap,rest,h1,h2,h3,h,⟨a,b,by rw [show own c (xs.flatMap E.enc++rest)=og c _ from eZ _ _ _];exact h4,hb,j⟩,hd⟩
theorem St.sl_mk {c cap:Nat}{rest:List Value}(H:St w0 (own c (xs.flatMap E.enc++rest)::L) w)(h2:xs.length≤cap)(h3:rest.length=(cap-xs.length)*E.sz):St w0 (sl E (.slice (some ⟨c,0,none⟩) xs.length cap) xs::L) w:=by
 obtain⟨h,⟨a,b,ha,hb,j⟩,hd⟩:=H
 rw [show own c (xs.flatMap E.enc++rest)=og c _ from eZ _ _ _] at ha
 exact⟨h,⟨a,b,by rw [show sl E (.slice (some ⟨c,0,none⟩) xs.length cap) xs=P7 E _ xs from eZ _ _ _];exact .inr ⟨c,cap,rest,rfl,h2,h3,ha⟩,hb,j⟩,hd⟩
theorem St.sl_nil (H:St w0 L w):St w0 (sl E (.slice none 0 0) []::L) w:=by
 obtain⟨h,hs,hd⟩:=H
 refine⟨h,?_,hd⟩
 have h2:bk LF (da L) h:=by rw [qi];exact hs
 obtain⟨a,b,h1,h2,j⟩:=h2
 exact⟨a,b,by rw [show sl E (.slice none 0 0) ([]:List α)=P7 E _ [] from eZ _ _ _];exact .inl ⟨rfl,rfl,h1⟩,h2,j⟩
theorem fy.mk {c cap:Nat}{rest:List Value}(hm:mem w c=some (xs.flatMap E.enc++rest)):fy E w (.slice (some ⟨c,0,none⟩) xs.length cap) xs :=
 ⟨some ⟨c,0,none⟩,cap,rfl,by simp,fun i x hx=>⟨c,0,_,rfl,hm,by
  have:i<xs.length:=by
   rcases Nat.lt_or_ge i xs.length with h | h
   ·exact h
   ·simp [List.getElem?_eq_none h] at hx
  have:=Nat.mul_le_mul_right E.sz (show i+1≤xs.length from this)
  simp only [List.length_append,jC];omega,by rw [Nat.zero_add];exact sN E rest xs i x hx⟩⟩
theorem St.sl_is (H:St w0 (sl E v xs::L) w):fy E w v xs:=by
 rcases H.sl_cases with ⟨rfl,rfl,_⟩ | ⟨c,cap,rest,rfl,_,_,H2⟩
 ·exact⟨none,0,rfl,fun _=>⟨rfl,rfl⟩,fun i x hx=>by simp at hx⟩
 ·exact fy.mk H2.own_mem.2.1
end
class Av {α:outParam Type}(w0:bh)(v:Value)(E:outParam (jS α))(xs:outParam (List α)):Prop where
 is:fy E w0.w v xs
class Rd {α:outParam Type}(w0:bh)(L:List ay)(v:Value)(E:outParam (jS α))(sz:outParam Nat)(xs:outParam (List α)):Prop where
 sz:E.sz=sz
 rd:∀w,St w0 L w→fy E w v xs
section
variable {α:Type}{E:jS α}{w0:bh}{L:List ay}{v:Value}{xs:List α}{w:World}
theorem fy.step {w':World}(h:fy E w v xs)(s:jc [] w w'):fy E w' v xs:=by
 obtain⟨oa,cap,h1,h2,h3⟩:=h
 refine⟨oa,cap,h1,h2,fun i x hx=>?_⟩
 obtain⟨e,o,cs,g1,g2,g3,g4⟩:=h3 i x hx
 exact⟨e,o,cs,g1,s.mem_some g2 (by simp),g3,g4⟩
instance Rd.sl:Rd w0 (sl E v xs::L) v E E.sz xs:=⟨rfl,fun w H=>H.sl_is⟩
instance (priority:=500) Rd.tl {X:ay}{sz:Nat}[h:Rd w0 L v E sz xs]:Rd w0 (X::L) v E sz xs:=⟨h.sz,fun w H=>h.rd w H.drop⟩
instance (priority:=1100) Rd.arg [h:Av w0 v E xs]:Rd w0 L v E E.sz xs:=⟨rfl,fun w H=>h.is.step H.step⟩
instance Av.with {k:Nat→Option Obj}{m:Nat}[h:Av w0 v E xs]:Av (w0.with k m) v E xs:=⟨h.is⟩
theorem Rd.frame {sz:Nat}{C:ay→List ay}{M:List ay}(hM:∀A,da (C A)=da (A::M))(r:∀A,Rd w0 (C A) v E sz xs):Rd w0 M v E sz xs:=⟨(r LF).sz,fun w H=>(r LF).rd w (by
 obtain⟨h,hs,hd⟩:=H
 refine⟨h,?_,hd⟩
 rw [hM]
 show bk LF (da M) h
 rw [qi];exact hs)⟩
class oL {α:outParam Type}(L:List ay)(v:Value)(E:outParam (jS α))(xs:outParam (List α))(C:outParam (ay→List ay)):Prop where
 sel:aq L (P7 E) v xs C
instance oL.hd:oL (S.sl E v xs::L) v E xs (fun a=>a::L):=⟨aq.hd⟩
instance (priority:=500) oL.tl {X:ay}{C:ay→List ay}[h:oL L v E xs C]:oL (X::L) v E xs (fun a=>X::C a):=⟨@aq.tl _ _ _ _ _ _ _ _ h.sel⟩
instance oL.ob {C:ay→List ay}[h:oL L v E xs C]:aq L (P7 E) v xs C:=h.sel
theorem oo {C:ay→List ay}(i:aq L (P7 E) v xs C):∃M,(∀w,St w0 L w↔St w0 (S.sl E v xs::M) w)∧(∀A w,St w0 (C A) w↔St w0 (A::M) w):=by
 obtain⟨M,e1,e2,_⟩:=i.fronts
 exact⟨M,fun w=>by unfold St;rw [e1],fun A w=>by unfold St;rw [e2]⟩
def ep (v:Value)(sz k j:Nat):Value:=match v with
 | .slice (some ⟨c,o,none⟩) _ _=>ptr c (o+k*sz+j)
 | _=>undef
variable {K:KV}{sz k j n:Nat}{x:α}
theorem Rd.at [r:Rd w0 L v E sz xs][e:eU xs k x](H:St w0 L w):∃b o cap cs,v=.slice (some ⟨b,o,none⟩) xs.length cap∧mem w b=some cs∧o+(k+1)*sz≤cs.length∧(cs.drop (o+k*sz)).take sz=E.enc x∧k<xs.length:=by
 obtain⟨oa,cap,rfl,_,h⟩:=r.rd w H
 obtain⟨b,o,cs,rfl,h1,h2,h3⟩:=h k x e.eq
 rw [r.sz] at h2 h3
 exact⟨b,o,cap,cs,rfl,h1,h2,h3,by
  rcases Nat.lt_or_ge k xs.length with h | h
  ·exact h
  ·have:=e.eq;simp [List.getElem?_eq_none h] at this⟩
theorem Ad {F F':World→Prop}(h:∀w,St w0 L w→(F w↔F' w)):G w0 L F=G w0 L F':=propext ⟨fun g w H=>(h w H).1 (g w H),fun g w H=>(h w H).2 (g w H)⟩
theorem T5 [r:Rd w0 L v E sz xs]:G w0 L (bp v K)=G w0 L (K (i64 xs.length)):=Ad fun w H=>by
 obtain⟨oa,cap,rfl,_⟩:=r.rd w H
 exact Iff.rfl
theorem Ux {kd:IntKind}{i:Int}[r:Rd w0 L v E sz xs][hi:ij i k][e:eU xs k x]:G w0 L (bt sz v (.int kd i) K)=G w0 L (K (ep v sz k 0)):=Ad fun w H=>by
 obtain⟨b,o,cap,cs,rfl,_,_,_,hk⟩:=Rd.at (x:=x) (k:=k) (r:=r) H
 have:=hi.eq
 subst this
 simp [bt,ep,hk]
theorem QQ {m:Nat}[r:Rd w0 L v E sz xs][e:eU xs k x][a:zh j n m]:G w0 L (ad n (ep v sz k j) K)=G w0 L (K (ep v sz k m)):=Ad fun w H=>by
 have:=a.eq
 subst this
 obtain⟨b,o,cap,cs,rfl,_⟩:=Rd.at (x:=x) (k:=k) (r:=r) H
 simp [ad,ep,Nat.add_assoc]
theorem QS [r:Rd w0 L v E sz xs][e:eU xs k x]:G w0 L (ai (ep v sz k j) K)=G w0 L (K (ep v sz k j)):=Ad fun w H=>by
 obtain⟨b,o,cap,cs,rfl,_⟩:=Rd.at (x:=x) (k:=k) (r:=r) H
 simp [ai,ep]
theorem Nw {u:Value}{cs:List Value}[r:Rd w0 L v E sz xs][e:eU xs k x][c:fx E x cs][h:Ju cs j u]:G w0 L (ab (ep v sz k j) K)=G w0 L (K u):=Ad fun w H=>by
 obtain⟨b,o,cap,ds,rfl,h1,h2,h3,_⟩:=Rd.at (x:=x) (k:=k) (r:=r) H
 have h4:=h.eq
 rw [←c.eq,←h3,List.getElem?_take] at h4
 split at h4
 ·rw [List.getElem?_drop] at h4
  simp [ab,ep,h1,h4,dn]
 ·cases h4
theorem L7 {cs q:List Value}[r:Rd w0 L v E sz xs][e:eU xs k x][c:fx E x cs][h:ku cs j n q]:G w0 L (aj n (ep v sz k j) K)=G w0 L (K (.agg q.toArray)):=Ad fun w H=>by
 obtain⟨b,o,cap,ds,rfl,h1,h2,h3,_⟩:=Rd.at (x:=x) (k:=k) (r:=r) H
 have h4:=h.eq
 have h5:=h.le
 have h6:cs.length=sz:=by rw [←c.eq,E.len,r.sz]
 rw [←c.eq,←h3,List.drop_take,List.take_take,List.drop_drop,Nat.min_eq_left (by omega)] at h4
 rw [Nat.add_mul] at h2
 simp [aj,ep,h1,h4,show o+k*sz+j+n≤ds.length by omega]
theorem LI {val:Value}{cs vs q:List Value}{x':α}{C:ay→List ay}[r:Rd w0 L v E sz xs][s:oL L v E xs C][e:eU xs k x][c:fx E x cs][hv:ar val vs][hl:Dg vs n][hr:rt cs j vs q][hd:gx E q x'] :
  G w0 L (ag n (ep v sz k j) val K)=G w0 (C (S.sl E v (xs.set k x'))) (K undef):=by
 obtain⟨M,e1,e2⟩:=oo (w0:=w0) s.sel
 have hsz:val.cells.size=n:=by rw [←hl.eq,←hv.eq];simp
 have henc:E.enc x'=Cq (E.enc x) j vs:=by rw [E.dec_ok _ _ hd.eq,c.eq,hr.eq]
 have hj:j+vs.length≤E.sz:=by have:=hr.le;rw [←c.eq,E.len] at this;exact this
 have hk:k<xs.length:=by
  rcases Nat.lt_or_ge k xs.length with h | h
  ·exact h
  ·have:=e.eq;simp [List.getElem?_eq_none h] at this
 have hkl:=Nat.mul_le_mul_right E.sz (show k+1≤xs.length from hk)
 rw [Nat.add_mul] at hkl
 apply propext
 constructor
 ·intro g w H
  have H1:=(e2 _ w).1 H
  rcases H1.sl_cases with ⟨_,h0,_⟩ | ⟨b,cap,rest,hv',h2,h3,H2⟩
  ·have:(xs.set k x').length=0:=by rw [h0];rfl
   simp at this;subst this;simp at hk
  ·rw [List.length_set] at hv' h2 h3
   subst hv'
   have H3:=H2.own_put (cs':=xs.flatMap E.enc++rest)
   have H4:=(e1 _).2 (H3.sl_mk h2 h3)
   have h5:=g _ H4
   have hm:=H3.own_mem
   simp only [ag,ep,hm.2.1,hm.2.2,hsz,hv.eq,Nat.zero_add,←r.sz] at h5
   have h6:=h5.2.2.2.2
   rw [FB E rest vs j x' xs k x e.eq hj henc,Jf,Bg H2.own_mem.2.1] at h6
   exact h6
 ·intro g w H
  have H1:=(e1 w).1 H
  rcases H1.sl_cases with ⟨_,rfl,_⟩ | ⟨b,cap,rest,rfl,h2,h3,H2⟩
  ·simp at hk
  ·have hm:=H2.own_mem
   simp only [ag,ep,hm.2.1,hm.2.2,hsz,hv.eq,Nat.zero_add,←r.sz]
   refine⟨trivial,hv.ones,trivial,by have:=hl.eq;simp only [List.length_append,jC];omega,?_⟩
   rw [FB E rest vs j x' xs k x e.eq hj henc]
   refine g _ ((e2 _ _).2 ?_)
   have:=(H2.own_put (cs':=(xs.set k x').flatMap E.enc++rest)).sl_mk (E:=E) (xs:=xs.set k x') (cap:=cap) (by simpa using h2) (by simpa using h3)
   simpa using this
end
section
variable {w0:bh}{L:List ay}{K:KV}
theorem So {b i:Nat}:ai (ptr b i) K=K (ptr b i):=by funext w <;> simp [ai]
theorem Pv {f:FuncId}{x y:Array Value}:ai (.func (.func f) x y) K=K (.func (.func f) x y):=by funext w <;> simp [ai]
theorem Sr {b i n m:Nat}[h:zh i n m]:ad n (ptr b i) K=K (ptr b m):=by funext w <;> simp [ad,h.eq]
theorem Sj {t:Bool}:ga (.bool t) K=K (.bool (!t)):=by funext w <;> simp [ga]
theorem Nc {x y:Value}:bd (.bool true) x y K=K x:=by funext w <;> simp [bd]
theorem Mv {x y:Value}:bd (.bool false) x y K=K y:=by funext w <;> simp [bd]
theorem Sv {k:IntKind}{a b:Int}:aa .lss (.int k a) (.int k b) K=K (.bool (decide (a<b))):=by funext w <;> simp [aa,kq,dn,Bool.beq_eq_decide_eq]
theorem SA {k:IntKind}{a b:Int}:aa .leq (.int k a) (.int k b) K=K (.bool (decide (a≤b))):=by funext w <;> simp [aa,kq,dn,Bool.beq_eq_decide_eq]
theorem SJ {k:IntKind}{a b:Int}:aa .gtr (.int k a) (.int k b) K=K (.bool (decide (b<a))):=by funext w <;> simp [aa,kq,dn,Bool.beq_eq_decide_eq]
theorem SH {k:IntKind}{a b:Int}:aa .geq (.int k a) (.int k b) K=K (.bool (decide (b≤a))):=by funext w <;> simp [aa,kq,dn,Bool.beq_eq_decide_eq]
theorem SM {k:IntKind}{a b:Int}:aa .eql (.int k a) (.int k b) K=K (.bool (decide (a=b))):=by funext w <;> simp [aa,kq,dn,Bool.beq_eq_decide_eq]
theorem SP {k:IntKind}{a b:Int}:aa .neq (.int k a) (.int k b) K=K (.bool (!decide (a=b))):=by funext w <;> simp [aa,kq,dn,bne,Bool.beq_eq_decide_eq]
theorem QN {k:IntKind}{a b:Int}:aa .add (.int k a) (.int k b) K=K (.int k (k.wrap (a+b))):=by funext w <;> simp [aa,kq,dn]
theorem SD {k:IntKind}{a b:Int}:aa .sub (.int k a) (.int k b) K=K (.int k (k.wrap (a-b))):=by funext w <;> simp [aa,kq,dn]
theorem Sg {k:IntKind}{a b:Int}:aa .mul (.int k a) (.int k b) K=K (.int k (k.wrap (a*b))):=by funext w <;> simp [aa,kq,dn]
theorem Sn {k:IntKind}{a b:Int}[h:iG b]:aa .quo (.int k a) (.int k b) K=K (.int k (k.wrap (a.tdiv b))):=by funext w <;> simp [aa,kq,dn,h.ne]
theorem Sz {k:IntKind}{a b:Int}[h:iG b]:aa .rem (.int k a) (.int k b) K=K (.int k (a.tmod b)):=by funext w <;> simp [aa,kq,dn,h.ne]
theorem Po {k:IntKind}{a b:Int}:aa .and (.int k a) (.int k b) K=K (.int k (k.wrap (BitVec.ofInt k.bits a &&& BitVec.ofInt k.bits b).toNat)):=by funext w <;> simp [aa,kq,dn]
theorem Sq {k:IntKind}{a b:Int}:aa .or (.int k a) (.int k b) K=K (.int k (k.wrap (BitVec.ofInt k.bits a ||| BitVec.ofInt k.bits b).toNat)):=by funext w <;> simp [aa,kq,dn]
theorem Qa {k:IntKind}{a b:Int}:aa .xor (.int k a) (.int k b) K=K (.int k (k.wrap (BitVec.ofInt k.bits a ^^^ BitVec.ofInt k.bits b).toNat)):=by funext w <;> simp [aa,kq,dn]
theorem Sw {k k2:IntKind}{a b:Int}[h:bl b]:aa .shl (.int k a) (.int k2 b) K=K (.int k (k.wrap (a*2 ^ min b.toNat k.bits))):=by funext w <;> simp [aa,h.le]
theorem SQ {k k2:IntKind}{a b:Int}[h:bl b]:aa .shr (.int k a) (.int k2 b) K=K (.int k (a.fdiv (2 ^ min b.toNat k.bits))):=by funext w <;> simp [aa,h.le]
theorem MP {t:Nat}{x:Value}:qm t x K=K (.iface t x):=by funext w <;> simp [qm]
theorem P2 {k k2:IntKind}{a:Int}:ii k (.int k2 a) K=K (.int k (k.wrap a)):=by funext w <;> simp [ii]
theorem SL {a b:Bool}:fI .eql (.bool a) (.bool b) K=K (.bool (a == b)):=by funext w <;> simp [fI,F8]
theorem Sf {a b:Bool}:fI .neq (.bool a) (.bool b) K=K (.bool (!(a == b))):=by funext w <;> simp [fI,F8]
theorem Pi {b i:Nat}:eW .eql (ptr b i) (.pointer none) K=K (.bool false):=by funext w <;> simp [eW,F8]
theorem Ns {b i:Nat}:eW .neq (ptr b i) (.pointer none) K=K (.bool true):=by funext w <;> simp [eW,F8]
theorem PG  : eW .eql (.pointer none) (.pointer none) K=K (.bool true):=by funext w <;> simp [eW,F8]
theorem Mm  : eW .neq (.pointer none) (.pointer none) K=K (.bool false):=by funext w <;> simp [eW,F8]
theorem M5 {ks:List CK}{xs ys:List Value}{t:Bool}[h:uX ks xs ys t]:jf ks .eql (.agg xs.toArray) (.agg ys.toArray) K=K (.bool t):=by funext w <;> simp [jf,h.f1,h.f2,h.eq,F8]
theorem Nb {ks:List CK}{xs ys:List Value}{t:Bool}[h:uX ks xs ys t]:jf ks .neq (.agg xs.toArray) (.agg ys.toArray) K=K (.bool (!t)):=by funext w <;> simp [jf,h.f1,h.f2,h.eq,F8]
theorem Qr {o n:Nat}{cs:List Value}{v:Value}[h:Ju cs o v]:oC false o n (.agg cs.toArray) K=K v:=by funext w <;> simp [oC,h.eq,dn]
theorem MT {o n:Nat}{cs r:List Value}[h:ku cs o n r]:oC true o n (.agg cs.toArray) K=K (.agg r.toArray):=by funext w <;> simp only [oC,if_true] <;> congr 2 <;> apply Array.toList_inj.1 <;> simp [←h.eq]
theorem Hy {i:Nat}{vs:List Value}{v:Value}[h:Ju vs i v]:ao i (.tuple vs.toArray) K=K v:=by funext w <;> simp [ao,h.eq,dn]
theorem Mo {zero r:List Value}{ps:List (Nat×Nat×Value)}[h:pW zero ps r]:ap zero ps K=K (.agg r.toArray):=by funext w <;> simp [ap,h.eq]
theorem SI {k:IntKind}{a b:Int}:lR (.int k a) [.int k b] K=K (.int k (if b > a then b else a)):=by funext w <;> simp [lR,BC,MF,dn]
theorem Sy {k:IntKind}{a b:Int}:iO (.int k a) [.int k b] K=K (.int k (if b<a then b else a)):=by funext w <;> simp [iO,BC,K4,dn]
theorem Pn {k:IntKind}{a b c:Int}:iO (.int k a) [.int k b,.int k c] K=K (.int k (if c<(if b<a then b else a) then c else (if b<a then b else a))):=by funext w <;> simp [iO,BC,K4,dn]
theorem M2 {A B:World→Prop}:ae (.bool true) A B=A:=by rw [Iv]
theorem Nn {A B:World→Prop}:ae (.bool false) A B=B:=by rw [Ja]
theorem Um {t:Bool}{A:KV→World→Prop}:gW (.bool t) t A K=A K:=by rw [Rx]
theorem SC {A:KV→World→Prop}:gW (.bool true) false A K=K undef:=by rw [M7]
theorem SF {A:KV→World→Prop}:gW (.bool false) true A K=K undef:=by rw [Nl]
theorem Uk {t:Bool}{A:KV→World→Prop}:gW undef t A K=K undef:=by rw [Ug]
theorem UB {t:Bool}{A:KV→World→Prop}{e:Value}:df (.bool t) t A e K=A K:=by rw [xn]
theorem Sp {A:KV→World→Prop}{e:Value}:df (.bool true) false A e K=K e:=by rw [xS]
theorem SN {A:KV→World→Prop}{e:Value}:df (.bool false) true A e K=K e:=by rw [xR]
theorem QD {p q:Bool}:df (.bool p) true (fun K=>K (.bool q)) (.bool false) K=K (.bool (p && q)):=by rw [L6]
theorem SK {p q:Bool}:df (.bool p) false (fun K=>K (.bool q)) (.bool true) K=K (.bool (p || q)):=by rw [NN]
theorem T0 {b i:Nat}:G w0 L (ai (ptr b i) K)=G w0 L (K (ptr b i)):=congrArg _ So
theorem Tx {f:FuncId}{x y:Array Value}:G w0 L (ai (.func (.func f) x y) K)=G w0 L (K (.func (.func f) x y)):=congrArg _ Pv
theorem Ui {b i n m:Nat}[h:zh i n m]:G w0 L (ad n (ptr b i) K)=G w0 L (K (ptr b m)):=congrArg _ Sr
theorem Ud {t:Bool}:G w0 L (ga (.bool t) K)=G w0 L (K (.bool (!t))):=congrArg _ Sj
theorem Rh {x y:Value}:G w0 L (bd (.bool true) x y K)=G w0 L (K x):=congrArg _ Nc
theorem RS {x y:Value}:G w0 L (bd (.bool false) x y K)=G w0 L (K y):=congrArg _ Mv
theorem TS {k:IntKind}{a b:Int}:G w0 L (aa .lss (.int k a) (.int k b) K)=G w0 L (K (.bool (decide (a<b)))):=congrArg _ Sv
theorem TW {k:IntKind}{a b:Int}:G w0 L (aa .leq (.int k a) (.int k b) K)=G w0 L (K (.bool (decide (a≤b)))):=congrArg _ SA
theorem TY {k:IntKind}{a b:Int}:G w0 L (aa .gtr (.int k a) (.int k b) K)=G w0 L (K (.bool (decide (b<a)))):=congrArg _ SJ
theorem TX {k:IntKind}{a b:Int}:G w0 L (aa .geq (.int k a) (.int k b) K)=G w0 L (K (.bool (decide (b≤a)))):=congrArg _ SH
theorem Uw {k:IntKind}{a b:Int}:G w0 L (aa .eql (.int k a) (.int k b) K)=G w0 L (K (.bool (decide (a=b)))):=congrArg _ SM
theorem Uo {k:IntKind}{a b:Int}:G w0 L (aa .neq (.int k a) (.int k b) K)=G w0 L (K (.bool (!decide (a=b)))):=congrArg _ SP
theorem Tj {k:IntKind}{a b:Int}:G w0 L (aa .add (.int k a) (.int k b) K)=G w0 L (K (.int k (k.wrap (a+b)))):=congrArg _ QN
theorem Up {k:IntKind}{a b:Int}:G w0 L (aa .sub (.int k a) (.int k b) K)=G w0 L (K (.int k (k.wrap (a-b)))):=congrArg _ SD
theorem T7 {k:IntKind}{a b:Int}:G w0 L (aa .mul (.int k a) (.int k b) K)=G w0 L (K (.int k (k.wrap (a*b)))):=congrArg _ Sg
theorem T8 {k:IntKind}{a b:Int}[h:iG b]:G w0 L (aa .quo (.int k a) (.int k b) K)=G w0 L (K (.int k (k.wrap (a.tdiv b)))):=congrArg _ Sn
theorem Uu {k:IntKind}{a b:Int}[h:iG b]:G w0 L (aa .rem (.int k a) (.int k b) K)=G w0 L (K (.int k (a.tmod b))):=congrArg _ Sz
theorem Td {k:IntKind}{a b:Int}:G w0 L (aa .and (.int k a) (.int k b) K)=G w0 L (K (.int k (k.wrap (BitVec.ofInt k.bits a &&& BitVec.ofInt k.bits b).toNat))):=congrArg _ Po
theorem T4 {k:IntKind}{a b:Int}:G w0 L (aa .or (.int k a) (.int k b) K)=G w0 L (K (.int k (k.wrap (BitVec.ofInt k.bits a ||| BitVec.ofInt k.bits b).toNat))):=congrArg _ Sq
theorem Tm {k:IntKind}{a b:Int}:G w0 L (aa .xor (.int k a) (.int k b) K)=G w0 L (K (.int k (k.wrap (BitVec.ofInt k.bits a ^^^ BitVec.ofInt k.bits b).toNat))):=congrArg _ Qa
theorem Uh {k k2:IntKind}{a b:Int}[h:bl b]:G w0 L (aa .shl (.int k a) (.int k2 b) K)=G w0 L (K (.int k (k.wrap (a*2 ^ min b.toNat k.bits)))):=congrArg _ Sw
theorem TU {k k2:IntKind}{a b:Int}[h:bl b]:G w0 L (aa .shr (.int k a) (.int k2 b) K)=G w0 L (K (.int k (a.fdiv (2 ^ min b.toNat k.bits)))):=congrArg _ SQ
theorem RY {t:Nat}{x:Value}:G w0 L (qm t x K)=G w0 L (K (.iface t x)):=congrArg _ MP
theorem S1 {k k2:IntKind}{a:Int}:G w0 L (ii k (.int k2 a) K)=G w0 L (K (.int k (k.wrap a))):=congrArg _ P2
theorem T1 {a b:Bool}:G w0 L (fI .eql (.bool a) (.bool b) K)=G w0 L (K (.bool (a == b))):=congrArg _ SL
theorem TV {a b:Bool}:G w0 L (fI .neq (.bool a) (.bool b) K)=G w0 L (K (.bool (!(a == b)))):=congrArg _ Sf
theorem SR {b i:Nat}:G w0 L (eW .eql (ptr b i) (.pointer none) K)=G w0 L (K (.bool false)):=congrArg _ Pi
theorem Rp {b i:Nat}:G w0 L (eW .neq (ptr b i) (.pointer none) K)=G w0 L (K (.bool true)):=congrArg _ Ns
theorem S0  : G w0 L (eW .eql (.pointer none) (.pointer none) K)=G w0 L (K (.bool true)):=congrArg _ PG
theorem RJ  : G w0 L (eW .neq (.pointer none) (.pointer none) K)=G w0 L (K (.bool false)):=congrArg _ Mm
theorem Q6 {ks:List CK}{xs ys:List Value}{t:Bool}[h:uX ks xs ys t]:G w0 L (jf ks .eql (.agg xs.toArray) (.agg ys.toArray) K)=G w0 L (K (.bool t)):=congrArg _ M5
theorem RF {ks:List CK}{xs ys:List Value}{t:Bool}[h:uX ks xs ys t]:G w0 L (jf ks .neq (.agg xs.toArray) (.agg ys.toArray) K)=G w0 L (K (.bool (!t))):=congrArg _ Nb
theorem Tq {o n:Nat}{cs:List Value}{v:Value}[h:Ju cs o v]:G w0 L (oC false o n (.agg cs.toArray) K)=G w0 L (K v):=congrArg _ Qr
theorem Q7 {o n:Nat}{cs r:List Value}[h:ku cs o n r]:G w0 L (oC true o n (.agg cs.toArray) K)=G w0 L (K (.agg r.toArray)):=congrArg _ MT
theorem O8 {i:Nat}{vs:List Value}{v:Value}[h:Ju vs i v]:G w0 L (ao i (.tuple vs.toArray) K)=G w0 L (K v):=congrArg _ Hy
theorem Q4 {zero r:List Value}{ps:List (Nat×Nat×Value)}[h:pW zero ps r]:G w0 L (ap zero ps K)=G w0 L (K (.agg r.toArray)):=congrArg _ Mo
theorem Uf {k:IntKind}{a b:Int}:G w0 L (lR (.int k a) [.int k b] K)=G w0 L (K (.int k (if b > a then b else a))):=congrArg _ SI
theorem Ul {k:IntKind}{a b:Int}:G w0 L (iO (.int k a) [.int k b] K)=G w0 L (K (.int k (if b<a then b else a))):=congrArg _ Sy
theorem Tb {k:IntKind}{a b c:Int}:G w0 L (iO (.int k a) [.int k b,.int k c] K)=G w0 L (K (.int k (if c<(if b<a then b else a) then c else (if b<a then b else a)))):=congrArg _ Pn
theorem R1 {A B:World→Prop}:G w0 L (ae (.bool true) A B)=G w0 L (A):=congrArg _ M2
theorem Rm {A B:World→Prop}:G w0 L (ae (.bool false) A B)=G w0 L (B):=congrArg _ Nn
theorem UJ {t:Bool}{A:KV→World→Prop}:G w0 L (gW (.bool t) t A K)=G w0 L (A K):=congrArg _ Um
theorem Uy {A:KV→World→Prop}:G w0 L (gW (.bool true) false A K)=G w0 L (K undef):=congrArg _ SC
theorem Uc {A:KV→World→Prop}:G w0 L (gW (.bool false) true A K)=G w0 L (K undef):=congrArg _ SF
theorem UT {t:Bool}{A:KV→World→Prop}:G w0 L (gW undef t A K)=G w0 L (K undef):=congrArg _ Uk
theorem UY {t:Bool}{A:KV→World→Prop}{e:Value}:G w0 L (df (.bool t) t A e K)=G w0 L (A K):=congrArg _ UB
theorem Us {A:KV→World→Prop}{e:Value}:G w0 L (df (.bool true) false A e K)=G w0 L (K e):=congrArg _ Sp
theorem Ue {A:KV→World→Prop}{e:Value}:G w0 L (df (.bool false) true A e K)=G w0 L (K e):=congrArg _ SN
theorem TK {p q:Bool}:G w0 L (df (.bool p) true (fun K=>K (.bool q)) (.bool false) K)=G w0 L (K (.bool (p && q))):=congrArg _ QD
theorem Un {p q:Bool}:G w0 L (df (.bool p) false (fun K=>K (.bool q)) (.bool true) K)=G w0 L (K (.bool (p || q))):=congrArg _ SK
theorem TF {B:World→Prop}:G w0 L (andP ac B)=G w0 L (B):=by rw [Hi]
end
theorem RG :
  (∀{w0:bh} {L:List ay} {K:KV} {b i:Nat},G w0 L (ai (ptr b i) K)=G w0 L (K (ptr b i))) ∧
  (∀{w0:bh} {L:List ay} {K:KV} {f:FuncId} {x y:Array Value},G w0 L (ai (.func (.func f) x y) K)=G w0 L (K (.func (.func f) x y))) ∧
  (∀{w0:bh} {L:List ay} {K:KV} {b i n m:Nat} [h:zh i n m],G w0 L (ad n (ptr b i) K)=G w0 L (K (ptr b m))) ∧
  (∀{w0:bh} {L:List ay} {K:KV} {t:Bool},G w0 L (ga (.bool t) K)=G w0 L (K (.bool (!t)))) ∧
  (∀{w0:bh} {L:List ay} {K:KV} {x y:Value},G w0 L (bd (.bool true) x y K)=G w0 L (K x)) ∧
  (∀{w0:bh} {L:List ay} {K:KV} {x y:Value},G w0 L (bd (.bool false) x y K)=G w0 L (K y)) ∧
  (∀{w0:bh} {L:List ay} {K:KV} {k:IntKind} {a b:Int},G w0 L (aa .lss (.int k a) (.int k b) K)=G w0 L (K (.bool (decide (a<b))))) ∧
  (∀{w0:bh} {L:List ay} {K:KV} {k:IntKind} {a b:Int},G w0 L (aa .leq (.int k a) (.int k b) K)=G w0 L (K (.bool (decide (a≤b))))) ∧
  (∀{w0:bh} {L:List ay} {K:KV} {k:IntKind} {a b:Int},G w0 L (aa .gtr (.int k a) (.int k b) K)=G w0 L (K (.bool (decide (b<a))))) ∧
  (∀{w0:bh} {L:List ay} {K:KV} {k:IntKind} {a b:Int},G w0 L (aa .geq (.int k a) (.int k b) K)=G w0 L (K (.bool (decide (b≤a))))) ∧
  (∀{w0:bh} {L:List ay} {K:KV} {k:IntKind} {a b:Int},G w0 L (aa .eql (.int k a) (.int k b) K)=G w0 L (K (.bool (decide (a=b))))) ∧
  (∀{w0:bh} {L:List ay} {K:KV} {k:IntKind} {a b:Int},G w0 L (aa .neq (.int k a) (.int k b) K)=G w0 L (K (.bool (!decide (a=b))))) ∧
  (∀{w0:bh} {L:List ay} {K:KV} {k:IntKind} {a b:Int},G w0 L (aa .add (.int k a) (.int k b) K)=G w0 L (K (.int k (k.wrap (a+b))))) ∧
  (∀{w0:bh} {L:List ay} {K:KV} {k:IntKind} {a b:Int},G w0 L (aa .sub (.int k a) (.int k b) K)=G w0 L (K (.int k (k.wrap (a-b))))) ∧
  (∀{w0:bh} {L:List ay} {K:KV} {k:IntKind} {a b:Int},G w0 L (aa .mul (.int k a) (.int k b) K)=G w0 L (K (.int k (k.wrap (a*b))))) ∧
  (∀{w0:bh} {L:List ay} {K:KV} {k:IntKind} {a b:Int} [h:iG b],G w0 L (aa .quo (.int k a) (.int k b) K)=G w0 L (K (.int k (k.wrap (a.tdiv b))))) ∧
  (∀{w0:bh} {L:List ay} {K:KV} {k:IntKind} {a b:Int} [h:iG b],G w0 L (aa .rem (.int k a) (.int k b) K)=G w0 L (K (.int k (a.tmod b)))) ∧
  (∀{w0:bh} {L:List ay} {K:KV} {k:IntKind} {a b:Int},G w0 L (aa .and (.int k a) (.int k b) K)=G w0 L (K (.int k (k.wrap (BitVec.ofInt k.bits a &&& BitVec.ofInt k.bits b).toNat)))) ∧
  (∀{w0:bh} {L:List ay} {K:KV} {k:IntKind} {a b:Int},G w0 L (aa .or (.int k a) (.int k b) K)=G w0 L (K (.int k (k.wrap (BitVec.ofInt k.bits a ||| BitVec.ofInt k.bits b).toNat)))) ∧
  (∀{w0:bh} {L:List ay} {K:KV} {k:IntKind} {a b:Int},G w0 L (aa .xor (.int k a) (.int k b) K)=G w0 L (K (.int k (k.wrap (BitVec.ofInt k.bits a ^^^ BitVec.ofInt k.bits b).toNat)))) ∧
  (∀{w0:bh} {L:List ay} {K:KV} {k k2:IntKind} {a b:Int} [h:bl b],G w0 L (aa .shl (.int k a) (.int k2 b) K)=G w0 L (K (.int k (k.wrap (a*2 ^ min b.toNat k.bits))))) ∧
  (∀{w0:bh} {L:List ay} {K:KV} {k k2:IntKind} {a b:Int} [h:bl b],G w0 L (aa .shr (.int k a) (.int k2 b) K)=G w0 L (K (.int k (a.fdiv (2 ^ min b.toNat k.bits))))) ∧
  (∀{w0:bh} {L:List ay} {K:KV} {t:Nat} {x:Value},G w0 L (qm t x K)=G w0 L (K (.iface t x))) ∧
  (∀{w0:bh} {L:List ay} {K:KV} {k k2:IntKind} {a:Int},G w0 L (ii k (.int k2 a) K)=G w0 L (K (.int k (k.wrap a)))) ∧
  (∀{w0:bh} {L:List ay} {K:KV} {a b:Bool},G w0 L (fI .eql (.bool a) (.bool b) K)=G w0 L (K (.bool (a == b)))) ∧
  (∀{w0:bh} {L:List ay} {K:KV} {a b:Bool},G w0 L (fI .neq (.bool a) (.bool b) K)=G w0 L (K (.bool (!(a == b))))) ∧
  (∀{w0:bh} {L:List ay} {K:KV} {b i:Nat},G w0 L (eW .eql (ptr b i) (.pointer none) K)=G w0 L (K (.bool false))) ∧
  (∀{w0:bh} {L:List ay} {K:KV} {b i:Nat},G w0 L (eW .neq (ptr b i) (.pointer none) K)=G w0 L (K (.bool true))) ∧
  (∀{w0:bh} {L:List ay} {K:KV},G w0 L (eW .eql (.pointer none) (.pointer none) K)=G w0 L (K (.bool true))) ∧
  (∀{w0:bh} {L:List ay} {K:KV},G w0 L (eW .neq (.pointer none) (.pointer none) K)=G w0 L (K (.bool false))) ∧
  (∀{w0:bh} {L:List ay} {K:KV} {ks:List CK} {xs ys:List Value} {t:Bool} [h:uX ks xs ys t],G w0 L (jf ks .eql (.agg xs.toArray) (.agg ys.toArray) K)=G w0 L (K (.bool t))) ∧
  (∀{w0:bh} {L:List ay} {K:KV} {ks:List CK} {xs ys:List Value} {t:Bool} [h:uX ks xs ys t],G w0 L (jf ks .neq (.agg xs.toArray) (.agg ys.toArray) K)=G w0 L (K (.bool (!t)))) ∧
  (∀{w0:bh} {L:List ay} {K:KV} {o n:Nat} {cs:List Value} {v:Value} [h:Ju cs o v],G w0 L (oC false o n (.agg cs.toArray) K)=G w0 L (K v)) ∧
  (∀{w0:bh} {L:List ay} {K:KV} {o n:Nat} {cs r:List Value} [h:ku cs o n r],G w0 L (oC true o n (.agg cs.toArray) K)=G w0 L (K (.agg r.toArray))) ∧
  (∀{w0:bh} {L:List ay} {K:KV} {i:Nat} {vs:List Value} {v:Value} [h:Ju vs i v],G w0 L (ao i (.tuple vs.toArray) K)=G w0 L (K v)) ∧
  (∀{w0:bh} {L:List ay} {K:KV} {zero r:List Value} {ps:List (Nat×Nat×Value)} [h:pW zero ps r],G w0 L (ap zero ps K)=G w0 L (K (.agg r.toArray))) ∧
  (∀{w0:bh} {L:List ay} {K:KV} {k:IntKind} {a b:Int},G w0 L (lR (.int k a) [.int k b] K)=G w0 L (K (.int k (if b > a then b else a)))) ∧
  (∀{w0:bh} {L:List ay} {K:KV} {k:IntKind} {a b:Int},G w0 L (iO (.int k a) [.int k b] K)=G w0 L (K (.int k (if b<a then b else a)))) ∧
  (∀{w0:bh} {L:List ay} {K:KV} {k:IntKind} {a b c:Int},G w0 L (iO (.int k a) [.int k b,.int k c] K)=G w0 L (K (.int k (if c<(if b<a then b else a) then c else (if b<a then b else a))))) ∧
  (∀{w0:bh} {L:List ay} {A B:World→Prop},G w0 L (ae (.bool true) A B)=G w0 L (A)) ∧
  (∀{w0:bh} {L:List ay} {A B:World→Prop},G w0 L (ae (.bool false) A B)=G w0 L (B)) ∧
  (∀{w0:bh} {L:List ay} {K:KV} {t:Bool} {A:KV→World→Prop},G w0 L (gW (.bool t) t A K)=G w0 L (A K)) ∧
  (∀{w0:bh} {L:List ay} {K:KV} {A:KV→World→Prop},G w0 L (gW (.bool true) false A K)=G w0 L (K undef)) ∧
  (∀{w0:bh} {L:List ay} {K:KV} {A:KV→World→Prop},G w0 L (gW (.bool false) true A K)=G w0 L (K undef)) ∧
  (∀{w0:bh} {L:List ay} {K:KV} {t:Bool} {A:KV→World→Prop},G w0 L (gW undef t A K)=G w0 L (K undef)) ∧
  (∀{w0:bh} {L:List ay} {K:KV} {t:Bool} {A:KV→World→Prop} {e:Value},G w0 L (df (.bool t) t A e K)=G w0 L (A K)) ∧
  (∀{w0:bh} {L:List ay} {K:KV} {A:KV→World→Prop} {e:Value},G w0 L (df (.bool true) false A e K)=G w0 L (K e)) ∧
  (∀{w0:bh} {L:List ay} {K:KV} {A:KV→World→Prop} {e:Value},G w0 L (df (.bool false) true A e K)=G w0 L (K e)) ∧
  (∀{w0:bh} {L:List ay} {K:KV} {p q:Bool},G w0 L (df (.bool p) true (fun K=>K (.bool q)) (.bool false) K)=G w0 L (K (.bool (p && q)))) ∧
  (∀{w0:bh} {L:List ay} {K:KV} {p q:Bool},G w0 L (df (.bool p) false (fun K=>K (.bool q)) (.bool true) K)=G w0 L (K (.bool (p || q)))) ∧
  (∀{w0:bh} {L:List ay} {B:World→Prop},G w0 L (andP ac B)=G w0 L (B)) ∧
  (∀{w0:bh} {L:List ay} {A B:World→Prop},G w0 L (andP A B)=(G w0 L A∧G w0 L B)) ∧
  (∀{w0:bh} {L:List ay} {K:KV} {b j:Nat} {cs:List Value} {C:ay→List ay} [aq L og b cs C] {v:Value} [Ju cs j v],G w0 L (ab (ptr b j) K)=G w0 L (K v)) ∧
  (∀{w0:bh} {L:List ay} {K:KV} {b j n:Nat} {cs:List Value} {C:ay→List ay} [aq L og b cs C] {r:List Value} [ku cs j n r],G w0 L (aj n (ptr b j) K)=G w0 L (K (.agg r.toArray))) ∧
  (∀{w0:bh} {L:List ay} {K:KV} {b j n:Nat} {cs:List Value} {C:ay→List ay} [aq L og b cs C] {v:Value} {vs r:List Value} [ar v vs] [rt cs j vs r] [Dg vs n],G w0 L (ag n (ptr b j) v K)=G w0 (C (own b r)) (K undef)) ∧
  (∀{w0:bh} {L:List ay},G w0 L ac=True) ∧
  (∀{w0:bh} {L:List ay} {v:Value},G w0 L (dh v v)=True) ∧
  (∀{α:Type} {E:jS α} {w0:bh} {L:List ay} {v:Value} {xs:List α} {K:KV} {sz:Nat} [Rd w0 L v E sz xs],G w0 L (bp v K)=G w0 L (K (i64 xs.length))) ∧
  (∀{α:Type} {E:jS α} {w0:bh} {L:List ay} {v:Value} {xs:List α} {K:KV} {sz k:Nat} {x:α} {kd:IntKind} {i:Int} [Rd w0 L v E sz xs] [ij i k] [eU xs k x],G w0 L (bt sz v (.int kd i) K)=G w0 L (K (ep v sz k 0))) ∧
  (∀{α:Type} {E:jS α} {w0:bh} {L:List ay} {v:Value} {xs:List α} {K:KV} {sz k j n:Nat} {x:α} {m:Nat} [Rd w0 L v E sz xs] [eU xs k x] [zh j n m],G w0 L (ad n (ep v sz k j) K)=G w0 L (K (ep v sz k m))) ∧
  (∀{α:Type} {E:jS α} {w0:bh} {L:List ay} {v:Value} {xs:List α} {K:KV} {sz k j:Nat} {x:α} [Rd w0 L v E sz xs] [eU xs k x],G w0 L (ai (ep v sz k j) K)=G w0 L (K (ep v sz k j))) ∧
  (∀{α:Type} {E:jS α} {w0:bh} {L:List ay} {v:Value} {xs:List α} {K:KV} {sz k j:Nat} {x:α} {u:Value} {cs:List Value} [Rd w0 L v E sz xs] [eU xs k x] [fx E x cs] [Ju cs j u],G w0 L (ab (ep v sz k j) K)=G w0 L (K u)) ∧
  (∀{α:Type} {E:jS α} {w0:bh} {L:List ay} {v:Value} {xs:List α} {K:KV} {sz k j n:Nat} {x:α} {cs q:List Value} [Rd w0 L v E sz xs] [eU xs k x] [fx E x cs] [ku cs j n q],G w0 L (aj n (ep v sz k j) K)=G w0 L (K (.agg q.toArray))) ∧
  (∀{α:Type} {E:jS α} {w0:bh} {L:List ay} {v:Value} {xs:List α} {K:KV} {sz k j n:Nat} {x:α} {val:Value} {cs vs q:List Value} {x2:α} {C:ay→List ay} [Rd w0 L v E sz xs] [oL L v E xs C] [eU xs k x] [fx E x cs] [ar val vs] [Dg vs n] [rt cs j vs q] [gx E q x2],G w0 L (ag n (ep v sz k j) val K)=G w0 (C (S.sl E v (xs.set k x2))) (K undef)) :=
 ⟨@T0,@Tx,@Ui,@Ud,@Rh,@RS,@TS,@TW,@TY,@TX,@Uw,@Uo,@Tj,@Up,@T7,@T8,@Uu,@Td,@T4,@Tm,@Uh,@TU,@RY,@S1,@T1,@TV,@SR,@Rp,@S0,@RJ,@Q6,@RF,@Tq,@Q7,@O8,@Q4,@Uf,@Ul,@Tb,@R1,@Rm,@UJ,@Uy,@Uc,@UT,@UY,@Us,@Ue,@TK,@Un,@TF,@Ut,@TH,@Re,@Rs,@SV,@T3,@T5,@Ux,@QQ,@QS,@Nw,@L7,@LI⟩
theorem RP :
  (∀{K:KV} {b i:Nat},ai (ptr b i) K=K (ptr b i)) ∧
  (∀{K:KV} {f:FuncId} {x y:Array Value},ai (.func (.func f) x y) K=K (.func (.func f) x y)) ∧
  (∀{K:KV} {b i n m:Nat} [h:zh i n m],ad n (ptr b i) K=K (ptr b m)) ∧
  (∀{K:KV} {t:Bool},ga (.bool t) K=K (.bool (!t))) ∧
  (∀{K:KV} {x y:Value},bd (.bool true) x y K=K x) ∧
  (∀{K:KV} {x y:Value},bd (.bool false) x y K=K y) ∧
  (∀{K:KV} {k:IntKind} {a b:Int},aa .lss (.int k a) (.int k b) K=K (.bool (decide (a<b)))) ∧
  (∀{K:KV} {k:IntKind} {a b:Int},aa .leq (.int k a) (.int k b) K=K (.bool (decide (a≤b)))) ∧
  (∀{K:KV} {k:IntKind} {a b:Int},aa .gtr (.int k a) (.int k b) K=K (.bool (decide (b<a)))) ∧
  (∀{K:KV} {k:IntKind} {a b:Int},aa .geq (.int k a) (.int k b) K=K (.bool (decide (b≤a)))) ∧
  (∀{K:KV} {k:IntKind} {a b:Int},aa .eql (.int k a) (.int k b) K=K (.bool (decide (a=b)))) ∧
  (∀{K:KV} {k:IntKind} {a b:Int},aa .neq (.int k a) (.int k b) K=K (.bool (!decide (a=b)))) ∧
  (∀{K:KV} {k:IntKind} {a b:Int},aa .add (.int k a) (.int k b) K=K (.int k (k.wrap (a+b)))) ∧
  (∀{K:KV} {k:IntKind} {a b:Int},aa .sub (.int k a) (.int k b) K=K (.int k (k.wrap (a-b)))) ∧
  (∀{K:KV} {k:IntKind} {a b:Int},aa .mul (.int k a) (.int k b) K=K (.int k (k.wrap (a*b)))) ∧
  (∀{K:KV} {k:IntKind} {a b:Int} [h:iG b],aa .quo (.int k a) (.int k b) K=K (.int k (k.wrap (a.tdiv b)))) ∧
  (∀{K:KV} {k:IntKind} {a b:Int} [h:iG b],aa .rem (.int k a) (.int k b) K=K (.int k (a.tmod b))) ∧
  (∀{K:KV} {k:IntKind} {a b:Int},aa .and (.int k a) (.int k b) K=K (.int k (k.wrap (BitVec.ofInt k.bits a &&& BitVec.ofInt k.bits b).toNat))) ∧
  (∀{K:KV} {k:IntKind} {a b:Int},aa .or (.int k a) (.int k b) K=K (.int k (k.wrap (BitVec.ofInt k.bits a ||| BitVec.ofInt k.bits b).toNat))) ∧
  (∀{K:KV} {k:IntKind} {a b:Int},aa .xor (.int k a) (.int k b) K=K (.int k (k.wrap (BitVec.ofInt k.bits a ^^^ BitVec.ofInt k.bits b).toNat))) ∧
  (∀{K:KV} {k k2:IntKind} {a b:Int} [h:bl b],aa .shl (.int k a) (.int k2 b) K=K (.int k (k.wrap (a*2 ^ min b.toNat k.bits)))) ∧
  (∀{K:KV} {k k2:IntKind} {a b:Int} [h:bl b],aa .shr (.int k a) (.int k2 b) K=K (.int k (a.fdiv (2 ^ min b.toNat k.bits)))) ∧
  (∀{K:KV} {t:Nat} {x:Value},qm t x K=K (.iface t x)) ∧
  (∀{K:KV} {k k2:IntKind} {a:Int},ii k (.int k2 a) K=K (.int k (k.wrap a))) ∧
  (∀{K:KV} {a b:Bool},fI .eql (.bool a) (.bool b) K=K (.bool (a == b))) ∧
  (∀{K:KV} {a b:Bool},fI .neq (.bool a) (.bool b) K=K (.bool (!(a == b)))) ∧
  (∀{K:KV} {b i:Nat},eW .eql (ptr b i) (.pointer none) K=K (.bool false)) ∧
  (∀{K:KV} {b i:Nat},eW .neq (ptr b i) (.pointer none) K=K (.bool true)) ∧
  (∀{K:KV},eW .eql (.pointer none) (.pointer none) K=K (.bool true)) ∧
  (∀{K:KV},eW .neq (.pointer none) (.pointer none) K=K (.bool false)) ∧
  (∀{K:KV} {ks:List CK} {xs ys:List Value} {t:Bool} [h:uX ks xs ys t],jf ks .eql (.agg xs.toArray) (.agg ys.toArray) K=K (.bool t)) ∧
  (∀{K:KV} {ks:List CK} {xs ys:List Value} {t:Bool} [h:uX ks xs ys t],jf ks .neq (.agg xs.toArray) (.agg ys.toArray) K=K (.bool (!t))) ∧
  (∀{K:KV} {o n:Nat} {cs:List Value} {v:Value} [h:Ju cs o v],oC false o n (.agg cs.toArray) K=K v) ∧
  (∀{K:KV} {o n:Nat} {cs r:List Value} [h:ku cs o n r],oC true o n (.agg cs.toArray) K=K (.agg r.toArray)) ∧
  (∀{K:KV} {i:Nat} {vs:List Value} {v:Value} [h:Ju vs i v],ao i (.tuple vs.toArray) K=K v) ∧
  (∀{K:KV} {zero r:List Value} {ps:List (Nat×Nat×Value)} [h:pW zero ps r],ap zero ps K=K (.agg r.toArray)) ∧
  (∀{K:KV} {k:IntKind} {a b:Int},lR (.int k a) [.int k b] K=K (.int k (if b > a then b else a))) ∧
  (∀{K:KV} {k:IntKind} {a b:Int},iO (.int k a) [.int k b] K=K (.int k (if b<a then b else a))) ∧
  (∀{K:KV} {k:IntKind} {a b c:Int},iO (.int k a) [.int k b,.int k c] K=K (.int k (if c<(if b<a then b else a) then c else (if b<a then b else a)))) ∧
  (∀{A B:World→Prop},ae (.bool true) A B=A) ∧
  (∀{A B:World→Prop},ae (.bool false) A B=B) ∧
  (∀{K:KV} {t:Bool} {A:KV→World→Prop},gW (.bool t) t A K=A K) ∧
  (∀{K:KV} {A:KV→World→Prop},gW (.bool true) false A K=K undef) ∧
  (∀{K:KV} {A:KV→World→Prop},gW (.bool false) true A K=K undef) ∧
  (∀{K:KV} {t:Bool} {A:KV→World→Prop},gW undef t A K=K undef) ∧
  (∀{K:KV} {t:Bool} {A:KV→World→Prop} {e:Value},df (.bool t) t A e K=A K) ∧
  (∀{K:KV} {A:KV→World→Prop} {e:Value},df (.bool true) false A e K=K e) ∧
  (∀{K:KV} {A:KV→World→Prop} {e:Value},df (.bool false) true A e K=K e) ∧
  (∀{K:KV} {p q:Bool},df (.bool p) true (fun K=>K (.bool q)) (.bool false) K=K (.bool (p && q))) ∧
  (∀{K:KV} {p q:Bool},df (.bool p) false (fun K=>K (.bool q)) (.bool true) K=K (.bool (p || q))) :=
 ⟨@So,@Pv,@Sr,@Sj,@Nc,@Mv,@Sv,@SA,@SJ,@SH,@SM,@SP,@QN,@SD,@Sg,@Sn,@Sz,@Po,@Sq,@Qa,@Sw,@SQ,@MP,@P2,@SL,@Sf,@Pi,@Ns,@PG,@Mm,@M5,@Nb,@Qr,@MT,@Hy,@Mo,@SI,@Sy,@Pn,@M2,@Nn,@Um,@SC,@SF,@Uk,@UB,@Sp,@SN,@QD,@SK⟩
section
variable {α:Type}{E:jS α}{w0:bh}{L:List ay}{v:Value}{xs:List α}{K:KV}{sz n bytes:Nat}{zero:List Value}{C:ay→List ay}
theorem be {a:Option Addr}{n c:Nat}:ar (.slice a n c) [.slice a n c]:=inferInstance
theorem G.nilsl {F:World→Prop}(E:jS α)(h:G w0 (sl E (.slice none 0 0) []::L) F):G w0 L F:=fun w H=>h w H.sl_nil
theorem G.isNil [r:Rd w0 L v E sz xs](h:∀t,(t=true→xs=[])→G w0 L (K (.bool t))):G w0 L (eM .eql v (.slice none 0 0) K):=fun w H=>by
 obtain⟨oa,cap,rfl,h1,_⟩:=r.rd w H
 cases oa with
 | none=>exact h true (fun _=>(h1 rfl).1) w H
 | some a=>exact h false (by simp) w H
theorem G.make2 {l c:Nat}(E:jS α)(z:α)(hz:E.enc z=zero)(hl:l≤c)(hc:c≤maxLen)(hb:bytes*c≤140737488355328)(h:∀v,ar v [v]→G w0 (sl E v (List.replicate l z)::L) (K v)) :
  G w0 L (eF bytes zero (i64 l) (i64 c) K):=fun w H=>by
 refine⟨by omega,by omega,by omega,by omega,fun T=>?_⟩
 have e:pQ c zero=(List.replicate l z).flatMap E.enc++pQ (c-l) zero:=by
  have:∀m,pQ m zero=(List.replicate m z).flatMap E.enc:=fun m=>by
   induction m with
   | zero=>simp [pQ]
   | succ m ih=>unfold pQ at *;simp [List.replicate_succ,List.flatMap_cons,ih,hz]
  rw [this,this,←List.flatMap_append,List.replicate_append_replicate,Nat.add_sub_cancel' hl]
 have H2:=H.alloc (pQ c zero) T
 rw [e] at H2
 have hzl:zero.length=E.sz:=by rw [←hz,E.len]
 have:=H2.sl_mk (E:=E) (cap:=c) (by simpa using hl) (by
  have:∀m,(pQ m zero).length=m*E.sz:=fun m=>by
   induction m with
   | zero=>simp [pQ]
   | succ m ih=>unfold pQ at *;simp only [List.replicate_succ,List.flatten_cons,List.length_append,ih,hzl,Nat.add_mul];omega
  simp [this])
 have h2:=h _ be _ this
 rw [←e] at h2
 simpa using h2
theorem G.make (E:jS α)(z:α)(hz:E.enc z=zero)(hc:n≤maxLen)(hb:bytes*n≤140737488355328)(h:∀v,ar v [v]→G w0 (sl E v (List.replicate n z)::L) (K v)) :
  G w0 L (eF bytes zero (i64 n) (i64 n) K):=G.make2 E z hz (Nat.le_refl n) hc hb h
theorem G.build {ps:List (Nat×Nat×Value)}(E:jS α)(xs:List α)(hn:xs.length=n)(hz:n*zero.length≤16777216)(hb:qG (pQ n zero) ps=some (xs.flatMap E.enc))(h:∀v,ar v [v]→G w0 (sl E v xs::L) (K v)) :
  G w0 L (ak zero n ps K):=fun w H=>by
 refine⟨hz,?_⟩
 rw [hb]
 intro T
 have H2:=H.alloc (xs.flatMap E.enc) T
 have:=St.sl_mk (E:=E) (xs:=xs) (rest:=[]) (cap:=n) (by simpa using H2) (by omega) (by simp [hn])
 have h2:=h _ be _ this
 rw [hn] at h2
 exact h2
theorem fy.src {w:World}(h:fy E w v xs)(hx:0<xs.length):qz E.sz v w=some (xs.length,xs.flatMap E.enc):=by
 obtain⟨oa,cap,rfl,h1,h2⟩:=h
 have hl:xs[xs.length-1]? = some xs[xs.length-1]:=List.getElem?_eq_getElem (by omega)
 obtain⟨e,o,cs,rfl,g2,g3,_⟩:=h2 _ _ hl
 rw [show xs.length-1+1=xs.length by omega] at g3
 simp only [qz,show ¬xs.length=0 by omega,if_false,g2,g3,if_true,Option.some.injEq,Prod.mk.injEq,true_and]
 have key:∀(ys:List α) (m:Nat),(∀i x,ys[i]? = some x→(cs.drop (m+i*E.sz)).take E.sz=E.enc x)→m+ys.length*E.sz≤cs.length→(cs.drop m).take (ys.length*E.sz)=ys.flatMap E.enc:=by
  intro ys
  induction ys with
  | nil=>intro m _ _;simp
  | cons y ys ih =>
   intro m hy hm
   simp only [List.length_cons,Nat.add_mul,Nat.one_mul] at hm ⊢
   have h0:=hy 0 y (by simp)
   simp only [Nat.zero_mul,Nat.add_zero] at h0
   have:=ih (m+E.sz) (fun i x hx=>by have:=hy (i+1) x (by simpa using hx);rwa [Nat.add_mul,Nat.one_mul,Nat.add_comm (i*E.sz),←Nat.add_assoc] at this) (by omega)
   rw [List.flatMap_cons,←h0,←this,←List.drop_drop,Nat.add_comm (ys.length*E.sz),List.take_add]
 exact key xs o (fun i x hx=>by
  obtain⟨e',o',cs',k1,k2,_,k4⟩:=h2 i x hx
  simp only [Option.some.injEq,Addr.mk.injEq,and_true] at k1
  obtain⟨rfl,rfl⟩:=k1
  rw [g2] at k2
  cases k2
  exact k4) g3
theorem fy.src' {w:World}(h:fy E w v xs):qz E.sz v w=some (xs.length,xs.flatMap E.enc):=by
 rcases Nat.eq_zero_or_pos xs.length with h0 | h0
 ·have hx:xs=[]:=List.eq_nil_of_length_eq_zero h0
  subst hx
  obtain⟨oa,cap,rfl,h1,h2⟩:=h
  cases oa <;> simp [qz]
 ·exact h.src h0
theorem Rn (a r vs:List Value)(h:vs.length≤r.length):Cq (a++r) a.length vs=a++vs++r.drop vs.length:=by
 have:=Hu vs a r 0 (by omega)
 rw [Nat.add_zero] at this
 rw [this,q8 _ _ _ (by omega)]
 simp
theorem G.append {x:Value}{ys:List α}[r:Rd w0 L x E sz ys][s:oL L v E xs C](h1:(xs.length+ys.length)*bytes≤140737488355328)(h2:xs.length+ys.length≤maxLen)(h:∀u,ar u [u]→G w0 (C (sl E u (xs++ys))) (K u)) :
  G w0 L (av sz bytes v x K):=fun w H=>by
 obtain⟨M,e1,e2⟩:=oo (w0:=w0) s.sel
 have hsrc:=(r.rd w H).src'
 rw [r.sz] at hsrc
 have H1:=(e1 w).1 H
 have hfin:∀{c cap:Nat} {rest:List Value} {w':World},St w0 (own c ((xs++ys).flatMap E.enc++rest)::M) w'→xs.length+ys.length≤cap→rest.length=(cap-(xs.length+ys.length))*sz→K (.slice (some ⟨c,0,none⟩) (xs.length+ys.length) cap) w':=by
  intro c cap rest w' g1 g2 g3
  have:=g1.sl_mk (E:=E) (cap:=cap) (by simpa using g2) (by rw [r.sz];simpa using g3)
  have h3:=h _ be _ ((e2 _ _).2 this)
  simpa using h3
 rcases H1.sl_cases with ⟨rfl,rfl,H2⟩ | ⟨c,cap,rest,rfl,g2,g3,H2⟩
 ·simp only [av,hsrc]
  simp only [List.length_nil,Nat.zero_add,List.nil_append] at h1 h2 hfin h
  refine⟨trivial,trivial,h1,h2,fun h0=>?_,fun h0 c rest T k1 k2 k3=>?_⟩
  ·have hy:ys=[]:=List.eq_nil_of_length_eq_zero h0
   subst hy
   exact h _ be _ ((e2 _ _).2 H2.sl_nil)
  ·exact hfin (H2.drew.alloc _ T) k1 k3
 ·have hm:=H2.own_mem
  simp only [av,hsrc,hm.2.1]
  have hfl:(xs.flatMap E.enc).length=xs.length*sz:=by rw [jC,r.sz]
  have hfy:(ys.flatMap E.enc).length=ys.length*sz:=by rw [jC,r.sz]
  rw [r.sz] at g3
  have hc:cap*sz=xs.length*sz+(cap-xs.length)*sz:=by rw [←Nat.add_mul];congr 1;omega
  refine⟨by simp only [List.length_append,hfl,g3];omega,g2,h1,h2,fun k1=>⟨.inr hm.2.2,Ny E ys,?_⟩,fun k1 c' rest' T k2 k3 k4=>?_⟩
  ·have hle:ys.length*sz≤(cap-xs.length)*sz:=Nat.mul_le_mul_right _ (by omega)
   have:=H2.own_put (cs':=(xs++ys).flatMap E.enc++rest.drop (ys.length*sz))
   have e:Cq (xs.flatMap E.enc++rest) (0+xs.length*sz) (ys.flatMap E.enc)=(xs++ys).flatMap E.enc++rest.drop (ys.length*sz):=by
    rw [Nat.zero_add,←hfl,Rn _ _ _ (by omega),List.flatMap_append,hfy]
   rw [e]
   refine hfin this k1 ?_
   rw [List.length_drop,g3,←Nat.sub_mul];congr 1;omega
  ·have e:(((xs.flatMap E.enc++rest).drop 0).take (xs.length*sz)++ys.flatMap E.enc++rest')=(xs++ys).flatMap E.enc++rest':=by
    rw [List.drop_zero,←hfl,List.take_left,List.flatMap_append]
   rw [e]
   exact hfin (H2.drop.drew.alloc _ T) k2 k4
theorem G.append1 {val:Value}{cs:List Value}{a:α}[s:oL L v E xs C][c:ar val cs][d:gx E cs a](hz:zero.length=E.sz)(hs:E.sz=sz)(hs2:E.sz≤16777216)(h1:(xs.length+1)*bytes≤140737488355328)(h2:xs.length+1≤maxLen)
  (h:∀u,ar u [u]→G w0 (C (sl E u (xs++[a]))) (K u)):G w0 L (ak zero 1 [(0,sz,val)] (fun y w=>av sz bytes v y K w)):=by
 have he:E.enc a=cs:=E.dec_ok _ _ d.eq
 have hl:=E.len a
 subst hs
 refine G.build E [a] rfl (by omega) ?_ fun y _=>?_
 ·have hsz:val.cells.size=E.sz:=by rw [←hl,he,←c.eq];simp
  simp only [qG,hsz,pQ,List.replicate_one,List.flatten_singleton,hz,Nat.zero_add,Nat.le_refl,and_self,if_true,List.flatMap_cons,List.flatMap_nil,List.append_nil,he,c.eq]
  rw [q8 _ _ _ (by rw [←he,hl,hz];omega)]
  have:zero.drop cs.length=[]:=List.drop_eq_nil_of_le (by rw [hz,←he,hl];exact Nat.le_refl _)
  simp [this]
 ·refine G.append (ys:=[a]) (C:=fun A=>S.sl E y [a]::C A) h1 h2 fun u hu=>(h u hu).drop
theorem G.take {m:Nat}[s:oL L v E xs C](hm:m≤xs.length)(h:∀u,ar u [u]→G w0 (C (sl E u (xs.take m))) (K u)):G w0 L (fL sz v none (some (i64 m)) K):=fun w H=>by
 obtain⟨M,e1,e2⟩:=oo (w0:=w0) s.sel
 rcases((e1 w).1 H).sl_cases with ⟨rfl,rfl,H2⟩ | ⟨c,cap,rest,rfl,g2,g3,H2⟩
 ·simp at hm;subst hm
  have:=h _ be _ ((e2 _ _).2 H2.sl_nil)
  simpa [fL,Aw] using this
 ·have hk:xs.flatMap E.enc=(xs.take m).flatMap E.enc++(xs.drop m).flatMap E.enc:=by rw [←List.flatMap_append,List.take_append_drop]
  have H3:=H2
  rw [hk,List.append_assoc] at H3
  have:=H3.sl_mk (E:=E) (xs:=xs.take m) (cap:=cap) (by simp;omega) (by
   simp only [List.length_append,jC,g3,List.length_drop,List.length_take]
   rw [←Nat.add_mul];congr 1;omega)
  have h2:=h _ be _ ((e2 _ _).2 this)
  have e:(xs.take m).length=m:=by simp;omega
  rw [e] at h2
  simp only [fL,Aw,Int.le_refl,true_and]
  refine⟨by omega,by omega,?_⟩
  have:(if cap=0 then some (⟨c,0,none⟩:Addr) else some (⟨c,0,none⟩:Addr))=some ⟨c,0,none⟩:=by split <;> rfl
  have hmc:m≤cap:=by omega
  simpa [pf,hmc] using h2
end
theorem an {a b:Prop}(x:a)(y:b):a∧b:=⟨x,y⟩
theorem gg {A B:Prop}(h:B)(f:B→A:=by intro h;repeat' (first | (with_reducible refine G.joini0 ?_) | (with_reducible refine G.joini1 ?_) | (with_reducible refine G.drew ?_) | (simp (maxSteps:=2000000) only [↓RG,RP,RB,BEq.rfl,Int.reduceEq,Int.reduceLT,Int.reduceLE,Nat.reduceEqDiff]));exact h):A:=f h
theorem gf {P A B:Prop}(p:P)(h:B)(f:P→B→A:=by intro p h;repeat' (first | (with_reducible refine G.joini0 ?_) | (with_reducible refine G.joini1 ?_) | (with_reducible refine G.drew ?_) | (simp (maxSteps:=2000000) only [↓RG,RP,RB,BEq.rfl,Int.reduceEq,Int.reduceLT,Int.reduceLE,Nat.reduceEqDiff,p]));exact h):A:=f p h
theorem gr {A B:Prop}(h:B)(f:B→A:=by intro h;(try simp (maxSteps:=2000000) only [↓RG,RP,RB,BEq.rfl,Int.reduceEq,Int.reduceLT,Int.reduceLE,Nat.reduceEqDiff]);exact h):A:=f h
theorem gu {A B:Prop}(h:B)(f:B→A:=by intro h;(try simp (maxSteps:=2000000) only [Qd,Q2,Pb,O9,RH,Hi]);exact h):A:=f h
theorem eY {P A B:Prop}(p:P)(h:B)(f:P→B→A:=by intro p h;(try simp (maxSteps:=2000000) only [↓RG,RP,RB,BEq.rfl,Int.reduceEq,Int.reduceLT,Int.reduceLE,Nat.reduceEqDiff,p]);exact h):A:=f p h
theorem g0 {A B:Prop}(h:B)(f:B→A:=by intro h;repeat' (first | (with_reducible refine G.joini0 ?_) | (with_reducible refine G.joini1 ?_) | (with_reducible refine G.drew ?_) | (simp (maxSteps:=2000000) only [↓RG,RB,BEq.rfl,Int.reduceEq,Int.reduceLT,Int.reduceLE,Nat.reduceEqDiff]));exact h):A:=f h
theorem gz {A B:Prop}(h:B)(f:B→A:=by intro h;(try simp (maxSteps:=2000000) only [↓RG,RB,BEq.rfl,Int.reduceEq,Int.reduceLT,Int.reduceLE,Nat.reduceEqDiff]);exact h):A:=f h
theorem U0 {P A B:Prop}(p:P)(h:B)(f:P→B→A:=by intro p h;(try simp (maxSteps:=2000000) only [↓RG,RB,BEq.rfl,Int.reduceEq,Int.reduceLT,Int.reduceLE,Nat.reduceEqDiff,p]);exact h):A:=f p h
end Go.Proofs.YtoealglbimbbmaaGreatDoor.S
