import Derived.Test.YtoealglbimbbmaaGreatDoorG
namespace Go.Proofs.YtoealglbimbbmaaGreatDoor.S
open Go Go.Proofs
set_option linter.unusedVariables false
set_option linter.unusedSimpArgs false
structure jY (α:Type) where
 sz:Nat
 enc:α→List Value
 dec:List Value→Option α
 pos:0<sz
 len:∀a,(enc a).length=sz
 ones:∀a,∀u∈enc a,one u=true
 dec_ok:∀cs a,dec cs=some a→enc a=cs
class fk {α:Type}(E:jY α)(a:α)(cs:outParam (List Value)):Prop where
 eq:E.enc a=cs
class fQ {α:Type}(E:jY α)(cs:List Value)(a:outParam α):Prop where
 eq:E.dec cs=some a
class fe {α:Type}(xs:List α)(k:Nat)(x:outParam α):Prop where
 eq:xs[k]? = some x
instance fe.z {α:Type}{a:α}{l:List α}:fe (a::l) 0 a:=⟨rfl⟩
instance fe.s {α:Type}{a b:α}{l:List α}{n:Nat}[h:fe l n a]:fe (b::l) (n+1) a:=⟨by simpa using h.eq⟩
class iQ (i:Int)(k:outParam Nat):Prop where
 eq:i=(k:Int)
instance {k:Nat}:iQ (k:Int) k:=⟨rfl⟩
instance:iQ 0 0:=⟨rfl⟩
instance:iQ 1 1:=⟨rfl⟩
instance:iQ 2 2:=⟨rfl⟩
instance:iQ 3 3:=⟨rfl⟩
instance:iQ 4 4:=⟨rfl⟩
instance:iQ 5 5:=⟨rfl⟩
instance:iQ 6 6:=⟨rfl⟩
instance:iQ 7 7:=⟨rfl⟩
instance:iQ 8 8:=⟨rfl⟩
instance:iQ 9 9:=⟨rfl⟩
instance:iQ 10 10:=⟨rfl⟩
instance:iQ 11 11:=⟨rfl⟩
instance:iQ 12 12:=⟨rfl⟩
instance:iQ 13 13:=⟨rfl⟩
instance:iQ 14 14:=⟨rfl⟩
instance:iQ 15 15:=⟨rfl⟩
instance:iQ 16 16:=⟨rfl⟩
instance:iQ 17 17:=⟨rfl⟩
instance:iQ 18 18:=⟨rfl⟩
instance:iQ 19 19:=⟨rfl⟩
instance:iQ 20 20:=⟨rfl⟩
instance:iQ 21 21:=⟨rfl⟩
instance:iQ 22 22:=⟨rfl⟩
instance:iQ 23 23:=⟨rfl⟩
instance:iQ 24 24:=⟨rfl⟩
instance:iQ 25 25:=⟨rfl⟩
instance:iQ 26 26:=⟨rfl⟩
instance:iQ 27 27:=⟨rfl⟩
instance:iQ 28 28:=⟨rfl⟩
instance:iQ 29 29:=⟨rfl⟩
instance:iQ 30 30:=⟨rfl⟩
instance:iQ 31 31:=⟨rfl⟩
instance:iQ 32 32:=⟨rfl⟩
instance:iQ 33 33:=⟨rfl⟩
instance:iQ 34 34:=⟨rfl⟩
instance:iQ 35 35:=⟨rfl⟩
instance:iQ 36 36:=⟨rfl⟩
instance:iQ 37 37:=⟨rfl⟩
instance:iQ 38 38:=⟨rfl⟩
instance:iQ 39 39:=⟨rfl⟩
instance:iQ 40 40:=⟨rfl⟩
instance:iQ 41 41:=⟨rfl⟩
instance:iQ 42 42:=⟨rfl⟩
instance:iQ 43 43:=⟨rfl⟩
instance:iQ 44 44:=⟨rfl⟩
instance:iQ 45 45:=⟨rfl⟩
instance:iQ 46 46:=⟨rfl⟩
instance:iQ 47 47:=⟨rfl⟩
instance:iQ 48 48:=⟨rfl⟩
instance:iQ 49 49:=⟨rfl⟩
instance:iQ 50 50:=⟨rfl⟩
instance:iQ 51 51:=⟨rfl⟩
instance:iQ 52 52:=⟨rfl⟩
instance:iQ 53 53:=⟨rfl⟩
instance:iQ 54 54:=⟨rfl⟩
instance:iQ 55 55:=⟨rfl⟩
instance:iQ 56 56:=⟨rfl⟩
instance:iQ 57 57:=⟨rfl⟩
instance:iQ 58 58:=⟨rfl⟩
instance:iQ 59 59:=⟨rfl⟩
instance:iQ 60 60:=⟨rfl⟩
instance:iQ 61 61:=⟨rfl⟩
instance:iQ 62 62:=⟨rfl⟩
instance:iQ 63 63:=⟨rfl⟩
instance:iQ 64 64:=⟨rfl⟩
class ye (i n:Nat)(m:outParam Nat):Prop where
 eq:i+n=m
instance (priority:=1200){n:Nat}:ye 0 n n:=⟨Nat.zero_add n⟩
instance (priority:=1100){i:Nat}:ye i 0 i:=⟨rfl⟩
instance {i n:Nat}:ye i n (i+n):=⟨rfl⟩
class iT (b:Int):Prop where
 ne:b≠0
class br (b:Int):Prop where
 le:0≤b
instance {k:Nat}:br (k:Int):=⟨by omega⟩
instance:br 0:=⟨by decide⟩
instance:br 1:=⟨by decide⟩
instance:br 2:=⟨by decide⟩
instance:br 3:=⟨by decide⟩
instance:br 4:=⟨by decide⟩
instance:br 5:=⟨by decide⟩
instance:br 6:=⟨by decide⟩
instance:br 7:=⟨by decide⟩
instance:br 8:=⟨by decide⟩
instance:br 9:=⟨by decide⟩
instance:br 10:=⟨by decide⟩
instance:br 11:=⟨by decide⟩
instance:br 12:=⟨by decide⟩
instance:br 13:=⟨by decide⟩
instance:br 14:=⟨by decide⟩
instance:br 15:=⟨by decide⟩
instance:br 16:=⟨by decide⟩
instance:br 17:=⟨by decide⟩
instance:br 18:=⟨by decide⟩
instance:br 19:=⟨by decide⟩
instance:br 20:=⟨by decide⟩
instance:br 21:=⟨by decide⟩
instance:br 22:=⟨by decide⟩
instance:br 23:=⟨by decide⟩
instance:br 24:=⟨by decide⟩
instance:br 25:=⟨by decide⟩
instance:br 26:=⟨by decide⟩
instance:br 27:=⟨by decide⟩
instance:br 28:=⟨by decide⟩
instance:br 29:=⟨by decide⟩
instance:br 30:=⟨by decide⟩
instance:br 31:=⟨by decide⟩
instance:br 32:=⟨by decide⟩
instance:br 33:=⟨by decide⟩
instance:br 34:=⟨by decide⟩
instance:br 35:=⟨by decide⟩
instance:br 36:=⟨by decide⟩
instance:br 37:=⟨by decide⟩
instance:br 38:=⟨by decide⟩
instance:br 39:=⟨by decide⟩
instance:br 40:=⟨by decide⟩
instance:br 41:=⟨by decide⟩
instance:br 42:=⟨by decide⟩
instance:br 43:=⟨by decide⟩
instance:br 44:=⟨by decide⟩
instance:br 45:=⟨by decide⟩
instance:br 46:=⟨by decide⟩
instance:br 47:=⟨by decide⟩
instance:br 48:=⟨by decide⟩
instance:br 49:=⟨by decide⟩
instance:br 50:=⟨by decide⟩
instance:br 51:=⟨by decide⟩
instance:br 52:=⟨by decide⟩
instance:br 53:=⟨by decide⟩
instance:br 54:=⟨by decide⟩
instance:br 55:=⟨by decide⟩
instance:br 56:=⟨by decide⟩
instance:br 57:=⟨by decide⟩
instance:br 58:=⟨by decide⟩
instance:br 59:=⟨by decide⟩
instance:br 60:=⟨by decide⟩
instance:br 61:=⟨by decide⟩
instance:br 62:=⟨by decide⟩
instance:br 63:=⟨by decide⟩
instance:br 64:=⟨by decide⟩
instance:iT 1:=⟨by decide⟩
instance:iT 2:=⟨by decide⟩
instance:iT 3:=⟨by decide⟩
instance:iT 4:=⟨by decide⟩
instance:iT 5:=⟨by decide⟩
instance:iT 6:=⟨by decide⟩
instance:iT 7:=⟨by decide⟩
instance:iT 8:=⟨by decide⟩
instance:iT 9:=⟨by decide⟩
instance:iT 10:=⟨by decide⟩
instance:iT 11:=⟨by decide⟩
instance:iT 12:=⟨by decide⟩
instance:iT 13:=⟨by decide⟩
instance:iT 14:=⟨by decide⟩
instance:iT 15:=⟨by decide⟩
instance:iT 16:=⟨by decide⟩
instance:iT 17:=⟨by decide⟩
instance:iT 18:=⟨by decide⟩
instance:iT 19:=⟨by decide⟩
instance:iT 20:=⟨by decide⟩
instance:iT 21:=⟨by decide⟩
instance:iT 22:=⟨by decide⟩
instance:iT 23:=⟨by decide⟩
instance:iT 24:=⟨by decide⟩
instance:iT 25:=⟨by decide⟩
instance:iT 26:=⟨by decide⟩
instance:iT 27:=⟨by decide⟩
instance:iT 28:=⟨by decide⟩
instance:iT 29:=⟨by decide⟩
instance:iT 30:=⟨by decide⟩
instance:iT 31:=⟨by decide⟩
instance:iT 32:=⟨by decide⟩
instance:iT 33:=⟨by decide⟩
instance:iT 34:=⟨by decide⟩
instance:iT 35:=⟨by decide⟩
instance:iT 36:=⟨by decide⟩
instance:iT 37:=⟨by decide⟩
instance:iT 38:=⟨by decide⟩
instance:iT 39:=⟨by decide⟩
instance:iT 40:=⟨by decide⟩
instance:iT 41:=⟨by decide⟩
instance:iT 42:=⟨by decide⟩
instance:iT 43:=⟨by decide⟩
instance:iT 44:=⟨by decide⟩
instance:iT 45:=⟨by decide⟩
instance:iT 46:=⟨by decide⟩
instance:iT 47:=⟨by decide⟩
instance:iT 48:=⟨by decide⟩
instance:iT 49:=⟨by decide⟩
instance:iT 50:=⟨by decide⟩
instance:iT 51:=⟨by decide⟩
instance:iT 52:=⟨by decide⟩
instance:iT 53:=⟨by decide⟩
instance:iT 54:=⟨by decide⟩
instance:iT 55:=⟨by decide⟩
instance:iT 56:=⟨by decide⟩
instance:iT 57:=⟨by decide⟩
instance:iT 58:=⟨by decide⟩
instance:iT 59:=⟨by decide⟩
instance:iT 60:=⟨by decide⟩
instance:iT 61:=⟨by decide⟩
instance:iT 62:=⟨by decide⟩
instance:iT 63:=⟨by decide⟩
instance:iT 64:=⟨by decide⟩
instance:iT 256:=⟨by decide⟩
instance:iT 255:=⟨by decide⟩
class ut (ks:List CK)(xs ys:List Value)(t:outParam Bool):Prop where
 f1:gI ks xs
 f2:gI ks ys
 eq:eO xs ys=t
instance ut.i1 {k:IntKind}{a b:Int}:ut [.i k] [.int k a] [.int k b] (decide (a=b)):=⟨⟨rfl,trivial⟩,⟨rfl,trivial⟩,by simp [eO];rfl⟩
instance ut.b1 {a b:Bool}:ut [.b] [.bool a] [.bool b] (a == b):=⟨trivial,trivial,by simp [eO]⟩
instance (priority:=500) ut.i {ks:List CK}{xs ys:List Value}{t:Bool}{k:IntKind}{a b:Int}[h:ut ks xs ys t]:ut (.i k::ks) (.int k a::xs) (.int k b::ys) (decide (a=b) && t):=⟨⟨rfl,h.f1⟩,⟨rfl,h.f2⟩,by simp [eO,h.eq];rfl⟩
instance (priority:=500) ut.b {ks:List CK}{xs ys:List Value}{t a b:Bool}[h:ut ks xs ys t]:ut (.b::ks) (.bool a::xs) (.bool b::ys) ((a == b) && t):=⟨h.f1,h.f2,by simp [eO,h.eq]⟩
class pC (zero:List Value)(ps:List (Nat×Nat×Value))(r:outParam (List Value)):Prop where
 eq:qo zero ps=some r
instance pC.nil {z:List Value}:pC z [] z:=⟨rfl⟩
instance pC.cons {z vs z' r:List Value}{o n:Nat}{v:Value}{ps:List (Nat×Nat×Value)}[hv:bf v vs][hl:CC vs n][hs:rl z o vs z'][h:pC z' ps r]:pC z ((o,n,v)::ps) r:=⟨by
 have h1:v.cells.size=n:=by rw [←hl.eq,←hv.eq];simp
 have h2:=hs.le
 rw [hl.eq] at h2
 simp only [qo,h1,h2,and_self,if_true,hv.eq,hs.eq]
 exact h.eq⟩
section
variable {α:Type}(E:jY α)
theorem jx (xs:List α):(xs.flatMap E.enc).length=xs.length*E.sz:=by
 induction xs with
 | nil=>simp
 | cons x xs ih=>simp [ih,E.len,Nat.add_mul];omega
theorem sC (rest:List Value):∀(xs:List α)(i:Nat)(x:α),xs[i]? = some x→((xs.flatMap E.enc++rest).drop (i*E.sz)).take E.sz=E.enc x
 | [],i,x,h=>by simp at h
 | y::xs,0,x,h=>by
  simp at h;subst h
  have:=E.len y
  simp [List.flatMap_cons,List.append_assoc,←this]
 | y::xs,i+1,x,h=>by
  have:=E.len y
  rw [List.flatMap_cons,List.append_assoc,show (i+1)*E.sz=(E.enc y).length+i*E.sz by rw [this,Nat.add_mul];omega,List.drop_append,List.drop_eq_nil_of_le (by omega),List.nil_append,Nat.add_sub_cancel_left]
  exact sC rest xs i x (by simpa using h)
theorem Pg:∀(vs a b:List Value)(j:Nat),j+vs.length≤a.length→BE (a++b) j vs=BE a j vs++b:=fun vs a b j h=>by
 rw [pY _ _ _ (by simp;omega),pY _ _ _ h]
 rw [List.take_append_of_le_length (by omega),List.drop_append_of_le_length h]
 simp
theorem Gy (vs a b:List Value)(j:Nat)(h:j+vs.length≤b.length):BE (a++b) (a.length+j) vs=a++BE b j vs:=by
 rw [pY _ _ _ (by simp;omega),pY _ _ _ h]
 rw [show a.length+j+vs.length=a.length+(j+vs.length) by omega,List.take_append,List.drop_append,List.take_of_length_le (by omega),List.drop_eq_nil_of_le (by omega),Nat.add_sub_cancel_left,Nat.add_sub_cancel_left]
 simp
theorem ER (rest:List Value)(vs:List Value)(j:Nat)(a':α):∀(xs:List α)(i:Nat)(a:α),xs[i]? = some a→j+vs.length≤E.sz→E.enc a'=BE (E.enc a) j vs →
  BE (xs.flatMap E.enc++rest) (i*E.sz+j) vs=(xs.set i a').flatMap E.enc++rest
 | [],i,a,h,_,_=>by simp at h
 | y::xs,0,a,h,hj,he=>by
  simp at h;subst h
  have:=E.len y
  simp only [List.flatMap_cons,List.append_assoc,Nat.zero_mul,Nat.zero_add,List.set_cons_zero]
  rw [Pg _ _ _ _ (by omega),he]
 | y::xs,i+1,a,h,hj,he=>by
  have:=E.len y
  have hlt:i<xs.length:=by
   rcases Nat.lt_or_ge i xs.length with h1 | h1
   ·exact h1
   ·simp [List.getElem?_eq_none h1] at h
  have hle:(i+1)*E.sz≤xs.length*E.sz:=Nat.mul_le_mul_right _ hlt
  simp only [List.flatMap_cons,List.append_assoc,List.set_cons_succ]
  rw [show (i+1)*E.sz+j=(E.enc y).length+(i*E.sz+j) by rw [this,Nat.add_mul];omega,Gy _ _ _ _ (by simp only [List.length_append,jx];rw [Nat.add_mul] at hle;omega)]
  rw [ER rest vs j a' xs i a (by simpa using h) hj he]
theorem OG (xs:List α):∀u∈xs.flatMap E.enc,one u=true:=fun u hu=>by
 obtain⟨x,_,h⟩:=List.mem_flatMap.1 hu
 exact E.ones x u h
def eZ (w:World)(v:Value)(xs:List α):Prop :=
 ∃oa cap,v=.slice oa xs.length cap∧(oa=none→xs=[]∧cap=0)∧∀i x,xs[i]? = some x→∃e o cs,oa=some ⟨e,o,none⟩∧mem w e=some cs∧o+(i+1)*E.sz≤cs.length∧(cs.drop (o+i*E.sz)).take E.sz=E.enc x
def RE (v:Value)(xs:List α):bd:=fun h=>(v=.slice none 0 0∧xs=[]∧LR h) ∨
 ∃c cap rest,v=.slice (some ⟨c,0,none⟩) xs.length cap∧xs.length≤cap∧rest.length=(cap-xs.length)*E.sz∧oU c (xs.flatMap E.enc++rest) h
end
abbrev sl {α:Type}(E:jY α)(v:Value)(xs:List α):bd:=ob (RE E) v xs
section
variable {α:Type}{E:jY α}{w0:bo}{L:List bd}{v:Value}{xs:List α}{w:World}
theorem St.sl_cases (H:St w0 (sl E v xs::L) w):(v=.slice none 0 0∧xs=[]∧St w0 L w) ∨
  ∃c cap rest,v=.slice (some ⟨c,0,none⟩) xs.length cap∧xs.length≤cap∧rest.length=(cap-xs.length)*E.sz∧St w0 (own c (xs.flatMap E.enc++rest)::L) w:=by
 obtain⟨h,⟨a,b,ha,hb,j⟩,hd⟩:=id H
 rw [show sl E v xs=RE E v xs from em _ _ _] at ha
 rcases ha with ⟨h1,h2,h3⟩ | ⟨c,cap,rest,h1,h2,h3,h4⟩
 ·exact .inl ⟨h1,h2,H.drop⟩
 ·exact .inr ⟨c,cap,rest,h1,h2,h3,h,⟨a,b,by rw [show own c (xs.flatMap E.enc++rest)=oU c _ from em _ _ _];exact h4,hb,j⟩,hd⟩
theorem St.sl_mk {c cap:Nat}{rest:List Value}(H:St w0 (own c (xs.flatMap E.enc++rest)::L) w)(h2:xs.length≤cap)(h3:rest.length=(cap-xs.length)*E.sz):St w0 (sl E (.slice (some ⟨c,0,none⟩) xs.length cap) xs::L) w:=by
 obtain⟨h,⟨a,b,ha,hb,j⟩,hd⟩:=H
 rw [show own c (xs.flatMap E.enc++rest)=oU c _ from em _ _ _] at ha
 exact⟨h,⟨a,b,by rw [show sl E (.slice (some ⟨c,0,none⟩) xs.length cap) xs=RE E _ xs from em _ _ _];exact .inr ⟨c,cap,rest,rfl,h2,h3,ha⟩,hb,j⟩,hd⟩
theorem St.sl_nil (H:St w0 L w):St w0 (sl E (.slice none 0 0) []::L) w:=by
 obtain⟨h,hs,hd⟩:=H
 refine⟨h,?_,hd⟩
 have h2:bt LR (di L) h:=by rw [qj];exact hs
 obtain⟨a,b,h1,h2,j⟩:=h2
 exact⟨a,b,by rw [show sl E (.slice none 0 0) ([]:List α)=RE E _ [] from em _ _ _];exact .inl ⟨rfl,rfl,h1⟩,h2,j⟩
theorem eZ.mk {c cap:Nat}{rest:List Value}(hm:mem w c=some (xs.flatMap E.enc++rest)):eZ E w (.slice (some ⟨c,0,none⟩) xs.length cap) xs :=
 ⟨some ⟨c,0,none⟩,cap,rfl,by simp,fun i x hx=>⟨c,0,_,rfl,hm,by
  have:i<xs.length:=by
   rcases Nat.lt_or_ge i xs.length with h | h
   ·exact h
   ·simp [List.getElem?_eq_none h] at hx
  have:=Nat.mul_le_mul_right E.sz (show i+1≤xs.length from this)
  simp only [List.length_append,jx];omega,by rw [Nat.zero_add];exact sC E rest xs i x hx⟩⟩
theorem St.sl_is (H:St w0 (sl E v xs::L) w):eZ E w v xs:=by
 rcases H.sl_cases with ⟨rfl,rfl,_⟩ | ⟨c,cap,rest,rfl,_,_,H2⟩
 ·exact⟨none,0,rfl,fun _=>⟨rfl,rfl⟩,fun i x hx=>by simp at hx⟩
 ·exact eZ.mk H2.own_mem.2.1
end
class IZ {α:outParam Type}(w0:bo)(v:Value)(E:outParam (jY α))(xs:outParam (List α)):Prop where
 is:eZ E w0.w v xs
class Rd {α:outParam Type}(w0:bo)(L:List bd)(v:Value)(E:outParam (jY α))(sz:outParam Nat)(xs:outParam (List α)):Prop where
 sz:E.sz=sz
 rd:∀w,St w0 L w→eZ E w v xs
section
variable {α:Type}{E:jY α}{w0:bo}{L:List bd}{v:Value}{xs:List α}{w:World}
theorem eZ.step {w':World}(h:eZ E w v xs)(s:jd [] w w'):eZ E w' v xs:=by
 obtain⟨oa,cap,h1,h2,h3⟩:=h
 refine⟨oa,cap,h1,h2,fun i x hx=>?_⟩
 obtain⟨e,o,cs,g1,g2,g3,g4⟩:=h3 i x hx
 exact⟨e,o,cs,g1,s.mem_some g2 (by simp),g3,g4⟩
instance Rd.sl:Rd w0 (sl E v xs::L) v E E.sz xs:=⟨rfl,fun w H=>H.sl_is⟩
instance (priority:=500) Rd.tl {X:bd}{sz:Nat}[h:Rd w0 L v E sz xs]:Rd w0 (X::L) v E sz xs:=⟨h.sz,fun w H=>h.rd w H.drop⟩
instance (priority:=1100) Rd.arg [h:IZ w0 v E xs]:Rd w0 L v E E.sz xs:=⟨rfl,fun w H=>h.is.step H.step⟩
instance IZ.with {k:Nat→Option Obj}{m:Nat}[h:IZ w0 v E xs]:IZ (w0.with k m) v E xs:=⟨h.is⟩
theorem Rd.frame {sz:Nat}{C:bd→List bd}{M:List bd}(hM:∀A,di (C A)=di (A::M))(r:∀A,Rd w0 (C A) v E sz xs):Rd w0 M v E sz xs:=⟨(r LR).sz,fun w H=>(r LR).rd w (by
 obtain⟨h,hs,hd⟩:=H
 refine⟨h,?_,hd⟩
 rw [hM]
 show bt LR (di M) h
 rw [qj];exact hs)⟩
class oK {α:outParam Type}(L:List bd)(v:Value)(E:outParam (jY α))(xs:outParam (List α))(C:outParam (bd→List bd)):Prop where
 sel:au L (RE E) v xs C
instance oK.hd:oK (S.sl E v xs::L) v E xs (fun a=>a::L):=⟨au.hd⟩
instance (priority:=500) oK.tl {X:bd}{C:bd→List bd}[h:oK L v E xs C]:oK (X::L) v E xs (fun a=>X::C a):=⟨@au.tl _ _ _ _ _ _ _ _ h.sel⟩
instance oK.ob {C:bd→List bd}[h:oK L v E xs C]:au L (RE E) v xs C:=h.sel
theorem nD {C:bd→List bd}(i:au L (RE E) v xs C):∃M,(∀w,St w0 L w↔St w0 (S.sl E v xs::M) w)∧(∀A w,St w0 (C A) w↔St w0 (A::M) w):=by
 obtain⟨M,e1,e2,_⟩:=i.fronts
 exact⟨M,fun w=>by unfold St;rw [e1],fun A w=>by unfold St;rw [e2]⟩
def ep (v:Value)(sz k j:Nat):Value:=match v with
 | .slice (some ⟨c,o,none⟩) _ _=>ptr c (o+k*sz+j)
 | _=>undef
variable {K:KV}{sz k j n:Nat}{x:α}
theorem Rd.at [r:Rd w0 L v E sz xs][e:fe xs k x](H:St w0 L w):∃b o cap cs,v=.slice (some ⟨b,o,none⟩) xs.length cap∧mem w b=some cs∧o+(k+1)*sz≤cs.length∧(cs.drop (o+k*sz)).take sz=E.enc x∧k<xs.length:=by
 obtain⟨oa,cap,rfl,_,h⟩:=r.rd w H
 obtain⟨b,o,cs,rfl,h1,h2,h3⟩:=h k x e.eq
 rw [r.sz] at h2 h3
 exact⟨b,o,cap,cs,rfl,h1,h2,h3,by
  rcases Nat.lt_or_ge k xs.length with h | h
  ·exact h
  ·have:=e.eq;simp [List.getElem?_eq_none h] at this⟩
theorem yY {F F':World→Prop}(h:∀w,St w0 L w→(F w↔F' w)):G w0 L F=G w0 L F':=propext ⟨fun g w H=>(h w H).1 (g w H),fun g w H=>(h w H).2 (g w H)⟩
theorem Uf [r:Rd w0 L v E sz xs]:G w0 L (cv v K)=G w0 L (K (i64 xs.length)):=yY fun w H=>by
 obtain⟨oa,cap,rfl,_⟩:=r.rd w H
 exact Iff.rfl
theorem Uw {kd:IntKind}{i:Int}[r:Rd w0 L v E sz xs][hi:iQ i k][e:fe xs k x]:G w0 L (ch sz v (.int kd i) K)=G w0 L (K (ep v sz k 0)):=yY fun w H=>by
 obtain⟨b,o,cap,cs,rfl,_,_,_,hk⟩:=Rd.at (x:=x) (k:=k) (r:=r) H
 have:=hi.eq
 subst this
 simp [ch,ep,hk]
theorem QJ {m:Nat}[r:Rd w0 L v E sz xs][e:fe xs k x][a:ye j n m]:G w0 L (ac n (ep v sz k j) K)=G w0 L (K (ep v sz k m)):=yY fun w H=>by
 have:=a.eq
 subst this
 obtain⟨b,o,cap,cs,rfl,_⟩:=Rd.at (x:=x) (k:=k) (r:=r) H
 simp [ac,ep,Nat.add_assoc]
theorem QC [r:Rd w0 L v E sz xs][e:fe xs k x]:G w0 L (aj (ep v sz k j) K)=G w0 L (K (ep v sz k j)):=yY fun w H=>by
 obtain⟨b,o,cap,cs,rfl,_⟩:=Rd.at (x:=x) (k:=k) (r:=r) H
 simp [aj,ep]
theorem OT {u:Value}{cs:List Value}[r:Rd w0 L v E sz xs][e:fe xs k x][c:fk E x cs][h:IY cs j u]:G w0 L (aa (ep v sz k j) K)=G w0 L (K u):=yY fun w H=>by
 obtain⟨b,o,cap,ds,rfl,h1,h2,h3,_⟩:=Rd.at (x:=x) (k:=k) (r:=r) H
 have h4:=h.eq
 rw [←c.eq,←h3,List.getElem?_take] at h4
 split at h4
 ·rw [List.getElem?_drop] at h4
  simp [aa,ep,h1,h4,du]
 ·cases h4
theorem K9 {cs q:List Value}[r:Rd w0 L v E sz xs][e:fe xs k x][c:fk E x cs][h:ke cs j n q]:G w0 L (ak n (ep v sz k j) K)=G w0 L (K (.agg q.toArray)):=yY fun w H=>by
 obtain⟨b,o,cap,ds,rfl,h1,h2,h3,_⟩:=Rd.at (x:=x) (k:=k) (r:=r) H
 have h4:=h.eq
 have h5:=h.le
 have h6:cs.length=sz:=by rw [←c.eq,E.len,r.sz]
 rw [←c.eq,←h3,List.drop_take,List.take_take,List.drop_drop,Nat.min_eq_left (by omega)] at h4
 rw [Nat.add_mul] at h2
 simp [ak,ep,h1,h4,show o+k*sz+j+n≤ds.length by omega]
theorem LH {val:Value}{cs vs q:List Value}{x':α}{C:bd→List bd}[r:Rd w0 L v E sz xs][s:oK L v E xs C][e:fe xs k x][c:fk E x cs][hv:bf val vs][hl:CC vs n][hr:rl cs j vs q][hd:fQ E q x'] :
  G w0 L (ah n (ep v sz k j) val K)=G w0 (C (S.sl E v (xs.set k x'))) (K undef):=by
 obtain⟨M,e1,e2⟩:=nD (w0:=w0) s.sel
 have hsz:val.cells.size=n:=by rw [←hl.eq,←hv.eq];simp
 have henc:E.enc x'=BE (E.enc x) j vs:=by rw [E.dec_ok _ _ hd.eq,c.eq,hr.eq]
 have hj:j+vs.length≤E.sz:=by have:=hr.le;rw [←c.eq,E.len] at this;exact this
 have hk:k<xs.length:=by
  rcases Nat.lt_or_ge k xs.length with h | h
  ·exact h
  ·have:=e.eq;simp [List.getElem?_eq_none h] at this
 have hkl:=Nat.mul_le_mul_right E.sz (show k+1≤xs.length from hk)
 rw [Nat.add_mul] at hkl
 apply propext
 constructor
 ·intro g w H
  have H1:=(e2 _ w).1 H
  rcases H1.sl_cases with ⟨_,h0,_⟩ | ⟨b,cap,rest,hv',h2,h3,H2⟩
  ·have:(xs.set k x').length=0:=by rw [h0];rfl
   simp at this;subst this;simp at hk
  ·rw [List.length_set] at hv' h2 h3
   subst hv'
   have H3:=H2.own_put (cs':=xs.flatMap E.enc++rest)
   have H4:=(e1 _).2 (H3.sl_mk h2 h3)
   have h5:=g _ H4
   have hm:=H3.own_mem
   simp only [ah,ep,hm.2.1,hm.2.2,hsz,hv.eq,Nat.zero_add,←r.sz] at h5
   have h6:=h5.2.2.2.2
   rw [ER E rest vs j x' xs k x e.eq hj henc,H7,Az H2.own_mem.2.1] at h6
   exact h6
 ·intro g w H
  have H1:=(e1 w).1 H
  rcases H1.sl_cases with ⟨_,rfl,_⟩ | ⟨b,cap,rest,rfl,h2,h3,H2⟩
  ·simp at hk
  ·have hm:=H2.own_mem
   simp only [ah,ep,hm.2.1,hm.2.2,hsz,hv.eq,Nat.zero_add,←r.sz]
   refine⟨trivial,hv.ones,trivial,by have:=hl.eq;simp only [List.length_append,jx];omega,?_⟩
   rw [ER E rest vs j x' xs k x e.eq hj henc]
   refine g _ ((e2 _ _).2 ?_)
   have:=(H2.own_put (cs':=(xs.set k x').flatMap E.enc++rest)).sl_mk (E:=E) (xs:=xs.set k x') (cap:=cap) (by simpa using h2) (by simpa using h3)
   simpa using this
end
section
variable {w0:bo}{L:List bd}{K:KV}
theorem ST {b i:Nat}:aj (ptr b i) K=K (ptr b i):=by funext w <;> simp [aj]
theorem O9 {f:FuncId}{x y:Array Value}:aj (.func (.func f) x y) K=K (.func (.func f) x y):=by funext w <;> simp [aj]
theorem SE {b i n m:Nat}[h:ye i n m]:ac n (ptr b i) K=K (ptr b m):=by funext w <;> simp [ac,h.eq]
theorem SC {t:Bool}:gA (.bool t) K=K (.bool (!t)):=by funext w <;> simp [gA]
theorem ML {x y:Value}:bp (.bool true) x y K=K x:=by funext w <;> simp [bp]
theorem Ng {x y:Value}:bp (.bool false) x y K=K y:=by funext w <;> simp [bp]
theorem SL {k:IntKind}{a b:Int}:ab .lss (.int k a) (.int k b) K=K (.bool (decide (a<b))):=by funext w <;> simp [ab,jW,du,Bool.beq_eq_decide_eq]
theorem Su {k:IntKind}{a b:Int}:ab .leq (.int k a) (.int k b) K=K (.bool (decide (a≤b))):=by funext w <;> simp [ab,jW,du,Bool.beq_eq_decide_eq]
theorem Sz {k:IntKind}{a b:Int}:ab .gtr (.int k a) (.int k b) K=K (.bool (decide (b<a))):=by funext w <;> simp [ab,jW,du,Bool.beq_eq_decide_eq]
theorem SG {k:IntKind}{a b:Int}:ab .geq (.int k a) (.int k b) K=K (.bool (decide (b≤a))):=by funext w <;> simp [ab,jW,du,Bool.beq_eq_decide_eq]
theorem S3 {k:IntKind}{a b:Int}:ab .eql (.int k a) (.int k b) K=K (.bool (decide (a=b))):=by funext w <;> simp [ab,jW,du,Bool.beq_eq_decide_eq]
theorem SX {k:IntKind}{a b:Int}:ab .neq (.int k a) (.int k b) K=K (.bool (!decide (a=b))):=by funext w <;> simp [ab,jW,du,bne,Bool.beq_eq_decide_eq]
theorem QM {k:IntKind}{a b:Int}:ab .add (.int k a) (.int k b) K=K (.int k (k.wrap (a+b))):=by funext w <;> simp [ab,jW,du]
theorem Sy {k:IntKind}{a b:Int}:ab .sub (.int k a) (.int k b) K=K (.int k (k.wrap (a-b))):=by funext w <;> simp [ab,jW,du]
theorem SS {k:IntKind}{a b:Int}:ab .mul (.int k a) (.int k b) K=K (.int k (k.wrap (a*b))):=by funext w <;> simp [ab,jW,du]
theorem SF {k:IntKind}{a b:Int}[h:iT b]:ab .quo (.int k a) (.int k b) K=K (.int k (k.wrap (a.tdiv b))):=by funext w <;> simp [ab,jW,du,h.ne]
theorem SZ {k:IntKind}{a b:Int}[h:iT b]:ab .rem (.int k a) (.int k b) K=K (.int k (a.tmod b)):=by funext w <;> simp [ab,jW,du,h.ne]
theorem Pz {k:IntKind}{a b:Int}:ab .and (.int k a) (.int k b) K=K (.int k (k.wrap (BitVec.ofInt k.bits a &&& BitVec.ofInt k.bits b).toNat)):=by funext w <;> simp [ab,jW,du]
theorem SN {k:IntKind}{a b:Int}:ab .or (.int k a) (.int k b) K=K (.int k (k.wrap (BitVec.ofInt k.bits a ||| BitVec.ofInt k.bits b).toNat)):=by funext w <;> simp [ab,jW,du]
theorem PR {k:IntKind}{a b:Int}:ab .xor (.int k a) (.int k b) K=K (.int k (k.wrap (BitVec.ofInt k.bits a ^^^ BitVec.ofInt k.bits b).toNat)):=by funext w <;> simp [ab,jW,du]
theorem SB {k k2:IntKind}{a b:Int}[h:br b]:ab .shl (.int k a) (.int k2 b) K=K (.int k (k.wrap (a*2 ^ min b.toNat k.bits))):=by funext w <;> simp [ab,h.le]
theorem SR {k k2:IntKind}{a b:Int}[h:br b]:ab .shr (.int k a) (.int k2 b) K=K (.int k (a.fdiv (2 ^ min b.toNat k.bits))):=by funext w <;> simp [ab,h.le]
theorem Ml {t:Nat}{x:Value}:qF t x K=K (.iface t x):=by funext w <;> simp [qF]
theorem Qd {k k2:IntKind}{a:Int}:fo k (.int k2 a) K=K (.int k (k.wrap a)):=by funext w <;> simp [fo]
theorem SM {a b:Bool}:fw .eql (.bool a) (.bool b) K=K (.bool (a == b)):=by funext w <;> simp [fw,D7]
theorem SO {a b:Bool}:fw .neq (.bool a) (.bool b) K=K (.bool (!(a == b))):=by funext w <;> simp [fw,D7]
theorem Qp {b i:Nat}:dY .eql (ptr b i) (.pointer none) K=K (.bool false):=by funext w <;> simp [dY,D7]
theorem Mq {b i:Nat}:dY .neq (ptr b i) (.pointer none) K=K (.bool true):=by funext w <;> simp [dY,D7]
theorem QQ  : dY .eql (.pointer none) (.pointer none) K=K (.bool true):=by funext w <;> simp [dY,D7]
theorem Mv  : dY .neq (.pointer none) (.pointer none) K=K (.bool false):=by funext w <;> simp [dY,D7]
theorem MG {ks:List CK}{xs ys:List Value}{t:Bool}[h:ut ks xs ys t]:jc ks .eql (.agg xs.toArray) (.agg ys.toArray) K=K (.bool t):=by funext w <;> simp [jc,h.f1,h.f2,h.eq,D7]
theorem Nh {ks:List CK}{xs ys:List Value}{t:Bool}[h:ut ks xs ys t]:jc ks .neq (.agg xs.toArray) (.agg ys.toArray) K=K (.bool (!t)):=by funext w <;> simp [jc,h.f1,h.f2,h.eq,D7]
theorem PH {o n:Nat}{cs:List Value}{v:Value}[h:IY cs o v]:oE false o n (.agg cs.toArray) K=K v:=by funext w <;> simp [oE,h.eq,du]
theorem Mm {o n:Nat}{cs r:List Value}[h:ke cs o n r]:oE true o n (.agg cs.toArray) K=K (.agg r.toArray):=by funext w <;> simp only [oE,if_true] <;> congr 2 <;> apply Array.toList_inj.1 <;> simp [←h.eq]
theorem GP {i:Nat}{vs:List Value}{v:Value}[h:IY vs i v]:aq i (.tuple vs.toArray) K=K v:=by funext w <;> simp [aq,h.eq,du]
theorem M6 {zero r:List Value}{ps:List (Nat×Nat×Value)}[h:pC zero ps r]:aw zero ps K=K (.agg r.toArray):=by funext w <;> simp [aw,h.eq]
theorem SA {k:IntKind}{a b:Int}:mh (.int k a) [.int k b] K=K (.int k (if b > a then b else a)):=by funext w <;> simp [mh,zK,MU,du]
theorem SH {k:IntKind}{a b:Int}:iZ (.int k a) [.int k b] K=K (.int k (if b<a then b else a)):=by funext w <;> simp [iZ,zK,I7,du]
theorem Pe {k:IntKind}{a b c:Int}:iZ (.int k a) [.int k b,.int k c] K=K (.int k (if c<(if b<a then b else a) then c else (if b<a then b else a))):=by funext w <;> simp [iZ,zK,I7,du]
theorem Mb {A B:World→Prop}:ai (.bool true) A B=A:=by rw [Hb]
theorem MB {A B:World→Prop}:ai (.bool false) A B=B:=by rw [HV]
theorem T9 {t:Bool}{A:KV→World→Prop}:gW (.bool t) t A K=A K:=by rw [Q9]
theorem SW {A:KV→World→Prop}:gW (.bool true) false A K=K undef:=by rw [Mu]
theorem Sr {A:KV→World→Prop}:gW (.bool false) true A K=K undef:=by rw [Mx]
theorem UO {t:Bool}{A:KV→World→Prop}:gW undef t A K=K undef:=by rw [UC]
theorem T8 {t:Bool}{A:KV→World→Prop}{e:Value}:dz (.bool t) t A e K=A K:=by rw [uP]
theorem SK {A:KV→World→Prop}{e:Value}:dz (.bool true) false A e K=K e:=by rw [wR]
theorem SP {A:KV→World→Prop}{e:Value}:dz (.bool false) true A e K=K e:=by rw [xf]
theorem Qw {p q:Bool}:dz (.bool p) true (fun K=>K (.bool q)) (.bool false) K=K (.bool (p && q)):=by rw [Lq]
theorem Ss {p q:Bool}:dz (.bool p) false (fun K=>K (.bool q)) (.bool true) K=K (.bool (p || q)):=by rw [Oi]
theorem Uz {b i:Nat}:G w0 L (aj (ptr b i) K)=G w0 L (K (ptr b i)):=congrArg _ ST
theorem Te {f:FuncId}{x y:Array Value}:G w0 L (aj (.func (.func f) x y) K)=G w0 L (K (.func (.func f) x y)):=congrArg _ O9
theorem UG {b i n m:Nat}[h:ye i n m]:G w0 L (ac n (ptr b i) K)=G w0 L (K (ptr b m)):=congrArg _ SE
theorem Ul {t:Bool}:G w0 L (gA (.bool t) K)=G w0 L (K (.bool (!t))):=congrArg _ SC
theorem Se {x y:Value}:G w0 L (bp (.bool true) x y K)=G w0 L (K x):=congrArg _ ML
theorem Rp {x y:Value}:G w0 L (bp (.bool false) x y K)=G w0 L (K y):=congrArg _ Ng
theorem UT {k:IntKind}{a b:Int}:G w0 L (ab .lss (.int k a) (.int k b) K)=G w0 L (K (.bool (decide (a<b)))):=congrArg _ SL
theorem Uc {k:IntKind}{a b:Int}:G w0 L (ab .leq (.int k a) (.int k b) K)=G w0 L (K (.bool (decide (a≤b)))):=congrArg _ Su
theorem Uy {k:IntKind}{a b:Int}:G w0 L (ab .gtr (.int k a) (.int k b) K)=G w0 L (K (.bool (decide (b<a)))):=congrArg _ Sz
theorem Uq {k:IntKind}{a b:Int}:G w0 L (ab .geq (.int k a) (.int k b) K)=G w0 L (K (.bool (decide (b≤a)))):=congrArg _ SG
theorem Ua {k:IntKind}{a b:Int}:G w0 L (ab .eql (.int k a) (.int k b) K)=G w0 L (K (.bool (decide (a=b)))):=congrArg _ S3
theorem UB {k:IntKind}{a b:Int}:G w0 L (ab .neq (.int k a) (.int k b) K)=G w0 L (K (.bool (!decide (a=b)))):=congrArg _ SX
theorem S6 {k:IntKind}{a b:Int}:G w0 L (ab .add (.int k a) (.int k b) K)=G w0 L (K (.int k (k.wrap (a+b)))):=congrArg _ QM
theorem Ut {k:IntKind}{a b:Int}:G w0 L (ab .sub (.int k a) (.int k b) K)=G w0 L (K (.int k (k.wrap (a-b)))):=congrArg _ Sy
theorem Ud {k:IntKind}{a b:Int}:G w0 L (ab .mul (.int k a) (.int k b) K)=G w0 L (K (.int k (k.wrap (a*b)))):=congrArg _ SS
theorem UA {k:IntKind}{a b:Int}[h:iT b]:G w0 L (ab .quo (.int k a) (.int k b) K)=G w0 L (K (.int k (k.wrap (a.tdiv b)))):=congrArg _ SF
theorem UQ {k:IntKind}{a b:Int}[h:iT b]:G w0 L (ab .rem (.int k a) (.int k b) K)=G w0 L (K (.int k (a.tmod b))):=congrArg _ SZ
theorem Tv {k:IntKind}{a b:Int}:G w0 L (ab .and (.int k a) (.int k b) K)=G w0 L (K (.int k (k.wrap (BitVec.ofInt k.bits a &&& BitVec.ofInt k.bits b).toNat))):=congrArg _ Pz
theorem UH {k:IntKind}{a b:Int}:G w0 L (ab .or (.int k a) (.int k b) K)=G w0 L (K (.int k (k.wrap (BitVec.ofInt k.bits a ||| BitVec.ofInt k.bits b).toNat))):=congrArg _ SN
theorem TD {k:IntKind}{a b:Int}:G w0 L (ab .xor (.int k a) (.int k b) K)=G w0 L (K (.int k (k.wrap (BitVec.ofInt k.bits a ^^^ BitVec.ofInt k.bits b).toNat))):=congrArg _ PR
theorem Ue {k k2:IntKind}{a b:Int}[h:br b]:G w0 L (ab .shl (.int k a) (.int k2 b) K)=G w0 L (K (.int k (k.wrap (a*2 ^ min b.toNat k.bits)))):=congrArg _ SB
theorem UF {k k2:IntKind}{a b:Int}[h:br b]:G w0 L (ab .shr (.int k a) (.int k2 b) K)=G w0 L (K (.int k (a.fdiv (2 ^ min b.toNat k.bits)))):=congrArg _ SR
theorem Q6 {t:Nat}{x:Value}:G w0 L (qF t x K)=G w0 L (K (.iface t x)):=congrArg _ Ml
theorem Tt {k k2:IntKind}{a:Int}:G w0 L (fo k (.int k2 a) K)=G w0 L (K (.int k (k.wrap a))):=congrArg _ Qd
theorem Un {a b:Bool}:G w0 L (fw .eql (.bool a) (.bool b) K)=G w0 L (K (.bool (a == b))):=congrArg _ SM
theorem Uj {a b:Bool}:G w0 L (fw .neq (.bool a) (.bool b) K)=G w0 L (K (.bool (!(a == b)))):=congrArg _ SO
theorem TU {b i:Nat}:G w0 L (dY .eql (ptr b i) (.pointer none) K)=G w0 L (K (.bool false)):=congrArg _ Qp
theorem Sj {b i:Nat}:G w0 L (dY .neq (ptr b i) (.pointer none) K)=G w0 L (K (.bool true)):=congrArg _ Mq
theorem TM  : G w0 L (dY .eql (.pointer none) (.pointer none) K)=G w0 L (K (.bool true)):=congrArg _ QQ
theorem Rt  : G w0 L (dY .neq (.pointer none) (.pointer none) K)=G w0 L (K (.bool false)):=congrArg _ Mv
theorem Rk {ks:List CK}{xs ys:List Value}{t:Bool}[h:ut ks xs ys t]:G w0 L (jc ks .eql (.agg xs.toArray) (.agg ys.toArray) K)=G w0 L (K (.bool t)):=congrArg _ MG
theorem RU {ks:List CK}{xs ys:List Value}{t:Bool}[h:ut ks xs ys t]:G w0 L (jc ks .neq (.agg xs.toArray) (.agg ys.toArray) K)=G w0 L (K (.bool (!t))):=congrArg _ Nh
theorem Ty {o n:Nat}{cs:List Value}{v:Value}[h:IY cs o v]:G w0 L (oE false o n (.agg cs.toArray) K)=G w0 L (K v):=congrArg _ PH
theorem Ry {o n:Nat}{cs r:List Value}[h:ke cs o n r]:G w0 L (oE true o n (.agg cs.toArray) K)=G w0 L (K (.agg r.toArray)):=congrArg _ Mm
theorem OY {i:Nat}{vs:List Value}{v:Value}[h:IY vs i v]:G w0 L (aq i (.tuple vs.toArray) K)=G w0 L (K v):=congrArg _ GP
theorem RF {zero r:List Value}{ps:List (Nat×Nat×Value)}[h:pC zero ps r]:G w0 L (aw zero ps K)=G w0 L (K (.agg r.toArray)):=congrArg _ M6
theorem Us {k:IntKind}{a b:Int}:G w0 L (mh (.int k a) [.int k b] K)=G w0 L (K (.int k (if b > a then b else a))):=congrArg _ SA
theorem Ug {k:IntKind}{a b:Int}:G w0 L (iZ (.int k a) [.int k b] K)=G w0 L (K (.int k (if b<a then b else a))):=congrArg _ SH
theorem To {k:IntKind}{a b c:Int}:G w0 L (iZ (.int k a) [.int k b,.int k c] K)=G w0 L (K (.int k (if c<(if b<a then b else a) then c else (if b<a then b else a)))):=congrArg _ Pe
theorem Ri {A B:World→Prop}:G w0 L (ai (.bool true) A B)=G w0 L (A):=congrArg _ Mb
theorem R5 {A B:World→Prop}:G w0 L (ai (.bool false) A B)=G w0 L (B):=congrArg _ MB
theorem Vi {t:Bool}{A:KV→World→Prop}:G w0 L (gW (.bool t) t A K)=G w0 L (A K):=congrArg _ T9
theorem UD {A:KV→World→Prop}:G w0 L (gW (.bool true) false A K)=G w0 L (K undef):=congrArg _ SW
theorem Up {A:KV→World→Prop}:G w0 L (gW (.bool false) true A K)=G w0 L (K undef):=congrArg _ Sr
theorem U8 {t:Bool}{A:KV→World→Prop}:G w0 L (gW undef t A K)=G w0 L (K undef):=congrArg _ UO
theorem Vo {t:Bool}{A:KV→World→Prop}{e:Value}:G w0 L (dz (.bool t) t A e K)=G w0 L (A K):=congrArg _ T8
theorem UI {A:KV→World→Prop}{e:Value}:G w0 L (dz (.bool true) false A e K)=G w0 L (K e):=congrArg _ SK
theorem UK {A:KV→World→Prop}{e:Value}:G w0 L (dz (.bool false) true A e K)=G w0 L (K e):=congrArg _ SP
theorem TQ {p q:Bool}:G w0 L (dz (.bool p) true (fun K=>K (.bool q)) (.bool false) K)=G w0 L (K (.bool (p && q))):=congrArg _ Qw
theorem Uo {p q:Bool}:G w0 L (dz (.bool p) false (fun K=>K (.bool q)) (.bool true) K)=G w0 L (K (.bool (p || q))):=congrArg _ Ss
theorem Tm {B:World→Prop}:G w0 L (andP ad B)=G w0 L (B):=by rw [Gf]
end
theorem RG :
  (∀{w0:bo} {L:List bd} {K:KV} {b i:Nat},G w0 L (aj (ptr b i) K)=G w0 L (K (ptr b i))) ∧
  (∀{w0:bo} {L:List bd} {K:KV} {f:FuncId} {x y:Array Value},G w0 L (aj (.func (.func f) x y) K)=G w0 L (K (.func (.func f) x y))) ∧
  (∀{w0:bo} {L:List bd} {K:KV} {b i n m:Nat} [h:ye i n m],G w0 L (ac n (ptr b i) K)=G w0 L (K (ptr b m))) ∧
  (∀{w0:bo} {L:List bd} {K:KV} {t:Bool},G w0 L (gA (.bool t) K)=G w0 L (K (.bool (!t)))) ∧
  (∀{w0:bo} {L:List bd} {K:KV} {x y:Value},G w0 L (bp (.bool true) x y K)=G w0 L (K x)) ∧
  (∀{w0:bo} {L:List bd} {K:KV} {x y:Value},G w0 L (bp (.bool false) x y K)=G w0 L (K y)) ∧
  (∀{w0:bo} {L:List bd} {K:KV} {k:IntKind} {a b:Int},G w0 L (ab .lss (.int k a) (.int k b) K)=G w0 L (K (.bool (decide (a<b))))) ∧
  (∀{w0:bo} {L:List bd} {K:KV} {k:IntKind} {a b:Int},G w0 L (ab .leq (.int k a) (.int k b) K)=G w0 L (K (.bool (decide (a≤b))))) ∧
  (∀{w0:bo} {L:List bd} {K:KV} {k:IntKind} {a b:Int},G w0 L (ab .gtr (.int k a) (.int k b) K)=G w0 L (K (.bool (decide (b<a))))) ∧
  (∀{w0:bo} {L:List bd} {K:KV} {k:IntKind} {a b:Int},G w0 L (ab .geq (.int k a) (.int k b) K)=G w0 L (K (.bool (decide (b≤a))))) ∧
  (∀{w0:bo} {L:List bd} {K:KV} {k:IntKind} {a b:Int},G w0 L (ab .eql (.int k a) (.int k b) K)=G w0 L (K (.bool (decide (a=b))))) ∧
  (∀{w0:bo} {L:List bd} {K:KV} {k:IntKind} {a b:Int},G w0 L (ab .neq (.int k a) (.int k b) K)=G w0 L (K (.bool (!decide (a=b))))) ∧
  (∀{w0:bo} {L:List bd} {K:KV} {k:IntKind} {a b:Int},G w0 L (ab .add (.int k a) (.int k b) K)=G w0 L (K (.int k (k.wrap (a+b))))) ∧
  (∀{w0:bo} {L:List bd} {K:KV} {k:IntKind} {a b:Int},G w0 L (ab .sub (.int k a) (.int k b) K)=G w0 L (K (.int k (k.wrap (a-b))))) ∧
  (∀{w0:bo} {L:List bd} {K:KV} {k:IntKind} {a b:Int},G w0 L (ab .mul (.int k a) (.int k b) K)=G w0 L (K (.int k (k.wrap (a*b))))) ∧
  (∀{w0:bo} {L:List bd} {K:KV} {k:IntKind} {a b:Int} [h:iT b],G w0 L (ab .quo (.int k a) (.int k b) K)=G w0 L (K (.int k (k.wrap (a.tdiv b))))) ∧
  (∀{w0:bo} {L:List bd} {K:KV} {k:IntKind} {a b:Int} [h:iT b],G w0 L (ab .rem (.int k a) (.int k b) K)=G w0 L (K (.int k (a.tmod b)))) ∧
  (∀{w0:bo} {L:List bd} {K:KV} {k:IntKind} {a b:Int},G w0 L (ab .and (.int k a) (.int k b) K)=G w0 L (K (.int k (k.wrap (BitVec.ofInt k.bits a &&& BitVec.ofInt k.bits b).toNat)))) ∧
  (∀{w0:bo} {L:List bd} {K:KV} {k:IntKind} {a b:Int},G w0 L (ab .or (.int k a) (.int k b) K)=G w0 L (K (.int k (k.wrap (BitVec.ofInt k.bits a ||| BitVec.ofInt k.bits b).toNat)))) ∧
  (∀{w0:bo} {L:List bd} {K:KV} {k:IntKind} {a b:Int},G w0 L (ab .xor (.int k a) (.int k b) K)=G w0 L (K (.int k (k.wrap (BitVec.ofInt k.bits a ^^^ BitVec.ofInt k.bits b).toNat)))) ∧
  (∀{w0:bo} {L:List bd} {K:KV} {k k2:IntKind} {a b:Int} [h:br b],G w0 L (ab .shl (.int k a) (.int k2 b) K)=G w0 L (K (.int k (k.wrap (a*2 ^ min b.toNat k.bits))))) ∧
  (∀{w0:bo} {L:List bd} {K:KV} {k k2:IntKind} {a b:Int} [h:br b],G w0 L (ab .shr (.int k a) (.int k2 b) K)=G w0 L (K (.int k (a.fdiv (2 ^ min b.toNat k.bits))))) ∧
  (∀{w0:bo} {L:List bd} {K:KV} {t:Nat} {x:Value},G w0 L (qF t x K)=G w0 L (K (.iface t x))) ∧
  (∀{w0:bo} {L:List bd} {K:KV} {k k2:IntKind} {a:Int},G w0 L (fo k (.int k2 a) K)=G w0 L (K (.int k (k.wrap a)))) ∧
  (∀{w0:bo} {L:List bd} {K:KV} {a b:Bool},G w0 L (fw .eql (.bool a) (.bool b) K)=G w0 L (K (.bool (a == b)))) ∧
  (∀{w0:bo} {L:List bd} {K:KV} {a b:Bool},G w0 L (fw .neq (.bool a) (.bool b) K)=G w0 L (K (.bool (!(a == b))))) ∧
  (∀{w0:bo} {L:List bd} {K:KV} {b i:Nat},G w0 L (dY .eql (ptr b i) (.pointer none) K)=G w0 L (K (.bool false))) ∧
  (∀{w0:bo} {L:List bd} {K:KV} {b i:Nat},G w0 L (dY .neq (ptr b i) (.pointer none) K)=G w0 L (K (.bool true))) ∧
  (∀{w0:bo} {L:List bd} {K:KV},G w0 L (dY .eql (.pointer none) (.pointer none) K)=G w0 L (K (.bool true))) ∧
  (∀{w0:bo} {L:List bd} {K:KV},G w0 L (dY .neq (.pointer none) (.pointer none) K)=G w0 L (K (.bool false))) ∧
  (∀{w0:bo} {L:List bd} {K:KV} {ks:List CK} {xs ys:List Value} {t:Bool} [h:ut ks xs ys t],G w0 L (jc ks .eql (.agg xs.toArray) (.agg ys.toArray) K)=G w0 L (K (.bool t))) ∧
  (∀{w0:bo} {L:List bd} {K:KV} {ks:List CK} {xs ys:List Value} {t:Bool} [h:ut ks xs ys t],G w0 L (jc ks .neq (.agg xs.toArray) (.agg ys.toArray) K)=G w0 L (K (.bool (!t)))) ∧
  (∀{w0:bo} {L:List bd} {K:KV} {o n:Nat} {cs:List Value} {v:Value} [h:IY cs o v],G w0 L (oE false o n (.agg cs.toArray) K)=G w0 L (K v)) ∧
  (∀{w0:bo} {L:List bd} {K:KV} {o n:Nat} {cs r:List Value} [h:ke cs o n r],G w0 L (oE true o n (.agg cs.toArray) K)=G w0 L (K (.agg r.toArray))) ∧
  (∀{w0:bo} {L:List bd} {K:KV} {i:Nat} {vs:List Value} {v:Value} [h:IY vs i v],G w0 L (aq i (.tuple vs.toArray) K)=G w0 L (K v)) ∧
  (∀{w0:bo} {L:List bd} {K:KV} {zero r:List Value} {ps:List (Nat×Nat×Value)} [h:pC zero ps r],G w0 L (aw zero ps K)=G w0 L (K (.agg r.toArray))) ∧
  (∀{w0:bo} {L:List bd} {K:KV} {k:IntKind} {a b:Int},G w0 L (mh (.int k a) [.int k b] K)=G w0 L (K (.int k (if b > a then b else a)))) ∧
  (∀{w0:bo} {L:List bd} {K:KV} {k:IntKind} {a b:Int},G w0 L (iZ (.int k a) [.int k b] K)=G w0 L (K (.int k (if b<a then b else a)))) ∧
  (∀{w0:bo} {L:List bd} {K:KV} {k:IntKind} {a b c:Int},G w0 L (iZ (.int k a) [.int k b,.int k c] K)=G w0 L (K (.int k (if c<(if b<a then b else a) then c else (if b<a then b else a))))) ∧
  (∀{w0:bo} {L:List bd} {A B:World→Prop},G w0 L (ai (.bool true) A B)=G w0 L (A)) ∧
  (∀{w0:bo} {L:List bd} {A B:World→Prop},G w0 L (ai (.bool false) A B)=G w0 L (B)) ∧
  (∀{w0:bo} {L:List bd} {K:KV} {t:Bool} {A:KV→World→Prop},G w0 L (gW (.bool t) t A K)=G w0 L (A K)) ∧
  (∀{w0:bo} {L:List bd} {K:KV} {A:KV→World→Prop},G w0 L (gW (.bool true) false A K)=G w0 L (K undef)) ∧
  (∀{w0:bo} {L:List bd} {K:KV} {A:KV→World→Prop},G w0 L (gW (.bool false) true A K)=G w0 L (K undef)) ∧
  (∀{w0:bo} {L:List bd} {K:KV} {t:Bool} {A:KV→World→Prop},G w0 L (gW undef t A K)=G w0 L (K undef)) ∧
  (∀{w0:bo} {L:List bd} {K:KV} {t:Bool} {A:KV→World→Prop} {e:Value},G w0 L (dz (.bool t) t A e K)=G w0 L (A K)) ∧
  (∀{w0:bo} {L:List bd} {K:KV} {A:KV→World→Prop} {e:Value},G w0 L (dz (.bool true) false A e K)=G w0 L (K e)) ∧
  (∀{w0:bo} {L:List bd} {K:KV} {A:KV→World→Prop} {e:Value},G w0 L (dz (.bool false) true A e K)=G w0 L (K e)) ∧
  (∀{w0:bo} {L:List bd} {K:KV} {p q:Bool},G w0 L (dz (.bool p) true (fun K=>K (.bool q)) (.bool false) K)=G w0 L (K (.bool (p && q)))) ∧
  (∀{w0:bo} {L:List bd} {K:KV} {p q:Bool},G w0 L (dz (.bool p) false (fun K=>K (.bool q)) (.bool true) K)=G w0 L (K (.bool (p || q)))) ∧
  (∀{w0:bo} {L:List bd} {B:World→Prop},G w0 L (andP ad B)=G w0 L (B)) ∧
  (∀{w0:bo} {L:List bd} {A B:World→Prop},G w0 L (andP A B)=(G w0 L A∧G w0 L B)) ∧
  (∀{w0:bo} {L:List bd} {K:KV} {b j:Nat} {cs:List Value} {C:bd→List bd} [au L oU b cs C] {v:Value} [IY cs j v],G w0 L (aa (ptr b j) K)=G w0 L (K v)) ∧
  (∀{w0:bo} {L:List bd} {K:KV} {b j n:Nat} {cs:List Value} {C:bd→List bd} [au L oU b cs C] {r:List Value} [ke cs j n r],G w0 L (ak n (ptr b j) K)=G w0 L (K (.agg r.toArray))) ∧
  (∀{w0:bo} {L:List bd} {K:KV} {b j n:Nat} {cs:List Value} {C:bd→List bd} [au L oU b cs C] {v:Value} {vs r:List Value} [bf v vs] [rl cs j vs r] [CC vs n],G w0 L (ah n (ptr b j) v K)=G w0 (C (own b r)) (K undef)) ∧
  (∀{w0:bo} {L:List bd},G w0 L ad=True) ∧
  (∀{w0:bo} {L:List bd} {v:Value},G w0 L (dO v v)=True) ∧
  (∀{α:Type} {E:jY α} {w0:bo} {L:List bd} {v:Value} {xs:List α} {K:KV} {sz:Nat} [Rd w0 L v E sz xs],G w0 L (cv v K)=G w0 L (K (i64 xs.length))) ∧
  (∀{α:Type} {E:jY α} {w0:bo} {L:List bd} {v:Value} {xs:List α} {K:KV} {sz k:Nat} {x:α} {kd:IntKind} {i:Int} [Rd w0 L v E sz xs] [iQ i k] [fe xs k x],G w0 L (ch sz v (.int kd i) K)=G w0 L (K (ep v sz k 0))) ∧
  (∀{α:Type} {E:jY α} {w0:bo} {L:List bd} {v:Value} {xs:List α} {K:KV} {sz k j n:Nat} {x:α} {m:Nat} [Rd w0 L v E sz xs] [fe xs k x] [ye j n m],G w0 L (ac n (ep v sz k j) K)=G w0 L (K (ep v sz k m))) ∧
  (∀{α:Type} {E:jY α} {w0:bo} {L:List bd} {v:Value} {xs:List α} {K:KV} {sz k j:Nat} {x:α} [Rd w0 L v E sz xs] [fe xs k x],G w0 L (aj (ep v sz k j) K)=G w0 L (K (ep v sz k j))) ∧
  (∀{α:Type} {E:jY α} {w0:bo} {L:List bd} {v:Value} {xs:List α} {K:KV} {sz k j:Nat} {x:α} {u:Value} {cs:List Value} [Rd w0 L v E sz xs] [fe xs k x] [fk E x cs] [IY cs j u],G w0 L (aa (ep v sz k j) K)=G w0 L (K u)) ∧
  (∀{α:Type} {E:jY α} {w0:bo} {L:List bd} {v:Value} {xs:List α} {K:KV} {sz k j n:Nat} {x:α} {cs q:List Value} [Rd w0 L v E sz xs] [fe xs k x] [fk E x cs] [ke cs j n q],G w0 L (ak n (ep v sz k j) K)=G w0 L (K (.agg q.toArray))) ∧
  (∀{α:Type} {E:jY α} {w0:bo} {L:List bd} {v:Value} {xs:List α} {K:KV} {sz k j n:Nat} {x:α} {val:Value} {cs vs q:List Value} {x2:α} {C:bd→List bd} [Rd w0 L v E sz xs] [oK L v E xs C] [fe xs k x] [fk E x cs] [bf val vs] [CC vs n] [rl cs j vs q] [fQ E q x2],G w0 L (ah n (ep v sz k j) val K)=G w0 (C (S.sl E v (xs.set k x2))) (K undef)) :=
 ⟨@Uz,@Te,@UG,@Ul,@Se,@Rp,@UT,@Uc,@Uy,@Uq,@Ua,@UB,@S6,@Ut,@Ud,@UA,@UQ,@Tv,@UH,@TD,@Ue,@UF,@Q6,@Tt,@Un,@Uj,@TU,@Sj,@TM,@Rt,@Rk,@RU,@Ty,@Ry,@OY,@RF,@Us,@Ug,@To,@Ri,@R5,@Vi,@UD,@Up,@U8,@Vo,@UI,@UK,@TQ,@Uo,@Tm,@US,@TX,@Sc,@RH,@T3,@Um,@Uf,@Uw,@QJ,@QC,@OT,@K9,@LH⟩
theorem RP :
  (∀{K:KV} {b i:Nat},aj (ptr b i) K=K (ptr b i)) ∧
  (∀{K:KV} {f:FuncId} {x y:Array Value},aj (.func (.func f) x y) K=K (.func (.func f) x y)) ∧
  (∀{K:KV} {b i n m:Nat} [h:ye i n m],ac n (ptr b i) K=K (ptr b m)) ∧
  (∀{K:KV} {t:Bool},gA (.bool t) K=K (.bool (!t))) ∧
  (∀{K:KV} {x y:Value},bp (.bool true) x y K=K x) ∧
  (∀{K:KV} {x y:Value},bp (.bool false) x y K=K y) ∧
  (∀{K:KV} {k:IntKind} {a b:Int},ab .lss (.int k a) (.int k b) K=K (.bool (decide (a<b)))) ∧
  (∀{K:KV} {k:IntKind} {a b:Int},ab .leq (.int k a) (.int k b) K=K (.bool (decide (a≤b)))) ∧
  (∀{K:KV} {k:IntKind} {a b:Int},ab .gtr (.int k a) (.int k b) K=K (.bool (decide (b<a)))) ∧
  (∀{K:KV} {k:IntKind} {a b:Int},ab .geq (.int k a) (.int k b) K=K (.bool (decide (b≤a)))) ∧
  (∀{K:KV} {k:IntKind} {a b:Int},ab .eql (.int k a) (.int k b) K=K (.bool (decide (a=b)))) ∧
  (∀{K:KV} {k:IntKind} {a b:Int},ab .neq (.int k a) (.int k b) K=K (.bool (!decide (a=b)))) ∧
  (∀{K:KV} {k:IntKind} {a b:Int},ab .add (.int k a) (.int k b) K=K (.int k (k.wrap (a+b)))) ∧
  (∀{K:KV} {k:IntKind} {a b:Int},ab .sub (.int k a) (.int k b) K=K (.int k (k.wrap (a-b)))) ∧
  (∀{K:KV} {k:IntKind} {a b:Int},ab .mul (.int k a) (.int k b) K=K (.int k (k.wrap (a*b)))) ∧
  (∀{K:KV} {k:IntKind} {a b:Int} [h:iT b],ab .quo (.int k a) (.int k b) K=K (.int k (k.wrap (a.tdiv b)))) ∧
  (∀{K:KV} {k:IntKind} {a b:Int} [h:iT b],ab .rem (.int k a) (.int k b) K=K (.int k (a.tmod b))) ∧
  (∀{K:KV} {k:IntKind} {a b:Int},ab .and (.int k a) (.int k b) K=K (.int k (k.wrap (BitVec.ofInt k.bits a &&& BitVec.ofInt k.bits b).toNat))) ∧
  (∀{K:KV} {k:IntKind} {a b:Int},ab .or (.int k a) (.int k b) K=K (.int k (k.wrap (BitVec.ofInt k.bits a ||| BitVec.ofInt k.bits b).toNat))) ∧
  (∀{K:KV} {k:IntKind} {a b:Int},ab .xor (.int k a) (.int k b) K=K (.int k (k.wrap (BitVec.ofInt k.bits a ^^^ BitVec.ofInt k.bits b).toNat))) ∧
  (∀{K:KV} {k k2:IntKind} {a b:Int} [h:br b],ab .shl (.int k a) (.int k2 b) K=K (.int k (k.wrap (a*2 ^ min b.toNat k.bits)))) ∧
  (∀{K:KV} {k k2:IntKind} {a b:Int} [h:br b],ab .shr (.int k a) (.int k2 b) K=K (.int k (a.fdiv (2 ^ min b.toNat k.bits)))) ∧
  (∀{K:KV} {t:Nat} {x:Value},qF t x K=K (.iface t x)) ∧
  (∀{K:KV} {k k2:IntKind} {a:Int},fo k (.int k2 a) K=K (.int k (k.wrap a))) ∧
  (∀{K:KV} {a b:Bool},fw .eql (.bool a) (.bool b) K=K (.bool (a == b))) ∧
  (∀{K:KV} {a b:Bool},fw .neq (.bool a) (.bool b) K=K (.bool (!(a == b)))) ∧
  (∀{K:KV} {b i:Nat},dY .eql (ptr b i) (.pointer none) K=K (.bool false)) ∧
  (∀{K:KV} {b i:Nat},dY .neq (ptr b i) (.pointer none) K=K (.bool true)) ∧
  (∀{K:KV},dY .eql (.pointer none) (.pointer none) K=K (.bool true)) ∧
  (∀{K:KV},dY .neq (.pointer none) (.pointer none) K=K (.bool false)) ∧
  (∀{K:KV} {ks:List CK} {xs ys:List Value} {t:Bool} [h:ut ks xs ys t],jc ks .eql (.agg xs.toArray) (.agg ys.toArray) K=K (.bool t)) ∧
  (∀{K:KV} {ks:List CK} {xs ys:List Value} {t:Bool} [h:ut ks xs ys t],jc ks .neq (.agg xs.toArray) (.agg ys.toArray) K=K (.bool (!t))) ∧
  (∀{K:KV} {o n:Nat} {cs:List Value} {v:Value} [h:IY cs o v],oE false o n (.agg cs.toArray) K=K v) ∧
  (∀{K:KV} {o n:Nat} {cs r:List Value} [h:ke cs o n r],oE true o n (.agg cs.toArray) K=K (.agg r.toArray)) ∧
  (∀{K:KV} {i:Nat} {vs:List Value} {v:Value} [h:IY vs i v],aq i (.tuple vs.toArray) K=K v) ∧
  (∀{K:KV} {zero r:List Value} {ps:List (Nat×Nat×Value)} [h:pC zero ps r],aw zero ps K=K (.agg r.toArray)) ∧
  (∀{K:KV} {k:IntKind} {a b:Int},mh (.int k a) [.int k b] K=K (.int k (if b > a then b else a))) ∧
  (∀{K:KV} {k:IntKind} {a b:Int},iZ (.int k a) [.int k b] K=K (.int k (if b<a then b else a))) ∧
  (∀{K:KV} {k:IntKind} {a b c:Int},iZ (.int k a) [.int k b,.int k c] K=K (.int k (if c<(if b<a then b else a) then c else (if b<a then b else a)))) ∧
  (∀{A B:World→Prop},ai (.bool true) A B=A) ∧
  (∀{A B:World→Prop},ai (.bool false) A B=B) ∧
  (∀{K:KV} {t:Bool} {A:KV→World→Prop},gW (.bool t) t A K=A K) ∧
  (∀{K:KV} {A:KV→World→Prop},gW (.bool true) false A K=K undef) ∧
  (∀{K:KV} {A:KV→World→Prop},gW (.bool false) true A K=K undef) ∧
  (∀{K:KV} {t:Bool} {A:KV→World→Prop},gW undef t A K=K undef) ∧
  (∀{K:KV} {t:Bool} {A:KV→World→Prop} {e:Value},dz (.bool t) t A e K=A K) ∧
  (∀{K:KV} {A:KV→World→Prop} {e:Value},dz (.bool true) false A e K=K e) ∧
  (∀{K:KV} {A:KV→World→Prop} {e:Value},dz (.bool false) true A e K=K e) ∧
  (∀{K:KV} {p q:Bool},dz (.bool p) true (fun K=>K (.bool q)) (.bool false) K=K (.bool (p && q))) ∧
  (∀{K:KV} {p q:Bool},dz (.bool p) false (fun K=>K (.bool q)) (.bool true) K=K (.bool (p || q))) :=
 ⟨@ST,@O9,@SE,@SC,@ML,@Ng,@SL,@Su,@Sz,@SG,@S3,@SX,@QM,@Sy,@SS,@SF,@SZ,@Pz,@SN,@PR,@SB,@SR,@Ml,@Qd,@SM,@SO,@Qp,@Mq,@QQ,@Mv,@MG,@Nh,@PH,@Mm,@GP,@M6,@SA,@SH,@Pe,@Mb,@MB,@T9,@SW,@Sr,@UO,@T8,@SK,@SP,@Qw,@Ss⟩
section
variable {α:Type}{E:jY α}{w0:bo}{L:List bd}{v:Value}{xs:List α}{K:KV}{sz n bytes:Nat}{zero:List Value}{C:bd→List bd}
theorem bm {a:Option Addr}{n c:Nat}:bf (.slice a n c) [.slice a n c]:=inferInstance
theorem G.nilsl {F:World→Prop}(E:jY α)(h:G w0 (sl E (.slice none 0 0) []::L) F):G w0 L F:=fun w H=>h w H.sl_nil
theorem G.isNil [r:Rd w0 L v E sz xs](h:∀t,(t=true→xs=[])→G w0 L (K (.bool t))):G w0 L (dQ .eql v (.slice none 0 0) K):=fun w H=>by
 obtain⟨oa,cap,rfl,h1,_⟩:=r.rd w H
 cases oa with
 | none=>exact h true (fun _=>(h1 rfl).1) w H
 | some a=>exact h false (by simp) w H
theorem G.make2 {l c:Nat}(E:jY α)(z:α)(hz:E.enc z=zero)(hl:l≤c)(hc:c≤maxLen)(hb:bytes*c≤140737488355328)(h:∀v,bf v [v]→G w0 (sl E v (List.replicate l z)::L) (K v)) :
  G w0 L (dC bytes zero (i64 l) (i64 c) K):=fun w H=>by
 refine⟨by omega,by omega,by omega,by omega,fun T=>?_⟩
 have e:pt c zero=(List.replicate l z).flatMap E.enc++pt (c-l) zero:=by
  have:∀m,pt m zero=(List.replicate m z).flatMap E.enc:=fun m=>by
   induction m with
   | zero=>simp [pt]
   | succ m ih=>unfold pt at *;simp [List.replicate_succ,List.flatMap_cons,ih,hz]
  rw [this,this,←List.flatMap_append,List.replicate_append_replicate,Nat.add_sub_cancel' hl]
 have H2:=H.alloc (pt c zero) T
 rw [e] at H2
 have hzl:zero.length=E.sz:=by rw [←hz,E.len]
 have:=H2.sl_mk (E:=E) (cap:=c) (by simpa using hl) (by
  have:∀m,(pt m zero).length=m*E.sz:=fun m=>by
   induction m with
   | zero=>simp [pt]
   | succ m ih=>unfold pt at *;simp only [List.replicate_succ,List.flatten_cons,List.length_append,ih,hzl,Nat.add_mul];omega
  simp [this])
 have h2:=h _ bm _ this
 rw [←e] at h2
 simpa using h2
theorem G.make (E:jY α)(z:α)(hz:E.enc z=zero)(hc:n≤maxLen)(hb:bytes*n≤140737488355328)(h:∀v,bf v [v]→G w0 (sl E v (List.replicate n z)::L) (K v)) :
  G w0 L (dC bytes zero (i64 n) (i64 n) K):=G.make2 E z hz (Nat.le_refl n) hc hb h
theorem G.build {ps:List (Nat×Nat×Value)}(E:jY α)(xs:List α)(hn:xs.length=n)(hz:n*zero.length≤16777216)(hb:qo (pt n zero) ps=some (xs.flatMap E.enc))(h:∀v,bf v [v]→G w0 (sl E v xs::L) (K v)) :
  G w0 L (ax zero n ps K):=fun w H=>by
 refine⟨hz,?_⟩
 rw [hb]
 intro T
 have H2:=H.alloc (xs.flatMap E.enc) T
 have:=St.sl_mk (E:=E) (xs:=xs) (rest:=[]) (cap:=n) (by simpa using H2) (by omega) (by simp [hn])
 have h2:=h _ bm _ this
 rw [hn] at h2
 exact h2
theorem eZ.src {w:World}(h:eZ E w v xs)(hx:0<xs.length):qs E.sz v w=some (xs.length,xs.flatMap E.enc):=by
 obtain⟨oa,cap,rfl,h1,h2⟩:=h
 have hl:xs[xs.length-1]? = some xs[xs.length-1]:=List.getElem?_eq_getElem (by omega)
 obtain⟨e,o,cs,rfl,g2,g3,_⟩:=h2 _ _ hl
 rw [show xs.length-1+1=xs.length by omega] at g3
 simp only [qs,show ¬xs.length=0 by omega,if_false,g2,g3,if_true,Option.some.injEq,Prod.mk.injEq,true_and]
 have key:∀(ys:List α) (m:Nat),(∀i x,ys[i]? = some x→(cs.drop (m+i*E.sz)).take E.sz=E.enc x)→m+ys.length*E.sz≤cs.length→(cs.drop m).take (ys.length*E.sz)=ys.flatMap E.enc:=by
  intro ys
  induction ys with
  | nil=>intro m _ _;simp
  | cons y ys ih =>
   intro m hy hm
   simp only [List.length_cons,Nat.add_mul,Nat.one_mul] at hm ⊢
   have h0:=hy 0 y (by simp)
   simp only [Nat.zero_mul,Nat.add_zero] at h0
   have:=ih (m+E.sz) (fun i x hx=>by have:=hy (i+1) x (by simpa using hx);rwa [Nat.add_mul,Nat.one_mul,Nat.add_comm (i*E.sz),←Nat.add_assoc] at this) (by omega)
   rw [List.flatMap_cons,←h0,←this,←List.drop_drop,Nat.add_comm (ys.length*E.sz),List.take_add]
 exact key xs o (fun i x hx=>by
  obtain⟨e',o',cs',k1,k2,_,k4⟩:=h2 i x hx
  simp only [Option.some.injEq,Addr.mk.injEq,and_true] at k1
  obtain⟨rfl,rfl⟩:=k1
  rw [g2] at k2
  cases k2
  exact k4) g3
theorem eZ.src' {w:World}(h:eZ E w v xs):qs E.sz v w=some (xs.length,xs.flatMap E.enc):=by
 rcases Nat.eq_zero_or_pos xs.length with h0 | h0
 ·have hx:xs=[]:=List.eq_nil_of_length_eq_zero h0
  subst hx
  obtain⟨oa,cap,rfl,h1,h2⟩:=h
  cases oa <;> simp [qs]
 ·exact h.src h0
theorem Sm (a r vs:List Value)(h:vs.length≤r.length):BE (a++r) a.length vs=a++vs++r.drop vs.length:=by
 have:=Gy vs a r 0 (by omega)
 rw [Nat.add_zero] at this
 rw [this,pY _ _ _ (by omega)]
 simp
theorem G.append {x:Value}{ys:List α}[r:Rd w0 L x E sz ys][s:oK L v E xs C](h1:(xs.length+ys.length)*bytes≤140737488355328)(h2:xs.length+ys.length≤maxLen)(h:∀u,bf u [u]→G w0 (C (sl E u (xs++ys))) (K u)) :
  G w0 L (bw sz bytes v x K):=fun w H=>by
 obtain⟨M,e1,e2⟩:=nD (w0:=w0) s.sel
 have hsrc:=(r.rd w H).src'
 rw [r.sz] at hsrc
 have H1:=(e1 w).1 H
 have hfin:∀{c cap:Nat} {rest:List Value} {w':World},St w0 (own c ((xs++ys).flatMap E.enc++rest)::M) w'→xs.length+ys.length≤cap→rest.length=(cap-(xs.length+ys.length))*sz→K (.slice (some ⟨c,0,none⟩) (xs.length+ys.length) cap) w':=by
  intro c cap rest w' g1 g2 g3
  have:=g1.sl_mk (E:=E) (cap:=cap) (by simpa using g2) (by rw [r.sz];simpa using g3)
  have h3:=h _ bm _ ((e2 _ _).2 this)
  simpa using h3
 rcases H1.sl_cases with ⟨rfl,rfl,H2⟩ | ⟨c,cap,rest,rfl,g2,g3,H2⟩
 ·simp only [bw,hsrc]
  simp only [List.length_nil,Nat.zero_add,List.nil_append] at h1 h2 hfin h
  refine⟨trivial,trivial,h1,h2,fun h0=>?_,fun h0 c rest T k1 k2 k3=>?_⟩
  ·have hy:ys=[]:=List.eq_nil_of_length_eq_zero h0
   subst hy
   exact h _ bm _ ((e2 _ _).2 H2.sl_nil)
  ·exact hfin (H2.drew.alloc _ T) k1 k3
 ·have hm:=H2.own_mem
  simp only [bw,hsrc,hm.2.1]
  have hfl:(xs.flatMap E.enc).length=xs.length*sz:=by rw [jx,r.sz]
  have hfy:(ys.flatMap E.enc).length=ys.length*sz:=by rw [jx,r.sz]
  rw [r.sz] at g3
  have hc:cap*sz=xs.length*sz+(cap-xs.length)*sz:=by rw [←Nat.add_mul];congr 1;omega
  refine⟨by simp only [List.length_append,hfl,g3];omega,g2,h1,h2,fun k1=>⟨.inr hm.2.2,OG E ys,?_⟩,fun k1 c' rest' T k2 k3 k4=>?_⟩
  ·have hle:ys.length*sz≤(cap-xs.length)*sz:=Nat.mul_le_mul_right _ (by omega)
   have:=H2.own_put (cs':=(xs++ys).flatMap E.enc++rest.drop (ys.length*sz))
   have e:BE (xs.flatMap E.enc++rest) (0+xs.length*sz) (ys.flatMap E.enc)=(xs++ys).flatMap E.enc++rest.drop (ys.length*sz):=by
    rw [Nat.zero_add,←hfl,Sm _ _ _ (by omega),List.flatMap_append,hfy]
   rw [e]
   refine hfin this k1 ?_
   rw [List.length_drop,g3,←Nat.sub_mul];congr 1;omega
  ·have e:(((xs.flatMap E.enc++rest).drop 0).take (xs.length*sz)++ys.flatMap E.enc++rest')=(xs++ys).flatMap E.enc++rest':=by
    rw [List.drop_zero,←hfl,List.take_left,List.flatMap_append]
   rw [e]
   exact hfin (H2.drop.drew.alloc _ T) k2 k4
theorem G.append1 {val:Value}{cs:List Value}{a:α}[s:oK L v E xs C][c:bf val cs][d:fQ E cs a](hz:zero.length=E.sz)(hs:E.sz=sz)(hs2:E.sz≤16777216)(h1:(xs.length+1)*bytes≤140737488355328)(h2:xs.length+1≤maxLen)
  (h:∀u,bf u [u]→G w0 (C (sl E u (xs++[a]))) (K u)):G w0 L (ax zero 1 [(0,sz,val)] (fun y w=>bw sz bytes v y K w)):=by
 have he:E.enc a=cs:=E.dec_ok _ _ d.eq
 have hl:=E.len a
 subst hs
 refine G.build E [a] rfl (by omega) ?_ fun y _=>?_
 ·have hsz:val.cells.size=E.sz:=by rw [←hl,he,←c.eq];simp
  simp only [qo,hsz,pt,List.replicate_one,List.flatten_singleton,hz,Nat.zero_add,Nat.le_refl,and_self,if_true,List.flatMap_cons,List.flatMap_nil,List.append_nil,he,c.eq]
  rw [pY _ _ _ (by rw [←he,hl,hz];omega)]
  have:zero.drop cs.length=[]:=List.drop_eq_nil_of_le (by rw [hz,←he,hl];exact Nat.le_refl _)
  simp [this]
 ·refine G.append (ys:=[a]) (C:=fun A=>S.sl E y [a]::C A) h1 h2 fun u hu=>(h u hu).drop
theorem G.take {m:Nat}[s:oK L v E xs C](hm:m≤xs.length)(h:∀u,bf u [u]→G w0 (C (sl E u (xs.take m))) (K u)):G w0 L (gT sz v none (some (i64 m)) K):=fun w H=>by
 obtain⟨M,e1,e2⟩:=nD (w0:=w0) s.sel
 rcases((e1 w).1 H).sl_cases with ⟨rfl,rfl,H2⟩ | ⟨c,cap,rest,rfl,g2,g3,H2⟩
 ·simp at hm;subst hm
  have:=h _ bm _ ((e2 _ _).2 H2.sl_nil)
  simpa [gT,A3] using this
 ·have hk:xs.flatMap E.enc=(xs.take m).flatMap E.enc++(xs.drop m).flatMap E.enc:=by rw [←List.flatMap_append,List.take_append_drop]
  have H3:=H2
  rw [hk,List.append_assoc] at H3
  have:=H3.sl_mk (E:=E) (xs:=xs.take m) (cap:=cap) (by simp;omega) (by
   simp only [List.length_append,jx,g3,List.length_drop,List.length_take]
   rw [←Nat.add_mul];congr 1;omega)
  have h2:=h _ bm _ ((e2 _ _).2 this)
  have e:(xs.take m).length=m:=by simp;omega
  rw [e] at h2
  simp only [gT,A3,Int.le_refl,true_and]
  refine⟨by omega,by omega,?_⟩
  have:(if cap=0 then some (⟨c,0,none⟩:Addr) else some (⟨c,0,none⟩:Addr))=some ⟨c,0,none⟩:=by split <;> rfl
  have hmc:m≤cap:=by omega
  simpa [nW,hmc] using h2
end
theorem an {a b:Prop}(x:a)(y:b):a∧b:=⟨x,y⟩
theorem gg {A B:Prop}(h:B)(f:B→A:=by intro h;repeat' (first | (with_reducible refine G.joini0 ?_) | (with_reducible refine G.joini1 ?_) | (with_reducible refine G.drew ?_) | (simp (maxSteps:=2000000) only [↓RG,RP,RB,BEq.rfl,Int.reduceEq,Int.reduceLT,Int.reduceLE,Nat.reduceEqDiff]));exact h):A:=f h
theorem gf {P A B:Prop}(p:P)(h:B)(f:P→B→A:=by intro p h;repeat' (first | (with_reducible refine G.joini0 ?_) | (with_reducible refine G.joini1 ?_) | (with_reducible refine G.drew ?_) | (simp (maxSteps:=2000000) only [↓RG,RP,RB,BEq.rfl,Int.reduceEq,Int.reduceLT,Int.reduceLE,Nat.reduceEqDiff,p]));exact h):A:=f p h
theorem gr {A B:Prop}(h:B)(f:B→A:=by intro h;(try simp (maxSteps:=2000000) only [↓RG,RP,RB,BEq.rfl,Int.reduceEq,Int.reduceLT,Int.reduceLE,Nat.reduceEqDiff]);exact h):A:=f h
theorem gu {A B:Prop}(h:B)(f:B→A:=by intro h;(try simp (maxSteps:=2000000) only [Pm,Rm,Og,NU,RS,Gf]);exact h):A:=f h
theorem eC {P A B:Prop}(p:P)(h:B)(f:P→B→A:=by intro p h;(try simp (maxSteps:=2000000) only [↓RG,RP,RB,BEq.rfl,Int.reduceEq,Int.reduceLT,Int.reduceLE,Nat.reduceEqDiff,p]);exact h):A:=f p h
theorem g0 {A B:Prop}(h:B)(f:B→A:=by intro h;repeat' (first | (with_reducible refine G.joini0 ?_) | (with_reducible refine G.joini1 ?_) | (with_reducible refine G.drew ?_) | (simp (maxSteps:=2000000) only [↓RG,RB,BEq.rfl,Int.reduceEq,Int.reduceLT,Int.reduceLE,Nat.reduceEqDiff]));exact h):A:=f h
theorem gz {A B:Prop}(h:B)(f:B→A:=by intro h;(try simp (maxSteps:=2000000) only [↓RG,RB,BEq.rfl,Int.reduceEq,Int.reduceLT,Int.reduceLE,Nat.reduceEqDiff]);exact h):A:=f h
theorem Vz {P A B:Prop}(p:P)(h:B)(f:P→B→A:=by intro p h;(try simp (maxSteps:=2000000) only [↓RG,RB,BEq.rfl,Int.reduceEq,Int.reduceLT,Int.reduceLE,Nat.reduceEqDiff,p]);exact h):A:=f p h
end Go.Proofs.YtoealglbimbbmaaGreatDoor.S
