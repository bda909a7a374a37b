import Derived.Test.YtoealglbimbbmaaGreatDoorG
namespace Go.Proofs.YtoealglbimbbmaaGreatDoor.S
open Go Go.Proofs
set_option linter.unusedVariables false
set_option linter.unusedSimpArgs false
structure jY (α:Type) where
 sz:Nat
 enc:α→List Value
 dec:List Value→Option α
 pos:0<sz
 len:∀a,(enc a).length=sz
 ones:∀a,∀u∈enc a,one u=true
 dec_ok:∀cs a,dec cs=some a→enc a=cs
class fx {α:Type}(E:jY α)(a:α)(cs:outParam (List Value)):Prop where
 eq:E.enc a=cs
class gz {α:Type}(E:jY α)(cs:List Value)(a:outParam α):Prop where
 eq:E.dec cs=some a
class eU {α:Type}(xs:List α)(k:Nat)(x:outParam α):Prop where
 eq:xs[k]? = some x
instance eU.z {α:Type}{a:α}{l:List α}:eU (a::l) 0 a:=⟨rfl⟩
instance eU.s {α:Type}{a b:α}{l:List α}{n:Nat}[h:eU l n a]:eU (b::l) (n+1) a:=⟨by simpa using h.eq⟩
class ii (i:Int)(k:outParam Nat):Prop where
 eq:i=(k:Int)
instance {k:Nat}:ii (k:Int) k:=⟨rfl⟩
instance:ii 0 0:=⟨rfl⟩
instance:ii 1 1:=⟨rfl⟩
instance:ii 2 2:=⟨rfl⟩
instance:ii 3 3:=⟨rfl⟩
instance:ii 4 4:=⟨rfl⟩
instance:ii 5 5:=⟨rfl⟩
instance:ii 6 6:=⟨rfl⟩
instance:ii 7 7:=⟨rfl⟩
instance:ii 8 8:=⟨rfl⟩
instance:ii 9 9:=⟨rfl⟩
instance:ii 10 10:=⟨rfl⟩
instance:ii 11 11:=⟨rfl⟩
instance:ii 12 12:=⟨rfl⟩
instance:ii 13 13:=⟨rfl⟩
instance:ii 14 14:=⟨rfl⟩
instance:ii 15 15:=⟨rfl⟩
instance:ii 16 16:=⟨rfl⟩
instance:ii 17 17:=⟨rfl⟩
instance:ii 18 18:=⟨rfl⟩
instance:ii 19 19:=⟨rfl⟩
instance:ii 20 20:=⟨rfl⟩
instance:ii 21 21:=⟨rfl⟩
instance:ii 22 22:=⟨rfl⟩
instance:ii 23 23:=⟨rfl⟩
instance:ii 24 24:=⟨rfl⟩
instance:ii 25 25:=⟨rfl⟩
instance:ii 26 26:=⟨rfl⟩
instance:ii 27 27:=⟨rfl⟩
instance:ii 28 28:=⟨rfl⟩
instance:ii 29 29:=⟨rfl⟩
instance:ii 30 30:=⟨rfl⟩
instance:ii 31 31:=⟨rfl⟩
instance:ii 32 32:=⟨rfl⟩
instance:ii 33 33:=⟨rfl⟩
instance:ii 34 34:=⟨rfl⟩
instance:ii 35 35:=⟨rfl⟩
instance:ii 36 36:=⟨rfl⟩
instance:ii 37 37:=⟨rfl⟩
instance:ii 38 38:=⟨rfl⟩
instance:ii 39 39:=⟨rfl⟩
instance:ii 40 40:=⟨rfl⟩
instance:ii 41 41:=⟨rfl⟩
instance:ii 42 42:=⟨rfl⟩
instance:ii 43 43:=⟨rfl⟩
instance:ii 44 44:=⟨rfl⟩
instance:ii 45 45:=⟨rfl⟩
instance:ii 46 46:=⟨rfl⟩
instance:ii 47 47:=⟨rfl⟩
instance:ii 48 48:=⟨rfl⟩
instance:ii 49 49:=⟨rfl⟩
instance:ii 50 50:=⟨rfl⟩
instance:ii 51 51:=⟨rfl⟩
instance:ii 52 52:=⟨rfl⟩
instance:ii 53 53:=⟨rfl⟩
instance:ii 54 54:=⟨rfl⟩
instance:ii 55 55:=⟨rfl⟩
instance:ii 56 56:=⟨rfl⟩
instance:ii 57 57:=⟨rfl⟩
instance:ii 58 58:=⟨rfl⟩
instance:ii 59 59:=⟨rfl⟩
instance:ii 60 60:=⟨rfl⟩
instance:ii 61 61:=⟨rfl⟩
instance:ii 62 62:=⟨rfl⟩
instance:ii 63 63:=⟨rfl⟩
instance:ii 64 64:=⟨rfl⟩
class yW (i n:Nat)(m:outParam Nat):Prop where
 eq:i+n=m
instance (priority:=1200){n:Nat}:yW 0 n n:=⟨Nat.zero_add n⟩
instance (priority:=1100){i:Nat}:yW i 0 i:=⟨rfl⟩
instance {i n:Nat}:yW i n (i+n):=⟨rfl⟩
class iG (b:Int):Prop where
 ne:b≠0
class bl (b:Int):Prop where
 le:0≤b
instance {k:Nat}:bl (k:Int):=⟨by omega⟩
instance:bl 0:=⟨by decide⟩
instance:bl 1:=⟨by decide⟩
instance:bl 2:=⟨by decide⟩
instance:bl 3:=⟨by decide⟩
instance:bl 4:=⟨by decide⟩
instance:bl 5:=⟨by decide⟩
instance:bl 6:=⟨by decide⟩
instance:bl 7:=⟨by decide⟩
instance:bl 8:=⟨by decide⟩
instance:bl 9:=⟨by decide⟩
instance:bl 10:=⟨by decide⟩
instance:bl 11:=⟨by decide⟩
instance:bl 12:=⟨by decide⟩
instance:bl 13:=⟨by decide⟩
instance:bl 14:=⟨by decide⟩
instance:bl 15:=⟨by decide⟩
instance:bl 16:=⟨by decide⟩
instance:bl 17:=⟨by decide⟩
instance:bl 18:=⟨by decide⟩
instance:bl 19:=⟨by decide⟩
instance:bl 20:=⟨by decide⟩
instance:bl 21:=⟨by decide⟩
instance:bl 22:=⟨by decide⟩
instance:bl 23:=⟨by decide⟩
instance:bl 24:=⟨by decide⟩
instance:bl 25:=⟨by decide⟩
instance:bl 26:=⟨by decide⟩
instance:bl 27:=⟨by decide⟩
instance:bl 28:=⟨by decide⟩
instance:bl 29:=⟨by decide⟩
instance:bl 30:=⟨by decide⟩
instance:bl 31:=⟨by decide⟩
instance:bl 32:=⟨by decide⟩
instance:bl 33:=⟨by decide⟩
instance:bl 34:=⟨by decide⟩
instance:bl 35:=⟨by decide⟩
instance:bl 36:=⟨by decide⟩
instance:bl 37:=⟨by decide⟩
instance:bl 38:=⟨by decide⟩
instance:bl 39:=⟨by decide⟩
instance:bl 40:=⟨by decide⟩
instance:bl 41:=⟨by decide⟩
instance:bl 42:=⟨by decide⟩
instance:bl 43:=⟨by decide⟩
instance:bl 44:=⟨by decide⟩
instance:bl 45:=⟨by decide⟩
instance:bl 46:=⟨by decide⟩
instance:bl 47:=⟨by decide⟩
instance:bl 48:=⟨by decide⟩
instance:bl 49:=⟨by decide⟩
instance:bl 50:=⟨by decide⟩
instance:bl 51:=⟨by decide⟩
instance:bl 52:=⟨by decide⟩
instance:bl 53:=⟨by decide⟩
instance:bl 54:=⟨by decide⟩
instance:bl 55:=⟨by decide⟩
instance:bl 56:=⟨by decide⟩
instance:bl 57:=⟨by decide⟩
instance:bl 58:=⟨by decide⟩
instance:bl 59:=⟨by decide⟩
instance:bl 60:=⟨by decide⟩
instance:bl 61:=⟨by decide⟩
instance:bl 62:=⟨by decide⟩
instance:bl 63:=⟨by decide⟩
instance:bl 64:=⟨by decide⟩
instance:iG 1:=⟨by decide⟩
instance:iG 2:=⟨by decide⟩
instance:iG 3:=⟨by decide⟩
instance:iG 4:=⟨by decide⟩
instance:iG 5:=⟨by decide⟩
instance:iG 6:=⟨by decide⟩
instance:iG 7:=⟨by decide⟩
instance:iG 8:=⟨by decide⟩
instance:iG 9:=⟨by decide⟩
instance:iG 10:=⟨by decide⟩
instance:iG 11:=⟨by decide⟩
instance:iG 12:=⟨by decide⟩
instance:iG 13:=⟨by decide⟩
instance:iG 14:=⟨by decide⟩
instance:iG 15:=⟨by decide⟩
instance:iG 16:=⟨by decide⟩
instance:iG 17:=⟨by decide⟩
instance:iG 18:=⟨by decide⟩
instance:iG 19:=⟨by decide⟩
instance:iG 20:=⟨by decide⟩
instance:iG 21:=⟨by decide⟩
instance:iG 22:=⟨by decide⟩
instance:iG 23:=⟨by decide⟩
instance:iG 24:=⟨by decide⟩
instance:iG 25:=⟨by decide⟩
instance:iG 26:=⟨by decide⟩
instance:iG 27:=⟨by decide⟩
instance:iG 28:=⟨by decide⟩
instance:iG 29:=⟨by decide⟩
instance:iG 30:=⟨by decide⟩
instance:iG 31:=⟨by decide⟩
instance:iG 32:=⟨by decide⟩
instance:iG 33:=⟨by decide⟩
instance:iG 34:=⟨by decide⟩
instance:iG 35:=⟨by decide⟩
instance:iG 36:=⟨by decide⟩
instance:iG 37:=⟨by decide⟩
instance:iG 38:=⟨by decide⟩
instance:iG 39:=⟨by decide⟩
instance:iG 40:=⟨by decide⟩
instance:iG 41:=⟨by decide⟩
instance:iG 42:=⟨by decide⟩
instance:iG 43:=⟨by decide⟩
instance:iG 44:=⟨by decide⟩
instance:iG 45:=⟨by decide⟩
instance:iG 46:=⟨by decide⟩
instance:iG 47:=⟨by decide⟩
instance:iG 48:=⟨by decide⟩
instance:iG 49:=⟨by decide⟩
instance:iG 50:=⟨by decide⟩
instance:iG 51:=⟨by decide⟩
instance:iG 52:=⟨by decide⟩
instance:iG 53:=⟨by decide⟩
instance:iG 54:=⟨by decide⟩
instance:iG 55:=⟨by decide⟩
instance:iG 56:=⟨by decide⟩
instance:iG 57:=⟨by decide⟩
instance:iG 58:=⟨by decide⟩
instance:iG 59:=⟨by decide⟩
instance:iG 60:=⟨by decide⟩
instance:iG 61:=⟨by decide⟩
instance:iG 62:=⟨by decide⟩
instance:iG 63:=⟨by decide⟩
instance:iG 64:=⟨by decide⟩
instance:iG 256:=⟨by decide⟩
instance:iG 255:=⟨by decide⟩
class uJ (ks:List CK)(xs ys:List Value)(t:outParam Bool):Prop where
 f1:gL ks xs
 f2:gL ks ys
 eq:fo xs ys=t
instance uJ.i1 {k:IntKind}{a b:Int}:uJ [.i k] [.int k a] [.int k b] (decide (a=b)):=⟨⟨rfl,trivial⟩,⟨rfl,trivial⟩,by simp [fo];rfl⟩
instance uJ.b1 {a b:Bool}:uJ [.b] [.bool a] [.bool b] (a == b):=⟨trivial,trivial,by simp [fo]⟩
instance (priority:=500) uJ.i {ks:List CK}{xs ys:List Value}{t:Bool}{k:IntKind}{a b:Int}[h:uJ ks xs ys t]:uJ (.i k::ks) (.int k a::xs) (.int k b::ys) (decide (a=b) && t):=⟨⟨rfl,h.f1⟩,⟨rfl,h.f2⟩,by simp [fo,h.eq];rfl⟩
instance (priority:=500) uJ.b {ks:List CK}{xs ys:List Value}{t a b:Bool}[h:uJ ks xs ys t]:uJ (.b::ks) (.bool a::xs) (.bool b::ys) ((a == b) && t):=⟨h.f1,h.f2,by simp [fo,h.eq]⟩
class p9 (zero:List Value)(ps:List (Nat×Nat×Value))(r:outParam (List Value)):Prop where
 eq:qk zero ps=some r
instance p9.nil {z:List Value}:p9 z [] z:=⟨rfl⟩
instance p9.cons {z vs z' r:List Value}{o n:Nat}{v:Value}{ps:List (Nat×Nat×Value)}[hv:ar v vs][hl:Dn vs n][hs:rH z o vs z'][h:p9 z' ps r]:p9 z ((o,n,v)::ps) r:=⟨by
 have h1:v.cells.size=n:=by rw [←hl.eq,←hv.eq];simp
 have h2:=hs.le
 rw [hl.eq] at h2
 simp only [qk,h1,h2,and_self,if_true,hv.eq,hs.eq]
 exact h.eq⟩
section
variable {α:Type}(E:jY α)
theorem jC (xs:List α):(xs.flatMap E.enc).length=xs.length*E.sz:=by
 induction xs with
 | nil=>simp
 | cons x xs ih=>simp [ih,E.len,Nat.add_mul];omega
theorem tj (rest:List Value):∀(xs:List α)(i:Nat)(x:α),xs[i]? = some x→((xs.flatMap E.enc++rest).drop (i*E.sz)).take E.sz=E.enc x
 | [],i,x,h=>by simp at h
 | y::xs,0,x,h=>by
  simp at h;subst h
  have:=E.len y
  simp [List.flatMap_cons,List.append_assoc,←this]
 | y::xs,i+1,x,h=>by
  have:=E.len y
  rw [List.flatMap_cons,List.append_assoc,show (i+1)*E.sz=(E.enc y).length+i*E.sz by rw [this,Nat.add_mul];omega,List.drop_append,List.drop_eq_nil_of_le (by omega),List.nil_append,Nat.add_sub_cancel_left]
  exact tj rest xs i x (by simpa using h)
theorem QE:∀(vs a b:List Value)(j:Nat),j+vs.length≤a.length→B2 (a++b) j vs=B2 a j vs++b:=fun vs a b j h=>by
 rw [qe _ _ _ (by simp;omega),qe _ _ _ h]
 rw [List.take_append_of_le_length (by omega),List.drop_append_of_le_length h]
 simp
theorem He (vs a b:List Value)(j:Nat)(h:j+vs.length≤b.length):B2 (a++b) (a.length+j) vs=a++B2 b j vs:=by
 rw [qe _ _ _ (by simp;omega),qe _ _ _ h]
 rw [show a.length+j+vs.length=a.length+(j+vs.length) by omega,List.take_append,List.drop_append,List.take_of_length_le (by omega),List.drop_eq_nil_of_le (by omega),Nat.add_sub_cancel_left,Nat.add_sub_cancel_left]
 simp
theorem EP (rest:List Value)(vs:List Value)(j:Nat)(a':α):∀(xs:List α)(i:Nat)(a:α),xs[i]? = some a→j+vs.length≤E.sz→E.enc a'=B2 (E.enc a) j vs →
  B2 (xs.flatMap E.enc++rest) (i*E.sz+j) vs=(xs.set i a').flatMap E.enc++rest
 | [],i,a,h,_,_=>by simp at h
 | y::xs,0,a,h,hj,he=>by
  simp at h;subst h
  have:=E.len y
  simp only [List.flatMap_cons,List.append_assoc,Nat.zero_mul,Nat.zero_add,List.set_cons_zero]
  rw [QE _ _ _ _ (by omega),he]
 | y::xs,i+1,a,h,hj,he=>by
  have:=E.len y
  have hlt:i<xs.length:=by
   rcases Nat.lt_or_ge i xs.length with h1 | h1
   ·exact h1
   ·simp [List.getElem?_eq_none h1] at h
  have hle:(i+1)*E.sz≤xs.length*E.sz:=Nat.mul_le_mul_right _ hlt
  simp only [List.flatMap_cons,List.append_assoc,List.set_cons_succ]
  rw [show (i+1)*E.sz+j=(E.enc y).length+(i*E.sz+j) by rw [this,Nat.add_mul];omega,He _ _ _ _ (by simp only [List.length_append,jC];rw [Nat.add_mul] at hle;omega)]
  rw [EP rest vs j a' xs i a (by simpa using h) hj he]
theorem OG (xs:List α):∀u∈xs.flatMap E.enc,one u=true:=fun u hu=>by
 obtain⟨x,_,h⟩:=List.mem_flatMap.1 hu
 exact E.ones x u h
def fz (w:World)(v:Value)(xs:List α):Prop :=
 ∃oa cap,v=.slice oa xs.length cap∧(oa=none→xs=[]∧cap=0)∧∀i x,xs[i]? = some x→∃e o cs,oa=some ⟨e,o,none⟩∧mem w e=some cs∧o+(i+1)*E.sz≤cs.length∧(cs.drop (o+i*E.sz)).take E.sz=E.enc x
def Pv (v:Value)(xs:List α):ay:=fun h=>(v=.slice none 0 0∧xs=[]∧Lj h) ∨
 ∃c cap rest,v=.slice (some ⟨c,0,none⟩) xs.length cap∧xs.length≤cap∧rest.length=(cap-xs.length)*E.sz∧oM c (xs.flatMap E.enc++rest) h
end
abbrev sl {α:Type}(E:jY α)(v:Value)(xs:List α):ay:=ob (Pv E) v xs
section
variable {α:Type}{E:jY α}{w0:bh}{L:List ay}{v:Value}{xs:List α}{w:World}
theorem St.sl_cases (H:St w0 (sl E v xs::L) w):(v=.slice none 0 0∧xs=[]∧St w0 L w) ∨
  ∃c cap rest,v=.slice (some ⟨c,0,none⟩) xs.length cap∧xs.length≤cap∧rest.length=(cap-xs.length)*E.sz∧St w0 (own c (xs.flatMap E.enc++rest)::L) w:=by
 obtain⟨h,⟨a,b,ha,hb,j⟩,hd⟩:=id H
 rw [show sl E v xs=Pv E v xs from eZ _ _ _] at ha
 rcases ha with ⟨h1,h2,h3⟩ | ⟨c,cap,rest,h1,h2,h3,h4⟩
 ·exact .inl ⟨h1,h2,H.drop⟩
 ·exact .inr ⟨c,cap,rest,h1,h2,h3,h,⟨a,b,by rw [show own c (xs.flatMap E.enc++rest)=oM c _ from eZ _ _ _];exact h4,hb,j⟩,hd⟩
theorem St.sl_mk {c cap:Nat}{rest:List Value}(H:St w0 (own c (xs.flatMap E.enc++rest)::L) w)(h2:xs.length≤cap)(h3:rest.length=(cap-xs.length)*E.sz):St w0 (sl E (.slice (some ⟨c,0,none⟩) xs.length cap) xs::L) w:=by
 obtain⟨h,⟨a,b,ha,hb,j⟩,hd⟩:=H
 rw [show own c (xs.flatMap E.enc++rest)=oM c _ from eZ _ _ _] at ha
 exact⟨h,⟨a,b,by rw [show sl E (.slice (some ⟨c,0,none⟩) xs.length cap) xs=Pv E _ xs from eZ _ _ _];exact .inr ⟨c,cap,rest,rfl,h2,h3,ha⟩,hb,j⟩,hd⟩
theorem St.sl_nil (H:St w0 L w):St w0 (sl E (.slice none 0 0) []::L) w:=by
 obtain⟨h,hs,hd⟩:=H
 refine⟨h,?_,hd⟩
 have h2:bk Lj (da L) h:=by rw [qN];exact hs
 obtain⟨a,b,h1,h2,j⟩:=h2
 exact⟨a,b,by rw [show sl E (.slice none 0 0) ([]:List α)=Pv E _ [] from eZ _ _ _];exact .inl ⟨rfl,rfl,h1⟩,h2,j⟩
theorem fz.mk {c cap:Nat}{rest:List Value}(hm:mem w c=some (xs.flatMap E.enc++rest)):fz E w (.slice (some ⟨c,0,none⟩) xs.length cap) xs :=
 ⟨some ⟨c,0,none⟩,cap,rfl,by simp,fun i x hx=>⟨c,0,_,rfl,hm,by
  have:i<xs.length:=by
   rcases Nat.lt_or_ge i xs.length with h | h
   ·exact h
   ·simp [List.getElem?_eq_none h] at hx
  have:=Nat.mul_le_mul_right E.sz (show i+1≤xs.length from this)
  simp only [List.length_append,jC];omega,by rw [Nat.zero_add];exact tj E rest xs i x hx⟩⟩
theorem St.sl_is (H:St w0 (sl E v xs::L) w):fz E w v xs:=by
 rcases H.sl_cases with ⟨rfl,rfl,_⟩ | ⟨c,cap,rest,rfl,_,_,H2⟩
 ·exact⟨none,0,rfl,fun _=>⟨rfl,rfl⟩,fun i x hx=>by simp at hx⟩
 ·exact fz.mk H2.own_mem.2.1
end
class A3 {α:outParam Type}(w0:bh)(v:Value)(E:outParam (jY α))(xs:outParam (List α)):Prop where
 is:fz E w0.w v xs
class Rd {α:outParam Type}(w0:bh)(L:List ay)(v:Value)(E:outParam (jY α))(sz:outParam Nat)(xs:outParam (List α)):Prop where
 sz:E.sz=sz
 rd:∀w,St w0 L w→fz E w v xs
section
variable {α:Type}{E:jY α}{w0:bh}{L:List ay}{v:Value}{xs:List α}{w:World}
theorem fz.step {w':World}(h:fz E w v xs)(s:jd [] w w'):fz E w' v xs:=by
 obtain⟨oa,cap,h1,h2,h3⟩:=h
 refine⟨oa,cap,h1,h2,fun i x hx=>?_⟩
 obtain⟨e,o,cs,g1,g2,g3,g4⟩:=h3 i x hx
 exact⟨e,o,cs,g1,s.mem_some g2 (by simp),g3,g4⟩
instance Rd.sl:Rd w0 (sl E v xs::L) v E E.sz xs:=⟨rfl,fun w H=>H.sl_is⟩
instance (priority:=500) Rd.tl {X:ay}{sz:Nat}[h:Rd w0 L v E sz xs]:Rd w0 (X::L) v E sz xs:=⟨h.sz,fun w H=>h.rd w H.drop⟩
instance (priority:=1100) Rd.arg [h:A3 w0 v E xs]:Rd w0 L v E E.sz xs:=⟨rfl,fun w H=>h.is.step H.step⟩
instance A3.with {k:Nat→Option Obj}{m:Nat}[h:A3 w0 v E xs]:A3 (w0.with k m) v E xs:=⟨h.is⟩
theorem Rd.frame {sz:Nat}{C:ay→List ay}{M:List ay}(hM:∀A,da (C A)=da (A::M))(r:∀A,Rd w0 (C A) v E sz xs):Rd w0 M v E sz xs:=⟨(r Lj).sz,fun w H=>(r Lj).rd w (by
 obtain⟨h,hs,hd⟩:=H
 refine⟨h,?_,hd⟩
 rw [hM]
 show bk Lj (da M) h
 rw [qN];exact hs)⟩
class n9 {α:outParam Type}(L:List ay)(v:Value)(E:outParam (jY α))(xs:outParam (List α))(C:outParam (ay→List ay)):Prop where
 sel:aq L (Pv E) v xs C
instance n9.hd:n9 (S.sl E v xs::L) v E xs (fun a=>a::L):=⟨aq.hd⟩
instance (priority:=500) n9.tl {X:ay}{C:ay→List ay}[h:n9 L v E xs C]:n9 (X::L) v E xs (fun a=>X::C a):=⟨@aq.tl _ _ _ _ _ _ _ _ h.sel⟩
instance n9.ob {C:ay→List ay}[h:n9 L v E xs C]:aq L (Pv E) v xs C:=h.sel
theorem og {C:ay→List ay}(i:aq L (Pv E) v xs C):∃M,(∀w,St w0 L w↔St w0 (S.sl E v xs::M) w)∧(∀A w,St w0 (C A) w↔St w0 (A::M) w):=by
 obtain⟨M,e1,e2,_⟩:=i.fronts
 exact⟨M,fun w=>by unfold St;rw [e1],fun A w=>by unfold St;rw [e2]⟩
def ep (v:Value)(sz k j:Nat):Value:=match v with
 | .slice (some ⟨c,o,none⟩) _ _=>ptr c (o+k*sz+j)
 | _=>undef
variable {K:KV}{sz k j n:Nat}{x:α}
theorem Rd.at [r:Rd w0 L v E sz xs][e:eU xs k x](H:St w0 L w):∃b o cap cs,v=.slice (some ⟨b,o,none⟩) xs.length cap∧mem w b=some cs∧o+(k+1)*sz≤cs.length∧(cs.drop (o+k*sz)).take sz=E.enc x∧k<xs.length:=by
 obtain⟨oa,cap,rfl,_,h⟩:=r.rd w H
 obtain⟨b,o,cs,rfl,h1,h2,h3⟩:=h k x e.eq
 rw [r.sz] at h2 h3
 exact⟨b,o,cap,cs,rfl,h1,h2,h3,by
  rcases Nat.lt_or_ge k xs.length with h | h
  ·exact h
  ·have:=e.eq;simp [List.getElem?_eq_none h] at this⟩
theorem zJ {F F':World→Prop}(h:∀w,St w0 L w→(F w↔F' w)):G w0 L F=G w0 L F':=propext ⟨fun g w H=>(h w H).1 (g w H),fun g w H=>(h w H).2 (g w H)⟩
theorem TO [r:Rd w0 L v E sz xs]:G w0 L (bp v K)=G w0 L (K (i64 xs.length)):=zJ fun w H=>by
 obtain⟨oa,cap,rfl,_⟩:=r.rd w H
 exact Iff.rfl
theorem TS {kd:IntKind}{i:Int}[r:Rd w0 L v E sz xs][hi:ii i k][e:eU xs k x]:G w0 L (bt sz v (.int kd i) K)=G w0 L (K (ep v sz k 0)):=zJ fun w H=>by
 obtain⟨b,o,cap,cs,rfl,_,_,_,hk⟩:=Rd.at (x:=x) (k:=k) (r:=r) H
 have:=hi.eq
 subst this
 simp [bt,ep,hk]
theorem QP {m:Nat}[r:Rd w0 L v E sz xs][e:eU xs k x][a:yW j n m]:G w0 L (ad n (ep v sz k j) K)=G w0 L (K (ep v sz k m)):=zJ fun w H=>by
 have:=a.eq
 subst this
 obtain⟨b,o,cap,cs,rfl,_⟩:=Rd.at (x:=x) (k:=k) (r:=r) H
 simp [ad,ep,Nat.add_assoc]
theorem P1 [r:Rd w0 L v E sz xs][e:eU xs k x]:G w0 L (ai (ep v sz k j) K)=G w0 L (K (ep v sz k j)):=zJ fun w H=>by
 obtain⟨b,o,cap,cs,rfl,_⟩:=Rd.at (x:=x) (k:=k) (r:=r) H
 simp [ai,ep]
theorem Oz {u:Value}{cs:List Value}[r:Rd w0 L v E sz xs][e:eU xs k x][c:fx E x cs][h:Jp cs j u]:G w0 L (ab (ep v sz k j) K)=G w0 L (K u):=zJ fun w H=>by
 obtain⟨b,o,cap,ds,rfl,h1,h2,h3,_⟩:=Rd.at (x:=x) (k:=k) (r:=r) H
 have h4:=h.eq
 rw [←c.eq,←h3,List.getElem?_take] at h4
 split at h4
 ·rw [List.getElem?_drop] at h4
  simp [ab,ep,h1,h4,dn]
 ·cases h4
theorem Lq {cs q:List Value}[r:Rd w0 L v E sz xs][e:eU xs k x][c:fx E x cs][h:kg cs j n q]:G w0 L (aj n (ep v sz k j) K)=G w0 L (K (.agg q.toArray)):=zJ fun w H=>by
 obtain⟨b,o,cap,ds,rfl,h1,h2,h3,_⟩:=Rd.at (x:=x) (k:=k) (r:=r) H
 have h4:=h.eq
 have h5:=h.le
 have h6:cs.length=sz:=by rw [←c.eq,E.len,r.sz]
 rw [←c.eq,←h3,List.drop_take,List.take_take,List.drop_drop,Nat.min_eq_left (by omega)] at h4
 rw [Nat.add_mul] at h2
 simp [aj,ep,h1,h4,show o+k*sz+j+n≤ds.length by omega]
theorem Lt {val:Value}{cs vs q:List Value}{x':α}{C:ay→List ay}[r:Rd w0 L v E sz xs][s:n9 L v E xs C][e:eU xs k x][c:fx E x cs][hv:ar val vs][hl:Dn vs n][hr:rH cs j vs q][hd:gz E q x'] :
  G w0 L (ag n (ep v sz k j) val K)=G w0 (C (S.sl E v (xs.set k x'))) (K undef):=by
 obtain⟨M,e1,e2⟩:=og (w0:=w0) s.sel
 have hsz:val.cells.size=n:=by rw [←hl.eq,←hv.eq];simp
 have henc:E.enc x'=B2 (E.enc x) j vs:=by rw [E.dec_ok _ _ hd.eq,c.eq,hr.eq]
 have hj:j+vs.length≤E.sz:=by have:=hr.le;rw [←c.eq,E.len] at this;exact this
 have hk:k<xs.length:=by
  rcases Nat.lt_or_ge k xs.length with h | h
  ·exact h
  ·have:=e.eq;simp [List.getElem?_eq_none h] at this
 have hkl:=Nat.mul_le_mul_right E.sz (show k+1≤xs.length from hk)
 rw [Nat.add_mul] at hkl
 apply propext
 constructor
 ·intro g w H
  have H1:=(e2 _ w).1 H
  rcases H1.sl_cases with ⟨_,h0,_⟩ | ⟨b,cap,rest,hv',h2,h3,H2⟩
  ·have:(xs.set k x').length=0:=by rw [h0];rfl
   simp at this;subst this;simp at hk
  ·rw [List.length_set] at hv' h2 h3
   subst hv'
   have H3:=H2.own_put (cs':=xs.flatMap E.enc++rest)
   have H4:=(e1 _).2 (H3.sl_mk h2 h3)
   have h5:=g _ H4
   have hm:=H3.own_mem
   simp only [ag,ep,hm.2.1,hm.2.2,hsz,hv.eq,Nat.zero_add,←r.sz] at h5
   have h6:=h5.2.2.2.2
   rw [EP E rest vs j x' xs k x e.eq hj henc,IE,BO H2.own_mem.2.1] at h6
   exact h6
 ·intro g w H
  have H1:=(e1 w).1 H
  rcases H1.sl_cases with ⟨_,rfl,_⟩ | ⟨b,cap,rest,rfl,h2,h3,H2⟩
  ·simp at hk
  ·have hm:=H2.own_mem
   simp only [ag,ep,hm.2.1,hm.2.2,hsz,hv.eq,Nat.zero_add,←r.sz]
   refine⟨trivial,hv.ones,trivial,by have:=hl.eq;simp only [List.length_append,jC];omega,?_⟩
   rw [EP E rest vs j x' xs k x e.eq hj henc]
   refine g _ ((e2 _ _).2 ?_)
   have:=(H2.own_put (cs':=(xs.set k x').flatMap E.enc++rest)).sl_mk (E:=E) (xs:=xs.set k x') (cap:=cap) (by simpa using h2) (by simpa using h3)
   simpa using this
end
section
variable {w0:bh}{L:List ay}{K:KV}
theorem Sm {b i:Nat}:ai (ptr b i) K=K (ptr b i):=by funext w <;> simp [ai]
theorem PT {f:FuncId}{x y:Array Value}:ai (.func (.func f) x y) K=K (.func (.func f) x y):=by funext w <;> simp [ai]
theorem Sz {b i n m:Nat}[h:yW i n m]:ad n (ptr b i) K=K (ptr b m):=by funext w <;> simp [ad,h.eq]
theorem Sv {t:Bool}:ga (.bool t) K=K (.bool (!t)):=by funext w <;> simp [ga]
theorem Ms {x y:Value}:bd (.bool true) x y K=K x:=by funext w <;> simp [bd]
theorem M7 {x y:Value}:bd (.bool false) x y K=K y:=by funext w <;> simp [bd]
theorem R7 {k:IntKind}{a b:Int}:aa .lss (.int k a) (.int k b) K=K (.bool (decide (a<b))):=by funext w <;> simp [aa,kh,dn,Bool.beq_eq_decide_eq]
theorem Sa {k:IntKind}{a b:Int}:aa .leq (.int k a) (.int k b) K=K (.bool (decide (a≤b))):=by funext w <;> simp [aa,kh,dn,Bool.beq_eq_decide_eq]
theorem SF {k:IntKind}{a b:Int}:aa .gtr (.int k a) (.int k b) K=K (.bool (decide (b<a))):=by funext w <;> simp [aa,kh,dn,Bool.beq_eq_decide_eq]
theorem Sx {k:IntKind}{a b:Int}:aa .geq (.int k a) (.int k b) K=K (.bool (decide (b≤a))):=by funext w <;> simp [aa,kh,dn,Bool.beq_eq_decide_eq]
theorem Sr {k:IntKind}{a b:Int}:aa .eql (.int k a) (.int k b) K=K (.bool (decide (a=b))):=by funext w <;> simp [aa,kh,dn,Bool.beq_eq_decide_eq]
theorem R9 {k:IntKind}{a b:Int}:aa .neq (.int k a) (.int k b) K=K (.bool (!decide (a=b))):=by funext w <;> simp [aa,kh,dn,bne,Bool.beq_eq_decide_eq]
theorem PK {k:IntKind}{a b:Int}:aa .add (.int k a) (.int k b) K=K (.int k (k.wrap (a+b))):=by funext w <;> simp [aa,kh,dn]
theorem Sq {k:IntKind}{a b:Int}:aa .sub (.int k a) (.int k b) K=K (.int k (k.wrap (a-b))):=by funext w <;> simp [aa,kh,dn]
theorem Sw {k:IntKind}{a b:Int}:aa .mul (.int k a) (.int k b) K=K (.int k (k.wrap (a*b))):=by funext w <;> simp [aa,kh,dn]
theorem SB {k:IntKind}{a b:Int}[h:iG b]:aa .quo (.int k a) (.int k b) K=K (.int k (k.wrap (a.tdiv b))):=by funext w <;> simp [aa,kh,dn,h.ne]
theorem Sh {k:IntKind}{a b:Int}[h:iG b]:aa .rem (.int k a) (.int k b) K=K (.int k (a.tmod b)):=by funext w <;> simp [aa,kh,dn,h.ne]
theorem Qi {k:IntKind}{a b:Int}:aa .and (.int k a) (.int k b) K=K (.int k (k.wrap (BitVec.ofInt k.bits a &&& BitVec.ofInt k.bits b).toNat)):=by funext w <;> simp [aa,kh,dn]
theorem R8 {k:IntKind}{a b:Int}:aa .or (.int k a) (.int k b) K=K (.int k (k.wrap (BitVec.ofInt k.bits a ||| BitVec.ofInt k.bits b).toNat)):=by funext w <;> simp [aa,kh,dn]
theorem Pd {k:IntKind}{a b:Int}:aa .xor (.int k a) (.int k b) K=K (.int k (k.wrap (BitVec.ofInt k.bits a ^^^ BitVec.ofInt k.bits b).toNat)):=by funext w <;> simp [aa,kh,dn]
theorem SD {k k2:IntKind}{a b:Int}[h:bl b]:aa .shl (.int k a) (.int k2 b) K=K (.int k (k.wrap (a*2 ^ min b.toNat k.bits))):=by funext w <;> simp [aa,h.le]
theorem Sb {k k2:IntKind}{a b:Int}[h:bl b]:aa .shr (.int k a) (.int k2 b) K=K (.int k (a.fdiv (2 ^ min b.toNat k.bits))):=by funext w <;> simp [aa,h.le]
theorem Mk {t:Nat}{x:Value}:qx t x K=K (.iface t x):=by funext w <;> simp [qx]
theorem P2 {k k2:IntKind}{a:Int}:ig k (.int k2 a) K=K (.int k (k.wrap a)):=by funext w <;> simp [ig]
theorem Sc {a b:Bool}:fI .eql (.bool a) (.bool b) K=K (.bool (a == b)):=by funext w <;> simp [fI,FJ]
theorem Su {a b:Bool}:fI .neq (.bool a) (.bool b) K=K (.bool (!(a == b))):=by funext w <;> simp [fI,FJ]
theorem Qx {b i:Nat}:eW .eql (ptr b i) (.pointer none) K=K (.bool false):=by funext w <;> simp [eW,FJ]
theorem Mw {b i:Nat}:eW .neq (ptr b i) (.pointer none) K=K (.bool true):=by funext w <;> simp [eW,FJ]
theorem PH  : eW .eql (.pointer none) (.pointer none) K=K (.bool true):=by funext w <;> simp [eW,FJ]
theorem Nj  : eW .neq (.pointer none) (.pointer none) K=K (.bool false):=by funext w <;> simp [eW,FJ]
theorem Nf {ks:List CK}{xs ys:List Value}{t:Bool}[h:uJ ks xs ys t]:jb ks .eql (.agg xs.toArray) (.agg ys.toArray) K=K (.bool t):=by funext w <;> simp [jb,h.f1,h.f2,h.eq,FJ]
theorem Nb {ks:List CK}{xs ys:List Value}{t:Bool}[h:uJ ks xs ys t]:jb ks .neq (.agg xs.toArray) (.agg ys.toArray) K=K (.bool (!t)):=by funext w <;> simp [jb,h.f1,h.f2,h.eq,FJ]
theorem PA {o n:Nat}{cs:List Value}{v:Value}[h:Jp cs o v]:oh false o n (.agg cs.toArray) K=K v:=by funext w <;> simp [oh,h.eq,dn]
theorem M0 {o n:Nat}{cs r:List Value}[h:kg cs o n r]:oh true o n (.agg cs.toArray) K=K (.agg r.toArray):=by funext w <;> simp only [oh,if_true] <;> congr 2 <;> apply Array.toList_inj.1 <;> simp [←h.eq]
theorem G0 {i:Nat}{vs:List Value}{v:Value}[h:Jp vs i v]:ao i (.tuple vs.toArray) K=K v:=by funext w <;> simp [ao,h.eq,dn]
theorem Nn {zero r:List Value}{ps:List (Nat×Nat×Value)}[h:p9 zero ps r]:ap zero ps K=K (.agg r.toArray):=by funext w <;> simp [ap,h.eq]
theorem Si {k:IntKind}{a b:Int}:lP (.int k a) [.int k b] K=K (.int k (if b > a then b else a)):=by funext w <;> simp [lP,Bw,MJ,dn]
theorem Sn {k:IntKind}{a b:Int}:iN (.int k a) [.int k b] K=K (.int k (if b<a then b else a)):=by funext w <;> simp [iN,Bw,Kw,dn]
theorem Qq {k:IntKind}{a b c:Int}:iN (.int k a) [.int k b,.int k c] K=K (.int k (if c<(if b<a then b else a) then c else (if b<a then b else a))):=by funext w <;> simp [iN,Bw,Kw,dn]
theorem Nc {A B:World→Prop}:ae (.bool true) A B=A:=by rw [IV]
theorem Mj {A B:World→Prop}:ae (.bool false) A B=B:=by rw [Iq]
theorem Ua {t:Bool}{A:KV→World→Prop}:gW (.bool t) t A K=A K:=by rw [QV]
theorem Sf {A:KV→World→Prop}:gW (.bool true) false A K=K undef:=by rw [MC]
theorem SC {A:KV→World→Prop}:gW (.bool false) true A K=K undef:=by rw [MO]
theorem TG {t:Bool}{A:KV→World→Prop}:gW undef t A K=K undef:=by rw [Uh]
theorem TM {t:Bool}{A:KV→World→Prop}{e:Value}:df (.bool t) t A e K=A K:=by rw [vH]
theorem SA {A:KV→World→Prop}{e:Value}:df (.bool true) false A e K=K e:=by rw [xS]
theorem Ss {A:KV→World→Prop}{e:Value}:df (.bool false) true A e K=K e:=by rw [xM]
theorem Ps {p q:Bool}:df (.bool p) true (fun K=>K (.bool q)) (.bool false) K=K (.bool (p && q)):=by rw [LD]
theorem Sd {p q:Bool}:df (.bool p) false (fun K=>K (.bool q)) (.bool true) K=K (.bool (p || q)):=by rw [OD]
theorem Ug {b i:Nat}:G w0 L (ai (ptr b i) K)=G w0 L (K (ptr b i)):=congrArg _ Sm
theorem SO {f:FuncId}{x y:Array Value}:G w0 L (ai (.func (.func f) x y) K)=G w0 L (K (.func (.func f) x y)):=congrArg _ PT
theorem TY {b i n m:Nat}[h:yW i n m]:G w0 L (ad n (ptr b i) K)=G w0 L (K (ptr b m)):=congrArg _ Sz
theorem TR {t:Bool}:G w0 L (ga (.bool t) K)=G w0 L (K (.bool (!t))):=congrArg _ Sv
theorem Rv {x y:Value}:G w0 L (bd (.bool true) x y K)=G w0 L (K x):=congrArg _ Ms
theorem Q3 {x y:Value}:G w0 L (bd (.bool false) x y K)=G w0 L (K y):=congrArg _ M7
theorem TI {k:IntKind}{a b:Int}:G w0 L (aa .lss (.int k a) (.int k b) K)=G w0 L (K (.bool (decide (a<b)))):=congrArg _ R7
theorem TE {k:IntKind}{a b:Int}:G w0 L (aa .leq (.int k a) (.int k b) K)=G w0 L (K (.bool (decide (a≤b)))):=congrArg _ Sa
theorem T3 {k:IntKind}{a b:Int}:G w0 L (aa .gtr (.int k a) (.int k b) K)=G w0 L (K (.bool (decide (b<a)))):=congrArg _ SF
theorem TQ {k:IntKind}{a b:Int}:G w0 L (aa .geq (.int k a) (.int k b) K)=G w0 L (K (.bool (decide (b≤a)))):=congrArg _ Sx
theorem T1 {k:IntKind}{a b:Int}:G w0 L (aa .eql (.int k a) (.int k b) K)=G w0 L (K (.bool (decide (a=b)))):=congrArg _ Sr
theorem T2 {k:IntKind}{a b:Int}:G w0 L (aa .neq (.int k a) (.int k b) K)=G w0 L (K (.bool (!decide (a=b)))):=congrArg _ R9
theorem Tf {k:IntKind}{a b:Int}:G w0 L (aa .add (.int k a) (.int k b) K)=G w0 L (K (.int k (k.wrap (a+b)))):=congrArg _ PK
theorem TH {k:IntKind}{a b:Int}:G w0 L (aa .sub (.int k a) (.int k b) K)=G w0 L (K (.int k (k.wrap (a-b)))):=congrArg _ Sq
theorem TF {k:IntKind}{a b:Int}:G w0 L (aa .mul (.int k a) (.int k b) K)=G w0 L (K (.int k (k.wrap (a*b)))):=congrArg _ Sw
theorem Ud {k:IntKind}{a b:Int}[h:iG b]:G w0 L (aa .quo (.int k a) (.int k b) K)=G w0 L (K (.int k (k.wrap (a.tdiv b)))):=congrArg _ SB
theorem Uo {k:IntKind}{a b:Int}[h:iG b]:G w0 L (aa .rem (.int k a) (.int k b) K)=G w0 L (K (.int k (a.tmod b))):=congrArg _ Sh
theorem SL {k:IntKind}{a b:Int}:G w0 L (aa .and (.int k a) (.int k b) K)=G w0 L (K (.int k (k.wrap (BitVec.ofInt k.bits a &&& BitVec.ofInt k.bits b).toNat))):=congrArg _ Qi
theorem TL {k:IntKind}{a b:Int}:G w0 L (aa .or (.int k a) (.int k b) K)=G w0 L (K (.int k (k.wrap (BitVec.ofInt k.bits a ||| BitVec.ofInt k.bits b).toNat))):=congrArg _ R8
theorem SR {k:IntKind}{a b:Int}:G w0 L (aa .xor (.int k a) (.int k b) K)=G w0 L (K (.int k (k.wrap (BitVec.ofInt k.bits a ^^^ BitVec.ofInt k.bits b).toNat))):=congrArg _ Pd
theorem Ul {k k2:IntKind}{a b:Int}[h:bl b]:G w0 L (aa .shl (.int k a) (.int k2 b) K)=G w0 L (K (.int k (k.wrap (a*2 ^ min b.toNat k.bits)))):=congrArg _ SD
theorem TZ {k k2:IntKind}{a b:Int}[h:bl b]:G w0 L (aa .shr (.int k a) (.int k2 b) K)=G w0 L (K (.int k (a.fdiv (2 ^ min b.toNat k.bits)))):=congrArg _ Sb
theorem RC {t:Nat}{x:Value}:G w0 L (qx t x K)=G w0 L (K (.iface t x)):=congrArg _ Mk
theorem Tn {k k2:IntKind}{a:Int}:G w0 L (ig k (.int k2 a) K)=G w0 L (K (.int k (k.wrap a))):=congrArg _ P2
theorem T7 {a b:Bool}:G w0 L (fI .eql (.bool a) (.bool b) K)=G w0 L (K (.bool (a == b))):=congrArg _ Sc
theorem T5 {a b:Bool}:G w0 L (fI .neq (.bool a) (.bool b) K)=G w0 L (K (.bool (!(a == b)))):=congrArg _ Su
theorem SZ {b i:Nat}:G w0 L (eW .eql (ptr b i) (.pointer none) K)=G w0 L (K (.bool false)):=congrArg _ Qx
theorem R0 {b i:Nat}:G w0 L (eW .neq (ptr b i) (.pointer none) K)=G w0 L (K (.bool true)):=congrArg _ Mw
theorem SU  : G w0 L (eW .eql (.pointer none) (.pointer none) K)=G w0 L (K (.bool true)):=congrArg _ PH
theorem RA  : G w0 L (eW .neq (.pointer none) (.pointer none) K)=G w0 L (K (.bool false)):=congrArg _ Nj
theorem Rh {ks:List CK}{xs ys:List Value}{t:Bool}[h:uJ ks xs ys t]:G w0 L (jb ks .eql (.agg xs.toArray) (.agg ys.toArray) K)=G w0 L (K (.bool t)):=congrArg _ Nf
theorem Rr {ks:List CK}{xs ys:List Value}{t:Bool}[h:uJ ks xs ys t]:G w0 L (jb ks .neq (.agg xs.toArray) (.agg ys.toArray) K)=G w0 L (K (.bool (!t))):=congrArg _ Nb
theorem Tp {o n:Nat}{cs:List Value}{v:Value}[h:Jp cs o v]:G w0 L (oh false o n (.agg cs.toArray) K)=G w0 L (K v):=congrArg _ PA
theorem RS {o n:Nat}{cs r:List Value}[h:kg cs o n r]:G w0 L (oh true o n (.agg cs.toArray) K)=G w0 L (K (.agg r.toArray)):=congrArg _ M0
theorem Nt {i:Nat}{vs:List Value}{v:Value}[h:Jp vs i v]:G w0 L (ao i (.tuple vs.toArray) K)=G w0 L (K v):=congrArg _ G0
theorem RN {zero r:List Value}{ps:List (Nat×Nat×Value)}[h:p9 zero ps r]:G w0 L (ap zero ps K)=G w0 L (K (.agg r.toArray)):=congrArg _ Nn
theorem T6 {k:IntKind}{a b:Int}:G w0 L (lP (.int k a) [.int k b] K)=G w0 L (K (.int k (if b > a then b else a))):=congrArg _ Si
theorem TV {k:IntKind}{a b:Int}:G w0 L (iN (.int k a) [.int k b] K)=G w0 L (K (.int k (if b<a then b else a))):=congrArg _ Sn
theorem SS {k:IntKind}{a b c:Int}:G w0 L (iN (.int k a) [.int k b,.int k c] K)=G w0 L (K (.int k (if c<(if b<a then b else a) then c else (if b<a then b else a)))):=congrArg _ Qq
theorem R1 {A B:World→Prop}:G w0 L (ae (.bool true) A B)=G w0 L (A):=congrArg _ Nc
theorem Re {A B:World→Prop}:G w0 L (ae (.bool false) A B)=G w0 L (B):=congrArg _ Mj
theorem Uv {t:Bool}{A:KV→World→Prop}:G w0 L (gW (.bool t) t A K)=G w0 L (A K):=congrArg _ Ua
theorem Ub {A:KV→World→Prop}:G w0 L (gW (.bool true) false A K)=G w0 L (K undef):=congrArg _ Sf
theorem Ue {A:KV→World→Prop}:G w0 L (gW (.bool false) true A K)=G w0 L (K undef):=congrArg _ SC
theorem UH {t:Bool}{A:KV→World→Prop}:G w0 L (gW undef t A K)=G w0 L (K undef):=congrArg _ TG
theorem Uy {t:Bool}{A:KV→World→Prop}{e:Value}:G w0 L (df (.bool t) t A e K)=G w0 L (A K):=congrArg _ TM
theorem Uk {A:KV→World→Prop}{e:Value}:G w0 L (df (.bool true) false A e K)=G w0 L (K e):=congrArg _ SA
theorem TK {A:KV→World→Prop}{e:Value}:G w0 L (df (.bool false) true A e K)=G w0 L (K e):=congrArg _ Ss
theorem Td {p q:Bool}:G w0 L (df (.bool p) true (fun K=>K (.bool q)) (.bool false) K)=G w0 L (K (.bool (p && q))):=congrArg _ Ps
theorem Ui {p q:Bool}:G w0 L (df (.bool p) false (fun K=>K (.bool q)) (.bool true) K)=G w0 L (K (.bool (p || q))):=congrArg _ Sd
theorem Tq {B:World→Prop}:G w0 L (andP ac B)=G w0 L (B):=by rw [Hj]
end
theorem RG :
  (∀{w0:bh} {L:List ay} {K:KV} {b i:Nat},G w0 L (ai (ptr b i) K)=G w0 L (K (ptr b i))) ∧
  (∀{w0:bh} {L:List ay} {K:KV} {f:FuncId} {x y:Array Value},G w0 L (ai (.func (.func f) x y) K)=G w0 L (K (.func (.func f) x y))) ∧
  (∀{w0:bh} {L:List ay} {K:KV} {b i n m:Nat} [h:yW i n m],G w0 L (ad n (ptr b i) K)=G w0 L (K (ptr b m))) ∧
  (∀{w0:bh} {L:List ay} {K:KV} {t:Bool},G w0 L (ga (.bool t) K)=G w0 L (K (.bool (!t)))) ∧
  (∀{w0:bh} {L:List ay} {K:KV} {x y:Value},G w0 L (bd (.bool true) x y K)=G w0 L (K x)) ∧
  (∀{w0:bh} {L:List ay} {K:KV} {x y:Value},G w0 L (bd (.bool false) x y K)=G w0 L (K y)) ∧
  (∀{w0:bh} {L:List ay} {K:KV} {k:IntKind} {a b:Int},G w0 L (aa .lss (.int k a) (.int k b) K)=G w0 L (K (.bool (decide (a<b))))) ∧
  (∀{w0:bh} {L:List ay} {K:KV} {k:IntKind} {a b:Int},G w0 L (aa .leq (.int k a) (.int k b) K)=G w0 L (K (.bool (decide (a≤b))))) ∧
  (∀{w0:bh} {L:List ay} {K:KV} {k:IntKind} {a b:Int},G w0 L (aa .gtr (.int k a) (.int k b) K)=G w0 L (K (.bool (decide (b<a))))) ∧
  (∀{w0:bh} {L:List ay} {K:KV} {k:IntKind} {a b:Int},G w0 L (aa .geq (.int k a) (.int k b) K)=G w0 L (K (.bool (decide (b≤a))))) ∧
  (∀{w0:bh} {L:List ay} {K:KV} {k:IntKind} {a b:Int},G w0 L (aa .eql (.int k a) (.int k b) K)=G w0 L (K (.bool (decide (a=b))))) ∧
  (∀{w0:bh} {L:List ay} {K:KV} {k:IntKind} {a b:Int},G w0 L (aa .neq (.int k a) (.int k b) K)=G w0 L (K (.bool (!decide (a=b))))) ∧
  (∀{w0:bh} {L:List ay} {K:KV} {k:IntKind} {a b:Int},G w0 L (aa .add (.int k a) (.int k b) K)=G w0 L (K (.int k (k.wrap (a+b))))) ∧
  (∀{w0:bh} {L:List ay} {K:KV} {k:IntKind} {a b:Int},G w0 L (aa .sub (.int k a) (.int k b) K)=G w0 L (K (.int k (k.wrap (a-b))))) ∧
  (∀{w0:bh} {L:List ay} {K:KV} {k:IntKind} {a b:Int},G w0 L (aa .mul (.int k a) (.int k b) K)=G w0 L (K (.int k (k.wrap (a*b))))) ∧
  (∀{w0:bh} {L:List ay} {K:KV} {k:IntKind} {a b:Int} [h:iG b],G w0 L (aa .quo (.int k a) (.int k b) K)=G w0 L (K (.int k (k.wrap (a.tdiv b))))) ∧
  (∀{w0:bh} {L:List ay} {K:KV} {k:IntKind} {a b:Int} [h:iG b],G w0 L (aa .rem (.int k a) (.int k b) K)=G w0 L (K (.int k (a.tmod b)))) ∧
  (∀{w0:bh} {L:List ay} {K:KV} {k:IntKind} {a b:Int},G w0 L (aa .and (.int k a) (.int k b) K)=G w0 L (K (.int k (k.wrap (BitVec.ofInt k.bits a &&& BitVec.ofInt k.bits b).toNat)))) ∧
  (∀{w0:bh} {L:List ay} {K:KV} {k:IntKind} {a b:Int},G w0 L (aa .or (.int k a) (.int k b) K)=G w0 L (K (.int k (k.wrap (BitVec.ofInt k.bits a ||| BitVec.ofInt k.bits b).toNat)))) ∧
  (∀{w0:bh} {L:List ay} {K:KV} {k:IntKind} {a b:Int},G w0 L (aa .xor (.int k a) (.int k b) K)=G w0 L (K (.int k (k.wrap (BitVec.ofInt k.bits a ^^^ BitVec.ofInt k.bits b).toNat)))) ∧
  (∀{w0:bh} {L:List ay} {K:KV} {k k2:IntKind} {a b:Int} [h:bl b],G w0 L (aa .shl (.int k a) (.int k2 b) K)=G w0 L (K (.int k (k.wrap (a*2 ^ min b.toNat k.bits))))) ∧
  (∀{w0:bh} {L:List ay} {K:KV} {k k2:IntKind} {a b:Int} [h:bl b],G w0 L (aa .shr (.int k a) (.int k2 b) K)=G w0 L (K (.int k (a.fdiv (2 ^ min b.toNat k.bits))))) ∧
  (∀{w0:bh} {L:List ay} {K:KV} {t:Nat} {x:Value},G w0 L (qx t x K)=G w0 L (K (.iface t x))) ∧
  (∀{w0:bh} {L:List ay} {K:KV} {k k2:IntKind} {a:Int},G w0 L (ig k (.int k2 a) K)=G w0 L (K (.int k (k.wrap a)))) ∧
  (∀{w0:bh} {L:List ay} {K:KV} {a b:Bool},G w0 L (fI .eql (.bool a) (.bool b) K)=G w0 L (K (.bool (a == b)))) ∧
  (∀{w0:bh} {L:List ay} {K:KV} {a b:Bool},G w0 L (fI .neq (.bool a) (.bool b) K)=G w0 L (K (.bool (!(a == b))))) ∧
  (∀{w0:bh} {L:List ay} {K:KV} {b i:Nat},G w0 L (eW .eql (ptr b i) (.pointer none) K)=G w0 L (K (.bool false))) ∧
  (∀{w0:bh} {L:List ay} {K:KV} {b i:Nat},G w0 L (eW .neq (ptr b i) (.pointer none) K)=G w0 L (K (.bool true))) ∧
  (∀{w0:bh} {L:List ay} {K:KV},G w0 L (eW .eql (.pointer none) (.pointer none) K)=G w0 L (K (.bool true))) ∧
  (∀{w0:bh} {L:List ay} {K:KV},G w0 L (eW .neq (.pointer none) (.pointer none) K)=G w0 L (K (.bool false))) ∧
  (∀{w0:bh} {L:List ay} {K:KV} {ks:List CK} {xs ys:List Value} {t:Bool} [h:uJ ks xs ys t],G w0 L (jb ks .eql (.agg xs.toArray) (.agg ys.toArray) K)=G w0 L (K (.bool t))) ∧
  (∀{w0:bh} {L:List ay} {K:KV} {ks:List CK} {xs ys:List Value} {t:Bool} [h:uJ ks xs ys t],G w0 L (jb ks .neq (.agg xs.toArray) (.agg ys.toArray) K)=G w0 L (K (.bool (!t)))) ∧
  (∀{w0:bh} {L:List ay} {K:KV} {o n:Nat} {cs:List Value} {v:Value} [h:Jp cs o v],G w0 L (oh false o n (.agg cs.toArray) K)=G w0 L (K v)) ∧
  (∀{w0:bh} {L:List ay} {K:KV} {o n:Nat} {cs r:List Value} [h:kg cs o n r],G w0 L (oh true o n (.agg cs.toArray) K)=G w0 L (K (.agg r.toArray))) ∧
  (∀{w0:bh} {L:List ay} {K:KV} {i:Nat} {vs:List Value} {v:Value} [h:Jp vs i v],G w0 L (ao i (.tuple vs.toArray) K)=G w0 L (K v)) ∧
  (∀{w0:bh} {L:List ay} {K:KV} {zero r:List Value} {ps:List (Nat×Nat×Value)} [h:p9 zero ps r],G w0 L (ap zero ps K)=G w0 L (K (.agg r.toArray))) ∧
  (∀{w0:bh} {L:List ay} {K:KV} {k:IntKind} {a b:Int},G w0 L (lP (.int k a) [.int k b] K)=G w0 L (K (.int k (if b > a then b else a)))) ∧
  (∀{w0:bh} {L:List ay} {K:KV} {k:IntKind} {a b:Int},G w0 L (iN (.int k a) [.int k b] K)=G w0 L (K (.int k (if b<a then b else a)))) ∧
  (∀{w0:bh} {L:List ay} {K:KV} {k:IntKind} {a b c:Int},G w0 L (iN (.int k a) [.int k b,.int k c] K)=G w0 L (K (.int k (if c<(if b<a then b else a) then c else (if b<a then b else a))))) ∧
  (∀{w0:bh} {L:List ay} {A B:World→Prop},G w0 L (ae (.bool true) A B)=G w0 L (A)) ∧
  (∀{w0:bh} {L:List ay} {A B:World→Prop},G w0 L (ae (.bool false) A B)=G w0 L (B)) ∧
  (∀{w0:bh} {L:List ay} {K:KV} {t:Bool} {A:KV→World→Prop},G w0 L (gW (.bool t) t A K)=G w0 L (A K)) ∧
  (∀{w0:bh} {L:List ay} {K:KV} {A:KV→World→Prop},G w0 L (gW (.bool true) false A K)=G w0 L (K undef)) ∧
  (∀{w0:bh} {L:List ay} {K:KV} {A:KV→World→Prop},G w0 L (gW (.bool false) true A K)=G w0 L (K undef)) ∧
  (∀{w0:bh} {L:List ay} {K:KV} {t:Bool} {A:KV→World→Prop},G w0 L (gW undef t A K)=G w0 L (K undef)) ∧
  (∀{w0:bh} {L:List ay} {K:KV} {t:Bool} {A:KV→World→Prop} {e:Value},G w0 L (df (.bool t) t A e K)=G w0 L (A K)) ∧
  (∀{w0:bh} {L:List ay} {K:KV} {A:KV→World→Prop} {e:Value},G w0 L (df (.bool true) false A e K)=G w0 L (K e)) ∧
  (∀{w0:bh} {L:List ay} {K:KV} {A:KV→World→Prop} {e:Value},G w0 L (df (.bool false) true A e K)=G w0 L (K e)) ∧
  (∀{w0:bh} {L:List ay} {K:KV} {p q:Bool},G w0 L (df (.bool p) true (fun K=>K (.bool q)) (.bool false) K)=G w0 L (K (.bool (p && q)))) ∧
  (∀{w0:bh} {L:List ay} {K:KV} {p q:Bool},G w0 L (df (.bool p) false (fun K=>K (.bool q)) (.bool true) K)=G w0 L (K (.bool (p || q)))) ∧
  (∀{w0:bh} {L:List ay} {B:World→Prop},G w0 L (andP ac B)=G w0 L (B)) ∧
  (∀{w0:bh} {L:List ay} {A B:World→Prop},G w0 L (andP A B)=(G w0 L A∧G w0 L B)) ∧
  (∀{w0:bh} {L:List ay} {K:KV} {b j:Nat} {cs:List Value} {C:ay→List ay} [aq L oM b cs C] {v:Value} [Jp cs j v],G w0 L (ab (ptr b j) K)=G w0 L (K v)) ∧
  (∀{w0:bh} {L:List ay} {K:KV} {b j n:Nat} {cs:List Value} {C:ay→List ay} [aq L oM b cs C] {r:List Value} [kg cs j n r],G w0 L (aj n (ptr b j) K)=G w0 L (K (.agg r.toArray))) ∧
  (∀{w0:bh} {L:List ay} {K:KV} {b j n:Nat} {cs:List Value} {C:ay→List ay} [aq L oM b cs C] {v:Value} {vs r:List Value} [ar v vs] [rH cs j vs r] [Dn vs n],G w0 L (ag n (ptr b j) v K)=G w0 (C (own b r)) (K undef)) ∧
  (∀{w0:bh} {L:List ay},G w0 L ac=True) ∧
  (∀{w0:bh} {L:List ay} {v:Value},G w0 L (dh v v)=True) ∧
  (∀{α:Type} {E:jY α} {w0:bh} {L:List ay} {v:Value} {xs:List α} {K:KV} {sz:Nat} [Rd w0 L v E sz xs],G w0 L (bp v K)=G w0 L (K (i64 xs.length))) ∧
  (∀{α:Type} {E:jY α} {w0:bh} {L:List ay} {v:Value} {xs:List α} {K:KV} {sz k:Nat} {x:α} {kd:IntKind} {i:Int} [Rd w0 L v E sz xs] [ii i k] [eU xs k x],G w0 L (bt sz v (.int kd i) K)=G w0 L (K (ep v sz k 0))) ∧
  (∀{α:Type} {E:jY α} {w0:bh} {L:List ay} {v:Value} {xs:List α} {K:KV} {sz k j n:Nat} {x:α} {m:Nat} [Rd w0 L v E sz xs] [eU xs k x] [yW j n m],G w0 L (ad n (ep v sz k j) K)=G w0 L (K (ep v sz k m))) ∧
  (∀{α:Type} {E:jY α} {w0:bh} {L:List ay} {v:Value} {xs:List α} {K:KV} {sz k j:Nat} {x:α} [Rd w0 L v E sz xs] [eU xs k x],G w0 L (ai (ep v sz k j) K)=G w0 L (K (ep v sz k j))) ∧
  (∀{α:Type} {E:jY α} {w0:bh} {L:List ay} {v:Value} {xs:List α} {K:KV} {sz k j:Nat} {x:α} {u:Value} {cs:List Value} [Rd w0 L v E sz xs] [eU xs k x] [fx E x cs] [Jp cs j u],G w0 L (ab (ep v sz k j) K)=G w0 L (K u)) ∧
  (∀{α:Type} {E:jY α} {w0:bh} {L:List ay} {v:Value} {xs:List α} {K:KV} {sz k j n:Nat} {x:α} {cs q:List Value} [Rd w0 L v E sz xs] [eU xs k x] [fx E x cs] [kg cs j n q],G w0 L (aj n (ep v sz k j) K)=G w0 L (K (.agg q.toArray))) ∧
  (∀{α:Type} {E:jY α} {w0:bh} {L:List ay} {v:Value} {xs:List α} {K:KV} {sz k j n:Nat} {x:α} {val:Value} {cs vs q:List Value} {x2:α} {C:ay→List ay} [Rd w0 L v E sz xs] [n9 L v E xs C] [eU xs k x] [fx E x cs] [ar val vs] [Dn vs n] [rH cs j vs q] [gz E q x2],G w0 L (ag n (ep v sz k j) val K)=G w0 (C (S.sl E v (xs.set k x2))) (K undef)) :=
 ⟨@Ug,@SO,@TY,@TR,@Rv,@Q3,@TI,@TE,@T3,@TQ,@T1,@T2,@Tf,@TH,@TF,@Ud,@Uo,@SL,@TL,@SR,@Ul,@TZ,@RC,@Tn,@T7,@T5,@SZ,@R0,@SU,@RA,@Rh,@Rr,@Tp,@RS,@Nt,@RN,@T6,@TV,@SS,@R1,@Re,@Uv,@Ub,@Ue,@UH,@Uy,@Uk,@TK,@Td,@Ui,@Tq,@Uj,@ST,@Rl,@Rt,@SI,@TU,@TO,@TS,@QP,@P1,@Oz,@Lq,@Lt⟩
theorem RP :
  (∀{K:KV} {b i:Nat},ai (ptr b i) K=K (ptr b i)) ∧
  (∀{K:KV} {f:FuncId} {x y:Array Value},ai (.func (.func f) x y) K=K (.func (.func f) x y)) ∧
  (∀{K:KV} {b i n m:Nat} [h:yW i n m],ad n (ptr b i) K=K (ptr b m)) ∧
  (∀{K:KV} {t:Bool},ga (.bool t) K=K (.bool (!t))) ∧
  (∀{K:KV} {x y:Value},bd (.bool true) x y K=K x) ∧
  (∀{K:KV} {x y:Value},bd (.bool false) x y K=K y) ∧
  (∀{K:KV} {k:IntKind} {a b:Int},aa .lss (.int k a) (.int k b) K=K (.bool (decide (a<b)))) ∧
  (∀{K:KV} {k:IntKind} {a b:Int},aa .leq (.int k a) (.int k b) K=K (.bool (decide (a≤b)))) ∧
  (∀{K:KV} {k:IntKind} {a b:Int},aa .gtr (.int k a) (.int k b) K=K (.bool (decide (b<a)))) ∧
  (∀{K:KV} {k:IntKind} {a b:Int},aa .geq (.int k a) (.int k b) K=K (.bool (decide (b≤a)))) ∧
  (∀{K:KV} {k:IntKind} {a b:Int},aa .eql (.int k a) (.int k b) K=K (.bool (decide (a=b)))) ∧
  (∀{K:KV} {k:IntKind} {a b:Int},aa .neq (.int k a) (.int k b) K=K (.bool (!decide (a=b)))) ∧
  (∀{K:KV} {k:IntKind} {a b:Int},aa .add (.int k a) (.int k b) K=K (.int k (k.wrap (a+b)))) ∧
  (∀{K:KV} {k:IntKind} {a b:Int},aa .sub (.int k a) (.int k b) K=K (.int k (k.wrap (a-b)))) ∧
  (∀{K:KV} {k:IntKind} {a b:Int},aa .mul (.int k a) (.int k b) K=K (.int k (k.wrap (a*b)))) ∧
  (∀{K:KV} {k:IntKind} {a b:Int} [h:iG b],aa .quo (.int k a) (.int k b) K=K (.int k (k.wrap (a.tdiv b)))) ∧
  (∀{K:KV} {k:IntKind} {a b:Int} [h:iG b],aa .rem (.int k a) (.int k b) K=K (.int k (a.tmod b))) ∧
  (∀{K:KV} {k:IntKind} {a b:Int},aa .and (.int k a) (.int k b) K=K (.int k (k.wrap (BitVec.ofInt k.bits a &&& BitVec.ofInt k.bits b).toNat))) ∧
  (∀{K:KV} {k:IntKind} {a b:Int},aa .or (.int k a) (.int k b) K=K (.int k (k.wrap (BitVec.ofInt k.bits a ||| BitVec.ofInt k.bits b).toNat))) ∧
  (∀{K:KV} {k:IntKind} {a b:Int},aa .xor (.int k a) (.int k b) K=K (.int k (k.wrap (BitVec.ofInt k.bits a ^^^ BitVec.ofInt k.bits b).toNat))) ∧
  (∀{K:KV} {k k2:IntKind} {a b:Int} [h:bl b],aa .shl (.int k a) (.int k2 b) K=K (.int k (k.wrap (a*2 ^ min b.toNat k.bits)))) ∧
  (∀{K:KV} {k k2:IntKind} {a b:Int} [h:bl b],aa .shr (.int k a) (.int k2 b) K=K (.int k (a.fdiv (2 ^ min b.toNat k.bits)))) ∧
  (∀{K:KV} {t:Nat} {x:Value},qx t x K=K (.iface t x)) ∧
  (∀{K:KV} {k k2:IntKind} {a:Int},ig k (.int k2 a) K=K (.int k (k.wrap a))) ∧
  (∀{K:KV} {a b:Bool},fI .eql (.bool a) (.bool b) K=K (.bool (a == b))) ∧
  (∀{K:KV} {a b:Bool},fI .neq (.bool a) (.bool b) K=K (.bool (!(a == b)))) ∧
  (∀{K:KV} {b i:Nat},eW .eql (ptr b i) (.pointer none) K=K (.bool false)) ∧
  (∀{K:KV} {b i:Nat},eW .neq (ptr b i) (.pointer none) K=K (.bool true)) ∧
  (∀{K:KV},eW .eql (.pointer none) (.pointer none) K=K (.bool true)) ∧
  (∀{K:KV},eW .neq (.pointer none) (.pointer none) K=K (.bool false)) ∧
  (∀{K:KV} {ks:List CK} {xs ys:List Value} {t:Bool} [h:uJ ks xs ys t],jb ks .eql (.agg xs.toArray) (.agg ys.toArray) K=K (.bool t)) ∧
  (∀{K:KV} {ks:List CK} {xs ys:List Value} {t:Bool} [h:uJ ks xs ys t],jb ks .neq (.agg xs.toArray) (.agg ys.toArray) K=K (.bool (!t))) ∧
  (∀{K:KV} {o n:Nat} {cs:List Value} {v:Value} [h:Jp cs o v],oh false o n (.agg cs.toArray) K=K v) ∧
  (∀{K:KV} {o n:Nat} {cs r:List Value} [h:kg cs o n r],oh true o n (.agg cs.toArray) K=K (.agg r.toArray)) ∧
  (∀{K:KV} {i:Nat} {vs:List Value} {v:Value} [h:Jp vs i v],ao i (.tuple vs.toArray) K=K v) ∧
  (∀{K:KV} {zero r:List Value} {ps:List (Nat×Nat×Value)} [h:p9 zero ps r],ap zero ps K=K (.agg r.toArray)) ∧
  (∀{K:KV} {k:IntKind} {a b:Int},lP (.int k a) [.int k b] K=K (.int k (if b > a then b else a))) ∧
  (∀{K:KV} {k:IntKind} {a b:Int},iN (.int k a) [.int k b] K=K (.int k (if b<a then b else a))) ∧
  (∀{K:KV} {k:IntKind} {a b c:Int},iN (.int k a) [.int k b,.int k c] K=K (.int k (if c<(if b<a then b else a) then c else (if b<a then b else a)))) ∧
  (∀{A B:World→Prop},ae (.bool true) A B=A) ∧
  (∀{A B:World→Prop},ae (.bool false) A B=B) ∧
  (∀{K:KV} {t:Bool} {A:KV→World→Prop},gW (.bool t) t A K=A K) ∧
  (∀{K:KV} {A:KV→World→Prop},gW (.bool true) false A K=K undef) ∧
  (∀{K:KV} {A:KV→World→Prop},gW (.bool false) true A K=K undef) ∧
  (∀{K:KV} {t:Bool} {A:KV→World→Prop},gW undef t A K=K undef) ∧
  (∀{K:KV} {t:Bool} {A:KV→World→Prop} {e:Value},df (.bool t) t A e K=A K) ∧
  (∀{K:KV} {A:KV→World→Prop} {e:Value},df (.bool true) false A e K=K e) ∧
  (∀{K:KV} {A:KV→World→Prop} {e:Value},df (.bool false) true A e K=K e) ∧
  (∀{K:KV} {p q:Bool},df (.bool p) true (fun K=>K (.bool q)) (.bool false) K=K (.bool (p && q))) ∧
  (∀{K:KV} {p q:Bool},df (.bool p) false (fun K=>K (.bool q)) (.bool true) K=K (.bool (p || q))) :=
 ⟨@Sm,@PT,@Sz,@Sv,@Ms,@M7,@R7,@Sa,@SF,@Sx,@Sr,@R9,@PK,@Sq,@Sw,@SB,@Sh,@Qi,@R8,@Pd,@SD,@Sb,@Mk,@P2,@Sc,@Su,@Qx,@Mw,@PH,@Nj,@Nf,@Nb,@PA,@M0,@G0,@Nn,@Si,@Sn,@Qq,@Nc,@Mj,@Ua,@Sf,@SC,@TG,@TM,@SA,@Ss,@Ps,@Sd⟩
section
variable {α:Type}{E:jY α}{w0:bh}{L:List ay}{v:Value}{xs:List α}{K:KV}{sz n bytes:Nat}{zero:List Value}{C:ay→List ay}
theorem be {a:Option Addr}{n c:Nat}:ar (.slice a n c) [.slice a n c]:=inferInstance
theorem G.nilsl {F:World→Prop}(E:jY α)(h:G w0 (sl E (.slice none 0 0) []::L) F):G w0 L F:=fun w H=>h w H.sl_nil
theorem G.isNil [r:Rd w0 L v E sz xs](h:∀t,(t=true→xs=[])→G w0 L (K (.bool t))):G w0 L (eN .eql v (.slice none 0 0) K):=fun w H=>by
 obtain⟨oa,cap,rfl,h1,_⟩:=r.rd w H
 cases oa with
 | none=>exact h true (fun _=>(h1 rfl).1) w H
 | some a=>exact h false (by simp) w H
theorem G.make2 {l c:Nat}(E:jY α)(z:α)(hz:E.enc z=zero)(hl:l≤c)(hc:c≤maxLen)(hb:bytes*c≤140737488355328)(h:∀v,ar v [v]→G w0 (sl E v (List.replicate l z)::L) (K v)) :
  G w0 L (ey bytes zero (i64 l) (i64 c) K):=fun w H=>by
 refine⟨by omega,by omega,by omega,by omega,fun T=>?_⟩
 have e:pT c zero=(List.replicate l z).flatMap E.enc++pT (c-l) zero:=by
  have:∀m,pT m zero=(List.replicate m z).flatMap E.enc:=fun m=>by
   induction m with
   | zero=>simp [pT]
   | succ m ih=>unfold pT at *;simp [List.replicate_succ,List.flatMap_cons,ih,hz]
  rw [this,this,←List.flatMap_append,List.replicate_append_replicate,Nat.add_sub_cancel' hl]
 have H2:=H.alloc (pT c zero) T
 rw [e] at H2
 have hzl:zero.length=E.sz:=by rw [←hz,E.len]
 have:=H2.sl_mk (E:=E) (cap:=c) (by simpa using hl) (by
  have:∀m,(pT m zero).length=m*E.sz:=fun m=>by
   induction m with
   | zero=>simp [pT]
   | succ m ih=>unfold pT at *;simp only [List.replicate_succ,List.flatten_cons,List.length_append,ih,hzl,Nat.add_mul];omega
  simp [this])
 have h2:=h _ be _ this
 rw [←e] at h2
 simpa using h2
theorem G.make (E:jY α)(z:α)(hz:E.enc z=zero)(hc:n≤maxLen)(hb:bytes*n≤140737488355328)(h:∀v,ar v [v]→G w0 (sl E v (List.replicate n z)::L) (K v)) :
  G w0 L (ey bytes zero (i64 n) (i64 n) K):=G.make2 E z hz (Nat.le_refl n) hc hb h
theorem G.build {ps:List (Nat×Nat×Value)}(E:jY α)(xs:List α)(hn:xs.length=n)(hz:n*zero.length≤16777216)(hb:qk (pT n zero) ps=some (xs.flatMap E.enc))(h:∀v,ar v [v]→G w0 (sl E v xs::L) (K v)) :
  G w0 L (ak zero n ps K):=fun w H=>by
 refine⟨hz,?_⟩
 rw [hb]
 intro T
 have H2:=H.alloc (xs.flatMap E.enc) T
 have:=St.sl_mk (E:=E) (xs:=xs) (rest:=[]) (cap:=n) (by simpa using H2) (by omega) (by simp [hn])
 have h2:=h _ be _ this
 rw [hn] at h2
 exact h2
theorem fz.src {w:World}(h:fz E w v xs)(hx:0<xs.length):qC E.sz v w=some (xs.length,xs.flatMap E.enc):=by
 obtain⟨oa,cap,rfl,h1,h2⟩:=h
 have hl:xs[xs.length-1]? = some xs[xs.length-1]:=List.getElem?_eq_getElem (by omega)
 obtain⟨e,o,cs,rfl,g2,g3,_⟩:=h2 _ _ hl
 rw [show xs.length-1+1=xs.length by omega] at g3
 simp only [qC,show ¬xs.length=0 by omega,if_false,g2,g3,if_true,Option.some.injEq,Prod.mk.injEq,true_and]
 have key:∀(ys:List α) (m:Nat),(∀i x,ys[i]? = some x→(cs.drop (m+i*E.sz)).take E.sz=E.enc x)→m+ys.length*E.sz≤cs.length→(cs.drop m).take (ys.length*E.sz)=ys.flatMap E.enc:=by
  intro ys
  induction ys with
  | nil=>intro m _ _;simp
  | cons y ys ih =>
   intro m hy hm
   simp only [List.length_cons,Nat.add_mul,Nat.one_mul] at hm ⊢
   have h0:=hy 0 y (by simp)
   simp only [Nat.zero_mul,Nat.add_zero] at h0
   have:=ih (m+E.sz) (fun i x hx=>by have:=hy (i+1) x (by simpa using hx);rwa [Nat.add_mul,Nat.one_mul,Nat.add_comm (i*E.sz),←Nat.add_assoc] at this) (by omega)
   rw [List.flatMap_cons,←h0,←this,←List.drop_drop,Nat.add_comm (ys.length*E.sz),List.take_add]
 exact key xs o (fun i x hx=>by
  obtain⟨e',o',cs',k1,k2,_,k4⟩:=h2 i x hx
  simp only [Option.some.injEq,Addr.mk.injEq,and_true] at k1
  obtain⟨rfl,rfl⟩:=k1
  rw [g2] at k2
  cases k2
  exact k4) g3
theorem fz.src' {w:World}(h:fz E w v xs):qC E.sz v w=some (xs.length,xs.flatMap E.enc):=by
 rcases Nat.eq_zero_or_pos xs.length with h0 | h0
 ·have hx:xs=[]:=List.eq_nil_of_length_eq_zero h0
  subst hx
  obtain⟨oa,cap,rfl,h1,h2⟩:=h
  cases oa <;> simp [qC]
 ·exact h.src h0
theorem RX (a r vs:List Value)(h:vs.length≤r.length):B2 (a++r) a.length vs=a++vs++r.drop vs.length:=by
 have:=He vs a r 0 (by omega)
 rw [Nat.add_zero] at this
 rw [this,qe _ _ _ (by omega)]
 simp
theorem G.append {x:Value}{ys:List α}[r:Rd w0 L x E sz ys][s:n9 L v E xs C](h1:(xs.length+ys.length)*bytes≤140737488355328)(h2:xs.length+ys.length≤maxLen)(h:∀u,ar u [u]→G w0 (C (sl E u (xs++ys))) (K u)) :
  G w0 L (av sz bytes v x K):=fun w H=>by
 obtain⟨M,e1,e2⟩:=og (w0:=w0) s.sel
 have hsrc:=(r.rd w H).src'
 rw [r.sz] at hsrc
 have H1:=(e1 w).1 H
 have hfin:∀{c cap:Nat} {rest:List Value} {w':World},St w0 (own c ((xs++ys).flatMap E.enc++rest)::M) w'→xs.length+ys.length≤cap→rest.length=(cap-(xs.length+ys.length))*sz→K (.slice (some ⟨c,0,none⟩) (xs.length+ys.length) cap) w':=by
  intro c cap rest w' g1 g2 g3
  have:=g1.sl_mk (E:=E) (cap:=cap) (by simpa using g2) (by rw [r.sz];simpa using g3)
  have h3:=h _ be _ ((e2 _ _).2 this)
  simpa using h3
 rcases H1.sl_cases with ⟨rfl,rfl,H2⟩ | ⟨c,cap,rest,rfl,g2,g3,H2⟩
 ·simp only [av,hsrc]
  simp only [List.length_nil,Nat.zero_add,List.nil_append] at h1 h2 hfin h
  refine⟨trivial,trivial,h1,h2,fun h0=>?_,fun h0 c rest T k1 k2 k3=>?_⟩
  ·have hy:ys=[]:=List.eq_nil_of_length_eq_zero h0
   subst hy
   exact h _ be _ ((e2 _ _).2 H2.sl_nil)
  ·exact hfin (H2.drew.alloc _ T) k1 k3
 ·have hm:=H2.own_mem
  simp only [av,hsrc,hm.2.1]
  have hfl:(xs.flatMap E.enc).length=xs.length*sz:=by rw [jC,r.sz]
  have hfy:(ys.flatMap E.enc).length=ys.length*sz:=by rw [jC,r.sz]
  rw [r.sz] at g3
  have hc:cap*sz=xs.length*sz+(cap-xs.length)*sz:=by rw [←Nat.add_mul];congr 1;omega
  refine⟨by simp only [List.length_append,hfl,g3];omega,g2,h1,h2,fun k1=>⟨.inr hm.2.2,OG E ys,?_⟩,fun k1 c' rest' T k2 k3 k4=>?_⟩
  ·have hle:ys.length*sz≤(cap-xs.length)*sz:=Nat.mul_le_mul_right _ (by omega)
   have:=H2.own_put (cs':=(xs++ys).flatMap E.enc++rest.drop (ys.length*sz))
   have e:B2 (xs.flatMap E.enc++rest) (0+xs.length*sz) (ys.flatMap E.enc)=(xs++ys).flatMap E.enc++rest.drop (ys.length*sz):=by
    rw [Nat.zero_add,←hfl,RX _ _ _ (by omega),List.flatMap_append,hfy]
   rw [e]
   refine hfin this k1 ?_
   rw [List.length_drop,g3,←Nat.sub_mul];congr 1;omega
  ·have e:(((xs.flatMap E.enc++rest).drop 0).take (xs.length*sz)++ys.flatMap E.enc++rest')=(xs++ys).flatMap E.enc++rest':=by
    rw [List.drop_zero,←hfl,List.take_left,List.flatMap_append]
   rw [e]
   exact hfin (H2.drop.drew.alloc _ T) k2 k4
theorem G.append1 {val:Value}{cs:List Value}{a:α}[s:n9 L v E xs C][c:ar val cs][d:gz E cs a](hz:zero.length=E.sz)(hs:E.sz=sz)(hs2:E.sz≤16777216)(h1:(xs.length+1)*bytes≤140737488355328)(h2:xs.length+1≤maxLen)
  (h:∀u,ar u [u]→G w0 (C (sl E u (xs++[a]))) (K u)):G w0 L (ak zero 1 [(0,sz,val)] (fun y w=>av sz bytes v y K w)):=by
 have he:E.enc a=cs:=E.dec_ok _ _ d.eq
 have hl:=E.len a
 subst hs
 refine G.build E [a] rfl (by omega) ?_ fun y _=>?_
 ·have hsz:val.cells.size=E.sz:=by rw [←hl,he,←c.eq];simp
  simp only [qk,hsz,pT,List.replicate_one,List.flatten_singleton,hz,Nat.zero_add,Nat.le_refl,and_self,if_true,List.flatMap_cons,List.flatMap_nil,List.append_nil,he,c.eq]
  rw [qe _ _ _ (by rw [←he,hl,hz];omega)]
  have:zero.drop cs.length=[]:=List.drop_eq_nil_of_le (by rw [hz,←he,hl];exact Nat.le_refl _)
  simp [this]
 ·refine G.append (ys:=[a]) (C:=fun A=>S.sl E y [a]::C A) h1 h2 fun u hu=>(h u hu).drop
theorem G.take {m:Nat}[s:n9 L v E xs C](hm:m≤xs.length)(h:∀u,ar u [u]→G w0 (C (sl E u (xs.take m))) (K u)):G w0 L (fM sz v none (some (i64 m)) K):=fun w H=>by
 obtain⟨M,e1,e2⟩:=og (w0:=w0) s.sel
 rcases((e1 w).1 H).sl_cases with ⟨rfl,rfl,H2⟩ | ⟨c,cap,rest,rfl,g2,g3,H2⟩
 ·simp at hm;subst hm
  have:=h _ be _ ((e2 _ _).2 H2.sl_nil)
  simpa [fM,BG] using this
 ·have hk:xs.flatMap E.enc=(xs.take m).flatMap E.enc++(xs.drop m).flatMap E.enc:=by rw [←List.flatMap_append,List.take_append_drop]
  have H3:=H2
  rw [hk,List.append_assoc] at H3
  have:=H3.sl_mk (E:=E) (xs:=xs.take m) (cap:=cap) (by simp;omega) (by
   simp only [List.length_append,jC,g3,List.length_drop,List.length_take]
   rw [←Nat.add_mul];congr 1;omega)
  have h2:=h _ be _ ((e2 _ _).2 this)
  have e:(xs.take m).length=m:=by simp;omega
  rw [e] at h2
  simp only [fM,BG,Int.le_refl,true_and]
  refine⟨by omega,by omega,?_⟩
  have:(if cap=0 then some (⟨c,0,none⟩:Addr) else some (⟨c,0,none⟩:Addr))=some ⟨c,0,none⟩:=by split <;> rfl
  have hmc:m≤cap:=by omega
  simpa [o5,hmc] using h2
end
theorem an {a b:Prop}(x:a)(y:b):a∧b:=⟨x,y⟩
theorem gg {A B:Prop}(h:B)(f:B→A:=by intro h;repeat' (first | (with_reducible refine G.joini0 ?_) | (with_reducible refine G.joini1 ?_) | (with_reducible refine G.drew ?_) | (simp (maxSteps:=2000000) only [↓RG,RP,RB,BEq.rfl,Int.reduceEq,Int.reduceLT,Int.reduceLE,Nat.reduceEqDiff]));exact h):A:=f h
theorem gf {P A B:Prop}(p:P)(h:B)(f:P→B→A:=by intro p h;repeat' (first | (with_reducible refine G.joini0 ?_) | (with_reducible refine G.joini1 ?_) | (with_reducible refine G.drew ?_) | (simp (maxSteps:=2000000) only [↓RG,RP,RB,BEq.rfl,Int.reduceEq,Int.reduceLT,Int.reduceLE,Nat.reduceEqDiff,p]));exact h):A:=f p h
theorem gr {A B:Prop}(h:B)(f:B→A:=by intro h;(try simp (maxSteps:=2000000) only [↓RG,RP,RB,BEq.rfl,Int.reduceEq,Int.reduceLT,Int.reduceLE,Nat.reduceEqDiff]);exact h):A:=f h
theorem gu {A B:Prop}(h:B)(f:B→A:=by intro h;(try simp (maxSteps:=2000000) only [Po,Rq,OE,N2,RU,Hj]);exact h):A:=f h
theorem eY {P A B:Prop}(p:P)(h:B)(f:P→B→A:=by intro p h;(try simp (maxSteps:=2000000) only [↓RG,RP,RB,BEq.rfl,Int.reduceEq,Int.reduceLT,Int.reduceLE,Nat.reduceEqDiff,p]);exact h):A:=f p h
end Go.Proofs.YtoealglbimbbmaaGreatDoor.S
