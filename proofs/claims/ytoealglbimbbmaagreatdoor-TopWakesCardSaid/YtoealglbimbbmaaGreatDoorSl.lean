import Derived.Test.YtoealglbimbbmaaGreatDoorG
namespace Go.Proofs.YtoealglbimbbmaaGreatDoor.S
open Go Go.Proofs
set_option linter.unusedVariables false
set_option linter.unusedSimpArgs false
structure Enc (α : Type) where
 sz : Nat
 enc : α → List Value
 dec : List Value → Option α
 pos : 0 < sz
 len : ∀ a, (enc a).length = sz
 ones : ∀ a, ∀ u ∈ enc a, one u = true
 dec_ok : ∀ cs a, dec cs = some a → enc a = cs
class EncIs {α : Type} (E : Enc α) (a : α) (cs : outParam (List Value)) : Prop where
 eq : E.enc a = cs
class DecIs {α : Type} (E : Enc α) (cs : List Value) (a : outParam α) : Prop where
 eq : E.dec cs = some a
class Elem {α : Type} (xs : List α) (k : Nat) (x : outParam α) : Prop where
 eq : xs[k]? = some x
instance Elem.z {α : Type} {a : α} {l : List α} : Elem (a :: l) 0 a := ⟨rfl⟩
instance Elem.s {α : Type} {a b : α} {l : List α} {n : Nat} [h : Elem l n a] : Elem (b :: l) (n + 1) a := ⟨by simpa using h.eq⟩
class IxI (i : Int) (k : outParam Nat) : Prop where
 eq : i = (k : Int)
instance {k : Nat} : IxI (k : Int) k := ⟨rfl⟩
instance : IxI 0 0 := ⟨rfl⟩
instance : IxI 1 1 := ⟨rfl⟩
instance : IxI 2 2 := ⟨rfl⟩
instance : IxI 3 3 := ⟨rfl⟩
instance : IxI 4 4 := ⟨rfl⟩
instance : IxI 5 5 := ⟨rfl⟩
instance : IxI 6 6 := ⟨rfl⟩
instance : IxI 7 7 := ⟨rfl⟩
instance : IxI 8 8 := ⟨rfl⟩
instance : IxI 9 9 := ⟨rfl⟩
instance : IxI 10 10 := ⟨rfl⟩
instance : IxI 11 11 := ⟨rfl⟩
instance : IxI 12 12 := ⟨rfl⟩
instance : IxI 13 13 := ⟨rfl⟩
instance : IxI 14 14 := ⟨rfl⟩
instance : IxI 15 15 := ⟨rfl⟩
instance : IxI 16 16 := ⟨rfl⟩
instance : IxI 17 17 := ⟨rfl⟩
instance : IxI 18 18 := ⟨rfl⟩
instance : IxI 19 19 := ⟨rfl⟩
instance : IxI 20 20 := ⟨rfl⟩
instance : IxI 21 21 := ⟨rfl⟩
instance : IxI 22 22 := ⟨rfl⟩
instance : IxI 23 23 := ⟨rfl⟩
instance : IxI 24 24 := ⟨rfl⟩
instance : IxI 25 25 := ⟨rfl⟩
instance : IxI 26 26 := ⟨rfl⟩
instance : IxI 27 27 := ⟨rfl⟩
instance : IxI 28 28 := ⟨rfl⟩
instance : IxI 29 29 := ⟨rfl⟩
instance : IxI 30 30 := ⟨rfl⟩
instance : IxI 31 31 := ⟨rfl⟩
instance : IxI 32 32 := ⟨rfl⟩
instance : IxI 33 33 := ⟨rfl⟩
instance : IxI 34 34 := ⟨rfl⟩
instance : IxI 35 35 := ⟨rfl⟩
instance : IxI 36 36 := ⟨rfl⟩
instance : IxI 37 37 := ⟨rfl⟩
instance : IxI 38 38 := ⟨rfl⟩
instance : IxI 39 39 := ⟨rfl⟩
instance : IxI 40 40 := ⟨rfl⟩
instance : IxI 41 41 := ⟨rfl⟩
instance : IxI 42 42 := ⟨rfl⟩
instance : IxI 43 43 := ⟨rfl⟩
instance : IxI 44 44 := ⟨rfl⟩
instance : IxI 45 45 := ⟨rfl⟩
instance : IxI 46 46 := ⟨rfl⟩
instance : IxI 47 47 := ⟨rfl⟩
instance : IxI 48 48 := ⟨rfl⟩
instance : IxI 49 49 := ⟨rfl⟩
instance : IxI 50 50 := ⟨rfl⟩
instance : IxI 51 51 := ⟨rfl⟩
instance : IxI 52 52 := ⟨rfl⟩
instance : IxI 53 53 := ⟨rfl⟩
instance : IxI 54 54 := ⟨rfl⟩
instance : IxI 55 55 := ⟨rfl⟩
instance : IxI 56 56 := ⟨rfl⟩
instance : IxI 57 57 := ⟨rfl⟩
instance : IxI 58 58 := ⟨rfl⟩
instance : IxI 59 59 := ⟨rfl⟩
instance : IxI 60 60 := ⟨rfl⟩
instance : IxI 61 61 := ⟨rfl⟩
instance : IxI 62 62 := ⟨rfl⟩
instance : IxI 63 63 := ⟨rfl⟩
instance : IxI 64 64 := ⟨rfl⟩
class AddIs (i n : Nat) (m : outParam Nat) : Prop where
 eq : i + n = m
instance (priority := 1200) {n : Nat} : AddIs 0 n n := ⟨Nat.zero_add n⟩
instance (priority := 1100) {i : Nat} : AddIs i 0 i := ⟨rfl⟩
instance {i n : Nat} : AddIs i n (i + n) := ⟨rfl⟩
class NeZ (b : Int) : Prop where
 ne : b ≠ 0
class NonNeg (b : Int) : Prop where
 le : 0 ≤ b
instance {k : Nat} : NonNeg (k : Int) := ⟨by omega⟩
instance : NonNeg 0 := ⟨by decide⟩
instance : NonNeg 1 := ⟨by decide⟩
instance : NonNeg 2 := ⟨by decide⟩
instance : NonNeg 3 := ⟨by decide⟩
instance : NonNeg 4 := ⟨by decide⟩
instance : NonNeg 5 := ⟨by decide⟩
instance : NonNeg 6 := ⟨by decide⟩
instance : NonNeg 7 := ⟨by decide⟩
instance : NonNeg 8 := ⟨by decide⟩
instance : NonNeg 9 := ⟨by decide⟩
instance : NonNeg 10 := ⟨by decide⟩
instance : NonNeg 11 := ⟨by decide⟩
instance : NonNeg 12 := ⟨by decide⟩
instance : NonNeg 13 := ⟨by decide⟩
instance : NonNeg 14 := ⟨by decide⟩
instance : NonNeg 15 := ⟨by decide⟩
instance : NonNeg 16 := ⟨by decide⟩
instance : NonNeg 17 := ⟨by decide⟩
instance : NonNeg 18 := ⟨by decide⟩
instance : NonNeg 19 := ⟨by decide⟩
instance : NonNeg 20 := ⟨by decide⟩
instance : NonNeg 21 := ⟨by decide⟩
instance : NonNeg 22 := ⟨by decide⟩
instance : NonNeg 23 := ⟨by decide⟩
instance : NonNeg 24 := ⟨by decide⟩
instance : NonNeg 25 := ⟨by decide⟩
instance : NonNeg 26 := ⟨by decide⟩
instance : NonNeg 27 := ⟨by decide⟩
instance : NonNeg 28 := ⟨by decide⟩
instance : NonNeg 29 := ⟨by decide⟩
instance : NonNeg 30 := ⟨by decide⟩
instance : NonNeg 31 := ⟨by decide⟩
instance : NonNeg 32 := ⟨by decide⟩
instance : NonNeg 33 := ⟨by decide⟩
instance : NonNeg 34 := ⟨by decide⟩
instance : NonNeg 35 := ⟨by decide⟩
instance : NonNeg 36 := ⟨by decide⟩
instance : NonNeg 37 := ⟨by decide⟩
instance : NonNeg 38 := ⟨by decide⟩
instance : NonNeg 39 := ⟨by decide⟩
instance : NonNeg 40 := ⟨by decide⟩
instance : NonNeg 41 := ⟨by decide⟩
instance : NonNeg 42 := ⟨by decide⟩
instance : NonNeg 43 := ⟨by decide⟩
instance : NonNeg 44 := ⟨by decide⟩
instance : NonNeg 45 := ⟨by decide⟩
instance : NonNeg 46 := ⟨by decide⟩
instance : NonNeg 47 := ⟨by decide⟩
instance : NonNeg 48 := ⟨by decide⟩
instance : NonNeg 49 := ⟨by decide⟩
instance : NonNeg 50 := ⟨by decide⟩
instance : NonNeg 51 := ⟨by decide⟩
instance : NonNeg 52 := ⟨by decide⟩
instance : NonNeg 53 := ⟨by decide⟩
instance : NonNeg 54 := ⟨by decide⟩
instance : NonNeg 55 := ⟨by decide⟩
instance : NonNeg 56 := ⟨by decide⟩
instance : NonNeg 57 := ⟨by decide⟩
instance : NonNeg 58 := ⟨by decide⟩
instance : NonNeg 59 := ⟨by decide⟩
instance : NonNeg 60 := ⟨by decide⟩
instance : NonNeg 61 := ⟨by decide⟩
instance : NonNeg 62 := ⟨by decide⟩
instance : NonNeg 63 := ⟨by decide⟩
instance : NonNeg 64 := ⟨by decide⟩
instance : NeZ 1 := ⟨by decide⟩
instance : NeZ 2 := ⟨by decide⟩
instance : NeZ 3 := ⟨by decide⟩
instance : NeZ 4 := ⟨by decide⟩
instance : NeZ 5 := ⟨by decide⟩
instance : NeZ 6 := ⟨by decide⟩
instance : NeZ 7 := ⟨by decide⟩
instance : NeZ 8 := ⟨by decide⟩
instance : NeZ 9 := ⟨by decide⟩
instance : NeZ 10 := ⟨by decide⟩
instance : NeZ 11 := ⟨by decide⟩
instance : NeZ 12 := ⟨by decide⟩
instance : NeZ 13 := ⟨by decide⟩
instance : NeZ 14 := ⟨by decide⟩
instance : NeZ 15 := ⟨by decide⟩
instance : NeZ 16 := ⟨by decide⟩
instance : NeZ 17 := ⟨by decide⟩
instance : NeZ 18 := ⟨by decide⟩
instance : NeZ 19 := ⟨by decide⟩
instance : NeZ 20 := ⟨by decide⟩
instance : NeZ 21 := ⟨by decide⟩
instance : NeZ 22 := ⟨by decide⟩
instance : NeZ 23 := ⟨by decide⟩
instance : NeZ 24 := ⟨by decide⟩
instance : NeZ 25 := ⟨by decide⟩
instance : NeZ 26 := ⟨by decide⟩
instance : NeZ 27 := ⟨by decide⟩
instance : NeZ 28 := ⟨by decide⟩
instance : NeZ 29 := ⟨by decide⟩
instance : NeZ 30 := ⟨by decide⟩
instance : NeZ 31 := ⟨by decide⟩
instance : NeZ 32 := ⟨by decide⟩
instance : NeZ 33 := ⟨by decide⟩
instance : NeZ 34 := ⟨by decide⟩
instance : NeZ 35 := ⟨by decide⟩
instance : NeZ 36 := ⟨by decide⟩
instance : NeZ 37 := ⟨by decide⟩
instance : NeZ 38 := ⟨by decide⟩
instance : NeZ 39 := ⟨by decide⟩
instance : NeZ 40 := ⟨by decide⟩
instance : NeZ 41 := ⟨by decide⟩
instance : NeZ 42 := ⟨by decide⟩
instance : NeZ 43 := ⟨by decide⟩
instance : NeZ 44 := ⟨by decide⟩
instance : NeZ 45 := ⟨by decide⟩
instance : NeZ 46 := ⟨by decide⟩
instance : NeZ 47 := ⟨by decide⟩
instance : NeZ 48 := ⟨by decide⟩
instance : NeZ 49 := ⟨by decide⟩
instance : NeZ 50 := ⟨by decide⟩
instance : NeZ 51 := ⟨by decide⟩
instance : NeZ 52 := ⟨by decide⟩
instance : NeZ 53 := ⟨by decide⟩
instance : NeZ 54 := ⟨by decide⟩
instance : NeZ 55 := ⟨by decide⟩
instance : NeZ 56 := ⟨by decide⟩
instance : NeZ 57 := ⟨by decide⟩
instance : NeZ 58 := ⟨by decide⟩
instance : NeZ 59 := ⟨by decide⟩
instance : NeZ 60 := ⟨by decide⟩
instance : NeZ 61 := ⟨by decide⟩
instance : NeZ 62 := ⟨by decide⟩
instance : NeZ 63 := ⟨by decide⟩
instance : NeZ 64 := ⟨by decide⟩
instance : NeZ 256 := ⟨by decide⟩
instance : NeZ 255 := ⟨by decide⟩
class EqIs (ks : List CK) (xs ys : List Value) (t : outParam Bool) : Prop where
 f1 : fits ks xs
 f2 : fits ks ys
 eq : eqCells xs ys = t
instance EqIs.i1 {k : IntKind} {a b : Int} : EqIs [.i k] [.int k a] [.int k b] (decide (a = b)) := ⟨⟨rfl, trivial⟩, ⟨rfl, trivial⟩, by simp [eqCells]; rfl⟩
instance EqIs.b1 {a b : Bool} : EqIs [.b] [.bool a] [.bool b] (a == b) := ⟨trivial, trivial, by simp [eqCells]⟩
instance (priority := 500) EqIs.i {ks : List CK} {xs ys : List Value} {t : Bool} {k : IntKind} {a b : Int} [h : EqIs ks xs ys t] : EqIs (.i k :: ks) (.int k a :: xs) (.int k b :: ys) (decide (a = b) && t) := ⟨⟨rfl, h.f1⟩, ⟨rfl, h.f2⟩, by simp [eqCells, h.eq]; rfl⟩
instance (priority := 500) EqIs.b {ks : List CK} {xs ys : List Value} {t a b : Bool} [h : EqIs ks xs ys t] : EqIs (.b :: ks) (.bool a :: xs) (.bool b :: ys) ((a == b) && t) := ⟨h.f1, h.f2, by simp [eqCells, h.eq]⟩
class BuildIs (zero : List Value) (ps : List (Nat × Nat × Value)) (r : outParam (List Value)) : Prop where
 eq : buildL zero ps = some r
instance BuildIs.nil {z : List Value} : BuildIs z [] z := ⟨rfl⟩
instance BuildIs.cons {z vs z' r : List Value} {o n : Nat} {v : Value} {ps : List (Nat × Nat × Value)} [hv : Cells v vs] [hl : LenIs vs n] [hs : SegIs z o vs z'] [h : BuildIs z' ps r] : BuildIs z ((o, n, v) :: ps) r := ⟨by
 have h1 : v.cells.size = n := by rw [← hl.eq, ← hv.eq]; simp
 have h2 := hs.le
 rw [hl.eq] at h2
 simp only [buildL, h1, h2, and_self, if_true, hv.eq, hs.eq]
 exact h.eq⟩
section
variable {α : Type} (E : Enc α)
theorem flat_length (xs : List α) : (xs.flatMap E.enc).length = xs.length * E.sz := by
 induction xs with
 | nil => simp
 | cons x xs ih => simp [ih, E.len, Nat.add_mul]; omega
theorem flat_part (rest : List Value) : ∀ (xs : List α) (i : Nat) (x : α), xs[i]? = some x → ((xs.flatMap E.enc ++ rest).drop (i * E.sz)).take E.sz = E.enc x
 | [], i, x, h => by simp at h
 | y :: xs, 0, x, h => by
  simp at h; subst h
  have := E.len y
  simp [List.flatMap_cons, List.append_assoc, ← this]
 | y :: xs, i + 1, x, h => by
  have := E.len y
  rw [List.flatMap_cons, List.append_assoc, show (i + 1) * E.sz = (E.enc y).length + i * E.sz by rw [this, Nat.add_mul]; omega, List.drop_append, List.drop_eq_nil_of_le (by omega), List.nil_append, Nat.add_sub_cancel_left]
  exact flat_part rest xs i x (by simpa using h)
theorem seg_left : ∀ (vs a b : List Value) (j : Nat), j + vs.length ≤ a.length → seg (a ++ b) j vs = seg a j vs ++ b := fun vs a b j h => by
 rw [seg_eq _ _ _ (by simp; omega), seg_eq _ _ _ h]
 rw [List.take_append_of_le_length (by omega), List.drop_append_of_le_length h]
 simp
theorem seg_right (vs a b : List Value) (j : Nat) (h : j + vs.length ≤ b.length) : seg (a ++ b) (a.length + j) vs = a ++ seg b j vs := by
 rw [seg_eq _ _ _ (by simp; omega), seg_eq _ _ _ h]
 rw [show a.length + j + vs.length = a.length + (j + vs.length) by omega, List.take_append, List.drop_append, List.take_of_length_le (by omega), List.drop_eq_nil_of_le (by omega), Nat.add_sub_cancel_left, Nat.add_sub_cancel_left]
 simp
theorem flat_seg (rest : List Value) (vs : List Value) (j : Nat) (a' : α) : ∀ (xs : List α) (i : Nat) (a : α), xs[i]? = some a → j + vs.length ≤ E.sz → E.enc a' = seg (E.enc a) j vs →
  seg (xs.flatMap E.enc ++ rest) (i * E.sz + j) vs = (xs.set i a').flatMap E.enc ++ rest
 | [], i, a, h, _, _ => by simp at h
 | y :: xs, 0, a, h, hj, he => by
  simp at h; subst h
  have := E.len y
  simp only [List.flatMap_cons, List.append_assoc, Nat.zero_mul, Nat.zero_add, List.set_cons_zero]
  rw [seg_left _ _ _ _ (by omega), he]
 | y :: xs, i + 1, a, h, hj, he => by
  have := E.len y
  have hlt : i < xs.length := by
   rcases Nat.lt_or_ge i xs.length with h1 | h1
   ·exact h1
   ·simp [List.getElem?_eq_none h1] at h
  have hle : (i + 1) * E.sz ≤ xs.length * E.sz := Nat.mul_le_mul_right _ hlt
  simp only [List.flatMap_cons, List.append_assoc, List.set_cons_succ]
  rw [show (i + 1) * E.sz + j = (E.enc y).length + (i * E.sz + j) by rw [this, Nat.add_mul]; omega, seg_right _ _ _ _ (by simp only [List.length_append, flat_length]; rw [Nat.add_mul] at hle; omega)]
  rw [flat_seg rest vs j a' xs i a (by simpa using h) hj he]
theorem flat_ones (xs : List α) : ∀ u ∈ xs.flatMap E.enc, one u = true := fun u hu => by
 obtain ⟨x, _, h⟩ := List.mem_flatMap.1 hu
 exact E.ones x u h
def SliceIs (w : World) (v : Value) (xs : List α) : Prop :=
 ∃ oa cap, v = .slice oa xs.length cap ∧ (oa = none → xs = [] ∧ cap = 0) ∧ ∀ i x, xs[i]? = some x → ∃ e o cs, oa = some ⟨e, o, none⟩ ∧ mem w e = some cs ∧ o + (i + 1) * E.sz ≤ cs.length ∧ (cs.drop (o + i * E.sz)).take E.sz = E.enc x
def slR (v : Value) (xs : List α) : Asn := fun h => (v = .slice none 0 0 ∧ xs = [] ∧ emp h) ∨
 ∃ c cap rest, v = .slice (some ⟨c, 0, none⟩) xs.length cap ∧ xs.length ≤ cap ∧ rest.length = (cap - xs.length) * E.sz ∧ ownR c (xs.flatMap E.enc ++ rest) h
end
abbrev sl {α : Type} (E : Enc α) (v : Value) (xs : List α) : Asn := ob (slR E) v xs
section
variable {α : Type} {E : Enc α} {w0 : Base} {L : List Asn} {v : Value} {xs : List α} {w : World}
theorem St.sl_cases (H : St w0 (sl E v xs :: L) w) : (v = .slice none 0 0 ∧ xs = [] ∧ St w0 L w) ∨
  ∃ c cap rest, v = .slice (some ⟨c, 0, none⟩) xs.length cap ∧ xs.length ≤ cap ∧ rest.length = (cap - xs.length) * E.sz ∧ St w0 (own c (xs.flatMap E.enc ++ rest) :: L) w := by
 obtain ⟨h, ⟨a, b, ha, hb, j⟩, hd⟩ := id H
 rw [show sl E v xs = slR E v xs from ob_eq _ _ _] at ha
 rcases ha with ⟨h1, h2, h3⟩ | ⟨c, cap, rest, h1, h2, h3, h4⟩
 ·exact .inl ⟨h1, h2, H.drop⟩
 ·exact .inr ⟨c, cap, rest, h1, h2, h3, h, ⟨a, b, by rw [show own c (xs.flatMap E.enc ++ rest) = ownR c _ from ob_eq _ _ _]; exact h4, hb, j⟩, hd⟩
theorem St.sl_mk {c cap : Nat} {rest : List Value} (H : St w0 (own c (xs.flatMap E.enc ++ rest) :: L) w) (h2 : xs.length ≤ cap) (h3 : rest.length = (cap - xs.length) * E.sz) : St w0 (sl E (.slice (some ⟨c, 0, none⟩) xs.length cap) xs :: L) w := by
 obtain ⟨h, ⟨a, b, ha, hb, j⟩, hd⟩ := H
 rw [show own c (xs.flatMap E.enc ++ rest) = ownR c _ from ob_eq _ _ _] at ha
 exact ⟨h, ⟨a, b, by rw [show sl E (.slice (some ⟨c, 0, none⟩) xs.length cap) xs = slR E _ xs from ob_eq _ _ _]; exact .inr ⟨c, cap, rest, rfl, h2, h3, ha⟩, hb, j⟩, hd⟩
theorem St.sl_nil (H : St w0 L w) : St w0 (sl E (.slice none 0 0) [] :: L) w := by
 obtain ⟨h, hs, hd⟩ := H
 refine ⟨h, ?_, hd⟩
 have h2 : star emp (stars L) h := by rw [star_emp]; exact hs
 obtain ⟨a, b, h1, h2, j⟩ := h2
 exact ⟨a, b, by rw [show sl E (.slice none 0 0) ([] : List α) = slR E _ [] from ob_eq _ _ _]; exact .inl ⟨rfl, rfl, h1⟩, h2, j⟩
theorem SliceIs.mk {c cap : Nat} {rest : List Value} (hm : mem w c = some (xs.flatMap E.enc ++ rest)) : SliceIs E w (.slice (some ⟨c, 0, none⟩) xs.length cap) xs :=
 ⟨some ⟨c, 0, none⟩, cap, rfl, by simp, fun i x hx => ⟨c, 0, _, rfl, hm, by
  have : i < xs.length := by
   rcases Nat.lt_or_ge i xs.length with h | h
   ·exact h
   ·simp [List.getElem?_eq_none h] at hx
  have := Nat.mul_le_mul_right E.sz (show i + 1 ≤ xs.length from this)
  simp only [List.length_append, flat_length]; omega, by rw [Nat.zero_add]; exact flat_part E rest xs i x hx⟩⟩
theorem St.sl_is (H : St w0 (sl E v xs :: L) w) : SliceIs E w v xs := by
 rcases H.sl_cases with ⟨rfl, rfl, _⟩ | ⟨c, cap, rest, rfl, _, _, H2⟩
 ·exact ⟨none, 0, rfl, fun _ => ⟨rfl, rfl⟩, fun i x hx => by simp at hx⟩
 ·exact SliceIs.mk H2.own_mem.2.1
end
class Arg {α : outParam Type} (w0 : Base) (v : Value) (E : outParam (Enc α)) (xs : outParam (List α)) : Prop where
 is : SliceIs E w0.w v xs
class Rd {α : outParam Type} (w0 : Base) (L : List Asn) (v : Value) (E : outParam (Enc α)) (sz : outParam Nat) (xs : outParam (List α)) : Prop where
 sz : E.sz = sz
 rd : ∀ w, St w0 L w → SliceIs E w v xs
section
variable {α : Type} {E : Enc α} {w0 : Base} {L : List Asn} {v : Value} {xs : List α} {w : World}
theorem SliceIs.step {w' : World} (h : SliceIs E w v xs) (s : Step [] w w') : SliceIs E w' v xs := by
 obtain ⟨oa, cap, h1, h2, h3⟩ := h
 refine ⟨oa, cap, h1, h2, fun i x hx => ?_⟩
 obtain ⟨e, o, cs, g1, g2, g3, g4⟩ := h3 i x hx
 exact ⟨e, o, cs, g1, s.mem_some g2 (by simp), g3, g4⟩
instance Rd.sl : Rd w0 (sl E v xs :: L) v E E.sz xs := ⟨rfl, fun w H => H.sl_is⟩
instance (priority := 500) Rd.tl {X : Asn} {sz : Nat} [h : Rd w0 L v E sz xs] : Rd w0 (X :: L) v E sz xs := ⟨h.sz, fun w H => h.rd w H.drop⟩
instance (priority := 1100) Rd.arg [h : Arg w0 v E xs] : Rd w0 L v E E.sz xs := ⟨rfl, fun w H => h.is.step H.step⟩
instance Arg.with {k : Nat → Option Obj} {m : Nat} [h : Arg w0 v E xs] : Arg (w0.with k m) v E xs := ⟨h.is⟩
theorem Rd.frame {sz : Nat} {C : Asn → List Asn} {M : List Asn} (hM : ∀ A, stars (C A) = stars (A :: M)) (r : ∀ A, Rd w0 (C A) v E sz xs) : Rd w0 M v E sz xs := ⟨(r emp).sz, fun w H => (r emp).rd w (by
 obtain ⟨h, hs, hd⟩ := H
 refine ⟨h, ?_, hd⟩
 rw [hM]
 show star emp (stars M) h
 rw [star_emp]; exact hs)⟩
class SelSl {α : outParam Type} (L : List Asn) (v : Value) (E : outParam (Enc α)) (xs : outParam (List α)) (C : outParam (Asn → List Asn)) : Prop where
 sel : SelOb L (slR E) v xs C
instance SelSl.hd : SelSl (S.sl E v xs :: L) v E xs (fun a => a :: L) := ⟨SelOb.hd⟩
instance (priority := 500) SelSl.tl {X : Asn} {C : Asn → List Asn} [h : SelSl L v E xs C] : SelSl (X :: L) v E xs (fun a => X :: C a) := ⟨@SelOb.tl _ _ _ _ _ _ _ _ h.sel⟩
instance SelSl.ob {C : Asn → List Asn} [h : SelSl L v E xs C] : SelOb L (slR E) v xs C := h.sel
theorem sl_front {C : Asn → List Asn} (i : SelOb L (slR E) v xs C) : ∃ M, (∀ w, St w0 L w ↔ St w0 (S.sl E v xs :: M) w) ∧ (∀ A w, St w0 (C A) w ↔ St w0 (A :: M) w) := by
 obtain ⟨M, e1, e2, _⟩ := i.fronts
 exact ⟨M, fun w => by unfold St; rw [e1], fun A w => by unfold St; rw [e2]⟩
def ep (v : Value) (sz k j : Nat) : Value := match v with
 | .slice (some ⟨c, o, none⟩) _ _ => ptr c (o + k * sz + j)
 | _ => undef
variable {K : KV} {sz k j n : Nat} {x : α}
theorem Rd.at [r : Rd w0 L v E sz xs] [e : Elem xs k x] (H : St w0 L w) : ∃ b o cap cs, v = .slice (some ⟨b, o, none⟩) xs.length cap ∧ mem w b = some cs ∧ o + (k + 1) * sz ≤ cs.length ∧ (cs.drop (o + k * sz)).take sz = E.enc x ∧ k < xs.length := by
 obtain ⟨oa, cap, rfl, _, h⟩ := r.rd w H
 obtain ⟨b, o, cs, rfl, h1, h2, h3⟩ := h k x e.eq
 rw [r.sz] at h2 h3
 exact ⟨b, o, cap, cs, rfl, h1, h2, h3, by
  rcases Nat.lt_or_ge k xs.length with h | h
  ·exact h
  ·have := e.eq; simp [List.getElem?_eq_none h] at this⟩
theorem G_eqOf {F F' : World → Prop} (h : ∀ w, St w0 L w → (F w ↔ F' w)) : G w0 L F = G w0 L F' := propext ⟨fun g w H => (h w H).1 (g w H), fun g w H => (h w H).2 (g w H)⟩
theorem G_len [r : Rd w0 L v E sz xs] : G w0 L (lenW v K) = G w0 L (K (i64 xs.length)) := G_eqOf fun w H => by
 obtain ⟨oa, cap, rfl, _⟩ := r.rd w H
 exact Iff.rfl
theorem G_idx {kd : IntKind} {i : Int} [r : Rd w0 L v E sz xs] [hi : IxI i k] [e : Elem xs k x] : G w0 L (idxW sz v (.int kd i) K) = G w0 L (K (ep v sz k 0)) := G_eqOf fun w H => by
 obtain ⟨b, o, cap, cs, rfl, _, _, _, hk⟩ := Rd.at (x := x) (k := k) (r := r) H
 have := hi.eq
 subst this
 simp [idxW, ep, hk]
theorem G_add_ep {m : Nat} [r : Rd w0 L v E sz xs] [e : Elem xs k x] [a : AddIs j n m] : G w0 L (addW n (ep v sz k j) K) = G w0 L (K (ep v sz k m)) := G_eqOf fun w H => by
 have := a.eq
 subst this
 obtain ⟨b, o, cap, cs, rfl, _⟩ := Rd.at (x := x) (k := k) (r := r) H
 simp [addW, ep, Nat.add_assoc]
theorem G_nil_ep [r : Rd w0 L v E sz xs] [e : Elem xs k x] : G w0 L (nilW (ep v sz k j) K) = G w0 L (K (ep v sz k j)) := G_eqOf fun w H => by
 obtain ⟨b, o, cap, cs, rfl, _⟩ := Rd.at (x := x) (k := k) (r := r) H
 simp [nilW, ep]
theorem G_load_ep {u : Value} {cs : List Value} [r : Rd w0 L v E sz xs] [e : Elem xs k x] [c : EncIs E x cs] [h : Nth cs j u] : G w0 L (load1W (ep v sz k j) K) = G w0 L (K u) := G_eqOf fun w H => by
 obtain ⟨b, o, cap, ds, rfl, h1, h2, h3, _⟩ := Rd.at (x := x) (k := k) (r := r) H
 have h4 := h.eq
 rw [← c.eq, ← h3, List.getElem?_take] at h4
 split at h4
 ·rw [List.getElem?_drop] at h4
  simp [load1W, ep, h1, h4, onSome]
 ·cases h4
theorem G_loadN_ep {cs q : List Value} [r : Rd w0 L v E sz xs] [e : Elem xs k x] [c : EncIs E x cs] [h : PartIs cs j n q] : G w0 L (loadNW n (ep v sz k j) K) = G w0 L (K (.agg q.toArray)) := G_eqOf fun w H => by
 obtain ⟨b, o, cap, ds, rfl, h1, h2, h3, _⟩ := Rd.at (x := x) (k := k) (r := r) H
 have h4 := h.eq
 have h5 := h.le
 have h6 : cs.length = sz := by rw [← c.eq, E.len, r.sz]
 rw [← c.eq, ← h3, List.drop_take, List.take_take, List.drop_drop, Nat.min_eq_left (by omega)] at h4
 rw [Nat.add_mul] at h2
 simp [loadNW, ep, h1, h4, show o + k * sz + j + n ≤ ds.length by omega]
theorem G_store_ep {val : Value} {cs vs q : List Value} {x' : α} {C : Asn → List Asn} [r : Rd w0 L v E sz xs] [s : SelSl L v E xs C] [e : Elem xs k x] [c : EncIs E x cs] [hv : Cells val vs] [hl : LenIs vs n] [hr : SegIs cs j vs q] [hd : DecIs E q x'] :
  G w0 L (storeW n (ep v sz k j) val K) = G w0 (C (S.sl E v (xs.set k x'))) (K undef) := by
 obtain ⟨M, e1, e2⟩ := sl_front (w0 := w0) s.sel
 have hsz : val.cells.size = n := by rw [← hl.eq, ← hv.eq]; simp
 have henc : E.enc x' = seg (E.enc x) j vs := by rw [E.dec_ok _ _ hd.eq, c.eq, hr.eq]
 have hj : j + vs.length ≤ E.sz := by have := hr.le; rw [← c.eq, E.len] at this; exact this
 have hk : k < xs.length := by
  rcases Nat.lt_or_ge k xs.length with h | h
  ·exact h
  ·have := e.eq; simp [List.getElem?_eq_none h] at this
 have hkl := Nat.mul_le_mul_right E.sz (show k + 1 ≤ xs.length from hk)
 rw [Nat.add_mul] at hkl
 apply propext
 constructor
 ·intro g w H
  have H1 := (e2 _ w).1 H
  rcases H1.sl_cases with ⟨_, h0, _⟩ | ⟨b, cap, rest, hv', h2, h3, H2⟩
  ·have : (xs.set k x').length = 0 := by rw [h0]; rfl
   simp at this; subst this; simp at hk
  ·rw [List.length_set] at hv' h2 h3
   subst hv'
   have H3 := H2.own_put (cs' := xs.flatMap E.enc ++ rest)
   have H4 := (e1 _).2 (H3.sl_mk h2 h3)
   have h5 := g _ H4
   have hm := H3.own_mem
   simp only [storeW, ep, hm.2.1, hm.2.2, hsz, hv.eq, Nat.zero_add, ← r.sz] at h5
   have h6 := h5.2.2.2.2
   rw [flat_seg E rest vs j x' xs k x e.eq hj henc, put_put, put_same H2.own_mem.2.1] at h6
   exact h6
 ·intro g w H
  have H1 := (e1 w).1 H
  rcases H1.sl_cases with ⟨_, rfl, _⟩ | ⟨b, cap, rest, rfl, h2, h3, H2⟩
  ·simp at hk
  ·have hm := H2.own_mem
   simp only [storeW, ep, hm.2.1, hm.2.2, hsz, hv.eq, Nat.zero_add, ← r.sz]
   refine ⟨trivial, hv.ones, trivial, by have := hl.eq; simp only [List.length_append, flat_length]; omega, ?_⟩
   rw [flat_seg E rest vs j x' xs k x e.eq hj henc]
   refine g _ ((e2 _ _).2 ?_)
   have := (H2.own_put (cs' := (xs.set k x').flatMap E.enc ++ rest)).sl_mk (E := E) (xs := xs.set k x') (cap := cap) (by simpa using h2) (by simpa using h3)
   simpa using this
end
section
variable {w0 : Base} {L : List Asn} {K : KV}
theorem p_nil {b i : Nat} : nilW (ptr b i) K = K (ptr b i) := by funext w <;> simp [nilW]
theorem p_nilf {f : FuncId} {x y : Array Value} : nilW (.func (.func f) x y) K = K (.func (.func f) x y) := by funext w <;> simp [nilW]
theorem p_add {b i n m : Nat} [h : AddIs i n m] : addW n (ptr b i) K = K (ptr b m) := by funext w <;> simp [addW, h.eq]
theorem p_not {t : Bool} : notW (.bool t) K = K (.bool (!t)) := by funext w <;> simp [notW]
theorem p_pickT {x y : Value} : pickW (.bool true) x y K = K x := by funext w <;> simp [pickW]
theorem p_pickF {x y : Value} : pickW (.bool false) x y K = K y := by funext w <;> simp [pickW]
theorem p_lss {k : IntKind} {a b : Int} : binIntW .lss (.int k a) (.int k b) K = K (.bool (decide (a < b))) := by funext w <;> simp [binIntW, intBin, onSome, Bool.beq_eq_decide_eq]
theorem p_leq {k : IntKind} {a b : Int} : binIntW .leq (.int k a) (.int k b) K = K (.bool (decide (a ≤ b))) := by funext w <;> simp [binIntW, intBin, onSome, Bool.beq_eq_decide_eq]
theorem p_gtr {k : IntKind} {a b : Int} : binIntW .gtr (.int k a) (.int k b) K = K (.bool (decide (b < a))) := by funext w <;> simp [binIntW, intBin, onSome, Bool.beq_eq_decide_eq]
theorem p_geq {k : IntKind} {a b : Int} : binIntW .geq (.int k a) (.int k b) K = K (.bool (decide (b ≤ a))) := by funext w <;> simp [binIntW, intBin, onSome, Bool.beq_eq_decide_eq]
theorem p_eql {k : IntKind} {a b : Int} : binIntW .eql (.int k a) (.int k b) K = K (.bool (decide (a = b))) := by funext w <;> simp [binIntW, intBin, onSome, Bool.beq_eq_decide_eq]
theorem p_neq {k : IntKind} {a b : Int} : binIntW .neq (.int k a) (.int k b) K = K (.bool (!decide (a = b))) := by funext w <;> simp [binIntW, intBin, onSome, bne, Bool.beq_eq_decide_eq]
theorem p_addi {k : IntKind} {a b : Int} : binIntW .add (.int k a) (.int k b) K = K (.int k (k.wrap (a + b))) := by funext w <;> simp [binIntW, intBin, onSome]
theorem p_sub {k : IntKind} {a b : Int} : binIntW .sub (.int k a) (.int k b) K = K (.int k (k.wrap (a - b))) := by funext w <;> simp [binIntW, intBin, onSome]
theorem p_mul {k : IntKind} {a b : Int} : binIntW .mul (.int k a) (.int k b) K = K (.int k (k.wrap (a * b))) := by funext w <;> simp [binIntW, intBin, onSome]
theorem p_quo {k : IntKind} {a b : Int} [h : NeZ b] : binIntW .quo (.int k a) (.int k b) K = K (.int k (k.wrap (a.tdiv b))) := by funext w <;> simp [binIntW, intBin, onSome, h.ne]
theorem p_rem {k : IntKind} {a b : Int} [h : NeZ b] : binIntW .rem (.int k a) (.int k b) K = K (.int k (a.tmod b)) := by funext w <;> simp [binIntW, intBin, onSome, h.ne]
theorem p_iand {k : IntKind} {a b : Int} : binIntW .and (.int k a) (.int k b) K = K (.int k (k.wrap (BitVec.ofInt k.bits a &&& BitVec.ofInt k.bits b).toNat)) := by funext w <;> simp [binIntW, intBin, onSome]
theorem p_ior {k : IntKind} {a b : Int} : binIntW .or (.int k a) (.int k b) K = K (.int k (k.wrap (BitVec.ofInt k.bits a ||| BitVec.ofInt k.bits b).toNat)) := by funext w <;> simp [binIntW, intBin, onSome]
theorem p_ixor {k : IntKind} {a b : Int} : binIntW .xor (.int k a) (.int k b) K = K (.int k (k.wrap (BitVec.ofInt k.bits a ^^^ BitVec.ofInt k.bits b).toNat)) := by funext w <;> simp [binIntW, intBin, onSome]
theorem p_shl {k k2 : IntKind} {a b : Int} [h : NonNeg b] : binIntW .shl (.int k a) (.int k2 b) K = K (.int k (k.wrap (a * 2 ^ min b.toNat k.bits))) := by funext w <;> simp [binIntW, h.le]
theorem p_shr {k k2 : IntKind} {a b : Int} [h : NonNeg b] : binIntW .shr (.int k a) (.int k2 b) K = K (.int k (a.fdiv (2 ^ min b.toNat k.bits))) := by funext w <;> simp [binIntW, h.le]
theorem p_iface {t : Nat} {x : Value} : ifaceW t x K = K (.iface t x) := by funext w <;> simp [ifaceW]
theorem p_conv {k k2 : IntKind} {a : Int} : convW k (.int k2 a) K = K (.int k (k.wrap a)) := by funext w <;> simp [convW]
theorem p_beq {a b : Bool} : binBoolW .eql (.bool a) (.bool b) K = K (.bool (a == b)) := by funext w <;> simp [binBoolW, eqW]
theorem p_bne {a b : Bool} : binBoolW .neq (.bool a) (.bool b) K = K (.bool (!(a == b))) := by funext w <;> simp [binBoolW, eqW]
theorem p_pnil {b i : Nat} : eqNilW .eql (ptr b i) (.pointer none) K = K (.bool false) := by funext w <;> simp [eqNilW, eqW]
theorem p_pnnil {b i : Nat} : eqNilW .neq (ptr b i) (.pointer none) K = K (.bool true) := by funext w <;> simp [eqNilW, eqW]
theorem p_nnil  : eqNilW .eql (.pointer none) (.pointer none) K = K (.bool true) := by funext w <;> simp [eqNilW, eqW]
theorem p_nnnil  : eqNilW .neq (.pointer none) (.pointer none) K = K (.bool false) := by funext w <;> simp [eqNilW, eqW]
theorem p_eqagg {ks : List CK} {xs ys : List Value} {t : Bool} [h : EqIs ks xs ys t] : eqAggW ks .eql (.agg xs.toArray) (.agg ys.toArray) K = K (.bool t) := by funext w <;> simp [eqAggW, h.f1, h.f2, h.eq, eqW]
theorem p_neagg {ks : List CK} {xs ys : List Value} {t : Bool} [h : EqIs ks xs ys t] : eqAggW ks .neq (.agg xs.toArray) (.agg ys.toArray) K = K (.bool (!t)) := by funext w <;> simp [eqAggW, h.f1, h.f2, h.eq, eqW]
theorem p_part {o n : Nat} {cs : List Value} {v : Value} [h : Nth cs o v] : partW false o n (.agg cs.toArray) K = K v := by funext w <;> simp [partW, h.eq, onSome]
theorem p_parts {o n : Nat} {cs r : List Value} [h : PartIs cs o n r] : partW true o n (.agg cs.toArray) K = K (.agg r.toArray) := by funext w <;> simp only [partW, if_true] <;> congr 2 <;> apply Array.toList_inj.1 <;> simp [← h.eq]
theorem p_extract {i : Nat} {vs : List Value} {v : Value} [h : Nth vs i v] : extractW i (.tuple vs.toArray) K = K v := by funext w <;> simp [extractW, h.eq, onSome]
theorem p_build {zero r : List Value} {ps : List (Nat × Nat × Value)} [h : BuildIs zero ps r] : buildW zero ps K = K (.agg r.toArray) := by funext w <;> simp [buildW, h.eq]
theorem p_max {k : IntKind} {a b : Int} : maxW (.int k a) [.int k b] K = K (.int k (if b > a then b else a)) := by funext w <;> simp [maxW, foldV, max2V, onSome]
theorem p_min {k : IntKind} {a b : Int} : minW (.int k a) [.int k b] K = K (.int k (if b < a then b else a)) := by funext w <;> simp [minW, foldV, min2V, onSome]
theorem p_min3 {k : IntKind} {a b c : Int} : minW (.int k a) [.int k b, .int k c] K = K (.int k (if c < (if b < a then b else a) then c else (if b < a then b else a))) := by funext w <;> simp [minW, foldV, min2V, onSome]
theorem p_condT {A B : World → Prop} : condP (.bool true) A B = A := by rw [condP_t]
theorem p_condF {A B : World → Prop} : condP (.bool false) A B = B := by rw [condP_f]
theorem p_gt {t : Bool} {A : KV → World → Prop} : gW (.bool t) t A K = A K := by rw [gW_t]
theorem p_gtf {A : KV → World → Prop} : gW (.bool true) false A K = K undef := by rw [gW_tf]
theorem p_gft {A : KV → World → Prop} : gW (.bool false) true A K = K undef := by rw [gW_ft]
theorem p_gu {t : Bool} {A : KV → World → Prop} : gW undef t A K = K undef := by rw [gW_u]
theorem p_bt {t : Bool} {A : KV → World → Prop} {e : Value} : blockW (.bool t) t A e K = A K := by rw [blockW_t]
theorem p_btf {A : KV → World → Prop} {e : Value} : blockW (.bool true) false A e K = K e := by rw [blockW_tf]
theorem p_bft {A : KV → World → Prop} {e : Value} : blockW (.bool false) true A e K = K e := by rw [blockW_ft]
theorem p_band {p q : Bool} : blockW (.bool p) true (fun K => K (.bool q)) (.bool false) K = K (.bool (p && q)) := by rw [blockW_and]
theorem p_bor {p q : Bool} : blockW (.bool p) false (fun K => K (.bool q)) (.bool true) K = K (.bool (p || q)) := by rw [blockW_or]
theorem a_nil {b i : Nat} : G w0 L (nilW (ptr b i) K) = G w0 L (K (ptr b i)) := congrArg _ p_nil
theorem a_nilf {f : FuncId} {x y : Array Value} : G w0 L (nilW (.func (.func f) x y) K) = G w0 L (K (.func (.func f) x y)) := congrArg _ p_nilf
theorem a_add {b i n m : Nat} [h : AddIs i n m] : G w0 L (addW n (ptr b i) K) = G w0 L (K (ptr b m)) := congrArg _ p_add
theorem a_not {t : Bool} : G w0 L (notW (.bool t) K) = G w0 L (K (.bool (!t))) := congrArg _ p_not
theorem a_pickT {x y : Value} : G w0 L (pickW (.bool true) x y K) = G w0 L (K x) := congrArg _ p_pickT
theorem a_pickF {x y : Value} : G w0 L (pickW (.bool false) x y K) = G w0 L (K y) := congrArg _ p_pickF
theorem a_lss {k : IntKind} {a b : Int} : G w0 L (binIntW .lss (.int k a) (.int k b) K) = G w0 L (K (.bool (decide (a < b)))) := congrArg _ p_lss
theorem a_leq {k : IntKind} {a b : Int} : G w0 L (binIntW .leq (.int k a) (.int k b) K) = G w0 L (K (.bool (decide (a ≤ b)))) := congrArg _ p_leq
theorem a_gtr {k : IntKind} {a b : Int} : G w0 L (binIntW .gtr (.int k a) (.int k b) K) = G w0 L (K (.bool (decide (b < a)))) := congrArg _ p_gtr
theorem a_geq {k : IntKind} {a b : Int} : G w0 L (binIntW .geq (.int k a) (.int k b) K) = G w0 L (K (.bool (decide (b ≤ a)))) := congrArg _ p_geq
theorem a_eql {k : IntKind} {a b : Int} : G w0 L (binIntW .eql (.int k a) (.int k b) K) = G w0 L (K (.bool (decide (a = b)))) := congrArg _ p_eql
theorem a_neq {k : IntKind} {a b : Int} : G w0 L (binIntW .neq (.int k a) (.int k b) K) = G w0 L (K (.bool (!decide (a = b)))) := congrArg _ p_neq
theorem a_addi {k : IntKind} {a b : Int} : G w0 L (binIntW .add (.int k a) (.int k b) K) = G w0 L (K (.int k (k.wrap (a + b)))) := congrArg _ p_addi
theorem a_sub {k : IntKind} {a b : Int} : G w0 L (binIntW .sub (.int k a) (.int k b) K) = G w0 L (K (.int k (k.wrap (a - b)))) := congrArg _ p_sub
theorem a_mul {k : IntKind} {a b : Int} : G w0 L (binIntW .mul (.int k a) (.int k b) K) = G w0 L (K (.int k (k.wrap (a * b)))) := congrArg _ p_mul
theorem a_quo {k : IntKind} {a b : Int} [h : NeZ b] : G w0 L (binIntW .quo (.int k a) (.int k b) K) = G w0 L (K (.int k (k.wrap (a.tdiv b)))) := congrArg _ p_quo
theorem a_rem {k : IntKind} {a b : Int} [h : NeZ b] : G w0 L (binIntW .rem (.int k a) (.int k b) K) = G w0 L (K (.int k (a.tmod b))) := congrArg _ p_rem
theorem a_iand {k : IntKind} {a b : Int} : G w0 L (binIntW .and (.int k a) (.int k b) K) = G w0 L (K (.int k (k.wrap (BitVec.ofInt k.bits a &&& BitVec.ofInt k.bits b).toNat))) := congrArg _ p_iand
theorem a_ior {k : IntKind} {a b : Int} : G w0 L (binIntW .or (.int k a) (.int k b) K) = G w0 L (K (.int k (k.wrap (BitVec.ofInt k.bits a ||| BitVec.ofInt k.bits b).toNat))) := congrArg _ p_ior
theorem a_ixor {k : IntKind} {a b : Int} : G w0 L (binIntW .xor (.int k a) (.int k b) K) = G w0 L (K (.int k (k.wrap (BitVec.ofInt k.bits a ^^^ BitVec.ofInt k.bits b).toNat))) := congrArg _ p_ixor
theorem a_shl {k k2 : IntKind} {a b : Int} [h : NonNeg b] : G w0 L (binIntW .shl (.int k a) (.int k2 b) K) = G w0 L (K (.int k (k.wrap (a * 2 ^ min b.toNat k.bits)))) := congrArg _ p_shl
theorem a_shr {k k2 : IntKind} {a b : Int} [h : NonNeg b] : G w0 L (binIntW .shr (.int k a) (.int k2 b) K) = G w0 L (K (.int k (a.fdiv (2 ^ min b.toNat k.bits)))) := congrArg _ p_shr
theorem a_iface {t : Nat} {x : Value} : G w0 L (ifaceW t x K) = G w0 L (K (.iface t x)) := congrArg _ p_iface
theorem a_conv {k k2 : IntKind} {a : Int} : G w0 L (convW k (.int k2 a) K) = G w0 L (K (.int k (k.wrap a))) := congrArg _ p_conv
theorem a_beq {a b : Bool} : G w0 L (binBoolW .eql (.bool a) (.bool b) K) = G w0 L (K (.bool (a == b))) := congrArg _ p_beq
theorem a_bne {a b : Bool} : G w0 L (binBoolW .neq (.bool a) (.bool b) K) = G w0 L (K (.bool (!(a == b)))) := congrArg _ p_bne
theorem a_pnil {b i : Nat} : G w0 L (eqNilW .eql (ptr b i) (.pointer none) K) = G w0 L (K (.bool false)) := congrArg _ p_pnil
theorem a_pnnil {b i : Nat} : G w0 L (eqNilW .neq (ptr b i) (.pointer none) K) = G w0 L (K (.bool true)) := congrArg _ p_pnnil
theorem a_nnil  : G w0 L (eqNilW .eql (.pointer none) (.pointer none) K) = G w0 L (K (.bool true)) := congrArg _ p_nnil
theorem a_nnnil  : G w0 L (eqNilW .neq (.pointer none) (.pointer none) K) = G w0 L (K (.bool false)) := congrArg _ p_nnnil
theorem a_eqagg {ks : List CK} {xs ys : List Value} {t : Bool} [h : EqIs ks xs ys t] : G w0 L (eqAggW ks .eql (.agg xs.toArray) (.agg ys.toArray) K) = G w0 L (K (.bool t)) := congrArg _ p_eqagg
theorem a_neagg {ks : List CK} {xs ys : List Value} {t : Bool} [h : EqIs ks xs ys t] : G w0 L (eqAggW ks .neq (.agg xs.toArray) (.agg ys.toArray) K) = G w0 L (K (.bool (!t))) := congrArg _ p_neagg
theorem a_part {o n : Nat} {cs : List Value} {v : Value} [h : Nth cs o v] : G w0 L (partW false o n (.agg cs.toArray) K) = G w0 L (K v) := congrArg _ p_part
theorem a_parts {o n : Nat} {cs r : List Value} [h : PartIs cs o n r] : G w0 L (partW true o n (.agg cs.toArray) K) = G w0 L (K (.agg r.toArray)) := congrArg _ p_parts
theorem a_extract {i : Nat} {vs : List Value} {v : Value} [h : Nth vs i v] : G w0 L (extractW i (.tuple vs.toArray) K) = G w0 L (K v) := congrArg _ p_extract
theorem a_build {zero r : List Value} {ps : List (Nat × Nat × Value)} [h : BuildIs zero ps r] : G w0 L (buildW zero ps K) = G w0 L (K (.agg r.toArray)) := congrArg _ p_build
theorem a_max {k : IntKind} {a b : Int} : G w0 L (maxW (.int k a) [.int k b] K) = G w0 L (K (.int k (if b > a then b else a))) := congrArg _ p_max
theorem a_min {k : IntKind} {a b : Int} : G w0 L (minW (.int k a) [.int k b] K) = G w0 L (K (.int k (if b < a then b else a))) := congrArg _ p_min
theorem a_min3 {k : IntKind} {a b c : Int} : G w0 L (minW (.int k a) [.int k b, .int k c] K) = G w0 L (K (.int k (if c < (if b < a then b else a) then c else (if b < a then b else a)))) := congrArg _ p_min3
theorem a_condT {A B : World → Prop} : G w0 L (condP (.bool true) A B) = G w0 L (A) := congrArg _ p_condT
theorem a_condF {A B : World → Prop} : G w0 L (condP (.bool false) A B) = G w0 L (B) := congrArg _ p_condF
theorem a_gt {t : Bool} {A : KV → World → Prop} : G w0 L (gW (.bool t) t A K) = G w0 L (A K) := congrArg _ p_gt
theorem a_gtf {A : KV → World → Prop} : G w0 L (gW (.bool true) false A K) = G w0 L (K undef) := congrArg _ p_gtf
theorem a_gft {A : KV → World → Prop} : G w0 L (gW (.bool false) true A K) = G w0 L (K undef) := congrArg _ p_gft
theorem a_gu {t : Bool} {A : KV → World → Prop} : G w0 L (gW undef t A K) = G w0 L (K undef) := congrArg _ p_gu
theorem a_bt {t : Bool} {A : KV → World → Prop} {e : Value} : G w0 L (blockW (.bool t) t A e K) = G w0 L (A K) := congrArg _ p_bt
theorem a_btf {A : KV → World → Prop} {e : Value} : G w0 L (blockW (.bool true) false A e K) = G w0 L (K e) := congrArg _ p_btf
theorem a_bft {A : KV → World → Prop} {e : Value} : G w0 L (blockW (.bool false) true A e K) = G w0 L (K e) := congrArg _ p_bft
theorem a_band {p q : Bool} : G w0 L (blockW (.bool p) true (fun K => K (.bool q)) (.bool false) K) = G w0 L (K (.bool (p && q))) := congrArg _ p_band
theorem a_bor {p q : Bool} : G w0 L (blockW (.bool p) false (fun K => K (.bool q)) (.bool true) K) = G w0 L (K (.bool (p || q))) := congrArg _ p_bor
theorem a_andt {B : World → Prop} : G w0 L (andP trueP B) = G w0 L (B) := by rw [andP_true]
end
theorem RG :
  (∀ {w0 : Base} {L : List Asn} {K : KV} {b i : Nat}, G w0 L (nilW (ptr b i) K) = G w0 L (K (ptr b i))) ∧
  (∀ {w0 : Base} {L : List Asn} {K : KV} {f : FuncId} {x y : Array Value}, G w0 L (nilW (.func (.func f) x y) K) = G w0 L (K (.func (.func f) x y))) ∧
  (∀ {w0 : Base} {L : List Asn} {K : KV} {b i n m : Nat} [h : AddIs i n m], G w0 L (addW n (ptr b i) K) = G w0 L (K (ptr b m))) ∧
  (∀ {w0 : Base} {L : List Asn} {K : KV} {t : Bool}, G w0 L (notW (.bool t) K) = G w0 L (K (.bool (!t)))) ∧
  (∀ {w0 : Base} {L : List Asn} {K : KV} {x y : Value}, G w0 L (pickW (.bool true) x y K) = G w0 L (K x)) ∧
  (∀ {w0 : Base} {L : List Asn} {K : KV} {x y : Value}, G w0 L (pickW (.bool false) x y K) = G w0 L (K y)) ∧
  (∀ {w0 : Base} {L : List Asn} {K : KV} {k : IntKind} {a b : Int}, G w0 L (binIntW .lss (.int k a) (.int k b) K) = G w0 L (K (.bool (decide (a < b))))) ∧
  (∀ {w0 : Base} {L : List Asn} {K : KV} {k : IntKind} {a b : Int}, G w0 L (binIntW .leq (.int k a) (.int k b) K) = G w0 L (K (.bool (decide (a ≤ b))))) ∧
  (∀ {w0 : Base} {L : List Asn} {K : KV} {k : IntKind} {a b : Int}, G w0 L (binIntW .gtr (.int k a) (.int k b) K) = G w0 L (K (.bool (decide (b < a))))) ∧
  (∀ {w0 : Base} {L : List Asn} {K : KV} {k : IntKind} {a b : Int}, G w0 L (binIntW .geq (.int k a) (.int k b) K) = G w0 L (K (.bool (decide (b ≤ a))))) ∧
  (∀ {w0 : Base} {L : List Asn} {K : KV} {k : IntKind} {a b : Int}, G w0 L (binIntW .eql (.int k a) (.int k b) K) = G w0 L (K (.bool (decide (a = b))))) ∧
  (∀ {w0 : Base} {L : List Asn} {K : KV} {k : IntKind} {a b : Int}, G w0 L (binIntW .neq (.int k a) (.int k b) K) = G w0 L (K (.bool (!decide (a = b))))) ∧
  (∀ {w0 : Base} {L : List Asn} {K : KV} {k : IntKind} {a b : Int}, G w0 L (binIntW .add (.int k a) (.int k b) K) = G w0 L (K (.int k (k.wrap (a + b))))) ∧
  (∀ {w0 : Base} {L : List Asn} {K : KV} {k : IntKind} {a b : Int}, G w0 L (binIntW .sub (.int k a) (.int k b) K) = G w0 L (K (.int k (k.wrap (a - b))))) ∧
  (∀ {w0 : Base} {L : List Asn} {K : KV} {k : IntKind} {a b : Int}, G w0 L (binIntW .mul (.int k a) (.int k b) K) = G w0 L (K (.int k (k.wrap (a * b))))) ∧
  (∀ {w0 : Base} {L : List Asn} {K : KV} {k : IntKind} {a b : Int} [h : NeZ b], G w0 L (binIntW .quo (.int k a) (.int k b) K) = G w0 L (K (.int k (k.wrap (a.tdiv b))))) ∧
  (∀ {w0 : Base} {L : List Asn} {K : KV} {k : IntKind} {a b : Int} [h : NeZ b], G w0 L (binIntW .rem (.int k a) (.int k b) K) = G w0 L (K (.int k (a.tmod b)))) ∧
  (∀ {w0 : Base} {L : List Asn} {K : KV} {k : IntKind} {a b : Int}, G w0 L (binIntW .and (.int k a) (.int k b) K) = G w0 L (K (.int k (k.wrap (BitVec.ofInt k.bits a &&& BitVec.ofInt k.bits b).toNat)))) ∧
  (∀ {w0 : Base} {L : List Asn} {K : KV} {k : IntKind} {a b : Int}, G w0 L (binIntW .or (.int k a) (.int k b) K) = G w0 L (K (.int k (k.wrap (BitVec.ofInt k.bits a ||| BitVec.ofInt k.bits b).toNat)))) ∧
  (∀ {w0 : Base} {L : List Asn} {K : KV} {k : IntKind} {a b : Int}, G w0 L (binIntW .xor (.int k a) (.int k b) K) = G w0 L (K (.int k (k.wrap (BitVec.ofInt k.bits a ^^^ BitVec.ofInt k.bits b).toNat)))) ∧
  (∀ {w0 : Base} {L : List Asn} {K : KV} {k k2 : IntKind} {a b : Int} [h : NonNeg b], G w0 L (binIntW .shl (.int k a) (.int k2 b) K) = G w0 L (K (.int k (k.wrap (a * 2 ^ min b.toNat k.bits))))) ∧
  (∀ {w0 : Base} {L : List Asn} {K : KV} {k k2 : IntKind} {a b : Int} [h : NonNeg b], G w0 L (binIntW .shr (.int k a) (.int k2 b) K) = G w0 L (K (.int k (a.fdiv (2 ^ min b.toNat k.bits))))) ∧
  (∀ {w0 : Base} {L : List Asn} {K : KV} {t : Nat} {x : Value}, G w0 L (ifaceW t x K) = G w0 L (K (.iface t x))) ∧
  (∀ {w0 : Base} {L : List Asn} {K : KV} {k k2 : IntKind} {a : Int}, G w0 L (convW k (.int k2 a) K) = G w0 L (K (.int k (k.wrap a)))) ∧
  (∀ {w0 : Base} {L : List Asn} {K : KV} {a b : Bool}, G w0 L (binBoolW .eql (.bool a) (.bool b) K) = G w0 L (K (.bool (a == b)))) ∧
  (∀ {w0 : Base} {L : List Asn} {K : KV} {a b : Bool}, G w0 L (binBoolW .neq (.bool a) (.bool b) K) = G w0 L (K (.bool (!(a == b))))) ∧
  (∀ {w0 : Base} {L : List Asn} {K : KV} {b i : Nat}, G w0 L (eqNilW .eql (ptr b i) (.pointer none) K) = G w0 L (K (.bool false))) ∧
  (∀ {w0 : Base} {L : List Asn} {K : KV} {b i : Nat}, G w0 L (eqNilW .neq (ptr b i) (.pointer none) K) = G w0 L (K (.bool true))) ∧
  (∀ {w0 : Base} {L : List Asn} {K : KV}, G w0 L (eqNilW .eql (.pointer none) (.pointer none) K) = G w0 L (K (.bool true))) ∧
  (∀ {w0 : Base} {L : List Asn} {K : KV}, G w0 L (eqNilW .neq (.pointer none) (.pointer none) K) = G w0 L (K (.bool false))) ∧
  (∀ {w0 : Base} {L : List Asn} {K : KV} {ks : List CK} {xs ys : List Value} {t : Bool} [h : EqIs ks xs ys t], G w0 L (eqAggW ks .eql (.agg xs.toArray) (.agg ys.toArray) K) = G w0 L (K (.bool t))) ∧
  (∀ {w0 : Base} {L : List Asn} {K : KV} {ks : List CK} {xs ys : List Value} {t : Bool} [h : EqIs ks xs ys t], G w0 L (eqAggW ks .neq (.agg xs.toArray) (.agg ys.toArray) K) = G w0 L (K (.bool (!t)))) ∧
  (∀ {w0 : Base} {L : List Asn} {K : KV} {o n : Nat} {cs : List Value} {v : Value} [h : Nth cs o v], G w0 L (partW false o n (.agg cs.toArray) K) = G w0 L (K v)) ∧
  (∀ {w0 : Base} {L : List Asn} {K : KV} {o n : Nat} {cs r : List Value} [h : PartIs cs o n r], G w0 L (partW true o n (.agg cs.toArray) K) = G w0 L (K (.agg r.toArray))) ∧
  (∀ {w0 : Base} {L : List Asn} {K : KV} {i : Nat} {vs : List Value} {v : Value} [h : Nth vs i v], G w0 L (extractW i (.tuple vs.toArray) K) = G w0 L (K v)) ∧
  (∀ {w0 : Base} {L : List Asn} {K : KV} {zero r : List Value} {ps : List (Nat × Nat × Value)} [h : BuildIs zero ps r], G w0 L (buildW zero ps K) = G w0 L (K (.agg r.toArray))) ∧
  (∀ {w0 : Base} {L : List Asn} {K : KV} {k : IntKind} {a b : Int}, G w0 L (maxW (.int k a) [.int k b] K) = G w0 L (K (.int k (if b > a then b else a)))) ∧
  (∀ {w0 : Base} {L : List Asn} {K : KV} {k : IntKind} {a b : Int}, G w0 L (minW (.int k a) [.int k b] K) = G w0 L (K (.int k (if b < a then b else a)))) ∧
  (∀ {w0 : Base} {L : List Asn} {K : KV} {k : IntKind} {a b c : Int}, G w0 L (minW (.int k a) [.int k b, .int k c] K) = G w0 L (K (.int k (if c < (if b < a then b else a) then c else (if b < a then b else a))))) ∧
  (∀ {w0 : Base} {L : List Asn} {A B : World → Prop}, G w0 L (condP (.bool true) A B) = G w0 L (A)) ∧
  (∀ {w0 : Base} {L : List Asn} {A B : World → Prop}, G w0 L (condP (.bool false) A B) = G w0 L (B)) ∧
  (∀ {w0 : Base} {L : List Asn} {K : KV} {t : Bool} {A : KV → World → Prop}, G w0 L (gW (.bool t) t A K) = G w0 L (A K)) ∧
  (∀ {w0 : Base} {L : List Asn} {K : KV} {A : KV → World → Prop}, G w0 L (gW (.bool true) false A K) = G w0 L (K undef)) ∧
  (∀ {w0 : Base} {L : List Asn} {K : KV} {A : KV → World → Prop}, G w0 L (gW (.bool false) true A K) = G w0 L (K undef)) ∧
  (∀ {w0 : Base} {L : List Asn} {K : KV} {t : Bool} {A : KV → World → Prop}, G w0 L (gW undef t A K) = G w0 L (K undef)) ∧
  (∀ {w0 : Base} {L : List Asn} {K : KV} {t : Bool} {A : KV → World → Prop} {e : Value}, G w0 L (blockW (.bool t) t A e K) = G w0 L (A K)) ∧
  (∀ {w0 : Base} {L : List Asn} {K : KV} {A : KV → World → Prop} {e : Value}, G w0 L (blockW (.bool true) false A e K) = G w0 L (K e)) ∧
  (∀ {w0 : Base} {L : List Asn} {K : KV} {A : KV → World → Prop} {e : Value}, G w0 L (blockW (.bool false) true A e K) = G w0 L (K e)) ∧
  (∀ {w0 : Base} {L : List Asn} {K : KV} {p q : Bool}, G w0 L (blockW (.bool p) true (fun K => K (.bool q)) (.bool false) K) = G w0 L (K (.bool (p && q)))) ∧
  (∀ {w0 : Base} {L : List Asn} {K : KV} {p q : Bool}, G w0 L (blockW (.bool p) false (fun K => K (.bool q)) (.bool true) K) = G w0 L (K (.bool (p || q)))) ∧
  (∀ {w0 : Base} {L : List Asn} {B : World → Prop}, G w0 L (andP trueP B) = G w0 L (B)) ∧
  (∀ {w0 : Base} {L : List Asn} {A B : World → Prop}, G w0 L (andP A B) = (G w0 L A ∧ G w0 L B)) ∧
  (∀ {w0 : Base} {L : List Asn} {K : KV} {b j : Nat} {cs : List Value} {C : Asn → List Asn} [SelOb L ownR b cs C] {v : Value} [Nth cs j v], G w0 L (load1W (ptr b j) K) = G w0 L (K v)) ∧
  (∀ {w0 : Base} {L : List Asn} {K : KV} {b j n : Nat} {cs : List Value} {C : Asn → List Asn} [SelOb L ownR b cs C] {r : List Value} [PartIs cs j n r], G w0 L (loadNW n (ptr b j) K) = G w0 L (K (.agg r.toArray))) ∧
  (∀ {w0 : Base} {L : List Asn} {K : KV} {b j n : Nat} {cs : List Value} {C : Asn → List Asn} [SelOb L ownR b cs C] {v : Value} {vs r : List Value} [Cells v vs] [SegIs cs j vs r] [LenIs vs n], G w0 L (storeW n (ptr b j) v K) = G w0 (C (own b r)) (K undef)) ∧
  (∀ {w0 : Base} {L : List Asn}, G w0 L trueP = True) ∧
  (∀ {w0 : Base} {L : List Asn} {v : Value}, G w0 L (eqP v v) = True) ∧
  (∀ {α : Type} {E : Enc α} {w0 : Base} {L : List Asn} {v : Value} {xs : List α} {K : KV} {sz : Nat} [Rd w0 L v E sz xs], G w0 L (lenW v K) = G w0 L (K (i64 xs.length))) ∧
  (∀ {α : Type} {E : Enc α} {w0 : Base} {L : List Asn} {v : Value} {xs : List α} {K : KV} {sz k : Nat} {x : α} {kd : IntKind} {i : Int} [Rd w0 L v E sz xs] [IxI i k] [Elem xs k x], G w0 L (idxW sz v (.int kd i) K) = G w0 L (K (ep v sz k 0))) ∧
  (∀ {α : Type} {E : Enc α} {w0 : Base} {L : List Asn} {v : Value} {xs : List α} {K : KV} {sz k j n : Nat} {x : α} {m : Nat} [Rd w0 L v E sz xs] [Elem xs k x] [AddIs j n m], G w0 L (addW n (ep v sz k j) K) = G w0 L (K (ep v sz k m))) ∧
  (∀ {α : Type} {E : Enc α} {w0 : Base} {L : List Asn} {v : Value} {xs : List α} {K : KV} {sz k j : Nat} {x : α} [Rd w0 L v E sz xs] [Elem xs k x], G w0 L (nilW (ep v sz k j) K) = G w0 L (K (ep v sz k j))) ∧
  (∀ {α : Type} {E : Enc α} {w0 : Base} {L : List Asn} {v : Value} {xs : List α} {K : KV} {sz k j : Nat} {x : α} {u : Value} {cs : List Value} [Rd w0 L v E sz xs] [Elem xs k x] [EncIs E x cs] [Nth cs j u], G w0 L (load1W (ep v sz k j) K) = G w0 L (K u)) ∧
  (∀ {α : Type} {E : Enc α} {w0 : Base} {L : List Asn} {v : Value} {xs : List α} {K : KV} {sz k j n : Nat} {x : α} {cs q : List Value} [Rd w0 L v E sz xs] [Elem xs k x] [EncIs E x cs] [PartIs cs j n q], G w0 L (loadNW n (ep v sz k j) K) = G w0 L (K (.agg q.toArray))) ∧
  (∀ {α : Type} {E : Enc α} {w0 : Base} {L : List Asn} {v : Value} {xs : List α} {K : KV} {sz k j n : Nat} {x : α} {val : Value} {cs vs q : List Value} {x2 : α} {C : Asn → List Asn} [Rd w0 L v E sz xs] [SelSl L v E xs C] [Elem xs k x] [EncIs E x cs] [Cells val vs] [LenIs vs n] [SegIs cs j vs q] [DecIs E q x2], G w0 L (storeW n (ep v sz k j) val K) = G w0 (C (S.sl E v (xs.set k x2))) (K undef)) :=
 ⟨@a_nil, @a_nilf, @a_add, @a_not, @a_pickT, @a_pickF, @a_lss, @a_leq, @a_gtr, @a_geq, @a_eql, @a_neq, @a_addi, @a_sub, @a_mul, @a_quo, @a_rem, @a_iand, @a_ior, @a_ixor, @a_shl, @a_shr, @a_iface, @a_conv, @a_beq, @a_bne, @a_pnil, @a_pnnil, @a_nnil, @a_nnnil, @a_eqagg, @a_neagg, @a_part, @a_parts, @a_extract, @a_build, @a_max, @a_min, @a_min3, @a_condT, @a_condF, @a_gt, @a_gtf, @a_gft, @a_gu, @a_bt, @a_btf, @a_bft, @a_band, @a_bor, @a_andt, @G_and, @G_load, @G_loadN, @G_store, @G_true, @G_eqv, @G_len, @G_idx, @G_add_ep, @G_nil_ep, @G_load_ep, @G_loadN_ep, @G_store_ep⟩
theorem RP :
  (∀ {K : KV} {b i : Nat}, nilW (ptr b i) K = K (ptr b i)) ∧
  (∀ {K : KV} {f : FuncId} {x y : Array Value}, nilW (.func (.func f) x y) K = K (.func (.func f) x y)) ∧
  (∀ {K : KV} {b i n m : Nat} [h : AddIs i n m], addW n (ptr b i) K = K (ptr b m)) ∧
  (∀ {K : KV} {t : Bool}, notW (.bool t) K = K (.bool (!t))) ∧
  (∀ {K : KV} {x y : Value}, pickW (.bool true) x y K = K x) ∧
  (∀ {K : KV} {x y : Value}, pickW (.bool false) x y K = K y) ∧
  (∀ {K : KV} {k : IntKind} {a b : Int}, binIntW .lss (.int k a) (.int k b) K = K (.bool (decide (a < b)))) ∧
  (∀ {K : KV} {k : IntKind} {a b : Int}, binIntW .leq (.int k a) (.int k b) K = K (.bool (decide (a ≤ b)))) ∧
  (∀ {K : KV} {k : IntKind} {a b : Int}, binIntW .gtr (.int k a) (.int k b) K = K (.bool (decide (b < a)))) ∧
  (∀ {K : KV} {k : IntKind} {a b : Int}, binIntW .geq (.int k a) (.int k b) K = K (.bool (decide (b ≤ a)))) ∧
  (∀ {K : KV} {k : IntKind} {a b : Int}, binIntW .eql (.int k a) (.int k b) K = K (.bool (decide (a = b)))) ∧
  (∀ {K : KV} {k : IntKind} {a b : Int}, binIntW .neq (.int k a) (.int k b) K = K (.bool (!decide (a = b)))) ∧
  (∀ {K : KV} {k : IntKind} {a b : Int}, binIntW .add (.int k a) (.int k b) K = K (.int k (k.wrap (a + b)))) ∧
  (∀ {K : KV} {k : IntKind} {a b : Int}, binIntW .sub (.int k a) (.int k b) K = K (.int k (k.wrap (a - b)))) ∧
  (∀ {K : KV} {k : IntKind} {a b : Int}, binIntW .mul (.int k a) (.int k b) K = K (.int k (k.wrap (a * b)))) ∧
  (∀ {K : KV} {k : IntKind} {a b : Int} [h : NeZ b], binIntW .quo (.int k a) (.int k b) K = K (.int k (k.wrap (a.tdiv b)))) ∧
  (∀ {K : KV} {k : IntKind} {a b : Int} [h : NeZ b], binIntW .rem (.int k a) (.int k b) K = K (.int k (a.tmod b))) ∧
  (∀ {K : KV} {k : IntKind} {a b : Int}, binIntW .and (.int k a) (.int k b) K = K (.int k (k.wrap (BitVec.ofInt k.bits a &&& BitVec.ofInt k.bits b).toNat))) ∧
  (∀ {K : KV} {k : IntKind} {a b : Int}, binIntW .or (.int k a) (.int k b) K = K (.int k (k.wrap (BitVec.ofInt k.bits a ||| BitVec.ofInt k.bits b).toNat))) ∧
  (∀ {K : KV} {k : IntKind} {a b : Int}, binIntW .xor (.int k a) (.int k b) K = K (.int k (k.wrap (BitVec.ofInt k.bits a ^^^ BitVec.ofInt k.bits b).toNat))) ∧
  (∀ {K : KV} {k k2 : IntKind} {a b : Int} [h : NonNeg b], binIntW .shl (.int k a) (.int k2 b) K = K (.int k (k.wrap (a * 2 ^ min b.toNat k.bits)))) ∧
  (∀ {K : KV} {k k2 : IntKind} {a b : Int} [h : NonNeg b], binIntW .shr (.int k a) (.int k2 b) K = K (.int k (a.fdiv (2 ^ min b.toNat k.bits)))) ∧
  (∀ {K : KV} {t : Nat} {x : Value}, ifaceW t x K = K (.iface t x)) ∧
  (∀ {K : KV} {k k2 : IntKind} {a : Int}, convW k (.int k2 a) K = K (.int k (k.wrap a))) ∧
  (∀ {K : KV} {a b : Bool}, binBoolW .eql (.bool a) (.bool b) K = K (.bool (a == b))) ∧
  (∀ {K : KV} {a b : Bool}, binBoolW .neq (.bool a) (.bool b) K = K (.bool (!(a == b)))) ∧
  (∀ {K : KV} {b i : Nat}, eqNilW .eql (ptr b i) (.pointer none) K = K (.bool false)) ∧
  (∀ {K : KV} {b i : Nat}, eqNilW .neq (ptr b i) (.pointer none) K = K (.bool true)) ∧
  (∀ {K : KV}, eqNilW .eql (.pointer none) (.pointer none) K = K (.bool true)) ∧
  (∀ {K : KV}, eqNilW .neq (.pointer none) (.pointer none) K = K (.bool false)) ∧
  (∀ {K : KV} {ks : List CK} {xs ys : List Value} {t : Bool} [h : EqIs ks xs ys t], eqAggW ks .eql (.agg xs.toArray) (.agg ys.toArray) K = K (.bool t)) ∧
  (∀ {K : KV} {ks : List CK} {xs ys : List Value} {t : Bool} [h : EqIs ks xs ys t], eqAggW ks .neq (.agg xs.toArray) (.agg ys.toArray) K = K (.bool (!t))) ∧
  (∀ {K : KV} {o n : Nat} {cs : List Value} {v : Value} [h : Nth cs o v], partW false o n (.agg cs.toArray) K = K v) ∧
  (∀ {K : KV} {o n : Nat} {cs r : List Value} [h : PartIs cs o n r], partW true o n (.agg cs.toArray) K = K (.agg r.toArray)) ∧
  (∀ {K : KV} {i : Nat} {vs : List Value} {v : Value} [h : Nth vs i v], extractW i (.tuple vs.toArray) K = K v) ∧
  (∀ {K : KV} {zero r : List Value} {ps : List (Nat × Nat × Value)} [h : BuildIs zero ps r], buildW zero ps K = K (.agg r.toArray)) ∧
  (∀ {K : KV} {k : IntKind} {a b : Int}, maxW (.int k a) [.int k b] K = K (.int k (if b > a then b else a))) ∧
  (∀ {K : KV} {k : IntKind} {a b : Int}, minW (.int k a) [.int k b] K = K (.int k (if b < a then b else a))) ∧
  (∀ {K : KV} {k : IntKind} {a b c : Int}, minW (.int k a) [.int k b, .int k c] K = K (.int k (if c < (if b < a then b else a) then c else (if b < a then b else a)))) ∧
  (∀ {A B : World → Prop}, condP (.bool true) A B = A) ∧
  (∀ {A B : World → Prop}, condP (.bool false) A B = B) ∧
  (∀ {K : KV} {t : Bool} {A : KV → World → Prop}, gW (.bool t) t A K = A K) ∧
  (∀ {K : KV} {A : KV → World → Prop}, gW (.bool true) false A K = K undef) ∧
  (∀ {K : KV} {A : KV → World → Prop}, gW (.bool false) true A K = K undef) ∧
  (∀ {K : KV} {t : Bool} {A : KV → World → Prop}, gW undef t A K = K undef) ∧
  (∀ {K : KV} {t : Bool} {A : KV → World → Prop} {e : Value}, blockW (.bool t) t A e K = A K) ∧
  (∀ {K : KV} {A : KV → World → Prop} {e : Value}, blockW (.bool true) false A e K = K e) ∧
  (∀ {K : KV} {A : KV → World → Prop} {e : Value}, blockW (.bool false) true A e K = K e) ∧
  (∀ {K : KV} {p q : Bool}, blockW (.bool p) true (fun K => K (.bool q)) (.bool false) K = K (.bool (p && q))) ∧
  (∀ {K : KV} {p q : Bool}, blockW (.bool p) false (fun K => K (.bool q)) (.bool true) K = K (.bool (p || q))) :=
 ⟨@p_nil, @p_nilf, @p_add, @p_not, @p_pickT, @p_pickF, @p_lss, @p_leq, @p_gtr, @p_geq, @p_eql, @p_neq, @p_addi, @p_sub, @p_mul, @p_quo, @p_rem, @p_iand, @p_ior, @p_ixor, @p_shl, @p_shr, @p_iface, @p_conv, @p_beq, @p_bne, @p_pnil, @p_pnnil, @p_nnil, @p_nnnil, @p_eqagg, @p_neagg, @p_part, @p_parts, @p_extract, @p_build, @p_max, @p_min, @p_min3, @p_condT, @p_condF, @p_gt, @p_gtf, @p_gft, @p_gu, @p_bt, @p_btf, @p_bft, @p_band, @p_bor⟩
section
variable {α : Type} {E : Enc α} {w0 : Base} {L : List Asn} {v : Value} {xs : List α} {K : KV} {sz n bytes : Nat} {zero : List Value} {C : Asn → List Asn}
theorem cells_slice {a : Option Addr} {n c : Nat} : Cells (.slice a n c) [.slice a n c] := inferInstance
theorem G.nilsl {F : World → Prop} (E : Enc α) (h : G w0 (sl E (.slice none 0 0) [] :: L) F) : G w0 L F := fun w H => h w H.sl_nil
theorem G.isNil [r : Rd w0 L v E sz xs] (h : ∀ t, (t = true → xs = []) → G w0 L (K (.bool t))) : G w0 L (eqNilSliceW .eql v (.slice none 0 0) K) := fun w H => by
 obtain ⟨oa, cap, rfl, h1, _⟩ := r.rd w H
 cases oa with
 | none => exact h true (fun _ => (h1 rfl).1) w H
 | some a => exact h false (by simp) w H
theorem G.make2 {l c : Nat} (E : Enc α) (z : α) (hz : E.enc z = zero) (hl : l ≤ c) (hc : c ≤ maxLen) (hb : bytes * c ≤ 140737488355328) (h : ∀ v, Cells v [v] → G w0 (sl E v (List.replicate l z) :: L) (K v)) :
  G w0 L (makeSliceW bytes zero (i64 l) (i64 c) K) := fun w H => by
 refine ⟨by omega, by omega, by omega, by omega, fun T => ?_⟩
 have e : repl c zero = (List.replicate l z).flatMap E.enc ++ repl (c - l) zero := by
  have : ∀ m, repl m zero = (List.replicate m z).flatMap E.enc := fun m => by
   induction m with
   | zero => simp [repl]
   | succ m ih => unfold repl at *; simp [List.replicate_succ, List.flatMap_cons, ih, hz]
  rw [this, this, ← List.flatMap_append, List.replicate_append_replicate, Nat.add_sub_cancel' hl]
 have H2 := H.alloc (repl c zero) T
 rw [e] at H2
 have hzl : zero.length = E.sz := by rw [← hz, E.len]
 have := H2.sl_mk (E := E) (cap := c) (by simpa using hl) (by
  have : ∀ m, (repl m zero).length = m * E.sz := fun m => by
   induction m with
   | zero => simp [repl]
   | succ m ih => unfold repl at *; simp only [List.replicate_succ, List.flatten_cons, List.length_append, ih, hzl, Nat.add_mul]; omega
  simp [this])
 have h2 := h _ cells_slice _ this
 rw [← e] at h2
 simpa using h2
theorem G.make (E : Enc α) (z : α) (hz : E.enc z = zero) (hc : n ≤ maxLen) (hb : bytes * n ≤ 140737488355328) (h : ∀ v, Cells v [v] → G w0 (sl E v (List.replicate n z) :: L) (K v)) :
  G w0 L (makeSliceW bytes zero (i64 n) (i64 n) K) := G.make2 E z hz (Nat.le_refl n) hc hb h
theorem G.build {ps : List (Nat × Nat × Value)} (E : Enc α) (xs : List α) (hn : xs.length = n) (hz : n * zero.length ≤ 16777216) (hb : buildL (repl n zero) ps = some (xs.flatMap E.enc)) (h : ∀ v, Cells v [v] → G w0 (sl E v xs :: L) (K v)) :
  G w0 L (buildSliceW zero n ps K) := fun w H => by
 refine ⟨hz, ?_⟩
 rw [hb]
 intro T
 have H2 := H.alloc (xs.flatMap E.enc) T
 have := St.sl_mk (E := E) (xs := xs) (rest := []) (cap := n) (by simpa using H2) (by omega) (by simp [hn])
 have h2 := h _ cells_slice _ this
 rw [hn] at h2
 exact h2
theorem SliceIs.src {w : World} (h : SliceIs E w v xs) (hx : 0 < xs.length) : srcCells E.sz v w = some (xs.length, xs.flatMap E.enc) := by
 obtain ⟨oa, cap, rfl, h1, h2⟩ := h
 have hl : xs[xs.length - 1]? = some xs[xs.length - 1] := List.getElem?_eq_getElem (by omega)
 obtain ⟨e, o, cs, rfl, g2, g3, _⟩ := h2 _ _ hl
 rw [show xs.length - 1 + 1 = xs.length by omega] at g3
 simp only [srcCells, show ¬ xs.length = 0 by omega, if_false, g2, g3, if_true, Option.some.injEq, Prod.mk.injEq, true_and]
 have key : ∀ (ys : List α) (m : Nat), (∀ i x, ys[i]? = some x → (cs.drop (m + i * E.sz)).take E.sz = E.enc x) → m + ys.length * E.sz ≤ cs.length → (cs.drop m).take (ys.length * E.sz) = ys.flatMap E.enc := by
  intro ys
  induction ys with
  | nil => intro m _ _; simp
  | cons y ys ih =>
   intro m hy hm
   simp only [List.length_cons, Nat.add_mul, Nat.one_mul] at hm ⊢
   have h0 := hy 0 y (by simp)
   simp only [Nat.zero_mul, Nat.add_zero] at h0
   have := ih (m + E.sz) (fun i x hx => by have := hy (i + 1) x (by simpa using hx); rwa [Nat.add_mul, Nat.one_mul, Nat.add_comm (i * E.sz), ← Nat.add_assoc] at this) (by omega)
   rw [List.flatMap_cons, ← h0, ← this, ← List.drop_drop, Nat.add_comm (ys.length * E.sz), List.take_add]
 exact key xs o (fun i x hx => by
  obtain ⟨e', o', cs', k1, k2, _, k4⟩ := h2 i x hx
  simp only [Option.some.injEq, Addr.mk.injEq, and_true] at k1
  obtain ⟨rfl, rfl⟩ := k1
  rw [g2] at k2
  cases k2
  exact k4) g3
theorem SliceIs.src' {w : World} (h : SliceIs E w v xs) : srcCells E.sz v w = some (xs.length, xs.flatMap E.enc) := by
 rcases Nat.eq_zero_or_pos xs.length with h0 | h0
 ·have hx : xs = [] := List.eq_nil_of_length_eq_zero h0
  subst hx
  obtain ⟨oa, cap, rfl, h1, h2⟩ := h
  cases oa <;> simp [srcCells]
 ·exact h.src h0
theorem seg_end (a r vs : List Value) (h : vs.length ≤ r.length) : seg (a ++ r) a.length vs = a ++ vs ++ r.drop vs.length := by
 have := seg_right vs a r 0 (by omega)
 rw [Nat.add_zero] at this
 rw [this, seg_eq _ _ _ (by omega)]
 simp
theorem G.append {x : Value} {ys : List α} [r : Rd w0 L x E sz ys] [s : SelSl L v E xs C] (h1 : (xs.length + ys.length) * bytes ≤ 140737488355328) (h2 : xs.length + ys.length ≤ maxLen) (h : ∀ u, Cells u [u] → G w0 (C (sl E u (xs ++ ys))) (K u)) :
  G w0 L (appendW sz bytes v x K) := fun w H => by
 obtain ⟨M, e1, e2⟩ := sl_front (w0 := w0) s.sel
 have hsrc := (r.rd w H).src'
 rw [r.sz] at hsrc
 have H1 := (e1 w).1 H
 have hfin : ∀ {c cap : Nat} {rest : List Value} {w' : World}, St w0 (own c ((xs ++ ys).flatMap E.enc ++ rest) :: M) w' → xs.length + ys.length ≤ cap → rest.length = (cap - (xs.length + ys.length)) * sz → K (.slice (some ⟨c, 0, none⟩) (xs.length + ys.length) cap) w' := by
  intro c cap rest w' g1 g2 g3
  have := g1.sl_mk (E := E) (cap := cap) (by simpa using g2) (by rw [r.sz]; simpa using g3)
  have h3 := h _ cells_slice _ ((e2 _ _).2 this)
  simpa using h3
 rcases H1.sl_cases with ⟨rfl, rfl, H2⟩ | ⟨c, cap, rest, rfl, g2, g3, H2⟩
 ·simp only [appendW, hsrc]
  simp only [List.length_nil, Nat.zero_add, List.nil_append] at h1 h2 hfin h
  refine ⟨trivial, trivial, h1, h2, fun h0 => ?_, fun h0 c rest T k1 k2 k3 => ?_⟩
  ·have hy : ys = [] := List.eq_nil_of_length_eq_zero h0
   subst hy
   exact h _ cells_slice _ ((e2 _ _).2 H2.sl_nil)
  ·exact hfin (H2.drew.alloc _ T) k1 k3
 ·have hm := H2.own_mem
  simp only [appendW, hsrc, hm.2.1]
  have hfl : (xs.flatMap E.enc).length = xs.length * sz := by rw [flat_length, r.sz]
  have hfy : (ys.flatMap E.enc).length = ys.length * sz := by rw [flat_length, r.sz]
  rw [r.sz] at g3
  have hc : cap * sz = xs.length * sz + (cap - xs.length) * sz := by rw [← Nat.add_mul]; congr 1; omega
  refine ⟨by simp only [List.length_append, hfl, g3]; omega, g2, h1, h2, fun k1 => ⟨.inr hm.2.2, flat_ones E ys, ?_⟩, fun k1 c' rest' T k2 k3 k4 => ?_⟩
  ·have hle : ys.length * sz ≤ (cap - xs.length) * sz := Nat.mul_le_mul_right _ (by omega)
   have := H2.own_put (cs' := (xs ++ ys).flatMap E.enc ++ rest.drop (ys.length * sz))
   have e : seg (xs.flatMap E.enc ++ rest) (0 + xs.length * sz) (ys.flatMap E.enc) = (xs ++ ys).flatMap E.enc ++ rest.drop (ys.length * sz) := by
    rw [Nat.zero_add, ← hfl, seg_end _ _ _ (by omega), List.flatMap_append, hfy]
   rw [e]
   refine hfin this k1 ?_
   rw [List.length_drop, g3, ← Nat.sub_mul]; congr 1; omega
  ·have e : (((xs.flatMap E.enc ++ rest).drop 0).take (xs.length * sz) ++ ys.flatMap E.enc ++ rest') = (xs ++ ys).flatMap E.enc ++ rest' := by
    rw [List.drop_zero, ← hfl, List.take_left, List.flatMap_append]
   rw [e]
   exact hfin (H2.drop.drew.alloc _ T) k2 k4
theorem G.append1 {val : Value} {cs : List Value} {a : α} [s : SelSl L v E xs C] [c : Cells val cs] [d : DecIs E cs a] (hz : zero.length = E.sz) (hs : E.sz = sz) (hs2 : E.sz ≤ 16777216) (h1 : (xs.length + 1) * bytes ≤ 140737488355328) (h2 : xs.length + 1 ≤ maxLen)
  (h : ∀ u, Cells u [u] → G w0 (C (sl E u (xs ++ [a]))) (K u)) : G w0 L (buildSliceW zero 1 [(0, sz, val)] (fun y w => appendW sz bytes v y K w)) := by
 have he : E.enc a = cs := E.dec_ok _ _ d.eq
 have hl := E.len a
 subst hs
 refine G.build E [a] rfl (by omega) ?_ fun y _ => ?_
 ·have hsz : val.cells.size = E.sz := by rw [← hl, he, ← c.eq]; simp
  simp only [buildL, hsz, repl, List.replicate_one, List.flatten_singleton, hz, Nat.zero_add, Nat.le_refl, and_self, if_true, List.flatMap_cons, List.flatMap_nil, List.append_nil, he, c.eq]
  rw [seg_eq _ _ _ (by rw [← he, hl, hz]; omega)]
  have : zero.drop cs.length = [] := List.drop_eq_nil_of_le (by rw [hz, ← he, hl]; exact Nat.le_refl _)
  simp [this]
 ·refine G.append (ys := [a]) (C := fun A => S.sl E y [a] :: C A) h1 h2 fun u hu => (h u hu).drop
theorem G.take {m : Nat} [s : SelSl L v E xs C] (hm : m ≤ xs.length) (h : ∀ u, Cells u [u] → G w0 (C (sl E u (xs.take m))) (K u)) : G w0 L (sliceW sz v none (some (i64 m)) K) := fun w H => by
 obtain ⟨M, e1, e2⟩ := sl_front (w0 := w0) s.sel
 rcases ((e1 w).1 H).sl_cases with ⟨rfl, rfl, H2⟩ | ⟨c, cap, rest, rfl, g2, g3, H2⟩
 ·simp at hm; subst hm
  have := h _ cells_slice _ ((e2 _ _).2 H2.sl_nil)
  simpa [sliceW, bound] using this
 ·have hk : xs.flatMap E.enc = (xs.take m).flatMap E.enc ++ (xs.drop m).flatMap E.enc := by rw [← List.flatMap_append, List.take_append_drop]
  have H3 := H2
  rw [hk, List.append_assoc] at H3
  have := H3.sl_mk (E := E) (xs := xs.take m) (cap := cap) (by simp; omega) (by
   simp only [List.length_append, flat_length, g3, List.length_drop, List.length_take]
   rw [← Nat.add_mul]; congr 1; omega)
  have h2 := h _ cells_slice _ ((e2 _ _).2 this)
  have e : (xs.take m).length = m := by simp; omega
  rw [e] at h2
  simp only [sliceW, bound, Int.le_refl, true_and]
  refine ⟨by omega, by omega, ?_⟩
  have : (if cap = 0 then some (⟨c, 0, none⟩ : Addr) else some (⟨c, 0, none⟩ : Addr)) = some ⟨c, 0, none⟩ := by split <;> rfl
  have hmc : m ≤ cap := by omega
  simpa [add_none, hmc] using h2
end
theorem an {a b : Prop} (x : a) (y : b) : a ∧ b := ⟨x, y⟩
theorem gg {A B : Prop} (h : B) (f : B → A := by intro h; repeat' (first | (with_reducible refine G.joini0 ?_) | (with_reducible refine G.joini1 ?_) | (with_reducible refine G.drew ?_) | (simp (maxSteps := 2000000) only [↓RG, RP, RB, BEq.rfl, Int.reduceEq, Int.reduceLT, Int.reduceLE, Nat.reduceEqDiff])); exact h) : A := f h
theorem gf {P A B : Prop} (p : P) (h : B) (f : P → B → A := by intro p h; repeat' (first | (with_reducible refine G.joini0 ?_) | (with_reducible refine G.joini1 ?_) | (with_reducible refine G.drew ?_) | (simp (maxSteps := 2000000) only [↓RG, RP, RB, BEq.rfl, Int.reduceEq, Int.reduceLT, Int.reduceLE, Nat.reduceEqDiff, p])); exact h) : A := f p h
theorem gr {A B : Prop} (h : B) (f : B → A := by intro h; (try simp (maxSteps := 2000000) only [↓RG, RP, RB, BEq.rfl, Int.reduceEq, Int.reduceLT, Int.reduceLE, Nat.reduceEqDiff]); exact h) : A := f h
theorem grf {P A B : Prop} (p : P) (h : B) (f : P → B → A := by intro p h; (try simp (maxSteps := 2000000) only [↓RG, RP, RB, BEq.rfl, Int.reduceEq, Int.reduceLT, Int.reduceLE, Nat.reduceEqDiff, p]); exact h) : A := f p h
end Go.Proofs.YtoealglbimbbmaaGreatDoor.S
