import Derived.Test.YtoealglbimbbmaaGreatDoorSEq
import Derived.IntWalk
import Derived.RangeFuncWrites
namespace Go.Proofs.YtoealglbimbbmaaGreatDoor.S
open Go Go.Proofs
set_option linter.unusedVariables false
theorem RB : (∀ p : Prop, (True ∧ p) = p) ∧ (∀ p : Prop, (p ∧ True) = p) ∧ (∀ b : Bool, (b == true) = b) ∧ (∀ b : Bool, (b == false) = !b) ∧ (∀ b : Bool, (true == b) = b) ∧ (∀ b : Bool, (false == b) = !b) ∧ (∀ {_ : Decidable True}, decide True = true) ∧ (∀ {_ : Decidable False}, decide False = false) ∧ ((!true) = false) ∧ ((!false) = true) ∧ (∀ b : Bool, (b && true) = b) ∧ (∀ b : Bool, (true && b) = b) ∧ (∀ b : Bool, (b && false) = false) ∧ (∀ b : Bool, (false && b) = false) ∧ (∀ b : Bool, (b || true) = true) ∧ (∀ b : Bool, (true || b) = true) ∧ (∀ b : Bool, (b || false) = b) ∧ (∀ b : Bool, (false || b) = b) ∧ (∀ b : Bool, (!!b) = b) := by
 refine ⟨by simp, by simp, by simp, by simp, by simp, by simp, by simp, by simp, rfl, rfl, ?_, ?_, ?_, ?_, ?_, ?_, ?_, ?_, ?_⟩
 all_goals (intro b; cases b <;> rfl)
def drewW (F : World → Prop) : World → Prop := fun w => F w.drew
def andP (A B : World → Prop) : World → Prop := fun w => A w ∧ B w
def trueP : World → Prop := fun _ => True
def eqP (a b : Value) : World → Prop := fun _ => a = b
def boxW (v : Value) (K : KV) : World → Prop := newW v.cells K
def condP (c : Value) (A B : World → Prop) : World → Prop := fun w => condW c (A w) (B w)
def blockW (v : Value) (want : Bool) (A : KV → World → Prop) (e : Value) (K : KV) : World → Prop := fun w =>
 match v with
 | .bool b => (b = want → A K w) ∧ (b ≠ want → K e w)
 | _ => False
def loopW0 (body : (World → Prop) → World → Prop) : World → Prop := fun w =>
 ∃ (I : List Value → World → Prop) (m : List Value → World → Nat), I [] w ∧ ∀ w1, I [] w1 → body (fun w' => I [] w' ∧ m [] w' < m [] w1) w1
def loopW1 (a : Value) (body : (Value → World → Prop) → Value → World → Prop) : World → Prop := fun w =>
 ∃ (I : List Value → World → Prop) (m : List Value → World → Nat), I [a] w ∧ ∀ x w1, I [x] w1 → body (fun x' w' => I [x'] w' ∧ m [x'] w' < m [x] w1) x w1
def loopW2 (a b : Value) (body : (Value → Value → World → Prop) → Value → Value → World → Prop) : World → Prop := fun w =>
 ∃ (I : List Value → World → Prop) (m : List Value → World → Nat), I [a, b] w ∧ ∀ x y w1, I [x, y] w1 → body (fun x' y' w' => I [x', y'] w' ∧ m [x', y'] w' < m [x, y] w1) x y w1
def loopW3 (a b c : Value) (body : (Value → Value → Value → World → Prop) → Value → Value → Value → World → Prop) : World → Prop := fun w =>
 ∃ (I : List Value → World → Prop) (m : List Value → World → Nat), I [a, b, c] w ∧ ∀ x y z w1, I [x, y, z] w1 → body (fun x' y' z' w' => I [x', y', z'] w' ∧ m [x', y', z'] w' < m [x, y, z] w1) x y z w1
def loopW4 (a b c d : Value) (body : (Value → Value → Value → Value → World → Prop) → Value → Value → Value → Value → World → Prop) : World → Prop := fun w =>
 ∃ (I : List Value → World → Prop) (m : List Value → World → Nat), I [a, b, c, d] w ∧ ∀ x y z u w1, I [x, y, z, u] w1 → body (fun x' y' z' u' w' => I [x', y', z', u'] w' ∧ m [x', y', z', u'] w' < m [x, y, z, u] w1) x y z u w1
abbrev Hl := Nat → Option (List Value)
abbrev Asn := Hl → Prop
def Join (h1 h2 h : Hl) : Prop := ∀ b, (h1 b = none ∧ h b = h2 b) ∨ (h2 b = none ∧ h b = h1 b)
def emp : Asn := fun h => ∀ b, h b = none
def star (A B : Asn) : Asn := fun h => ∃ h1 h2, A h1 ∧ B h2 ∧ Join h1 h2 h
def exA {α : Type} (f : α → Asn) : Asn := fun h => ∃ x, f x h
def pureA (p : Prop) : Asn := fun h => p ∧ emp h
def stars : List Asn → Asn
 | [] => emp
 | A :: L => star A (stars L)
@[irreducible] def ob {κ σ : Type} (R : κ → σ → Asn) (k : κ) (s : σ) : Asn := R k s
theorem ob_eq {κ σ : Type} (R : κ → σ → Asn) (k : κ) (s : σ) : ob R k s = R k s := by unfold ob; rfl
def ownR (b : Nat) (cs : List Value) : Asn := fun h => ∀ b', h b' = if b' = b then some cs else none
abbrev own (b : Nat) (cs : List Value) : Asn := ob ownR b cs
theorem Join.comm {a b c : Hl} (h : Join a b c) : Join b a c := fun x => (h x).symm
theorem star_comm (A B : Asn) : star A B = star B A := by
 funext h
 exact propext ⟨fun ⟨a, b, h1, h2, j⟩ => ⟨b, a, h2, h1, j.comm⟩, fun ⟨a, b, h1, h2, j⟩ => ⟨b, a, h2, h1, j.comm⟩⟩
def un (a b : Hl) : Hl := fun x => match a x with | some v => some v | none => b x
theorem star_left {A B C : Asn} {h : Hl} (H : star A (star B C) h) : star B (star A C) h := by
 obtain ⟨a, bc, ha, ⟨b, c, hb, hc, j2⟩, j1⟩ := H
 refine ⟨b, un a c, hb, ⟨a, c, ha, hc, fun x => ?_⟩, fun x => ?_⟩
 ·cases hx : a x with
  | none => exact .inl ⟨rfl, by simp [un, hx]⟩
  | some v =>
   rcases j1 x with ⟨g, _⟩ | ⟨g, _⟩
   ·rw [hx] at g; cases g
   ·rcases j2 x with ⟨k, e⟩ | ⟨k, e⟩
    ·exact .inr ⟨by rw [← e, g], by simp [un, hx]⟩
    ·exact .inr ⟨k, by simp [un, hx]⟩
 ·rcases j1 x with ⟨g, e⟩ | ⟨g, e⟩
  ·rcases j2 x with ⟨k, e'⟩ | ⟨k, e'⟩
   ·exact .inl ⟨k, by simp [un, g, e, e']⟩
   ·exact .inr ⟨by simp [un, g, k], by rw [e, e']⟩
  ·rcases j2 x with ⟨k, e'⟩ | ⟨k, e'⟩
   ·refine .inl ⟨k, ?_⟩
    rw [e]
    cases hx : a x with
    | none => simp [un, hx, ← e', g]
    | some v => simp [un, hx]
   ·refine .inl ⟨by rw [← e', g], ?_⟩
    rw [e]
    cases hx : a x with
    | none => simp [un, hx, k]
    | some v => simp [un, hx]
theorem star_lc (A B C : Asn) : star A (star B C) = star B (star A C) := by
 funext h; exact propext ⟨star_left, star_left⟩
theorem star_as (A B C : Asn) : star (star A B) C = star A (star B C) := by
 rw [star_comm, star_lc, star_comm C B]
theorem star_emp (A : Asn) : star emp A = A := by
 funext h
 refine propext ⟨fun ⟨a, b, h1, h2, j⟩ => ?_, fun H => ⟨fun _ => none, h, fun _ => rfl, H, fun x => .inl ⟨rfl, rfl⟩⟩⟩
 have : h = b := by
  funext x
  rcases j x with ⟨_, e⟩ | ⟨g, e⟩
  ·exact e
  ·rw [e, h1 x, g]
 rw [this]; exact h2
structure Base where
 w : World
 keep : Nat → Option Obj
 min : Nat
abbrev Base.of (w : World) : Base := ⟨w, fun _ => none, 0⟩
def Base.with (w0 : Base) (k : Nat → Option Obj) (m : Nat) : Base := ⟨w0.w, fun b => match w0.keep b with | some o => some o | none => k b, max w0.min m⟩
structure Hd (w0 : Base) (h : Hl) (w : World) : Prop where
 step : Step [] w0.w w
 cell : ∀ b cs, h b = some cs → w0.w.heap.size ≤ b ∧ mem w b = some cs ∧ opn w b = true
 kept : ∀ b o, w0.keep b = some o → w.heap[b]? = some o ∧ o.isCells = false
 min : w0.min ≤ w.heap.size
def St (w0 : Base) (L : List Asn) (w : World) : Prop := ∃ h, stars L h ∧ Hd w0 h w
def G (w0 : Base) (L : List Asn) (F : World → Prop) : Prop := ∀ w, St w0 L w → F w
theorem Hd.sub {w0 : Base} {h h' : Hl} {w : World} (H : Hd w0 h w) (hs : ∀ b cs, h' b = some cs → h b = some cs) : Hd w0 h' w := ⟨H.step, fun b cs hb => H.cell b cs (hs b cs hb), H.kept, H.min⟩
theorem Join.left {a b c : Hl} (j : Join a b c) : ∀ x cs, a x = some cs → c x = some cs := fun x cs hx => by
 rcases j x with ⟨g, _⟩ | ⟨_, e⟩
 ·rw [hx] at g; cases g
 ·rw [e, hx]
theorem Join.right {a b c : Hl} (j : Join a b c) : ∀ x cs, b x = some cs → c x = some cs := j.comm.left
theorem St.drop {w0 : Base} {A : Asn} {L : List Asn} {w : World} (H : St w0 (A :: L) w) : St w0 L w := by
 obtain ⟨h, ⟨a, b, _, hb, j⟩, hd⟩ := H
 exact ⟨b, hb, hd.sub j.right⟩
theorem St.nil {w0 : Base} {L : List Asn} {w : World} (H : St w0 L w) : St w0 [] w := by
 obtain ⟨h, _, hd⟩ := H
 exact ⟨fun _ => none, fun _ => rfl, hd.sub (fun b cs hb => by cases hb)⟩
class Sub (L' L : List Asn) : Prop where
 sub : ∀ h, stars L h → ∃ h', stars L' h' ∧ ∀ b cs, h' b = some cs → h b = some cs
class Pick (L : List Asn) (A : Asn) (M : outParam (List Asn)) : Prop where
 eq : stars L = stars (A :: M)
instance Pick.hd {A : Asn} {L : List Asn} : Pick (A :: L) A L := ⟨rfl⟩
instance (priority := 500) Pick.tl {A B : Asn} {L M : List Asn} [p : Pick L A M] : Pick (B :: L) A (B :: M) := ⟨by
 show star B (stars L) = star A (star B (stars M)); rw [p.eq, star_lc]; rfl⟩
instance (priority := 900) Sub.refl {L : List Asn} : Sub L L := ⟨fun h H => ⟨h, H, fun _ _ e => e⟩⟩
instance Sub.nil {L : List Asn} : Sub [] L := ⟨fun h _ => ⟨fun _ => none, fun _ => rfl, fun b cs e => by cases e⟩⟩
instance (priority := 800) Sub.pick {A : Asn} {L' L M : List Asn} [p : Pick L A M] [s : Sub L' M] : Sub (A :: L') L := ⟨fun h H => by
 rw [p.eq] at H
 obtain ⟨a, b, ha, hb, j⟩ := H
 obtain ⟨b', h1, h2⟩ := s.sub b hb
 refine ⟨un a b', ⟨a, b', ha, h1, fun x => ?_⟩, fun x cs hx => ?_⟩
 ·cases hx : a x with
  | none => exact .inl ⟨rfl, by simp [un, hx]⟩
  | some v =>
   refine .inr ⟨?_, by simp [un, hx]⟩
   rcases j x with ⟨g, _⟩ | ⟨g, _⟩
   ·rw [hx] at g; cases g
   ·cases hb2 : b' x with
    | none => rfl
    | some cs => rw [h2 x cs hb2] at g; cases g
 ·cases hx2 : a x with
  | none => simp only [un, hx2] at hx; exact j.right x cs (h2 x cs hx)
  | some v => simp only [un, hx2] at hx; cases hx; exact j.left x _ hx2⟩
instance (priority := 400) Sub.skip {A : Asn} {L' L : List Asn} [s : Sub L' L] : Sub L' (A :: L) := ⟨fun h ⟨a, b, ha, hb, j⟩ => by
 obtain ⟨h', h1, h2⟩ := s.sub b hb
 exact ⟨h', h1, fun x cs e => j.right x cs (h2 x cs e)⟩⟩
theorem St.sub {w0 : Base} {L L' : List Asn} {w : World} [s : Sub L' L] (H : St w0 L w) : St w0 L' w := by
 obtain ⟨h, h1, h2⟩ := H
 obtain ⟨h', g1, g2⟩ := s.sub h h1
 exact ⟨h', g1, h2.sub g2⟩
section
variable {w0 : Base} {L : List Asn} {F : World → Prop}
theorem G.sub {L' : List Asn} [Sub L' L] (h : G w0 L' F) : G w0 L F := fun w H => h w H.sub
theorem G.drop {A : Asn} (h : G w0 L F) : G w0 (A :: L) F := fun w H => h w H.drop
theorem G_of_stars {L' : List Asn} (e : stars L = stars L') : G w0 L F = G w0 L' F := by unfold G St; rw [e]
theorem G_star {A B : Asn} : G w0 (star A B :: L) F = G w0 (A :: B :: L) F := G_of_stars (star_as _ _ _)
theorem G_emp : G w0 (emp :: L) F = G w0 L F := G_of_stars (star_emp _)
theorem G_swap {A B : Asn} : G w0 (A :: B :: L) F = G w0 (B :: A :: L) F := G_of_stars (star_lc _ _ _)
theorem G_rot3 {A B C : Asn} : G w0 (A :: B :: C :: L) F = G w0 (C :: A :: B :: L) F := G_of_stars (by show star A (star B (star C (stars L))) = star C (star A (star B (stars L))); rw [star_lc B C, star_lc A C])
theorem G_rot4 {A B C D : Asn} : G w0 (A :: B :: C :: D :: L) F = G w0 (D :: A :: B :: C :: L) F := G_of_stars (by show star A (star B (star C (star D (stars L)))) = star D (star A (star B (star C (stars L)))); rw [star_lc C D, star_lc B D, star_lc A D])
theorem G_ex {α : Type} {f : α → Asn} : G w0 (exA f :: L) F = ∀ x, G w0 (f x :: L) F := by
 apply propext
 constructor
 ·intro H x w ⟨h, ⟨a, b, ha, hb, j⟩, hd⟩
  exact H w ⟨h, ⟨a, b, ⟨x, ha⟩, hb, j⟩, hd⟩
 ·intro H w ⟨h, ⟨a, b, ⟨x, ha⟩, hb, j⟩, hd⟩
  exact H x w ⟨h, ⟨a, b, ha, hb, j⟩, hd⟩
theorem G_pure {p : Prop} : G w0 (pureA p :: L) F = (p → G w0 L F) := by
 apply propext
 constructor
 ·intro H hp w ⟨h, hs, hd⟩
  refine H w ⟨h, ?_, hd⟩
  have : star emp (stars L) h := by rw [star_emp]; exact hs
  obtain ⟨a, b, h1, h2, j⟩ := this
  exact ⟨a, b, ⟨hp, h1⟩, h2, j⟩
 ·intro H w ⟨h, ⟨a, b, ⟨hp, ha⟩, hb, j⟩, hd⟩
  exact H hp w ⟨b, hb, hd.sub j.right⟩
class SelOb {κ σ : Type} (L : List Asn) (R : κ → σ → Asn) (k : κ) (s : outParam σ) (C : outParam (Asn → List Asn)) : Prop where
 here : L = C (ob R k s)
 front : ∃ M, ∀ A, stars (C A) = stars (A :: M)
instance SelOb.hd {κ σ : Type} {R : κ → σ → Asn} {k : κ} {s : σ} {L : List Asn} : SelOb (ob R k s :: L) R k s (fun a => a :: L) := ⟨rfl, L, fun _ => rfl⟩
instance (priority := 500) SelOb.tl {κ σ : Type} {R : κ → σ → Asn} {k : κ} {s : σ} {L : List Asn} {C : Asn → List Asn} {X : Asn} [i : SelOb L R k s C] : SelOb (X :: L) R k s (fun a => X :: C a) :=
 ⟨congrArg (X :: ·) i.here, by
  obtain ⟨M, hM⟩ := i.front
  exact ⟨X :: M, fun A => by show star X (stars (C A)) = star A (star X (stars M)); rw [hM A, star_lc]; rfl⟩⟩
theorem SelOb.fronts {κ σ : Type} {R : κ → σ → Asn} {k : κ} {s : σ} {C : Asn → List Asn} (i : SelOb L R k s C) :
  ∃ M, stars L = stars (ob R k s :: M) ∧ (∀ A, stars (C A) = stars (A :: M)) ∧ (∀ B A, stars (B :: C A) = stars (B :: A :: M)) ∧ (∀ D B A, stars (D :: B :: C A) = stars (D :: B :: A :: M)) := by
 obtain ⟨M, hM⟩ := i.front
 refine ⟨M, by rw [i.here, hM], hM, fun B A => ?_, fun D B A => ?_⟩
 ·show star B (stars (C A)) = star B (stars (A :: M)); rw [hM]
 ·show star D (star B (stars (C A))) = star D (star B (stars (A :: M))); rw [hM]
theorem SelOb.use {κ σ : Type} {R : κ → σ → Asn} {k : κ} {s : σ} {C : Asn → List Asn} [i : SelOb L R k s C] {A' : Asn} {F' : World → Prop} (h : ∀ M, G w0 (A' :: M) F' → G w0 (ob R k s :: M) F) (h' : G w0 (C A') F') : G w0 L F := by
 obtain ⟨M, e1, e2, _⟩ := i.fronts
 rw [G_of_stars e1]; exact h M (by rw [← G_of_stars (e2 A')]; exact h')
theorem SelOb.useM {κ σ : Type} {R : κ → σ → Asn} {k : κ} {s : σ} {C : Asn → List Asn} [i : SelOb L R k s C] {A' : Asn} {F' : World → Prop} (h : ∀ M, (∀ A, stars (C A) = stars (A :: M)) → G w0 (A' :: M) F' → G w0 (ob R k s :: M) F) (h' : G w0 (C A') F') : G w0 L F := by
 obtain ⟨M, e1, e2, _⟩ := i.fronts
 rw [G_of_stars e1]; exact h M e2 (by rw [← G_of_stars (e2 A')]; exact h')
theorem SelOb.ro {κ σ : Type} {R : κ → σ → Asn} {k : κ} {s : σ} {C : Asn → List Asn} [i : SelOb L R k s C] {F' : World → Prop} (h : ∀ M, G w0 (ob R k s :: M) F' → G w0 (ob R k s :: M) F) (h' : G w0 L F') : G w0 L F :=
 SelOb.use (k := k) (s := s) (R := R) (C := C) (A' := ob R k s) h (by rw [← i.here]; exact h')
theorem SelOb.roN {κ σ ι : Type} {R : κ → σ → Asn} {k : κ} {s : σ} {C : Asn → List Asn} [i : SelOb L R k s C] {P : ι → Prop} {N : ι → Asn} {F' : ι → World → Prop} (h : ∀ M, (∀ y, P y → G w0 (N y :: ob R k s :: M) (F' y)) → G w0 (ob R k s :: M) F)
  (h' : ∀ y, P y → G w0 (N y :: L) (F' y)) : G w0 L F := by
 obtain ⟨M, e1, _, e2, _⟩ := i.fronts
 rw [G_of_stars e1]
 refine h M fun y hy => ?_
 rw [← G_of_stars (e2 (N y) _), ← i.here]; exact h' y hy
theorem SelOb.useA {κ σ ι : Type} {R : κ → σ → Asn} {k : κ} {s : σ} {C : Asn → List Asn} [i : SelOb L R k s C] {A' : ι → Asn} {F' : ι → World → Prop} (h : ∀ M, (∀ y, G w0 (A' y :: M) (F' y)) → G w0 (ob R k s :: M) F)
  (h' : ∀ y, G w0 (C (A' y)) (F' y)) : G w0 L F := by
 obtain ⟨M, e1, e2, _⟩ := i.fronts
 rw [G_of_stars e1]; exact h M (fun y => by rw [← G_of_stars (e2 (A' y))]; exact h' y)
theorem G.front {κ σ : Type} {R : κ → σ → Asn} {k : κ} {s : σ} {C : Asn → List Asn} [i : SelOb L R k s C] (h : ∀ M, (∀ A, stars (C A) = stars (A :: M)) → G w0 (ob R k s :: M) F) : G w0 L F := by
 obtain ⟨M, e1, e2, _⟩ := i.fronts
 rw [G_of_stars e1]; exact h M e2
class TakeOb {κ σ : Type} (L : List Asn) (R : κ → σ → Asn) (k : κ) (s : outParam σ) (M : outParam (List Asn)) : Prop where
 eq : stars L = stars (ob R k s :: M)
instance TakeOb.hd {κ σ : Type} {R : κ → σ → Asn} {k : κ} {s : σ} {L : List Asn} : TakeOb (ob R k s :: L) R k s L := ⟨rfl⟩
instance (priority := 500) TakeOb.tl {κ σ : Type} {R : κ → σ → Asn} {k : κ} {s : σ} {L M : List Asn} {X : Asn} [t : TakeOb L R k s M] : TakeOb (X :: L) R k s (X :: M) := ⟨by
 show star X (stars L) = star (ob R k s) (star X (stars M)); rw [t.eq, star_lc]; rfl⟩
theorem G.take1 {κ σ : Type} (R : κ → σ → Asn) (k : κ) {s : σ} {M : List Asn} [t : TakeOb L R k s M] (h : G w0 (ob R k s :: M) F) : G w0 L F := by rw [G_of_stars t.eq]; exact h
theorem St.own_mem {b : Nat} {cs : List Value} {w : World} (H : St w0 (own b cs :: L) w) : w0.w.heap.size ≤ b ∧ mem w b = some cs ∧ opn w b = true := by
 obtain ⟨h, ⟨a, c, ha, hc, j⟩, hd⟩ := H
 rw [show own b cs = ownR b cs from ob_eq _ _ _] at ha
 exact hd.cell b cs (j.left b cs (by rw [ha b, if_pos rfl]))
theorem St.own_put {b : Nat} {cs cs' : List Value} {w : World} (H : St w0 (own b cs :: L) w) : St w0 (own b cs' :: L) (put w b cs') := by
 have hm := H.own_mem
 obtain ⟨h, ⟨a, c, ha, hc, j⟩, hd⟩ := H
 rw [show own b cs = ownR b cs from ob_eq _ _ _] at ha
 have hcb : c b = none := by
  rcases j b with ⟨g, _⟩ | ⟨g, _⟩
  ·rw [ha b, if_pos rfl] at g; cases g
  ·exact g
 refine ⟨fun x => if x = b then some cs' else h x, ⟨fun x => if x = b then some cs' else none, c, ?_, hc, fun x => ?_⟩, ⟨hd.step.trans (Step.put w b cs') (by simp) (by simp [hm.1]), fun x ds hx => ?_, fun k o hk => ⟨by
  have hk2 := hd.kept k o hk
  simp only [S.put, Array.getElem?_modify]
  split
  ·rw [hk2.1]; cases o <;> first | rfl | (have := hk2.2; simp [Obj.isCells] at this)
  ·exact hk2.1, (hd.kept k o hk).2⟩, by simpa using hd.min⟩⟩
 ·rw [show own b cs' = ownR b cs' from ob_eq _ _ _]; exact fun _ => rfl
 ·by_cases hx : x = b
  ·subst hx; exact .inr ⟨hcb, by simp⟩
  ·refine .inl ⟨by simp [hx], ?_⟩
   simp only [if_neg hx]
   rcases j x with ⟨_, e⟩ | ⟨g, e⟩
   ·exact e
   ·rw [e, g, ha x, if_neg hx]
 ·by_cases hxb : x = b
  ·subst hxb
   simp only [if_true] at hx
   cases hx
   exact ⟨hm.1, by rw [mem_put, if_pos rfl, hm.2.1]; rfl, by rw [opn_put]; exact hm.2.2⟩
  ·simp only [if_neg hxb] at hx
   have := hd.cell x ds hx
   exact ⟨this.1, by rw [mem_put, if_neg hxb]; exact this.2.1, by rw [opn_put]; exact this.2.2⟩
theorem St.alloc {w : World} (H : St w0 L w) (cs : List Value) (T : TypeId) : St w0 (own w.heap.size cs :: L) (w.alloc (.cells cs.toArray T)) := by
 obtain ⟨h, hs, hd⟩ := H
 have hn : h w.heap.size = none := by
  cases e : h w.heap.size with
  | none => rfl
  | some cs => have := mem_lt (hd.cell _ _ e).2.1; omega
 have hz := hd.step.size
 refine ⟨fun x => if x = w.heap.size then some cs else h x, ⟨fun x => if x = w.heap.size then some cs else none, h, ?_, hs, fun x => ?_⟩, ⟨hd.step.trans (Step.alloc w _ T []) (by simp) (by simp), fun x ds hx => ?_, fun k o hk => ⟨by
  have hk2 := (hd.kept k o hk).1
  have hlt := (Array.getElem?_eq_some_iff.1 hk2).1
  show (w.heap.push _)[k]? = _
  rw [Array.getElem?_push, if_neg (by omega)]; exact hk2, (hd.kept k o hk).2⟩, by have := hd.min; simp; omega⟩⟩
 ·rw [show own w.heap.size cs = ownR w.heap.size cs from ob_eq _ _ _]; exact fun _ => rfl
 ·by_cases hx : x = w.heap.size
  ·subst hx; exact .inr ⟨hn, by simp⟩
  ·exact .inl ⟨by simp [hx], by simp [hx]⟩
 ·by_cases hxb : x = w.heap.size
  ·subst hxb
   simp only [if_true] at hx
   cases hx
   exact ⟨hz, by rw [mem_alloc, if_pos rfl], by rw [opn_alloc, if_pos rfl]⟩
  ·simp only [if_neg hxb] at hx
   have := hd.cell x ds hx
   exact ⟨this.1, by rw [mem_alloc, if_neg hxb]; exact this.2.1, by rw [opn_alloc, if_neg hxb]; exact this.2.2⟩
theorem St.drew {w : World} (H : St w0 L w) : St w0 L w.drew := by
 obtain ⟨h, hs, hd⟩ := H
 exact ⟨h, hs, hd.step.trans (Step.drew w []) (by simp) (by simp), fun b cs hb => hd.cell b cs hb, hd.kept, hd.min⟩
theorem St.step {w : World} (H : St w0 L w) : Step [] w0.w w := H.elim fun _ h => h.2.step
end
abbrev ptr (b : Nat) (i : Nat) : Value := .pointer (some ⟨b, i, none⟩)
abbrev i64 (n : Int) : Value := .int .i64 n
abbrev u64 (n : Int) : Value := .int .u64 n
class Nth {α : Type} (cs : List α) (j : Nat) (v : outParam α) : Prop where
 eq : cs[j]? = some v
instance Nth.z {α : Type} {a : α} {l : List α} : Nth (a :: l) 0 a := ⟨rfl⟩
instance Nth.s {α : Type} {a b : α} {l : List α} {n : Nat} [h : Nth l n a] : Nth (b :: l) (n + 1) a := ⟨by simpa using h.eq⟩
class Cells (v : Value) (cs : outParam (List Value)) : Prop where
 eq : v.cells.toList = cs
 ones : ∀ u ∈ cs, one u = true
instance {k : IntKind} {n : Int} : Cells (.int k n) [.int k n] := ⟨rfl, by simp [one]⟩
instance {b : Bool} : Cells (.bool b) [.bool b] := ⟨rfl, by simp [one]⟩
instance {a : Option Addr} : Cells (.pointer a) [.pointer a] := ⟨rfl, by simp [one]⟩
instance {t : TypeId} {v : Value} : Cells (.iface t v) [.iface t v] := ⟨rfl, by simp [one]⟩
instance : Cells .nilIface [.nilIface] := ⟨rfl, by simp [one]⟩
instance {s : ByteArray} : Cells (.string s) [.string s] := ⟨rfl, by simp [one]⟩
instance {a : Option Addr} {n c : Nat} : Cells (.slice a n c) [.slice a n c] := ⟨rfl, by simp [one]⟩
instance {f : Go.Fn} {a b : Array Value} : Cells (.func f a b) [.func f a b] := ⟨rfl, by simp [one]⟩
instance : Cells .nilFunc [.nilFunc] := ⟨rfl, by simp [one]⟩
class Ones (cs : List Value) : Prop where
 ones : ∀ u ∈ cs, one u = true
instance : Ones [] := ⟨by simp⟩
instance {k : IntKind} {n : Int} {l : List Value} [h : Ones l] : Ones (.int k n :: l) := ⟨by simpa [one] using h.ones⟩
instance {b : Bool} {l : List Value} [h : Ones l] : Ones (.bool b :: l) := ⟨by simpa [one] using h.ones⟩
instance {a : Option Addr} {l : List Value} [h : Ones l] : Ones (.pointer a :: l) := ⟨by simpa [one] using h.ones⟩
instance {a : Option Addr} {n c : Nat} {l : List Value} [h : Ones l] : Ones (.slice a n c :: l) := ⟨by simpa [one] using h.ones⟩
instance {f : Go.Fn} {a b : Array Value} {l : List Value} [h : Ones l] : Ones (.func f a b :: l) := ⟨by simpa [one] using h.ones⟩
instance {l : List Value} [h : Ones l] : Ones (.nilFunc :: l) := ⟨by simpa [one] using h.ones⟩
instance (priority := 500) {v : Value} {l : List Value} [h : Ones l] [hv : Cells v [v]] : Ones (v :: l) := ⟨by simpa using ⟨hv.ones v (by simp), h.ones⟩⟩
instance {cs : List Value} [h : Ones cs] : Cells (.agg cs.toArray) cs := ⟨rfl, h.ones⟩
class SegIs (cs : List Value) (j : Nat) (vs : List Value) (r : outParam (List Value)) : Prop where
 eq : seg cs j vs = r
 le : j + vs.length ≤ cs.length
instance SegIs.nil {cs : List Value} : SegIs cs 0 [] cs := ⟨rfl, by simp⟩
instance SegIs.z {c v : Value} {cs vs r : List Value} [h : SegIs cs 0 vs r] : SegIs (c :: cs) 0 (v :: vs) (v :: r) := ⟨by
 have h1 := h.eq
 have h2 := h.le
 rw [seg_eq _ _ _ (by simpa using h2)] at h1
 rw [seg_eq _ _ _ (by simpa using h2)]
 simpa using h1, by simpa using h.le⟩
instance SegIs.s {c : Value} {cs vs r : List Value} {j : Nat} [h : SegIs cs j vs r] : SegIs (c :: cs) (j + 1) vs (c :: r) := ⟨by
 have h1 := h.eq
 have h2 := h.le
 rw [seg_eq _ _ _ h2] at h1
 rw [seg_eq _ _ _ (by simp only [List.length_cons]; omega)]
 rw [show j + 1 + vs.length = (j + vs.length) + 1 by omega]
 simpa using h1, by have := h.le; simp only [List.length_cons]; omega⟩
class LenIs (vs : List Value) (n : Nat) : Prop where
 eq : vs.length = n
instance : LenIs [] 0 := ⟨rfl⟩
instance {v : Value} {vs : List Value} {n : Nat} [h : LenIs vs n] : LenIs (v :: vs) (n + 1) := ⟨by simp [h.eq]⟩
class PartIs (cs : List Value) (j n : Nat) (r : outParam (List Value)) : Prop where
 eq : (cs.drop j).take n = r
 le : j + n ≤ cs.length
instance PartIs.nil {cs : List Value} : PartIs cs 0 0 [] := ⟨by simp, by simp⟩
instance PartIs.z {c : Value} {cs r : List Value} {n : Nat} [h : PartIs cs 0 n r] : PartIs (c :: cs) 0 (n + 1) (c :: r) := ⟨by have := h.eq; simpa using this, by have := h.le; simp only [List.length_cons]; omega⟩
instance PartIs.s {c : Value} {cs r : List Value} {j n : Nat} [h : PartIs cs j n r] : PartIs (c :: cs) (j + 1) n r := ⟨by have := h.eq; simpa using this, by have := h.le; simp only [List.length_cons]; omega⟩
section
variable {w0 : Base} {L : List Asn} {K : KV} {b j n : Nat} {cs : List Value} {C : Asn → List Asn}
theorem own_front [i : SelOb L ownR b cs C] : ∃ M, (∀ w, St w0 L w ↔ St w0 (own b cs :: M) w) ∧ (∀ A w, St w0 (C A) w ↔ St w0 (A :: M) w) := by
 obtain ⟨M, e1, e2, _⟩ := i.fronts
 exact ⟨M, fun w => by unfold St; rw [e1], fun A w => by unfold St; rw [e2]⟩
theorem G_load [i : SelOb L ownR b cs C] {v : Value} [hv : Nth cs j v] : G w0 L (load1W (ptr b j) K) = G w0 L (K v) := by
 obtain ⟨M, e1, _⟩ := own_front (w0 := w0) (i := i)
 have : ∀ w, St w0 L w → (load1W (ptr b j) K w ↔ K v w) := fun w H => by
  have := ((e1 w).1 H).own_mem
  simp [load1W, this.2.1, hv.eq, onSome]
 exact propext ⟨fun h w H => (this w H).1 (h w H), fun h w H => (this w H).2 (h w H)⟩
theorem G_loadN [i : SelOb L ownR b cs C] {r : List Value} [hv : PartIs cs j n r] : G w0 L (loadNW n (ptr b j) K) = G w0 L (K (.agg r.toArray)) := by
 obtain ⟨M, e1, _⟩ := own_front (w0 := w0) (i := i)
 have : ∀ w, St w0 L w → (loadNW n (ptr b j) K w ↔ K (.agg r.toArray) w) := fun w H => by
  have := ((e1 w).1 H).own_mem
  have hle := hv.le
  simp [loadNW, this.2.1, hv.eq, hle]
 exact propext ⟨fun h w H => (this w H).1 (h w H), fun h w H => (this w H).2 (h w H)⟩
theorem G_storeX [i : SelOb L ownR b cs C] {v : Value} {vs : List Value} [hv : Cells v vs] (hn : vs.length = n) (hle : j + n ≤ cs.length) : G w0 L (storeW n (ptr b j) v K) = G w0 (C (own b (seg cs j vs))) (K undef) := by
 obtain ⟨M, e1, e2⟩ := own_front (w0 := w0) (i := i)
 have hsz : v.cells.size = n := by rw [← hn, ← hv.eq]; simp
 have one : ∀ w, St w0 L w → (storeW n (ptr b j) v K w ↔ K undef (put w b (seg cs j vs))) := fun w H => by
  have hm := ((e1 w).1 H).own_mem
  simp only [storeW, hm.2.1, hm.2.2, hsz, hv.eq, true_and]
  exact ⟨fun h => h.2.2, fun h => ⟨hv.ones, hle, h⟩⟩
 apply propext
 constructor
 ·intro h w H
  have H1 := (e2 _ w).1 H
  have H2 := (e1 _).2 (H1.own_put (cs' := cs))
  have h3 := (one _ H2).1 (h _ H2)
  rw [put_put, put_same H1.own_mem.2.1] at h3
  exact h3
 ·intro h w H
  exact (one w H).2 (h _ ((e2 _ _).2 ((e1 w).1 H).own_put))
theorem G_store [i : SelOb L ownR b cs C] {v : Value} {vs r : List Value} [hv : Cells v vs] [hr : SegIs cs j vs r] [hl : LenIs vs n] : G w0 L (storeW n (ptr b j) v K) = G w0 (C (own b r)) (K undef) := by
 have hn := hl.eq
 rw [G_storeX hn (by rw [← hn]; exact hr.le), hr.eq]
theorem G.new (h : ∀ b, G w0 (own b cs :: L) (K (ptr b 0))) : G w0 L (newW cs.toArray K) := fun w H T => h _ _ (H.alloc cs T)
theorem G.box {v : Value} [hv : Cells v cs] (h : ∀ b, G w0 (own b cs :: L) (K (ptr b 0))) : G w0 L (boxW v K) := by
 intro w H T
 have : v.cells = cs.toArray := by rw [← hv.eq]
 rw [this]
 exact h _ _ (H.alloc cs T)
theorem G.drew {F : World → Prop} (h : G w0 L F) : G w0 L (drewW F) := fun w H => h _ H.drew
theorem G_and {A B : World → Prop} : G w0 L (andP A B) = (G w0 L A ∧ G w0 L B) := propext ⟨fun h => ⟨fun w H => (h w H).1, fun w H => (h w H).2⟩, fun h w H => ⟨h.1 w H, h.2 w H⟩⟩
theorem G_true : G w0 L trueP = True := eq_true fun _ _ => trivial
theorem G_eqv {v : Value} : G w0 L (eqP v v) = True := eq_true fun _ _ => rfl
theorem G.andP {A B : World → Prop} (h1 : G w0 L A) (h2 : G w0 L B) : G w0 L (andP A B) := fun w H => ⟨h1 w H, h2 w H⟩
theorem andP_true {B : World → Prop} : S.andP trueP B = B := by funext w; simp [S.andP, trueP]
theorem G.cond {t : Bool} {A B : World → Prop} (h1 : t = true → G w0 L A) (h2 : t = false → G w0 L B) : G w0 L (condP (.bool t) A B) := fun w H => ⟨fun e => h1 e w H, fun e => h2 e w H⟩
theorem condP_t {A B : World → Prop} : condP (.bool true) A B = A := by funext w; simp [condP, condW]
theorem condP_f {A B : World → Prop} : condP (.bool false) A B = B := by funext w; simp [condP, condW]
theorem blockW_t {A : KV → World → Prop} {e : Value} {t : Bool} : blockW (.bool t) t A e K = A K := by funext w; simp [blockW]
theorem blockW_tf {A : KV → World → Prop} {e : Value} : blockW (.bool true) false A e K = K e := by funext w; simp [blockW]
theorem blockW_ft {A : KV → World → Prop} {e : Value} : blockW (.bool false) true A e K = K e := by funext w; simp [blockW]
theorem gW_t {A : KV → World → Prop} {t : Bool} : gW (.bool t) t A K = A K := by funext w; simp [gW, isB]
theorem gW_tf {A : KV → World → Prop} : gW (.bool true) false A K = K undef := by funext w; simp [gW, isB]
theorem gW_ft {A : KV → World → Prop} : gW (.bool false) true A K = K undef := by funext w; simp [gW, isB]
theorem gW_u {A : KV → World → Prop} {t : Bool} : gW undef t A K = K undef := by funext w; simp [gW, isB, undef]
theorem fuse_and {v x : Value} : pickW v x (.bool false) K = blockW v true (fun K => K x) (.bool false) K := by
 funext w; cases v <;> simp [pickW, blockW]; rename_i t; cases t <;> simp
theorem fuse_or {v x : Value} : pickW v (.bool true) x K = blockW v false (fun K => K x) (.bool true) K := by
 funext w; cases v <;> simp [pickW, blockW]; rename_i t; cases t <;> simp
theorem fuse_step {v e : Value} {t : Bool} {A : KV → World → Prop} {B : Value → KV → World → Prop} : gW v t A (fun y => blockW v t (B y) e K) = blockW v t (fun K => A (fun y => B y K)) e K := by
 cases v
 case bool s => cases s <;> cases t <;> simp only [gW_t, gW_tf, gW_ft, blockW_t, blockW_tf, blockW_ft]
 all_goals (funext w; simp [gW, isB, blockW])
theorem fuse_pair {v : Value} {t : Bool} {A : KV → World → Prop} {B : Value → KV → World → Prop} {R : Value → World → Prop} : gW v t A (fun y => gW v t (B y) R) = gW v t (fun K => A (fun y => B y K)) R := by
 cases v
 case bool s => cases s <;> cases t <;> simp only [gW_t, gW_tf, gW_ft]
 all_goals (funext w; simp [gW, isB])
theorem fuse_in {v e : Value} {t s : Bool} {A : KV → World → Prop} {B : Value → KV → World → Prop} {D : Value → Value → KV → World → Prop} :
  gW v t A (fun b => gW b s (B b) (fun c => blockW v t (D b c) e K)) = blockW v t (fun K => A (fun b => gW b s (B b) (fun c => D b c K))) e K := by
 cases v
 case bool u => cases u <;> cases t <;> simp only [gW_t, gW_tf, gW_ft, gW_u, blockW_t, blockW_tf, blockW_ft]
 all_goals (funext w; simp [gW, isB, blockW, undef])
theorem blockW_and {p q : Bool} : blockW (.bool p) true (fun K => K (.bool q)) (.bool false) K = K (.bool (p && q)) := by funext w; cases p <;> simp [blockW]
theorem blockW_or {p q : Bool} : blockW (.bool p) false (fun K => K (.bool q)) (.bool true) K = K (.bool (p || q)) := by funext w; cases p <;> simp [blockW]
theorem G.all {p : Bool} (q : Bool) {A : KV → World → Prop} (hA : p = true → ∀ K, G w0 L (K (.bool q)) → G w0 L (A K)) (h : G w0 L (K (.bool (p && q)))) : G w0 L (blockW (.bool p) true A (.bool false) K) := by
 cases p
 ·rw [blockW_ft]; simpa using h
 ·rw [blockW_t]; exact hA rfl K (by simpa using h)
theorem G.any {p : Bool} (q : Bool) {A : KV → World → Prop} (hA : p = false → ∀ K, G w0 L (K (.bool q)) → G w0 L (A K)) (h : G w0 L (K (.bool (p || q)))) : G w0 L (blockW (.bool p) false A (.bool true) K) := by
 cases p
 ·rw [blockW_t]; exact hA rfl K (by simpa using h)
 ·rw [blockW_tf]; simpa using h
end
theorem least {P : Nat → Prop} (h : ∃ n, P n) : ∃ n, P n ∧ ∀ m, m < n → ¬ P m := by
 obtain ⟨n, hn⟩ := h
 induction n using Nat.strongRecOn with
 | _ n ih =>
  by_cases hx : ∃ m, m < n ∧ P m
  ·obtain ⟨m, h1, h2⟩ := hx
   exact ih m h1 h2
  ·exact ⟨n, hn, fun m hm hp => hx ⟨m, hm, hp⟩⟩
theorem loop_core {σ : Type} (R : σ → List Value → World → Prop) (μ : σ → Nat) : ∃ m : List Value → World → Nat, ∀ vs w1, (∃ s, R s vs w1) → ∃ s, R s vs w1 ∧ ∀ vs' w' s', R s' vs' w' → μ s' < μ s → m vs' w' < m vs w1 := by
 classical
 refine ⟨fun vs w => if h : ∃ n s, R s vs w ∧ μ s = n then (least h).choose else 0, fun vs w1 hs => ?_⟩
 have h : ∃ n s, R s vs w1 ∧ μ s = n := hs.elim fun s h => ⟨_, s, h, rfl⟩
 obtain ⟨⟨s, h1, h2⟩, _⟩ := (least h).choose_spec
 refine ⟨s, h1, fun vs' w' s' h3 h4 => ?_⟩
 have h' : ∃ n s, R s vs' w' ∧ μ s = n := ⟨_, s', h3, rfl⟩
 simp only [dif_pos h, dif_pos h']
 have := (least h').choose_spec.2
 rcases Nat.lt_or_ge (μ s') (least h').choose with hl | hl
 ·exact absurd ⟨s', h3, rfl⟩ (this _ hl)
 ·omega
section
variable {w0 : Base} {L : List Asn}
theorem G.loop0 {σ : Type}  (Ls : σ → List Asn) (P : σ → Prop) (μ : σ → Nat) (s0 : σ) {body : (World → Prop) → World → Prop}  (hL : G w0 (Ls s0) = G w0 L) (hP : P s0)
  (hr : ∀ s, P s → ∀ J : World → Prop, (∀ s', P s' → μ s' < μ s → G w0 (Ls s') (J )) → G w0 (Ls s) (body J )) : G w0 L (loopW0  body) := by
 rw [← hL]
 intro w H
 obtain ⟨m, hm⟩ := loop_core (fun s vs w => P s ∧ vs = [] ∧ St w0 (Ls s) w) μ
 refine ⟨fun vs w => ∃ s, P s ∧ vs = [] ∧ St w0 (Ls s) w, m, ⟨s0, hP, rfl, H⟩, ?_⟩
 intro  w1 hI
 obtain ⟨s, ⟨h1, h2, h3⟩, hlt⟩ := hm _ _ hI
 clear h2
 exact hr s h1 _ (fun s' hp' hlt' w' H' => ⟨⟨s', hp', rfl, H'⟩, hlt _ _ s' ⟨hp', rfl, H'⟩ hlt'⟩) w1 h3
theorem G.loop1 {σ : Type} (v0 : σ → Value) (Ls : σ → List Asn) (P : σ → Prop) (μ : σ → Nat) (s0 : σ) {a0 : Value} {body : (Value → World → Prop) → Value → World → Prop} (h0 : a0 = v0 s0) (hL : G w0 (Ls s0) = G w0 L) (hP : P s0)
  (hr : ∀ s, P s → ∀ J : Value → World → Prop, (∀ s', P s' → μ s' < μ s → G w0 (Ls s') (J (v0 s'))) → G w0 (Ls s) (body J (v0 s))) : G w0 L (loopW1 a0 body) := by
 subst h0
 rw [← hL]
 intro w H
 obtain ⟨m, hm⟩ := loop_core (fun s vs w => P s ∧ vs = [v0 s] ∧ St w0 (Ls s) w) μ
 refine ⟨fun vs w => ∃ s, P s ∧ vs = [v0 s] ∧ St w0 (Ls s) w, m, ⟨s0, hP, rfl, H⟩, ?_⟩
 intro x0 w1 hI
 obtain ⟨s, ⟨h1, h2, h3⟩, hlt⟩ := hm _ _ hI
 simp only [List.cons.injEq, and_true] at h2
 subst h2
 exact hr s h1 _ (fun s' hp' hlt' w' H' => ⟨⟨s', hp', rfl, H'⟩, hlt _ _ s' ⟨hp', rfl, H'⟩ hlt'⟩) w1 h3
theorem G.loopc1 {σ : Type} (v0 : σ → Value) (P : σ → Prop) (μ : σ → Nat) (s0 : σ) {a0 : Value} {body : (Value → World → Prop) → Value → World → Prop} (h0 : a0 = v0 s0) (hP : P s0)
  (hr : ∀ s, P s → ∀ J : Value → World → Prop, (∀ s', P s' → μ s' < μ s → G w0 L (J (v0 s'))) → G w0 L (body J (v0 s))) : G w0 L (loopW1 a0 body) :=
 G.loop1 v0 (fun _ => L) P μ s0 h0 rfl hP hr
theorem G.loop2 {σ : Type} (v0 : σ → Value) (v1 : σ → Value) (Ls : σ → List Asn) (P : σ → Prop) (μ : σ → Nat) (s0 : σ) {a0 a1 : Value} {body : (Value → Value → World → Prop) → Value → Value → World → Prop} (h0 : a0 = v0 s0) (h1 : a1 = v1 s0) (hL : G w0 (Ls s0) = G w0 L) (hP : P s0)
  (hr : ∀ s, P s → ∀ J : Value → Value → World → Prop, (∀ s', P s' → μ s' < μ s → G w0 (Ls s') (J (v0 s') (v1 s'))) → G w0 (Ls s) (body J (v0 s) (v1 s))) : G w0 L (loopW2 a0 a1 body) := by
 subst h0 h1
 rw [← hL]
 intro w H
 obtain ⟨m, hm⟩ := loop_core (fun s vs w => P s ∧ vs = [v0 s, v1 s] ∧ St w0 (Ls s) w) μ
 refine ⟨fun vs w => ∃ s, P s ∧ vs = [v0 s, v1 s] ∧ St w0 (Ls s) w, m, ⟨s0, hP, rfl, H⟩, ?_⟩
 intro x0 x1 w1 hI
 obtain ⟨s, ⟨h1, h2, h3⟩, hlt⟩ := hm _ _ hI
 simp only [List.cons.injEq, and_true] at h2
 obtain ⟨rfl, rfl⟩ := h2
 exact hr s h1 _ (fun s' hp' hlt' w' H' => ⟨⟨s', hp', rfl, H'⟩, hlt _ _ s' ⟨hp', rfl, H'⟩ hlt'⟩) w1 h3
theorem G.joini0 {J : World → Prop} {B : (World → Prop) → World → Prop} (h : G w0 L (B J)) : G w0 L (joinW0 J B) := h
theorem G.join1 {σ : Type} (v0 : σ → Value) (Ls : σ → List Asn) (P : σ → Prop) {J : Value → World → Prop} {B : (Value → World → Prop) → World → Prop} (hJ : ∀ s, P s → G w0 (Ls s) (J (v0 s)))
  (h : ∀ J : Value → World → Prop, (∀ s, P s → G w0 (Ls s) (J (v0 s))) → G w0 L (B J)) : G w0 L (joinW1 J B) := h J hJ
theorem G.joini1 {J : Value → World → Prop} {B : (Value → World → Prop) → World → Prop} (h : G w0 L (B J)) : G w0 L (joinW1 J B) := h
theorem G.joini2 {J : Value → Value → World → Prop} {B : (Value → Value → World → Prop) → World → Prop} (h : G w0 L (B J)) : G w0 L (joinW2 J B) := h
end
end Go.Proofs.YtoealglbimbbmaaGreatDoor.S
