/-
  CHAPTER 9: contracts of the reference's levels.
-/
import Derived.Test.YtokbiojkpldfeaaGreatLevels
import Derived.Test.YtokbiojkpldfeaaGreatLevelsLaw
namespace Go.Proofs.YtokbiojkpldfeaaGreat.S
open Go Go.Proofs
set_option linter.unusedVariables false
set_option linter.unusedSimpArgs false

abbrev nilL : TLevel := ⟨⟨none, 0, 0⟩, ⟨none, 0, 0⟩⟩
/-- a level's two slices -/
def RLevR (k : TLevel) (r : Lv) : Asn := star (sl tCellE (.slice k.c.a k.c.n k.c.c) r.c) (sl intE (.slice k.f.a k.f.n k.f.c) r.f)
def RUpR (b : Nat) (l : List (TLevel × Lv)) : Asn := stars (l.map fun x => ob RLevR x.1 x.2)
abbrev rks (l : List (TLevel × Lv)) : List TLevel := l.map (·.1)
abbrev rlvs (l : List (TLevel × Lv)) : List Lv := l.map (·.2)
def RLevelsR (b : Nat) (s : LvS) : Asn := exA fun v => exA fun (l : List (TLevel × Lv)) => star (pureA (Cells v [v] ∧ OkL s ∧ rlvs l = s.up.reverse ++ [s.r])) (star (star (own b [i64 s.most, v]) (sl tLevelE v (rks l))) (ob RUpR b l))

section
variable {w0 : Base} {L M : List Asn} {K : KV} {F : World → Prop} {C : Asn → List Asn} {b d i : Nat} {k : TLevel} {a x n : Int} {r : Lv} {s : LvS} {l us : List (TLevel × Lv)} {v : Value}

theorem rks_append {l l' : List (TLevel × Lv)} : rks (l ++ l') = rks l ++ rks l' := List.map_append
theorem rlvs_append {l l' : List (TLevel × Lv)} : rlvs (l ++ l') = rlvs l ++ rlvs l' := List.map_append

theorem G.slv {α : Type} {E : Enc α} {u : Value} {sz : Nat} {xs : List α} [r : Rd w0 L u E sz xs] (h : ∀ a n c, u = .slice a n c → G w0 L F) : G w0 L F := fun w H => by
  obtain ⟨oa, cap, e, _⟩ := r.rd w H
  exact h _ _ _ e w H

theorem RLevR_open : G w0 (ob RLevR k r :: M) F = G w0 (sl tCellE (.slice k.c.a k.c.n k.c.c) r.c :: sl intE (.slice k.f.a k.f.n k.f.c) r.f :: M) F := by
  rw [ob_eq, RLevR, G_star]
theorem RLevR_close (k : TLevel) (r : Lv) [PickAll [sl tCellE (.slice k.c.a k.c.n k.c.c) r.c, sl intE (.slice k.f.a k.f.n k.f.c) r.f] L M] (H : G w0 (ob RLevR k r :: M) F) : G w0 L F :=
  G.pickAll (As := [sl tCellE (.slice k.c.a k.c.n k.c.c) r.c, sl intE (.slice k.f.a k.f.n k.f.c) r.f]) (by rw [RLevR_open] at H; exact H)
theorem RUpR_key (d : Nat) : ob RUpR b l = ob RUpR d l := by rw [ob_eq, ob_eq]; rfl
theorem RUpR_at {i : Nat} {k : TLevel} {r : Lv} (h : l[i]? = some (k, r)) : G w0 (ob RUpR b l :: M) F = G w0 (ob RLevR k r :: ob RUpR b (l.eraseIdx i) :: M) F := G_of_stars (by
  show star (ob RUpR b l) (stars M) = star (ob RLevR k r) (star (ob RUpR b (l.eraseIdx i)) (stars M))
  rw [ob_eq RUpR, ob_eq RUpR, RUpR, big_at _ h, ← star_as]; rfl)
theorem RUpR_snoc : G w0 (ob RUpR b (us ++ [(k, r)]) :: M) F = G w0 (ob RLevR k r :: ob RUpR b us :: M) F := by
  rw [RUpR_at (i := us.length) (k := k) (r := r) (by simp)]
  congr 3
  simp [List.eraseIdx_append_of_length_le]
theorem RUpR_push (b : Nat) (us : List (TLevel × Lv)) (k : TLevel) (r : Lv) [PickAll [ob RLevR k r, ob RUpR b us] L M] (H : G w0 (ob RUpR b (us ++ [(k, r)]) :: M) F) : G w0 L F :=
  G.pickAll (As := [ob RLevR k r, ob RUpR b us]) (by rw [RUpR_snoc] at H; exact H)
theorem RUpR_back {i : Nat} {k : TLevel} {r : Lv} (h : l[i]? = some (k, r)) [PickAll [ob RLevR k r, ob RUpR b (l.eraseIdx i)] L M] (H : G w0 (ob RUpR b l :: M) F) : G w0 L F :=
  G.pickAll (As := [ob RLevR k r, ob RUpR b (l.eraseIdx i)]) (by rw [RUpR_at h] at H; exact H)
theorem RUpR_none {As : List Asn} (H : G w0 (As ++ ob RUpR b [] :: M) F) : G w0 (As ++ M) F := by
  rw [G_of_stars (L' := As ++ M)] at H
  · exact H
  · rw [stars_append, stars_append]
    show star _ (star (ob RUpR b []) _) = _
    rw [ob_eq RUpR]
    show star _ (star emp _) = _
    rw [star_emp]

theorem RLevelsR_open : G w0 (ob RLevelsR b s :: M) F = ∀ v l, (Cells v [v] ∧ OkL s ∧ rlvs l = s.up.reverse ++ [s.r]) → G w0 (own b [i64 s.most, v] :: sl tLevelE v (rks l) :: ob RUpR b l :: M) F := by
  rw [ob_eq, RLevelsR]
  simp only [G_ex, G_star, G_pure]
theorem RLevelsR_in : G w0 (ob RLevelsR b s :: M) F = ∀ v k us, (Cells v [v] ∧ OkL s ∧ rlvs us = s.up.reverse) → G w0 (own b [i64 s.most, v] :: sl tLevelE v (rks us ++ [k]) :: ob RLevR k s.r :: ob RUpR b us :: M) F := by
  rw [RLevelsR_open]
  have e : ∀ v us k, G w0 (own b [i64 s.most, v] :: sl tLevelE v (rks (us ++ [(k, s.r)])) :: ob RUpR b (us ++ [(k, s.r)]) :: M) F = G w0 (own b [i64 s.most, v] :: sl tLevelE v (rks us ++ [k]) :: ob RLevR k s.r :: ob RUpR b us :: M) F := fun v us k => by
    rw [G_rot3, RUpR_snoc, rks_append]
    apply G_of_stars
    show star _ (star _ (star _ (star _ _))) = star _ (star _ (star _ (star _ _)))
    rw [star_lc (ob RUpR b us), star_lc (ob RUpR b us), star_lc (ob RLevR k s.r), star_lc (ob RLevR k s.r)]
    rfl
  apply propext
  constructor
  · rintro H v k us ⟨h1, h2, h3⟩
    rw [← e]
    exact H v (us ++ [(k, s.r)]) ⟨h1, h2, by rw [rlvs_append, h3]; rfl⟩
  · rintro H v l ⟨h1, h2, h3⟩
    obtain ⟨us, y, hl, h4, h5⟩ := List.map_eq_append_iff.1 h3
    obtain ⟨z, zs, rfl, h6, h7⟩ := List.map_eq_cons_iff.1 h5
    have : zs = [] := by simpa using h7
    subst this
    obtain ⟨k, q⟩ := z
    simp only at h6
    subst h6
    subst hl
    rw [e]
    exact H v k us ⟨h1, h2, h4⟩
theorem RLevelsR_close {v : Value} {xs : List TLevel} (b : Nat) (s : LvS) (us : List (TLevel × Lv)) (k : TLevel) [PickAll [own b [i64 s.most, v], sl tLevelE v xs, ob RLevR k s.r, ob RUpR b us] L M] (hx : xs = rks us ++ [k]) (h : Cells v [v] ∧ OkL s ∧ rlvs us = s.up.reverse) (H : G w0 (ob RLevelsR b s :: M) F) : G w0 L F :=
  G.pickAll (As := [own b [i64 s.most, v], sl tLevelE v xs, ob RLevR k s.r, ob RUpR b us]) (by rw [RLevelsR_in] at H; subst hx; exact H v k us h)

/-- what is always true of them -/
theorem G.okRL [i : SelOb L RLevelsR b s C] (h : OkL s → G w0 L F) : G w0 L F := by
  by_cases hw : OkL s
  · exact h hw
  · refine i.ro (F' := fun _ => True) (fun M _ => ?_) (fun _ _ => trivial)
    rw [RLevelsR_open]
    exact fun v l hv => absurd hv.2.1 hw

theorem rus_len {up : List Lv} (h : rlvs us = up.reverse) : us.length = up.length := by
  have := congrArg List.length h
  simpa using this
theorem rl_len (hl : rlvs l = s.up.reverse ++ [s.r]) : l.length = s.up.length + 1 := by
  have := congrArg List.length hl
  simpa using this
theorem OkL.rtotal (hs : OkL s) (hl : rlvs l = s.up.reverse ++ [s.r]) : totalC (rlvs l) = totalC (s.r :: s.up) := by
  rw [hl, totalC_append, totalC_reverse, totalC_cons, totalC_cons]; simp [totalC]; omega
theorem rat_k {i : Nat} (hk : i < l.length) : ∃ k, l[i]? = some (k, l[i].2) ∧ Elem (rks l) i k ∧ ∃ h : i < (rlvs l).length, (rlvs l)[i] = l[i].2 :=
  ⟨l[i].1, List.getElem?_eq_getElem hk, ⟨by simp [hk]⟩, by simpa using hk, by simp⟩
theorem rup_cons {q : Lv} {up : List Lv} (h : rlvs us = (q :: up).reverse) : ∃ us' k', us = us' ++ [(k', q)] ∧ rlvs us' = up.reverse := by
  rw [List.reverse_cons] at h
  obtain ⟨us', y, hl, h4, h5⟩ := List.map_eq_append_iff.1 h
  obtain ⟨z, zs, rfl, h6, h7⟩ := List.map_eq_cons_iff.1 h5
  have : zs = [] := by simpa using h7
  subst this
  obtain ⟨k, q'⟩ := z
  simp only at h6
  subst h6
  exact ⟨us', k, hl, h4⟩

theorem newRL {n : Int} {K' : KV} (hv : Cells v [v]) (hK : ∀ b, G w0 (ob RLevelsR b ⟨held n 0 96, ⟨[], []⟩, []⟩ :: L) (K' (ptr b 0))) : G w0 (sl tLevelE v [nilL] :: L) (boxW (.agg #[i64 (held n 0 96), v]) K') := by
  refine G.nilsl tCellE ?_
  refine G.nilsl intE ?_
  refine G.box (cs := [i64 (held n 0 96), v]) fun b => ?_
  refine RLevR_close nilL ⟨[], []⟩ ?_
  have h := hK b
  rw [RLevelsR_in] at h
  have h2 := h v nilL [] ⟨hv, OkL.new, rfl⟩
  have h3 := RUpR_none (b := b) (As := [own b [i64 (held n 0 96), v], sl tLevelE v [nilL], ob RLevR nilL ⟨[], []⟩]) h2
  simp only [List.cons_append, List.nil_append] at h3
  exact h3.sub

theorem s_ref7_NewLevels {n : Int} (hK : ∀ b, G w0 (ob RLevelsR b ⟨held n 0 96, ⟨[], []⟩, []⟩ :: L) (K (ptr b 0))) : G w0 L (CP Tryz.prog Fn.ref7_NewLevels [i64 n] K) := by
  refine C_ref7_NewLevels ?_
  unfold S_ref7_NewLevels
  refine G.drew (G.andP ?_ ?_)
  · refine s_ref1_Held ?_
    try simp (maxSteps := 2000000) only [↓RG, RP, RB, BEq.rfl, Int.reduceEq, Int.reduceLT, Int.reduceLE, Nat.reduceEqDiff]
    refine G.make (n := 1) tLevelE nilL rfl (by simp [maxLen]) (by omega) fun v hv => ?_
    repeat' (first | (with_reducible refine G.joini0 ?_) | (with_reducible refine G.joini1 ?_) | (with_reducible refine G.drew ?_) | (simp (maxSteps := 2000000) only [↓RG, RP, RB, BEq.rfl, Int.reduceEq, Int.reduceLT, Int.reduceLE, Nat.reduceEqDiff]))
    refine newRL hv fun b => ?_
    try simp (maxSteps := 2000000) only [↓RG, RP, RB, BEq.rfl, Int.reduceEq, Int.reduceLT, Int.reduceLE, Nat.reduceEqDiff]
    exact hK b
  · refine G.make (n := 1) tLevelE nilL rfl (by simp [maxLen]) (by omega) fun v hv => ?_
    repeat' (first | (with_reducible refine G.joini0 ?_) | (with_reducible refine G.joini1 ?_) | (with_reducible refine G.drew ?_) | (simp (maxSteps := 2000000) only [↓RG, RP, RB, BEq.rfl, Int.reduceEq, Int.reduceLT, Int.reduceLE, Nat.reduceEqDiff]))
    refine s_ref1_Held ?_
    repeat' (first | (with_reducible refine G.joini0 ?_) | (with_reducible refine G.joini1 ?_) | (with_reducible refine G.drew ?_) | (simp (maxSteps := 2000000) only [↓RG, RP, RB, BEq.rfl, Int.reduceEq, Int.reduceLT, Int.reduceLE, Nat.reduceEqDiff]))
    refine newRL hv fun b => ?_
    try simp (maxSteps := 2000000) only [↓RG, RP, RB, BEq.rfl, Int.reduceEq, Int.reduceLT, Int.reduceLE, Nat.reduceEqDiff]
    exact hK b

end
end Go.Proofs.YtokbiojkpldfeaaGreat.S

/-
  CHAPTER 9: more contracts of the reference's levels.
-/
namespace Go.Proofs.YtokbiojkpldfeaaGreat.S
open Go Go.Proofs
set_option linter.unusedVariables false
set_option linter.unusedSimpArgs false

theorem lKeep_cells {z : LvS} : (lKeep z).1.cells = z.cells := by
  unfold lKeep
  cases e : z.up with
  | nil => rfl
  | cons q up => simp [LvS.cells, e]
theorem lKeep_ok {z : LvS} (h : OkL z) : OkL (lKeep z).1 := by
  unfold lKeep
  cases e : z.up with
  | nil => exact h
  | cons q up => exact h.kept e
theorem lKeep_frees {z : LvS} : (lKeep z).1.frees.length = z.frees.length := by
  unfold lKeep
  cases e : z.up with
  | nil => rfl
  | cons q up => simp [LvS.frees, e, freesR]
theorem lKeep_up {z : LvS} {n : Nat} (h : z.up.length = n + 1) : (lKeep z).1.up.length = n := by
  unfold lKeep
  cases e : z.up with
  | nil => rw [e] at h; cases h
  | cons q up => rw [e] at h; simpa using h

theorem getLast?_take {α : Type} {l : List α} {k : Nat} (hk : k < l.length) : (l.take (k + 1)).reverse = l[k] :: (l.take k).reverse := by
  rw [List.take_add_one, List.getElem?_eq_getElem hk]; simp

section
variable {w0 : Base} {L M : List Asn} {K : KV} {F : World → Prop} {C : Asn → List Asn} {b d i : Nat} {k : TLevel} {a x n : Int} {r : Lv} {s : LvS} {l us : List (TLevel × Lv)} {v : Value}

theorem OkL.each {s : LvS} (hs : OkL s) {q : Lv} (hq : q ∈ s.r :: s.up) : q.c.length ≤ 96 := by
  have h1 := hs.len
  have h2 := hs.hi
  have : q.c.length ≤ totalC (s.r :: s.up) := by
    generalize s.r :: s.up = z at hq
    induction z with
    | nil => cases hq
    | cons y z ih =>
      rw [totalC_cons]
      rcases List.mem_cons.1 hq with e | h
      · rw [e]; omega
      · have := ih h; omega
  omega

end
end Go.Proofs.YtokbiojkpldfeaaGreat.S

/-
  CHAPTER 9: contracts of the reference's levels: Keep, Whole.
-/
namespace Go.Proofs.YtokbiojkpldfeaaGreat.S
open Go Go.Proofs
set_option linter.unusedVariables false
set_option linter.unusedSimpArgs false

instance : Std.Associative star := ⟨star_as⟩
instance : Std.Commutative star := ⟨star_comm⟩

section
variable {w0 : Base} {L M : List Asn} {K : KV} {F : World → Prop} {C : Asn → List Asn} {b d i : Nat} {k : TLevel} {a x n : Int} {r : Lv} {s : LvS} {l us : List (TLevel × Lv)} {v : Value}

theorem SelOb.roN2 {κ σ ι : Type} {R : κ → σ → Asn} {k : κ} {s : σ} {C : Asn → List Asn} [i : SelOb L R k s C] {P : ι → Prop} {N1 N2 : ι → Asn} {F' : ι → World → Prop} (h : ∀ M, (∀ y, P y → G w0 (N1 y :: N2 y :: ob R k s :: M) (F' y)) → G w0 (ob R k s :: M) F)
    (h' : ∀ y, P y → G w0 (N1 y :: N2 y :: L) (F' y)) : G w0 L F := by
  obtain ⟨M, e1, _, _, e2⟩ := i.fronts
  rw [G_of_stars e1]
  refine h M fun y hy => ?_
  rw [← G_of_stars (e2 (N1 y) (N2 y) _), ← i.here]; exact h' y hy

set_option maxHeartbeats 1000000 in
end
end Go.Proofs.YtokbiojkpldfeaaGreat.S
