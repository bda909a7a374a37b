/-
  CHAPTER 9: levels of writes and frees; contracts of package levels.
-/
import Derived.Test.YtokbiojkpldfeaaWrites
import Derived.Test.YtokbiojkpldfeaaBack
import Derived.Test.YtokbiojkpldfeaaSBack
namespace Go.Proofs.Ytokbiojkpldfeaa.S
open Go Go.Proofs
set_option linter.unusedVariables false
set_option linter.unusedSimpArgs false

/-! ### the plain law -/
structure Lv where
  c : List TCell
  f : List Int
/-- levels: the inmost, those around it -/
structure LvS where
  most : Int
  r : Lv
  up : List Lv

def lookR : List Lv → Int → Option Int
  | [], _ => none
  | r :: l, a => match lookC r.c a with | some x => some x | none => lookR l a
def totalC (l : List Lv) : Nat := (l.map (·.c.length)).sum
def freesR (l : List Lv) : List Int := l.flatMap (·.f)
structure OkL (s : LvS) : Prop where
  lo : 0 ≤ s.most
  hi : s.most ≤ 96
  len : (totalC (s.r :: s.up) : Int) ≤ s.most
  six : s.up.length < 6
  ok : ∀ r ∈ s.r :: s.up, OkC r.c

abbrev LvS.room (s : LvS) : Int := s.most - (totalC (s.r :: s.up) : Int)
/-- what Put says -/
def lErr (s : LvS) (a : Int) : Int := if okAt a then (if (idxC s.r.c a).isSome then 0 else if s.room = 0 then 5 else 0) else 2
def LvS.put (s : LvS) (a x : Int) : LvS := ⟨s.most, ⟨putC s.r.c a x, s.r.f⟩, s.up⟩
def lPuts : LvS → List TCell → LvS × Int
  | s, [] => (s, 0)
  | s, c :: l => if lErr s c.place = 0 then lPuts (s.put c.place c.word) l else (s, lErr s c.place)
def lTake (s : LvS) (l : List TCell) : LvS × Int := if (lPuts s l).2 = 0 then ((lPuts s l).1, 0) else (s, (lPuts s l).2)
def lKeep (s : LvS) : LvS × Int := match s.up with
  | [] => (s, 10)
  | q :: up => (⟨s.most, ⟨putsC q.c s.r.c, q.f ++ s.r.f⟩, up⟩, 0)
def lDrop (s : LvS) : LvS × Int := match s.up with
  | [] => (s, 10)
  | q :: up => (⟨s.most, q, up⟩, 0)
def lOpen (s : LvS) : LvS × Int := if 6 ≤ s.up.length + 1 then (s, 9) else (⟨s.most, ⟨[], []⟩, s.r :: s.up⟩, 0)
def LvS.free (s : LvS) (n : Int) : LvS := ⟨s.most, ⟨s.r.c, s.r.f ++ [n]⟩, s.up⟩
/-- all cells, as if all levels were kept -/
def LvS.cells (s : LvS) : List TCell := s.up.foldl (fun out q => putsC q.c out) s.r.c
def LvS.frees (s : LvS) : List Int := freesR (s.up.reverse ++ [s.r])

theorem totalC_cons {r : Lv} {l : List Lv} : totalC (r :: l) = r.c.length + totalC l := by simp [totalC]
theorem totalC_append {l l' : List Lv} : totalC (l ++ l') = totalC l + totalC l' := by simp [totalC]
theorem totalC_reverse {l : List Lv} : totalC l.reverse = totalC l := by
  induction l with
  | nil => rfl
  | cons r l ih => rw [List.reverse_cons, totalC_append, ih, totalC_cons, totalC_cons]; simp [totalC]; omega
theorem freesR_append {l l' : List Lv} : freesR (l ++ l') = freesR l ++ freesR l' := by simp [freesR]

theorem lErr_room {s : LvS} {a : Int} (h : lErr s a = 0) : okAt a = true ∧ ((idxC s.r.c a).isSome = true ∨ s.room ≠ 0) := by
  unfold lErr at h
  split at h
  · rename_i ha
    refine ⟨ha, ?_⟩
    split at h
    · rename_i hs; exact .inl hs
    · split at h
      · cases h
      · rename_i hr; exact .inr hr
  · cases h

theorem OkL.room {s : LvS} (h : OkL s) : 0 ≤ s.room := by have := h.len; unfold LvS.room; omega
theorem OkL.put {s : LvS} {a x : Int} (h : OkL s) (he : lErr s a = 0) : OkL (s.put a x) := by
  obtain ⟨ha, hr⟩ := lErr_room he
  have hl := h.len
  refine ⟨h.lo, h.hi, ?_, h.six, fun r hr' => ?_⟩
  · simp only [LvS.put, totalC_cons, putC_length] at hl ⊢
    rcases hr with hr | hr
    · rw [if_pos hr]; exact hl
    · have : s.room = s.most - ((s.r.c.length + totalC s.up : Nat) : Int) := by unfold LvS.room; rw [totalC_cons]
      split <;> omega
  · rcases List.mem_cons.1 hr' with e | hr'
    · rw [e]; exact (h.ok _ (by simp)).put ha
    · exact h.ok _ (List.mem_cons_of_mem _ hr')
theorem OkL.puts : ∀ {l : List TCell} {s : LvS}, OkL s → OkL (lPuts s l).1
  | [], s, h => h
  | c :: l, s, h => by
    unfold lPuts
    split
    · rename_i h0; exact OkL.puts (h.put h0)
    · exact h
theorem OkL.take {s : LvS} {l : List TCell} (h : OkL s) : OkL (lTake s l).1 := by
  unfold lTake
  split
  · exact h.puts
  · exact h
theorem OkL.new {n : Int} : OkL ⟨held n 0 96, ⟨[], []⟩, []⟩ := by
  have hb := held_le (n := n) (show (0 : Int) ≤ 96 by omega)
  refine ⟨hb.1, hb.2, by simpa [totalC] using hb.1, by simp, fun r hr => ?_⟩
  have : r = ⟨[], []⟩ := by simpa using hr
  rw [this]; exact .nil
theorem OkL.opened {s : LvS} (h : OkL s) (h6 : ¬ 6 ≤ s.up.length + 1) : OkL ⟨s.most, ⟨[], []⟩, s.r :: s.up⟩ := by
  refine ⟨h.lo, h.hi, ?_, by simp; omega, fun r hr => ?_⟩
  · have := h.len
    rw [totalC_cons]; simpa using this
  · rcases List.mem_cons.1 hr with e | hr
    · rw [e]; exact .nil
    · exact h.ok _ hr
theorem OkL.dropped {s : LvS} {q : Lv} {up : List Lv} (h : OkL s) (e : s.up = q :: up) : OkL ⟨s.most, q, up⟩ := by
  have hl := h.len
  have h6 := h.six
  have ho := h.ok
  rw [e] at hl h6 ho
  refine ⟨h.lo, h.hi, ?_, by simp at h6 ⊢; omega, fun r hr => ho _ (List.mem_cons_of_mem _ hr)⟩
  rw [totalC_cons] at hl
  simp only
  omega
theorem OkL.kept {s : LvS} {q : Lv} {up : List Lv} (h : OkL s) (e : s.up = q :: up) : OkL ⟨s.most, ⟨putsC q.c s.r.c, q.f ++ s.r.f⟩, up⟩ := by
  have hl := h.len
  have h6 := h.six
  have ho := h.ok
  rw [e] at hl h6 ho
  have hp := putsC_le (cs := q.c) (l := s.r.c)
  refine ⟨h.lo, h.hi, ?_, by simp at h6 ⊢; omega, fun r hr => ?_⟩
  · simp only [totalC_cons] at hl ⊢
    omega
  · rcases List.mem_cons.1 hr with e2 | hr
    · rw [e2]; exact (ho q (by simp)).puts (ho s.r (by simp)).places
    · exact ho _ (by simp [hr])
theorem OkL.free {s : LvS} {n : Int} (h : OkL s) : OkL (s.free n) := by
  refine ⟨h.lo, h.hi, ?_, h.six, fun r hr => ?_⟩
  · have := h.len
    simpa [LvS.free, totalC_cons] using this
  · rcases List.mem_cons.1 hr with e | hr
    · rw [e]; exact h.ok s.r (by simp)
    · exact h.ok _ (List.mem_cons_of_mem _ hr)

theorem lookR_none {a : Int} : ∀ {l : List Lv}, (∀ r ∈ l, lookC r.c a = none) → lookR l a = none
  | [], _ => rfl
  | r :: l, h => by unfold lookR; rw [h r (by simp)]; exact lookR_none fun q hq => h q (by simp [hq])
theorem lookR_hit {a x : Int} {r : Lv} {l' : List Lv} (hx : lookC r.c a = some x) : ∀ {l : List Lv}, (∀ r ∈ l, lookC r.c a = none) → lookR (l ++ r :: l') a = some x
  | [], _ => by show lookR (r :: l') a = some x; unfold lookR; rw [hx]
  | q :: l, h => by show lookR (q :: (l ++ r :: l')) a = some x; unfold lookR; rw [h q (by simp)]; exact lookR_hit hx fun q hq => h q (by simp [hq])

/-- how the program makes out all cells -/
def outT (out : List TCell) (r : Lv) : List TCell := (wTake 96 (wTake 96 [] r.c).1 out).1
theorem outT_ok {out : List TCell} {r : Lv} (ho : OkC r.c) (hout : ∀ c ∈ out, okAt c.place = true) (hl : r.c.length + out.length ≤ 96) : outT out r = putsC r.c out := by
  unfold outT
  rw [wTake_room (most := 96) (cs := []) ho.places (by simp; omega), ho.self, wTake_room hout (by show (r.c.length + out.length : Int) ≤ 96; omega)]
theorem OkW.new {n : Int} : OkW (held n 0 96) [] := by
  have hb := held_le (n := n) (show (0 : Int) ≤ 96 by omega)
  exact ⟨hb.1, hb.2, by simpa using hb.1, .nil⟩
theorem outT_le {out : List TCell} {r : Lv} : (outT out r).length ≤ 96 := by
  have h : OkW 96 (outT out r) := (OkW.take (OkW.take (OkW.new (n := 96))))
  have := h.len
  omega
theorem foldT_ok : ∀ {l : List Lv} {out : List TCell}, (∀ r ∈ l, OkC r.c) → (∀ c ∈ out, okAt c.place = true) → out.length + totalC l ≤ 96 → l.foldl outT out = l.foldl (fun out q => putsC q.c out) out
  | [], out, _, _, _ => rfl
  | r :: l, out, h, ho, hl => by
    rw [totalC_cons] at hl
    have hp := putsC_le (cs := r.c) (l := out)
    rw [List.foldl_cons, List.foldl_cons, outT_ok (h r (by simp)) ho (by omega)]
    exact foldT_ok (fun q hq => h q (by simp [hq])) ((h r (by simp)).puts ho).places (by omega)
theorem cells_eq {s : LvS} (h : OkL s) : (s.r :: s.up).foldl outT [] = s.cells := by
  have hl := h.len
  have hi := h.hi
  have ho := h.ok s.r (by simp)
  rw [foldT_ok h.ok (by simp) (by simp; omega), List.foldl_cons]
  rfl
theorem cells_le {s : LvS} (h : OkL s) : s.cells.length ≤ 96 := by
  rw [← cells_eq h]
  generalize s.r :: s.up = l
  have : ∀ (l : List Lv) (out : List TCell), out.length ≤ 96 → (l.foldl outT out).length ≤ 96 := fun l => by
    induction l with
    | nil => exact fun out h => h
    | cons r l ih => exact fun out _ => ih _ outT_le
  exact this l [] (by simp)

/-! ### the objects -/
/-- a level: where its cells are, what is in it -/
def LevelR (b : Nat) (s : Nat × Lv) : Asn := exA fun v => star (pureA (Cells v [v])) (star (star (own b [ptr s.1 0, v]) (ob WritesR s.1 (96, s.2.c))) (sl intE v s.2.f))
/-- several of them -/
def UpR (b : Nat) (l : List (Nat × Nat × Lv)) : Asn := stars (l.map fun x => ob LevelR x.1 x.2)
abbrev ptrs (l : List (Nat × Nat × Lv)) : List Nat := l.map (·.1)
abbrev lvs (l : List (Nat × Nat × Lv)) : List Lv := l.map (·.2.2)
def LevelsR (b : Nat) (s : LvS) : Asn := exA fun v => exA fun (l : List (Nat × Nat × Lv)) => star (pureA (Cells v [v] ∧ OkL s ∧ lvs l = s.up.reverse ++ [s.r])) (star (star (own b [i64 s.most, v]) (sl ptrE v (ptrs l))) (ob UpR b l))

section
variable {w0 : Base} {L M : List Asn} {K : KV} {F : World → Prop} {C : Asn → List Asn} {b p c k : Nat} {a x n : Int} {r : Lv} {s : LvS} {l us : List (Nat × Nat × Lv)} {v : Value}

theorem ptrs_append {l l' : List (Nat × Nat × Lv)} : ptrs (l ++ l') = ptrs l ++ ptrs l' := List.map_append
theorem lvs_append {l l' : List (Nat × Nat × Lv)} : lvs (l ++ l') = lvs l ++ lvs l' := List.map_append

theorem LevelR_open : G w0 (ob LevelR p (c, r) :: M) F = ∀ v, Cells v [v] → G w0 (own p [ptr c 0, v] :: ob WritesR c (96, r.c) :: sl intE v r.f :: M) F := by
  rw [ob_eq, LevelR]
  simp only [G_ex, G_star, G_pure]
theorem LevelR_close {v : Value} (p c : Nat) (r : Lv) [PickAll [own p [ptr c 0, v], ob WritesR c (96, r.c), sl intE v r.f] L M] (hv : Cells v [v]) (H : G w0 (ob LevelR p (c, r) :: M) F) : G w0 L F :=
  G.pickAll (As := [own p [ptr c 0, v], ob WritesR c (96, r.c), sl intE v r.f]) (by rw [LevelR_open] at H; exact H v hv)

theorem big_at {α : Type} (f : α → Asn) : ∀ {l : List α} {k : Nat} {x : α}, l[k]? = some x → stars (l.map f) = stars (f x :: (l.eraseIdx k).map f)
  | [], k, x, h => by simp at h
  | y :: l, 0, x, h => by simp at h; subst h; rfl
  | y :: l, k + 1, x, h => by
    have := big_at f (l := l) (k := k) (x := x) (by simpa using h)
    show star (f y) (stars (l.map f)) = star (f x) (star (f y) (stars ((l.eraseIdx k).map f)))
    rw [this, star_lc]; rfl
theorem UpR_at {p c : Nat} {r : Lv} (h : l[k]? = some (p, c, r)) : G w0 (ob UpR b l :: M) F = G w0 (ob LevelR p (c, r) :: ob UpR b (l.eraseIdx k) :: M) F := G_of_stars (by
  show star (ob UpR b l) (stars M) = star (ob LevelR p (c, r)) (star (ob UpR b (l.eraseIdx k)) (stars M))
  rw [ob_eq UpR, ob_eq UpR, UpR, big_at _ h, ← star_as]; rfl)
theorem UpR_snoc : G w0 (ob UpR b (us ++ [(p, c, r)]) :: M) F = G w0 (ob LevelR p (c, r) :: ob UpR b us :: M) F := by
  rw [UpR_at (k := us.length) (p := p) (c := c) (r := r) (by simp)]
  congr 3
  simp [List.eraseIdx_append_of_length_le]
theorem UpR_push (b : Nat) (us : List (Nat × Nat × Lv)) (p c : Nat) (r : Lv) [PickAll [ob LevelR p (c, r), ob UpR b us] L M] (H : G w0 (ob UpR b (us ++ [(p, c, r)]) :: M) F) : G w0 L F :=
  G.pickAll (As := [ob LevelR p (c, r), ob UpR b us]) (by rw [UpR_snoc] at H; exact H)
theorem UpR_back {p c : Nat} {r : Lv} (h : l[k]? = some (p, c, r)) [PickAll [ob LevelR p (c, r), ob UpR b (l.eraseIdx k)] L M] (H : G w0 (ob UpR b l :: M) F) : G w0 L F :=
  G.pickAll (As := [ob LevelR p (c, r), ob UpR b (l.eraseIdx k)]) (by rw [UpR_at h] at H; exact H)

theorem stars_append {As Bs : List Asn} : stars (As ++ Bs) = star (stars As) (stars Bs) := by
  induction As with
  | nil => exact (star_emp _).symm
  | cons A As ih => show star A (stars (As ++ Bs)) = star (star A (stars As)) (stars Bs); rw [ih, star_as]
theorem UpR_nil {As : List Asn} (H : G w0 (As ++ ob UpR b [] :: M) F) : G w0 (As ++ M) F := by
  rw [G_of_stars (L' := As ++ M)] at H
  · exact H
  · rw [stars_append, stars_append]
    show star _ (star (ob UpR b []) _) = _
    rw [ob_eq UpR]
    show star _ (star emp _) = _
    rw [star_emp]

theorem LevelsR_open : G w0 (ob LevelsR b s :: M) F = ∀ v l, (Cells v [v] ∧ OkL s ∧ lvs l = s.up.reverse ++ [s.r]) → G w0 (own b [i64 s.most, v] :: sl ptrE v (ptrs l) :: ob UpR b l :: M) F := by
  rw [ob_eq, LevelsR]
  simp only [G_ex, G_star, G_pure]
theorem LevelsR_in : G w0 (ob LevelsR b s :: M) F = ∀ v p c us, (Cells v [v] ∧ OkL s ∧ lvs us = s.up.reverse) → G w0 (own b [i64 s.most, v] :: sl ptrE v (ptrs us ++ [p]) :: ob LevelR p (c, s.r) :: ob UpR b us :: M) F := by
  rw [LevelsR_open]
  have e : ∀ v us p c, G w0 (own b [i64 s.most, v] :: sl ptrE v (ptrs (us ++ [(p, c, s.r)])) :: ob UpR b (us ++ [(p, c, s.r)]) :: M) F = G w0 (own b [i64 s.most, v] :: sl ptrE v (ptrs us ++ [p]) :: ob LevelR p (c, s.r) :: ob UpR b us :: M) F := fun v us p c => by
    rw [G_rot3, UpR_snoc, ptrs_append]
    apply G_of_stars
    show star _ (star _ (star _ (star _ _))) = star _ (star _ (star _ (star _ _)))
    rw [star_lc (ob UpR b us), star_lc (ob UpR b us), star_lc (ob LevelR p (c, s.r)), star_lc (ob LevelR p (c, s.r))]
    rfl
  apply propext
  constructor
  · rintro H v p c us ⟨h1, h2, h3⟩
    rw [← e]
    exact H v (us ++ [(p, c, s.r)]) ⟨h1, h2, by rw [lvs_append, h3]; rfl⟩
  · rintro H v l ⟨h1, h2, h3⟩
    obtain ⟨us, y, hl, h4, h5⟩ := List.map_eq_append_iff.1 h3
    obtain ⟨z, zs, rfl, h6, h7⟩ := List.map_eq_cons_iff.1 h5
    have : zs = [] := by simpa using h7
    subst this
    obtain ⟨p, c, q⟩ := z
    simp only at h6
    subst h6
    subst hl
    rw [e]
    exact H v p c us ⟨h1, h2, h4⟩
theorem LevelsR_close {v : Value} {xs : List Nat} (b : Nat) (s : LvS) (us : List (Nat × Nat × Lv)) (p c : Nat) [PickAll [own b [i64 s.most, v], sl ptrE v xs, ob LevelR p (c, s.r), ob UpR b us] L M] (hx : xs = ptrs us ++ [p]) (h : Cells v [v] ∧ OkL s ∧ lvs us = s.up.reverse) (H : G w0 (ob LevelsR b s :: M) F) : G w0 L F :=
  G.pickAll (As := [own b [i64 s.most, v], sl ptrE v xs, ob LevelR p (c, s.r), ob UpR b us]) (by rw [LevelsR_in] at H; subst hx; exact H v p c us h)

/-- what is always true of them -/
theorem G.okL [i : SelOb L LevelsR b s C] (h : OkL s → G w0 L F) : G w0 L F := by
  by_cases hw : OkL s
  · exact h hw
  · refine i.ro (F' := fun _ => True) (fun M _ => ?_) (fun _ _ => trivial)
    rw [LevelsR_open]
    exact fun v l hv => absurd hv.2.1 hw

theorem us_len {up : List Lv} (h : lvs us = up.reverse) : us.length = up.length := by
  have := congrArg List.length h
  simpa using this

theorem s_levels_fresh (hK : ∀ p c, G w0 (ob LevelR p (c, ⟨[], []⟩) :: L) (K (ptr p 0))) : G w0 L (CP Try.prog Fn.levels_fresh [] K) := by
  refine C_levels_fresh ?_
  unfold S_levels_fresh
  refine s_writes_New fun c => ?_
  rw [show held 96 0 96 = 96 from rfl]
  try simp (maxSteps := 2000000) only [↓RG, RP, true_and, and_true, beq_true, beq_false, Bool.true_beq, Bool.false_beq, BEq.rfl, Int.reduceEq, Int.reduceLT, Int.reduceLE, Nat.reduceEqDiff, decide_true, decide_false, Bool.not_true, Bool.not_false, Bool.and_true, Bool.true_and, Bool.and_false, Bool.false_and, Bool.or_true, Bool.true_or, Bool.or_false, Bool.false_or, Bool.not_not]
  refine G.nilsl intE ?_
  refine G.box fun p => ?_
  refine LevelR_close (v := .slice none 0 0) p c ⟨[], []⟩ cells_slice ?_
  exact hK p c

theorem s_levels_New {n : Int} (hK : ∀ b, G w0 (ob LevelsR b ⟨held n 0 96, ⟨[], []⟩, []⟩ :: L) (K (ptr b 0))) : G w0 L (CP Try.prog Fn.levels_New [i64 n] K) := by
  refine C_levels_New ?_
  unfold S_levels_New
  try simp (maxSteps := 2000000) only [↓RG, RP, true_and, and_true, beq_true, beq_false, Bool.true_beq, Bool.false_beq, BEq.rfl, Int.reduceEq, Int.reduceLT, Int.reduceLE, Nat.reduceEqDiff, decide_true, decide_false, Bool.not_true, Bool.not_false, Bool.and_true, Bool.true_and, Bool.and_false, Bool.false_and, Bool.or_true, Bool.true_or, Bool.or_false, Bool.false_or, Bool.not_not]
  have e3 : (if (if (96 : Int) < n then (96 : Int) else n) > 0 then (if (96 : Int) < n then (96 : Int) else n) else 0) = held n 0 96 := by
    unfold held; split <;> split <;> split <;> (try split) <;> omega
  rw [e3]
  refine s_levels_fresh fun p c => ?_
  refine G.build ptrE [p] rfl (by simp) rfl fun v hv => ?_
  try simp (maxSteps := 2000000) only [↓RG, RP, true_and, and_true, beq_true, beq_false, Bool.true_beq, Bool.false_beq, BEq.rfl, Int.reduceEq, Int.reduceLT, Int.reduceLE, Nat.reduceEqDiff, decide_true, decide_false, Bool.not_true, Bool.not_false, Bool.and_true, Bool.true_and, Bool.and_false, Bool.false_and, Bool.or_true, Bool.true_or, Bool.or_false, Bool.false_or, Bool.not_not]
  refine G.box fun b => ?_
  have h := hK b
  rw [LevelsR_in] at h
  have h2 := h v p c [] ⟨hv, OkL.new, rfl⟩
  exact UpR_nil (b := b) (As := [own b [i64 (held n 0 96), v], sl ptrE v [p], ob LevelR p (c, ⟨[], []⟩)]) h2

theorem s_in (hl : us.length ≤ 1000000) (hK : G w0 (own b [i64 n, v] :: sl ptrE v (ptrs us ++ [p]) :: M) (K (ptr p 0))) : G w0 (own b [i64 n, v] :: sl ptrE v (ptrs us ++ [p]) :: M) (CP Try.prog Fn.levels_Levels_in [ptr b 0] K) := by
  refine C_levels_Levels_in ?_
  unfold S_levels_Levels_in
  have e : Elem (ptrs us ++ [p]) us.length p := ⟨by simp⟩
  refine G.drew ?_
  try simp (maxSteps := 2000000) only [↓RG, RP, true_and, and_true, beq_true, beq_false, Bool.true_beq, Bool.false_beq, BEq.rfl, Int.reduceEq, Int.reduceLT, Int.reduceLE, Nat.reduceEqDiff, decide_true, decide_false, Bool.not_true, Bool.not_false, Bool.and_true, Bool.true_and, Bool.and_false, Bool.false_and, Bool.or_true, Bool.true_or, Bool.or_false, Bool.false_or, Bool.not_not]
  have w1 : IntKind.wrap .i64 (((ptrs us ++ [p]).length : Nat) - 1 : Int) = (us.length : Int) := by
    simp only [List.length_append, List.length_map, List.length_singleton]
    rw [wi64 (by omega) (by omega)]; omega
  rw [w1]
  try simp (maxSteps := 2000000) only [↓RG, RP, true_and, and_true, beq_true, beq_false, Bool.true_beq, Bool.false_beq, BEq.rfl, Int.reduceEq, Int.reduceLT, Int.reduceLE, Nat.reduceEqDiff, decide_true, decide_false, Bool.not_true, Bool.not_false, Bool.and_true, Bool.true_and, Bool.and_false, Bool.false_and, Bool.or_true, Bool.true_or, Bool.or_false, Bool.false_or, Bool.not_not]
  exact hK

theorem up_cons {q : Lv} {up : List Lv} (h : lvs us = (q :: up).reverse) : ∃ us' p' c', us = us' ++ [(p', c', q)] ∧ lvs us' = up.reverse := by
  rw [List.reverse_cons] at h
  obtain ⟨us', y, hl, h4, h5⟩ := List.map_eq_append_iff.1 h
  obtain ⟨z, zs, rfl, h6, h7⟩ := List.map_eq_cons_iff.1 h5
  have : zs = [] := by simpa using h7
  subst this
  obtain ⟨p, c, q'⟩ := z
  simp only at h6
  subst h6
  exact ⟨us', p, c, hl, h4⟩

theorem s_levels_Levels_Free [i : SelOb L LevelsR b s C] (hf : s.r.f.length ≤ 1000000) (hK : G w0 (C (ob LevelsR b (s.free n))) (K (.tuple #[]))) : G w0 L (CP Try.prog Fn.levels_Levels_Free [ptr b 0, i64 n] K) := by
  refine i.use (fun M hK => ?_) hK
  rw [LevelsR_in]
  rintro v p c us ⟨hv, hs, hu⟩
  have hul := us_len hu
  have h6 := hs.six
  refine C_levels_Levels_Free ?_
  unfold S_levels_Levels_Free
  refine s_in (by omega) ?_
  refine G.take1 LevelR p ?_
  rw [LevelR_open]
  intro v2 hv2
  try simp (maxSteps := 2000000) only [↓RG, RP, true_and, and_true, beq_true, beq_false, Bool.true_beq, Bool.false_beq, BEq.rfl, Int.reduceEq, Int.reduceLT, Int.reduceLE, Nat.reduceEqDiff, decide_true, decide_false, Bool.not_true, Bool.not_false, Bool.and_true, Bool.true_and, Bool.and_false, Bool.false_and, Bool.or_true, Bool.true_or, Bool.or_false, Bool.false_or, Bool.not_not]
  refine G.append1 (E := intE) rfl rfl (by decide) (by omega) (by simp only [maxLen]; omega) fun u hu2 => ?_
  try simp (maxSteps := 2000000) only [↓RG, RP, true_and, and_true, beq_true, beq_false, Bool.true_beq, Bool.false_beq, BEq.rfl, Int.reduceEq, Int.reduceLT, Int.reduceLE, Nat.reduceEqDiff, decide_true, decide_false, Bool.not_true, Bool.not_false, Bool.and_true, Bool.true_and, Bool.and_false, Bool.false_and, Bool.or_true, Bool.true_or, Bool.or_false, Bool.false_or, Bool.not_not]
  refine LevelR_close p c ⟨s.r.c, s.r.f ++ [n]⟩ hu2 ?_
  refine LevelsR_close b ⟨s.most, ⟨s.r.c, s.r.f ++ [n]⟩, s.up⟩ us p c rfl ⟨hv, hs.free, hu⟩ ?_
  exact hK

end
end Go.Proofs.Ytokbiojkpldfeaa.S
