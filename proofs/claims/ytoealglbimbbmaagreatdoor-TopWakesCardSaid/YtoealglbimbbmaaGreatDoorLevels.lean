import Derived.Test.YtoealglbimbbmaaGreatDoorWrites
import Derived.Test.YtoealglbimbbmaaGreatDoorBack
import Derived.Test.YtoealglbimbbmaaGreatDoorSBack
namespace Go.Proofs.YtoealglbimbbmaaGreatDoor.S
open Go Go.Proofs
set_option linter.unusedVariables false
set_option linter.unusedSimpArgs false
structure Lv where
 c : List TCell
 f : List Int
structure LvS where
 most : Int
 r : Lv
 up : List Lv
def lookR : List Lv → Int → Option Int
 | [], _ => none
 | r :: l, a => match lookC r.c a with | some x => some x | none => lookR l a
def totalC (l : List Lv) : Nat := (l.map (·.c.length)).sum
def freesR (l : List Lv) : List Int := l.flatMap (·.f)
structure OkL (s : LvS) : Prop where
 lo : 0 ≤ s.most
 hi : s.most ≤ 96
 len : (totalC (s.r :: s.up) : Int) ≤ s.most
 six : s.up.length < 6
 ok : ∀ r ∈ s.r :: s.up, OkC r.c
abbrev LvS.room (s : LvS) : Int := s.most - (totalC (s.r :: s.up) : Int)
def lErr (s : LvS) (a : Int) : Int := if okAt a then (if (idxC s.r.c a).isSome then 0 else if s.room = 0 then 5 else 0) else 2
def LvS.put (s : LvS) (a x : Int) : LvS := ⟨s.most, ⟨putC s.r.c a x, s.r.f⟩, s.up⟩
def lPuts : LvS → List TCell → LvS × Int
 | s, [] => (s, 0)
 | s, c :: l => if lErr s c.place = 0 then lPuts (s.put c.place c.word) l else (s, lErr s c.place)
def lTake (s : LvS) (l : List TCell) : LvS × Int := if (lPuts s l).2 = 0 then ((lPuts s l).1, 0) else (s, (lPuts s l).2)
def lKeep (s : LvS) : LvS × Int := match s.up with
 | [] => (s, 10)
 | q :: up => (⟨s.most, ⟨putsC q.c s.r.c, q.f ++ s.r.f⟩, up⟩, 0)
def lDrop (s : LvS) : LvS × Int := match s.up with
 | [] => (s, 10)
 | q :: up => (⟨s.most, q, up⟩, 0)
def lOpen (s : LvS) : LvS × Int := if 6 ≤ s.up.length + 1 then (s, 9) else (⟨s.most, ⟨[], []⟩, s.r :: s.up⟩, 0)
def LvS.free (s : LvS) (n : Int) : LvS := ⟨s.most, ⟨s.r.c, s.r.f ++ [n]⟩, s.up⟩
def LvS.cells (s : LvS) : List TCell := s.up.foldl (fun out q => putsC q.c out) s.r.c
def LvS.frees (s : LvS) : List Int := freesR (s.up.reverse ++ [s.r])
theorem totalC_cons {r : Lv} {l : List Lv} : totalC (r :: l) = r.c.length + totalC l := by simp [totalC]
theorem totalC_append {l l' : List Lv} : totalC (l ++ l') = totalC l + totalC l' := by simp [totalC]
theorem totalC_reverse {l : List Lv} : totalC l.reverse = totalC l := by
 induction l with
 | nil => rfl
 | cons r l ih => rw [List.reverse_cons, totalC_append, ih, totalC_cons, totalC_cons]; simp [totalC]; omega
theorem freesR_append {l l' : List Lv} : freesR (l ++ l') = freesR l ++ freesR l' := by simp [freesR]
theorem lErr_room {s : LvS} {a : Int} (h : lErr s a = 0) : okAt a = true ∧ ((idxC s.r.c a).isSome = true ∨ s.room ≠ 0) := by
 unfold lErr at h
 split at h
 ·rename_i ha
  refine ⟨ha, ?_⟩
  split at h
  ·rename_i hs; exact .inl hs
  ·split at h
   ·cases h
   ·rename_i hr; exact .inr hr
 ·cases h
theorem OkL.room {s : LvS} (h : OkL s) : 0 ≤ s.room := by have := h.len; unfold LvS.room; omega
theorem OkL.put {s : LvS} {a x : Int} (h : OkL s) (he : lErr s a = 0) : OkL (s.put a x) := by
 obtain ⟨ha, hr⟩ := lErr_room he
 have hl := h.len
 refine ⟨h.lo, h.hi, ?_, h.six, fun r hr' => ?_⟩
 ·simp only [LvS.put, totalC_cons, putC_length] at hl ⊢
  rcases hr with hr | hr
  ·rw [if_pos hr]; exact hl
  ·have : s.room = s.most - ((s.r.c.length + totalC s.up : Nat) : Int) := by unfold LvS.room; rw [totalC_cons]
   split <;> omega
 ·rcases List.mem_cons.1 hr' with e | hr'
  ·rw [e]; exact (h.ok _ (by simp)).put ha
  ·exact h.ok _ (List.mem_cons_of_mem _ hr')
theorem OkL.puts : ∀ {l : List TCell} {s : LvS}, OkL s → OkL (lPuts s l).1
 | [], s, h => h
 | c :: l, s, h => by
  unfold lPuts
  split
  ·rename_i h0; exact OkL.puts (h.put h0)
  ·exact h
theorem OkL.take {s : LvS} {l : List TCell} (h : OkL s) : OkL (lTake s l).1 := by
 unfold lTake
 split
 ·exact h.puts
 ·exact h
theorem OkL.new {n : Int} : OkL ⟨held n 0 96, ⟨[], []⟩, []⟩ := by
 have hb := held_le (n := n) (show (0 : Int) ≤ 96 by omega)
 refine ⟨hb.1, hb.2, by simpa [totalC] using hb.1, by simp, fun r hr => ?_⟩
 have : r = ⟨[], []⟩ := by simpa using hr
 rw [this]; exact .nil
theorem OkL.opened {s : LvS} (h : OkL s) (h6 : ¬ 6 ≤ s.up.length + 1) : OkL ⟨s.most, ⟨[], []⟩, s.r :: s.up⟩ := by
 refine ⟨h.lo, h.hi, ?_, by simp; omega, fun r hr => ?_⟩
 ·have := h.len
  rw [totalC_cons]; simpa using this
 ·rcases List.mem_cons.1 hr with e | hr
  ·rw [e]; exact .nil
  ·exact h.ok _ hr
theorem OkL.dropped {s : LvS} {q : Lv} {up : List Lv} (h : OkL s) (e : s.up = q :: up) : OkL ⟨s.most, q, up⟩ := by
 have hl := h.len
 have h6 := h.six
 have ho := h.ok
 rw [e] at hl h6 ho
 refine ⟨h.lo, h.hi, ?_, by simp at h6 ⊢; omega, fun r hr => ho _ (List.mem_cons_of_mem _ hr)⟩
 rw [totalC_cons] at hl
 simp only
 omega
theorem OkL.kept {s : LvS} {q : Lv} {up : List Lv} (h : OkL s) (e : s.up = q :: up) : OkL ⟨s.most, ⟨putsC q.c s.r.c, q.f ++ s.r.f⟩, up⟩ := by
 have hl := h.len
 have h6 := h.six
 have ho := h.ok
 rw [e] at hl h6 ho
 have hp := putsC_le (cs := q.c) (l := s.r.c)
 refine ⟨h.lo, h.hi, ?_, by simp at h6 ⊢; omega, fun r hr => ?_⟩
 ·simp only [totalC_cons] at hl ⊢
  omega
 ·rcases List.mem_cons.1 hr with e2 | hr
  ·rw [e2]; exact (ho q (by simp)).puts (ho s.r (by simp)).places
  ·exact ho _ (by simp [hr])
theorem OkL.free {s : LvS} {n : Int} (h : OkL s) : OkL (s.free n) := by
 refine ⟨h.lo, h.hi, ?_, h.six, fun r hr => ?_⟩
 ·have := h.len
  simpa [LvS.free, totalC_cons] using this
 ·rcases List.mem_cons.1 hr with e | hr
  ·rw [e]; exact h.ok s.r (by simp)
  ·exact h.ok _ (List.mem_cons_of_mem _ hr)
theorem lookR_none {a : Int} : ∀ {l : List Lv}, (∀ r ∈ l, lookC r.c a = none) → lookR l a = none
 | [], _ => rfl
 | r :: l, h => by unfold lookR; rw [h r (by simp)]; exact lookR_none fun q hq => h q (by simp [hq])
theorem lookR_hit {a x : Int} {r : Lv} {l' : List Lv} (hx : lookC r.c a = some x) : ∀ {l : List Lv}, (∀ r ∈ l, lookC r.c a = none) → lookR (l ++ r :: l') a = some x
 | [], _ => by show lookR (r :: l') a = some x; unfold lookR; rw [hx]
 | q :: l, h => by show lookR (q :: (l ++ r :: l')) a = some x; unfold lookR; rw [h q (by simp)]; exact lookR_hit hx fun q hq => h q (by simp [hq])
def outT (out : List TCell) (r : Lv) : List TCell := (wTake 96 (wTake 96 [] r.c).1 out).1
theorem outT_ok {out : List TCell} {r : Lv} (ho : OkC r.c) (hout : ∀ c ∈ out, okAt c.place = true) (hl : r.c.length + out.length ≤ 96) : outT out r = putsC r.c out := by
 unfold outT
 rw [wTake_room (most := 96) (cs := []) ho.places (by simp; omega), ho.self, wTake_room hout (by show (r.c.length + out.length : Int) ≤ 96; omega)]
theorem OkW.new {n : Int} : OkW (held n 0 96) [] := by
 have hb := held_le (n := n) (show (0 : Int) ≤ 96 by omega)
 exact ⟨hb.1, hb.2, by simpa using hb.1, .nil⟩
theorem outT_le {out : List TCell} {r : Lv} : (outT out r).length ≤ 96 := by
 have h : OkW 96 (outT out r) := (OkW.take (OkW.take (OkW.new (n := 96))))
 have := h.len
 omega
theorem foldT_ok : ∀ {l : List Lv} {out : List TCell}, (∀ r ∈ l, OkC r.c) → (∀ c ∈ out, okAt c.place = true) → out.length + totalC l ≤ 96 → l.foldl outT out = l.foldl (fun out q => putsC q.c out) out
 | [], out, _, _, _ => rfl
 | r :: l, out, h, ho, hl => by
  rw [totalC_cons] at hl
  have hp := putsC_le (cs := r.c) (l := out)
  rw [List.foldl_cons, List.foldl_cons, outT_ok (h r (by simp)) ho (by omega)]
  exact foldT_ok (fun q hq => h q (by simp [hq])) ((h r (by simp)).puts ho).places (by omega)
theorem cells_eq {s : LvS} (h : OkL s) : (s.r :: s.up).foldl outT [] = s.cells := by
 have hl := h.len
 have hi := h.hi
 have ho := h.ok s.r (by simp)
 rw [foldT_ok h.ok (by simp) (by simp; omega), List.foldl_cons]
 rfl
def LevelR (b : Nat) (s : Nat × Lv) : Asn := exA fun v => star (pureA (Cells v [v])) (star (star (own b [ptr s.1 0, v]) (ob WritesR s.1 (96, s.2.c))) (sl intE v s.2.f))
def UpR (b : Nat) (l : List (Nat × Nat × Lv)) : Asn := stars (l.map fun x => ob LevelR x.1 x.2)
abbrev ptrs (l : List (Nat × Nat × Lv)) : List Nat := l.map (·.1)
abbrev lvs (l : List (Nat × Nat × Lv)) : List Lv := l.map (·.2.2)
def LevelsR (b : Nat) (s : LvS) : Asn := exA fun v => exA fun (l : List (Nat × Nat × Lv)) => star (pureA (Cells v [v] ∧ OkL s ∧ lvs l = s.up.reverse ++ [s.r])) (star (star (own b [i64 s.most, v]) (sl ptrE v (ptrs l))) (ob UpR b l))
section
variable {w0 : Base} {L M : List Asn} {K : KV} {F : World → Prop} {C : Asn → List Asn} {b p c k : Nat} {a x n : Int} {r : Lv} {s : LvS} {l us : List (Nat × Nat × Lv)} {v : Value}
theorem ptrs_append {l l' : List (Nat × Nat × Lv)} : ptrs (l ++ l') = ptrs l ++ ptrs l' := List.map_append
theorem lvs_append {l l' : List (Nat × Nat × Lv)} : lvs (l ++ l') = lvs l ++ lvs l' := List.map_append
theorem LevelR_open : G w0 (ob LevelR p (c, r) :: M) F = ∀ v, Cells v [v] → G w0 (own p [ptr c 0, v] :: ob WritesR c (96, r.c) :: sl intE v r.f :: M) F := by
 rw [ob_eq, LevelR]
 simp only [G_ex, G_star, G_pure]
theorem LevelR_close {v : Value} (p c : Nat) (r : Lv) [PickAll [own p [ptr c 0, v], ob WritesR c (96, r.c), sl intE v r.f] L M] (hv : Cells v [v]) (H : G w0 (ob LevelR p (c, r) :: M) F) : G w0 L F :=
 G.pickAll (As := [own p [ptr c 0, v], ob WritesR c (96, r.c), sl intE v r.f]) (by rw [LevelR_open] at H; exact H v hv)
theorem big_at {α : Type} (f : α → Asn) : ∀ {l : List α} {k : Nat} {x : α}, l[k]? = some x → stars (l.map f) = stars (f x :: (l.eraseIdx k).map f)
 | [], k, x, h => by simp at h
 | y :: l, 0, x, h => by simp at h; subst h; rfl
 | y :: l, k + 1, x, h => by
  have := big_at f (l := l) (k := k) (x := x) (by simpa using h)
  show star (f y) (stars (l.map f)) = star (f x) (star (f y) (stars ((l.eraseIdx k).map f)))
  rw [this, star_lc]; rfl
theorem UpR_at {p c : Nat} {r : Lv} (h : l[k]? = some (p, c, r)) : G w0 (ob UpR b l :: M) F = G w0 (ob LevelR p (c, r) :: ob UpR b (l.eraseIdx k) :: M) F := G_of_stars (by
 show star (ob UpR b l) (stars M) = star (ob LevelR p (c, r)) (star (ob UpR b (l.eraseIdx k)) (stars M))
 rw [ob_eq UpR, ob_eq UpR, UpR, big_at _ h, ← star_as]; rfl)
theorem UpR_snoc : G w0 (ob UpR b (us ++ [(p, c, r)]) :: M) F = G w0 (ob LevelR p (c, r) :: ob UpR b us :: M) F := by
 rw [UpR_at (k := us.length) (p := p) (c := c) (r := r) (by simp)]
 congr 3
 simp [List.eraseIdx_append_of_length_le]
theorem UpR_push (b : Nat) (us : List (Nat × Nat × Lv)) (p c : Nat) (r : Lv) [PickAll [ob LevelR p (c, r), ob UpR b us] L M] (H : G w0 (ob UpR b (us ++ [(p, c, r)]) :: M) F) : G w0 L F :=
 G.pickAll (As := [ob LevelR p (c, r), ob UpR b us]) (by rw [UpR_snoc] at H; exact H)
theorem UpR_back {p c : Nat} {r : Lv} (h : l[k]? = some (p, c, r)) [PickAll [ob LevelR p (c, r), ob UpR b (l.eraseIdx k)] L M] (H : G w0 (ob UpR b l :: M) F) : G w0 L F :=
 G.pickAll (As := [ob LevelR p (c, r), ob UpR b (l.eraseIdx k)]) (by rw [UpR_at h] at H; exact H)
theorem stars_append {As Bs : List Asn} : stars (As ++ Bs) = star (stars As) (stars Bs) := by
 induction As with
 | nil => exact (star_emp _).symm
 | cons A As ih => show star A (stars (As ++ Bs)) = star (star A (stars As)) (stars Bs); rw [ih, star_as]
theorem UpR_nil {As : List Asn} (H : G w0 (As ++ ob UpR b [] :: M) F) : G w0 (As ++ M) F := by
 rw [G_of_stars (L' := As ++ M)] at H
 ·exact H
 ·rw [stars_append, stars_append]
  show star _ (star (ob UpR b []) _) = _
  rw [ob_eq UpR]
  show star _ (star emp _) = _
  rw [star_emp]
theorem LevelsR_open : G w0 (ob LevelsR b s :: M) F = ∀ v l, (Cells v [v] ∧ OkL s ∧ lvs l = s.up.reverse ++ [s.r]) → G w0 (own b [i64 s.most, v] :: sl ptrE v (ptrs l) :: ob UpR b l :: M) F := by
 rw [ob_eq, LevelsR]
 simp only [G_ex, G_star, G_pure]
theorem LevelsR_in : G w0 (ob LevelsR b s :: M) F = ∀ v p c us, (Cells v [v] ∧ OkL s ∧ lvs us = s.up.reverse) → G w0 (own b [i64 s.most, v] :: sl ptrE v (ptrs us ++ [p]) :: ob LevelR p (c, s.r) :: ob UpR b us :: M) F := by
 rw [LevelsR_open]
 have e : ∀ v us p c, G w0 (own b [i64 s.most, v] :: sl ptrE v (ptrs (us ++ [(p, c, s.r)])) :: ob UpR b (us ++ [(p, c, s.r)]) :: M) F = G w0 (own b [i64 s.most, v] :: sl ptrE v (ptrs us ++ [p]) :: ob LevelR p (c, s.r) :: ob UpR b us :: M) F := fun v us p c => by
  rw [G_rot3, UpR_snoc, ptrs_append]
  apply G_of_stars
  show star _ (star _ (star _ (star _ _))) = star _ (star _ (star _ (star _ _)))
  rw [star_lc (ob UpR b us), star_lc (ob UpR b us), star_lc (ob LevelR p (c, s.r)), star_lc (ob LevelR p (c, s.r))]
  rfl
 apply propext
 constructor
 ·rintro H v p c us ⟨h1, h2, h3⟩
  rw [← e]
  exact H v (us ++ [(p, c, s.r)]) ⟨h1, h2, by rw [lvs_append, h3]; rfl⟩
 ·rintro H v l ⟨h1, h2, h3⟩
  obtain ⟨us, y, hl, h4, h5⟩ := List.map_eq_append_iff.1 h3
  obtain ⟨z, zs, rfl, h6, h7⟩ := List.map_eq_cons_iff.1 h5
  have : zs = [] := by simpa using h7
  subst this
  obtain ⟨p, c, q⟩ := z
  simp only at h6
  subst h6
  subst hl
  rw [e]
  exact H v p c us ⟨h1, h2, h4⟩
theorem LevelsR_close {v : Value} {xs : List Nat} (b : Nat) (s : LvS) (us : List (Nat × Nat × Lv)) (p c : Nat) [PickAll [own b [i64 s.most, v], sl ptrE v xs, ob LevelR p (c, s.r), ob UpR b us] L M] (hx : xs = ptrs us ++ [p]) (h : Cells v [v] ∧ OkL s ∧ lvs us = s.up.reverse) (H : G w0 (ob LevelsR b s :: M) F) : G w0 L F :=
 G.pickAll (As := [own b [i64 s.most, v], sl ptrE v xs, ob LevelR p (c, s.r), ob UpR b us]) (by rw [LevelsR_in] at H; subst hx; exact H v p c us h)
theorem us_len {up : List Lv} (h : lvs us = up.reverse) : us.length = up.length := by
 have := congrArg List.length h
 simpa using this
theorem s_levels_fresh (hK : ∀ p c, G w0 (ob LevelR p (c, ⟨[], []⟩) :: L) (K (ptr p 0))) : G w0 L (CP Tryz.prog Fn.levels_fresh [] K) := by
 refine C_levels_fresh ?_
 unfold S_levels_fresh
 refine s_writes_New fun c => ?_
 rw [show held 96 0 96 = 96 from rfl]
 refine gr ?_
 refine G.nilsl intE ?_
 refine G.box fun p => ?_
 refine LevelR_close (v := .slice none 0 0) p c ⟨[], []⟩ cells_slice ?_
 exact hK p c
theorem s_levels_New {n : Int} (hK : ∀ b, G w0 (ob LevelsR b ⟨held n 0 96, ⟨[], []⟩, []⟩ :: L) (K (ptr b 0))) : G w0 L (CP Tryz.prog Fn.levels_New [i64 n] K) := by
 refine C_levels_New ?_
 unfold S_levels_New
 refine gr ?_
 have e3 : (if (if (96 : Int) < n then (96 : Int) else n) > 0 then (if (96 : Int) < n then (96 : Int) else n) else 0) = held n 0 96 := by
  unfold held; split <;> split <;> split <;> (try split) <;> omega
 rw [e3]
 refine s_levels_fresh fun p c => ?_
 refine G.build ptrE [p] rfl (by simp) rfl fun v hv => ?_
 refine gr ?_
 refine G.box fun b => ?_
 have h := hK b
 rw [LevelsR_in] at h
 have h2 := h v p c [] ⟨hv, OkL.new, rfl⟩
 exact UpR_nil (b := b) (As := [own b [i64 (held n 0 96), v], sl ptrE v [p], ob LevelR p (c, ⟨[], []⟩)]) h2
theorem s_in (hl : us.length ≤ 1000000) (hK : G w0 (own b [i64 n, v] :: sl ptrE v (ptrs us ++ [p]) :: M) (K (ptr p 0))) : G w0 (own b [i64 n, v] :: sl ptrE v (ptrs us ++ [p]) :: M) (CP Tryz.prog Fn.levels_Levels_in [ptr b 0] K) := by
 refine C_levels_Levels_in ?_
 unfold S_levels_Levels_in
 have e : Elem (ptrs us ++ [p]) us.length p := ⟨by simp⟩
 refine G.drew ?_
 refine gr ?_
 have w1 : IntKind.wrap .i64 (((ptrs us ++ [p]).length : Nat) - 1 : Int) = (us.length : Int) := by
  simp only [List.length_append, List.length_map, List.length_singleton]
  rw [wi64 (by omega) (by omega)]; omega
 rw [w1]
 refine gr ?_
 exact hK
theorem s_levels_Levels_Open [i : SelOb L LevelsR b s C] (hK : G w0 (C (ob LevelsR b (lOpen s).1)) (K (i64 (lOpen s).2))) : G w0 L (CP Tryz.prog Fn.levels_Levels_Open [ptr b 0] K) := by
 refine i.use (fun M hK => ?_) hK
 rw [LevelsR_in]
 rintro v p c us ⟨hv, hs, hu⟩
 have hul := us_len hu
 have h6' := hs.six
 have hll : (ptrs us ++ [p]).length = s.up.length + 1 := by simp [hul]
 refine C_levels_Levels_Open ?_
 unfold S_levels_Levels_Open
 unfold lOpen at hK
 by_cases h6 : 6 ≤ s.up.length + 1
 ·rw [if_pos h6, LevelsR_in] at hK
  have h7 : (6 : Int) ≤ ((s.up.length + 1 : Nat) : Int) := by omega
  refine grf (an hll h7) ?_
  exact hK v p c us ⟨hv, hs, hu⟩
 ·rw [if_neg h6] at hK
  have h7 : ¬ (6 : Int) ≤ ((s.up.length + 1 : Nat) : Int) := by omega
  repeat' (first | (with_reducible refine G.joini0 ?_) | (with_reducible refine G.joini1 ?_) | (with_reducible refine G.drew ?_) | (simp (maxSteps := 2000000) only [↓RG, RP, RB, BEq.rfl, Int.reduceEq, Int.reduceLT, Int.reduceLE, Nat.reduceEqDiff, hll, h7]))
  refine s_levels_fresh fun q d => ?_
  refine gg ?_
  refine G.build ptrE [q] rfl (by simp) rfl fun u hu2 => ?_
  refine gg ?_
  refine G.append (by rw [hll]; simp; omega) (by rw [hll]; simp [maxLen]; omega) fun u2 hu3 => ?_
  refine gg ?_
  refine UpR_push b us p c s.r ?_
  refine LevelsR_close b ⟨s.most, ⟨[], []⟩, s.r :: s.up⟩ (us ++ [(p, c, s.r)]) q d (show ptrs us ++ [p] ++ [q] = ptrs (us ++ [(p, c, s.r)]) ++ [q] by simp) ⟨hu3, hs.opened h6, by simp [hu]⟩ ?_
  exact hK.sub
theorem s_Drop_in {p' c' : Nat} {q : Lv} {us' : List (Nat × Nat × Lv)} (hl : us'.length ≤ 1000000) (hK : ∀ v', Cells v' [v'] → G w0 (own b [i64 n, v'] :: sl ptrE v' (ptrs us' ++ [p']) :: M) (K (i64 0))) :
  G w0 (own b [i64 n, v] :: sl ptrE v (ptrs (us' ++ [(p', c', q)]) ++ [p]) :: M) (CP Tryz.prog Fn.levels_Levels_Drop [ptr b 0] K) := by
 refine C_levels_Levels_Drop ?_
 unfold S_levels_Levels_Drop
 have hll : (ptrs (us' ++ [(p', c', q)]) ++ [p]).length = us'.length + 2 := by simp
 have h1 : ¬ (((us'.length + 2 : Nat) : Int) = 1) := by omega
 have h2 : IntKind.wrap .i64 (((us'.length + 2 : Nat) : Int) - 1) = ((us'.length + 1 : Nat) : Int) := by rw [wi64 (by omega) (by omega)]; omega
 repeat' (first | (with_reducible refine G.joini0 ?_) | (with_reducible refine G.joini1 ?_) | (with_reducible refine G.drew ?_) | (simp (maxSteps := 2000000) only [↓RG, RP, RB, BEq.rfl, Int.reduceEq, Int.reduceLT, Int.reduceLE, Nat.reduceEqDiff, hll, h1, h2]))
 refine G.take (by rw [hll]; omega) fun u hu => ?_
 have e : (ptrs (us' ++ [(p', c', q)]) ++ [p]).take (us'.length + 1) = ptrs us' ++ [p'] := by
  rw [List.take_append_of_le_length (by simp), List.take_of_length_le (by simp)]; simp
 rw [e]
 refine gg ?_
 exact hK u hu
theorem s_Drop_one {v : Value} {M : List Asn} (hK : G w0 (own b [i64 n, v] :: sl ptrE v (ptrs [] ++ [p]) :: M) (K (i64 10))) : G w0 (own b [i64 n, v] :: sl ptrE v (ptrs [] ++ [p]) :: M) (CP Tryz.prog Fn.levels_Levels_Drop [ptr b 0] K) := by
 refine C_levels_Levels_Drop ?_
 unfold S_levels_Levels_Drop
 have hll : (ptrs [] ++ [p]).length = 1 := by simp
 have h1 : ((1 : Nat) : Int) = 1 := rfl
 refine grf (an hll h1) ?_
 exact hK
theorem up_cons {q : Lv} {up : List Lv} (h : lvs us = (q :: up).reverse) : ∃ us' p' c', us = us' ++ [(p', c', q)] ∧ lvs us' = up.reverse := by
 rw [List.reverse_cons] at h
 obtain ⟨us', y, hl, h4, h5⟩ := List.map_eq_append_iff.1 h
 obtain ⟨z, zs, rfl, h6, h7⟩ := List.map_eq_cons_iff.1 h5
 have : zs = [] := by simpa using h7
 subst this
 obtain ⟨p, c, q'⟩ := z
 simp only at h6
 subst h6
 exact ⟨us', p, c, hl, h4⟩
theorem s_levels_Levels_Drop [i : SelOb L LevelsR b s C] (hK : G w0 (C (ob LevelsR b (lDrop s).1)) (K (i64 (lDrop s).2))) : G w0 L (CP Tryz.prog Fn.levels_Levels_Drop [ptr b 0] K) := by
 refine i.use (fun M hK => ?_) hK
 rw [LevelsR_in]
 rintro v p c us ⟨hv, hs, hu⟩
 have hul := us_len hu
 have h6 := hs.six
 unfold lDrop at hK
 cases e : s.up with
 | nil =>
  rw [e] at hK hu
  have : us = [] := by simpa using hu
  subst this
  refine s_Drop_one ?_
  refine LevelsR_close b s [] p c rfl ⟨hv, hs, by rw [e]; rfl⟩ ?_
  exact hK
 | cons q up =>
  rw [e] at hK hu
  obtain ⟨us', p', c', rfl, hu'⟩ := up_cons hu
  simp only [List.length_append, List.length_singleton] at hul
  refine s_Drop_in (by omega) fun v' hv' => ?_
  refine G.take1 UpR b ?_
  rw [UpR_snoc]
  refine LevelsR_close b ⟨s.most, q, up⟩ us' p' c' rfl ⟨hv', hs.dropped e, hu'⟩ ?_
  exact hK.sub
theorem s_levels_Levels_Keep [i : SelOb L LevelsR b s C] (hf : s.frees.length ≤ 1000000) (hK : G w0 (C (ob LevelsR b (lKeep s).1)) (K (i64 (lKeep s).2))) : G w0 L (CP Tryz.prog Fn.levels_Levels_Keep [ptr b 0] K) := by
 refine i.use (fun M hK => ?_) hK
 rw [LevelsR_in]
 rintro v p c us ⟨hv, hs, hu⟩
 have hul := us_len hu
 have h6 := hs.six
 refine C_levels_Levels_Keep ?_
 unfold S_levels_Levels_Keep
 refine s_in (by omega) ?_
 unfold lKeep at hK
 cases e : s.up with
 | nil =>
  rw [e] at hK hu
  have : us = [] := by simpa using hu
  subst this
  refine s_Drop_one ?_
  refine gr ?_
  refine LevelsR_close b s [] p c rfl ⟨hv, hs, by rw [e]; rfl⟩ ?_
  exact hK
 | cons q up =>
  rw [e] at hK hu
  obtain ⟨us', p', c', rfl, hu'⟩ := up_cons hu
  simp only [List.length_append, List.length_singleton] at hul
  have hf2 : q.f.length + s.r.f.length ≤ 1000000 := by
   unfold LvS.frees at hf
   rw [e, List.reverse_cons, freesR_append, freesR_append] at hf
   simp only [freesR, List.flatMap_cons, List.flatMap_nil, List.append_nil, List.length_append] at hf
   omega
  have hl := hs.len
  have hi := hs.hi
  have ho := hs.ok s.r (by simp)
  rw [e, totalC_cons, totalC_cons] at hl
  refine s_Drop_in (by omega) fun v' hv' => ?_
  refine G.take1 UpR b ?_
  rw [UpR_snoc]
  refine G.take1 LevelR p ?_
  rw [LevelR_open]
  intro v2 hv2
  refine G.take1 LevelR p' ?_
  rw [LevelR_open]
  intro v3 hv3
  refine G.take1 (slR ptrE) v' ?_
  refine G.take1 ownR b ?_
  refine gr ?_
  refine s_in (by omega) ?_
  repeat' (first | (with_reducible refine G.joini0 ?_) | (with_reducible refine G.joini1 ?_) | (with_reducible refine G.drew ?_) | (simp (maxSteps := 2000000) only [↓RG, RP, RB, BEq.rfl, Int.reduceEq, Int.reduceLT, Int.reduceLE, Nat.reduceEqDiff]))
  refine G.append (xs := q.f) (ys := s.r.f) (by omega) (by simp only [maxLen]; omega) fun u hu2 => ?_
  repeat' (first | (with_reducible refine G.joini0 ?_) | (with_reducible refine G.joini1 ?_) | (with_reducible refine G.drew ?_) | (simp (maxSteps := 2000000) only [↓RG, RP, RB, BEq.rfl, Int.reduceEq, Int.reduceLT, Int.reduceLE, Nat.reduceEqDiff]))
  refine s_writes_Writes_All (cs := s.r.c) (most := 96) fun u2 hu3 => ?_
  refine gg ?_
  refine s_writes_Writes_Take (cs := q.c) (most := 96) (l := s.r.c) (by omega) ?_
  rw [wTake_room ho.places (by omega)]
  refine gg ?_
  refine LevelR_close p' c' ⟨putsC q.c s.r.c, q.f ++ s.r.f⟩ hu2 ?_
  refine LevelsR_close b ⟨s.most, ⟨putsC q.c s.r.c, q.f ++ s.r.f⟩, up⟩ us' p' c' rfl ⟨hv', hs.kept e, hu'⟩ ?_
  exact hK.sub
end
end Go.Proofs.YtoealglbimbbmaaGreatDoor.S
namespace Go.Proofs.YtoealglbimbbmaaGreatDoor.S
open Go Go.Proofs
set_option linter.unusedVariables false
set_option linter.unusedSimpArgs false
theorem totalC_take {l : List Lv} {k : Nat} (hk : k < l.length) : totalC (l.take (k + 1)) = totalC (l.take k) + l[k].c.length := by
 rw [List.take_add_one, List.getElem?_eq_getElem hk, totalC_append]
 simp [totalC]
theorem totalC_take_le {l : List Lv} {k : Nat} : totalC (l.take k) ≤ totalC l := by
 have : totalC (l.take k ++ l.drop k) = totalC (l.take k) + totalC (l.drop k) := totalC_append
 rw [List.take_append_drop] at this
 omega
theorem freesR_take {l : List Lv} {k : Nat} (hk : k < l.length) : freesR (l.take (k + 1)) = freesR (l.take k) ++ l[k].f := by
 rw [List.take_add_one, List.getElem?_eq_getElem hk, freesR_append]
 simp [freesR]
theorem freesR_take_le {l : List Lv} {k : Nat} (hk : k < l.length) : (freesR (l.take k)).length + l[k].f.length ≤ (freesR l).length := by
 have : freesR (l.take (k + 1) ++ l.drop (k + 1)) = freesR (l.take (k + 1)) ++ freesR (l.drop (k + 1)) := freesR_append
 rw [List.take_append_drop, freesR_take hk] at this
 rw [this]
 simp
section
variable {w0 : Base} {L M : List Asn} {K : KV} {F : World → Prop} {C : Asn → List Asn} {b p c k : Nat} {a x n : Int} {r : Lv} {s : LvS} {l us : List (Nat × Nat × Lv)} {v : Value} {xs : List Nat}
theorem at_k {k : Nat} (hk : k < l.length) : ∃ p c, l[k]? = some (p, c, l[k].2.2) ∧ Elem (ptrs l) k p ∧ ∃ h : k < (lvs l).length, (lvs l)[k] = l[k].2.2 :=
 ⟨l[k].1, l[k].2.1, List.getElem?_eq_getElem hk, ⟨by simp [hk]⟩, by simpa using hk, by simp⟩
theorem s_Room_open (hx : xs = ptrs l) (hl : l.length ≤ 1000000) (h0 : 0 ≤ n) (h1 : n ≤ 96) (ht : totalC (lvs l) ≤ 96) (hK : G w0 (own b [i64 n, v] :: sl ptrE v xs :: ob UpR b l :: M) (K (i64 (n - totalC (lvs l))))) :
  G w0 (own b [i64 n, v] :: sl ptrE v xs :: ob UpR b l :: M) (CP Tryz.prog Fn.levels_Levels_Room [ptr b 0] K) := by
 subst hx
 refine C_levels_Levels_Room ?_
 unfold S_levels_Levels_Room
 have hll : (ptrs l).length = l.length := by simp
 refine grf hll ?_
 refine G.loop2 (fun k : Nat => i64 (n - totalC ((lvs l).take k))) (fun k : Nat => i64 k) (fun _ => own b [i64 n, v] :: sl ptrE v (ptrs l) :: ob UpR b l :: M) (fun k => k ≤ l.length) (fun k => l.length - k) 0 (by simp [totalC]) rfl rfl (by simp) ?_
 intro k hk J hJ
 refine gr ?_
 refine G.cond (fun h => ?_) (fun h => ?_)
 ·have hk2 : k < l.length := by simpa using h
  obtain ⟨p, c, hx, e, hk3, e2⟩ := at_k hk2
  have t1 := totalC_take hk3
  have t2 := totalC_take_le (l := lvs l) (k := k)
  have t3 := totalC_take_le (l := lvs l) (k := k + 1)
  rw [e2] at t1
  generalize l[k].2.2 = r at hx t1
  refine gr ?_
  refine G.take1 UpR b ?_
  rw [UpR_at hx, LevelR_open]
  intro v2 hv2
  refine gr ?_
  refine s_writes_Writes_Len (cs := r.c) (most := 96) ?_
  refine gr ?_
  rw [wsucc (by omega), wi64 (by omega) (by omega)]
  refine LevelR_close p c r hv2 ?_
  refine UpR_back (b := b) hx ?_
  have h := hJ (k + 1) hk2 (by omega)
  rw [t1] at h
  rw [show n - (totalC (List.take k (lvs l)) : Int) - r.c.length = n - ((totalC (List.take k (lvs l)) + r.c.length : Nat) : Int) by omega]
  exact h.sub
 ·have : (lvs l).take k = lvs l := List.take_of_length_le (by simpa using h)
  rw [this]
  exact hK
theorem OkL.total {s : LvS} (hs : OkL s) (hl : lvs l = s.up.reverse ++ [s.r]) : totalC (lvs l) = totalC (s.r :: s.up) := by
 rw [hl, totalC_append, totalC_reverse, totalC_cons, totalC_cons]; simp [totalC]; omega
theorem l_len {s : LvS} (hl : lvs l = s.up.reverse ++ [s.r]) : l.length = s.up.length + 1 := by
 have := congrArg List.length hl
 simpa using this
theorem s_levels_Levels_Put [i : SelOb L LevelsR b s C] (hK : G w0 (C (ob LevelsR b (if lErr s a = 0 then s.put a x else s))) (K (i64 (lErr s a)))) : G w0 L (CP Tryz.prog Fn.levels_Levels_Put [ptr b 0, i64 a, u64 x] K) := by
 refine i.use (fun M hK => ?_) hK
 refine C_levels_Levels_Put ?_
 unfold S_levels_Levels_Put
 try simp (maxSteps := 2000000) only [fuse_and, fuse_or, fuse_step, fuse_pair, fuse_in, andP_true]
 refine gr ?_
 refine G.cond (fun h => ?_) (fun h => ?_)
 ·have h0 : lErr s a = 2 := by unfold lErr; rw [if_neg]; rw [okAt_iff]; simp at h; omega
  rw [h0] at hK
  exact hK
 ·have ha : okAt a = true := by rw [okAt_iff]; simp at h; omega
  rw [LevelsR_in]
  rintro v p c us ⟨hv, hs, hu⟩
  have hul := us_len hu
  have h6 := hs.six
  have b1 := hs.lo
  have b2 := hs.hi
  have b3 := hs.len
  refine s_in (by omega) ?_
  refine G.take1 LevelR p ?_
  rw [LevelR_open]
  intro v2 hv2
  refine gr ?_
  refine s_writes_Writes_Get (cs := s.r.c) (most := 96) ?_
  have hsome := idxC_isSome (cs := s.r.c) (a := a)
  cases hi : lookC s.r.c a with
  | some y =>
   rw [hi] at hsome
   have h0 : lErr s a = 0 := by unfold lErr; rw [if_pos ha, hsome]; rfl
   have h1 : wErr 96 s.r.c a = 0 := by unfold wErr; rw [if_pos ha, hsome]; rfl
   rw [h0, if_pos rfl] at hK
   simp only [lookV, hi]
   refine gg ?_
   refine s_writes_Writes_Put (cs := s.r.c) (most := 96) ?_
   rw [h1, if_pos rfl]
   refine LevelR_close p c ⟨putC s.r.c a x, s.r.f⟩ hv2 ?_
   refine LevelsR_close b ⟨s.most, ⟨putC s.r.c a x, s.r.f⟩, s.up⟩ us p c rfl ⟨hv, hs.put h0, hu⟩ ?_
   exact hK
  | none =>
   rw [hi] at hsome
   have hsome : (idxC s.r.c a).isSome = false := by simpa using hsome
   simp only [lookV, hi]
   refine gg ?_
   refine LevelR_close p c s.r hv2 ?_
   refine UpR_push b us p c s.r ?_
   refine G.take1 (slR ptrE) v ?_
   refine G.take1 ownR b ?_
   have hl : lvs (us ++ [(p, c, s.r)]) = s.up.reverse ++ [s.r] := by rw [lvs_append, hu]; rfl
   have ht := hs.total hl
   refine s_Room_open (l := us ++ [(p, c, s.r)]) (by rw [ptrs_append]; rfl) (by simp; omega) (by omega) (by omega) (by omega) ?_
   rw [ht]
   by_cases hr : s.room = 0
   ·have h0 : lErr s a = 5 := by unfold lErr; rw [if_pos ha, hsome]; simp [hr]
    have hr2 : s.most - (totalC (s.r :: s.up) : Int) = 0 := hr
    rw [h0, if_neg (by decide)] at hK
    refine gf hr2 ?_
    refine G.take1 UpR b ?_
    rw [UpR_snoc]
    refine LevelsR_close b s us p c rfl ⟨hv, hs, hu⟩ ?_
    exact hK
   ·have h0 : lErr s a = 0 := by unfold lErr; rw [if_pos ha, hsome]; simp [hr]
    have hr2 : ¬ s.most - (totalC (s.r :: s.up) : Int) = 0 := hr
    have hlen : s.r.c.length < 96 := by rw [totalC_cons] at b3 hr2; omega
    have h1 : wErr 96 s.r.c a = 0 := by unfold wErr; rw [if_pos ha, hsome, if_neg (by decide), if_neg (by omega)]
    rw [h0, if_pos rfl] at hK
    refine gf hr2 ?_
    refine G.take1 UpR b ?_
    rw [UpR_snoc, LevelR_open]
    intro v3 hv3
    refine s_writes_Writes_Put (cs := s.r.c) (most := 96) ?_
    rw [h1, if_pos rfl]
    refine LevelR_close p c ⟨putC s.r.c a x, s.r.f⟩ hv3 ?_
    refine LevelsR_close b ⟨s.most, ⟨putC s.r.c a x, s.r.f⟩, s.up⟩ us p c rfl ⟨hv, hs.put h0, hu⟩ ?_
    exact hK
theorem s_levels_Levels_Frees [i : SelOb L LevelsR b s C] (hf : s.frees.length ≤ 1000000) (hK : ∀ u, Cells u [u] → G w0 (sl intE u s.frees :: L) (K u)) : G w0 L (CP Tryz.prog Fn.levels_Levels_Frees [ptr b 0] K) := by
 refine i.roN (fun M hK => ?_) hK
 rw [LevelsR_open]
 rintro v l ⟨hv, hs, hl⟩
 have hll : (ptrs l).length = l.length := by simp
 have h4 := hs.six
 have h5 := l_len hl
 unfold LvS.frees at hf hK
 rw [← hl] at hf hK
 refine C_levels_Levels_Frees ?_
 unfold S_levels_Levels_Frees
 refine grf hll ?_
 refine G.nilsl intE ?_
 refine G.loop2 (σ := Value × Nat) (fun z => z.1) (fun z => i64 z.2) (fun z => sl intE z.1 (freesR ((lvs l).take z.2)) :: own b [i64 s.most, v] :: sl ptrE v (ptrs l) :: ob UpR b l :: M) (fun z => z.2 ≤ l.length ∧ Cells z.1 [z.1]) (fun z => l.length - z.2) (_, 0) rfl rfl (by simp [freesR]) ⟨by simp, cells_slice⟩ ?_
 rintro ⟨u, k⟩ ⟨hk, hu⟩ J hJ
 simp only at hk hu hJ ⊢
 refine gr ?_
 refine G.cond (fun h => ?_) (fun h => ?_)
 ·have hk2 : k < l.length := by simpa using h
  obtain ⟨p, c, hx, e, hk3, e2⟩ := at_k hk2
  have t1 := freesR_take hk3
  have t2 := freesR_take_le hk3
  rw [e2] at t1 t2
  generalize l[k].2.2 = r at hx t1 t2
  refine gr ?_
  refine G.take1 UpR b ?_
  rw [UpR_at hx, LevelR_open]
  intro v2 hv2
  refine gr ?_
  refine G.append (xs := freesR (List.take k (lvs l))) (ys := r.f) (by omega) (by simp only [maxLen]; omega) fun u2 hu2 => ?_
  refine gr ?_
  rw [wsucc (by omega)]
  refine LevelR_close p c r hv2 ?_
  refine UpR_back (b := b) hx ?_
  have h := hJ (u2, k + 1) ⟨hk2, hu2⟩ (by simp; omega)
  simp only [t1] at h
  exact h.sub
 ·have : (lvs l).take k = lvs l := List.take_of_length_le (by simpa using h)
  rw [this]
  have hK := hK u hu
  rw [G_swap, LevelsR_open] at hK
  exact (hK v l ⟨hv, hs, hl⟩).sub
def lvAt (l : List (Nat × Nat × Lv)) (k : Nat) : Lv := match l[k]? with | some x => x.2.2 | none => ⟨[], []⟩
theorem lvAt_eq {k : Nat} {p c : Nat} {r : Lv} (h : l[k]? = some (p, c, r)) : lvAt l k = r := by unfold lvAt; rw [h]
theorem backs_lvs : (backs (ptrs l).length).map (fun i => lvAt l i.1) = (lvs l).reverse :=
 backs_map (l := lvs l) (lvAt l) (by simp) fun i y h => by
  unfold lvAt
  rw [List.getElem?_map] at h
  cases e : l[i]? with
  | none => rw [e] at h; cases h
  | some z => rw [e] at h; cases h; rfl
def lookRV (s : LvS) (a : Int) : Value := match lookR (s.r :: s.up) a with | some x => .tuple #[u64 x, .bool true] | none => .tuple #[u64 0, .bool false]
theorem s_levels_Levels_Get [i : SelOb L LevelsR b s C] (hK : G w0 L (K (lookRV s a))) : G w0 L (CP Tryz.prog Fn.levels_Levels_Get [ptr b 0, i64 a] K) := by
 refine i.ro (fun M hK => ?_) hK
 refine C_levels_Levels_Get ?_
 unfold S_levels_Levels_Get
 refine G.box fun x1 => ?_
 refine G.new fun x2 => ?_
 refine G.new fun x3 => ?_
 refine G.take1 LevelsR b ?_
 rw [LevelsR_open]
 rintro v l ⟨hv, hs, hl⟩
 have hll : (ptrs l).length = l.length := by simp
 have h4 := hs.six
 have h5 := l_len hl
 have hrev : (backs (ptrs l).length).map (fun i => lvAt l i.1) = s.r :: s.up := by rw [backs_lvs, hl]; simp
 refine gr ?_
 refine C_slices_Backward_levels_level_levels_level ?_
 unfold S_slices_Backward_levels_level_levels_level
 refine G.box (cs := [v]) fun d => ?_
 refine G.backP (v := v) (rows := ptrs l) (fun _ => own d [v] :: own b [i64 s.most, v] :: sl ptrE v (ptrs l) :: ob UpR b l :: own x3 [.bool false] :: own x2 [u64 0] :: own x1 [i64 a] :: M)
  (fun pre => own d [v] :: own b [i64 s.most, v] :: sl ptrE v (ptrs l) :: ob UpR b l :: own x3 [.bool true] :: own x2 [u64 (match pre.getLast? with | some i => (lookC (lvAt l i.1).c a).getD 0 | none => 0)] :: own x1 [i64 a] :: M)
  (fun pre => ∀ i ∈ pre, lookC (lvAt l i.1).c a = none) (fun pre => ∃ pre' i x, pre = pre' ++ [i] ∧ (∀ i ∈ pre', lookC (lvAt l i.1).c a = none) ∧ lookC (lvAt l i.1).c a = some x)
  (by omega) (fun pre W H => ⟨H.own_mem.2.1, (H.drop.drop).sl_is⟩) rfl (by simp) (fun k m pre i J R hp hJ hR => ?_) (fun k m K' hp hk => ?_) (fun k m K' pre hpre hp hk => ?_)
 ·have hk2 : i.1 < l.length := by have := i.2; omega
  obtain ⟨p, c, hx, e, hk3, e2⟩ := at_k hk2
  have ep : (ptrs l)[i.1] = p := by have := e.eq; rw [List.getElem?_eq_getElem i.2] at this; exact Option.some.inj this
  generalize hr : l[i.1].2.2 = r at hx
  have hat := lvAt_eq hx
  rw [ep]
  refine gg ?_
  refine G.take1 UpR b ?_
  rw [UpR_at hx, LevelR_open]
  intro v2 hv2
  refine gg ?_
  refine s_writes_Writes_Get (cs := r.c) (most := 96) ?_
  cases hi : lookC r.c a with
  | some y =>
   simp only [lookV, hi]
   refine gg ?_
   refine LevelR_close p c r hv2 ?_
   refine UpR_back (b := b) hx ?_
   have h := hR ⟨pre, i, y, rfl, hp, by rw [hat]; exact hi⟩
   simp only [List.getLast?_append, List.getLast?_singleton, Option.some_or, hat, hi, Option.getD_some] at h
   exact h.sub
  | none =>
   simp only [lookV, hi]
   refine gg ?_
   refine LevelR_close p c r hv2 ?_
   refine UpR_back (b := b) hx ?_
   refine (hJ fun j hj => ?_).sub
   rcases List.mem_append.1 hj with h | h
   ·exact hp j h
   ·rw [List.mem_singleton.1 h, hat]; exact hi
 ·have hn : lookR (s.r :: s.up) a = none := by
   rw [← hrev]
   refine lookR_none fun q hq => ?_
   obtain ⟨j, hj, rfl⟩ := List.mem_map.1 hq
   exact hp j hj
  simp only [lookRV, hn] at hK
  refine gg ?_
  refine hk _ _ ?_
  rw [LevelsR_open] at hK
  exact (hK v l ⟨hv, hs, hl⟩).sub
 ·obtain ⟨pre', i, y, rfl, h1, h2⟩ := hp
  obtain ⟨rest, hrest⟩ := hpre
  have hn : lookR (s.r :: s.up) a = some y := by
   rw [← hrev, ← hrest, List.append_assoc, List.map_append]
   refine lookR_hit h2 fun q hq => ?_
   obtain ⟨j, hj, rfl⟩ := List.mem_map.1 hq
   exact h1 j hj
  simp only [lookRV, hn] at hK
  simp only [List.getLast?_append, List.getLast?_singleton, Option.some_or, h2, Option.getD_some]
  refine gg ?_
  refine hk _ _ ?_
  rw [LevelsR_open] at hK
  exact (hK v l ⟨hv, hs, hl⟩).sub
end
end Go.Proofs.YtoealglbimbbmaaGreatDoor.S
namespace Go.Proofs.YtoealglbimbbmaaGreatDoor.S
open Go Go.Proofs
set_option linter.unusedVariables false
set_option linter.unusedSimpArgs false
section
variable {w0 : Base} {L M : List Asn} {K : KV} {F : World → Prop} {C : Asn → List Asn} {b p c k : Nat} {a x n : Int} {r : Lv} {s : LvS} {us : List (Nat × Nat × Lv)} {v : Value} {l : List TCell}
theorem BoxR_close {α : Type} {E : Enc α} (b : Nat) (xs : List α) [PickAll [own b [v], sl E v xs] L M] (hv : Cells v [v]) (H : G w0 (ob (BoxR E) b xs :: M) F) : G w0 L F :=
 G.pickAll (As := [own b [v], sl E v xs]) (by rw [BoxR_open] at H; exact H v hv)
theorem outP_le (l : List (Nat × Nat × Lv)) {m : Nat} (pre : List (Fin m)) : ((pre.map fun i => lvAt l i.1).foldl outT []).length ≤ 96 := by
 generalize pre.map (fun i => lvAt l i.1) = z
 have : ∀ (z : List Lv) (out : List TCell), out.length ≤ 96 → (z.foldl outT out).length ≤ 96 := fun z => by
  induction z with
  | nil => exact fun out h => h
  | cons r z ih => exact fun out _ => ih _ outT_le
 exact this z [] (by simp)
theorem s_levels_Levels_Cells [i : SelOb L LevelsR b s C] (hK : ∀ u, Cells u [u] → G w0 (sl tCellE u s.cells :: L) (K u)) : G w0 L (CP Tryz.prog Fn.levels_Levels_Cells [ptr b 0] K) := by
 refine i.roN (fun M hK => ?_) hK
 refine C_levels_Levels_Cells ?_
 unfold S_levels_Levels_Cells
 refine G.new fun x1 => ?_
 refine G.take1 LevelsR b ?_
 rw [LevelsR_open]
 rintro v l ⟨hv, hs, hl⟩
 have hll : (ptrs l).length = l.length := by simp
 have h4 := hs.six
 have h5 := l_len hl
 have hrev : (backs (ptrs l).length).map (fun i => lvAt l i.1) = s.r :: s.up := by rw [backs_lvs, hl]; simp
 refine G.nilsl tCellE ?_
 refine BoxR_close (E := tCellE) (v := .slice none 0 0) x1 [] cells_slice ?_
 refine gr ?_
 refine C_slices_Backward_levels_level_levels_level ?_
 unfold S_slices_Backward_levels_level_levels_level
 refine G.box (cs := [v]) fun d => ?_
 refine G.backP (v := v) (rows := ptrs l) (fun pre => own d [v] :: ob (BoxR tCellE) x1 ((pre.map fun i => lvAt l i.1).foldl outT []) :: own b [i64 s.most, v] :: sl ptrE v (ptrs l) :: ob UpR b l :: M)
  (fun pre => []) (fun pre => True) (fun pre => False)
  (by omega) (fun pre W H => ⟨H.own_mem.2.1, (H.drop.drop.drop).sl_is⟩) rfl trivial (fun k m pre i J R _ hJ hR => ?_) (fun k m K' _ hk => ?_) (fun k m K' pre hpre hp hk => hp.elim)
 ·have hk2 : i.1 < l.length := by have := i.2; omega
  obtain ⟨p, c, hx, e, hk3, e2⟩ := at_k hk2
  have ep : (ptrs l)[i.1] = p := by have := e.eq; rw [List.getElem?_eq_getElem i.2] at this; exact Option.some.inj this
  generalize hr : l[i.1].2.2 = r at hx
  have hat := lvAt_eq hx
  have hle := outP_le l pre
  have hJ := hJ trivial
  rw [List.map_append, List.foldl_append] at hJ
  simp only [List.map_cons, List.map_nil, List.foldl_cons, List.foldl_nil, hat] at hJ
  generalize (pre.map fun i => lvAt l i.1).foldl outT [] = out at hle hJ ⊢
  rw [show outT out r = (wTake 96 (wTake 96 [] r.c).1 out).1 from rfl] at hJ
  rw [ep]
  refine s_writes_New fun w => ?_
  rw [show held 96 0 96 = 96 from rfl]
  refine gg ?_
  refine G.take1 UpR b ?_
  rw [UpR_at hx, LevelR_open]
  intro v2 hv2
  refine G.take1 (BoxR tCellE) x1 ?_
  rw [BoxR_open]
  intro v3 hv3
  refine G.okW (b := c) (most := 96) (cs := r.c) fun hw => ?_
  have hrl : (r.c.length : Int) ≤ 96 := hw.len
  refine gg ?_
  refine s_writes_Writes_All (cs := r.c) (most := 96) fun u hu => ?_
  repeat' (first | (with_reducible refine G.joini0 ?_) | (with_reducible refine G.joini1 ?_) | (with_reducible refine G.drew ?_) | (simp (maxSteps := 2000000) only [↓RG, RP, RB, BEq.rfl, Int.reduceEq, Int.reduceLT, Int.reduceLE, Nat.reduceEqDiff]))
  refine s_writes_Writes_Take (cs := []) (most := 96) (l := r.c) (by omega) ?_
  refine gg ?_
  refine s_writes_Writes_Take (cs := (wTake 96 [] r.c).1) (most := 96) (l := out) (by omega) ?_
  repeat' (first | (with_reducible refine G.joini0 ?_) | (with_reducible refine G.joini1 ?_) | (with_reducible refine G.drew ?_) | (simp (maxSteps := 2000000) only [↓RG, RP, RB, BEq.rfl, Int.reduceEq, Int.reduceLT, Int.reduceLE, Nat.reduceEqDiff]))
  refine s_writes_Writes_All (cs := (wTake 96 (wTake 96 [] r.c).1 out).1) (most := 96) fun u2 hu2 => ?_
  refine gg ?_
  refine LevelR_close p c r hv2 ?_
  refine UpR_back (b := b) hx ?_
  refine BoxR_close (E := tCellE) x1 (wTake 96 (wTake 96 [] r.c).1 out).1 hu2 ?_
  exact hJ.sub
 ·rw [hrev, cells_eq hs]
  refine G.take1 (BoxR tCellE) x1 ?_
  rw [BoxR_open]
  intro u hu
  refine gg ?_
  refine hk _ _ ?_
  have hK := hK u hu
  rw [G_swap, LevelsR_open] at hK
  exact (hK v l ⟨hv, hs, hl⟩).sub
end
end Go.Proofs.YtoealglbimbbmaaGreatDoor.S
