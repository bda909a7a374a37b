/-
  Package draft: a container's call on a draft of a view.
-/
import Derived.Test.YtokbiojkpldfeaaGreatArena
import Derived.Test.YtokbiojkpldfeaaGreatViewLaw
namespace Go.Proofs.YtokbiojkpldfeaaGreat.S
open Go Go.Proofs
set_option linter.unusedVariables false
set_option linter.unusedSimpArgs false

/-- a draft: its view, the first error that came, its steps -/
structure DrS where
  v : VwS
  err : Int
  steps : Int

def dFail (d : DrS) (e : Int) : DrS := if d.err = 0 then { d with err := e } else d
def dRead (d : DrS) (a : Int) : DrS × Int := if d.err = 0 then (dFail { d with v := (vRead d.v a).1 } (vRead d.v a).2.2, (vRead d.v a).2.1) else (d, 0)
def dName (d : DrS) (w : Int) : DrS × Int := if 2147483648 ≤ w then (dFail d 2, 0) else (d, w64 w)
def dPlace (d : DrS) (a : Int) : DrS × Int := dName (dRead d a).1 (dRead d a).2
def dWrite (d : DrS) (a x : Int) : DrS := if d.err = 0 then dFail { d with v := (vWrite d.v a x).1 } (vWrite d.v a x).2 else d
def dPoint (d : DrS) (a t : Int) : DrS := dWrite d a (wU t)
def dAlloc (d : DrS) (n : Int) : DrS × Int := if d.err = 0 then (dFail { d with v := (aAlloc d.v n).1 } (aAlloc d.v n).2.2, (aAlloc d.v n).2.1) else (d, 0)
def dFree (d : DrS) (n : Int) : DrS := if d.err = 0 then dFail { d with v := (aFree d.v n).1 } (aFree d.v n).2 else d
def dStep (d : DrS) : DrS := if 2048 < w64 (d.steps + 1) then dFail { d with steps := w64 (d.steps + 1) } 2 else { d with steps := w64 (d.steps + 1) }

def DraftR (b : Nat) (d : DrS) : Asn := exA fun vp => star (own b [ptr vp 0, i64 d.err, i64 d.steps]) (ob ViewR vp d.v)

/-! ### what is freed in the inmost level -/
theorem lPuts_rf : ∀ {l : List TCell} {s : LvS}, (lPuts s l).1.r.f = s.r.f
  | [], s => rfl
  | c :: l, s => by
    unfold lPuts
    split
    · rw [lPuts_rf]; rfl
    · rfl
theorem vTake_rf {s : VwS} {l : List TCell} : (vTake s l).1.l.r.f = s.l.r.f := by
  unfold vTake
  split
  · show (lTake s.l l).1.r.f = _
    unfold lTake
    split
    · exact lPuts_rf
    · rfl
  · rfl
theorem vRead_l {s : VwS} {a : Int} : (vRead s a).1.l = s.l := by
  unfold vRead
  split
  · split
    · rfl
    · split <;> rfl
  · rfl
theorem aAsked_l {s : VwS} {n : Int} : (aAsked s n).1.l = s.l := by
  unfold aAsked
  split
  · rfl
  · split
    · split <;> exact vRead_l
    · exact vRead_l

section
variable {w0 : Base} {L M : List Asn} {K : KV} {F : World → Prop} {C : Asn → List Asn} {b : Nat} {d : DrS} {n a x e : Int}

theorem DraftR_open : G w0 (ob DraftR b d :: M) F = ∀ vp, G w0 (own b [ptr vp 0, i64 d.err, i64 d.steps] :: ob ViewR vp d.v :: M) F := by
  rw [ob_eq, DraftR]
  simp only [G_ex, G_star]
theorem DraftR_close {vp : Nat} (b : Nat) (d : DrS) [PickAll [own b [ptr vp 0, i64 d.err, i64 d.steps], ob ViewR vp d.v] L M] (H : G w0 (ob DraftR b d :: M) F) : G w0 L F :=
  G.pickAll (As := [own b [ptr vp 0, i64 d.err, i64 d.steps], ob ViewR vp d.v]) (by rw [DraftR_open] at H; exact H vp)

theorem s_draft_OK [i : SelOb L DraftR b d C] (hK : G w0 L (K (.bool (decide (d.err = 0))))) : G w0 L (CP Tryz.prog Fn.draft_Draft_OK [ptr b 0] K) := by
  refine i.ro (fun M hK => ?_) hK
  refine C_draft_Draft_OK ?_
  unfold S_draft_Draft_OK
  rw [DraftR_open] at *
  intro vp
  try simp (maxSteps := 2000000) only [↓RG, RB, BEq.rfl, Int.reduceEq, Int.reduceLT, Int.reduceLE, Nat.reduceEqDiff]
  exact hK vp

theorem s_draft_Fail [i : SelOb L DraftR b d C] (hK : G w0 (C (ob DraftR b (dFail d e))) (K (.tuple #[]))) : G w0 L (CP Tryz.prog Fn.draft_Draft_Fail [ptr b 0, i64 e] K) := by
  refine i.use (fun M hK => ?_) hK
  refine C_draft_Draft_Fail ?_
  unfold S_draft_Draft_Fail
  refine s_draft_OK (d := d) ?_
  unfold dFail at hK
  by_cases h : d.err = 0
  · rw [if_pos h] at hK
    repeat' (first | (with_reducible refine G.joini0 ?_) | (with_reducible refine G.joini1 ?_) | (with_reducible refine G.drew ?_) | (simp (maxSteps := 2000000) only [↓RG, RP, RB, BEq.rfl, Int.reduceEq, Int.reduceLT, Int.reduceLE, Nat.reduceEqDiff, eq_true h]))
    rw [DraftR_open] at *
    intro vp
    try simp (maxSteps := 2000000) only [↓RG, RB, BEq.rfl, Int.reduceEq, Int.reduceLT, Int.reduceLE, Nat.reduceEqDiff]
    exact hK vp
  · rw [if_neg h] at hK
    repeat' (first | (with_reducible refine G.joini0 ?_) | (with_reducible refine G.joini1 ?_) | (with_reducible refine G.drew ?_) | (simp (maxSteps := 2000000) only [↓RG, RP, RB, BEq.rfl, Int.reduceEq, Int.reduceLT, Int.reduceLE, Nat.reduceEqDiff, h]))
    exact hK

theorem s_draft_Read [i : SelOb L DraftR b d C] (hK : G w0 (C (ob DraftR b (dRead d a).1)) (K (u64 (dRead d a).2))) : G w0 L (CP Tryz.prog Fn.draft_Draft_Read [ptr b 0, i64 a] K) := by
  refine i.use (fun M hK => ?_) hK
  refine C_draft_Draft_Read ?_
  unfold S_draft_Draft_Read
  refine s_draft_OK (d := d) ?_
  unfold dRead at hK
  by_cases h : d.err = 0
  · rw [if_pos h] at hK
    repeat' (first | (with_reducible refine G.joini0 ?_) | (with_reducible refine G.joini1 ?_) | (with_reducible refine G.drew ?_) | (simp (maxSteps := 2000000) only [↓RG, RP, RB, BEq.rfl, Int.reduceEq, Int.reduceLT, Int.reduceLE, Nat.reduceEqDiff, eq_true h]))
    rw [DraftR_open]
    intro vp
    try simp (maxSteps := 2000000) only [↓RG, RB, BEq.rfl, Int.reduceEq, Int.reduceLT, Int.reduceLE, Nat.reduceEqDiff]
    refine s_view_Read (b := vp) (s := d.v) ?_
    try simp (maxSteps := 2000000) only [↓RG, RB, BEq.rfl, Int.reduceEq, Int.reduceLT, Int.reduceLE, Nat.reduceEqDiff]
    refine DraftR_close (vp := vp) b { d with v := (vRead d.v a).1 } ?_
    refine s_draft_Fail (d := { d with v := (vRead d.v a).1 }) ?_
    exact hK
  · rw [if_neg h] at hK
    repeat' (first | (with_reducible refine G.joini0 ?_) | (with_reducible refine G.joini1 ?_) | (with_reducible refine G.drew ?_) | (simp (maxSteps := 2000000) only [↓RG, RP, RB, BEq.rfl, Int.reduceEq, Int.reduceLT, Int.reduceLE, Nat.reduceEqDiff, h]))
    exact hK

theorem s_draft_Name {w : Int} [i : SelOb L DraftR b d C] (hK : G w0 (C (ob DraftR b (dName d w).1)) (K (i64 (dName d w).2))) : G w0 L (CP Tryz.prog Fn.draft_Draft_Name [ptr b 0, u64 w] K) := by
  refine i.use (fun M hK => ?_) hK
  refine C_draft_Draft_Name ?_
  unfold S_draft_Draft_Name
  unfold dName at hK
  by_cases h : 2147483648 ≤ w
  · rw [if_pos h] at hK
    repeat' (first | (with_reducible refine G.joini0 ?_) | (with_reducible refine G.joini1 ?_) | (with_reducible refine G.drew ?_) | (simp (maxSteps := 2000000) only [↓RG, RP, RB, BEq.rfl, Int.reduceEq, Int.reduceLT, Int.reduceLE, Nat.reduceEqDiff, h]))
    refine s_draft_Fail (d := d) ?_
    exact hK
  · rw [if_neg h] at hK
    repeat' (first | (with_reducible refine G.joini0 ?_) | (with_reducible refine G.joini1 ?_) | (with_reducible refine G.drew ?_) | (simp (maxSteps := 2000000) only [↓RG, RP, RB, BEq.rfl, Int.reduceEq, Int.reduceLT, Int.reduceLE, Nat.reduceEqDiff, h]))
    exact hK

theorem s_draft_Place [i : SelOb L DraftR b d C] (hK : G w0 (C (ob DraftR b (dPlace d a).1)) (K (i64 (dPlace d a).2))) : G w0 L (CP Tryz.prog Fn.draft_Draft_Place [ptr b 0, i64 a] K) := by
  refine i.use (fun M hK => ?_) hK
  refine C_draft_Draft_Place ?_
  unfold S_draft_Draft_Place
  refine s_draft_Read (d := d) ?_
  refine s_draft_Name (d := (dRead d a).1) ?_
  exact hK

theorem s_draft_Write [i : SelOb L DraftR b d C] (hK : G w0 (C (ob DraftR b (dWrite d a x))) (K (.tuple #[]))) : G w0 L (CP Tryz.prog Fn.draft_Draft_Write [ptr b 0, i64 a, u64 x] K) := by
  refine i.use (fun M hK => ?_) hK
  refine C_draft_Draft_Write ?_
  unfold S_draft_Draft_Write
  refine s_draft_OK (d := d) ?_
  unfold dWrite at hK
  by_cases h : d.err = 0
  · rw [if_pos h] at hK
    repeat' (first | (with_reducible refine G.joini0 ?_) | (with_reducible refine G.joini1 ?_) | (with_reducible refine G.drew ?_) | (simp (maxSteps := 2000000) only [↓RG, RP, RB, BEq.rfl, Int.reduceEq, Int.reduceLT, Int.reduceLE, Nat.reduceEqDiff, eq_true h]))
    rw [DraftR_open]
    intro vp
    try simp (maxSteps := 2000000) only [↓RG, RB, BEq.rfl, Int.reduceEq, Int.reduceLT, Int.reduceLE, Nat.reduceEqDiff]
    refine s_view_Write (b := vp) (s := d.v) ?_
    try simp (maxSteps := 2000000) only [↓RG, RB, BEq.rfl, Int.reduceEq, Int.reduceLT, Int.reduceLE, Nat.reduceEqDiff]
    refine DraftR_close (vp := vp) b { d with v := (vWrite d.v a x).1 } ?_
    refine s_draft_Fail (d := { d with v := (vWrite d.v a x).1 }) ?_
    exact hK
  · rw [if_neg h] at hK
    repeat' (first | (with_reducible refine G.joini0 ?_) | (with_reducible refine G.joini1 ?_) | (with_reducible refine G.drew ?_) | (simp (maxSteps := 2000000) only [↓RG, RP, RB, BEq.rfl, Int.reduceEq, Int.reduceLT, Int.reduceLE, Nat.reduceEqDiff, h]))
    exact hK

theorem s_draft_Point {t : Int} [i : SelOb L DraftR b d C] (hK : G w0 (C (ob DraftR b (dPoint d a t))) (K (.tuple #[]))) : G w0 L (CP Tryz.prog Fn.draft_Draft_Point [ptr b 0, i64 a, i64 t] K) := by
  refine i.use (fun M hK => ?_) hK
  refine C_draft_Draft_Point ?_
  unfold S_draft_Draft_Point
  try simp (maxSteps := 2000000) only [↓RG, RB, BEq.rfl, Int.reduceEq, Int.reduceLT, Int.reduceLE, Nat.reduceEqDiff]
  refine s_draft_Write (d := d) ?_
  exact hK

theorem s_draft_Alloc [i : SelOb L DraftR b d C] (hK : G w0 (C (ob DraftR b (dAlloc d n).1)) (K (i64 (dAlloc d n).2))) : G w0 L (CP Tryz.prog Fn.draft_Draft_Alloc [ptr b 0, i64 n] K) := by
  refine i.use (fun M hK => ?_) hK
  refine C_draft_Draft_Alloc ?_
  unfold S_draft_Draft_Alloc
  refine s_draft_OK (d := d) ?_
  unfold dAlloc at hK
  by_cases h : d.err = 0
  · rw [if_pos h] at hK
    repeat' (first | (with_reducible refine G.joini0 ?_) | (with_reducible refine G.joini1 ?_) | (with_reducible refine G.drew ?_) | (simp (maxSteps := 2000000) only [↓RG, RP, RB, BEq.rfl, Int.reduceEq, Int.reduceLT, Int.reduceLE, Nat.reduceEqDiff, eq_true h]))
    rw [DraftR_open]
    intro vp
    try simp (maxSteps := 2000000) only [↓RG, RB, BEq.rfl, Int.reduceEq, Int.reduceLT, Int.reduceLE, Nat.reduceEqDiff]
    refine s_arena_Alloc (b := vp) (s := d.v) ?_
    try simp (maxSteps := 2000000) only [↓RG, RB, BEq.rfl, Int.reduceEq, Int.reduceLT, Int.reduceLE, Nat.reduceEqDiff]
    refine DraftR_close (vp := vp) b { d with v := (aAlloc d.v n).1 } ?_
    refine s_draft_Fail (d := { d with v := (aAlloc d.v n).1 }) ?_
    exact hK
  · rw [if_neg h] at hK
    repeat' (first | (with_reducible refine G.joini0 ?_) | (with_reducible refine G.joini1 ?_) | (with_reducible refine G.drew ?_) | (simp (maxSteps := 2000000) only [↓RG, RP, RB, BEq.rfl, Int.reduceEq, Int.reduceLT, Int.reduceLE, Nat.reduceEqDiff, h]))
    exact hK

theorem s_draft_Free (hf : d.v.l.r.f.length ≤ 1000) [i : SelOb L DraftR b d C] (hK : G w0 (C (ob DraftR b (dFree d n))) (K (.tuple #[]))) : G w0 L (CP Tryz.prog Fn.draft_Draft_Free [ptr b 0, i64 n] K) := by
  refine i.use (fun M hK => ?_) hK
  refine C_draft_Draft_Free ?_
  unfold S_draft_Draft_Free
  refine s_draft_OK (d := d) ?_
  unfold dFree at hK
  by_cases h : d.err = 0
  · rw [if_pos h] at hK
    repeat' (first | (with_reducible refine G.joini0 ?_) | (with_reducible refine G.joini1 ?_) | (with_reducible refine G.drew ?_) | (simp (maxSteps := 2000000) only [↓RG, RP, RB, BEq.rfl, Int.reduceEq, Int.reduceLT, Int.reduceLE, Nat.reduceEqDiff, eq_true h]))
    rw [DraftR_open]
    intro vp
    try simp (maxSteps := 2000000) only [↓RG, RB, BEq.rfl, Int.reduceEq, Int.reduceLT, Int.reduceLE, Nat.reduceEqDiff]
    refine s_arena_Free (b := vp) (s := d.v) hf (fun l => by rw [vTake_rf, aAsked_l]; omega) ?_
    try simp (maxSteps := 2000000) only [↓RG, RB, BEq.rfl, Int.reduceEq, Int.reduceLT, Int.reduceLE, Nat.reduceEqDiff]
    refine DraftR_close (vp := vp) b { d with v := (aFree d.v n).1 } ?_
    refine s_draft_Fail (d := { d with v := (aFree d.v n).1 }) ?_
    exact hK
  · rw [if_neg h] at hK
    repeat' (first | (with_reducible refine G.joini0 ?_) | (with_reducible refine G.joini1 ?_) | (with_reducible refine G.drew ?_) | (simp (maxSteps := 2000000) only [↓RG, RP, RB, BEq.rfl, Int.reduceEq, Int.reduceLT, Int.reduceLE, Nat.reduceEqDiff, h]))
    exact hK

theorem s_draft_Step [i : SelOb L DraftR b d C] (hK : G w0 (C (ob DraftR b (dStep d))) (K (.bool (decide ((dStep d).err = 0))))) : G w0 L (CP Tryz.prog Fn.draft_Draft_Step [ptr b 0] K) := by
  refine i.use (fun M hK => ?_) hK
  refine C_draft_Draft_Step ?_
  unfold S_draft_Draft_Step
  rw [DraftR_open]
  intro vp
  try simp (maxSteps := 2000000) only [↓RG, RB, BEq.rfl, Int.reduceEq, Int.reduceLT, Int.reduceLE, Nat.reduceEqDiff]
  refine DraftR_close (vp := vp) b { d with steps := w64 (d.steps + 1) } ?_
  unfold dStep at hK
  by_cases h : 2048 < w64 (d.steps + 1)
  · rw [if_pos h] at hK
    repeat' (first | (with_reducible refine G.joini0 ?_) | (with_reducible refine G.joini1 ?_) | (with_reducible refine G.drew ?_) | (simp (maxSteps := 2000000) only [↓RG, RP, RB, BEq.rfl, Int.reduceEq, Int.reduceLT, Int.reduceLE, Nat.reduceEqDiff, h]))
    refine s_draft_Fail (d := { d with steps := w64 (d.steps + 1) }) ?_
    repeat' (first | (with_reducible refine G.joini0 ?_) | (with_reducible refine G.joini1 ?_) | (with_reducible refine G.drew ?_) | (simp (maxSteps := 2000000) only [↓RG, RP, RB, BEq.rfl, Int.reduceEq, Int.reduceLT, Int.reduceLE, Nat.reduceEqDiff]))
    refine s_draft_OK (d := dFail { d with steps := w64 (d.steps + 1) } 2) ?_
    exact hK
  · rw [if_neg h] at hK
    repeat' (first | (with_reducible refine G.joini0 ?_) | (with_reducible refine G.joini1 ?_) | (with_reducible refine G.drew ?_) | (simp (maxSteps := 2000000) only [↓RG, RP, RB, BEq.rfl, Int.reduceEq, Int.reduceLT, Int.reduceLE, Nat.reduceEqDiff, h]))
    refine s_draft_OK (d := { d with steps := w64 (d.steps + 1) }) ?_
    exact hK

end

/-! ### a draft of a view -/
def knowAll (s : VwS) (l : List TCell) : VwS := l.foldl (fun s c => (vKnow s c.place c.word).1) s
theorem knowAll_take {s : VwS} {l : List TCell} {k : Nat} (hk : k < l.length) : knowAll s (l.take (k + 1)) = (vKnow (knowAll s (l.take k)) l[k].place l[k].word).1 := by
  unfold knowAll
  rw [List.take_add_one, List.getElem?_eq_getElem hk, List.foldl_append]
  rfl
def dOf (s : VwS) : VwS := knowAll (knowAll (vNew s.size 96) s.l.cells) s.k
def freeAll (s : LvS) (l : List Int) : LvS := l.foldl (fun s n => s.free n) s
theorem freeAll_take {s : LvS} {l : List Int} {k : Nat} (hk : k < l.length) : freeAll s (l.take (k + 1)) = (freeAll s (l.take k)).free l[k] := by
  unfold freeAll
  rw [List.take_add_one, List.getElem?_eq_getElem hk, List.foldl_append]
  rfl
theorem freeAll_f {s : LvS} : ∀ {l : List Int}, (freeAll s l).r.f = s.r.f ++ l := by
  intro l
  induction l generalizing s with
  | nil => simp [freeAll]
  | cons n l ih =>
    show (freeAll (s.free n) l).r.f = _
    rw [ih]
    simp [LvS.free]

/-- behind the call -/
def dEnd (s : VwS) (d : DrS) : VwS × Int :=
  if d.err = 11 then ((vRead s d.v.need).1, (vRead s d.v.need).2.2)
  else if d.err = 0 then (if (vTake s d.v.l.cells).2 = 0 then ((vTake s d.v.l.cells).1.log (freeAll (vTake s d.v.l.cells).1.l d.v.l.frees), 0) else vTake s d.v.l.cells)
  else (s, d.err)
def dDo (s : VwS) (root : Int) (f : DrS → DrS) : VwS × Int := if root < 6 ∨ 14 ≤ root then (s, 2) else dEnd s (f ⟨dOf s, 0, 0⟩)

section
variable {w0 : Base} {L M : List Asn} {K : KV} {F : World → Prop} {C : Asn → List Asn} {b : Nat} {d : DrS} {s : VwS} {n a x e : Int}

theorem nodup_few : ∀ (m : Nat) (l : List Int), l.Nodup → (∀ x ∈ l, 0 ≤ x ∧ x < m) → l.length ≤ m
  | 0, l, _, h => by
    cases l with
    | nil => simp
    | cons x l => have := h x (by simp); omega
  | m + 1, l, hn, h => by
    by_cases hm : (m : Int) ∈ l
    · have h1 := nodup_few m (l.erase m) (hn.erase _) (fun x hx => by
        have h2 := h x (List.mem_of_mem_erase hx)
        have h3 : x ≠ m := fun e => by subst e; exact (List.Nodup.not_mem_erase hn) hx
        omega)
      rw [List.length_erase_of_mem hm] at h1
      omega
    · have := nodup_few m l hn (fun x hx => by
        have h2 := h x hx
        have h3 : x ≠ m := fun e => hm (e ▸ hx)
        omega)
      omega
theorem OkV.few (h : OkV s) : s.k.length ≤ 256 := by
  have := nodup_few 256 (s.k.map (·.place)) h.nodup (fun x hx => by
    obtain ⟨c, hc, rfl⟩ := List.mem_map.1 hx
    have h1 := h.places c hc
    have h2 := h.hi
    omega)
  simpa using this

theorem G.okV [i : SelOb L ViewR b s C] (h : OkV s → OkL s.l → G w0 L F) : G w0 L F := by
  by_cases hv : OkV s
  · by_cases hl : OkL s.l
    · exact h hv hl
    · refine i.ro (F' := fun _ => True) (fun M _ => ?_) (fun _ _ => trivial)
      rw [ViewR_open]
      intro vf vo lp _
      refine G.okL (b := lp) (s := s.l) fun hl2 => absurd hl2 hl
  · refine i.ro (F' := fun _ => True) (fun M _ => ?_) (fun _ _ => trivial)
    rw [ViewR_open]
    exact fun vf vo lp h => absurd h.2.2 hv

theorem s_draft_of [i : SelOb L ViewR b s C] (hK : ∀ c, G w0 (ob ViewR c (dOf s) :: L) (K (ptr c 0))) : G w0 L (CP Tryz.prog Fn.draft_of [ptr b 0] K) := by
  refine i.roN (P := fun _ => True) (N := fun c => ob ViewR c (dOf s)) (F' := fun c => K (ptr c 0)) (fun M hK => ?_) (fun c _ => hK c)
  refine C_draft_of ?_
  unfold S_draft_of
  refine G.okV (b := b) (s := s) fun hv hl => ?_
  have hcl := cells_le hl
  have hkl := hv.few
  refine s_view_Size (b := b) (s := s) ?_
  refine s_view_New fun c => ?_
  refine s_view_Cells (b := b) (s := s) fun u hu => ?_
  try simp (maxSteps := 2000000) only [↓RG, RB, BEq.rfl, Int.reduceEq, Int.reduceLT, Int.reduceLE, Nat.reduceEqDiff]
  show G w0 (sl tCellE u s.l.cells :: ob ViewR c (vNew s.size 96) :: ob ViewR b s :: M) _
  refine G.loop1 (σ := Nat) (fun k => i64 k) (fun k => sl tCellE u s.l.cells :: ob ViewR c (knowAll (vNew s.size 96) (s.l.cells.take k)) :: ob ViewR b s :: M) (fun k => k ≤ s.l.cells.length) (fun k => s.l.cells.length - k) 0 rfl rfl (by omega) ?_
  intro k hk J hJ
  try simp (maxSteps := 2000000) only [↓RG, RB, BEq.rfl, Int.reduceEq, Int.reduceLT, Int.reduceLE, Nat.reduceEqDiff]
  refine G.cond (fun h => ?_) (fun h => ?_)
  · have hk2 : k < s.l.cells.length := by simpa using h
    have e := elem_of hk2
    try simp (maxSteps := 2000000) only [↓RG, RB, BEq.rfl, Int.reduceEq, Int.reduceLT, Int.reduceLE, Nat.reduceEqDiff]
    refine G.new fun q => ?_
    try simp (maxSteps := 2000000) only [↓RG, RB, BEq.rfl, Int.reduceEq, Int.reduceLT, Int.reduceLE, Nat.reduceEqDiff]
    refine G.okV (b := c) (s := knowAll (vNew s.size 96) (s.l.cells.take k)) fun hv2 _ => ?_
    have hf2 := hv2.few
    refine s_view_Know (b := c) (s := knowAll (vNew s.size 96) (s.l.cells.take k)) (by omega) ?_
    try simp (maxSteps := 2000000) only [↓RG, RB, BEq.rfl, Int.reduceEq, Int.reduceLT, Int.reduceLE, Nat.reduceEqDiff]
    rw [wsucc (by omega)]
    have h := hJ (k + 1) hk2 (by omega)
    rw [knowAll_take hk2] at h
    exact h.sub
  · have : s.l.cells.take k = s.l.cells := List.take_of_length_le (by simpa using h)
    rw [this]
    refine s_view_Known (b := b) (s := s) (by omega) fun u2 hu2 => ?_
    try simp (maxSteps := 2000000) only [↓RG, RB, BEq.rfl, Int.reduceEq, Int.reduceLT, Int.reduceLE, Nat.reduceEqDiff]
    refine G.loop1 (σ := Nat) (fun k => i64 k) (fun k => sl tCellE u2 s.k :: sl tCellE u s.l.cells :: ob ViewR c (knowAll (knowAll (vNew s.size 96) s.l.cells) (s.k.take k)) :: ob ViewR b s :: M) (fun k => k ≤ s.k.length) (fun k => s.k.length - k) 0 rfl rfl (by omega) ?_
    intro k2 hk2 J2 hJ2
    try simp (maxSteps := 2000000) only [↓RG, RB, BEq.rfl, Int.reduceEq, Int.reduceLT, Int.reduceLE, Nat.reduceEqDiff]
    refine G.cond (fun h => ?_) (fun h => ?_)
    · have hk3 : k2 < s.k.length := by simpa using h
      have e := elem_of hk3
      try simp (maxSteps := 2000000) only [↓RG, RB, BEq.rfl, Int.reduceEq, Int.reduceLT, Int.reduceLE, Nat.reduceEqDiff]
      refine G.new fun q => ?_
      try simp (maxSteps := 2000000) only [↓RG, RB, BEq.rfl, Int.reduceEq, Int.reduceLT, Int.reduceLE, Nat.reduceEqDiff]
      refine G.okV (b := c) (s := knowAll (knowAll (vNew s.size 96) s.l.cells) (s.k.take k2)) fun hv2 _ => ?_
      have hf2 := hv2.few
      refine s_view_Know (b := c) (s := knowAll (knowAll (vNew s.size 96) s.l.cells) (s.k.take k2)) (by omega) ?_
      try simp (maxSteps := 2000000) only [↓RG, RB, BEq.rfl, Int.reduceEq, Int.reduceLT, Int.reduceLE, Nat.reduceEqDiff]
      rw [wsucc (by omega)]
      have h := hJ2 (k2 + 1) hk3 (by omega)
      rw [knowAll_take hk3] at h
      exact h.sub
    · have : s.k.take k2 = s.k := List.take_of_length_le (by simpa using h)
      rw [this]
      show G w0 (sl tCellE u2 s.k :: sl tCellE u s.l.cells :: ob ViewR c (dOf s) :: ob ViewR b s :: M) _
      exact (hK c trivial).sub

/-- a call on a draft: what it does to the draft, which pieces turn -/
theorem s_draft_Do {g : Value} {root : Int} {f : DrS → DrS} {C1 : Asn → List Asn} (hf : (f ⟨dOf s, 0, 0⟩).v.l.frees.length ≤ 1000) (hs : s.l.r.f.length ≤ 100000) [i : SelOb L ViewR b s C] [i1 : SelOb M ViewR b s C1]
    (hcall : ∀ (c : Nat) (K' : KV), G w0 (ob DraftR c (f ⟨dOf s, 0, 0⟩) :: M) (K' (.tuple #[])) → G w0 (ob DraftR c ⟨dOf s, 0, 0⟩ :: L) (dynW Tryz.prog g [ptr c 0] K'))
    (hbad : (root < 6 ∨ 14 ≤ root) → G w0 L (K (i64 2)))
    (hK : ¬ (root < 6 ∨ 14 ≤ root) → G w0 (C1 (ob ViewR b (dEnd s (f ⟨dOf s, 0, 0⟩)).1)) (K (i64 (dEnd s (f ⟨dOf s, 0, 0⟩)).2))) : G w0 L (CP Tryz.prog Fn.draft_Do [ptr b 0, i64 root, g] K) := by
  refine C_draft_Do ?_
  unfold S_draft_Do
  try simp (maxSteps := 2000000) only [fuse_and, fuse_or, fuse_step, fuse_pair, fuse_in, andP_true]
  by_cases h1 : root < 6
  · try simp (maxSteps := 2000000) only [↓RG, RP, RB, BEq.rfl, Int.reduceEq, Int.reduceLT, Int.reduceLE, Nat.reduceEqDiff, h1]
    exact hbad (.inl h1)
  by_cases h2 : 14 ≤ root
  · try simp (maxSteps := 2000000) only [↓RG, RP, RB, BEq.rfl, Int.reduceEq, Int.reduceLT, Int.reduceLE, Nat.reduceEqDiff, h1, h2]
    exact hbad (.inr h2)
  have hK := hK (by omega)
  try simp (maxSteps := 2000000) only [↓RG, RP, RB, BEq.rfl, Int.reduceEq, Int.reduceLT, Int.reduceLE, Nat.reduceEqDiff, h1, h2]
  refine s_draft_of (b := b) (s := s) fun c => ?_
  try simp (maxSteps := 2000000) only [↓RG, RB, BEq.rfl, Int.reduceEq, Int.reduceLT, Int.reduceLE, Nat.reduceEqDiff]
  refine G.box fun dp => ?_
  refine DraftR_close (vp := c) dp ⟨dOf s, 0, 0⟩ ?_
  refine hcall dp _ ?_
  generalize f ⟨dOf s, 0, 0⟩ = d at hf hK ⊢
  unfold dEnd at hK
  obtain ⟨M2, e1, e2, _⟩ := i1.fronts
  rw [G_of_stars (e2 _)] at hK
  rw [G_of_stars (show stars (ob DraftR dp d :: M) = stars (ob DraftR dp d :: ob ViewR b s :: M2) by show star _ (stars M) = star _ (stars (ob ViewR b s :: M2)); rw [e1])]
  rw [DraftR_open]
  intro vp
  try simp (maxSteps := 2000000) only [↓RG, RB, BEq.rfl, Int.reduceEq, Int.reduceLT, Int.reduceLE, Nat.reduceEqDiff]
  by_cases e11 : d.err = 11
  · rw [if_pos e11] at hK
    try simp (maxSteps := 2000000) only [↓RG, RB, BEq.rfl, Int.reduceEq, Int.reduceLT, Int.reduceLE, Nat.reduceEqDiff, eq_true e11]
    refine s_view_Need (b := vp) (s := d.v) ?_
    refine s_view_Read (b := b) (s := s) ?_
    try simp (maxSteps := 2000000) only [↓RG, RB, BEq.rfl, Int.reduceEq, Int.reduceLT, Int.reduceLE, Nat.reduceEqDiff]
    exact hK.sub
  rw [if_neg e11] at hK
  by_cases e0 : d.err = 0
  · rw [if_pos e0] at hK
    try simp (maxSteps := 2000000) only [↓RG, RB, BEq.rfl, Int.reduceEq, Int.reduceLT, Int.reduceLE, Nat.reduceEqDiff, e11, eq_true e0]
    refine G.okV (b := vp) (s := d.v) fun hv hl => ?_
    have hcl := cells_le hl
    refine s_view_Cells (b := vp) (s := d.v) fun u hu => ?_
    refine s_view_Take (b := b) (s := s) (l := d.v.l.cells) (by omega) ?_
    have hrf := vTake_rf (s := s) (l := d.v.l.cells)
    generalize vTake s d.v.l.cells = t at hK hrf ⊢
    obtain ⟨s2, er⟩ := t
    simp only at hK hrf ⊢
    by_cases h3 : er = 0
    · rw [if_pos h3] at hK
      try simp (maxSteps := 2000000) only [↓RG, RB, BEq.rfl, Int.reduceEq, Int.reduceLT, Int.reduceLE, Nat.reduceEqDiff, eq_true h3]
      refine s_view_Frees (b := vp) (s := d.v) (by omega) fun u2 hu2 => ?_
      try simp (maxSteps := 2000000) only [↓RG, RB, BEq.rfl, Int.reduceEq, Int.reduceLT, Int.reduceLE, Nat.reduceEqDiff]
      refine G.sub (L' := sl intE u2 d.v.l.frees :: ob ViewR b s2 :: M2) ?_
      refine G.loop1 (σ := Nat) (fun k => i64 k) (fun k => sl intE u2 d.v.l.frees :: ob ViewR b (s2.log (freeAll s2.l (d.v.l.frees.take k))) :: M2) (fun k => k ≤ d.v.l.frees.length) (fun k => d.v.l.frees.length - k) 0 rfl rfl (by omega) ?_
      intro k hk J hJ
      try simp (maxSteps := 2000000) only [↓RG, RB, BEq.rfl, Int.reduceEq, Int.reduceLT, Int.reduceLE, Nat.reduceEqDiff]
      refine G.cond (fun h => ?_) (fun h => ?_)
      · have hk2 : k < d.v.l.frees.length := by simpa using h
        have e := elem_of hk2
        try simp (maxSteps := 2000000) only [↓RG, RB, BEq.rfl, Int.reduceEq, Int.reduceLT, Int.reduceLE, Nat.reduceEqDiff]
        refine s_view_Free (b := b) (s := s2.log (freeAll s2.l (d.v.l.frees.take k))) (by
          show (freeAll s2.l (d.v.l.frees.take k)).r.f.length ≤ _
          rw [freeAll_f, List.length_append, hrf, List.length_take]; omega) ?_
        try simp (maxSteps := 2000000) only [↓RG, RB, BEq.rfl, Int.reduceEq, Int.reduceLT, Int.reduceLE, Nat.reduceEqDiff]
        rw [wsucc (by omega)]
        have h := hJ (k + 1) hk2 (by omega)
        rw [freeAll_take hk2] at h
        exact h
      · have : d.v.l.frees.take k = d.v.l.frees := List.take_of_length_le (by simpa using h)
        rw [this]
        exact hK.sub
    · rw [if_neg h3] at hK
      try simp (maxSteps := 2000000) only [↓RG, RB, BEq.rfl, Int.reduceEq, Int.reduceLT, Int.reduceLE, Nat.reduceEqDiff, h3]
      exact hK.sub
  · rw [if_neg e0] at hK
    try simp (maxSteps := 2000000) only [↓RG, RB, BEq.rfl, Int.reduceEq, Int.reduceLT, Int.reduceLE, Nat.reduceEqDiff, e11, e0]
    exact hK.sub

end
end Go.Proofs.YtokbiojkpldfeaaGreat.S
