/-
  CHAPTER 11: contracts of package arena, on a view.
-/
import Derived.Test.YtokbiojkpldfeaaGreatView
namespace Go.Proofs.YtokbiojkpldfeaaGreat.S
open Go Go.Proofs
set_option linter.unusedVariables false
set_option linter.unusedSimpArgs false

abbrev w64 (n : Int) : Int := IntKind.wrap .i64 n
abbrev wU (n : Int) : Int := IntKind.wrap .u64 n

def aSize (c : Int) : Int := if c < 1 then 0 else if 4 < c then 0 else w64 (1 * 2 ^ min c.toNat 64)
def aClass (n : Int) : Int := if n < 1 then 0 else if n ≤ 2 then 1 else if n ≤ 4 then 2 else if n ≤ 8 then 3 else if n ≤ 16 then 4 else 0
def aHeader (w : Int) : Int × Bool := if 1 ≤ w ∧ w ≤ 4 then (w, false) else if 9 ≤ w ∧ w ≤ 12 then (w - 8, true) else (0, false)
def aHead (c : Int) : Int := w64 (0 + c)
def aAgain (s : VwS) (c b : Int) : VwS × Int × Int :=
  if 2147483648 ≤ b then (s, 0, 2)
  else if (vRead s (w64 b)).2.2 = 0 then
    (if (vTake (vRead s (w64 b)).1 [⟨aHead c, (vRead s (w64 b)).2.1⟩, ⟨w64 (w64 b - 1), wU (w64 (c + 8))⟩]).2 = 0 then ((vTake (vRead s (w64 b)).1 [⟨aHead c, (vRead s (w64 b)).2.1⟩, ⟨w64 (w64 b - 1), wU (w64 (c + 8))⟩]).1, w64 b, 0)
     else ((vTake (vRead s (w64 b)).1 [⟨aHead c, (vRead s (w64 b)).2.1⟩, ⟨w64 (w64 b - 1), wU (w64 (c + 8))⟩]).1, 0, (vTake (vRead s (w64 b)).1 [⟨aHead c, (vRead s (w64 b)).2.1⟩, ⟨w64 (w64 b - 1), wU (w64 (c + 8))⟩]).2))
  else ((vRead s (w64 b)).1, 0, (vRead s (w64 b)).2.2)
/-- the unused words: two cells are written -/
def grownC (w c : Int) : List TCell := [⟨5, wU (w64 (w64 (w64 w + 1) + aSize c))⟩, ⟨w64 w, wU (w64 (c + 8))⟩]
def aGrown (s : VwS) (c : Int) : VwS × Int × Int :=
  if (vRead s 5).2.2 = 0 then
    (if (vRead s 5).2.1 < 14 ∨ 2147483648 ≤ (vRead s 5).2.1 ∨ ((vRead s 5).1.size : Int) < w64 (w64 (w64 (vRead s 5).2.1 + 1) + aSize c) then ((vRead s 5).1, 0, 4)
     else if (vTake (vRead s 5).1 (grownC (vRead s 5).2.1 c)).2 = 0 then ((vTake (vRead s 5).1 (grownC (vRead s 5).2.1 c)).1, w64 (w64 (vRead s 5).2.1 + 1), 0)
     else ((vTake (vRead s 5).1 (grownC (vRead s 5).2.1 c)).1, 0, (vTake (vRead s 5).1 (grownC (vRead s 5).2.1 c)).2))
  else ((vRead s 5).1, 0, (vRead s 5).2.2)
def aAlloc (s : VwS) (n : Int) : VwS × Int × Int :=
  if aClass n = 0 then (s, 0, 3)
  else if (vRead s (aHead (aClass n))).2.2 = 0 then
    (if (vRead s (aHead (aClass n))).2.1 = 0 then aGrown (vRead s (aHead (aClass n))).1 (aClass n) else aAgain (vRead s (aHead (aClass n))).1 (aClass n) (vRead s (aHead (aClass n))).2.1)
  else ((vRead s (aHead (aClass n))).1, 0, (vRead s (aHead (aClass n))).2.2)
def aAsked (s : VwS) (b : Int) : VwS × Int × Bool × Int :=
  if b ≤ 14 ∨ (s.size : Int) ≤ b then (s, 0, false, 2)
  else if (vRead s (w64 (b - 1))).2.2 = 0 then
    (if (aHeader (vRead s (w64 (b - 1))).2.1).1 = 0 then ((vRead s (w64 (b - 1))).1, 0, false, 2) else ((vRead s (w64 (b - 1))).1, (aHeader (vRead s (w64 (b - 1))).2.1).1, (aHeader (vRead s (w64 (b - 1))).2.1).2, 0))
  else ((vRead s (w64 (b - 1))).1, 0, false, (vRead s (w64 (b - 1))).2.2)
/-- behind what a block was asked -/
def aFreeIn (q : VwS × Int × Bool × Int) (b : Int) : VwS × Int :=
  if q.2.2.2 = 0 then
    (if q.2.2.1 = true then
      (if (vTake q.1 [⟨w64 (b - 1), wU q.2.1⟩]).2 = 0 then ((vTake q.1 [⟨w64 (b - 1), wU q.2.1⟩]).1.log ((vTake q.1 [⟨w64 (b - 1), wU q.2.1⟩]).1.l.free b), 0) else vTake q.1 [⟨w64 (b - 1), wU q.2.1⟩])
     else (q.1, 2))
  else (q.1, q.2.2.2)
def aFree (s : VwS) (b : Int) : VwS × Int := aFreeIn (aAsked s b) b
def aGiveIn (q : VwS × Int × Bool × Int) (b : Int) : VwS × Int :=
  if q.2.2.2 = 0 then
    (if q.2.2.1 = true then (q.1, 2)
     else if (vRead q.1 (aHead q.2.1)).2.2 = 0 then vTake (vRead q.1 (aHead q.2.1)).1 [⟨b, (vRead q.1 (aHead q.2.1)).2.1⟩, ⟨aHead q.2.1, wU b⟩] else ((vRead q.1 (aHead q.2.1)).1, (vRead q.1 (aHead q.2.1)).2.2))
  else (q.1, q.2.2.2)
def aGive (s : VwS) (b : Int) : VwS × Int := aGiveIn (aAsked s b) b

section
variable {w0 : Base} {L M : List Asn} {K : KV} {F : World → Prop} {C : Asn → List Asn} {b : Nat} {s : VwS} {n c w : Int}

theorem s_arena_Size (hK : G w0 L (K (i64 (aSize c)))) : G w0 L (CP Tryz.prog Fn.arena_Size [i64 c] K) := by
  refine C_arena_Size ?_
  unfold S_arena_Size
  unfold aSize at hK
  try simp (maxSteps := 2000000) only [fuse_and, fuse_or, fuse_step, fuse_pair, fuse_in, andP_true]
  by_cases h1 : c < 1
  · rw [if_pos h1] at hK
    try simp (maxSteps := 2000000) only [↓RG, RP, RB, BEq.rfl, Int.reduceEq, Int.reduceLT, Int.reduceLE, Nat.reduceEqDiff, h1]
    exact hK
  rw [if_neg h1] at hK
  by_cases h2 : 4 < c
  · rw [if_pos h2] at hK
    try simp (maxSteps := 2000000) only [↓RG, RP, RB, BEq.rfl, Int.reduceEq, Int.reduceLT, Int.reduceLE, Nat.reduceEqDiff, h1, h2]
    exact hK
  rw [if_neg h2] at hK
  have nn : NonNeg c := ⟨by omega⟩
  try simp (maxSteps := 2000000) only [↓RG, RP, RB, BEq.rfl, Int.reduceEq, Int.reduceLT, Int.reduceLE, Nat.reduceEqDiff, h1, h2]
  exact hK

theorem aSize_1 : aSize 1 = 2 := by decide
theorem aSize_2 : aSize 2 = 4 := by decide
theorem aSize_3 : aSize 3 = 8 := by decide
theorem aSize_4 : aSize 4 = 16 := by decide

theorem s_arena_Class (hK : G w0 L (K (i64 (aClass n)))) : G w0 L (CP Tryz.prog Fn.arena_Class [i64 n] K) := by
  refine C_arena_Class ?_
  unfold S_arena_Class
  unfold aClass at hK
  by_cases h1 : n < 1
  · rw [if_pos h1] at hK
    try simp (maxSteps := 2000000) only [↓RG, RP, RB, BEq.rfl, Int.reduceEq, Int.reduceLT, Int.reduceLE, Nat.reduceEqDiff, h1]
    exact hK
  rw [if_neg h1] at hK
  try simp (maxSteps := 2000000) only [↓RG, RP, RB, BEq.rfl, Int.reduceEq, Int.reduceLT, Int.reduceLE, Nat.reduceEqDiff, h1]
  refine G.loopc1 (fun k : Nat => i64 k) (fun k => (k = 1) ∨ (k = 2 ∧ ¬ n ≤ 2) ∨ (k = 3 ∧ ¬ n ≤ 4) ∨ (k = 4 ∧ ¬ n ≤ 8) ∨ (k = 5 ∧ ¬ n ≤ 16)) (fun k => 5 - k) 1 rfl (.inl rfl) ?_
  intro k hk J hJ
  rcases hk with rfl | ⟨rfl, h⟩ | ⟨rfl, h⟩ | ⟨rfl, h⟩ | ⟨rfl, h⟩
  · have e : ((1 : Nat) : Int) = 1 := rfl
    rw [e]
    try simp (maxSteps := 2000000) only [↓RG, RP, RB, BEq.rfl, Int.reduceEq, Int.reduceLT, Int.reduceLE, Nat.reduceEqDiff]
    refine s_arena_Size ?_
    rw [aSize_1]
    try simp (maxSteps := 2000000) only [↓RG, RP, RB, BEq.rfl, Int.reduceEq, Int.reduceLT, Int.reduceLE, Nat.reduceEqDiff]
    refine G.cond (fun g => ?_) (fun g => ?_)
    · rw [if_pos (by simpa using g)] at hK; exact hK
    · try simp (maxSteps := 2000000) only [↓RG, RP, RB, BEq.rfl, Int.reduceEq, Int.reduceLT, Int.reduceLE, Nat.reduceEqDiff]
      exact hJ 2 (.inr (.inl ⟨rfl, by simpa using g⟩)) (by omega)
  · have e : ((2 : Nat) : Int) = 2 := rfl
    rw [e]
    rw [if_neg h] at hK
    try simp (maxSteps := 2000000) only [↓RG, RP, RB, BEq.rfl, Int.reduceEq, Int.reduceLT, Int.reduceLE, Nat.reduceEqDiff]
    refine s_arena_Size ?_
    rw [aSize_2]
    try simp (maxSteps := 2000000) only [↓RG, RP, RB, BEq.rfl, Int.reduceEq, Int.reduceLT, Int.reduceLE, Nat.reduceEqDiff]
    refine G.cond (fun g => ?_) (fun g => ?_)
    · rw [if_pos (by simpa using g)] at hK; exact hK
    · try simp (maxSteps := 2000000) only [↓RG, RP, RB, BEq.rfl, Int.reduceEq, Int.reduceLT, Int.reduceLE, Nat.reduceEqDiff]
      exact hJ 3 (.inr (.inr (.inl ⟨rfl, by simpa using g⟩))) (by omega)
  · have e : ((3 : Nat) : Int) = 3 := rfl
    rw [e]
    rw [if_neg (by omega), if_neg h] at hK
    try simp (maxSteps := 2000000) only [↓RG, RP, RB, BEq.rfl, Int.reduceEq, Int.reduceLT, Int.reduceLE, Nat.reduceEqDiff]
    refine s_arena_Size ?_
    rw [aSize_3]
    try simp (maxSteps := 2000000) only [↓RG, RP, RB, BEq.rfl, Int.reduceEq, Int.reduceLT, Int.reduceLE, Nat.reduceEqDiff]
    refine G.cond (fun g => ?_) (fun g => ?_)
    · rw [if_pos (by simpa using g)] at hK; exact hK
    · try simp (maxSteps := 2000000) only [↓RG, RP, RB, BEq.rfl, Int.reduceEq, Int.reduceLT, Int.reduceLE, Nat.reduceEqDiff]
      exact hJ 4 (.inr (.inr (.inr (.inl ⟨rfl, by simpa using g⟩)))) (by omega)
  · have e : ((4 : Nat) : Int) = 4 := rfl
    rw [e]
    rw [if_neg (by omega), if_neg (by omega), if_neg h] at hK
    try simp (maxSteps := 2000000) only [↓RG, RP, RB, BEq.rfl, Int.reduceEq, Int.reduceLT, Int.reduceLE, Nat.reduceEqDiff]
    refine s_arena_Size ?_
    rw [aSize_4]
    try simp (maxSteps := 2000000) only [↓RG, RP, RB, BEq.rfl, Int.reduceEq, Int.reduceLT, Int.reduceLE, Nat.reduceEqDiff]
    refine G.cond (fun g => ?_) (fun g => ?_)
    · rw [if_pos (by simpa using g)] at hK; exact hK
    · try simp (maxSteps := 2000000) only [↓RG, RP, RB, BEq.rfl, Int.reduceEq, Int.reduceLT, Int.reduceLE, Nat.reduceEqDiff]
      exact hJ 5 (.inr (.inr (.inr (.inr ⟨rfl, by simpa using g⟩)))) (by omega)
  · have e : ((5 : Nat) : Int) = 5 := rfl
    rw [e]
    rw [if_neg (by omega), if_neg (by omega), if_neg (by omega), if_neg h] at hK
    try simp (maxSteps := 2000000) only [↓RG, RP, RB, BEq.rfl, Int.reduceEq, Int.reduceLT, Int.reduceLE, Nat.reduceEqDiff]
    exact hK

theorem s_arena_head (hK : G w0 L (K (i64 (aHead c)))) : G w0 L (CP Tryz.prog Fn.arena_head [i64 c] K) := by
  refine C_arena_head ?_
  unfold S_arena_head
  try simp (maxSteps := 2000000) only [↓RG, RP, RB, BEq.rfl, Int.reduceEq, Int.reduceLT, Int.reduceLE, Nat.reduceEqDiff]
  exact hK

theorem s_arena_header (hK : G w0 L (K (.tuple #[i64 (aHeader w).1, .bool (aHeader w).2]))) : G w0 L (CP Tryz.prog Fn.arena_header [u64 w] K) := by
  refine C_arena_header ?_
  unfold S_arena_header
  unfold aHeader at hK
  try simp (maxSteps := 2000000) only [fuse_and, fuse_or, fuse_step, fuse_pair, fuse_in, andP_true]
  by_cases h1 : 1 ≤ w ∧ w ≤ 4
  · rw [if_pos h1] at hK
    have e : IntKind.wrap .i64 w = w := wi64 (by omega) (by omega)
    try simp (maxSteps := 2000000) only [↓RG, RP, RB, BEq.rfl, Int.reduceEq, Int.reduceLT, Int.reduceLE, Nat.reduceEqDiff, h1.1, h1.2, e]
    exact hK
  rw [if_neg h1] at hK
  by_cases h2 : 9 ≤ w ∧ w ≤ 12
  · rw [if_pos h2] at hK
    have e : IntKind.wrap .i64 (IntKind.wrap .u64 (w - 8)) = w - 8 := by rw [wu64 (n := w - 8) (by omega) (by omega), wi64 (by omega) (by omega)]
    have g1 : ¬ w ≤ 4 := by omega
    try simp (maxSteps := 2000000) only [↓RG, RP, RB, BEq.rfl, Int.reduceEq, Int.reduceLT, Int.reduceLE, Nat.reduceEqDiff, g1, h2.1, h2.2, e]
    exact hK
  rw [if_neg h2] at hK
  have g1 : (decide (1 ≤ w) && decide (w ≤ 4)) = false := by simp; omega
  have g2 : (decide (9 ≤ w) && decide (w ≤ 12)) = false := by simp; omega
  try simp (maxSteps := 2000000) only [↓RG, RP, RB, BEq.rfl, Int.reduceEq, Int.reduceLT, Int.reduceLE, Nat.reduceEqDiff, g1, g2]
  exact hK

/-- two cells in a new slice -/
theorem two {L : List Asn} {a1 x1 a2 x2 : Int} {K : KV} (hK : ∀ v, Cells v [v] → G w0 (sl tCellE v [⟨a1, x1⟩, ⟨a2, x2⟩] :: L) (K v)) :
    G w0 L (buildSliceW [.int .i64 0, .int .u64 0] 2 [(0, 2, .agg #[i64 a1, u64 x1]), (2, 2, .agg #[i64 a2, u64 x2])] K) := by
  refine G.build tCellE [⟨a1, x1⟩, ⟨a2, x2⟩] rfl (by simp) rfl fun v hv => hK v hv
theorem lone {L : List Asn} {a1 x1 : Int} {K : KV} (hK : ∀ v, Cells v [v] → G w0 (sl tCellE v [⟨a1, x1⟩] :: L) (K v)) :
    G w0 L (buildSliceW [.int .i64 0, .int .u64 0] 1 [(0, 2, .agg #[i64 a1, u64 x1])] K) := by
  refine G.build tCellE [⟨a1, x1⟩] rfl (by simp) rfl fun v hv => hK v hv

theorem s_arena_again {bb : Int} [i : SelOb L ViewR b s C] (hK : G w0 (C (ob ViewR b (aAgain s c bb).1)) (K (.tuple #[i64 (aAgain s c bb).2.1, i64 (aAgain s c bb).2.2]))) : G w0 L (CP Tryz.prog Fn.arena_again [ptr b 0, i64 c, u64 bb] K) := by
  refine i.use (fun M hK => ?_) hK
  refine C_arena_again ?_
  unfold S_arena_again
  unfold aAgain at hK
  by_cases h1 : 2147483648 ≤ bb
  · rw [if_pos h1] at hK
    try simp (maxSteps := 2000000) only [↓RG, RP, RB, BEq.rfl, Int.reduceEq, Int.reduceLT, Int.reduceLE, Nat.reduceEqDiff, h1]
    exact hK
  rw [if_neg h1] at hK
  try simp (maxSteps := 2000000) only [↓RG, RP, RB, BEq.rfl, Int.reduceEq, Int.reduceLT, Int.reduceLE, Nat.reduceEqDiff, h1]
  refine s_view_Read (b := b) (s := s) ?_
  generalize vRead s (w64 bb) = r at hK ⊢
  obtain ⟨s1, x, e⟩ := r
  simp only at hK ⊢
  try simp (maxSteps := 2000000) only [↓RG, RP, RB, BEq.rfl, Int.reduceEq, Int.reduceLT, Int.reduceLE, Nat.reduceEqDiff]
  refine G.joini1 ?_
  by_cases h2 : e = 0
  · rw [if_pos h2] at hK
    try simp (maxSteps := 2000000) only [↓RG, RP, RB, BEq.rfl, Int.reduceEq, Int.reduceLT, Int.reduceLE, Nat.reduceEqDiff, eq_true h2]
    refine s_arena_head ?_
    try simp (maxSteps := 2000000) only [↓RG, RP, RB, BEq.rfl, Int.reduceEq, Int.reduceLT, Int.reduceLE, Nat.reduceEqDiff]
    refine two fun v hv => ?_
    refine s_view_Take (b := b) (s := s1) (l := [⟨aHead c, x⟩, ⟨w64 (w64 bb - 1), wU (w64 (c + 8))⟩]) (by simp) ?_
    generalize vTake s1 [⟨aHead c, x⟩, ⟨w64 (w64 bb - 1), wU (w64 (c + 8))⟩] = t at hK ⊢
    obtain ⟨s2, e2⟩ := t
    simp only at hK ⊢
    by_cases h3 : e2 = 0
    · rw [if_pos h3] at hK
      try simp (maxSteps := 2000000) only [↓RG, RP, RB, BEq.rfl, Int.reduceEq, Int.reduceLT, Int.reduceLE, Nat.reduceEqDiff, eq_true h3]
      exact hK.sub
    · rw [if_neg h3] at hK
      try simp (maxSteps := 2000000) only [↓RG, RP, RB, BEq.rfl, Int.reduceEq, Int.reduceLT, Int.reduceLE, Nat.reduceEqDiff, h3]
      exact hK.sub
  · rw [if_neg h2] at hK
    try simp (maxSteps := 2000000) only [↓RG, RP, RB, BEq.rfl, Int.reduceEq, Int.reduceLT, Int.reduceLE, Nat.reduceEqDiff, h2]
    exact hK

theorem s_arena_grown [i : SelOb L ViewR b s C] (hK : G w0 (C (ob ViewR b (aGrown s c).1)) (K (.tuple #[i64 (aGrown s c).2.1, i64 (aGrown s c).2.2]))) : G w0 L (CP Tryz.prog Fn.arena_grown [ptr b 0, i64 c] K) := by
  refine i.use (fun M hK => ?_) hK
  refine C_arena_grown ?_
  unfold S_arena_grown
  unfold aGrown at hK
  try simp (maxSteps := 2000000) only [fuse_and, fuse_or, fuse_step, fuse_pair, fuse_in, andP_true]
  refine s_view_Read (b := b) (s := s) (a := 5) ?_
  generalize vRead s 5 = r at hK ⊢
  obtain ⟨s1, x, e⟩ := r
  simp only at hK ⊢
  try simp (maxSteps := 2000000) only [↓RG, RP, RB, BEq.rfl, Int.reduceEq, Int.reduceLT, Int.reduceLE, Nat.reduceEqDiff]
  by_cases h2 : e = 0
  · rw [if_pos h2] at hK
    have bad : (x < 14 ∨ 2147483648 ≤ x ∨ (s1.size : Int) < w64 (w64 (w64 x + 1) + aSize c)) → G w0 (ob ViewR b s1 :: M) (K (.tuple #[i64 0, i64 4])) := fun h => by rw [if_pos h] at hK; exact hK
    by_cases g1 : x < 14
    · try simp (maxSteps := 2000000) only [↓RG, RP, RB, BEq.rfl, Int.reduceEq, Int.reduceLT, Int.reduceLE, Nat.reduceEqDiff, eq_true h2, g1]
      exact bad (.inl g1)
    by_cases g2 : 2147483648 ≤ x
    · try simp (maxSteps := 2000000) only [↓RG, RP, RB, BEq.rfl, Int.reduceEq, Int.reduceLT, Int.reduceLE, Nat.reduceEqDiff, eq_true h2, g1, g2]
      exact bad (.inr (.inl g2))
    try simp (maxSteps := 2000000) only [↓RG, RP, RB, BEq.rfl, Int.reduceEq, Int.reduceLT, Int.reduceLE, Nat.reduceEqDiff, eq_true h2, g1, g2]
    refine s_arena_Size ?_
    try simp (maxSteps := 2000000) only [↓RG, RP, RB, BEq.rfl, Int.reduceEq, Int.reduceLT, Int.reduceLE, Nat.reduceEqDiff]
    refine s_view_Size (b := b) (s := s1) ?_
    try simp (maxSteps := 2000000) only [↓RG, RP, RB, BEq.rfl, Int.reduceEq, Int.reduceLT, Int.reduceLE, Nat.reduceEqDiff]
    refine G.cond (fun g => ?_) (fun g => ?_)
    · exact bad (.inr (.inr (by simpa using g)))
    rw [if_neg (show ¬ (x < 14 ∨ 2147483648 ≤ x ∨ (s1.size : Int) < IntKind.wrap .i64 (IntKind.wrap .i64 (IntKind.wrap .i64 x + 1) + aSize c)) by simp at g; omega)] at hK
    try simp (maxSteps := 2000000) only [↓RG, RP, RB, BEq.rfl, Int.reduceEq, Int.reduceLT, Int.reduceLE, Nat.reduceEqDiff]
    refine s_arena_Size ?_
    try simp (maxSteps := 2000000) only [↓RG, RP, RB, BEq.rfl, Int.reduceEq, Int.reduceLT, Int.reduceLE, Nat.reduceEqDiff]
    refine two fun v hv => ?_
    refine s_view_Take (b := b) (s := s1) (l := grownC x c) (by simp [grownC]) ?_
    generalize vTake s1 (grownC x c) = t at hK ⊢
    obtain ⟨s2, e2⟩ := t
    simp only at hK ⊢
    by_cases h3 : e2 = 0
    · rw [if_pos h3] at hK
      try simp (maxSteps := 2000000) only [↓RG, RP, RB, BEq.rfl, Int.reduceEq, Int.reduceLT, Int.reduceLE, Nat.reduceEqDiff, eq_true h3]
      exact hK.sub
    · rw [if_neg h3] at hK
      try simp (maxSteps := 2000000) only [↓RG, RP, RB, BEq.rfl, Int.reduceEq, Int.reduceLT, Int.reduceLE, Nat.reduceEqDiff, h3]
      exact hK.sub
  · rw [if_neg h2] at hK
    try simp (maxSteps := 2000000) only [↓RG, RP, RB, BEq.rfl, Int.reduceEq, Int.reduceLT, Int.reduceLE, Nat.reduceEqDiff, h2]
    exact hK

theorem s_arena_Alloc [i : SelOb L ViewR b s C] (hK : G w0 (C (ob ViewR b (aAlloc s n).1)) (K (.tuple #[i64 (aAlloc s n).2.1, i64 (aAlloc s n).2.2]))) : G w0 L (CP Tryz.prog Fn.arena_Alloc [ptr b 0, i64 n] K) := by
  refine i.use (fun M hK => ?_) hK
  refine C_arena_Alloc ?_
  unfold S_arena_Alloc
  unfold aAlloc at hK
  refine s_arena_Class ?_
  generalize aClass n = c at hK ⊢
  by_cases h1 : c = 0
  · rw [if_pos h1] at hK
    try simp (maxSteps := 2000000) only [↓RG, RP, RB, BEq.rfl, Int.reduceEq, Int.reduceLT, Int.reduceLE, Nat.reduceEqDiff, eq_true h1]
    exact hK
  rw [if_neg h1] at hK
  try simp (maxSteps := 2000000) only [↓RG, RP, RB, BEq.rfl, Int.reduceEq, Int.reduceLT, Int.reduceLE, Nat.reduceEqDiff, h1]
  refine s_arena_head ?_
  refine s_view_Read (b := b) (s := s) ?_
  generalize vRead s (aHead c) = r at hK ⊢
  obtain ⟨s1, x, e⟩ := r
  simp only at hK ⊢
  try simp (maxSteps := 2000000) only [↓RG, RP, RB, BEq.rfl, Int.reduceEq, Int.reduceLT, Int.reduceLE, Nat.reduceEqDiff]
  by_cases h2 : e = 0
  · rw [if_pos h2] at hK
    by_cases h3 : x = 0
    · rw [if_pos h3] at hK
      try simp (maxSteps := 2000000) only [↓RG, RP, RB, BEq.rfl, Int.reduceEq, Int.reduceLT, Int.reduceLE, Nat.reduceEqDiff, eq_true h2, eq_true h3]
      refine s_arena_grown (b := b) (s := s1) ?_
      try simp (maxSteps := 2000000) only [↓RG, RP, RB, BEq.rfl, Int.reduceEq, Int.reduceLT, Int.reduceLE, Nat.reduceEqDiff]
      exact hK
    · rw [if_neg h3] at hK
      try simp (maxSteps := 2000000) only [↓RG, RP, RB, BEq.rfl, Int.reduceEq, Int.reduceLT, Int.reduceLE, Nat.reduceEqDiff, eq_true h2, h3]
      refine s_arena_again (b := b) (s := s1) ?_
      try simp (maxSteps := 2000000) only [↓RG, RP, RB, BEq.rfl, Int.reduceEq, Int.reduceLT, Int.reduceLE, Nat.reduceEqDiff]
      exact hK
  · rw [if_neg h2] at hK
    try simp (maxSteps := 2000000) only [↓RG, RP, RB, BEq.rfl, Int.reduceEq, Int.reduceLT, Int.reduceLE, Nat.reduceEqDiff, h2]
    exact hK

theorem s_arena_asked {n : Int} [i : SelOb L ViewR b s C] (hK : G w0 (C (ob ViewR b (aAsked s n).1)) (K (.tuple #[i64 (aAsked s n).2.1, .bool (aAsked s n).2.2.1, i64 (aAsked s n).2.2.2]))) : G w0 L (CP Tryz.prog Fn.arena_asked [ptr b 0, i64 n] K) := by
  refine i.use (fun M hK => ?_) hK
  refine C_arena_asked ?_
  unfold S_arena_asked
  unfold aAsked at hK
  try simp (maxSteps := 2000000) only [fuse_and, fuse_or, fuse_step, fuse_pair, fuse_in, andP_true]
  by_cases g1 : n ≤ 14
  · rw [if_pos (.inl g1)] at hK
    try simp (maxSteps := 2000000) only [↓RG, RP, RB, BEq.rfl, Int.reduceEq, Int.reduceLT, Int.reduceLE, Nat.reduceEqDiff, g1]
    exact hK
  try simp (maxSteps := 2000000) only [↓RG, RP, RB, BEq.rfl, Int.reduceEq, Int.reduceLT, Int.reduceLE, Nat.reduceEqDiff, g1]
  refine s_view_Size (b := b) (s := s) ?_
  try simp (maxSteps := 2000000) only [↓RG, RP, RB, BEq.rfl, Int.reduceEq, Int.reduceLT, Int.reduceLE, Nat.reduceEqDiff]
  refine G.cond (fun g => ?_) (fun g => ?_)
  · rw [if_pos (.inr (by simpa using g))] at hK
    exact hK
  rw [if_neg (by simp at g; omega)] at hK
  try simp (maxSteps := 2000000) only [↓RG, RP, RB, BEq.rfl, Int.reduceEq, Int.reduceLT, Int.reduceLE, Nat.reduceEqDiff]
  refine s_view_Read (b := b) (s := s) ?_
  generalize vRead s (w64 (n - 1)) = r at hK ⊢
  obtain ⟨s1, x, e⟩ := r
  simp only at hK ⊢
  try simp (maxSteps := 2000000) only [↓RG, RP, RB, BEq.rfl, Int.reduceEq, Int.reduceLT, Int.reduceLE, Nat.reduceEqDiff]
  by_cases h2 : e = 0
  · rw [if_pos h2] at hK
    try simp (maxSteps := 2000000) only [↓RG, RP, RB, BEq.rfl, Int.reduceEq, Int.reduceLT, Int.reduceLE, Nat.reduceEqDiff, eq_true h2]
    refine s_arena_header ?_
    try simp (maxSteps := 2000000) only [↓RG, RP, RB, BEq.rfl, Int.reduceEq, Int.reduceLT, Int.reduceLE, Nat.reduceEqDiff]
    by_cases h3 : (aHeader x).1 = 0
    · rw [if_pos h3] at hK
      try simp (maxSteps := 2000000) only [↓RG, RP, RB, BEq.rfl, Int.reduceEq, Int.reduceLT, Int.reduceLE, Nat.reduceEqDiff, eq_true h3]
      exact hK
    · rw [if_neg h3] at hK
      try simp (maxSteps := 2000000) only [↓RG, RP, RB, BEq.rfl, Int.reduceEq, Int.reduceLT, Int.reduceLE, Nat.reduceEqDiff, h3]
      exact hK
  · rw [if_neg h2] at hK
    try simp (maxSteps := 2000000) only [↓RG, RP, RB, BEq.rfl, Int.reduceEq, Int.reduceLT, Int.reduceLE, Nat.reduceEqDiff, h2]
    exact hK

theorem s_arena_Free {n : Int} [i : SelOb L ViewR b s C] (hf : s.l.r.f.length ≤ 1000) (hff : ∀ l, (vTake (aAsked s n).1 l).1.l.r.f.length ≤ 1000000) (hK : G w0 (C (ob ViewR b (aFree s n).1)) (K (i64 (aFree s n).2))) : G w0 L (CP Tryz.prog Fn.arena_Free [ptr b 0, i64 n] K) := by
  refine i.use (fun M hK => ?_) hK
  refine C_arena_Free ?_
  unfold S_arena_Free
  unfold aFree aFreeIn at hK
  try simp (maxSteps := 2000000) only [fuse_and, fuse_or, fuse_step, fuse_pair, fuse_in, andP_true]
  refine s_arena_asked (b := b) (s := s) ?_
  generalize aAsked s n = q at hK hff ⊢
  obtain ⟨s1, c, lv, e⟩ := q
  simp only at hK hff ⊢
  try simp (maxSteps := 2000000) only [↓RG, RP, RB, BEq.rfl, Int.reduceEq, Int.reduceLT, Int.reduceLE, Nat.reduceEqDiff]
  refine G.joini1 ?_
  by_cases h1 : e = 0
  · rw [if_pos h1] at hK
    cases lv
    · rw [if_neg (by decide)] at hK
      repeat' (first | (with_reducible refine G.joini0 ?_) | (with_reducible refine G.joini1 ?_) | (with_reducible refine G.drew ?_) | (simp (maxSteps := 2000000) only [↓RG, RP, RB, BEq.rfl, Int.reduceEq, Int.reduceLT, Int.reduceLE, Nat.reduceEqDiff, eq_true h1]))
      exact hK
    · rw [if_pos rfl] at hK
      repeat' (first | (with_reducible refine G.joini0 ?_) | (with_reducible refine G.joini1 ?_) | (with_reducible refine G.drew ?_) | (simp (maxSteps := 2000000) only [↓RG, RP, RB, BEq.rfl, Int.reduceEq, Int.reduceLT, Int.reduceLE, Nat.reduceEqDiff, eq_true h1]))
      refine lone fun v hv => ?_
      refine s_view_Take (b := b) (s := s1) (l := [⟨w64 (n - 1), wU c⟩]) (by simp) ?_
      have hf2 := hff [⟨w64 (n - 1), wU c⟩]
      generalize vTake s1 [⟨w64 (n - 1), wU c⟩] = t at hK hf2 ⊢
      obtain ⟨s2, e2⟩ := t
      simp only at hK hf2 ⊢
      by_cases h3 : e2 = 0
      · rw [if_pos h3] at hK
        subst h3
        repeat' (first | (with_reducible refine G.joini0 ?_) | (with_reducible refine G.joini1 ?_) | (with_reducible refine G.drew ?_) | (simp (maxSteps := 2000000) only [↓RG, RP, RB, BEq.rfl, Int.reduceEq, Int.reduceLT, Int.reduceLE, Nat.reduceEqDiff]))
        refine s_view_Free (b := b) (s := s2) hf2 ?_
        exact hK.sub
      · rw [if_neg h3] at hK
        repeat' (first | (with_reducible refine G.joini0 ?_) | (with_reducible refine G.joini1 ?_) | (with_reducible refine G.drew ?_) | (simp (maxSteps := 2000000) only [↓RG, RP, RB, BEq.rfl, Int.reduceEq, Int.reduceLT, Int.reduceLE, Nat.reduceEqDiff, h3]))
        exact hK.sub
  · rw [if_neg h1] at hK
    repeat' (first | (with_reducible refine G.joini0 ?_) | (with_reducible refine G.joini1 ?_) | (with_reducible refine G.drew ?_) | (simp (maxSteps := 2000000) only [↓RG, RP, RB, BEq.rfl, Int.reduceEq, Int.reduceLT, Int.reduceLE, Nat.reduceEqDiff, h1]))
    exact hK

theorem s_arena_Give {n : Int} [i : SelOb L ViewR b s C] (hK : G w0 (C (ob ViewR b (aGive s n).1)) (K (i64 (aGive s n).2))) : G w0 L (CP Tryz.prog Fn.arena_Give [ptr b 0, i64 n] K) := by
  refine i.use (fun M hK => ?_) hK
  refine C_arena_Give ?_
  unfold S_arena_Give
  unfold aGive aGiveIn at hK
  try simp (maxSteps := 2000000) only [fuse_and, fuse_or, fuse_step, fuse_pair, fuse_in, andP_true]
  refine s_arena_asked (b := b) (s := s) ?_
  generalize aAsked s n = q at hK ⊢
  obtain ⟨s1, c, lv, e⟩ := q
  simp only at hK ⊢
  try simp (maxSteps := 2000000) only [↓RG, RP, RB, BEq.rfl, Int.reduceEq, Int.reduceLT, Int.reduceLE, Nat.reduceEqDiff]
  refine G.joini1 ?_
  by_cases h1 : e = 0
  · rw [if_pos h1] at hK
    cases lv
    · rw [if_neg (by decide)] at hK
      repeat' (first | (with_reducible refine G.joini0 ?_) | (with_reducible refine G.joini1 ?_) | (with_reducible refine G.drew ?_) | (simp (maxSteps := 2000000) only [↓RG, RP, RB, BEq.rfl, Int.reduceEq, Int.reduceLT, Int.reduceLE, Nat.reduceEqDiff, eq_true h1]))
      refine s_arena_head ?_
      refine s_view_Read (b := b) (s := s1) ?_
      generalize vRead s1 (aHead c) = r at hK ⊢
      obtain ⟨s2, x, e2⟩ := r
      simp only at hK ⊢
      by_cases h2 : e2 = 0
      · rw [if_pos h2] at hK
        repeat' (first | (with_reducible refine G.joini0 ?_) | (with_reducible refine G.joini1 ?_) | (with_reducible refine G.drew ?_) | (simp (maxSteps := 2000000) only [↓RG, RP, RB, BEq.rfl, Int.reduceEq, Int.reduceLT, Int.reduceLE, Nat.reduceEqDiff, eq_true h2]))
        refine s_arena_head ?_
        repeat' (first | (with_reducible refine G.joini0 ?_) | (with_reducible refine G.joini1 ?_) | (with_reducible refine G.drew ?_) | (simp (maxSteps := 2000000) only [↓RG, RP, RB, BEq.rfl, Int.reduceEq, Int.reduceLT, Int.reduceLE, Nat.reduceEqDiff]))
        refine two fun v hv => ?_
        refine s_view_Take (b := b) (s := s2) (l := [⟨n, x⟩, ⟨aHead c, wU n⟩]) (by simp) ?_
        exact hK.sub
      · rw [if_neg h2] at hK
        repeat' (first | (with_reducible refine G.joini0 ?_) | (with_reducible refine G.joini1 ?_) | (with_reducible refine G.drew ?_) | (simp (maxSteps := 2000000) only [↓RG, RP, RB, BEq.rfl, Int.reduceEq, Int.reduceLT, Int.reduceLE, Nat.reduceEqDiff, h2]))
        exact hK
    · rw [if_pos rfl] at hK
      repeat' (first | (with_reducible refine G.joini0 ?_) | (with_reducible refine G.joini1 ?_) | (with_reducible refine G.drew ?_) | (simp (maxSteps := 2000000) only [↓RG, RP, RB, BEq.rfl, Int.reduceEq, Int.reduceLT, Int.reduceLE, Nat.reduceEqDiff, eq_true h1]))
      exact hK
  · rw [if_neg h1] at hK
    repeat' (first | (with_reducible refine G.joini0 ?_) | (with_reducible refine G.joini1 ?_) | (with_reducible refine G.drew ?_) | (simp (maxSteps := 2000000) only [↓RG, RP, RB, BEq.rfl, Int.reduceEq, Int.reduceLT, Int.reduceLE, Nat.reduceEqDiff, h1]))
    exact hK

end
end Go.Proofs.YtokbiojkpldfeaaGreat.S
