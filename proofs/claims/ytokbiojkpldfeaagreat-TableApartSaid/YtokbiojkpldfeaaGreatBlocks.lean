/-
  CHAPTER 11: the blocks of a heap that is parted, how many are live.
-/
import Derived.Test.YtokbiojkpldfeaaGreatSteps
namespace Go.Proofs.YtokbiojkpldfeaaGreat.S
open Go Go.Proofs
set_option linter.unusedVariables false
set_option linter.unusedSimpArgs false

def blOf (B sh : List Bk) : List TBlock := sh.map fun b => ⟨b.1, b.2, decide (b ∈ B)⟩
def liveN (bl : List TBlock) : Nat := (bl.filter (·.live)).length
theorem liveN_B {h : Hp} {B R sh : List Bk} {fl : Int → List Int} (A : ArenaW h B R sh fl) : liveN (blOf B sh) = B.length := by
  unfold liveN blOf
  rw [List.filter_map, List.length_map]
  have e : (sh.filter ((fun x : TBlock => x.live) ∘ fun b => ⟨b.1, b.2, decide (b ∈ B)⟩)).Perm B := by
    rw [List.perm_ext_iff_of_nodup ((contig_nodup A.parted).filter _) A.nodup]
    intro b
    rw [List.mem_filter]
    simp only [Function.comp, decide_eq_true_eq]
    exact ⟨fun h => h.2, fun h => ⟨A.sub b h, h⟩⟩
  exact e.length_eq
theorem liveN_take {bl : List TBlock} {j : Nat} (h : j < bl.length) : liveN (bl.take (j + 1)) = if bl[j].live = true then liveN (bl.take j) + 1 else liveN (bl.take j) := by
  unfold liveN
  rw [List.take_add_one, List.getElem?_eq_getElem h, List.filter_append]
  simp only [Option.toList_some, List.length_append]
  generalize bl[j] = q
  obtain ⟨q1, q2, q3⟩ := q
  cases q3 <;> simp

section
variable {w0 : Base} {L M : List Asn} {K : KV} {F : World → Prop} {C : Asn → List Asn} {b : Nat} {n a x e k root : Int} {w : List Int} {v cv : Value} {B R sh : List Bk} {fl : Int → List Int}

theorem s_arena_Blocks [r : Rd w0 L v wordE 1 w] (hw : OkHp w) (A : ArenaW (hOf w) B R sh fl) (hK : ∀ u, Cells u [u] → G w0 (sl tBlockE u (blOf B sh) :: L) (K (.tuple #[u, i64 0]))) : G w0 L (CP Tryz.prog Fn.arena_Blocks [v] K) := by
  refine C_arena_Blocks ?_
  unfold S_arena_Blocks
  try simp (maxSteps := 2000000) only [fuse_and, fuse_or, fuse_step, fuse_pair, fuse_in, andP_true]
  have hle := contig_le A.parted
  have htop := A.top
  have a1 : decide ((w.length : Int) < 32) = false := decide_eq_false (by rw [hw.1]; omega)
  have a2 : decide ((256 : Int) < (w.length : Int)) = false := decide_eq_false (by rw [hw.1]; omega)
  have h5 : 5 < w.length := by rw [hw.1]; omega
  have e := elem_of h5
  have ho : ∀ {m : Nat} (hm : m < w.length), hOf w (m : Int) = w[m] := fun {m} hm => by
    show w.getD ((m : Int).toNat) 0 = _
    rw [Int.toNat_natCast, List.getD_eq_getElem?_getD, List.getElem?_eq_getElem hm]; rfl
  have z5 : hOf w 5 = w[5] := ho h5
  have hC := A.parted
  have hAll := fun b (hb : b ∈ sh) => And.intro (A.hdr b hb) (A.mem hb)
  rw [z5] at hle htop hC
  generalize w[5] = z at e hle htop hC
  have a3 : decide (z < 14) = false := decide_eq_false (by omega)
  have eB : IntKind.wrap .u64 (w.length : Int) = 256 := by rw [hw.1]; decide
  have a4 : decide ((256 : Int) < z) = false := decide_eq_false (by omega)
  have eC : IntKind.wrap .i64 z = z := wi64 (by omega) (by omega)
  have e0 : (5 : Int) = ((5 : Nat) : Int) := rfl
  try simp (maxSteps := 2000000) only [↓RG, RP, RB, BEq.rfl, Int.reduceEq, Int.reduceLT, Int.reduceLE, Nat.reduceEqDiff, a1, a2]
  rw [e0]
  try simp (maxSteps := 2000000) only [↓RG, RP, RB, BEq.rfl, Int.reduceEq, Int.reduceLT, Int.reduceLE, Nat.reduceEqDiff, a3, eB, a4, eC]
  refine G.nilsl tBlockE ?_
  refine G.loop2 (σ := Value × List Bk × List Bk × Int) (fun y => y.1) (fun y => i64 y.2.2.2) (fun y => sl tBlockE y.1 (blOf B y.2.1) :: L) (fun y => Cells y.1 [y.1] ∧ y.2.1 ++ y.2.2.1 = sh ∧ y.2.1.length ≤ 256 ∧ 14 + 3 * (y.2.1.length : Int) ≤ y.2.2.2 ∧ Contig y.2.2.2 y.2.2.1 z) (fun y => y.2.2.1.length) (.slice none 0 0, [], sh, 14) rfl rfl rfl ⟨cells_slice, rfl, by simp, by simp, hC⟩ ?_
  rintro ⟨u, dn, rs, p⟩ ⟨hu, hd, hdl, hp3, hc⟩ J hJ
  simp only at hu hd hdl hp3 hc hJ ⊢
  cases rs with
  | nil =>
    have hpz : p = z := hc
    have a5 : decide (p < z) = false := decide_eq_false (by omega)
    rw [List.append_nil] at hd
    subst hd
    try simp (maxSteps := 2000000) only [↓RG, RP, RB, BEq.rfl, Int.reduceEq, Int.reduceLT, Int.reduceLE, Nat.reduceEqDiff, a5]
    exact (hK u hu)
  | cons bk rs =>
    obtain ⟨c1, c2, c3, c4⟩ := hc
    have hcl := contig_le c4
    have hz := bsz_le (c := bk.2)
    have a5 : decide (p < z) = true := decide_eq_true (by omega)
    obtain ⟨hh, hm⟩ := hAll bk (by rw [← hd]; simp)
    obtain ⟨m, rfl⟩ : ∃ m : Nat, p = m := ⟨p.toNat, by omega⟩
    have hmw : m < w.length := by rw [hw.1]; omega
    have em := elem_of hmw
    rw [show bk.1 - 1 = (m : Int) by omega, ho hmw] at hh
    generalize w[m] = q at em hh
    try simp (maxSteps := 2000000) only [↓RG, RP, RB, BEq.rfl, Int.reduceEq, Int.reduceLT, Int.reduceLE, Nat.reduceEqDiff, a5]
    refine s_arena_header (w := q) ?_
    have eh : aHeader q = (bk.2, decide (bk ∈ B)) := by
      rw [hh]
      have := aHeader_ok (c := bk.2) (lv := decide (bk ∈ B)) c2 c3
      simp only [decide_eq_true_eq] at this
      exact this
    rw [eh]
    have e1 : IntKind.wrap .i64 ((m : Int) + 1) = m + 1 := wi64 (by omega) (by omega)
    try simp (maxSteps := 2000000) only [↓RG, RP, RB, BEq.rfl, Int.reduceEq, Int.reduceLT, Int.reduceLE, Nat.reduceEqDiff, e1]
    refine s_arena_Size (c := bk.2) ?_
    rw [aSize_ok c2 c3]
    have e2 : IntKind.wrap .i64 ((m : Int) + 1 + bsz bk.2) = m + 1 + bsz bk.2 := wi64 (by omega) (by omega)
    have a6 : decide (bk.2 = 0) = false := decide_eq_false (by omega)
    have a7 : decide (z < (m : Int) + 1 + bsz bk.2) = false := decide_eq_false (by omega)
    try simp (maxSteps := 2000000) only [↓RG, RP, RB, BEq.rfl, Int.reduceEq, Int.reduceLT, Int.reduceLE, Nat.reduceEqDiff, e1, e2, a6, a7]
    have hl2 : (blOf B dn).length = dn.length := by simp [blOf]
    refine G.append1 (E := tBlockE) (a := ⟨(m : Int) + 1, bk.2, decide (bk ∈ B)⟩) rfl rfl (by decide) (by rw [hl2]; omega) (by rw [hl2]; simp only [maxLen]; omega) fun u2 hu2 => ?_
    have h := hJ (u2, dn ++ [bk], rs, (m : Int) + 1 + bsz bk.2) ⟨hu2, by rw [← hd]; simp, by simp; omega, by simp; omega, c4⟩ (by simp)
    have eb : blOf B (dn ++ [bk]) = blOf B dn ++ [⟨(m : Int) + 1, bk.2, decide (bk ∈ B)⟩] := by unfold blOf; rw [List.map_append, ← c1]; rfl
    rw [eb] at h
    exact h

theorem s_law18_live [r : Rd w0 L v wordE 1 w] (hw : OkHp w) (A : ArenaW (hOf w) B R sh fl) (hK : G w0 L (K (i64 (B.length : Nat)))) : G w0 L (CP Tryz.prog Fn.law18_live [v] K) := by
  refine C_law18_live ?_
  unfold S_law18_live
  try simp (maxSteps := 2000000) only [fuse_and, fuse_or, fuse_step, fuse_pair, fuse_in, andP_true]
  refine s_arena_Blocks hw A fun u hu => ?_
  try simp (maxSteps := 2000000) only [↓RG, RP, RB, BEq.rfl, Int.reduceEq, Int.reduceLT, Int.reduceLE, Nat.reduceEqDiff]
  have hlen : (blOf B sh).length ≤ 256 := by
    have h1 : (blOf B sh).length = sh.length := by simp [blOf]
    have h2 : ∀ {l : List Bk} {p e : Int}, Contig p l e → p + 3 * (l.length : Int) ≤ e := by
      intro l
      induction l with
      | nil => intro p e h; have h : p = e := h; simp; omega
      | cons b l ih => intro p e h; have := ih h.2.2.2; have := bsz_le (c := b.2); simp only [List.length_cons]; omega
    have := h2 A.parted
    have := A.top
    omega
  rw [← liveN_B A] at hK
  generalize blOf B sh = bl at hK hlen
  refine G.loop2 (σ := Nat) (fun j => i64 (liveN (bl.take j) : Nat)) (fun j => i64 j) (fun _ => sl tBlockE u bl :: L) (fun j => j ≤ bl.length) (fun j => bl.length - j) 0 rfl rfl rfl (by omega) ?_
  intro j hj J hJ
  by_cases h1 : j < bl.length
  · have h2 : decide ((j : Int) < (bl.length : Int)) = true := decide_eq_true (by omega)
    have e := elem_of h1
    have hn := hJ (j + 1) h1 (by omega)
    rw [liveN_take h1] at hn
    have hlv : liveN (bl.take j) ≤ j := by unfold liveN; refine Nat.le_trans (List.length_filter_le _ _) ?_; rw [List.length_take]; omega
    generalize bl[j] = q at e hn
    obtain ⟨q1, q2, q3⟩ := q
    cases q3
    · simp only [Bool.false_eq_true, if_false] at hn
      repeat' (first | (with_reducible refine G.joini0 ?_) | (with_reducible refine G.joini1 ?_) | (with_reducible refine G.drew ?_) | (simp (maxSteps := 2000000) only [↓RG, RP, RB, BEq.rfl, Int.reduceEq, Int.reduceLT, Int.reduceLE, Nat.reduceEqDiff, h2]))
      rw [wsucc (by omega)]
      exact hn
    · simp only [if_true] at hn
      repeat' (first | (with_reducible refine G.joini0 ?_) | (with_reducible refine G.joini1 ?_) | (with_reducible refine G.drew ?_) | (simp (maxSteps := 2000000) only [↓RG, RP, RB, BEq.rfl, Int.reduceEq, Int.reduceLT, Int.reduceLE, Nat.reduceEqDiff, h2]))
      rw [wsucc (by omega), wsucc (by omega)]
      exact hn
  · have h2 : decide ((j : Int) < (bl.length : Int)) = false := decide_eq_false (by omega)
    have hj2 : bl.take j = bl := List.take_of_length_le (by omega)
    rw [hj2]
    try simp (maxSteps := 2000000) only [↓RG, RP, RB, BEq.rfl, Int.reduceEq, Int.reduceLT, Int.reduceLE, Nat.reduceEqDiff, h2]
    exact hK.sub
end
end Go.Proofs.YtokbiojkpldfeaaGreat.S
