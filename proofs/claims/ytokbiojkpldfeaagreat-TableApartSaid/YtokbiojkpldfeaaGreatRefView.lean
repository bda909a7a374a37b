/-
  CHAPTER 10: the document's view; the two side by side.
-/
import Derived.Test.YtokbiojkpldfeaaGreatViewLaw
import Derived.Test.YtokbiojkpldfeaaGreatRefLevels
namespace Go.Proofs.YtokbiojkpldfeaaGreat.S
open Go Go.Proofs
set_option linter.unusedVariables false
set_option linter.unusedSimpArgs false

def RViewR (b : Nat) (s : VwS) : Asn := exA fun vk => exA fun lp => star (pureA (Cells vk [vk] ∧ OkV s)) (star (star (own b [i64 s.size, vk, ptr lp 0, i64 s.need]) (sl tCellE vk s.k)) (ob RLevelsR lp s.l))

section
variable {w0 : Base} {L M : List Asn} {K : KV} {F : World → Prop} {C : Asn → List Asn} {b c lp : Nat} {a x n : Int} {s : VwS} {v vk : Value}

theorem RViewR_open : G w0 (ob RViewR b s :: M) F = ∀ vk lp, (Cells vk [vk] ∧ OkV s) → G w0 (own b [i64 s.size, vk, ptr lp 0, i64 s.need] :: sl tCellE vk s.k :: ob RLevelsR lp s.l :: M) F := by
  rw [ob_eq, RViewR]
  simp only [G_ex, G_star, G_pure]
theorem RViewR_close (b lp : Nat) (s : VwS) [PickAll [own b [i64 s.size, vk, ptr lp 0, i64 s.need], sl tCellE vk s.k, ob RLevelsR lp s.l] L M] (h : Cells vk [vk] ∧ OkV s) (H : G w0 (ob RViewR b s :: M) F) : G w0 L F :=
  G.pickAll (As := [own b [i64 s.size, vk, ptr lp 0, i64 s.need], sl tCellE vk s.k, ob RLevelsR lp s.l]) (by rw [RViewR_open] at H; exact H vk lp h)

theorem OkV.new {w m : Int} : OkV ⟨(held w 32 256).toNat, [], ⟨held m 0 96, ⟨[], []⟩, []⟩, 0⟩ := by
  have hb := held_le (n := w) (show (32 : Int) ≤ 256 by omega)
  exact ⟨by show 32 ≤ (held w 32 256).toNat; omega, by show (held w 32 256).toNat ≤ 256; omega, by simp, by simp⟩

theorem s_ref7_NewView {w m : Int} (hK : ∀ b, G w0 (ob RViewR b ⟨(held w 32 256).toNat, [], ⟨held m 0 96, ⟨[], []⟩, []⟩, 0⟩ :: L) (K (ptr b 0))) : G w0 L (CP Tryz.prog Fn.ref7_NewView [i64 w, i64 m] K) := by
  have hb := held_le (n := w) (show (32 : Int) ≤ 256 by omega)
  have e : held w 32 256 = ((held w 32 256).toNat : Int) := by omega
  refine C_ref7_NewView ?_
  unfold S_ref7_NewView
  refine s_ref1_Held ?_
  refine s_ref7_NewLevels fun lp => ?_
  rw [e]
  try simp (maxSteps := 2000000) only [↓RG, RP, RB, BEq.rfl, Int.reduceEq, Int.reduceLT, Int.reduceLE, Nat.reduceEqDiff]
  refine G.nilsl tCellE ?_
  refine G.box fun b => ?_
  refine RViewR_close (vk := .slice none 0 0) b lp ⟨(held w 32 256).toNat, [], ⟨held m 0 96, ⟨[], []⟩, []⟩, 0⟩ ⟨cells_slice, OkV.new⟩ ?_
  exact hK b

theorem s_ref7_View_In [i : SelOb L RViewR b s C] (hK : G w0 L (K (.bool (isV s a)))) : G w0 L (CP Tryz.prog Fn.ref7_View_In [ptr b 0, i64 a] K) := by
  refine i.ro (fun M hK => ?_) hK
  rw [RViewR_open] at *
  intro vk lp h
  have hK := hK vk lp h
  refine C_ref7_View_In ?_
  unfold S_ref7_View_In
  try simp (maxSteps := 2000000) only [fuse_and, fuse_or, fuse_step, fuse_pair, fuse_in, andP_true]
  try simp (maxSteps := 2000000) only [↓RG, RP, RB, BEq.rfl, Int.reduceEq, Int.reduceLT, Int.reduceLE, Nat.reduceEqDiff]
  refine G.all (decide (a < s.size)) (fun _ K hK => by try simp (maxSteps := 2000000) only [↓RG, RP, RB, BEq.rfl, Int.reduceEq, Int.reduceLT, Int.reduceLE, Nat.reduceEqDiff]; exact hK) ?_
  exact hK

theorem s_ref7_Whole {ws : List Int} {m : Int} [r : Rd w0 L v wordE 1 ws] (hl : ws.length ≤ 1000) (hK : ∀ b, G w0 (ob RViewR b (vAll ws m) :: L) (K (ptr b 0))) : G w0 L (CP Tryz.prog Fn.ref7_Whole [v, i64 m] K) := by
  have hb := held_le (n := (ws.length : Int)) (show (32 : Int) ≤ 256 by omega)
  refine C_ref7_Whole ?_
  unfold S_ref7_Whole
  try simp (maxSteps := 2000000) only [↓RG, RP, RB, BEq.rfl, Int.reduceEq, Int.reduceLT, Int.reduceLE, Nat.reduceEqDiff]
  refine s_ref7_NewView fun b => ?_
  have hK := hK b
  unfold vAll at hK
  generalize hN : (held (ws.length : Int) 32 256).toNat = N at hK
  have hN1 : 32 ≤ N ∧ N ≤ 256 := by omega
  have hnone : ∀ j : Nat, lookC (knW ws j) ((j : Int) + 1) = none := fun j => knW_none (by omega)
  have hok : ∀ j : Nat, j ≤ N - 1 → OkV ⟨N, knW ws j, ⟨held m 0 96, ⟨[], []⟩, []⟩, 0⟩ := fun j => by
    induction j with
    | zero => exact fun _ => ⟨hN1.1, hN1.2, by simp [knW], by simp [knW]⟩
    | succ j ih =>
      intro hj
      have := (ih (by omega)).know (a := (j : Int) + 1) (x := ws.getD (j + 1) 0) (by simp [isV]; omega) (hnone j)
      rw [knW_succ]; exact this
  refine G.loop1 (fun j : Nat => i64 (j + 1 : Nat)) (fun j => ob RViewR b ⟨N, knW ws j, ⟨held m 0 96, ⟨[], []⟩, []⟩, 0⟩ :: L) (fun j => j ≤ N - 1) (fun j => N - j) 0 rfl rfl (by simp) ?_
  intro j hj J hJ
  rw [RViewR_open]
  rintro vk lp ⟨h1, h3⟩
  try simp (maxSteps := 2000000) only [↓RG, RP, RB, BEq.rfl, Int.reduceEq, Int.reduceLT, Int.reduceLE, Nat.reduceEqDiff]
  refine G.cond (fun h => ?_) (fun h => ?_)
  · have hj2 : j + 1 < N := by simp at h; omega
    try simp (maxSteps := 2000000) only [↓RG, RP, RB, BEq.rfl, Int.reduceEq, Int.reduceLT, Int.reduceLE, Nat.reduceEqDiff]
    refine G.join1 (fun x : Int => u64 x) (fun _ => own b [i64 N, vk, ptr lp 0, i64 0] :: sl tCellE vk (knW ws j) :: ob RLevelsR lp ⟨held m 0 96, ⟨[], []⟩, []⟩ :: L) (fun x => x = ws.getD (j + 1) 0) ?_ (fun J2 hJ2 => ?_)
    · intro x hx
      subst hx
      try simp (maxSteps := 2000000) only [↓RG, RP, RB, BEq.rfl, Int.reduceEq, Int.reduceLT, Int.reduceLE, Nat.reduceEqDiff]
      refine G.append1 (E := tCellE) (a := ⟨((j + 1 : Nat) : Int), ws.getD (j + 1) 0⟩) rfl rfl (by decide) (by simp only [knW_len]; omega) (by simp only [maxLen, knW_len]; omega) fun u hu => ?_
      try simp (maxSteps := 2000000) only [↓RG, RP, RB, BEq.rfl, Int.reduceEq, Int.reduceLT, Int.reduceLE, Nat.reduceEqDiff]
      rw [wsucc (by omega)]
      have e : knW ws j ++ [⟨((j + 1 : Nat) : Int), ws.getD (j + 1) 0⟩] = knW ws (j + 1) := by rw [knW_succ]; rfl
      rw [e]
      refine RViewR_close b lp ⟨N, knW ws (j + 1), ⟨held m 0 96, ⟨[], []⟩, []⟩, 0⟩ ⟨hu, hok (j + 1) (by omega)⟩ ?_
      exact hJ (j + 1) (by omega) (by omega)
    · refine G.cond (fun h2 => ?_) (fun h2 => ?_)
      · have hj3 : j + 1 < ws.length := by simp at h2; omega
        have e := elem_of hj3
        try simp (maxSteps := 2000000) only [↓RG, RP, RB, BEq.rfl, Int.reduceEq, Int.reduceLT, Int.reduceLE, Nat.reduceEqDiff]
        exact hJ2 _ (by simp [hj3])
      · have hj3 : ¬ j + 1 < ws.length := by simp at h2; omega
        exact hJ2 0 (by rw [List.getD_eq_getElem?_getD, List.getElem?_eq_none (by omega)]; rfl)
  · have hj2 : j = N - 1 := by simp at h; omega
    subst hj2
    refine RViewR_close b lp ⟨N, knW ws (N - 1), ⟨held m 0 96, ⟨[], []⟩, []⟩, 0⟩ ⟨h1, h3⟩ ?_
    exact hK

end
end Go.Proofs.YtokbiojkpldfeaaGreat.S
