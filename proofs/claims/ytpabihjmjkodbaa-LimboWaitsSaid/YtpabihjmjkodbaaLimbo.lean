/-
  CHAPTER 12: contracts of package limbo.
-/
import Derived.Test.YtpabihjmjkodbaaEpoch
namespace Go.Proofs.Ytpabihjmjkodbaa.S
open Go Go.Proofs
set_option linter.unusedVariables false
set_option linter.unusedSimpArgs false

/-- an object of one cell that holds a slice -/
def BoxR {α : Type} (E : Enc α) (b : Nat) (xs : List α) : Asn := exA fun v => star (pureA (Cells v [v])) (star (own b [v]) (sl E v xs))

theorem BoxR_open {α : Type} {E : Enc α} {w0 : World} {M : List Asn} {F : World → Prop} {b : Nat} {xs : List α} : G w0 (ob (BoxR E) b xs :: M) F = ∀ v, Cells v [v] → G w0 (own b [v] :: sl E v xs :: M) F := by
  rw [ob_eq, BoxR]
  simp only [G_ex, G_star, G_pure]

section
variable {w0 : World} {L M : List Asn} {K : KV} {F : World → Prop} {C : Asn → List Asn} {b : Nat} {xs : List TRest}

theorem s_limbo_New (hK : ∀ b, G w0 (ob (BoxR tRestE) b [] :: L) (K (ptr b 0))) : G w0 L (CP Try.prog Fn.limbo_New [] K) := by
  refine C_limbo_New ?_
  unfold S_limbo_New
  try simp only [↓RG, RP, true_and, and_true, beq_true, beq_false, Bool.true_beq, Bool.false_beq, BEq.rfl, Int.reduceEq, Int.reduceLT, Int.reduceLE, Nat.reduceEqDiff, decide_true, decide_false, Bool.not_true, Bool.not_false, Bool.and_true, Bool.true_and, Bool.and_false, Bool.false_and, Bool.or_true, Bool.true_or, Bool.or_false, Bool.false_or, Bool.not_not]
  refine G.nilsl tRestE ?_
  refine G.box fun b => ?_
  have := hK b
  rw [BoxR_open] at this
  exact this _ cells_slice

theorem s_limbo_Limbo_Len [i : SelOb L (BoxR tRestE) b xs C] (hK : G w0 L (K (i64 xs.length))) : G w0 L (CP Try.prog Fn.limbo_Limbo_Len [ptr b 0] K) := by
  refine i.ro (fun M hK => ?_) hK
  rw [BoxR_open] at *
  intro v hv
  refine C_limbo_Limbo_Len ?_
  unfold S_limbo_Limbo_Len
  try simp only [↓RG, RP, true_and, and_true, beq_true, beq_false, Bool.true_beq, Bool.false_beq, BEq.rfl, Int.reduceEq, Int.reduceLT, Int.reduceLE, Nat.reduceEqDiff, decide_true, decide_false, Bool.not_true, Bool.not_false, Bool.and_true, Bool.true_and, Bool.and_false, Bool.false_and, Bool.or_true, Bool.true_or, Bool.or_false, Bool.false_or, Bool.not_not]
  exact hK v hv

theorem s_limbo_Limbo_All [i : SelOb L (BoxR tRestE) b xs C] (hl : xs.length ≤ 1000000) (hK : ∀ u, Cells u [u] → G w0 (sl tRestE u xs :: L) (K u)) : G w0 L (CP Try.prog Fn.limbo_Limbo_All [ptr b 0] K) := by
  refine i.roN (fun M hK => ?_) hK
  rw [BoxR_open]
  intro v hv
  refine C_limbo_Limbo_All ?_
  unfold S_limbo_Limbo_All
  try simp only [↓RG, RP, true_and, and_true, beq_true, beq_false, Bool.true_beq, Bool.false_beq, BEq.rfl, Int.reduceEq, Int.reduceLT, Int.reduceLE, Nat.reduceEqDiff, decide_true, decide_false, Bool.not_true, Bool.not_false, Bool.and_true, Bool.true_and, Bool.and_false, Bool.false_and, Bool.or_true, Bool.true_or, Bool.or_false, Bool.false_or, Bool.not_not]
  refine s_slices_Clone_api_Rest_api_Rest hl fun u hu => ?_
  have := hK u hu
  rw [G_swap, BoxR_open] at this
  exact G.sub (this v hv)

theorem s_limbo_Limbo_Add {v : Value} {bs : List Int} {t : Int} [i : SelOb L (BoxR tRestE) b xs C] [r : ∀ A, Rd w0 (C A) v intE 1 bs] (hl : xs.length + bs.length ≤ 1000000)
    (hK : G w0 (C (ob (BoxR tRestE) b (xs ++ bs.map fun n => ⟨n, t⟩))) (K (.tuple #[]))) : G w0 L (CP Try.prog Fn.limbo_Limbo_Add [ptr b 0, u64 t, v] K) := by
  refine i.useM (fun M hM hK => ?_) hK
  have r' := Rd.frame hM r
  refine C_limbo_Limbo_Add ?_
  unfold S_limbo_Limbo_Add
  try simp only [↓RG, RP, true_and, and_true, beq_true, beq_false, Bool.true_beq, Bool.false_beq, BEq.rfl, Int.reduceEq, Int.reduceLT, Int.reduceLE, Nat.reduceEqDiff, decide_true, decide_false, Bool.not_true, Bool.not_false, Bool.and_true, Bool.true_and, Bool.and_false, Bool.false_and, Bool.or_true, Bool.true_or, Bool.or_false, Bool.false_or, Bool.not_not]
  refine G.loop1 (fun k : Nat => i64 k) (fun k => ob (BoxR tRestE) b (xs ++ (bs.take k).map fun n => ⟨n, t⟩) :: M) (fun k => k ≤ bs.length) (fun k => bs.length - k) 0 rfl (by simp) (by simp) ?_
  intro k hk J hJ
  try simp only [↓RG, RP, true_and, and_true, beq_true, beq_false, Bool.true_beq, Bool.false_beq, BEq.rfl, Int.reduceEq, Int.reduceLT, Int.reduceLE, Nat.reduceEqDiff, decide_true, decide_false, Bool.not_true, Bool.not_false, Bool.and_true, Bool.true_and, Bool.and_false, Bool.false_and, Bool.or_true, Bool.true_or, Bool.or_false, Bool.false_or, Bool.not_not]
  refine G.cond (fun h => ?_) (fun h => ?_)
  · have hk2 : k < bs.length := by simpa using h
    have e := elem_of hk2
    rw [BoxR_open]
    intro u hu
    try simp only [↓RG, RP, true_and, and_true, beq_true, beq_false, Bool.true_beq, Bool.false_beq, BEq.rfl, Int.reduceEq, Int.reduceLT, Int.reduceLE, Nat.reduceEqDiff, decide_true, decide_false, Bool.not_true, Bool.not_false, Bool.and_true, Bool.true_and, Bool.and_false, Bool.false_and, Bool.or_true, Bool.true_or, Bool.or_false, Bool.false_or, Bool.not_not]
    refine G.append1 rfl rfl (by decide) (by simp; omega) (by simp [maxLen]; omega) fun u2 hu2 => ?_
    try simp only [↓RG, RP, true_and, and_true, beq_true, beq_false, Bool.true_beq, Bool.false_beq, BEq.rfl, Int.reduceEq, Int.reduceLT, Int.reduceLE, Nat.reduceEqDiff, decide_true, decide_false, Bool.not_true, Bool.not_false, Bool.and_true, Bool.true_and, Bool.and_false, Bool.false_and, Bool.or_true, Bool.true_or, Bool.or_false, Bool.false_or, Bool.not_not]
    rw [wsucc (by omega)]
    have := hJ (k + 1) hk2 (by omega)
    rw [BoxR_open] at this
    have hx : xs ++ (bs.take (k + 1)).map (fun n => (⟨n, t⟩ : TRest)) = xs ++ (bs.take k).map (fun n => (⟨n, t⟩ : TRest)) ++ [⟨bs[k], t⟩] := by
      rw [List.take_add_one, List.getElem?_eq_getElem hk2, List.map_append, ← List.append_assoc]; rfl
    rw [hx] at this
    exact this u2 hu2
  · have : bs.take k = bs := List.take_of_length_le (by simpa using h)
    rw [this]
    exact hK

theorem take_filter {α : Type} (p : α → Bool) (xs : List α) (k : Nat) (h : k < xs.length) : (xs.take (k + 1)).filter p = if p xs[k] = true then (xs.take k).filter p ++ [xs[k]] else (xs.take k).filter p := by
  rw [List.take_add_one, List.getElem?_eq_getElem h, List.filter_append]
  cases hp : p xs[k] <;> simp [hp]

theorem filter_take_le {α : Type} (p : α → Bool) (xs : List α) (k : Nat) : ((xs.take k).filter p).length ≤ xs.length := by
  have h1 := List.length_filter_le p (xs.take k)
  have h2 : (xs.take k).length ≤ xs.length := by rw [List.length_take]; omega
  omega

theorem s_ref7_Ripe {v sv : Value} {ss : List Int} [r1 : Rd w0 L v tRestE 2 xs] [r : Rd w0 L sv wordE 1 ss] (hl : xs.length ≤ 100000) (hl2 : ss.length ≤ 100000)
    (hK : ∀ u u2, Cells u [u] → Cells u2 [u2] → G w0 (sl tRestE u (xs.filter fun x => passed ss x.stamp) :: sl tRestE u2 (xs.filter fun x => !passed ss x.stamp) :: L) (K (.tuple #[u, u2]))) : G w0 L (CP Try.prog Fn.ref7_Ripe [v, sv] K) := by
  refine C_ref7_Ripe ?_
  unfold S_ref7_Ripe
  refine G.nilsl tRestE ?_
  refine G.nilsl tRestE ?_
  refine G.loop3 (σ := Value × Value × Nat) (fun s => s.1) (fun s => s.2.1) (fun s => i64 s.2.2) (fun s => sl tRestE s.1 ((xs.take s.2.2).filter fun x => passed ss x.stamp) :: sl tRestE s.2.1 ((xs.take s.2.2).filter fun x => !passed ss x.stamp) :: L)
    (fun s => s.2.2 ≤ xs.length ∧ Cells s.1 [s.1] ∧ Cells s.2.1 [s.2.1]) (fun s => xs.length - s.2.2) (_, _, 0) rfl rfl rfl (by simp) ⟨by simp, cells_slice, cells_slice⟩ ?_
  rintro ⟨u, u2, k⟩ ⟨hk, hu, hu2⟩ J hJ
  simp only at hk hu hu2 hJ ⊢
  try simp only [↓RG, RP, true_and, and_true, beq_true, beq_false, Bool.true_beq, Bool.false_beq, BEq.rfl, Int.reduceEq, Int.reduceLT, Int.reduceLE, Nat.reduceEqDiff, decide_true, decide_false, Bool.not_true, Bool.not_false, Bool.and_true, Bool.true_and, Bool.and_false, Bool.false_and, Bool.or_true, Bool.true_or, Bool.or_false, Bool.false_or, Bool.not_not]
  refine G.cond (fun h => ?_) (fun h => ?_)
  · have hk2 : k < xs.length := by simpa using h
    have e := elem_of hk2
    have l1 := filter_take_le (fun x => passed ss x.stamp) xs k
    have l2 := filter_take_le (fun x => !passed ss x.stamp) xs k
    have t1 := take_filter (fun x => passed ss x.stamp) xs k hk2
    have t2 := take_filter (fun x => !passed ss x.stamp) xs k hk2
    try simp only [↓RG, RP, true_and, and_true, beq_true, beq_false, Bool.true_beq, Bool.false_beq, BEq.rfl, Int.reduceEq, Int.reduceLT, Int.reduceLE, Nat.reduceEqDiff, decide_true, decide_false, Bool.not_true, Bool.not_false, Bool.and_true, Bool.true_and, Bool.and_false, Bool.false_and, Bool.or_true, Bool.true_or, Bool.or_false, Bool.false_or, Bool.not_not]
    refine s_ref1_Passed (xs := ss) (by omega) ?_
    try simp only [↓RG, RP, true_and, and_true, beq_true, beq_false, Bool.true_beq, Bool.false_beq, BEq.rfl, Int.reduceEq, Int.reduceLT, Int.reduceLE, Nat.reduceEqDiff, decide_true, decide_false, Bool.not_true, Bool.not_false, Bool.and_true, Bool.true_and, Bool.and_false, Bool.false_and, Bool.or_true, Bool.true_or, Bool.or_false, Bool.false_or, Bool.not_not]
    refine G.join2 (σ := Value × Value) (fun s => s.1) (fun s => s.2) (fun s => sl tRestE s.1 ((xs.take (k + 1)).filter fun x => passed ss x.stamp) :: sl tRestE s.2 ((xs.take (k + 1)).filter fun x => !passed ss x.stamp) :: L) (fun s => Cells s.1 [s.1] ∧ Cells s.2 [s.2]) ?_ (fun J2 hJ2 => ?_)
    · rintro ⟨y, y2⟩ ⟨hy, hy2⟩
      try simp only [↓RG, RP, true_and, and_true, beq_true, beq_false, Bool.true_beq, Bool.false_beq, BEq.rfl, Int.reduceEq, Int.reduceLT, Int.reduceLE, Nat.reduceEqDiff, decide_true, decide_false, Bool.not_true, Bool.not_false, Bool.and_true, Bool.true_and, Bool.and_false, Bool.false_and, Bool.or_true, Bool.true_or, Bool.or_false, Bool.false_or, Bool.not_not]
      rw [wsucc (by omega)]
      exact hJ (y, y2, k + 1) ⟨hk2, hy, hy2⟩ (by simp; omega)
    · refine G.cond (fun h => ?_) (fun h => ?_)
      · simp only [h, if_true, Bool.not_true, Bool.false_eq_true, if_false] at t1 t2
        try simp only [↓RG, RP, true_and, and_true, beq_true, beq_false, Bool.true_beq, Bool.false_beq, BEq.rfl, Int.reduceEq, Int.reduceLT, Int.reduceLE, Nat.reduceEqDiff, decide_true, decide_false, Bool.not_true, Bool.not_false, Bool.and_true, Bool.true_and, Bool.and_false, Bool.false_and, Bool.or_true, Bool.true_or, Bool.or_false, Bool.false_or, Bool.not_not]
        refine G.append1 rfl rfl (by decide) (by omega) (by simp only [maxLen]; omega) fun y hy => ?_
        have := hJ2 (y, u2) ⟨hy, hu2⟩
        rw [t1, t2] at this
        exact this
      · simp only [h, if_true, Bool.not_false, Bool.false_eq_true, if_false] at t1 t2
        try simp only [↓RG, RP, true_and, and_true, beq_true, beq_false, Bool.true_beq, Bool.false_beq, BEq.rfl, Int.reduceEq, Int.reduceLT, Int.reduceLE, Nat.reduceEqDiff, decide_true, decide_false, Bool.not_true, Bool.not_false, Bool.and_true, Bool.true_and, Bool.and_false, Bool.false_and, Bool.or_true, Bool.true_or, Bool.or_false, Bool.false_or, Bool.not_not]
        refine G.append1 rfl rfl (by decide) (by omega) (by simp only [maxLen]; omega) fun y hy => ?_
        have := hJ2 (u, y) ⟨hu, hy⟩
        rw [t1, t2] at this
        exact this
  · have : xs.take k = xs := List.take_of_length_le (by simpa using h)
    rw [this]
    exact (hK u u2 hu hu2).sub

theorem s_limbo_Limbo_Ripe {sv : Value} {ss : List Int} [i : SelOb L (BoxR tRestE) b xs C] [r : ∀ A, Rd w0 (C A) sv wordE 1 ss] (hl : xs.length ≤ 100000) (hl2 : ss.length ≤ 100000)
    (hK : ∀ u, Cells u [u] → G w0 (sl tRestE u (xs.filter fun x => passed ss x.stamp) :: C (ob (BoxR tRestE) b (xs.filter fun x => !passed ss x.stamp))) (K u)) : G w0 L (CP Try.prog Fn.limbo_Limbo_Ripe [ptr b 0, sv] K) := by
  refine i.useNM (fun M hM hK => ?_) hK
  have r' := Rd.frame hM r
  refine C_limbo_Limbo_Ripe ?_
  unfold S_limbo_Limbo_Ripe
  rw [BoxR_open]
  intro v hv
  try simp only [↓RG, RP, true_and, and_true, beq_true, beq_false, Bool.true_beq, Bool.false_beq, BEq.rfl, Int.reduceEq, Int.reduceLT, Int.reduceLE, Nat.reduceEqDiff, decide_true, decide_false, Bool.not_true, Bool.not_false, Bool.and_true, Bool.true_and, Bool.and_false, Bool.false_and, Bool.or_true, Bool.true_or, Bool.or_false, Bool.false_or, Bool.not_not]
  refine G.nilsl tRestE ?_
  refine G.nilsl tRestE ?_
  refine G.loop3 (σ := Value × Value × Nat) (fun s => s.1) (fun s => s.2.1) (fun s => i64 s.2.2) (fun s => sl tRestE s.1 ((xs.take s.2.2).filter fun x => passed ss x.stamp) :: sl tRestE s.2.1 ((xs.take s.2.2).filter fun x => !passed ss x.stamp) :: own b [v] :: sl tRestE v xs :: M)
    (fun s => s.2.2 ≤ xs.length ∧ Cells s.1 [s.1] ∧ Cells s.2.1 [s.2.1]) (fun s => xs.length - s.2.2) (_, _, 0) rfl rfl rfl (by simp) ⟨by simp, cells_slice, cells_slice⟩ ?_
  rintro ⟨u, u2, k⟩ ⟨hk, hu, hu2⟩ J hJ
  simp only at hk hu hu2 hJ ⊢
  try simp only [↓RG, RP, true_and, and_true, beq_true, beq_false, Bool.true_beq, Bool.false_beq, BEq.rfl, Int.reduceEq, Int.reduceLT, Int.reduceLE, Nat.reduceEqDiff, decide_true, decide_false, Bool.not_true, Bool.not_false, Bool.and_true, Bool.true_and, Bool.and_false, Bool.false_and, Bool.or_true, Bool.true_or, Bool.or_false, Bool.false_or, Bool.not_not]
  refine G.cond (fun h => ?_) (fun h => ?_)
  · have hk2 : k < xs.length := by simpa using h
    have e := elem_of hk2
    have l1 := filter_take_le (fun x => passed ss x.stamp) xs k
    have l2 := filter_take_le (fun x => !passed ss x.stamp) xs k
    have t1 := take_filter (fun x => passed ss x.stamp) xs k hk2
    have t2 := take_filter (fun x => !passed ss x.stamp) xs k hk2
    try simp only [↓RG, RP, true_and, and_true, beq_true, beq_false, Bool.true_beq, Bool.false_beq, BEq.rfl, Int.reduceEq, Int.reduceLT, Int.reduceLE, Nat.reduceEqDiff, decide_true, decide_false, Bool.not_true, Bool.not_false, Bool.and_true, Bool.true_and, Bool.and_false, Bool.false_and, Bool.or_true, Bool.true_or, Bool.or_false, Bool.false_or, Bool.not_not]
    refine G.new fun p => ?_
    try simp only [↓RG, RP, true_and, and_true, beq_true, beq_false, Bool.true_beq, Bool.false_beq, BEq.rfl, Int.reduceEq, Int.reduceLT, Int.reduceLE, Nat.reduceEqDiff, decide_true, decide_false, Bool.not_true, Bool.not_false, Bool.and_true, Bool.true_and, Bool.and_false, Bool.false_and, Bool.or_true, Bool.true_or, Bool.or_false, Bool.false_or, Bool.not_not]
    refine s_epoch_Passed (xs := ss) (by omega) ?_
    try simp only [↓RG, RP, true_and, and_true, beq_true, beq_false, Bool.true_beq, Bool.false_beq, BEq.rfl, Int.reduceEq, Int.reduceLT, Int.reduceLE, Nat.reduceEqDiff, decide_true, decide_false, Bool.not_true, Bool.not_false, Bool.and_true, Bool.true_and, Bool.and_false, Bool.false_and, Bool.or_true, Bool.true_or, Bool.or_false, Bool.false_or, Bool.not_not]
    refine G.join2 (σ := Value × Value) (fun s => s.1) (fun s => s.2) (fun s => sl tRestE s.1 ((xs.take (k + 1)).filter fun x => passed ss x.stamp) :: sl tRestE s.2 ((xs.take (k + 1)).filter fun x => !passed ss x.stamp) :: own b [v] :: sl tRestE v xs :: M) (fun s => Cells s.1 [s.1] ∧ Cells s.2 [s.2]) ?_ (fun J2 hJ2 => ?_)
    · rintro ⟨y, y2⟩ ⟨hy, hy2⟩
      try simp only [↓RG, RP, true_and, and_true, beq_true, beq_false, Bool.true_beq, Bool.false_beq, BEq.rfl, Int.reduceEq, Int.reduceLT, Int.reduceLE, Nat.reduceEqDiff, decide_true, decide_false, Bool.not_true, Bool.not_false, Bool.and_true, Bool.true_and, Bool.and_false, Bool.false_and, Bool.or_true, Bool.true_or, Bool.or_false, Bool.false_or, Bool.not_not]
      rw [wsucc (by omega)]
      exact hJ (y, y2, k + 1) ⟨hk2, hy, hy2⟩ (by simp; omega)
    · refine G.cond (fun h => ?_) (fun h => ?_)
      · simp only [h, if_true, Bool.not_true, Bool.false_eq_true, if_false] at t1 t2
        try simp only [↓RG, RP, true_and, and_true, beq_true, beq_false, Bool.true_beq, Bool.false_beq, BEq.rfl, Int.reduceEq, Int.reduceLT, Int.reduceLE, Nat.reduceEqDiff, decide_true, decide_false, Bool.not_true, Bool.not_false, Bool.and_true, Bool.true_and, Bool.and_false, Bool.false_and, Bool.or_true, Bool.true_or, Bool.or_false, Bool.false_or, Bool.not_not]
        refine G.append1 rfl rfl (by decide) (by omega) (by simp only [maxLen]; omega) fun y hy => ?_
        have := hJ2 (y, u2) ⟨hy, hu2⟩
        rw [t1, t2] at this
        exact this.sub
      · simp only [h, if_true, Bool.not_false, Bool.false_eq_true, if_false] at t1 t2
        try simp only [↓RG, RP, true_and, and_true, beq_true, beq_false, Bool.true_beq, Bool.false_beq, BEq.rfl, Int.reduceEq, Int.reduceLT, Int.reduceLE, Nat.reduceEqDiff, decide_true, decide_false, Bool.not_true, Bool.not_false, Bool.and_true, Bool.true_and, Bool.and_false, Bool.false_and, Bool.or_true, Bool.true_or, Bool.or_false, Bool.false_or, Bool.not_not]
        refine G.append1 rfl rfl (by decide) (by omega) (by simp only [maxLen]; omega) fun y hy => ?_
        have := hJ2 (u, y) ⟨hu, hy⟩
        rw [t1, t2] at this
        exact this.sub
  · have : xs.take k = xs := List.take_of_length_le (by simpa using h)
    rw [this]
    try simp only [↓RG, RP, true_and, and_true, beq_true, beq_false, Bool.true_beq, Bool.false_beq, BEq.rfl, Int.reduceEq, Int.reduceLT, Int.reduceLE, Nat.reduceEqDiff, decide_true, decide_false, Bool.not_true, Bool.not_false, Bool.and_true, Bool.true_and, Bool.and_false, Bool.false_and, Bool.or_true, Bool.true_or, Bool.or_false, Bool.false_or, Bool.not_not]
    have := hK u hu
    rw [G_swap, BoxR_open] at this
    exact (this u2 hu2).sub

end
end Go.Proofs.Ytpabihjmjkodbaa.S
