/-
  CHAPTER 12: contracts of package limbo.
-/
import Derived.Test.YtoealglbimbbmaaGreatDoorEpoch
namespace Go.Proofs.YtoealglbimbbmaaGreatDoor.S
open Go Go.Proofs
set_option linter.unusedVariables false
set_option linter.unusedSimpArgs false

section
variable {w0 : Base} {L M : List Asn} {K : KV} {F : World → Prop} {C : Asn → List Asn} {b : Nat} {xs : List TRest}

theorem s_limbo_New (hK : ∀ b, G w0 (ob (BoxR tRestE) b [] :: L) (K (ptr b 0))) : G w0 L (CP Tryz.prog Fn.limbo_New [] K) := by
  refine C_limbo_New ?_
  unfold S_limbo_New
  try simp (maxSteps := 2000000) only [↓RG, RP, RB, BEq.rfl, Int.reduceEq, Int.reduceLT, Int.reduceLE, Nat.reduceEqDiff]
  refine G.nilsl tRestE ?_
  refine G.box fun b => ?_
  have := hK b
  rw [BoxR_open] at this
  exact this _ cells_slice

theorem s_limbo_Limbo_Len [i : SelOb L (BoxR tRestE) b xs C] (hK : G w0 L (K (i64 xs.length))) : G w0 L (CP Tryz.prog Fn.limbo_Limbo_Len [ptr b 0] K) := by
  refine i.ro (fun M hK => ?_) hK
  rw [BoxR_open] at *
  intro v hv
  refine C_limbo_Limbo_Len ?_
  unfold S_limbo_Limbo_Len
  try simp (maxSteps := 2000000) only [↓RG, RP, RB, BEq.rfl, Int.reduceEq, Int.reduceLT, Int.reduceLE, Nat.reduceEqDiff]
  exact hK v hv

theorem s_limbo_Limbo_Add {v : Value} {bs : List Int} {t : Int} [i : SelOb L (BoxR tRestE) b xs C] [r : ∀ A, Rd w0 (C A) v intE 1 bs] (hl : xs.length + bs.length ≤ 1000000)
    (hK : G w0 (C (ob (BoxR tRestE) b (xs ++ bs.map fun n => ⟨n, t⟩))) (K (.tuple #[]))) : G w0 L (CP Tryz.prog Fn.limbo_Limbo_Add [ptr b 0, u64 t, v] K) := by
  refine i.useM (fun M hM hK => ?_) hK
  have r' := Rd.frame hM r
  refine C_limbo_Limbo_Add ?_
  unfold S_limbo_Limbo_Add
  try simp (maxSteps := 2000000) only [↓RG, RP, RB, BEq.rfl, Int.reduceEq, Int.reduceLT, Int.reduceLE, Nat.reduceEqDiff]
  refine G.loop1 (fun k : Nat => i64 k) (fun k => ob (BoxR tRestE) b (xs ++ (bs.take k).map fun n => ⟨n, t⟩) :: M) (fun k => k ≤ bs.length) (fun k => bs.length - k) 0 rfl (by simp) (by simp) ?_
  intro k hk J hJ
  try simp (maxSteps := 2000000) only [↓RG, RP, RB, BEq.rfl, Int.reduceEq, Int.reduceLT, Int.reduceLE, Nat.reduceEqDiff]
  refine G.cond (fun h => ?_) (fun h => ?_)
  · have hk2 : k < bs.length := by simpa using h
    have e := elem_of hk2
    rw [BoxR_open]
    intro u hu
    try simp (maxSteps := 2000000) only [↓RG, RP, RB, BEq.rfl, Int.reduceEq, Int.reduceLT, Int.reduceLE, Nat.reduceEqDiff]
    refine G.append1 rfl rfl (by decide) (by simp; omega) (by simp [maxLen]; omega) fun u2 hu2 => ?_
    try simp (maxSteps := 2000000) only [↓RG, RP, RB, BEq.rfl, Int.reduceEq, Int.reduceLT, Int.reduceLE, Nat.reduceEqDiff]
    rw [wsucc (by omega)]
    have := hJ (k + 1) hk2 (by omega)
    rw [BoxR_open] at this
    have hx : xs ++ (bs.take (k + 1)).map (fun n => (⟨n, t⟩ : TRest)) = xs ++ (bs.take k).map (fun n => (⟨n, t⟩ : TRest)) ++ [⟨bs[k], t⟩] := by
      rw [List.take_add_one, List.getElem?_eq_getElem hk2, List.map_append, ← List.append_assoc]; rfl
    rw [hx] at this
    exact this u2 hu2
  · have : bs.take k = bs := List.take_of_length_le (by simpa using h)
    rw [this]
    exact hK

theorem take_filter {α : Type} (p : α → Bool) (xs : List α) (k : Nat) (h : k < xs.length) : (xs.take (k + 1)).filter p = if p xs[k] = true then (xs.take k).filter p ++ [xs[k]] else (xs.take k).filter p := by
  rw [List.take_add_one, List.getElem?_eq_getElem h, List.filter_append]
  cases hp : p xs[k] <;> simp [hp]

theorem filter_take_le {α : Type} (p : α → Bool) (xs : List α) (k : Nat) : ((xs.take k).filter p).length ≤ xs.length := by
  have h1 := List.length_filter_le p (xs.take k)
  have h2 : (xs.take k).length ≤ xs.length := by rw [List.length_take]; omega
  omega

end
end Go.Proofs.YtoealglbimbbmaaGreatDoor.S
