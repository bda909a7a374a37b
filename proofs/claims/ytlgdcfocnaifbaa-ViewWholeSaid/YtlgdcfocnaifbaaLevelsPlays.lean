/-
  CHAPTER 9: the program's levels and the reference's, side by side.
-/
import Derived.Test.YtlgdcfocnaifbaaRefLevelsC
namespace Go.Proofs.Ytlgdcfocnaifbaa.S
open Go Go.Proofs
set_option linter.unusedVariables false
set_option linter.unusedSimpArgs false

theorem lOpen_frees {s : LvS} : (lOpen s).1.frees.length = s.frees.length := by
  unfold lOpen
  split
  · rfl
  · simp [LvS.frees, freesR]
theorem lDrop_frees {s : LvS} : (lDrop s).1.frees.length ≤ s.frees.length := by
  unfold lDrop
  cases e : s.up with
  | nil => simp
  | cons q up => simp [LvS.frees, e, freesR]
theorem free_frees {s : LvS} {n : Int} : (s.free n).frees.length = s.frees.length + 1 := by
  simp [LvS.free, LvS.frees, freesR]; omega
theorem put_frees {s : LvS} {a x : Int} : (s.put a x).frees = s.frees := by simp [LvS.put, LvS.frees, freesR]
theorem lPuts_frees : ∀ {l : List TCell} {s : LvS}, (lPuts s l).1.frees = s.frees
  | [], s => rfl
  | c :: l, s => by
    unfold lPuts
    split
    · rw [lPuts_frees, put_frees]
    · rfl
theorem lTake_frees {s : LvS} {l : List TCell} : (lTake s l).1.frees = s.frees := by
  unfold lTake
  split
  · exact lPuts_frees
  · rfl
theorem r_frees {s : LvS} : s.r.f.length ≤ s.frees.length := by simp [LvS.frees, freesR]

section
variable {w0 : Base} {L M : List Asn} {K : KV} {F : World → Prop} {C : Asn → List Asn} {b c : Nat} {s : LvS}

set_option maxHeartbeats 1000000 in
set_option maxHeartbeats 1000000 in
end
end Go.Proofs.Ytlgdcfocnaifbaa.S
