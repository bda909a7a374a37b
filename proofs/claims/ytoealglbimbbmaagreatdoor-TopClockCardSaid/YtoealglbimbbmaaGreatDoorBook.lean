/-
  CONTRACTS OF WHAT ALL STATEMENTS CALL: quietusbook.Same, slices.Clone, quietusref1.Held.
-/
import Derived.Test.YtoealglbimbbmaaGreatDoorSLink
import Derived.Test.YtoealglbimbbmaaGreatDoorData
namespace Go.Proofs.YtoealglbimbbmaaGreatDoor.S
open Go Go.Proofs
set_option linter.unusedVariables false
set_option linter.unusedSimpArgs false

theorem s_slices_Clone_uint64_uint64 {w0 : Base} {L : List Asn} {K : KV} {v : Value} {sz : Nat} {xs : List Int} [r : Rd w0 L v wordE sz xs] (hl : xs.length ≤ 1000000) (hK : ∀ u, Cells u [u] → G w0 (sl wordE u xs :: L) (K u)) : G w0 L (CP Tryz.prog Fn.slices_Clone_uint64_uint64 [v] K) := by
  have z1 := r.sz
  subst z1
  refine C_slices_Clone_uint64_uint64 ?_
  unfold S_slices_Clone_uint64_uint64
  refine G.isNil fun t ht => ?_
  refine G.cond (fun h => ?_) (fun h => ?_)
  · have := ht h
    subst this
    exact G.nilsl wordE (hK _ cells_slice)
  · refine G.build wordE [] rfl (by simp) rfl fun y _ => ?_
    refine G.append (by simp; omega) (by simp [maxLen]; omega) fun u hu => ?_
    exact hK u hu

theorem s_slices_Clone_api_Cell_api_Cell {w0 : Base} {L : List Asn} {K : KV} {v : Value} {sz : Nat} {xs : List TCell} [r : Rd w0 L v tCellE sz xs] (hl : xs.length ≤ 1000000) (hK : ∀ u, Cells u [u] → G w0 (sl tCellE u xs :: L) (K u)) : G w0 L (CP Tryz.prog Fn.slices_Clone_api_Cell_api_Cell [v] K) := by
  have z1 := r.sz
  subst z1
  refine C_slices_Clone_api_Cell_api_Cell ?_
  unfold S_slices_Clone_api_Cell_api_Cell
  refine G.isNil fun t ht => ?_
  refine G.cond (fun h => ?_) (fun h => ?_)
  · have := ht h
    subst this
    exact G.nilsl tCellE (hK _ cells_slice)
  · refine G.build tCellE [] rfl (by simp) rfl fun y _ => ?_
    refine G.append (by simp; omega) (by simp [maxLen]; omega) fun u hu => ?_
    exact hK u hu

theorem s_slices_Clone_int_int {w0 : Base} {L : List Asn} {K : KV} {v : Value} {sz : Nat} {xs : List Int} [r : Rd w0 L v intE sz xs] (hl : xs.length ≤ 1000000) (hK : ∀ u, Cells u [u] → G w0 (sl intE u xs :: L) (K u)) : G w0 L (CP Tryz.prog Fn.slices_Clone_int_int [v] K) := by
  have z1 := r.sz
  subst z1
  refine C_slices_Clone_int_int ?_
  unfold S_slices_Clone_int_int
  refine G.isNil fun t ht => ?_
  refine G.cond (fun h => ?_) (fun h => ?_)
  · have := ht h
    subst this
    exact G.nilsl intE (hK _ cells_slice)
  · refine G.build intE [] rfl (by simp) rfl fun y _ => ?_
    refine G.append (by simp; omega) (by simp [maxLen]; omega) fun u hu => ?_
    exact hK u hu

theorem s_slices_Clone_api_Seen_api_Seen {w0 : Base} {L : List Asn} {K : KV} {v : Value} {sz : Nat} {xs : List TSeen} [r : Rd w0 L v tSeenE sz xs] (hl : xs.length ≤ 1000000) (hK : ∀ u, Cells u [u] → G w0 (sl tSeenE u xs :: L) (K u)) : G w0 L (CP Tryz.prog Fn.slices_Clone_api_Seen_api_Seen [v] K) := by
  have z1 := r.sz
  subst z1
  refine C_slices_Clone_api_Seen_api_Seen ?_
  unfold S_slices_Clone_api_Seen_api_Seen
  refine G.isNil fun t ht => ?_
  refine G.cond (fun h => ?_) (fun h => ?_)
  · have := ht h
    subst this
    exact G.nilsl tSeenE (hK _ cells_slice)
  · refine G.build tSeenE [] rfl (by simp) rfl fun y _ => ?_
    refine G.append (by simp; omega) (by simp [maxLen]; omega) fun u hu => ?_
    exact hK u hu


def within (n lo hi : Int) : Int := lo + n % (hi - lo + 1)
theorem within_le {n lo hi : Int} (h : lo ≤ hi) : lo ≤ within n lo hi ∧ within n lo hi ≤ hi := by
  unfold within
  have h1 := Int.emod_nonneg n (show hi - lo + 1 ≠ 0 by omega)
  have h2 := Int.emod_lt_of_pos n (show 0 < hi - lo + 1 by omega)
  omega

end Go.Proofs.YtoealglbimbbmaaGreatDoor.S
