import Derived.Test.YtoealglbimbbmaaGreatDoorSLink
import Derived.Test.YtoealglbimbbmaaGreatDoorData
namespace Go.Proofs.YtoealglbimbbmaaGreatDoor.S
open Go Go.Proofs
set_option linter.unusedVariables false
set_option linter.unusedSimpArgs false
theorem s_slices_Clone_uint64_uint64 {w0 : Base} {L : List Asn} {K : KV} {v : Value} {sz : Nat} {xs : List Int} [r : Rd w0 L v wordE sz xs] (hl : xs.length ≤ 1000000) (hK : ∀ u, Cells u [u] → G w0 (sl wordE u xs :: L) (K u)) : G w0 L (CP Tryz.prog Fn.slices_Clone_uint64_uint64 [v] K) := by
 have z1 := r.sz
 subst z1
 refine C_slices_Clone_uint64_uint64 ?_
 unfold S_slices_Clone_uint64_uint64
 refine G.isNil fun t ht => ?_
 refine G.cond (fun h => ?_) (fun h => ?_)
 ·have := ht h
  subst this
  exact G.nilsl wordE (hK _ cells_slice)
 ·refine G.build wordE [] rfl (by simp) rfl fun y _ => ?_
  refine G.append (by simp; omega) (by simp [maxLen]; omega) fun u hu => ?_
  exact hK u hu
theorem s_slices_Clone_api_Cell_api_Cell {w0 : Base} {L : List Asn} {K : KV} {v : Value} {sz : Nat} {xs : List TCell} [r : Rd w0 L v tCellE sz xs] (hl : xs.length ≤ 1000000) (hK : ∀ u, Cells u [u] → G w0 (sl tCellE u xs :: L) (K u)) : G w0 L (CP Tryz.prog Fn.slices_Clone_api_Cell_api_Cell [v] K) := by
 have z1 := r.sz
 subst z1
 refine C_slices_Clone_api_Cell_api_Cell ?_
 unfold S_slices_Clone_api_Cell_api_Cell
 refine G.isNil fun t ht => ?_
 refine G.cond (fun h => ?_) (fun h => ?_)
 ·have := ht h
  subst this
  exact G.nilsl tCellE (hK _ cells_slice)
 ·refine G.build tCellE [] rfl (by simp) rfl fun y _ => ?_
  refine G.append (by simp; omega) (by simp [maxLen]; omega) fun u hu => ?_
  exact hK u hu
theorem s_slices_Clone_int_int {w0 : Base} {L : List Asn} {K : KV} {v : Value} {sz : Nat} {xs : List Int} [r : Rd w0 L v intE sz xs] (hl : xs.length ≤ 1000000) (hK : ∀ u, Cells u [u] → G w0 (sl intE u xs :: L) (K u)) : G w0 L (CP Tryz.prog Fn.slices_Clone_int_int [v] K) := by
 have z1 := r.sz
 subst z1
 refine C_slices_Clone_int_int ?_
 unfold S_slices_Clone_int_int
 refine G.isNil fun t ht => ?_
 refine G.cond (fun h => ?_) (fun h => ?_)
 ·have := ht h
  subst this
  exact G.nilsl intE (hK _ cells_slice)
 ·refine G.build intE [] rfl (by simp) rfl fun y _ => ?_
  refine G.append (by simp; omega) (by simp [maxLen]; omega) fun u hu => ?_
  exact hK u hu
theorem s_slices_Clone_api_Seen_api_Seen {w0 : Base} {L : List Asn} {K : KV} {v : Value} {sz : Nat} {xs : List TSeen} [r : Rd w0 L v tSeenE sz xs] (hl : xs.length ≤ 1000000) (hK : ∀ u, Cells u [u] → G w0 (sl tSeenE u xs :: L) (K u)) : G w0 L (CP Tryz.prog Fn.slices_Clone_api_Seen_api_Seen [v] K) := by
 have z1 := r.sz
 subst z1
 refine C_slices_Clone_api_Seen_api_Seen ?_
 unfold S_slices_Clone_api_Seen_api_Seen
 refine G.isNil fun t ht => ?_
 refine G.cond (fun h => ?_) (fun h => ?_)
 ·have := ht h
  subst this
  exact G.nilsl tSeenE (hK _ cells_slice)
 ·refine G.build tSeenE [] rfl (by simp) rfl fun y _ => ?_
  refine G.append (by simp; omega) (by simp [maxLen]; omega) fun u hu => ?_
  exact hK u hu
def within (n lo hi : Int) : Int := lo + n % (hi - lo + 1)
theorem s_book_Within {w0 : Base} {L : List Asn} {K : KV} {n lo hi : Int} (h1 : -4611686018427387904 ≤ lo) (h2 : lo ≤ hi) (h3 : hi ≤ 4611686018427387904) (hd : hi - lo ≤ 4611686018427387904) (hK : G w0 L (K (i64 (within n lo hi)))) : G w0 L (CP Tryz.prog Fn.book_Within [i64 n, i64 lo, i64 hi] K) := by
 refine C_book_Within ?_
 unfold S_book_Within
 have e1 : IntKind.wrap .i64 (IntKind.wrap .i64 (hi - lo) + 1) = hi - lo + 1 := by rw [wi64 (n := hi - lo) (by omega) (by omega), wi64 (by omega) (by omega)]
 have ne : NeZ (hi - lo + 1) := ⟨by omega⟩
 have hm : hi - lo + 1 > 0 := by omega
 have t1 := Int.tmod_lt_of_pos n hm
 have t2 := Int.lt_tmod_of_pos n hm
 have t3 : n % (hi - lo + 1) = if n.tmod (hi - lo + 1) < 0 then n.tmod (hi - lo + 1) + (hi - lo + 1) else n.tmod (hi - lo + 1) := by
  rw [Int.emod_eq_tmod]
  by_cases h0 : 0 ≤ n
  ·have := Int.tmod_nonneg (hi - lo + 1) h0
   simp [h0]; omega
  ·have h00 := Int.tmod_nonneg (hi - lo + 1) (show 0 ≤ -n by omega)
   rw [Int.neg_tmod] at h00
   have : n.tmod (hi - lo + 1) ≤ 0 := by omega
   by_cases hd : hi - lo + 1 ∣ n
   ·have := Int.tmod_eq_zero_of_dvd hd
    simp [hd, this]
   ·have hne : n.tmod (hi - lo + 1) ≠ 0 := fun h => hd (Int.dvd_of_tmod_eq_zero h)
    simp [h0, hd]; omega
 unfold within at hK
 try simp (maxSteps := 2000000) only [↓RG, RP, RB, BEq.rfl, Int.reduceEq, Int.reduceLT, Int.reduceLE, Nat.reduceEqDiff]
 simp only [e1]
 try simp (maxSteps := 2000000) only [↓RG, RP, RB, BEq.rfl, Int.reduceEq, Int.reduceLT, Int.reduceLE, Nat.reduceEqDiff]
 refine G.join1 (fun x : Int => i64 x) (fun _ => L) (fun x => x = n % (hi - lo + 1)) (fun x hx => ?_) (fun J hJ => ?_)
 ·subst hx
  have h4 := Int.emod_nonneg n (show hi - lo + 1 ≠ 0 by omega)
  have h5 := Int.emod_lt_of_pos n hm
  refine gr ?_
  rw [wi64 (by omega) (by omega)]
  exact hK
 ·refine G.cond (fun h => ?_) (fun h => ?_)
  ·have h : n.tmod (hi - lo + 1) < 0 := by simpa using h
   refine gr ?_
   rw [wi64 (n := n.tmod (hi - lo + 1) + hi) (by omega) (by omega), wi64 (n := n.tmod (hi - lo + 1) + hi - lo) (by omega) (by omega), wi64 (by omega) (by omega)]
   exact hJ _ (by rw [t3, if_pos h]; omega)
  ·have h : ¬ n.tmod (hi - lo + 1) < 0 := by simpa using h
   exact hJ _ (by rw [t3, if_neg h])
end Go.Proofs.YtoealglbimbbmaaGreatDoor.S
