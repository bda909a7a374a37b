/-
  quietuslaw24.ExtendRuns: for every argument the call returns true and leaves all that was there as it was. The shell goes by the print of proof-skeleton.mjs.
-/
import Derived.Test.YtaghnmllaghcbaaRows
import Derived.WalkKit
import Derived.ProofKit
import Derived.OpenShut
import Derived.Test.YtaghnmllaghcbaaExtendLaw
import Derived.Test.YtaghnmllaghcbaaArgs
namespace Go.Proofs.Ytaghnmllaghcbaa.extendRuns
open Go.ChangeShapes Go.WideShapes Go.ChangeAt Go.RowKit
set_option linter.unusedVariables false
set_option linter.unusedSimpArgs false

theorem own : ownKnob Try.prog.godebug = none := by kernel_rfl

set_option maxRecDepth 100000 in
theorem lifted (os : Os) (started : os.Started) (H : Type) (enc : TypeId × Value → H) :
    ReturnsInHanded {} Try.checked os 7 .any (Rows.extendRunsSpec.pre6 enc Try.prog Try.f7 Rows.extendRunsRow.domain false) (Rows.extendRunsSpec.post enc Try.prog Try.f7 false true false false) := by
  refine returnsInHanded_of_change (C := Try.checked) own started (by kernel_rfl) Try.func7
    (ChangeSpec.witness6 (enc := enc) (C := Try.checked) false ⟨#[], #[], []⟩ 8 (by kernel_rfl) (by kernel_rfl) (by kernel_rfl) (by kernel_rfl)) ?_
  intro W base args ds gs before hval0 hW hcnd _
  have hval : ∀ (j : Nat) t v, Try.f7.params[j]? = some t → args[j]? = some v → Value.okWide Try.prog W .any base t v := hval0
  have hW' := hW
  obtain ⟨p, q, hA0, hV, rfl, hfz, hnd⟩ := hW
  have hA : DataW.TrodAll enc Try.prog W 0 (fun _ => true) true Try.f7.params.toList args.toList ds p := hA0
  have hA2 := hA
  rw [Try.params7] at hA hval
  obtain ⟨rfl, rfl⟩ := trodVars_none hV
  obtain ⟨rfl, rfl, rfl⟩ := trodAll_none hA
  have hlt : ∀ x ∈ ([] : List MemPlace), x.block < W.heap.size := fun x hx => by cases hx
  have hc : S.CP Try.prog S.Fn.law24_ExtendRuns [] (fun v w' => v = .bool true ∧ S.Step [] W w') W := S.G.run (S.s_law24_ExtendRuns (fun w' hw' => ⟨rfl, hw'.step⟩))
  refine hc.2.mono fun e W' he => ?_
  cases e with
  | returned v =>
    obtain ⟨rfl, s⟩ := he
    have hg := s.grown
    exact ⟨_, rfl, post_of_same (pa := ([] : List MemPlace)) (pv := []) hW' (fun _ _ _ => (trodAll_cons_mk (shut_bool Try.underlying4 _) trodAll_mk0))
      (fun sp hsp => S.all_stays (by kernel_rfl) (s.below (Nat.le_refl _) (by simp)) (by kernel_rfl) hA2 hlt (fun x hx => by cases hx)) (fun _ _ => rfl) rfl
      (hg.frame _) hg.2.1 (ok_one (by kernel_rfl) rfl (okWide_bool_mk Try.underlying4 _))⟩
  | _ => exact he.elim

theorem over : Rows.extendRunsRow.holds Try.pinned (OpenSpec.ofChange Rows.extendRunsSpec) :=
  OpenClaim.holds_of_wide 7 Try.f7 rfl rfl rfl rfl rfl rfl rfl ⟨rfl, rfl, rfl, rfl, rfl⟩ rfl rfl rfl rfl rfl (by kernel_rfl) Try.func7 (by kernel_rfl)
    (of_decide_eq_true (by kernel_rfl)) (by unfold Func.isWrapper; first | (rw [if_pos (by decide +kernel)]; kernel_rfl) | (rw [if_neg (by decide +kernel)]; exact ⟨rfl, rfl⟩))
    (fun os started H enc _ => lifted os started H enc)

theorem proved : Rows.ExtendRunsSaid :=
  over
#print axioms proved
end Go.Proofs.Ytaghnmllaghcbaa.extendRuns
