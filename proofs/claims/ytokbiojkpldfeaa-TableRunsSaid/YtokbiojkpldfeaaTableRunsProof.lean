/-
  quietuslaw18.TableRuns: for every argument the call returns true and leaves all that was there as it was. The shell goes by the print of proof-skeleton.mjs.
-/
import Derived.Test.YtokbiojkpldfeaaRows
import Derived.WalkKit
import Derived.ProofKit
import Derived.OpenShut
import Derived.Test.YtokbiojkpldfeaaTableRuns
import Derived.Test.YtokbiojkpldfeaaArgs
namespace Go.Proofs.Ytokbiojkpldfeaa.tableRuns
open Go.ChangeShapes Go.WideShapes Go.ChangeAt Go.RowKit
set_option linter.unusedVariables false
set_option linter.unusedSimpArgs false

theorem own : ownKnob Try.prog.godebug = none := by kernel_rfl

set_option maxRecDepth 100000 in
theorem lifted (os : Os) (started : os.Started) (H : Type) (enc : TypeId × Value → H) :
    ReturnsInHanded {} Try.checked os 6 .any (Rows.tableRunsSpec.pre6 enc Try.prog Try.f6 Rows.tableRunsRow.domain false) (Rows.tableRunsSpec.post enc Try.prog Try.f6 false true false false) := by
  refine returnsInHanded_of_change (C := Try.checked) own started (by kernel_rfl) Try.func6
    (ChangeSpec.witness6 (enc := enc) (C := Try.checked) false ⟨#[], #[], []⟩ 8 (by kernel_rfl) (by kernel_rfl) (by kernel_rfl) (by kernel_rfl)) ?_
  intro W base args ds gs before hval0 hW hcnd _
  have hval : ∀ (j : Nat) t v, Try.f6.params[j]? = some t → args[j]? = some v → Value.okWide Try.prog W .any base t v := hval0
  have hW' := hW
  obtain ⟨p, q, hA0, hV, rfl, hfz, hnd⟩ := hW
  have hA : DataW.TrodAll enc Try.prog W 0 (fun _ => true) true Try.f6.params.toList args.toList ds p := hA0
  have hAll := hA
  rw [Try.params6] at hA hval
  obtain ⟨rfl, rfl⟩ := trodVars_none hV
  obtain ⟨rfl, rfl, rfl⟩ := trodAll_none hA
  have hlt : ∀ x ∈ ([] : List MemPlace), x.block < W.heap.size := fun x hx => by cases hx
  have hc : S.CP Try.prog S.Fn.law18_TableRuns [] (fun v w' => v = .bool true ∧ S.Step [] W w') W := S.G.run (S.s_law18_TableRuns (fun w' hw' => ⟨rfl, hw'.step⟩))
  refine hc.2.mono fun e W' he => ?_
  cases e with
  | returned v =>
    obtain ⟨rfl, s⟩ := he
    exact ⟨_, rfl, S.post_old (pa := ([] : List MemPlace)) (pv := []) hW' s (fun _ _ _ => (trodAll_cons_mk (shut_bool Try.underlying4 _) trodAll_mk0))
      (fun sp hsp => S.all_stays (by kernel_rfl) (s.below (Nat.le_refl _) (by simp)) (by kernel_rfl) hAll hlt (fun x hx => by cases hx)) (fun _ _ => rfl) rfl
      (ok_one (by kernel_rfl) rfl (okWide_bool_mk Try.underlying4 _))⟩
  | _ => exact he.elim

theorem over : Rows.tableRunsRow.holds Try.pinned (OpenSpec.ofChange Rows.tableRunsSpec) :=
  OpenClaim.holds_of_wide 6 Try.f6 rfl rfl rfl rfl rfl rfl rfl ⟨rfl, rfl, rfl, rfl, rfl⟩ rfl rfl rfl rfl rfl (by kernel_rfl) Try.func6 (by kernel_rfl)
    (of_decide_eq_true (by kernel_rfl)) (by unfold Func.isWrapper; first | (rw [if_pos (by decide +kernel)]; kernel_rfl) | (rw [if_neg (by decide +kernel)]; exact ⟨rfl, rfl⟩))
    (fun os started H enc _ => lifted os started H enc)

theorem proved : Rows.TableRunsSaid :=
  over
#print axioms proved
end Go.Proofs.Ytokbiojkpldfeaa.tableRuns
