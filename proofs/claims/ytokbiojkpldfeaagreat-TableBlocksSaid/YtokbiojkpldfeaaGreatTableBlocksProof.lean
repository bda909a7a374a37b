/-
  quietuslaw18.TableBlocks: for every argument the call returns true and leaves all that was there as it was. The shell goes by the print of proof-skeleton.mjs.
-/
import Derived.Test.YtokbiojkpldfeaaGreatRows
import Derived.WalkKit
import Derived.ProofKit
import Derived.OpenShut
import Derived.Test.YtokbiojkpldfeaaGreatTblBlocks
import Derived.Test.YtokbiojkpldfeaaGreatArgs
namespace Go.Proofs.YtokbiojkpldfeaaGreat.tableBlocks
open Go.ChangeShapes Go.WideShapes Go.ChangeAt Go.RowKit
set_option linter.unusedVariables false
set_option linter.unusedSimpArgs false

theorem own : ownKnob Tryz.prog.godebug = none := by kernel_rfl

set_option maxRecDepth 100000 in
theorem lifted (os : Os) (started : os.Started) (H : Type) (enc : TypeId × Value → H) :
    ReturnsInHanded {} Tryz.checked os 6 .any (Rows.tableBlocksSpec.pre6 enc Tryz.prog Tryz.f6 Rows.tableBlocksRow.domain false) (Rows.tableBlocksSpec.post enc Tryz.prog Tryz.f6 false true false false) := by
  refine returnsInHanded_of_change (C := Tryz.checked) own started (by kernel_rfl) Tryz.func6
    (ChangeSpec.witness6 (enc := enc) (C := Tryz.checked) false ⟨#[], #[.slice none 0 0, .int .u8 0], []⟩ 8 (by kernel_rfl) (by kernel_rfl) (by kernel_rfl) (by kernel_rfl)) ?_
  intro W base args ds gs before hval0 hW hcnd _
  have hval : ∀ (j : Nat) t v, Tryz.f6.params[j]? = some t → args[j]? = some v → Value.okWide Tryz.prog W .any base t v := hval0
  have hW' := hW
  obtain ⟨p, q, hA0, hV, rfl, hfz, hnd⟩ := hW
  have hA : DataW.TrodAll enc Tryz.prog W 0 (fun _ => true) true Tryz.f6.params.toList args.toList ds p := hA0
  have hAll := hA
  rw [Tryz.params6] at hA hval
  obtain ⟨rfl, rfl⟩ := trodVars_none hV
  obtain ⟨v0, as0, d0, ds0, p0, q0, e0, rfl, rfl, h0, hA0⟩ := trodAll_cons hA
  obtain ⟨v1, as1, d1, ds1, p1, q1, e1, rfl, rfl, h1, hA1⟩ := trodAll_cons hA0
  obtain ⟨z0, rfl, rfl⟩ := trodAll_nil hA1
  subst z0
  subst e1
  obtain rfl : args = #[v0, v1] := Array.toList_inj.1 (by simpa using e0)
  obtain ⟨xs0, ha0, hr0, hz0⟩ := S.open_arg (v := v0) (ks := S.TCallK) (k := 9) (e := 60) S.tCallE (by kernel_rfl) (by kernel_rfl) (by kernel_rfl) (by decide) (fun _ h => S.tCallE_of h) rfl (hval 0 _ _ rfl rfl) h0
  obtain ⟨n1, rfl, rfl, rfl, hw1⟩ := open_int (k := .u8) (by kernel_rfl) (hval 1 _ _ rfl rfl) h1
  have hlt : ∀ x ∈ ((p0 ++ ([] ++ [])) : List MemPlace), x.block < W.heap.size := fun x hx => hW'.lt x (by simpa using hx)
  have hc : S.CP Tryz.prog S.Fn.law18_TableBlocks [v0, .int .u8 n1] (fun v w' => v = .bool true ∧ S.Step [] W w') W := S.G.run (S.s_law18_TableBlocks (hr0 := hr0) (hn1 := hw1) (fun w' hw' => ⟨rfl, hw'.step⟩))
  refine hc.2.mono fun e W' he => ?_
  cases e with
  | returned v =>
    obtain ⟨rfl, s⟩ := he
    exact ⟨_, rfl, S.post_old (pa := ((p0 ++ ([] ++ [])) : List MemPlace)) (pv := []) hW' s (fun _ _ _ => (trodAll_cons_mk (shut_bool Tryz.underlying4 _) trodAll_mk0))
      (fun sp hsp => S.all_stays (by kernel_rfl) (s.below (Nat.le_refl _) (by simp)) (by kernel_rfl) hAll hlt (fun x hx => hsp x (by simpa using hx))) (fun _ _ => rfl) rfl
      (ok_one (by kernel_rfl) rfl (okWide_bool_mk Tryz.underlying4 _))⟩
  | _ => exact he.elim

theorem over : Rows.tableBlocksRow.holds Tryz.pinned (OpenSpec.ofChange Rows.tableBlocksSpec) :=
  OpenClaim.holds_of_wide 6 Tryz.f6 rfl rfl rfl rfl rfl rfl rfl ⟨rfl, rfl, rfl, rfl, rfl⟩ rfl rfl rfl rfl rfl (by kernel_rfl) Tryz.func6 (by kernel_rfl)
    (of_decide_eq_true (by kernel_rfl)) (by unfold Func.isWrapper; first | (rw [if_pos (by decide +kernel)]; kernel_rfl) | (rw [if_neg (by decide +kernel)]; exact ⟨rfl, rfl⟩))
    (fun os started H enc _ => lifted os started H enc)

theorem proved : Rows.TableBlocksSaid :=
  over
#print axioms proved
end Go.Proofs.YtokbiojkpldfeaaGreat.tableBlocks
