/-
  quietuslaw8.WritesPlays: for every argument the call returns true and leaves all that was there as it was. The shell goes by the print of proof-skeleton.mjs.
-/
import Derived.Test.YtlgdcfocnaifbaaRows
import Derived.WalkKit
import Derived.ProofKit
import Derived.OpenShut
import Derived.Test.YtlgdcfocnaifbaaWritesPlays
import Derived.Test.YtlgdcfocnaifbaaArgs
namespace Go.Proofs.Ytlgdcfocnaifbaa.writesPlays
open Go.ChangeShapes Go.WideShapes Go.ChangeAt Go.RowKit
set_option linter.unusedVariables false
set_option linter.unusedSimpArgs false

theorem own : ownKnob Try.prog.godebug = none := by kernel_rfl

set_option maxRecDepth 100000 in
theorem lifted (os : Os) (started : os.Started) (H : Type) (enc : TypeId × Value → H) :
    ReturnsInHanded {} Try.checked os 11 .any (Rows.writesPlaysSpec.pre6 enc Try.prog Try.f11 Rows.writesPlaysRow.domain false) (Rows.writesPlaysSpec.post enc Try.prog Try.f11 false true false false) := by
  refine returnsInHanded_of_change (C := Try.checked) own started (by kernel_rfl) Try.func11
    (ChangeSpec.witness6 (enc := enc) (C := Try.checked) false ⟨#[], #[.int .i64 0, .slice none 0 0], []⟩ 8 (by kernel_rfl) (by kernel_rfl) (by kernel_rfl) (by kernel_rfl)) ?_
  intro W base args ds gs before hval0 hW hcnd _
  have hval : ∀ (j : Nat) t v, Try.f11.params[j]? = some t → args[j]? = some v → Value.okWide Try.prog W .any base t v := hval0
  have hW' := hW
  obtain ⟨p, q, hA0, hV, rfl, hfz, hnd⟩ := hW
  have hA : DataW.TrodAll enc Try.prog W 0 (fun _ => true) true Try.f11.params.toList args.toList ds p := hA0
  have hAll := hA
  rw [Try.params11] at hA hval
  obtain ⟨rfl, rfl⟩ := trodVars_none hV
  obtain ⟨v0, as0, d0, ds0, p0, q0, e0, rfl, rfl, h0, hA0⟩ := trodAll_cons hA
  obtain ⟨v1, as1, d1, ds1, p1, q1, e1, rfl, rfl, h1, hA1⟩ := trodAll_cons hA0
  obtain ⟨z0, rfl, rfl⟩ := trodAll_nil hA1
  subst z0
  subst e1
  obtain rfl : args = #[v0, v1] := Array.toList_inj.1 (by simpa using e0)
  obtain ⟨n0, rfl, rfl, rfl, hw0⟩ := open_int (k := .i64) (by kernel_rfl) (hval 0 _ _ rfl rfl) h0
  obtain ⟨xs1, ha1, hq1, hz1⟩ := S.open_argN (v := v1) (ks := S.AskWritesK) (k := 9) (e := 67) S.askWritesE (S.AskWrites.Q (S.Base.of W)) (by kernel_rfl) (by kernel_rfl) (by kernel_rfl) (by decide) (fun _ h => S.askWritesE_of h) rfl (hval 1 _ _ rfl rfl) h1
  have hlt : ∀ x ∈ (([] ++ (p1 ++ [])) : List MemPlace), x.block < W.heap.size := fun x hx => hW'.lt x (by simpa using hx)
  have hc : S.CP Try.prog S.Fn.law8_WritesPlays [.int .i64 n0, v1] (fun v w' => v = .bool true ∧ S.Step [] W w') W := S.G.run (S.s_law8_WritesPlays (hq1 := hq1) (fun w' hw' => ⟨rfl, hw'.step⟩))
  refine hc.2.mono fun e W' he => ?_
  cases e with
  | returned v =>
    obtain ⟨rfl, s⟩ := he
    exact ⟨_, rfl, S.post_old (pa := (([] ++ (p1 ++ [])) : List MemPlace)) (pv := []) hW' s (fun _ _ _ => (trodAll_cons_mk (shut_bool Try.underlying4 _) trodAll_mk0))
      (fun sp hsp => S.all_stays (by kernel_rfl) (s.below (Nat.le_refl _) (by simp)) (by kernel_rfl) hAll hlt (fun x hx => hsp x (by simpa using hx))) (fun _ _ => rfl) rfl
      (ok_one (by kernel_rfl) rfl (okWide_bool_mk Try.underlying4 _))⟩
  | _ => exact he.elim

theorem over : Rows.writesPlaysRow.holds Try.pinned (OpenSpec.ofChange Rows.writesPlaysSpec) :=
  OpenClaim.holds_of_wide 11 Try.f11 rfl rfl rfl rfl rfl rfl rfl ⟨rfl, rfl, rfl, rfl, rfl⟩ rfl rfl rfl rfl rfl (by kernel_rfl) Try.func11 (by kernel_rfl)
    (of_decide_eq_true (by kernel_rfl)) (by unfold Func.isWrapper; first | (rw [if_pos (by decide +kernel)]; kernel_rfl) | (rw [if_neg (by decide +kernel)]; exact ⟨rfl, rfl⟩))
    (fun os started H enc _ => lifted os started H enc)

theorem proved : Rows.WritesPlaysSaid :=
  over
#print axioms proved
end Go.Proofs.Ytlgdcfocnaifbaa.writesPlays
