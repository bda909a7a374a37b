/-
  quietuslaw18.TableApart: for every argument the call returns true and leaves all that was there as it was. The shell goes by the print of proof-skeleton.mjs.
-/
import Derived.Test.YtokbiojkpldfeaaGreatRows
import Derived.WalkKit
import Derived.ProofKit
import Derived.OpenShut
import Derived.SizedLaws
import Derived.Test.YtokbiojkpldfeaaGreatTblApart
import Derived.Test.YtokbiojkpldfeaaGreatArgs
namespace Go.Proofs.YtokbiojkpldfeaaGreat.tableApart
open Go.ChangeShapes Go.WideShapes Go.ChangeAt Go.RowKit
set_option linter.unusedVariables false
set_option linter.unusedSimpArgs false

theorem own : ownKnob Tryz.prog.godebug = none := by kernel_rfl

set_option maxRecDepth 100000 in
theorem lifted (os : Os) (started : os.Started) (H : Type) (enc : TypeId × Value → H) :
    ReturnsInHanded {} Tryz.checked os 5 .any (Rows.tableApartSpec.pre6 enc Tryz.prog Tryz.f5 Rows.tableApartRow.domain false) (Rows.tableApartSpec.post enc Tryz.prog Tryz.f5 false true false false) := by
  refine returnsInHanded_of_change_sized (C := Tryz.checked) own started (by kernel_rfl) Tryz.func5
    (ChangeSpec.witness6 (enc := enc) (C := Tryz.checked) false ⟨#[], #[.slice none 0 0, .slice none 0 0, (.agg #[.int .i64 0, .int .i64 0, .int .u64 0, .int .u64 0])], []⟩ 8 (by kernel_rfl) (by kernel_rfl) (by kernel_rfl) (by kernel_rfl)) ?_
  intro W base args ds gs before hval0 hW hcnd hsz0 _
  have hsz : (DataW.weightsEach Tryz.prog (Tryz.f5.params.toList ++ Rows.tableApartSpec.plain.varTypes Tryz.prog) (ds ++ gs)).all (· ≤ reachBytes) = true := hsz0
  have hval : ∀ (j : Nat) t v, Tryz.f5.params[j]? = some t → args[j]? = some v → Value.okWide Tryz.prog W .any base t v := hval0
  have hW' := hW
  obtain ⟨p, q, hA0, hV, rfl, hfz, hnd⟩ := hW
  have hA : DataW.TrodAll enc Tryz.prog W 0 (fun _ => true) true Tryz.f5.params.toList args.toList ds p := hA0
  have hAll := hA
  rw [Tryz.params5] at hA hval hsz
  obtain ⟨rfl, rfl⟩ := trodVars_none hV
  obtain ⟨v0, as0, d0, ds0, p0, q0, e0, rfl, rfl, h0, hA0⟩ := trodAll_cons hA
  obtain ⟨v1, as1, d1, ds1, p1, q1, e1, rfl, rfl, h1, hA1⟩ := trodAll_cons hA0
  obtain ⟨v2, as2, d2, ds2, p2, q2, e2, rfl, rfl, h2, hA2⟩ := trodAll_cons hA1
  obtain ⟨z0, rfl, rfl⟩ := trodAll_nil hA2
  subst z0
  subst e2
  subst e1
  obtain rfl : args = #[v0, v1, v2] := Array.toList_inj.1 (by simpa using e0)
  obtain ⟨xs0, ha0, hr0, hz0⟩ := S.open_arg (v := v0) (ks := S.TCallK) (k := 9) (e := 60) S.tCallE (by kernel_rfl) (by kernel_rfl) (by kernel_rfl) (by decide) (fun _ h => S.tCallE_of h) rfl (hval 0 _ _ rfl rfl) h0
  obtain ⟨xs1, ha1, hr1, hz1⟩ := S.open_arg (v := v1) (ks := S.TCallK) (k := 9) (e := 60) S.tCallE (by kernel_rfl) (by kernel_rfl) (by kernel_rfl) (by decide) (fun _ h => S.tCallE_of h) rfl (hval 1 _ _ rfl rfl) h1
  obtain ⟨s2, rfl, hs2⟩ := S.open_rec (ks := S.TCallK) (k := 9) S.tCallE (by kernel_rfl) (by kernel_rfl) (fun _ h => S.tCallE_of h) (hval 2 _ _ rfl rfl) h2
  have hl0 : xs0.length * 32 ≤ 140737488351232 := by
    rcases hz0 with h | ⟨el, sp, rfl, h⟩
    · omega
    · have := sized_slice hsz (j := 0) (t := 58) (e := 60) rfl rfl (by kernel_rfl)
      rw [show Tryz.prog.bytesOf 60 = 32 by kernel_rfl] at this
      rw [← h]
      simp only [reachBytes] at this
      omega
  have hl1 : xs1.length * 32 ≤ 140737488351232 := by
    rcases hz1 with h | ⟨el, sp, rfl, h⟩
    · omega
    · have := sized_slice hsz (j := 1) (t := 58) (e := 60) rfl rfl (by kernel_rfl)
      rw [show Tryz.prog.bytesOf 60 = 32 by kernel_rfl] at this
      rw [← h]
      simp only [reachBytes] at this
      omega
  have hlt : ∀ x ∈ ((p0 ++ (p1 ++ (p2 ++ []))) : List MemPlace), x.block < W.heap.size := fun x hx => hW'.lt x (by simpa using hx)
  have hc : S.CP Tryz.prog S.Fn.law18_TableApart [v0, v1, .agg (S.tCallE.enc s2).toArray] (fun v w' => v = .bool true ∧ S.Step [] W w') W := S.G.run (S.s_law18_TableApart (hr0 := hr0) (hr1 := hr1) (hs2 := hs2) (hl0 := hl0) (hl1 := hl1) (fun w' hw' => ⟨rfl, hw'.step⟩))
  refine hc.2.mono fun e W' he => ?_
  cases e with
  | returned v =>
    obtain ⟨rfl, s⟩ := he
    exact ⟨_, rfl, S.post_old (pa := ((p0 ++ (p1 ++ (p2 ++ []))) : List MemPlace)) (pv := []) hW' s (fun _ _ _ => (trodAll_cons_mk (shut_bool Tryz.underlying4 _) trodAll_mk0))
      (fun sp hsp => S.all_stays (by kernel_rfl) (s.below (Nat.le_refl _) (by simp)) (by kernel_rfl) hAll hlt (fun x hx => hsp x (by simpa using hx))) (fun _ _ => rfl) rfl
      (ok_one (by kernel_rfl) rfl (okWide_bool_mk Tryz.underlying4 _))⟩
  | _ => exact he.elim

theorem over : Rows.tableApartRow.holds Tryz.pinned (OpenSpec.ofChange Rows.tableApartSpec) :=
  OpenClaim.holds_of_wide 5 Tryz.f5 rfl rfl rfl rfl rfl rfl rfl ⟨rfl, rfl, rfl, rfl, rfl⟩ rfl rfl rfl rfl rfl (by kernel_rfl) Tryz.func5 (by kernel_rfl)
    (of_decide_eq_true (by kernel_rfl)) (by unfold Func.isWrapper; first | (rw [if_pos (by decide +kernel)]; kernel_rfl) | (rw [if_neg (by decide +kernel)]; exact ⟨rfl, rfl⟩))
    (fun os started H enc _ => lifted os started H enc)

theorem proved : Rows.TableApartSaid :=
  over
#print axioms proved
end Go.Proofs.YtokbiojkpldfeaaGreat.tableApart
