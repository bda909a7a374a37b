/-
  quietustop.TopTotal: for every argument the call returns true and leaves all that was there as it was. The shell goes by the print of proof-skeleton.mjs.
-/
import Derived.Test.YtoealglbimbbmaaGreatDoorRows
import Derived.WalkKit
import Derived.ProofKit
import Derived.OpenShut
import Derived.LaidMore
import Derived.Stop.Joined
import Derived.SevenTiedAt
import Derived.MakeChecks
import Derived.Stop.LaidErr
import Derived.Lib.LaidTab
import Derived.Test.YtoealglbimbbmaaGreatDoorTie
import Derived.Test.YtoealglbimbbmaaGreatDoorCards
import Derived.Test.YtoealglbimbbmaaGreatDoorTLaw
import Derived.Test.YtoealglbimbbmaaGreatDoorTPn
namespace Go.Proofs.YtoealglbimbbmaaGreatDoor.topTotal
open Go.ChangeShapes Go.WideShapes Go.ChangeAt Go.RowKit
set_option linter.unusedVariables false
set_option linter.unusedSimpArgs false
theorem own : ownKnob Tryz.prog.godebug = none := by kernel_rfl
theorem door_met (os : Os) (args : Array Value) : laidMetH Tryz.prog Rows.topTotalRow.laid ((World.doorLaid Tryz.prog 400 os).forCall (fun _ _ => 0) ⟨#[], args, []⟩).memory :=
 laidMetH_of_parts3 (fuel := 8) (laidMet_of_run' 8 (by kernel_rfl) (by kernel_rfl)) (by kernel_rfl) (by kernel_rfl)
theorem tab_of {W : World} (hL : laidMetH Tryz.prog Rows.topTotalRow.laid W) : S.Cj (S.bz.of W) := by
 rw [MakeChecks.laidMetH_plain _ _ _ (by kernel_rfl)] at hL
 exact S.afk (by kernel_rfl) <| Lib.tabIs_of_head (g := 0) (t := 413) (e := 22) (n := 20) (by kernel_rfl) (by kernel_rfl) Tryz.underlying413 Tryz.underlying22 (by kernel_rfl) (by kernel_rfl) (laidMet.tail (laidMet.tail hL))
theorem k0 : (Rows.topTotalRow.wf (OpenSpec.ofChange Rows.topTotalSpec)) = true := by kernel_rfl
theorem k1 : (laidOutB Tryz.pinned.checked.prog) = true := by kernel_rfl
theorem k2 : (mapsRowed Tryz.pinned.checked.prog) = true := by kernel_rfl
theorem k3 : (Tryz.f7.params.all (Program.readableRec Tryz.pinned.checked.prog ·)) = true := by kernel_rfl
theorem k4 : (namedTie Tryz.pinned.checked.prog Rows.topTotalRow.named Rows.topTotalSpec.vars) = true := by kernel_rfl
theorem k5 : ((Rows.topTotalRow.stops == [])) = true := by kernel_rfl
theorem k6 : ((Program.stops Tryz.pinned.checked.prog == [])) = true := by kernel_rfl
theorem k7 : ((Rows.topTotalRow.knobs == [])) = true := by kernel_rfl
theorem k8 : ((Program.stopKnobs Tryz.pinned.checked.prog == [])) = true := by kernel_rfl
theorem k9 : ((Rows.topTotalRow.inPlace == Program.inPlace Tryz.pinned.checked.prog 7)) = true := by kernel_rfl
theorem k10 : ((Rows.topTotalRow.unfollowed == Program.unfollowed Tryz.pinned.checked.prog 7)) = true := by kernel_rfl
theorem k11 : ((Rows.topTotalRow.recurses == Program.recurses Tryz.pinned.checked.prog 7)) = true := by kernel_rfl
theorem k12 : ((Rows.topTotalRow.named == Program.varsNamed Tryz.pinned.checked.prog 7)) = true := by kernel_rfl
theorem k13 : ((Rows.topTotalRow.maps == (Tryz.f7.params.toList ++ Rows.topTotalSpec.plain.varTypes Tryz.pinned.checked.prog).any (Program.mapsRec Tryz.pinned.checked.prog ·))) = true := by kernel_rfl
theorem k14 : ((Rows.topTotalRow.ifaces == (Tryz.f7.params.toList ++ Rows.topTotalSpec.plain.varTypes Tryz.pinned.checked.prog).any (Program.ifacesRec Tryz.pinned.checked.prog ·))) = true := by kernel_rfl
theorem k15 : ((Rows.topTotalRow.mapsOut == Program.mapsAmong Tryz.pinned.checked.prog Tryz.f7.resultTypes.toList)) = true := by kernel_rfl
theorem k16 : ((Rows.topTotalRow.loops == (Tryz.f7.params.toList ++ Rows.topTotalSpec.plain.varTypes Tryz.pinned.checked.prog).any (Program.loopsFrom Tryz.pinned.checked.prog ·))) = true := by kernel_rfl
theorem k17 : ((Rows.topTotalRow.wideKeys == (Tryz.f7.params.toList ++ Rows.topTotalSpec.plain.varTypes Tryz.pinned.checked.prog ++ Tryz.f7.resultTypes.toList).any (Program.wideKeysFrom Tryz.pinned.checked.prog ·))) = true := by kernel_rfl
theorem k18 : (Rows.topTotalSpec.vars.all (Program.varReadable Tryz.pinned.checked.prog ·)) = true := by kernel_rfl
theorem k19 : (Tryz.f7.resultTypes.all (fun t => Program.readableRec Tryz.pinned.checked.prog t && decide (t < Tryz.pinned.checked.prog.types.size))) = true := by kernel_rfl
theorem k20 : ((Rows.topTotalRow.ifacesOut == Tryz.f7.resultTypes.toList.any (Program.ifacesRec Tryz.pinned.checked.prog ·))) = true := by kernel_rfl
theorem k21 : ((Rows.topTotalRow.loopsOut == Tryz.f7.resultTypes.toList.any (Program.loopsFrom Tryz.pinned.checked.prog ·))) = true := by kernel_rfl
theorem k22 : ((Rows.topTotalRow.plainKeys == Program.plainKeys Tryz.pinned.checked.prog)) = true := by kernel_rfl
theorem k23 : (Rows.topTotalRow.shortTexts.isNone) = true := by kernel_rfl
theorem k24 : (Program.stopsHeard Tryz.pinned.checked.prog) = true := by kernel_rfl
theorem k25 : (Program.mayEnter Tryz.pinned.checked.prog) = true := by kernel_rfl
theorem k26 : ((Rows.topTotalRow.lifted == Program.liftsFinal Tryz.pinned.checked.prog)) = true := by kernel_rfl
theorem k27 : ((Program.make Tryz.pinned.checked.prog == some Rows.topTotalRow.make)) = true := by kernel_rfl
theorem k29 : ((Rows.topTotalRow.pinned == Rows.topTotalRow.pinnedBy)) = true := by kernel_rfl
theorem k30 : ((Rows.topTotalRow.veiled == (Tryz.f7.params.toList ++ Rows.topTotalSpec.plain.varTypes Tryz.pinned.checked.prog ++ Tryz.f7.resultTypes.toList).any (Program.veiledRec Tryz.pinned.checked.prog ·))) = true := by kernel_rfl
theorem k31 : (Rows.topTotalRow.veiledFits Tryz.pinned.checked.prog Tryz.f7.params.toList (Tryz.f7.params.toList ++ Rows.topTotalSpec.plain.varTypes Tryz.pinned.checked.prog ++ Tryz.f7.resultTypes.toList)) = true := by kernel_rfl
theorem an {a b : Bool} (h : a = true) (g : b = true) : (a && b) = true := by rw [h, g]; rfl
theorem closed : joinedFacts Tryz.pinned.checked.prog 7 Tryz.f7 Rows.topTotalSpec Rows.topTotalRow = true := by
 unfold joinedFacts
 refine an ?_ k31
 refine an ?_ k30
 refine an ?_ k29
 refine an ?_ (by rw [if_pos (show Rows.topTotalRow.domain.isEmpty = true from rfl)]; rfl)
 refine an ?_ k27
 refine an ?_ k26
 refine an ?_ k25
 refine an ?_ k24
 refine an ?_ k23
 refine an ?_ k22
 refine an ?_ k21
 refine an ?_ k20
 refine an ?_ k19
 refine an ?_ k18
 refine an ?_ k17
 refine an ?_ k16
 refine an ?_ k15
 refine an ?_ k14
 refine an ?_ k13
 refine an ?_ k12
 refine an ?_ k11
 refine an ?_ k10
 refine an ?_ k9
 refine an ?_ k8
 refine an ?_ k7
 refine an ?_ k6
 refine an ?_ k5
 refine an ?_ k4
 refine an ?_ k3
 refine an ?_ k2
 refine an ?_ k1
 exact k0
theorem q1 : Rows.topTotalRow.wfByText (OpenSpec.ofChange Rows.topTotalSpec) = true := by kernel_rfl
theorem q2 : Tryz.pinned.checked.prog.mainIs = some (true, "41afa63366819ab4fb672c1f5a7608684a37e12b8d33bff9798bd6983c59af33".toList) := by kernel_rfl
theorem q3 : true = Tryz.pinned.checked.prog.looks [] := by kernel_rfl
theorem q4 : false = Rows.topTotalRow.goesBy Tryz.pinned.checked.prog := by kernel_rfl
theorem q5 : Tryz.prog.funcNamed Rows.topTotalRow.func = some 7 := by kernel_rfl
theorem q6 : ([33, 80, 81, 26, 4].all fun u => !Tryz.prog.wantsStandIn u) = true := by kernel_rfl
set_option maxRecDepth 100000 in
theorem lifted (os : Os) (started : os.Started) (H : Type) (enc : TypeId × Value → H) :
  ReturnsInHanded {} Tryz.checked os 7 .any (fun w args => (Rows.topTotalSpec.pre enc Tryz.prog Tryz.f7 [] false w args ∧ laidMetH Tryz.prog Rows.topTotalRow.laid w) ∧ sizedMet enc Tryz.prog Tryz.f7 (OpenSpec.ofChange Rows.topTotalSpec) false w args) (Rows.topTotalSpec.post enc Tryz.prog Tryz.f7 false true false false) := by
 refine returnsInHanded_of_change_and (C := Tryz.checked) (X := fun w _ => laidMetH Tryz.prog Rows.topTotalRow.laid w) (fun _ _ _ hh h => h.of_heap hh) own started (by kernel_rfl) Tryz.func7
  (ChangeSpec.witness_shaped (enc := enc) (C := Tryz.checked) (os := os) (X := fun w _ => laidMetH Tryz.prog Rows.topTotalRow.laid w) false (World.doorLaid Tryz.prog 400 os) #[(.agg #[.int .i64 0, .int .i64 0, .int .i64 0, .int .i64 0, .int .u64 0, .int .i64 0, .int .i64 0, .int .i64 0]), .slice none 0 0, .slice none 0 0, .slice none 0 0, .bool false] 8 rfl (World.shaped_of_RefB (by kernel_rfl) (by kernel_rfl)) (by kernel_rfl) (by kernel_rfl) (by kernel_rfl) (door_met os _)) ?_
 intro W base args ds gs before hval0 hW _ _ hL hsz0
 have hval : ∀ (j : Nat) t v, Tryz.f7.params[j]? = some t → args[j]? = some v → Value.okWide Tryz.prog W .any base t v := hval0
 have hW' := hW
 obtain ⟨p, q, hA0, hV, rfl, hfz, hnd⟩ := hW
 have hA : DataW.TrodAll enc Tryz.prog W 0 (fun _ => true) true Tryz.f7.params.toList args.toList ds p := hA0
 have hAll := hA
 rw [Tryz.params7] at hA hval
 obtain ⟨rfl, rfl⟩ := trodVars_none hV
 obtain ⟨v0, as0, d0, ds0, p0, q0, e0, rfl, rfl, h0, hA0⟩ := trodAll_cons hA
 obtain ⟨v1, as1, d1, ds1, p1, q1, e1, rfl, rfl, h1, hA1⟩ := trodAll_cons hA0
 obtain ⟨v2, as2, d2, ds2, p2, q2, e2, rfl, rfl, h2, hA2⟩ := trodAll_cons hA1
 obtain ⟨v3, as3, d3, ds3, p3, q3, e3, rfl, rfl, h3, hA3⟩ := trodAll_cons hA2
 obtain ⟨v4, as4, d4, ds4, p4, q4, e4, rfl, rfl, h4, hA4⟩ := trodAll_cons hA3
 obtain ⟨z0, rfl, rfl⟩ := trodAll_nil hA4
 subst z0
 subst e4
 subst e3
 subst e2
 subst e1
 obtain rfl : args = #[v0, v1, v2, v3, v4] := Array.toList_inj.1 (by simpa using e0)
 obtain ⟨s0, rfl, hs0⟩ := S.adO (ks := S.aeO) (k := 9) S.ZA (by kernel_rfl) (by kernel_rfl) (fun _ h => S.aeK h) (hval 0 _ _ rfl rfl) h0
 obtain ⟨xs1, ha1, hq1, hz1⟩ := S.O0 (v := v1) (k := 9) (e := 67) (e1 := 72) (by kernel_rfl) (by kernel_rfl) (by kernel_rfl) (by kernel_rfl) (by kernel_rfl) (hval 1 _ _ rfl rfl) h1
 obtain ⟨xs2, ha2, hq2, hz2⟩ := S.O0 (v := v2) (k := 9) (e := 83) (e1 := 125) (by kernel_rfl) (by kernel_rfl) (by kernel_rfl) (by kernel_rfl) (by kernel_rfl) (hval 2 _ _ rfl rfl) h2
 obtain ⟨xs3, ha3, hr3, hz3⟩ := S.adg (v := v3) (ks := S.YQ) (k := 9) (e := 41) S.Oy (by kernel_rfl) (by kernel_rfl) (by kernel_rfl) (by decide) (fun _ h => S.ab8 h) rfl (hval 3 _ _ rfl rfl) h3
 obtain ⟨n4, rfl, rfl, rfl⟩ := open_bool (by kernel_rfl) (hval 4 _ _ rfl rfl) h4
 have hlt : ∀ x ∈ ((p0 ++ (p1 ++ (p2 ++ (p3 ++ ([] ++ []))))) : List MemPlace), x.block < W.heap.size := fun x hx => hW'.lt x (by simpa using hx)
 have hc : S.CP Tryz.prog 7 [.agg (S.ZA.enc s0).toArray, v1, v2, v3, .bool n4] (fun v w' => v = .bool true ∧ S.nF [] W w') W := S.G.run (S.Po (ht := tab_of hL) (hs0 := hs0) (hq1 := hq1) (hq2 := hq2) (hr3 := hr3) (fun w' hw' => ⟨rfl, hw'.step⟩))
 refine hc.2.mono fun e W' he => ?_
 cases e with
 | returned v =>
  obtain ⟨rfl, s⟩ := he
  exact ⟨_, rfl, S.adY (pa := ((p0 ++ (p1 ++ (p2 ++ (p3 ++ ([] ++ []))))) : List MemPlace)) (pv := []) hW' s (fun _ _ _ => (trodAll_cons_mk (shut_bool Tryz.underlying4 _) trodAll_mk0))
   (fun sp hsp => S.Sd (by kernel_rfl) (s.below (Nat.le_refl _) (by simp)) (by kernel_rfl) hAll hlt (fun x hx => hsp x (by simpa using hx))) (fun _ _ => rfl) rfl
   (ok_one (by kernel_rfl) rfl (okWide_bool_mk Tryz.underlying4 _))⟩
 | _ => exact he.elim
theorem over : Rows.topTotalRow.holds Tryz.pinned (OpenSpec.ofChange Rows.topTotalSpec) :=
 OpenClaim.holds_of_wide 7 Tryz.f7 rfl rfl rfl rfl rfl rfl rfl ⟨rfl, rfl, rfl, rfl, rfl⟩ rfl rfl rfl rfl rfl q5 Tryz.func7 closed
  (of_decide_eq_true (by kernel_rfl)) (by unfold Func.isWrapper; first | (rw [if_pos (by decide +kernel)]; kernel_rfl) | (rw [if_neg (by decide +kernel)]; exact ⟨rfl, rfl⟩))
  (fun os started H enc _ => lifted os started H enc)
theorem row : Rows.TopTotalSaid :=
 over
theorem proved : Rows.TopTotalCardSaid :=
 Claim7.holds_tied_plain_at .later [] [.data, .data, .data] true (true, "41afa63366819ab4fb672c1f5a7608684a37e12b8d33bff9798bd6983c59af33") true
  row (fun _ h => by cases h) q1 (fun _ h => by cases h) topTotal_row_tie rfl ⟨rfl, rfl⟩ q2 rfl
  (fun f fn hf hfn => by
   obtain rfl : f = 7 := Option.some.inj (q5.symm.trans hf) |>.symm
   obtain rfl : fn = Tryz.f7 := (Option.some.inj (Tryz.func7.symm.trans hfn)).symm
   exact ⟨q3, fun j t ht => by
    rw [Tryz.params7] at ht
    have hm : t ∈ [33, 80, 81, 26, 4] := by simpa using Array.mem_of_getElem? ht
    exact (show Tryz.prog.wantsStandIn t = false by simpa using List.all_eq_true.1 q6 t hm)⟩)
  q4
#print axioms proved
end Go.Proofs.YtoealglbimbbmaaGreatDoor.topTotal
