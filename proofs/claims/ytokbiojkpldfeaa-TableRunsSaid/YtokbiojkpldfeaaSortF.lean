/-
  slices.SortFunc at []api.Pair, by key: THE SHELF's CONTRACT, TURNED TO OWNED SLICES.
-/
import Derived.Test.YtokbiojkpldfeaaSort
import Derived.Test.YtokbiojkpldfeaaTableE
import Derived.Shelf.SlSortCmp.NoneTotal
import Derived.Ground.SlsfProg
namespace Go.Proofs
open Go.Shelf
def Ytokbiojkpldfeaa.laysF6_ren : Go.Shelf.Ren := ⟨fun | 6 => 74 | 15 => 114 | 14 => 113 | 28 => 145 | 29 => 146 | 20 => 137 | 21 => 138 | 22 => 139 | 23 => 140 | 24 => 141 | 25 => 142 | 26 => 143 | 27 => 144 | 46 => 168 | 47 => 169 | 48 => 170 | 49 => 171 | 50 => 172 | 57 => 182 | n => n, fun | 22 => 68 | 24 => 72 | 25 => 114 | 3 => 3 | 39 => 157 | 0 => 0 | 53 => 181 | 55 => 24 | 4 => 4 | 46 => 175 | 45 => 174 | 50 => 161 | 5 => 5 | 9 => 9 | 66 => 197 | 70 => 200 | 76 => 208 | 77 => 103 | n => n, fun | n => n⟩
theorem Ytokbiojkpldfeaa.laysF6 : Go.Proofs.SlLaysF0.n6 Try.prog Ytokbiojkpldfeaa.laysF6_ren := {
  mixed := by kernel_rfl
  f6 := ⟨Try.f74.name, by decide, Try.func74.trans (congrArg some (by kernel_rfl))⟩
  f14 := ⟨Try.f113.name, by decide, Try.func113.trans (congrArg some (by kernel_rfl))⟩
  f15 := Try.func114.trans (congrArg some (by kernel_rfl))
  f20 := ⟨Try.f137.name, by decide, Try.func137.trans (congrArg some (by kernel_rfl))⟩
  f21 := ⟨Try.f138.name, by decide, Try.func138.trans (congrArg some (by kernel_rfl))⟩
  f22 := ⟨Try.f139.name, by decide, Try.func139.trans (congrArg some (by kernel_rfl))⟩
  f23 := ⟨Try.f140.name, by decide, Try.func140.trans (congrArg some (by kernel_rfl))⟩
  f24 := ⟨Try.f141.name, by decide, Try.func141.trans (congrArg some (by kernel_rfl))⟩
  f25 := ⟨Try.f142.name, by decide, Try.func142.trans (congrArg some (by kernel_rfl))⟩
  f26 := ⟨Try.f143.name, by decide, Try.func143.trans (congrArg some (by kernel_rfl))⟩
  f27 := ⟨Try.f144.name, by decide, Try.func144.trans (congrArg some (by kernel_rfl))⟩
  f28 := Try.func145.trans (congrArg some (by kernel_rfl))
  f29 := Try.func146.trans (congrArg some (by kernel_rfl))
  f46 := ⟨Try.f168.name, by decide, Try.func168.trans (congrArg some (by kernel_rfl))⟩
  f47 := Try.func169.trans (congrArg some (by kernel_rfl))
  f48 := Try.func170.trans (congrArg some (by kernel_rfl))
  f49 := ⟨Try.f171.name, by decide, Try.func171.trans (congrArg some (by kernel_rfl))⟩
  f50 := ⟨Try.f172.name, by decide, Try.func172.trans (congrArg some (by kernel_rfl))⟩
  f57 := ⟨Try.f182.name, by decide, Try.func182.trans (congrArg some (by kernel_rfl))⟩
  t0 := Try.underlying0
  a0 := Try.isAgg0
  z0 := Try.sizeOf0
  v0 := Try.zeroValue0
  t3 := Try.underlying3
  a3 := Try.isAgg3
  z3 := Try.sizeOf3
  v3 := Try.zeroValue3
  t4 := Try.underlying4
  a4 := Try.isAgg4
  z4 := Try.sizeOf4
  v4 := Try.zeroValue4
  t5 := Try.underlying5
  a5 := Try.isAgg5
  z5 := Try.sizeOf5
  v5 := Try.zeroValue5
  t9 := Try.underlying9
  a9 := Try.isAgg9
  z9 := Try.sizeOf9
  v9 := Try.zeroValue9
  t22 := Try.underlying68
  a22 := Try.isAgg68
  z22 := Try.sizeOf68
  v22 := Try.zeroValue68
  t25 := Try.underlying114
  a25 := Try.isAgg114
  z25 := Try.sizeOf114
  v25 := Try.zeroValue114
  t39 := Try.underlying157
  a39 := Try.isAgg157
  z39 := Try.sizeOf157
  v39 := Try.zeroValue157
  t45 := Try.underlying174
  a45 := Try.isAgg174
  z45 := Try.sizeOf174
  v45 := Try.zeroValue174
  t46 := Try.underlying175
  a46 := Try.isAgg175
  z46 := Try.sizeOf175
  v46 := Try.zeroValue175
  t50 := Try.underlying161
  a50 := Try.isAgg161
  z50 := Try.sizeOf161
  v50 := Try.zeroValue161
  t53 := Try.underlying181
  a53 := Try.isAgg181
  z53 := Try.sizeOf181
  v53 := Try.zeroValue181
  t55 := Try.underlying24
  a55 := Try.isAgg24
  z55 := Try.sizeOf24
  v55 := Try.zeroValue24
  t66 := Try.underlying197
  a66 := Try.isAgg197
  z66 := Try.sizeOf197
  v66 := Try.zeroValue197
  t70 := Try.underlying200
  a70 := Try.isAgg200
  z70 := Try.sizeOf200
  v70 := Try.zeroValue200
  t76 := Try.underlying208
  a76 := Try.isAgg208
  z76 := Try.sizeOf208
  v76 := Try.zeroValue208
  t77 := Try.underlying103
  a77 := Try.isAgg103
  z77 := Try.sizeOf103
  v77 := Try.zeroValue103 }
end Go.Proofs
namespace Go.Proofs.Ytokbiojkpldfeaa.S
open Go Go.Proofs Go.Sort
set_option linter.unusedVariables false
set_option linter.unusedSimpArgs false
set_option maxRecDepth 100000

instance : Inhabited TPair := ⟨⟨0, 0⟩⟩
/-- cmp.Compare of the keys -/
def cmpI (x y : Int) : Int := if x < y then -1 else if y < x then 1 else 0
def cmpP (a b : TPair) : Int := cmpI a.key b.key
theorem ltP (a b : TPair) : ltOf cmpP a b = decide (a.key < b.key) := by
  unfold ltOf cmpP cmpI
  by_cases h1 : a.key < b.key
  · simp [h1]
  · by_cases h2 : b.key < a.key <;> simp [h1, h2]
theorem swoP : SWO (ltOf cmpP):= {
  irrefl x := by rw [ltP]; simp
  trans x y z h1 h2 := by rw [ltP] at *; simp at *; omega
  ntrans x y z h1 h2 := by rw [ltP] at *; simp at *; omega }
/-- the pairs, sorted by key -/
def sortP (l : List TPair) : List TPair := (pdq (ltOf cmpP) l.toArray 0 l.length (Lib.bitLen l.length) true true).toList
theorem sortP_sorts (l : List TPair) : PermIn 0 l.length l.toArray (sortP l).toArray ∧ SortedIn (ltOf cmpP) 0 l.length (sortP l).toArray := by
  have h := pdq_sorts (ltOf cmpP) swoP l.toArray 0 l.length (Lib.bitLen l.length) true true (Nat.zero_le _) (by simp) (Or.inl rfl)
  unfold sortP
  rw [Array.toArray_toList]
  exact h
theorem sortP_len (l : List TPair) : (sortP l).length = l.length := by
  have := (sortP_sorts l).1.1
  simpa using this
theorem sortP_perm (l : List TPair) : (sortP l).Perm l := by
  have h := (sortP_sorts l).1.2.2
  have e1 : ((sortP l).toArray.extract 0 l.length).toList = sortP l := by
    rw [← sortP_len l]; simp
  have e2 : (l.toArray.extract 0 l.length).toList = l := by simp
  rwa [e1, e2] at h
theorem sortP_sorted (l : List TPair) : (sortP l).Pairwise fun a b => a.key ≤ b.key := by
  have h := (sortP_sorts l).2
  rw [List.pairwise_iff_getElem]
  intro i j hi hj hij
  have := h i j (Nat.zero_le _) hij (by rw [← sortP_len l]; exact hj)
  rw [ltP] at this
  simp only [decide_eq_false_iff_not] at this
  rw [getElem!_pos (sortP l).toArray i (by simpa using hi), getElem!_pos (sortP l).toArray j (by simpa using hj)] at this
  simp at this
  omega

/-! ### the comparison, to the world -/
theorem cp_isNaN (a : Int) {K : KV} {w : World} (h : K (.bool false) w) : CP Try.prog Fn.cmp_isNaN_uint64 [u64 a] K w :=
  evalF_sound env_ok N_cmp_isNaN_uint64 Try.func115 (by kernel_rfl) (Eq.mp (E_cmp_isNaN_uint64 (u64 a) K w) (by
    unfold P_cmp_isNaN_uint64 binIntW
    simp [intBin, onSome]
    exact h))
theorem cp_Compare (a b : Int) {K : KV} {w : World} (h : K (i64 (cmpI a b)) w) : CP Try.prog Fn.cmp_Compare_uint64 [u64 a, u64 b] K w :=
  evalF_sound env_ok N_cmp_Compare_uint64 Try.func76 (by kernel_rfl) (Eq.mp (E_cmp_Compare_uint64 (u64 a) (u64 b) K w) (by
    unfold P_cmp_Compare_uint64
    refine cp_isNaN a ?_
    refine cp_isNaN b ?_
    unfold cmpI at h
    by_cases h1 : a < b
    · simp [condP, condW, binIntW, intBin, onSome, h1] at h ⊢; exact h
    · by_cases h2 : b < a
      · simp [condP, condW, binIntW, intBin, onSome, h1, h2] at h ⊢; exact h
      · simp [condP, condW, binIntW, intBin, onSome, h1, h2] at h ⊢; exact h))
theorem cp_All_2 (a b : TPair) (w : World) : CP Try.prog Fn.table_All_2 [.agg #[u64 a.key, u64 a.val], .agg #[u64 b.key, u64 b.val]] (fun v w' => v = i64 (cmpP a b) ∧ ∃ q os', w' = Sort.grow (w.drewN q) os') w :=
  evalF_sound env_ok N_table_All_2 Try.func75 (by kernel_rfl) (Eq.mp (E_table_All_2 _ _ _ w) (by
    unfold P_table_All_2 boxW newW
    intro T1 T2
    have hs : (w.alloc (.cells #[u64 a.key, u64 a.val] T1)).heap.size = w.heap.size + 1 := by unfold World.alloc; simp
    have h1 : mem ((w.alloc (.cells #[u64 a.key, u64 a.val] T1)).alloc (.cells #[u64 b.key, u64 b.val] T2)) w.heap.size = some [u64 a.key, u64 a.val] := by
      rw [mem_alloc, hs, if_neg (by omega), mem_alloc, if_pos rfl]
    have h2 : mem ((w.alloc (.cells #[u64 a.key, u64 a.val] T1)).alloc (.cells #[u64 b.key, u64 b.val] T2)) (w.heap.size + 1) = some [u64 b.key, u64 b.val] := by
      rw [mem_alloc, hs, if_pos rfl]
    simp only [Value.cells, hs, addW, load1W, Nat.add_zero] at h1 h2 ⊢
    rw [h1]
    simp only [onSome, List.getElem?_cons_zero]
    rw [h2]
    simp only [onSome, List.getElem?_cons_zero]
    refine cp_Compare _ _ ?_
    exact ⟨rfl, 0, _, by rw [alloc_eq_grow, alloc_eq_grow, grow_grow]; rfl⟩))

theorem cmpLaysP (blk off size : Nat) (w : World) : CmpLays Try.prog Fn.table_All_2 #[] tPairE.enc 2 cmpP blk off size w := fun m os dk hs x y => by
  refine (cp_All_2 x y (sortWorldK tPairE.enc 2 w blk off m dk os)).2.mono fun e w' he => ?_
  cases e <;> first | exact absurd he id | skip
  obtain ⟨rfl, q, os', rfl⟩ := he
  exact ⟨rfl, q, os', rfl⟩

theorem flatK_pairs (zs : List TPair) : (flatK tPairE.enc 2 zs.toArray).toList = zs.flatMap tPairE.enc := by
  apply List.ext_getElem
  · rw [flat_length]; simp
  · intro j h1 h2
    have hj : j < zs.length * 2 := by simpa [flat_length] using h1
    have hd : j / 2 < zs.length := by omega
    have e1 := flat_part tPairE [] zs (j / 2) zs[j / 2] (List.getElem?_eq_getElem hd)
    rw [List.append_nil] at e1
    have e2 : (((zs.flatMap tPairE.enc).drop (j / 2 * 2)).take 2)[j % 2]? = (tPairE.enc zs[j / 2])[j % 2]? := by rw [show ((zs.flatMap tPairE.enc).drop (j / 2 * 2)).take 2 = tPairE.enc zs[j / 2] from e1]
    rw [List.getElem?_take, if_pos (Nat.mod_lt _ (by omega)), List.getElem?_drop, show j / 2 * 2 + j % 2 = j by omega, List.getElem?_eq_getElem h2] at e2
    have e3 := get_flatK tPairE.enc 2 zs.toArray j (by simpa using hj)
    rw [Array.getElem_toList]
    have e4 : (flatK tPairE.enc 2 zs.toArray)[j] = (flatK tPairE.enc 2 zs.toArray)[j]! := (getElem!_pos _ j (by simpa using hj)).symm
    rw [e4, e3, getElem!_pos zs.toArray (j / 2) (by simpa using hd)]
    have e5 : (tPairE.enc zs.toArray[j / 2])[j % 2]? = some (zs.flatMap tPairE.enc)[j] := e2.symm
    rw [List.getElem!_eq_getElem?_getD, e5]
    rfl

section
variable {w0 : Base} {L M : List Asn} {K : KV} {C : Asn → List Asn} {w : World}

theorem putRow_putid {w : World} {b : Nat} {cs : List Value} (d : Array Value) (h : mem w b = some cs) : putRow id w b 0 d = put w b (putCells id 0 d cs.toArray).toList := by
  unfold putRow mapBlock put
  congr 1
  apply Array.ext_getElem?
  intro j
  simp only [Array.getElem?_modify]
  split
  · rename_i e
    subst e
    unfold mem at h
    cases ho : w.heap[b]? with
    | none => rfl
    | some o =>
      rw [ho] at h
      cases o with
      | cells c T z =>
        simp only [Option.some.injEq] at h
        subst h
        simp [onCells]
      | _ => simp at h
  · rfl

theorem putCells_id {xs bs : List Value} {rest : List Value} (hl : bs.length = xs.length) : (putCells id 0 bs.toArray (xs ++ rest).toArray).toList = bs ++ rest := by
  apply List.ext_getElem?
  intro j
  simp only [putCells, Array.getElem?_toList, Array.getElem?_mapIdx, List.getElem?_toArray, Nat.zero_le, true_and, Nat.zero_add, Nat.sub_zero, List.size_toArray]
  rcases Nat.lt_or_ge j bs.length with hj | hj
  · rw [List.getElem?_append_left (by omega), List.getElem?_append_left hj]
    simp [hj, show j < xs.length by omega]
  · rw [List.getElem?_append_right (by omega), List.getElem?_append_right (by omega)]
    simp only [hl]
    cases rest[j - xs.length]? with
    | none => rfl
    | some x => simp; omega

theorem aggP : ∀ w, (isAgg (Ytokbiojkpldfeaa.laysF6_ren.t 24)).run Try.prog w = .ok true w := by first | exact Try.isAgg128 | exact Try.isAgg72
theorem sizeP : ∀ w, (Go.sizeOf (Ytokbiojkpldfeaa.laysF6_ren.t 24)).run Try.prog w = .ok 2 w := by first | exact Try.sizeOf128 | exact Try.sizeOf72

theorem s_slices_SortFunc {v : Value} {zs : List TPair} [i : SelSl L v tPairE zs C] (hl : zs.length ≤ 1000000) (hK : G w0 (C (sl tPairE v (sortP zs))) (K (.tuple #[]))) : G w0 L (CP Try.prog Fn.slices_SortFunc_api_Pair_api_Pair [v, .func (.func Fn.table_All_2) #[] #[]] K) := by
  have known : ∃ fn, Try.prog.funcs[Fn.slices_SortFunc_api_Pair_api_Pair]? = some fn ∧ fn.body.isNone = false ∧ (fn.name == "runtime.NumGoroutine") = false := ⟨_, Try.func74, by kernel_rfl, by kernel_rfl⟩
  obtain ⟨M, e1, e2⟩ := sl_front (w0 := w0) i.sel
  intro w H
  have H1 := (e1 w).1 H
  rcases H1.sl_cases with ⟨rfl, rfl, H2⟩ | ⟨c, cap, rest, rfl, h2, h3, H2⟩
  · refine ⟨known, (AnyF.slices_SortFunc_none Ytokbiojkpldfeaa.laysF6 none 0 _ w).mono ?_⟩
    rintro e w' ⟨rfl, rfl⟩
    have e0 : sortP [] = [] := List.length_eq_zero_iff.1 (sortP_len [])
    rw [e0] at hK
    exact hK _ ((e2 _ _).2 H1)
  · have hm := H2.own_mem
    have hH : HoldsK tPairE.enc 2 w c 0 zs.toArray := fun j hj => by
      have hj' : j < zs.length * 2 := by simpa using hj
      refine ⟨?_, ?_⟩
      · rw [cell_mem hm.2.1, Nat.zero_add]
        rw [getElem!_pos _ j hj]
        have hj2 : j < (zs.flatMap tPairE.enc).length := by rw [flat_length]; exact hj'
        rw [List.getElem?_append_left hj2, List.getElem?_eq_getElem hj2]
        have e := flatK_pairs zs
        have : (zs.flatMap tPairE.enc)[j] = (flatK tPairE.enc 2 zs.toArray)[j] := by simp only [← e, Array.getElem_toList]
        exact congrArg some this
      · have ho := hm.2.2
        unfold opn at ho
        unfold World.frozen?
        split at ho
        · rename_i cc T z hz
          simp [hz] at ho ⊢
          simp [ho]
        · cases ho
    have eg : ∀ args w, (callFunc Fn.table_All_2 args).run Try.prog w = .ok (.enter Fn.table_All_2 args) w := enters_of Try.func75 (by kernel_rfl) rfl
    refine ⟨known, (AnyQ.slices_SortFunc_eq Ytokbiojkpldfeaa.laysF6 2 aggP sizeP tPairE.enc (fun _ => rfl) (fun x v hv => by simp at hv; rcases hv with rfl | rfl <;> rfl) cmpP swoP Fn.table_All_2 #[] c 0 cap zs.toArray w eg (cmpLaysP c 0 _ w) hH (mem_lt hm.2.1) (by simp; omega)).mono ?_⟩
    rintro e w' ⟨rfl, n, os, rfl⟩
    have hts : (sortP zs).length = zs.length := sortP_len zs
    have H3 := H2.ahead n
    have hm3 := H3.own_mem.2.1
    have ep : pdq (ltOf cmpP) zs.toArray 0 zs.toArray.size (Lib.bitLen zs.toArray.size) true true = (sortP zs).toArray := by unfold sortP; simp
    rw [ep]
    unfold sortWorldK putRowK
    have ef : flatK tPairE.enc 2 (sortP zs).toArray = ((sortP zs).flatMap tPairE.enc).toArray := by rw [← flatK_pairs]
    rw [ef, putRow_putid _ hm3, putCells_id (by rw [flat_length, flat_length, hts])]
    have H4 := (H3.own_put (cs' := (sortP zs).flatMap tPairE.enc ++ rest)).grow os
    have H5 := H4.sl_mk (E := tPairE) (cap := cap) (by omega) (by rw [hts]; exact h3)
    rw [hts] at H5
    exact hK _ ((e2 _ _).2 H5)
end
end Go.Proofs.Ytokbiojkpldfeaa.S
