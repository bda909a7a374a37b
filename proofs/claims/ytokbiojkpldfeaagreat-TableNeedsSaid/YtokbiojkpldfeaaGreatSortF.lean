/-
  slices.SortFunc at []api.Pair, by key: THE SHELF's CONTRACT, TURNED TO OWNED SLICES.
-/
import Derived.Test.YtokbiojkpldfeaaGreatSort
import Derived.Test.YtokbiojkpldfeaaGreatTable
import Derived.Shelf.SlSortCmp.NoneTotal
import Derived.Ground.SlsfProg
namespace Go.Proofs
open Go.Shelf
def YtokbiojkpldfeaaGreat.laysF6_ren : Go.Shelf.Ren := ⟨fun | 6 => 128 | 15 => 158 | 14 => 172 | 28 => 194 | 29 => 195 | 20 => 205 | 21 => 206 | 22 => 207 | 23 => 208 | 24 => 209 | 25 => 210 | 26 => 211 | 27 => 212 | 46 => 225 | 47 => 217 | 48 => 218 | 49 => 226 | 50 => 227 | 57 => 234 | n => n, fun | 22 => 64 | 24 => 128 | 25 => 182 | 3 => 3 | 39 => 225 | 0 => 0 | 53 => 253 | 55 => 25 | 4 => 4 | 46 => 246 | 45 => 245 | 50 => 143 | 5 => 5 | 9 => 9 | 66 => 262 | 70 => 265 | 76 => 272 | 77 => 172 | n => n, fun | n => n⟩
theorem YtokbiojkpldfeaaGreat.laysF6 : Go.Proofs.SlLaysF0.n6 Tryz.prog YtokbiojkpldfeaaGreat.laysF6_ren := {
  mixed := by kernel_rfl
  f6 := ⟨Tryz.f128.name, by decide, Tryz.func128.trans (congrArg some (by kernel_rfl))⟩
  f14 := ⟨Tryz.f172.name, by decide, Tryz.func172.trans (congrArg some (by kernel_rfl))⟩
  f15 := Tryz.func158.trans (congrArg some (by kernel_rfl))
  f20 := ⟨Tryz.f205.name, by decide, Tryz.func205.trans (congrArg some (by kernel_rfl))⟩
  f21 := ⟨Tryz.f206.name, by decide, Tryz.func206.trans (congrArg some (by kernel_rfl))⟩
  f22 := ⟨Tryz.f207.name, by decide, Tryz.func207.trans (congrArg some (by kernel_rfl))⟩
  f23 := ⟨Tryz.f208.name, by decide, Tryz.func208.trans (congrArg some (by kernel_rfl))⟩
  f24 := ⟨Tryz.f209.name, by decide, Tryz.func209.trans (congrArg some (by kernel_rfl))⟩
  f25 := ⟨Tryz.f210.name, by decide, Tryz.func210.trans (congrArg some (by kernel_rfl))⟩
  f26 := ⟨Tryz.f211.name, by decide, Tryz.func211.trans (congrArg some (by kernel_rfl))⟩
  f27 := ⟨Tryz.f212.name, by decide, Tryz.func212.trans (congrArg some (by kernel_rfl))⟩
  f28 := Tryz.func194.trans (congrArg some (by kernel_rfl))
  f29 := Tryz.func195.trans (congrArg some (by kernel_rfl))
  f46 := ⟨Tryz.f225.name, by decide, Tryz.func225.trans (congrArg some (by kernel_rfl))⟩
  f47 := Tryz.func217.trans (congrArg some (by kernel_rfl))
  f48 := Tryz.func218.trans (congrArg some (by kernel_rfl))
  f49 := ⟨Tryz.f226.name, by decide, Tryz.func226.trans (congrArg some (by kernel_rfl))⟩
  f50 := ⟨Tryz.f227.name, by decide, Tryz.func227.trans (congrArg some (by kernel_rfl))⟩
  f57 := ⟨Tryz.f234.name, by decide, Tryz.func234.trans (congrArg some (by kernel_rfl))⟩
  t0 := Tryz.underlying0
  a0 := Tryz.isAgg0
  z0 := Tryz.sizeOf0
  v0 := Tryz.zeroValue0
  t3 := Tryz.underlying3
  a3 := Tryz.isAgg3
  z3 := Tryz.sizeOf3
  v3 := Tryz.zeroValue3
  t4 := Tryz.underlying4
  a4 := Tryz.isAgg4
  z4 := Tryz.sizeOf4
  v4 := Tryz.zeroValue4
  t5 := Tryz.underlying5
  a5 := Tryz.isAgg5
  z5 := Tryz.sizeOf5
  v5 := Tryz.zeroValue5
  t9 := Tryz.underlying9
  a9 := Tryz.isAgg9
  z9 := Tryz.sizeOf9
  v9 := Tryz.zeroValue9
  t22 := Tryz.underlying64
  a22 := Tryz.isAgg64
  z22 := Tryz.sizeOf64
  v22 := Tryz.zeroValue64
  t25 := Tryz.underlying182
  a25 := Tryz.isAgg182
  z25 := Tryz.sizeOf182
  v25 := Tryz.zeroValue182
  t39 := Tryz.underlying225
  a39 := Tryz.isAgg225
  z39 := Tryz.sizeOf225
  v39 := Tryz.zeroValue225
  t45 := Tryz.underlying245
  a45 := Tryz.isAgg245
  z45 := Tryz.sizeOf245
  v45 := Tryz.zeroValue245
  t46 := Tryz.underlying246
  a46 := Tryz.isAgg246
  z46 := Tryz.sizeOf246
  v46 := Tryz.zeroValue246
  t50 := Tryz.underlying143
  a50 := Tryz.isAgg143
  z50 := Tryz.sizeOf143
  v50 := Tryz.zeroValue143
  t53 := Tryz.underlying253
  a53 := Tryz.isAgg253
  z53 := Tryz.sizeOf253
  v53 := Tryz.zeroValue253
  t55 := Tryz.underlying25
  a55 := Tryz.isAgg25
  z55 := Tryz.sizeOf25
  v55 := Tryz.zeroValue25
  t66 := Tryz.underlying262
  a66 := Tryz.isAgg262
  z66 := Tryz.sizeOf262
  v66 := Tryz.zeroValue262
  t70 := Tryz.underlying265
  a70 := Tryz.isAgg265
  z70 := Tryz.sizeOf265
  v70 := Tryz.zeroValue265
  t76 := Tryz.underlying272
  a76 := Tryz.isAgg272
  z76 := Tryz.sizeOf272
  v76 := Tryz.zeroValue272
  t77 := Tryz.underlying172
  a77 := Tryz.isAgg172
  z77 := Tryz.sizeOf172
  v77 := Tryz.zeroValue172 }
end Go.Proofs
namespace Go.Proofs.YtokbiojkpldfeaaGreat.S
open Go Go.Proofs Go.Sort
set_option linter.unusedVariables false
set_option linter.unusedSimpArgs false
set_option maxRecDepth 100000

instance : Inhabited TPair := ⟨⟨0, 0⟩⟩
/-- cmp.Compare of the keys -/
def cmpI (x y : Int) : Int := if x < y then -1 else if y < x then 1 else 0
def cmpP (a b : TPair) : Int := cmpI a.key b.key
theorem ltP (a b : TPair) : ltOf cmpP a b = decide (a.key < b.key) := by
  unfold ltOf cmpP cmpI
  by_cases h1 : a.key < b.key
  · simp [h1]
  · by_cases h2 : b.key < a.key <;> simp [h1, h2]
theorem swoP : SWO (ltOf cmpP):= {
  irrefl x := by rw [ltP]; simp
  trans x y z h1 h2 := by rw [ltP] at *; simp at *; omega
  ntrans x y z h1 h2 := by rw [ltP] at *; simp at *; omega }
/-- the pairs, sorted by key -/
def sortP (l : List TPair) : List TPair := (pdq (ltOf cmpP) l.toArray 0 l.length (Lib.bitLen l.length) true true).toList
theorem sortP_sorts (l : List TPair) : PermIn 0 l.length l.toArray (sortP l).toArray ∧ SortedIn (ltOf cmpP) 0 l.length (sortP l).toArray := by
  have h := pdq_sorts (ltOf cmpP) swoP l.toArray 0 l.length (Lib.bitLen l.length) true true (Nat.zero_le _) (by simp) (Or.inl rfl)
  unfold sortP
  rw [Array.toArray_toList]
  exact h
theorem sortP_len (l : List TPair) : (sortP l).length = l.length := by
  have := (sortP_sorts l).1.1
  simpa using this
theorem sortP_perm (l : List TPair) : (sortP l).Perm l := by
  have h := (sortP_sorts l).1.2.2
  have e1 : ((sortP l).toArray.extract 0 l.length).toList = sortP l := by
    rw [← sortP_len l]; simp
  have e2 : (l.toArray.extract 0 l.length).toList = l := by simp
  rwa [e1, e2] at h
theorem sortP_sorted (l : List TPair) : (sortP l).Pairwise fun a b => a.key ≤ b.key := by
  have h := (sortP_sorts l).2
  rw [List.pairwise_iff_getElem]
  intro i j hi hj hij
  have := h i j (Nat.zero_le _) hij (by rw [← sortP_len l]; exact hj)
  rw [ltP] at this
  simp only [decide_eq_false_iff_not] at this
  rw [getElem!_pos (sortP l).toArray i (by simpa using hi), getElem!_pos (sortP l).toArray j (by simpa using hj)] at this
  simp at this
  omega

/-! ### the comparison, to the world -/
theorem cp_isNaN (a : Int) {K : KV} {w : World} (h : K (.bool false) w) : CP Tryz.prog Fn.cmp_isNaN_uint64 [u64 a] K w :=
  evalF_sound env_ok N_cmp_isNaN_uint64 Tryz.func173 (by kernel_rfl) (Eq.mp (E_cmp_isNaN_uint64 (u64 a) K w) (by
    unfold P_cmp_isNaN_uint64 binIntW
    simp [intBin, onSome]
    exact h))
theorem cp_Compare (a b : Int) {K : KV} {w : World} (h : K (i64 (cmpI a b)) w) : CP Tryz.prog Fn.cmp_Compare_uint64 [u64 a, u64 b] K w :=
  evalF_sound env_ok N_cmp_Compare_uint64 Tryz.func130 (by kernel_rfl) (Eq.mp (E_cmp_Compare_uint64 (u64 a) (u64 b) K w) (by
    unfold P_cmp_Compare_uint64
    refine cp_isNaN a ?_
    refine cp_isNaN b ?_
    unfold cmpI at h
    by_cases h1 : a < b
    · simp [condP, condW, binIntW, intBin, onSome, h1] at h ⊢; exact h
    · by_cases h2 : b < a
      · simp [condP, condW, binIntW, intBin, onSome, h1, h2] at h ⊢; exact h
      · simp [condP, condW, binIntW, intBin, onSome, h1, h2] at h ⊢; exact h))
theorem cp_All_2 (a b : TPair) (w : World) : CP Tryz.prog Fn.table_All_2 [.agg #[u64 a.key, u64 a.val], .agg #[u64 b.key, u64 b.val]] (fun v w' => v = i64 (cmpP a b) ∧ ∃ q os', w' = Sort.grow (w.drewN q) os') w :=
  evalF_sound env_ok N_table_All_2 Tryz.func129 (by kernel_rfl) (Eq.mp (E_table_All_2 _ _ _ w) (by
    unfold P_table_All_2 boxW newW
    intro T1 T2
    have hs : (w.alloc (.cells #[u64 a.key, u64 a.val] T1)).heap.size = w.heap.size + 1 := by unfold World.alloc; simp
    have h1 : mem ((w.alloc (.cells #[u64 a.key, u64 a.val] T1)).alloc (.cells #[u64 b.key, u64 b.val] T2)) w.heap.size = some [u64 a.key, u64 a.val] := by
      rw [mem_alloc, hs, if_neg (by omega), mem_alloc, if_pos rfl]
    have h2 : mem ((w.alloc (.cells #[u64 a.key, u64 a.val] T1)).alloc (.cells #[u64 b.key, u64 b.val] T2)) (w.heap.size + 1) = some [u64 b.key, u64 b.val] := by
      rw [mem_alloc, hs, if_pos rfl]
    simp only [Value.cells, hs, addW, load1W, Nat.add_zero] at h1 h2 ⊢
    rw [h1]
    simp only [onSome, List.getElem?_cons_zero]
    rw [h2]
    simp only [onSome, List.getElem?_cons_zero]
    refine cp_Compare _ _ ?_
    exact ⟨rfl, 0, _, by rw [alloc_eq_grow, alloc_eq_grow, grow_grow]; rfl⟩))

theorem cmpLaysP (blk off size : Nat) (w : World) : CmpLays Tryz.prog Fn.table_All_2 #[] tPairE.enc 2 cmpP blk off size w := fun m os dk hs x y => by
  refine (cp_All_2 x y (sortWorldK tPairE.enc 2 w blk off m dk os)).2.mono fun e w' he => ?_
  cases e <;> first | exact absurd he id | skip
  obtain ⟨rfl, q, os', rfl⟩ := he
  exact ⟨rfl, q, os', rfl⟩

theorem flatK_pairs (zs : List TPair) : (flatK tPairE.enc 2 zs.toArray).toList = zs.flatMap tPairE.enc := by
  apply List.ext_getElem
  · rw [flat_length]; simp
  · intro j h1 h2
    have hj : j < zs.length * 2 := by simpa [flat_length] using h1
    have hd : j / 2 < zs.length := by omega
    have e1 := flat_part tPairE [] zs (j / 2) zs[j / 2] (List.getElem?_eq_getElem hd)
    rw [List.append_nil] at e1
    have e2 : (((zs.flatMap tPairE.enc).drop (j / 2 * 2)).take 2)[j % 2]? = (tPairE.enc zs[j / 2])[j % 2]? := by rw [show ((zs.flatMap tPairE.enc).drop (j / 2 * 2)).take 2 = tPairE.enc zs[j / 2] from e1]
    rw [List.getElem?_take, if_pos (Nat.mod_lt _ (by omega)), List.getElem?_drop, show j / 2 * 2 + j % 2 = j by omega, List.getElem?_eq_getElem h2] at e2
    have e3 := get_flatK tPairE.enc 2 zs.toArray j (by simpa using hj)
    rw [Array.getElem_toList]
    have e4 : (flatK tPairE.enc 2 zs.toArray)[j] = (flatK tPairE.enc 2 zs.toArray)[j]! := (getElem!_pos _ j (by simpa using hj)).symm
    rw [e4, e3, getElem!_pos zs.toArray (j / 2) (by simpa using hd)]
    have e5 : (tPairE.enc zs.toArray[j / 2])[j % 2]? = some (zs.flatMap tPairE.enc)[j] := e2.symm
    rw [List.getElem!_eq_getElem?_getD, e5]
    rfl

section
variable {w0 : Base} {L M : List Asn} {K : KV} {C : Asn → List Asn} {w : World}

theorem putRow_putid {w : World} {b : Nat} {cs : List Value} (d : Array Value) (h : mem w b = some cs) : putRow id w b 0 d = put w b (putCells id 0 d cs.toArray).toList := by
  unfold putRow mapBlock put
  congr 1
  apply Array.ext_getElem?
  intro j
  simp only [Array.getElem?_modify]
  split
  · rename_i e
    subst e
    unfold mem at h
    cases ho : w.heap[b]? with
    | none => rfl
    | some o =>
      rw [ho] at h
      cases o with
      | cells c T z =>
        simp only [Option.some.injEq] at h
        subst h
        simp [onCells]
      | _ => simp at h
  · rfl

theorem putCells_id {xs bs : List Value} {rest : List Value} (hl : bs.length = xs.length) : (putCells id 0 bs.toArray (xs ++ rest).toArray).toList = bs ++ rest := by
  apply List.ext_getElem?
  intro j
  simp only [putCells, Array.getElem?_toList, Array.getElem?_mapIdx, List.getElem?_toArray, Nat.zero_le, true_and, Nat.zero_add, Nat.sub_zero, List.size_toArray]
  rcases Nat.lt_or_ge j bs.length with hj | hj
  · rw [List.getElem?_append_left (by omega), List.getElem?_append_left hj]
    simp [hj, show j < xs.length by omega]
  · rw [List.getElem?_append_right (by omega), List.getElem?_append_right (by omega)]
    simp only [hl]
    cases rest[j - xs.length]? with
    | none => rfl
    | some x => simp; omega

theorem aggP : ∀ w, (isAgg (YtokbiojkpldfeaaGreat.laysF6_ren.t 24)).run Tryz.prog w = .ok true w := by first | exact Tryz.isAgg128 | exact Tryz.isAgg72
theorem sizeP : ∀ w, (Go.sizeOf (YtokbiojkpldfeaaGreat.laysF6_ren.t 24)).run Tryz.prog w = .ok 2 w := by first | exact Tryz.sizeOf128 | exact Tryz.sizeOf72

theorem s_slices_SortFunc {v : Value} {zs : List TPair} [i : SelSl L v tPairE zs C] (hl : zs.length ≤ 1000000) (hK : G w0 (C (sl tPairE v (sortP zs))) (K (.tuple #[]))) : G w0 L (CP Tryz.prog Fn.slices_SortFunc_api_Pair_api_Pair [v, .func (.func Fn.table_All_2) #[] #[]] K) := by
  have known : ∃ fn, Tryz.prog.funcs[Fn.slices_SortFunc_api_Pair_api_Pair]? = some fn ∧ fn.body.isNone = false ∧ (fn.name == "runtime.NumGoroutine") = false := ⟨_, Tryz.func128, by kernel_rfl, by kernel_rfl⟩
  obtain ⟨M, e1, e2⟩ := sl_front (w0 := w0) i.sel
  intro w H
  have H1 := (e1 w).1 H
  rcases H1.sl_cases with ⟨rfl, rfl, H2⟩ | ⟨c, cap, rest, rfl, h2, h3, H2⟩
  · refine ⟨known, (AnyF.slices_SortFunc_none YtokbiojkpldfeaaGreat.laysF6 none 0 _ w).mono ?_⟩
    rintro e w' ⟨rfl, rfl⟩
    have e0 : sortP [] = [] := List.length_eq_zero_iff.1 (sortP_len [])
    rw [e0] at hK
    exact hK _ ((e2 _ _).2 H1)
  · have hm := H2.own_mem
    have hH : HoldsK tPairE.enc 2 w c 0 zs.toArray := fun j hj => by
      have hj' : j < zs.length * 2 := by simpa using hj
      refine ⟨?_, ?_⟩
      · rw [cell_mem hm.2.1, Nat.zero_add]
        rw [getElem!_pos _ j hj]
        have hj2 : j < (zs.flatMap tPairE.enc).length := by rw [flat_length]; exact hj'
        rw [List.getElem?_append_left hj2, List.getElem?_eq_getElem hj2]
        have e := flatK_pairs zs
        have : (zs.flatMap tPairE.enc)[j] = (flatK tPairE.enc 2 zs.toArray)[j] := by simp only [← e, Array.getElem_toList]
        exact congrArg some this
      · have ho := hm.2.2
        unfold opn at ho
        unfold World.frozen?
        split at ho
        · rename_i cc T z hz
          simp [hz] at ho ⊢
          simp [ho]
        · cases ho
    have eg : ∀ args w, (callFunc Fn.table_All_2 args).run Tryz.prog w = .ok (.enter Fn.table_All_2 args) w := enters_of Tryz.func129 (by kernel_rfl) rfl
    refine ⟨known, (AnyQ.slices_SortFunc_eq YtokbiojkpldfeaaGreat.laysF6 2 aggP sizeP tPairE.enc (fun _ => rfl) (fun x v hv => by simp at hv; rcases hv with rfl | rfl <;> rfl) cmpP swoP Fn.table_All_2 #[] c 0 cap zs.toArray w eg (cmpLaysP c 0 _ w) hH (mem_lt hm.2.1) (by simp; omega)).mono ?_⟩
    rintro e w' ⟨rfl, n, os, rfl⟩
    have hts : (sortP zs).length = zs.length := sortP_len zs
    have H3 := H2.ahead n
    have hm3 := H3.own_mem.2.1
    have ep : pdq (ltOf cmpP) zs.toArray 0 zs.toArray.size (Lib.bitLen zs.toArray.size) true true = (sortP zs).toArray := by unfold sortP; simp
    rw [ep]
    unfold sortWorldK putRowK
    have ef : flatK tPairE.enc 2 (sortP zs).toArray = ((sortP zs).flatMap tPairE.enc).toArray := by rw [← flatK_pairs]
    rw [ef, putRow_putid _ hm3, putCells_id (by rw [flat_length, flat_length, hts])]
    have H4 := (H3.own_put (cs' := (sortP zs).flatMap tPairE.enc ++ rest)).grow os
    have H5 := H4.sl_mk (E := tPairE) (cap := cap) (by omega) (by rw [hts]; exact h3)
    rw [hts] at H5
    exact hK _ ((e2 _ _).2 H5)
end
end Go.Proofs.YtokbiojkpldfeaaGreat.S
