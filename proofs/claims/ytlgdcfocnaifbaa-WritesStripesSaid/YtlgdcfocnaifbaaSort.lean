/-
  slices.Sort at []int: THE SHELF's CONTRACT, TURNED TO OWNED SLICES.
-/
import Derived.Test.YtlgdcfocnaifbaaBook
import Derived.Shelf.Sort.Plain
import Derived.Shelf.Slices.In.SortNone
import Derived.Shelf.Slices.CompactI
namespace Go.Proofs
open Go.Shelf
def Ytlgdcfocnaifbaa.lays189_ren : Go.Shelf.Ren := ⟨fun | 189 => 73 | 125 => 93 | 257 => 92 | 128 => 104 | 129 => 105 | 294 => 95 | 295 => 96 | 296 => 97 | 297 => 98 | 298 => 99 | 299 => 100 | 216 => 101 | 300 => 102 | 301 => 103 | 328 => 106 | 329 => 107 | 330 => 108 | 331 => 109 | 332 => 110 | 215 => 111 | 343 => 112 | n => n, fun | 28 => 57 | 3 => 3 | 46 => 118 | 0 => 0 | 51 => 130 | 53 => 24 | 4 => 4 | 183 => 122 | 182 => 121 | 131 => 127 | 5 => 5 | 9 => 9 | 218 => 132 | 222 => 136 | 228 => 138 | 229 => 139 | n => n, fun | n => n⟩
theorem Ytlgdcfocnaifbaa.lays189 : Go.Proofs.Lays.n189 Try.prog Ytlgdcfocnaifbaa.lays189_ren := {
  mixed := by kernel_rfl
  f125 := Try.func93.trans (congrArg some (by kernel_rfl))
  f128 := Try.func104.trans (congrArg some (by kernel_rfl))
  f129 := Try.func105.trans (congrArg some (by kernel_rfl))
  f189 := Try.func73.trans (congrArg some (by kernel_rfl))
  f215 := Try.func111.trans (congrArg some (by kernel_rfl))
  f216 := Try.func101.trans (congrArg some (by kernel_rfl))
  f257 := Try.func92.trans (congrArg some (by kernel_rfl))
  f294 := Try.func95.trans (congrArg some (by kernel_rfl))
  f295 := Try.func96.trans (congrArg some (by kernel_rfl))
  f296 := Try.func97.trans (congrArg some (by kernel_rfl))
  f297 := Try.func98.trans (congrArg some (by kernel_rfl))
  f298 := Try.func99.trans (congrArg some (by kernel_rfl))
  f299 := Try.func100.trans (congrArg some (by kernel_rfl))
  f300 := Try.func102.trans (congrArg some (by kernel_rfl))
  f301 := Try.func103.trans (congrArg some (by kernel_rfl))
  f328 := Try.func106.trans (congrArg some (by kernel_rfl))
  f329 := Try.func107.trans (congrArg some (by kernel_rfl))
  f330 := Try.func108.trans (congrArg some (by kernel_rfl))
  f331 := Try.func109.trans (congrArg some (by kernel_rfl))
  f332 := Try.func110.trans (congrArg some (by kernel_rfl))
  f343 := Try.func112.trans (congrArg some (by kernel_rfl))
  t0 := Try.underlying0
  a0 := Try.isAgg0
  z0 := Try.sizeOf0
  v0 := Try.zeroValue0
  t3 := Try.underlying3
  a3 := Try.isAgg3
  z3 := Try.sizeOf3
  v3 := Try.zeroValue3
  t4 := Try.underlying4
  a4 := Try.isAgg4
  z4 := Try.sizeOf4
  v4 := Try.zeroValue4
  t5 := Try.underlying5
  a5 := Try.isAgg5
  z5 := Try.sizeOf5
  v5 := Try.zeroValue5
  t9 := Try.underlying9
  a9 := Try.isAgg9
  z9 := Try.sizeOf9
  v9 := Try.zeroValue9
  t28 := Try.underlying57
  a28 := Try.isAgg57
  z28 := Try.sizeOf57
  v28 := Try.zeroValue57
  t46 := Try.underlying118
  a46 := Try.isAgg118
  z46 := Try.sizeOf118
  v46 := Try.zeroValue118
  t51 := Try.underlying130
  a51 := Try.isAgg130
  z51 := Try.sizeOf130
  v51 := Try.zeroValue130
  t53 := Try.underlying24
  a53 := Try.isAgg24
  z53 := Try.sizeOf24
  v53 := Try.zeroValue24
  t131 := Try.underlying127
  a131 := Try.isAgg127
  z131 := Try.sizeOf127
  v131 := Try.zeroValue127
  t182 := Try.underlying121
  a182 := Try.isAgg121
  z182 := Try.sizeOf121
  v182 := Try.zeroValue121
  t183 := Try.underlying122
  a183 := Try.isAgg122
  z183 := Try.sizeOf122
  v183 := Try.zeroValue122
  t218 := Try.underlying132
  a218 := Try.isAgg132
  z218 := Try.sizeOf132
  v218 := Try.zeroValue132
  t222 := Try.underlying136
  a222 := Try.isAgg136
  z222 := Try.sizeOf136
  v222 := Try.zeroValue136
  t228 := Try.underlying138
  a228 := Try.isAgg138
  z228 := Try.sizeOf138
  v228 := Try.zeroValue138
  t229 := Try.underlying139
  a229 := Try.isAgg139
  z229 := Try.sizeOf139
  v229 := Try.zeroValue139 }
def Ytlgdcfocnaifbaa.lays2_20_ren : Go.Shelf.Ren := ⟨fun | 20 => 74 | n => n, fun | 22 => 57 | 3 => 3 | 4 => 4 | 0 => 0 | n => n, fun | n => n⟩
theorem Ytlgdcfocnaifbaa.lays2_20 : Go.Proofs.Lays2.n20 Try.prog Ytlgdcfocnaifbaa.lays2_20_ren := {
  mixed := by kernel_rfl
  f20 := Try.func74.trans (congrArg some (by kernel_rfl))
  t0 := Try.underlying0
  a0 := Try.isAgg0
  z0 := Try.sizeOf0
  v0 := Try.zeroValue0
  t3 := Try.underlying3
  a3 := Try.isAgg3
  z3 := Try.sizeOf3
  v3 := Try.zeroValue3
  t4 := Try.underlying4
  a4 := Try.isAgg4
  z4 := Try.sizeOf4
  v4 := Try.zeroValue4
  t22 := Try.underlying57
  a22 := Try.isAgg57
  z22 := Try.sizeOf57
  v22 := Try.zeroValue57
  i3 := by kernel_rfl }
end Go.Proofs
namespace Go.Proofs.Ytlgdcfocnaifbaa.S
open Go Go.Proofs Go.Sort
set_option linter.unusedVariables false
set_option linter.unusedSimpArgs false

section
variable {w0 : Base} {L M : List Asn} {K : KV} {C : Asn → List Asn} {w : World}

theorem St.ahead (H : St w0 L w) : ∀ n, St w0 L (Sort.ahead w n)
  | 0 => H
  | n + 1 => by rw [← ahead_drew]; exact (St.ahead H n).drew

theorem St.grow (H : St w0 L w) (os : Array Obj) : St w0 L (Sort.grow w os) := by
  obtain ⟨h, hs, hd⟩ := H
  have old : ∀ k, k < w.heap.size → (Sort.grow w os).heap[k]? = w.heap[k]? := fun k hk => heap_grow_old _ _ hk
  have hsz : w.heap.size ≤ (Sort.grow w os).heap.size := by simp [Sort.grow]
  refine ⟨h, hs, ⟨hd.step.os, hd.step.tape, hd.step.output, Nat.le_trans hd.step.size hsz, fun k hk hn => ?_⟩, fun b cs hb => ?_, fun b o hb => ?_, Nat.le_trans hd.min hsz⟩
  · rw [old k (Nat.lt_of_lt_of_le hk hd.step.size)]; exact hd.step.block k hk hn
  · obtain ⟨h1, h2, h3⟩ := hd.cell b cs hb
    have hb2 := old b (mem_lt h2)
    exact ⟨h1, by unfold mem at h2 ⊢; rw [hb2]; exact h2, by unfold opn at h3 ⊢; rw [hb2]; exact h3⟩
  · obtain ⟨h1, h2⟩ := hd.kept b o hb
    exact ⟨by rw [old b (Array.getElem?_eq_some_iff.1 h1).1]; exact h1, h2⟩

theorem putRow_put {w : World} {b : Nat} {cs : List Value} (d : Array Int) (h : mem w b = some cs) : putRow (Value.int .i64) w b 0 d = put w b (putCells (Value.int .i64) 0 d cs.toArray).toList := by
  unfold putRow mapBlock put
  congr 1
  apply Array.ext_getElem?
  intro j
  simp only [Array.getElem?_modify]
  split
  · rename_i e
    subst e
    unfold mem at h
    cases ho : w.heap[b]? with
    | none => rfl
    | some o =>
      rw [ho] at h
      cases o with
      | cells c T z =>
        simp only [Option.some.injEq] at h
        subst h
        simp [onCells]
      | _ => simp at h
  · rfl

theorem putCells_ints {zs ts : List Int} {rest : List Value} (hl : ts.length = zs.length) : (putCells (Value.int .i64) 0 ts.toArray (zs.flatMap intE.enc ++ rest).toArray).toList = ts.flatMap intE.enc ++ rest := by
  have e : ∀ xs : List Int, xs.flatMap intE.enc = xs.map (Value.int .i64) := fun xs => by
    induction xs with
    | nil => rfl
    | cons x xs ih => simp [ih]
  rw [e, e]
  apply List.ext_getElem?
  intro j
  simp only [putCells, Array.getElem?_toList, Array.getElem?_mapIdx, List.getElem?_toArray, Nat.zero_le, true_and, Nat.zero_add, Nat.sub_zero, List.size_toArray]
  rcases Nat.lt_or_ge j ts.length with hj | hj
  · rw [List.getElem?_append_left (by simpa using (by omega : j < zs.length)), List.getElem?_append_left (by simpa using hj)]
    simp [hj, show j < zs.length by omega]
  · rw [List.getElem?_append_right (by simp; omega), List.getElem?_append_right (by simp; omega)]
    simp only [List.length_map, hl]
    cases rest[j - zs.length]? with
    | none => rfl
    | some x => simp; omega

theorem s_slices_Sort_int_int {v : Value} {zs : List Int} [i : SelSl L v intE zs C] (hl : zs.length ≤ 1000000) (hK : G w0 (C (sl intE v (zs.mergeSort fun x y => decide (x ≤ y)))) (K (.tuple #[]))) : G w0 L (CP Try.prog Fn.slices_Sort_int_int [v] K) := by
  have known : ∃ fn, Try.prog.funcs[Fn.slices_Sort_int_int]? = some fn ∧ fn.body.isNone = false ∧ (fn.name == "runtime.NumGoroutine") = false := ⟨_, Try.func73, by kernel_rfl, by kernel_rfl⟩
  obtain ⟨M, e1, e2⟩ := sl_front (w0 := w0) i.sel
  intro w H
  have H1 := (e1 w).1 H
  rcases H1.sl_cases with ⟨rfl, rfl, H2⟩ | ⟨c, cap, rest, rfl, h2, h3, H2⟩
  · refine ⟨known, (Any.slices_Sort_int_none Ytlgdcfocnaifbaa.lays189 none 0 w).mono ?_⟩
    rintro e w' ⟨rfl, rfl⟩
    exact hK _ ((e2 _ _).2 (by simpa using H1))
  · have hm := H2.own_mem
    have hH : Go.Sort.Holds (Value.int .i64) w c 0 zs.toArray := fun j hj => by
      have hj' : j < zs.length := by simpa using hj
      refine ⟨?_, ?_⟩
      · rw [cell_mem hm.2.1]
        have := flat_part intE rest zs j zs[j] (List.getElem?_eq_getElem hj')
        have h0 : (((zs.flatMap intE.enc ++ rest).drop (j * 1)).take 1)[0]? = some (i64 zs[j]) := by rw [show (List.drop (j * 1) (zs.flatMap intE.enc ++ rest)).take 1 = [i64 zs[j]] from this]; rfl
        rw [List.getElem?_take] at h0
        simpa [hj'] using h0
      · have ho := hm.2.2
        unfold opn at ho
        unfold World.frozen?
        split at ho
        · rename_i cc T z hz
          simp [hz] at ho ⊢
          simp [ho]
        · cases ho
    refine ⟨known, (Any.slices_Sort_int Ytlgdcfocnaifbaa.lays189 c 0 cap zs w hH (mem_lt hm.2.1) (by omega)).mono ?_⟩
    rintro e w' ⟨rfl, n, os, rfl⟩
    have hts : (zs.mergeSort fun x y => decide (x ≤ y)).length = zs.length := List.length_mergeSort _
    have H3 := H2.ahead n
    have hm3 := H3.own_mem.2.1
    rw [putRow_put _ hm3, putCells_ints hts]
    have H4 := (H3.own_put (cs' := (zs.mergeSort fun x y => decide (x ≤ y)).flatMap intE.enc ++ rest)).grow os
    have H5 := H4.sl_mk (E := intE) (cap := cap) (by omega) (by rw [hts]; exact h3)
    rw [hts] at H5
    exact hK _ ((e2 _ _).2 H5)

theorem holds_ints {c : Nat} {zs : List Int} {rest : List Value} (hm : mem w c = some (zs.flatMap intE.enc ++ rest)) (ho : opn w c = true) : Go.Sort.Holds (Value.int .i64) w c 0 zs.toArray := fun j hj => by
  have hj' : j < zs.length := by simpa using hj
  refine ⟨?_, ?_⟩
  · rw [cell_mem hm]
    have := flat_part intE rest zs j zs[j] (List.getElem?_eq_getElem hj')
    have h0 : (((zs.flatMap intE.enc ++ rest).drop (j * 1)).take 1)[0]? = some (i64 zs[j]) := by rw [show (List.drop (j * 1) (zs.flatMap intE.enc ++ rest)).take 1 = [i64 zs[j]] from this]; rfl
    rw [List.getElem?_take] at h0
    simpa [hj'] using h0
  · unfold opn at ho
    unfold World.frozen?
    split at ho
    · rename_i cc T z hz
      simp [hz] at ho ⊢
      simp [ho]
    · cases ho

theorem compact_le (zs : List Int) : (Lib.compact zs).length ≤ zs.length := by
  unfold Lib.compact Lib.compactUpTo
  rw [List.length_map]
  exact Nat.le_trans (List.length_filter_le _ _) (by simp)

theorem s_slices_Compact_int_int {v : Value} {zs : List Int} [i : SelSl L v intE zs C] (hl : zs.length ≤ 1000000) (hK : ∀ u, Cells u [u] → G w0 (C (sl intE u (Lib.compact zs))) (K u)) : G w0 L (CP Try.prog Fn.slices_Compact_int_int [v] K) := by
  have known : ∃ fn, Try.prog.funcs[Fn.slices_Compact_int_int]? = some fn ∧ fn.body.isNone = false ∧ (fn.name == "runtime.NumGoroutine") = false := ⟨_, Try.func74, by kernel_rfl, by kernel_rfl⟩
  obtain ⟨M, e1, e2⟩ := sl_front (w0 := w0) i.sel
  intro w H
  have H1 := (e1 w).1 H
  rcases H1.sl_cases with ⟨rfl, rfl, H2⟩ | ⟨c, cap, rest, rfl, h2, h3, H2⟩
  · refine ⟨known, (Any.slices_Compact_int_empty Ytlgdcfocnaifbaa.lays2_20 none 0 w).mono ?_⟩
    rintro e w' ⟨rfl, rfl⟩
    exact hK _ cells_slice _ ((e2 _ _).2 (by simpa [Lib.compact, Lib.compactUpTo] using H1))
  · have hm := H2.own_mem
    refine ⟨known, (Any.slices_Compact_int Ytlgdcfocnaifbaa.lays2_20 c 0 cap zs w (holds_ints hm.2.1 hm.2.2) (by omega) h2).mono ?_⟩
    rintro e w' ⟨rfl, n, rfl⟩
    have hle := compact_le zs
    have H3 := H2.ahead n
    have hm3 := H3.own_mem.2.1
    rw [putRow_put _ hm3, putCells_ints (by simp; omega), List.flatMap_append, List.append_assoc]
    have H4 := H3.own_put (cs' := (Lib.compact zs).flatMap intE.enc ++ ((List.replicate (zs.length - (Lib.compact zs).length) (0 : Int)).flatMap intE.enc ++ rest))
    have H5 := H4.sl_mk (E := intE) (cap := cap) (by omega) (by
      rw [List.length_append, flat_length, h3, List.length_replicate]
      show (zs.length - (Lib.compact zs).length) * 1 + (cap - zs.length) * 1 = (cap - (Lib.compact zs).length) * 1
      omega)
    exact hK _ cells_slice _ ((e2 _ _).2 H5)

end
end Go.Proofs.Ytlgdcfocnaifbaa.S
