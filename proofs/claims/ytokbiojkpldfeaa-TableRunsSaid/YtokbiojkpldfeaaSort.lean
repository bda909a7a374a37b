/-
  slices.Sort at []int: THE SHELF's CONTRACT, TURNED TO OWNED SLICES.
-/
import Derived.Test.YtokbiojkpldfeaaBook
import Derived.Shelf.Sort.Plain
import Derived.Shelf.Slices.In.SortNone
import Derived.Shelf.Slices.CompactI
namespace Go.Proofs
open Go.Shelf
def Ytokbiojkpldfeaa.lays189_ren : Go.Shelf.Ren := ⟨fun | 189 => 79 | 125 => 114 | 257 => 116 | 128 => 145 | 129 => 146 | 294 => 147 | 295 => 148 | 296 => 149 | 297 => 150 | 298 => 151 | 299 => 152 | 216 => 153 | 300 => 154 | 301 => 155 | 328 => 173 | 329 => 169 | 330 => 170 | 331 => 174 | 332 => 175 | 215 => 176 | 343 => 183 | n => n, fun | 28 => 32 | 3 => 3 | 46 => 157 | 0 => 0 | 51 => 181 | 53 => 24 | 4 => 4 | 183 => 175 | 182 => 174 | 131 => 161 | 5 => 5 | 9 => 9 | 218 => 197 | 222 => 200 | 228 => 208 | 229 => 103 | n => n, fun | n => n⟩
theorem Ytokbiojkpldfeaa.lays189 : Go.Proofs.Lays.n189 Try.prog Ytokbiojkpldfeaa.lays189_ren := {
  mixed := by kernel_rfl
  f125 := Try.func114.trans (congrArg some (by kernel_rfl))
  f128 := Try.func145.trans (congrArg some (by kernel_rfl))
  f129 := Try.func146.trans (congrArg some (by kernel_rfl))
  f189 := Try.func79.trans (congrArg some (by kernel_rfl))
  f215 := Try.func176.trans (congrArg some (by kernel_rfl))
  f216 := Try.func153.trans (congrArg some (by kernel_rfl))
  f257 := Try.func116.trans (congrArg some (by kernel_rfl))
  f294 := Try.func147.trans (congrArg some (by kernel_rfl))
  f295 := Try.func148.trans (congrArg some (by kernel_rfl))
  f296 := Try.func149.trans (congrArg some (by kernel_rfl))
  f297 := Try.func150.trans (congrArg some (by kernel_rfl))
  f298 := Try.func151.trans (congrArg some (by kernel_rfl))
  f299 := Try.func152.trans (congrArg some (by kernel_rfl))
  f300 := Try.func154.trans (congrArg some (by kernel_rfl))
  f301 := Try.func155.trans (congrArg some (by kernel_rfl))
  f328 := Try.func173.trans (congrArg some (by kernel_rfl))
  f329 := Try.func169.trans (congrArg some (by kernel_rfl))
  f330 := Try.func170.trans (congrArg some (by kernel_rfl))
  f331 := Try.func174.trans (congrArg some (by kernel_rfl))
  f332 := Try.func175.trans (congrArg some (by kernel_rfl))
  f343 := Try.func183.trans (congrArg some (by kernel_rfl))
  t0 := Try.underlying0
  a0 := Try.isAgg0
  z0 := Try.sizeOf0
  v0 := Try.zeroValue0
  t3 := Try.underlying3
  a3 := Try.isAgg3
  z3 := Try.sizeOf3
  v3 := Try.zeroValue3
  t4 := Try.underlying4
  a4 := Try.isAgg4
  z4 := Try.sizeOf4
  v4 := Try.zeroValue4
  t5 := Try.underlying5
  a5 := Try.isAgg5
  z5 := Try.sizeOf5
  v5 := Try.zeroValue5
  t9 := Try.underlying9
  a9 := Try.isAgg9
  z9 := Try.sizeOf9
  v9 := Try.zeroValue9
  t28 := Try.underlying32
  a28 := Try.isAgg32
  z28 := Try.sizeOf32
  v28 := Try.zeroValue32
  t46 := Try.underlying157
  a46 := Try.isAgg157
  z46 := Try.sizeOf157
  v46 := Try.zeroValue157
  t51 := Try.underlying181
  a51 := Try.isAgg181
  z51 := Try.sizeOf181
  v51 := Try.zeroValue181
  t53 := Try.underlying24
  a53 := Try.isAgg24
  z53 := Try.sizeOf24
  v53 := Try.zeroValue24
  t131 := Try.underlying161
  a131 := Try.isAgg161
  z131 := Try.sizeOf161
  v131 := Try.zeroValue161
  t182 := Try.underlying174
  a182 := Try.isAgg174
  z182 := Try.sizeOf174
  v182 := Try.zeroValue174
  t183 := Try.underlying175
  a183 := Try.isAgg175
  z183 := Try.sizeOf175
  v183 := Try.zeroValue175
  t218 := Try.underlying197
  a218 := Try.isAgg197
  z218 := Try.sizeOf197
  v218 := Try.zeroValue197
  t222 := Try.underlying200
  a222 := Try.isAgg200
  z222 := Try.sizeOf200
  v222 := Try.zeroValue200
  t228 := Try.underlying208
  a228 := Try.isAgg208
  z228 := Try.sizeOf208
  v228 := Try.zeroValue208
  t229 := Try.underlying103
  a229 := Try.isAgg103
  z229 := Try.sizeOf103
  v229 := Try.zeroValue103 }
def Ytokbiojkpldfeaa.lays2_20_ren : Go.Shelf.Ren := ⟨fun | 20 => 80 | n => n, fun | 22 => 32 | 3 => 3 | 4 => 4 | 0 => 0 | n => n, fun | n => n⟩
theorem Ytokbiojkpldfeaa.lays2_20 : Go.Proofs.Lays2.n20 Try.prog Ytokbiojkpldfeaa.lays2_20_ren := {
  mixed := by kernel_rfl
  f20 := Try.func80.trans (congrArg some (by kernel_rfl))
  t0 := Try.underlying0
  a0 := Try.isAgg0
  z0 := Try.sizeOf0
  v0 := Try.zeroValue0
  t3 := Try.underlying3
  a3 := Try.isAgg3
  z3 := Try.sizeOf3
  v3 := Try.zeroValue3
  t4 := Try.underlying4
  a4 := Try.isAgg4
  z4 := Try.sizeOf4
  v4 := Try.zeroValue4
  t22 := Try.underlying32
  a22 := Try.isAgg32
  z22 := Try.sizeOf32
  v22 := Try.zeroValue32
  i3 := by kernel_rfl }
end Go.Proofs
namespace Go.Proofs.Ytokbiojkpldfeaa.S
open Go Go.Proofs Go.Sort
set_option linter.unusedVariables false
set_option linter.unusedSimpArgs false

section
variable {w0 : Base} {L M : List Asn} {K : KV} {C : Asn → List Asn} {w : World}

theorem St.ahead (H : St w0 L w) : ∀ n, St w0 L (Sort.ahead w n)
  | 0 => H
  | n + 1 => by rw [← ahead_drew]; exact (St.ahead H n).drew

theorem St.grow (H : St w0 L w) (os : Array Obj) : St w0 L (Sort.grow w os) := by
  obtain ⟨h, hs, hd⟩ := H
  have old : ∀ k, k < w.heap.size → (Sort.grow w os).heap[k]? = w.heap[k]? := fun k hk => heap_grow_old _ _ hk
  have hsz : w.heap.size ≤ (Sort.grow w os).heap.size := by simp [Sort.grow]
  refine ⟨h, hs, ⟨hd.step.os, hd.step.tape, hd.step.output, Nat.le_trans hd.step.size hsz, fun k hk hn => ?_⟩, fun b cs hb => ?_, fun b o hb => ?_, Nat.le_trans hd.min hsz⟩
  · rw [old k (Nat.lt_of_lt_of_le hk hd.step.size)]; exact hd.step.block k hk hn
  · obtain ⟨h1, h2, h3⟩ := hd.cell b cs hb
    have hb2 := old b (mem_lt h2)
    exact ⟨h1, by unfold mem at h2 ⊢; rw [hb2]; exact h2, by unfold opn at h3 ⊢; rw [hb2]; exact h3⟩
  · obtain ⟨h1, h2⟩ := hd.kept b o hb
    exact ⟨by rw [old b (Array.getElem?_eq_some_iff.1 h1).1]; exact h1, h2⟩

theorem putRow_put {w : World} {b : Nat} {cs : List Value} (d : Array Int) (h : mem w b = some cs) : putRow (Value.int .i64) w b 0 d = put w b (putCells (Value.int .i64) 0 d cs.toArray).toList := by
  unfold putRow mapBlock put
  congr 1
  apply Array.ext_getElem?
  intro j
  simp only [Array.getElem?_modify]
  split
  · rename_i e
    subst e
    unfold mem at h
    cases ho : w.heap[b]? with
    | none => rfl
    | some o =>
      rw [ho] at h
      cases o with
      | cells c T z =>
        simp only [Option.some.injEq] at h
        subst h
        simp [onCells]
      | _ => simp at h
  · rfl

theorem putCells_ints {zs ts : List Int} {rest : List Value} (hl : ts.length = zs.length) : (putCells (Value.int .i64) 0 ts.toArray (zs.flatMap intE.enc ++ rest).toArray).toList = ts.flatMap intE.enc ++ rest := by
  have e : ∀ xs : List Int, xs.flatMap intE.enc = xs.map (Value.int .i64) := fun xs => by
    induction xs with
    | nil => rfl
    | cons x xs ih => simp [ih]
  rw [e, e]
  apply List.ext_getElem?
  intro j
  simp only [putCells, Array.getElem?_toList, Array.getElem?_mapIdx, List.getElem?_toArray, Nat.zero_le, true_and, Nat.zero_add, Nat.sub_zero, List.size_toArray]
  rcases Nat.lt_or_ge j ts.length with hj | hj
  · rw [List.getElem?_append_left (by simpa using (by omega : j < zs.length)), List.getElem?_append_left (by simpa using hj)]
    simp [hj, show j < zs.length by omega]
  · rw [List.getElem?_append_right (by simp; omega), List.getElem?_append_right (by simp; omega)]
    simp only [List.length_map, hl]
    cases rest[j - zs.length]? with
    | none => rfl
    | some x => simp; omega

theorem holds_ints {c : Nat} {zs : List Int} {rest : List Value} (hm : mem w c = some (zs.flatMap intE.enc ++ rest)) (ho : opn w c = true) : Go.Sort.Holds (Value.int .i64) w c 0 zs.toArray := fun j hj => by
  have hj' : j < zs.length := by simpa using hj
  refine ⟨?_, ?_⟩
  · rw [cell_mem hm]
    have := flat_part intE rest zs j zs[j] (List.getElem?_eq_getElem hj')
    have h0 : (((zs.flatMap intE.enc ++ rest).drop (j * 1)).take 1)[0]? = some (i64 zs[j]) := by rw [show (List.drop (j * 1) (zs.flatMap intE.enc ++ rest)).take 1 = [i64 zs[j]] from this]; rfl
    rw [List.getElem?_take] at h0
    simpa [hj'] using h0
  · unfold opn at ho
    unfold World.frozen?
    split at ho
    · rename_i cc T z hz
      simp [hz] at ho ⊢
      simp [ho]
    · cases ho

theorem compact_le (zs : List Int) : (Lib.compact zs).length ≤ zs.length := by
  unfold Lib.compact Lib.compactUpTo
  rw [List.length_map]
  exact Nat.le_trans (List.length_filter_le _ _) (by simp)

theorem s_slices_Compact_int_int {v : Value} {zs : List Int} [i : SelSl L v intE zs C] (hl : zs.length ≤ 1000000) (hK : ∀ u, Cells u [u] → G w0 (C (sl intE u (Lib.compact zs))) (K u)) : G w0 L (CP Try.prog Fn.slices_Compact_int_int [v] K) := by
  have known : ∃ fn, Try.prog.funcs[Fn.slices_Compact_int_int]? = some fn ∧ fn.body.isNone = false ∧ (fn.name == "runtime.NumGoroutine") = false := ⟨_, Try.func80, by kernel_rfl, by kernel_rfl⟩
  obtain ⟨M, e1, e2⟩ := sl_front (w0 := w0) i.sel
  intro w H
  have H1 := (e1 w).1 H
  rcases H1.sl_cases with ⟨rfl, rfl, H2⟩ | ⟨c, cap, rest, rfl, h2, h3, H2⟩
  · refine ⟨known, (Any.slices_Compact_int_empty Ytokbiojkpldfeaa.lays2_20 none 0 w).mono ?_⟩
    rintro e w' ⟨rfl, rfl⟩
    exact hK _ cells_slice _ ((e2 _ _).2 (by simpa [Lib.compact, Lib.compactUpTo] using H1))
  · have hm := H2.own_mem
    refine ⟨known, (Any.slices_Compact_int Ytokbiojkpldfeaa.lays2_20 c 0 cap zs w (holds_ints hm.2.1 hm.2.2) (by omega) h2).mono ?_⟩
    rintro e w' ⟨rfl, n, rfl⟩
    have hle := compact_le zs
    have H3 := H2.ahead n
    have hm3 := H3.own_mem.2.1
    rw [putRow_put _ hm3, putCells_ints (by simp; omega), List.flatMap_append, List.append_assoc]
    have H4 := H3.own_put (cs' := (Lib.compact zs).flatMap intE.enc ++ ((List.replicate (zs.length - (Lib.compact zs).length) (0 : Int)).flatMap intE.enc ++ rest))
    have H5 := H4.sl_mk (E := intE) (cap := cap) (by omega) (by
      rw [List.length_append, flat_length, h3, List.length_replicate]
      show (zs.length - (Lib.compact zs).length) * 1 + (cap - zs.length) * 1 = (cap - (Lib.compact zs).length) * 1
      omega)
    exact hK _ cells_slice _ ((e2 _ _).2 H5)

end
end Go.Proofs.Ytokbiojkpldfeaa.S
