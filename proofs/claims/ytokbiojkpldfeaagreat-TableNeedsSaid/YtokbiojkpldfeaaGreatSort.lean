/-
  slices.Sort at []int: THE SHELF's CONTRACT, TURNED TO OWNED SLICES.
-/
import Derived.Test.YtokbiojkpldfeaaGreatBook
import Derived.Shelf.Sort.Plain
import Derived.Shelf.Slices.In.SortNone
import Derived.Shelf.Slices.CompactI
namespace Go.Proofs
open Go.Shelf
def YtokbiojkpldfeaaGreat.lays189_ren : Go.Shelf.Ren := ⟨fun | 189 => 103 | 125 => 158 | 257 => 157 | 128 => 194 | 129 => 195 | 294 => 185 | 295 => 186 | 296 => 187 | 297 => 188 | 298 => 189 | 299 => 190 | 216 => 191 | 300 => 192 | 301 => 193 | 328 => 216 | 329 => 217 | 330 => 218 | 331 => 219 | 332 => 220 | 215 => 221 | 343 => 232 | n => n, fun | 28 => 47 | 3 => 3 | 46 => 225 | 0 => 0 | 51 => 253 | 53 => 25 | 4 => 4 | 183 => 246 | 182 => 245 | 131 => 143 | 5 => 5 | 9 => 9 | 218 => 262 | 222 => 265 | 228 => 272 | 229 => 172 | n => n, fun | n => n⟩
theorem YtokbiojkpldfeaaGreat.lays189 : Go.Proofs.Lays.n189 Tryz.prog YtokbiojkpldfeaaGreat.lays189_ren := {
  mixed := by kernel_rfl
  f125 := Tryz.func158.trans (congrArg some (by kernel_rfl))
  f128 := Tryz.func194.trans (congrArg some (by kernel_rfl))
  f129 := Tryz.func195.trans (congrArg some (by kernel_rfl))
  f189 := Tryz.func103.trans (congrArg some (by kernel_rfl))
  f215 := Tryz.func221.trans (congrArg some (by kernel_rfl))
  f216 := Tryz.func191.trans (congrArg some (by kernel_rfl))
  f257 := Tryz.func157.trans (congrArg some (by kernel_rfl))
  f294 := Tryz.func185.trans (congrArg some (by kernel_rfl))
  f295 := Tryz.func186.trans (congrArg some (by kernel_rfl))
  f296 := Tryz.func187.trans (congrArg some (by kernel_rfl))
  f297 := Tryz.func188.trans (congrArg some (by kernel_rfl))
  f298 := Tryz.func189.trans (congrArg some (by kernel_rfl))
  f299 := Tryz.func190.trans (congrArg some (by kernel_rfl))
  f300 := Tryz.func192.trans (congrArg some (by kernel_rfl))
  f301 := Tryz.func193.trans (congrArg some (by kernel_rfl))
  f328 := Tryz.func216.trans (congrArg some (by kernel_rfl))
  f329 := Tryz.func217.trans (congrArg some (by kernel_rfl))
  f330 := Tryz.func218.trans (congrArg some (by kernel_rfl))
  f331 := Tryz.func219.trans (congrArg some (by kernel_rfl))
  f332 := Tryz.func220.trans (congrArg some (by kernel_rfl))
  f343 := Tryz.func232.trans (congrArg some (by kernel_rfl))
  t0 := Tryz.underlying0
  a0 := Tryz.isAgg0
  z0 := Tryz.sizeOf0
  v0 := Tryz.zeroValue0
  t3 := Tryz.underlying3
  a3 := Tryz.isAgg3
  z3 := Tryz.sizeOf3
  v3 := Tryz.zeroValue3
  t4 := Tryz.underlying4
  a4 := Tryz.isAgg4
  z4 := Tryz.sizeOf4
  v4 := Tryz.zeroValue4
  t5 := Tryz.underlying5
  a5 := Tryz.isAgg5
  z5 := Tryz.sizeOf5
  v5 := Tryz.zeroValue5
  t9 := Tryz.underlying9
  a9 := Tryz.isAgg9
  z9 := Tryz.sizeOf9
  v9 := Tryz.zeroValue9
  t28 := Tryz.underlying47
  a28 := Tryz.isAgg47
  z28 := Tryz.sizeOf47
  v28 := Tryz.zeroValue47
  t46 := Tryz.underlying225
  a46 := Tryz.isAgg225
  z46 := Tryz.sizeOf225
  v46 := Tryz.zeroValue225
  t51 := Tryz.underlying253
  a51 := Tryz.isAgg253
  z51 := Tryz.sizeOf253
  v51 := Tryz.zeroValue253
  t53 := Tryz.underlying25
  a53 := Tryz.isAgg25
  z53 := Tryz.sizeOf25
  v53 := Tryz.zeroValue25
  t131 := Tryz.underlying143
  a131 := Tryz.isAgg143
  z131 := Tryz.sizeOf143
  v131 := Tryz.zeroValue143
  t182 := Tryz.underlying245
  a182 := Tryz.isAgg245
  z182 := Tryz.sizeOf245
  v182 := Tryz.zeroValue245
  t183 := Tryz.underlying246
  a183 := Tryz.isAgg246
  z183 := Tryz.sizeOf246
  v183 := Tryz.zeroValue246
  t218 := Tryz.underlying262
  a218 := Tryz.isAgg262
  z218 := Tryz.sizeOf262
  v218 := Tryz.zeroValue262
  t222 := Tryz.underlying265
  a222 := Tryz.isAgg265
  z222 := Tryz.sizeOf265
  v222 := Tryz.zeroValue265
  t228 := Tryz.underlying272
  a228 := Tryz.isAgg272
  z228 := Tryz.sizeOf272
  v228 := Tryz.zeroValue272
  t229 := Tryz.underlying172
  a229 := Tryz.isAgg172
  z229 := Tryz.sizeOf172
  v229 := Tryz.zeroValue172 }
def YtokbiojkpldfeaaGreat.lays2_20_ren : Go.Shelf.Ren := ⟨fun | 20 => 104 | n => n, fun | 22 => 47 | 3 => 3 | 4 => 4 | 0 => 0 | n => n, fun | n => n⟩
theorem YtokbiojkpldfeaaGreat.lays2_20 : Go.Proofs.Lays2.n20 Tryz.prog YtokbiojkpldfeaaGreat.lays2_20_ren := {
  mixed := by kernel_rfl
  f20 := Tryz.func104.trans (congrArg some (by kernel_rfl))
  t0 := Tryz.underlying0
  a0 := Tryz.isAgg0
  z0 := Tryz.sizeOf0
  v0 := Tryz.zeroValue0
  t3 := Tryz.underlying3
  a3 := Tryz.isAgg3
  z3 := Tryz.sizeOf3
  v3 := Tryz.zeroValue3
  t4 := Tryz.underlying4
  a4 := Tryz.isAgg4
  z4 := Tryz.sizeOf4
  v4 := Tryz.zeroValue4
  t22 := Tryz.underlying47
  a22 := Tryz.isAgg47
  z22 := Tryz.sizeOf47
  v22 := Tryz.zeroValue47
  i3 := by kernel_rfl }
end Go.Proofs
namespace Go.Proofs.YtokbiojkpldfeaaGreat.S
open Go Go.Proofs Go.Sort
set_option linter.unusedVariables false
set_option linter.unusedSimpArgs false

section
variable {w0 : Base} {L M : List Asn} {K : KV} {C : Asn → List Asn} {w : World}

theorem St.ahead (H : St w0 L w) : ∀ n, St w0 L (Sort.ahead w n)
  | 0 => H
  | n + 1 => by rw [← ahead_drew]; exact (St.ahead H n).drew

theorem St.grow (H : St w0 L w) (os : Array Obj) : St w0 L (Sort.grow w os) := by
  obtain ⟨h, hs, hd⟩ := H
  have old : ∀ k, k < w.heap.size → (Sort.grow w os).heap[k]? = w.heap[k]? := fun k hk => heap_grow_old _ _ hk
  have hsz : w.heap.size ≤ (Sort.grow w os).heap.size := by simp [Sort.grow]
  refine ⟨h, hs, ⟨hd.step.os, hd.step.tape, hd.step.output, Nat.le_trans hd.step.size hsz, fun k hk hn => ?_⟩, fun b cs hb => ?_, fun b o hb => ?_, Nat.le_trans hd.min hsz⟩
  · rw [old k (Nat.lt_of_lt_of_le hk hd.step.size)]; exact hd.step.block k hk hn
  · obtain ⟨h1, h2, h3⟩ := hd.cell b cs hb
    have hb2 := old b (mem_lt h2)
    exact ⟨h1, by unfold mem at h2 ⊢; rw [hb2]; exact h2, by unfold opn at h3 ⊢; rw [hb2]; exact h3⟩
  · obtain ⟨h1, h2⟩ := hd.kept b o hb
    exact ⟨by rw [old b (Array.getElem?_eq_some_iff.1 h1).1]; exact h1, h2⟩

theorem putRow_put {w : World} {b : Nat} {cs : List Value} (d : Array Int) (h : mem w b = some cs) : putRow (Value.int .i64) w b 0 d = put w b (putCells (Value.int .i64) 0 d cs.toArray).toList := by
  unfold putRow mapBlock put
  congr 1
  apply Array.ext_getElem?
  intro j
  simp only [Array.getElem?_modify]
  split
  · rename_i e
    subst e
    unfold mem at h
    cases ho : w.heap[b]? with
    | none => rfl
    | some o =>
      rw [ho] at h
      cases o with
      | cells c T z =>
        simp only [Option.some.injEq] at h
        subst h
        simp [onCells]
      | _ => simp at h
  · rfl

theorem putCells_ints {zs ts : List Int} {rest : List Value} (hl : ts.length = zs.length) : (putCells (Value.int .i64) 0 ts.toArray (zs.flatMap intE.enc ++ rest).toArray).toList = ts.flatMap intE.enc ++ rest := by
  have e : ∀ xs : List Int, xs.flatMap intE.enc = xs.map (Value.int .i64) := fun xs => by
    induction xs with
    | nil => rfl
    | cons x xs ih => simp [ih]
  rw [e, e]
  apply List.ext_getElem?
  intro j
  simp only [putCells, Array.getElem?_toList, Array.getElem?_mapIdx, List.getElem?_toArray, Nat.zero_le, true_and, Nat.zero_add, Nat.sub_zero, List.size_toArray]
  rcases Nat.lt_or_ge j ts.length with hj | hj
  · rw [List.getElem?_append_left (by simpa using (by omega : j < zs.length)), List.getElem?_append_left (by simpa using hj)]
    simp [hj, show j < zs.length by omega]
  · rw [List.getElem?_append_right (by simp; omega), List.getElem?_append_right (by simp; omega)]
    simp only [List.length_map, hl]
    cases rest[j - zs.length]? with
    | none => rfl
    | some x => simp; omega

theorem holds_ints {c : Nat} {zs : List Int} {rest : List Value} (hm : mem w c = some (zs.flatMap intE.enc ++ rest)) (ho : opn w c = true) : Go.Sort.Holds (Value.int .i64) w c 0 zs.toArray := fun j hj => by
  have hj' : j < zs.length := by simpa using hj
  refine ⟨?_, ?_⟩
  · rw [cell_mem hm]
    have := flat_part intE rest zs j zs[j] (List.getElem?_eq_getElem hj')
    have h0 : (((zs.flatMap intE.enc ++ rest).drop (j * 1)).take 1)[0]? = some (i64 zs[j]) := by rw [show (List.drop (j * 1) (zs.flatMap intE.enc ++ rest)).take 1 = [i64 zs[j]] from this]; rfl
    rw [List.getElem?_take] at h0
    simpa [hj'] using h0
  · unfold opn at ho
    unfold World.frozen?
    split at ho
    · rename_i cc T z hz
      simp [hz] at ho ⊢
      simp [ho]
    · cases ho

theorem compact_le (zs : List Int) : (Lib.compact zs).length ≤ zs.length := by
  unfold Lib.compact Lib.compactUpTo
  rw [List.length_map]
  exact Nat.le_trans (List.length_filter_le _ _) (by simp)

theorem s_slices_Compact_int_int {v : Value} {zs : List Int} [i : SelSl L v intE zs C] (hl : zs.length ≤ 1000000) (hK : ∀ u, Cells u [u] → G w0 (C (sl intE u (Lib.compact zs))) (K u)) : G w0 L (CP Tryz.prog Fn.slices_Compact_int_int [v] K) := by
  have known : ∃ fn, Tryz.prog.funcs[Fn.slices_Compact_int_int]? = some fn ∧ fn.body.isNone = false ∧ (fn.name == "runtime.NumGoroutine") = false := ⟨_, Tryz.func104, by kernel_rfl, by kernel_rfl⟩
  obtain ⟨M, e1, e2⟩ := sl_front (w0 := w0) i.sel
  intro w H
  have H1 := (e1 w).1 H
  rcases H1.sl_cases with ⟨rfl, rfl, H2⟩ | ⟨c, cap, rest, rfl, h2, h3, H2⟩
  · refine ⟨known, (Any.slices_Compact_int_empty YtokbiojkpldfeaaGreat.lays2_20 none 0 w).mono ?_⟩
    rintro e w' ⟨rfl, rfl⟩
    exact hK _ cells_slice _ ((e2 _ _).2 (by simpa [Lib.compact, Lib.compactUpTo] using H1))
  · have hm := H2.own_mem
    refine ⟨known, (Any.slices_Compact_int YtokbiojkpldfeaaGreat.lays2_20 c 0 cap zs w (holds_ints hm.2.1 hm.2.2) (by omega) h2).mono ?_⟩
    rintro e w' ⟨rfl, n, rfl⟩
    have hle := compact_le zs
    have H3 := H2.ahead n
    have hm3 := H3.own_mem.2.1
    rw [putRow_put _ hm3, putCells_ints (by simp; omega), List.flatMap_append, List.append_assoc]
    have H4 := H3.own_put (cs' := (Lib.compact zs).flatMap intE.enc ++ ((List.replicate (zs.length - (Lib.compact zs).length) (0 : Int)).flatMap intE.enc ++ rest))
    have H5 := H4.sl_mk (E := intE) (cap := cap) (by omega) (by
      rw [List.length_append, flat_length, h3, List.length_replicate]
      show (zs.length - (Lib.compact zs).length) * 1 + (cap - zs.length) * 1 = (cap - (Lib.compact zs).length) * 1
      omega)
    exact hK _ cells_slice _ ((e2 _ _).2 H5)

end
end Go.Proofs.YtokbiojkpldfeaaGreat.S
