import Derived.Test.YtoealglbimbbmaaGreatDoorBook
import Derived.Shelf.Lay
import Derived.Shelf.Sort.Plain
import Derived.Shelf.Slices.In.SortNone
import Derived.Shelf.Slices.CompactI
namespace Go.Proofs
open Go.Shelf
shelf_lay Lays.n189 Nm 189 at Tryz as YtoealglbimbbmaaGreatDoor.lays189
shelf_lay Lays2.n20 Nm2 20 at Tryz as YtoealglbimbbmaaGreatDoor.lays2_20
end Go.Proofs
namespace Go.Proofs.YtoealglbimbbmaaGreatDoor.S
open Go Go.Proofs Go.Sort
set_option linter.unusedVariables false
set_option linter.unusedSimpArgs false
section
variable {w0 : Base} {L M : List Asn} {K : KV} {C : Asn → List Asn} {w : World}
theorem St.ahead (H : St w0 L w) : ∀ n, St w0 L (Sort.ahead w n)
 | 0 => H
 | n + 1 => by rw [← ahead_drew]; exact (St.ahead H n).drew
theorem St.grow (H : St w0 L w) (os : Array Obj) : St w0 L (Sort.grow w os) := by
 obtain ⟨h, hs, hd⟩ := H
 have old : ∀ k, k < w.heap.size → (Sort.grow w os).heap[k]? = w.heap[k]? := fun k hk => heap_grow_old _ _ hk
 have hsz : w.heap.size ≤ (Sort.grow w os).heap.size := by simp [Sort.grow]
 refine ⟨h, hs, ⟨hd.step.os, hd.step.tape, hd.step.output, Nat.le_trans hd.step.size hsz, fun k hk hn => ?_⟩, fun b cs hb => ?_, fun b o hb => ?_, Nat.le_trans hd.min hsz⟩
 ·rw [old k (Nat.lt_of_lt_of_le hk hd.step.size)]; exact hd.step.block k hk hn
 ·obtain ⟨h1, h2, h3⟩ := hd.cell b cs hb
  have hb2 := old b (mem_lt h2)
  exact ⟨h1, by unfold mem at h2 ⊢; rw [hb2]; exact h2, by unfold opn at h3 ⊢; rw [hb2]; exact h3⟩
 ·obtain ⟨h1, h2⟩ := hd.kept b o hb
  exact ⟨by rw [old b (Array.getElem?_eq_some_iff.1 h1).1]; exact h1, h2⟩
theorem putRow_put {w : World} {b : Nat} {cs : List Value} (d : Array Int) (h : mem w b = some cs) : putRow (Value.int .i64) w b 0 d = put w b (putCells (Value.int .i64) 0 d cs.toArray).toList := by
 unfold putRow mapBlock put
 congr 1
 apply Array.ext_getElem?
 intro j
 simp only [Array.getElem?_modify]
 split
 ·rename_i e
  subst e
  unfold mem at h
  cases ho : w.heap[b]? with
  | none => rfl
  | some o =>
   rw [ho] at h
   cases o with
   | cells c T z =>
    simp only [Option.some.injEq] at h
    subst h
    simp [onCells]
   | _ => simp at h
 ·rfl
theorem putCells_ints {zs ts : List Int} {rest : List Value} (hl : ts.length = zs.length) : (putCells (Value.int .i64) 0 ts.toArray (zs.flatMap intE.enc ++ rest).toArray).toList = ts.flatMap intE.enc ++ rest := by
 have e : ∀ xs : List Int, xs.flatMap intE.enc = xs.map (Value.int .i64) := fun xs => by
  induction xs with
  | nil => rfl
  | cons x xs ih => simp [ih]
 rw [e, e]
 apply List.ext_getElem?
 intro j
 simp only [putCells, Array.getElem?_toList, Array.getElem?_mapIdx, List.getElem?_toArray, Nat.zero_le, true_and, Nat.zero_add, Nat.sub_zero, List.size_toArray]
 rcases Nat.lt_or_ge j ts.length with hj | hj
 ·rw [List.getElem?_append_left (by simpa using (by omega : j < zs.length)), List.getElem?_append_left (by simpa using hj)]
  simp [hj, show j < zs.length by omega]
 ·rw [List.getElem?_append_right (by simp; omega), List.getElem?_append_right (by simp; omega)]
  simp only [List.length_map, hl]
  cases rest[j - zs.length]? with
  | none => rfl
  | some x => simp; omega
theorem s_slices_Sort_int_int {v : Value} {zs : List Int} [i : SelSl L v intE zs C] (hl : zs.length ≤ 1000000) (hK : G w0 (C (sl intE v (zs.mergeSort fun x y => decide (x ≤ y)))) (K (.tuple #[]))) : G w0 L (CP Tryz.prog Fn.slices_Sort_int_int [v] K) := by
 have known : ∃ fn, Tryz.prog.funcs[Fn.slices_Sort_int_int]? = some fn ∧ fn.body.isNone = false ∧ (fn.name == "runtime.NumGoroutine") = false := ⟨_, Tryz.func204, by kernel_rfl, by kernel_rfl⟩
 obtain ⟨M, e1, e2⟩ := sl_front (w0 := w0) i.sel
 intro w H
 have H1 := (e1 w).1 H
 rcases H1.sl_cases with ⟨rfl, rfl, H2⟩ | ⟨c, cap, rest, rfl, h2, h3, H2⟩
 ·refine ⟨known, (Any.slices_Sort_int_none YtoealglbimbbmaaGreatDoor.lays189 none 0 w).mono ?_⟩
  rintro e w' ⟨rfl, rfl⟩
  exact hK _ ((e2 _ _).2 (by simpa using H1))
 ·have hm := H2.own_mem
  have hH : Go.Sort.Holds (Value.int .i64) w c 0 zs.toArray := fun j hj => by
   have hj' : j < zs.length := by simpa using hj
   refine ⟨?_, ?_⟩
   ·rw [cell_mem hm.2.1]
    have := flat_part intE rest zs j zs[j] (List.getElem?_eq_getElem hj')
    have h0 : (((zs.flatMap intE.enc ++ rest).drop (j * 1)).take 1)[0]? = some (i64 zs[j]) := by rw [show (List.drop (j * 1) (zs.flatMap intE.enc ++ rest)).take 1 = [i64 zs[j]] from this]; rfl
    rw [List.getElem?_take] at h0
    simpa [hj'] using h0
   ·have ho := hm.2.2
    unfold opn at ho
    unfold World.frozen?
    split at ho
    ·rename_i cc T z hz
     simp [hz] at ho ⊢
     simp [ho]
    ·cases ho
  refine ⟨known, (Any.slices_Sort_int YtoealglbimbbmaaGreatDoor.lays189 c 0 cap zs w hH (mem_lt hm.2.1) (by omega)).mono ?_⟩
  rintro e w' ⟨rfl, n, os, rfl⟩
  have hts : (zs.mergeSort fun x y => decide (x ≤ y)).length = zs.length := List.length_mergeSort _
  have H3 := H2.ahead n
  have hm3 := H3.own_mem.2.1
  rw [putRow_put _ hm3, putCells_ints hts]
  have H4 := (H3.own_put (cs' := (zs.mergeSort fun x y => decide (x ≤ y)).flatMap intE.enc ++ rest)).grow os
  have H5 := H4.sl_mk (E := intE) (cap := cap) (by omega) (by rw [hts]; exact h3)
  rw [hts] at H5
  exact hK _ ((e2 _ _).2 H5)
theorem holds_ints {c : Nat} {zs : List Int} {rest : List Value} (hm : mem w c = some (zs.flatMap intE.enc ++ rest)) (ho : opn w c = true) : Go.Sort.Holds (Value.int .i64) w c 0 zs.toArray := fun j hj => by
 have hj' : j < zs.length := by simpa using hj
 refine ⟨?_, ?_⟩
 ·rw [cell_mem hm]
  have := flat_part intE rest zs j zs[j] (List.getElem?_eq_getElem hj')
  have h0 : (((zs.flatMap intE.enc ++ rest).drop (j * 1)).take 1)[0]? = some (i64 zs[j]) := by rw [show (List.drop (j * 1) (zs.flatMap intE.enc ++ rest)).take 1 = [i64 zs[j]] from this]; rfl
  rw [List.getElem?_take] at h0
  simpa [hj'] using h0
 ·unfold opn at ho
  unfold World.frozen?
  split at ho
  ·rename_i cc T z hz
   simp [hz] at ho ⊢
   simp [ho]
  ·cases ho
theorem compact_le (zs : List Int) : (Lib.compact zs).length ≤ zs.length := by
 unfold Lib.compact Lib.compactUpTo
 rw [List.length_map]
 exact Nat.le_trans (List.length_filter_le _ _) (by simp)
theorem s_slices_Compact_int_int {v : Value} {zs : List Int} [i : SelSl L v intE zs C] (hl : zs.length ≤ 1000000) (hK : ∀ u, Cells u [u] → G w0 (C (sl intE u (Lib.compact zs))) (K u)) : G w0 L (CP Tryz.prog Fn.slices_Compact_int_int [v] K) := by
 have known : ∃ fn, Tryz.prog.funcs[Fn.slices_Compact_int_int]? = some fn ∧ fn.body.isNone = false ∧ (fn.name == "runtime.NumGoroutine") = false := ⟨_, Tryz.func205, by kernel_rfl, by kernel_rfl⟩
 obtain ⟨M, e1, e2⟩ := sl_front (w0 := w0) i.sel
 intro w H
 have H1 := (e1 w).1 H
 rcases H1.sl_cases with ⟨rfl, rfl, H2⟩ | ⟨c, cap, rest, rfl, h2, h3, H2⟩
 ·refine ⟨known, (Any.slices_Compact_int_empty YtoealglbimbbmaaGreatDoor.lays2_20 none 0 w).mono ?_⟩
  rintro e w' ⟨rfl, rfl⟩
  exact hK _ cells_slice _ ((e2 _ _).2 (by simpa [Lib.compact, Lib.compactUpTo] using H1))
 ·have hm := H2.own_mem
  refine ⟨known, (Any.slices_Compact_int YtoealglbimbbmaaGreatDoor.lays2_20 c 0 cap zs w (holds_ints hm.2.1 hm.2.2) (by omega) h2).mono ?_⟩
  rintro e w' ⟨rfl, n, rfl⟩
  have hle := compact_le zs
  have H3 := H2.ahead n
  have hm3 := H3.own_mem.2.1
  rw [putRow_put _ hm3, putCells_ints (by simp; omega), List.flatMap_append, List.append_assoc]
  have H4 := H3.own_put (cs' := (Lib.compact zs).flatMap intE.enc ++ ((List.replicate (zs.length - (Lib.compact zs).length) (0 : Int)).flatMap intE.enc ++ rest))
  have H5 := H4.sl_mk (E := intE) (cap := cap) (by omega) (by
   rw [List.length_append, flat_length, h3, List.length_replicate]
   show (zs.length - (Lib.compact zs).length) * 1 + (cap - zs.length) * 1 = (cap - (Lib.compact zs).length) * 1
   omega)
  exact hK _ cells_slice _ ((e2 _ _).2 H5)
end
end Go.Proofs.YtoealglbimbbmaaGreatDoor.S
