/-
  THE MEMORY AS LISTS: what a block holds ('mem'), whether it may be written ('opn'), a block's new contents ('put'); what the model's loads, stores and new blocks come to in these words.
-/
import Derived.Calls
import Derived.Tactics
import Derived.Orders
import Derived.Below
namespace Go.Proofs.Ytokbiojkpldfeaa.S
open Go

/-! lists with numerals as places, by structural recursion (the kernel reckons with them) -/
abbrev nth {α : Type} : List α → Nat → Option α
  | [], _ => none
  | a :: _, 0 => some a
  | _ :: l, n + 1 => nth l n

abbrev upd {α : Type} : List α → Nat → α → List α
  | [], _, _ => []
  | _ :: l, 0, x => x :: l
  | a :: l, n + 1, x => a :: upd l n x

theorem nth_eq {α : Type} : ∀ (l : List α) (n : Nat), nth l n = l[n]?
  | [], n => by simp [nth]
  | a :: l, 0 => by simp [nth]
  | a :: l, n + 1 => by simp [nth, nth_eq l n]

theorem upd_eq {α : Type} : ∀ (l : List α) (n : Nat) (x : α), upd l n x = l.set n x
  | [], n, x => by simp [upd]
  | a :: l, 0, x => by simp [upd]
  | a :: l, n + 1, x => by simp [upd, upd_eq l n x]

/-- the cells from o on are these -/
def seg {α : Type} : List α → Nat → List α → List α
  | cs, _, [] => cs
  | cs, o, v :: vs => seg (cs.set o v) (o + 1) vs

@[simp] theorem length_seg {α : Type} : ∀ (vs cs : List α) (o : Nat), (seg cs o vs).length = cs.length
  | [], cs, o => rfl
  | v :: vs, cs, o => by simp [seg, length_seg vs]

theorem seg_eq {α : Type} : ∀ (vs cs : List α) (o : Nat), o + vs.length ≤ cs.length → seg cs o vs = cs.take o ++ vs ++ cs.drop (o + vs.length)
  | [], cs, o, _ => by simp [seg]
  | v :: vs, cs, o, h => by
    simp only [List.length_cons] at h
    have h1 : (cs.set o v).take (o + 1) = cs.take o ++ [v] := by
      rw [List.take_add_one, List.take_set_of_le (Nat.le_refl o)]
      simp [show o < cs.length by omega]
    have h2 : (cs.set o v).drop (o + 1 + vs.length) = cs.drop (o + 1 + vs.length) := List.drop_set_of_lt (by omega)
    rw [seg, seg_eq vs (cs.set o v) (o + 1) (by simp; omega), h1, h2, List.length_cons, show o + (vs.length + 1) = o + 1 + vs.length by omega]
    simp

/-- one cell's value -/
def one : Value → Bool
  | .agg _ | .tuple _ => false
  | _ => true

/-- what block b holds -/
def mem (w : World) (b : Nat) : Option (List Value) :=
  match w.heap[b]? with
  | some (.cells c _ _) => some c.toList
  | _ => none

/-- block b may be written -/
def opn (w : World) (b : Nat) : Bool :=
  match w.heap[b]? with
  | some (.cells _ _ z) => z.1 == 0 && z.2 == 0
  | _ => false

/-- block b's cells are these -/
def put (w : World) (b : Nat) (cs : List Value) : World :=
  { w with heap := w.heap.modify b fun
      | .cells _ T z => .cells cs.toArray T z
      | o => o }

theorem cell_eq (w : World) (b i : Nat) : w.cell? ⟨b, i, none⟩ = (mem w b).bind (·[i]?) := by
  unfold World.cell? mem
  split <;> simp_all

theorem cell_mem {w : World} {b i : Nat} {cs : List Value} (h : mem w b = some cs) : w.cell? ⟨b, i, none⟩ = cs[i]? := by
  rw [cell_eq, h]; rfl

theorem frozen_opn {w : World} {b i : Nat} (h : opn w b = true) : w.frozen? ⟨b, i, none⟩ = false := by
  unfold opn at h
  unfold World.frozen?
  split <;> rename_i hb <;> simp [hb] at h ⊢
  intro _; omega

theorem mem_lt {w : World} {b : Nat} {cs : List Value} (h : mem w b = some cs) : b < w.heap.size := by
  unfold mem at h
  rcases Nat.lt_or_ge b w.heap.size with hb | hb
  · exact hb
  · simp [Array.getElem?_eq_none hb] at h

theorem setCell_put {w : World} {b i : Nat} {cs : List Value} (v : Value) (h : mem w b = some cs) : w.setCell ⟨b, i, none⟩ v = put w b (cs.set i v) := by
  unfold World.setCell put
  congr 1
  apply Array.ext_getElem?
  intro j
  simp only [Array.getElem?_modify]
  split
  · rename_i hj; subst hj
    unfold mem at h
    cases hb : w.heap[b]? with
    | none => simp
    | some o =>
      rw [hb] at h
      cases o with
      | cells c T z => simp at h; subst h; simp; apply Array.toList_inj.1; simp
      | _ => simp at h
  · rfl

@[simp] theorem size_put (w : World) (b : Nat) (cs : List Value) : (put w b cs).heap.size = w.heap.size := by simp [put]

theorem mem_put (w : World) (b b' : Nat) (cs : List Value) : mem (put w b cs) b' = if b' = b then (mem w b).map (fun _ => cs) else mem w b' := by
  unfold mem put
  simp only [Array.getElem?_modify]
  by_cases h : b = b'
  · subst h
    simp only [if_true]
    cases w.heap[b]? with
    | none => simp
    | some o => cases o <;> simp
  · rw [if_neg h, if_neg (fun e => h e.symm)]

theorem opn_put (w : World) (b b' : Nat) (cs : List Value) : opn (put w b cs) b' = opn w b' := by
  unfold opn put
  simp only [Array.getElem?_modify]
  by_cases h : b = b'
  · subst h
    cases w.heap[b]? with
    | none => simp
    | some o => cases o <;> simp
  · rw [if_neg h]

theorem put_same {w : World} {b : Nat} {cs : List Value} (h : mem w b = some cs) : put w b cs = w := by
  cases w; unfold put mem at *
  simp only [World.mk.injEq, and_true] at *
  apply Array.ext_getElem?
  intro j
  simp only [Array.getElem?_modify]
  split
  · rename_i hj; subst hj
    rename_i heap _ _ _ _
    cases hb : heap[b]? with
    | none => rfl
    | some o =>
      simp only [hb] at h
      cases o <;> simp at h ⊢
      subst h; simp
  · rfl

theorem put_put (w : World) (b : Nat) (cs ds : List Value) : put (put w b cs) b ds = put w b ds := by
  unfold put
  congr 1
  apply Array.ext_getElem?
  intro j
  simp only [Array.getElem?_modify]
  split
  · cases w.heap[j]? with
    | none => rfl
    | some o => cases o <;> rfl
  · rfl

theorem mem_alloc (w : World) (c : Array Value) (T : TypeId) (z : Nat × Nat) (b : Nat) : mem (w.alloc (.cells c T z)) b = if b = w.heap.size then some c.toList else mem w b := by
  unfold mem
  show (match (w.heap.push _)[b]? with | some (.cells c _ _) => some c.toList | _ => none) = _
  rw [Array.getElem?_push]
  by_cases hb : b = w.heap.size
  · rw [if_pos hb, if_pos hb]
  · rw [if_neg hb, if_neg hb]

theorem opn_alloc (w : World) (c : Array Value) (T : TypeId) (b : Nat) : opn (w.alloc (.cells c T)) b = if b = w.heap.size then true else opn w b := by
  unfold opn
  show (match (w.heap.push _)[b]? with | some (.cells _ _ z) => z.1 == 0 && z.2 == 0 | _ => false) = _
  rw [Array.getElem?_push]
  by_cases hb : b = w.heap.size
  · rw [if_pos hb, if_pos hb]; rfl
  · rw [if_neg hb, if_neg hb]

@[simp] theorem size_alloc (w : World) (o : Obj) : (w.alloc o).heap.size = w.heap.size + 1 := by
  show (w.heap.push o).size = _
  simp

@[simp] theorem mem_drew (w : World) (b : Nat) : mem w.drew b = mem w b := rfl
@[simp] theorem opn_drew (w : World) (b : Nat) : opn w.drew b = opn w b := rfl
@[simp] theorem size_drew (w : World) : w.drew.heap.size = w.heap.size := rfl

/-! ### the model's runs in these words -/
section
variable {P : Program}

theorem run_load1 {w : World} {b i : Nat} {cs : List Value} {v : Value} (h : mem w b = some cs) (hi : cs[i]? = some v) : (load ⟨b, i, none⟩).run P w = .ok v w := by
  simp [run_load, cell_mem h, hi]

theorem add_none (b i n : Nat) : (⟨b, i, none⟩ : Addr).add n = ⟨b, i + n, none⟩ := by
  unfold Addr.add
  split <;> simp_all

theorem run_loadCellsFrom {w : World} {b : Nat} {cs : List Value} (h : mem w b = some cs) : ∀ (n o i : Nat) (acc : Array Value), o + i + n ≤ cs.length →
    (loadCellsFrom ⟨b, o, none⟩ i n acc).run P w = .ok (acc ++ ((cs.drop (o + i)).take n).toArray) w
  | 0, o, i, acc, _ => by simp [loadCellsFrom]
  | n + 1, o, i, acc, hn => by
    have hi : cs[o + i]? = some cs[o + i] := List.getElem?_eq_getElem (by omega)
    simp only [loadCellsFrom, Sem.run_bind, add_none, run_load1 h hi, Result.andThen_ok]
    rw [run_loadCellsFrom h n o (i + 1) _ (by omega)]
    congr 1
    rw [show o + (i + 1) = o + i + 1 by omega]
    apply Array.toList_inj.1
    simp only [Array.toList_append, Array.toList_push, List.append_assoc]
    congr 1
    rw [List.drop_eq_getElem_cons (by omega : o + i < cs.length), List.take_succ_cons]
    simp

theorem run_loadCells {w : World} {b o n : Nat} {cs : List Value} (h : mem w b = some cs) (hn : o + n ≤ cs.length) :
    (loadCells ⟨b, o, none⟩ n).run P w = .ok ((cs.drop o).take n).toArray w := by
  unfold loadCells
  rw [run_loadCellsFrom h n o 0 #[] (by omega)]
  simp

theorem run_store1 {w : World} {b i : Nat} {cs : List Value} {v : Value} (h : mem w b = some cs) (ho : opn w b = true) (hv : one v = true) (hi : i < cs.length) :
    (store ⟨b, i, none⟩ v).run P w = .ok () (put w b (cs.set i v)) := by
  have hc : w.cell? ⟨b, i, none⟩ = some cs[i] := by rw [cell_mem h]; exact List.getElem?_eq_getElem hi
  have hf := frozen_opn (i := i) ho
  cases v <;> simp [one] at hv <;> simp [store, Sem.run, hc, hf, setCell_put _ h]

theorem run_storeCells {b : Nat} : ∀ (vs cs : List Value) (w : World) (o i : Nat), mem w b = some cs → opn w b = true → (∀ v ∈ vs, one v = true) → o + i + vs.length ≤ cs.length →
    (storeCells ⟨b, o, none⟩ vs i).run P w = .ok () (put w b (seg cs (o + i) vs))
  | [], cs, w, o, i, h, _, _, _ => by simp [storeCells, seg, put_same h]
  | v :: vs, cs, w, o, i, h, ho, hv, hn => by
    simp only [List.length_cons] at hn
    simp only [storeCells, Sem.run_bind, add_none]
    rw [run_store1 h ho (hv v (by simp)) (by omega)]
    simp only [Result.andThen_ok]
    rw [run_storeCells vs (cs.set (o + i) v) _ o (i + 1) (by simp [mem_put, h]) (by rw [opn_put]; exact ho) (fun u hu => hv u (by simp [hu])) (by simp; omega), put_put]
    rfl

theorem run_underlying {t : TypeId} {d : TypeDesc} (w : World) (h : P.underlying t = some d) : (underlying t).run P w = .ok d w := by
  simp [underlying, program, Sem.run, h]

theorem run_typeInfo {t : TypeId} {i : TypeInfo} (w : World) (h : P.info? t = some i) : (typeInfo t).run P w = .ok i w := by
  simp [typeInfo, program, Sem.run, h]

theorem run_sizeOf {t : TypeId} {i : TypeInfo} (w : World) (h : P.info? t = some i) : (sizeOf t).run P w = .ok i.size w := by
  simp [sizeOf, run_typeInfo w h]

theorem run_zeroValue {t : TypeId} {i : TypeInfo} {z : Value} (w : World) (h : P.info? t = some i) (hz : i.zero = some z) : (zeroValue t).run P w = .ok z w := by
  simp [zeroValue, run_typeInfo w h, hz]

abbrev isAggD : TypeDesc → Bool
  | .struct _ | .array _ _ => true
  | _ => false

theorem run_isAgg {t : TypeId} {d : TypeDesc} (w : World) (h : P.underlying t = some d) : (isAgg t).run P w = .ok (isAggD d) w := by
  simp only [isAgg, Sem.run_bind, run_underlying w h, Result.andThen_ok]
  cases d <;> rfl

theorem run_newRow (w : World) (e : TypeId) (c : Array Value) : (newRow e c).run P w = .ok ⟨w.heap.size, 0, none⟩ (w.alloc (.cells c e)) := by
  simp only [newRow, Sem.run_bind]
  rfl
end

end Go.Proofs.Ytokbiojkpldfeaa.S
