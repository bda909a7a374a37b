/-
  WHAT A CALL LEAVES AS IT WAS: 'Step fp w w'': of the blocks that were there none but those of 'fp' has turned.
-/
import Derived.Test.YtoealglbimbbmaaGreatDoorSCode
import Derived.RowKit3
namespace Go.Proofs.YtoealglbimbbmaaGreatDoor.S
open Go

structure Step (fp : List Nat) (w w' : World) : Prop where
  os : w'.os = w.os
  tape : w'.tape = w.tape
  output : w'.output = w.output
  size : w.heap.size ≤ w'.heap.size
  block : ∀ k, k < w.heap.size → k ∉ fp → w'.heap[k]? = w.heap[k]?

theorem Step.refl (fp : List Nat) (w : World) : Step fp w w := ⟨rfl, rfl, rfl, Nat.le_refl _, fun _ _ _ => rfl⟩

theorem Step.trans {fp gp hp : List Nat} {a b c : World} (h : Step fp a b) (h' : Step gp b c) (hf : ∀ k ∈ fp, k ∈ hp ∨ a.heap.size ≤ k) (hg : ∀ k ∈ gp, k ∈ hp ∨ a.heap.size ≤ k) : Step hp a c :=
  ⟨h'.os.trans h.os, h'.tape.trans h.tape, h'.output.trans h.output, Nat.le_trans h.size h'.size, fun k hk hn => by
    have h1 : k ∉ fp := fun hm => (hf k hm).elim hn (fun hh => by omega)
    have h2 : k ∉ gp := fun hm => (hg k hm).elim hn (fun hh => by omega)
    exact (h'.block k (Nat.lt_of_lt_of_le hk h.size) h2).trans (h.block k hk h1)⟩

theorem Step.mono {fp gp : List Nat} {a b : World} (h : Step fp a b) (hf : ∀ k ∈ fp, k ∈ gp) : Step gp a b := ⟨h.os, h.tape, h.output, h.size, fun k hk hn => h.block k hk (fun hm => hn (hf k hm))⟩

theorem Step.alloc (w : World) (c : Array Value) (T : TypeId) (fp : List Nat) : Step fp w (w.alloc (.cells c T)) := ⟨rfl, rfl, rfl, by simp, fun k hk _ => by
  show (w.heap.push _)[k]? = _
  rw [Array.getElem?_push, if_neg (by omega)]⟩

theorem Step.drew (w : World) (fp : List Nat) : Step fp w w.drew := ⟨rfl, rfl, rfl, Nat.le_refl _, fun _ _ _ => rfl⟩

theorem Step.put (w : World) (b : Nat) (cs : List Value) : Step [b] w (put w b cs) := ⟨rfl, rfl, rfl, by simp, fun k hk hn => by
  simp only [S.put, Array.getElem?_modify]
  rw [if_neg (fun e => hn (by simp [e]))]⟩

theorem Step.mem {fp : List Nat} {w w' : World} (h : Step fp w w') {k : Nat} (hk : k < w.heap.size) (hn : k ∉ fp) : mem w' k = mem w k := by
  unfold S.mem; rw [h.block k hk hn]

theorem Step.mem_some {fp : List Nat} {w w' : World} (h : Step fp w w') {k : Nat} {cs : List Value} (hm : S.mem w k = some cs) (hn : k ∉ fp) : S.mem w' k = some cs := by
  rw [h.mem (mem_lt hm) hn]; exact hm

theorem opn_lt {w : World} {b : Nat} (h : opn w b = true) : b < w.heap.size := by
  unfold opn at h
  rcases Nat.lt_or_ge b w.heap.size with hb | hb
  · exact hb
  · simp [Array.getElem?_eq_none hb] at h

theorem Step.opn {fp : List Nat} {w w' : World} (h : Step fp w w') {k : Nat} (ho : S.opn w k = true) (hn : k ∉ fp) : S.opn w' k = true := by
  rw [← ho]; unfold S.opn; rw [h.block k (opn_lt ho) hn]

theorem Step.below {fp : List Nat} {w w' : World} (h : Step fp w w') {B : Nat} (hB : B ≤ w.heap.size) (hf : ∀ k ∈ fp, B ≤ k) : RowKit.Below B w w' :=
  ⟨h.os, h.tape, h.output, h.size, fun k hk => h.block k (Nat.lt_of_lt_of_le hk hB) (fun hm => by have := hf k hm; omega)⟩

theorem Step.kept {w w' : World} (h : Step [] w w') : w.keptBut w' (fun _ => False) :=
  ⟨h.os, h.output, fun i hi => by
    rw [h.block i hi (by simp)]
    cases w.heap[i]? with
    | none => simp
    | some o => cases o <;> simp⟩
theorem Step.frozen {w w' : World} (h : Step [] w w') {a : Addr} (ha : a.block < w.heap.size) : w'.frozen? a = w.frozen? a := by
  unfold World.frozen?
  rw [h.block _ ha (by simp)]

end Go.Proofs.YtoealglbimbbmaaGreatDoor.S
