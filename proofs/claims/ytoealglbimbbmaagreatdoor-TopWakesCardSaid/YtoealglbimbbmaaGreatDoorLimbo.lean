import Derived.Test.YtoealglbimbbmaaGreatDoorBook
namespace Go.Proofs.YtoealglbimbbmaaGreatDoor.S
open Go Go.Proofs
set_option linter.unusedVariables false
set_option linter.unusedSimpArgs false
def inHeap (n : Int) (xs : List Int) : Bool := decide (1 ≤ n) && decide (n < xs.length)
theorem inHeap_elim {n : Int} {xs : List Int} (h : inHeap n xs = true) : ∃ k : Nat, n = k ∧ 1 ≤ k ∧ k < xs.length := by
 simp [inHeap] at h
 exact ⟨n.toNat, by omega, by omega, by omega⟩
section
variable {w0 : Base} {L M : List Asn} {K : KV} {F : World → Prop} {C : Asn → List Asn} {b : Nat} {xs : List Int}
theorem s_heap_New {n : Int} (hK : ∀ b, G w0 (ob WordsR b (List.replicate (held n 32 256).toNat 0) :: L) (K (ptr b 0))) : G w0 L (CP Tryz.prog Fn.heap_New [i64 n] K) := by
 refine C_heap_New ?_
 unfold S_heap_New
 refine gr ?_
 have e3 : (if (if (256 : Int) < n then (256 : Int) else n) > 32 then (if (256 : Int) < n then (256 : Int) else n) else 32) = ((held n 32 256).toNat : Int) := by
  unfold held; split <;> split <;> split <;> (try split) <;> omega
 have hb := held_le (n := n) (show (32 : Int) ≤ 256 by omega)
 rw [e3]
 refine G.make wordE 0 rfl (by simp only [maxLen]; omega) (by omega) fun v hv => ?_
 refine gr ?_
 refine G.box fun b => ?_
 have := hK b
 rw [WordsR_open] at this
 exact this v hv
theorem s_heap_Heap_All [i : SelOb L WordsR b xs C] (hl : xs.length ≤ 1000000) (hK : ∀ u, Cells u [u] → G w0 (sl wordE u xs :: L) (K u)) : G w0 L (CP Tryz.prog Fn.heap_Heap_All [ptr b 0] K) := by
 refine i.roN (fun M hK => ?_) hK
 rw [WordsR_open]
 intro v hv
 refine C_heap_Heap_All ?_
 unfold S_heap_Heap_All
 refine gr ?_
 refine s_slices_Clone_uint64_uint64 hl fun u hu => ?_
 have := hK u hu
 rw [G_swap, WordsR_open] at this
 exact G.sub (this v hv)
theorem s_heap_Heap_is {n : Int} [i : SelOb L WordsR b xs C] (hK : G w0 L (K (.bool (inHeap n xs)))) : G w0 L (CP Tryz.prog Fn.heap_Heap_is [ptr b 0, i64 n] K) := by
 refine i.ro (fun M hK => ?_) hK
 rw [WordsR_open] at *
 intro v hv
 refine C_heap_Heap_is ?_
 unfold S_heap_Heap_is
 try simp (maxSteps := 2000000) only [fuse_and, fuse_or, fuse_step, fuse_pair, fuse_in, andP_true]
 refine gr ?_
 refine G.all (decide (n < xs.length)) (fun _ K hK => by refine gr ?_; exact hK) ?_
 exact hK v hv
theorem s_heap_Heap_Load {n : Int} [i : SelOb L WordsR b xs C] (h1 : ∀ k : Nat, n = k → 1 ≤ k → k < xs.length → G w0 L (K (.tuple #[u64 (xs.getD k 0), i64 0]))) (h0 : inHeap n xs = false → G w0 L (K (.tuple #[u64 0, i64 2]))) :
  G w0 L (CP Tryz.prog Fn.heap_Heap_Load [ptr b 0, i64 n] K) := by
 refine C_heap_Heap_Load ?_
 unfold S_heap_Heap_Load
 refine s_heap_Heap_is ?_
 refine gr ?_
 refine G.cond (fun h => ?_) (fun h => ?_)
 ·exact h0 (by simpa using h)
 ·obtain ⟨k, rfl, hk1, hk⟩ := inHeap_elim (by simpa using h)
  refine i.ro (fun M hK => ?_) (h1 k rfl hk1 hk)
  rw [WordsR_open] at *
  intro v hv
  have e := elem_of hk
  refine gr ?_
  have := hK v hv
  simpa [hk] using this
theorem s_heap_Heap_Store {n x : Int} [i : SelOb L WordsR b xs C] (h1 : ∀ k : Nat, n = k → 1 ≤ k → k < xs.length → G w0 (C (ob WordsR b (xs.set k x))) (K (i64 0))) (h0 : inHeap n xs = false → G w0 L (K (i64 2))) :
  G w0 L (CP Tryz.prog Fn.heap_Heap_Store [ptr b 0, i64 n, u64 x] K) := by
 refine C_heap_Heap_Store ?_
 unfold S_heap_Heap_Store
 refine s_heap_Heap_is ?_
 refine gr ?_
 refine G.cond (fun h => ?_) (fun h => ?_)
 ·exact h0 (by simpa using h)
 ·obtain ⟨k, rfl, hk1, hk⟩ := inHeap_elim (by simpa using h)
  refine i.use (fun M hK => ?_) (h1 k rfl hk1 hk)
  rw [WordsR_open] at *
  intro v hv
  have e := elem_of hk
  refine gr ?_
  exact hK v hv
end
end Go.Proofs.YtoealglbimbbmaaGreatDoor.S
namespace Go.Proofs.YtoealglbimbbmaaGreatDoor.S
open Go Go.Proofs
set_option linter.unusedVariables false
set_option linter.unusedSimpArgs false
def passed (xs : List Int) (t : Int) : Bool := xs.all fun v => !(!decide (v = 0) && decide (v ≤ t))
def leastOf : List Int → Int → Int
 | [], m => m
 | v :: xs, m => leastOf xs (if v ≠ 0 ∧ (m = 0 ∨ v < m) then v else m)
section
variable {w0 : Base} {L M : List Asn} {K : KV} {F : World → Prop} {C : Asn → List Asn} {b : Nat} {xs : List Int}
theorem s_epoch_New {n : Int} (hK : ∀ b, G w0 (ob WordsR b (List.replicate (held n 1 4).toNat 0) :: L) (K (ptr b 0))) : G w0 L (CP Tryz.prog Fn.epoch_New [i64 n] K) := by
 refine C_epoch_New ?_
 unfold S_epoch_New
 refine gr ?_
 have e3 : (if (if (4 : Int) < n then (4 : Int) else n) > 1 then (if (4 : Int) < n then (4 : Int) else n) else 1) = ((held n 1 4).toNat : Int) := by
  unfold held; split <;> split <;> split <;> (try split) <;> omega
 have hb := held_le (n := n) (show (1 : Int) ≤ 4 by omega)
 rw [e3]
 refine G.make wordE 0 rfl (by simp only [maxLen]; omega) (by omega) fun v hv => ?_
 refine gr ?_
 refine G.box fun b => ?_
 have := hK b
 rw [WordsR_open] at this
 exact this v hv
theorem s_epoch_Slots_is {n : Int} [i : SelOb L WordsR b xs C] (hK : G w0 L (K (.bool (decide (0 ≤ n) && decide (n < xs.length))))) : G w0 L (CP Tryz.prog Fn.epoch_Slots_is [ptr b 0, i64 n] K) := by
 refine i.ro (fun M hK => ?_) hK
 rw [WordsR_open] at *
 intro v hv
 refine C_epoch_Slots_is ?_
 unfold S_epoch_Slots_is
 try simp (maxSteps := 2000000) only [fuse_and, fuse_or, fuse_step, fuse_pair, fuse_in, andP_true]
 refine gr ?_
 refine G.all (decide (n < xs.length)) (fun _ K hK => by refine gr ?_; exact hK) ?_
 exact hK v hv
def inRow (n : Int) (xs : List Int) : Bool := decide (0 ≤ n) && decide (n < xs.length)
theorem inRow_elim {n : Int} {xs : List Int} (h : inRow n xs = true) : ∃ k : Nat, n = k ∧ k < xs.length := by
 simp [inRow] at h
 exact ⟨n.toNat, by omega, by omega⟩
theorem s_epoch_Slots_Load {n : Int} [i : SelOb L WordsR b xs C] (h1 : ∀ k : Nat, n = k → k < xs.length → G w0 L (K (.tuple #[u64 (xs.getD k 0), i64 0]))) (h0 : inRow n xs = false → G w0 L (K (.tuple #[u64 0, i64 2]))) :
  G w0 L (CP Tryz.prog Fn.epoch_Slots_Load [ptr b 0, i64 n] K) := by
 refine C_epoch_Slots_Load ?_
 unfold S_epoch_Slots_Load
 refine s_epoch_Slots_is ?_
 refine gr ?_
 refine G.cond (fun h => ?_) (fun h => ?_)
 ·exact h0 (by simpa [inRow, Decidable.imp_iff_not_or] using h)
 ·obtain ⟨k, rfl, hk⟩ := inRow_elim (by simpa [inRow] using h)
  refine i.ro (fun M hK => ?_) (h1 k rfl hk)
  rw [WordsR_open] at *
  intro v hv
  have e := elem_of hk
  refine gr ?_
  have := hK v hv
  simpa [hk] using this
theorem s_epoch_Slots_Store {n x : Int} [i : SelOb L WordsR b xs C] (h1 : ∀ k : Nat, n = k → k < xs.length → G w0 (C (ob WordsR b (xs.set k x))) (K (i64 0))) (h0 : inRow n xs = false → G w0 L (K (i64 2))) :
  G w0 L (CP Tryz.prog Fn.epoch_Slots_Store [ptr b 0, i64 n, u64 x] K) := by
 refine C_epoch_Slots_Store ?_
 unfold S_epoch_Slots_Store
 refine s_epoch_Slots_is ?_
 refine gr ?_
 refine G.cond (fun h => ?_) (fun h => ?_)
 ·exact h0 (by simpa [inRow, Decidable.imp_iff_not_or] using h)
 ·obtain ⟨k, rfl, hk⟩ := inRow_elim (by simpa [inRow] using h)
  refine i.use (fun M hK => ?_) (h1 k rfl hk)
  rw [WordsR_open] at *
  intro v hv
  have e := elem_of hk
  refine gr ?_
  exact hK v hv
end
end Go.Proofs.YtoealglbimbbmaaGreatDoor.S
namespace Go.Proofs.YtoealglbimbbmaaGreatDoor.S
open Go Go.Proofs
set_option linter.unusedVariables false
set_option linter.unusedSimpArgs false
section
variable {w0 : Base} {L M : List Asn} {K : KV} {F : World → Prop} {C : Asn → List Asn} {b : Nat} {xs : List TRest}
theorem s_limbo_New (hK : ∀ b, G w0 (ob (BoxR tRestE) b [] :: L) (K (ptr b 0))) : G w0 L (CP Tryz.prog Fn.limbo_New [] K) := by
 refine C_limbo_New ?_
 unfold S_limbo_New
 refine gr ?_
 refine G.nilsl tRestE ?_
 refine G.box fun b => ?_
 have := hK b
 rw [BoxR_open] at this
 exact this _ cells_slice
theorem s_limbo_Limbo_Len [i : SelOb L (BoxR tRestE) b xs C] (hK : G w0 L (K (i64 xs.length))) : G w0 L (CP Tryz.prog Fn.limbo_Limbo_Len [ptr b 0] K) := by
 refine i.ro (fun M hK => ?_) hK
 rw [BoxR_open] at *
 intro v hv
 refine C_limbo_Limbo_Len ?_
 unfold S_limbo_Limbo_Len
 refine gr ?_
 exact hK v hv
theorem s_limbo_Limbo_Add {v : Value} {bs : List Int} {t : Int} [i : SelOb L (BoxR tRestE) b xs C] [r : ∀ A, Rd w0 (C A) v intE 1 bs] (hl : xs.length + bs.length ≤ 1000000)
  (hK : G w0 (C (ob (BoxR tRestE) b (xs ++ bs.map fun n => ⟨n, t⟩))) (K (.tuple #[]))) : G w0 L (CP Tryz.prog Fn.limbo_Limbo_Add [ptr b 0, u64 t, v] K) := by
 refine i.useM (fun M hM hK => ?_) hK
 have r' := Rd.frame hM r
 refine C_limbo_Limbo_Add ?_
 unfold S_limbo_Limbo_Add
 refine gr ?_
 refine G.loop1 (fun k : Nat => i64 k) (fun k => ob (BoxR tRestE) b (xs ++ (bs.take k).map fun n => ⟨n, t⟩) :: M) (fun k => k ≤ bs.length) (fun k => bs.length - k) 0 rfl (by simp) (by simp) ?_
 intro k hk J hJ
 refine gr ?_
 refine G.cond (fun h => ?_) (fun h => ?_)
 ·have hk2 : k < bs.length := by simpa using h
  have e := elem_of hk2
  rw [BoxR_open]
  intro u hu
  refine gr ?_
  refine G.append1 rfl rfl (by decide) (by simp; omega) (by simp [maxLen]; omega) fun u2 hu2 => ?_
  refine gr ?_
  rw [wsucc (by omega)]
  have := hJ (k + 1) hk2 (by omega)
  rw [BoxR_open] at this
  have hx : xs ++ (bs.take (k + 1)).map (fun n => (⟨n, t⟩ : TRest)) = xs ++ (bs.take k).map (fun n => (⟨n, t⟩ : TRest)) ++ [⟨bs[k], t⟩] := by
   rw [List.take_add_one, List.getElem?_eq_getElem hk2, List.map_append, ← List.append_assoc]; rfl
  rw [hx] at this
  exact this u2 hu2
 ·have : bs.take k = bs := List.take_of_length_le (by simpa using h)
  rw [this]
  exact hK
end
end Go.Proofs.YtoealglbimbbmaaGreatDoor.S
