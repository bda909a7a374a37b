/-
  CHAPTER 2: contracts of package heap.
-/
import Derived.Test.YtpabihjmjkodbaaSLink
import Derived.Test.YtpabihjmjkodbaaStand
namespace Go.Proofs.Ytpabihjmjkodbaa.S
open Go Go.Proofs
set_option linter.unusedVariables false
set_option linter.unusedSimpArgs false

/-- v is a slice of so many words, in block c -/
def WordsAt (w : World) (v : Value) (c : Nat) (xs : List Int) : Prop :=
  ∃ cap rest, v = .slice (some ⟨c, 0, none⟩) xs.length cap ∧ mem w c = some (xs.map u64 ++ rest) ∧ opn w c = true

def HeapAt (w : World) (b c : Nat) (xs : List Int) : Prop := ∃ v, mem w b = some [v] ∧ WordsAt w v c xs ∧ b ≠ c

theorem WordsAt.step {fp : List Nat} {w w' : World} {v : Value} {c : Nat} {xs : List Int} (h : WordsAt w v c xs) (s : Step fp w w') (hn : c ∉ fp) : WordsAt w' v c xs := by
  obtain ⟨cap, rest, h1, h2, h3⟩ := h
  exact ⟨cap, rest, h1, s.mem_some h2 hn, s.opn h3 hn⟩

theorem HeapAt.step {fp : List Nat} {w w' : World} {b c : Nat} {xs : List Int} (h : HeapAt w b c xs) (s : Step fp w w') (hb : b ∉ fp) (hc : c ∉ fp) : HeapAt w' b c xs := by
  obtain ⟨v, h1, h2, h3⟩ := h
  exact ⟨v, s.mem_some h1 hb, h2.step s hc, h3⟩

theorem WordsAt.lt {w : World} {v : Value} {c : Nat} {xs : List Int} (h : WordsAt w v c xs) : c < w.heap.size := by
  obtain ⟨cap, rest, h1, h2, h3⟩ := h
  exact mem_lt h2

theorem HeapAt.lt {w : World} {b c : Nat} {xs : List Int} (h : HeapAt w b c xs) : b < w.heap.size ∧ c < w.heap.size := by
  obtain ⟨v, h1, h2, h3⟩ := h
  exact ⟨mem_lt h1, h2.lt⟩

theorem words_len {w : World} {v : Value} {c : Nat} {xs : List Int} (h : WordsAt w v c xs) {K : KV} (u : World) : lenW v K u = K (i64 xs.length) u := by
  obtain ⟨cap, rest, h1, h2, h3⟩ := h
  subst h1; rfl

theorem words_idx {w : World} {v : Value} {c : Nat} {xs : List Int} (h : WordsAt w v c xs) {K : KV} (u : World) (i : Nat) (hi : i < xs.length) : idxW 1 v (i64 i) K u = K (ptr c i) u := by
  obtain ⟨cap, rest, h1, h2, h3⟩ := h
  subst h1
  simp [idxW, hi]

theorem words_load {w : World} {v : Value} {c : Nat} {xs : List Int} (h : WordsAt w v c xs) {K : KV} (i : Nat) (hi : i < xs.length) : load1W (ptr c i) K w = K (u64 (xs.getD i 0)) w := by
  obtain ⟨cap, rest, h1, h2, h3⟩ := h
  exact loadAt h2 (by rw [List.getElem?_append_left (by simpa using hi)]; simp [hi])

theorem words_store {w : World} {v : Value} {c : Nat} {xs : List Int} (h : WordsAt w v c xs) (i : Nat) (hi : i < xs.length) (x : Int) {K : KV}
    (hK : ∀ w', Step [c] w w' → WordsAt w' v c (xs.set i x) → K undef w') : storeW 1 (ptr c i) (u64 x) K w := by
  obtain ⟨cap, rest, h1, h2, h3⟩ := h
  have := hK (put w c (seg (xs.map u64 ++ rest) i [u64 x])) (Step.put _ _ _) ⟨cap, rest, by simpa using h1, by
    rw [mem_put]; simp [h2, seg, hi], by rw [opn_put]; exact h3⟩
  simp only [storeW, h2]
  refine ⟨rfl, by simp [Value.cells, one], h3, by simp; omega, ?_⟩
  simpa [Value.cells] using this

theorem is_spec {w : World} {b c : Nat} {xs : List Int} (h : HeapAt w b c xs) (at_ : Int) {K : KV} (hK : K (.bool (decide (1 ≤ at_) && decide (at_ < xs.length))) w) :
    CP Try.prog Fn.heap_Heap_is [ptr b, i64 at_] K w := by
  refine L_heap_Heap_is ?_
  obtain ⟨v, h1, h2, h3⟩ := h
  simp only [S_heap_Heap_is, geII]
  by_cases hc : 1 ≤ at_
  · simp only [hc, decide_true, gTT, nilAt, addAt, Nat.add_zero, loadAt h1 (by simp : [v][0]? = some v), words_len h2, ltII, pickT]
    simpa [hc] using hK
  · simp only [hc, decide_false, gFT, pickF]
    simpa [hc] using hK

theorem load_spec {w : World} {b c : Nat} {xs : List Int} (h : HeapAt w b c xs) (at_ : Int) {K : KV}
    (h1 : 1 ≤ at_ → at_ < xs.length → K (.tuple #[u64 (xs.getD at_.toNat 0), i64 0]) w) (h0 : ¬ (1 ≤ at_ ∧ at_ < xs.length) → K (.tuple #[u64 0, i64 2]) w) :
    CP Try.prog Fn.heap_Heap_Load [ptr b, i64 at_] K w := by
  refine L_heap_Heap_Load ?_
  unfold S_heap_Heap_Load
  refine is_spec h at_ ?_
  obtain ⟨v, g1, g2, g3⟩ := h
  by_cases hc : 1 ≤ at_ ∧ at_ < xs.length
  · have := h1 hc.1 hc.2
    obtain ⟨k, rfl⟩ := Int.eq_ofNat_of_zero_le (by omega : 0 ≤ at_)
    have hlt : k < xs.length := by omega
    have hb : (decide ((1 : Int) ≤ k) && decide ((k : Int) < xs.length)) = true := by simpa using hc
    simp only [hb, notB, Bool.not_true, condF, nilAt, addAt, Nat.add_zero, loadAt g1 (by simp : [v][0]? = some v), words_idx g2 w k hlt, words_load g2 k hlt]
    simpa using this
  · have := h0 hc
    have hb : (decide (1 ≤ at_) && decide (at_ < xs.length)) = false := by simpa using hc
    simp only [hb, notB, Bool.not_false, condT]
    exact this

theorem store_spec {w : World} {b c : Nat} {xs : List Int} (h : HeapAt w b c xs) (at_ x : Int) {K : KV}
    (h1 : 1 ≤ at_ → at_ < xs.length → ∀ w', Step [c] w w' → HeapAt w' b c (xs.set at_.toNat x) → K (i64 0) w') (h0 : ¬ (1 ≤ at_ ∧ at_ < xs.length) → K (i64 2) w) :
    CP Try.prog Fn.heap_Heap_Store [ptr b, i64 at_, u64 x] K w := by
  refine L_heap_Heap_Store ?_
  unfold S_heap_Heap_Store
  refine is_spec h at_ ?_
  obtain ⟨v, g1, g2, g3⟩ := h
  by_cases hc : 1 ≤ at_ ∧ at_ < xs.length
  · have := h1 hc.1 hc.2
    obtain ⟨k, rfl⟩ := Int.eq_ofNat_of_zero_le (by omega : 0 ≤ at_)
    have hlt : k < xs.length := by omega
    have hb : (decide ((1 : Int) ≤ k) && decide ((k : Int) < xs.length)) = true := by simpa using hc
    simp only [hb, notB, Bool.not_true, condF, nilAt, addAt, Nat.add_zero, loadAt g1 (by simp : [v][0]? = some v), words_idx g2 w k hlt]
    refine words_store g2 k hlt x fun w' s hw => ?_
    exact this w' s ⟨v, s.mem_some g1 (by simpa using g3), by simpa using hw, g3⟩
  · have := h0 hc
    have hb : (decide (1 ≤ at_) && decide (at_ < xs.length)) = false := by simpa using hc
    simp only [hb, notB, Bool.not_false, condT]
    exact this

theorem len_spec {w : World} {b c : Nat} {xs : List Int} (h : HeapAt w b c xs) {K : KV} (hK : K (i64 xs.length) w) :
    CP Try.prog Fn.heap_Heap_Len [ptr b] K w := by
  refine L_heap_Heap_Len ?_
  obtain ⟨v, g1, g2, g3⟩ := h
  simp only [S_heap_Heap_Len, nilAt, addAt, Nat.add_zero, loadAt g1 (by simp : [v][0]? = some v), words_len g2]
  exact hK

/-- append of a row's words to an empty slice in a block of no cells -/
theorem append_words {w : World} {v : Value} {c e : Nat} {xs : List Int} (h : WordsAt w v c xs) (he : mem w e = some []) (h0 : 0 < xs.length) (h1 : xs.length ≤ 65536) {K : KV}
    (hK : ∀ w' u d, Step [] w w' → w.heap.size ≤ d → WordsAt w' u d xs → K u w') : appendW 1 8 (.slice (some ⟨e, 0, none⟩) 0 0) v K w := by
  obtain ⟨cap, rest, rfl, g2, g3⟩ := h
  have hs : srcCells 1 (.slice (some ⟨c, 0, none⟩) xs.length cap) w = some (xs.length, xs.map u64) := by
    simp [srcCells, g2, List.take_append_of_le_length]
  simp only [appendW, hs, he]
  refine ⟨by simp, by simp, by omega, by simp only [maxLen]; omega, fun h => by omega, fun _ c' rest' T hc1 hc2 hr => ?_⟩
  refine hK _ _ _ ((Step.drew w []).trans (Step.alloc _ _ _ []) (by simp) (by simp)) (Nat.le_refl _) ⟨c', rest', by simp, ?_, ?_⟩
  · rw [mem_alloc]; simp
  · rw [opn_alloc]; simp

theorem append_nil_words {w : World} {v : Value} {c : Nat} {xs : List Int} (h : WordsAt w v c xs) (h0 : 0 < xs.length) (h1 : xs.length ≤ 65536) {K : KV}
    (hK : ∀ w' u d, Step [] w w' → w.heap.size ≤ d → WordsAt w' u d xs → K u w') : appendW 1 8 (.slice none 0 0) v K w := by
  obtain ⟨cap, rest, rfl, g2, g3⟩ := h
  have hs : srcCells 1 (.slice (some ⟨c, 0, none⟩) xs.length cap) w = some (xs.length, xs.map u64) := by
    simp [srcCells, g2, List.take_append_of_le_length]
  simp only [appendW, hs]
  refine ⟨trivial, trivial, by omega, by simp only [maxLen]; omega, fun h => by omega, fun _ c' rest' T hc1 hc2 hr => ?_⟩
  refine hK _ _ _ ((Step.drew w []).trans (Step.alloc _ _ _ []) (by simp) (by simp)) (Nat.le_refl _) ⟨c', rest', by simp, ?_, ?_⟩
  · rw [mem_alloc]; simp
  · rw [opn_alloc]; simp

theorem clone_spec {w : World} {v : Value} {c : Nat} {xs : List Int} (h : WordsAt w v c xs) (h0 : 0 < xs.length) (h1 : xs.length ≤ 1024) {K : KV}
    (hK : ∀ w' u d, Step [] w w' → w.heap.size ≤ d → WordsAt w' u d xs → K u w') :
    CP Try.prog Fn.slices_Clone_uint64_uint64 [v] K w := by
  refine L_slices_Clone_uint64_uint64 ?_
  have hc := h.lt
  have hv : ∃ n m, v = .slice (some ⟨c, 0, none⟩) n m := by obtain ⟨cap, rest, rfl, _⟩ := h; exact ⟨_, _, rfl⟩
  obtain ⟨n, m, hv⟩ := hv
  have e1 : ∀ (K : KV) w, eqNilSliceW .eql v (.slice none 0 0) K w = K (.bool false) w := fun K w => by rw [hv]; rfl
  simp only [S_slices_Clone_uint64_uint64, e1, condF]
  refine ⟨by simp, ?_⟩
  simp only [buildL, repl, List.replicate_zero, List.flatten_nil]
  intro T
  have s0 := Step.alloc w ([] : List Value).toArray T []
  refine append_words (h.step s0 (by simp)) (by rw [mem_alloc]; simp) h0 (by omega) fun w' u d s hd hw => ?_
  exact hK w' u d (s0.trans s (by simp) (by simp)) (by simp at hd; omega) hw

theorem all_spec {w : World} {b c : Nat} {xs : List Int} (h : HeapAt w b c xs) (h0 : 0 < xs.length) (h1 : xs.length ≤ 1024) {K : KV}
    (hK : ∀ w' u d, Step [] w w' → w.heap.size ≤ d → WordsAt w' u d xs → K u w') :
    CP Try.prog Fn.heap_Heap_All [ptr b] K w := by
  refine L_heap_Heap_All ?_
  obtain ⟨v, g1, g2, g3⟩ := h
  simp only [S_heap_Heap_All, nilAt, addAt, Nat.add_zero, loadAt g1 (by simp : [v][0]? = some v)]
  exact clone_spec g2 h0 h1 hK

/-- a heap's own cell -/
theorem box_words {w : World} {v : Value} {c : Nat} {xs : List Int} (h : WordsAt w v c xs) {K : KV}
    (hK : ∀ w' b, Step [] w w' → w.heap.size ≤ b → HeapAt w' b c xs → K (ptr b) w') : newW (Value.cells (.agg #[v])) K w := by
  intro T
  have s := Step.alloc w (Value.cells (.agg #[v])) T []
  have := h.lt
  refine hK _ _ s (Nat.le_refl _) ⟨v, by rw [mem_alloc]; simp [Value.cells], h.step s (by simp), by omega⟩

theorem build_words {w : World} {v : Value} {c : Nat} {xs : List Int} (h : WordsAt w v c xs) {K : KV} : buildW [(Value.slice none 0 0)] [(0, 1, v)] K w = K (.agg #[v]) w := by
  obtain ⟨cap, rest, rfl, g2, g3⟩ := h
  simp [buildW, buildL, Value.cells, seg]

theorem copy_spec {w : World} {b c : Nat} {xs : List Int} (h : HeapAt w b c xs) (h0 : 0 < xs.length) (h1 : xs.length ≤ 1024) {K : KV}
    (hK : ∀ w' b' c', Step [] w w' → w.heap.size ≤ b' → w.heap.size ≤ c' → HeapAt w' b' c' xs → K (ptr b') w') :
    CP Try.prog Fn.heap_Heap_Copy [ptr b] K w := by
  refine L_heap_Heap_Copy ?_
  unfold S_heap_Heap_Copy
  refine all_spec h h0 h1 fun w' u d s hd hw => ?_
  rw [build_words hw]
  refine box_words hw fun w2 b2 s2 hb2 hh => ?_
  exact hK w2 b2 d (s.trans s2 (by simp) (by simp)) (Nat.le_trans s.size hb2) hd hh

def held (n lo hi : Int) : Int := if n < lo then lo else if n > hi then hi else n

theorem held_spec {w : World} (n lo hi : Int) {K : KV} (hK : K (i64 (held n lo hi)) w) : CP Try.prog Fn.ref1_Held [i64 n, i64 lo, i64 hi] K w := by
  refine L_ref1_Held ?_
  simp only [S_ref1_Held, ltII, gtII]
  unfold held at hK
  by_cases h1 : n < lo
  · simp only [h1, decide_true, condT]
    simpa [h1] using hK
  · by_cases h2 : n > hi
    · simp only [h1, decide_false, condF, show hi < n from h2, decide_true, condT]
      simpa [h1, h2] using hK
    · simp only [h1, decide_false, condF, show ¬ hi < n from h2]
      simpa [h1, h2] using hK

theorem make_words {w : World} (n : Nat) (hn : n ≤ 65536) {K : KV} (hK : ∀ w' u d, Step [] w w' → w.heap.size ≤ d → WordsAt w' u d (List.replicate n 0) → K u w') :
    makeSliceW 8 [(Value.int .u64 0)] (i64 n) (i64 n) K w := by
  refine ⟨by omega, by omega, by simp only [maxLen]; omega, by omega, fun T => ?_⟩
  refine hK _ _ _ (Step.alloc w _ _ []) (Nat.le_refl _) ⟨n, [], by simp, ?_, ?_⟩
  · rw [mem_alloc]; simp [repl]
  · rw [opn_alloc]; simp

theorem new_spec {w : World} (n : Int) {K : KV} (hK : ∀ w' b c, Step [] w w' → w.heap.size ≤ b → w.heap.size ≤ c → HeapAt w' b c (List.replicate (held n 32 256).toNat 0) → K (ptr b) w') :
    CP Try.prog Fn.heap_New [i64 n] K w := by
  refine L_heap_New ?_
  have e : ∀ (K : KV) w, minW (i64 n) [i64 256] K w = K (i64 (if 256 < n then 256 else n)) w := fun K w => by simp [minW, foldV, min2V, onSome]
  have e2 : ∀ (m : Int) (K : KV) w, maxW (i64 32) [i64 m] K w = K (i64 (if m > 32 then m else 32)) w := fun m K w => by simp [maxW, foldV, max2V, onSome]
  simp only [S_heap_New, e, e2]
  have e3 : (if (if 256 < n then (256 : Int) else n) > 32 then (if 256 < n then (256 : Int) else n) else 32) = ((held n 32 256).toNat : Int) := by
    unfold held; split <;> split <;> split <;> (try split) <;> omega
  rw [e3]
  have hb : (held n 32 256).toNat ≤ 65536 := by unfold held; split <;> (try split) <;> omega
  refine make_words _ hb fun w' u d s hd hw => ?_
  rw [build_words hw]
  refine box_words hw fun w2 b2 s2 hb2 hh => ?_
  exact hK w2 b2 d (s.trans s2 (by simp) (by simp)) (Nat.le_trans s.size hb2) hd hh

end Go.Proofs.Ytpabihjmjkodbaa.S
