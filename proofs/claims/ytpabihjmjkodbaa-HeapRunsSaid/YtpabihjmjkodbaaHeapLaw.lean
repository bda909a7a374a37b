/-
  CHAPTER 2: the statements' own functions.
-/
import Derived.Test.YtpabihjmjkodbaaHeapDo
namespace Go.Proofs.Ytpabihjmjkodbaa.S
open Go Go.Proofs
set_option linter.unusedVariables false
set_option linter.unusedSimpArgs false

theorem eqnF {b i : Nat} {K : KV} {w : World} : eqNilW .eql (ptr b i) (.pointer none) K w = K (.bool false) w := rfl
theorem neqnF {b i : Nat} {K : KV} {w : World} : eqNilW .neq (ptr b i) (.pointer none) K w = K (.bool true) w := rfl

theorem held_bounds (n : Int) : 32 ≤ held n 32 256 ∧ held n 32 256 ≤ 256 := by unfold held; split <;> (try split) <;> omega

theorem heapRuns_spec {w : World} {K : KV} (hK : ∀ w', Step [] w w' → K (.bool true) w') : CP Try.prog Fn.law2_HeapRuns [] K w := by
  refine L_law2_HeapRuns ?_
  unfold S_law2_HeapRuns
  refine new_spec 40 fun w1 b c s1 hb hc h1 => ?_
  have e40 : (held 40 32 256).toNat = 40 := by decide
  rw [e40] at h1
  try simp only [gTT, gFT, gTF, gFF, gUT, gUF, pickT, pickF, condT, condF, notB, neBB, eqII, neII, eqUU, neUU, extract0, extract1, addAt, Nat.zero_add, beq_self_eq_true, bne_self_eq_false, Bool.not_true, Bool.not_false, Int.reduceBEq, Int.reduceBNe, Bool.and_self, Bool.and_false, Bool.false_and, Bool.true_and, Bool.and_true, beq_false, beq_true, geII, ltII, decide_true, decide_false, eqnF, neqnF]
  refine store_spec h1 39 7 (fun _ _ w2 s2 h2 => ?_) (fun hh => absurd (by simp) hh)
  refine load_spec h2 39 (fun _ _ => ?_) (fun hh => absurd (by simp) hh)
  try simp only [gTT, gFT, gTF, gFF, gUT, gUF, pickT, pickF, condT, condF, notB, neBB, eqII, neII, eqUU, neUU, extract0, extract1, addAt, Nat.zero_add, beq_self_eq_true, bne_self_eq_false, Bool.not_true, Bool.not_false, Int.reduceBEq, Int.reduceBNe, Bool.and_self, Bool.and_false, Bool.false_and, Bool.true_and, Bool.and_true, beq_false, beq_true, geII, ltII, decide_true, decide_false, eqnF, neqnF]
  refine load_spec h2 40 (fun _ hh => absurd hh (by simp)) (fun _ => ?_)
  try simp only [gTT, gFT, gTF, gFF, gUT, gUF, pickT, pickF, condT, condF, notB, neBB, eqII, neII, eqUU, neUU, extract0, extract1, addAt, Nat.zero_add, beq_self_eq_true, bne_self_eq_false, Bool.not_true, Bool.not_false, Int.reduceBEq, Int.reduceBNe, Bool.and_self, Bool.and_false, Bool.false_and, Bool.true_and, Bool.and_true, beq_false, beq_true, geII, ltII, decide_true, decide_false, eqnF, neqnF]
  refine load_spec h2 0 (fun hh _ => absurd hh (by simp)) (fun _ => ?_)
  have e7 : (((List.replicate 40 (0 : Int)).set (39 : Int).toNat 7).getD (39 : Int).toNat 0 == 7) = true := by decide
  simp only [e7, gTT, gFT, gTF, gFF, gUT, gUF, pickT, pickF, condT, condF, notB, neBB, eqII, neII, eqUU, neUU, extract0, extract1, addAt, Nat.zero_add, beq_self_eq_true, bne_self_eq_false, Bool.not_true, Bool.not_false, Int.reduceBEq, Int.reduceBNe, Bool.and_self, Bool.and_false, Bool.false_and, Bool.true_and, Bool.and_true, beq_false, beq_true, geII, ltII, decide_true, decide_false, eqnF, neqnF]
  refine len_spec h2 ?_
  have el : ((List.replicate 40 (0 : Int)).set (39 : Int).toNat 7).length = 40 := by simp
  have el2 : ((((List.replicate 40 (0 : Int)).set (39 : Int).toNat 7).length : Int) == 40) = true := by rw [el]; rfl
  simp only [el2, gTT, gFT, gTF, gFF, gUT, gUF, pickT, pickF, condT, condF, notB, neBB, eqII, neII, eqUU, neUU, extract0, extract1, addAt, Nat.zero_add, beq_self_eq_true, bne_self_eq_false, Bool.not_true, Bool.not_false, Int.reduceBEq, Int.reduceBNe, Bool.and_self, Bool.and_false, Bool.false_and, Bool.true_and, Bool.and_true, beq_false, beq_true, geII, ltII, decide_true, decide_false, eqnF, neqnF]
  refine all_spec h2 (by omega) (by omega) fun w3 u d s3 hd hu => ?_
  simp only [words_len hu, el2, gTT, gFT, gTF, gFF, gUT, gUF, pickT, pickF, condT, condF, notB, neBB, eqII, neII, eqUU, neUU, extract0, extract1, addAt, Nat.zero_add, beq_self_eq_true, bne_self_eq_false, Bool.not_true, Bool.not_false, Int.reduceBEq, Int.reduceBNe, Bool.and_self, Bool.and_false, Bool.false_and, Bool.true_and, Bool.and_true, beq_false, beq_true, geII, ltII, decide_true, decide_false, eqnF, neqnF]
  have h3 := h2.step s3 (by simp) (by simp)
  refine copy_spec h3 (by omega) (by omega) fun w4 b' c' s4 _ _ h4 => ?_
  try simp only [gTT, gFT, gTF, gFF, gUT, gUF, pickT, pickF, condT, condF, notB, neBB, eqII, neII, eqUU, neUU, extract0, extract1, addAt, Nat.zero_add, beq_self_eq_true, bne_self_eq_false, Bool.not_true, Bool.not_false, Int.reduceBEq, Int.reduceBNe, Bool.and_self, Bool.and_false, Bool.false_and, Bool.true_and, Bool.and_true, beq_false, beq_true, geII, ltII, decide_true, decide_false, eqnF, neqnF]
  refine hK _ ?_
  refine s1.trans (s2.trans (s3.trans s4 (hp := []) (by simp) (by simp)) (hp := [c]) (by simp) (by simp)) (by simp) (by simpa using hc)

theorem heapPlays_spec {w : World} (n : Int) {l : Value} {m : Nat} {E : List Nat} (hl : AsksAt w l m E) (hE : ∀ e ∈ E, e < w.heap.size) {K : KV} (hK : ∀ w', Step [] w w' → K (.bool true) w') :
    CP Try.prog Fn.law2_HeapPlays [i64 n, l] K w := by
  refine L_law2_HeapPlays ?_
  unfold S_law2_HeapPlays
  have hb := held_bounds n
  refine heapRuns_spec fun w1 s1 => ?_
  try simp only [gTT, gFT, gTF, gFF, gUT, gUF, pickT, pickF, condT, condF, notB, neBB, eqII, neII, eqUU, neUU, extract0, extract1, addAt, Nat.zero_add, beq_self_eq_true, bne_self_eq_false, Bool.not_true, Bool.not_false, Int.reduceBEq, Int.reduceBNe, Bool.and_self, Bool.and_false, Bool.false_and, Bool.true_and, Bool.and_true, beq_false, beq_true, geII, ltII, decide_true, decide_false, eqnF, neqnF]
  refine new_spec n fun w2 b c s2 hb2 hc2 h2 => ?_
  try simp only [gTT, gFT, gTF, gFF, gUT, gUF, pickT, pickF, condT, condF, notB, neBB, eqII, neII, eqUU, neUU, extract0, extract1, addAt, Nat.zero_add, beq_self_eq_true, bne_self_eq_false, Bool.not_true, Bool.not_false, Int.reduceBEq, Int.reduceBNe, Bool.and_self, Bool.and_false, Bool.false_and, Bool.true_and, Bool.and_true, beq_false, beq_true, geII, ltII, decide_true, decide_false, eqnF, neqnF]
  refine held_spec n 32 256 ?_
  have eh : i64 (held n 32 256) = i64 ((held n 32 256).toNat : Nat) := by rw [Int.toNat_of_nonneg (by omega)]
  simp only [eh]
  refine make_words _ (by omega) fun w3 u d s3 hd3 hu => ?_
  try simp only [gTT, gFT, gTF, gFF, gUT, gUF, pickT, pickF, condT, condF, notB, neBB, eqII, neII, eqUU, neUU, extract0, extract1, addAt, Nat.zero_add, beq_self_eq_true, bne_self_eq_false, Bool.not_true, Bool.not_false, Int.reduceBEq, Int.reduceBNe, Bool.and_self, Bool.and_false, Bool.false_and, Bool.true_and, Bool.and_true, beq_false, beq_true, geII, ltII, decide_true, decide_false, eqnF, neqnF]
  have h3 := h2.step s3 (by simp) (by simp)
  have lt2 := h2.lt
  have st : Step [] w w3 := s1.trans (s2.trans s3 (hp := []) (by simp) (by simp)) (by simp) (by simp)
  have hs1 := s1.size
  have hs2 := s2.size
  refine do_spec h3 hu (by omega) (by omega) (hl.step st (by simp)) (fun e he => by have := hE e he; omega) (by simp; omega) (by simp; omega) fun w4 xs s4 hlen h4 hw4 => ?_
  try simp only [gTT, gFT, gTF, gFF, gUT, gUF, pickT, pickF, condT, condF, notB, neBB, eqII, neII, eqUU, neUU, extract0, extract1, addAt, Nat.zero_add, beq_self_eq_true, bne_self_eq_false, Bool.not_true, Bool.not_false, Int.reduceBEq, Int.reduceBNe, Bool.and_self, Bool.and_false, Bool.false_and, Bool.true_and, Bool.and_true, beq_false, beq_true, geII, ltII, decide_true, decide_false, eqnF, neqnF]
  exact hK _ (st.trans s4 (by simp) (by simp; omega))

theorem heapCopies_spec {w : World} (n : Int) {l1 l2 l3 : Value} {m1 m2 m3 : Nat} {E : List Nat} (hl1 : AsksAt w l1 m1 E) (hl2 : AsksAt w l2 m2 E) (hl3 : AsksAt w l3 m3 E) (hE : ∀ e ∈ E, e < w.heap.size) {K : KV}
    (hK : ∀ w', Step [] w w' → K (.bool true) w') : CP Try.prog Fn.law2_HeapCopies [i64 n, l1, l2, l3] K w := by
  refine L_law2_HeapCopies ?_
  unfold S_law2_HeapCopies
  have hb := held_bounds n
  refine heapRuns_spec fun w1 s1 => ?_
  try simp only [gTT, gFT, gTF, gFF, gUT, gUF, pickT, pickF, condT, condF, notB, neBB, eqII, neII, eqUU, neUU, extract0, extract1, addAt, Nat.zero_add, beq_self_eq_true, bne_self_eq_false, Bool.not_true, Bool.not_false, Int.reduceBEq, Int.reduceBNe, Bool.and_self, Bool.and_false, Bool.false_and, Bool.true_and, Bool.and_true, beq_false, beq_true, geII, ltII, decide_true, decide_false, eqnF, neqnF]
  refine new_spec n fun w2 b c s2 hb2 hc2 h2 => ?_
  try simp only [gTT, gFT, gTF, gFF, gUT, gUF, pickT, pickF, condT, condF, notB, neBB, eqII, neII, eqUU, neUU, extract0, extract1, addAt, Nat.zero_add, beq_self_eq_true, bne_self_eq_false, Bool.not_true, Bool.not_false, Int.reduceBEq, Int.reduceBNe, Bool.and_self, Bool.and_false, Bool.false_and, Bool.true_and, Bool.and_true, beq_false, beq_true, geII, ltII, decide_true, decide_false, eqnF, neqnF]
  refine held_spec n 32 256 ?_
  have eh : i64 (held n 32 256) = i64 ((held n 32 256).toNat : Nat) := by rw [Int.toNat_of_nonneg (by omega)]
  simp only [eh]
  refine make_words _ (by omega) fun w3 u d s3 hd3 hu => ?_
  try simp only [gTT, gFT, gTF, gFF, gUT, gUF, pickT, pickF, condT, condF, notB, neBB, eqII, neII, eqUU, neUU, extract0, extract1, addAt, Nat.zero_add, beq_self_eq_true, bne_self_eq_false, Bool.not_true, Bool.not_false, Int.reduceBEq, Int.reduceBNe, Bool.and_self, Bool.and_false, Bool.false_and, Bool.true_and, Bool.and_true, beq_false, beq_true, geII, ltII, decide_true, decide_false, eqnF, neqnF]
  have h3 := h2.step s3 (by simp) (by simp)
  have lt2 := h2.lt
  have lt3 := hu.lt
  have st : Step [] w w3 := s1.trans (s2.trans s3 (hp := []) (by simp) (by simp)) (by simp) (by simp)
  have hs1 := s1.size
  have hs2 := s2.size
  have hs3 := s3.size
  refine do_spec h3 hu (by omega) (by omega) (hl1.step st (by simp)) (fun e he => by have := hE e he; omega) (by simp; omega) (by simp; omega) fun w4 xs s4 hlen h4 hw4 => ?_
  try simp only [gTT, gFT, gTF, gFF, gUT, gUF, pickT, pickF, condT, condF, notB, neBB, eqII, neII, eqUU, neUU, extract0, extract1, addAt, Nat.zero_add, beq_self_eq_true, bne_self_eq_false, Bool.not_true, Bool.not_false, Int.reduceBEq, Int.reduceBNe, Bool.and_self, Bool.and_false, Bool.false_and, Bool.true_and, Bool.and_true, beq_false, beq_true, geII, ltII, decide_true, decide_false, eqnF, neqnF]
  have st4 : Step [] w w4 := st.trans s4 (by simp) (by simp; omega)
  have hlx : xs.length = (held n 32 256).toNat := by simpa using hlen
  have hs4 := s4.size
  refine copy_spec h4 (by omega) (by omega) fun w5 b5 c5 s5 hb5 hc5 h5 => ?_
  have h45 := h4.step s5 (by simp) (by simp)
  have hw5 := hw4.step s5 (by simp)
  have hs5 := s5.size
  have st5 : Step [] w w5 := st4.trans s5 (by simp) (by simp)
  have lt5 := h5.lt
  refine append_nil_words hw5 (by omega) (by omega) fun w6 u6 d6 s6 hd6 hu6 => ?_
  try simp only [gTT, gFT, gTF, gFF, gUT, gUF, pickT, pickF, condT, condF, notB, neBB, eqII, neII, eqUU, neUU, extract0, extract1, addAt, Nat.zero_add, beq_self_eq_true, bne_self_eq_false, Bool.not_true, Bool.not_false, Int.reduceBEq, Int.reduceBNe, Bool.and_self, Bool.and_false, Bool.false_and, Bool.true_and, Bool.and_true, beq_false, beq_true, geII, ltII, decide_true, decide_false, eqnF, neqnF]
  have st6 : Step [] w w6 := st5.trans s6 (by simp) (by simp)
  have h46 := h45.step s6 (by simp) (by simp)
  have hw6 := hw5.step s6 (by simp)
  have h6 := h5.step s6 (by simp) (by simp)
  have hs6 := s6.size
  refine do_spec h6 hu6 (by omega) (by omega) (hl2.step st6 (by simp)) (fun e he => by have := hE e he; omega) (by omega) (by omega) fun w7 xs7 s7 hlen7 h7 hu7 => ?_
  have st7 : Step [] w w7 := st6.trans s7 (by simp) (by simp; omega)
  have h47 := h46.step s7 (by simp; omega) (by simp; omega)
  have hw7 := hw6.step s7 (by simp; omega)
  try simp only [gTT, gFT, gTF, gFF, gUT, gUF, pickT, pickF, condT, condF, notB, neBB, eqII, neII, eqUU, neUU, extract0, extract1, addAt, Nat.zero_add, beq_self_eq_true, bne_self_eq_false, Bool.not_true, Bool.not_false, Int.reduceBEq, Int.reduceBNe, Bool.and_self, Bool.and_false, Bool.false_and, Bool.true_and, Bool.and_true, beq_false, beq_true, geII, ltII, decide_true, decide_false, eqnF, neqnF]
  refine do_spec h47 hw7 (by omega) (by omega) (hl3.step st7 (by simp)) (fun e he => by have := hE e he; omega) (by omega) (by omega) fun w8 xs8 s8 hlen8 h8 hw8 => ?_
  have st8 : Step [] w w8 := st7.trans s8 (by simp) (by simp; omega)
  have h78 := h7.step s8 (by simp; omega) (by simp; omega)
  have hu8 := hu7.step s8 (by simp; omega)
  try simp only [gTT, gFT, gTF, gFF, gUT, gUF, pickT, pickF, condT, condF, notB, neBB, eqII, neII, eqUU, neUU, extract0, extract1, addAt, Nat.zero_add, beq_self_eq_true, bne_self_eq_false, Bool.not_true, Bool.not_false, Int.reduceBEq, Int.reduceBNe, Bool.and_self, Bool.and_false, Bool.false_and, Bool.true_and, Bool.and_true, beq_false, beq_true, geII, ltII, decide_true, decide_false, eqnF, neqnF]
  refine do_spec h78 hu8 (by omega) (by omega) (AsksAt.nil _ []) (by simp) (by omega) (by omega) fun w9 xs9 s9 hlen9 h9 hw9 => ?_
  try simp only [gTT, gFT, gTF, gFF, gUT, gUF, pickT, pickF, condT, condF, notB, neBB, eqII, neII, eqUU, neUU, extract0, extract1, addAt, Nat.zero_add, beq_self_eq_true, bne_self_eq_false, Bool.not_true, Bool.not_false, Int.reduceBEq, Int.reduceBNe, Bool.and_self, Bool.and_false, Bool.false_and, Bool.true_and, Bool.and_true, beq_false, beq_true, geII, ltII, decide_true, decide_false, eqnF, neqnF]
  exact hK _ (st8.trans s9 (by simp) (by simp; omega))

theorem heapAll_spec {w : World} (n at_ : Int) {l : Value} {m : Nat} {E : List Nat} (hl : AsksAt w l m E) (hE : ∀ e ∈ E, e < w.heap.size) {K : KV} (hK : ∀ w', Step [] w w' → K (.bool true) w') :
    CP Try.prog Fn.law2_HeapAll [i64 n, l, i64 at_] K w := by
  refine L_law2_HeapAll ?_
  unfold S_law2_HeapAll
  have hb := held_bounds n
  refine heapRuns_spec fun w1 s1 => ?_
  try simp only [gTT, gFT, gTF, gFF, gUT, gUF, pickT, pickF, condT, condF, notB, neBB, eqII, neII, eqUU, neUU, extract0, extract1, addAt, Nat.zero_add, beq_self_eq_true, bne_self_eq_false, Bool.not_true, Bool.not_false, Int.reduceBEq, Int.reduceBNe, Bool.and_self, Bool.and_false, Bool.false_and, Bool.true_and, Bool.and_true, beq_false, beq_true, geII, ltII, decide_true, decide_false, eqnF, neqnF]
  refine new_spec n fun w2 b c s2 hb2 hc2 h2 => ?_
  try simp only [gTT, gFT, gTF, gFF, gUT, gUF, pickT, pickF, condT, condF, notB, neBB, eqII, neII, eqUU, neUU, extract0, extract1, addAt, Nat.zero_add, beq_self_eq_true, bne_self_eq_false, Bool.not_true, Bool.not_false, Int.reduceBEq, Int.reduceBNe, Bool.and_self, Bool.and_false, Bool.false_and, Bool.true_and, Bool.and_true, beq_false, beq_true, geII, ltII, decide_true, decide_false, eqnF, neqnF]
  refine held_spec n 32 256 ?_
  have eh : i64 (held n 32 256) = i64 ((held n 32 256).toNat : Nat) := by rw [Int.toNat_of_nonneg (by omega)]
  simp only [eh]
  refine make_words _ (by omega) fun w3 u d s3 hd3 hu => ?_
  try simp only [gTT, gFT, gTF, gFF, gUT, gUF, pickT, pickF, condT, condF, notB, neBB, eqII, neII, eqUU, neUU, extract0, extract1, addAt, Nat.zero_add, beq_self_eq_true, bne_self_eq_false, Bool.not_true, Bool.not_false, Int.reduceBEq, Int.reduceBNe, Bool.and_self, Bool.and_false, Bool.false_and, Bool.true_and, Bool.and_true, beq_false, beq_true, geII, ltII, decide_true, decide_false, eqnF, neqnF]
  have h3 := h2.step s3 (by simp) (by simp)
  have lt2 := h2.lt
  have lt3 := hu.lt
  have st : Step [] w w3 := s1.trans (s2.trans s3 (hp := []) (by simp) (by simp)) (by simp) (by simp)
  have hs1 := s1.size
  have hs2 := s2.size
  have hs3 := s3.size
  refine do_spec h3 hu (by omega) (by omega) (hl.step st (by simp)) (fun e he => by have := hE e he; omega) (by simp; omega) (by simp; omega) fun w4 xs s4 hlen h4 hw4 => ?_
  try simp only [gTT, gFT, gTF, gFF, gUT, gUF, pickT, pickF, condT, condF, notB, neBB, eqII, neII, eqUU, neUU, extract0, extract1, addAt, Nat.zero_add, beq_self_eq_true, bne_self_eq_false, Bool.not_true, Bool.not_false, Int.reduceBEq, Int.reduceBNe, Bool.and_self, Bool.and_false, Bool.false_and, Bool.true_and, Bool.and_true, beq_false, beq_true, geII, ltII, decide_true, decide_false, eqnF, neqnF]
  have st4 : Step [] w w4 := st.trans s4 (by simp) (by simp; omega)
  have hlx : xs.length = (held n 32 256).toNat := by simpa using hlen
  have hs4 := s4.size
  refine all_spec h4 (by omega) (by omega) fun w5 u5 d5 s5 hd5 hu5 => ?_
  have h5 := h4.step s5 (by simp) (by simp)
  have hw5 := hw4.step s5 (by simp)
  have st5 : Step [] w w5 := st4.trans s5 (by simp) (by simp)
  have lt4 := h4.lt
  have ltw4 := hw4.lt
  simp only [words_len hu5, words_len hw5, gTT, gFT, gTF, gFF, gUT, gUF, pickT, pickF, condT, condF, notB, neBB, eqII, neII, eqUU, neUU, extract0, extract1, addAt, Nat.zero_add, beq_self_eq_true, bne_self_eq_false, Bool.not_true, Bool.not_false, Int.reduceBEq, Int.reduceBNe, Bool.and_self, Bool.and_false, Bool.false_and, Bool.true_and, Bool.and_true, beq_false, beq_true, geII, ltII, decide_true, decide_false, eqnF, neqnF]
  rw [subII (by omega) (by omega)]
  refine held_spec _ _ _ ?_
  have hk : ∃ q : Nat, held at_ 0 ((xs.length : Int) - 1) = q ∧ q < xs.length := by
    refine ⟨(held at_ 0 ((xs.length : Int) - 1)).toNat, ?_, ?_⟩ <;> (unfold held; split <;> (try split) <;> omega)
  obtain ⟨q, hq, hql⟩ := hk
  rw [hq]
  simp only [words_idx hu5 _ q hql, words_load hu5 q hql, gTT, gFT, gTF, gFF, gUT, gUF, pickT, pickF, condT, condF, notB, neBB, eqII, neII, eqUU, neUU, extract0, extract1, addAt, Nat.zero_add, beq_self_eq_true, bne_self_eq_false, Bool.not_true, Bool.not_false, Int.reduceBEq, Int.reduceBNe, Bool.and_self, Bool.and_false, Bool.false_and, Bool.true_and, Bool.and_true, beq_false, beq_true, geII, ltII, decide_true, decide_false, eqnF, neqnF]
  refine ⟨rfl, ?_⟩
  simp only [onSome, intBin]
  refine words_store hu5 q hql _ fun w6 s6 hu6 => ?_
  have h6 := h5.step s6 (by simp; omega) (by simp; omega)
  have hw6 := hw5.step s6 (by simp; omega)
  have st6 : Step [] w w6 := st5.trans s6 (by simp) (by simp; omega)
  refine do_spec h6 hw6 (by omega) (by omega) (AsksAt.nil _ []) (by simp) (by omega) (by omega) fun w9 xs9 s9 hlen9 h9 hw9 => ?_
  exact hK _ (st6.trans s9 (by simp) (by simp; omega))

end Go.Proofs.Ytpabihjmjkodbaa.S
