/-
  CHAPTER 2: the law's loop over what is asked.
-/
import Derived.Test.YtpabihjmjkodbaaHeap
namespace Go.Proofs.Ytpabihjmjkodbaa.S
open Go Go.Proofs
set_option linter.unusedVariables false
set_option linter.unusedSimpArgs false

/-- v is a slice of n elements of three cells: a truth, a number, a word; nil, or in block e -/
def AsksAt (w : World) (v : Value) (n : Nat) (E : List Nat) : Prop :=
  (v = .slice none 0 0 ∧ n = 0) ∨ ∃ e o cap cs, v = .slice (some ⟨e, o, none⟩) n cap ∧ e ∈ E ∧ mem w e = some cs ∧
    ∀ i, i < n → ∃ s a x, (cs.drop (o + i * 3)).take 3 = [.bool s, i64 a, u64 x]

theorem AsksAt.step {fp E : List Nat} {w w' : World} {v : Value} {n : Nat} (h : AsksAt w v n E) (s : Step fp w w') (hn : ∀ e ∈ E, e ∉ fp) : AsksAt w' v n E := by
  rcases h with h | ⟨e, o, cap, cs, h1, h2, h3, h4⟩
  · exact Or.inl h
  · exact Or.inr ⟨e, o, cap, cs, h1, h2, s.mem_some h3 (hn e h2), h4⟩

theorem AsksAt.nil (w : World) (E : List Nat) : AsksAt w (.slice none 0 0) 0 E := Or.inl ⟨rfl, rfl⟩

theorem asks_len {w : World} {v : Value} {n : Nat} {E : List Nat} (h : AsksAt w v n E) {K : KV} (u : World) : lenW v K u = K (i64 n) u := by
  rcases h with ⟨rfl, rfl⟩ | ⟨e, o, cap, cs, rfl, h2, h3, h4⟩ <;> rfl

theorem take3 {cs : List Value} {p : Nat} {a b c : Value} (h : (cs.drop p).take 3 = [a, b, c]) : p + 3 ≤ cs.length := by
  have := congrArg List.length h
  simp at this; omega

theorem asks_at {w : World} {v : Value} {n : Nat} {E : List Nat} (h : AsksAt w v n E) (i : Nat) (hi : i < n) {K : KV}
    (hK : ∀ s a x w' p, Step [] w w' → w.heap.size ≤ p → mem w' p = some [.bool s, i64 a, u64 x] → K (ptr p) w') :
    idxW 3 v (i64 i) (fun x7 w => loadNW 3 x7 (fun x8 w => newW #[(Value.bool false), (Value.int .i64 0), (Value.int .u64 0)] (fun x9 w => storeW 3 x9 x8 (fun _ w => K x9 w) w) w) w) w := by
  rcases h with ⟨rfl, rfl⟩ | ⟨e, o, cap, cs, rfl, h2, h3, h4⟩
  · omega
  · obtain ⟨s, a, x, h5⟩ := h4 i hi
    have h6 := take3 h5
    refine ⟨by omega, by omega, ?_⟩
    simp only [Int.toNat_natCast, loadNW, h3]
    refine ⟨h6, fun T => ?_⟩
    rw [h5]
    have hm : mem (w.alloc (.cells #[(Value.bool false), (Value.int .i64 0), (Value.int .u64 0)] T)) w.heap.size = some [(Value.bool false), (Value.int .i64 0), (Value.int .u64 0)] := by
      rw [mem_alloc, if_pos rfl]
    simp only [storeW, hm]
    refine ⟨rfl, by simp [Value.cells, one], by rw [opn_alloc, if_pos rfl], by simp, ?_⟩
    refine hK s a x _ _ ((Step.alloc w _ _ []).trans (Step.put _ _ _) (by simp) (by simp)) (Nat.le_refl _) ?_
    rw [mem_put, if_pos rfl, hm]
    simp [Value.cells, seg]

theorem do_spec {w : World} {b c d n : Nat} {xs : List Int} {v l : Value} {E : List Nat} (h : HeapAt w b c xs) (hv : WordsAt w v d xs) (hcd : c ≠ d) (hbd : b ≠ d) (hl : AsksAt w l n E) (hE : ∀ e ∈ E, e ≠ c ∧ e ≠ d)
    (h0 : 0 < xs.length) (h1 : xs.length ≤ 1024) {K : KV}
    (hK : ∀ w' xs', Step [c, d] w w' → xs'.length = xs.length → HeapAt w' b c xs' → WordsAt w' v d xs' → K (.bool true) w') :
    CP Try.prog Fn.law2_do [ptr b, v, l] K w := by
  refine L_law2_do ?_
  unfold S_law2_do
  refine ⟨fun vs w' => ∃ (k : Nat) (xs' : List Int), k ≤ n ∧ k ≤ 100 ∧ vs = [i64 k] ∧ Step [c, d] w w' ∧ xs'.length = xs.length ∧ HeapAt w' b c xs' ∧ WordsAt w' v d xs',
    fun vs w' => match vs with | [.int _ k] => 200 - k.toNat | _ => 0, ⟨0, xs, by omega, by omega, rfl, Step.refl _ _, rfl, h, hv⟩, ?_⟩
  rintro x1 w2 ⟨k, xs', hkn, hk100, hx, st, hlen, hh, hw⟩
  simp only [List.cons.injEq, and_true] at hx
  subst hx
  have hE2 : ∀ e ∈ E, e ∉ [c, d] := fun e he => by simpa using hE e he
  have hl2 := hl.step st hE2
  have key : ∀ (t : Bool) (K : KV) (w : World), gW (.bool t) true (fun K w => K (i64 k) w) (fun x4 w => gW (.bool t) true (fun K w => binIntW .lss x4 (i64 100) K w) (fun x5 w => pickW (.bool t) x5 (.bool false) K w) w) w = K (.bool (t && decide ((k : Int) < 100))) w := by
    intro t K w
    cases t <;> simp only [gTT, gFT, ltII, pickT, pickF, Bool.true_and, Bool.false_and]
  rw [asks_len hl2]
  simp only [ltII, key]
  by_cases hk : (k : Int) < n ∧ (k : Int) < 100
  · simp only [hk.1, hk.2, decide_true, Bool.and_self, condT]
    refine asks_at hl2 k (by omega) ?_
    intro s a x w3 p s3 hp hm
    have hh3 := hh.step s3 (by simp) (by simp)
    have hw3 := hw.step s3 (by simp)
    have st3 : Step [c, d] w w3 := st.trans s3 (by simp) (by simp)
    have m0 := fun (K : KV) => loadAt (K := K) hm (i := 0) (v := .bool s) (by simp)
    have m1 := fun (K : KV) => loadAt (K := K) hm (i := 1) (v := i64 a) (by simp)
    have m2 := fun (K : KV) => loadAt (K := K) hm (i := 2) (v := u64 x) (by simp)
    have pc : p ≠ c := fun e => by have := hh.lt.2; omega
    have pd : p ≠ d := fun e => by have := hw.lt; omega
    have wl := fun (K : KV) (u : World) => words_len hw3 (K := K) u
    have next : ∀ w' xs'', Step [c, d] w w' → xs''.length = xs.length → HeapAt w' b c xs'' → WordsAt w' v d xs'' →
        binIntW .add (i64 k) (i64 1) (fun x51 w' => (∃ (k : Nat) (xs' : List Int), k ≤ n ∧ k ≤ 100 ∧ [x51] = [i64 k] ∧ Step [c, d] w w' ∧ xs'.length = xs.length ∧ HeapAt w' b c xs' ∧ WordsAt w' v d xs') ∧
          (match [x51] with | [.int _ k] => 200 - k.toNat | _ => 0) < 200 - k) w' := by
      intro w' xs'' a1 a2 a3 a4
      rw [addII (by omega) (by omega)]
      exact ⟨⟨k + 1, xs'', by omega, by omega, by simp, a1, a2, a3, a4⟩, by simp; omega⟩
    by_cases hin : 1 ≤ a ∧ a < xs'.length
    · obtain ⟨q, rfl⟩ := Int.eq_ofNat_of_zero_le (by omega : 0 ≤ a)
      have hq : q < xs'.length := by omega
      have ix := fun (K : KV) (u : World) => words_idx hw3 (K := K) u q hq
      cases s
      · simp only [m0, m1, m2, wl, hin.1, hin.2, gTT, gFT, gTF, gFF, gUT, gUF, pickT, pickF, condT, condF, notB, neBB, eqII, neII, neUU, extract0, extract1, addAt, Nat.zero_add, beq_self_eq_true, bne_self_eq_false, Bool.not_true, Bool.not_false, Int.reduceBEq, Int.reduceBNe, Bool.and_self, Bool.and_false, Bool.false_and, Bool.true_and, Bool.and_true, beq_false, beq_true, geII, ltII, decide_true, decide_false]
        refine load_spec hh3 _ (fun _ _ => ?_) (fun hc => absurd hin hc)
        simp only [m1, ix, words_load hw3 q hq, Int.toNat_natCast, gTT, gFT, gTF, gFF, gUT, gUF, pickT, pickF, condT, condF, notB, neBB, eqII, neII, neUU, extract0, extract1, addAt, Nat.zero_add, beq_self_eq_true, bne_self_eq_false, Bool.not_true, Bool.not_false, Int.reduceBEq, Int.reduceBNe, Bool.and_self, Bool.and_false, Bool.false_and, Bool.true_and, Bool.and_true, beq_false, beq_true, geII, ltII, decide_true, decide_false]
        exact next _ _ st3 hlen hh3 hw3
      · simp only [m0, m1, m2, wl, hin.1, hin.2, gTT, gFT, gTF, gFF, gUT, gUF, pickT, pickF, condT, condF, notB, neBB, eqII, neII, neUU, extract0, extract1, addAt, Nat.zero_add, beq_self_eq_true, bne_self_eq_false, Bool.not_true, Bool.not_false, Int.reduceBEq, Int.reduceBNe, Bool.and_self, Bool.and_false, Bool.false_and, Bool.true_and, Bool.and_true, beq_false, beq_true, geII, ltII, decide_true, decide_false]
        refine store_spec hh3 _ x (fun _ _ w4 s4 hh4 => ?_) (fun hc => absurd hin hc)
        have hm4 := s4.mem_some hm (by simpa using pc)
        have n1 := fun (K : KV) => loadAt (K := K) hm4 (i := 1) (v := i64 q) (by simp)
        have n2 := fun (K : KV) => loadAt (K := K) hm4 (i := 2) (v := u64 x) (by simp)
        have hw4 := hw3.step s4 (by simpa using fun e => hcd e.symm)
        simp only [n1, n2, ix, Int.toNat_natCast, gTT, gFT, gTF, gFF, gUT, gUF, pickT, pickF, condT, condF, notB, neBB, eqII, neII, neUU, extract0, extract1, addAt, Nat.zero_add, beq_self_eq_true, bne_self_eq_false, Bool.not_true, Bool.not_false, Int.reduceBEq, Int.reduceBNe, Bool.and_self, Bool.and_false, Bool.false_and, Bool.true_and, Bool.and_true, beq_false, beq_true, geII, ltII, decide_true, decide_false] at hh4 ⊢
        refine words_store hw4 q hq x fun w5 s5 hw5 => ?_
        have hh5 := hh4.step s5 (by simpa using hbd) (by simpa using hcd)
        have hm5 := s5.mem_some hm4 (by simpa using pd)
        have o1 := fun (K : KV) => loadAt (K := K) hm5 (i := 1) (v := i64 q) (by simp)
        have hq5 : q < (xs'.set q x).length := by simpa using hq
        simp only [o1, gTT, gFT, gTF, gFF, gUT, gUF, pickT, pickF, condT, condF, notB, neBB, eqII, neII, neUU, extract0, extract1, addAt, Nat.zero_add, beq_self_eq_true, bne_self_eq_false, Bool.not_true, Bool.not_false, Int.reduceBEq, Int.reduceBNe, Bool.and_self, Bool.and_false, Bool.false_and, Bool.true_and, Bool.and_true, beq_false, beq_true, geII, ltII, decide_true, decide_false]
        refine load_spec hh5 _ (fun _ _ => ?_) (fun hc => absurd (by simpa using hin) hc)
        simp only [o1, words_idx hw5 _ q hq5, words_load hw5 q hq5, Int.toNat_natCast, gTT, gFT, gTF, gFF, gUT, gUF, pickT, pickF, condT, condF, notB, neBB, eqII, neII, neUU, extract0, extract1, addAt, Nat.zero_add, beq_self_eq_true, bne_self_eq_false, Bool.not_true, Bool.not_false, Int.reduceBEq, Int.reduceBNe, Bool.and_self, Bool.and_false, Bool.false_and, Bool.true_and, Bool.and_true, beq_false, beq_true, geII, ltII, decide_true, decide_false]
        exact next _ _ (st3.trans (s4.trans s5 (hp := [c, d]) (by simp) (by simp)) (by simp) (by simp)) (by simpa using hlen) hh5 hw5
    · by_cases ha : 1 ≤ a
      · have hb : ¬ a < xs'.length := fun h => hin ⟨ha, h⟩
        cases s
        · simp only [m0, m1, m2, wl, ha, hb, gTT, gFT, gTF, gFF, gUT, gUF, pickT, pickF, condT, condF, notB, neBB, eqII, neII, neUU, extract0, extract1, addAt, Nat.zero_add, beq_self_eq_true, bne_self_eq_false, Bool.not_true, Bool.not_false, Int.reduceBEq, Int.reduceBNe, Bool.and_self, Bool.and_false, Bool.false_and, Bool.true_and, Bool.and_true, beq_false, beq_true, geII, ltII, decide_true, decide_false]
          refine load_spec hh3 _ (fun h h' => absurd ⟨h, h'⟩ hin) (fun hc => ?_)
          simp only [gTT, gFT, gTF, gFF, gUT, gUF, pickT, pickF, condT, condF, notB, neBB, eqII, neII, neUU, extract0, extract1, addAt, Nat.zero_add, beq_self_eq_true, bne_self_eq_false, Bool.not_true, Bool.not_false, Int.reduceBEq, Int.reduceBNe, Bool.and_self, Bool.and_false, Bool.false_and, Bool.true_and, Bool.and_true, beq_false, beq_true, geII, ltII, decide_true, decide_false]
          exact next _ _ st3 hlen hh3 hw3
        · simp only [m0, m1, m2, wl, ha, hb, gTT, gFT, gTF, gFF, gUT, gUF, pickT, pickF, condT, condF, notB, neBB, eqII, neII, neUU, extract0, extract1, addAt, Nat.zero_add, beq_self_eq_true, bne_self_eq_false, Bool.not_true, Bool.not_false, Int.reduceBEq, Int.reduceBNe, Bool.and_self, Bool.and_false, Bool.false_and, Bool.true_and, Bool.and_true, beq_false, beq_true, geII, ltII, decide_true, decide_false]
          refine store_spec hh3 _ x (fun h h' => absurd ⟨h, h'⟩ hin) (fun hc => ?_)
          simp only [m1, gTT, gFT, gTF, gFF, gUT, gUF, pickT, pickF, condT, condF, notB, neBB, eqII, neII, neUU, extract0, extract1, addAt, Nat.zero_add, beq_self_eq_true, bne_self_eq_false, Bool.not_true, Bool.not_false, Int.reduceBEq, Int.reduceBNe, Bool.and_self, Bool.and_false, Bool.false_and, Bool.true_and, Bool.and_true, beq_false, beq_true, geII, ltII, decide_true, decide_false]
          refine load_spec hh3 _ (fun h h' => absurd ⟨h, h'⟩ hin) (fun hc => ?_)
          simp only [gTT, gFT, gTF, gFF, gUT, gUF, pickT, pickF, condT, condF, notB, neBB, eqII, neII, neUU, extract0, extract1, addAt, Nat.zero_add, beq_self_eq_true, bne_self_eq_false, Bool.not_true, Bool.not_false, Int.reduceBEq, Int.reduceBNe, Bool.and_self, Bool.and_false, Bool.false_and, Bool.true_and, Bool.and_true, beq_false, beq_true, geII, ltII, decide_true, decide_false]
          exact next _ _ st3 hlen hh3 hw3
      · cases s
        · simp only [m0, m1, m2, wl, ha, gTT, gFT, gTF, gFF, gUT, gUF, pickT, pickF, condT, condF, notB, neBB, eqII, neII, neUU, extract0, extract1, addAt, Nat.zero_add, beq_self_eq_true, bne_self_eq_false, Bool.not_true, Bool.not_false, Int.reduceBEq, Int.reduceBNe, Bool.and_self, Bool.and_false, Bool.false_and, Bool.true_and, Bool.and_true, beq_false, beq_true, geII, ltII, decide_true, decide_false]
          refine load_spec hh3 _ (fun h h' => absurd ⟨h, h'⟩ hin) (fun hc => ?_)
          simp only [gTT, gFT, gTF, gFF, gUT, gUF, pickT, pickF, condT, condF, notB, neBB, eqII, neII, neUU, extract0, extract1, addAt, Nat.zero_add, beq_self_eq_true, bne_self_eq_false, Bool.not_true, Bool.not_false, Int.reduceBEq, Int.reduceBNe, Bool.and_self, Bool.and_false, Bool.false_and, Bool.true_and, Bool.and_true, beq_false, beq_true, geII, ltII, decide_true, decide_false]
          exact next _ _ st3 hlen hh3 hw3
        · simp only [m0, m1, m2, wl, ha, gTT, gFT, gTF, gFF, gUT, gUF, pickT, pickF, condT, condF, notB, neBB, eqII, neII, neUU, extract0, extract1, addAt, Nat.zero_add, beq_self_eq_true, bne_self_eq_false, Bool.not_true, Bool.not_false, Int.reduceBEq, Int.reduceBNe, Bool.and_self, Bool.and_false, Bool.false_and, Bool.true_and, Bool.and_true, beq_false, beq_true, geII, ltII, decide_true, decide_false]
          refine store_spec hh3 _ x (fun h h' => absurd ⟨h, h'⟩ hin) (fun hc => ?_)
          simp only [m1, gTT, gFT, gTF, gFF, gUT, gUF, pickT, pickF, condT, condF, notB, neBB, eqII, neII, neUU, extract0, extract1, addAt, Nat.zero_add, beq_self_eq_true, bne_self_eq_false, Bool.not_true, Bool.not_false, Int.reduceBEq, Int.reduceBNe, Bool.and_self, Bool.and_false, Bool.false_and, Bool.true_and, Bool.and_true, beq_false, beq_true, geII, ltII, decide_true, decide_false]
          refine load_spec hh3 _ (fun h h' => absurd ⟨h, h'⟩ hin) (fun hc => ?_)
          simp only [gTT, gFT, gTF, gFF, gUT, gUF, pickT, pickF, condT, condF, notB, neBB, eqII, neII, neUU, extract0, extract1, addAt, Nat.zero_add, beq_self_eq_true, bne_self_eq_false, Bool.not_true, Bool.not_false, Int.reduceBEq, Int.reduceBNe, Bool.and_self, Bool.and_false, Bool.false_and, Bool.true_and, Bool.and_true, beq_false, beq_true, geII, ltII, decide_true, decide_false]
          exact next _ _ st3 hlen hh3 hw3
  · have hkf : (decide ((k : Int) < n) && decide ((k : Int) < 100)) = false := by simpa using hk
    simp only [hkf, condF]
    refine all_spec hh (by omega) (by omega) fun w3 u g s3 hg hu => ?_
    have hh3 := hh.step s3 (by simp) (by simp)
    have hw3 := hw.step s3 (by simp)
    have st3 : Step [c, d] w w3 := st.trans s3 (by simp) (by simp)
    simp only [words_len hu, words_len hw3, gTT, gFT, gTF, gFF, gUT, gUF, pickT, pickF, condT, condF, notB, neBB, eqII, neII, neUU, extract0, extract1, addAt, Nat.zero_add, beq_self_eq_true, bne_self_eq_false, Bool.not_true, Bool.not_false, Int.reduceBEq, Int.reduceBNe, Bool.and_self, Bool.and_false, Bool.false_and, Bool.true_and, Bool.and_true, beq_false, beq_true, geII, ltII, decide_true, decide_false]
    refine len_spec hh3 ?_
    simp only [words_len hu, words_len hw3, gTT, gFT, gTF, gFF, gUT, gUF, pickT, pickF, condT, condF, notB, neBB, eqII, neII, neUU, extract0, extract1, addAt, Nat.zero_add, beq_self_eq_true, bne_self_eq_false, Bool.not_true, Bool.not_false, Int.reduceBEq, Int.reduceBNe, Bool.and_self, Bool.and_false, Bool.false_and, Bool.true_and, Bool.and_true, beq_false, beq_true, geII, ltII, decide_true, decide_false]
    refine ⟨fun vs w' => ∃ (j : Nat), j ≤ xs'.length ∧ vs = [i64 j] ∧ Step [c, d] w w' ∧ HeapAt w' b c xs' ∧ WordsAt w' v d xs' ∧ WordsAt w' u g xs',
      fun vs w' => match vs with | [.int _ k] => 2000 - k.toNat | _ => 0, ⟨0, by omega, rfl, st3, hh3, hw3, hu⟩, ?_⟩
    rintro x2 w4 ⟨j, hj, hx, st4, hh4, hw4, hu4⟩
    simp only [List.cons.injEq, and_true] at hx
    subst hx
    by_cases hjl : (j : Int) < xs'.length
    · have hj2 : j < xs'.length := by omega
      have q4 := Step.drew w4 []
      have hu5 := hu4.step q4 (by simp)
      have hw5 := hw4.step q4 (by simp)
      simp only [hjl, words_idx hu5 _ j hj2, words_load hu5 j hj2, words_idx hw5 _ j hj2, words_load hw5 j hj2, gTT, gFT, gTF, gFF, gUT, gUF, pickT, pickF, condT, condF, notB, neBB, eqII, neII, neUU, extract0, extract1, addAt, Nat.zero_add, beq_self_eq_true, bne_self_eq_false, Bool.not_true, Bool.not_false, Int.reduceBEq, Int.reduceBNe, Bool.and_self, Bool.and_false, Bool.false_and, Bool.true_and, Bool.and_true, beq_false, beq_true, geII, ltII, decide_true, decide_false]
      rw [addII (by omega) (by omega)]
      exact ⟨⟨j + 1, by omega, by simp, st4.trans q4 (by simp) (by simp), hh4.step q4 (by simp) (by simp), hw5, hu5⟩, by simp; omega⟩
    · simp only [hjl, gTT, gFT, gTF, gFF, gUT, gUF, pickT, pickF, condT, condF, notB, neBB, eqII, neII, neUU, extract0, extract1, addAt, Nat.zero_add, beq_self_eq_true, bne_self_eq_false, Bool.not_true, Bool.not_false, Int.reduceBEq, Int.reduceBNe, Bool.and_self, Bool.and_false, Bool.false_and, Bool.true_and, Bool.and_true, beq_false, beq_true, geII, ltII, decide_true, decide_false]
      exact hK _ _ st4 hlen hh4 hw4

end Go.Proofs.Ytpabihjmjkodbaa.S
