/-
  CHAPTER 11: the lists of free blocks of a heap that is parted.
-/
import Derived.Test.YtokbiojkpldfeaaGreatBlocks
namespace Go.Proofs.YtokbiojkpldfeaaGreat.S
open Go Go.Proofs
set_option linter.unusedVariables false
set_option linter.unusedSimpArgs false

abbrev sliceE : Enc SlV := ⟨1, fun k => [.slice k.a k.n k.c], fun | [.slice a n c] => some ⟨a, n, c⟩ | _ => none, by decide, fun _ => rfl, by simp [one], fun cs a h => by split at h <;> cases h; rfl⟩
instance {k : SlV} : EncIs sliceE k [.slice k.a k.n k.c] := ⟨rfl⟩
instance {a : Option Addr} {n c : Nat} : DecIs sliceE [.slice a n c] ⟨a, n, c⟩ := ⟨rfl⟩

section
variable {w0 : Base} {L M : List Asn} {K : KV} {F : World → Prop} {C : Asn → List Asn} {b q1 q2 : Nat} {n a x e k root c : Int} {w : List Int} {v cv : Value} {B R sh : List Bk} {fl : Int → List Int}

/-- is it the free block of a class that is asked for? -/
def isBl (a c : Int) (x : TBlock) : Bool := decide (x.place = a) && decide (x.class_ = c) && !x.live
theorem s_arena_Lists_1 {x : TBlock} (h0 : 0 ≤ x.place ∧ x.place < 1000) (hK : G w0 (own q1 [u64 a] :: own q2 [i64 c] :: M) (K (.bool (isBl a c x)))) : G w0 (own q1 [u64 a] :: own q2 [i64 c] :: M) (CP Tryz.prog Fn.arena_Lists_1 [.agg (TBlock.cells x).toArray, ptr q1 0, ptr q2 0] K) := by
  refine C_arena_Lists_1 ?_
  unfold S_arena_Lists_1
  try simp (maxSteps := 2000000) only [fuse_and, fuse_or, fuse_step, fuse_pair, fuse_in, andP_true]
  refine G.box fun x1 => ?_
  have e1 : IntKind.wrap .u64 x.place = x.place := wu64 (by omega) (by omega)
  unfold isBl at hK
  by_cases h1 : x.place = a
  · have h2 : decide (x.place = a) = true := decide_eq_true h1
    rw [h2] at hK
    by_cases h3 : x.class_ = c
    · have h4 : decide (x.class_ = c) = true := decide_eq_true h3
      rw [h4] at hK
      try simp (maxSteps := 2000000) only [↓RG, RP, RB, BEq.rfl, Int.reduceEq, Int.reduceLT, Int.reduceLE, Nat.reduceEqDiff, e1, h2, h4]
      simp only [Bool.true_and] at hK
      exact hK.sub
    · have h4 : decide (x.class_ = c) = false := decide_eq_false h3
      rw [h4] at hK
      try simp (maxSteps := 2000000) only [↓RG, RP, RB, BEq.rfl, Int.reduceEq, Int.reduceLT, Int.reduceLE, Nat.reduceEqDiff, e1, h2, h4]
      simp only [Bool.true_and, Bool.false_and] at hK
      exact hK.sub
  · have h2 : decide (x.place = a) = false := decide_eq_false h1
    rw [h2] at hK
    try simp (maxSteps := 2000000) only [↓RG, RP, RB, BEq.rfl, Int.reduceEq, Int.reduceLT, Int.reduceLE, Nat.reduceEqDiff, e1, h2]
    simp only [Bool.false_and] at hK
    exact hK.sub
theorem s_IndexBl {bl : List TBlock} {i : Nat} [r : Rd w0 M v tBlockE 3 bl] (hl : bl.length ≤ 1000000) (h0 : ∀ x ∈ bl, 0 ≤ x.place ∧ x.place < 1000) (hi : i < bl.length) (hy : isBl a c bl[i] = true) (hn : ∀ j (hj : j < bl.length), j < i → isBl a c bl[j] = false) (hK : G w0 (own q1 [u64 a] :: own q2 [i64 c] :: M) (K (i64 i))) :
    G w0 (own q1 [u64 a] :: own q2 [i64 c] :: M) (CP Tryz.prog Fn.slices_IndexFunc_api_Block_api_Block [v, .func (.func Fn.arena_Lists_1) #[] #[ptr q1 0, ptr q2 0]] K) := by
  refine C_slices_IndexFunc_api_Block_api_Block ?_
  unfold S_slices_IndexFunc_api_Block_api_Block
  try simp (maxSteps := 2000000) only [↓RG, RP, RB, BEq.rfl, Int.reduceEq, Int.reduceLT, Int.reduceLE, Nat.reduceEqDiff]
  refine G.loop1 (σ := Nat) (fun j => i64 j) (fun _ => own q1 [u64 a] :: own q2 [i64 c] :: M) (fun j => j ≤ i) (fun j => i - j) 0 rfl rfl (by omega) ?_
  intro j hj J hJ
  have h1 : j < bl.length := by omega
  have h2 : decide ((j : Int) < (bl.length : Int)) = true := decide_eq_true (by omega)
  have e := elem_of h1
  have hb := h0 bl[j] (List.getElem_mem h1)
  by_cases h3 : j = i
  · subst h3
    generalize bl[j] = y at e hb hy
    try simp (maxSteps := 2000000) only [↓RG, RP, RB, BEq.rfl, Int.reduceEq, Int.reduceLT, Int.reduceLE, Nat.reduceEqDiff, h2]
    show G w0 _ (CP Tryz.prog Fn.arena_Lists_1 [.agg (TBlock.cells y).toArray, ptr q1 0, ptr q2 0] _)
    refine s_arena_Lists_1 hb ?_
    rw [hy]
    try simp (maxSteps := 2000000) only [↓RG, RP, RB, BEq.rfl, Int.reduceEq, Int.reduceLT, Int.reduceLE, Nat.reduceEqDiff]
    exact hK
  · have hy2 := hn j h1 (by omega)
    generalize bl[j] = y at e hb hy2
    try simp (maxSteps := 2000000) only [↓RG, RP, RB, BEq.rfl, Int.reduceEq, Int.reduceLT, Int.reduceLE, Nat.reduceEqDiff, h2]
    show G w0 _ (CP Tryz.prog Fn.arena_Lists_1 [.agg (TBlock.cells y).toArray, ptr q1 0, ptr q2 0] _)
    refine s_arena_Lists_1 hb ?_
    rw [hy2]
    try simp (maxSteps := 2000000) only [↓RG, RP, RB, BEq.rfl, Int.reduceEq, Int.reduceLT, Int.reduceLE, Nat.reduceEqDiff]
    rw [wsucc (by omega)]
    exact hJ (j + 1) (by omega) (by omega)
theorem s_ContainsNo {xs : List Int} [r : Rd w0 L v intE 1 xs] (hl : xs.length ≤ 1000000) (hn : a ∉ xs) (hK : G w0 L (K (.bool false))) : G w0 L (CP Tryz.prog Fn.slices_Contains_int_int [v, i64 a] K) := by
  refine C_slices_Contains_int_int ?_
  unfold S_slices_Contains_int_int
  refine C_slices_Index_int_int ?_
  unfold S_slices_Index_int_int
  try simp (maxSteps := 2000000) only [↓RG, RP, RB, BEq.rfl, Int.reduceEq, Int.reduceLT, Int.reduceLE, Nat.reduceEqDiff]
  refine G.loop1 (σ := Nat) (fun j => i64 j) (fun _ => L) (fun j => j ≤ xs.length) (fun j => xs.length - j) 0 rfl rfl (by omega) ?_
  intro j hj J hJ
  by_cases h1 : j < xs.length
  · have h2 : decide ((j : Int) < (xs.length : Int)) = true := decide_eq_true (by omega)
    have e := elem_of h1
    have h3 : decide (a = xs[j]) = false := decide_eq_false fun h => hn (h ▸ List.getElem_mem h1)
    try simp (maxSteps := 2000000) only [↓RG, RP, RB, BEq.rfl, Int.reduceEq, Int.reduceLT, Int.reduceLE, Nat.reduceEqDiff, h2, h3]
    rw [wsucc (by omega)]
    exact hJ (j + 1) h1 (by omega)
  · have h2 : decide ((j : Int) < (xs.length : Int)) = false := decide_eq_false (by omega)
    try simp (maxSteps := 2000000) only [↓RG, RP, RB, BEq.rfl, Int.reduceEq, Int.reduceLT, Int.reduceLE, Nat.reduceEqDiff, h2]
    exact hK

abbrev nilS : SlV := ⟨none, 0, 0⟩
theorem find_bl {h : Hp} (A : ArenaW h B R sh fl) {bb c : Int} (h1 : (bb, c) ∈ sh) (h2 : (bb, c) ∉ B) : ∃ i, ∃ hi : i < (blOf B sh).length, (blOf B sh)[i].place = bb ∧ isBl bb c (blOf B sh)[i] = true ∧ ∀ j (hj : j < (blOf B sh).length), j < i → isBl bb c (blOf B sh)[j] = false := by
  obtain ⟨i, hi, e⟩ := List.getElem_of_mem h1
  have hl : (blOf B sh).length = sh.length := by simp [blOf]
  have ex : ∀ j (hj : j < (blOf B sh).length), (blOf B sh)[j] = ⟨(sh[j]'(by omega)).1, (sh[j]'(by omega)).2, decide (sh[j]'(by omega) ∈ B)⟩ := fun j hj => by simp [blOf]
  refine ⟨i, by omega, by rw [ex, e], ?_, fun j hj hji => ?_⟩
  · rw [ex, e]
    unfold isBl
    simp [h2]
  · rw [ex]
    have hnd := contig_nodup A.parted
    have : ¬ (sh[j]'(by omega)) = (bb, c) := fun e2 => by
      have := (List.getElem_inj (h₀ := by omega) (h₁ := hi) hnd).1 (e2.trans e.symm)
      omega
    unfold isBl
    simp only
    by_cases g1 : (sh[j]'(by omega)).1 = bb
    · have g2 : ¬ (sh[j]'(by omega)).2 = c := fun g2 => this (Prod.ext g1 g2)
      simp [g2]
    · simp [g1]

theorem s_arena_Lists [r : Rd w0 L v wordE 1 w] (hw : OkHp w) (A : ArenaW (hOf w) B R sh fl) (hK : ∀ u, G w0 L (K (.tuple #[u, i64 0]))) : G w0 L (CP Tryz.prog Fn.arena_Lists [v] K) := by
  refine C_arena_Lists ?_
  unfold S_arena_Lists
  try simp (maxSteps := 2000000) only [fuse_and, fuse_or, fuse_step, fuse_pair, fuse_in, andP_true]
  refine s_arena_Blocks hw A fun u0 hu0 => ?_
  try simp (maxSteps := 2000000) only [↓RG, RP, RB, BEq.rfl, Int.reduceEq, Int.reduceLT, Int.reduceLE, Nat.reduceEqDiff]
  refine G.make (n := 4) sliceE nilS rfl (by simp [maxLen]) (by omega) fun x5 hx5 => ?_
  refine G.new fun x6 => ?_
  try simp (maxSteps := 2000000) only [↓RG, RP, RB, BEq.rfl, Int.reduceEq, Int.reduceLT, Int.reduceLE, Nat.reduceEqDiff]
  have hbl0 : ∀ x ∈ blOf B sh, 0 ≤ x.place ∧ x.place < 1000 := fun x hx => by
    obtain ⟨y, hy, rfl⟩ := List.mem_map.1 hx
    have := A.mem hy
    have := bsz_le (c := y.2)
    simp only
    omega
  have hbll : (blOf B sh).length ≤ 256 := by
    have h1 : (blOf B sh).length = sh.length := by simp [blOf]
    have h2 : ∀ {l : List Bk} {p e : Int}, Contig p l e → p + 3 * (l.length : Int) ≤ e := by
      intro l
      induction l with
      | nil => intro p e h; have h : p = e := h; simp; omega
      | cons b l ih => intro p e h; have := ih h.2.2.2; have := bsz_le (c := b.2); simp only [List.length_cons]; omega
    have := h2 A.parted
    have := A.top
    omega
  have ho : ∀ {m : Nat} (hm : m < w.length), hOf w (m : Int) = w[m] := fun {m} hm => by
    show w.getD ((m : Int).toNat) 0 = _
    rw [Int.toNat_natCast, List.getD_eq_getElem?_getD, List.getElem?_eq_getElem hm]; rfl
  refine G.loop1 (σ := Nat × Nat × List SlV) (fun y => ptr y.2.1 0) (fun y => own y.2.1 [i64 ((y.1 : Int) + 1)] :: sl sliceE x5 y.2.2 :: sl tBlockE u0 (blOf B sh) :: L) (fun y => y.1 ≤ 4 ∧ y.2.2.length = 4 ∧ ∀ j, y.1 ≤ j → j < 4 → y.2.2[j]? = some nilS) (fun y => 4 - y.1) (0, x6, List.replicate 4 nilS) rfl rfl ⟨by omega, rfl, fun j h0 h4 => by rw [List.getElem?_replicate, if_pos h4]⟩ ?_
  rintro ⟨k, q, ks⟩ ⟨hk, hkl, hkn⟩ J hJ
  simp only at hk hkl hkn hJ ⊢
  by_cases h4 : k < 4
  · have a1 : decide ((k : Int) + 1 ≤ 4) = true := decide_eq_true (by omega)
    try simp (maxSteps := 2000000) only [↓RG, RP, RB, BEq.rfl, Int.reduceEq, Int.reduceLT, Int.reduceLE, Nat.reduceEqDiff, a1]
    refine s_arena_head (c := (k : Int) + 1) ?_
    rw [aHead_ok (by omega) (by omega)]
    have ej : ((k : Int) + 1) = ((k + 1 : Nat) : Int) := by omega
    have hkw : k + 1 < w.length := by rw [hw.1]; omega
    have ek := elem_of hkw
    obtain ⟨f1, f2, f3⟩ := A.free ((k : Int) + 1) (by omega) (by omega)
    rw [show hOf w ((k : Int) + 1) = w[k + 1] by rw [ej]; exact ho hkw] at f1
    generalize w[k + 1] = a0 at ek f1
    rw [ej] at f1 f2 f3
    simp only [ej]
    generalize hfl : fl ((k + 1 : Nat) : Int) = fc at f1 f2 f3
    try simp (maxSteps := 2000000) only [↓RG, RP, RB, BEq.rfl, Int.reduceEq, Int.reduceLT, Int.reduceLE, Nat.reduceEqDiff]
    refine G.new fun q0 => ?_
    try simp (maxSteps := 2000000) only [↓RG, RP, RB, BEq.rfl, Int.reduceEq, Int.reduceLT, Int.reduceLE, Nat.reduceEqDiff]
    refine G.nilsl intE ?_
    refine G.pickAll (As := [own q0 [u64 a0], own q [i64 ((k + 1 : Nat) : Int)], sl intE (.slice none 0 0) [], sl sliceE x5 ks, sl tBlockE u0 (blOf B sh)]) ?_
    show G w0 (own q0 [u64 a0] :: own q [i64 ((k + 1 : Nat) : Int)] :: sl intE (.slice none 0 0) [] :: sl sliceE x5 ks :: sl tBlockE u0 (blOf B sh) :: L) _
    refine G.loop1 (σ := Nat × Int × List Int × List Int × List SlV × SlV) (fun y => ptr y.1 0) (fun y => own y.1 [u64 y.2.1] :: own q [i64 ((k + 1 : Nat) : Int)] :: sl intE (.slice y.2.2.2.2.2.a y.2.2.2.2.2.n y.2.2.2.2.2.c) y.2.2.1 :: sl sliceE x5 y.2.2.2.2.1 :: sl tBlockE u0 (blOf B sh) :: L)
      (fun y => Fl (hOf w) y.2.1 y.2.2.2.1 ∧ y.2.2.1 ++ y.2.2.2.1 = fc ∧ y.2.2.2.2.1.length = 4 ∧ y.2.2.2.2.1[k]? = some y.2.2.2.2.2 ∧ ∀ j, k + 1 ≤ j → j < 4 → y.2.2.2.2.1[j]? = some nilS) (fun y => y.2.2.2.1.length) (q0, a0, [], fc, ks, nilS) rfl rfl ⟨f1, rfl, hkl, hkn k (Nat.le_refl _) h4, fun j g1 g2 => hkn j (by omega) g2⟩ ?_
    rintro ⟨q1, a, dn, rs, ks, s⟩ ⟨g1, g2, g3, g4, g5⟩ J2 hJ2
    simp only at g1 g2 g3 g4 g5 hJ2 ⊢
    cases rs with
    | nil =>
      have ha : a = 0 := g1
      try simp (maxSteps := 2000000) only [↓RG, RP, RB, BEq.rfl, Int.reduceEq, Int.reduceLT, Int.reduceLE, Nat.reduceEqDiff, eq_true ha]
      refine G.new fun q3 => ?_
      try simp (maxSteps := 2000000) only [↓RG, RP, RB, BEq.rfl, Int.reduceEq, Int.reduceLT, Int.reduceLE, Nat.reduceEqDiff]
      have h := hJ (k + 1, q3, ks) ⟨h4, g3, g5⟩ (by simp only; omega)
      simp only at h
      have eq : IntKind.wrap .i64 (((k + 1 : Nat) : Int) + 1) = ((k + 1 : Nat) : Int) + 1 := wi64 (by omega) (by omega)
      rw [eq]
      exact h.sub
    | cons bb rs =>
      obtain ⟨rfl, hb0, g6⟩ := g1
      have hin := f3 a (by rw [← g2]; simp)
      obtain ⟨i, hi, hip, hi1, hi2⟩ := find_bl A hin.1 hin.2
      have hm := A.mem hin.1
      simp only at hm
      try simp (maxSteps := 2000000) only [↓RG, RP, RB, BEq.rfl, Int.reduceEq, Int.reduceLT, Int.reduceLE, Nat.reduceEqDiff, hb0]
      refine s_IndexBl (q1 := q1) (q2 := q) (a := a) (c := ((k + 1 : Nat) : Int)) (by omega) hbl0 hi hi1 hi2 ?_
      refine G.drew ?_
      have b1 : decide ((i : Int) < 0) = false := decide_eq_false (by omega)
      have eC : IntKind.wrap .i64 (((k + 1 : Nat) : Int) - 1) = (k : Int) := by rw [show ((k + 1 : Nat) : Int) - 1 = (k : Int) by omega]; exact wi64 (by omega) (by omega)
      have es : Elem ks k s := ⟨g4⟩
      have ei := elem_of hi
      generalize (blOf B sh)[i] = y at ei hip
      obtain ⟨y1, y2, y3⟩ := y
      simp only at hip
      subst hip
      have hdn : y1 ∉ dn := fun h => by
        rw [← g2, List.nodup_append] at f2
        exact f2.2.2 y1 h y1 (by simp) rfl
      have hdl : dn.length ≤ 256 := by
        rw [← g2, List.nodup_append] at f2
        refine nodup_fewK 256 dn f2.1 fun z hz => ?_
        have := A.mem (f3 z (by rw [← g2]; simp [hz])).1
        have h9 := bsz_le (c := ((z, ((k + 1 : Nat) : Int)) : Bk).2)
        omega
      try simp (maxSteps := 2000000) only [↓RG, RP, RB, BEq.rfl, Int.reduceEq, Int.reduceLT, Int.reduceLE, Nat.reduceEqDiff, b1, eC]
      refine s_ContainsNo (xs := dn) (by omega) hdn ?_
      try simp (maxSteps := 2000000) only [↓RG, RP, RB, BEq.rfl, Int.reduceEq, Int.reduceLT, Int.reduceLE, Nat.reduceEqDiff, b1, eC]
      refine G.drew ?_
      try simp (maxSteps := 2000000) only [↓RG, RP, RB, BEq.rfl, Int.reduceEq, Int.reduceLT, Int.reduceLE, Nat.reduceEqDiff, b1, eC]
      obtain ⟨m, rfl⟩ : ∃ m : Nat, y1 = m := ⟨y1.toNat, by omega⟩
      have hz4 := bsz_le (c := ((k + 1 : Nat) : Int))
      have hmw : m < w.length := by rw [hw.1]; omega
      have em := elem_of hmw
      rw [ho hmw] at g6
      generalize w[m] = nx at em g6
      refine G.build intE [(m : Int)] rfl (by simp) rfl fun z hz => ?_
      try simp (maxSteps := 2000000) only [↓RG, RP, RB, BEq.rfl, Int.reduceEq, Int.reduceLT, Int.reduceLE, Nat.reduceEqDiff, eC]
      refine G.append (xs := dn) (ys := [(m : Int)]) (by simp; omega) (by simp [maxLen]; omega) fun u hu => ?_
      try simp (maxSteps := 2000000) only [↓RG, RP, RB, BEq.rfl, Int.reduceEq, Int.reduceLT, Int.reduceLE, Nat.reduceEqDiff, eC]
      refine G.slv (u := u) fun sa sn sc eu => ?_
      subst eu
      try simp (maxSteps := 2000000) only [↓RG, RP, RB, BEq.rfl, Int.reduceEq, Int.reduceLT, Int.reduceLE, Nat.reduceEqDiff, eC]
      refine G.new fun q4 => ?_
      try simp (maxSteps := 2000000) only [↓RG, RP, RB, BEq.rfl, Int.reduceEq, Int.reduceLT, Int.reduceLE, Nat.reduceEqDiff, eC]
      have h := hJ2 (q4, nx, dn ++ [(m : Int)], rs, ks.set k ⟨sa, sn, sc⟩, ⟨sa, sn, sc⟩) ⟨g6, by rw [← g2]; simp, by simpa using g3, by rw [List.getElem?_set_self (by omega)], fun j j1 j4 => by rw [List.getElem?_set_ne (by omega)]; exact g5 j j1 j4⟩ (by simp)
      exact h.sub
  · have a1 : decide ((k : Int) + 1 ≤ 4) = false := decide_eq_false (by omega)
    try simp (maxSteps := 2000000) only [↓RG, RP, RB, BEq.rfl, Int.reduceEq, Int.reduceLT, Int.reduceLE, Nat.reduceEqDiff, a1]
    exact (hK x5).sub
end
end Go.Proofs.YtokbiojkpldfeaaGreat.S
