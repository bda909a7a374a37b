/-
  CHAPTER 9: the statements' own functions (without the reference).
-/
import Derived.Test.YtokbiojkpldfeaaGreatLevels
namespace Go.Proofs.YtokbiojkpldfeaaGreat.S
open Go Go.Proofs
set_option linter.unusedVariables false
set_option linter.unusedSimpArgs false

/-! ### what is put into a row that is put into another one -/
theorem putC_putC_self {a x y : Int} : ∀ {z : List TCell}, putC (putC z a x) a y = putC z a y
  | [] => by simp [putC]
  | c :: z => by
    by_cases h : c.place = a
    · simp [putC, h]
    · simp [putC, h, putC_putC_self (z := z)]
theorem putC_comm {a d x y : Int} (hd : a ≠ d) : ∀ {z : List TCell}, (lookC z a).isSome → putC (putC z d y) a x = putC (putC z a x) d y
  | [], h => by simp [lookC] at h
  | c :: z, h => by
    by_cases h1 : c.place = a
    · have h2 : ¬ c.place = d := fun e => hd (h1.symm.trans e)
      simp [putC, h1, hd]
    · by_cases h2 : c.place = d
      · have h3 : ¬ d = a := fun e => hd e.symm
        simp [putC, h1, h2, h3]
      · have : (lookC z a).isSome := by simpa [lookC, h1] using h
        simp [putC, h1, h2, putC_comm hd this]
theorem lookC_put_some {z : List TCell} {a d y : Int} (h : (lookC z a).isSome) : (lookC (putC z d y) a).isSome := by
  rw [lookC_put]; split
  · rfl
  · exact h
theorem putsC_last {a x : Int} : ∀ {cs : List TCell} {z : List TCell}, (∀ c ∈ cs, c.place ≠ a) → (lookC z a).isSome → putC (putsC z cs) a x = putsC (putC z a x) cs
  | [], z, _, _ => rfl
  | c :: cs, z, h, hz => by
    have hc := h c (by simp)
    rw [putsC_cons, putsC_cons, putsC_last (fun d hd => h d (by simp [hd])) (lookC_put_some hz), putC_comm (fun e => hc e.symm) hz]
theorem putsC_put {a x : Int} : ∀ {cs : List TCell} {z : List TCell}, (cs.map (·.place)).Nodup → putsC z (putC cs a x) = putC (putsC z cs) a x
  | [], z, _ => rfl
  | c :: cs, z, h => by
    rw [List.map_cons, List.nodup_cons] at h
    by_cases hc : c.place = a
    · subst hc
      have hn : ∀ d ∈ cs, d.place ≠ c.place := fun d hd e => h.1 (List.mem_map.2 ⟨d, hd, e⟩)
      have hs : (lookC (putC z c.place c.word) c.place).isSome := by rw [lookC_put]; simp
      show putsC z (putC (c :: cs) c.place x) = _
      rw [show putC (c :: cs) c.place x = ⟨c.place, x⟩ :: cs by simp [putC], putsC_cons, putsC_cons, putsC_last hn hs, putC_putC_self]
    · rw [show putC (c :: cs) a x = c :: putC cs a x by simp [putC, hc], putsC_cons, putsC_cons, putsC_put h.2]

/-! ### asks without levels -/
def isFree (q : AskLevels) : Bool := decide (IntKind.wrap .i64 ((BitVec.ofInt 64 q.kind &&& BitVec.ofInt 64 3).toNat) = 3)
def flat1 (r : Lv) (q : AskLevels) : Lv := if isFree q = true then ⟨r.c, r.f ++ [q.place]⟩ else ⟨putC r.c (within q.place 1 20) q.v, r.f⟩
def flatR (r : Lv) (l : List AskLevels) : Lv := l.foldl flat1 r

theorem okAt_within {n : Int} : okAt (within n 1 20) = true := by
  have := within_le (n := n) (show (1 : Int) ≤ 20 by omega)
  rw [okAt_iff]; omega
theorem flat1_ok {r : Lv} {q : AskLevels} (h : OkC r.c) : OkC (flat1 r q).c := by
  unfold flat1
  split
  · exact h
  · exact h.put okAt_within
theorem flatR_ok : ∀ {l : List AskLevels} {r : Lv}, OkC r.c → OkC (flatR r l).c
  | [], r, h => h
  | q :: l, r, h => flatR_ok (l := l) (r := flat1 r q) (flat1_ok h)
theorem flat1_c {r : Lv} {q : AskLevels} : r.c.length ≤ (flat1 r q).c.length ∧ (flat1 r q).c.length ≤ r.c.length + 1 := by
  unfold flat1
  split
  · simp
  · exact putC_le
theorem flat1_f {r : Lv} {q : AskLevels} : (flat1 r q).f.length ≤ r.f.length + 1 := by
  unfold flat1
  split <;> simp
theorem flatR_c : ∀ {l : List AskLevels} {r : Lv}, r.c.length ≤ (flatR r l).c.length ∧ (flatR r l).c.length ≤ r.c.length + l.length
  | [], r => by simp [flatR]
  | q :: l, r => by
    have h1 := flatR_c (l := l) (r := flat1 r q)
    have h2 := flat1_c (r := r) (q := q)
    show r.c.length ≤ (flatR (flat1 r q) l).c.length ∧ (flatR (flat1 r q) l).c.length ≤ r.c.length + (l.length + 1)
    omega
theorem flatR_f : ∀ {l : List AskLevels} {r : Lv}, (flatR r l).f.length ≤ r.f.length + l.length
  | [], r => by simp [flatR]
  | q :: l, r => by
    have h1 := flatR_f (l := l) (r := flat1 r q)
    have h2 := flat1_f (r := r) (q := q)
    show (flatR (flat1 r q) l).f.length ≤ r.f.length + (l.length + 1)
    omega
theorem flatR_take {l : List AskLevels} {r : Lv} {k : Nat} (hk : k < l.length) : flatR r (l.take (k + 1)) = flat1 (flatR r (l.take k)) l[k] := by
  unfold flatR
  rw [List.take_add_one, List.getElem?_eq_getElem hk, List.foldl_append]; rfl
/-- a level that is kept is as if it had not been there -/
theorem flatR_from : ∀ {l : List AskLevels} {r q : Lv}, OkC q.c → ∀ {z : Lv}, z = ⟨putsC r.c q.c, r.f ++ q.f⟩ → flatR z l = ⟨putsC r.c (flatR q l).c, r.f ++ (flatR q l).f⟩
  | [], r, q, _, z, e => e
  | a :: l, r, q, h, z, e => by
    show flatR (flat1 z a) l = ⟨putsC r.c (flatR (flat1 q a) l).c, r.f ++ (flatR (flat1 q a) l).f⟩
    refine flatR_from (flat1_ok h) ?_
    subst e
    unfold flat1
    split
    · simp
    · simp only [putsC_put h.nodup]

section
variable {w0 : Base} {L M : List Asn} {K : KV} {F : World → Prop} {C : Asn → List Asn} {b : Nat} {s : LvS}

def nil1 : Lv := ⟨[], []⟩
def deep (j : Nat) : LvS := ⟨5, nil1, List.replicate j nil1⟩
theorem deep_open {j : Nat} : lOpen (deep j) = if 6 ≤ j + 1 then (deep j, 9) else (deep (j + 1), 0) := by
  unfold lOpen deep
  simp only [List.length_replicate]
  split
  · rfl
  · rfl
theorem deep_keep {j : Nat} : lKeep (deep (j + 1)) = (deep j, 0) := rfl
theorem deep_drop {j : Nat} : lDrop (deep (j + 1)) = (deep j, 0) := rfl
theorem deep_frees {j : Nat} : (deep j).frees = [] := by
  unfold deep LvS.frees
  simp [freesR, nil1]
theorem deep_cells : (deep 0).cells = [] := rfl

theorem bit01 (x : Int) : IntKind.wrap .u8 (BitVec.ofInt IntKind.u8.bits x &&& BitVec.ofInt IntKind.u8.bits 1).toNat = 0 ∨ IntKind.wrap .u8 (BitVec.ofInt IntKind.u8.bits x &&& BitVec.ofInt IntKind.u8.bits 1).toNat = 1 := by
  have h : (BitVec.ofInt 8 x &&& BitVec.ofInt 8 1).toNat = (BitVec.ofInt 8 x).toNat % 2 := by
    rw [BitVec.toNat_and, show (BitVec.ofInt 8 1).toNat = 1 from rfl, Nat.and_one_is_mod]
  show IntKind.wrap .u8 (((BitVec.ofInt 8 x &&& BitVec.ofInt 8 1).toNat : Nat) : Int) = 0 ∨ IntKind.wrap .u8 (((BitVec.ofInt 8 x &&& BitVec.ofInt 8 1).toNat : Nat) : Int) = 1
  rw [h]
  rcases Nat.mod_two_eq_zero_or_one (BitVec.ofInt 8 x).toNat with e | e <;> rw [e]
  · exact .inl rfl
  · exact .inr rfl

/-! ### so much room -/
def placesR (l : List Lv) : List Int := l.flatMap fun q => q.c.map (·.place)
/-- behind j puts at the places 1, 2, .. -/
structure InvR (n j u : Nat) (z : LvS) : Prop where
  most : z.most = n
  total : totalC (z.r :: z.up) = min j n
  up : z.up.length ≤ u
  places : ∀ a ∈ placesR (z.r :: z.up), 1 ≤ a ∧ a ≤ (min j n : Nat)
  inmost : ∀ a : Int, 5 ≤ a → a ≤ (min j n : Nat) → (idxC z.r.c a).isSome = true
  nodup : (placesR (z.r :: z.up)).Nodup

theorem placesR_cons {r : Lv} {l : List Lv} : placesR (r :: l) = r.c.map (·.place) ++ placesR l := rfl
theorem InvR.room {n j u : Nat} {z : LvS} (h : InvR n j u z) : z.room = ((n - min j n : Nat) : Int) := by
  unfold LvS.room
  rw [h.total, h.most]; omega
theorem InvR.opened {n j u : Nat} {z : LvS} (h : InvR n j u z) (hj : j < 5) : InvR n j (u + 1) ⟨z.most, ⟨[], []⟩, z.r :: z.up⟩ :=
  ⟨h.most, by rw [totalC_cons]; simpa using h.total, by have := h.up; simp; omega, by rw [placesR_cons]; simpa using h.places, fun a h1 h2 => by omega, by rw [placesR_cons]; simpa using h.nodup⟩
theorem InvR.more {n j u u' : Nat} {z : LvS} (h : InvR n j u z) (hu : u ≤ u') : InvR n j u' z := ⟨h.most, h.total, Nat.le_trans h.up hu, h.places, h.inmost, h.nodup⟩
theorem InvR.free {n j u : Nat} {z : LvS} (h : InvR n j u z) {a : Int} (ha : (min j n : Nat) < a) {q : Lv} (hq : q ∈ z.r :: z.up) : idxC q.c a = none := by
  cases e : idxC q.c a with
  | none => rfl
  | some k =>
    obtain ⟨h1, h2, _⟩ := idxC_some e
    have := h.places a (List.mem_flatMap.2 ⟨q, hq, List.mem_map.2 ⟨_, List.getElem_mem h1, h2⟩⟩)
    omega

theorem inv_put {n j u : Nat} {z : LvS} (h : InvR n j u z) (hn : n ≤ 29) : (j + 1 ≤ n ∧ lErr z ((j + 1 : Nat) : Int) = 0 ∧ InvR n (j + 1) u (z.put ((j + 1 : Nat) : Int) 7)) ∨ (¬ j + 1 ≤ n ∧ (j ≤ 100 → lErr z ((j + 1 : Nat) : Int) = 5) ∧ InvR n (j + 1) u z) := by
  have hf : idxC z.r.c ((j + 1 : Nat) : Int) = none := h.free (by omega) (by simp)
  by_cases hj : j + 1 ≤ n
  · left
    have hr : ¬ z.room = 0 := by rw [h.room]; omega
    have e := (idxC_none hf).1 7
    refine ⟨hj, ?_, h.most, ?_, h.up, ?_, fun a h1 h2 => ?_, ?_⟩
    · unfold lErr
      rw [if_pos (okAt_iff.2 ⟨by omega, by omega⟩), hf, if_neg (by simp), if_neg hr]
    · have := h.total
      rw [totalC_cons] at this
      show totalC (⟨putC z.r.c _ 7, z.r.f⟩ :: z.up) = _
      rw [totalC_cons]
      simp only [e, List.length_append, List.length_singleton]
      omega
    · show ∀ a ∈ placesR (⟨putC z.r.c _ 7, z.r.f⟩ :: z.up), _
      intro a ha
      rw [placesR_cons] at ha
      have hp := h.places a
      rw [placesR_cons] at hp
      simp only [e, List.map_append, List.map_cons, List.map_nil, List.mem_append, List.mem_singleton] at ha hp
      rcases ha with (ha | ha) | ha
      · have := hp (.inl ha); omega
      · omega
      · have := hp (.inr ha); omega
    · show (idxC (putC z.r.c _ 7) a).isSome = true
      rw [idxC_isSome, lookC_put]
      split
      · rfl
      · rw [← idxC_isSome]; exact h.inmost a h1 (by omega)
    · show (placesR (⟨putC z.r.c _ 7, z.r.f⟩ :: z.up)).Nodup
      have hd := h.nodup
      rw [placesR_cons] at hd ⊢
      simp only [e, List.map_append, List.map_cons, List.map_nil]
      have hp := h.places
      rw [placesR_cons] at hp
      rw [List.append_assoc, List.nodup_append] at *
      refine ⟨hd.1, ?_, fun a ha b hb => ?_⟩
      · rw [List.singleton_append, List.nodup_cons]
        refine ⟨fun hm => ?_, hd.2.1⟩
        have := hp _ (List.mem_append_right _ hm); omega
      · rcases List.mem_append.1 hb with hb | hb
        · rw [List.mem_singleton.1 hb]
          have := hp a (List.mem_append_left _ ha); omega
        · exact hd.2.2 a ha b hb
  · right
    have hr : z.room = 0 := by rw [h.room]; omega
    have hm : min (j + 1) n = min j n := by omega
    refine ⟨hj, fun h100 => ?_, h.most, by rw [hm]; exact h.total, h.up, by rw [hm]; exact h.places, by rw [hm]; exact h.inmost, h.nodup⟩
    unfold lErr
    rw [if_pos (okAt_iff.2 ⟨by omega, by omega⟩), hf, if_neg (by simp), if_pos hr]

theorem cells_len : ∀ {l : List Lv} {out : List TCell}, (out.map (·.place) ++ placesR l).Nodup → (l.foldl (fun out q => putsC q.c out) out).length = out.length + totalC l
  | [], out, _ => by simp [totalC]
  | r :: l, out, h => by
    rw [placesR_cons] at h
    have h' : ((r.c ++ out).map (·.place)).Nodup := by
      rw [← List.append_assoc] at h
      rw [List.map_append]
      exact List.perm_append_comm.nodup_iff.1 (List.nodup_append.1 h).1
    rw [List.foldl_cons, putsC_new h', cells_len, List.length_append, totalC_cons]
    · omega
    · rw [List.map_append]
      refine (List.Perm.nodup_iff ?_).1 h
      rw [← List.append_assoc]
      exact List.perm_append_comm.append_right _

end
end Go.Proofs.YtokbiojkpldfeaaGreat.S
