/-
  CHAPTER 18, plain laws: a heap parted into blocks; tables in it; drafts that know it; rows; a step.
-/
import Derived.Test.YtokbiojkpldfeaaGreatKeep
set_option linter.unusedVariables false
set_option linter.unusedSimpArgs false
namespace Go.Proofs.YtokbiojkpldfeaaGreat.S
open Go Go.Proofs

/-! ### a heap as a function; blocks -/
abbrev Hp := Int → Int
def hput (h : Hp) (a x : Int) : Hp := fun p => if p = a then x else h p
theorem hput_same {h : Hp} {a x : Int} : hput h a x a = x := if_pos rfl
theorem hput_ne {h : Hp} {a x p : Int} (e : p ≠ a) : hput h a x p = h p := if_neg e

abbrev Bk := Int × Int
def bsz (c : Int) : Int := if c = 1 then 2 else if c = 2 then 4 else if c = 3 then 8 else 16
theorem bsz_le {c : Int} : 2 ≤ bsz c ∧ bsz c ≤ 16 := by unfold bsz; repeat' (first | omega | split)
def Body (b : Bk) (p : Int) : Prop := b.1 ≤ p ∧ p < b.1 + bsz b.2
def Contig : Int → List Bk → Int → Prop
  | p, [], e => p = e
  | p, b :: l, e => b.1 = p + 1 ∧ 1 ≤ b.2 ∧ b.2 ≤ 4 ∧ Contig (p + 1 + bsz b.2) l e

theorem contig_le {l : List Bk} : ∀ {p e : Int}, Contig p l e → p ≤ e := by
  induction l with
  | nil => intro p e h; exact Int.le_of_eq h
  | cons b l ih => intro p e h; have := ih h.2.2.2; have := bsz_le (c := b.2); omega
theorem contig_mem {l : List Bk} {b : Bk} : ∀ {p e : Int}, Contig p l e → b ∈ l → p + 1 ≤ b.1 ∧ b.1 + bsz b.2 ≤ e ∧ 1 ≤ b.2 ∧ b.2 ≤ 4 := by
  induction l with
  | nil => intro p e h hb; cases hb
  | cons c l ih =>
    intro p e h hb
    have hc := contig_le h.2.2.2
    have := bsz_le (c := c.2)
    rcases List.mem_cons.1 hb with rfl | hb
    · have h1 := h.1; have h2 := h.2.1; have h3 := h.2.2.1; omega
    · have := ih h.2.2.2 hb; omega
theorem contig_apart {l : List Bk} {b b' : Bk} : ∀ {p e : Int}, Contig p l e → b ∈ l → b' ∈ l → b = b' ∨ b.1 + bsz b.2 < b'.1 ∨ b'.1 + bsz b'.2 < b.1 := by
  induction l with
  | nil => intro p e h hb; cases hb
  | cons c l ih =>
    intro p e h hb hb'
    have h1 := h.1
    rcases List.mem_cons.1 hb with e | hb <;> rcases List.mem_cons.1 hb' with e' | hb'
    · exact .inl (e.trans e'.symm)
    · have := contig_mem h.2.2.2 hb'; subst e; omega
    · have := contig_mem h.2.2.2 hb; subst e'; omega
    · exact ih h.2.2.2 hb hb'
theorem contig_snoc {l : List Bk} {c : Int} (h1 : 1 ≤ c) (h4 : c ≤ 4) : ∀ {p e : Int}, Contig p l e → Contig p (l ++ [(e + 1, c)]) (e + 1 + bsz c) := by
  induction l with
  | nil => intro p e h; have h : p = e := h; subst h; exact ⟨rfl, h1, h4, rfl⟩
  | cons b l ih => intro p e h; exact ⟨h.1, h.2.1, h.2.2.1, ih h.2.2.2⟩
theorem contig_nodup {l : List Bk} : ∀ {p e : Int}, Contig p l e → l.Nodup := by
  induction l with
  | nil => intro p e h; exact List.nodup_nil
  | cons b l ih =>
    intro p e h
    refine List.nodup_cons.2 ⟨fun hb => ?_, ih h.2.2.2⟩
    have := contig_mem h.2.2.2 hb
    have h1 := h.1
    have := bsz_le (c := b.2)
    omega

/-- a list of free blocks: each one's first word names the next -/
def Fl (h : Hp) : Int → List Int → Prop
  | a, [] => a = 0
  | a, b :: l => a = b ∧ b ≠ 0 ∧ Fl h (h b) l
theorem Fl.frame {h h' : Hp} {l : List Int} : ∀ {a : Int}, Fl h a l → (∀ b ∈ l, h' b = h b) → Fl h' a l := by
  induction l with
  | nil => intro a H _; exact H
  | cons b l ih =>
    intro a H e
    refine ⟨H.1, H.2.1, ?_⟩
    rw [e b (by simp)]
    exact ih H.2.2 (fun c hc => e c (by simp [hc]))
theorem Fl.eq0 {h : Hp} {l : List Int} (H : Fl h 0 l) : l = [] := by
  cases l with
  | nil => rfl
  | cons b l => exact absurd H.1.symm H.2.1
theorem Fl.ne0 {h : Hp} {a : Int} {l : List Int} (H : Fl h a l) (ha : a ≠ 0) : ∃ l', l = a :: l' ∧ Fl h (h a) l' := by
  cases l with
  | nil => exact absurd H ha
  | cons b l => obtain ⟨rfl, _, H⟩ := H; exact ⟨l, rfl, H⟩

/-! ### a parted heap: B its live blocks, R those that rest -/
structure ArenaW (h : Hp) (B R sh : List Bk) (fl : Int → List Int) : Prop where
  parted : Contig 14 sh (h 5)
  top : h 5 ≤ 256
  sub : ∀ b ∈ B, b ∈ sh
  nodup : B.Nodup
  hdr : ∀ b ∈ sh, h (b.1 - 1) = if b ∈ B then b.2 + 8 else b.2
  free : ∀ c, 1 ≤ c → c ≤ 4 → Fl h (h c) (fl c) ∧ (fl c).Nodup ∧ ∀ a ∈ fl c, (a, c) ∈ sh ∧ (a, c) ∉ B
  rest : ∀ b ∈ R, b ∈ sh ∧ b ∉ B ∧ b.1 ∉ fl b.2
  rnd : R.Nodup
def Arena (S0 : List Bk) (h : Hp) (B R : List Bk) : Prop := ∃ sh fl, ArenaW h B R sh fl ∧ S0 <+: sh

section
variable {h h' : Hp} {B R sh : List Bk} {S0 : List Bk} {fl : Int → List Int} {a c p x : Int} {b b' : Bk}

theorem ArenaW.mem (A : ArenaW h B R sh fl) (hb : b ∈ sh) : 15 ≤ b.1 ∧ b.1 + bsz b.2 ≤ h 5 ∧ b.1 + bsz b.2 ≤ 256 ∧ 1 ≤ b.2 ∧ b.2 ≤ 4 := by
  have := contig_mem A.parted hb
  have := A.top
  omega
theorem ArenaW.apart (A : ArenaW h B R sh fl) (hb : b ∈ sh) (hb' : b' ∈ sh) : b = b' ∨ b.1 + bsz b.2 < b'.1 ∨ b'.1 + bsz b'.2 < b.1 := contig_apart A.parted hb hb'
theorem ArenaW.body (A : ArenaW h B R sh fl) (hb : b ∈ sh) (hb' : b' ∈ sh) (h1 : Body b p) (h2 : Body b' p) : b = b' := by
  have := A.apart hb hb'
  unfold Body at h1 h2
  rcases this with e | e | e
  · exact e
  · omega
  · omega
theorem ArenaW.head_body (A : ArenaW h B R sh fl) (hb : b ∈ sh) (hb' : b' ∈ sh) (h1 : Body b p) : p ≠ b'.1 - 1 := by
  have := A.apart hb hb'
  have := bsz_le (c := b'.2)
  unfold Body at h1
  rcases A.apart hb hb' with rfl | e | e
  · omega
  · omega
  · omega
theorem ArenaW.head_head (A : ArenaW h B R sh fl) (hb : b ∈ sh) (hb' : b' ∈ sh) (e : b.1 = b'.1) : b = b' := by
  have := A.apart hb hb'
  have := bsz_le (c := b.2)
  have := bsz_le (c := b'.2)
  rcases A.apart hb hb' with e | e | e
  · exact e
  · omega
  · omega
theorem body_self (hb : b ∈ sh) : Body b b.1 := by have := bsz_le (c := b.2); unfold Body; omega
theorem body_fst : Body (a, c) a := by have := bsz_le (c := c); unfold Body; simp only; omega

theorem ArenaW.frame (A : ArenaW h B R sh fl) (e5 : h' 5 = h 5) (ec : ∀ c, 1 ≤ c → c ≤ 4 → h' c = h c) (eh : ∀ b ∈ sh, h' (b.1 - 1) = h (b.1 - 1)) (ef : ∀ c, 1 ≤ c → c ≤ 4 → ∀ a ∈ fl c, h' a = h a) : ArenaW h' B R sh fl := by
  refine ⟨by rw [e5]; exact A.parted, by rw [e5]; exact A.top, A.sub, A.nodup, fun b hb => by rw [eh b hb]; exact A.hdr b hb, fun c h1 h4 => ?_, A.rest, A.rnd⟩
  obtain ⟨f1, f2, f3⟩ := A.free c h1 h4
  exact ⟨by rw [ec c h1 h4]; exact f1.frame (ef c h1 h4), f2, f3⟩
theorem ArenaW.upd_body (A : ArenaW h B R sh fl) (hb : b ∈ B) (hp : Body b p) : ArenaW (hput h p x) B R sh fl := by
  have hs := A.sub b hb
  have hm := A.mem hs
  have hp2 : 15 ≤ p := by unfold Body at hp; omega
  refine A.frame (hput_ne (by omega)) (fun c h1 h4 => hput_ne (by omega)) (fun b' hb' => hput_ne (Ne.symm (A.head_body hs hb' hp))) (fun c h1 h4 a ha => hput_ne fun e => ?_)
  obtain ⟨g1, g2⟩ := (A.free c h1 h4).2.2 a ha
  subst e
  have := A.body hs g1 hp body_fst
  subst this
  exact g2 hb
theorem ArenaW.upd_root (A : ArenaW h B R sh fl) (h6 : 6 ≤ p) (h14 : p < 14) : ArenaW (hput h p x) B R sh fl := by
  refine A.frame (hput_ne (by omega)) (fun c h1 h4 => hput_ne (by omega)) (fun b' hb' => hput_ne (by have := A.mem hb'; omega)) (fun c h1 h4 a ha => hput_ne fun e => ?_)
  have := A.mem ((A.free c h1 h4).2.2 a ha).1
  simp only at this
  omega
theorem Arena.upd_body (A : Arena S0 h B R) (hb : b ∈ B) (hp : Body b p) : Arena S0 (hput h p x) B R := by
  obtain ⟨sh, fl, A, hS⟩ := A
  exact ⟨sh, fl, A.upd_body hb hp, hS⟩
theorem Arena.upd_root (A : Arena S0 h B R) (h6 : 6 ≤ p) (h14 : p < 14) : Arena S0 (hput h p x) B R := by
  obtain ⟨sh, fl, A, hS⟩ := A
  exact ⟨sh, fl, A.upd_root h6 h14, hS⟩
theorem Arena.perm (A : Arena S0 h B R) {B' : List Bk} (e : B.Perm B') : Arena S0 h B' R := by
  obtain ⟨sh, fl, A, hS⟩ := A
  refine ⟨sh, fl, ⟨A.parted, A.top, fun b hb => A.sub b (e.mem_iff.2 hb), e.nodup_iff.1 A.nodup, fun b hb => ?_, fun c h1 h4 => ?_, fun b hb => ?_, A.rnd⟩, hS⟩
  · rw [A.hdr b hb]; simp only [e.mem_iff]
  · obtain ⟨f1, f2, f3⟩ := A.free c h1 h4
    exact ⟨f1, f2, fun a ha => ⟨(f3 a ha).1, fun hb => (f3 a ha).2 (e.mem_iff.2 hb)⟩⟩
  · obtain ⟨g1, g2, g3⟩ := A.rest b hb
    exact ⟨g1, fun hb => g2 (e.mem_iff.2 hb), g3⟩

/-- the first free block of a class is taken -/
theorem ArenaW.reuse (A : ArenaW h B R sh fl) (h1 : 1 ≤ c) (h4 : c ≤ 4) (ha : h c = a) (h0 : a ≠ 0) :
    (a, c) ∈ sh ∧ (a, c) ∉ B ∧ ∃ fl', ArenaW (hput (hput h c (h a)) (a - 1) (c + 8)) ((a, c) :: B) R sh fl' := by
  obtain ⟨f1, f2, f3⟩ := A.free c h1 h4
  rw [ha] at f1
  obtain ⟨l, el, fl2⟩ := f1.ne0 h0
  obtain ⟨g1, g2⟩ := f3 a (by rw [el]; simp)
  have hm := A.mem g1
  simp only at hm
  rw [el, List.nodup_cons] at f2
  refine ⟨g1, g2, fun c' => if c' = c then l else fl c', ?_⟩
  refine ⟨?_, ?_, ?_, List.nodup_cons.2 ⟨g2, A.nodup⟩, ?_, ?_, ?_, A.rnd⟩
  · rw [hput_ne (by omega), hput_ne (by omega)]; exact A.parted
  · rw [hput_ne (by omega), hput_ne (by omega)]; exact A.top
  · intro b hb
    rcases List.mem_cons.1 hb with rfl | hb
    · exact g1
    · exact A.sub b hb
  · intro b hb
    have hmb := A.mem hb
    by_cases e : b = (a, c)
    · subst e
      simp [hput_same]
    · have ne : b.1 - 1 ≠ a - 1 := fun e2 => e (A.head_head hb g1 (by simp only; omega))
      rw [hput_ne ne, hput_ne (by omega), A.hdr b hb]
      simp [e]
  · intro c' h1' h4'
    obtain ⟨k1, k2, k3⟩ := A.free c' h1' h4'
    have fr : ∀ (l' : List Int), (∀ b ∈ l', b ∈ fl c') → ∀ b ∈ l', hput (hput h c (h a)) (a - 1) (c + 8) b = h b := fun l' hl' b hb => by
      have hb1 := (k3 b (hl' b hb)).1
      have := A.mem hb1
      have h3 := A.head_body hb1 g1 body_fst
      simp only at this h3
      rw [hput_ne h3, hput_ne (by omega)]
    by_cases e : c' = c
    · subst e
      rw [if_pos rfl, hput_ne (by omega), hput_same]
      have hll : ∀ b ∈ l, b ∈ fl c' := fun b hb => by rw [el]; simp [hb]
      refine ⟨fl2.frame (fr l hll), f2.2, fun b hb => ⟨(k3 b (hll b hb)).1, fun h2 => ?_⟩⟩
      rcases List.mem_cons.1 h2 with e2 | h2
      · have : b = a := congrArg Prod.fst e2
        subst this
        exact f2.1 hb
      · exact (k3 b (hll b hb)).2 h2
    · rw [if_neg e, hput_ne (by omega), hput_ne (by omega)]
      refine ⟨k1.frame (fr _ fun b hb => hb), k2, fun b hb => ⟨(k3 b hb).1, fun h2 => ?_⟩⟩
      rcases List.mem_cons.1 h2 with e2 | h2
      · exact e (congrArg Prod.snd e2)
      · exact (k3 b hb).2 h2
  · intro b hb
    obtain ⟨r1, r2, r3⟩ := A.rest b hb
    refine ⟨r1, fun h2 => ?_, ?_⟩
    · rcases List.mem_cons.1 h2 with e2 | h2
      · subst e2; apply r3; simp only; rw [el]; simp
      · exact r2 h2
    · split
      · rename_i e; rw [e, el] at r3; exact fun h => r3 (by simp [h])
      · exact r3
/-- a block of unused words is taken -/
theorem ArenaW.grown (A : ArenaW h B R sh fl) (h1 : 1 ≤ c) (h4 : c ≤ 4) (hw : h 5 + 1 + bsz c ≤ 256) :
    (h 5 + 1, c) ∉ sh ∧ (∀ b ∈ sh, b.1 + bsz b.2 ≤ h 5) ∧ ArenaW (hput (hput h 5 (h 5 + 1 + bsz c)) (h 5) (c + 8)) ((h 5 + 1, c) :: B) R (sh ++ [(h 5 + 1, c)]) fl := by
  have hle := contig_le A.parted
  have hbz := bsz_le (c := c)
  have hn : (h 5 + 1, c) ∉ sh := fun hb => by have := A.mem hb; simp only at this; omega
  have hall : ∀ b ∈ sh, b.1 + bsz b.2 ≤ h 5 := fun b hb => (A.mem hb).2.1
  refine ⟨hn, hall, ?_⟩
  refine ⟨?_, ?_, ?_, List.nodup_cons.2 ⟨fun hb => hn (A.sub _ hb), A.nodup⟩, ?_, ?_, ?_, A.rnd⟩
  · rw [hput_ne (by omega), hput_same]; exact contig_snoc h1 h4 A.parted
  · rw [hput_ne (by omega), hput_same]; exact hw
  · intro b hb
    rcases List.mem_cons.1 hb with rfl | hb
    · simp
    · exact List.mem_append_left _ (A.sub b hb)
  · intro b hb
    rcases List.mem_append.1 hb with hb | hb
    · have hm := A.mem hb
      have := bsz_le (c := b.2)
      have e : b ≠ (h 5 + 1, c) := fun e => hn (e ▸ hb)
      rw [hput_ne (by omega), hput_ne (by omega), A.hdr b hb]
      simp [e]
    · rw [List.mem_singleton] at hb
      subst hb
      simp only
      rw [show h 5 + 1 - 1 = h 5 by omega, hput_same]
      simp
  · intro c' h1' h4'
    obtain ⟨k1, k2, k3⟩ := A.free c' h1' h4'
    rw [hput_ne (by omega), hput_ne (by omega)]
    refine ⟨k1.frame fun b hb => ?_, k2, fun b hb => ⟨List.mem_append_left _ (k3 b hb).1, fun h2 => ?_⟩⟩
    · have hm := A.mem (k3 b hb).1
      have := bsz_le (c := c')
      simp only at hm
      rw [hput_ne (by omega), hput_ne (by omega)]
    · rcases List.mem_cons.1 h2 with e2 | h2
      · exact hn (e2 ▸ (k3 b hb).1)
      · exact (k3 b hb).2 h2
  · intro b hb
    obtain ⟨r1, r2, r3⟩ := A.rest b hb
    refine ⟨List.mem_append_left _ r1, fun h2 => ?_, r3⟩
    rcases List.mem_cons.1 h2 with e2 | h2
    · exact hn (e2 ▸ r1)
    · exact r2 h2
/-- a live block is freed: it rests -/
theorem ArenaW.rests (A : ArenaW h ((a, c) :: B) R sh fl) : ArenaW (hput h (a - 1) c) B ((a, c) :: R) sh fl := by
  have hs := A.sub (a, c) (by simp)
  have hm := A.mem hs
  simp only at hm
  have hn := List.nodup_cons.1 A.nodup
  refine ⟨?_, ?_, fun b hb => A.sub b (by simp [hb]), hn.2, ?_, ?_, ?_, ?_⟩
  · rw [hput_ne (by omega)]; exact A.parted
  · rw [hput_ne (by omega)]; exact A.top
  · intro b hb
    by_cases e : b = (a, c)
    · subst e; simp [hput_same, hn.1]
    · have ne : b.1 - 1 ≠ a - 1 := fun e2 => e (A.head_head hb hs (by simp only; omega))
      rw [hput_ne ne, A.hdr b hb]
      simp [e]
  · intro c' h1' h4'
    obtain ⟨k1, k2, k3⟩ := A.free c' h1' h4'
    rw [hput_ne (by omega)]
    refine ⟨k1.frame fun b hb => ?_, k2, fun b hb => ⟨(k3 b hb).1, fun h2 => (k3 b hb).2 (by simp [h2])⟩⟩
    exact hput_ne (A.head_body (k3 b hb).1 hs body_fst)
  · intro b hb
    rcases List.mem_cons.1 hb with rfl | hb
    · refine ⟨hs, hn.1, fun hf => ?_⟩
      exact ((A.free c (by omega) (by omega)).2.2 a hf).2 (by simp)
    · obtain ⟨r1, r2, r3⟩ := A.rest b hb
      exact ⟨r1, fun h2 => r2 (by simp [h2]), r3⟩
  · exact List.nodup_cons.2 ⟨fun hr => (A.rest _ hr).2.1 (by simp), A.rnd⟩
/-- a block that rests is given back -/
theorem ArenaW.give (A : ArenaW h B ((a, c) :: R) sh fl) : ∃ fl', ArenaW (hput (hput h a (h c)) c a) B R sh fl' := by
  obtain ⟨r1, r2, r3⟩ := A.rest (a, c) (by simp)
  have hm := A.mem r1
  simp only at hm r3
  have hn := List.nodup_cons.1 A.rnd
  refine ⟨fun c' => if c' = c then a :: fl c else fl c', ?_⟩
  refine ⟨?_, ?_, A.sub, A.nodup, ?_, ?_, ?_, hn.2⟩
  · rw [hput_ne (by omega), hput_ne (by omega)]; exact A.parted
  · rw [hput_ne (by omega), hput_ne (by omega)]; exact A.top
  · intro b hb
    have h3 := A.head_body r1 hb body_fst
    have := A.mem hb
    rw [hput_ne (by omega), hput_ne (by omega), A.hdr b hb]
  · intro c' h1' h4'
    obtain ⟨k1, k2, k3⟩ := A.free c' h1' h4'
    have fr : a ∉ fl c' → ∀ b ∈ fl c', hput (hput h a (h c)) c a b = h b := fun ha b hb => by
      have hb1 := (k3 b hb).1
      have := A.mem hb1
      simp only at this
      rw [hput_ne (by omega), hput_ne (show b ≠ a from fun e => ha (e ▸ hb))]
    by_cases e : c' = c
    · subst e
      rw [if_pos rfl, hput_same]
      refine ⟨⟨rfl, by omega, ?_⟩, List.nodup_cons.2 ⟨r3, k2⟩, fun b hb => ?_⟩
      · rw [hput_ne (by omega), hput_same]
        exact k1.frame (fr r3)
      · rcases List.mem_cons.1 hb with rfl | hb
        · exact ⟨r1, r2⟩
        · exact k3 b hb
    · rw [if_neg e, hput_ne (by omega), hput_ne (by omega)]
      refine ⟨k1.frame (fr fun ha => ?_), k2, k3⟩
      have := A.head_head r1 (k3 a ha).1 rfl
      exact e (congrArg Prod.snd this).symm
  · intro b hb
    obtain ⟨q1, q2, q3⟩ := A.rest b (by simp [hb])
    refine ⟨q1, q2, ?_⟩
    split
    · rename_i e
      intro hf
      rw [← e] at hf
      rcases List.mem_cons.1 hf with e2 | hf
      · exact hn.1 (by rw [show (a, c) = b from Prod.ext e2.symm e.symm]; exact hb)
      · exact q3 hf
    · exact q3
end
end Go.Proofs.YtokbiojkpldfeaaGreat.S

/-! ### nodes, chains, tables -/
namespace Go.Proofs.YtokbiojkpldfeaaGreat.S
open Go Go.Proofs
structure Nd where
  n : Int
  k : Int
  v : Int
/-- a chain, named by a word -/
def NC (h : Hp) : Int → List Nd → Prop
  | a, [] => a = 0
  | a, x :: l => a = x.n ∧ h x.n = x.k ∧ h (x.n + 1) = x.v ∧ NC h (h (x.n + 2)) l
/-- the word behind some nodes -/
def lk : Int → List Nd → Int
  | p, [] => p
  | _, x :: l => lk (x.n + 2) l
/-- nodes that lie apart, and apart from a place -/
def Ap (p : Int) : List Nd → Prop
  | [] => True
  | x :: l => (p < x.n ∨ x.n + 2 < p) ∧ Ap p l ∧ Ap x.n l ∧ Ap (x.n + 1) l ∧ Ap (x.n + 2) l
theorem Ap.of {l : List Nd} : ∀ {p : Int}, (∀ x ∈ l, p < x.n ∨ x.n + 2 < p) → l.Pairwise (fun x y => x.n + 2 < y.n ∨ y.n + 2 < x.n) → Ap p l := by
  induction l with
  | nil => intro p _ _; trivial
  | cons x l ih =>
    intro p h1 h2
    rw [List.pairwise_cons] at h2
    have g : ∀ q, x.n ≤ q → q ≤ x.n + 2 → Ap q l := fun q q1 q2 => ih (fun y hy => by have := h2.1 y hy; omega) h2.2
    exact ⟨h1 x (by simp), ih (fun y hy => h1 y (by simp [hy])) h2.2, g _ (by omega) (by omega), g _ (by omega) (by omega), g _ (by omega) (by omega)⟩
theorem Ap.left {l l' : List Nd} : ∀ {p : Int}, Ap p (l ++ l') → Ap p l := by
  induction l with
  | nil => intro p _; trivial
  | cons x l ih => intro p h; exact ⟨h.1, ih h.2.1, ih h.2.2.1, ih h.2.2.2.1, ih h.2.2.2.2⟩
/-- where the word behind some nodes lies -/
theorem lk_in {l : List Nd} : ∀ {p : Int}, lk p l = p ∨ ∃ x ∈ l, lk p l = x.n + 2 := by
  induction l with
  | nil => intro p; exact .inl rfl
  | cons x l ih =>
    intro p
    rcases ih (p := x.n + 2) with e | ⟨y, hy, e⟩
    · exact .inr ⟨x, by simp, e⟩
    · exact .inr ⟨y, by simp [hy], e⟩
theorem Ap.mem {l : List Nd} : ∀ {p : Int} {x : Nd}, Ap p l → x ∈ l → p < x.n ∨ x.n + 2 < p := by
  induction l with
  | nil => intro p x _ h; cases h
  | cons y l ih =>
    intro p x h hx
    rcases List.mem_cons.1 hx with rfl | hx
    · exact h.1
    · exact ih h.2.1 hx
theorem lk_ne {l : List Nd} {p q : Int} (hp : q ≠ p) (h : ∀ x ∈ l, q ≠ x.n + 2) : lk p l ≠ q := by
  rcases lk_in (p := p) (l := l) with e | ⟨y, hy, e⟩
  · rw [e]; exact hp.symm
  · rw [e]; exact (h y hy).symm
theorem lk_append {l l' : List Nd} : ∀ {p : Int}, lk p (l ++ l') = lk (lk p l) l' := by
  induction l with
  | nil => intro p; rfl
  | cons x l ih => intro p; exact ih
theorem NC.split {h : Hp} {l l' : List Nd} : ∀ {p : Int}, NC h (h p) (l ++ l') → NC h (h (lk p l)) l' := by
  induction l with
  | nil => intro p H; exact H
  | cons x l ih => intro p H; exact ih H.2.2.2
theorem NC.frame {h h' : Hp} {l : List Nd} : ∀ {a : Int}, NC h a l → (∀ x ∈ l, h' x.n = h x.n ∧ h' (x.n + 1) = h (x.n + 1) ∧ h' (x.n + 2) = h (x.n + 2)) → NC h' a l := by
  induction l with
  | nil => intro a H _; exact H
  | cons x l ih =>
    intro a H e
    obtain ⟨e0, e1, e2⟩ := e x (by simp)
    refine ⟨H.1, by rw [e0]; exact H.2.1, by rw [e1]; exact H.2.2.1, ?_⟩
    rw [e2]
    exact ih H.2.2.2 fun y hy => e y (by simp [hy])
/-- the word behind some nodes is written over -/
theorem NC.splice {h h' : Hp} {l l2 l2' : List Nd} : ∀ {p : Int}, NC h (h p) (l ++ l2) → Ap p l → (∀ z, z ≠ lk p l → (z = p ∨ ∃ x ∈ l, z = x.n ∨ z = x.n + 1 ∨ z = x.n + 2) → h' z = h z) → NC h' (h' (lk p l)) l2' → NC h' (h' p) (l ++ l2') := by
  induction l with
  | nil => intro p _ _ _ H; exact H
  | cons x l ih =>
    intro p H ha e H2
    obtain ⟨a1, a2, a3, a4, a5⟩ := ha
    have ne : ∀ q, Ap q l → q ≠ x.n + 2 → q ≠ lk p (x :: l) := fun q hq hx => by
      refine Ne.symm (lk_ne (p := x.n + 2) hx fun y hy => ?_)
      have := hq.mem hy
      omega
    have ep : h' p = h p := e p (ne p a2 (by omega)) (.inl rfl)
    have e0 : h' x.n = h x.n := e _ (ne _ a3 (by omega)) (.inr ⟨x, by simp, .inl rfl⟩)
    have e1 : h' (x.n + 1) = h (x.n + 1) := e _ (ne _ a4 (by omega)) (.inr ⟨x, by simp, .inr (.inl rfl)⟩)
    refine ⟨by rw [ep]; exact H.1, by rw [e0]; exact H.2.1, by rw [e1]; exact H.2.2.1, ?_⟩
    refine ih H.2.2.2 a5 (fun z hz hz2 => e z hz ?_) H2
    rcases hz2 with rfl | ⟨y, hy, hz2⟩
    · exact .inr ⟨x, by simp, .inr (.inr rfl)⟩
    · exact .inr ⟨y, by simp [hy], hz2⟩

structure TD where
  H : Int
  C : Int
  W : Int
  ls : List (List Nd)
abbrev TD.nodes (t : TD) : List Nd := t.ls.flatten
def clW (W : Int) : Int := if W = 2 then 1 else if W = 4 then 2 else if W = 8 then 3 else 4
def ndB (l : List Nd) : List Bk := l.map fun x => (x.n, 2)
def TD.blks (t : TD) : List Bk := (t.H, 2) :: (t.C, clW t.W) :: ndB t.nodes
def obB : Option TD → List Bk
  | none => []
  | some t => t.blks
theorem bsz_2 : bsz 2 = 4 := rfl
theorem bsz_clW {W : Int} (h : W = 2 ∨ W = 4 ∨ W = 8 ∨ W = 16) : bsz (clW W) = W := by rcases h with rfl | rfl | rfl | rfl <;> rfl

structure TabW (ch : Int → Int → Int) (h : Hp) (r : Int) (t : TD) : Prop where
  root : h r = t.H
  cnt : h t.H = t.nodes.length
  wide : h (t.H + 1) = t.W
  chains : h (t.H + 2) = t.C
  okW : t.W = 2 ∨ t.W = 4 ∨ t.W = 8 ∨ t.W = 16
  len : (t.ls.length : Int) = t.W
  seg : ∀ (i : Nat) l, t.ls[i]? = some l → NC h (h (t.C + i)) l ∧ ∀ x ∈ l, ch x.k t.W = i
  keys : (t.nodes.map (·.k)).Nodup
def Tab (ch : Int → Int → Int) (h : Hp) (r : Int) : Option TD → Prop
  | none => h r = 0
  | some t => TabW ch h r t

section
variable {ch : Int → Int → Int} {h h' : Hp} {r a c p x : Int} {t : TD} {o : Option TD} {B R : List Bk} {S0 : List Bk}
theorem TabW.frame (A : TabW ch h r t) (er : h' r = h r) (eb : ∀ b ∈ t.blks, ∀ p, Body b p → h' p = h p) : TabW ch h' r t := by
  have hH : ∀ j, 0 ≤ j → j < 4 → h' (t.H + j) = h (t.H + j) := fun j h0 h4 => eb (t.H, 2) (by simp [TD.blks]) _ (by unfold Body; simp only [bsz_2]; omega)
  have hH0 := hH 0 (by omega) (by omega)
  rw [Int.add_zero] at hH0
  refine ⟨by rw [er]; exact A.root, by rw [hH0]; exact A.cnt, by rw [hH 1 (by omega) (by omega)]; exact A.wide, by rw [hH 2 (by omega) (by omega)]; exact A.chains, A.okW, A.len, fun i l hl => ?_, A.keys⟩
  have hi : i < t.ls.length := (List.getElem?_eq_some_iff.1 hl).1
  have e : h' (t.C + i) = h (t.C + i) := eb (t.C, clW t.W) (by simp [TD.blks]) _ (by
    unfold Body
    simp only [bsz_clW A.okW]
    have := A.len
    omega)
  obtain ⟨s1, s2⟩ := A.seg i l hl
  refine ⟨?_, s2⟩
  rw [e]
  refine s1.frame fun x hx => ?_
  have hm : ((x.n, 2) : Bk) ∈ t.blks := by
    have : x ∈ t.nodes := List.mem_flatten.2 ⟨l, List.mem_of_getElem? hl, hx⟩
    simp only [TD.blks, ndB, List.mem_cons, List.mem_map]
    exact .inr (.inr ⟨x, this, rfl⟩)
  have hx2 : ∀ j, 0 ≤ j → j < 4 → h' (x.n + j) = h (x.n + j) := fun j h0 h4 => eb _ hm _ (by unfold Body; simp only [bsz_2]; omega)
  have hx0 := hx2 0 (by omega) (by omega)
  rw [Int.add_zero] at hx0
  exact ⟨hx0, hx2 1 (by omega) (by omega), hx2 2 (by omega) (by omega)⟩
theorem Tab.frame (A : Tab ch h r o) (er : h' r = h r) (eb : ∀ b ∈ obB o, ∀ p, Body b p → h' p = h p) : Tab ch h' r o := by
  cases o with
  | none => show h' r = 0; rw [er]; exact A
  | some t => exact TabW.frame (t := t) A er eb
end
end Go.Proofs.YtokbiojkpldfeaaGreat.S

/-! ### views and drafts that know a heap's words -/
namespace Go.Proofs.YtokbiojkpldfeaaGreat.S
open Go Go.Proofs
theorem i64e {n : Int} (h1 : -9223372036854775808 ≤ n) (h2 : n < 9223372036854775808) : w64 n = n := wi64 (by omega) (by omega)
theorem u64e {n : Int} (h1 : 0 ≤ n) (h2 : n < 18446744073709551616) : wU n = n := wu64 (by omega) (by omega)
/-- what stays: another root, blocks that are not to be touched; what is known; the heap ahead -/
structure Cx where
  r' : Int
  Bf : List Bk
  K : List TCell
  h0 : Hp
def Cx.T (X : Cx) (p : Int) : Prop := 1 ≤ p ∧ p < 256 ∧ p ≠ X.r' ∧ ∀ b ∈ X.Bf, ¬ Body b p
structure Vr (X : Cx) (h : Hp) (n : Nat) (f : List Int) (s : VwS) : Prop where
  size : s.size = 256
  up : s.l.up = []
  most : s.l.most = 96
  rf : s.l.r.f = f
  k : s.k = X.K
  few : s.l.r.c.length ≤ n
  pos : ∀ c ∈ s.l.r.c, X.T c.place
  nod : (s.l.r.c.map (·.place)).Nodup
  rd : ∀ a, X.T a → (match lookC s.l.r.c a with | some x => some x | none => lookC s.k a) = some (h a)
  off : ∀ p, ¬ X.T p → h p = X.h0 p
structure Dr (X : Cx) (h : Hp) (n m : Nat) (f : List Int) (d : DrS) : Prop where
  err : d.err = 0
  st : 0 ≤ d.steps ∧ d.steps ≤ m
  v : Vr X h n f d.v

theorem putC_map {cs : List TCell} {a x : Int} (hn : (cs.map (·.place)).Nodup) : ((putC cs a x).map (·.place)).Nodup ∧ (∀ c ∈ putC cs a x, c ∈ cs ∨ c.place = a) ∧ (putC cs a x).length ≤ cs.length + 1 := by
  cases hi : idxC cs a with
  | none =>
    obtain ⟨e, _, h3⟩ := idxC_none hi
    rw [e]
    refine ⟨?_, fun c hc => ?_, by simp⟩
    · rw [List.map_append, List.nodup_append]
      refine ⟨hn, by simp, fun p hp q hq => ?_⟩
      simp only [List.map_cons, List.map_nil, List.mem_singleton] at hq
      obtain ⟨c, hc, rfl⟩ := List.mem_map.1 hp
      rw [hq]
      exact h3 c hc
    · rcases List.mem_append.1 hc with hc | hc
      · exact .inl hc
      · rw [List.mem_singleton.1 hc]; exact .inr rfl
  | some j =>
    obtain ⟨hj, h2, e, _⟩ := idxC_some hi
    rw [e]
    refine ⟨?_, fun c hc => ?_, by simp⟩
    · have : (cs.set j ⟨a, x⟩).map (·.place) = cs.map (·.place) := by
        apply List.ext_getElem
        · simp
        · intro i g1 g2
          simp only [List.getElem_map, List.getElem_set]
          split
          · rename_i e; subst e; exact h2.symm
          · rfl
      rw [this]; exact hn
    · rcases List.mem_or_eq_of_mem_set hc with hc | rfl
      · exact .inl hc
      · exact .inr rfl

section
variable {X : Cx} {h h' : Hp} {n m : Nat} {f : List Int} {s : VwS} {d : DrS} {a b x y p c : Int} {Bt R B : List Bk} {S0 : List Bk}

theorem Cx.T.le (t : X.T p) : 1 ≤ p ∧ p < 256 := ⟨t.1, t.2.1⟩
theorem Vr.isV (V : Vr X h n f s) (t : X.T a) : isV s a = true := by have := t.le; unfold S.isV; rw [V.size]; simp; omega
theorem Vr.read (V : Vr X h n f s) (t : X.T a) : vRead s a = (s, h a, 0) := by
  have hr := V.rd a t
  unfold vRead
  rw [if_pos (V.isV t), V.up]
  unfold lookR lookR
  cases h1 : lookC s.l.r.c a with
  | some z => rw [h1] at hr; simp only at hr ⊢; rw [Option.some.inj hr]
  | none => rw [h1] at hr; simp only at hr ⊢; rw [hr]
theorem Vr.lErr (V : Vr X h n f s) (hn : n < 96) (t : X.T a) : lErr s.l a = 0 := by
  have := t.le
  unfold Go.Proofs.YtokbiojkpldfeaaGreat.S.lErr
  rw [if_pos (okAt_iff.2 ⟨by omega, by omega⟩)]
  split
  · rfl
  · have := V.few
    rw [if_neg]
    unfold LvS.room totalC
    rw [V.most, V.up]
    simp only [List.map_cons, List.map_nil, List.sum_cons, List.sum_nil]
    omega
theorem Vr.put (V : Vr X h n f s) (t : X.T a) : Vr X (hput h a x) (n + 1) f (s.log (s.l.put a x)) := by
  obtain ⟨h1, h2, h3⟩ := putC_map (a := a) (x := x) V.nod
  refine ⟨V.size, V.up, V.most, V.rf, V.k, ?_, ?_, h1, ?_, ?_⟩
  · have := V.few
    show (putC s.l.r.c a x).length ≤ _
    omega
  · intro c hc
    rcases h2 c hc with hc | e
    · exact V.pos c hc
    · rw [e]; exact t
  · intro b tb
    show (match lookC (putC s.l.r.c a x) b with | some x => some x | none => lookC s.k b) = _
    rw [lookC_put]
    by_cases e : a = b
    · subst e; rw [if_pos rfl, hput_same]
    · rw [if_neg e, hput_ne (Ne.symm e)]; exact V.rd b tb
  · intro p tp
    rw [hput_ne (show p ≠ a from fun e => tp (by rw [e]; exact t))]; exact V.off p tp
theorem Vr.write (V : Vr X h n f s) (hn : n < 96) (t : X.T a) : vWrite s a x = (s.log (s.l.put a x), 0) := by
  unfold vWrite
  rw [if_pos (V.isV t)]
  simp only [lPut, if_pos (V.lErr hn t)]
  rw [V.lErr hn t]
theorem Vr.take1 (V : Vr X h n f s) (hn : n < 96) (t : X.T a) : ∃ s', vTake s [⟨a, x⟩] = (s', 0) ∧ Vr X (hput h a x) (n + 1) f s' := by
  refine ⟨_, ?_, V.put t⟩
  unfold vTake
  rw [if_pos (by simp [V.isV t])]
  simp only [lTake, lPuts, if_pos (V.lErr hn t), if_true]
theorem Vr.take2 (V : Vr X h n f s) (hn : n + 1 < 96) (t : X.T a) (u : X.T b) : ∃ s', vTake s [⟨a, x⟩, ⟨b, y⟩] = (s', 0) ∧ Vr X (hput (hput h a x) b y) (n + 2) f s' := by
  have V2 := V.put (x := x) t
  refine ⟨_, ?_, V2.put u⟩
  unfold vTake
  rw [if_pos (by simp [V.isV t, V.isV u])]
  have e2 := V2.lErr (by omega) u
  simp only [lTake, lPuts, if_pos (V.lErr (by omega) t), if_true, if_pos e2]
theorem Vr.fr (V : Vr X h n f s) : Vr X h n (f ++ [b]) (s.log (s.l.free b)) := ⟨V.size, V.up, V.most, by show s.l.r.f ++ [b] = _; rw [V.rf], V.k, V.few, V.pos, V.nod, V.rd, V.off⟩

theorem dFail_0 {d : DrS} (h : d.err = 0) (v : VwS) : dFail { d with v := v } 0 = { d with v := v } := by unfold dFail; rw [if_pos h]; cases d; cases h; rfl
theorem Dr.read (D : Dr X h n m f d) (t : X.T a) : dRead d a = (d, h a) := by
  unfold dRead
  rw [if_pos D.err, D.v.read t]
  simp only
  rw [dFail_0 D.err]
theorem Dr.place (D : Dr X h n m f d) (t : X.T a) (h1 : 0 ≤ h a) (h2 : h a < 2147483648) : dPlace d a = (d, h a) := by
  unfold dPlace
  rw [D.read t]
  unfold dName
  rw [if_neg (by omega), i64e (by omega) (by omega)]
theorem Dr.write (D : Dr X h n m f d) (hn : n < 96) (t : X.T a) : Dr X (hput h a x) (n + 1) m f (dWrite d a x) := by
  unfold dWrite
  rw [if_pos D.err, D.v.write hn t]
  simp only
  rw [dFail_0 D.err]
  exact ⟨D.err, D.st, D.v.put t⟩
theorem Dr.point (D : Dr X h n m f d) (hn : n < 96) (t : X.T a) (h0 : 0 ≤ x) (h1 : x < 18446744073709551616) : Dr X (hput h a x) (n + 1) m f (dPoint d a x) := by
  unfold dPoint
  rw [u64e h0 h1]
  exact D.write hn t
theorem Dr.step (D : Dr X h n m f d) (hm : m < 2048) : Dr X h n (m + 1) f (dStep d) ∧ (dStep d).err = 0 ∧ (dStep d).steps = d.steps + 1 := by
  have := D.st
  unfold dStep
  rw [i64e (n := d.steps + 1) (by omega) (by omega), if_neg (by omega)]
  exact ⟨⟨D.err, ⟨by show 0 ≤ d.steps + 1; omega, by show d.steps + 1 ≤ _; omega⟩, D.v⟩, D.err, rfl⟩

/-! ### places that may be touched -/
theorem T_low (A : Arena S0 h (Bt ++ X.Bf) R) (hr : 6 ≤ X.r') (h1 : 1 ≤ p) (h5 : p ≤ 5) : X.T p := by
  obtain ⟨sh, fl, A, hS⟩ := A
  refine ⟨h1, by omega, by omega, fun b hb hp => ?_⟩
  have := A.mem (A.sub b (by simp [hb]))
  unfold Body at hp
  omega
theorem T_root (A : Arena S0 h (Bt ++ X.Bf) R) (h6 : 6 ≤ p) (h14 : p < 14) (hp : p ≠ X.r') : X.T p := by
  obtain ⟨sh, fl, A, hS⟩ := A
  refine ⟨by omega, by omega, hp, fun b hb hp => ?_⟩
  have := A.mem (A.sub b (by simp [hb]))
  unfold Body at hp
  omega
theorem ArenaW.T_sh {sh : List Bk} {fl : Int → List Int} (A : ArenaW h (Bt ++ X.Bf) R sh fl) (hr : X.r' < 14) {b : Bk} (hb : b ∈ sh) (hf : b ∉ X.Bf) (hp : Body b p) : X.T p := by
  have hm := A.mem hb
  have hp2 := hp
  unfold Body at hp2
  refine ⟨by omega, by omega, by omega, fun b' hb' hp' => ?_⟩
  have := A.body hb (A.sub b' (by simp [hb'])) hp hp'
  subst this
  exact hf hb'
theorem ArenaW.T_hd {sh : List Bk} {fl : Int → List Int} (A : ArenaW h (Bt ++ X.Bf) R sh fl) (hr : X.r' < 14) {b : Bk} (hb : b ∈ sh) : X.T (b.1 - 1) := by
  have hm := A.mem hb
  have := bsz_le (c := b.2)
  refine ⟨by omega, by omega, by omega, fun b' hb' hp' => ?_⟩
  exact A.head_body (A.sub b' (by simp [hb'])) hb hp' rfl
theorem T_body (A : Arena S0 h (Bt ++ X.Bf) R) (hr : X.r' < 14) {b : Bk} (hb : b ∈ Bt) (hp : Body b p) : X.T p := by
  obtain ⟨sh, fl, A, hS⟩ := A
  refine A.T_sh hr (A.sub b (by simp [hb])) (fun hf => ?_) hp
  exact (List.nodup_append.1 A.nodup).2.2 b hb b hf rfl
theorem Arena.bnd (A : Arena S0 h B R) {b : Bk} (hb : b ∈ B) : 15 ≤ b.1 ∧ b.1 + bsz b.2 ≤ 256 ∧ 1 ≤ b.2 ∧ b.2 ≤ 4 := by
  obtain ⟨sh, fl, A, hS⟩ := A
  have := A.mem (A.sub b hb)
  omega
theorem Arena.apart (A : Arena S0 h B R) {b b' : Bk} (hb : b ∈ B) (hb' : b' ∈ B) (hp : Body b p) (hp' : Body b' p) : b = b' := by
  obtain ⟨sh, fl, A, hS⟩ := A
  exact A.body (A.sub b hb) (A.sub b' hb') hp hp'
theorem Arena.nodup (A : Arena S0 h B R) : B.Nodup := by obtain ⟨sh, fl, A, hS⟩ := A; exact A.nodup

/-- a block is taken, or there is no room -/
structure Took (S0 : List Bk) (X : Cx) (h : Hp) (n m : Nat) (f : List Int) (Bt R : List Bk) (c : Int) (d' : DrS) (b : Int) (h' : Hp) : Prop where
  dr : Dr X h' (n + 2) m f d'
  ar : Arena S0 h' (((b, c) :: Bt) ++ X.Bf) R
  rt : ∀ p, 6 ≤ p → p < 14 → h' p = h p
  bd : ∀ x ∈ Bt, ∀ p, Body x p → h' p = h p
  bp : h' 5 ≤ h 5 + 1 + bsz c

theorem aSize_ok (h1 : 1 ≤ c) (h4 : c ≤ 4) : aSize c = bsz c := by
  rcases (by omega : c = 1 ∨ c = 2 ∨ c = 3 ∨ c = 4) with rfl | rfl | rfl | rfl <;> rfl
theorem aHead_ok (h1 : 1 ≤ c) (h4 : c ≤ 4) : aHead c = c := by unfold aHead; rw [i64e (by omega) (by omega)]; omega

theorem Dr.alloc {sz : Int} (D : Dr X h n m f d) (hr : 6 ≤ X.r' ∧ X.r' < 14) (hn : n + 2 ≤ 96) (A : Arena S0 h (Bt ++ X.Bf) R) (hc : aClass sz = c) (h1 : 1 ≤ c) (h4 : c ≤ 4) :
    (∃ h', Took S0 X h n m f Bt R c (dAlloc d sz).1 (dAlloc d sz).2 h') ∨ ((dAlloc d sz).1.err = 4 ∧ 256 < h 5 + 1 + bsz c) := by
  have hTc := T_low A hr.1 h1 (by omega)
  have hT5 := T_low A hr.1 (show 1 ≤ (5 : Int) by omega) (by omega)
  obtain ⟨sh, fl, A, hS⟩ := A
  have hz := bsz_le (c := c)
  unfold dAlloc
  rw [if_pos D.err]
  unfold aAlloc
  rw [hc, if_neg (by omega), aHead_ok h1 h4, D.v.read hTc]
  simp only [if_true]
  by_cases h0 : h c = 0
  · rw [if_pos h0]
    unfold aGrown
    rw [D.v.read hT5]
    simp only [if_true]
    have hle := contig_le A.parted
    have htop := A.top
    rw [aSize_ok h1 h4, i64e (n := h 5) (by omega) (by omega), i64e (n := h 5 + 1) (by omega) (by omega), i64e (n := h 5 + 1 + bsz c) (by omega) (by omega), D.v.size]
    by_cases hfull : 256 < h 5 + 1 + bsz c
    · right
      rw [if_pos (.inr (.inr (show ((256 : Nat) : Int) < _ by omega)))]
      refine ⟨?_, hfull⟩
      unfold dFail
      rw [if_pos D.err]
    · left
      rw [if_neg (by omega)]
      obtain ⟨g1, g2, A2⟩ := A.grown h1 h4 (by omega)
      have tw : X.T (h 5) := by
        refine ⟨by omega, by omega, by omega, fun b hb hp => ?_⟩
        have := g2 b (A.sub b (by simp [hb]))
        unfold Body at hp
        omega
      obtain ⟨s', es, V⟩ := D.v.take2 (x := h 5 + 1 + bsz c) (y := c + 8) (by omega) hT5 tw
      have eg : grownC (h 5) c = [⟨5, h 5 + 1 + bsz c⟩, ⟨h 5, c + 8⟩] := by
        unfold grownC
        rw [aSize_ok h1 h4, i64e (n := h 5) (by omega) (by omega), i64e (n := h 5 + 1) (by omega) (by omega), i64e (n := h 5 + 1 + bsz c) (by omega) (by omega), i64e (n := c + 8) (by omega) (by omega), u64e (n := h 5 + 1 + bsz c) (by omega) (by omega), u64e (n := c + 8) (by omega) (by omega)]
      rw [eg, es]
      simp only [if_true]
      rw [dFail_0 D.err]
      refine ⟨_, ⟨D.err, D.st, V⟩, ⟨_, _, A2, hS.trans (List.prefix_append _ _)⟩, fun p h6 h14 => ?_, fun x hx p hp => ?_, ?_⟩
      · rw [hput_ne (by omega), hput_ne (by omega)]
      · have hs := A.sub x (by simp [hx])
        have := g2 x hs
        have := A.mem hs
        unfold Body at hp
        rw [hput_ne (by omega), hput_ne (by omega)]
      · rw [hput_ne (by omega), hput_same]; exact Int.le_refl _
  · left
    rw [if_neg h0]
    obtain ⟨g1, g2, fl', A2⟩ := A.reuse h1 h4 rfl h0
    have hm := A.mem g1
    simp only at hm
    unfold aAgain
    have ta : X.T (h c) := A.T_sh hr.2 g1 (fun hf => g2 (by simp [hf])) body_fst
    have th : X.T (h c - 1) := A.T_hd hr.2 g1
    rw [if_neg (by omega), i64e (n := h c) (by omega) (by omega), D.v.read ta]
    simp only [if_true]
    rw [aHead_ok h1 h4, i64e (n := h c - 1) (by omega) (by omega), i64e (n := c + 8) (by omega) (by omega), u64e (n := c + 8) (by omega) (by omega)]
    obtain ⟨s', es, V⟩ := D.v.take2 (x := h (h c)) (y := c + 8) (by omega) hTc th
    rw [es]
    simp only [if_true]
    rw [dFail_0 D.err]
    refine ⟨_, ⟨D.err, D.st, V⟩, ⟨_, _, A2, hS⟩, fun p h6 h14 => ?_, fun x hx p hp => ?_, ?_⟩
    · rw [hput_ne (by omega), hput_ne (by omega)]
    · have hs := A.sub x (by simp [hx])
      have := A.mem hs
      have := A.head_body hs g1 hp
      unfold Body at hp
      rw [hput_ne this, hput_ne (by omega)]
    · rw [hput_ne (by omega), hput_ne (by omega)]; omega

/-- a live block is freed -/
theorem aHeader_ok {lv : Bool} (h1 : 1 ≤ c) (h4 : c ≤ 4) : aHeader (if lv = true then c + 8 else c) = (c, lv) := by
  rcases (by omega : c = 1 ∨ c = 2 ∨ c = 3 ∨ c = 4) with rfl | rfl | rfl | rfl <;> cases lv <;> rfl
theorem aAsked_ok {b : Int} {lv : Bool} (V : Vr X h n f s) (hb : 15 ≤ b ∧ b < 256) (t : X.T (b - 1)) (h1 : 1 ≤ c) (h4 : c ≤ 4) (e : h (b - 1) = if lv = true then c + 8 else c) : aAsked s b = (s, c, lv, 0) := by
  unfold aAsked
  rw [if_neg (by rw [V.size]; omega), i64e (n := b - 1) (by omega) (by omega), V.read t]
  simp only [if_true]
  rw [e, aHeader_ok h1 h4]
  simp only
  rw [if_neg (by omega)]
theorem Dr.free {b : Int} (D : Dr X h n m f d) (hr : X.r' < 14) (hn : n < 96) (A : Arena S0 h (((b, c) :: Bt) ++ X.Bf) R) :
    Dr X (hput h (b - 1) c) (n + 1) m (f ++ [b]) (dFree d b) ∧ Arena S0 (hput h (b - 1) c) (Bt ++ X.Bf) ((b, c) :: R) := by
  obtain ⟨sh, fl, A, hS⟩ := A
  have hs := A.sub (b, c) (by simp)
  have hm := A.mem hs
  simp only at hm
  have hz := bsz_le (c := c)
  have th : X.T (b - 1) := A.T_hd hr hs
  have eh := A.hdr _ hs
  rw [if_pos (by simp)] at eh
  simp only at eh
  refine ⟨?_, _, _, A.rests, hS⟩
  unfold dFree
  rw [if_pos D.err]
  unfold aFree aFreeIn
  rw [aAsked_ok (lv := true) (c := c) D.v (by omega) th (by omega) (by omega) (by rw [if_pos rfl]; exact eh)]
  simp only [if_true]
  rw [i64e (n := b - 1) (by omega) (by omega), u64e (n := c) (by omega) (by omega)]
  obtain ⟨s', es, V⟩ := D.v.take1 (x := c) hn th
  rw [es]
  simp only [if_true]
  rw [dFail_0 D.err]
  exact ⟨D.err, D.st, V.fr⟩
/-- a block that rests is given back -/
theorem Vr.give {b : Int} (V : Vr X h n f s) (hr : 6 ≤ X.r' ∧ X.r' < 14) (hn : n + 1 < 96) (A : Arena S0 h (Bt ++ X.Bf) ((b, c) :: R)) :
    ∃ s', aGive s b = (s', 0) ∧ Vr X (hput (hput h b (h c)) c b) (n + 2) f s' ∧ Arena S0 (hput (hput h b (h c)) c b) (Bt ++ X.Bf) R ∧
      (∀ x ∈ Bt ++ X.Bf, ∀ p, Body x p → hput (hput h b (h c)) c b p = h p) ∧ ∀ p, 6 ≤ p → p < 14 → hput (hput h b (h c)) c b p = h p := by
  have hTc : 1 ≤ c → c ≤ 4 → X.T c := fun h1 h4 => T_low A hr.1 h1 (by omega)
  obtain ⟨sh, fl, A, hS⟩ := A
  obtain ⟨r1, r2, r3⟩ := A.rest (b, c) (by simp)
  have hm := A.mem r1
  simp only at hm
  have hz := bsz_le (c := c)
  have th : X.T (b - 1) := A.T_hd hr.2 r1
  have tb : X.T b := A.T_sh hr.2 r1 (fun hf => r2 (by simp [hf])) body_fst
  have eh := A.hdr _ r1
  rw [if_neg r2] at eh
  simp only at eh
  obtain ⟨fl', A2⟩ := A.give
  unfold aGive aGiveIn
  rw [aAsked_ok (lv := false) (c := c) V (by omega) th (by omega) (by omega) (by rw [if_neg (by decide)]; exact eh)]
  simp only [if_true]
  rw [aHead_ok (by omega) (by omega), V.read (hTc (by omega) (by omega))]
  simp only [if_true, Bool.false_eq_true, if_false]
  rw [u64e (n := b) (by omega) (by omega)]
  obtain ⟨s', es, V2⟩ := V.take2 (x := h c) (y := b) hn tb (hTc (by omega) (by omega))
  refine ⟨s', es, V2, ⟨_, _, A2, hS⟩, fun x hx p hp => ?_, fun p h6 h14 => by rw [hput_ne (by omega), hput_ne (by omega)]⟩
  have hxs := A.sub x hx
  have := A.mem hxs
  have hp2 := hp
  unfold Body at hp2
  rw [hput_ne (by omega), hput_ne fun e => ?_]
  subst e
  have := A.body hxs r1 hp body_fst
  subst this
  exact r2 hx
end
end Go.Proofs.YtokbiojkpldfeaaGreat.S
/-! ### the table's functions on a draft -/
namespace Go.Proofs.YtokbiojkpldfeaaGreat.S
open Go Go.Proofs
abbrev ch := tChain
theorem ch_lt {k W : Int} (h : W = 2 ∨ W = 4 ∨ W = 8 ∨ W = 16) : 0 ≤ ch k W ∧ ch k W < W := tChain_lt (by omega) (by omega)
def NdsT (X : Cx) (l : List Nd) : Prop := ∀ x ∈ l, 15 ≤ x.n ∧ x.n + 4 ≤ 256 ∧ X.T x.n ∧ X.T (x.n + 1) ∧ X.T (x.n + 2)
def NdsA (l : List Nd) : Prop := l.Pairwise fun x y => x.n + 2 < y.n ∨ y.n + 2 < x.n

section
variable {X : Cx} {h h' : Hp} {n m : Nat} {f : List Int} {s : VwS} {d : DrS} {a b x y p c k root : Int} {Bt R B : List Bk} {S0 : List Bk} {t : TD} {o : Option TD}

theorem ndsA_perm {l l' : List Nd} (h : NdsA l) (e : l.Perm l') : NdsA l' := e.pairwise h (fun h => h.symm)
theorem mem_blks {x : Nd} (hx : x ∈ t.nodes) : ((x.n, 2) : Bk) ∈ t.blks := by
  simp only [TD.blks, ndB, List.mem_cons, List.mem_map]
  exact .inr (.inr ⟨x, hx, rfl⟩)
theorem body_of {q : Int} (h0 : a ≤ q) (h1 : q < a + bsz c) : Body (a, c) q := ⟨h0, h1⟩
theorem ndsT_of (A : Arena S0 h (Bt ++ X.Bf) R) (hr : X.r' < 14) {l : List Nd} (hs : ∀ x ∈ l, ((x.n, 2) : Bk) ∈ Bt) : NdsT X l := by
  intro x hx
  have hb := hs x hx
  have := A.bnd (b := (x.n, 2)) (by simp [hb])
  simp only [bsz_2] at this
  exact ⟨by omega, by omega, T_body A hr hb (body_of (by omega) (by rw [bsz_2]; omega)), T_body A hr hb (body_of (by omega) (by rw [bsz_2]; omega)), T_body A hr hb (body_of (by omega) (by rw [bsz_2]; omega))⟩
theorem nodup_ndsA (A : Arena S0 h B R) {l : List Nd} (hs : ∀ x ∈ l, ((x.n, 2) : Bk) ∈ B) (hn : (ndB l).Nodup) : NdsA l := by
  unfold ndB at hn
  rw [List.nodup_iff_pairwise_ne, List.pairwise_map] at hn
  have hz : ∀ {x y : Nd}, x ∈ l → y ∈ l → ((x.n, 2) : Bk) ≠ (y.n, 2) → x.n + 2 < y.n ∨ y.n + 2 < x.n := by
    intro x y hx hy ne
    obtain ⟨sh, fl, A, hS⟩ := A
    have := A.apart (A.sub _ (hs x hx)) (A.sub _ (hs y hy))
    simp only [bsz_2] at this
    rcases this with e | e | e
    · exact absurd e ne
    · omega
    · omega
  exact List.Pairwise.imp_of_mem (fun hx hy ne => hz hx hy ne) hn

theorem open_none (D : Dr X h n m f d) (tr : X.T root) (e : h root = 0) : tOpen d root = (d, ⟨0, 0, 0, 0⟩) := by
  unfold tOpen
  rw [D.place tr (by omega) (by omega), e]
  simp only [if_true]
theorem badWide_ok {W : Int} (h : W = 2 ∨ W = 4 ∨ W = 8 ∨ W = 16) : badWide W = false := by rcases h with rfl | rfl | rfl | rfl <;> decide
/-- where a table's words lie -/
theorem tab_bnd (A : Arena S0 h (Bt ++ X.Bf) R) (hr : X.r' < 14) (hs : ∀ b ∈ t.blks, b ∈ Bt) (hW : t.W = 2 ∨ t.W = 4 ∨ t.W = 8 ∨ t.W = 16) :
    (15 ≤ t.H ∧ t.H + 4 ≤ 256 ∧ X.T t.H ∧ X.T (t.H + 1) ∧ X.T (t.H + 2)) ∧ 15 ≤ t.C ∧ t.C + t.W ≤ 256 ∧ (∀ i, 0 ≤ i → i < t.W → X.T (t.C + i)) := by
  have hH : ((t.H, 2) : Bk) ∈ Bt := hs _ (by simp [TD.blks])
  have hC : ((t.C, clW t.W) : Bk) ∈ Bt := hs _ (by simp [TD.blks])
  have h1 := A.bnd (b := (t.H, 2)) (by simp [hH])
  have h2 := A.bnd (b := (t.C, clW t.W)) (by simp [hC])
  simp only [bsz_2, bsz_clW hW] at h1 h2
  exact ⟨⟨by omega, by omega, T_body A hr hH (body_of (by omega) (by rw [bsz_2]; omega)), T_body A hr hH (body_of (by omega) (by rw [bsz_2]; omega)), T_body A hr hH (body_of (by omega) (by rw [bsz_2]; omega))⟩, by omega, by omega, fun i h0 h3 => T_body A hr hC (body_of (by omega) (by rw [bsz_clW hW]; omega))⟩
theorem open_some (D : Dr X h n m f d) (A : Arena S0 h (Bt ++ X.Bf) R) (hr : X.r' < 14) (tr : X.T root) (hs : ∀ b ∈ t.blks, b ∈ Bt) (G : TabW ch h root t) : tOpen d root = (d, ⟨t.H, t.W, t.C, t.nodes.length⟩) := by
  obtain ⟨⟨b1, b2, b3, b4, b5⟩, b6, b7, b8⟩ := tab_bnd A hr hs G.okW
  have hW := G.okW
  unfold tOpen
  rw [D.place tr (by rw [G.root]; omega) (by rw [G.root]; omega), G.root]
  simp only
  rw [if_neg (by omega), Int.add_zero, i64e (n := t.H) (by omega) (by omega), i64e (n := t.H + 1) (by omega) (by omega), i64e (n := t.H + 2) (by omega) (by omega), D.read b3]
  simp only
  rw [D.read b4]
  simp only
  rw [G.wide, badWide_ok hW]
  simp only [Bool.false_eq_true, if_false]
  rw [D.place b5 (by rw [G.chains]; omega) (by rw [G.chains]; omega), G.chains, G.cnt, i64e (n := t.W) (by omega) (by omega)]

/-- a chain is gone along -/
theorem seekN_ok : ∀ (l : List Nd) {p : Int} {m : Nat} {d : DrS} {fu : Nat}, Dr X h n m f d → m + l.length + 1 ≤ 2047 → l.length < fu → NC h (h p) l → X.T p → NdsT X l →
    ∃ d', Dr X h n (m + l.length + 1) f d' ∧ ((∃ l1 x l2, l = l1 ++ x :: l2 ∧ x.k = k ∧ (∀ y ∈ l1, y.k ≠ k) ∧ seekN k fu d p = (d', lk p l1, x.n)) ∨ ((∀ y ∈ l, y.k ≠ k) ∧ seekN k fu d p = (d', lk p l, 0))) := by
  intro l
  induction l with
  | nil =>
    intro p m d fu D hm hf H tp ht
    obtain ⟨D2, e2, _⟩ := D.step (by omega)
    refine ⟨dStep d, D2, .inr ⟨by simp, ?_⟩⟩
    obtain ⟨fu, rfl⟩ : ∃ k, fu = k + 1 := ⟨fu - 1, by simp at hf; omega⟩
    have H : h p = 0 := H
    unfold seekN
    rw [if_pos e2, D2.place tp (by omega) (by omega), H]
    simp only [if_true]
    rfl
  | cons x l ih =>
    intro p m d fu D hm hf H tp ht
    obtain ⟨D2, e2, _⟩ := D.step (by omega)
    obtain ⟨fu, rfl⟩ : ∃ k, fu = k + 1 := ⟨fu - 1, by simp at hf; omega⟩
    obtain ⟨h1, h2, h3, h4⟩ := H
    obtain ⟨t1, t2, t3, t4, t5⟩ := ht x (by simp)
    have eu : seekN k (fu + 1) d p = if x.k = k then (dStep d, p, x.n) else seekN k fu (dStep d) (x.n + 2) := by
      conv => lhs; unfold seekN
      rw [if_pos e2, D2.place tp (by omega) (by omega), h1]
      simp only
      rw [if_neg (by omega), Int.add_zero, i64e (n := x.n) (by omega) (by omega), D2.read t3, h2]
      simp only
      rw [i64e (n := x.n + 2) (by omega) (by omega)]
    rw [eu]
    by_cases hk : x.k = k
    · rw [if_pos hk]
      exact ⟨dStep d, ⟨D2.err, by have := D2.st; simp only [List.length_cons]; omega, D2.v⟩, .inl ⟨[], x, l, rfl, hk, by simp, rfl⟩⟩
    · rw [if_neg hk]
      simp only [List.length_cons] at hm hf
      obtain ⟨d', D', r⟩ := ih (p := x.n + 2) (fu := fu) D2 (by omega) (by omega) h4 t5 (fun y hy => ht y (by simp [hy]))
      refine ⟨d', ⟨D'.err, by have := D'.st; simp only [List.length_cons]; omega, D'.v⟩, ?_⟩
      rcases r with ⟨l1, z, l2, e, g1, g2, g3⟩ | ⟨g1, g2⟩
      · refine .inl ⟨x :: l1, z, l2, by rw [e]; rfl, g1, ?_, g3⟩
        intro y hy
        rcases List.mem_cons.1 hy with rfl | hy
        · exact hk
        · exact g2 y hy
      · refine .inr ⟨?_, g2⟩
        intro y hy
        rcases List.mem_cons.1 hy with rfl | hy
        · exact hk
        · exact g1 y hy
theorem sub_nodes {i : Nat} {l : List Nd} (hl : t.ls[i]? = some l) : ∀ x ∈ l, x ∈ t.nodes := fun x hx => List.mem_flatten.2 ⟨l, List.mem_of_getElem? hl, hx⟩
theorem len_nodes {i : Nat} {l : List Nd} (hl : t.ls[i]? = some l) : l.length ≤ t.nodes.length := by
  obtain ⟨hi, e⟩ := List.getElem?_eq_some_iff.1 hl
  have : t.ls = t.ls.take i ++ l :: t.ls.drop (i + 1) := by rw [← e, List.getElem_cons_drop, List.take_append_drop]
  show l.length ≤ t.ls.flatten.length
  rw [this]
  simp
  omega
theorem tSeek_did' (D : Dr X h n m f d) (A : Arena S0 h (Bt ++ X.Bf) R) (hr : X.r' < 14) (hs : ∀ b ∈ t.blks, b ∈ Bt) (G : TabW ch h root t) (hN : t.nodes.length ≤ 100) (hm : m ≤ 1000) {keys : Int} :
    ∃ (i : Nat) (l : List Nd) (d' : DrS), t.ls[i]? = some l ∧ ch k t.W = i ∧ Dr X h n (m + t.nodes.length + 1) f d' ∧
      ((∃ l1 x l2, l = l1 ++ x :: l2 ∧ x.k = k ∧ tSeek d ⟨t.H, t.W, t.C, keys⟩ k = (d', lk (t.C + i) l1, x.n)) ∨ ((∀ y ∈ t.nodes, y.k ≠ k) ∧ tSeek d ⟨t.H, t.W, t.C, keys⟩ k = (d', lk (t.C + i) l, 0))) := by
  obtain ⟨_, b6, b7, b8⟩ := tab_bnd A hr hs G.okW
  have hc := ch_lt (k := k) G.okW
  have hlen := G.len
  have hi : (ch k t.W).toNat < t.ls.length := by omega
  have hcn : ch k t.W = (((ch k t.W).toNat : Nat) : Int) := (Int.toNat_of_nonneg hc.1).symm
  refine ⟨(ch k t.W).toNat, t.ls[(ch k t.W).toNat], ?_⟩
  have hl : t.ls[(ch k t.W).toNat]? = some t.ls[(ch k t.W).toNat] := List.getElem?_eq_getElem hi
  generalize t.ls[(ch k t.W).toNat] = l at hl
  generalize (ch k t.W).toNat = i at hl hi hcn
  obtain ⟨s1, s2⟩ := G.seg i l hl
  have hlN := len_nodes hl
  have hW := G.okW
  have hst := D.st
  obtain ⟨d', D', r⟩ := seekN_ok (k := k) l (p := t.C + i) (fu := fuel d) D (by omega) (by unfold fuel; omega) s1 (b8 i (by omega) (by omega)) (ndsT_of A hr fun x hx => hs _ (mem_blks (sub_nodes hl x hx)))
  have es : tSeek d ⟨t.H, t.W, t.C, keys⟩ k = seekN k (fuel d) d (t.C + i) := by
    unfold tSeek
    show seekN k (fuel d) d (w64 (t.C + ch k t.W)) = _
    rw [hcn, i64e (n := t.C + i) (by omega) (by omega)]
  rw [← es] at r
  refine ⟨d', hl, hcn, ⟨D'.err, by have := D'.st; omega, D'.v⟩, ?_⟩
  rcases r with ⟨l1, z, l2, e, g1, g2, g3⟩ | ⟨g1, g2⟩
  · exact .inl ⟨l1, z, l2, e, g1, g3⟩
  · refine .inr ⟨fun y hy hk => ?_, g2⟩
    obtain ⟨l', hl', hy'⟩ := List.mem_flatten.1 hy
    obtain ⟨j, hj⟩ := List.mem_iff_getElem?.1 hl'
    have := (G.seg j l' hj).2 y hy'
    rw [hk] at this
    have e : j = i := by omega
    subst e
    rw [hl] at hj
    cases hj
    exact g1 y hy' hk
end
end Go.Proofs.YtokbiojkpldfeaaGreat.S
/-! ### a table grows -/
namespace Go.Proofs.YtokbiojkpldfeaaGreat.S
open Go Go.Proofs
theorem ls_split {α : Type} {ls : List α} {i : Nat} {l : α} (h : ls[i]? = some l) : ∃ A B, ls = A ++ l :: B ∧ A.length = i ∧ ∀ l', ls.set i l' = A ++ l' :: B := by
  obtain ⟨hi, e⟩ := List.getElem?_eq_some_iff.1 h
  have e2 : ls = ls.take i ++ l :: ls.drop (i + 1) := by rw [← e, List.getElem_cons_drop, List.take_append_drop]
  refine ⟨ls.take i, ls.drop (i + 1), e2, by simp; omega, fun l' => ?_⟩
  rw [List.set_eq_take_append_cons_drop, if_pos hi]
theorem flatten_set {ls : List (List Nd)} {i : Nat} {l : List Nd} {x : Nd} (h : ls[i]? = some l) : (ls.set i (x :: l)).flatten.Perm (x :: ls.flatten) := by
  obtain ⟨A, B, e, _, e2⟩ := ls_split h
  rw [e2, e]
  simp only [List.flatten_append, List.flatten_cons, List.cons_append]
  exact List.perm_middle
def Grw (h : Hp) (w : Int) (first : List Int) (gl : List (List Nd)) : Prop :=
  (first.length : Int) = w ∧ gl.length = first.length ∧ ∀ (i : Nat) a l, first[i]? = some a → gl[i]? = some l → NC h a l ∧ ∀ x ∈ l, ch x.k w = i
section
variable {X : Cx} {h h' : Hp} {n m : Nat} {f : List Int} {s : VwS} {d : DrS} {a b x y p c k root : Int} {Bt R B : List Bk} {S0 : List Bk} {t : TD} {o : Option TD}

theorem Arena.frame_body (A : Arena S0 h B R) (e : ∀ p, (¬ ∃ b ∈ B, Body b p) → h' p = h p) : Arena S0 h' B R := by
  obtain ⟨sh, fl, A, hS⟩ := A
  have low : ∀ p, p < 15 → h' p = h p := fun p hp => e p fun ⟨b, hb, hp2⟩ => by
    have := A.mem (A.sub b hb)
    unfold Body at hp2
    omega
  refine ⟨sh, fl, A.frame (low 5 (by omega)) (fun c h1 h4 => low c (by omega)) (fun b hb => e _ fun ⟨b', hb', hp⟩ => A.head_body (A.sub b' hb') hb hp rfl) (fun c h1 h4 a ha => e _ fun ⟨b', hb', hp⟩ => ?_), hS⟩
  obtain ⟨g1, g2⟩ := (A.free c h1 h4).2.2 a ha
  have := A.body (A.sub b' hb') g1 hp body_fst
  subst this
  exact g2 hb'
theorem nc_rng {l : List Nd} (H : NC h a l) (ht : NdsT X l) : 0 ≤ a ∧ a < 256 := by
  cases l with
  | nil => have H : a = 0 := H; omega
  | cons x l => have := ht x (by simp); have := H.1; omega
theorem nc_upd {l : List Nd} (H : NC h a l) {q v : Int} (ha : ∀ y ∈ l, q < y.n ∨ y.n + 2 < q) : NC (hput h q v) a l :=
  H.frame fun y hy => by have := ha y hy; exact ⟨hput_ne (by omega), hput_ne (by omega), hput_ne (by omega)⟩
theorem Grw.upd {w : Int} {first : List Int} {gl : List (List Nd)} {q v : Int} (G : Grw h w first gl) (ha : ∀ y ∈ gl.flatten, q < y.n ∨ y.n + 2 < q) : Grw (hput h q v) w first gl := by
  refine ⟨G.1, G.2.1, fun i a l h1 h2 => ?_⟩
  obtain ⟨g1, g2⟩ := G.2.2 i a l h1 h2
  exact ⟨nc_upd g1 fun y hy => ha y (List.mem_flatten.2 ⟨l, List.mem_of_getElem? h2, hy⟩), g2⟩
theorem Grw.frame {w : Int} {first : List Int} {gl : List (List Nd)} (G : Grw h w first gl) (ha : ∀ x ∈ gl.flatten, h' x.n = h x.n ∧ h' (x.n + 1) = h (x.n + 1) ∧ h' (x.n + 2) = h (x.n + 2)) : Grw h' w first gl := by
  refine ⟨G.1, G.2.1, fun i a l h1 h2 => ?_⟩
  obtain ⟨g1, g2⟩ := G.2.2 i a l h1 h2
  exact ⟨g1.frame fun y hy => ha y (List.mem_flatten.2 ⟨l, List.mem_of_getElem? h2, hy⟩), g2⟩

theorem growF_ok {w : Int} {first : List Int} {gl : List (List Nd)} {x : Nd} (D : Dr X h n m f d) (hn : n < 96) (hw : w = 2 ∨ w = 4 ∨ w = 8 ∨ w = 16) (hx : h x.n = x.k) (hv : h (x.n + 1) = x.v) (ht : NdsT X (x :: gl.flatten)) (ha : NdsA (x :: gl.flatten)) (G : Grw h w first gl) :
    ∃ first' gl' v, growF w first d x.n = (first', (growF w first d x.n).2) ∧ Dr X (hput h (x.n + 2) v) (n + 1) m f (growF w first d x.n).2 ∧ Grw (hput h (x.n + 2) v) w first' gl' ∧ gl'.flatten.Perm (x :: gl.flatten) := by
  have hc := ch_lt (k := x.k) hw
  obtain ⟨g1, g2, g3⟩ := G
  obtain ⟨i, hi⟩ : ∃ i : Nat, ch x.k w = (i : Int) := ⟨(ch x.k w).toNat, (Int.toNat_of_nonneg hc.1).symm⟩
  have hif : i < first.length := by omega
  have e1 : first[i]? = some first[i] := List.getElem?_eq_getElem hif
  have e2 : gl[i]? = some (gl[i]'(by omega)) := List.getElem?_eq_getElem (by omega)
  generalize first[i] = a at e1
  generalize gl[i]'(by omega) = l at e2
  obtain ⟨g4, g5⟩ := g3 i a l e1 e2
  obtain ⟨t1, t2, t3, t4, t5⟩ := ht x (by simp)
  have htl : NdsT X l := fun y hy => ht y (by simp; exact .inr ⟨l, List.mem_of_getElem? e2, hy⟩)
  have hr := nc_rng g4 htl
  have ef : growF w first d x.n = (first.set i x.n, dPoint d (x.n + 2) a) := by
    unfold growF
    rw [Int.add_zero, i64e (n := x.n) (by omega) (by omega), D.read t3, i64e (n := x.n + 2) (by omega) (by omega)]
    simp only
    rw [hx]
    show (first.set (ch x.k w).toNat x.n, dPoint d (x.n + 2) (first.getD (ch x.k w).toNat 0)) = _
    rw [hi, Int.toNat_natCast, List.getD_eq_getElem?_getD, e1]
    rfl
  have ha2 := (List.pairwise_cons.1 ha).1
  refine ⟨first.set i x.n, gl.set i (x :: l), a, by rw [ef], by rw [ef]; exact D.point hn t5 hr.1 (by omega), ?_, flatten_set e2⟩
  refine ⟨by simpa using g1, by simpa using g2, fun j b l' h1 h2 => ?_⟩
  have hap : ∀ y ∈ gl.flatten, x.n + 2 < y.n ∨ y.n + 2 < x.n + 2 := fun y hy => by have := ha2 y hy; omega
  by_cases e : i = j
  · subst e
    rw [List.getElem?_set_self hif] at h1
    rw [List.getElem?_set_self (by omega)] at h2
    cases h1
    cases h2
    refine ⟨⟨rfl, ?_, ?_, ?_⟩, fun y hy => ?_⟩
    · rw [hput_ne (by omega)]; exact hx
    · rw [hput_ne (by omega)]; exact hv
    · rw [hput_same]
      exact nc_upd g4 fun y hy => hap y (List.mem_flatten.2 ⟨l, List.mem_of_getElem? e2, hy⟩)
    · rcases List.mem_cons.1 hy with rfl | hy
      · exact hi
      · exact g5 y hy
  · rw [List.getElem?_set_ne e] at h1 h2
    obtain ⟨q1, q2⟩ := g3 j b l' h1 h2
    exact ⟨nc_upd q1 fun y hy => hap y (List.mem_flatten.2 ⟨l', List.mem_of_getElem? h2, hy⟩), q2⟩

/-- nodes of a chain are pointed anew -/
theorem inN_grow {w : Int} (hw : w = 2 ∨ w = 4 ∨ w = 8 ∨ w = 16) : ∀ (l : List Nd) {a : Int} {first : List Int} {gl : List (List Nd)} {h : Hp} {n m : Nat} {d : DrS} {fu : Nat}, Dr X h n m f d → m + l.length ≤ 2047 → n + l.length ≤ 96 → l.length < fu → NC h a l → NdsT X (l ++ gl.flatten) → NdsA (l ++ gl.flatten) → Grw h w first gl →
    ∃ d' h' first' gl', inN (growF w) fu first d a = (first', d') ∧ Dr X h' (n + l.length) (m + l.length) f d' ∧ Grw h' w first' gl' ∧ gl'.flatten.Perm (l ++ gl.flatten) ∧ ∀ p, (∀ x ∈ l, p ≠ x.n + 2) → h' p = h p := by
  intro l
  induction l with
  | nil =>
    intro a first gl h n m d fu D hm hn hf H ht ha G
    obtain ⟨fu, rfl⟩ : ∃ k, fu = k + 1 := ⟨fu - 1, by simp at hf; omega⟩
    exact ⟨d, h, first, gl, inN_stop H, D, G, List.Perm.refl _, fun p _ => rfl⟩
  | cons x l ih =>
    intro a first gl h n m d fu D hm hn hf H ht ha G
    obtain ⟨fu, rfl⟩ : ∃ k, fu = k + 1 := ⟨fu - 1, by simp at hf; omega⟩
    simp only [List.length_cons] at hm hn hf
    obtain ⟨h1, h2, h3, h4⟩ := H
    subst h1
    obtain ⟨t1, t2, t3, t4, t5⟩ := ht x (by simp)
    obtain ⟨D2, e2, _⟩ := D.step (by omega)
    have hr := nc_rng h4 (fun y hy => ht y (by simp [hy]))
    rw [inN_step (by omega) e2, i64e (n := x.n + 2) (by omega) (by omega), D2.place t5 (by omega) (by omega)]
    simp only
    have haa : NdsA (x :: (l ++ gl.flatten)) := ha
    have hcc := List.pairwise_cons.1 haa
    have hsub : (x :: gl.flatten).Sublist (x :: (l ++ gl.flatten)) := by simp
    obtain ⟨first1, gl1, v, ef, D3, G1, pm⟩ := growF_ok (gl := gl) D2 (by omega) hw h2 h3 (fun y hy => ht y (hsub.subset hy)) (haa.sublist hsub) G
    have e1 : (growF w first (dStep d) x.n).1 = first1 := by rw [ef]
    rw [e1]
    have pm2 : (x :: (l ++ gl.flatten)).Perm (l ++ gl1.flatten) := by
      refine List.Perm.trans ?_ (pm.symm.append_left l)
      exact List.perm_middle.symm
    obtain ⟨d', h', first', gl', q1, q2, q3, q4, q5⟩ := ih (a := h (x.n + 2)) (fu := fu) D3 (by omega) (by omega) (by omega) (nc_upd h4 fun y hy => by have := hcc.1 y (by simp [hy]); omega) (fun y hy => ht y (by have := pm2.mem_iff.2 hy; simpa using this)) (ndsA_perm haa pm2) G1
    refine ⟨d', h', first', gl', q1, ?_, q3, ?_, fun p hp => ?_⟩
    · have e : ∀ z : Nat, z + 1 + l.length = z + (x :: l).length := fun z => by simp only [List.length_cons]; omega
      rw [e, e] at q2; exact q2
    · exact q4.trans pm2.symm
    · rw [q5 p (fun y hy => hp y (by simp [hy])), hput_ne (hp x (by simp))]

/-- all chains' nodes are pointed anew -/
theorem eachN_grow {w : Int} (hw : w = 2 ∨ w = 4 ∨ w = 8 ∨ w = 16) {t : TbS} (hC : 15 ≤ t.chains) : ∀ (lss : List (List Nd)) {i : Nat} {first : List Int} {gl : List (List Nd)} {h : Hp} {n m : Nat} {d : DrS}, t.chains + i + lss.length ≤ 256 → Dr X h n m f d → m + lss.flatten.length ≤ 2047 → n + lss.flatten.length ≤ 96 → (∀ (j : Nat) l, lss[j]? = some l → NC h (h (t.chains + (i + j : Nat))) l) → (∀ j : Nat, j < lss.length → X.T (t.chains + (i + j : Nat)) ∧ ∀ x ∈ lss.flatten, t.chains + (i + j : Nat) ≠ x.n + 2) → NdsT X (lss.flatten ++ gl.flatten) → NdsA (lss.flatten ++ gl.flatten) → Grw h w first gl →
    ∃ d' h' first' gl', eachN (growF w) t lss.length i first d = (first', d') ∧ Dr X h' (n + lss.flatten.length) (m + lss.flatten.length) f d' ∧ Grw h' w first' gl' ∧ gl'.flatten.Perm (lss.flatten ++ gl.flatten) ∧ ∀ p, (∀ x ∈ lss.flatten, p ≠ x.n + 2) → h' p = h p := by
  intro lss
  induction lss with
  | nil =>
    intro i first gl h n m d hb D hm hn H hT ht ha G
    exact ⟨d, h, first, gl, rfl, D, G, List.Perm.refl _, fun p _ => rfl⟩
  | cons l lss ih =>
    intro i first gl h n m d hb D hm hn H hT ht ha G
    simp only [List.flatten_cons, List.length_append, List.length_cons] at hm hn hT hb ht ha ⊢
    have H0 := H 0 l rfl
    have T0 := hT 0 (by omega)
    rw [Nat.add_zero] at H0 T0
    have hr := nc_rng H0 (fun y hy => ht y (by simp [hy]))
    unfold eachN
    rw [i64e (n := t.chains + i) (by omega) (by omega), D.place T0.1 (by omega) (by omega)]
    simp only
    have hst := D.st
    have s1 : (l ++ gl.flatten).Sublist (l ++ lss.flatten ++ gl.flatten) := by simp
    obtain ⟨d1, h1, first1, gl1, q1, q2, q3, q4, q5⟩ := inN_grow (X := X) (f := f) hw l (fu := fuel d) D (by omega) (by omega) (by unfold fuel; omega) H0 (fun y hy => ht y (s1.subset hy)) (ha.sublist s1) G
    rw [q1]
    simp only
    have pm2 : (l ++ lss.flatten ++ gl.flatten).Perm (lss.flatten ++ gl1.flatten) := by
      refine List.Perm.trans ?_ (q4.symm.append_left lss.flatten)
      rw [← List.append_assoc]
      exact List.perm_append_comm.append_right _
    have hap : ∀ x ∈ l, ∀ y ∈ lss.flatten, x.n + 2 < y.n ∨ y.n + 2 < x.n := fun x hx y hy => by
      unfold NdsA at ha
      rw [List.pairwise_append, List.pairwise_append] at ha
      exact ha.1.2.2 x hx y hy
    have k1 : ∀ (j : Nat) l', lss[j]? = some l' → NC h1 (h1 (t.chains + (i + 1 + j : Nat))) l' := fun j l' hl' => by
      have := H (j + 1) l' (by simpa using hl')
      rw [show i + (j + 1) = i + 1 + j by omega] at this
      have T1 := hT (j + 1) (by have := (List.getElem?_eq_some_iff.1 hl').1; omega)
      rw [show i + (j + 1) = i + 1 + j by omega] at T1
      rw [q5 _ (fun x hx => T1.2 x (by simp [hx]))]
      refine this.frame fun y hy => ?_
      have hyy : y ∈ lss.flatten := List.mem_flatten.2 ⟨l', List.mem_of_getElem? hl', hy⟩
      exact ⟨q5 _ fun x hx => by have := hap x hx y hyy; omega, q5 _ fun x hx => by have := hap x hx y hyy; omega, q5 _ fun x hx => by have := hap x hx y hyy; omega⟩
    have k2 : ∀ j : Nat, j < lss.length → X.T (t.chains + (i + 1 + j : Nat)) ∧ ∀ x ∈ lss.flatten, t.chains + (i + 1 + j : Nat) ≠ x.n + 2 := fun j hj => by
      have T1 := hT (j + 1) (by omega)
      rw [show i + (j + 1) = i + 1 + j by omega] at T1
      exact ⟨T1.1, fun x hx => T1.2 x (by simp [hx])⟩
    obtain ⟨d', h', first', gl', r1, r2, r3, r4, r5⟩ := ih (i := i + 1) (by omega) q2 (by omega) (by omega) k1 k2 (fun y hy => ht y (pm2.mem_iff.2 hy)) (ndsA_perm ha pm2) q3
    refine ⟨d', h', first', gl', r1, by simpa only [Nat.add_assoc] using r2, r3, r4.trans pm2.symm, fun p hp => ?_⟩
    rw [r5 p (fun x hx => hp x (by simp [hx])), q5 p (fun x hx => hp x (by simp [hx]))]

/-- a row of words is pointed at -/
theorem pts_ok {to : Int} {first : List Int} (h15 : 15 ≤ to) : ∀ {k : Nat} {h : Hp}, k ≤ first.length → to + k ≤ 256 → Dr X h n m f d → n + k ≤ 96 → (∀ i : Nat, i < k → X.T (to + i)) → (∀ a ∈ first, 0 ≤ a ∧ a < 256) →
    ∃ h', Dr X h' (n + k) m f (pts to first k d) ∧ (∀ (i : Nat) a, i < k → first[i]? = some a → h' (to + i) = a) ∧ ∀ p, p < to ∨ to + k ≤ p → h' p = h p := by
  intro k
  induction k with
  | zero => intro h _ _ D _ _ _; exact ⟨h, D, fun i a hi => absurd hi (by omega), fun p _ => rfl⟩
  | succ k ih =>
    intro h hk hb D hn hT hf
    obtain ⟨h1, D1, e1, e2⟩ := ih (h := h) (by omega) (by omega) D (by omega) (fun i hi => hT i (by omega)) hf
    unfold pts
    rw [i64e (n := to + k) (by omega) (by omega), List.getD_eq_getElem?_getD, List.getElem?_eq_getElem (by omega)]
    have hr := hf first[k] (List.getElem_mem _)
    refine ⟨hput h1 (to + k) first[k], D1.point (by omega) (hT k (by omega)) hr.1 (show _ < _ by omega), fun i a hi ha => ?_, fun p hp => ?_⟩
    · by_cases e : i = k
      · subst e
        rw [hput_same]
        rw [List.getElem?_eq_getElem (by omega)] at ha
        exact Option.some.inj ha
      · rw [hput_ne (by omega)]; exact e1 i a (by omega) ha
    · rw [hput_ne (by omega)]; exact e2 p (by omega)
end
end Go.Proofs.YtokbiojkpldfeaaGreat.S
/-! ### what Put, Del, Get, All do -/
namespace Go.Proofs.YtokbiojkpldfeaaGreat.S
open Go Go.Proofs
/-- a draft with an error stays as it is, but for its steps -/
structure Stk (e : Int) (v : VwS) (d : DrS) : Prop where
  err : d.err = e
  v : d.v = v
section
variable {e : Int} {v : VwS} {d : DrS} {a x k n : Int}
theorem Stk.fail (D : Stk e v d) (he : e ≠ 0) : Stk e v (dFail d n) := by
  unfold dFail
  rw [if_neg (by rw [D.err]; exact he)]; exact D
theorem Stk.read (D : Stk e v d) (he : e ≠ 0) : dRead d a = (d, 0) := by unfold dRead; rw [if_neg (by rw [D.err]; exact he)]
theorem Stk.place (D : Stk e v d) (he : e ≠ 0) : dPlace d a = (d, 0) := by
  unfold dPlace
  rw [D.read he]
  unfold dName
  rw [if_neg (by omega), i64e (by omega) (by omega)]
theorem Stk.write (D : Stk e v d) (he : e ≠ 0) : dWrite d a x = d := by unfold dWrite; rw [if_neg (by rw [D.err]; exact he)]
theorem Stk.point (D : Stk e v d) (he : e ≠ 0) : dPoint d a x = d := D.write he
theorem Stk.alloc (D : Stk e v d) (he : e ≠ 0) : dAlloc d n = (d, 0) := by unfold dAlloc; rw [if_neg (by rw [D.err]; exact he)]
theorem Stk.free (D : Stk e v d) (he : e ≠ 0) : dFree d n = d := by unfold dFree; rw [if_neg (by rw [D.err]; exact he)]
theorem Stk.step (D : Stk e v d) (he : e ≠ 0) : Stk e v (dStep d) := by
  unfold dStep
  split
  · exact Stk.fail ⟨D.err, D.v⟩ he
  · exact ⟨D.err, D.v⟩
theorem Stk.seekN (D : Stk e v d) (he : e ≠ 0) {fu : Nat} : Stk e v (seekN k fu d a).1 ∧ (seekN k fu d a).2.2 = 0 := by
  cases fu with
  | zero => exact ⟨D, rfl⟩
  | succ fu =>
    have D2 := D.step he
    unfold S.seekN
    rw [if_neg (by rw [D2.err]; exact he)]
    exact ⟨D2, rfl⟩
theorem Stk.tSeek (D : Stk e v d) (he : e ≠ 0) {t : TbS} : Stk e v (tSeek d t k).1 ∧ (tSeek d t k).2.2 = 0 := D.seekN he
theorem Stk.inN {σ : Type} {f : σ → DrS → Int → σ × DrS} {s : σ} (D : Stk e v d) (he : e ≠ 0) {fu : Nat} : Stk e v (inN f fu s d a).2 ∧ (inN f fu s d a).1 = s := by
  cases fu with
  | zero => exact ⟨D, rfl⟩
  | succ fu =>
    have D2 := D.step he
    by_cases h : a = 0
    · rw [inN_stop h]; exact ⟨D, rfl⟩
    · rw [inN_fail h (by rw [D2.err]; exact he)]; exact ⟨D2, rfl⟩
theorem Stk.eachN {σ : Type} {f : σ → DrS → Int → σ × DrS} (he : e ≠ 0) {t : TbS} : ∀ {n i : Nat} {s : σ} {d : DrS}, Stk e v d → Stk e v (eachN f t n i s d).2 ∧ (eachN f t n i s d).1 = s
  | 0, i, s, d, D => ⟨D, rfl⟩
  | n + 1, i, s, d, D => by
    unfold S.eachN
    rw [D.place he]
    simp only
    have h := D.inN (f := f) (s := s) (a := 0) he (fu := fuel d)
    rw [h.2]
    exact Stk.eachN he h.1
theorem Stk.pts {to : Int} {first : List Int} (he : e ≠ 0) (D : Stk e v d) : ∀ {k : Nat}, pts to first k d = d
  | 0 => rfl
  | k + 1 => by unfold S.pts; rw [Stk.pts he D, D.point he]
theorem Stk.grow (D : Stk e v d) (he : e ≠ 0) {t : TbS} : Stk e v (tGrow d t).1 := by
  unfold tGrow
  simp only
  rw [D.alloc he]
  simp only
  unfold tEach
  have h := Stk.eachN (f := growF (w64 (2 * t.wide))) (t := t) (n := t.wide.toNat) (i := 0) (s := List.replicate (w64 (2 * t.wide)).toNat 0) he D
  rw [Stk.pts he h.1, h.1.free he, h.1.point he, h.1.point he]
  exact h.1
theorem Stk.putEnd (D : Stk e v d) (he : e ≠ 0) {t : TbS} {l : Int} : putEnd d t l k x = d := by
  unfold S.putEnd
  rw [D.alloc he]
  simp only
  rw [D.write he, D.write he, D.point he, D.point he, D.write he]
theorem Stk.self (h : d.err = e) : Stk e d.v d := ⟨h, rfl⟩
/-- there is no room for a block: nothing more is done -/
theorem alloc_stk (h : (dAlloc d n).1.err = 4) : Stk 4 (dAlloc d n).1.v (dAlloc d n).1 := ⟨h, rfl⟩
end

section
variable {X : Cx} {h h' : Hp} {n m : Nat} {f : List Int} {s : VwS} {d : DrS} {a b x y p c k root : Int} {Bt R B : List Bk} {S0 : List Bk} {t : TD} {o : Option TD}

/-- the chains of a table: pieces that lie apart -/
theorem tab_apart (A : Arena S0 h B R) (hs : ∀ b ∈ t.blks, b ∈ B) (hnd : t.blks.Nodup) (hW : t.W = 2 ∨ t.W = 4 ∨ t.W = 8 ∨ t.W = 16) :
    NdsA t.nodes ∧ ∀ x ∈ t.nodes, (∀ i, 0 ≤ i → i < t.W → t.C + i < x.n ∨ x.n + 2 < t.C + i) ∧ (∀ i, 0 ≤ i → i < 4 → t.H + i < x.n ∨ x.n + 2 < t.H + i) := by
  have h1 : (ndB t.nodes).Nodup := (List.nodup_cons.1 (List.nodup_cons.1 hnd).2).2
  have hH : ((t.H, 2) : Bk) ∉ ndB t.nodes := fun hb => (List.nodup_cons.1 hnd).1 (by simp [hb])
  have hC : ((t.C, clW t.W) : Bk) ∉ ndB t.nodes := (List.nodup_cons.1 (List.nodup_cons.1 hnd).2).1
  refine ⟨nodup_ndsA A (fun x hx => hs _ (mem_blks hx)) h1, fun x hx => ?_⟩
  have hx2 : ((x.n, 2) : Bk) ∈ ndB t.nodes := List.mem_map.2 ⟨x, hx, rfl⟩
  obtain ⟨sh, fl, A, hS⟩ := A
  have hbx := A.sub _ (hs _ (mem_blks hx))
  constructor
  · intro i h0 h1
    have := A.apart (A.sub _ (hs (t.C, clW t.W) (by simp [TD.blks]))) hbx
    simp only [bsz_2, bsz_clW hW] at this
    rcases this with e | e | e
    · exact absurd (e ▸ hx2) hC
    · omega
    · omega
  · intro i h0 h1
    have := A.apart (A.sub _ (hs (t.H, 2) (by simp [TD.blks]))) hbx
    simp only [bsz_2] at this
    rcases this with e | e | e
    · exact absurd (e ▸ hx2) hH
    · omega
    · omega
/-- the head and the chains lie apart -/
theorem tab_HC (A : Arena S0 h B R) (hs : ∀ b ∈ t.blks, b ∈ B) (hnd : t.blks.Nodup) (hW : t.W = 2 ∨ t.W = 4 ∨ t.W = 8 ∨ t.W = 16) : t.H + 4 < t.C ∨ t.C + t.W < t.H := by
  obtain ⟨sh, fl, A, hS⟩ := A
  have := A.apart (A.sub _ (hs (t.H, 2) (by simp [TD.blks]))) (A.sub _ (hs (t.C, clW t.W) (by simp [TD.blks])))
  simp only [bsz_2, bsz_clW hW] at this
  rcases this with e | e | e
  · exact absurd (by rw [e]; simp) (List.nodup_cons.1 hnd).1
  · omega
  · omega

theorem Dr.mono {n' m' : Nat} (D : Dr X h n m f d) (hn : n ≤ n') (hm : m ≤ m') : Dr X h n' m' f d := ⟨D.err, by have := D.st; omega, ⟨D.v.size, D.v.up, D.v.most, D.v.rf, D.v.k, by have := D.v.few; omega, D.v.pos, D.v.nod, D.v.rd, D.v.off⟩⟩
theorem Arena.head_body (A : Arena S0 h B R) {b b' : Bk} (hb : b ∈ B) (hb' : b' ∈ B) (hp : Body b p) : p ≠ b'.1 - 1 := by
  obtain ⟨sh, fl, A, hS⟩ := A
  exact A.head_body (A.sub b hb) (A.sub b' hb') hp
theorem arena_nodup (A : Arena S0 h (Bt ++ X.Bf) R) : Bt.Nodup := (List.nodup_append.1 A.nodup).1
theorem clW_2 {W : Int} (h : W = 2 ∨ W = 4 ∨ W = 8) : aClass (2 * W) = clW (2 * W) ∧ 1 ≤ clW (2 * W) ∧ clW (2 * W) ≤ 4 ∧ (2 * W = 2 ∨ 2 * W = 4 ∨ 2 * W = 8 ∨ 2 * W = 16) := by
  rcases h with rfl | rfl | rfl <;> decide

theorem tGrow_did (D : Dr X h n m f d) (hr : 6 ≤ X.r' ∧ X.r' < 14) (A : Arena S0 h (t.blks ++ X.Bf) R) (G : TabW ch h root t) (hrt : 6 ≤ root ∧ root < 14) (hW : t.W = 2 ∨ t.W = 4 ∨ t.W = 8) (hN : t.nodes.length ≤ 20) (hn : n ≤ 40) (hm : m ≤ 1000) {keys : Int} :
    ((tGrow d ⟨t.H, t.W, t.C, keys⟩).1.err = 4 ∧ 256 < h 5 + 17) ∨
    ∃ h' t', (tGrow d ⟨t.H, t.W, t.C, keys⟩).2 = ⟨t'.H, t'.W, t'.C, keys⟩ ∧ Dr X h' (n + t.nodes.length + 21) (m + t.nodes.length) (f ++ [t.C]) (tGrow d ⟨t.H, t.W, t.C, keys⟩).1 ∧ TabW ch h' root t' ∧ Arena S0 h' (t'.blks ++ X.Bf) ((t.C, clW t.W) :: R) ∧ t'.nodes.Perm t.nodes ∧ h' 5 ≤ h 5 + 17 := by
  obtain ⟨c1, c2, c3, c4⟩ := clW_2 hW
  have hz := bsz_le (c := clW (2 * t.W))
  have hw : w64 (2 * t.W) = 2 * t.W := i64e (by omega) (by omega)
  unfold tGrow
  simp only
  rw [hw]
  rcases D.alloc (Bt := t.blks) (R := R) hr (by omega) A c1 c2 c3 with ⟨h1, T1⟩ | ⟨e4, hb⟩
  · right
    generalize dAlloc d (2 * t.W) = q at T1
    obtain ⟨d1, to⟩ := q
    simp only at T1 ⊢
    have D1 := T1.dr
    have A1 := T1.ar
    have hnd := arena_nodup A1
    have hnd0 := arena_nodup A
    have hW4 : t.W = 2 ∨ t.W = 4 ∨ t.W = 8 ∨ t.W = 16 := by omega
    have hsub : ∀ b ∈ t.blks, b ∈ ((to, clW (2 * t.W)) :: t.blks) := fun b hb => by simp [hb]
    have hsubA : ∀ b ∈ t.blks, b ∈ ((to, clW (2 * t.W)) :: t.blks) ++ X.Bf := fun b hb => by simp [hb]
    obtain ⟨⟨b1, b2, b3, b4, b5⟩, b6, b7, b8⟩ := tab_bnd A1 hr.2 hsub hW4
    have G1 : TabW ch h1 root t := G.frame (T1.rt root hrt.1 hrt.2) fun b hb p hp => T1.bd b hb p hp
    obtain ⟨ap1, ap2⟩ := tab_apart A1 hsubA hnd0 hW4
    have hHC := tab_HC A1 hsubA hnd0 hW4
    have htT := ndsT_of A1 hr.2 (l := t.nodes) fun x hx => hsub _ (mem_blks hx)
    have hlen := G.len
    have hg0 : ∀ k : Nat, (List.replicate k ([] : List Nd)).flatten = [] := fun k => by simp
    have eW : (t.W).toNat = t.ls.length := by omega
    have eW2 : (2 * t.W).toNat = 2 * t.ls.length := by omega
    -- each
    obtain ⟨d2, h2, first, gl, q1, q2, q3, q4, q5⟩ := eachN_grow (X := X) (f := f) (t := ⟨t.H, t.W, t.C, keys⟩) c4 b6 t.ls (i := 0) (first := List.replicate (2 * t.W).toNat 0) (gl := List.replicate (2 * t.W).toNat []) (by simp only; omega) D1 (by show m + t.nodes.length ≤ _; omega) (by show n + 2 + t.nodes.length ≤ _; omega)
      (fun j l hl => by rw [Nat.zero_add]; exact (G1.seg j l hl).1)
      (fun j hj => by
        rw [Nat.zero_add]
        exact ⟨b8 j (by omega) (by omega), fun x hx => by have := (ap2 x hx).1 j (by omega) (by omega); simp only; omega⟩)
      (by rw [hg0, List.append_nil]; exact htT) (by rw [hg0, List.append_nil]; exact ap1)
      ⟨by simp; omega, by simp, fun i a l g1 g2 => by
        have r1 := List.eq_of_mem_replicate (List.mem_of_getElem? g1)
        have r2 := List.eq_of_mem_replicate (List.mem_of_getElem? g2)
        subst r1
        subst r2
        exact ⟨rfl, by simp⟩⟩
    rw [hg0, List.append_nil] at q4
    have eq1 : tEach (growF (2 * t.W)) ⟨t.H, t.W, t.C, keys⟩ (List.replicate (2 * t.W).toNat 0) d1 = (first, d2) := by
      unfold tEach
      show eachN _ _ (t.W).toNat 0 _ _ = _
      rw [eW]; exact q1
    rw [eq1]
    simp only
    -- points
    have hto := A1.bnd (b := (to, clW (2 * t.W))) (by simp)
    simp only [bsz_clW c4] at hto
    have hfl : first.length = (2 * t.W).toNat := by have := q3.1; omega
    have hpm := fun x (hx : x ∈ gl.flatten) => q4.mem_iff.1 hx
    have hTto : ∀ i : Nat, i < (2 * t.W).toNat → X.T (to + i) := fun i hi => T_body A1 hr.2 (b := (to, clW (2 * t.W))) (by simp) (body_of (by omega) (by rw [bsz_clW c4]; omega))
    have hfr : ∀ a ∈ first, 0 ≤ a ∧ a < 256 := fun a ha => by
      obtain ⟨i, hi⟩ := List.mem_iff_getElem?.1 ha
      have hi2 := (List.getElem?_eq_some_iff.1 hi).1
      have hg := List.getElem?_eq_getElem (l := gl) (i := i) (by have := q3.2.1; omega)
      refine nc_rng (q3.2.2 i a _ hi hg).1 fun x hx => htT x (hpm x (List.mem_flatten.2 ⟨_, List.mem_of_getElem? hg, hx⟩))
    obtain ⟨h3, D3, p1, p2⟩ := pts_ok (to := to) (first := first) (by omega) (k := (2 * t.W).toNat) (by omega) (by omega) q2 (by show n + 2 + t.nodes.length + _ ≤ _; omega) hTto hfr
    -- frames
    have hfree : ∀ p, (¬ ∃ b ∈ ((to, clW (2 * t.W)) :: t.blks) ++ X.Bf, Body b p) → h3 p = h1 p := fun p hp => by
      have n1 : p < to ∨ to + (2 * t.W).toNat ≤ p := by
        by_cases g : p < to ∨ to + (2 * t.W).toNat ≤ p
        · exact g
        · exact absurd ⟨_, by simp, body_of (a := to) (c := clW (2 * t.W)) (by omega) (by rw [bsz_clW c4]; omega)⟩ hp
      rw [p2 p n1, q5 p fun x hx e => hp ⟨(x.n, 2), hsubA _ (mem_blks hx), body_of (by omega) (by rw [bsz_2]; omega)⟩]
    have A3 := A1.frame_body (h' := h3) hfree
    have hap : ∀ b ∈ t.blks, ∀ p, Body b p → p < to ∨ to + (2 * t.W).toNat ≤ p := fun b hb p hp => by
      by_cases g : p < to ∨ to + (2 * t.W).toNat ≤ p
      · exact g
      · have := A1.apart (b := (to, clW (2 * t.W))) (by simp) (hsubA b hb) (body_of (q := p) (by omega) (by rw [bsz_clW c4]; omega)) hp
        subst this
        exact absurd hb (List.nodup_cons.1 hnd).1
    have nd3 : ∀ x ∈ t.nodes, ∀ j, 0 ≤ j → j ≤ 2 → Body (x.n, 2) (x.n + j) := fun x hx j h0 h2 => body_of (by omega) (by rw [bsz_2]; omega)
    have hH : ∀ j, 0 ≤ j → j < 4 → h3 (t.H + j) = h1 (t.H + j) := fun j h0 h4 => by
      rw [p2 _ (hap (t.H, 2) (by simp [TD.blks]) _ (body_of (by omega) (by rw [bsz_2]; omega))), q5 _ fun x hx e => by have := (ap2 x hx).2 j h0 h4; omega]
    have hroot : h3 root = h1 root := hfree root fun ⟨b, hb, hp⟩ => by have := A1.bnd hb; unfold Body at hp; omega
    -- the old chains are freed
    have pmB : (((to, clW (2 * t.W)) :: t.blks) ++ X.Bf).Perm (((t.C, clW t.W) :: (to, clW (2 * t.W)) :: (t.H, 2) :: ndB t.nodes) ++ X.Bf) := by
      refine List.Perm.append_right _ ?_
      unfold TD.blks
      exact ((List.Perm.swap _ _ _).cons _).trans (List.Perm.swap _ _ _)
    have eN : t.ls.flatten.length = t.nodes.length := rfl
    obtain ⟨D4, A4⟩ := D3.free hr.2 (by omega) (A3.perm pmB)
    have D5 := D4.point (a := t.H + 1) (x := 2 * t.W) (by omega) b4 (by omega) (by omega)
    have A5 := A4.upd_body (b := (t.H, 2)) (p := t.H + 1) (x := 2 * t.W) (by simp) (body_of (by omega) (by rw [bsz_2]; omega))
    have D6 := D5.point (a := t.H + 2) (x := to) (by omega) b5 (by omega) (by omega)
    have A6 := A5.upd_body (b := (t.H, 2)) (p := t.H + 2) (x := to) (by simp) (body_of (by omega) (by rw [bsz_2]; omega))
    have hnodes := A1.nodup
    have hC1 : ∀ b ∈ ((to, clW (2 * t.W)) :: t.blks), ∀ p, Body b p → p ≠ t.C - 1 := fun b hb p hp => A1.head_body (b := b) (b' := (t.C, clW t.W)) (List.mem_append_left _ hb) (hsubA _ (by simp [TD.blks])) hp
    have g6 : ∀ p, p ≠ t.C - 1 → p ≠ t.H + 1 → p ≠ t.H + 2 → hput (hput (hput h3 (t.C - 1) (clW t.W)) (t.H + 1) (2 * t.W)) (t.H + 2) to p = h3 p := fun p n1 n2 n3 => by rw [hput_ne n3, hput_ne n2, hput_ne n1]
    have bH : ∀ j, 0 ≤ j → j < 4 → Body (t.H, 2) (t.H + j) := fun j h0 h4 => body_of (by omega) (by rw [bsz_2]; omega)
    rw [i64e (n := t.H + 1) (by omega) (by omega), i64e (n := t.H + 2) (by omega) (by omega)]
    refine ⟨_, ⟨t.H, to, 2 * t.W, gl⟩, rfl, D6.mono (by show n + 2 + t.nodes.length + _ + 1 + 1 + 1 ≤ _; omega) (Nat.le_refl _), ?_, ?_, q4, ?_⟩
    · refine ⟨?_, ?_, ?_, ?_, c4, ?_, fun i l hl => ?_, ?_⟩
      · rw [g6 root (by omega) (by omega) (by omega), hroot]; exact G1.root
      · have := hH 0 (by omega) (by omega)
        rw [Int.add_zero] at this
        have nC := hC1 (t.H, 2) (by simp [TD.blks]) (t.H + 0) (bH 0 (by omega) (by omega))
        rw [g6 t.H (by simpa using nC) (by omega) (by omega), this, G1.cnt]
        show ((t.nodes.length : Nat) : Int) = (gl.flatten.length : Nat)
        rw [q4.length_eq]
      · show hput _ _ _ (t.H + 1) = 2 * t.W
        rw [hput_ne (by omega), hput_same]
      · show hput _ _ _ (t.H + 2) = to
        rw [hput_same]
      · show ((gl.length : Nat) : Int) = 2 * t.W
        have := q3.1; have := q3.2.1; omega
      · have hi := (List.getElem?_eq_some_iff.1 hl).1
        have hif : i < first.length := by have := q3.2.1; simp only at hi; omega
        have hg := List.getElem?_eq_getElem (l := first) (i := i) hif
        obtain ⟨s1, s2⟩ := q3.2.2 i _ l hg hl
        refine ⟨?_, s2⟩
        have btoi : Body (to, clW (2 * t.W)) (to + i) := body_of (by omega) (by rw [bsz_clW c4]; omega)
        have nH : ∀ j, 0 ≤ j → j < 4 → to + i ≠ t.H + j := fun j h0 h4 e => by
          have := A1.apart (b := (to, clW (2 * t.W))) (b' := (t.H, 2)) (by simp) (hsubA _ (by simp [TD.blks])) btoi (by rw [e]; exact bH j h0 h4)
          have h2 : ((t.H, 2) : Bk) ∈ t.blks := by simp [TD.blks]
          rw [← this] at h2
          exact (List.nodup_cons.1 hnd).1 h2
        show NC _ (hput (hput (hput h3 (t.C - 1) (clW t.W)) (t.H + 1) (2 * t.W)) (t.H + 2) to (to + i)) l
        rw [g6 (to + i) (hC1 _ (by simp) _ btoi) (nH 1 (by omega) (by omega)) (nH 2 (by omega) (by omega)), p1 i _ (by omega) hg]
        refine s1.frame fun x hx => ?_
        have hxt : x ∈ t.nodes := hpm x (List.mem_flatten.2 ⟨l, List.mem_of_getElem? hl, hx⟩)
        have key : ∀ j, 0 ≤ j → j ≤ 2 → hput (hput (hput h3 (t.C - 1) (clW t.W)) (t.H + 1) (2 * t.W)) (t.H + 2) to (x.n + j) = h2 (x.n + j) := fun j h0 h4 => by
          have hb := nd3 x hxt j h0 h4
          have a1 := (ap2 x hxt).2 1 (by omega) (by omega)
          have a2 := (ap2 x hxt).2 2 (by omega) (by omega)
          rw [g6 _ (hC1 _ (hsub _ (mem_blks hxt)) _ hb) (by omega) (by omega), p2 _ (hap _ (mem_blks hxt) _ hb)]
        have k0 := key 0 (by omega) (by omega)
        rw [Int.add_zero] at k0
        exact ⟨k0, key 1 (by omega) (by omega), key 2 (by omega) (by omega)⟩
      · exact (q4.map _).nodup_iff.2 G.keys
    · refine A6.perm (List.Perm.append_right _ ?_)
      unfold TD.blks
      refine (List.Perm.swap _ _ _).trans (((?_ : List.Perm _ _).cons _).cons _)
      exact (q4.map _).symm
    · have n5 : ∀ b ∈ ((to, clW (2 * t.W)) :: t.blks) ++ X.Bf, ¬ Body b 5 := fun b hb hp => by have := A1.bnd hb; unfold Body at hp; omega
      rw [g6 5 (by omega) (by omega) (by omega), hfree 5 fun ⟨b, hb, hp⟩ => n5 b hb hp]
      have := T1.bp
      omega
  · left
    have S1 := alloc_stk e4
    generalize dAlloc d (2 * t.W) = q at S1
    obtain ⟨d1, to⟩ := q
    simp only at S1 ⊢
    have hS := Stk.eachN (f := growF (2 * t.W)) (t := ⟨t.H, t.W, t.C, keys⟩) (n := (t.W).toNat) (i := 0) (s := List.replicate (2 * t.W).toNat 0) (by decide) S1
    unfold tEach
    rw [Stk.pts (by decide) hS.1, hS.1.free (by decide), hS.1.point (by decide), hS.1.point (by decide)]
    exact ⟨hS.1.err, by omega⟩
end
end Go.Proofs.YtokbiojkpldfeaaGreat.S
/-! ### Put, Del, Get on a draft -/
namespace Go.Proofs.YtokbiojkpldfeaaGreat.S
open Go Go.Proofs
section
variable {X : Cx} {h h' : Hp} {n m : Nat} {f : List Int} {s : VwS} {d : DrS} {a b x y p c k root : Int} {Bt R B : List Bk} {S0 : List Bk} {t : TD} {o : Option TD}

/-- a new table -/
theorem tMade_did (D : Dr X h n m f d) (hr : 6 ≤ X.r' ∧ X.r' < 14) (A : Arena S0 h X.Bf R) (hrt : 6 ≤ root ∧ root < 14 ∧ root ≠ X.r') (hn : n ≤ 40) :
    ((tMade d root).1.err = 4 ∧ 256 < h 5 + 13) ∨
    ∃ h' t', (tMade d root).2 = ⟨t'.H, t'.W, t'.C, 0⟩ ∧ Dr X h' (n + 10) m f (tMade d root).1 ∧ TabW ch h' root t' ∧ Arena S0 h' (t'.blks ++ X.Bf) R ∧ t'.nodes = [] ∧ t'.W = 2 ∧ h' 5 ≤ h 5 + 8 := by
  unfold tMade
  simp only
  rcases D.alloc (sz := 3) (c := 2) (Bt := []) (R := R) hr (by omega) A (by decide) (by omega) (by omega) with ⟨h1, T1⟩ | ⟨e4, hb⟩
  · generalize dAlloc d 3 = q at T1
    obtain ⟨d1, H⟩ := q
    simp only at T1 ⊢
    rcases T1.dr.alloc (sz := 2) (c := 1) (Bt := [(H, 2)]) (R := R) hr (by omega) T1.ar (by decide) (by omega) (by omega) with ⟨h2, T2⟩ | ⟨e4, hb⟩
    · right
      generalize dAlloc d1 2 = q at T2
      obtain ⟨d2, C⟩ := q
      simp only at T2 ⊢
      have hA := T2.ar
      have b1 := hA.bnd (b := (H, 2)) (by simp)
      have b2 := hA.bnd (b := (C, 1)) (by simp)
      simp only [bsz_2] at b1
      have z1 : bsz 1 = 2 := rfl
      simp only [z1] at b2
      have bH : ∀ j, 0 ≤ j → j < 4 → Body (H, 2) (H + j) := fun j h0 h4 => body_of (by omega) (by rw [bsz_2]; omega)
      have bC : ∀ j, 0 ≤ j → j < 2 → Body (C, 1) (C + j) := fun j h0 h4 => body_of (by omega) (by rw [z1]; omega)
      have hne : ((C, 1) : Bk) ≠ (H, 2) := by simp
      have hHC : ∀ i j, 0 ≤ i → i < 4 → 0 ≤ j → j < 2 → H + i ≠ C + j := fun i j i0 i4 j0 j2 e => by
        have := hA.apart (b := (C, 1)) (b' := (H, 2)) (by simp) (by simp) (bC j j0 j2) (by rw [← e]; exact bH i i0 i4)
        exact hne this
      have tH : ∀ j, 0 ≤ j → j < 4 → X.T (H + j) := fun j h0 h4 => T_body hA hr.2 (b := (H, 2)) (by simp) (bH j h0 h4)
      have tC : ∀ j, 0 ≤ j → j < 2 → X.T (C + j) := fun j h0 h4 => T_body hA hr.2 (b := (C, 1)) (by simp) (bC j h0 h4)
      have tR : X.T root := T_root (Bt := []) A hrt.1 hrt.2.1 hrt.2.2
      have D1 := T2.dr.point (a := C + 0) (x := 0) (by omega) (tC 0 (by omega) (by omega)) (by omega) (by omega)
      have D2 := D1.point (a := C + 1) (x := 0) (by omega) (tC 1 (by omega) (by omega)) (by omega) (by omega)
      have D3 := D2.point (a := H + 0) (x := 0) (by omega) (tH 0 (by omega) (by omega)) (by omega) (by omega)
      have D4 := D3.point (a := H + 1) (x := 2) (by omega) (tH 1 (by omega) (by omega)) (by omega) (by omega)
      have D5 := D4.point (a := H + 2) (x := C) (by omega) (tH 2 (by omega) (by omega)) (by omega) (by omega)
      have D6 := D5.point (a := root) (x := H) (by omega) tR (by omega) (by omega)
      have A1 := hA.upd_body (b := (C, 1)) (p := C + 0) (x := 0) (by simp) (bC 0 (by omega) (by omega))
      have A2 := A1.upd_body (b := (C, 1)) (p := C + 1) (x := 0) (by simp) (bC 1 (by omega) (by omega))
      have A3 := A2.upd_body (b := (H, 2)) (p := H + 0) (x := 0) (by simp) (bH 0 (by omega) (by omega))
      have A4 := A3.upd_body (b := (H, 2)) (p := H + 1) (x := 2) (by simp) (bH 1 (by omega) (by omega))
      have A5 := A4.upd_body (b := (H, 2)) (p := H + 2) (x := C) (by simp) (bH 2 (by omega) (by omega))
      have A6 := A5.upd_root (p := root) (x := H) hrt.1 hrt.2.1
      rw [i64e (n := C + 0) (by omega) (by omega), i64e (n := C + 1) (by omega) (by omega), i64e (n := H + 0) (by omega) (by omega), i64e (n := H + 1) (by omega) (by omega), i64e (n := H + 2) (by omega) (by omega)]
      have n00 := hHC 0 0 (by omega) (by omega) (by omega) (by omega)
      have n01 := hHC 0 1 (by omega) (by omega) (by omega) (by omega)
      have n10 := hHC 1 0 (by omega) (by omega) (by omega) (by omega)
      have n11 := hHC 1 1 (by omega) (by omega) (by omega) (by omega)
      have n20 := hHC 2 0 (by omega) (by omega) (by omega) (by omega)
      have n21 := hHC 2 1 (by omega) (by omega) (by omega) (by omega)
      refine ⟨_, ⟨H, C, 2, [[], []]⟩, rfl, D6, ⟨?_, ?_, ?_, ?_, .inl rfl, rfl, fun i l hl => ?_, List.nodup_nil⟩, ?_, rfl, rfl, ?_⟩
      · show hput _ _ _ root = H
        rw [hput_same]
      · show hput _ _ _ H = 0
        rw [hput_ne (by omega), hput_ne (by omega), hput_ne (by omega)]
        show hput _ (H + 0) 0 H = 0
        have e0 : H + 0 = H := Int.add_zero H
        rw [e0, hput_same]
      · show hput _ _ _ (H + 1) = 2
        rw [hput_ne (by omega), hput_ne (by omega), hput_same]
      · show hput _ _ _ (H + 2) = C
        rw [hput_ne (by omega), hput_same]
      · have key : ∀ j, j = 0 ∨ j = 1 → hput (hput (hput (hput (hput (hput h2 (C + 0) 0) (C + 1) 0) (H + 0) 0) (H + 1) 2) (H + 2) C) root H (C + j) = 0 := fun j hj => by
          rw [hput_ne (by omega), hput_ne (by omega), hput_ne (by omega), hput_ne (by omega)]
          rcases hj with rfl | rfl
          · rw [hput_ne (by omega), hput_same]
          · rw [hput_same]
        have hi := (List.getElem?_eq_some_iff.1 hl).1
        simp only [List.length_cons, List.length_nil] at hi
        have el : l = [] := by
          have := List.mem_of_getElem? hl
          simpa using this
        subst el
        exact ⟨key i (by omega), by simp⟩
      · exact A6.perm (List.Perm.swap _ _ _)
      · show hput _ _ _ 5 ≤ _
        rw [hput_ne (by omega), hput_ne (by omega), hput_ne (by omega), hput_ne (by omega), hput_ne (by omega), hput_ne (by omega)]
        have q1 := T1.bp
        have q2 := T2.bp
        rw [bsz_2] at q1
        rw [z1] at q2
        omega
    · left
      have S1 := alloc_stk e4
      have q1 := T1.bp
      rw [bsz_2] at q1
      have z1 : bsz 1 = 2 := rfl
      rw [z1] at hb
      rw [S1.point (by decide), S1.point (by decide), S1.point (by decide), S1.point (by decide), S1.point (by decide), S1.point (by decide)]
      exact ⟨S1.err, by omega⟩
  · left
    have S1 := alloc_stk e4
    rw [bsz_2] at hb
    generalize dAlloc d 3 = q at S1
    obtain ⟨d1, H⟩ := q
    simp only at S1 ⊢
    rw [S1.alloc (by decide)]
    simp only
    rw [S1.point (by decide), S1.point (by decide), S1.point (by decide), S1.point (by decide), S1.point (by decide), S1.point (by decide)]
    exact ⟨S1.err, by omega⟩

/-- one chain of a table is another; what else lies there stays -/
theorem TabW.set {i : Nat} {l l' : List Nd} {hh : Hp} (G : TabW ch h root t) (hl : t.ls[i]? = some l) (er : hh root = h root)
    (eH : hh (t.H + 1) = h (t.H + 1)) (eH2 : hh (t.H + 2) = h (t.H + 2)) (ec : hh t.H = ((t.ls.set i l').flatten.length : Nat))
    (s1 : NC hh (hh (t.C + i)) l') (s2 : ∀ x ∈ l', ch x.k t.W = i)
    (eo : ∀ (j : Nat) l2, t.ls[j]? = some l2 → j ≠ i → hh (t.C + j) = h (t.C + j) ∧ ∀ x ∈ l2, hh x.n = h x.n ∧ hh (x.n + 1) = h (x.n + 1) ∧ hh (x.n + 2) = h (x.n + 2))
    (hk : ((t.ls.set i l').flatten.map (·.k)).Nodup) : TabW ch hh root ⟨t.H, t.C, t.W, t.ls.set i l'⟩ := by
  have hi := (List.getElem?_eq_some_iff.1 hl).1
  refine ⟨by rw [er]; exact G.root, ec, by rw [eH]; exact G.wide, by rw [eH2]; exact G.chains, G.okW, by simpa using G.len, fun j l2 hj => ?_, hk⟩
  by_cases e : i = j
  · subst e
    rw [List.getElem?_set_self hi] at hj
    cases hj
    exact ⟨s1, s2⟩
  · rw [List.getElem?_set_ne e] at hj
    obtain ⟨g1, g2⟩ := G.seg j l2 hj
    obtain ⟨o1, o2⟩ := eo j l2 hj (Ne.symm e)
    exact ⟨by rw [o1]; exact g1.frame o2, g2⟩
theorem sub_flat {ls : List (List Nd)} {i : Nat} {l : List Nd} (hl : ls[i]? = some l) : l.Sublist ls.flatten := by
  obtain ⟨A, B, e, _, _⟩ := ls_split hl
  rw [e]
  simp only [List.flatten_append, List.flatten_cons]
  exact (List.sublist_append_left l B.flatten).trans (List.sublist_append_right A.flatten _)
theorem cross {ls : List (List Nd)} {i j : Nat} {l l2 : List Nd} (ha : NdsA ls.flatten) (hl : ls[i]? = some l) (hj : ls[j]? = some l2) (ne : j ≠ i) : ∀ x ∈ l, ∀ y ∈ l2, x.n + 2 < y.n ∨ y.n + 2 < x.n := by
  intro x hx y hy
  unfold NdsA at ha
  rw [List.pairwise_flatten] at ha
  have h2 := List.pairwise_iff_getElem.1 ha.2
  obtain ⟨hi, ei⟩ := List.getElem?_eq_some_iff.1 hl
  obtain ⟨hj, ej⟩ := List.getElem?_eq_some_iff.1 hj
  rcases (by omega : i < j ∨ j < i) with g | g
  · exact h2 i j hi hj g x (by rw [ei]; exact hx) y (by rw [ej]; exact hy)
  · exact (h2 j i hj hi g y (by rw [ej]; exact hy) x (by rw [ei]; exact hx)).symm
/-- where the word behind some nodes of a chain lies -/
theorem lk_bnd (A : Arena S0 h (Bt ++ X.Bf) R) (hr : X.r' < 14) (hs : ∀ b ∈ t.blks, b ∈ Bt) (hnd : t.blks.Nodup) (G : TabW ch h root t) {i : Nat} {l l1 l2 : List Nd} (hl : t.ls[i]? = some l) (e : l = l1 ++ l2) :
    X.T (lk (t.C + i) l1) ∧ 15 ≤ lk (t.C + i) l1 ∧ lk (t.C + i) l1 < 256 ∧ ∃ b ∈ t.blks, b ≠ (t.H, 2) ∧ Body b (lk (t.C + i) l1) := by
  have hi := (List.getElem?_eq_some_iff.1 hl).1
  have hlen := G.len
  have key : ∃ b ∈ t.blks, b ≠ (t.H, 2) ∧ Body b (lk (t.C + i) l1) := by
    have h1 := List.nodup_cons.1 hnd
    rcases lk_in (p := t.C + i) (l := l1) with e1 | ⟨x, hx, e1⟩
    · refine ⟨(t.C, clW t.W), by simp [TD.blks], fun e2 => h1.1 (by rw [← e2]; simp), ?_⟩
      rw [e1]
      exact body_of (by omega) (by rw [bsz_clW G.okW]; omega)
    · have hxt : x ∈ t.nodes := sub_nodes hl x (by rw [e]; simp [hx])
      refine ⟨(x.n, 2), mem_blks hxt, fun e2 => h1.1 ?_, ?_⟩
      · rw [← e2]
        exact List.mem_cons_of_mem _ (List.mem_map.2 ⟨x, hxt, rfl⟩)
      · rw [e1]; exact body_of (by omega) (by rw [bsz_2]; omega)
  obtain ⟨b, hb, hne, hp⟩ := key
  have hb2 := A.bnd (b := b) (by simp [hs b hb])
  have := hp
  unfold Body at this
  exact ⟨T_body A hr (hs b hb) hp, by omega, by omega, b, hb, hne, hp⟩
/-- what hangs behind some nodes of a chain is another -/
theorem chain_set {hh : Hp} (A : Arena S0 h (Bt ++ X.Bf) R) (hr : X.r' < 14) (hrt : 6 ≤ root ∧ root < 14) (hs : ∀ b ∈ t.blks, b ∈ Bt) (hnd : t.blks.Nodup) (G : TabW ch h root t) {i : Nat} {l1 l2 l2' : List Nd} (hl : t.ls[i]? = some (l1 ++ l2))
    (gp : ∀ p, p ≠ lk (t.C + i) l1 → p ≠ t.H → (p = root ∨ ∃ b ∈ t.blks, Body b p) → hh p = h p)
    (gH : hh t.H = ((t.ls.set i (l1 ++ l2')).flatten.length : Nat)) (gs : NC hh (hh (lk (t.C + i) l1)) l2') (s2 : ∀ x ∈ l2', ch x.k t.W = i)
    (hk : ((t.ls.set i (l1 ++ l2')).flatten.map (·.k)).Nodup) : TabW ch hh root ⟨t.H, t.C, t.W, t.ls.set i (l1 ++ l2')⟩ := by
  obtain ⟨k1, k2, k3, bl, kb, kn, kp⟩ := lk_bnd A hr hs hnd G hl rfl
  have hi := (List.getElem?_eq_some_iff.1 hl).1
  have hlen := G.len
  have hsB : ∀ b ∈ t.blks, b ∈ Bt ++ X.Bf := fun b hb => by simp [hs b hb]
  obtain ⟨ap1, ap2⟩ := tab_apart A hsB hnd G.okW
  have hHC := tab_HC A hsB hnd G.okW
  obtain ⟨⟨b1, b2, b3, b4, b5⟩, b6, b7, b8⟩ := tab_bnd A hr hs G.okW
  have bH : ∀ j, 0 ≤ j → j < 4 → Body (t.H, 2) (t.H + j) := fun j h0 h4 => body_of (by omega) (by rw [bsz_2]; omega)
  have mH : ((t.H, 2) : Bk) ∈ t.blks := by simp [TD.blks]
  have mC : ((t.C, clW t.W) : Bk) ∈ t.blks := by simp [TD.blks]
  have nlH : ∀ j, 0 ≤ j → j < 4 → lk (t.C + i) l1 ≠ t.H + j := fun j h0 h4 e => kn (A.apart (hsB _ kb) (hsB _ mH) kp (by rw [e]; exact bH j h0 h4))
  have bC : ∀ j : Nat, j < t.ls.length → Body (t.C, clW t.W) (t.C + j) := fun j hj => body_of (by omega) (by rw [bsz_clW G.okW]; omega)
  have bN : ∀ x ∈ t.nodes, ∀ j, 0 ≤ j → j < 4 → Body (x.n, 2) (x.n + j) := fun x hx j h0 h4 => body_of (by omega) (by rw [bsz_2]; omega)
  obtain ⟨g1, g2⟩ := G.seg i _ hl
  have hsub := sub_nodes hl
  refine G.set hl (gp _ (by omega) (by omega) (.inl rfl)) (gp _ (Ne.symm (nlH 1 (by omega) (by omega))) (by omega) (.inr ⟨_, mH, bH 1 (by omega) (by omega)⟩)) (gp _ (Ne.symm (nlH 2 (by omega) (by omega))) (by omega) (.inr ⟨_, mH, bH 2 (by omega) (by omega)⟩)) gH ?_ ?_ ?_ hk
  · have hap : Ap (t.C + i) l1 := Ap.of (fun x hx => (ap2 x (hsub x (by simp [hx]))).1 i (by omega) (by omega)) (ap1.sublist ((List.sublist_append_left l1 l2).trans (sub_flat hl)))
    refine g1.splice hap (fun z hz hz2 => ?_) gs
    rcases hz2 with rfl | ⟨x, hx, hz2⟩
    · exact gp _ hz (by omega) (.inr ⟨_, mC, bC i hi⟩)
    · have hxt := hsub x (by simp [hx])
      have a0 := (ap2 x hxt).2 0 (by omega) (by omega)
      have hzb : Body (x.n, 2) z := body_of (by omega) (by rw [bsz_2]; omega)
      exact gp _ hz (by omega) (.inr ⟨_, mem_blks hxt, hzb⟩)
  · intro x hx
    rcases List.mem_append.1 hx with hx | hx
    · exact g2 x (by simp [hx])
    · exact s2 x hx
  · intro j l3 hj hne
    have hj2 := (List.getElem?_eq_some_iff.1 hj).1
    have nl1 : t.C + j ≠ lk (t.C + i) l1 := by
      rcases lk_in (p := t.C + i) (l := l1) with e1 | ⟨x, hx, e1⟩
      · rw [e1]; omega
      · have := (ap2 x (hsub x (by simp [hx]))).1 j (by omega) (by omega)
        rw [e1]; omega
    refine ⟨gp _ nl1 (by omega) (.inr ⟨_, mC, bC j hj2⟩), fun x hx => ?_⟩
    have hxt := sub_nodes hj x hx
    have key : ∀ jj, 0 ≤ jj → jj < 3 → hh (x.n + jj) = h (x.n + jj) := fun jj h0 h3 => by
      have nl2 : x.n + jj ≠ lk (t.C + i) l1 := by
        rcases lk_in (p := t.C + i) (l := l1) with e1 | ⟨y, hy, e1⟩
        · have := (ap2 x hxt).1 i (by omega) (by omega)
          rw [e1]; omega
        · have := cross ap1 hl hj hne y (by simp [hy]) x hx
          rw [e1]; omega
      have a0 := (ap2 x hxt).2 0 (by omega) (by omega)
      exact gp _ nl2 (by omega) (.inr ⟨_, mem_blks hxt, bN x hxt jj (by omega) (by omega)⟩)
    have k0 := key 0 (by omega) (by omega)
    rw [Int.add_zero] at k0
    exact ⟨k0, key 1 (by omega) (by omega), key 2 (by omega) (by omega)⟩
theorem flatten_app {ls : List (List Nd)} {i : Nat} {l : List Nd} {x : Nd} (h : ls[i]? = some l) : (ls.set i (l ++ [x])).flatten.Perm (x :: ls.flatten) := by
  obtain ⟨A, B, e, _, e2⟩ := ls_split h
  rw [e2, e]
  simp only [List.flatten_append, List.flatten_cons, List.append_assoc]
  have e3 : (A.flatten ++ (l ++ ([x] ++ B.flatten))) = (A.flatten ++ l) ++ x :: B.flatten := by simp
  rw [e3]
  refine List.perm_middle.trans (List.Perm.cons _ ?_)
  simp
theorem flatten_cut {ls : List (List Nd)} {i : Nat} {l1 l2 : List Nd} {x : Nd} (h : ls[i]? = some (l1 ++ x :: l2)) : ls.flatten.Perm (x :: (ls.set i (l1 ++ l2)).flatten) := by
  obtain ⟨A, B, e, _, e2⟩ := ls_split h
  rw [e2, e]
  simp only [List.flatten_append, List.flatten_cons, List.append_assoc, List.cons_append]
  have e3 : (A.flatten ++ (l1 ++ x :: (l2 ++ B.flatten))) = (A.flatten ++ l1) ++ x :: (l2 ++ B.flatten) := by simp
  rw [e3]
  refine List.perm_middle.trans (List.Perm.cons _ ?_)
  simp

/-- a new node at a chain's end -/
theorem putEnd_ok (D : Dr X h n m f d) (hr : 6 ≤ X.r' ∧ X.r' < 14) (A : Arena S0 h (t.blks ++ X.Bf) R) (G : TabW ch h root t) (hrt : 6 ≤ root ∧ root < 14) (hn : n ≤ 80) {i : Nat} {l : List Nd} (hl : t.ls[i]? = some l) (hc : ch k t.W = i) (hk : ∀ y ∈ t.nodes, y.k ≠ k) (hN : t.nodes.length ≤ 100) :
    ((putEnd d ⟨t.H, t.W, t.C, t.nodes.length⟩ (lk (t.C + i) l) k x).err = 4 ∧ 256 < h 5 + 5) ∨
    ∃ h' t' nn, Dr X h' (n + 7) m f (putEnd d ⟨t.H, t.W, t.C, t.nodes.length⟩ (lk (t.C + i) l) k x) ∧ TabW ch h' root t' ∧ Arena S0 h' (t'.blks ++ X.Bf) R ∧ t'.nodes.Perm (⟨nn, k, x⟩ :: t.nodes) := by
  unfold putEnd
  simp only
  rcases D.alloc (sz := 3) (c := 2) (Bt := t.blks) (R := R) hr (by omega) A (by decide) (by omega) (by omega) with ⟨h1, T1⟩ | ⟨e4, hb⟩
  · right
    generalize dAlloc d 3 = q at T1
    obtain ⟨d1, nn⟩ := q
    simp only at T1 ⊢
    have A1 := T1.ar
    have hnd0 := arena_nodup A
    have hnd := arena_nodup A1
    have hsub : ∀ b ∈ t.blks, b ∈ (((nn, 2) : Bk) :: t.blks) := fun b hb => by simp [hb]
    have hsubA : ∀ b ∈ t.blks, b ∈ (((nn, 2) : Bk) :: t.blks) ++ X.Bf := fun b hb => by simp [hb]
    have G1 : TabW ch h1 root t := G.frame (T1.rt root hrt.1 hrt.2) fun b hb p hp => T1.bd b hb p hp
    have hl' : t.ls[i]? = some (l ++ []) := by rw [List.append_nil]; exact hl
    obtain ⟨k1, k2, k3, bl, kb, kn, kp⟩ := lk_bnd A1 hr.2 hsub hnd0 G1 hl' rfl
    obtain ⟨⟨b1, b2, b3, b4, b5⟩, b6, b7, b8⟩ := tab_bnd A1 hr.2 hsub G1.okW
    have bn := A1.bnd (b := (nn, 2)) (by simp)
    simp only [bsz_2] at bn
    have mH : ((t.H, 2) : Bk) ∈ t.blks := by simp [TD.blks]
    have bN : ∀ j, 0 ≤ j → j < 4 → Body (nn, 2) (nn + j) := fun j h0 h4 => body_of (by omega) (by rw [bsz_2]; omega)
    have bH : ∀ j, 0 ≤ j → j < 4 → Body (t.H, 2) (t.H + j) := fun j h0 h4 => body_of (by omega) (by rw [bsz_2]; omega)
    have tN : ∀ j, 0 ≤ j → j < 4 → X.T (nn + j) := fun j h0 h4 => T_body A1 hr.2 (b := (nn, 2)) (by simp) (bN j h0 h4)
    have new : ∀ b ∈ t.blks, ∀ p, Body b p → ∀ j, 0 ≤ j → j < 4 → p ≠ nn + j := fun b hb p hp j h0 h4 e => by
      have := A1.apart (b := (nn, 2)) (by simp) (hsubA b hb) (bN j h0 h4) (by rw [← e]; exact hp)
      exact (List.nodup_cons.1 hnd).1 (this ▸ hb)
    have nlH : lk (t.C + i) l ≠ t.H := fun e => kn (A1.apart (hsubA _ kb) (hsubA _ mH) kp (by rw [e]; exact body_fst))
    have D2 := T1.dr.write (a := nn + 0) (x := k) (by omega) (tN 0 (by omega) (by omega))
    have D3 := D2.write (a := nn + 1) (x := x) (by omega) (tN 1 (by omega) (by omega))
    have D4 := D3.point (a := nn + 2) (x := 0) (by omega) (tN 2 (by omega) (by omega)) (by omega) (by omega)
    have D5 := D4.point (a := lk (t.C + i) l) (x := nn) (by omega) k1 (by omega) (by omega)
    have D6 := D5.write (a := t.H) (x := (t.nodes.length : Int) + 1) (by omega) b3
    have A2 := A1.upd_body (b := (nn, 2)) (p := nn + 0) (x := k) (by simp) (bN 0 (by omega) (by omega))
    have A3 := A2.upd_body (b := (nn, 2)) (p := nn + 1) (x := x) (by simp) (bN 1 (by omega) (by omega))
    have A4 := A3.upd_body (b := (nn, 2)) (p := nn + 2) (x := 0) (by simp) (bN 2 (by omega) (by omega))
    have A5 := A4.upd_body (b := bl) (p := lk (t.C + i) l) (x := nn) (hsubA _ kb) kp
    have A6 := A5.upd_body (b := (t.H, 2)) (p := t.H) (x := (t.nodes.length : Int) + 1) (hsubA _ mH) body_fst
    rw [Int.add_zero t.H, i64e (n := nn + 0) (by omega) (by omega), i64e (n := nn + 1) (by omega) (by omega), i64e (n := nn + 2) (by omega) (by omega), i64e (n := t.H) (by omega) (by omega), u64e (n := (t.nodes.length : Int) + 1) (by omega) (by omega)]
    have pm := flatten_app (x := ⟨nn, k, x⟩) hl
    have lkn : ∀ j, 0 ≤ j → j < 4 → lk (t.C + i) l ≠ nn + j := fun j h0 h4 => new _ kb _ kp j h0 h4
    have n0 := lkn 0 (by omega) (by omega)
    have n1 := lkn 1 (by omega) (by omega)
    have n2 := lkn 2 (by omega) (by omega)
    have hH0 := new _ mH _ (bH 0 (by omega) (by omega))
    have m0 := hH0 0 (by omega) (by omega)
    have m1 := hH0 1 (by omega) (by omega)
    have m2 := hH0 2 (by omega) (by omega)
    refine ⟨_, ⟨t.H, t.C, t.W, t.ls.set i (l ++ [⟨nn, k, x⟩])⟩, nn, D6.mono (by omega) (Nat.le_refl _), ?_, ?_, pm⟩
    · refine chain_set A1 hr.2 hrt hsub hnd0 G1 (l2' := [⟨nn, k, x⟩]) hl' (fun p p1 p2 p3 => ?_) ?_ ?_ ?_ ?_
      · have np : ∀ j, 0 ≤ j → j < 4 → p ≠ nn + j := fun j h0 h4 => by
          rcases p3 with rfl | ⟨b, hb, hp⟩
          · omega
          · exact new b hb p hp j h0 h4
        rw [hput_ne p2, hput_ne p1, hput_ne (np 2 (by omega) (by omega)), hput_ne (np 1 (by omega) (by omega)), hput_ne (np 0 (by omega) (by omega))]
      · rw [hput_same, pm.length_eq]; simp
      · rw [hput_ne nlH, hput_same]
        refine ⟨rfl, ?_, ?_, ?_⟩
        · show hput _ _ _ nn = k
          rw [hput_ne (by omega), hput_ne (by omega), hput_ne (by omega), hput_ne (by omega)]
          show hput _ (nn + 0) k nn = k
          have e0 : nn + 0 = nn := Int.add_zero nn
          rw [e0, hput_same]
        · show hput _ _ _ (nn + 1) = x
          rw [hput_ne (by omega), hput_ne (by omega), hput_ne (by omega), hput_same]
        · show hput _ _ _ (nn + 2) = 0
          rw [hput_ne (by omega), hput_ne (by omega), hput_same]
      · intro y hy
        rw [List.mem_singleton.1 hy]; exact hc
      · rw [(pm.map _).nodup_iff]
        refine List.nodup_cons.2 ⟨fun hm => ?_, G.keys⟩
        obtain ⟨y, hy, e⟩ := List.mem_map.1 hm
        exact hk y hy e
    · refine A6.perm (List.Perm.append_right _ ?_)
      unfold TD.blks
      have p2 : (((nn, 2) : Bk) :: ndB t.nodes).Perm (ndB (t.ls.set i (l ++ [⟨nn, k, x⟩])).flatten) := ((pm.map fun x : Nd => ((x.n, 2) : Bk))).symm
      refine (List.Perm.swap _ _ _).trans (List.Perm.cons _ ?_)
      refine (List.Perm.swap _ _ _).trans (List.Perm.cons _ p2)
  · left
    have S1 := alloc_stk e4
    rw [bsz_2] at hb
    rw [S1.write (by decide), S1.write (by decide), S1.point (by decide), S1.point (by decide), S1.write (by decide)]
    exact ⟨S1.err, by omega⟩
end
end Go.Proofs.YtokbiojkpldfeaaGreat.S
/-! ### Put, Del, Get, All on a draft -/
namespace Go.Proofs.YtokbiojkpldfeaaGreat.S
open Go Go.Proofs
def prs (l : List Nd) : List TPair := l.map fun x => ⟨x.k, x.v⟩
section
variable {X : Cx} {h h' : Hp} {n m : Nat} {f : List Int} {s : VwS} {d : DrS} {a b x y p c k root : Int} {Bt R B : List Bk} {S0 : List Bk} {t : TD} {o : Option TD}

/-- a node is cut out -/
theorem cutOut_ok (D : Dr X h n m f d) (hr : 6 ≤ X.r' ∧ X.r' < 14) (A : Arena S0 h (t.blks ++ X.Bf) R) (G : TabW ch h root t) (hrt : 6 ≤ root ∧ root < 14) (hn : n ≤ 80) {i : Nat} {l1 l2 : List Nd} {nd : Nd} (hl : t.ls[i]? = some (l1 ++ nd :: l2)) (hN : t.nodes.length ≤ 100) :
    ∃ h' t', Dr X h' (n + 3) m (f ++ [nd.n]) (cutOut d ⟨t.H, t.W, t.C, t.nodes.length⟩ (lk (t.C + i) l1) nd.n) ∧ TabW ch h' root t' ∧ Arena S0 h' (t'.blks ++ X.Bf) ((nd.n, 2) :: R) ∧ t.nodes.Perm (nd :: t'.nodes) := by
  have hnd := arena_nodup A
  have hsub : ∀ b ∈ t.blks, b ∈ t.blks := fun b hb => hb
  have hsubA : ∀ b ∈ t.blks, b ∈ t.blks ++ X.Bf := fun b hb => by simp [hb]
  obtain ⟨k1, k2, k3, bl, kb, kn, kp⟩ := lk_bnd A hr.2 hsub hnd G hl rfl
  obtain ⟨⟨b1, b2, b3, b4, b5⟩, b6, b7, b8⟩ := tab_bnd A hr.2 hsub G.okW
  have mH : ((t.H, 2) : Bk) ∈ t.blks := by simp [TD.blks]
  have hm : nd ∈ t.nodes := sub_nodes hl nd (by simp)
  have mN := mem_blks hm
  obtain ⟨t1, t2, t3, t4, t5⟩ := ndsT_of A hr.2 (l := t.nodes) (fun x hx => mem_blks hx) nd hm
  have nlH : lk (t.C + i) l1 ≠ t.H := fun e => kn (A.apart (hsubA _ kb) (hsubA _ mH) kp (by rw [e]; exact body_fst))
  obtain ⟨ap1, ap2⟩ := tab_apart A hsubA hnd G.okW
  obtain ⟨g1, g2⟩ := G.seg i _ hl
  have g3 := g1.split
  obtain ⟨g4, g5, g6, g7⟩ := g3
  have hl2 : NdsT X l2 := fun y hy => ndsT_of A hr.2 (l := t.nodes) (fun x hx => mem_blks hx) y (sub_nodes hl y (by simp [hy]))
  have hrg := nc_rng g7 hl2
  have D1 := D.write (a := lk (t.C + i) l1) (x := h (nd.n + 2)) (by omega) k1
  have D2 := D1.write (a := t.H) (x := (t.nodes.length : Int) - 1) (by omega) b3
  have A1 := A.upd_body (b := bl) (p := lk (t.C + i) l1) (x := h (nd.n + 2)) (hsubA _ kb) kp
  have A2 := A1.upd_body (b := (t.H, 2)) (p := t.H) (x := (t.nodes.length : Int) - 1) (hsubA _ mH) body_fst
  have pm := flatten_cut hl
  have pmB : (t.blks ++ X.Bf).Perm (((nd.n, 2) :: (⟨t.H, t.C, t.W, t.ls.set i (l1 ++ l2)⟩ : TD).blks) ++ X.Bf) := by
    refine List.Perm.append_right _ ?_
    unfold TD.blks
    have p2 : (ndB t.nodes).Perm (((nd.n, 2) : Bk) :: ndB (t.ls.set i (l1 ++ l2)).flatten) := pm.map fun x : Nd => ((x.n, 2) : Bk)
    refine ((p2.cons _).cons _).trans ?_
    exact ((List.Perm.swap _ _ _).cons _).trans (List.Perm.swap _ _ _)
  obtain ⟨D3, A3⟩ := D2.free hr.2 (by omega) (A2.perm pmB)
  have hpos : 1 ≤ t.nodes.length := List.length_pos_of_mem hm
  have ec : cutOut d ⟨t.H, t.W, t.C, t.nodes.length⟩ (lk (t.C + i) l1) nd.n = dFree (dWrite (dWrite d (lk (t.C + i) l1) (h (nd.n + 2))) t.H ((t.nodes.length : Int) - 1)) nd.n := by
    unfold cutOut
    rw [i64e (n := nd.n + 2) (by omega) (by omega), D.read t5]
    simp only
    rw [Int.add_zero, i64e (n := t.H) (by omega) (by omega), u64e (n := (t.nodes.length : Int) - 1) (by omega) (by omega)]
  rw [ec]
  refine ⟨_, ⟨t.H, t.C, t.W, t.ls.set i (l1 ++ l2)⟩, D3.mono (by omega) (Nat.le_refl _), ?_, A3, pm⟩
  have hN1 : ∀ b ∈ t.blks, ∀ p, Body b p → p ≠ nd.n - 1 := fun b hb p hp => A.head_body (b := b) (b' := (nd.n, 2)) (hsubA _ hb) (hsubA _ mN) hp
  refine chain_set A hr.2 hrt hsub hnd G (l2' := l2) hl (fun p p1 p2 p3 => ?_) ?_ ?_ (fun x hx => g2 x (by simp [hx])) ?_
  · have : p ≠ nd.n - 1 := by
      rcases p3 with rfl | ⟨b, hb, hp⟩
      · omega
      · exact hN1 b hb p hp
    rw [hput_ne this, hput_ne p2, hput_ne p1]
  · have := hN1 _ mH t.H body_fst
    rw [hput_ne this, hput_same]
    have := pm.length_eq
    simp only [List.length_cons] at this
    have eN : t.ls.flatten.length = t.nodes.length := rfl
    show (t.nodes.length : Int) - 1 = _
    omega
  · have := hN1 _ kb _ kp
    rw [hput_ne this, hput_ne nlH, hput_same]
    refine g7.frame fun y hy => ?_
    have hyt := sub_nodes hl y (by simp [hy])
    have key : ∀ j, 0 ≤ j → j < 3 → hput (hput (hput h (lk (t.C + i) l1) (h (nd.n + 2))) t.H ((t.nodes.length : Int) - 1)) (nd.n - 1) 2 (y.n + j) = h (y.n + j) := fun j h0 h3 => by
      have hb : Body (y.n, 2) (y.n + j) := body_of (by omega) (by rw [bsz_2]; omega)
      have q0 := (ap2 y hyt).2 0 (by omega) (by omega)
      have q1 : y.n + j ≠ lk (t.C + i) l1 := by
        rcases lk_in (p := t.C + i) (l := l1) with e1 | ⟨z, hz, e1⟩
        · have := (ap2 y hyt).1 i (by omega) (by have := (List.getElem?_eq_some_iff.1 hl).1; have := G.len; omega)
          rw [e1]; omega
        · have h5 : NdsA (l1 ++ nd :: l2) := ap1.sublist (sub_flat hl)
          unfold NdsA at h5
          rw [List.pairwise_append] at h5
          have := h5.2.2 z hz y (by simp [hy])
          rw [e1]; omega
      rw [hput_ne (hN1 _ (mem_blks hyt) _ hb), hput_ne (by omega), hput_ne q1]
    have k0 := key 0 (by omega) (by omega)
    rw [Int.add_zero] at k0
    exact ⟨k0, key 1 (by omega) (by omega), key 2 (by omega) (by omega)⟩
  · have h1 := G.keys
    have h2 := (pm.map (·.k)).nodup_iff.1 h1
    exact (List.nodup_cons.1 h2).2
theorem NC.setv {l1 l2 : List Nd} {nd : Nd} {v : Int} : ∀ {a : Int}, NC h a (l1 ++ nd :: l2) → NdsA (l1 ++ nd :: l2) → NC (hput h (nd.n + 1) v) a (l1 ++ ⟨nd.n, nd.k, v⟩ :: l2) := by
  induction l1 with
  | nil =>
    intro a H ha
    obtain ⟨h1, h2, h3, h4⟩ := H
    have := (List.pairwise_cons.1 ha).1
    refine ⟨h1, by rw [hput_ne (by show nd.n ≠ _; omega)]; exact h2, by show hput _ _ _ (nd.n + 1) = _; rw [hput_same], ?_⟩
    show NC _ (hput _ _ _ (nd.n + 2)) l2
    rw [hput_ne (by omega)]
    exact nc_upd h4 fun y hy => by have := this y hy; omega
  | cons z l1 ih =>
    intro a H ha
    obtain ⟨h1, h2, h3, h4⟩ := H
    have hp := List.pairwise_cons.1 ha
    have := hp.1 nd (by simp)
    refine ⟨h1, by rw [hput_ne (by omega)]; exact h2, by rw [hput_ne (by omega)]; exact h3, ?_⟩
    rw [hput_ne (by omega)]
    exact ih h4 hp.2
theorem flatten_at {ls : List (List Nd)} {i : Nat} {l1 l2 : List Nd} {x : Nd} (h : ls[i]? = some (l1 ++ x :: l2)) : ∃ P Q, ls.flatten = P ++ x :: Q ∧ ∀ y, (ls.set i (l1 ++ y :: l2)).flatten = P ++ y :: Q := by
  obtain ⟨A, B, e, _, e2⟩ := ls_split h
  refine ⟨A.flatten ++ l1, l2 ++ B.flatten, by rw [e]; simp, fun y => by rw [e2]; simp⟩
/-- a node's value is another -/
theorem setv_ok (D : Dr X h n m f d) (hr : 6 ≤ X.r' ∧ X.r' < 14) (A : Arena S0 h (t.blks ++ X.Bf) R) (G : TabW ch h root t) (hrt : 6 ≤ root ∧ root < 14) (hn : n ≤ 80) {i : Nat} {l1 l2 : List Nd} {nd : Nd} (hl : t.ls[i]? = some (l1 ++ nd :: l2)) {v : Int} :
    ∃ h' t' P Q, Dr X h' (n + 1) m f (dWrite d (w64 (nd.n + 1)) v) ∧ TabW ch h' root t' ∧ Arena S0 h' (t'.blks ++ X.Bf) R ∧ t.nodes = P ++ nd :: Q ∧ t'.nodes = P ++ ⟨nd.n, nd.k, v⟩ :: Q := by
  have hnd := arena_nodup A
  have hsubA : ∀ b ∈ t.blks, b ∈ t.blks ++ X.Bf := fun b hb => by simp [hb]
  obtain ⟨⟨b1, b2, b3, b4, b5⟩, b6, b7, b8⟩ := tab_bnd A hr.2 (fun b hb => hb) G.okW
  have hm : nd ∈ t.nodes := sub_nodes hl nd (by simp)
  obtain ⟨t1, t2, t3, t4, t5⟩ := ndsT_of A hr.2 (l := t.nodes) (fun x hx => mem_blks hx) nd hm
  obtain ⟨ap1, ap2⟩ := tab_apart A hsubA hnd G.okW
  obtain ⟨g1, g2⟩ := G.seg i _ hl
  obtain ⟨P, Q, e1, e2⟩ := flatten_at hl
  have hlen := G.len
  have hi := (List.getElem?_eq_some_iff.1 hl).1
  rw [i64e (n := nd.n + 1) (by omega) (by omega)]
  have hH := fun j h0 h4 => (ap2 nd hm).2 j h0 h4
  have H0 := hH 0 (by omega) (by omega)
  refine ⟨_, ⟨t.H, t.C, t.W, t.ls.set i (l1 ++ ⟨nd.n, nd.k, v⟩ :: l2)⟩, P, Q, D.write (by omega) t4, ?_, ?_, e1, e2 _⟩
  · refine G.set hl (hput_ne (by omega)) (hput_ne (by have := hH 1 (by omega) (by omega); omega)) (hput_ne (by have := hH 2 (by omega) (by omega); omega)) ?_ ?_ ?_ ?_ ?_
    · rw [hput_ne (by omega), G.cnt]
      show ((t.ls.flatten.length : Nat) : Int) = _
      rw [e1, e2]; simp
    · have := (ap2 nd hm).1 i (by omega) (by omega)
      rw [hput_ne (by omega)]
      exact g1.setv (ap1.sublist (sub_flat hl))
    · intro x hx
      rcases List.mem_append.1 hx with hx | hx
      · exact g2 x (by simp [hx])
      · rcases List.mem_cons.1 hx with rfl | hx
        · exact g2 nd (by simp)
        · exact g2 x (by simp [hx])
    · intro j l3 hj hne
      have hj2 := (List.getElem?_eq_some_iff.1 hj).1
      have := (ap2 nd hm).1 j (by omega) (by omega)
      refine ⟨hput_ne (by omega), fun x hx => ?_⟩
      have := cross ap1 hl hj hne nd (by simp) x hx
      exact ⟨hput_ne (by omega), hput_ne (by omega), hput_ne (by omega)⟩
    · rw [e2]
      have := G.keys
      show ((P ++ _ :: Q).map _).Nodup
      unfold TD.nodes at this
      rw [e1] at this
      simpa using this
  · have A1 := A.upd_body (b := (nd.n, 2)) (p := nd.n + 1) (x := v) (hsubA _ (mem_blks hm)) (body_of (by omega) (by rw [bsz_2]; omega))
    have : (⟨t.H, t.C, t.W, t.ls.set i (l1 ++ ⟨nd.n, nd.k, v⟩ :: l2)⟩ : TD).blks = t.blks := by
      unfold TD.blks TD.nodes ndB
      simp only
      rw [e1, e2]; simp
    rw [this]; exact A1
end
end Go.Proofs.YtokbiojkpldfeaaGreat.S
/-! ### the calls on a draft -/
namespace Go.Proofs.YtokbiojkpldfeaaGreat.S
open Go Go.Proofs
def ndO : Option TD → List Nd
  | none => []
  | some t => t.nodes
section
variable {X : Cx} {h h' : Hp} {n m : Nat} {f : List Int} {s : VwS} {d : DrS} {a b x y p c k root : Int} {Bt R B : List Bk} {S0 : List Bk} {t : TD} {o : Option TD}

theorem NC.val {l : List Nd} {x : Nd} : ∀ {a : Int}, NC h a l → x ∈ l → h (x.n + 1) = x.v ∧ h x.n = x.k := by
  induction l with
  | nil => intro a _ hx; cases hx
  | cons y l ih =>
    intro a H hx
    rcases List.mem_cons.1 hx with rfl | hx
    · exact ⟨H.2.2.1, H.2.1⟩
    · exact ih H.2.2.2 hx
theorem at_ls {ls : List (List Nd)} {i : Nat} {l1 l2 : List Nd} {x : Nd} (h : ls[i]? = some (l1 ++ x :: l2)) : ∃ P Q, ls.flatten = P ++ x :: Q := by
  obtain ⟨P, Q, e, _⟩ := flatten_at h
  exact ⟨P, Q, e⟩

theorem tAt_did (D : Dr X h n m f d) (hr : 6 ≤ X.r' ∧ X.r' < 14) (A : Arena S0 h (obB o ++ X.Bf) R) (G : Tab ch h root o) (hrt : 6 ≤ root ∧ root < 14 ∧ root ≠ X.r') (hn : n ≤ 40) :
    ((tAt d root).1.err = 4 ∧ 256 < h 5 + 13) ∨
    ∃ h' t, (tAt d root).2 = ⟨t.H, t.W, t.C, t.nodes.length⟩ ∧ Dr X h' (n + 10) m f (tAt d root).1 ∧ TabW ch h' root t ∧ Arena S0 h' (t.blks ++ X.Bf) R ∧ t.nodes = ndO o ∧ h' 5 ≤ h 5 + 8 := by
  have tr : X.T root := T_root A hrt.1 hrt.2.1 hrt.2.2
  unfold tAt
  cases o with
  | none =>
    have G : h root = 0 := G
    rw [open_none D tr G]
    rw [if_pos ⟨D.err, rfl⟩]
    rcases tMade_did D hr A hrt hn with ⟨e, hb⟩ | ⟨h', t, e, D', G', A', e2, e3, hb⟩
    · exact .inl ⟨e, hb⟩
    · refine .inr ⟨h', t, ?_, D', G', A', e2, hb⟩
      rw [e, e2]; rfl
  | some t =>
    have G : TabW ch h root t := G
    have A : Arena S0 h (t.blks ++ X.Bf) R := A
    obtain ⟨⟨b1, _⟩, _⟩ := tab_bnd A hr.2 (fun b hb => hb) G.okW
    rw [open_some D A hr.2 tr (fun b hb => hb) G]
    rw [if_neg (by rintro ⟨_, g⟩; simp only at g; omega)]
    exact .inr ⟨h, t, rfl, D.mono (by omega) (Nat.le_refl _), G, A, rfl, by omega⟩

/-- what Put does to the nodes -/
def PutR (l l' : List Nd) (k x : Int) (fresh : Bool) : Prop :=
  (fresh = false ∧ ∃ P nd Q, l = P ++ nd :: Q ∧ nd.k = k ∧ l' = P ++ ⟨nd.n, k, x⟩ :: Q) ∨ (fresh = true ∧ (∀ y ∈ l, y.k ≠ k) ∧ ∃ nn, l'.Perm (⟨nn, k, x⟩ :: l))

theorem put1_ok (D : Dr X h 0 0 [] d) (hr : 6 ≤ X.r' ∧ X.r' < 14) (A : Arena S0 h (obB o ++ X.Bf) []) (G : Tab ch h root o) (hrt : 6 ≤ root ∧ root < 14 ∧ root ≠ X.r') (hN : (ndO o).length ≤ 12) :
    ((tPut1 root k x d).1.err = 4 ∧ 256 < h 5 + 40) ∨
    ∃ h' t' f' R', Dr X h' 96 1000 f' (tPut1 root k x d).1 ∧ TabW ch h' root t' ∧ Arena S0 h' (t'.blks ++ X.Bf) R' ∧ R'.map (·.1) = f' ∧ R'.length ≤ 1 ∧ PutR (ndO o) t'.nodes k x (tPut1 root k x d).2 := by
  unfold tPut1
  rcases tAt_did D hr A G hrt (by omega) with ⟨e, hb⟩ | ⟨h1, t, e, D1, G1, A1, e2, hb⟩
  · rw [if_neg (by omega)]
    exact .inl ⟨e, by omega⟩
  · rw [if_pos D1.err, e]
    have hNt : t.nodes.length ≤ 12 := by rw [e2]; exact hN
    generalize (tAt d root).1 = d1 at D1
    obtain ⟨i, l, d2, hl, hc, D2, r⟩ := tSeek_did' (k := k) D1 A1 hr.2 (fun b hb => hb) G1 (by omega) (by omega) (keys := t.nodes.length)
    rcases r with ⟨l1, nd, l2, el, ek, es⟩ | ⟨hk, es⟩
    · right
      rw [es]
      simp only
      subst el
      obtain ⟨t1, t2, t3, t4, t5⟩ := ndsT_of A1 hr.2 (l := t.nodes) (fun x hx => mem_blks hx) nd (sub_nodes hl nd (by simp))
      rw [if_neg (by omega)]
      obtain ⟨h', t', P, Q, D', G', A', p1, p2⟩ := setv_ok (v := x) D2 hr A1 G1 ⟨hrt.1, hrt.2.1⟩ (by omega) hl
      refine ⟨h', t', [], [], D'.mono (by omega) (by omega), G', A', rfl, by simp, .inl ⟨rfl, P, nd, Q, by rw [← e2, p1], ek, by rw [p2, ek]⟩⟩
    · rw [es]
      simp only
      rw [if_pos trivial]
      unfold putGrow
      by_cases hg : d2.err = 0 ∧ wU t.W ≤ (t.nodes.length : Int) ∧ t.W < 16
      · rw [if_pos hg]
        have hW : t.W = 2 ∨ t.W = 4 ∨ t.W = 8 := by have := G1.okW; omega
        rcases tGrow_did D2 hr A1 G1 ⟨hrt.1, hrt.2.1⟩ hW (by omega) (by omega) (by omega) (keys := t.nodes.length) with ⟨e4, hb2⟩ | ⟨h3, t3, eg, D3, G3, A3, pm, hb2⟩
        · left
          have S1 := Stk.self e4
          generalize tGrow d2 ⟨t.H, t.W, t.C, t.nodes.length⟩ = q at S1
          have S2 := S1.tSeek (by decide) (t := q.2) (k := k)
          simp only
          rw [S2.1.putEnd (by decide)]
          exact ⟨S2.1.err, by omega⟩
        · generalize tGrow d2 ⟨t.H, t.W, t.C, t.nodes.length⟩ = q at D3 eg
          obtain ⟨d3, tb⟩ := q
          simp only at eg D3 ⊢
          subst eg
          have hl3 := pm.length_eq
          have ek3 : (t.nodes.length : Int) = t3.nodes.length := by rw [hl3]
          rw [ek3]
          obtain ⟨i3, l3, d4, hl3, hc3, D4, r3⟩ := tSeek_did' (k := k) D3 A3 hr.2 (fun b hb => hb) G3 (by omega) (by omega) (keys := t3.nodes.length)
          have hk3 : ∀ y ∈ t3.nodes, y.k ≠ k := fun y hy => hk y (pm.mem_iff.1 hy)
          rcases r3 with ⟨l1, nd, l2, el, ek, es3⟩ | ⟨_, es3⟩
          · exact absurd ek (hk3 nd (sub_nodes hl3 nd (by rw [el]; simp)))
          · rw [es3]
            simp only
            rcases putEnd_ok (x := x) D4 hr A3 G3 ⟨hrt.1, hrt.2.1⟩ (by omega) hl3 hc3 hk3 (by omega) with ⟨e4, hb3⟩ | ⟨h', t', nn, D', G', A', pm'⟩
            · exact .inl ⟨e4, by omega⟩
            · right
              refine ⟨h', t', [] ++ [t.C], [(t.C, clW t.W)], D'.mono (by omega) (by omega), G', A', rfl, by simp, .inr ⟨rfl, by rw [← e2]; exact hk, nn, ?_⟩⟩
              rw [← e2]
              exact pm'.trans (pm.cons _)
      · rw [if_neg hg]
        simp only
        rcases putEnd_ok (x := x) D2 hr A1 G1 ⟨hrt.1, hrt.2.1⟩ (by omega) hl hc hk (by omega) with ⟨e4, hb3⟩ | ⟨h', t', nn, D', G', A', pm'⟩
        · exact .inl ⟨e4, by omega⟩
        · right
          refine ⟨h', t', [], [], D'.mono (by omega) (by omega), G', A', rfl, by simp, .inr ⟨rfl, by rw [← e2]; exact hk, nn, ?_⟩⟩
          rw [← e2]; exact pm'

def GetR (l : List Nd) (k v : Int) (ok : Bool) : Prop := (ok = true ∧ ∃ P nd Q, l = P ++ nd :: Q ∧ nd.k = k ∧ nd.v = v) ∨ (ok = false ∧ v = 0 ∧ ∀ y ∈ l, y.k ≠ k)
theorem get1_ok (D : Dr X h 0 0 [] d) (hr : 6 ≤ X.r' ∧ X.r' < 14) (A : Arena S0 h (obB o ++ X.Bf) []) (G : Tab ch h root o) (hrt : 6 ≤ root ∧ root < 14 ∧ root ≠ X.r') (hN : (ndO o).length ≤ 12) :
    Dr X h 0 1000 [] (tGet1 root k d).1 ∧ GetR (ndO o) k (tGet1 root k d).2.1 (tGet1 root k d).2.2 := by
  have tr : X.T root := T_root A hrt.1 hrt.2.1 hrt.2.2
  unfold tGet1
  cases o with
  | none =>
    have G : h root = 0 := G
    rw [open_none D tr G]
    rw [if_neg (by rintro ⟨_, g⟩; exact g rfl)]
    exact ⟨D.mono (by omega) (by omega), .inr ⟨rfl, rfl, by simp [ndO]⟩⟩
  | some t =>
    have G : TabW ch h root t := G
    have A : Arena S0 h (t.blks ++ X.Bf) [] := A
    have hN : t.nodes.length ≤ 12 := hN
    obtain ⟨⟨b1, _⟩, _⟩ := tab_bnd A hr.2 (fun b hb => hb) G.okW
    rw [open_some D A hr.2 tr (fun b hb => hb) G]
    rw [if_pos ⟨D.err, by simp only; omega⟩]
    obtain ⟨i, l, d2, hl, hc, D2, r⟩ := tSeek_did' (k := k) D A hr.2 (fun b hb => hb) G (by omega) (by omega) (keys := t.nodes.length)
    rcases r with ⟨l1, nd, l2, el, ek, es⟩ | ⟨hk, es⟩
    · rw [es]
      simp only
      subst el
      obtain ⟨t1, t2, t3, t4, t5⟩ := ndsT_of A hr.2 (l := t.nodes) (fun x hx => mem_blks hx) nd (sub_nodes hl nd (by simp))
      rw [if_neg (by omega), i64e (n := nd.n + 1) (by omega) (by omega), D2.read t4]
      obtain ⟨P, Q, e⟩ := at_ls hl
      exact ⟨D2.mono (by omega) (by omega), .inl ⟨rfl, P, nd, Q, e, ek, (((G.seg i _ hl).1.val (x := nd) (by simp)).1).symm⟩⟩
    · rw [es]
      simp only
      rw [if_pos trivial]
      exact ⟨D2.mono (by omega) (by omega), .inr ⟨rfl, rfl, hk⟩⟩

def DelR (l l' : List Nd) (k : Int) (was : Bool) : Prop := (was = true ∧ ∃ nd, nd.k = k ∧ l.Perm (nd :: l')) ∨ (was = false ∧ l' = l ∧ ∀ y ∈ l, y.k ≠ k)
theorem del1_ok (D : Dr X h 0 0 [] d) (hr : 6 ≤ X.r' ∧ X.r' < 14) (A : Arena S0 h (obB o ++ X.Bf) []) (G : Tab ch h root o) (hrt : 6 ≤ root ∧ root < 14 ∧ root ≠ X.r') (hN : (ndO o).length ≤ 12) :
    ∃ h' o' f' R', Dr X h' 96 1000 f' (tDel1 root k d).1 ∧ Tab ch h' root o' ∧ Arena S0 h' (obB o' ++ X.Bf) R' ∧ R'.map (·.1) = f' ∧ R'.length ≤ 1 ∧ DelR (ndO o) (ndO o') k (tDel1 root k d).2 := by
  have tr : X.T root := T_root A hrt.1 hrt.2.1 hrt.2.2
  unfold tDel1
  cases o with
  | none =>
    have G : h root = 0 := G
    rw [open_none D tr G]
    rw [if_neg (by rintro ⟨_, g⟩; exact g rfl)]
    exact ⟨h, none, [], [], D.mono (by omega) (by omega), G, A, rfl, by simp, .inr ⟨rfl, rfl, by simp [ndO]⟩⟩
  | some t =>
    have G : TabW ch h root t := G
    have A : Arena S0 h (t.blks ++ X.Bf) [] := A
    have hN : t.nodes.length ≤ 12 := hN
    obtain ⟨⟨b1, _⟩, _⟩ := tab_bnd A hr.2 (fun b hb => hb) G.okW
    rw [open_some D A hr.2 tr (fun b hb => hb) G]
    rw [if_pos ⟨D.err, by simp only; omega⟩]
    obtain ⟨i, l, d2, hl, hc, D2, r⟩ := tSeek_did' (k := k) D A hr.2 (fun b hb => hb) G (by omega) (by omega) (keys := t.nodes.length)
    rcases r with ⟨l1, nd, l2, el, ek, es⟩ | ⟨hk, es⟩
    · rw [es]
      simp only
      subst el
      obtain ⟨t1, t2, t3, t4, t5⟩ := ndsT_of A hr.2 (l := t.nodes) (fun x hx => mem_blks hx) nd (sub_nodes hl nd (by simp))
      rw [if_neg (by omega)]
      obtain ⟨h', t', D', G', A', pm⟩ := cutOut_ok D2 hr A G ⟨hrt.1, hrt.2.1⟩ (by omega) hl (by omega)
      exact ⟨h', some t', [] ++ [nd.n], [(nd.n, 2)], D'.mono (by omega) (by omega), G', A', rfl, by simp, .inl ⟨rfl, nd, ek, pm⟩⟩
    · rw [es]
      simp only
      rw [if_pos trivial]
      exact ⟨h, some t, [], [], D2.mono (by omega) (by omega), G, A, rfl, by simp, .inr ⟨rfl, rfl, hk⟩⟩

theorem inN_allF : ∀ (l : List Nd) {out : List TPair} {a : Int} {m : Nat} {d : DrS} {fu : Nat}, Dr X h n m f d → m + l.length ≤ 2047 → l.length < fu → NC h a l → NdsT X l →
    ∃ d', inN allF fu out d a = (out ++ prs l, d') ∧ Dr X h n (m + l.length) f d' := by
  intro l
  induction l with
  | nil =>
    intro out a m d fu D hm hf H ht
    obtain ⟨fu, rfl⟩ : ∃ k, fu = k + 1 := ⟨fu - 1, by simp at hf; omega⟩
    exact ⟨d, by rw [inN_stop H]; simp [prs], D⟩
  | cons x l ih =>
    intro out a m d fu D hm hf H ht
    obtain ⟨fu, rfl⟩ : ∃ k, fu = k + 1 := ⟨fu - 1, by simp at hf; omega⟩
    simp only [List.length_cons] at hm hf
    obtain ⟨h1, h2, h3, h4⟩ := H
    subst h1
    obtain ⟨t1, t2, t3, t4, t5⟩ := ht x (by simp)
    obtain ⟨D2, e2, _⟩ := D.step (by omega)
    have hr := nc_rng h4 (fun y hy => ht y (by simp [hy]))
    rw [inN_step (by omega) e2, i64e (n := x.n + 2) (by omega) (by omega), D2.place t5 (by omega) (by omega)]
    simp only
    have ef : allF out (dStep d) x.n = (out ++ [⟨x.k, x.v⟩], dStep d) := by
      unfold allF
      rw [Int.add_zero, i64e (n := x.n) (by omega) (by omega), i64e (n := x.n + 1) (by omega) (by omega), D2.read t3]
      simp only
      rw [D2.read t4, h2, h3]
    rw [ef]
    simp only
    obtain ⟨d', q1, q2⟩ := ih (out := out ++ [⟨x.k, x.v⟩]) (a := h (x.n + 2)) (fu := fu) D2 (by omega) (by omega) h4 (fun y hy => ht y (by simp [hy]))
    refine ⟨d', by rw [q1]; simp [prs], ?_⟩
    have e : ∀ z : Nat, z + 1 + l.length = z + (x :: l).length := fun z => by simp only [List.length_cons]; omega
    rw [e] at q2; exact q2
theorem eachN_allF {t : TbS} (hC : 15 ≤ t.chains) : ∀ (lss : List (List Nd)) {i : Nat} {out : List TPair} {m : Nat} {d : DrS}, t.chains + i + lss.length ≤ 256 → Dr X h n m f d → m + lss.flatten.length ≤ 2047 → (∀ (j : Nat) l, lss[j]? = some l → NC h (h (t.chains + (i + j : Nat))) l) → (∀ j : Nat, j < lss.length → X.T (t.chains + (i + j : Nat))) → NdsT X lss.flatten →
    ∃ d', eachN allF t lss.length i out d = (out ++ prs lss.flatten, d') ∧ Dr X h n (m + lss.flatten.length) f d' := by
  intro lss
  induction lss with
  | nil => intro i out m d hb D hm H hT ht; exact ⟨d, by simp [prs, eachN], D⟩
  | cons l lss ih =>
    intro i out m d hb D hm H hT ht
    simp only [List.flatten_cons, List.length_append, List.length_cons] at hm hT hb ht ⊢
    have H0 := H 0 l rfl
    have T0 := hT 0 (by omega)
    rw [Nat.add_zero] at H0 T0
    have hr := nc_rng H0 (fun y hy => ht y (by simp [hy]))
    unfold eachN
    rw [i64e (n := t.chains + i) (by omega) (by omega), D.place T0 (by omega) (by omega)]
    simp only
    have hst := D.st
    obtain ⟨d1, q1, q2⟩ := inN_allF l (out := out) (fu := fuel d) D (by omega) (by unfold fuel; omega) H0 (fun y hy => ht y (by simp [hy]))
    rw [q1]
    simp only
    have k1 : ∀ (j : Nat) l', lss[j]? = some l' → NC h (h (t.chains + (i + 1 + j : Nat))) l' := fun j l' hl' => by
      have := H (j + 1) l' (by simpa using hl')
      rw [show i + (j + 1) = i + 1 + j by omega] at this
      exact this
    have k2 : ∀ j : Nat, j < lss.length → X.T (t.chains + (i + 1 + j : Nat)) := fun j hj => by
      have T1 := hT (j + 1) (by omega)
      rw [show i + (j + 1) = i + 1 + j by omega] at T1
      exact T1
    obtain ⟨d', r1, r2⟩ := ih (i := i + 1) (out := out ++ prs l) (by omega) q2 (by omega) k1 k2 (fun y hy => ht y (by simp only [List.mem_append]; exact .inr hy))
    refine ⟨d', by rw [r1]; simp [prs], by simpa only [Nat.add_assoc] using r2⟩
theorem all1_ok (D : Dr X h 0 0 [] d) (hr : 6 ≤ X.r' ∧ X.r' < 14) (A : Arena S0 h (obB o ++ X.Bf) []) (G : Tab ch h root o) (hrt : 6 ≤ root ∧ root < 14 ∧ root ≠ X.r') (hN : (ndO o).length ≤ 12) :
    Dr X h 0 1000 [] (tAll1 root d).1 ∧ (tAll1 root d).2 = prs (ndO o) ∧ Dr X h 0 1000 [] (tLen1 root d).1 ∧ (tLen1 root d).2 = ((ndO o).length : Nat) := by
  have tr : X.T root := T_root A hrt.1 hrt.2.1 hrt.2.2
  unfold tAll1 tLen1
  cases o with
  | none =>
    have G : h root = 0 := G
    rw [open_none D tr G]
    rw [if_neg (by rintro ⟨_, g⟩; exact g rfl)]
    exact ⟨D.mono (by omega) (by omega), rfl, D.mono (by omega) (by omega), rfl⟩
  | some t =>
    have G : TabW ch h root t := G
    have A : Arena S0 h (t.blks ++ X.Bf) [] := A
    have hN : t.nodes.length ≤ 12 := hN
    obtain ⟨⟨b1, _⟩, b6, b7, b8⟩ := tab_bnd A hr.2 (fun b hb => hb) G.okW
    rw [open_some D A hr.2 tr (fun b hb => hb) G]
    rw [if_pos ⟨D.err, by simp only; omega⟩]
    have hlen := G.len
    have hW := G.okW
    have eN : t.ls.flatten.length = t.nodes.length := rfl
    obtain ⟨d', q1, q2⟩ := eachN_allF (X := X) (t := ⟨t.H, t.W, t.C, t.nodes.length⟩) b6 t.ls (i := 0) (out := []) (by simp only; omega) D (by omega) (fun j l hl => by rw [Nat.zero_add]; exact (G.seg j l hl).1) (fun j hj => by rw [Nat.zero_add]; exact b8 j (by omega) (by omega)) (ndsT_of A hr.2 fun x hx => mem_blks hx)
    have e : tEach allF ⟨t.H, t.W, t.C, t.nodes.length⟩ [] d = (prs t.nodes, d') := by
      unfold tEach
      show eachN allF _ t.W.toNat 0 _ _ = _
      rw [show t.W.toNat = t.ls.length by omega, q1]; rfl
    simp only
    rw [e]
    refine ⟨q2.mono (by omega) (by omega), rfl, D.mono (by omega) (by omega), ?_⟩
    rw [if_neg (by omega), i64e (by omega) (by omega)]; rfl
end
end Go.Proofs.YtokbiojkpldfeaaGreat.S
/-! ### whole views, and the heap that comes of what is written -/
namespace Go.Proofs.YtokbiojkpldfeaaGreat.S
open Go Go.Proofs
def hOf (w : List Int) : Hp := fun p => w.getD p.toNat 0
/-- cells laid over words -/
def applyC (w : List Int) (cs : List TCell) : List Int := cs.foldl (fun w c => if 1 ≤ c.place ∧ c.place < (w.length : Int) then w.set c.place.toNat c.word else w) w
theorem applyC_cons {w : List Int} {c : TCell} {cs : List TCell} : applyC w (c :: cs) = applyC (if 1 ≤ c.place ∧ c.place < (w.length : Int) then w.set c.place.toNat c.word else w) cs := rfl
theorem applyC_len {cs : List TCell} : ∀ {w : List Int}, (applyC w cs).length = w.length := by
  induction cs with
  | nil => intro w; rfl
  | cons c cs ih => intro w; rw [applyC_cons, ih]; split <;> simp
theorem hOf_set {w : List Int} {a x : Int} (h1 : 1 ≤ a) (h2 : a < (w.length : Int)) : hOf (w.set a.toNat x) = hput (hOf w) a x := by
  funext p
  show (w.set a.toNat x).getD p.toNat 0 = if p = a then x else w.getD p.toNat 0
  simp only [List.getD_eq_getElem?_getD, List.getElem?_set]
  by_cases e : p = a
  · subst e
    rw [if_pos rfl, if_pos rfl, if_pos (by omega)]; rfl
  · rw [if_neg e, if_neg (by omega)]
theorem lookC_cons {c : TCell} {cs : List TCell} {a : Int} : lookC (c :: cs) a = if c.place = a then some c.word else lookC cs a := rfl
theorem hOf_apply {cs : List TCell} : ∀ {w : List Int}, (cs.map (·.place)).Nodup → (∀ c ∈ cs, 1 ≤ c.place ∧ c.place < (w.length : Int)) → ∀ p, hOf (applyC w cs) p = (match lookC cs p with | some x => x | none => hOf w p) := by
  induction cs with
  | nil => intro w _ _ p; rfl
  | cons c cs ih =>
    intro w hn hp p
    rw [List.map_cons, List.nodup_cons] at hn
    have hc := hp c (by simp)
    rw [applyC_cons, if_pos hc, ih hn.2 (fun d hd => by rw [List.length_set]; exact hp d (by simp [hd])), hOf_set hc.1 hc.2]
    rw [lookC_cons]
    by_cases e : c.place = p
    · rw [if_pos e]
      have : lookC cs p = none := by
        cases hl : lookC cs p with
        | none => rfl
        | some y =>
          exfalso
          have hi := idxC_isSome (cs := cs) (a := p)
          rw [hl] at hi
          cases hj : idxC cs p with
          | none => rw [hj] at hi; cases hi
          | some j =>
            obtain ⟨g1, g2, _⟩ := idxC_some hj
            exact hn.1 (by rw [e, ← g2]; exact List.mem_map.2 ⟨_, List.getElem_mem g1, rfl⟩)
      rw [this, e, hput_same]
    · rw [if_neg e]
      cases lookC cs p with
      | none => exact hput_ne (Ne.symm e)
      | some y => rfl
theorem lookC_mem' {cs : List TCell} {p x : Int} (hl : lookC cs p = some x) : ∃ c ∈ cs, c.place = p := by
  have hi := idxC_isSome (cs := cs) (a := p)
  rw [hl] at hi
  cases hj : idxC cs p with
  | none => rw [hj] at hi; cases hi
  | some j => obtain ⟨g1, g2, _⟩ := idxC_some hj; exact ⟨_, List.getElem_mem g1, g2⟩

/-- a heap that may be: 256 words, none at place 0 -/
def OkHp (w : List Int) : Prop := w.length = 256 ∧ w.getD 0 0 = 0
theorem OkHp.apply {w : List Int} {cs : List TCell} (h : OkHp w) (hp : ∀ c ∈ cs, 1 ≤ c.place) : OkHp (applyC w cs) := by
  induction cs generalizing w with
  | nil => exact h
  | cons c cs ih =>
    rw [applyC_cons]
    refine ih ?_ fun d hd => hp d (by simp [hd])
    split
    · rename_i hc
      refine ⟨by rw [List.length_set]; exact h.1, ?_⟩
      rw [List.getD_eq_getElem?_getD, List.getElem?_set, if_neg (by have := hc.1; omega), ← List.getD_eq_getElem?_getD]
      exact h.2
    · exact h

theorem knW_look {w : List Int} : ∀ {j : Nat} {p : Int}, 1 ≤ p → p ≤ j → lookC (knW w j) p = some (hOf w p)
  | 0, p, h1, h2 => by omega
  | j + 1, p, h1, h2 => by
    have h0 := knW_none (ws := w) (j := j) (a := (j : Int) + 1) (by omega)
    rw [knW_succ, lookC_append h0]
    by_cases e : (j : Int) + 1 = p
    · rw [if_pos e]
      subst e
      unfold hOf
      rw [show ((j : Int) + 1).toNat = j + 1 by omega]
    · rw [if_neg e]; exact knW_look h1 (by omega)
theorem knW_nodup {w : List Int} {j : Nat} : ((knW w j).map (·.place)).Nodup ∧ ∀ c ∈ knW w j, 1 ≤ c.place ∧ c.place ≤ j := by
  unfold knW
  rw [List.map_map]
  refine ⟨?_, fun c hc => ?_⟩
  · rw [List.nodup_iff_pairwise_ne, List.pairwise_map]
    exact List.Pairwise.imp (fun h => by simp only [Function.comp]; omega) List.nodup_range
  · obtain ⟨i, hi, rfl⟩ := List.mem_map.1 hc
    have := List.mem_range.1 hi
    simp only
    omega

/-- a view of a heap of 256 words in which nothing is written -/
structure Clean (s : VwS) : Prop where
  size : s.size = 256
  l : s.l = ⟨96, ⟨[], []⟩, []⟩
  nodup : (s.k.map (·.place)).Nodup
  pos : ∀ c ∈ s.k, 1 ≤ c.place ∧ c.place < 256
theorem vAll_eq {w : List Int} (h : w.length = 256) : vAll w 96 = ⟨256, knW w 255, ⟨96, ⟨[], []⟩, []⟩, 0⟩ := by unfold vAll; rw [h]; rfl
theorem Clean.all {w : List Int} (h : w.length = 256) : Clean (vAll w 96) := by
  rw [vAll_eq h]
  exact ⟨rfl, rfl, knW_nodup.1, fun c hc => by have := knW_nodup.2 c hc; omega⟩
theorem lookC_none {K : List TCell} {a : Int} (h : ∀ c ∈ K, c.place ≠ a) : lookC K a = none := by
  cases hl : lookC K a with
  | none => rfl
  | some y => obtain ⟨c, hc, e⟩ := lookC_mem' hl; exact absurd e (h c hc)
theorem knowAll_ok {l : LvS} {nd : Int} : ∀ {K K0 : List TCell}, ((K0 ++ K).map (·.place)).Nodup → (∀ c ∈ K, 1 ≤ c.place ∧ c.place < 256) → knowAll ⟨256, K0, l, nd⟩ K = ⟨256, K0 ++ K, l, nd⟩ := by
  intro K
  induction K with
  | nil => intro K0 _ _; rw [List.append_nil]; rfl
  | cons c K ih =>
    intro K0 hn hp
    have hc := hp c (by simp)
    have hno : lookC K0 c.place = none := lookC_none fun d hd e => by
      rw [List.map_append, List.nodup_append] at hn
      exact hn.2.2 _ (List.mem_map.2 ⟨d, hd, rfl⟩) c.place (by simp) e
    have e1 : (vKnow ⟨256, K0, l, nd⟩ c.place c.word).1 = ⟨256, K0 ++ [c], l, nd⟩ := by
      unfold vKnow
      rw [if_pos (by simp [isV]; omega), hno]
    show knowAll (vKnow ⟨256, K0, l, nd⟩ c.place c.word).1 K = _
    rw [e1, ih (by simpa using hn) (fun d hd => hp d (by simp [hd]))]
    simp
theorem dOf_clean {s : VwS} (C : Clean s) : dOf s = ⟨256, s.k, ⟨96, ⟨[], []⟩, []⟩, 0⟩ := by
  unfold dOf
  rw [C.size, C.l]
  show knowAll (knowAll ⟨256, [], ⟨96, ⟨[], []⟩, []⟩, 0⟩ []) s.k = _
  show knowAll ⟨256, [], ⟨96, ⟨[], []⟩, []⟩, 0⟩ s.k = _
  rw [knowAll_ok (by simpa using C.nodup) C.pos]; rfl

section
variable {X : Cx} {h h' : Hp} {n m : Nat} {f : List Int} {s : VwS} {d : DrS} {a b x y p c k root : Int} {Bt R B : List Bk} {S0 : List Bk} {t : TD} {o : Option TD} {w : List Int}
/-- a draft of a clean view -/
theorem Dr.init (C : Clean s) (hk : s.k = X.K) (hh : h = X.h0) (hrd : ∀ a, X.T a → lookC s.k a = some (h a)) : Dr X h 0 0 [] (dr0 s) := by
  refine ⟨rfl, ⟨Int.le_refl _, Int.le_refl _⟩, ?_⟩
  show Vr X h 0 [] (dOf s)
  rw [dOf_clean C]
  exact ⟨rfl, rfl, rfl, rfl, hk, Nat.le_refl _, by simp, by simp, hrd, fun p _ => by rw [hh]⟩
theorem lPuts_ok {f : List Int} : ∀ {l cs : List TCell}, ((cs ++ l).map (·.place)).Nodup → (∀ c ∈ l, 1 ≤ c.place ∧ c.place < 256) → (cs ++ l).length ≤ 96 → lPuts ⟨96, ⟨cs, f⟩, []⟩ l = (⟨96, ⟨cs ++ l, f⟩, []⟩, 0) := by
  intro l
  induction l with
  | nil => intro cs _ _ _; rw [List.append_nil]; rfl
  | cons c l ih =>
    intro cs hn hp hl
    have hc := hp c (by simp)
    have hno : ∀ d ∈ cs, d.place ≠ c.place := fun d hd e => by
      rw [List.map_append, List.nodup_append] at hn
      exact hn.2.2 _ (List.mem_map.2 ⟨d, hd, rfl⟩) c.place (by simp) e
    have hi : idxC cs c.place = none := by
      cases hj : idxC cs c.place with
      | none => rfl
      | some j => obtain ⟨g1, g2, _⟩ := idxC_some hj; exact absurd g2 (hno _ (List.getElem_mem g1))
    have hl2 : cs.length + (l.length + 1) ≤ 96 := by simpa using hl
    have e0 : lErr ⟨96, ⟨cs, f⟩, []⟩ c.place = 0 := by
      unfold lErr
      rw [if_pos (okAt_iff.2 ⟨by omega, by omega⟩), hi]
      simp only [Option.isSome_none, Bool.false_eq_true, if_false]
      rw [if_neg]
      unfold LvS.room totalC
      simp only [List.map_cons, List.map_nil, List.sum_cons, List.sum_nil]
      omega
    unfold lPuts
    rw [if_pos e0]
    show lPuts ⟨96, ⟨putC cs c.place c.word, f⟩, []⟩ l = _
    rw [(idxC_none hi).1, ih (by simpa using hn) (fun d hd => hp d (by simp [hd])) (by simp; omega)]
    simp
abbrev outV (s : VwS) (c : List TCell) (f : List Int) : VwS := ⟨s.size, s.k, ⟨96, ⟨c, f⟩, []⟩, s.need⟩
theorem freeAll_eq {c : List TCell} : ∀ {l f : List Int}, freeAll ⟨96, ⟨c, f⟩, []⟩ l = ⟨96, ⟨c, f ++ l⟩, []⟩ := by
  intro l
  induction l with
  | nil => intro f; simp [freeAll]
  | cons b l ih => intro f; show freeAll ⟨96, ⟨c, f ++ [b]⟩, []⟩ l = _; rw [ih]; simp
/-- a call that went well: what it wrote and freed is taken -/
theorem dEnd_ok (C : Clean s) (D : Dr X h 96 m f d) : dEnd s d = (outV s d.v.l.r.c f, 0) := by
  have V := D.v
  have ec : d.v.l.cells = d.v.l.r.c := by unfold LvS.cells; rw [V.up]; rfl
  have ef : d.v.l.frees = f := by unfold LvS.frees freesR; rw [V.up]; simp; exact V.rf
  unfold dEnd
  rw [if_neg (by rw [D.err]; decide), if_pos D.err, ec, ef]
  have e : vTake s d.v.l.r.c = (outV s d.v.l.r.c [], 0) := by
    unfold vTake
    rw [if_pos (List.all_eq_true.2 fun c hc => by have := (V.pos c hc).le; unfold isV; rw [C.size]; simp; omega)]
    unfold lTake
    rw [C.l, lPuts_ok (by simpa using V.nod) (fun c hc => (V.pos c hc).le) (by simpa using V.few)]
    simp
  rw [e]
  simp only [if_true]
  rw [freeAll_eq]
  simp [VwS.log]
theorem dEnd_full (e : d.err = 4) : dEnd s d = (s, 4) := by unfold dEnd; rw [if_neg (by rw [e]; decide), if_neg (by rw [e]; decide), e]

/-- what is written over the heap -/
theorem apply_ok (V : Vr X h n f s) (hw : OkHp w) (h0 : X.h0 = hOf w) (hK : ∀ p, 1 ≤ p → p < 256 → lookC X.K p = some (hOf w p)) : hOf (applyC w s.l.r.c) = h ∧ OkHp (applyC w s.l.r.c) := by
  have hp : ∀ c ∈ s.l.r.c, 1 ≤ c.place ∧ c.place < (w.length : Int) := fun c hc => by have := (V.pos c hc).le; rw [hw.1]; omega
  refine ⟨?_, hw.apply fun c hc => (hp c hc).1⟩
  funext p
  rw [hOf_apply V.nod hp]
  by_cases tp : X.T p
  · have := V.rd p tp
    rw [V.k, hK p tp.1 tp.2.1] at this
    cases hl : lookC s.l.r.c p with
    | some y => rw [hl] at this; exact Option.some.inj this
    | none => rw [hl] at this; exact Option.some.inj this
  · rw [V.off p tp, h0]
    have : lookC s.l.r.c p = none := lookC_none fun c hc e => tp (e ▸ V.pos c hc)
    rw [this]
end
end Go.Proofs.YtokbiojkpldfeaaGreat.S
/-! ### rows of pairs -/
namespace Go.Proofs.YtokbiojkpldfeaaGreat.S
open Go Go.Proofs
/-- where a key stands, or would stand -/
def oIdx : List TPair → Int → Nat
  | [], _ => 0
  | p :: l, k => if p.key < k then oIdx l k + 1 else 0
def oHas (L : List TPair) (k : Int) : Bool := match L[oIdx L k]? with | some p => decide (p.key = k) | none => false
def oPut (L : List TPair) (k x : Int) : List TPair × Bool :=
  if oHas L k = true then (L.set (oIdx L k) ⟨k, x⟩, false) else (L.take (oIdx L k) ++ ⟨k, x⟩ :: L.drop (oIdx L k), true)
def oDel (L : List TPair) (k : Int) : List TPair × Bool :=
  if oHas L k = true then (L.take (oIdx L k) ++ L.drop (oIdx L k + 1), true) else (L, false)
def Srt (L : List TPair) : Prop := L.Pairwise fun p q => p.key < q.key

section
variable {L L' M : List TPair} {k x : Int}
theorem oIdx_le : ∀ {L : List TPair}, oIdx L k ≤ L.length
  | [] => Nat.le_refl _
  | p :: l => by unfold oIdx; split <;> simp; exact oIdx_le
/-- a sorted row is parted at a key -/
theorem oSplit (h : Srt L) : ∃ A B, L = A ++ B ∧ A.length = oIdx L k ∧ (∀ p ∈ A, p.key < k) ∧ ((∃ v B', B = ⟨k, v⟩ :: B' ∧ oHas L k = true ∧ ∀ p ∈ B', k < p.key) ∨ (oHas L k = false ∧ ∀ p ∈ B, k < p.key)) := by
  induction L with
  | nil => exact ⟨[], [], rfl, rfl, by simp, .inr ⟨rfl, by simp⟩⟩
  | cons p L ih =>
    have hc := List.pairwise_cons.1 h
    by_cases g : p.key < k
    · obtain ⟨A, B, e1, e2, e3, e4⟩ := ih hc.2
      have ei : oIdx (p :: L) k = oIdx L k + 1 := by conv => lhs; unfold oIdx; rw [if_pos g]
      have eh : oHas (p :: L) k = oHas L k := by unfold oHas; rw [ei, List.getElem?_cons_succ]
      refine ⟨p :: A, B, by rw [e1]; rfl, by rw [ei, ← e2]; rfl, fun q hq => ?_, by rw [eh]; exact e4⟩
      rcases List.mem_cons.1 hq with rfl | hq
      · exact g
      · exact e3 q hq
    · have ei : oIdx (p :: L) k = 0 := by conv => lhs; unfold oIdx; rw [if_neg g]
      refine ⟨[], p :: L, rfl, by rw [ei]; rfl, by simp, ?_⟩
      by_cases g2 : p.key = k
      · refine .inl ⟨p.val, L, by rw [← g2], ?_, fun q hq => by have := hc.1 q hq; omega⟩
        unfold oHas
        rw [ei]
        simp [g2]
      · refine .inr ⟨?_, fun q hq => ?_⟩
        · unfold oHas
          rw [ei]
          simp [g2]
        · rcases List.mem_cons.1 hq with rfl | hq
          · omega
          · have := hc.1 q hq; omega
theorem srt_perm (h1 : Srt L) (h2 : Srt M) (e : L.Perm M) : L = M := by
  induction L generalizing M with
  | nil => exact e.nil_eq
  | cons p L ih =>
    cases M with
    | nil => exact e.eq_nil
    | cons q M =>
      have c1 := List.pairwise_cons.1 h1
      have c2 := List.pairwise_cons.1 h2
      have hp := e.mem_iff.1 (List.mem_cons_self (a := p) (l := L))
      have hq := e.mem_iff.2 (List.mem_cons_self (a := q) (l := M))
      have epq : p = q := by
        rcases List.mem_cons.1 hp with r | hp
        · exact r
        · rcases List.mem_cons.1 hq with r | hq
          · exact r.symm
          · have := c1.1 q hq
            have := c2.1 p hp
            omega
      subst epq
      rw [ih c1.2 c2.2 ((List.perm_cons _).1 e)]
/-- sorted by not falling keys, with different keys: by rising ones -/
theorem srt_of (h1 : L.Pairwise fun p q => p.key ≤ q.key) (h2 : (L.map (·.key)).Nodup) : Srt L := by
  induction L with
  | nil => exact List.Pairwise.nil
  | cons p L ih =>
    have c1 := List.pairwise_cons.1 h1
    rw [List.map_cons, List.nodup_cons] at h2
    refine List.pairwise_cons.2 ⟨fun q hq => ?_, ih c1.2 h2.2⟩
    have := c1.1 q hq
    have : p.key ≠ q.key := fun e => h2.1 (by rw [e]; exact List.mem_map.2 ⟨q, hq, rfl⟩)
    omega
theorem srt_ins {A B : List TPair} {p : TPair} (h : Srt (A ++ B)) (h1 : ∀ q ∈ A, q.key < p.key) (h2 : ∀ q ∈ B, p.key < q.key) : Srt (A ++ p :: B) := by
  unfold Srt at h ⊢
  rw [List.pairwise_append] at h ⊢
  refine ⟨h.1, List.pairwise_cons.2 ⟨h2, h.2.1⟩, fun a ha b hb => ?_⟩
  rcases List.mem_cons.1 hb with rfl | hb
  · exact h1 a ha
  · exact h.2.2 a ha b hb
theorem srt_del {A B : List TPair} {p : TPair} (h : Srt (A ++ p :: B)) : Srt (A ++ B) := h.sublist (List.Sublist.append_left (List.sublist_cons_self p B) A)

/-- rows: the nodes' pairs, by rising keys -/
def Rows (l : List Nd) (L : List TPair) : Prop := Srt L ∧ (prs l).Perm L
theorem prs_key {l : List Nd} {y : Nd} (hy : y ∈ l) : (⟨y.k, y.v⟩ : TPair) ∈ prs l := List.mem_map.2 ⟨y, hy, rfl⟩
theorem rows_key {l : List Nd} (h : Rows l L) {p : TPair} (hp : p ∈ L) : ∃ y ∈ l, y.k = p.key ∧ y.v = p.val := by
  obtain ⟨y, hy, e⟩ := List.mem_map.1 (h.2.mem_iff.2 hp)
  exact ⟨y, hy, by rw [← e], by rw [← e]⟩
theorem put_rows {l l' : List Nd} {fresh : Bool} (h : Rows l L) (hk : (l.map (·.k)).Nodup) (r : PutR l l' k x fresh) : (oPut L k x).2 = fresh ∧ Rows l' (oPut L k x).1 := by
  obtain ⟨A, B, e1, e2, e3, e4⟩ := oSplit (k := k) h.1
  have et : L.take (oIdx L k) = A := by rw [← e2, e1]; simp
  have ed : L.drop (oIdx L k) = B := by rw [← e2, e1]; simp
  unfold oPut
  rcases r with ⟨rfl, P, nd, Q, r1, r2, r3⟩ | ⟨rfl, r1, nn, r2⟩
  · rcases e4 with ⟨v, B', b1, b2, b3⟩ | ⟨b2, b3⟩
    · rw [if_pos b2]
      refine ⟨rfl, ?_⟩
      have es : L.set (oIdx L k) ⟨k, x⟩ = A ++ ⟨k, x⟩ :: B' := by rw [← e2, e1, b1]; simp
      rw [es]
      subst b1
      have hs := srt_del (by rw [← e1]; exact h.1)
      refine ⟨srt_ins hs e3 b3, ?_⟩
      have hp := h.2
      rw [r1, e1] at hp
      unfold prs at hp ⊢
      rw [r3]
      simp only [List.map_append, List.map_cons] at hp ⊢
      have hmid := List.perm_middle.symm.trans (hp.trans List.perm_middle)
      have hnd : nd.v = v := by
        have h1 := hmid.mem_iff.1 (List.mem_cons_self)
        rcases List.mem_cons.1 h1 with e | h1
        · exact congrArg TPair.val e
        · exfalso
          rcases List.mem_append.1 h1 with h1 | h1
          · have := e3 _ h1; simp only at this; omega
          · have := b3 _ h1; simp only at this; omega
      rw [r2, hnd] at hmid
      have h3 := (List.perm_cons _).1 hmid
      exact List.perm_middle.trans ((h3.cons _).trans List.perm_middle.symm)
    · exfalso
      have hin : (⟨nd.k, nd.v⟩ : TPair) ∈ L := h.2.mem_iff.1 (prs_key (by rw [r1]; simp))
      rw [e1] at hin
      rcases List.mem_append.1 hin with g | g
      · have := e3 _ g; simp only at this; omega
      · have := b3 _ g; simp only at this; omega
  · rcases e4 with ⟨v, B', b1, b2, b3⟩ | ⟨b2, b3⟩
    · exfalso
      obtain ⟨y, hy, e, _⟩ := rows_key h (p := ⟨k, v⟩) (by rw [e1, b1]; simp)
      exact r1 y hy e
    · rw [if_neg (by rw [b2]; decide), et, ed]
      refine ⟨rfl, srt_ins (by rw [← e1]; exact h.1) e3 b3, ?_⟩
      refine ((r2.map _).trans ?_).trans List.perm_middle.symm
      show ((⟨k, x⟩ : TPair) :: prs l).Perm _
      refine List.Perm.cons _ ?_
      rw [← e1]; exact h.2
theorem del_rows {l l' : List Nd} {was : Bool} (h : Rows l L) (r : DelR l l' k was) : (oDel L k).2 = was ∧ Rows l' (oDel L k).1 := by
  obtain ⟨A, B, e1, e2, e3, e4⟩ := oSplit (k := k) h.1
  have et : L.take (oIdx L k) = A := by rw [← e2, e1]; simp
  unfold oDel
  rcases r with ⟨rfl, nd, r1, r2⟩ | ⟨rfl, rfl, r1⟩
  · have hin : (⟨nd.k, nd.v⟩ : TPair) ∈ L := h.2.mem_iff.1 (prs_key (r2.mem_iff.2 (by simp)))
    rcases e4 with ⟨v, B', b1, b2, b3⟩ | ⟨b2, b3⟩
    · rw [if_pos b2]
      refine ⟨rfl, ?_⟩
      have ed : L.drop (oIdx L k + 1) = B' := by rw [← e2, e1, b1]; simp
      rw [et, ed]
      subst b1
      refine ⟨srt_del (by rw [← e1]; exact h.1), ?_⟩
      have hp := (r2.map (fun z : Nd => (⟨z.k, z.v⟩ : TPair))).symm.trans h.2
      rw [e1] at hp
      have hmid := hp.trans List.perm_middle
      simp only [List.map_cons] at hmid
      have hnd : nd.v = v := by
        rw [e1] at hin
        rcases List.mem_append.1 hin with g | g
        · have := e3 _ g; simp only at this; omega
        · rcases List.mem_cons.1 g with g | g
          · exact congrArg TPair.val g
          · have := b3 _ g; simp only at this; omega
      rw [r1, hnd] at hmid
      exact (List.perm_cons _).1 hmid
    · exfalso
      rw [e1] at hin
      rcases List.mem_append.1 hin with g | g
      · have := e3 _ g; simp only at this; omega
      · have := b3 _ g; simp only at this; omega
  · rcases e4 with ⟨v, B', b1, b2, b3⟩ | ⟨b2, b3⟩
    · exfalso
      obtain ⟨y, hy, e, _⟩ := rows_key h (p := ⟨k, v⟩) (by rw [e1, b1]; simp)
      exact r1 y hy e
    · rw [if_neg (by rw [b2]; decide)]
      exact ⟨rfl, h⟩
/-- what Find tells -/
def oVal (L : List TPair) (k : Int) : Int := (L.getD (oIdx L k) ⟨0, 0⟩).val
theorem get_rows {l : List Nd} {v : Int} {ok : Bool} (h : Rows l L) (r : GetR l k v ok) : oHas L k = ok ∧ (ok = true → oVal L k = v) ∧ (ok = false → v = 0) := by
  obtain ⟨A, B, e1, e2, e3, e4⟩ := oSplit (k := k) h.1
  rcases r with ⟨rfl, P, nd, Q, r1, r2, r3⟩ | ⟨rfl, r0, r1⟩
  · have hin : (⟨nd.k, nd.v⟩ : TPair) ∈ L := h.2.mem_iff.1 (prs_key (by rw [r1]; simp))
    rcases e4 with ⟨v', B', b1, b2, b3⟩ | ⟨b2, b3⟩
    · refine ⟨b2, fun _ => ?_, by simp⟩
      have : oVal L k = v' := by
        unfold oVal
        rw [← e2, e1, b1, List.getD_eq_getElem?_getD]; simp
      rw [this, ← r3]
      rw [e1, b1] at hin
      rcases List.mem_append.1 hin with g | g
      · have := e3 _ g; simp only at this; omega
      · rcases List.mem_cons.1 g with g | g
        · exact (congrArg TPair.val g).symm
        · have := b3 _ g; simp only at this; omega
    · exfalso
      rw [e1] at hin
      rcases List.mem_append.1 hin with g | g
      · have := e3 _ g; simp only at this; omega
      · have := b3 _ g; simp only at this; omega
  · rcases e4 with ⟨v', B', b1, b2, b3⟩ | ⟨b2, b3⟩
    · exfalso
      obtain ⟨y, hy, e, _⟩ := rows_key h (p := ⟨k, v'⟩) (by rw [e1, b1]; simp)
      exact r1 y hy e
    · exact ⟨b2, by simp, fun _ => r0⟩
/-- few keys: few nodes -/
theorem nodup_fewK : ∀ (m : Nat) (l : List Int), l.Nodup → (∀ x ∈ l, 0 ≤ x ∧ x < m) → l.length ≤ m
  | 0, l, _, h => by
    cases l with
    | nil => simp
    | cons x l => have := h x (by simp); omega
  | m + 1, l, hn, h => by
    by_cases hm : (m : Int) ∈ l
    · have h1 := nodup_fewK m (l.erase m) (hn.erase _) (fun x hx => by
        have h2 := h x (List.mem_of_mem_erase hx)
        have h3 : x ≠ m := fun e => by subst e; exact (List.Nodup.not_mem_erase hn) hx
        omega)
      rw [List.length_erase_of_mem hm] at h1
      omega
    · have := nodup_fewK m l hn (fun x hx => by
        have h2 := h x hx
        have h3 : x ≠ m := fun e => hm (e ▸ hx)
        omega)
      omega
end
end Go.Proofs.YtokbiojkpldfeaaGreat.S
/-! ### a step of the statements: one call on a heap and on plain rows -/
namespace Go.Proofs.YtokbiojkpldfeaaGreat.S
open Go Go.Proofs
/-- what rests is given back -/
def settleM : List Int → List Int → List Int × Bool
  | w, [] => (w, true)
  | w, b :: f => if (aGive (vAll w 96) b).2 = 0 then settleM (applyC w (aGive (vAll w 96) b).1.l.r.c) f else (w, false)
/-- a call on rows: what it tells, the rows behind it -/
def doC (L : List TPair) (c : TCall) : TItem × List TPair :=
  if cWhich c = 4 then (itemT (oPut L (cKey c) (cVal c)).2, (oPut L (cKey c) (cVal c)).1)
  else if cWhich c = 5 then (if oHas L (cKey c) = true then ⟨1, oVal L (cKey c)⟩ else ⟨3, 0⟩, L)
  else (itemT (oDel L (cKey c)).2, (oDel L (cKey c)).1)
def clean0 : LvS := ⟨96, ⟨[], []⟩, []⟩
/-- a step goes well, or there is no room -/
def StepR (w : List Int) (L : List TPair) (root : Int) (c : TCall) (w' : List Int) (L' : List TPair) : Prop :=
  (∃ cs f it, lCall (vAll w 96) root c = (outV (vAll w 96) cs f, it, 0) ∧ doC L c = (it, L') ∧ cs.length ≤ 96 ∧ f.length ≤ 1 ∧ settleM (applyC w cs) f = (w', true) ∧ OkHp (applyC w cs) ∧ lAll (vAll w' 96) root = (vAll w' 96, L', 0)) ∨
  (∃ it, lCall (vAll w 96) root c = (vAll w 96, it, 4) ∧ 256 < hOf w 5 + 40 ∧ hOf w 5 ≤ 256 ∧ w' = w ∧ L' = L)

/-- a heap with two tables and their rows -/
structure InvS (S0 : List Bk) (w : List Int) (r r' : Int) (o o2 : Option TD) (L L2 : List TPair) : Prop where
  ok : OkHp w
  ar : Arena S0 (hOf w) (obB o ++ obB o2) []
  t1 : Tab ch (hOf w) r o
  t2 : Tab ch (hOf w) r' o2
  l1 : Rows (ndO o) L
  l2 : Rows (ndO o2) L2
  k1 : ∀ p ∈ L, 0 ≤ p.key ∧ p.key < 12
  k2 : ∀ p ∈ L2, 0 ≤ p.key ∧ p.key < 12
abbrev Inv := InvS []
section
variable {X : Cx} {h h' : Hp} {n m : Nat} {f : List Int} {s : VwS} {d : DrS} {a b x y p k root r r' : Int} {Bt R B : List Bk} {S0 : List Bk} {t : TD} {o o2 : Option TD} {w : List Int} {L L2 : List TPair} {c : TCall}

theorem InvS.swap (I : InvS S0 w r r' o o2 L L2) : InvS S0 w r' r o2 o L2 L := ⟨I.ok, I.ar.perm List.perm_append_comm, I.t2, I.t1, I.l2, I.l1, I.k2, I.k1⟩
theorem tab_keys (G : Tab ch h root o) : ((ndO o).map (·.k)).Nodup := by
  cases o with
  | none => exact List.nodup_nil
  | some t => exact TabW.keys (t := t) G
theorem rows_few {l : List Nd} (h : Rows l L) (hk : (l.map (·.k)).Nodup) (hr : ∀ p ∈ L, 0 ≤ p.key ∧ p.key < 12) : l.length ≤ 12 := by
  have := nodup_fewK 12 (l.map (·.k)) hk fun z hz => by
    obtain ⟨y, hy, rfl⟩ := List.mem_map.1 hz
    exact hr _ (h.2.mem_iff.1 (prs_key hy))
  simpa using this
theorem sort_rows {l : List Nd} (h : Rows l L) (hk : (l.map (·.k)).Nodup) : sortP (prs l) = L := by
  refine srt_perm (srt_of (sortP_sorted _) ?_) h.1 ((sortP_perm _).trans h.2)
  rw [((sortP_perm (prs l)).map _).nodup_iff]
  unfold prs
  rw [List.map_map]
  exact hk
theorem badRoot_no (h : 6 ≤ r ∧ r < 14) : badRoot r = false := by unfold badRoot; simp; omega
theorem Clean.out (C : Clean s) : outV s [] [] = s := by
  cases s with
  | mk size k l need => have := C.l; simp only at this; subst this; rfl
/-- the draft of a view that knows all that may be touched -/
theorem init_all (hw : OkHp w) (X : Cx) (hK : X.K = knW w 255) (h0 : X.h0 = hOf w) : Dr X (hOf w) 0 0 [] (dr0 (vAll w 96)) :=
  Dr.init (Clean.all hw.1) (by rw [vAll_eq hw.1, hK]) h0.symm fun a ta => by rw [vAll_eq hw.1]; exact knW_look ta.1 (by have := ta.2.1; omega)

/-- all that is there -/
theorem all_ok (I : InvS S0 w r r' o o2 L L2) (hr : 6 ≤ r ∧ r < 14) (hr' : 6 ≤ r' ∧ r' < 14) (hne : r ≠ r') : lAll (vAll w 96) r = (vAll w 96, L, 0) := by
  let X : Cx := ⟨r', obB o2, knW w 255, hOf w⟩
  have D : Dr X (hOf w) 0 0 [] (dr0 (vAll w 96)) := init_all I.ok X rfl rfl
  have hk := tab_keys I.t1
  obtain ⟨D1, e1, D2, e2⟩ := all1_ok (root := r) D hr' I.ar I.t1 ⟨hr.1, hr.2, hne⟩ (rows_few I.l1 hk I.k1)
  have C := Clean.all I.ok.1
  have c1 : (tAll1 r (dr0 (vAll w 96))).1.v.l.r.c = [] := List.length_eq_zero_iff.1 (Nat.le_zero.1 D1.v.few)
  have c2 : (tLen1 r (dr0 (vAll w 96))).1.v.l.r.c = [] := List.length_eq_zero_iff.1 (Nat.le_zero.1 D2.v.few)
  have q1 := dEnd_ok C (D1.mono (n' := 96) (by omega) (Nat.le_refl _))
  have q2 := dEnd_ok C (D2.mono (n' := 96) (by omega) (Nat.le_refl _))
  rw [c1, C.out] at q1
  rw [c2, C.out] at q2
  have a1 : tAll (vAll w 96) r = (vAll w 96, L, 0) := by
    unfold tAll
    rw [badRoot_no hr, q1, e1, sort_rows I.l1 hk]
    simp
  have a2 : tLen (vAll w 96) r = (vAll w 96, (((ndO o).length : Nat) : Int), 0) := by
    unfold tLen
    rw [badRoot_no hr, q2, e2]
    simp
  unfold lAll
  rw [a1]
  simp only
  rw [a2]
  simp only
  have := I.l1.2.length_eq
  unfold prs at this
  rw [List.length_map] at this
  rw [if_pos ⟨trivial, by rw [this]⟩]

/-- what a call leaves on a draft is taken, what rests is given back -/
theorem settle_ok {o' : Option TD} {R' : List Bk} {L' : List TPair} (hr : 6 ≤ r ∧ r < 14) (hr' : 6 ≤ r' ∧ r' < 14) (hne : r ≠ r') (I : InvS S0 w r r' o o2 L L2)
    (D : Dr ⟨r', obB o2, knW w 255, hOf w⟩ h' 96 m f d) (G : Tab ch h' r o') (A : Arena S0 h' (obB o' ++ obB o2) R') (hf : R'.map (·.1) = f) (hR : R'.length ≤ 1) (hrow : Rows (ndO o') L') (hk : ∀ p ∈ L', 0 ≤ p.key ∧ p.key < 12) :
    ∃ w', settleM (applyC w d.v.l.r.c) f = (w', true) ∧ OkHp (applyC w d.v.l.r.c) ∧ InvS S0 w' r r' o' o2 L' L2 := by
  have hK : ∀ (w : List Int) p, 1 ≤ p → p < 256 → lookC (knW w 255) p = some (hOf w p) := fun w p h1 h2 => knW_look h1 (by omega)
  obtain ⟨e1, ok1⟩ := apply_ok D.v I.ok rfl (hK w)
  have roots : ∀ q, 6 ≤ q → q < 14 → q = r' → h' q = hOf w q := fun q h6 h14 e => D.v.off q fun t => t.2.2.1 e
  have t2 : Tab ch h' r' o2 := I.t2.frame (roots r' hr'.1 hr'.2 rfl) fun b hb p hp => D.v.off p fun t => t.2.2.2 b hb hp
  have hX : ∀ {h : Hp} {R : List Bk}, Arena S0 h (obB o' ++ obB o2) R → Arena S0 h (obB o' ++ (⟨r', obB o2, knW (applyC w d.v.l.r.c) 255, hOf (applyC w d.v.l.r.c)⟩ : Cx).Bf) R := fun A => A
  generalize applyC w d.v.l.r.c = w1 at e1 ok1 hX
  subst hf
  cases R' with
  | nil => exact ⟨w1, rfl, ok1, ok1, by rw [e1]; exact A, by rw [e1]; exact G, by rw [e1]; exact t2, hrow, I.l2, hk, I.k2⟩
  | cons bc R' =>
    cases R' with
    | cons _ _ => simp at hR
    | nil =>
      obtain ⟨b, c⟩ := bc
      have V : Vr ⟨r', obB o2, knW w1 255, hOf w1⟩ (hOf w1) 0 [] (vAll w1 96) := by
        have D0 := init_all ok1 ⟨r', obB o2, knW w1 255, hOf w1⟩ rfl rfl
        have V0 := D0.v
        have : (dr0 (vAll w1 96)).v = vAll w1 96 := by
          show dOf (vAll w1 96) = _
          rw [dOf_clean (Clean.all ok1.1), vAll_eq ok1.1]
        rw [this] at V0
        exact V0
      rw [← e1] at A G t2
      obtain ⟨s2, g1, g2, g3, g4, g5⟩ := V.give hr' (by omega) (hX A)
      obtain ⟨e2, ok2⟩ := apply_ok g2 ok1 rfl (hK w1)
      refine ⟨applyC w1 s2.l.r.c, ?_, ok1, ok2, ?_, ?_, ?_, hrow, I.l2, hk, I.k2⟩
      · show settleM w1 [b] = _
        unfold settleM
        rw [g1]
        simp only [if_true]
        rfl
      · rw [e2]; exact g3
      · rw [e2]
        exact G.frame (g5 r hr.1 hr.2) fun x hx p hp => g4 x (List.mem_append_left _ hx) p hp
      · rw [e2]
        exact t2.frame (g5 r' hr'.1 hr'.2) fun x hx p hp => g4 x (List.mem_append_right _ hx) p hp

theorem set_keys {A : List TPair} {i : Nat} {q : TPair} (h : ∀ p ∈ A, 0 ≤ p.key ∧ p.key < 12) (hq : 0 ≤ q.key ∧ q.key < 12) : ∀ p ∈ A.set i q, 0 ≤ p.key ∧ p.key < 12 := fun p hp => by
  rcases List.mem_or_eq_of_mem_set hp with hp | rfl
  · exact h p hp
  · exact hq
theorem put_keys (h : ∀ p ∈ L, 0 ≤ p.key ∧ p.key < 12) (hq : 0 ≤ k ∧ k < 12) : ∀ p ∈ (oPut L k x).1, 0 ≤ p.key ∧ p.key < 12 := by
  unfold oPut
  split
  · exact set_keys h hq
  · intro p hp
    rcases List.mem_append.1 hp with hp | hp
    · exact h p (List.mem_of_mem_take hp)
    · rcases List.mem_cons.1 hp with rfl | hp
      · exact hq
      · exact h p (List.mem_of_mem_drop hp)
theorem del_keys (h : ∀ p ∈ L, 0 ≤ p.key ∧ p.key < 12) : ∀ p ∈ (oDel L k).1, 0 ≤ p.key ∧ p.key < 12 := by
  unfold oDel
  split
  · intro p hp
    rcases List.mem_append.1 hp with hp | hp
    · exact h p (List.mem_of_mem_take hp)
    · exact h p (List.mem_of_mem_drop hp)
  · exact h
theorem cKey_rng (hc : 0 ≤ c.k) : 0 ≤ cKey c ∧ cKey c < 12 := by
  unfold cKey
  exact ⟨Int.tmod_nonneg 12 hc, Int.tmod_lt_of_pos c.k (by decide)⟩

theorem step_ok (I : InvS S0 w r r' o o2 L L2) (hr : 6 ≤ r ∧ r < 14) (hr' : 6 ≤ r' ∧ r' < 14) (hne : r ≠ r') (hc : 0 ≤ c.k) :
    ∃ w' o' L', StepR w L r c w' L' ∧ InvS S0 w' r r' o' o2 L' L2 := by
  have D : Dr ⟨r', obB o2, knW w 255, hOf w⟩ (hOf w) 0 0 [] (dr0 (vAll w 96)) := init_all I.ok _ rfl rfl
  have hk := tab_keys I.t1
  have C := Clean.all I.ok.1
  have hN := rows_few I.l1 hk I.k1
  have hrr := And.intro hr.1 (And.intro hr.2 hne)
  have kr := cKey_rng hc
  by_cases h4 : cWhich c = 4
  · rcases put1_ok (root := r) (k := cKey c) (x := cVal c) D hr' I.ar I.t1 hrr hN with ⟨e4, hb⟩ | ⟨h', t', f', R', D', G', A', q1, q2, q3⟩
    · refine ⟨w, o, L, .inr ⟨itemT false, ?_, hb, (by obtain ⟨sh, fl, A, _⟩ := I.ar; exact A.top), rfl, rfl⟩, I⟩
      unfold lCall tPut
      rw [if_pos h4, badRoot_no hr, dEnd_full e4]
      simp
    · obtain ⟨p1, p2⟩ := put_rows I.l1 hk q3
      obtain ⟨w', s1, s2, I'⟩ := settle_ok (o' := some t') hr hr' hne I D' G' A' q1 q2 p2 (put_keys I.k1 kr)
      refine ⟨w', some t', _, .inl ⟨_, f', itemT (oPut L (cKey c) (cVal c)).2, ?_, ?_, D'.v.few, by rw [← q1]; simpa using q2, s1, s2, all_ok I' hr hr' hne⟩, I'⟩
      · unfold lCall tPut
        rw [if_pos h4, badRoot_no hr, dEnd_ok C D']
        simp [p1]
      · unfold doC
        rw [if_pos h4]
  · by_cases h5 : cWhich c = 5
    · obtain ⟨D', q3⟩ := get1_ok (root := r) (k := cKey c) D hr' I.ar I.t1 hrr hN
      obtain ⟨p1, p2, p3⟩ := get_rows I.l1 q3
      have D2 := D'.mono (n' := 96) (by omega) (Nat.le_refl _)
      have c1 : (tGet1 r (cKey c) (dr0 (vAll w 96))).1.v.l.r.c = [] := List.length_eq_zero_iff.1 (Nat.le_zero.1 D'.v.few)
      have hd := dEnd_ok C D2
      obtain ⟨w', s1, s2, I'⟩ := settle_ok (o' := o) (R' := []) hr hr' hne I D2 I.t1 I.ar rfl (by simp) I.l1 I.k1
      refine ⟨w', o, L, .inl ⟨_, [], (doC L c).1, ?_, ?_, D2.v.few, by simp, s1, s2, all_ok I' hr hr' hne⟩, I'⟩
      · unfold lCall tGet doC
        rw [if_neg h4, if_pos h5, if_neg h4, if_pos h5, badRoot_no hr, hd]
        simp only [Bool.false_eq_true, if_false, if_true]
        cases hg : (tGet1 r (cKey c) (dr0 (vAll w 96))).2.2
        · rw [hg] at p1 p2 p3
          rw [p1, p3 rfl]
          simp
        · rw [hg] at p1 p2 p3
          rw [p1, p2 rfl]
          simp
      · unfold doC
        rw [if_neg h4, if_pos h5]
    · obtain ⟨h', o', f', R', D', G', A', q1, q2, q3⟩ := del1_ok (root := r) (k := cKey c) D hr' I.ar I.t1 hrr hN
      obtain ⟨p1, p2⟩ := del_rows I.l1 q3
      obtain ⟨w', s1, s2, I'⟩ := settle_ok hr hr' hne I D' G' A' q1 q2 p2 (del_keys I.k1)
      refine ⟨w', o', _, .inl ⟨_, f', itemT (oDel L (cKey c)).2, ?_, ?_, D'.v.few, by rw [← q1]; simpa using q2, s1, s2, all_ok I' hr hr' hne⟩, I'⟩
      · unfold lCall tDel
        rw [if_neg h4, if_neg h5, badRoot_no hr, dEnd_ok C D']
        simp [p1]
      · unfold doC
        rw [if_neg h4, if_neg h5]

/-- a fresh heap -/
theorem fresh_ok : Inv (fresh 256) 8 9 none none [] [] := by
  have hl : fresh 256 = (List.replicate 256 (0 : Int)).set 5 14 := rfl
  have hw : OkHp (fresh 256) := ⟨by rw [hl, List.length_set, List.length_replicate], by rw [hl]; rfl⟩
  have e : hOf (fresh 256) = hput (fun _ => 0) 5 14 := by
    rw [hl]
    have := hOf_set (w := List.replicate 256 (0 : Int)) (a := 5) (x := 14) (by decide) (by rw [List.length_replicate]; decide)
    rw [show (5 : Int).toNat = 5 from rfl] at this
    rw [this]
    congr 1
    funext p
    unfold hOf
    rw [List.getD_eq_getElem?_getD, List.getElem?_replicate]
    split <;> rfl
  have z : ∀ p, p ≠ 5 → hOf (fresh 256) p = 0 := fun p hp => by rw [e, hput_ne hp]
  have z5 : hOf (fresh 256) 5 = 14 := by rw [e, hput_same]
  refine ⟨hw, ⟨[], fun _ => [], ⟨?_, by omega, by simp [obB], List.nodup_nil, by simp, fun c h1 h4 => ⟨z c (by omega), List.nodup_nil, by simp⟩, by simp, List.nodup_nil⟩, List.nil_prefix⟩, z 8 (by omega), z 9 (by omega), ⟨List.Pairwise.nil, List.Perm.refl _⟩, ⟨List.Pairwise.nil, List.Perm.refl _⟩, by simp, by simp⟩
  show (14 : Int) = hOf (fresh 256) 5
  rw [z5]
end
end Go.Proofs.YtokbiojkpldfeaaGreat.S
