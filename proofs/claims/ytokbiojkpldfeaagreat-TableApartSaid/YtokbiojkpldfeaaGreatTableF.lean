/-
  CHAPTER 18: package table: All.
-/
import Derived.Test.YtokbiojkpldfeaaGreatSortF
namespace Go.Proofs.YtokbiojkpldfeaaGreat.S
open Go Go.Proofs
set_option linter.unusedVariables false
set_option linter.unusedSimpArgs false

theorem inN_all : ∀ {n : Nat} {s : List TPair} {d : DrS} {a : Int}, (inN allF n s d a).1.length ≤ s.length + n
  | 0, s, d, a => Nat.le_refl _
  | n + 1, s, d, a => by
    unfold inN
    split
    · show s.length ≤ _; omega
    · split
      · refine Nat.le_trans inN_all ?_
        unfold allF
        simp
        omega
      · show s.length ≤ _; omega
theorem eachN_all {t : TbS} : ∀ {n i m : Nat} {s : List TPair} {d : DrS}, m + n ≤ 1000000 → StOk d m → (eachN allF t n i s d).1.length ≤ s.length + n * 2049
  | 0, i, m, s, d, hm, h => by show s.length ≤ _; omega
  | n + 1, i, m, s, d, hm, h => by
    unfold eachN
    simp only
    have h1 : StOk (dPlace d (w64 (t.chains + (i : Int)))).1 m := h.eq dPlace_steps
    have h2 := inN_ok (f := allF) (fun s d a => allF_steps) (m := m) (by omega) (n := fuel (dPlace d (w64 (t.chains + (i : Int)))).1) (s := s) (a := (dPlace d (w64 (t.chains + (i : Int)))).2) h1
    refine Nat.le_trans (eachN_all (m := m + 1) (by omega) h2) ?_
    have h3 := inN_all (n := fuel (dPlace d (w64 (t.chains + (i : Int)))).1) (s := s) (d := (dPlace d (w64 (t.chains + (i : Int)))).1) (a := (dPlace d (w64 (t.chains + (i : Int)))).2)
    have h4 : fuel (dPlace d (w64 (t.chains + (i : Int)))).1 ≤ 2049 := by unfold fuel; unfold StOk at h1; omega
    omega
theorem tAll1_len {root : Int} {d : DrS} (h : StOk d 0) : (tAll1 root d).2.length ≤ 1000000 := by
  unfold tAll1
  split
  · rename_i h1
    have hw := tOpen_wide h1.2
    refine Nat.le_trans (eachN_all (m := 0) (by omega) (h.eq tOpen_steps)) ?_
    simp
    omega
  · show 0 ≤ _; omega

def tAll (s : VwS) (root : Int) : VwS × List TPair × Int := if badRoot root = true then (s, [], 2) else
  if (dEnd s (tAll1 root (dr0 s)).1).2 = 0 then ((dEnd s (tAll1 root (dr0 s)).1).1, sortP (tAll1 root (dr0 s)).2, 0) else ((dEnd s (tAll1 root (dr0 s)).1).1, [], (dEnd s (tAll1 root (dr0 s)).1).2)

section
variable {w0 : Base} {L M : List Asn} {K : KV} {F : World → Prop} {C : Asn → List Asn} {b : Nat} {s : VwS} {n a x e w k root : Int}

theorem s_table_All [i : SelOb L ViewR b s C] (hs : s.l.r.f.length ≤ 1000) (hK : ∀ u, Cells u [u] → G w0 (sl tPairE u (tAll s root).2.1 :: C (ob ViewR b (tAll s root).1)) (K (.tuple #[u, i64 (tAll s root).2.2]))) : G w0 L (CP Tryz.prog Fn.table_All [ptr b 0, i64 root] K) := by
  refine i.useNM (P := fun u => Cells u [u]) (N := fun u => sl tPairE u (tAll s root).2.1) (A' := fun _ => ob ViewR b (tAll s root).1) (F' := fun u => K (.tuple #[u, i64 (tAll s root).2.2])) (fun M hM hK => ?_) hK
  refine C_table_All ?_
  unfold S_table_All
  refine G.box fun x1 => ?_
  refine G.new fun x2 => ?_
  try simp (maxSteps := 2000000) only [↓RG, RP, RB, BEq.rfl, Int.reduceEq, Int.reduceLT, Int.reduceLE, Nat.reduceEqDiff]
  have hrf := tAll1_rf (root := root) (d := dr0 s)
  have hup := tAll1_up (root := root) (d := dr0 s)
  have hln := tAll1_len (root := root) (d := dr0 s) dr0_ok
  rw [dr0_rf] at hrf
  rw [dr0_up] at hup
  refine s_draft_Do (s := s) (f := fun d => (tAll1 root d).1) (M := ob (BoxR tPairE) x2 (tAll1 root (dr0 s)).2 :: own x1 [i64 root] :: ob ViewR b s :: M) (few_frees hup (by rw [hrf]; simp)) (by omega) (fun c K' hK' => ?_) (fun hb => ?_) (fun hb => ?_)
  · show G w0 _ (CP Tryz.prog Fn.table_All_1 [ptr c 0, ptr x1 0, ptr x2 0] K')
    refine G.pickAll (As := [own x2 [.slice none 0 0], ob DraftR c (dr0 s), own x1 [i64 root]]) ?_
    show G w0 (own x2 [.slice none 0 0] :: ob DraftR c (dr0 s) :: own x1 [i64 root] :: ob ViewR b s :: M) _
    refine G.nilsl tPairE ?_
    refine BoxR_close (E := tPairE) (v := .slice none 0 0) x2 [] cells_slice ?_
    refine s_All_1 (M := ob ViewR b s :: M) dr0_ok ?_
    exact hK'.sub
  · have e : tAll s root = (s, [], 2) := by unfold tAll; rw [if_pos (badRoot_iff.2 hb)]
    rw [e] at hK
    try simp (maxSteps := 2000000) only [↓RG, RP, RB, BEq.rfl, Int.reduceEq, Int.reduceLT, Int.reduceLE, Nat.reduceEqDiff]
    refine G.nilsl tPairE ?_
    exact (hK (.slice none 0 0) cells_slice).sub
  · unfold tAll at hK
    rw [if_neg (fun h => hb (badRoot_iff.1 h))] at hK
    generalize dEnd s (tAll1 root (dr0 s)).1 = r at hK ⊢
    obtain ⟨s2, er⟩ := r
    simp only at hK ⊢
    generalize (tAll1 root (dr0 s)).2 = out at hK hln ⊢
    by_cases he : er = 0
    · rw [if_pos he] at hK
      try simp (maxSteps := 2000000) only [↓RG, RP, RB, BEq.rfl, Int.reduceEq, Int.reduceLT, Int.reduceLE, Nat.reduceEqDiff, eq_true he]
      rw [BoxR_open]
      intro v hv
      try simp (maxSteps := 2000000) only [↓RG, RP, RB, BEq.rfl, Int.reduceEq, Int.reduceLT, Int.reduceLE, Nat.reduceEqDiff, eq_true he]
      refine s_slices_SortFunc (zs := out) hln ?_
      try simp (maxSteps := 2000000) only [↓RG, RP, RB, BEq.rfl, Int.reduceEq, Int.reduceLT, Int.reduceLE, Nat.reduceEqDiff]
      exact (hK v hv).sub
    · rw [if_neg he] at hK
      try simp (maxSteps := 2000000) only [↓RG, RP, RB, BEq.rfl, Int.reduceEq, Int.reduceLT, Int.reduceLE, Nat.reduceEqDiff, he]
      refine G.nilsl tPairE ?_
      exact (hK (.slice none 0 0) cells_slice).sub
end
end Go.Proofs.YtokbiojkpldfeaaGreat.S
