/-
  PROGRAMS OF LOADS, STORES, SETS, SUMS AND WORDS TOLD: packages code and check let them pass.
-/
import Derived.Test.YtoealglbimbbmaaGreatDoorTopD
namespace Go.Proofs.YtoealglbimbbmaaGreatDoor.S
open Go Go.Proofs
set_option linter.unusedVariables false
set_option linter.unusedSimpArgs false

def regOk (n : Int) : Prop := 0 ≤ n ∧ n ≤ 7
/-- an instruction that may be -/
def OkI (i : TIns) : Prop :=
  (i.op = 1 ∧ regOk i.a ∧ i.b = 0 ∧ i.c = 0) ∨ (i.op = 3 ∧ regOk i.a ∧ regOk i.b ∧ regOk i.c ∧ i.n = 0) ∨
  ((i.op = 8 ∨ i.op = 9) ∧ regOk i.a ∧ regOk i.b ∧ 0 ≤ i.c ∧ i.c ≤ 15 ∧ i.n = 0) ∨ (i.op = 21 ∧ regOk i.a ∧ i.b = 0 ∧ i.c = 0 ∧ i.n = 0)
def opOk (n : Int) : Prop := n = 1 ∨ n = 3 ∨ n = 8 ∨ n = 9 ∨ n = 21
theorem OkI.op {i : TIns} (h : OkI i) : opOk i.op := by unfold OkI at h; unfold opOk; omega

/-- the greatest numbers of an instruction's fields -/
def topF (op : Int) : Int × Int × Int := if op = 1 ∨ op = 21 then (7, 0, 0) else if op = 3 then (7, 7, 7) else (7, 7, 15)

section
variable {w0 : Base} {L : List Asn} {K : KV} {v : Value} {C : Asn → List Asn} {b : Nat} {op : Int}

theorem G_eqStrN {a b : ByteArray} {K : KV} (h : (a.toList == b.toList) = false) : G w0 L (eqStrW .neq (.string a) (.string b) K) = G w0 L (K (.bool true)) := by
  congr 1
  funext w
  show eqW .neq (a.toList == b.toList) K w = _
  rw [h]
  rfl

theorem s_code_fields (h : opOk op) (hK : G w0 L (K (.tuple #[.agg #[i64 0, i64 (topF op).1], .agg #[i64 0, i64 (topF op).2.1], .agg #[i64 0, i64 (topF op).2.2]]))) : G w0 L (CP Tryz.prog Fn.code_fields [i64 op] K) := by
  refine C_code_fields ?_
  unfold S_code_fields
  refine G.new fun q1 => ?_
  refine G.new fun q2 => ?_
  refine G.new fun q3 => ?_
  try simp (maxSteps := 2000000) only [↓RG, RP, RB, BEq.rfl, Int.reduceEq, Int.reduceLT, Int.reduceLE, Nat.reduceEqDiff]
  refine G.new fun q4 => ?_
  rcases h with h | h | h | h | h <;> subst h
  · repeat' (first | (with_reducible refine G.joini0 ?_) | (with_reducible refine G.joini1 ?_) | (with_reducible refine G.drew ?_) | (simp (maxSteps := 2000000) only [↓RG, RP, RB, BEq.rfl, Int.reduceEq, Int.reduceLT, Int.reduceLE, Nat.reduceEqDiff]))
    exact hK.sub
  · repeat' (first | (with_reducible refine G.joini0 ?_) | (with_reducible refine G.joini1 ?_) | (with_reducible refine G.drew ?_) | (simp (maxSteps := 2000000) only [↓RG, RP, RB, BEq.rfl, Int.reduceEq, Int.reduceLT, Int.reduceLE, Nat.reduceEqDiff]))
    exact hK.sub
  · repeat' (first | (with_reducible refine G.joini0 ?_) | (with_reducible refine G.joini1 ?_) | (with_reducible refine G.drew ?_) | (simp (maxSteps := 2000000) only [↓RG, RP, RB, BEq.rfl, Int.reduceEq, Int.reduceLT, Int.reduceLE, Nat.reduceEqDiff]))
    exact hK.sub
  · repeat' (first | (with_reducible refine G.joini0 ?_) | (with_reducible refine G.joini1 ?_) | (with_reducible refine G.drew ?_) | (simp (maxSteps := 2000000) only [↓RG, RP, RB, BEq.rfl, Int.reduceEq, Int.reduceLT, Int.reduceLE, Nat.reduceEqDiff]))
    exact hK.sub
  · repeat' (first | (with_reducible refine G.joini0 ?_) | (with_reducible refine G.joini1 ?_) | (with_reducible refine G.drew ?_) | (simp (maxSteps := 2000000) only [↓RG, RP, RB, BEq.rfl, Int.reduceEq, Int.reduceLT, Int.reduceLE, Nat.reduceEqDiff]))
    exact hK.sub

theorem s_code_field_fits {hi n : Int} (hK : G w0 L (K (.bool (decide (0 ≤ n) && decide (n ≤ hi))))) : G w0 L (CP Tryz.prog Fn.code_field_fits [.agg #[i64 0, i64 hi], i64 n] K) := by
  refine C_code_field_fits ?_
  unfold S_code_field_fits
  try simp (maxSteps := 2000000) only [fuse_and, fuse_or, fuse_step, fuse_pair, fuse_in, andP_true]
  refine G.box fun q => ?_
  try simp (maxSteps := 2000000) only [↓RG, RP, RB, BEq.rfl, Int.reduceEq, Int.reduceLT, Int.reduceLE, Nat.reduceEqDiff]
  refine G.all (decide (n ≤ hi)) (fun _ K hK => by try simp (maxSteps := 2000000) only [↓RG, RP, RB, BEq.rfl, Int.reduceEq, Int.reduceLT, Int.reduceLE, Nat.reduceEqDiff]; exact hK) ?_
  exact hK.sub

theorem s_code_Name (h : opOk op) (hK : ∀ s : ByteArray, (s.toList == (⟨#[]⟩ : ByteArray).toList) = false → G w0 L (K (.string s))) : G w0 L (CP Tryz.prog Fn.code_Name [i64 op] K) := by
  refine C_code_Name ?_
  unfold S_code_Name
  refine C_code_names ?_
  unfold S_code_names
  refine G.build strE [⟨#[]⟩, ⟨#[115, 101, 116]⟩, ⟨#[109, 111, 118, 101]⟩, ⟨#[97, 100, 100]⟩, ⟨#[115, 117, 98]⟩, ⟨#[109, 117, 108]⟩, ⟨#[108, 101, 115, 115]⟩, ⟨#[101, 113, 117, 97, 108]⟩, ⟨#[108, 111, 97, 100]⟩, ⟨#[115, 116, 111, 114, 101]⟩, ⟨#[97, 108, 108, 111, 99]⟩, ⟨#[102, 114, 101, 101]⟩, ⟨#[106, 117, 109, 112]⟩, ⟨#[122, 101, 114, 111]⟩, ⟨#[111, 112, 101, 110]⟩, ⟨#[99, 108, 111, 115, 101]⟩, ⟨#[117, 110, 100, 111]⟩, ⟨#[101, 105, 116, 104, 101, 114]⟩, ⟨#[111, 114]⟩, ⟨#[100, 111, 110, 101]⟩, ⟨#[114, 101, 116, 114, 121]⟩, ⟨#[101, 109, 105, 116]⟩, ⟨#[102, 97, 105, 108]⟩, ⟨#[99, 97, 108, 108]⟩] rfl (by decide) rfl fun v hv => ?_
  refine C_code_named ?_
  unfold S_code_named
  try simp (maxSteps := 2000000) only [fuse_and, fuse_or, fuse_step, fuse_pair, fuse_in, andP_true]
  rcases h with h | h | h | h | h <;> subst h
  · try simp (maxSteps := 2000000) only [↓RG, RP, RB, BEq.rfl, Int.reduceEq, Int.reduceLT, Int.reduceLE, Nat.reduceEqDiff, List.length_cons, List.length_nil, Nat.reduceAdd, Int.cast_ofNat_Int]
    exact (hK ⟨#[115, 101, 116]⟩ (by decide +kernel)).sub
  · try simp (maxSteps := 2000000) only [↓RG, RP, RB, BEq.rfl, Int.reduceEq, Int.reduceLT, Int.reduceLE, Nat.reduceEqDiff, List.length_cons, List.length_nil, Nat.reduceAdd, Int.cast_ofNat_Int]
    exact (hK ⟨#[97, 100, 100]⟩ (by decide +kernel)).sub
  · try simp (maxSteps := 2000000) only [↓RG, RP, RB, BEq.rfl, Int.reduceEq, Int.reduceLT, Int.reduceLE, Nat.reduceEqDiff, List.length_cons, List.length_nil, Nat.reduceAdd, Int.cast_ofNat_Int]
    exact (hK ⟨#[108, 111, 97, 100]⟩ (by decide +kernel)).sub
  · try simp (maxSteps := 2000000) only [↓RG, RP, RB, BEq.rfl, Int.reduceEq, Int.reduceLT, Int.reduceLE, Nat.reduceEqDiff, List.length_cons, List.length_nil, Nat.reduceAdd, Int.cast_ofNat_Int]
    exact (hK ⟨#[115, 116, 111, 114, 101]⟩ (by decide +kernel)).sub
  · try simp (maxSteps := 2000000) only [↓RG, RP, RB, BEq.rfl, Int.reduceEq, Int.reduceLT, Int.reduceLE, Nat.reduceEqDiff, List.length_cons, List.length_nil, Nat.reduceAdd, Int.cast_ofNat_Int]
    exact (hK ⟨#[101, 109, 105, 116]⟩ (by decide +kernel)).sub

theorem s_code_May {i : TIns} (h : OkI i) (hK : G w0 L (K (.bool true))) : G w0 L (CP Tryz.prog Fn.code_May [.agg #[i64 i.op, i64 i.a, i64 i.b, i64 i.c, u64 i.n]] K) := by
  refine C_code_May ?_
  unfold S_code_May
  refine G.box fun q => ?_
  try simp (maxSteps := 2000000) only [↓RG, RP, RB, BEq.rfl, Int.reduceEq, Int.reduceLT, Int.reduceLE, Nat.reduceEqDiff]
  refine s_code_fields h.op ?_
  try simp (maxSteps := 2000000) only [↓RG, RP, RB, BEq.rfl, Int.reduceEq, Int.reduceLT, Int.reduceLE, Nat.reduceEqDiff]
  refine G.new fun q1 => ?_
  refine G.new fun q2 => ?_
  refine G.new fun q3 => ?_
  try simp (maxSteps := 2000000) only [↓RG, RP, RB, BEq.rfl, Int.reduceEq, Int.reduceLT, Int.reduceLE, Nat.reduceEqDiff]
  refine s_code_Name h.op fun s hs => ?_
  rw [G_eqStrN hs]
  try simp (maxSteps := 2000000) only [↓RG, RP, RB, BEq.rfl, Int.reduceEq, Int.reduceLT, Int.reduceLE, Nat.reduceEqDiff]
  refine s_code_field_fits ?_
  have e1 : (decide (0 ≤ i.a) && decide (i.a ≤ (topF i.op).1)) = true := by
    unfold OkI regOk at h; unfold topF
    simp only [Bool.and_eq_true, decide_eq_true_eq]
    repeat' split
    all_goals (simp only; omega)
  have e2 : (decide (0 ≤ i.b) && decide (i.b ≤ (topF i.op).2.1)) = true := by
    unfold OkI regOk at h; unfold topF
    simp only [Bool.and_eq_true, decide_eq_true_eq]
    repeat' split
    all_goals (simp only; omega)
  have e3 : (decide (0 ≤ i.c) && decide (i.c ≤ (topF i.op).2.2)) = true := by
    unfold OkI regOk at h; unfold topF
    simp only [Bool.and_eq_true, decide_eq_true_eq]
    repeat' split
    all_goals (simp only; omega)
  rw [e1]
  try simp (maxSteps := 2000000) only [↓RG, RP, RB, BEq.rfl, Int.reduceEq, Int.reduceLT, Int.reduceLE, Nat.reduceEqDiff]
  refine s_code_field_fits ?_
  rw [e2]
  try simp (maxSteps := 2000000) only [↓RG, RP, RB, BEq.rfl, Int.reduceEq, Int.reduceLT, Int.reduceLE, Nat.reduceEqDiff]
  refine s_code_field_fits ?_
  rw [e3]
  try simp (maxSteps := 2000000) only [fuse_and, fuse_or, fuse_step, fuse_pair, fuse_in, andP_true]
  try simp (maxSteps := 2000000) only [↓RG, RP, RB, BEq.rfl, Int.reduceEq, Int.reduceLT, Int.reduceLE, Nat.reduceEqDiff]
  by_cases hn : i.n = 0
  · try simp (maxSteps := 2000000) only [↓RG, RP, RB, BEq.rfl, Int.reduceEq, Int.reduceLT, Int.reduceLE, Nat.reduceEqDiff, hn]
    exact hK.sub
  · have ho : i.op = 1 := by unfold OkI at h; omega
    try simp (maxSteps := 2000000) only [↓RG, RP, RB, BEq.rfl, Int.reduceEq, Int.reduceLT, Int.reduceLE, Nat.reduceEqDiff, hn, ho]
    exact hK.sub

theorem s_code_Jumps (h : opOk op) (hK : G w0 L (K (.bool false))) : G w0 L (CP Tryz.prog Fn.code_Jumps [i64 op] K) := by
  refine C_code_Jumps ?_
  unfold S_code_Jumps
  have h1 : op ≠ 12 := by unfold opOk at h; omega
  have h2 : op ≠ 13 := by unfold opOk at h; omega
  try simp (maxSteps := 2000000) only [↓RG, RP, RB, BEq.rfl, Int.reduceEq, Int.reduceLT, Int.reduceLE, Nat.reduceEqDiff, h1, h2]
  exact hK
theorem s_check_ends (h : opOk op) (hK : G w0 L (K (i64 0))) : G w0 L (CP Tryz.prog Fn.check_ends [i64 op] K) := by
  refine C_check_ends ?_
  unfold S_check_ends
  have h1 : op ≠ 15 := by unfold opOk at h; omega
  have h2 : op ≠ 18 := by unfold opOk at h; omega
  have h3 : op ≠ 19 := by unfold opOk at h; omega
  try simp (maxSteps := 2000000) only [↓RG, RP, RB, BEq.rfl, Int.reduceEq, Int.reduceLT, Int.reduceLE, Nat.reduceEqDiff, h1, h2, h3]
  exact hK
theorem s_check_begins (h : opOk op) (hK : G w0 L (K (.bool false))) : G w0 L (CP Tryz.prog Fn.check_begins [i64 op] K) := by
  refine C_check_begins ?_
  unfold S_check_begins
  have h1 : op ≠ 14 := by unfold opOk at h; omega
  have h2 : op ≠ 17 := by unfold opOk at h; omega
  try simp (maxSteps := 2000000) only [↓RG, RP, RB, BEq.rfl, Int.reduceEq, Int.reduceLT, Int.reduceLE, Nat.reduceEqDiff, h1, h2]
  exact hK
theorem s_check_inmost (hK : G w0 L (K (i64 (-1)))) : G w0 L (CP Tryz.prog Fn.check_stack_inmost [.slice none 0 0] K) := by
  refine G.nilsl intE ?_
  refine C_check_stack_inmost ?_
  unfold S_check_stack_inmost
  try simp (maxSteps := 2000000) only [↓RG, RP, RB, BEq.rfl, Int.reduceEq, Int.reduceLT, Int.reduceLE, Nat.reduceEqDiff, List.length_nil, Int.cast_ofNat_Int]
  exact hK.sub
theorem s_check_behind {n : Int} (h : opOk op) (hK : G w0 L (K (.slice none 0 0))) : G w0 L (CP Tryz.prog Fn.check_stack_behind [.slice none 0 0, i64 n, i64 op] K) := by
  refine C_check_stack_behind ?_
  unfold S_check_stack_behind
  refine s_check_ends h ?_
  have h18 : op ≠ 18 := by unfold opOk at h; omega
  repeat' (first | (with_reducible refine G.joini0 ?_) | (with_reducible refine G.joini1 ?_) | (with_reducible refine G.drew ?_) | (simp (maxSteps := 2000000) only [↓RG, RP, RB, BEq.rfl, Int.reduceEq, Int.reduceLT, Int.reduceLE, Nat.reduceEqDiff]))
  refine s_check_begins h ?_
  repeat' (first | (with_reducible refine G.joini0 ?_) | (with_reducible refine G.joini1 ?_) | (with_reducible refine G.drew ?_) | (simp (maxSteps := 2000000) only [↓RG, RP, RB, BEq.rfl, Int.reduceEq, Int.reduceLT, Int.reduceLE, Nat.reduceEqDiff, h18]))
  exact hK

theorem s_check_wrong {i : TIns} {p : Value} [Cells p [p]] (h : OkI i) (hK : G w0 L (K (i64 0))) : G w0 L (CP Tryz.prog Fn.check_wrong [.agg #[p], .slice none 0 0, .agg #[i64 i.op, i64 i.a, i64 i.b, i64 i.c, u64 i.n]] K) := by
  refine C_check_wrong ?_
  unfold S_check_wrong
  refine G.box fun q1 => ?_
  refine G.box fun q2 => ?_
  try simp (maxSteps := 2000000) only [↓RG, RP, RB, BEq.rfl, Int.reduceEq, Int.reduceLT, Int.reduceLE, Nat.reduceEqDiff]
  refine s_code_May h ?_
  have h16 : i.op ≠ 16 := by unfold OkI at h; omega
  repeat' (first | (with_reducible refine G.joini0 ?_) | (with_reducible refine G.joini1 ?_) | (with_reducible refine G.drew ?_) | (simp (maxSteps := 2000000) only [↓RG, RP, RB, BEq.rfl, Int.reduceEq, Int.reduceLT, Int.reduceLE, Nat.reduceEqDiff, h16]))
  refine s_check_ends h.op ?_
  repeat' (first | (with_reducible refine G.joini0 ?_) | (with_reducible refine G.joini1 ?_) | (with_reducible refine G.drew ?_) | (simp (maxSteps := 2000000) only [↓RG, RP, RB, BEq.rfl, Int.reduceEq, Int.reduceLT, Int.reduceLE, Nat.reduceEqDiff, h16]))
  refine s_check_begins h.op ?_
  repeat' (first | (with_reducible refine G.joini0 ?_) | (with_reducible refine G.joini1 ?_) | (with_reducible refine G.drew ?_) | (simp (maxSteps := 2000000) only [↓RG, RP, RB, BEq.rfl, Int.reduceEq, Int.reduceLT, Int.reduceLE, Nat.reduceEqDiff]))
  exact hK.sub

/-- all are instructions that may be -/
def OkProg (p : List TIns) : Prop := 0 < p.length ∧ p.length ≤ 40 ∧ ∀ i ∈ p, OkI i

theorem s_check_regions {p : List TIns} [r : Rd w0 L v tInsE 5 p] (hv : Cells v [v]) (h : OkProg p) (hK : ∀ u, Cells u [u] → G w0 (sl intE u (List.replicate p.length (-1)) :: L) (K u)) : G w0 L (CP Tryz.prog Fn.check_regions [.agg #[v]] K) := by
  refine C_check_regions ?_
  unfold S_check_regions
  obtain ⟨h1, h2, h3⟩ := h
  refine G.box fun q => ?_
  try simp (maxSteps := 2000000) only [↓RG, RP, RB, BEq.rfl, Int.reduceEq, Int.reduceLT, Int.reduceLE, Nat.reduceEqDiff]
  refine G.make intE 0 rfl (by simp only [maxLen]; omega) (by omega) fun u hu => ?_
  try simp (maxSteps := 2000000) only [↓RG, RP, RB, BEq.rfl, Int.reduceEq, Int.reduceLT, Int.reduceLE, Nat.reduceEqDiff]
  refine G.loop2 (fun k : Nat => .slice none 0 0) (fun k : Nat => i64 k) (fun k => sl intE u (List.replicate k (-1) ++ List.replicate (p.length - k) 0) :: own q [v] :: L) (fun k => k ≤ p.length) (fun k => p.length - k) 0 rfl rfl (by simp) (by simp) ?_
  intro k hk J hJ
  try simp (maxSteps := 2000000) only [↓RG, RP, RB, BEq.rfl, Int.reduceEq, Int.reduceLT, Int.reduceLE, Nat.reduceEqDiff]
  refine G.cond (fun h => ?_) (fun h => ?_)
  · have hk2 : k < p.length := by simp at h; omega
    have e := elem_of hk2
    have e2 : Elem (List.replicate k (-1 : Int) ++ List.replicate (p.length - k) 0) k 0 := ⟨by rw [List.getElem?_append_right (by simp), List.length_replicate, Nat.sub_self, List.getElem?_replicate, if_pos (by omega)]⟩
    have e3 : (List.replicate k (-1 : Int) ++ List.replicate (p.length - k) 0).set k (-1) = List.replicate (k + 1) (-1) ++ List.replicate (p.length - (k + 1)) 0 := by
      rw [List.set_append_right _ _ (by simp), List.length_replicate, Nat.sub_self, show p.length - k = (p.length - (k + 1)) + 1 by omega, List.replicate_succ, List.set_cons_zero, List.replicate_succ', List.append_assoc]
      rfl
    try simp (maxSteps := 2000000) only [↓RG, RP, RB, BEq.rfl, Int.reduceEq, Int.reduceLT, Int.reduceLE, Nat.reduceEqDiff]
    refine G.new fun q2 => ?_
    try simp (maxSteps := 2000000) only [↓RG, RP, RB, BEq.rfl, Int.reduceEq, Int.reduceLT, Int.reduceLE, Nat.reduceEqDiff]
    refine s_check_inmost ?_
    try simp (maxSteps := 2000000) only [↓RG, RP, RB, BEq.rfl, Int.reduceEq, Int.reduceLT, Int.reduceLE, Nat.reduceEqDiff]
    rw [e3]
    refine s_check_behind (h3 _ (List.getElem_mem hk2)).op ?_
    try simp (maxSteps := 2000000) only [↓RG, RP, RB, BEq.rfl, Int.reduceEq, Int.reduceLT, Int.reduceLE, Nat.reduceEqDiff]
    rw [wsucc (by omega)]
    exact (hJ (k + 1) hk2 (by omega)).sub
  · have hk2 : k = p.length := by simp at h; omega
    subst hk2
    have := hK u hu
    rw [Nat.sub_self]
    simp only [List.replicate_zero, List.append_nil]
    exact this.sub

theorem s_check_jumps {p : List TIns} {u : Value} [r : Rd w0 L v tInsE 5 p] (hv : Cells v [v]) (h : OkProg p) (hK : G w0 L (K (.tuple #[i64 0, i64 0]))) : G w0 L (CP Tryz.prog Fn.check_jumps [.agg #[v], u] K) := by
  refine C_check_jumps ?_
  unfold S_check_jumps
  obtain ⟨h1, h2, h3⟩ := h
  refine G.box fun q => ?_
  try simp (maxSteps := 2000000) only [↓RG, RP, RB, BEq.rfl, Int.reduceEq, Int.reduceLT, Int.reduceLE, Nat.reduceEqDiff]
  refine G.loop1 (fun k : Nat => i64 k) (fun k => own q [v] :: L) (fun k => k ≤ p.length) (fun k => p.length - k) 0 rfl rfl (by simp) ?_
  intro k hk J hJ
  try simp (maxSteps := 2000000) only [↓RG, RP, RB, BEq.rfl, Int.reduceEq, Int.reduceLT, Int.reduceLE, Nat.reduceEqDiff]
  refine G.cond (fun h => ?_) (fun h => ?_)
  · have hk2 : k < p.length := by simp at h; omega
    have e := elem_of hk2
    refine G.joini0 ?_
    try simp (maxSteps := 2000000) only [↓RG, RP, RB, BEq.rfl, Int.reduceEq, Int.reduceLT, Int.reduceLE, Nat.reduceEqDiff]
    refine G.new fun q2 => ?_
    try simp (maxSteps := 2000000) only [↓RG, RP, RB, BEq.rfl, Int.reduceEq, Int.reduceLT, Int.reduceLE, Nat.reduceEqDiff]
    refine s_code_Jumps (h3 _ (List.getElem_mem hk2)).op ?_
    try simp (maxSteps := 2000000) only [↓RG, RP, RB, BEq.rfl, Int.reduceEq, Int.reduceLT, Int.reduceLE, Nat.reduceEqDiff]
    rw [wsucc (by omega)]
    exact (hJ (k + 1) hk2 (by omega)).sub
  · exact hK.sub

theorem s_check_Run {p : List TIns} [r : Rd w0 L v tInsE 5 p] (hv : Cells v [v]) (h : OkProg p) (hK : G w0 L (K (.tuple #[i64 0, i64 0]))) : G w0 L (CP Tryz.prog Fn.check_Run [.agg #[v]] K) := by
  refine C_check_Run ?_
  unfold S_check_Run
  have hh := h
  obtain ⟨h1, h2, h3⟩ := h
  refine G.box fun q => ?_
  have n1 : ¬ (p.length : Int) = 0 := by omega
  have n2 : ¬ (40 : Int) < p.length := by omega
  try simp (maxSteps := 2000000) only [fuse_and, fuse_or, fuse_step, fuse_pair, fuse_in, andP_true]
  try simp (maxSteps := 2000000) only [↓RG, RP, RB, BEq.rfl, Int.reduceEq, Int.reduceLT, Int.reduceLE, Nat.reduceEqDiff, n1, n2]
  refine G.loop2 (fun k : Nat => .slice none 0 0) (fun k : Nat => i64 k) (fun k => own q [v] :: L) (fun k => k ≤ p.length) (fun k => p.length - k) 0 rfl rfl rfl (by simp) ?_
  intro k hk J hJ
  try simp (maxSteps := 2000000) only [↓RG, RP, RB, BEq.rfl, Int.reduceEq, Int.reduceLT, Int.reduceLE, Nat.reduceEqDiff]
  refine G.cond (fun h => ?_) (fun h => ?_)
  · have hk2 : k < p.length := by simp at h; omega
    have e := elem_of hk2
    try simp (maxSteps := 2000000) only [↓RG, RP, RB, BEq.rfl, Int.reduceEq, Int.reduceLT, Int.reduceLE, Nat.reduceEqDiff]
    refine G.new fun q2 => ?_
    try simp (maxSteps := 2000000) only [↓RG, RP, RB, BEq.rfl, Int.reduceEq, Int.reduceLT, Int.reduceLE, Nat.reduceEqDiff]
    refine s_check_wrong (h3 _ (List.getElem_mem hk2)) ?_
    try simp (maxSteps := 2000000) only [↓RG, RP, RB, BEq.rfl, Int.reduceEq, Int.reduceLT, Int.reduceLE, Nat.reduceEqDiff]
    refine s_check_behind (h3 _ (List.getElem_mem hk2)).op ?_
    try simp (maxSteps := 2000000) only [↓RG, RP, RB, BEq.rfl, Int.reduceEq, Int.reduceLT, Int.reduceLE, Nat.reduceEqDiff]
    rw [wsucc (by omega)]
    exact (hJ (k + 1) hk2 (by omega)).sub
  · refine G.nilsl intE ?_
    repeat' (first | (with_reducible refine G.joini0 ?_) | (with_reducible refine G.joini1 ?_) | (with_reducible refine G.drew ?_) | (simp (maxSteps := 2000000) only [↓RG, RP, RB, BEq.rfl, Int.reduceEq, Int.reduceLT, Int.reduceLE, Nat.reduceEqDiff, List.length_nil, Int.cast_ofNat_Int]))
    refine s_check_regions hv hh fun u hu => ?_
    repeat' (first | (with_reducible refine G.joini0 ?_) | (with_reducible refine G.joini1 ?_) | (with_reducible refine G.drew ?_) | (simp (maxSteps := 2000000) only [↓RG, RP, RB, BEq.rfl, Int.reduceEq, Int.reduceLT, Int.reduceLE, Nat.reduceEqDiff]))
    refine s_check_jumps hv hh ?_
    repeat' (first | (with_reducible refine G.joini0 ?_) | (with_reducible refine G.joini1 ?_) | (with_reducible refine G.drew ?_) | (simp (maxSteps := 2000000) only [↓RG, RP, RB, BEq.rfl, Int.reduceEq, Int.reduceLT, Int.reduceLE, Nat.reduceEqDiff]))
    exact hK.sub

end
end Go.Proofs.YtoealglbimbbmaaGreatDoor.S
