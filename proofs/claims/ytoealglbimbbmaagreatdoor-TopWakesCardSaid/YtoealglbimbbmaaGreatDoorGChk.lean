import Derived.Test.YtoealglbimbbmaaGreatDoorTopD
namespace Go.Proofs.YtoealglbimbbmaaGreatDoor.S
open Go Go.Proofs
set_option linter.unusedVariables false
set_option linter.unusedSimpArgs false
def fldP (op : Int) : (Int × Int) × (Int × Int) × (Int × Int) :=
 if op = 1 ∨ op = 11 ∨ op = 21 then ((0, 7), (0, 0), (0, 0))
 else if op = 2 ∨ op = 10 then ((0, 7), (0, 7), (0, 0))
 else if op = 3 ∨ op = 4 ∨ op = 5 ∨ op = 6 ∨ op = 7 then ((0, 7), (0, 7), (0, 7))
 else if op = 8 ∨ op = 9 then ((0, 7), (0, 7), (0, 15))
 else if op = 12 then ((0, 0), (0, 0), (0, 40))
 else if op = 13 then ((0, 7), (0, 0), (0, 40))
 else if op = 23 then ((1, 12), (0, 7), (0, 6))
 else ((0, 0), (0, 0), (0, 0))
def fitP (f : Int × Int) (n : Int) : Bool := decide (f.1 ≤ n) && decide (n ≤ f.2)
def mayP (i : TIns) : Bool := (decide (1 ≤ i.op ∧ i.op ≤ 23) && fitP (fldP i.op).1 i.a && fitP (fldP i.op).2.1 i.b && fitP (fldP i.op).2.2 i.c) && (decide (i.n = 0) || decide (i.op = 1))
def endsP (op : Int) : Int := if op = 15 then 14 else if op = 18 then 17 else if op = 19 then 18 else 0
def beginsP (op : Int) : Bool := decide (op = 14) || decide (op = 17)
def behindP (s : List Int) (i op : Int) : List Int := if beginsP op || decide (op = 18) then i :: (if 0 < endsP op then s.tail else s) else (if 0 < endsP op then s.tail else s)
def inmostP : List Int → Int
 | [] => -1
 | i :: _ => i
def opP (p : List TIns) : List Int → Int
 | [] => 0
 | i :: _ => (p.getD i.toNat ⟨0, 0, 0, 0, 0⟩).op
def wrongP (p : List TIns) (s : List Int) (x : TIns) : Int :=
 if mayP x = false then 8 else if 0 < endsP x.op ∧ opP p s ≠ endsP x.op then 12 else if x.op = 16 ∧ opP p s ≠ 14 then 12 else if beginsP x.op = true ∧ 5 ≤ s.length then 9 else 0
def stkP (p : List TIns) : Nat → List Int
 | 0 => []
 | k + 1 => behindP (stkP p k) k (p.getD k ⟨0, 0, 0, 0, 0⟩).op
def regionsP (p : List TIns) : List Int := (List.range p.length).map fun k => inmostP (stkP p k)
def jumpsP (op : Int) : Bool := decide (op = 12) || decide (op = 13)
def badJump (p : List TIns) (k : Nat) (x : TIns) : Bool :=
 jumpsP x.op && (decide ((p.length : Int) < x.c) || (decide (x.c = p.length) && decide ((regionsP p).getD k 0 ≠ -1)) || (decide (x.c < p.length) && decide ((regionsP p).getD x.c.toNat 0 ≠ (regionsP p).getD k 0)))
def wrongAt (p : List TIns) : Nat → Int
 | 0 => 0
 | k + 1 => if wrongAt p k ≠ 0 then wrongAt p k else wrongP p (stkP p k) (p.getD k ⟨0, 0, 0, 0, 0⟩)
def jumpAt (p : List TIns) : Nat → Bool
 | 0 => false
 | k + 1 => jumpAt p k || badJump p k (p.getD k ⟨0, 0, 0, 0, 0⟩)
def chkP (p : List TIns) : Int :=
 if p.length = 0 ∨ 40 < p.length then 4 else if wrongAt p p.length ≠ 0 then wrongAt p p.length else if stkP p p.length ≠ [] then 12 else if jumpAt p p.length then 2 else 0
def endP (p : List TIns) : Nat → List Int
 | 0 => List.replicate p.length (-1)
 | k + 1 => if 0 < endsP (p.getD k ⟨0, 0, 0, 0, 0⟩).op then (endP p k).set ((regionsP p).getD k 0).toNat k else endP p k
def undoP (p : List TIns) : Nat → List Int
 | 0 => endP p p.length
 | k + 1 => if (p.getD k ⟨0, 0, 0, 0, 0⟩).op = 16 then (undoP p k).set k ((undoP p k).getD ((regionsP p).getD k 0).toNat 0) else undoP p k
def matchP (p : List TIns) : List Int := if chkP p = 0 then undoP p p.length else []
section
variable {w0 : Base} {L : List Asn} {K : KV} {v : Value} {C : Asn → List Asn} {b : Nat} {op : Int}
theorem g_code_fields (hK : G w0 L (K (.tuple #[.agg #[i64 (fldP op).1.1, i64 (fldP op).1.2], .agg #[i64 (fldP op).2.1.1, i64 (fldP op).2.1.2], .agg #[i64 (fldP op).2.2.1, i64 (fldP op).2.2.2]]))) : G w0 L (CP Tryz.prog Fn.code_fields [i64 op] K) := by
 refine C_code_fields ?_
 unfold S_code_fields
 refine G.new fun q1 => ?_
 refine G.new fun q2 => ?_
 refine G.new fun q3 => ?_
 refine gr ?_
 refine G.new fun q4 => ?_
 by_cases h : op = 1 ∨ op = 2 ∨ op = 3 ∨ op = 4 ∨ op = 5 ∨ op = 6 ∨ op = 7 ∨ op = 8 ∨ op = 9 ∨ op = 10 ∨ op = 11 ∨ op = 12 ∨ op = 13 ∨ op = 21 ∨ op = 23
 ·rcases h with h | h | h | h | h | h | h | h | h | h | h | h | h | h | h
  all_goals subst h
  all_goals repeat' (first | (with_reducible refine G.joini0 ?_) | (with_reducible refine G.joini1 ?_) | (with_reducible refine G.drew ?_) | (simp (maxSteps := 2000000) only [↓RG, RP, RB, BEq.rfl, Int.reduceEq, Int.reduceLT, Int.reduceLE, Nat.reduceEqDiff]))
  all_goals exact hK.sub
 ·have e : fldP op = ((0, 0), (0, 0), (0, 0)) := by unfold fldP; repeat' rw [if_neg (by omega)]
  rw [e] at hK
  have h1 : op ≠ 1 := by omega
  have h2 : op ≠ 2 := by omega
  have h3 : op ≠ 3 := by omega
  have h4 : op ≠ 4 := by omega
  have h5 : op ≠ 5 := by omega
  have h6 : op ≠ 6 := by omega
  have h7 : op ≠ 7 := by omega
  have h8 : op ≠ 8 := by omega
  have h9 : op ≠ 9 := by omega
  have h10 : op ≠ 10 := by omega
  have h11 : op ≠ 11 := by omega
  have h12 : op ≠ 12 := by omega
  have h13 : op ≠ 13 := by omega
  have h21 : op ≠ 21 := by omega
  have h23 : op ≠ 23 := by omega
  repeat' (first | (with_reducible refine G.joini0 ?_) | (with_reducible refine G.joini1 ?_) | (with_reducible refine G.drew ?_) | (simp (maxSteps := 2000000) only [↓RG, RP, RB, BEq.rfl, Int.reduceEq, Int.reduceLT, Int.reduceLE, Nat.reduceEqDiff, h1, h2, h3, h4, h5, h6, h7, h8, h9, h10, h11, h12, h13, h21, h23]))
  exact hK.sub
theorem g_code_field_fits {f : Int × Int} {n : Int} (hK : G w0 L (K (.bool (fitP f n)))) : G w0 L (CP Tryz.prog Fn.code_field_fits [.agg #[i64 f.1, i64 f.2], i64 n] K) := by
 refine C_code_field_fits ?_
 unfold S_code_field_fits
 try simp (maxSteps := 2000000) only [fuse_and, fuse_or, fuse_step, fuse_pair, fuse_in, andP_true]
 refine G.box fun q => ?_
 refine gr ?_
 refine G.all (decide (n ≤ f.2)) (fun _ K hK => by refine gr ?_; exact hK) ?_
 exact hK.sub
abbrev namesL : List ByteArray := [⟨#[]⟩, ⟨#[115, 101, 116]⟩, ⟨#[109, 111, 118, 101]⟩, ⟨#[97, 100, 100]⟩, ⟨#[115, 117, 98]⟩, ⟨#[109, 117, 108]⟩, ⟨#[108, 101, 115, 115]⟩, ⟨#[101, 113, 117, 97, 108]⟩, ⟨#[108, 111, 97, 100]⟩, ⟨#[115, 116, 111, 114, 101]⟩, ⟨#[97, 108, 108, 111, 99]⟩, ⟨#[102, 114, 101, 101]⟩, ⟨#[106, 117, 109, 112]⟩, ⟨#[122, 101, 114, 111]⟩, ⟨#[111, 112, 101, 110]⟩, ⟨#[99, 108, 111, 115, 101]⟩, ⟨#[117, 110, 100, 111]⟩, ⟨#[101, 105, 116, 104, 101, 114]⟩, ⟨#[111, 114]⟩, ⟨#[100, 111, 110, 101]⟩, ⟨#[114, 101, 116, 114, 121]⟩, ⟨#[101, 109, 105, 116]⟩, ⟨#[102, 97, 105, 108]⟩, ⟨#[99, 97, 108, 108]⟩]
theorem namesL_empty : ∀ k, k < 24 → ((namesL.getD k ⟨#[]⟩).toList == (⟨#[]⟩ : ByteArray).toList) = decide (k = 0) := by decide +kernel
theorem g_code_Name (hK : ∀ s : ByteArray, (s.toList == (⟨#[]⟩ : ByteArray).toList) = decide (¬ (1 ≤ op ∧ op ≤ 23)) → G w0 L (K (.string s))) : G w0 L (CP Tryz.prog Fn.code_Name [i64 op] K) := by
 refine C_code_Name ?_
 unfold S_code_Name
 refine C_code_names ?_
 unfold S_code_names
 refine G.build strE namesL rfl (by decide) rfl fun v hv => ?_
 refine C_code_named ?_
 unfold S_code_named
 have hl : ((namesL.length : Nat) : Int) = 24 := rfl
 try simp (maxSteps := 2000000) only [fuse_and, fuse_or, fuse_step, fuse_pair, fuse_in, andP_true]
 by_cases h0 : op < 0
 ·refine grf h0 ?_
  exact (hK ⟨#[]⟩ (by simp; omega)).sub
 ·by_cases h1 : 24 ≤ op
  ·refine grf (an h0 (an hl h1)) ?_
   exact (hK ⟨#[]⟩ (by simp; omega)).sub
  ·have hk : op.toNat < namesL.length := by show op.toNat < 24; omega
   have e := elem_of hk
   have ix : IxI op op.toNat := ⟨by omega⟩
   refine grf (an h0 (an hl h1)) ?_
   have hn := namesL_empty op.toNat (by omega)
   rw [List.getD_eq_getElem?_getD, List.getElem?_eq_getElem hk, Option.getD_some] at hn
   refine (hK _ (hn.trans ?_)).sub
   rw [decide_eq_decide]; omega
theorem G_eqStrB {a b : ByteArray} {t : Bool} {K : KV} (h : (a.toList == b.toList) = t) : G w0 L (eqStrW .neq (.string a) (.string b) K) = G w0 L (K (.bool !t)) := by
 congr 1
 funext w
 show eqW .neq (a.toList == b.toList) K w = _
 rw [h]
 rfl
theorem g_code_May {i : TIns} (hK : G w0 L (K (.bool (mayP i)))) : G w0 L (CP Tryz.prog Fn.code_May [.agg #[i64 i.op, i64 i.a, i64 i.b, i64 i.c, u64 i.n]] K) := by
 refine C_code_May ?_
 unfold S_code_May
 refine G.box fun q => ?_
 refine gr ?_
 refine g_code_fields ?_
 refine gr ?_
 refine G.new fun q1 => ?_
 refine G.new fun q2 => ?_
 refine G.new fun q3 => ?_
 refine gr ?_
 refine g_code_Name fun s hs => ?_
 rw [G_eqStrB hs]
 try simp (maxSteps := 2000000) only [fuse_and, fuse_or, fuse_step, fuse_pair, fuse_in, andP_true]
 unfold mayP at hK
 by_cases h1 : 1 ≤ i.op ∧ i.op ≤ 23
 ·have e1 : (!decide (¬ (1 ≤ i.op ∧ i.op ≤ 23))) = true := by simp [h1]
  rw [e1]
  rw [show decide (1 ≤ i.op ∧ i.op ≤ 23) = true from decide_eq_true h1] at hK
  refine gr ?_
  refine g_code_field_fits ?_
  cases c1 : fitP (fldP i.op).1 i.a
  ·rw [c1] at hK
   refine gr ?_
   exact hK.sub
  ·rw [c1] at hK
   refine gr ?_
   refine g_code_field_fits ?_
   cases c2 : fitP (fldP i.op).2.1 i.b
   ·rw [c2] at hK
    refine gr ?_
    exact hK.sub
   ·rw [c2] at hK
    refine gr ?_
    refine g_code_field_fits ?_
    cases c3 : fitP (fldP i.op).2.2 i.c
    ·rw [c3] at hK
     refine gr ?_
     exact hK.sub
    ·rw [c3] at hK
     refine gr ?_
     simp only [Bool.true_and] at hK
     refine G.any (decide (i.op = 1)) (fun _ K hK => by refine gr ?_; exact hK) ?_
     exact hK.sub
 ·have e1 : (!decide (¬ (1 ≤ i.op ∧ i.op ≤ 23))) = false := by simp [h1]
  rw [e1]
  rw [show decide (1 ≤ i.op ∧ i.op ≤ 23) = false from decide_eq_false h1] at hK
  refine gr ?_
  exact hK.sub
theorem g_code_Jumps (hK : G w0 L (K (.bool (jumpsP op)))) : G w0 L (CP Tryz.prog Fn.code_Jumps [i64 op] K) := by
 refine C_code_Jumps ?_
 unfold S_code_Jumps
 try simp (maxSteps := 2000000) only [fuse_and, fuse_or, fuse_step, fuse_pair, fuse_in, andP_true]
 refine gr ?_
 exact hK
theorem g_check_begins (hK : G w0 L (K (.bool (beginsP op)))) : G w0 L (CP Tryz.prog Fn.check_begins [i64 op] K) := by
 refine C_check_begins ?_
 unfold S_check_begins
 try simp (maxSteps := 2000000) only [fuse_and, fuse_or, fuse_step, fuse_pair, fuse_in, andP_true]
 refine gr ?_
 exact hK
theorem g_check_ends (hK : G w0 L (K (i64 (endsP op)))) : G w0 L (CP Tryz.prog Fn.check_ends [i64 op] K) := by
 refine C_check_ends ?_
 unfold S_check_ends
 unfold endsP at hK
 by_cases h1 : op = 15
 ·rw [if_pos h1] at hK
  refine grf h1 ?_
  exact hK
 rw [if_neg h1] at hK
 by_cases h2 : op = 18
 ·rw [if_pos h2] at hK
  refine grf (an h1 h2) ?_
  exact hK
 rw [if_neg h2] at hK
 by_cases h3 : op = 19
 ·rw [if_pos h3] at hK
  refine grf (an h1 (an h2 h3)) ?_
  exact hK
 rw [if_neg h3] at hK
 refine grf (an h1 (an h2 h3)) ?_
 exact hK
variable {s : List Int} {p : List TIns}
theorem rev_last {i : Int} : Elem (i :: s).reverse s.length i := ⟨by rw [List.reverse_cons, List.getElem?_append_right (by simp)]; simp⟩
theorem g_check_inmost [r : Rd w0 L v intE 1 s.reverse] (hl : s.length ≤ 1000000) (hK : G w0 L (K (i64 (inmostP s)))) : G w0 L (CP Tryz.prog Fn.check_stack_inmost [v] K) := by
 refine C_check_stack_inmost ?_
 unfold S_check_stack_inmost
 cases s with
 | nil =>
  try simp (maxSteps := 2000000) only [↓RG, RP, RB, BEq.rfl, Int.reduceEq, Int.reduceLT, Int.reduceLE, Nat.reduceEqDiff, List.reverse_nil, List.length_nil, Int.cast_ofNat_Int]
  exact hK
 | cons i s =>
  have e := rev_last (s := s) (i := i)
  have h0 : ¬ (((i :: s).reverse.length : Nat) : Int) = 0 := by simp; omega
  have h1 : IntKind.wrap .i64 ((((i :: s).reverse.length : Nat) : Int) - 1) = (s.length : Int) := by
   simp only [List.length_reverse, List.length_cons] at hl ⊢
   rw [wi64 (by omega) (by omega)]; omega
  refine grf (an h0 h1) ?_
  exact hK
def inP (p : List TIns) (s : List Int) : Prop := ∀ i ∈ s, 0 ≤ i ∧ i < p.length
theorem g_check_op {u : Value} [hu : Cells u [u]] [r : Rd w0 L v intE 1 s.reverse] [rp : Rd w0 L u tInsE 5 p] (hl : s.length ≤ 1000000) (hi : inP p s) (hK : G w0 L (K (i64 (opP p s)))) : G w0 L (CP Tryz.prog Fn.check_stack_op [v, .agg #[u]] K) := by
 refine C_check_stack_op ?_
 unfold S_check_stack_op
 refine G.box fun q => ?_
 cases s with
 | nil =>
  try simp (maxSteps := 2000000) only [↓RG, RP, RB, BEq.rfl, Int.reduceEq, Int.reduceLT, Int.reduceLE, Nat.reduceEqDiff, List.reverse_nil, List.length_nil, Int.cast_ofNat_Int]
  exact hK.sub
 | cons i s =>
  have h0 : ¬ (((i :: s).reverse.length : Nat) : Int) = 0 := by simp; omega
  obtain ⟨g1, g2⟩ := hi i (by simp)
  have hk : i.toNat < p.length := by omega
  have e := elem_of hk
  have ix : IxI (inmostP (i :: s)) i.toNat := ⟨by show i = _; omega⟩
  have eo : opP p (i :: s) = (p[i.toNat]).op := by
   show (p.getD i.toNat ⟨0, 0, 0, 0, 0⟩).op = _
   rw [List.getD_eq_getElem?_getD, List.getElem?_eq_getElem hk]; rfl
  rw [eo] at hK
  repeat' (first | (with_reducible refine G.joini0 ?_) | (with_reducible refine G.joini1 ?_) | (with_reducible refine G.drew ?_) | (simp (maxSteps := 2000000) only [↓RG, RP, RB, BEq.rfl, Int.reduceEq, Int.reduceLT, Int.reduceLE, Nat.reduceEqDiff, h0]))
  refine g_check_inmost (s := i :: s) hl ?_
  refine gg ?_
  exact hK.sub
theorem behind2 {w : Value} {M : List Asn} {i : Int} (hw : Cells w [w]) (hl : s.length ≤ 1000) (hK : ∀ u, Cells u [u] → G w0 (sl intE u (if beginsP op || decide (op = 18) then i :: s else s).reverse :: M) (K u)) :
  G w0 (sl intE w s.reverse :: M) (CP Tryz.prog Fn.check_begins [i64 op] (fun x4 => blockW x4 false (fun K => K (Value.bool (decide (op = 18)))) (Value.bool true) (fun x7 => joinW1 (fun x8 => K x8) (fun j2 => condP x7 (buildSliceW [(Value.int .i64 0)] 1 [(0, 1, i64 i)] (fun x9 => appendW 1 8 w x9 (fun x10 => j2 x10))) (j2 w))))) := by
 refine g_check_begins ?_
 refine gr ?_
 refine G.joini1 ?_
 cases hb : (beginsP op || decide (op = 18))
 ·simp only [hb, Bool.false_eq_true, if_false] at hK
  refine gr ?_
  exact hK w hw
 ·simp only [hb, if_true] at hK
  refine gr ?_
  refine G.append1 (E := intE) (a := i) rfl rfl (by decide) (by simp; omega) (by simp only [List.length_reverse, maxLen]; omega) fun u hu => ?_
  have := hK u hu
  rw [List.reverse_cons] at this
  exact this
theorem g_check_behind {i : Int} (hl : s.length ≤ 1000) (hne : 0 < endsP op → s ≠ []) (hv : Cells v [v]) [iv : SelOb L (slR intE) v s.reverse C] (hK : ∀ u, Cells u [u] → G w0 (C (sl intE u (behindP s i op).reverse)) (K u)) : G w0 L (CP Tryz.prog Fn.check_stack_behind [v, i64 i, i64 op] K) := by
 refine iv.useA (ι := {u : Value // Cells u [u]}) (A' := fun u => sl intE u.1 (behindP s i op).reverse) (F' := fun u => K u.1) (fun M hK => ?_) (fun u => hK u.1 u.2)
 have hK := fun u hu => hK ⟨u, hu⟩
 simp only at hK
 refine C_check_stack_behind ?_
 unfold S_check_stack_behind
 refine g_check_ends ?_
 unfold behindP at hK
 try simp (maxSteps := 2000000) only [fuse_and, fuse_or, fuse_step, fuse_pair, fuse_in, andP_true]
 by_cases h : 0 < endsP op
 ·simp only [h, if_true] at hK
  obtain ⟨j, t, rfl⟩ : ∃ j t, s = j :: t := by
   cases s with
   | nil => exact absurd rfl (hne h)
   | cons j t => exact ⟨j, t, rfl⟩
  have e1 : IntKind.wrap .i64 ((((j :: t).reverse.length : Nat) : Int) - 1) = ((t.length : Nat) : Int) := by
   simp only [List.length_reverse, List.length_cons] at hl ⊢
   rw [wi64 (by omega) (by omega)]; omega
  repeat' (first | (with_reducible refine G.joini0 ?_) | (with_reducible refine G.joini1 ?_) | (with_reducible refine G.drew ?_) | (simp (maxSteps := 2000000) only [↓RG, RP, RB, BEq.rfl, Int.reduceEq, Int.reduceLT, Int.reduceLE, Nat.reduceEqDiff, eq_true h, e1]))
  refine G.take (m := t.length) (by simp) fun u hu => ?_
  have e2 : (j :: t).reverse.take t.length = t.reverse := by
   rw [List.reverse_cons, List.take_append_of_le_length (by simp)]
   exact List.take_of_length_le (by simp)
  rw [e2]
  refine behind2 hu (by simp at hl; omega) ?_
  exact hK
 ·simp only [h, if_false] at hK
  refine gf h ?_
  refine behind2 hv hl ?_
  exact hK
theorem g_check_wrong {x : TIns} {u : Value} [hu : Cells u [u]] [r : Rd w0 L v intE 1 s.reverse] [rp : Rd w0 L u tInsE 5 p] (hl : s.length ≤ 1000) (hi : inP p s) (hK : G w0 L (K (i64 (wrongP p s x)))) : G w0 L (CP Tryz.prog Fn.check_wrong [.agg #[u], v, .agg #[i64 x.op, i64 x.a, i64 x.b, i64 x.c, u64 x.n]] K) := by
 refine C_check_wrong ?_
 unfold S_check_wrong
 have hl' : s.length ≤ 1000000 := by omega
 refine G.box fun q1 => ?_
 refine G.box fun q2 => ?_
 refine gr ?_
 refine g_code_May ?_
 unfold wrongP at hK
 try simp (maxSteps := 2000000) only [fuse_and, fuse_or, fuse_step, fuse_pair, fuse_in, andP_true]
 cases hm : mayP x
 ·rw [if_pos hm] at hK
  refine gg ?_
  exact hK.sub
 rw [if_neg (by rw [hm]; decide)] at hK
 repeat' (first | (with_reducible refine G.joini0 ?_) | (with_reducible refine G.joini1 ?_) | (with_reducible refine G.drew ?_) | (simp (maxSteps := 2000000) only [↓RG, RP, RB, BEq.rfl, Int.reduceEq, Int.reduceLT, Int.reduceLE, Nat.reduceEqDiff]))
 refine g_check_ends ?_
 have step3 : G w0 L (K (i64 (if beginsP x.op = true ∧ 5 ≤ s.length then 9 else 0))) → G w0 (own q2 [i64 x.op, i64 x.a, i64 x.b, i64 x.c, u64 x.n] :: own q1 [u] :: L) (CP Tryz.prog Fn.check_begins [i64 x.op] (fun x28 => blockW x28 true (fun K => lenW v fun y => binIntW .geq y (Value.int .i64 5) K) (Value.bool false) (fun x32 => condP x32 (K (Value.int .i64 9)) (K (Value.int .i64 0))))) := fun hK => by
  refine g_check_begins ?_
  have el : ((s.reverse.length : Nat) : Int) = s.length := by simp
  refine G.all (decide (5 ≤ s.length)) (fun _ K hK => by
   have e5 : decide ((5 : Int) ≤ s.length) = decide (5 ≤ s.length) := by rw [decide_eq_decide]; omega
   refine grf (an el e5) ?_
   exact hK) ?_
  by_cases c : beginsP x.op = true ∧ 5 ≤ s.length
  ·rw [if_pos c] at hK
   rw [show (beginsP x.op && decide (5 ≤ s.length)) = true by simp [c.1, c.2]]
   refine gr ?_
   exact hK.sub
  ·rw [if_neg c] at hK
   rw [show (beginsP x.op && decide (5 ≤ s.length)) = false by
    cases hb : beginsP x.op
    ·rfl
    ·have : ¬ 5 ≤ s.length := fun g => c ⟨hb, g⟩
     simp [this]]
   refine gr ?_
   exact hK.sub
 have st2 : G w0 L (K (i64 (if x.op = 16 ∧ opP p s ≠ 14 then 12 else if beginsP x.op = true ∧ 5 ≤ s.length then 9 else 0))) → G w0 (own q2 [i64 x.op, i64 x.a, i64 x.b, i64 x.c, u64 x.n] :: own q1 [u] :: L)
   (blockW (.bool (decide (x.op = 16))) true (fun K => loadNW 1 (ptr q1 0) (fun y => CP Tryz.prog Fn.check_stack_op [v, y] (fun y => binIntW .neq y (Value.int .i64 14) (fun y => K y)))) (Value.bool false) (fun x25 => condP x25 (K (Value.int .i64 12))
    (load1W (ptr q2 0) (fun x27 => CP Tryz.prog Fn.check_begins [x27] (fun x28 => blockW x28 true (fun K => lenW v fun y => binIntW .geq y (Value.int .i64 5) (fun y => K y)) (Value.bool false) (fun x32 => condP x32 (K (Value.int .i64 9)) (K (Value.int .i64 0)))))))) := fun hK => by
  by_cases c : x.op = 16
  ·refine gf (eq_true c) ?_
   refine g_check_op hl' hi ?_
   by_cases c2 : opP p s = 14
   ·rw [if_neg (fun g => g.2 c2)] at hK
    refine gf c2 ?_
    exact step3 hK
   ·rw [if_pos ⟨c, c2⟩] at hK
    refine gf c2 ?_
    exact hK.sub
  ·rw [if_neg (fun g => c g.1)] at hK
   refine gf c ?_
   exact step3 hK
 by_cases h0 : 0 < endsP x.op
 ·refine gf (eq_true h0) ?_
  refine g_check_op hl' hi ?_
  refine gg ?_
  refine g_check_ends ?_
  by_cases h1 : opP p s = endsP x.op
  ·rw [if_neg (fun g => g.2 h1)] at hK
   refine gf h1 ?_
   exact st2 hK
  ·rw [if_pos ⟨h0, h1⟩] at hK
   refine gf h1 ?_
   exact hK.sub
 ·rw [if_neg (fun g => h0 g.1)] at hK
  refine gf h0 ?_
  exact st2 hK
abbrev insD : TIns := ⟨0, 0, 0, 0, 0⟩
theorem getD_ins {k : Nat} (h : k < p.length) : p.getD k insD = p[k] := by rw [List.getD_eq_getElem?_getD, List.getElem?_eq_getElem h]; rfl
theorem wrongAt_mono {k : Nat} : ∀ {n : Nat}, k ≤ n → wrongAt p n = 0 → wrongAt p k = 0
 | 0, h, e => by
  obtain rfl : k = 0 := by omega
  exact e
 | n + 1, h, e => by
  by_cases c : k = n + 1
  ·rw [c]; exact e
  ·refine wrongAt_mono (n := n) (by omega) ?_
   unfold wrongAt at e
   by_cases c2 : wrongAt p n = 0
   ·exact c2
   ·rw [if_pos c2] at e; exact e
theorem wrong_at {k n : Nat} (h : k < n) (e : wrongAt p n = 0) : wrongP p (stkP p k) (p.getD k insD) = 0 := by
 have := wrongAt_mono (p := p) (k := k + 1) h e
 unfold wrongAt at this
 rw [if_neg (fun g => g (wrongAt_mono (Nat.le_of_lt h) e))] at this
 exact this
theorem may_of {x : TIns} (h : wrongP p s x = 0) : mayP x = true := by
 unfold wrongP at h
 cases hm : mayP x
 ·rw [if_pos hm] at h; cases h
 ·rfl
theorem ends_of {x : TIns} (h : wrongP p s x = 0) (h0 : 0 < endsP x.op) : s ≠ [] ∧ opP p s = endsP x.op := by
 unfold wrongP at h
 rw [if_neg (by rw [may_of (p := p) (s := s) (x := x) (by unfold wrongP; exact h)]; decide)] at h
 have e : opP p s = endsP x.op := by
  refine Classical.byContradiction fun g => ?_
  rw [if_pos ⟨h0, g⟩] at h; cases h
 refine ⟨fun g => ?_, e⟩
 rw [g] at e
 have : opP p [] = 0 := rfl
 omega
theorem stk_in : ∀ {k : Nat}, k ≤ p.length → inP p (stkP p k) ∧ (stkP p k).length ≤ k
 | 0, _ => ⟨fun i h => (by cases h), Nat.le_refl _⟩
 | k + 1, h => by
  obtain ⟨h1, h2⟩ := stk_in (k := k) (by omega)
  have h3 : inP p (stkP p k).tail ∧ (stkP p k).tail.length ≤ k := ⟨fun i hi => h1 i (List.mem_of_mem_tail hi), by simp; omega⟩
  have h4 : inP p (if 0 < endsP (p.getD k ⟨0, 0, 0, 0, 0⟩).op then (stkP p k).tail else stkP p k) ∧ (if 0 < endsP (p.getD k ⟨0, 0, 0, 0, 0⟩).op then (stkP p k).tail else stkP p k).length ≤ k := by
   split
   ·exact h3
   ·exact ⟨h1, h2⟩
  unfold stkP behindP
  split
  ·refine ⟨fun i hi => ?_, by simp only [List.length_cons]; have := h4.2; omega⟩
   rcases List.mem_cons.1 hi with rfl | hi
   ·omega
   ·exact h4.1 i hi
  ·exact ⟨h4.1, by have := h4.2; omega⟩
theorem regionsP_len : (regionsP p).length = p.length := by simp [regionsP]
theorem regionsP_at {k : Nat} (h : k < p.length) : (regionsP p)[k]? = some (inmostP (stkP p k)) := by simp [regionsP, h]
theorem g_check_regions [r : Rd w0 L v tInsE 5 p] (hv : Cells v [v]) (hl : p.length ≤ 40) (hw : wrongAt p p.length = 0) (hK : ∀ u, Cells u [u] → G w0 (sl intE u (regionsP p) :: L) (K u)) : G w0 L (CP Tryz.prog Fn.check_regions [.agg #[v]] K) := by
 refine C_check_regions ?_
 unfold S_check_regions
 refine G.box fun q => ?_
 refine gr ?_
 refine G.make intE 0 rfl (by simp only [maxLen]; omega) (by omega) fun u hu => ?_
 refine gr ?_
 refine G.nilsl intE ?_
 refine G.loop2 (σ := Nat × Value) (fun z => z.2) (fun z => i64 z.1) (fun z => sl intE z.2 (stkP p z.1).reverse :: sl intE u ((regionsP p).take z.1 ++ List.replicate (p.length - z.1) 0) :: own q [v] :: L) (fun z => z.1 ≤ p.length ∧ Cells z.2 [z.2]) (fun z => p.length - z.1) (0, .slice none 0 0) rfl rfl (by simp [stkP]) ⟨Nat.zero_le _, cells_slice⟩ ?_
 rintro ⟨k, y⟩ ⟨hk, hy⟩ J hJ
 simp only at hk hy hJ ⊢
 refine gr ?_
 refine G.cond (fun h => ?_) (fun h => ?_)
 ·have hk2 : k < p.length := by simp at h; omega
  have e := elem_of hk2
  have hs := stk_in (p := p) hk
  have hrl := regionsP_len (p := p)
  have htk : ((regionsP p).take k).length = k := by rw [List.length_take, hrl]; omega
  have e2 : Elem ((regionsP p).take k ++ List.replicate (p.length - k) 0) k 0 := ⟨by rw [List.getElem?_append_right (by omega), htk, Nat.sub_self, List.getElem?_replicate, if_pos (by omega)]⟩
  have e3 : ((regionsP p).take k ++ List.replicate (p.length - k) 0).set k (inmostP (stkP p k)) = (regionsP p).take (k + 1) ++ List.replicate (p.length - (k + 1)) 0 := by
   rw [List.set_append_right _ _ (by omega), htk, Nat.sub_self, show p.length - k = (p.length - (k + 1)) + 1 by omega, List.replicate_succ, List.set_cons_zero]
   have hr := regionsP_at hk2
   obtain ⟨g1, g2⟩ := List.getElem?_eq_some_iff.1 hr
   rw [List.take_succ_eq_append_getElem g1, g2, List.append_assoc]
   rfl
  refine gr ?_
  refine G.new fun q2 => ?_
  refine gr ?_
  refine g_check_inmost (s := stkP p k) (by omega) ?_
  refine gr ?_
  rw [e3]
  have hgd := getD_ins hk2
  refine g_check_behind (s := stkP p k) (op := p[k].op) (i := (k : Int)) (by omega) (fun g => (ends_of (wrong_at hk2 hw) (by rw [hgd]; exact g)).1) hy fun y2 hy2 => ?_
  refine gr ?_
  rw [wsucc (by omega)]
  have hn := hJ (k + 1, y2) ⟨hk2, hy2⟩ (by simp only; omega)
  have es : stkP p (k + 1) = behindP (stkP p k) k p[k].op := by rw [← hgd]; rfl
  simp only [es] at hn
  exact hn.sub
 ·have hk2 : k = p.length := by simp at h; omega
  have hK := hK u hu
  rw [hk2, Nat.sub_self, List.replicate_zero, List.append_nil, List.take_of_length_le (by rw [regionsP_len]; exact Nat.le_refl _)]
  exact hK.sub
theorem jump_c {x : TIns} (h : mayP x = true) (hj : jumpsP x.op = true) : 0 ≤ x.c ∧ x.c ≤ 40 := by
 unfold mayP fitP at h
 unfold jumpsP at hj
 simp only [Bool.and_eq_true, decide_eq_true_eq, Bool.or_eq_true] at h hj
 have e : (fldP x.op).2.2 = (0, 40) := by
  unfold fldP
  rcases hj with hj | hj <;> rw [hj] <;> rfl
 rw [e] at h
 simp only at h
 omega
theorem g_check_jumps {u : Value} [r : Rd w0 L v tInsE 5 p] [r2 : Rd w0 L u intE 1 (regionsP p)] (hv : Cells v [v]) (hl : p.length ≤ 40) (hw : wrongAt p p.length = 0) (hK : ∀ a, G w0 L (K (.tuple #[i64 a, i64 (if jumpAt p p.length = true then 2 else 0)]))) : G w0 L (CP Tryz.prog Fn.check_jumps [.agg #[v], u] K) := by
 refine C_check_jumps ?_
 unfold S_check_jumps
 refine G.box fun q => ?_
 try simp (maxSteps := 2000000) only [fuse_and, fuse_or, fuse_step, fuse_pair, fuse_in, andP_true]
 refine gr ?_
 have mono : ∀ {k n : Nat}, k ≤ n → jumpAt p k = true → jumpAt p n = true := by
  intro k n h e
  induction n with
  | zero =>
   obtain rfl : k = 0 := by omega
   exact e
  | succ n ih =>
   by_cases c : k = n + 1
   ·rw [← c]; exact e
   ·unfold jumpAt; rw [ih (by omega)]; rfl
 refine G.loop1 (fun k : Nat => i64 k) (fun k => own q [v] :: L) (fun k => k ≤ p.length ∧ jumpAt p k = false) (fun k => p.length - k) 0 rfl rfl ⟨Nat.zero_le _, rfl⟩ ?_
 intro k ⟨hk, hjk⟩ J hJ
 refine gr ?_
 refine G.cond (fun h => ?_) (fun h => ?_)
 ·have hk2 : k < p.length := by simp at h; omega
  have e := elem_of hk2
  have hgd := getD_ins hk2
  have hrk : (regionsP p)[k]? = some (inmostP (stkP p k)) := regionsP_at hk2
  have er : Elem (regionsP p) k ((regionsP p).getD k 0) := ⟨by rw [List.getD_eq_getElem?_getD, hrk]; rfl⟩
  have hmay := may_of (wrong_at hk2 hw)
  rw [hgd] at hmay
  have hsucc : jumpAt p (k + 1) = badJump p k p[k] := by
   show (jumpAt p k || badJump p k (p.getD k insD)) = _
   rw [hjk, hgd]; rfl
  refine G.joini0 ?_
  refine gr ?_
  refine G.new fun q2 => ?_
  refine gr ?_
  refine g_code_Jumps ?_
  cases hj : jumpsP p[k].op
  ·have hn := hJ (k + 1) ⟨hk2, by rw [hsucc]; unfold badJump; rw [hj]; rfl⟩ (by omega)
   refine gg ?_
   rw [wsucc (by omega)]
   exact hn.sub
  ·obtain ⟨c0, c40⟩ := jump_c hmay hj
   have ix : IxI p[k].c p[k].c.toNat := ⟨by omega⟩
   have bad : badJump p k p[k] = true → G w0 (own q2 [i64 p[k].op, i64 p[k].a, i64 p[k].b, i64 p[k].c, u64 p[k].n] :: own q [v] :: L) (K (.tuple #[i64 k, i64 2])) := fun hb => by
    have h2 := hK k
    rw [if_pos (mono hk2 (by rw [hsucc]; exact hb))] at h2
    exact h2.sub
   have good : badJump p k p[k] = false → G w0 (own q2 [i64 p[k].op, i64 p[k].a, i64 p[k].b, i64 p[k].c, u64 p[k].n] :: own q [v] :: L) (J (i64 ((k + 1 : Nat) : Int))) := fun hb =>
    (hJ (k + 1) ⟨hk2, by rw [hsucc]; exact hb⟩ (by omega)).sub
   unfold badJump at bad good
   rw [hj] at bad good
   simp only [Bool.true_and] at bad good
   by_cases a1 : (p.length : Int) < p[k].c
   ·repeat' (first | (with_reducible refine G.joini0 ?_) | (with_reducible refine G.joini1 ?_) | (with_reducible refine G.drew ?_) | (simp (maxSteps := 2000000) only [↓RG, RP, RB, BEq.rfl, Int.reduceEq, Int.reduceLT, Int.reduceLE, Nat.reduceEqDiff, eq_true a1]))
    exact bad (by simp [a1])
   by_cases a2 : p[k].c = p.length
   ·have a3 : ¬ p[k].c < p.length := by omega
    by_cases a4 : (regionsP p).getD k 0 = -1
    ·repeat' (first | (with_reducible refine G.joini0 ?_) | (with_reducible refine G.joini1 ?_) | (with_reducible refine G.drew ?_) | (simp (maxSteps := 2000000) only [↓RG, RP, RB, BEq.rfl, Int.reduceEq, Int.reduceLT, Int.reduceLE, Nat.reduceEqDiff, a1, eq_true a2, a3, eq_true a4]))
     rw [wsucc (by omega)]
     exact good (by simp only [a1, a3, a4, decide_true, decide_false, ne_eq, not_true_eq_false, not_false_eq_true, Bool.and_true, Bool.true_and, Bool.and_false, Bool.false_and, Bool.or_false, Bool.false_or, Bool.or_true, Bool.true_or, Bool.or_self, Bool.and_self])
    ·repeat' (first | (with_reducible refine G.joini0 ?_) | (with_reducible refine G.joini1 ?_) | (with_reducible refine G.drew ?_) | (simp (maxSteps := 2000000) only [↓RG, RP, RB, BEq.rfl, Int.reduceEq, Int.reduceLT, Int.reduceLE, Nat.reduceEqDiff, a1, eq_true a2, a3, a4]))
     exact bad (by simp only [a2, a4, decide_true, decide_false, ne_eq, not_true_eq_false, not_false_eq_true, Bool.and_true, Bool.true_and, Bool.and_false, Bool.false_and, Bool.or_false, Bool.false_or, Bool.or_true, Bool.true_or, Bool.or_self, Bool.and_self])
   ·have a3 : p[k].c < p.length := by omega
    have hrc : (regionsP p)[p[k].c.toNat]? = some (inmostP (stkP p p[k].c.toNat)) := regionsP_at (by omega)
    have ec : Elem (regionsP p) p[k].c.toNat ((regionsP p).getD p[k].c.toNat 0) := ⟨by rw [List.getD_eq_getElem?_getD, hrc]; rfl⟩
    by_cases a4 : (regionsP p).getD p[k].c.toNat 0 = (regionsP p).getD k 0
    ·repeat' (first | (with_reducible refine G.joini0 ?_) | (with_reducible refine G.joini1 ?_) | (with_reducible refine G.drew ?_) | (simp (maxSteps := 2000000) only [↓RG, RP, RB, BEq.rfl, Int.reduceEq, Int.reduceLT, Int.reduceLE, Nat.reduceEqDiff, a1, a2, eq_true a3, eq_true a4]))
     rw [wsucc (by omega)]
     exact good (by simp only [a1, a2, a4, decide_true, decide_false, ne_eq, not_true_eq_false, not_false_eq_true, Bool.and_true, Bool.true_and, Bool.and_false, Bool.false_and, Bool.or_false, Bool.false_or, Bool.or_true, Bool.true_or, Bool.or_self, Bool.and_self])
    ·repeat' (first | (with_reducible refine G.joini0 ?_) | (with_reducible refine G.joini1 ?_) | (with_reducible refine G.drew ?_) | (simp (maxSteps := 2000000) only [↓RG, RP, RB, BEq.rfl, Int.reduceEq, Int.reduceLT, Int.reduceLE, Nat.reduceEqDiff, a1, a2, eq_true a3, a4]))
     exact bad (by simp only [a3, a4, decide_true, decide_false, ne_eq, not_true_eq_false, not_false_eq_true, Bool.and_true, Bool.true_and, Bool.and_false, Bool.false_and, Bool.or_false, Bool.false_or, Bool.or_true, Bool.true_or, Bool.or_self, Bool.and_self])
 ·have hk2 : k = p.length := by simp at h; omega
  have h2 := hK 0
  rw [← hk2, if_neg (by rw [hjk]; decide)] at h2
  exact h2.sub
theorem g_check_Run [r : Rd w0 L v tInsE 5 p] (hv : Cells v [v]) (hl : p.length ≤ 1000000) (hK : ∀ a, G w0 L (K (.tuple #[i64 a, i64 (chkP p)]))) : G w0 L (CP Tryz.prog Fn.check_Run [.agg #[v]] K) := by
 refine C_check_Run ?_
 unfold S_check_Run
 refine G.box fun q => ?_
 try simp (maxSteps := 2000000) only [fuse_and, fuse_or, fuse_step, fuse_pair, fuse_in, andP_true]
 unfold chkP at hK
 by_cases h0 : p.length = 0
 ·have c : ((p.length : Int) = 0) = True := eq_true (by omega)
  rw [if_pos (.inl h0)] at hK
  refine grf c ?_
  exact (hK 0).sub
 by_cases h40 : 40 < p.length
 ·have c : ((p.length : Int) = 0) = False := eq_false (by omega)
  have c2 : ((40 : Int) < p.length) = True := eq_true (by omega)
  rw [if_pos (.inr h40)] at hK
  refine grf (an c c2) ?_
  exact (hK 0).sub
 have c : ((p.length : Int) = 0) = False := eq_false (by omega)
 have c2 : ((40 : Int) < p.length) = False := eq_false (by omega)
 rw [if_neg (by omega)] at hK
 refine grf (an c c2) ?_
 refine G.nilsl intE ?_
 refine G.loop2 (σ := Nat × Value) (fun z => z.2) (fun z => i64 z.1) (fun z => sl intE z.2 (stkP p z.1).reverse :: own q [v] :: L) (fun z => z.1 ≤ p.length ∧ wrongAt p z.1 = 0 ∧ Cells z.2 [z.2]) (fun z => p.length - z.1) (0, .slice none 0 0) rfl rfl rfl ⟨Nat.zero_le _, rfl, cells_slice⟩ ?_
 rintro ⟨k, y⟩ ⟨hk, hwk, hy⟩ J hJ
 simp only at hk hwk hy hJ ⊢
 have hs := stk_in (p := p) hk
 refine gr ?_
 refine G.cond (fun h => ?_) (fun h => ?_)
 ·have hk2 : k < p.length := by simp at h; omega
  have e := elem_of hk2
  have hgd := getD_ins hk2
  have hsucc : wrongAt p (k + 1) = wrongP p (stkP p k) p[k] := by
   show (if wrongAt p k ≠ 0 then wrongAt p k else wrongP p (stkP p k) (p.getD k insD)) = _
   rw [if_neg (fun g => g hwk), hgd]
  refine gr ?_
  refine G.new fun q2 => ?_
  refine gr ?_
  refine g_check_wrong (s := stkP p k) (p := p) (x := p[k]) (by omega) hs.1 ?_
  by_cases c : wrongP p (stkP p k) p[k] = 0
  ·rw [c]
   refine gg ?_
   refine g_check_behind (s := stkP p k) (op := p[k].op) (i := (k : Int)) (by omega) (fun g => (ends_of c g).1) hy fun y2 hy2 => ?_
   refine gr ?_
   rw [wsucc (by omega)]
   have hn := hJ (k + 1, y2) ⟨hk2, by rw [hsucc]; exact c, hy2⟩ (by simp only; omega)
   have es : stkP p (k + 1) = behindP (stkP p k) k p[k].op := by rw [← hgd]; rfl
   simp only [es] at hn
   exact hn.sub
  ·refine gf c ?_
   have e1 : wrongAt p p.length = wrongP p (stkP p k) p[k] := by
    have : ∀ n, k + 1 ≤ n → wrongAt p n = wrongAt p (k + 1) := by
     intro n hn
     induction n with
     | zero => omega
     | succ n ih =>
      by_cases c3 : k + 1 = n + 1
      ·rw [c3]
      ·have := ih (by omega)
       show (if wrongAt p n ≠ 0 then wrongAt p n else wrongP p (stkP p n) (p.getD n insD)) = _
       rw [if_pos (by rw [this, hsucc]; exact c), this]
    rw [this p.length hk2, hsucc]
   have h2 := hK k
   rw [e1, if_pos c] at h2
   exact h2.sub
 ·have hk2 : k = p.length := by simp at h; omega
  rw [← hk2, if_neg (fun g => g hwk)] at hK
  by_cases c3 : stkP p k = []
  ·rw [if_neg (fun g => g c3)] at hK
   rw [c3]
   repeat' (first | (with_reducible refine G.joini0 ?_) | (with_reducible refine G.joini1 ?_) | (with_reducible refine G.drew ?_) | (simp (maxSteps := 2000000) only [↓RG, RP, RB, BEq.rfl, Int.reduceEq, Int.reduceLT, Int.reduceLE, Nat.reduceEqDiff, List.reverse_nil, List.length_nil, Int.cast_ofNat_Int]))
   refine g_check_regions hv (by omega) (by rw [← hk2]; exact hwk) fun u hu => ?_
   refine gg ?_
   refine g_check_jumps hv (by omega) (by rw [← hk2]; exact hwk) fun a => ?_
   refine gg ?_
   have h2 := hK a
   rw [hk2] at h2
   exact h2.sub
  ·rw [if_pos c3] at hK
   have c4 : ((0 : Int) < ((stkP p k).reverse.length : Nat)) = True := eq_true (by
    rw [List.length_reverse]
    cases hh : stkP p k with
    | nil => exact absurd hh c3
    | cons a b => simp only [List.length_cons]; omega)
   refine gf c4 ?_
   refine g_check_inmost (s := stkP p k) (by omega) ?_
   repeat' (first | (with_reducible refine G.joini0 ?_) | (with_reducible refine G.joini1 ?_) | (with_reducible refine G.drew ?_) | (simp (maxSteps := 2000000) only [↓RG, RP, RB, BEq.rfl, Int.reduceEq, Int.reduceLT, Int.reduceLE, Nat.reduceEqDiff]))
   exact (hK _).sub
theorem endP_len : ∀ k, (endP p k).length = p.length
 | 0 => by simp [endP]
 | k + 1 => by unfold endP; split <;> simp [endP_len k]
theorem undoP_len : ∀ k, (undoP p k).length = p.length
 | 0 => by unfold undoP; exact endP_len _
 | k + 1 => by unfold undoP; split <;> simp [undoP_len k]
theorem inmost_of (h : s ≠ []) (hi : inP p s) : 0 ≤ inmostP s ∧ inmostP s < p.length := by
 cases s with
 | nil => exact absurd rfl h
 | cons i s => exact hi i (by simp)
theorem getD_elem {xs : List Int} {k : Nat} (h : k < xs.length) : Elem xs k (xs.getD k 0) := ⟨by rw [List.getD_eq_getElem?_getD, List.getElem?_eq_getElem h]; rfl⟩
theorem chk_of (h : chkP p = 0) : 0 < p.length ∧ p.length ≤ 40 ∧ wrongAt p p.length = 0 ∧ stkP p p.length = [] ∧ jumpAt p p.length = false := by
 unfold chkP at h
 by_cases h1 : p.length = 0 ∨ 40 < p.length
 ·rw [if_pos h1] at h; cases h
 rw [if_neg h1] at h
 by_cases h2 : wrongAt p p.length = 0
 ·rw [if_neg (fun g => g h2)] at h
  by_cases h3 : stkP p p.length = []
  ·rw [if_neg (fun g => g h3)] at h
   cases h4 : jumpAt p p.length
   ·exact ⟨by omega, by omega, h2, h3, rfl⟩
   ·rw [if_pos h4] at h; cases h
  ·rw [if_pos h3] at h; cases h
 ·rw [if_pos h2] at h; exact absurd h h2
theorem g_check_Match [r : Rd w0 L v tInsE 5 p] (hv : Cells v [v]) (hl : p.length ≤ 1000000) (hK : ∀ u, Cells u [u] → G w0 (sl intE u (matchP p) :: L) (K u)) : G w0 L (CP Tryz.prog Fn.check_Match [.agg #[v]] K) := by
 refine C_check_Match ?_
 unfold S_check_Match
 refine G.box fun q => ?_
 refine gr ?_
 refine g_check_Run hv hl fun a => ?_
 unfold matchP at hK
 by_cases hc : chkP p = 0
 ·obtain ⟨l0, l40, hw, _, _⟩ := chk_of hc
  rw [if_pos hc] at hK
  refine gf hc ?_
  refine g_check_regions hv l40 hw fun u hu => ?_
  refine gr ?_
  refine G.make intE 0 rfl (by simp only [maxLen]; omega) (by omega) fun u2 hu2 => ?_
  have hr : ((List.replicate p.length (0 : Int)).length : Int) = p.length := by simp
  have hrl := regionsP_len (p := p)
  refine grf hr ?_
  refine G.loop1 (σ := Nat × List Int) (fun z => i64 z.1) (fun z => sl intE u2 z.2 :: sl intE u (regionsP p) :: own q [v] :: L) (fun z => z.1 ≤ p.length ∧ z.2 = List.replicate z.1 (-1) ++ List.replicate (p.length - z.1) 0) (fun z => p.length - z.1) (0, List.replicate p.length 0) rfl rfl ⟨Nat.zero_le _, by simp⟩ ?_
  rintro ⟨k, xs⟩ ⟨hk, hx⟩ J hJ
  simp only at hk hx hJ ⊢
  refine gr ?_
  refine G.cond (fun h => ?_) (fun h => ?_)
  ·have hk2 : k < p.length := by simp at h; omega
   have hxl : k < xs.length := by rw [hx]; simp; omega
   have e := elem_of hxl
   have e3 : xs.set k (-1) = List.replicate (k + 1) (-1) ++ List.replicate (p.length - (k + 1)) 0 := by
    rw [hx, List.set_append_right _ _ (by simp), List.length_replicate, Nat.sub_self, show p.length - k = (p.length - (k + 1)) + 1 by omega, List.replicate_succ, List.set_cons_zero, List.replicate_succ', List.append_assoc]
    rfl
   refine gr ?_
   rw [wsucc (by omega)]
   exact hJ (k + 1, xs.set k (-1)) ⟨hk2, e3⟩ (by simp only; omega)
  ·have hk2 : k = p.length := by simp at h; omega
   have hx0 : xs = endP p 0 := by rw [hx, hk2, Nat.sub_self]; simp [endP]
   subst hx0
   refine gr ?_
   refine G.loop1 (fun k : Nat => i64 k) (fun k => sl intE u2 (endP p k) :: sl intE u (regionsP p) :: own q [v] :: L) (fun k => k ≤ p.length) (fun k => p.length - k) 0 rfl rfl (Nat.zero_le _) ?_
   intro k hk J hJ
   refine gr ?_
   refine G.cond (fun h => ?_) (fun h => ?_)
   ·have hk2 : k < p.length := by simp at h; omega
    have e := elem_of hk2
    have hgd := getD_ins hk2
    have hn := hJ (k + 1) hk2 (by omega)
    have es : endP p (k + 1) = if 0 < endsP p[k].op then (endP p k).set ((regionsP p).getD k 0).toNat k else endP p k := by rw [← hgd]; rfl
    rw [es] at hn
    refine gr ?_
    refine G.new fun q2 => ?_
    refine gr ?_
    refine g_check_ends ?_
    by_cases h0 : 0 < endsP p[k].op
    ·rw [if_pos h0] at hn
     have hne := ends_of (wrong_at hk2 hw) (by rw [hgd]; exact h0)
     obtain ⟨g1, g2⟩ := inmost_of hne.1 (stk_in (p := p) (k := k) (by omega)).1
     have er : Elem (regionsP p) k (inmostP (stkP p k)) := ⟨regionsP_at hk2⟩
     have erd : (regionsP p).getD k 0 = inmostP (stkP p k) := by rw [List.getD_eq_getElem?_getD, regionsP_at hk2]; rfl
     rw [erd] at hn
     have ix : IxI (inmostP (stkP p k)) (inmostP (stkP p k)).toNat := ⟨by omega⟩
     have ee := getD_elem (xs := endP p k) (k := (inmostP (stkP p k)).toNat) (by rw [endP_len]; omega)
     repeat' (first | (with_reducible refine G.joini0 ?_) | (with_reducible refine G.joini1 ?_) | (with_reducible refine G.drew ?_) | (simp (maxSteps := 2000000) only [↓RG, RP, RB, BEq.rfl, Int.reduceEq, Int.reduceLT, Int.reduceLE, Nat.reduceEqDiff, eq_true h0]))
     rw [wsucc (by omega)]
     exact hn.sub
    ·rw [if_neg h0] at hn
     refine gf h0 ?_
     rw [wsucc (by omega)]
     exact hn.sub
   ·have hk2 : k = p.length := by simp at h; omega
    rw [hk2, show endP p p.length = undoP p 0 from rfl]
    refine gr ?_
    refine G.loop1 (fun k : Nat => i64 k) (fun k => sl intE u2 (undoP p k) :: sl intE u (regionsP p) :: own q [v] :: L) (fun k => k ≤ p.length) (fun k => p.length - k) 0 rfl rfl (Nat.zero_le _) ?_
    intro k hk J hJ
    refine gr ?_
    refine G.cond (fun h => ?_) (fun h => ?_)
    ·have hk2 : k < p.length := by simp at h; omega
     have e := elem_of hk2
     have hgd := getD_ins hk2
     have hn := hJ (k + 1) hk2 (by omega)
     have es : undoP p (k + 1) = if p[k].op = 16 then (undoP p k).set k ((undoP p k).getD ((regionsP p).getD k 0).toNat 0) else undoP p k := by rw [← hgd]; rfl
     rw [es] at hn
     refine gr ?_
     refine G.new fun q2 => ?_
     by_cases h0 : p[k].op = 16
     ·rw [if_pos h0] at hn
      have hne : stkP p k ≠ [] := fun g => by
       have := wrong_at hk2 hw
       rw [hgd] at this
       unfold wrongP at this
       rw [if_neg (by rw [may_of (p := p) (s := stkP p k) (x := p[k]) (by unfold wrongP; exact this)]; decide), if_neg (fun z => absurd z.1 (by rw [h0]; decide)), if_pos ⟨h0, by rw [g]; show (0 : Int) ≠ 14; decide⟩] at this
       cases this
      obtain ⟨g1, g2⟩ := inmost_of hne (stk_in (p := p) (k := k) (by omega)).1
      have er : Elem (regionsP p) k (inmostP (stkP p k)) := ⟨regionsP_at hk2⟩
      have erd : (regionsP p).getD k 0 = inmostP (stkP p k) := by rw [List.getD_eq_getElem?_getD, regionsP_at hk2]; rfl
      rw [erd] at hn
      have ix : IxI (inmostP (stkP p k)) (inmostP (stkP p k)).toNat := ⟨by omega⟩
      have ee := getD_elem (xs := undoP p k) (k := (inmostP (stkP p k)).toNat) (by rw [undoP_len]; omega)
      have ek := getD_elem (xs := undoP p k) (k := k) (by rw [undoP_len]; omega)
      repeat' (first | (with_reducible refine G.joini0 ?_) | (with_reducible refine G.joini1 ?_) | (with_reducible refine G.drew ?_) | (simp (maxSteps := 2000000) only [↓RG, RP, RB, BEq.rfl, Int.reduceEq, Int.reduceLT, Int.reduceLE, Nat.reduceEqDiff, eq_true h0]))
      rw [wsucc (by omega)]
      exact hn.sub
     ·rw [if_neg h0] at hn
      refine gf h0 ?_
      rw [wsucc (by omega)]
      exact hn.sub
    ·have hk2 : k = p.length := by simp at h; omega
     rw [hk2]
     exact (hK u2 hu2).sub
 ·rw [if_neg hc] at hK
  refine gf hc ?_
  refine G.nilsl intE ?_
  exact (hK _ cells_slice).sub
end
end Go.Proofs.YtoealglbimbbmaaGreatDoor.S
