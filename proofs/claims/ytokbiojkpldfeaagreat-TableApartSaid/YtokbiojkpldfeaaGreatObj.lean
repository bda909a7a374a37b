/-
  quietuskeep: plain objects: rows of pairs at the places 2 and 3 (the tables').
-/
import Derived.Test.YtokbiojkpldfeaaGreatPlA
namespace Go.Proofs.YtokbiojkpldfeaaGreat.S
open Go Go.Proofs
set_option linter.unusedVariables false
set_option linter.unusedSimpArgs false

/-! ### a part of a slice is read -/
section
variable {α : Type} {E : Enc α} {w0 : Base} {L : List Asn} {v : Value} {xs : List α} {w : World} {C : Asn → List Asn} {K : KV} {sz : Nat}
theorem SliceIs.sub {c n cap l h : Nat} (H : SliceIs E w (.slice (some ⟨c, 0, none⟩) n cap) xs) (hl : l ≤ h) (hh : h ≤ xs.length) (hcap : xs.length ≤ cap) :
    SliceIs E w (.slice (if cap = l then some ⟨c, 0, none⟩ else some ⟨c, l * E.sz, none⟩) (h - l) (cap - l)) ((xs.take h).drop l) := by
  obtain ⟨oa, cp, h1, h2, h3⟩ := H
  have e1 : oa = some ⟨c, 0, none⟩ := by injection h1 with g1 g2 g3; exact g1.symm
  subst e1
  have hlen : ((xs.take h).drop l).length = h - l := by rw [List.length_drop, List.length_take]; omega
  by_cases hc : cap = l
  · rw [if_pos hc, ← hlen]
    refine ⟨_, _, rfl, by simp, fun i x hx => ?_⟩
    exfalso
    have := (List.getElem?_eq_some_iff.1 hx).1
    omega
  · rw [if_neg hc, ← hlen]
    refine ⟨_, _, rfl, by simp, fun i x hx => ?_⟩
    rw [List.getElem?_drop, List.getElem?_take] at hx
    split at hx
    · obtain ⟨e, o, cs, g1, g2, g3, g4⟩ := h3 _ _ hx
      injection g1 with g1
      injection g1 with q1 q2
      subst q1
      subst q2
      rw [Nat.zero_add] at g3 g4
      refine ⟨c, l * E.sz, cs, rfl, g2, ?_, ?_⟩
      · rw [← Nat.add_mul]; rw [Nat.add_assoc] at g3; exact g3
      · rw [← Nat.add_mul]; exact g4
    · cases hx
theorem G.part {m n : Nat} {lo hi : Option Value} [s : SelSl L v E xs C] (hz : E.sz = sz) (hlo : bound lo 0 = some (m : Int)) (hhi : bound hi xs.length = some (n : Int)) (hm : m ≤ n) (hn : n ≤ xs.length)
    (H : ∀ y, Cells y [y] → Rd w0 L y E sz ((xs.take n).drop m) → G w0 L (K y)) : G w0 L (sliceW sz v lo hi K) := fun w hw => by
  subst hz
  obtain ⟨M, e1, e2⟩ := sl_front (w0 := w0) s.sel
  rcases ((e1 w).1 hw).sl_cases with ⟨rfl, rfl, H2⟩ | ⟨c, cap, rest, rfl, g2, g3, H2⟩
  · simp only [List.length_nil] at hn hhi
    have e3 : n = 0 := by omega
    have e4 : m = 0 := by omega
    subst e3
    subst e4
    have hy : Rd w0 L (.slice none 0 0) E E.sz ((([] : List α).take 0).drop 0) := ⟨rfl, fun w _ => ⟨none, 0, rfl, fun _ => ⟨rfl, rfl⟩, fun i x hx => by simp at hx⟩⟩
    have := H _ cells_slice hy w hw
    simp only [sliceW, hlo, hhi]
    simpa using this
  · have hy : Rd w0 L (.slice (if cap = m then some ⟨c, 0, none⟩ else some ⟨c, m * E.sz, none⟩) (n - m) (cap - m)) E E.sz ((xs.take n).drop m) := ⟨rfl, fun w' hw' => (((e1 w').1 hw').sl_is).sub hm hn g2⟩
    have := H _ cells_slice hy w hw
    simp only [sliceW, hlo, hhi]
    refine ⟨by omega, by omega, by omega, ?_⟩
    have ea : (if cap = ((m : Int)).toNat then some (⟨c, 0, none⟩ : Addr) else Option.map (fun x => x.add (((m : Int)).toNat * E.sz)) (some (⟨c, 0, none⟩ : Addr))) = (if cap = m then some ⟨c, 0, none⟩ else some ⟨c, m * E.sz, none⟩) := by
      rw [Int.toNat_natCast]
      split
      · rfl
      · simp only [Option.map_some, Addr.add]
        split
        · rename_i e; rw [e]
        · simp
    rw [ea]
    simpa using this
end

/-! ### plain objects -/
def ObjR (b : Nat) (p : List TPair × List TPair) : Asn := exA fun v2 => exA fun v3 => star (pureA (Cells v2 [v2] ∧ Cells v3 [v3])) (star (star (own b [.slice none 0 0, .slice none 0 0, v2, v3, .slice none 0 0, .slice none 0 0, .slice none 0 0, .slice none 0 0]) (sl tPairE v2 p.1)) (sl tPairE v3 p.2))
section
variable {w0 : Base} {L M : List Asn} {K : KV} {F : World → Prop} {C : Asn → List Asn} {b : Nat} {p : List TPair × List TPair} {k x : Int} {v2 v3 : Value}
abbrev obC (v2 v3 : Value) : List Value := [.slice none 0 0, .slice none 0 0, v2, v3, .slice none 0 0, .slice none 0 0, .slice none 0 0, .slice none 0 0]
theorem ObjR_open : G w0 (ob ObjR b p :: M) F = ∀ v2 v3, (Cells v2 [v2] ∧ Cells v3 [v3]) → G w0 (own b [.slice none 0 0, .slice none 0 0, v2, v3, .slice none 0 0, .slice none 0 0, .slice none 0 0, .slice none 0 0] :: sl tPairE v2 p.1 :: sl tPairE v3 p.2 :: M) F := by
  rw [ob_eq, ObjR]
  simp only [G_ex, G_star, G_pure]
theorem ObjR_close {L2 L3 : List TPair} (b : Nat) (p : List TPair × List TPair) [PickAll [own b [.slice none 0 0, .slice none 0 0, v2, v3, .slice none 0 0, .slice none 0 0, .slice none 0 0, .slice none 0 0], sl tPairE v2 L2, sl tPairE v3 L3] L M] (e : p = (L2, L3)) (h : Cells v2 [v2] ∧ Cells v3 [v3]) (H : G w0 (ob ObjR b p :: M) F) : G w0 L F :=
  G.pickAll (As := [own b [.slice none 0 0, .slice none 0 0, v2, v3, .slice none 0 0, .slice none 0 0, .slice none 0 0, .slice none 0 0], sl tPairE v2 L2, sl tPairE v3 L3]) (by subst e; rw [ObjR_open] at H; exact H v2 v3 h)

theorem oIdx_drop {P : List TPair} {j : Nat} (hj : j < P.length) : oIdx (P.drop j) k = if P[j].key < k then oIdx (P.drop (j + 1)) k + 1 else 0 := by
  rw [List.drop_eq_getElem_cons hj]
  rfl
theorem oHas_at {P : List TPair} {j : Nat} (hj : j < P.length) (e : oIdx P k = j) : oHas P k = decide (P[j].key = k) := by
  unfold oHas
  rw [e, List.getElem?_eq_getElem hj]
theorem oHas_end {P : List TPair} (e : oIdx P k = P.length) : oHas P k = false := by
  unfold oHas
  rw [e, List.getElem?_eq_none (Nat.le_refl _)]
theorem oHas_lt {P : List TPair} (h : oHas P k = true) : ∃ hj : oIdx P k < P.length, P[oIdx P k].key = k := by
  unfold oHas at h
  by_cases hj : oIdx P k < P.length
  · rw [List.getElem?_eq_getElem hj] at h
    exact ⟨hj, by simpa using h⟩
  · rw [List.getElem?_eq_none (by omega)] at h
    cases h

theorem s_Find_2 [i : SelOb L ObjR b p C] (hl : p.1.length ≤ 1000000) (hK : G w0 L (K (.tuple #[i64 (oIdx p.1 k), .bool (oHas p.1 k)]))) : G w0 L (CP Tryz.prog Fn.keep_Objects_Find [ptr b 0, i64 2, u64 k] K) := by
  refine i.ro (fun M hK => ?_) hK
  refine C_keep_Objects_Find ?_
  unfold S_keep_Objects_Find
  try simp (maxSteps := 2000000) only [fuse_and, fuse_or, fuse_step, fuse_pair, fuse_in, andP_true]
  rw [ObjR_open] at hK ⊢
  intro v2 v3 hv
  have hK := hK v2 v3 hv
  obtain ⟨P2, P3⟩ := p
  simp only at hl hK ⊢
  have hv2 := hv.1
  have hv3 := hv.2
  have ha : ∀ {L : List Asn} {K : KV}, G w0 L (idxArrW 8 1 (ptr b 0) (i64 2) K) = G w0 L (K (ptr b 2)) := G_aidx (k := 2) rfl (by decide)
  refine G.loop1 (σ := Nat) (fun j => i64 j) (fun _ => own b [.slice none 0 0, .slice none 0 0, v2, v3, .slice none 0 0, .slice none 0 0, .slice none 0 0, .slice none 0 0] :: sl tPairE v2 P2 :: sl tPairE v3 P3 :: M) (fun j => j ≤ P2.length ∧ oIdx P2 k = oIdx (P2.drop j) k + j) (fun j => P2.length - j) 0 rfl rfl ⟨Nat.zero_le _, rfl⟩ ?_
  rintro j ⟨hj, hi⟩ J hJ
  by_cases h1 : j < P2.length
  · have e := elem_of h1
    have h2 : decide ((j : Int) < (P2.length : Int)) = true := decide_eq_true (by omega)
    rw [oIdx_drop h1] at hi
    by_cases h3 : P2[j].key < k
    · rw [if_pos h3] at hi
      try simp (maxSteps := 2000000) only [↓RG, RP, RB, BEq.rfl, Int.reduceEq, Int.reduceLT, Int.reduceLE, Nat.reduceEqDiff, ha, h2, h3]
      rw [wsucc (by omega)]
      exact hJ (j + 1) ⟨by omega, by omega⟩ (by omega)
    · rw [if_neg h3, Nat.zero_add] at hi
      rw [hi, oHas_at h1 hi] at hK
      try simp (maxSteps := 2000000) only [↓RG, RP, RB, BEq.rfl, Int.reduceEq, Int.reduceLT, Int.reduceLE, Nat.reduceEqDiff, ha, h2, h3]
      refine G.drew ?_
      try simp (maxSteps := 2000000) only [↓RG, RP, RB, BEq.rfl, Int.reduceEq, Int.reduceLT, Int.reduceLE, Nat.reduceEqDiff, ha, h2, h3]
      exact hK
  · have hj2 : j = P2.length := by omega
    have h2 : decide ((j : Int) < (P2.length : Int)) = false := decide_eq_false (by omega)
    have hi2 : oIdx P2 k = P2.length := by
      rw [hi, hj2, List.drop_eq_nil_of_le (Nat.le_refl _)]
      show 0 + _ = _
      omega
    rw [oHas_end hi2, hi2, ← hj2] at hK
    try simp (maxSteps := 2000000) only [↓RG, RP, RB, BEq.rfl, Int.reduceEq, Int.reduceLT, Int.reduceLE, Nat.reduceEqDiff, ha, h2]
    refine G.drew ?_
    try simp (maxSteps := 2000000) only [↓RG, RP, RB, BEq.rfl, Int.reduceEq, Int.reduceLT, Int.reduceLE, Nat.reduceEqDiff, ha, h2]
    exact hK

theorem s_Put_2 [i : SelOb L ObjR b p C] (hl : p.1.length ≤ 1000000) (hK : G w0 (C (ob ObjR b ((oPut p.1 k x).1, p.2))) (K (.bool (oPut p.1 k x).2))) : G w0 L (CP Tryz.prog Fn.keep_Objects_Put [ptr b 0, i64 2, u64 k, u64 x] K) := by
  refine i.use (fun M hK => ?_) hK
  refine C_keep_Objects_Put ?_
  unfold S_keep_Objects_Put
  try simp (maxSteps := 2000000) only [fuse_and, fuse_or, fuse_step, fuse_pair, fuse_in, andP_true]
  refine s_Find_2 (p := p) hl ?_
  obtain ⟨P2, P3⟩ := p
  simp only at hl hK ⊢
  have ha : ∀ {L : List Asn} {K : KV}, G w0 L (idxArrW 8 1 (ptr b 0) (i64 2) K) = G w0 L (K (ptr b 2)) := G_aidx (k := 2) rfl (by decide)
  unfold oPut at hK
  by_cases h : oHas P2 k = true
  · obtain ⟨hj, ek⟩ := oHas_lt h
    have e := elem_of hj
    rw [if_pos h] at hK
    rw [h]
    generalize hi : oIdx P2 k = j at hj hK e ek
    rw [ObjR_open]
    intro v2 v3 hv
    have hv2 := hv.1
    have hv3 := hv.2
    try simp (maxSteps := 2000000) only [↓RG, RP, RB, BEq.rfl, Int.reduceEq, Int.reduceLT, Int.reduceLE, Nat.reduceEqDiff, ha]
    rw [ek]
    exact ObjR_close (v2 := v2) (v3 := v3) b (P2.set j ⟨k, x⟩, P3) rfl hv hK
  · have h2 : oHas P2 k = false := by simpa using h
    rw [if_neg h] at hK
    rw [h2]
    have hj := oIdx_le (L := P2) (k := k)
    generalize hi : oIdx P2 k = j at hj hK
    rw [ObjR_open]
    intro v2 v3 hv
    have hv2 := hv.1
    have hv3 := hv.2
    try simp (maxSteps := 2000000) only [↓RG, RP, RB, BEq.rfl, Int.reduceEq, Int.reduceLT, Int.reduceLE, Nat.reduceEqDiff, ha]
    refine G.part (v := v2) (m := 0) (n := j) rfl rfl rfl (Nat.zero_le _) hj fun y hy hr => ?_
    try simp (maxSteps := 2000000) only [↓RG, RP, RB, BEq.rfl, Int.reduceEq, Int.reduceLT, Int.reduceLE, Nat.reduceEqDiff, ha]
    refine G.nilsl tPairE ?_
    refine G.append (by simp; omega) (by simp [maxLen]; omega) fun u hu => ?_
    try simp (maxSteps := 2000000) only [↓RG, RP, RB, BEq.rfl, Int.reduceEq, Int.reduceLT, Int.reduceLE, Nat.reduceEqDiff, ha]
    refine G.append1 (E := tPairE) (a := ⟨k, x⟩) rfl rfl (by decide) (by simp; omega) (by simp [maxLen]; omega) fun u2 hu2 => ?_
    refine G.drew ?_
    try simp (maxSteps := 2000000) only [↓RG, RP, RB, BEq.rfl, Int.reduceEq, Int.reduceLT, Int.reduceLE, Nat.reduceEqDiff, ha]
    refine G.part (v := v2) (m := j) (n := P2.length) rfl rfl rfl hj (Nat.le_refl _) fun y2 hy2 hr2 => ?_
    try simp (maxSteps := 2000000) only [↓RG, RP, RB, BEq.rfl, Int.reduceEq, Int.reduceLT, Int.reduceLE, Nat.reduceEqDiff, ha]
    refine G.append (v := u2) (x := y2) (by simp; omega) (by simp [maxLen]; omega) fun u3 hu3 => ?_
    try simp (maxSteps := 2000000) only [↓RG, RP, RB, BEq.rfl, Int.reduceEq, Int.reduceLT, Int.reduceLE, Nat.reduceEqDiff, ha]
    refine ObjR_close (v2 := u3) (v3 := v3) b ([] ++ (P2.take j).drop 0 ++ [⟨k, x⟩] ++ (P2.take P2.length).drop j, P3) rfl ⟨hu3, hv.2⟩ ?_
    have eL : [] ++ (P2.take j).drop 0 ++ [⟨k, x⟩] ++ (P2.take P2.length).drop j = P2.take j ++ ⟨k, x⟩ :: P2.drop j := by simp
    simp only [eL]
    exact hK.sub

theorem s_Del_2 [i : SelOb L ObjR b p C] (hl : p.1.length ≤ 1000000) (hK : G w0 (C (ob ObjR b ((oDel p.1 k).1, p.2))) (K (.bool (oDel p.1 k).2))) : G w0 L (CP Tryz.prog Fn.keep_Objects_Del [ptr b 0, i64 2, u64 k] K) := by
  refine i.use (fun M hK => ?_) hK
  refine C_keep_Objects_Del ?_
  unfold S_keep_Objects_Del
  try simp (maxSteps := 2000000) only [fuse_and, fuse_or, fuse_step, fuse_pair, fuse_in, andP_true]
  refine s_Find_2 (p := p) hl ?_
  obtain ⟨P2, P3⟩ := p
  simp only at hl hK ⊢
  have ha : ∀ {L : List Asn} {K : KV}, G w0 L (idxArrW 8 1 (ptr b 0) (i64 2) K) = G w0 L (K (ptr b 2)) := G_aidx (k := 2) rfl (by decide)
  unfold oDel at hK
  by_cases h : oHas P2 k = true
  · obtain ⟨hj, ek⟩ := oHas_lt h
    rw [if_pos h] at hK
    rw [h]
    generalize hi : oIdx P2 k = j at hj hK ek
    rw [ObjR_open]
    intro v2 v3 hv
    have hv2 := hv.1
    have hv3 := hv.2
    try simp (maxSteps := 2000000) only [↓RG, RP, RB, BEq.rfl, Int.reduceEq, Int.reduceLT, Int.reduceLE, Nat.reduceEqDiff, ha]
    refine G.part (v := v2) (m := 0) (n := j) rfl rfl rfl (Nat.zero_le _) (by omega) fun y hy hr => ?_
    try simp (maxSteps := 2000000) only [↓RG, RP, RB, BEq.rfl, Int.reduceEq, Int.reduceLT, Int.reduceLE, Nat.reduceEqDiff, ha]
    refine G.nilsl tPairE ?_
    refine G.append (by simp; omega) (by simp [maxLen]; omega) fun u hu => ?_
    refine G.drew ?_
    try simp (maxSteps := 2000000) only [↓RG, RP, RB, BEq.rfl, Int.reduceEq, Int.reduceLT, Int.reduceLE, Nat.reduceEqDiff, ha]
    rw [wsucc (by omega)]
    refine G.part (v := v2) (m := j + 1) (n := P2.length) rfl rfl rfl (by omega) (Nat.le_refl _) fun y2 hy2 hr2 => ?_
    try simp (maxSteps := 2000000) only [↓RG, RP, RB, BEq.rfl, Int.reduceEq, Int.reduceLT, Int.reduceLE, Nat.reduceEqDiff, ha]
    refine G.append (v := u) (x := y2) (by simp; omega) (by simp [maxLen]; omega) fun u3 hu3 => ?_
    try simp (maxSteps := 2000000) only [↓RG, RP, RB, BEq.rfl, Int.reduceEq, Int.reduceLT, Int.reduceLE, Nat.reduceEqDiff, ha]
    refine ObjR_close (v2 := u3) (v3 := v3) b ([] ++ (P2.take j).drop 0 ++ (P2.take P2.length).drop (j + 1), P3) rfl ⟨hu3, hv.2⟩ ?_
    have eL : [] ++ (P2.take j).drop 0 ++ (P2.take P2.length).drop (j + 1) = P2.take j ++ P2.drop (j + 1) := by simp
    simp only [eL]
    exact hK.sub
  · have h2 : oHas P2 k = false := by simpa using h
    rw [if_neg h] at hK
    rw [h2]
    try simp (maxSteps := 2000000) only [↓RG, RP, RB, BEq.rfl, Int.reduceEq, Int.reduceLT, Int.reduceLE, Nat.reduceEqDiff]
    exact hK

/-- a call of this chapter's, on plain rows -/
theorem s_Do_2 {c : TCall} {v : Value} [i : SelOb L ObjR b p C] [iv : Cells v (TCall.cells c)] (hp : cPlace c = 2) (hw : cWhich c = 4 ∨ cWhich c = 5 ∨ cWhich c = 6) (hl : p.1.length ≤ 1000000)
    (hK : G w0 (C (ob ObjR b ((doC p.1 c).2, p.2))) (K (.tuple #[.agg (TItem.cells (doC p.1 c).1).toArray, .bool true]))) : G w0 L (CP Tryz.prog Fn.keep_Objects_Do [ptr b 0, v] K) := by
  refine i.use (fun M hK => ?_) hK
  refine C_keep_Objects_Do ?_
  unfold S_keep_Objects_Do
  try simp (maxSteps := 2000000) only [fuse_and, fuse_or, fuse_step, fuse_pair, fuse_in, andP_true]
  refine G.box fun x1 => ?_
  refine G.new fun x2 => ?_
  refine G.drew ?_
  try simp (maxSteps := 2000000) only [↓RG, RP, RB, BEq.rfl, Int.reduceEq, Int.reduceLT, Int.reduceLE, Nat.reduceEqDiff]
  refine s_keep_Call_Place (v := .agg (TCall.cells c).toArray) (c := c) ?_
  try simp (maxSteps := 2000000) only [↓RG, RP, RB, BEq.rfl, Int.reduceEq, Int.reduceLT, Int.reduceLE, Nat.reduceEqDiff]
  refine s_keep_Call_Key ?_
  try simp (maxSteps := 2000000) only [↓RG, RP, RB, BEq.rfl, Int.reduceEq, Int.reduceLT, Int.reduceLE, Nat.reduceEqDiff]
  refine s_keep_Call_Val ?_
  try simp (maxSteps := 2000000) only [↓RG, RP, RB, BEq.rfl, Int.reduceEq, Int.reduceLT, Int.reduceLE, Nat.reduceEqDiff]
  refine s_keep_Call_Which ?_
  rw [hp]
  unfold doC at hK
  rcases hw with h | h | h
  · rw [h] at hK ⊢
    rw [if_pos rfl] at hK
    try simp (maxSteps := 2000000) only [↓RG, RP, RB, BEq.rfl, Int.reduceEq, Int.reduceLT, Int.reduceLE, Nat.reduceEqDiff]
    refine G.joini1 ?_
    refine G.joini1 ?_
    try simp (maxSteps := 2000000) only [↓RG, RP, RB, BEq.rfl, Int.reduceEq, Int.reduceLT, Int.reduceLE, Nat.reduceEqDiff]
    refine s_Put_2 (p := p) hl ?_
    unfold itemT at hK
    cases ht : (oPut p.1 (cKey c) (cVal c)).2
    · rw [ht] at hK
      try simp (maxSteps := 2000000) only [↓RG, RP, RB, BEq.rfl, Int.reduceEq, Int.reduceLT, Int.reduceLE, Nat.reduceEqDiff]
      exact hK.sub
    · rw [ht] at hK
      try simp (maxSteps := 2000000) only [↓RG, RP, RB, BEq.rfl, Int.reduceEq, Int.reduceLT, Int.reduceLE, Nat.reduceEqDiff]
      exact hK.sub
  · rw [h] at hK ⊢
    rw [if_neg (by decide), if_pos rfl] at hK
    repeat' (first | (with_reducible refine G.joini0 ?_) | (with_reducible refine G.joini1 ?_) | (with_reducible refine G.drew ?_) | (simp (maxSteps := 2000000) only [↓RG, RP, RB, BEq.rfl, Int.reduceEq, Int.reduceLT, Int.reduceLE, Nat.reduceEqDiff]))
    refine s_Find_2 (p := p) hl ?_
    obtain ⟨P2, P3⟩ := p
    simp only at hl hK ⊢
    have ha : ∀ {L : List Asn} {K : KV}, G w0 L (idxArrW 8 1 (ptr b 0) (i64 2) K) = G w0 L (K (ptr b 2)) := G_aidx (k := 2) rfl (by decide)
    cases ht : oHas P2 (cKey c)
    · rw [ht] at hK
      try simp (maxSteps := 2000000) only [↓RG, RP, RB, BEq.rfl, Int.reduceEq, Int.reduceLT, Int.reduceLE, Nat.reduceEqDiff]
      exact hK.sub
    · rw [ht, if_pos rfl] at hK
      obtain ⟨hj, ek⟩ := oHas_lt ht
      have e := elem_of hj
      have ev : oVal P2 (cKey c) = P2[oIdx P2 (cKey c)].val := by unfold oVal; rw [List.getD_eq_getElem?_getD, List.getElem?_eq_getElem hj]; rfl
      rw [ev] at hK
      generalize hi : oIdx P2 (cKey c) = j at hj hK e ek
      refine G.pickAll (As := [ob ObjR b (P2, P3)]) ?_
      show G w0 (ob ObjR b (P2, P3) :: own x2 [i64 0, u64 0] :: own x1 (TCall.cells c) :: M) _
      rw [ObjR_open]
      intro v2 v3 hv
      have hv2 := hv.1
      have hv3 := hv.2
      try simp (maxSteps := 2000000) only [↓RG, RP, RB, BEq.rfl, Int.reduceEq, Int.reduceLT, Int.reduceLE, Nat.reduceEqDiff, ha]
      refine ObjR_close (v2 := v2) (v3 := v3) b (P2, P3) rfl hv ?_
      exact hK.sub
  · rw [h] at hK ⊢
    rw [if_neg (by decide), if_neg (by decide)] at hK
    repeat' (first | (with_reducible refine G.joini0 ?_) | (with_reducible refine G.joini1 ?_) | (with_reducible refine G.drew ?_) | (simp (maxSteps := 2000000) only [↓RG, RP, RB, BEq.rfl, Int.reduceEq, Int.reduceLT, Int.reduceLE, Nat.reduceEqDiff]))
    refine s_Del_2 (p := p) hl ?_
    unfold itemT at hK
    cases ht : (oDel p.1 (cKey c)).2
    · rw [ht] at hK
      try simp (maxSteps := 2000000) only [↓RG, RP, RB, BEq.rfl, Int.reduceEq, Int.reduceLT, Int.reduceLE, Nat.reduceEqDiff]
      exact hK.sub
    · rw [ht] at hK
      try simp (maxSteps := 2000000) only [↓RG, RP, RB, BEq.rfl, Int.reduceEq, Int.reduceLT, Int.reduceLE, Nat.reduceEqDiff]
      exact hK.sub

theorem s_Find_3 [i : SelOb L ObjR b p C] (hl : p.2.length ≤ 1000000) (hK : G w0 L (K (.tuple #[i64 (oIdx p.2 k), .bool (oHas p.2 k)]))) : G w0 L (CP Tryz.prog Fn.keep_Objects_Find [ptr b 0, i64 3, u64 k] K) := by
  refine i.ro (fun M hK => ?_) hK
  refine C_keep_Objects_Find ?_
  unfold S_keep_Objects_Find
  try simp (maxSteps := 2000000) only [fuse_and, fuse_or, fuse_step, fuse_pair, fuse_in, andP_true]
  rw [ObjR_open] at hK ⊢
  intro v2 v3 hv
  have hK := hK v2 v3 hv
  obtain ⟨P2, P3⟩ := p
  simp only at hl hK ⊢
  have hv2 := hv.1
  have hv3 := hv.2
  have ha : ∀ {L : List Asn} {K : KV}, G w0 L (idxArrW 8 1 (ptr b 0) (i64 3) K) = G w0 L (K (ptr b 3)) := G_aidx (k := 3) rfl (by decide)
  refine G.loop1 (σ := Nat) (fun j => i64 j) (fun _ => own b [.slice none 0 0, .slice none 0 0, v2, v3, .slice none 0 0, .slice none 0 0, .slice none 0 0, .slice none 0 0] :: sl tPairE v2 P2 :: sl tPairE v3 P3 :: M) (fun j => j ≤ P3.length ∧ oIdx P3 k = oIdx (P3.drop j) k + j) (fun j => P3.length - j) 0 rfl rfl ⟨Nat.zero_le _, rfl⟩ ?_
  rintro j ⟨hj, hi⟩ J hJ
  by_cases h1 : j < P3.length
  · have e := elem_of h1
    have h2 : decide ((j : Int) < (P3.length : Int)) = true := decide_eq_true (by omega)
    rw [oIdx_drop h1] at hi
    by_cases h3 : P3[j].key < k
    · rw [if_pos h3] at hi
      try simp (maxSteps := 2000000) only [↓RG, RP, RB, BEq.rfl, Int.reduceEq, Int.reduceLT, Int.reduceLE, Nat.reduceEqDiff, ha, h2, h3]
      rw [wsucc (by omega)]
      exact hJ (j + 1) ⟨by omega, by omega⟩ (by omega)
    · rw [if_neg h3, Nat.zero_add] at hi
      rw [hi, oHas_at h1 hi] at hK
      try simp (maxSteps := 2000000) only [↓RG, RP, RB, BEq.rfl, Int.reduceEq, Int.reduceLT, Int.reduceLE, Nat.reduceEqDiff, ha, h2, h3]
      refine G.drew ?_
      try simp (maxSteps := 2000000) only [↓RG, RP, RB, BEq.rfl, Int.reduceEq, Int.reduceLT, Int.reduceLE, Nat.reduceEqDiff, ha, h2, h3]
      exact hK
  · have hj2 : j = P3.length := by omega
    have h2 : decide ((j : Int) < (P3.length : Int)) = false := decide_eq_false (by omega)
    have hi2 : oIdx P3 k = P3.length := by
      rw [hi, hj2, List.drop_eq_nil_of_le (Nat.le_refl _)]
      show 0 + _ = _
      omega
    rw [oHas_end hi2, hi2, ← hj2] at hK
    try simp (maxSteps := 2000000) only [↓RG, RP, RB, BEq.rfl, Int.reduceEq, Int.reduceLT, Int.reduceLE, Nat.reduceEqDiff, ha, h2]
    refine G.drew ?_
    try simp (maxSteps := 2000000) only [↓RG, RP, RB, BEq.rfl, Int.reduceEq, Int.reduceLT, Int.reduceLE, Nat.reduceEqDiff, ha, h2]
    exact hK

theorem s_Put_3 [i : SelOb L ObjR b p C] (hl : p.2.length ≤ 1000000) (hK : G w0 (C (ob ObjR b (p.1, (oPut p.2 k x).1))) (K (.bool (oPut p.2 k x).2))) : G w0 L (CP Tryz.prog Fn.keep_Objects_Put [ptr b 0, i64 3, u64 k, u64 x] K) := by
  refine i.use (fun M hK => ?_) hK
  refine C_keep_Objects_Put ?_
  unfold S_keep_Objects_Put
  try simp (maxSteps := 2000000) only [fuse_and, fuse_or, fuse_step, fuse_pair, fuse_in, andP_true]
  refine s_Find_3 (p := p) hl ?_
  obtain ⟨P2, P3⟩ := p
  simp only at hl hK ⊢
  have ha : ∀ {L : List Asn} {K : KV}, G w0 L (idxArrW 8 1 (ptr b 0) (i64 3) K) = G w0 L (K (ptr b 3)) := G_aidx (k := 3) rfl (by decide)
  unfold oPut at hK
  by_cases h : oHas P3 k = true
  · obtain ⟨hj, ek⟩ := oHas_lt h
    have e := elem_of hj
    rw [if_pos h] at hK
    rw [h]
    generalize hi : oIdx P3 k = j at hj hK e ek
    rw [ObjR_open]
    intro v2 v3 hv
    have hv2 := hv.1
    have hv3 := hv.2
    try simp (maxSteps := 2000000) only [↓RG, RP, RB, BEq.rfl, Int.reduceEq, Int.reduceLT, Int.reduceLE, Nat.reduceEqDiff, ha]
    rw [ek]
    exact ObjR_close (v2 := v2) (v3 := v3) b (P2, P3.set j ⟨k, x⟩) rfl hv hK
  · have h2 : oHas P3 k = false := by simpa using h
    rw [if_neg h] at hK
    rw [h2]
    have hj := oIdx_le (L := P3) (k := k)
    generalize hi : oIdx P3 k = j at hj hK
    rw [ObjR_open]
    intro v2 v3 hv
    have hv2 := hv.1
    have hv3 := hv.2
    try simp (maxSteps := 2000000) only [↓RG, RP, RB, BEq.rfl, Int.reduceEq, Int.reduceLT, Int.reduceLE, Nat.reduceEqDiff, ha]
    refine G.part (v := v3) (m := 0) (n := j) rfl rfl rfl (Nat.zero_le _) hj fun y hy hr => ?_
    try simp (maxSteps := 2000000) only [↓RG, RP, RB, BEq.rfl, Int.reduceEq, Int.reduceLT, Int.reduceLE, Nat.reduceEqDiff, ha]
    refine G.nilsl tPairE ?_
    refine G.append (by simp; omega) (by simp [maxLen]; omega) fun u hu => ?_
    try simp (maxSteps := 2000000) only [↓RG, RP, RB, BEq.rfl, Int.reduceEq, Int.reduceLT, Int.reduceLE, Nat.reduceEqDiff, ha]
    refine G.append1 (E := tPairE) (a := ⟨k, x⟩) rfl rfl (by decide) (by simp; omega) (by simp [maxLen]; omega) fun u2 hu2 => ?_
    refine G.drew ?_
    try simp (maxSteps := 2000000) only [↓RG, RP, RB, BEq.rfl, Int.reduceEq, Int.reduceLT, Int.reduceLE, Nat.reduceEqDiff, ha]
    refine G.part (v := v3) (m := j) (n := P3.length) rfl rfl rfl hj (Nat.le_refl _) fun y2 hy2 hr2 => ?_
    try simp (maxSteps := 2000000) only [↓RG, RP, RB, BEq.rfl, Int.reduceEq, Int.reduceLT, Int.reduceLE, Nat.reduceEqDiff, ha]
    refine G.append (v := u2) (x := y2) (by simp; omega) (by simp [maxLen]; omega) fun u3 hu3 => ?_
    try simp (maxSteps := 2000000) only [↓RG, RP, RB, BEq.rfl, Int.reduceEq, Int.reduceLT, Int.reduceLE, Nat.reduceEqDiff, ha]
    refine ObjR_close (v2 := v2) (v3 := u3) b (P2, [] ++ (P3.take j).drop 0 ++ [⟨k, x⟩] ++ (P3.take P3.length).drop j) rfl ⟨hv.1, hu3⟩ ?_
    have eL : [] ++ (P3.take j).drop 0 ++ [⟨k, x⟩] ++ (P3.take P3.length).drop j = P3.take j ++ ⟨k, x⟩ :: P3.drop j := by simp
    simp only [eL]
    exact hK.sub

theorem s_Del_3 [i : SelOb L ObjR b p C] (hl : p.2.length ≤ 1000000) (hK : G w0 (C (ob ObjR b (p.1, (oDel p.2 k).1))) (K (.bool (oDel p.2 k).2))) : G w0 L (CP Tryz.prog Fn.keep_Objects_Del [ptr b 0, i64 3, u64 k] K) := by
  refine i.use (fun M hK => ?_) hK
  refine C_keep_Objects_Del ?_
  unfold S_keep_Objects_Del
  try simp (maxSteps := 2000000) only [fuse_and, fuse_or, fuse_step, fuse_pair, fuse_in, andP_true]
  refine s_Find_3 (p := p) hl ?_
  obtain ⟨P2, P3⟩ := p
  simp only at hl hK ⊢
  have ha : ∀ {L : List Asn} {K : KV}, G w0 L (idxArrW 8 1 (ptr b 0) (i64 3) K) = G w0 L (K (ptr b 3)) := G_aidx (k := 3) rfl (by decide)
  unfold oDel at hK
  by_cases h : oHas P3 k = true
  · obtain ⟨hj, ek⟩ := oHas_lt h
    rw [if_pos h] at hK
    rw [h]
    generalize hi : oIdx P3 k = j at hj hK ek
    rw [ObjR_open]
    intro v2 v3 hv
    have hv2 := hv.1
    have hv3 := hv.2
    try simp (maxSteps := 2000000) only [↓RG, RP, RB, BEq.rfl, Int.reduceEq, Int.reduceLT, Int.reduceLE, Nat.reduceEqDiff, ha]
    refine G.part (v := v3) (m := 0) (n := j) rfl rfl rfl (Nat.zero_le _) (by omega) fun y hy hr => ?_
    try simp (maxSteps := 2000000) only [↓RG, RP, RB, BEq.rfl, Int.reduceEq, Int.reduceLT, Int.reduceLE, Nat.reduceEqDiff, ha]
    refine G.nilsl tPairE ?_
    refine G.append (by simp; omega) (by simp [maxLen]; omega) fun u hu => ?_
    refine G.drew ?_
    try simp (maxSteps := 2000000) only [↓RG, RP, RB, BEq.rfl, Int.reduceEq, Int.reduceLT, Int.reduceLE, Nat.reduceEqDiff, ha]
    rw [wsucc (by omega)]
    refine G.part (v := v3) (m := j + 1) (n := P3.length) rfl rfl rfl (by omega) (Nat.le_refl _) fun y2 hy2 hr2 => ?_
    try simp (maxSteps := 2000000) only [↓RG, RP, RB, BEq.rfl, Int.reduceEq, Int.reduceLT, Int.reduceLE, Nat.reduceEqDiff, ha]
    refine G.append (v := u) (x := y2) (by simp; omega) (by simp [maxLen]; omega) fun u3 hu3 => ?_
    try simp (maxSteps := 2000000) only [↓RG, RP, RB, BEq.rfl, Int.reduceEq, Int.reduceLT, Int.reduceLE, Nat.reduceEqDiff, ha]
    refine ObjR_close (v2 := v2) (v3 := u3) b (P2, [] ++ (P3.take j).drop 0 ++ (P3.take P3.length).drop (j + 1)) rfl ⟨hv.1, hu3⟩ ?_
    have eL : [] ++ (P3.take j).drop 0 ++ (P3.take P3.length).drop (j + 1) = P3.take j ++ P3.drop (j + 1) := by simp
    simp only [eL]
    exact hK.sub
  · have h2 : oHas P3 k = false := by simpa using h
    rw [if_neg h] at hK
    rw [h2]
    try simp (maxSteps := 2000000) only [↓RG, RP, RB, BEq.rfl, Int.reduceEq, Int.reduceLT, Int.reduceLE, Nat.reduceEqDiff]
    exact hK

/-- a call of this chapter's, on plain rows -/
theorem s_Do_3 {c : TCall} {v : Value} [i : SelOb L ObjR b p C] [iv : Cells v (TCall.cells c)] (hp : cPlace c = 3) (hw : cWhich c = 4 ∨ cWhich c = 5 ∨ cWhich c = 6) (hl : p.2.length ≤ 1000000)
    (hK : G w0 (C (ob ObjR b (p.1, (doC p.2 c).2))) (K (.tuple #[.agg (TItem.cells (doC p.2 c).1).toArray, .bool true]))) : G w0 L (CP Tryz.prog Fn.keep_Objects_Do [ptr b 0, v] K) := by
  refine i.use (fun M hK => ?_) hK
  refine C_keep_Objects_Do ?_
  unfold S_keep_Objects_Do
  try simp (maxSteps := 2000000) only [fuse_and, fuse_or, fuse_step, fuse_pair, fuse_in, andP_true]
  refine G.box fun x1 => ?_
  refine G.new fun x2 => ?_
  refine G.drew ?_
  try simp (maxSteps := 2000000) only [↓RG, RP, RB, BEq.rfl, Int.reduceEq, Int.reduceLT, Int.reduceLE, Nat.reduceEqDiff]
  refine s_keep_Call_Place (v := .agg (TCall.cells c).toArray) (c := c) ?_
  try simp (maxSteps := 2000000) only [↓RG, RP, RB, BEq.rfl, Int.reduceEq, Int.reduceLT, Int.reduceLE, Nat.reduceEqDiff]
  refine s_keep_Call_Key ?_
  try simp (maxSteps := 2000000) only [↓RG, RP, RB, BEq.rfl, Int.reduceEq, Int.reduceLT, Int.reduceLE, Nat.reduceEqDiff]
  refine s_keep_Call_Val ?_
  try simp (maxSteps := 2000000) only [↓RG, RP, RB, BEq.rfl, Int.reduceEq, Int.reduceLT, Int.reduceLE, Nat.reduceEqDiff]
  refine s_keep_Call_Which ?_
  rw [hp]
  unfold doC at hK
  rcases hw with h | h | h
  · rw [h] at hK ⊢
    rw [if_pos rfl] at hK
    try simp (maxSteps := 2000000) only [↓RG, RP, RB, BEq.rfl, Int.reduceEq, Int.reduceLT, Int.reduceLE, Nat.reduceEqDiff]
    refine G.joini1 ?_
    refine G.joini1 ?_
    try simp (maxSteps := 2000000) only [↓RG, RP, RB, BEq.rfl, Int.reduceEq, Int.reduceLT, Int.reduceLE, Nat.reduceEqDiff]
    refine s_Put_3 (p := p) hl ?_
    unfold itemT at hK
    cases ht : (oPut p.2 (cKey c) (cVal c)).2
    · rw [ht] at hK
      try simp (maxSteps := 2000000) only [↓RG, RP, RB, BEq.rfl, Int.reduceEq, Int.reduceLT, Int.reduceLE, Nat.reduceEqDiff]
      exact hK.sub
    · rw [ht] at hK
      try simp (maxSteps := 2000000) only [↓RG, RP, RB, BEq.rfl, Int.reduceEq, Int.reduceLT, Int.reduceLE, Nat.reduceEqDiff]
      exact hK.sub
  · rw [h] at hK ⊢
    rw [if_neg (by decide), if_pos rfl] at hK
    repeat' (first | (with_reducible refine G.joini0 ?_) | (with_reducible refine G.joini1 ?_) | (with_reducible refine G.drew ?_) | (simp (maxSteps := 2000000) only [↓RG, RP, RB, BEq.rfl, Int.reduceEq, Int.reduceLT, Int.reduceLE, Nat.reduceEqDiff]))
    refine s_Find_3 (p := p) hl ?_
    obtain ⟨P2, P3⟩ := p
    simp only at hl hK ⊢
    have ha : ∀ {L : List Asn} {K : KV}, G w0 L (idxArrW 8 1 (ptr b 0) (i64 3) K) = G w0 L (K (ptr b 3)) := G_aidx (k := 3) rfl (by decide)
    cases ht : oHas P3 (cKey c)
    · rw [ht] at hK
      try simp (maxSteps := 2000000) only [↓RG, RP, RB, BEq.rfl, Int.reduceEq, Int.reduceLT, Int.reduceLE, Nat.reduceEqDiff]
      exact hK.sub
    · rw [ht, if_pos rfl] at hK
      obtain ⟨hj, ek⟩ := oHas_lt ht
      have e := elem_of hj
      have ev : oVal P3 (cKey c) = P3[oIdx P3 (cKey c)].val := by unfold oVal; rw [List.getD_eq_getElem?_getD, List.getElem?_eq_getElem hj]; rfl
      rw [ev] at hK
      generalize hi : oIdx P3 (cKey c) = j at hj hK e ek
      refine G.pickAll (As := [ob ObjR b (P2, P3)]) ?_
      show G w0 (ob ObjR b (P2, P3) :: own x2 [i64 0, u64 0] :: own x1 (TCall.cells c) :: M) _
      rw [ObjR_open]
      intro v2 v3 hv
      have hv2 := hv.1
      have hv3 := hv.2
      try simp (maxSteps := 2000000) only [↓RG, RP, RB, BEq.rfl, Int.reduceEq, Int.reduceLT, Int.reduceLE, Nat.reduceEqDiff, ha]
      refine ObjR_close (v2 := v2) (v3 := v3) b (P2, P3) rfl hv ?_
      exact hK.sub
  · rw [h] at hK ⊢
    rw [if_neg (by decide), if_neg (by decide)] at hK
    repeat' (first | (with_reducible refine G.joini0 ?_) | (with_reducible refine G.joini1 ?_) | (with_reducible refine G.drew ?_) | (simp (maxSteps := 2000000) only [↓RG, RP, RB, BEq.rfl, Int.reduceEq, Int.reduceLT, Int.reduceLE, Nat.reduceEqDiff]))
    refine s_Del_3 (p := p) hl ?_
    unfold itemT at hK
    cases ht : (oDel p.2 (cKey c)).2
    · rw [ht] at hK
      try simp (maxSteps := 2000000) only [↓RG, RP, RB, BEq.rfl, Int.reduceEq, Int.reduceLT, Int.reduceLE, Nat.reduceEqDiff]
      exact hK.sub
    · rw [ht] at hK
      try simp (maxSteps := 2000000) only [↓RG, RP, RB, BEq.rfl, Int.reduceEq, Int.reduceLT, Int.reduceLE, Nat.reduceEqDiff]
      exact hK.sub
end

end Go.Proofs.YtokbiojkpldfeaaGreat.S
