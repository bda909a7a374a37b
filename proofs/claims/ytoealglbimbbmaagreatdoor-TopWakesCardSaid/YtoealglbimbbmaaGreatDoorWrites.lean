import Derived.Test.YtoealglbimbbmaaGreatDoorBook
namespace Go.Proofs.YtoealglbimbbmaaGreatDoor.S
open Go Go.Proofs
set_option linter.unusedVariables false
set_option linter.unusedSimpArgs false
def idxC : List TCell → Int → Option Nat
 | [], _ => none
 | c :: cs, a => if c.place = a then some 0 else (idxC cs a).map (· + 1)
def idxI (cs : List TCell) (a : Int) : Int := match idxC cs a with | some k => k | none => -1
def putC : List TCell → Int → Int → List TCell
 | [], a, x => [⟨a, x⟩]
 | c :: cs, a, x => if c.place = a then ⟨a, x⟩ :: cs else c :: putC cs a x
def lookC : List TCell → Int → Option Int
 | [], _ => none
 | c :: cs, a => if c.place = a then some c.word else lookC cs a
def putsC (cs l : List TCell) : List TCell := l.foldl (fun cs c => putC cs c.place c.word) cs
def okAt (a : Int) : Bool := decide (1 ≤ a) && decide (a < 256)
structure OkC (cs : List TCell) : Prop where
 places : ∀ c ∈ cs, okAt c.place = true
 nodup : (cs.map (·.place)).Nodup
theorem idxC_cons {c : TCell} {cs : List TCell} {a : Int} : idxC (c :: cs) a = if c.place = a then some 0 else (idxC cs a).map (· + 1) := rfl
theorem okAt_iff {a : Int} : okAt a = true ↔ 1 ≤ a ∧ a < 256 := by simp [okAt]
theorem idxC_none {a : Int} : ∀ {cs : List TCell}, idxC cs a = none → (∀ x, putC cs a x = cs ++ [⟨a, x⟩]) ∧ lookC cs a = none ∧ ∀ c ∈ cs, c.place ≠ a
 | [], _ => ⟨fun _ => rfl, rfl, by simp⟩
 | c :: cs, h => by
  unfold idxC at h
  split at h
  ·cases h
  ·rename_i hc
   obtain ⟨h1, h2, h3⟩ := idxC_none (cs := cs) (by simpa using h)
   refine ⟨fun x => by simp [putC, hc, h1], by simp [lookC, hc, h2], fun d hd => ?_⟩
   rcases List.mem_cons.1 hd with rfl | hd
   ·exact hc
   ·exact h3 d hd
theorem idxC_some {a : Int} : ∀ {cs : List TCell} {k : Nat}, idxC cs a = some k → ∃ h : k < cs.length, cs[k].place = a ∧ (∀ x, putC cs a x = cs.set k ⟨a, x⟩) ∧ lookC cs a = some cs[k].word
 | [], k, h => by cases h
 | c :: cs, k, h => by
  unfold idxC at h
  split at h
  ·rename_i hc
   cases h
   exact ⟨by simp, hc, fun x => by simp [putC, hc], by simp [lookC, hc]⟩
  ·rename_i hc
   cases hi : idxC cs a with
   | none => rw [hi] at h; cases h
   | some j =>
    rw [hi] at h
    cases h
    obtain ⟨h1, h2, h3, h4⟩ := idxC_some hi
    exact ⟨by simp; omega, by simpa using h2, fun x => by simp [putC, hc, h3], by simp [lookC, hc, h4]⟩
theorem idxC_isSome {cs : List TCell} {a : Int} : (idxC cs a).isSome = (lookC cs a).isSome := by
 cases h : idxC cs a with
 | none => rw [(idxC_none h).2.1]; rfl
 | some k => obtain ⟨_, _, _, h4⟩ := idxC_some h; rw [h4]; rfl
theorem putC_length {cs : List TCell} {a x : Int} : (putC cs a x).length = if (idxC cs a).isSome then cs.length else cs.length + 1 := by
 cases h : idxC cs a with
 | none => simp [(idxC_none h).1]
 | some k => obtain ⟨_, _, h3, _⟩ := idxC_some h; simp [h3]
theorem putC_le {cs : List TCell} {a x : Int} : cs.length ≤ (putC cs a x).length ∧ (putC cs a x).length ≤ cs.length + 1 := by
 rw [putC_length]; split <;> omega
theorem mem_putC {a x : Int} : ∀ {cs : List TCell} {c : TCell}, c ∈ putC cs a x → c ∈ cs ∨ c.place = a
 | [], c, h => by simp [putC] at h; subst h; exact .inr rfl
 | d :: cs, c, h => by
  unfold putC at h
  split at h
  ·rcases List.mem_cons.1 h with rfl | h
   ·exact .inr rfl
   ·exact .inl (List.mem_cons_of_mem _ h)
  ·rcases List.mem_cons.1 h with rfl | h
   ·exact .inl (by simp)
   ·rcases mem_putC h with h | h
    ·exact .inl (List.mem_cons_of_mem _ h)
    ·exact .inr h
theorem putC_places {a x : Int} : ∀ {cs : List TCell}, (putC cs a x).map (·.place) = if (idxC cs a).isSome then cs.map (·.place) else cs.map (·.place) ++ [a]
 | [] => by simp [putC, idxC]
 | c :: cs => by
  unfold putC idxC
  split
  ·rename_i h; simp [h]
  ·simp only [List.map_cons, putC_places (cs := cs), Option.isSome_map]
   split <;> simp
theorem OkC.nil : OkC [] := ⟨by simp, by simp⟩
theorem OkC.put {cs : List TCell} {a x : Int} (h : OkC cs) (ha : okAt a = true) : OkC (putC cs a x) := by
 refine ⟨fun c hc => ?_, ?_⟩
 ·rcases mem_putC hc with h1 | h1
  ·exact h.places c h1
  ·rw [h1]; exact ha
 ·rw [putC_places]
  cases hi : idxC cs a with
  | some k => simpa using h.nodup
  | none =>
   have h3 := (idxC_none hi).2.2
   simp only [Option.isSome_none, Bool.false_eq_true, if_false]
   rw [List.nodup_append]
   refine ⟨h.nodup, by simp, fun p hp q hq => ?_⟩
   simp only [List.mem_singleton] at hq
   obtain ⟨c, hc, rfl⟩ := List.mem_map.1 hp
   subst hq
   exact h3 c hc
theorem lookC_put {a x b : Int} : ∀ {cs : List TCell}, lookC (putC cs a x) b = if a = b then some x else lookC cs b
 | [] => by simp [putC, lookC]
 | c :: cs => by
  unfold putC
  by_cases hc : c.place = a
  ·simp only [hc, if_true, lookC]
   by_cases hb : a = b <;> simp [hb]
  ·simp only [hc, if_false, lookC, lookC_put (cs := cs)]
   by_cases hb : a = b
   ·subst hb; simp [hc]
   ·simp [hb]
theorem putsC_cons {cs l : List TCell} {c : TCell} : putsC cs (c :: l) = putsC (putC cs c.place c.word) l := rfl
theorem OkC.puts : ∀ {l cs : List TCell}, OkC cs → (∀ c ∈ l, okAt c.place = true) → OkC (putsC cs l)
 | [], cs, h, _ => h
 | c :: l, cs, h, hl => by rw [putsC_cons]; exact OkC.puts (h.put (hl c (by simp))) (fun d hd => hl d (by simp [hd]))
theorem putsC_new : ∀ {l cs : List TCell}, ((cs ++ l).map (·.place)).Nodup → putsC cs l = cs ++ l
 | [], cs, _ => by simp [putsC]
 | c :: l, cs, h => by
  have hi : idxC cs c.place = none := by
   cases hi : idxC cs c.place with
   | none => rfl
   | some k =>
    obtain ⟨h1, h2, _⟩ := idxC_some hi
    rw [List.map_append, List.nodup_append] at h
    exact absurd h2 (h.2.2 _ (List.mem_map.2 ⟨cs[k], List.getElem_mem h1, rfl⟩) _ (by simp))
  rw [putsC_cons, (idxC_none hi).1, putsC_new (by simpa using h)]
  simp
theorem OkC.self {cs : List TCell} (h : OkC cs) : putsC [] cs = cs := by rw [putsC_new (by simpa using h.nodup)]; rfl
theorem putsC_le : ∀ {l cs : List TCell}, cs.length ≤ (putsC cs l).length ∧ (putsC cs l).length ≤ cs.length + l.length
 | [], cs => by simp [putsC]
 | c :: l, cs => by
  have h1 := putsC_le (l := l) (cs := putC cs c.place c.word)
  have h2 := putC_le (cs := cs) (a := c.place) (x := c.word)
  rw [putsC_cons]; simp only [List.length_cons]; omega
theorem idxC_drop {cs : List TCell} {a : Int} {k : Nat} (h : k < cs.length) (hp : idxC cs a = (idxC (cs.drop k) a).map (· + k)) :
  (cs[k].place = a → idxC cs a = some k) ∧ (cs[k].place ≠ a → idxC cs a = (idxC (cs.drop (k + 1)) a).map (· + (k + 1))) := by
 rw [List.drop_eq_getElem_cons h, idxC_cons] at hp
 refine ⟨fun e => by rw [hp, if_pos e]; simp, fun e => ?_⟩
 rw [hp, if_neg e, Option.map_map]
 congr 1
 funext n
 show n + 1 + k = n + (k + 1)
 omega
def wErr (most : Int) (cs : List TCell) (a : Int) : Int := if okAt a then (if (idxC cs a).isSome then 0 else if most ≤ cs.length then 5 else 0) else 2
def wPuts (most : Int) : List TCell → List TCell → List TCell × Int
 | cs, [] => (cs, 0)
 | cs, c :: l => if wErr most cs c.place = 0 then wPuts most (putC cs c.place c.word) l else (cs, wErr most cs c.place)
theorem wPuts_cons {most : Int} {cs l : List TCell} {c : TCell} : wPuts most cs (c :: l) = if wErr most cs c.place = 0 then wPuts most (putC cs c.place c.word) l else (cs, wErr most cs c.place) := rfl
def wTake (most : Int) (cs l : List TCell) : List TCell × Int := if (wPuts most cs l).2 = 0 then ((wPuts most cs l).1, 0) else (cs, (wPuts most cs l).2)
theorem wPuts_puts {most : Int} : ∀ {l cs : List TCell}, (wPuts most cs l).2 = 0 → (wPuts most cs l).1 = putsC cs l
 | [], cs, _ => rfl
 | c :: l, cs, h => by
  unfold wPuts at h ⊢
  split at h
  ·rename_i h0; rw [if_pos h0, putsC_cons]; exact wPuts_puts h
  ·rename_i h0; exact absurd h h0
theorem wPuts_room {most : Int} : ∀ {l cs : List TCell}, (∀ c ∈ l, okAt c.place = true) → (cs.length + l.length : Int) ≤ most → (wPuts most cs l).2 = 0
 | [], cs, _, _ => rfl
 | c :: l, cs, h, hl => by
  simp only [List.length_cons] at hl
  have h0 : wErr most cs c.place = 0 := by
   unfold wErr
   rw [if_pos (h c (by simp))]
   split
   ·rfl
   ·rw [if_neg (by omega)]
  unfold wPuts
  rw [if_pos h0]
  have := putC_le (cs := cs) (a := c.place) (x := c.word)
  exact wPuts_room (fun d hd => h d (by simp [hd])) (by omega)
theorem wTake_room {most : Int} {l cs : List TCell} (h : ∀ c ∈ l, okAt c.place = true) (hl : (cs.length + l.length : Int) ≤ most) : wTake most cs l = (putsC cs l, 0) := by
 have h0 := wPuts_room h hl
 unfold wTake
 rw [if_pos h0, wPuts_puts h0]
structure OkW (most : Int) (cs : List TCell) : Prop where
 lo : 0 ≤ most
 hi : most ≤ 96
 len : (cs.length : Int) ≤ most
 ok : OkC cs
theorem OkW.put {most : Int} {cs : List TCell} {a x : Int} (h : OkW most cs) (he : wErr most cs a = 0) : OkW most (putC cs a x) := by
 unfold wErr at he
 split at he
 ·rename_i ha
  refine ⟨h.lo, h.hi, ?_, h.ok.put ha⟩
  rw [putC_length]
  have := h.len
  split at he
  ·rename_i hs; rw [if_pos hs]; exact h.len
  ·rename_i hs
   rw [if_neg hs]
   split at he
   ·cases he
   ·omega
 ·cases he
theorem OkW.puts {most : Int} : ∀ {l cs : List TCell}, OkW most cs → OkW most (wPuts most cs l).1
 | [], cs, h => h
 | c :: l, cs, h => by
  unfold wPuts
  split
  ·rename_i h0; exact OkW.puts (h.put h0)
  ·exact h
theorem OkW.take {most : Int} {cs l : List TCell} (h : OkW most cs) : OkW most (wTake most cs l).1 := by
 unfold wTake
 split
 ·exact h.puts
 ·exact h
def WritesR (b : Nat) (s : Int × List TCell) : Asn := exA fun v => star (pureA (Cells v [v] ∧ OkW s.1 s.2)) (star (own b [i64 s.1, v]) (sl tCellE v s.2))
section
variable {w0 : Base} {L M : List Asn} {K : KV} {F : World → Prop} {C : Asn → List Asn} {b : Nat} {most a x : Int} {cs l : List TCell}
theorem WritesR_open {s : Int × List TCell} : G w0 (ob WritesR b s :: M) F = ∀ v, (Cells v [v] ∧ OkW s.1 s.2) → G w0 (own b [i64 s.1, v] :: sl tCellE v s.2 :: M) F := by
 rw [ob_eq, WritesR]
 simp only [G_ex, G_star, G_pure]
theorem G.okW [i : SelOb L WritesR b (most, cs) C] (h : OkW most cs → G w0 L F) : G w0 L F := by
 by_cases hw : OkW most cs
 ·exact h hw
 ·refine i.ro (F' := fun _ => True) (fun M _ => ?_) (fun _ _ => trivial)
  rw [WritesR_open]
  exact fun v hv => absurd hv.2 hw
theorem s_writes_New {n : Int} (hK : ∀ b, G w0 (ob WritesR b (held n 0 96, []) :: L) (K (ptr b 0))) : G w0 L (CP Tryz.prog Fn.writes_New [i64 n] K) := by
 refine C_writes_New ?_
 unfold S_writes_New
 refine gr ?_
 have hb := held_le (n := n) (show (0 : Int) ≤ 96 by omega)
 have e3 : (if (if (96 : Int) < n then (96 : Int) else n) > 0 then (if (96 : Int) < n then (96 : Int) else n) else 0) = held n 0 96 := by
  unfold held; split <;> split <;> split <;> (try split) <;> omega
 rw [e3]
 refine G.nilsl tCellE ?_
 refine G.box fun b => ?_
 have := hK b
 rw [WritesR_open] at this
 exact this _ ⟨cells_slice, hb.1, hb.2, by simpa using hb.1, .nil⟩
theorem s_writes_find_1 {c : TCell} {q : Nat} {C : Asn → List Asn} [i : SelOb L ownR q [i64 a] C] (hK : G w0 L (K (.bool (decide (c.place = a))))) : G w0 L (CP Tryz.prog Fn.writes_Writes_find_1 [.agg (TCell.cells c).toArray, ptr q 0] K) := by
 refine C_writes_Writes_find_1 ?_
 unfold S_writes_Writes_find_1
 refine G.box fun p => ?_
 refine gr ?_
 exact hK.sub
theorem s_IndexFunc {v : Value} {q : Nat} [r : Rd w0 L v tCellE 2 cs] [i : SelOb L ownR q [i64 a] C] (hl : cs.length ≤ 1000000) (hK : G w0 L (K (i64 (idxI cs a)))) :
  G w0 L (CP Tryz.prog Fn.slices_IndexFunc_api_Cell_api_Cell [v, .func (.func Fn.writes_Writes_find_1) #[] #[ptr q 0]] K) := by
 refine C_slices_IndexFunc_api_Cell_api_Cell ?_
 unfold S_slices_IndexFunc_api_Cell_api_Cell
 refine gr ?_
 refine G.loop1 (fun k : Nat => i64 k) (fun _ => L) (fun k => k ≤ cs.length ∧ idxC cs a = (idxC (cs.drop k) a).map (· + k)) (fun k => cs.length - k) 0 rfl rfl ⟨by omega, by simp⟩ ?_
 rintro k ⟨hk, hp⟩ J hJ
 refine gr ?_
 refine G.cond (fun h => ?_) (fun h => ?_)
 ·have hk2 : k < cs.length := by simpa using h
  have e := elem_of hk2
  obtain ⟨p1, p2⟩ := idxC_drop hk2 hp
  refine gr ?_
  refine s_writes_find_1 (c := cs[k]) (a := a) ?_
  refine G.cond (fun h => ?_) (fun h => ?_)
  ·unfold idxI at hK
   rw [p1 (by simpa using h)] at hK
   exact hK
  ·refine gr ?_
   rw [wsucc (by omega)]
   exact hJ (k + 1) ⟨hk2, p2 (by simpa using h)⟩ (by omega)
 ·have : cs.drop k = [] := List.drop_eq_nil_of_le (by simpa using h)
  rw [this] at hp
  unfold idxI at hK
  rw [hp] at hK
  exact hK
theorem s_writes_Writes_find [i : SelOb L WritesR b (most, cs) C] (hK : G w0 L (K (i64 (idxI cs a)))) : G w0 L (CP Tryz.prog Fn.writes_Writes_find [ptr b 0, i64 a] K) := by
 refine i.ro (fun M hK => ?_) hK
 refine C_writes_Writes_find ?_
 unfold S_writes_Writes_find
 rw [WritesR_open] at *
 rintro v ⟨hv, hw⟩
 have h1 : (cs.length : Int) ≤ most := hw.len
 have h2 : most ≤ 96 := hw.hi
 refine G.box fun q => ?_
 refine gr ?_
 refine s_IndexFunc (cs := cs) (by omega) ?_
 exact (hK v ⟨hv, hw⟩).sub
theorem idxI_some {k : Nat} (h : idxC cs a = some k) : idxI cs a = k := by unfold idxI; rw [h]
theorem idxI_none (h : idxC cs a = none) : idxI cs a = -1 := by unfold idxI; rw [h]
def lookV (cs : List TCell) (a : Int) : Value := match lookC cs a with | some x => .tuple #[u64 x, .bool true] | none => .tuple #[u64 0, .bool false]
theorem s_writes_Writes_Get [i : SelOb L WritesR b (most, cs) C] (hK : G w0 L (K (lookV cs a))) : G w0 L (CP Tryz.prog Fn.writes_Writes_Get [ptr b 0, i64 a] K) := by
 refine C_writes_Writes_Get ?_
 unfold S_writes_Writes_Get
 refine s_writes_Writes_find (cs := cs) (most := most) ?_
 cases hi : idxC cs a with
 | none =>
  have := (idxC_none hi).2.1
  simp only [lookV, this] at hK
  rw [idxI_none hi]
  refine gr ?_
  exact hK
 | some k =>
  obtain ⟨hk, _, _, h4⟩ := idxC_some hi
  simp only [lookV, h4] at hK
  rw [idxI_some hi]
  have h0 : decide (0 ≤ (k : Int)) = true := by simp
  have e := elem_of hk
  refine i.ro (fun M hK => ?_) hK
  rw [WritesR_open] at *
  intro v hv
  have hK := hK v hv
  refine grf h0 ?_
  exact hK
theorem s_writes_Writes_Put [i : SelOb L WritesR b (most, cs) C] (hK : G w0 (C (ob WritesR b (most, if wErr most cs a = 0 then putC cs a x else cs))) (K (i64 (wErr most cs a)))) : G w0 L (CP Tryz.prog Fn.writes_Writes_Put [ptr b 0, i64 a, u64 x] K) := by
 refine i.use (fun M hK => ?_) hK
 refine C_writes_Writes_Put ?_
 unfold S_writes_Writes_Put
 try simp (maxSteps := 2000000) only [fuse_and, fuse_or, fuse_step, fuse_pair, fuse_in, andP_true]
 refine gr ?_
 refine G.cond (fun h => ?_) (fun h => ?_)
 ·have h0 : wErr most cs a = 2 := by unfold wErr; rw [if_neg]; rw [okAt_iff]; simp at h; omega
  rw [h0] at hK
  exact hK
 ·have ha : okAt a = true := by rw [okAt_iff]; simp at h; omega
  refine s_writes_Writes_find (cs := cs) (most := most) ?_
  cases hi : idxC cs a with
  | none =>
   rw [idxI_none hi]
   have e1 := (idxC_none hi).1 x
   rw [WritesR_open]
   rintro v ⟨hv, hw⟩
   have b1 : (cs.length : Int) ≤ most := hw.len
   have b2 : most ≤ 96 := hw.hi
   by_cases hm : most ≤ cs.length
   ·have h0 : wErr most cs a = 5 := by unfold wErr; rw [if_pos ha, hi]; simp [hm]
    rw [h0, if_neg (by decide), WritesR_open] at hK
    repeat' (first | (with_reducible refine G.joini0 ?_) | (with_reducible refine G.joini1 ?_) | (with_reducible refine G.drew ?_) | (simp (maxSteps := 2000000) only [↓RG, RP, RB, BEq.rfl, Int.reduceEq, Int.reduceLT, Int.reduceLE, Nat.reduceEqDiff, hm]))
    exact hK v ⟨hv, hw⟩
   ·have h0 : wErr most cs a = 0 := by unfold wErr; rw [if_pos ha, hi]; simp [hm]
    have hw2 := hw.put (x := x) h0
    rw [h0, if_pos rfl, WritesR_open] at hK
    repeat' (first | (with_reducible refine G.joini0 ?_) | (with_reducible refine G.joini1 ?_) | (with_reducible refine G.drew ?_) | (simp (maxSteps := 2000000) only [↓RG, RP, RB, BEq.rfl, Int.reduceEq, Int.reduceLT, Int.reduceLE, Nat.reduceEqDiff, hm]))
    refine G.append1 (E := tCellE) (a := ⟨a, x⟩) rfl rfl (by decide) (by omega) (by simp only [maxLen]; omega) fun u hu => ?_
    refine gr ?_
    have hK := hK u ⟨hu, hw2⟩
    simp only [e1] at hK
    exact hK
  | some k =>
   obtain ⟨hk, h2, h3, _⟩ := idxC_some hi
   have h0 : wErr most cs a = 0 := by unfold wErr; rw [if_pos ha, hi]; simp
   rw [idxI_some hi]
   have h5 : decide (0 ≤ (k : Int)) = true := by simp
   have e := elem_of hk
   rw [WritesR_open]
   rintro v ⟨hv, hw⟩
   have hw2 := hw.put (x := x) h0
   rw [h0, if_pos rfl, WritesR_open] at hK
   have hK := hK v ⟨hv, hw2⟩
   simp only [h3] at hK
   refine grf h5 ?_
   rw [h2]
   exact hK
theorem s_writes_Writes_All [i : SelOb L WritesR b (most, cs) C] (hK : ∀ u, Cells u [u] → G w0 (sl tCellE u cs :: L) (K u)) : G w0 L (CP Tryz.prog Fn.writes_Writes_All [ptr b 0] K) := by
 refine i.roN (fun M hK => ?_) hK
 rw [WritesR_open]
 rintro v ⟨hv, hw⟩
 have b1 : (cs.length : Int) ≤ most := hw.len
 have b2 : most ≤ 96 := hw.hi
 refine C_writes_Writes_All ?_
 unfold S_writes_Writes_All
 refine gr ?_
 refine s_slices_Clone_api_Cell_api_Cell (xs := cs) (by omega) fun u hu => ?_
 have := hK u hu
 rw [G_swap, WritesR_open] at this
 exact G.sub (this v ⟨hv, hw⟩)
theorem s_writes_Writes_Len [i : SelOb L WritesR b (most, cs) C] (hK : G w0 L (K (i64 cs.length))) : G w0 L (CP Tryz.prog Fn.writes_Writes_Len [ptr b 0] K) := by
 refine i.ro (fun M hK => ?_) hK
 rw [WritesR_open] at *
 intro v hv
 refine C_writes_Writes_Len ?_
 unfold S_writes_Writes_Len
 refine gr ?_
 exact hK v hv
theorem wPuts_drop {k : Nat} {z : List TCell} (hk : k < l.length) (hp : wPuts most cs l = wPuts most z (l.drop k)) :
  (wErr most z l[k].place = 0 → wPuts most cs l = wPuts most (putC z l[k].place l[k].word) (l.drop (k + 1))) ∧ (wErr most z l[k].place ≠ 0 → wPuts most cs l = (z, wErr most z l[k].place)) := by
 rw [List.drop_eq_getElem_cons hk, wPuts_cons] at hp
 exact ⟨fun h => by rw [hp, if_pos h], fun h => by rw [hp, if_neg h]⟩
theorem s_writes_Writes_Take {v : Value} [i : SelOb L WritesR b (most, cs) C] [r : ∀ A, Rd w0 (C A) v tCellE 2 l] (hl : l.length ≤ 1000000)
  (hK : G w0 (C (ob WritesR b (most, (wTake most cs l).1))) (K (i64 (wTake most cs l).2))) : G w0 L (CP Tryz.prog Fn.writes_Writes_Take [ptr b 0, v] K) := by
 refine G.okW (b := b) (most := most) (cs := cs) fun hw => ?_
 refine i.useM (fun M hM hK => ?_) hK
 have r' := Rd.frame hM r
 refine C_writes_Writes_Take ?_
 unfold S_writes_Writes_Take
 refine s_writes_Writes_All (cs := cs) (most := most) fun u hu => ?_
 refine gr ?_
 refine G.loop1 (σ := Nat × List TCell) (fun s => i64 s.1) (fun s => sl tCellE u cs :: ob WritesR b (most, s.2) :: M) (fun s => s.1 ≤ l.length ∧ wPuts most cs l = wPuts most s.2 (l.drop s.1)) (fun s => l.length - s.1) (0, cs) rfl rfl ⟨by simp, by simp⟩ ?_
 rintro ⟨k, z⟩ ⟨hk, hp⟩ J hJ
 simp only at hk hp hJ ⊢
 refine gr ?_
 refine G.cond (fun h => ?_) (fun h => ?_)
 ·have hk2 : k < l.length := by simpa using h
  have e := elem_of hk2
  obtain ⟨p1, p2⟩ := wPuts_drop hk2 hp
  refine gr ?_
  refine G.new fun q => ?_
  refine gr ?_
  refine s_writes_Writes_Put (cs := z) (most := most) ?_
  refine gr ?_
  refine G.cond (fun h => ?_) (fun h => ?_)
  ·have h0 : wErr most z l[k].place ≠ 0 := by simpa using h
   have p3 := p2 h0
   rw [if_neg h0]
   have h4 : wTake most cs l = (cs, wErr most z l[k].place) := by
    unfold wTake; rw [p3]; simp [h0]
   rw [h4, WritesR_open] at hK
   refine G.take1 WritesR b ?_
   rw [WritesR_open]
   rintro v2 ⟨hv2, _⟩
   refine gr ?_
   exact (hK u ⟨hu, hw⟩).sub
  ·have h0 : wErr most z l[k].place = 0 := by simpa using h
   rw [if_pos h0]
   refine gr ?_
   rw [wsucc (by omega)]
   exact (hJ (k + 1, putC z l[k].place l[k].word) ⟨hk2, p1 h0⟩ (by simp; omega)).sub
 ·have : l.drop k = [] := List.drop_eq_nil_of_le (by simpa using h)
  rw [this] at hp
  have h4 : wTake most cs l = (z, 0) := by
   unfold wTake; rw [hp]; simp [wPuts]
  rw [h4] at hK
  exact hK.sub
end
end Go.Proofs.YtoealglbimbbmaaGreatDoor.S
