import Derived.Test.YtoealglbimbbmaaGreatDoorLevels
namespace Go.Proofs.YtoealglbimbbmaaGreatDoor.S
open Go Go.Proofs
set_option linter.unusedVariables false
set_option linter.unusedSimpArgs false
structure VwS where
 size : Nat
 k : List TCell
 l : LvS
 need : Int
structure OkV (s : VwS) : Prop where
 lo : 32 ≤ s.size
 hi : s.size ≤ 256
 places : ∀ c ∈ s.k, 1 ≤ c.place ∧ c.place < s.size
 nodup : (s.k.map (·.place)).Nodup
def fact1 (k : List TCell) (a : Int) : TFact := match lookC k a with | some x => ⟨x, true⟩ | none => ⟨0, false⟩
def facts (k : List TCell) (n : Nat) : List TFact := (List.range n).map fun i : Nat => fact1 k i
def isV (s : VwS) (a : Int) : Bool := decide (1 ≤ a) && decide (a < s.size)
def vKnow (s : VwS) (a x : Int) : VwS × Int := if isV s a then (match lookC s.k a with | some y => (s, if y = x then 0 else 14) | none => (⟨s.size, s.k ++ [⟨a, x⟩], s.l, s.need⟩, 0)) else (s, 2)
def vRead (s : VwS) (a : Int) : VwS × Int × Int := if isV s a then (match lookR (s.l.r :: s.l.up) a with | some x => (s, x, 0) | none => match lookC s.k a with | some x => (s, x, 0) | none => (⟨s.size, s.k, s.l, a⟩, 0, 11)) else (s, 0, 2)
abbrev VwS.log (s : VwS) (l : LvS) : VwS := ⟨s.size, s.k, l, s.need⟩
abbrev lPut (s : LvS) (a x : Int) : LvS × Int := (if lErr s a = 0 then s.put a x else s, lErr s a)
def vWrite (s : VwS) (a x : Int) : VwS × Int := if isV s a then (s.log (lPut s.l a x).1, (lPut s.l a x).2) else (s, 2)
def vTake (s : VwS) (l : List TCell) : VwS × Int := if l.all (fun c => isV s c.place) then (s.log (lTake s.l l).1, (lTake s.l l).2) else (s, 2)
theorem isV_elim {s : VwS} {a : Int} (h : isV s a = true) : ∃ j : Nat, a = j ∧ 1 ≤ j ∧ j < s.size := by
 simp [isV] at h
 exact ⟨a.toNat, by omega, by omega, by omega⟩
theorem facts_elem {k : List TCell} {n j : Nat} (h : j < n) : Elem (facts k n) j (fact1 k j) := ⟨by simp [facts, h]⟩
theorem facts_len {k : List TCell} {n : Nat} : (facts k n).length = n := by simp [facts]
theorem lookC_append {k : List TCell} {a x b : Int} (h : lookC k a = none) : lookC (k ++ [⟨a, x⟩]) b = if a = b then some x else lookC k b := by
 have hi : idxC k a = none := by
  have := idxC_isSome (cs := k) (a := a)
  rw [h] at this
  simpa using this
 rw [← (idxC_none hi).1 x, lookC_put]
theorem facts_know {k : List TCell} {n j : Nat} {x : Int} (hj : j < n) (h : lookC k (j : Int) = none) : facts (k ++ [⟨j, x⟩]) n = (facts k n).set j ⟨x, true⟩ := by
 apply List.ext_getElem
 ·simp [facts]
 ·intro i h1 h2
  rw [List.getElem_set]
  simp only [facts, List.getElem_map, List.getElem_range]
  by_cases e : j = i
  ·subst e
   rw [if_pos rfl]
   unfold fact1
   rw [lookC_append h, if_pos rfl]
  ·have e' : ¬ (j : Int) = (i : Int) := by omega
   rw [if_neg e]
   unfold fact1
   rw [lookC_append h, if_neg e']
theorem facts_nil {n : Nat} : facts [] n = List.replicate n ⟨0, false⟩ := by
 apply List.ext_getElem
 ·simp [facts]
 ·intro i h1 h2; simp [facts, fact1, lookC]
theorem lookC_of {k : List TCell} (hn : (k.map (·.place)).Nodup) {i : Nat} (hi : i < k.length) : lookC k k[i].place = some k[i].word := by
 induction k generalizing i with
 | nil => simp at hi
 | cons c k ih =>
  rw [List.map_cons, List.nodup_cons] at hn
  cases i with
  | zero => simp [lookC]
  | succ i =>
   simp only [List.getElem_cons_succ, List.length_cons] at hi ⊢
   have hi' : i < k.length := by omega
   unfold lookC
   rw [if_neg (fun e => hn.1 (by rw [e]; exact List.mem_map.2 ⟨_, List.getElem_mem hi', rfl⟩))]
   exact ih hn.2 hi'
theorem OkV.know {s : VwS} {a x : Int} (h : OkV s) (hv : isV s a = true) (hl : lookC s.k a = none) : OkV ⟨s.size, s.k ++ [⟨a, x⟩], s.l, s.need⟩ := by
 obtain ⟨j, rfl, h1, h2⟩ := isV_elim hv
 refine ⟨h.lo, h.hi, fun c hc => ?_, ?_⟩
 ·rcases List.mem_append.1 hc with hc | hc
  ·exact h.places c hc
  ·rw [List.mem_singleton.1 hc]; simp only; omega
 ·have hi : idxC s.k (j : Int) = none := by
   have := idxC_isSome (cs := s.k) (a := (j : Int))
   rw [hl] at this
   simpa using this
  rw [List.map_append, List.nodup_append]
  refine ⟨h.nodup, by simp, fun p hp q hq => ?_⟩
  simp only [List.map_cons, List.map_nil, List.mem_singleton] at hq
  obtain ⟨c, hc, rfl⟩ := List.mem_map.1 hp
  rw [hq]
  exact (idxC_none hi).2.2 c hc
theorem OkV.log {s : VwS} {l : LvS} (h : OkV s) : OkV (s.log l) := ⟨h.lo, h.hi, h.places, h.nodup⟩
def ViewR (b : Nat) (s : VwS) : Asn := exA fun vf => exA fun vo => exA fun lp => star (pureA (Cells vf [vf] ∧ Cells vo [vo] ∧ OkV s)) (star (star (star (own b [vf, vo, ptr lp 0, i64 s.need]) (sl tFactE vf (facts s.k s.size))) (sl intE vo (s.k.map (·.place)))) (ob LevelsR lp s.l))
section
variable {w0 : Base} {L M : List Asn} {K : KV} {F : World → Prop} {C : Asn → List Asn} {b lp : Nat} {a x n : Int} {s : VwS} {v vf vo : Value}
theorem ViewR_open : G w0 (ob ViewR b s :: M) F = ∀ vf vo lp, (Cells vf [vf] ∧ Cells vo [vo] ∧ OkV s) → G w0 (own b [vf, vo, ptr lp 0, i64 s.need] :: sl tFactE vf (facts s.k s.size) :: sl intE vo (s.k.map (·.place)) :: ob LevelsR lp s.l :: M) F := by
 rw [ob_eq, ViewR]
 simp only [G_ex, G_star, G_pure]
theorem ViewR_close {fs : List TFact} {ps : List Int} (b lp : Nat) (s : VwS) [PickAll [own b [vf, vo, ptr lp 0, i64 s.need], sl tFactE vf fs, sl intE vo ps, ob LevelsR lp s.l] L M] (e1 : fs = facts s.k s.size) (e2 : ps = s.k.map (·.place)) (h : Cells vf [vf] ∧ Cells vo [vo] ∧ OkV s) (H : G w0 (ob ViewR b s :: M) F) : G w0 L F :=
 G.pickAll (As := [own b [vf, vo, ptr lp 0, i64 s.need], sl tFactE vf fs, sl intE vo ps, ob LevelsR lp s.l]) (by subst e1; subst e2; rw [ViewR_open] at H; exact H vf vo lp h)
theorem newV {w m : Int} {K' : KV} {lp : Nat} (hv : Cells vf [vf]) (hK : ∀ b, G w0 (ob ViewR b ⟨(held w 32 256).toNat, [], ⟨held m 0 96, ⟨[], []⟩, []⟩, 0⟩ :: L) (K' (ptr b 0))) :
  G w0 (sl tFactE vf (List.replicate (held w 32 256).toNat ⟨0, false⟩) :: ob LevelsR lp ⟨held m 0 96, ⟨[], []⟩, []⟩ :: L) (boxW (.agg #[vf, .slice none 0 0, ptr lp 0, i64 0]) K') := by
 have hb := held_le (n := w) (show (32 : Int) ≤ 256 by omega)
 refine G.nilsl intE ?_
 refine G.box (cs := [vf, .slice none 0 0, ptr lp 0, i64 0]) fun b => ?_
 refine ViewR_close (vf := vf) (vo := .slice none 0 0) b lp ⟨(held w 32 256).toNat, [], ⟨held m 0 96, ⟨[], []⟩, []⟩, 0⟩ facts_nil.symm (show ([] : List Int) = [] from rfl) ⟨hv, cells_slice, by show 32 ≤ (held w 32 256).toNat; omega, by show (held w 32 256).toNat ≤ 256; omega, by simp, by simp⟩ ?_
 exact hK b
theorem s_view_New {w m : Int} (hK : ∀ b, G w0 (ob ViewR b ⟨(held w 32 256).toNat, [], ⟨held m 0 96, ⟨[], []⟩, []⟩, 0⟩ :: L) (K (ptr b 0))) : G w0 L (CP Tryz.prog Fn.view_New [i64 w, i64 m] K) := by
 have hb := held_le (n := w) (show (32 : Int) ≤ 256 by omega)
 have e3 : (if (if (256 : Int) < w then (256 : Int) else w) > 32 then (if (256 : Int) < w then (256 : Int) else w) else 32) = ((held w 32 256).toNat : Int) := by
  unfold held; split <;> split <;> split <;> (try split) <;> omega
 refine C_view_New ?_
 unfold S_view_New
 refine G.drew ?_
 refine gr ?_
 rw [e3]
 refine ⟨?_, ?_⟩
 ·refine G.make tFactE ⟨0, false⟩ rfl (by simp only [maxLen]; omega) (by omega) fun v hv => ?_
  refine gg ?_
  refine s_levels_New fun lp => ?_
  refine gg ?_
  refine G.take1 (slR tFactE) v ?_
  refine newV hv fun b => ?_
  refine gr ?_
  exact hK b
 ·refine s_levels_New fun lp => ?_
  refine gg ?_
  refine G.make tFactE ⟨0, false⟩ rfl (by simp only [maxLen]; omega) (by omega) fun v hv => ?_
  refine gg ?_
  refine newV hv fun b => ?_
  refine gr ?_
  exact hK b
theorem s_view_Need [i : SelOb L ViewR b s C] (hK : G w0 L (K (i64 s.need))) : G w0 L (CP Tryz.prog Fn.view_View_Need [ptr b 0] K) := by
 refine i.ro (fun M hK => ?_) hK
 rw [ViewR_open] at *
 intro vf vo lp h
 have hK := hK vf vo lp h
 refine C_view_View_Need ?_
 unfold S_view_View_Need
 refine gr ?_
 exact hK
theorem s_view_is [i : SelOb L ViewR b s C] (hK : G w0 L (K (.bool (isV s a)))) : G w0 L (CP Tryz.prog Fn.view_View_is [ptr b 0, i64 a] K) := by
 refine i.ro (fun M hK => ?_) hK
 rw [ViewR_open] at *
 intro vf vo lp h
 have hK := hK vf vo lp h
 have hl := facts_len (k := s.k) (n := s.size)
 refine C_view_View_is ?_
 unfold S_view_View_is
 try simp (maxSteps := 2000000) only [fuse_and, fuse_or, fuse_step, fuse_pair, fuse_in, andP_true]
 refine grf hl ?_
 refine G.all (decide (a < s.size)) (fun _ K hK => by refine grf hl ?_; exact hK) ?_
 exact hK
theorem s_view_Write [i : SelOb L ViewR b s C] (hK : G w0 (C (ob ViewR b (vWrite s a x).1)) (K (i64 (vWrite s a x).2))) : G w0 L (CP Tryz.prog Fn.view_View_Write [ptr b 0, i64 a, u64 x] K) := by
 refine i.use (fun M hK => ?_) hK
 refine C_view_View_Write ?_
 unfold S_view_View_Write
 refine s_view_is (s := s) ?_
 unfold vWrite at hK
 cases hv : isV s a with
 | false =>
  rw [hv] at hK
  refine gr ?_
  exact hK
 | true =>
  rw [hv, if_pos rfl] at hK
  rw [ViewR_open]
  rintro vf vo lp ⟨h1, h2, h3⟩
  refine gr ?_
  refine s_levels_Levels_Put (b := lp) (s := s.l) ?_
  refine ViewR_close b lp (s.log (lPut s.l a x).1) rfl rfl ⟨h1, h2, h3.log⟩ ?_
  exact hK
theorem s_view_Open [i : SelOb L ViewR b s C] (hK : G w0 (C (ob ViewR b (s.log (lOpen s.l).1))) (K (i64 (lOpen s.l).2))) : G w0 L (CP Tryz.prog Fn.view_View_Open [ptr b 0] K) := by
 refine i.use (fun M hK => ?_) hK
 refine C_view_View_Open ?_
 unfold S_view_View_Open
 rw [ViewR_open]
 rintro vf vo lp ⟨h1, h2, h3⟩
 refine gr ?_
 refine s_levels_Levels_Open (b := lp) (s := s.l) ?_
 refine ViewR_close b lp (s.log (lOpen s.l).1) rfl rfl ⟨h1, h2, h3.log⟩ ?_
 exact hK
theorem s_view_Drop [i : SelOb L ViewR b s C] (hK : G w0 (C (ob ViewR b (s.log (lDrop s.l).1))) (K (i64 (lDrop s.l).2))) : G w0 L (CP Tryz.prog Fn.view_View_Drop [ptr b 0] K) := by
 refine i.use (fun M hK => ?_) hK
 refine C_view_View_Drop ?_
 unfold S_view_View_Drop
 rw [ViewR_open]
 rintro vf vo lp ⟨h1, h2, h3⟩
 refine gr ?_
 refine s_levels_Levels_Drop (b := lp) (s := s.l) ?_
 refine ViewR_close b lp (s.log (lDrop s.l).1) rfl rfl ⟨h1, h2, h3.log⟩ ?_
 exact hK
theorem s_view_Keep [i : SelOb L ViewR b s C] (hf : s.l.frees.length ≤ 1000000) (hK : G w0 (C (ob ViewR b (s.log (lKeep s.l).1))) (K (i64 (lKeep s.l).2))) : G w0 L (CP Tryz.prog Fn.view_View_Keep [ptr b 0] K) := by
 refine i.use (fun M hK => ?_) hK
 refine C_view_View_Keep ?_
 unfold S_view_View_Keep
 rw [ViewR_open]
 rintro vf vo lp ⟨h1, h2, h3⟩
 refine gr ?_
 refine s_levels_Levels_Keep (b := lp) (s := s.l) hf ?_
 refine ViewR_close b lp (s.log (lKeep s.l).1) rfl rfl ⟨h1, h2, h3.log⟩ ?_
 exact hK
theorem s_view_Cells [i : SelOb L ViewR b s C] (hK : ∀ u, Cells u [u] → G w0 (sl tCellE u s.l.cells :: L) (K u)) : G w0 L (CP Tryz.prog Fn.view_View_Cells [ptr b 0] K) := by
 refine i.roN (fun M hK => ?_) hK
 refine C_view_View_Cells ?_
 unfold S_view_View_Cells
 rw [ViewR_open]
 rintro vf vo lp ⟨h1, h2, h3⟩
 refine gr ?_
 refine s_levels_Levels_Cells (b := lp) (s := s.l) fun u hu => ?_
 refine gr ?_
 refine ViewR_close b lp s rfl rfl ⟨h1, h2, h3⟩ ?_
 exact (hK u hu).sub
theorem s_view_Frees [i : SelOb L ViewR b s C] (hf : s.l.frees.length ≤ 1000000) (hK : ∀ u, Cells u [u] → G w0 (sl intE u s.l.frees :: L) (K u)) : G w0 L (CP Tryz.prog Fn.view_View_Frees [ptr b 0] K) := by
 refine i.roN (fun M hK => ?_) hK
 refine C_view_View_Frees ?_
 unfold S_view_View_Frees
 rw [ViewR_open]
 rintro vf vo lp ⟨h1, h2, h3⟩
 refine gr ?_
 refine s_levels_Levels_Frees (b := lp) (s := s.l) hf fun u hu => ?_
 refine gr ?_
 refine ViewR_close b lp s rfl rfl ⟨h1, h2, h3⟩ ?_
 exact (hK u hu).sub
theorem s_view_Know [i : SelOb L ViewR b s C] (hk : s.k.length ≤ 1000000) (hK : G w0 (C (ob ViewR b (vKnow s a x).1)) (K (i64 (vKnow s a x).2))) : G w0 L (CP Tryz.prog Fn.view_View_Know [ptr b 0, i64 a, u64 x] K) := by
 refine i.use (fun M hK => ?_) hK
 refine C_view_View_Know ?_
 unfold S_view_View_Know
 refine s_view_is (s := s) ?_
 unfold vKnow at hK
 cases hv : isV s a with
 | false =>
  rw [hv] at hK
  refine gr ?_
  exact hK
 | true =>
  rw [hv, if_pos rfl] at hK
  obtain ⟨j, rfl, hj1, hj2⟩ := isV_elim hv
  rw [ViewR_open]
  rintro vf vo lp ⟨h1, h2, h3⟩
  have e := facts_elem (k := s.k) hj2
  cases hl : lookC s.k (j : Int) with
  | some y =>
   rw [show fact1 s.k (j : Int) = ⟨y, true⟩ by unfold fact1; rw [hl]] at e
   rw [hl] at hK
   dsimp only at hK
   refine gr ?_
   refine G.new fun q => ?_
   by_cases hy : y = x
   ·rw [if_pos hy, ViewR_open] at hK
    refine grf hy ?_
    exact (hK vf vo lp ⟨h1, h2, h3⟩).sub
   ·rw [if_neg hy, ViewR_open] at hK
    refine grf hy ?_
    exact (hK vf vo lp ⟨h1, h2, h3⟩).sub
  | none =>
   rw [show fact1 s.k (j : Int) = ⟨0, false⟩ by unfold fact1; rw [hl]] at e
   rw [hl] at hK
   dsimp only at hK
   have h4 := h3.know (x := x) hv hl
   refine gr ?_
   refine G.new fun q => ?_
   refine gr ?_
   refine G.append1 (E := intE) (a := (j : Int)) rfl rfl (by decide) (by simp; omega) (by simp only [maxLen, List.length_map]; omega) fun u hu => ?_
   refine gr ?_
   refine ViewR_close b lp ⟨s.size, s.k ++ [⟨j, x⟩], s.l, s.need⟩ (facts_know hj2 hl).symm (show s.k.map (·.place) ++ [(j : Int)] = (s.k ++ [(⟨j, x⟩ : TCell)]).map (fun c : TCell => c.place) by simp) ⟨h1, hu, h4⟩ ?_
   exact hK.sub
theorem s_view_Read [i : SelOb L ViewR b s C] (hK : G w0 (C (ob ViewR b (vRead s a).1)) (K (.tuple #[u64 (vRead s a).2.1, i64 (vRead s a).2.2]))) : G w0 L (CP Tryz.prog Fn.view_View_Read [ptr b 0, i64 a] K) := by
 refine i.use (fun M hK => ?_) hK
 refine C_view_View_Read ?_
 unfold S_view_View_Read
 refine s_view_is (s := s) ?_
 unfold vRead at hK
 cases hv : isV s a with
 | false =>
  rw [hv] at hK
  refine gr ?_
  exact hK
 | true =>
  rw [hv, if_pos rfl] at hK
  obtain ⟨j, rfl, hj1, hj2⟩ := isV_elim hv
  rw [ViewR_open]
  rintro vf vo lp ⟨h1, h2, h3⟩
  have e := facts_elem (k := s.k) hj2
  refine gr ?_
  refine s_levels_Levels_Get (b := lp) (s := s.l) ?_
  unfold lookRV
  cases hr : lookR (s.l.r :: s.l.up) (j : Int) with
  | some y =>
   rw [hr] at hK
   dsimp only at hK
   rw [ViewR_open] at hK
   refine gr ?_
   exact hK vf vo lp ⟨h1, h2, h3⟩
  | none =>
   rw [hr] at hK
   dsimp only at hK
   cases hl : lookC s.k (j : Int) with
   | some y =>
    rw [show fact1 s.k (j : Int) = ⟨y, true⟩ by unfold fact1; rw [hl]] at e
    rw [hl] at hK
    dsimp only at hK
    rw [ViewR_open] at hK
    refine gr ?_
    refine G.new fun q => ?_
    refine gr ?_
    exact (hK vf vo lp ⟨h1, h2, h3⟩).sub
   | none =>
    rw [show fact1 s.k (j : Int) = ⟨0, false⟩ by unfold fact1; rw [hl]] at e
    rw [hl] at hK
    dsimp only at hK
    rw [ViewR_open] at hK
    refine gr ?_
    refine G.new fun q => ?_
    refine gr ?_
    exact (hK vf vo lp ⟨h1, h2, h3.lo, h3.hi, h3.places, h3.nodup⟩).sub
theorem s_view_Known [i : SelOb L ViewR b s C] (hk : s.k.length ≤ 1000000) (hK : ∀ u, Cells u [u] → G w0 (sl tCellE u s.k :: L) (K u)) : G w0 L (CP Tryz.prog Fn.view_View_Known [ptr b 0] K) := by
 refine i.roN (fun M hK => ?_) hK
 refine C_view_View_Known ?_
 unfold S_view_View_Known
 rw [ViewR_open]
 rintro vf vo lp ⟨h1, h2, h3⟩
 have hll : (s.k.map (·.place)).length = s.k.length := by simp
 refine grf hll ?_
 refine G.make2 (l := 0) (c := s.k.length) tCellE ⟨0, 0⟩ rfl (by omega) (by simp only [maxLen]; omega) (by omega) fun u hu => ?_
 refine grf hll ?_
 refine G.loop2 (σ := Value × Nat) (fun z => z.1) (fun z => i64 z.2) (fun z => sl tCellE z.1 (s.k.take z.2) :: own b [vf, vo, ptr lp 0, i64 s.need] :: sl tFactE vf (facts s.k s.size) :: sl intE vo (s.k.map (·.place)) :: ob LevelsR lp s.l :: M) (fun z => z.2 ≤ s.k.length ∧ Cells z.1 [z.1]) (fun z => s.k.length - z.2) (u, 0) rfl rfl rfl ⟨by simp, hu⟩ ?_
 rintro ⟨u, j⟩ ⟨hj, hu⟩ J hJ
 simp only at hj hu hJ ⊢
 refine gr ?_
 refine G.cond (fun h => ?_) (fun h => ?_)
 ·have hj2 : j < s.k.length := by simpa using h
  have e1 : Elem (s.k.map (·.place)) j s.k[j].place := ⟨by simp [hj2]⟩
  have hp := h3.places _ (List.getElem_mem hj2)
  obtain ⟨m, hm⟩ := Int.eq_ofNat_of_zero_le (show 0 ≤ s.k[j].place by omega)
  have ix : IxI s.k[j].place m := ⟨hm⟩
  have e2 := facts_elem (k := s.k) (n := s.size) (j := m) (by omega)
  have hlk := lookC_of h3.nodup hj2
  rw [show fact1 s.k (m : Int) = ⟨s.k[j].word, true⟩ by unfold fact1; rw [← hm, hlk]] at e2
  refine gr ?_
  refine G.append1 (E := tCellE) (a := s.k[j]) rfl rfl (by decide) (by simp; omega) (by simp only [maxLen, List.length_take]; omega) fun u2 hu2 => ?_
  refine gr ?_
  rw [wsucc (by omega)]
  have h := hJ (u2, j + 1) ⟨hj2, hu2⟩ (by simp; omega)
  have ek : s.k.take (j + 1) = s.k.take j ++ [s.k[j]] := by rw [List.take_add_one, List.getElem?_eq_getElem hj2]; rfl
  simp only [ek] at h
  exact h.sub
 ·have ht : s.k.take j = s.k := List.take_of_length_le (by simpa using h)
  rw [ht]
  refine ViewR_close b lp s rfl rfl ⟨h1, h2, h3⟩ ?_
  exact (hK u hu).sub
end
end Go.Proofs.YtoealglbimbbmaaGreatDoor.S
